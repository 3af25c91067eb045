import Derived.Maps.AppendAt
import Derived.Deep.RegionHeld3
import Derived.Test.YtaplakgdkkmpfaaGreatDoorPa
set_option linter.unusedVariables false
set_option linter.unusedSimpArgs false
namespace Go.Proofs.YtaplakgdkkmpfaaGreatDoor
open Go Go.RowKit Go.Shelf Go.SL Go.Maps Go.WideMaps
theorem Le (sep:ByteArray) (save:Nat):∀ (k:Nat) (s x:ByteArray),x∈Lib.splitB sep save k s->x.size<=s.size
 | 0,s,x,h=>by simp [Lib.splitB] at h;subst h;exact ae _
 | k+1,s,x,h=>by
  unfold Lib.splitB at h
  split at h
  ·simp at h;subst h;exact ae _
  ·rcases ag.1 h with rfl | h
   ·rw [ByteArray.size_extract];omega
   ·have:=Le sep save k _ x h
    rw [ByteArray.size_extract] at this
    omega
def Cy:List ByteArray->Option (List Int)
 | []=>some []
 | b::r=>match Lib.atoiAll b.data.toList with
  | .ok v=>(Cy r).map (v :: ·)
  | _=>none
theorem Qu:∀ {r:List ByteArray} {k:Nat} {ns:List Int} {b:ByteArray} {v:Int},Cy (r.take k)=some ns->r[k]? = some b->Lib.atoiAll b.data.toList = .ok v->Cy (r.take (k+1))=some (ns++[v])
 | [],k,ns,b,v,_,h,_=>by simp at h
 | c::r,0,ns,b,v,h1,h2,h3=>by
  simp at h2;subst h2
  simp [Cy] at h1;subst h1
  simp [Cy,h3]
 | c::r,k+1,ns,b,v,h1,h2,h3=>by
  simp only [List.take_succ_cons,Cy] at h1 ⊢
  cases hc:Lib.atoiAll c.data.toList with
  | ok u=>
   rw [hc] at h1
   simp only at h1 ⊢
   obtain⟨m,hm,rfl⟩:=Option.map_eq_some_iff.1 h1
   rw [Qu hm (by simpa using h2) h3]
   rfl
  | «syntax»=>rw [hc] at h1;cases h1
  | range=>rw [hc] at h1;cases h1
theorem O2:∀ {r:List ByteArray} {k:Nat} {b:ByteArray},r[k]? = some b->(∀ v,Lib.atoiAll b.data.toList ≠ .ok v)->Cy r=none
 | [],k,b,h,_=>by simp at h
 | c::r,0,b,h2,h3=>by
  simp at h2;subst h2
  unfold Cy
  split
  ·exact absurd (by assumption) (h3 _)
  ·rfl
 | c::r,k+1,b,h2,h3=>by
  unfold Cy
  split
  ·rw [O2 (r:=r) (k:=k) (by simpa using h2) h3];rfl
  ·rfl
theorem O1:∀ {r:List ByteArray} {ns:List Int},Cy r=some ns->ns.length=r.length
 | [],ns,h=>by simp [Cy] at h;subst h;rfl
 | c::r,ns,h=>by
  unfold Cy at h
  split at h
  ·obtain⟨m,hm,rfl⟩:=Option.map_eq_some_iff.1 h
   simp [O1 hm]
  ·cases h
def D4 (s:ByteArray):ByteArray:=⟨(Lib.trimSuffix s.data.toList [10]).toArray⟩
def Ru (s:ByteArray):Option Aa:=match C8 (D4 s) with
 | []=>none
 | w::r=>(Cy r).map λ ns=>⟨Gs w.data.toList,ns⟩
def Df (V : Aa -> Option Bool) (L : Aa -> Option ByteArray) (s : ByteArray) : Option (Option Aa) :=
 bif decide (s.size<=1000000) then match Ru s with
  | none=>some none
  | some c=>match V c with
   | none=>none
   | some false=>some none
   | some true=>match L c with
    | none=>none
    | some t=>some (bif t.toList==s.toList then some c else none)
 else none
abbrev D8 (w:World) (b:Nat):Prop:=b<w.heap.size
theorem CallOk.plain {f:FuncId} {vs:List Value} {args:List AV} {x:Value} {w:World} (h:CallOk Tryz.prog f args [] (.d (.p (.v x))) []) (hg:Dn (D8 w) w) (hv:Ae (RdA (D8 w) w []) vs args) :
  Calls Tryz.prog f vs.toArray w λ e w'=>e = .returned x/\Below w.heap.size w w':=by
 refine (h (D8 w) w [] vs ⟨rfl,λ i r v hr=>(by simp at hr),λ i j r r' v v' b _ hr=>(by simp at hr),λ i r v b hr=>(by simp at hr),λ b hb=>hb,hg⟩ hv).mono ?_
 rintro e w' ⟨v,S',ρ',rfl,hr,hI⟩
 have:=hr.exact_inv
 subst this
 refine⟨rfl,hI.os,hI.tape,hI.output,hI.size,λ k hk=>hI.frm k hk ?_⟩
 rintro⟨i,r,v,hr,_⟩
 simp at hr
theorem Yb (s:ByteArray):(D4 s).size<=s.size:=by
 unfold D4 Lib.trimSuffix
 split
 ·rw [Lib.size_eq,Lib.size_eq]
  show (List.take _ _).length<=_
  rw [aB]
  exact Nat.min_le_right _ _
 ·exact ae _
theorem szI:∃ i,Tryz.prog.info? 3=some i/\i.zero=some (.int .i64 0)/\i.size=1/\i.bytes=8:=by
 have h1:(Tryz.prog.info? 3).map (·.size)=some 1:=by kernel_rfl
 have h2:(Tryz.prog.info? 3).map (·.bytes)=some 8:=by kernel_rfl
 have h3:(Tryz.prog.info? 3).bind (·.zero)=some (.int .i64 0):=by kernel_rfl
 obtain⟨i,h⟩:∃ i,Tryz.prog.info? 3=some i:=by
  cases hq:Tryz.prog.info? 3 with
  | none=>rw [hq] at h1;cases h1
  | some i=>exact⟨i,rfl⟩
 rw [h] at h1 h2 h3
 exact⟨i,h,by simpa using h3,by simpa using h1,by simpa using h2⟩
theorem vA (w:World):(zeroValue 3).run Tryz.prog w = .ok (.int .i64 0) w:=by kernel_rfl
def D3 (w:World) (B:Nat) (v:Value) (ns:List Int):Prop:=w.ownsRow B 3 1 v ns.length (ns.map λ x=>.int .i64 x)
def qE (e:Ending):Prop:=∃ k a n c,e = .returned (.tuple #[.agg #[.int .i64 k,.slice a n c],.bool false])
def Ty (m:Nat):Nat:=if m=0 then 0 else 1
theorem Yd (b m:Nat) (w:World):(Instr.slice 46 (.slice (some ⟨b,0,none⟩) (m+1) (m+1)) (some (.int .i64 1)) none none).run Tryz.prog w = .ok (.slice (some ⟨b,Ty m,none⟩) m m) w:=by
 cases m with
 | zero=>kernel_rfl
 | succ m=>
  have:=run_underlying Tryz.underlying46
  simp [go_sem,Instr.slice,this,Ty]
  intro h
  omega
attribute [local go_sem high] Yd
theorem gES : Tryz.prog.globalNamed "strconv.ErrSyntax" = some 1 := by kernel_rfl
theorem gER : Tryz.prog.globalNamed "strconv.ErrRange" = some 2 := by kernel_rfl
theorem vH {S : Nat -> Prop} {w : World} (h : Dn S w) : U5 w "strconv.ErrSyntax" := by
 obtain⟨_,u,p,t,fr,hb⟩:=h.2 1 rfl
 refine⟨u,p,?_⟩
 unfold World.var?
 rw [gES]
 simp [hb]
theorem vI {S : Nat -> Prop} {w : World} (h : Dn S w) : U5 w "strconv.ErrRange" := by
 obtain⟨_,u,p,t,fr,hb⟩:=h.2 2 rfl
 refine⟨u,p,?_⟩
 unfold World.var?
 rw [gER]
 simp [hb]
theorem E9 {w w':World} (h:Dn (D8 w) w) (hb:Below w.heap.size w w'):Dn (D8 w') w':=h.mono (λ b hb'=>aF hb' hb.size) λ b hb'=>hb.block b hb'
theorem Vx (w:World) (a b c:Obj):(((w.alloc a).alloc b).alloc c).heap[w.heap.size]? = some a/\(((w.alloc a).alloc b).alloc c).heap[w.heap.size+1]? = some b/\(((w.alloc a).alloc b).alloc c).heap[w.heap.size+2]? = some c:=by
 have h1:=World.alloc_heap_new (w.alloc a) b
 have h2:=World.alloc_heap_new ((w.alloc a).alloc b) c
 rw [World.size_alloc] at h1 h2
 rw [World.size_alloc] at h2
 refine⟨?_,?_,h2⟩
 ·exact (Below.heap_alloc _ _ _ (by simp;omega)).trans ((Below.heap_alloc _ _ _ (by simp)).trans (World.alloc_heap_new w a))
 ·exact (Below.heap_alloc _ _ _ (by simp)).trans h1
theorem Rz {w w':World} (h:Below w.heap.size w w'):w.grownBy w' none:=⟨h.os,h.tape,h.output,h.size,λ k hk _=>h.block k hk⟩
theorem B6 {w w':World} {B:Nat} {e:TypeId} {z:Nat} {v:Value} {n:Nat} {xs:List Value} (h:w.ownsRow B e z v n xs) (hb:Below w.heap.size w w'):w'.ownsRow B e z v n xs:=by
 refine h.kept (Rz hb) ?_
 cases v.ownBlock with
 | none=>exact .inl rfl
 | some g=>exact .inr (by simp)
theorem Ry (w:World) (b o:Nat) (v:Value):w.grownBy (w.setCell ⟨b,o,none⟩ v) (some b):=
 ⟨rfl,rfl,rfl,(by simp),λ k _ hk=>Below.heap_setCell _ _ _ k (λ e=>hk (by rw [e]))⟩
theorem Kt {w:World} {b:Nat} {x y:Value} {t:TypeId} (v:Value) (h:w.heap[b]? = some (.cells #[x,y] t (0,0))):(w.setCell ⟨b,1,none⟩ v).heap[b]? = some (.cells #[x,v] t (0,0)):=by
 obtain⟨hlt,hk⟩:=aI.1 h
 show (w.heap.modify b _)[b]? = _
 rw [bJ (by rw [Array.size_modify];exact hlt),Array.getElem_modify_self,hk]
 rfl
theorem Lx {w:World} {b:Nat} {x y:Value} {t:TypeId} (v:Value) (h:w.heap[b]? = some (.cells #[x,y] t (0,0))):(w.setCell ⟨b,0,none⟩ v).heap[b]? = some (.cells #[v,y] t (0,0)):=by
 obtain⟨hlt,hk⟩:=aI.1 h
 show (w.heap.modify b _)[b]? = _
 rw [bJ (by rw [Array.size_modify];exact hlt),Array.getElem_modify_self,hk]
 rfl
theorem D1 {w:World} {b:Nat} {x y:Value} {t:TypeId} {f:Nat×Nat} (h:w.heap[b]? = some (.cells #[x,y] t f)):w.cell? ⟨b,0,none⟩=some x:=by simp [World.cell?,h]
theorem Dm {w:World} {b:Nat} {x y:Value} {t:TypeId} {f:Nat×Nat} (h:w.heap[b]? = some (.cells #[x,y] t f)):w.cell? ⟨b,1,none⟩=some y:=by simp [World.cell?,h]
theorem Yf (a:Act) (w:World) {b:Nat} {k v x:Value} (h4:a.tmps.getD 4 undef = .pointer (some ⟨b,0,none⟩)) (h5:a.tmps.getD 5 undef=x) (c0:w.cell? ⟨b,0,none⟩=some k) (c1:w.cell? ⟨b,1,none⟩=some v) :
  (results Tryz.f36 a.tmps).run Tryz.prog w = .ok (.tuple #[.agg #[k,v],x]) w:=by
 simp only [aV] at h4 h5
 have s:=Tryz.sizeOf26
 have g:=Tryz.isAgg26
 simp [results,h4,h5,go_sem,s,g,c0,c1]
theorem Tm {S:Nat->Prop} {w:World} {B:Nat} {v:Value} {ns:List Int} (h:D3 w B v ns) (hS:∀ g,B<=g->g<w.heap.size->S g):RdP S w v (.s (ns.map pI)):=by
 have hl:(ns.map pI).length=ns.length:=by simp
 rcases h.2 with⟨rfl,h0⟩ | ⟨g,cap,cur,rfl,hB,hg,h1,h2,h3,h4⟩
 ·have:ns=[]:=bZ.1 h0
  subst this
  exact .s none ⟨0,0,none⟩ 0 0 [] (λ _ _=>undef) (ae _) (ba _) (λ _=>rfl) (by simp) (by simp) (by simp)
 ·have hlt:g<w.heap.size:=(aI.1 hg).1
  have key:=RdP.s (S:=S) (w:=w) (some ⟨g,0,none⟩) ⟨g,0,none⟩ cap 1 (ns.map pI) (λ i _=>.int .i64 (ns.getD i 0)) (by rw [hl];exact h1) h2 (λ h=>by cases h)
   (λ row hr=>by obtain⟨x,_,rfl⟩:=aK.1 hr;rfl)
   (λ i row hi j d hj => by
    rw [al] at hi
    obtain⟨x,hx,rfl⟩:=A5 hi
    match j,hj with
    | 0,hj=>
     refine⟨rfl,hS g hB hlt,?_⟩
     rw [A3]
     simp only [World.cell?,hg]
     have e1:cur.toList[i]? = some (.int .i64 x):=by
      have e2:(cur.toList.take (ns.length*1))[i]? = some (.int .i64 x):=by rw [h4,al,hx];rfl
      rw [au] at e2
      split at e2
      ·exact e2
      ·cases e2
     rw [bD] at e1
     simpa [List.getD_eq_getElem?_getD,hx] using e1)
   (λ i row hi j d hj=>by
    rw [al] at hi
    obtain⟨x,hx,rfl⟩:=A5 hi
    match j,hj with
    | 0,hj=>
     simp only [pI,List.getElem?_cons_zero,ah] at hj
     subst hj
     rw [bL,hx]
     exact .v _ rfl)
  rw [hl] at key
  exact key
theorem qR {w:World} {B:Nat} {v:Value} {ns:List Int} (h:D3 w B v ns):RdP (D8 w) w v (.s (ns.map pI)):=Tm h λ g _ hg=>hg
theorem Wj {w:World} {B:Nat} {c:Int} {v:Value} {ns:List Int} (h:D3 w B v ns):Ae (RdA (D8 w) w []) [.agg #[.int .i64 c,v]] [.agg (d26 ⟨c,ns⟩)]:=
 ⟨.agg (vs:=[.int .i64 c,v]) ⟨.p (.v _ rfl),.p (qR h),trivial⟩,trivial⟩
theorem uG {w:World} {b:Nat} {x y k v:Value} {t:TypeId} (h:w.heap[b]? = some (.cells #[x,y] t (0,0))):((w.setCell ⟨b,0,none⟩ k).setCell ⟨b,1,none⟩ v).cell? ⟨b,0,none⟩=some k:=D1 (Kt v (Lx k h))
theorem uF {w:World} {b:Nat} {x y k v:Value} {t:TypeId} (h:w.heap[b]? = some (.cells #[x,y] t (0,0))):((w.setCell ⟨b,0,none⟩ k).setCell ⟨b,1,none⟩ v).cell? ⟨b,1,none⟩=some v:=Dm (Kt v (Lx k h))
theorem uE {B b:Nat} {w w1:World} {k v:Value} (h:Below B w w1) (hB:B<=b):Below B w ((w1.setCell ⟨b,0,none⟩ k).setCell ⟨b,1,none⟩ v):=(h.setCell (p:=⟨b,0,none⟩) hB _).setCell (p:=⟨b,1,none⟩) hB _
theorem Ys {w:World} {B b:Nat} {v:Value} {n:Nat} {xs:List Value} {x y:Value} (h:w.ownsRow B 3 1 v n xs) (hb:b<B):((w.setCell ⟨b,0,none⟩ x).setCell ⟨b,1,none⟩ y).ownsRow B 3 1 v n xs:=by
 have ne:v.ownBlock=none\/v.ownBlock≠some b:=by
  cases hq:v.ownBlock with
  | none=>exact .inl rfl
  | some g=>exact .inr λ e=>by have:=(h.lt g hq).1;cases e;omega
 exact (h.kept (Ry _ _ _ _) ne).kept (Ry _ _ _ _) ne
def qF (w w':World) (e:Ending):Option Aa->Prop
 | none=>qE e
 | some c=>∃ v,e = .returned (.tuple #[.agg #[.int .i64 c.Kind,v],.bool true])/\D3 w' w.heap.size v c.Numbers
set_option maxRecDepth 100000 in
set_option maxHeartbeats 4000000 in
theorem Yg (V : Aa -> Option Bool) (L : Aa -> Option ByteArray)
    (hV:∀ c r,V c=some r->CallOk Tryz.prog 13 [.agg (d26 c)] [] (.d (.p (.v (.bool r)))) [])
    (hL:∀ c r,L c=some r->CallOk Tryz.prog 26 [.agg (d26 c)] [] (.d (.p (.v (.string r)))) [])
    (s:ByteArray) (r:Option Aa) (h:Df V L s=some r) (b:Nat) (w:World) (hm:w.ownsMap Tryz.prog 9 (plainElem Tryz.prog 3) b 8 (E7 8)) (hg:Dn (D8 w) w) :
    Calls Tryz.prog 36 #[.string s,.map (some b)] w λ e w'=>Below w.heap.size w w'/\qF w w' e r:=by
  unfold Df at h
  cases hsz:decide (s.size<=1000000) with
  | false=>rw [hsz] at h;cases h
  | true=>
  rw [hsz] at h
  simp only [cond_true,cR] at h hsz
  have mixed:Tryz.prog.follows .mixedOrders=true:=by kernel_rfl
  have htr:=Yb s
  obtain⟨w0,ws,hws⟩:∃ w0 ws,C8 (D4 s)=w0::ws:=by
    have:=Ij (D4 s)
    cases hq:C8 (D4 s) with
    | nil=>rw [hq] at this;cases this
    | cons a l=>exact⟨a,l,rfl⟩
  have hwsz:∀ x,x∈w0::ws->x.size<=1000000:=λ x hx=>by
    have:=Le Cw 0 _ _ x (by rw [←hws] at hx;exact hx)
    omega
  have hwl:ws.length<=1000000:=by
    have h1:=Ij (D4 s)
    have h2:=Lib.countB_le Cw (by decide) (D4 s).size (D4 s) (ae _)
    rw [hws,ap] at h1
    omega
  have hkey:keyOf Tryz.prog 9 (.string w0)=some (.string w0.data.toList):=keyOf_string_mk Tryz.underlying9 (by have:=hwsz w0 ak;unfold maxLen;omega)
  unfold Ru at h
  rw [hws] at h
  simp only at h
  have sp:=Z6 (D4 s)
  rw [hws] at sp
  have ts:=Tryz.strings_TrimSuffix s ⟨#[10]⟩
  go_enter Tryz.func36,Tryz.ntmps36
  go_wp2_with (first
    | (go_at_call 49;refine (ts _ (by omega)).mono ?_;rintro e w1 ⟨rfl,rfl⟩)
    | (go_at_call 48;refine (sp _ (by omega)).mono ?_;rintro e w1 ⟨rfl,rfl⟩)
    | (at_lookup;refine wpList_lookup_own_int _ rfl _ _ 100 rfl 9 3 .i64 qZ Tryz.underlying100 Tryz.underlying3 (vA _) b 8 _ rfl ((hm.alloc _).alloc _) _ _ rfl hkey ?_;intro c hat hwc)
    | go_in)
  have hc0:=jG _ _ hat
  obtain⟨W,hW⟩:∃ W,(((w.alloc (.cells #[.int .i64 0,.slice none 0 0] 26)).alloc (.cells (Value.string w0::List.map Value.string ws).toArray 9)).alloc (.cells #[.int .i64 c,.slice none 0 0] 26))=W:=⟨_,rfl⟩
  have hWs:W.heap.size=w.heap.size+3:=by rw [←hW];simp
  obtain⟨hW0,hW1,hW2⟩:W.heap[w.heap.size]? = some (.cells #[.int .i64 0,.slice none 0 0] 26 (0,0))/\W.heap[w.heap.size+1]? = some (.cells (Value.string w0::List.map Value.string ws).toArray 9 (0,0))/\W.heap[w.heap.size+2]? = some (.cells #[.int .i64 c,.slice none 0 0] 26 (0,0)):=by
    rw [←hW];exact Vx w _ _ _
  have hWb:Below w.heap.size w W:=by
    rw [←hW]
    exact (((Below.refl _ w).alloc (ae _) _).alloc (by simp) _).alloc (by simp;omega) _
  rw [hW]
  clear hW hm hat hwc hkey sp ts htr mixed
  go_loopw [24] (λ i wr=>∃ (k:Nat) (ns:List Int) (nv:Value),k<=ws.length/\i = .int .i64 k/\Cy (ws.take k)=some ns/\wr.heap[w.heap.size+2]? = some (.cells #[.int .i64 c,nv] 26 (0,0)) /\
    wr.ownsRow (w.heap.size+3) 3 1 nv ns.length (ns.map λ x=>.int .i64 x)/\wr.heap[w.heap.size+1]? = some (.cells (Value.string w0::List.map Value.string ws).toArray 9 (0,0)) /\
    wr.heap[w.heap.size]? = some (.cells #[.int .i64 0,.slice none 0 0] 26 (0,0))/\Below w.heap.size w wr/\w.heap.size+3<=wr.heap.size) (λ i _=>ws.length-(intOf i).toNat)
  case atStart=>exact⟨0,[],_,by omega,rfl,rfl,hW2,World.ownsRow_nil _ _ _ _,hW1,hW0,hWb,by omega⟩
  case round =>
    obtain⟨k,ns,nv,hk,rfl,hns,h2,hrow,h1,h0,hb,hsz3⟩:=hrel
    clear hW2 hW1 hW0 hWb
    have b0:wr.cell? ⟨w.heap.size+2,0,none⟩=some (.int .i64 c):=by simp [World.cell?,h2]
    have b1:wr.cell? ⟨w.heap.size+2,1,none⟩=some nv:=by simp [World.cell?,h2]
    by_cases hlt:k<ws.length
    · obtain ⟨x, hx⟩ : ∃ x, ws[k]? = some x := ⟨_, am hlt⟩
      have d0:wr.cell? ⟨w.heap.size+1,Ty ws.length+k,none⟩=some (.string x):=by
        have:Ty ws.length=1:=if_neg (by omega)
        rw [this]
        simp only [World.cell?,h1]
        rw [Nat.add_comm 1 k]
        simp [hx]
      have hxs:=hwsz x (ai _ (aq hx))
      have at0:=uO x wr (by omega) (vH (E9 hg hb)) (vI (E9 hg hb))
      by_cases hok:∃ v,Lib.atoiAll x.data.toList = .ok v
      · obtain⟨v,hq⟩:=hok
        rw [hq] at at0
        have hns2:=Qu hns hx hq
        obtain⟨i0,hi,hz0,hz1,hz2⟩:=szI
        have hnl:ns.length=k:=by rw [O1 hns,aB];omega
        clear hns hx hq hg hV hL h hwsz hws hc0 b0 b1
        go_wp2_with (first
          | (go_at_call 50; refine at0.mono ?_; rintro e w1 ⟨hb1, rfl⟩
             have hr1:=B6 hrow hb1
             have g2:=(hb1.block _ (by omega)).trans h2
             have g1:=(hb1.block _ (by omega)).trans h1
             have g0:=(hb1.block _ (by omega)).trans h0
             have hs1:=hb1.size
             have c1:w1.cell? ⟨w.heap.size+2,1,none⟩=some nv:=by simp [World.cell?,g2]
             go_frame)
          | (at_builtin;refine wpList_append_own _ rfl _ _ 22 rfl (w.heap.size+3) 3 i0 (.int .i64 0) 1 8 Tryz.underlying22 hi hz0 hz1 hz2 rfl (by decide) _ _ _ rfl (hr1.alloc _) ⟨w1.heap.size,0,none⟩ 1 1 [.int .i64 v] rfl rfl ?c1 ?c2 ?c3 ?c4 ?c5 ?_)
          | go_in)
        case c2=>rfl
        case c3=>unfold maxLen;omega
        case c4=>omega
        case c5=>omega
        intro v' w2 hown' hgrow _
        have hlt1:w.heap.size+2<w1.heap.size:=by omega
        have hnb:∀ q,q<w.heap.size+3->some q≠nv.ownBlock:=λ q hq e=>by have:=(hr1.lt q e.symm).1;omega
        have old2:∀ q,q<w.heap.size+3->w2.heap[q]? = w1.heap[q]?:=λ q hq=>by
          rw [hgrow.block q (by simp;omega) (hnb q hq),Below.heap_alloc _ _ _ (by omega)]
        have k2:=(old2 _ (by omega)).trans g2
        have k1:=(old2 _ (by omega)).trans g1
        have k0:=(old2 _ (by omega)).trans g0
        have e1:w2.cell? ⟨w.heap.size+2,1,none⟩=some nv:=by simp [World.cell?,k2]
        have f1:w2.frozen? ⟨w.heap.size+2,1,none⟩=false:=by simp [World.frozen?,k2]
        obtain⟨g',cap',rfl⟩:=ownsRow_succ hown'
        have hb2:Below w.heap.size w w2:=((hb.trans (hb1.mono hb.size)).alloc (by omega) _).grown hgrow (by simp;omega) (λ q e=>by have:=(hr1.lt q e).1;omega)
        have hs2:=hgrow.size
        rw [World.size_alloc] at hs2
        clear hgrow old2
        have q2:=Kt (.slice (some ⟨g',0,none⟩) (k+1) cap') k2
        have q1:=(Below.heap_setCell w2 ⟨w.heap.size+2,1,none⟩ (.slice (some ⟨g',0,none⟩) (k+1) cap') _ (show w.heap.size+1≠w.heap.size+2 by omega)).trans k1
        have q0:=(Below.heap_setCell w2 ⟨w.heap.size+2,1,none⟩ (.slice (some ⟨g',0,none⟩) (k+1) cap') _ (show w.heap.size≠w.heap.size+2 by omega)).trans k0
        have q3:=hb2.setCell (p:=⟨w.heap.size+2,1,none⟩) (show w.heap.size<=w.heap.size+2 by omega) (.slice (some ⟨g',0,none⟩) (k+1) cap')
        have q4:=hown'.kept (Ry w2 (w.heap.size+2) 1 (.slice (some ⟨g',0,none⟩) (k+1) cap')) (.inr (λ e=>by have:=(hown'.lt _ e).1;omega))
        have q5:w.heap.size+3<=(w2.setCell ⟨w.heap.size+2,1,none⟩ (.slice (some ⟨g',0,none⟩) (k+1) cap')).heap.size:=by simp;omega
        go_wp2
        go_roundw
        case rel=>
          refine⟨k+1,ns++[v],_,by omega,by go_num,hns2,q2,?_,q1,q0,q3,q5⟩
          rw [ay,aG,hnl,bO]
          exact q4
        case measure=>simp [intOf];omega
      · have hbad := O2 hx λ v hv => hok ⟨v, hv⟩
        rw [hbad] at h
        have hr:r=none:=(aP h).symm
        subst hr
        have at1:Calls Tryz.prog 50 #[.string x] wr λ e w'=>Below wr.heap.size wr w'/\∃ y t p,e = .returned (.tuple #[.int .i64 y,.iface t p]):=by
          refine at0.mono λ e w' ⟨q1,q2⟩=>⟨q1,?_⟩
          revert q2
          cases hq:Lib.atoiAll x.data.toList with
          | ok v=>exact absurd ⟨v,hq⟩ hok
          | «syntax»=>exact id
          | range=>exact id
        clear at0 hok hbad hns hx hg hV hL h hwsz hws hc0 b0 b1
        go_wp2_with (first
          | (go_at_call 50; refine at1.mono ?_; rintro e w1 ⟨hb1, y, t, p, rfl⟩
             have g0:=(hb1.block _ (by omega)).trans h0
             have c0:w1.cell? ⟨w.heap.size,0,none⟩=some (.int .i64 0):=by simp [World.cell?,g0]
             have c1:w1.cell? ⟨w.heap.size,1,none⟩=some (.slice none 0 0):=by simp [World.cell?,g0]
             have f0:w1.frozen? ⟨w.heap.size,0,none⟩=false:=by simp [World.frozen?,g0]
             have f1:w1.frozen? ⟨w.heap.size,1,none⟩=false:=by simp [World.frozen?,g0]
             go_frame)
          | go_in)
        have e0:=Lx (.int .i64 0) g0
        have e1:=Kt (.slice none 0 0) e0
        refine bodyPost_ret (Yf _ _ (b:=w.heap.size) rfl rfl (D1 e1) (Dm e1)) rfl ⟨?_,_,_,_,_,rfl⟩
        exact ((hb.trans (hb1.mono hb.size)).setCell (p:=⟨w.heap.size,0,none⟩) (ae _) _).setCell (p:=⟨w.heap.size,1,none⟩) (ae _) _
    · obtain rfl : k = ws.length := by omega
      rw [List.take_length] at hns
      rw [hns] at h
      simp only [bP,←hc0] at h
      have mixed:Tryz.prog.follows .mixedOrders=true:=by kernel_rfl
      obtain⟨na,nn,nc,rfl⟩:∃ a n c,nv = .slice a n c:=by
        rcases hrow.2 with⟨e,_⟩ | ⟨g,cap,cur,e,_⟩
        · exact⟨_,_,_,e⟩
        · exact⟨_,_,_,e⟩
      have cV:∀ vb,V ⟨c,ns⟩=some vb->∀ W1,Below wr.heap.size wr W1->Calls Tryz.prog 13 #[.agg #[.int .i64 c,.slice na nn nc]] W1 λ e w'=>e = .returned (.bool vb)/\Below W1.heap.size W1 w':=λ vb hvb W1 hW1=>
        CallOk.plain (hV _ _ hvb) (E9 hg (hb.trans (hW1.mono hb.size))) (Wj (B6 hrow hW1))
      have cL:∀ t,L ⟨c,ns⟩=some t->∀ W1,Below wr.heap.size wr W1->Calls Tryz.prog 26 #[.agg #[.int .i64 c,.slice na nn nc]] W1 λ e w'=>e = .returned (.string t)/\Below W1.heap.size W1 w':=λ t ht W1 hW1=>
        CallOk.plain (hL _ _ ht) (E9 hg (hb.trans (hW1.mono hb.size))) (Wj (B6 hrow hW1))
      cases hvb:V ⟨c,ns⟩ with
      | none=>rw [hvb] at h;cases h
      | some vb=>
      rw [hvb] at h
      have cV:=cV vb hvb
      clear hvb hV hL hg hwsz hws hc0 hns
      cases vb with
      | false=>
        have hr:r=none:=(aP h).symm
        subst hr
        clear cL h
        go_wp2
        have d0:=D1 h0
        have d1:=Dm h0
        have f0:wr.frozen? ⟨w.heap.size,0,none⟩=false:=by simp [World.frozen?,h0]
        have f1:wr.frozen? ⟨w.heap.size,1,none⟩=false:=by simp [World.frozen?,h0]
        refine wp_region_held_drew (S:=(λ w'=>w'.cell? ⟨w.heap.size+2,0,none⟩=some (.int .i64 c)/\w'.cell? ⟨w.heap.size+2,1,none⟩=some (.slice na nn nc))) (by kernel_rfl) ?_ (λ hHeld=>?_)
        · exact⟨b0,b1⟩
        refine wpAnyH_take (i:=0) (v:=?_) rfl (by kernel_rfl) (by kernel_rfl) (by kernel_rfl) (λ _ _ _ h=>h) (Or.inl ⟨by rfl,?_⟩) (by assumption) ?_
        rotate_left
        · intro w hSw
          (try dsimp only at hSw)
          go_simp
          try with_reducible rfl
        try simp only [Act.put,aW,bg,aX]
        refine wpAnyH_take (i:=1) (v:=?_) rfl (by kernel_rfl) (by kernel_rfl) (by kernel_rfl) (λ _ _ _ h=>h) (Or.inl ⟨by rfl,?_⟩) (by assumption) ?_
        rotate_left
        · intro w hSw
          (try dsimp only at hSw)
          go_simp
          try with_reducible rfl
        try simp only [Act.put,aW,bg,aX]
        refine wpAnyH_ready (rs:=[2]) (by kernel_rfl) (by simp) ?_
        refine AllReadyH.cons rfl (λ K hK=>?_) AllReadyH.nil
        go_simp
        go_at_call 13
        refine (cV _ (by first | exact Below.refl _ _ | exact (Below.refl _ _).drew)).mono ?_
        rintro e w1 ⟨rfl,hb1⟩
        have hb5:Below wr.heap.size wr w1:=((Below.refl wr.heap.size wr).drew).trans hb1
        have m2:=(hb1.block (w.heap.size+2) (show w.heap.size+2<wr.heap.size by omega)).trans h2
        have m0:=(hb1.block w.heap.size (show w.heap.size<wr.heap.size by omega)).trans h0
        have c0:=D1 m2
        have c1:=Dm m2
        have d0:=D1 m0
        have d1:=Dm m0
        have f0:w1.frozen? ⟨w.heap.size,0,none⟩=false:=by simp [World.frozen?,m0]
        have f1:w1.frozen? ⟨w.heap.size,1,none⟩=false:=by simp [World.frozen?,m0]
        go_frame
        refine hK.out _ _ ?_ (λ hHeld=>?_)
        · exact⟨c0,c1⟩
        clear hK K
        try simp only [Act.put,aW,bg,aX]
        refine wpAnyH_take (i:=3) (v:=?_) rfl (by kernel_rfl) (by kernel_rfl) (by kernel_rfl) (λ _ _ _ h=>h) (Or.inl ⟨by rfl,?_⟩) (by assumption) ?_
        rotate_left
        · intro w hSw
          (try dsimp only at hSw)
          go_simp
          try with_reducible rfl
        try simp only [Act.put,aW,bg,aX]
        refine wpAnyH_take (i:=4) rfl (by kernel_rfl) (by kernel_rfl) (by kernel_rfl) (λ _ _ _ h=>h) (Or.inr ⟨by rfl,rfl⟩) (by assumption) ?_
        try simp only [Act.put,aW,bg,aX]
        refine wpAnyH_take (i:=5) rfl (by kernel_rfl) (by kernel_rfl) (by kernel_rfl) (λ _ _ _ h=>h) (Or.inr ⟨by rfl,rfl⟩) (by assumption) ?_
        try simp only [Act.put,aW,bg,aX]
        refine wpAnyH_take (i:=6) rfl (by kernel_rfl) (by kernel_rfl) (by kernel_rfl) (λ _ _ _ h=>h) (Or.inr ⟨by rfl,rfl⟩) (by assumption) ?_
        try simp only [Act.put,aW,bg,aX]
        refine wpAnyH_take (i:=7) rfl (by kernel_rfl) (by kernel_rfl) (by kernel_rfl) (λ _ _ _ h=>h) (Or.inr ⟨by rfl,rfl⟩) (by assumption) ?_
        try simp only [Act.put,aW,bg,aX]
        refine wpAnyH_take (i:=8) (v:=?_) rfl (by kernel_rfl) (by kernel_rfl) (by kernel_rfl) (λ _ _ _ h=>h) (Or.inl ⟨by rfl,?_⟩) (by assumption) ?_
        rotate_left
        · intro w hSw
          (try dsimp only at hSw)
          go_simp
          try with_reducible rfl
        try simp only [Act.put,aW,bg,aX]
        refine wpAnyH_ready (rs:=[9]) (by kernel_rfl) (by simp) ?_
        refine AllReadyH.cons rfl (λ K hK=>?_) AllReadyH.nil
        go_simp
        refine hK.out _ _ ?_ (λ hHeld=>?_)
        · go_keep
        clear hK K
        try simp only [Act.put,aW,bg,aX]
        refine wpAnyH_ready (rs:=[10]) (by kernel_rfl) (by simp) ?_
        refine AllReadyH.cons rfl (λ K hK=>?_) AllReadyH.nil
        go_simp
        refine hK.out _ _ ?_ (λ hHeld=>?_)
        · assumption
        clear hK K
        try simp only [Act.put,aW,bg,aX]
        refine wpAnyH_done (by kernel_rfl) ?_ _
        all_goals go_wp2
        all_goals exact bodyPost_ret (Yf _ _ (b:=w.heap.size) rfl rfl (uG m0) (uF m0)) rfl ⟨uE (hb.trans (hb5.mono hb.size)) (ae _),_,_,_,_,rfl⟩
      | true=>
        cases ht:L ⟨c,ns⟩ with
        | none=>rw [ht] at h;cases h
        | some t=>
        rw [ht] at h
        have cL:=cL t ht
        have hr:=(aP h).symm
        clear h ht
        go_wp2
        have d0:=D1 h0
        have d1:=Dm h0
        have f0:wr.frozen? ⟨w.heap.size,0,none⟩=false:=by simp [World.frozen?,h0]
        have f1:wr.frozen? ⟨w.heap.size,1,none⟩=false:=by simp [World.frozen?,h0]
        first
          | go_region_held3 (λ w'=>w'.cell? ⟨w.heap.size+2,0,none⟩=some (.int .i64 c)/\w'.cell? ⟨w.heap.size+2,1,none⟩=some (.slice na nn nc))
            (first | exact⟨b0,b1⟩ | exact⟨c0,c1⟩ | go_keep)
            ((first
              | (go_at_call 13; refine (cV _ (by first | exact Below.refl _ _ | exact (Below.refl _ _).drew)).mono ?_
                 rintro e w1 ⟨rfl,hb1⟩
                 have hb5:Below wr.heap.size wr w1:=((Below.refl wr.heap.size wr).drew).trans hb1
                 have m2:=(hb1.block (w.heap.size+2) (show w.heap.size+2<wr.heap.size by omega)).trans h2
                 have m0:=(hb1.block w.heap.size (show w.heap.size<wr.heap.size by omega)).trans h0
                 have c0:=D1 m2
                 have c1:=Dm m2
                 have d0:=D1 m0
                 have d1:=Dm m0
                 have f0:w1.frozen? ⟨w.heap.size,0,none⟩=false:=by simp [World.frozen?,m0]
                 have f1:w1.frozen? ⟨w.heap.size,1,none⟩=false:=by simp [World.frozen?,m0]
                 go_frame)
              | (go_at_call 26; refine (cL _ (by first | exact hb5 | exact hb5.drew)).mono ?_
                 rintro e w3 ⟨rfl,hb3⟩
                 have hb6:Below wr.heap.size wr w3:=hb5.trans (hb3.mono hb5.size)
                 have m2:=(hb6.block (w.heap.size+2) (show w.heap.size+2<wr.heap.size by omega)).trans h2
                 have m0:=(hb6.block w.heap.size (show w.heap.size<wr.heap.size by omega)).trans h0
                 have c0:=D1 m2
                 have c1:=Dm m2
                 have d0:=D1 m0
                 have d1:=Dm m0
                 have f0:w3.frozen? ⟨w.heap.size,0,none⟩=false:=by simp [World.frozen?,m0]
                 have f1:w3.frozen? ⟨w.heap.size,1,none⟩=false:=by simp [World.frozen?,m0]
                 go_frame)))
          | fail
        all_goals go_wp2
        all_goals
          have hrw:=ownsRow_base_a (base':=w.heap.size) (Ys (B6 hrow hb6) (b:=w.heap.size) (x:=.int .i64 c) (y:=.slice na nn nc) (by omega)) (by omega)
          refine bodyPost_ret (Yf _ _ (b:=w.heap.size) rfl rfl (uG m0) (uF m0)) rfl ⟨uE (hb.trans (hb6.mono hb.size)) (ae _),?_⟩
          subst hr
          cases hq:t.toList==s.toList with
          | false=>exact⟨_,_,_,_,rfl⟩
          | true=>exact⟨_,rfl,hrw⟩
end Go.Proofs.YtaplakgdkkmpfaaGreatDoor
