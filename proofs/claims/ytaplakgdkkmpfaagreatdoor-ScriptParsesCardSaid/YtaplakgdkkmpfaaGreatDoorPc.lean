import Derived.Test.YtaplakgdkkmpfaaGreatDoorPb
set_option linter.unusedVariables false
set_option linter.unusedSimpArgs false
namespace Go.Proofs.YtaplakgdkkmpfaaGreatDoor
open Go Go.RowKit Go.Shelf Go.SL Go.Maps Go.WideMaps
def goP (V:Aa->Option Bool) (L:Aa->Option ByteArray):Nat->List (List UInt8)->List Aa->Option (List Aa×Int×Int)
 | _,[],out=>some (out,0,0)
 | k,l::r,out=>match Df V L ⟨l.toArray⟩ with
  | none=>none
  | some none=>some ([],(k:Int),74)
  | some (some c)=>goP V L (k+1) r (out++[c])
def Jv (V:Aa->Option Bool) (L:Aa->Option ByteArray) (x:ByteArray):Option (List Aa×Int×Int):=
 bif decide (x.size<=1000000) then bif decide (80<(Aq x.data.toList).length) then some ([],80,2) else goP V L 0 (Aq x.data.toList) [] else none
theorem M3:∀ l:List UInt8,(Aq l).length<=l.length
 | []=>ae _
 | c::r=>by
  have:=M3 r
  rw [Dz]
  cases c==10 with
  | true=>simp;omega
  | false=>
   simp only [cond_false]
   split
   ·simp
   ·rename_i l ls e
    rw [e] at this
    simp at this ⊢
    omega
def Cx (w:World) (B:Nat):List Aa->List Value->Prop
 | [],[]=>True
 | c::cs,k::v::xs=>k = .int .i64 c.Kind/\D3 w B v c.Numbers/\Cx w B cs xs
 | _,_=>False
theorem Cx.imp {w w':World} {B B':Nat} (h:∀ v ns,D3 w B v ns->D3 w' B' v ns):∀ {cs:List Aa} {xs:List Value},Cx w B cs xs->Cx w' B' cs xs
 | [],[],_=>trivial
 | c::cs,k::v::xs,⟨h1,h2,h3⟩=>⟨h1,h _ _ h2,h3.imp h⟩
 | [],_::_,q=>q.elim
 | _::_,[],q=>q.elim
 | _::_,[_],q=>q.elim
theorem Cx.snoc {w:World} {B:Nat} {c:Aa} {k v:Value} (h1:k = .int .i64 c.Kind) (h2:D3 w B v c.Numbers):∀ {cs:List Aa} {xs:List Value},Cx w B cs xs->Cx w B (cs++[c]) (xs++[k,v])
 | [],[],_=>⟨h1,h2,trivial⟩
 | _::_,_::_::_,⟨a,b,d⟩=>⟨a,b,d.snoc h1 h2⟩
 | [],_::_,q=>q.elim
 | _::_,[],q=>q.elim
 | _::_,[_],q=>q.elim
theorem N6 {w w':World} {B:Nat} {e:TypeId} {z n:Nat} {v:Value} {xs:List Value} {row:Option Nat} (h:w.ownsRow B e z v n xs) (hg:w.grownBy w' row) (hr:∀ g,row=some g->∀ cur fr,w.heap[g]? ≠ some (.cells cur e fr)):w'.ownsRow B e z v n xs:=by
 refine h.kept hg ?_
 rcases h.2 with⟨rfl,_⟩ | ⟨g,cap,cur,rfl,_,hb,_⟩
 ·exact .inl rfl
 ·exact .inr λ e=>hr g (by simpa [Value.ownBlock] using e.symm) _ _ hb
theorem Yi {w:World} {B:Nat} {v:Value} {ns:List Int} (h:D3 w B v ns):∃ a n c,v = .slice a n c:=by
 rcases h.2 with⟨e,_⟩ | ⟨g,cap,cur,e,_⟩
 ·exact⟨_,_,_,e⟩
 ·exact⟨_,_,_,e⟩
theorem Ya (w:World) (a:Obj) (x y:Value) (t:TypeId) (j:Nat) (u:Value) (h:[x,y][j]? = some u):((w.alloc a).alloc (.cells #[x,y] t)).cell? ((⟨w.heap.size+1,0,none⟩:Addr).add j)=some u:=by
 have hh:=World.alloc_heap_new (w.alloc a) (.cells #[x,y] t)
 rw [World.size_alloc] at hh
 rw [A3,aQ]
 simp only [World.cell?,hh]
 match j,h with
 | 0,h=>simpa using h
 | 1,h=>simpa using h
 | j+2,h=>simp at h
theorem Ye {w:World} {B:Nat} {e:TypeId} {z n:Nat} {v:Value} {xs:List Value} (h:w.ownsRow B e z v n xs) (g:Nat) (hg:v.ownBlock=some g):∃ cur,w.heap[g]? = some (.cells cur e (0,0)):=by
 rcases h.2 with⟨rfl,_⟩ | ⟨g',cap,cur,rfl,_,hb,_⟩
 ·simp [Value.ownBlock] at hg
 ·simp [Value.ownBlock] at hg
  subst hg
  exact⟨cur,hb⟩
theorem szC:∃ i,Tryz.prog.info? 26=some i/\i.zero=some (.agg #[.int .i64 0,.slice none 0 0])/\i.size=2/\i.bytes=32:=by
 have h1:(Tryz.prog.info? 26).map (·.size)=some 2:=by kernel_rfl
 have h2:(Tryz.prog.info? 26).map (·.bytes)=some 32:=by kernel_rfl
 have h3:(Tryz.prog.info? 26).bind (·.zero)=some (.agg #[.int .i64 0,.slice none 0 0]):=by kernel_rfl
 obtain⟨i,h⟩:∃ i,Tryz.prog.info? 26=some i:=by
  cases hq:Tryz.prog.info? 26 with
  | none=>rw [hq] at h1;cases h1
  | some i=>exact⟨i,rfl⟩
 rw [h] at h1 h2 h3
 exact⟨i,h,by simpa using h3,by simpa using h1,by simpa using h2⟩
theorem Lh {w:World} {B:Nat} {v:Value} {ls:List (List UInt8)} (h:w.ownsRow B 9 1 v ls.length (ls.map encStr)) :
  ∃ la lc,v = .slice la ls.length lc/\∀ (i:Nat) l,ls[i]? = some l->∃ g,la=some ⟨g,0,none⟩/\B<=g/\g<w.heap.size/\w.cell? ⟨g,i,none⟩=some (.string ⟨l.toArray⟩):=by
 rcases h.2 with⟨rfl,h0⟩ | ⟨g,cap,cur,rfl,hB,hg,h1,h2,h3,h4⟩
 ·exact⟨none,0,by rw [h0],λ i l hi=>by
   have:ls=[]:=bZ.1 h0
   rw [this] at hi
   simp at hi⟩
 ·refine⟨_,cap,rfl,λ i l hi=>⟨g,rfl,hB,(aI.1 hg).1,?_⟩⟩
  simp only [World.cell?,hg]
  have e2:(cur.toList.take (ls.length*1))[i]? = some (.string ⟨l.toArray⟩):=by rw [h4,al,hi];rfl
  rw [au] at e2
  split at e2
  ·rw [bD] at e2;simpa using e2
  ·cases e2
def qC (B:Nat) (w':World) (e:Ending) (r:List Aa×Int×Int):Prop:=
 ∃ v xs,e = .returned (.tuple #[v,.int .i64 r.2.1,.int .i64 r.2.2])/\w'.ownsRow B 26 2 v r.1.length xs/\Cx w' B r.1 xs
theorem Yx {V:Aa->Option Bool} {L:Aa->Option ByteArray} {k:Nat} {l:List UInt8} {ls:List (List UInt8)} {out:List Aa} {r} (h:goP V L k (l::ls) out=some r):∃ p,Df V L ⟨l.toArray⟩=some p/\match p with
  | none=>r=([],(k:Int),74)
  | some c=>goP V L (k+1) ls (out++[c])=some r:=by
 unfold goP at h
 cases hp:Df V L ⟨l.toArray⟩ with
 | none=>rw [hp] at h;cases h
 | some p=>
  rw [hp] at h
  refine⟨p,rfl,?_⟩
  cases p with
  | none=>exact (aP h).symm
  | some c=>exact h
set_option maxRecDepth 100000 in
set_option maxHeartbeats 4000000 in
theorem Su (V : Aa -> Option Bool) (L : Aa -> Option ByteArray)
    (hV:∀ c r,V c=some r->CallOk Tryz.prog 13 [.agg (d26 c)] [] (.d (.p (.v (.bool r)))) [])
    (hL:∀ c r,L c=some r->CallOk Tryz.prog 26 [.agg (d26 c)] [] (.d (.p (.v (.string r)))) [])
    (s:ByteArray) (r:List Aa×Int×Int) (h:Jv V L s=some r) (w:World) (hg:Dn (D8 w) w) :
    Calls Tryz.prog 20 #[.string s] w λ e w'=>Below w.heap.size w w'/\qC w.heap.size w' e r:=by
  unfold Jv at h
  cases hsz:decide (s.size<=1000000) with
  | false=>rw [hsz] at h;cases h
  | true=>
  rw [hsz] at h
  simp only [cond_true,cR] at h hsz
  have hll:=M3 s.data.toList
  rw [←Lib.size_eq] at hll
  obtain⟨ls,hls⟩:∃ ls,Aq s.data.toList=ls:=⟨_,rfl⟩
  rw [hls] at h hll
  have col:=λ (W:World) bx hbx=>Rt W bx s hbx (by omega) (by rw [hls];omega)
  rw [hls] at col
  go_enter Tryz.func20,Tryz.ntmps20
  go_wp2_with (first
    | (go_at_call 34;refine (jB _ s).mono ?_;rintro e w1 ⟨rfl,rfl⟩)
    | (go_at_call 33; refine (col _ _ (World.alloc_heap_new _ _)).mono ?_; rintro e w1 ⟨lv, s', rfl, hlr, hb1⟩
       obtain⟨la,lc,rfl,hlc⟩:=Lh hlr
       go_frame)
    | (go_at_call 35;refine (jD _).mono ?_;rintro e w2 ⟨rfl,hm2,hb2⟩)
    | go_in)
  · have hlt:80<ls.length:=by omega
    rw [cT hlt] at h
    simp only [cond_true,ah] at h
    subst h
    go_ret3
    exact⟨(((Below.refl _ w).alloc (ae _) _).setCell (p:=⟨w.heap.size,0,none⟩) (ae _) _).trans (hb1.mono (by simp)),_,[],rfl,World.ownsRow_nil _ _ _ _,trivial⟩
  · have hle : ls.length <= 80 := by omega
    rw [cU (by omega)] at h
    simp only [cond_false] at h
    have hB1:Below w.heap.size w w1:=(((Below.refl _ w).alloc (ae _) _).setCell (p:=⟨w.heap.size,0,none⟩) (ae _) _).trans (hb1.mono (by simp))
    have hB2:=hB1.trans (hb2.mono hB1.size)
    have hl2:=ownsRow_base_a (base':=w.heap.size) (B6 hlr hb2) (by simp)
    clear hb1 hlr hlc col
    go_loopw [21,7] (λ i o wr=>∃ (k:Nat) (out:List Aa) (xs:List Value),k<=ls.length/\i = .int .i64 k/\goP V L k (ls.drop k) out=some r/\wr.ownsRow w.heap.size 26 2 o out.length xs/\Cx wr w.heap.size out xs/\out.length=k /\
      wr.ownsMap Tryz.prog 9 (plainElem Tryz.prog 3) w1.heap.size 8 (E7 8)/\wr.ownsRow w.heap.size 9 1 (.slice la ls.length lc) ls.length (ls.map encStr)/\Below w.heap.size w wr/\w1.heap.size<wr.heap.size) (λ i _ _=>ls.length-(intOf i).toNat)
    case atStart=>exact⟨0,[],[],by omega,rfl,h,World.ownsRow_nil _ _ _ _,trivial,rfl,hm2,hl2,hB2,hm2.lt⟩
    case round =>
      obtain⟨k,out,xs,hk,rfl,hgo,hro,hcr,hol,hm,hlr,hb,hwl⟩:=hrel
      clear hm2 hl2 hB2 hB1 hb2 h
      by_cases hlt:k<ls.length
      · obtain ⟨l, hl⟩ : ∃ l, ls[k]? = some l := ⟨_, am hlt⟩
        rw [List.drop_eq_getElem_cons hlt] at hgo
        have hl':ls[k]=l:=by rw [am hlt] at hl;exact aP hl
        rw [hl'] at hgo
        obtain⟨p,hp,hgo⟩:=Yx hgo
        obtain⟨la',lc',e,hcell⟩:=Lh hlr
        cases e
        obtain⟨g,rfl,hgB,hgl,hcx⟩:=hcell k l hl
        have pg:=Yg V L hV hL _ p hp w1.heap.size wr hm (E9 hg hb)
        cases p with
        | none=>
          simp only at hgo
          subst hgo
          clear hV hL hg hcell hl hl' hp
          go_wp2_with (first
            | (go_at_call 36;refine pg.mono ?_;rintro e w3 ⟨hb3,q1,q2,q3,q4,rfl⟩;go_frame)
            | go_in)
          go_ret3
          exact⟨(hb.trans (hb3.mono hb.size)).alloc (by have:=hb.size;have:=hb3.size;omega) _,_,[],rfl,World.ownsRow_nil _ _ _ _,trivial⟩
        | some c =>
          simp only at hgo
          obtain⟨i0,hi,hz0,hz1,hz2⟩:=szC
          have hws:=hb.size
          clear hV hL hg hcell hl hl' hp
          go_wp2_with (first
            | (go_at_call 36; refine pg.mono ?_; rintro e w3 ⟨hb3, nv, rfl, hnr⟩
               obtain⟨na,nn,nc,rfl⟩:=Yi hnr
               have hr3:=B6 hro hb3
               have hs3:=hb3.size
               go_frame)
            | (at_builtin;refine wpList_append_own _ rfl _ _ 23 rfl w.heap.size 26 i0 (.agg #[.int .i64 0,.slice none 0 0]) 2 32 Tryz.underlying23 hi hz0 hz1 hz2 rfl (by decide) _ _ _ rfl ((hr3.alloc _).alloc _) ⟨w3.heap.size+1,0,none⟩ 1 1 [.int .i64 c.Kind,.slice na nn nc] rfl rfl ?c1 ?c2 ?c3 ?c4 ?c5 ?_)
            | go_in)
          case c1=>exact λ j u hj=>Ya _ _ _ _ _ j u hj
          case c2=>intro u hu;simp at hu;rcases hu with rfl | rfl <;> rfl
          case c3=>unfold maxLen;omega
          case c4=>omega
          case c5=>simp;omega
          intro v' w4 hown' hgrow _
          obtain⟨A2,hA2⟩:∃ A2,(w3.alloc (Obj.cells #[.int .i64 c.Kind,.slice na nn nc] 26)).alloc (Obj.cells #[.int .i64 c.Kind,.slice na nn nc] 26)=A2:=⟨_,rfl⟩
          have hA:Below w3.heap.size w3 A2:=by rw [←hA2];exact ((Below.refl _ w3).alloc (ae _) _).alloc (by simp) _
          have hs4:=hgrow.size
          rw [World.size_alloc,World.size_alloc] at hs4
          rw [hA2] at hgrow
          have hrk:∀ q,u7.ownBlock=some q->∃ cur,A2.heap[q]? = some (.cells cur 26 (0,0)):=λ q e=>by
            obtain⟨cur,hc⟩:=Ye hr3 q e
            exact⟨cur,(hA.block q (aI.1 hc).1).trans hc⟩
          have hbad:∀ (e:TypeId),e≠26->∀ g,u7.ownBlock=some g->∀ cur fr,A2.heap[g]? ≠ some (.cells cur e fr):=λ e he g hg cur fr hc=>by
            obtain⟨cur',hc'⟩:=hrk g hg
            rw [hc] at hc'
            injection hc' with q
            injection q with _ q2 _
            exact he q2
          have R1:Cx w4 w.heap.size (out++[c]) (xs++[.int .i64 c.Kind,.slice na nn nc]):=by
            refine Cx.snoc rfl (N6 (ownsRow_base_a (B6 hnr hA) (by omega)) hgrow (hbad 3 (by decide))) (hcr.imp λ v ns h=>?_)
            exact N6 (B6 (B6 h hb3) hA) hgrow (hbad 3 (by decide))
          have R2:=N6 (B6 (B6 hlr hb3) hA) hgrow (hbad 9 (by decide))
          have R3:=(hb.trans (hb3.mono hb.size)).trans (hA.mono (by omega))
          have R4:=R3.grown hgrow R3.size (λ q e=>(hr3.lt q e).1)
          have hm4:w4.ownsMap Tryz.prog 9 (plainElem Tryz.prog 3) w1.heap.size 8 (E7 8):=by
            have m3:=Oz hm ((hA.block _ (by omega)).trans (hb3.block _ hwl))
            refine m3.kept hgrow λ e=>?_
            obtain⟨cur,hc⟩:=hrk _ e.symm
            obtain⟨es,clock,hb',_⟩:=m3
            rw [hb'] at hc
            cases hc
          clear hgrow hbad hrk hA R3 hA2
          go_wp2
          go_roundw
          case rel=>exact⟨k+1,out++[c],_,by omega,by go_num,hgo,by simpa [hol] using hown',R1,by simp [hol],hm4,R2,R4,by omega⟩
          case measure=>simp [intOf];omega
      · obtain rfl:k=ls.length:=by omega
        rw [List.drop_length] at hgo
        have hr:=(aP hgo).symm
        subst hr
        go_wp2
        go_ret3
        exact⟨hb,_,xs,rfl,hro,hcr⟩
end Go.Proofs.YtaplakgdkkmpfaaGreatDoor
