import Derived.Test.YtiaaaghdkhnonaaGreatSlF
import Derived.Laws.StructEq
import Derived.Laws.BytesString
import Derived.Lib.ConvBytes
namespace Go.SL
section
variable {P:Program} {C:Ctx} {S:Nat->Prop} {w:World} {ρ:List Value} {R:List Res} {L:List Ent} {cur:C_} {a:Act}
theorem Alv {l:List AV} {ds:List D} (h:(l.mapM fun | .d x=>some x | _=>none)=some ds):l=ds.map AV.d:=by
 induction l generalizing ds with
 | nil=>simp at h;subst h;rfl
 | cons x l ih=>
  simp only [List.mapM_cons] at h
  cases x with
  | d y=>
   simp only [Option.bind_eq_bind,ac] at h
   obtain⟨es,h1,h2⟩:=Dk h
   grind
  | _=>simp at h
theorem An8 {vs:List Value} {ds:List D} (h:A5 (RdA S w ρ) vs (ds.map AV.d)):A5 (Rd S w ρ) vs ds:=by
 refine d4 (by simpa using h.length) λ j x d hx hd=>?_
 have:=h.both hx (by rw [az,hd];rfl)
 exact this.d_inv
theorem G1 {t e:TypeId} {k:IntKind} {n:Int} {sz:Nat} {b:Option Addr} {ad:Addr} {len cap:Nat} (hu:P.underlying t=some (.slice e)) (hs:B2 P e=some sz) (hb:b=some ad) (h0:0<=n) (h1:n<len) :
  (Instr.indexAt t (.slice b len cap) (.int k n)).run P w = .ok (.pointer (some (ad.add (n.toNat*sz)))) w:=by
 subst hb
 simp [Instr.indexAt,asIntOf,run_underlying hu,Co hs,h0,h1]
theorem qG {same:TypeId->AV->AV->Option Bool} {d:Nat} (hs:∀ (t:TypeId) (a b:AV) (z:Bool),same t a b=some z->∀ x y,RdA S w ρ x a->RdA S w ρ y b->(Op.equalIn d t x y).run P w = .ok z w) {vs us:List Value} :
  ∀ {fs:List Field} {ds es:List D} {z:Bool},qH P same fs ds es=some z->A5 (Rd S w ρ) vs ds->A5 (Rd S w ρ) us es->(Op.eqFields d vs.toArray us.toArray fs).run P w = .ok z w
 | [],ds,es,z,h,_,_=>by simp [qH] at h;subst h;simp [Op.eqFields]
 | f :: fs, ds, es, z, h, hv, hu => by
  simp only [qH] at h
  cases hn : (f.name == "_") with
  | true=>
   rw [hn] at h
   have : ¬ (f.name ≠ "_") := by simpa using hn
   simp only [Op.eqFields,if_neg this]
   exact qG hs h hv hu
  | false=>
   rw [hn] at h
   simp only [cond_false] at h
   have hne : f.name ≠ "_" := by simpa using hn
   split at h
   ·rename_i n e1
    split at h
    ·rename_i a b e2 e3
     split at h
     ·rename_i r q e4 e5
      simp at h;subst h
      obtain⟨x,hx,hrx⟩:=Pp (P:=P) hv e1 e2
      obtain⟨y,hy,hry⟩:=Pp (P:=P) hu e1 e3
      have h1:=hs _ _ _ _ e4 x y hrx hry
      have h2:=qG hs e5 hv hu
      simp only [Op.eqFields,if_pos hne,Sem.run_bind,hx,hy,h1,Result.andThen_ok]
      cases r with
      | true=>simpa using h2
      | false=>simp
     ·cases h
    ·cases h
   ·cases h
theorem Aca:∀ {m:Nat} {t:TypeId} {a b:AV} {z:Bool},eqA P m t a b=some z->∀ {N:Nat},m<=N->∀ {x y:Value},RdA S w ρ x a->RdA S w ρ y b->(Op.equalIn N t x y).run P w = .ok z w
 | 0,t,a,b,z,h,N,_,x,y,_,_=>by simp [eqA] at h
 | m + 1, t, a, b, z, h, N, hN, x, y, hx, hy => by
  obtain⟨N,rfl⟩:∃ q,N=q+1:=⟨N-1,by omega⟩
  simp only [eqA] at h
  split at h
  ·rename_i ht
   split at h
   ·simp at h;subst h
    rw [hx.exact_inv,hy.exact_inv]
    exact Go.run_equalIn_bool w N t _ _ ht
   ·cases h
  ·rename_i k ht
   split at h
   ·split at h
    ·rename_i hk
     subst hk
     simp at h;subst h
     rw [hx.exact_inv,hy.exact_inv]
     exact Go.run_equalIn_int w N t _ _ _ _ ht
    ·cases h
   ·cases h
  ·rename_i ht
   split at h
   ·simp at h;subst h
    rw [hx.exact_inv,hy.exact_inv]
    exact Go.run_equalIn_string w N t _ _ ht
   ·cases h
  ·rename_i fs ht
   split at h
   ·rename_i ds es
    cases hst:P.stoodInHeld t with
    | true=>rw [hst] at h;simp at h
    | false=>
     rw [hst] at h
     simp only [cond_false] at h
     obtain⟨vs,rfl,hvs⟩:=hx.agg_inv
     obtain⟨us,rfl,hus⟩:=hy.agg_inv
     have hfo:P.fieldsOf t=fs:=by simp [Program.fieldsOf,ht]
     rw [Go.run_equalIn_struct w N t _ _ (by rw [hfo];exact ht) hst,hfo]
     exact qG (λ t a b z h x y hx hy=>Aca h (by omega) hx hy) h hvs hus
   ·cases h
  ·cases h
theorem Mn {t e:TypeId} {m:Nat} {k:IntKind} {n:Nat} {sz:Nat} {ad:Addr} (hu:P.underlying t=some (.array m e)) (hs:B2 P e=some sz) (h1:n<m) :
  (Instr.indexAt t (.pointer (some ad)) (.int k (Int.ofNat n))).run P w = .ok (.pointer (some (ad.add (n*sz)))) w:=by
 have h0:(0:Int)<=Int.ofNat n/\Int.ofNat n<(m:Int):=⟨Int.natCast_nonneg _,by simpa using h1⟩
 have e:(Int.ofNat n).toNat=n:=rfl
 simp only [Instr.indexAt,asIntOf,Instr.sureAddr,Sem.run_bind,Sem.run_pure,Result.andThen_ok,run_underlying hu,Co hs,h0,and_self,if_true,e]
theorem RdP.cut {b:Option Addr} {len cap l h size:Nat} {rows:List (List Pd)} (hr:RdP S w (.slice b len cap) (.s rows)) (hl:l<=h) (hh:h<=len) (hz:∀ row,row∈rows->row.length=size) :
  RdP S w (.slice (if cap=l then b else b.map (·.add (l*size))) (h-l) (cap-l)) (.s ((rows.take h).drop l)):=by
 cases hr with
 | s _ ad _ sz _ xs hc hm hn hsz hx hrr =>
  have e:h-l=((rows.take h).drop l).length:=by simp;omega
  rw [e]
  by_cases hcl:cap=l
  ·have:((rows.take h).drop l)=[]:=by
    apply List.drop_eq_nil_of_le;simp;omega
   rw [this]
   refine .s _ ad (cap-l) size [] xs (by simp) (by omega) (λ hb=>?_) (by simp) (by simp) (by simp)
   omega
  ·rw [if_neg hcl]
   have hmem:∀ (i:Nat) row,((rows.take h).drop l)[i]? = some row->rows[l+i]? = some row:=by
    grind
   refine .s _ (ad.add (l*size)) (cap-l) size _ (λ i j=>xs (l+i) j) (by rw [←e];omega) (by omega) (λ hb=>?_) (λ row hrow=>?_) (λ i row hi j d hj=>?_) (λ i row hi j d hj=>?_)
   ·cases b with
    | none=>have:=hn rfl;omega
    | some x=>simp at hb
   ·exact hz row (bk (bX hrow))
   ·have hi':=hmem i row hi
    obtain⟨g1,g2,g3⟩:=hx _ row hi' j d hj
    have hss:sz=size:=by
     grind
    subst hss
    refine⟨by rw [g1];rfl,by rw [Gz];exact g2,?_⟩
    rw [P8,←g3]
    congr 2
    rw [aG];omega
   ·exact hrr _ row (hmem i row hi) j d hj
theorem Cn {k:IntKind} {n:Int} {y:Nat} {c:BoundsCode} (h0:0<=n) (h1:n<=y):(Instr.sliceBound (.int k n) y c).run P w = .ok n.toNat w:=by
 simp [Instr.sliceBound,asIntOf,h0,h1]
theorem Rd.o_inv {x:Value} {i off:Nat} (h:Rd S w ρ x (.o i off)):∃ b,x = .pointer (some ⟨b,off,none⟩)/\ρ[i]? = some (.pointer (some ⟨b,0,none⟩)):=by
 cases h with | o h=>exact⟨_,rfl,h⟩
theorem Rd.os_inv {x:Value} {i:Nat} (h:Rd S w ρ x (.os i)):ρ[i]? = some x:=by
 cases h with | os h _=>exact h
theorem Rd.oe_inv {x:Value} {i k size off:Nat} (h:Rd S w ρ x (.oe i k size off)):∃ b o len cap,x = .pointer (some ⟨b,o+k*size+off,none⟩)/\ρ[i]? = some (.slice (some ⟨b,o,none⟩) len cap):=by
 cases h with | oe h=>exact⟨_,_,_,_,rfl,h⟩
theorem Rd.ip_inv {x:Value} {cells:List Pd} (h:Rd S w ρ x (.ip cells)):∃ ad,x = .pointer (some ad)/\E1 S w ad cells:=by
 cases h with | ip h=>exact⟨_,rfl,h⟩
theorem Rd.p_inv {x:Value} {y:Pd} (h:Rd S w ρ x (.p y)):RdP S w x y:=by
 cases h with | p h=>exact h
theorem Rd.fn_inv {x:Value} {f:Fn} {first caps:List D} (h:Rd S w ρ x (.fn f first caps)):∃ xs cs:List Value,x = .func f xs.toArray cs.toArray/\A5 (Rd S w ρ) xs first/\A5 (Rd S w ρ) cs caps:=by
 cases h with | fn hl hm hx hc=>exact⟨_,_,rfl,d4 hl hx,d4 hm hc⟩
theorem RdA.tup_inv {x:Value} {l:List AV} (h:RdA S w ρ x (.tup l)):∃ vs:List Value,x = .tuple vs.toArray/\A5 (RdA S w ρ) vs l:=by
 cases h with | tup hl h=>exact⟨_,rfl,d4 hl h⟩
theorem Mf {i g k size:Nat}:∀ {l:List Pd} {off j:Nat} {d:D},(Ij i g k size off l)[j]? = some d->∃ p,l[j]? = some p/\((∃ x,p = .v x/\d = .p (.v x))\/∃ r,p = .s r/\d = .oi i g k size (off+j))
 | [],off,j,d,h=>by simp [Ij] at h
 | .v x::r,off,j,d,h=>by
  simp only [Ij] at h
  cases j with
  | zero=>grind
  | succ j=>
   simp at h
   obtain⟨p,h1,h2⟩:=Mf h
   grind
 | .s x::r,off,j,d,h=>by
  simp only [Ij] at h
  cases j with
  | zero=>simp at h;subst h;exact⟨_,rfl,.inr ⟨x,rfl,rfl⟩⟩
  | succ j=>
   simp at h
   obtain⟨p,h1,h2⟩:=Mf h
   grind
theorem X0 {t e:TypeId} (ht:P.underlying t=some (.slice e)) (a:Option Addr) (n c d:Nat):(Op.equalIn (d+1) t (.slice a n c) (.slice none 0 0)).run P w = .ok a.isNone w:=by
 cases a <;> simp [Op.equalIn,run_underlying ht]
theorem L_ {t e:TypeId} (ht:P.underlying t=some (.slice e)) (a:Option Addr) (n c:Nat):(Op.equal t (.slice a n c) (.slice none 0 0)).run P w = .ok a.isNone w:=
 X0 ht a n c 9999
theorem Ah8 (hL:Ci S w ρ a L) (hp:pt a cur) {lo hi:Option Operand} {len cap:Nat} {k1 k2:IntKind} {l hh:Int} (e3:(match lo with | none=>some (Value.int .i64 0) | some y=>(look L cur y).bind C9)=some (.int k1 l))
  (e4:(match hi with | none=>some (Value.int .i64 len) | some y=>(look L cur y).bind C9)=some (.int k2 hh)) (h0:0<=l) (h1:l<=hh) (h2:hh<=cap) :
  (Instr.sliceBounds true len cap (lo.map a.eval) (hi.map a.eval) none).run P w = .ok (l.toNat,hh.toNat,cap) w:=by
 unfold Instr.sliceBounds
 cases hi with
 | none=>
  simp only [ah,Value.int.injEq] at e4
  obtain⟨_,e4⟩:=e4
  subst e4
  cases lo with
  | none=>
   simp only [ah,Value.int.injEq] at e3
   obtain⟨_,e3⟩:=e3
   subst e3
   simp
  | some y=>
   simp only at e3
   have:=Cn (P:=P) (w:=w) (k:=k1) (n:=l) (y:=len) (c:=.sliceB) h0 (by omega)
   simp [Bq hL hp e3,this]
 | some z=>
  simp only at e4
  have g1:=Cn (P:=P) (w:=w) (k:=k2) (n:=hh) (y:=cap) (c:=.sliceAcap) (by omega) (by omega)
  cases lo with
  | none=>
   simp only [ah,Value.int.injEq] at e3
   obtain⟨_,e3⟩:=e3
   subst e3
   simp [Bq hL hp e4,g1]
  | some y=>
   simp only at e3
   have:=Cn (P:=P) (w:=w) (k:=k1) (n:=l) (y:=hh.toNat) (c:=.sliceB) h0 (by omega)
   simp [Bq hL hp e3,Bq hL hp e4,this,g1]
set_option maxHeartbeats 1600000 in
theorem Ayh {t:TypeId} {c:Cl} {v0 v:AV} {k:Option Cl} {x:Value} (h:fnV P t c v0=some (v,k)) (hk:∀ y,k=some y->y.ok P) (hr:RdA S w ρ x v0):RdA S w ρ x v:=by
 unfold fnV at h
 split at h
 ·rename_i y q g _ _ _ hu
  simp only [ah,aq] at h
  obtain⟨rfl,rfl⟩:=h
  have e:=hr.exact_inv
  have g1:y = .func (.func g) #[] #[]:=hk _ rfl
  rw [e,g1]
  exact .d (Rd.fn (xs:=[]) (cs:=[]) rfl rfl (by simp) (by simp))
 ·simp only [ah,aq] at h
  obtain⟨rfl,rfl⟩:=h
  exact hr
theorem Aq8 {c:Cl} {row:List Pd} (h:Ait c=some row):∃ a b,c = .idx a b row:=by
 cases c <;> simp [Ait] at h
 subst h;exact⟨_,_,rfl⟩
theorem P4 {α:Type} (size:Nat):∀ (n:Nat) (l:List α),(D4 size n l).length=n
 | 0,_=>rfl
 | n+1,l=>by simp [D4,P4 size n]
theorem Wi {α:Type} (size:Nat):∀ (n:Nat) (l:List α) (i:Nat) (row:List α),(D4 size n l)[i]? = some row->row=(l.drop (i*size)).take size
 | 0,_,_,_,h=>by simp [D4] at h
 | n+1,l,0,row,h=>by simp [D4] at h;simp [h]
 | n+1,l,i+1,row,h=>by
  simp only [D4,cv] at h
  have:=Wi size n (l.drop size) i row h
  rw [this,bM]
  congr 2
  rw [aG];omega
theorem Agk : ∀ {ds : List D} {ps : List Pd} {vs : List Value}, dPs ds = some ps -> A5 (Rd S w ρ) vs ds -> A5 (Rd S w ρ) vs (ps.map D.p)
 | [],ps,vs,h,hv=>by simp [dPs] at h;subst h;exact hv
 | d :: r, ps, vs, h, hv => by
  simp only [dPs] at h
  split at h
  ·rename_i x l h1 h2
   simp at h;subst h
   cases vs with
   | nil=>exact hv.elim
   | cons v vs=>
    refine⟨?_,Agk h2 hv.2⟩
    have hd:=hv.1
    cases d with
    | p y=>simp [dP] at h1;subst h1;exact hd
    | fn f a b=>
     cases a with
     | cons=>simp [dP] at h1
     | nil=>
      cases b with
      | cons=>simp [dP] at h1
      | nil=>
       simp [dP] at h1;subst h1
       cases hd with
       | fn hl hm _ _=>
        rename_i xs cs _ _
        have e1:xs=[]:=List.length_eq_zero_iff.1 hl
        have e2:cs=[]:=List.length_eq_zero_iff.1 hm
        subst e1;subst e2
        exact .p (.v _ rfl)
    | _=>simp [dP] at h1
  ·cases h
theorem Aul {S:Nat->Prop} {w:World} {x y:Value} (h:RdP S w x (.v y)):x=y:=by
 cases h;rfl
theorem Amg (hI:Inv C S w ρ R) (hL:Ci S w ρ a L) (hp:pt a cur) {c:Cl} {s d:TypeId} {x:Operand} {v:AV} {k:Option Cl} (h:Yh P L cur R c s d x=some (v,k))
  (hk:∀ x,k=some x->x.ok P):∃ y,(convert s d (a.eval x)).run P w = .ok y w/\RdA S w ρ y v:=by
 unfold Yh at h
 split at h
 ·rename_i e _ b hs hd
  have key:∀ (ad:Option Addr) (len cap:Nat) (rows:List (List Pd)),a.eval x = .slice ad len cap->rows.length=len->P.underlying e=some (.int .u8)->(rows=b.data.toList.map λ b=>[Pd.v (.int .u8 (b.toNat:Int))]) ->
    (∀ (i:Nat) n,b.data.toList[i]? = some n->∃ a0,ad=some a0/\w.cell? (a0.add i)=some (.int .u8 (n.toNat:Int)))->(convert s d (a.eval x)).run P w = .ok (.string b) w:=by
   intro ad len cap rows hx hl he hr hc
   rw [hx,run_convert_bytes_string (P:=P) w s d e ad len cap hs he hd]
   have hlen:len=b.data.toList.length:=by rw [←hl,hr];simp
   have hfold:∀ (l:List UInt8) (acc:ByteArray),(l.map λ n=>(n.toNat:Int)).foldl (λ r n=>r.push (UInt8.ofNat n.toNat)) acc=⟨(acc.data.toList++l).toArray⟩:=by
    intro l
    induction l with
    | nil=>intro acc;simp
    | cons n l ih=>
     intro acc
     rw [bw,bA,ih]
     congr 1
     simp [ByteArray.push]
   cases ad with
   | none=>
    have:b.data.toList=[]:=by
     cases hb:b.data.toList with
     | nil=>rfl
     | cons n l=>
      obtain⟨a0,h0,_⟩:=hc 0 n (by rw [hb];rfl)
      cases h0
    have hb:b = .empty:=by
     obtain⟨⟨l⟩⟩:=b
     simp only at this
     subst this;rfl
    subst hb
    rfl
   | some a0=>
    have hload:=run_loadCells_list (P:=P) w a0 (b.data.toList.map λ n=>Value.int .u8 (n.toNat:Int)) λ j v hv=>by
     rw [az] at hv
     obtain⟨n,h1,rfl⟩:=Dl hv
     obtain⟨a1,h2,h3⟩:=hc j n h1
     cases h2;exact h3
    have h5:=run_bytesToString (P:=P) w a0 len cap (b.data.toList.map λ n=>(n.toNat:Int)) (by
     rw [List.map_map]
     have:(Value.int .u8∘λ n:UInt8=>(n.toNat:Int))=λ n=>Value.int .u8 (n.toNat:Int):=rfl
     rw [this,hlen]
     simpa using hload)
    rw [h5,hfold]
    obtain⟨⟨l⟩⟩:=b
    rfl
  split at h
  ·rename_i i he hx
   split at h
   ·rename_i e' z rows hi
    cases hb:Nat.beq z 1 with
    | false=>rw [hb] at h;cases h
    | true=>
     rw [hb] at h
     have hz:=aj hb
     subst hz
     simp only [cond_true,ah,aq] at h;obtain⟨rfl,rfl⟩:=h
     have hr:=hk _ rfl
     refine⟨_,?_,Eb rfl⟩
     have hx':=Bw hL hp hx
     have hρ:=hx'.d_inv.os_inv
     rcases (hI.ok i _ _ hi hρ).live hx'.d_inv.one with⟨h1,h2⟩ | ⟨b0,o,cap,vs,h1,h2,h3,h4,h5,h6,h7⟩
     ·refine key none 0 0 rows h1 (by rw [h2];rfl) he hr λ i n hn=>?_
      have:rows=b.data.toList.map λ b=>[Pd.v (.int .u8 (b.toNat:Int))]:=hr
      rw [h2] at this
      have:=congrArg List.length this
      simp only [bE,au] at this
      have:=(aa.1 hn).1
      omega
     ·refine key _ _ cap rows h1 rfl he hr λ i n hn=>⟨_,rfl,?_⟩
      have hrow:rows[i]? = some [Pd.v (.int .u8 (n.toNat:Int))]:=by
       have:rows=b.data.toList.map λ b=>[Pd.v (.int .u8 (b.toNat:Int))]:=hr
       rw [this,az,hn];rfl
      obtain⟨y,hy,hR⟩:=h7 i _ hrow 0 _ rfl
      rw [Cx,h2.cell]
      rw [Nat.mul_one,bx] at hy
      have:=Aul hR
      rw [hy,this]
   ·cases h
  ·rename_i rows he hx
   simp only [ah,aq] at h;obtain⟨rfl,rfl⟩:=h
   have hr:=hk _ rfl
   refine⟨_,?_,Eb rfl⟩
   have hx':=(Bw hL hp hx).d_inv.p_inv
   generalize hv:a.eval x=val at hx'
   have hr':rows=b.data.toList.map λ b=>[Pd.v (.int .u8 (b.toNat:Int))]:=hr
   cases hx' with
   | s a0 ad cap sz _ xs _ _ _ hsz hxs hrs=>
    rw [←hv]
    refine key a0 _ cap rows hv rfl he hr λ i n hn=>?_
    have hrow:rows[i]? = some [Pd.v (.int .u8 (n.toNat:Int))]:=by
     rw [hr',az,hn];rfl
    have hs1:sz=1:=by rw [←hsz _ (ae hrow)];rfl
    subst hs1
    obtain⟨g1,g2,g3⟩:=hxs i _ hrow 0 _ rfl
    have g4:=hrs i _ hrow 0 _ rfl
    refine⟨ad,g1,?_⟩
    rw [Nat.mul_one,bx] at g3
    rw [g3,Aul g4]
  ·cases h
 ·cases h
theorem Amj (hI : Inv C S w ρ R) (hL : Ci S w ρ a L) (hp : pt a cur) {c : Cl} {o : Oper} {v : AV} {k : Option Cl} (h : Cq P L cur R c o.op = some (v, k))
  (hk:∀ x,k=some x->x.ok P):A0y P S w ρ a o v:=by
 obtain⟨dst,op,type,pos,after,guard⟩:=o
 simp only at h
 cases op with
 | move x=>
  simp only [Cq] at h
  obtain⟨z,h1,h2⟩:=Dl h
  simp at h2;obtain⟨rfl,rfl⟩:=h2
  exact⟨_,rfl,Bw hL hp h1⟩
 | assign x=>
  simp only [Cq] at h
  obtain⟨z,h1,h2⟩:=Dl h
  simp at h2;obtain⟨rfl,rfl⟩:=h2
  exact⟨_,rfl,Bw hL hp h1⟩
 | pick u x y=>
  simp only [Cq] at h
  obtain⟨z,h1,h2⟩:=Dl h
  simp at h2;obtain⟨rfl,rfl⟩:=h2
  obtain⟨b,hb,hr⟩:=Amk hL hp h1
  exact⟨_,by simp [execOp,hb,asBool],hr⟩
 | build t parts=>
  simp only [Cq] at h
  split at h
  ·rename_i zs fields ps e1 e2 e3
   obtain⟨z,hz,hd⟩:=Dk e1
   split at h
   ·rename_i ds e4
    obtain⟨pl,hpl,hf⟩:=Dk e4
    simp at h;obtain⟨rfl,rfl⟩:=h
    obtain⟨r,hr1,hr2⟩:=Vs (S:=S) (w:=w) (ρ:=ρ) (λ (x:Nat)=>pl[x]?) pl (λ _ _ h=>h) _ _ z.cells zs ds (Kl hL hp e3) (Iy hd) hf
    refine⟨.agg r,?_,by simpa using RdA.agg hr2⟩
    simp only [execOp,Sem.run_bind]
    rw [Wr hz e2 hpl (r:=r) (by simpa using hr1)]
    rfl
   ·cases h
  ·rename_i zs n e ps e1 e2 e3
   obtain⟨z,hz,hd⟩:=Dk e1
   split at h
   ·rename_i s e5
    split at h
    ·rename_i ds hf
     simp at h;obtain⟨rfl,rfl⟩:=h
     obtain⟨r,hr1,hr2⟩:=Vs (S:=S) (w:=w) (ρ:=ρ) (λ (x:Nat)=>some (x*s,s)) ((List.range n).map λ i=>(i*s,s)) (λ i x hx=>by
      rw [az] at hx
      obtain⟨j,hj,rfl⟩:=Dl hx
      have:j=i:=by
       have hi:=(aa.1 hj).1
       simp at hi
       rw [bW hi] at hj
       exact (bc hj).symm
      rw [this]) _ _ z.cells zs ds (Kl hL hp e3) (Iy hd) hf
     refine⟨.agg r,?_,by simpa using RdA.agg hr2⟩
     simp only [execOp,Sem.run_bind]
     rw [X1 hz e2 e5 (r:=r) (by simpa using hr1)]
     rfl
    ·cases h
   ·cases h
  ·cases h
 | load t x =>
  by_cases hg:∃ g,x = .global g
  ·obtain⟨g,rfl⟩:=hg
   simp only [Cq] at h
   split at h
   ·rename_i cells n e1 e2
    obtain⟨z,h1,h2⟩:=Dl h
    simp at h2;obtain⟨rfl,rfl⟩:=h2
    have hc:=(hI.glOk.1 g cells e1).1
    obtain⟨y,hy,hr⟩:=F7 (P:=P) (S:=S) (w:=w) (ρ:=ρ) (ad:=⟨g,0,none⟩) h1 (λ j d hd=>by
     rw [az] at hd
     obtain⟨d',h3,h4⟩:=Dl hd
     subst h4
     obtain⟨x,h5,h6,h7⟩:=hc.take n j d' h3
     exact⟨x,h6,.p h7⟩)
    refine⟨y,?_,hr⟩
    simp only [execOp,Sem.run_bind,Act.eval,Instr.loadAt,Instr.sureAddr,Sem.run_pure,Result.andThen_ok,hy]
   ·cases h
  ·have h : Tu P L cur R c t x = some (v, k) := by
    cases x with
    | global g=>exact absurd ⟨g,rfl⟩ hg
    | _=>exact h
   unfold Tu at h
   split at h
   ·rename_i i off n e1 e2
    split at h
    ·rename_i t' cells hi
     obtain⟨z,h1,h2⟩:=Dk h
     obtain⟨b,hx,hρ⟩:=(Bw hL hp e1).d_inv.o_inv
     obtain⟨y,hy,hr⟩:=F7 (P:=P) (S:=S) (w:=w) (ρ:=ρ) (ad:=⟨b,off,none⟩) h1 (λ j d hd=>Ac5 hI hi hρ off n j d hd)
     refine⟨y,?_,Ayh h2 hk hr⟩
     simp only [execOp,Sem.run_bind,hx,Instr.loadAt,Instr.sureAddr,Sem.run_pure,Result.andThen_ok,hy]
    ·cases h
   ·rename_i cells n e1 e2
    obtain⟨z,h1,h2⟩:=Dl h
    simp at h2;obtain⟨rfl,rfl⟩:=h2
    obtain⟨ad,hx,hc⟩:=(Bw hL hp e1).d_inv.ip_inv
    obtain⟨y,hy,hr⟩:=F7 (P:=P) (S:=S) (w:=w) (ρ:=ρ) (ad:=ad) h1 (λ j d hd=>by
     rw [az] at hd
     obtain⟨d',h3,h4⟩:=Dl hd
     subst h4
     obtain⟨x,h5,h6,h7⟩:=hc.take n j d' h3
     exact⟨x,h6,.p h7⟩)
    refine⟨y,?_,hr⟩
    simp only [execOp,Sem.run_bind,hx,Instr.loadAt,Instr.sureAddr,Sem.run_pure,Result.andThen_ok,hy]
   ·rename_i i kk size off n e1 e2
    split at h
    ·rename_i s rows q1 q2 row hi q3
     cases hb:Nat.beq s size with
     | false=>rw [hb] at h;simp at h
     | true=>
      rw [hb] at h
      simp only [cond_true] at h
      have hss:=aj hb
      subst hss
      obtain⟨z,h1,h2⟩:=Dl h
      simp at h2;obtain⟨rfl,rfl⟩:=h2
      obtain⟨_,hrow⟩:=hk _ rfl
      simp only [aE] at hrow
      obtain⟨b,o,l,cp,hx,hρ⟩:=(Bw hL hp e1).d_inv.oe_inv
      rcases (hI.ok i _ _ hi hρ).live rfl with⟨h3,h4⟩ | ⟨b',o',cp',vs,h3,hb',_,_,_,_,h5⟩
      ·cases h3
      ·cases h3
       obtain⟨y,hy,hr⟩:=F7 (P:=P) (S:=S) (w:=w) (ρ:=ρ) (ad:=⟨b,o+kk*s+off,none⟩) h1 (λ j d hd=>by
        rw [az] at hd
        obtain⟨d',g1,g2⟩:=Dl hd
        subst g2
        rw [an] at g1
        split at g1
        ·rw [ar] at g1
         obtain⟨x,g3,g4⟩:=h5 kk row hrow (off+j) d' g1
         refine⟨x,?_,.p g4⟩
         rw [Cx,hb'.cell]
         rw [←g3];congr 1;omega
        ·cases g1)
       refine⟨y,?_,hr⟩
       simp only [execOp,Sem.run_bind,hx,Instr.loadAt,Instr.sureAddr,Sem.run_pure,Result.andThen_ok,hy]
    ·rename_i e s g q1 q2 row hi q3
     split at h
     ·rename_i s2 tys rows hg
      cases hb:(Nat.blt 0 s&&(Nat.beq s size&&Nat.beq s s2)) with
      | false=>rw [hb] at h;simp at h
      | true=>
       rw [hb] at h
       simp only [cond_true] at h
       simp only [ab] at hb
       obtain⟨b0,b1,b2⟩:=hb
       have hs0:0<s:=by simpa [Nat.blt_eq] using b0
       have hss:=aj b1
       subst hss
       have hss:=aj b2
       subst hss
       obtain⟨z,h1,h2⟩:=Dl h
       simp at h2;obtain⟨rfl,rfl⟩:=h2
       obtain⟨_,hrow⟩:=hk _ rfl
       simp only [aE] at hrow
       obtain⟨b,o,l,cp,hx,hρ⟩:=(Bw hL hp e1).d_inv.oe_inv
       obtain⟨f,xs,cs,hgρ,hgo,hform⟩:=Oo hI hi hg hρ rfl hs0
       rcases hform with⟨h3,h4⟩ | ⟨b',o',cp',vs,h3,hb',_,_,_,h5⟩
       ·cases h3
       ·cases h3
        obtain⟨y,hy,hr⟩:=F7 (P:=P) (S:=S) (w:=w) (ρ:=ρ) (ad:=⟨b,o+kk*s+off,none⟩) h1 (λ j d hd=>by
         obtain⟨p,g1,g2⟩:=Mf hd
         rw [an] at g1
         split at g1
         ·rw [ar] at g1
          obtain⟨x,g3,g4⟩:=hgo.2.2.1 kk row hrow (off+j) p g1
          have g5:=h5 _ x g3
          refine⟨x,?_,?_⟩
          ·rw [Cx,Ik hb']
           rw [←g5];congr 1;omega
          ·rcases g2 with⟨u,rfl,rfl⟩ | ⟨r,rfl,rfl⟩
           ·obtain⟨rfl,g6,_⟩:=g4
            exact .p (.v _ g6)
           ·exact .oi hgρ g3 g4.1
         ·cases g1)
        refine⟨y,?_,hr⟩
        simp only [execOp,Sem.run_bind,hx,Instr.loadAt,Instr.sureAddr,Sem.run_pure,Result.andThen_ok,hy]
     ·cases h
    ·rename_i q0 cells hi q1
     obtain⟨z,h1,h2⟩:=Dl h
     simp at h2;obtain⟨rfl,rfl⟩:=h2
     obtain⟨b,o,l,cp,hx,hρ⟩:=(Bw hL hp e1).d_inv.oe_inv
     obtain⟨b',vs,h3,hb',hc,_⟩:=(hI.ok i _ _ hi hρ).live rfl
     cases h3
     obtain⟨y,hy,hr⟩:=F7 (P:=P) (S:=S) (w:=w) (ρ:=ρ) (ad:=⟨b,0+kk*size+off,none⟩) h1 (λ j d hd=>by
      rw [an] at hd
      split at hd
      ·rw [ar] at hd
       obtain⟨x,g3,g4⟩:=hc.get hd
       refine⟨x,?_,g4⟩
       rw [Cx,Ik hb']
       rw [aI]
       simpa using g3
      ·cases hd)
     refine⟨y,?_,hr⟩
     simp only [execOp,Sem.run_bind,hx,Instr.loadAt,Instr.sureAddr,Sem.run_pure,Result.andThen_ok,hy]
    ·cases h
   ·cases h
 | nilCheck x=>
  simp only [Cq] at h
  split at h
  ·rename_i i off e1
   simp at h;obtain⟨rfl,rfl⟩:=h
   have hr:=Bw hL hp e1
   obtain⟨b,hx,_⟩:=hr.d_inv.o_inv
   exact⟨_,by simp only [execOp,hx];rfl,hx ▸ hr⟩
  ·rename_i i off s k e1
   simp at h;obtain⟨rfl,rfl⟩:=h
   have hr:=Bw hL hp e1
   obtain⟨b,o,l,c,hx,_⟩:=hr.d_inv.oe_inv
   exact⟨_,by simp only [execOp,hx];rfl,hx ▸ hr⟩
  ·rename_i cells e1
   simp at h;obtain⟨rfl,rfl⟩:=h
   have hr:=Bw hL hp e1
   obtain⟨ad,hx,_⟩:=hr.d_inv.ip_inv
   exact⟨_,by simp only [execOp,hx];rfl,hx ▸ hr⟩
  ·cases h
 | binOp b t x y yt=>
  simp only [Cq] at h
  split at h
  ·rename_i u1 v1 e1 e2
   have hx:=Bq hL hp e1
   have hy:=Bq hL hp e2
   split at h
   ·rename_i z hz
    simp at h;obtain⟨rfl,rfl⟩:=h
    obtain⟨r1,r2⟩:=A0s (P:=P) (w:=w) hz t x y
    refine⟨z,?_,Eb r2⟩
    simp only [execOp,hx,hy]
    rw [Sem.run_bind,r1];rfl
   ·split at h
    ·rename_i z n hz
     simp at h;obtain⟨rfl,rfl⟩:=h
     have hn:n≠0:=hk _ rfl
     obtain⟨r1,r2⟩:=Av1 (P:=P) (w:=w) hz hn t x y
     refine⟨z,?_,Eb r2⟩
     simp only [execOp,hx,hy]
     rw [Sem.run_bind,r1];rfl
    ·split at h
     ·rename_i hu
      obtain⟨z,hz,h2⟩:=Dl h
      simp at h2;obtain⟨rfl,rfl⟩:=h2
      obtain⟨r1,r2⟩:=Av2 (P:=P) (w:=w) hz t hu x y
      refine⟨z,?_,Eb r2⟩
      simp only [execOp,hx,hy]
      rw [Sem.run_bind,r1];rfl
     ·cases h
  ·unfold Ai6 at h
   split at h
   ·rename_i rows e1 e2
    split at h
    ·rename_i e hu
     simp at h;obtain⟨rfl,rfl⟩:=h
     have hx:=(Bw hL hp e1).d_inv.p_inv
     have hy:=(Bw hL hp e2).exact_inv
     generalize hxe:a.eval x=xv at hx
     cases hx with
     | s ad0 ad cap size _ xs hc hm hz=>
      refine⟨.bool ad0.isNone,?_,.d (.nq λ hn=>?_)⟩
      ·have he:=L_ (P:=P) (w:=w) (t:=t) hu ad0 rows.length cap
       simp only [execOp,hxe,hy,eqGuard,binOp,Sem.run_bind]
       simp [he]
      ·have hn:ad0=none:=by cases ad0 <;> simp_all
       have:=hz hn
       exact bo (by omega)
    ·cases h
   ·rename_i j e1 e2
    split at h
    ·rename_i e e' s rows hu hi
     simp at h;obtain⟨rfl,rfl⟩:=h
     have hr:=(Bw hL hp e1).d_inv
     have hy:=(Bw hL hp e2).exact_inv
     rcases (hI.ok j _ _ hi hr.os_inv).live hr.one with⟨h3,h4⟩ | ⟨b',o,cp,vs,h3,_⟩
     ·refine⟨.bool true,?_,.d (.nq λ _=>h4)⟩
      have he:=L_ (P:=P) (w:=w) (t:=t) hu none 0 0
      simp only [execOp,h3,hy,eqGuard,binOp,Sem.run_bind]
      simp [he]
     ·refine⟨.bool false,?_,.d (.nq λ hn=>by cases hn)⟩
      have he:=L_ (P:=P) (w:=w) (t:=t) hu (some ⟨b',o,none⟩) rows.length cp
      simp only [execOp,h3,hy,eqGuard,binOp,Sem.run_bind]
      simp [he]
    ·cases h
   ·rename_i ds es e1 e2
    cases hg:P.eqGuardType P.depth t with
    | true=>rw [hg] at h;simp at h
    | false=>
     rw [hg] at h
     simp only [cond_false] at h
     obtain⟨vs,hv,hvs⟩:=(Bw hL hp e1).agg_inv
     obtain⟨us,hu,hus⟩:=(Bw hL hp e2).agg_inv
     cases b with
     | eql=>
      obtain⟨z,hz,h2⟩:=Dl h
      simp at h2;obtain⟨rfl,rfl⟩:=h2
      have:=Aca (P:=P) (S:=S) (w:=w) (ρ:=ρ) hz (N:=10000) (by omega) (.agg hvs) (.agg hus)
      refine⟨.bool z,?_,Eb rfl⟩
      simp only [execOp,hv,hu,Sem.run_bind,Go.run_eqGuard_agg w .eql t x y vs.toArray us.toArray hg,Result.andThen_ok,Go.run_eql_struct,this]
      rfl
     | neq=>
      obtain⟨z,hz,h2⟩:=Dl h
      simp at h2;obtain⟨rfl,rfl⟩:=h2
      have:=Aca (P:=P) (S:=S) (w:=w) (ρ:=ρ) hz (N:=10000) (by omega) (.agg hvs) (.agg hus)
      refine⟨.bool !z,?_,Eb rfl⟩
      simp only [execOp,hv,hu,Sem.run_bind,Go.run_eqGuard_agg w .neq t x y vs.toArray us.toArray hg,Result.andThen_ok,Go.run_neq_struct,this]
      rfl
     | _=>cases h
   ·cases h
 | unOp u t x=>
  simp only [Cq] at h
  split at h
  ·rename_i v1 e1
   have hx:=Bq hL hp e1
   obtain⟨z,hz,h2⟩:=Dl h
   simp at h2;obtain⟨rfl,rfl⟩:=h2
   obtain⟨r1,r2⟩:=A2h (P:=P) (w:=w) hz
   refine⟨z,?_,Eb r2⟩
   simp only [execOp,hx]
   rw [Sem.run_bind,r1];rfl
  ·cases h
 | convert s d x=>
  simp only [Cq] at h
  split at h
  ·rename_i k1 k2 k3 n e1 e2 e3
   have hx:=Bq hL hp e3
   simp at h;obtain⟨rfl,rfl⟩:=h
   refine⟨_,?_,Eb rfl⟩
   simp [execOp,hx,convert,run_underlying e1,run_underlying e2,Conv.intToInt]
  ·obtain⟨y,h1,h2⟩:=Amg hI hL hp h hk
   exact⟨y,by simp only [execOp,Sem.run_bind,h1];rfl,h2⟩
 | makeFunc f first caps=>
  simp only [Cq] at h
  split at h
  ·rename_i x y e1 e2
   split at h
   ·rename_i x' y' e3 e4
    simp at h;obtain⟨rfl,rfl⟩:=h
    have r1:=Fc hL hp e1
    have r2:=Fc hL hp e2
    rw [Alv e3] at r1
    rw [Alv e4] at r2
    have s1:=An8 r1
    have s2:=An8 r2
    refine⟨_,?_,.d (.fn s1.length s2.length (λ j x d hx hd=>s1.both hx hd) (λ j x d hx hd=>s2.both hx hd))⟩
    simp only [execOp,Instr.makeFunc,Sem.run_bind,Sem.run_pure,Result.andThen_ok]
    congr 3 <;> (apply Array.ext';simp)
   ·cases h
  ·cases h
 | fieldAddr s x f=>
  simp only [Cq] at h
  split at h
  ·rename_i i off kk ft e1 e2
   split at h
   ·rename_i m e3
    simp at h;obtain⟨rfl,rfl⟩:=h
    obtain⟨b,hx,hρ⟩:=(Bw hL hp e1).d_inv.o_inv
    refine⟨.pointer (some ⟨b,off+kk,none⟩),?_,.d (.o hρ)⟩
    simp only [execOp,hx,Sem.run_bind,O0 e2 e3,Cx]
    rfl
   ·cases h
  ·rename_i cells kk ft e1 e2
   split at h
   ·rename_i m e3
    simp at h;obtain⟨rfl,rfl⟩:=h
    obtain⟨ad,hx,hc⟩:=(Bw hL hp e1).d_inv.ip_inv
    refine⟨.pointer (some (ad.add kk)),?_,.d (.ip (hc.drop kk))⟩
    simp only [execOp,hx,Sem.run_bind,O0 e2 e3]
    rfl
   ·cases h
  ·rename_i i r size off kk ft e1 e2
   split at h
   ·rename_i m e3
    simp at h;obtain⟨rfl,rfl⟩:=h
    obtain⟨b,o,l,c,hx,hρ⟩:=(Bw hL hp e1).d_inv.oe_inv
    refine⟨.pointer (some ⟨b,o+r*size+(off+kk),none⟩),?_,.d (.oe hρ)⟩
    simp only [execOp,hx,Sem.run_bind,O0 e2 e3,Cx]
    rw [bj]
    rfl
   ·cases h
  ·cases h
 | field s x f=>
  simp only [Cq] at h
  split at h
  ·rename_i ds kk ft e1 e2
   split at h
   ·rename_i n e3
    obtain⟨z,hz,h2⟩:=Dl h
    simp at h2;obtain⟨rfl,rfl⟩:=h2
    obtain⟨vs,hv,hr⟩:=(Bw hL hp e1).agg_inv
    obtain⟨fields,y,hu,hy,rfl,rfl⟩:=Yd e2
    obtain⟨r,hr1,hr2⟩:=Pp (P:=P) hr e3 hz
    refine⟨r,?_,hr2⟩
    simp only [execOp,Instr.field,hv,Sem.run_bind,run_underlying hu,hy,asAgg,Sem.run_pure,Result.andThen_ok,hr1]
   ·cases h
  ·cases h
 | indexAddr t x i=>
  simp only [Cq] at h
  unfold Ai5 at h
  split at h
  ·rename_i e rows ik n e1 e2 e3
   split at h
   ·rename_i q1 q2 row
    split at h
    ·rename_i m e4
     cases hb:Nat.beq row.length (m+1) with
     | false=>rw [hb] at h;simp at h
     | true=>
      rw [hb] at h
      simp at h;obtain⟨rfl,rfl⟩:=h
      have hlen:row.length=m+1:=aj hb
      have hpd:=(Bw hL hp e2).d_inv.p_inv
      have hn:=Bq hL hp e3
      obtain⟨h0,hrow⟩:=hk _ rfl
      obtain⟨b,cap,hform,hcap,hm⟩:=hpd.slice_form
      rw [hform] at hpd
      obtain⟨hlt,hcells⟩:=hpd.row hrow
      obtain⟨ad,had,hc⟩:=hcells (by intro e;rw [e] at hlen;simp at hlen)
      refine⟨.pointer (some (ad.add (n.toNat*(m+1)))),?_,.d (.ip (by rw [hlen] at hc;exact hc))⟩
      simp only [execOp,hform,hn]
      rw [Sem.run_bind,G1 e1 e4 had h0 (by omega)]
      rfl
    ·cases h
   ·cases h
  ·rename_i e j ik n e1 e2 e3
   split at h
   ·rename_i q0 s rows q1 q2 row hi
    split at h
    ·rename_i m e4
     cases hb:Nat.beq s (m+1) with
     | false=>rw [hb] at h;simp at h
     | true=>
      rw [hb] at h
      simp at h;obtain⟨rfl,rfl⟩:=h
      have hss:=aj hb
      subst hss
      have hr:=(Bw hL hp e2).d_inv
      have hn:=Bq hL hp e3
      obtain⟨h0,hrow⟩:=hk _ rfl
      have hlt:=(aa.1 hrow).1
      rcases (hI.ok j _ _ hi hr.os_inv).live hr.one with⟨h3,h4⟩ | ⟨b,o,cp,vs,h3,hb',_⟩
      ·rw [h4] at hlt;simp at hlt
      ·refine⟨.pointer (some ⟨b,o+n.toNat*(m+1)+0,none⟩),?_,.d (.oe (by rw [←h3];exact hr.os_inv))⟩
       simp only [execOp,h3,hn]
       rw [Sem.run_bind,G1 e1 e4 rfl h0 (by omega),Cx]
       rfl
    ·cases h
   ·rename_i q0 s g q1 q2 row hi
    split at h
    ·rename_i m s2 tys rows hole e4 hg
     cases hb:(Nat.beq s (m+1)&&Nat.beq s s2) with
     | false=>rw [hb] at h;simp at h
     | true=>
      rw [hb] at h
      simp at h;obtain⟨rfl,rfl⟩:=h
      simp only [ab] at hb
      have hss:=aj hb.2
      subst hss
      have hss:=aj hb.1
      subst hss
      have hr:=(Bw hL hp e2).d_inv
      have hn:=Bq hL hp e3
      obtain⟨h0,hrow⟩:=hk _ rfl
      have hlt:=(aa.1 hrow).1
      obtain⟨_,_,_,_,_,hform⟩:=Oo hI hi hg hr.os_inv hr.one (Nat.succ_pos _)
      rcases hform with⟨h3,h4⟩ | ⟨b,o,cp,vs,h3,hb',_⟩
      ·rw [h4] at hlt;simp at hlt
      ·refine⟨.pointer (some ⟨b,o+n.toNat*(m+1)+0,none⟩),?_,.d (.oe (by rw [←h3];exact hr.os_inv))⟩
       simp only [execOp,h3,hn]
       rw [Sem.run_bind,G1 e1 e4 rfl h0 (by omega),Cx]
       rfl
    ·cases h
   ·rename_i q0 cells hi
    split at h
    ·rename_i m e4
     cases hb:(Nat.beq m 0&&(decide (0<=n)&&Nat.blt n.toNat cells.length)) with
     | false=>rw [hb] at h;simp at h
     | true=>
      rw [hb] at h
      simp only [cond_true,ah,aq] at h;obtain⟨rfl,rfl⟩:=h
      simp only [ab,dE] at hb
      obtain⟨hm,h0,hlt⟩:=hb
      have hm:=aj hm
      have hlt:n.toNat<cells.length:=by simpa [Nat.blt_eq] using hlt
      have hr:=(Bw hL hp e2).d_inv
      have hn:=Bq hL hp e3
      obtain⟨b,vs,h3,hb',_⟩:=(hI.ok j _ _ hi hr.os_inv).live hr.one
      refine⟨.pointer (some ⟨b,0+n.toNat*(m+1)+0,none⟩),?_,.d (.oe (by rw [←h3];exact hr.os_inv))⟩
      simp only [execOp,h3,hn]
      rw [Sem.run_bind,G1 e1 e4 rfl h0 (by omega),Cx]
      rfl
    ·cases h
   ·cases h
  ·rename_i m e j off ik kk e1 e2 e3
   split at h
   ·rename_i s e4
    cases hb:Nat.blt kk m with
    | false=>rw [hb] at h;simp at h
    | true=>
     rw [hb] at h
     simp at h;obtain⟨rfl,rfl⟩:=h
     have hlt:kk<m:=by simpa [Nat.blt_eq] using hb
     obtain⟨b,hx,hρ⟩:=(Bw hL hp e2).d_inv.o_inv
     have hn:=Bq hL hp e3
     refine⟨.pointer (some ⟨b,off+kk*s,none⟩),?_,.d (.o hρ)⟩
     simp only [execOp,hx,hn]
     rw [Sem.run_bind,Mn e1 e4 hlt,Cx]
     rfl
   ·cases h
  ·rename_i m e cells ik kk e1 e2 e3
   split at h
   ·rename_i s e4
    cases hb:Nat.blt kk m with
    | false=>rw [hb] at h;simp at h
    | true=>
     rw [hb] at h
     simp at h;obtain⟨rfl,rfl⟩:=h
     have hlt:kk<m:=by simpa [Nat.blt_eq] using hb
     obtain⟨ad,hx,hc⟩:=(Bw hL hp e2).d_inv.ip_inv
     have hn:=Bq hL hp e3
     refine⟨.pointer (some (ad.add (kk*s))),?_,.d (.ip (hc.drop _))⟩
     simp only [execOp,hx,hn]
     rw [Sem.run_bind,Mn e1 e4 hlt]
     rfl
   ·cases h
  ·split at h
   ·simp only [ah,aq] at h
    obtain⟨rfl,rfl⟩:=h
    have h0:=(hk _ rfl).2
    simp at h0
   ·cases h
  ·cases h
 | index t x i=>
  simp only [Cq] at h
  split at h
  ·rename_i n e ds ik kki e1 e2 e3
   split at h
   ·rename_i row hrow
    have hc:=Aq8 hrow
    unfold Amo at h
    split at h
    ·rename_i s ps e4 e5
     cases hb:Nat.beq ps.length (n*(s+1)) with
     | false=>rw [hb] at h;simp at h
     | true=>
      rw [hb] at h
      simp only [cond_true] at h
      have hlen:=aj hb
      obtain⟨z,hz,h2⟩:=Dl h
      simp at h2;obtain⟨rfl,rfl⟩:=h2
      obtain⟨h0,hget⟩:=hk _ rfl
      obtain⟨vs,hv,hr⟩:=(Bw hL hp e2).agg_inv
      have hn:=Bq hL hp e3
      have hlt:kki.toNat<n:=by
       have:=(aa.1 hget).1
       rwa [P4] at this
      have hrw:=Wi _ _ _ _ _ hget
      have hr':=Agk e5 hr
      have hz':Gt P e (((ps.map D.p).drop (kki.toNat*(s+1))).take (s+1))=some z:=by
       rw [←hz,hrw,cz,List.map_drop]
      obtain⟨r,hr1,hr2⟩:=Pp (P:=P) hr' e4 hz'
      refine⟨r,?_,hr2⟩
      have h1:(0:Int)<=kki/\kki<(n:Int):=⟨h0,by omega⟩
      simp only [execOp,Instr.index,hv,hn,asIntOf,Sem.run_bind,Sem.run_pure,Result.andThen_ok,run_underlying e1,h1,and_self,if_true,Co e4]
      rw [hr1]
      rfl
    ·cases h
   ·split at h
    ·rename_i kk s e4
     cases hb:(Nat.blt kk n&&Nat.ble ((kk+1)*s) ds.length) with
     | false=>rw [hb] at h;simp at h
     | true=>
      rw [hb] at h
      simp only [cond_true] at h
      rw [ab] at hb
      obtain⟨z,hz,h2⟩:=Dl h
      simp at h2;obtain⟨rfl,rfl⟩:=h2
      have hlt:kk<n:=by have:=hb.1;simpa [Nat.blt_eq] using this
      obtain⟨vs,hv,hr⟩:=(Bw hL hp e2).agg_inv
      have hn:=Bq hL hp e3
      obtain⟨r,hr1,hr2⟩:=Pp (P:=P) hr e4 hz
      refine⟨r,?_,hr2⟩
      have h1:(0:Int)<=Int.ofNat kk/\Int.ofNat kk<(n:Int):=⟨Int.natCast_nonneg _,by simpa using hlt⟩
      simp only [execOp,Instr.index,hv,hn,asIntOf,Sem.run_bind,Sem.run_pure,Result.andThen_ok,run_underlying e1,h1,and_self,if_true,Co e4]
      have e:(Int.ofNat kk).toNat=kk:=rfl
      rw [e,hr1]
      rfl
    ·cases h
  ·rename_i s ik n e1 e2 e3
   split at h
   ·rename_i q1 q2 b
    simp at h;obtain⟨rfl,rfl⟩:=h
    obtain⟨h0,hb⟩:=hk _ rfl
    have hx:=Bq hL hp (x:=x) (v:=.string s) (by rw [e2];rfl)
    have hn:=Bq hL hp e3
    refine⟨_,?_,Eb rfl⟩
    have hs:s[n.toNat]? = some b:=by
     rw [←hb];rfl
    simp [execOp,Instr.index,hx,hn,asIntOf,run_underlying e1,h0,hs]
   ·cases h
  ·cases h
 | extract x i=>
  simp only [Cq] at h
  split at h
  ·rename_i l e1
   obtain⟨z,hz,h2⟩:=Dl h
   simp at h2;obtain⟨rfl,rfl⟩:=h2
   obtain⟨vs,hv,hall⟩:=(Bw hL hp e1).tup_inv
   obtain⟨y,hy,hr⟩:=hall.get hz
   refine⟨y,?_,hr⟩
   simp [execOp,hv,Instr.extract,hy]
  ·cases h
 | slice t x lo hi mx =>
  cases mx with
  | some m =>
   cases lo with
   | none=>simp [Cq] at h
   | some lo => cases hi with
    | none=>simp [Cq] at h
    | some hi=>
     simp only [Cq] at h
     split at h
     ·rename_i e i e1 e2
      split at h
      ·rename_i e' s rows hri
       split at h
       ·rename_i k1 l k2 hh k3 mm e3 e4 e5
        split at h
        ·rename_i q1 q2 q3 q4 sz e6
         simp at h;obtain⟨rfl,rfl⟩:=h
         obtain⟨h0,h1,h2,h3⟩:=hk _ rfl
         have hr:=(Bw hL hp e2).d_inv
         have hlen:∃ b cap,a.eval x = .slice b rows.length cap/\rows.length<=cap:=by
          rcases (hI.ok i _ _ hri hr.os_inv).live hr.one with⟨h3,h4⟩ | ⟨b,o,cp,vs,h3,_,h4,_⟩
          ·exact⟨none,0,by rw [h3,h4];rfl,by rw [h4];simp⟩
          ·exact⟨_,cp,h3,h4⟩
         obtain⟨b,cap,hform,hcap⟩:=hlen
         have g1:=Cn (P:=P) (w:=w) (k:=k3) (n:=mm) (y:=cap) (c:=.slice3Acap) (by omega) (by omega)
         have g2:=Cn (P:=P) (w:=w) (k:=k2) (n:=hh) (y:=mm.toNat) (c:=.slice3B) (by omega) (by omega)
         have g3:=Cn (P:=P) (w:=w) (k:=k1) (n:=l) (y:=hh.toNat) (c:=.slice3C) (by omega) (by omega)
         have hb:(Instr.sliceBounds true rows.length cap (some (a.eval lo)) (some (a.eval hi)) (some (a.eval m))).run P w = .ok (l.toNat,hh.toNat,mm.toNat) w:=by
          simp [Instr.sliceBounds,Bq hL hp e3,Bq hL hp e4,Bq hL hp e5,g1,g2,g3]
         refine⟨.slice (if mm.toNat=l.toNat then b else b.map (·.add (l.toNat*sz))) (hh.toNat-l.toNat) (mm.toNat-l.toNat),?_,.d (.any rfl)⟩
         simp only [execOp,hform,Instr.sliceAt,Sem.run_bind,run_underlying e1,Result.andThen_ok,aU]
         simp only [Instr.slice,Sem.run_bind,run_underlying e1,Result.andThen_ok,hb,Co e6,Sem.run_pure]
        ·cases h
       ·cases h
      ·cases h
     ·cases h
  | none =>
   simp only [Cq] at h
   split at h
   ·rename_i e rows e1 e2
    split at h
    ·rename_i n k1 l k2 hh e5 e3 e4
     split at h
     case h_2=>cases h
     rename_i rows' _
     simp at h;obtain⟨rfl,rfl⟩:=h
     obtain⟨h0,h1,h2,h3,h4⟩:=hk _ rfl
     subst h4
     have hpd:=(Bw hL hp e2).d_inv.p_inv
     obtain⟨b,cap,hform,hcap,hm⟩:=hpd.slice_form
     rw [hform] at hpd
     refine⟨_,?_,.d (.p (RdP.cut hpd (l:=l.toNat) (h:=hh.toNat) (by omega) (by omega) h3))⟩
     have hb:(Instr.sliceBounds true rows.length cap (lo.map a.eval) (hi.map a.eval) none).run P w = .ok (l.toNat,hh.toNat,cap) w:=by
      unfold Instr.sliceBounds
      cases hi with
      | none=>
       simp only [ah,Value.int.injEq] at e4
       obtain⟨_,e4⟩:=e4
       subst e4
       cases lo with
       | none=>
        simp only [ah,Value.int.injEq] at e3
        obtain⟨_,e3⟩:=e3
        subst e3
        simp
       | some y=>
        simp only at e3
        have:=Cn (P:=P) (w:=w) (k:=k1) (n:=l) (y:=rows.length) (c:=.sliceB) h0 (by omega)
        simp [Bq hL hp e3,this]
      | some z=>
       simp only at e4
       have g1:=Cn (P:=P) (w:=w) (k:=k2) (n:=hh) (y:=cap) (c:=.sliceAcap) (by omega) (by omega)
       cases lo with
       | none=>
        simp only [ah,Value.int.injEq] at e3
        obtain⟨_,e3⟩:=e3
        subst e3
        simp [Bq hL hp e4,g1]
       | some y=>
        simp only at e3
        have:=Cn (P:=P) (w:=w) (k:=k1) (n:=l) (y:=hh.toNat) (c:=.sliceB) h0 (by omega)
        simp [Bq hL hp e3,Bq hL hp e4,this,g1]
     simp only [execOp,hform,Instr.sliceAt,Sem.run_bind,run_underlying e1,Result.andThen_ok,Option.map_none]
     simp only [Instr.slice,Sem.run_bind,run_underlying e1,Result.andThen_ok,hb,Co e5,Sem.run_pure]
    ·cases h
   ·rename_i e i e1 e2
    split at h
    ·rename_i e' s rows hri
     split at h
     ·rename_i n k1 l k2 hh e5 e3 e4
      split at h
      case h_2=>cases h
      cases hsn:Nat.beq s n with
      | false=>rw [hsn] at h;simp at h
      | true=>
      rw [hsn] at h
      simp at h;obtain⟨rfl,rfl⟩:=h
      obtain⟨h0,h1,h2,h9⟩:=hk _ rfl
      subst h9
      have hr:=(Bw hL hp e2).d_inv
      have hlen:∃ b cap,a.eval x = .slice b rows.length cap/\rows.length<=cap:=by
       rcases (hI.ok i _ _ hri hr.os_inv).live hr.one with⟨h3,h4⟩ | ⟨b,o,cp,vs,h3,_,h4,_⟩
       ·exact⟨none,0,by rw [h3,h4];rfl,by rw [h4];simp⟩
       ·exact⟨_,cp,h3,h4⟩
      obtain⟨b,cap,hform,hcap⟩:=hlen
      have hρ:=hr.os_inv
      rw [hform] at hρ
      refine⟨.slice (if cap=l.toNat then b else b.map (·.add (l.toNat*n))) (hh.toNat-l.toNat) (cap-l.toNat),?_,?_⟩
      case refine_2=>
       by_cases hcl:cap=l.toNat
       ·rw [if_pos hcl]
        have:=Rd.osb (S:=S) (w:=w) (lo:=l.toNat) (n:=hh.toNat-l.toNat) (size:=n) (q:=0) hρ (by omega) (by omega) (by omega) (by omega)
        have hb0:b.map (·.add 0)=b:=by cases b <;> simp [Ug]
        rw [hb0] at this
        exact .d this
       ·rw [if_neg hcl]
        exact .d (.osb hρ (by omega) (by omega) (af _) (λ _=>rfl))
      have hb:(Instr.sliceBounds true rows.length cap (lo.map a.eval) (hi.map a.eval) none).run P w = .ok (l.toNat,hh.toNat,cap) w:=by
       unfold Instr.sliceBounds
       cases hi with
       | none=>
        simp only [ah,Value.int.injEq] at e4
        obtain⟨_,e4⟩:=e4
        subst e4
        cases lo with
        | none=>
         simp only [ah,Value.int.injEq] at e3
         obtain⟨_,e3⟩:=e3
         subst e3
         simp
        | some y=>
         simp only at e3
         have:=Cn (P:=P) (w:=w) (k:=k1) (n:=l) (y:=rows.length) (c:=.sliceB) h0 (by omega)
         simp [Bq hL hp e3,this]
       | some z=>
        simp only at e4
        have g1:=Cn (P:=P) (w:=w) (k:=k2) (n:=hh) (y:=cap) (c:=.sliceAcap) (by omega) (by omega)
        cases lo with
        | none=>
         simp only [ah,Value.int.injEq] at e3
         obtain⟨_,e3⟩:=e3
         subst e3
         simp [Bq hL hp e4,g1]
        | some y=>
         simp only at e3
         have:=Cn (P:=P) (w:=w) (k:=k1) (n:=l) (y:=hh.toNat) (c:=.sliceB) h0 (by omega)
         simp [Bq hL hp e3,Bq hL hp e4,this,g1]
      simp only [execOp,hform,Instr.sliceAt,Sem.run_bind,run_underlying e1,Result.andThen_ok,Option.map_none]
      simp only [Instr.slice,Sem.run_bind,run_underlying e1,Result.andThen_ok,hb,Co e5,Sem.run_pure]
     ·cases h
    ·cases h
   ·rename_i e i o0 n0 s0 e1 e2
    split at h
    ·rename_i e' s rows hri
     split at h
     ·rename_i n k1 l k2 hh e5 e3 e4
      split at h
      case h_2=>cases h
      cases hsn:(Nat.beq s n&&Nat.beq s0 n) with
      | false=>rw [hsn] at h;simp at h
      | true=>
      rw [hsn] at h
      simp at h;obtain⟨rfl,rfl⟩:=h
      simp only [ab] at hsn
      have hs0:=aj hsn.2
      subst hs0
      obtain⟨h0,h1,h2,h9⟩:=hk _ rfl
      subst h9
      have hr:=(Bw hL hp e2).d_inv
      generalize hval:a.eval x=xv at hr
      cases hr with
      | @osb _ _ _ _ q ad len cap hρ hl hc hq hq2=>
       have hlen:len=rows.length/\rows.length<=cap:=by
        rcases (hI.ok i _ _ hri hρ).live rfl with⟨h3,h4⟩ | ⟨b,o,cp,vs,h3,_,h4,_⟩
        ·cases h3;subst h4;exact⟨rfl,by simp⟩
        ·cases h3;exact⟨rfl,h4⟩
       obtain⟨hlen,hcap⟩:=hlen
       subst hlen
       have hb:=Ah8 (P:=P) (w:=w) hL hp (len:=n0) (cap:=cap-o0) e3 e4 h0 h1 (by omega)
       refine⟨.slice (if cap-o0=l.toNat then ad.map (·.add q) else (ad.map (·.add q)).map (·.add (l.toNat*s0))) (hh.toNat-l.toNat) (cap-o0-l.toNat),?_,?_⟩
       ·simp only [execOp,hval,Instr.sliceAt,Sem.run_bind,run_underlying e1,Result.andThen_ok,Option.map_none]
        simp only [Instr.slice,Sem.run_bind,run_underlying e1,Result.andThen_ok,hb,Co e5,Sem.run_pure]
       ·rw [show cap-o0-l.toNat=cap-(o0+l.toNat) from by omega]
        by_cases hcl:cap-o0=l.toNat
        ·rw [if_pos hcl]
         exact .d (.osb hρ (by omega) (by omega) (by rw [aG];omega) (by omega))
        ·rw [if_neg hcl]
         have hq3:=hq2 (by omega)
         have:(ad.map (·.add q)).map (·.add (l.toNat*s0))=ad.map (·.add (q+l.toNat*s0)):=by cases ad <;> simp [P8]
         rw [this]
         exact .d (.osb hρ (by omega) (by omega) (by rw [aG];omega) (λ _=>by rw [aG,hq3]))
     ·cases h
    ·cases h
   ·rename_i s e1 e2
    split at h
    ·rename_i k1 l k2 hh e3 e4
     split at h
     case h_2=>cases h
     simp only [ah,aq] at h
     obtain⟨rfl,rfl⟩:=h
     obtain⟨h0,h1,h2,h9⟩:=hk _ rfl
     subst h9
     have hx:=(Bw hL hp e2).exact_inv
     have hb:(Instr.sliceBounds false s.size s.size (lo.map a.eval) (hi.map a.eval) none).run P w = .ok (l.toNat,hh.toNat,s.size) w:=by
      unfold Instr.sliceBounds
      cases hi with
      | none=>
       simp only [ah,Value.int.injEq] at e4
       obtain⟨_,e4⟩:=e4
       subst e4
       cases lo with
       | none=>
        simp only [ah,Value.int.injEq] at e3
        obtain⟨_,e3⟩:=e3
        subst e3
        simp
       | some y=>
        simp only at e3
        have:=Cn (P:=P) (w:=w) (k:=k1) (n:=l) (y:=s.size) (c:=.sliceB) h0 (by omega)
        simp [Bq hL hp e3,this]
      | some z=>
       simp only at e4
       have g1:=Cn (P:=P) (w:=w) (k:=k2) (n:=hh) (y:=s.size) (c:=.sliceAlen) (by omega) (by omega)
       cases lo with
       | none=>
        simp only [ah,Value.int.injEq] at e3
        obtain⟨_,e3⟩:=e3
        subst e3
        simp [Bq hL hp e4,g1]
       | some y=>
        simp only at e3
        have:=Cn (P:=P) (w:=w) (k:=k1) (n:=l) (y:=hh.toNat) (c:=.sliceB) h0 (by omega)
        simp [Bq hL hp e3,Bq hL hp e4,this,g1]
     refine⟨.string (s.extract l.toNat hh.toNat),?_,Eb rfl⟩
     simp only [execOp,hx,Instr.sliceAt,Sem.run_bind,run_underlying e1,Result.andThen_ok,Option.map_none]
     simp [Instr.slice,run_underlying e1,hb]
    ·cases h
   ·cases h
 | call kk =>
  obtain⟨callee,cargs,argTypes⟩:=kk
  cases callee with
  | value f=>simp [Cq] at h
  | invoke r m=>simp [Cq] at h
  | builtin b=>
   simp only [Cq] at h
   split at h
   ·rename_i args e1
    have hargs:=Fc hL hp e1
    have hrun:∀ x,(builtin b argTypes type (cargs.map fun | .const _=>true | _=>false) (cargs.map a.eval)).run P w = .ok (.value x) w ->
      (execOp a.eval ⟨dst,.call ⟨.builtin b,cargs,argTypes⟩,type,pos,after,guard⟩).run P w = .ok (.value x) w:=by
     intro x hx
     simp only [execOp,resolve,Sem.run_bind,Sem.run_pure,Result.andThen_ok,invoke]
     exact hx
    have hl:(cargs.map a.eval).toList=cargs.toList.map a.eval:=by simp
    have harr:∀ l,cargs.toList.map a.eval=l->cargs.map a.eval=l.toArray:=λ l h=>by apply Array.ext';rw [hl,h]
    split at h
    ·rename_i t e2
     split at h
     ·rename_i e hu
      obtain⟨n,hn,he⟩:∃ n,Ly R args=some n/\v=ofV (.int .i64 n):=by
       split at h
       ·obtain⟨n,hn,h2⟩:=Dl h
        simp at h2;obtain⟨rfl,rfl⟩:=h2
        have:=hk _ rfl
        have this:n=_:=this
        exact⟨n,hn,by rw [←this]⟩
       ·obtain⟨n,hn,h2⟩:=Dl h
        simp at h2
        exact⟨n,hn,h2.1.symm⟩
      subst he
      obtain⟨b,kx,c,hv,rfl⟩:=Amn hI hargs hn
      refine⟨_,hrun _ ?_,Eb rfl⟩
      rw [harr _ hv]
      simp [builtin,Builtin.len_,e2,run_underlying hu,goInt]
     ·rename_i hu
      obtain⟨n,hn,h2⟩:=Dl h
      simp at h2;obtain⟨rfl,rfl⟩:=h2
      obtain⟨s,hv,rfl⟩:=Amm hargs hn
      refine⟨_,hrun _ ?_,Eb rfl⟩
      rw [harr _ hv]
      simp [builtin,Builtin.len_,e2,run_underlying hu,goInt]
     ·cases h
    ·obtain⟨n,hn,h2⟩:=Dl h
     simp at h2;obtain⟨rfl,rfl⟩:=h2
     unfold Ayl at hn
     split at hn
     ·rename_i x r hx
      have hv:=Aff hx hargs
      split at hn
      ·refine⟨_,hrun _ ?_,Eb rfl⟩
       rw [harr _ hv]
       have:=Aga (P:=P) (w:=w) hn
       simp [builtin,Builtin.max_,this]
      ·refine⟨_,hrun _ ?_,Eb rfl⟩
       rw [harr _ hv]
       have:=Af9 (P:=P) (w:=w) hn
       simp [builtin,Builtin.min_,this]
      ·cases hn
     ·cases hn
   ·cases h
 | _=>simp [Cq] at h
end
end Go.SL
namespace Go.SL
section
variable {P:Program} {C:Ctx} {S S':Nat->Prop} {w w':World} {ρ ρ':List Value} {R:List Res}
theorem K3 {f:Nat->Option Nat}:∀ {l l':List D},D.renL f l=some l'->l'.length=l.length/\∀ (j:Nat) d',l'[j]? = some d'->∃ d,l[j]? = some d/\D.ren f d=some d'
 | [],l',h=>by simp [D.renL] at h;subst h;simp
 | d::r,l',h=>by
  simp only [D.renL] at h
  split at h
  ·rename_i d1 r1 h1 h2
   simp at h;subst h
   obtain⟨g1,g2⟩:=K3 h2
   refine⟨by simp [g1],λ j d' hj=>?_⟩
   cases j with
   | zero=>simp at hj;subst hj;exact⟨d,rfl,h1⟩
   | succ j=>simp at hj ⊢;exact g2 j d' hj
  ·cases h
theorem Rd.ren {f:Nat->Option Nat} (hf:∀ (i j:Nat) x,f i=some j->ρ[i]? = some x->ρ'[j]? = some x) {x:Value} {d:D} (h:Rd S w ρ x d) :
  ∀ d',D.ren f d=some d'->Rd S w ρ' x d':=by
 induction h with
 | p h=>intro d' e;simp [D.ren] at e;subst e;exact .p h
 | o h=>
  intro d' e
  simp only [D.ren] at e
  split at e
  ·rename_i j hj
   simp at e;subst e
   exact .o (hf _ _ _ hj h)
  ·cases e
 | os h h1=>
  intro d' e
  simp only [D.ren] at e
  split at e
  ·rename_i j hj
   simp at e;subst e
   exact .os (hf _ _ _ hj h) h1
  ·cases e
 | oe h=>
  intro d' e
  simp only [D.ren] at e
  split at e
  ·rename_i j hj
   simp at e;subst e
   exact .oe (hf _ _ _ hj h)
  ·cases e
 | osb h hl hc hq hq2=>
  intro d' e
  simp only [D.ren] at e
  split at e
  ·rename_i j hj
   simp at e;subst e
   exact .osb (hf _ _ _ hj h) hl hc hq hq2
  ·cases e
 | any h1=>intro d' e;simp [D.ren] at e;subst e;exact .any h1
 | nq h=>intro d' e;simp [D.ren] at e;subst e;exact .nq h
 | oi h hx h1=>
  intro d' e
  simp only [D.ren] at e
  split at e
  ·rename_i j q hj hq
   simp at e;subst e
   exact .oi (hf _ _ _ hq h) hx h1
  ·cases e
 | ip h=>intro d' e;simp [D.ren] at e;subst e;exact .ip h
 | fn hl hm hx hc ih1 ih2=>
  intro d' e
  simp only [D.ren] at e
  split at e
  ·rename_i a b h1 h2
   simp at e;subst e
   obtain⟨g1,g2⟩:=K3 h1
   obtain⟨g3,g4⟩:=K3 h2
   refine .fn (by omega) (by omega) (λ j x d hxj hd=>?_) (λ j x d hxj hd=>?_)
   ·obtain⟨d0,k1,k2⟩:=g2 j d hd
    exact ih1 j x d0 hxj k1 d k2
   ·obtain⟨d0,k1,k2⟩:=g4 j d hd
    exact ih2 j x d0 hxj k1 d k2
  ·cases e
theorem A5.renL {f:Nat->Option Nat} (hf:∀ (i j:Nat) x,f i=some j->ρ[i]? = some x->ρ'[j]? = some x) {vs:List Value} {ds ds':List D} (h:A5 (Rd S w ρ) vs ds) (e:D.renL f ds=some ds') :
  A5 (Rd S w ρ') vs ds':=by
 obtain⟨g1,g2⟩:=K3 e
 refine d4 (by rw [h.length,g1]) λ j x d hx hd=>?_
 obtain⟨d0,k1,k2⟩:=g2 j d hd
 exact (h.both hx k1).ren hf d k2
theorem M1 {f:Nat->Option Nat}:∀ {l l':List AV},AV.renL f l=some l'->l'.length=l.length/\∀ (j:Nat) d',l'[j]? = some d'->∃ d,l[j]? = some d/\AV.ren f d=some d'
 | [],l',h=>by simp [AV.renL] at h;subst h;simp
 | d::r,l',h=>by
  simp only [AV.renL] at h
  split at h
  ·rename_i d1 r1 h1 h2
   simp at h;subst h
   obtain⟨g1,g2⟩:=M1 h2
   refine⟨by simp [g1],λ j d' hj=>?_⟩
   cases j with
   | zero=>simp at hj;subst hj;exact⟨d,rfl,h1⟩
   | succ j=>simp at hj ⊢;exact g2 j d' hj
  ·cases h
theorem RdA.ren {f:Nat->Option Nat} (hf:∀ (i j:Nat) x,f i=some j->ρ[i]? = some x->ρ'[j]? = some x) {x:Value} {d:AV} (h:RdA S w ρ x d) :
  ∀ d',AV.ren f d=some d'->RdA S w ρ' x d':=by
 induction h with
 | d h=>
  intro d' e
  simp only [AV.ren] at e
  split at e
  ·rename_i y hy
   simp at e;subst e
   exact .d (h.ren hf _ hy)
  ·cases e
 | agg h=>
  intro d' e
  simp only [AV.ren] at e
  split at e
  ·rename_i y hy
   simp at e;subst e
   exact .agg (h.renL hf hy)
  ·cases e
 | tup hl _ ih=>
  intro d' e
  simp only [AV.ren] at e
  split at e
  ·rename_i y hy
   simp at e;subst e
   obtain⟨g1,g2⟩:=M1 hy
   refine .tup (by omega) λ j x a hx ha=>?_
   obtain⟨a0,k1,k2⟩:=g2 j a ha
   exact ih j x a0 hx k1 a k2
  ·cases e
theorem dy {f:Nat->Option Nat} (hf:∀ (i j:Nat) x,f i=some j->ρ[i]? = some x->ρ'[j]? = some x) {r r':Res} {v:Value} (h:r.ok0 S w ρ v) (e:r.ren f=some r') :
  r'.ok0 S w ρ' v/\r'.foot v=r.foot v:=by
 cases r with
 | box t cells=>
  simp only [Res.ren] at e
  split at e
  ·rename_i cs hc
   simp at e;subst e
   obtain⟨b,vs,rfl,h1,h2⟩:=h
   exact⟨⟨b,vs,rfl,h1,h2.renL hf hc⟩,rfl⟩
  ·cases e
 | sl t size rows=>simp [Res.ren] at e;subst e;exact⟨h,rfl⟩
 | zsl t size rows=>simp [Res.ren] at e;subst e;exact⟨h,rfl⟩
 | gh size tys rows hole=>simp [Res.ren] at e;subst e;exact⟨h,rfl⟩
 | dsl t size g=>
  simp only [Res.ren] at e
  split at e
  ·rename_i q hq
   simp at e;subst e
   obtain⟨f',xs,cs,h1,h2⟩:=h
   exact⟨⟨f',xs,cs,hf _ _ _ hq h1,h2⟩,rfl⟩
  ·cases e
 | non=>simp [Res.ren] at e;subst e;exact⟨h,rfl⟩
 | vec t cells=>
  simp only [Res.ren] at e
  split at e
  ·rename_i cs hc
   simp at e;subst e
   obtain⟨b,vs,rfl,h1,h2,h3⟩:=h
   have hl:=(h2.renL hf hc).length
   have hl2:=h2.length
   have hle:cs.length=cells.length:=by rw [←hl,hl2]
   exact⟨⟨b,vs,by rw [hle],h1,h2.renL hf hc,by rw [hle];exact h3⟩,rfl⟩
  ·cases e
theorem dh {f:Nat->Option Nat} (hf:∀ (i j:Nat) x,f i=some j->ρ[i]? = some x->ρ'[j]? = some x) {r r':Res} {v:Value} (h:r.ok S w ρ v) (e:r.ren f=some r') :
  r'.ok S w ρ' v/\r'.foot v=r.foot v:=by
 rcases h with h | h
 ·exact⟨.inl h,by funext b;exact propext ⟨λ x=>absurd x (d6 h b),λ x=>absurd x (d6 h b)⟩⟩
 ·obtain⟨h1,h2⟩:=dy hf h e
  exact⟨.inr h1,h2⟩
theorem Rd.norm {x:Value} {d:D} (h:Rd S w ρ x d):Rd S w ρ x d.norm:=by
 unfold D.norm
 split
 ·have:=h
  cases this with
  | p h=>
   have:=h.v_form
   subst this
   exact .p (.s none ⟨0,0,none⟩ 0 0 [] (λ _ _=>undef) (af _) (by simp [maxLen]) (λ _=>rfl) (by simp) (by simp) (by simp))
 ·exact h
theorem RdA.norm {x:Value} {d:AV} (h:RdA S w ρ x d):RdA S w ρ x d.norm:=by
 cases h with
 | d h=>exact .d h.norm
 | agg h=>exact .agg (h.map_right λ _ _ h=>h.norm)
 | tup hl h=>exact .tup hl h
theorem Te:∀ {l:List Nat} {i j:Nat},Ev l i=some j->l[j]? = some i
 | [],_,_,h=>by simp [Ev] at h
 | a::r,i,j,h=>by
  simp only [Ev] at h
  cases hb:Nat.beq a i with
  | true=>rw [hb] at h;simp at h;subst h;have:=aj hb;subst this;rfl
  | false=>
   rw [hb] at h
   simp only [cond_false] at h
   split at h
   ·rename_i k hk
    simp at h;subst h
    simpa using Te hk
   ·cases h
theorem Q8:∀ {l:List Nat} {i:Nat},Ev l i=none->∀ (j:Nat),l[j]? ≠ some i
 | [],_,_,j=>by simp
 | a::r,i,h,j=>by
  simp only [Ev] at h
  cases hb:Nat.beq a i with
  | true=>rw [hb] at h;simp at h
  | false=>
   rw [hb] at h
   simp only [cond_false] at h
   split at h
   ·cases h
   ·rename_i hn
    cases j with
    | zero=>simp;intro e;subst e;simp at hb
    | succ j=>simpa using Q8 hn j
theorem S8:∀ {l:List Nat},Fo l=true->∀ {i j k:Nat},l[i]? = some k->l[j]? = some k->i=j
 | [],_,i,j,k,h,_=>by simp at h
 | a::r,h,i,j,k,h1,h2=>by
  simp only [Fo,ab,Option.isNone_iff_eq_none] at h
  cases i with
  | zero=>cases j with
   | zero=>rfl
   | succ j=>
    simp at h1 h2
    subst h1
    exact absurd h2 (Q8 h.1 j)
  | succ i=>cases j with
   | zero=>
    simp at h1 h2
    subst h2
    exact absurd h1 (Q8 h.1 i)
   | succ j=>
    simp at h1 h2
    rw [S8 h.2 h1 h2]
theorem Oi:∀ {pi:List Nat} {l:List Res},Kj R pi=some l->l.length=pi.length/\∀ (j i:Nat),pi[j]? = some i->∃ r,l[j]? = some r/\R[i]? = some r
 | [],l,h=>by simp [Kj] at h;subst h;simp
 | a::r,l,h=>by
  simp only [Kj] at h
  split at h
  ·rename_i x xs h1 h2
   simp at h;subst h
   obtain⟨g1,g2⟩:=Oi h2
   refine⟨by simp [g1],λ j i hj=>?_⟩
   cases j with
   | zero=>simp at hj;subst hj;exact⟨x,rfl,h1⟩
   | succ j=>simp at hj ⊢;exact g2 j i hj
  ·cases h
theorem H7 {f:Nat->Option Nat}:∀ {l l':List Res},H0 f l=some l'->l'.length=l.length/\∀ (j:Nat) r',l'[j]? = some r'->∃ r,l[j]? = some r/\r.ren f=some r'
 | [],l',h=>by simp [H0] at h;subst h;simp
 | d::r,l',h=>by
  simp only [H0] at h
  split at h
  ·rename_i d1 r1 h1 h2
   simp at h;subst h
   obtain⟨g1,g2⟩:=H7 h2
   refine⟨by simp [g1],λ j d' hj=>?_⟩
   cases j with
   | zero=>simp at hj;subst hj;exact⟨d,rfl,h1⟩
   | succ j=>simp at hj ⊢;exact g2 j d' hj
  ·cases h
theorem Fs:∀ (pi:List Nat) (R l:List Res),(Fh R pi l).length=R.length
 | [],R,l=>by simp [Fh]
 | i::pi,R,[]=>by simp [Fh]
 | i::pi,R,r::l=>by simp [Fh,Fs pi]
theorem Qv:∀ (pi:List Nat) (R l:List Res) (k:Nat) (r:Res),(Fh R pi l)[k]? = some r->(∃ j:Nat,pi[j]? = some k/\l[j]? = some r)\/(R[k]? = some r/\(pi.length<=l.length->∀ j:Nat,pi[j]? ≠ some k))
 | [],R,l,k,r,h=>by simp [Fh] at h;exact .inr ⟨h,by simp⟩
 | i::pi,R,[],k,r,h=>by simp [Fh] at h;exact .inr ⟨h,by simp⟩
 | i::pi,R,x::l,k,r,h=>by
  simp only [Fh] at h
  rcases Qv pi (R.set i x) l k r h with⟨j,h1,h2⟩ | ⟨h1,h2⟩
  ·exact .inl ⟨j+1,by simpa using h1,by simpa using h2⟩
  ·rw [ay] at h1
   split at h1
   ·rename_i e
    subst e
    split at h1
    ·cases h1;exact .inl ⟨0,rfl,rfl⟩
    ·cases h1
   ·rename_i e
    refine .inr ⟨h1,λ hl j=>?_⟩
    cases j with
    | zero=>simpa using e
    | succ j=>simpa using h2 (by simpa using hl) j
def C6 (ρ:List Value) (pi:List Nat):List Value:=pi.map λ i=>ρ.getD i undef
theorem Al9 {pi:List Nat} {j:Nat} {x:Value} (h:(C6 ρ pi)[j]? = some x):∃ i,pi[j]? = some i/\x=ρ.getD i undef:=by
 unfold C6 at h
 rw [az] at h
 cases hj:pi[j]? with
 | none=>rw [hj] at h;cases h
 | some i=>rw [hj] at h;simp at h;exact⟨i,rfl,by rw [←h];simp⟩
theorem Inv.start (hI:Inv C S w ρ R) {pi:List Nat} {Rp Rp':List Res} (hn:Fo pi=true) (hp:Kj R pi=some Rp) (hr:H0 (Ev pi) Rp=some Rp') :
  Start S w (C6 ρ pi) Rp'/\(∀ (i j:Nat) x,Ev pi i=some j->ρ[i]? = some x->(C6 ρ pi)[j]? = some x) /\
   (∀ (j:Nat) r h,Rp'[j]? = some r->(C6 ρ pi)[j]? = some h->∃ i r0,pi[j]? = some i/\R[i]? = some r0/\ρ[i]? = some h/\r.foot h=r0.foot h):=by
 obtain⟨p1,p2⟩:=Oi hp
 obtain⟨q1,q2⟩:=H7 hr
 have hid:∀ (i j:Nat) x,Ev pi i=some j->ρ[i]? = some x->(C6 ρ pi)[j]? = some x:=by
  intro i j x h1 h2
  have:=Te h1
  simp [C6,this,List.getD_eq_getElem?_getD,h2]
 have back:∀ (j:Nat) r h,Rp'[j]? = some r->(C6 ρ pi)[j]? = some h->∃ i r0,pi[j]? = some i/\R[i]? = some r0/\ρ[i]? = some h/\r0.ren (Ev pi)=some r:=by
  intro j r h h1 h2
  obtain⟨i,hi,hx⟩:=Al9 h2
  obtain⟨r0,g1,g2⟩:=q2 j r h1
  obtain⟨r1,g3,g4⟩:=p2 j i hi
  rw [g3] at g1;cases g1
  have hlt:i<ρ.length:=by rw [hI.len];exact (aa.1 g4).1
  refine⟨i,r0,hi,g4,?_,g2⟩
  rw [hx,cO,ai hlt];rfl
 have back':∀ (j:Nat) r h,Rp'[j]? = some r->(C6 ρ pi)[j]? = some h->∃ i r0,pi[j]? = some i/\R[i]? = some r0/\ρ[i]? = some h/\r.ok S w (C6 ρ pi) h/\r.foot h=r0.foot h:=by
  intro j r h h1 h2
  obtain⟨i,r0,k1,k2,k3,k4⟩:=back j r h h1 h2
  obtain⟨m1,m2⟩:=dh hid (hI.ok i r0 h k2 k3) k4
  exact⟨i,r0,k1,k2,k3,m1,m2⟩
 refine⟨⟨by simp [C6,q1,p1],?_,?_,?_,λ b hb=>(hI.sup b hb).1,hI.glOk⟩,hid,λ j r h h1 h2=>?_⟩
 ·intro j r h h1 h2
  obtain⟨i,r0,_,_,_,k,_⟩:=back' j r h h1 h2
  exact k
 ·intro j1 j2 r1 r2 h1 h2 b hj e1 e2 e3 e4 f1 f2
  obtain⟨i1,s1,k1,k2,k3,_,k5⟩:=back' j1 r1 h1 e1 e3
  obtain⟨i2,s2,m1,m2,m3,_,m5⟩:=back' j2 r2 h2 e2 e4
  refine hI.dis i1 i2 s1 s2 h1 h2 b (λ e=>hj ?_) k2 m2 k3 m3 (by rw [←k5];exact f1) (by rw [←m5];exact f2)
  subst e
  exact S8 hn k1 m1
 ·intro j r h b h1 h2 h3
  obtain⟨i,r0,k1,k2,k3,_,k5⟩:=back' j r h h1 h2
  have:=hI.own i r0 h b k2 k3 (by rw [←k5];exact h3)
  exact⟨this.1,this.2.1⟩
 ·obtain⟨i,r0,k1,k2,k3,_,k5⟩:=back' j r h h1 h2
  exact⟨i,r0,k1,k2,k3,k5⟩
theorem Inv.back (hI:Inv C S w ρ R) {pi:List Nat} {Rp Rp' Rq Rq':List Res} {ρq:List Value} (hn:Fo pi=true) (hp:Kj R pi=some Rp) (hr:H0 (Ev pi) Rp=some Rp')
  (hq:Inv ⟨w,S,Dz (C6 ρ pi) Rp',C6 ρ pi,[]⟩ S' w' ρq Rq) (hlen:pi.length<=Rq.length) (hrq:H0 (Fx pi R.length) Rq=some Rq') :
  Inv C S' w' (ρ++ρq.drop pi.length) (Fh R pi Rq'++Rq'.drop pi.length)/\(∀ b,S b->S' b)/\(∀ b,S b->w'.heap[b]? = w.heap[b]?)/\Pre ρ (ρ++ρq.drop pi.length) /\
   (∀ (i j:Nat) x,Fx pi R.length i=some j->ρq[i]? = some x->(ρ++ρq.drop pi.length)[j]? = some x):=by
 obtain⟨st,hid,foots⟩:=hI.start hn hp hr
 obtain⟨p1,p2⟩:=Oi hp
 obtain⟨q1,q2⟩:=H7 hr
 obtain⟨t1,t2⟩:=H7 hrq
 have hρ:Pre ρ (ρ++ρq.drop pi.length):=Pre.append _ _
 have hpre:Pre (C6 ρ pi) ρq:=hq.pre
 have hfeet:∀ b,Dz (C6 ρ pi) Rp' b->∃ i r0 h,(∃ j:Nat,pi[j]? = some i)/\R[i]? = some r0/\ρ[i]? = some h/\r0.foot h b:=by
  rintro b ⟨j,r,h,h1,h2,h3⟩
  obtain⟨i,r0,k1,k2,k3,k4⟩:=foots j r h h1 h2
  exact⟨i,r0,h,⟨j,k1⟩,k2,k3,by rw [←k4];exact h3⟩
 have hSf:∀ b,S b->¬Dz (C6 ρ pi) Rp' b:=by
  intro b hb hf
  obtain⟨i,r0,h,_,k2,k3,k4⟩:=hfeet b hf
  exact (hI.own i r0 h b k2 k3 k4).1 hb
 have hSw:∀ b,S b->w'.heap[b]? = w.heap[b]?:=λ b hb=>hq.frm b (hI.sup b hb).1 (hSf b hb)
 have hbk:∀ (i j:Nat) x,Fx pi R.length i=some j->ρq[i]? = some x->(ρ++ρq.drop pi.length)[j]? = some x:=by
  intro i j x h1 h2
  unfold Fx at h1
  cases hi:pi[i]? with
  | some k=>
   rw [hi] at h1;simp at h1;subst h1
   have hlt:i<pi.length:=(aa.1 hi).1
   have hh:(C6 ρ pi)[i]? = some (ρ.getD k undef):=by simp [C6,hi]
   have:=hpre _ _ hh
   rw [this] at h2;cases h2
   obtain⟨r,_,g2⟩:=p2 i k hi
   have hkl:k<ρ.length:=by rw [hI.len];exact (aa.1 g2).1
   rw [aD hkl,cO,ai hkl];rfl
  | none=>
   rw [hi] at h1;simp at h1;subst h1
   have hge:pi.length<=i:=by
    rcases aN i pi.length with h | h
    ·rw [ai h] at hi;cases hi
    ·exact h
   rw [←hI.len,aQ (by omega)]
   rw [ar]
   rw [show pi.length+(ρ.length+(i-pi.length)-ρ.length)=i from by omega]
   exact h2
 have src:∀ (k:Nat) r h,(Fh R pi Rq'++Rq'.drop pi.length)[k]? = some r->(ρ++ρq.drop pi.length)[k]? = some h ->
   (∃ j r0,Rq[j]? = some r0/\r0.ren (Fx pi R.length)=some r/\ρq[j]? = some h/\Fx pi R.length j=some k)\/(R[k]? = some r/\ρ[k]? = some h/\∀ j:Nat,pi[j]? ≠ some k):=by
  intro k r h h1 h2
  rcases aN k R.length with hk | hk
  ·rw [aD (by rw [Fs];exact hk)] at h1
   rw [aD (by rw [hI.len];exact hk)] at h2
   rcases Qv pi R Rq' k r h1 with⟨j,g1,g2⟩ | ⟨g1,g2⟩
   ·obtain⟨r0,g3,g4⟩:=t2 j r g2
    refine .inl ⟨j,r0,g3,g4,?_,by simp [Fx,g1]⟩
    have hh:(C6 ρ pi)[j]? = some (ρ.getD k undef):=by simp [C6,g1]
    have:=hpre _ _ hh
    rw [this,cO,h2];rfl
   ·exact .inr ⟨g1,h2,g2 (by omega)⟩
  ·rw [aQ (by rw [Fs];exact hk),Fs,ar] at h1
   rw [aQ (by rw [hI.len];exact hk),ar,hI.len] at h2
   obtain⟨r0,g3,g4⟩:=t2 _ r h1
   refine .inl ⟨_,r0,g3,g4,h2,?_⟩
   unfold Fx
   rw [cJ (by omega)]
   simp;omega
 have inj:∀ (j1 j2 k:Nat),Fx pi R.length j1=some k->Fx pi R.length j2=some k->j1=j2:=by
  intro j1 j2 k h1 h2
  have small:∀ (j i:Nat),pi[j]? = some i->i<R.length:=λ j i h=>by
   obtain⟨r,_,g⟩:=p2 j i h
   exact (aa.1 g).1
  have big:∀ j,pi[j]? = none->pi.length<=j:=λ j hi=>by
   rcases aN j pi.length with h | h
   ·rw [ai h] at hi;cases hi
   ·exact h
  unfold Fx at h1 h2
  cases e1:pi[j1]? with
  | some i1=>
   rw [e1] at h1;simp at h1;subst h1
   have:=small j1 _ e1
   cases e2:pi[j2]? with
   | some i2=>rw [e2] at h2;simp at h2;subst h2;exact S8 hn e1 e2
   | none=>rw [e2] at h2;simp at h2;omega
  | none=>
   rw [e1] at h1;simp at h1
   have:=big j1 e1
   cases e2:pi[j2]? with
   | some i2=>rw [e2] at h2;simp at h2;have:=small j2 _ e2;omega
   | none=>rw [e2] at h2;simp at h2;have:=big j2 e2;omega
 have hS'old:∀ b,S' b->S b\/Dz (C6 ρ pi) Rp' b\/w.heap.size<=b:=λ b hb=>(hq.sup b hb).2
 refine⟨⟨?_,?_,?_,?_,λ b hb=>hq.sub b (hI.sub b hb),?_,?_,aw hI.size hq.size,hq.os.trans hI.os,hq.tape.trans hI.tape,hq.output.trans hI.output,hI.pre.trans hρ,hI.gl⟩,hq.sub,hSw,hρ,hbk⟩
 ·have:=hq.len
  simp [hI.len,Fs,t1,this]
 ·intro k r h h1 h2
  rcases src k r h h1 h2 with⟨j,r0,g1,g2,g3,g4⟩ | ⟨g1,g2,g3⟩
  ·exact (dh hbk (hq.ok j r0 h g1 g3) g2).1
  ·refine (hI.ok k r h g1 g2).mono hq.sub hSw hρ λ b hb=>hq.frm b (hI.own k r h b g1 g2 hb).2.1 λ hf=>?_
   obtain⟨i,r1,v,⟨j,k1⟩,k2,k3,k4⟩:=hfeet b hf
   exact hI.dis i k r1 r v h b (λ e=>g3 j (e ▸ k1)) k2 g1 k3 g2 k4 hb
 ·intro k1 k2 r1 r2 v1 v2 b hk e1 e2 e3 e4 f1 f2
  have cross:∀ (k1 k2:Nat) r1 r2 v1 v2,(∃ j r0,Rq[j]? = some r0/\r0.ren (Fx pi R.length)=some r1/\ρq[j]? = some v1/\Fx pi R.length j=some k1) ->
    (R[k2]? = some r2/\ρ[k2]? = some v2/\∀ j:Nat,pi[j]? ≠ some k2)->r1.foot v1 b->r2.foot v2 b->False:=by
   rintro k1 k2 r1 r2 v1 v2 ⟨j,r0,g1,g2,g3,g4⟩ ⟨m1,m2,m3⟩ f1 f2
   have hf:r0.foot v1 b:=by rw [←(dh hbk (hq.ok j r0 v1 g1 g3) g2).2];exact f1
   obtain⟨_,_,o3⟩:=hq.own j r0 v1 b g1 g3 hf
   have hb:=(hI.own k2 r2 v2 b m1 m2 f2).2.1
   rcases o3 with o3 | o3
   ·obtain⟨i,r3,v,⟨j',n1⟩,n2,n3,n4⟩:=hfeet b o3
    exact hI.dis i k2 r3 r2 v v2 b (λ e=>m3 j' (e ▸ n1)) n2 m1 n3 m2 n4 f2
   ·exact absurd hb (Nat.not_lt.2 o3)
  rcases src k1 r1 v1 e1 e3 with s1 | s1
  ·rcases src k2 r2 v2 e2 e4 with s2 | s2
   ·obtain⟨j,r0,g1,g2,g3,g4⟩:=s1
    obtain⟨j',r0',g1',g2',g3',g4'⟩:=s2
    refine hq.dis j j' r0 r0' v1 v2 b (λ e=>hk ?_) g1 g1' g3 g3' (by rw [←(dh hbk (hq.ok j r0 v1 g1 g3) g2).2];exact f1) (by rw [←(dh hbk (hq.ok j' r0' v2 g1' g3') g2').2];exact f2)
    subst e
    rw [g4] at g4';cases g4';rfl
   ·exact cross k1 k2 r1 r2 v1 v2 s1 s2 f1 f2
  ·rcases src k2 r2 v2 e2 e4 with s2 | s2
   ·exact cross k2 k1 r2 r1 v2 v1 s2 s1 f2 f1
   ·exact hI.dis k1 k2 r1 r2 v1 v2 b hk s1.1 s2.1 s1.2.1 s2.2.1 f1 f2
 ·intro k r h b h1 h2 h3
  rcases src k r h h1 h2 with⟨j,r0,g1,g2,g3,g4⟩ | ⟨g1,g2,g3⟩
  ·have hf:r0.foot h b:=by rw [←(dh hbk (hq.ok j r0 h g1 g3) g2).2];exact h3
   obtain⟨o1,o2,o3⟩:=hq.own j r0 h b g1 g3 hf
   refine⟨o1,o2,?_⟩
   rcases o3 with o3 | o3
   ·obtain⟨i,r3,v,_,n2,n3,n4⟩:=hfeet b o3
    exact (hI.own i r3 v b n2 n3 n4).2.2
   ·exact .inr (aw hI.size o3)
  ·obtain⟨o1,o2,o3⟩:=hI.own k r h b g1 g2 h3
   refine⟨λ hb=>?_,aK o2 hq.size,o3⟩
   rcases hS'old b hb with hb | hb | hb
   ·exact o1 hb
   ·obtain⟨i,r3,v,⟨j,n1⟩,n2,n3,n4⟩:=hfeet b hb
    exact hI.dis i k r3 r v h b (λ e=>g3 j (e ▸ n1)) n2 g1 n3 g2 n4 h3
   ·omega
 ·intro b hb
  refine⟨(hq.sup b hb).1,?_⟩
  rcases hS'old b hb with hb | hb | hb
  ·exact (hI.sup b hb).2
  ·obtain⟨i,r3,v,_,n2,n3,n4⟩:=hfeet b hb
   exact .inr (hI.own i r3 v b n2 n3 n4).2.2
  ·exact .inr (.inr (aw hI.size hb))
 ·intro b hb hf
  refine (hq.frm b (aK hb hI.size) λ hff=>?_).trans (hI.frm b hb hf)
  obtain⟨i,r3,v,_,n2,n3,n4⟩:=hfeet b hff
  rcases (hI.own i r3 v b n2 n3 n4).2.2 with h | h
  ·exact hf h
  ·omega
end
end Go.SL
namespace Go.SL
section
variable {P:Program} {C:Ctx} {S S':Nat->Prop} {w w':World} {ρ ρ':List Value} {R:List Res} {L:List Ent} {cur:C_} {a:Act}
theorem Cp (w:World) (o:Obj) (b:Nat) (h:b<w.heap.size):(w.alloc o).heap[b]? = w.heap[b]?:=Go.RowKit.Below.heap_alloc w o b h
theorem Ew (w:World) (o:Obj):(w.alloc o).heap[w.heap.size]? = some o:=Go.heap_alloc_new w o
structure D_ (C:Ctx) (S:Nat->Prop) (w:World) (ρ:List Value) (R2:List Res) (v:Value) (av:AV) (S':Nat->Prop) (w':World) (ρ':List Value):Prop where
 inv:Inv C S' w' ρ' R2
 sub:∀ b,S b->S' b
 same:∀ b,S b->w'.heap[b]? = w.heap[b]?
 pre:Pre ρ ρ'
 rd:RdA S' w' ρ' v av
theorem Inv.newBox (hI:Inv C S w ρ R) {t:TypeId} {vs:Array Value} {cells:List D} (hc:A5 (Rd S w ρ) vs.toList cells) :
  D_ C S w ρ (R++[.box t cells]) (.pointer (some ⟨w.heap.size,0,none⟩)) (.d (.o R.length 0)) S (w.alloc (.cells vs t)) (ρ++[.pointer (some ⟨w.heap.size,0,none⟩)]):=by
 have hw:∀ b,S b->(w.alloc (.cells vs t)).heap[b]? = w.heap[b]?:=λ b hb=>Cp _ _ _ (hI.sup b hb).1
 refine⟨hI.push _ _ (λ b hb=>Cp _ _ _ hb) (by simp) rfl ⟨rfl,λ _=>by first | exact af _ | exact aJ _⟩ rfl ?_ ?_,λ _ h=>h,hw,Pre.append _ _,.d (.o ?_)⟩
 ·exact .inr ⟨_,vs,rfl,Ew _ _,hc.mono λ _ _ h=>h.mono (λ _ h=>h) hw (Pre.append _ _)⟩
 ·intro b hb
  simp [Res.foot] at hb;subst hb
  simp
 ·rw [←hI.len];simp
theorem Inv.newVec (hI:Inv C S w ρ R) {t:TypeId} {vs:Array Value} {cells:List D} {n:Nat} (hc:A5 (Rd S w ρ) vs.toList cells) (hn:cells.length=n) (hm:n<=maxLen) :
  D_ C S w ρ (R++[.vec t cells]) (.slice (some ⟨w.heap.size,0,none⟩) n n) (.d (.os R.length)) S (w.alloc (.cells vs t)) (ρ++[.slice (some ⟨w.heap.size,0,none⟩) n n]):=by
 subst hn
 have hw:∀ b,S b->(w.alloc (.cells vs t)).heap[b]? = w.heap[b]?:=λ b hb=>Cp _ _ _ (hI.sup b hb).1
 refine⟨hI.push _ _ (λ b hb=>Cp _ _ _ hb) (by simp) rfl ⟨rfl,λ _=>by first | exact af _ | exact aJ _⟩ rfl ?_ ?_,λ _ h=>h,hw,Pre.append _ _,.d (.os ?_ rfl)⟩
 ·exact .inr ⟨_,vs,rfl,Ew _ _,hc.mono λ _ _ h=>h.mono (λ _ h=>h) hw (Pre.append _ _),hm⟩
 ·intro b hb
  simp [Res.foot,El] at hb;subst hb
  simp
 ·rw [←hI.len];simp
theorem Lp (g o:Nat) (t:TypeId):∀ (vs:List Value) (i:Nat) (cur:Array Value) (w:World),Blk w g cur t->o+i+vs.length<=cur.size->(∀ v∈vs,v.oneCell'=true) ->
  (storeCells ⟨g,o,none⟩ vs i).run P w = .ok () (w.setRow g (cur.toList.take (o+i)++vs++cur.toList.drop (o+i+vs.length)).toArray)
 | [],i,cur,w,⟨fz,hg,_⟩,_,_=>by
  simp only [storeCells,aZ,bE,bx,bT,Array.toArray_toList]
  rw [setRow_self w g cur t fz hg]
  rfl
 | v::rest,i,cur,w,⟨fz,hg,hfz,hfm⟩,hl,h1=>by
  have hi:o+i<cur.size:=by simp at hl;omega
  have hadd:(⟨g,o,none⟩:Addr).add i=⟨g,o+i,none⟩:=by unfold Addr.add;split <;> simp_all
  have hcell:w.cell? ⟨g,o+i,none⟩=some cur[o+i]:=by simp [World.cell?,hg,hi]
  have hfro:w.frozen? ⟨g,o+i,none⟩=false:=by
   obtain⟨lo,hi'⟩:=fz
   simp only [World.frozen?,hg,ch,dF]
   simp only at hfz
   omega
  have hst:(store ((⟨g,o,none⟩:Addr).add i) v).run P w = .ok () (w.setRow g (cur.setIfInBounds (o+i) v)):=by
   rw [hadd,run_store P w _ v _ (h1 v (by simp)),hcell]
   simp [hfro,setCell_eq_setRow w g (o+i) cur t fz v hg]
  have ih:=Lp g o t rest (i+1) (cur.setIfInBounds (o+i) v) (w.setRow g (cur.setIfInBounds (o+i) v)) (Blk.put ⟨fz,hg,hfz,hfm⟩ (by simp)) (by simp at hl ⊢;omega) (λ x hx=>h1 x (by simp [hx]))
  simp only [storeCells,Sem.run_bind,hst,Result.andThen_ok,ih,setRow_setRow]
  congr 3
  have e:=list_seg_step cur.toList (o+i) v rest (by simp at hl ⊢;omega)
  simpa [Array.toList_setIfInBounds,Nat.add_assoc] using e
theorem Hz {g o:Nat} {t:TypeId} {vs:List Value} {cur:Array Value} (h:Blk w g cur t) (hl:o+vs.length<=cur.size) (h1:∀ v,v∈vs->v.oneCell'=true) :
  (storeCells ⟨g,o,none⟩ vs).run P w = .ok () (w.setRow g (cur.toList.take o++vs++cur.toList.drop (o+vs.length)).toArray):=by
 have:=Lp (P:=P) g o t vs 0 cur w h (by simpa using hl) h1
 simpa using this
theorem Avc {vs:List Value} {ds:List D} (h:A5 (Rd S w ρ) vs ds):∀ v,v∈vs->v.oneCell'=true:=by
 induction vs generalizing ds with
 | nil=>simp
 | cons x xs ih=>cases ds with
  | nil=>exact h.elim
  | cons d ds=>
   intro v hv
   rcases ag.1 hv with rfl | hv
   ·exact h.1.one
   ·exact ih h.2 v hv
theorem L9 {t:TypeId} {v:Value} {n g o:Nat} {u:TypeId} {cur:Array Value} (hn:B2 P t=some n) (hv:v.cells.size=n) (h:Blk w g cur u) (hl:o+n<=cur.size)
  (h1:∀ x,x∈v.cells.toList->x.oneCell'=true) :
  (storeVar t ⟨g,o,none⟩ v).run P w = .ok () (w.setRow g (cur.toList.take o++v.cells.toList++cur.toList.drop (o+v.cells.toList.length)).toArray):=by
 have:=Hz (P:=P) (w:=w) (g:=g) (o:=o) (t:=u) (vs:=v.cells.toList) (cur:=cur) h (by simpa [hv] using hl) h1
 simp only [storeVar,Sem.run_bind,Co hn,Result.andThen_ok]
 rw [if_neg (by simpa using hv)]
 exact this
theorem Inv.store (hI:Inv C S w ρ R) {i off n b:Nat} {t u:TypeId} {cells ds:List D} {v:Value} (hi:R[i]? = some (.box u cells)) (hρ:ρ[i]? = some (.pointer (some ⟨b,0,none⟩)))
  (hv:A5 (Rd S w ρ) v.cells.toList ds) (hn:B2 P t=some n) (hl:ds.length=n) (ho:off+n<=cells.length) :
  ∃ w',(storeVar t ⟨b,off,none⟩ v).run P w = .ok () w'/\Inv C S w' ρ (R.set i (.box u (Nb cells off ds)))/\(∀ k,S k->w'.heap[k]? = w.heap[k]?):=by
 obtain⟨vs,h1,h2⟩:=Ua hI hi hρ
 have hsz:v.cells.size=n:=by have:=hv.length;simpa [hl] using this
 have hcl:vs.size=cells.length:=by have:=h2.length;simpa using this
 refine⟨_,L9 hn hsz (.of h1) (by omega) (Avc hv),?_,?_⟩
 ·have hS:∀ k,k≠b->(w.setRow b (vs.toList.take off++v.cells.toList++vs.toList.drop (off+v.cells.toList.length)).toArray).heap[k]? = w.heap[k]?:=λ k hk=>B8 _ _ _ _ hk
  have ob:=hI.own i _ _ b hi hρ rfl
  refine hI.put hi hρ (b:=b) rfl (λ k hk=>by simp [Res.foot] at hk;exact hk.symm) hS (by simp) rfl ⟨rfl,λ _=>by first | exact af _ | exact aJ _⟩ rfl ?_
  refine .inr ⟨b,_,rfl,Dj _ _ _ _ _ _ h1,?_⟩
  have hm:∀ x d,Rd S w ρ x d->Rd S (w.setRow b (vs.toList.take off++v.cells.toList++vs.toList.drop (off+v.cells.toList.length)).toArray) ρ x d:=λ x d h=>
   h.mono (λ _ h=>h) (λ k hk=>hS k (λ e=>ob.1 (e ▸ hk))) (Pre.refl _)
  unfold Nb
  have hd:A5 (Rd S w ρ) (vs.toList.drop (off+v.cells.toList.length)) (cells.drop (off+ds.length)):=by
   rw [hv.length]
   exact h2.drop _
  have:=((h2.take off).append (hv.append hd)).mono hm
  simpa using this
 ·intro k hk
  exact B8 _ _ _ _ (λ e=>(hI.own i _ _ b hi hρ rfl).1 (e ▸ hk))
def Km (S:Nat->Prop) (ρ:List Value) (R:List Res) (b:Nat):Prop:=S b\/Dz ρ R b
theorem Inv.rho (hI:Inv C S w ρ R) {i:Nat} {r:Res} (h:R[i]? = some r):∃ v,ρ[i]? = some v:=by
 have hl:i<ρ.length:=by rw [hI.len];exact (aa.1 h).1
 exact⟨_,ai hl⟩
theorem vF (hI:Inv C S w ρ R) {v:Value} {d:D} {x:Pd} (h:Rd S w ρ v d) (e:Kb R d=some x):RdP (Km S ρ R) w v x:=by
 unfold Kb at e
 split at e
 ·simp at e;subst e
  cases h with | p h=>exact h.mono (λ _ h=>.inl h) (λ _ _=>rfl)
 ·rename_i i
  split at e
  ·rename_i t size rows hi
   simp at e;subst e
   cases h with
   | os h h1=>
    have hk:=Res.ok0.frozen ((hI.ok i _ v hi h).live h1)
    refine hk.mono (λ b hb=>?_) (λ _ _=>rfl)
    rcases hb with hb | hb
    ·exact .inl hb
    ·exact .inr ⟨i,_,v,hi,h,hb⟩
  ·rename_i t size rows hi
   simp at e;subst e
   cases h with
   | os h h1=>
    have hk:=zOk.frozen (S:=S) ((hI.ok i _ v hi h).live h1)
    refine hk.mono (λ b hb=>?_) (λ _ _=>rfl)
    rcases hb with hb | hb
    ·exact .inl hb
    ·exact .inr ⟨i,_,v,hi,h,hb⟩
  ·cases e
 ·cases e
theorem Xu (hI:Inv C S w ρ R):∀ {vs:List Value} {ds:List D} {ps:List Pd},A5 (Rd S w ρ) vs ds->Hr R ds=some ps->A5 (RdP (Km S ρ R) w) vs ps
 | [],[],ps,_,e=>by simp [Hr] at e;subst e;trivial
 | v::vs,d::ds,ps,h,e=>by
  simp only [Hr] at e
  split at e
  ·rename_i x l e1 e2
   simp at e;subst e
   exact⟨vF hI h.1 e1,Xu hI h.2 e2⟩
  ·cases e
 | [],_::_,_,h,_=>h.elim
 | _::_,[],_,h,_=>h.elim
theorem vC {rw:List Pd} {ds es:List D} (h:D.viewL R rw ds=some es):es.length=ds.length/\∀ (j:Nat) e,es[j]? = some e->∃ d,ds[j]? = some d/\d.view R rw=some e:=by
 induction ds generalizing es with
 | nil=>simp [D.viewL] at h;subst h;simp
 | cons d ds ih=>
  simp only [D.viewL] at h
  split at h
  ·rename_i d' r' h1 h2
   simp at h;subst h
   obtain⟨g1,g2⟩:=ih h2
   refine⟨by simp [g1],λ j e hj=>?_⟩
   cases j with
   | zero=>simp at hj;subst hj;exact⟨d,rfl,h1⟩
   | succ j=>simp at hj ⊢;exact g2 j e hj
  ·cases h
def Ajt (R:List Res) (rw:List Pd) (l:List (Nat×Nat)):Prop:=∀ g k s tys rows,(g,k)∈l->R[g]? = some (.gh s tys rows none)->rows[k]? = some rw
theorem Vo {d:D}:∀ {l:List D},d∈l->∀ p,p∈d.ois->p∈da l
 | [],h,_,_=>by cases h
 | a::r,h,p,hp=>by
  simp only [da]
  rcases ag.1 h with rfl | h
  ·exact bf _ hp
  ·exact bi _ (Vo h p hp)
theorem Aex (hI:Inv C S w ρ R) {rw:List Pd} {v:Value} {d:D} (h:Rd S w ρ v d):∀ e,Ajt R rw d.ois->d.view R rw=some e->Rd (Km S ρ R) w [] v e:=by
 have hS:∀ b,S b->Km S ρ R b:=λ _ h=>.inl h
 induction h with
 | p h=>intro e _ he;simp [D.view] at he;subst he;exact .p (h.mono hS λ _ _=>rfl)
 | ip h=>intro e _ he;simp [D.view] at he;subst he;exact .ip (h.mono hS λ _ _=>rfl)
 | @os i v h h1=>
  intro e _ he
  have this:∀ x,Kb R (.os i)=some x->RdP (Km S ρ R) w v x:=λ x hx=>vF (d:=.os i) hI (.os h h1) hx
  simp only [D.view] at he
  split at he
  ·rename_i t size rows hi
   simp at he;subst he
   exact .p (this _ (by simp [Kb,hi]))
  ·rename_i t size rows hi
   simp at he;subst he
   exact .p (this _ (by simp [Kb,hi]))
  ·cases he
 | @o i b off h=>
  intro e _ he
  simp only [D.view] at he
  split at he
  ·rename_i t cells hi
   split at he
   ·rename_i ps hp
    simp at he;subst he
    rcases (hI.ok i _ _ hi h).live rfl with⟨b',vs,e1,hb,hc⟩
    cases e1
    have hv:=Xu hI hc hp
    refine .ip λ j d hj=>?_
    rw [ar] at hj
    obtain⟨x,hx,hr⟩:=hv.get hj
    refine⟨x,.inr ⟨i,_,_,hi,h,rfl⟩,?_,hr⟩
    rw [Cx,Ik hb]
    simpa using hx
   ·cases he
  ·cases he
 | oe h=>intro e _ he;simp [D.view] at he
 | any h1=>intro e _ he;simp [D.view] at he;subst he;exact .any h1
 | nq h=>intro e _ he;simp [D.view] at he;subst he;exact .nq h
 | @osb i lo n size q a len cap h hl hc hq hq2=>
  intro e _ he
  simp only [D.view] at he
  split at he
  ·rename_i t s rows hi
   cases hb:Nat.beq s size with
   | false=>rw [hb] at he;simp at he
   | true=>
    rw [hb] at he
    simp at he;subst he
    have:=aj hb
    subst this
    have hk:=(hI.ok i _ _ hi h).live rfl
    have hz:∀ row,row∈rows->row.length=s:=by
     rcases hk with⟨_,h0⟩ | ⟨b,o,cp,vs,_,_,_,_,_,h0,_⟩
     ·subst h0;simp
     ·exact h0
    have hF:=(Res.ok0.frozen (ρ:=ρ) hk).mono (S':=Km S ρ R) (λ b hb=>by
     rcases hb with hb | hb
     ·exact .inl hb
     ·exact .inr ⟨i,_,_,hi,h,hb⟩) (λ _ _=>rfl)
    have hc:=RdP.cut hF (l:=lo) (h:=lo+n) (by omega) hl hz
    rw [show (lo+n)-lo=n from by omega,List.drop_take,show (lo+n)-lo=n from by omega] at hc
    by_cases hlc:lo<cap
    ·rw [if_neg (by omega)] at hc
     rw [hq2 hlc]
     exact .p hc
    ·have hlc:cap=lo:=by omega
     subst hlc
     rw [if_pos rfl] at hc
     have hn0:n=0:=by
      obtain⟨_,_,hsf,hle,_⟩:=hF.slice_form
      cases hsf;omega
     subst hn0
     simp only [List.take_zero]
     exact .p (.s _ ⟨0,0,none⟩ _ 0 [] (λ _ _=>undef) (bH _) (by simp) (λ _=>by simp) (by simp) (by simp) (by simp))
  ·cases he
 | @oi i g k size off f xs cs v h hx h1=>
  intro e hrw he
  simp only [D.view] at he
  split at he
  ·rename_i s tys rows hg
   cases hb:(Nat.beq s size&&Nat.blt off s) with
   | false=>rw [hb] at he;simp at he
   | true=>
    rw [hb] at he
    simp only [cond_true] at he
    simp only [ab] at hb
    have:=aj hb.1
    subst this
    split at he
    ·rename_i r hr
     simp at he;subst he
     have hrow:=hrw g k s tys rows (by simp [D.ois]) hg
     obtain⟨f',xs',cs',e1,k1,k2,k3,k4⟩:=(hI.ok g _ _ hg h).live rfl
     cases e1
     obtain⟨x,hx',_,hg2⟩:=k3 k rw hrow off _ hr
     rw [hx] at hx';cases hx'
     have hno:¬G6 s none (k*s+off):=by rintro⟨p,hp,_⟩;cases hp
     obtain⟨e2,s2,_,hsl⟩:=hg2 hno
     have hF:=Res.ok0.frozen (ρ:=ρ) (show (Res.sl e2 s2 r).ok0 S w ρ v from hsl)
     refine .p (hF.mono (λ b hb=>?_) (λ _ _=>rfl))
     rcases hb with hb | hb
     ·exact .inl hb
     ·exact .inr ⟨g,_,_,hg,h,⟨_,v,hx,hno,hb⟩⟩
    ·cases he
  ·cases he
 | fn hl hm hx hc ih1 ih2=>
  intro e hrw he
  simp only [D.view] at he
  split at he
  ·rename_i a' b' h1 h2
   simp at he;subst he
   obtain⟨g1,g2⟩:=vC h1
   obtain⟨g3,g4⟩:=vC h2
   refine .fn (by rw [hl,g1]) (by rw [hm,g3]) (λ j x d hxj hd=>?_) (λ j x d hxj hd=>?_)
   ·obtain⟨d0,k1,k2⟩:=g2 j d hd
    exact ih1 j x d0 hxj k1 d (λ g k s tys rows hm=>hrw g k s tys rows (by simp only [D.ois];exact bf _ (Vo (ae k1) _ hm))) k2
   ·obtain⟨d0,k1,k2⟩:=g4 j d hd
    exact ih2 j x d0 hxj k1 d (λ g k s tys rows hm=>hrw g k s tys rows (by simp only [D.ois];exact bi _ (Vo (ae k1) _ hm))) k2
  ·cases he
theorem Ap3 (hI:Inv C S w ρ R) {rw:List Pd} {v:Value} {x y:AV} (h:RdA S w ρ v x) (hrw:Ajt R rw x.ois) (e:x.view R rw=some y):RdA (Km S ρ R) w [] v y:=by
 cases h with
 | d h=>
  simp only [AV.view] at e
  split at e
  ·rename_i d' hd
   simp at e;subst e
   exact .d (Aex hI h _ hrw hd)
  ·cases e
 | agg h=>
  simp only [AV.view] at e
  split at e
  ·rename_i es hes
   simp at e;subst e
   obtain⟨g1,g2⟩:=vC hes
   refine .agg (d4 (by rw [h.length,g1]) λ j x d hx hd=>?_)
   obtain⟨d0,k1,k2⟩:=g2 j d hd
   exact Aex hI (h.both hx k1) d (λ g k s tys rows hm=>hrw g k s tys rows (Vo (ae k1) _ hm)) k2
  ·cases e
 | tup=>simp [AV.view] at e
theorem R_ (hI:Inv C S w ρ R) {rw:List Pd}:∀ {vs:List Value} {xs ys:List AV},A5 (RdA S w ρ) vs xs->Ajt R rw (oisL xs)->AV.viewL R rw xs=some ys->A5 (RdA (Km S ρ R) w []) vs ys
 | [],[],ys,_,_,e=>by simp [AV.viewL] at e;subst e;trivial
 | v::vs,d::ds,ys,h,hrw,e=>by
  simp only [AV.viewL] at e
  split at e
  ·rename_i x l e1 e2
   simp at e;subst e
   exact⟨Ap3 hI h.1 (λ g k s tys rows hm=>hrw g k s tys rows (by simp only [oisL];exact bf _ hm)) e1,R_ hI h.2 (λ g k s tys rows hm=>hrw g k s tys rows (by simp only [oisL];exact bi _ hm)) e2⟩
  ·cases e
 | [],_::_,_,h,_,_=>h.elim
 | _::_,[],_,h,_,_=>h.elim
theorem yD {d:D}:d.norm.ois=d.ois:=by unfold D.norm;split <;> rfl
theorem Yn:∀ {l:List D},da (l.map D.norm)=da l
 | []=>rfl
 | d::r=>by simp only [bw,da,yD,Yn]
theorem Aqt {x:AV}:x.norm.ois=x.ois:=by
 cases x with
 | d x=>exact yD
 | agg l=>exact Yn
 | tup l=>rfl
theorem S7:∀ {l:List AV},oisL (l.map AV.norm)=oisL l
 | []=>rfl
 | d::r=>by simp only [bw,oisL,Aqt,S7]
theorem Rd.flat {v:Value} {d:D} (h:Rd S w ρ v d) (e:d.flat=true):Rd S' w' ρ' v d:=by
 unfold D.flat at e
 split at e
 ·cases h with | p h=>cases h with | v _ h=>exact .p (.v _ h)
 ·cases e
theorem vY:∀ {l:List AV},dw l=true->∀ {j:Nat} {a:AV},l[j]? = some a->a.flat=true
 | [],_,j,a,h=>by simp at h
 | x::l,e,j,a,h=>by
  simp only [dw,ab] at e
  cases j with
  | zero=>simp at h;subst h;exact e.1
  | succ j=>simp at h;exact vY e.2 h
theorem RdA.flat {v:Value} {x:AV} (h:RdA S w ρ v x):x.flat=true->RdA S' w' ρ' v x:=by
 induction h with
 | d h=>intro e;simp only [AV.flat] at e;exact .d (h.flat e)
 | agg h=>
  intro e
  simp only [AV.flat,aH] at e
  exact .agg (d4 h.length λ j x d hx hd=>(h.both hx hd).flat (e d (ae hd)))
 | tup hl _ ih=>
  intro e
  simp only [AV.flat] at e
  exact .tup hl λ j x a hx ha=>ih j x a hx ha (vY e ha)
theorem Amr (hI:Inv C S w ρ R) {args:List AV} {vs:List Value} (hv:A5 (RdA S w ρ) vs args) {f:FuncId} {c:Cl} {out:Out} (h:Gw R args f c=some out)
  (hk:∀ x,out.c=some x->x.ok P) :
  Em P f/\Calls P f vs.toArray w λ e w'=>∃ v S' ρ',e = .returned v/\D_ C S w ρ out.R v out.v S' w' ρ':=by
 unfold Gw at h
 split at h
 ·rename_i f' q1 res q2 q3 rw'
  cases hb:(Nat.beq f f'&&res.flat) with
  | false=>rw [hb] at h;simp at h
  | true=>
   rw [hb] at h
   simp only [cond_true] at h
   simp only [ab] at hb
   obtain⟨args',rw2,rows,kk,e1,hrw,rfl⟩:∃ args' rw2 rows kk,AV.viewL R rw2 (args.map AV.norm)=some args'/\(rows[kk]? = some rw2->Ajt R rw2 (oisL (args.map AV.norm)))/\out=⟨res,R,some (.callB f args' res rows kk rw2)⟩:=by
    split at h
    ·rename_i hois
     split at h
     ·rename_i args' e1
      simp at h;subst h
      refine⟨args',[],[[]],0,e1,λ _ g k s tys rows hm=>?_,rfl⟩
      rw [S7,hois] at hm
      cases hm
     ·cases h
    ·rename_i g k hois
     split at h
     ·rename_i s tys rows args' hg e1
      simp at h;subst h
      refine⟨args',rw',rows,k,e1,λ hr g' k' s' tys' rows' hm hg'=>?_,rfl⟩
      rw [S7,hois] at hm
      simp at hm
      obtain⟨rfl,rfl⟩:=hm
      rw [hg] at hg';cases hg'
      exact hr
     ·cases h
    ·cases h
   ·obtain⟨⟨hent,hcall⟩,hrw0⟩:=hk _ rfl
    refine⟨hent,?_⟩
    have hnorm:A5 (RdA S w ρ) vs (args.map AV.norm):=hv.map_right λ _ _ h=>h.norm
    have hst:Start (Km S ρ R) w [] []:=⟨rfl,by simp,by simp,by simp,λ b hb=>by
     rcases hb with hb | ⟨i,r,h,h1,h2,h3⟩
     ·exact (hI.sup b hb).1
     ·exact (hI.own i r h b h1 h2 h3).2.1,hI.glOk.mono (λ _ h=>.inl h) λ _ _=>rfl⟩
    refine (hcall _ w [] vs hst (R_ hI hnorm (hrw hrw0) e1)).mono λ e w' hp=>?_
    obtain⟨v,S',ρq,he,hr,hq⟩:=hp
    have hno:∀ b,¬Dz [] [] b:=by rintro b ⟨i,r,h,h1,_⟩;simp at h1
    have hsame:∀ b,b<w.heap.size->w'.heap[b]? = w.heap[b]?:=λ b hb=>hq.frm b hb (hno b)
    exact⟨v,S,ρ,he,hI.grow (λ _ h=>h) (λ _ h=>.inl h) hsame hq.size hq.os hq.tape hq.output,λ _ h=>h,λ b hb=>hsame b (hI.sup b hb).1,Pre.refl _,hr.flat hb.2⟩
 ·rename_i f' q1 q2 res R2 pi
  cases hb:(Nat.beq f f'&&Fo pi&&Nat.ble pi.length R2.length) with
  | false=>rw [hb] at h;simp at h
  | true=>
   rw [hb] at h
   simp only [cond_true] at h
   simp only [ab] at hb
   obtain⟨⟨hb1,hb2⟩,hb3⟩:=hb
   have hlen:=bq hb3
   split at h
   ·rename_i args' Rp e1 e2
    split at h
    ·rename_i Rp' res' R2' e3 e4 e5
     simp at h;subst h
     obtain⟨hent,hcall⟩:=hk _ rfl
     refine⟨hent,?_⟩
     obtain⟨st,hid,_⟩:=hI.start hb2 e2 e3
     have hargs:A5 (RdA S w (C6 ρ pi)) vs args':=by
      obtain⟨g1,g2⟩:=M1 e1
      refine d4 (by rw [hv.length,g1];simp) λ j x d hx hd=>?_
      obtain⟨d0,k1,k2⟩:=g2 j d hd
      rw [az] at k1
      obtain⟨d1,k3,k4⟩:=Dl k1
      subst k4
      exact ((hv.both hx k3).norm).ren hid d k2
     refine (hcall S w (C6 ρ pi) vs st hargs).mono λ e w' hp=>?_
     obtain⟨v,S',ρq,he,hr,hq⟩:=hp
     obtain⟨b1,b2,b3,b4,b5⟩:=hI.back hb2 e2 e3 hq hlen e5
     exact⟨v,S',_,he,b1,b2,b3,b4,hr.ren b5 _ e4⟩
    ·cases h
   ·cases h
 ·cases h
theorem Tz:∀ {ds:List D} {ps:List Pd} {vs:List Value},dPs ds=some ps->A5 (Rd S w ρ) vs ds->A5 (RdP S w) vs ps
 | [],ps,vs,h,hv=>by simp [dPs] at h;subst h;cases vs with | nil=>trivial | cons=>exact hv.elim
 | d :: r, ps, vs, h, hv => by
  simp only [dPs] at h
  split at h
  ·rename_i x l h1 h2
   simp at h;subst h
   cases vs with
   | nil=>exact hv.elim
   | cons v vs=>
    refine⟨?_,Tz h2 hv.2⟩
    unfold dP at h1
    split at h1
    ·simp at h1;subst h1;exact hv.1.p_inv
    ·rename_i f
     simp at h1;subst h1
     have hfn:=hv.1
     cases hfn with
     | @fn _ xs cs _ _ hl hm hx hc=>
      have e1:xs=[]:=bo (by simpa using hl)
      have e2:cs=[]:=bo (by simpa using hm)
      subst e1;subst e2
      exact .v _ rfl
    ·cases h1
  ·cases h
theorem Mh {α:Type} (size:Nat):∀ (n:Nat) (l:List α),(D4 size n l).length=n
 | 0,_=>rfl
 | n+1,l=>by simp [D4,Mh size n]
theorem Ys {α:Type} (size:Nat):∀ (n:Nat) (l:List α) (i:Nat) (row:List α),(D4 size n l)[i]? = some row->row=(l.drop (i*size)).take size
 | 0,_,_,_,h=>by simp [D4] at h
 | n+1,l,0,row,h=>by simp [D4] at h;simp [h]
 | n+1,l,i+1,row,h=>by
  simp only [D4,cv] at h
  have:=Ys size n (l.drop size) i row h
  rw [this,bM]
  congr 2
  rw [aG];omega
theorem Yr {α:Type} (size:Nat):∀ (n:Nat) (l:List α),l.length=n*size->∀ row,row∈D4 size n l->row.length=size
 | 0,_,_,row,h=>by simp [D4] at h
 | n+1,l,hl,row,h=>by
  simp only [D4,ag] at h
  rw [aG] at hl
  rcases h with rfl | h
  ·simp;omega
  ·exact Yr size n (l.drop size) (by simp;omega) row h
theorem Alg {e size n cap:Nat} {cs:Array Value} {ps:List Pd} (hp:A5 (RdP S w) cs.toList ps) (hl:cs.size=cap*size) (hn:n<=cap) (hm:cap<=maxLen) (hb:∀ b,S b->b<w.heap.size) :
  (Res.sl e size (D4 size n (ps.take (n*size)))).ok0 S (w.alloc (.cells cs e)) (ρ++[.slice (some ⟨w.heap.size,0,none⟩) n cap]) (.slice (some ⟨w.heap.size,0,none⟩) n cap):=by
 have hpl:ps.length=cap*size:=by rw [←hp.length];simpa using hl
 have hle:n*size<=cap*size:=bh _ hn
 refine .inr ⟨w.heap.size,0,cap,cs,by rw [Mh],.of (Ew _ _),by rw [Mh];exact hn,hm,by omega,Yr size n _ (by simp;omega),λ i row hi j d hj=>?_⟩
 have:=Ys size n _ i row hi
 subst this
 rw [an] at hj
 split at hj
 ·rw [ar,an] at hj
  split at hj
  ·obtain⟨x,hx,hr⟩:=hp.get hj
   refine⟨x,by simpa [Nat.zero_add] using hx,hr.mono (λ _ h=>h) λ b h=>Cp _ _ _ (hb b h)⟩
  ·cases hj
 ·cases hj
theorem Inv.newSl (hI:Inv C S w ρ R) {e size n cap:Nat} {cs:Array Value} {ps:List Pd} (hp:A5 (RdP S w) cs.toList ps) (hl:cs.size=cap*size) (hn:n<=cap) (hm:cap<=maxLen) :
  D_ C S w ρ (R++[.sl e size (D4 size n (ps.take (n*size)))]) (.slice (some ⟨w.heap.size,0,none⟩) n cap) (.d (.os R.length)) S (w.alloc (.cells cs e)) (ρ++[.slice (some ⟨w.heap.size,0,none⟩) n cap]):=by
 have hw:∀ b,S b->(w.alloc (.cells cs e)).heap[b]? = w.heap[b]?:=λ b hb=>Cp _ _ _ (hI.sup b hb).1
 refine⟨hI.push _ _ (λ b hb=>Cp _ _ _ hb) (by simp) rfl ⟨rfl,λ _=>by first | exact af _ | exact aJ _⟩ rfl (.inr (Alg hp hl hn hm λ b hb=>(hI.sup b hb).1)) ?_,λ _ h=>h,hw,Pre.append _ _,.d (.os ?_ rfl)⟩
 ·intro b hb
  simp [Res.foot] at hb;subst hb
  simp
 ·rw [←hI.len];simp
theorem Inv.newImm (hI:Inv C S w ρ R) {e size n:Nat} {cs:Array Value} {ps:List Pd} (hp:A5 (RdP S w) cs.toList ps) (hl:cs.size=n*size) (hm:n<=maxLen) :
  D_ C S w ρ R (.slice (some ⟨w.heap.size,0,none⟩) n n) (.d (.p (.s (D4 size n ps)))) (λ b=>S b\/b=w.heap.size) (w.alloc (.cells cs e)) ρ:=by
 have hpl:ps.length=n*size:=by rw [←hp.length];simpa using hl
 have hw:∀ b,S b->(w.alloc (.cells cs e)).heap[b]? = w.heap[b]?:=λ b hb=>Cp _ _ _ (hI.sup b hb).1
 have hok:=Alg (e:=e) (ρ:=ρ) (n:=n) (cap:=n) hp hl (af _) hm (λ b hb=>(hI.sup b hb).1)
 have htake:ps.take (n*size)=ps:=cu (by omega)
 rw [htake] at hok
 have hfr:=Res.ok0.frozen hok
 refine⟨hI.grow (λ _ h=>.inl h) (λ b hb=>?_) (λ b hb=>Cp _ _ _ hb) (by simp) rfl ⟨rfl,λ _=>by first | exact af _ | exact aJ _⟩ rfl,λ _ h=>.inl h,hw,Pre.refl _,.d (.p (hfr.mono (λ b hb=>?_) λ _ _=>rfl))⟩
 ·rcases hb with hb | hb
  ·exact .inl hb
  ·subst hb;exact .inr ⟨af _,by simp⟩
 ·rcases hb with hb | hb
  ·exact .inl hb
  ·simp [Res.foot] at hb;exact .inr hb.symm
end
end Go.SL
namespace Go.SL
section
variable {P:Program} {C:Ctx} {S S':Nat->Prop} {w w':World} {ρ ρ':List Value} {R:List Res} {L:List Ent} {cur:C_} {a:Act}
theorem K2 {α:Type} (n:Nat) (l:List α):(Ea n l).length=n*l.length:=by
 induction n with
 | zero=>simp [Ea]
 | succ n ih=>simp [Ea,ih,Nat.add_mul];omega
theorem Afq {α β:Type} {Q:α->β->Prop} {xs:List α} {ds:List β} (h:A5 Q xs ds) (n:Nat):A5 Q (Ea n xs) (Ea n ds):=by
 induction n with
 | zero=>trivial
 | succ n ih=>exact h.append ih
theorem Ng (zs:Array Value) (n:Nat):((Array.range (n*zs.size)).map (λ i=>zs[i % zs.size]!)).toList=Ea n zs.toList:=by
 rw [Array.toList_map,Array.toList_range]
 induction n with
 | zero=>simp [Ea]
 | succ n ih=>
  have e:(n+1)*zs.size=zs.size+n*zs.size:=by rw [aG];omega
  rw [e,List.range_add,bJ,List.map_map]
  simp only [Ea]
  congr 1
  ·apply bC
   intro i
   rw [az]
   by_cases hi:i<zs.size
   ·rw [bW hi]
    simp [Nat.mod_eq_of_lt hi,hi]
   ·rw [cJ (by simp;omega),cJ (by simp;omega)];rfl
  ·rw [←ih]
   apply bg
   intro i _
   simp [Nat.add_mod_left]
theorem Afm:∀ {l:List Value} {ds:List D},Ft l=some ds->ds.length=l.length:=λ h=>(Iy (S:=λ _=>False) (w:=default) (ρ:=[]) h).length.symm
theorem Pm {t e:TypeId} {size len:Nat} {z:Value} {zs out:List D} {ps:List (Nat×List D)} {vs:List (Nat×Value)} (hu:P.underlying t=some (.slice e)) (hs:B2 P e=some (size+1)) (hz:Et P e=some z)
  (hd:Ft z.cells.toList=some zs) (hzl:zs.length=size+1) (hle:len*(size+1)<=16777216)
  (hp:A5 (λ (p:Nat×Value) (q:Nat×List D)=>p.1=q.1/\A5 (Rd S w ρ) p.2.cells.toList q.2) vs ps)
  (hf:H3 ((List.range len).map λ i=>(i*(size+1),size+1)) (Ea len zs) ps=some out) (hin:∀ q,q∈vs->q.1<len) :
  ∃ cs:Array Value,(Instr.buildSlice t len vs.toArray).run P w = .ok (.slice (some ⟨w.heap.size,0,none⟩) len len) (w.alloc (.cells cs e))/\A5 (Rd S w ρ) cs.toList out:=by
 have hzs:z.cells.size=size+1:=by have:=Afm hd;rw [hzl] at this;simpa using this.symm
 have hbase:A5 (Rd S w ρ) ((Array.range (len*(size+1))).map (λ i=>z.cells[i % z.cells.size]!)).toList (Ea len zs):=by
  rw [←hzs,Ng z.cells]
  exact Afq (Iy hd) len
 obtain⟨r,hr1,hr2⟩:=Vs (λ (i:Nat)=>((List.range len).map λ i=>(i*(size+1),size+1))[i]?) _ (λ _ _ h=>h) vs ps _ _ out hp hbase hf
 have hfill:∀ (vs:List (Nat×Value)) (cs:Array Value),(∀ q,q∈vs->q.1<len)->Instr.fill (λ i=>some (i*(size+1),size+1)) cs vs=Instr.fill (λ (i:Nat)=>((List.range len).map λ i=>(i*(size+1),size+1))[i]?) cs vs:=by
  intro vs
  induction vs with
  | nil=>intro cs _;rfl
  | cons q vs ih=>
   intro cs hq
   have h1:=hq q ak
   have e:((List.range len).map λ i=>(i*(size+1),size+1))[q.1]? = some (q.1*(size+1),size+1):=by simp [h1]
   simp only [Instr.fill]
   rw [e]
   dsimp only
   by_cases hc:(decide (q.2.cells.size≠size+1) || decide (q.1*(size+1)+q.2.cells.size>cs.size))=true
   ·rw [if_pos hc,if_pos hc]
   ·rw [if_neg hc,if_neg hc]
    exact ih _ (λ q h=>hq q (al _ h))
 refine⟨r,?_,hr2⟩
 have hle':¬(len*(size+1)>2 ^ 24):=by simp;omega
 simp only [Instr.buildSlice,Sem.run_bind,run_underlying hu,Result.andThen_ok,Co hs]
 rw [if_neg hle']
 by_cases h0:len*(size+1)=0
 ·rw [if_pos h0]
  simp only [Sem.run_bind,Sem.run_pure,Result.andThen_ok]
  have hcs:(Array.range (len*(size+1))).map (λ i=>(#[]:Array Value)[i % (#[]:Array Value).size]!)=(Array.range (len*(size+1))).map (λ i=>z.cells[i % z.cells.size]!):=by simp [h0]
  rw [hcs,hfill vs _ hin,hr1]
  simp [newRow]
 ·rw [if_neg h0]
  simp only [Sem.run_bind,Sem.run_pure,Result.andThen_ok,E3 hz]
  rw [hfill vs _ hin,hr1]
  simp [newRow]
theorem W5 {n:Nat} {pl:List (Nat×Nat)} (hpl:pl.length=n):∀ {ds:List D} {ps:List (Nat×List D)} {out:List D},H3 pl ds ps=some out->∀ q,q∈ps->q.1<n
 | _,[],_,_,q,hq=>by cases hq
 | ds,(i,es)::ps,out,h,q,hq=>by
  simp only [H3] at h
  split at h
  ·rename_i off size hp
   have hi:i<n:=by rw [←hpl];exact (aa.1 hp).1
   cases hb:(Nat.beq es.length size&&Nat.ble (off+es.length) ds.length) with
   | false=>rw [hb] at h;simp at h
   | true=>
    rw [hb] at h
    simp only [cond_true] at h
    rcases ag.1 hq with rfl | hq
    ·exact hi
    ·exact W5 hpl h q hq
  ·cases h
theorem Ny {pl:List (Nat×Nat)}:∀ {ds:List D} {ps:List (Nat×List D)} {out:List D},H3 pl ds ps=some out->out.length=ds.length
 | _,[],_,h=>by simp [H3] at h;rw [h]
 | ds,(i,es)::ps,out,h=>by
  simp only [H3] at h
  split at h
  ·rename_i off size hp
   cases hb:(Nat.beq es.length size&&Nat.ble (off+es.length) ds.length) with
   | false=>rw [hb] at h;simp at h
   | true=>
    rw [hb] at h
    simp only [cond_true] at h
    simp only [ab] at hb
    have:=bq hb.2
    rw [Ny h]
    simp [Nb];omega
  ·cases h
theorem RdP.nz {x:Value} {d:Pd} (h:RdP S w x d):RdP S w x d.nz:=by
 unfold Pd.nz
 split
 ·have:=h.v_form
  subst this
  exact .s none ⟨0,0,none⟩ 0 0 [] (λ _ _=>undef) (af _) (by simp [maxLen]) (λ _=>rfl) (by simp) (by simp) (by simp)
 ·exact h
theorem dA {xs:List Value} {ds:List Pd} (h:A5 (RdP S w) xs ds):A5 (RdP S w) xs (ds.map Pd.nz):=h.map_right λ _ _ h=>h.nz
theorem Yl (hI:Inv C S w ρ R) {c:Cl} {t:TypeId} {len:Nat} {ps:List (Nat×List D)} {vs:List (Nat×Value)} {out:Out}
  (hp:A5 (λ (p:Nat×Value) (q:Nat×List D)=>p.1=q.1/\A5 (Rd S w ρ) p.2.cells.toList q.2) vs ps) (h:G8 P R c t len ps=some out) :
  (Li c=false->out.R=R)/\∃ v w' S' ρ',(Instr.buildSlice t len vs.toArray).run P w = .ok v w'/\D_ C S w ρ out.R v out.v S' w' ρ':=by
 unfold G8 at h
 split at h
 ·rename_i e hu
  split at h
  ·rename_i size zs hs hz
   obtain⟨z,hz1,hz2⟩:=Dk hz
   cases hb:(Nat.beq zs.length (size+1)&&Nat.ble (len*(size+1)) 16777216) with
   | false=>rw [hb] at h;simp at h
   | true=>
    rw [hb] at h
    simp only [cond_true] at h
    simp only [ab] at hb
    have hzl:=aj hb.1
    have hle:=bq hb.2
    split at h
    ·rename_i pd he
     obtain⟨ds,hf,hd⟩:=Dk he
     have hin:∀ q,q∈vs->q.1<len:=by
      intro q hq
      obtain⟨j,hj,hjq⟩:=cr hq
      have hjl:j<ps.length:=by rw [←hp.length];exact hj
      have:=hp.both (ai hj) (ai hjl)
      rw [hjq] at this
      rw [this.1]
      exact W5 (by simp) hf _ (List.getElem_mem hjl)
     obtain⟨cs,hrun,hcs⟩:=Pm hu hs hz1 hz2 hzl hle hp hf hin
     have hpd:=dA (Tz hd hcs)
     have hcl:cs.size=len*(size+1):=by
      have h1:=hcs.length
      have h2:=Ny hf
      rw [K2,hzl] at h2
      simpa [h2] using h1
     have hmax:len<=maxLen:=by
      have:len<=len*(size+1):=Nat.le_mul_of_pos_right _ (by omega)
      simp [maxLen];omega
     cases ho:Li c with
     | true=>
      rw [ho] at h
      simp at h;subst h
      refine⟨by simp,_,_,S,ρ++[.slice (some ⟨w.heap.size,0,none⟩) len len],hrun,?_⟩
      have:=hI.newSl (e:=e) (n:=len) (cap:=len) hpd hcl (af _) hmax
      have htake:(pd.map Pd.nz).take (len*(size+1))=pd.map Pd.nz:=cu (by have:=hpd.length;simp at this ⊢;omega)
      rw [htake] at this
      exact this
     | false=>
      rw [ho] at h
      simp at h;subst h
      exact⟨λ _=>rfl,_,_,_,ρ,hrun,hI.newImm hpd hcl hmax⟩
    ·cases hq:(Li c&&Nat.beq size 0) with
     | false=>rw [hq] at h;simp at h
     | true=>
      rw [hq] at h
      simp only [cond_true] at h
      simp only [ab] at hq
      obtain⟨ds,hf,rfl⟩:=Dl h
      have hin:∀ q,q∈vs->q.1<len:=by
       intro q hq
       obtain⟨j,hj,hjq⟩:=cr hq
       have hjl:j<ps.length:=by rw [←hp.length];exact hj
       have:=hp.both (ai hj) (ai hjl)
       rw [hjq] at this
       rw [this.1]
       exact W5 (by simp) hf _ (List.getElem_mem hjl)
      obtain⟨cs,hrun,hcs⟩:=Pm hu hs hz1 hz2 hzl hle hp hf hin
      have hsz:=aj hq.2
      have hdl:ds.length=len:=by
       have h2:=Ny hf
       rw [K2,hzl,hsz] at h2
       simpa using h2
      refine⟨by simp [hq.1],_,_,S,ρ++[.slice (some ⟨w.heap.size,0,none⟩) len len],hrun,?_⟩
      exact hI.newVec hcs hdl (by rw [hsz] at hle;simp [maxLen];omega)
  ·cases h
 ·cases h
end
end Go.SL
namespace Go.SL
section
variable {P:Program} {C:Ctx} {S S':Nat->Prop} {w w':World} {ρ ρ':List Value} {R:List Res}
theorem Dy {α:Type} {size:Nat}:∀ {rows:List (List α)},(∀ l,l∈rows->l.length=size)->rows.flatten.length=rows.length*size
 | [],_=>by simp
 | l::rows,h=>by
  rw [bO,aF,Dy (λ l hl=>h l (al _ hl)),h l ak,aL,aG]
  omega
theorem Ll {α:Type} {size:Nat}:∀ {rows:List (List α)},(∀ l,l∈rows->l.length=size)->∀ {i j:Nat} {row:List α} {d:α},rows[i]? = some row->row[j]? = some d->rows.flatten[i*size+j]? = some d
 | [],_,i,j,row,d,h,_=>by simp at h
 | l::rows,h,0,j,row,d,hi,hj=>by
  simp at hi;subst hi
  rw [bO,Nat.zero_mul,aI,aD (aa.1 hj).1]
  exact hj
 | l::rows,h,i+1,j,row,d,hi,hj=>by
  simp only [cv] at hi
  have hl:=h l ak
  rw [bO,aQ (by rw [hl,aG];omega),hl]
  rw [show (i+1)*size+j-size=i*size+j from by rw [aG];omega]
  exact Ll (λ l hl=>h l (al _ hl)) hi hj
theorem Ix {α:Type} {size:Nat}:∀ {rows:List (List α)},(∀ l,l∈rows->l.length=size)->∀ {k:Nat} {d:α},rows.flatten[k]? = some d->∃ i j row,k=i*size+j/\rows[i]? = some row/\row[j]? = some d
 | [],_,k,d,h=>by simp at h
 | l::rows,h,k,d,hk=>by
  have hl:=h l ak
  rw [bO] at hk
  rcases aN k l.length with hlt | hge
  ·rw [aD hlt] at hk
   exact⟨0,k,l,by simp,rfl,hk⟩
  ·rw [aQ hge] at hk
   obtain⟨i,j,row,h1,h2,h3⟩:=Ix (λ l hl=>h l (al _ hl)) hk
   exact⟨i+1,j,row,by rw [aG];omega,by simpa using h2,h3⟩
theorem Pk {e size:Nat} {rows:List (List Pd)} {h:Value}:(Res.sl e size rows).ok0 S w ρ h↔(h = .slice none 0 0/\rows=[]) \/
   ∃ b o cap vs,h = .slice (some ⟨b,o,none⟩) rows.length cap/\Blk w b vs e/\rows.length<=cap/\cap<=maxLen/\o+cap*size<=vs.size /\
    (∀ row,row∈rows->row.length=size)/\A5 (RdP S w) ((vs.toList.drop o).take (rows.length*size)) rows.flatten:=by
 constructor
 ·rintro (h0 | ⟨b,o,cap,vs,h1,h2,h3,h4,h5,h6,h7⟩)
  ·exact .inl h0
  ·refine .inr ⟨b,o,cap,vs,h1,h2,h3,h4,h5,h6,d4 ?_ λ k x d hx hd=>?_⟩
   ·have:rows.length*size<=cap*size:=bh _ h3
    rw [Dy h6];simp;omega
   ·obtain⟨i,j,row,e1,e2,e3⟩:=Ix h6 hd
    obtain⟨y,hy,hr⟩:=h7 i row e2 j d e3
    rw [an] at hx
    split at hx
    ·rw [ar] at hx
     subst e1
     rw [←bj] at hx
     have:vs[o+i*size+j]? = some x:=by simpa using hx
     rw [this] at hy;cases hy;exact hr
    ·cases hx
 ·rintro (h0 | ⟨b,o,cap,vs,h1,h2,h3,h4,h5,h6,h7⟩)
  ·exact .inl h0
  ·refine .inr ⟨b,o,cap,vs,h1,h2,h3,h4,h5,h6,λ i row hi j d hj=>?_⟩
   obtain⟨x,hx,hr⟩:=h7.get (Ll h6 hi hj)
   rw [an] at hx
   split at hx
   ·rw [ar,←bj] at hx
    exact⟨x,by simpa using hx,hr⟩
   ·cases hx
theorem RdP.s_inv {x:Value} {rows:List (List Pd)} (h:RdP S w x (.s rows)):∃ (a:Option Addr) (ad:Addr) (cap sz:Nat) (xs:Nat->Nat->Value),x = .slice a rows.length cap /\
  (∀ row,row∈rows->row.length=sz) /\
  (∀ (i:Nat) row,rows[i]? = some row->∀ (j:Nat) d,row[j]? = some d->a=some ad/\S ad.block/\w.cell? (ad.add (i*sz+j))=some (xs i j)) /\
  (∀ (i:Nat) row,rows[i]? = some row->∀ (j:Nat) d,row[j]? = some d->RdP S w (xs i j) d):=by
 cases h with
 | s a ad cap sz _ xs _ _ _ hsz hx hr=>exact⟨a,ad,cap,sz,xs,rfl,hsz,hx,hr⟩
theorem Ale (hI:Inv C S w ρ R) {size:Nat} {x:Value} {av:AV} {rows:List (List Pd)} (hr:RdA S w ρ x av) (h:Hs R size av=some rows) (hsz:∀ l,l∈rows->l.length=size) :
  ∃ b c,x = .slice b rows.length c/\∀ (k:Nat) d,rows.flatten[k]? = some d->∃ ad v,b=some ad/\w.cell? (ad.add k)=some v/\RdP S w v d:=by
 unfold Hs at h
 split at h
 ·rename_i rows'
  simp at h;subst h
  obtain⟨b,ad,cap,sz,xs,hform,hsz',hx,hrr⟩:=hr.d_inv.p_inv.s_inv
  refine⟨b,cap,hform,λ k d hk=>?_⟩
  obtain⟨i,j,row,e1,e2,e3⟩:=Ix hsz hk
  obtain⟨g1,g2,g3⟩:=hx i row e2 j d e3
  have:sz=size:=by rw [←hsz' row (ae e2),hsz row (ae e2)]
  subst this
  subst e1
  exact⟨ad,_,g1,g3,hrr i row e2 j d e3⟩
 ·simp at h;subst h
  exact⟨none,0,hr.exact_inv,by simp⟩
 ·rename_i i
  split at h
  ·rename_i e s rows' hi
   cases hb:Nat.beq s size with
   | false=>rw [hb] at h;simp at h
   | true=>
    rw [hb] at h
    simp at h;subst h
    have hs:=aj hb
    subst hs
    have hρ:=hr.d_inv.os_inv
    rcases (hI.ok i _ x hi hρ).live hr.d_inv.one with⟨h1,h2⟩ | ⟨b,o,cap,vs,h1,h2,h3,h4,h5,h6,h7⟩
    ·subst h2;exact⟨none,0,h1,by simp⟩
    ·refine⟨some ⟨b,o,none⟩,cap,h1,λ k d hk=>?_⟩
     obtain⟨i,j,row,e1,e2,e3⟩:=Ix h6 hk
     obtain⟨y,hy,hR⟩:=h7 i row e2 j d e3
     refine⟨⟨b,o,none⟩,y,rfl,?_,hR⟩
     rw [Cx,h2.cell,e1,←bj];exact hy
  ·cases h
 ·rename_i i lo n s2
  split at h
  ·rename_i e s rows' hi
   cases hb:(Nat.beq s size&&Nat.beq s2 s) with
   | false=>rw [hb] at h;simp at h
   | true=>
    rw [hb] at h
    simp at h;subst h
    simp only [ab] at hb
    have hs:=aj hb.1
    subst hs
    have hs:=aj hb.2
    subst hs
    cases hr.d_inv with
    | @osb _ _ _ _ q a len cap hρ hl hc hq hq2=>
     rcases (hI.ok i _ _ hi hρ).live rfl with⟨h1,h2⟩ | ⟨b,o,cap',vs,h1,h2,h3,h4,h5,h6,h7⟩
     ·cases h1
      subst h2
      have:n=0:=by omega
      subst this
      exact⟨_,_,rfl,by simp⟩
     ·cases h1
      have hlen:((rows'.drop lo).take n).length=n:=by simp;omega
      refine⟨_,cap-lo,by rw [hlen],λ k d hk=>?_⟩
      have h6':∀ l,l∈(rows'.drop lo).take n->l.length=s2:=λ l hl=>h6 l (bX (bk hl))
      obtain⟨i,j,row,e1,e2,e3⟩:=Ix h6' hk
      have hin:i<n:=by have:=(aa.1 e2).1;rw [hlen] at this;exact this
      rw [an,if_pos hin,ar] at e2
      obtain⟨y,hy,hR⟩:=h7 (lo+i) row e2 j d e3
      have hne:q=lo*s2:=hq2 (by omega)
      refine⟨(⟨b,o,none⟩:Addr).add (lo*s2),y,by rw [hne];rfl,?_,hR⟩
      rw [Cx,Cx,h2.cell,←hy,e1]
      congr 1
      rw [aG];omega
  ·cases h
 ·cases h
theorem vI (hI:Inv C S w ρ R) {size m:Nat} {x:Value} {av:AV} {rows:List (List Pd)} (hr:RdA S w ρ x av) (h:Hs R size av=some rows) (hsz:∀ l,l∈rows->l.length=size) (hm:m<=rows.length) :
  ∃ b c vs,x = .slice b rows.length c/\(∀ w2:World,(∀ a,w2.cell? a=w.cell? a)->(Builtin.firstCells size m x).run P w2 = .ok vs w2)/\A5 (RdP S w) vs.toList (rows.take m).flatten:=by
 obtain⟨b,c,hform,hcell⟩:=Ale hI hr h hsz
 have hsz':∀ l,l∈rows.take m->l.length=size:=λ l hl=>hsz l (bk hl)
 have hfl:(rows.take m).flatten.length=m*size:=by rw [Dy hsz',aS,cw hm]
 have hpre:∀ (k:Nat) d,(rows.take m).flatten[k]? = some d->rows.flatten[k]? = some d:=by
  intro k d hk
  obtain⟨i,j,row,e1,e2,e3⟩:=Ix hsz' hk
  rw [an] at e2
  split at e2
  ·rw [e1];exact Ll hsz e2 e3
  ·cases e2
 cases b with
 | none=>
  have hnil:(rows.take m).flatten=[]:=by
   cases hf:(rows.take m).flatten with
   | nil=>rfl
   | cons d l=>
    obtain⟨ad,v,e,_⟩:=hcell 0 d (hpre 0 d (by rw [hf];rfl))
    cases e
  refine⟨none,c,#[],hform,λ w2 _=>?_,by rw [hnil];trivial⟩
  rw [hform];simp [Builtin.firstCells]
 | some ad=>
  let vs:List Value:=(List.range (m*size)).map λ k=>(w.cell? (ad.add k)).getD undef
  have hvl:vs.length=m*size:=by simp [vs]
  have hvc:∀ (k:Nat) v,vs[k]? = some v->w.cell? (ad.add k)=some v:=by
   intro k v hk
   have hkl:k<m*size:=by rw [←hvl];exact (aa.1 hk).1
   obtain⟨ad',v',e,hv',_⟩:=hcell k _ (hpre k _ (ai (by rw [hfl];exact hkl)))
   cases e
   simp only [vs] at hk
   rw [az,bW hkl] at hk
   simp only [aU,hv',bK] at hk
   rw [hv'];exact hk
  refine⟨some ad,c,vs.toArray,hform,λ w2 h2=>?_,?_⟩
  ·have hlc:=run_loadCells_list (P:=P) w2 ad vs (λ j v hv=>by rw [h2];exact hvc j v hv)
   rw [hform]
   simp only [Builtin.firstCells]
   rw [←hvl];exact hlc
  ·refine d4 (by rw [hfl];exact hvl) λ k v d hv hd=>?_
   obtain⟨ad',v',e,hv',hR⟩:=hcell k d (hpre k d hd)
   cases e
   rw [hvc k v hv] at hv';cases hv';exact hR
theorem Ald (hI:Inv C S w ρ R) {size:Nat} {x:Value} {av:AV} {rows:List (List Pd)} (hr:RdA S w ρ x av) (h:Hs R size av=some rows) (hsz:∀ l,l∈rows->l.length=size) :
  ∃ b c vs,x = .slice b rows.length c/\(∀ w2:World,(∀ a,w2.cell? a=w.cell? a)->(Builtin.firstCells size rows.length x).run P w2 = .ok vs w2)/\A5 (RdP S w) vs.toList rows.flatten:=by
 obtain⟨b,c,vs,h1,h2,h3⟩:=vI (P:=P) hI hr h hsz (af _)
 rw [aB] at h3
 exact⟨b,c,vs,h1,h2,h3⟩
theorem Inv.move (h:Inv C S w ρ R) {i:Nat} {r r':Res} {v v':Value} (hi:R[i]? = some r) (hv:ρ[i]? = some v)
  (hw:∀ k,k<w.heap.size->¬r.foot v k->w'.heap[k]? = w.heap[k]?) (hsz:w.heap.size<=w'.heap.size) (ho:w'.os=w.os) (ht:Tp w w') (hp:w'.output=w.output)
  (hf:∀ k,r'.foot v' k->r.foot v k\/w.heap.size<=k/\k<w'.heap.size) (hok:r'.ok S w' (ρ++[v']) v'):Inv C S w' (ρ++[v']) (R.set i .non++[r']):=by
 have hS:∀ k,S k->w'.heap[k]? = w.heap[k]?:=λ k hk=>hw k (h.sup k hk).1 (λ e=>(h.own i r v k hi hv e).1 hk)
 have key:∀ (j:Nat) r1 v1,(R.set i .non++[r'])[j]? = some r1->(ρ++[v'])[j]? = some v1->(j=R.length/\r1=r'/\v1=v')\/r1 = .non\/(j≠i/\R[j]? = some r1/\ρ[j]? = some v1):=by
  intro j r1 v1 h1 h2
  rcases Du h1 with h1 | ⟨rfl,rfl⟩
  ·rcases Du h2 with h2 | ⟨rfl,rfl⟩
   ·rw [ay] at h1
    split at h1
    ·split at h1
     ·cases h1;exact .inr (.inl rfl)
     ·cases h1
    ·rename_i e
     exact .inr (.inr ⟨λ e'=>e e'.symm,h1,h2⟩)
   ·have:=(aa.1 h1).1;simp at this;rw [h.len] at this;omega
  ·rcases Du h2 with h2 | ⟨_,rfl⟩
   ·have:=(aa.1 h2).1;simp at this;rw [h.len] at this;omega
   ·exact .inl ⟨by simp,rfl,rfl⟩
 have cross:∀ (j:Nat) r1 v1 b,j≠i->R[j]? = some r1->ρ[j]? = some v1->r1.foot v1 b->r'.foot v' b->False:=by
  intro j r1 v1 b hj h1 h2 h3 h4
  rcases hf b h4 with h5 | h5
  ·exact h.dis j i r1 r v1 v b hj h1 hi h2 hv h3 h5
  ·have:=(h.own j r1 v1 b h1 h2 h3).2.1;omega
 refine⟨by simp [h.len],?_,?_,?_,h.sub,?_,?_,aw h.size hsz,ho.trans h.os,ht.trans h.tape,hp.trans h.output,h.pre.trans (Pre.append _ _),h.gl⟩
 ·intro j r1 v1 h1 h2
  rcases key j r1 v1 h1 h2 with⟨_,rfl,rfl⟩ | rfl | ⟨hj,g1,g2⟩
  ·exact hok
  ·exact .inr trivial
  ·exact (h.ok j r1 v1 g1 g2).mono (λ _ h=>h) hS (Pre.append _ _) λ b hb=>hw b (h.own j r1 v1 b g1 g2 hb).2.1 λ e=>h.dis j i r1 r v1 v b hj g1 hi g2 hv hb e
 ·intro j k r1 r2 v1 v2 b hjk h1 h2 h3 h4 h5 h6
  rcases key j r1 v1 h1 h3 with⟨ej,er,ev⟩ | rfl | ⟨hj,g1,g2⟩
  ·rcases key k r2 v2 h2 h4 with⟨ek,_,_⟩ | rfl | ⟨hk,m1,m2⟩
   ·exact hjk (ej.trans ek.symm)
   ·simp [Res.foot] at h6
   ·subst er;subst ev;exact cross k r2 v2 b hk m1 m2 h6 h5
  ·simp [Res.foot] at h5
  ·rcases key k r2 v2 h2 h4 with⟨ek,er,ev⟩ | rfl | ⟨hk,m1,m2⟩
   ·subst er;subst ev;exact cross j r1 v1 b hj g1 g2 h5 h6
   ·simp [Res.foot] at h6
   ·exact h.dis j k r1 r2 v1 v2 b hjk g1 m1 g2 m2 h5 h6
 ·intro j r1 v1 b h1 h2 h3
  rcases key j r1 v1 h1 h2 with⟨_,rfl,rfl⟩ | rfl | ⟨hj,g1,g2⟩
  ·rcases hf b h3 with h5 | h5
   ·obtain⟨o1,o2,o3⟩:=h.own i r v b hi hv h5
    exact⟨o1,aK o2 hsz,o3⟩
   ·exact⟨λ hb=>by have:=(h.sup b hb).1;omega,h5.2,.inr (aw h.size h5.1)⟩
  ·simp [Res.foot] at h3
  ·obtain⟨o1,o2,o3⟩:=h.own j r1 v1 b g1 g2 h3
   exact⟨o1,aK o2 hsz,o3⟩
 ·intro b hb
  exact⟨aK (h.sup b hb).1 hsz,(h.sup b hb).2⟩
 ·intro b hb hnf
  refine (hw b (aK hb h.size) λ e=>?_).trans (h.frm b hb hnf)
  rcases (h.own i r v b hi hv e).2.2 with k | k
  ·exact hnf k
  ·omega
theorem Afw {e:TypeId} {size bytes:Nat} {z:Value} (hs:B2 P e=some size) (hb:(P.info? e).map (·.bytes)=some bytes) (hz:Et P e=some z) :
  ∃ i,P.info? e=some i/\i.size=size/\i.bytes=bytes/\i.zero=some z:=by
 unfold B2 at hs
 unfold Et at hz
 cases hi:P.info? e with
 | none=>rw [hi] at hs;cases hs
 | some i=>
  rw [hi] at hs hb hz
  simp at hs hb hz
  exact⟨i,rfl,hs,hb,hz⟩
theorem Aar {t ty e:TypeId} {i:TypeInfo} (ht:P.underlying t=some (.slice e)) (hi:P.info? e=some i) {g o n cap:Nat} {cur:Array Value} (hg:Blk w g cur e)
  {x:Value} {b2:Option Addr} {m c2:Nat} {news:Array Value} (hx:x = .slice b2 m c2) (hf:(Builtin.firstCells i.size m x).run P w = .ok news w) (h1:∀ u,u∈news.toList->u.oneCell'=true)
  (hroom:n+m<=cap) (hfit:o+n*i.size+news.size<=cur.size) :
  (Builtin.append_ #[t,t] ty #[.slice (some ⟨g,o,none⟩) n cap,x]).run P w =
   .ok (.slice (some ⟨g,o,none⟩) (n+m) cap) (w.setRow g (cur.toList.take (o+n*i.size)++news.toList++cur.toList.drop (o+n*i.size+news.toList.length)).toArray):=by
 have hst:=Hz (P:=P) (w:=w) (g:=g) (o:=o+n*i.size) (t:=e) (vs:=news.toList) (cur:=cur) hg (by simpa using hfit) h1
 subst hx
 simp [Builtin.append_,run_underlying ht,sizeOf,typeInfo,hi,Builtin.lenOf,hroom,hf,Cx]
 simp at hst
 rw [hst]
 rfl
theorem Sv {t ty e:TypeId} {i:TypeInfo} {z:Value} (ht:P.underlying t=some (.slice e)) (hi:P.info? e=some i) (hz:i.zero=some z) {b1:Option Addr} {n cap:Nat} {olds news:Array Value}
  (ho:(Builtin.firstCells i.size n (.slice b1 n cap)).run P w.drew = .ok olds w.drew)
  {x:Value} {b2:Option Addr} {m c2:Nat} (hx:x = .slice b2 m c2) (hf:(Builtin.firstCells i.size m x).run P w.drew = .ok news w.drew)
  (hroom:¬n+m<=cap) (h63:((n+m:Nat):Int)<=9223372036854775807) (hfit:Builtin.nextslicecap (n+m) cap*i.bytes<=281474976710656) :
  (Builtin.append_ #[t,t] ty #[.slice b1 n cap,x]).run P w =
   .ok (.slice (some ⟨w.heap.size,0,none⟩) (n+m) (grownCap w (n+m) cap e))
    (w.drew.alloc (.cells (olds++news++Builtin.zeroCells z.cells (grownCap w (n+m) cap e-(n+m))) e)):=by
 have h63':¬(9223372036854775807<((n:Int)+(m:Int))):=by omega
 have h48':¬(281474976710656<Builtin.nextslicecap (n+m) cap*i.bytes):=by omega
 subst hx
 simp [Builtin.append_,run_underlying ht,sizeOf,typeInfo,zeroValue,hi,hz,Builtin.lenOf,hroom,h63',h48',Question.forced,hf,ho,newRow,grownCap]
end
end Go.SL
namespace Go.SL
section
variable {P:Program} {C:Ctx} {S S':Nat->Prop} {w w':World} {ρ ρ':List Value} {R:List Res} {L:List Ent} {cur:C_} {a:Act}
theorem Inv.drew (hI:Inv C S w ρ R):Inv C S w.drew ρ R:=
 hI.grow (λ _ h=>h) (λ _ h=>.inl h) (λ _ _=>rfl) (af _) rfl ⟨rfl,λ _=>by first | exact af _ | exact aJ _⟩ rfl
theorem Xg {vs:List Value} {ps:List Pd} (h:A5 (RdP S w) vs ps):∀ u,u∈vs->u.oneCell'=true:=by
 induction vs generalizing ps with
 | nil=>simp
 | cons x xs ih=>cases ps with
  | nil=>exact h.elim
  | cons d ds=>
   grind [A5,RdP.one]
theorem Aao {e size n cap:Nat} {rows:List (List Pd)} {cs:Array Value} {xs:List Value} (hp:A5 (RdP S w) xs rows.flatten) (hu:∀ l,l∈rows->l.length=size) (hn:n=rows.length)
  (hcs:cs.toList.take (n*size)=xs) (hsz:cap*size<=cs.size) (hcap:n<=cap) (hm:cap<=maxLen) (hb:∀ b,S b->b<w.heap.size) {w2:World} (hw2:w2.heap=w.heap) :
  (Res.sl e size rows).ok0 S (w2.alloc (.cells cs e)) (ρ++[.slice (some ⟨w.heap.size,0,none⟩) n cap]) (.slice (some ⟨w.heap.size,0,none⟩) n cap):=by
 subst hn
 refine Pk.2 (.inr ⟨w.heap.size,0,cap,cs,rfl,by rw [←hw2];exact .of (Ew _ _),hcap,hm,by omega,hu,?_⟩)
 simp only [List.drop_zero]
 rw [hcs]
 exact hp.mono λ _ _ h=>h.mono (λ _ h=>h) λ b h=>by
  have:=hb b h
  rw [←hw2] at this ⊢
  exact Cp _ _ _ this
theorem Alu {n c s:Nat} (h:n<=c):c*s<=n*s+(c-n)*s:=by
 rw [←aG];exact bh _ (by omega)
theorem Ac7 (hI:Inv C S w ρ R) {t ty e size bytes:Nat} {z:Value} (ht:P.underlying t=some (.slice e)) (hs:B2 P e=some (size+1)) (hby:(P.info? e).map (·.bytes)=some bytes) (hz:Et P e=some z)
  (hzn:z.cells.size=size+1) {i:Nat} {rows rows2:List (List Pd)} {h x:Value} {y:AV} (hi:R[i]? = some (.sl e (size+1) rows)) (hρ:ρ[i]? = some h) (hal:h.oneCell'=true) (hx:RdA S w ρ x y) (hsrc:Hs R (size+1) y=some rows2)
  (hu2:∀ l,l∈rows2->l.length=size+1) (hroom:(rows.length+rows2.length)*(bytes+1)<=140737488355328) :
  ∃ v w' ρ',(Builtin.append_ #[t,t] ty #[h,x]).run P w = .ok v w'/\D_ C S w ρ (R.set i .non++[.sl e (size+1) (rows++rows2)]) v (.d (.os R.length)) S w' ρ':=by
 obtain⟨info,i1,i2,i3,i4⟩:=Afw hs hby hz
 obtain⟨b2,c2,news,hxf,hfc,hnr⟩:=Ald (P:=P) hI hx hsrc hu2
 have hnews:news.size=rows2.length*(size+1):=by have:=hnr.length;rw [Dy hu2] at this;simpa using this
 have hnl:news.toList.length=rows2.length*(size+1):=by simpa using hnews
 have hb1:(rows.length+rows2.length)*bytes<=140737488355328:=aw (Nat.mul_le_mul_left _ (aJ _)) hroom
 have hb2:rows.length+rows2.length<=140737488355328:=aw (Nat.le_mul_of_pos_right _ (Nat.succ_pos bytes)) hroom
 have hlenS:R.length=ρ.length:=hI.len.symm
 have hfc':(Builtin.firstCells info.size rows2.length x).run P w = .ok news w:=by rw [i2];exact hfc w (λ _=>rfl)
 have hfd:(Builtin.firstCells info.size rows2.length x).run P w.drew = .ok news w.drew:=by rw [i2];exact hfc w.drew (λ _=>rfl)
 have fin:∀ (n cap:Nat) (cs:Array Value) (xs:List Value),n=rows.length+rows2.length->A5 (RdP S w) xs (rows++rows2).flatten->(∀ l,l∈rows->l.length=size+1)->cs.toList.take (n*(size+1))=xs->cap*(size+1)<=cs.size->n<=cap->cap<=maxLen ->
   D_ C S w ρ (R.set i .non++[.sl e (size+1) (rows++rows2)]) (.slice (some ⟨w.heap.size,0,none⟩) n cap) (.d (.os R.length)) S (w.drew.alloc (.cells cs e)) (ρ++[.slice (some ⟨w.heap.size,0,none⟩) n cap]):=by
  intro n cap cs xs hn hp hu hcs hsz hcap hm
  have hok:=Aao (e:=e) (ρ:=ρ) (size:=size+1) (n:=n) hp (λ l hl=>(am.1 hl).elim (hu l) (hu2 l)) (by simp [hn]) hcs hsz hcap hm (λ b hb=>(hI.sup b hb).1) (w2:=w.drew) rfl
  have hw:∀ b,b<w.heap.size->(w.drew.alloc (.cells cs e)).heap[b]? = w.heap[b]?:=λ b hb=>Cp w.drew _ b hb
  refine⟨hI.move hi hρ (λ k hk _=>hw k hk) (by simp) rfl ⟨rfl,λ _=>by first | exact af _ | exact aJ _⟩ rfl (λ k hk=>?_) (.inr hok),λ _ h=>h,λ b hb=>hw b (hI.sup b hb).1,Pre.append _ _,.d (.os ?_ rfl)⟩
  ·simp [Res.foot] at hk;subst hk
   exact .inr ⟨af _,by simp⟩
  ·rw [hlenS];simp
 rcases Pk.1 ((hI.ok i _ h hi hρ).live hal) with⟨h1,h2⟩ | ⟨b,o,cap,vs,h1,h2,h3,h4,h5,h6,h7⟩
 ·subst h1;subst h2
  by_cases hm:rows2.length=0
  ·have hr2:rows2=[]:=bo hm
   subst hr2
   refine⟨.slice none 0 0,w,ρ++[.slice none 0 0],?_,⟨hI.move hi hρ (λ _ _ _=>rfl) (af _) rfl ⟨rfl,λ _=>by first | exact af _ | exact aJ _⟩ rfl (λ k hk=>by simp [Res.foot] at hk) (.inr (.inl ⟨rfl,rfl⟩)),λ _ h=>h,λ _ _=>rfl,Pre.append _ _,.d (.os (by rw [hlenS];simp) rfl)⟩⟩
   have:news = #[]:=Array.eq_empty_of_size_eq_zero (by simpa using hnews)
   subst this
   subst hxf
   simp at hfc'
   simp [Builtin.append_,run_underlying ht,sizeOf,typeInfo,i1,Builtin.lenOf,hfc']
  ·have hg:=Sv (P:=P) (w:=w) (t:=t) (ty:=ty) (e:=e) ht i1 i4 (b1:=none) (n:=0) (cap:=0) (olds:=#[]) (by simp [Builtin.firstCells]) hxf hfd (by omega) (by simp at hb2;omega) (by
    rw [i3];exact growslice_fits (by omega) (by simpa using hb1))
   refine⟨_,_,_,hg,fin _ _ _ news.toList (by simp) (by simpa using hnr) (by simp) ?_ ?_ (grownCap_ge _ _ _ _) (grownCap_le_maxLen _ _ _ _ (by simp [maxLen];simp at hb2;omega))⟩
   ·simp only [Array.empty_append,Array.toList_append,aI]
    rw [←hnews]
    have:news.size=news.toList.length:=by simp
    rw [this];exact List.take_left
   ·have:=grownCap_ge w (0+rows2.length) 0 e
    have h2:=Alu (s:=size+1) this
    simp only [Array.size_append,size_zeroCells,hzn,hnews,bY,bE]
    simpa using h2
 ·subst h1
  have hold:((vs.toList.drop o).take (rows.length*(size+1))).length=rows.length*(size+1):=by rw [h7.length,Dy h6]
  by_cases hm:rows.length+rows2.length<=cap
  ·have hfit:o+rows.length*info.size+news.size<=vs.size:=by
    rw [i2,hnews]
    have:(rows.length+rows2.length)*(size+1)<=cap*(size+1):=bh _ hm
    rw [aG] at this
    omega
   have hr:=Aar (P:=P) (w:=w) (t:=t) (ty:=ty) (e:=e) ht i1 h2 hxf hfc' (Xg hnr) hm hfit
   have hown:=hI.own i _ _ b hi hρ rfl
   have hw:∀ k,k≠b->(w.setRow b (vs.toList.take (o+rows.length*info.size)++news.toList++vs.toList.drop (o+rows.length*info.size+news.toList.length)).toArray).heap[k]? = w.heap[k]?:=λ k hk=>B8 _ _ _ _ hk
   have hS:∀ k,S k->(w.setRow b (vs.toList.take (o+rows.length*info.size)++news.toList++vs.toList.drop (o+rows.length*info.size+news.toList.length)).toArray).heap[k]? = w.heap[k]?:=λ k hk=>hw k (λ e=>hown.1 (e ▸ hk))
   refine⟨_,_,ρ++[.slice (some ⟨b,o,none⟩) (rows.length+rows2.length) cap],hr,⟨hI.move hi hρ (λ k _ hk=>hw k (λ e=>hk (by simp [Res.foot,e]))) (by simp) rfl ⟨rfl,λ _=>by first | exact af _ | exact aJ _⟩ rfl (λ k hk=>by simp [Res.foot] at hk ⊢;exact .inl hk) ?_,λ _ h=>h,hS,Pre.append _ _,.d (.os (by rw [hlenS];simp) rfl)⟩⟩
   refine .inr (Pk.2 (.inr ⟨b,o,cap,_,by simp,h2.put (by simp only [bY,aF,aS,ce,cy];simp only [Array.size] at hfit h5 ⊢;omega),by simpa using hm,h4,?_,λ l hl=>(am.1 hl).elim (h6 l) (hu2 l),?_⟩))
   ·simp only [bY,aF,aS,ce,cy]
    simp only [Array.size] at hfit h5 ⊢
    omega
   ·have key:(((vs.toList.take (o+rows.length*info.size)++news.toList++vs.toList.drop (o+rows.length*info.size+news.toList.length)).drop o).take ((rows++rows2).length*(size+1)))=(vs.toList.drop o).take (rows.length*(size+1))++news.toList:=by
     rw [i2]
     have e1:(vs.toList.take (o+rows.length*(size+1))++news.toList++vs.toList.drop (o+rows.length*(size+1)+news.toList.length)).drop o=(vs.toList.drop o).take (rows.length*(size+1))++(news.toList++vs.toList.drop (o+rows.length*(size+1)+news.toList.length)):=by
      rw [bB,List.drop_append_of_le_length (by simp;omega),List.drop_take]
      congr 2
      omega
     rw [e1,←bB]
     have:(rows++rows2).length*(size+1)=((vs.toList.drop o).take (rows.length*(size+1))++news.toList).length:=by
      have h9:((vs.toList.drop o).take (rows.length*(size+1))++news.toList).length=rows.length*(size+1)+rows2.length*(size+1):=by
       rw [aF,hold,hnl]
      rw [h9,aF,aG]
     rw [this];exact List.take_left
    rw [key,cE]
    exact (h7.append hnr).mono λ _ _ h=>h.mono (λ _ h=>h) hS
  ·have hcell:∀ (j:Nat) v,((vs.toList.drop o).take (rows.length*(size+1)))[j]? = some v->w.drew.cell? ((⟨b,o,none⟩:Addr).add j)=some v:=by
    intro j v hv
    rw [an] at hv
    split at hv
    ·rw [ar] at hv
     rw [World.cell?_drew,Cx,h2.cell]
     simpa using hv
    ·cases hv
   have hlc:=run_loadCells_list (P:=P) w.drew ⟨b,o,none⟩ _ hcell
   rw [hold] at hlc
   have hg:=Sv (P:=P) (w:=w) (t:=t) (ty:=ty) (e:=e) ht i1 i4 (b1:=some ⟨b,o,none⟩) (n:=rows.length) (cap:=cap) (olds:=((vs.toList.drop o).take (rows.length*(size+1))).toArray) (by rw [i2];simpa [Builtin.firstCells] using hlc) hxf hfd hm (by omega) (by
    rw [i3];exact growslice_fits (by omega) hb1)
   refine⟨_,_,_,hg,fin _ _ _ ((vs.toList.drop o).take (rows.length*(size+1))++news.toList) rfl (by rw [cE];exact h7.append hnr) h6 ?_ ?_ (grownCap_ge _ _ _ _) (grownCap_le_maxLen _ _ _ _ (by simp [maxLen];omega))⟩
   ·simp only [Array.toList_append]
    have:(rows.length+rows2.length)*(size+1)=((vs.toList.drop o).take (rows.length*(size+1))++news.toList).length:=by
     have h9:((vs.toList.drop o).take (rows.length*(size+1))++news.toList).length=rows.length*(size+1)+rows2.length*(size+1):=by
      rw [aF,hold,hnl]
     rw [h9,aG]
    rw [this];exact List.take_left
   ·have h8:=Alu (s:=size+1) (grownCap_ge w (rows.length+rows2.length) cap e)
    simp only [Array.size_append,size_zeroCells,hzn,hnews,bY,hold]
    rw [aG] at h8
    exact h8
theorem O7 (hI : Inv C S w ρ R) {c : Cl} {ts : Array TypeId} {ty : TypeId} {vs : Array Value} {args : List AV} {out : Out} (hv : A5 (RdA S w ρ) vs.toList args) (h : C3 P R c ts.toList args = some out)
  (hk:∀ x,out.c=some x->x.ok P):∃ v w' ρ',(Builtin.append_ ts ty vs).run P w = .ok v w'/\D_ C S w ρ out.R v out.v S w' ρ':=by
 unfold C3 at h
 split at h
 ·rename_i ts' t u x y hts
  cases hb:Nat.beq t u with
  | false=>rw [hb] at h;simp at h
  | true =>
   rw [hb] at h
   simp only [cond_true] at h
   have:=aj hb
   subst this
   obtain⟨v0,v1,hvs,r0,r1⟩:∃ v0 v1,vs = #[v0,v1]/\RdA S w ρ v0 x/\RdA S w ρ v1 y:=by
    obtain⟨l⟩:=vs
    match l,hv with
    | [v0,v1],hv=>exact⟨v0,v1,rfl,hv.1,hv.2.1⟩
    | [],hv=>exact hv.elim
    | [_],hv=>exact hv.2.elim
    | _::_::_::_,hv=>exact hv.2.2.elim
   have htsa:ts = #[t,t]:=by obtain⟨l⟩:=ts;simp at hts;rw [hts]
   subst hvs;subst htsa
   split at h
   ·rename_i e ht
    split at h
    ·rename_i size bytes zn hs hby hz
     obtain⟨z,hz1,hz2⟩:=Dl hz
     split at h
     ·rename_i q1 q2 q3 q4 rows' rows2 hsrc
      cases hb2:Nat.beq zn (size+1) with
      | false=>rw [hb2] at h;simp at h
      | true=>
       rw [hb2] at h
       simp only [cond_true] at h
       have hzn:z.cells.size=size+1:=by rw [hz2];exact aj hb2
       split at h
       ·simp at h;subst h
        obtain⟨k1,k2,k3⟩:=hk _ rfl
        subst k3
        have hnil:=r0.exact_inv
        have hP:=hI.push (w':=w) (.sl e (size+1) []) (.slice none 0 0) (λ _ _=>rfl) (af _) rfl ⟨rfl,λ _=>by first | exact af _ | exact aJ _⟩ rfl (.inr (.inl ⟨rfl,rfl⟩)) (by simp [Res.foot])
        have hl:(ρ++[Value.slice none 0 0])[R.length]? = some (.slice none 0 0):=by rw [←hI.len];simp
        have hsrc':Hs (R++[.sl e (size+1) []]) (size+1) y=some rows2:=by
         unfold Hs at hsrc ⊢
         split at hsrc
         ·exact hsrc
         ·exact hsrc
         ·rename_i i
          split at hsrc
          ·rename_i a b c hi
           rw [aD (aa.1 hi).1,hi];exact hsrc
          ·cases hsrc
         ·rename_i i q1 q2 q3
          split at hsrc
          ·rename_i a b c hi
           rw [aD (aa.1 hi).1,hi];exact hsrc
          ·cases hsrc
         ·cases hsrc
        obtain⟨v,w',ρ',hr,ha⟩:=Ac7 (ty:=ty) hP ht hs hby hz1 hzn (i:=R.length) (rows:=[]) (by simp) hl rfl (r1.mono (λ _ h=>h) (λ _ _=>rfl) (Pre.append _ _)) hsrc' k2 (by simpa using k1)
        refine⟨v,w',ρ',by rw [hnil];exact hr,?_,ha.sub,ha.same,(Pre.append _ _).trans ha.pre,?_⟩
        ·have:=ha.inv
         simpa using this
        ·have:=ha.rd
         simpa using this
       ·rename_i i
        split at h
        ·rename_i e' s' rows hi
         cases hb3:(Nat.beq e' e&&Nat.beq s' (size+1)) with
         | false=>rw [hb3] at h;simp at h
         | true=>
          rw [hb3] at h
          simp only [cond_true] at h
          simp at h;subst h
          simp only [ab] at hb3
          have e1:=aj hb3.1
          have e2:=aj hb3.2
          subst e1;subst e2
          obtain⟨k1,k2,k3⟩:=hk _ rfl
          subst k3
          obtain⟨v,w',ρ',hr,ha⟩:=Ac7 (ty:=ty) hI ht hs hby hz1 hzn hi r0.d_inv.os_inv r0.d_inv.one r1 hsrc k2 k1
          exact⟨v,w',ρ',hr,ha⟩
        ·cases h
       ·cases h
     ·cases h
    ·cases h
   ·cases h
 ·cases h
theorem P7 {α β:Type} {Q:α->β->Prop} {xs:List α} {ds:List β} (h:A5 Q xs ds) (n:Nat):A5 Q (Ea n xs) (List.replicate n ds).flatten:=by
 induction n with
 | zero=>trivial
 | succ n ih=>exact h.append ih
theorem Nh {α:Type} (l:List α):∀ n,Ea n l=(List.replicate n l).flatten
 | 0=>rfl
 | n+1=>by simp [Ea,List.replicate_succ,Nh l n]
theorem Ym:∀ {l:List Value} {ds:List D},Ft l=some ds->ds=l.map (λ v=>D.p (.v v))/\∀ v,v∈l->v.oneCell'=true
 | [],ds,h=>by simp [Ft] at h;subst h;simp
 | v::r,ds,h=>by
  simp only [Ft] at h
  split at h
  ·rename_i d ds' h1 h2
   simp at h;subst h
   obtain⟨g1,g2⟩:=Ym h2
   unfold dOf at h1
   grind
  ·cases h
theorem yG:∀ {l:List Value} {ps:List Pd},dPs (l.map λ v=>D.p (.v v))=some ps->ps=l.map Pd.v
 | [],ps,h=>by simp [dPs] at h;subst h;rfl
 | v::r,ps,h=>by
  simp only [bw,dPs,dP] at h
  split at h
  ·rename_i x l h1 h2
   simp at h h1;subst h;subst h1
   rw [yG h2];rfl
  ·cases h
theorem A2e {v:Value} (h:zB (.v v)=true) (h1:v.oneCell'=true):Atr v (Pd.nz (.v v)):=by
 unfold zB at h
 split at h
 ·rename_i heq;cases heq;exact⟨rfl,rfl⟩
 ·cases h
 ·rename_i x h2 h3 heq
  cases heq
  have:Pd.nz (.v v) = .v v:=by
   unfold Pd.nz
   grind
  rw [this]
  refine⟨rfl,h1,?_⟩
  unfold jA
  grind
 ·rename_i heq;cases heq
theorem Yj {c : Cl} {t : TypeId} {len : Option Value} {out : Out} (h : Lx P R c t len = some out) (hk : ∀ x, out.c = some x -> x.ok P) (hS : ∀ b, S b -> b < w.heap.size) :
    ∃ l n cs e r,len=some l/\out.v = .d (.os R.length)/\out.R=R++[r]/\(Instr.makeSlice t l l).run P w = .ok (.slice (some ⟨w.heap.size,0,none⟩) n n) (w.alloc (.cells cs e)) /\
      (∀ ρ',r.ok0 S (w.alloc (.cells cs e)) ρ' (.slice (some ⟨w.heap.size,0,none⟩) n n))/\(∀ b,r.foot (.slice (some ⟨w.heap.size,0,none⟩) n n) b->b=w.heap.size):=by
  unfold Lx at h
  have key:∀ {e:TypeId} {l:Int} {size bytes:Nat} {ds:List D},P.underlying t=some (.slice e)->B2 P e=some (size+1)->(P.info? e).map (·.bytes)=some bytes->((Et P e).bind λ z=>Ft z.cells.toList)=some ds ->
      ∀ {zs:List Pd},dPs ds=some zs->zs.length=size+1->0<=l*((bytes:Int)+1)->l*((bytes:Int)+1)<=140737488355328 ->
      ∃ (n:Nat) (cs:Array Value) (vs:List Value),l=n/\(Instr.makeSlice t (.int .i64 l) (.int .i64 l)).run P w = .ok (.slice (some ⟨w.heap.size,0,none⟩) n n) (w.alloc (.cells cs e)) /\
        cs.toList=(List.replicate n vs).flatten/\vs.length=size+1/\zs=vs.map Pd.v/\(∀ v,v∈vs->v.oneCell'=true)/\n<=140737488355328/\cs.size=n*(size+1):=by
    intro e l size bytes ds ht hs hby hz zs hd hzl k1 k2
    obtain⟨z,hz1,hz2⟩:=Dk hz
    obtain⟨d1,d2⟩:=Ym hz2
    subst d1
    have hzv:=yG hd
    obtain⟨info,i1,i2,i3,i4⟩:=Afw hs hby hz1
    have hl0:0<=l:=by
      rcases Int.lt_or_le l 0 with h | h
      · have:l*((bytes:Int)+1)<0:=Int.mul_neg_of_neg_of_pos h (by omega)
        omega
      · exact h
    obtain⟨n,rfl⟩:=Int.eq_ofNat_of_zero_le hl0
    have hn:n*(bytes+1)<=140737488355328:=by
      have:((n*(bytes+1):Nat):Int)<=140737488355328:=by push_cast;exact k2
      omega
    have hn1:n<=140737488355328:=aw (Nat.le_mul_of_pos_right _ (Nat.succ_pos bytes)) hn
    have hn2:n*bytes<=140737488355328:=aw (Nat.mul_le_mul_left _ (aJ _)) hn
    have hwrap:IntKind.i64.wrap (n:Int)=n:=IntWalk.i64_in _ (by omega)
    have hzs : z.cells.size = size + 1 := by have : zs.length = z.cells.toList.length := by rw [hzv]; simp
                                             rw [hzl] at this;simpa using this.symm
    have hlarge:¬((281474976710656:Int)<(bytes:Int)*(n:Int)):=by
      have:((n*bytes:Nat):Int)<=140737488355328:=by omega
      push_cast at this
      rw [Int.mul_comm]
      omega
    have hcells:∃ cs:Array Value,cs.toList=Ea n z.cells.toList/\(Instr.makeSlice t (.int .i64 n) (.int .i64 n)).run P w = .ok (.slice (some ⟨w.heap.size,0,none⟩) n n) (w.alloc (.cells cs e)):=by
      refine⟨(Array.range (n*z.cells.size)).map (λ i=>z.cells[i % z.cells.size]!),Ng _ _,?_⟩
      by_cases h0:n=0
      · subst h0
        have hw0:IntKind.i64.wrap 0=0:=IntWalk.i64_in 0 (by omega)
        simp [Instr.makeSlice,run_underlying ht,asInt,asIntOf,typeInfo,i1,sizeOf,newRow,hw0]
        congr 2
        apply Array.ext';simp
      · have hneg:¬((n:Int)<0):=by omega
        have h1:(n*(size+1)=0)=False:=eq_false (Nat.mul_ne_zero h0 (by omega))
        simp [hneg,h1,Instr.makeSlice,run_underlying ht,asInt,asIntOf,typeInfo,i1,i2,i3,sizeOf,newRow,hwrap,hlarge,hzs,zeroValue,i4]
    obtain⟨cs,hc1,hc2⟩:=hcells
    have hcl:cs.size=n*(size+1):=by
      have:cs.toList.length=n*z.cells.toList.length:=by rw [hc1,K2]
      simpa [hzs] using this
    exact⟨n,cs,z.cells.toList,rfl,hc2,by rw [hc1,Nh],by simpa using hzs,hzv,d2,hn1,hcl⟩
  have hfoot:∀ (n b:Nat),El (.slice (some ⟨w.heap.size,0,none⟩) n n) b->b=w.heap.size:=λ n b h=>Eq.symm h
  split at h
  · rename_i e l q1 q2 rows' ht
    split at h
    · rename_i size bytes ds hs hby hz
      split at h
      · rename_i zs hd
        cases hb:Nat.beq zs.length (size+1) with
        | false=>rw [hb] at h;simp at h
        | true=>
          rw [hb] at h
          simp at h;subst h
          obtain⟨k1,k2,k3⟩:=hk _ rfl
          subst k3
          have hzl:=aj hb
          obtain⟨n,cs,vs,rfl,hrun,hc,hvl,hzv,hone,hn1,hcl⟩:=key ht hs hby hz hd hzl k1 k2
          refine⟨_,n,cs,e,_,rfl,rfl,rfl,hrun,λ ρ'=>?_,λ b hb=>hfoot n b hb⟩
          have hall:A5 (RdP S w) vs zs:=by
            rw [hzv]
            refine d4 (by simp) λ j x d hx hd=>?_
            rw [az,hx] at hd
            simp at hd;subst hd
            exact .v x (hone x (ae hx))
          have hok:=Aao (e:=e) (ρ:=[]) (size:=size+1) (n:=n) (cap:=n) (rows:=List.replicate n zs) (cs:=cs) (xs:=cs.toList) (by rw [hc,←Nh];exact P7 hall n) (λ l hl=>by rw [cf hl];exact hzl) (by simp)
            (cu (by simp [hcl])) (by omega) (af _) (by simp [maxLen];omega) hS (w2:=w) rfl
          simp only [aE]
          exact hok
      · cases h
    · cases h
  · rename_i e l q1 q2 rows' ht
    split at h
    · rename_i size bytes ds hs hby hz
      split at h
      · rename_i zs hd
        cases hb:(Nat.beq zs.length (size+1)&&zs.all zB) with
        | false=>rw [hb] at h;simp at h
        | true=>
          rw [hb] at h
          simp only [cond_true,ah] at h
          subst h
          simp only [ab] at hb
          obtain⟨k1,k2,k3⟩:=hk _ rfl
          subst k3
          have hzl:=aj hb.1
          obtain⟨n,cs,vs,rfl,hrun,hc,hvl,hzv,hone,hn1,hcl⟩:=key ht hs hby hz hd hzl k1 k2
          refine⟨_,n,cs,e,_,rfl,rfl,rfl,hrun,λ ρ'=>?_,λ b hb=>hfoot n b hb⟩
          refine .inr ⟨w.heap.size,0,n,cs,by simp,Ew _ _,by simp,by simp [maxLen];omega,by omega,λ row hrow=>?_,λ i row hi j d hj=>?_⟩
          · rw [cf hrow];simpa using hzl
          · have hin:i<n:=by have:=(aa.1 hi).1;simpa using this
            have hrow:row=zs.map Pd.nz:=cf (ae hi)
            subst hrow
            rw [hzv,List.map_map,az] at hj
            obtain⟨x,hx,hd'⟩:=Dl hj
            refine⟨x,?_,?_⟩
            · have hg:=Ll (rows:=List.replicate n vs) (size:=size+1) (λ l hl=>by rw [cf hl];exact hvl) (i:=i) (j:=j) (row:=vs) (d:=x) (by rw [List.getElem?_replicate,if_pos hin]) hx
              rw [←hc] at hg
              simpa using hg
            · subst hd'
              have hzb:=(aH.1 hb.2) (.v x) (by rw [hzv];exact ao.2 ⟨x,ae hx,rfl⟩)
              exact A2e hzb (hone x (ae hx))
      · cases h
    · cases h
  · cases h
theorem Aml (hI:Inv C S w ρ R) {c:Cl} {t:TypeId} {len:Option Value} {out:Out} (h:Lx P R c t len=some out) (hk:∀ x,out.c=some x->x.ok P) :
  ∃ v w' ρ' l,len=some l/\(Instr.makeSlice t l l).run P w = .ok v w'/\D_ C S w ρ out.R v out.v S w' ρ':=by
 obtain⟨l,n,cs,e,r,h1,h2,h3,h4,h5,h6⟩:=Yj h hk (λ b hb=>(hI.sup b hb).1)
 have hw:∀ b,b<w.heap.size->(w.alloc (.cells cs e)).heap[b]? = w.heap[b]?:=λ b hb=>Cp w _ b hb
 refine⟨_,_,ρ++[.slice (some ⟨w.heap.size,0,none⟩) n n],l,h1,h4,?_⟩
 rw [h2,h3]
 refine⟨hI.push _ _ hw (by simp) rfl ⟨rfl,λ _=>by first | exact af _ | exact aJ _⟩ rfl (.inr (h5 _)) λ b hb=>?_,λ _ h=>h,λ b hb=>hw b (hI.sup b hb).1,Pre.append _ _,.d (.os ?_ rfl)⟩
 ·rw [h6 b hb];simp
 ·rw [←hI.len];simp
theorem Ai7 (hI:Inv C S w ρ R) {c:Cl} {s d:TypeId} {x:Option Value} {out:Out} (h:M7 P R c s d x=some out) (hk:∀ y,out.c=some y->y.ok P) :
  ∃ v v' w' ρ',x=some v/\(convert s d v).run P w = .ok v' w'/\D_ C S w ρ out.R v' out.v S w' ρ':=by
 unfold M7 at h
 split at h
 ·rename_i e b q1 q2 rows' hs hd
  split at h
  ·rename_i he
   have hmk:Vq e=true:=by
    grind
   rw [hmk] at h
   simp at h;subst h
   obtain⟨k1,k2,k3⟩:=hk _ rfl
   subst k3
   have hold:∀ k,k<w.heap.size->(Lib.bytesWorld w e b).heap[k]? = w.heap[k]?:=λ k hk=>Lib.bytesWorld_at_old w e b k hk
   have hsz:=Lib.bytesWorld_size w e b
   have hlen:(G_ b).length=b.size:=by simp [G_,Ku]
   have hcs:(Lib.bytesCells w e b).size=b.size+(grownCap w b.size 0 e-b.size):=by simp [Lib.bytesCells]
   refine⟨_,_,_,ρ++[.slice (some ⟨w.heap.size,0,none⟩) b.size (grownCap w b.size 0 e)],rfl,Lib.run_convert_string_bytes w s d e b hs hd he,?_⟩
   refine⟨hI.push _ _ hold (by omega) rfl ⟨rfl,λ _=>by first | exact af _ | exact aJ _⟩ rfl (.inr (.inr ⟨w.heap.size,0,_,_,by rw [hlen],⟨_,Lib.bytesWorld_at_new w e b,.inr (af _),λ hm=>absurd (hmk.symm.trans hm) (by decide)⟩,by rw [hlen];exact grownCap_ge _ _ _ _,grownCap_le_maxLen _ _ _ _ (by simp [maxLen];omega),?_,λ row hr=>?_,λ i row hi j q hj=>?_⟩)) λ k hk=>?_,λ _ h=>h,λ k hk=>hold k (hI.sup k hk).1,Pre.append _ _,.d (.os ?_ rfl)⟩
   ·have:=grownCap_ge w b.size 0 e
    omega
   ·unfold G_ at hr
    obtain⟨n,_,rfl⟩:=ao.1 hr
    rfl
   ·have hil:i<b.size:=by rw [←hlen];exact (aa.1 hi).1
    unfold G_ Ku at hi
    rw [az,az] at hi
    obtain⟨z,h1,rfl⟩:=Dl hi
    obtain⟨y,h2,rfl⟩:=Dl h1
    have hj0:j=0:=by
     have:=(aa.1 hj).1
     simp at this;exact this
    subst hj0
    simp at hj;subst hj
    refine⟨.int .u8 (y.toNat:Int),?_,.v _ rfl⟩
    have:=Lib.bytesWorld_cell w e b i hil
    rw [cO,h2] at this
    rw [Ik (Lib.bytesWorld_at_new w e b)] at this
    rw [aI,Nat.mul_one,bx,this];rfl
   ·simp [Res.foot] at hk;subst hk
    exact⟨af _,by omega⟩
   ·rw [←hI.len];simp
  ·cases h
 ·cases h
theorem Ai8 (hI : Inv C S w ρ R) {c : Cl} {s d : TypeId} {x : Option AV} {out : Out} {v : Value} (h : M8 P R c s d x = some out) (hv : ∀ y, x = some y -> RdA S w ρ v y) :
  ∃ v' w',(convert s d v).run P w = .ok v' w'/\D_ C S w ρ out.R v' out.v S w' ρ:=by
 unfold M8 at h
 split at h
 ·rename_i e i hd
  split at h
  ·rename_i e' z row rows hi he
   cases hb:Nat.beq s d&&Vq e' with
   | false=>rw [hb] at h;cases h
   | true=>
    rw [hb] at h
    have hbm:=(bN.1 hb).2
    have hsd:=aj (bN.1 hb).1
    subst hsd
    simp at h;subst h
    have hr:=hv _ rfl
    have hρ:=hr.d_inv.os_inv
    rcases (hI.ok i _ v hi hρ).live hr.d_inv.one with⟨h1,h2⟩ | ⟨b,o,cap,vs,h1,⟨fr,hb1,hb2,hb3⟩,h3,h4,h5,h6,h7⟩
    ·cases h2
    ·subst h1
     have hsh:w.shape? b=some (e',vs.size):=by simp [World.shape?,hb1]
     have hblk:(w.freeze ⟨b,vs.size,none⟩ 1).heap[b]? = some (.cells vs e' (if fr.1==fr.2 then (vs.size,vs.size+1) else (min fr.1 vs.size,max fr.2 (vs.size+1)))):=by
      simp [World.freeze,Array.getElem?_modify,hb1]
     have hoth:∀ k,k≠b->(w.freeze ⟨b,vs.size,none⟩ 1).heap[k]? = w.heap[k]?:=λ k hk=>by
      simp [World.freeze,Array.getElem?_modify,Ne.symm hk]
     have hsz:(w.freeze ⟨b,vs.size,none⟩ 1).heap.size=w.heap.size:=by simp [World.freeze]
     have hown:=hI.own i _ _ b hi hρ rfl
     have hS:∀ k,S k->(w.freeze ⟨b,vs.size,none⟩ 1).heap[k]? = w.heap[k]?:=λ k hk=>hoth k λ e=>hown.1 (e ▸ hk)
     refine⟨.slice (some ⟨b,o,none⟩) (row::rows).length cap,w.freeze ⟨b,vs.size,none⟩ 1,?_,?_,λ _ h=>h,hS,Pre.refl _,?_⟩
     ·simp [convert,run_underlying hd,run_underlying he,markStringish,hsh,Result.andThen]
     ·have hI':=hI.put hi hρ (w':=w.freeze ⟨b,vs.size,none⟩ 1) (r':=.sl e' z (row::rows)) (b:=b) rfl (λ k hk=>by simp [Res.foot] at hk;exact hk.symm) hoth hsz rfl ⟨rfl,λ _=>by first | exact af _ | exact aJ _⟩ rfl
       (.inr (.inr ⟨b,o,cap,vs,rfl,⟨_,hblk,.inr ?_,λ hm=>absurd (hbm.symm.trans hm) (by decide)⟩,h3,h4,h5,h6,λ i2 r hi2 j q hj=>?_⟩))
      ·have:R.set i (.sl e' z (row::rows))=R:=by
        apply bC
        grind
       rw [this] at hI'
       exact hI'
      ·rcases hb2 with hb2 | hb2
       ·rw [if_pos (by simpa using hb2)];exact af _
       ·split
        ·exact af _
        ·show vs.size<=min fr.1 vs.size
         omega
      ·obtain⟨x,hx,hR⟩:=h7 i2 r hi2 j q hj
       exact⟨x,hx,hR.mono (λ _ h=>h) hS⟩
     ·exact .d (.os hρ rfl)
  ·cases h
 ·cases h
theorem Amq (hI:Inv C S w ρ R) {c:Cl} {s d:TypeId} {x:Option Value} {out:Out} (h:Tw P R c s d x=some out) (hk:∀ y,out.c=some y->y.ok P) :
  out.R=R/\∃ v v' w' S',x=some v/\(convert s d v).run P w = .ok v' w'/\D_ C S w ρ R v' out.v S' w' ρ:=by
 unfold Tw at h
 split at h
 ·rename_i e b q1 q2 rows' hs hd
  split at h
  ·rename_i he
   simp at h;subst h
   obtain⟨k1,k2,k3⟩:=hk _ rfl
   subst k3
   refine⟨rfl,_,_,_,λ k=>S k\/k=w.heap.size,rfl,Lib.run_convert_string_bytes w s d e b hs hd he,?_⟩
   have hold:∀ k,k<w.heap.size->(Lib.bytesWorld w e b).heap[k]? = w.heap[k]?:=λ k hk=>Lib.bytesWorld_at_old w e b k hk
   have hsz:=Lib.bytesWorld_size w e b
   have hsub:∀ k,S k->k<w.heap.size:=λ k hk=>(hI.sup k hk).1
   refine⟨hI.grow (λ _ h=>.inl h) (λ k hk=>hk.imp id λ e=>⟨by omega,by omega⟩) hold (by omega) rfl ⟨rfl,λ _=>by first | exact af _ | exact aJ _⟩ rfl,λ _ h=>.inl h,λ k hk=>hold k (hsub k hk),Pre.refl _,.d (.p ?_)⟩
   have hlen:(G_ b).length=b.size:=by simp [G_,Ku]
   have hget:∀ (i:Nat) row,(G_ b)[i]? = some row->i<b.size/\row=[Pd.v (.int .u8 (b.data.toList.getD i 0).toNat)]:=by
    intro i row hi
    have hil:i<b.size:=by rw [←hlen];exact (aa.1 hi).1
    refine⟨hil,?_⟩
    unfold G_ Ku at hi
    grind
   have:=RdP.s (S:=λ k=>S k\/k=w.heap.size) (w:=Lib.bytesWorld w e b) (some ⟨w.heap.size,0,none⟩) ⟨w.heap.size,0,none⟩ (grownCap w b.size 0 e) 1 (G_ b) (λ i _=>.int .u8 (b.data.toList.getD i 0).toNat)
    (by rw [hlen];exact grownCap_ge _ _ _ _) (grownCap_le_maxLen _ _ _ _ (by simp [maxLen];omega)) (λ h=>by cases h)
    (λ row hr=>by
     obtain⟨i,hi⟩:=bI hr
     rw [(hget i row hi).2];rfl)
    (λ i row hi j q hj=>by
     obtain⟨g1,g2⟩:=hget i row hi
     subst g2
     have hj0:j=0:=by
      have:=(aa.1 hj).1
      simp at this;exact this
     subst hj0
     refine⟨rfl,.inr rfl,?_⟩
     rw [Cx]
     have:=Lib.bytesWorld_cell w e b i g1
     simpa using this)
    (λ i row hi j q hj=>by
     obtain⟨g1,g2⟩:=hget i row hi
     subst g2
     have hj0:j=0:=by
      have:=(aa.1 hj).1
      simp at this;exact this
     subst hj0
     have hj':Pd.v (.int .u8 (b.data.toList.getD i 0).toNat)=q:=by simpa using hj
     rw [←hj']
     exact .v (.int .u8 (b.data.toList.getD i 0).toNat) rfl)
   rw [hlen] at this
   exact this
  ·cases h
 ·cases h
end
end Go.SL
