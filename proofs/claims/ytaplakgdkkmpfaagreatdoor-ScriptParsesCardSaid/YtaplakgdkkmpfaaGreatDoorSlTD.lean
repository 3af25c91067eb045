import Derived.Test.YtaplakgdkkmpfaaGreatDoorSlT
namespace Go.SL
section
variable {P:Program} {n:Nat} {C:Ctx} {st st':St} {R R':List Res} {S S':Nat->Prop} {w w':World} {ρ ρ':List Value} {a:Act}
theorem Uy {α:Type} {rows:List (List α)} {size k:Nat} (h1:∀ row,row∈rows->row.length=size) (hk:k<rows.length*size):∃ i j row d,k=i*size+j/\rows[i]? = some row/\row[j]? = some d/\j<size:=by
 have hs:0<size:=by
  rcases Nat.eq_zero_or_pos size with h | h
  ·rw [h] at hk;omega
  ·exact h
 have hkl:k / size<rows.length:=(Nat.div_lt_iff_lt_mul hs).2 hk
 have hrow:=am hkl
 have hrl:=h1 _ (aq hrow)
 have hj:k % size<(rows[k / size]).length:=by rw [hrl];exact Nat.mod_lt _ hs
 refine⟨k / size,k % size,_,_,?_,hrow,am hj,Nat.mod_lt _ hs⟩
 rw [Nat.mul_comm];exact (Nat.div_add_mod k size).symm
theorem Md {e:Ent} (h:K8 S w ρ a e) (hS:∀ b,S b->S' b) (hρ:Pre ρ ρ'):K8 S' w ρ' a e:=by
 refine⟨λ hp=>?_,h.2⟩
 obtain⟨v,hv,hr⟩:=h.1 hp
 exact⟨v,hv,hr.mono hS (λ _ _=>rfl) hρ⟩
theorem Inv.swap0 {r r':Res} {i:Nat} {v:Value} (h:Inv C S w ρ R) (hi:R[i]? = some r) (hρ:ρ[i]? = some v) (hok:r.ok S w ρ v->r'.ok S w ρ v) (hf:∀ b,r'.foot v b=r.foot v b):Inv C S w ρ (R.set i r'):=by
 refine h.regroup (λ j _=>j) (by simp [h.len]) (Pre.refl _) (λ j r1 v1 h1 h2=>?_) (λ j r1 v1 b h1 h2 h3=>?_) (λ _ _=>rfl) rfl rfl rfl rfl
 ·rw [ax] at h1
  split at h1
  ·rename_i hj
   subst hj
   split at h1
   ·cases h1;rw [hρ] at h2;cases h2;exact hok (h.ok i r v hi hρ)
   ·cases h1
  ·exact h.ok j r1 v1 h1 h2
 ·rw [ax] at h1
  split at h1
  ·rename_i hj
   subst hj
   split at h1
   ·cases h1;rw [hρ] at h2;cases h2;exact⟨_,_,_,rfl,hi,hρ,by rw [←hf];exact h3⟩
   ·cases h1
  ·exact⟨j,r1,v1,rfl,h1,h2,h3⟩
def Rr (i:Nat) (tys:List (TypeId×Nat)) (st:St) (R:List Res):Option (St×List Res):=
 match R[i]? with
 | some (.zsl e size rows)=>bif Nat.beq tys.length size then some (st,R.set i (.dsl e size R.length)++[.gh size tys rows none]) else none
 | _=>none
theorem Inv.deepen (h:Inv C S w ρ R) {i e size:Nat} {tys:List (TypeId×Nat)} {rows:List (List Pd)} (hi:R[i]? = some (.zsl e size rows)) (ht:tys.length=size) :
  ∃ g,Inv C S w (ρ++[g]) (R.set i (.dsl e size R.length)++[.gh size tys rows none]):=by
 have hL:ρ.length=R.length:=h.len
 have hil:i<ρ.length:=by rw [hL];exact (aa.1 hi).1
 have hρ:ρ[i]? = some ρ[i]:=am hil
 generalize ρ[i]=v at hρ
 have nohole:∀ q,¬C2 size none q:=λ q ⟨p,hp,_⟩=>by cases hp
 have key : ∃ g : Value, (∀ (xs cs : Array Value) (f : Fn), g = Value.func f xs cs -> (∀ (k : Nat) (x : Value), xs[k]? = some x -> ¬ ∃ a n c, x = Value.slice (some a) n c)) /\ (g.oneCell' = false \/ ∃ f xs cs, g = .func f xs cs /\ gOk S w size tys rows none xs) /\
   (∀ ρ':List Value,ρ'[R.length]? = some g->(Res.dsl e size R.length).ok S w ρ' v):=by
  rcases h.ok i _ _ hi hρ with hd | hk
  ·exact⟨undef,(λ xs cs f h=>by cases h),.inl rfl,λ ρ' _=>.inl hd⟩
  ·rcases hk with⟨h1,h2⟩ | ⟨b,o,cap,vs,h1,hb,h3,h4,h5,h6,h7⟩
   ·subst h1;subst h2
    refine⟨.func (.func 0) #[] #[],(λ xs cs f h=>by cases h;simp),.inr ⟨_,_,_,rfl,by simp,by simp,by simp,by simp⟩,λ ρ' hg=>.inr ⟨_,_,_,hg,.inl ⟨rfl,by simp⟩⟩⟩
   ·subst h1
    have hle:rows.length*size<=cap*size:=aN _ h3
    have hsz:(vs.extract o (o+rows.length*size)).size=rows.length*size:=by simp;omega
    have hget:∀ (k:Nat) (x:Value),(vs.extract o (o+rows.length*size))[k]? = some x->k<rows.length*size/\vs[o+k]? = some x:=by
     intro k x hx
     have hkl:k<rows.length*size:=by rw [←hsz];exact (aI.1 hx).1
     refine⟨hkl,?_⟩
     rw [Array.getElem?_extract] at hx
     split at hx
     ·exact hx
     ·cases hx
    have hns:∀ (k:Nat) (x:Value),(vs.extract o (o+rows.length*size))[k]? = some x->¬ ∃ a n c,x=Value.slice (some a) n c:=by
     rintro k x hx ⟨a,n,c,rfl⟩
     obtain⟨hk,hv⟩:=hget k _ hx
     obtain⟨i2,j2,row,d,e1,e2,e3,_⟩:=Uy h6 hk
     obtain⟨y,hy,hz⟩:=h7 i2 row e2 j2 d e3
     subst e1
     rw [←bj,hy] at hv
     cases hv
     cases d with
     | v z=>
      obtain⟨e1,_,hn⟩:=hz
      subst e1
      exact hn
     | s r=>cases hz.1
    refine⟨.func (.func 0) (vs.extract o (o+rows.length*size)) #[],(λ xs cs f h=>by cases h;exact hns),.inr ⟨_,_,_,rfl,h6,hsz,λ i2 row hi2 j2 d hj2=>?_,λ k1 k2 a1 n1 c1 a2 n2 c2 _ _ _ h8 _=>absurd ⟨_,_,_,rfl⟩ (hns k1 _ h8)⟩,λ ρ' hg=>.inr ⟨_,_,_,hg,.inr ⟨b,o,rows.length,cap,vs,rfl,hb,h3,h4,h5,hsz,λ k x hx=>(hget k x hx).2⟩⟩⟩
    obtain⟨y,hy,hz⟩:=h7 i2 row hi2 j2 d hj2
    have hil2:i2<rows.length:=(aa.1 hi2).1
    have hjl:j2<size:=by rw [←h6 row (aq hi2)];exact (aa.1 hj2).1
    have hlt:i2*size+j2<rows.length*size:=by
     have:(i2+1)*size<=rows.length*size:=aN _ hil2
     rw [ar,bC] at this;omega
    refine⟨y,?_,?_⟩
    ·rw [Array.getElem?_extract,if_pos (by omega),←bj];exact hy
    ·cases d with
     | v z=>exact hz
     | s r=>
      obtain⟨rfl,rfl⟩:=hz
      exact⟨rfl,λ _=>⟨_,_,am (by rw [ht];exact hjl),.inl ⟨rfl,rfl⟩⟩⟩
 obtain⟨g,hnos,hgok,hdok⟩:=key
 refine⟨g,?_⟩
 have hnew:(ρ++[g])[R.length]? = some g:=by rw [←hL];simp
 refine h.regroup (λ j _=>j) (by simp [hL]) (Pre.append _ _) (λ j r v1 h1 h2=>?_) (λ j r v1 b h1 h2 h3=>?_) (λ _ _=>rfl) rfl rfl rfl rfl
 ·rcases A9 h1 with k1 | ⟨e1,rfl⟩
  ·have hjl:j<R.length:=by have:=(aa.1 k1).1;simpa using this
   have h2:ρ[j]? = some v1:=by rw [an (by omega)] at h2;exact h2
   rw [ax] at k1
   split at k1
   ·rename_i hj
    subst hj
    split at k1
    ·cases k1;rw [hρ] at h2;cases h2;exact hdok _ hnew
    ·omega
   ·exact (h.ok j r v1 k1 h2).mono (λ _ h=>h) (λ _ _=>rfl) (Pre.append _ _) (λ _ _=>rfl)
  ·have e2:j=R.length:=by simpa using e1
   subst e2
   rw [hnew] at h2;cases h2
   exact hgok
 ·rcases A9 h1 with k1 | ⟨e1,rfl⟩
  ·have hjl:j<R.length:=by have:=(aa.1 k1).1;simpa using this
   have h2:ρ[j]? = some v1:=by rw [an (by omega)] at h2;exact h2
   rw [ax] at k1
   split at k1
   ·rename_i hj
    subst hj
    split at k1
    ·cases k1;exact⟨_,_,_,rfl,hi,h2,h3⟩
    ·omega
   ·exact⟨j,r,v1,rfl,k1,h2,h3⟩
  ·have e2:j=R.length:=by simpa using e1
   subst e2
   rw [hnew] at h2;cases h2
   exfalso
   match g,h3,hnos with
   | .func f xs cs,h3,hnos=>
    obtain⟨k,x,k1,_,k3⟩:=h3
    match x,k3,k1 with
    | .slice (some ad) m cp,k3,k1=>exact hnos _ _ _ rfl k _ k1 ⟨_,_,_,rfl⟩
theorem Sat.deep {i:Nat} {tys:List (TypeId×Nat)} (h:Rr i tys st R=some (st',R')) (hs:Sat n C (mkL st) R a w):Sat n C (mkL st') R' a w:=by
 unfold Rr at h
 split at h
 ·rename_i e size rows hi
  cases hb:Nat.beq tys.length size with
  | false=>rw [hb] at h;simp at h
  | true=>
   rw [hb] at h
   simp only [cond_true,ah,aw] at h
   obtain⟨rfl,rfl⟩:=h
   obtain⟨h1,h2,S,ρ,h3,h4⟩:=hs
   obtain⟨g,hI⟩:=h3.deepen hi (ac hb)
   exact⟨h1,h2,S,ρ++[g],hI,λ e he=>Md (h4 e he) (λ _ h=>h) (Pre.append _ _)⟩
 ·cases h
def Q_ (i:Nat) (st:St) (R:List Res):Option (St×List Res):=
 match R[i]? with
 | some (.dsl e size g)=>match R[g]? with
  | some (.gh s2 _ rows none)=>bif Nat.beq size s2&&Nat.blt 0 size then some (st,(R.set g .non).set i (.sl e size rows)) else none
  | _=>none
 | _=>none
theorem Sat.flat {i : Nat} (h : Q_ i st R = some (st', R')) (hs : Sat n C (mkL st) R a w) : Sat n C (mkL st') R' a w := by
 unfold Q_ at h
 split at h
 ·rename_i e size g hi
  split at h
  ·rename_i s2 tys rows hg
   cases hb:Nat.beq size s2&&Nat.blt 0 size with
   | false=>rw [hb] at h;simp at h
   | true=>
    rw [hb] at h
    simp only [cond_true,ah,aw] at h
    obtain⟨rfl,rfl⟩:=h
    simp only [af] at hb
    have:=ac hb.1
    subst this
    have hs0:0<size:=by simpa [Nat.blt_eq] using hb.2
    obtain⟨h1,h2,S,ρ,h3,h4⟩:=hs
    have hig:i≠g:=λ e=>by subst e;rw [hi] at hg;cases hg
    obtain⟨v,hρi⟩:=h3.rho hi
    obtain⟨u,hρg⟩:=h3.rho hg
    have hF:=h3.freeze hg hρg
    have hi':(R.set g .non)[i]? = some (.dsl e size g):=by rw [aD (aE hig)];exact hi
    refine⟨h1,h2,_,ρ,hF.swap0 hi' hρi (λ hok=>?_) (λ _=>rfl),λ e he=>Md (h4 e he) (λ _ h=>.inl h) (Pre.refl _)⟩
    rcases h3.ok i _ v hi hρi with hd | hk
    ·exact .inl hd
    ·refine .inr ?_
     by_cases hv1:v.oneCell'=true
     ·obtain⟨f,xs,cs,hg1,hgo,hform⟩:=Ha h3 hi hg hρi hv1 hs0
      rw [hρg] at hg1;cases hg1
      rcases hform with⟨k1,k2⟩ | ⟨b,o,cap,vs,k1,k2,k3,k4,k5,k6⟩
      ·exact .inl ⟨k1,k2⟩
      ·refine .inr ⟨b,o,cap,vs,k1,.of k2,k3,k4,k5,hgo.1,λ i2 row hi2 j2 d hj2=>?_⟩
       obtain⟨x,hx,hc⟩:=hgo.2.2.1 i2 row hi2 j2 d hj2
       refine⟨x,by rw [bj];exact k6 _ x hx,?_⟩
       cases d with
       | v y=>
        obtain⟨rfl,hy,_⟩:=hc
        exact .v _ hy
       | s r=>
        have hno:¬C2 size none (i2*size+j2):=by rintro⟨p,hp,_⟩;cases hp
        obtain⟨e2,s3,_,hsl⟩:=hc.2 hno
        have hfr:=Res.ok0.frozen (ρ:=ρ) (show (Res.sl e2 s3 r).ok0 S w ρ x from hsl)
        refine hfr.mono (λ b hb=>?_) (λ _ _=>rfl)
        rcases hb with hb | hb
        ·exact .inl hb
        ·exact .inr ⟨_,x,hx,hno,hb⟩
     ·exfalso
      obtain⟨f,xs,cs,_,hk⟩:=hk
      rcases hk with⟨rfl,_⟩ | ⟨b,o,len,cap,vs,rfl,_⟩ <;> exact hv1 rfl
  ·cases h
 ·cases h
def Ny (t:Nat) (st:St) (R:List Res):Option (St×List Res):=
 match Ct (mkL st) t with
 | some en=>match en.v with
  | .d (.osb i 0 m sz)=>match R[i]? with
   | some (.sl e s rows)=>bif Nat.beq sz s then some (G8 t (.d (.os R.length)) st,R.set i .non++[.sl e s (rows.take m)]) else none
   | _=>none
  | _=>none
 | none=>none
theorem Ip {t:Nat} {v:AV}:∀ {st:St} {e:Ent},e∈mkL (G8 t v st)->(e.t=t/\e.p=[]/\e.v=v)\/(e∈mkL st/\e.t≠t)
 | [],e,h=>by cases h
 | (u, x) :: r, e, h => by
  unfold G8 at h
  cases hb:Nat.beq u t with
  | true=>
   rw [hb] at h
   simp only [cond_true,mkL,ag] at h
   rcases h with rfl | h
   ·exact .inl ⟨ac hb,rfl,rfl⟩
   ·rcases Ip h with h | ⟨h,h'⟩
    ·exact .inl h
    ·exact .inr ⟨ai _ h,h'⟩
  | false=>
   rw [hb] at h
   simp only [cond_false,mkL,ag] at h
   rcases h with rfl | h
   ·refine .inr ⟨ak,λ e=>?_⟩
    simp only at e
    subst e
    simp at hb
   ·rcases Ip h with h | ⟨h,h'⟩
    ·exact .inl h
    ·exact .inr ⟨ai _ h,h'⟩
theorem Sat.trunc {t : Nat} (h : Ny t st R = some (st', R')) (hs : Sat n C (mkL st) R a w) : Sat n C (mkL st') R' a w := by
 unfold Ny at h
 split at h
 ·rename_i en hen
  split at h
  ·rename_i i m sz hev
   split at h
   ·rename_i e s rows hi
    cases hb:Nat.beq sz s with
    | false=>rw [hb] at h;simp at h
    | true=>
     rw [hb] at h
     simp only [cond_true,ah,aw] at h
     obtain⟨rfl,rfl⟩:=h
     have:=ac hb
     subst this
     obtain⟨h1,h2,S,ρ,h3,h4⟩:=hs
     obtain⟨hmem,ht⟩:=Bi hen
     obtain⟨v,hv,hr⟩:=(h4 en hmem).1 (by rw [Dh hmem];exact Ba)
     rw [hev] at hr
     have hr':=hr.d_inv
     cases hr' with
     | @osb _ _ _ _ q ad len cap hρ hl hc hq hq2=>
      have hq0:q=0:=by omega
      subst hq0
      have hadd:ad.map (·.add 0)=ad:=by cases ad <;> simp [Ej]
      rw [hadd] at hv
      have hfootsub:∀ k,(Res.sl e sz (rows.take m)).foot (.slice ad m (cap-0)) k->(Res.sl e sz rows).foot (.slice ad len cap) k:=λ k hk=>by
       cases ad with
       | none=>exact hk
       | some ad=>exact hk
      have hI:=h3.move (w':=w) (r':=.sl e sz (rows.take m)) (v':=.slice ad m (cap-0)) hi hρ (λ _ _ _=>rfl) (ae _) rfl rfl rfl (λ k hk=>.inl (hfootsub k hk)) (by
       refine .inr ?_
       rcases (h3.ok i _ _ hi hρ).live rfl with⟨k1,k2⟩ | ⟨b,o,cp,vs,k1,k2,k3,k4,k5,k6,k7⟩
       ·cases k1
        subst k2
        have:m=0:=by omega
        subst this
        exact .inl ⟨rfl,by simp⟩
       ·cases k1
        have hml:(rows.take m).length=m:=by rw [aB];omega
        refine .inr ⟨b,o,cap,vs,by rw [hml];rfl,k2,by rw [hml];omega,k4,k5,λ row hr=>k6 row (bl hr),λ i2 row hi2 j d hj=>?_⟩
        rw [au] at hi2
        split at hi2
        ·obtain⟨x,hx,hrr⟩:=k7 i2 row hi2 j d hj
         exact⟨x,hx,hrr⟩
        ·cases hi2)
      have hnew:(ρ++[Value.slice ad m (cap-0)])[R.length]? = some (.slice ad m (cap-0)):=by rw [←h3.len];simp
      refine⟨h1,h2,S,_,hI,λ x hx=>?_⟩
      rcases Ip hx with⟨g1,g2,g3⟩ | ⟨g1,_⟩
      ·exact⟨λ _=>⟨_,by rw [g1,←ht];exact hv,by rw [g3];exact .d (.os hnew rfl)⟩,λ hn=>absurd (by rw [g2];exact Ba) hn⟩
      ·exact Md (h4 x g1) (λ _ h=>h) (Pre.append _ _)
   ·cases h
  ·cases h
 ·cases h
theorem _root_.Go.SL.CallOk.frz {f:FuncId} {args:List AV} {res:AV} {R2:List Res} (i:Nat) {e size:Nat} {rows:List (List Pd)} (h:CallOk P f args R res R2) (hi:R2[i]? = some (.sl e size rows)) :
  CallOk P f args R (res.frz i size rows) ((R2.set i .non).map (Res.frz i size rows)):=by
 intro S w ρ vs hs hv
 refine Calls.mono (h S w ρ vs hs hv) λ e w' hp=>?_
 obtain⟨v,S',ρ',rfl,hr,hI⟩:=hp
 obtain⟨S2,_,hI2,ha⟩:=hI.frz hi
 exact⟨v,S2,ρ',rfl,ha _ _ hr,hI2⟩
def D.own:D->Bool
 | .p (.v _)=>true
 | .os _=>true
 | .o _ _=>true
 | _=>false
mutual
def AV.own:AV->Bool
 | .d x=>x.own
 | .agg ds=>ds.all D.own
 | .tup l=>cO l
def cO:List AV->Bool
 | []=>true
 | a::r=>a.own&&cO r
end
def qG:Res->Prop
 | .sl _ _ rows=>∀ row,row∈rows->∀ d,d∈row->∃ v,d = .v v
 | .box _ cells=>cells.all D.own=true
 | .non=>True
 | _=>False
def qH:List Res->Prop
 | []=>True
 | r::l=>qG r/\qH l
def Pd.isV:Pd->Bool
 | .v _=>true
 | _=>false
def _root_.Go.SL.frzAll:List Nat->AV->List Res->Option (AV×List Res)
 | [],res,R2=>some (res,R2)
 | i::is,res,R2=>match R2[i]? with
  | some (.sl _ size rows)=>Go.SL.frzAll is (res.frz i size rows) ((R2.set i .non).map (Res.frz i size rows))
  | _=>none
theorem _root_.Go.SL.CallOk.frzAll {f:FuncId} {args:List AV}:∀ (is:List Nat) {res res':AV} {R2 R2':List Res} (_:CallOk P f args R res R2) (_:Go.SL.frzAll is res R2=some (res',R2')),CallOk P f args R res' R2'
 | [],_,_,_,_,h,hq=>by simp only [Go.SL.frzAll,ah,aw] at hq;obtain⟨rfl,rfl⟩:=hq;exact h
 | i::is,_,_,_,_,h,hq=>by
  simp only [Go.SL.frzAll] at hq
  split at hq
  ·rename_i e size rows hi
   exact CallOk.frzAll is (h.frz i hi) hq
  ·cases hq
end
end Go.SL
