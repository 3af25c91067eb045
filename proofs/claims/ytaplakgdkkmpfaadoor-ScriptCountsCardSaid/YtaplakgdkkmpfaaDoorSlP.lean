import Derived.Test.YtaplakgdkkmpfaaDoorSlO
namespace Go.SL
section
variable {P:Program} {C:Ctx} {S S':Nat->Prop} {w w':World} {ρ ρ':List Value} {R R':List Res} {L:List Ent} {cur:A0} {a:Act}
theorem Mq:∀ {L:List Ent} {e:Ent} {i off:Nat},e∈L->e.v = .d (.o i off)->i∈Av L
 | x::r,e,i,off,h,hv=>by
  rcases ag.1 h with rfl | h
  ·simp [Av,hv]
  ·have:=Mq h hv
   unfold Av;split <;> simp [this]
 | [],_,_,_,h,_=>by cases h
theorem Jz:∀ {L:List Ent} {e:Ent} {i:Nat},e∈L->e.v = .d (.os i)->i∈Av L
 | x::r,e,i,h,hv=>by
  rcases ag.1 h with rfl | h
  ·simp [Av,hv]
  ·have:=Jz h hv
   unfold Av;split <;> simp [this]
 | [],_,_,h,_=>by cases h
theorem J0:∀ {L:List Ent} {e:Ent} {i a b c:Nat},e∈L->e.v = .d (.oe i a b c)->i∈Av L
 | x::r,e,i,a,b,c,h,hv=>by
  rcases ag.1 h with rfl | h
  ·simp [Av,hv]
  ·have:=J0 h hv
   unfold Av;split <;> simp [this]
 | [],_,_,_,_,_,h,_=>by cases h
theorem J1:∀ {L:List Ent} {e:Ent} {i a b c:Nat},e∈L->e.v = .d (.osb i a b c)->i∈Av L
 | x::r,e,i,a,b,c,h,hv=>by
  rcases ag.1 h with rfl | h
  ·simp [Av,hv]
  ·have:=J1 h hv
   unfold Av;split <;> simp [this]
 | [],_,_,_,_,_,h,_=>by cases h
theorem H6:∀ {L:List Ent} {e:Ent} {i g a b c:Nat},e∈L->e.v = .d (.oi i g a b c)->i∈Av L/\g∈Av L
 | x::r,e,i,g,a,b,c,h,hv=>by
  rcases ag.1 h with rfl | h
  ·simp [Av,hv]
  ·have:=H6 h hv
   unfold Av;split <;> simp [this]
 | [],_,_,_,_,_,_,h,_=>by cases h
theorem Lb {i g e s:Nat}:∀ {l:List Nat},i∈l->R[i]? = some (.dsl e s g)->g∈G1 R l
 | [],h,_=>by cases h
 | j::l,h,hi=>by
  rcases ag.1 h with rfl | h
  ·simp [G1,hi]
  ·have:=Lb h hi
   unfold G1;split <;> simp [this]
theorem Rz {i:Nat} {l:List Nat} (h:i∈l):i∈deepen R l:=bc _ h
theorem O7 {i g e s:Nat} {l:List Nat} (h:i∈l) (hi:R[i]? = some (.dsl e s g)):g∈deepen R l:=bd _ (Lb h hi)
theorem G7 {v:Value} {i off a b c:Nat}:Gd v≠some (.d (.o i off))/\Gd v≠some (.d (.os i))/\Gd v≠some (.d (.oe i a b c))/\Gd v≠some (.d (.osb i a b c))/\∀ g,Gd v≠some (.d (.oi i g a b c)):=by
 unfold Gd
 split
 ·refine⟨?_,?_,?_,?_,λ _=>?_⟩ <;> (cases B6 (_:Array Value).toList <;> simp)
 ·simp
 ·refine⟨?_,?_,?_,?_,λ _=>?_⟩ <;>
  ·cases h:dOf v with
   | none=>simp
   | some d=>
    unfold dOf at h
    cases hb:v.oneCell' with
    | true=>rw [hb] at h;simp at h;subst h;simp
    | false=>rw [hb] at h;simp at h
theorem Rf {x:Operand} {i off:Nat} (h:Al L cur x=some (.d (.o i off))):i∈Av L:=by
 unfold Al at h
 split at h
 ·exact absurd h (G7 (a:=0) (b:=0) (c:=0)).1
 ·split at h
  ·rename_i e he
   cases hb:Ce e.p cur with
   | false=>rw [hb] at h;simp at h
   | true=>rw [hb] at h;simp at h;exact Mq (Bd he).1 h
  ·cases h
 ·simp at h
 ·cases h
theorem By {x:Operand} {i:Nat} (h:Al L cur x=some (.d (.os i))):i∈Av L:=by
 unfold Al at h
 split at h
 ·exact absurd h (G7 (off:=0) (a:=0) (b:=0) (c:=0)).2.1
 ·split at h
  ·rename_i e he
   cases hb:Ce e.p cur with
   | false=>rw [hb] at h;simp at h
   | true=>rw [hb] at h;simp at h;exact Jz (Bd he).1 h
  ·cases h
 ·simp at h
 ·cases h
theorem F2 {x:Operand} {i k s off:Nat} (h:Al L cur x=some (.d (.oe i k s off))):i∈Av L:=by
 unfold Al at h
 split at h
 ·exact absurd h (G7 (off:=0)).2.2.1
 ·split at h
  ·rename_i e he
   cases hb:Ce e.p cur with
   | false=>rw [hb] at h;simp at h
   | true=>rw [hb] at h;simp at h;exact J0 (Bd he).1 h
  ·cases h
 ·simp at h
 ·cases h
theorem F3 {x:Operand} {i k s off:Nat} (h:Al L cur x=some (.d (.osb i k s off))):i∈Av L:=by
 unfold Al at h
 split at h
 ·exact absurd h (G7 (off:=0)).2.2.2.1
 ·split at h
  ·rename_i e he
   cases hb:Ce e.p cur with
   | false=>rw [hb] at h;simp at h
   | true=>rw [hb] at h;simp at h;exact J1 (Bd he).1 h
  ·cases h
 ·simp at h
 ·cases h
theorem Nc {x:Operand} {i g k s off:Nat} (h:Al L cur x=some (.d (.oi i g k s off))):i∈Av L/\g∈Av L:=by
 unfold Al at h
 split at h
 ·exact absurd h ((G7 (off:=0)).2.2.2.2 g)
 ·split at h
  ·rename_i e he
   cases hb:Ce e.p cur with
   | false=>rw [hb] at h;simp at h
   | true=>rw [hb] at h;simp at h;exact H6 (Bd he).1 h
  ·cases h
 ·simp at h
 ·cases h
theorem Bu:∀ {l:List Operand} {avs:List AV} {av:AV},Bl L cur l=some avs->av∈avs->∃ x,Al L cur x=some av
 | [],avs,av,h,hm=>by simp [Bl] at h;subst h;cases hm
 | x::r,avs,av,h,hm=>by
  simp only [Bl] at h
  split at h
  ·rename_i v l h1 h2
   simp at h;subst h
   rcases ag.1 hm with rfl | hm
   ·exact⟨x,h1⟩
   ·exact Bu h2 hm
  ·cases h
theorem O1 {args:List AV} (h:∀ i,AV.d (.os i)∈args->R[i]? = R'[i]?) (hg:∀ i e s g,AV.d (.os i)∈args->R[i]? = some (.dsl e s g)->R[g]? = R'[g]?):Fb R args=Fb R' args:=by
 unfold Fb
 split
 ·rfl
 ·rfl
 ·rename_i i
  rw [←h i (by simp)]
  split
  ·rfl
  ·rename_i e s g hd
   rw [hg i e s g (by simp) hd]
  ·rfl
 ·rfl
 ·rfl
theorem Oy {c:Cl} {op:Op} (h0:∀ i,i∈deepen R (Ew op L)->R[i]? = R'[i]?):Ao P L cur R c op=Ao P L cur R' c op:=by
 have h:∀ i,i∈Ew op L->R[i]? = R'[i]?:=λ i hi=>h0 i (Rz hi)
 have hgh:∀ i e s g,i∈Ew op L->R[i]? = some (.dsl e s g)->R[g]? = R'[g]?:=λ i e s g hi hd=>h0 g (O7 hi hd)
 cases op with
 | load t x=>
  by_cases hg:∃ g,x = .global g
  ·obtain⟨g,rfl⟩:=hg
   rfl
  have e:∀ R,Ao P L cur R c (.load t x)=Iu P L cur R c t x:=λ R=>by
   cases x with
   | global g=>exact absurd ⟨g,rfl⟩ hg
   | _=>rfl
  rw [e,e]
  unfold Iu
  split
  ·rename_i i off n e1 e2
   rw [h i (Rf e1)]
  ·rfl
  ·rename_i i k size off n e1 e2
   rw [←h i (F2 e1)]
   split
   ·rfl
   ·rename_i e s g _ _ _ hd
    rw [hgh i _ _ _ (F2 e1) hd]
   ·rfl
  ·rfl
 | indexAddr t x i=>
  simp only [Ao]
  unfold Rv
  split
  ·rfl
  ·rename_i e j ik n e1 e2 e3
   rw [←h j (By e2)]
   split
   ·rfl
   ·rename_i e s g _ _ _ hd
    rw [hgh j _ _ _ (By e2) hd]
   ·rfl
  ·rfl
  ·rfl
  ·rfl
 | call k=>
  simp only [Ao]
  split
  ·split
   ·rename_i args e1
    split
    ·split
     ·rw [O1 (R':=R') (λ i hi=>by
       obtain⟨x,hx⟩:=Bu e1 hi
       exact h i (By hx)) (λ i e s g hi hd=>by
       obtain⟨x,hx⟩:=Bu e1 hi
       exact hgh i e s g (By hx) hd)]
     ·rfl
     ·rfl
    ·rfl
   ·rfl
  ·rfl
 | slice t x lo hi mx=>
  cases mx with
  | none=>
   simp only [Ao]
   split
   ·rfl
   ·rename_i e i e1 e2
    rw [h i (By e2)]
   ·rename_i e i o0 n0 s0 e1 e2
    rw [h i (F3 e2)]
   ·rfl
   ·rfl
  | some mx=>
   cases lo with
   | none=>rfl
   | some lo=>
    cases hi with
    | none=>rfl
    | some hi=>
     simp only [Ao]
     split
     ·rename_i e i e1 e2
      rw [h i (By e2)]
     ·rfl
 | _=>rfl
mutual
theorem M4 (f:Nat->Option Nat):∀ (d d':D),D.ren (λ _=>none) d=some d'->D.ren f d=some d'
 | .p x,d',h=>h
 | .o i off,d',h=>by simp [D.ren] at h
 | .os i,d',h=>by simp [D.ren] at h
 | .oe i k s off,d',h=>by simp [D.ren] at h
 | .ip c,d',h=>h
 | .any,d',h=>h
 | .nq _,d',h=>h
 | .osb _ _ _ _,d',h=>by simp [D.ren] at h
 | .oi _ _ _ _ _,d',h=>by simp [D.ren] at h
 | .fn g a b,d',h=>by
  simp only [D.ren] at h ⊢
  split at h
  ·rename_i a' b' h1 h2
   rw [Fp f a a' h1,Fp f b b' h2]
   exact h
  ·cases h
theorem Fp (f:Nat->Option Nat):∀ (l l':List D),D.renL (λ _=>none) l=some l'->D.renL f l=some l'
 | [],l',h=>h
 | d::r,l',h=>by
  simp only [D.renL] at h ⊢
  split at h
  ·rename_i d' r' h1 h2
   rw [M4 f d d' h1,Fp f r r' h2]
   exact h
  ·cases h
end
mutual
theorem Lt (f:Nat->Option Nat):∀ (d d':AV),AV.ren (λ _=>none) d=some d'->AV.ren f d=some d'
 | .d x,d',h=>by
  simp only [AV.ren] at h ⊢
  split at h
  ·rename_i y hy
   rw [M4 f x y hy];exact h
  ·cases h
 | .agg ds,d',h=>by
  simp only [AV.ren] at h ⊢
  split at h
  ·rename_i y hy
   rw [Fp f ds y hy];exact h
  ·cases h
 | .tup l,d',h=>by
  simp only [AV.ren] at h ⊢
  split at h
  ·rename_i y hy
   rw [Kd f l y hy];exact h
  ·cases h
theorem Kd (f:Nat->Option Nat):∀ (l l':List AV),AV.renL (λ _=>none) l=some l'->AV.renL f l=some l'
 | [],l',h=>h
 | d::r,l',h=>by
  simp only [AV.renL] at h ⊢
  split at h
  ·rename_i d' r' h1 h2
   rw [Lt f d d' h1,Kd f r r' h2]
   exact h
  ·cases h
end
theorem O3 {args:List AV} {f:FuncId} {c:Cl} {out:Out} (hn:Rb c=true) (hc:M6 c=true)
  (h:Cr R args f c=some out):out.R=R/\Cr R' args f c=some {out with R:=R'}:=by
 unfold Rb at hn
 split at hn
 ·rename_i g q1 q2 res R2 pi
  simp only [ae,bI] at hn
  obtain⟨rfl,rfl⟩:=hn
  obtain⟨res',hres⟩:=Option.isSome_iff_exists.1 hc
  unfold Cr at h ⊢
  simp only at h ⊢
  generalize hbb:(Nat.beq f g&&B9 []&&Nat.ble ([]:List Nat).length ([]:List Res).length)=bb at h ⊢
  cases bb with
  | false=>simp at h
  | true=>
   simp only [cond_true] at h ⊢
   split at h
   ·rename_i a' Rp e1 e2
    rw [e1]
    simp only [Ek] at e2 ⊢
    simp only [ah] at e2
    subst e2
    simp only [Dt,Lt _ res res' hres] at h ⊢
    simp at h;subst h
    simp [Bw]
   ·cases h
 ·cases hn
theorem H0:∀ {l:List D},(∀ i,i∈L3 l->R[i]? = R'[i]?)->Dd R l=Dd R' l
 | [],_=>rfl
 | d::r,h=>by
  have ih:Dd R r=Dd R' r:=H0 λ i hi=>h i (by cases d <;> simp [L3,hi])
  have hd:Ei R d=Ei R' d:=by
   cases d with
   | os i=>simp only [Ei];rw [h i (by simp [L3])]
   | _=>rfl
  simp only [Dd,ih,hd]
mutual
theorem Ke {rw:List Pd}:∀ {d:D},(∀ i,i∈d.touchV R->R[i]? = R'[i]?)->d.view R rw=d.view R' rw
 | .p _,_=>rfl
 | .ip _,_=>rfl
 | .any,_=>rfl
 | .nq _,_=>rfl
 | .oe _ _ _ _,_=>rfl
 | .osb i _ _ _,h=>by simp only [D.view];rw [h i (by simp [D.touchV])]
 | .oi _ g _ _ _,h=>by simp only [D.view];rw [h g (by simp [D.touchV])]
 | .os i,h=>by simp only [D.view];rw [h i (by simp [D.touchV])]
 | .o i off,h=>by
  have h0:=h i (by simp [D.touchV])
  simp only [D.view]
  rw [←h0]
  cases hi:R[i]? with
  | none=>rfl
  | some r=>cases r with
   | box t cells=>
    simp only
    rw [H0 (R':=R') λ k hk=>h k (by simp only [D.touchV,hi];exact aj _ hk)]
   | _=>rfl
 | .fn g a b,h=>by
  have h1:=Eu (rw:=rw) (l:=a) λ i hi=>h i (by simp only [D.touchV];exact bc _ hi)
  have h2:=Eu (rw:=rw) (l:=b) λ i hi=>h i (by simp only [D.touchV];exact bd _ hi)
  simp only [D.view,h1,h2]
theorem Eu {rw:List Pd}:∀ {l:List D},(∀ i,i∈b9 R l->R[i]? = R'[i]?)->D.viewL R rw l=D.viewL R' rw l
 | [],_=>rfl
 | d::r,h=>by
  have h1:=Ke (rw:=rw) (d:=d) λ i hi=>h i (by simp only [b9];exact bc _ hi)
  have h2:=Eu (rw:=rw) (l:=r) λ i hi=>h i (by simp only [b9];exact bd _ hi)
  simp only [D.viewL,h1,h2]
end
theorem P2 {rw:List Pd} {x:AV} (h:∀ i,i∈x.touchV R->R[i]? = R'[i]?):x.view R rw=x.view R' rw:=by
 cases x with
 | d x=>simp only [AV.view];rw [Ke (R':=R') h]
 | agg l=>simp only [AV.view];rw [Eu (R':=R') h]
 | tup l=>rfl
theorem H2 {rw:List Pd}:∀ {l:List AV},(∀ x,x∈l->∀ i,i∈x.touchV R->R[i]? = R'[i]?)->AV.viewL R rw l=AV.viewL R' rw l
 | [],_=>rfl
 | x::r,h=>by
  have h1:=P2 (rw:=rw) (x:=x) (h x ak)
  have h2:=H2 (rw:=rw) (l:=r) λ y hy=>h y (aj _ hy)
  simp only [AV.viewL,h1,h2]
theorem K0 {e:Ent} {i:Nat}:∀ {L:List Ent},e∈L->i∈e.v.touchV R->i∈touchV R L
 | [],h,_=>by cases h
 | x::r,h,hi=>by
  simp only [touchV]
  rcases ag.1 h with rfl | h
  ·exact bc _ hi
  ·exact bd _ (K0 h hi)
theorem Qu {i:Nat}:∀ {l:List Value} {ds:List D},B6 l=some ds->i∉b9 R ds
 | [],ds,h=>by simp [B6] at h;subst h;simp [b9]
 | v::l,ds,h=>by
  simp only [B6] at h
  split at h
  ·rename_i d r h1 h2
   simp at h;subst h
   unfold dOf at h1
   cases hb:v.oneCell' with
   | false=>rw [hb] at h1;simp at h1
   | true=>rw [hb] at h1;simp at h1;subst h1;simpa [b9,D.touchV] using Qu h2
  ·cases h
theorem R7 {v:Value} {x:AV} {i:Nat} (h:Gd v=some x):i∉x.touchV R:=by
 unfold Gd at h
 split at h
 ·cases hd:B6 (_:Array Value).toList with
  | none=>rw [hd] at h;cases h
  | some ds=>rw [hd] at h;simp at h;subst h;exact Qu hd
 ·cases h
 ·cases hd:dOf v with
  | none=>rw [hd] at h;cases h
  | some d=>
   rw [hd] at h;simp at h;subst h
   unfold dOf at hd
   cases hb:v.oneCell' with
   | false=>rw [hb] at hd;simp at hd
   | true=>rw [hb] at hd;simp at hd;subst hd;simp [AV.touchV,D.touchV]
theorem D3 {x:Operand} {v:AV} {i:Nat} (h:Al L cur x=some v) (hi:i∈v.touchV R):i∈touchV R L:=by
 unfold Al at h
 split at h
 ·exact absurd hi (R7 h)
 ·split at h
  ·rename_i e he
   cases hb:Ce e.p cur with
   | false=>rw [hb] at h;simp at h
   | true=>rw [hb] at h;simp at h;subst h;exact K0 (Bd he).1 hi
  ·cases h
 ·simp at h;subst h;simp [AV.touchV,D.touchV,b9] at hi
 ·cases h
theorem Iw {d:D}:d.norm.touchV R=d.touchV R:=by
 unfold D.norm;split <;> rfl
theorem H1:∀ {l:List D},b9 R (l.map D.norm)=b9 R l
 | []=>rfl
 | d::r=>by simp only [List.map_cons,b9,Iw,H1]
theorem P5 {x:AV}:x.norm.touchV R=x.touchV R:=by
 cases x with
 | d x=>exact Iw
 | agg l=>exact H1
 | tup l=>rfl
theorem Fj {g k:Nat}:∀ {d:D},(g,k)∈d.ois->g∈d.touchV R
 | .oi _ _ _ _ _,h=>by simp [D.ois] at h;simp [D.touchV,h.1]
 | .fn f a b,h=>by
  have key:∀ {l:List D},(∀ d,d∈l->(g,k)∈d.ois->g∈d.touchV R)->(g,k)∈bT l->g∈b9 R l:=by
   intro l
   induction l with
   | nil=>intro _ h;simp [bT] at h
   | cons d l ih=>
    intro hh h
    simp only [bT,az] at h
    simp only [b9,az]
    rcases h with h | h
    ·exact .inl (hh d ak h)
    ·exact .inr (ih (λ d hd=>hh d (aj _ hd)) h)
  simp only [D.ois,az] at h
  simp only [D.touchV,az]
  rcases h with h | h
  ·exact .inl (key (λ d _ h=>Fj h) h)
  ·exact .inr (key (λ d _ h=>Fj h) h)
 | .p _,h=>by simp [D.ois] at h
 | .o _ _,h=>by simp [D.ois] at h
 | .os _,h=>by simp [D.ois] at h
 | .oe _ _ _ _,h=>by simp [D.ois] at h
 | .osb _ _ _ _,h=>by simp [D.ois] at h
 | .ip _,h=>by simp [D.ois] at h
 | .any,h=>by simp [D.ois] at h
 | .nq _,h=>by simp [D.ois] at h
theorem Ig {g k:Nat}:∀ {l:List D},(g,k)∈bT l->g∈b9 R l
 | [],h=>by simp [bT] at h
 | d::l,h=>by
  simp only [bT,az] at h
  simp only [b9,az]
  exact h.imp Fj Ig
theorem J8 {g k:Nat}:∀ {l:List AV},(g,k)∈oisL l->∃ x,x∈l/\g∈x.touchV R
 | [],h=>by simp [oisL] at h
 | x::l,h=>by
  simp only [oisL,az] at h
  rcases h with h | h
  ·refine⟨x,ak,?_⟩
   cases x with
   | d x=>exact Fj h
   | agg l=>exact Ig h
   | tup l=>simp [AV.ois] at h
  ·obtain⟨y,h1,h2⟩:=J8 h
   exact⟨y,aj _ h1,h2⟩
theorem Nf {args:List AV} {f g:FuncId} {q:List AV} {res:AV} {rows:List (List Pd)} {k:Nat} {rw:List Pd} {out:Out} (ht:∀ x,x∈args->∀ i,i∈x.touchV R->R[i]? = R'[i]?)
  (h:Cr R args f (.callB g q res rows k rw)=some out):out.R=R/\Cr R' args f (.callB g q res rows k rw)=some {out with R:=R'}:=by
 simp only [Cr] at h ⊢
 generalize (Nat.beq f g&&res.flat)=bb at h ⊢
 have hview:∀ rw,AV.viewL R rw (args.map AV.norm)=AV.viewL R' rw (args.map AV.norm):=λ rw=>H2 (R:=R) (R':=R') (l:=args.map AV.norm) λ x hx i hi=>by
  obtain⟨y,hy,rfl⟩:=aV.1 hx
  rw [P5] at hi
  exact ht y hy i hi
 cases bb with
 | false=>simp at h
 | true=>
  simp only [cond_true] at h ⊢
  split at h
  ·rw [←hview]
   split at h
   ·rename_i a' e1
    simp at h;subst h
    exact⟨rfl,rfl⟩
   ·cases h
  ·rename_i g0 k0 ho
   obtain⟨x,h1,h2⟩:=J8 (R:=R) (l:=args) (g:=g0) (k:=k0) (by rw [ho];simp)
   rw [←hview,←ht x h1 g0 h2]
   split at h
   ·simp at h;subst h
    exact⟨rfl,rfl⟩
   ·cases h
  ·cases h
theorem Ot {g:Fn} {first caps:List D} {args:List AV} {x:AV} {i:Nat} {f:Operand} {l:List Operand} (e1:Al L cur f=some (.d (.fn g first caps))) (e2:Bl L cur l=some args)
  (hx:x∈first.map AV.d++args++caps.map AV.d) (hi:i∈x.touchV R):i∈touchV R L:=by
 have hd:∀ {ds:List D} {d:D},d∈ds->i∈d.touchV R->i∈b9 R ds:=by
  intro ds
  induction ds with
  | nil=>intro d h;cases h
  | cons a r ih=>
   intro d h hi
   simp only [b9]
   rcases ag.1 h with rfl | h
   ·exact bc _ hi
   ·exact bd _ (ih h hi)
 rcases az.1 hx with hx | hx
 ·rcases az.1 hx with hx | hx
  ·obtain⟨d,hm,rfl⟩:=aV.1 hx
   exact D3 e1 (by simp only [AV.touchV,D.touchV];exact bc _ (hd hm hi))
  ·obtain⟨z,hz⟩:=Bu e2 hx
   exact D3 hz hi
 ·obtain⟨d,hm,rfl⟩:=aV.1 hx
  exact D3 e1 (by simp only [AV.touchV,D.touchV];exact bd _ (hd hm hi))
theorem J6 {c : Cl} {o : Oper} {out : Out} (hq : Cq c o = true) (ht0 : ∀ i, i ∈ deepen R (Ew o.op L) ++ U9 c R L -> R[i]? = R'[i]?) (h : D1 P L cur R c o = some out) :
    out.R=R/\D1 P L cur R' c o=some {out with R:=R'}:=by
  have ht:∀ i,i∈deepen R (Ew o.op L)->R[i]? = R'[i]?:=λ i hi=>ht0 i (bc _ hi)
  unfold D1 at h ⊢
  rw [←Oy ht]
  split at h
  · rename_i v k hv
    simp at h;subst h
    exact⟨rfl,rfl⟩
  · rename_i hv
    obtain⟨dst,op,type,pos,after,guard⟩:=o
    simp only at h ⊢
    cases op with
    | box t x=>simp [Cq] at hq
    | alloc t=>simp [Cq] at hq
    | store t x y=>simp [Cq] at hq
    | makeSlice t x y=>simp [Cq] at hq
    | convert s d x=>
      simp only at h ⊢
      unfold G3 at h ⊢
      split at h
      · split at h
        · simp at h;subst h;exact⟨rfl,rfl⟩
        · cases h
      · cases h
    | buildSlice t len parts=>
      simp only [Cq,bq] at hq
      simp only at h ⊢
      split at h
      · rename_i ps e1
        unfold C7 at h ⊢
        rw [hq] at h ⊢
        split at h
        · rename_i e hu
          split at h
          · rename_i size zs e2 e3
            cases hb:(Nat.beq zs.length (size+1)&&Nat.ble (len*(size+1)) 16777216) with
            | false=>rw [hb] at h;simp at h
            | true=>
              rw [hb] at h
              simp only [cond_true,cond_false] at h ⊢
              split at h
              · rename_i pd hpd
                simp at h;subst h
                exact⟨rfl,rfl⟩
              · cases h
          · cases h
        · cases h
      · cases h
    | call kk=>
      obtain⟨callee,cargs,argTypes⟩:=kk
      cases callee with
      | invoke r m=>simp at h
      | builtin b=>cases b <;> first | (simp [Cq] at hq;done) | (simp at h;done)
      | value f=>
        simp only [Cq,aQ,ae] at hq
        simp only at h ⊢
        split at h
        · rename_i g first caps args e1 e2
          cases c with
          | callB g' q res rows k rw=>
            exact Nf (λ x hx i hi=>ht0 i (bd _ (Ot e1 e2 hx hi))) h
          | _=>first
            | (rcases hq with hq | hq
               · simp [Rm] at hq
               · exact O3 hq.1 hq.2 h)
        · cases h
    | _=>simp at h
theorem Kl:∀ {l:List Nat} {t:Nat},Ij l t=true↔t∈l
 | [],t=>by simp [Ij]
 | a::r,t=>by
  simp only [Ij,aQ,ag,Kl]
  constructor
  ·rintro (h | h)
   ·exact .inl (af h).symm
   ·exact .inr h
  ·rintro (h | h)
   ·subst h;exact .inl (by simp)
   ·exact .inr h
theorem Ng {c : Cl} {ts : List TypeId} {j : Nat} {y : AV} {out : Out} {i : Nat} (h : Be P R c ts [.d (.os j), y] = some out) (hi : i < R.length) (hj : i ≠ j) : out.R[i]? = R[i]? := by
 match ts,h with
 | [t, u], h =>
  simp only [Be] at h
  cases hts2:Nat.beq t u with
  | false=>rw [hts2] at h;simp at h
  | true =>
   rw [hts2] at h
   simp only [cond_true] at h
   split at h
   ·split at h
    ·split at h
     ·generalize (Nat.beq _ (_+1))=bb at h
      cases bb with
      | false=>simp at h
      | true=>
       simp only [cond_true] at h
       split at h
       ·generalize (Nat.beq _ _&&Nat.beq _ _)=bb at h
        cases bb with
        | false=>simp at h
        | true=>
         simp at h;subst h
         simp only
         rw [an (by simpa using hi),aH (aL hj)]
       ·cases h
     ·cases h
    ·cases h
   ·cases h
 | [],h=>simp [Be] at h
 | [_],h=>simp [Be] at h
 | _::_::_::_,h=>simp [Be] at h
theorem Md {c:Cl} {ts:List TypeId} {i' g k size off:Nat} {y:AV} {out:Out} {i:Nat} (h:Ed P R c ts i' g k size off y=some out) (hi:i<R.length) (h1:i≠i') (h2:i≠g):out.R[i]? = R[i]?:=by
 unfold Ed at h
 split at h
 ·split at h
  ·generalize ((_&&_:Bool))=bb at h
   cases bb with
   | false=>simp at h
   | true=>
    simp only [cond_true] at h
    split at h
    ·rename_i v' R' a b z m r' hap
     simp at h;subst h
     have:=Ng (i:=i) hap (by simp;omega) (by omega)
     simp only at this ⊢
     rw [this,an (by simpa using hi),aH (aL h1),aH (aL h2)]
    ·cases h
  ·cases h
 ·cases h
theorem Mc {c:Cl} {ts:List TypeId} {i' n s:Nat} {y:AV} {out:Out} {i:Nat} (h:Ec P R c ts i' n s y=some out) (h1:i≠i'):out.R[i]? = R[i]?:=by
 unfold Ec at h
 split at h
 ·generalize (Nat.beq _ _)=bb at h
  cases bb with
  | false=>simp at h
  | true=>
   simp only [cond_true] at h
   split at h
   ·split at h
    ·split at h
     ·generalize (Nat.beq _ _&&Nat.beq _ _)=bb at h
      cases bb with
      | false=>simp at h
      | true=>
       simp at h;subst h
       simp only
       rw [aH (aL h1)]
     ·cases h
    ·cases h
   ·cases h
 ·cases h
theorem Kb {x:AV} {i lo n s:Nat} {a:Operand} (h:Jl R x=some (i,lo,n,s)) (hl:Al L cur a=some x):i∈Av L:=by
 unfold Jl at h
 split at h
 ·split at h
  ·simp at h;obtain⟨rfl,_⟩:=h;exact By hl
  ·cases h
 ·simp at h;obtain⟨rfl,_⟩:=h;exact F3 hl
 ·cases h
theorem O2 {c:Cl} {ts:List TypeId} {l:List Operand} {args:List AV} {out:Out} {i:Nat} (h:G4 P R c ts args=some out) (hl:Bl L cur l=some args) (h1:i∉Av L):out.R[i]? = R[i]?:=by
 unfold G4 at h
 split at h
 ·rename_i x
  split at h
  ·split at h
   ·rename_i hd
    split at h
    ·generalize ((_&&_:Bool))=bb at h
     cases bb with
     | false=>simp at h
     | true=>
      simp only [cond_true,ah] at h;subst h
      obtain⟨z,hz⟩:=Bu hl (av:=x) (by simp)
      have:=Kb hd hz
      simp only
      rw [aH]
      rintro rfl
      exact h1 this
    ·cases h
   ·cases h
  ·cases h
 ·cases h
theorem Qa {c:Cl} {ts:List TypeId} {l:List Operand} {args:List AV} {out:Out} {i:Nat} (h:Iv P R c ts args=some out) (hl:Bl L cur l=some args) (h1:i∉Av L):out.R[i]? = R[i]?:=by
 unfold Iv at h
 split at h
 ·rename_i x y
  split at h
  ·split at h
   ·rename_i hd
    split at h
    ·generalize ((_&&_:Bool))=bb at h
     cases bb with
     | false=>simp at h
     | true=>
      simp only [cond_true,ah] at h;subst h
      obtain⟨z,hz⟩:=Bu hl (av:=x) (by simp)
      have:=Kb hd hz
      simp only
      rw [aH]
      rintro rfl
      exact h1 this
    ·cases h
   ·cases h
  ·cases h
 ·cases h
theorem P_ {c:Cl} {o:Oper} {i' k size off n:Nat} {ds:List D} {out:Out} {i:Nat} (h:Is R c o i' k size off ds n=some out) (hi:i<R.length) (h1:i≠i') (h2:∀ e s g,R[i']? = some (.dsl e s g)->i≠g) (h3:∀ m,ds=[.os m]->i≠m):out.R[i]? = R[i]?:=by
 unfold Is at h
 split at h
 next e s g m q1 q2 q3 row q4 rows' hj=>
  split at h
  ·split at h
   ·generalize ((_&&_:Bool))=bb at h
    cases bb with
    | false=>simp at h
    | true=>
     simp only [cond_true,ah] at h;subst h
     have hgi:=h2 _ _ _ hj
     have hmi:=h3 _ rfl
     simp only
     rw [an (by simpa using hi),aH (aL h1),aH (aL hgi),aH (aL hmi)]
   ·cases h
  ·cases h
 next=>cases h
theorem T3 {c : Cl} {o : Oper} {out : Out} {i : Nat} {cs : List (Bool × Bool)} (h : D1 P L cur R c o = some out) (hi : i < R.length) (hw : i ∉ Bb ⟨0, o, L, cur, cs, c, R, out, true, false, none⟩) : out.R[i]? = R[i]? := by
  unfold D1 at h
  split at h
  · simp at h;subst h;rfl
  · obtain ⟨dst, op, type, pos, after, guard⟩ := o
    simp only at h
    cases op with
    | box t x=>
      simp only at h
      split at h
      · generalize (Nat.beq _ _)=bb at h
        cases bb with
        | false=>simp at h
        | true=>simp at h;subst h;simp [List.getElem?_append_left hi]
      · cases h
    | alloc t=>
      simp only at h
      split at h
      · simp at h;subst h;simp [List.getElem?_append_left hi]
      · cases h
    | store t x y =>
      simp only at h
      cases hc:cur.isEmpty with
      | false=>rw [hc] at h;simp at h
      | true=>
        rw [hc] at h
        simp only [cond_true] at h
        split at h
        · rename_i j off ds n e1 e2 e3
          split at h
          · generalize (Nat.beq _ _&&Nat.ble _ _&&Option.isNone _)=bb at h
            cases bb with
            | false=>simp at h
            | true=>
              simp at h;subst h
              simp only [Bb,e1,bp] at hw
              simp only
              rw [aH (aL hw)]
          · cases h
        · rename_i j k size off ds n e1 e2 e3
          simp only [Bb,e1,ag,not_or] at hw
          obtain⟨hw1,hw2⟩:=hw
          split at h
          · rename_i out' hput
            simp at h;subst h
            unfold Ru at hput
            split at hput
            · generalize (Nat.beq _ _&&(Nat.beq _ _&&(Nat.ble _ _&&Option.isNone _)))=bb at hput
              cases bb with
              | false=>simp at hput
              | true=>
                simp at hput;subst hput
                simp only
                rw [aH (aL hw1)]
            · cases hput
          · refine P_ h hi hw1 (λ e s g hj=>?_) (λ m hds=>?_)
            · rintro rfl
              exact hw2 (bc _ (O7 (F2 e1) hj))
            · rintro rfl
              subst hds
              refine hw2 (bd _ ?_)
              obtain⟨av,h1,h2⟩:=Ai e2
              cases av with
              | d x=>simp [Dg] at h2;subst h2;exact D3 h1 (by simp [AV.touchV,D.touchV])
              | agg l=>simp [Dg] at h2;subst h2;exact D3 h1 (by simp [AV.touchV,D.touchV,b9])
              | tup l=>simp [Dg] at h2
        · cases h
    | buildSlice t len parts=>
      simp only at h
      split at h
      · unfold C7 at h
        split at h
        · split at h
          · generalize (Nat.beq _ _&&Nat.ble _ _)=bb at h
            cases bb with
            | false=>simp at h
            | true=>
              simp only [cond_true] at h
              split at h
              · cases ho:Jg c with
                | true=>rw [ho] at h;simp at h;subst h;simp [List.getElem?_append_left hi]
                | false=>rw [ho] at h;simp at h;subst h;rfl
              · cases h
          · cases h
        · cases h
      · cases h
    | convert s d x=>
      simp only at h
      unfold G3 at h
      split at h
      · split at h
        · simp at h;subst h;rfl
        · cases h
      · cases h
    | makeSlice t x y=>
      simp only at h
      generalize (Ey x y)=bb at h
      cases bb with
      | false=>simp at h
      | true=>
        simp only [cond_true] at h
        unfold Fa at h
        split at h
        · split at h
          · split at h
            · generalize (Nat.beq _ _)=bb at h
              cases bb with
              | false=>simp at h
              | true=>simp at h;subst h;simp [List.getElem?_append_left hi]
            · cases h
          · cases h
        · split at h
          · split at h
            · generalize (Nat.beq _ _&&_)=bb at h
              cases bb with
              | false=>simp at h
              | true=>simp at h;subst h;simp [List.getElem?_append_left hi]
            · cases h
          · cases h
        · cases h
    | call kk =>
      obtain⟨callee,cargs,argTypes⟩:=kk
      cases callee with
      | invoke r m=>simp at h
      | builtin b=>
        cases b <;> first
          | (simp at h;done)
          | (simp only at h
             split at h
             · rename_i args e1
               first
                 | exact O2 h e1 (by simpa [Bb] using hw)
                 | exact Qa h e1 (by simpa [Bb] using hw)
             · cases h
             done)
          | (simp only at h
             split at h
             · rename_i i' g q size off y e1
               have hall:=e1
               obtain⟨z,hz⟩:=Bu e1 (av:=.d (.oi i' g q size off)) (by simp)
               obtain⟨hi1,hg1⟩:=Nc hz
               have hii:i≠i':=by rintro rfl;exact hw (by simpa [Bb] using hi1)
               have hig:i≠g:=by rintro rfl;exact hw (by simpa [Bb] using hg1)
               exact Md h hi hii hig
             · rename_i i' n s y e1
               obtain⟨z,hz⟩:=Bu e1 (av:=.d (.osb i' 0 n s)) (by simp)
               have hi1:=F3 hz
               have hii:i≠i':=by rintro rfl;exact hw (by simpa [Bb] using hi1)
               exact Mc h hii
             · rename_i args _ _ e1
               unfold Be at h
               split at h
               · rename_i t u x y hts
                 generalize (Nat.beq _ _)=bb at h
                 cases bb with
                 | false=>simp at h
                 | true=>
                   simp only [cond_true] at h
                   split at h
                   · split at h
                     · split at h
                       · generalize (Nat.beq _ _)=bb at h
                         cases bb with
                         | false=>simp at h
                         | true=>
                           simp only [cond_true] at h
                           split at h
                           · simp at h;subst h;simp [List.getElem?_append_left hi]
                           · rename_i j
                             split at h
                             · generalize (Nat.beq _ _&&Nat.beq _ _)=bb at h
                               cases bb with
                               | false=>simp at h
                               | true=>
                                 simp at h;subst h
                                 obtain⟨z,hz⟩:=Bu e1 (av:=.d (.os _)) ak
                                 have hj:=By hz
                                 simp only
                                 rw [an (by simpa using hi),aH]
                                 rintro rfl
                                 refine hw ?_
                                 simpa [Bb] using hj
                             · cases h
                           · cases h
                       · cases h
                     · cases h
                   · cases h
               · cases h
             · cases h)
      | value f =>
        simp only at h
        split at h
        · rename_i g first caps args e1 e2
          cases c with
          | call f' q1 q2 res R2 pi =>
            simp only [Cr] at h
            generalize (Nat.beq g f'&&B9 pi&&Nat.ble pi.length R2.length)=bb at h
            cases bb with
            | false=>simp at h
            | true=>
              simp only [cond_true] at h
              split at h
              · split at h
                · rename_i Rp2 res2 RR e3 e4 e5
                  simp at h;subst h
                  simp only [Bb] at hw
                  simp only
                  rw [an (by rw [B2];exact hi)]
                  cases hg:R[i]? with
                  | none=>rw [List.getElem?_eq_none_iff] at hg;omega
                  | some r=>
                    have hlt:i<(Bw R pi RR).length:=by rw [B2];exact hi
                    rcases Hi pi R _ i _ (al hlt) with⟨j,h1,_⟩ | ⟨h1,_⟩
                    · exact absurd (aq h1) hw
                    · rw [al hlt,←h1,hg]
                · cases h
              · cases h
          | callB f' q1 res rows0 k0 rw0=>
            simp only [Cr] at h
            generalize (Nat.beq g f'&&res.flat)=bb at h
            cases bb with
            | false=>simp at h
            | true=>
              simp only [cond_true] at h
              split at h
              · split at h
                · simp at h;subst h;rfl
                · cases h
              · split at h
                · simp at h;subst h;rfl
                · cases h
              · cases h
          | _=>simp [Cr] at h
        · cases h
    | _=>simp at h
end
end Go.SL
