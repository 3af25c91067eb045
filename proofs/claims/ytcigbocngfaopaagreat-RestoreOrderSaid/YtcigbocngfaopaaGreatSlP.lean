import Derived.Test.YtcigbocngfaopaaGreatSlO
namespace Go.SL
section
variable {P:Program} {C:Ctx} {S S':Nat->Prop} {w w':World} {ρ ρ':List Value} {R R':List Res} {L:List Ent} {cur:Cq} {a:Act}
theorem Aan:∀ {L:List Ent} {e:Ent} {i off:Nat},e∈L->e.v = .d (.o i off)->i∈Ch L
 | x::r,e,i,off,h,hv=>by
  rcases ag.1 h with rfl | h
  ·simp [Ch,hv]
  ·have:=Aan h hv
   unfold Ch;split <;> simp [this]
 | [],_,_,_,h,_=>by cases h
theorem W9:∀ {L:List Ent} {e:Ent} {i:Nat},e∈L->e.v = .d (.os i)->i∈Ch L
 | x::r,e,i,h,hv=>by
  rcases ag.1 h with rfl | h
  ·simp [Ch,hv]
  ·have:=W9 h hv
   unfold Ch;split <;> simp [this]
 | [],_,_,h,_=>by cases h
theorem W_:∀ {L:List Ent} {e:Ent} {i a b c:Nat},e∈L->e.v = .d (.oe i a b c)->i∈Ch L
 | x::r,e,i,a,b,c,h,hv=>by
  rcases ag.1 h with rfl | h
  ·simp [Ch,hv]
  ·have:=W_ h hv
   unfold Ch;split <;> simp [this]
 | [],_,_,_,_,_,h,_=>by cases h
theorem Xa:∀ {L:List Ent} {e:Ent} {i a b c:Nat},e∈L->e.v = .d (.osb i a b c)->i∈Ch L
 | x::r,e,i,a,b,c,h,hv=>by
  rcases ag.1 h with rfl | h
  ·simp [Ch,hv]
  ·have:=Xa h hv
   unfold Ch;split <;> simp [this]
 | [],_,_,_,_,_,h,_=>by cases h
theorem S4:∀ {L:List Ent} {e:Ent} {i g a b c:Nat},e∈L->e.v = .d (.oi i g a b c)->i∈Ch L/\g∈Ch L
 | x::r,e,i,g,a,b,c,h,hv=>by
  rcases ag.1 h with rfl | h
  ·simp [Ch,hv]
  ·have:=S4 h hv
   unfold Ch;split <;> simp [this]
 | [],_,_,_,_,_,_,h,_=>by cases h
theorem jV {i g e s:Nat}:∀ {l:List Nat},i∈l->R[i]? = some (.dsl e s g)->g∈Pu R l
 | [],h,_=>by cases h
 | j::l,h,hi=>by
  rcases ag.1 h with rfl | h
  ·simp [Pu,hi]
  ·have:=jV h hi
   unfold Pu;split <;> simp [this]
theorem Aoo {i:Nat} {l:List Nat} (h:i∈l):i∈deepen R l:=bB _ h
theorem Ahu {i g e s:Nat} {l:List Nat} (h:i∈l) (hi:R[i]? = some (.dsl e s g)):g∈deepen R l:=bC _ (jV h hi)
theorem P3 {v:Value} {i off a b c:Nat}:Nr v≠some (.d (.o i off))/\Nr v≠some (.d (.os i))/\Nr v≠some (.d (.oe i a b c))/\Nr v≠some (.d (.osb i a b c))/\∀ g,Nr v≠some (.d (.oi i g a b c)):=by
 unfold Nr
 split
 ·refine⟨?_,?_,?_,?_,λ _=>?_⟩ <;> (cases E2 (_:Array Value).toList <;> simp)
 ·simp
 ·refine⟨?_,?_,?_,?_,λ _=>?_⟩ <;>
  ·cases h:dOf v with
   | none=>simp
   | some d=>
    unfold dOf at h
    cases hb:v.oneCell' with
    | true=>rw [hb] at h;simp at h;subst h;simp
    | false=>rw [hb] at h;simp at h
theorem An8 {x:Operand} {i off:Nat} (h:Bx L cur x=some (.d (.o i off))):i∈Ch L:=by
 unfold Bx at h
 split at h
 ·exact absurd h (P3 (a:=0) (b:=0) (c:=0)).1
 ·split at h
  ·rename_i e he
   cases hb:Fi e.p cur with
   | false=>rw [hb] at h;simp at h
   | true=>rw [hb] at h;simp at h;exact Aan (C4 he).1 h
  ·cases h
 ·simp at h
 ·cases h
theorem Er {x:Operand} {i:Nat} (h:Bx L cur x=some (.d (.os i))):i∈Ch L:=by
 unfold Bx at h
 split at h
 ·exact absurd h (P3 (off:=0) (a:=0) (b:=0) (c:=0)).2.1
 ·split at h
  ·rename_i e he
   cases hb:Fi e.p cur with
   | false=>rw [hb] at h;simp at h
   | true=>rw [hb] at h;simp at h;exact W9 (C4 he).1 h
  ·cases h
 ·simp at h
 ·cases h
theorem Nb {x:Operand} {i k s off:Nat} (h:Bx L cur x=some (.d (.oe i k s off))):i∈Ch L:=by
 unfold Bx at h
 split at h
 ·exact absurd h (P3 (off:=0)).2.2.1
 ·split at h
  ·rename_i e he
   cases hb:Fi e.p cur with
   | false=>rw [hb] at h;simp at h
   | true=>rw [hb] at h;simp at h;exact W_ (C4 he).1 h
  ·cases h
 ·simp at h
 ·cases h
theorem Nc {x:Operand} {i k s off:Nat} (h:Bx L cur x=some (.d (.osb i k s off))):i∈Ch L:=by
 unfold Bx at h
 split at h
 ·exact absurd h (P3 (off:=0)).2.2.2.1
 ·split at h
  ·rename_i e he
   cases hb:Fi e.p cur with
   | false=>rw [hb] at h;simp at h
   | true=>rw [hb] at h;simp at h;exact Xa (C4 he).1 h
  ·cases h
 ·simp at h
 ·cases h
theorem Ac5 {x:Operand} {i g k s off:Nat} (h:Bx L cur x=some (.d (.oi i g k s off))):i∈Ch L/\g∈Ch L:=by
 unfold Bx at h
 split at h
 ·exact absurd h ((P3 (off:=0)).2.2.2.2 g)
 ·split at h
  ·rename_i e he
   cases hb:Fi e.p cur with
   | false=>rw [hb] at h;simp at h
   | true=>rw [hb] at h;simp at h;exact S4 (C4 he).1 h
  ·cases h
 ·simp at h
 ·cases h
theorem Ek:∀ {l:List Operand} {avs:List AV} {av:AV},Dz L cur l=some avs->av∈avs->∃ x,Bx L cur x=some av
 | [],avs,av,h,hm=>by simp [Dz] at h;subst h;cases hm
 | x::r,avs,av,h,hm=>by
  simp only [Dz] at h
  split at h
  ·rename_i v l h1 h2
   simp at h;subst h
   rcases ag.1 hm with rfl | hm
   ·exact⟨x,h1⟩
   ·exact Ek h2 hm
  ·cases h
theorem Ahl {args:List AV} (h:∀ i,AV.d (.os i)∈args->R[i]? = R'[i]?) (hg:∀ i e s g,AV.d (.os i)∈args->R[i]? = some (.dsl e s g)->R[g]? = R'[g]?):Lt R args=Lt R' args:=by
 unfold Lt
 split
 ·rfl
 ·rfl
 ·rename_i i
  rw [←h i (by simp)]
  split
  ·rfl
  ·rename_i e s g hd
   rw [hg i e s g (by simp) hd]
  ·rfl
 ·rfl
 ·rfl
theorem Ahi {c:Cl} {op:Op} (h0:∀ i,i∈deepen R (Ke op L)->R[i]? = R'[i]?):B5 P L cur R c op=B5 P L cur R' c op:=by
 have h:∀ i,i∈Ke op L->R[i]? = R'[i]?:=λ i hi=>h0 i (Aoo hi)
 have hgh:∀ i e s g,i∈Ke op L->R[i]? = some (.dsl e s g)->R[g]? = R'[g]?:=λ i e s g hi hd=>h0 g (Ahu hi hd)
 cases op with
 | load t x=>
  by_cases hg:∃ g,x = .global g
  ·obtain⟨g,rfl⟩:=hg
   rfl
  have e:∀ R,B5 P L cur R c (.load t x)=Ul P L cur R c t x:=λ R=>by
   cases x with
   | global g=>exact absurd ⟨g,rfl⟩ hg
   | _=>rfl
  rw [e,e]
  unfold Ul
  split
  ·rename_i i off n e1 e2
   rw [h i (An8 e1)]
  ·rfl
  ·rename_i i k size off n e1 e2
   rw [←h i (Nb e1)]
   split
   ·rfl
   ·rename_i e s g _ _ _ hd
    rw [hgh i _ _ _ (Nb e1) hd]
   ·rfl
  ·rfl
 | indexAddr t x i=>
  simp only [B5]
  unfold Aoj
  split
  ·rfl
  ·rename_i e j ik n e1 e2 e3
   rw [←h j (Er e2)]
   split
   ·rfl
   ·rename_i e s g _ _ _ hd
    rw [hgh j _ _ _ (Er e2) hd]
   ·rfl
  ·rfl
  ·rfl
  ·rfl
 | call k=>
  simp only [B5]
  split
  ·split
   ·rename_i args e1
    split
    ·split
     ·rw [Ahl (R':=R') (λ i hi=>by
       obtain⟨x,hx⟩:=Ek e1 hi
       exact h i (Er hx)) (λ i e s g hi hd=>by
       obtain⟨x,hx⟩:=Ek e1 hi
       exact hgh i e s g (Er hx) hd)]
     ·rfl
     ·rfl
    ·rfl
   ·rfl
  ·rfl
 | slice t x lo hi mx=>
  cases mx with
  | none=>
   simp only [B5]
   split
   ·rfl
   ·rename_i e i e1 e2
    rw [h i (Er e2)]
   ·rename_i e i o0 n0 s0 e1 e2
    rw [h i (Nc e2)]
   ·rfl
  | some mx=>
   cases lo with
   | none=>rfl
   | some lo=>
    cases hi with
    | none=>rfl
    | some hi=>
     simp only [B5]
     split
     ·rename_i e i e1 e2
      rw [h i (Er e2)]
     ·rfl
 | _=>rfl
mutual
theorem Aby (f:Nat->Option Nat):∀ (d d':D),D.ren (λ _=>none) d=some d'->D.ren f d=some d'
 | .p x,d',h=>h
 | .o i off,d',h=>by simp [D.ren] at h
 | .os i,d',h=>by simp [D.ren] at h
 | .oe i k s off,d',h=>by simp [D.ren] at h
 | .ip c,d',h=>h
 | .any,d',h=>h
 | .nq _,d',h=>h
 | .osb _ _ _ _,d',h=>by simp [D.ren] at h
 | .oi _ _ _ _ _,d',h=>by simp [D.ren] at h
 | .fn g a b,d',h=>by
  simp only [D.ren] at h ⊢
  split at h
  ·rename_i a' b' h1 h2
   rw [Mg f a a' h1,Mg f b b' h2]
   exact h
  ·cases h
theorem Mg (f:Nat->Option Nat):∀ (l l':List D),D.renL (λ _=>none) l=some l'->D.renL f l=some l'
 | [],l',h=>h
 | d::r,l',h=>by
  simp only [D.renL] at h ⊢
  split at h
  ·rename_i d' r' h1 h2
   rw [Aby f d d' h1,Mg f r r' h2]
   exact h
  ·cases h
end
mutual
theorem qV (f:Nat->Option Nat):∀ (d d':AV),AV.ren (λ _=>none) d=some d'->AV.ren f d=some d'
 | .d x,d',h=>by
  simp only [AV.ren] at h ⊢
  split at h
  ·rename_i y hy
   rw [Aby f x y hy];exact h
  ·cases h
 | .agg ds,d',h=>by
  simp only [AV.ren] at h ⊢
  split at h
  ·rename_i y hy
   rw [Mg f ds y hy];exact h
  ·cases h
 | .tup l,d',h=>by
  simp only [AV.ren] at h ⊢
  split at h
  ·rename_i y hy
   rw [Xl f l y hy];exact h
  ·cases h
theorem Xl (f:Nat->Option Nat):∀ (l l':List AV),AV.renL (λ _=>none) l=some l'->AV.renL f l=some l'
 | [],l',h=>h
 | d::r,l',h=>by
  simp only [AV.renL] at h ⊢
  split at h
  ·rename_i d' r' h1 h2
   rw [qV f d d' h1,Xl f r r' h2]
   exact h
  ·cases h
end
theorem Ahn {args:List AV} {f:FuncId} {c:Cl} {out:Out} (hn:Anw c=true) (hc:Ab1 c=true)
  (h:Ga R args f c=some out):out.R=R/\Ga R' args f c=some {out with R:=R'}:=by
 unfold Anw at hn
 split at hn
 ·rename_i g q1 q2 res R2 pi
  simp only [ac,cN] at hn
  obtain⟨rfl,rfl⟩:=hn
  obtain⟨res',hres⟩:=Option.isSome_iff_exists.1 hc
  unfold Ga at h ⊢
  simp only at h ⊢
  generalize hbb:(Nat.beq f g&&Fa []&&Nat.ble ([]:List Nat).length ([]:List Res).length)=bb at h ⊢
  cases bb with
  | false=>simp at h
  | true=>
   simp only [cond_true] at h ⊢
   split at h
   ·rename_i a' Rp e1 e2
    rw [e1]
    simp only [Js] at e2 ⊢
    simp only [al] at e2
    subst e2
    simp only [Ht,qV _ res res' hres] at h ⊢
    simp at h;subst h
    simp [Eo]
   ·cases h
 ·cases hn
theorem Sq:∀ {l:List D},(∀ i,i∈vW l->R[i]? = R'[i]?)->Hf R l=Hf R' l
 | [],_=>rfl
 | d::r,h=>by
  have ih:Hf R r=Hf R' r:=Sq λ i hi=>h i (by cases d <;> simp [vW,hi])
  have hd:Lf R d=Lf R' d:=by
   cases d with
   | os i=>simp only [Lf];rw [h i (by simp [vW])]
   | _=>rfl
  simp only [Hf,ih,hd]
mutual
theorem Xm {rw:List Pd}:∀ {d:D},(∀ i,i∈d.touchV R->R[i]? = R'[i]?)->d.view R rw=d.view R' rw
 | .p _,_=>rfl
 | .ip _,_=>rfl
 | .any,_=>rfl
 | .nq _,_=>rfl
 | .oe _ _ _ _,_=>rfl
 | .osb i _ _ _,h=>by simp only [D.view];rw [h i (by simp [D.touchV])]
 | .oi _ g _ _ _,h=>by simp only [D.view];rw [h g (by simp [D.touchV])]
 | .os i,h=>by simp only [D.view];rw [h i (by simp [D.touchV])]
 | .o i off,h=>by
  have h0:=h i (by simp [D.touchV])
  simp only [D.view]
  rw [←h0]
  cases hi:R[i]? with
  | none=>rfl
  | some r=>cases r with
   | box t cells=>
    simp only
    rw [Sq (R':=R') λ k hk=>h k (by simp only [D.touchV,hi];exact aj _ hk)]
   | _=>rfl
 | .fn g a b,h=>by
  have h1:=Kc (rw:=rw) (l:=a) λ i hi=>h i (by simp only [D.touchV];exact bB _ hi)
  have h2:=Kc (rw:=rw) (l:=b) λ i hi=>h i (by simp only [D.touchV];exact bC _ hi)
  simp only [D.view,h1,h2]
theorem Kc {rw:List Pd}:∀ {l:List D},(∀ i,i∈cX R l->R[i]? = R'[i]?)->D.viewL R rw l=D.viewL R' rw l
 | [],_=>rfl
 | d::r,h=>by
  have h1:=Xm (rw:=rw) (d:=d) λ i hi=>h i (by simp only [cX];exact bB _ hi)
  have h2:=Kc (rw:=rw) (l:=r) λ i hi=>h i (by simp only [cX];exact bC _ hi)
  simp only [D.viewL,h1,h2]
end
theorem Akr {rw:List Pd} {x:AV} (h:∀ i,i∈x.touchV R->R[i]? = R'[i]?):x.view R rw=x.view R' rw:=by
 cases x with
 | d x=>simp only [AV.view];rw [Xm (R':=R') h]
 | agg l=>simp only [AV.view];rw [Kc (R':=R') h]
 | tup l=>rfl
theorem Su {rw:List Pd}:∀ {l:List AV},(∀ x,x∈l->∀ i,i∈x.touchV R->R[i]? = R'[i]?)->AV.viewL R rw l=AV.viewL R' rw l
 | [],_=>rfl
 | x::r,h=>by
  have h1:=Akr (rw:=rw) (x:=x) (h x ah)
  have h2:=Su (rw:=rw) (l:=r) λ y hy=>h y (aj _ hy)
  simp only [AV.viewL,h1,h2]
theorem Zk {e:Ent} {i:Nat}:∀ {L:List Ent},e∈L->i∈e.v.touchV R->i∈touchV R L
 | [],h,_=>by cases h
 | x::r,h,hi=>by
  simp only [touchV]
  rcases ag.1 h with rfl | h
  ·exact bB _ hi
  ·exact bC _ (Zk h hi)
theorem Amd {i:Nat}:∀ {l:List Value} {ds:List D},E2 l=some ds->i∉cX R ds
 | [],ds,h=>by simp [E2] at h;subst h;simp [cX]
 | v::l,ds,h=>by
  simp only [E2] at h
  split at h
  ·rename_i d r h1 h2
   simp at h;subst h
   unfold dOf at h1
   cases hb:v.oneCell' with
   | false=>rw [hb] at h1;simp at h1
   | true=>rw [hb] at h1;simp at h1;subst h1;simpa [cX,D.touchV] using Amd h2
  ·cases h
theorem Ao2 {v:Value} {x:AV} {i:Nat} (h:Nr v=some x):i∉x.touchV R:=by
 unfold Nr at h
 split at h
 ·cases hd:E2 (_:Array Value).toList with
  | none=>rw [hd] at h;cases h
  | some ds=>rw [hd] at h;simp at h;subst h;exact Amd hd
 ·cases h
 ·cases hd:dOf v with
  | none=>rw [hd] at h;cases h
  | some d=>
   rw [hd] at h;simp at h;subst h
   unfold dOf at hd
   cases hb:v.oneCell' with
   | false=>rw [hb] at hd;simp at hd
   | true=>rw [hb] at hd;simp at hd;subst hd;simp [AV.touchV,D.touchV]
theorem Iz {x:Operand} {v:AV} {i:Nat} (h:Bx L cur x=some v) (hi:i∈v.touchV R):i∈touchV R L:=by
 unfold Bx at h
 split at h
 ·exact absurd hi (Ao2 h)
 ·split at h
  ·rename_i e he
   cases hb:Fi e.p cur with
   | false=>rw [hb] at h;simp at h
   | true=>rw [hb] at h;simp at h;subst h;exact Zk (C4 he).1 hi
  ·cases h
 ·simp at h;subst h;simp [AV.touchV,D.touchV,cX] at hi
 ·cases h
theorem Un {d:D}:d.norm.touchV R=d.touchV R:=by
 unfold D.norm;split <;> rfl
theorem Ss:∀ {l:List D},cX R (l.map D.norm)=cX R l
 | []=>rfl
 | d::r=>by simp only [bJ,cX,Un,Ss]
theorem Akw {x:AV}:x.norm.touchV R=x.touchV R:=by
 cases x with
 | d x=>exact Un
 | agg l=>exact Ss
 | tup l=>rfl
theorem Md {g k:Nat}:∀ {d:D},(g,k)∈d.ois->g∈d.touchV R
 | .oi _ _ _ _ _,h=>by simp [D.ois] at h;simp [D.touchV,h.1]
 | .fn f a b,h=>by
  have key:∀ {l:List D},(∀ d,d∈l->(g,k)∈d.ois->g∈d.touchV R)->(g,k)∈d9 l->g∈cX R l:=by
   intro l
   induction l with
   | nil=>intro _ h;simp [d9] at h
   | cons d l ih=>
    intro hh h
    simp only [d9,aq] at h
    simp only [cX,aq]
    rcases h with h | h
    ·exact .inl (hh d ah h)
    ·exact .inr (ih (λ d hd=>hh d (aj _ hd)) h)
  simp only [D.ois,aq] at h
  simp only [D.touchV,aq]
  rcases h with h | h
  ·exact .inl (key (λ d _ h=>Md h) h)
  ·exact .inr (key (λ d _ h=>Md h) h)
 | .p _,h=>by simp [D.ois] at h
 | .o _ _,h=>by simp [D.ois] at h
 | .os _,h=>by simp [D.ois] at h
 | .oe _ _ _ _,h=>by simp [D.ois] at h
 | .osb _ _ _ _,h=>by simp [D.ois] at h
 | .ip _,h=>by simp [D.ois] at h
 | .any,h=>by simp [D.ois] at h
 | .nq _,h=>by simp [D.ois] at h
theorem Tv {g k:Nat}:∀ {l:List D},(g,k)∈d9 l->g∈cX R l
 | [],h=>by simp [d9] at h
 | d::l,h=>by
  simp only [d9,aq] at h
  simp only [cX,aq]
  exact h.imp Md Tv
theorem Xf {g k:Nat}:∀ {l:List AV},(g,k)∈oisL l->∃ x,x∈l/\g∈x.touchV R
 | [],h=>by simp [oisL] at h
 | x::l,h=>by
  simp only [oisL,aq] at h
  rcases h with h | h
  ·refine⟨x,ah,?_⟩
   cases x with
   | d x=>exact Md h
   | agg l=>exact Tv h
   | tup l=>simp [AV.ois] at h
  ·obtain⟨y,h1,h2⟩:=Xf h
   exact⟨y,aj _ h1,h2⟩
theorem Ada {args:List AV} {f g:FuncId} {q:List AV} {res:AV} {rows:List (List Pd)} {k:Nat} {rw:List Pd} {out:Out} (ht:∀ x,x∈args->∀ i,i∈x.touchV R->R[i]? = R'[i]?)
  (h:Ga R args f (.callB g q res rows k rw)=some out):out.R=R/\Ga R' args f (.callB g q res rows k rw)=some {out with R:=R'}:=by
 simp only [Ga] at h ⊢
 generalize (Nat.beq f g&&res.flat)=bb at h ⊢
 have hview:∀ rw,AV.viewL R rw (args.map AV.norm)=AV.viewL R' rw (args.map AV.norm):=λ rw=>Su (R:=R) (R':=R') (l:=args.map AV.norm) λ x hx i hi=>by
  obtain⟨y,hy,rfl⟩:=am.1 hx
  rw [Akw] at hi
  exact ht y hy i hi
 cases bb with
 | false=>simp at h
 | true=>
  simp only [cond_true] at h ⊢
  split at h
  ·rw [←hview]
   split at h
   ·rename_i a' e1
    simp at h;subst h
    exact⟨rfl,rfl⟩
   ·cases h
  ·rename_i g0 k0 ho
   obtain⟨x,h1,h2⟩:=Xf (R:=R) (l:=args) (g:=g0) (k:=k0) (by rw [ho];simp)
   rw [←hview,←ht x h1 g0 h2]
   split at h
   ·simp at h;subst h
    exact⟨rfl,rfl⟩
   ·cases h
  ·cases h
theorem Ahb {g:Fn} {first caps:List D} {args:List AV} {x:AV} {i:Nat} {f:Operand} {l:List Operand} (e1:Bx L cur f=some (.d (.fn g first caps))) (e2:Dz L cur l=some args)
  (hx:x∈first.map AV.d++args++caps.map AV.d) (hi:i∈x.touchV R):i∈touchV R L:=by
 have hd:∀ {ds:List D} {d:D},d∈ds->i∈d.touchV R->i∈cX R ds:=by
  intro ds
  induction ds with
  | nil=>intro d h;cases h
  | cons a r ih=>
   intro d h hi
   simp only [cX]
   rcases ag.1 h with rfl | h
   ·exact bB _ hi
   ·exact bC _ (ih h hi)
 rcases aq.1 hx with hx | hx
 ·rcases aq.1 hx with hx | hx
  ·obtain⟨d,hm,rfl⟩:=am.1 hx
   exact Iz e1 (by simp only [AV.touchV,D.touchV];exact bB _ (hd hm hi))
  ·obtain⟨z,hz⟩:=Ek e2 hx
   exact Iz hz hi
 ·obtain⟨d,hm,rfl⟩:=am.1 hx
  exact Iz e1 (by simp only [AV.touchV,D.touchV];exact bC _ (hd hm hi))
theorem Xd {c : Cl} {o : Oper} {out : Out} (hq : Fw c o = true) (ht0 : ∀ i, i ∈ deepen R (Ke o.op L) ++ Axr c R L -> R[i]? = R'[i]?) (h : Ix P L cur R c o = some out) :
    out.R=R/\Ix P L cur R' c o=some {out with R:=R'}:=by
  have ht:∀ i,i∈deepen R (Ke o.op L)->R[i]? = R'[i]?:=λ i hi=>ht0 i (bB _ hi)
  unfold Ix at h ⊢
  rw [←Ahi ht]
  split at h
  · rename_i v k hv
    simp at h;subst h
    exact⟨rfl,rfl⟩
  · rename_i hv
    obtain⟨dst,op,type,pos,after,guard⟩:=o
    simp only at h ⊢
    cases op with
    | box t x=>simp [Fw] at hq
    | alloc t=>simp [Fw] at hq
    | store t x y=>simp [Fw] at hq
    | makeSlice t x y=>simp [Fw] at hq
    | convert s d x=>
      simp only at h ⊢
      unfold Px at h ⊢
      split at h
      · split at h
        · simp at h;subst h;exact⟨rfl,rfl⟩
        · cases h
      · cases h
    | buildSlice t len parts=>
      simp only [Fw,aC] at hq
      simp only at h ⊢
      split at h
      · rename_i ps e1
        unfold Gu at h ⊢
        rw [hq] at h ⊢
        split at h
        · rename_i e hu
          split at h
          · rename_i size zs e2 e3
            cases hb:(Nat.beq zs.length (size+1)&&Nat.ble (len*(size+1)) 16777216) with
            | false=>rw [hb] at h;simp at h
            | true=>
              rw [hb] at h
              simp only [cond_true,cond_false] at h ⊢
              split at h
              · rename_i pd hpd
                simp at h;subst h
                exact⟨rfl,rfl⟩
              · cases h
          · cases h
        · cases h
      · cases h
    | call kk=>
      obtain⟨callee,cargs,argTypes⟩:=kk
      cases callee with
      | invoke r m=>simp at h
      | builtin b=>cases b <;> first | (simp [Fw] at hq;done) | (simp at h;done)
      | value f=>
        simp only [Fw,aJ,ac] at hq
        simp only at h ⊢
        split at h
        · rename_i g first caps args e1 e2
          cases c with
          | callB g' q res rows k rw=>
            exact Ada (λ x hx i hi=>ht0 i (bC _ (Ahb e1 e2 hx hi))) h
          | _=>first
            | (rcases hq with hq | hq
               · simp [Aoa] at hq
               · exact Ahn hq.1 hq.2 h)
        · cases h
    | _=>simp at h
theorem Q3:∀ {l:List Nat} {t:Nat},O3 l t=true↔t∈l
 | [],t=>by simp [O3]
 | a::r,t=>by
  simp only [O3,aJ,ag,Q3]
  constructor
  ·rintro (h | h)
   ·exact .inl (ak h).symm
   ·exact .inr h
  ·rintro (h | h)
   ·subst h;exact .inl (by simp)
   ·exact .inr h
theorem Adb {c : Cl} {ts : List TypeId} {j : Nat} {y : AV} {out : Out} {i : Nat} (h : Dp P R c ts [.d (.os j), y] = some out) (hi : i < R.length) (hj : i ≠ j) : out.R[i]? = R[i]? := by
 match ts,h with
 | [t, u], h =>
  simp only [Dp] at h
  cases hts2:Nat.beq t u with
  | false=>rw [hts2] at h;simp at h
  | true =>
   rw [hts2] at h
   simp only [cond_true] at h
   split at h
   ·split at h
    ·split at h
     ·generalize (Nat.beq _ (_+1))=bb at h
      cases bb with
      | false=>simp at h
      | true=>
       simp only [cond_true] at h
       split at h
       ·generalize (Nat.beq _ _&&Nat.beq _ _)=bb at h
        cases bb with
        | false=>simp at h
        | true=>
         simp at h;subst h
         simp only
         rw [aw (by simpa using hi),aQ (a9 hj)]
       ·cases h
     ·cases h
    ·cases h
   ·cases h
 | [],h=>simp [Dp] at h
 | [_],h=>simp [Dp] at h
 | _::_::_::_,h=>simp [Dp] at h
theorem yV {c:Cl} {ts:List TypeId} {i' g k size off:Nat} {y:AV} {out:Out} {i:Nat} (h:Jl P R c ts i' g k size off y=some out) (hi:i<R.length) (h1:i≠i') (h2:i≠g):out.R[i]? = R[i]?:=by
 unfold Jl at h
 split at h
 ·split at h
  ·generalize ((_&&_:Bool))=bb at h
   cases bb with
   | false=>simp at h
   | true=>
    simp only [cond_true] at h
    split at h
    ·rename_i v' R' a b z m r' hap
     simp at h;subst h
     have:=Adb (i:=i) hap (by simp;omega) (by omega)
     simp only at this ⊢
     rw [this,aw (by simpa using hi),aQ (a9 h1),aQ (a9 h2)]
    ·cases h
  ·cases h
 ·cases h
theorem yU {c:Cl} {ts:List TypeId} {i' n s:Nat} {y:AV} {out:Out} {i:Nat} (h:Jk P R c ts i' n s y=some out) (h1:i≠i'):out.R[i]? = R[i]?:=by
 unfold Jk at h
 split at h
 ·generalize (Nat.beq _ _)=bb at h
  cases bb with
  | false=>simp at h
  | true=>
   simp only [cond_true] at h
   split at h
   ·split at h
    ·split at h
     ·generalize (Nat.beq _ _&&Nat.beq _ _)=bb at h
      cases bb with
      | false=>simp at h
      | true=>
       simp at h;subst h
       simp only
       rw [aQ (a9 h1)]
     ·cases h
    ·cases h
   ·cases h
 ·cases h
theorem Xi {x:AV} {i lo n s:Nat} {a:Operand} (h:Wi R x=some (i,lo,n,s)) (hl:Bx L cur a=some x):i∈Ch L:=by
 unfold Wi at h
 split at h
 ·split at h
  ·simp at h;obtain⟨rfl,_⟩:=h;exact Er hl
  ·cases h
 ·simp at h;obtain⟨rfl,_⟩:=h;exact Nc hl
 ·cases h
theorem Ahm {c:Cl} {ts:List TypeId} {l:List Operand} {args:List AV} {out:Out} {i:Nat} (h:Py P R c ts args=some out) (hl:Dz L cur l=some args) (h1:i∉Ch L):out.R[i]? = R[i]?:=by
 unfold Py at h
 split at h
 ·rename_i x
  split at h
  ·split at h
   ·rename_i hd
    split at h
    ·generalize ((_&&_:Bool))=bb at h
     cases bb with
     | false=>simp at h
     | true=>
      simp only [cond_true,al] at h;subst h
      obtain⟨z,hz⟩:=Ek hl (av:=x) (by simp)
      have:=Xi hd hz
      simp only
      rw [aQ]
      rintro rfl
      exact h1 this
    ·cases h
   ·cases h
  ·cases h
 ·cases h
theorem Ak4 {c:Cl} {ts:List TypeId} {l:List Operand} {args:List AV} {out:Out} {i:Nat} (h:Um P R c ts args=some out) (hl:Dz L cur l=some args) (h1:i∉Ch L):out.R[i]? = R[i]?:=by
 unfold Um at h
 split at h
 ·rename_i x y
  split at h
  ·split at h
   ·rename_i hd
    split at h
    ·generalize ((_&&_:Bool))=bb at h
     cases bb with
     | false=>simp at h
     | true=>
      simp only [cond_true,al] at h;subst h
      obtain⟨z,hz⟩:=Ek hl (av:=x) (by simp)
      have:=Xi hd hz
      simp only
      rw [aQ]
      rintro rfl
      exact h1 this
    ·cases h
   ·cases h
  ·cases h
 ·cases h
theorem Ak3 {c:Cl} {o:Oper} {i' k size off n:Nat} {ds:List D} {out:Out} {i:Nat} (h:Uk R c o i' k size off ds n=some out) (hi:i<R.length) (h1:i≠i') (h2:∀ e s g,R[i']? = some (.dsl e s g)->i≠g) (h3:∀ m,ds=[.os m]->i≠m):out.R[i]? = R[i]?:=by
 unfold Uk at h
 split at h
 next e s g m q1 q2 q3 row q4 rows' hj=>
  split at h
  ·split at h
   ·generalize ((_&&_:Bool))=bb at h
    cases bb with
    | false=>simp at h
    | true=>
     simp only [cond_true,al] at h;subst h
     have hgi:=h2 _ _ _ hj
     have hmi:=h3 _ rfl
     simp only
     rw [aw (by simpa using hi),aQ (a9 h1),aQ (a9 hgi),aQ (a9 hmi)]
   ·cases h
  ·cases h
 next=>cases h
theorem At3 {c : Cl} {o : Oper} {out : Out} {i : Nat} {cs : List (Bool × Bool)} (h : Ix P L cur R c o = some out) (hi : i < R.length) (hw : i ∉ Dj ⟨0, o, L, cur, cs, c, R, out, true, false, none⟩) : out.R[i]? = R[i]? := by
  unfold Ix at h
  split at h
  · simp at h;subst h;rfl
  · obtain ⟨dst, op, type, pos, after, guard⟩ := o
    simp only at h
    cases op with
    | box t x=>
      simp only at h
      split at h
      · generalize (Nat.beq _ _)=bb at h
        cases bb with
        | false=>simp at h
        | true=>simp at h;subst h;simp [List.getElem?_append_left hi]
      · cases h
    | alloc t=>
      simp only at h
      split at h
      · simp at h;subst h;simp [List.getElem?_append_left hi]
      · cases h
    | store t x y =>
      simp only at h
      cases hc:cur.isEmpty with
      | false=>rw [hc] at h;simp at h
      | true=>
        rw [hc] at h
        simp only [cond_true] at h
        split at h
        · rename_i j off ds n e1 e2 e3
          split at h
          · generalize (Nat.beq _ _&&Nat.ble _ _&&Option.isNone _)=bb at h
            cases bb with
            | false=>simp at h
            | true=>
              simp at h;subst h
              simp only [Dj,e1,aP] at hw
              simp only
              rw [aQ (a9 hw)]
          · cases h
        · rename_i j k size off ds n e1 e2 e3
          simp only [Dj,e1,ag,not_or] at hw
          obtain⟨hw1,hw2⟩:=hw
          split at h
          · rename_i out' hput
            simp at h;subst h
            unfold Aoi at hput
            split at hput
            · generalize (Nat.beq _ _&&(Nat.beq _ _&&(Nat.ble _ _&&Option.isNone _)))=bb at hput
              cases bb with
              | false=>simp at hput
              | true=>
                simp at hput;subst hput
                simp only
                rw [aQ (a9 hw1)]
            · cases hput
          · refine Ak3 h hi hw1 (λ e s g hj=>?_) (λ m hds=>?_)
            · rintro rfl
              exact hw2 (bB _ (Ahu (Nb e1) hj))
            · rintro rfl
              subst hds
              refine hw2 (bC _ ?_)
              obtain⟨av,h1,h2⟩:=Aw e2
              cases av with
              | d x=>simp [Ho] at h2;subst h2;exact Iz h1 (by simp [AV.touchV,D.touchV])
              | agg l=>simp [Ho] at h2;subst h2;exact Iz h1 (by simp [AV.touchV,D.touchV,cX])
              | tup l=>simp [Ho] at h2
        · cases h
    | buildSlice t len parts=>
      simp only at h
      split at h
      · unfold Gu at h
        split at h
        · split at h
          · generalize (Nat.beq _ _&&Nat.ble _ _)=bb at h
            cases bb with
            | false=>simp at h
            | true=>
              simp only [cond_true] at h
              split at h
              · cases ho:We c with
                | true=>rw [ho] at h;simp at h;subst h;simp [List.getElem?_append_left hi]
                | false=>rw [ho] at h;simp at h;subst h;rfl
              · cases h
          · cases h
        · cases h
      · cases h
    | convert s d x=>
      simp only at h
      unfold Px at h
      split at h
      · split at h
        · simp at h;subst h;rfl
        · cases h
      · cases h
    | makeSlice t x y=>
      simp only at h
      generalize (Kh x y)=bb at h
      cases bb with
      | false=>simp at h
      | true=>
        simp only [cond_true] at h
        unfold Ls at h
        split at h
        · split at h
          · split at h
            · generalize (Nat.beq _ _)=bb at h
              cases bb with
              | false=>simp at h
              | true=>simp at h;subst h;simp [List.getElem?_append_left hi]
            · cases h
          · cases h
        · split at h
          · split at h
            · generalize (Nat.beq _ _&&_)=bb at h
              cases bb with
              | false=>simp at h
              | true=>simp at h;subst h;simp [List.getElem?_append_left hi]
            · cases h
          · cases h
        · cases h
    | call kk =>
      obtain⟨callee,cargs,argTypes⟩:=kk
      cases callee with
      | invoke r m=>simp at h
      | builtin b=>
        cases b <;> first
          | (simp at h;done)
          | (simp only at h
             split at h
             · rename_i args e1
               first
                 | exact Ahm h e1 (by simpa [Dj] using hw)
                 | exact Ak4 h e1 (by simpa [Dj] using hw)
             · cases h
             done)
          | (simp only at h
             split at h
             · rename_i i' g q size off y e1
               have hall:=e1
               obtain⟨z,hz⟩:=Ek e1 (av:=.d (.oi i' g q size off)) (by simp)
               obtain⟨hi1,hg1⟩:=Ac5 hz
               have hii:i≠i':=by rintro rfl;exact hw (by simpa [Dj] using hi1)
               have hig:i≠g:=by rintro rfl;exact hw (by simpa [Dj] using hg1)
               exact yV h hi hii hig
             · rename_i i' n s y e1
               obtain⟨z,hz⟩:=Ek e1 (av:=.d (.osb i' 0 n s)) (by simp)
               have hi1:=Nc hz
               have hii:i≠i':=by rintro rfl;exact hw (by simpa [Dj] using hi1)
               exact yU h hii
             · rename_i args _ _ e1
               unfold Dp at h
               split at h
               · rename_i t u x y hts
                 generalize (Nat.beq _ _)=bb at h
                 cases bb with
                 | false=>simp at h
                 | true=>
                   simp only [cond_true] at h
                   split at h
                   · split at h
                     · split at h
                       · generalize (Nat.beq _ _)=bb at h
                         cases bb with
                         | false=>simp at h
                         | true=>
                           simp only [cond_true] at h
                           split at h
                           · simp at h;subst h;simp [List.getElem?_append_left hi]
                           · rename_i j
                             split at h
                             · generalize (Nat.beq _ _&&Nat.beq _ _)=bb at h
                               cases bb with
                               | false=>simp at h
                               | true=>
                                 simp at h;subst h
                                 obtain⟨z,hz⟩:=Ek e1 (av:=.d (.os _)) ah
                                 have hj:=Er hz
                                 simp only
                                 rw [aw (by simpa using hi),aQ]
                                 rintro rfl
                                 refine hw ?_
                                 simpa [Dj] using hj
                             · cases h
                           · cases h
                       · cases h
                     · cases h
                   · cases h
               · cases h
             · cases h)
      | value f =>
        simp only at h
        split at h
        · rename_i g first caps args e1 e2
          cases c with
          | call f' q1 q2 res R2 pi =>
            simp only [Ga] at h
            generalize (Nat.beq g f'&&Fa pi&&Nat.ble pi.length R2.length)=bb at h
            cases bb with
            | false=>simp at h
            | true=>
              simp only [cond_true] at h
              split at h
              · split at h
                · rename_i Rp2 res2 RR e3 e4 e5
                  simp at h;subst h
                  simp only [Dj] at hw
                  simp only
                  rw [aw (by rw [Ey];exact hi)]
                  cases hg:R[i]? with
                  | none=>rw [List.getElem?_eq_none_iff] at hg;omega
                  | some r=>
                    have hlt:i<(Eo R pi RR).length:=by rw [Ey];exact hi
                    rcases Qr pi R _ i _ (af hlt) with⟨j,h1,_⟩ | ⟨h1,_⟩
                    · exact absurd (ae h1) hw
                    · rw [af hlt,←h1,hg]
                · cases h
              · cases h
          | callB f' q1 res rows0 k0 rw0=>
            simp only [Ga] at h
            generalize (Nat.beq g f'&&res.flat)=bb at h
            cases bb with
            | false=>simp at h
            | true=>
              simp only [cond_true] at h
              split at h
              · split at h
                · simp at h;subst h;rfl
                · cases h
              · split at h
                · simp at h;subst h;rfl
                · cases h
              · cases h
          | _=>simp [Ga] at h
        · cases h
    | _=>simp at h
end
end Go.SL
