import Derived.Test.YtpdbkiafikdgpaaGreatDoorSlO
namespace Go.SL
section
variable {P:Program} {C:Ctx} {S S':Nat->Prop} {w w':World} {ρ ρ':List Value} {R R':List Res} {L:List Ent} {cur:Ci} {a:Act}
theorem Aad:∀ {L:List Ent} {e:Ent} {i off:Nat},e∈L->e.v = .d (.o i off)->i∈Ce L
 | x::r,e,i,off,h,hv=>by
  rcases ah.1 h with rfl | h
  ·simp [Ce,hv]
  ·have:=Aad h hv
   unfold Ce;split <;> simp [this]
 | [],_,_,_,h,_=>by cases h
theorem Ws:∀ {L:List Ent} {e:Ent} {i:Nat},e∈L->e.v = .d (.os i)->i∈Ce L
 | x::r,e,i,h,hv=>by
  rcases ah.1 h with rfl | h
  ·simp [Ce,hv]
  ·have:=Ws h hv
   unfold Ce;split <;> simp [this]
 | [],_,_,h,_=>by cases h
theorem Wt:∀ {L:List Ent} {e:Ent} {i a b c:Nat},e∈L->e.v = .d (.oe i a b c)->i∈Ce L
 | x::r,e,i,a,b,c,h,hv=>by
  rcases ah.1 h with rfl | h
  ·simp [Ce,hv]
  ·have:=Wt h hv
   unfold Ce;split <;> simp [this]
 | [],_,_,_,_,_,h,_=>by cases h
theorem Wu:∀ {L:List Ent} {e:Ent} {i a b c:Nat},e∈L->e.v = .d (.osb i a b c)->i∈Ce L
 | x::r,e,i,a,b,c,h,hv=>by
  rcases ah.1 h with rfl | h
  ·simp [Ce,hv]
  ·have:=Wu h hv
   unfold Ce;split <;> simp [this]
 | [],_,_,_,_,_,h,_=>by cases h
theorem Rz:∀ {L:List Ent} {e:Ent} {i g a b c:Nat},e∈L->e.v = .d (.oi i g a b c)->i∈Ce L/\g∈Ce L
 | x::r,e,i,g,a,b,c,h,hv=>by
  rcases ah.1 h with rfl | h
  ·simp [Ce,hv]
  ·have:=Rz h hv
   unfold Ce;split <;> simp [this]
 | [],_,_,_,_,_,_,h,_=>by cases h
theorem jA {i g e s:Nat}:∀ {l:List Nat},i∈l->R[i]? = some (.dsl e s g)->g∈O5 R l
 | [],h,_=>by cases h
 | j::l,h,hi=>by
  rcases ah.1 h with rfl | h
  ·simp [O5,hi]
  ·have:=jA h hi
   unfold O5;split <;> simp [this]
theorem Aow {i:Nat} {l:List Nat} (h:i∈l):i∈deepen R l:=bA _ h
theorem Ag4 {i g e s:Nat} {l:List Nat} (h:i∈l) (hi:R[i]? = some (.dsl e s g)):g∈deepen R l:=bB _ (jA h hi)
theorem O9 {v:Value} {i off a b c:Nat}:M2 v≠some (.d (.o i off))/\M2 v≠some (.d (.os i))/\M2 v≠some (.d (.oe i a b c))/\M2 v≠some (.d (.osb i a b c))/\∀ g,M2 v≠some (.d (.oi i g a b c)):=by
 unfold M2
 split
 ·refine⟨?_,?_,?_,?_,λ _=>?_⟩ <;> (cases Ej (_:Array Value).toList <;> simp)
 ·simp
 ·refine⟨?_,?_,?_,?_,λ _=>?_⟩ <;>
  ·cases h:dOf v with
   | none=>simp
   | some d=>
    unfold dOf at h
    cases hb:v.oneCell' with
    | true=>rw [hb] at h;simp at h;subst h;simp
    | false=>rw [hb] at h;simp at h
theorem An9 {x:Operand} {i off:Nat} (h:B0 L cur x=some (.d (.o i off))):i∈Ce L:=by
 unfold B0 at h
 split at h
 ·exact absurd h (O9 (a:=0) (b:=0) (c:=0)).1
 ·split at h
  ·rename_i e he
   cases hb:Ey e.p cur with
   | false=>rw [hb] at h;simp at h
   | true=>rw [hb] at h;simp at h;exact Aad (Cq he).1 h
  ·cases h
 ·simp at h
 ·cases h
theorem D8 {x:Operand} {i:Nat} (h:B0 L cur x=some (.d (.os i))):i∈Ce L:=by
 unfold B0 at h
 split at h
 ·exact absurd h (O9 (off:=0) (a:=0) (b:=0) (c:=0)).2.1
 ·split at h
  ·rename_i e he
   cases hb:Ey e.p cur with
   | false=>rw [hb] at h;simp at h
   | true=>rw [hb] at h;simp at h;exact Ws (Cq he).1 h
  ·cases h
 ·simp at h
 ·cases h
theorem Mr {x:Operand} {i k s off:Nat} (h:B0 L cur x=some (.d (.oe i k s off))):i∈Ce L:=by
 unfold B0 at h
 split at h
 ·exact absurd h (O9 (off:=0)).2.2.1
 ·split at h
  ·rename_i e he
   cases hb:Ey e.p cur with
   | false=>rw [hb] at h;simp at h
   | true=>rw [hb] at h;simp at h;exact Wt (Cq he).1 h
  ·cases h
 ·simp at h
 ·cases h
theorem Ms {x:Operand} {i k s off:Nat} (h:B0 L cur x=some (.d (.osb i k s off))):i∈Ce L:=by
 unfold B0 at h
 split at h
 ·exact absurd h (O9 (off:=0)).2.2.2.1
 ·split at h
  ·rename_i e he
   cases hb:Ey e.p cur with
   | false=>rw [hb] at h;simp at h
   | true=>rw [hb] at h;simp at h;exact Wu (Cq he).1 h
  ·cases h
 ·simp at h
 ·cases h
theorem Acm {x:Operand} {i g k s off:Nat} (h:B0 L cur x=some (.d (.oi i g k s off))):i∈Ce L/\g∈Ce L:=by
 unfold B0 at h
 split at h
 ·exact absurd h ((O9 (off:=0)).2.2.2.2 g)
 ·split at h
  ·rename_i e he
   cases hb:Ey e.p cur with
   | false=>rw [hb] at h;simp at h
   | true=>rw [hb] at h;simp at h;exact Rz (Cq he).1 h
  ·cases h
 ·simp at h
 ·cases h
theorem D4:∀ {l:List Operand} {avs:List AV} {av:AV},Df L cur l=some avs->av∈avs->∃ x,B0 L cur x=some av
 | [],avs,av,h,hm=>by simp [Df] at h;subst h;cases hm
 | x::r,avs,av,h,hm=>by
  simp only [Df] at h
  split at h
  ·rename_i v l h1 h2
   simp at h;subst h
   rcases ah.1 hm with rfl | hm
   ·exact⟨x,h1⟩
   ·exact D4 h2 hm
  ·cases h
theorem Agv {args:List AV} (h:∀ i,AV.d (.os i)∈args->R[i]? = R'[i]?) (hg:∀ i e s g,AV.d (.os i)∈args->R[i]? = some (.dsl e s g)->R[g]? = R'[g]?):Ks R args=Ks R' args:=by
 unfold Ks
 split
 ·rfl
 ·rfl
 ·rename_i i
  rw [←h i (by simp)]
  split
  ·rfl
  ·rename_i e s g hd
   rw [hg i e s g (by simp) hd]
  ·rfl
 ·rfl
 ·rfl
theorem Ags {c:Cl} {op:Op} (h0:∀ i,i∈deepen R (Jo op L)->R[i]? = R'[i]?):B5 P L cur R c op=B5 P L cur R' c op:=by
 have h:∀ i,i∈Jo op L->R[i]? = R'[i]?:=λ i hi=>h0 i (Aow hi)
 have hgh:∀ i e s g,i∈Jo op L->R[i]? = some (.dsl e s g)->R[g]? = R'[g]?:=λ i e s g hi hd=>h0 g (Ag4 hi hd)
 cases op with
 | load t x=>
  by_cases hg:∃ g,x = .global g
  ·obtain⟨g,rfl⟩:=hg
   rfl
  have e:∀ R,B5 P L cur R c (.load t x)=Tm P L cur R c t x:=λ R=>by
   cases x with
   | global g=>exact absurd ⟨g,rfl⟩ hg
   | _=>rfl
  rw [e,e]
  unfold Tm
  split
  ·rename_i i off n e1 e2
   rw [h i (An9 e1)]
  ·rfl
  ·rename_i i k size off n e1 e2
   rw [←h i (Mr e1)]
   split
   ·rfl
   ·rename_i e s g _ _ _ hd
    rw [hgh i _ _ _ (Mr e1) hd]
   ·rfl
  ·rfl
 | indexAddr t x i=>
  simp only [B5]
  unfold Aoo
  split
  ·rfl
  ·rename_i e j ik n e1 e2 e3
   rw [←h j (D8 e2)]
   split
   ·rfl
   ·rename_i e s g _ _ _ hd
    rw [hgh j _ _ _ (D8 e2) hd]
   ·rfl
  ·rfl
  ·rfl
  ·rfl
 | call k=>
  simp only [B5]
  split
  ·split
   ·rename_i args e1
    split
    ·split
     ·rw [Agv (R':=R') (λ i hi=>by
       obtain⟨x,hx⟩:=D4 e1 hi
       exact h i (D8 hx)) (λ i e s g hi hd=>by
       obtain⟨x,hx⟩:=D4 e1 hi
       exact hgh i e s g (D8 hx) hd)]
     ·rfl
     ·rfl
    ·rfl
   ·rfl
  ·rfl
 | slice t x lo hi mx=>
  cases mx with
  | none=>
   simp only [B5]
   split
   ·rfl
   ·rename_i e i e1 e2
    rw [h i (D8 e2)]
   ·rename_i e i o0 n0 s0 e1 e2
    rw [h i (Ms e2)]
   ·rfl
  | some mx=>
   cases lo with
   | none=>rfl
   | some lo=>
    cases hi with
    | none=>rfl
    | some hi=>
     simp only [B5]
     split
     ·rename_i e i e1 e2
      rw [h i (D8 e2)]
     ·rfl
 | _=>rfl
mutual
theorem Abk (f:Nat->Option Nat):∀ (d d':D),D.ren (λ _=>none) d=some d'->D.ren f d=some d'
 | .p x,d',h=>h
 | .o i off,d',h=>by simp [D.ren] at h
 | .os i,d',h=>by simp [D.ren] at h
 | .oe i k s off,d',h=>by simp [D.ren] at h
 | .ip c,d',h=>h
 | .any,d',h=>h
 | .nq _,d',h=>h
 | .osb _ _ _ _,d',h=>by simp [D.ren] at h
 | .oi _ _ _ _ _,d',h=>by simp [D.ren] at h
 | .fn g a b,d',h=>by
  simp only [D.ren] at h ⊢
  split at h
  ·rename_i a' b' h1 h2
   rw [Lj f a a' h1,Lj f b b' h2]
   exact h
  ·cases h
theorem Lj (f:Nat->Option Nat):∀ (l l':List D),D.renL (λ _=>none) l=some l'->D.renL f l=some l'
 | [],l',h=>h
 | d::r,l',h=>by
  simp only [D.renL] at h ⊢
  split at h
  ·rename_i d' r' h1 h2
   rw [Abk f d d' h1,Lj f r r' h2]
   exact h
  ·cases h
end
mutual
theorem jX (f:Nat->Option Nat):∀ (d d':AV),AV.ren (λ _=>none) d=some d'->AV.ren f d=some d'
 | .d x,d',h=>by
  simp only [AV.ren] at h ⊢
  split at h
  ·rename_i y hy
   rw [Abk f x y hy];exact h
  ·cases h
 | .agg ds,d',h=>by
  simp only [AV.ren] at h ⊢
  split at h
  ·rename_i y hy
   rw [Lj f ds y hy];exact h
  ·cases h
 | .tup l,d',h=>by
  simp only [AV.ren] at h ⊢
  split at h
  ·rename_i y hy
   rw [W_ f l y hy];exact h
  ·cases h
theorem W_ (f:Nat->Option Nat):∀ (l l':List AV),AV.renL (λ _=>none) l=some l'->AV.renL f l=some l'
 | [],l',h=>h
 | d::r,l',h=>by
  simp only [AV.renL] at h ⊢
  split at h
  ·rename_i d' r' h1 h2
   rw [jX f d d' h1,W_ f r r' h2]
   exact h
  ·cases h
end
theorem Agx {args:List AV} {f:FuncId} {c:Cl} {out:Out} (hn:An0 c=true) (hc:Abm c=true)
  (h:Fg R args f c=some out):out.R=R/\Fg R' args f c=some {out with R:=R'}:=by
 unfold An0 at hn
 split at hn
 ·rename_i g q1 q2 res R2 pi
  simp only [ae,cJ] at hn
  obtain⟨rfl,rfl⟩:=hn
  obtain⟨res',hres⟩:=Option.isSome_iff_exists.1 hc
  unfold Fg at h ⊢
  simp only at h ⊢
  generalize hbb:(Nat.beq f g&&Eb []&&Nat.ble ([]:List Nat).length ([]:List Res).length)=bb at h ⊢
  cases bb with
  | false=>simp at h
  | true=>
   simp only [cond_true] at h ⊢
   split at h
   ·rename_i a' Rp e1 e2
    rw [e1]
    simp only [I_] at e2 ⊢
    simp only [al] at e2
    subst e2
    simp only [G1,jX _ res res' hres] at h ⊢
    simp at h;subst h
    simp [D6]
   ·cases h
 ·cases hn
theorem Rm:∀ {l:List D},(∀ i,i∈vG l->R[i]? = R'[i]?)->Gp R l=Gp R' l
 | [],_=>rfl
 | d::r,h=>by
  have ih:Gp R r=Gp R' r:=Rm λ i hi=>h i (by cases d <;> simp [vG,hi])
  have hd:I7 R d=I7 R' d:=by
   cases d with
   | os i=>simp only [I7];rw [h i (by simp [vG])]
   | _=>rfl
  simp only [Gp,ih,hd]
mutual
theorem Xa {rw:List Pd}:∀ {d:D},(∀ i,i∈d.touchV R->R[i]? = R'[i]?)->d.view R rw=d.view R' rw
 | .p _,_=>rfl
 | .ip _,_=>rfl
 | .any,_=>rfl
 | .nq _,_=>rfl
 | .oe _ _ _ _,_=>rfl
 | .osb i _ _ _,h=>by simp only [D.view];rw [h i (by simp [D.touchV])]
 | .oi _ g _ _ _,h=>by simp only [D.view];rw [h g (by simp [D.touchV])]
 | .os i,h=>by simp only [D.view];rw [h i (by simp [D.touchV])]
 | .o i off,h=>by
  have h0:=h i (by simp [D.touchV])
  simp only [D.view]
  rw [←h0]
  cases hi:R[i]? with
  | none=>rfl
  | some r=>cases r with
   | box t cells=>
    simp only
    rw [Rm (R':=R') λ k hk=>h k (by simp only [D.touchV,hi];exact ai _ hk)]
   | _=>rfl
 | .fn g a b,h=>by
  have h1:=Jn (rw:=rw) (l:=a) λ i hi=>h i (by simp only [D.touchV];exact bA _ hi)
  have h2:=Jn (rw:=rw) (l:=b) λ i hi=>h i (by simp only [D.touchV];exact bB _ hi)
  simp only [D.view,h1,h2]
theorem Jn {rw:List Pd}:∀ {l:List D},(∀ i,i∈d8 R l->R[i]? = R'[i]?)->D.viewL R rw l=D.viewL R' rw l
 | [],_=>rfl
 | d::r,h=>by
  have h1:=Xa (rw:=rw) (d:=d) λ i hi=>h i (by simp only [d8];exact bA _ hi)
  have h2:=Jn (rw:=rw) (l:=r) λ i hi=>h i (by simp only [d8];exact bB _ hi)
  simp only [D.viewL,h1,h2]
end
theorem Akb {rw:List Pd} {x:AV} (h:∀ i,i∈x.touchV R->R[i]? = R'[i]?):x.view R rw=x.view R' rw:=by
 cases x with
 | d x=>simp only [AV.view];rw [Xa (R':=R') h]
 | agg l=>simp only [AV.view];rw [Jn (R':=R') h]
 | tup l=>rfl
theorem Rt {rw:List Pd}:∀ {l:List AV},(∀ x,x∈l->∀ i,i∈x.touchV R->R[i]? = R'[i]?)->AV.viewL R rw l=AV.viewL R' rw l
 | [],_=>rfl
 | x::r,h=>by
  have h1:=Akb (rw:=rw) (x:=x) (h x aj)
  have h2:=Rt (rw:=rw) (l:=r) λ y hy=>h y (ai _ hy)
  simp only [AV.viewL,h1,h2]
theorem Y9 {e:Ent} {i:Nat}:∀ {L:List Ent},e∈L->i∈e.v.touchV R->i∈touchV R L
 | [],h,_=>by cases h
 | x::r,h,hi=>by
  simp only [touchV]
  rcases ah.1 h with rfl | h
  ·exact bA _ hi
  ·exact bB _ (Y9 h hi)
theorem Ama {i:Nat}:∀ {l:List Value} {ds:List D},Ej l=some ds->i∉d8 R ds
 | [],ds,h=>by simp [Ej] at h;subst h;simp [d8]
 | v::l,ds,h=>by
  simp only [Ej] at h
  split at h
  ·rename_i d r h1 h2
   simp at h;subst h
   unfold dOf at h1
   cases hb:v.oneCell' with
   | false=>rw [hb] at h1;simp at h1
   | true=>rw [hb] at h1;simp at h1;subst h1;simpa [d8,D.touchV] using Ama h2
  ·cases h
theorem Ao9 {v:Value} {x:AV} {i:Nat} (h:M2 v=some x):i∉x.touchV R:=by
 unfold M2 at h
 split at h
 ·cases hd:Ej (_:Array Value).toList with
  | none=>rw [hd] at h;cases h
  | some ds=>rw [hd] at h;simp at h;subst h;exact Ama hd
 ·cases h
 ·cases hd:dOf v with
  | none=>rw [hd] at h;cases h
  | some d=>
   rw [hd] at h;simp at h;subst h
   unfold dOf at hd
   cases hb:v.oneCell' with
   | false=>rw [hb] at hd;simp at hd
   | true=>rw [hb] at hd;simp at hd;subst hd;simp [AV.touchV,D.touchV]
theorem Ia {x:Operand} {v:AV} {i:Nat} (h:B0 L cur x=some v) (hi:i∈v.touchV R):i∈touchV R L:=by
 unfold B0 at h
 split at h
 ·exact absurd hi (Ao9 h)
 ·split at h
  ·rename_i e he
   cases hb:Ey e.p cur with
   | false=>rw [hb] at h;simp at h
   | true=>rw [hb] at h;simp at h;subst h;exact Y9 (Cq he).1 hi
  ·cases h
 ·simp at h;subst h;simp [AV.touchV,D.touchV,d8] at hi
 ·cases h
theorem Tq {d:D}:d.norm.touchV R=d.touchV R:=by
 unfold D.norm;split <;> rfl
theorem Rs:∀ {l:List D},d8 R (l.map D.norm)=d8 R l
 | []=>rfl
 | d::r=>by simp only [bP,d8,Tq,Rs]
theorem Ake {x:AV}:x.norm.touchV R=x.touchV R:=by
 cases x with
 | d x=>exact Tq
 | agg l=>exact Rs
 | tup l=>rfl
theorem Ld {g k:Nat}:∀ {d:D},(g,k)∈d.ois->g∈d.touchV R
 | .oi _ _ _ _ _,h=>by simp [D.ois] at h;simp [D.touchV,h.1]
 | .fn f a b,h=>by
  have key:∀ {l:List D},(∀ d,d∈l->(g,k)∈d.ois->g∈d.touchV R)->(g,k)∈dl l->g∈d8 R l:=by
   intro l
   induction l with
   | nil=>intro _ h;simp [dl] at h
   | cons d l ih=>
    intro hh h
    simp only [dl,az] at h
    simp only [d8,az]
    rcases h with h | h
    ·exact .inl (hh d aj h)
    ·exact .inr (ih (λ d hd=>hh d (ai _ hd)) h)
  simp only [D.ois,az] at h
  simp only [D.touchV,az]
  rcases h with h | h
  ·exact .inl (key (λ d _ h=>Ld h) h)
  ·exact .inr (key (λ d _ h=>Ld h) h)
 | .p _,h=>by simp [D.ois] at h
 | .o _ _,h=>by simp [D.ois] at h
 | .os _,h=>by simp [D.ois] at h
 | .oe _ _ _ _,h=>by simp [D.ois] at h
 | .osb _ _ _ _,h=>by simp [D.ois] at h
 | .ip _,h=>by simp [D.ois] at h
 | .any,h=>by simp [D.ois] at h
 | .nq _,h=>by simp [D.ois] at h
theorem Sw {g k:Nat}:∀ {l:List D},(g,k)∈dl l->g∈d8 R l
 | [],h=>by simp [dl] at h
 | d::l,h=>by
  simp only [dl,az] at h
  simp only [d8,az]
  exact h.imp Ld Sw
theorem Wz {g k:Nat}:∀ {l:List AV},(g,k)∈oisL l->∃ x,x∈l/\g∈x.touchV R
 | [],h=>by simp [oisL] at h
 | x::l,h=>by
  simp only [oisL,az] at h
  rcases h with h | h
  ·refine⟨x,aj,?_⟩
   cases x with
   | d x=>exact Ld h
   | agg l=>exact Sw h
   | tup l=>simp [AV.ois] at h
  ·obtain⟨y,h1,h2⟩:=Wz h
   exact⟨y,ai _ h1,h2⟩
theorem Acr {args:List AV} {f g:FuncId} {q:List AV} {res:AV} {rows:List (List Pd)} {k:Nat} {rw:List Pd} {out:Out} (ht:∀ x,x∈args->∀ i,i∈x.touchV R->R[i]? = R'[i]?)
  (h:Fg R args f (.callB g q res rows k rw)=some out):out.R=R/\Fg R' args f (.callB g q res rows k rw)=some {out with R:=R'}:=by
 simp only [Fg] at h ⊢
 generalize (Nat.beq f g&&res.flat)=bb at h ⊢
 have hview:∀ rw,AV.viewL R rw (args.map AV.norm)=AV.viewL R' rw (args.map AV.norm):=λ rw=>Rt (R:=R) (R':=R') (l:=args.map AV.norm) λ x hx i hi=>by
  obtain⟨y,hy,rfl⟩:=am.1 hx
  rw [Ake] at hi
  exact ht y hy i hi
 cases bb with
 | false=>simp at h
 | true=>
  simp only [cond_true] at h ⊢
  split at h
  ·rw [←hview]
   split at h
   ·rename_i a' e1
    simp at h;subst h
    exact⟨rfl,rfl⟩
   ·cases h
  ·rename_i g0 k0 ho
   obtain⟨x,h1,h2⟩:=Wz (R:=R) (l:=args) (g:=g0) (k:=k0) (by rw [ho];simp)
   rw [←hview,←ht x h1 g0 h2]
   split at h
   ·simp at h;subst h
    exact⟨rfl,rfl⟩
   ·cases h
  ·cases h
theorem Agj {g:Fn} {first caps:List D} {args:List AV} {x:AV} {i:Nat} {f:Operand} {l:List Operand} (e1:B0 L cur f=some (.d (.fn g first caps))) (e2:Df L cur l=some args)
  (hx:x∈first.map AV.d++args++caps.map AV.d) (hi:i∈x.touchV R):i∈touchV R L:=by
 have hd:∀ {ds:List D} {d:D},d∈ds->i∈d.touchV R->i∈d8 R ds:=by
  intro ds
  induction ds with
  | nil=>intro d h;cases h
  | cons a r ih=>
   intro d h hi
   simp only [d8]
   rcases ah.1 h with rfl | h
   ·exact bA _ hi
   ·exact bB _ (ih h hi)
 rcases az.1 hx with hx | hx
 ·rcases az.1 hx with hx | hx
  ·obtain⟨d,hm,rfl⟩:=am.1 hx
   exact Ia e1 (by simp only [AV.touchV,D.touchV];exact bA _ (hd hm hi))
  ·obtain⟨z,hz⟩:=D4 e2 hx
   exact Ia hz hi
 ·obtain⟨d,hm,rfl⟩:=am.1 hx
  exact Ia e1 (by simp only [AV.touchV,D.touchV];exact bB _ (hd hm hi))
theorem Wx {c : Cl} {o : Oper} {out : Out} (hq : E7 c o = true) (ht0 : ∀ i, i ∈ deepen R (Jo o.op L) ++ Axr c R L -> R[i]? = R'[i]?) (h : H8 P L cur R c o = some out) :
    out.R=R/\H8 P L cur R' c o=some {out with R:=R'}:=by
  have ht:∀ i,i∈deepen R (Jo o.op L)->R[i]? = R'[i]?:=λ i hi=>ht0 i (bA _ hi)
  unfold H8 at h ⊢
  rw [←Ags ht]
  split at h
  · rename_i v k hv
    simp at h;subst h
    exact⟨rfl,rfl⟩
  · rename_i hv
    obtain⟨dst,op,type,pos,after,guard⟩:=o
    simp only at h ⊢
    cases op with
    | box t x=>simp [E7] at hq
    | alloc t=>simp [E7] at hq
    | store t x y=>simp [E7] at hq
    | makeSlice t x y=>simp [E7] at hq
    | convert s d x=>
      simp only at h ⊢
      unfold O7 at h ⊢
      split at h
      · split at h
        · simp at h;subst h;exact⟨rfl,rfl⟩
        · cases h
      · cases h
    | buildSlice t len parts=>
      simp only [E7,bn] at hq
      simp only at h ⊢
      split at h
      · rename_i ps e1
        unfold F2 at h ⊢
        rw [hq] at h ⊢
        split at h
        · rename_i e hu
          split at h
          · rename_i size zs e2 e3
            cases hb:(Nat.beq zs.length (size+1)&&Nat.ble (len*(size+1)) 16777216) with
            | false=>rw [hb] at h;simp at h
            | true=>
              rw [hb] at h
              simp only [cond_true,cond_false] at h ⊢
              split at h
              · rename_i pd hpd
                simp at h;subst h
                exact⟨rfl,rfl⟩
              · cases h
          · cases h
        · cases h
      · cases h
    | call kk=>
      obtain⟨callee,cargs,argTypes⟩:=kk
      cases callee with
      | invoke r m=>simp at h
      | builtin b=>cases b <;> first | (simp [E7] at hq;done) | (simp at h;done)
      | value f=>
        simp only [E7,aO,ae] at hq
        simp only at h ⊢
        split at h
        · rename_i g first caps args e1 e2
          cases c with
          | callB g' q res rows k rw=>
            exact Acr (λ x hx i hi=>ht0 i (bB _ (Agj e1 e2 hx hi))) h
          | _=>first
            | (rcases hq with hq | hq
               · simp [Aog] at hq
               · exact Agx hq.1 hq.2 h)
        · cases h
    | _=>simp at h
theorem P_:∀ {l:List Nat} {t:Nat},Oa l t=true↔t∈l
 | [],t=>by simp [Oa]
 | a::r,t=>by
  simp only [Oa,aO,ah,P_]
  constructor
  ·rintro (h | h)
   ·exact .inl (ak h).symm
   ·exact .inr h
  ·rintro (h | h)
   ·subst h;exact .inl (by simp)
   ·exact .inr h
theorem Acs {c : Cl} {ts : List TypeId} {j : Nat} {y : AV} {out : Out} {i : Nat} (h : C6 P R c ts [.d (.os j), y] = some out) (hi : i < R.length) (hj : i ≠ j) : out.R[i]? = R[i]? := by
 match ts,h with
 | [t, u], h =>
  simp only [C6] at h
  cases hts2:Nat.beq t u with
  | false=>rw [hts2] at h;simp at h
  | true =>
   rw [hts2] at h
   simp only [cond_true] at h
   split at h
   ·split at h
    ·split at h
     ·generalize (Nat.beq _ (_+1))=bb at h
      cases bb with
      | false=>simp at h
      | true=>
       simp only [cond_true] at h
       split at h
       ·generalize (Nat.beq _ _&&Nat.beq _ _)=bb at h
        cases bb with
        | false=>simp at h
        | true=>
         simp at h;subst h
         simp only
         rw [ay (by simpa using hi),aU (bc hj)]
       ·cases h
     ·cases h
    ·cases h
   ·cases h
 | [],h=>simp [C6] at h
 | [_],h=>simp [C6] at h
 | _::_::_::_,h=>simp [C6] at h
theorem yH {c:Cl} {ts:List TypeId} {i' g k size off:Nat} {y:AV} {out:Out} {i:Nat} (h:I1 P R c ts i' g k size off y=some out) (hi:i<R.length) (h1:i≠i') (h2:i≠g):out.R[i]? = R[i]?:=by
 unfold I1 at h
 split at h
 ·split at h
  ·generalize ((_&&_:Bool))=bb at h
   cases bb with
   | false=>simp at h
   | true=>
    simp only [cond_true] at h
    split at h
    ·rename_i v' R' a b z m r' hap
     simp at h;subst h
     have:=Acs (i:=i) hap (by simp;omega) (by omega)
     simp only at this ⊢
     rw [this,ay (by simpa using hi),aU (bc h1),aU (bc h2)]
    ·cases h
  ·cases h
 ·cases h
theorem yG {c:Cl} {ts:List TypeId} {i' n s:Nat} {y:AV} {out:Out} {i:Nat} (h:I0 P R c ts i' n s y=some out) (h1:i≠i'):out.R[i]? = R[i]?:=by
 unfold I0 at h
 split at h
 ·generalize (Nat.beq _ _)=bb at h
  cases bb with
  | false=>simp at h
  | true=>
   simp only [cond_true] at h
   split at h
   ·split at h
    ·split at h
     ·generalize (Nat.beq _ _&&Nat.beq _ _)=bb at h
      cases bb with
      | false=>simp at h
      | true=>
       simp at h;subst h
       simp only
       rw [aU (bc h1)]
     ·cases h
    ·cases h
   ·cases h
 ·cases h
theorem W7 {x:AV} {i lo n s:Nat} {a:Operand} (h:V1 R x=some (i,lo,n,s)) (hl:B0 L cur a=some x):i∈Ce L:=by
 unfold V1 at h
 split at h
 ·split at h
  ·simp at h;obtain⟨rfl,_⟩:=h;exact D8 hl
  ·cases h
 ·simp at h;obtain⟨rfl,_⟩:=h;exact Ms hl
 ·cases h
theorem Agw {c:Cl} {ts:List TypeId} {l:List Operand} {args:List AV} {out:Out} {i:Nat} (h:O8 P R c ts args=some out) (hl:Df L cur l=some args) (h1:i∉Ce L):out.R[i]? = R[i]?:=by
 unfold O8 at h
 split at h
 ·rename_i x
  split at h
  ·split at h
   ·rename_i hd
    split at h
    ·generalize ((_&&_:Bool))=bb at h
     cases bb with
     | false=>simp at h
     | true=>
      simp only [cond_true,al] at h;subst h
      obtain⟨z,hz⟩:=D4 hl (av:=x) (by simp)
      have:=W7 hd hz
      simp only
      rw [aU]
      rintro rfl
      exact h1 this
    ·cases h
   ·cases h
  ·cases h
 ·cases h
theorem Akm {c:Cl} {ts:List TypeId} {l:List Operand} {args:List AV} {out:Out} {i:Nat} (h:Tn P R c ts args=some out) (hl:Df L cur l=some args) (h1:i∉Ce L):out.R[i]? = R[i]?:=by
 unfold Tn at h
 split at h
 ·rename_i x y
  split at h
  ·split at h
   ·rename_i hd
    split at h
    ·generalize ((_&&_:Bool))=bb at h
     cases bb with
     | false=>simp at h
     | true=>
      simp only [cond_true,al] at h;subst h
      obtain⟨z,hz⟩:=D4 hl (av:=x) (by simp)
      have:=W7 hd hz
      simp only
      rw [aU]
      rintro rfl
      exact h1 this
    ·cases h
   ·cases h
  ·cases h
 ·cases h
theorem Akl {c:Cl} {o:Oper} {i' k size off n:Nat} {ds:List D} {out:Out} {i:Nat} (h:Tl R c o i' k size off ds n=some out) (hi:i<R.length) (h1:i≠i') (h2:∀ e s g,R[i']? = some (.dsl e s g)->i≠g) (h3:∀ m,ds=[.os m]->i≠m):out.R[i]? = R[i]?:=by
 unfold Tl at h
 split at h
 next e s g m q1 q2 q3 row q4 rows' hj=>
  split at h
  ·split at h
   ·generalize ((_&&_:Bool))=bb at h
    cases bb with
    | false=>simp at h
    | true=>
     simp only [cond_true,al] at h;subst h
     have hgi:=h2 _ _ _ hj
     have hmi:=h3 _ rfl
     simp only
     rw [ay (by simpa using hi),aU (bc h1),aU (bc hgi),aU (bc hmi)]
   ·cases h
  ·cases h
 next=>cases h
theorem At0 {c : Cl} {o : Oper} {out : Out} {i : Nat} {cs : List (Bool × Bool)} (h : H8 P L cur R c o = some out) (hi : i < R.length) (hw : i ∉ C3 ⟨0, o, L, cur, cs, c, R, out, true, false, none⟩) : out.R[i]? = R[i]? := by
  unfold H8 at h
  split at h
  · simp at h;subst h;rfl
  · obtain ⟨dst, op, type, pos, after, guard⟩ := o
    simp only at h
    cases op with
    | box t x=>
      simp only at h
      split at h
      · generalize (Nat.beq _ _)=bb at h
        cases bb with
        | false=>simp at h
        | true=>simp at h;subst h;simp [List.getElem?_append_left hi]
      · cases h
    | alloc t=>
      simp only at h
      split at h
      · simp at h;subst h;simp [List.getElem?_append_left hi]
      · cases h
    | store t x y =>
      simp only at h
      cases hc:cur.isEmpty with
      | false=>rw [hc] at h;simp at h
      | true=>
        rw [hc] at h
        simp only [cond_true] at h
        split at h
        · rename_i j off ds n e1 e2 e3
          split at h
          · generalize (Nat.beq _ _&&Nat.ble _ _&&Option.isNone _)=bb at h
            cases bb with
            | false=>simp at h
            | true=>
              simp at h;subst h
              simp only [C3,e1,bz] at hw
              simp only
              rw [aU (bc hw)]
          · cases h
        · rename_i j k size off ds n e1 e2 e3
          simp only [C3,e1,ah,not_or] at hw
          obtain⟨hw1,hw2⟩:=hw
          split at h
          · rename_i out' hput
            simp at h;subst h
            unfold Aon at hput
            split at hput
            · generalize (Nat.beq _ _&&(Nat.beq _ _&&(Nat.ble _ _&&Option.isNone _)))=bb at hput
              cases bb with
              | false=>simp at hput
              | true=>
                simp at hput;subst hput
                simp only
                rw [aU (bc hw1)]
            · cases hput
          · refine Akl h hi hw1 (λ e s g hj=>?_) (λ m hds=>?_)
            · rintro rfl
              exact hw2 (bA _ (Ag4 (Mr e1) hj))
            · rintro rfl
              subst hds
              refine hw2 (bB _ ?_)
              obtain⟨av,h1,h2⟩:=Az e2
              cases av with
              | d x=>simp [Gu] at h2;subst h2;exact Ia h1 (by simp [AV.touchV,D.touchV])
              | agg l=>simp [Gu] at h2;subst h2;exact Ia h1 (by simp [AV.touchV,D.touchV,d8])
              | tup l=>simp [Gu] at h2
        · cases h
    | buildSlice t len parts=>
      simp only at h
      split at h
      · unfold F2 at h
        split at h
        · split at h
          · generalize (Nat.beq _ _&&Nat.ble _ _)=bb at h
            cases bb with
            | false=>simp at h
            | true=>
              simp only [cond_true] at h
              split at h
              · cases ho:Vx c with
                | true=>rw [ho] at h;simp at h;subst h;simp [List.getElem?_append_left hi]
                | false=>rw [ho] at h;simp at h;subst h;rfl
              · cases h
          · cases h
        · cases h
      · cases h
    | convert s d x=>
      simp only at h
      unfold O7 at h
      split at h
      · split at h
        · simp at h;subst h;rfl
        · cases h
      · cases h
    | makeSlice t x y=>
      simp only at h
      generalize (Jr x y)=bb at h
      cases bb with
      | false=>simp at h
      | true=>
        simp only [cond_true] at h
        unfold Kr at h
        split at h
        · split at h
          · split at h
            · generalize (Nat.beq _ _)=bb at h
              cases bb with
              | false=>simp at h
              | true=>simp at h;subst h;simp [List.getElem?_append_left hi]
            · cases h
          · cases h
        · split at h
          · split at h
            · generalize (Nat.beq _ _&&_)=bb at h
              cases bb with
              | false=>simp at h
              | true=>simp at h;subst h;simp [List.getElem?_append_left hi]
            · cases h
          · cases h
        · cases h
    | call kk =>
      obtain⟨callee,cargs,argTypes⟩:=kk
      cases callee with
      | invoke r m=>simp at h
      | builtin b=>
        cases b <;> first
          | (simp at h;done)
          | (simp only at h
             split at h
             · rename_i args e1
               first
                 | exact Agw h e1 (by simpa [C3] using hw)
                 | exact Akm h e1 (by simpa [C3] using hw)
             · cases h
             done)
          | (simp only at h
             split at h
             · rename_i i' g q size off y e1
               have hall:=e1
               obtain⟨z,hz⟩:=D4 e1 (av:=.d (.oi i' g q size off)) (by simp)
               obtain⟨hi1,hg1⟩:=Acm hz
               have hii:i≠i':=by rintro rfl;exact hw (by simpa [C3] using hi1)
               have hig:i≠g:=by rintro rfl;exact hw (by simpa [C3] using hg1)
               exact yH h hi hii hig
             · rename_i i' n s y e1
               obtain⟨z,hz⟩:=D4 e1 (av:=.d (.osb i' 0 n s)) (by simp)
               have hi1:=Ms hz
               have hii:i≠i':=by rintro rfl;exact hw (by simpa [C3] using hi1)
               exact yG h hii
             · rename_i args _ _ e1
               unfold C6 at h
               split at h
               · rename_i t u x y hts
                 generalize (Nat.beq _ _)=bb at h
                 cases bb with
                 | false=>simp at h
                 | true=>
                   simp only [cond_true] at h
                   split at h
                   · split at h
                     · split at h
                       · generalize (Nat.beq _ _)=bb at h
                         cases bb with
                         | false=>simp at h
                         | true=>
                           simp only [cond_true] at h
                           split at h
                           · simp at h;subst h;simp [List.getElem?_append_left hi]
                           · rename_i j
                             split at h
                             · generalize (Nat.beq _ _&&Nat.beq _ _)=bb at h
                               cases bb with
                               | false=>simp at h
                               | true=>
                                 simp at h;subst h
                                 obtain⟨z,hz⟩:=D4 e1 (av:=.d (.os _)) aj
                                 have hj:=D8 hz
                                 simp only
                                 rw [ay (by simpa using hi),aU]
                                 rintro rfl
                                 refine hw ?_
                                 simpa [C3] using hj
                             · cases h
                           · cases h
                       · cases h
                     · cases h
                   · cases h
               · cases h
             · cases h)
      | value f =>
        simp only at h
        split at h
        · rename_i g first caps args e1 e2
          cases c with
          | call f' q1 q2 res R2 pi =>
            simp only [Fg] at h
            generalize (Nat.beq g f'&&Eb pi&&Nat.ble pi.length R2.length)=bb at h
            cases bb with
            | false=>simp at h
            | true=>
              simp only [cond_true] at h
              split at h
              · split at h
                · rename_i Rp2 res2 RR e3 e4 e5
                  simp at h;subst h
                  simp only [C3] at hw
                  simp only
                  rw [ay (by rw [Eg];exact hi)]
                  cases hg:R[i]? with
                  | none=>rw [List.getElem?_eq_none_iff] at hg;omega
                  | some r=>
                    have hlt:i<(D6 R pi RR).length:=by rw [Eg];exact hi
                    rcases P3 pi R _ i _ (ag hlt) with⟨j,h1,_⟩ | ⟨h1,_⟩
                    · exact absurd (af h1) hw
                    · rw [ag hlt,←h1,hg]
                · cases h
              · cases h
          | callB f' q1 res rows0 k0 rw0=>
            simp only [Fg] at h
            generalize (Nat.beq g f'&&res.flat)=bb at h
            cases bb with
            | false=>simp at h
            | true=>
              simp only [cond_true] at h
              split at h
              · split at h
                · simp at h;subst h;rfl
                · cases h
              · split at h
                · simp at h;subst h;rfl
                · cases h
              · cases h
          | _=>simp [Fg] at h
        · cases h
    | _=>simp at h
end
end Go.SL
