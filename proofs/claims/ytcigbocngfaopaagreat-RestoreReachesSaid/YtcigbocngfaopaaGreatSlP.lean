import Derived.Test.YtcigbocngfaopaaGreatSlO
namespace Go.SL
section
variable {P:Program} {C:Ctx} {S S':Nat->Prop} {w w':World} {ρ ρ':List Value} {R R':List Res} {L:List Ent} {cur:Cu} {a:Act}
theorem Abf:∀ {L:List Ent} {e:Ent} {i off:Nat},e∈L->e.v = .d (.o i off)->i∈Cj L
 | x::r,e,i,off,h,hv=>by
  rcases aj.1 h with rfl | h
  ·simp [Cj,hv]
  ·have:=Abf h hv
   unfold Cj;split <;> simp [this]
 | [],_,_,_,h,_=>by cases h
theorem X0:∀ {L:List Ent} {e:Ent} {i:Nat},e∈L->e.v = .d (.os i)->i∈Cj L
 | x::r,e,i,h,hv=>by
  rcases aj.1 h with rfl | h
  ·simp [Cj,hv]
  ·have:=X0 h hv
   unfold Cj;split <;> simp [this]
 | [],_,_,h,_=>by cases h
theorem X1:∀ {L:List Ent} {e:Ent} {i a b c:Nat},e∈L->e.v = .d (.oe i a b c)->i∈Cj L
 | x::r,e,i,a,b,c,h,hv=>by
  rcases aj.1 h with rfl | h
  ·simp [Cj,hv]
  ·have:=X1 h hv
   unfold Cj;split <;> simp [this]
 | [],_,_,_,_,_,h,_=>by cases h
theorem X2:∀ {L:List Ent} {e:Ent} {i a b c:Nat},e∈L->e.v = .d (.osb i a b c)->i∈Cj L
 | x::r,e,i,a,b,c,h,hv=>by
  rcases aj.1 h with rfl | h
  ·simp [Cj,hv]
  ·have:=X2 h hv
   unfold Cj;split <;> simp [this]
 | [],_,_,_,_,_,h,_=>by cases h
theorem T3:∀ {L:List Ent} {e:Ent} {i g a b c:Nat},e∈L->e.v = .d (.oi i g a b c)->i∈Cj L/\g∈Cj L
 | x::r,e,i,g,a,b,c,h,hv=>by
  rcases aj.1 h with rfl | h
  ·simp [Cj,hv]
  ·have:=T3 h hv
   unfold Cj;split <;> simp [this]
 | [],_,_,_,_,_,_,h,_=>by cases h
theorem qW {i g e s:Nat}:∀ {l:List Nat},i∈l->R[i]? = some (.dsl e s g)->g∈Qp R l
 | [],h,_=>by cases h
 | j::l,h,hi=>by
  rcases aj.1 h with rfl | h
  ·simp [Qp,hi]
  ·have:=qW h hi
   unfold Qp;split <;> simp [this]
theorem Aps {i:Nat} {l:List Nat} (h:i∈l):i∈deepen R l:=bD _ h
theorem Aiv {i g e s:Nat} {l:List Nat} (h:i∈l) (hi:R[i]? = some (.dsl e s g)):g∈deepen R l:=bE _ (qW h hi)
theorem Qx {v:Value} {i off a b c:Nat}:Oc v≠some (.d (.o i off))/\Oc v≠some (.d (.os i))/\Oc v≠some (.d (.oe i a b c))/\Oc v≠some (.d (.osb i a b c))/\∀ g,Oc v≠some (.d (.oi i g a b c)):=by
 unfold Oc
 split
 ·refine⟨?_,?_,?_,?_,λ _=>?_⟩ <;> (cases Fa (_:Array Value).toList <;> simp)
 ·simp
 ·refine⟨?_,?_,?_,?_,λ _=>?_⟩ <;>
  ·cases h:dOf v with
   | none=>simp
   | some d=>
    unfold dOf at h
    cases hb:v.oneCell' with
    | true=>rw [hb] at h;simp at h;subst h;simp
    | false=>rw [hb] at h;simp at h
theorem Apd {x:Operand} {i off:Nat} (h:Bw L cur x=some (.d (.o i off))):i∈Cj L:=by
 unfold Bw at h
 split at h
 ·exact absurd h (Qx (a:=0) (b:=0) (c:=0)).1
 ·split at h
  ·rename_i e he
   cases hb:Fs e.p cur with
   | false=>rw [hb] at h;simp at h
   | true=>rw [hb] at h;simp at h;exact Abf (C_ he).1 h
  ·cases h
 ·simp at h
 ·cases h
theorem E4 {x:Operand} {i:Nat} (h:Bw L cur x=some (.d (.os i))):i∈Cj L:=by
 unfold Bw at h
 split at h
 ·exact absurd h (Qx (off:=0) (a:=0) (b:=0) (c:=0)).2.1
 ·split at h
  ·rename_i e he
   cases hb:Fs e.p cur with
   | false=>rw [hb] at h;simp at h
   | true=>rw [hb] at h;simp at h;exact X0 (C_ he).1 h
  ·cases h
 ·simp at h
 ·cases h
theorem Nz {x:Operand} {i k s off:Nat} (h:Bw L cur x=some (.d (.oe i k s off))):i∈Cj L:=by
 unfold Bw at h
 split at h
 ·exact absurd h (Qx (off:=0)).2.2.1
 ·split at h
  ·rename_i e he
   cases hb:Fs e.p cur with
   | false=>rw [hb] at h;simp at h
   | true=>rw [hb] at h;simp at h;exact X1 (C_ he).1 h
  ·cases h
 ·simp at h
 ·cases h
theorem N0 {x:Operand} {i k s off:Nat} (h:Bw L cur x=some (.d (.osb i k s off))):i∈Cj L:=by
 unfold Bw at h
 split at h
 ·exact absurd h (Qx (off:=0)).2.2.2.1
 ·split at h
  ·rename_i e he
   cases hb:Fs e.p cur with
   | false=>rw [hb] at h;simp at h
   | true=>rw [hb] at h;simp at h;exact X2 (C_ he).1 h
  ·cases h
 ·simp at h
 ·cases h
theorem Ad1 {x:Operand} {i g k s off:Nat} (h:Bw L cur x=some (.d (.oi i g k s off))):i∈Cj L/\g∈Cj L:=by
 unfold Bw at h
 split at h
 ·exact absurd h ((Qx (off:=0)).2.2.2.2 g)
 ·split at h
  ·rename_i e he
   cases hb:Fs e.p cur with
   | false=>rw [hb] at h;simp at h
   | true=>rw [hb] at h;simp at h;exact T3 (C_ he).1 h
  ·cases h
 ·simp at h
 ·cases h
theorem Ey:∀ {l:List Operand} {avs:List AV} {av:AV},D4 L cur l=some avs->av∈avs->∃ x,Bw L cur x=some av
 | [],avs,av,h,hm=>by simp [D4] at h;subst h;cases hm
 | x::r,avs,av,h,hm=>by
  simp only [D4] at h
  split at h
  ·rename_i v l h1 h2
   simp at h;subst h
   rcases aj.1 hm with rfl | hm
   ·exact⟨x,h1⟩
   ·exact Ey h2 hm
  ·cases h
theorem Aim {args:List AV} (h:∀ i,AV.d (.os i)∈args->R[i]? = R'[i]?) (hg:∀ i e s g,AV.d (.os i)∈args->R[i]? = some (.dsl e s g)->R[g]? = R'[g]?):L9 R args=L9 R' args:=by
 unfold L9
 split
 ·rfl
 ·rfl
 ·rename_i i
  rw [←h i (by simp)]
  split
  ·rfl
  ·rename_i e s g hd
   rw [hg i e s g (by simp) hd]
  ·rfl
 ·rfl
 ·rfl
theorem Aij {c:Cl} {op:Op} (h0:∀ i,i∈deepen R (Kq op L)->R[i]? = R'[i]?):B7 P L cur R c op=B7 P L cur R' c op:=by
 have h:∀ i,i∈Kq op L->R[i]? = R'[i]?:=λ i hi=>h0 i (Aps hi)
 have hgh:∀ i e s g,i∈Kq op L->R[i]? = some (.dsl e s g)->R[g]? = R'[g]?:=λ i e s g hi hd=>h0 g (Aiv hi hd)
 cases op with
 | load t x=>
  by_cases hg:∃ g,x = .global g
  ·obtain⟨g,rfl⟩:=hg
   rfl
  have e:∀ R,B7 P L cur R c (.load t x)=Vg P L cur R c t x:=λ R=>by
   cases x with
   | global g=>exact absurd ⟨g,rfl⟩ hg
   | _=>rfl
  rw [e,e]
  unfold Vg
  split
  ·rename_i i off n e1 e2
   rw [h i (Apd e1)]
  ·rfl
  ·rename_i i k size off n e1 e2
   rw [←h i (Nz e1)]
   split
   ·rfl
   ·rename_i e s g _ _ _ hd
    rw [hgh i _ _ _ (Nz e1) hd]
   ·rfl
  ·rfl
 | indexAddr t x i=>
  simp only [B7]
  unfold Apn
  split
  ·rfl
  ·rename_i e j ik n e1 e2 e3
   rw [←h j (E4 e2)]
   split
   ·rfl
   ·rename_i e s g _ _ _ hd
    rw [hgh j _ _ _ (E4 e2) hd]
   ·rfl
  ·rfl
  ·rfl
  ·rfl
 | call k=>
  simp only [B7]
  split
  ·split
   ·rename_i args e1
    split
    ·split
     ·rw [Aim (R':=R') (λ i hi=>by
       obtain⟨x,hx⟩:=Ey e1 hi
       exact h i (E4 hx)) (λ i e s g hi hd=>by
       obtain⟨x,hx⟩:=Ey e1 hi
       exact hgh i e s g (E4 hx) hd)]
     ·rfl
     ·rfl
    ·rfl
   ·rfl
  ·rfl
 | slice t x lo hi mx=>
  cases mx with
  | none=>
   simp only [B7]
   split
   ·rfl
   ·rename_i e i e1 e2
    rw [h i (E4 e2)]
   ·rename_i e i o0 n0 s0 e1 e2
    rw [h i (N0 e2)]
   ·rfl
  | some mx=>
   cases lo with
   | none=>rfl
   | some lo=>
    cases hi with
    | none=>rfl
    | some hi=>
     simp only [B7]
     split
     ·rename_i e i e1 e2
      rw [h i (E4 e2)]
     ·rfl
 | _=>rfl
mutual
theorem Acr (f:Nat->Option Nat):∀ (d d':D),D.ren (λ _=>none) d=some d'->D.ren f d=some d'
 | .p x,d',h=>h
 | .o i off,d',h=>by simp [D.ren] at h
 | .os i,d',h=>by simp [D.ren] at h
 | .oe i k s off,d',h=>by simp [D.ren] at h
 | .ip c,d',h=>h
 | .any,d',h=>h
 | .nq _,d',h=>h
 | .osb _ _ _ _,d',h=>by simp [D.ren] at h
 | .oi _ _ _ _ _,d',h=>by simp [D.ren] at h
 | .fn g a b,d',h=>by
  simp only [D.ren] at h ⊢
  split at h
  ·rename_i a' b' h1 h2
   rw [M0 f a a' h1,M0 f b b' h2]
   exact h
  ·cases h
theorem M0 (f:Nat->Option Nat):∀ (l l':List D),D.renL (λ _=>none) l=some l'->D.renL f l=some l'
 | [],l',h=>h
 | d::r,l',h=>by
  simp only [D.renL] at h ⊢
  split at h
  ·rename_i d' r' h1 h2
   rw [Acr f d d' h1,M0 f r r' h2]
   exact h
  ·cases h
end
mutual
theorem uV (f:Nat->Option Nat):∀ (d d':AV),AV.ren (λ _=>none) d=some d'->AV.ren f d=some d'
 | .d x,d',h=>by
  simp only [AV.ren] at h ⊢
  split at h
  ·rename_i y hy
   rw [Acr f x y hy];exact h
  ·cases h
 | .agg ds,d',h=>by
  simp only [AV.ren] at h ⊢
  split at h
  ·rename_i y hy
   rw [M0 f ds y hy];exact h
  ·cases h
 | .tup l,d',h=>by
  simp only [AV.ren] at h ⊢
  split at h
  ·rename_i y hy
   rw [Yd f l y hy];exact h
  ·cases h
theorem Yd (f:Nat->Option Nat):∀ (l l':List AV),AV.renL (λ _=>none) l=some l'->AV.renL f l=some l'
 | [],l',h=>h
 | d::r,l',h=>by
  simp only [AV.renL] at h ⊢
  split at h
  ·rename_i d' r' h1 h2
   rw [uV f d d' h1,Yd f r r' h2]
   exact h
  ·cases h
end
theorem Aio {args:List AV} {f:FuncId} {c:Cl} {out:Out} (hn:Ao0 c=true) (hc:Acw c=true)
  (h:Gi R args f c=some out):out.R=R/\Gi R' args f c=some {out with R:=R'}:=by
 unfold Ao0 at hn
 split at hn
 ·rename_i g q1 q2 res R2 pi
  simp only [ac,cQ] at hn
  obtain⟨rfl,rfl⟩:=hn
  obtain⟨res',hres⟩:=Option.isSome_iff_exists.1 hc
  unfold Gi at h ⊢
  simp only at h ⊢
  generalize hbb:(Nat.beq f g&&Fj []&&Nat.ble ([]:List Nat).length ([]:List Res).length)=bb at h ⊢
  cases bb with
  | false=>simp at h
  | true=>
   simp only [cond_true] at h ⊢
   split at h
   ·rename_i a' Rp e1 e2
    rw [e1]
    simp only [J7] at e2 ⊢
    simp only [al] at e2
    subst e2
    simp only [H2,uV _ res res' hres] at h ⊢
    simp at h;subst h
    simp [E1]
   ·cases h
 ·cases hn
theorem Tu:∀ {l:List D},(∀ i,i∈yZ l->R[i]? = R'[i]?)->Hs R l=Hs R' l
 | [],_=>rfl
 | d::r,h=>by
  have ih:Hs R r=Hs R' r:=Tu λ i hi=>h i (by cases d <;> simp [yZ,hi])
  have hd:Lr R d=Lr R' d:=by
   cases d with
   | os i=>simp only [Lr];rw [h i (by simp [yZ])]
   | _=>rfl
  simp only [Hs,ih,hd]
mutual
theorem Ye {rw:List Pd}:∀ {d:D},(∀ i,i∈d.touchV R->R[i]? = R'[i]?)->d.view R rw=d.view R' rw
 | .p _,_=>rfl
 | .ip _,_=>rfl
 | .any,_=>rfl
 | .nq _,_=>rfl
 | .oe _ _ _ _,_=>rfl
 | .osb i _ _ _,h=>by simp only [D.view];rw [h i (by simp [D.touchV])]
 | .oi _ g _ _ _,h=>by simp only [D.view];rw [h g (by simp [D.touchV])]
 | .os i,h=>by simp only [D.view];rw [h i (by simp [D.touchV])]
 | .o i off,h=>by
  have h0:=h i (by simp [D.touchV])
  simp only [D.view]
  rw [←h0]
  cases hi:R[i]? with
  | none=>rfl
  | some r=>cases r with
   | box t cells=>
    simp only
    rw [Tu (R':=R') λ k hk=>h k (by simp only [D.touchV,hi];exact ai _ hk)]
   | _=>rfl
 | .fn g a b,h=>by
  have h1:=Kp (rw:=rw) (l:=a) λ i hi=>h i (by simp only [D.touchV];exact bD _ hi)
  have h2:=Kp (rw:=rw) (l:=b) λ i hi=>h i (by simp only [D.touchV];exact bE _ hi)
  simp only [D.view,h1,h2]
theorem Kp {rw:List Pd}:∀ {l:List D},(∀ i,i∈cY R l->R[i]? = R'[i]?)->D.viewL R rw l=D.viewL R' rw l
 | [],_=>rfl
 | d::r,h=>by
  have h1:=Ye (rw:=rw) (d:=d) λ i hi=>h i (by simp only [cY];exact bD _ hi)
  have h2:=Kp (rw:=rw) (l:=r) λ i hi=>h i (by simp only [cY];exact bE _ hi)
  simp only [D.viewL,h1,h2]
end
theorem Alt {rw:List Pd} {x:AV} (h:∀ i,i∈x.touchV R->R[i]? = R'[i]?):x.view R rw=x.view R' rw:=by
 cases x with
 | d x=>simp only [AV.view];rw [Ye (R':=R') h]
 | agg l=>simp only [AV.view];rw [Kp (R':=R') h]
 | tup l=>rfl
theorem Tw {rw:List Pd}:∀ {l:List AV},(∀ x,x∈l->∀ i,i∈x.touchV R->R[i]? = R'[i]?)->AV.viewL R rw l=AV.viewL R' rw l
 | [],_=>rfl
 | x::r,h=>by
  have h1:=Alt (rw:=rw) (x:=x) (h x ag)
  have h2:=Tw (rw:=rw) (l:=r) λ y hy=>h y (ai _ hy)
  simp only [AV.viewL,h1,h2]
theorem jE {e:Ent} {i:Nat}:∀ {L:List Ent},e∈L->i∈e.v.touchV R->i∈touchV R L
 | [],h,_=>by cases h
 | x::r,h,hi=>by
  simp only [touchV]
  rcases aj.1 h with rfl | h
  ·exact bD _ hi
  ·exact bE _ (jE h hi)
theorem Anj {i:Nat}:∀ {l:List Value} {ds:List D},Fa l=some ds->i∉cY R ds
 | [],ds,h=>by simp [Fa] at h;subst h;simp [cY]
 | v::l,ds,h=>by
  simp only [Fa] at h
  split at h
  ·rename_i d r h1 h2
   simp at h;subst h
   unfold dOf at h1
   cases hb:v.oneCell' with
   | false=>rw [hb] at h1;simp at h1
   | true=>rw [hb] at h1;simp at h1;subst h1;simpa [cY,D.touchV] using Anj h2
  ·cases h
theorem Ap7 {v:Value} {x:AV} {i:Nat} (h:Oc v=some x):i∉x.touchV R:=by
 unfold Oc at h
 split at h
 ·cases hd:Fa (_:Array Value).toList with
  | none=>rw [hd] at h;cases h
  | some ds=>rw [hd] at h;simp at h;subst h;exact Anj hd
 ·cases h
 ·cases hd:dOf v with
  | none=>rw [hd] at h;cases h
  | some d=>
   rw [hd] at h;simp at h;subst h
   unfold dOf at hd
   cases hb:v.oneCell' with
   | false=>rw [hb] at hd;simp at hd
   | true=>rw [hb] at hd;simp at hd;subst hd;simp [AV.touchV,D.touchV]
theorem I_ {x:Operand} {v:AV} {i:Nat} (h:Bw L cur x=some v) (hi:i∈v.touchV R):i∈touchV R L:=by
 unfold Bw at h
 split at h
 ·exact absurd hi (Ap7 h)
 ·split at h
  ·rename_i e he
   cases hb:Fs e.p cur with
   | false=>rw [hb] at h;simp at h
   | true=>rw [hb] at h;simp at h;subst h;exact jE (C_ he).1 hi
  ·cases h
 ·simp at h;subst h;simp [AV.touchV,D.touchV,cY] at hi
 ·cases h
theorem Vi {d:D}:d.norm.touchV R=d.touchV R:=by
 unfold D.norm;split <;> rfl
theorem Tv:∀ {l:List D},cY R (l.map D.norm)=cY R l
 | []=>rfl
 | d::r=>by simp only [bM,cY,Vi,Tv]
theorem Aly {x:AV}:x.norm.touchV R=x.touchV R:=by
 cases x with
 | d x=>exact Vi
 | agg l=>exact Tv
 | tup l=>rfl
theorem Mv {g k:Nat}:∀ {d:D},(g,k)∈d.ois->g∈d.touchV R
 | .oi _ _ _ _ _,h=>by simp [D.ois] at h;simp [D.touchV,h.1]
 | .fn f a b,h=>by
  have key:∀ {l:List D},(∀ d,d∈l->(g,k)∈d.ois->g∈d.touchV R)->(g,k)∈da l->g∈cY R l:=by
   intro l
   induction l with
   | nil=>intro _ h;simp [da] at h
   | cons d l ih=>
    intro hh h
    simp only [da,aq] at h
    simp only [cY,aq]
    rcases h with h | h
    ·exact .inl (hh d ag h)
    ·exact .inr (ih (λ d hd=>hh d (ai _ hd)) h)
  simp only [D.ois,aq] at h
  simp only [D.touchV,aq]
  rcases h with h | h
  ·exact .inl (key (λ d _ h=>Mv h) h)
  ·exact .inr (key (λ d _ h=>Mv h) h)
 | .p _,h=>by simp [D.ois] at h
 | .o _ _,h=>by simp [D.ois] at h
 | .os _,h=>by simp [D.ois] at h
 | .oe _ _ _ _,h=>by simp [D.ois] at h
 | .osb _ _ _ _,h=>by simp [D.ois] at h
 | .ip _,h=>by simp [D.ois] at h
 | .any,h=>by simp [D.ois] at h
 | .nq _,h=>by simp [D.ois] at h
theorem Uw {g k:Nat}:∀ {l:List D},(g,k)∈da l->g∈cY R l
 | [],h=>by simp [da] at h
 | d::l,h=>by
  simp only [da,aq] at h
  simp only [cY,aq]
  exact h.imp Mv Uw
theorem X8 {g k:Nat}:∀ {l:List AV},(g,k)∈oisL l->∃ x,x∈l/\g∈x.touchV R
 | [],h=>by simp [oisL] at h
 | x::l,h=>by
  simp only [oisL,aq] at h
  rcases h with h | h
  ·refine⟨x,ag,?_⟩
   cases x with
   | d x=>exact Mv h
   | agg l=>exact Uw h
   | tup l=>simp [AV.ois] at h
  ·obtain⟨y,h1,h2⟩:=X8 h
   exact⟨y,ai _ h1,h2⟩
theorem Ad6 {args:List AV} {f g:FuncId} {q:List AV} {res:AV} {rows:List (List Pd)} {k:Nat} {rw:List Pd} {out:Out} (ht:∀ x,x∈args->∀ i,i∈x.touchV R->R[i]? = R'[i]?)
  (h:Gi R args f (.callB g q res rows k rw)=some out):out.R=R/\Gi R' args f (.callB g q res rows k rw)=some {out with R:=R'}:=by
 simp only [Gi] at h ⊢
 generalize (Nat.beq f g&&res.flat)=bb at h ⊢
 have hview:∀ rw,AV.viewL R rw (args.map AV.norm)=AV.viewL R' rw (args.map AV.norm):=λ rw=>Tw (R:=R) (R':=R') (l:=args.map AV.norm) λ x hx i hi=>by
  obtain⟨y,hy,rfl⟩:=an.1 hx
  rw [Aly] at hi
  exact ht y hy i hi
 cases bb with
 | false=>simp at h
 | true=>
  simp only [cond_true] at h ⊢
  split at h
  ·rw [←hview]
   split at h
   ·rename_i a' e1
    simp at h;subst h
    exact⟨rfl,rfl⟩
   ·cases h
  ·rename_i g0 k0 ho
   obtain⟨x,h1,h2⟩:=X8 (R:=R) (l:=args) (g:=g0) (k:=k0) (by rw [ho];simp)
   rw [←hview,←ht x h1 g0 h2]
   split at h
   ·simp at h;subst h
    exact⟨rfl,rfl⟩
   ·cases h
  ·cases h
theorem Aic {g:Fn} {first caps:List D} {args:List AV} {x:AV} {i:Nat} {f:Operand} {l:List Operand} (e1:Bw L cur f=some (.d (.fn g first caps))) (e2:D4 L cur l=some args)
  (hx:x∈first.map AV.d++args++caps.map AV.d) (hi:i∈x.touchV R):i∈touchV R L:=by
 have hd:∀ {ds:List D} {d:D},d∈ds->i∈d.touchV R->i∈cY R ds:=by
  intro ds
  induction ds with
  | nil=>intro d h;cases h
  | cons a r ih=>
   intro d h hi
   simp only [cY]
   rcases aj.1 h with rfl | h
   ·exact bD _ hi
   ·exact bE _ (ih h hi)
 rcases aq.1 hx with hx | hx
 ·rcases aq.1 hx with hx | hx
  ·obtain⟨d,hm,rfl⟩:=an.1 hx
   exact I_ e1 (by simp only [AV.touchV,D.touchV];exact bD _ (hd hm hi))
  ·obtain⟨z,hz⟩:=Ey e2 hx
   exact I_ hz hi
 ·obtain⟨d,hm,rfl⟩:=an.1 hx
  exact I_ e1 (by simp only [AV.touchV,D.touchV];exact bE _ (hd hm hi))
theorem X6 {c : Cl} {o : Oper} {out : Out} (hq : Ga c o = true) (ht0 : ∀ i, i ∈ deepen R (Kq o.op L) ++ Ay7 c R L -> R[i]? = R'[i]?) (h : I7 P L cur R c o = some out) :
    out.R=R/\I7 P L cur R' c o=some {out with R:=R'}:=by
  have ht:∀ i,i∈deepen R (Kq o.op L)->R[i]? = R'[i]?:=λ i hi=>ht0 i (bD _ hi)
  unfold I7 at h ⊢
  rw [←Aij ht]
  split at h
  · rename_i v k hv
    simp at h;subst h
    exact⟨rfl,rfl⟩
  · rename_i hv
    obtain⟨dst,op,type,pos,after,guard⟩:=o
    simp only at h ⊢
    cases op with
    | box t x=>simp [Ga] at hq
    | alloc t=>simp [Ga] at hq
    | store t x y=>simp [Ga] at hq
    | makeSlice t x y=>simp [Ga] at hq
    | convert s d x=>
      simp only at h ⊢
      unfold Qt at h ⊢
      split at h
      · split at h
        · simp at h;subst h;exact⟨rfl,rfl⟩
        · cases h
      · cases h
    | buildSlice t len parts=>
      simp only [Ga,aJ] at hq
      simp only at h ⊢
      split at h
      · rename_i ps e1
        unfold G4 at h ⊢
        rw [hq] at h ⊢
        split at h
        · rename_i e hu
          split at h
          · rename_i size zs e2 e3
            cases hb:(Nat.beq zs.length (size+1)&&Nat.ble (len*(size+1)) 16777216) with
            | false=>rw [hb] at h;simp at h
            | true=>
              rw [hb] at h
              simp only [cond_true,cond_false] at h ⊢
              split at h
              · rename_i pd hpd
                simp at h;subst h
                exact⟨rfl,rfl⟩
              · cases h
          · cases h
        · cases h
      · cases h
    | call kk=>
      obtain⟨callee,cargs,argTypes⟩:=kk
      cases callee with
      | invoke r m=>simp at h
      | builtin b=>cases b <;> first | (simp [Ga] at hq;done) | (simp at h;done)
      | value f=>
        simp only [Ga,aB,ac] at hq
        simp only at h ⊢
        split at h
        · rename_i g first caps args e1 e2
          cases c with
          | callB g' q res rows k rw=>
            exact Ad6 (λ x hx i hi=>ht0 i (bE _ (Aic e1 e2 hx hi))) h
          | _=>first
            | (rcases hq with hq | hq
               · simp [Apf] at hq
               · exact Aio hq.1 hq.2 h)
        · cases h
    | _=>simp at h
theorem R6:∀ {l:List Nat} {t:Nat},Pr l t=true↔t∈l
 | [],t=>by simp [Pr]
 | a::r,t=>by
  simp only [Pr,aB,aj,R6]
  constructor
  ·rintro (h | h)
   ·exact .inl (ak h).symm
   ·exact .inr h
  ·rintro (h | h)
   ·subst h;exact .inl (by simp)
   ·exact .inr h
theorem Ad7 {c : Cl} {ts : List TypeId} {j : Nat} {y : AV} {out : Out} {i : Nat} (h : Du P R c ts [.d (.os j), y] = some out) (hi : i < R.length) (hj : i ≠ j) : out.R[i]? = R[i]? := by
 match ts,h with
 | [t, u], h =>
  simp only [Du] at h
  cases hts2:Nat.beq t u with
  | false=>rw [hts2] at h;simp at h
  | true =>
   rw [hts2] at h
   simp only [cond_true] at h
   split at h
   ·split at h
    ·split at h
     ·generalize (Nat.beq _ (_+1))=bb at h
      cases bb with
      | false=>simp at h
      | true=>
       simp only [cond_true] at h
       split at h
       ·generalize (Nat.beq _ _&&Nat.beq _ _)=bb at h
        cases bb with
        | false=>simp at h
        | true=>
         simp at h;subst h
         simp only
         rw [aw (by simpa using hi),aQ (be hj)]
       ·cases h
     ·cases h
    ·cases h
   ·cases h
 | [],h=>simp [Du] at h
 | [_],h=>simp [Du] at h
 | _::_::_::_,h=>simp [Du] at h
theorem Aaa {c:Cl} {ts:List TypeId} {i' g k size off:Nat} {y:AV} {out:Out} {i:Nat} (h:J0 P R c ts i' g k size off y=some out) (hi:i<R.length) (h1:i≠i') (h2:i≠g):out.R[i]? = R[i]?:=by
 unfold J0 at h
 split at h
 ·split at h
  ·generalize ((_&&_:Bool))=bb at h
   cases bb with
   | false=>simp at h
   | true=>
    simp only [cond_true] at h
    split at h
    ·rename_i v' R' a b z m r' hap
     simp at h;subst h
     have:=Ad7 (i:=i) hap (by simp;omega) (by omega)
     simp only at this ⊢
     rw [this,aw (by simpa using hi),aQ (be h1),aQ (be h2)]
    ·cases h
  ·cases h
 ·cases h
theorem zZ {c:Cl} {ts:List TypeId} {i' n s:Nat} {y:AV} {out:Out} {i:Nat} (h:Jz P R c ts i' n s y=some out) (h1:i≠i'):out.R[i]? = R[i]?:=by
 unfold Jz at h
 split at h
 ·generalize (Nat.beq _ _)=bb at h
  cases bb with
  | false=>simp at h
  | true=>
   simp only [cond_true] at h
   split at h
   ·split at h
    ·split at h
     ·generalize (Nat.beq _ _&&Nat.beq _ _)=bb at h
      cases bb with
      | false=>simp at h
      | true=>
       simp at h;subst h
       simp only
       rw [aQ (be h1)]
     ·cases h
    ·cases h
   ·cases h
 ·cases h
theorem Ya {x:AV} {i lo n s:Nat} {a:Operand} (h:Xd R x=some (i,lo,n,s)) (hl:Bw L cur a=some x):i∈Cj L:=by
 unfold Xd at h
 split at h
 ·split at h
  ·simp at h;obtain⟨rfl,_⟩:=h;exact E4 hl
  ·cases h
 ·simp at h;obtain⟨rfl,_⟩:=h;exact N0 hl
 ·cases h
theorem Ain {c:Cl} {ts:List TypeId} {l:List Operand} {args:List AV} {out:Out} {i:Nat} (h:Qu P R c ts args=some out) (hl:D4 L cur l=some args) (h1:i∉Cj L):out.R[i]? = R[i]?:=by
 unfold Qu at h
 split at h
 ·rename_i x
  split at h
  ·split at h
   ·rename_i hd
    split at h
    ·generalize ((_&&_:Bool))=bb at h
     cases bb with
     | false=>simp at h
     | true=>
      simp only [cond_true,al] at h;subst h
      obtain⟨z,hz⟩:=Ey hl (av:=x) (by simp)
      have:=Ya hd hz
      simp only
      rw [aQ]
      rintro rfl
      exact h1 this
    ·cases h
   ·cases h
  ·cases h
 ·cases h
theorem Al6 {c:Cl} {ts:List TypeId} {l:List Operand} {args:List AV} {out:Out} {i:Nat} (h:Vh P R c ts args=some out) (hl:D4 L cur l=some args) (h1:i∉Cj L):out.R[i]? = R[i]?:=by
 unfold Vh at h
 split at h
 ·rename_i x y
  split at h
  ·split at h
   ·rename_i hd
    split at h
    ·generalize ((_&&_:Bool))=bb at h
     cases bb with
     | false=>simp at h
     | true=>
      simp only [cond_true,al] at h;subst h
      obtain⟨z,hz⟩:=Ey hl (av:=x) (by simp)
      have:=Ya hd hz
      simp only
      rw [aQ]
      rintro rfl
      exact h1 this
    ·cases h
   ·cases h
  ·cases h
 ·cases h
theorem Al5 {c:Cl} {o:Oper} {i' k size off n:Nat} {ds:List D} {out:Out} {i:Nat} (h:Vf R c o i' k size off ds n=some out) (hi:i<R.length) (h1:i≠i') (h2:∀ e s g,R[i']? = some (.dsl e s g)->i≠g) (h3:∀ m,ds=[.os m]->i≠m):out.R[i]? = R[i]?:=by
 unfold Vf at h
 split at h
 next e s g m q1 q2 q3 row q4 rows' hj=>
  split at h
  ·split at h
   ·generalize ((_&&_:Bool))=bb at h
    cases bb with
    | false=>simp at h
    | true=>
     simp only [cond_true,al] at h;subst h
     have hgi:=h2 _ _ _ hj
     have hmi:=h3 _ rfl
     simp only
     rw [aw (by simpa using hi),aQ (be h1),aQ (be hgi),aQ (be hmi)]
   ·cases h
  ·cases h
 next=>cases h
theorem Avd {c : Cl} {o : Oper} {out : Out} {i : Nat} {cs : List (Bool × Bool)} (h : I7 P L cur R c o = some out) (hi : i < R.length) (hw : i ∉ Dp ⟨0, o, L, cur, cs, c, R, out, true, false, none⟩) : out.R[i]? = R[i]? := by
  unfold I7 at h
  split at h
  · simp at h;subst h;rfl
  · obtain ⟨dst, op, type, pos, after, guard⟩ := o
    simp only at h
    cases op with
    | box t x=>
      simp only at h
      split at h
      · generalize (Nat.beq _ _)=bb at h
        cases bb with
        | false=>simp at h
        | true=>simp at h;subst h;simp [List.getElem?_append_left hi]
      · cases h
    | alloc t=>
      simp only at h
      split at h
      · simp at h;subst h;simp [List.getElem?_append_left hi]
      · cases h
    | store t x y =>
      simp only at h
      cases hc:cur.isEmpty with
      | false=>rw [hc] at h;simp at h
      | true=>
        rw [hc] at h
        simp only [cond_true] at h
        split at h
        · rename_i j off ds n e1 e2 e3
          split at h
          · generalize (Nat.beq _ _&&Nat.ble _ _&&Option.isNone _)=bb at h
            cases bb with
            | false=>simp at h
            | true=>
              simp at h;subst h
              simp only [Dp,e1,aP] at hw
              simp only
              rw [aQ (be hw)]
          · cases h
        · rename_i j k size off ds n e1 e2 e3
          simp only [Dp,e1,aj,not_or] at hw
          obtain⟨hw1,hw2⟩:=hw
          split at h
          · rename_i out' hput
            simp at h;subst h
            unfold Apm at hput
            split at hput
            · generalize (Nat.beq _ _&&(Nat.beq _ _&&(Nat.ble _ _&&Option.isNone _)))=bb at hput
              cases bb with
              | false=>simp at hput
              | true=>
                simp at hput;subst hput
                simp only
                rw [aQ (be hw1)]
            · cases hput
          · refine Al5 h hi hw1 (λ e s g hj=>?_) (λ m hds=>?_)
            · rintro rfl
              exact hw2 (bD _ (Aiv (Nz e1) hj))
            · rintro rfl
              subst hds
              refine hw2 (bE _ ?_)
              obtain⟨av,h1,h2⟩:=Aw e2
              cases av with
              | d x=>simp [Hy] at h2;subst h2;exact I_ h1 (by simp [AV.touchV,D.touchV])
              | agg l=>simp [Hy] at h2;subst h2;exact I_ h1 (by simp [AV.touchV,D.touchV,cY])
              | tup l=>simp [Hy] at h2
        · cases h
    | buildSlice t len parts=>
      simp only at h
      split at h
      · unfold G4 at h
        split at h
        · split at h
          · generalize (Nat.beq _ _&&Nat.ble _ _)=bb at h
            cases bb with
            | false=>simp at h
            | true=>
              simp only [cond_true] at h
              split at h
              · cases ho:W9 c with
                | true=>rw [ho] at h;simp at h;subst h;simp [List.getElem?_append_left hi]
                | false=>rw [ho] at h;simp at h;subst h;rfl
              · cases h
          · cases h
        · cases h
      · cases h
    | convert s d x=>
      simp only at h
      unfold Qt at h
      split at h
      · split at h
        · simp at h;subst h;rfl
        · cases h
      · cases h
    | makeSlice t x y=>
      simp only at h
      generalize (Kt x y)=bb at h
      cases bb with
      | false=>simp at h
      | true=>
        simp only [cond_true] at h
        unfold L8 at h
        split at h
        · split at h
          · split at h
            · generalize (Nat.beq _ _)=bb at h
              cases bb with
              | false=>simp at h
              | true=>simp at h;subst h;simp [List.getElem?_append_left hi]
            · cases h
          · cases h
        · split at h
          · split at h
            · generalize (Nat.beq _ _&&_)=bb at h
              cases bb with
              | false=>simp at h
              | true=>simp at h;subst h;simp [List.getElem?_append_left hi]
            · cases h
          · cases h
        · cases h
    | call kk =>
      obtain⟨callee,cargs,argTypes⟩:=kk
      cases callee with
      | invoke r m=>simp at h
      | builtin b=>
        cases b <;> first
          | (simp at h;done)
          | (simp only at h
             split at h
             · rename_i args e1
               first
                 | exact Ain h e1 (by simpa [Dp] using hw)
                 | exact Al6 h e1 (by simpa [Dp] using hw)
             · cases h
             done)
          | (simp only at h
             split at h
             · rename_i i' g q size off y e1
               have hall:=e1
               obtain⟨z,hz⟩:=Ey e1 (av:=.d (.oi i' g q size off)) (by simp)
               obtain⟨hi1,hg1⟩:=Ad1 hz
               have hii:i≠i':=by rintro rfl;exact hw (by simpa [Dp] using hi1)
               have hig:i≠g:=by rintro rfl;exact hw (by simpa [Dp] using hg1)
               exact Aaa h hi hii hig
             · rename_i i' n s y e1
               obtain⟨z,hz⟩:=Ey e1 (av:=.d (.osb i' 0 n s)) (by simp)
               have hi1:=N0 hz
               have hii:i≠i':=by rintro rfl;exact hw (by simpa [Dp] using hi1)
               exact zZ h hii
             · rename_i args _ _ e1
               unfold Du at h
               split at h
               · rename_i t u x y hts
                 generalize (Nat.beq _ _)=bb at h
                 cases bb with
                 | false=>simp at h
                 | true=>
                   simp only [cond_true] at h
                   split at h
                   · split at h
                     · split at h
                       · generalize (Nat.beq _ _)=bb at h
                         cases bb with
                         | false=>simp at h
                         | true=>
                           simp only [cond_true] at h
                           split at h
                           · simp at h;subst h;simp [List.getElem?_append_left hi]
                           · rename_i j
                             split at h
                             · generalize (Nat.beq _ _&&Nat.beq _ _)=bb at h
                               cases bb with
                               | false=>simp at h
                               | true=>
                                 simp at h;subst h
                                 obtain⟨z,hz⟩:=Ey e1 (av:=.d (.os _)) ag
                                 have hj:=E4 hz
                                 simp only
                                 rw [aw (by simpa using hi),aQ]
                                 rintro rfl
                                 refine hw ?_
                                 simpa [Dp] using hj
                             · cases h
                           · cases h
                       · cases h
                     · cases h
                   · cases h
               · cases h
             · cases h)
      | value f =>
        simp only at h
        split at h
        · rename_i g first caps args e1 e2
          cases c with
          | call f' q1 q2 res R2 pi =>
            simp only [Gi] at h
            generalize (Nat.beq g f'&&Fj pi&&Nat.ble pi.length R2.length)=bb at h
            cases bb with
            | false=>simp at h
            | true=>
              simp only [cond_true] at h
              split at h
              · split at h
                · rename_i Rp2 res2 RR e3 e4 e5
                  simp at h;subst h
                  simp only [Dp] at hw
                  simp only
                  rw [aw (by rw [E9];exact hi)]
                  cases hg:R[i]? with
                  | none=>rw [List.getElem?_eq_none_iff] at hg;omega
                  | some r=>
                    have hlt:i<(E1 R pi RR).length:=by rw [E9];exact hi
                    rcases Ro pi R _ i _ (af hlt) with⟨j,h1,_⟩ | ⟨h1,_⟩
                    · exact absurd (ae h1) hw
                    · rw [af hlt,←h1,hg]
                · cases h
              · cases h
          | callB f' q1 res rows0 k0 rw0=>
            simp only [Gi] at h
            generalize (Nat.beq g f'&&res.flat)=bb at h
            cases bb with
            | false=>simp at h
            | true=>
              simp only [cond_true] at h
              split at h
              · split at h
                · simp at h;subst h;rfl
                · cases h
              · split at h
                · simp at h;subst h;rfl
                · cases h
              · cases h
          | _=>simp [Gi] at h
        · cases h
    | _=>simp at h
end
end Go.SL
