import Derived.Test.YtaplakgdkkmpfaaGreatDoorSlO
namespace Go.SL
section
variable {P:Program} {C:Ctx} {S S':Nat->Prop} {w w':World} {ρ ρ':List Value} {R R':List Res} {L:List Ent} {cur:A6} {a:Act}
theorem Ot:∀ {L:List Ent} {e:Ent} {i off:Nat},e∈L->e.v = .d (.o i off)->i∈Ay L
 | x::r,e,i,off,h,hv=>by
  rcases ag.1 h with rfl | h
  ·simp [Ay,hv]
  ·have:=Ot h hv
   unfold Ay;split <;> simp [this]
 | [],_,_,_,h,_=>by cases h
theorem La:∀ {L:List Ent} {e:Ent} {i:Nat},e∈L->e.v = .d (.os i)->i∈Ay L
 | x::r,e,i,h,hv=>by
  rcases ag.1 h with rfl | h
  ·simp [Ay,hv]
  ·have:=La h hv
   unfold Ay;split <;> simp [this]
 | [],_,_,h,_=>by cases h
theorem Lb:∀ {L:List Ent} {e:Ent} {i a b c:Nat},e∈L->e.v = .d (.oe i a b c)->i∈Ay L
 | x::r,e,i,a,b,c,h,hv=>by
  rcases ag.1 h with rfl | h
  ·simp [Ay,hv]
  ·have:=Lb h hv
   unfold Ay;split <;> simp [this]
 | [],_,_,_,_,_,h,_=>by cases h
theorem Lc:∀ {L:List Ent} {e:Ent} {i a b c:Nat},e∈L->e.v = .d (.osb i a b c)->i∈Ay L
 | x::r,e,i,a,b,c,h,hv=>by
  rcases ag.1 h with rfl | h
  ·simp [Ay,hv]
  ·have:=Lc h hv
   unfold Ay;split <;> simp [this]
 | [],_,_,_,_,_,h,_=>by cases h
theorem Jl:∀ {L:List Ent} {e:Ent} {i g a b c:Nat},e∈L->e.v = .d (.oi i g a b c)->i∈Ay L/\g∈Ay L
 | x::r,e,i,g,a,b,c,h,hv=>by
  rcases ag.1 h with rfl | h
  ·simp [Ay,hv]
  ·have:=Jl h hv
   unfold Ay;split <;> simp [this]
 | [],_,_,_,_,_,_,h,_=>by cases h
theorem M7 {i g e s:Nat}:∀ {l:List Nat},i∈l->R[i]? = some (.dsl e s g)->g∈H2 R l
 | [],h,_=>by cases h
 | j::l,h,hi=>by
  rcases ag.1 h with rfl | h
  ·simp [H2,hi]
  ·have:=M7 h hi
   unfold H2;split <;> simp [this]
theorem Uw {i:Nat} {l:List Nat} (h:i∈l):i∈deepen R l:=bd _ h
theorem Ro {i g e s:Nat} {l:List Nat} (h:i∈l) (hi:R[i]? = some (.dsl e s g)):g∈deepen R l:=be _ (M7 h hi)
theorem Ia {v:Value} {i off a b c:Nat}:G1 v≠some (.d (.o i off))/\G1 v≠some (.d (.os i))/\G1 v≠some (.d (.oe i a b c))/\G1 v≠some (.d (.osb i a b c))/\∀ g,G1 v≠some (.d (.oi i g a b c)):=by
 unfold G1
 split
 ·refine⟨?_,?_,?_,?_,λ _=>?_⟩ <;> (cases Cc (_:Array Value).toList <;> simp)
 ·simp
 ·refine⟨?_,?_,?_,?_,λ _=>?_⟩ <;>
  ·cases h:dOf v with
   | none=>simp
   | some d=>
    unfold dOf at h
    cases hb:v.oneCell' with
    | true=>rw [hb] at h;simp at h;subst h;simp
    | false=>rw [hb] at h;simp at h
theorem Uc {x:Operand} {i off:Nat} (h:Am L cur x=some (.d (.o i off))):i∈Ay L:=by
 unfold Am at h
 split at h
 ·exact absurd h (Ia (a:=0) (b:=0) (c:=0)).1
 ·split at h
  ·rename_i e he
   cases hb:Cm e.p cur with
   | false=>rw [hb] at h;simp at h
   | true=>rw [hb] at h;simp at h;exact Ot (Bi he).1 h
  ·cases h
 ·simp at h
 ·cases h
theorem Bz {x:Operand} {i:Nat} (h:Am L cur x=some (.d (.os i))):i∈Ay L:=by
 unfold Am at h
 split at h
 ·exact absurd h (Ia (off:=0) (a:=0) (b:=0) (c:=0)).2.1
 ·split at h
  ·rename_i e he
   cases hb:Cm e.p cur with
   | false=>rw [hb] at h;simp at h
   | true=>rw [hb] at h;simp at h;exact La (Bi he).1 h
  ·cases h
 ·simp at h
 ·cases h
theorem Gq {x:Operand} {i k s off:Nat} (h:Am L cur x=some (.d (.oe i k s off))):i∈Ay L:=by
 unfold Am at h
 split at h
 ·exact absurd h (Ia (off:=0)).2.2.1
 ·split at h
  ·rename_i e he
   cases hb:Cm e.p cur with
   | false=>rw [hb] at h;simp at h
   | true=>rw [hb] at h;simp at h;exact Lb (Bi he).1 h
  ·cases h
 ·simp at h
 ·cases h
theorem Gr {x:Operand} {i k s off:Nat} (h:Am L cur x=some (.d (.osb i k s off))):i∈Ay L:=by
 unfold Am at h
 split at h
 ·exact absurd h (Ia (off:=0)).2.2.2.1
 ·split at h
  ·rename_i e he
   cases hb:Cm e.p cur with
   | false=>rw [hb] at h;simp at h
   | true=>rw [hb] at h;simp at h;exact Lc (Bi he).1 h
  ·cases h
 ·simp at h
 ·cases h
theorem Pm {x:Operand} {i g k s off:Nat} (h:Am L cur x=some (.d (.oi i g k s off))):i∈Ay L/\g∈Ay L:=by
 unfold Am at h
 split at h
 ·exact absurd h ((Ia (off:=0)).2.2.2.2 g)
 ·split at h
  ·rename_i e he
   cases hb:Cm e.p cur with
   | false=>rw [hb] at h;simp at h
   | true=>rw [hb] at h;simp at h;exact Jl (Bi he).1 h
  ·cases h
 ·simp at h
 ·cases h
theorem B4:∀ {l:List Operand} {avs:List AV} {av:AV},Bv L cur l=some avs->av∈avs->∃ x,Am L cur x=some av
 | [],avs,av,h,hm=>by simp [Bv] at h;subst h;cases hm
 | x::r,avs,av,h,hm=>by
  simp only [Bv] at h
  split at h
  ·rename_i v l h1 h2
   simp at h;subst h
   rcases ag.1 hm with rfl | hm
   ·exact⟨x,h1⟩
   ·exact B4 h2 hm
  ·cases h
theorem Ri {args:List AV} (h:∀ i,AV.d (.os i)∈args->R[i]? = R'[i]?) (hg:∀ i e s g,AV.d (.os i)∈args->R[i]? = some (.dsl e s g)->R[g]? = R'[g]?):Fp R args=Fp R' args:=by
 unfold Fp
 split
 ·rfl
 ·rfl
 ·rename_i i
  rw [←h i (by simp)]
  split
  ·rfl
  ·rename_i e s g hd
   rw [hg i e s g (by simp) hd]
  ·rfl
 ·rfl
 ·rfl
theorem Re {c:Cl} {op:Op} (h0:∀ i,i∈deepen R (E4 op L)->R[i]? = R'[i]?):Ap P L cur R c op=Ap P L cur R' c op:=by
 have h:∀ i,i∈E4 op L->R[i]? = R'[i]?:=λ i hi=>h0 i (Uw hi)
 have hgh:∀ i e s g,i∈E4 op L->R[i]? = some (.dsl e s g)->R[g]? = R'[g]?:=λ i e s g hi hd=>h0 g (Ro hi hd)
 cases op with
 | load t x=>
  by_cases hg:∃ g,x = .global g
  ·obtain⟨g,rfl⟩:=hg
   rfl
  have e:∀ R,Ap P L cur R c (.load t x)=J_ P L cur R c t x:=λ R=>by
   cases x with
   | global g=>exact absurd ⟨g,rfl⟩ hg
   | _=>rfl
  rw [e,e]
  unfold J_
  split
  ·rename_i i off n e1 e2
   rw [h i (Uc e1)]
  ·rfl
  ·rename_i i k size off n e1 e2
   rw [←h i (Gq e1)]
   split
   ·rfl
   ·rename_i e s g _ _ _ hd
    rw [hgh i _ _ _ (Gq e1) hd]
   ·rfl
  ·rfl
 | convert s d x=>
  simp only [Ap]
  unfold M_
  split
  ·rfl
  ·split
   ·split
    ·rename_i i e1 e2
     rw [h i (Bz e2)]
    ·rfl
    ·rfl
   ·rfl
 | indexAddr t x i=>
  simp only [Ap]
  unfold Un
  split
  ·rfl
  ·rename_i e j ik n e1 e2 e3
   rw [←h j (Bz e2)]
   split
   ·rfl
   ·rename_i e s g _ _ _ hd
    rw [hgh j _ _ _ (Bz e2) hd]
   ·rfl
  ·rfl
  ·rfl
  ·rfl
 | call k=>
  simp only [Ap]
  split
  ·split
   ·rename_i args e1
    split
    ·split
     ·rw [Ri (R':=R') (λ i hi=>by
       obtain⟨x,hx⟩:=B4 e1 hi
       exact h i (Bz hx)) (λ i e s g hi hd=>by
       obtain⟨x,hx⟩:=B4 e1 hi
       exact hgh i e s g (Bz hx) hd)]
     ·rfl
     ·rfl
    ·rfl
   ·rfl
  ·rfl
 | slice t x lo hi mx=>
  cases mx with
  | none=>
   simp only [Ap]
   split
   ·rfl
   ·rename_i e i e1 e2
    rw [h i (Bz e2)]
   ·rename_i e i o0 n0 s0 e1 e2
    rw [h i (Gr e2)]
   ·rfl
   ·rfl
  | some mx=>
   cases lo with
   | none=>rfl
   | some lo=>
    cases hi with
    | none=>rfl
    | some hi=>
     simp only [Ap]
     split
     ·rename_i e i e1 e2
      rw [h i (Bz e2)]
     ·rfl
 | _=>rfl
mutual
theorem O_ (f:Nat->Option Nat):∀ (d d':D),D.ren (λ _=>none) d=some d'->D.ren f d=some d'
 | .p x,d',h=>h
 | .o i off,d',h=>by simp [D.ren] at h
 | .os i,d',h=>by simp [D.ren] at h
 | .oe i k s off,d',h=>by simp [D.ren] at h
 | .ip c,d',h=>h
 | .any,d',h=>h
 | .nq _,d',h=>h
 | .osb _ _ _ _,d',h=>by simp [D.ren] at h
 | .oi _ _ _ _ _,d',h=>by simp [D.ren] at h
 | .fn g a b,d',h=>by
  simp only [D.ren] at h ⊢
  split at h
  ·rename_i a' b' h1 h2
   rw [F_ f a a' h1,F_ f b b' h2]
   exact h
  ·cases h
theorem F_ (f:Nat->Option Nat):∀ (l l':List D),D.renL (λ _=>none) l=some l'->D.renL f l=some l'
 | [],l',h=>h
 | d::r,l',h=>by
  simp only [D.renL] at h ⊢
  split at h
  ·rename_i d' r' h1 h2
   rw [O_ f d d' h1,F_ f r r' h2]
   exact h
  ·cases h
end
mutual
theorem Nt (f:Nat->Option Nat):∀ (d d':AV),AV.ren (λ _=>none) d=some d'->AV.ren f d=some d'
 | .d x,d',h=>by
  simp only [AV.ren] at h ⊢
  split at h
  ·rename_i y hy
   rw [O_ f x y hy];exact h
  ·cases h
 | .agg ds,d',h=>by
  simp only [AV.ren] at h ⊢
  split at h
  ·rename_i y hy
   rw [F_ f ds y hy];exact h
  ·cases h
 | .tup l,d',h=>by
  simp only [AV.ren] at h ⊢
  split at h
  ·rename_i y hy
   rw [Lv f l y hy];exact h
  ·cases h
theorem Lv (f:Nat->Option Nat):∀ (l l':List AV),AV.renL (λ _=>none) l=some l'->AV.renL f l=some l'
 | [],l',h=>h
 | d::r,l',h=>by
  simp only [AV.renL] at h ⊢
  split at h
  ·rename_i d' r' h1 h2
   rw [Nt f d d' h1,Lv f r r' h2]
   exact h
  ·cases h
end
theorem Rk {args:List AV} {f:FuncId} {c:Cl} {out:Out} (hn:T9 c=true) (hc:Pe c=true)
  (h:Cu R args f c=some out):out.R=R/\Cu R' args f c=some {out with R:=R'}:=by
 unfold T9 at hn
 split at hn
 ·rename_i g q1 q2 res R2 pi
  simp only [af,bK] at hn
  obtain⟨rfl,rfl⟩:=hn
  obtain⟨res',hres⟩:=Option.isSome_iff_exists.1 hc
  unfold Cu at h ⊢
  simp only at h ⊢
  generalize hbb:(Nat.beq f g&&Cf []&&Nat.ble ([]:List Nat).length ([]:List Res).length)=bb at h ⊢
  cases bb with
  | false=>simp at h
  | true=>
   simp only [cond_true] at h ⊢
   split at h
   ·rename_i a' Rp e1 e2
    rw [e1]
    simp only [Er] at e2 ⊢
    simp only [ah] at e2
    subst e2
    simp only [Dr,Nt _ res res' hres] at h ⊢
    simp at h;subst h
    simp [B5]
   ·cases h
 ·cases hn
theorem Je:∀ {l:List D},(∀ i,i∈N2 l->R[i]? = R'[i]?)->Da R l=Da R' l
 | [],_=>rfl
 | d::r,h=>by
  have ih:Da R r=Da R' r:=Je λ i hi=>h i (by cases d <;> simp [N2,hi])
  have hd:Em R d=Em R' d:=by
   cases d with
   | os i=>simp only [Em];rw [h i (by simp [N2])]
   | _=>rfl
  simp only [Da,ih,hd]
mutual
theorem Lw {rw:List Pd}:∀ {d:D},(∀ i,i∈d.touchV R->R[i]? = R'[i]?)->d.view R rw=d.view R' rw
 | .p _,_=>rfl
 | .ip _,_=>rfl
 | .any,_=>rfl
 | .nq _,_=>rfl
 | .oe _ _ _ _,_=>rfl
 | .osb i _ _ _,h=>by simp only [D.view];rw [h i (by simp [D.touchV])]
 | .oi _ g _ _ _,h=>by simp only [D.view];rw [h g (by simp [D.touchV])]
 | .os i,h=>by simp only [D.view];rw [h i (by simp [D.touchV])]
 | .o i off,h=>by
  have h0:=h i (by simp [D.touchV])
  simp only [D.view]
  rw [←h0]
  cases hi:R[i]? with
  | none=>rfl
  | some r=>cases r with
   | box t cells=>
    simp only
    rw [Je (R':=R') λ k hk=>h k (by simp only [D.touchV,hi];exact ai _ hk)]
   | _=>rfl
 | .fn g a b,h=>by
  have h1:=E1 (rw:=rw) (l:=a) λ i hi=>h i (by simp only [D.touchV];exact bd _ hi)
  have h2:=E1 (rw:=rw) (l:=b) λ i hi=>h i (by simp only [D.touchV];exact be _ hi)
  simp only [D.view,h1,h2]
theorem E1 {rw:List Pd}:∀ {l:List D},(∀ i,i∈c6 R l->R[i]? = R'[i]?)->D.viewL R rw l=D.viewL R' rw l
 | [],_=>rfl
 | d::r,h=>by
  have h1:=Lw (rw:=rw) (d:=d) λ i hi=>h i (by simp only [c6];exact bd _ hi)
  have h2:=E1 (rw:=rw) (l:=r) λ i hi=>h i (by simp only [c6];exact be _ hi)
  simp only [D.viewL,h1,h2]
end
theorem Sn {rw:List Pd} {x:AV} (h:∀ i,i∈x.touchV R->R[i]? = R'[i]?):x.view R rw=x.view R' rw:=by
 cases x with
 | d x=>simp only [AV.view];rw [Lw (R':=R') h]
 | agg l=>simp only [AV.view];rw [E1 (R':=R') h]
 | tup l=>rfl
theorem Jh {rw:List Pd}:∀ {l:List AV},(∀ x,x∈l->∀ i,i∈x.touchV R->R[i]? = R'[i]?)->AV.viewL R rw l=AV.viewL R' rw l
 | [],_=>rfl
 | x::r,h=>by
  have h1:=Sn (rw:=rw) (x:=x) (h x ak)
  have h2:=Jh (rw:=rw) (l:=r) λ y hy=>h y (ai _ hy)
  simp only [AV.viewL,h1,h2]
theorem Mq {e:Ent} {i:Nat}:∀ {L:List Ent},e∈L->i∈e.v.touchV R->i∈touchV R L
 | [],h,_=>by cases h
 | x::r,h,hi=>by
  simp only [touchV]
  rcases ag.1 h with rfl | h
  ·exact bd _ hi
  ·exact be _ (Mq h hi)
theorem Tt {i:Nat}:∀ {l:List Value} {ds:List D},Cc l=some ds->i∉c6 R ds
 | [],ds,h=>by simp [Cc] at h;subst h;simp [c6]
 | v::l,ds,h=>by
  simp only [Cc] at h
  split at h
  ·rename_i d r h1 h2
   simp at h;subst h
   unfold dOf at h1
   cases hb:v.oneCell' with
   | false=>rw [hb] at h1;simp at h1
   | true=>rw [hb] at h1;simp at h1;subst h1;simpa [c6,D.touchV] using Tt h2
  ·cases h
theorem U2 {v:Value} {x:AV} {i:Nat} (h:G1 v=some x):i∉x.touchV R:=by
 unfold G1 at h
 split at h
 ·cases hd:Cc (_:Array Value).toList with
  | none=>rw [hd] at h;cases h
  | some ds=>rw [hd] at h;simp at h;subst h;exact Tt hd
 ·cases h
 ·cases hd:dOf v with
  | none=>rw [hd] at h;cases h
  | some d=>
   rw [hd] at h;simp at h;subst h
   unfold dOf at hd
   cases hb:v.oneCell' with
   | false=>rw [hb] at hd;simp at hd
   | true=>rw [hb] at hd;simp at hd;subst hd;simp [AV.touchV,D.touchV]
theorem Dy {x:Operand} {v:AV} {i:Nat} (h:Am L cur x=some v) (hi:i∈v.touchV R):i∈touchV R L:=by
 unfold Am at h
 split at h
 ·exact absurd hi (U2 h)
 ·split at h
  ·rename_i e he
   cases hb:Cm e.p cur with
   | false=>rw [hb] at h;simp at h
   | true=>rw [hb] at h;simp at h;subst h;exact Mq (Bi he).1 hi
  ·cases h
 ·simp at h;subst h;simp [AV.touchV,D.touchV,c6] at hi
 ·cases h
theorem Ke {d:D}:d.norm.touchV R=d.touchV R:=by
 unfold D.norm;split <;> rfl
theorem Jf:∀ {l:List D},c6 R (l.map D.norm)=c6 R l
 | []=>rfl
 | d::r=>by simp only [aJ,c6,Ke,Jf]
theorem Sw {x:AV}:x.norm.touchV R=x.touchV R:=by
 cases x with
 | d x=>exact Ke
 | agg l=>exact Jf
 | tup l=>rfl
theorem F0 {g k:Nat}:∀ {d:D},(g,k)∈d.ois->g∈d.touchV R
 | .oi _ _ _ _ _,h=>by simp [D.ois] at h;simp [D.touchV,h.1]
 | .fn f a b,h=>by
  have key:∀ {l:List D},(∀ d,d∈l->(g,k)∈d.ois->g∈d.touchV R)->(g,k)∈cd l->g∈c6 R l:=by
   intro l
   induction l with
   | nil=>intro _ h;simp [cd] at h
   | cons d l ih=>
    intro hh h
    simp only [cd,az] at h
    simp only [c6,az]
    rcases h with h | h
    ·exact .inl (hh d ak h)
    ·exact .inr (ih (λ d hd=>hh d (ai _ hd)) h)
  simp only [D.ois,az] at h
  simp only [D.touchV,az]
  rcases h with h | h
  ·exact .inl (key (λ d _ h=>F0 h) h)
  ·exact .inr (key (λ d _ h=>F0 h) h)
 | .p _,h=>by simp [D.ois] at h
 | .o _ _,h=>by simp [D.ois] at h
 | .os _,h=>by simp [D.ois] at h
 | .oe _ _ _ _,h=>by simp [D.ois] at h
 | .osb _ _ _ _,h=>by simp [D.ois] at h
 | .ip _,h=>by simp [D.ois] at h
 | .any,h=>by simp [D.ois] at h
 | .nq _,h=>by simp [D.ois] at h
theorem Jw {g k:Nat}:∀ {l:List D},(g,k)∈cd l->g∈c6 R l
 | [],h=>by simp [cd] at h
 | d::l,h=>by
  simp only [cd,az] at h
  simp only [c6,az]
  exact h.imp F0 Jw
theorem Lk {g k:Nat}:∀ {l:List AV},(g,k)∈oisL l->∃ x,x∈l/\g∈x.touchV R
 | [],h=>by simp [oisL] at h
 | x::l,h=>by
  simp only [oisL,az] at h
  rcases h with h | h
  ·refine⟨x,ak,?_⟩
   cases x with
   | d x=>exact F0 h
   | agg l=>exact Jw h
   | tup l=>simp [AV.ois] at h
  ·obtain⟨y,h1,h2⟩:=Lk h
   exact⟨y,ai _ h1,h2⟩
theorem Pn {args:List AV} {f g:FuncId} {q:List AV} {res:AV} {rows:List (List Pd)} {k:Nat} {rw:List Pd} {out:Out} (ht:∀ x,x∈args->∀ i,i∈x.touchV R->R[i]? = R'[i]?)
  (h:Cu R args f (.callB g q res rows k rw)=some out):out.R=R/\Cu R' args f (.callB g q res rows k rw)=some {out with R:=R'}:=by
 simp only [Cu] at h ⊢
 generalize (Nat.beq f g&&res.flat)=bb at h ⊢
 have hview:∀ rw,AV.viewL R rw (args.map AV.norm)=AV.viewL R' rw (args.map AV.norm):=λ rw=>Jh (R:=R) (R':=R') (l:=args.map AV.norm) λ x hx i hi=>by
  obtain⟨y,hy,rfl⟩:=aK.1 hx
  rw [Sw] at hi
  exact ht y hy i hi
 cases bb with
 | false=>simp at h
 | true=>
  simp only [cond_true] at h ⊢
  split at h
  ·rw [←hview]
   split at h
   ·rename_i a' e1
    simp at h;subst h
    exact⟨rfl,rfl⟩
   ·cases h
  ·rename_i g0 k0 ho
   obtain⟨x,h1,h2⟩:=Lk (R:=R) (l:=args) (g:=g0) (k:=k0) (by rw [ho];simp)
   rw [←hview,←ht x h1 g0 h2]
   split at h
   ·simp at h;subst h
    exact⟨rfl,rfl⟩
   ·cases h
  ·cases h
theorem Q9 {g:Fn} {first caps:List D} {args:List AV} {x:AV} {i:Nat} {f:Operand} {l:List Operand} (e1:Am L cur f=some (.d (.fn g first caps))) (e2:Bv L cur l=some args)
  (hx:x∈first.map AV.d++args++caps.map AV.d) (hi:i∈x.touchV R):i∈touchV R L:=by
 have hd:∀ {ds:List D} {d:D},d∈ds->i∈d.touchV R->i∈c6 R ds:=by
  intro ds
  induction ds with
  | nil=>intro d h;cases h
  | cons a r ih=>
   intro d h hi
   simp only [c6]
   rcases ag.1 h with rfl | h
   ·exact bd _ hi
   ·exact be _ (ih h hi)
 rcases az.1 hx with hx | hx
 ·rcases az.1 hx with hx | hx
  ·obtain⟨d,hm,rfl⟩:=aK.1 hx
   exact Dy e1 (by simp only [AV.touchV,D.touchV];exact bd _ (hd hm hi))
  ·obtain⟨z,hz⟩:=B4 e2 hx
   exact Dy hz hi
 ·obtain⟨d,hm,rfl⟩:=aK.1 hx
  exact Dy e1 (by simp only [AV.touchV,D.touchV];exact be _ (hd hm hi))
theorem Li {c : Cl} {o : Oper} {out : Out} (hq : Ck c o = true) (ht0 : ∀ i, i ∈ deepen R (E4 o.op L) ++ Yr c R L -> R[i]? = R'[i]?) (h : Dw P L cur R c o = some out) :
    out.R=R/\Dw P L cur R' c o=some {out with R:=R'}:=by
  have ht:∀ i,i∈deepen R (E4 o.op L)->R[i]? = R'[i]?:=λ i hi=>ht0 i (bd _ hi)
  unfold Dw at h ⊢
  rw [←Re ht]
  split at h
  · rename_i v k hv
    simp at h;subst h
    exact⟨rfl,rfl⟩
  · rename_i hv
    obtain⟨dst,op,type,pos,after,guard⟩:=o
    simp only at h ⊢
    cases op with
    | box t x=>simp [Ck] at hq
    | alloc t=>simp [Ck] at hq
    | store t x y=>simp [Ck] at hq
    | makeSlice t x y=>simp [Ck] at hq
    | convert s d x=>
      simp only [Ck,br] at hq
      simp only at h ⊢
      have hO:∀ R' x,Ge P R' c s d x=none:=λ R' x=>by
        unfold Ge
        split
        · simp [isZ] at hq
        · rfl
      have hB:∀ R' x,Gf P R' c s d x=none:=λ R' x=>by
        unfold Gf
        split
        · simp [isZ] at hq
        · rfl
      unfold H5 at h ⊢
      rw [hO,hB] at h ⊢
      split at h
      · rename_i o1 h0
        cases h
        unfold Kb at h0 ⊢
        split at h0
        · split at h0
          · rename_i he
            simp at h0;subst h0
            exact⟨rfl,rfl⟩
          · cases h0
        · cases h0
      · cases h
    | buildSlice t len parts=>
      simp only [Ck,br] at hq
      simp only at h ⊢
      split at h
      · rename_i ps e1
        unfold C3 at h ⊢
        rw [hq] at h ⊢
        split at h
        · rename_i e hu
          split at h
          · rename_i size zs e2 e3
            cases hb:(Nat.beq zs.length (size+1)&&Nat.ble (len*(size+1)) 16777216) with
            | false=>rw [hb] at h;simp at h
            | true=>
              rw [hb] at h
              simp only [cond_true,cond_false] at h ⊢
              split at h
              · rename_i pd hpd
                simp at h;subst h
                exact⟨rfl,rfl⟩
              · cases h
          · cases h
        · cases h
      · cases h
    | call kk=>
      obtain⟨callee,cargs,argTypes⟩:=kk
      cases callee with
      | invoke r m=>simp at h
      | builtin b=>cases b <;> first | (simp [Ck] at hq;done) | (simp at h;done)
      | value f=>
        simp only [Ck,aR,af] at hq
        simp only at h ⊢
        split at h
        · rename_i g first caps args e1 e2
          cases c with
          | callB g' q res rows k rw=>
            exact Pn (λ x hx i hi=>ht0 i (be _ (Q9 e1 e2 hx hi))) h
          | _=>first
            | (rcases hq with hq | hq
               · simp [Uh] at hq
               · exact Rk hq.1 hq.2 h)
        · cases h
    | _=>simp at h
theorem L8:∀ {l:List Nat} {t:Nat},J0 l t=true↔t∈l
 | [],t=>by simp [J0]
 | a::r,t=>by
  simp only [J0,aR,ag,L8]
  constructor
  ·rintro (h | h)
   ·exact .inl (ac h).symm
   ·exact .inr h
  ·rintro (h | h)
   ·subst h;exact .inl (by simp)
   ·exact .inr h
theorem Po {c : Cl} {ts : List TypeId} {j : Nat} {y : AV} {out : Out} {i : Nat} (h : Bj P R c ts [.d (.os j), y] = some out) (hi : i < R.length) (hj : i ≠ j) : out.R[i]? = R[i]? := by
 match ts,h with
 | [t, u], h =>
  simp only [Bj] at h
  cases hts2:Nat.beq t u with
  | false=>rw [hts2] at h;simp at h
  | true =>
   rw [hts2] at h
   simp only [cond_true] at h
   split at h
   ·split at h
    ·split at h
     ·generalize (Nat.beq _ (_+1))=bb at h
      cases bb with
      | false=>simp at h
      | true=>
       simp only [cond_true] at h
       split at h
       ·generalize (Nat.beq _ _&&Nat.beq _ _)=bb at h
        cases bb with
        | false=>simp at h
        | true=>
         simp at h;subst h
         simp only
         rw [an (by simpa using hi),aD (aE hj)]
       ·cases h
     ·cases h
    ·cases h
   ·cases h
 | [],h=>simp [Bj] at h
 | [_],h=>simp [Bj] at h
 | _::_::_::_,h=>simp [Bj] at h
theorem Ob {c:Cl} {ts:List TypeId} {i' g k size off:Nat} {y:AV} {out:Out} {i:Nat} (h:Ei P R c ts i' g k size off y=some out) (hi:i<R.length) (h1:i≠i') (h2:i≠g):out.R[i]? = R[i]?:=by
 unfold Ei at h
 split at h
 ·split at h
  ·generalize ((_&&_:Bool))=bb at h
   cases bb with
   | false=>simp at h
   | true=>
    simp only [cond_true] at h
    split at h
    ·rename_i v' R' a b z m r' hap
     simp at h;subst h
     have:=Po (i:=i) hap (by simp;omega) (by omega)
     simp only at this ⊢
     rw [this,an (by simpa using hi),aD (aE h1),aD (aE h2)]
    ·cases h
  ·cases h
 ·cases h
theorem Oa {c:Cl} {ts:List TypeId} {i' n s:Nat} {y:AV} {out:Out} {i:Nat} (h:Eh P R c ts i' n s y=some out) (h1:i≠i'):out.R[i]? = R[i]?:=by
 unfold Eh at h
 split at h
 ·generalize (Nat.beq _ _)=bb at h
  cases bb with
  | false=>simp at h
  | true=>
   simp only [cond_true] at h
   split at h
   ·split at h
    ·split at h
     ·generalize (Nat.beq _ _&&Nat.beq _ _)=bb at h
      cases bb with
      | false=>simp at h
      | true=>
       simp at h;subst h
       simp only
       rw [aD (aE h1)]
     ·cases h
    ·cases h
   ·cases h
 ·cases h
theorem Lq {x:AV} {i lo n s:Nat} {a:Operand} (h:K2 R x=some (i,lo,n,s)) (hl:Am L cur a=some x):i∈Ay L:=by
 unfold K2 at h
 split at h
 ·split at h
  ·simp at h;obtain⟨rfl,_⟩:=h;exact Bz hl
  ·cases h
 ·simp at h;obtain⟨rfl,_⟩:=h;exact Gr hl
 ·cases h
theorem Rj {c:Cl} {ts:List TypeId} {l:List Operand} {args:List AV} {out:Out} {i:Nat} (h:H6 P R c ts args=some out) (hl:Bv L cur l=some args) (h1:i∉Ay L):out.R[i]? = R[i]?:=by
 unfold H6 at h
 split at h
 ·rename_i x
  split at h
  ·split at h
   ·rename_i hd
    split at h
    ·generalize ((_&&_:Bool))=bb at h
     cases bb with
     | false=>simp at h
     | true=>
      simp only [cond_true,ah] at h;subst h
      obtain⟨z,hz⟩:=B4 hl (av:=x) (by simp)
      have:=Lq hd hz
      simp only
      rw [aD]
      rintro rfl
      exact h1 this
    ·cases h
   ·cases h
  ·cases h
 ·cases h
theorem S5 {c:Cl} {ts:List TypeId} {l:List Operand} {args:List AV} {out:Out} {i:Nat} (h:Ka P R c ts args=some out) (hl:Bv L cur l=some args) (h1:i∉Ay L):out.R[i]? = R[i]?:=by
 unfold Ka at h
 split at h
 ·rename_i x y
  split at h
  ·split at h
   ·rename_i hd
    split at h
    ·generalize ((_&&_:Bool))=bb at h
     cases bb with
     | false=>simp at h
     | true=>
      simp only [cond_true,ah] at h;subst h
      obtain⟨z,hz⟩:=B4 hl (av:=x) (by simp)
      have:=Lq hd hz
      simp only
      rw [aD]
      rintro rfl
      exact h1 this
    ·cases h
   ·cases h
  ·cases h
 ·cases h
theorem S4 {c:Cl} {o:Oper} {i' k size off n:Nat} {ds:List D} {out:Out} {i:Nat} (h:J9 R c o i' k size off ds n=some out) (hi:i<R.length) (h1:i≠i') (h2:∀ e s g,R[i']? = some (.dsl e s g)->i≠g) (h3:∀ m,ds=[.os m]->i≠m):out.R[i]? = R[i]?:=by
 unfold J9 at h
 split at h
 next e s g m q1 q2 q3 row q4 rows' hj=>
  split at h
  ·split at h
   ·generalize ((_&&_:Bool))=bb at h
    cases bb with
    | false=>simp at h
    | true=>
     simp only [cond_true,ah] at h;subst h
     have hgi:=h2 _ _ _ hj
     have hmi:=h3 _ rfl
     simp only
     rw [an (by simpa using hi),aD (aE h1),aD (aE hgi),aD (aE hmi)]
   ·cases h
  ·cases h
 next=>cases h
theorem S3 {c:Cl} {o:Oper} {i' k size off n:Nat} {ds:List D} {out:Out} {i:Nat} (h:J8 R c o i' k size off ds n=some out) (h1:i≠i') (h3:∀ m,ds=[.os m]->i≠m):out.R[i]? = R[i]?:=by
 unfold J8 at h
 split at h
 ·rename_i m
  have hm:=h3 m rfl
  split at h
  ·cases hb:Nat.beq m i' with
   | true=>rw [hb] at h;simp at h
   | false=>
    rw [hb] at h
    simp only [cond_false] at h
    unfold I5 at h
    split at h
    ·generalize (Nat.beq _ _&&(Nat.beq _ _&&(Nat.ble _ _&&Option.isNone _)))=bb at h
     cases bb with
     | false=>simp at h
     | true=>
      simp at h;subst h
      simp only
      rw [aD (aE h1),aD (aE hm)]
    ·cases h
  ·cases h
 ·cases h
theorem Xa {c : Cl} {o : Oper} {out : Out} {i : Nat} {cs : List (Bool × Bool)} (h : Dw P L cur R c o = some out) (hi : i < R.length) (hw : i ∉ Bg ⟨0, o, L, cur, cs, c, R, out, true, false, none⟩) : out.R[i]? = R[i]? := by
  unfold Dw at h
  split at h
  · simp at h;subst h;rfl
  · obtain ⟨dst, op, type, pos, after, guard⟩ := o
    simp only at h
    cases op with
    | box t x=>
      simp only at h
      split at h
      · generalize (Nat.beq _ _)=bb at h
        cases bb with
        | false=>simp at h
        | true=>simp at h;subst h;simp [List.getElem?_append_left hi]
      · cases h
    | alloc t=>
      simp only at h
      split at h
      · simp at h;subst h;simp [List.getElem?_append_left hi]
      · cases h
    | store t x y =>
      simp only at h
      cases hc:cur.isEmpty with
      | false=>rw [hc] at h;simp at h
      | true=>
        rw [hc] at h
        simp only [cond_true] at h
        split at h
        · rename_i j off ds n e1 e2 e3
          split at h
          · generalize (Nat.beq _ _&&Nat.ble _ _&&Option.isNone _)=bb at h
            cases bb with
            | false=>simp at h
            | true=>
              simp at h;subst h
              simp only [Bg,e1,bt] at hw
              simp only
              rw [aD (aE hw)]
          · cases h
        · rename_i j k size off ds n e1 e2 e3
          simp only [Bg,e1,ag,not_or] at hw
          obtain⟨hw1,hw2⟩:=hw
          split at h
          · rename_i out' hput
            simp at h;subst h
            unfold I5 at hput
            split at hput
            · generalize (Nat.beq _ _&&(Nat.beq _ _&&(Nat.ble _ _&&Option.isNone _)))=bb at hput
              cases bb with
              | false=>simp at hput
              | true=>
                simp at hput;subst hput
                simp only
                rw [aD (aE hw1)]
            · cases hput
          · have hms:∀ m,ds=[.os m]->i≠m:=by
              intro m hds
              rintro rfl
              subst hds
              refine hw2 (be _ ?_)
              obtain⟨av,h1,h2⟩:=Ah e2
              cases av with
              | d x=>simp [Dd] at h2;subst h2;exact Dy h1 (by simp [AV.touchV,D.touchV])
              | agg l=>simp [Dd] at h2;subst h2;exact Dy h1 (by simp [AV.touchV,D.touchV,c6])
              | tup l=>simp [Dd] at h2
            split at h
            · rename_i out' hput
              simp at h;subst h
              refine S4 hput hi hw1 (λ e s g hj=>?_) hms
              rintro rfl
              exact hw2 (bd _ (Ro (Gq e1) hj))
            · exact S3 h hw1 hms
        · cases h
    | buildSlice t len parts=>
      simp only at h
      split at h
      · unfold C3 at h
        split at h
        · split at h
          · generalize (Nat.beq _ _&&Nat.ble _ _)=bb at h
            cases bb with
            | false=>simp at h
            | true=>
              simp only [cond_true] at h
              split at h
              · cases ho:Ky c with
                | true=>rw [ho] at h;simp at h;subst h;simp [List.getElem?_append_left hi]
                | false=>rw [ho] at h;simp at h;subst h;rfl
              · cases h
          · cases h
        · cases h
      · cases h
    | convert s d x=>
      simp only at h
      rcases O8 h with e | ⟨r,e⟩
      · rw [e]
      · rw [e,an hi]
    | makeSlice t x y=>
      simp only at h
      generalize (E5 x y)=bb at h
      cases bb with
      | false=>simp at h
      | true=>
        simp only [cond_true] at h
        unfold Fo at h
        split at h
        · split at h
          · split at h
            · generalize (Nat.beq _ _)=bb at h
              cases bb with
              | false=>simp at h
              | true=>simp at h;subst h;simp [List.getElem?_append_left hi]
            · cases h
          · cases h
        · split at h
          · split at h
            · generalize (Nat.beq _ _&&_)=bb at h
              cases bb with
              | false=>simp at h
              | true=>simp at h;subst h;simp [List.getElem?_append_left hi]
            · cases h
          · cases h
        · cases h
    | call kk =>
      obtain⟨callee,cargs,argTypes⟩:=kk
      cases callee with
      | invoke r m=>simp at h
      | builtin b=>
        cases b <;> first
          | (simp at h;done)
          | (simp only at h
             split at h
             · rename_i args e1
               first
                 | exact Rj h e1 (by simpa [Bg] using hw)
                 | exact S5 h e1 (by simpa [Bg] using hw)
             · cases h
             done)
          | (simp only at h
             split at h
             · rename_i i' g q size off y e1
               have hall:=e1
               obtain⟨z,hz⟩:=B4 e1 (av:=.d (.oi i' g q size off)) (by simp)
               obtain⟨hi1,hg1⟩:=Pm hz
               have hii:i≠i':=by rintro rfl;exact hw (by simpa [Bg] using hi1)
               have hig:i≠g:=by rintro rfl;exact hw (by simpa [Bg] using hg1)
               exact Ob h hi hii hig
             · rename_i i' n s y e1
               obtain⟨z,hz⟩:=B4 e1 (av:=.d (.osb i' 0 n s)) (by simp)
               have hi1:=Gr hz
               have hii:i≠i':=by rintro rfl;exact hw (by simpa [Bg] using hi1)
               exact Oa h hii
             · rename_i args _ _ e1
               unfold Bj at h
               split at h
               · rename_i t u x y hts
                 generalize (Nat.beq _ _)=bb at h
                 cases bb with
                 | false=>simp at h
                 | true=>
                   simp only [cond_true] at h
                   split at h
                   · split at h
                     · split at h
                       · generalize (Nat.beq _ _)=bb at h
                         cases bb with
                         | false=>simp at h
                         | true=>
                           simp only [cond_true] at h
                           split at h
                           · simp at h;subst h;simp [List.getElem?_append_left hi]
                           · rename_i j
                             split at h
                             · generalize (Nat.beq _ _&&Nat.beq _ _)=bb at h
                               cases bb with
                               | false=>simp at h
                               | true=>
                                 simp at h;subst h
                                 obtain⟨z,hz⟩:=B4 e1 (av:=.d (.os _)) ak
                                 have hj:=Bz hz
                                 simp only
                                 rw [an (by simpa using hi),aD]
                                 rintro rfl
                                 refine hw ?_
                                 simpa [Bg] using hj
                             · cases h
                           · cases h
                       · cases h
                     · cases h
                   · cases h
               · cases h
             · cases h)
      | value f =>
        simp only at h
        split at h
        · rename_i g first caps args e1 e2
          cases c with
          | call f' q1 q2 res R2 pi =>
            simp only [Cu] at h
            generalize (Nat.beq g f'&&Cf pi&&Nat.ble pi.length R2.length)=bb at h
            cases bb with
            | false=>simp at h
            | true=>
              simp only [cond_true] at h
              split at h
              · split at h
                · rename_i Rp2 res2 RR e3 e4 e5
                  simp at h;subst h
                  simp only [Bg] at hw
                  simp only
                  rw [an (by rw [Cb];exact hi)]
                  cases hg:R[i]? with
                  | none=>rw [List.getElem?_eq_none_iff] at hg;omega
                  | some r=>
                    have hlt:i<(B5 R pi RR).length:=by rw [Cb];exact hi
                    rcases Iq pi R _ i _ (am hlt) with⟨j,h1,_⟩ | ⟨h1,_⟩
                    · exact absurd (aq h1) hw
                    · rw [am hlt,←h1,hg]
                · cases h
              · cases h
          | callB f' q1 res rows0 k0 rw0=>
            simp only [Cu] at h
            generalize (Nat.beq g f'&&res.flat)=bb at h
            cases bb with
            | false=>simp at h
            | true=>
              simp only [cond_true] at h
              split at h
              · split at h
                · simp at h;subst h;rfl
                · cases h
              · split at h
                · simp at h;subst h;rfl
                · cases h
              · cases h
          | _=>simp [Cu] at h
        · cases h
    | _=>simp at h
end
end Go.SL
