import Derived.Test.YtaplakgdkkmpfaaDoorSlO
namespace Go.SL
section
variable {P:Program} {C:Ctx} {S S':Nat->Prop} {w w':World} {ρ ρ':List Value} {R R':List Res} {L:List Ent} {cur:Az} {a:Act}
theorem Mn:∀ {L:List Ent} {e:Ent} {i off:Nat},e∈L->e.v = .d (.o i off)->i∈Au L
 | x::r,e,i,off,h,hv=>by
  rcases af.1 h with rfl | h
  ·simp [Au,hv]
  ·have:=Mn h hv
   unfold Au;split <;> simp [this]
 | [],_,_,_,h,_=>by cases h
theorem Jj:∀ {L:List Ent} {e:Ent} {i:Nat},e∈L->e.v = .d (.os i)->i∈Au L
 | x::r,e,i,h,hv=>by
  rcases af.1 h with rfl | h
  ·simp [Au,hv]
  ·have:=Jj h hv
   unfold Au;split <;> simp [this]
 | [],_,_,h,_=>by cases h
theorem Jk:∀ {L:List Ent} {e:Ent} {i a b c:Nat},e∈L->e.v = .d (.oe i a b c)->i∈Au L
 | x::r,e,i,a,b,c,h,hv=>by
  rcases af.1 h with rfl | h
  ·simp [Au,hv]
  ·have:=Jk h hv
   unfold Au;split <;> simp [this]
 | [],_,_,_,_,_,h,_=>by cases h
theorem Jl:∀ {L:List Ent} {e:Ent} {i a b c:Nat},e∈L->e.v = .d (.osb i a b c)->i∈Au L
 | x::r,e,i,a,b,c,h,hv=>by
  rcases af.1 h with rfl | h
  ·simp [Au,hv]
  ·have:=Jl h hv
   unfold Au;split <;> simp [this]
 | [],_,_,_,_,_,h,_=>by cases h
theorem H2:∀ {L:List Ent} {e:Ent} {i g a b c:Nat},e∈L->e.v = .d (.oi i g a b c)->i∈Au L/\g∈Au L
 | x::r,e,i,g,a,b,c,h,hv=>by
  rcases af.1 h with rfl | h
  ·simp [Au,hv]
  ·have:=H2 h hv
   unfold Au;split <;> simp [this]
 | [],_,_,_,_,_,_,h,_=>by cases h
theorem K6 {i g e s:Nat}:∀ {l:List Nat},i∈l->R[i]? = some (.dsl e s g)->g∈Gw R l
 | [],h,_=>by cases h
 | j::l,h,hi=>by
  rcases af.1 h with rfl | h
  ·simp [Gw,hi]
  ·have:=K6 h hi
   unfold Gw;split <;> simp [this]
theorem Rb {i:Nat} {l:List Nat} (h:i∈l):i∈deepen R l:=aX _ h
theorem Oz {i g e s:Nat} {l:List Nat} (h:i∈l) (hi:R[i]? = some (.dsl e s g)):g∈deepen R l:=aY _ (K6 h hi)
theorem G3 {v:Value} {i off a b c:Nat}:Fy v≠some (.d (.o i off))/\Fy v≠some (.d (.os i))/\Fy v≠some (.d (.oe i a b c))/\Fy v≠some (.d (.osb i a b c))/\∀ g,Fy v≠some (.d (.oi i g a b c)):=by
 unfold Fy
 split
 ·refine⟨?_,?_,?_,?_,λ _=>?_⟩ <;> (cases B0 (_:Array Value).toList <;> simp)
 ·simp
 ·refine⟨?_,?_,?_,?_,λ _=>?_⟩ <;>
  ·cases h:dOf v with
   | none=>simp
   | some d=>
    unfold dOf at h
    cases hb:v.oneCell' with
    | true=>rw [hb] at h;simp at h;subst h;simp
    | false=>rw [hb] at h;simp at h
theorem Qx {x:Operand} {i off:Nat} (h:Ak L cur x=some (.d (.o i off))):i∈Au L:=by
 unfold Ak at h
 split at h
 ·exact absurd h (G3 (a:=0) (b:=0) (c:=0)).1
 ·split at h
  ·rename_i e he
   cases hb:B9 e.p cur with
   | false=>rw [hb] at h;simp at h
   | true=>rw [hb] at h;simp at h;exact Mn (Bc he).1 h
  ·cases h
 ·simp at h
 ·cases h
theorem Bt {x:Operand} {i:Nat} (h:Ak L cur x=some (.d (.os i))):i∈Au L:=by
 unfold Ak at h
 split at h
 ·exact absurd h (G3 (off:=0) (a:=0) (b:=0) (c:=0)).2.1
 ·split at h
  ·rename_i e he
   cases hb:B9 e.p cur with
   | false=>rw [hb] at h;simp at h
   | true=>rw [hb] at h;simp at h;exact Jj (Bc he).1 h
  ·cases h
 ·simp at h
 ·cases h
theorem Fp {x:Operand} {i k s off:Nat} (h:Ak L cur x=some (.d (.oe i k s off))):i∈Au L:=by
 unfold Ak at h
 split at h
 ·exact absurd h (G3 (off:=0)).2.2.1
 ·split at h
  ·rename_i e he
   cases hb:B9 e.p cur with
   | false=>rw [hb] at h;simp at h
   | true=>rw [hb] at h;simp at h;exact Jk (Bc he).1 h
  ·cases h
 ·simp at h
 ·cases h
theorem Fq {x:Operand} {i k s off:Nat} (h:Ak L cur x=some (.d (.osb i k s off))):i∈Au L:=by
 unfold Ak at h
 split at h
 ·exact absurd h (G3 (off:=0)).2.2.2.1
 ·split at h
  ·rename_i e he
   cases hb:B9 e.p cur with
   | false=>rw [hb] at h;simp at h
   | true=>rw [hb] at h;simp at h;exact Jl (Bc he).1 h
  ·cases h
 ·simp at h
 ·cases h
theorem Na {x:Operand} {i g k s off:Nat} (h:Ak L cur x=some (.d (.oi i g k s off))):i∈Au L/\g∈Au L:=by
 unfold Ak at h
 split at h
 ·exact absurd h ((G3 (off:=0)).2.2.2.2 g)
 ·split at h
  ·rename_i e he
   cases hb:B9 e.p cur with
   | false=>rw [hb] at h;simp at h
   | true=>rw [hb] at h;simp at h;exact H2 (Bc he).1 h
  ·cases h
 ·simp at h
 ·cases h
theorem Br:∀ {l:List Operand} {avs:List AV} {av:AV},Bf L cur l=some avs->av∈avs->∃ x,Ak L cur x=some av
 | [],avs,av,h,hm=>by simp [Bf] at h;subst h;cases hm
 | x::r,avs,av,h,hm=>by
  simp only [Bf] at h
  split at h
  ·rename_i v l h1 h2
   simp at h;subst h
   rcases af.1 hm with rfl | hm
   ·exact⟨x,h1⟩
   ·exact Br h2 hm
  ·cases h
theorem Ot {args:List AV} (h:∀ i,AV.d (.os i)∈args->R[i]? = R'[i]?) (hg:∀ i e s g,AV.d (.os i)∈args->R[i]? = some (.dsl e s g)->R[g]? = R'[g]?):Ez R args=Ez R' args:=by
 unfold Ez
 split
 ·rfl
 ·rfl
 ·rename_i i
  rw [←h i (by simp)]
  split
  ·rfl
  ·rename_i e s g hd
   rw [hg i e s g (by simp) hd]
  ·rfl
 ·rfl
 ·rfl
theorem On {c:Cl} {op:Op} (h0:∀ i,i∈deepen R (Eg op L)->R[i]? = R'[i]?):An P L cur R c op=An P L cur R' c op:=by
 have h:∀ i,i∈Eg op L->R[i]? = R'[i]?:=λ i hi=>h0 i (Rb hi)
 have hgh:∀ i e s g,i∈Eg op L->R[i]? = some (.dsl e s g)->R[g]? = R'[g]?:=λ i e s g hi hd=>h0 g (Oz hi hd)
 cases op with
 | load t x=>
  by_cases hg:∃ g,x = .global g
  ·obtain⟨g,rfl⟩:=hg
   rfl
  have e:∀ R,An P L cur R c (.load t x)=Is P L cur R c t x:=λ R=>by
   cases x with
   | global g=>exact absurd ⟨g,rfl⟩ hg
   | _=>rfl
  rw [e,e]
  unfold Is
  split
  ·rename_i i off n e1 e2
   rw [h i (Qx e1)]
  ·rfl
  ·rename_i i k size off n e1 e2
   rw [←h i (Fp e1)]
   split
   ·rfl
   ·rename_i e s g _ _ _ hd
    rw [hgh i _ _ _ (Fp e1) hd]
   ·rfl
  ·rfl
 | indexAddr t x i=>
  simp only [An]
  unfold Q8
  split
  ·rfl
  ·rename_i e j ik n e1 e2 e3
   rw [←h j (Bt e2)]
   split
   ·rfl
   ·rename_i e s g _ _ _ hd
    rw [hgh j _ _ _ (Bt e2) hd]
   ·rfl
  ·rfl
  ·rfl
  ·rfl
 | call k=>
  simp only [An]
  split
  ·split
   ·rename_i args e1
    split
    ·split
     ·rw [Ot (R':=R') (λ i hi=>by
       obtain⟨x,hx⟩:=Br e1 hi
       exact h i (Bt hx)) (λ i e s g hi hd=>by
       obtain⟨x,hx⟩:=Br e1 hi
       exact hgh i e s g (Bt hx) hd)]
     ·rfl
     ·rfl
    ·rfl
   ·rfl
  ·rfl
 | slice t x lo hi mx=>
  cases mx with
  | none=>
   simp only [An]
   split
   ·rfl
   ·rename_i e i e1 e2
    rw [h i (Bt e2)]
   ·rename_i e i o0 n0 s0 e1 e2
    rw [h i (Fq e2)]
   ·rfl
   ·rfl
  | some mx=>
   cases lo with
   | none=>rfl
   | some lo=>
    cases hi with
    | none=>rfl
    | some hi=>
     simp only [An]
     split
     ·rename_i e i e1 e2
      rw [h i (Bt e2)]
     ·rfl
 | _=>rfl
mutual
theorem M3 (f:Nat->Option Nat):∀ (d d':D),D.ren (λ _=>none) d=some d'->D.ren f d=some d'
 | .p x,d',h=>h
 | .o i off,d',h=>by simp [D.ren] at h
 | .os i,d',h=>by simp [D.ren] at h
 | .oe i k s off,d',h=>by simp [D.ren] at h
 | .ip c,d',h=>h
 | .any,d',h=>h
 | .nq _,d',h=>h
 | .osb _ _ _ _,d',h=>by simp [D.ren] at h
 | .oi _ _ _ _ _,d',h=>by simp [D.ren] at h
 | .fn g a b,d',h=>by
  simp only [D.ren] at h ⊢
  split at h
  ·rename_i a' b' h1 h2
   rw [Fa f a a' h1,Fa f b b' h2]
   exact h
  ·cases h
theorem Fa (f:Nat->Option Nat):∀ (l l':List D),D.renL (λ _=>none) l=some l'->D.renL f l=some l'
 | [],l',h=>h
 | d::r,l',h=>by
  simp only [D.renL] at h ⊢
  split at h
  ·rename_i d' r' h1 h2
   rw [M3 f d d' h1,Fa f r r' h2]
   exact h
  ·cases h
end
mutual
theorem Lo (f:Nat->Option Nat):∀ (d d':AV),AV.ren (λ _=>none) d=some d'->AV.ren f d=some d'
 | .d x,d',h=>by
  simp only [AV.ren] at h ⊢
  split at h
  ·rename_i y hy
   rw [M3 f x y hy];exact h
  ·cases h
 | .agg ds,d',h=>by
  simp only [AV.ren] at h ⊢
  split at h
  ·rename_i y hy
   rw [Fa f ds y hy];exact h
  ·cases h
 | .tup l,d',h=>by
  simp only [AV.ren] at h ⊢
  split at h
  ·rename_i y hy
   rw [J4 f l y hy];exact h
  ·cases h
theorem J4 (f:Nat->Option Nat):∀ (l l':List AV),AV.renL (λ _=>none) l=some l'->AV.renL f l=some l'
 | [],l',h=>h
 | d::r,l',h=>by
  simp only [AV.renL] at h ⊢
  split at h
  ·rename_i d' r' h1 h2
   rw [Lo f d d' h1,J4 f r r' h2]
   exact h
  ·cases h
end
theorem Ov {args:List AV} {f:FuncId} {c:Cl} {out:Out} (hn:Qu c=true) (hc:M5 c=true)
  (h:Ck R args f c=some out):out.R=R/\Ck R' args f c=some {out with R:=R'}:=by
 unfold Qu at hn
 split at hn
 ·rename_i g q1 q2 res R2 pi
  simp only [aa,bG] at hn
  obtain⟨rfl,rfl⟩:=hn
  obtain⟨res',hres⟩:=Option.isSome_iff_exists.1 hc
  unfold Ck at h ⊢
  simp only at h ⊢
  generalize hbb:(Nat.beq f g&&B3 []&&Nat.ble ([]:List Nat).length ([]:List Res).length)=bb at h ⊢
  cases bb with
  | false=>simp at h
  | true=>
   simp only [cond_true] at h ⊢
   split at h
   ·rename_i a' Rp e1 e2
    rw [e1]
    simp only [D7] at e2 ⊢
    simp only [ag] at e2
    subst e2
    simp only [Dc,Lo _ res res' hres] at h ⊢
    simp at h;subst h
    simp [Bs]
   ·cases h
 ·cases hn
theorem Hu:∀ {l:List D},(∀ i,i∈Lw l->R[i]? = R'[i]?)->C1 R l=C1 R' l
 | [],_=>rfl
 | d::r,h=>by
  have ih:C1 R r=C1 R' r:=Hu λ i hi=>h i (by cases d <;> simp [Lw,hi])
  have hd:D5 R d=D5 R' d:=by
   cases d with
   | os i=>simp only [D5];rw [h i (by simp [Lw])]
   | _=>rfl
  simp only [C1,ih,hd]
mutual
theorem J5 {rw:List Pd}:∀ {d:D},(∀ i,i∈d.touchV R->R[i]? = R'[i]?)->d.view R rw=d.view R' rw
 | .p _,_=>rfl
 | .ip _,_=>rfl
 | .any,_=>rfl
 | .nq _,_=>rfl
 | .oe _ _ _ _,_=>rfl
 | .osb i _ _ _,h=>by simp only [D.view];rw [h i (by simp [D.touchV])]
 | .oi _ g _ _ _,h=>by simp only [D.view];rw [h g (by simp [D.touchV])]
 | .os i,h=>by simp only [D.view];rw [h i (by simp [D.touchV])]
 | .o i off,h=>by
  have h0:=h i (by simp [D.touchV])
  simp only [D.view]
  rw [←h0]
  cases hi:R[i]? with
  | none=>rfl
  | some r=>cases r with
   | box t cells=>
    simp only
    rw [Hu (R':=R') λ k hk=>h k (by simp only [D.touchV,hi];exact ah _ hk)]
   | _=>rfl
 | .fn g a b,h=>by
  have h1:=Ef (rw:=rw) (l:=a) λ i hi=>h i (by simp only [D.touchV];exact aX _ hi)
  have h2:=Ef (rw:=rw) (l:=b) λ i hi=>h i (by simp only [D.touchV];exact aY _ hi)
  simp only [D.view,h1,h2]
theorem Ef {rw:List Pd}:∀ {l:List D},(∀ i,i∈b9 R l->R[i]? = R'[i]?)->D.viewL R rw l=D.viewL R' rw l
 | [],_=>rfl
 | d::r,h=>by
  have h1:=J5 (rw:=rw) (d:=d) λ i hi=>h i (by simp only [b9];exact aX _ hi)
  have h2:=Ef (rw:=rw) (l:=r) λ i hi=>h i (by simp only [b9];exact aY _ hi)
  simp only [D.viewL,h1,h2]
end
theorem Pn {rw:List Pd} {x:AV} (h:∀ i,i∈x.touchV R->R[i]? = R'[i]?):x.view R rw=x.view R' rw:=by
 cases x with
 | d x=>simp only [AV.view];rw [J5 (R':=R') h]
 | agg l=>simp only [AV.view];rw [Ef (R':=R') h]
 | tup l=>rfl
theorem Hy {rw:List Pd}:∀ {l:List AV},(∀ x,x∈l->∀ i,i∈x.touchV R->R[i]? = R'[i]?)->AV.viewL R rw l=AV.viewL R' rw l
 | [],_=>rfl
 | x::r,h=>by
  have h1:=Pn (rw:=rw) (x:=x) (h x aj)
  have h2:=Hy (rw:=rw) (l:=r) λ y hy=>h y (ah _ hy)
  simp only [AV.viewL,h1,h2]
theorem Kr {e:Ent} {i:Nat}:∀ {L:List Ent},e∈L->i∈e.v.touchV R->i∈touchV R L
 | [],h,_=>by cases h
 | x::r,h,hi=>by
  simp only [touchV]
  rcases af.1 h with rfl | h
  ·exact aX _ hi
  ·exact aY _ (Kr h hi)
theorem Qg {i:Nat}:∀ {l:List Value} {ds:List D},B0 l=some ds->i∉b9 R ds
 | [],ds,h=>by simp [B0] at h;subst h;simp [b9]
 | v::l,ds,h=>by
  simp only [B0] at h
  split at h
  ·rename_i d r h1 h2
   simp at h;subst h
   unfold dOf at h1
   cases hb:v.oneCell' with
   | false=>rw [hb] at h1;simp at h1
   | true=>rw [hb] at h1;simp at h1;subst h1;simpa [b9,D.touchV] using Qg h2
  ·cases h
theorem Rj {v:Value} {x:AV} {i:Nat} (h:Fy v=some x):i∉x.touchV R:=by
 unfold Fy at h
 split at h
 ·cases hd:B0 (_:Array Value).toList with
  | none=>rw [hd] at h;cases h
  | some ds=>rw [hd] at h;simp at h;subst h;exact Qg hd
 ·cases h
 ·cases hd:dOf v with
  | none=>rw [hd] at h;cases h
  | some d=>
   rw [hd] at h;simp at h;subst h
   unfold dOf at hd
   cases hb:v.oneCell' with
   | false=>rw [hb] at hd;simp at hd
   | true=>rw [hb] at hd;simp at hd;subst hd;simp [AV.touchV,D.touchV]
theorem Dj {x:Operand} {v:AV} {i:Nat} (h:Ak L cur x=some v) (hi:i∈v.touchV R):i∈touchV R L:=by
 unfold Ak at h
 split at h
 ·exact absurd hi (Rj h)
 ·split at h
  ·rename_i e he
   cases hb:B9 e.p cur with
   | false=>rw [hb] at h;simp at h
   | true=>rw [hb] at h;simp at h;subst h;exact Kr (Bc he).1 hi
  ·cases h
 ·simp at h;subst h;simp [AV.touchV,D.touchV,b9] at hi
 ·cases h
theorem Iv {d:D}:d.norm.touchV R=d.touchV R:=by
 unfold D.norm;split <;> rfl
theorem Hv:∀ {l:List D},b9 R (l.map D.norm)=b9 R l
 | []=>rfl
 | d::r=>by simp only [aW,b9,Iv,Hv]
theorem Pr {x:AV}:x.norm.touchV R=x.touchV R:=by
 cases x with
 | d x=>exact Iv
 | agg l=>exact Hv
 | tup l=>rfl
theorem E8 {g k:Nat}:∀ {d:D},(g,k)∈d.ois->g∈d.touchV R
 | .oi _ _ _ _ _,h=>by simp [D.ois] at h;simp [D.touchV,h.1]
 | .fn f a b,h=>by
  have key:∀ {l:List D},(∀ d,d∈l->(g,k)∈d.ois->g∈d.touchV R)->(g,k)∈bU l->g∈b9 R l:=by
   intro l
   induction l with
   | nil=>intro _ h;simp [bU] at h
   | cons d l ih=>
    intro hh h
    simp only [bU,ax] at h
    simp only [b9,ax]
    rcases h with h | h
    ·exact .inl (hh d aj h)
    ·exact .inr (ih (λ d hd=>hh d (ah _ hd)) h)
  simp only [D.ois,ax] at h
  simp only [D.touchV,ax]
  rcases h with h | h
  ·exact .inl (key (λ d _ h=>E8 h) h)
  ·exact .inr (key (λ d _ h=>E8 h) h)
 | .p _,h=>by simp [D.ois] at h
 | .o _ _,h=>by simp [D.ois] at h
 | .os _,h=>by simp [D.ois] at h
 | .oe _ _ _ _,h=>by simp [D.ois] at h
 | .osb _ _ _ _,h=>by simp [D.ois] at h
 | .ip _,h=>by simp [D.ois] at h
 | .any,h=>by simp [D.ois] at h
 | .nq _,h=>by simp [D.ois] at h
theorem Ib {g k:Nat}:∀ {l:List D},(g,k)∈bU l->g∈b9 R l
 | [],h=>by simp [bU] at h
 | d::l,h=>by
  simp only [bU,ax] at h
  simp only [b9,ax]
  exact h.imp E8 Ib
theorem Jt {g k:Nat}:∀ {l:List AV},(g,k)∈oisL l->∃ x,x∈l/\g∈x.touchV R
 | [],h=>by simp [oisL] at h
 | x::l,h=>by
  simp only [oisL,ax] at h
  rcases h with h | h
  ·refine⟨x,aj,?_⟩
   cases x with
   | d x=>exact E8 h
   | agg l=>exact Ib h
   | tup l=>simp [AV.ois] at h
  ·obtain⟨y,h1,h2⟩:=Jt h
   exact⟨y,ah _ h1,h2⟩
theorem Nb {args:List AV} {f g:FuncId} {q:List AV} {res:AV} {rows:List (List Pd)} {k:Nat} {rw:List Pd} {out:Out} (ht:∀ x,x∈args->∀ i,i∈x.touchV R->R[i]? = R'[i]?)
  (h:Ck R args f (.callB g q res rows k rw)=some out):out.R=R/\Ck R' args f (.callB g q res rows k rw)=some {out with R:=R'}:=by
 simp only [Ck] at h ⊢
 generalize (Nat.beq f g&&res.flat)=bb at h ⊢
 have hview:∀ rw,AV.viewL R rw (args.map AV.norm)=AV.viewL R' rw (args.map AV.norm):=λ rw=>Hy (R:=R) (R':=R') (l:=args.map AV.norm) λ x hx i hi=>by
  obtain⟨y,hy,rfl⟩:=aO.1 hx
  rw [Pr] at hi
  exact ht y hy i hi
 cases bb with
 | false=>simp at h
 | true=>
  simp only [cond_true] at h ⊢
  split at h
  ·rw [←hview]
   split at h
   ·rename_i a' e1
    simp at h;subst h
    exact⟨rfl,rfl⟩
   ·cases h
  ·rename_i g0 k0 ho
   obtain⟨x,h1,h2⟩:=Jt (R:=R) (l:=args) (g:=g0) (k:=k0) (by rw [ho];simp)
   rw [←hview,←ht x h1 g0 h2]
   split at h
   ·simp at h;subst h
    exact⟨rfl,rfl⟩
   ·cases h
  ·cases h
theorem Oh {g:Fn} {first caps:List D} {args:List AV} {x:AV} {i:Nat} {f:Operand} {l:List Operand} (e1:Ak L cur f=some (.d (.fn g first caps))) (e2:Bf L cur l=some args)
  (hx:x∈first.map AV.d++args++caps.map AV.d) (hi:i∈x.touchV R):i∈touchV R L:=by
 have hd:∀ {ds:List D} {d:D},d∈ds->i∈d.touchV R->i∈b9 R ds:=by
  intro ds
  induction ds with
  | nil=>intro d h;cases h
  | cons a r ih=>
   intro d h hi
   simp only [b9]
   rcases af.1 h with rfl | h
   ·exact aX _ hi
   ·exact aY _ (ih h hi)
 rcases ax.1 hx with hx | hx
 ·rcases ax.1 hx with hx | hx
  ·obtain⟨d,hm,rfl⟩:=aO.1 hx
   exact Dj e1 (by simp only [AV.touchV,D.touchV];exact aX _ (hd hm hi))
  ·obtain⟨z,hz⟩:=Br e2 hx
   exact Dj hz hi
 ·obtain⟨d,hm,rfl⟩:=aO.1 hx
  exact Dj e1 (by simp only [AV.touchV,D.touchV];exact aY _ (hd hm hi))
theorem Jr {c : Cl} {o : Oper} {out : Out} (hq : Ci c o = true) (ht0 : ∀ i, i ∈ deepen R (Eg o.op L) ++ Un c R L -> R[i]? = R'[i]?) (h : Dh P L cur R c o = some out) :
    out.R=R/\Dh P L cur R' c o=some {out with R:=R'}:=by
  have ht:∀ i,i∈deepen R (Eg o.op L)->R[i]? = R'[i]?:=λ i hi=>ht0 i (aX _ hi)
  unfold Dh at h ⊢
  rw [←On ht]
  split at h
  · rename_i v k hv
    simp at h;subst h
    exact⟨rfl,rfl⟩
  · rename_i hv
    obtain⟨dst,op,type,pos,after,guard⟩:=o
    simp only at h ⊢
    cases op with
    | box t x=>simp [Ci] at hq
    | alloc t=>simp [Ci] at hq
    | store t x y=>simp [Ci] at hq
    | makeSlice t x y=>simp [Ci] at hq
    | convert s d x=>
      simp only at h ⊢
      unfold Gz at h ⊢
      split at h
      · split at h
        · simp at h;subst h;exact⟨rfl,rfl⟩
        · cases h
      · cases h
    | buildSlice t len parts=>
      simp only [Ci,bj] at hq
      simp only at h ⊢
      split at h
      · rename_i ps e1
        unfold Ct at h ⊢
        rw [hq] at h ⊢
        split at h
        · rename_i e hu
          split at h
          · rename_i size zs e2 e3
            cases hb:(Nat.beq zs.length (size+1)&&Nat.ble (len*(size+1)) 16777216) with
            | false=>rw [hb] at h;simp at h
            | true=>
              rw [hb] at h
              simp only [cond_true,cond_false] at h ⊢
              split at h
              · rename_i pd hpd
                simp at h;subst h
                exact⟨rfl,rfl⟩
              · cases h
          · cases h
        · cases h
      · cases h
    | call kk=>
      obtain⟨callee,cargs,argTypes⟩:=kk
      cases callee with
      | invoke r m=>simp at h
      | builtin b=>cases b <;> first | (simp [Ci] at hq;done) | (simp at h;done)
      | value f=>
        simp only [Ci,aK,aa] at hq
        simp only at h ⊢
        split at h
        · rename_i g first caps args e1 e2
          cases c with
          | callB g' q res rows k rw=>
            exact Nb (λ x hx i hi=>ht0 i (aY _ (Oh e1 e2 hx hi))) h
          | _=>first
            | (rcases hq with hq | hq
               · simp [Q0] at hq
               · exact Ov hq.1 hq.2 h)
        · cases h
    | _=>simp at h
theorem Kb:∀ {l:List Nat} {t:Nat},Ih l t=true↔t∈l
 | [],t=>by simp [Ih]
 | a::r,t=>by
  simp only [Ih,aK,af,Kb]
  constructor
  ·rintro (h | h)
   ·exact .inl (ae h).symm
   ·exact .inr h
  ·rintro (h | h)
   ·subst h;exact .inl (by simp)
   ·exact .inr h
theorem Nc {c : Cl} {ts : List TypeId} {j : Nat} {y : AV} {out : Out} {i : Nat} (h : A_ P R c ts [.d (.os j), y] = some out) (hi : i < R.length) (hj : i ≠ j) : out.R[i]? = R[i]? := by
 match ts,h with
 | [t, u], h =>
  simp only [A_] at h
  cases hts2:Nat.beq t u with
  | false=>rw [hts2] at h;simp at h
  | true =>
   rw [hts2] at h
   simp only [cond_true] at h
   split at h
   ·split at h
    ·split at h
     ·generalize (Nat.beq _ (_+1))=bb at h
      cases bb with
      | false=>simp at h
      | true=>
       simp only [cond_true] at h
       split at h
       ·generalize (Nat.beq _ _&&Nat.beq _ _)=bb at h
        cases bb with
        | false=>simp at h
        | true=>
         simp at h;subst h
         simp only
         rw [al (by simpa using hi),aC (aG hj)]
       ·cases h
     ·cases h
    ·cases h
   ·cases h
 | [],h=>simp [A_] at h
 | [_],h=>simp [A_] at h
 | _::_::_::_,h=>simp [A_] at h
theorem L_ {c:Cl} {ts:List TypeId} {i' g k size off:Nat} {y:AV} {out:Out} {i:Nat} (h:D1 P R c ts i' g k size off y=some out) (hi:i<R.length) (h1:i≠i') (h2:i≠g):out.R[i]? = R[i]?:=by
 unfold D1 at h
 split at h
 ·split at h
  ·generalize ((_&&_:Bool))=bb at h
   cases bb with
   | false=>simp at h
   | true=>
    simp only [cond_true] at h
    split at h
    ·rename_i v' R' a b z m r' hap
     simp at h;subst h
     have:=Nc (i:=i) hap (by simp;omega) (by omega)
     simp only at this ⊢
     rw [this,al (by simpa using hi),aC (aG h1),aC (aG h2)]
    ·cases h
  ·cases h
 ·cases h
theorem L9 {c:Cl} {ts:List TypeId} {i' n s:Nat} {y:AV} {out:Out} {i:Nat} (h:Dz P R c ts i' n s y=some out) (h1:i≠i'):out.R[i]? = R[i]?:=by
 unfold Dz at h
 split at h
 ·generalize (Nat.beq _ _)=bb at h
  cases bb with
  | false=>simp at h
  | true=>
   simp only [cond_true] at h
   split at h
   ·split at h
    ·split at h
     ·generalize (Nat.beq _ _&&Nat.beq _ _)=bb at h
      cases bb with
      | false=>simp at h
      | true=>
       simp at h;subst h
       simp only
       rw [aC (aG h1)]
     ·cases h
    ·cases h
   ·cases h
 ·cases h
theorem J0 {x:AV} {i lo n s:Nat} {a:Operand} (h:Je R x=some (i,lo,n,s)) (hl:Ak L cur a=some x):i∈Au L:=by
 unfold Je at h
 split at h
 ·split at h
  ·simp at h;obtain⟨rfl,_⟩:=h;exact Bt hl
  ·cases h
 ·simp at h;obtain⟨rfl,_⟩:=h;exact Fq hl
 ·cases h
theorem Ou {c:Cl} {ts:List TypeId} {l:List Operand} {args:List AV} {out:Out} {i:Nat} (h:G0 P R c ts args=some out) (hl:Bf L cur l=some args) (h1:i∉Au L):out.R[i]? = R[i]?:=by
 unfold G0 at h
 split at h
 ·rename_i x
  split at h
  ·split at h
   ·rename_i hd
    split at h
    ·generalize ((_&&_:Bool))=bb at h
     cases bb with
     | false=>simp at h
     | true=>
      simp only [cond_true,ag] at h;subst h
      obtain⟨z,hz⟩:=Br hl (av:=x) (by simp)
      have:=J0 hd hz
      simp only
      rw [aC]
      rintro rfl
      exact h1 this
    ·cases h
   ·cases h
  ·cases h
 ·cases h
theorem Pw {c:Cl} {ts:List TypeId} {l:List Operand} {args:List AV} {out:Out} {i:Nat} (h:Iu P R c ts args=some out) (hl:Bf L cur l=some args) (h1:i∉Au L):out.R[i]? = R[i]?:=by
 unfold Iu at h
 split at h
 ·rename_i x y
  split at h
  ·split at h
   ·rename_i hd
    split at h
    ·generalize ((_&&_:Bool))=bb at h
     cases bb with
     | false=>simp at h
     | true=>
      simp only [cond_true,ag] at h;subst h
      obtain⟨z,hz⟩:=Br hl (av:=x) (by simp)
      have:=J0 hd hz
      simp only
      rw [aC]
      rintro rfl
      exact h1 this
    ·cases h
   ·cases h
  ·cases h
 ·cases h
theorem Pv {c:Cl} {o:Oper} {i' k size off n:Nat} {ds:List D} {out:Out} {i:Nat} (h:Ir R c o i' k size off ds n=some out) (hi:i<R.length) (h1:i≠i') (h2:∀ e s g,R[i']? = some (.dsl e s g)->i≠g) (h3:∀ m,ds=[.os m]->i≠m):out.R[i]? = R[i]?:=by
 unfold Ir at h
 split at h
 next e s g m q1 q2 q3 row q4 rows' hj=>
  split at h
  ·split at h
   ·generalize ((_&&_:Bool))=bb at h
    cases bb with
    | false=>simp at h
    | true=>
     simp only [cond_true,ag] at h;subst h
     have hgi:=h2 _ _ _ hj
     have hmi:=h3 _ rfl
     simp only
     rw [al (by simpa using hi),aC (aG h1),aC (aG hgi),aC (aG hmi)]
   ·cases h
  ·cases h
 next=>cases h
theorem Ti {c : Cl} {o : Oper} {out : Out} {i : Nat} {cs : List (Bool × Bool)} (h : Dh P L cur R c o = some out) (hi : i < R.length) (hw : i ∉ A8 ⟨0, o, L, cur, cs, c, R, out, true, false, none⟩) : out.R[i]? = R[i]? := by
  unfold Dh at h
  split at h
  · simp at h;subst h;rfl
  · obtain ⟨dst, op, type, pos, after, guard⟩ := o
    simp only at h
    cases op with
    | box t x=>
      simp only at h
      split at h
      · generalize (Nat.beq _ _)=bb at h
        cases bb with
        | false=>simp at h
        | true=>simp at h;subst h;simp [List.getElem?_append_left hi]
      · cases h
    | alloc t=>
      simp only at h
      split at h
      · simp at h;subst h;simp [List.getElem?_append_left hi]
      · cases h
    | store t x y =>
      simp only at h
      cases hc:cur.isEmpty with
      | false=>rw [hc] at h;simp at h
      | true=>
        rw [hc] at h
        simp only [cond_true] at h
        split at h
        · rename_i j off ds n e1 e2 e3
          split at h
          · generalize (Nat.beq _ _&&Nat.ble _ _&&Option.isNone _)=bb at h
            cases bb with
            | false=>simp at h
            | true=>
              simp at h;subst h
              simp only [A8,e1,bH] at hw
              simp only
              rw [aC (aG hw)]
          · cases h
        · rename_i j k size off ds n e1 e2 e3
          simp only [A8,e1,af,not_or] at hw
          obtain⟨hw1,hw2⟩:=hw
          split at h
          · rename_i out' hput
            simp at h;subst h
            unfold Q7 at hput
            split at hput
            · generalize (Nat.beq _ _&&(Nat.beq _ _&&(Nat.ble _ _&&Option.isNone _)))=bb at hput
              cases bb with
              | false=>simp at hput
              | true=>
                simp at hput;subst hput
                simp only
                rw [aC (aG hw1)]
            · cases hput
          · refine Pv h hi hw1 (λ e s g hj=>?_) (λ m hds=>?_)
            · rintro rfl
              exact hw2 (aX _ (Oz (Fp e1) hj))
            · rintro rfl
              subst hds
              refine hw2 (aY _ ?_)
              obtain⟨av,h1,h2⟩:=Al e2
              cases av with
              | d x=>simp [C4] at h2;subst h2;exact Dj h1 (by simp [AV.touchV,D.touchV])
              | agg l=>simp [C4] at h2;subst h2;exact Dj h1 (by simp [AV.touchV,D.touchV,b9])
              | tup l=>simp [C4] at h2
        · cases h
    | buildSlice t len parts=>
      simp only at h
      split at h
      · unfold Ct at h
        split at h
        · split at h
          · generalize (Nat.beq _ _&&Nat.ble _ _)=bb at h
            cases bb with
            | false=>simp at h
            | true=>
              simp only [cond_true] at h
              split at h
              · cases ho:Ja c with
                | true=>rw [ho] at h;simp at h;subst h;simp [List.getElem?_append_left hi]
                | false=>rw [ho] at h;simp at h;subst h;rfl
              · cases h
          · cases h
        · cases h
      · cases h
    | convert s d x=>
      simp only at h
      unfold Gz at h
      split at h
      · split at h
        · simp at h;subst h;rfl
        · cases h
      · cases h
    | makeSlice t x y=>
      simp only at h
      generalize (Eh x y)=bb at h
      cases bb with
      | false=>simp at h
      | true=>
        simp only [cond_true] at h
        unfold Ey at h
        split at h
        · split at h
          · split at h
            · generalize (Nat.beq _ _)=bb at h
              cases bb with
              | false=>simp at h
              | true=>simp at h;subst h;simp [List.getElem?_append_left hi]
            · cases h
          · cases h
        · split at h
          · split at h
            · generalize (Nat.beq _ _&&_)=bb at h
              cases bb with
              | false=>simp at h
              | true=>simp at h;subst h;simp [List.getElem?_append_left hi]
            · cases h
          · cases h
        · cases h
    | call kk =>
      obtain⟨callee,cargs,argTypes⟩:=kk
      cases callee with
      | invoke r m=>simp at h
      | builtin b=>
        cases b <;> first
          | (simp at h;done)
          | (simp only at h
             split at h
             · rename_i args e1
               first
                 | exact Ou h e1 (by simpa [A8] using hw)
                 | exact Pw h e1 (by simpa [A8] using hw)
             · cases h
             done)
          | (simp only at h
             split at h
             · rename_i i' g q size off y e1
               have hall:=e1
               obtain⟨z,hz⟩:=Br e1 (av:=.d (.oi i' g q size off)) (by simp)
               obtain⟨hi1,hg1⟩:=Na hz
               have hii:i≠i':=by rintro rfl;exact hw (by simpa [A8] using hi1)
               have hig:i≠g:=by rintro rfl;exact hw (by simpa [A8] using hg1)
               exact L_ h hi hii hig
             · rename_i i' n s y e1
               obtain⟨z,hz⟩:=Br e1 (av:=.d (.osb i' 0 n s)) (by simp)
               have hi1:=Fq hz
               have hii:i≠i':=by rintro rfl;exact hw (by simpa [A8] using hi1)
               exact L9 h hii
             · rename_i args _ _ e1
               unfold A_ at h
               split at h
               · rename_i t u x y hts
                 generalize (Nat.beq _ _)=bb at h
                 cases bb with
                 | false=>simp at h
                 | true=>
                   simp only [cond_true] at h
                   split at h
                   · split at h
                     · split at h
                       · generalize (Nat.beq _ _)=bb at h
                         cases bb with
                         | false=>simp at h
                         | true=>
                           simp only [cond_true] at h
                           split at h
                           · simp at h;subst h;simp [List.getElem?_append_left hi]
                           · rename_i j
                             split at h
                             · generalize (Nat.beq _ _&&Nat.beq _ _)=bb at h
                               cases bb with
                               | false=>simp at h
                               | true=>
                                 simp at h;subst h
                                 obtain⟨z,hz⟩:=Br e1 (av:=.d (.os _)) aj
                                 have hj:=Bt hz
                                 simp only
                                 rw [al (by simpa using hi),aC]
                                 rintro rfl
                                 refine hw ?_
                                 simpa [A8] using hj
                             · cases h
                           · cases h
                       · cases h
                     · cases h
                   · cases h
               · cases h
             · cases h)
      | value f =>
        simp only at h
        split at h
        · rename_i g first caps args e1 e2
          cases c with
          | call f' q1 q2 res R2 pi =>
            simp only [Ck] at h
            generalize (Nat.beq g f'&&B3 pi&&Nat.ble pi.length R2.length)=bb at h
            cases bb with
            | false=>simp at h
            | true=>
              simp only [cond_true] at h
              split at h
              · split at h
                · rename_i Rp2 res2 RR e3 e4 e5
                  simp at h;subst h
                  simp only [A8] at hw
                  simp only
                  rw [al (by rw [Bz];exact hi)]
                  cases hg:R[i]? with
                  | none=>rw [List.getElem?_eq_none_iff] at hg;omega
                  | some r=>
                    have hlt:i<(Bs R pi RR).length:=by rw [Bz];exact hi
                    rcases Hc pi R _ i _ (am hlt) with⟨j,h1,_⟩ | ⟨h1,_⟩
                    · exact absurd (ap h1) hw
                    · rw [am hlt,←h1,hg]
                · cases h
              · cases h
          | callB f' q1 res rows0 k0 rw0=>
            simp only [Ck] at h
            generalize (Nat.beq g f'&&res.flat)=bb at h
            cases bb with
            | false=>simp at h
            | true=>
              simp only [cond_true] at h
              split at h
              · split at h
                · simp at h;subst h;rfl
                · cases h
              · split at h
                · simp at h;subst h;rfl
                · cases h
              · cases h
          | _=>simp [Ck] at h
        · cases h
    | _=>simp at h
end
end Go.SL
