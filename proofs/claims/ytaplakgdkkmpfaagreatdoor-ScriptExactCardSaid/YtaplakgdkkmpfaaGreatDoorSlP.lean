import Derived.Test.YtaplakgdkkmpfaaGreatDoorSlO
namespace Go.SL
section
variable {P:Program} {C:Ctx} {S S':Nat->Prop} {w w':World} {ρ ρ':List Value} {R R':List Res} {L:List Ent} {cur:A8} {a:Act}
theorem O3:∀ {L:List Ent} {e:Ent} {i off:Nat},e∈L->e.v = .d (.o i off)->i∈A3 L
 | x::r,e,i,off,h,hv=>by
  rcases ag.1 h with rfl | h
  ·simp [A3,hv]
  ·have:=O3 h hv
   unfold A3;split <;> simp [this]
 | [],_,_,_,h,_=>by cases h
theorem Lc:∀ {L:List Ent} {e:Ent} {i:Nat},e∈L->e.v = .d (.os i)->i∈A3 L
 | x::r,e,i,h,hv=>by
  rcases ag.1 h with rfl | h
  ·simp [A3,hv]
  ·have:=Lc h hv
   unfold A3;split <;> simp [this]
 | [],_,_,h,_=>by cases h
theorem Ld:∀ {L:List Ent} {e:Ent} {i a b c:Nat},e∈L->e.v = .d (.oe i a b c)->i∈A3 L
 | x::r,e,i,a,b,c,h,hv=>by
  rcases ag.1 h with rfl | h
  ·simp [A3,hv]
  ·have:=Ld h hv
   unfold A3;split <;> simp [this]
 | [],_,_,_,_,_,h,_=>by cases h
theorem Le:∀ {L:List Ent} {e:Ent} {i a b c:Nat},e∈L->e.v = .d (.osb i a b c)->i∈A3 L
 | x::r,e,i,a,b,c,h,hv=>by
  rcases ag.1 h with rfl | h
  ·simp [A3,hv]
  ·have:=Le h hv
   unfold A3;split <;> simp [this]
 | [],_,_,_,_,_,h,_=>by cases h
theorem Jd:∀ {L:List Ent} {e:Ent} {i g a b c:Nat},e∈L->e.v = .d (.oi i g a b c)->i∈A3 L/\g∈A3 L
 | x::r,e,i,g,a,b,c,h,hv=>by
  rcases ag.1 h with rfl | h
  ·simp [A3,hv]
  ·have:=Jd h hv
   unfold A3;split <;> simp [this]
 | [],_,_,_,_,_,_,h,_=>by cases h
theorem Na {i g e s:Nat}:∀ {l:List Nat},i∈l->R[i]? = some (.dsl e s g)->g∈H2 R l
 | [],h,_=>by cases h
 | j::l,h,hi=>by
  rcases ag.1 h with rfl | h
  ·simp [H2,hi]
  ·have:=Na h hi
   unfold H2;split <;> simp [this]
theorem U_ {i:Nat} {l:List Nat} (h:i∈l):i∈deepen R l:=bc _ h
theorem R5 {i g e s:Nat} {l:List Nat} (h:i∈l) (hi:R[i]? = some (.dsl e s g)):g∈deepen R l:=bd _ (Na h hi)
theorem H_ {v:Value} {i off a b c:Nat}:G9 v≠some (.d (.o i off))/\G9 v≠some (.d (.os i))/\G9 v≠some (.d (.oe i a b c))/\G9 v≠some (.d (.osb i a b c))/\∀ g,G9 v≠some (.d (.oi i g a b c)):=by
 unfold G9
 split
 ·refine⟨?_,?_,?_,?_,λ _=>?_⟩ <;> (cases Cc (_:Array Value).toList <;> simp)
 ·simp
 ·refine⟨?_,?_,?_,?_,λ _=>?_⟩ <;>
  ·cases h:dOf v with
   | none=>simp
   | some d=>
    unfold dOf at h
    cases hb:v.oneCell' with
    | true=>rw [hb] at h;simp at h;subst h;simp
    | false=>rw [hb] at h;simp at h
theorem Uw {x:Operand} {i off:Nat} (h:Aq L cur x=some (.d (.o i off))):i∈A3 L:=by
 unfold Aq at h
 split at h
 ·exact absurd h (H_ (a:=0) (b:=0) (c:=0)).1
 ·split at h
  ·rename_i e he
   cases hb:Cn e.p cur with
   | false=>rw [hb] at h;simp at h
   | true=>rw [hb] at h;simp at h;exact O3 (Bi he).1 h
  ·cases h
 ·simp at h
 ·cases h
theorem B6 {x:Operand} {i:Nat} (h:Aq L cur x=some (.d (.os i))):i∈A3 L:=by
 unfold Aq at h
 split at h
 ·exact absurd h (H_ (off:=0) (a:=0) (b:=0) (c:=0)).2.1
 ·split at h
  ·rename_i e he
   cases hb:Cn e.p cur with
   | false=>rw [hb] at h;simp at h
   | true=>rw [hb] at h;simp at h;exact Lc (Bi he).1 h
  ·cases h
 ·simp at h
 ·cases h
theorem G1 {x:Operand} {i k s off:Nat} (h:Aq L cur x=some (.d (.oe i k s off))):i∈A3 L:=by
 unfold Aq at h
 split at h
 ·exact absurd h (H_ (off:=0)).2.2.1
 ·split at h
  ·rename_i e he
   cases hb:Cn e.p cur with
   | false=>rw [hb] at h;simp at h
   | true=>rw [hb] at h;simp at h;exact Ld (Bi he).1 h
  ·cases h
 ·simp at h
 ·cases h
theorem G2 {x:Operand} {i k s off:Nat} (h:Aq L cur x=some (.d (.osb i k s off))):i∈A3 L:=by
 unfold Aq at h
 split at h
 ·exact absurd h (H_ (off:=0)).2.2.2.1
 ·split at h
  ·rename_i e he
   cases hb:Cn e.p cur with
   | false=>rw [hb] at h;simp at h
   | true=>rw [hb] at h;simp at h;exact Le (Bi he).1 h
  ·cases h
 ·simp at h
 ·cases h
theorem Px {x:Operand} {i g k s off:Nat} (h:Aq L cur x=some (.d (.oi i g k s off))):i∈A3 L/\g∈A3 L:=by
 unfold Aq at h
 split at h
 ·exact absurd h ((H_ (off:=0)).2.2.2.2 g)
 ·split at h
  ·rename_i e he
   cases hb:Cn e.p cur with
   | false=>rw [hb] at h;simp at h
   | true=>rw [hb] at h;simp at h;exact Jd (Bi he).1 h
  ·cases h
 ·simp at h
 ·cases h
theorem B4:∀ {l:List Operand} {avs:List AV} {av:AV},Bu L cur l=some avs->av∈avs->∃ x,Aq L cur x=some av
 | [],avs,av,h,hm=>by simp [Bu] at h;subst h;cases hm
 | x::r,avs,av,h,hm=>by
  simp only [Bu] at h
  split at h
  ·rename_i v l h1 h2
   simp at h;subst h
   rcases ag.1 hm with rfl | hm
   ·exact⟨x,h1⟩
   ·exact B4 h2 hm
  ·cases h
theorem Ru {args:List AV} (h:∀ i,AV.d (.os i)∈args->R[i]? = R'[i]?) (hg:∀ i e s g,AV.d (.os i)∈args->R[i]? = some (.dsl e s g)->R[g]? = R'[g]?):F_ R args=F_ R' args:=by
 unfold F_
 split
 ·rfl
 ·rfl
 ·rename_i i
  rw [←h i (by simp)]
  split
  ·rfl
  ·rename_i e s g hd
   rw [hg i e s g (by simp) hd]
  ·rfl
 ·rfl
 ·rfl
theorem Rr {c:Cl} {op:Op} (h0:∀ i,i∈deepen R (Fi op L)->R[i]? = R'[i]?):Au P L cur R c op=Au P L cur R' c op:=by
 have h:∀ i,i∈Fi op L->R[i]? = R'[i]?:=λ i hi=>h0 i (U_ hi)
 have hgh:∀ i e s g,i∈Fi op L->R[i]? = some (.dsl e s g)->R[g]? = R'[g]?:=λ i e s g hi hd=>h0 g (R5 hi hd)
 cases op with
 | load t x=>
  by_cases hg:∃ g,x = .global g
  ·obtain⟨g,rfl⟩:=hg
   rfl
  have e:∀ R,Au P L cur R c (.load t x)=J0 P L cur R c t x:=λ R=>by
   cases x with
   | global g=>exact absurd ⟨g,rfl⟩ hg
   | _=>rfl
  rw [e,e]
  unfold J0
  split
  ·rename_i i off n e1 e2
   rw [h i (Uw e1)]
  ·rfl
  ·rename_i i k size off n e1 e2
   rw [←h i (G1 e1)]
   split
   ·rfl
   ·rename_i e s g _ _ _ hd
    rw [hgh i _ _ _ (G1 e1) hd]
   ·rfl
  ·rfl
 | indexAddr t x i=>
  simp only [Au]
  unfold U6
  split
  ·rfl
  ·rename_i e j ik n e1 e2 e3
   rw [←h j (B6 e2)]
   split
   ·rfl
   ·rename_i e s g _ _ _ hd
    rw [hgh j _ _ _ (B6 e2) hd]
   ·rfl
  ·rfl
  ·rfl
  ·rfl
 | call k=>
  simp only [Au]
  split
  ·split
   ·rename_i args e1
    split
    ·split
     ·rw [Ru (R':=R') (λ i hi=>by
       obtain⟨x,hx⟩:=B4 e1 hi
       exact h i (B6 hx)) (λ i e s g hi hd=>by
       obtain⟨x,hx⟩:=B4 e1 hi
       exact hgh i e s g (B6 hx) hd)]
     ·rfl
     ·rfl
    ·rfl
   ·rfl
  ·rfl
 | slice t x lo hi mx=>
  cases mx with
  | none=>
   simp only [Au]
   split
   ·rfl
   ·rename_i e i e1 e2
    rw [h i (B6 e2)]
   ·rename_i e i o0 n0 s0 e1 e2
    rw [h i (G2 e2)]
   ·rfl
   ·rfl
  | some mx=>
   cases lo with
   | none=>rfl
   | some lo=>
    cases hi with
    | none=>rfl
    | some hi=>
     simp only [Au]
     split
     ·rename_i e i e1 e2
      rw [h i (B6 e2)]
     ·rfl
 | _=>rfl
mutual
theorem Po (f:Nat->Option Nat):∀ (d d':D),D.ren (λ _=>none) d=some d'->D.ren f d=some d'
 | .p x,d',h=>h
 | .o i off,d',h=>by simp [D.ren] at h
 | .os i,d',h=>by simp [D.ren] at h
 | .oe i k s off,d',h=>by simp [D.ren] at h
 | .ip c,d',h=>h
 | .any,d',h=>h
 | .nq _,d',h=>h
 | .osb _ _ _ _,d',h=>by simp [D.ren] at h
 | .oi _ _ _ _ _,d',h=>by simp [D.ren] at h
 | .fn g a b,d',h=>by
  simp only [D.ren] at h ⊢
  split at h
  ·rename_i a' b' h1 h2
   rw [Gn f a a' h1,Gn f b b' h2]
   exact h
  ·cases h
theorem Gn (f:Nat->Option Nat):∀ (l l':List D),D.renL (λ _=>none) l=some l'->D.renL f l=some l'
 | [],l',h=>h
 | d::r,l',h=>by
  simp only [D.renL] at h ⊢
  split at h
  ·rename_i d' r' h1 h2
   rw [Po f d d' h1,Gn f r r' h2]
   exact h
  ·cases h
end
mutual
theorem Nu (f:Nat->Option Nat):∀ (d d':AV),AV.ren (λ _=>none) d=some d'->AV.ren f d=some d'
 | .d x,d',h=>by
  simp only [AV.ren] at h ⊢
  split at h
  ·rename_i y hy
   rw [Po f x y hy];exact h
  ·cases h
 | .agg ds,d',h=>by
  simp only [AV.ren] at h ⊢
  split at h
  ·rename_i y hy
   rw [Gn f ds y hy];exact h
  ·cases h
 | .tup l,d',h=>by
  simp only [AV.ren] at h ⊢
  split at h
  ·rename_i y hy
   rw [Lu f l y hy];exact h
  ·cases h
theorem Lu (f:Nat->Option Nat):∀ (l l':List AV),AV.renL (λ _=>none) l=some l'->AV.renL f l=some l'
 | [],l',h=>h
 | d::r,l',h=>by
  simp only [AV.renL] at h ⊢
  split at h
  ·rename_i d' r' h1 h2
   rw [Nu f d d' h1,Lu f r r' h2]
   exact h
  ·cases h
end
theorem Rw {args:List AV} {f:FuncId} {c:Cl} {out:Out} (hn:Us c=true) (hc:Pq c=true)
  (h:C4 R args f c=some out):out.R=R/\C4 R' args f c=some {out with R:=R'}:=by
 unfold Us at hn
 split at hn
 ·rename_i g q1 q2 res R2 pi
  simp only [aa,bK] at hn
  obtain⟨rfl,rfl⟩:=hn
  obtain⟨res',hres⟩:=Option.isSome_iff_exists.1 hc
  unfold C4 at h ⊢
  simp only at h ⊢
  generalize hbb:(Nat.beq f g&&Cg []&&Nat.ble ([]:List Nat).length ([]:List Res).length)=bb at h ⊢
  cases bb with
  | false=>simp at h
  | true=>
   simp only [cond_true] at h ⊢
   split at h
   ·rename_i a' Rp e1 e2
    rw [e1]
    simp only [E5] at e2 ⊢
    simp only [ah] at e2
    subst e2
    simp only [Eb,Nu _ res res' hres] at h ⊢
    simp at h;subst h
    simp [B5]
   ·cases h
 ·cases hn
theorem I7:∀ {l:List D},(∀ i,i∈N5 l->R[i]? = R'[i]?)->Dt R l=Dt R' l
 | [],_=>rfl
 | d::r,h=>by
  have ih:Dt R r=Dt R' r:=I7 λ i hi=>h i (by cases d <;> simp [N5,hi])
  have hd:E2 R d=E2 R' d:=by
   cases d with
   | os i=>simp only [E2];rw [h i (by simp [N5])]
   | _=>rfl
  simp only [Dt,ih,hd]
mutual
theorem Lv {rw:List Pd}:∀ {d:D},(∀ i,i∈d.touchV R->R[i]? = R'[i]?)->d.view R rw=d.view R' rw
 | .p _,_=>rfl
 | .ip _,_=>rfl
 | .any,_=>rfl
 | .nq _,_=>rfl
 | .oe _ _ _ _,_=>rfl
 | .osb i _ _ _,h=>by simp only [D.view];rw [h i (by simp [D.touchV])]
 | .oi _ g _ _ _,h=>by simp only [D.view];rw [h g (by simp [D.touchV])]
 | .os i,h=>by simp only [D.view];rw [h i (by simp [D.touchV])]
 | .o i off,h=>by
  have h0:=h i (by simp [D.touchV])
  simp only [D.view]
  rw [←h0]
  cases hi:R[i]? with
  | none=>rfl
  | some r=>cases r with
   | box t cells=>
    simp only
    rw [I7 (R':=R') λ k hk=>h k (by simp only [D.touchV,hi];exact aj _ hk)]
   | _=>rfl
 | .fn g a b,h=>by
  have h1:=Fe (rw:=rw) (l:=a) λ i hi=>h i (by simp only [D.touchV];exact bc _ hi)
  have h2:=Fe (rw:=rw) (l:=b) λ i hi=>h i (by simp only [D.touchV];exact bd _ hi)
  simp only [D.view,h1,h2]
theorem Fe {rw:List Pd}:∀ {l:List D},(∀ i,i∈b9 R l->R[i]? = R'[i]?)->D.viewL R rw l=D.viewL R' rw l
 | [],_=>rfl
 | d::r,h=>by
  have h1:=Lv (rw:=rw) (d:=d) λ i hi=>h i (by simp only [b9];exact bc _ hi)
  have h2:=Fe (rw:=rw) (l:=r) λ i hi=>h i (by simp only [b9];exact bd _ hi)
  simp only [D.viewL,h1,h2]
end
theorem Te {rw:List Pd} {x:AV} (h:∀ i,i∈x.touchV R->R[i]? = R'[i]?):x.view R rw=x.view R' rw:=by
 cases x with
 | d x=>simp only [AV.view];rw [Lv (R':=R') h]
 | agg l=>simp only [AV.view];rw [Fe (R':=R') h]
 | tup l=>rfl
theorem I9 {rw:List Pd}:∀ {l:List AV},(∀ x,x∈l->∀ i,i∈x.touchV R->R[i]? = R'[i]?)->AV.viewL R rw l=AV.viewL R' rw l
 | [],_=>rfl
 | x::r,h=>by
  have h1:=Te (rw:=rw) (x:=x) (h x al)
  have h2:=I9 (rw:=rw) (l:=r) λ y hy=>h y (aj _ hy)
  simp only [AV.viewL,h1,h2]
theorem Mt {e:Ent} {i:Nat}:∀ {L:List Ent},e∈L->i∈e.v.touchV R->i∈touchV R L
 | [],h,_=>by cases h
 | x::r,h,hi=>by
  simp only [touchV]
  rcases ag.1 h with rfl | h
  ·exact bc _ hi
  ·exact bd _ (Mt h hi)
theorem T7 {i:Nat}:∀ {l:List Value} {ds:List D},Cc l=some ds->i∉b9 R ds
 | [],ds,h=>by simp [Cc] at h;subst h;simp [b9]
 | v::l,ds,h=>by
  simp only [Cc] at h
  split at h
  ·rename_i d r h1 h2
   simp at h;subst h
   unfold dOf at h1
   cases hb:v.oneCell' with
   | false=>rw [hb] at h1;simp at h1
   | true=>rw [hb] at h1;simp at h1;subst h1;simpa [b9,D.touchV] using T7 h2
  ·cases h
theorem Vi {v:Value} {x:AV} {i:Nat} (h:G9 v=some x):i∉x.touchV R:=by
 unfold G9 at h
 split at h
 ·cases hd:Cc (_:Array Value).toList with
  | none=>rw [hd] at h;cases h
  | some ds=>rw [hd] at h;simp at h;subst h;exact T7 hd
 ·cases h
 ·cases hd:dOf v with
  | none=>rw [hd] at h;cases h
  | some d=>
   rw [hd] at h;simp at h;subst h
   unfold dOf at hd
   cases hb:v.oneCell' with
   | false=>rw [hb] at hd;simp at hd
   | true=>rw [hb] at hd;simp at hd;subst hd;simp [AV.touchV,D.touchV]
theorem Ej {x:Operand} {v:AV} {i:Nat} (h:Aq L cur x=some v) (hi:i∈v.touchV R):i∈touchV R L:=by
 unfold Aq at h
 split at h
 ·exact absurd hi (Vi h)
 ·split at h
  ·rename_i e he
   cases hb:Cn e.p cur with
   | false=>rw [hb] at h;simp at h
   | true=>rw [hb] at h;simp at h;subst h;exact Mt (Bi he).1 hi
  ·cases h
 ·simp at h;subst h;simp [AV.touchV,D.touchV,b9] at hi
 ·cases h
theorem J2 {d:D}:d.norm.touchV R=d.touchV R:=by
 unfold D.norm;split <;> rfl
theorem I8:∀ {l:List D},b9 R (l.map D.norm)=b9 R l
 | []=>rfl
 | d::r=>by simp only [bD,b9,J2,I8]
theorem Ti {x:AV}:x.norm.touchV R=x.touchV R:=by
 cases x with
 | d x=>exact J2
 | agg l=>exact I8
 | tup l=>rfl
theorem Gk {g k:Nat}:∀ {d:D},(g,k)∈d.ois->g∈d.touchV R
 | .oi _ _ _ _ _,h=>by simp [D.ois] at h;simp [D.touchV,h.1]
 | .fn f a b,h=>by
  have key:∀ {l:List D},(∀ d,d∈l->(g,k)∈d.ois->g∈d.touchV R)->(g,k)∈ca l->g∈b9 R l:=by
   intro l
   induction l with
   | nil=>intro _ h;simp [ca] at h
   | cons d l ih=>
    intro hh h
    simp only [ca,az] at h
    simp only [b9,az]
    rcases h with h | h
    ·exact .inl (hh d al h)
    ·exact .inr (ih (λ d hd=>hh d (aj _ hd)) h)
  simp only [D.ois,az] at h
  simp only [D.touchV,az]
  rcases h with h | h
  ·exact .inl (key (λ d _ h=>Gk h) h)
  ·exact .inr (key (λ d _ h=>Gk h) h)
 | .p _,h=>by simp [D.ois] at h
 | .o _ _,h=>by simp [D.ois] at h
 | .os _,h=>by simp [D.ois] at h
 | .oe _ _ _ _,h=>by simp [D.ois] at h
 | .osb _ _ _ _,h=>by simp [D.ois] at h
 | .ip _,h=>by simp [D.ois] at h
 | .any,h=>by simp [D.ois] at h
 | .nq _,h=>by simp [D.ois] at h
theorem Jm {g k:Nat}:∀ {l:List D},(g,k)∈ca l->g∈b9 R l
 | [],h=>by simp [ca] at h
 | d::l,h=>by
  simp only [ca,az] at h
  simp only [b9,az]
  exact h.imp Gk Jm
theorem Lm {g k:Nat}:∀ {l:List AV},(g,k)∈oisL l->∃ x,x∈l/\g∈x.touchV R
 | [],h=>by simp [oisL] at h
 | x::l,h=>by
  simp only [oisL,az] at h
  rcases h with h | h
  ·refine⟨x,al,?_⟩
   cases x with
   | d x=>exact Gk h
   | agg l=>exact Jm h
   | tup l=>simp [AV.ois] at h
  ·obtain⟨y,h1,h2⟩:=Lm h
   exact⟨y,aj _ h1,h2⟩
theorem Py {args:List AV} {f g:FuncId} {q:List AV} {res:AV} {rows:List (List Pd)} {k:Nat} {rw:List Pd} {out:Out} (ht:∀ x,x∈args->∀ i,i∈x.touchV R->R[i]? = R'[i]?)
  (h:C4 R args f (.callB g q res rows k rw)=some out):out.R=R/\C4 R' args f (.callB g q res rows k rw)=some {out with R:=R'}:=by
 simp only [C4] at h ⊢
 generalize (Nat.beq f g&&res.flat)=bb at h ⊢
 have hview:∀ rw,AV.viewL R rw (args.map AV.norm)=AV.viewL R' rw (args.map AV.norm):=λ rw=>I9 (R:=R) (R':=R') (l:=args.map AV.norm) λ x hx i hi=>by
  obtain⟨y,hy,rfl⟩:=aV.1 hx
  rw [Ti] at hi
  exact ht y hy i hi
 cases bb with
 | false=>simp at h
 | true=>
  simp only [cond_true] at h ⊢
  split at h
  ·rw [←hview]
   split at h
   ·rename_i a' e1
    simp at h;subst h
    exact⟨rfl,rfl⟩
   ·cases h
  ·rename_i g0 k0 ho
   obtain⟨x,h1,h2⟩:=Lm (R:=R) (l:=args) (g:=g0) (k:=k0) (by rw [ho];simp)
   rw [←hview,←ht x h1 g0 h2]
   split at h
   ·simp at h;subst h
    exact⟨rfl,rfl⟩
   ·cases h
  ·cases h
theorem Rk {g:Fn} {first caps:List D} {args:List AV} {x:AV} {i:Nat} {f:Operand} {l:List Operand} (e1:Aq L cur f=some (.d (.fn g first caps))) (e2:Bu L cur l=some args)
  (hx:x∈first.map AV.d++args++caps.map AV.d) (hi:i∈x.touchV R):i∈touchV R L:=by
 have hd:∀ {ds:List D} {d:D},d∈ds->i∈d.touchV R->i∈b9 R ds:=by
  intro ds
  induction ds with
  | nil=>intro d h;cases h
  | cons a r ih=>
   intro d h hi
   simp only [b9]
   rcases ag.1 h with rfl | h
   ·exact bc _ hi
   ·exact bd _ (ih h hi)
 rcases az.1 hx with hx | hx
 ·rcases az.1 hx with hx | hx
  ·obtain⟨d,hm,rfl⟩:=aV.1 hx
   exact Ej e1 (by simp only [AV.touchV,D.touchV];exact bc _ (hd hm hi))
  ·obtain⟨z,hz⟩:=B4 e2 hx
   exact Ej hz hi
 ·obtain⟨d,hm,rfl⟩:=aV.1 hx
  exact Ej e1 (by simp only [AV.touchV,D.touchV];exact bd _ (hd hm hi))
theorem Lk {c : Cl} {o : Oper} {out : Out} (hq : C3 c o = true) (ht0 : ∀ i, i ∈ deepen R (Fi o.op L) ++ Y7 c R L -> R[i]? = R'[i]?) (h : Eh P L cur R c o = some out) :
    out.R=R/\Eh P L cur R' c o=some {out with R:=R'}:=by
  have ht:∀ i,i∈deepen R (Fi o.op L)->R[i]? = R'[i]?:=λ i hi=>ht0 i (bc _ hi)
  unfold Eh at h ⊢
  rw [←Rr ht]
  split at h
  · rename_i v k hv
    simp at h;subst h
    exact⟨rfl,rfl⟩
  · rename_i hv
    obtain⟨dst,op,type,pos,after,guard⟩:=o
    simp only at h ⊢
    cases op with
    | box t x=>simp [C3] at hq
    | alloc t=>simp [C3] at hq
    | store t x y=>simp [C3] at hq
    | makeSlice t x y=>simp [C3] at hq
    | convert s d x=>
      simp only at h ⊢
      unfold H5 at h ⊢
      split at h
      · split at h
        · simp at h;subst h;exact⟨rfl,rfl⟩
        · cases h
      · cases h
    | buildSlice t len parts=>
      simp only [C3,bE] at hq
      simp only at h ⊢
      split at h
      · rename_i ps e1
        unfold Dj at h ⊢
        rw [hq] at h ⊢
        split at h
        · rename_i e hu
          split at h
          · rename_i size zs e2 e3
            cases hb:(Nat.beq zs.length (size+1)&&Nat.ble (len*(size+1)) 16777216) with
            | false=>rw [hb] at h;simp at h
            | true=>
              rw [hb] at h
              simp only [cond_true,cond_false] at h ⊢
              split at h
              · rename_i pd hpd
                simp at h;subst h
                exact⟨rfl,rfl⟩
              · cases h
          · cases h
        · cases h
      · cases h
    | call kk=>
      obtain⟨callee,cargs,argTypes⟩:=kk
      cases callee with
      | invoke r m=>simp at h
      | builtin b=>cases b <;> first | (simp [C3] at hq;done) | (simp at h;done)
      | value f=>
        simp only [C3,aR,aa] at hq
        simp only at h ⊢
        split at h
        · rename_i g first caps args e1 e2
          cases c with
          | callB g' q res rows k rw=>
            exact Py (λ x hx i hi=>ht0 i (bd _ (Rk e1 e2 hx hi))) h
          | _=>first
            | (rcases hq with hq | hq
               · simp [U0] at hq
               · exact Rw hq.1 hq.2 h)
        · cases h
    | _=>simp at h
theorem L9:∀ {l:List Nat} {t:Nat},Jp l t=true↔t∈l
 | [],t=>by simp [Jp]
 | a::r,t=>by
  simp only [Jp,aR,ag,L9]
  constructor
  ·rintro (h | h)
   ·exact .inl (af h).symm
   ·exact .inr h
  ·rintro (h | h)
   ·subst h;exact .inl (by simp)
   ·exact .inr h
theorem Pz {c : Cl} {ts : List TypeId} {j : Nat} {y : AV} {out : Out} {i : Nat} (h : Bj P R c ts [.d (.os j), y] = some out) (hi : i < R.length) (hj : i ≠ j) : out.R[i]? = R[i]? := by
 match ts,h with
 | [t, u], h =>
  simp only [Bj] at h
  cases hts2:Nat.beq t u with
  | false=>rw [hts2] at h;simp at h
  | true =>
   rw [hts2] at h
   simp only [cond_true] at h
   split at h
   ·split at h
    ·split at h
     ·generalize (Nat.beq _ (_+1))=bb at h
      cases bb with
      | false=>simp at h
      | true=>
       simp only [cond_true] at h
       split at h
       ·generalize (Nat.beq _ _&&Nat.beq _ _)=bb at h
        cases bb with
        | false=>simp at h
        | true=>
         simp at h;subst h
         simp only
         rw [ap (by simpa using hi),aI (aJ hj)]
       ·cases h
     ·cases h
    ·cases h
   ·cases h
 | [],h=>simp [Bj] at h
 | [_],h=>simp [Bj] at h
 | _::_::_::_,h=>simp [Bj] at h
theorem Oj {c:Cl} {ts:List TypeId} {i' g k size off:Nat} {y:AV} {out:Out} {i:Nat} (h:Ew P R c ts i' g k size off y=some out) (hi:i<R.length) (h1:i≠i') (h2:i≠g):out.R[i]? = R[i]?:=by
 unfold Ew at h
 split at h
 ·split at h
  ·generalize ((_&&_:Bool))=bb at h
   cases bb with
   | false=>simp at h
   | true=>
    simp only [cond_true] at h
    split at h
    ·rename_i v' R' a b z m r' hap
     simp at h;subst h
     have:=Pz (i:=i) hap (by simp;omega) (by omega)
     simp only at this ⊢
     rw [this,ap (by simpa using hi),aI (aJ h1),aI (aJ h2)]
    ·cases h
  ·cases h
 ·cases h
theorem Oi {c:Cl} {ts:List TypeId} {i' n s:Nat} {y:AV} {out:Out} {i:Nat} (h:Ev P R c ts i' n s y=some out) (h1:i≠i'):out.R[i]? = R[i]?:=by
 unfold Ev at h
 split at h
 ·generalize (Nat.beq _ _)=bb at h
  cases bb with
  | false=>simp at h
  | true=>
   simp only [cond_true] at h
   split at h
   ·split at h
    ·split at h
     ·generalize (Nat.beq _ _&&Nat.beq _ _)=bb at h
      cases bb with
      | false=>simp at h
      | true=>
       simp at h;subst h
       simp only
       rw [aI (aJ h1)]
     ·cases h
    ·cases h
   ·cases h
 ·cases h
theorem Lq {x:AV} {i lo n s:Nat} {a:Operand} (h:Kx R x=some (i,lo,n,s)) (hl:Aq L cur a=some x):i∈A3 L:=by
 unfold Kx at h
 split at h
 ·split at h
  ·simp at h;obtain⟨rfl,_⟩:=h;exact B6 hl
  ·cases h
 ·simp at h;obtain⟨rfl,_⟩:=h;exact G2 hl
 ·cases h
theorem Rv {c:Cl} {ts:List TypeId} {l:List Operand} {args:List AV} {out:Out} {i:Nat} (h:H6 P R c ts args=some out) (hl:Bu L cur l=some args) (h1:i∉A3 L):out.R[i]? = R[i]?:=by
 unfold H6 at h
 split at h
 ·rename_i x
  split at h
  ·split at h
   ·rename_i hd
    split at h
    ·generalize ((_&&_:Bool))=bb at h
     cases bb with
     | false=>simp at h
     | true=>
      simp only [cond_true,ah] at h;subst h
      obtain⟨z,hz⟩:=B4 hl (av:=x) (by simp)
      have:=Lq hd hz
      simp only
      rw [aI]
      rintro rfl
      exact h1 this
    ·cases h
   ·cases h
  ·cases h
 ·cases h
theorem Tp {c:Cl} {ts:List TypeId} {l:List Operand} {args:List AV} {out:Out} {i:Nat} (h:J1 P R c ts args=some out) (hl:Bu L cur l=some args) (h1:i∉A3 L):out.R[i]? = R[i]?:=by
 unfold J1 at h
 split at h
 ·rename_i x y
  split at h
  ·split at h
   ·rename_i hd
    split at h
    ·generalize ((_&&_:Bool))=bb at h
     cases bb with
     | false=>simp at h
     | true=>
      simp only [cond_true,ah] at h;subst h
      obtain⟨z,hz⟩:=B4 hl (av:=x) (by simp)
      have:=Lq hd hz
      simp only
      rw [aI]
      rintro rfl
      exact h1 this
    ·cases h
   ·cases h
  ·cases h
 ·cases h
theorem To {c:Cl} {o:Oper} {i' k size off n:Nat} {ds:List D} {out:Out} {i:Nat} (h:Jz R c o i' k size off ds n=some out) (hi:i<R.length) (h1:i≠i') (h2:∀ e s g,R[i']? = some (.dsl e s g)->i≠g) (h3:∀ m,ds=[.os m]->i≠m):out.R[i]? = R[i]?:=by
 unfold Jz at h
 split at h
 next e s g m q1 q2 q3 row q4 rows' hj=>
  split at h
  ·split at h
   ·generalize ((_&&_:Bool))=bb at h
    cases bb with
    | false=>simp at h
    | true=>
     simp only [cond_true,ah] at h;subst h
     have hgi:=h2 _ _ _ hj
     have hmi:=h3 _ rfl
     simp only
     rw [ap (by simpa using hi),aI (aJ h1),aI (aJ hgi),aI (aJ hmi)]
   ·cases h
  ·cases h
 next=>cases h
theorem Tn {c:Cl} {o:Oper} {i' k size off n:Nat} {ds:List D} {out:Out} {i:Nat} (h:Jy R c o i' k size off ds n=some out) (h1:i≠i') (h3:∀ m,ds=[.os m]->i≠m):out.R[i]? = R[i]?:=by
 unfold Jy at h
 split at h
 ·rename_i m
  have hm:=h3 m rfl
  split at h
  ·cases hb:Nat.beq m i' with
   | true=>rw [hb] at h;simp at h
   | false=>
    rw [hb] at h
    simp only [cond_false] at h
    unfold Iy at h
    split at h
    ·generalize (Nat.beq _ _&&(Nat.beq _ _&&(Nat.ble _ _&&Option.isNone _)))=bb at h
     cases bb with
     | false=>simp at h
     | true=>
      simp at h;subst h
      simp only
      rw [aI (aJ h1),aI (aJ hm)]
    ·cases h
  ·cases h
 ·cases h
theorem Xx {c : Cl} {o : Oper} {out : Out} {i : Nat} {cs : List (Bool × Bool)} (h : Eh P L cur R c o = some out) (hi : i < R.length) (hw : i ∉ Bg ⟨0, o, L, cur, cs, c, R, out, true, false, none⟩) : out.R[i]? = R[i]? := by
  unfold Eh at h
  split at h
  · simp at h;subst h;rfl
  · obtain ⟨dst, op, type, pos, after, guard⟩ := o
    simp only at h
    cases op with
    | box t x=>
      simp only at h
      split at h
      · generalize (Nat.beq _ _)=bb at h
        cases bb with
        | false=>simp at h
        | true=>simp at h;subst h;simp [List.getElem?_append_left hi]
      · cases h
    | alloc t=>
      simp only at h
      split at h
      · simp at h;subst h;simp [List.getElem?_append_left hi]
      · cases h
    | store t x y =>
      simp only at h
      cases hc:cur.isEmpty with
      | false=>rw [hc] at h;simp at h
      | true=>
        rw [hc] at h
        simp only [cond_true] at h
        split at h
        · rename_i j off ds n e1 e2 e3
          split at h
          · generalize (Nat.beq _ _&&Nat.ble _ _&&Option.isNone _)=bb at h
            cases bb with
            | false=>simp at h
            | true=>
              simp at h;subst h
              simp only [Bg,e1,bF] at hw
              simp only
              rw [aI (aJ hw)]
          · cases h
        · rename_i j k size off ds n e1 e2 e3
          simp only [Bg,e1,ag,not_or] at hw
          obtain⟨hw1,hw2⟩:=hw
          split at h
          · rename_i out' hput
            simp at h;subst h
            unfold Iy at hput
            split at hput
            · generalize (Nat.beq _ _&&(Nat.beq _ _&&(Nat.ble _ _&&Option.isNone _)))=bb at hput
              cases bb with
              | false=>simp at hput
              | true=>
                simp at hput;subst hput
                simp only
                rw [aI (aJ hw1)]
            · cases hput
          · have hms:∀ m,ds=[.os m]->i≠m:=by
              intro m hds
              rintro rfl
              subst hds
              refine hw2 (bd _ ?_)
              obtain⟨av,h1,h2⟩:=Ah e2
              cases av with
              | d x=>simp [Dw] at h2;subst h2;exact Ej h1 (by simp [AV.touchV,D.touchV])
              | agg l=>simp [Dw] at h2;subst h2;exact Ej h1 (by simp [AV.touchV,D.touchV,b9])
              | tup l=>simp [Dw] at h2
            split at h
            · rename_i out' hput
              simp at h;subst h
              refine To hput hi hw1 (λ e s g hj=>?_) hms
              rintro rfl
              exact hw2 (bc _ (R5 (G1 e1) hj))
            · exact Tn h hw1 hms
        · cases h
    | buildSlice t len parts=>
      simp only at h
      split at h
      · unfold Dj at h
        split at h
        · split at h
          · generalize (Nat.beq _ _&&Nat.ble _ _)=bb at h
            cases bb with
            | false=>simp at h
            | true=>
              simp only [cond_true] at h
              split at h
              · cases ho:Kr c with
                | true=>rw [ho] at h;simp at h;subst h;simp [List.getElem?_append_left hi]
                | false=>rw [ho] at h;simp at h;subst h;rfl
              · cases h
          · cases h
        · cases h
      · cases h
    | convert s d x=>
      simp only at h
      unfold H5 at h
      split at h
      · split at h
        · simp at h;subst h;rfl
        · cases h
      · cases h
    | makeSlice t x y=>
      simp only at h
      generalize (Fj x y)=bb at h
      cases bb with
      | false=>simp at h
      | true=>
        simp only [cond_true] at h
        unfold F4 at h
        split at h
        · split at h
          · split at h
            · generalize (Nat.beq _ _)=bb at h
              cases bb with
              | false=>simp at h
              | true=>simp at h;subst h;simp [List.getElem?_append_left hi]
            · cases h
          · cases h
        · split at h
          · split at h
            · generalize (Nat.beq _ _&&_)=bb at h
              cases bb with
              | false=>simp at h
              | true=>simp at h;subst h;simp [List.getElem?_append_left hi]
            · cases h
          · cases h
        · cases h
    | call kk =>
      obtain⟨callee,cargs,argTypes⟩:=kk
      cases callee with
      | invoke r m=>simp at h
      | builtin b=>
        cases b <;> first
          | (simp at h;done)
          | (simp only at h
             split at h
             · rename_i args e1
               first
                 | exact Rv h e1 (by simpa [Bg] using hw)
                 | exact Tp h e1 (by simpa [Bg] using hw)
             · cases h
             done)
          | (simp only at h
             split at h
             · rename_i i' g q size off y e1
               have hall:=e1
               obtain⟨z,hz⟩:=B4 e1 (av:=.d (.oi i' g q size off)) (by simp)
               obtain⟨hi1,hg1⟩:=Px hz
               have hii:i≠i':=by rintro rfl;exact hw (by simpa [Bg] using hi1)
               have hig:i≠g:=by rintro rfl;exact hw (by simpa [Bg] using hg1)
               exact Oj h hi hii hig
             · rename_i i' n s y e1
               obtain⟨z,hz⟩:=B4 e1 (av:=.d (.osb i' 0 n s)) (by simp)
               have hi1:=G2 hz
               have hii:i≠i':=by rintro rfl;exact hw (by simpa [Bg] using hi1)
               exact Oi h hii
             · rename_i args _ _ e1
               unfold Bj at h
               split at h
               · rename_i t u x y hts
                 generalize (Nat.beq _ _)=bb at h
                 cases bb with
                 | false=>simp at h
                 | true=>
                   simp only [cond_true] at h
                   split at h
                   · split at h
                     · split at h
                       · generalize (Nat.beq _ _)=bb at h
                         cases bb with
                         | false=>simp at h
                         | true=>
                           simp only [cond_true] at h
                           split at h
                           · simp at h;subst h;simp [List.getElem?_append_left hi]
                           · rename_i j
                             split at h
                             · generalize (Nat.beq _ _&&Nat.beq _ _)=bb at h
                               cases bb with
                               | false=>simp at h
                               | true=>
                                 simp at h;subst h
                                 obtain⟨z,hz⟩:=B4 e1 (av:=.d (.os _)) al
                                 have hj:=B6 hz
                                 simp only
                                 rw [ap (by simpa using hi),aI]
                                 rintro rfl
                                 refine hw ?_
                                 simpa [Bg] using hj
                             · cases h
                           · cases h
                       · cases h
                     · cases h
                   · cases h
               · cases h
             · cases h)
      | value f =>
        simp only at h
        split at h
        · rename_i g first caps args e1 e2
          cases c with
          | call f' q1 q2 res R2 pi =>
            simp only [C4] at h
            generalize (Nat.beq g f'&&Cg pi&&Nat.ble pi.length R2.length)=bb at h
            cases bb with
            | false=>simp at h
            | true=>
              simp only [cond_true] at h
              split at h
              · split at h
                · rename_i Rp2 res2 RR e3 e4 e5
                  simp at h;subst h
                  simp only [Bg] at hw
                  simp only
                  rw [ap (by rw [B_];exact hi)]
                  cases hg:R[i]? with
                  | none=>rw [List.getElem?_eq_none_iff] at hg;omega
                  | some r=>
                    have hlt:i<(B5 R pi RR).length:=by rw [B_];exact hi
                    rcases Im pi R _ i _ (an hlt) with⟨j,h1,_⟩ | ⟨h1,_⟩
                    · exact absurd (aq h1) hw
                    · rw [an hlt,←h1,hg]
                · cases h
              · cases h
          | callB f' q1 res rows0 k0 rw0=>
            simp only [C4] at h
            generalize (Nat.beq g f'&&res.flat)=bb at h
            cases bb with
            | false=>simp at h
            | true=>
              simp only [cond_true] at h
              split at h
              · split at h
                · simp at h;subst h;rfl
                · cases h
              · split at h
                · simp at h;subst h;rfl
                · cases h
              · cases h
          | _=>simp [C4] at h
        · cases h
    | _=>simp at h
end
end Go.SL
