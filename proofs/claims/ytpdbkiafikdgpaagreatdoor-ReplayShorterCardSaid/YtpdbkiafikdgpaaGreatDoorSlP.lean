import Derived.Test.YtpdbkiafikdgpaaGreatDoorSlO
namespace Go.SL
section
variable {P:Program} {C:Ctx} {S S':Nat->Prop} {w w':World} {ρ ρ':List Value} {R R':List Res} {L:List Ent} {cur:Cg} {a:Act}
theorem zV:∀ {L:List Ent} {e:Ent} {i off:Nat},e∈L->e.v = .d (.o i off)->i∈Cc L
 | x::r,e,i,off,h,hv=>by
  rcases ah.1 h with rfl | h
  ·simp [Cc,hv]
  ·have:=zV h hv
   unfold Cc;split <;> simp [this]
 | [],_,_,_,h,_=>by cases h
theorem Wb:∀ {L:List Ent} {e:Ent} {i:Nat},e∈L->e.v = .d (.os i)->i∈Cc L
 | x::r,e,i,h,hv=>by
  rcases ah.1 h with rfl | h
  ·simp [Cc,hv]
  ·have:=Wb h hv
   unfold Cc;split <;> simp [this]
 | [],_,_,h,_=>by cases h
theorem Wc:∀ {L:List Ent} {e:Ent} {i a b c:Nat},e∈L->e.v = .d (.oe i a b c)->i∈Cc L
 | x::r,e,i,a,b,c,h,hv=>by
  rcases ah.1 h with rfl | h
  ·simp [Cc,hv]
  ·have:=Wc h hv
   unfold Cc;split <;> simp [this]
 | [],_,_,_,_,_,h,_=>by cases h
theorem Wd:∀ {L:List Ent} {e:Ent} {i a b c:Nat},e∈L->e.v = .d (.osb i a b c)->i∈Cc L
 | x::r,e,i,a,b,c,h,hv=>by
  rcases ah.1 h with rfl | h
  ·simp [Cc,hv]
  ·have:=Wd h hv
   unfold Cc;split <;> simp [this]
 | [],_,_,_,_,_,h,_=>by cases h
theorem Ri:∀ {L:List Ent} {e:Ent} {i g a b c:Nat},e∈L->e.v = .d (.oi i g a b c)->i∈Cc L/\g∈Cc L
 | x::r,e,i,g,a,b,c,h,hv=>by
  rcases ah.1 h with rfl | h
  ·simp [Cc,hv]
  ·have:=Ri h hv
   unfold Cc;split <;> simp [this]
 | [],_,_,_,_,_,_,h,_=>by cases h
theorem Z5 {i g e s:Nat}:∀ {l:List Nat},i∈l->R[i]? = some (.dsl e s g)->g∈Ou R l
 | [],h,_=>by cases h
 | j::l,h,hi=>by
  rcases ah.1 h with rfl | h
  ·simp [Ou,hi]
  ·have:=Z5 h hi
   unfold Ou;split <;> simp [this]
theorem An6 {i:Nat} {l:List Nat} (h:i∈l):i∈deepen R l:=bB _ h
theorem Agm {i g e s:Nat} {l:List Nat} (h:i∈l) (hi:R[i]? = some (.dsl e s g)):g∈deepen R l:=bC _ (Z5 h hi)
theorem Oy {v:Value} {i off a b c:Nat}:Mt v≠some (.d (.o i off))/\Mt v≠some (.d (.os i))/\Mt v≠some (.d (.oe i a b c))/\Mt v≠some (.d (.osb i a b c))/\∀ g,Mt v≠some (.d (.oi i g a b c)):=by
 unfold Mt
 split
 ·refine⟨?_,?_,?_,?_,λ _=>?_⟩ <;> (cases Eg (_:Array Value).toList <;> simp)
 ·simp
 ·refine⟨?_,?_,?_,?_,λ _=>?_⟩ <;>
  ·cases h:dOf v with
   | none=>simp
   | some d=>
    unfold dOf at h
    cases hb:v.oneCell' with
    | true=>rw [hb] at h;simp at h;subst h;simp
    | false=>rw [hb] at h;simp at h
theorem Ani {x:Operand} {i off:Nat} (h:By L cur x=some (.d (.o i off))):i∈Cc L:=by
 unfold By at h
 split at h
 ·exact absurd h (Oy (a:=0) (b:=0) (c:=0)).1
 ·split at h
  ·rename_i e he
   cases hb:Ev e.p cur with
   | false=>rw [hb] at h;simp at h
   | true=>rw [hb] at h;simp at h;exact zV (Co he).1 h
  ·cases h
 ·simp at h
 ·cases h
theorem D4 {x:Operand} {i:Nat} (h:By L cur x=some (.d (.os i))):i∈Cc L:=by
 unfold By at h
 split at h
 ·exact absurd h (Oy (off:=0) (a:=0) (b:=0) (c:=0)).2.1
 ·split at h
  ·rename_i e he
   cases hb:Ev e.p cur with
   | false=>rw [hb] at h;simp at h
   | true=>rw [hb] at h;simp at h;exact Wb (Co he).1 h
  ·cases h
 ·simp at h
 ·cases h
theorem Mi {x:Operand} {i k s off:Nat} (h:By L cur x=some (.d (.oe i k s off))):i∈Cc L:=by
 unfold By at h
 split at h
 ·exact absurd h (Oy (off:=0)).2.2.1
 ·split at h
  ·rename_i e he
   cases hb:Ev e.p cur with
   | false=>rw [hb] at h;simp at h
   | true=>rw [hb] at h;simp at h;exact Wc (Co he).1 h
  ·cases h
 ·simp at h
 ·cases h
theorem Mj {x:Operand} {i k s off:Nat} (h:By L cur x=some (.d (.osb i k s off))):i∈Cc L:=by
 unfold By at h
 split at h
 ·exact absurd h (Oy (off:=0)).2.2.2.1
 ·split at h
  ·rename_i e he
   cases hb:Ev e.p cur with
   | false=>rw [hb] at h;simp at h
   | true=>rw [hb] at h;simp at h;exact Wd (Co he).1 h
  ·cases h
 ·simp at h
 ·cases h
theorem Ace {x:Operand} {i g k s off:Nat} (h:By L cur x=some (.d (.oi i g k s off))):i∈Cc L/\g∈Cc L:=by
 unfold By at h
 split at h
 ·exact absurd h ((Oy (off:=0)).2.2.2.2 g)
 ·split at h
  ·rename_i e he
   cases hb:Ev e.p cur with
   | false=>rw [hb] at h;simp at h
   | true=>rw [hb] at h;simp at h;exact Ri (Co he).1 h
  ·cases h
 ·simp at h
 ·cases h
theorem D0:∀ {l:List Operand} {avs:List AV} {av:AV},Dc L cur l=some avs->av∈avs->∃ x,By L cur x=some av
 | [],avs,av,h,hm=>by simp [Dc] at h;subst h;cases hm
 | x::r,avs,av,h,hm=>by
  simp only [Dc] at h
  split at h
  ·rename_i v l h1 h2
   simp at h;subst h
   rcases ah.1 hm with rfl | hm
   ·exact⟨x,h1⟩
   ·exact D0 h2 hm
  ·cases h
theorem Age {args:List AV} (h:∀ i,AV.d (.os i)∈args->R[i]? = R'[i]?) (hg:∀ i e s g,AV.d (.os i)∈args->R[i]? = some (.dsl e s g)->R[g]? = R'[g]?):Kl R args=Kl R' args:=by
 unfold Kl
 split
 ·rfl
 ·rfl
 ·rename_i i
  rw [←h i (by simp)]
  split
  ·rfl
  ·rename_i e s g hd
   rw [hg i e s g (by simp) hd]
  ·rfl
 ·rfl
 ·rfl
theorem Agb {c:Cl} {op:Op} (h0:∀ i,i∈deepen R (Ji op L)->R[i]? = R'[i]?):B2 P L cur R c op=B2 P L cur R' c op:=by
 have h:∀ i,i∈Ji op L->R[i]? = R'[i]?:=λ i hi=>h0 i (An6 hi)
 have hgh:∀ i e s g,i∈Ji op L->R[i]? = some (.dsl e s g)->R[g]? = R'[g]?:=λ i e s g hi hd=>h0 g (Agm hi hd)
 cases op with
 | load t x=>
  by_cases hg:∃ g,x = .global g
  ·obtain⟨g,rfl⟩:=hg
   rfl
  have e:∀ R,B2 P L cur R c (.load t x)=S7 P L cur R c t x:=λ R=>by
   cases x with
   | global g=>exact absurd ⟨g,rfl⟩ hg
   | _=>rfl
  rw [e,e]
  unfold S7
  split
  ·rename_i i off n e1 e2
   rw [h i (Ani e1)]
  ·rfl
  ·rename_i i k size off n e1 e2
   rw [←h i (Mi e1)]
   split
   ·rfl
   ·rename_i e s g _ _ _ hd
    rw [hgh i _ _ _ (Mi e1) hd]
   ·rfl
  ·rfl
 | indexAddr t x i=>
  simp only [B2]
  unfold Anx
  split
  ·rfl
  ·rename_i e j ik n e1 e2 e3
   rw [←h j (D4 e2)]
   split
   ·rfl
   ·rename_i e s g _ _ _ hd
    rw [hgh j _ _ _ (D4 e2) hd]
   ·rfl
  ·rfl
  ·rfl
  ·rfl
 | call k=>
  simp only [B2]
  split
  ·split
   ·rename_i args e1
    split
    ·split
     ·rw [Age (R':=R') (λ i hi=>by
       obtain⟨x,hx⟩:=D0 e1 hi
       exact h i (D4 hx)) (λ i e s g hi hd=>by
       obtain⟨x,hx⟩:=D0 e1 hi
       exact hgh i e s g (D4 hx) hd)]
     ·rfl
     ·rfl
    ·rfl
   ·rfl
  ·rfl
 | slice t x lo hi mx=>
  cases mx with
  | none=>
   simp only [B2]
   split
   ·rfl
   ·rename_i e i e1 e2
    rw [h i (D4 e2)]
   ·rename_i e i o0 n0 s0 e1 e2
    rw [h i (Mj e2)]
   ·rfl
  | some mx=>
   cases lo with
   | none=>rfl
   | some lo=>
    cases hi with
    | none=>rfl
    | some hi=>
     simp only [B2]
     split
     ·rename_i e i e1 e2
      rw [h i (D4 e2)]
     ·rfl
 | _=>rfl
mutual
theorem Abc (f:Nat->Option Nat):∀ (d d':D),D.ren (λ _=>none) d=some d'->D.ren f d=some d'
 | .p x,d',h=>h
 | .o i off,d',h=>by simp [D.ren] at h
 | .os i,d',h=>by simp [D.ren] at h
 | .oe i k s off,d',h=>by simp [D.ren] at h
 | .ip c,d',h=>h
 | .any,d',h=>h
 | .nq _,d',h=>h
 | .osb _ _ _ _,d',h=>by simp [D.ren] at h
 | .oi _ _ _ _ _,d',h=>by simp [D.ren] at h
 | .fn g a b,d',h=>by
  simp only [D.ren] at h ⊢
  split at h
  ·rename_i a' b' h1 h2
   rw [Lb f a a' h1,Lb f b b' h2]
   exact h
  ·cases h
theorem Lb (f:Nat->Option Nat):∀ (l l':List D),D.renL (λ _=>none) l=some l'->D.renL f l=some l'
 | [],l',h=>h
 | d::r,l',h=>by
  simp only [D.renL] at h ⊢
  split at h
  ·rename_i d' r' h1 h2
   rw [Abc f d d' h1,Lb f r r' h2]
   exact h
  ·cases h
end
mutual
theorem jR (f:Nat->Option Nat):∀ (d d':AV),AV.ren (λ _=>none) d=some d'->AV.ren f d=some d'
 | .d x,d',h=>by
  simp only [AV.ren] at h ⊢
  split at h
  ·rename_i y hy
   rw [Abc f x y hy];exact h
  ·cases h
 | .agg ds,d',h=>by
  simp only [AV.ren] at h ⊢
  split at h
  ·rename_i y hy
   rw [Lb f ds y hy];exact h
  ·cases h
 | .tup l,d',h=>by
  simp only [AV.ren] at h ⊢
  split at h
  ·rename_i y hy
   rw [Wm f l y hy];exact h
  ·cases h
theorem Wm (f:Nat->Option Nat):∀ (l l':List AV),AV.renL (λ _=>none) l=some l'->AV.renL f l=some l'
 | [],l',h=>h
 | d::r,l',h=>by
  simp only [AV.renL] at h ⊢
  split at h
  ·rename_i d' r' h1 h2
   rw [jR f d d' h1,Wm f r r' h2]
   exact h
  ·cases h
end
theorem Agg {args:List AV} {f:FuncId} {c:Cl} {out:Out} (hn:Am9 c=true) (hc:Abe c=true)
  (h:Fe R args f c=some out):out.R=R/\Fe R' args f c=some {out with R:=R'}:=by
 unfold Am9 at hn
 split at hn
 ·rename_i g q1 q2 res R2 pi
  simp only [ae,cG] at hn
  obtain⟨rfl,rfl⟩:=hn
  obtain⟨res',hres⟩:=Option.isSome_iff_exists.1 hc
  unfold Fe at h ⊢
  simp only at h ⊢
  generalize hbb:(Nat.beq f g&&D8 []&&Nat.ble ([]:List Nat).length ([]:List Res).length)=bb at h ⊢
  cases bb with
  | false=>simp at h
  | true=>
   simp only [cond_true] at h ⊢
   split at h
   ·rename_i a' Rp e1 e2
    rw [e1]
    simp only [I6] at e2 ⊢
    simp only [al] at e2
    subst e2
    simp only [Gw,jR _ res res' hres] at h ⊢
    simp at h;subst h
    simp [D2]
   ·cases h
 ·cases hn
theorem Q8:∀ {l:List D},(∀ i,i∈vC l->R[i]? = R'[i]?)->Gj R l=Gj R' l
 | [],_=>rfl
 | d::r,h=>by
  have ih:Gj R r=Gj R' r:=Q8 λ i hi=>h i (by cases d <;> simp [vC,hi])
  have hd:I3 R d=I3 R' d:=by
   cases d with
   | os i=>simp only [I3];rw [h i (by simp [vC])]
   | _=>rfl
  simp only [Gj,ih,hd]
mutual
theorem Wn {rw:List Pd}:∀ {d:D},(∀ i,i∈d.touchV R->R[i]? = R'[i]?)->d.view R rw=d.view R' rw
 | .p _,_=>rfl
 | .ip _,_=>rfl
 | .any,_=>rfl
 | .nq _,_=>rfl
 | .oe _ _ _ _,_=>rfl
 | .osb i _ _ _,h=>by simp only [D.view];rw [h i (by simp [D.touchV])]
 | .oi _ g _ _ _,h=>by simp only [D.view];rw [h g (by simp [D.touchV])]
 | .os i,h=>by simp only [D.view];rw [h i (by simp [D.touchV])]
 | .o i off,h=>by
  have h0:=h i (by simp [D.touchV])
  simp only [D.view]
  rw [←h0]
  cases hi:R[i]? with
  | none=>rfl
  | some r=>cases r with
   | box t cells=>
    simp only
    rw [Q8 (R':=R') λ k hk=>h k (by simp only [D.touchV,hi];exact ai _ hk)]
   | _=>rfl
 | .fn g a b,h=>by
  have h1:=Jh (rw:=rw) (l:=a) λ i hi=>h i (by simp only [D.touchV];exact bB _ hi)
  have h2:=Jh (rw:=rw) (l:=b) λ i hi=>h i (by simp only [D.touchV];exact bC _ hi)
  simp only [D.view,h1,h2]
theorem Jh {rw:List Pd}:∀ {l:List D},(∀ i,i∈cZ R l->R[i]? = R'[i]?)->D.viewL R rw l=D.viewL R' rw l
 | [],_=>rfl
 | d::r,h=>by
  have h1:=Wn (rw:=rw) (d:=d) λ i hi=>h i (by simp only [cZ];exact bB _ hi)
  have h2:=Jh (rw:=rw) (l:=r) λ i hi=>h i (by simp only [cZ];exact bC _ hi)
  simp only [D.viewL,h1,h2]
end
theorem Ajo {rw:List Pd} {x:AV} (h:∀ i,i∈x.touchV R->R[i]? = R'[i]?):x.view R rw=x.view R' rw:=by
 cases x with
 | d x=>simp only [AV.view];rw [Wn (R':=R') h]
 | agg l=>simp only [AV.view];rw [Jh (R':=R') h]
 | tup l=>rfl
theorem Ra {rw:List Pd}:∀ {l:List AV},(∀ x,x∈l->∀ i,i∈x.touchV R->R[i]? = R'[i]?)->AV.viewL R rw l=AV.viewL R' rw l
 | [],_=>rfl
 | x::r,h=>by
  have h1:=Ajo (rw:=rw) (x:=x) (h x aj)
  have h2:=Ra (rw:=rw) (l:=r) λ y hy=>h y (ai _ hy)
  simp only [AV.viewL,h1,h2]
theorem Y1 {e:Ent} {i:Nat}:∀ {L:List Ent},e∈L->i∈e.v.touchV R->i∈touchV R L
 | [],h,_=>by cases h
 | x::r,h,hi=>by
  simp only [touchV]
  rcases ah.1 h with rfl | h
  ·exact bB _ hi
  ·exact bC _ (Y1 h hi)
theorem Aln {i:Nat}:∀ {l:List Value} {ds:List D},Eg l=some ds->i∉cZ R ds
 | [],ds,h=>by simp [Eg] at h;subst h;simp [cZ]
 | v::l,ds,h=>by
  simp only [Eg] at h
  split at h
  ·rename_i d r h1 h2
   simp at h;subst h
   unfold dOf at h1
   cases hb:v.oneCell' with
   | false=>rw [hb] at h1;simp at h1
   | true=>rw [hb] at h1;simp at h1;subst h1;simpa [cZ,D.touchV] using Aln h2
  ·cases h
theorem Aok {v:Value} {x:AV} {i:Nat} (h:Mt v=some x):i∉x.touchV R:=by
 unfold Mt at h
 split at h
 ·cases hd:Eg (_:Array Value).toList with
  | none=>rw [hd] at h;cases h
  | some ds=>rw [hd] at h;simp at h;subst h;exact Aln hd
 ·cases h
 ·cases hd:dOf v with
  | none=>rw [hd] at h;cases h
  | some d=>
   rw [hd] at h;simp at h;subst h
   unfold dOf at hd
   cases hb:v.oneCell' with
   | false=>rw [hb] at hd;simp at hd
   | true=>rw [hb] at hd;simp at hd;subst hd;simp [AV.touchV,D.touchV]
theorem H6 {x:Operand} {v:AV} {i:Nat} (h:By L cur x=some v) (hi:i∈v.touchV R):i∈touchV R L:=by
 unfold By at h
 split at h
 ·exact absurd hi (Aok h)
 ·split at h
  ·rename_i e he
   cases hb:Ev e.p cur with
   | false=>rw [hb] at h;simp at h
   | true=>rw [hb] at h;simp at h;subst h;exact Y1 (Co he).1 hi
  ·cases h
 ·simp at h;subst h;simp [AV.touchV,D.touchV,cZ] at hi
 ·cases h
theorem Ta {d:D}:d.norm.touchV R=d.touchV R:=by
 unfold D.norm;split <;> rfl
theorem Q_:∀ {l:List D},cZ R (l.map D.norm)=cZ R l
 | []=>rfl
 | d::r=>by simp only [bO,cZ,Ta,Q_]
theorem Ajr {x:AV}:x.norm.touchV R=x.touchV R:=by
 cases x with
 | d x=>exact Ta
 | agg l=>exact Q_
 | tup l=>rfl
theorem K7 {g k:Nat}:∀ {d:D},(g,k)∈d.ois->g∈d.touchV R
 | .oi _ _ _ _ _,h=>by simp [D.ois] at h;simp [D.touchV,h.1]
 | .fn f a b,h=>by
  have key:∀ {l:List D},(∀ d,d∈l->(g,k)∈d.ois->g∈d.touchV R)->(g,k)∈dh l->g∈cZ R l:=by
   intro l
   induction l with
   | nil=>intro _ h;simp [dh] at h
   | cons d l ih=>
    intro hh h
    simp only [dh,az] at h
    simp only [cZ,az]
    rcases h with h | h
    ·exact .inl (hh d aj h)
    ·exact .inr (ih (λ d hd=>hh d (ai _ hd)) h)
  simp only [D.ois,az] at h
  simp only [D.touchV,az]
  rcases h with h | h
  ·exact .inl (key (λ d _ h=>K7 h) h)
  ·exact .inr (key (λ d _ h=>K7 h) h)
 | .p _,h=>by simp [D.ois] at h
 | .o _ _,h=>by simp [D.ois] at h
 | .os _,h=>by simp [D.ois] at h
 | .oe _ _ _ _,h=>by simp [D.ois] at h
 | .osb _ _ _ _,h=>by simp [D.ois] at h
 | .ip _,h=>by simp [D.ois] at h
 | .any,h=>by simp [D.ois] at h
 | .nq _,h=>by simp [D.ois] at h
theorem Sf {g k:Nat}:∀ {l:List D},(g,k)∈dh l->g∈cZ R l
 | [],h=>by simp [dh] at h
 | d::l,h=>by
  simp only [dh,az] at h
  simp only [cZ,az]
  exact h.imp K7 Sf
theorem Wi {g k:Nat}:∀ {l:List AV},(g,k)∈oisL l->∃ x,x∈l/\g∈x.touchV R
 | [],h=>by simp [oisL] at h
 | x::l,h=>by
  simp only [oisL,az] at h
  rcases h with h | h
  ·refine⟨x,aj,?_⟩
   cases x with
   | d x=>exact K7 h
   | agg l=>exact Sf h
   | tup l=>simp [AV.ois] at h
  ·obtain⟨y,h1,h2⟩:=Wi h
   exact⟨y,ai _ h1,h2⟩
theorem Aci {args:List AV} {f g:FuncId} {q:List AV} {res:AV} {rows:List (List Pd)} {k:Nat} {rw:List Pd} {out:Out} (ht:∀ x,x∈args->∀ i,i∈x.touchV R->R[i]? = R'[i]?)
  (h:Fe R args f (.callB g q res rows k rw)=some out):out.R=R/\Fe R' args f (.callB g q res rows k rw)=some {out with R:=R'}:=by
 simp only [Fe] at h ⊢
 generalize (Nat.beq f g&&res.flat)=bb at h ⊢
 have hview:∀ rw,AV.viewL R rw (args.map AV.norm)=AV.viewL R' rw (args.map AV.norm):=λ rw=>Ra (R:=R) (R':=R') (l:=args.map AV.norm) λ x hx i hi=>by
  obtain⟨y,hy,rfl⟩:=am.1 hx
  rw [Ajr] at hi
  exact ht y hy i hi
 cases bb with
 | false=>simp at h
 | true=>
  simp only [cond_true] at h ⊢
  split at h
  ·rw [←hview]
   split at h
   ·rename_i a' e1
    simp at h;subst h
    exact⟨rfl,rfl⟩
   ·cases h
  ·rename_i g0 k0 ho
   obtain⟨x,h1,h2⟩:=Wi (R:=R) (l:=args) (g:=g0) (k:=k0) (by rw [ho];simp)
   rw [←hview,←ht x h1 g0 h2]
   split at h
   ·simp at h;subst h
    exact⟨rfl,rfl⟩
   ·cases h
  ·cases h
theorem Af4 {g:Fn} {first caps:List D} {args:List AV} {x:AV} {i:Nat} {f:Operand} {l:List Operand} (e1:By L cur f=some (.d (.fn g first caps))) (e2:Dc L cur l=some args)
  (hx:x∈first.map AV.d++args++caps.map AV.d) (hi:i∈x.touchV R):i∈touchV R L:=by
 have hd:∀ {ds:List D} {d:D},d∈ds->i∈d.touchV R->i∈cZ R ds:=by
  intro ds
  induction ds with
  | nil=>intro d h;cases h
  | cons a r ih=>
   intro d h hi
   simp only [cZ]
   rcases ah.1 h with rfl | h
   ·exact bB _ hi
   ·exact bC _ (ih h hi)
 rcases az.1 hx with hx | hx
 ·rcases az.1 hx with hx | hx
  ·obtain⟨d,hm,rfl⟩:=am.1 hx
   exact H6 e1 (by simp only [AV.touchV,D.touchV];exact bB _ (hd hm hi))
  ·obtain⟨z,hz⟩:=D0 e2 hx
   exact H6 hz hi
 ·obtain⟨d,hm,rfl⟩:=am.1 hx
  exact H6 e1 (by simp only [AV.touchV,D.touchV];exact bC _ (hd hm hi))
theorem Wg {c : Cl} {o : Oper} {out : Out} (hq : E6 c o = true) (ht0 : ∀ i, i ∈ deepen R (Ji o.op L) ++ Awa c R L -> R[i]? = R'[i]?) (h : H3 P L cur R c o = some out) :
    out.R=R/\H3 P L cur R' c o=some {out with R:=R'}:=by
  have ht:∀ i,i∈deepen R (Ji o.op L)->R[i]? = R'[i]?:=λ i hi=>ht0 i (bB _ hi)
  unfold H3 at h ⊢
  rw [←Agb ht]
  split at h
  · rename_i v k hv
    simp at h;subst h
    exact⟨rfl,rfl⟩
  · rename_i hv
    obtain⟨dst,op,type,pos,after,guard⟩:=o
    simp only at h ⊢
    cases op with
    | box t x=>simp [E6] at hq
    | alloc t=>simp [E6] at hq
    | store t x y=>simp [E6] at hq
    | makeSlice t x y=>simp [E6] at hq
    | convert s d x=>
      simp only at h ⊢
      unfold Ow at h ⊢
      split at h
      · split at h
        · simp at h;subst h;exact⟨rfl,rfl⟩
        · cases h
      · cases h
    | buildSlice t len parts=>
      simp only [E6,bo] at hq
      simp only at h ⊢
      split at h
      · rename_i ps e1
        unfold Fx at h ⊢
        rw [hq] at h ⊢
        split at h
        · rename_i e hu
          split at h
          · rename_i size zs e2 e3
            cases hb:(Nat.beq zs.length (size+1)&&Nat.ble (len*(size+1)) 16777216) with
            | false=>rw [hb] at h;simp at h
            | true=>
              rw [hb] at h
              simp only [cond_true,cond_false] at h ⊢
              split at h
              · rename_i pd hpd
                simp at h;subst h
                exact⟨rfl,rfl⟩
              · cases h
          · cases h
        · cases h
      · cases h
    | call kk=>
      obtain⟨callee,cargs,argTypes⟩:=kk
      cases callee with
      | invoke r m=>simp at h
      | builtin b=>cases b <;> first | (simp [E6] at hq;done) | (simp at h;done)
      | value f=>
        simp only [E6,aO,ae] at hq
        simp only at h ⊢
        split at h
        · rename_i g first caps args e1 e2
          cases c with
          | callB g' q res rows k rw=>
            exact Aci (λ x hx i hi=>ht0 i (bC _ (Af4 e1 e2 hx hi))) h
          | _=>first
            | (rcases hq with hq | hq
               · simp [Anp] at hq
               · exact Agg hq.1 hq.2 h)
        · cases h
    | _=>simp at h
theorem Px:∀ {l:List Nat} {t:Nat},Nz l t=true↔t∈l
 | [],t=>by simp [Nz]
 | a::r,t=>by
  simp only [Nz,aO,ah,Px]
  constructor
  ·rintro (h | h)
   ·exact .inl (ak h).symm
   ·exact .inr h
  ·rintro (h | h)
   ·subst h;exact .inl (by simp)
   ·exact .inr h
theorem Acj {c : Cl} {ts : List TypeId} {j : Nat} {y : AV} {out : Out} {i : Nat} (h : C1 P R c ts [.d (.os j), y] = some out) (hi : i < R.length) (hj : i ≠ j) : out.R[i]? = R[i]? := by
 match ts,h with
 | [t, u], h =>
  simp only [C1] at h
  cases hts2:Nat.beq t u with
  | false=>rw [hts2] at h;simp at h
  | true =>
   rw [hts2] at h
   simp only [cond_true] at h
   split at h
   ·split at h
    ·split at h
     ·generalize (Nat.beq _ (_+1))=bb at h
      cases bb with
      | false=>simp at h
      | true=>
       simp only [cond_true] at h
       split at h
       ·generalize (Nat.beq _ _&&Nat.beq _ _)=bb at h
        cases bb with
        | false=>simp at h
        | true=>
         simp at h;subst h
         simp only
         rw [ay (by simpa using hi),aV (bc hj)]
       ·cases h
     ·cases h
    ·cases h
   ·cases h
 | [],h=>simp [C1] at h
 | [_],h=>simp [C1] at h
 | _::_::_::_,h=>simp [C1] at h
theorem yA {c:Cl} {ts:List TypeId} {i' g k size off:Nat} {y:AV} {out:Out} {i:Nat} (h:Ix P R c ts i' g k size off y=some out) (hi:i<R.length) (h1:i≠i') (h2:i≠g):out.R[i]? = R[i]?:=by
 unfold Ix at h
 split at h
 ·split at h
  ·generalize ((_&&_:Bool))=bb at h
   cases bb with
   | false=>simp at h
   | true=>
    simp only [cond_true] at h
    split at h
    ·rename_i v' R' a b z m r' hap
     simp at h;subst h
     have:=Acj (i:=i) hap (by simp;omega) (by omega)
     simp only at this ⊢
     rw [this,ay (by simpa using hi),aV (bc h1),aV (bc h2)]
    ·cases h
  ·cases h
 ·cases h
theorem vZ {c:Cl} {ts:List TypeId} {i' n s:Nat} {y:AV} {out:Out} {i:Nat} (h:Iw P R c ts i' n s y=some out) (h1:i≠i'):out.R[i]? = R[i]?:=by
 unfold Iw at h
 split at h
 ·generalize (Nat.beq _ _)=bb at h
  cases bb with
  | false=>simp at h
  | true=>
   simp only [cond_true] at h
   split at h
   ·split at h
    ·split at h
     ·generalize (Nat.beq _ _&&Nat.beq _ _)=bb at h
      cases bb with
      | false=>simp at h
      | true=>
       simp at h;subst h
       simp only
       rw [aV (bc h1)]
     ·cases h
    ·cases h
   ·cases h
 ·cases h
theorem Wk {x:AV} {i lo n s:Nat} {a:Operand} (h:Vk R x=some (i,lo,n,s)) (hl:By L cur a=some x):i∈Cc L:=by
 unfold Vk at h
 split at h
 ·split at h
  ·simp at h;obtain⟨rfl,_⟩:=h;exact D4 hl
  ·cases h
 ·simp at h;obtain⟨rfl,_⟩:=h;exact Mj hl
 ·cases h
theorem Agf {c:Cl} {ts:List TypeId} {l:List Operand} {args:List AV} {out:Out} {i:Nat} (h:Ox P R c ts args=some out) (hl:Dc L cur l=some args) (h1:i∉Cc L):out.R[i]? = R[i]?:=by
 unfold Ox at h
 split at h
 ·rename_i x
  split at h
  ·split at h
   ·rename_i hd
    split at h
    ·generalize ((_&&_:Bool))=bb at h
     cases bb with
     | false=>simp at h
     | true=>
      simp only [cond_true,al] at h;subst h
      obtain⟨z,hz⟩:=D0 hl (av:=x) (by simp)
      have:=Wk hd hz
      simp only
      rw [aV]
      rintro rfl
      exact h1 this
    ·cases h
   ·cases h
  ·cases h
 ·cases h
theorem Ajy {c:Cl} {ts:List TypeId} {l:List Operand} {args:List AV} {out:Out} {i:Nat} (h:S8 P R c ts args=some out) (hl:Dc L cur l=some args) (h1:i∉Cc L):out.R[i]? = R[i]?:=by
 unfold S8 at h
 split at h
 ·rename_i x y
  split at h
  ·split at h
   ·rename_i hd
    split at h
    ·generalize ((_&&_:Bool))=bb at h
     cases bb with
     | false=>simp at h
     | true=>
      simp only [cond_true,al] at h;subst h
      obtain⟨z,hz⟩:=D0 hl (av:=x) (by simp)
      have:=Wk hd hz
      simp only
      rw [aV]
      rintro rfl
      exact h1 this
    ·cases h
   ·cases h
  ·cases h
 ·cases h
theorem Ajx {c:Cl} {o:Oper} {i' k size off n:Nat} {ds:List D} {out:Out} {i:Nat} (h:S6 R c o i' k size off ds n=some out) (hi:i<R.length) (h1:i≠i') (h2:∀ e s g,R[i']? = some (.dsl e s g)->i≠g) (h3:∀ m,ds=[.os m]->i≠m):out.R[i]? = R[i]?:=by
 unfold S6 at h
 split at h
 next e s g m q1 q2 q3 row q4 rows' hj=>
  split at h
  ·split at h
   ·generalize ((_&&_:Bool))=bb at h
    cases bb with
    | false=>simp at h
    | true=>
     simp only [cond_true,al] at h;subst h
     have hgi:=h2 _ _ _ hj
     have hmi:=h3 _ rfl
     simp only
     rw [ay (by simpa using hi),aV (bc h1),aV (bc hgi),aV (bc hmi)]
   ·cases h
  ·cases h
 next=>cases h
theorem Ast {c : Cl} {o : Oper} {out : Out} {i : Nat} {cs : List (Bool × Bool)} (h : H3 P L cur R c o = some out) (hi : i < R.length) (hw : i ∉ Cx ⟨0, o, L, cur, cs, c, R, out, true, false, none⟩) : out.R[i]? = R[i]? := by
  unfold H3 at h
  split at h
  · simp at h;subst h;rfl
  · obtain ⟨dst, op, type, pos, after, guard⟩ := o
    simp only at h
    cases op with
    | box t x=>
      simp only at h
      split at h
      · generalize (Nat.beq _ _)=bb at h
        cases bb with
        | false=>simp at h
        | true=>simp at h;subst h;simp [List.getElem?_append_left hi]
      · cases h
    | alloc t=>
      simp only at h
      split at h
      · simp at h;subst h;simp [List.getElem?_append_left hi]
      · cases h
    | store t x y =>
      simp only at h
      cases hc:cur.isEmpty with
      | false=>rw [hc] at h;simp at h
      | true=>
        rw [hc] at h
        simp only [cond_true] at h
        split at h
        · rename_i j off ds n e1 e2 e3
          split at h
          · generalize (Nat.beq _ _&&Nat.ble _ _&&Option.isNone _)=bb at h
            cases bb with
            | false=>simp at h
            | true=>
              simp at h;subst h
              simp only [Cx,e1,bA] at hw
              simp only
              rw [aV (bc hw)]
          · cases h
        · rename_i j k size off ds n e1 e2 e3
          simp only [Cx,e1,ah,not_or] at hw
          obtain⟨hw1,hw2⟩:=hw
          split at h
          · rename_i out' hput
            simp at h;subst h
            unfold Anw at hput
            split at hput
            · generalize (Nat.beq _ _&&(Nat.beq _ _&&(Nat.ble _ _&&Option.isNone _)))=bb at hput
              cases bb with
              | false=>simp at hput
              | true=>
                simp at hput;subst hput
                simp only
                rw [aV (bc hw1)]
            · cases hput
          · refine Ajx h hi hw1 (λ e s g hj=>?_) (λ m hds=>?_)
            · rintro rfl
              exact hw2 (bB _ (Agm (Mi e1) hj))
            · rintro rfl
              subst hds
              refine hw2 (bC _ ?_)
              obtain⟨av,h1,h2⟩:=Az e2
              cases av with
              | d x=>simp [Gp] at h2;subst h2;exact H6 h1 (by simp [AV.touchV,D.touchV])
              | agg l=>simp [Gp] at h2;subst h2;exact H6 h1 (by simp [AV.touchV,D.touchV,cZ])
              | tup l=>simp [Gp] at h2
        · cases h
    | buildSlice t len parts=>
      simp only at h
      split at h
      · unfold Fx at h
        split at h
        · split at h
          · generalize (Nat.beq _ _&&Nat.ble _ _)=bb at h
            cases bb with
            | false=>simp at h
            | true=>
              simp only [cond_true] at h
              split at h
              · cases ho:Vg c with
                | true=>rw [ho] at h;simp at h;subst h;simp [List.getElem?_append_left hi]
                | false=>rw [ho] at h;simp at h;subst h;rfl
              · cases h
          · cases h
        · cases h
      · cases h
    | convert s d x=>
      simp only at h
      unfold Ow at h
      split at h
      · split at h
        · simp at h;subst h;rfl
        · cases h
      · cases h
    | makeSlice t x y=>
      simp only at h
      generalize (Jl x y)=bb at h
      cases bb with
      | false=>simp at h
      | true=>
        simp only [cond_true] at h
        unfold Kk at h
        split at h
        · split at h
          · split at h
            · generalize (Nat.beq _ _)=bb at h
              cases bb with
              | false=>simp at h
              | true=>simp at h;subst h;simp [List.getElem?_append_left hi]
            · cases h
          · cases h
        · split at h
          · split at h
            · generalize (Nat.beq _ _&&_)=bb at h
              cases bb with
              | false=>simp at h
              | true=>simp at h;subst h;simp [List.getElem?_append_left hi]
            · cases h
          · cases h
        · cases h
    | call kk =>
      obtain⟨callee,cargs,argTypes⟩:=kk
      cases callee with
      | invoke r m=>simp at h
      | builtin b=>
        cases b <;> first
          | (simp at h;done)
          | (simp only at h
             split at h
             · rename_i args e1
               first
                 | exact Agf h e1 (by simpa [Cx] using hw)
                 | exact Ajy h e1 (by simpa [Cx] using hw)
             · cases h
             done)
          | (simp only at h
             split at h
             · rename_i i' g q size off y e1
               have hall:=e1
               obtain⟨z,hz⟩:=D0 e1 (av:=.d (.oi i' g q size off)) (by simp)
               obtain⟨hi1,hg1⟩:=Ace hz
               have hii:i≠i':=by rintro rfl;exact hw (by simpa [Cx] using hi1)
               have hig:i≠g:=by rintro rfl;exact hw (by simpa [Cx] using hg1)
               exact yA h hi hii hig
             · rename_i i' n s y e1
               obtain⟨z,hz⟩:=D0 e1 (av:=.d (.osb i' 0 n s)) (by simp)
               have hi1:=Mj hz
               have hii:i≠i':=by rintro rfl;exact hw (by simpa [Cx] using hi1)
               exact vZ h hii
             · rename_i args _ _ e1
               unfold C1 at h
               split at h
               · rename_i t u x y hts
                 generalize (Nat.beq _ _)=bb at h
                 cases bb with
                 | false=>simp at h
                 | true=>
                   simp only [cond_true] at h
                   split at h
                   · split at h
                     · split at h
                       · generalize (Nat.beq _ _)=bb at h
                         cases bb with
                         | false=>simp at h
                         | true=>
                           simp only [cond_true] at h
                           split at h
                           · simp at h;subst h;simp [List.getElem?_append_left hi]
                           · rename_i j
                             split at h
                             · generalize (Nat.beq _ _&&Nat.beq _ _)=bb at h
                               cases bb with
                               | false=>simp at h
                               | true=>
                                 simp at h;subst h
                                 obtain⟨z,hz⟩:=D0 e1 (av:=.d (.os _)) aj
                                 have hj:=D4 hz
                                 simp only
                                 rw [ay (by simpa using hi),aV]
                                 rintro rfl
                                 refine hw ?_
                                 simpa [Cx] using hj
                             · cases h
                           · cases h
                       · cases h
                     · cases h
                   · cases h
               · cases h
             · cases h)
      | value f =>
        simp only at h
        split at h
        · rename_i g first caps args e1 e2
          cases c with
          | call f' q1 q2 res R2 pi =>
            simp only [Fe] at h
            generalize (Nat.beq g f'&&D8 pi&&Nat.ble pi.length R2.length)=bb at h
            cases bb with
            | false=>simp at h
            | true=>
              simp only [cond_true] at h
              split at h
              · split at h
                · rename_i Rp2 res2 RR e3 e4 e5
                  simp at h;subst h
                  simp only [Cx] at hw
                  simp only
                  rw [ay (by rw [Ec];exact hi)]
                  cases hg:R[i]? with
                  | none=>rw [List.getElem?_eq_none_iff] at hg;omega
                  | some r=>
                    have hlt:i<(D2 R pi RR).length:=by rw [Ec];exact hi
                    rcases Pq pi R _ i _ (ag hlt) with⟨j,h1,_⟩ | ⟨h1,_⟩
                    · exact absurd (af h1) hw
                    · rw [ag hlt,←h1,hg]
                · cases h
              · cases h
          | callB f' q1 res rows0 k0 rw0=>
            simp only [Fe] at h
            generalize (Nat.beq g f'&&res.flat)=bb at h
            cases bb with
            | false=>simp at h
            | true=>
              simp only [cond_true] at h
              split at h
              · split at h
                · simp at h;subst h;rfl
                · cases h
              · split at h
                · simp at h;subst h;rfl
                · cases h
              · cases h
          | _=>simp [Fe] at h
        · cases h
    | _=>simp at h
end
end Go.SL
