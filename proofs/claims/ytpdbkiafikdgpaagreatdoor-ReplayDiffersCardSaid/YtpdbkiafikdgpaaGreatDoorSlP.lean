import Derived.Test.YtpdbkiafikdgpaaGreatDoorSlO
namespace Go.SL
section
variable {P:Program} {C:Ctx} {S S':Nat->Prop} {w w':World} {ρ ρ':List Value} {R R':List Res} {L:List Ent} {cur:Cg} {a:Act}
theorem zW:∀ {L:List Ent} {e:Ent} {i off:Nat},e∈L->e.v = .d (.o i off)->i∈Cc L
 | x::r,e,i,off,h,hv=>by
  rcases ah.1 h with rfl | h
  ·simp [Cc,hv]
  ·have:=zW h hv
   unfold Cc;split <;> simp [this]
 | [],_,_,_,h,_=>by cases h
theorem Wc:∀ {L:List Ent} {e:Ent} {i:Nat},e∈L->e.v = .d (.os i)->i∈Cc L
 | x::r,e,i,h,hv=>by
  rcases ah.1 h with rfl | h
  ·simp [Cc,hv]
  ·have:=Wc h hv
   unfold Cc;split <;> simp [this]
 | [],_,_,h,_=>by cases h
theorem Wd:∀ {L:List Ent} {e:Ent} {i a b c:Nat},e∈L->e.v = .d (.oe i a b c)->i∈Cc L
 | x::r,e,i,a,b,c,h,hv=>by
  rcases ah.1 h with rfl | h
  ·simp [Cc,hv]
  ·have:=Wd h hv
   unfold Cc;split <;> simp [this]
 | [],_,_,_,_,_,h,_=>by cases h
theorem We:∀ {L:List Ent} {e:Ent} {i a b c:Nat},e∈L->e.v = .d (.osb i a b c)->i∈Cc L
 | x::r,e,i,a,b,c,h,hv=>by
  rcases ah.1 h with rfl | h
  ·simp [Cc,hv]
  ·have:=We h hv
   unfold Cc;split <;> simp [this]
 | [],_,_,_,_,_,h,_=>by cases h
theorem Rj:∀ {L:List Ent} {e:Ent} {i g a b c:Nat},e∈L->e.v = .d (.oi i g a b c)->i∈Cc L/\g∈Cc L
 | x::r,e,i,g,a,b,c,h,hv=>by
  rcases ah.1 h with rfl | h
  ·simp [Cc,hv]
  ·have:=Rj h hv
   unfold Cc;split <;> simp [this]
 | [],_,_,_,_,_,_,h,_=>by cases h
theorem Z6 {i g e s:Nat}:∀ {l:List Nat},i∈l->R[i]? = some (.dsl e s g)->g∈Ot R l
 | [],h,_=>by cases h
 | j::l,h,hi=>by
  rcases ah.1 h with rfl | h
  ·simp [Ot,hi]
  ·have:=Z6 h hi
   unfold Ot;split <;> simp [this]
theorem An8 {i:Nat} {l:List Nat} (h:i∈l):i∈deepen R l:=bz _ h
theorem Ago {i g e s:Nat} {l:List Nat} (h:i∈l) (hi:R[i]? = some (.dsl e s g)):g∈deepen R l:=bA _ (Z6 h hi)
theorem Ox {v:Value} {i off a b c:Nat}:Ms v≠some (.d (.o i off))/\Ms v≠some (.d (.os i))/\Ms v≠some (.d (.oe i a b c))/\Ms v≠some (.d (.osb i a b c))/\∀ g,Ms v≠some (.d (.oi i g a b c)):=by
 unfold Ms
 split
 ·refine⟨?_,?_,?_,?_,λ _=>?_⟩ <;> (cases Ef (_:Array Value).toList <;> simp)
 ·simp
 ·refine⟨?_,?_,?_,?_,λ _=>?_⟩ <;>
  ·cases h:dOf v with
   | none=>simp
   | some d=>
    unfold dOf at h
    cases hb:v.oneCell' with
    | true=>rw [hb] at h;simp at h;subst h;simp
    | false=>rw [hb] at h;simp at h
theorem Ank {x:Operand} {i off:Nat} (h:By L cur x=some (.d (.o i off))):i∈Cc L:=by
 unfold By at h
 split at h
 ·exact absurd h (Ox (a:=0) (b:=0) (c:=0)).1
 ·split at h
  ·rename_i e he
   cases hb:Ev e.p cur with
   | false=>rw [hb] at h;simp at h
   | true=>rw [hb] at h;simp at h;exact zW (Cp he).1 h
  ·cases h
 ·simp at h
 ·cases h
theorem D3 {x:Operand} {i:Nat} (h:By L cur x=some (.d (.os i))):i∈Cc L:=by
 unfold By at h
 split at h
 ·exact absurd h (Ox (off:=0) (a:=0) (b:=0) (c:=0)).2.1
 ·split at h
  ·rename_i e he
   cases hb:Ev e.p cur with
   | false=>rw [hb] at h;simp at h
   | true=>rw [hb] at h;simp at h;exact Wc (Cp he).1 h
  ·cases h
 ·simp at h
 ·cases h
theorem Mh {x:Operand} {i k s off:Nat} (h:By L cur x=some (.d (.oe i k s off))):i∈Cc L:=by
 unfold By at h
 split at h
 ·exact absurd h (Ox (off:=0)).2.2.1
 ·split at h
  ·rename_i e he
   cases hb:Ev e.p cur with
   | false=>rw [hb] at h;simp at h
   | true=>rw [hb] at h;simp at h;exact Wd (Cp he).1 h
  ·cases h
 ·simp at h
 ·cases h
theorem Mi {x:Operand} {i k s off:Nat} (h:By L cur x=some (.d (.osb i k s off))):i∈Cc L:=by
 unfold By at h
 split at h
 ·exact absurd h (Ox (off:=0)).2.2.2.1
 ·split at h
  ·rename_i e he
   cases hb:Ev e.p cur with
   | false=>rw [hb] at h;simp at h
   | true=>rw [hb] at h;simp at h;exact We (Cp he).1 h
  ·cases h
 ·simp at h
 ·cases h
theorem Acf {x:Operand} {i g k s off:Nat} (h:By L cur x=some (.d (.oi i g k s off))):i∈Cc L/\g∈Cc L:=by
 unfold By at h
 split at h
 ·exact absurd h ((Ox (off:=0)).2.2.2.2 g)
 ·split at h
  ·rename_i e he
   cases hb:Ev e.p cur with
   | false=>rw [hb] at h;simp at h
   | true=>rw [hb] at h;simp at h;exact Rj (Cp he).1 h
  ·cases h
 ·simp at h
 ·cases h
theorem D0:∀ {l:List Operand} {avs:List AV} {av:AV},Dc L cur l=some avs->av∈avs->∃ x,By L cur x=some av
 | [],avs,av,h,hm=>by simp [Dc] at h;subst h;cases hm
 | x::r,avs,av,h,hm=>by
  simp only [Dc] at h
  split at h
  ·rename_i v l h1 h2
   simp at h;subst h
   rcases ah.1 hm with rfl | hm
   ·exact⟨x,h1⟩
   ·exact D0 h2 hm
  ·cases h
theorem Agg {args:List AV} (h:∀ i,AV.d (.os i)∈args->R[i]? = R'[i]?) (hg:∀ i e s g,AV.d (.os i)∈args->R[i]? = some (.dsl e s g)->R[g]? = R'[g]?):Kl R args=Kl R' args:=by
 unfold Kl
 split
 ·rfl
 ·rfl
 ·rename_i i
  rw [←h i (by simp)]
  split
  ·rfl
  ·rename_i e s g hd
   rw [hg i e s g (by simp) hd]
  ·rfl
 ·rfl
 ·rfl
theorem Agd {c:Cl} {op:Op} (h0:∀ i,i∈deepen R (Ji op L)->R[i]? = R'[i]?):B2 P L cur R c op=B2 P L cur R' c op:=by
 have h:∀ i,i∈Ji op L->R[i]? = R'[i]?:=λ i hi=>h0 i (An8 hi)
 have hgh:∀ i e s g,i∈Ji op L->R[i]? = some (.dsl e s g)->R[g]? = R'[g]?:=λ i e s g hi hd=>h0 g (Ago hi hd)
 cases op with
 | load t x=>
  by_cases hg:∃ g,x = .global g
  ·obtain⟨g,rfl⟩:=hg
   rfl
  have e:∀ R,B2 P L cur R c (.load t x)=S8 P L cur R c t x:=λ R=>by
   cases x with
   | global g=>exact absurd ⟨g,rfl⟩ hg
   | _=>rfl
  rw [e,e]
  unfold S8
  split
  ·rename_i i off n e1 e2
   rw [h i (Ank e1)]
  ·rfl
  ·rename_i i k size off n e1 e2
   rw [←h i (Mh e1)]
   split
   ·rfl
   ·rename_i e s g _ _ _ hd
    rw [hgh i _ _ _ (Mh e1) hd]
   ·rfl
  ·rfl
 | indexAddr t x i=>
  simp only [B2]
  unfold An0
  split
  ·rfl
  ·rename_i e j ik n e1 e2 e3
   rw [←h j (D3 e2)]
   split
   ·rfl
   ·rename_i e s g _ _ _ hd
    rw [hgh j _ _ _ (D3 e2) hd]
   ·rfl
  ·rfl
  ·rfl
  ·rfl
 | call k=>
  simp only [B2]
  split
  ·split
   ·rename_i args e1
    split
    ·split
     ·rw [Agg (R':=R') (λ i hi=>by
       obtain⟨x,hx⟩:=D0 e1 hi
       exact h i (D3 hx)) (λ i e s g hi hd=>by
       obtain⟨x,hx⟩:=D0 e1 hi
       exact hgh i e s g (D3 hx) hd)]
     ·rfl
     ·rfl
    ·rfl
   ·rfl
  ·rfl
 | slice t x lo hi mx=>
  cases mx with
  | none=>
   simp only [B2]
   split
   ·rfl
   ·rename_i e i e1 e2
    rw [h i (D3 e2)]
   ·rename_i e i o0 n0 s0 e1 e2
    rw [h i (Mi e2)]
   ·rfl
  | some mx=>
   cases lo with
   | none=>rfl
   | some lo=>
    cases hi with
    | none=>rfl
    | some hi=>
     simp only [B2]
     split
     ·rename_i e i e1 e2
      rw [h i (D3 e2)]
     ·rfl
 | _=>rfl
mutual
theorem Abd (f:Nat->Option Nat):∀ (d d':D),D.ren (λ _=>none) d=some d'->D.ren f d=some d'
 | .p x,d',h=>h
 | .o i off,d',h=>by simp [D.ren] at h
 | .os i,d',h=>by simp [D.ren] at h
 | .oe i k s off,d',h=>by simp [D.ren] at h
 | .ip c,d',h=>h
 | .any,d',h=>h
 | .nq _,d',h=>h
 | .osb _ _ _ _,d',h=>by simp [D.ren] at h
 | .oi _ _ _ _ _,d',h=>by simp [D.ren] at h
 | .fn g a b,d',h=>by
  simp only [D.ren] at h ⊢
  split at h
  ·rename_i a' b' h1 h2
   rw [Lb f a a' h1,Lb f b b' h2]
   exact h
  ·cases h
theorem Lb (f:Nat->Option Nat):∀ (l l':List D),D.renL (λ _=>none) l=some l'->D.renL f l=some l'
 | [],l',h=>h
 | d::r,l',h=>by
  simp only [D.renL] at h ⊢
  split at h
  ·rename_i d' r' h1 h2
   rw [Abd f d d' h1,Lb f r r' h2]
   exact h
  ·cases h
end
mutual
theorem jS (f:Nat->Option Nat):∀ (d d':AV),AV.ren (λ _=>none) d=some d'->AV.ren f d=some d'
 | .d x,d',h=>by
  simp only [AV.ren] at h ⊢
  split at h
  ·rename_i y hy
   rw [Abd f x y hy];exact h
  ·cases h
 | .agg ds,d',h=>by
  simp only [AV.ren] at h ⊢
  split at h
  ·rename_i y hy
   rw [Lb f ds y hy];exact h
  ·cases h
 | .tup l,d',h=>by
  simp only [AV.ren] at h ⊢
  split at h
  ·rename_i y hy
   rw [Wn f l y hy];exact h
  ·cases h
theorem Wn (f:Nat->Option Nat):∀ (l l':List AV),AV.renL (λ _=>none) l=some l'->AV.renL f l=some l'
 | [],l',h=>h
 | d::r,l',h=>by
  simp only [AV.renL] at h ⊢
  split at h
  ·rename_i d' r' h1 h2
   rw [jS f d d' h1,Wn f r r' h2]
   exact h
  ·cases h
end
theorem Agi {args:List AV} {f:FuncId} {c:Cl} {out:Out} (hn:Anb c=true) (hc:Abf c=true)
  (h:Ff R args f c=some out):out.R=R/\Ff R' args f c=some {out with R:=R'}:=by
 unfold Anb at hn
 split at hn
 ·rename_i g q1 q2 res R2 pi
  simp only [ae,cG] at hn
  obtain⟨rfl,rfl⟩:=hn
  obtain⟨res',hres⟩:=Option.isSome_iff_exists.1 hc
  unfold Ff at h ⊢
  simp only at h ⊢
  generalize hbb:(Nat.beq f g&&D7 []&&Nat.ble ([]:List Nat).length ([]:List Res).length)=bb at h ⊢
  cases bb with
  | false=>simp at h
  | true=>
   simp only [cond_true] at h ⊢
   split at h
   ·rename_i a' Rp e1 e2
    rw [e1]
    simp only [I6] at e2 ⊢
    simp only [al] at e2
    subst e2
    simp only [Gw,jS _ res res' hres] at h ⊢
    simp at h;subst h
    simp [D1]
   ·cases h
 ·cases hn
theorem Q9:∀ {l:List D},(∀ i,i∈vC l->R[i]? = R'[i]?)->Gj R l=Gj R' l
 | [],_=>rfl
 | d::r,h=>by
  have ih:Gj R r=Gj R' r:=Q9 λ i hi=>h i (by cases d <;> simp [vC,hi])
  have hd:Kb R d=Kb R' d:=by
   cases d with
   | os i=>simp only [Kb];rw [h i (by simp [vC])]
   | _=>rfl
  simp only [Gj,ih,hd]
mutual
theorem Wo {rw:List Pd}:∀ {d:D},(∀ i,i∈d.touchV R->R[i]? = R'[i]?)->d.view R rw=d.view R' rw
 | .p _,_=>rfl
 | .ip _,_=>rfl
 | .any,_=>rfl
 | .nq _,_=>rfl
 | .oe _ _ _ _,_=>rfl
 | .osb i _ _ _,h=>by simp only [D.view];rw [h i (by simp [D.touchV])]
 | .oi _ g _ _ _,h=>by simp only [D.view];rw [h g (by simp [D.touchV])]
 | .os i,h=>by simp only [D.view];rw [h i (by simp [D.touchV])]
 | .o i off,h=>by
  have h0:=h i (by simp [D.touchV])
  simp only [D.view]
  rw [←h0]
  cases hi:R[i]? with
  | none=>rfl
  | some r=>cases r with
   | box t cells=>
    simp only
    rw [Q9 (R':=R') λ k hk=>h k (by simp only [D.touchV,hi];exact ai _ hk)]
   | _=>rfl
 | .fn g a b,h=>by
  have h1:=Jh (rw:=rw) (l:=a) λ i hi=>h i (by simp only [D.touchV];exact bz _ hi)
  have h2:=Jh (rw:=rw) (l:=b) λ i hi=>h i (by simp only [D.touchV];exact bA _ hi)
  simp only [D.view,h1,h2]
theorem Jh {rw:List Pd}:∀ {l:List D},(∀ i,i∈cZ R l->R[i]? = R'[i]?)->D.viewL R rw l=D.viewL R' rw l
 | [],_=>rfl
 | d::r,h=>by
  have h1:=Wo (rw:=rw) (d:=d) λ i hi=>h i (by simp only [cZ];exact bz _ hi)
  have h2:=Jh (rw:=rw) (l:=r) λ i hi=>h i (by simp only [cZ];exact bA _ hi)
  simp only [D.viewL,h1,h2]
end
theorem Ajq {rw:List Pd} {x:AV} (h:∀ i,i∈x.touchV R->R[i]? = R'[i]?):x.view R rw=x.view R' rw:=by
 cases x with
 | d x=>simp only [AV.view];rw [Wo (R':=R') h]
 | agg l=>simp only [AV.view];rw [Jh (R':=R') h]
 | tup l=>rfl
theorem Rb {rw:List Pd}:∀ {l:List AV},(∀ x,x∈l->∀ i,i∈x.touchV R->R[i]? = R'[i]?)->AV.viewL R rw l=AV.viewL R' rw l
 | [],_=>rfl
 | x::r,h=>by
  have h1:=Ajq (rw:=rw) (x:=x) (h x aj)
  have h2:=Rb (rw:=rw) (l:=r) λ y hy=>h y (ai _ hy)
  simp only [AV.viewL,h1,h2]
theorem Y2 {e:Ent} {i:Nat}:∀ {L:List Ent},e∈L->i∈e.v.touchV R->i∈touchV R L
 | [],h,_=>by cases h
 | x::r,h,hi=>by
  simp only [touchV]
  rcases ah.1 h with rfl | h
  ·exact bz _ hi
  ·exact bA _ (Y2 h hi)
theorem Alp {i:Nat}:∀ {l:List Value} {ds:List D},Ef l=some ds->i∉cZ R ds
 | [],ds,h=>by simp [Ef] at h;subst h;simp [cZ]
 | v::l,ds,h=>by
  simp only [Ef] at h
  split at h
  ·rename_i d r h1 h2
   simp at h;subst h
   unfold dOf at h1
   cases hb:v.oneCell' with
   | false=>rw [hb] at h1;simp at h1
   | true=>rw [hb] at h1;simp at h1;subst h1;simpa [cZ,D.touchV] using Alp h2
  ·cases h
theorem Aom {v:Value} {x:AV} {i:Nat} (h:Ms v=some x):i∉x.touchV R:=by
 unfold Ms at h
 split at h
 ·cases hd:Ef (_:Array Value).toList with
  | none=>rw [hd] at h;cases h
  | some ds=>rw [hd] at h;simp at h;subst h;exact Alp hd
 ·cases h
 ·cases hd:dOf v with
  | none=>rw [hd] at h;cases h
  | some d=>
   rw [hd] at h;simp at h;subst h
   unfold dOf at hd
   cases hb:v.oneCell' with
   | false=>rw [hb] at hd;simp at hd
   | true=>rw [hb] at hd;simp at hd;subst hd;simp [AV.touchV,D.touchV]
theorem H7 {x:Operand} {v:AV} {i:Nat} (h:By L cur x=some v) (hi:i∈v.touchV R):i∈touchV R L:=by
 unfold By at h
 split at h
 ·exact absurd hi (Aom h)
 ·split at h
  ·rename_i e he
   cases hb:Ev e.p cur with
   | false=>rw [hb] at h;simp at h
   | true=>rw [hb] at h;simp at h;subst h;exact Y2 (Cp he).1 hi
  ·cases h
 ·simp at h;subst h;simp [AV.touchV,D.touchV,cZ] at hi
 ·cases h
theorem Tb {d:D}:d.norm.touchV R=d.touchV R:=by
 unfold D.norm;split <;> rfl
theorem Ra:∀ {l:List D},cZ R (l.map D.norm)=cZ R l
 | []=>rfl
 | d::r=>by simp only [bO,cZ,Tb,Ra]
theorem Ajt {x:AV}:x.norm.touchV R=x.touchV R:=by
 cases x with
 | d x=>exact Tb
 | agg l=>exact Ra
 | tup l=>rfl
theorem K7 {g k:Nat}:∀ {d:D},(g,k)∈d.ois->g∈d.touchV R
 | .oi _ _ _ _ _,h=>by simp [D.ois] at h;simp [D.touchV,h.1]
 | .fn f a b,h=>by
  have key:∀ {l:List D},(∀ d,d∈l->(g,k)∈d.ois->g∈d.touchV R)->(g,k)∈dh l->g∈cZ R l:=by
   intro l
   induction l with
   | nil=>intro _ h;simp [dh] at h
   | cons d l ih=>
    intro hh h
    simp only [dh,az] at h
    simp only [cZ,az]
    rcases h with h | h
    ·exact .inl (hh d aj h)
    ·exact .inr (ih (λ d hd=>hh d (ai _ hd)) h)
  simp only [D.ois,az] at h
  simp only [D.touchV,az]
  rcases h with h | h
  ·exact .inl (key (λ d _ h=>K7 h) h)
  ·exact .inr (key (λ d _ h=>K7 h) h)
 | .p _,h=>by simp [D.ois] at h
 | .o _ _,h=>by simp [D.ois] at h
 | .os _,h=>by simp [D.ois] at h
 | .oe _ _ _ _,h=>by simp [D.ois] at h
 | .osb _ _ _ _,h=>by simp [D.ois] at h
 | .ip _,h=>by simp [D.ois] at h
 | .any,h=>by simp [D.ois] at h
 | .nq _,h=>by simp [D.ois] at h
theorem Sg {g k:Nat}:∀ {l:List D},(g,k)∈dh l->g∈cZ R l
 | [],h=>by simp [dh] at h
 | d::l,h=>by
  simp only [dh,az] at h
  simp only [cZ,az]
  exact h.imp K7 Sg
theorem Wj {g k:Nat}:∀ {l:List AV},(g,k)∈oisL l->∃ x,x∈l/\g∈x.touchV R
 | [],h=>by simp [oisL] at h
 | x::l,h=>by
  simp only [oisL,az] at h
  rcases h with h | h
  ·refine⟨x,aj,?_⟩
   cases x with
   | d x=>exact K7 h
   | agg l=>exact Sg h
   | tup l=>simp [AV.ois] at h
  ·obtain⟨y,h1,h2⟩:=Wj h
   exact⟨y,ai _ h1,h2⟩
theorem Acj {args:List AV} {f g:FuncId} {q:List AV} {res:AV} {rows:List (List Pd)} {k:Nat} {rw:List Pd} {out:Out} (ht:∀ x,x∈args->∀ i,i∈x.touchV R->R[i]? = R'[i]?)
  (h:Ff R args f (.callB g q res rows k rw)=some out):out.R=R/\Ff R' args f (.callB g q res rows k rw)=some {out with R:=R'}:=by
 simp only [Ff] at h ⊢
 generalize (Nat.beq f g&&res.flat)=bb at h ⊢
 have hview:∀ rw,AV.viewL R rw (args.map AV.norm)=AV.viewL R' rw (args.map AV.norm):=λ rw=>Rb (R:=R) (R':=R') (l:=args.map AV.norm) λ x hx i hi=>by
  obtain⟨y,hy,rfl⟩:=am.1 hx
  rw [Ajt] at hi
  exact ht y hy i hi
 cases bb with
 | false=>simp at h
 | true=>
  simp only [cond_true] at h ⊢
  split at h
  ·rw [←hview]
   split at h
   ·rename_i a' e1
    simp at h;subst h
    exact⟨rfl,rfl⟩
   ·cases h
  ·rename_i g0 k0 ho
   obtain⟨x,h1,h2⟩:=Wj (R:=R) (l:=args) (g:=g0) (k:=k0) (by rw [ho];simp)
   rw [←hview,←ht x h1 g0 h2]
   split at h
   ·simp at h;subst h
    exact⟨rfl,rfl⟩
   ·cases h
  ·cases h
theorem Af6 {g:Fn} {first caps:List D} {args:List AV} {x:AV} {i:Nat} {f:Operand} {l:List Operand} (e1:By L cur f=some (.d (.fn g first caps))) (e2:Dc L cur l=some args)
  (hx:x∈first.map AV.d++args++caps.map AV.d) (hi:i∈x.touchV R):i∈touchV R L:=by
 have hd:∀ {ds:List D} {d:D},d∈ds->i∈d.touchV R->i∈cZ R ds:=by
  intro ds
  induction ds with
  | nil=>intro d h;cases h
  | cons a r ih=>
   intro d h hi
   simp only [cZ]
   rcases ah.1 h with rfl | h
   ·exact bz _ hi
   ·exact bA _ (ih h hi)
 rcases az.1 hx with hx | hx
 ·rcases az.1 hx with hx | hx
  ·obtain⟨d,hm,rfl⟩:=am.1 hx
   exact H7 e1 (by simp only [AV.touchV,D.touchV];exact bz _ (hd hm hi))
  ·obtain⟨z,hz⟩:=D0 e2 hx
   exact H7 hz hi
 ·obtain⟨d,hm,rfl⟩:=am.1 hx
  exact H7 e1 (by simp only [AV.touchV,D.touchV];exact bA _ (hd hm hi))
theorem Wh {c : Cl} {o : Oper} {out : Out} (hq : E7 c o = true) (ht0 : ∀ i, i ∈ deepen R (Ji o.op L) ++ Awb c R L -> R[i]? = R'[i]?) (h : H4 P L cur R c o = some out) :
    out.R=R/\H4 P L cur R' c o=some {out with R:=R'}:=by
  have ht:∀ i,i∈deepen R (Ji o.op L)->R[i]? = R'[i]?:=λ i hi=>ht0 i (bz _ hi)
  unfold H4 at h ⊢
  rw [←Agd ht]
  split at h
  · rename_i v k hv
    simp at h;subst h
    exact⟨rfl,rfl⟩
  · rename_i hv
    obtain⟨dst,op,type,pos,after,guard⟩:=o
    simp only at h ⊢
    cases op with
    | box t x=>simp [E7] at hq
    | alloc t=>simp [E7] at hq
    | store t x y=>simp [E7] at hq
    | makeSlice t x y=>simp [E7] at hq
    | convert s d x=>
      simp only at h ⊢
      unfold Ov at h ⊢
      split at h
      · split at h
        · simp at h;subst h;exact⟨rfl,rfl⟩
        · cases h
      · cases h
    | buildSlice t len parts=>
      simp only [E7,bn] at hq
      simp only at h ⊢
      split at h
      · rename_i ps e1
        unfold Fw at h ⊢
        rw [hq] at h ⊢
        split at h
        · rename_i e hu
          split at h
          · rename_i size zs e2 e3
            cases hb:(Nat.beq zs.length (size+1)&&Nat.ble (len*(size+1)) 16777216) with
            | false=>rw [hb] at h;simp at h
            | true=>
              rw [hb] at h
              simp only [cond_true,cond_false] at h ⊢
              split at h
              · rename_i pd hpd
                simp at h;subst h
                exact⟨rfl,rfl⟩
              · cases h
          · cases h
        · cases h
      · cases h
    | call kk=>
      obtain⟨callee,cargs,argTypes⟩:=kk
      cases callee with
      | invoke r m=>simp at h
      | builtin b=>cases b <;> first | (simp [E7] at hq;done) | (simp at h;done)
      | value f=>
        simp only [E7,aN,ae] at hq
        simp only at h ⊢
        split at h
        · rename_i g first caps args e1 e2
          cases c with
          | callB g' q res rows k rw=>
            exact Acj (λ x hx i hi=>ht0 i (bA _ (Af6 e1 e2 hx hi))) h
          | _=>first
            | (rcases hq with hq | hq
               · simp [Anr] at hq
               · exact Agi hq.1 hq.2 h)
        · cases h
    | _=>simp at h
theorem Px:∀ {l:List Nat} {t:Nat},Ny l t=true↔t∈l
 | [],t=>by simp [Ny]
 | a::r,t=>by
  simp only [Ny,aN,ah,Px]
  constructor
  ·rintro (h | h)
   ·exact .inl (ak h).symm
   ·exact .inr h
  ·rintro (h | h)
   ·subst h;exact .inl (by simp)
   ·exact .inr h
theorem Ack {c : Cl} {ts : List TypeId} {j : Nat} {y : AV} {out : Out} {i : Nat} (h : C1 P R c ts [.d (.os j), y] = some out) (hi : i < R.length) (hj : i ≠ j) : out.R[i]? = R[i]? := by
 match ts,h with
 | [t, u], h =>
  simp only [C1] at h
  cases hts2:Nat.beq t u with
  | false=>rw [hts2] at h;simp at h
  | true =>
   rw [hts2] at h
   simp only [cond_true] at h
   split at h
   ·split at h
    ·split at h
     ·generalize (Nat.beq _ (_+1))=bb at h
      cases bb with
      | false=>simp at h
      | true=>
       simp only [cond_true] at h
       split at h
       ·generalize (Nat.beq _ _&&Nat.beq _ _)=bb at h
        cases bb with
        | false=>simp at h
        | true=>
         simp at h;subst h
         simp only
         rw [ay (by simpa using hi),aU (bc hj)]
       ·cases h
     ·cases h
    ·cases h
   ·cases h
 | [],h=>simp [C1] at h
 | [_],h=>simp [C1] at h
 | _::_::_::_,h=>simp [C1] at h
theorem yA {c:Cl} {ts:List TypeId} {i' g k size off:Nat} {y:AV} {out:Out} {i:Nat} (h:Iy P R c ts i' g k size off y=some out) (hi:i<R.length) (h1:i≠i') (h2:i≠g):out.R[i]? = R[i]?:=by
 unfold Iy at h
 split at h
 ·split at h
  ·generalize ((_&&_:Bool))=bb at h
   cases bb with
   | false=>simp at h
   | true=>
    simp only [cond_true] at h
    split at h
    ·rename_i v' R' a b z m r' hap
     simp at h;subst h
     have:=Ack (i:=i) hap (by simp;omega) (by omega)
     simp only at this ⊢
     rw [this,ay (by simpa using hi),aU (bc h1),aU (bc h2)]
    ·cases h
  ·cases h
 ·cases h
theorem vZ {c:Cl} {ts:List TypeId} {i' n s:Nat} {y:AV} {out:Out} {i:Nat} (h:Ix P R c ts i' n s y=some out) (h1:i≠i'):out.R[i]? = R[i]?:=by
 unfold Ix at h
 split at h
 ·generalize (Nat.beq _ _)=bb at h
  cases bb with
  | false=>simp at h
  | true=>
   simp only [cond_true] at h
   split at h
   ·split at h
    ·split at h
     ·generalize (Nat.beq _ _&&Nat.beq _ _)=bb at h
      cases bb with
      | false=>simp at h
      | true=>
       simp at h;subst h
       simp only
       rw [aU (bc h1)]
     ·cases h
    ·cases h
   ·cases h
 ·cases h
theorem Wl {x:AV} {i lo n s:Nat} {a:Operand} (h:Vm R x=some (i,lo,n,s)) (hl:By L cur a=some x):i∈Cc L:=by
 unfold Vm at h
 split at h
 ·split at h
  ·simp at h;obtain⟨rfl,_⟩:=h;exact D3 hl
  ·cases h
 ·simp at h;obtain⟨rfl,_⟩:=h;exact Mi hl
 ·cases h
theorem Agh {c:Cl} {ts:List TypeId} {l:List Operand} {args:List AV} {out:Out} {i:Nat} (h:Ow P R c ts args=some out) (hl:Dc L cur l=some args) (h1:i∉Cc L):out.R[i]? = R[i]?:=by
 unfold Ow at h
 split at h
 ·rename_i x
  split at h
  ·split at h
   ·rename_i hd
    split at h
    ·generalize ((_&&_:Bool))=bb at h
     cases bb with
     | false=>simp at h
     | true=>
      simp only [cond_true,al] at h;subst h
      obtain⟨z,hz⟩:=D0 hl (av:=x) (by simp)
      have:=Wl hd hz
      simp only
      rw [aU]
      rintro rfl
      exact h1 this
    ·cases h
   ·cases h
  ·cases h
 ·cases h
theorem Aj0 {c:Cl} {ts:List TypeId} {l:List Operand} {args:List AV} {out:Out} {i:Nat} (h:S9 P R c ts args=some out) (hl:Dc L cur l=some args) (h1:i∉Cc L):out.R[i]? = R[i]?:=by
 unfold S9 at h
 split at h
 ·rename_i x y
  split at h
  ·split at h
   ·rename_i hd
    split at h
    ·generalize ((_&&_:Bool))=bb at h
     cases bb with
     | false=>simp at h
     | true=>
      simp only [cond_true,al] at h;subst h
      obtain⟨z,hz⟩:=D0 hl (av:=x) (by simp)
      have:=Wl hd hz
      simp only
      rw [aU]
      rintro rfl
      exact h1 this
    ·cases h
   ·cases h
  ·cases h
 ·cases h
theorem Ajz {c:Cl} {o:Oper} {i' k size off n:Nat} {ds:List D} {out:Out} {i:Nat} (h:S7 R c o i' k size off ds n=some out) (hi:i<R.length) (h1:i≠i') (h2:∀ e s g,R[i']? = some (.dsl e s g)->i≠g) (h3:∀ m,ds=[.os m]->i≠m):out.R[i]? = R[i]?:=by
 unfold S7 at h
 split at h
 next e s g m q1 q2 q3 row q4 rows' hj=>
  split at h
  ·split at h
   ·generalize ((_&&_:Bool))=bb at h
    cases bb with
    | false=>simp at h
    | true=>
     simp only [cond_true,al] at h;subst h
     have hgi:=h2 _ _ _ hj
     have hmi:=h3 _ rfl
     simp only
     rw [ay (by simpa using hi),aU (bc h1),aU (bc hgi),aU (bc hmi)]
   ·cases h
  ·cases h
 next=>cases h
theorem Asu {c : Cl} {o : Oper} {out : Out} {i : Nat} {cs : List (Bool × Bool)} (h : H4 P L cur R c o = some out) (hi : i < R.length) (hw : i ∉ Cx ⟨0, o, L, cur, cs, c, R, out, true, false, none⟩) : out.R[i]? = R[i]? := by
  unfold H4 at h
  split at h
  · simp at h;subst h;rfl
  · obtain ⟨dst, op, type, pos, after, guard⟩ := o
    simp only at h
    cases op with
    | box t x=>
      simp only at h
      split at h
      · generalize (Nat.beq _ _)=bb at h
        cases bb with
        | false=>simp at h
        | true=>simp at h;subst h;simp [List.getElem?_append_left hi]
      · cases h
    | alloc t=>
      simp only at h
      split at h
      · simp at h;subst h;simp [List.getElem?_append_left hi]
      · cases h
    | store t x y =>
      simp only at h
      cases hc:cur.isEmpty with
      | false=>rw [hc] at h;simp at h
      | true=>
        rw [hc] at h
        simp only [cond_true] at h
        split at h
        · rename_i j off ds n e1 e2 e3
          split at h
          · generalize (Nat.beq _ _&&Nat.ble _ _&&Option.isNone _)=bb at h
            cases bb with
            | false=>simp at h
            | true=>
              simp at h;subst h
              simp only [Cx,e1,bI] at hw
              simp only
              rw [aU (bc hw)]
          · cases h
        · rename_i j k size off ds n e1 e2 e3
          simp only [Cx,e1,ah,not_or] at hw
          obtain⟨hw1,hw2⟩:=hw
          split at h
          · rename_i out' hput
            simp at h;subst h
            unfold Anz at hput
            split at hput
            · generalize (Nat.beq _ _&&(Nat.beq _ _&&(Nat.ble _ _&&Option.isNone _)))=bb at hput
              cases bb with
              | false=>simp at hput
              | true=>
                simp at hput;subst hput
                simp only
                rw [aU (bc hw1)]
            · cases hput
          · refine Ajz h hi hw1 (λ e s g hj=>?_) (λ m hds=>?_)
            · rintro rfl
              exact hw2 (bz _ (Ago (Mh e1) hj))
            · rintro rfl
              subst hds
              refine hw2 (bA _ ?_)
              obtain⟨av,h1,h2⟩:=Az e2
              cases av with
              | d x=>simp [Gp] at h2;subst h2;exact H7 h1 (by simp [AV.touchV,D.touchV])
              | agg l=>simp [Gp] at h2;subst h2;exact H7 h1 (by simp [AV.touchV,D.touchV,cZ])
              | tup l=>simp [Gp] at h2
        · cases h
    | buildSlice t len parts=>
      simp only at h
      split at h
      · unfold Fw at h
        split at h
        · split at h
          · generalize (Nat.beq _ _&&Nat.ble _ _)=bb at h
            cases bb with
            | false=>simp at h
            | true=>
              simp only [cond_true] at h
              split at h
              · cases ho:Vi c with
                | true=>rw [ho] at h;simp at h;subst h;simp [List.getElem?_append_left hi]
                | false=>rw [ho] at h;simp at h;subst h;rfl
              · cases h
          · cases h
        · cases h
      · cases h
    | convert s d x=>
      simp only at h
      unfold Ov at h
      split at h
      · split at h
        · simp at h;subst h;rfl
        · cases h
      · cases h
    | makeSlice t x y=>
      simp only at h
      generalize (Jl x y)=bb at h
      cases bb with
      | false=>simp at h
      | true=>
        simp only [cond_true] at h
        unfold Kk at h
        split at h
        · split at h
          · split at h
            · generalize (Nat.beq _ _)=bb at h
              cases bb with
              | false=>simp at h
              | true=>simp at h;subst h;simp [List.getElem?_append_left hi]
            · cases h
          · cases h
        · split at h
          · split at h
            · generalize (Nat.beq _ _&&_)=bb at h
              cases bb with
              | false=>simp at h
              | true=>simp at h;subst h;simp [List.getElem?_append_left hi]
            · cases h
          · cases h
        · cases h
    | call kk =>
      obtain⟨callee,cargs,argTypes⟩:=kk
      cases callee with
      | invoke r m=>simp at h
      | builtin b=>
        cases b <;> first
          | (simp at h;done)
          | (simp only at h
             split at h
             · rename_i args e1
               first
                 | exact Agh h e1 (by simpa [Cx] using hw)
                 | exact Aj0 h e1 (by simpa [Cx] using hw)
             · cases h
             done)
          | (simp only at h
             split at h
             · rename_i i' g q size off y e1
               have hall:=e1
               obtain⟨z,hz⟩:=D0 e1 (av:=.d (.oi i' g q size off)) (by simp)
               obtain⟨hi1,hg1⟩:=Acf hz
               have hii:i≠i':=by rintro rfl;exact hw (by simpa [Cx] using hi1)
               have hig:i≠g:=by rintro rfl;exact hw (by simpa [Cx] using hg1)
               exact yA h hi hii hig
             · rename_i i' n s y e1
               obtain⟨z,hz⟩:=D0 e1 (av:=.d (.osb i' 0 n s)) (by simp)
               have hi1:=Mi hz
               have hii:i≠i':=by rintro rfl;exact hw (by simpa [Cx] using hi1)
               exact vZ h hii
             · rename_i args _ _ e1
               unfold C1 at h
               split at h
               · rename_i t u x y hts
                 generalize (Nat.beq _ _)=bb at h
                 cases bb with
                 | false=>simp at h
                 | true=>
                   simp only [cond_true] at h
                   split at h
                   · split at h
                     · split at h
                       · generalize (Nat.beq _ _)=bb at h
                         cases bb with
                         | false=>simp at h
                         | true=>
                           simp only [cond_true] at h
                           split at h
                           · simp at h;subst h;simp [List.getElem?_append_left hi]
                           · rename_i j
                             split at h
                             · generalize (Nat.beq _ _&&Nat.beq _ _)=bb at h
                               cases bb with
                               | false=>simp at h
                               | true=>
                                 simp at h;subst h
                                 obtain⟨z,hz⟩:=D0 e1 (av:=.d (.os _)) aj
                                 have hj:=D3 hz
                                 simp only
                                 rw [ay (by simpa using hi),aU]
                                 rintro rfl
                                 refine hw ?_
                                 simpa [Cx] using hj
                             · cases h
                           · cases h
                       · cases h
                     · cases h
                   · cases h
               · cases h
             · cases h)
      | value f =>
        simp only at h
        split at h
        · rename_i g first caps args e1 e2
          cases c with
          | call f' q1 q2 res R2 pi =>
            simp only [Ff] at h
            generalize (Nat.beq g f'&&D7 pi&&Nat.ble pi.length R2.length)=bb at h
            cases bb with
            | false=>simp at h
            | true=>
              simp only [cond_true] at h
              split at h
              · split at h
                · rename_i Rp2 res2 RR e3 e4 e5
                  simp at h;subst h
                  simp only [Cx] at hw
                  simp only
                  rw [ay (by rw [Eb];exact hi)]
                  cases hg:R[i]? with
                  | none=>rw [List.getElem?_eq_none_iff] at hg;omega
                  | some r=>
                    have hlt:i<(D1 R pi RR).length:=by rw [Eb];exact hi
                    rcases Pp pi R _ i _ (ag hlt) with⟨j,h1,_⟩ | ⟨h1,_⟩
                    · exact absurd (af h1) hw
                    · rw [ag hlt,←h1,hg]
                · cases h
              · cases h
          | callB f' q1 res rows0 k0 rw0=>
            simp only [Ff] at h
            generalize (Nat.beq g f'&&res.flat)=bb at h
            cases bb with
            | false=>simp at h
            | true=>
              simp only [cond_true] at h
              split at h
              · split at h
                · simp at h;subst h;rfl
                · cases h
              · split at h
                · simp at h;subst h;rfl
                · cases h
              · cases h
          | _=>simp [Ff] at h
        · cases h
    | _=>simp at h
end
end Go.SL
