import Derived.Test.YtpdbkiafikdgpaaGreatDoorSlO
namespace Go.SL
section
variable {P:Program} {C:Ctx} {S S':Nat->Prop} {w w':World} {ρ ρ':List Value} {R R':List Res} {L:List Ent} {cur:B0} {a:Act}
theorem Tq:∀ {L:List Ent} {e:Ent} {i off:Nat},e∈L->e.v = .d (.o i off)->i∈Bx L
 | x::r,e,i,off,h,hv=>by
  rcases ae.1 h with rfl | h
  ·simp [Bx,hv]
  ·have:=Tq h hv
   unfold Bx;split <;> simp [this]
 | [],_,_,_,h,_=>by cases h
theorem Nm:∀ {L:List Ent} {e:Ent} {i:Nat},e∈L->e.v = .d (.os i)->i∈Bx L
 | x::r,e,i,h,hv=>by
  rcases ae.1 h with rfl | h
  ·simp [Bx,hv]
  ·have:=Nm h hv
   unfold Bx;split <;> simp [this]
 | [],_,_,h,_=>by cases h
theorem Nn:∀ {L:List Ent} {e:Ent} {i a b c:Nat},e∈L->e.v = .d (.oe i a b c)->i∈Bx L
 | x::r,e,i,a,b,c,h,hv=>by
  rcases ae.1 h with rfl | h
  ·simp [Bx,hv]
  ·have:=Nn h hv
   unfold Bx;split <;> simp [this]
 | [],_,_,_,_,_,h,_=>by cases h
theorem Np:∀ {L:List Ent} {e:Ent} {i a b c:Nat},e∈L->e.v = .d (.osb i a b c)->i∈Bx L
 | x::r,e,i,a,b,c,h,hv=>by
  rcases ae.1 h with rfl | h
  ·simp [Bx,hv]
  ·have:=Np h hv
   unfold Bx;split <;> simp [this]
 | [],_,_,_,_,_,h,_=>by cases h
theorem Kz:∀ {L:List Ent} {e:Ent} {i g a b c:Nat},e∈L->e.v = .d (.oi i g a b c)->i∈Bx L/\g∈Bx L
 | x::r,e,i,g,a,b,c,h,hv=>by
  rcases ae.1 h with rfl | h
  ·simp [Bx,hv]
  ·have:=Kz h hv
   unfold Bx;split <;> simp [this]
 | [],_,_,_,_,_,_,h,_=>by cases h
theorem P9 {i g e s:Nat}:∀ {l:List Nat},i∈l->R[i]? = some (.dsl e s g)->g∈Jf R l
 | [],h,_=>by cases h
 | j::l,h,hi=>by
  rcases ae.1 h with rfl | h
  ·simp [Jf,hi]
  ·have:=P9 h hi
   unfold Jf;split <;> simp [this]
theorem Abf {i:Nat} {l:List Nat} (h:i∈l):i∈deepen R l:=be _ h
theorem Ze {i g e s:Nat} {l:List Nat} (h:i∈l) (hi:R[i]? = some (.dsl e s g)):g∈deepen R l:=bf _ (P9 h hi)
theorem Jl {v:Value} {i off a b c:Nat}:Ic v≠some (.d (.o i off))/\Ic v≠some (.d (.os i))/\Ic v≠some (.d (.oe i a b c))/\Ic v≠some (.d (.osb i a b c))/\∀ g,Ic v≠some (.d (.oi i g a b c)):=by
 unfold Ic
 split
 ·refine⟨?_,?_,?_,?_,λ _=>?_⟩ <;> (cases Da (_:Array Value).toList <;> simp)
 ·simp
 ·refine⟨?_,?_,?_,?_,λ _=>?_⟩ <;>
  ·cases h:dOf v with
   | none=>simp
   | some d=>
    unfold dOf at h
    cases hb:v.oneCell' with
    | true=>rw [hb] at h;simp at h;subst h;simp
    | false=>rw [hb] at h;simp at h
theorem Aaz {x:Operand} {i off:Nat} (h:Bl L cur x=some (.d (.o i off))):i∈Bx L:=by
 unfold Bl at h
 split at h
 ·exact absurd h (Jl (a:=0) (b:=0) (c:=0)).1
 ·split at h
  ·rename_i e he
   cases hb:Dm e.p cur with
   | false=>rw [hb] at h;simp at h
   | true=>rw [hb] at h;simp at h;exact Tq (B7 he).1 h
  ·cases h
 ·simp at h
 ·cases h
theorem C7 {x:Operand} {i:Nat} (h:Bl L cur x=some (.d (.os i))):i∈Bx L:=by
 unfold Bl at h
 split at h
 ·exact absurd h (Jl (off:=0) (a:=0) (b:=0) (c:=0)).2.1
 ·split at h
  ·rename_i e he
   cases hb:Dm e.p cur with
   | false=>rw [hb] at h;simp at h
   | true=>rw [hb] at h;simp at h;exact Nm (B7 he).1 h
  ·cases h
 ·simp at h
 ·cases h
theorem H3 {x:Operand} {i k s off:Nat} (h:Bl L cur x=some (.d (.oe i k s off))):i∈Bx L:=by
 unfold Bl at h
 split at h
 ·exact absurd h (Jl (off:=0)).2.2.1
 ·split at h
  ·rename_i e he
   cases hb:Dm e.p cur with
   | false=>rw [hb] at h;simp at h
   | true=>rw [hb] at h;simp at h;exact Nn (B7 he).1 h
  ·cases h
 ·simp at h
 ·cases h
theorem H4 {x:Operand} {i k s off:Nat} (h:Bl L cur x=some (.d (.osb i k s off))):i∈Bx L:=by
 unfold Bl at h
 split at h
 ·exact absurd h (Jl (off:=0)).2.2.2.1
 ·split at h
  ·rename_i e he
   cases hb:Dm e.p cur with
   | false=>rw [hb] at h;simp at h
   | true=>rw [hb] at h;simp at h;exact Np (B7 he).1 h
  ·cases h
 ·simp at h
 ·cases h
theorem Vl {x:Operand} {i g k s off:Nat} (h:Bl L cur x=some (.d (.oi i g k s off))):i∈Bx L/\g∈Bx L:=by
 unfold Bl at h
 split at h
 ·exact absurd h ((Jl (off:=0)).2.2.2.2 g)
 ·split at h
  ·rename_i e he
   cases hb:Dm e.p cur with
   | false=>rw [hb] at h;simp at h
   | true=>rw [hb] at h;simp at h;exact Kz (B7 he).1 h
  ·cases h
 ·simp at h
 ·cases h
theorem C4:∀ {l:List Operand} {avs:List AV} {av:AV},Cp L cur l=some avs->av∈avs->∃ x,Bl L cur x=some av
 | [],avs,av,h,hm=>by simp [Cp] at h;subst h;cases hm
 | x::r,avs,av,h,hm=>by
  simp only [Cp] at h
  split at h
  ·rename_i v l h1 h2
   simp at h;subst h
   rcases ae.1 hm with rfl | hm
   ·exact⟨x,h1⟩
   ·exact C4 h2 hm
  ·cases h
theorem Y8 {args:List AV} (h:∀ i,AV.d (.os i)∈args->R[i]? = R'[i]?) (hg:∀ i e s g,AV.d (.os i)∈args->R[i]? = some (.dsl e s g)->R[g]? = R'[g]?):G2 R args=G2 R' args:=by
 unfold G2
 split
 ·rfl
 ·rfl
 ·rename_i i
  rw [←h i (by simp)]
  split
  ·rfl
  ·rename_i e s g hd
   rw [hg i e s g (by simp) hd]
  ·rfl
 ·rfl
 ·rfl
theorem Y5 {c:Cl} {op:Op} (h0:∀ i,i∈deepen R (Gg op L)->R[i]? = R'[i]?):Bq P L cur R c op=Bq P L cur R' c op:=by
 have h:∀ i,i∈Gg op L->R[i]? = R'[i]?:=λ i hi=>h0 i (Abf hi)
 have hgh:∀ i e s g,i∈Gg op L->R[i]? = some (.dsl e s g)->R[g]? = R'[g]?:=λ i e s g hi hd=>h0 g (Ze hi hd)
 cases op with
 | load t x=>
  by_cases hg:∃ g,x = .global g
  ·obtain⟨g,rfl⟩:=hg
   rfl
  have e:∀ R,Bq P L cur R c (.load t x)=L8 P L cur R c t x:=λ R=>by
   cases x with
   | global g=>exact absurd ⟨g,rfl⟩ hg
   | _=>rfl
  rw [e,e]
  unfold L8
  split
  ·rename_i i off n e1 e2
   rw [h i (Aaz e1)]
  ·rfl
  ·rename_i i k size off n e1 e2
   rw [←h i (H3 e1)]
   split
   ·rfl
   ·rename_i e s g _ _ _ hd
    rw [hgh i _ _ _ (H3 e1) hd]
   ·rfl
  ·rfl
 | indexAddr t x i=>
  simp only [Bq]
  unfold Aba
  split
  ·rfl
  ·rename_i e j ik n e1 e2 e3
   rw [←h j (C7 e2)]
   split
   ·rfl
   ·rename_i e s g _ _ _ hd
    rw [hgh j _ _ _ (C7 e2) hd]
   ·rfl
  ·rfl
  ·rfl
  ·rfl
 | call k=>
  simp only [Bq]
  split
  ·split
   ·rename_i args e1
    split
    ·split
     ·rw [Y8 (R':=R') (λ i hi=>by
       obtain⟨x,hx⟩:=C4 e1 hi
       exact h i (C7 hx)) (λ i e s g hi hd=>by
       obtain⟨x,hx⟩:=C4 e1 hi
       exact hgh i e s g (C7 hx) hd)]
     ·rfl
     ·rfl
    ·rfl
   ·rfl
  ·rfl
 | slice t x lo hi mx=>
  cases mx with
  | none=>
   simp only [Bq]
   split
   ·rfl
   ·rename_i e i e1 e2
    rw [h i (C7 e2)]
   ·rename_i e i o0 n0 s0 e1 e2
    rw [h i (H4 e2)]
   ·rfl
  | some mx=>
   cases lo with
   | none=>rfl
   | some lo=>
    cases hi with
    | none=>rfl
    | some hi=>
     simp only [Bq]
     split
     ·rename_i e i e1 e2
      rw [h i (C7 e2)]
     ·rfl
 | _=>rfl
mutual
theorem Ul (f:Nat->Option Nat):∀ (d d':D),D.ren (λ _=>none) d=some d'->D.ren f d=some d'
 | .p x,d',h=>h
 | .o i off,d',h=>by simp [D.ren] at h
 | .os i,d',h=>by simp [D.ren] at h
 | .oe i k s off,d',h=>by simp [D.ren] at h
 | .ip c,d',h=>h
 | .any,d',h=>h
 | .nq _,d',h=>h
 | .osb _ _ _ _,d',h=>by simp [D.ren] at h
 | .oi _ _ _ _ _,d',h=>by simp [D.ren] at h
 | .fn g a b,d',h=>by
  simp only [D.ren] at h ⊢
  split at h
  ·rename_i a' b' h1 h2
   rw [Hj f a a' h1,Hj f b b' h2]
   exact h
  ·cases h
theorem Hj (f:Nat->Option Nat):∀ (l l':List D),D.renL (λ _=>none) l=some l'->D.renL f l=some l'
 | [],l',h=>h
 | d::r,l',h=>by
  simp only [D.renL] at h ⊢
  split at h
  ·rename_i d' r' h1 h2
   rw [Ul f d d' h1,Hj f r r' h2]
   exact h
  ·cases h
end
mutual
theorem Qx (f:Nat->Option Nat):∀ (d d':AV),AV.ren (λ _=>none) d=some d'->AV.ren f d=some d'
 | .d x,d',h=>by
  simp only [AV.ren] at h ⊢
  split at h
  ·rename_i y hy
   rw [Ul f x y hy];exact h
  ·cases h
 | .agg ds,d',h=>by
  simp only [AV.ren] at h ⊢
  split at h
  ·rename_i y hy
   rw [Hj f ds y hy];exact h
  ·cases h
 | .tup l,d',h=>by
  simp only [AV.ren] at h ⊢
  split at h
  ·rename_i y hy
   rw [Ny f l y hy];exact h
  ·cases h
theorem Ny (f:Nat->Option Nat):∀ (l l':List AV),AV.renL (λ _=>none) l=some l'->AV.renL f l=some l'
 | [],l',h=>h
 | d::r,l',h=>by
  simp only [AV.renL] at h ⊢
  split at h
  ·rename_i d' r' h1 h2
   rw [Qx f d d' h1,Ny f r r' h2]
   exact h
  ·cases h
end
theorem Y_ {args:List AV} {f:FuncId} {c:Cl} {out:Out} (hn:Aar c=true) (hc:Un c=true)
  (h:D2 R args f c=some out):out.R=R/\D2 R' args f c=some {out with R:=R'}:=by
 unfold Aar at hn
 split at hn
 ·rename_i g q1 q2 res R2 pi
  simp only [ac,bY] at hn
  obtain⟨rfl,rfl⟩:=hn
  obtain⟨res',hres⟩:=Option.isSome_iff_exists.1 hc
  unfold D2 at h ⊢
  simp only at h ⊢
  generalize hbb:(Nat.beq f g&&De []&&Nat.ble ([]:List Nat).length ([]:List Res).length)=bb at h ⊢
  cases bb with
  | false=>simp at h
  | true=>
   simp only [cond_true] at h ⊢
   split at h
   ·rename_i a' Rp e1 e2
    rw [e1]
    simp only [F3] at e2 ⊢
    simp only [aj] at e2
    subst e2
    simp only [Et,Qx _ res res' hres] at h ⊢
    simp at h;subst h
    simp [C6]
   ·cases h
 ·cases hn
theorem Kt:∀ {l:List D},(∀ i,i∈R_ l->R[i]? = R'[i]?)->Eo R l=Eo R' l
 | [],_=>rfl
 | d::r,h=>by
  have ih:Eo R r=Eo R' r:=Kt λ i hi=>h i (by cases d <;> simp [R_,hi])
  have hd:Fz R d=Fz R' d:=by
   cases d with
   | os i=>simp only [Fz];rw [h i (by simp [R_])]
   | _=>rfl
  simp only [Eo,ih,hd]
mutual
theorem Nz {rw:List Pd}:∀ {d:D},(∀ i,i∈d.touchV R->R[i]? = R'[i]?)->d.view R rw=d.view R' rw
 | .p _,_=>rfl
 | .ip _,_=>rfl
 | .any,_=>rfl
 | .nq _,_=>rfl
 | .oe _ _ _ _,_=>rfl
 | .osb i _ _ _,h=>by simp only [D.view];rw [h i (by simp [D.touchV])]
 | .oi _ g _ _ _,h=>by simp only [D.view];rw [h g (by simp [D.touchV])]
 | .os i,h=>by simp only [D.view];rw [h i (by simp [D.touchV])]
 | .o i off,h=>by
  have h0:=h i (by simp [D.touchV])
  simp only [D.view]
  rw [←h0]
  cases hi:R[i]? with
  | none=>rfl
  | some r=>cases r with
   | box t cells=>
    simp only
    rw [Kt (R':=R') λ k hk=>h k (by simp only [D.touchV,hi];exact ag _ hk)]
   | _=>rfl
 | .fn g a b,h=>by
  have h1:=Gf (rw:=rw) (l:=a) λ i hi=>h i (by simp only [D.touchV];exact be _ hi)
  have h2:=Gf (rw:=rw) (l:=b) λ i hi=>h i (by simp only [D.touchV];exact bf _ hi)
  simp only [D.view,h1,h2]
theorem Gf {rw:List Pd}:∀ {l:List D},(∀ i,i∈ct R l->R[i]? = R'[i]?)->D.viewL R rw l=D.viewL R' rw l
 | [],_=>rfl
 | d::r,h=>by
  have h1:=Nz (rw:=rw) (d:=d) λ i hi=>h i (by simp only [ct];exact be _ hi)
  have h2:=Gf (rw:=rw) (l:=r) λ i hi=>h i (by simp only [ct];exact bf _ hi)
  simp only [D.viewL,h1,h2]
end
theorem uP {rw:List Pd} {x:AV} (h:∀ i,i∈x.touchV R->R[i]? = R'[i]?):x.view R rw=x.view R' rw:=by
 cases x with
 | d x=>simp only [AV.view];rw [Nz (R':=R') h]
 | agg l=>simp only [AV.view];rw [Gf (R':=R') h]
 | tup l=>rfl
theorem Kv {rw:List Pd}:∀ {l:List AV},(∀ x,x∈l->∀ i,i∈x.touchV R->R[i]? = R'[i]?)->AV.viewL R rw l=AV.viewL R' rw l
 | [],_=>rfl
 | x::r,h=>by
  have h1:=uP (rw:=rw) (x:=x) (h x ah)
  have h2:=Kv (rw:=rw) (l:=r) λ y hy=>h y (ag _ hy)
  simp only [AV.viewL,h1,h2]
theorem Pj {e:Ent} {i:Nat}:∀ {L:List Ent},e∈L->i∈e.v.touchV R->i∈touchV R L
 | [],h,_=>by cases h
 | x::r,h,hi=>by
  simp only [touchV]
  rcases ae.1 h with rfl | h
  ·exact be _ hi
  ·exact bf _ (Pj h hi)
theorem yP {i:Nat}:∀ {l:List Value} {ds:List D},Da l=some ds->i∉ct R ds
 | [],ds,h=>by simp [Da] at h;subst h;simp [ct]
 | v::l,ds,h=>by
  simp only [Da] at h
  split at h
  ·rename_i d r h1 h2
   simp at h;subst h
   unfold dOf at h1
   cases hb:v.oneCell' with
   | false=>rw [hb] at h1;simp at h1
   | true=>rw [hb] at h1;simp at h1;subst h1;simpa [ct,D.touchV] using yP h2
  ·cases h
theorem Abn {v:Value} {x:AV} {i:Nat} (h:Ic v=some x):i∉x.touchV R:=by
 unfold Ic at h
 split at h
 ·cases hd:Da (_:Array Value).toList with
  | none=>rw [hd] at h;cases h
  | some ds=>rw [hd] at h;simp at h;subst h;exact yP hd
 ·cases h
 ·cases hd:dOf v with
  | none=>rw [hd] at h;cases h
  | some d=>
   rw [hd] at h;simp at h;subst h
   unfold dOf at hd
   cases hb:v.oneCell' with
   | false=>rw [hb] at hd;simp at hd
   | true=>rw [hb] at hd;simp at hd;subst hd;simp [AV.touchV,D.touchV]
theorem Ff {x:Operand} {v:AV} {i:Nat} (h:Bl L cur x=some v) (hi:i∈v.touchV R):i∈touchV R L:=by
 unfold Bl at h
 split at h
 ·exact absurd hi (Abn h)
 ·split at h
  ·rename_i e he
   cases hb:Dm e.p cur with
   | false=>rw [hb] at h;simp at h
   | true=>rw [hb] at h;simp at h;subst h;exact Pj (B7 he).1 hi
  ·cases h
 ·simp at h;subst h;simp [AV.touchV,D.touchV,ct] at hi
 ·cases h
theorem L_ {d:D}:d.norm.touchV R=d.touchV R:=by
 unfold D.norm;split <;> rfl
theorem Ku:∀ {l:List D},ct R (l.map D.norm)=ct R l
 | []=>rfl
 | d::r=>by simp only [bz,ct,L_,Ku]
theorem uR {x:AV}:x.norm.touchV R=x.touchV R:=by
 cases x with
 | d x=>exact L_
 | agg l=>exact Ku
 | tup l=>rfl
theorem Hg {g k:Nat}:∀ {d:D},(g,k)∈d.ois->g∈d.touchV R
 | .oi _ _ _ _ _,h=>by simp [D.ois] at h;simp [D.touchV,h.1]
 | .fn f a b,h=>by
  have key:∀ {l:List D},(∀ d,d∈l->(g,k)∈d.ois->g∈d.touchV R)->(g,k)∈cC l->g∈ct R l:=by
   intro l
   induction l with
   | nil=>intro _ h;simp [cC] at h
   | cons d l ih=>
    intro hh h
    simp only [cC,ax] at h
    simp only [ct,ax]
    rcases h with h | h
    ·exact .inl (hh d ah h)
    ·exact .inr (ih (λ d hd=>hh d (ag _ hd)) h)
  simp only [D.ois,ax] at h
  simp only [D.touchV,ax]
  rcases h with h | h
  ·exact .inl (key (λ d _ h=>Hg h) h)
  ·exact .inr (key (λ d _ h=>Hg h) h)
 | .p _,h=>by simp [D.ois] at h
 | .o _ _,h=>by simp [D.ois] at h
 | .os _,h=>by simp [D.ois] at h
 | .oe _ _ _ _,h=>by simp [D.ois] at h
 | .osb _ _ _ _,h=>by simp [D.ois] at h
 | .ip _,h=>by simp [D.ois] at h
 | .any,h=>by simp [D.ois] at h
 | .nq _,h=>by simp [D.ois] at h
theorem Ll {g k:Nat}:∀ {l:List D},(g,k)∈cC l->g∈ct R l
 | [],h=>by simp [cC] at h
 | d::l,h=>by
  simp only [cC,ax] at h
  simp only [ct,ax]
  exact h.imp Hg Ll
theorem Nt {g k:Nat}:∀ {l:List AV},(g,k)∈oisL l->∃ x,x∈l/\g∈x.touchV R
 | [],h=>by simp [oisL] at h
 | x::l,h=>by
  simp only [oisL,ax] at h
  rcases h with h | h
  ·refine⟨x,ah,?_⟩
   cases x with
   | d x=>exact Hg h
   | agg l=>exact Ll h
   | tup l=>simp [AV.ois] at h
  ·obtain⟨y,h1,h2⟩:=Nt h
   exact⟨y,ag _ h1,h2⟩
theorem Vo {args:List AV} {f g:FuncId} {q:List AV} {res:AV} {rows:List (List Pd)} {k:Nat} {rw:List Pd} {out:Out} (ht:∀ x,x∈args->∀ i,i∈x.touchV R->R[i]? = R'[i]?)
  (h:D2 R args f (.callB g q res rows k rw)=some out):out.R=R/\D2 R' args f (.callB g q res rows k rw)=some {out with R:=R'}:=by
 simp only [D2] at h ⊢
 generalize (Nat.beq f g&&res.flat)=bb at h ⊢
 have hview:∀ rw,AV.viewL R rw (args.map AV.norm)=AV.viewL R' rw (args.map AV.norm):=λ rw=>Kv (R:=R) (R':=R') (l:=args.map AV.norm) λ x hx i hi=>by
  obtain⟨y,hy,rfl⟩:=aq.1 hx
  rw [uR] at hi
  exact ht y hy i hi
 cases bb with
 | false=>simp at h
 | true=>
  simp only [cond_true] at h ⊢
  split at h
  ·rw [←hview]
   split at h
   ·rename_i a' e1
    simp at h;subst h
    exact⟨rfl,rfl⟩
   ·cases h
  ·rename_i g0 k0 ho
   obtain⟨x,h1,h2⟩:=Nt (R:=R) (l:=args) (g:=g0) (k:=k0) (by rw [ho];simp)
   rw [←hview,←ht x h1 g0 h2]
   split at h
   ·simp at h;subst h
    exact⟨rfl,rfl⟩
   ·cases h
  ·cases h
theorem Yz {g:Fn} {first caps:List D} {args:List AV} {x:AV} {i:Nat} {f:Operand} {l:List Operand} (e1:Bl L cur f=some (.d (.fn g first caps))) (e2:Cp L cur l=some args)
  (hx:x∈first.map AV.d++args++caps.map AV.d) (hi:i∈x.touchV R):i∈touchV R L:=by
 have hd:∀ {ds:List D} {d:D},d∈ds->i∈d.touchV R->i∈ct R ds:=by
  intro ds
  induction ds with
  | nil=>intro d h;cases h
  | cons a r ih=>
   intro d h hi
   simp only [ct]
   rcases ae.1 h with rfl | h
   ·exact be _ hi
   ·exact bf _ (ih h hi)
 rcases ax.1 hx with hx | hx
 ·rcases ax.1 hx with hx | hx
  ·obtain⟨d,hm,rfl⟩:=aq.1 hx
   exact Ff e1 (by simp only [AV.touchV,D.touchV];exact be _ (hd hm hi))
  ·obtain⟨z,hz⟩:=C4 e2 hx
   exact Ff hz hi
 ·obtain⟨d,hm,rfl⟩:=aq.1 hx
  exact Ff e1 (by simp only [AV.touchV,D.touchV];exact bf _ (hd hm hi))
theorem Nr {c : Cl} {o : Oper} {out : Out} (hq : D0 c o = true) (ht0 : ∀ i, i ∈ deepen R (Gg o.op L) ++ Ajc c R L -> R[i]? = R'[i]?) (h : Fc P L cur R c o = some out) :
    out.R=R/\Fc P L cur R' c o=some {out with R:=R'}:=by
  have ht:∀ i,i∈deepen R (Gg o.op L)->R[i]? = R'[i]?:=λ i hi=>ht0 i (be _ hi)
  unfold Fc at h ⊢
  rw [←Y5 ht]
  split at h
  · rename_i v k hv
    simp at h;subst h
    exact⟨rfl,rfl⟩
  · rename_i hv
    obtain⟨dst,op,type,pos,after,guard⟩:=o
    simp only at h ⊢
    cases op with
    | box t x=>simp [D0] at hq
    | alloc t=>simp [D0] at hq
    | store t x y=>simp [D0] at hq
    | makeSlice t x y=>simp [D0] at hq
    | convert s d x=>
      simp only at h ⊢
      unfold Ji at h ⊢
      split at h
      · split at h
        · simp at h;subst h;exact⟨rfl,rfl⟩
        · cases h
      · cases h
    | buildSlice t len parts=>
      simp only [D0,bg] at hq
      simp only at h ⊢
      split at h
      · rename_i ps e1
        unfold Ea at h ⊢
        rw [hq] at h ⊢
        split at h
        · rename_i e hu
          split at h
          · rename_i size zs e2 e3
            cases hb:(Nat.beq zs.length (size+1)&&Nat.ble (len*(size+1)) 16777216) with
            | false=>rw [hb] at h;simp at h
            | true=>
              rw [hb] at h
              simp only [cond_true,cond_false] at h ⊢
              split at h
              · rename_i pd hpd
                simp at h;subst h
                exact⟨rfl,rfl⟩
              · cases h
          · cases h
        · cases h
      · cases h
    | call kk=>
      obtain⟨callee,cargs,argTypes⟩:=kk
      cases callee with
      | invoke r m=>simp at h
      | builtin b=>cases b <;> first | (simp [D0] at hq;done) | (simp at h;done)
      | value f=>
        simp only [D0,aN,ac] at hq
        simp only at h ⊢
        split at h
        · rename_i g first caps args e1 e2
          cases c with
          | callB g' q res rows k rw=>
            exact Vo (λ x hx i hi=>ht0 i (bf _ (Yz e1 e2 hx hi))) h
          | _=>first
            | (rcases hq with hq | hq
               · simp [Aa3] at hq
               · exact Y_ hq.1 hq.2 h)
        · cases h
    | _=>simp at h
theorem Oe:∀ {l:List Nat} {t:Nat},Lp l t=true↔t∈l
 | [],t=>by simp [Lp]
 | a::r,t=>by
  simp only [Lp,aN,ae,Oe]
  constructor
  ·rintro (h | h)
   ·exact .inl (af h).symm
   ·exact .inr h
  ·rintro (h | h)
   ·subst h;exact .inl (by simp)
   ·exact .inr h
theorem Vp {c : Cl} {ts : List TypeId} {j : Nat} {y : AV} {out : Out} {i : Nat} (h : Ch P R c ts [.d (.os j), y] = some out) (hi : i < R.length) (hj : i ≠ j) : out.R[i]? = R[i]? := by
 match ts,h with
 | [t, u], h =>
  simp only [Ch] at h
  cases hts2:Nat.beq t u with
  | false=>rw [hts2] at h;simp at h
  | true =>
   rw [hts2] at h
   simp only [cond_true] at h
   split at h
   ·split at h
    ·split at h
     ·generalize (Nat.beq _ (_+1))=bb at h
      cases bb with
      | false=>simp at h
      | true=>
       simp only [cond_true] at h
       split at h
       ·generalize (Nat.beq _ _&&Nat.beq _ _)=bb at h
        cases bb with
        | false=>simp at h
        | true=>
         simp at h;subst h
         simp only
         rw [an (by simpa using hi),aI (aT hj)]
       ·cases h
     ·cases h
    ·cases h
   ·cases h
 | [],h=>simp [Ch] at h
 | [_],h=>simp [Ch] at h
 | _::_::_::_,h=>simp [Ch] at h
theorem Sw {c:Cl} {ts:List TypeId} {i' g k size off:Nat} {y:AV} {out:Out} {i:Nat} (h:Fu P R c ts i' g k size off y=some out) (hi:i<R.length) (h1:i≠i') (h2:i≠g):out.R[i]? = R[i]?:=by
 unfold Fu at h
 split at h
 ·split at h
  ·generalize ((_&&_:Bool))=bb at h
   cases bb with
   | false=>simp at h
   | true=>
    simp only [cond_true] at h
    split at h
    ·rename_i v' R' a b z m r' hap
     simp at h;subst h
     have:=Vp (i:=i) hap (by simp;omega) (by omega)
     simp only at this ⊢
     rw [this,an (by simpa using hi),aI (aT h1),aI (aT h2)]
    ·cases h
  ·cases h
 ·cases h
theorem Sv {c:Cl} {ts:List TypeId} {i' n s:Nat} {y:AV} {out:Out} {i:Nat} (h:Ft P R c ts i' n s y=some out) (h1:i≠i'):out.R[i]? = R[i]?:=by
 unfold Ft at h
 split at h
 ·generalize (Nat.beq _ _)=bb at h
  cases bb with
  | false=>simp at h
  | true=>
   simp only [cond_true] at h
   split at h
   ·split at h
    ·split at h
     ·generalize (Nat.beq _ _&&Nat.beq _ _)=bb at h
      cases bb with
      | false=>simp at h
      | true=>
       simp at h;subst h
       simp only
       rw [aI (aT h1)]
     ·cases h
    ·cases h
   ·cases h
 ·cases h
theorem Nw {x:AV} {i lo n s:Nat} {a:Operand} (h:M8 R x=some (i,lo,n,s)) (hl:Bl L cur a=some x):i∈Bx L:=by
 unfold M8 at h
 split at h
 ·split at h
  ·simp at h;obtain⟨rfl,_⟩:=h;exact C7 hl
  ·cases h
 ·simp at h;obtain⟨rfl,_⟩:=h;exact H4 hl
 ·cases h
theorem Y9 {c:Cl} {ts:List TypeId} {l:List Operand} {args:List AV} {out:Out} {i:Nat} (h:Jj P R c ts args=some out) (hl:Cp L cur l=some args) (h1:i∉Bx L):out.R[i]? = R[i]?:=by
 unfold Jj at h
 split at h
 ·rename_i x
  split at h
  ·split at h
   ·rename_i hd
    split at h
    ·generalize ((_&&_:Bool))=bb at h
     cases bb with
     | false=>simp at h
     | true=>
      simp only [cond_true,aj] at h;subst h
      obtain⟨z,hz⟩:=C4 hl (av:=x) (by simp)
      have:=Nw hd hz
      simp only
      rw [aI]
      rintro rfl
      exact h1 this
    ·cases h
   ·cases h
  ·cases h
 ·cases h
theorem uY {c:Cl} {ts:List TypeId} {l:List Operand} {args:List AV} {out:Out} {i:Nat} (h:L9 P R c ts args=some out) (hl:Cp L cur l=some args) (h1:i∉Bx L):out.R[i]? = R[i]?:=by
 unfold L9 at h
 split at h
 ·rename_i x y
  split at h
  ·split at h
   ·rename_i hd
    split at h
    ·generalize ((_&&_:Bool))=bb at h
     cases bb with
     | false=>simp at h
     | true=>
      simp only [cond_true,aj] at h;subst h
      obtain⟨z,hz⟩:=C4 hl (av:=x) (by simp)
      have:=Nw hd hz
      simp only
      rw [aI]
      rintro rfl
      exact h1 this
    ·cases h
   ·cases h
  ·cases h
 ·cases h
theorem uX {c:Cl} {o:Oper} {i' k size off n:Nat} {ds:List D} {out:Out} {i:Nat} (h:L7 R c o i' k size off ds n=some out) (hi:i<R.length) (h1:i≠i') (h2:∀ e s g,R[i']? = some (.dsl e s g)->i≠g) (h3:∀ m,ds=[.os m]->i≠m):out.R[i]? = R[i]?:=by
 unfold L7 at h
 split at h
 next e s g m q1 q2 q3 row q4 rows' hj=>
  split at h
  ·split at h
   ·generalize ((_&&_:Bool))=bb at h
    cases bb with
    | false=>simp at h
    | true=>
     simp only [cond_true,aj] at h;subst h
     have hgi:=h2 _ _ _ hj
     have hmi:=h3 _ rfl
     simp only
     rw [an (by simpa using hi),aI (aT h1),aI (aT hgi),aI (aT hmi)]
   ·cases h
  ·cases h
 next=>cases h
theorem Afw {c : Cl} {o : Oper} {out : Out} {i : Nat} {cs : List (Bool × Bool)} (h : Fc P L cur R c o = some out) (hi : i < R.length) (hw : i ∉ Ce ⟨0, o, L, cur, cs, c, R, out, true, false, none⟩) : out.R[i]? = R[i]? := by
  unfold Fc at h
  split at h
  · simp at h;subst h;rfl
  · obtain ⟨dst, op, type, pos, after, guard⟩ := o
    simp only at h
    cases op with
    | box t x=>
      simp only at h
      split at h
      · generalize (Nat.beq _ _)=bb at h
        cases bb with
        | false=>simp at h
        | true=>simp at h;subst h;simp [List.getElem?_append_left hi]
      · cases h
    | alloc t=>
      simp only at h
      split at h
      · simp at h;subst h;simp [List.getElem?_append_left hi]
      · cases h
    | store t x y =>
      simp only at h
      cases hc:cur.isEmpty with
      | false=>rw [hc] at h;simp at h
      | true=>
        rw [hc] at h
        simp only [cond_true] at h
        split at h
        · rename_i j off ds n e1 e2 e3
          split at h
          · generalize (Nat.beq _ _&&Nat.ble _ _&&Option.isNone _)=bb at h
            cases bb with
            | false=>simp at h
            | true=>
              simp at h;subst h
              simp only [Ce,e1,bO] at hw
              simp only
              rw [aI (aT hw)]
          · cases h
        · rename_i j k size off ds n e1 e2 e3
          simp only [Ce,e1,ae,not_or] at hw
          obtain⟨hw1,hw2⟩:=hw
          split at h
          · rename_i out' hput
            simp at h;subst h
            unfold Aa9 at hput
            split at hput
            · generalize (Nat.beq _ _&&(Nat.beq _ _&&(Nat.ble _ _&&Option.isNone _)))=bb at hput
              cases bb with
              | false=>simp at hput
              | true=>
                simp at hput;subst hput
                simp only
                rw [aI (aT hw1)]
            · cases hput
          · refine uX h hi hw1 (λ e s g hj=>?_) (λ m hds=>?_)
            · rintro rfl
              exact hw2 (be _ (Ze (H3 e1) hj))
            · rintro rfl
              subst hds
              refine hw2 (bf _ ?_)
              obtain⟨av,h1,h2⟩:=Au e2
              cases av with
              | d x=>simp [Es] at h2;subst h2;exact Ff h1 (by simp [AV.touchV,D.touchV])
              | agg l=>simp [Es] at h2;subst h2;exact Ff h1 (by simp [AV.touchV,D.touchV,ct])
              | tup l=>simp [Es] at h2
        · cases h
    | buildSlice t len parts=>
      simp only at h
      split at h
      · unfold Ea at h
        split at h
        · split at h
          · generalize (Nat.beq _ _&&Nat.ble _ _)=bb at h
            cases bb with
            | false=>simp at h
            | true=>
              simp only [cond_true] at h
              split at h
              · cases ho:M4 c with
                | true=>rw [ho] at h;simp at h;subst h;simp [List.getElem?_append_left hi]
                | false=>rw [ho] at h;simp at h;subst h;rfl
              · cases h
          · cases h
        · cases h
      · cases h
    | convert s d x=>
      simp only at h
      unfold Ji at h
      split at h
      · split at h
        · simp at h;subst h;rfl
        · cases h
      · cases h
    | makeSlice t x y=>
      simp only at h
      generalize (Gi x y)=bb at h
      cases bb with
      | false=>simp at h
      | true=>
        simp only [cond_true] at h
        unfold G1 at h
        split at h
        · split at h
          · split at h
            · generalize (Nat.beq _ _)=bb at h
              cases bb with
              | false=>simp at h
              | true=>simp at h;subst h;simp [List.getElem?_append_left hi]
            · cases h
          · cases h
        · split at h
          · split at h
            · generalize (Nat.beq _ _&&_)=bb at h
              cases bb with
              | false=>simp at h
              | true=>simp at h;subst h;simp [List.getElem?_append_left hi]
            · cases h
          · cases h
        · cases h
    | call kk =>
      obtain⟨callee,cargs,argTypes⟩:=kk
      cases callee with
      | invoke r m=>simp at h
      | builtin b=>
        cases b <;> first
          | (simp at h;done)
          | (simp only at h
             split at h
             · rename_i args e1
               first
                 | exact Y9 h e1 (by simpa [Ce] using hw)
                 | exact uY h e1 (by simpa [Ce] using hw)
             · cases h
             done)
          | (simp only at h
             split at h
             · rename_i i' g q size off y e1
               have hall:=e1
               obtain⟨z,hz⟩:=C4 e1 (av:=.d (.oi i' g q size off)) (by simp)
               obtain⟨hi1,hg1⟩:=Vl hz
               have hii:i≠i':=by rintro rfl;exact hw (by simpa [Ce] using hi1)
               have hig:i≠g:=by rintro rfl;exact hw (by simpa [Ce] using hg1)
               exact Sw h hi hii hig
             · rename_i i' n s y e1
               obtain⟨z,hz⟩:=C4 e1 (av:=.d (.osb i' 0 n s)) (by simp)
               have hi1:=H4 hz
               have hii:i≠i':=by rintro rfl;exact hw (by simpa [Ce] using hi1)
               exact Sv h hii
             · rename_i args _ _ e1
               unfold Ch at h
               split at h
               · rename_i t u x y hts
                 generalize (Nat.beq _ _)=bb at h
                 cases bb with
                 | false=>simp at h
                 | true=>
                   simp only [cond_true] at h
                   split at h
                   · split at h
                     · split at h
                       · generalize (Nat.beq _ _)=bb at h
                         cases bb with
                         | false=>simp at h
                         | true=>
                           simp only [cond_true] at h
                           split at h
                           · simp at h;subst h;simp [List.getElem?_append_left hi]
                           · rename_i j
                             split at h
                             · generalize (Nat.beq _ _&&Nat.beq _ _)=bb at h
                               cases bb with
                               | false=>simp at h
                               | true=>
                                 simp at h;subst h
                                 obtain⟨z,hz⟩:=C4 e1 (av:=.d (.os _)) ah
                                 have hj:=C7 hz
                                 simp only
                                 rw [an (by simpa using hi),aI]
                                 rintro rfl
                                 refine hw ?_
                                 simpa [Ce] using hj
                             · cases h
                           · cases h
                       · cases h
                     · cases h
                   · cases h
               · cases h
             · cases h)
      | value f =>
        simp only at h
        split at h
        · rename_i g first caps args e1 e2
          cases c with
          | call f' q1 q2 res R2 pi =>
            simp only [D2] at h
            generalize (Nat.beq g f'&&De pi&&Nat.ble pi.length R2.length)=bb at h
            cases bb with
            | false=>simp at h
            | true=>
              simp only [cond_true] at h
              split at h
              · split at h
                · rename_i Rp2 res2 RR e3 e4 e5
                  simp at h;subst h
                  simp only [Ce] at hw
                  simp only
                  rw [an (by rw [C_];exact hi)]
                  cases hg:R[i]? with
                  | none=>rw [List.getElem?_eq_none_iff] at hg;omega
                  | some r=>
                    have hlt:i<(C6 R pi RR).length:=by rw [C_];exact hi
                    rcases Jy pi R _ i _ (ai hlt) with⟨j,h1,_⟩ | ⟨h1,_⟩
                    · exact absurd (ak h1) hw
                    · rw [ai hlt,←h1,hg]
                · cases h
              · cases h
          | callB f' q1 res rows0 k0 rw0=>
            simp only [D2] at h
            generalize (Nat.beq g f'&&res.flat)=bb at h
            cases bb with
            | false=>simp at h
            | true=>
              simp only [cond_true] at h
              split at h
              · split at h
                · simp at h;subst h;rfl
                · cases h
              · split at h
                · simp at h;subst h;rfl
                · cases h
              · cases h
          | _=>simp [D2] at h
        · cases h
    | _=>simp at h
end
end Go.SL
