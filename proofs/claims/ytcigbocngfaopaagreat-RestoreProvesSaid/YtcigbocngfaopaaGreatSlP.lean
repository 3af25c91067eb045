import Derived.Test.YtcigbocngfaopaaGreatSlO
namespace Go.SL
section
variable {P : Program} {C : Ctx} {S S' : Nat -> Prop} {w w' : World} {ρ ρ' : List Value} {R R' : List Res} {L : List Ent} {cur : B5} {a : Act}
theorem Zi : ∀ {L : List Ent} {e : Ent} {i off : Nat}, e ∈ L -> e.v = .d (.o i off) -> i ∈ By L
 | x :: r, e, i, off, h, hv => by
  rcases ag.1 h with rfl | h
  ·simp [By, hv]
  ·have := Zi h hv
   unfold By; split <;> simp [this]
 | [], _, _, _, h, _ => by cases h
theorem Ry : ∀ {L : List Ent} {e : Ent} {i : Nat}, e ∈ L -> e.v = .d (.os i) -> i ∈ By L
 | x :: r, e, i, h, hv => by
  rcases ag.1 h with rfl | h
  ·simp [By, hv]
  ·have := Ry h hv
   unfold By; split <;> simp [this]
 | [], _, _, h, _ => by cases h
theorem Rz : ∀ {L : List Ent} {e : Ent} {i a b c : Nat}, e ∈ L -> e.v = .d (.oe i a b c) -> i ∈ By L
 | x :: r, e, i, a, b, c, h, hv => by
  rcases ag.1 h with rfl | h
  ·simp [By, hv]
  ·have := Rz h hv
   unfold By; split <;> simp [this]
 | [], _, _, _, _, _, h, _ => by cases h
theorem R5 : ∀ {L : List Ent} {e : Ent} {i a b c : Nat}, e ∈ L -> e.v = .d (.osb i a b c) -> i ∈ By L
 | x :: r, e, i, a, b, c, h, hv => by
  rcases ag.1 h with rfl | h
  ·simp [By, hv]
  ·have := R5 h hv
   unfold By; split <;> simp [this]
 | [], _, _, _, _, _, h, _ => by cases h
theorem Ol : ∀ {L : List Ent} {e : Ent} {i g a b c : Nat}, e ∈ L -> e.v = .d (.oi i g a b c) -> i ∈ By L /\ g ∈ By L
 | x :: r, e, i, g, a, b, c, h, hv => by
  rcases ag.1 h with rfl | h
  ·simp [By, hv]
  ·have := Ol h hv
   unfold By; split <;> simp [this]
 | [], _, _, _, _, _, _, h, _ => by cases h
theorem Vo {i g e s : Nat} : ∀ {l : List Nat}, i ∈ l -> R[i]? = some (.dsl e s g) -> g ∈ Ma R l
 | [], h, _ => by cases h
 | j :: l, h, hi => by
  rcases ag.1 h with rfl | h
  ·simp [Ma, hi]
  ·have := Vo h hi
   unfold Ma; split <;> simp [this]
theorem Aig {i : Nat} {l : List Nat} (h : i ∈ l) : i ∈ deepen R l := bl _ h
theorem Abi {i g e s : Nat} {l : List Nat} (h : i ∈ l) (hi : R[i]? = some (.dsl e s g)) : g ∈ deepen R l := bm _ (Vo h hi)
theorem Mg {v : Value} {i off a b c : Nat} : Ko v ≠ some (.d (.o i off)) /\ Ko v ≠ some (.d (.os i)) /\ Ko v ≠ some (.d (.oe i a b c)) /\ Ko v ≠ some (.d (.osb i a b c)) /\ ∀ g, Ko v ≠ some (.d (.oi i g a b c)) := by
 unfold Ko
 split
 ·refine ⟨?_, ?_, ?_, ?_, λ _ => ?_⟩ <;> (cases Ds (_ : Array Value).toList <;> simp)
 ·simp
 ·refine ⟨?_, ?_, ?_, ?_, λ _ => ?_⟩ <;>
  ·cases h : dOf v with
   | none => simp
   | some d =>
    unfold dOf at h
    cases hb : v.oneCell' with
    | true => rw [hb] at h; simp at h; subst h; simp
    | false => rw [hb] at h; simp at h
theorem Ahz {x : Operand} {i off : Nat} (h : Bg L cur x = some (.d (.o i off))) : i ∈ By L := by
 unfold Bg at h
 split at h
 ·exact absurd h (Mg (a := 0) (b := 0) (c := 0)).1
 ·split at h
  ·rename_i e he
   cases hb : D8 e.p cur with
   | false => rw [hb] at h; simp at h
   | true => rw [hb] at h; simp at h; exact Zi (Cc he).1 h
  ·cases h
 ·simp at h
 ·cases h
theorem Di {x : Operand} {i : Nat} (h : Bg L cur x = some (.d (.os i))) : i ∈ By L := by
 unfold Bg at h
 split at h
 ·exact absurd h (Mg (off := 0) (a := 0) (b := 0) (c := 0)).2.1
 ·split at h
  ·rename_i e he
   cases hb : D8 e.p cur with
   | false => rw [hb] at h; simp at h
   | true => rw [hb] at h; simp at h; exact Ry (Cc he).1 h
  ·cases h
 ·simp at h
 ·cases h
theorem Kg {x : Operand} {i k s off : Nat} (h : Bg L cur x = some (.d (.oe i k s off))) : i ∈ By L := by
 unfold Bg at h
 split at h
 ·exact absurd h (Mg (off := 0)).2.2.1
 ·split at h
  ·rename_i e he
   cases hb : D8 e.p cur with
   | false => rw [hb] at h; simp at h
   | true => rw [hb] at h; simp at h; exact Rz (Cc he).1 h
  ·cases h
 ·simp at h
 ·cases h
theorem Kh {x : Operand} {i k s off : Nat} (h : Bg L cur x = some (.d (.osb i k s off))) : i ∈ By L := by
 unfold Bg at h
 split at h
 ·exact absurd h (Mg (off := 0)).2.2.2.1
 ·split at h
  ·rename_i e he
   cases hb : D8 e.p cur with
   | false => rw [hb] at h; simp at h
   | true => rw [hb] at h; simp at h; exact R5 (Cc he).1 h
  ·cases h
 ·simp at h
 ·cases h
theorem qU {x : Operand} {i g k s off : Nat} (h : Bg L cur x = some (.d (.oi i g k s off))) : i ∈ By L /\ g ∈ By L := by
 unfold Bg at h
 split at h
 ·exact absurd h ((Mg (off := 0)).2.2.2.2 g)
 ·split at h
  ·rename_i e he
   cases hb : D8 e.p cur with
   | false => rw [hb] at h; simp at h
   | true => rw [hb] at h; simp at h; exact Ol (Cc he).1 h
  ·cases h
 ·simp at h
 ·cases h
theorem Dg : ∀ {l : List Operand} {avs : List AV} {av : AV}, Cu L cur l = some avs -> av ∈ avs -> ∃ x, Bg L cur x = some av
 | [], avs, av, h, hm => by simp [Cu] at h; subst h; cases hm
 | x :: r, avs, av, h, hm => by
  simp only [Cu] at h
  split at h
  ·rename_i v l h1 h2
   simp at h; subst h
   rcases ag.1 hm with rfl | hm
   ·exact ⟨x, h1⟩
   ·exact Dg h2 hm
  ·cases h
theorem Aba {args : List AV} (h : ∀ i, AV.d (.os i) ∈ args -> R[i]? = R'[i]?) (hg : ∀ i e s g, AV.d (.os i) ∈ args -> R[i]? = some (.dsl e s g) -> R[g]? = R'[g]?) : I7 R args = I7 R' args := by
 unfold I7
 split
 ·rfl
 ·rfl
 ·rename_i i
  rw [← h i (by simp)]
  split
  ·rfl
  ·rename_i e s g hd
   rw [hg i e s g (by simp) hd]
  ·rfl
 ·rfl
 ·rfl
theorem Aa7 {c : Cl} {op : Op} (h0 : ∀ i, i ∈ deepen R (Hx op L) -> R[i]? = R'[i]?) : Bl P L cur R c op = Bl P L cur R' c op := by
 have h : ∀ i, i ∈ Hx op L -> R[i]? = R'[i]? := λ i hi => h0 i (Aig hi)
 have hgh : ∀ i e s g, i ∈ Hx op L -> R[i]? = some (.dsl e s g) -> R[g]? = R'[g]? := λ i e s g hi hd => h0 g (Abi hi hd)
 cases op with
 | load t x =>
  by_cases hg : ∃ g, x = .global g
  ·obtain ⟨g, rfl⟩ := hg
   rfl
  have e : ∀ R, Bl P L cur R c (.load t x) = P0 P L cur R c t x := λ R => by
   cases x with
   | global g => exact absurd ⟨g, rfl⟩ hg
   | _ => rfl
  rw [e, e]
  unfold P0
  split
  ·rename_i i off n e1 e2
   rw [h i (Ahz e1)]
  ·rfl
  ·rename_i i k size off n e1 e2
   rw [← h i (Kg e1)]
   split
   ·rfl
   ·rename_i e s g _ _ _ hd
    rw [hgh i _ _ _ (Kg e1) hd]
   ·rfl
  ·rfl
 | indexAddr t x i =>
  simp only [Bl]
  unfold Aib
  split
  ·rfl
  ·rename_i e j ik n e1 e2 e3
   rw [← h j (Di e2)]
   split
   ·rfl
   ·rename_i e s g _ _ _ hd
    rw [hgh j _ _ _ (Di e2) hd]
   ·rfl
  ·rfl
  ·rfl
  ·rfl
 | call k =>
  simp only [Bl]
  split
  ·split
   ·rename_i args e1
    split
    ·split
     ·rw [Aba (R' := R') (λ i hi => by
       obtain ⟨x, hx⟩ := Dg e1 hi
       exact h i (Di hx)) (λ i e s g hi hd => by
       obtain ⟨x, hx⟩ := Dg e1 hi
       exact hgh i e s g (Di hx) hd)]
     ·rfl
     ·rfl
    ·rfl
   ·rfl
  ·rfl
 | slice t x lo hi mx =>
  cases mx with
  | none =>
   simp only [Bl]
   split
   ·rfl
   ·rename_i e i e1 e2
    rw [h i (Di e2)]
   ·rename_i e i o0 n0 s0 e1 e2
    rw [h i (Kh e2)]
   ·rfl
  | some mx =>
   cases lo with
   | none => rfl
   | some lo =>
    cases hi with
    | none => rfl
    | some hi =>
     simp only [Bl]
     split
     ·rename_i e i e1 e2
      rw [h i (Di e2)]
     ·rfl
 | _ => rfl
mutual
theorem jK (f : Nat -> Option Nat) : ∀ (d d' : D), D.ren (λ _ => none) d = some d' -> D.ren f d = some d'
 | .p x, d', h => h
 | .o i off, d', h => by simp [D.ren] at h
 | .os i, d', h => by simp [D.ren] at h
 | .oe i k s off, d', h => by simp [D.ren] at h
 | .ip c, d', h => h
 | .any, d', h => h
 | .nq _, d', h => h
 | .osb _ _ _ _, d', h => by simp [D.ren] at h
 | .oi _ _ _ _ _, d', h => by simp [D.ren] at h
 | .fn g a b, d', h => by
  simp only [D.ren] at h ⊢
  split at h
  ·rename_i a' b' h1 h2
   rw [Jr f a a' h1, Jr f b b' h2]
   exact h
  ·cases h
theorem Jr (f : Nat -> Option Nat) : ∀ (l l' : List D), D.renL (λ _ => none) l = some l' -> D.renL f l = some l'
 | [], l', h => h
 | d :: r, l', h => by
  simp only [D.renL] at h ⊢
  split at h
  ·rename_i d' r' h1 h2
   rw [jK f d d' h1, Jr f r r' h2]
   exact h
  ·cases h
end
mutual
theorem Wb (f : Nat -> Option Nat) : ∀ (d d' : AV), AV.ren (λ _ => none) d = some d' -> AV.ren f d = some d'
 | .d x, d', h => by
  simp only [AV.ren] at h ⊢
  split at h
  ·rename_i y hy
   rw [jK f x y hy]; exact h
  ·cases h
 | .agg ds, d', h => by
  simp only [AV.ren] at h ⊢
  split at h
  ·rename_i y hy
   rw [Jr f ds y hy]; exact h
  ·cases h
 | .tup l, d', h => by
  simp only [AV.ren] at h ⊢
  split at h
  ·rename_i y hy
   rw [Sc f l y hy]; exact h
  ·cases h
theorem Sc (f : Nat -> Option Nat) : ∀ (l l' : List AV), AV.renL (λ _ => none) l = some l' -> AV.renL f l = some l'
 | [], l', h => h
 | d :: r, l', h => by
  simp only [AV.renL] at h ⊢
  split at h
  ·rename_i d' r' h1 h2
   rw [Wb f d d' h1, Sc f r r' h2]
   exact h
  ·cases h
end
theorem Abc {args : List AV} {f : FuncId} {c : Cl} {out : Out} (hn : Ahk c = true) (hc : jN c = true)
  (h : Et R args f c = some out) : out.R = R /\ Et R' args f c = some { out with R := R' } := by
 unfold Ahk at hn
 split at hn
 ·rename_i g q1 q2 res R2 pi
  simp only [ac, cu] at hn
  obtain ⟨rfl, rfl⟩ := hn
  obtain ⟨res', hres⟩ := Option.isSome_iff_exists.1 hc
  unfold Et at h ⊢
  simp only at h ⊢
  generalize hbb : (Nat.beq f g && Dz [] && Nat.ble ([] : List Nat).length ([] : List Res).length) = bb at h ⊢
  cases bb with
  | false => simp at h
  | true =>
   simp only [cond_true] at h ⊢
   split at h
   ·rename_i a' Rp e1 e2
    rw [e1]
    simp only [He] at e2 ⊢
    simp only [aj] at e2
    subst e2
    simp only [Fw, Wb _ res res' hres] at h ⊢
    simp at h; subst h
    simp [Dh]
   ·cases h
 ·cases hn
theorem Oa : ∀ {l : List D}, (∀ i, i ∈ Xr l -> R[i]? = R'[i]?) -> Fl R l = Fl R' l
 | [], _ => rfl
 | d :: r, h => by
  have ih : Fl R r = Fl R' r := Oa λ i hi => h i (by cases d <;> simp [Xr, hi])
  have hd : Iv R d = Iv R' d := by
   cases d with
   | os i => simp only [Iv]; rw [h i (by simp [Xr])]
   | _ => rfl
  simp only [Fl, ih, hd]
mutual
theorem Sd {rw : List Pd} : ∀ {d : D}, (∀ i, i ∈ d.touchV R -> R[i]? = R'[i]?) -> d.view R rw = d.view R' rw
 | .p _, _ => rfl
 | .ip _, _ => rfl
 | .any, _ => rfl
 | .nq _, _ => rfl
 | .oe _ _ _ _, _ => rfl
 | .osb i _ _ _, h => by simp only [D.view]; rw [h i (by simp [D.touchV])]
 | .oi _ g _ _ _, h => by simp only [D.view]; rw [h g (by simp [D.touchV])]
 | .os i, h => by simp only [D.view]; rw [h i (by simp [D.touchV])]
 | .o i off, h => by
  have h0 := h i (by simp [D.touchV])
  simp only [D.view]
  rw [← h0]
  cases hi : R[i]? with
  | none => rfl
  | some r => cases r with
   | box t cells =>
    simp only
    rw [Oa (R' := R') λ k hk => h k (by simp only [D.touchV, hi]; exact ai _ hk)]
   | _ => rfl
 | .fn g a b, h => by
  have h1 := Hw (rw := rw) (l := a) λ i hi => h i (by simp only [D.touchV]; exact bl _ hi)
  have h2 := Hw (rw := rw) (l := b) λ i hi => h i (by simp only [D.touchV]; exact bm _ hi)
  simp only [D.view, h1, h2]
theorem Hw {rw : List Pd} : ∀ {l : List D}, (∀ i, i ∈ cx R l -> R[i]? = R'[i]?) -> D.viewL R rw l = D.viewL R' rw l
 | [], _ => rfl
 | d :: r, h => by
  have h1 := Sd (rw := rw) (d := d) λ i hi => h i (by simp only [cx]; exact bl _ hi)
  have h2 := Hw (rw := rw) (l := r) λ i hi => h i (by simp only [cx]; exact bm _ hi)
  simp only [D.viewL, h1, h2]
end
theorem Aen {rw : List Pd} {x : AV} (h : ∀ i, i ∈ x.touchV R -> R[i]? = R'[i]?) : x.view R rw = x.view R' rw := by
 cases x with
 | d x => simp only [AV.view]; rw [Sd (R' := R') h]
 | agg l => simp only [AV.view]; rw [Hw (R' := R') h]
 | tup l => rfl
theorem Od {rw : List Pd} : ∀ {l : List AV}, (∀ x, x ∈ l -> ∀ i, i ∈ x.touchV R -> R[i]? = R'[i]?) -> AV.viewL R rw l = AV.viewL R' rw l
 | [], _ => rfl
 | x :: r, h => by
  have h1 := Aen (rw := rw) (x := x) (h x ak)
  have h2 := Od (rw := rw) (l := r) λ y hy => h y (ai _ hy)
  simp only [AV.viewL, h1, h2]
theorem Ug {e : Ent} {i : Nat} : ∀ {L : List Ent}, e ∈ L -> i ∈ e.v.touchV R -> i ∈ touchV R L
 | [], h, _ => by cases h
 | x :: r, h, hi => by
  simp only [touchV]
  rcases ag.1 h with rfl | h
  ·exact bl _ hi
  ·exact bm _ (Ug h hi)
theorem Af1 {i : Nat} : ∀ {l : List Value} {ds : List D}, Ds l = some ds -> i ∉ cx R ds
 | [], ds, h => by simp [Ds] at h; subst h; simp [cx]
 | v :: l, ds, h => by
  simp only [Ds] at h
  split at h
  ·rename_i d r h1 h2
   simp at h; subst h
   unfold dOf at h1
   cases hb : v.oneCell' with
   | false => rw [hb] at h1; simp at h1
   | true => rw [hb] at h1; simp at h1; subst h1; simpa [cx, D.touchV] using Af1 h2
  ·cases h
theorem Ais {v : Value} {x : AV} {i : Nat} (h : Ko v = some x) : i ∉ x.touchV R := by
 unfold Ko at h
 split at h
 ·cases hd : Ds (_ : Array Value).toList with
  | none => rw [hd] at h; cases h
  | some ds => rw [hd] at h; simp at h; subst h; exact Af1 hd
 ·cases h
 ·cases hd : dOf v with
  | none => rw [hd] at h; cases h
  | some d =>
   rw [hd] at h; simp at h; subst h
   unfold dOf at hd
   cases hb : v.oneCell' with
   | false => rw [hb] at hd; simp at hd
   | true => rw [hb] at hd; simp at hd; subst hd; simp [AV.touchV, D.touchV]
theorem Gs {x : Operand} {v : AV} {i : Nat} (h : Bg L cur x = some v) (hi : i ∈ v.touchV R) : i ∈ touchV R L := by
 unfold Bg at h
 split at h
 ·exact absurd hi (Ais h)
 ·split at h
  ·rename_i e he
   cases hb : D8 e.p cur with
   | false => rw [hb] at h; simp at h
   | true => rw [hb] at h; simp at h; subst h; exact Ug (Cc he).1 hi
  ·cases h
 ·simp at h; subst h; simp [AV.touchV, D.touchV, cx] at hi
 ·cases h
theorem P2 {d : D} : d.norm.touchV R = d.touchV R := by
 unfold D.norm; split <;> rfl
theorem Oc : ∀ {l : List D}, cx R (l.map D.norm) = cx R l
 | [] => rfl
 | d :: r => by simp only [bI, cx, P2, Oc]
theorem Aer {x : AV} : x.norm.touchV R = x.touchV R := by
 cases x with
 | d x => exact P2
 | agg l => exact Oc
 | tup l => rfl
theorem Jm {g k : Nat} : ∀ {d : D}, (g, k) ∈ d.ois -> g ∈ d.touchV R
 | .oi _ _ _ _ _, h => by simp [D.ois] at h; simp [D.touchV, h.1]
 | .fn f a b, h => by
  have key : ∀ {l : List D}, (∀ d, d ∈ l -> (g, k) ∈ d.ois -> g ∈ d.touchV R) -> (g, k) ∈ cG l -> g ∈ cx R l := by
   intro l
   induction l with
   | nil => intro _ h; simp [cG] at h
   | cons d l ih =>
    intro hh h
    simp only [cG, ax] at h
    simp only [cx, ax]
    rcases h with h | h
    ·exact .inl (hh d ak h)
    ·exact .inr (ih (λ d hd => hh d (ai _ hd)) h)
  simp only [D.ois, ax] at h
  simp only [D.touchV, ax]
  rcases h with h | h
  ·exact .inl (key (λ d _ h => Jm h) h)
  ·exact .inr (key (λ d _ h => Jm h) h)
 | .p _, h => by simp [D.ois] at h
 | .o _ _, h => by simp [D.ois] at h
 | .os _, h => by simp [D.ois] at h
 | .oe _ _ _ _, h => by simp [D.ois] at h
 | .osb _ _ _ _, h => by simp [D.ois] at h
 | .ip _, h => by simp [D.ois] at h
 | .any, h => by simp [D.ois] at h
 | .nq _, h => by simp [D.ois] at h
theorem Pe {g k : Nat} : ∀ {l : List D}, (g, k) ∈ cG l -> g ∈ cx R l
 | [], h => by simp [cG] at h
 | d :: l, h => by
  simp only [cG, ax] at h
  simp only [cx, ax]
  exact h.imp Jm Pe
theorem R9 {g k : Nat} : ∀ {l : List AV}, (g, k) ∈ oisL l -> ∃ x, x ∈ l /\ g ∈ x.touchV R
 | [], h => by simp [oisL] at h
 | x :: l, h => by
  simp only [oisL, ax] at h
  rcases h with h | h
  ·refine ⟨x, ak, ?_⟩
   cases x with
   | d x => exact Jm h
   | agg l => exact Pe h
   | tup l => simp [AV.ois] at h
  ·obtain ⟨y, h1, h2⟩ := R9 h
   exact ⟨y, ai _ h1, h2⟩
theorem qX {args : List AV} {f g : FuncId} {q : List AV} {res : AV} {rows : List (List Pd)} {k : Nat} {rw : List Pd} {out : Out} (ht : ∀ x, x ∈ args -> ∀ i, i ∈ x.touchV R -> R[i]? = R'[i]?)
  (h : Et R args f (.callB g q res rows k rw) = some out) : out.R = R /\ Et R' args f (.callB g q res rows k rw) = some { out with R := R' } := by
 simp only [Et] at h ⊢
 generalize (Nat.beq f g && res.flat) = bb at h ⊢
 have hview : ∀ rw, AV.viewL R rw (args.map AV.norm) = AV.viewL R' rw (args.map AV.norm) := λ rw => Od (R := R) (R' := R') (l := args.map AV.norm) λ x hx i hi => by
  obtain ⟨y, hy, rfl⟩ := ao.1 hx
  rw [Aer] at hi
  exact ht y hy i hi
 cases bb with
 | false => simp at h
 | true =>
  simp only [cond_true] at h ⊢
  split at h
  ·rw [← hview]
   split at h
   ·rename_i a' e1
    simp at h; subst h
    exact ⟨rfl, rfl⟩
   ·cases h
  ·rename_i g0 k0 ho
   obtain ⟨x, h1, h2⟩ := R9 (R := R) (l := args) (g := g0) (k := k0) (by rw [ho]; simp)
   rw [← hview, ← ht x h1 g0 h2]
   split at h
   ·simp at h; subst h
    exact ⟨rfl, rfl⟩
   ·cases h
  ·cases h
theorem Aaz {g : Fn} {first caps : List D} {args : List AV} {x : AV} {i : Nat} {f : Operand} {l : List Operand} (e1 : Bg L cur f = some (.d (.fn g first caps))) (e2 : Cu L cur l = some args)
  (hx : x ∈ first.map AV.d ++ args ++ caps.map AV.d) (hi : i ∈ x.touchV R) : i ∈ touchV R L := by
 have hd : ∀ {ds : List D} {d : D}, d ∈ ds -> i ∈ d.touchV R -> i ∈ cx R ds := by
  intro ds
  induction ds with
  | nil => intro d h; cases h
  | cons a r ih =>
   intro d h hi
   simp only [cx]
   rcases ag.1 h with rfl | h
   ·exact bl _ hi
   ·exact bm _ (ih h hi)
 rcases ax.1 hx with hx | hx
 ·rcases ax.1 hx with hx | hx
  ·obtain ⟨d, hm, rfl⟩ := ao.1 hx
   exact Gs e1 (by simp only [AV.touchV, D.touchV]; exact bl _ (hd hm hi))
  ·obtain ⟨z, hz⟩ := Dg e2 hx
   exact Gs hz hi
 ·obtain ⟨d, hm, rfl⟩ := ao.1 hx
  exact Gs e1 (by simp only [AV.touchV, D.touchV]; exact bm _ (hd hm hi))
theorem R7 {c : Cl} {o : Oper} {out : Out} (hq : Em c o = true) (ht0 : ∀ i, i ∈ deepen R (Hx o.op L) ++ Aq8 c R L -> R[i]? = R'[i]?) (h : Gr P L cur R c o = some out) :
    out.R = R /\ Gr P L cur R' c o = some { out with R := R' } := by
  have ht : ∀ i, i ∈ deepen R (Hx o.op L) -> R[i]? = R'[i]? := λ i hi => ht0 i (bl _ hi)
  unfold Gr at h ⊢
  rw [← Aa7 ht]
  split at h
  · rename_i v k hv
    simp at h; subst h
    exact ⟨rfl, rfl⟩
  · rename_i hv
    obtain ⟨dst, op, type, pos, after, guard⟩ := o
    simp only at h ⊢
    cases op with
    | box t x => simp [Em] at hq
    | alloc t => simp [Em] at hq
    | store t x y => simp [Em] at hq
    | makeSlice t x y => simp [Em] at hq
    | convert s d x =>
      simp only at h ⊢
      unfold Md at h ⊢
      split at h
      · split at h
        · simp at h; subst h; exact ⟨rfl, rfl⟩
        · cases h
      · cases h
    | buildSlice t len parts =>
      simp only [Em, aV] at hq
      simp only at h ⊢
      split at h
      · rename_i ps e1
        unfold E_ at h ⊢
        rw [hq] at h ⊢
        split at h
        · rename_i e hu
          split at h
          · rename_i size zs e2 e3
            cases hb : (Nat.beq zs.length (size + 1) && Nat.ble (len * (size + 1)) 16777216) with
            | false => rw [hb] at h; simp at h
            | true =>
              rw [hb] at h
              simp only [cond_true, cond_false] at h ⊢
              split at h
              · rename_i pd hpd
                simp at h; subst h
                exact ⟨rfl, rfl⟩
              · cases h
          · cases h
        · cases h
      · cases h
    | call kk =>
      obtain ⟨callee, cargs, argTypes⟩ := kk
      cases callee with
      | invoke r m => simp at h
      | builtin b => cases b <;> first | (simp [Em] at hq; done) | (simp at h; done)
      | value f =>
        simp only [Em, aD, ac] at hq
        simp only at h ⊢
        split at h
        · rename_i g first caps args e1 e2
          cases c with
          | callB g' q res rows k rw =>
            exact qX (λ x hx i hi => ht0 i (bm _ (Aaz e1 e2 hx hi))) h
          | _ => first
            | (rcases hq with hq | hq
               · simp [Ah3] at hq
               · exact Abc hq.1 hq.2 h)
        · cases h
    | _ => simp at h
theorem M6 : ∀ {l : List Nat} {t : Nat}, Ll l t = true ↔ t ∈ l
 | [], t => by simp [Ll]
 | a :: r, t => by
  simp only [Ll, aD, ag, M6]
  constructor
  ·rintro (h | h)
   ·exact .inl (ah h).symm
   ·exact .inr h
  ·rintro (h | h)
   ·subst h; exact .inl (by simp)
   ·exact .inr h
theorem qY {c : Cl} {ts : List TypeId} {j : Nat} {y : AV} {out : Out} {i : Nat} (h : Cm P R c ts [.d (.os j), y] = some out) (hi : i < R.length) (hj : i ≠ j) : out.R[i]? = R[i]? := by
 match ts, h with
 | [t, u], h =>
  simp only [Cm] at h
  cases hts2 : Nat.beq t u with
  | false => rw [hts2] at h; simp at h
  | true =>
   rw [hts2] at h
   simp only [cond_true] at h
   split at h
   ·split at h
    ·split at h
     ·generalize (Nat.beq _ (_ + 1)) = bb at h
      cases bb with
      | false => simp at h
      | true =>
       simp only [cond_true] at h
       split at h
       ·generalize (Nat.beq _ _ && Nat.beq _ _) = bb at h
        cases bb with
        | false => simp at h
        | true =>
         simp at h; subst h
         simp only
         rw [ap (by simpa using hi), aG (aR hj)]
       ·cases h
     ·cases h
    ·cases h
   ·cases h
 | [], h => simp [Cm] at h
 | [_], h => simp [Cm] at h
 | _ :: _ :: _ :: _, h => simp [Cm] at h
theorem Ya {c : Cl} {ts : List TypeId} {i' g k size off : Nat} {y : AV} {out : Out} {i : Nat} (h : G_ P R c ts i' g k size off y = some out) (hi : i < R.length) (h1 : i ≠ i') (h2 : i ≠ g) : out.R[i]? = R[i]? := by
 unfold G_ at h
 split at h
 ·split at h
  ·generalize ((_ && _ : Bool)) = bb at h
   cases bb with
   | false => simp at h
   | true =>
    simp only [cond_true] at h
    split at h
    ·rename_i v' R' a b z m r' hap
     simp at h; subst h
     have := qY (i := i) hap (by simp; omega) (by omega)
     simp only at this ⊢
     rw [this, ap (by simpa using hi), aG (aR h1), aG (aR h2)]
    ·cases h
  ·cases h
 ·cases h
theorem X_ {c : Cl} {ts : List TypeId} {i' n s : Nat} {y : AV} {out : Out} {i : Nat} (h : G9 P R c ts i' n s y = some out) (h1 : i ≠ i') : out.R[i]? = R[i]? := by
 unfold G9 at h
 split at h
 ·generalize (Nat.beq _ _) = bb at h
  cases bb with
  | false => simp at h
  | true =>
   simp only [cond_true] at h
   split at h
   ·split at h
    ·split at h
     ·generalize (Nat.beq _ _ && Nat.beq _ _) = bb at h
      cases bb with
      | false => simp at h
      | true =>
       simp at h; subst h
       simp only
       rw [aG (aR h1)]
     ·cases h
    ·cases h
   ·cases h
 ·cases h
theorem Sa {x : AV} {i lo n s : Nat} {a : Operand} (h : Rg R x = some (i, lo, n, s)) (hl : Bg L cur a = some x) : i ∈ By L := by
 unfold Rg at h
 split at h
 ·split at h
  ·simp at h; obtain ⟨rfl, _⟩ := h; exact Di hl
  ·cases h
 ·simp at h; obtain ⟨rfl, _⟩ := h; exact Kh hl
 ·cases h
theorem Abb {c : Cl} {ts : List TypeId} {l : List Operand} {args : List AV} {out : Out} {i : Nat} (h : Me P R c ts args = some out) (hl : Cu L cur l = some args) (h1 : i ∉ By L) : out.R[i]? = R[i]? := by
 unfold Me at h
 split at h
 ·rename_i x
  split at h
  ·split at h
   ·rename_i hd
    split at h
    ·generalize ((_ && _ : Bool)) = bb at h
     cases bb with
     | false => simp at h
     | true =>
      simp only [cond_true, aj] at h; subst h
      obtain ⟨z, hz⟩ := Dg hl (av := x) (by simp)
      have := Sa hd hz
      simp only
      rw [aG]
      rintro rfl
      exact h1 this
    ·cases h
   ·cases h
  ·cases h
 ·cases h
theorem Aey {c : Cl} {ts : List TypeId} {l : List Operand} {args : List AV} {out : Out} {i : Nat} (h : P1 P R c ts args = some out) (hl : Cu L cur l = some args) (h1 : i ∉ By L) : out.R[i]? = R[i]? := by
 unfold P1 at h
 split at h
 ·rename_i x y
  split at h
  ·split at h
   ·rename_i hd
    split at h
    ·generalize ((_ && _ : Bool)) = bb at h
     cases bb with
     | false => simp at h
     | true =>
      simp only [cond_true, aj] at h; subst h
      obtain ⟨z, hz⟩ := Dg hl (av := x) (by simp)
      have := Sa hd hz
      simp only
      rw [aG]
      rintro rfl
      exact h1 this
    ·cases h
   ·cases h
  ·cases h
 ·cases h
theorem Aex {c : Cl} {o : Oper} {i' k size off n : Nat} {ds : List D} {out : Out} {i : Nat} (h : Pz R c o i' k size off ds n = some out) (hi : i < R.length) (h1 : i ≠ i') (h2 : ∀ e s g, R[i']? = some (.dsl e s g) -> i ≠ g) (h3 : ∀ m, ds = [.os m] -> i ≠ m) : out.R[i]? = R[i]? := by
 unfold Pz at h
 split at h
 next e s g m q1 q2 q3 row q4 rows' hj =>
  split at h
  ·split at h
   ·generalize ((_ && _ : Bool)) = bb at h
    cases bb with
    | false => simp at h
    | true =>
     simp only [cond_true, aj] at h; subst h
     have hgi := h2 _ _ _ hj
     have hmi := h3 _ rfl
     simp only
     rw [ap (by simpa using hi), aG (aR h1), aG (aR hgi), aG (aR hmi)]
   ·cases h
  ·cases h
 next => cases h
theorem Ani {c : Cl} {o : Oper} {out : Out} {i : Nat} {cs : List (Bool × Bool)} (h : Gr P L cur R c o = some out) (hi : i < R.length) (hw : i ∉ Ci ⟨0, o, L, cur, cs, c, R, out, true, false, none⟩) : out.R[i]? = R[i]? := by
  unfold Gr at h
  split at h
  · simp at h; subst h; rfl
  · obtain ⟨dst, op, type, pos, after, guard⟩ := o
    simp only at h
    cases op with
    | box t x =>
      simp only at h
      split at h
      · generalize (Nat.beq _ _) = bb at h
        cases bb with
        | false => simp at h
        | true => simp at h; subst h; simp [List.getElem?_append_left hi]
      · cases h
    | alloc t =>
      simp only at h
      split at h
      · simp at h; subst h; simp [List.getElem?_append_left hi]
      · cases h
    | store t x y =>
      simp only at h
      cases hc : cur.isEmpty with
      | false => rw [hc] at h; simp at h
      | true =>
        rw [hc] at h
        simp only [cond_true] at h
        split at h
        · rename_i j off ds n e1 e2 e3
          split at h
          · generalize (Nat.beq _ _ && Nat.ble _ _ && Option.isNone _) = bb at h
            cases bb with
            | false => simp at h
            | true =>
              simp at h; subst h
              simp only [Ci, e1, bq] at hw
              simp only
              rw [aG (aR hw)]
          · cases h
        · rename_i j k size off ds n e1 e2 e3
          simp only [Ci, e1, ag, not_or] at hw
          obtain ⟨hw1, hw2⟩ := hw
          split at h
          · rename_i out' hput
            simp at h; subst h
            unfold Aia at hput
            split at hput
            · generalize (Nat.beq _ _ && (Nat.beq _ _ && (Nat.ble _ _ && Option.isNone _))) = bb at hput
              cases bb with
              | false => simp at hput
              | true =>
                simp at hput; subst hput
                simp only
                rw [aG (aR hw1)]
            · cases hput
          · refine Aex h hi hw1 (λ e s g hj => ?_) (λ m hds => ?_)
            · rintro rfl
              exact hw2 (bl _ (Abi (Kg e1) hj))
            · rintro rfl
              subst hds
              refine hw2 (bm _ ?_)
              obtain ⟨av, h1, h2⟩ := Au e2
              cases av with
              | d x => simp [Fs] at h2; subst h2; exact Gs h1 (by simp [AV.touchV, D.touchV])
              | agg l => simp [Fs] at h2; subst h2; exact Gs h1 (by simp [AV.touchV, D.touchV, cx])
              | tup l => simp [Fs] at h2
        · cases h
    | buildSlice t len parts =>
      simp only at h
      split at h
      · unfold E_ at h
        split at h
        · split at h
          · generalize (Nat.beq _ _ && Nat.ble _ _) = bb at h
            cases bb with
            | false => simp at h
            | true =>
              simp only [cond_true] at h
              split at h
              · cases ho : Q_ c with
                | true => rw [ho] at h; simp at h; subst h; simp [List.getElem?_append_left hi]
                | false => rw [ho] at h; simp at h; subst h; rfl
              · cases h
          · cases h
        · cases h
      · cases h
    | convert s d x =>
      simp only at h
      unfold Md at h
      split at h
      · split at h
        · simp at h; subst h; rfl
        · cases h
      · cases h
    | makeSlice t x y =>
      simp only at h
      generalize (Hy x y) = bb at h
      cases bb with
      | false => simp at h
      | true =>
        simp only [cond_true] at h
        unfold I6 at h
        split at h
        · split at h
          · split at h
            · generalize (Nat.beq _ _) = bb at h
              cases bb with
              | false => simp at h
              | true => simp at h; subst h; simp [List.getElem?_append_left hi]
            · cases h
          · cases h
        · split at h
          · split at h
            · generalize (Nat.beq _ _ && _) = bb at h
              cases bb with
              | false => simp at h
              | true => simp at h; subst h; simp [List.getElem?_append_left hi]
            · cases h
          · cases h
        · cases h
    | call kk =>
      obtain ⟨callee, cargs, argTypes⟩ := kk
      cases callee with
      | invoke r m => simp at h
      | builtin b =>
        cases b <;> first
          | (simp at h; done)
          | (simp only at h
             split at h
             · rename_i args e1
               first
                 | exact Abb h e1 (by simpa [Ci] using hw)
                 | exact Aey h e1 (by simpa [Ci] using hw)
             · cases h
             done)
          | (simp only at h
             split at h
             · rename_i i' g q size off y e1
               have hall := e1
               obtain ⟨z, hz⟩ := Dg e1 (av := .d (.oi i' g q size off)) (by simp)
               obtain ⟨hi1, hg1⟩ := qU hz
               have hii : i ≠ i' := by rintro rfl; exact hw (by simpa [Ci] using hi1)
               have hig : i ≠ g := by rintro rfl; exact hw (by simpa [Ci] using hg1)
               exact Ya h hi hii hig
             · rename_i i' n s y e1
               obtain ⟨z, hz⟩ := Dg e1 (av := .d (.osb i' 0 n s)) (by simp)
               have hi1 := Kh hz
               have hii : i ≠ i' := by rintro rfl; exact hw (by simpa [Ci] using hi1)
               exact X_ h hii
             · rename_i args _ _ e1
               unfold Cm at h
               split at h
               · rename_i t u x y hts
                 generalize (Nat.beq _ _) = bb at h
                 cases bb with
                 | false => simp at h
                 | true =>
                   simp only [cond_true] at h
                   split at h
                   · split at h
                     · split at h
                       · generalize (Nat.beq _ _) = bb at h
                         cases bb with
                         | false => simp at h
                         | true =>
                           simp only [cond_true] at h
                           split at h
                           · simp at h; subst h; simp [List.getElem?_append_left hi]
                           · rename_i j
                             split at h
                             · generalize (Nat.beq _ _ && Nat.beq _ _) = bb at h
                               cases bb with
                               | false => simp at h
                               | true =>
                                 simp at h; subst h
                                 obtain ⟨z, hz⟩ := Dg e1 (av := .d (.os _)) ak
                                 have hj := Di hz
                                 simp only
                                 rw [ap (by simpa using hi), aG]
                                 rintro rfl
                                 refine hw ?_
                                 simpa [Ci] using hj
                             · cases h
                           · cases h
                       · cases h
                     · cases h
                   · cases h
               · cases h
             · cases h)
      | value f =>
        simp only at h
        split at h
        · rename_i g first caps args e1 e2
          cases c with
          | call f' q1 q2 res R2 pi =>
            simp only [Et] at h
            generalize (Nat.beq g f' && Dz pi && Nat.ble pi.length R2.length) = bb at h
            cases bb with
            | false => simp at h
            | true =>
              simp only [cond_true] at h
              split at h
              · split at h
                · rename_i Rp2 res2 RR e3 e4 e5
                  simp at h; subst h
                  simp only [Ci] at hw
                  simp only
                  rw [ap (by rw [Dp]; exact hi)]
                  cases hg : R[i]? with
                  | none => rw [List.getElem?_eq_none_iff] at hg; omega
                  | some r =>
                    have hlt : i < (Dh R pi RR).length := by rw [Dp]; exact hi
                    rcases M0 pi R _ i _ (af hlt) with ⟨j, h1, _⟩ | ⟨h1, _⟩
                    · exact absurd (ae h1) hw
                    · rw [af hlt, ← h1, hg]
                · cases h
              · cases h
          | callB f' q1 res rows0 k0 rw0 =>
            simp only [Et] at h
            generalize (Nat.beq g f' && res.flat) = bb at h
            cases bb with
            | false => simp at h
            | true =>
              simp only [cond_true] at h
              split at h
              · split at h
                · simp at h; subst h; rfl
                · cases h
              · split at h
                · simp at h; subst h; rfl
                · cases h
              · cases h
          | _ => simp [Et] at h
        · cases h
    | _ => simp at h
end
end Go.SL
