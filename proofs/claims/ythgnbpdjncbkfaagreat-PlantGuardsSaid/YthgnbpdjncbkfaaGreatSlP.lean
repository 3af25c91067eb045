import Derived.Test.YthgnbpdjncbkfaaGreatSlO
namespace Go.SL
section
variable {P : Program} {C : Ctx} {S S' : Nat -> Prop} {w w' : World} {ρ ρ' : List Value} {R R' : List Res} {L : List Ent} {cur : Cq} {a : Act}
theorem Aaq : ∀ {L : List Ent} {e : Ent} {i off : Nat}, e ∈ L -> e.v = .d (.o i off) -> i ∈ Cj L
 | x :: r, e, i, off, h, hv => by
  rcases ah.1 h with rfl | h
  ·simp [Cj, hv]
  ·have := Aaq h hv
   unfold Cj; split <;> simp [this]
 | [], _, _, _, h, _ => by cases h
theorem Wp : ∀ {L : List Ent} {e : Ent} {i : Nat}, e ∈ L -> e.v = .d (.os i) -> i ∈ Cj L
 | x :: r, e, i, h, hv => by
  rcases ah.1 h with rfl | h
  ·simp [Cj, hv]
  ·have := Wp h hv
   unfold Cj; split <;> simp [this]
 | [], _, _, h, _ => by cases h
theorem Wq : ∀ {L : List Ent} {e : Ent} {i a b c : Nat}, e ∈ L -> e.v = .d (.oe i a b c) -> i ∈ Cj L
 | x :: r, e, i, a, b, c, h, hv => by
  rcases ah.1 h with rfl | h
  ·simp [Cj, hv]
  ·have := Wq h hv
   unfold Cj; split <;> simp [this]
 | [], _, _, _, _, _, h, _ => by cases h
theorem Wr : ∀ {L : List Ent} {e : Ent} {i a b c : Nat}, e ∈ L -> e.v = .d (.osb i a b c) -> i ∈ Cj L
 | x :: r, e, i, a, b, c, h, hv => by
  rcases ah.1 h with rfl | h
  ·simp [Cj, hv]
  ·have := Wr h hv
   unfold Cj; split <;> simp [this]
 | [], _, _, _, _, _, h, _ => by cases h
theorem Ru : ∀ {L : List Ent} {e : Ent} {i g a b c : Nat}, e ∈ L -> e.v = .d (.oi i g a b c) -> i ∈ Cj L /\ g ∈ Cj L
 | x :: r, e, i, g, a, b, c, h, hv => by
  rcases ah.1 h with rfl | h
  ·simp [Cj, hv]
  ·have := Ru h hv
   unfold Cj; split <;> simp [this]
 | [], _, _, _, _, _, _, h, _ => by cases h
theorem jG {i g e s : Nat} : ∀ {l : List Nat}, i ∈ l -> R[i]? = some (.dsl e s g) -> g ∈ O9 R l
 | [], h, _ => by cases h
 | j :: l, h, hi => by
  rcases ah.1 h with rfl | h
  ·simp [O9, hi]
  ·have := jG h hi
   unfold O9; split <;> simp [this]
theorem Ara {i : Nat} {l : List Nat} (h : i ∈ l) : i ∈ deepen R l := bg _ h
theorem Ah3 {i g e s : Nat} {l : List Nat} (h : i ∈ l) (hi : R[i]? = some (.dsl e s g)) : g ∈ deepen R l := bh _ (jG h hi)
theorem Ph {v : Value} {i off a b c : Nat} : Mq v ≠ some (.d (.o i off)) /\ Mq v ≠ some (.d (.os i)) /\ Mq v ≠ some (.d (.oe i a b c)) /\ Mq v ≠ some (.d (.osb i a b c)) /\ ∀ g, Mq v ≠ some (.d (.oi i g a b c)) := by
 unfold Mq
 split
 ·refine ⟨?_, ?_, ?_, ?_, λ _ => ?_⟩ <;> (cases Eu (_ : Array Value).toList <;> simp)
 ·simp
 ·refine ⟨?_, ?_, ?_, ?_, λ _ => ?_⟩ <;>
  ·cases h : dOf v with
   | none => simp
   | some d =>
    unfold dOf at h
    cases hb : v.oneCell' with
    | true => rw [hb] at h; simp at h; subst h; simp
    | false => rw [hb] at h; simp at h
theorem Aqr {x : Operand} {i off : Nat} (h : B0 L cur x = some (.d (.o i off))) : i ∈ Cj L := by
 unfold B0 at h
 split at h
 ·exact absurd h (Ph (a := 0) (b := 0) (c := 0)).1
 ·split at h
  ·rename_i e he
   cases hb : E_ e.p cur with
   | false => rw [hb] at h; simp at h
   | true => rw [hb] at h; simp at h; exact Aaq (C3 he).1 h
  ·cases h
 ·simp at h
 ·cases h
theorem Eg {x : Operand} {i : Nat} (h : B0 L cur x = some (.d (.os i))) : i ∈ Cj L := by
 unfold B0 at h
 split at h
 ·exact absurd h (Ph (off := 0) (a := 0) (b := 0) (c := 0)).2.1
 ·split at h
  ·rename_i e he
   cases hb : E_ e.p cur with
   | false => rw [hb] at h; simp at h
   | true => rw [hb] at h; simp at h; exact Wp (C3 he).1 h
  ·cases h
 ·simp at h
 ·cases h
theorem Mf {x : Operand} {i k s off : Nat} (h : B0 L cur x = some (.d (.oe i k s off))) : i ∈ Cj L := by
 unfold B0 at h
 split at h
 ·exact absurd h (Ph (off := 0)).2.2.1
 ·split at h
  ·rename_i e he
   cases hb : E_ e.p cur with
   | false => rw [hb] at h; simp at h
   | true => rw [hb] at h; simp at h; exact Wq (C3 he).1 h
  ·cases h
 ·simp at h
 ·cases h
theorem Mg {x : Operand} {i k s off : Nat} (h : B0 L cur x = some (.d (.osb i k s off))) : i ∈ Cj L := by
 unfold B0 at h
 split at h
 ·exact absurd h (Ph (off := 0)).2.2.2.1
 ·split at h
  ·rename_i e he
   cases hb : E_ e.p cur with
   | false => rw [hb] at h; simp at h
   | true => rw [hb] at h; simp at h; exact Wr (C3 he).1 h
  ·cases h
 ·simp at h
 ·cases h
theorem Adv {x : Operand} {i g k s off : Nat} (h : B0 L cur x = some (.d (.oi i g k s off))) : i ∈ Cj L /\ g ∈ Cj L := by
 unfold B0 at h
 split at h
 ·exact absurd h ((Ph (off := 0)).2.2.2.2 g)
 ·split at h
  ·rename_i e he
   cases hb : E_ e.p cur with
   | false => rw [hb] at h; simp at h
   | true => rw [hb] at h; simp at h; exact Ru (C3 he).1 h
  ·cases h
 ·simp at h
 ·cases h
theorem D_ : ∀ {l : List Operand} {avs : List AV} {av : AV}, Dq L cur l = some avs -> av ∈ avs -> ∃ x, B0 L cur x = some av
 | [], avs, av, h, hm => by simp [Dq] at h; subst h; cases hm
 | x :: r, avs, av, h, hm => by
  simp only [Dq] at h
  split at h
  ·rename_i v l h1 h2
   simp at h; subst h
   rcases ah.1 hm with rfl | hm
   ·exact ⟨x, h1⟩
   ·exact D_ h2 hm
  ·cases h
theorem Ahs {args : List AV} (h : ∀ i, AV.d (.os i) ∈ args -> R[i]? = R'[i]?) (hg : ∀ i e s g, AV.d (.os i) ∈ args -> R[i]? = some (.dsl e s g) -> R[g]? = R'[g]?) : Kw R args = Kw R' args := by
 unfold Kw
 split
 ·rfl
 ·rfl
 ·rename_i i
  rw [← h i (by simp)]
  split
  ·rfl
  ·rename_i e s g hd
   rw [hg i e s g (by simp) hd]
  ·rfl
 ·rfl
 ·rfl
theorem Ahp {c : Cl} {op : Op} (h0 : ∀ i, i ∈ deepen R (Jp op L) -> R[i]? = R'[i]?) : B9 P L cur R c op = B9 P L cur R' c op := by
 have h : ∀ i, i ∈ Jp op L -> R[i]? = R'[i]? := λ i hi => h0 i (Ara hi)
 have hgh : ∀ i e s g, i ∈ Jp op L -> R[i]? = some (.dsl e s g) -> R[g]? = R'[g]? := λ i e s g hi hd => h0 g (Ah3 hi hd)
 cases op with
 | load t x =>
  by_cases hg : ∃ g, x = .global g
  ·obtain ⟨g, rfl⟩ := hg
   rfl
  have e : ∀ R, B9 P L cur R c (.load t x) = Tm P L cur R c t x := λ R => by
   cases x with
   | global g => exact absurd ⟨g, rfl⟩ hg
   | _ => rfl
  rw [e, e]
  unfold Tm
  split
  ·rename_i i off n e1 e2
   rw [h i (Aqr e1)]
  ·rfl
  ·rename_i i k size off n e1 e2
   rw [← h i (Mf e1)]
   split
   ·rfl
   ·rename_i e s g _ _ _ hd
    rw [hgh i _ _ _ (Mf e1) hd]
   ·rfl
  ·rfl
 | indexAddr t x i =>
  simp only [B9]
  unfold Aq3
  split
  ·rfl
  ·rename_i e j ik n e1 e2 e3
   rw [← h j (Eg e2)]
   split
   ·rfl
   ·rename_i e s g _ _ _ hd
    rw [hgh j _ _ _ (Eg e2) hd]
   ·rfl
  ·rfl
  ·rfl
  ·rfl
 | call k =>
  simp only [B9]
  split
  ·split
   ·rename_i args e1
    split
    ·split
     ·rw [Ahs (R' := R') (λ i hi => by
       obtain ⟨x, hx⟩ := D_ e1 hi
       exact h i (Eg hx)) (λ i e s g hi hd => by
       obtain ⟨x, hx⟩ := D_ e1 hi
       exact hgh i e s g (Eg hx) hd)]
     ·rfl
     ·rfl
    ·rfl
   ·rfl
  ·rfl
 | slice t x lo hi mx =>
  cases mx with
  | none =>
   simp only [B9]
   split
   ·rfl
   ·rename_i e i e1 e2
    rw [h i (Eg e2)]
   ·rename_i e i o0 n0 s0 e1 e2
    rw [h i (Mg e2)]
   ·rfl
  | some mx =>
   cases lo with
   | none => rfl
   | some lo =>
    cases hi with
    | none => rfl
    | some hi =>
     simp only [B9]
     split
     ·rename_i e i e1 e2
      rw [h i (Eg e2)]
     ·rfl
 | _ => rfl
mutual
theorem Ab9 (f : Nat -> Option Nat) : ∀ (d d' : D), D.ren (λ _ => none) d = some d' -> D.ren f d = some d'
 | .p x, d', h => h
 | .o i off, d', h => by simp [D.ren] at h
 | .os i, d', h => by simp [D.ren] at h
 | .oe i k s off, d', h => by simp [D.ren] at h
 | .ip c, d', h => h
 | .any, d', h => h
 | .nq _, d', h => h
 | .osb _ _ _ _, d', h => by simp [D.ren] at h
 | .oi _ _ _ _ _, d', h => by simp [D.ren] at h
 | .fn g a b, d', h => by
  simp only [D.ren] at h ⊢
  split at h
  ·rename_i a' b' h1 h2
   rw [Lh f a a' h1, Lh f b b' h2]
   exact h
  ·cases h
theorem Lh (f : Nat -> Option Nat) : ∀ (l l' : List D), D.renL (λ _ => none) l = some l' -> D.renL f l = some l'
 | [], l', h => h
 | d :: r, l', h => by
  simp only [D.renL] at h ⊢
  split at h
  ·rename_i d' r' h1 h2
   rw [Ab9 f d d' h1, Lh f r r' h2]
   exact h
  ·cases h
end
mutual
theorem qD (f : Nat -> Option Nat) : ∀ (d d' : AV), AV.ren (λ _ => none) d = some d' -> AV.ren f d = some d'
 | .d x, d', h => by
  simp only [AV.ren] at h ⊢
  split at h
  ·rename_i y hy
   rw [Ab9 f x y hy]; exact h
  ·cases h
 | .agg ds, d', h => by
  simp only [AV.ren] at h ⊢
  split at h
  ·rename_i y hy
   rw [Lh f ds y hy]; exact h
  ·cases h
 | .tup l, d', h => by
  simp only [AV.ren] at h ⊢
  split at h
  ·rename_i y hy
   rw [W0 f l y hy]; exact h
  ·cases h
theorem W0 (f : Nat -> Option Nat) : ∀ (l l' : List AV), AV.renL (λ _ => none) l = some l' -> AV.renL f l = some l'
 | [], l', h => h
 | d :: r, l', h => by
  simp only [AV.renL] at h ⊢
  split at h
  ·rename_i d' r' h1 h2
   rw [qD f d d' h1, W0 f r r' h2]
   exact h
  ·cases h
end
theorem Ahu {args : List AV} {f : FuncId} {c : Cl} {out : Out} (hn : Aqh c = true) (hc : Acb c = true)
  (h : Fv R args f c = some out) : out.R = R /\ Fv R' args f c = some { out with R := R' } := by
 unfold Aqh at hn
 split at hn
 ·rename_i g q1 q2 res R2 pi
  simp only [ac, ci] at hn
  obtain ⟨rfl, rfl⟩ := hn
  obtain ⟨res', hres⟩ := Option.isSome_iff_exists.1 hc
  unfold Fv at h ⊢
  simp only at h ⊢
  generalize hbb : (Nat.beq f g && E3 [] && Nat.ble ([] : List Nat).length ([] : List Res).length) = bb at h ⊢
  cases bb with
  | false => simp at h
  | true =>
   simp only [cond_true] at h ⊢
   split at h
   ·rename_i a' Rp e1 e2
    rw [e1]
    simp only [Ja] at e2 ⊢
    simp only [ak] at e2
    subst e2
    simp only [Hb, qD _ res res' hres] at h ⊢
    simp at h; subst h
    simp [Ed]
   ·cases h
 ·cases hn
theorem Rj : ∀ {l : List D}, (∀ i, i ∈ vP l -> R[i]? = R'[i]?) -> G1 R l = G1 R' l
 | [], _ => rfl
 | d :: r, h => by
  have ih : G1 R r = G1 R' r := Rj λ i hi => h i (by cases d <;> simp [vP, hi])
  have hd : Kj R d = Kj R' d := by
   cases d with
   | os i => simp only [Kj]; rw [h i (by simp [vP])]
   | _ => rfl
  simp only [G1, ih, hd]
mutual
theorem W5 {rw : List Pd} : ∀ {d : D}, (∀ i, i ∈ d.touchV R -> R[i]? = R'[i]?) -> d.view R rw = d.view R' rw
 | .p _, _ => rfl
 | .ip _, _ => rfl
 | .any, _ => rfl
 | .nq _, _ => rfl
 | .oe _ _ _ _, _ => rfl
 | .osb i _ _ _, h => by simp only [D.view]; rw [h i (by simp [D.touchV])]
 | .oi _ g _ _ _, h => by simp only [D.view]; rw [h g (by simp [D.touchV])]
 | .os i, h => by simp only [D.view]; rw [h i (by simp [D.touchV])]
 | .o i off, h => by
  have h0 := h i (by simp [D.touchV])
  simp only [D.view]
  rw [← h0]
  cases hi : R[i]? with
  | none => rfl
  | some r => cases r with
   | box t cells =>
    simp only
    rw [Rj (R' := R') λ k hk => h k (by simp only [D.touchV, hi]; exact ai _ hk)]
   | _ => rfl
 | .fn g a b, h => by
  have h1 := Jo (rw := rw) (l := a) λ i hi => h i (by simp only [D.touchV]; exact bg _ hi)
  have h2 := Jo (rw := rw) (l := b) λ i hi => h i (by simp only [D.touchV]; exact bh _ hi)
  simp only [D.view, h1, h2]
theorem Jo {rw : List Pd} : ∀ {l : List D}, (∀ i, i ∈ cG R l -> R[i]? = R'[i]?) -> D.viewL R rw l = D.viewL R' rw l
 | [], _ => rfl
 | d :: r, h => by
  have h1 := W5 (rw := rw) (d := d) λ i hi => h i (by simp only [cG]; exact bg _ hi)
  have h2 := Jo (rw := rw) (l := r) λ i hi => h i (by simp only [cG]; exact bh _ hi)
  simp only [D.viewL, h1, h2]
end
theorem Al0 {rw : List Pd} {x : AV} (h : ∀ i, i ∈ x.touchV R -> R[i]? = R'[i]?) : x.view R rw = x.view R' rw := by
 cases x with
 | d x => simp only [AV.view]; rw [W5 (R' := R') h]
 | agg l => simp only [AV.view]; rw [Jo (R' := R') h]
 | tup l => rfl
theorem Rl {rw : List Pd} : ∀ {l : List AV}, (∀ x, x ∈ l -> ∀ i, i ∈ x.touchV R -> R[i]? = R'[i]?) -> AV.viewL R rw l = AV.viewL R' rw l
 | [], _ => rfl
 | x :: r, h => by
  have h1 := Al0 (rw := rw) (x := x) (h x ag)
  have h2 := Rl (rw := rw) (l := r) λ y hy => h y (ai _ hy)
  simp only [AV.viewL, h1, h2]
theorem Zb {e : Ent} {i : Nat} : ∀ {L : List Ent}, e ∈ L -> i ∈ e.v.touchV R -> i ∈ touchV R L
 | [], h, _ => by cases h
 | x :: r, h, hi => by
  simp only [touchV]
  rcases ah.1 h with rfl | h
  ·exact bg _ hi
  ·exact bh _ (Zb h hi)
theorem Aob {i : Nat} : ∀ {l : List Value} {ds : List D}, Eu l = some ds -> i ∉ cG R ds
 | [], ds, h => by simp [Eu] at h; subst h; simp [cG]
 | v :: l, ds, h => by
  simp only [Eu] at h
  split at h
  ·rename_i d r h1 h2
   simp at h; subst h
   unfold dOf at h1
   cases hb : v.oneCell' with
   | false => rw [hb] at h1; simp at h1
   | true => rw [hb] at h1; simp at h1; subst h1; simpa [cG, D.touchV] using Aob h2
  ·cases h
theorem Ark {v : Value} {x : AV} {i : Nat} (h : Mq v = some x) : i ∉ x.touchV R := by
 unfold Mq at h
 split at h
 ·cases hd : Eu (_ : Array Value).toList with
  | none => rw [hd] at h; cases h
  | some ds => rw [hd] at h; simp at h; subst h; exact Aob hd
 ·cases h
 ·cases hd : dOf v with
  | none => rw [hd] at h; cases h
  | some d =>
   rw [hd] at h; simp at h; subst h
   unfold dOf at hd
   cases hb : v.oneCell' with
   | false => rw [hb] at hd; simp at hd
   | true => rw [hb] at hd; simp at hd; subst hd; simp [AV.touchV, D.touchV]
theorem Ik {x : Operand} {v : AV} {i : Nat} (h : B0 L cur x = some v) (hi : i ∈ v.touchV R) : i ∈ touchV R L := by
 unfold B0 at h
 split at h
 ·exact absurd hi (Ark h)
 ·split at h
  ·rename_i e he
   cases hb : E_ e.p cur with
   | false => rw [hb] at h; simp at h
   | true => rw [hb] at h; simp at h; subst h; exact Zb (C3 he).1 hi
  ·cases h
 ·simp at h; subst h; simp [AV.touchV, D.touchV, cG] at hi
 ·cases h
theorem Tq {d : D} : d.norm.touchV R = d.touchV R := by
 unfold D.norm; split <;> rfl
theorem Rk : ∀ {l : List D}, cG R (l.map D.norm) = cG R l
 | [] => rfl
 | d :: r => by simp only [bu, cG, Tq, Rk]
theorem Al4 {x : AV} : x.norm.touchV R = x.touchV R := by
 cases x with
 | d x => exact Tq
 | agg l => exact Rk
 | tup l => rfl
theorem Ld {g k : Nat} : ∀ {d : D}, (g, k) ∈ d.ois -> g ∈ d.touchV R
 | .oi _ _ _ _ _, h => by simp [D.ois] at h; simp [D.touchV, h.1]
 | .fn f a b, h => by
  have key : ∀ {l : List D}, (∀ d, d ∈ l -> (g, k) ∈ d.ois -> g ∈ d.touchV R) -> (g, k) ∈ cO l -> g ∈ cG R l := by
   intro l
   induction l with
   | nil => intro _ h; simp [cO] at h
   | cons d l ih =>
    intro hh h
    simp only [cO, ar] at h
    simp only [cG, ar]
    rcases h with h | h
    ·exact .inl (hh d ag h)
    ·exact .inr (ih (λ d hd => hh d (ai _ hd)) h)
  simp only [D.ois, ar] at h
  simp only [D.touchV, ar]
  rcases h with h | h
  ·exact .inl (key (λ d _ h => Ld h) h)
  ·exact .inr (key (λ d _ h => Ld h) h)
 | .p _, h => by simp [D.ois] at h
 | .o _ _, h => by simp [D.ois] at h
 | .os _, h => by simp [D.ois] at h
 | .oe _ _ _ _, h => by simp [D.ois] at h
 | .osb _ _ _ _, h => by simp [D.ois] at h
 | .ip _, h => by simp [D.ois] at h
 | .any, h => by simp [D.ois] at h
 | .nq _, h => by simp [D.ois] at h
theorem Sv {g k : Nat} : ∀ {l : List D}, (g, k) ∈ cO l -> g ∈ cG R l
 | [], h => by simp [cO] at h
 | d :: l, h => by
  simp only [cO, ar] at h
  simp only [cG, ar]
  exact h.imp Ld Sv
theorem Wv {g k : Nat} : ∀ {l : List AV}, (g, k) ∈ oisL l -> ∃ x, x ∈ l /\ g ∈ x.touchV R
 | [], h => by simp [oisL] at h
 | x :: l, h => by
  simp only [oisL, ar] at h
  rcases h with h | h
  ·refine ⟨x, ag, ?_⟩
   cases x with
   | d x => exact Ld h
   | agg l => exact Sv h
   | tup l => simp [AV.ois] at h
  ·obtain ⟨y, h1, h2⟩ := Wv h
   exact ⟨y, ai _ h1, h2⟩
theorem Ad1 {args : List AV} {f g : FuncId} {q : List AV} {res : AV} {rows : List (List Pd)} {k : Nat} {rw : List Pd} {out : Out} (ht : ∀ x, x ∈ args -> ∀ i, i ∈ x.touchV R -> R[i]? = R'[i]?)
  (h : Fv R args f (.callB g q res rows k rw) = some out) : out.R = R /\ Fv R' args f (.callB g q res rows k rw) = some { out with R := R' } := by
 simp only [Fv] at h ⊢
 generalize (Nat.beq f g && res.flat) = bb at h ⊢
 have hview : ∀ rw, AV.viewL R rw (args.map AV.norm) = AV.viewL R' rw (args.map AV.norm) := λ rw => Rl (R := R) (R' := R') (l := args.map AV.norm) λ x hx i hi => by
  obtain ⟨y, hy, rfl⟩ := al.1 hx
  rw [Al4] at hi
  exact ht y hy i hi
 cases bb with
 | false => simp at h
 | true =>
  simp only [cond_true] at h ⊢
  split at h
  ·rw [← hview]
   split at h
   ·rename_i a' e1
    simp at h; subst h
    exact ⟨rfl, rfl⟩
   ·cases h
  ·rename_i g0 k0 ho
   obtain ⟨x, h1, h2⟩ := Wv (R := R) (l := args) (g := g0) (k := k0) (by rw [ho]; simp)
   rw [← hview, ← ht x h1 g0 h2]
   split at h
   ·simp at h; subst h
    exact ⟨rfl, rfl⟩
   ·cases h
  ·cases h
theorem Ahh {g : Fn} {first caps : List D} {args : List AV} {x : AV} {i : Nat} {f : Operand} {l : List Operand} (e1 : B0 L cur f = some (.d (.fn g first caps))) (e2 : Dq L cur l = some args)
  (hx : x ∈ first.map AV.d ++ args ++ caps.map AV.d) (hi : i ∈ x.touchV R) : i ∈ touchV R L := by
 have hd : ∀ {ds : List D} {d : D}, d ∈ ds -> i ∈ d.touchV R -> i ∈ cG R ds := by
  intro ds
  induction ds with
  | nil => intro d h; cases h
  | cons a r ih =>
   intro d h hi
   simp only [cG]
   rcases ah.1 h with rfl | h
   ·exact bg _ hi
   ·exact bh _ (ih h hi)
 rcases ar.1 hx with hx | hx
 ·rcases ar.1 hx with hx | hx
  ·obtain ⟨d, hm, rfl⟩ := al.1 hx
   exact Ik e1 (by simp only [AV.touchV, D.touchV]; exact bg _ (hd hm hi))
  ·obtain ⟨z, hz⟩ := D_ e2 hx
   exact Ik hz hi
 ·obtain ⟨d, hm, rfl⟩ := al.1 hx
  exact Ik e1 (by simp only [AV.touchV, D.touchV]; exact bh _ (hd hm hi))
theorem Wt {c : Cl} {o : Oper} {out : Out} (hq : Fp c o = true) (ht0 : ∀ i, i ∈ deepen R (Jp o.op L) ++ Azp c R L -> R[i]? = R'[i]?) (h : Ii P L cur R c o = some out) :
    out.R = R /\ Ii P L cur R' c o = some { out with R := R' } := by
  have ht : ∀ i, i ∈ deepen R (Jp o.op L) -> R[i]? = R'[i]? := λ i hi => ht0 i (bg _ hi)
  unfold Ii at h ⊢
  rw [← Ahp ht]
  split at h
  · rename_i v k hv
    simp at h; subst h
    exact ⟨rfl, rfl⟩
  · rename_i hv
    obtain ⟨dst, op, type, pos, after, guard⟩ := o
    simp only at h ⊢
    cases op with
    | box t x => simp [Fp] at hq
    | alloc t => simp [Fp] at hq
    | store t x y => simp [Fp] at hq
    | makeSlice t x y => simp [Fp] at hq
    | convert s d x =>
      simp only at h ⊢
      unfold Pa at h ⊢
      split at h
      · split at h
        · simp at h; subst h; exact ⟨rfl, rfl⟩
        · cases h
      · cases h
    | buildSlice t len parts =>
      simp only [Fp, ba] at hq
      simp only at h ⊢
      split at h
      · rename_i ps e1
        unfold Gf at h ⊢
        rw [hq] at h ⊢
        split at h
        · rename_i e hu
          split at h
          · rename_i size zs e2 e3
            cases hb : (Nat.beq zs.length (size + 1) && Nat.ble (len * (size + 1)) 16777216) with
            | false => rw [hb] at h; simp at h
            | true =>
              rw [hb] at h
              simp only [cond_true, cond_false] at h ⊢
              split at h
              · rename_i pd hpd
                simp at h; subst h
                exact ⟨rfl, rfl⟩
              · cases h
          · cases h
        · cases h
      · cases h
    | call kk =>
      obtain ⟨callee, cargs, argTypes⟩ := kk
      cases callee with
      | invoke r m => simp at h
      | builtin b => cases b <;> first | (simp [Fp] at hq; done) | (simp at h; done)
      | value f =>
        simp only [Fp, aH, ac] at hq
        simp only at h ⊢
        split at h
        · rename_i g first caps args e1 e2
          cases c with
          | callB g' q res rows k rw =>
            exact Ad1 (λ x hx i hi => ht0 i (bh _ (Ahh e1 e2 hx hi))) h
          | _ => first
            | (rcases hq with hq | hq
               · simp [Aqv] at hq
               · exact Ahu hq.1 hq.2 h)
        · cases h
    | _ => simp at h
theorem Qc : ∀ {l : List Nat} {t : Nat}, N8 l t = true ↔ t ∈ l
 | [], t => by simp [N8]
 | a :: r, t => by
  simp only [N8, aH, ah, Qc]
  constructor
  ·rintro (h | h)
   ·exact .inl (aj h).symm
   ·exact .inr h
  ·rintro (h | h)
   ·subst h; exact .inl (by simp)
   ·exact .inr h
theorem Ad2 {c : Cl} {ts : List TypeId} {j : Nat} {y : AV} {out : Out} {i : Nat} (h : Dd P R c ts [.d (.os j), y] = some out) (hi : i < R.length) (hj : i ≠ j) : out.R[i]? = R[i]? := by
 match ts, h with
 | [t, u], h =>
  simp only [Dd] at h
  cases hts2 : Nat.beq t u with
  | false => rw [hts2] at h; simp at h
  | true =>
   rw [hts2] at h
   simp only [cond_true] at h
   split at h
   ·split at h
    ·split at h
     ·generalize (Nat.beq _ (_ + 1)) = bb at h
      cases bb with
      | false => simp at h
      | true =>
       simp only [cond_true] at h
       split at h
       ·generalize (Nat.beq _ _ && Nat.beq _ _) = bb at h
        cases bb with
        | false => simp at h
        | true =>
         simp at h; subst h
         simp only
         rw [aw (by simpa using hi), aI (aR hj)]
       ·cases h
     ·cases h
    ·cases h
   ·cases h
 | [], h => simp [Dd] at h
 | [_], h => simp [Dd] at h
 | _ :: _ :: _ :: _, h => simp [Dd] at h
theorem yL {c : Cl} {ts : List TypeId} {i' g k size off : Nat} {y : AV} {out : Out} {i : Nat} (h : I5 P R c ts i' g k size off y = some out) (hi : i < R.length) (h1 : i ≠ i') (h2 : i ≠ g) : out.R[i]? = R[i]? := by
 unfold I5 at h
 split at h
 ·split at h
  ·generalize ((_ && _ : Bool)) = bb at h
   cases bb with
   | false => simp at h
   | true =>
    simp only [cond_true] at h
    split at h
    ·rename_i v' R' a b z m r' hap
     simp at h; subst h
     have := Ad2 (i := i) hap (by simp; omega) (by omega)
     simp only at this ⊢
     rw [this, aw (by simpa using hi), aI (aR h1), aI (aR h2)]
    ·cases h
  ·cases h
 ·cases h
theorem yK {c : Cl} {ts : List TypeId} {i' n s : Nat} {y : AV} {out : Out} {i : Nat} (h : I4 P R c ts i' n s y = some out) (h1 : i ≠ i') : out.R[i]? = R[i]? := by
 unfold I4 at h
 split at h
 ·generalize (Nat.beq _ _) = bb at h
  cases bb with
  | false => simp at h
  | true =>
   simp only [cond_true] at h
   split at h
   ·split at h
    ·split at h
     ·generalize (Nat.beq _ _ && Nat.beq _ _) = bb at h
      cases bb with
      | false => simp at h
      | true =>
       simp at h; subst h
       simp only
       rw [aI (aR h1)]
     ·cases h
    ·cases h
   ·cases h
 ·cases h
theorem Wy {x : AV} {i lo n s : Nat} {a : Operand} (h : V3 R x = some (i, lo, n, s)) (hl : B0 L cur a = some x) : i ∈ Cj L := by
 unfold V3 at h
 split at h
 ·split at h
  ·simp at h; obtain ⟨rfl, _⟩ := h; exact Eg hl
  ·cases h
 ·simp at h; obtain ⟨rfl, _⟩ := h; exact Mg hl
 ·cases h
theorem Aht {c : Cl} {ts : List TypeId} {l : List Operand} {args : List AV} {out : Out} {i : Nat} (h : Pb P R c ts args = some out) (hl : Dq L cur l = some args) (h1 : i ∉ Cj L) : out.R[i]? = R[i]? := by
 unfold Pb at h
 split at h
 ·rename_i x
  split at h
  ·split at h
   ·rename_i hd
    split at h
    ·generalize ((_ && _ : Bool)) = bb at h
     cases bb with
     | false => simp at h
     | true =>
      simp only [cond_true, ak] at h; subst h
      obtain ⟨z, hz⟩ := D_ hl (av := x) (by simp)
      have := Wy hd hz
      simp only
      rw [aI]
      rintro rfl
      exact h1 this
    ·cases h
   ·cases h
  ·cases h
 ·cases h
theorem Ama {c : Cl} {ts : List TypeId} {l : List Operand} {args : List AV} {out : Out} {i : Nat} (h : Tn P R c ts args = some out) (hl : Dq L cur l = some args) (h1 : i ∉ Cj L) : out.R[i]? = R[i]? := by
 unfold Tn at h
 split at h
 ·rename_i x y
  split at h
  ·split at h
   ·rename_i hd
    split at h
    ·generalize ((_ && _ : Bool)) = bb at h
     cases bb with
     | false => simp at h
     | true =>
      simp only [cond_true, ak] at h; subst h
      obtain ⟨z, hz⟩ := D_ hl (av := x) (by simp)
      have := Wy hd hz
      simp only
      rw [aI]
      rintro rfl
      exact h1 this
    ·cases h
   ·cases h
  ·cases h
 ·cases h
theorem Al9 {c : Cl} {o : Oper} {i' k size off n : Nat} {ds : List D} {out : Out} {i : Nat} (h : Tl R c o i' k size off ds n = some out) (hi : i < R.length) (h1 : i ≠ i') (h2 : ∀ e s g, R[i']? = some (.dsl e s g) -> i ≠ g) (h3 : ∀ m, ds = [.os m] -> i ≠ m) : out.R[i]? = R[i]? := by
 unfold Tl at h
 split at h
 next e s g m q1 q2 q3 row q4 rows' hj =>
  split at h
  ·split at h
   ·generalize ((_ && _ : Bool)) = bb at h
    cases bb with
    | false => simp at h
    | true =>
     simp only [cond_true, ak] at h; subst h
     have hgi := h2 _ _ _ hj
     have hmi := h3 _ rfl
     simp only
     rw [aw (by simpa using hi), aI (aR h1), aI (aR hgi), aI (aR hmi)]
   ·cases h
  ·cases h
 next => cases h
theorem Av8 {c : Cl} {o : Oper} {out : Out} {i : Nat} {cs : List (Bool × Bool)} (h : Ii P L cur R c o = some out) (hi : i < R.length) (hw : i ∉ Da ⟨0, o, L, cur, cs, c, R, out, true, false, none⟩) : out.R[i]? = R[i]? := by
  unfold Ii at h
  split at h
  · simp at h; subst h; rfl
  · obtain ⟨dst, op, type, pos, after, guard⟩ := o
    simp only at h
    cases op with
    | box t x =>
      simp only at h
      split at h
      · generalize (Nat.beq _ _) = bb at h
        cases bb with
        | false => simp at h
        | true => simp at h; subst h; simp [List.getElem?_append_left hi]
      · cases h
    | alloc t =>
      simp only at h
      split at h
      · simp at h; subst h; simp [List.getElem?_append_left hi]
      · cases h
    | store t x y =>
      simp only at h
      cases hc : cur.isEmpty with
      | false => rw [hc] at h; simp at h
      | true =>
        rw [hc] at h
        simp only [cond_true] at h
        split at h
        · rename_i j off ds n e1 e2 e3
          split at h
          · generalize (Nat.beq _ _ && Nat.ble _ _ && Option.isNone _) = bb at h
            cases bb with
            | false => simp at h
            | true =>
              simp at h; subst h
              simp only [Da, e1, aT] at hw
              simp only
              rw [aI (aR hw)]
          · cases h
        · rename_i j k size off ds n e1 e2 e3
          simp only [Da, e1, ah, not_or] at hw
          obtain ⟨hw1, hw2⟩ := hw
          split at h
          · rename_i out' hput
            simp at h; subst h
            unfold Aq2 at hput
            split at hput
            · generalize (Nat.beq _ _ && (Nat.beq _ _ && (Nat.ble _ _ && Option.isNone _))) = bb at hput
              cases bb with
              | false => simp at hput
              | true =>
                simp at hput; subst hput
                simp only
                rw [aI (aR hw1)]
            · cases hput
          · refine Al9 h hi hw1 (λ e s g hj => ?_) (λ m hds => ?_)
            · rintro rfl
              exact hw2 (bg _ (Ah3 (Mf e1) hj))
            · rintro rfl
              subst hds
              refine hw2 (bh _ ?_)
              obtain ⟨av, h1, h2⟩ := Av e2
              cases av with
              | d x => simp [G6] at h2; subst h2; exact Ik h1 (by simp [AV.touchV, D.touchV])
              | agg l => simp [G6] at h2; subst h2; exact Ik h1 (by simp [AV.touchV, D.touchV, cG])
              | tup l => simp [G6] at h2
        · cases h
    | buildSlice t len parts =>
      simp only at h
      split at h
      · unfold Gf at h
        split at h
        · split at h
          · generalize (Nat.beq _ _ && Nat.ble _ _) = bb at h
            cases bb with
            | false => simp at h
            | true =>
              simp only [cond_true] at h
              split at h
              · cases ho : Vz c with
                | true => rw [ho] at h; simp at h; subst h; simp [List.getElem?_append_left hi]
                | false => rw [ho] at h; simp at h; subst h; rfl
              · cases h
          · cases h
        · cases h
      · cases h
    | convert s d x =>
      simp only at h
      unfold Pa at h
      split at h
      · split at h
        · simp at h; subst h; rfl
        · cases h
      · cases h
    | makeSlice t x y =>
      simp only at h
      generalize (Jr x y) = bb at h
      cases bb with
      | false => simp at h
      | true =>
        simp only [cond_true] at h
        unfold Kv at h
        split at h
        · split at h
          · split at h
            · generalize (Nat.beq _ _) = bb at h
              cases bb with
              | false => simp at h
              | true => simp at h; subst h; simp [List.getElem?_append_left hi]
            · cases h
          · cases h
        · split at h
          · split at h
            · generalize (Nat.beq _ _ && _) = bb at h
              cases bb with
              | false => simp at h
              | true => simp at h; subst h; simp [List.getElem?_append_left hi]
            · cases h
          · cases h
        · cases h
    | call kk =>
      obtain ⟨callee, cargs, argTypes⟩ := kk
      cases callee with
      | invoke r m => simp at h
      | builtin b =>
        cases b <;> first
          | (simp at h; done)
          | (simp only at h
             split at h
             · rename_i args e1
               first
                 | exact Aht h e1 (by simpa [Da] using hw)
                 | exact Ama h e1 (by simpa [Da] using hw)
             · cases h
             done)
          | (simp only at h
             split at h
             · rename_i i' g q size off y e1
               have hall := e1
               obtain ⟨z, hz⟩ := D_ e1 (av := .d (.oi i' g q size off)) (by simp)
               obtain ⟨hi1, hg1⟩ := Adv hz
               have hii : i ≠ i' := by rintro rfl; exact hw (by simpa [Da] using hi1)
               have hig : i ≠ g := by rintro rfl; exact hw (by simpa [Da] using hg1)
               exact yL h hi hii hig
             · rename_i i' n s y e1
               obtain ⟨z, hz⟩ := D_ e1 (av := .d (.osb i' 0 n s)) (by simp)
               have hi1 := Mg hz
               have hii : i ≠ i' := by rintro rfl; exact hw (by simpa [Da] using hi1)
               exact yK h hii
             · rename_i args _ _ e1
               unfold Dd at h
               split at h
               · rename_i t u x y hts
                 generalize (Nat.beq _ _) = bb at h
                 cases bb with
                 | false => simp at h
                 | true =>
                   simp only [cond_true] at h
                   split at h
                   · split at h
                     · split at h
                       · generalize (Nat.beq _ _) = bb at h
                         cases bb with
                         | false => simp at h
                         | true =>
                           simp only [cond_true] at h
                           split at h
                           · simp at h; subst h; simp [List.getElem?_append_left hi]
                           · rename_i j
                             split at h
                             · generalize (Nat.beq _ _ && Nat.beq _ _) = bb at h
                               cases bb with
                               | false => simp at h
                               | true =>
                                 simp at h; subst h
                                 obtain ⟨z, hz⟩ := D_ e1 (av := .d (.os _)) ag
                                 have hj := Eg hz
                                 simp only
                                 rw [aw (by simpa using hi), aI]
                                 rintro rfl
                                 refine hw ?_
                                 simpa [Da] using hj
                             · cases h
                           · cases h
                       · cases h
                     · cases h
                   · cases h
               · cases h
             · cases h)
      | value f =>
        simp only at h
        split at h
        · rename_i g first caps args e1 e2
          cases c with
          | call f' q1 q2 res R2 pi =>
            simp only [Fv] at h
            generalize (Nat.beq g f' && E3 pi && Nat.ble pi.length R2.length) = bb at h
            cases bb with
            | false => simp at h
            | true =>
              simp only [cond_true] at h
              split at h
              · split at h
                · rename_i Rp2 res2 RR e3 e4 e5
                  simp at h; subst h
                  simp only [Da] at hw
                  simp only
                  rw [aw (by rw [Ep]; exact hi)]
                  cases hg : R[i]? with
                  | none => rw [List.getElem?_eq_none_iff] at hg; omega
                  | some r =>
                    have hlt : i < (Ed R pi RR).length := by rw [Ep]; exact hi
                    rcases P7 pi R _ i _ (af hlt) with ⟨j, h1, _⟩ | ⟨h1, _⟩
                    · exact absurd (ae h1) hw
                    · rw [af hlt, ← h1, hg]
                · cases h
              · cases h
          | callB f' q1 res rows0 k0 rw0 =>
            simp only [Fv] at h
            generalize (Nat.beq g f' && res.flat) = bb at h
            cases bb with
            | false => simp at h
            | true =>
              simp only [cond_true] at h
              split at h
              · split at h
                · simp at h; subst h; rfl
                · cases h
              · split at h
                · simp at h; subst h; rfl
                · cases h
              · cases h
          | _ => simp [Fv] at h
        · cases h
    | _ => simp at h
end
end Go.SL
