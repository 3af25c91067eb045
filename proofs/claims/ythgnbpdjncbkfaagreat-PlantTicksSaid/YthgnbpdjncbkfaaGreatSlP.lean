import Derived.Test.YthgnbpdjncbkfaaGreatSlO
namespace Go.SL
section
variable {P : Program} {C : Ctx} {S S' : Nat -> Prop} {w w' : World} {ρ ρ' : List Value} {R R' : List Res} {L : List Ent} {cur : Ck} {a : Act}
theorem Abv : ∀ {L : List Ent} {e : Ent} {i off : Nat}, e ∈ L -> e.v = .d (.o i off) -> i ∈ Ce L
 | x :: r, e, i, off, h, hv => by
  rcases List.mem_cons.1 h with rfl | h
  ·simp [Ce, hv]
  ·have := Abv h hv
   unfold Ce; split <;> simp [this]
 | [], _, _, _, h, _ => by cases h
theorem Xp : ∀ {L : List Ent} {e : Ent} {i : Nat}, e ∈ L -> e.v = .d (.os i) -> i ∈ Ce L
 | x :: r, e, i, h, hv => by
  rcases List.mem_cons.1 h with rfl | h
  ·simp [Ce, hv]
  ·have := Xp h hv
   unfold Ce; split <;> simp [this]
 | [], _, _, h, _ => by cases h
theorem Xq : ∀ {L : List Ent} {e : Ent} {i a b c : Nat}, e ∈ L -> e.v = .d (.oe i a b c) -> i ∈ Ce L
 | x :: r, e, i, a, b, c, h, hv => by
  rcases List.mem_cons.1 h with rfl | h
  ·simp [Ce, hv]
  ·have := Xq h hv
   unfold Ce; split <;> simp [this]
 | [], _, _, _, _, _, h, _ => by cases h
theorem Xr : ∀ {L : List Ent} {e : Ent} {i a b c : Nat}, e ∈ L -> e.v = .d (.osb i a b c) -> i ∈ Ce L
 | x :: r, e, i, a, b, c, h, hv => by
  rcases List.mem_cons.1 h with rfl | h
  ·simp [Ce, hv]
  ·have := Xr h hv
   unfold Ce; split <;> simp [this]
 | [], _, _, _, _, _, h, _ => by cases h
theorem Se : ∀ {L : List Ent} {e : Ent} {i g a b c : Nat}, e ∈ L -> e.v = .d (.oi i g a b c) -> i ∈ Ce L /\ g ∈ Ce L
 | x :: r, e, i, g, a, b, c, h, hv => by
  rcases List.mem_cons.1 h with rfl | h
  ·simp [Ce, hv]
  ·have := Se h hv
   unfold Ce; split <;> simp [this]
 | [], _, _, _, _, _, _, h, _ => by cases h
theorem qS {i g e s : Nat} : ∀ {l : List Nat}, i ∈ l -> R[i]? = some (.dsl e s g) -> g ∈ Pf R l
 | [], h, _ => by cases h
 | j :: l, h, hi => by
  rcases List.mem_cons.1 h with rfl | h
  ·simp [Pf, hi]
  ·have := qS h hi
   unfold Pf; split <;> simp [this]
theorem Aqa {i : Nat} {l : List Nat} (h : i ∈ l) : i ∈ deepen R l := List.mem_append_left _ h
theorem Aia {i g e s : Nat} {l : List Nat} (h : i ∈ l) (hi : R[i]? = some (.dsl e s g)) : g ∈ deepen R l := List.mem_append_right _ (qS h hi)
theorem Pk {v : Value} {i off a b c : Nat} : M0 v ≠ some (.d (.o i off)) /\ M0 v ≠ some (.d (.os i)) /\ M0 v ≠ some (.d (.oe i a b c)) /\ M0 v ≠ some (.d (.osb i a b c)) /\ ∀ g, M0 v ≠ some (.d (.oi i g a b c)) := by
 unfold M0
 split
 ·refine ⟨?_, ?_, ?_, ?_, λ _ => ?_⟩ <;> (cases Ef (_ : Array Value).toList <;> simp)
 ·simp
 ·refine ⟨?_, ?_, ?_, ?_, λ _ => ?_⟩ <;>
  ·cases h : dOf v with
   | none => simp
   | some d =>
    unfold dOf at h
    cases hb : v.oneCell' with
    | true => rw [hb] at h; simp at h; subst h; simp
    | false => rw [hb] at h; simp at h
theorem Apn {x : Operand} {i off : Nat} (h : B1 L cur x = some (.d (.o i off))) : i ∈ Ce L := by
 unfold B1 at h
 split at h
 ·exact absurd h (Pk (a := 0) (b := 0) (c := 0)).1
 ·split at h
  ·rename_i e he
   cases hb : Ew e.p cur with
   | false => rw [hb] at h; simp at h
   | true => rw [hb] at h; simp at h; exact Abv (Cs he).1 h
  ·cases h
 ·simp at h
 ·cases h
theorem D7 {x : Operand} {i : Nat} (h : B1 L cur x = some (.d (.os i))) : i ∈ Ce L := by
 unfold B1 at h
 split at h
 ·exact absurd h (Pk (off := 0) (a := 0) (b := 0) (c := 0)).2.1
 ·split at h
  ·rename_i e he
   cases hb : Ew e.p cur with
   | false => rw [hb] at h; simp at h
   | true => rw [hb] at h; simp at h; exact Xp (Cs he).1 h
  ·cases h
 ·simp at h
 ·cases h
theorem Mn {x : Operand} {i k s off : Nat} (h : B1 L cur x = some (.d (.oe i k s off))) : i ∈ Ce L := by
 unfold B1 at h
 split at h
 ·exact absurd h (Pk (off := 0)).2.2.1
 ·split at h
  ·rename_i e he
   cases hb : Ew e.p cur with
   | false => rw [hb] at h; simp at h
   | true => rw [hb] at h; simp at h; exact Xq (Cs he).1 h
  ·cases h
 ·simp at h
 ·cases h
theorem Mo {x : Operand} {i k s off : Nat} (h : B1 L cur x = some (.d (.osb i k s off))) : i ∈ Ce L := by
 unfold B1 at h
 split at h
 ·exact absurd h (Pk (off := 0)).2.2.2.1
 ·split at h
  ·rename_i e he
   cases hb : Ew e.p cur with
   | false => rw [hb] at h; simp at h
   | true => rw [hb] at h; simp at h; exact Xr (Cs he).1 h
  ·cases h
 ·simp at h
 ·cases h
theorem Aeo {x : Operand} {i g k s off : Nat} (h : B1 L cur x = some (.d (.oi i g k s off))) : i ∈ Ce L /\ g ∈ Ce L := by
 unfold B1 at h
 split at h
 ·exact absurd h ((Pk (off := 0)).2.2.2.2 g)
 ·split at h
  ·rename_i e he
   cases hb : Ew e.p cur with
   | false => rw [hb] at h; simp at h
   | true => rw [hb] at h; simp at h; exact Se (Cs he).1 h
  ·cases h
 ·simp at h
 ·cases h
theorem D4 : ∀ {l : List Operand} {avs : List AV} {av : AV}, Dj L cur l = some avs -> av ∈ avs -> ∃ x, B1 L cur x = some av
 | [], avs, av, h, hm => by simp [Dj] at h; subst h; cases hm
 | x :: r, avs, av, h, hm => by
  simp only [Dj] at h
  split at h
  ·rename_i v l h1 h2
   simp at h; subst h
   rcases List.mem_cons.1 hm with rfl | hm
   ·exact ⟨x, h1⟩
   ·exact D4 h2 hm
  ·cases h
theorem Ahy {args : List AV} (h : ∀ i, AV.d (.os i) ∈ args -> R[i]? = R'[i]?) (hg : ∀ i e s g, AV.d (.os i) ∈ args -> R[i]? = some (.dsl e s g) -> R[g]? = R'[g]?) : Kp R args = Kp R' args := by
 unfold Kp
 split
 ·rfl
 ·rfl
 ·rename_i i
  rw [← h i (by simp)]
  split
  ·rfl
  ·rename_i e s g hd
   rw [hg i e s g (by simp) hd]
  ·rfl
 ·rfl
 ·rfl
theorem Ahv {c : Cl} {op : Op} (h0 : ∀ i, i ∈ deepen R (Jl op L) -> R[i]? = R'[i]?) : B6 P L cur R c op = B6 P L cur R' c op := by
 have h : ∀ i, i ∈ Jl op L -> R[i]? = R'[i]? := λ i hi => h0 i (Aqa hi)
 have hgh : ∀ i e s g, i ∈ Jl op L -> R[i]? = some (.dsl e s g) -> R[g]? = R'[g]? := λ i e s g hi hd => h0 g (Aia hi hd)
 cases op with
 | load t x =>
  by_cases hg : ∃ g, x = .global g
  ·obtain ⟨g, rfl⟩ := hg
   rfl
  have e : ∀ R, B6 P L cur R c (.load t x) = T3 P L cur R c t x := λ R => by
   cases x with
   | global g => exact absurd ⟨g, rfl⟩ hg
   | _ => rfl
  rw [e, e]
  unfold T3
  split
  ·rename_i i off n e1 e2
   rw [h i (Apn e1)]
  ·rfl
  ·rename_i i k size off n e1 e2
   rw [← h i (Mn e1)]
   split
   ·rfl
   ·rename_i e s g _ _ _ hd
    rw [hgh i _ _ _ (Mn e1) hd]
   ·rfl
  ·rfl
 | indexAddr t x i =>
  simp only [B6]
  unfold Ap1
  split
  ·rfl
  ·rename_i e j ik n e1 e2 e3
   rw [← h j (D7 e2)]
   split
   ·rfl
   ·rename_i e s g _ _ _ hd
    rw [hgh j _ _ _ (D7 e2) hd]
   ·rfl
  ·rfl
  ·rfl
  ·rfl
 | call k =>
  simp only [B6]
  split
  ·split
   ·rename_i args e1
    split
    ·split
     ·rw [Ahy (R' := R') (λ i hi => by
       obtain ⟨x, hx⟩ := D4 e1 hi
       exact h i (D7 hx)) (λ i e s g hi hd => by
       obtain ⟨x, hx⟩ := D4 e1 hi
       exact hgh i e s g (D7 hx) hd)]
     ·rfl
     ·rfl
    ·rfl
   ·rfl
  ·rfl
 | slice t x lo hi mx =>
  cases mx with
  | none =>
   simp only [B6]
   split
   ·rfl
   ·rename_i e i e1 e2
    rw [h i (D7 e2)]
   ·rename_i e i o0 n0 s0 e1 e2
    rw [h i (Mo e2)]
   ·rfl
  | some mx =>
   cases lo with
   | none => rfl
   | some lo =>
    cases hi with
    | none => rfl
    | some hi =>
     simp only [B6]
     split
     ·rename_i e i e1 e2
      rw [h i (D7 e2)]
     ·rfl
 | _ => rfl
mutual
theorem Add (f : Nat -> Option Nat) : ∀ (d d' : D), D.ren (λ _ => none) d = some d' -> D.ren f d = some d'
 | .p x, d', h => h
 | .o i off, d', h => by simp [D.ren] at h
 | .os i, d', h => by simp [D.ren] at h
 | .oe i k s off, d', h => by simp [D.ren] at h
 | .ip c, d', h => h
 | .any, d', h => h
 | .nq _, d', h => h
 | .osb _ _ _ _, d', h => by simp [D.ren] at h
 | .oi _ _ _ _ _, d', h => by simp [D.ren] at h
 | .fn g a b, d', h => by
  simp only [D.ren] at h ⊢
  split at h
  ·rename_i a' b' h1 h2
   rw [Lo f a a' h1, Lo f b b' h2]
   exact h
  ·cases h
theorem Lo (f : Nat -> Option Nat) : ∀ (l l' : List D), D.renL (λ _ => none) l = some l' -> D.renL f l = some l'
 | [], l', h => h
 | d :: r, l', h => by
  simp only [D.renL] at h ⊢
  split at h
  ·rename_i d' r' h1 h2
   rw [Add f d d' h1, Lo f r r' h2]
   exact h
  ·cases h
end
mutual
theorem uP (f : Nat -> Option Nat) : ∀ (d d' : AV), AV.ren (λ _ => none) d = some d' -> AV.ren f d = some d'
 | .d x, d', h => by
  simp only [AV.ren] at h ⊢
  split at h
  ·rename_i y hy
   rw [Add f x y hy]; exact h
  ·cases h
 | .agg ds, d', h => by
  simp only [AV.ren] at h ⊢
  split at h
  ·rename_i y hy
   rw [Lo f ds y hy]; exact h
  ·cases h
 | .tup l, d', h => by
  simp only [AV.ren] at h ⊢
  split at h
  ·rename_i y hy
   rw [X0 f l y hy]; exact h
  ·cases h
theorem X0 (f : Nat -> Option Nat) : ∀ (l l' : List AV), AV.renL (λ _ => none) l = some l' -> AV.renL f l = some l'
 | [], l', h => h
 | d :: r, l', h => by
  simp only [AV.renL] at h ⊢
  split at h
  ·rename_i d' r' h1 h2
   rw [uP f d d' h1, X0 f r r' h2]
   exact h
  ·cases h
end
theorem Ah0 {args : List AV} {f : FuncId} {c : Cl} {out : Out} (hn : Ape c = true) (hc : Adf c = true)
  (h : Fi R args f c = some out) : out.R = R /\ Fi R' args f c = some { out with R := R' } := by
 unfold Ape at hn
 split at hn
 ·rename_i g q1 q2 res R2 pi
  simp only [Bool.and_eq_true, List.isEmpty_iff] at hn
  obtain ⟨rfl, rfl⟩ := hn
  obtain ⟨res', hres⟩ := Option.isSome_iff_exists.1 hc
  unfold Fi at h ⊢
  simp only at h ⊢
  generalize hbb : (Nat.beq f g && D_ [] && Nat.ble ([] : List Nat).length ([] : List Res).length) = bb at h ⊢
  cases bb with
  | false => simp at h
  | true =>
   simp only [cond_true] at h ⊢
   split at h
   ·rename_i a' Rp e1 e2
    rw [e1]
    simp only [I5] at e2 ⊢
    simp only [Option.some.injEq] at e2
    subst e2
    simp only [G0, uP _ res res' hres] at h ⊢
    simp at h; subst h
    simp [D5]
   ·cases h
 ·cases hn
theorem R7 : ∀ {l : List D}, (∀ i, i ∈ zZ l -> R[i]? = R'[i]?) -> Gq R l = Gq R' l
 | [], _ => rfl
 | d :: r, h => by
  have ih : Gq R r = Gq R' r := R7 λ i hi => h i (by cases d <;> simp [zZ, hi])
  have hd : Kd R d = Kd R' d := by
   cases d with
   | os i => simp only [Kd]; rw [h i (by simp [zZ])]
   | _ => rfl
  simp only [Gq, ih, hd]
mutual
theorem X1 {rw : List Pd} : ∀ {d : D}, (∀ i, i ∈ d.touchV R -> R[i]? = R'[i]?) -> d.view R rw = d.view R' rw
 | .p _, _ => rfl
 | .ip _, _ => rfl
 | .any, _ => rfl
 | .nq _, _ => rfl
 | .oe _ _ _ _, _ => rfl
 | .osb i _ _ _, h => by simp only [D.view]; rw [h i (by simp [D.touchV])]
 | .oi _ g _ _ _, h => by simp only [D.view]; rw [h g (by simp [D.touchV])]
 | .os i, h => by simp only [D.view]; rw [h i (by simp [D.touchV])]
 | .o i off, h => by
  have h0 := h i (by simp [D.touchV])
  simp only [D.view]
  rw [← h0]
  cases hi : R[i]? with
  | none => rfl
  | some r => cases r with
   | box t cells =>
    simp only
    rw [R7 (R' := R') λ k hk => h k (by simp only [D.touchV, hi]; exact List.mem_cons_of_mem _ hk)]
   | _ => rfl
 | .fn g a b, h => by
  have h1 := Jk (rw := rw) (l := a) λ i hi => h i (by simp only [D.touchV]; exact List.mem_append_left _ hi)
  have h2 := Jk (rw := rw) (l := b) λ i hi => h i (by simp only [D.touchV]; exact List.mem_append_right _ hi)
  simp only [D.view, h1, h2]
theorem Jk {rw : List Pd} : ∀ {l : List D}, (∀ i, i ∈ D.touchVL R l -> R[i]? = R'[i]?) -> D.viewL R rw l = D.viewL R' rw l
 | [], _ => rfl
 | d :: r, h => by
  have h1 := X1 (rw := rw) (d := d) λ i hi => h i (by simp only [D.touchVL]; exact List.mem_append_left _ hi)
  have h2 := Jk (rw := rw) (l := r) λ i hi => h i (by simp only [D.touchVL]; exact List.mem_append_right _ hi)
  simp only [D.viewL, h1, h2]
end
theorem Alc {rw : List Pd} {x : AV} (h : ∀ i, i ∈ x.touchV R -> R[i]? = R'[i]?) : x.view R rw = x.view R' rw := by
 cases x with
 | d x => simp only [AV.view]; rw [X1 (R' := R') h]
 | agg l => simp only [AV.view]; rw [Jk (R' := R') h]
 | tup l => rfl
theorem R9 {rw : List Pd} : ∀ {l : List AV}, (∀ x, x ∈ l -> ∀ i, i ∈ x.touchV R -> R[i]? = R'[i]?) -> AV.viewL R rw l = AV.viewL R' rw l
 | [], _ => rfl
 | x :: r, h => by
  have h1 := Alc (rw := rw) (x := x) (h x List.mem_cons_self)
  have h2 := R9 (rw := rw) (l := r) λ y hy => h y (List.mem_cons_of_mem _ hy)
  simp only [AV.viewL, h1, h2]
theorem jF {e : Ent} {i : Nat} : ∀ {L : List Ent}, e ∈ L -> i ∈ e.v.touchV R -> i ∈ touchV R L
 | [], h, _ => by cases h
 | x :: r, h, hi => by
  simp only [touchV]
  rcases List.mem_cons.1 h with rfl | h
  ·exact List.mem_append_left _ hi
  ·exact List.mem_append_right _ (jF h hi)
theorem Anj {i : Nat} : ∀ {l : List Value} {ds : List D}, Ef l = some ds -> i ∉ D.touchVL R ds
 | [], ds, h => by simp [Ef] at h; subst h; simp [D.touchVL]
 | v :: l, ds, h => by
  simp only [Ef] at h
  split at h
  ·rename_i d r h1 h2
   simp at h; subst h
   unfold dOf at h1
   cases hb : v.oneCell' with
   | false => rw [hb] at h1; simp at h1
   | true => rw [hb] at h1; simp at h1; subst h1; simpa [D.touchVL, D.touchV] using Anj h2
  ·cases h
theorem Aqi {v : Value} {x : AV} {i : Nat} (h : M0 v = some x) : i ∉ x.touchV R := by
 unfold M0 at h
 split at h
 ·cases hd : Ef (_ : Array Value).toList with
  | none => rw [hd] at h; cases h
  | some ds => rw [hd] at h; simp at h; subst h; exact Anj hd
 ·cases h
 ·cases hd : dOf v with
  | none => rw [hd] at h; cases h
  | some d =>
   rw [hd] at h; simp at h; subst h
   unfold dOf at hd
   cases hb : v.oneCell' with
   | false => rw [hb] at hd; simp at hd
   | true => rw [hb] at hd; simp at hd; subst hd; simp [AV.touchV, D.touchV]
theorem H8 {x : Operand} {v : AV} {i : Nat} (h : B1 L cur x = some v) (hi : i ∈ v.touchV R) : i ∈ touchV R L := by
 unfold B1 at h
 split at h
 ·exact absurd hi (Aqi h)
 ·split at h
  ·rename_i e he
   cases hb : Ew e.p cur with
   | false => rw [hb] at h; simp at h
   | true => rw [hb] at h; simp at h; subst h; exact jF (Cs he).1 hi
  ·cases h
 ·simp at h; subst h; simp [AV.touchV, D.touchV, D.touchVL] at hi
 ·cases h
theorem T6 {d : D} : d.norm.touchV R = d.touchV R := by
 unfold D.norm; split <;> rfl
theorem R8 : ∀ {l : List D}, D.touchVL R (l.map D.norm) = D.touchVL R l
 | [] => rfl
 | d :: r => by simp only [List.map_cons, D.touchVL, T6, R8]
theorem Alf {x : AV} : x.norm.touchV R = x.touchV R := by
 cases x with
 | d x => exact T6
 | agg l => exact R8
 | tup l => rfl
theorem Lj {g k : Nat} : ∀ {d : D}, (g, k) ∈ d.ois -> g ∈ d.touchV R
 | .oi _ _ _ _ _, h => by simp [D.ois] at h; simp [D.touchV, h.1]
 | .fn f a b, h => by
  have key : ∀ {l : List D}, (∀ d, d ∈ l -> (g, k) ∈ d.ois -> g ∈ d.touchV R) -> (g, k) ∈ D.oisL l -> g ∈ D.touchVL R l := by
   intro l
   induction l with
   | nil => intro _ h; simp [D.oisL] at h
   | cons d l ih =>
    intro hh h
    simp only [D.oisL, List.mem_append] at h
    simp only [D.touchVL, List.mem_append]
    rcases h with h | h
    ·exact .inl (hh d List.mem_cons_self h)
    ·exact .inr (ih (λ d hd => hh d (List.mem_cons_of_mem _ hd)) h)
  simp only [D.ois, List.mem_append] at h
  simp only [D.touchV, List.mem_append]
  rcases h with h | h
  ·exact .inl (key (λ d _ h => Lj h) h)
  ·exact .inr (key (λ d _ h => Lj h) h)
 | .p _, h => by simp [D.ois] at h
 | .o _ _, h => by simp [D.ois] at h
 | .os _, h => by simp [D.ois] at h
 | .oe _ _ _ _, h => by simp [D.ois] at h
 | .osb _ _ _ _, h => by simp [D.ois] at h
 | .ip _, h => by simp [D.ois] at h
 | .any, h => by simp [D.ois] at h
 | .nq _, h => by simp [D.ois] at h
theorem Tf {g k : Nat} : ∀ {l : List D}, (g, k) ∈ D.oisL l -> g ∈ D.touchVL R l
 | [], h => by simp [D.oisL] at h
 | d :: l, h => by
  simp only [D.oisL, List.mem_append] at h
  simp only [D.touchVL, List.mem_append]
  exact h.imp Lj Tf
theorem Xw {g k : Nat} : ∀ {l : List AV}, (g, k) ∈ oisL l -> ∃ x, x ∈ l /\ g ∈ x.touchV R
 | [], h => by simp [oisL] at h
 | x :: l, h => by
  simp only [oisL, List.mem_append] at h
  rcases h with h | h
  ·refine ⟨x, List.mem_cons_self, ?_⟩
   cases x with
   | d x => exact Lj h
   | agg l => exact Tf h
   | tup l => simp [AV.ois] at h
  ·obtain ⟨y, h1, h2⟩ := Xw h
   exact ⟨y, List.mem_cons_of_mem _ h1, h2⟩
theorem Aes {args : List AV} {f g : FuncId} {q : List AV} {res : AV} {rows : List (List Pd)} {k : Nat} {rw : List Pd} {out : Out} (ht : ∀ x, x ∈ args -> ∀ i, i ∈ x.touchV R -> R[i]? = R'[i]?)
  (h : Fi R args f (.callB g q res rows k rw) = some out) : out.R = R /\ Fi R' args f (.callB g q res rows k rw) = some { out with R := R' } := by
 simp only [Fi] at h ⊢
 generalize (Nat.beq f g && res.flat) = bb at h ⊢
 have hview : ∀ rw, AV.viewL R rw (args.map AV.norm) = AV.viewL R' rw (args.map AV.norm) := λ rw => R9 (R := R) (R' := R') (l := args.map AV.norm) λ x hx i hi => by
  obtain ⟨y, hy, rfl⟩ := List.mem_map.1 hx
  rw [Alf] at hi
  exact ht y hy i hi
 cases bb with
 | false => simp at h
 | true =>
  simp only [cond_true] at h ⊢
  split at h
  ·rw [← hview]
   split at h
   ·rename_i a' e1
    simp at h; subst h
    exact ⟨rfl, rfl⟩
   ·cases h
  ·rename_i g0 k0 ho
   obtain ⟨x, h1, h2⟩ := Xw (R := R) (l := args) (g := g0) (k := k0) (by rw [ho]; simp)
   rw [← hview, ← ht x h1 g0 h2]
   split at h
   ·simp at h; subst h
    exact ⟨rfl, rfl⟩
   ·cases h
  ·cases h
theorem Aho {g : Fn} {first caps : List D} {args : List AV} {x : AV} {i : Nat} {f : Operand} {l : List Operand} (e1 : B1 L cur f = some (.d (.fn g first caps))) (e2 : Dj L cur l = some args)
  (hx : x ∈ first.map AV.d ++ args ++ caps.map AV.d) (hi : i ∈ x.touchV R) : i ∈ touchV R L := by
 have hd : ∀ {ds : List D} {d : D}, d ∈ ds -> i ∈ d.touchV R -> i ∈ D.touchVL R ds := by
  intro ds
  induction ds with
  | nil => intro d h; cases h
  | cons a r ih =>
   intro d h hi
   simp only [D.touchVL]
   rcases List.mem_cons.1 h with rfl | h
   ·exact List.mem_append_left _ hi
   ·exact List.mem_append_right _ (ih h hi)
 rcases List.mem_append.1 hx with hx | hx
 ·rcases List.mem_append.1 hx with hx | hx
  ·obtain ⟨d, hm, rfl⟩ := List.mem_map.1 hx
   exact H8 e1 (by simp only [AV.touchV, D.touchV]; exact List.mem_append_left _ (hd hm hi))
  ·obtain ⟨z, hz⟩ := D4 e2 hx
   exact H8 hz hi
 ·obtain ⟨d, hm, rfl⟩ := List.mem_map.1 hx
  exact H8 e1 (by simp only [AV.touchV, D.touchV]; exact List.mem_append_right _ (hd hm hi))
theorem Xu {c : Cl} {o : Oper} {out : Out} (hq : Fc c o = true) (ht0 : ∀ i, i ∈ deepen R (Jl o.op L) ++ Aw9 c R L -> R[i]? = R'[i]?) (h : H6 P L cur R c o = some out) :
    out.R = R /\ H6 P L cur R' c o = some { out with R := R' } := by
  have ht : ∀ i, i ∈ deepen R (Jl o.op L) -> R[i]? = R'[i]? := λ i hi => ht0 i (List.mem_append_left _ hi)
  unfold H6 at h ⊢
  rw [← Ahv ht]
  split at h
  · rename_i v k hv
    simp at h; subst h
    exact ⟨rfl, rfl⟩
  · rename_i hv
    obtain ⟨dst, op, type, pos, after, guard⟩ := o
    simp only at h ⊢
    cases op with
    | box t x => simp [Fc] at hq
    | alloc t => simp [Fc] at hq
    | store t x y => simp [Fc] at hq
    | makeSlice t x y => simp [Fc] at hq
    | convert s d x =>
      simp only at h ⊢
      unfold Ph at h ⊢
      split at h
      · split at h
        · simp at h; subst h; exact ⟨rfl, rfl⟩
        · cases h
      · cases h
    | buildSlice t len parts =>
      simp only [Fc, Bool.not_eq_true'] at hq
      simp only at h ⊢
      split at h
      · rename_i ps e1
        unfold F4 at h ⊢
        rw [hq] at h ⊢
        split at h
        · rename_i e hu
          split at h
          · rename_i size zs e2 e3
            cases hb : (Nat.beq zs.length (size + 1) && Nat.ble (len * (size + 1)) 16777216) with
            | false => rw [hb] at h; simp at h
            | true =>
              rw [hb] at h
              simp only [cond_true, cond_false] at h ⊢
              split at h
              · rename_i pd hpd
                simp at h; subst h
                exact ⟨rfl, rfl⟩
              · cases h
          · cases h
        · cases h
      · cases h
    | call kk =>
      obtain ⟨callee, cargs, argTypes⟩ := kk
      cases callee with
      | invoke r m => simp at h
      | builtin b => cases b <;> first | (simp [Fc] at hq; done) | (simp at h; done)
      | value f =>
        simp only [Fc, Bool.or_eq_true, Bool.and_eq_true] at hq
        simp only at h ⊢
        split at h
        · rename_i g first caps args e1 e2
          cases c with
          | callB g' q res rows k rw =>
            exact Aes (λ x hx i hi => ht0 i (List.mem_append_right _ (Aho e1 e2 hx hi))) h
          | _ => first
            | (rcases hq with hq | hq
               · simp [Apu] at hq
               · exact Ah0 hq.1 hq.2 h)
        · cases h
    | _ => simp at h
theorem Qq : ∀ {l : List Nat} {t : Nat}, Oi l t = true ↔ t ∈ l
 | [], t => by simp [Oi]
 | a :: r, t => by
  simp only [Oi, Bool.or_eq_true, List.mem_cons, Qq]
  constructor
  ·rintro (h | h)
   ·exact .inl (Nat.eq_of_beq_eq_true h).symm
   ·exact .inr h
  ·rintro (h | h)
   ·subst h; exact .inl (by simp)
   ·exact .inr h
theorem Aet {c : Cl} {ts : List TypeId} {j : Nat} {y : AV} {out : Out} {i : Nat} (h : C4 P R c ts [.d (.os j), y] = some out) (hi : i < R.length) (hj : i ≠ j) : out.R[i]? = R[i]? := by
 match ts, h with
 | [t, u], h =>
  simp only [C4] at h
  cases hts2 : Nat.beq t u with
  | false => rw [hts2] at h; simp at h
  | true =>
   rw [hts2] at h
   simp only [cond_true] at h
   split at h
   ·split at h
    ·split at h
     ·generalize (Nat.beq _ (_ + 1)) = bb at h
      cases bb with
      | false => simp at h
      | true =>
       simp only [cond_true] at h
       split at h
       ·generalize (Nat.beq _ _ && Nat.beq _ _) = bb at h
        cases bb with
        | false => simp at h
        | true =>
         simp at h; subst h
         simp only
         rw [List.getElem?_append_left (by simpa using hi), List.getElem?_set_ne (Ne.symm hj)]
       ·cases h
     ·cases h
    ·cases h
   ·cases h
 | [], h => simp [C4] at h
 | [_], h => simp [C4] at h
 | _ :: _ :: _ :: _, h => simp [C4] at h
theorem Aau {c : Cl} {ts : List TypeId} {i' g k size off : Nat} {y : AV} {out : Out} {i : Nat} (h : Ix P R c ts i' g k size off y = some out) (hi : i < R.length) (h1 : i ≠ i') (h2 : i ≠ g) : out.R[i]? = R[i]? := by
 unfold Ix at h
 split at h
 ·split at h
  ·generalize ((_ && _ : Bool)) = bb at h
   cases bb with
   | false => simp at h
   | true =>
    simp only [cond_true] at h
    split at h
    ·rename_i v' R' a b z m r' hap
     simp at h; subst h
     have := Aet (i := i) hap (by simp; omega) (by omega)
     simp only at this ⊢
     rw [this, List.getElem?_append_left (by simpa using hi), List.getElem?_set_ne (Ne.symm h1), List.getElem?_set_ne (Ne.symm h2)]
    ·cases h
  ·cases h
 ·cases h
theorem Aat {c : Cl} {ts : List TypeId} {i' n s : Nat} {y : AV} {out : Out} {i : Nat} (h : Iw P R c ts i' n s y = some out) (h1 : i ≠ i') : out.R[i]? = R[i]? := by
 unfold Iw at h
 split at h
 ·generalize (Nat.beq _ _) = bb at h
  cases bb with
  | false => simp at h
  | true =>
   simp only [cond_true] at h
   split at h
   ·split at h
    ·split at h
     ·generalize (Nat.beq _ _ && Nat.beq _ _) = bb at h
      cases bb with
      | false => simp at h
      | true =>
       simp at h; subst h
       simp only
       rw [List.getElem?_set_ne (Ne.symm h1)]
     ·cases h
    ·cases h
   ·cases h
 ·cases h
theorem Xy {x : AV} {i lo n s : Nat} {a : Operand} (h : Wo R x = some (i, lo, n, s)) (hl : B1 L cur a = some x) : i ∈ Ce L := by
 unfold Wo at h
 split at h
 ·split at h
  ·simp at h; obtain ⟨rfl, _⟩ := h; exact D7 hl
  ·cases h
 ·simp at h; obtain ⟨rfl, _⟩ := h; exact Mo hl
 ·cases h
theorem Ahz {c : Cl} {ts : List TypeId} {l : List Operand} {args : List AV} {out : Out} {i : Nat} (h : Pi P R c ts args = some out) (hl : Dj L cur l = some args) (h1 : i ∉ Ce L) : out.R[i]? = R[i]? := by
 unfold Pi at h
 split at h
 ·rename_i x
  split at h
  ·split at h
   ·rename_i hd
    split at h
    ·generalize ((_ && _ : Bool)) = bb at h
     cases bb with
     | false => simp at h
     | true =>
      simp only [cond_true, Option.some.injEq] at h; subst h
      obtain ⟨z, hz⟩ := D4 hl (av := x) (by simp)
      have := Xy hd hz
      simp only
      rw [List.getElem?_set_ne]
      rintro rfl
      exact h1 this
    ·cases h
   ·cases h
  ·cases h
 ·cases h
theorem Alm {c : Cl} {ts : List TypeId} {l : List Operand} {args : List AV} {out : Out} {i : Nat} (h : T4 P R c ts args = some out) (hl : Dj L cur l = some args) (h1 : i ∉ Ce L) : out.R[i]? = R[i]? := by
 unfold T4 at h
 split at h
 ·rename_i x y
  split at h
  ·split at h
   ·rename_i hd
    split at h
    ·generalize ((_ && _ : Bool)) = bb at h
     cases bb with
     | false => simp at h
     | true =>
      simp only [cond_true, Option.some.injEq] at h; subst h
      obtain ⟨z, hz⟩ := D4 hl (av := x) (by simp)
      have := Xy hd hz
      simp only
      rw [List.getElem?_set_ne]
      rintro rfl
      exact h1 this
    ·cases h
   ·cases h
  ·cases h
 ·cases h
theorem All {c : Cl} {o : Oper} {i' k size off n : Nat} {ds : List D} {out : Out} {i : Nat} (h : T2 R c o i' k size off ds n = some out) (hi : i < R.length) (h1 : i ≠ i') (h2 : ∀ e s g, R[i']? = some (.dsl e s g) -> i ≠ g) (h3 : ∀ m, ds = [.os m] -> i ≠ m) : out.R[i]? = R[i]? := by
 unfold T2 at h
 split at h
 next e s g m q1 q2 q3 row q4 rows' hj =>
  split at h
  ·split at h
   ·generalize ((_ && _ : Bool)) = bb at h
    cases bb with
    | false => simp at h
    | true =>
     simp only [cond_true, Option.some.injEq] at h; subst h
     have hgi := h2 _ _ _ hj
     have hmi := h3 _ rfl
     simp only
     rw [List.getElem?_append_left (by simpa using hi), List.getElem?_set_ne (Ne.symm h1), List.getElem?_set_ne (Ne.symm hgi), List.getElem?_set_ne (Ne.symm hmi)]
   ·cases h
  ·cases h
 next => cases h
theorem Aub {c : Cl} {o : Oper} {out : Out} {i : Nat} {cs : List (Bool × Bool)} (h : H6 P L cur R c o = some out) (hi : i < R.length) (hw : i ∉ C1 ⟨0, o, L, cur, cs, c, R, out, true, false, none⟩) : out.R[i]? = R[i]? := by
  unfold H6 at h
  split at h
  · simp at h; subst h; rfl
  · obtain ⟨dst, op, type, pos, after, guard⟩ := o
    simp only at h
    cases op with
    | box t x =>
      simp only at h
      split at h
      · generalize (Nat.beq _ _) = bb at h
        cases bb with
        | false => simp at h
        | true => simp at h; subst h; simp [List.getElem?_append_left hi]
      · cases h
    | alloc t =>
      simp only at h
      split at h
      · simp at h; subst h; simp [List.getElem?_append_left hi]
      · cases h
    | store t x y =>
      simp only at h
      cases hc : cur.isEmpty with
      | false => rw [hc] at h; simp at h
      | true =>
        rw [hc] at h
        simp only [cond_true] at h
        split at h
        · rename_i j off ds n e1 e2 e3
          split at h
          · generalize (Nat.beq _ _ && Nat.ble _ _ && Option.isNone _) = bb at h
            cases bb with
            | false => simp at h
            | true =>
              simp at h; subst h
              simp only [C1, e1, List.mem_singleton] at hw
              simp only
              rw [List.getElem?_set_ne (Ne.symm hw)]
          · cases h
        · rename_i j k size off ds n e1 e2 e3
          simp only [C1, e1, List.mem_cons, not_or] at hw
          obtain ⟨hw1, hw2⟩ := hw
          split at h
          · rename_i out' hput
            simp at h; subst h
            unfold Ap0 at hput
            split at hput
            · generalize (Nat.beq _ _ && (Nat.beq _ _ && (Nat.ble _ _ && Option.isNone _))) = bb at hput
              cases bb with
              | false => simp at hput
              | true =>
                simp at hput; subst hput
                simp only
                rw [List.getElem?_set_ne (Ne.symm hw1)]
            · cases hput
          · refine All h hi hw1 (λ e s g hj => ?_) (λ m hds => ?_)
            · rintro rfl
              exact hw2 (List.mem_append_left _ (Aia (Mn e1) hj))
            · rintro rfl
              subst hds
              refine hw2 (List.mem_append_right _ ?_)
              obtain ⟨av, h1, h2⟩ := Ad e2
              cases av with
              | d x => simp [Gv] at h2; subst h2; exact H8 h1 (by simp [AV.touchV, D.touchV])
              | agg l => simp [Gv] at h2; subst h2; exact H8 h1 (by simp [AV.touchV, D.touchV, D.touchVL])
              | tup l => simp [Gv] at h2
        · cases h
    | buildSlice t len parts =>
      simp only at h
      split at h
      · unfold F4 at h
        split at h
        · split at h
          · generalize (Nat.beq _ _ && Nat.ble _ _) = bb at h
            cases bb with
            | false => simp at h
            | true =>
              simp only [cond_true] at h
              split at h
              · cases ho : Wk c with
                | true => rw [ho] at h; simp at h; subst h; simp [List.getElem?_append_left hi]
                | false => rw [ho] at h; simp at h; subst h; rfl
              · cases h
          · cases h
        · cases h
      · cases h
    | convert s d x =>
      simp only at h
      unfold Ph at h
      split at h
      · split at h
        · simp at h; subst h; rfl
        · cases h
      · cases h
    | makeSlice t x y =>
      simp only at h
      generalize (Jn x y) = bb at h
      cases bb with
      | false => simp at h
      | true =>
        simp only [cond_true] at h
        unfold Ko at h
        split at h
        · split at h
          · split at h
            · generalize (Nat.beq _ _) = bb at h
              cases bb with
              | false => simp at h
              | true => simp at h; subst h; simp [List.getElem?_append_left hi]
            · cases h
          · cases h
        · split at h
          · split at h
            · generalize (Nat.beq _ _ && _) = bb at h
              cases bb with
              | false => simp at h
              | true => simp at h; subst h; simp [List.getElem?_append_left hi]
            · cases h
          · cases h
        · cases h
    | call kk =>
      obtain ⟨callee, cargs, argTypes⟩ := kk
      cases callee with
      | invoke r m => simp at h
      | builtin b =>
        cases b <;> first
          | (simp at h; done)
          | (simp only at h
             split at h
             · rename_i args e1
               first
                 | exact Ahz h e1 (by simpa [C1] using hw)
                 | exact Alm h e1 (by simpa [C1] using hw)
             · cases h
             done)
          | (simp only at h
             split at h
             · rename_i i' g q size off y e1
               have hall := e1
               obtain ⟨z, hz⟩ := D4 e1 (av := .d (.oi i' g q size off)) (by simp)
               obtain ⟨hi1, hg1⟩ := Aeo hz
               have hii : i ≠ i' := by rintro rfl; exact hw (by simpa [C1] using hi1)
               have hig : i ≠ g := by rintro rfl; exact hw (by simpa [C1] using hg1)
               exact Aau h hi hii hig
             · rename_i i' n s y e1
               obtain ⟨z, hz⟩ := D4 e1 (av := .d (.osb i' 0 n s)) (by simp)
               have hi1 := Mo hz
               have hii : i ≠ i' := by rintro rfl; exact hw (by simpa [C1] using hi1)
               exact Aat h hii
             · rename_i args _ _ e1
               unfold C4 at h
               split at h
               · rename_i t u x y hts
                 generalize (Nat.beq _ _) = bb at h
                 cases bb with
                 | false => simp at h
                 | true =>
                   simp only [cond_true] at h
                   split at h
                   · split at h
                     · split at h
                       · generalize (Nat.beq _ _) = bb at h
                         cases bb with
                         | false => simp at h
                         | true =>
                           simp only [cond_true] at h
                           split at h
                           · simp at h; subst h; simp [List.getElem?_append_left hi]
                           · rename_i j
                             split at h
                             · generalize (Nat.beq _ _ && Nat.beq _ _) = bb at h
                               cases bb with
                               | false => simp at h
                               | true =>
                                 simp at h; subst h
                                 obtain ⟨z, hz⟩ := D4 e1 (av := .d (.os _)) List.mem_cons_self
                                 have hj := D7 hz
                                 simp only
                                 rw [List.getElem?_append_left (by simpa using hi), List.getElem?_set_ne]
                                 rintro rfl
                                 refine hw ?_
                                 simpa [C1] using hj
                             · cases h
                           · cases h
                       · cases h
                     · cases h
                   · cases h
               · cases h
             · cases h)
      | value f =>
        simp only at h
        split at h
        · rename_i g first caps args e1 e2
          cases c with
          | call f' q1 q2 res R2 pi =>
            simp only [Fi] at h
            generalize (Nat.beq g f' && D_ pi && Nat.ble pi.length R2.length) = bb at h
            cases bb with
            | false => simp at h
            | true =>
              simp only [cond_true] at h
              split at h
              · split at h
                · rename_i Rp2 res2 RR e3 e4 e5
                  simp at h; subst h
                  simp only [C1] at hw
                  simp only
                  rw [List.getElem?_append_left (by rw [Ee]; exact hi)]
                  cases hg : R[i]? with
                  | none => rw [List.getElem?_eq_none_iff] at hg; omega
                  | some r =>
                    have hlt : i < (D5 R pi RR).length := by rw [Ee]; exact hi
                    rcases Qj pi R _ i _ (List.getElem?_eq_getElem hlt) with ⟨j, h1, _⟩ | ⟨h1, _⟩
                    · exact absurd (List.mem_of_getElem? h1) hw
                    · rw [List.getElem?_eq_getElem hlt, ← h1, hg]
                · cases h
              · cases h
          | callB f' q1 res rows0 k0 rw0 =>
            simp only [Fi] at h
            generalize (Nat.beq g f' && res.flat) = bb at h
            cases bb with
            | false => simp at h
            | true =>
              simp only [cond_true] at h
              split at h
              · split at h
                · simp at h; subst h; rfl
                · cases h
              · split at h
                · simp at h; subst h; rfl
                · cases h
              · cases h
          | _ => simp [Fi] at h
        · cases h
    | _ => simp at h
end
end Go.SL
