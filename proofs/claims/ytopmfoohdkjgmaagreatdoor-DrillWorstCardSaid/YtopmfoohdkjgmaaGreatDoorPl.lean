/-
  What a model answers: rules for showing that a model answers at all, and what.
-/
import Derived.Test.YtopmfoohdkjgmaaGreatDoorSlV
import Derived.Test.YtopmfoohdkjgmaaGreatDoorMo
namespace Go.SL
/-- it answers, and so -/
def Ok {α : Type} (o : Option α) (P : α → Prop) : Prop := ∃ r, o = some r ∧ P r
section
variable {α β σ τ : Type} {P Q : α → Prop}
theorem Ok.mono {o : Option α} (h : Ok o P) (k : ∀ x, P x → Q x) : Ok o Q := by
  obtain ⟨r, e, p⟩ := h
  exact ⟨r, e, k r p⟩
theorem Ok.pure {x : α} (h : P x) : Ok (some x) P := ⟨x, rfl, h⟩
theorem Ok.bind {o : Option α} {f : α → Option β} {R : β → Prop} (h : Ok o P) (k : ∀ x, P x → Ok (f x) R) : Ok (o.bind f) R := by
  obtain ⟨r, e, p⟩ := h
  subst e
  exact k r p
theorem Ok.of_eq {o : Option α} {x : α} (h : o = some x) (p : P x) : Ok o P := ⟨x, h, p⟩
theorem Ok.eq {o : Option α} {x : α} (h : Ok o (· = x)) : o = some x := by
  obtain ⟨r, e, p⟩ := h
  subst p; exact e
theorem Ok.and {o : Option α} (h : Ok o P) (k : Ok o Q) : Ok o fun x => P x ∧ Q x := by
  obtain ⟨r, e, p⟩ := h
  obtain ⟨r', e', p'⟩ := k
  rw [e] at e'; cases e'
  exact ⟨r, e, p, p'⟩
theorem Ok.get {o : Option α} (h : Ok o P) {x : α} (e : o = some x) : P x := by
  obtain ⟨r, e', p⟩ := h
  rw [e] at e'; cases e'; exact p
theorem Ok.cond {c : Bool} {x y : Option α} (ht : c = true → Ok x P) (hf : c = false → Ok y P) : Ok (bif c then x else y) P := by
  cases c with
  | true => exact ht rfl
  | false => exact hf rfl
theorem Ok.condv {c : Bool} {x y : α} (ht : c = true → P x) (hf : c = false → P y) : P (bif c then x else y) := by
  cases c with
  | true => exact ht rfl
  | false => exact hf rfl
theorem Ok.guard {l : List (Bool × Bool)} {x : Option α} {d : α} (ht : AllEq l → Ok x P) (hf : ¬ AllEq l → P d) : Ok (guardO l x d) P := by
  unfold guardO
  cases h : allEqB l with
  | true => exact ht (allEqB_to h)
  | false => exact ⟨d, rfl, hf fun q => by rw [allEqB_of q] at h; cases h⟩

/-- how code ends -/
def EndsSo (A : σ → Prop) (B : τ → Prop) : Ctl σ τ → Prop
  | .next s => A s
  | .brk s => A s
  | .ret r => B r
/-- how a round ends -/
def RoundSo (N : σ → Prop) (A : σ → Prop) (B : τ → Prop) : Ctl σ τ → Prop
  | .next s => N s
  | .brk s => A s
  | .ret r => B r
theorem Ok.next {N A : σ → Prop} {B : τ → Prop} {s : σ} (h : N s) : Ok (some (Ctl.next s)) (RoundSo N A B) := ⟨_, rfl, h⟩
theorem Ok.brk {N A : σ → Prop} {B : τ → Prop} {s : σ} (h : A s) : Ok (some (Ctl.brk s)) (RoundSo N A B) := ⟨_, rfl, h⟩
theorem Ok.ret {N A : σ → Prop} {B : τ → Prop} {r : τ} (h : B r) : Ok (some (Ctl.ret r)) (RoundSo N A B) := ⟨_, rfl, h⟩
theorem Ok.nextE {A : σ → Prop} {B : τ → Prop} {s : σ} (h : A s) : Ok (some (Ctl.next s)) (EndsSo A B) := ⟨_, rfl, h⟩
theorem Ok.retE {A : σ → Prop} {B : τ → Prop} {r : τ} (h : B r) : Ok (some (Ctl.ret r)) (EndsSo A B) := ⟨_, rfl, h⟩
/-- a loop inside a round -/
theorem Ok.inner {c : Option (Ctl σ τ)} {ρ υ : Type} {g : τ → Option (Ctl ρ υ)} {f : σ → Option (Ctl ρ υ)} {A : σ → Prop} {B : τ → Prop} {K : Ctl ρ υ → Prop} (h : Ok c (EndsSo A B)) (ka : ∀ s, A s → Ok (f s) K) (kb : ∀ v, B v → Ok (g v) K) : Ok (Go.SL.andThen c g f) K := by
  obtain ⟨r, e, p⟩ := h
  subst e
  cases r with
  | next s => exact ka s p
  | brk s => exact ka s p
  | ret v => exact kb v p
theorem Ok.andThen {c : Option (Ctl σ τ)} {g : τ → Option α} {f : σ → Option α} {A : σ → Prop} {B : τ → Prop} (h : Ok c (EndsSo A B)) (ka : ∀ s, A s → Ok (f s) P) (kb : ∀ v, B v → Ok (g v) P) : Ok (Go.SL.andThen c g f) P := by
  obtain ⟨r, e, p⟩ := h
  subst e
  cases r with
  | next s => exact ka s p
  | brk s => exact ka s p
  | ret v => exact kb v p
theorem Ok.foldI {f : Nat → α → σ → Option (Ctl σ τ)} {A : σ → Prop} {B : τ → Prop} (I : Nat → σ → Prop) : ∀ (xs : List α) (i : Nat) (s : σ), I i s →
    (∀ j x s, xs[j]? = some x → I (i + j) s → Ok (f (i + j) x s) (RoundSo (I (i + j + 1)) A B)) → (∀ s, I (i + xs.length) s → A s) → Ok (foldI f xs i s) (EndsSo A B)
  | [], i, s, h0, _, hf => ⟨_, rfl, hf s h0⟩
  | x :: xs, i, s, h0, hs, hf => by
    obtain ⟨r, e, p⟩ := hs 0 x s rfl h0
    unfold Go.SL.foldI
    rw [Nat.add_zero] at e
    rw [e]
    cases r with
    | next s' =>
      refine Ok.foldI I xs (i + 1) s' p (fun j y s hj hi => ?_) fun s h => hf s ?_
      · rw [show i + 1 + j = i + (j + 1) from by omega] at hi ⊢
        exact hs (j + 1) y s hj hi
      · rw [List.length_cons, show i + (xs.length + 1) = i + 1 + xs.length from by omega]; exact h
    | brk s' => exact ⟨_, rfl, p⟩
    | ret v => exact ⟨_, rfl, p⟩
theorem Ok.foldI0 {f : Nat → α → σ → Option (Ctl σ τ)} {A : σ → Prop} {B : τ → Prop} (I : Nat → σ → Prop) {xs : List α} {s : σ} (h0 : I 0 s)
    (hs : ∀ j x s, xs[j]? = some x → I j s → Ok (f j x s) (RoundSo (I (j + 1)) A B)) (hf : ∀ s, I xs.length s → A s) : Ok (Go.SL.foldI f xs 0 s) (EndsSo A B) := by
  refine Ok.foldI I xs 0 s h0 (fun j x s hj hi => ?_) fun s h => hf s ?_
  · rw [Nat.zero_add] at hi ⊢; exact hs j x s hj hi
  · rw [Nat.zero_add] at h; exact h
theorem Ok.foldE {f : α → σ → Option (Ctl σ τ)} {A : σ → Prop} {B : τ → Prop} (I : Nat → σ → Prop) : ∀ (xs : List α) (i : Nat) (s : σ), I i s →
    (∀ j x s, xs[j]? = some x → I (i + j) s → Ok (f x s) (RoundSo (I (i + j + 1)) A B)) → (∀ s, I (i + xs.length) s → A s) → Ok (foldE f xs s) (EndsSo A B)
  | [], i, s, h0, _, hf => ⟨_, rfl, hf s h0⟩
  | x :: xs, i, s, h0, hs, hf => by
    obtain ⟨r, e, p⟩ := hs 0 x s rfl h0
    unfold Go.SL.foldE
    rw [e]
    cases r with
    | next s' =>
      refine Ok.foldE I xs (i + 1) s' p (fun j y s hj hi => ?_) fun s h => hf s ?_
      · rw [show i + 1 + j = i + (j + 1) from by omega] at hi ⊢
        exact hs (j + 1) y s hj hi
      · rw [List.length_cons, show i + (xs.length + 1) = i + 1 + xs.length from by omega]; exact h
    | brk s' => exact ⟨_, rfl, p⟩
    | ret v => exact ⟨_, rfl, p⟩
/-- a loop with a measure -/
theorem Ok.whileN {f : σ → Option (Ctl σ τ)} {A : σ → Prop} {B : τ → Prop} (I : σ → Prop) (m : σ → Nat) : ∀ (n : Nat) (s : σ), I s → m s < n →
    (∀ s, I s → Ok (f s) (RoundSo (fun s' => I s' ∧ m s' < m s) A B)) → Ok (whileN f n s) (EndsSo A B)
  | 0, s, _, hm, _ => absurd hm (Nat.not_lt_zero _)
  | n + 1, s, h0, hm, hs => by
    obtain ⟨r, e, p⟩ := hs s h0
    unfold Go.SL.whileN
    rw [e]
    cases r with
    | next s' => exact Ok.whileN I m n s' p.1 (by have := p.2; omega) hs
    | brk s' => exact ⟨_, rfl, p⟩
    | ret v => exact ⟨_, rfl, p⟩

theorem Ok.getI {l : List α} {n : Int} (h0 : 0 ≤ n) (h1 : n < l.length) : Ok (Go.SL.getI l n) fun x => l[n.toNat]? = some x := by
  have : n.toNat < l.length := by omega
  refine ⟨l[n.toNat], ?_, List.getElem?_eq_getElem this⟩
  unfold Go.SL.getI
  rw [decide_eq_true h0]
  exact List.getElem?_eq_getElem this
theorem Ok.setI {l : List α} {n : Int} {x : α} (h0 : 0 ≤ n) (h1 : n < l.length) : Ok (Go.SL.setI l n x) fun y => y = l.set n.toNat x := by
  refine ⟨_, ?_, rfl⟩
  unfold Go.SL.setI
  rw [decide_eq_true h0, decide_eq_true h1]; rfl
theorem Ok.mkI {B : Nat} {n : Int} {d : α} (h0 : 0 ≤ n) (h1 : n * B ≤ 140737488355328) : Ok (Go.SL.mkI B n d) fun y => y = List.replicate n.toNat d := by
  refine ⟨_, ?_, rfl⟩
  unfold Go.SL.mkI
  rw [decide_eq_true h0, decide_eq_true h1]; rfl
theorem Ok.cutI {l : List α} {lo hi : Int} (h0 : 0 ≤ lo) (h1 : lo ≤ hi) (h2 : hi ≤ l.length) : Ok (Go.SL.cutI l lo hi) fun y => y = (l.take hi.toNat).drop lo.toNat := by
  refine ⟨_, ?_, rfl⟩
  unfold Go.SL.cutI
  rw [decide_eq_true h0, decide_eq_true h1, decide_eq_true h2]; rfl
theorem Ok.nzI {n : Int} (h : n ≠ 0) : Ok (Go.SL.nzI n) fun _ => True := by
  refine ⟨(), ?_, trivial⟩
  unfold Go.SL.nzI
  rw [beq_eq_false_iff_ne.2 h]; rfl
theorem Ok.appI {B : Nat} {l m : List α} (h : (l.length + m.length) * B ≤ 140737488355328) : Ok (Go.SL.appI B l m) fun y => y = l ++ m := by
  refine ⟨_, ?_, rfl⟩
  unfold Go.SL.appI
  rw [decide_eq_true h]; rfl
theorem Ok.insI {B : Nat} {l m : List α} {i : Int} (h : (l.length + m.length) * B ≤ 140737488355328) : Ok (Go.SL.insI B l i m) fun y => y = l.take i.toNat ++ (m ++ l.drop i.toNat) := by
  refine ⟨_, ?_, rfl⟩
  unfold Go.SL.insI
  rw [decide_eq_true h]; rfl
theorem Ok.bndI {k : Nat} {lo hi : Int} (h0 : 0 ≤ lo) (h1 : lo ≤ hi) (h2 : hi ≤ k) : Ok (Go.SL.bndI k lo hi) fun _ => True := by
  refine ⟨(), ?_, trivial⟩
  unfold Go.SL.bndI
  rw [decide_eq_true h0, decide_eq_true h1, decide_eq_true h2]; rfl
theorem Ok.bnd3I {k : Nat} {lo hi mx : Int} (h0 : 0 ≤ lo) (h1 : lo ≤ hi) (h2 : hi ≤ mx) (h3 : mx ≤ k) : Ok (Go.SL.bnd3I k lo hi mx) fun _ => True := by
  refine ⟨(), ?_, trivial⟩
  unfold Go.SL.bnd3I
  rw [decide_eq_true h0, decide_eq_true h1, decide_eq_true h2, decide_eq_true h3]; rfl
theorem Ok.appPI {l m : List α} {n : Nat} (h : n + m.length ≤ l.length) : Ok (Go.SL.appPI l n m) fun y => y = l.take n ++ (m ++ l.drop (n + m.length)) := by
  refine ⟨_, ?_, rfl⟩
  unfold Go.SL.appPI
  rw [decide_eq_true h]; rfl
end
theorem w64_in {n : Int} (h : -9223372036854775808 ≤ n ∧ n ≤ 9223372036854775807) : w64 n = n := IntWalk.i64_in n h
theorem w64_range (n : Int) : -9223372036854775808 ≤ w64 n ∧ w64 n ≤ 9223372036854775807 := by
  have h1 : w64 n = (n + 9223372036854775808) % 18446744073709551616 - 9223372036854775808 := by
    simp [w64, IntKind.wrap, IntKind.signed, IntKind.bits]
    split <;> omega
  omega
theorem cnt0 {i : Nat} (h : i ≤ 9223372036854775807) : cnt 0 i = (i : Int) := by rw [cnt_eq (by omega) (by omega)]; omega

/-! ### searches -/
def idxI {α : Type} (p : α → Bool) (xs : List α) : Int := match xs.findIdx? p with
  | some i => (i : Int)
  | none => -1
theorem search_from {α : Type} {f : Nat → α → Unit → Option (Ctl Unit Int)} {p : α → Bool} (hf : ∀ i x, f i x () = bif p x then some (.ret (cnt 0 i)) else some (.next ())) :
    ∀ (xs : List α) (k : Nat), k + xs.length ≤ 9223372036854775807 → foldI f xs k () = match xs.findIdx? p with
      | some i => some (.ret ((i + k : Nat) : Int))
      | none => some (.next ())
  | [], k, _ => rfl
  | x :: xs, k, h => by
    simp only [List.length_cons] at h
    simp only [foldI, hf, List.findIdx?_cons]
    cases hp : p x with
    | true => simp only [cond_true]; rw [cnt0 (by omega)]; simp
    | false =>
      simp only [cond_false]
      rw [search_from hf xs (k + 1) (by omega)]
      cases xs.findIdx? p with
      | none => simp
      | some i => simp; omega
theorem search_eq {α : Type} {f : Nat → α → Unit → Option (Ctl Unit Int)} (p : α → Bool) (hf : ∀ i x, f i x () = bif p x then some (.ret (cnt 0 i)) else some (.next ())) (xs : List α) (h : xs.length ≤ 9223372036854775807) :
    andThen (foldI f xs 0 ()) some (fun _ => some (-1)) = some (idxI p xs) := by
  rw [search_from hf xs 0 (by omega)]
  unfold idxI
  cases xs.findIdx? p with
  | none => rfl
  | some i => rfl
theorem idxI_any {α : Type} (p : α → Bool) (xs : List α) : decide (idxI p xs ≥ 0) = xs.any p := by
  unfold idxI
  cases h : xs.findIdx? p with
  | none =>
    rw [List.findIdx?_eq_none_iff] at h
    have : xs.any p = false := by rw [List.any_eq_false]; intro x hx; simp [h x hx]
    rw [this]; rfl
  | some i =>
    rw [List.findIdx?_eq_some_iff_getElem] at h
    obtain ⟨h1, h2, _⟩ := h
    have : xs.any p = true := List.any_eq_true.2 ⟨_, List.getElem_mem h1, h2⟩
    rw [this]; simp
/-- a loop that looks at all, and finds nothing wrong -/
theorem all_fold {α ρ : Type} {f : Nat → α → Unit → Option (Ctl Unit ρ)} : ∀ (xs : List α) (k : Nat), (∀ j x, xs[j]? = some x → f (k + j) x () = some (.next ())) → foldI f xs k () = some (.next ())
  | [], _, _ => rfl
  | x :: xs, k, h => by
    have h0 := h 0 x rfl
    rw [Nat.add_zero] at h0
    simp only [foldI, h0]
    refine all_fold xs (k + 1) fun j y hj => ?_
    have := h (j + 1) y hj
    rw [show k + 1 + j = k + (j + 1) from by omega]; exact this
theorem Ok.getR {α : Type} {n : Nat} {f : Nat → α} {k : Int} (h0 : 0 ≤ k) (h1 : k < n) : Ok (Go.SL.getI ((List.range n).map f) k) fun y => y = f k.toNat :=
  (Ok.getI h0 (by simpa using h1)).mono fun x hx => by
    rw [List.getElem?_map, List.getElem?_range (by omega)] at hx
    simpa using hx.symm
theorem Ok.setR {α : Type} {n : Nat} {f : Nat → α} {k : Int} {v : α} (h0 : 0 ≤ k) (h1 : k < n) : Ok (Go.SL.setI ((List.range n).map f) k v) fun y => y = (List.range n).map fun i => if i = k.toNat then v else f i :=
  (Ok.setI h0 (by simpa using h1)).mono fun y hy => by
    subst hy
    apply List.ext_getElem?
    intro i
    rw [List.getElem?_set]
    simp only [List.getElem?_map, List.length_map, List.length_range]
    by_cases hi : i < n
    · rw [List.getElem?_range hi]
      by_cases e : k.toNat = i
      · subst e; simp [hi]
      · simp [e, Ne.symm e]
    · rw [List.getElem?_eq_none (by simpa using hi)]
      by_cases e : k.toNat = i
      · omega
      · simp [e]
theorem rep_range {α : Type} (n : Nat) (x : α) : List.replicate n x = (List.range n).map fun _ => x := by
  apply List.ext_getElem?
  intro i
  by_cases hi : i < n
  · simp [hi]
  · simp [hi]
theorem take_succ' {α : Type} {l : List α} {j : Nat} {x : α} (h : l[j]? = some x) : l.take (j + 1) = l.take j ++ [x] := by
  rw [List.take_add_one, h]; rfl
theorem not_all {c : Bool} (h : c = true) (hn : ¬ AllEq [(c, true)]) : False := hn ⟨h, trivial⟩
theorem ff {c : Bool} (h : c = false) : ¬ (c = true) := by rw [h]; simp
end Go.SL
set_option linter.unusedVariables false
namespace Go.Proofs.YtopmfoohdkjgmaaGreatDoor
open Go.SL

theorem tmod_range {x n : Int} (h : 0 < n) : -n < Int.tmod x n ∧ Int.tmod x n < n := by
  have h1 := Int.tmod_lt_of_pos x h
  have h2 := Int.lt_tmod_of_pos x h
  exact ⟨h2, h1⟩
theorem tmod_nn {x n : Int} (h : 0 < n) (h0 : 0 ≤ x) : 0 ≤ Int.tmod x n ∧ Int.tmod x n < n := ⟨Int.tmod_nonneg n h0, (tmod_range h).2⟩
structure SrcOk (s : dynposmake_Src) : Prop where
  lo : 0 ≤ s.At
  hi : s.At ≤ s.L.length
  len : s.L.length ≤ 600
def InR (n r : Int) : Prop := (1 ≤ n → 0 ≤ r ∧ r < n) ∧ (n < 1 → r = 0)
theorem Mod_ok (x n : Int) (h : n ≤ 4611686018427387904) : Ok (F13 x n) (InR n) := by
  unfold F13
  refine Ok.cond (fun h1 => ?_) fun h1 => ?_
  · simp only [decide_eq_true_eq] at h1
    exact Ok.pure ⟨fun h2 => by omega, fun _ => rfl⟩
  · simp only [decide_eq_false_iff_not] at h1
    refine (Ok.nzI (by omega)).bind fun _ _ => (Ok.nzI (by omega)).bind fun _ _ => Ok.pure ⟨fun _ => ?_, fun h2 => by omega⟩
    have h2 := tmod_range (x := x) (n := n) (by omega)
    rw [w64_in (by omega)]
    exact tmod_nn (by omega) (by omega)
theorem N_ok {s : dynposmake_Src} (hs : SrcOk s) (n : Int) (h : n ≤ 4611686018427387904) : Ok (F6 s n) fun y => SrcOk y.2 ∧ InR n y.1 := by
  obtain ⟨h1, h2, h3⟩ := hs
  unfold F6
  refine Ok.cond (fun h4 => ?_) fun h4 => ?_
  · exact Ok.pure ⟨⟨h1, h2, h3⟩, fun h5 => ⟨by simp, by show (0 : Int) < n; omega⟩, fun _ => rfl⟩
  · simp only [decide_eq_false_iff_not] at h4
    have e : w64 (s.At + 1) = s.At + 1 := w64_in (by omega)
    rw [e, w64_in (n := s.At + 1 - 1) (by omega)]
    refine (Ok.getI (by omega) (by omega)).bind fun x _ => (Mod_ok x n h).bind fun r hr => Ok.pure ⟨⟨?_, ?_, h3⟩, hr⟩
    · show 0 ≤ s.At + 1; omega
    · show s.At + 1 ≤ (s.L.length : Int); omega
theorem N_pos {s : dynposmake_Src} (hs : SrcOk s) (n : Int) (h0 : 1 ≤ n) (h : n ≤ 4611686018427387904) : Ok (F6 s n) fun y => SrcOk y.2 ∧ 0 ≤ y.1 ∧ y.1 < n :=
  (N_ok hs n h).mono fun _ h => ⟨h.1, h.2.1 h0⟩
theorem Range_ok {s : dynposmake_Src} (hs : SrcOk s) (lo hi : Int) (h : lo ≤ hi) (h0 : -1000000000000 ≤ lo) (h1 : hi ≤ 1000000000000) : Ok (F7 s lo hi) fun y => SrcOk y.2 ∧ lo ≤ y.1 ∧ y.1 ≤ hi := by
  unfold F7
  have e : w64 (w64 (hi - lo) + 1) = hi - lo + 1 := by rw [w64_in (n := hi - lo) (by omega), w64_in (by omega)]
  rw [e]
  refine (N_pos hs _ (by omega) (by omega)).bind fun y hy => Ok.pure ⟨hy.1, ?_⟩
  have := hy.2
  show lo ≤ w64 (lo + y.1) ∧ w64 (lo + y.1) ≤ hi
  rw [w64_in (by omega)]
  omega
theorem New_ok (l : List Int) : Ok (F5 l) SrcOk := by
  unfold F5
  refine (Ok.cutI (by omega) (by omega) (by omega)).bind fun y hy => Ok.pure ⟨by simp, by simp, ?_⟩
  subst hy
  simp only [List.length_drop, List.length_take]
  omega


/-- where the first green level stands, or the beginning -/
def Fst (l : List Int) (k : Nat) : Prop := (k = 0 ∧ (3 : Int) ∉ l) ∨ (l[k]? = some 3 ∧ ∀ j, j < k → l[j]? ≠ some 3)
theorem index_ok {l : List Int} (h : l.length ≤ 1000) : Ok (F15 l 3) fun r => (r = -1 ∧ (3 : Int) ∉ l) ∨ ∃ k : Nat, r = k ∧ l[k]? = some 3 ∧ ∀ j, j < k → l[j]? ≠ some 3 := by
  unfold F15
  refine Ok.andThen (A := fun _ => (3 : Int) ∉ l) (B := fun r => ∃ k : Nat, r = k ∧ l[k]? = some 3 ∧ ∀ j, j < k → l[j]? ≠ some 3) (Ok.foldI0 (fun j _ => ∀ i, i < j → l[i]? ≠ some 3) (fun i hi => by omega) (fun j x s hj hI => ?_) fun s hI hm => ?_) (fun s hs => Ok.pure (.inl ⟨rfl, hs⟩)) fun v hv => Ok.pure (.inr hv)
  · have hjl := (List.getElem?_eq_some_iff.1 hj).1
    unfold F15_l0
    refine Ok.cond (fun hx => ?_) fun hx => ?_
    · rw [cnt0 (by omega)]
      refine Ok.ret ⟨j, rfl, ?_, hI⟩
      rw [hj, ← of_decide_eq_true (p := (3 : Int) = x) (by simpa using hx)]
    · refine Ok.next fun i hi he => ?_
      rcases Nat.lt_or_ge i j with h1 | h1
      · exact hI i h1 he
      · obtain rfl : i = j := by omega
        rw [hj] at he
        simp only [Option.some.injEq] at he
        subst he
        simp at hx
  · obtain ⟨i, hi, he⟩ := List.getElem_of_mem hm
    exact hI i hi (by rw [List.getElem?_eq_getElem hi, he])
theorem min_ok {l : List Int} (h0 : l ≠ []) (h : l.length ≤ 1000) : Ok (F14 l) fun m => m ∈ l ∧ ∀ x, x ∈ l → m ≤ x := by
  have hp : 0 < l.length := List.length_pos_iff.2 h0
  unfold F14
  refine Ok.andThen (A := fun _ => True) (B := fun _ => False) ?_ (fun s _ => ?_) fun v hv => hv.elim
  · unfold F14_m0
    refine Ok.cond (fun h1 => ?_) fun h1 => ⟨_, rfl, trivial⟩
    simp only [decide_eq_true_eq] at h1; omega
  · refine (Ok.getI (by omega) (by omega)).bind fun y2 hy => ?_
    refine Ok.andThen (A := fun z => z.1 ∈ l ∧ ∀ x, x ∈ l → z.1 ≤ x) (B := fun _ => False) (Ok.whileN (fun z => z.1 ∈ l ∧ 1 ≤ z.2 ∧ z.2 ≤ (l.length : Int) ∧ ∀ (j : Nat) x, (j : Int) < z.2 → l[j]? = some x → z.1 ≤ x) (fun z => ((l.length : Int) - z.2).toNat) _ _ ⟨List.mem_of_getElem? hy, by simp, by simp; omega, fun j x hj hx => ?_⟩ (by omega) ?_) (fun z hz => Ok.pure hz) fun v hv => hv.elim
    · obtain rfl : j = 0 := by simp at hj; omega
      simp only [Int.toNat_zero] at hy
      rw [hy] at hx; cases hx; exact Int.le_refl _
    · rintro ⟨m, i⟩ ⟨g1, g2, g3, g4⟩
      simp only at g1 g2 g3 g4 ⊢
      unfold F14_l1
      refine Ok.cond (fun h1 => ?_) fun h1 => ?_
      · simp only [decide_eq_true_eq] at h1
        refine (Ok.getI (by omega) h1).bind fun y hy => ?_
        have e : w64 (i + 1) = i + 1 := w64_in (by omega)
        simp only [e]
        refine Ok.next ⟨⟨?_, by show 1 ≤ i + 1; omega, by show i + 1 ≤ (l.length : Int); omega, fun j x hj hx => ?_⟩, by show ((l.length : Int) - (i + 1)).toNat < ((l.length : Int) - i).toNat; omega⟩
        · show min m y ∈ l
          rcases Int.le_total m y with q | q
          · rw [Int.min_eq_left q]; exact g1
          · rw [Int.min_eq_right q]; exact List.mem_of_getElem? hy
        · show min m y ≤ x
          rcases (show (j : Int) < i ∨ i ≤ (j : Int) from by omega) with q | q
          · have := g4 j x q hx; omega
          · have hji : j = i.toNat := by simp at hj; omega
            rw [hji, hy] at hx; cases hx
            omega
      · simp only [decide_eq_false_iff_not] at h1
        refine Ok.brk ⟨g1, fun x hx => ?_⟩
        obtain ⟨j, hj, he⟩ := List.getElem_of_mem hx
        exact g4 j x (by omega) (by rw [List.getElem?_eq_getElem hj, he])
theorem worst_ok {l : List Int} (h0 : l ≠ []) (h : l.length ≤ 1000) : Ok (F8 l) fun n => ∃ k, Fst l k ∧ n ∈ l.drop k ∧ ∀ x, x ∈ l.drop k → n ≤ x := by
  have hp : 0 < l.length := List.length_pos_iff.2 h0
  unfold F8
  refine Ok.cond (fun h1 => ?_) fun _ => ?_
  · simp at h1; exact absurd h1 h0
  refine (index_ok h).bind fun r hr => ?_
  obtain ⟨k, hk, hkl, hF⟩ : ∃ k : Nat, max 0 r = k ∧ k < l.length ∧ Fst l k := by
    rcases hr with ⟨rfl, q⟩ | ⟨k, rfl, q1, q2⟩
    · exact ⟨0, by decide, hp, .inl ⟨rfl, q⟩⟩
    · exact ⟨k, by omega, (List.getElem?_eq_some_iff.1 q1).1, .inr ⟨q1, q2⟩⟩
  rw [hk]
  refine (Ok.cutI (by omega) (by omega) (by omega)).bind fun y hy => ?_
  have hy2 : y = l.drop k := by subst hy; simp
  refine (min_ok (l := y) (fun e => ?_) (by rw [hy2, List.length_drop]; omega)).bind fun m hm => Ok.pure ⟨k, hF, by rw [← hy2]; exact hm.1, by rw [← hy2]; exact hm.2⟩
  have := congrArg List.length e
  rw [hy2, List.length_drop, List.length_nil] at this
  omega
theorem has_ok {l : List Int} {n : Int} (h : n ∈ l) : Ok (F9 l n) (· = true) := by
  unfold F9
  refine Ok.andThen (A := fun _ => False) (B := fun r => r = true) (Ok.foldI0 (fun j _ => ∀ i, i < j → l[i]? ≠ some n) (fun i hi => by omega) (fun j x s hj hI => ?_) fun s hI => ?_) (fun s hs => hs.elim) fun v hv => Ok.pure hv
  · unfold F9_l0
    refine Ok.cond (fun hx => Ok.ret rfl) fun hx => Ok.next fun i hi he => ?_
    rcases Nat.lt_or_ge i j with h1 | h1
    · exact hI i h1 he
    · obtain rfl : i = j := by omega
      rw [hj] at he
      simp only [Option.some.injEq] at he
      subst he
      simp at hx
  · obtain ⟨i, hi, he⟩ := List.getElem_of_mem h
    exact hI i hi (by rw [List.getElem?_eq_getElem hi, he])
theorem drop_mem {l : List Int} {k j : Nat} {x : Int} (h : k ≤ j) (hx : l[j]? = some x) : x ∈ l.drop k := by
  refine List.mem_of_getElem? (i := j - k) ?_
  rw [List.getElem?_drop, show k + (j - k) = j from by omega]; exact hx
/-- the levels of the test -/
theorem levels_ok {s : dynposmake_Src} (hs : SrcOk s) (n : Int) (h1 : 1 ≤ n) (h2 : n ≤ 12) : Ok (whileN F3_l0 1152921504606846976 (n, s.L, s.At, ([] : List Int)))
    (EndsSo (fun z => SrcOk ⟨z.2.1, z.2.2.1⟩ ∧ (z.2.2.2.length : Int) = n) fun _ => False) := by
  refine Ok.whileN (fun z => SrcOk ⟨z.2.1, z.2.2.1⟩ ∧ 0 ≤ z.1 ∧ z.1 + (z.2.2.2.length : Int) = n) (fun z => z.1.toNat) _ _ ⟨hs, by show 0 ≤ n; omega, by simp⟩ (by show n.toNat < _; omega) ?_
  rintro ⟨k, L, A, out⟩ ⟨g1, g2, g3⟩
  simp only at g1 g2 g3 ⊢
  unfold F3_l0
  refine Ok.cond (fun h6 => ?_) fun h6 => ?_
  · simp only [decide_eq_true_eq] at h6
    refine (Range_ok g1 1 3 (by omega) (by omega) (by omega)).bind fun y hy => (Ok.appI (by simp; omega)).bind fun z hz => ?_
    subst hz
    rw [w64_in (by omega)]
    exact Ok.next ⟨⟨hy.1, by show 0 ≤ k - 1; omega, by simp; omega⟩, by show (k - 1).toNat < k.toNat; omega⟩
  · simp only [decide_eq_false_iff_not] at h6
    exact Ok.brk ⟨g1, by show (out.length : Int) = n; omega⟩
/-- THE LAW -/
theorem worst_law (t : List Int) : F3 t = some true := by
  refine Ok.eq ?_
  unfold F3
  refine Ok.cond (fun _ => ⟨true, rfl, rfl⟩) fun _ => ?_
  refine (New_ok t).bind fun s hs => (N_pos hs 12 (by omega) (by omega)).bind fun y hy => ?_
  have hy2 := hy.2
  rw [w64_in (n := 1 + y.1) (by omega)]
  refine Ok.andThen (levels_ok hy.1 (1 + y.1) (by omega) (by omega)) (fun z hz => ?_) fun _ h => h.elim
  obtain ⟨n, L, A, l⟩ := z
  obtain ⟨hz1, hz2⟩ := hz
  simp only at hz1 hz2 ⊢
  have hl : l.length ≤ 12 := by omega
  have hne : l ≠ [] := fun e => by rw [e] at hz2; simp at hz2; omega
  refine (worst_ok hne (by omega)).bind fun w hw => ?_
  obtain ⟨k, hF, hm, hle⟩ := hw
  refine Ok.andThen (A := fun z => z = true ↔ (3 : Int) ∈ l) (B := fun _ => False) (Ok.foldI0 (fun j z => z = true ↔ ∃ i, i < j ∧ l[i]? = some 3) ?_ (fun j x g hj hI => ?_) fun g hI => ?_) (fun g hg => ?_) fun _ h => h.elim
  · simp
  · unfold F3_l1
    have hI2 : (g || (x == 3)) = true ↔ ∃ i, i < j + 1 ∧ l[i]? = some 3 := by
      rw [Bool.or_eq_true, hI]
      constructor
      · rintro (⟨i, h1, h2⟩ | h1)
        · exact ⟨i, by omega, h2⟩
        · exact ⟨j, by omega, by rw [hj, eq_of_beq h1]⟩
      · rintro ⟨i, h1, h2⟩
        rcases Nat.lt_or_ge i j with q | q
        · exact .inl ⟨i, q, h2⟩
        · obtain rfl : i = j := by omega
          rw [hj] at h2; cases h2
          exact .inr rfl
    refine Ok.cond (fun hc => ?_) fun _ => Ok.next hI2
    exfalso
    unfold c3_1 at hc
    rw [Bool.and_eq_true, hI2, decide_eq_true_eq] at hc
    obtain ⟨⟨i, h1, h2⟩, h3⟩ := hc
    rcases hF with ⟨rfl, q⟩ | ⟨q1, q2⟩
    · exact q (List.mem_of_getElem? h2)
    · have hki : k ≤ i := Nat.le_of_not_lt fun q => q2 i q h2
      have := hle x (drop_mem (by omega) hj)
      omega
  · rw [hI]
    constructor
    · rintro ⟨i, _, h2⟩; exact List.mem_of_getElem? h2
    · intro h3
      obtain ⟨i, hi, he⟩ := List.getElem_of_mem h3
      exact ⟨i, hi, by rw [List.getElem?_eq_getElem hi, he]⟩
  refine (has_ok (List.mem_of_mem_drop hm)).bind fun b hb => ?_
  subst hb
  cases g with
  | false => exact ⟨true, rfl, rfl⟩
  | true =>
    have h3 : (3 : Int) ∈ l := hg.1 rfl
    refine (Ok.guard (l := [(true, true), (!true, false)]) (fun _ => Ok.appI (by simp; omega)) (fun h => (h ⟨rfl, rfl, trivial⟩).elim)).bind fun y18 hy18 => ?_
    rw [show y18 = l from hy18]
    refine (Ok.guard (l := [(true, true), (!true, false)]) (fun _ => Range_ok hz1 1 3 (by omega) (by omega) (by omega)) (fun h => (h ⟨rfl, rfl, trivial⟩).elim)).bind fun y20 _ => ?_
    refine (Ok.guard (l := [(true, true), (!true, false)]) (fun _ => Ok.appI (by simp; omega)) (fun h => (h ⟨rfl, rfl, trivial⟩).elim)).bind fun y22 hy22 => ?_
    rw [show y22 = l ++ [y20.1] from hy22]
    refine (Ok.guard (l := [(true, true), (!true, false)]) (fun _ => worst_ok (by simp) (by simp; omega)) (fun h => (h ⟨rfl, rfl, trivial⟩).elim)).bind fun m hm2 => ?_
    obtain ⟨k2, hF2, _, hle2⟩ := hm2
    have hmw : m ≤ w := by
      refine hle2 w ?_
      obtain ⟨i, hi⟩ := List.mem_iff_getElem?.1 hm
      rw [List.getElem?_drop] at hi
      have hil := (List.getElem?_eq_some_iff.1 hi).1
      refine drop_mem (j := k + i) ?_ (by rw [List.getElem?_append_left hil]; exact hi)
      rcases hF with ⟨_, q⟩ | ⟨q1, q2⟩
      · exact absurd h3 q
      · rcases hF2 with ⟨rfl, _⟩ | ⟨p1, p2⟩
        · omega
        · have : k2 ≤ k := Nat.le_of_not_lt fun q => p2 k q (by rw [List.getElem?_append_left (List.getElem?_eq_some_iff.1 q1).1]; exact q1)
          omega
    refine (Ok.guard (P := (· = true)) (l := [((true && ((!true) || (decide (m ≤ w)))), true)]) (fun _ => ⟨true, rfl, rfl⟩) (fun h => (h ⟨by simp [hmw], trivial⟩).elim)).bind fun y26 hy26 => ?_
    subst hy26
    exact Ok.pure (by simp [hmw])
end Go.Proofs.YtopmfoohdkjgmaaGreatDoor
