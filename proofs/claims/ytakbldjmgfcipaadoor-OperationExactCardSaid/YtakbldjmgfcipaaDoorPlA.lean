/-
  OPERATION, the plain laws' ground: what a source draws, and what the functions answer, without a program in sight.
-/
import Derived.Test.YtakbldjmgfcipaaDoorMo
namespace Go.Proofs.YtakbldjmgfcipaaDoor
open Go.SL

theorem w64_in {n : Int} (h : -9223372036854775808 ≤ n ∧ n ≤ 9223372036854775807) : w64 n = n := IntWalk.i64_in n h

/-! ### what a source draws -/
def srcOk (s : dynposmake_Src) : Prop := 0 ≤ s.At ∧ s.L.length ≤ 600

theorem mod_ok (x n : Int) (hn : n ≤ 1000000000) : ∃ y, F33 x n = some y ∧ 0 ≤ y ∧ (0 < n → y < n) ∧ (n ≤ 0 → y = 0) := by
  unfold F33
  by_cases h : n < 1
  · have h1 : decide (n < 1) = true := by simpa using h
    rw [h1]
    exact ⟨0, rfl, Int.le_refl _, by omega, by omega⟩
  · have h1 : decide (n < 1) = false := by simpa using h
    have h2 : nzI n = some () := by
      unfold nzI
      have : (n == 0) = false := by simp; omega
      rw [this]; rfl
    rw [h1]
    simp only [cond_false, h2, Option.bind_some]
    have h3 := Int.tmod_lt_of_pos x (show 0 < n by omega)
    have h4 : -n < Int.tmod x n := by
      have := Int.lt_tmod_of_pos x (show 0 < n by omega)
      omega
    rw [w64_in (by omega)]
    have h5 := Int.tmod_lt_of_pos (Int.tmod x n + n) (show 0 < n by omega)
    have h6 : 0 ≤ Int.tmod (Int.tmod x n + n) n := Int.tmod_nonneg _ (by omega)
    exact ⟨_, rfl, h6, fun _ => h5, by omega⟩

theorem N_ok {s : dynposmake_Src} (hs : srcOk s) (n : Int) (hn : n ≤ 1000000000) : ∃ y s', F16 s n = some (y, s') ∧ srcOk s' ∧ 0 ≤ y ∧ (0 < n → y < n) := by
  obtain ⟨h1, h2⟩ := hs
  unfold F16
  by_cases h : (s.L.length : Int) ≤ s.At
  · have h3 : decide (s.At ≥ (s.L.length : Int)) = true := by simpa using h
    rw [h3]
    exact ⟨0, s, rfl, ⟨h1, h2⟩, Int.le_refl _, fun h => h⟩
  · have h3 : decide (s.At ≥ (s.L.length : Int)) = false := by simpa using h
    rw [h3]
    simp only [cond_false]
    have e1 : w64 (w64 (s.At + 1) - 1) = s.At := by
      rw [w64_in (n := s.At + 1) (by omega), w64_in (by omega)]; omega
    rw [e1]
    have hlt : s.At.toNat < s.L.length := by omega
    have h4 : getI s.L s.At = some s.L[s.At.toNat] := by
      unfold getI
      have : decide (0 ≤ s.At) = true := by simpa using h1
      rw [this]
      simp only [cond_true]
      exact List.getElem?_eq_getElem hlt
    rw [h4]
    simp only [Option.bind_some]
    obtain ⟨y, h5, h6, h7, _⟩ := mod_ok s.L[s.At.toNat] n hn
    rw [h5]
    refine ⟨y, _, rfl, ⟨?_, h2⟩, h6, h7⟩
    show 0 ≤ w64 (s.At + 1)
    rw [w64_in (by omega)]; omega

theorem getI_ok {α : Type} {l : List α} {y : Int} (h0 : 0 ≤ y) (h1 : y < l.length) : ∃ x, getI l y = some x ∧ x ∈ l := by
  have hlt : y.toNat < l.length := by omega
  refine ⟨l[y.toNat], ?_, List.getElem_mem hlt⟩
  unfold getI
  have : decide (0 ≤ y) = true := by simpa using h0
  rw [this]
  simp only [cond_true]
  exact List.getElem?_eq_getElem hlt

theorem Pick_ok {s : dynposmake_Src} (hs : srcOk s) (l : List Int) (h0 : 0 < l.length) (hl : l.length ≤ 1000) : ∃ y s', F12 s l = some (y, s') ∧ srcOk s' ∧ y ∈ l := by
  unfold F12
  obtain ⟨y, s', h1, h2, h3, h4⟩ := N_ok hs (l.length : Int) (by omega)
  rw [h1]
  simp only [Option.bind_some]
  obtain ⟨x, h5, h6⟩ := getI_ok h3 (h4 (by omega))
  rw [h5]
  exact ⟨x, s', rfl, h2, h6⟩
theorem Text_ok {s : dynposmake_Src} (hs : srcOk s) (l : List ByteArray) (h0 : 0 < l.length) (hl : l.length ≤ 1000) : ∃ y s', F28 s l = some (y, s') ∧ srcOk s' ∧ y ∈ l := by
  unfold F28
  obtain ⟨y, s', h1, h2, h3, h4⟩ := N_ok hs (l.length : Int) (by omega)
  rw [h1]
  simp only [Option.bind_some]
  obtain ⟨x, h5, h6⟩ := getI_ok h3 (h4 (by omega))
  rw [h5]
  exact ⟨x, s', rfl, h2, h6⟩
theorem Range_ok {s : dynposmake_Src} (hs : srcOk s) (lo hi : Int) (h0 : -1000000 ≤ lo) (h1 : lo ≤ hi) (h2 : hi ≤ 1000000) : ∃ y s', F13 s lo hi = some (y, s') ∧ srcOk s' ∧ lo ≤ y ∧ y ≤ hi := by
  unfold F13
  have e : w64 (w64 (hi - lo) + 1) = hi - lo + 1 := by rw [w64_in (n := hi - lo) (by omega), w64_in (by omega)]
  rw [e]
  obtain ⟨y, s', g1, g2, g3, g4⟩ := N_ok hs (hi - lo + 1) (by omega)
  have g4 := g4 (by omega)
  rw [g1]
  simp only [Option.bind_some]
  exact ⟨w64 (lo + y), s', rfl, g2, by rw [w64_in (by omega)]; omega, by rw [w64_in (by omega)]; omega⟩
theorem New_ok (l : List Int) (hl : l.length ≤ 600) : ∃ s, F10 l = some s ∧ srcOk s := by
  unfold F10
  have h1 : min (l.length : Int) 600 = l.length := by omega
  rw [h1]
  have h2 : cutI l 0 (l.length : Int) = some l := by
    unfold cutI
    have : (decide ((0 : Int) ≤ 0) && (decide ((0 : Int) ≤ l.length) && decide ((l.length : Int) ≤ l.length))) = true := by simp
    rw [this]
    simp
  rw [h2]
  exact ⟨_, rfl, Int.le_refl _, hl⟩

/-- an operation that is in order -/
def opOk (o : api_Operation) : Prop := F22 o = some 0 ∧ 1 ≤ o.Class ∧ o.Class ≤ 3

theorem word_ok : ∀ s : ByteArray, s ∈ [(⟨#[100, 114, 105, 108, 108]⟩ : ByteArray), ⟨#[100, 105, 118, 101]⟩, ⟨#[97, 45, 49]⟩] → F36 s = some true := by
  intro s hs
  have h1 : F36 ⟨#[100, 114, 105, 108, 108]⟩ = some true := by kernel_rfl
  have h2 : F36 ⟨#[100, 105, 118, 101]⟩ = some true := by kernel_rfl
  have h3 : F36 ⟨#[97, 45, 49]⟩ = some true := by kernel_rfl
  rcases List.mem_cons.1 hs with rfl | hs
  · exact h1
  rcases List.mem_cons.1 hs with rfl | hs
  · exact h2
  rcases List.mem_cons.1 hs with rfl | hs
  · exact h3
  · cases hs

theorem Circle_ok {s : dynposmake_Src} (hs : srcOk s) : ∃ c s', F29 s = some (c, s') ∧ srcOk s' ∧ F37 c = 0 := by
  unfold F29
  obtain ⟨a, s1, h1, k1, m1⟩ := Pick_ok hs [0, 300, 500, 2000] (by simp) (by simp)
  obtain ⟨b, s2, h2, k2, m2⟩ := Pick_ok k1 [0, 0, 200] (by simp) (by simp)
  obtain ⟨c, s3, h3, k3, m3⟩ := Pick_ok k2 [0, 0, (-100)] (by simp) (by simp)
  obtain ⟨d, s4, h4, k4, m4⟩ := Pick_ok k3 [0, 500, 3000] (by simp) (by simp)
  simp only [h1, h2, h3, h4, Option.bind_some]
  refine ⟨_, _, rfl, k4, ?_⟩
  simp at m1 m2 m3 m4
  unfold F37
  have : c37_0 ⟨⟨b, c⟩, a, w64 (a + d)⟩ = false := by
    unfold c37_0 F43
    rw [w64_in (by omega)]
    simp
    omega
  rw [this]; rfl

theorem Operation_ok {s : dynposmake_Src} (hs : srcOk s) : ∃ o s', F11 s = some (o, s') ∧ srcOk s' ∧ opOk o := by
  unfold F11
  obtain ⟨n, s1, h1, k1, m1⟩ := Text_ok hs [⟨#[100, 114, 105, 108, 108]⟩, ⟨#[100, 105, 118, 101]⟩, ⟨#[97, 45, 49]⟩] (by simp) (by simp)
  obtain ⟨c, s2, h2, k2, l2, l3⟩ := Range_ok k1 1 3 (by omega) (by omega) (by omega)
  obtain ⟨y, s3, h3, k3, m3⟩ := Circle_ok k2
  obtain ⟨d, s4, h4, k4, m4⟩ := Pick_ok k3 [0, 10, 50, 1000] (by simp) (by simp)
  simp only [h1, h2, h3, h4, Option.bind_some]
  refine ⟨_, _, rfl, k4, ?_, l2, l3⟩
  unfold F22
  have hw := word_ok n m1
  simp only [hw, Option.bind_some]
  have : c22_0 ⟨n, c, y, d⟩ true = false := by
    unfold c22_0 F34 F31
    simp at m4
    simp
    omega
  rw [this]
  simp only [cond_false, m3]

/-- check answers: all right -/
theorem check_ok {o : api_Operation} (ho : opOk o) {s l z : Int} (hs : 0 ≤ s ∧ s ≤ 5) (hl : 1 ≤ l ∧ l ≤ 3) (hz : 1 ≤ z ∧ z ≤ 3) : F30 o s l z = some 0 := by
  unfold F30
  simp only [ho.1, Option.bind_some]
  have : c30_0 s l z = false := by
    unfold c30_0 F42 F34 F35 F31
    simp; omega
  rw [this]; rfl

/-- is it fit -/
def fit (o : api_Operation) (l z : Int) : Prop := o.Class ≤ l ∧ z = 1
theorem fit_iff (o : api_Operation) (l z : Int) : F32 o l z = true ↔ fit o l z := by
  unfold F32 fit
  simp
/-- the state behind a tick -/
def next (o : api_Operation) (s l z : Int) (done : Bool) : Int :=
  if s = 1 then (if F32 o l z = true then 1 else 0)
  else if s = 2 ∨ s = 3 then (if z = 3 ∨ l = 1 then 4 else if F32 o l z = true then 2 else 3)
  else if s = 4 ∧ done = true then 5 else s
theorem Next_eq {o : api_Operation} (ho : opOk o) {s l z : Int} (hs : 0 ≤ s ∧ s ≤ 5) (hl : 1 ≤ l ∧ l ≤ 3) (hz : 1 ≤ z ∧ z ≤ 3) (done : Bool) : F15 o s l z done = some (next o s l z done, 0) := by
  unfold F15 next
  rw [check_ok ho hs hl hz]
  simp only [Option.bind_some]
  have h0 : ((0 : Int) != 0) = false := rfl
  rw [h0]
  simp only [cond_false]
  by_cases h1 : s = 1
  · subst h1
    cases F32 o l z <;> simp
  · have e1 : (s == 1) = false := by simpa using h1
    rw [e1, if_neg h1]
    simp only [cond_false]
    unfold F15_m0
    by_cases h2 : s = 2
    · subst h2
      simp [andThen]
      by_cases h3 : z = 3 ∨ l = 1
      · rcases h3 with h3 | h3 <;> simp [h3]
      · have e3 : (z == 3) = false := by simp; omega
        have e4 : (l == 1) = false := by simp; omega
        simp [e3, e4, h3]
        cases F32 o l z <;> simp
    · by_cases h3 : s = 3
      · subst h3
        simp [andThen]
        by_cases h3 : z = 3 ∨ l = 1
        · rcases h3 with h3 | h3 <;> simp [h3]
        · have e3 : (z == 3) = false := by simp; omega
          have e4 : (l == 1) = false := by simp; omega
          simp [e3, e4, h3]
          cases F32 o l z <;> simp
      · have e2 : (s == 2) = false := by simpa using h2
        have e3 : (s == 3) = false := by simpa using h3
        simp [andThen, e2, e3, h2, h3]
        by_cases h4 : s = 4
        · subst h4
          cases done <;> simp
        · have e4 : (s == 4) = false := by simpa using h4
          simp [h4, e4]
theorem sane_ok : F9 = some true := by kernel_rfl
end Go.Proofs.YtakbldjmgfcipaaDoor
