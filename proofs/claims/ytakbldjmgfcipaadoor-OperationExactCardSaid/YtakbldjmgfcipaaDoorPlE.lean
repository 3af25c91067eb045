/-
  OPERATION, the plain laws: the program's functions and the document's answer the same, whatever is handed in.
-/
import Derived.Test.YtakbldjmgfcipaaDoorPlR
namespace Go.Proofs.YtakbldjmgfcipaaDoor
open Go.SL

/-! ### words -/
def alpha (x : Int) : Bool := decide (x ≥ 97) && decide (x ≤ 122)
def chrI (x : Int) : Bool := (alpha x || (decide (x ≥ 48) && decide (x ≤ 57))) || (x == 45)
def wordOk : List Int → Bool
  | [] => false
  | x :: xs => decide (xs.length < 12) && (alpha x && xs.all chrI)

theorem bytesI_length (s : ByteArray) : (bytesI s).length = s.size := by
  show (s.data.toList.map fun b => (b.toNat : Int)).length = s.data.size
  rw [List.length_map]
  exact Array.length_toList

theorem loopA : ∀ (xs : List Int) (i : Nat), 1 ≤ i → i + xs.length < 100000 → foldI F36_l0 xs i () = bif xs.all chrI then some (.next ()) else some (.ret false)
  | [], i, _, _ => by simp [foldI]
  | x :: xs, i, h1, h2 => by
    simp only [List.length_cons] at h2
    have hc : c36_2 i x = !chrI x := by
      have : (cnt 0 i == 0) = false := by rw [cnt_i (by omega)]; simp; omega
      rw [Bool.eq_iff_iff]
      simp [c36_2, chrI, alpha, this]
      omega
    have ih := loopA xs (i + 1) (by omega) (by omega)
    cases hx : chrI x with
    | false => simp [foldI, F36_l0, hc, hx]
    | true => simp [foldI, F36_l0, hc, hx, ih]

theorem word_A (s : ByteArray) : F36 s = some (wordOk (bytesI s)) := by
  unfold F36
  have hlen := bytesI_length s
  cases hb : bytesI s with
  | nil =>
    rw [hb] at hlen
    have : c36_0 s = true := by unfold c36_0; simp at hlen; simp; omega
    rw [this]; rfl
  | cons x xs =>
    rw [hb] at hlen
    simp only [List.length_cons] at hlen
    by_cases h : xs.length < 12
    · have h0 : c36_0 s = false := by unfold c36_0; simp; omega
      have h1 : bytesO s = some (x :: xs) := by
        unfold bytesO
        have : decide ((s.size : Int) ≤ 140737488355328) = true := by simp; omega
        rw [this, hb]; rfl
      rw [h0]
      simp only [cond_false, h1, Option.bind_some, wordOk, decide_eq_true h, Bool.true_and]
      have hc : c36_2 0 x = !alpha x := by
        have : (cnt 0 0 == 0) = true := rfl
        unfold c36_2 alpha
        rw [this]; simp
      cases hx : alpha x with
      | false => simp [foldI, F36_l0, hc, hx, andThen]
      | true =>
        have := loopA xs 1 (by omega) (by omega)
        cases ha : xs.all chrI with
        | false => rw [ha] at this; simp [foldI, F36_l0, hc, hx, this, andThen]
        | true => rw [ha] at this; simp [foldI, F36_l0, hc, hx, this, andThen]
    · have h0 : c36_0 s = true := by unfold c36_0; simp; omega
      rw [h0]
      simp [wordOk, h]

theorem byte_at {s : ByteArray} {i : Nat} {x : Int} (h : (bytesI s)[i]? = some x) : ∃ b : UInt8, byteI s (i : Int) = some b ∧ (b.toNat : Int) = x := by
  unfold bytesI at h
  rw [List.getElem?_map] at h
  cases hg : s.data.toList[i]? with
  | none => rw [hg] at h; cases h
  | some b =>
    rw [hg] at h
    simp at h
    refine ⟨b, ?_, h⟩
    unfold byteI
    have : decide ((0 : Int) ≤ (i : Int)) = true := decide_eq_true (by omega)
    rw [this, Int.toNat_natCast]
    simpa using hg

theorem stepB {s : ByteArray} {i : Nat} {x : Int} (hs : s.size < 100000) (h : (bytesI s)[i]? = some x) : F38_l0 s (i : Int) = bif chrI x then some (.next ((i + 1 : Nat) : Int)) else some (.ret false) := by
  have hi : i < s.size := by rw [← bytesI_length]; exact (List.getElem?_eq_some_iff.1 h).1
  obtain ⟨b, hb, hx⟩ := byte_at h
  unfold F38_l0 c38_3
  have d0 : decide ((i : Int) < (s.size : Int)) = true := by simp; omega
  have e : w64 ((i : Int) + 1) = ((i + 1 : Nat) : Int) := by rw [w64_in (by omega)]; omega
  rw [d0]
  simp only [cond_true, hb, Option.bind_some, hx, e]
  unfold chrI alpha guardO
  cases h1 : decide (x ≥ 97) <;> cases h2 : decide (x ≤ 122) <;> cases h3 : decide (x ≥ 48) <;> cases h4 : decide (x ≤ 57) <;> cases h5 : (x == 45) <;>
    simp [allEqB, hx, h1, h2, h3, h4, h5]

theorem loopB (s : ByteArray) (hs : s.size < 100000) : ∀ (k i m : Nat), i + k = s.size → k < m → whileN (F38_l0 s) m (i : Int) = bif ((bytesI s).drop i).all chrI then some (.next (s.size : Int)) else some (.ret false)
  | 0, i, m, h, hm => by
    obtain ⟨m, rfl⟩ : ∃ q, m = q + 1 := ⟨m - 1, by omega⟩
    have hd : (bytesI s).drop i = [] := List.drop_eq_nil_of_le (by rw [bytesI_length]; omega)
    have d0 : decide ((i : Int) < (s.size : Int)) = false := by simp; omega
    have : (i : Int) = (s.size : Int) := by omega
    unfold whileN F38_l0
    rw [d0, hd, this]
    rfl
  | k + 1, i, m, h, hm => by
    obtain ⟨m, rfl⟩ : ∃ q, m = q + 1 := ⟨m - 1, by omega⟩
    have hlt : i < (bytesI s).length := by rw [bytesI_length]; omega
    have hd := List.drop_eq_getElem_cons hlt
    have hst := stepB hs (List.getElem?_eq_getElem hlt)
    have ih := loopB s hs k (i + 1) m (by omega) (by omega)
    rw [hd, List.all_cons]
    unfold whileN
    rw [hst]
    cases chrI (bytesI s)[i] with
    | false => rfl
    | true => simpa using ih

theorem word_B (s : ByteArray) : F38 s = some (wordOk (bytesI s)) := by
  unfold F38 c38_0
  have hlen := bytesI_length s
  cases hb : bytesI s with
  | nil =>
    rw [hb] at hlen
    have h0 : s.size = 0 := hlen.symm
    rw [h0]
    simp [guardO, allEqB, wordOk]
  | cons x xs =>
    rw [hb] at hlen
    simp only [List.length_cons] at hlen
    have e0 : ((s.size : Int) == 0) = false := by rw [beq_eq_false_iff_ne]; omega
    by_cases h : xs.length < 12
    · have e1 : decide ((s.size : Int) > 12) = false := by simp; omega
      obtain ⟨b, hb0, hx⟩ := byte_at (s := s) (i := 0) (x := x) (by rw [hb]; rfl)
      have hb1 : byteI s 0 = some b := hb0
      have hl := loopB s (by omega) s.size 0 1152921504606846976 (by omega) (by omega)
      rw [hb] at hl
      have hl : whileN (F38_l0 s) 1152921504606846976 0 = bif (x :: xs).all chrI then some (.next (s.size : Int)) else some (.ret false) := hl
      have hch : alpha x = true → chrI x = true := by intro h; unfold chrI; rw [h]; rfl
      simp only [e0, e1, hb1, guardO, allEqB, wordOk, decide_eq_true h, hl, Option.bind_some, hx, Bool.or_false, Bool.true_and, Bool.and_true, beq_self_eq_true, cond_true, List.all_cons]
      cases h1 : decide (x < 97) with
      | true =>
        have ha : alpha x = false := by unfold alpha; simp at h1 ⊢; omega
        simp [ha]
      | false =>
        simp only [beq_self_eq_true, cond_true, hx, Option.bind_some, Bool.false_or]
        cases h2 : decide (x > 122) with
        | true =>
          have ha : alpha x = false := by unfold alpha; simp at h2 ⊢; omega
          simp [ha]
        | false =>
          have ha : alpha x = true := by unfold alpha; simp at h1 h2 ⊢; omega
          rw [ha, hch ha]
          cases hq : xs.all chrI <;> simp [andThen]
    · have e1 : decide ((s.size : Int) > 12) = true := by simp; omega
      rw [e0, e1]
      simp [guardO, allEqB, wordOk, h]

theorem word_eq (s : ByteArray) : F38 s = F36 s := by rw [word_A, word_B]

/-! ### the functions -/
theorem in_eq (a b c : Int) : F39 a b c = F31 a b c := rfl
theorem point_eq (p : api_Point) : F44 p = F43 p := by
  rw [Bool.eq_iff_iff]
  simp only [F43, F44, Bool.and_eq_true, decide_eq_true_eq]
  omega
theorem circle_eq (c : api_Circle) : F40 c = F37 c := by simp only [F40, F37, c40_0, c37_0, point_eq]
theorem check_eq (o : api_Operation) : F23 o = F22 o := by
  unfold F23 F22
  rw [word_eq]
  congr 1
  funext y
  have : c23_0 o y = c22_0 o y := rfl
  rw [this, circle_eq]
/-- what Check answers -/
def chk (o : api_Operation) : Int := bif c22_0 o (wordOk (bytesI o.Name)) then 66 else F37 o.Circle
theorem chk_eq (o : api_Operation) : F22 o = some (chk o) := by
  unfold F22 chk
  rw [word_A]
  simp only [Option.bind_some]
  cases c22_0 o (wordOk (bytesI o.Name)) <;> rfl
theorem chk_eq' (o : api_Operation) : F23 o = some (chk o) := by rw [check_eq, chk_eq]

/-- what Fit answers -/
def fitB (o : api_Operation) (l z : Int) : Bool := (((chk o == 0) && F34 l) && F35 z) && F32 o l z
theorem fit_eq (o : api_Operation) (l z : Int) : F17 o l z = some (fitB o l z) := by
  unfold F17 fitB
  rw [chk_eq]; rfl
theorem fit_eq' (o : api_Operation) (l z : Int) : F26 o l z = some (fitB o l z) := by
  unfold F26 fitB F41 F32
  rw [chk_eq']
  simp only [Option.bind_some, Bool.and_assoc]
  rfl

/-- what Next answers -/
def nextP (o : api_Operation) (s l z : Int) (d : Bool) : Int × Int :=
  bif chk o != 0 then (0, chk o) else bif c30_0 s l z then (0, 1) else (next o s l z d, 0)
theorem c30_false {s l z : Int} (h : c30_0 s l z = false) : (0 ≤ s ∧ s ≤ 5) ∧ (1 ≤ l ∧ l ≤ 3) ∧ (1 ≤ z ∧ z ≤ 3) := by
  unfold c30_0 F42 F34 F35 F31 at h
  simp at h
  omega
theorem check30 (o : api_Operation) (s l z : Int) : F30 o s l z = some (bif chk o != 0 then chk o else bif c30_0 s l z then 1 else 0) := by
  unfold F30
  rw [chk_eq]
  simp only [Option.bind_some]
  cases (chk o != 0) <;> cases c30_0 s l z <;> rfl
theorem Next_any (o : api_Operation) (s l z : Int) (d : Bool) : F15 o s l z d = some (nextP o s l z d) := by
  unfold F15 nextP
  rw [check30]
  simp only [Option.bind_some]
  cases hc : (chk o != 0) with
  | true => simp only [cond_true, hc]
  | false =>
    cases hd : c30_0 s l z with
    | true => rfl
    | false =>
      simp only [cond_false]
      have h0 : ((0 : Int) != 0) = false := rfl
      rw [h0]
      simp only [cond_false]
      obtain ⟨hs, hl, hz⟩ := c30_false hd
      unfold next
      by_cases h1 : s = 1
      · subst h1
        cases F32 o l z <;> simp
      · have e1 : (s == 1) = false := by simpa using h1
        rw [e1, if_neg h1]
        simp only [cond_false]
        unfold F15_m0
        by_cases h2 : s = 2
        · subst h2
          simp [andThen]
          by_cases h3 : z = 3 ∨ l = 1
          · rcases h3 with h3 | h3 <;> simp [h3]
          · have e3 : (z == 3) = false := by simp; omega
            have e4 : (l == 1) = false := by simp; omega
            simp [e3, e4, h3]
            cases F32 o l z <;> simp
        · by_cases h3 : s = 3
          · subst h3
            simp [andThen]
            by_cases h3 : z = 3 ∨ l = 1
            · rcases h3 with h3 | h3 <;> simp [h3]
            · have e3 : (z == 3) = false := by simp; omega
              have e4 : (l == 1) = false := by simp; omega
              simp [e3, e4, h3]
              cases F32 o l z <;> simp
          · have e2 : (s == 2) = false := by simpa using h2
            have e3 : (s == 3) = false := by simpa using h3
            simp [andThen, e2, e3, h2, h3]
            by_cases h4 : s = 4
            · subst h4
              cases d <;> simp
            · have e4 : (s == 4) = false := by simpa using h4
              simp [h4, e4]
theorem Next_ref (o : api_Operation) (s l z : Int) (d : Bool) : F24 o s l z d = F15 o s l z d := by
  unfold F24 F15
  rw [check30, chk_eq']
  simp only [Option.bind_some]
  cases hc : (chk o != 0) with
  | true => simp only [cond_true, hc]
  | false =>
    have hc0 : (chk o == 0) = true := by simpa using hc
    have hcond : ((!(F39 s 0 5)) || (!(F41 l z))) = c30_0 s l z := by
      unfold c30_0 F42 F41 F34 F35
      simp only [in_eq, Bool.not_and, Bool.or_assoc]
    rw [hcond]
    cases hd : c30_0 s l z with
    | true => rfl
    | false =>
      obtain ⟨hs, hl, hz⟩ := c30_false hd
      have f1 : F34 l = true := by unfold F34 F31; simp; omega
      have f2 : F35 z = true := by unfold F35 F31; simp; omega
      have hfit : fitB o l z = F32 o l z := by unfold fitB; rw [hc0, f1, f2]; rfl
      simp only [fit_eq', hfit, Option.bind_some, cond_false]
      have h0 : ((0 : Int) != 0) = false := rfl
      rw [h0]
      rfl
theorem Next_any' (o : api_Operation) (s l z : Int) (d : Bool) : F24 o s l z d = some (nextP o s l z d) := by rw [Next_ref, Next_any]

theorem Ask_ref (o : api_Operation) (s l z r : Int) : F25 o s l z r = F14 o s l z r := by
  unfold F25 F14
  rw [check30, chk_eq']
  simp only [Option.bind_some]
  cases hc : (chk o != 0) with
  | true => simp only [cond_true, hc]
  | false =>
    have hcond : c25_0 s l z r = (c30_0 s l z || !(F31 r 0 4)) := by
      unfold c25_0 c30_0 F42 F41 F34 F35
      simp only [in_eq, Bool.not_and, Bool.or_assoc]
    rw [hcond]
    cases hd : c30_0 s l z with
    | true => rfl
    | false =>
      obtain ⟨hs, hl, hz⟩ := c30_false hd
      have h0 : ((0 : Int) != 0) = false := rfl
      simp only [cond_false, Bool.false_or, h0]
      cases hr : F31 r 0 4 with
      | false => rfl
      | true =>
        have hr' : r = 0 ∨ r = 1 ∨ r = 2 ∨ r = 3 ∨ r = 4 := by unfold F31 at hr; simp at hr; omega
        have hs' : s = 0 ∨ s = 1 ∨ s = 2 ∨ s = 3 ∨ s = 4 ∨ s = 5 := by omega
        rcases hr' with rfl | rfl | rfl | rfl | rfl <;> rcases hs' with rfl | rfl | rfl | rfl | rfl | rfl <;> rfl
theorem Ask_any (o : api_Operation) (s l z r : Int) : ∃ y, F14 o s l z r = some y := by
  unfold F14
  rw [check30]
  simp only [Option.bind_some]
  cases hc : (chk o != 0) with
  | true => exact ⟨(0, chk o), by simp only [cond_true, hc]⟩
  | false =>
    cases hd : c30_0 s l z with
    | true => exact ⟨_, rfl⟩
    | false =>
      obtain ⟨hs, hl, hz⟩ := c30_false hd
      have h0 : ((0 : Int) != 0) = false := rfl
      simp only [cond_false, h0]
      cases hr : F31 r 0 4 with
      | false => exact ⟨_, rfl⟩
      | true =>
        have hr' : r = 0 ∨ r = 1 ∨ r = 2 ∨ r = 3 ∨ r = 4 := by unfold F31 at hr; simp at hr; omega
        have hs' : s = 0 ∨ s = 1 ∨ s = 2 ∨ s = 3 ∨ s = 4 ∨ s = 5 := by omega
        have two : ∀ (b c : Bool) (p q u : Int × Int), ∃ y, (bif b then some p else bif c then some q else some u) = some y := by
          intro b c p q u; cases b <;> cases c <;> exact ⟨_, rfl⟩
        rcases hr' with rfl | rfl | rfl | rfl | rfl <;> rcases hs' with rfl | rfl | rfl | rfl | rfl | rfl <;> first | exact ⟨_, rfl⟩ | exact two _ _ _ _ _
/-- what Ask answers -/
def askP (o : api_Operation) (s l z r : Int) : Int × Int := (F14 o s l z r).getD default
theorem Ask_eq (o : api_Operation) (s l z r : Int) : F14 o s l z r = some (askP o s l z r) := by
  obtain ⟨y, h⟩ := Ask_any o s l z r
  unfold askP
  rw [h]; rfl
theorem Ask_eq' (o : api_Operation) (s l z r : Int) : F25 o s l z r = some (askP o s l z r) := by rw [Ask_ref, Ask_eq]

/-! ### Run -/
theorem Run_body (o : api_Operation) (z : List Int) : F27_l0 o z = F19_l0 o z := by
  funext i x s
  unfold F27_l0 F19_l0
  simp only [Next_ref]
theorem Run_ref (o : api_Operation) (s : Int) (l z : List Int) : F27 o s l z = F19 o s l z := by
  unfold F27 F19
  rw [Run_body]
theorem Run_loop_any (o : api_Operation) (zs : List Int) (hzl : zs.length ≤ 400) : ∀ (ls : List Int) (i : Nat) (s : Int) (out : List Int), i + ls.length = zs.length → out.length = i →
    (∃ s' out', foldI (F19_l0 o zs) ls i (s, out) = some (.next (s', out')) ∧ out'.length = zs.length) ∨ ∃ e, foldI (F19_l0 o zs) ls i (s, out) = some (.ret ([], e))
  | [], i, s, out, h, h' => .inl ⟨s, out, rfl, by simpa [h'] using h⟩
  | x :: xs, i, s, out, hi, ho => by
    simp only [List.length_cons] at hi
    have hlt : i < zs.length := by omega
    have h1 : getI zs (cnt 0 i) = some zs[i] := by rw [cnt_i (by omega)]; exact getI_nat (List.getElem?_eq_getElem hlt)
    cases hb : ((nextP o s x zs[i] false).2 != 0) with
    | true =>
      refine .inr ⟨(nextP o s x zs[i] false).2, ?_⟩
      have : F19_l0 o zs i x (s, out) = some (.ret ([], (nextP o s x zs[i] false).2)) := by
        unfold F19_l0
        simp only [h1, Next_any, Option.bind_some, hb, cond_true]
      simp only [foldI, this]
    | false =>
      have h3 : appI 9 out [(nextP o s x zs[i] false).1] = some (out ++ [(nextP o s x zs[i] false).1]) := appI_ok (by simp; omega)
      have h4 := Run_loop_any o zs hzl xs (i + 1) (nextP o s x zs[i] false).1 (out ++ [(nextP o s x zs[i] false).1]) (by omega) (by simp [ho])
      have : F19_l0 o zs i x (s, out) = some (.next ((nextP o s x zs[i] false).1, out ++ [(nextP o s x zs[i] false).1])) := by
        unfold F19_l0
        simp only [h1, Next_any, Option.bind_some, hb, cond_false, h3]
      simp only [foldI, this]
      exact h4
theorem Run_any (o : api_Operation) (s : Int) (l z : List Int) : ∃ r, F19 o s l z = some r ∧ r.1.length ≤ 400 := by
  unfold F19
  cases h1 : ((l.length : Int) != (z.length : Int)) with
  | true => exact ⟨_, rfl, by simp⟩
  | false =>
    cases h2 : decide ((l.length : Int) > 400) with
    | true => exact ⟨_, rfl, by simp⟩
    | false =>
      have g1 : (l.length : Int) = (z.length : Int) := by simpa using h1
      have g2 : ¬ ((l.length : Int) > 400) := by simpa using h2
      rcases Run_loop_any o z (by omega) l 0 s [] (by omega) rfl with ⟨s', out', e, hl⟩ | ⟨e, he⟩
      · simp only [cond_false, e, andThen]
        exact ⟨_, rfl, by simp only; omega⟩
      · simp only [cond_false, he, andThen]
        exact ⟨_, rfl, by simp⟩
/-- what Run answers -/
def runR (o : api_Operation) (s : Int) (l z : List Int) : List Int × Int := (F19 o s l z).getD default
theorem Run_at (o : api_Operation) (s : Int) (l z : List Int) : F19 o s l z = some (runR o s l z) ∧ (runR o s l z).1.length ≤ 400 := by
  obtain ⟨r, h, h'⟩ := Run_any o s l z
  unfold runR
  rw [h]; exact ⟨rfl, h'⟩
theorem Run_at' (o : api_Operation) (s : Int) (l z : List Int) : F27 o s l z = some (runR o s l z) := by rw [Run_ref, (Run_at o s l z).1]

theorem IntsP_loop (m : List Int) (hm : m.length < 100000) : ∀ (l : List Int) (i : Nat), m.drop i = l → foldI (F20_l0 m) l i () = some (.next ())
  | [], _, _ => rfl
  | x :: xs, i, h => by
    have hlt : i < m.length := by
      rcases Nat.lt_or_ge i m.length with h' | h'
      · exact h'
      · rw [List.drop_eq_nil_of_le h'] at h; cases h
    have hd := List.drop_eq_getElem_cons hlt
    rw [h] at hd
    injection hd with h1 h2
    have h3 : getI m (cnt 0 i) = some x := by rw [cnt_i (by omega), h1]; exact getI_nat (List.getElem?_eq_getElem hlt)
    have h4 : F20_l0 m i x () = some (.next ()) := by
      unfold F20_l0
      simp [h3]
    simp only [foldI, h4]
    exact IntsP_loop m hm xs (i + 1) h2.symm
theorem IntsP_same (m : List Int) (hm : m.length < 100000) : F20 m m = some true := by
  unfold F20
  have : ((m.length : Int) != (m.length : Int)) = false := by simp
  rw [this]
  simp only [cond_false, IntsP_loop m hm m 0 rfl, andThen]
theorem Ints_run (o : api_Operation) (s : Int) (l z : List Int) : F20 (runR o s l z).1 (runR o s l z).1 = some true := IntsP_same _ (by have := (Run_at o s l z).2; omega)

theorem Bent_ok {s : dynposmake_Src} (hs : srcOk s) (o : api_Operation) : ∃ o' s', F21 s o = some (o', s') ∧ srcOk s' := by
  unfold F21
  obtain ⟨y, s1, h1, k1, _, _⟩ := N_ok hs 4 (by omega)
  simp only [h1, Option.bind_some]
  cases (y == 0) with
  | true =>
    obtain ⟨a, s2, h2, k2, _⟩ := Text_ok k1 [⟨#[]⟩, ⟨#[65]⟩, ⟨#[97, 32, 98]⟩, ⟨#[116, 104, 105, 114, 116, 101, 101, 110, 45, 98, 121, 116, 101]⟩] (by simp) (by simp)
    simp only [cond_true, h2, Option.bind_some]
    exact ⟨_, _, rfl, k2⟩
  | false =>
    cases (y == 1) with
    | true =>
      obtain ⟨a, s2, h2, k2, _⟩ := Pick_ok k1 [0, 4, (-1)] (by simp) (by simp)
      simp only [cond_true, cond_false, h2, Option.bind_some]
      exact ⟨_, _, rfl, k2⟩
    | false =>
      cases (y == 2) with
      | true =>
        obtain ⟨a, s2, h2, k2, _⟩ := Pick_ok k1 [(-1), 1001] (by simp) (by simp)
        simp only [cond_true, cond_false, h2, Option.bind_some]
        exact ⟨_, _, rfl, k2⟩
      | false =>
        obtain ⟨a, s2, h2, k2, _⟩ := Pick_ok k1 [(-1), w64 (o.Circle.Red + 1), 1000001] (by simp) (by simp)
        simp only [cond_false, h2, Option.bind_some]
        exact ⟨_, _, rfl, k2⟩
end Go.Proofs.YtakbldjmgfcipaaDoor
