import Derived.Test.YtkngbnedbgndoaaGreatPK
namespace Go.Proofs.YtkngbnedbgndoaaGreat
open Go.SL
def failedP (p : api_Power) (x : api_Part) (n : Nat) : api_Power := ⟨p.Closed, failS p.Sources x 3, p.Limits, insP p.Broken n x⟩
theorem failedP_ok {b : api_Board} (h : BoardOk b) {p : api_Power} (hp : StateOk b p) {x : api_Part} (hx : PartIn b x) {n : Nat} (hat : At p.Broken x n) (hnot : p.Broken[n]? ≠ some x) (hlen : p.Broken.length < 32) : StateOk b (failedP p x n) where
 ncl := hp.ncl
 nso := by show (failS p.Sources x 3).length = _; rw [failS_length]; exact hp.nso
 nli := hp.nli
 run := failS_ok hp.run (fun hk => by have := hp.nso; unfold PartIn at hx; omega) (by omega)
 lim := hp.lim
 one := hp.one
 brk := insP_ok h hp.brk hx hat hnot hlen
def mendedP (p : api_Power) (x : api_Part) : api_Power := ⟨p.Closed, failS (failS p.Sources x 3) x 0, p.Limits, p.Broken⟩
theorem part_iff (b : api_Board) (k n : Int) : F137 b k n = true ↔ PartIn b ⟨k, n⟩ := by
 unfold F137 PartIn
 dsimp only
 by_cases h1 : k = 1
 ·subst h1; simp
 rw [beq_eq_false_iff_ne.2 h1, cond_false]
 by_cases h2 : k = 2
 ·subst h2; simp
 rw [beq_eq_false_iff_ne.2 h2, cond_false]
 by_cases h3 : k = 3
 ·subst h3; simp
 rw [beq_eq_false_iff_ne.2 h3, cond_false]
 by_cases h4 : k = 4
 ·subst h4; simp
 rw [beq_eq_false_iff_ne.2 h4, cond_false]
 simp only [Bool.and_eq_true, decide_eq_true_eq]
 omega
theorem at_ex {b : api_Board} (h : BoardOk b) {l : List api_Part} (hl : BrokenOk b l) {x : api_Part} (hx : PartIn b x) : ∃ n, At l x n := by
 have hs := sorted_of h hl
 obtain ⟨y, _, n, _, hat, _⟩ := search_ok hs (fun y hy => (hl.mem y hy).small h) (hx.small h) (by have := hl.len; omega)
 exact ⟨n, hat⟩
theorem copy_eq {b : api_Board} (h : BoardOk b) {p : api_Power} (hp : StateOk b p) : F20 p = some p := by
 have hl := hp.lens h
 have h1 := hl.c
 have h2 := hl.s
 have h3 := hl.l
 have h4 := hl.k
 unfold F20
 rw [app0 (by omega), app0 (by omega), app0 (by omega), app0 (by omega)]
 rfl
theorem sane20 : F22 = some true := by kernel_rfl
end Go.Proofs.YtkngbnedbgndoaaGreat
