/-
  OPERATION, the plain law: the program's functions answer as the document's.
-/
import Derived.Test.YtakbldjmgfcipaaDoorPlE
set_option linter.unusedVariables false
namespace Go.Proofs.YtakbldjmgfcipaaDoor
open Go.SL

set_option maxRecDepth 100000 in
set_option maxHeartbeats 4000000 in
theorem operationExact (t : List Int) (raw : api_Operation) (state level zone request : Int) (done : Bool) (l m : List Int) : F8 t raw state level zone request done l m = some true := by
  unfold F8
  cases hg : c8_0 t raw l m with
  | true =>
    rw [cond_true, sane_ok]; rfl
  | false =>
    have hl : ¬ ((t.length : Int) > 600) := by
      intro h
      have : decide ((t.length : Int) > 600) = true := decide_eq_true h
      unfold c8_0 at hg
      rw [this] at hg
      simp at hg
    rw [cond_false]
    obtain ⟨s0, h0, k0⟩ := New_ok t (by omega)
    obtain ⟨o, s1, h1, k1, ho⟩ := Operation_ok k0
    obtain ⟨q, s2, h2, k2⟩ := Bent_ok k1 o
    obtain ⟨y3, s3, h3, k3, _, _⟩ := N_ok k2 6 (by omega)
    obtain ⟨y4, s4, h4, k4, _, _⟩ := Range_ok k3 1 3 (by omega) (by omega) (by omega)
    obtain ⟨y5, s5, h5, k5, _, _⟩ := Range_ok k4 1 3 (by omega) (by omega) (by omega)
    obtain ⟨y6, s6, h6, k6, _, _⟩ := N_ok k5 5 (by omega)
    obtain ⟨y7, s7, h7, k7, _, _⟩ := Range_ok k6 (-1) 6 (by omega) (by omega) (by omega)
    obtain ⟨y8, s8, h8, k8, _, _⟩ := Range_ok k7 0 4 (by omega) (by omega) (by omega)
    obtain ⟨y9, s9, h9, k9, _, _⟩ := Range_ok k8 0 4 (by omega) (by omega) (by omega)
    obtain ⟨y10, s10, h10, k10, _, _⟩ := Range_ok k9 (-1) 5 (by omega) (by omega) (by omega)
    obtain ⟨a11, b11, s11, h11, k11, _⟩ := Zones_ok k10 (most := 12) (by omega)
    obtain ⟨y12, s12, h12, k12, _, _⟩ := N_ok k11 6 (by omega)
    obtain ⟨y13, s13, h13, k13, _, _⟩ := N_ok k12 6 (by omega)
    obtain ⟨y14, s14, h14, k14, _, _⟩ := N_ok k13 6 (by omega)
    obtain ⟨y15, s15, h15, k15, _, _⟩ := N_ok k14 6 (by omega)
    obtain ⟨y16, s16, h16, k16, _, _⟩ := Range_ok k15 1 3 (by omega) (by omega) (by omega)
    obtain ⟨y17, s17, h17, k17, _, _⟩ := Range_ok k16 1 3 (by omega) (by omega) (by omega)
    obtain ⟨y18, s18, h18, k18, _, _⟩ := N_ok k17 5 (by omega)
    obtain ⟨y19, s19, h19, k19, _, _⟩ := Range_ok k18 (-1) 6 (by omega) (by omega) (by omega)
    obtain ⟨y20, s20, h20, k20, _, _⟩ := Range_ok k19 0 4 (by omega) (by omega) (by omega)
    obtain ⟨y21, s21, h21, k21, _, _⟩ := Range_ok k20 0 4 (by omega) (by omega) (by omega)
    obtain ⟨y22, s22, h22, k22, _, _⟩ := Range_ok k21 (-1) 5 (by omega) (by omega) (by omega)
    obtain ⟨a23, b23, s23, h23, k23, _⟩ := Zones_ok k22 (most := 12) (by omega)
    obtain ⟨y24, s24, h24, k24, _, _⟩ := N_ok k23 6 (by omega)
    obtain ⟨y25, s25, h25, k25, _, _⟩ := N_ok k24 6 (by omega)
    obtain ⟨y26, s26, h26, k26, _, _⟩ := N_ok k25 6 (by omega)
    obtain ⟨y27, s27, h27, k27, _, _⟩ := N_ok k26 6 (by omega)
    obtain ⟨y28, s28, h28, k28, _, _⟩ := Range_ok k27 1 3 (by omega) (by omega) (by omega)
    obtain ⟨y29, s29, h29, k29, _, _⟩ := Range_ok k28 1 3 (by omega) (by omega) (by omega)
    obtain ⟨y30, s30, h30, k30, _, _⟩ := N_ok k29 5 (by omega)
    obtain ⟨y31, s31, h31, k31, _, _⟩ := Range_ok k30 (-1) 6 (by omega) (by omega) (by omega)
    obtain ⟨y32, s32, h32, k32, _, _⟩ := Range_ok k31 0 4 (by omega) (by omega) (by omega)
    obtain ⟨y33, s33, h33, k33, _, _⟩ := Range_ok k32 0 4 (by omega) (by omega) (by omega)
    obtain ⟨y34, s34, h34, k34, _, _⟩ := Range_ok k33 (-1) 5 (by omega) (by omega) (by omega)
    obtain ⟨a35, b35, s35, h35, k35, _⟩ := Zones_ok k34 (most := 12) (by omega)
    obtain ⟨y36, s36, h36, k36, _, _⟩ := N_ok k35 6 (by omega)
    obtain ⟨y37, s37, h37, k37, _, _⟩ := N_ok k36 6 (by omega)
    obtain ⟨y38, s38, h38, k38, _, _⟩ := N_ok k37 6 (by omega)
    simp only [h0, h1, h2, h3, h4, h5, h6, h7, h8, h9, h10, h11, h12, h13, h14, h15, h16, h17, h18, h19, h20, h21, h22, h23, h24, h25, h26, h27, h28, h29, h30, h31, h32, h33, h34, h35, h36, h37, h38, Option.bind_some, chk_eq, chk_eq', Next_any, Next_any', Ask_eq, Ask_eq', fit_eq, fit_eq', (Run_at _ _ _ _).1, Run_at', Ints_run, guardO, allEqB, bne_self_eq_false, Bool.or_false, Bool.false_or, beq_self_eq_true, Bool.and_true, cond_true, cond_false, Bool.not_true, c8_1, c8_2, c8_3, c8_4, c8_5, c8_6, c8_7, c8_8, c8_9, sane_ok]
end Go.Proofs.YtakbldjmgfcipaaDoor
