import Derived.Test.YtakbldjmgfcipaaRows
import Derived.Test.YtakbldjmgfcipaaK0
set_option linter.unusedVariables false
namespace Go.Proofs.Ytakbldjmgfcipaa
open Go.SL
def st25_0 (x2 : Int) (s25_0 : Int × Int) : St := [(2, .d (I x2)), (3, .d (.o 0 0)), (4, .d (.o 1 0)), (6, .d (I 0)), (7, .d (I s25_0.1)), (8, .d (I s25_0.2))]
def R25_0 (x0 : api_Circle) (x1 : api_Estimate) (s25_0 : Int × Int) : List Res := [.box 26 [I x0.Place.X, I x0.Place.Y, I x0.Yellow, I x0.Red], .box 28 [I x1.Point.X, I x1.Point.Y, I x1.Bound, I x1.Time, I x1.State]]
def sa25_0  (s25_0 : Int × Int) : St := [(6, .d (I 0)), (7, .d (I s25_0.1))]
def Ra25_0  (s25_0 : Int × Int) : List Res := []
theorem k25 (x0 : api_Circle) (x1 : api_Estimate) (x2 : Int) (r : Int) (h : F25 x0 x1 x2 = some r) : CallOk Try.prog 25 [.agg [I x0.Place.X, I x0.Place.Y, I x0.Yellow, I x0.Red], .agg [I x1.Point.X, I x1.Point.Y, I x1.Bound, I x1.Time, I x1.State], .d (I x2)] [] (.d (I r)) [] := by
  unfold F25 at h
  refine callOk_of 34 Try.func25 rfl rfl rfl fun C hC => ?_
  rcases boolC ((c25_0 x2)) with h1 | h1
  · replace h := condT h1 h
    replace h := Option.some.inj h
    subst h
    exact WI_ret (bs := [((c25_0 x2), true)]) mixed [0, 1, 2, 3, 4, 6, 7, 8, 9, 15, 17, 31] 29 [true] [] [] [.tmp 6] 0 [] rfl hC trivial ⟨h1, trivial⟩ (by kernel_rfl)
  · replace h := condF h1 h
    refine WI_stop (bs := [((c25_0 x2), false)]) mixed [0, 1, 2, 3, 4, 6, 7, 8, 9, 15, 17, 31] 33 [false] [] [] 0 [0, 1] (st25_0 x2 ((-1), 0)) (R25_0 x0 x1 ((-1), 0)) hC trivial ⟨h1, trivial⟩ (by kernel_rfl) ?_
    obtain ⟨k25_0, hm25_0, hret25_0, hnext25_0⟩ := andThen_inv h
    clear h
    refine WI_cut (by kernel_rfl) (fun s => k25_0 = .next s) (sa25_0) (Ra25_0) ?_ fun s25_0 hs25_0 => ?_
    · refine WI_blk (by kernel_rfl) ?_
      refine WI_while (by kernel_rfl) (F25_l0 x0 x1 x2) (st25_0 x2) (R25_0 x0 x1) k25_0 403 ((-1), 0) hm25_0 rfl rfl fun s25_0 k25_0b h hb25_0 hr25_0 => ?_
      unfold F25_l0 at h
      rcases boolC (decide (s25_0.2 ≤ 400)) with h2 | h2
      · replace h := condT h2 h
        refine WI_stop (bs := [(decide (s25_0.2 ≤ 400), true)]) mixed [0, 1, 2, 3, 4, 6, 7, 8, 9, 15, 17, 31] 35 [true] [.call 20 [.agg [I x0.Place.X, I x0.Place.Y, I x0.Yellow, I x0.Red], .agg [I x1.Point.X, I x1.Point.Y, I (w64 (x1.Bound + (w64 (s25_0.2 * x2)))), I x1.Time, I x1.State]] [] (.d (I (F20 x0 (⟨x1.Point, w64 (x1.Bound + (w64 (s25_0.2 * x2))), x1.Time, x1.State⟩ : api_Estimate)))) [] []] [] 0 [0, 1] [(2, .d (I x2)), (3, .d (.o 0 0)), (4, .d (.o 1 0)), (6, .d (I 0)), (7, .d (I s25_0.1)), (8, .d (I s25_0.2)), (31, .d (Bo (c25_3 x0 x1 x2 s25_0)))] [.box 26 [I x0.Place.X, I x0.Place.Y, I x0.Yellow, I x0.Red], .box 28 [I x1.Point.X, I x1.Point.Y, I x1.Bound, I x1.Time, I x1.State]] hC ⟨⟨e20, k20 x0 (⟨x1.Point, w64 (x1.Bound + (w64 (s25_0.2 * x2))), x1.Time, x1.State⟩ : api_Estimate) _ rfl⟩, trivial⟩ ⟨h2, trivial⟩ (by kernel_rfl) ?_
        rcases boolC ((c25_3 x0 x1 x2 s25_0)) with h3 | h3
        · replace h := condT h3 h
          exact WI_end (bs := [((c25_3 x0 x1 x2 s25_0), true)]) (φ := fun s' => k25_0 = .next s') (st' := (sa25_0)) (R' := (Ra25_0)) mixed [0, 1, 2, 3, 4, 6, 7, 8, 9, 15, 17, 31] 22 [true] [] [] 0 [] (s25_0.1, s25_0.2) hC trivial ⟨h3, trivial⟩ (by kernel_rfl) (by kernel_rfl) (hb25_0 _ (Option.some.inj h).symm)
        · replace h := condF h3 h
          exact WI_end (bs := [((c25_3 x0 x1 x2 s25_0), false)]) (φ := fun s' => k25_0b = .next s') (st' := (st25_0 x2)) (R' := (R25_0 x0 x1)) mixed [0, 1, 2, 3, 4, 6, 7, 8, 9, 15, 17, 31] 25 [false] [] [] 0 [0, 1] (s25_0.2, w64 (s25_0.2 + 1)) hC trivial ⟨h3, trivial⟩ (by kernel_rfl) (by kernel_rfl) (Option.some.inj h).symm
      · replace h := condF h2 h
        exact WI_end (bs := [(decide (s25_0.2 ≤ 400), false)]) (φ := fun s' => k25_0 = .next s') (st' := (sa25_0)) (R' := (Ra25_0)) mixed [0, 1, 2, 3, 4, 6, 7, 8, 9, 15, 17, 31] 26 [false] [] [] 0 [] (s25_0.1, s25_0.2) hC trivial ⟨h2, trivial⟩ (by kernel_rfl) (by kernel_rfl) (hb25_0 _ (Option.some.inj h).symm)
    · have h := hnext25_0 _ hs25_0
      replace h := Option.some.inj h
      subst h
      exact WI_ret (bs := []) mixed [0, 1, 2, 3, 4, 6, 7, 8, 9, 15, 17, 31] 23 [] [] [] [.tmp 6] 0 [] rfl hC trivial trivial (by kernel_rfl)
theorem e25 : Enters Try.prog 25 := enters_of Try.func25 (by kernel_rfl) (by kernel_rfl)
end Go.Proofs.Ytakbldjmgfcipaa
