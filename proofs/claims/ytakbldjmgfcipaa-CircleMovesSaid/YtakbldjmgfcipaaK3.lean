import Derived.Test.YtakbldjmgfcipaaRows
import Derived.Test.YtakbldjmgfcipaaK2
set_option linter.unusedVariables false
namespace Go.Proofs.Ytakbldjmgfcipaa
open Go.SL
theorem k37 (x0 : dynposmake_Src) (x1 : Int) (x2 : Int) (r : Int × dynposmake_Src) (h : F37 x0 x1 x2 = some r) : CallOk Try.prog 37 [.d (.o 0 0), .d (I x1), .d (I x2)] [.box 53 [.p (.s (x0.L.map pI)), I x0.At]] (.d (I r.1)) [.box 53 [.p (.s (r.2.L.map pI)), I r.2.At]] := by
  unfold F37 at h
  refine callOk_of 15 Try.func37 rfl rfl rfl fun C hC => ?_
  obtain ⟨y1, h2, h⟩ := bindE h
  replace h := Option.some.inj h
  subst h
  exact WI_ret (bs := []) mixed [0, 1, 2, 6] 25 [] [.call 28 [.d (.o 0 0), .d (I (w64 ((w64 (x2 - x1)) + 1)))] [.box 53 [.p (.s (x0.L.map pI)), I x0.At]] (.d (I y1.1)) [.box 53 [.p (.s (y1.2.L.map pI)), I y1.2.At]] [0]] [] [.tmp 6] 1 [0] rfl hC ⟨⟨e28, k28 x0 (w64 ((w64 (x2 - x1)) + 1)) _ h2⟩, trivial⟩ trivial (by kernel_rfl)
theorem e37 : Enters Try.prog 37 := enters_of Try.func37 (by kernel_rfl) (by kernel_rfl)
theorem k26 (x0 : dynposmake_Src) (r : api_Estimate × dynposmake_Src) (h : F26 x0 = some r) : CallOk Try.prog 26 [.d (.o 0 0)] [.box 53 [.p (.s (x0.L.map pI)), I x0.At]] (.agg [I r.1.Point.X, I r.1.Point.Y, I r.1.Bound, I r.1.Time, I r.1.State]) [.box 53 [.p (.s (r.2.L.map pI)), I r.2.At]] := by
  unfold F26 at h
  refine callOk_of 10 Try.func26 rfl rfl rfl fun C hC => ?_
  obtain ⟨y1, h2, h⟩ := bindE h
  obtain ⟨y3, h4, h⟩ := bindE h
  replace h := Option.some.inj h
  subst h
  exact WI_ret (bs := []) mixed [0, 2, 3] 29 [] [.call 14 [.d (.o 0 0), .d (I 0)] [.box 53 [.p (.s (x0.L.map pI)), I x0.At]] (.agg [I y1.1.Point.X, I y1.1.Point.Y, I y1.1.Bound, I y1.1.Time, I y1.1.State]) [.box 53 [.p (.s (y1.2.L.map pI)), I y1.2.At]] [0], .call 37 [.d (.o 0 0), .d (I 1), .d (I 2)] [.box 53 [.p (.s (y1.2.L.map pI)), I y1.2.At]] (.d (I y3.1)) [.box 53 [.p (.s (y3.2.L.map pI)), I y3.2.At]] [0]] [] [.cell 2 28] 1 [0] rfl hC ⟨⟨e14, k14 x0 0 _ h2⟩, ⟨e37, k37 y1.2 1 2 _ h4⟩, trivial⟩ trivial (by kernel_rfl)
theorem e26 : Enters Try.prog 26 := enters_of Try.func26 (by kernel_rfl) (by kernel_rfl)
theorem k4 (x0 : List Int) (x1 : Int) (x2 : Int) (r : Bool) (h : F4 x0 x1 x2 = some r) : CallOk Try.prog 4 [.d (.p (.s (x0.map pI))), .d (I x1), .d (I x2)] [] (.d (Bo r)) [] := by
  unfold F4 at h
  refine callOk_of 79 Try.func4 rfl rfl rfl fun C hC => ?_
  rcases boolC (decide ((x0.length : Int) > 600)) with h1 | h1
  · replace h := condT h1 h
    obtain ⟨y2, h3, h⟩ := bindE h
    replace h := Option.some.inj h
    subst h
    exact WI_ret (bs := [(decide ((x0.length : Int) > 600), true)]) mixed [0, 1, 2, 6, 7, 8, 9, 10, 11, 14] 29 [true] [.len ((x0.map pI).length : Int) (x0.length : Int), .call 9 [] [] (.d (Bo y2)) [] []] [] [.tmp 6] 0 [] rfl hC ⟨len_map _ _, ⟨e9, k9  _ h3⟩, trivial⟩ ⟨h1, trivial⟩ (by kernel_rfl)
  · replace h := condF h1 h
    obtain ⟨y4, h5, h⟩ := bindE h
    obtain ⟨y6, h7, h⟩ := bindE h
    obtain ⟨y8, h9, h⟩ := bindE h
    obtain ⟨y10, h11, h⟩ := bindE h
    obtain ⟨y12, h13, h⟩ := bindE h
    obtain ⟨y14, h15, h⟩ := bindE h
    obtain ⟨y16, h17, h⟩ := bindE h
    obtain ⟨y18, h19, h⟩ := bindE h
    obtain ⟨y20, h21, h⟩ := bindE h
    obtain ⟨y22, h23, h⟩ := bindE h
    replace h := Option.some.inj h
    subst h
    exact WI_ret (bs := [(decide ((x0.length : Int) > 600), false)]) mixed [0, 1, 2, 6, 7, 8, 9, 10, 11, 14] 44 [false] [.len ((x0.map pI).length : Int) (x0.length : Int), .call 10 [.d (.p (.s (x0.map pI)))] [] (.d (.o 0 0)) [.box 53 [.p (.s (y4.L.map pI)), I y4.At]] [], .call 11 [.d (.o 0 0)] [.box 53 [.p (.s (y4.L.map pI)), I y4.At]] (.agg [I y6.1.Place.X, I y6.1.Place.Y, I y6.1.Yellow, I y6.1.Red]) [.box 53 [.p (.s (y6.2.L.map pI)), I y6.2.At]] [0], .call 26 [.d (.o 0 0)] [.box 53 [.p (.s (y6.2.L.map pI)), I y6.2.At]] (.agg [I y8.1.Point.X, I y8.1.Point.Y, I y8.1.Bound, I y8.1.Time, I y8.1.State]) [.box 53 [.p (.s (y8.2.L.map pI)), I y8.2.At]] [0], .call 27 [.d (I x1), .d (I (w64 ((w64 (2 * y8.1.Bound)) + 1)))] [] (.d (I y10)) [] [], .call 27 [.d (I x2), .d (I (w64 ((w64 (2 * y8.1.Bound)) + 1)))] [] (.d (I y12)) [] [], .call 19 [.agg [I y6.1.Place.X, I y6.1.Place.Y, I y6.1.Yellow, I y6.1.Red], .agg [I (w64 (y8.1.Point.X + (w64 (y10 - y8.1.Bound)))), I (w64 (y8.1.Point.Y + (w64 (y12 - y8.1.Bound)))), I 0, I y8.1.Time, I y8.1.State]] [] (.d (I y14)) [] [], .call 21 [.agg [I y6.1.Place.X, I y6.1.Place.Y, I y6.1.Yellow, I y6.1.Red], .agg [I (w64 (y8.1.Point.X + (w64 (y10 - y8.1.Bound)))), I (w64 (y8.1.Point.Y + (w64 (y12 - y8.1.Bound)))), I 0, I y8.1.Time, I y8.1.State]] [] (.d (I y16)) [] [], .when [((y14 == y16), true)] (.call 21 [.agg [I y6.1.Place.X, I y6.1.Place.Y, I y6.1.Yellow, I y6.1.Red], .agg [I y8.1.Point.X, I y8.1.Point.Y, I y8.1.Bound, I y8.1.Time, I y8.1.State]] [] (.d (I y18)) [] []), .when [(((y14 == y16) && (decide (y14 ≥ y18))), true)] (.call 19 [.agg [I y6.1.Place.X, I y6.1.Place.Y, I y6.1.Yellow, I y6.1.Red], .agg [I y8.1.Point.X, I y8.1.Point.Y, I y8.1.Bound, I y8.1.Time, I y8.1.State]] [] (.d (I y20)) [] []), .when [((((y14 == y16) && (decide (y14 ≥ y18))) && (decide (y14 ≤ y20))), true)] (.call 9 [] [] (.d (Bo y22)) [] [])] [] [.tmp 6] 0 [] rfl hC ⟨len_map _ _, ⟨e10, k10 x0 _ h5⟩, ⟨e11, k11 y4 _ h7⟩, ⟨e26, k26 y6.2 _ h9⟩, ⟨e27, k27 x1 (w64 ((w64 (2 * y8.1.Bound)) + 1)) _ h11⟩, ⟨e27, k27 x2 (w64 ((w64 (2 * y8.1.Bound)) + 1)) _ h13⟩, ⟨e19, k19 y6.1 (⟨(⟨w64 (y8.1.Point.X + (w64 (y10 - y8.1.Bound))), w64 (y8.1.Point.Y + (w64 (y12 - y8.1.Bound)))⟩ : api_Point), 0, y8.1.Time, y8.1.State⟩ : api_Estimate) _ h15⟩, ⟨e21, k21 y6.1 (⟨(⟨w64 (y8.1.Point.X + (w64 (y10 - y8.1.Bound))), w64 (y8.1.Point.Y + (w64 (y12 - y8.1.Bound)))⟩ : api_Point), 0, y8.1.Time, y8.1.State⟩ : api_Estimate) _ h17⟩, fun hg => ⟨e21, k21 y6.1 y8.1 _ (guardO_get h19 hg)⟩, fun hg => ⟨e19, k19 y6.1 y8.1 _ (guardO_get h21 hg)⟩, fun hg => ⟨e9, k9  _ (guardO_get h23 hg)⟩, trivial⟩ ⟨h1, trivial⟩ (by kernel_rfl)
theorem e4 : Enters Try.prog 4 := enters_of Try.func4 (by kernel_rfl) (by kernel_rfl)
theorem k5 (x0 : List Int) (x1 : Int) (r : Bool) (h : F5 x0 x1 = some r) : CallOk Try.prog 5 [.d (.p (.s (x0.map pI))), .d (.p (.v (.int .u16 x1)))] [] (.d (Bo r)) [] := by
  unfold F5 at h
  refine callOk_of 80 Try.func5 rfl rfl rfl fun C hC => ?_
  rcases boolC (decide ((x0.length : Int) > 600)) with h1 | h1
  · replace h := condT h1 h
    obtain ⟨y2, h3, h⟩ := bindE h
    replace h := Option.some.inj h
    subst h
    exact WI_ret (bs := [(decide ((x0.length : Int) > 600), true)]) mixed [0, 1, 4, 5, 6, 7, 8, 9, 12] 29 [true] [.len ((x0.map pI).length : Int) (x0.length : Int), .call 9 [] [] (.d (Bo y2)) [] []] [] [.tmp 4] 0 [] rfl hC ⟨len_map _ _, ⟨e9, k9  _ h3⟩, trivial⟩ ⟨h1, trivial⟩ (by kernel_rfl)
  · replace h := condF h1 h
    obtain ⟨y4, h5, h⟩ := bindE h
    obtain ⟨y6, h7, h⟩ := bindE h
    obtain ⟨y8, h9, h⟩ := bindE h
    obtain ⟨y10, h11, h⟩ := bindE h
    obtain ⟨y12, h13, h⟩ := bindE h
    obtain ⟨y14, h15, h⟩ := bindE h
    obtain ⟨y16, h17, h⟩ := bindE h
    obtain ⟨y18, h19, h⟩ := bindE h
    obtain ⟨y20, h21, h⟩ := bindE h
    obtain ⟨y22, h23, h⟩ := bindE h
    obtain ⟨y24, h25, h⟩ := bindE h
    obtain ⟨y26, h27, h⟩ := bindE h
    obtain ⟨y28, h29, h⟩ := bindE h
    obtain ⟨y30, h31, h⟩ := bindE h
    replace h := Option.some.inj h
    subst h
    exact WI_ret (bs := [(decide ((x0.length : Int) > 600), false)]) mixed [0, 1, 4, 5, 6, 7, 8, 9, 12] 44 [false] [.len ((x0.map pI).length : Int) (x0.length : Int), .call 10 [.d (.p (.s (x0.map pI)))] [] (.d (.o 0 0)) [.box 53 [.p (.s (y4.L.map pI)), I y4.At]] [], .call 11 [.d (.o 0 0)] [.box 53 [.p (.s (y4.L.map pI)), I y4.At]] (.agg [I y6.1.Place.X, I y6.1.Place.Y, I y6.1.Yellow, I y6.1.Red]) [.box 53 [.p (.s (y6.2.L.map pI)), I y6.2.At]] [0], .call 26 [.d (.o 0 0)] [.box 53 [.p (.s (y6.2.L.map pI)), I y6.2.At]] (.agg [I y8.1.Point.X, I y8.1.Point.Y, I y8.1.Bound, I y8.1.Time, I y8.1.State]) [.box 53 [.p (.s (y8.2.L.map pI)), I y8.2.At]] [0], .call 28 [.d (.o 0 0), .d (I 500)] [.box 53 [.p (.s (y8.2.L.map pI)), I y8.2.At]] (.d (I y10.1)) [.box 53 [.p (.s (y10.2.L.map pI)), I y10.2.At]] [0], .call 28 [.d (.o 0 0), .d (I 500)] [.box 53 [.p (.s (y10.2.L.map pI)), I y10.2.At]] (.d (I y12.1)) [.box 53 [.p (.s (y12.2.L.map pI)), I y12.2.At]] [0], .call 19 [.agg [I y6.1.Place.X, I y6.1.Place.Y, I y6.1.Yellow, I y6.1.Red], .agg [I y8.1.Point.X, I y8.1.Point.Y, I (w64 (y8.1.Bound + (w64 x1))), I y8.1.Time, I y8.1.State]] [] (.d (I y14)) [] [], .call 19 [.agg [I y6.1.Place.X, I y6.1.Place.Y, I y6.1.Yellow, I y6.1.Red], .agg [I y8.1.Point.X, I y8.1.Point.Y, I y8.1.Bound, I y8.1.Time, I y8.1.State]] [] (.d (I y16)) [] [], .when [(decide (y14 ≥ y16), true)] (.call 21 [.agg [I y6.1.Place.X, I y6.1.Place.Y, I y6.1.Yellow, I y6.1.Red], .agg [I y8.1.Point.X, I y8.1.Point.Y, I (w64 (y8.1.Bound + (w64 x1))), I y8.1.Time, I y8.1.State]] [] (.d (I y18)) [] []), .when [(decide (y14 ≥ y16), true)] (.call 21 [.agg [I y6.1.Place.X, I y6.1.Place.Y, I y6.1.Yellow, I y6.1.Red], .agg [I y8.1.Point.X, I y8.1.Point.Y, I y8.1.Bound, I y8.1.Time, I y8.1.State]] [] (.d (I y20)) [] []), .when [(((decide (y14 ≥ y16)) && (decide (y18 ≤ y20))), true)] (.call 21 [.agg [I y6.1.Place.X, I y6.1.Place.Y, I y6.1.Yellow, I y6.1.Red], .agg [I y8.1.Point.X, I y8.1.Point.Y, I y8.1.Bound, I y8.1.Time, I y8.1.State]] [] (.d (I y22)) [] []), .when [(((decide (y14 ≥ y16)) && (decide (y18 ≤ y20))), true)] (.call 19 [.agg [I y6.1.Place.X, I y6.1.Place.Y, I y6.1.Yellow, I y6.1.Red], .agg [I y8.1.Point.X, I y8.1.Point.Y, I y8.1.Bound, I y8.1.Time, I y8.1.State]] [] (.d (I y24)) [] []), .when [((((decide (y14 ≥ y16)) && (decide (y18 ≤ y20))) && (decide (y22 ≤ y24))), true)] (.call 19 [.agg [I y6.1.Place.X, I y6.1.Place.Y, I (min (w64 (y6.1.Red + y10.1)) (w64 (y6.1.Yellow + y12.1))), I (w64 (y6.1.Red + y10.1))], .agg [I y8.1.Point.X, I y8.1.Point.Y, I y8.1.Bound, I y8.1.Time, I y8.1.State]] [] (.d (I y26)) [] []), .when [((((decide (y14 ≥ y16)) && (decide (y18 ≤ y20))) && (decide (y22 ≤ y24))), true)] (.call 19 [.agg [I y6.1.Place.X, I y6.1.Place.Y, I y6.1.Yellow, I y6.1.Red], .agg [I y8.1.Point.X, I y8.1.Point.Y, I y8.1.Bound, I y8.1.Time, I y8.1.State]] [] (.d (I y28)) [] []), .when [(((((decide (y14 ≥ y16)) && (decide (y18 ≤ y20))) && (decide (y22 ≤ y24))) && (decide (y26 ≤ y28))), true)] (.call 9 [] [] (.d (Bo y30)) [] [])] [] [.tmp 4] 0 [] rfl hC ⟨len_map _ _, ⟨e10, k10 x0 _ h5⟩, ⟨e11, k11 y4 _ h7⟩, ⟨e26, k26 y6.2 _ h9⟩, ⟨e28, k28 y8.2 500 _ h11⟩, ⟨e28, k28 y10.2 500 _ h13⟩, ⟨e19, k19 y6.1 (⟨y8.1.Point, w64 (y8.1.Bound + (w64 x1)), y8.1.Time, y8.1.State⟩ : api_Estimate) _ h15⟩, ⟨e19, k19 y6.1 y8.1 _ h17⟩, fun hg => ⟨e21, k21 y6.1 (⟨y8.1.Point, w64 (y8.1.Bound + (w64 x1)), y8.1.Time, y8.1.State⟩ : api_Estimate) _ (guardO_get h19 hg)⟩, fun hg => ⟨e21, k21 y6.1 y8.1 _ (guardO_get h21 hg)⟩, fun hg => ⟨e21, k21 y6.1 y8.1 _ (guardO_get h23 hg)⟩, fun hg => ⟨e19, k19 y6.1 y8.1 _ (guardO_get h25 hg)⟩, fun hg => ⟨e19, k19 (⟨y6.1.Place, min (w64 (y6.1.Red + y10.1)) (w64 (y6.1.Yellow + y12.1)), w64 (y6.1.Red + y10.1)⟩ : api_Circle) y8.1 _ (guardO_get h27 hg)⟩, fun hg => ⟨e19, k19 y6.1 y8.1 _ (guardO_get h29 hg)⟩, fun hg => ⟨e9, k9  _ (guardO_get h31 hg)⟩, trivial⟩ ⟨h1, trivial⟩ (by kernel_rfl)
theorem e5 : Enters Try.prog 5 := enters_of Try.func5 (by kernel_rfl) (by kernel_rfl)
theorem k6 (x0 : List Int) (x1 : Int) (r : Bool) (h : F6 x0 x1 = some r) : CallOk Try.prog 6 [.d (.p (.s (x0.map pI))), .d (.p (.v (.int .u16 x1)))] [] (.d (Bo r)) [] := by
  unfold F6 at h
  refine callOk_of 73 Try.func6 rfl rfl rfl fun C hC => ?_
  rcases boolC (decide ((x0.length : Int) > 600)) with h1 | h1
  · replace h := condT h1 h
    obtain ⟨y2, h3, h⟩ := bindE h
    replace h := Option.some.inj h
    subst h
    exact WI_ret (bs := [(decide ((x0.length : Int) > 600), true)]) mixed [0, 1, 4, 5, 6, 7, 8, 9, 10, 13, 29, 48] 29 [true] [.len ((x0.map pI).length : Int) (x0.length : Int), .call 9 [] [] (.d (Bo y2)) [] []] [] [.tmp 4] 0 [] rfl hC ⟨len_map _ _, ⟨e9, k9  _ h3⟩, trivial⟩ ⟨h1, trivial⟩ (by kernel_rfl)
  · replace h := condF h1 h
    obtain ⟨y4, h5, h⟩ := bindE h
    obtain ⟨y6, h7, h⟩ := bindE h
    obtain ⟨y8, h9, h⟩ := bindE h
    obtain ⟨y10, h11, h⟩ := bindE h
    refine WI_stop (bs := [(decide ((x0.length : Int) > 600), false)]) mixed [0, 1, 4, 5, 6, 7, 8, 9, 10, 13, 29, 48] 39 [false] [.len ((x0.map pI).length : Int) (x0.length : Int), .call 10 [.d (.p (.s (x0.map pI)))] [] (.d (.o 0 0)) [.box 53 [.p (.s (y4.L.map pI)), I y4.At]] [], .call 11 [.d (.o 0 0)] [.box 53 [.p (.s (y4.L.map pI)), I y4.At]] (.agg [I y6.1.Place.X, I y6.1.Place.Y, I y6.1.Yellow, I y6.1.Red]) [.box 53 [.p (.s (y6.2.L.map pI)), I y6.2.At]] [0], .call 26 [.d (.o 0 0)] [.box 53 [.p (.s (y6.2.L.map pI)), I y6.2.At]] (.agg [I y8.1.Point.X, I y8.1.Point.Y, I y8.1.Bound, I y8.1.Time, I y8.1.State]) [.box 53 [.p (.s (y8.2.L.map pI)), I y8.2.At]] [0], .nz 1001, .call 24 [.agg [I y6.1.Place.X, I y6.1.Place.Y, I y6.1.Yellow, I y6.1.Red], .agg [I y8.1.Point.X, I y8.1.Point.Y, I y8.1.Bound, I y8.1.Time, I y8.1.State], .d (I (Int.tmod (w64 x1) 1001))] [] (.d (I y10)) [] []] [] 0 [1, 2] [(4, .d (Bo false)), (6, .d (.o 0 0)), (7, .d (.o 1 0)), (8, .d (I (Int.tmod (w64 x1) 1001))), (9, .d (I y10)), (29, .d (Bo (decide (y10 < 0))))] [.box 26 [I y6.1.Place.X, I y6.1.Place.Y, I y6.1.Yellow, I y6.1.Red], .box 28 [I y8.1.Point.X, I y8.1.Point.Y, I y8.1.Bound, I y8.1.Time, I y8.1.State]] hC ⟨len_map _ _, ⟨e10, k10 x0 _ h5⟩, ⟨e11, k11 y4 _ h7⟩, ⟨e26, k26 y6.2 _ h9⟩, nz_lit rfl, ⟨e24, k24 y6.1 y8.1 (Int.tmod (w64 x1) 1001) _ h11⟩, trivial⟩ ⟨h1, trivial⟩ (by kernel_rfl) ?_
    rcases boolC (decide (y10 < 0)) with h12 | h12
    · replace h := condT h12 h
      obtain ⟨y13, h14, h⟩ := bindE h
      obtain ⟨y15, h16, h⟩ := bindE h
      replace h := Option.some.inj h
      subst h
      exact WI_ret (bs := [(decide (y10 < 0), true)]) mixed [0, 1, 4, 5, 6, 7, 8, 9, 10, 13, 29, 48] 23 [true] [.call 19 [.agg [I y6.1.Place.X, I y6.1.Place.Y, I y6.1.Yellow, I y6.1.Red], .agg [I y8.1.Point.X, I y8.1.Point.Y, I y8.1.Bound, I y8.1.Time, I y8.1.State]] [] (.d (I y13)) [] [], .when [((y13 == 3), true)] (.call 9 [] [] (.d (Bo y15)) [] [])] [] [.tmp 4] 0 [] rfl hC ⟨⟨e19, k19 y6.1 y8.1 _ h14⟩, fun hg => ⟨e9, k9  _ (guardO_get h16 hg)⟩, trivial⟩ ⟨h12, trivial⟩ (by kernel_rfl)
    · replace h := condF h12 h
      obtain ⟨y17, h18, h⟩ := bindE h
      refine WI_stop (bs := [(decide (y10 < 0), false)]) mixed [0, 1, 4, 5, 6, 7, 8, 9, 10, 13, 29, 48] 29 [false] [.call 19 [.agg [I y6.1.Place.X, I y6.1.Place.Y, I y6.1.Yellow, I y6.1.Red], .agg [I y8.1.Point.X, I y8.1.Point.Y, I (w64 (y8.1.Bound + (w64 (y10 * (Int.tmod (w64 x1) 1001))))), I y8.1.Time, I y8.1.State]] [] (.d (I y17)) [] []] [] 0 [0, 2] [(4, .d (Bo false)), (6, .d (.o 0 0)), (8, .d (I (Int.tmod (w64 x1) 1001))), (9, .d (I y10)), (10, .d (.o 1 0)), (48, .d (Bo (y17 == 3)))] [.box 26 [I y6.1.Place.X, I y6.1.Place.Y, I y6.1.Yellow, I y6.1.Red], .box 28 [I y8.1.Point.X, I y8.1.Point.Y, I (w64 (y8.1.Bound + (w64 (y10 * (Int.tmod (w64 x1) 1001))))), I y8.1.Time, I y8.1.State]] hC ⟨⟨e19, k19 y6.1 (⟨y8.1.Point, w64 (y8.1.Bound + (w64 (y10 * (Int.tmod (w64 x1) 1001)))), y8.1.Time, y8.1.State⟩ : api_Estimate) _ h18⟩, trivial⟩ ⟨h12, trivial⟩ (by kernel_rfl) ?_
      rcases boolC ((y17 == 3)) with h19 | h19
      · replace h := condT h19 h
        replace h := Option.some.inj h
        subst h
        exact WI_ret (bs := [((y17 == 3), true)]) mixed [0, 1, 4, 5, 6, 7, 8, 9, 10, 13, 29, 48] 23 [true] [] [] [.tmp 4] 0 [] rfl hC trivial ⟨h19, trivial⟩ (by kernel_rfl)
      · replace h := condF h19 h
        obtain ⟨y20, h21, h⟩ := bindE h
        obtain ⟨y22, h23, h⟩ := bindE h
        replace h := Option.some.inj h
        subst h
        exact WI_ret (bs := [((y17 == 3), false)]) mixed [0, 1, 4, 5, 6, 7, 8, 9, 10, 13, 29, 48] 26 [false] [.when [((y10 == 400), false)] (.call 19 [.agg [I y6.1.Place.X, I y6.1.Place.Y, I y6.1.Yellow, I y6.1.Red], .agg [I y8.1.Point.X, I y8.1.Point.Y, I (w64 ((w64 (y8.1.Bound + (w64 (y10 * (Int.tmod (w64 x1) 1001))))) + (Int.tmod (w64 x1) 1001))), I y8.1.Time, I y8.1.State]] [] (.d (I y20)) [] []), .when [((((y10 == 400) || (y20 == 3)) && ((decide ((Int.tmod (w64 x1) 1001) > 0)) || (y10 == 400))), true)] (.call 9 [] [] (.d (Bo y22)) [] [])] [] [.tmp 4] 0 [] rfl hC ⟨fun hg => ⟨e19, k19 y6.1 (⟨y8.1.Point, w64 ((w64 (y8.1.Bound + (w64 (y10 * (Int.tmod (w64 x1) 1001))))) + (Int.tmod (w64 x1) 1001)), y8.1.Time, y8.1.State⟩ : api_Estimate) _ (guardO_get h21 hg)⟩, fun hg => ⟨e9, k9  _ (guardO_get h23 hg)⟩, trivial⟩ ⟨h19, trivial⟩ (by kernel_rfl)
theorem e6 : Enters Try.prog 6 := enters_of Try.func6 (by kernel_rfl) (by kernel_rfl)
theorem k7 (x0 : List Int) (x1 : Int) (x2 : Int) (r : Bool) (h : F7 x0 x1 x2 = some r) : CallOk Try.prog 7 [.d (.p (.s (x0.map pI))), .d (.p (.v (.int .i16 x1))), .d (.p (.v (.int .i16 x2)))] [] (.d (Bo r)) [] := by
  unfold F7 at h
  refine callOk_of 109 Try.func7 rfl rfl rfl fun C hC => ?_
  rcases boolC (decide ((x0.length : Int) > 600)) with h1 | h1
  · replace h := condT h1 h
    obtain ⟨y2, h3, h⟩ := bindE h
    replace h := Option.some.inj h
    subst h
    exact WI_ret (bs := [(decide ((x0.length : Int) > 600), true)]) mixed [0, 1, 2, 6, 7, 8, 9, 10, 11, 12, 13, 16] 29 [true] [.len ((x0.map pI).length : Int) (x0.length : Int), .call 9 [] [] (.d (Bo y2)) [] []] [] [.tmp 6] 0 [] rfl hC ⟨len_map _ _, ⟨e9, k9  _ h3⟩, trivial⟩ ⟨h1, trivial⟩ (by kernel_rfl)
  · replace h := condF h1 h
    obtain ⟨y4, h5, h⟩ := bindE h
    obtain ⟨y6, h7, h⟩ := bindE h
    obtain ⟨y8, h9, h⟩ := bindE h
    obtain ⟨y10, h11, h⟩ := bindE h
    obtain ⟨y12, h13, h⟩ := bindE h
    obtain ⟨y14, h15, h⟩ := bindE h
    obtain ⟨y16, h17, h⟩ := bindE h
    obtain ⟨y18, h19, h⟩ := bindE h
    obtain ⟨y20, h21, h⟩ := bindE h
    obtain ⟨y22, h23, h⟩ := bindE h
    obtain ⟨y24, h25, h⟩ := bindE h
    obtain ⟨y26, h27, h⟩ := bindE h
    replace h := Option.some.inj h
    subst h
    exact WI_ret (bs := [(decide ((x0.length : Int) > 600), false)]) mixed [0, 1, 2, 6, 7, 8, 9, 10, 11, 12, 13, 16] 42 [false] [.len ((x0.map pI).length : Int) (x0.length : Int), .call 10 [.d (.p (.s (x0.map pI)))] [] (.d (.o 0 0)) [.box 53 [.p (.s (y4.L.map pI)), I y4.At]] [], .call 11 [.d (.o 0 0)] [.box 53 [.p (.s (y4.L.map pI)), I y4.At]] (.agg [I y6.1.Place.X, I y6.1.Place.Y, I y6.1.Yellow, I y6.1.Red]) [.box 53 [.p (.s (y6.2.L.map pI)), I y6.2.At]] [0], .call 26 [.d (.o 0 0)] [.box 53 [.p (.s (y6.2.L.map pI)), I y6.2.At]] (.agg [I y8.1.Point.X, I y8.1.Point.Y, I y8.1.Bound, I y8.1.Time, I y8.1.State]) [.box 53 [.p (.s (y8.2.L.map pI)), I y8.2.At]] [0], .flts [.box 26 [I 0, I 0, I 0, I 0], .box 28 [I 0, I 0, I 0, I 0, I 0]], .flt 3 (.box 26 [I 0, I 0, I 0, I 0]) (.box 26 [I 0, I 0, I 0, I 0]), .flt 4 (.box 28 [I 0, I 0, I 0, I 0, I 0]) (.box 28 [I 0, I 0, I 0, I 0, I 0]), .flts [.box 26 [I 0, I 0, I 0, I 0], .box 28 [I 0, I 0, I 0, I 0, I 0]], .flt 5 (.box 26 [I 0, I 0, I 0, I 0]) (.box 26 [I 0, I 0, I 0, I 0]), .flt 6 (.box 28 [I 0, I 0, I 0, I 0, I 0]) (.box 28 [I 0, I 0, I 0, I 0, I 0]), .call 15 [.agg [I y6.1.Place.X, I y6.1.Place.Y, I y6.1.Yellow, I y6.1.Red], .agg [I y8.1.Point.X, I y8.1.Point.Y, I y8.1.Bound, I y8.1.Time, I y8.1.State]] [] (.d (I y10)) [] [], .call 15 [.agg [I (w64 (y6.1.Place.X + (w64 x1))), I (w64 (y6.1.Place.Y + (w64 x2))), I y6.1.Yellow, I y6.1.Red], .agg [I (w64 (y8.1.Point.X + (w64 x1))), I (w64 (y8.1.Point.Y + (w64 x2))), I y8.1.Bound, I y8.1.Time, I y8.1.State]] [] (.d (I y12)) [] [], .when [((y10 == y12), true)] (.call 17 [.agg [I y6.1.Place.X, I y6.1.Place.Y, I y6.1.Yellow, I y6.1.Red], .agg [I y8.1.Point.X, I y8.1.Point.Y, I y8.1.Bound, I y8.1.Time, I y8.1.State]] [] (.d (I y14)) [] []), .when [((y10 == y12), true)] (.call 17 [.agg [I (w64 (y6.1.Place.X + (w64 x1))), I (w64 (y6.1.Place.Y + (w64 x2))), I y6.1.Yellow, I y6.1.Red], .agg [I (w64 (y8.1.Point.X + (w64 x1))), I (w64 (y8.1.Point.Y + (w64 x2))), I y8.1.Bound, I y8.1.Time, I y8.1.State]] [] (.d (I y16)) [] []), .when [(((y10 == y12) && (y14 == y16)), true)] (.call 15 [.agg [I y6.1.Place.X, I y6.1.Place.Y, I y6.1.Yellow, I y6.1.Red], .agg [I y8.1.Point.X, I y8.1.Point.Y, I y8.1.Bound, I y8.1.Time, I y8.1.State]] [] (.d (I y18)) [] []), .when [(((y10 == y12) && (y14 == y16)), true)] (.call 15 [.agg [I (w64 (0 - y6.1.Place.X)), I y6.1.Place.Y, I y6.1.Yellow, I y6.1.Red], .agg [I (w64 (0 - y8.1.Point.X)), I y8.1.Point.Y, I y8.1.Bound, I y8.1.Time, I y8.1.State]] [] (.d (I y20)) [] []), .when [((((y10 == y12) && (y14 == y16)) && (y18 == y20)), true)] (.call 19 [.agg [I y6.1.Place.X, I y6.1.Place.Y, I y6.1.Yellow, I y6.1.Red], .agg [I y8.1.Point.X, I y8.1.Point.Y, I y8.1.Bound, I y8.1.Time, I y8.1.State]] [] (.d (I y22)) [] []), .when [((((y10 == y12) && (y14 == y16)) && (y18 == y20)), true)] (.call 19 [.agg [I (w64 (0 - y6.1.Place.X)), I y6.1.Place.Y, I y6.1.Yellow, I y6.1.Red], .agg [I (w64 (0 - y8.1.Point.X)), I y8.1.Point.Y, I y8.1.Bound, I y8.1.Time, I y8.1.State]] [] (.d (I y24)) [] []), .when [(((((y10 == y12) && (y14 == y16)) && (y18 == y20)) && (y22 == y24)), true)] (.call 9 [] [] (.d (Bo y26)) [] [])] [] [.tmp 6] 0 [] rfl hC ⟨len_map _ _, ⟨e10, k10 x0 _ h5⟩, ⟨e11, k11 y4 _ h7⟩, ⟨e26, k26 y6.2 _ h9⟩, trivial, rfl, rfl, trivial, rfl, rfl, ⟨e15, k15 y6.1 y8.1 _ h11⟩, ⟨e15, k15 (⟨(⟨w64 (y6.1.Place.X + (w64 x1)), w64 (y6.1.Place.Y + (w64 x2))⟩ : api_Point), y6.1.Yellow, y6.1.Red⟩ : api_Circle) (⟨(⟨w64 (y8.1.Point.X + (w64 x1)), w64 (y8.1.Point.Y + (w64 x2))⟩ : api_Point), y8.1.Bound, y8.1.Time, y8.1.State⟩ : api_Estimate) _ h13⟩, fun hg => ⟨e17, k17 y6.1 y8.1 _ (guardO_get h15 hg)⟩, fun hg => ⟨e17, k17 (⟨(⟨w64 (y6.1.Place.X + (w64 x1)), w64 (y6.1.Place.Y + (w64 x2))⟩ : api_Point), y6.1.Yellow, y6.1.Red⟩ : api_Circle) (⟨(⟨w64 (y8.1.Point.X + (w64 x1)), w64 (y8.1.Point.Y + (w64 x2))⟩ : api_Point), y8.1.Bound, y8.1.Time, y8.1.State⟩ : api_Estimate) _ (guardO_get h17 hg)⟩, fun hg => ⟨e15, k15 y6.1 y8.1 _ (guardO_get h19 hg)⟩, fun hg => ⟨e15, k15 (⟨(⟨w64 (0 - y6.1.Place.X), y6.1.Place.Y⟩ : api_Point), y6.1.Yellow, y6.1.Red⟩ : api_Circle) (⟨(⟨w64 (0 - y8.1.Point.X), y8.1.Point.Y⟩ : api_Point), y8.1.Bound, y8.1.Time, y8.1.State⟩ : api_Estimate) _ (guardO_get h21 hg)⟩, fun hg => ⟨e19, k19 y6.1 y8.1 _ (guardO_get h23 hg)⟩, fun hg => ⟨e19, k19 (⟨(⟨w64 (0 - y6.1.Place.X), y6.1.Place.Y⟩ : api_Point), y6.1.Yellow, y6.1.Red⟩ : api_Circle) (⟨(⟨w64 (0 - y8.1.Point.X), y8.1.Point.Y⟩ : api_Point), y8.1.Bound, y8.1.Time, y8.1.State⟩ : api_Estimate) _ (guardO_get h25 hg)⟩, fun hg => ⟨e9, k9  _ (guardO_get h27 hg)⟩, trivial⟩ ⟨h1, trivial⟩ (by kernel_rfl)
theorem e7 : Enters Try.prog 7 := enters_of Try.func7 (by kernel_rfl) (by kernel_rfl)
theorem k8 (x0 : List Int) (r : Bool) (h : F8 x0 = some r) : CallOk Try.prog 8 [.d (.p (.s (x0.map pI)))] [] (.d (Bo r)) [] := by
  unfold F8 at h
  refine callOk_of 44 Try.func8 rfl rfl rfl fun C hC => ?_
  rcases boolC (decide ((x0.length : Int) > 600)) with h1 | h1
  · replace h := condT h1 h
    obtain ⟨y2, h3, h⟩ := bindE h
    replace h := Option.some.inj h
    subst h
    exact WI_ret (bs := [(decide ((x0.length : Int) > 600), true)]) mixed [0, 2, 3, 4, 5, 8] 29 [true] [.len ((x0.map pI).length : Int) (x0.length : Int), .call 9 [] [] (.d (Bo y2)) [] []] [] [.tmp 2] 0 [] rfl hC ⟨len_map _ _, ⟨e9, k9  _ h3⟩, trivial⟩ ⟨h1, trivial⟩ (by kernel_rfl)
  · replace h := condF h1 h
    obtain ⟨y4, h5, h⟩ := bindE h
    obtain ⟨y6, h7, h⟩ := bindE h
    obtain ⟨y8, h9, h⟩ := bindE h
    obtain ⟨y10, h11, h⟩ := bindE h
    obtain ⟨y12, h13, h⟩ := bindE h
    obtain ⟨y14, h15, h⟩ := bindE h
    obtain ⟨y16, h17, h⟩ := bindE h
    obtain ⟨y18, h19, h⟩ := bindE h
    obtain ⟨y20, h21, h⟩ := bindE h
    replace h := Option.some.inj h
    subst h
    exact WI_ret (bs := [(decide ((x0.length : Int) > 600), false)]) mixed [0, 2, 3, 4, 5, 8] 36 [false] [.len ((x0.map pI).length : Int) (x0.length : Int), .call 10 [.d (.p (.s (x0.map pI)))] [] (.d (.o 0 0)) [.box 53 [.p (.s (y4.L.map pI)), I y4.At]] [], .call 11 [.d (.o 0 0)] [.box 53 [.p (.s (y4.L.map pI)), I y4.At]] (.agg [I y6.1.Place.X, I y6.1.Place.Y, I y6.1.Yellow, I y6.1.Red]) [.box 53 [.p (.s (y6.2.L.map pI)), I y6.2.At]] [0], .call 14 [.d (.o 0 0), .d (I 0)] [.box 53 [.p (.s (y6.2.L.map pI)), I y6.2.At]] (.agg [I y8.1.Point.X, I y8.1.Point.Y, I y8.1.Bound, I y8.1.Time, I y8.1.State]) [.box 53 [.p (.s (y8.2.L.map pI)), I y8.2.At]] [0], .call 19 [.agg [I y6.1.Place.X, I y6.1.Place.Y, I y6.1.Yellow, I y6.1.Red], .agg [I y8.1.Point.X, I y8.1.Point.Y, I y8.1.Bound, I y8.1.Time, I 0]] [] (.d (I y10)) [] [], .when [((y10 == 3), true)] (.call 21 [.agg [I y6.1.Place.X, I y6.1.Place.Y, I y6.1.Yellow, I y6.1.Red], .agg [I y8.1.Point.X, I y8.1.Point.Y, I y8.1.Bound, I y8.1.Time, I 0]] [] (.d (I y12)) [] []), .when [(((y10 == 3) && (y12 == 3)), true)] (.call 15 [.agg [I y6.1.Place.X, I y6.1.Place.Y, I y6.1.Yellow, I y6.1.Red], .agg [I y8.1.Point.X, I y8.1.Point.Y, I y8.1.Bound, I y8.1.Time, I 0]] [] (.d (I y14)) [] []), .whenR [((((y10 == 3) && (y12 == 3)) && (y14 == (-1))), true)] (.call 28 [.d (.o 0 0), .d (I 100)] [.box 53 [.p (.s (y8.2.L.map pI)), I y8.2.At]] (.d (I y16.1)) [.box 53 [.p (.s (y16.2.L.map pI)), I y16.2.At]] [0]), .when [((((y10 == 3) && (y12 == 3)) && (y14 == (-1))), true)] (.call 24 [.agg [I y6.1.Place.X, I y6.1.Place.Y, I y6.1.Yellow, I y6.1.Red], .agg [I y8.1.Point.X, I y8.1.Point.Y, I y8.1.Bound, I y8.1.Time, I 0], .d (I y16.1)] [] (.d (I y18)) [] []), .when [(((((y10 == 3) && (y12 == 3)) && (y14 == (-1))) && (y18 == (-1))), true)] (.call 9 [] [] (.d (Bo y20)) [] [])] [] [.tmp 2] 0 [] rfl hC ⟨len_map _ _, ⟨e10, k10 x0 _ h5⟩, ⟨e11, k11 y4 _ h7⟩, ⟨e14, k14 y6.2 0 _ h9⟩, ⟨e19, k19 y6.1 (⟨y8.1.Point, y8.1.Bound, y8.1.Time, 0⟩ : api_Estimate) _ h11⟩, fun hg => ⟨e21, k21 y6.1 (⟨y8.1.Point, y8.1.Bound, y8.1.Time, 0⟩ : api_Estimate) _ (guardO_get h13 hg)⟩, fun hg => ⟨e15, k15 y6.1 (⟨y8.1.Point, y8.1.Bound, y8.1.Time, 0⟩ : api_Estimate) _ (guardO_get h15 hg)⟩, ⟨fun hg => ⟨e28, k28 y8.2 100 _ (guardO_get h17 hg)⟩, fun hg => by have e := guardO_not h17 hg; subst e; rfl⟩, fun hg => ⟨e24, k24 y6.1 (⟨y8.1.Point, y8.1.Bound, y8.1.Time, 0⟩ : api_Estimate) y16.1 _ (guardO_get h19 hg)⟩, fun hg => ⟨e9, k9  _ (guardO_get h21 hg)⟩, trivial⟩ ⟨h1, trivial⟩ (by kernel_rfl)
theorem e8 : Enters Try.prog 8 := enters_of Try.func8 (by kernel_rfl) (by kernel_rfl)
end Go.Proofs.Ytakbldjmgfcipaa
