import Derived.Test.YtakbldjmgfcipaaRows
import Derived.Test.YtakbldjmgfcipaaMo
set_option linter.unusedVariables false
namespace Go.Proofs.Ytakbldjmgfcipaa
open Go.SL
theorem mixed : Try.prog.follows .mixedOrders = true := by kernel_rfl
theorem k29 (x0 : api_Point) (r : Bool) (h : F29 x0 = r) : CallOk Try.prog 29 [.agg [I x0.X, I x0.Y]] [] (.d (Bo r)) [] := by
  unfold F29 at h
  refine callOk_of 17 Try.func29 rfl rfl rfl fun C hC => ?_
  subst h
  exact WI_ret (bs := []) mixed [0, 1, 2] 25 [] [] [] [.tmp 2] 0 [] rfl hC trivial trivial (by kernel_rfl)
theorem e29 : Enters Try.prog 29 := enters_of Try.func29 (by kernel_rfl) (by kernel_rfl)
theorem k12 (x0 : api_Circle) (r : Int) (h : F12 x0 = r) : CallOk Try.prog 12 [.agg [I x0.Place.X, I x0.Place.Y, I x0.Yellow, I x0.Red]] [] (.d (I r)) [] := by
  unfold F12 at h
  refine callOk_of 24 Try.func12 rfl rfl rfl fun C hC => ?_
  rcases boolC ((c12_0 x0)) with h1 | h1
  · replace h := condT h1 h
    subst h
    exact WI_ret (bs := [((c12_0 x0), true)]) mixed [0, 1, 2, 23] 29 [true] [.call 29 [.agg [I x0.Place.X, I x0.Place.Y]] [] (.d (Bo (F29 x0.Place))) [] []] [] [.tmp 2] 0 [] rfl hC ⟨⟨e29, k29 x0.Place _ rfl⟩, trivial⟩ ⟨h1, trivial⟩ (by kernel_rfl)
  · replace h := condF h1 h
    subst h
    exact WI_ret (bs := [((c12_0 x0), false)]) mixed [0, 1, 2, 23] 30 [false] [.call 29 [.agg [I x0.Place.X, I x0.Place.Y]] [] (.d (Bo (F29 x0.Place))) [] []] [] [.tmp 2] 0 [] rfl hC ⟨⟨e29, k29 x0.Place _ rfl⟩, trivial⟩ ⟨h1, trivial⟩ (by kernel_rfl)
theorem e12 : Enters Try.prog 12 := enters_of Try.func12 (by kernel_rfl) (by kernel_rfl)
theorem k38 (x0 : api_Estimate) (r : Bool) (h : F38 x0 = r) : CallOk Try.prog 38 [.agg [I x0.Point.X, I x0.Point.Y, I x0.Bound, I x0.Time, I x0.State]] [] (.d (Bo r)) [] := by
  unfold F38 at h
  refine callOk_of 21 Try.func38 rfl rfl rfl fun C hC => ?_
  subst h
  exact WI_ret (bs := []) mixed [0, 1, 2] 25 [] [.when [((x0.State != 0), true)] (.call 29 [.agg [I x0.Point.X, I x0.Point.Y]] [] (.d (Bo (F29 x0.Point))) [] [])] [] [.tmp 2] 0 [] rfl hC ⟨fun hg => ⟨e29, k29 x0.Point _ rfl⟩, trivial⟩ trivial (by kernel_rfl)
theorem e38 : Enters Try.prog 38 := enters_of Try.func38 (by kernel_rfl) (by kernel_rfl)
theorem k40 (x0 : Int) (x1 : Int) (r : Int) (h : F40 x0 x1 = r) : CallOk Try.prog 40 [.d (I x0), .d (I x1)] [] (.d (I r)) [] := by
  unfold F40 at h
  refine callOk_of 12 Try.func40 rfl rfl rfl fun C hC => ?_
  subst h
  exact WI_ret (bs := []) mixed [0, 1, 4] 25 [] [] [] [.tmp 4] 0 [] rfl hC trivial trivial (by kernel_rfl)
theorem e40 : Enters Try.prog 40 := enters_of Try.func40 (by kernel_rfl) (by kernel_rfl)
def st39_0 (x0 : List Int) (i39_0 : Nat) (s39_0 : Int) : St := [(2, .d (I 0)), (3, .d (I s39_0)), (6, .d (.p (.s (x0.map pI)))), (7, .d (I (x0.length : Int))), (8, .d (I (cnt 0 i39_0)))]
def R39_0  (i39_0 : Nat) (s39_0 : Int) : List Res := []
def sa39_0  (s39_0 : Int) : St := [(2, .d (I 0)), (3, .d (I s39_0))]
def Ra39_0  (s39_0 : Int) : List Res := []
theorem k39 (x0 : List Int) (r : Int) (h : F39 x0 = some r) : CallOk Try.prog 39 [.d (.p (.s (x0.map pI)))] [] (.d (I r)) [] := by
  unfold F39 at h
  refine callOk_of 19 Try.func39 rfl rfl rfl fun C hC => ?_
  refine WI_stop (bs := []) mixed [0, 2, 3, 5, 6, 7, 8, 9] 28 [] [.len ((x0.map pI).length : Int) (x0.length : Int)] [] 0 [] (st39_0 x0 0 0) (R39_0 0 0) hC ⟨len_map _ _, trivial⟩ trivial (by kernel_rfl) ?_
  obtain ⟨k39_0, hm39_0, hret39_0, hnext39_0⟩ := andThen_inv h
  clear h
  refine WI_cut (by kernel_rfl) (fun s => k39_0 = .next s) (sa39_0) (Ra39_0) ?_ fun s39_0 hs39_0 => ?_
  · refine WI_blk (by kernel_rfl) ?_
    refine WI_len 6 rfl fun hl39_0 => ?_
    refine WI_foldI (by kernel_rfl) F39_l0 (st39_0 x0) (R39_0) k39_0 x0 0 hm39_0 rfl rfl (fun s39_0 hn39_0 => ?_) fun i39_0 x39_0 s39_0 k39_0b hi39_0 hx39_0 h hb39_0 hr39_0 => ?_
    · clear hm39_0
      exact WI_end (bs := [(decide ((cnt 0 x0.length) < (x0.length : Int)), false)]) (φ := fun s' => k39_0 = .next s') (st' := (sa39_0)) (R' := (Ra39_0)) mixed [0, 2, 3, 5, 6, 7, 8, 9] 26 [false] [] [] 0 [] s39_0 hC trivial ⟨(cnt_end hl39_0), trivial⟩ (by kernel_rfl) (by kernel_rfl) hn39_0
    · unfold F39_l0 at h
      exact WI_end (bs := [(decide ((cnt 0 i39_0) < (x0.length : Int)), true)]) (φ := fun s' => k39_0b = .next s') (st' := (st39_0 x0 (i39_0 + 1))) (R' := (R39_0 (i39_0 + 1))) mixed [0, 2, 3, 5, 6, 7, 8, 9] 33 [true] [.row (x0.map pI) (cnt 0 i39_0) (pI x39_0)] [] 0 [] (w64 (s39_0 + (w64 (x39_0 * x39_0)))) hC ⟨(row_cnt hx39_0 hl39_0), trivial⟩ ⟨(cnt_lt hi39_0 hl39_0), trivial⟩ (by kernel_rfl) (by kernel_rfl) (Option.some.inj h).symm
  · have h := hnext39_0 _ hs39_0
    replace h := Option.some.inj h
    subst h
    exact WI_ret (bs := []) mixed [0, 2, 3, 5, 6, 7, 8, 9] 23 [] [] [] [.tmp 2] 0 [] rfl hC trivial trivial (by kernel_rfl)
theorem e39 : Enters Try.prog 39 := enters_of Try.func39 (by kernel_rfl) (by kernel_rfl)
theorem k31 (x0 : api_Circle) (x1 : api_Estimate) (x2 : Int) (r : Int) (h : F31 x0 x1 x2 = some r) : CallOk Try.prog 31 [.agg [I x0.Place.X, I x0.Place.Y, I x0.Yellow, I x0.Red], .agg [I x1.Point.X, I x1.Point.Y, I x1.Bound, I x1.Time, I x1.State], .d (I x2)] [] (.d (I r)) [] := by
  unfold F31 at h
  refine callOk_of 37 Try.func31 rfl rfl rfl fun C hC => ?_
  refine WI_stop (bs := []) mixed [0, 1, 2, 3, 4, 6, 14] 26 [] [.call 12 [.agg [I x0.Place.X, I x0.Place.Y, I x0.Yellow, I x0.Red]] [] (.d (I (F12 x0))) [] [], .when [(((F12 x0) != 0), false)] (.call 38 [.agg [I x1.Point.X, I x1.Point.Y, I x1.Bound, I x1.Time, I x1.State]] [] (.d (Bo (F38 x1))) [] [])] [] 0 [0, 1] [(2, .d (I x2)), (3, .d (.o 0 0)), (4, .d (.o 1 0)), (6, .d (I 0)), (14, .d (Bo (((F12 x0) != 0) || (!(F38 x1)))))] [.box 26 [I x0.Place.X, I x0.Place.Y, I x0.Yellow, I x0.Red], .box 28 [I x1.Point.X, I x1.Point.Y, I x1.Bound, I x1.Time, I x1.State]] hC ⟨⟨e12, k12 x0 _ rfl⟩, fun hg => ⟨e38, k38 x1 _ rfl⟩, trivial⟩ trivial (by kernel_rfl) ?_
  rcases boolC ((((F12 x0) != 0) || (!(F38 x1)))) with h1 | h1
  · replace h := condT h1 h
    replace h := Option.some.inj h
    subst h
    exact WI_ret (bs := [((((F12 x0) != 0) || (!(F38 x1))), true)]) mixed [0, 1, 2, 3, 4, 6, 14] 23 [true] [] [] [.tmp 6] 0 [] rfl hC trivial ⟨h1, trivial⟩ (by kernel_rfl)
  · replace h := condF h1 h
    obtain ⟨y2, h3, h⟩ := bindE h
    replace h := Option.some.inj h
    subst h
    exact WI_ret (bs := [((((F12 x0) != 0) || (!(F38 x1))), false)]) mixed [0, 1, 2, 3, 4, 6, 14] 24 [false] [.call 40 [.d (I x1.Point.X), .d (I x0.Place.X)] [] (.d (I (F40 x1.Point.X x0.Place.X))) [] [], .call 40 [.d (I x1.Point.Y), .d (I x0.Place.Y)] [] (.d (I (F40 x1.Point.Y x0.Place.Y))) [] [], .call 39 [.d (.p (.s ([max 0 (w64 ((F40 x1.Point.X x0.Place.X) + x2)), max 0 (w64 ((F40 x1.Point.Y x0.Place.Y) + x2))].map pI)))] [] (.d (I y2)) [] []] [] [.tmp 6] 0 [] rfl hC ⟨⟨e40, k40 x1.Point.X x0.Place.X _ rfl⟩, ⟨e40, k40 x1.Point.Y x0.Place.Y _ rfl⟩, ⟨e39, k39 [max 0 (w64 ((F40 x1.Point.X x0.Place.X) + x2)), max 0 (w64 ((F40 x1.Point.Y x0.Place.Y) + x2))] _ h3⟩, trivial⟩ ⟨h1, trivial⟩ (by kernel_rfl)
theorem e31 : Enters Try.prog 31 := enters_of Try.func31 (by kernel_rfl) (by kernel_rfl)
theorem k15 (x0 : api_Circle) (x1 : api_Estimate) (r : Int) (h : F15 x0 x1 = some r) : CallOk Try.prog 15 [.agg [I x0.Place.X, I x0.Place.Y, I x0.Yellow, I x0.Red], .agg [I x1.Point.X, I x1.Point.Y, I x1.Bound, I x1.Time, I x1.State]] [] (.d (I r)) [] := by
  unfold F15 at h
  refine callOk_of 10 Try.func15 rfl rfl rfl fun C hC => ?_
  obtain ⟨y1, h2, h⟩ := bindE h
  replace h := Option.some.inj h
  subst h
  exact WI_ret (bs := []) mixed [0, 1, 2, 3, 4] 25 [] [.call 31 [.agg [I x0.Place.X, I x0.Place.Y, I x0.Yellow, I x0.Red], .agg [I x1.Point.X, I x1.Point.Y, I x1.Bound, I x1.Time, I x1.State], .d (I x1.Bound)] [] (.d (I y1)) [] []] [] [.tmp 4] 0 [] rfl hC ⟨⟨e31, k31 x0 x1 x1.Bound _ h2⟩, trivial⟩ trivial (by kernel_rfl)
theorem e15 : Enters Try.prog 15 := enters_of Try.func15 (by kernel_rfl) (by kernel_rfl)
theorem k34 (x0 : api_Circle) (x1 : api_Estimate) (r : Bool) (h : F34 x0 x1 = some r) : CallOk Try.prog 34 [.agg [I x0.Place.X, I x0.Place.Y, I x0.Yellow, I x0.Red], .agg [I x1.Point.X, I x1.Point.Y, I x1.Bound, I x1.Time, I x1.State]] [] (.d (Bo r)) [] := by
  unfold F34 at h
  refine callOk_of 9 Try.func34 rfl rfl rfl fun C hC => ?_
  obtain ⟨y1, h2, h⟩ := bindE h
  replace h := Option.some.inj h
  subst h
  exact WI_ret (bs := []) mixed [0, 1, 2, 3, 4] 25 [] [.call 15 [.agg [I x0.Place.X, I x0.Place.Y, I x0.Yellow, I x0.Red], .agg [I x1.Point.X, I x1.Point.Y, I x1.Bound, I x1.Time, I x1.State]] [] (.d (I y1)) [] []] [] [.tmp 4] 0 [] rfl hC ⟨⟨e15, k15 x0 x1 _ h2⟩, trivial⟩ trivial (by kernel_rfl)
theorem e34 : Enters Try.prog 34 := enters_of Try.func34 (by kernel_rfl) (by kernel_rfl)
theorem k35 (x0 : api_Circle) (x1 : Int) (r : Int) (h : F35 x0 x1 = some r) : CallOk Try.prog 35 [.agg [I x0.Place.X, I x0.Place.Y, I x0.Yellow, I x0.Red], .d (I x1)] [] (.d (I r)) [] := by
  unfold F35 at h
  refine callOk_of 23 Try.func35 rfl rfl rfl fun C hC => ?_
  obtain ⟨y1, h2, h⟩ := bindE h
  rcases boolC ((c35_0 x1 y1)) with h3 | h3
  · replace h := condT h3 h
    replace h := Option.some.inj h
    subst h
    exact WI_ret (bs := [((c35_0 x1 y1), true)]) mixed [0, 1, 2, 4, 5, 16] 30 [true] [.when [(decide (x1 < 0), false)] (.call 39 [.d (.p (.s ([x0.Red].map pI)))] [] (.d (I y1)) [] [])] [] [.tmp 4] 0 [] rfl hC ⟨fun hg => ⟨e39, k39 [x0.Red] _ (guardO_get h2 hg)⟩, trivial⟩ ⟨h3, trivial⟩ (by kernel_rfl)
  · replace h := condF h3 h
    obtain ⟨y4, h5, h⟩ := bindE h
    rcases boolC (decide (x1 > y4)) with h6 | h6
    · replace h := condT h6 h
      replace h := Option.some.inj h
      subst h
      exact WI_ret (bs := [((c35_0 x1 y1), false), (decide (x1 > y4), true)]) mixed [0, 1, 2, 4, 5, 16] 33 [false, true] [.when [(decide (x1 < 0), false)] (.call 39 [.d (.p (.s ([x0.Red].map pI)))] [] (.d (I y1)) [] []), .call 39 [.d (.p (.s ([x0.Yellow].map pI)))] [] (.d (I y4)) [] []] [] [.tmp 4] 0 [] rfl hC ⟨fun hg => ⟨e39, k39 [x0.Red] _ (guardO_get h2 hg)⟩, ⟨e39, k39 [x0.Yellow] _ h5⟩, trivial⟩ ⟨h3, h6, trivial⟩ (by kernel_rfl)
    · replace h := condF h6 h
      replace h := Option.some.inj h
      subst h
      exact WI_ret (bs := [((c35_0 x1 y1), false), (decide (x1 > y4), false)]) mixed [0, 1, 2, 4, 5, 16] 35 [false, false] [.when [(decide (x1 < 0), false)] (.call 39 [.d (.p (.s ([x0.Red].map pI)))] [] (.d (I y1)) [] []), .call 39 [.d (.p (.s ([x0.Yellow].map pI)))] [] (.d (I y4)) [] []] [] [.tmp 4] 0 [] rfl hC ⟨fun hg => ⟨e39, k39 [x0.Red] _ (guardO_get h2 hg)⟩, ⟨e39, k39 [x0.Yellow] _ h5⟩, trivial⟩ ⟨h3, h6, trivial⟩ (by kernel_rfl)
theorem e35 : Enters Try.prog 35 := enters_of Try.func35 (by kernel_rfl) (by kernel_rfl)
theorem k19 (x0 : api_Circle) (x1 : api_Estimate) (r : Int) (h : F19 x0 x1 = some r) : CallOk Try.prog 19 [.agg [I x0.Place.X, I x0.Place.Y, I x0.Yellow, I x0.Red], .agg [I x1.Point.X, I x1.Point.Y, I x1.Bound, I x1.Time, I x1.State]] [] (.d (I r)) [] := by
  unfold F19 at h
  refine callOk_of 14 Try.func19 rfl rfl rfl fun C hC => ?_
  obtain ⟨y1, h2, h⟩ := bindE h
  rcases boolC (!y1) with h3 | h3
  · replace h := condT h3 h
    replace h := Option.some.inj h
    subst h
    exact WI_ret (bs := [(!y1, true)]) mixed [0, 1, 2, 3, 4, 8] 29 [true] [.call 34 [.agg [I x0.Place.X, I x0.Place.Y, I x0.Yellow, I x0.Red], .agg [I x1.Point.X, I x1.Point.Y, I x1.Bound, I x1.Time, I x1.State]] [] (.d (Bo y1)) [] []] [] [.tmp 4] 0 [] rfl hC ⟨⟨e34, k34 x0 x1 _ h2⟩, trivial⟩ ⟨h3, trivial⟩ (by kernel_rfl)
  · replace h := condF h3 h
    obtain ⟨y4, h5, h⟩ := bindE h
    obtain ⟨y6, h7, h⟩ := bindE h
    replace h := Option.some.inj h
    subst h
    exact WI_ret (bs := [(!y1, false)]) mixed [0, 1, 2, 3, 4, 8] 30 [false] [.call 34 [.agg [I x0.Place.X, I x0.Place.Y, I x0.Yellow, I x0.Red], .agg [I x1.Point.X, I x1.Point.Y, I x1.Bound, I x1.Time, I x1.State]] [] (.d (Bo y1)) [] [], .call 15 [.agg [I x0.Place.X, I x0.Place.Y, I x0.Yellow, I x0.Red], .agg [I x1.Point.X, I x1.Point.Y, I x1.Bound, I x1.Time, I x1.State]] [] (.d (I y4)) [] [], .call 35 [.agg [I x0.Place.X, I x0.Place.Y, I x0.Yellow, I x0.Red], .d (I y4)] [] (.d (I y6)) [] []] [] [.tmp 4] 0 [] rfl hC ⟨⟨e34, k34 x0 x1 _ h2⟩, ⟨e15, k15 x0 x1 _ h5⟩, ⟨e35, k35 x0 y4 _ h7⟩, trivial⟩ ⟨h3, trivial⟩ (by kernel_rfl)
theorem e19 : Enters Try.prog 19 := enters_of Try.func19 (by kernel_rfl) (by kernel_rfl)
theorem k17 (x0 : api_Circle) (x1 : api_Estimate) (r : Int) (h : F17 x0 x1 = some r) : CallOk Try.prog 17 [.agg [I x0.Place.X, I x0.Place.Y, I x0.Yellow, I x0.Red], .agg [I x1.Point.X, I x1.Point.Y, I x1.Bound, I x1.Time, I x1.State]] [] (.d (I r)) [] := by
  unfold F17 at h
  refine callOk_of 11 Try.func17 rfl rfl rfl fun C hC => ?_
  obtain ⟨y1, h2, h⟩ := bindE h
  replace h := Option.some.inj h
  subst h
  exact WI_ret (bs := []) mixed [0, 1, 2, 3, 4] 25 [] [.call 31 [.agg [I x0.Place.X, I x0.Place.Y, I x0.Yellow, I x0.Red], .agg [I x1.Point.X, I x1.Point.Y, I x1.Bound, I x1.Time, I x1.State], .d (I (w64 (0 - x1.Bound)))] [] (.d (I y1)) [] []] [] [.tmp 4] 0 [] rfl hC ⟨⟨e31, k31 x0 x1 (w64 (0 - x1.Bound)) _ h2⟩, trivial⟩ trivial (by kernel_rfl)
theorem e17 : Enters Try.prog 17 := enters_of Try.func17 (by kernel_rfl) (by kernel_rfl)
theorem k21 (x0 : api_Circle) (x1 : api_Estimate) (r : Int) (h : F21 x0 x1 = some r) : CallOk Try.prog 21 [.agg [I x0.Place.X, I x0.Place.Y, I x0.Yellow, I x0.Red], .agg [I x1.Point.X, I x1.Point.Y, I x1.Bound, I x1.Time, I x1.State]] [] (.d (I r)) [] := by
  unfold F21 at h
  refine callOk_of 14 Try.func21 rfl rfl rfl fun C hC => ?_
  obtain ⟨y1, h2, h⟩ := bindE h
  rcases boolC (!y1) with h3 | h3
  · replace h := condT h3 h
    replace h := Option.some.inj h
    subst h
    exact WI_ret (bs := [(!y1, true)]) mixed [0, 1, 2, 3, 4, 8] 29 [true] [.call 34 [.agg [I x0.Place.X, I x0.Place.Y, I x0.Yellow, I x0.Red], .agg [I x1.Point.X, I x1.Point.Y, I x1.Bound, I x1.Time, I x1.State]] [] (.d (Bo y1)) [] []] [] [.tmp 4] 0 [] rfl hC ⟨⟨e34, k34 x0 x1 _ h2⟩, trivial⟩ ⟨h3, trivial⟩ (by kernel_rfl)
  · replace h := condF h3 h
    obtain ⟨y4, h5, h⟩ := bindE h
    obtain ⟨y6, h7, h⟩ := bindE h
    replace h := Option.some.inj h
    subst h
    exact WI_ret (bs := [(!y1, false)]) mixed [0, 1, 2, 3, 4, 8] 30 [false] [.call 34 [.agg [I x0.Place.X, I x0.Place.Y, I x0.Yellow, I x0.Red], .agg [I x1.Point.X, I x1.Point.Y, I x1.Bound, I x1.Time, I x1.State]] [] (.d (Bo y1)) [] [], .call 17 [.agg [I x0.Place.X, I x0.Place.Y, I x0.Yellow, I x0.Red], .agg [I x1.Point.X, I x1.Point.Y, I x1.Bound, I x1.Time, I x1.State]] [] (.d (I y4)) [] [], .call 35 [.agg [I x0.Place.X, I x0.Place.Y, I x0.Yellow, I x0.Red], .d (I y4)] [] (.d (I y6)) [] []] [] [.tmp 4] 0 [] rfl hC ⟨⟨e34, k34 x0 x1 _ h2⟩, ⟨e17, k17 x0 x1 _ h5⟩, ⟨e35, k35 x0 y4 _ h7⟩, trivial⟩ ⟨h3, trivial⟩ (by kernel_rfl)
theorem e21 : Enters Try.prog 21 := enters_of Try.func21 (by kernel_rfl) (by kernel_rfl)
def st24_0 (x2 : Int) (s24_0 : Int × Int) : St := [(2, .d (I x2)), (3, .d (.o 0 0)), (4, .d (.o 1 0)), (6, .d (I 0)), (7, .d (I s24_0.1))]
def R24_0 (x0 : api_Circle) (x1 : api_Estimate) (s24_0 : Int × Int) : List Res := [.box 26 [I x0.Place.X, I x0.Place.Y, I x0.Yellow, I x0.Red], .box 28 [I x1.Point.X, I x1.Point.Y, I s24_0.2, I x1.Time, I x1.State]]
def sa24_0  (s24_0 : Int × Int) : St := [(6, .d (I 0)), (7, .d (I s24_0.1))]
def Ra24_0  (s24_0 : Int × Int) : List Res := []
theorem k24 (x0 : api_Circle) (x1 : api_Estimate) (x2 : Int) (r : Int) (h : F24 x0 x1 x2 = some r) : CallOk Try.prog 24 [.agg [I x0.Place.X, I x0.Place.Y, I x0.Yellow, I x0.Red], .agg [I x1.Point.X, I x1.Point.Y, I x1.Bound, I x1.Time, I x1.State], .d (I x2)] [] (.d (I r)) [] := by
  unfold F24 at h
  refine callOk_of 34 Try.func24 rfl rfl rfl fun C hC => ?_
  obtain ⟨y1, h2, h⟩ := bindE h
  refine WI_stop (bs := []) mixed [0, 1, 2, 3, 4, 6, 7, 19, 21, 30] 26 [] [.when [(((decide (x2 < 0)) || (decide (x2 > 1000))), false)] (.call 19 [.agg [I x0.Place.X, I x0.Place.Y, I x0.Yellow, I x0.Red], .agg [I x1.Point.X, I x1.Point.Y, I x1.Bound, I x1.Time, I x1.State]] [] (.d (I y1)) [] [])] [] 0 [0, 1] [(2, .d (I x2)), (3, .d (.o 0 0)), (4, .d (.o 1 0)), (6, .d (I 0)), (19, .d (Bo (c24_0 x2 y1)))] [.box 26 [I x0.Place.X, I x0.Place.Y, I x0.Yellow, I x0.Red], .box 28 [I x1.Point.X, I x1.Point.Y, I x1.Bound, I x1.Time, I x1.State]] hC ⟨fun hg => ⟨e19, k19 x0 x1 _ (guardO_get h2 hg)⟩, trivial⟩ trivial (by kernel_rfl) ?_
  rcases boolC ((c24_0 x2 y1)) with h3 | h3
  · replace h := condT h3 h
    replace h := Option.some.inj h
    subst h
    exact WI_ret (bs := [((c24_0 x2 y1), true)]) mixed [0, 1, 2, 3, 4, 6, 7, 19, 21, 30] 23 [true] [] [] [.tmp 6] 0 [] rfl hC trivial ⟨h3, trivial⟩ (by kernel_rfl)
  · replace h := condF h3 h
    refine WI_stop (bs := [((c24_0 x2 y1), false)]) mixed [0, 1, 2, 3, 4, 6, 7, 19, 21, 30] 25 [false] [] [] 0 [0, 1] (st24_0 x2 (0, x1.Bound)) (R24_0 x0 x1 (0, x1.Bound)) hC trivial ⟨h3, trivial⟩ (by kernel_rfl) ?_
    obtain ⟨k24_0, hm24_0, hret24_0, hnext24_0⟩ := andThen_inv h
    clear h
    refine WI_cut (by kernel_rfl) (fun s => k24_0 = .next s) (sa24_0) (Ra24_0) ?_ fun s24_0 hs24_0 => ?_
    · refine WI_blk (by kernel_rfl) ?_
      refine WI_while (by kernel_rfl) (F24_l0 x0 x1 x2) (st24_0 x2) (R24_0 x0 x1) k24_0 403 (0, x1.Bound) hm24_0 rfl rfl fun s24_0 k24_0b h hb24_0 hr24_0 => ?_
      unfold F24_l0 at h
      rcases boolC (decide (s24_0.1 < 400)) with h4 | h4
      · replace h := condT h4 h
        obtain ⟨y5, h6, h⟩ := bindE h
        refine WI_stop (bs := [(decide (s24_0.1 < 400), true)]) mixed [0, 1, 2, 3, 4, 6, 7, 19, 21, 30] 32 [true] [.call 19 [.agg [I x0.Place.X, I x0.Place.Y, I x0.Yellow, I x0.Red], .agg [I x1.Point.X, I x1.Point.Y, I (w64 (s24_0.2 + x2)), I x1.Time, I x1.State]] [] (.d (I y5)) [] []] [] 0 [0, 1] [(2, .d (I x2)), (3, .d (.o 0 0)), (4, .d (.o 1 0)), (6, .d (I 0)), (7, .d (I s24_0.1)), (30, .d (Bo (y5 == 3)))] [.box 26 [I x0.Place.X, I x0.Place.Y, I x0.Yellow, I x0.Red], .box 28 [I x1.Point.X, I x1.Point.Y, I (w64 (s24_0.2 + x2)), I x1.Time, I x1.State]] hC ⟨⟨e19, k19 x0 (⟨x1.Point, w64 (s24_0.2 + x2), x1.Time, x1.State⟩ : api_Estimate) _ h6⟩, trivial⟩ ⟨h4, trivial⟩ (by kernel_rfl) ?_
        rcases boolC ((y5 == 3)) with h7 | h7
        · replace h := condT h7 h
          exact WI_end (bs := [((y5 == 3), true)]) (φ := fun s' => k24_0 = .next s') (st' := (sa24_0)) (R' := (Ra24_0)) mixed [0, 1, 2, 3, 4, 6, 7, 19, 21, 30] 22 [true] [] [] 0 [] (s24_0.1, s24_0.2) hC trivial ⟨h7, trivial⟩ (by kernel_rfl) (by kernel_rfl) (hb24_0 _ (Option.some.inj h).symm)
        · replace h := condF h7 h
          exact WI_end (bs := [((y5 == 3), false)]) (φ := fun s' => k24_0b = .next s') (st' := (st24_0 x2)) (R' := (R24_0 x0 x1)) mixed [0, 1, 2, 3, 4, 6, 7, 19, 21, 30] 24 [false] [] [] 0 [0, 1] (w64 (s24_0.1 + 1), w64 (s24_0.2 + x2)) hC trivial ⟨h7, trivial⟩ (by kernel_rfl) (by kernel_rfl) (Option.some.inj h).symm
      · replace h := condF h4 h
        exact WI_end (bs := [(decide (s24_0.1 < 400), false)]) (φ := fun s' => k24_0 = .next s') (st' := (sa24_0)) (R' := (Ra24_0)) mixed [0, 1, 2, 3, 4, 6, 7, 19, 21, 30] 26 [false] [] [] 0 [] (s24_0.1, s24_0.2) hC trivial ⟨h4, trivial⟩ (by kernel_rfl) (by kernel_rfl) (hb24_0 _ (Option.some.inj h).symm)
    · have h := hnext24_0 _ hs24_0
      replace h := Option.some.inj h
      subst h
      exact WI_ret (bs := []) mixed [0, 1, 2, 3, 4, 6, 7, 19, 21, 30] 23 [] [] [] [.tmp 6] 0 [] rfl hC trivial trivial (by kernel_rfl)
theorem e24 : Enters Try.prog 24 := enters_of Try.func24 (by kernel_rfl) (by kernel_rfl)
theorem k9  (r : Bool) (h : F9  = some r) : CallOk Try.prog 9 [] [] (.d (Bo r)) [] := by
  unfold F9 at h
  refine callOk_of 37 Try.func9 rfl rfl rfl fun C hC => ?_
  obtain ⟨y1, h2, h⟩ := bindE h
  obtain ⟨y3, h4, h⟩ := bindE h
  obtain ⟨y5, h6, h⟩ := bindE h
  obtain ⟨y7, h8, h⟩ := bindE h
  obtain ⟨y9, h10, h⟩ := bindE h
  replace h := Option.some.inj h
  subst h
  exact WI_ret (bs := []) mixed [0, 1, 2, 3] 33 [] [.call 19 [.agg [I 0, I 0, I 500, I 1000], .agg [I 300, I 400, I 0, I 0, I 1]] [] (.d (I y1)) [] [], .when [((y1 == 1), true)] (.call 21 [.agg [I 0, I 0, I 500, I 1000], .agg [I 300, I 400, I 0, I 0, I 1]] [] (.d (I y3)) [] []), .when [(((y1 == 1) && (y3 == 1)), true)] (.call 19 [.agg [I 0, I 0, I 500, I 1000], .agg [I 300, I 400, I 100, I 0, I 1]] [] (.d (I y5)) [] []), .when [((((y1 == 1) && (y3 == 1)) && (y5 == 2)), true)] (.call 24 [.agg [I 0, I 0, I 500, I 1000], .agg [I 300, I 400, I 100, I 0, I 1], .d (I 50)] [] (.d (I y7)) [] []), .when [(((((y1 == 1) && (y3 == 1)) && (y5 == 2)) && (y7 == 5)), true)] (.call 19 [.agg [I 0, I 0, I 500, I 1000], .agg [I 0, I 0, I 0, I 0, I 0]] [] (.d (I y9)) [] [])] [] [.tmp 0] 0 [] rfl hC ⟨⟨e19, k19 (⟨(⟨0, 0⟩ : api_Point), 500, 1000⟩ : api_Circle) (⟨(⟨300, 400⟩ : api_Point), 0, 0, 1⟩ : api_Estimate) _ h2⟩, fun hg => ⟨e21, k21 (⟨(⟨0, 0⟩ : api_Point), 500, 1000⟩ : api_Circle) (⟨(⟨300, 400⟩ : api_Point), 0, 0, 1⟩ : api_Estimate) _ (guardO_get h4 hg)⟩, fun hg => ⟨e19, k19 (⟨(⟨0, 0⟩ : api_Point), 500, 1000⟩ : api_Circle) (⟨(⟨300, 400⟩ : api_Point), 100, 0, 1⟩ : api_Estimate) _ (guardO_get h6 hg)⟩, fun hg => ⟨e24, k24 (⟨(⟨0, 0⟩ : api_Point), 500, 1000⟩ : api_Circle) (⟨(⟨300, 400⟩ : api_Point), 100, 0, 1⟩ : api_Estimate) 50 _ (guardO_get h8 hg)⟩, fun hg => ⟨e19, k19 (⟨(⟨0, 0⟩ : api_Point), 500, 1000⟩ : api_Circle) (⟨(⟨0, 0⟩ : api_Point), 0, 0, 0⟩ : api_Estimate) _ (guardO_get h10 hg)⟩, trivial⟩ trivial (by kernel_rfl)
theorem e9 : Enters Try.prog 9 := enters_of Try.func9 (by kernel_rfl) (by kernel_rfl)
theorem k10 (x0 : List Int) (r : dynposmake_Src) (h : F10 x0 = some r) : CallOk Try.prog 10 [.d (.p (.s (x0.map pI)))] [] (.d (.o 0 0)) [.box 53 [.p (.s (r.L.map pI)), I r.At]] := by
  unfold F10 at h
  refine callOk_of 10 Try.func10 rfl rfl rfl fun C hC => ?_
  obtain ⟨y2, h1, h⟩ := bindE h
  replace h := Option.some.inj h
  subst h
  exact WI_ret (bs := []) mixed [0, 2] 25 [] [.len ((x0.map pI).length : Int) (x0.length : Int), .cut (x0.map pI) 1 0 (min (x0.length : Int) 600) (y2.map pI)] [] [.tmp 2] 0 [0] rfl hC ⟨len_map _ _, cut_get pI 1 (fun _ => rfl) h1, trivial⟩ trivial (by kernel_rfl)
theorem e10 : Enters Try.prog 10 := enters_of Try.func10 (by kernel_rfl) (by kernel_rfl)
theorem k27 (x0 : Int) (x1 : Int) (r : Int) (h : F27 x0 x1 = some r) : CallOk Try.prog 27 [.d (I x0), .d (I x1)] [] (.d (I r)) [] := by
  unfold F27 at h
  refine callOk_of 14 Try.func27 rfl rfl rfl fun C hC => ?_
  rcases boolC (decide (x1 < 1)) with h1 | h1
  · replace h := condT h1 h
    replace h := Option.some.inj h
    subst h
    exact WI_ret (bs := [(decide (x1 < 1), true)]) mixed [0, 1, 4, 6] 29 [true] [] [] [.tmp 4] 0 [] rfl hC trivial ⟨h1, trivial⟩ (by kernel_rfl)
  · replace h := condF h1 h
    obtain ⟨u3, h2, h⟩ := bindE h
    obtain ⟨u5, h4, h⟩ := bindE h
    replace h := Option.some.inj h
    subst h
    exact WI_ret (bs := [(decide (x1 < 1), false)]) mixed [0, 1, 4, 6] 30 [false] [.nz x1, .nz x1] [] [.tmp 4] 0 [] rfl hC ⟨nz_get h2, nz_get h4, trivial⟩ ⟨h1, trivial⟩ (by kernel_rfl)
theorem e27 : Enters Try.prog 27 := enters_of Try.func27 (by kernel_rfl) (by kernel_rfl)
theorem k28 (x0 : dynposmake_Src) (x1 : Int) (r : Int × dynposmake_Src) (h : F28 x0 x1 = some r) : CallOk Try.prog 28 [.d (.o 0 0), .d (I x1)] [.box 53 [.p (.s (x0.L.map pI)), I x0.At]] (.d (I r.1)) [.box 53 [.p (.s (r.2.L.map pI)), I r.2.At]] := by
  unfold F28 at h
  refine callOk_of 35 Try.func28 rfl rfl rfl fun C hC => ?_
  rcases boolC (decide (x0.At ≥ (x0.L.length : Int))) with h1 | h1
  · replace h := condT h1 h
    replace h := Option.some.inj h
    subst h
    exact WI_ret (bs := [(decide (x0.At ≥ (x0.L.length : Int)), true)]) mixed [0, 1, 4, 14] 29 [true] [.len ((x0.L.map pI).length : Int) (x0.L.length : Int)] [] [.tmp 4] 1 [0] rfl hC ⟨len_map _ _, trivial⟩ ⟨h1, trivial⟩ (by kernel_rfl)
  · replace h := condF h1 h
    obtain ⟨y2, h3, h⟩ := bindE h
    obtain ⟨y4, h5, h⟩ := bindE h
    replace h := Option.some.inj h
    subst h
    exact WI_ret (bs := [(decide (x0.At ≥ (x0.L.length : Int)), false)]) mixed [0, 1, 4, 14] 32 [false] [.len ((x0.L.map pI).length : Int) (x0.L.length : Int), .row (x0.L.map pI) (w64 ((w64 (x0.At + 1)) - 1)) (pI y2), .call 27 [.d (I y2), .d (I x1)] [] (.d (I y4)) [] []] [] [.tmp 4] 1 [0] rfl hC ⟨len_map _ _, row_get h3, ⟨e27, k27 y2 x1 _ h5⟩, trivial⟩ ⟨h1, trivial⟩ (by kernel_rfl)
theorem e28 : Enters Try.prog 28 := enters_of Try.func28 (by kernel_rfl) (by kernel_rfl)
theorem k23 (x0 : dynposmake_Src) (x1 : List Int) (r : Int × dynposmake_Src) (h : F23 x0 x1 = some r) : CallOk Try.prog 23 [.d (.o 0 0), .d (.p (.s (x1.map pI)))] [.box 53 [.p (.s (x0.L.map pI)), I x0.At]] (.d (I r.1)) [.box 53 [.p (.s (r.2.L.map pI)), I r.2.At]] := by
  unfold F23 at h
  refine callOk_of 12 Try.func23 rfl rfl rfl fun C hC => ?_
  obtain ⟨y1, h2, h⟩ := bindE h
  obtain ⟨y3, h4, h⟩ := bindE h
  replace h := Option.some.inj h
  subst h
  exact WI_ret (bs := []) mixed [0, 1, 4] 25 [] [.len ((x1.map pI).length : Int) (x1.length : Int), .call 28 [.d (.o 0 0), .d (I (x1.length : Int))] [.box 53 [.p (.s (x0.L.map pI)), I x0.At]] (.d (I y1.1)) [.box 53 [.p (.s (y1.2.L.map pI)), I y1.2.At]] [0], .row (x1.map pI) y1.1 (pI y3)] [] [.tmp 4] 1 [0] rfl hC ⟨len_map _ _, ⟨e28, k28 x0 (x1.length : Int) _ h2⟩, row_get h4, trivial⟩ trivial (by kernel_rfl)
theorem e23 : Enters Try.prog 23 := enters_of Try.func23 (by kernel_rfl) (by kernel_rfl)
theorem k11 (x0 : dynposmake_Src) (r : api_Circle × dynposmake_Src) (h : F11 x0 = some r) : CallOk Try.prog 11 [.d (.o 0 0)] [.box 53 [.p (.s (x0.L.map pI)), I x0.At]] (.agg [I r.1.Place.X, I r.1.Place.Y, I r.1.Yellow, I r.1.Red]) [.box 53 [.p (.s (r.2.L.map pI)), I r.2.At]] := by
  unfold F11 at h
  refine callOk_of 21 Try.func11 rfl rfl rfl fun C hC => ?_
  obtain ⟨y1, h2, h⟩ := bindE h
  obtain ⟨y3, h4, h⟩ := bindE h
  obtain ⟨y5, h6, h⟩ := bindE h
  obtain ⟨y7, h8, h⟩ := bindE h
  replace h := Option.some.inj h
  subst h
  exact WI_ret (bs := []) mixed [0, 2, 3] 27 [] [.call 23 [.d (.o 0 0), .d (.p (.s ([0, 300, 500, 2000].map pI)))] [.box 53 [.p (.s (x0.L.map pI)), I x0.At]] (.d (I y1.1)) [.box 53 [.p (.s (y1.2.L.map pI)), I y1.2.At]] [0], .call 23 [.d (.o 0 0), .d (.p (.s ([0, 0, 200].map pI)))] [.box 53 [.p (.s (y1.2.L.map pI)), I y1.2.At]] (.d (I y3.1)) [.box 53 [.p (.s (y3.2.L.map pI)), I y3.2.At]] [0], .call 23 [.d (.o 0 0), .d (.p (.s ([0, 0, (-100)].map pI)))] [.box 53 [.p (.s (y3.2.L.map pI)), I y3.2.At]] (.d (I y5.1)) [.box 53 [.p (.s (y5.2.L.map pI)), I y5.2.At]] [0], .call 23 [.d (.o 0 0), .d (.p (.s ([0, 500, 3000].map pI)))] [.box 53 [.p (.s (y5.2.L.map pI)), I y5.2.At]] (.d (I y7.1)) [.box 53 [.p (.s (y7.2.L.map pI)), I y7.2.At]] [0]] [] [.cell 2 26] 1 [0] rfl hC ⟨⟨e23, k23 x0 [0, 300, 500, 2000] _ h2⟩, ⟨e23, k23 y1.2 [0, 0, 200] _ h4⟩, ⟨e23, k23 y3.2 [0, 0, (-100)] _ h6⟩, ⟨e23, k23 y5.2 [0, 500, 3000] _ h8⟩, trivial⟩ trivial (by kernel_rfl)
theorem e11 : Enters Try.prog 11 := enters_of Try.func11 (by kernel_rfl) (by kernel_rfl)
theorem k30 (x0 : api_Point) (r : Bool) (h : F30 x0 = r) : CallOk Try.prog 30 [.agg [I x0.X, I x0.Y]] [] (.d (Bo r)) [] := by
  unfold F30 at h
  refine callOk_of 21 Try.func30 rfl rfl rfl fun C hC => ?_
  subst h
  exact WI_ret (bs := []) mixed [0, 1, 2] 25 [] [] [] [.tmp 2] 0 [] rfl hC trivial trivial (by kernel_rfl)
theorem e30 : Enters Try.prog 30 := enters_of Try.func30 (by kernel_rfl) (by kernel_rfl)
theorem k13 (x0 : api_Circle) (r : Int) (h : F13 x0 = r) : CallOk Try.prog 13 [.agg [I x0.Place.X, I x0.Place.Y, I x0.Yellow, I x0.Red]] [] (.d (I r)) [] := by
  unfold F13 at h
  refine callOk_of 24 Try.func13 rfl rfl rfl fun C hC => ?_
  rcases boolC ((c13_0 x0)) with h1 | h1
  · replace h := condT h1 h
    subst h
    exact WI_ret (bs := [((c13_0 x0), true)]) mixed [0, 1, 2, 23] 29 [true] [.call 30 [.agg [I x0.Place.X, I x0.Place.Y]] [] (.d (Bo (F30 x0.Place))) [] []] [] [.tmp 2] 0 [] rfl hC ⟨⟨e30, k30 x0.Place _ rfl⟩, trivial⟩ ⟨h1, trivial⟩ (by kernel_rfl)
  · replace h := condF h1 h
    subst h
    exact WI_ret (bs := [((c13_0 x0), false)]) mixed [0, 1, 2, 23] 30 [false] [.call 30 [.agg [I x0.Place.X, I x0.Place.Y]] [] (.d (Bo (F30 x0.Place))) [] []] [] [.tmp 2] 0 [] rfl hC ⟨⟨e30, k30 x0.Place _ rfl⟩, trivial⟩ ⟨h1, trivial⟩ (by kernel_rfl)
theorem e13 : Enters Try.prog 13 := enters_of Try.func13 (by kernel_rfl) (by kernel_rfl)
theorem k14 (x0 : dynposmake_Src) (x1 : Int) (r : api_Estimate × dynposmake_Src) (h : F14 x0 x1 = some r) : CallOk Try.prog 14 [.d (.o 0 0), .d (I x1)] [.box 53 [.p (.s (x0.L.map pI)), I x0.At]] (.agg [I r.1.Point.X, I r.1.Point.Y, I r.1.Bound, I r.1.Time, I r.1.State]) [.box 53 [.p (.s (r.2.L.map pI)), I r.2.At]] := by
  unfold F14 at h
  refine callOk_of 20 Try.func14 rfl rfl rfl fun C hC => ?_
  obtain ⟨y1, h2, h⟩ := bindE h
  obtain ⟨y3, h4, h⟩ := bindE h
  obtain ⟨y5, h6, h⟩ := bindE h
  obtain ⟨y7, h8, h⟩ := bindE h
  replace h := Option.some.inj h
  subst h
  exact WI_ret (bs := []) mixed [0, 1, 4] 25 [] [.call 23 [.d (.o 0 0), .d (.p (.s ([0, 300, (-700), 5000].map pI)))] [.box 53 [.p (.s (x0.L.map pI)), I x0.At]] (.d (I y1.1)) [.box 53 [.p (.s (y1.2.L.map pI)), I y1.2.At]] [0], .call 23 [.d (.o 0 0), .d (.p (.s ([0, 400, (-100)].map pI)))] [.box 53 [.p (.s (y1.2.L.map pI)), I y1.2.At]] (.d (I y3.1)) [.box 53 [.p (.s (y3.2.L.map pI)), I y3.2.At]] [0], .call 23 [.d (.o 0 0), .d (.p (.s ([0, 10, 100, 900].map pI)))] [.box 53 [.p (.s (y3.2.L.map pI)), I y3.2.At]] (.d (I y5.1)) [.box 53 [.p (.s (y5.2.L.map pI)), I y5.2.At]] [0], .call 23 [.d (.o 0 0), .d (.p (.s ([1, 1, 2, 0].map pI)))] [.box 53 [.p (.s (y5.2.L.map pI)), I y5.2.At]] (.d (I y7.1)) [.box 53 [.p (.s (y7.2.L.map pI)), I y7.2.At]] [0]] [] [.cell 4 28] 1 [0] rfl hC ⟨⟨e23, k23 x0 [0, 300, (-700), 5000] _ h2⟩, ⟨e23, k23 y1.2 [0, 400, (-100)] _ h4⟩, ⟨e23, k23 y3.2 [0, 10, 100, 900] _ h6⟩, ⟨e23, k23 y5.2 [1, 1, 2, 0] _ h8⟩, trivial⟩ trivial (by kernel_rfl)
theorem e14 : Enters Try.prog 14 := enters_of Try.func14 (by kernel_rfl) (by kernel_rfl)
theorem k32 (x0 : api_Estimate) (r : Bool) (h : F32 x0 = r) : CallOk Try.prog 32 [.agg [I x0.Point.X, I x0.Point.Y, I x0.Bound, I x0.Time, I x0.State]] [] (.d (Bo r)) [] := by
  unfold F32 at h
  refine callOk_of 21 Try.func32 rfl rfl rfl fun C hC => ?_
  subst h
  exact WI_ret (bs := []) mixed [0, 1, 2] 25 [] [.when [((x0.State != 0), true)] (.call 30 [.agg [I x0.Point.X, I x0.Point.Y]] [] (.d (Bo (F30 x0.Point))) [] [])] [] [.tmp 2] 0 [] rfl hC ⟨fun hg => ⟨e30, k30 x0.Point _ rfl⟩, trivial⟩ trivial (by kernel_rfl)
theorem e32 : Enters Try.prog 32 := enters_of Try.func32 (by kernel_rfl) (by kernel_rfl)
theorem k33 (x0 : Int) (r : Int) (h : F33 x0 = r) : CallOk Try.prog 33 [.d (I x0)] [] (.d (I r)) [] := by
  unfold F33 at h
  refine callOk_of 8 Try.func33 rfl rfl rfl fun C hC => ?_
  rcases boolC (decide (x0 < 0)) with h1 | h1
  · replace h := condT h1 h
    subst h
    exact WI_ret (bs := [(decide (x0 < 0), true)]) mixed [0, 2, 4] 29 [true] [] [] [.tmp 2] 0 [] rfl hC trivial ⟨h1, trivial⟩ (by kernel_rfl)
  · replace h := condF h1 h
    subst h
    exact WI_ret (bs := [(decide (x0 < 0), false)]) mixed [0, 2, 4] 30 [false] [] [] [.tmp 2] 0 [] rfl hC trivial ⟨h1, trivial⟩ (by kernel_rfl)
theorem e33 : Enters Try.prog 33 := enters_of Try.func33 (by kernel_rfl) (by kernel_rfl)
theorem k16 (x0 : api_Circle) (x1 : api_Estimate) (r : Int) (h : F16 x0 x1 = r) : CallOk Try.prog 16 [.agg [I x0.Place.X, I x0.Place.Y, I x0.Yellow, I x0.Red], .agg [I x1.Point.X, I x1.Point.Y, I x1.Bound, I x1.Time, I x1.State]] [] (.d (I r)) [] := by
  unfold F16 at h
  refine callOk_of 44 Try.func16 rfl rfl rfl fun C hC => ?_
  refine WI_stop (bs := []) mixed [0, 1, 2, 3, 4, 5, 6, 14] 26 [] [.call 13 [.agg [I x0.Place.X, I x0.Place.Y, I x0.Yellow, I x0.Red]] [] (.d (I (F13 x0))) [] [], .when [(((F13 x0) != 0), false)] (.call 32 [.agg [I x1.Point.X, I x1.Point.Y, I x1.Bound, I x1.Time, I x1.State]] [] (.d (Bo (F32 x1))) [] [])] [] 0 [0, 1] [(2, .d (.o 0 0)), (3, .d (.o 1 0)), (4, .d (I 0)), (14, .d (Bo (((F13 x0) != 0) || (!(F32 x1)))))] [.box 26 [I x0.Place.X, I x0.Place.Y, I x0.Yellow, I x0.Red], .box 28 [I x1.Point.X, I x1.Point.Y, I x1.Bound, I x1.Time, I x1.State]] hC ⟨⟨e13, k13 x0 _ rfl⟩, fun hg => ⟨e32, k32 x1 _ rfl⟩, trivial⟩ trivial (by kernel_rfl) ?_
  rcases boolC ((((F13 x0) != 0) || (!(F32 x1)))) with h1 | h1
  · replace h := condT h1 h
    subst h
    exact WI_ret (bs := [((((F13 x0) != 0) || (!(F32 x1))), true)]) mixed [0, 1, 2, 3, 4, 5, 6, 14] 23 [true] [] [] [.tmp 4] 0 [] rfl hC trivial ⟨h1, trivial⟩ (by kernel_rfl)
  · replace h := condF h1 h
    subst h
    exact WI_ret (bs := [((((F13 x0) != 0) || (!(F32 x1))), false)]) mixed [0, 1, 2, 3, 4, 5, 6, 14] 26 [false] [.call 33 [.d (I (w64 (x1.Point.X - x0.Place.X)))] [] (.d (I (F33 (w64 (x1.Point.X - x0.Place.X))))) [] [], .call 33 [.d (I (w64 (x1.Point.Y - x0.Place.Y)))] [] (.d (I (F33 (w64 (x1.Point.Y - x0.Place.Y))))) [] []] [] [.tmp 4] 0 [] rfl hC ⟨⟨e33, k33 (w64 (x1.Point.X - x0.Place.X)) _ rfl⟩, ⟨e33, k33 (w64 (x1.Point.Y - x0.Place.Y)) _ rfl⟩, trivial⟩ ⟨h1, trivial⟩ (by kernel_rfl)
theorem e16 : Enters Try.prog 16 := enters_of Try.func16 (by kernel_rfl) (by kernel_rfl)
theorem k18 (x0 : api_Circle) (x1 : api_Estimate) (r : Int) (h : F18 x0 x1 = r) : CallOk Try.prog 18 [.agg [I x0.Place.X, I x0.Place.Y, I x0.Yellow, I x0.Red], .agg [I x1.Point.X, I x1.Point.Y, I x1.Bound, I x1.Time, I x1.State]] [] (.d (I r)) [] := by
  unfold F18 at h
  refine callOk_of 46 Try.func18 rfl rfl rfl fun C hC => ?_
  refine WI_stop (bs := []) mixed [0, 1, 2, 3, 4, 5, 6, 14] 26 [] [.call 13 [.agg [I x0.Place.X, I x0.Place.Y, I x0.Yellow, I x0.Red]] [] (.d (I (F13 x0))) [] [], .when [(((F13 x0) != 0), false)] (.call 32 [.agg [I x1.Point.X, I x1.Point.Y, I x1.Bound, I x1.Time, I x1.State]] [] (.d (Bo (F32 x1))) [] [])] [] 0 [0, 1] [(2, .d (.o 0 0)), (3, .d (.o 1 0)), (4, .d (I 0)), (14, .d (Bo (((F13 x0) != 0) || (!(F32 x1)))))] [.box 26 [I x0.Place.X, I x0.Place.Y, I x0.Yellow, I x0.Red], .box 28 [I x1.Point.X, I x1.Point.Y, I x1.Bound, I x1.Time, I x1.State]] hC ⟨⟨e13, k13 x0 _ rfl⟩, fun hg => ⟨e32, k32 x1 _ rfl⟩, trivial⟩ trivial (by kernel_rfl) ?_
  rcases boolC ((((F13 x0) != 0) || (!(F32 x1)))) with h1 | h1
  · replace h := condT h1 h
    subst h
    exact WI_ret (bs := [((((F13 x0) != 0) || (!(F32 x1))), true)]) mixed [0, 1, 2, 3, 4, 5, 6, 14] 23 [true] [] [] [.tmp 4] 0 [] rfl hC trivial ⟨h1, trivial⟩ (by kernel_rfl)
  · replace h := condF h1 h
    subst h
    exact WI_ret (bs := [((((F13 x0) != 0) || (!(F32 x1))), false)]) mixed [0, 1, 2, 3, 4, 5, 6, 14] 26 [false] [.call 33 [.d (I (w64 (x1.Point.X - x0.Place.X)))] [] (.d (I (F33 (w64 (x1.Point.X - x0.Place.X))))) [] [], .call 33 [.d (I (w64 (x1.Point.Y - x0.Place.Y)))] [] (.d (I (F33 (w64 (x1.Point.Y - x0.Place.Y))))) [] []] [] [.tmp 4] 0 [] rfl hC ⟨⟨e33, k33 (w64 (x1.Point.X - x0.Place.X)) _ rfl⟩, ⟨e33, k33 (w64 (x1.Point.Y - x0.Place.Y)) _ rfl⟩, trivial⟩ ⟨h1, trivial⟩ (by kernel_rfl)
theorem e18 : Enters Try.prog 18 := enters_of Try.func18 (by kernel_rfl) (by kernel_rfl)
theorem k36 (x0 : api_Circle) (x1 : Int) (r : Int) (h : F36 x0 x1 = r) : CallOk Try.prog 36 [.agg [I x0.Place.X, I x0.Place.Y, I x0.Yellow, I x0.Red], .d (I x1)] [] (.d (I r)) [] := by
  unfold F36 at h
  refine callOk_of 25 Try.func36 rfl rfl rfl fun C hC => ?_
  rcases boolC ((c36_0 x0 x1)) with h1 | h1
  · replace h := condT h1 h
    subst h
    exact WI_ret (bs := [((c36_0 x0 x1), true)]) mixed [0, 1, 2, 4, 5, 17] 30 [true] [] [] [.tmp 4] 0 [] rfl hC trivial ⟨h1, trivial⟩ (by kernel_rfl)
  · replace h := condF h1 h
    rcases boolC ((c36_1 x0 x1)) with h2 | h2
    · replace h := condT h2 h
      subst h
      exact WI_ret (bs := [((c36_0 x0 x1), false), ((c36_1 x0 x1), true)]) mixed [0, 1, 2, 4, 5, 17] 33 [false, true] [] [] [.tmp 4] 0 [] rfl hC trivial ⟨h1, h2, trivial⟩ (by kernel_rfl)
    · replace h := condF h2 h
      subst h
      exact WI_ret (bs := [((c36_0 x0 x1), false), ((c36_1 x0 x1), false)]) mixed [0, 1, 2, 4, 5, 17] 35 [false, false] [] [] [.tmp 4] 0 [] rfl hC trivial ⟨h1, h2, trivial⟩ (by kernel_rfl)
theorem e36 : Enters Try.prog 36 := enters_of Try.func36 (by kernel_rfl) (by kernel_rfl)
theorem k20 (x0 : api_Circle) (x1 : api_Estimate) (r : Int) (h : F20 x0 x1 = r) : CallOk Try.prog 20 [.agg [I x0.Place.X, I x0.Place.Y, I x0.Yellow, I x0.Red], .agg [I x1.Point.X, I x1.Point.Y, I x1.Bound, I x1.Time, I x1.State]] [] (.d (I r)) [] := by
  unfold F20 at h
  refine callOk_of 14 Try.func20 rfl rfl rfl fun C hC => ?_
  rcases boolC (decide ((F16 x0 x1) < 0)) with h1 | h1
  · replace h := condT h1 h
    subst h
    exact WI_ret (bs := [(decide ((F16 x0 x1) < 0), true)]) mixed [0, 1, 2, 3, 4, 5, 10] 31 [true] [.call 16 [.agg [I x0.Place.X, I x0.Place.Y, I x0.Yellow, I x0.Red], .agg [I x1.Point.X, I x1.Point.Y, I x1.Bound, I x1.Time, I x1.State]] [] (.d (I (F16 x0 x1))) [] []] [] [.tmp 4] 0 [] rfl hC ⟨⟨e16, k16 x0 x1 _ rfl⟩, trivial⟩ ⟨h1, trivial⟩ (by kernel_rfl)
  · replace h := condF h1 h
    subst h
    exact WI_ret (bs := [(decide ((F16 x0 x1) < 0), false)]) mixed [0, 1, 2, 3, 4, 5, 10] 32 [false] [.call 16 [.agg [I x0.Place.X, I x0.Place.Y, I x0.Yellow, I x0.Red], .agg [I x1.Point.X, I x1.Point.Y, I x1.Bound, I x1.Time, I x1.State]] [] (.d (I (F16 x0 x1))) [] [], .call 36 [.agg [I x0.Place.X, I x0.Place.Y, I x0.Yellow, I x0.Red], .d (I (F16 x0 x1))] [] (.d (I (F36 x0 (F16 x0 x1)))) [] []] [] [.tmp 4] 0 [] rfl hC ⟨⟨e16, k16 x0 x1 _ rfl⟩, ⟨e36, k36 x0 (F16 x0 x1) _ rfl⟩, trivial⟩ ⟨h1, trivial⟩ (by kernel_rfl)
theorem e20 : Enters Try.prog 20 := enters_of Try.func20 (by kernel_rfl) (by kernel_rfl)
theorem k22 (x0 : api_Circle) (x1 : api_Estimate) (r : Int) (h : F22 x0 x1 = r) : CallOk Try.prog 22 [.agg [I x0.Place.X, I x0.Place.Y, I x0.Yellow, I x0.Red], .agg [I x1.Point.X, I x1.Point.Y, I x1.Bound, I x1.Time, I x1.State]] [] (.d (I r)) [] := by
  unfold F22 at h
  refine callOk_of 14 Try.func22 rfl rfl rfl fun C hC => ?_
  rcases boolC (decide ((F18 x0 x1) < 0)) with h1 | h1
  · replace h := condT h1 h
    subst h
    exact WI_ret (bs := [(decide ((F18 x0 x1) < 0), true)]) mixed [0, 1, 2, 3, 4, 5, 10] 31 [true] [.call 18 [.agg [I x0.Place.X, I x0.Place.Y, I x0.Yellow, I x0.Red], .agg [I x1.Point.X, I x1.Point.Y, I x1.Bound, I x1.Time, I x1.State]] [] (.d (I (F18 x0 x1))) [] []] [] [.tmp 4] 0 [] rfl hC ⟨⟨e18, k18 x0 x1 _ rfl⟩, trivial⟩ ⟨h1, trivial⟩ (by kernel_rfl)
  · replace h := condF h1 h
    subst h
    exact WI_ret (bs := [(decide ((F18 x0 x1) < 0), false)]) mixed [0, 1, 2, 3, 4, 5, 10] 32 [false] [.call 18 [.agg [I x0.Place.X, I x0.Place.Y, I x0.Yellow, I x0.Red], .agg [I x1.Point.X, I x1.Point.Y, I x1.Bound, I x1.Time, I x1.State]] [] (.d (I (F18 x0 x1))) [] [], .call 36 [.agg [I x0.Place.X, I x0.Place.Y, I x0.Yellow, I x0.Red], .d (I (F18 x0 x1))] [] (.d (I (F36 x0 (F18 x0 x1)))) [] []] [] [.tmp 4] 0 [] rfl hC ⟨⟨e18, k18 x0 x1 _ rfl⟩, ⟨e36, k36 x0 (F18 x0 x1) _ rfl⟩, trivial⟩ ⟨h1, trivial⟩ (by kernel_rfl)
theorem e22 : Enters Try.prog 22 := enters_of Try.func22 (by kernel_rfl) (by kernel_rfl)
end Go.Proofs.Ytakbldjmgfcipaa
