import Derived.Test.YtakbldjmgfcipaaDoorRows
import Derived.Test.YtakbldjmgfcipaaDoorMo
set_option linter.unusedVariables false
namespace Go.Proofs.YtakbldjmgfcipaaDoor
open Go.SL
theorem mixed : Tryd.prog.follows .mixedOrders = true := by kernel_rfl
def st36_0 (y2 : List Int) (i36_0 : Nat) (s36_0 : Unit) : St := [(2, .d (Bo false)), (15, .d (.p (.s (y2.map (pK .u8))))), (16, .d (I (y2.length : Int))), (17, .d (I (cnt 0 i36_0)))]
def R36_0  (i36_0 : Nat) (s36_0 : Unit) : List Res := []
def sa36_0  (s36_0 : Unit) : St := [(2, .d (Bo false))]
def Ra36_0  (s36_0 : Unit) : List Res := []
theorem k36 (x0 : ByteArray) (r : Bool) (h : F36 x0 = some r) : CallOk Tryd.prog 36 [.d (.p (.v (.string x0)))] [] (.d (Bo r)) [] := by
  unfold F36 at h
  refine callOk_of 47 Tryd.func36 rfl rfl rfl fun C hC => ?_
  rcases boolC ((c36_0 x0)) with h1 | h1
  · replace h := condT h1 h
    replace h := Option.some.inj h
    subst h
    exact WI_ret (bs := [((c36_0 x0), true)]) mixed [0, 2, 3, 4, 5, 13, 15, 16, 17, 18, 45] 29 [true] [] [] [.tmp 2] 0 [] rfl hC trivial ⟨h1, trivial⟩ (by kernel_rfl)
  · replace h := condF h1 h
    obtain ⟨y2, h3, h⟩ := bindE h
    refine WI_stop (bs := [((c36_0 x0), false)]) mixed [0, 2, 3, 4, 5, 13, 15, 16, 17, 18, 45] 31 [false] [.room (x0.size : Int) (bytesP x0) (y2.map (pK .u8)), .len ((y2.map (pK .u8)).length : Int) (y2.length : Int)] [] 0 [] (st36_0 y2 0 ()) (R36_0 0 ()) hC ⟨bytes_get h3, len_map _ _, trivial⟩ ⟨h1, trivial⟩ (by kernel_rfl) ?_
    obtain ⟨k36_0, hm36_0, hret36_0, hnext36_0⟩ := andThen_inv h
    clear h
    refine WI_cut (by kernel_rfl) (fun s => k36_0 = .next s) (sa36_0) (Ra36_0) ?_ fun s36_0 hs36_0 => ?_
    · refine WI_blk (by kernel_rfl) ?_
      refine WI_len 15 rfl fun hl36_0 => ?_
      refine WI_foldI (by kernel_rfl) F36_l0 (st36_0 y2) (R36_0) k36_0 y2 () hm36_0 rfl rfl (fun s36_0 hn36_0 => ?_) fun i36_0 x36_0 s36_0 k36_0b hi36_0 hx36_0 h hb36_0 hr36_0 => ?_
      · clear hm36_0
        exact WI_end (bs := [(decide ((cnt 0 y2.length) < (y2.length : Int)), false)]) (φ := fun s' => k36_0 = .next s') (st' := (sa36_0)) (R' := (Ra36_0)) mixed [0, 2, 3, 4, 5, 13, 15, 16, 17, 18, 45] 26 [false] [] [] 0 [] () hC trivial ⟨(cnt_end hl36_0), trivial⟩ (by kernel_rfl) (by kernel_rfl) hn36_0
      · unfold F36_l0 at h
        rcases boolC ((c36_2 i36_0 x36_0)) with h4 | h4
        · replace h := condT h4 h
          have hq := hret36_0 _ (hr36_0 _ (Option.some.inj h).symm)
          replace hq := Option.some.inj hq
          subst hq
          exact WI_ret (bs := [(decide ((cnt 0 i36_0) < (y2.length : Int)), true), ((c36_2 i36_0 x36_0), true)]) mixed [0, 2, 3, 4, 5, 13, 15, 16, 17, 18, 45] 37 [true, true] [.row (y2.map (pK .u8)) (cnt 0 i36_0) ((pK .u8) x36_0)] [] [.tmp 2] 0 [] rfl hC ⟨(row_cnt hx36_0 hl36_0), trivial⟩ ⟨(cnt_lt hi36_0 hl36_0), h4, trivial⟩ (by kernel_rfl)
        · replace h := condF h4 h
          exact WI_end (bs := [(decide ((cnt 0 i36_0) < (y2.length : Int)), true), ((c36_2 i36_0 x36_0), false)]) (φ := fun s' => k36_0b = .next s') (st' := (st36_0 y2 (i36_0 + 1))) (R' := (R36_0 (i36_0 + 1))) mixed [0, 2, 3, 4, 5, 13, 15, 16, 17, 18, 45] 38 [true, false] [.row (y2.map (pK .u8)) (cnt 0 i36_0) ((pK .u8) x36_0)] [] 0 [] () hC ⟨(row_cnt hx36_0 hl36_0), trivial⟩ ⟨(cnt_lt hi36_0 hl36_0), h4, trivial⟩ (by kernel_rfl) (by kernel_rfl) (Option.some.inj h).symm
    · have h := hnext36_0 _ hs36_0
      replace h := Option.some.inj h
      subst h
      exact WI_ret (bs := []) mixed [0, 2, 3, 4, 5, 13, 15, 16, 17, 18, 45] 23 [] [] [] [.tmp 2] 0 [] rfl hC trivial trivial (by kernel_rfl)
theorem e36 : Enters Tryd.prog 36 := enters_of Tryd.func36 (by kernel_rfl) (by kernel_rfl)
theorem k31 (x0 : Int) (x1 : Int) (x2 : Int) (r : Bool) (h : F31 x0 x1 x2 = r) : CallOk Tryd.prog 31 [.d (I x0), .d (I x1), .d (I x2)] [] (.d (Bo r)) [] := by
  unfold F31 at h
  refine callOk_of 15 Tryd.func31 rfl rfl rfl fun C hC => ?_
  subst h
  exact WI_ret (bs := []) mixed [0, 1, 2, 6] 25 [] [] [] [.tmp 6] 0 [] rfl hC trivial trivial (by kernel_rfl)
theorem e31 : Enters Tryd.prog 31 := enters_of Tryd.func31 (by kernel_rfl) (by kernel_rfl)
theorem k34 (x0 : Int) (r : Bool) (h : F34 x0 = r) : CallOk Tryd.prog 34 [.d (I x0)] [] (.d (Bo r)) [] := by
  unfold F34 at h
  refine callOk_of 5 Tryd.func34 rfl rfl rfl fun C hC => ?_
  subst h
  exact WI_ret (bs := []) mixed [0, 2] 25 [] [.call 31 [.d (I x0), .d (I 1), .d (I 3)] [] (.d (Bo (F31 x0 1 3))) [] []] [] [.tmp 2] 0 [] rfl hC ⟨⟨e31, k31 x0 1 3 _ rfl⟩, trivial⟩ trivial (by kernel_rfl)
theorem e34 : Enters Tryd.prog 34 := enters_of Tryd.func34 (by kernel_rfl) (by kernel_rfl)
theorem k43 (x0 : api_Point) (r : Bool) (h : F43 x0 = r) : CallOk Tryd.prog 43 [.agg [I x0.X, I x0.Y]] [] (.d (Bo r)) [] := by
  unfold F43 at h
  refine callOk_of 17 Tryd.func43 rfl rfl rfl fun C hC => ?_
  subst h
  exact WI_ret (bs := []) mixed [0, 1, 2] 25 [] [] [] [.tmp 2] 0 [] rfl hC trivial trivial (by kernel_rfl)
theorem e43 : Enters Tryd.prog 43 := enters_of Tryd.func43 (by kernel_rfl) (by kernel_rfl)
theorem k37 (x0 : api_Circle) (r : Int) (h : F37 x0 = r) : CallOk Tryd.prog 37 [.agg [I x0.Place.X, I x0.Place.Y, I x0.Yellow, I x0.Red]] [] (.d (I r)) [] := by
  unfold F37 at h
  refine callOk_of 24 Tryd.func37 rfl rfl rfl fun C hC => ?_
  rcases boolC ((c37_0 x0)) with h1 | h1
  · replace h := condT h1 h
    subst h
    exact WI_ret (bs := [((c37_0 x0), true)]) mixed [0, 1, 2, 23] 29 [true] [.call 43 [.agg [I x0.Place.X, I x0.Place.Y]] [] (.d (Bo (F43 x0.Place))) [] []] [] [.tmp 2] 0 [] rfl hC ⟨⟨e43, k43 x0.Place _ rfl⟩, trivial⟩ ⟨h1, trivial⟩ (by kernel_rfl)
  · replace h := condF h1 h
    subst h
    exact WI_ret (bs := [((c37_0 x0), false)]) mixed [0, 1, 2, 23] 30 [false] [.call 43 [.agg [I x0.Place.X, I x0.Place.Y]] [] (.d (Bo (F43 x0.Place))) [] []] [] [.tmp 2] 0 [] rfl hC ⟨⟨e43, k43 x0.Place _ rfl⟩, trivial⟩ ⟨h1, trivial⟩ (by kernel_rfl)
theorem e37 : Enters Tryd.prog 37 := enters_of Tryd.func37 (by kernel_rfl) (by kernel_rfl)
theorem k22 (x0 : api_Operation) (r : Int) (h : F22 x0 = some r) : CallOk Tryd.prog 22 [.agg [.p (.v (.string x0.Name)), I x0.Class, I x0.Circle.Place.X, I x0.Circle.Place.Y, I x0.Circle.Yellow, I x0.Circle.Red, I x0.Drift]] [] (.d (I r)) [] := by
  unfold F22 at h
  refine callOk_of 22 Tryd.func22 rfl rfl rfl fun C hC => ?_
  obtain ⟨y1, h2, h⟩ := bindE h
  refine WI_stop (bs := []) mixed [0, 1, 2, 18] 26 [] [.call 36 [.d (.p (.v (.string x0.Name)))] [] (.d (Bo y1)) [] [], .when [(!y1, false)] (.call 34 [.d (I x0.Class)] [] (.d (Bo (F34 x0.Class))) [] []), .when [(((!y1) || (!(F34 x0.Class))), false)] (.call 31 [.d (I x0.Drift), .d (I 0), .d (I 1000)] [] (.d (Bo (F31 x0.Drift 0 1000))) [] [])] [] 0 [0] [(1, .d (.o 0 0)), (2, .d (I 0)), (18, .d (Bo (c22_0 x0 y1)))] [.box 31 [.p (.v (.string x0.Name)), I x0.Class, I x0.Circle.Place.X, I x0.Circle.Place.Y, I x0.Circle.Yellow, I x0.Circle.Red, I x0.Drift]] hC ⟨⟨e36, k36 x0.Name _ h2⟩, fun hg => ⟨e34, k34 x0.Class _ rfl⟩, fun hg => ⟨e31, k31 x0.Drift 0 1000 _ rfl⟩, trivial⟩ trivial (by kernel_rfl) ?_
  rcases boolC ((c22_0 x0 y1)) with h3 | h3
  · replace h := condT h3 h
    replace h := Option.some.inj h
    subst h
    exact WI_ret (bs := [((c22_0 x0 y1), true)]) mixed [0, 1, 2, 18] 23 [true] [] [] [.tmp 2] 0 [] rfl hC trivial ⟨h3, trivial⟩ (by kernel_rfl)
  · replace h := condF h3 h
    replace h := Option.some.inj h
    subst h
    exact WI_ret (bs := [((c22_0 x0 y1), false)]) mixed [0, 1, 2, 18] 24 [false] [.call 37 [.agg [I x0.Circle.Place.X, I x0.Circle.Place.Y, I x0.Circle.Yellow, I x0.Circle.Red]] [] (.d (I (F37 x0.Circle))) [] []] [] [.tmp 2] 0 [] rfl hC ⟨⟨e37, k37 x0.Circle _ rfl⟩, trivial⟩ ⟨h3, trivial⟩ (by kernel_rfl)
theorem e22 : Enters Tryd.prog 22 := enters_of Tryd.func22 (by kernel_rfl) (by kernel_rfl)
theorem k42 (x0 : Int) (r : Bool) (h : F42 x0 = r) : CallOk Tryd.prog 42 [.d (I x0)] [] (.d (Bo r)) [] := by
  unfold F42 at h
  refine callOk_of 5 Tryd.func42 rfl rfl rfl fun C hC => ?_
  subst h
  exact WI_ret (bs := []) mixed [0, 2] 25 [] [.call 31 [.d (I x0), .d (I 0), .d (I 5)] [] (.d (Bo (F31 x0 0 5))) [] []] [] [.tmp 2] 0 [] rfl hC ⟨⟨e31, k31 x0 0 5 _ rfl⟩, trivial⟩ trivial (by kernel_rfl)
theorem e42 : Enters Tryd.prog 42 := enters_of Tryd.func42 (by kernel_rfl) (by kernel_rfl)
theorem k35 (x0 : Int) (r : Bool) (h : F35 x0 = r) : CallOk Tryd.prog 35 [.d (I x0)] [] (.d (Bo r)) [] := by
  unfold F35 at h
  refine callOk_of 5 Tryd.func35 rfl rfl rfl fun C hC => ?_
  subst h
  exact WI_ret (bs := []) mixed [0, 2] 25 [] [.call 31 [.d (I x0), .d (I 1), .d (I 3)] [] (.d (Bo (F31 x0 1 3))) [] []] [] [.tmp 2] 0 [] rfl hC ⟨⟨e31, k31 x0 1 3 _ rfl⟩, trivial⟩ trivial (by kernel_rfl)
theorem e35 : Enters Tryd.prog 35 := enters_of Tryd.func35 (by kernel_rfl) (by kernel_rfl)
theorem k30 (x0 : api_Operation) (x1 : Int) (x2 : Int) (x3 : Int) (r : Int) (h : F30 x0 x1 x2 x3 = some r) : CallOk Tryd.prog 30 [.agg [.p (.v (.string x0.Name)), I x0.Class, I x0.Circle.Place.X, I x0.Circle.Place.Y, I x0.Circle.Yellow, I x0.Circle.Red, I x0.Drift], .d (I x1), .d (I x2), .d (I x3)] [] (.d (I r)) [] := by
  unfold F30 at h
  refine callOk_of 28 Tryd.func30 rfl rfl rfl fun C hC => ?_
  obtain ⟨y1, h2, h⟩ := bindE h
  rcases boolC ((y1 != 0)) with h3 | h3
  · replace h := condT h3 h
    replace h := Option.some.inj h
    subst h
    exact WI_ret (bs := [((y1 != 0), true)]) mixed [0, 1, 2, 3, 4, 8, 9, 13, 27] 31 [true] [.call 22 [.agg [.p (.v (.string x0.Name)), I x0.Class, I x0.Circle.Place.X, I x0.Circle.Place.Y, I x0.Circle.Yellow, I x0.Circle.Red, I x0.Drift]] [] (.d (I y1)) [] []] [] [.tmp 8] 0 [] rfl hC ⟨⟨e22, k22 x0 _ h2⟩, trivial⟩ ⟨h3, trivial⟩ (by kernel_rfl)
  · replace h := condF h3 h
    refine WI_stop (bs := [((y1 != 0), false)]) mixed [0, 1, 2, 3, 4, 8, 9, 13, 27] 33 [false] [.call 22 [.agg [.p (.v (.string x0.Name)), I x0.Class, I x0.Circle.Place.X, I x0.Circle.Place.Y, I x0.Circle.Yellow, I x0.Circle.Red, I x0.Drift]] [] (.d (I y1)) [] [], .call 42 [.d (I x1)] [] (.d (Bo (F42 x1))) [] [], .when [(!(F42 x1), false)] (.call 34 [.d (I x2)] [] (.d (Bo (F34 x2))) [] []), .when [(((!(F42 x1)) || (!(F34 x2))), false)] (.call 35 [.d (I x3)] [] (.d (Bo (F35 x3))) [] [])] [] 0 [] [(8, .d (I 0)), (27, .d (Bo (c30_0 x1 x2 x3)))] [] hC ⟨⟨e22, k22 x0 _ h2⟩, ⟨e42, k42 x1 _ rfl⟩, fun hg => ⟨e34, k34 x2 _ rfl⟩, fun hg => ⟨e35, k35 x3 _ rfl⟩, trivial⟩ ⟨h3, trivial⟩ (by kernel_rfl) ?_
    rcases boolC ((c30_0 x1 x2 x3)) with h4 | h4
    · replace h := condT h4 h
      replace h := Option.some.inj h
      subst h
      exact WI_ret (bs := [((c30_0 x1 x2 x3), true)]) mixed [0, 1, 2, 3, 4, 8, 9, 13, 27] 23 [true] [] [] [.tmp 8] 0 [] rfl hC trivial ⟨h4, trivial⟩ (by kernel_rfl)
    · replace h := condF h4 h
      replace h := Option.some.inj h
      subst h
      exact WI_ret (bs := [((c30_0 x1 x2 x3), false)]) mixed [0, 1, 2, 3, 4, 8, 9, 13, 27] 24 [false] [] [] [.tmp 8] 0 [] rfl hC trivial ⟨h4, trivial⟩ (by kernel_rfl)
theorem e30 : Enters Tryd.prog 30 := enters_of Tryd.func30 (by kernel_rfl) (by kernel_rfl)
theorem k32 (x0 : api_Operation) (x1 : Int) (x2 : Int) (r : Bool) (h : F32 x0 x1 x2 = r) : CallOk Tryd.prog 32 [.agg [.p (.v (.string x0.Name)), I x0.Class, I x0.Circle.Place.X, I x0.Circle.Place.Y, I x0.Circle.Yellow, I x0.Circle.Red, I x0.Drift], .d (I x1), .d (I x2)] [] (.d (Bo r)) [] := by
  unfold F32 at h
  refine callOk_of 15 Tryd.func32 rfl rfl rfl fun C hC => ?_
  subst h
  exact WI_ret (bs := []) mixed [0, 1, 2, 3, 6] 25 [] [] [] [.tmp 6] 0 [] rfl hC trivial trivial (by kernel_rfl)
theorem e32 : Enters Tryd.prog 32 := enters_of Tryd.func32 (by kernel_rfl) (by kernel_rfl)
def sa15_0 (x1 : Int) (x2 : Int) (x3 : Int) (x4 : Bool) (s15_0 : Bool) : St := [(1, .d (I x1)), (2, .d (I x2)), (3, .d (I x3)), (4, .d (Bo x4)), (5, .d (.o 0 0)), (10, .d (I 0)), (11, .d (I 0)), (21, .d (I x1)), (29, .d (Bo s15_0))]
def Ra15_0 (x0 : api_Operation) (s15_0 : Bool) : List Res := [.box 31 [.p (.v (.string x0.Name)), I x0.Class, I x0.Circle.Place.X, I x0.Circle.Place.Y, I x0.Circle.Yellow, I x0.Circle.Red, I x0.Drift]]
theorem k15 (x0 : api_Operation) (x1 : Int) (x2 : Int) (x3 : Int) (x4 : Bool) (r : Int × Int) (h : F15 x0 x1 x2 x3 x4 = some r) : CallOk Tryd.prog 15 [.agg [.p (.v (.string x0.Name)), I x0.Class, I x0.Circle.Place.X, I x0.Circle.Place.Y, I x0.Circle.Yellow, I x0.Circle.Red, I x0.Drift], .d (I x1), .d (I x2), .d (I x3), .d (Bo x4)] [] (.tup [.d (I r.1), .d (I r.2)]) [] := by
  unfold F15 at h
  refine callOk_of 48 Tryd.func15 rfl rfl rfl fun C hC => ?_
  obtain ⟨y1, h2, h⟩ := bindE h
  rcases boolC ((y1 != 0)) with h3 | h3
  · replace h := condT h3 h
    replace h := Option.some.inj h
    subst h
    exact WI_ret (bs := [((y1 != 0), true)]) mixed [0, 1, 2, 3, 4, 5, 10, 11, 12, 19, 21, 22, 28, 29, 32, 39, 44, 46] 31 [true] [.call 30 [.agg [.p (.v (.string x0.Name)), I x0.Class, I x0.Circle.Place.X, I x0.Circle.Place.Y, I x0.Circle.Yellow, I x0.Circle.Red, I x0.Drift], .d (I x1), .d (I x2), .d (I x3)] [] (.d (I y1)) [] []] [] [.tmp 10, .tmp 11] 0 [] rfl hC ⟨⟨e30, k30 x0 x1 x2 x3 _ h2⟩, trivial⟩ ⟨h3, trivial⟩ (by kernel_rfl)
  · replace h := condF h3 h
    rcases boolC ((x1 == 1)) with h4 | h4
    · replace h := condT h4 h
      refine WI_stop (bs := [((y1 != 0), false), ((x1 == 1), true)]) mixed [0, 1, 2, 3, 4, 5, 10, 11, 12, 19, 21, 22, 28, 29, 32, 39, 44, 46] 39 [false, true] [.call 30 [.agg [.p (.v (.string x0.Name)), I x0.Class, I x0.Circle.Place.X, I x0.Circle.Place.Y, I x0.Circle.Yellow, I x0.Circle.Red, I x0.Drift], .d (I x1), .d (I x2), .d (I x3)] [] (.d (I y1)) [] [], .call 32 [.agg [.p (.v (.string x0.Name)), I x0.Class, I x0.Circle.Place.X, I x0.Circle.Place.Y, I x0.Circle.Yellow, I x0.Circle.Red, I x0.Drift], .d (I x2), .d (I x3)] [] (.d (Bo (F32 x0 x2 x3))) [] []] [] 0 [] [(1, .d (I x1)), (10, .d (I 0)), (11, .d (I 0)), (28, .d (Bo (!(F32 x0 x2 x3))))] [] hC ⟨⟨e30, k30 x0 x1 x2 x3 _ h2⟩, ⟨e32, k32 x0 x2 x3 _ rfl⟩, trivial⟩ ⟨h3, h4, trivial⟩ (by kernel_rfl) ?_
      rcases boolC (!(F32 x0 x2 x3)) with h5 | h5
      · replace h := condT h5 h
        replace h := Option.some.inj h
        subst h
        exact WI_ret (bs := [(!(F32 x0 x2 x3), true)]) mixed [0, 1, 2, 3, 4, 5, 10, 11, 12, 19, 21, 22, 28, 29, 32, 39, 44, 46] 23 [true] [] [] [.tmp 10, .tmp 11] 0 [] rfl hC trivial ⟨h5, trivial⟩ (by kernel_rfl)
      · replace h := condF h5 h
        replace h := Option.some.inj h
        subst h
        exact WI_ret (bs := [(!(F32 x0 x2 x3), false)]) mixed [0, 1, 2, 3, 4, 5, 10, 11, 12, 19, 21, 22, 28, 29, 32, 39, 44, 46] 25 [false] [] [] [.tmp 10, .tmp 11] 0 [] rfl hC trivial ⟨h5, trivial⟩ (by kernel_rfl)
    · replace h := condF h4 h
      refine WI_stop (bs := [((y1 != 0), false), ((x1 == 1), false)]) mixed [0, 1, 2, 3, 4, 5, 10, 11, 12, 19, 21, 22, 28, 29, 32, 39, 44, 46] 40 [false, false] [.call 30 [.agg [.p (.v (.string x0.Name)), I x0.Class, I x0.Circle.Place.X, I x0.Circle.Place.Y, I x0.Circle.Yellow, I x0.Circle.Red, I x0.Drift], .d (I x1), .d (I x2), .d (I x3)] [] (.d (I y1)) [] []] [] 0 [0] [(1, .d (I x1)), (2, .d (I x2)), (3, .d (I x3)), (4, .d (Bo x4)), (5, .d (.o 0 0)), (10, .d (I 0)), (11, .d (I 0)), (21, .d (I x1)), (29, .d (Bo (x1 == 2)))] [.box 31 [.p (.v (.string x0.Name)), I x0.Class, I x0.Circle.Place.X, I x0.Circle.Place.Y, I x0.Circle.Yellow, I x0.Circle.Red, I x0.Drift]] hC ⟨⟨e30, k30 x0 x1 x2 x3 _ h2⟩, trivial⟩ ⟨h3, h4, trivial⟩ (by kernel_rfl) ?_
      obtain ⟨k15_0, h, hret15_0, hnext15_0⟩ := andThen_inv h
      refine WI_cut (by kernel_rfl) (fun s => k15_0 = .next s) (sa15_0 x1 x2 x3 x4) (Ra15_0 x0) ?_ fun s15_0 hs15_0 => ?_
      · unfold F15_m0 at h
        rcases boolC ((x1 == 2)) with h6 | h6
        · replace h := condT h6 h
          exact WI_end (bs := [((x1 == 2), true)]) (φ := fun s' => k15_0 = .next s') (st' := (sa15_0 x1 x2 x3 x4)) (R' := (Ra15_0 x0)) mixed [0, 1, 2, 3, 4, 5, 10, 11, 12, 19, 21, 22, 28, 29, 32, 39, 44, 46] 23 [true] [] [] 0 [0] (x1 == 2) hC trivial ⟨h6, trivial⟩ (by kernel_rfl) (by kernel_rfl) (Option.some.inj h).symm
        · replace h := condF h6 h
          exact WI_end (bs := [((x1 == 2), false)]) (φ := fun s' => k15_0 = .next s') (st' := (sa15_0 x1 x2 x3 x4)) (R' := (Ra15_0 x0)) mixed [0, 1, 2, 3, 4, 5, 10, 11, 12, 19, 21, 22, 28, 29, 32, 39, 44, 46] 23 [false] [] [] 0 [0] (x1 == 3) hC trivial ⟨h6, trivial⟩ (by kernel_rfl) (by kernel_rfl) (Option.some.inj h).symm
      · clear h; have h := hnext15_0 _ hs15_0
        rcases boolC (s15_0) with h7 | h7
        · replace h := condT h7 h
          rcases boolC (((x3 == 3) || (x2 == 1))) with h8 | h8
          · replace h := condT h8 h
            replace h := Option.some.inj h
            subst h
            exact WI_ret (bs := [(s15_0, true), (((x3 == 3) || (x2 == 1)), true)]) mixed [0, 1, 2, 3, 4, 5, 10, 11, 12, 19, 21, 22, 28, 29, 32, 39, 44, 46] 29 [true, true] [] [] [.tmp 10, .tmp 11] 0 [] rfl hC trivial ⟨h7, h8, trivial⟩ (by kernel_rfl)
          · replace h := condF h8 h
            rcases boolC (F32 x0 x2 x3) with h9 | h9
            · replace h := condT h9 h
              replace h := Option.some.inj h
              subst h
              exact WI_ret (bs := [(s15_0, true), (((x3 == 3) || (x2 == 1)), false), (F32 x0 x2 x3, true)]) mixed [0, 1, 2, 3, 4, 5, 10, 11, 12, 19, 21, 22, 28, 29, 32, 39, 44, 46] 32 [true, false, true] [.call 32 [.agg [.p (.v (.string x0.Name)), I x0.Class, I x0.Circle.Place.X, I x0.Circle.Place.Y, I x0.Circle.Yellow, I x0.Circle.Red, I x0.Drift], .d (I x2), .d (I x3)] [] (.d (Bo (F32 x0 x2 x3))) [] []] [] [.tmp 10, .tmp 11] 0 [] rfl hC ⟨⟨e32, k32 x0 x2 x3 _ rfl⟩, trivial⟩ ⟨h7, h8, h9, trivial⟩ (by kernel_rfl)
            · replace h := condF h9 h
              replace h := Option.some.inj h
              subst h
              exact WI_ret (bs := [(s15_0, true), (((x3 == 3) || (x2 == 1)), false), (F32 x0 x2 x3, false)]) mixed [0, 1, 2, 3, 4, 5, 10, 11, 12, 19, 21, 22, 28, 29, 32, 39, 44, 46] 34 [true, false, false] [.call 32 [.agg [.p (.v (.string x0.Name)), I x0.Class, I x0.Circle.Place.X, I x0.Circle.Place.Y, I x0.Circle.Yellow, I x0.Circle.Red, I x0.Drift], .d (I x2), .d (I x3)] [] (.d (Bo (F32 x0 x2 x3))) [] []] [] [.tmp 10, .tmp 11] 0 [] rfl hC ⟨⟨e32, k32 x0 x2 x3 _ rfl⟩, trivial⟩ ⟨h7, h8, h9, trivial⟩ (by kernel_rfl)
        · replace h := condF h7 h
          rcases boolC ((x1 == 4)) with h10 | h10
          · replace h := condT h10 h
            rcases boolC (x4) with h11 | h11
            · replace h := condT h11 h
              replace h := Option.some.inj h
              subst h
              exact WI_ret (bs := [(s15_0, false), ((x1 == 4), true), (x4, true)]) mixed [0, 1, 2, 3, 4, 5, 10, 11, 12, 19, 21, 22, 28, 29, 32, 39, 44, 46] 30 [false, true, true] [] [] [.tmp 10, .tmp 11] 0 [] rfl hC trivial ⟨h7, h10, h11, trivial⟩ (by kernel_rfl)
            · replace h := condF h11 h
              replace h := Option.some.inj h
              subst h
              exact WI_ret (bs := [(s15_0, false), ((x1 == 4), true), (x4, false)]) mixed [0, 1, 2, 3, 4, 5, 10, 11, 12, 19, 21, 22, 28, 29, 32, 39, 44, 46] 32 [false, true, false] [] [] [.tmp 10, .tmp 11] 0 [] rfl hC trivial ⟨h7, h10, h11, trivial⟩ (by kernel_rfl)
          · replace h := condF h10 h
            replace h := Option.some.inj h
            subst h
            exact WI_ret (bs := [(s15_0, false), ((x1 == 4), false)]) mixed [0, 1, 2, 3, 4, 5, 10, 11, 12, 19, 21, 22, 28, 29, 32, 39, 44, 46] 29 [false, false] [] [] [.tmp 10, .tmp 11] 0 [] rfl hC trivial ⟨h7, h10, trivial⟩ (by kernel_rfl)
theorem e15 : Enters Tryd.prog 15 := enters_of Tryd.func15 (by kernel_rfl) (by kernel_rfl)
theorem k14 (x0 : api_Operation) (x1 : Int) (x2 : Int) (x3 : Int) (x4 : Int) (r : Int × Int) (h : F14 x0 x1 x2 x3 x4 = some r) : CallOk Tryd.prog 14 [.agg [.p (.v (.string x0.Name)), I x0.Class, I x0.Circle.Place.X, I x0.Circle.Place.Y, I x0.Circle.Yellow, I x0.Circle.Red, I x0.Drift], .d (I x1), .d (I x2), .d (I x3), .d (I x4)] [] (.tup [.d (I r.1), .d (I r.2)]) [] := by
  unfold F14 at h
  refine callOk_of 62 Tryd.func14 rfl rfl rfl fun C hC => ?_
  obtain ⟨y1, h2, h⟩ := bindE h
  rcases boolC ((y1 != 0)) with h3 | h3
  · replace h := condT h3 h
    replace h := Option.some.inj h
    subst h
    exact WI_ret (bs := [((y1 != 0), true)]) mixed [0, 1, 2, 3, 4, 5, 10, 11, 12, 14, 21, 25, 27, 29, 30, 31, 42, 43, 52] 31 [true] [.call 30 [.agg [.p (.v (.string x0.Name)), I x0.Class, I x0.Circle.Place.X, I x0.Circle.Place.Y, I x0.Circle.Yellow, I x0.Circle.Red, I x0.Drift], .d (I x1), .d (I x2), .d (I x3)] [] (.d (I y1)) [] []] [] [.tmp 10, .tmp 11] 0 [] rfl hC ⟨⟨e30, k30 x0 x1 x2 x3 _ h2⟩, trivial⟩ ⟨h3, trivial⟩ (by kernel_rfl)
  · replace h := condF h3 h
    refine WI_stop (bs := [((y1 != 0), false)]) mixed [0, 1, 2, 3, 4, 5, 10, 11, 12, 14, 21, 25, 27, 29, 30, 31, 42, 43, 52] 33 [false] [.call 30 [.agg [.p (.v (.string x0.Name)), I x0.Class, I x0.Circle.Place.X, I x0.Circle.Place.Y, I x0.Circle.Yellow, I x0.Circle.Red, I x0.Drift], .d (I x1), .d (I x2), .d (I x3)] [] (.d (I y1)) [] [], .call 31 [.d (I x4), .d (I 0), .d (I 4)] [] (.d (Bo (F31 x4 0 4))) [] []] [] 0 [0] [(1, .d (I x1)), (2, .d (I x2)), (3, .d (I x3)), (4, .d (I x4)), (5, .d (.o 0 0)), (10, .d (I 0)), (11, .d (I 0)), (25, .d (Bo (!(F31 x4 0 4))))] [.box 31 [.p (.v (.string x0.Name)), I x0.Class, I x0.Circle.Place.X, I x0.Circle.Place.Y, I x0.Circle.Yellow, I x0.Circle.Red, I x0.Drift]] hC ⟨⟨e30, k30 x0 x1 x2 x3 _ h2⟩, ⟨e31, k31 x4 0 4 _ rfl⟩, trivial⟩ ⟨h3, trivial⟩ (by kernel_rfl) ?_
    rcases boolC (!(F31 x4 0 4)) with h4 | h4
    · replace h := condT h4 h
      replace h := Option.some.inj h
      subst h
      exact WI_ret (bs := [(!(F31 x4 0 4), true)]) mixed [0, 1, 2, 3, 4, 5, 10, 11, 12, 14, 21, 25, 27, 29, 30, 31, 42, 43, 52] 23 [true] [] [] [.tmp 10, .tmp 11] 0 [] rfl hC trivial ⟨h4, trivial⟩ (by kernel_rfl)
    · replace h := condF h4 h
      rcases boolC ((x4 == 0)) with h5 | h5
      · replace h := condT h5 h
        replace h := Option.some.inj h
        subst h
        exact WI_ret (bs := [(!(F31 x4 0 4), false), ((x4 == 0), true)]) mixed [0, 1, 2, 3, 4, 5, 10, 11, 12, 14, 21, 25, 27, 29, 30, 31, 42, 43, 52] 28 [false, true] [] [] [.tmp 10, .tmp 11] 0 [] rfl hC trivial ⟨h4, h5, trivial⟩ (by kernel_rfl)
      · replace h := condF h5 h
        rcases boolC (((1 != x4) || (0 != x1))) with h6 | h6
        · replace h := condT h6 h
          rcases boolC (((2 != x4) || (1 != x1))) with h7 | h7
          · replace h := condT h7 h
            rcases boolC (((3 != x4) || (1 != x1))) with h8 | h8
            · replace h := condT h8 h
              rcases boolC (((3 != x4) || (2 != x1))) with h9 | h9
              · replace h := condT h9 h
                refine WI_stop (bs := [(!(F31 x4 0 4), false), ((x4 == 0), false), (true, true), (((1 != x4) || (0 != x1)), true), (true, true), (((2 != x4) || (1 != x1)), true), (true, true), (((3 != x4) || (1 != x1)), true), (true, true), (((3 != x4) || (2 != x1)), true), (true, true)]) mixed [0, 1, 2, 3, 4, 5, 10, 11, 12, 14, 21, 25, 27, 29, 30, 31, 42, 43, 52] 108 [false, false, true, true, true, true, true, true, true, true, true, true, true] [] [] 0 [0, 5] [(1, .d (I x1)), (2, .d (I x2)), (3, .d (I x3)), (4, .d (I x4)), (5, .d (.o 0 0)), (10, .d (I 0)), (11, .d (I 0)), (14, .d (.o 1 0)), (29, .agg [I 1, I 0, I 1, Bo true, I 2, I 1, I 2, Bo true, I 3, I 1, I 0, Bo false, I 3, I 2, I 4, Bo false, I 3, I 3, I 4, Bo false, I 4, I 5, I 0, Bo false]), (30, .d (I 4)), (31, .d (Bo true)), (42, .d (Bo ((3 != x4) || (3 != x1))))] [.box 31 [.p (.v (.string x0.Name)), I x0.Class, I x0.Circle.Place.X, I x0.Circle.Place.Y, I x0.Circle.Yellow, I x0.Circle.Red, I x0.Drift], .box 65 [I 3, I 3, I 4, Bo false]] hC trivial ⟨h4, h5, rfl, h6, rfl, h7, rfl, h8, rfl, h9, rfl, trivial⟩ (by kernel_rfl) ?_
                rcases boolC (((3 != x4) || (3 != x1))) with h10 | h10
                · replace h := condT h10 h
                  rcases boolC (((4 != x4) || (5 != x1))) with h11 | h11
                  · replace h := condT h11 h
                    replace h := Option.some.inj h
                    subst h
                    exact WI_ret (bs := [(((3 != x4) || (3 != x1)), true), (true, true), (((4 != x4) || (5 != x1)), true), (false, false)]) mixed [0, 1, 2, 3, 4, 5, 10, 11, 12, 14, 21, 25, 27, 29, 30, 31, 42, 43, 52] 47 [true, true, true, false] [] [] [.tmp 10, .tmp 11] 0 [] rfl hC trivial ⟨h10, rfl, h11, rfl, trivial⟩ (by kernel_rfl)
                  · replace h := condF h11 h
                    replace h := Option.some.inj h
                    subst h
                    exact WI_ret (bs := [(((3 != x4) || (3 != x1)), true), (true, true), (((4 != x4) || (5 != x1)), false), (false, false), (false, false)]) mixed [0, 1, 2, 3, 4, 5, 10, 11, 12, 14, 21, 25, 27, 29, 30, 31, 42, 43, 52] 50 [true, true, false, false, false] [] [] [.tmp 10, .tmp 11] 0 [] rfl hC trivial ⟨h10, rfl, h11, rfl, rfl, trivial⟩ (by kernel_rfl)
                · replace h := condF h10 h
                  replace h := Option.some.inj h
                  subst h
                  exact WI_ret (bs := [(((3 != x4) || (3 != x1)), false), (false, false), (false, false)]) mixed [0, 1, 2, 3, 4, 5, 10, 11, 12, 14, 21, 25, 27, 29, 30, 31, 42, 43, 52] 34 [false, false, false] [] [] [.tmp 10, .tmp 11] 0 [] rfl hC trivial ⟨h10, rfl, rfl, trivial⟩ (by kernel_rfl)
              · replace h := condF h9 h
                replace h := Option.some.inj h
                subst h
                exact WI_ret (bs := [(!(F31 x4 0 4), false), ((x4 == 0), false), (true, true), (((1 != x4) || (0 != x1)), true), (true, true), (((2 != x4) || (1 != x1)), true), (true, true), (((3 != x4) || (1 != x1)), true), (true, true), (((3 != x4) || (2 != x1)), false), (false, false), (false, false)]) mixed [0, 1, 2, 3, 4, 5, 10, 11, 12, 14, 21, 25, 27, 29, 30, 31, 42, 43, 52] 106 [false, false, true, true, true, true, true, true, true, true, true, false, false, false] [] [] [.tmp 10, .tmp 11] 0 [] rfl hC trivial ⟨h4, h5, rfl, h6, rfl, h7, rfl, h8, rfl, h9, rfl, rfl, trivial⟩ (by kernel_rfl)
            · replace h := condF h8 h
              replace h := Option.some.inj h
              subst h
              exact WI_ret (bs := [(!(F31 x4 0 4), false), ((x4 == 0), false), (true, true), (((1 != x4) || (0 != x1)), true), (true, true), (((2 != x4) || (1 != x1)), true), (true, true), (((3 != x4) || (1 != x1)), false), (false, false), (false, false)]) mixed [0, 1, 2, 3, 4, 5, 10, 11, 12, 14, 21, 25, 27, 29, 30, 31, 42, 43, 52] 90 [false, false, true, true, true, true, true, true, true, false, false, false] [] [] [.tmp 10, .tmp 11] 0 [] rfl hC trivial ⟨h4, h5, rfl, h6, rfl, h7, rfl, h8, rfl, rfl, trivial⟩ (by kernel_rfl)
          · replace h := condF h7 h
            rcases boolC (decide (x2 < x0.Class)) with h12 | h12
            · replace h := condT h12 h
              replace h := Option.some.inj h
              subst h
              exact WI_ret (bs := [(!(F31 x4 0 4), false), ((x4 == 0), false), (true, true), (((1 != x4) || (0 != x1)), true), (true, true), (((2 != x4) || (1 != x1)), false), (decide (x2 < x0.Class), true)]) mixed [0, 1, 2, 3, 4, 5, 10, 11, 12, 14, 21, 25, 27, 29, 30, 31, 42, 43, 52] 69 [false, false, true, true, true, true, true, false, true] [] [] [.tmp 10, .tmp 11] 0 [] rfl hC trivial ⟨h4, h5, rfl, h6, rfl, h7, h12, trivial⟩ (by kernel_rfl)
            · replace h := condF h12 h
              rcases boolC ((x3 != 1)) with h13 | h13
              · replace h := condT h13 h
                replace h := Option.some.inj h
                subst h
                exact WI_ret (bs := [(!(F31 x4 0 4), false), ((x4 == 0), false), (true, true), (((1 != x4) || (0 != x1)), true), (true, true), (((2 != x4) || (1 != x1)), false), (decide (x2 < x0.Class), false), ((x3 != 1), true)]) mixed [0, 1, 2, 3, 4, 5, 10, 11, 12, 14, 21, 25, 27, 29, 30, 31, 42, 43, 52] 72 [false, false, true, true, true, true, true, false, false, true] [] [] [.tmp 10, .tmp 11] 0 [] rfl hC trivial ⟨h4, h5, rfl, h6, rfl, h7, h12, h13, trivial⟩ (by kernel_rfl)
              · replace h := condF h13 h
                replace h := Option.some.inj h
                subst h
                exact WI_ret (bs := [(!(F31 x4 0 4), false), ((x4 == 0), false), (true, true), (((1 != x4) || (0 != x1)), true), (true, true), (((2 != x4) || (1 != x1)), false), (decide (x2 < x0.Class), false), ((x3 != 1), false)]) mixed [0, 1, 2, 3, 4, 5, 10, 11, 12, 14, 21, 25, 27, 29, 30, 31, 42, 43, 52] 74 [false, false, true, true, true, true, true, false, false, false] [] [] [.tmp 10, .tmp 11] 0 [] rfl hC trivial ⟨h4, h5, rfl, h6, rfl, h7, h12, h13, trivial⟩ (by kernel_rfl)
        · replace h := condF h6 h
          rcases boolC (decide (x2 < x0.Class)) with h14 | h14
          · replace h := condT h14 h
            replace h := Option.some.inj h
            subst h
            exact WI_ret (bs := [(!(F31 x4 0 4), false), ((x4 == 0), false), (true, true), (((1 != x4) || (0 != x1)), false), (decide (x2 < x0.Class), true)]) mixed [0, 1, 2, 3, 4, 5, 10, 11, 12, 14, 21, 25, 27, 29, 30, 31, 42, 43, 52] 53 [false, false, true, true, true, false, true] [] [] [.tmp 10, .tmp 11] 0 [] rfl hC trivial ⟨h4, h5, rfl, h6, h14, trivial⟩ (by kernel_rfl)
          · replace h := condF h14 h
            rcases boolC ((x3 != 1)) with h15 | h15
            · replace h := condT h15 h
              replace h := Option.some.inj h
              subst h
              exact WI_ret (bs := [(!(F31 x4 0 4), false), ((x4 == 0), false), (true, true), (((1 != x4) || (0 != x1)), false), (decide (x2 < x0.Class), false), ((x3 != 1), true)]) mixed [0, 1, 2, 3, 4, 5, 10, 11, 12, 14, 21, 25, 27, 29, 30, 31, 42, 43, 52] 56 [false, false, true, true, true, false, false, true] [] [] [.tmp 10, .tmp 11] 0 [] rfl hC trivial ⟨h4, h5, rfl, h6, h14, h15, trivial⟩ (by kernel_rfl)
            · replace h := condF h15 h
              replace h := Option.some.inj h
              subst h
              exact WI_ret (bs := [(!(F31 x4 0 4), false), ((x4 == 0), false), (true, true), (((1 != x4) || (0 != x1)), false), (decide (x2 < x0.Class), false), ((x3 != 1), false)]) mixed [0, 1, 2, 3, 4, 5, 10, 11, 12, 14, 21, 25, 27, 29, 30, 31, 42, 43, 52] 58 [false, false, true, true, true, false, false, false] [] [] [.tmp 10, .tmp 11] 0 [] rfl hC trivial ⟨h4, h5, rfl, h6, h14, h15, trivial⟩ (by kernel_rfl)
theorem e14 : Enters Tryd.prog 14 := enters_of Tryd.func14 (by kernel_rfl) (by kernel_rfl)
theorem k9  (r : Bool) (h : F9  = some r) : CallOk Tryd.prog 9 [] [] (.d (Bo r)) [] := by
  unfold F9 at h
  refine callOk_of 42 Tryd.func9 rfl rfl rfl fun C hC => ?_
  obtain ⟨y1, h2, h⟩ := bindE h
  obtain ⟨y3, h4, h⟩ := bindE h
  obtain ⟨y5, h6, h⟩ := bindE h
  replace h := Option.some.inj h
  subst h
  exact WI_ret (bs := []) mixed [0, 1, 2, 3, 4, 5, 7] 33 [] [.call 15 [.agg [.p (.v (.string (⟨#[100, 114, 105, 108, 108]⟩))), I 3, I 0, I 0, I 0, I 0, I 0], .d (I 2), .d (I 2), .d (I 1), .d (Bo false)] [] (.tup [.d (I y1.1), .d (I y1.2)]) [] [], .call 15 [.agg [.p (.v (.string (⟨#[100, 114, 105, 108, 108]⟩))), I 3, I 0, I 0, I 0, I 0, I 0], .d (I 2), .d (I 1), .d (I 1), .d (Bo false)] [] (.tup [.d (I y3.1), .d (I y3.2)]) [] [], .call 14 [.agg [.p (.v (.string (⟨#[100, 114, 105, 108, 108]⟩))), I 3, I 0, I 0, I 0, I 0, I 0], .d (I 0), .d (I 2), .d (I 1), .d (I 1)] [] (.tup [.d (I y5.1), .d (I y5.2)]) [] []] [] [.tmp 0] 0 [] rfl hC ⟨⟨e15, k15 (⟨⟨#[100, 114, 105, 108, 108]⟩, 3, (⟨(⟨0, 0⟩ : api_Point), 0, 0⟩ : api_Circle), 0⟩ : api_Operation) 2 2 1 false _ h2⟩, ⟨e15, k15 (⟨⟨#[100, 114, 105, 108, 108]⟩, 3, (⟨(⟨0, 0⟩ : api_Point), 0, 0⟩ : api_Circle), 0⟩ : api_Operation) 2 1 1 false _ h4⟩, ⟨e14, k14 (⟨⟨#[100, 114, 105, 108, 108]⟩, 3, (⟨(⟨0, 0⟩ : api_Point), 0, 0⟩ : api_Circle), 0⟩ : api_Operation) 0 2 1 1 _ h6⟩, trivial⟩ trivial (by kernel_rfl)
theorem e9 : Enters Tryd.prog 9 := enters_of Tryd.func9 (by kernel_rfl) (by kernel_rfl)
theorem k10 (x0 : List Int) (r : dynposmake_Src) (h : F10 x0 = some r) : CallOk Tryd.prog 10 [.d (.p (.s (x0.map pI)))] [] (.d (.o 0 0)) [.box 58 [.p (.s (r.L.map pI)), I r.At]] := by
  unfold F10 at h
  refine callOk_of 10 Tryd.func10 rfl rfl rfl fun C hC => ?_
  obtain ⟨y2, h1, h⟩ := bindE h
  replace h := Option.some.inj h
  subst h
  exact WI_ret (bs := []) mixed [0, 2] 25 [] [.len ((x0.map pI).length : Int) (x0.length : Int), .cut (x0.map pI) 1 0 (min (x0.length : Int) 600) (y2.map pI)] [] [.tmp 2] 0 [0] rfl hC ⟨len_map _ _, cut_get pI 1 (fun _ => rfl) h1, trivial⟩ trivial (by kernel_rfl)
theorem e10 : Enters Tryd.prog 10 := enters_of Tryd.func10 (by kernel_rfl) (by kernel_rfl)
theorem k33 (x0 : Int) (x1 : Int) (r : Int) (h : F33 x0 x1 = some r) : CallOk Tryd.prog 33 [.d (I x0), .d (I x1)] [] (.d (I r)) [] := by
  unfold F33 at h
  refine callOk_of 14 Tryd.func33 rfl rfl rfl fun C hC => ?_
  rcases boolC (decide (x1 < 1)) with h1 | h1
  · replace h := condT h1 h
    replace h := Option.some.inj h
    subst h
    exact WI_ret (bs := [(decide (x1 < 1), true)]) mixed [0, 1, 4, 6] 29 [true] [] [] [.tmp 4] 0 [] rfl hC trivial ⟨h1, trivial⟩ (by kernel_rfl)
  · replace h := condF h1 h
    obtain ⟨u3, h2, h⟩ := bindE h
    obtain ⟨u5, h4, h⟩ := bindE h
    replace h := Option.some.inj h
    subst h
    exact WI_ret (bs := [(decide (x1 < 1), false)]) mixed [0, 1, 4, 6] 30 [false] [.nz x1, .nz x1] [] [.tmp 4] 0 [] rfl hC ⟨nz_get h2, nz_get h4, trivial⟩ ⟨h1, trivial⟩ (by kernel_rfl)
theorem e33 : Enters Tryd.prog 33 := enters_of Tryd.func33 (by kernel_rfl) (by kernel_rfl)
theorem k16 (x0 : dynposmake_Src) (x1 : Int) (r : Int × dynposmake_Src) (h : F16 x0 x1 = some r) : CallOk Tryd.prog 16 [.d (.o 0 0), .d (I x1)] [.box 58 [.p (.s (x0.L.map pI)), I x0.At]] (.d (I r.1)) [.box 58 [.p (.s (r.2.L.map pI)), I r.2.At]] := by
  unfold F16 at h
  refine callOk_of 35 Tryd.func16 rfl rfl rfl fun C hC => ?_
  rcases boolC (decide (x0.At ≥ (x0.L.length : Int))) with h1 | h1
  · replace h := condT h1 h
    replace h := Option.some.inj h
    subst h
    exact WI_ret (bs := [(decide (x0.At ≥ (x0.L.length : Int)), true)]) mixed [0, 1, 4, 14] 29 [true] [.len ((x0.L.map pI).length : Int) (x0.L.length : Int)] [] [.tmp 4] 1 [0] rfl hC ⟨len_map _ _, trivial⟩ ⟨h1, trivial⟩ (by kernel_rfl)
  · replace h := condF h1 h
    obtain ⟨y2, h3, h⟩ := bindE h
    obtain ⟨y4, h5, h⟩ := bindE h
    replace h := Option.some.inj h
    subst h
    exact WI_ret (bs := [(decide (x0.At ≥ (x0.L.length : Int)), false)]) mixed [0, 1, 4, 14] 32 [false] [.len ((x0.L.map pI).length : Int) (x0.L.length : Int), .row (x0.L.map pI) (w64 ((w64 (x0.At + 1)) - 1)) (pI y2), .call 33 [.d (I y2), .d (I x1)] [] (.d (I y4)) [] []] [] [.tmp 4] 1 [0] rfl hC ⟨len_map _ _, row_get h3, ⟨e33, k33 y2 x1 _ h5⟩, trivial⟩ ⟨h1, trivial⟩ (by kernel_rfl)
theorem e16 : Enters Tryd.prog 16 := enters_of Tryd.func16 (by kernel_rfl) (by kernel_rfl)
theorem k28 (x0 : dynposmake_Src) (x1 : List ByteArray) (r : ByteArray × dynposmake_Src) (h : F28 x0 x1 = some r) : CallOk Tryd.prog 28 [.d (.o 0 0), .d (.p (.s (x1.map pS)))] [.box 58 [.p (.s (x0.L.map pI)), I x0.At]] (.d (.p (.v (.string r.1)))) [.box 58 [.p (.s (r.2.L.map pI)), I r.2.At]] := by
  unfold F28 at h
  refine callOk_of 12 Tryd.func28 rfl rfl rfl fun C hC => ?_
  obtain ⟨y1, h2, h⟩ := bindE h
  obtain ⟨y3, h4, h⟩ := bindE h
  replace h := Option.some.inj h
  subst h
  exact WI_ret (bs := []) mixed [0, 1, 4] 25 [] [.len ((x1.map pS).length : Int) (x1.length : Int), .call 16 [.d (.o 0 0), .d (I (x1.length : Int))] [.box 58 [.p (.s (x0.L.map pI)), I x0.At]] (.d (I y1.1)) [.box 58 [.p (.s (y1.2.L.map pI)), I y1.2.At]] [0], .row (x1.map pS) y1.1 (pS y3)] [] [.tmp 4] 1 [0] rfl hC ⟨len_map _ _, ⟨e16, k16 x0 (x1.length : Int) _ h2⟩, row_get h4, trivial⟩ trivial (by kernel_rfl)
theorem e28 : Enters Tryd.prog 28 := enters_of Tryd.func28 (by kernel_rfl) (by kernel_rfl)
theorem k13 (x0 : dynposmake_Src) (x1 : Int) (x2 : Int) (r : Int × dynposmake_Src) (h : F13 x0 x1 x2 = some r) : CallOk Tryd.prog 13 [.d (.o 0 0), .d (I x1), .d (I x2)] [.box 58 [.p (.s (x0.L.map pI)), I x0.At]] (.d (I r.1)) [.box 58 [.p (.s (r.2.L.map pI)), I r.2.At]] := by
  unfold F13 at h
  refine callOk_of 15 Tryd.func13 rfl rfl rfl fun C hC => ?_
  obtain ⟨y1, h2, h⟩ := bindE h
  replace h := Option.some.inj h
  subst h
  exact WI_ret (bs := []) mixed [0, 1, 2, 6] 25 [] [.call 16 [.d (.o 0 0), .d (I (w64 ((w64 (x2 - x1)) + 1)))] [.box 58 [.p (.s (x0.L.map pI)), I x0.At]] (.d (I y1.1)) [.box 58 [.p (.s (y1.2.L.map pI)), I y1.2.At]] [0]] [] [.tmp 6] 1 [0] rfl hC ⟨⟨e16, k16 x0 (w64 ((w64 (x2 - x1)) + 1)) _ h2⟩, trivial⟩ trivial (by kernel_rfl)
theorem e13 : Enters Tryd.prog 13 := enters_of Tryd.func13 (by kernel_rfl) (by kernel_rfl)
theorem k12 (x0 : dynposmake_Src) (x1 : List Int) (r : Int × dynposmake_Src) (h : F12 x0 x1 = some r) : CallOk Tryd.prog 12 [.d (.o 0 0), .d (.p (.s (x1.map pI)))] [.box 58 [.p (.s (x0.L.map pI)), I x0.At]] (.d (I r.1)) [.box 58 [.p (.s (r.2.L.map pI)), I r.2.At]] := by
  unfold F12 at h
  refine callOk_of 12 Tryd.func12 rfl rfl rfl fun C hC => ?_
  obtain ⟨y1, h2, h⟩ := bindE h
  obtain ⟨y3, h4, h⟩ := bindE h
  replace h := Option.some.inj h
  subst h
  exact WI_ret (bs := []) mixed [0, 1, 4] 25 [] [.len ((x1.map pI).length : Int) (x1.length : Int), .call 16 [.d (.o 0 0), .d (I (x1.length : Int))] [.box 58 [.p (.s (x0.L.map pI)), I x0.At]] (.d (I y1.1)) [.box 58 [.p (.s (y1.2.L.map pI)), I y1.2.At]] [0], .row (x1.map pI) y1.1 (pI y3)] [] [.tmp 4] 1 [0] rfl hC ⟨len_map _ _, ⟨e16, k16 x0 (x1.length : Int) _ h2⟩, row_get h4, trivial⟩ trivial (by kernel_rfl)
theorem e12 : Enters Tryd.prog 12 := enters_of Tryd.func12 (by kernel_rfl) (by kernel_rfl)
theorem k29 (x0 : dynposmake_Src) (r : api_Circle × dynposmake_Src) (h : F29 x0 = some r) : CallOk Tryd.prog 29 [.d (.o 0 0)] [.box 58 [.p (.s (x0.L.map pI)), I x0.At]] (.agg [I r.1.Place.X, I r.1.Place.Y, I r.1.Yellow, I r.1.Red]) [.box 58 [.p (.s (r.2.L.map pI)), I r.2.At]] := by
  unfold F29 at h
  refine callOk_of 21 Tryd.func29 rfl rfl rfl fun C hC => ?_
  obtain ⟨y1, h2, h⟩ := bindE h
  obtain ⟨y3, h4, h⟩ := bindE h
  obtain ⟨y5, h6, h⟩ := bindE h
  obtain ⟨y7, h8, h⟩ := bindE h
  replace h := Option.some.inj h
  subst h
  exact WI_ret (bs := []) mixed [0, 2, 3] 27 [] [.call 12 [.d (.o 0 0), .d (.p (.s ([0, 300, 500, 2000].map pI)))] [.box 58 [.p (.s (x0.L.map pI)), I x0.At]] (.d (I y1.1)) [.box 58 [.p (.s (y1.2.L.map pI)), I y1.2.At]] [0], .call 12 [.d (.o 0 0), .d (.p (.s ([0, 0, 200].map pI)))] [.box 58 [.p (.s (y1.2.L.map pI)), I y1.2.At]] (.d (I y3.1)) [.box 58 [.p (.s (y3.2.L.map pI)), I y3.2.At]] [0], .call 12 [.d (.o 0 0), .d (.p (.s ([0, 0, (-100)].map pI)))] [.box 58 [.p (.s (y3.2.L.map pI)), I y3.2.At]] (.d (I y5.1)) [.box 58 [.p (.s (y5.2.L.map pI)), I y5.2.At]] [0], .call 12 [.d (.o 0 0), .d (.p (.s ([0, 500, 3000].map pI)))] [.box 58 [.p (.s (y5.2.L.map pI)), I y5.2.At]] (.d (I y7.1)) [.box 58 [.p (.s (y7.2.L.map pI)), I y7.2.At]] [0]] [] [.cell 2 29] 1 [0] rfl hC ⟨⟨e12, k12 x0 [0, 300, 500, 2000] _ h2⟩, ⟨e12, k12 y1.2 [0, 0, 200] _ h4⟩, ⟨e12, k12 y3.2 [0, 0, (-100)] _ h6⟩, ⟨e12, k12 y5.2 [0, 500, 3000] _ h8⟩, trivial⟩ trivial (by kernel_rfl)
theorem e29 : Enters Tryd.prog 29 := enters_of Tryd.func29 (by kernel_rfl) (by kernel_rfl)
end Go.Proofs.YtakbldjmgfcipaaDoor
