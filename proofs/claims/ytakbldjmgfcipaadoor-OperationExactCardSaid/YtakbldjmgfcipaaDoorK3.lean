import Derived.Test.YtakbldjmgfcipaaDoorRows
import Derived.Test.YtakbldjmgfcipaaDoorK2
set_option linter.unusedVariables false
namespace Go.Proofs.YtakbldjmgfcipaaDoor
open Go.SL
def sa24_0 (x1 : Int) (x2 : Int) (x3 : Int) (x4 : Bool) (s24_0 : Bool) : St := [(1, .d (I x1)), (2, .d (I x2)), (3, .d (I x3)), (4, .d (Bo x4)), (5, .d (.o 0 0)), (10, .d (I 0)), (11, .d (I 0)), (27, .d (I x1)), (35, .d (Bo s24_0))]
def Ra24_0 (x0 : api_Operation) (s24_0 : Bool) : List Res := [.box 31 [.p (.v (.string x0.Name)), I x0.Class, I x0.Circle.Place.X, I x0.Circle.Place.Y, I x0.Circle.Yellow, I x0.Circle.Red, I x0.Drift]]
theorem k24 (x0 : api_Operation) (x1 : Int) (x2 : Int) (x3 : Int) (x4 : Bool) (r : Int × Int) (h : F24 x0 x1 x2 x3 x4 = some r) : CallOk Tryd.prog 24 [.agg [.p (.v (.string x0.Name)), I x0.Class, I x0.Circle.Place.X, I x0.Circle.Place.Y, I x0.Circle.Yellow, I x0.Circle.Red, I x0.Drift], .d (I x1), .d (I x2), .d (I x3), .d (Bo x4)] [] (.tup [.d (I r.1), .d (I r.2)]) [] := by
  unfold F24 at h
  refine callOk_of 52 Tryd.func24 rfl rfl rfl fun C hC => ?_
  obtain ⟨y1, h2, h⟩ := bindE h
  rcases boolC ((y1 != 0)) with h3 | h3
  · replace h := condT h3 h
    replace h := Option.some.inj h
    subst h
    exact WI_ret (bs := [((y1 != 0), true)]) mixed [0, 1, 2, 3, 4, 5, 10, 11, 12, 16, 26, 27, 28, 34, 35, 43, 47, 48, 50] 31 [true] [.call 23 [.agg [.p (.v (.string x0.Name)), I x0.Class, I x0.Circle.Place.X, I x0.Circle.Place.Y, I x0.Circle.Yellow, I x0.Circle.Red, I x0.Drift]] [] (.d (I y1)) [] []] [] [.tmp 10, .tmp 11] 0 [] rfl hC ⟨⟨e23, k23 x0 _ h2⟩, trivial⟩ ⟨h3, trivial⟩ (by kernel_rfl)
  · replace h := condF h3 h
    refine WI_stop (bs := [((y1 != 0), false)]) mixed [0, 1, 2, 3, 4, 5, 10, 11, 12, 16, 26, 27, 28, 34, 35, 43, 47, 48, 50] 33 [false] [.call 23 [.agg [.p (.v (.string x0.Name)), I x0.Class, I x0.Circle.Place.X, I x0.Circle.Place.Y, I x0.Circle.Yellow, I x0.Circle.Red, I x0.Drift]] [] (.d (I y1)) [] [], .call 39 [.d (I x1), .d (I 0), .d (I 5)] [] (.d (Bo (F39 x1 0 5))) [] [], .when [(!(F39 x1 0 5), false)] (.call 41 [.d (I x2), .d (I x3)] [] (.d (Bo (F41 x2 x3))) [] [])] [] 0 [0] [(1, .d (I x1)), (2, .d (I x2)), (3, .d (I x3)), (4, .d (Bo x4)), (5, .d (.o 0 0)), (10, .d (I 0)), (11, .d (I 0)), (26, .d (Bo ((!(F39 x1 0 5)) || (!(F41 x2 x3)))))] [.box 31 [.p (.v (.string x0.Name)), I x0.Class, I x0.Circle.Place.X, I x0.Circle.Place.Y, I x0.Circle.Yellow, I x0.Circle.Red, I x0.Drift]] hC ⟨⟨e23, k23 x0 _ h2⟩, ⟨e39, k39 x1 0 5 _ rfl⟩, fun hg => ⟨e41, k41 x2 x3 _ rfl⟩, trivial⟩ ⟨h3, trivial⟩ (by kernel_rfl) ?_
    rcases boolC (((!(F39 x1 0 5)) || (!(F41 x2 x3)))) with h4 | h4
    · replace h := condT h4 h
      replace h := Option.some.inj h
      subst h
      exact WI_ret (bs := [(((!(F39 x1 0 5)) || (!(F41 x2 x3))), true)]) mixed [0, 1, 2, 3, 4, 5, 10, 11, 12, 16, 26, 27, 28, 34, 35, 43, 47, 48, 50] 23 [true] [] [] [.tmp 10, .tmp 11] 0 [] rfl hC trivial ⟨h4, trivial⟩ (by kernel_rfl)
    · replace h := condF h4 h
      rcases boolC ((x1 == 1)) with h5 | h5
      · replace h := condT h5 h
        obtain ⟨y6, h7, h⟩ := bindE h
        rcases boolC (!y6) with h8 | h8
        · replace h := condT h8 h
          replace h := Option.some.inj h
          subst h
          exact WI_ret (bs := [(((!(F39 x1 0 5)) || (!(F41 x2 x3))), false), ((x1 == 1), true), (!y6, true)]) mixed [0, 1, 2, 3, 4, 5, 10, 11, 12, 16, 26, 27, 28, 34, 35, 43, 47, 48, 50] 34 [false, true, true] [.call 26 [.agg [.p (.v (.string x0.Name)), I x0.Class, I x0.Circle.Place.X, I x0.Circle.Place.Y, I x0.Circle.Yellow, I x0.Circle.Red, I x0.Drift], .d (I x2), .d (I x3)] [] (.d (Bo y6)) [] []] [] [.tmp 10, .tmp 11] 0 [] rfl hC ⟨⟨e26, k26 x0 x2 x3 _ h7⟩, trivial⟩ ⟨h4, h5, h8, trivial⟩ (by kernel_rfl)
        · replace h := condF h8 h
          replace h := Option.some.inj h
          subst h
          exact WI_ret (bs := [(((!(F39 x1 0 5)) || (!(F41 x2 x3))), false), ((x1 == 1), true), (!y6, false)]) mixed [0, 1, 2, 3, 4, 5, 10, 11, 12, 16, 26, 27, 28, 34, 35, 43, 47, 48, 50] 36 [false, true, false] [.call 26 [.agg [.p (.v (.string x0.Name)), I x0.Class, I x0.Circle.Place.X, I x0.Circle.Place.Y, I x0.Circle.Yellow, I x0.Circle.Red, I x0.Drift], .d (I x2), .d (I x3)] [] (.d (Bo y6)) [] []] [] [.tmp 10, .tmp 11] 0 [] rfl hC ⟨⟨e26, k26 x0 x2 x3 _ h7⟩, trivial⟩ ⟨h4, h5, h8, trivial⟩ (by kernel_rfl)
      · replace h := condF h5 h
        refine WI_stop (bs := [(((!(F39 x1 0 5)) || (!(F41 x2 x3))), false), ((x1 == 1), false)]) mixed [0, 1, 2, 3, 4, 5, 10, 11, 12, 16, 26, 27, 28, 34, 35, 43, 47, 48, 50] 32 [false, false] [] [] 0 [0] [(1, .d (I x1)), (2, .d (I x2)), (3, .d (I x3)), (4, .d (Bo x4)), (5, .d (.o 0 0)), (10, .d (I 0)), (11, .d (I 0)), (27, .d (I x1)), (35, .d (Bo (x1 == 2)))] [.box 31 [.p (.v (.string x0.Name)), I x0.Class, I x0.Circle.Place.X, I x0.Circle.Place.Y, I x0.Circle.Yellow, I x0.Circle.Red, I x0.Drift]] hC trivial ⟨h4, h5, trivial⟩ (by kernel_rfl) ?_
        obtain ⟨k24_0, h, hret24_0, hnext24_0⟩ := andThen_inv h
        refine WI_cut (by kernel_rfl) (fun s => k24_0 = .next s) (sa24_0 x1 x2 x3 x4) (Ra24_0 x0) ?_ fun s24_0 hs24_0 => ?_
        · unfold F24_m0 at h
          rcases boolC ((x1 == 2)) with h9 | h9
          · replace h := condT h9 h
            exact WI_end (bs := [((x1 == 2), true)]) (φ := fun s' => k24_0 = .next s') (st' := (sa24_0 x1 x2 x3 x4)) (R' := (Ra24_0 x0)) mixed [0, 1, 2, 3, 4, 5, 10, 11, 12, 16, 26, 27, 28, 34, 35, 43, 47, 48, 50] 23 [true] [] [] 0 [0] (x1 == 2) hC trivial ⟨h9, trivial⟩ (by kernel_rfl) (by kernel_rfl) (Option.some.inj h).symm
          · replace h := condF h9 h
            exact WI_end (bs := [((x1 == 2), false)]) (φ := fun s' => k24_0 = .next s') (st' := (sa24_0 x1 x2 x3 x4)) (R' := (Ra24_0 x0)) mixed [0, 1, 2, 3, 4, 5, 10, 11, 12, 16, 26, 27, 28, 34, 35, 43, 47, 48, 50] 23 [false] [] [] 0 [0] (x1 == 3) hC trivial ⟨h9, trivial⟩ (by kernel_rfl) (by kernel_rfl) (Option.some.inj h).symm
        · clear h; have h := hnext24_0 _ hs24_0
          rcases boolC (s24_0) with h10 | h10
          · replace h := condT h10 h
            rcases boolC (((x3 == 3) || (x2 == 1))) with h11 | h11
            · replace h := condT h11 h
              replace h := Option.some.inj h
              subst h
              exact WI_ret (bs := [(s24_0, true), (((x3 == 3) || (x2 == 1)), true)]) mixed [0, 1, 2, 3, 4, 5, 10, 11, 12, 16, 26, 27, 28, 34, 35, 43, 47, 48, 50] 28 [true, true] [] [] [.tmp 10, .tmp 11] 0 [] rfl hC trivial ⟨h10, h11, trivial⟩ (by kernel_rfl)
            · replace h := condF h11 h
              obtain ⟨y12, h13, h⟩ := bindE h
              rcases boolC (y12) with h14 | h14
              · replace h := condT h14 h
                replace h := Option.some.inj h
                subst h
                exact WI_ret (bs := [(s24_0, true), (((x3 == 3) || (x2 == 1)), false), (y12, true)]) mixed [0, 1, 2, 3, 4, 5, 10, 11, 12, 16, 26, 27, 28, 34, 35, 43, 47, 48, 50] 33 [true, false, true] [.call 26 [.agg [.p (.v (.string x0.Name)), I x0.Class, I x0.Circle.Place.X, I x0.Circle.Place.Y, I x0.Circle.Yellow, I x0.Circle.Red, I x0.Drift], .d (I x2), .d (I x3)] [] (.d (Bo y12)) [] []] [] [.tmp 10, .tmp 11] 0 [] rfl hC ⟨⟨e26, k26 x0 x2 x3 _ h13⟩, trivial⟩ ⟨h10, h11, h14, trivial⟩ (by kernel_rfl)
              · replace h := condF h14 h
                replace h := Option.some.inj h
                subst h
                exact WI_ret (bs := [(s24_0, true), (((x3 == 3) || (x2 == 1)), false), (y12, false)]) mixed [0, 1, 2, 3, 4, 5, 10, 11, 12, 16, 26, 27, 28, 34, 35, 43, 47, 48, 50] 34 [true, false, false] [.call 26 [.agg [.p (.v (.string x0.Name)), I x0.Class, I x0.Circle.Place.X, I x0.Circle.Place.Y, I x0.Circle.Yellow, I x0.Circle.Red, I x0.Drift], .d (I x2), .d (I x3)] [] (.d (Bo y12)) [] []] [] [.tmp 10, .tmp 11] 0 [] rfl hC ⟨⟨e26, k26 x0 x2 x3 _ h13⟩, trivial⟩ ⟨h10, h11, h14, trivial⟩ (by kernel_rfl)
          · replace h := condF h10 h
            rcases boolC ((x1 == 4)) with h15 | h15
            · replace h := condT h15 h
              rcases boolC (x4) with h16 | h16
              · replace h := condT h16 h
                replace h := Option.some.inj h
                subst h
                exact WI_ret (bs := [(s24_0, false), ((x1 == 4), true), (x4, true)]) mixed [0, 1, 2, 3, 4, 5, 10, 11, 12, 16, 26, 27, 28, 34, 35, 43, 47, 48, 50] 30 [false, true, true] [] [] [.tmp 10, .tmp 11] 0 [] rfl hC trivial ⟨h10, h15, h16, trivial⟩ (by kernel_rfl)
              · replace h := condF h16 h
                replace h := Option.some.inj h
                subst h
                exact WI_ret (bs := [(s24_0, false), ((x1 == 4), true), (x4, false)]) mixed [0, 1, 2, 3, 4, 5, 10, 11, 12, 16, 26, 27, 28, 34, 35, 43, 47, 48, 50] 32 [false, true, false] [] [] [.tmp 10, .tmp 11] 0 [] rfl hC trivial ⟨h10, h15, h16, trivial⟩ (by kernel_rfl)
            · replace h := condF h15 h
              replace h := Option.some.inj h
              subst h
              exact WI_ret (bs := [(s24_0, false), ((x1 == 4), false)]) mixed [0, 1, 2, 3, 4, 5, 10, 11, 12, 16, 26, 27, 28, 34, 35, 43, 47, 48, 50] 29 [false, false] [] [] [.tmp 10, .tmp 11] 0 [] rfl hC trivial ⟨h10, h15, trivial⟩ (by kernel_rfl)
theorem e24 : Enters Tryd.prog 24 := enters_of Tryd.func24 (by kernel_rfl) (by kernel_rfl)
def sa25_0 (x2 : Int) (x3 : Int) (x4 : Int) (s25_0 : Int) : St := [(2, .d (I x2)), (3, .d (I x3)), (4, .d (I x4)), (5, .d (.o 0 0)), (10, .d (I 0)), (11, .d (I 0)), (13, .d (I s25_0))]
def Ra25_0 (x0 : api_Operation) (s25_0 : Int) : List Res := [.box 31 [.p (.v (.string x0.Name)), I x0.Class, I x0.Circle.Place.X, I x0.Circle.Place.Y, I x0.Circle.Yellow, I x0.Circle.Red, I x0.Drift]]
theorem k25 (x0 : api_Operation) (x1 : Int) (x2 : Int) (x3 : Int) (x4 : Int) (r : Int × Int) (h : F25 x0 x1 x2 x3 x4 = some r) : CallOk Tryd.prog 25 [.agg [.p (.v (.string x0.Name)), I x0.Class, I x0.Circle.Place.X, I x0.Circle.Place.Y, I x0.Circle.Yellow, I x0.Circle.Red, I x0.Drift], .d (I x1), .d (I x2), .d (I x3), .d (I x4)] [] (.tup [.d (I r.1), .d (I r.2)]) [] := by
  unfold F25 at h
  refine callOk_of 74 Tryd.func25 rfl rfl rfl fun C hC => ?_
  obtain ⟨y1, h2, h⟩ := bindE h
  rcases boolC ((y1 != 0)) with h3 | h3
  · replace h := condT h3 h
    replace h := Option.some.inj h
    subst h
    exact WI_ret (bs := [((y1 != 0), true)]) mixed [0, 1, 2, 3, 4, 5, 10, 11, 12, 13, 17, 32, 33, 34, 37, 40, 41, 44, 45, 48, 54, 55, 58, 60, 66, 70, 72] 31 [true] [.call 23 [.agg [.p (.v (.string x0.Name)), I x0.Class, I x0.Circle.Place.X, I x0.Circle.Place.Y, I x0.Circle.Yellow, I x0.Circle.Red, I x0.Drift]] [] (.d (I y1)) [] []] [] [.tmp 10, .tmp 11] 0 [] rfl hC ⟨⟨e23, k23 x0 _ h2⟩, trivial⟩ ⟨h3, trivial⟩ (by kernel_rfl)
  · replace h := condF h3 h
    refine WI_stop (bs := [((y1 != 0), false)]) mixed [0, 1, 2, 3, 4, 5, 10, 11, 12, 13, 17, 32, 33, 34, 37, 40, 41, 44, 45, 48, 54, 55, 58, 60, 66, 70, 72] 33 [false] [.call 23 [.agg [.p (.v (.string x0.Name)), I x0.Class, I x0.Circle.Place.X, I x0.Circle.Place.Y, I x0.Circle.Yellow, I x0.Circle.Red, I x0.Drift]] [] (.d (I y1)) [] [], .call 39 [.d (I x1), .d (I 0), .d (I 5)] [] (.d (Bo (F39 x1 0 5))) [] [], .when [(!(F39 x1 0 5), false)] (.call 41 [.d (I x2), .d (I x3)] [] (.d (Bo (F41 x2 x3))) [] []), .when [(((!(F39 x1 0 5)) || (!(F41 x2 x3))), false)] (.call 39 [.d (I x4), .d (I 0), .d (I 4)] [] (.d (Bo (F39 x4 0 4))) [] [])] [] 0 [0] [(1, .d (I x1)), (2, .d (I x2)), (3, .d (I x3)), (4, .d (I x4)), (5, .d (.o 0 0)), (10, .d (I 0)), (11, .d (I 0)), (32, .d (Bo (c25_0 x1 x2 x3 x4)))] [.box 31 [.p (.v (.string x0.Name)), I x0.Class, I x0.Circle.Place.X, I x0.Circle.Place.Y, I x0.Circle.Yellow, I x0.Circle.Red, I x0.Drift]] hC ⟨⟨e23, k23 x0 _ h2⟩, ⟨e39, k39 x1 0 5 _ rfl⟩, fun hg => ⟨e41, k41 x2 x3 _ rfl⟩, fun hg => ⟨e39, k39 x4 0 4 _ rfl⟩, trivial⟩ ⟨h3, trivial⟩ (by kernel_rfl) ?_
    rcases boolC ((c25_0 x1 x2 x3 x4)) with h4 | h4
    · replace h := condT h4 h
      replace h := Option.some.inj h
      subst h
      exact WI_ret (bs := [((c25_0 x1 x2 x3 x4), true)]) mixed [0, 1, 2, 3, 4, 5, 10, 11, 12, 13, 17, 32, 33, 34, 37, 40, 41, 44, 45, 48, 54, 55, 58, 60, 66, 70, 72] 23 [true] [] [] [.tmp 10, .tmp 11] 0 [] rfl hC trivial ⟨h4, trivial⟩ (by kernel_rfl)
    · replace h := condF h4 h
      refine WI_stop (bs := [((c25_0 x1 x2 x3 x4), false)]) mixed [0, 1, 2, 3, 4, 5, 10, 11, 12, 13, 17, 32, 33, 34, 37, 40, 41, 44, 45, 48, 54, 55, 58, 60, 66, 70, 72] 30 [false] [] [] 0 [0] [(1, .d (I x1)), (2, .d (I x2)), (3, .d (I x3)), (4, .d (I x4)), (5, .d (.o 0 0)), (10, .d (I 0)), (11, .d (I 0)), (13, .d (I (-1))), (33, .d (I x4)), (34, .d (Bo (x4 == 0)))] [.box 31 [.p (.v (.string x0.Name)), I x0.Class, I x0.Circle.Place.X, I x0.Circle.Place.Y, I x0.Circle.Yellow, I x0.Circle.Red, I x0.Drift]] hC trivial ⟨h4, trivial⟩ (by kernel_rfl) ?_
      obtain ⟨k25_0, h, hret25_0, hnext25_0⟩ := andThen_inv h
      refine WI_cut (by kernel_rfl) (fun s => k25_0 = .next s) (sa25_0 x2 x3 x4) (Ra25_0 x0) ?_ fun s25_0 hs25_0 => ?_
      · unfold F25_m0 at h
        rcases boolC ((x4 == 0)) with h5 | h5
        · replace h := condT h5 h
          exact WI_end (bs := [((x4 == 0), true)]) (φ := fun s' => k25_0 = .next s') (st' := (sa25_0 x2 x3 x4)) (R' := (Ra25_0 x0)) mixed [0, 1, 2, 3, 4, 5, 10, 11, 12, 13, 17, 32, 33, 34, 37, 40, 41, 44, 45, 48, 54, 55, 58, 60, 66, 70, 72] 23 [true] [] [] 0 [0] x1 hC trivial ⟨h5, trivial⟩ (by kernel_rfl) (by kernel_rfl) (Option.some.inj h).symm
        · replace h := condF h5 h
          rcases boolC ((x4 == 1)) with h6 | h6
          · replace h := condT h6 h
            rcases boolC ((x1 == 0)) with h7 | h7
            · replace h := condT h7 h
              exact WI_end (bs := [((x4 == 0), false), ((x4 == 1), true), ((x1 == 0), true)]) (φ := fun s' => k25_0 = .next s') (st' := (sa25_0 x2 x3 x4)) (R' := (Ra25_0 x0)) mixed [0, 1, 2, 3, 4, 5, 10, 11, 12, 13, 17, 32, 33, 34, 37, 40, 41, 44, 45, 48, 54, 55, 58, 60, 66, 70, 72] 29 [false, true, true] [] [] 0 [0] 1 hC trivial ⟨h5, h6, h7, trivial⟩ (by kernel_rfl) (by kernel_rfl) (Option.some.inj h).symm
            · replace h := condF h7 h
              exact WI_end (bs := [((x4 == 0), false), ((x4 == 1), true), ((x1 == 0), false)]) (φ := fun s' => k25_0 = .next s') (st' := (sa25_0 x2 x3 x4)) (R' := (Ra25_0 x0)) mixed [0, 1, 2, 3, 4, 5, 10, 11, 12, 13, 17, 32, 33, 34, 37, 40, 41, 44, 45, 48, 54, 55, 58, 60, 66, 70, 72] 29 [false, true, false] [] [] 0 [0] (-1) hC trivial ⟨h5, h6, h7, trivial⟩ (by kernel_rfl) (by kernel_rfl) (Option.some.inj h).symm
          · replace h := condF h6 h
            rcases boolC ((x4 == 2)) with h8 | h8
            · replace h := condT h8 h
              rcases boolC ((x1 == 1)) with h9 | h9
              · replace h := condT h9 h
                exact WI_end (bs := [((x4 == 0), false), ((x4 == 1), false), ((x4 == 2), true), ((x1 == 1), true)]) (φ := fun s' => k25_0 = .next s') (st' := (sa25_0 x2 x3 x4)) (R' := (Ra25_0 x0)) mixed [0, 1, 2, 3, 4, 5, 10, 11, 12, 13, 17, 32, 33, 34, 37, 40, 41, 44, 45, 48, 54, 55, 58, 60, 66, 70, 72] 32 [false, false, true, true] [] [] 0 [0] 2 hC trivial ⟨h5, h6, h8, h9, trivial⟩ (by kernel_rfl) (by kernel_rfl) (Option.some.inj h).symm
              · replace h := condF h9 h
                exact WI_end (bs := [((x4 == 0), false), ((x4 == 1), false), ((x4 == 2), true), ((x1 == 1), false)]) (φ := fun s' => k25_0 = .next s') (st' := (sa25_0 x2 x3 x4)) (R' := (Ra25_0 x0)) mixed [0, 1, 2, 3, 4, 5, 10, 11, 12, 13, 17, 32, 33, 34, 37, 40, 41, 44, 45, 48, 54, 55, 58, 60, 66, 70, 72] 32 [false, false, true, false] [] [] 0 [0] (-1) hC trivial ⟨h5, h6, h8, h9, trivial⟩ (by kernel_rfl) (by kernel_rfl) (Option.some.inj h).symm
            · replace h := condF h8 h
              rcases boolC ((x4 == 3)) with h10 | h10
              · replace h := condT h10 h
                rcases boolC ((x1 == 1)) with h11 | h11
                · replace h := condT h11 h
                  rcases boolC (((x1 == 2) || (x1 == 3))) with h12 | h12
                  · replace h := condT h12 h
                    exact WI_end (bs := [((x4 == 0), false), ((x4 == 1), false), ((x4 == 2), false), ((x4 == 3), true), ((x1 == 1), true), (((x1 == 2) || (x1 == 3)), true)]) (φ := fun s' => k25_0 = .next s') (st' := (sa25_0 x2 x3 x4)) (R' := (Ra25_0 x0)) mixed [0, 1, 2, 3, 4, 5, 10, 11, 12, 13, 17, 32, 33, 34, 37, 40, 41, 44, 45, 48, 54, 55, 58, 60, 66, 70, 72] 40 [false, false, false, true, true, true] [] [] 0 [0] 4 hC trivial ⟨h5, h6, h8, h10, h11, h12, trivial⟩ (by kernel_rfl) (by kernel_rfl) (Option.some.inj h).symm
                  · replace h := condF h12 h
                    exact WI_end (bs := [((x4 == 0), false), ((x4 == 1), false), ((x4 == 2), false), ((x4 == 3), true), ((x1 == 1), true), (((x1 == 2) || (x1 == 3)), false)]) (φ := fun s' => k25_0 = .next s') (st' := (sa25_0 x2 x3 x4)) (R' := (Ra25_0 x0)) mixed [0, 1, 2, 3, 4, 5, 10, 11, 12, 13, 17, 32, 33, 34, 37, 40, 41, 44, 45, 48, 54, 55, 58, 60, 66, 70, 72] 40 [false, false, false, true, true, false] [] [] 0 [0] 0 hC trivial ⟨h5, h6, h8, h10, h11, h12, trivial⟩ (by kernel_rfl) (by kernel_rfl) (Option.some.inj h).symm
                · replace h := condF h11 h
                  rcases boolC (((x1 == 2) || (x1 == 3))) with h13 | h13
                  · replace h := condT h13 h
                    exact WI_end (bs := [((x4 == 0), false), ((x4 == 1), false), ((x4 == 2), false), ((x4 == 3), true), ((x1 == 1), false), (((x1 == 2) || (x1 == 3)), true)]) (φ := fun s' => k25_0 = .next s') (st' := (sa25_0 x2 x3 x4)) (R' := (Ra25_0 x0)) mixed [0, 1, 2, 3, 4, 5, 10, 11, 12, 13, 17, 32, 33, 34, 37, 40, 41, 44, 45, 48, 54, 55, 58, 60, 66, 70, 72] 40 [false, false, false, true, false, true] [] [] 0 [0] 4 hC trivial ⟨h5, h6, h8, h10, h11, h13, trivial⟩ (by kernel_rfl) (by kernel_rfl) (Option.some.inj h).symm
                  · replace h := condF h13 h
                    exact WI_end (bs := [((x4 == 0), false), ((x4 == 1), false), ((x4 == 2), false), ((x4 == 3), true), ((x1 == 1), false), (((x1 == 2) || (x1 == 3)), false)]) (φ := fun s' => k25_0 = .next s') (st' := (sa25_0 x2 x3 x4)) (R' := (Ra25_0 x0)) mixed [0, 1, 2, 3, 4, 5, 10, 11, 12, 13, 17, 32, 33, 34, 37, 40, 41, 44, 45, 48, 54, 55, 58, 60, 66, 70, 72] 40 [false, false, false, true, false, false] [] [] 0 [0] (-1) hC trivial ⟨h5, h6, h8, h10, h11, h13, trivial⟩ (by kernel_rfl) (by kernel_rfl) (Option.some.inj h).symm
              · replace h := condF h10 h
                rcases boolC ((x4 == 4)) with h14 | h14
                · replace h := condT h14 h
                  rcases boolC ((x1 == 5)) with h15 | h15
                  · replace h := condT h15 h
                    exact WI_end (bs := [((x4 == 0), false), ((x4 == 1), false), ((x4 == 2), false), ((x4 == 3), false), ((x4 == 4), true), ((x1 == 5), true)]) (φ := fun s' => k25_0 = .next s') (st' := (sa25_0 x2 x3 x4)) (R' := (Ra25_0 x0)) mixed [0, 1, 2, 3, 4, 5, 10, 11, 12, 13, 17, 32, 33, 34, 37, 40, 41, 44, 45, 48, 54, 55, 58, 60, 66, 70, 72] 38 [false, false, false, false, true, true] [] [] 0 [0] 0 hC trivial ⟨h5, h6, h8, h10, h14, h15, trivial⟩ (by kernel_rfl) (by kernel_rfl) (Option.some.inj h).symm
                  · replace h := condF h15 h
                    exact WI_end (bs := [((x4 == 0), false), ((x4 == 1), false), ((x4 == 2), false), ((x4 == 3), false), ((x4 == 4), true), ((x1 == 5), false)]) (φ := fun s' => k25_0 = .next s') (st' := (sa25_0 x2 x3 x4)) (R' := (Ra25_0 x0)) mixed [0, 1, 2, 3, 4, 5, 10, 11, 12, 13, 17, 32, 33, 34, 37, 40, 41, 44, 45, 48, 54, 55, 58, 60, 66, 70, 72] 38 [false, false, false, false, true, false] [] [] 0 [0] (-1) hC trivial ⟨h5, h6, h8, h10, h14, h15, trivial⟩ (by kernel_rfl) (by kernel_rfl) (Option.some.inj h).symm
                · replace h := condF h14 h
                  exact WI_end (bs := [((x4 == 0), false), ((x4 == 1), false), ((x4 == 2), false), ((x4 == 3), false), ((x4 == 4), false)]) (φ := fun s' => k25_0 = .next s') (st' := (sa25_0 x2 x3 x4)) (R' := (Ra25_0 x0)) mixed [0, 1, 2, 3, 4, 5, 10, 11, 12, 13, 17, 32, 33, 34, 37, 40, 41, 44, 45, 48, 54, 55, 58, 60, 66, 70, 72] 35 [false, false, false, false, false] [] [] 0 [0] (-1) hC trivial ⟨h5, h6, h8, h10, h14, trivial⟩ (by kernel_rfl) (by kernel_rfl) (Option.some.inj h).symm
      · clear h; have h := hnext25_0 _ hs25_0
        rcases boolC (decide (s25_0 < 0)) with h16 | h16
        · replace h := condT h16 h
          replace h := Option.some.inj h
          subst h
          exact WI_ret (bs := [(decide (s25_0 < 0), true)]) mixed [0, 1, 2, 3, 4, 5, 10, 11, 12, 13, 17, 32, 33, 34, 37, 40, 41, 44, 45, 48, 54, 55, 58, 60, 66, 70, 72] 28 [true] [] [] [.tmp 10, .tmp 11] 0 [] rfl hC trivial ⟨h16, trivial⟩ (by kernel_rfl)
        · replace h := condF h16 h
          rcases boolC (((x4 == 1) || (x4 == 2))) with h17 | h17
          · replace h := condT h17 h
            rcases boolC (decide (x2 < x0.Class)) with h18 | h18
            · replace h := condT h18 h
              replace h := Option.some.inj h
              subst h
              exact WI_ret (bs := [(decide (s25_0 < 0), false), (((x4 == 1) || (x4 == 2)), true), (decide (x2 < x0.Class), true)]) mixed [0, 1, 2, 3, 4, 5, 10, 11, 12, 13, 17, 32, 33, 34, 37, 40, 41, 44, 45, 48, 54, 55, 58, 60, 66, 70, 72] 37 [false, true, true] [] [] [.tmp 10, .tmp 11] 0 [] rfl hC trivial ⟨h16, h17, h18, trivial⟩ (by kernel_rfl)
            · replace h := condF h18 h
              rcases boolC ((x3 != 1)) with h19 | h19
              · replace h := condT h19 h
                replace h := Option.some.inj h
                subst h
                exact WI_ret (bs := [(decide (s25_0 < 0), false), (((x4 == 1) || (x4 == 2)), true), (decide (x2 < x0.Class), false), ((x3 != 1), true)]) mixed [0, 1, 2, 3, 4, 5, 10, 11, 12, 13, 17, 32, 33, 34, 37, 40, 41, 44, 45, 48, 54, 55, 58, 60, 66, 70, 72] 41 [false, true, false, true] [] [] [.tmp 10, .tmp 11] 0 [] rfl hC trivial ⟨h16, h17, h18, h19, trivial⟩ (by kernel_rfl)
              · replace h := condF h19 h
                replace h := Option.some.inj h
                subst h
                exact WI_ret (bs := [(decide (s25_0 < 0), false), (((x4 == 1) || (x4 == 2)), true), (decide (x2 < x0.Class), false), ((x3 != 1), false)]) mixed [0, 1, 2, 3, 4, 5, 10, 11, 12, 13, 17, 32, 33, 34, 37, 40, 41, 44, 45, 48, 54, 55, 58, 60, 66, 70, 72] 42 [false, true, false, false] [] [] [.tmp 10, .tmp 11] 0 [] rfl hC trivial ⟨h16, h17, h18, h19, trivial⟩ (by kernel_rfl)
          · replace h := condF h17 h
            replace h := Option.some.inj h
            subst h
            exact WI_ret (bs := [(decide (s25_0 < 0), false), (((x4 == 1) || (x4 == 2)), false)]) mixed [0, 1, 2, 3, 4, 5, 10, 11, 12, 13, 17, 32, 33, 34, 37, 40, 41, 44, 45, 48, 54, 55, 58, 60, 66, 70, 72] 34 [false, false] [] [] [.tmp 10, .tmp 11] 0 [] rfl hC trivial ⟨h16, h17, trivial⟩ (by kernel_rfl)
theorem e25 : Enters Tryd.prog 25 := enters_of Tryd.func25 (by kernel_rfl) (by kernel_rfl)
def st27_0 (x2 : List Int) (x3 : List Int) (i27_0 : Nat) (s27_0 : Int × (List Int)) : St := [(1, .d (I s27_0.1)), (2, .d (.p (.s (x2.map pI)))), (3, .d (.p (.s (x3.map pI)))), (4, .d (.o 0 0)), (8, .d (.p (.s ([].map pI)))), (9, .d (I 0)), (10, .d (.os 1)), (23, .d (I (x2.length : Int))), (24, .d (I (cnt 0 i27_0)))]
def R27_0 (x0 : api_Operation) (i27_0 : Nat) (s27_0 : Int × (List Int)) : List Res := [.box 31 [.p (.v (.string x0.Name)), I x0.Class, I x0.Circle.Place.X, I x0.Circle.Place.Y, I x0.Circle.Yellow, I x0.Circle.Red, I x0.Drift], .sl 3 1 (s27_0.2.map pI)]
def sa27_0  (s27_0 : Int × (List Int)) : St := [(8, .d (.p (.s ([].map pI)))), (9, .d (I 0)), (10, .d (.os 0))]
def Ra27_0  (s27_0 : Int × (List Int)) : List Res := [.sl 3 1 (s27_0.2.map pI)]
theorem k27 (x0 : api_Operation) (x1 : Int) (x2 : List Int) (x3 : List Int) (r : (List Int) × Int) (h : F27 x0 x1 x2 x3 = some r) : CallOk Tryd.prog 27 [.agg [.p (.v (.string x0.Name)), I x0.Class, I x0.Circle.Place.X, I x0.Circle.Place.Y, I x0.Circle.Yellow, I x0.Circle.Red, I x0.Drift], .d (I x1), .d (.p (.s (x2.map pI))), .d (.p (.s (x3.map pI)))] [] (.tup [.d (.p (.s (r.1.map pI))), .d (I r.2)]) [] := by
  unfold F27 at h
  refine callOk_of 51 Tryd.func27 rfl rfl rfl fun C hC => ?_
  rcases boolC (((x2.length : Int) != (x3.length : Int))) with h1 | h1
  · replace h := condT h1 h
    replace h := Option.some.inj h
    subst h
    exact WI_ret (bs := [(((x2.length : Int) != (x3.length : Int)), true)]) mixed [0, 1, 2, 3, 4, 8, 9, 10, 11, 12, 13, 18, 21, 23, 24, 25, 42] 29 [true] [.len ((x2.map pI).length : Int) (x2.length : Int), .len ((x3.map pI).length : Int) (x3.length : Int)] [] [.tmp 8, .tmp 9] 0 [] rfl hC ⟨len_map _ _, len_map _ _, trivial⟩ ⟨h1, trivial⟩ (by kernel_rfl)
  · replace h := condF h1 h
    rcases boolC (decide ((x2.length : Int) > 400)) with h2 | h2
    · replace h := condT h2 h
      replace h := Option.some.inj h
      subst h
      exact WI_ret (bs := [(((x2.length : Int) != (x3.length : Int)), false), (decide ((x2.length : Int) > 400), true)]) mixed [0, 1, 2, 3, 4, 8, 9, 10, 11, 12, 13, 18, 21, 23, 24, 25, 42] 34 [false, true] [.len ((x2.map pI).length : Int) (x2.length : Int), .len ((x3.map pI).length : Int) (x3.length : Int), .len ((x2.map pI).length : Int) (x2.length : Int)] [] [.tmp 8, .tmp 9] 0 [] rfl hC ⟨len_map _ _, len_map _ _, len_map _ _, trivial⟩ ⟨h1, h2, trivial⟩ (by kernel_rfl)
    · replace h := condF h2 h
      refine WI_stop (bs := [(((x2.length : Int) != (x3.length : Int)), false), (decide ((x2.length : Int) > 400), false)]) mixed [0, 1, 2, 3, 4, 8, 9, 10, 11, 12, 13, 18, 21, 23, 24, 25, 42] 38 [false, false] [.len ((x2.map pI).length : Int) (x2.length : Int), .len ((x3.map pI).length : Int) (x3.length : Int), .len ((x2.map pI).length : Int) (x2.length : Int), .len ((x2.map pI).length : Int) (x2.length : Int)] [.own 10 3 1] 0 [0, 1] (st27_0 x2 x3 0 (x1, ([] : List Int))) (R27_0 x0 0 (x1, ([] : List Int))) hC ⟨len_map _ _, len_map _ _, len_map _ _, len_map _ _, trivial⟩ ⟨h1, h2, trivial⟩ (by kernel_rfl) ?_
      obtain ⟨k27_0, hm27_0, hret27_0, hnext27_0⟩ := andThen_inv h
      clear h
      refine WI_cut (by kernel_rfl) (fun s => k27_0 = .next s) (sa27_0) (Ra27_0) ?_ fun s27_0 hs27_0 => ?_
      · refine WI_blk (by kernel_rfl) ?_
        refine WI_len 2 rfl fun hl27_0 => ?_
        refine WI_foldI (by kernel_rfl) (F27_l0 x0 x3) (st27_0 x2 x3) (R27_0 x0) k27_0 x2 (x1, ([] : List Int)) hm27_0 rfl rfl (fun s27_0 hn27_0 => ?_) fun i27_0 x27_0 s27_0 k27_0b hi27_0 hx27_0 h hb27_0 hr27_0 => ?_
        · clear hm27_0
          exact WI_end (bs := [(decide ((cnt 0 x2.length) < (x2.length : Int)), false)]) (φ := fun s' => k27_0 = .next s') (st' := (sa27_0)) (R' := (Ra27_0)) mixed [0, 1, 2, 3, 4, 8, 9, 10, 11, 12, 13, 18, 21, 23, 24, 25, 42] 26 [false] [] [] 0 [1] (s27_0.1, s27_0.2) hC trivial ⟨(cnt_end hl27_0), trivial⟩ (by kernel_rfl) (by kernel_rfl) hn27_0
        · unfold F27_l0 at h
          obtain ⟨y3, h4, h⟩ := bindE h
          obtain ⟨y5, h6, h⟩ := bindE h
          refine WI_stop (bs := [(decide ((cnt 0 i27_0) < (x2.length : Int)), true)]) mixed [0, 1, 2, 3, 4, 8, 9, 10, 11, 12, 13, 18, 21, 23, 24, 25, 42] 35 [true] [.row (x2.map pI) (cnt 0 i27_0) (pI x27_0), .row (x3.map pI) (cnt 0 i27_0) (pI y3), .call 24 [.agg [.p (.v (.string x0.Name)), I x0.Class, I x0.Circle.Place.X, I x0.Circle.Place.Y, I x0.Circle.Yellow, I x0.Circle.Red, I x0.Drift], .d (I s27_0.1), .d (I x27_0), .d (I y3), .d (Bo false)] [] (.tup [.d (I y5.1), .d (I y5.2)]) [] []] [] 0 [0, 1] [(1, .d (I s27_0.1)), (2, .d (.p (.s (x2.map pI)))), (3, .d (.p (.s (x3.map pI)))), (4, .d (.o 0 0)), (8, .d (.p (.s ([].map pI)))), (9, .d (I 0)), (10, .d (.os 1)), (12, .d (I y5.1)), (13, .d (I y5.2)), (23, .d (I (x2.length : Int))), (24, .d (I (cnt 0 i27_0))), (42, .d (Bo (y5.2 != 0)))] [.box 31 [.p (.v (.string x0.Name)), I x0.Class, I x0.Circle.Place.X, I x0.Circle.Place.Y, I x0.Circle.Yellow, I x0.Circle.Red, I x0.Drift], .sl 3 1 (s27_0.2.map pI)] hC ⟨(row_cnt hx27_0 hl27_0), row_get h4, ⟨e24, k24 x0 s27_0.1 x27_0 y3 false _ h6⟩, trivial⟩ ⟨(cnt_lt hi27_0 hl27_0), trivial⟩ (by kernel_rfl) ?_
          rcases boolC ((y5.2 != 0)) with h7 | h7
          · replace h := condT h7 h
            have hq := hret27_0 _ (hr27_0 _ (Option.some.inj h).symm)
            replace hq := Option.some.inj hq
            subst hq
            exact WI_ret (bs := [((y5.2 != 0), true)]) mixed [0, 1, 2, 3, 4, 8, 9, 10, 11, 12, 13, 18, 21, 23, 24, 25, 42] 23 [true] [] [] [.tmp 8, .tmp 9] 0 [] rfl hC trivial ⟨h7, trivial⟩ (by kernel_rfl)
          · replace h := condF h7 h
            obtain ⟨y8, h9, h⟩ := bindE h
            exact WI_end (bs := [((y5.2 != 0), false)]) (φ := fun s' => k27_0b = .next s') (st' := (st27_0 x2 x3 (i27_0 + 1))) (R' := (R27_0 x0 (i27_0 + 1))) mixed [0, 1, 2, 3, 4, 8, 9, 10, 11, 12, 13, 18, 21, 23, 24, 25, 42] 27 [false] [.app (s27_0.2.map pI) ([y5.1].map pI) 1 (((s27_0.2.map pI).length + ([y5.1].map pI).length) * (8 + 1)) (y8.map pI)] [] 0 [0, 2] (y5.1, y8) hC ⟨app_get pI 1 (fun _ => rfl) h9, trivial⟩ ⟨h7, trivial⟩ (by kernel_rfl) (by kernel_rfl) (Option.some.inj h).symm
      · have h := hnext27_0 _ hs27_0
        replace h := Option.some.inj h
        subst h
        exact WI_ret (bs := []) mixed [0, 1, 2, 3, 4, 8, 9, 10, 11, 12, 13, 18, 21, 23, 24, 25, 42] 23 [] [] [.frz 0] [.tmp 8, .tmp 9] 0 [] rfl hC trivial trivial (by kernel_rfl)
theorem e27 : Enters Tryd.prog 27 := enters_of Tryd.func27 (by kernel_rfl) (by kernel_rfl)
def st20_0 (x0 : List Int) (x1 : List Int) (i20_0 : Nat) (s20_0 : Unit) : St := [(0, .d (.p (.s (x0.map pI)))), (1, .d (.p (.s (x1.map pI)))), (4, .d (Bo false)), (12, .d (I (x0.length : Int))), (13, .d (I (cnt 0 i20_0)))]
def R20_0  (i20_0 : Nat) (s20_0 : Unit) : List Res := []
def sa20_0  (s20_0 : Unit) : St := [(4, .d (Bo false))]
def Ra20_0  (s20_0 : Unit) : List Res := []
theorem k20 (x0 : List Int) (x1 : List Int) (r : Bool) (h : F20 x0 x1 = some r) : CallOk Tryd.prog 20 [.d (.p (.s (x0.map pI))), .d (.p (.s (x1.map pI)))] [] (.d (Bo r)) [] := by
  unfold F20 at h
  refine callOk_of 26 Tryd.func20 rfl rfl rfl fun C hC => ?_
  rcases boolC (((x0.length : Int) != (x1.length : Int))) with h1 | h1
  · replace h := condT h1 h
    replace h := Option.some.inj h
    subst h
    exact WI_ret (bs := [(((x0.length : Int) != (x1.length : Int)), true)]) mixed [0, 1, 4, 5, 10, 12, 13, 14, 24] 29 [true] [.len ((x0.map pI).length : Int) (x0.length : Int), .len ((x1.map pI).length : Int) (x1.length : Int)] [] [.tmp 4] 0 [] rfl hC ⟨len_map _ _, len_map _ _, trivial⟩ ⟨h1, trivial⟩ (by kernel_rfl)
  · replace h := condF h1 h
    refine WI_stop (bs := [(((x0.length : Int) != (x1.length : Int)), false)]) mixed [0, 1, 4, 5, 10, 12, 13, 14, 24] 31 [false] [.len ((x0.map pI).length : Int) (x0.length : Int), .len ((x1.map pI).length : Int) (x1.length : Int), .len ((x0.map pI).length : Int) (x0.length : Int)] [] 0 [] (st20_0 x0 x1 0 ()) (R20_0 0 ()) hC ⟨len_map _ _, len_map _ _, len_map _ _, trivial⟩ ⟨h1, trivial⟩ (by kernel_rfl) ?_
    obtain ⟨k20_0, hm20_0, hret20_0, hnext20_0⟩ := andThen_inv h
    clear h
    refine WI_cut (by kernel_rfl) (fun s => k20_0 = .next s) (sa20_0) (Ra20_0) ?_ fun s20_0 hs20_0 => ?_
    · refine WI_blk (by kernel_rfl) ?_
      refine WI_len 0 rfl fun hl20_0 => ?_
      refine WI_foldI (by kernel_rfl) (F20_l0 x1) (st20_0 x0 x1) (R20_0) k20_0 x0 () hm20_0 rfl rfl (fun s20_0 hn20_0 => ?_) fun i20_0 x20_0 s20_0 k20_0b hi20_0 hx20_0 h hb20_0 hr20_0 => ?_
      · clear hm20_0
        exact WI_end (bs := [(decide ((cnt 0 x0.length) < (x0.length : Int)), false)]) (φ := fun s' => k20_0 = .next s') (st' := (sa20_0)) (R' := (Ra20_0)) mixed [0, 1, 4, 5, 10, 12, 13, 14, 24] 26 [false] [] [] 0 [] () hC trivial ⟨(cnt_end hl20_0), trivial⟩ (by kernel_rfl) (by kernel_rfl) hn20_0
      · unfold F20_l0 at h
        obtain ⟨y2, h3, h⟩ := bindE h
        rcases boolC ((x20_0 != y2)) with h4 | h4
        · replace h := condT h4 h
          have hq := hret20_0 _ (hr20_0 _ (Option.some.inj h).symm)
          replace hq := Option.some.inj hq
          subst hq
          exact WI_ret (bs := [(decide ((cnt 0 i20_0) < (x0.length : Int)), true), ((x20_0 != y2), true)]) mixed [0, 1, 4, 5, 10, 12, 13, 14, 24] 35 [true, true] [.row (x0.map pI) (cnt 0 i20_0) (pI x20_0), .row (x1.map pI) (cnt 0 i20_0) (pI y2)] [] [.tmp 4] 0 [] rfl hC ⟨(row_cnt hx20_0 hl20_0), row_get h3, trivial⟩ ⟨(cnt_lt hi20_0 hl20_0), h4, trivial⟩ (by kernel_rfl)
        · replace h := condF h4 h
          exact WI_end (bs := [(decide ((cnt 0 i20_0) < (x0.length : Int)), true), ((x20_0 != y2), false)]) (φ := fun s' => k20_0b = .next s') (st' := (st20_0 x0 x1 (i20_0 + 1))) (R' := (R20_0 (i20_0 + 1))) mixed [0, 1, 4, 5, 10, 12, 13, 14, 24] 36 [true, false] [.row (x0.map pI) (cnt 0 i20_0) (pI x20_0), .row (x1.map pI) (cnt 0 i20_0) (pI y2)] [] 0 [] () hC ⟨(row_cnt hx20_0 hl20_0), row_get h3, trivial⟩ ⟨(cnt_lt hi20_0 hl20_0), h4, trivial⟩ (by kernel_rfl) (by kernel_rfl) (Option.some.inj h).symm
    · have h := hnext20_0 _ hs20_0
      replace h := Option.some.inj h
      subst h
      exact WI_ret (bs := []) mixed [0, 1, 4, 5, 10, 12, 13, 14, 24] 23 [] [] [] [.tmp 4] 0 [] rfl hC trivial trivial (by kernel_rfl)
theorem e20 : Enters Tryd.prog 20 := enters_of Tryd.func20 (by kernel_rfl) (by kernel_rfl)
end Go.Proofs.YtakbldjmgfcipaaDoor
