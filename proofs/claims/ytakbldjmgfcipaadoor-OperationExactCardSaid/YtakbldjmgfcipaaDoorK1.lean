import Derived.Test.YtakbldjmgfcipaaDoorRows
import Derived.Test.YtakbldjmgfcipaaDoorK0
set_option linter.unusedVariables false
namespace Go.Proofs.YtakbldjmgfcipaaDoor
open Go.SL
theorem k11 (x0 : dynposmake_Src) (r : api_Operation × dynposmake_Src) (h : F11 x0 = some r) : CallOk Tryd.prog 11 [.d (.o 0 0)] [.box 58 [.p (.s (x0.L.map pI)), I x0.At]] (.agg [.p (.v (.string r.1.Name)), I r.1.Class, I r.1.Circle.Place.X, I r.1.Circle.Place.Y, I r.1.Circle.Yellow, I r.1.Circle.Red, I r.1.Drift]) [.box 58 [.p (.s (r.2.L.map pI)), I r.2.At]] := by
  unfold F11 at h
  refine callOk_of 14 Tryd.func11 rfl rfl rfl fun C hC => ?_
  obtain ⟨y1, h2, h⟩ := bindE h
  obtain ⟨y3, h4, h⟩ := bindE h
  obtain ⟨y5, h6, h⟩ := bindE h
  obtain ⟨y7, h8, h⟩ := bindE h
  replace h := Option.some.inj h
  subst h
  exact WI_ret (bs := []) mixed [0, 2] 25 [] [.call 28 [.d (.o 0 0), .d (.p (.s ([⟨#[100, 114, 105, 108, 108]⟩, ⟨#[100, 105, 118, 101]⟩, ⟨#[97, 45, 49]⟩].map pS)))] [.box 58 [.p (.s (x0.L.map pI)), I x0.At]] (.d (.p (.v (.string y1.1)))) [.box 58 [.p (.s (y1.2.L.map pI)), I y1.2.At]] [0], .call 13 [.d (.o 0 0), .d (I 1), .d (I 3)] [.box 58 [.p (.s (y1.2.L.map pI)), I y1.2.At]] (.d (I y3.1)) [.box 58 [.p (.s (y3.2.L.map pI)), I y3.2.At]] [0], .call 29 [.d (.o 0 0)] [.box 58 [.p (.s (y3.2.L.map pI)), I y3.2.At]] (.agg [I y5.1.Place.X, I y5.1.Place.Y, I y5.1.Yellow, I y5.1.Red]) [.box 58 [.p (.s (y5.2.L.map pI)), I y5.2.At]] [0], .call 12 [.d (.o 0 0), .d (.p (.s ([0, 10, 50, 1000].map pI)))] [.box 58 [.p (.s (y5.2.L.map pI)), I y5.2.At]] (.d (I y7.1)) [.box 58 [.p (.s (y7.2.L.map pI)), I y7.2.At]] [0]] [] [.cell 2 31] 1 [0] rfl hC ⟨⟨e28, k28 x0 [⟨#[100, 114, 105, 108, 108]⟩, ⟨#[100, 105, 118, 101]⟩, ⟨#[97, 45, 49]⟩] _ h2⟩, ⟨e13, k13 y1.2 1 3 _ h4⟩, ⟨e29, k29 y3.2 _ h6⟩, ⟨e12, k12 y5.2 [0, 10, 50, 1000] _ h8⟩, trivial⟩ trivial (by kernel_rfl)
theorem e11 : Enters Tryd.prog 11 := enters_of Tryd.func11 (by kernel_rfl) (by kernel_rfl)
def st3_0  (s3_0 : Int × Int × (List Int) × Int) : St := [(2, .d (Bo false)), (3, .d (.o 0 0)), (4, .d (.o 1 0)), (5, .d (I s3_0.1)), (6, .d (I s3_0.2.1))]
def R3_0 (y6 : api_Operation × dynposmake_Src) (s3_0 : Int × Int × (List Int) × Int) : List Res := [.box 58 [.p (.s (s3_0.2.2.1.map pI)), I s3_0.2.2.2], .box 31 [.p (.v (.string y6.1.Name)), I y6.1.Class, I y6.1.Circle.Place.X, I y6.1.Circle.Place.Y, I y6.1.Circle.Yellow, I y6.1.Circle.Red, I y6.1.Drift]]
def sa3_0  (s3_0 : Int × Int × (List Int) × Int) : St := [(2, .d (Bo false))]
def Ra3_0  (s3_0 : Int × Int × (List Int) × Int) : List Res := []
def sa3_1 (s3_0 : Int × Int × (List Int) × Int) (y13 : Int × dynposmake_Src) (y15 : Int × dynposmake_Src) (s3_1 : Int) : St := [(2, .d (Bo false)), (3, .d (.o 0 0)), (4, .d (.o 1 0)), (5, .d (I s3_1)), (6, .d (I s3_0.2.1)), (8, .d (I y13.1)), (9, .d (I y15.1))]
def Ra3_1 (y6 : api_Operation × dynposmake_Src) (y15 : Int × dynposmake_Src) (s3_1 : Int) : List Res := [.box 58 [.p (.s (y15.2.L.map pI)), I y15.2.At], .box 31 [.p (.v (.string y6.1.Name)), I y6.1.Class, I y6.1.Circle.Place.X, I y6.1.Circle.Place.Y, I y6.1.Circle.Yellow, I y6.1.Circle.Red, I y6.1.Drift]]
theorem k3 (x0 : List Int) (r : Bool) (h : F3 x0 = some r) : CallOk Tryd.prog 3 [.d (.p (.s (x0.map pI)))] [] (.d (Bo r)) [] := by
  unfold F3 at h
  refine callOk_of 80 Tryd.func3 rfl rfl rfl fun C hC => ?_
  rcases boolC (decide ((x0.length : Int) > 600)) with h1 | h1
  · replace h := condT h1 h
    obtain ⟨y2, h3, h⟩ := bindE h
    replace h := Option.some.inj h
    subst h
    exact WI_ret (bs := [(decide ((x0.length : Int) > 600), true)]) mixed [0, 2, 3, 4, 5, 6, 7, 8, 9, 10, 11, 12, 13, 16, 26, 46, 77] 29 [true] [.len ((x0.map pI).length : Int) (x0.length : Int), .call 9 [] [] (.d (Bo y2)) [] []] [] [.tmp 2] 0 [] rfl hC ⟨len_map _ _, ⟨e9, k9  _ h3⟩, trivial⟩ ⟨h1, trivial⟩ (by kernel_rfl)
  · replace h := condF h1 h
    obtain ⟨y4, h5, h⟩ := bindE h
    obtain ⟨y6, h7, h⟩ := bindE h
    obtain ⟨y8, h9, h⟩ := bindE h
    refine WI_stop (bs := [(decide ((x0.length : Int) > 600), false)]) mixed [0, 2, 3, 4, 5, 6, 7, 8, 9, 10, 11, 12, 13, 16, 26, 46, 77] 37 [false] [.len ((x0.map pI).length : Int) (x0.length : Int), .call 10 [.d (.p (.s (x0.map pI)))] [] (.d (.o 0 0)) [.box 58 [.p (.s (y4.L.map pI)), I y4.At]] [], .call 11 [.d (.o 0 0)] [.box 58 [.p (.s (y4.L.map pI)), I y4.At]] (.agg [.p (.v (.string y6.1.Name)), I y6.1.Class, I y6.1.Circle.Place.X, I y6.1.Circle.Place.Y, I y6.1.Circle.Yellow, I y6.1.Circle.Red, I y6.1.Drift]) [.box 58 [.p (.s (y6.2.L.map pI)), I y6.2.At]] [0], .call 12 [.d (.o 0 0), .d (.p (.s ([4, 5].map pI)))] [.box 58 [.p (.s (y6.2.L.map pI)), I y6.2.At]] (.d (I y8.1)) [.box 58 [.p (.s (y8.2.L.map pI)), I y8.2.At]] [0]] [] 0 [0, 1] (st3_0 (y8.1, 0, y8.2.L, y8.2.At)) (R3_0 y6 (y8.1, 0, y8.2.L, y8.2.At)) hC ⟨len_map _ _, ⟨e10, k10 x0 _ h5⟩, ⟨e11, k11 y4 _ h7⟩, ⟨e12, k12 y6.2 [4, 5] _ h9⟩, trivial⟩ ⟨h1, trivial⟩ (by kernel_rfl) ?_
    obtain ⟨k3_0, hm3_0, hret3_0, hnext3_0⟩ := andThen_inv h
    clear h
    refine WI_cut (by kernel_rfl) (fun s => k3_0 = .next s) (sa3_0) (Ra3_0) ?_ fun s3_0 hs3_0 => ?_
    · refine WI_blk (by kernel_rfl) ?_
      refine WI_while (by kernel_rfl) (F3_l0 y6) (st3_0) (R3_0 y6) k3_0 15 (y8.1, 0, y8.2.L, y8.2.At) hm3_0 rfl rfl fun s3_0 k3_0b h hb3_0 hr3_0 => ?_
      unfold F3_l0 at h
      rcases boolC (decide (s3_0.2.1 < 12)) with h10 | h10
      · replace h := condT h10 h
        obtain ⟨y11, h12, h⟩ := bindE h
        obtain ⟨y13, h14, h⟩ := bindE h
        obtain ⟨y15, h16, h⟩ := bindE h
        obtain ⟨y17, h18, h⟩ := bindE h
        refine WI_stop (bs := [(decide (s3_0.2.1 < 12), true)]) mixed [0, 2, 3, 4, 5, 6, 7, 8, 9, 10, 11, 12, 13, 16, 26, 46, 77] 37 [true] [.call 12 [.d (.o 0 0), .d (.p (.s ([0, 1, 2, 3].map pI)))] [.box 58 [.p (.s (s3_0.2.2.1.map pI)), I s3_0.2.2.2]] (.d (I y11.1)) [.box 58 [.p (.s (y11.2.L.map pI)), I y11.2.At]] [0], .call 13 [.d (.o 0 0), .d (I 1), .d (I 3)] [.box 58 [.p (.s (y11.2.L.map pI)), I y11.2.At]] (.d (I y13.1)) [.box 58 [.p (.s (y13.2.L.map pI)), I y13.2.At]] [0], .call 13 [.d (.o 0 0), .d (I 1), .d (I 3)] [.box 58 [.p (.s (y13.2.L.map pI)), I y13.2.At]] (.d (I y15.1)) [.box 58 [.p (.s (y15.2.L.map pI)), I y15.2.At]] [0], .call 14 [.agg [.p (.v (.string y6.1.Name)), I y6.1.Class, I y6.1.Circle.Place.X, I y6.1.Circle.Place.Y, I y6.1.Circle.Yellow, I y6.1.Circle.Red, I y6.1.Drift], .d (I s3_0.1), .d (I y13.1), .d (I y15.1), .d (I y11.1)] [] (.tup [.d (I y17.1), .d (I y17.2)]) [] []] [] 0 [0, 1] [(2, .d (Bo false)), (3, .d (.o 0 0)), (4, .d (.o 1 0)), (5, .d (I s3_0.1)), (6, .d (I s3_0.2.1)), (8, .d (I y13.1)), (9, .d (I y15.1)), (10, .d (I y17.1)), (46, .d (Bo (y17.2 == 0)))] [.box 58 [.p (.s (y15.2.L.map pI)), I y15.2.At], .box 31 [.p (.v (.string y6.1.Name)), I y6.1.Class, I y6.1.Circle.Place.X, I y6.1.Circle.Place.Y, I y6.1.Circle.Yellow, I y6.1.Circle.Red, I y6.1.Drift]] hC ⟨⟨e12, k12 (⟨s3_0.2.2.1, s3_0.2.2.2⟩ : dynposmake_Src) [0, 1, 2, 3] _ h12⟩, ⟨e13, k13 y11.2 1 3 _ h14⟩, ⟨e13, k13 y13.2 1 3 _ h16⟩, ⟨e14, k14 y6.1 s3_0.1 y13.1 y15.1 y11.1 _ h18⟩, trivial⟩ ⟨h10, trivial⟩ (by kernel_rfl) ?_
        obtain ⟨k3_1, h, hret3_1, hnext3_1⟩ := andThen_inv h
        refine WI_cut (by kernel_rfl) (fun s => k3_1 = .next s) (sa3_1 s3_0 y13 y15) (Ra3_1 y6 y15) ?_ fun s3_1 hs3_1 => ?_
        · unfold F3_m1 at h
          rcases boolC ((y17.2 == 0)) with h19 | h19
          · replace h := condT h19 h
            exact WI_end (bs := [((y17.2 == 0), true)]) (φ := fun s' => k3_1 = .next s') (st' := (sa3_1 s3_0 y13 y15)) (R' := (Ra3_1 y6 y15)) mixed [0, 2, 3, 4, 5, 6, 7, 8, 9, 10, 11, 12, 13, 16, 26, 46, 77] 23 [true] [] [] 0 [0, 1] y17.1 hC trivial ⟨h19, trivial⟩ (by kernel_rfl) (by kernel_rfl) (Option.some.inj h).symm
          · replace h := condF h19 h
            exact WI_end (bs := [((y17.2 == 0), false)]) (φ := fun s' => k3_1 = .next s') (st' := (sa3_1 s3_0 y13 y15)) (R' := (Ra3_1 y6 y15)) mixed [0, 2, 3, 4, 5, 6, 7, 8, 9, 10, 11, 12, 13, 16, 26, 46, 77] 23 [false] [] [] 0 [0, 1] s3_0.1 hC trivial ⟨h19, trivial⟩ (by kernel_rfl) (by kernel_rfl) (Option.some.inj h).symm
        · clear h; have h := hnext3_1 _ hs3_1
          obtain ⟨y20, h21, h⟩ := bindE h
          obtain ⟨y22, h23, h⟩ := bindE h
          refine WI_stop (bs := []) mixed [0, 2, 3, 4, 5, 6, 7, 8, 9, 10, 11, 12, 13, 16, 26, 46, 77] 26 [] [.call 16 [.d (.o 0 0), .d (I 3)] [.box 58 [.p (.s (y15.2.L.map pI)), I y15.2.At]] (.d (I y20.1)) [.box 58 [.p (.s (y20.2.L.map pI)), I y20.2.At]] [0], .call 15 [.agg [.p (.v (.string y6.1.Name)), I y6.1.Class, I y6.1.Circle.Place.X, I y6.1.Circle.Place.Y, I y6.1.Circle.Yellow, I y6.1.Circle.Red, I y6.1.Drift], .d (I s3_1), .d (I y13.1), .d (I y15.1), .d (Bo (y20.1 == 2))] [] (.tup [.d (I y22.1), .d (I y22.2)]) [] []] [] 0 [0, 1] [(2, .d (Bo false)), (3, .d (.o 0 0)), (4, .d (.o 1 0)), (5, .d (I s3_1)), (6, .d (I s3_0.2.1)), (12, .d (I y22.1)), (77, .d (Bo (c3_2 s3_1 y22)))] [.box 58 [.p (.s (y20.2.L.map pI)), I y20.2.At], .box 31 [.p (.v (.string y6.1.Name)), I y6.1.Class, I y6.1.Circle.Place.X, I y6.1.Circle.Place.Y, I y6.1.Circle.Yellow, I y6.1.Circle.Red, I y6.1.Drift]] hC ⟨⟨e16, k16 y15.2 3 _ h21⟩, ⟨e15, k15 y6.1 s3_1 y13.1 y15.1 (y20.1 == 2) _ h23⟩, trivial⟩ trivial (by kernel_rfl) ?_
          rcases boolC ((c3_2 s3_1 y22)) with h24 | h24
          · replace h := condT h24 h
            have hq := hret3_0 _ (hr3_0 _ (Option.some.inj h).symm)
            replace hq := Option.some.inj hq
            subst hq
            exact WI_ret (bs := [((c3_2 s3_1 y22), true)]) mixed [0, 2, 3, 4, 5, 6, 7, 8, 9, 10, 11, 12, 13, 16, 26, 46, 77] 23 [true] [] [] [.tmp 2] 0 [] rfl hC trivial ⟨h24, trivial⟩ (by kernel_rfl)
          · replace h := condF h24 h
            exact WI_end (bs := [((c3_2 s3_1 y22), false)]) (φ := fun s' => k3_0b = .next s') (st' := (st3_0)) (R' := (R3_0 y6)) mixed [0, 2, 3, 4, 5, 6, 7, 8, 9, 10, 11, 12, 13, 16, 26, 46, 77] 25 [false] [] [] 0 [0, 1] (y22.1, w64 (s3_0.2.1 + 1), y20.2.L, y20.2.At) hC trivial ⟨h24, trivial⟩ (by kernel_rfl) (by kernel_rfl) (Option.some.inj h).symm
      · replace h := condF h10 h
        exact WI_end (bs := [(decide (s3_0.2.1 < 12), false)]) (φ := fun s' => k3_0 = .next s') (st' := (sa3_0)) (R' := (Ra3_0)) mixed [0, 2, 3, 4, 5, 6, 7, 8, 9, 10, 11, 12, 13, 16, 26, 46, 77] 26 [false] [] [] 0 [] (s3_0.1, s3_0.2.1, s3_0.2.2.1, s3_0.2.2.2) hC trivial ⟨h10, trivial⟩ (by kernel_rfl) (by kernel_rfl) (hb3_0 _ (Option.some.inj h).symm)
    · have h := hnext3_0 _ hs3_0
      obtain ⟨y25, h26, h⟩ := bindE h
      replace h := Option.some.inj h
      subst h
      exact WI_ret (bs := []) mixed [0, 2, 3, 4, 5, 6, 7, 8, 9, 10, 11, 12, 13, 16, 26, 46, 77] 23 [] [.call 9 [] [] (.d (Bo y25)) [] []] [] [.tmp 2] 0 [] rfl hC ⟨⟨e9, k9  _ h26⟩, trivial⟩ trivial (by kernel_rfl)
theorem e3 : Enters Tryd.prog 3 := enters_of Tryd.func3 (by kernel_rfl) (by kernel_rfl)
theorem k4 (x0 : List Int) (r : Bool) (h : F4 x0 = some r) : CallOk Tryd.prog 4 [.d (.p (.s (x0.map pI)))] [] (.d (Bo r)) [] := by
  unfold F4 at h
  refine callOk_of 66 Tryd.func4 rfl rfl rfl fun C hC => ?_
  rcases boolC (decide ((x0.length : Int) > 600)) with h1 | h1
  · replace h := condT h1 h
    obtain ⟨y2, h3, h⟩ := bindE h
    replace h := Option.some.inj h
    subst h
    exact WI_ret (bs := [(decide ((x0.length : Int) > 600), true)]) mixed [0, 2, 3, 4, 5, 6, 8, 9, 10, 11, 12, 15, 25, 26, 27, 49, 63] 29 [true] [.len ((x0.map pI).length : Int) (x0.length : Int), .call 9 [] [] (.d (Bo y2)) [] []] [] [.tmp 2] 0 [] rfl hC ⟨len_map _ _, ⟨e9, k9  _ h3⟩, trivial⟩ ⟨h1, trivial⟩ (by kernel_rfl)
  · replace h := condF h1 h
    obtain ⟨y4, h5, h⟩ := bindE h
    obtain ⟨y6, h7, h⟩ := bindE h
    obtain ⟨y8, h9, h⟩ := bindE h
    obtain ⟨y10, h11, h⟩ := bindE h
    obtain ⟨y12, h13, h⟩ := bindE h
    refine WI_stop (bs := [(decide ((x0.length : Int) > 600), false), (true, true)]) mixed [0, 2, 3, 4, 5, 6, 8, 9, 10, 11, 12, 15, 25, 26, 27, 49, 63] 53 [false, true, true, true] [.len ((x0.map pI).length : Int) (x0.length : Int), .call 10 [.d (.p (.s (x0.map pI)))] [] (.d (.o 0 0)) [.box 58 [.p (.s (y4.L.map pI)), I y4.At]] [], .call 11 [.d (.o 0 0)] [.box 58 [.p (.s (y4.L.map pI)), I y4.At]] (.agg [.p (.v (.string y6.1.Name)), I y6.1.Class, I y6.1.Circle.Place.X, I y6.1.Circle.Place.Y, I y6.1.Circle.Yellow, I y6.1.Circle.Red, I y6.1.Drift]) [.box 58 [.p (.s (y6.2.L.map pI)), I y6.2.At]] [0], .call 13 [.d (.o 0 0), .d (I 1), .d (I 3)] [.box 58 [.p (.s (y6.2.L.map pI)), I y6.2.At]] (.d (I y8.1)) [.box 58 [.p (.s (y8.2.L.map pI)), I y8.2.At]] [0], .call 13 [.d (.o 0 0), .d (I 1), .d (I 3)] [.box 58 [.p (.s (y8.2.L.map pI)), I y8.2.At]] (.d (I y10.1)) [.box 58 [.p (.s (y10.2.L.map pI)), I y10.2.At]] [0], .call 15 [.agg [.p (.v (.string y6.1.Name)), I y6.1.Class, I y6.1.Circle.Place.X, I y6.1.Circle.Place.Y, I y6.1.Circle.Yellow, I y6.1.Circle.Red, I y6.1.Drift], .d (I 2), .d (I y8.1), .d (I y10.1), .d (Bo false)] [] (.tup [.d (I y12.1), .d (I y12.2)]) [] []] [] 0 [1] [(2, .d (Bo false)), (4, .d (.o 0 0)), (5, .d (I y8.1)), (6, .d (I y10.1)), (8, .d (I 2)), (9, .d (I y12.1)), (10, .d (I y12.2)), (25, .agg [I 2, I 3]), (26, .d (I 0)), (27, .d (Bo true)), (49, .d (Bo (c4_0 y8 y10 y12)))] [.box 31 [.p (.v (.string y6.1.Name)), I y6.1.Class, I y6.1.Circle.Place.X, I y6.1.Circle.Place.Y, I y6.1.Circle.Yellow, I y6.1.Circle.Red, I y6.1.Drift]] hC ⟨len_map _ _, ⟨e10, k10 x0 _ h5⟩, ⟨e11, k11 y4 _ h7⟩, ⟨e13, k13 y6.2 1 3 _ h9⟩, ⟨e13, k13 y8.2 1 3 _ h11⟩, ⟨e15, k15 y6.1 2 y8.1 y10.1 false _ h13⟩, trivial⟩ ⟨h1, rfl, trivial⟩ (by kernel_rfl) ?_
    rcases boolC ((c4_0 y8 y10 y12)) with h14 | h14
    · replace h := condT h14 h
      replace h := Option.some.inj h
      subst h
      exact WI_ret (bs := [((c4_0 y8 y10 y12), true)]) mixed [0, 2, 3, 4, 5, 6, 8, 9, 10, 11, 12, 15, 25, 26, 27, 49, 63] 23 [true] [] [] [.tmp 2] 0 [] rfl hC trivial ⟨h14, trivial⟩ (by kernel_rfl)
    · replace h := condF h14 h
      obtain ⟨y15, h16, h⟩ := bindE h
      refine WI_stop (bs := [((c4_0 y8 y10 y12), false)]) mixed [0, 2, 3, 4, 5, 6, 8, 9, 10, 11, 12, 15, 25, 26, 27, 49, 63] 26 [false] [.call 14 [.agg [.p (.v (.string y6.1.Name)), I y6.1.Class, I y6.1.Circle.Place.X, I y6.1.Circle.Place.Y, I y6.1.Circle.Yellow, I y6.1.Circle.Red, I y6.1.Drift], .d (I 2), .d (I y8.1), .d (I y10.1), .d (I 3)] [] (.tup [.d (I y15.1), .d (I y15.2)]) [] []] [] 0 [0] [(2, .d (Bo false)), (4, .d (.o 0 0)), (5, .d (I y8.1)), (6, .d (I y10.1)), (8, .d (I 2)), (9, .d (I y12.1)), (10, .d (I y12.2)), (11, .d (I y15.1)), (12, .d (I y15.2)), (25, .agg [I 2, I 3]), (26, .d (I 0)), (27, .d (Bo true)), (49, .d (Bo (c4_0 y8 y10 y12))), (63, .d (Bo ((y15.2 != 0) || (y15.1 != 4))))] [.box 31 [.p (.v (.string y6.1.Name)), I y6.1.Class, I y6.1.Circle.Place.X, I y6.1.Circle.Place.Y, I y6.1.Circle.Yellow, I y6.1.Circle.Red, I y6.1.Drift]] hC ⟨⟨e14, k14 y6.1 2 y8.1 y10.1 3 _ h16⟩, trivial⟩ ⟨h14, trivial⟩ (by kernel_rfl) ?_
      rcases boolC (((y15.2 != 0) || (y15.1 != 4))) with h17 | h17
      · replace h := condT h17 h
        replace h := Option.some.inj h
        subst h
        exact WI_ret (bs := [(((y15.2 != 0) || (y15.1 != 4)), true)]) mixed [0, 2, 3, 4, 5, 6, 8, 9, 10, 11, 12, 15, 25, 26, 27, 49, 63] 23 [true] [] [] [.tmp 2] 0 [] rfl hC trivial ⟨h17, trivial⟩ (by kernel_rfl)
      · replace h := condF h17 h
        obtain ⟨y18, h19, h⟩ := bindE h
        refine WI_stop (bs := [(((y15.2 != 0) || (y15.1 != 4)), false), (true, true)]) mixed [0, 2, 3, 4, 5, 6, 8, 9, 10, 11, 12, 15, 25, 26, 27, 49, 63] 39 [false, true] [.call 15 [.agg [.p (.v (.string y6.1.Name)), I y6.1.Class, I y6.1.Circle.Place.X, I y6.1.Circle.Place.Y, I y6.1.Circle.Yellow, I y6.1.Circle.Red, I y6.1.Drift], .d (I 3), .d (I y8.1), .d (I y10.1), .d (Bo false)] [] (.tup [.d (I y18.1), .d (I y18.2)]) [] []] [] 0 [0] [(2, .d (Bo false)), (4, .d (.o 0 0)), (5, .d (I y8.1)), (6, .d (I y10.1)), (8, .d (I 3)), (9, .d (I y18.1)), (10, .d (I y18.2)), (11, .d (I y15.1)), (12, .d (I y15.2)), (25, .agg [I 2, I 3]), (26, .d (I 1)), (27, .d (Bo true)), (49, .d (Bo (c4_1 y8 y10 y18))), (63, .d (Bo ((y15.2 != 0) || (y15.1 != 4))))] [.box 31 [.p (.v (.string y6.1.Name)), I y6.1.Class, I y6.1.Circle.Place.X, I y6.1.Circle.Place.Y, I y6.1.Circle.Yellow, I y6.1.Circle.Red, I y6.1.Drift]] hC ⟨⟨e15, k15 y6.1 3 y8.1 y10.1 false _ h19⟩, trivial⟩ ⟨h17, rfl, trivial⟩ (by kernel_rfl) ?_
        rcases boolC ((c4_1 y8 y10 y18)) with h20 | h20
        · replace h := condT h20 h
          replace h := Option.some.inj h
          subst h
          exact WI_ret (bs := [((c4_1 y8 y10 y18), true)]) mixed [0, 2, 3, 4, 5, 6, 8, 9, 10, 11, 12, 15, 25, 26, 27, 49, 63] 23 [true] [] [] [.tmp 2] 0 [] rfl hC trivial ⟨h20, trivial⟩ (by kernel_rfl)
        · replace h := condF h20 h
          obtain ⟨y21, h22, h⟩ := bindE h
          refine WI_stop (bs := [((c4_1 y8 y10 y18), false)]) mixed [0, 2, 3, 4, 5, 6, 8, 9, 10, 11, 12, 15, 25, 26, 27, 49, 63] 26 [false] [.call 14 [.agg [.p (.v (.string y6.1.Name)), I y6.1.Class, I y6.1.Circle.Place.X, I y6.1.Circle.Place.Y, I y6.1.Circle.Yellow, I y6.1.Circle.Red, I y6.1.Drift], .d (I 3), .d (I y8.1), .d (I y10.1), .d (I 3)] [] (.tup [.d (I y21.1), .d (I y21.2)]) [] []] [] 0 [0] [(2, .d (Bo false)), (4, .d (.o 0 0)), (5, .d (I y8.1)), (6, .d (I y10.1)), (8, .d (I 3)), (9, .d (I y18.1)), (10, .d (I y18.2)), (11, .d (I y21.1)), (12, .d (I y21.2)), (25, .agg [I 2, I 3]), (26, .d (I 1)), (27, .d (Bo true)), (49, .d (Bo (c4_1 y8 y10 y18))), (63, .d (Bo ((y21.2 != 0) || (y21.1 != 4))))] [.box 31 [.p (.v (.string y6.1.Name)), I y6.1.Class, I y6.1.Circle.Place.X, I y6.1.Circle.Place.Y, I y6.1.Circle.Yellow, I y6.1.Circle.Red, I y6.1.Drift]] hC ⟨⟨e14, k14 y6.1 3 y8.1 y10.1 3 _ h22⟩, trivial⟩ ⟨h20, trivial⟩ (by kernel_rfl) ?_
          rcases boolC (((y21.2 != 0) || (y21.1 != 4))) with h23 | h23
          · replace h := condT h23 h
            replace h := Option.some.inj h
            subst h
            exact WI_ret (bs := [(((y21.2 != 0) || (y21.1 != 4)), true)]) mixed [0, 2, 3, 4, 5, 6, 8, 9, 10, 11, 12, 15, 25, 26, 27, 49, 63] 23 [true] [] [] [.tmp 2] 0 [] rfl hC trivial ⟨h23, trivial⟩ (by kernel_rfl)
          · replace h := condF h23 h
            obtain ⟨y24, h25, h⟩ := bindE h
            replace h := Option.some.inj h
            subst h
            exact WI_ret (bs := [(((y21.2 != 0) || (y21.1 != 4)), false), (false, false)]) mixed [0, 2, 3, 4, 5, 6, 8, 9, 10, 11, 12, 15, 25, 26, 27, 49, 63] 32 [false, false] [.call 9 [] [] (.d (Bo y24)) [] []] [] [.tmp 2] 0 [] rfl hC ⟨⟨e9, k9  _ h25⟩, trivial⟩ ⟨h23, rfl, trivial⟩ (by kernel_rfl)
theorem e4 : Enters Tryd.prog 4 := enters_of Tryd.func4 (by kernel_rfl) (by kernel_rfl)
theorem k5 (x0 : List Int) (r : Bool) (h : F5 x0 = some r) : CallOk Tryd.prog 5 [.d (.p (.s (x0.map pI)))] [] (.d (Bo r)) [] := by
  unfold F5 at h
  refine callOk_of 64 Tryd.func5 rfl rfl rfl fun C hC => ?_
  rcases boolC (decide ((x0.length : Int) > 600)) with h1 | h1
  · replace h := condT h1 h
    obtain ⟨y2, h3, h⟩ := bindE h
    replace h := Option.some.inj h
    subst h
    exact WI_ret (bs := [(decide ((x0.length : Int) > 600), true)]) mixed [0, 2, 3, 4, 5, 6, 7, 8, 9, 10, 11, 14] 29 [true] [.len ((x0.map pI).length : Int) (x0.length : Int), .call 9 [] [] (.d (Bo y2)) [] []] [] [.tmp 2] 0 [] rfl hC ⟨len_map _ _, ⟨e9, k9  _ h3⟩, trivial⟩ ⟨h1, trivial⟩ (by kernel_rfl)
  · replace h := condF h1 h
    obtain ⟨y4, h5, h⟩ := bindE h
    obtain ⟨y6, h7, h⟩ := bindE h
    obtain ⟨y8, h9, h⟩ := bindE h
    obtain ⟨y10, h11, h⟩ := bindE h
    obtain ⟨y12, h13, h⟩ := bindE h
    obtain ⟨y14, h15, h⟩ := bindE h
    obtain ⟨y16, h17, h⟩ := bindE h
    obtain ⟨y18, h19, h⟩ := bindE h
    obtain ⟨y20, h21, h⟩ := bindE h
    obtain ⟨y22, h23, h⟩ := bindE h
    replace h := Option.some.inj h
    subst h
    exact WI_ret (bs := [(decide ((x0.length : Int) > 600), false)]) mixed [0, 2, 3, 4, 5, 6, 7, 8, 9, 10, 11, 14] 42 [false] [.len ((x0.map pI).length : Int) (x0.length : Int), .call 10 [.d (.p (.s (x0.map pI)))] [] (.d (.o 0 0)) [.box 58 [.p (.s (y4.L.map pI)), I y4.At]] [], .call 11 [.d (.o 0 0)] [.box 58 [.p (.s (y4.L.map pI)), I y4.At]] (.agg [.p (.v (.string y6.1.Name)), I y6.1.Class, I y6.1.Circle.Place.X, I y6.1.Circle.Place.Y, I y6.1.Circle.Yellow, I y6.1.Circle.Red, I y6.1.Drift]) [.box 58 [.p (.s (y6.2.L.map pI)), I y6.2.At]] [0], .call 13 [.d (.o 0 0), .d (I 2), .d (I 3)] [.box 58 [.p (.s (y6.2.L.map pI)), I y6.2.At]] (.d (I y8.1)) [.box 58 [.p (.s (y8.2.L.map pI)), I y8.2.At]] [0], .call 13 [.d (.o 0 0), .d (I 1), .d (I 3)] [.box 58 [.p (.s (y8.2.L.map pI)), I y8.2.At]] (.d (I y10.1)) [.box 58 [.p (.s (y10.2.L.map pI)), I y10.2.At]] [0], .call 13 [.d (.o 0 0), .d (I 1), .d (I 3)] [.box 58 [.p (.s (y10.2.L.map pI)), I y10.2.At]] (.d (I y12.1)) [.box 58 [.p (.s (y12.2.L.map pI)), I y12.2.At]] [0], .call 15 [.agg [.p (.v (.string y6.1.Name)), I y6.1.Class, I y6.1.Circle.Place.X, I y6.1.Circle.Place.Y, I y6.1.Circle.Yellow, I y6.1.Circle.Red, I y6.1.Drift], .d (I y8.1), .d (I y10.1), .d (I y12.1), .d (Bo false)] [] (.tup [.d (I y14.1), .d (I y14.2)]) [] [], .call 16 [.d (.o 0 0), .d (I 3)] [.box 58 [.p (.s (y12.2.L.map pI)), I y12.2.At]] (.d (I y16.1)) [.box 58 [.p (.s (y16.2.L.map pI)), I y16.2.At]] [0], .call 16 [.d (.o 0 0), .d (I 3)] [.box 58 [.p (.s (y16.2.L.map pI)), I y16.2.At]] (.d (I y18.1)) [.box 58 [.p (.s (y18.2.L.map pI)), I y18.2.At]] [0], .call 15 [.agg [.p (.v (.string y6.1.Name)), I y6.1.Class, I y6.1.Circle.Place.X, I y6.1.Circle.Place.Y, I y6.1.Circle.Yellow, I y6.1.Circle.Red, I y6.1.Drift], .d (I y8.1), .d (I (min 3 (w64 (y10.1 + y16.1)))), .d (I (max 1 (w64 (y12.1 - y18.1)))), .d (Bo false)] [] (.tup [.d (I y20.1), .d (I y20.2)]) [] [], .when [((((y14.2 == 0) && (y20.2 == 0)) && (decide (y20.1 ≤ y14.1))), true)] (.call 9 [] [] (.d (Bo y22)) [] [])] [] [.tmp 2] 0 [] rfl hC ⟨len_map _ _, ⟨e10, k10 x0 _ h5⟩, ⟨e11, k11 y4 _ h7⟩, ⟨e13, k13 y6.2 2 3 _ h9⟩, ⟨e13, k13 y8.2 1 3 _ h11⟩, ⟨e13, k13 y10.2 1 3 _ h13⟩, ⟨e15, k15 y6.1 y8.1 y10.1 y12.1 false _ h15⟩, ⟨e16, k16 y12.2 3 _ h17⟩, ⟨e16, k16 y16.2 3 _ h19⟩, ⟨e15, k15 y6.1 y8.1 (min 3 (w64 (y10.1 + y16.1))) (max 1 (w64 (y12.1 - y18.1))) false _ h21⟩, fun hg => ⟨e9, k9  _ (guardO_get h23 hg)⟩, trivial⟩ ⟨h1, trivial⟩ (by kernel_rfl)
theorem e5 : Enters Tryd.prog 5 := enters_of Tryd.func5 (by kernel_rfl) (by kernel_rfl)
theorem k17 (x0 : api_Operation) (x1 : Int) (x2 : Int) (r : Bool) (h : F17 x0 x1 x2 = some r) : CallOk Tryd.prog 17 [.agg [.p (.v (.string x0.Name)), I x0.Class, I x0.Circle.Place.X, I x0.Circle.Place.Y, I x0.Circle.Yellow, I x0.Circle.Red, I x0.Drift], .d (I x1), .d (I x2)] [] (.d (Bo r)) [] := by
  unfold F17 at h
  refine callOk_of 24 Tryd.func17 rfl rfl rfl fun C hC => ?_
  obtain ⟨y1, h2, h⟩ := bindE h
  replace h := Option.some.inj h
  subst h
  exact WI_ret (bs := []) mixed [0, 1, 2, 3, 6] 25 [] [.call 22 [.agg [.p (.v (.string x0.Name)), I x0.Class, I x0.Circle.Place.X, I x0.Circle.Place.Y, I x0.Circle.Yellow, I x0.Circle.Red, I x0.Drift]] [] (.d (I y1)) [] [], .when [((y1 == 0), true)] (.call 34 [.d (I x1)] [] (.d (Bo (F34 x1))) [] []), .when [(((y1 == 0) && (F34 x1)), true)] (.call 35 [.d (I x2)] [] (.d (Bo (F35 x2))) [] []), .when [((((y1 == 0) && (F34 x1)) && (F35 x2)), true)] (.call 32 [.agg [.p (.v (.string x0.Name)), I x0.Class, I x0.Circle.Place.X, I x0.Circle.Place.Y, I x0.Circle.Yellow, I x0.Circle.Red, I x0.Drift], .d (I x1), .d (I x2)] [] (.d (Bo (F32 x0 x1 x2))) [] [])] [] [.tmp 6] 0 [] rfl hC ⟨⟨e22, k22 x0 _ h2⟩, fun hg => ⟨e34, k34 x1 _ rfl⟩, fun hg => ⟨e35, k35 x2 _ rfl⟩, fun hg => ⟨e32, k32 x0 x1 x2 _ rfl⟩, trivial⟩ trivial (by kernel_rfl)
theorem e17 : Enters Tryd.prog 17 := enters_of Tryd.func17 (by kernel_rfl) (by kernel_rfl)
def st6_0  (s6_0 : Int × Int × (List Int) × Int) : St := [(2, .d (Bo false)), (3, .d (.o 0 0)), (4, .d (.o 1 0)), (5, .d (I s6_0.1)), (6, .d (I s6_0.2.1))]
def R6_0 (y6 : api_Operation × dynposmake_Src) (s6_0 : Int × Int × (List Int) × Int) : List Res := [.box 58 [.p (.s (s6_0.2.2.1.map pI)), I s6_0.2.2.2], .box 31 [.p (.v (.string y6.1.Name)), I y6.1.Class, I y6.1.Circle.Place.X, I y6.1.Circle.Place.Y, I y6.1.Circle.Yellow, I y6.1.Circle.Red, I y6.1.Drift]]
def sa6_0  (s6_0 : Int × Int × (List Int) × Int) : St := [(2, .d (Bo false))]
def Ra6_0  (s6_0 : Int × Int × (List Int) × Int) : List Res := []
def sa6_1 (s6_0 : Int × Int × (List Int) × Int) (y11 : Int × dynposmake_Src) (y13 : Int × dynposmake_Src) (y15 : Int × Int) (s6_1 : Int) : St := [(2, .d (Bo false)), (3, .d (.o 0 0)), (4, .d (.o 1 0)), (5, .d (I s6_1)), (6, .d (I s6_0.2.1)), (8, .d (I y11.1)), (9, .d (I y13.1)), (11, .d (I y15.2))]
def Ra6_1 (y6 : api_Operation × dynposmake_Src) (y13 : Int × dynposmake_Src) (s6_1 : Int) : List Res := [.box 58 [.p (.s (y13.2.L.map pI)), I y13.2.At], .box 31 [.p (.v (.string y6.1.Name)), I y6.1.Class, I y6.1.Circle.Place.X, I y6.1.Circle.Place.Y, I y6.1.Circle.Yellow, I y6.1.Circle.Red, I y6.1.Drift]]
theorem k6 (x0 : List Int) (r : Bool) (h : F6 x0 = some r) : CallOk Tryd.prog 6 [.d (.p (.s (x0.map pI)))] [] (.d (Bo r)) [] := by
  unfold F6 at h
  refine callOk_of 96 Tryd.func6 rfl rfl rfl fun C hC => ?_
  rcases boolC (decide ((x0.length : Int) > 600)) with h1 | h1
  · replace h := condT h1 h
    obtain ⟨y2, h3, h⟩ := bindE h
    replace h := Option.some.inj h
    subst h
    exact WI_ret (bs := [(decide ((x0.length : Int) > 600), true)]) mixed [0, 2, 3, 4, 5, 6, 7, 8, 9, 10, 11, 14, 21, 40, 53, 94] 29 [true] [.len ((x0.map pI).length : Int) (x0.length : Int), .call 9 [] [] (.d (Bo y2)) [] []] [] [.tmp 2] 0 [] rfl hC ⟨len_map _ _, ⟨e9, k9  _ h3⟩, trivial⟩ ⟨h1, trivial⟩ (by kernel_rfl)
  · replace h := condF h1 h
    obtain ⟨y4, h5, h⟩ := bindE h
    obtain ⟨y6, h7, h⟩ := bindE h
    refine WI_stop (bs := [(decide ((x0.length : Int) > 600), false)]) mixed [0, 2, 3, 4, 5, 6, 7, 8, 9, 10, 11, 14, 21, 40, 53, 94] 37 [false] [.len ((x0.map pI).length : Int) (x0.length : Int), .call 10 [.d (.p (.s (x0.map pI)))] [] (.d (.o 0 0)) [.box 58 [.p (.s (y4.L.map pI)), I y4.At]] [], .call 11 [.d (.o 0 0)] [.box 58 [.p (.s (y4.L.map pI)), I y4.At]] (.agg [.p (.v (.string y6.1.Name)), I y6.1.Class, I y6.1.Circle.Place.X, I y6.1.Circle.Place.Y, I y6.1.Circle.Yellow, I y6.1.Circle.Red, I y6.1.Drift]) [.box 58 [.p (.s (y6.2.L.map pI)), I y6.2.At]] [0]] [] 0 [0, 1] (st6_0 (0, 0, y6.2.L, y6.2.At)) (R6_0 y6 (0, 0, y6.2.L, y6.2.At)) hC ⟨len_map _ _, ⟨e10, k10 x0 _ h5⟩, ⟨e11, k11 y4 _ h7⟩, trivial⟩ ⟨h1, trivial⟩ (by kernel_rfl) ?_
    obtain ⟨k6_0, hm6_0, hret6_0, hnext6_0⟩ := andThen_inv h
    clear h
    refine WI_cut (by kernel_rfl) (fun s => k6_0 = .next s) (sa6_0) (Ra6_0) ?_ fun s6_0 hs6_0 => ?_
    · refine WI_blk (by kernel_rfl) ?_
      refine WI_while (by kernel_rfl) (F6_l0 y6) (st6_0) (R6_0 y6) k6_0 19 (0, 0, y6.2.L, y6.2.At) hm6_0 rfl rfl fun s6_0 k6_0b h hb6_0 hr6_0 => ?_
      unfold F6_l0 at h
      rcases boolC (decide (s6_0.2.1 < 16)) with h8 | h8
      · replace h := condT h8 h
        obtain ⟨y9, h10, h⟩ := bindE h
        obtain ⟨y11, h12, h⟩ := bindE h
        obtain ⟨y13, h14, h⟩ := bindE h
        obtain ⟨y15, h16, h⟩ := bindE h
        refine WI_stop (bs := [(decide (s6_0.2.1 < 16), true)]) mixed [0, 2, 3, 4, 5, 6, 7, 8, 9, 10, 11, 14, 21, 40, 53, 94] 35 [true] [.call 16 [.d (.o 0 0), .d (I 5)] [.box 58 [.p (.s (s6_0.2.2.1.map pI)), I s6_0.2.2.2]] (.d (I y9.1)) [.box 58 [.p (.s (y9.2.L.map pI)), I y9.2.At]] [0], .call 13 [.d (.o 0 0), .d (I 1), .d (I 3)] [.box 58 [.p (.s (y9.2.L.map pI)), I y9.2.At]] (.d (I y11.1)) [.box 58 [.p (.s (y11.2.L.map pI)), I y11.2.At]] [0], .call 13 [.d (.o 0 0), .d (I 1), .d (I 3)] [.box 58 [.p (.s (y11.2.L.map pI)), I y11.2.At]] (.d (I y13.1)) [.box 58 [.p (.s (y13.2.L.map pI)), I y13.2.At]] [0], .call 14 [.agg [.p (.v (.string y6.1.Name)), I y6.1.Class, I y6.1.Circle.Place.X, I y6.1.Circle.Place.Y, I y6.1.Circle.Yellow, I y6.1.Circle.Red, I y6.1.Drift], .d (I s6_0.1), .d (I y11.1), .d (I y13.1), .d (I y9.1)] [] (.tup [.d (I y15.1), .d (I y15.2)]) [] []] [] 0 [0, 1] [(2, .d (Bo false)), (3, .d (.o 0 0)), (4, .d (.o 1 0)), (5, .d (I s6_0.1)), (6, .d (I s6_0.2.1)), (7, .d (I y9.1)), (8, .d (I y11.1)), (9, .d (I y13.1)), (10, .d (I y15.1)), (11, .d (I y15.2)), (40, .d (Bo (y15.2 == 0)))] [.box 58 [.p (.s (y13.2.L.map pI)), I y13.2.At], .box 31 [.p (.v (.string y6.1.Name)), I y6.1.Class, I y6.1.Circle.Place.X, I y6.1.Circle.Place.Y, I y6.1.Circle.Yellow, I y6.1.Circle.Red, I y6.1.Drift]] hC ⟨⟨e16, k16 (⟨s6_0.2.2.1, s6_0.2.2.2⟩ : dynposmake_Src) 5 _ h10⟩, ⟨e13, k13 y9.2 1 3 _ h12⟩, ⟨e13, k13 y11.2 1 3 _ h14⟩, ⟨e14, k14 y6.1 s6_0.1 y11.1 y13.1 y9.1 _ h16⟩, trivial⟩ ⟨h8, trivial⟩ (by kernel_rfl) ?_
        obtain ⟨k6_1, h, hret6_1, hnext6_1⟩ := andThen_inv h
        refine WI_cut (by kernel_rfl) (fun s => k6_1 = .next s) (sa6_1 s6_0 y11 y13 y15) (Ra6_1 y6 y13) ?_ fun s6_1 hs6_1 => ?_
        · unfold F6_m1 at h
          rcases boolC ((y15.2 == 0)) with h17 | h17
          · replace h := condT h17 h
            obtain ⟨y18, h19, h⟩ := bindE h
            refine WI_stop (bs := [((y15.2 == 0), true)]) mixed [0, 2, 3, 4, 5, 6, 7, 8, 9, 10, 11, 14, 21, 40, 53, 94] 25 [true] [.when [(((y9.1 == 1) || (y9.1 == 2)), true)] (.call 17 [.agg [.p (.v (.string y6.1.Name)), I y6.1.Class, I y6.1.Circle.Place.X, I y6.1.Circle.Place.Y, I y6.1.Circle.Yellow, I y6.1.Circle.Red, I y6.1.Drift], .d (I y11.1), .d (I y13.1)] [] (.d (Bo y18)) [] [])] [] 0 [0, 1] [(2, .d (Bo false)), (3, .d (.o 0 0)), (4, .d (.o 1 0)), (5, .d (I s6_0.1)), (6, .d (I s6_0.2.1)), (8, .d (I y11.1)), (9, .d (I y13.1)), (10, .d (I y15.1)), (11, .d (I y15.2)), (53, .d (Bo (((y9.1 == 1) || (y9.1 == 2)) && (!y18))))] [.box 58 [.p (.s (y13.2.L.map pI)), I y13.2.At], .box 31 [.p (.v (.string y6.1.Name)), I y6.1.Class, I y6.1.Circle.Place.X, I y6.1.Circle.Place.Y, I y6.1.Circle.Yellow, I y6.1.Circle.Red, I y6.1.Drift]] hC ⟨fun hg => ⟨e17, k17 y6.1 y11.1 y13.1 _ (guardO_get h19 hg)⟩, trivial⟩ ⟨h17, trivial⟩ (by kernel_rfl) ?_
            rcases boolC ((((y9.1 == 1) || (y9.1 == 2)) && (!y18))) with h20 | h20
            · replace h := condT h20 h
              have hq := hret6_1 _ (Option.some.inj h).symm
              replace hq := hret6_0 _ (hr6_0 _ (Option.some.inj hq).symm)
              replace hq := Option.some.inj hq
              subst hq
              exact WI_ret (bs := [((((y9.1 == 1) || (y9.1 == 2)) && (!y18)), true)]) mixed [0, 2, 3, 4, 5, 6, 7, 8, 9, 10, 11, 14, 21, 40, 53, 94] 23 [true] [] [] [.tmp 2] 0 [] rfl hC trivial ⟨h20, trivial⟩ (by kernel_rfl)
            · replace h := condF h20 h
              exact WI_end (bs := [((((y9.1 == 1) || (y9.1 == 2)) && (!y18)), false)]) (φ := fun s' => k6_1 = .next s') (st' := (sa6_1 s6_0 y11 y13 y15)) (R' := (Ra6_1 y6 y13)) mixed [0, 2, 3, 4, 5, 6, 7, 8, 9, 10, 11, 14, 21, 40, 53, 94] 23 [false] [] [] 0 [0, 1] y15.1 hC trivial ⟨h20, trivial⟩ (by kernel_rfl) (by kernel_rfl) (Option.some.inj h).symm
          · replace h := condF h17 h
            exact WI_end (bs := [((y15.2 == 0), false)]) (φ := fun s' => k6_1 = .next s') (st' := (sa6_1 s6_0 y11 y13 y15)) (R' := (Ra6_1 y6 y13)) mixed [0, 2, 3, 4, 5, 6, 7, 8, 9, 10, 11, 14, 21, 40, 53, 94] 23 [false] [] [] 0 [0, 1] s6_0.1 hC trivial ⟨h17, trivial⟩ (by kernel_rfl) (by kernel_rfl) (Option.some.inj h).symm
        · clear h; have h := hnext6_1 _ hs6_1
          obtain ⟨y21, h22, h⟩ := bindE h
          obtain ⟨y23, h24, h⟩ := bindE h
          obtain ⟨y25, h26, h⟩ := bindE h
          refine WI_stop (bs := []) mixed [0, 2, 3, 4, 5, 6, 7, 8, 9, 10, 11, 14, 21, 40, 53, 94] 25 [] [.call 16 [.d (.o 0 0), .d (I 2)] [.box 58 [.p (.s (y13.2.L.map pI)), I y13.2.At]] (.d (I y21.1)) [.box 58 [.p (.s (y21.2.L.map pI)), I y21.2.At]] [0], .call 15 [.agg [.p (.v (.string y6.1.Name)), I y6.1.Class, I y6.1.Circle.Place.X, I y6.1.Circle.Place.Y, I y6.1.Circle.Yellow, I y6.1.Circle.Red, I y6.1.Drift], .d (I s6_1), .d (I y11.1), .d (I y13.1), .d (Bo (y21.1 == 1))] [] (.tup [.d (I y23.1), .d (I y23.2)]) [] [], .when [((y23.2 != 0), false), (((y23.1 == 2) || (y23.1 == 1)), true)] (.call 17 [.agg [.p (.v (.string y6.1.Name)), I y6.1.Class, I y6.1.Circle.Place.X, I y6.1.Circle.Place.Y, I y6.1.Circle.Yellow, I y6.1.Circle.Red, I y6.1.Drift], .d (I y11.1), .d (I y13.1)] [] (.d (Bo y25)) [] [])] [] 0 [0, 1] [(2, .d (Bo false)), (3, .d (.o 0 0)), (4, .d (.o 1 0)), (5, .d (I y23.1)), (6, .d (I s6_0.2.1)), (94, .d (Bo (c6_2 y11 y13 y23 y25)))] [.box 58 [.p (.s (y21.2.L.map pI)), I y21.2.At], .box 31 [.p (.v (.string y6.1.Name)), I y6.1.Class, I y6.1.Circle.Place.X, I y6.1.Circle.Place.Y, I y6.1.Circle.Yellow, I y6.1.Circle.Red, I y6.1.Drift]] hC ⟨⟨e16, k16 y13.2 2 _ h22⟩, ⟨e15, k15 y6.1 s6_1 y11.1 y13.1 (y21.1 == 1) _ h24⟩, fun hg => ⟨e17, k17 y6.1 y11.1 y13.1 _ (guardO_get h26 hg)⟩, trivial⟩ trivial (by kernel_rfl) ?_
          rcases boolC ((c6_2 y11 y13 y23 y25)) with h27 | h27
          · replace h := condT h27 h
            have hq := hret6_0 _ (hr6_0 _ (Option.some.inj h).symm)
            replace hq := Option.some.inj hq
            subst hq
            exact WI_ret (bs := [((c6_2 y11 y13 y23 y25), true)]) mixed [0, 2, 3, 4, 5, 6, 7, 8, 9, 10, 11, 14, 21, 40, 53, 94] 23 [true] [] [] [.tmp 2] 0 [] rfl hC trivial ⟨h27, trivial⟩ (by kernel_rfl)
          · replace h := condF h27 h
            exact WI_end (bs := [((c6_2 y11 y13 y23 y25), false)]) (φ := fun s' => k6_0b = .next s') (st' := (st6_0)) (R' := (R6_0 y6)) mixed [0, 2, 3, 4, 5, 6, 7, 8, 9, 10, 11, 14, 21, 40, 53, 94] 24 [false] [] [] 0 [0, 1] (y23.1, w64 (s6_0.2.1 + 1), y21.2.L, y21.2.At) hC trivial ⟨h27, trivial⟩ (by kernel_rfl) (by kernel_rfl) (Option.some.inj h).symm
      · replace h := condF h8 h
        exact WI_end (bs := [(decide (s6_0.2.1 < 16), false)]) (φ := fun s' => k6_0 = .next s') (st' := (sa6_0)) (R' := (Ra6_0)) mixed [0, 2, 3, 4, 5, 6, 7, 8, 9, 10, 11, 14, 21, 40, 53, 94] 26 [false] [] [] 0 [] (s6_0.1, s6_0.2.1, s6_0.2.2.1, s6_0.2.2.2) hC trivial ⟨h8, trivial⟩ (by kernel_rfl) (by kernel_rfl) (hb6_0 _ (Option.some.inj h).symm)
    · have h := hnext6_0 _ hs6_0
      obtain ⟨y28, h29, h⟩ := bindE h
      replace h := Option.some.inj h
      subst h
      exact WI_ret (bs := []) mixed [0, 2, 3, 4, 5, 6, 7, 8, 9, 10, 11, 14, 21, 40, 53, 94] 23 [] [.call 9 [] [] (.d (Bo y28)) [] []] [] [.tmp 2] 0 [] rfl hC ⟨⟨e9, k9  _ h29⟩, trivial⟩ trivial (by kernel_rfl)
theorem e6 : Enters Tryd.prog 6 := enters_of Tryd.func6 (by kernel_rfl) (by kernel_rfl)
def st18_0  (s18_0 : Int × (List Int) × Int × (List Int) × (List Int)) : St := [(0, .d (.o 0 0)), (4, .d (.p (.s ([].map pI)))), (5, .d (.p (.s ([].map pI)))), (6, .d (.os 1)), (7, .d (.os 2)), (8, .d (I s18_0.1))]
def R18_0  (s18_0 : Int × (List Int) × Int × (List Int) × (List Int)) : List Res := [.box 58 [.p (.s (s18_0.2.1.map pI)), I s18_0.2.2.1], .sl 3 1 (s18_0.2.2.2.1.map pI), .sl 3 1 (s18_0.2.2.2.2.map pI)]
def sa18_0  (s18_0 : Int × (List Int) × Int × (List Int) × (List Int)) : St := [(4, .d (.p (.s ([].map pI)))), (5, .d (.p (.s ([].map pI)))), (6, .d (.os 1)), (7, .d (.os 2))]
def Ra18_0  (s18_0 : Int × (List Int) × Int × (List Int) × (List Int)) : List Res := [.box 58 [.p (.s (s18_0.2.1.map pI)), I s18_0.2.2.1], .sl 3 1 (s18_0.2.2.2.1.map pI), .sl 3 1 (s18_0.2.2.2.2.map pI)]
theorem k18 (x0 : dynposmake_Src) (x1 : Int) (r : (List Int) × (List Int) × dynposmake_Src) (h : F18 x0 x1 = some r) : CallOk Tryd.prog 18 [.d (.o 0 0), .d (I x1)] [.box 58 [.p (.s (x0.L.map pI)), I x0.At]] (.tup [.d (.p (.s (r.1.map pI))), .d (.p (.s (r.2.1.map pI)))]) [.box 58 [.p (.s (r.2.2.L.map pI)), I r.2.2.At]] := by
  unfold F18 at h
  refine callOk_of 31 Tryd.func18 rfl rfl rfl fun C hC => ?_
  obtain ⟨y1, h2, h⟩ := bindE h
  refine WI_stop (bs := []) mixed [0, 1, 4, 5, 6, 7, 8, 14] 28 [] [.call 16 [.d (.o 0 0), .d (I (w64 (x1 + 1)))] [.box 58 [.p (.s (x0.L.map pI)), I x0.At]] (.d (I y1.1)) [.box 58 [.p (.s (y1.2.L.map pI)), I y1.2.At]] [0]] [.own 6 3 1, .own 7 3 1] 1 [0, 1, 2] (st18_0 (y1.1, y1.2.L, y1.2.At, ([] : List Int), ([] : List Int))) (R18_0 (y1.1, y1.2.L, y1.2.At, ([] : List Int), ([] : List Int))) hC ⟨⟨e16, k16 x0 (w64 (x1 + 1)) _ h2⟩, trivial⟩ trivial (by kernel_rfl) ?_
  obtain ⟨k18_0, hm18_0, hret18_0, hnext18_0⟩ := andThen_inv h
  clear h
  refine WI_cut (by kernel_rfl) (fun s => k18_0 = .next s) (sa18_0) (Ra18_0) ?_ fun s18_0 hs18_0 => ?_
  · refine WI_blk (by kernel_rfl) ?_
    refine WI_while (by kernel_rfl) F18_l0 (st18_0) (R18_0) k18_0 1152921504606846976 (y1.1, y1.2.L, y1.2.At, ([] : List Int), ([] : List Int)) hm18_0 rfl rfl fun s18_0 k18_0b h hb18_0 hr18_0 => ?_
    unfold F18_l0 at h
    rcases boolC (decide (s18_0.1 > 0)) with h3 | h3
    · replace h := condT h3 h
      obtain ⟨y4, h5, h⟩ := bindE h
      obtain ⟨y6, h7, h⟩ := bindE h
      obtain ⟨y8, h9, h⟩ := bindE h
      obtain ⟨y10, h11, h⟩ := bindE h
      exact WI_end (bs := [(decide (s18_0.1 > 0), true)]) (φ := fun s' => k18_0b = .next s') (st' := (st18_0)) (R' := (R18_0)) mixed [0, 1, 4, 5, 6, 7, 8, 14] 31 [true] [.call 12 [.d (.o 0 0), .d (.p (.s ([3, 3, 2, 1].map pI)))] [.box 58 [.p (.s (s18_0.2.1.map pI)), I s18_0.2.2.1]] (.d (I y4.1)) [.box 58 [.p (.s (y4.2.L.map pI)), I y4.2.At]] [0], .app (s18_0.2.2.2.1.map pI) ([y4.1].map pI) 1 (((s18_0.2.2.2.1.map pI).length + ([y4.1].map pI).length) * (8 + 1)) (y6.map pI), .call 12 [.d (.o 0 0), .d (.p (.s ([1, 1, 1, 2, 3].map pI)))] [.box 58 [.p (.s (y4.2.L.map pI)), I y4.2.At]] (.d (I y8.1)) [.box 58 [.p (.s (y8.2.L.map pI)), I y8.2.At]] [0], .app (s18_0.2.2.2.2.map pI) ([y8.1].map pI) 1 (((s18_0.2.2.2.2.map pI).length + ([y8.1].map pI).length) * (8 + 1)) (y10.map pI)] [] 1 [0, 3, 4] (w64 (s18_0.1 - 1), y8.2.L, y8.2.At, y6, y10) hC ⟨⟨e12, k12 (⟨s18_0.2.1, s18_0.2.2.1⟩ : dynposmake_Src) [3, 3, 2, 1] _ h5⟩, app_get pI 1 (fun _ => rfl) h7, ⟨e12, k12 y4.2 [1, 1, 1, 2, 3] _ h9⟩, app_get pI 1 (fun _ => rfl) h11, trivial⟩ ⟨h3, trivial⟩ (by kernel_rfl) (by kernel_rfl) (Option.some.inj h).symm
    · replace h := condF h3 h
      exact WI_end (bs := [(decide (s18_0.1 > 0), false)]) (φ := fun s' => k18_0 = .next s') (st' := (sa18_0)) (R' := (Ra18_0)) mixed [0, 1, 4, 5, 6, 7, 8, 14] 26 [false] [] [] 1 [0, 1, 2] (s18_0.1, s18_0.2.1, s18_0.2.2.1, s18_0.2.2.2.1, s18_0.2.2.2.2) hC trivial ⟨h3, trivial⟩ (by kernel_rfl) (by kernel_rfl) (hb18_0 _ (Option.some.inj h).symm)
  · have h := hnext18_0 _ hs18_0
    replace h := Option.some.inj h
    subst h
    exact WI_ret (bs := []) mixed [0, 1, 4, 5, 6, 7, 8, 14] 23 [] [] [.frz 1, .frz 2] [.tmp 4, .tmp 5] 1 [0] rfl hC trivial trivial (by kernel_rfl)
theorem e18 : Enters Tryd.prog 18 := enters_of Tryd.func18 (by kernel_rfl) (by kernel_rfl)
end Go.Proofs.YtakbldjmgfcipaaDoor
