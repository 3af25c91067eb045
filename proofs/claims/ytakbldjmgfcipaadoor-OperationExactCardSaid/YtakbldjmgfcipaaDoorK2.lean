import Derived.Test.YtakbldjmgfcipaaDoorRows
import Derived.Test.YtakbldjmgfcipaaDoorK1
set_option linter.unusedVariables false
namespace Go.Proofs.YtakbldjmgfcipaaDoor
open Go.SL
def st19_0 (x2 : List Int) (x3 : List Int) (i19_0 : Nat) (s19_0 : Int × (List Int)) : St := [(1, .d (I s19_0.1)), (2, .d (.p (.s (x2.map pI)))), (3, .d (.p (.s (x3.map pI)))), (4, .d (.o 0 0)), (8, .d (.p (.s ([].map pI)))), (9, .d (I 0)), (10, .d (.os 1)), (25, .d (I (x2.length : Int))), (26, .d (I (cnt 0 i19_0)))]
def R19_0 (x0 : api_Operation) (i19_0 : Nat) (s19_0 : Int × (List Int)) : List Res := [.box 31 [.p (.v (.string x0.Name)), I x0.Class, I x0.Circle.Place.X, I x0.Circle.Place.Y, I x0.Circle.Yellow, I x0.Circle.Red, I x0.Drift], .sl 3 1 (s19_0.2.map pI)]
def sa19_0  (s19_0 : Int × (List Int)) : St := [(8, .d (.p (.s ([].map pI)))), (9, .d (I 0)), (10, .d (.os 0))]
def Ra19_0  (s19_0 : Int × (List Int)) : List Res := [.sl 3 1 (s19_0.2.map pI)]
theorem k19 (x0 : api_Operation) (x1 : Int) (x2 : List Int) (x3 : List Int) (r : (List Int) × Int) (h : F19 x0 x1 x2 x3 = some r) : CallOk Tryd.prog 19 [.agg [.p (.v (.string x0.Name)), I x0.Class, I x0.Circle.Place.X, I x0.Circle.Place.Y, I x0.Circle.Yellow, I x0.Circle.Red, I x0.Drift], .d (I x1), .d (.p (.s (x2.map pI))), .d (.p (.s (x3.map pI)))] [] (.tup [.d (.p (.s (r.1.map pI))), .d (I r.2)]) [] := by
  unfold F19 at h
  refine callOk_of 53 Tryd.func19 rfl rfl rfl fun C hC => ?_
  rcases boolC (((x2.length : Int) != (x3.length : Int))) with h1 | h1
  · replace h := condT h1 h
    replace h := Option.some.inj h
    subst h
    exact WI_ret (bs := [(((x2.length : Int) != (x3.length : Int)), true)]) mixed [0, 1, 2, 3, 4, 8, 9, 10, 11, 12, 13, 14, 20, 25, 26, 27, 44] 30 [true] [.len ((x2.map pI).length : Int) (x2.length : Int), .len ((x3.map pI).length : Int) (x3.length : Int)] [] [.tmp 8, .tmp 9] 0 [] rfl hC ⟨len_map _ _, len_map _ _, trivial⟩ ⟨h1, trivial⟩ (by kernel_rfl)
  · replace h := condF h1 h
    rcases boolC (decide ((x2.length : Int) > 400)) with h2 | h2
    · replace h := condT h2 h
      replace h := Option.some.inj h
      subst h
      exact WI_ret (bs := [(((x2.length : Int) != (x3.length : Int)), false), (decide ((x2.length : Int) > 400), true)]) mixed [0, 1, 2, 3, 4, 8, 9, 10, 11, 12, 13, 14, 20, 25, 26, 27, 44] 33 [false, true] [.len ((x2.map pI).length : Int) (x2.length : Int), .len ((x3.map pI).length : Int) (x3.length : Int), .len ((x2.map pI).length : Int) (x2.length : Int)] [] [.tmp 8, .tmp 9] 0 [] rfl hC ⟨len_map _ _, len_map _ _, len_map _ _, trivial⟩ ⟨h1, h2, trivial⟩ (by kernel_rfl)
    · replace h := condF h2 h
      refine WI_stop (bs := [(((x2.length : Int) != (x3.length : Int)), false), (decide ((x2.length : Int) > 400), false)]) mixed [0, 1, 2, 3, 4, 8, 9, 10, 11, 12, 13, 14, 20, 25, 26, 27, 44] 38 [false, false] [.len ((x2.map pI).length : Int) (x2.length : Int), .len ((x3.map pI).length : Int) (x3.length : Int), .len ((x2.map pI).length : Int) (x2.length : Int), .len ((x2.map pI).length : Int) (x2.length : Int)] [.own 10 3 1] 0 [0, 1] (st19_0 x2 x3 0 (x1, ([] : List Int))) (R19_0 x0 0 (x1, ([] : List Int))) hC ⟨len_map _ _, len_map _ _, len_map _ _, len_map _ _, trivial⟩ ⟨h1, h2, trivial⟩ (by kernel_rfl) ?_
      obtain ⟨k19_0, hm19_0, hret19_0, hnext19_0⟩ := andThen_inv h
      clear h
      refine WI_cut (by kernel_rfl) (fun s => k19_0 = .next s) (sa19_0) (Ra19_0) ?_ fun s19_0 hs19_0 => ?_
      · refine WI_blk (by kernel_rfl) ?_
        refine WI_len 2 rfl fun hl19_0 => ?_
        refine WI_foldI (by kernel_rfl) (F19_l0 x0 x3) (st19_0 x2 x3) (R19_0 x0) k19_0 x2 (x1, ([] : List Int)) hm19_0 rfl rfl (fun s19_0 hn19_0 => ?_) fun i19_0 x19_0 s19_0 k19_0b hi19_0 hx19_0 h hb19_0 hr19_0 => ?_
        · clear hm19_0
          exact WI_end (bs := [(decide ((cnt 0 x2.length) < (x2.length : Int)), false)]) (φ := fun s' => k19_0 = .next s') (st' := (sa19_0)) (R' := (Ra19_0)) mixed [0, 1, 2, 3, 4, 8, 9, 10, 11, 12, 13, 14, 20, 25, 26, 27, 44] 26 [false] [] [] 0 [1] (s19_0.1, s19_0.2) hC trivial ⟨(cnt_end hl19_0), trivial⟩ (by kernel_rfl) (by kernel_rfl) hn19_0
        · unfold F19_l0 at h
          obtain ⟨y3, h4, h⟩ := bindE h
          obtain ⟨y5, h6, h⟩ := bindE h
          refine WI_stop (bs := [(decide ((cnt 0 i19_0) < (x2.length : Int)), true)]) mixed [0, 1, 2, 3, 4, 8, 9, 10, 11, 12, 13, 14, 20, 25, 26, 27, 44] 35 [true] [.row (x2.map pI) (cnt 0 i19_0) (pI x19_0), .row (x3.map pI) (cnt 0 i19_0) (pI y3), .call 15 [.agg [.p (.v (.string x0.Name)), I x0.Class, I x0.Circle.Place.X, I x0.Circle.Place.Y, I x0.Circle.Yellow, I x0.Circle.Red, I x0.Drift], .d (I s19_0.1), .d (I x19_0), .d (I y3), .d (Bo false)] [] (.tup [.d (I y5.1), .d (I y5.2)]) [] []] [] 0 [0, 1] [(1, .d (I s19_0.1)), (2, .d (.p (.s (x2.map pI)))), (3, .d (.p (.s (x3.map pI)))), (4, .d (.o 0 0)), (8, .d (.p (.s ([].map pI)))), (9, .d (I 0)), (10, .d (.os 1)), (12, .d (I y5.1)), (13, .d (I y5.2)), (25, .d (I (x2.length : Int))), (26, .d (I (cnt 0 i19_0))), (44, .d (Bo (y5.2 != 0)))] [.box 31 [.p (.v (.string x0.Name)), I x0.Class, I x0.Circle.Place.X, I x0.Circle.Place.Y, I x0.Circle.Yellow, I x0.Circle.Red, I x0.Drift], .sl 3 1 (s19_0.2.map pI)] hC ⟨(row_cnt hx19_0 hl19_0), row_get h4, ⟨e15, k15 x0 s19_0.1 x19_0 y3 false _ h6⟩, trivial⟩ ⟨(cnt_lt hi19_0 hl19_0), trivial⟩ (by kernel_rfl) ?_
          rcases boolC ((y5.2 != 0)) with h7 | h7
          · replace h := condT h7 h
            have hq := hret19_0 _ (hr19_0 _ (Option.some.inj h).symm)
            replace hq := Option.some.inj hq
            subst hq
            exact WI_ret (bs := [((y5.2 != 0), true)]) mixed [0, 1, 2, 3, 4, 8, 9, 10, 11, 12, 13, 14, 20, 25, 26, 27, 44] 23 [true] [] [] [.tmp 8, .tmp 9] 0 [] rfl hC trivial ⟨h7, trivial⟩ (by kernel_rfl)
          · replace h := condF h7 h
            obtain ⟨y8, h9, h⟩ := bindE h
            exact WI_end (bs := [((y5.2 != 0), false)]) (φ := fun s' => k19_0b = .next s') (st' := (st19_0 x2 x3 (i19_0 + 1))) (R' := (R19_0 x0 (i19_0 + 1))) mixed [0, 1, 2, 3, 4, 8, 9, 10, 11, 12, 13, 14, 20, 25, 26, 27, 44] 27 [false] [.app (s19_0.2.map pI) ([y5.1].map pI) 1 (((s19_0.2.map pI).length + ([y5.1].map pI).length) * (8 + 1)) (y8.map pI)] [] 0 [0, 2] (y5.1, y8) hC ⟨app_get pI 1 (fun _ => rfl) h9, trivial⟩ ⟨h7, trivial⟩ (by kernel_rfl) (by kernel_rfl) (Option.some.inj h).symm
      · have h := hnext19_0 _ hs19_0
        replace h := Option.some.inj h
        subst h
        exact WI_ret (bs := []) mixed [0, 1, 2, 3, 4, 8, 9, 10, 11, 12, 13, 14, 20, 25, 26, 27, 44] 23 [] [] [.frz 0] [.tmp 8, .tmp 9] 0 [] rfl hC trivial trivial (by kernel_rfl)
theorem e19 : Enters Tryd.prog 19 := enters_of Tryd.func19 (by kernel_rfl) (by kernel_rfl)
def st20o1_0 (x0 : List Int) (i20o1_0 : Nat) (s20o1_0 : Unit) : St := [(0, .d (.p (.s (x0.map pI)))), (1, .d (.os 0)), (4, .d (Bo false)), (12, .d (I (x0.length : Int))), (13, .d (I (cnt 0 i20o1_0)))]
def R20o1_0 (x1 : List Int) (i20o1_0 : Nat) (s20o1_0 : Unit) : List Res := [.sl 3 1 (x1.map pI)]
def sa20o1_0  (s20o1_0 : Unit) : St := [(4, .d (Bo false))]
def Ra20o1_0 (x1 : List Int) (s20o1_0 : Unit) : List Res := [.sl 3 1 (x1.map pI)]
theorem k20o1 (x0 : List Int) (x1 : List Int) (r : Bool × (List Int)) (h : F20o1 x0 x1 = some r) : CallOk Tryd.prog 20 [.d (.p (.s (x0.map pI))), .d (.os 0)] [.sl 3 1 (x1.map pI)] (.d (Bo r.1)) [.sl 3 1 (r.2.map pI)] := by
  unfold F20o1 at h
  refine callOk_of 26 Tryd.func20 rfl rfl rfl fun C hC => ?_
  rcases boolC (((x0.length : Int) != (x1.length : Int))) with h1 | h1
  · replace h := condT h1 h
    replace h := Option.some.inj h
    subst h
    exact WI_ret (bs := [(((x0.length : Int) != (x1.length : Int)), true)]) mixed [0, 1, 4, 5, 10, 12, 13, 14, 24] 29 [true] [.len ((x0.map pI).length : Int) (x0.length : Int), .len ((x1.map pI).length : Int) (x1.length : Int)] [] [.tmp 4] 1 [0] rfl hC ⟨len_map _ _, len_map _ _, trivial⟩ ⟨h1, trivial⟩ (by kernel_rfl)
  · replace h := condF h1 h
    refine WI_stop (bs := [(((x0.length : Int) != (x1.length : Int)), false)]) mixed [0, 1, 4, 5, 10, 12, 13, 14, 24] 31 [false] [.len ((x0.map pI).length : Int) (x0.length : Int), .len ((x1.map pI).length : Int) (x1.length : Int), .len ((x0.map pI).length : Int) (x0.length : Int)] [] 1 [0] (st20o1_0 x0 0 ()) (R20o1_0 x1 0 ()) hC ⟨len_map _ _, len_map _ _, len_map _ _, trivial⟩ ⟨h1, trivial⟩ (by kernel_rfl) ?_
    obtain ⟨k20o1_0, hm20o1_0, hret20o1_0, hnext20o1_0⟩ := andThen_inv h
    clear h
    refine WI_cut (by kernel_rfl) (fun s => k20o1_0 = .next s) (sa20o1_0) (Ra20o1_0 x1) ?_ fun s20o1_0 hs20o1_0 => ?_
    · refine WI_blk (by kernel_rfl) ?_
      refine WI_len 0 rfl fun hl20o1_0 => ?_
      refine WI_foldI (by kernel_rfl) (F20o1_l0 x1) (st20o1_0 x0) (R20o1_0 x1) k20o1_0 x0 () hm20o1_0 rfl rfl (fun s20o1_0 hn20o1_0 => ?_) fun i20o1_0 x20o1_0 s20o1_0 k20o1_0b hi20o1_0 hx20o1_0 h hb20o1_0 hr20o1_0 => ?_
      · clear hm20o1_0
        exact WI_end (bs := [(decide ((cnt 0 x0.length) < (x0.length : Int)), false)]) (φ := fun s' => k20o1_0 = .next s') (st' := (sa20o1_0)) (R' := (Ra20o1_0 x1)) mixed [0, 1, 4, 5, 10, 12, 13, 14, 24] 26 [false] [] [] 1 [0] () hC trivial ⟨(cnt_end hl20o1_0), trivial⟩ (by kernel_rfl) (by kernel_rfl) hn20o1_0
      · unfold F20o1_l0 at h
        obtain ⟨y2, h3, h⟩ := bindE h
        rcases boolC ((x20o1_0 != y2)) with h4 | h4
        · replace h := condT h4 h
          have hq := hret20o1_0 _ (hr20o1_0 _ (Option.some.inj h).symm)
          replace hq := Option.some.inj hq
          subst hq
          exact WI_ret (bs := [(decide ((cnt 0 i20o1_0) < (x0.length : Int)), true), ((x20o1_0 != y2), true)]) mixed [0, 1, 4, 5, 10, 12, 13, 14, 24] 35 [true, true] [.row (x0.map pI) (cnt 0 i20o1_0) (pI x20o1_0), .row (x1.map pI) (cnt 0 i20o1_0) (pI y2), .row (x1.map pI) (((cnt 0 i20o1_0).toNat : Nat) : Int) (pI y2)] [] [.tmp 4] 1 [0] rfl hC ⟨(row_cnt hx20o1_0 hl20o1_0), row_get h3, row_getN h3, trivial⟩ ⟨(cnt_lt hi20o1_0 hl20o1_0), h4, trivial⟩ (by kernel_rfl)
        · replace h := condF h4 h
          exact WI_end (bs := [(decide ((cnt 0 i20o1_0) < (x0.length : Int)), true), ((x20o1_0 != y2), false)]) (φ := fun s' => k20o1_0b = .next s') (st' := (st20o1_0 x0 (i20o1_0 + 1))) (R' := (R20o1_0 x1 (i20o1_0 + 1))) mixed [0, 1, 4, 5, 10, 12, 13, 14, 24] 36 [true, false] [.row (x0.map pI) (cnt 0 i20o1_0) (pI x20o1_0), .row (x1.map pI) (cnt 0 i20o1_0) (pI y2), .row (x1.map pI) (((cnt 0 i20o1_0).toNat : Nat) : Int) (pI y2)] [] 1 [0] () hC ⟨(row_cnt hx20o1_0 hl20o1_0), row_get h3, row_getN h3, trivial⟩ ⟨(cnt_lt hi20o1_0 hl20o1_0), h4, trivial⟩ (by kernel_rfl) (by kernel_rfl) (Option.some.inj h).symm
    · have h := hnext20o1_0 _ hs20o1_0
      replace h := Option.some.inj h
      subst h
      exact WI_ret (bs := []) mixed [0, 1, 4, 5, 10, 12, 13, 14, 24] 23 [] [] [] [.tmp 4] 1 [0] rfl hC trivial trivial (by kernel_rfl)
theorem e20o1 : Enters Tryd.prog 20 := enters_of Tryd.func20 (by kernel_rfl) (by kernel_rfl)
theorem k7 (x0 : List Int) (x1 : Int) (r : Bool) (h : F7 x0 x1 = some r) : CallOk Tryd.prog 7 [.d (.p (.s (x0.map pI))), .d (.p (.v (.int .u8 x1)))] [] (.d (Bo r)) [] := by
  unfold F7 at h
  refine callOk_of 107 Tryd.func7 rfl rfl rfl fun C hC => ?_
  rcases boolC (decide ((x0.length : Int) > 600)) with h1 | h1
  · replace h := condT h1 h
    obtain ⟨y2, h3, h⟩ := bindE h
    replace h := Option.some.inj h
    subst h
    exact WI_ret (bs := [(decide ((x0.length : Int) > 600), true)]) mixed [0, 1, 4, 5, 6, 7, 8, 9, 10, 11, 12, 13, 14, 15, 16, 19, 48, 70, 72] 29 [true] [.len ((x0.map pI).length : Int) (x0.length : Int), .call 9 [] [] (.d (Bo y2)) [] []] [] [.tmp 4] 0 [] rfl hC ⟨len_map _ _, ⟨e9, k9  _ h3⟩, trivial⟩ ⟨h1, trivial⟩ (by kernel_rfl)
  · replace h := condF h1 h
    obtain ⟨y4, h5, h⟩ := bindE h
    obtain ⟨y6, h7, h⟩ := bindE h
    obtain ⟨y8, h9, h⟩ := bindE h
    obtain ⟨y10, h11, h⟩ := bindE h
    obtain ⟨y12, h13, h⟩ := bindE h
    refine WI_stop (bs := [(decide ((x0.length : Int) > 600), false)]) mixed [0, 1, 4, 5, 6, 7, 8, 9, 10, 11, 12, 13, 14, 15, 16, 19, 48, 70, 72] 41 [false] [.len ((x0.map pI).length : Int) (x0.length : Int), .call 10 [.d (.p (.s (x0.map pI)))] [] (.d (.o 0 0)) [.box 58 [.p (.s (y4.L.map pI)), I y4.At]] [], .call 11 [.d (.o 0 0)] [.box 58 [.p (.s (y4.L.map pI)), I y4.At]] (.agg [.p (.v (.string y6.1.Name)), I y6.1.Class, I y6.1.Circle.Place.X, I y6.1.Circle.Place.Y, I y6.1.Circle.Yellow, I y6.1.Circle.Red, I y6.1.Drift]) [.box 58 [.p (.s (y6.2.L.map pI)), I y6.2.At]] [0], .call 16 [.d (.o 0 0), .d (I 6)] [.box 58 [.p (.s (y6.2.L.map pI)), I y6.2.At]] (.d (I y8.1)) [.box 58 [.p (.s (y8.2.L.map pI)), I y8.2.At]] [0], .call 18 [.d (.o 0 0), .d (I 20)] [.box 58 [.p (.s (y8.2.L.map pI)), I y8.2.At]] (.tup [.d (.p (.s (y10.1.map pI))), .d (.p (.s (y10.2.1.map pI)))]) [.box 58 [.p (.s (y10.2.2.L.map pI)), I y10.2.2.At]] [0], .call 19 [.agg [.p (.v (.string y6.1.Name)), I y6.1.Class, I y6.1.Circle.Place.X, I y6.1.Circle.Place.Y, I y6.1.Circle.Yellow, I y6.1.Circle.Red, I y6.1.Drift], .d (I y8.1), .d (.p (.s (y10.1.map pI))), .d (.p (.s (y10.2.1.map pI)))] [] (.tup [.d (.p (.s (y12.1.map pI))), .d (I y12.2)]) [] [], .when [((y12.2 != 0), false)] (.len ((y12.1.map pI).length : Int) (y12.1.length : Int)), .when [((y12.2 != 0), false)] (.len ((y10.1.map pI).length : Int) (y10.1.length : Int))] [] 0 [1] [(1, .d (.p (.v (.int .u8 x1)))), (4, .d (Bo false)), (6, .d (.o 0 0)), (7, .d (I y8.1)), (8, .d (.p (.s (y10.1.map pI)))), (9, .d (.p (.s (y10.2.1.map pI)))), (10, .d (.p (.s (y12.1.map pI)))), (48, .d (Bo (c7_0 y10 y12)))] [.box 31 [.p (.v (.string y6.1.Name)), I y6.1.Class, I y6.1.Circle.Place.X, I y6.1.Circle.Place.Y, I y6.1.Circle.Yellow, I y6.1.Circle.Red, I y6.1.Drift]] hC ⟨len_map _ _, ⟨e10, k10 x0 _ h5⟩, ⟨e11, k11 y4 _ h7⟩, ⟨e16, k16 y6.2 6 _ h9⟩, ⟨e18, k18 y8.2 20 _ h11⟩, ⟨e19, k19 y6.1 y8.1 y10.1 y10.2.1 _ h13⟩, fun hg => len_map _ _, fun hg => len_map _ _, trivial⟩ ⟨h1, trivial⟩ (by kernel_rfl) ?_
    rcases boolC ((c7_0 y10 y12)) with h14 | h14
    · replace h := condT h14 h
      replace h := Option.some.inj h
      subst h
      exact WI_ret (bs := [((c7_0 y10 y12), true)]) mixed [0, 1, 4, 5, 6, 7, 8, 9, 10, 11, 12, 13, 14, 15, 16, 19, 48, 70, 72] 23 [true] [] [] [.tmp 4] 0 [] rfl hC trivial ⟨h14, trivial⟩ (by kernel_rfl)
    · replace h := condF h14 h
      obtain ⟨u16, h15, h⟩ := bindE h
      obtain ⟨y18, h17, h⟩ := bindE h
      obtain ⟨y20, h19, h⟩ := bindE h
      obtain ⟨y21, h22, h⟩ := bindE h
      refine WI_stop (bs := [((c7_0 y10 y12), false)]) mixed [0, 1, 4, 5, 6, 7, 8, 9, 10, 11, 12, 13, 14, 15, 16, 19, 48, 70, 72] 29 [false] [.len ((y10.1.map pI).length : Int) (y10.1.length : Int), .nz (w64 ((y10.1.length : Int) + 1)), .cut (y10.1.map pI) 1 0 (Int.tmod (w64 x1) (w64 ((y10.1.length : Int) + 1))) (y18.map pI), .cut (y10.2.1.map pI) 1 0 (Int.tmod (w64 x1) (w64 ((y10.1.length : Int) + 1))) (y20.map pI), .call 19 [.agg [.p (.v (.string y6.1.Name)), I y6.1.Class, I y6.1.Circle.Place.X, I y6.1.Circle.Place.Y, I y6.1.Circle.Yellow, I y6.1.Circle.Red, I y6.1.Drift], .d (I y8.1), .d (.p (.s (y18.map pI))), .d (.p (.s (y20.map pI)))] [] (.tup [.d (.p (.s (y21.1.map pI))), .d (I y21.2)]) [] [], .len ((y21.1.map pI).length : Int) (y21.1.length : Int)] [] 0 [0] [(4, .d (Bo false)), (6, .d (.o 0 0)), (7, .d (I y8.1)), (8, .d (.p (.s (y10.1.map pI)))), (9, .d (.p (.s (y10.2.1.map pI)))), (10, .d (.p (.s (y12.1.map pI)))), (12, .d (I (Int.tmod (w64 x1) (w64 ((y10.1.length : Int) + 1))))), (13, .d (.p (.s (y21.1.map pI)))), (14, .d (I y21.2)), (70, .d (Bo (c7_1 x1 y10 y21)))] [.box 31 [.p (.v (.string y6.1.Name)), I y6.1.Class, I y6.1.Circle.Place.X, I y6.1.Circle.Place.Y, I y6.1.Circle.Yellow, I y6.1.Circle.Red, I y6.1.Drift]] hC ⟨len_map _ _, nz_get h15, cut_get pI 1 (fun _ => rfl) h17, cut_get pI 1 (fun _ => rfl) h19, ⟨e19, k19 y6.1 y8.1 y18 y20 _ h22⟩, len_map _ _, trivial⟩ ⟨h14, trivial⟩ (by kernel_rfl) ?_
      rcases boolC ((c7_1 x1 y10 y21)) with h23 | h23
      · replace h := condT h23 h
        replace h := Option.some.inj h
        subst h
        exact WI_ret (bs := [((c7_1 x1 y10 y21), true)]) mixed [0, 1, 4, 5, 6, 7, 8, 9, 10, 11, 12, 13, 14, 15, 16, 19, 48, 70, 72] 23 [true] [] [] [.tmp 4] 0 [] rfl hC trivial ⟨h23, trivial⟩ (by kernel_rfl)
      · replace h := condF h23 h
        rcases boolC ((c7_2 x1 y10)) with h24 | h24
        · replace h := condT h24 h
          obtain ⟨y25, h26, h⟩ := bindE h
          obtain ⟨y28, h27, h⟩ := bindE h
          obtain ⟨y30, h29, h⟩ := bindE h
          obtain ⟨y31, h32, h⟩ := bindE h
          obtain ⟨y33, h34, h⟩ := bindE h
          obtain ⟨y35, h36, h⟩ := bindE h
          obtain ⟨y37, h38, h⟩ := bindE h
          obtain ⟨y39, h40, h⟩ := bindE h
          replace h := Option.some.inj h
          subst h
          exact WI_ret (bs := [((c7_1 x1 y10 y21), false), ((c7_2 x1 y10), true)]) mixed [0, 1, 4, 5, 6, 7, 8, 9, 10, 11, 12, 13, 14, 15, 16, 19, 48, 70, 72] 31 [false, true] [.row (y21.1.map pI) (w64 ((Int.tmod (w64 x1) (w64 ((y10.1.length : Int) + 1))) - 1)) (pI y25), .cut (y10.1.map pI) 1 (Int.tmod (w64 x1) (w64 ((y10.1.length : Int) + 1))) ((y10.1.map pI).length : Int) (y28.map pI), .cut (y10.2.1.map pI) 1 (Int.tmod (w64 x1) (w64 ((y10.1.length : Int) + 1))) ((y10.2.1.map pI).length : Int) (y30.map pI), .call 19 [.agg [.p (.v (.string y6.1.Name)), I y6.1.Class, I y6.1.Circle.Place.X, I y6.1.Circle.Place.Y, I y6.1.Circle.Yellow, I y6.1.Circle.Red, I y6.1.Drift], .d (I y25), .d (.p (.s (y28.map pI))), .d (.p (.s (y30.map pI)))] [] (.tup [.d (.p (.s (y31.1.map pI))), .d (I y31.2)]) [] [], .when [(((y21.2 == 0) && (y31.2 == 0)), true)] (.app [] (y21.1.map pI) 1 ((y21.1.map pI).length * (8 + 1)) (y33.map pI)), .when [(((y21.2 == 0) && (y31.2 == 0)), true)] (.app (y33.map pI) (y31.1.map pI) 1 (((y33.map pI).length + (y31.1.map pI).length) * (8 + 1)) (y35.map pI)), .whenR [(((y21.2 == 0) && (y31.2 == 0)), true)] (.call 20 [.d (.p (.s (y12.1.map pI))), .d (.os 0)] [.sl 3 1 (y35.map pI)] (.d (Bo y37.1)) [.sl 3 1 (y37.2.map pI)] [3]), .when [((((y21.2 == 0) && (y31.2 == 0)) && y37.1), true)] (.call 9 [] [] (.d (Bo y39)) [] [])] [] [.tmp 4] 0 [] rfl hC ⟨row_get h26, cut_get_len pI 1 (fun _ => rfl) h27, cut_get_len pI 1 (fun _ => rfl) h29, ⟨e19, k19 y6.1 y25 y28 y30 _ h32⟩, fun hg => app_get0 pI 1 (fun _ => rfl) (guardO_get h34 hg), fun hg => app_get pI 1 (fun _ => rfl) (guardO_get h36 hg), ⟨fun hg => ⟨e20o1, k20o1 y12.1 y35 _ (guardO_get h38 hg)⟩, fun hg => by have e := guardO_not h38 hg; subst e; rfl⟩, fun hg => ⟨e9, k9  _ (guardO_get h40 hg)⟩, trivial⟩ ⟨h23, h24, trivial⟩ (by kernel_rfl)
        · replace h := condF h24 h
          obtain ⟨y42, h41, h⟩ := bindE h
          obtain ⟨y44, h43, h⟩ := bindE h
          obtain ⟨y45, h46, h⟩ := bindE h
          obtain ⟨y47, h48, h⟩ := bindE h
          obtain ⟨y49, h50, h⟩ := bindE h
          obtain ⟨y51, h52, h⟩ := bindE h
          obtain ⟨y53, h54, h⟩ := bindE h
          replace h := Option.some.inj h
          subst h
          exact WI_ret (bs := [((c7_1 x1 y10 y21), false), ((c7_2 x1 y10), false)]) mixed [0, 1, 4, 5, 6, 7, 8, 9, 10, 11, 12, 13, 14, 15, 16, 19, 48, 70, 72] 31 [false, false] [.cut (y10.1.map pI) 1 (Int.tmod (w64 x1) (w64 ((y10.1.length : Int) + 1))) ((y10.1.map pI).length : Int) (y42.map pI), .cut (y10.2.1.map pI) 1 (Int.tmod (w64 x1) (w64 ((y10.1.length : Int) + 1))) ((y10.2.1.map pI).length : Int) (y44.map pI), .call 19 [.agg [.p (.v (.string y6.1.Name)), I y6.1.Class, I y6.1.Circle.Place.X, I y6.1.Circle.Place.Y, I y6.1.Circle.Yellow, I y6.1.Circle.Red, I y6.1.Drift], .d (I y8.1), .d (.p (.s (y42.map pI))), .d (.p (.s (y44.map pI)))] [] (.tup [.d (.p (.s (y45.1.map pI))), .d (I y45.2)]) [] [], .when [(((y21.2 == 0) && (y45.2 == 0)), true)] (.app [] (y21.1.map pI) 1 ((y21.1.map pI).length * (8 + 1)) (y47.map pI)), .when [(((y21.2 == 0) && (y45.2 == 0)), true)] (.app (y47.map pI) (y45.1.map pI) 1 (((y47.map pI).length + (y45.1.map pI).length) * (8 + 1)) (y49.map pI)), .whenR [(((y21.2 == 0) && (y45.2 == 0)), true)] (.call 20 [.d (.p (.s (y12.1.map pI))), .d (.os 0)] [.sl 3 1 (y49.map pI)] (.d (Bo y51.1)) [.sl 3 1 (y51.2.map pI)] [3]), .when [((((y21.2 == 0) && (y45.2 == 0)) && y51.1), true)] (.call 9 [] [] (.d (Bo y53)) [] [])] [] [.tmp 4] 0 [] rfl hC ⟨cut_get_len pI 1 (fun _ => rfl) h41, cut_get_len pI 1 (fun _ => rfl) h43, ⟨e19, k19 y6.1 y8.1 y42 y44 _ h46⟩, fun hg => app_get0 pI 1 (fun _ => rfl) (guardO_get h48 hg), fun hg => app_get pI 1 (fun _ => rfl) (guardO_get h50 hg), ⟨fun hg => ⟨e20o1, k20o1 y12.1 y49 _ (guardO_get h52 hg)⟩, fun hg => by have e := guardO_not h52 hg; subst e; rfl⟩, fun hg => ⟨e9, k9  _ (guardO_get h54 hg)⟩, trivial⟩ ⟨h23, h24, trivial⟩ (by kernel_rfl)
theorem e7 : Enters Tryd.prog 7 := enters_of Tryd.func7 (by kernel_rfl) (by kernel_rfl)
theorem k21 (x0 : dynposmake_Src) (x1 : api_Operation) (r : api_Operation × dynposmake_Src) (h : F21 x0 x1 = some r) : CallOk Tryd.prog 21 [.d (.o 0 0), .agg [.p (.v (.string x1.Name)), I x1.Class, I x1.Circle.Place.X, I x1.Circle.Place.Y, I x1.Circle.Yellow, I x1.Circle.Red, I x1.Drift]] [.box 58 [.p (.s (x0.L.map pI)), I x0.At]] (.agg [.p (.v (.string r.1.Name)), I r.1.Class, I r.1.Circle.Place.X, I r.1.Circle.Place.Y, I r.1.Circle.Yellow, I r.1.Circle.Red, I r.1.Drift]) [.box 58 [.p (.s (r.2.L.map pI)), I r.2.At]] := by
  unfold F21 at h
  refine callOk_of 35 Tryd.func21 rfl rfl rfl fun C hC => ?_
  obtain ⟨y1, h2, h⟩ := bindE h
  rcases boolC ((y1.1 == 0)) with h3 | h3
  · replace h := condT h3 h
    obtain ⟨y4, h5, h⟩ := bindE h
    replace h := Option.some.inj h
    subst h
    exact WI_ret (bs := [((y1.1 == 0), true)]) mixed [0, 1, 3, 4, 6, 16, 22, 28] 34 [true] [.call 16 [.d (.o 0 0), .d (I 4)] [.box 58 [.p (.s (x0.L.map pI)), I x0.At]] (.d (I y1.1)) [.box 58 [.p (.s (y1.2.L.map pI)), I y1.2.At]] [0], .call 28 [.d (.o 0 0), .d (.p (.s ([⟨#[]⟩, ⟨#[65]⟩, ⟨#[97, 32, 98]⟩, ⟨#[116, 104, 105, 114, 116, 101, 101, 110, 45, 98, 121, 116, 101]⟩].map pS)))] [.box 58 [.p (.s (y1.2.L.map pI)), I y1.2.At]] (.d (.p (.v (.string y4.1)))) [.box 58 [.p (.s (y4.2.L.map pI)), I y4.2.At]] [0]] [] [.cell 4 31] 1 [0] rfl hC ⟨⟨e16, k16 x0 4 _ h2⟩, ⟨e28, k28 y1.2 [⟨#[]⟩, ⟨#[65]⟩, ⟨#[97, 32, 98]⟩, ⟨#[116, 104, 105, 114, 116, 101, 101, 110, 45, 98, 121, 116, 101]⟩] _ h5⟩, trivial⟩ ⟨h3, trivial⟩ (by kernel_rfl)
  · replace h := condF h3 h
    rcases boolC ((y1.1 == 1)) with h6 | h6
    · replace h := condT h6 h
      obtain ⟨y7, h8, h⟩ := bindE h
      replace h := Option.some.inj h
      subst h
      exact WI_ret (bs := [((y1.1 == 0), false), ((y1.1 == 1), true)]) mixed [0, 1, 3, 4, 6, 16, 22, 28] 37 [false, true] [.call 16 [.d (.o 0 0), .d (I 4)] [.box 58 [.p (.s (x0.L.map pI)), I x0.At]] (.d (I y1.1)) [.box 58 [.p (.s (y1.2.L.map pI)), I y1.2.At]] [0], .call 12 [.d (.o 0 0), .d (.p (.s ([0, 4, (-1)].map pI)))] [.box 58 [.p (.s (y1.2.L.map pI)), I y1.2.At]] (.d (I y7.1)) [.box 58 [.p (.s (y7.2.L.map pI)), I y7.2.At]] [0]] [] [.cell 4 31] 1 [0] rfl hC ⟨⟨e16, k16 x0 4 _ h2⟩, ⟨e12, k12 y1.2 [0, 4, (-1)] _ h8⟩, trivial⟩ ⟨h3, h6, trivial⟩ (by kernel_rfl)
    · replace h := condF h6 h
      rcases boolC ((y1.1 == 2)) with h9 | h9
      · replace h := condT h9 h
        obtain ⟨y10, h11, h⟩ := bindE h
        replace h := Option.some.inj h
        subst h
        exact WI_ret (bs := [((y1.1 == 0), false), ((y1.1 == 1), false), ((y1.1 == 2), true)]) mixed [0, 1, 3, 4, 6, 16, 22, 28] 40 [false, false, true] [.call 16 [.d (.o 0 0), .d (I 4)] [.box 58 [.p (.s (x0.L.map pI)), I x0.At]] (.d (I y1.1)) [.box 58 [.p (.s (y1.2.L.map pI)), I y1.2.At]] [0], .call 12 [.d (.o 0 0), .d (.p (.s ([(-1), 1001].map pI)))] [.box 58 [.p (.s (y1.2.L.map pI)), I y1.2.At]] (.d (I y10.1)) [.box 58 [.p (.s (y10.2.L.map pI)), I y10.2.At]] [0]] [] [.cell 4 31] 1 [0] rfl hC ⟨⟨e16, k16 x0 4 _ h2⟩, ⟨e12, k12 y1.2 [(-1), 1001] _ h11⟩, trivial⟩ ⟨h3, h6, h9, trivial⟩ (by kernel_rfl)
      · replace h := condF h9 h
        obtain ⟨y12, h13, h⟩ := bindE h
        replace h := Option.some.inj h
        subst h
        exact WI_ret (bs := [((y1.1 == 0), false), ((y1.1 == 1), false), ((y1.1 == 2), false)]) mixed [0, 1, 3, 4, 6, 16, 22, 28] 40 [false, false, false] [.call 16 [.d (.o 0 0), .d (I 4)] [.box 58 [.p (.s (x0.L.map pI)), I x0.At]] (.d (I y1.1)) [.box 58 [.p (.s (y1.2.L.map pI)), I y1.2.At]] [0], .call 12 [.d (.o 0 0), .d (.p (.s ([(-1), w64 (x1.Circle.Red + 1), 1000001].map pI)))] [.box 58 [.p (.s (y1.2.L.map pI)), I y1.2.At]] (.d (I y12.1)) [.box 58 [.p (.s (y12.2.L.map pI)), I y12.2.At]] [0]] [] [.cell 4 31] 1 [0] rfl hC ⟨⟨e16, k16 x0 4 _ h2⟩, ⟨e12, k12 y1.2 [(-1), w64 (x1.Circle.Red + 1), 1000001] _ h13⟩, trivial⟩ ⟨h3, h6, h9, trivial⟩ (by kernel_rfl)
theorem e21 : Enters Tryd.prog 21 := enters_of Tryd.func21 (by kernel_rfl) (by kernel_rfl)
def st38_0 (x0 : ByteArray) (s38_0 : Int) : St := [(0, .d (.p (.v (.string x0)))), (2, .d (Bo false)), (3, .d (I s38_0))]
def R38_0  (s38_0 : Int) : List Res := []
def sa38_0  (s38_0 : Int) : St := [(2, .d (Bo false))]
def Ra38_0  (s38_0 : Int) : List Res := []
theorem k38 (x0 : ByteArray) (r : Bool) (h : F38 x0 = some r) : CallOk Tryd.prog 38 [.d (.p (.v (.string x0)))] [] (.d (Bo r)) [] := by
  unfold F38 at h
  refine callOk_of 57 Tryd.func38 rfl rfl rfl fun C hC => ?_
  obtain ⟨y1, h2, h⟩ := bindE h
  obtain ⟨y3, h4, h⟩ := bindE h
  refine WI_stop (bs := []) mixed [0, 2, 3, 21, 25, 56] 26 [] [.when [((((x0.size : Int) == 0) || (decide ((x0.size : Int) > 12))), false)] (.byte x0 0 y1), .when [(((((x0.size : Int) == 0) || (decide ((x0.size : Int) > 12))) || (decide ((y1.toNat : Int) < 97))), false)] (.byte x0 0 y3)] [] 0 [] [(0, .d (.p (.v (.string x0)))), (2, .d (Bo false)), (21, .d (Bo (c38_0 x0 y1 y3)))] [] hC ⟨fun hg => byte_get (guardO_get h2 hg), fun hg => byte_get (guardO_get h4 hg), trivial⟩ trivial (by kernel_rfl) ?_
  rcases boolC ((c38_0 x0 y1 y3)) with h5 | h5
  · replace h := condT h5 h
    replace h := Option.some.inj h
    subst h
    exact WI_ret (bs := [((c38_0 x0 y1 y3), true)]) mixed [0, 2, 3, 21, 25, 56] 23 [true] [] [] [.tmp 2] 0 [] rfl hC trivial ⟨h5, trivial⟩ (by kernel_rfl)
  · replace h := condF h5 h
    refine WI_stop (bs := [((c38_0 x0 y1 y3), false)]) mixed [0, 2, 3, 21, 25, 56] 25 [false] [] [] 0 [] (st38_0 x0 0) (R38_0 0) hC trivial ⟨h5, trivial⟩ (by kernel_rfl) ?_
    obtain ⟨k38_0, hm38_0, hret38_0, hnext38_0⟩ := andThen_inv h
    clear h
    refine WI_cut (by kernel_rfl) (fun s => k38_0 = .next s) (sa38_0) (Ra38_0) ?_ fun s38_0 hs38_0 => ?_
    · refine WI_blk (by kernel_rfl) ?_
      refine WI_while (by kernel_rfl) (F38_l0 x0) (st38_0 x0) (R38_0) k38_0 1152921504606846976 0 hm38_0 rfl rfl fun s38_0 k38_0b h hb38_0 hr38_0 => ?_
      unfold F38_l0 at h
      rcases boolC (decide (s38_0 < (x0.size : Int))) with h6 | h6
      · replace h := condT h6 h
        obtain ⟨y7, h8, h⟩ := bindE h
        obtain ⟨y9, h10, h⟩ := bindE h
        obtain ⟨y11, h12, h⟩ := bindE h
        obtain ⟨y13, h14, h⟩ := bindE h
        obtain ⟨y15, h16, h⟩ := bindE h
        refine WI_stop (bs := [(decide (s38_0 < (x0.size : Int)), true)]) mixed [0, 2, 3, 21, 25, 56] 30 [true] [.byte x0 s38_0 y7, .when [(decide ((y7.toNat : Int) ≥ 97), true)] (.byte x0 s38_0 y9), .when [(((decide ((y7.toNat : Int) ≥ 97)) && (decide ((y9.toNat : Int) ≤ 122))), false)] (.byte x0 s38_0 y11), .when [(((decide ((y7.toNat : Int) ≥ 97)) && (decide ((y9.toNat : Int) ≤ 122))), false), (decide ((y11.toNat : Int) ≥ 48), true)] (.byte x0 s38_0 y13), .when [((((decide ((y7.toNat : Int) ≥ 97)) && (decide ((y9.toNat : Int) ≤ 122))) || ((decide ((y11.toNat : Int) ≥ 48)) && (decide ((y13.toNat : Int) ≤ 57)))), false)] (.byte x0 s38_0 y15)] [] 0 [] [(0, .d (.p (.v (.string x0)))), (2, .d (Bo false)), (3, .d (I s38_0)), (56, .d (Bo (c38_3 y7 y9 y11 y13 y15)))] [] hC ⟨byte_get h8, fun hg => byte_get (guardO_get h10 hg), fun hg => byte_get (guardO_get h12 hg), fun hg => byte_get (guardO_get h14 hg), fun hg => byte_get (guardO_get h16 hg), trivial⟩ ⟨h6, trivial⟩ (by kernel_rfl) ?_
        rcases boolC ((c38_3 y7 y9 y11 y13 y15)) with h17 | h17
        · replace h := condT h17 h
          have hq := hret38_0 _ (hr38_0 _ (Option.some.inj h).symm)
          replace hq := Option.some.inj hq
          subst hq
          exact WI_ret (bs := [((c38_3 y7 y9 y11 y13 y15), true)]) mixed [0, 2, 3, 21, 25, 56] 23 [true] [] [] [.tmp 2] 0 [] rfl hC trivial ⟨h17, trivial⟩ (by kernel_rfl)
        · replace h := condF h17 h
          exact WI_end (bs := [((c38_3 y7 y9 y11 y13 y15), false)]) (φ := fun s' => k38_0b = .next s') (st' := (st38_0 x0)) (R' := (R38_0)) mixed [0, 2, 3, 21, 25, 56] 24 [false] [] [] 0 [] (w64 (s38_0 + 1)) hC trivial ⟨h17, trivial⟩ (by kernel_rfl) (by kernel_rfl) (Option.some.inj h).symm
      · replace h := condF h6 h
        exact WI_end (bs := [(decide (s38_0 < (x0.size : Int)), false)]) (φ := fun s' => k38_0 = .next s') (st' := (sa38_0)) (R' := (Ra38_0)) mixed [0, 2, 3, 21, 25, 56] 26 [false] [] [] 0 [] s38_0 hC trivial ⟨h6, trivial⟩ (by kernel_rfl) (by kernel_rfl) (hb38_0 _ (Option.some.inj h).symm)
    · have h := hnext38_0 _ hs38_0
      replace h := Option.some.inj h
      subst h
      exact WI_ret (bs := []) mixed [0, 2, 3, 21, 25, 56] 23 [] [] [] [.tmp 2] 0 [] rfl hC trivial trivial (by kernel_rfl)
theorem e38 : Enters Tryd.prog 38 := enters_of Tryd.func38 (by kernel_rfl) (by kernel_rfl)
theorem k39 (x0 : Int) (x1 : Int) (x2 : Int) (r : Bool) (h : F39 x0 x1 x2 = r) : CallOk Tryd.prog 39 [.d (I x0), .d (I x1), .d (I x2)] [] (.d (Bo r)) [] := by
  unfold F39 at h
  refine callOk_of 15 Tryd.func39 rfl rfl rfl fun C hC => ?_
  subst h
  exact WI_ret (bs := []) mixed [0, 1, 2, 6] 25 [] [] [] [.tmp 6] 0 [] rfl hC trivial trivial (by kernel_rfl)
theorem e39 : Enters Tryd.prog 39 := enters_of Tryd.func39 (by kernel_rfl) (by kernel_rfl)
theorem k44 (x0 : api_Point) (r : Bool) (h : F44 x0 = r) : CallOk Tryd.prog 44 [.agg [I x0.X, I x0.Y]] [] (.d (Bo r)) [] := by
  unfold F44 at h
  refine callOk_of 21 Tryd.func44 rfl rfl rfl fun C hC => ?_
  subst h
  exact WI_ret (bs := []) mixed [0, 1, 2] 25 [] [] [] [.tmp 2] 0 [] rfl hC trivial trivial (by kernel_rfl)
theorem e44 : Enters Tryd.prog 44 := enters_of Tryd.func44 (by kernel_rfl) (by kernel_rfl)
theorem k40 (x0 : api_Circle) (r : Int) (h : F40 x0 = r) : CallOk Tryd.prog 40 [.agg [I x0.Place.X, I x0.Place.Y, I x0.Yellow, I x0.Red]] [] (.d (I r)) [] := by
  unfold F40 at h
  refine callOk_of 24 Tryd.func40 rfl rfl rfl fun C hC => ?_
  rcases boolC ((c40_0 x0)) with h1 | h1
  · replace h := condT h1 h
    subst h
    exact WI_ret (bs := [((c40_0 x0), true)]) mixed [0, 1, 2, 23] 29 [true] [.call 44 [.agg [I x0.Place.X, I x0.Place.Y]] [] (.d (Bo (F44 x0.Place))) [] []] [] [.tmp 2] 0 [] rfl hC ⟨⟨e44, k44 x0.Place _ rfl⟩, trivial⟩ ⟨h1, trivial⟩ (by kernel_rfl)
  · replace h := condF h1 h
    subst h
    exact WI_ret (bs := [((c40_0 x0), false)]) mixed [0, 1, 2, 23] 30 [false] [.call 44 [.agg [I x0.Place.X, I x0.Place.Y]] [] (.d (Bo (F44 x0.Place))) [] []] [] [.tmp 2] 0 [] rfl hC ⟨⟨e44, k44 x0.Place _ rfl⟩, trivial⟩ ⟨h1, trivial⟩ (by kernel_rfl)
theorem e40 : Enters Tryd.prog 40 := enters_of Tryd.func40 (by kernel_rfl) (by kernel_rfl)
theorem k23 (x0 : api_Operation) (r : Int) (h : F23 x0 = some r) : CallOk Tryd.prog 23 [.agg [.p (.v (.string x0.Name)), I x0.Class, I x0.Circle.Place.X, I x0.Circle.Place.Y, I x0.Circle.Yellow, I x0.Circle.Red, I x0.Drift]] [] (.d (I r)) [] := by
  unfold F23 at h
  refine callOk_of 22 Tryd.func23 rfl rfl rfl fun C hC => ?_
  obtain ⟨y1, h2, h⟩ := bindE h
  refine WI_stop (bs := []) mixed [0, 1, 2, 18] 26 [] [.call 38 [.d (.p (.v (.string x0.Name)))] [] (.d (Bo y1)) [] [], .when [(!y1, false)] (.call 39 [.d (I x0.Class), .d (I 1), .d (I 3)] [] (.d (Bo (F39 x0.Class 1 3))) [] []), .when [(((!y1) || (!(F39 x0.Class 1 3))), false)] (.call 39 [.d (I x0.Drift), .d (I 0), .d (I 1000)] [] (.d (Bo (F39 x0.Drift 0 1000))) [] [])] [] 0 [0] [(1, .d (.o 0 0)), (2, .d (I 0)), (18, .d (Bo (c23_0 x0 y1)))] [.box 31 [.p (.v (.string x0.Name)), I x0.Class, I x0.Circle.Place.X, I x0.Circle.Place.Y, I x0.Circle.Yellow, I x0.Circle.Red, I x0.Drift]] hC ⟨⟨e38, k38 x0.Name _ h2⟩, fun hg => ⟨e39, k39 x0.Class 1 3 _ rfl⟩, fun hg => ⟨e39, k39 x0.Drift 0 1000 _ rfl⟩, trivial⟩ trivial (by kernel_rfl) ?_
  rcases boolC ((c23_0 x0 y1)) with h3 | h3
  · replace h := condT h3 h
    replace h := Option.some.inj h
    subst h
    exact WI_ret (bs := [((c23_0 x0 y1), true)]) mixed [0, 1, 2, 18] 23 [true] [] [] [.tmp 2] 0 [] rfl hC trivial ⟨h3, trivial⟩ (by kernel_rfl)
  · replace h := condF h3 h
    replace h := Option.some.inj h
    subst h
    exact WI_ret (bs := [((c23_0 x0 y1), false)]) mixed [0, 1, 2, 18] 24 [false] [.call 40 [.agg [I x0.Circle.Place.X, I x0.Circle.Place.Y, I x0.Circle.Yellow, I x0.Circle.Red]] [] (.d (I (F40 x0.Circle))) [] []] [] [.tmp 2] 0 [] rfl hC ⟨⟨e40, k40 x0.Circle _ rfl⟩, trivial⟩ ⟨h3, trivial⟩ (by kernel_rfl)
theorem e23 : Enters Tryd.prog 23 := enters_of Tryd.func23 (by kernel_rfl) (by kernel_rfl)
theorem k41 (x0 : Int) (x1 : Int) (r : Bool) (h : F41 x0 x1 = r) : CallOk Tryd.prog 41 [.d (I x0), .d (I x1)] [] (.d (Bo r)) [] := by
  unfold F41 at h
  refine callOk_of 11 Tryd.func41 rfl rfl rfl fun C hC => ?_
  subst h
  exact WI_ret (bs := []) mixed [0, 1, 4] 25 [] [.call 39 [.d (I x0), .d (I 1), .d (I 3)] [] (.d (Bo (F39 x0 1 3))) [] [], .when [(F39 x0 1 3, true)] (.call 39 [.d (I x1), .d (I 1), .d (I 3)] [] (.d (Bo (F39 x1 1 3))) [] [])] [] [.tmp 4] 0 [] rfl hC ⟨⟨e39, k39 x0 1 3 _ rfl⟩, fun hg => ⟨e39, k39 x1 1 3 _ rfl⟩, trivial⟩ trivial (by kernel_rfl)
theorem e41 : Enters Tryd.prog 41 := enters_of Tryd.func41 (by kernel_rfl) (by kernel_rfl)
theorem k26 (x0 : api_Operation) (x1 : Int) (x2 : Int) (r : Bool) (h : F26 x0 x1 x2 = some r) : CallOk Tryd.prog 26 [.agg [.p (.v (.string x0.Name)), I x0.Class, I x0.Circle.Place.X, I x0.Circle.Place.Y, I x0.Circle.Yellow, I x0.Circle.Red, I x0.Drift], .d (I x1), .d (I x2)] [] (.d (Bo r)) [] := by
  unfold F26 at h
  refine callOk_of 25 Tryd.func26 rfl rfl rfl fun C hC => ?_
  obtain ⟨y1, h2, h⟩ := bindE h
  replace h := Option.some.inj h
  subst h
  exact WI_ret (bs := []) mixed [0, 1, 2, 3, 6] 25 [] [.call 23 [.agg [.p (.v (.string x0.Name)), I x0.Class, I x0.Circle.Place.X, I x0.Circle.Place.Y, I x0.Circle.Yellow, I x0.Circle.Red, I x0.Drift]] [] (.d (I y1)) [] [], .when [((y1 == 0), true)] (.call 41 [.d (I x1), .d (I x2)] [] (.d (Bo (F41 x1 x2))) [] [])] [] [.tmp 6] 0 [] rfl hC ⟨⟨e23, k23 x0 _ h2⟩, fun hg => ⟨e41, k41 x1 x2 _ rfl⟩, trivial⟩ trivial (by kernel_rfl)
theorem e26 : Enters Tryd.prog 26 := enters_of Tryd.func26 (by kernel_rfl) (by kernel_rfl)
end Go.Proofs.YtakbldjmgfcipaaDoor
