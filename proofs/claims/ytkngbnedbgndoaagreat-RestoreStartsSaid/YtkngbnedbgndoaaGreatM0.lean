import Derived.Test.YtkngbnedbgndoaaGreatRows
import Derived.Test.YtkngbnedbgndoaaGreatMo
import Derived.Test.YtkngbnedbgndoaaGreatBw
set_option linter.unusedVariables false
namespace Go.Proofs.YtkngbnedbgndoaaGreat
open Go.SL
theorem mixed : Tryz.prog.follows .mixedOrders = true := by kernel_rfl
theorem k28  (r : api_Board × api_Power) (h : F28  = r) : CallOk Tryz.prog 28 [] [] (.tup [.agg [I r.1.Buses, DS api_Breaker.ps r.1.Breakers, DS api_Source.ps r.1.Sources, DS api_Consumer.ps r.1.Consumers, I r.1.Phase, I r.1.Frequency], .agg [DS pB r.2.Closed, DS api_Running.ps r.2.Sources, DS pI r.2.Limits, DS api_Part.ps r.2.Broken]]) [] := by
  unfold F28 at h
  refine callOk_of 14 Tryz.func28 rfl rfl rfl fun C hC => ?_
  subst h
  exact WI_ret (bs := []) mixed [0, 1, 2] 27 [] [] [.ownb 0 3 108 5, .frz 3, .ownb 1 2 3 1, .frz 4, .ownb 1 3 119 2, .frz 5] [.cell 0 29, .cell 1 35] 0 [] rfl hC trivial trivial (by kernel_rfl)
theorem e28 : Enters Tryz.prog 28 := Go.SL.enters_of Tryz.func28 (by kernel_rfl) (by kernel_rfl)
theorem k132 (x0 : Int) (x1 : Int) (x2 : Int) (r : Bool) (h : F132 x0 x1 x2 = r) : CallOk Tryz.prog 132 [.d (I x0), .d (I x1), .d (I x2)] [] (.d (Bo r)) [] := by
  unfold F132 at h
  refine callOk_of 15 Tryz.func132 rfl rfl rfl fun C hC => ?_
  subst h
  exact WI_ret (bs := []) mixed [0, 1, 2, 6] 25 [] [] [] [.tmp 6] 0 [] rfl hC trivial trivial (by kernel_rfl)
theorem e132 : Enters Tryz.prog 132 := Go.SL.enters_of Tryz.func132 (by kernel_rfl) (by kernel_rfl)
def lv177 : List Nat := [0, 1, 4, 5, 7, 8, 9, 16]
def st177_0 (x0 : List Int) (x1 : Int) (i177_0 : Nat) (s177_0 : Unit) : St := [(0, .d (DS pI x0)), (1, .d (I x1)), (4, .d (I 0)), (7, .d (I (x0.length : Int))), (8, .d (I (cnt 0 i177_0)))]
def R177_0  (i177_0 : Nat) (s177_0 : Unit) : List Res := []
def sa177_0  (s177_0 : Unit) : St := [(4, .d (I 0))]
def Ra177_0  (s177_0 : Unit) : List Res := []
theorem k177 (x0 : List Int) (x1 : Int) (r : Int) (h : F177 x0 x1 = some r) : CallOk Tryz.prog 177 [.d (DS pI x0), .d (I x1)] [] (.d (I r)) [] := by
  unfold F177 at h
  refine callOk_of 19 Tryz.func177 rfl rfl rfl fun C hC => ?_
  refine WI_stop (bs := []) mixed lv177 26 [] [.len ((x0.map pI).length : Int) (x0.length : Int)] [] 0 [] (st177_0 x0 x1 0 ()) (R177_0 0 ()) hC ⟨len_map _ _, trivial⟩ trivial (by kernel_rfl) ?_
  obtain ⟨k177_0, hm177_0, hret177_0, hnext177_0⟩ := andThen_inv h
  clear h
  refine WI_cut (by kernel_rfl) (fun s => k177_0 = .next s) (sa177_0) (Ra177_0) ?_ fun s177_0 hs177_0 => ?_
  · refine WI_blk (by kernel_rfl) ?_
    refine WI_len 0 rfl fun hl177_0 => ?_
    refine WI_foldI (by kernel_rfl) (F177_l0 x1) (st177_0 x0 x1) (R177_0) k177_0 x0 () hm177_0 rfl rfl (fun s177_0 hn177_0 => ?_) fun i177_0 x177_0 s177_0 k177_0b hi177_0 hx177_0 h hb177_0 hr177_0 => ?_
    · clear hm177_0
      exact WI_end (bs := [(decide ((cnt 0 x0.length) < (x0.length : Int)), false)]) (φ := fun s' => k177_0 = .next s') (st' := (sa177_0)) (R' := (Ra177_0)) mixed lv177 26 [false] [] [] 0 [] () hC trivial ⟨(cnt_end hl177_0), trivial⟩ (by kernel_rfl) (by kernel_rfl) hn177_0
    · unfold F177_l0 at h
      rcases boolC ((x1 == x177_0)) with h1 | h1
      · replace h := condT h1 h
        have hq := hret177_0 _ (hr177_0 _ (Option.some.inj h).symm)
        replace hq := Option.some.inj hq
        subst hq
        exact WI_ret (bs := [(decide ((cnt 0 i177_0) < (x0.length : Int)), true), ((x1 == x177_0), true)]) mixed lv177 35 [true, true] [.row (x0.map pI) (cnt 0 i177_0) (pI x177_0)] [] [.tmp 4] 0 [] rfl hC ⟨(row_cnt hx177_0 hl177_0), trivial⟩ ⟨(cnt_lt hi177_0 hl177_0), h1, trivial⟩ (by kernel_rfl)
      · replace h := condF h1 h
        exact WI_end (bs := [(decide ((cnt 0 i177_0) < (x0.length : Int)), true), ((x1 == x177_0), false)]) (φ := fun s' => k177_0b = .next s') (st' := (st177_0 x0 x1 (i177_0 + 1))) (R' := (R177_0 (i177_0 + 1))) mixed lv177 36 [true, false] [.row (x0.map pI) (cnt 0 i177_0) (pI x177_0)] [] 0 [] () hC ⟨(row_cnt hx177_0 hl177_0), trivial⟩ ⟨(cnt_lt hi177_0 hl177_0), h1, trivial⟩ (by kernel_rfl) (by kernel_rfl) (Option.some.inj h).symm
  · have h := hnext177_0 _ hs177_0
    replace h := Option.some.inj h
    subst h
    exact WI_ret (bs := []) mixed lv177 23 [] [] [] [.tmp 4] 0 [] rfl hC trivial trivial (by kernel_rfl)
theorem e177 : Enters Tryz.prog 177 := Go.SL.enters_of Tryz.func177 (by kernel_rfl) (by kernel_rfl)
theorem k233 (x0 : List Int) (r : Bool) (h : F233 x0 = r) : CallOk Tryz.prog 233 [.d (DS pI x0)] [] (.d (Bo r)) [] := by
  unfold F233 at h
  refine callOk_of 6 Tryz.func233 rfl rfl rfl fun C hC => ?_
  subst h
  exact WI_ret (bs := []) mixed [0, 2] 25 [] [.len ((x0.map pI).length : Int) (x0.length : Int)] [] [.tmp 2] 0 [] rfl hC ⟨len_map _ _, trivial⟩ trivial (by kernel_rfl)
theorem e233 : Enters Tryz.prog 233 := Go.SL.enters_of Tryz.func233 (by kernel_rfl) (by kernel_rfl)
def lv208 : List Nat := [0, 1, 2, 4, 5, 6, 11, 16, 20]
theorem k208 (x0 : api_Board) (x1 : Int) (r : Int) (h : F208 x0 x1 = r) : CallOk Tryz.prog 208 [.agg [I x0.Buses, DS api_Breaker.ps x0.Breakers, DS api_Source.ps x0.Sources, DS api_Consumer.ps x0.Consumers, I x0.Phase, I x0.Frequency], .d (I x1)] [] (.d (I r)) [] := by
  unfold F208 at h
  refine callOk_of 25 Tryz.func208 rfl rfl rfl fun C hC => ?_
  rcases boolC ((x1 == 1)) with h1 | h1
  · replace h := condT h1 h
    subst h
    exact WI_ret (bs := [((x1 == 1), true)]) mixed lv208 32 [true] [.len ((x0.Sources.map api_Source.ps).length : Int) (x0.Sources.length : Int)] [] [.tmp 4] 0 [] rfl hC ⟨len_map _ _, trivial⟩ ⟨h1, trivial⟩ (by kernel_rfl)
  · replace h := condF h1 h
    rcases boolC ((x1 == 2)) with h2 | h2
    · replace h := condT h2 h
      subst h
      exact WI_ret (bs := [((x1 == 1), false), ((x1 == 2), true)]) mixed lv208 35 [false, true] [.len ((x0.Breakers.map api_Breaker.ps).length : Int) (x0.Breakers.length : Int)] [] [.tmp 4] 0 [] rfl hC ⟨len_map _ _, trivial⟩ ⟨h1, h2, trivial⟩ (by kernel_rfl)
    · replace h := condF h2 h
      rcases boolC ((x1 == 3)) with h3 | h3
      · replace h := condT h3 h
        subst h
        exact WI_ret (bs := [((x1 == 1), false), ((x1 == 2), false), ((x1 == 3), true)]) mixed lv208 38 [false, false, true] [] [] [.tmp 4] 0 [] rfl hC trivial ⟨h1, h2, h3, trivial⟩ (by kernel_rfl)
      · replace h := condF h3 h
        rcases boolC ((x1 == 4)) with h4 | h4
        · replace h := condT h4 h
          subst h
          exact WI_ret (bs := [((x1 == 1), false), ((x1 == 2), false), ((x1 == 3), false), ((x1 == 4), true)]) mixed lv208 41 [false, false, false, true] [.len ((x0.Consumers.map api_Consumer.ps).length : Int) (x0.Consumers.length : Int)] [] [.tmp 4] 0 [] rfl hC ⟨len_map _ _, trivial⟩ ⟨h1, h2, h3, h4, trivial⟩ (by kernel_rfl)
        · replace h := condF h4 h
          subst h
          exact WI_ret (bs := [((x1 == 1), false), ((x1 == 2), false), ((x1 == 3), false), ((x1 == 4), false)]) mixed lv208 43 [false, false, false, false] [] [] [.tmp 4] 0 [] rfl hC trivial ⟨h1, h2, h3, h4, trivial⟩ (by kernel_rfl)
theorem e208 : Enters Tryz.prog 208 := Go.SL.enters_of Tryz.func208 (by kernel_rfl) (by kernel_rfl)
theorem k248 (x0 : Int) (r : Bool) (h : F248 x0 = r) : CallOk Tryz.prog 248 [.d (I x0)] [] (.d (Bo r)) [] := by
  unfold F248 at h
  refine callOk_of 6 Tryz.func248 rfl rfl rfl fun C hC => ?_
  subst h
  exact WI_ret (bs := []) mixed [0, 2] 25 [] [] [] [.tmp 2] 0 [] rfl hC trivial trivial (by kernel_rfl)
theorem e248 : Enters Tryz.prog 248 := Go.SL.enters_of Tryz.func248 (by kernel_rfl) (by kernel_rfl)
def lv209 : List Nat := [0, 2, 3, 5, 6, 7, 8, 9, 14]
def st209_0 (x0 : List Int) (i209_0 : Nat) (s209_0 : Unit) : St := [(2, .d (I 0)), (3, .d (I 0)), (6, .d (DS pI x0)), (7, .d (I (x0.length : Int))), (8, .d (I (cnt 0 i209_0)))]
def R209_0  (i209_0 : Nat) (s209_0 : Unit) : List Res := []
def sa209_0  (s209_0 : Unit) : St := [(2, .d (I 0)), (3, .d (I 0))]
def Ra209_0  (s209_0 : Unit) : List Res := []
theorem k209 (x0 : List Int) (r : Int) (h : F209 x0 = some r) : CallOk Tryz.prog 209 [.d (DS pI x0)] [] (.d (I r)) [] := by
  unfold F209 at h
  refine callOk_of 18 Tryz.func209 rfl rfl rfl fun C hC => ?_
  refine WI_stop (bs := []) mixed lv209 28 [] [.len ((x0.map pI).length : Int) (x0.length : Int)] [] 0 [] (st209_0 x0 0 ()) (R209_0 0 ()) hC ⟨len_map _ _, trivial⟩ trivial (by kernel_rfl) ?_
  obtain ⟨k209_0, hm209_0, hret209_0, hnext209_0⟩ := andThen_inv h
  clear h
  refine WI_cut (by kernel_rfl) (fun s => k209_0 = .next s) (sa209_0) (Ra209_0) ?_ fun s209_0 hs209_0 => ?_
  · refine WI_blk (by kernel_rfl) ?_
    refine WI_len 6 rfl fun hl209_0 => ?_
    refine WI_foldI (by kernel_rfl) F209_l0 (st209_0 x0) (R209_0) k209_0 x0 () hm209_0 rfl rfl (fun s209_0 hn209_0 => ?_) fun i209_0 x209_0 s209_0 k209_0b hi209_0 hx209_0 h hb209_0 hr209_0 => ?_
    · clear hm209_0
      exact WI_end (bs := [(decide ((cnt 0 x0.length) < (x0.length : Int)), false)]) (φ := fun s' => k209_0 = .next s') (st' := (sa209_0)) (R' := (Ra209_0)) mixed lv209 26 [false] [] [] 0 [] () hC trivial ⟨(cnt_end hl209_0), trivial⟩ (by kernel_rfl) (by kernel_rfl) hn209_0
    · unfold F209_l0 at h
      rcases boolC ((x209_0 != 0)) with h1 | h1
      · replace h := condT h1 h
        have hq := hret209_0 _ (hr209_0 _ (Option.some.inj h).symm)
        replace hq := Option.some.inj hq
        subst hq
        exact WI_ret (bs := [(decide ((cnt 0 i209_0) < (x0.length : Int)), true), ((x209_0 != 0), true)]) mixed lv209 35 [true, true] [.row (x0.map pI) (cnt 0 i209_0) (pI x209_0)] [] [.tmp 2] 0 [] rfl hC ⟨(row_cnt hx209_0 hl209_0), trivial⟩ ⟨(cnt_lt hi209_0 hl209_0), h1, trivial⟩ (by kernel_rfl)
      · replace h := condF h1 h
        exact WI_end (bs := [(decide ((cnt 0 i209_0) < (x0.length : Int)), true), ((x209_0 != 0), false)]) (φ := fun s' => k209_0b = .next s') (st' := (st209_0 x0 (i209_0 + 1))) (R' := (R209_0 (i209_0 + 1))) mixed lv209 36 [true, false] [.row (x0.map pI) (cnt 0 i209_0) (pI x209_0)] [] 0 [] () hC ⟨(row_cnt hx209_0 hl209_0), trivial⟩ ⟨(cnt_lt hi209_0 hl209_0), h1, trivial⟩ (by kernel_rfl) (by kernel_rfl) (Option.some.inj h).symm
  · have h := hnext209_0 _ hs209_0
    replace h := Option.some.inj h
    subst h
    exact WI_ret (bs := []) mixed lv209 23 [] [] [] [.tmp 2] 0 [] rfl hC trivial trivial (by kernel_rfl)
theorem e209 : Enters Tryz.prog 209 := Go.SL.enters_of Tryz.func209 (by kernel_rfl) (by kernel_rfl)
def lv133 : List Nat := [0, 1, 2, 3, 4, 6, 7, 8, 9, 11, 12, 13, 14, 33]
def st133_0 (x0 : api_Board) (x2 : Int) (i133_0 : Nat) (s133_0 : Int) : St := [(2, .d (I x2)), (4, .d (.o 0 0)), (6, .d (I 0)), (7, .d (I s133_0)), (11, .d (DS api_Breaker.ps x0.Breakers)), (12, .d (I (x0.Breakers.length : Int))), (13, .d (I (cnt 0 i133_0)))]
def R133_0 (x1 : api_Power) (i133_0 : Nat) (s133_0 : Int) : List Res := [.box 35 [DS pB x1.Closed, DS api_Running.ps x1.Sources, DS pI x1.Limits, DS api_Part.ps x1.Broken]]
def sa133_0  (s133_0 : Int) : St := [(6, .d (I 0)), (7, .d (I s133_0))]
def Ra133_0  (s133_0 : Int) : List Res := []
theorem k133 (x0 : api_Board) (x1 : api_Power) (x2 : Int) (r : Int) (h : F133 x0 x1 x2 = some r) : CallOk Tryz.prog 133 [.agg [I x0.Buses, DS api_Breaker.ps x0.Breakers, DS api_Source.ps x0.Sources, DS api_Consumer.ps x0.Consumers, I x0.Phase, I x0.Frequency], .agg [DS pB x1.Closed, DS api_Running.ps x1.Sources, DS pI x1.Limits, DS api_Part.ps x1.Broken], .d (I x2)] [] (.d (I r)) [] := by
  unfold F133 at h
  refine callOk_of 38 Tryz.func133 rfl rfl rfl fun C hC => ?_
  refine WI_stop (bs := []) mixed lv133 28 [] [.len ((x0.Breakers.map api_Breaker.ps).length : Int) (x0.Breakers.length : Int)] [] 0 [1] (st133_0 x0 x2 0 0) (R133_0 x1 0 0) hC ⟨len_map _ _, trivial⟩ trivial (by kernel_rfl) ?_
  obtain ⟨k133_0, hm133_0, hret133_0, hnext133_0⟩ := andThen_inv h
  clear h
  refine WI_cut (by kernel_rfl) (fun s => k133_0 = .next s) (sa133_0) (Ra133_0) ?_ fun s133_0 hs133_0 => ?_
  · refine WI_blk (by kernel_rfl) ?_
    refine WI_len 11 rfl fun hl133_0 => ?_
    refine WI_foldI (by kernel_rfl) (F133_l0 x1 x2) (st133_0 x0 x2) (R133_0 x1) k133_0 x0.Breakers 0 hm133_0 rfl rfl (fun s133_0 hn133_0 => ?_) fun i133_0 x133_0 s133_0 k133_0b hi133_0 hx133_0 h hb133_0 hr133_0 => ?_
    · clear hm133_0
      exact WI_end (bs := [(decide ((cnt 0 x0.Breakers.length) < (x0.Breakers.length : Int)), false)]) (φ := fun s' => k133_0 = .next s') (st' := (sa133_0)) (R' := (Ra133_0)) mixed lv133 26 [false] [] [] 0 [] s133_0 hC trivial ⟨(cnt_end hl133_0), trivial⟩ (by kernel_rfl) (by kernel_rfl) hn133_0
    · unfold F133_l0 at h
      obtain ⟨y1, h2, h⟩ := bindE h
      rcases boolC ((c133_2 x2 x133_0 y1)) with h3 | h3
      · replace h := condT h3 h
        exact WI_end (bs := [(decide ((cnt 0 i133_0) < (x0.Breakers.length : Int)), true), ((c133_2 x2 x133_0 y1), true)]) (φ := fun s' => k133_0b = .next s') (st' := (st133_0 x0 x2 (i133_0 + 1))) (R' := (R133_0 x1 (i133_0 + 1))) mixed lv133 36 [true, true] [.row (x0.Breakers.map api_Breaker.ps) (cnt 0 i133_0) (api_Breaker.ps x133_0), .when [(((x133_0.Kind == 3) && (x133_0.B == x2)), true)] (.row (x1.Closed.map pB) (cnt 0 i133_0) (pB y1))] [] 0 [0] (w64 (s133_0 + 1)) hC ⟨(row_cnt hx133_0 hl133_0), fun hg => row_get (guardO_get h2 hg), trivial⟩ ⟨(cnt_lt hi133_0 hl133_0), h3, trivial⟩ (by kernel_rfl) (by kernel_rfl) (Option.some.inj h).symm
      · replace h := condF h3 h
        exact WI_end (bs := [(decide ((cnt 0 i133_0) < (x0.Breakers.length : Int)), true), ((c133_2 x2 x133_0 y1), false)]) (φ := fun s' => k133_0b = .next s') (st' := (st133_0 x0 x2 (i133_0 + 1))) (R' := (R133_0 x1 (i133_0 + 1))) mixed lv133 36 [true, false] [.row (x0.Breakers.map api_Breaker.ps) (cnt 0 i133_0) (api_Breaker.ps x133_0), .when [(((x133_0.Kind == 3) && (x133_0.B == x2)), true)] (.row (x1.Closed.map pB) (cnt 0 i133_0) (pB y1))] [] 0 [0] s133_0 hC ⟨(row_cnt hx133_0 hl133_0), fun hg => row_get (guardO_get h2 hg), trivial⟩ ⟨(cnt_lt hi133_0 hl133_0), h3, trivial⟩ (by kernel_rfl) (by kernel_rfl) (Option.some.inj h).symm
  · have h := hnext133_0 _ hs133_0
    replace h := Option.some.inj h
    subst h
    exact WI_ret (bs := []) mixed lv133 23 [] [] [] [.tmp 6] 0 [] rfl hC trivial trivial (by kernel_rfl)
theorem e133 : Enters Tryz.prog 133 := Go.SL.enters_of Tryz.func133 (by kernel_rfl) (by kernel_rfl)
def lv137 : List Nat := [0, 1, 2, 3, 6, 7, 8, 9, 14, 19, 23]
theorem k137 (x0 : api_Board) (x1 : Int) (x2 : Int) (r : Bool) (h : F137 x0 x1 x2 = r) : CallOk Tryz.prog 137 [.agg [I x0.Buses, DS api_Breaker.ps x0.Breakers, DS api_Source.ps x0.Sources, DS api_Consumer.ps x0.Consumers, I x0.Phase, I x0.Frequency], .d (I x1), .d (I x2)] [] (.d (Bo r)) [] := by
  unfold F137 at h
  refine callOk_of 35 Tryz.func137 rfl rfl rfl fun C hC => ?_
  rcases boolC ((x1 == 1)) with h1 | h1
  · replace h := condT h1 h
    subst h
    exact WI_ret (bs := [((x1 == 1), true)]) mixed lv137 36 [true] [.len ((x0.Sources.map api_Source.ps).length : Int) (x0.Sources.length : Int)] [] [.tmp 6] 0 [] rfl hC ⟨len_map _ _, trivial⟩ ⟨h1, trivial⟩ (by kernel_rfl)
  · replace h := condF h1 h
    rcases boolC ((x1 == 2)) with h2 | h2
    · replace h := condT h2 h
      subst h
      exact WI_ret (bs := [((x1 == 1), false), ((x1 == 2), true)]) mixed lv137 39 [false, true] [.len ((x0.Breakers.map api_Breaker.ps).length : Int) (x0.Breakers.length : Int)] [] [.tmp 6] 0 [] rfl hC ⟨len_map _ _, trivial⟩ ⟨h1, h2, trivial⟩ (by kernel_rfl)
    · replace h := condF h2 h
      rcases boolC ((x1 == 3)) with h3 | h3
      · replace h := condT h3 h
        subst h
        exact WI_ret (bs := [((x1 == 1), false), ((x1 == 2), false), ((x1 == 3), true)]) mixed lv137 42 [false, false, true] [] [] [.tmp 6] 0 [] rfl hC trivial ⟨h1, h2, h3, trivial⟩ (by kernel_rfl)
      · replace h := condF h3 h
        rcases boolC ((x1 == 4)) with h4 | h4
        · replace h := condT h4 h
          subst h
          exact WI_ret (bs := [((x1 == 1), false), ((x1 == 2), false), ((x1 == 3), false), ((x1 == 4), true)]) mixed lv137 45 [false, false, false, true] [.len ((x0.Consumers.map api_Consumer.ps).length : Int) (x0.Consumers.length : Int)] [] [.tmp 6] 0 [] rfl hC ⟨len_map _ _, trivial⟩ ⟨h1, h2, h3, h4, trivial⟩ (by kernel_rfl)
        · replace h := condF h4 h
          subst h
          exact WI_ret (bs := [((x1 == 1), false), ((x1 == 2), false), ((x1 == 3), false), ((x1 == 4), false)]) mixed lv137 45 [false, false, false, false] [] [] [.tmp 6] 0 [] rfl hC trivial ⟨h1, h2, h3, h4, trivial⟩ (by kernel_rfl)
theorem e137 : Enters Tryz.prog 137 := Go.SL.enters_of Tryz.func137 (by kernel_rfl) (by kernel_rfl)
theorem k138 (x0 : List Bool) (r : List Bool) (h : F138 x0 = some r) : CallOk Tryz.prog 138 [.d (.p (.s (x0.map pB)))] [] (.d (.os 0)) [.sl 4 1 (r.map pB)] := by
  unfold F138 at h
  refine callOk_of 8 Tryz.func138 rfl rfl rfl fun C hC => ?_
  refine WI_stop (bs := []) mixed [0, 4] 40 [] [] [] 0 [] [(0, .d (.p (.s (x0.map pB)))), (4, .d (.nq (x0.map pB)))] [] hC trivial trivial (by kernel_rfl) ?_
  refine WI_nq 4 (by kernel_rfl) (by kernel_rfl) rfl (fun hn => ?_) ?_
  · have hx : x0 = [] := by cases x0 with | nil => rfl | cons => cases hn
    subst hx
    have hr : r = [] := by simpa [appI] using h.symm
    subst hr
    exact WI_ret (bs := []) mixed [2] 40 [] [] [.own 2 4 1] [.tmp 2] 0 [0] rfl hC trivial trivial (by kernel_rfl)
  · exact WI_ret (bs := []) mixed [2] 40 [] [.own, (.app [] (x0.map pB) 1 ((([] : List (List Pd)).length + (x0.map pB).length) * (1 + 1)) (r.map pB))] [] [.tmp 2] 0 [1] rfl hC ⟨trivial, app_get (l := []) pB 1 (fun _ => rfl) h, trivial⟩ trivial (by kernel_rfl)
theorem e138 : Enters Tryz.prog 138 := Go.SL.enters_of Tryz.func138 (by kernel_rfl) (by kernel_rfl)
theorem k139 (x0 : List api_Running) (r : List api_Running) (h : F139 x0 = some r) : CallOk Tryz.prog 139 [.d (.p (.s (x0.map api_Running.ps)))] [] (.d (.os 0)) [.sl 59 4 (r.map api_Running.ps)] := by
  unfold F139 at h
  refine callOk_of 8 Tryz.func139 rfl rfl rfl fun C hC => ?_
  refine WI_stop (bs := []) mixed [0, 4] 40 [] [] [] 0 [] [(0, .d (.p (.s (x0.map api_Running.ps)))), (4, .d (.nq (x0.map api_Running.ps)))] [] hC trivial trivial (by kernel_rfl) ?_
  refine WI_nq 4 (by kernel_rfl) (by kernel_rfl) rfl (fun hn => ?_) ?_
  · have hx : x0 = [] := by cases x0 with | nil => rfl | cons => cases hn
    subst hx
    have hr : r = [] := by simpa [appI] using h.symm
    subst hr
    exact WI_ret (bs := []) mixed [2] 40 [] [] [.own 2 59 4] [.tmp 2] 0 [0] rfl hC trivial trivial (by kernel_rfl)
  · exact WI_ret (bs := []) mixed [2] 40 [] [.own, (.app [] (x0.map api_Running.ps) 4 ((([] : List (List Pd)).length + (x0.map api_Running.ps).length) * (32 + 1)) (r.map api_Running.ps))] [] [.tmp 2] 0 [1] rfl hC ⟨trivial, app_get (l := []) api_Running.ps 4 (fun _ => rfl) h, trivial⟩ trivial (by kernel_rfl)
theorem e139 : Enters Tryz.prog 139 := Go.SL.enters_of Tryz.func139 (by kernel_rfl) (by kernel_rfl)
theorem k140 (x0 : List Int) (r : List Int) (h : F140 x0 = some r) : CallOk Tryz.prog 140 [.d (.p (.s (x0.map pI)))] [] (.d (.os 0)) [.sl 3 1 (r.map pI)] := by
  unfold F140 at h
  refine callOk_of 8 Tryz.func140 rfl rfl rfl fun C hC => ?_
  refine WI_stop (bs := []) mixed [0, 4] 40 [] [] [] 0 [] [(0, .d (.p (.s (x0.map pI)))), (4, .d (.nq (x0.map pI)))] [] hC trivial trivial (by kernel_rfl) ?_
  refine WI_nq 4 (by kernel_rfl) (by kernel_rfl) rfl (fun hn => ?_) ?_
  · have hx : x0 = [] := by cases x0 with | nil => rfl | cons => cases hn
    subst hx
    have hr : r = [] := by simpa [appI] using h.symm
    subst hr
    exact WI_ret (bs := []) mixed [2] 40 [] [] [.own 2 3 1] [.tmp 2] 0 [0] rfl hC trivial trivial (by kernel_rfl)
  · exact WI_ret (bs := []) mixed [2] 40 [] [.own, (.app [] (x0.map pI) 1 ((([] : List (List Pd)).length + (x0.map pI).length) * (8 + 1)) (r.map pI))] [] [.tmp 2] 0 [1] rfl hC ⟨trivial, app_get (l := []) pI 1 (fun _ => rfl) h, trivial⟩ trivial (by kernel_rfl)
theorem e140 : Enters Tryz.prog 140 := Go.SL.enters_of Tryz.func140 (by kernel_rfl) (by kernel_rfl)
theorem k141 (x0 : List api_Part) (r : List api_Part) (h : F141 x0 = some r) : CallOk Tryz.prog 141 [.d (.p (.s (x0.map api_Part.ps)))] [] (.d (.os 0)) [.sl 119 2 (r.map api_Part.ps)] := by
  unfold F141 at h
  refine callOk_of 8 Tryz.func141 rfl rfl rfl fun C hC => ?_
  refine WI_stop (bs := []) mixed [0, 4] 40 [] [] [] 0 [] [(0, .d (.p (.s (x0.map api_Part.ps)))), (4, .d (.nq (x0.map api_Part.ps)))] [] hC trivial trivial (by kernel_rfl) ?_
  refine WI_nq 4 (by kernel_rfl) (by kernel_rfl) rfl (fun hn => ?_) ?_
  · have hx : x0 = [] := by cases x0 with | nil => rfl | cons => cases hn
    subst hx
    have hr : r = [] := by simpa [appI] using h.symm
    subst hr
    exact WI_ret (bs := []) mixed [2] 40 [] [] [.own 2 119 2] [.tmp 2] 0 [0] rfl hC trivial trivial (by kernel_rfl)
  · exact WI_ret (bs := []) mixed [2] 40 [] [.own, (.app [] (x0.map api_Part.ps) 2 ((([] : List (List Pd)).length + (x0.map api_Part.ps).length) * (16 + 1)) (r.map api_Part.ps))] [] [.tmp 2] 0 [1] rfl hC ⟨trivial, app_get (l := []) api_Part.ps 2 (fun _ => rfl) h, trivial⟩ trivial (by kernel_rfl)
theorem e141 : Enters Tryz.prog 141 := Go.SL.enters_of Tryz.func141 (by kernel_rfl) (by kernel_rfl)
def lv249 : List Nat := [0, 1, 3, 4, 5, 7, 8, 9, 16]
def st249_0 (x0 : List api_Part) (i249_0 : Nat) (s249_0 : Unit) : St := [(0, .d (DS api_Part.ps x0)), (3, .d (.o 0 0)), (4, .d (I 0)), (7, .d (I (x0.length : Int))), (8, .d (I (cnt 0 i249_0)))]
def R249_0 (x1 : api_Part) (i249_0 : Nat) (s249_0 : Unit) : List Res := [.box 119 [I x1.Kind, I x1.Number]]
def sa249_0  (s249_0 : Unit) : St := [(4, .d (I 0))]
def Ra249_0  (s249_0 : Unit) : List Res := []
theorem k249 (x0 : List api_Part) (x1 : api_Part) (r : Int) (h : F249 x0 x1 = some r) : CallOk Tryz.prog 249 [.d (DS api_Part.ps x0), .agg [I x1.Kind, I x1.Number]] [] (.d (I r)) [] := by
  unfold F249 at h
  refine callOk_of 19 Tryz.func249 rfl rfl rfl fun C hC => ?_
  refine WI_stop (bs := []) mixed lv249 26 [] [.len ((x0.map api_Part.ps).length : Int) (x0.length : Int)] [] 0 [0] (st249_0 x0 0 ()) (R249_0 x1 0 ()) hC ⟨len_map _ _, trivial⟩ trivial (by kernel_rfl) ?_
  obtain ⟨k249_0, hm249_0, hret249_0, hnext249_0⟩ := andThen_inv h
  clear h
  refine WI_cut (by kernel_rfl) (fun s => k249_0 = .next s) (sa249_0) (Ra249_0) ?_ fun s249_0 hs249_0 => ?_
  · refine WI_blk (by kernel_rfl) ?_
    refine WI_len 0 rfl fun hl249_0 => ?_
    refine WI_foldI (by kernel_rfl) (F249_l0 x1) (st249_0 x0) (R249_0 x1) k249_0 x0 () hm249_0 rfl rfl (fun s249_0 hn249_0 => ?_) fun i249_0 x249_0 s249_0 k249_0b hi249_0 hx249_0 h hb249_0 hr249_0 => ?_
    · clear hm249_0
      exact WI_end (bs := [(decide ((cnt 0 x0.length) < (x0.length : Int)), false)]) (φ := fun s' => k249_0 = .next s') (st' := (sa249_0)) (R' := (Ra249_0)) mixed lv249 26 [false] [] [] 0 [] () hC trivial ⟨(cnt_end hl249_0), trivial⟩ (by kernel_rfl) (by kernel_rfl) hn249_0
    · unfold F249_l0 at h
      rcases boolC ((c249_1 x1 x249_0)) with h1 | h1
      · replace h := condT h1 h
        have hq := hret249_0 _ (hr249_0 _ (Option.some.inj h).symm)
        replace hq := Option.some.inj hq
        subst hq
        exact WI_ret (bs := [(decide ((cnt 0 i249_0) < (x0.length : Int)), true), ((c249_1 x1 x249_0), true)]) mixed lv249 35 [true, true] [.row (x0.map api_Part.ps) (cnt 0 i249_0) (api_Part.ps x249_0)] [] [.tmp 4] 0 [] rfl hC ⟨(row_cnt hx249_0 hl249_0), trivial⟩ ⟨(cnt_lt hi249_0 hl249_0), h1, trivial⟩ (by kernel_rfl)
      · replace h := condF h1 h
        exact WI_end (bs := [(decide ((cnt 0 i249_0) < (x0.length : Int)), true), ((c249_1 x1 x249_0), false)]) (φ := fun s' => k249_0b = .next s') (st' := (st249_0 x0 (i249_0 + 1))) (R' := (R249_0 x1 (i249_0 + 1))) mixed lv249 36 [true, false] [.row (x0.map api_Part.ps) (cnt 0 i249_0) (api_Part.ps x249_0)] [] 0 [0] () hC ⟨(row_cnt hx249_0 hl249_0), trivial⟩ ⟨(cnt_lt hi249_0 hl249_0), h1, trivial⟩ (by kernel_rfl) (by kernel_rfl) (Option.some.inj h).symm
  · have h := hnext249_0 _ hs249_0
    replace h := Option.some.inj h
    subst h
    exact WI_ret (bs := []) mixed lv249 23 [] [] [] [.tmp 4] 0 [] rfl hC trivial trivial (by kernel_rfl)
theorem e249 : Enters Tryz.prog 249 := Go.SL.enters_of Tryz.func249 (by kernel_rfl) (by kernel_rfl)
def lv237 : List Nat := [0, 1, 2, 3, 4, 5, 8, 9, 10, 11, 13, 14, 15, 16, 36]
def st237_0 (x0 : api_Board) (x2 : Int) (x3 : Int) (i237_0 : Nat) (s237_0 : Unit) : St := [(2, .d (I x2)), (3, .d (I x3)), (5, .d (.o 0 0)), (8, .d (I 0)), (9, .d (Bo false)), (13, .d (DS api_Breaker.ps x0.Breakers)), (14, .d (I (x0.Breakers.length : Int))), (15, .d (I (cnt 0 i237_0)))]
def R237_0 (x1 : api_Power) (i237_0 : Nat) (s237_0 : Unit) : List Res := [.box 35 [DS pB x1.Closed, DS api_Running.ps x1.Sources, DS pI x1.Limits, DS api_Part.ps x1.Broken]]
def sa237_0  (s237_0 : Unit) : St := [(8, .d (I 0)), (9, .d (Bo false))]
def Ra237_0  (s237_0 : Unit) : List Res := []
theorem k237 (x0 : api_Board) (x1 : api_Power) (x2 : Int) (x3 : Int) (r : Int × Bool) (h : F237 x0 x1 x2 x3 = some r) : CallOk Tryz.prog 237 [.agg [I x0.Buses, DS api_Breaker.ps x0.Breakers, DS api_Source.ps x0.Sources, DS api_Consumer.ps x0.Consumers, I x0.Phase, I x0.Frequency], .agg [DS pB x1.Closed, DS api_Running.ps x1.Sources, DS pI x1.Limits, DS api_Part.ps x1.Broken], .d (I x2), .d (I x3)] [] (.tup [.d (I r.1), .d (Bo r.2)]) [] := by
  unfold F237 at h
  refine callOk_of 40 Tryz.func237 rfl rfl rfl fun C hC => ?_
  refine WI_stop (bs := []) mixed lv237 26 [] [.len ((x0.Breakers.map api_Breaker.ps).length : Int) (x0.Breakers.length : Int)] [] 0 [1] (st237_0 x0 x2 x3 0 ()) (R237_0 x1 0 ()) hC ⟨len_map _ _, trivial⟩ trivial (by kernel_rfl) ?_
  obtain ⟨k237_0, hm237_0, hret237_0, hnext237_0⟩ := andThen_inv h
  clear h
  refine WI_cut (by kernel_rfl) (fun s => k237_0 = .next s) (sa237_0) (Ra237_0) ?_ fun s237_0 hs237_0 => ?_
  · refine WI_blk (by kernel_rfl) ?_
    refine WI_len 13 rfl fun hl237_0 => ?_
    refine WI_foldI (by kernel_rfl) (F237_l0 x1 x2 x3) (st237_0 x0 x2 x3) (R237_0 x1) k237_0 x0.Breakers () hm237_0 rfl rfl (fun s237_0 hn237_0 => ?_) fun i237_0 x237_0 s237_0 k237_0b hi237_0 hx237_0 h hb237_0 hr237_0 => ?_
    · clear hm237_0
      exact WI_end (bs := [(decide ((cnt 0 x0.Breakers.length) < (x0.Breakers.length : Int)), false)]) (φ := fun s' => k237_0 = .next s') (st' := (sa237_0)) (R' := (Ra237_0)) mixed lv237 26 [false] [] [] 0 [] () hC trivial ⟨(cnt_end hl237_0), trivial⟩ (by kernel_rfl) (by kernel_rfl) hn237_0
    · unfold F237_l0 at h
      obtain ⟨y1, h2, h⟩ := bindE h
      rcases boolC ((c237_1 x2 x3 x237_0 y1)) with h3 | h3
      · replace h := condT h3 h
        have hq := hret237_0 _ (hr237_0 _ (Option.some.inj h).symm)
        replace hq := Option.some.inj hq
        subst hq
        exact WI_ret (bs := [(decide ((cnt 0 i237_0) < (x0.Breakers.length : Int)), true), ((c237_1 x2 x3 x237_0 y1), true)]) mixed lv237 35 [true, true] [.row (x0.Breakers.map api_Breaker.ps) (cnt 0 i237_0) (api_Breaker.ps x237_0), .when [(((x237_0.Kind == x2) && (x237_0.B == x3)), true)] (.row (x1.Closed.map pB) (cnt 0 i237_0) (pB y1))] [] [.tmp 8, .tmp 9] 0 [] rfl hC ⟨(row_cnt hx237_0 hl237_0), fun hg => row_get (guardO_get h2 hg), trivial⟩ ⟨(cnt_lt hi237_0 hl237_0), h3, trivial⟩ (by kernel_rfl)
      · replace h := condF h3 h
        exact WI_end (bs := [(decide ((cnt 0 i237_0) < (x0.Breakers.length : Int)), true), ((c237_1 x2 x3 x237_0 y1), false)]) (φ := fun s' => k237_0b = .next s') (st' := (st237_0 x0 x2 x3 (i237_0 + 1))) (R' := (R237_0 x1 (i237_0 + 1))) mixed lv237 36 [true, false] [.row (x0.Breakers.map api_Breaker.ps) (cnt 0 i237_0) (api_Breaker.ps x237_0), .when [(((x237_0.Kind == x2) && (x237_0.B == x3)), true)] (.row (x1.Closed.map pB) (cnt 0 i237_0) (pB y1))] [] 0 [0] () hC ⟨(row_cnt hx237_0 hl237_0), fun hg => row_get (guardO_get h2 hg), trivial⟩ ⟨(cnt_lt hi237_0 hl237_0), h3, trivial⟩ (by kernel_rfl) (by kernel_rfl) (Option.some.inj h).symm
  · have h := hnext237_0 _ hs237_0
    replace h := Option.some.inj h
    subst h
    exact WI_ret (bs := []) mixed lv237 23 [] [] [] [.tmp 8, .tmp 9] 0 [] rfl hC trivial trivial (by kernel_rfl)
theorem e237 : Enters Tryz.prog 237 := Go.SL.enters_of Tryz.func237 (by kernel_rfl) (by kernel_rfl)
def lv186 : List Nat := [0, 1, 2, 3, 4, 5, 6, 7, 8, 9, 14, 15, 16, 24, 25, 26, 28, 29, 30, 31, 44]
def st186_0 (y1 : List Int) (i186_0 : Nat) (s186_0 : (List Int)) : St := [(2, .d (.o 0 0)), (3, .d (.o 1 0)), (4, .d (DS pI [])), (5, .d (.os 2)), (14, .d (I (y1.length : Int))), (15, .d (I (cnt 0 i186_0)))]
def R186_0 (x0 : api_Board) (x1 : api_Power) (i186_0 : Nat) (s186_0 : (List Int)) : List Res := [.box 29 [I x0.Buses, DS api_Breaker.ps x0.Breakers, DS api_Source.ps x0.Sources, DS api_Consumer.ps x0.Consumers, I x0.Phase, I x0.Frequency], .box 35 [DS pB x1.Closed, DS api_Running.ps x1.Sources, DS pI x1.Limits, DS api_Part.ps x1.Broken], .sl 3 1 (s186_0.map pI)]
def sa186_0  (s186_0 : (List Int)) : St := [(2, .d (.o 0 0)), (3, .d (.o 1 0)), (4, .d (DS pI [])), (5, .d (.os 2))]
def Ra186_0 (x0 : api_Board) (x1 : api_Power) (s186_0 : (List Int)) : List Res := [.box 29 [I x0.Buses, DS api_Breaker.ps x0.Breakers, DS api_Source.ps x0.Sources, DS api_Consumer.ps x0.Consumers, I x0.Phase, I x0.Frequency], .box 35 [DS pB x1.Closed, DS api_Running.ps x1.Sources, DS pI x1.Limits, DS api_Part.ps x1.Broken], .sl 3 1 (s186_0.map pI)]
def st186_1 (s186_0 : (List Int)) (i186_1 : Nat) (s186_1 : (List Int)) : St := [(2, .d (.o 0 0)), (3, .d (.o 1 0)), (4, .d (DS pI [])), (5, .d (.os 2)), (24, .d (I (s186_0.length : Int))), (25, .d (I (cnt 0 i186_1)))]
def R186_1 (x0 : api_Board) (x1 : api_Power) (i186_1 : Nat) (s186_1 : (List Int)) : List Res := [.box 29 [I x0.Buses, DS api_Breaker.ps x0.Breakers, DS api_Source.ps x0.Sources, DS api_Consumer.ps x0.Consumers, I x0.Phase, I x0.Frequency], .box 35 [DS pB x1.Closed, DS api_Running.ps x1.Sources, DS pI x1.Limits, DS api_Part.ps x1.Broken], .sl 3 1 (s186_1.map pI)]
def sa186_1  (s186_1 : (List Int)) : St := [(4, .d (DS pI [])), (5, .d (.os 0))]
def Ra186_1  (s186_1 : (List Int)) : List Res := [.sl 3 1 (s186_1.map pI)]
def st186_2 (x0 : api_Board) (s186_0 : (List Int)) (i186_1 : Nat) (i186_2 : Nat) (s186_2 : (List Int)) : St := [(2, .d (.o 0 0)), (3, .d (.o 1 0)), (4, .d (DS pI [])), (5, .d (.os 2)), (24, .d (I (s186_0.length : Int))), (25, .d (I (cnt 0 i186_1))), (28, .d (DS api_Breaker.ps x0.Breakers)), (29, .d (I (x0.Breakers.length : Int))), (30, .d (I (cnt 0 i186_2)))]
def R186_2 (x0 : api_Board) (x1 : api_Power) (i186_2 : Nat) (s186_2 : (List Int)) : List Res := [.box 29 [I x0.Buses, DS api_Breaker.ps x0.Breakers, DS api_Source.ps x0.Sources, DS api_Consumer.ps x0.Consumers, I x0.Phase, I x0.Frequency], .box 35 [DS pB x1.Closed, DS api_Running.ps x1.Sources, DS pI x1.Limits, DS api_Part.ps x1.Broken], .sl 3 1 (s186_2.map pI)]
def sa186_2 (s186_0 : (List Int)) (i186_1 : Nat) (s186_2 : (List Int)) : St := [(2, .d (.o 0 0)), (3, .d (.o 1 0)), (4, .d (DS pI [])), (5, .d (.os 2)), (24, .d (I (s186_0.length : Int))), (25, .d (I (cnt 0 i186_1)))]
def Ra186_2 (x0 : api_Board) (x1 : api_Power) (s186_2 : (List Int)) : List Res := [.box 29 [I x0.Buses, DS api_Breaker.ps x0.Breakers, DS api_Source.ps x0.Sources, DS api_Consumer.ps x0.Consumers, I x0.Phase, I x0.Frequency], .box 35 [DS pB x1.Closed, DS api_Running.ps x1.Sources, DS pI x1.Limits, DS api_Part.ps x1.Broken], .sl 3 1 (s186_2.map pI)]
theorem k186 (x0 : api_Board) (x1 : api_Power) (r : (List Int)) (h : F186 x0 x1 = some r) : CallOk Tryz.prog 186 [.agg [I x0.Buses, DS api_Breaker.ps x0.Breakers, DS api_Source.ps x0.Sources, DS api_Consumer.ps x0.Consumers, I x0.Phase, I x0.Frequency], .agg [DS pB x1.Closed, DS api_Running.ps x1.Sources, DS pI x1.Limits, DS api_Part.ps x1.Broken]] [] (.d (.os 0)) [.sl 3 1 (r.map pI)] := by
  unfold F186 at h
  refine callOk_of 69 Tryz.func186 rfl rfl rfl fun C hC => ?_
  obtain ⟨y1, h2, h⟩ := bindE h
  refine WI_stop (bs := []) mixed lv186 28 [] [.room (x0.Buses * (8 + 1)) (List.replicate (Int.toNat x0.Buses) (pI 0)) (y1.map pI), .len ((y1.map pI).length : Int) (y1.length : Int)] [] 0 [0, 1, 2] (st186_0 y1 0 y1) (R186_0 x0 x1 0 y1) hC ⟨make_get h2, len_map _ _, trivial⟩ trivial (by kernel_rfl) ?_
  obtain ⟨k186_0, hm186_0, hret186_0, hnext186_0⟩ := andThen_inv h
  clear h
  refine WI_cut (by kernel_rfl) (fun s => k186_0 = .next s) (sa186_0) (Ra186_0 x0 x1) ?_ fun s186_0 hs186_0 => ?_
  · refine WI_blk (by kernel_rfl) ?_
    refine WI_lenO 5 2 rfl rfl fun hl186_0 => ?_
    refine WI_foldI (by kernel_rfl) F186_l0 (st186_0 y1) (R186_0 x0 x1) k186_0 y1 y1 hm186_0 rfl rfl (fun s186_0 hn186_0 => ?_) fun i186_0 x186_0 s186_0 k186_0b hi186_0 hx186_0 h hb186_0 hr186_0 => ?_
    · clear hm186_0
      exact WI_end (bs := [(decide ((cnt 0 y1.length) < (y1.length : Int)), false)]) (φ := fun s' => k186_0 = .next s') (st' := (sa186_0)) (R' := (Ra186_0 x0 x1)) mixed lv186 26 [false] [] [] 0 [0, 1, 2] s186_0 hC trivial ⟨(cnt_end hl186_0), trivial⟩ (by kernel_rfl) (by kernel_rfl) hn186_0
    · unfold F186_l0 at h
      obtain ⟨y3, h4, h⟩ := bindE h
      obtain ⟨y5, h6, h⟩ := bindE h
      exact WI_end (bs := [(decide ((cnt 0 i186_0) < (y1.length : Int)), true)]) (φ := fun s' => k186_0b = .next s') (st' := (st186_0 y1 (i186_0 + 1))) (R' := (R186_0 x0 x1 (i186_0 + 1))) mixed lv186 33 [true] [.row (s186_0.map pI) (cnt 0 i186_0) (pI y3), .upd (s186_0.map pI) (Int.toNat (cnt 0 i186_0)) (pI y3) (pI (cnt 0 i186_0)) (y5.map pI)] [] 0 [0, 1, 2] y5 hC ⟨row_get h4, upd_get h4 h6, trivial⟩ ⟨(cnt_lt hi186_0 hl186_0), trivial⟩ (by kernel_rfl) (by kernel_rfl) (Option.some.inj h).symm
  · have h := hnext186_0 _ hs186_0
    refine WI_stop (bs := []) mixed lv186 24 [] [.len ((s186_0.map pI).length : Int) (s186_0.length : Int)] [] 0 [0, 1, 2] (st186_1 s186_0 0 s186_0) (R186_1 x0 x1 0 s186_0) hC ⟨len_map _ _, trivial⟩ trivial (by kernel_rfl) ?_
    obtain ⟨k186_1, hm186_1, hret186_1, hnext186_1⟩ := andThen_inv h
    clear h
    refine WI_cut (by kernel_rfl) (fun s => k186_1 = .next s) (sa186_1) (Ra186_1) ?_ fun s186_1 hs186_1 => ?_
    · refine WI_blk (by kernel_rfl) ?_
      refine WI_lenO 5 2 rfl rfl fun hl186_1 => ?_
      refine WI_foldI (by kernel_rfl) (F186_l1 x0 x1) (st186_1 s186_0) (R186_1 x0 x1) k186_1 s186_0 s186_0 hm186_1 rfl rfl (fun s186_1 hn186_1 => ?_) fun i186_1 x186_1 s186_1 k186_1b hi186_1 hx186_1 h hb186_1 hr186_1 => ?_
      · clear hm186_1
        exact WI_end (bs := [(decide ((cnt 0 s186_0.length) < (s186_0.length : Int)), false)]) (φ := fun s' => k186_1 = .next s') (st' := (sa186_1)) (R' := (Ra186_1)) mixed lv186 26 [false] [] [] 0 [2] s186_1 hC trivial ⟨(cnt_end hl186_1), trivial⟩ (by kernel_rfl) (by kernel_rfl) hn186_1
      · unfold F186_l1 at h
        refine WI_stop (bs := [(decide ((cnt 0 i186_1) < (s186_0.length : Int)), true)]) mixed lv186 30 [true] [.len ((x0.Breakers.map api_Breaker.ps).length : Int) (x0.Breakers.length : Int)] [] 0 [0, 1, 2] (st186_2 x0 s186_0 i186_1 0 s186_1) (R186_2 x0 x1 0 s186_1) hC ⟨len_map _ _, trivial⟩ ⟨(cnt_lt hi186_1 hl186_1), trivial⟩ (by kernel_rfl) ?_
        obtain ⟨k186_2, hm186_2, hret186_2, hnext186_2⟩ := andThen_inv h
        clear h
        refine WI_cut (by kernel_rfl) (fun s => k186_2 = .next s) (sa186_2 s186_0 i186_1) (Ra186_2 x0 x1) ?_ fun s186_2 hs186_2 => ?_
        · refine WI_blk (by kernel_rfl) ?_
          refine WI_len 28 rfl fun hl186_2 => ?_
          refine WI_foldI (by kernel_rfl) (F186_l2 x1) (st186_2 x0 s186_0 i186_1) (R186_2 x0 x1) k186_2 x0.Breakers s186_1 hm186_2 rfl rfl (fun s186_2 hn186_2 => ?_) fun i186_2 x186_2 s186_2 k186_2b hi186_2 hx186_2 h hb186_2 hr186_2 => ?_
          · clear hm186_2
            exact WI_end (bs := [(decide ((cnt 0 x0.Breakers.length) < (x0.Breakers.length : Int)), false)]) (φ := fun s' => k186_2 = .next s') (st' := (sa186_2 s186_0 i186_1)) (R' := (Ra186_2 x0 x1)) mixed lv186 26 [false] [] [] 0 [0, 1, 2] s186_2 hC trivial ⟨(cnt_end hl186_2), trivial⟩ (by kernel_rfl) (by kernel_rfl) hn186_2
          · unfold F186_l2 at h
            obtain ⟨y7, h8, h⟩ := bindE h
            rcases boolC (((x186_2.Kind == 1) && y7)) with h9 | h9
            · replace h := condT h9 h
              obtain ⟨y10, h11, h⟩ := bindE h
              obtain ⟨y12, h13, h⟩ := bindE h
              obtain ⟨y14, h15, h⟩ := bindE h
              obtain ⟨y16, h17, h⟩ := bindE h
              obtain ⟨y18, h19, h⟩ := bindE h
              exact WI_end (bs := [(decide ((cnt 0 i186_2) < (x0.Breakers.length : Int)), true), (((x186_2.Kind == 1) && y7), true)]) (φ := fun s' => k186_2b = .next s') (st' := (st186_2 x0 s186_0 i186_1 (i186_2 + 1))) (R' := (R186_2 x0 x1 (i186_2 + 1))) mixed lv186 38 [true, true] [.row (x0.Breakers.map api_Breaker.ps) (cnt 0 i186_2) (api_Breaker.ps x186_2), .when [((x186_2.Kind == 1), true)] (.row (x1.Closed.map pB) (cnt 0 i186_2) (pB y7)), .row (s186_2.map pI) x186_2.A (pI y10), .row (s186_2.map pI) (((Int.toNat x186_2.A) : Nat) : Int) (pI y10), .row (s186_2.map pI) x186_2.B (pI y12), .row (s186_2.map pI) (((Int.toNat x186_2.B) : Nat) : Int) (pI y12), .row (s186_2.map pI) x186_2.A (pI y10), .upd (s186_2.map pI) (Int.toNat x186_2.A) (pI y10) (pI (min y10 y12)) (y14.map pI), .row (y14.map pI) x186_2.B (pI y16), .upd (y14.map pI) (Int.toNat x186_2.B) (pI y16) (pI (min y10 y12)) (y18.map pI)] [] 0 [0, 1, 2] y18 hC ⟨(row_cnt hx186_2 hl186_2), fun hg => row_get (guardO_get h8 hg), row_get h11, row_getN h11, row_get h13, row_getN h13, row_get h11, upd_get h11 h15, row_get h17, upd_get h17 h19, trivial⟩ ⟨(cnt_lt hi186_2 hl186_2), h9, trivial⟩ (by kernel_rfl) (by kernel_rfl) (Option.some.inj h).symm
            · replace h := condF h9 h
              exact WI_end (bs := [(decide ((cnt 0 i186_2) < (x0.Breakers.length : Int)), true), (((x186_2.Kind == 1) && y7), false)]) (φ := fun s' => k186_2b = .next s') (st' := (st186_2 x0 s186_0 i186_1 (i186_2 + 1))) (R' := (R186_2 x0 x1 (i186_2 + 1))) mixed lv186 36 [true, false] [.row (x0.Breakers.map api_Breaker.ps) (cnt 0 i186_2) (api_Breaker.ps x186_2), .when [((x186_2.Kind == 1), true)] (.row (x1.Closed.map pB) (cnt 0 i186_2) (pB y7))] [] 0 [0, 1, 2] s186_2 hC ⟨(row_cnt hx186_2 hl186_2), fun hg => row_get (guardO_get h8 hg), trivial⟩ ⟨(cnt_lt hi186_2 hl186_2), h9, trivial⟩ (by kernel_rfl) (by kernel_rfl) (Option.some.inj h).symm
        · have h := hnext186_2 _ hs186_2
          exact WI_end (bs := []) (φ := fun s' => k186_1b = .next s') (st' := (st186_1 s186_0 (i186_1 + 1))) (R' := (R186_1 x0 x1 (i186_1 + 1))) mixed lv186 23 [] [] [] 0 [0, 1, 2] s186_2 hC trivial trivial (by kernel_rfl) (by kernel_rfl) (Option.some.inj h).symm
    · have h := hnext186_1 _ hs186_1
      replace h := Option.some.inj h
      subst h
      exact WI_ret (bs := []) mixed lv186 23 [] [] [] [.tmp 4] 0 [0] rfl hC trivial trivial (by kernel_rfl)
theorem e186 : Enters Tryz.prog 186 := Go.SL.enters_of Tryz.func186 (by kernel_rfl) (by kernel_rfl)
theorem k190 (x0 : api_Island) (r : Bool) (h : F190 x0 = r) : CallOk Tryz.prog 190 [.agg [DS pI x0.Buses, DS pI x0.Sources, DS pI x0.Consumers]] [] (.d (Bo r)) [] := by
  unfold F190 at h
  refine callOk_of 7 Tryz.func190 rfl rfl rfl fun C hC => ?_
  subst h
  exact WI_ret (bs := []) mixed [0, 1, 2] 25 [] [.len ((x0.Buses.map pI).length : Int) (x0.Buses.length : Int)] [] [.tmp 2] 0 [] rfl hC ⟨len_map _ _, trivial⟩ trivial (by kernel_rfl)
theorem e190 : Enters Tryz.prog 190 := Go.SL.enters_of Tryz.func190 (by kernel_rfl) (by kernel_rfl)
theorem k252 (x0 : Int) (r : Int) (h : F252 x0 = r) : CallOk Tryz.prog 252 [.d (I x0)] [] (.d (I r)) [] := by
  unfold F252 at h
  refine callOk_of 10 Tryz.func252 rfl rfl rfl fun C hC => ?_
  rcases boolC (decide ((Int.tmod x0 3600) < 0)) with h1 | h1
  · replace h := condT h1 h
    subst h
    exact WI_ret (bs := [(decide ((Int.tmod x0 3600) < 0), true)]) mixed [0, 2, 6] 32 [true] [.nz 3600] [] [.tmp 2] 0 [] rfl hC ⟨nz_lit rfl, trivial⟩ ⟨h1, trivial⟩ (by kernel_rfl)
  · replace h := condF h1 h
    subst h
    exact WI_ret (bs := [(decide ((Int.tmod x0 3600) < 0), false)]) mixed [0, 2, 6] 32 [false] [.nz 3600] [] [.tmp 2] 0 [] rfl hC ⟨nz_lit rfl, trivial⟩ ⟨h1, trivial⟩ (by kernel_rfl)
theorem e252 : Enters Tryz.prog 252 := Go.SL.enters_of Tryz.func252 (by kernel_rfl) (by kernel_rfl)
def lv183s0 : List Nat := [0, 1, 2, 3, 5, 7, 8, 9, 10, 11]
def st183s0_0 (x1 : List Int) (i183s0_0 : Nat) (s183s0_0 : (List api_Running)) : St := [(3, .d (.o 4 0)), (5, .d (.o 5 0)), (8, .d (DS pI x1)), (9, .d (I (x1.length : Int))), (10, .d (I (cnt 0 i183s0_0)))]
def R183s0_0 (x0 : api_Power) (x2 : api_Running) (i183s0_0 : Nat) (s183s0_0 : (List api_Running)) : List Res := [.sl 4 1 (x0.Closed.map pB), .sl 59 4 (s183s0_0.map api_Running.ps), .sl 3 1 (x0.Limits.map pI), .sl 119 2 (x0.Broken.map api_Part.ps), .box 35 [.os 0, .os 1, .os 2, .os 3], .box 59 [I x2.State, I x2.Since, I x2.Frequency, I x2.Phase]]
def sa183s0_0  (s183s0_0 : (List api_Running)) : St := []
def Ra183s0_0 (x0 : api_Power) (s183s0_0 : (List api_Running)) : List Res := [.sl 4 1 (x0.Closed.map pB), .sl 59 4 (s183s0_0.map api_Running.ps), .sl 3 1 (x0.Limits.map pI), .sl 119 2 (x0.Broken.map api_Part.ps)]
theorem k183s0 (x0 : api_Power) (x1 : List Int) (x2 : api_Running) (r : (List api_Running)) (h : F183s0 x0 x1 x2 = some r) : CallOk Tryz.prog 183 [.agg [.os 0, .os 1, .os 2, .os 3], .d (DS pI x1), .agg [I x2.State, I x2.Since, I x2.Frequency, I x2.Phase]] [.sl 4 1 (x0.Closed.map pB), .sl 59 4 (x0.Sources.map api_Running.ps), .sl 3 1 (x0.Limits.map pI), .sl 119 2 (x0.Broken.map api_Part.ps)] (.tup []) [.sl 4 1 (x0.Closed.map pB), .sl 59 4 (r.map api_Running.ps), .sl 3 1 (x0.Limits.map pI), .sl 119 2 (x0.Broken.map api_Part.ps)] := by
  unfold F183s0 at h
  refine callOk_of 29 Tryz.func183 rfl rfl rfl fun C hC => ?_
  refine WI_stop (bs := []) mixed lv183s0 25 [] [.len ((x1.map pI).length : Int) (x1.length : Int)] [] 4 [0, 1, 2, 3, 4, 5] (st183s0_0 x1 0 x0.Sources) (R183s0_0 x0 x2 0 x0.Sources) hC ⟨len_map _ _, trivial⟩ trivial (by kernel_rfl) ?_
  obtain ⟨k183s0_0, hm183s0_0, hret183s0_0, hnext183s0_0⟩ := andThen_inv h
  clear h
  refine WI_cut (by kernel_rfl) (fun s => k183s0_0 = .next s) (sa183s0_0) (Ra183s0_0 x0) ?_ fun s183s0_0 hs183s0_0 => ?_
  · refine WI_blk (by kernel_rfl) ?_
    refine WI_len 8 rfl fun hl183s0_0 => ?_
    refine WI_foldI (by kernel_rfl) (F183s0_l0 x2) (st183s0_0 x1) (R183s0_0 x0 x2) k183s0_0 x1 x0.Sources hm183s0_0 rfl rfl (fun s183s0_0 hn183s0_0 => ?_) fun i183s0_0 x183s0_0 s183s0_0 k183s0_0b hi183s0_0 hx183s0_0 h hb183s0_0 hr183s0_0 => ?_
    · clear hm183s0_0
      exact WI_end (bs := [(decide ((cnt 0 x1.length) < (x1.length : Int)), false)]) (φ := fun s' => k183s0_0 = .next s') (st' := (sa183s0_0)) (R' := (Ra183s0_0 x0)) mixed lv183s0 26 [false] [] [] 4 [0, 1, 2, 3] s183s0_0 hC trivial ⟨(cnt_end hl183s0_0), trivial⟩ (by kernel_rfl) (by kernel_rfl) hn183s0_0
    · unfold F183s0_l0 at h
      obtain ⟨y1, h2, h⟩ := bindE h
      obtain ⟨y3, h4, h⟩ := bindE h
      obtain ⟨y5, h6, h⟩ := bindE h
      obtain ⟨y7, h8, h⟩ := bindE h
      exact WI_end (bs := [(decide ((cnt 0 i183s0_0) < (x1.length : Int)), true)]) (φ := fun s' => k183s0_0b = .next s') (st' := (st183s0_0 x1 (i183s0_0 + 1))) (R' := (R183s0_0 x0 x2 (i183s0_0 + 1))) mixed lv183s0 33 [true] [.row (x1.map pI) (cnt 0 i183s0_0) (pI x183s0_0), .row (s183s0_0.map api_Running.ps) x183s0_0 (api_Running.ps y1), .upd (s183s0_0.map api_Running.ps) (Int.toNat x183s0_0) (api_Running.ps y1) (api_Running.ps (⟨y1.State, y1.Since, x2.Frequency, y1.Phase⟩ : api_Running)) (y3.map api_Running.ps), .row (y3.map api_Running.ps) x183s0_0 (api_Running.ps y5), .upd (y3.map api_Running.ps) (Int.toNat x183s0_0) (api_Running.ps y5) (api_Running.ps (⟨y5.State, y5.Since, y5.Frequency, x2.Phase⟩ : api_Running)) (y7.map api_Running.ps)] [] 4 [0, 1, 2, 3, 4, 5] y7 hC ⟨(row_cnt hx183s0_0 hl183s0_0), row_get h2, upd_get h2 h4, row_get h6, upd_get h6 h8, trivial⟩ ⟨(cnt_lt hi183s0_0 hl183s0_0), trivial⟩ (by kernel_rfl) (by kernel_rfl) (Option.some.inj h).symm
  · have h := hnext183s0_0 _ hs183s0_0
    replace h := Option.some.inj h
    subst h
    exact WI_endF (bs := []) mixed lv183s0 20 [] [] [] [] 4 [0, 1, 2, 3] rfl hC trivial trivial (by kernel_rfl) (by kernel_rfl)
theorem e183s0 : Enters Tryz.prog 183 := Go.SL.enters_of Tryz.func183 (by kernel_rfl) (by kernel_rfl)
theorem k136s0 (x0 : api_Breaker) (x1 : Int) (r : Bool) (h : F136s0 x0 x1 = r) : CallOk Tryz.prog 136 [.agg [I x0.Kind, I x0.A, I x0.B], .d (.ip [.v (.int .i64 x1)])] [] (.d (Bo r)) [] := by
  unfold F136s0 at h
  refine callOk_of 13 Tryz.func136 rfl rfl rfl fun C hC => ?_
  subst h
  exact WI_ret (bs := []) mixed [0, 1, 2, 3] 25 [] [] [] [.tmp 3] 0 [] rfl hC trivial trivial (by kernel_rfl)
theorem e136s0 : Enters Tryz.prog 136 := Go.SL.enters_of Tryz.func136 (by kernel_rfl) (by kernel_rfl)
theorem k147s1 (x0 : restore_worker) (x1 : Int) (x2 : Int) (r : Int × restore_worker) (h : F147s1 x0 x1 x2 = some r) : CallOk Tryz.prog 147 [.d (.o 0 0), .d (I x1), .d (I x2)] [.box 130 [I x0.board.Buses, DS api_Breaker.ps x0.board.Breakers, DS api_Source.ps x0.board.Sources, DS api_Consumer.ps x0.board.Consumers, I x0.board.Phase, I x0.board.Frequency, .os 1, .os 2, .os 3, .os 4, I x0.time], .sl 4 1 (x0.power.Closed.map pB), .sl 59 4 (x0.power.Sources.map api_Running.ps), .sl 3 1 (x0.power.Limits.map pI), .sl 119 2 (x0.power.Broken.map api_Part.ps)] (.d (I r.1)) [.box 130 [I r.2.board.Buses, DS api_Breaker.ps r.2.board.Breakers, DS api_Source.ps r.2.board.Sources, DS api_Consumer.ps r.2.board.Consumers, I r.2.board.Phase, I r.2.board.Frequency, .os 1, .os 2, .os 3, .os 4, I r.2.time], .sl 4 1 (r.2.power.Closed.map pB), .sl 59 4 (r.2.power.Sources.map api_Running.ps), .sl 3 1 (r.2.power.Limits.map pI), .sl 119 2 (r.2.power.Broken.map api_Part.ps)] := by
  unfold F147s1 at h
  refine callOk_of 30 Tryz.func147 rfl rfl rfl fun C hC => ?_
  obtain ⟨y1, h2, h⟩ := bindE h
  rcases boolC ((c147s1_0 x2 y1)) with h3 | h3
  · replace h := condT h3 h
    replace h := Option.some.inj h
    subst h
    exact WI_ret (bs := [((c147s1_0 x2 y1), true)]) mixed [0, 1, 2, 6, 21] 29 [true] [.when [(decide (x2 < 0), false)] (.row (x0.board.Consumers.map api_Consumer.ps) x1 (api_Consumer.ps y1))] [] [.tmp 6] 5 [0, 1, 2, 3, 4] rfl hC ⟨fun hg => row_get (guardO_get h2 hg), trivial⟩ ⟨h3, trivial⟩ (by kernel_rfl)
  · replace h := condF h3 h
    obtain ⟨y4, h5, h⟩ := bindE h
    obtain ⟨y6, h7, h⟩ := bindE h
    replace h := Option.some.inj h
    subst h
    exact WI_ret (bs := [((c147s1_0 x2 y1), false)]) mixed [0, 1, 2, 6, 21] 32 [false] [.when [(decide (x2 < 0), false)] (.row (x0.board.Consumers.map api_Consumer.ps) x1 (api_Consumer.ps y1)), .row (x0.power.Limits.map pI) x1 (pI y4), .upd (x0.power.Limits.map pI) (Int.toNat x1) (pI y4) (pI x2) (y6.map pI)] [] [.tmp 6] 5 [0, 1, 2, 3, 4] rfl hC ⟨fun hg => row_get (guardO_get h2 hg), row_get h5, upd_get h5 h7, trivial⟩ ⟨h3, trivial⟩ (by kernel_rfl)
theorem e147s1 : Enters Tryz.prog 147 := Go.SL.enters_of Tryz.func147 (by kernel_rfl) (by kernel_rfl)
theorem k219 (x0 : api_Part) (x1 : api_Part) (r : Int) (h : F219 x0 x1 = r) : CallOk Tryz.prog 219 [.agg [I x0.Kind, I x0.Number], .agg [I x1.Kind, I x1.Number]] [] (.d (I r)) [] := by
  unfold F219 at h
  refine callOk_of 20 Tryz.func219 rfl rfl rfl fun C hC => ?_
  rcases boolC ((x0.Kind != x1.Kind)) with h1 | h1
  · replace h := condT h1 h
    subst h
    exact WI_ret (bs := [((x0.Kind != x1.Kind), true)]) mixed [0, 1, 2, 3, 4, 9] 29 [true] [] [] [.tmp 4] 0 [] rfl hC trivial ⟨h1, trivial⟩ (by kernel_rfl)
  · replace h := condF h1 h
    subst h
    exact WI_ret (bs := [((x0.Kind != x1.Kind), false)]) mixed [0, 1, 2, 3, 4, 9] 30 [false] [] [] [.tmp 4] 0 [] rfl hC trivial ⟨h1, trivial⟩ (by kernel_rfl)
theorem e219 : Enters Tryz.prog 219 := Go.SL.enters_of Tryz.func219 (by kernel_rfl) (by kernel_rfl)
def lv220s0 : List Nat := [0, 1, 2, 6, 7, 8, 9, 16, 22, 31, 68]
theorem k220s0 (x0 : List api_Part) (x1 : Int) (x2 : List api_Part) (r : (List api_Part)) (h : F220s0 x0 x1 x2 = some r) : CallOk Tryz.prog 220 [.d (.os 0), .d (I x1), .d (DS api_Part.ps x2)] [.sl 119 2 (x0.map api_Part.ps)] (.d (.os 1)) [.non, .sl 119 2 (r.map api_Part.ps)] := by
  unfold F220s0 at h
  refine callOk_of 95 Tryz.func220 rfl rfl rfl fun C hC => ?_
  obtain ⟨u2, h1, h⟩ := bindE h
  rcases boolC (((x2.length : Int) == 0)) with h3 | h3
  · replace h := condT h3 h
    replace h := Option.some.inj h
    subst h
    exact WI_ret (bs := [(((x2.length : Int) == 0), true)]) mixed lv220s0 33 [true] [.bnd (x0.map api_Part.ps).length x1 (((x0.map api_Part.ps).length : Nat) : Int) (x0.length : Int), .len ((x2.map api_Part.ps).length : Int) (x2.length : Int)] [.mv 0] [.tmp 6] 1 [0, 1] rfl hC ⟨bnd_get (by simp) (by simp) h1, len_map _ _, trivial⟩ ⟨h3, trivial⟩ (by kernel_rfl)
  · replace h := condF h3 h
    refine WI_stop (bs := [(((x2.length : Int) == 0), false)]) mixed lv220s0 37 [false] [.bnd (x0.map api_Part.ps).length x1 (((x0.map api_Part.ps).length : Nat) : Int) (x0.length : Int), .len ((x2.map api_Part.ps).length : Int) (x2.length : Int), .len ((x0.map api_Part.ps).length : Int) (x0.length : Int)] [] 1 [0] [(0, .d (.os 0)), (1, .d (I x1)), (2, .d (DS api_Part.ps x2)), (6, .d (DS api_Part.ps [])), (7, .d (I (x2.length : Int))), (8, .d (I (x0.length : Int))), (22, .d (Bo (x1 == (x0.length : Int))))] [.sl 119 2 (x0.map api_Part.ps)] hC ⟨bnd_get (by simp) (by simp) h1, len_map _ _, len_map _ _, trivial⟩ ⟨h3, trivial⟩ (by kernel_rfl) ?_
    rcases boolC ((x1 == (x0.length : Int))) with h4 | h4
    · replace h := condT h4 h
      obtain ⟨y5, h6, h⟩ := bindE h
      replace h := Option.some.inj h
      subst h
      exact WI_ret (bs := [((x1 == (x0.length : Int)), true)]) mixed lv220s0 24 [true] [.app (x0.map api_Part.ps) (x2.map api_Part.ps) 2 (((x0.map api_Part.ps).length + (x2.map api_Part.ps).length) * (16 + 1)) (y5.map api_Part.ps)] [] [.tmp 6] 1 [0, 1] rfl hC ⟨app_get api_Part.ps 2 (fun _ => rfl) h6, trivial⟩ ⟨h4, trivial⟩ (by kernel_rfl)
    · replace h := condF h4 h
      cases h
theorem e220s0 : Enters Tryz.prog 220 := Go.SL.enters_of Tryz.func220 (by kernel_rfl) (by kernel_rfl)
theorem k221s0 (x0 : List api_Part) (x1 : Int) (x2 : Int) (r : (List api_Part)) (h : F221s0 x0 x1 x2 = some r) : CallOk Tryz.prog 221 [.d (.os 0), .d (I x1), .d (I x2)] [.sl 119 2 (x0.map api_Part.ps)] (.d (.os 1)) [.non, .sl 119 2 (r.map api_Part.ps)] := by
  unfold F221s0 at h
  refine callOk_of 33 Tryz.func221 rfl rfl rfl fun C hC => ?_
  obtain ⟨u2, h1, h⟩ := bindE h
  rcases boolC ((x1 == x2)) with h3 | h3
  · replace h := condT h3 h
    replace h := Option.some.inj h
    subst h
    exact WI_ret (bs := [((x1 == x2), true)]) mixed [0, 1, 2, 6, 7, 16] 31 [true] [.len ((x0.map api_Part.ps).length : Int) (x0.length : Int), .bnd3 (x0.map api_Part.ps).length x1 x2 (x0.length : Int)] [.mv 0] [.tmp 6] 1 [0, 1] rfl hC ⟨len_map _ _, bnd3_get (by simp) h1, trivial⟩ ⟨h3, trivial⟩ (by kernel_rfl)
  · replace h := condF h3 h
    obtain ⟨u5, h4, h⟩ := bindE h
    obtain ⟨u7, h6, h⟩ := bindE h
    obtain ⟨y8, h9, h⟩ := bindE h
    obtain ⟨u11, h10, h⟩ := bindE h
    replace h := Option.some.inj h
    subst h
    (rw [List.map_take]; exact WI_ret (bs := [((x1 == x2), false)]) mixed [0, 1, 2, 6, 7, 16] 38 [false] [.len ((x0.map api_Part.ps).length : Int) (x0.length : Int), .bnd3 (x0.map api_Part.ps).length x1 x2 (x0.length : Int), .len ((x0.map api_Part.ps).length : Int) (x0.length : Int), .bnd (x0.map api_Part.ps).length 0 x1 x1, .bnd (x0.map api_Part.ps).length x2 (((x0.map api_Part.ps).length : Nat) : Int) (x0.length : Int), .appP (x0.map api_Part.ps) (((x0.map api_Part.ps).drop (Int.toNat x2)).take ((Int.toNat (x0.length : Int)) - (Int.toNat x2))) 2 ((Int.toNat x1) - 0) (((Int.toNat x1) - 0) + ((x0.drop (Int.toNat x2)).take ((Int.toNat (x0.length : Int)) - (Int.toNat x2))).length) ((x0.map api_Part.ps).take ((Int.toNat x1) - 0) ++ ((((x0.map api_Part.ps).drop (Int.toNat x2)).take ((Int.toNat (x0.length : Int)) - (Int.toNat x2))) ++ (x0.map api_Part.ps).drop (((Int.toNat x1) - 0) + (((x0.map api_Part.ps).drop (Int.toNat x2)).take ((Int.toNat (x0.length : Int)) - (Int.toNat x2))).length))) (y8.map api_Part.ps), .len (((((Int.toNat x1) - 0) + ((x0.drop (Int.toNat x2)).take ((Int.toNat (x0.length : Int)) - (Int.toNat x2))).length) : Nat) : Int) (((((Int.toNat x1) - 0) + ((x0.drop (Int.toNat x2)).take ((Int.toNat (x0.length : Int)) - (Int.toNat x2))).length) : Nat) : Int), .bnd ((y8.map api_Part.ps).length - 0) (((((Int.toNat x1) - 0) + ((x0.drop (Int.toNat x2)).take ((Int.toNat (x0.length : Int)) - (Int.toNat x2))).length) : Nat) : Int) (x0.length : Int) (x0.length : Int), .eqr ((y8.map api_Part.ps).take (0 + (Int.toNat (((((Int.toNat x1) - 0) + ((x0.drop (Int.toNat x2)).take ((Int.toNat (x0.length : Int)) - (Int.toNat x2))).length) : Nat) : Int))) ++ (List.replicate ((Int.toNat (x0.length : Int)) - (Int.toNat (((((Int.toNat x1) - 0) + ((x0.drop (Int.toNat x2)).take ((Int.toNat (x0.length : Int)) - (Int.toNat x2))).length) : Nat) : Int))) (api_Part.ps (⟨0, 0⟩ : api_Part)) ++ (y8.map api_Part.ps).drop ((0 + (Int.toNat (((((Int.toNat x1) - 0) + ((x0.drop (Int.toNat x2)).take ((Int.toNat (x0.length : Int)) - (Int.toNat x2))).length) : Nat) : Int))) + ((Int.toNat (x0.length : Int)) - (Int.toNat (((((Int.toNat x1) - 0) + ((x0.drop (Int.toNat x2)).take ((Int.toNat (x0.length : Int)) - (Int.toNat x2))).length) : Nat) : Int)))))) ((clrI y8 (0 + (Int.toNat (((((Int.toNat x1) - 0) + ((x0.drop (Int.toNat x2)).take ((Int.toNat (x0.length : Int)) - (Int.toNat x2))).length) : Nat) : Int))) ((Int.toNat (x0.length : Int)) - (Int.toNat (((((Int.toNat x1) - 0) + ((x0.drop (Int.toNat x2)).take ((Int.toNat (x0.length : Int)) - (Int.toNat x2))).length) : Nat) : Int))) (⟨0, 0⟩ : api_Part)).map api_Part.ps)] [.trunc 6] [.tmp 6] 1 [0, 1] rfl hC ⟨len_map _ _, bnd3_get (by simp) h1, len_map _ _, bnd_get (by simp) rfl h4, bnd_get (by simp) (by simp) h6, appP_get api_Part.ps 2 (fun _ => rfl) (part_map _ _ _ _) h9, rfl, bnd_get (by simp) rfl h10, clr_get api_Part.ps rfl, trivial⟩ ⟨h3, trivial⟩ (by kernel_rfl))
theorem e221s0 : Enters Tryz.prog 221 := Go.SL.enters_of Tryz.func221 (by kernel_rfl) (by kernel_rfl)
theorem k255s1 (x0 : shed_relief) (x1 : Int) (r : shed_relief) (h : F255s1 x0 x1 = some r) : CallOk Tryz.prog 255 [.d (.o 0 0), .d (I x1)] [.box 244 [I x0.board.Buses, DS api_Breaker.ps x0.board.Breakers, DS api_Source.ps x0.board.Sources, DS api_Consumer.ps x0.board.Consumers, I x0.board.Phase, I x0.board.Frequency, .os 1, .os 2, .os 3, .os 4, .os 5], .sl 4 1 (x0.power.Closed.map pB), .sl 59 4 (x0.power.Sources.map api_Running.ps), .sl 3 1 (x0.power.Limits.map pI), .sl 119 2 (x0.power.Broken.map api_Part.ps), .sl 42 3 (x0.acts.map api_Act.ps)] (.tup []) [.box 244 [I r.board.Buses, DS api_Breaker.ps r.board.Breakers, DS api_Source.ps r.board.Sources, DS api_Consumer.ps r.board.Consumers, I r.board.Phase, I r.board.Frequency, .os 1, .os 2, .os 3, .os 4, .os 6], .sl 4 1 (r.power.Closed.map pB), .sl 59 4 (r.power.Sources.map api_Running.ps), .sl 3 1 (r.power.Limits.map pI), .sl 119 2 (r.power.Broken.map api_Part.ps), .non, .sl 42 3 (r.acts.map api_Act.ps)] := by
  unfold F255s1 at h
  refine callOk_of 22 Tryz.func255 rfl rfl rfl fun C hC => ?_
  obtain ⟨y1, h2, h⟩ := bindE h
  obtain ⟨y3, h4, h⟩ := bindE h
  obtain ⟨y5, h6, h⟩ := bindE h
  replace h := Option.some.inj h
  subst h
  exact WI_endF (bs := []) mixed [0, 1] 23 [] [.row (x0.power.Closed.map pB) x1 (pB y1), .upd (x0.power.Closed.map pB) (Int.toNat x1) (pB y1) (pB false) (y3.map pB), .app (x0.acts.map api_Act.ps) ([(⟨2, x1, 0⟩ : api_Act)].map api_Act.ps) 3 (((x0.acts.map api_Act.ps).length + ([(⟨2, x1, 0⟩ : api_Act)].map api_Act.ps).length) * (24 + 1)) (y5.map api_Act.ps)] [] [] 6 [0, 1, 2, 3, 4, 5, 6] rfl hC ⟨row_get h2, upd_get h2 h4, app_get api_Act.ps 3 (fun _ => rfl) h6, trivial⟩ trivial (by kernel_rfl) (by kernel_rfl)
theorem e255s1 : Enters Tryz.prog 255 := Go.SL.enters_of Tryz.func255 (by kernel_rfl) (by kernel_rfl)
def st283s1_0 (x1 : Int) (x2 : Int) (x3 : Int) (s283s1_0 : Int × (List Int)) : St := [(0, .d (.os 0)), (1, .d (I x1)), (2, .d (I x2)), (3, .d (I x3)), (10, .d (I s283s1_0.1))]
def R283s1_0 (x4c0 : api_Board) (s283s1_0 : Int × (List Int)) : List Res := [.sl 3 1 (s283s1_0.2.map pI), .box 29 [I x4c0.Buses, DS api_Breaker.ps x4c0.Breakers, DS api_Source.ps x4c0.Sources, DS api_Consumer.ps x4c0.Consumers, I x4c0.Phase, I x4c0.Frequency]]
def sa283s1_0  (s283s1_0 : Int × (List Int)) : St := []
def Ra283s1_0 (x4c0 : api_Board) (s283s1_0 : Int × (List Int)) : List Res := [.sl 3 1 (s283s1_0.2.map pI), .box 29 [I x4c0.Buses, DS api_Breaker.ps x4c0.Breakers, DS api_Source.ps x4c0.Sources, DS api_Consumer.ps x4c0.Consumers, I x4c0.Phase, I x4c0.Frequency]]
theorem k283s1 (x0 : List Int) (x1 : Int) (x2 : Int) (x3 : Int) (x4c0 : api_Board) (r : (List Int) × api_Board) (h : F283s1 x0 x1 x2 x3 x4c0 = some r) : CallOk Tryz.prog 283 [.d (.os 0), .d (I x1), .d (I x2), .d (I x3), .d (.fn (.func 231) [] [.o 1 0])] [.sl 3 1 (x0.map pI), .box 29 [I x4c0.Buses, DS api_Breaker.ps x4c0.Breakers, DS api_Source.ps x4c0.Sources, DS api_Consumer.ps x4c0.Consumers, I x4c0.Phase, I x4c0.Frequency]] (.tup []) [.sl 3 1 (r.1.map pI), .box 29 [I r.2.Buses, DS api_Breaker.ps r.2.Breakers, DS api_Source.ps r.2.Sources, DS api_Consumer.ps r.2.Consumers, I r.2.Phase, I r.2.Frequency]] := by
  unfold F283s1 at h
  refine callOk_of 38 Tryz.func283 rfl rfl rfl fun C hC => ?_
  refine WI_stop (bs := []) mixed [0, 1, 2, 3, 10, 13] 23 [] [] [] 2 [0, 1] (st283s1_0 x1 x2 x3 (0, x0)) (R283s1_0 x4c0 (0, x0)) hC trivial trivial (by kernel_rfl) ?_
  obtain ⟨k283s1_0, hm283s1_0, hret283s1_0, hnext283s1_0⟩ := andThen_inv h
  clear h
  refine WI_cut (by kernel_rfl) (fun s => k283s1_0 = .next s) (sa283s1_0) (Ra283s1_0 x4c0) ?_ fun s283s1_0 hs283s1_0 => ?_
  · refine WI_blk (by kernel_rfl) ?_
    refine WI_while (by kernel_rfl) (F283s1_l0 x1 x2 x3) (st283s1_0 x1 x2 x3) (R283s1_0 x4c0) k283s1_0 1152921504606846976 (0, x0) hm283s1_0 rfl rfl fun s283s1_0 k283s1_0b h hb283s1_0 hr283s1_0 => ?_
    unfold F283s1_l0 at h
    rcases boolC (decide (s283s1_0.1 < x3)) with h1 | h1
    · replace h := condT h1 h
      obtain ⟨y2, h3, h⟩ := bindE h
      obtain ⟨y4, h5, h⟩ := bindE h
      obtain ⟨y6, h7, h⟩ := bindE h
      obtain ⟨y8, h9, h⟩ := bindE h
      obtain ⟨y10, h11, h⟩ := bindE h
      exact WI_end (bs := [(decide (s283s1_0.1 < x3), true)]) (φ := fun s' => k283s1_0b = .next s') (st' := (st283s1_0 x1 x2 x3)) (R' := (R283s1_0 x4c0)) mixed [0, 1, 2, 3, 10, 13] 31 [true] [.row (s283s1_0.2.map pI) (w64 (x2 + s283s1_0.1)) (pI y2), .row (s283s1_0.2.map pI) (((Int.toNat (w64 (x2 + s283s1_0.1))) : Nat) : Int) (pI y2), .row (s283s1_0.2.map pI) (w64 (x1 + s283s1_0.1)) (pI y4), .row (s283s1_0.2.map pI) (((Int.toNat (w64 (x1 + s283s1_0.1))) : Nat) : Int) (pI y4), .row (s283s1_0.2.map pI) (w64 (x1 + s283s1_0.1)) (pI y4), .upd (s283s1_0.2.map pI) (Int.toNat (w64 (x1 + s283s1_0.1))) (pI y4) (pI y2) (y6.map pI), .row (y6.map pI) (w64 (x2 + s283s1_0.1)) (pI y8), .upd (y6.map pI) (Int.toNat (w64 (x2 + s283s1_0.1))) (pI y8) (pI y4) (y10.map pI)] [] 2 [0, 1] (w64 (s283s1_0.1 + 1), y10) hC ⟨row_get h3, row_getN h3, row_get h5, row_getN h5, row_get h5, upd_get h5 h7, row_get h9, upd_get h9 h11, trivial⟩ ⟨h1, trivial⟩ (by kernel_rfl) (by kernel_rfl) (Option.some.inj h).symm
    · replace h := condF h1 h
      exact WI_end (bs := [(decide (s283s1_0.1 < x3), false)]) (φ := fun s' => k283s1_0 = .next s') (st' := (sa283s1_0)) (R' := (Ra283s1_0 x4c0)) mixed [0, 1, 2, 3, 10, 13] 26 [false] [] [] 2 [0, 1] (s283s1_0.1, s283s1_0.2) hC trivial ⟨h1, trivial⟩ (by kernel_rfl) (by kernel_rfl) (hb283s1_0 _ (Option.some.inj h).symm)
  · have h := hnext283s1_0 _ hs283s1_0
    replace h := Option.some.inj h
    subst h
    exact WI_endF (bs := []) mixed [0, 1, 2, 3, 10, 13] 20 [] [] [] [] 2 [0, 1] rfl hC trivial trivial (by kernel_rfl) (by kernel_rfl)
theorem e283s1 : Enters Tryz.prog 283 := Go.SL.enters_of Tryz.func283 (by kernel_rfl) (by kernel_rfl)
theorem k258s0 (x0 : api_Breaker) (x1 : Int) (r : Bool) (h : F258s0 x0 x1 = r) : CallOk Tryz.prog 258 [.agg [I x0.Kind, I x0.A, I x0.B], .d (.ip [.v (.int .i64 x1)])] [] (.d (Bo r)) [] := by
  unfold F258s0 at h
  refine callOk_of 13 Tryz.func258 rfl rfl rfl fun C hC => ?_
  subst h
  exact WI_ret (bs := []) mixed [0, 1, 2, 3] 25 [] [] [] [.tmp 3] 0 [] rfl hC trivial trivial (by kernel_rfl)
theorem e258s0 : Enters Tryz.prog 258 := Go.SL.enters_of Tryz.func258 (by kernel_rfl) (by kernel_rfl)
def lv159 : List Nat := [0, 1, 4, 5, 10, 12, 13, 14, 24]
def st159_0 (x0 : List Bool) (x1 : List Bool) (i159_0 : Nat) (s159_0 : Unit) : St := [(0, .d (DS pB x0)), (1, .d (DS pB x1)), (4, .d (Bo false)), (12, .d (I (x0.length : Int))), (13, .d (I (cnt 0 i159_0)))]
def R159_0  (i159_0 : Nat) (s159_0 : Unit) : List Res := []
def sa159_0  (s159_0 : Unit) : St := [(4, .d (Bo false))]
def Ra159_0  (s159_0 : Unit) : List Res := []
theorem k159 (x0 : List Bool) (x1 : List Bool) (r : Bool) (h : F159 x0 x1 = some r) : CallOk Tryz.prog 159 [.d (DS pB x0), .d (DS pB x1)] [] (.d (Bo r)) [] := by
  unfold F159 at h
  refine callOk_of 26 Tryz.func159 rfl rfl rfl fun C hC => ?_
  rcases boolC (((x0.length : Int) != (x1.length : Int))) with h1 | h1
  · replace h := condT h1 h
    replace h := Option.some.inj h
    subst h
    exact WI_ret (bs := [(((x0.length : Int) != (x1.length : Int)), true)]) mixed lv159 29 [true] [.len ((x0.map pB).length : Int) (x0.length : Int), .len ((x1.map pB).length : Int) (x1.length : Int)] [] [.tmp 4] 0 [] rfl hC ⟨len_map _ _, len_map _ _, trivial⟩ ⟨h1, trivial⟩ (by kernel_rfl)
  · replace h := condF h1 h
    refine WI_stop (bs := [(((x0.length : Int) != (x1.length : Int)), false)]) mixed lv159 31 [false] [.len ((x0.map pB).length : Int) (x0.length : Int), .len ((x1.map pB).length : Int) (x1.length : Int), .len ((x0.map pB).length : Int) (x0.length : Int)] [] 0 [] (st159_0 x0 x1 0 ()) (R159_0 0 ()) hC ⟨len_map _ _, len_map _ _, len_map _ _, trivial⟩ ⟨h1, trivial⟩ (by kernel_rfl) ?_
    obtain ⟨k159_0, hm159_0, hret159_0, hnext159_0⟩ := andThen_inv h
    clear h
    refine WI_cut (by kernel_rfl) (fun s => k159_0 = .next s) (sa159_0) (Ra159_0) ?_ fun s159_0 hs159_0 => ?_
    · refine WI_blk (by kernel_rfl) ?_
      refine WI_len 0 rfl fun hl159_0 => ?_
      refine WI_foldI (by kernel_rfl) (F159_l0 x1) (st159_0 x0 x1) (R159_0) k159_0 x0 () hm159_0 rfl rfl (fun s159_0 hn159_0 => ?_) fun i159_0 x159_0 s159_0 k159_0b hi159_0 hx159_0 h hb159_0 hr159_0 => ?_
      · clear hm159_0
        exact WI_end (bs := [(decide ((cnt 0 x0.length) < (x0.length : Int)), false)]) (φ := fun s' => k159_0 = .next s') (st' := (sa159_0)) (R' := (Ra159_0)) mixed lv159 26 [false] [] [] 0 [] () hC trivial ⟨(cnt_end hl159_0), trivial⟩ (by kernel_rfl) (by kernel_rfl) hn159_0
      · unfold F159_l0 at h
        obtain ⟨y2, h3, h⟩ := bindE h
        rcases boolC (!(x159_0 == y2)) with h4 | h4
        · replace h := condT h4 h
          have hq := hret159_0 _ (hr159_0 _ (Option.some.inj h).symm)
          replace hq := Option.some.inj hq
          subst hq
          exact WI_ret (bs := [(decide ((cnt 0 i159_0) < (x0.length : Int)), true), (!(x159_0 == y2), true)]) mixed lv159 35 [true, true] [.row (x0.map pB) (cnt 0 i159_0) (pB x159_0), .row (x1.map pB) (cnt 0 i159_0) (pB y2)] [] [.tmp 4] 0 [] rfl hC ⟨(row_cnt hx159_0 hl159_0), row_get h3, trivial⟩ ⟨(cnt_lt hi159_0 hl159_0), h4, trivial⟩ (by kernel_rfl)
        · replace h := condF h4 h
          exact WI_end (bs := [(decide ((cnt 0 i159_0) < (x0.length : Int)), true), (!(x159_0 == y2), false)]) (φ := fun s' => k159_0b = .next s') (st' := (st159_0 x0 x1 (i159_0 + 1))) (R' := (R159_0 (i159_0 + 1))) mixed lv159 36 [true, false] [.row (x0.map pB) (cnt 0 i159_0) (pB x159_0), .row (x1.map pB) (cnt 0 i159_0) (pB y2)] [] 0 [] () hC ⟨(row_cnt hx159_0 hl159_0), row_get h3, trivial⟩ ⟨(cnt_lt hi159_0 hl159_0), h4, trivial⟩ (by kernel_rfl) (by kernel_rfl) (Option.some.inj h).symm
    · have h := hnext159_0 _ hs159_0
      replace h := Option.some.inj h
      subst h
      exact WI_ret (bs := []) mixed lv159 23 [] [] [] [.tmp 4] 0 [] rfl hC trivial trivial (by kernel_rfl)
theorem e159 : Enters Tryz.prog 159 := Go.SL.enters_of Tryz.func159 (by kernel_rfl) (by kernel_rfl)
def lv160 : List Nat := [0, 1, 4, 5, 10, 12, 13, 14, 24]
def st160_0 (x0 : List api_Running) (x1 : List api_Running) (i160_0 : Nat) (s160_0 : Unit) : St := [(0, .d (DS api_Running.ps x0)), (1, .d (DS api_Running.ps x1)), (4, .d (Bo false)), (12, .d (I (x0.length : Int))), (13, .d (I (cnt 0 i160_0)))]
def R160_0  (i160_0 : Nat) (s160_0 : Unit) : List Res := []
def sa160_0  (s160_0 : Unit) : St := [(4, .d (Bo false))]
def Ra160_0  (s160_0 : Unit) : List Res := []
theorem k160 (x0 : List api_Running) (x1 : List api_Running) (r : Bool) (h : F160 x0 x1 = some r) : CallOk Tryz.prog 160 [.d (DS api_Running.ps x0), .d (DS api_Running.ps x1)] [] (.d (Bo r)) [] := by
  unfold F160 at h
  refine callOk_of 26 Tryz.func160 rfl rfl rfl fun C hC => ?_
  rcases boolC (((x0.length : Int) != (x1.length : Int))) with h1 | h1
  · replace h := condT h1 h
    replace h := Option.some.inj h
    subst h
    exact WI_ret (bs := [(((x0.length : Int) != (x1.length : Int)), true)]) mixed lv160 29 [true] [.len ((x0.map api_Running.ps).length : Int) (x0.length : Int), .len ((x1.map api_Running.ps).length : Int) (x1.length : Int)] [] [.tmp 4] 0 [] rfl hC ⟨len_map _ _, len_map _ _, trivial⟩ ⟨h1, trivial⟩ (by kernel_rfl)
  · replace h := condF h1 h
    refine WI_stop (bs := [(((x0.length : Int) != (x1.length : Int)), false)]) mixed lv160 31 [false] [.len ((x0.map api_Running.ps).length : Int) (x0.length : Int), .len ((x1.map api_Running.ps).length : Int) (x1.length : Int), .len ((x0.map api_Running.ps).length : Int) (x0.length : Int)] [] 0 [] (st160_0 x0 x1 0 ()) (R160_0 0 ()) hC ⟨len_map _ _, len_map _ _, len_map _ _, trivial⟩ ⟨h1, trivial⟩ (by kernel_rfl) ?_
    obtain ⟨k160_0, hm160_0, hret160_0, hnext160_0⟩ := andThen_inv h
    clear h
    refine WI_cut (by kernel_rfl) (fun s => k160_0 = .next s) (sa160_0) (Ra160_0) ?_ fun s160_0 hs160_0 => ?_
    · refine WI_blk (by kernel_rfl) ?_
      refine WI_len 0 rfl fun hl160_0 => ?_
      refine WI_foldI (by kernel_rfl) (F160_l0 x1) (st160_0 x0 x1) (R160_0) k160_0 x0 () hm160_0 rfl rfl (fun s160_0 hn160_0 => ?_) fun i160_0 x160_0 s160_0 k160_0b hi160_0 hx160_0 h hb160_0 hr160_0 => ?_
      · clear hm160_0
        exact WI_end (bs := [(decide ((cnt 0 x0.length) < (x0.length : Int)), false)]) (φ := fun s' => k160_0 = .next s') (st' := (sa160_0)) (R' := (Ra160_0)) mixed lv160 26 [false] [] [] 0 [] () hC trivial ⟨(cnt_end hl160_0), trivial⟩ (by kernel_rfl) (by kernel_rfl) hn160_0
      · unfold F160_l0 at h
        obtain ⟨y2, h3, h⟩ := bindE h
        rcases boolC ((c160_1 x160_0 y2)) with h4 | h4
        · replace h := condT h4 h
          have hq := hret160_0 _ (hr160_0 _ (Option.some.inj h).symm)
          replace hq := Option.some.inj hq
          subst hq
          exact WI_ret (bs := [(decide ((cnt 0 i160_0) < (x0.length : Int)), true), ((c160_1 x160_0 y2), true)]) mixed lv160 35 [true, true] [.row (x0.map api_Running.ps) (cnt 0 i160_0) (api_Running.ps x160_0), .row (x1.map api_Running.ps) (cnt 0 i160_0) (api_Running.ps y2)] [] [.tmp 4] 0 [] rfl hC ⟨(row_cnt hx160_0 hl160_0), row_get h3, trivial⟩ ⟨(cnt_lt hi160_0 hl160_0), h4, trivial⟩ (by kernel_rfl)
        · replace h := condF h4 h
          exact WI_end (bs := [(decide ((cnt 0 i160_0) < (x0.length : Int)), true), ((c160_1 x160_0 y2), false)]) (φ := fun s' => k160_0b = .next s') (st' := (st160_0 x0 x1 (i160_0 + 1))) (R' := (R160_0 (i160_0 + 1))) mixed lv160 36 [true, false] [.row (x0.map api_Running.ps) (cnt 0 i160_0) (api_Running.ps x160_0), .row (x1.map api_Running.ps) (cnt 0 i160_0) (api_Running.ps y2)] [] 0 [] () hC ⟨(row_cnt hx160_0 hl160_0), row_get h3, trivial⟩ ⟨(cnt_lt hi160_0 hl160_0), h4, trivial⟩ (by kernel_rfl) (by kernel_rfl) (Option.some.inj h).symm
    · have h := hnext160_0 _ hs160_0
      replace h := Option.some.inj h
      subst h
      exact WI_ret (bs := []) mixed lv160 23 [] [] [] [.tmp 4] 0 [] rfl hC trivial trivial (by kernel_rfl)
theorem e160 : Enters Tryz.prog 160 := Go.SL.enters_of Tryz.func160 (by kernel_rfl) (by kernel_rfl)
def lv161 : List Nat := [0, 1, 4, 5, 10, 12, 13, 14, 24]
def st161_0 (x0 : List Int) (x1 : List Int) (i161_0 : Nat) (s161_0 : Unit) : St := [(0, .d (DS pI x0)), (1, .d (DS pI x1)), (4, .d (Bo false)), (12, .d (I (x0.length : Int))), (13, .d (I (cnt 0 i161_0)))]
def R161_0  (i161_0 : Nat) (s161_0 : Unit) : List Res := []
def sa161_0  (s161_0 : Unit) : St := [(4, .d (Bo false))]
def Ra161_0  (s161_0 : Unit) : List Res := []
theorem k161 (x0 : List Int) (x1 : List Int) (r : Bool) (h : F161 x0 x1 = some r) : CallOk Tryz.prog 161 [.d (DS pI x0), .d (DS pI x1)] [] (.d (Bo r)) [] := by
  unfold F161 at h
  refine callOk_of 26 Tryz.func161 rfl rfl rfl fun C hC => ?_
  rcases boolC (((x0.length : Int) != (x1.length : Int))) with h1 | h1
  · replace h := condT h1 h
    replace h := Option.some.inj h
    subst h
    exact WI_ret (bs := [(((x0.length : Int) != (x1.length : Int)), true)]) mixed lv161 29 [true] [.len ((x0.map pI).length : Int) (x0.length : Int), .len ((x1.map pI).length : Int) (x1.length : Int)] [] [.tmp 4] 0 [] rfl hC ⟨len_map _ _, len_map _ _, trivial⟩ ⟨h1, trivial⟩ (by kernel_rfl)
  · replace h := condF h1 h
    refine WI_stop (bs := [(((x0.length : Int) != (x1.length : Int)), false)]) mixed lv161 31 [false] [.len ((x0.map pI).length : Int) (x0.length : Int), .len ((x1.map pI).length : Int) (x1.length : Int), .len ((x0.map pI).length : Int) (x0.length : Int)] [] 0 [] (st161_0 x0 x1 0 ()) (R161_0 0 ()) hC ⟨len_map _ _, len_map _ _, len_map _ _, trivial⟩ ⟨h1, trivial⟩ (by kernel_rfl) ?_
    obtain ⟨k161_0, hm161_0, hret161_0, hnext161_0⟩ := andThen_inv h
    clear h
    refine WI_cut (by kernel_rfl) (fun s => k161_0 = .next s) (sa161_0) (Ra161_0) ?_ fun s161_0 hs161_0 => ?_
    · refine WI_blk (by kernel_rfl) ?_
      refine WI_len 0 rfl fun hl161_0 => ?_
      refine WI_foldI (by kernel_rfl) (F161_l0 x1) (st161_0 x0 x1) (R161_0) k161_0 x0 () hm161_0 rfl rfl (fun s161_0 hn161_0 => ?_) fun i161_0 x161_0 s161_0 k161_0b hi161_0 hx161_0 h hb161_0 hr161_0 => ?_
      · clear hm161_0
        exact WI_end (bs := [(decide ((cnt 0 x0.length) < (x0.length : Int)), false)]) (φ := fun s' => k161_0 = .next s') (st' := (sa161_0)) (R' := (Ra161_0)) mixed lv161 26 [false] [] [] 0 [] () hC trivial ⟨(cnt_end hl161_0), trivial⟩ (by kernel_rfl) (by kernel_rfl) hn161_0
      · unfold F161_l0 at h
        obtain ⟨y2, h3, h⟩ := bindE h
        rcases boolC ((x161_0 != y2)) with h4 | h4
        · replace h := condT h4 h
          have hq := hret161_0 _ (hr161_0 _ (Option.some.inj h).symm)
          replace hq := Option.some.inj hq
          subst hq
          exact WI_ret (bs := [(decide ((cnt 0 i161_0) < (x0.length : Int)), true), ((x161_0 != y2), true)]) mixed lv161 35 [true, true] [.row (x0.map pI) (cnt 0 i161_0) (pI x161_0), .row (x1.map pI) (cnt 0 i161_0) (pI y2)] [] [.tmp 4] 0 [] rfl hC ⟨(row_cnt hx161_0 hl161_0), row_get h3, trivial⟩ ⟨(cnt_lt hi161_0 hl161_0), h4, trivial⟩ (by kernel_rfl)
        · replace h := condF h4 h
          exact WI_end (bs := [(decide ((cnt 0 i161_0) < (x0.length : Int)), true), ((x161_0 != y2), false)]) (φ := fun s' => k161_0b = .next s') (st' := (st161_0 x0 x1 (i161_0 + 1))) (R' := (R161_0 (i161_0 + 1))) mixed lv161 36 [true, false] [.row (x0.map pI) (cnt 0 i161_0) (pI x161_0), .row (x1.map pI) (cnt 0 i161_0) (pI y2)] [] 0 [] () hC ⟨(row_cnt hx161_0 hl161_0), row_get h3, trivial⟩ ⟨(cnt_lt hi161_0 hl161_0), h4, trivial⟩ (by kernel_rfl) (by kernel_rfl) (Option.some.inj h).symm
    · have h := hnext161_0 _ hs161_0
      replace h := Option.some.inj h
      subst h
      exact WI_ret (bs := []) mixed lv161 23 [] [] [] [.tmp 4] 0 [] rfl hC trivial trivial (by kernel_rfl)
theorem e161 : Enters Tryz.prog 161 := Go.SL.enters_of Tryz.func161 (by kernel_rfl) (by kernel_rfl)
def lv162 : List Nat := [0, 1, 4, 5, 10, 12, 13, 14, 24]
def st162_0 (x0 : List api_Part) (x1 : List api_Part) (i162_0 : Nat) (s162_0 : Unit) : St := [(0, .d (DS api_Part.ps x0)), (1, .d (DS api_Part.ps x1)), (4, .d (Bo false)), (12, .d (I (x0.length : Int))), (13, .d (I (cnt 0 i162_0)))]
def R162_0  (i162_0 : Nat) (s162_0 : Unit) : List Res := []
def sa162_0  (s162_0 : Unit) : St := [(4, .d (Bo false))]
def Ra162_0  (s162_0 : Unit) : List Res := []
theorem k162 (x0 : List api_Part) (x1 : List api_Part) (r : Bool) (h : F162 x0 x1 = some r) : CallOk Tryz.prog 162 [.d (DS api_Part.ps x0), .d (DS api_Part.ps x1)] [] (.d (Bo r)) [] := by
  unfold F162 at h
  refine callOk_of 26 Tryz.func162 rfl rfl rfl fun C hC => ?_
  rcases boolC (((x0.length : Int) != (x1.length : Int))) with h1 | h1
  · replace h := condT h1 h
    replace h := Option.some.inj h
    subst h
    exact WI_ret (bs := [(((x0.length : Int) != (x1.length : Int)), true)]) mixed lv162 29 [true] [.len ((x0.map api_Part.ps).length : Int) (x0.length : Int), .len ((x1.map api_Part.ps).length : Int) (x1.length : Int)] [] [.tmp 4] 0 [] rfl hC ⟨len_map _ _, len_map _ _, trivial⟩ ⟨h1, trivial⟩ (by kernel_rfl)
  · replace h := condF h1 h
    refine WI_stop (bs := [(((x0.length : Int) != (x1.length : Int)), false)]) mixed lv162 31 [false] [.len ((x0.map api_Part.ps).length : Int) (x0.length : Int), .len ((x1.map api_Part.ps).length : Int) (x1.length : Int), .len ((x0.map api_Part.ps).length : Int) (x0.length : Int)] [] 0 [] (st162_0 x0 x1 0 ()) (R162_0 0 ()) hC ⟨len_map _ _, len_map _ _, len_map _ _, trivial⟩ ⟨h1, trivial⟩ (by kernel_rfl) ?_
    obtain ⟨k162_0, hm162_0, hret162_0, hnext162_0⟩ := andThen_inv h
    clear h
    refine WI_cut (by kernel_rfl) (fun s => k162_0 = .next s) (sa162_0) (Ra162_0) ?_ fun s162_0 hs162_0 => ?_
    · refine WI_blk (by kernel_rfl) ?_
      refine WI_len 0 rfl fun hl162_0 => ?_
      refine WI_foldI (by kernel_rfl) (F162_l0 x1) (st162_0 x0 x1) (R162_0) k162_0 x0 () hm162_0 rfl rfl (fun s162_0 hn162_0 => ?_) fun i162_0 x162_0 s162_0 k162_0b hi162_0 hx162_0 h hb162_0 hr162_0 => ?_
      · clear hm162_0
        exact WI_end (bs := [(decide ((cnt 0 x0.length) < (x0.length : Int)), false)]) (φ := fun s' => k162_0 = .next s') (st' := (sa162_0)) (R' := (Ra162_0)) mixed lv162 26 [false] [] [] 0 [] () hC trivial ⟨(cnt_end hl162_0), trivial⟩ (by kernel_rfl) (by kernel_rfl) hn162_0
      · unfold F162_l0 at h
        obtain ⟨y2, h3, h⟩ := bindE h
        rcases boolC ((c162_1 x162_0 y2)) with h4 | h4
        · replace h := condT h4 h
          have hq := hret162_0 _ (hr162_0 _ (Option.some.inj h).symm)
          replace hq := Option.some.inj hq
          subst hq
          exact WI_ret (bs := [(decide ((cnt 0 i162_0) < (x0.length : Int)), true), ((c162_1 x162_0 y2), true)]) mixed lv162 35 [true, true] [.row (x0.map api_Part.ps) (cnt 0 i162_0) (api_Part.ps x162_0), .row (x1.map api_Part.ps) (cnt 0 i162_0) (api_Part.ps y2)] [] [.tmp 4] 0 [] rfl hC ⟨(row_cnt hx162_0 hl162_0), row_get h3, trivial⟩ ⟨(cnt_lt hi162_0 hl162_0), h4, trivial⟩ (by kernel_rfl)
        · replace h := condF h4 h
          exact WI_end (bs := [(decide ((cnt 0 i162_0) < (x0.length : Int)), true), ((c162_1 x162_0 y2), false)]) (φ := fun s' => k162_0b = .next s') (st' := (st162_0 x0 x1 (i162_0 + 1))) (R' := (R162_0 (i162_0 + 1))) mixed lv162 36 [true, false] [.row (x0.map api_Part.ps) (cnt 0 i162_0) (api_Part.ps x162_0), .row (x1.map api_Part.ps) (cnt 0 i162_0) (api_Part.ps y2)] [] 0 [] () hC ⟨(row_cnt hx162_0 hl162_0), row_get h3, trivial⟩ ⟨(cnt_lt hi162_0 hl162_0), h4, trivial⟩ (by kernel_rfl) (by kernel_rfl) (Option.some.inj h).symm
    · have h := hnext162_0 _ hs162_0
      replace h := Option.some.inj h
      subst h
      exact WI_ret (bs := []) mixed lv162 23 [] [] [] [.tmp 4] 0 [] rfl hC trivial trivial (by kernel_rfl)
theorem e162 : Enters Tryz.prog 162 := Go.SL.enters_of Tryz.func162 (by kernel_rfl) (by kernel_rfl)
def lv163 : List Nat := [0, 1, 4, 5, 7, 8, 9, 16]
def st163_0 (x0 : List Bool) (x1 : Bool) (i163_0 : Nat) (s163_0 : Unit) : St := [(0, .d (DS pB x0)), (1, .d (Bo x1)), (4, .d (I 0)), (7, .d (I (x0.length : Int))), (8, .d (I (cnt 0 i163_0)))]
def R163_0  (i163_0 : Nat) (s163_0 : Unit) : List Res := []
def sa163_0  (s163_0 : Unit) : St := [(4, .d (I 0))]
def Ra163_0  (s163_0 : Unit) : List Res := []
theorem k163 (x0 : List Bool) (x1 : Bool) (r : Int) (h : F163 x0 x1 = some r) : CallOk Tryz.prog 163 [.d (DS pB x0), .d (Bo x1)] [] (.d (I r)) [] := by
  unfold F163 at h
  refine callOk_of 19 Tryz.func163 rfl rfl rfl fun C hC => ?_
  refine WI_stop (bs := []) mixed lv163 26 [] [.len ((x0.map pB).length : Int) (x0.length : Int)] [] 0 [] (st163_0 x0 x1 0 ()) (R163_0 0 ()) hC ⟨len_map _ _, trivial⟩ trivial (by kernel_rfl) ?_
  obtain ⟨k163_0, hm163_0, hret163_0, hnext163_0⟩ := andThen_inv h
  clear h
  refine WI_cut (by kernel_rfl) (fun s => k163_0 = .next s) (sa163_0) (Ra163_0) ?_ fun s163_0 hs163_0 => ?_
  · refine WI_blk (by kernel_rfl) ?_
    refine WI_len 0 rfl fun hl163_0 => ?_
    refine WI_foldI (by kernel_rfl) (F163_l0 x1) (st163_0 x0 x1) (R163_0) k163_0 x0 () hm163_0 rfl rfl (fun s163_0 hn163_0 => ?_) fun i163_0 x163_0 s163_0 k163_0b hi163_0 hx163_0 h hb163_0 hr163_0 => ?_
    · clear hm163_0
      exact WI_end (bs := [(decide ((cnt 0 x0.length) < (x0.length : Int)), false)]) (φ := fun s' => k163_0 = .next s') (st' := (sa163_0)) (R' := (Ra163_0)) mixed lv163 26 [false] [] [] 0 [] () hC trivial ⟨(cnt_end hl163_0), trivial⟩ (by kernel_rfl) (by kernel_rfl) hn163_0
    · unfold F163_l0 at h
      rcases boolC ((x1 == x163_0)) with h1 | h1
      · replace h := condT h1 h
        have hq := hret163_0 _ (hr163_0 _ (Option.some.inj h).symm)
        replace hq := Option.some.inj hq
        subst hq
        exact WI_ret (bs := [(decide ((cnt 0 i163_0) < (x0.length : Int)), true), ((x1 == x163_0), true)]) mixed lv163 35 [true, true] [.row (x0.map pB) (cnt 0 i163_0) (pB x163_0)] [] [.tmp 4] 0 [] rfl hC ⟨(row_cnt hx163_0 hl163_0), trivial⟩ ⟨(cnt_lt hi163_0 hl163_0), h1, trivial⟩ (by kernel_rfl)
      · replace h := condF h1 h
        exact WI_end (bs := [(decide ((cnt 0 i163_0) < (x0.length : Int)), true), ((x1 == x163_0), false)]) (φ := fun s' => k163_0b = .next s') (st' := (st163_0 x0 x1 (i163_0 + 1))) (R' := (R163_0 (i163_0 + 1))) mixed lv163 36 [true, false] [.row (x0.map pB) (cnt 0 i163_0) (pB x163_0)] [] 0 [] () hC ⟨(row_cnt hx163_0 hl163_0), trivial⟩ ⟨(cnt_lt hi163_0 hl163_0), h1, trivial⟩ (by kernel_rfl) (by kernel_rfl) (Option.some.inj h).symm
  · have h := hnext163_0 _ hs163_0
    replace h := Option.some.inj h
    subst h
    exact WI_ret (bs := []) mixed lv163 23 [] [] [] [.tmp 4] 0 [] rfl hC trivial trivial (by kernel_rfl)
theorem e163 : Enters Tryz.prog 163 := Go.SL.enters_of Tryz.func163 (by kernel_rfl) (by kernel_rfl)
theorem k96 (x0 : List Int) (x1 : Int) (r : Bool) (h : F96 x0 x1 = some r) : CallOk Tryz.prog 96 [.d (DS pI x0), .d (I x1)] [] (.d (Bo r)) [] := by
  unfold F96 at h
  refine callOk_of 9 Tryz.func96 rfl rfl rfl fun C hC => ?_
  obtain ⟨y1, h2, h⟩ := bindE h
  replace h := Option.some.inj h
  subst h
  exact WI_ret (bs := []) mixed [0, 1, 4] 25 [] [.call 177 [.d (DS pI x0), .d (I x1)] [] (.d (I y1)) [] []] [] [.tmp 4] 0 [] rfl hC ⟨⟨e177, (k177 x0 x1 _ h2)⟩, trivial⟩ trivial (by kernel_rfl)
theorem e96 : Enters Tryz.prog 96 := Go.SL.enters_of Tryz.func96 (by kernel_rfl) (by kernel_rfl)
def lv260s0 : List Nat := [0, 1, 4, 5, 7, 8, 9, 16]
def st260s0_0 (x0 : List (List Int)) (i260s0_0 : Nat) (s260s0_0 : Unit) : St := [(0, .d (DS (pL pI) x0)), (1, .d (.fn (.func 233) [] [])), (4, .d (I 0)), (7, .d (I (x0.length : Int))), (8, .d (I (cnt 0 i260s0_0)))]
def R260s0_0  (i260s0_0 : Nat) (s260s0_0 : Unit) : List Res := []
def sa260s0_0  (s260s0_0 : Unit) : St := [(4, .d (I 0))]
def Ra260s0_0  (s260s0_0 : Unit) : List Res := []
theorem k260s0 (x0 : List (List Int)) (r : Int) (h : F260s0 x0 = some r) : CallOk Tryz.prog 260 [.d (DS (pL pI) x0), .d (.fn (.func 233) [] [])] [] (.d (I r)) [] := by
  unfold F260s0 at h
  refine callOk_of 19 Tryz.func260 rfl rfl rfl fun C hC => ?_
  refine WI_stop (bs := []) mixed lv260s0 26 [] [.len ((x0.map (pL pI)).length : Int) (x0.length : Int)] [] 0 [] (st260s0_0 x0 0 ()) (R260s0_0 0 ()) hC ⟨len_map _ _, trivial⟩ trivial (by kernel_rfl) ?_
  obtain ⟨k260s0_0, hm260s0_0, hret260s0_0, hnext260s0_0⟩ := andThen_inv h
  clear h
  refine WI_cut (by kernel_rfl) (fun s => k260s0_0 = .next s) (sa260s0_0) (Ra260s0_0) ?_ fun s260s0_0 hs260s0_0 => ?_
  · refine WI_blk (by kernel_rfl) ?_
    refine WI_len 0 rfl fun hl260s0_0 => ?_
    refine WI_foldI (by kernel_rfl) F260s0_l0 (st260s0_0 x0) (R260s0_0) k260s0_0 x0 () hm260s0_0 rfl rfl (fun s260s0_0 hn260s0_0 => ?_) fun i260s0_0 x260s0_0 s260s0_0 k260s0_0b hi260s0_0 hx260s0_0 h hb260s0_0 hr260s0_0 => ?_
    · clear hm260s0_0
      exact WI_end (bs := [(decide ((cnt 0 x0.length) < (x0.length : Int)), false)]) (φ := fun s' => k260s0_0 = .next s') (st' := (sa260s0_0)) (R' := (Ra260s0_0)) mixed lv260s0 26 [false] [] [] 0 [] () hC trivial ⟨(cnt_end hl260s0_0), trivial⟩ (by kernel_rfl) (by kernel_rfl) hn260s0_0
    · unfold F260s0_l0 at h
      rcases boolC (F233 x260s0_0) with h1 | h1
      · replace h := condT h1 h
        have hq := hret260s0_0 _ (hr260s0_0 _ (Option.some.inj h).symm)
        replace hq := Option.some.inj hq
        subst hq
        exact WI_ret (bs := [(decide ((cnt 0 i260s0_0) < (x0.length : Int)), true), (F233 x260s0_0, true)]) mixed lv260s0 35 [true, true] [.row (x0.map (pL pI)) (cnt 0 i260s0_0) ((pL pI) x260s0_0), .call 233 [.d (DS pI x260s0_0)] [] (.d (Bo (F233 x260s0_0))) [] []] [] [.tmp 4] 0 [] rfl hC ⟨(row_cnt hx260s0_0 hl260s0_0), ⟨e233, (k233 x260s0_0 _ rfl)⟩, trivial⟩ ⟨(cnt_lt hi260s0_0 hl260s0_0), h1, trivial⟩ (by kernel_rfl)
      · replace h := condF h1 h
        exact WI_end (bs := [(decide ((cnt 0 i260s0_0) < (x0.length : Int)), true), (F233 x260s0_0, false)]) (φ := fun s' => k260s0_0b = .next s') (st' := (st260s0_0 x0 (i260s0_0 + 1))) (R' := (R260s0_0 (i260s0_0 + 1))) mixed lv260s0 36 [true, false] [.row (x0.map (pL pI)) (cnt 0 i260s0_0) ((pL pI) x260s0_0), .call 233 [.d (DS pI x260s0_0)] [] (.d (Bo (F233 x260s0_0))) [] []] [] 0 [] () hC ⟨(row_cnt hx260s0_0 hl260s0_0), ⟨e233, (k233 x260s0_0 _ rfl)⟩, trivial⟩ ⟨(cnt_lt hi260s0_0 hl260s0_0), h1, trivial⟩ (by kernel_rfl) (by kernel_rfl) (Option.some.inj h).symm
  · have h := hnext260s0_0 _ hs260s0_0
    replace h := Option.some.inj h
    subst h
    exact WI_ret (bs := []) mixed lv260s0 23 [] [] [] [.tmp 4] 0 [] rfl hC trivial trivial (by kernel_rfl)
theorem e260s0 : Enters Tryz.prog 260 := Go.SL.enters_of Tryz.func260 (by kernel_rfl) (by kernel_rfl)
theorem k173 (x0 : api_Source) (r : Bool) (h : F173 x0 = r) : CallOk Tryz.prog 173 [.agg [I x0.Rating, I x0.Least, I x0.Start]] [] (.d (Bo r)) [] := by
  unfold F173 at h
  refine callOk_of 18 Tryz.func173 rfl rfl rfl fun C hC => ?_
  subst h
  exact WI_ret (bs := []) mixed [0, 1, 2] 25 [] [.call 132 [.d (I x0.Rating), .d (I 1), .d (I 50000)] [] (.d (Bo (F132 x0.Rating 1 50000))) [] [], .when [(F132 x0.Rating 1 50000, true)] (.call 132 [.d (I x0.Least), .d (I 0), .d (I x0.Rating)] [] (.d (Bo (F132 x0.Least 0 x0.Rating))) [] []), .when [(((F132 x0.Rating 1 50000) && (F132 x0.Least 0 x0.Rating)), true)] (.call 132 [.d (I x0.Start), .d (I 0), .d (I 600)] [] (.d (Bo (F132 x0.Start 0 600))) [] [])] [] [.tmp 2] 0 [] rfl hC ⟨⟨e132, (k132 x0.Rating 1 50000 _ rfl)⟩, fun hg => ⟨e132, (k132 x0.Least 0 x0.Rating _ rfl)⟩, fun hg => ⟨e132, (k132 x0.Start 0 600 _ rfl)⟩, trivial⟩ trivial (by kernel_rfl)
theorem e173 : Enters Tryz.prog 173 := Go.SL.enters_of Tryz.func173 (by kernel_rfl) (by kernel_rfl)
def lv174 : List Nat := [0, 1, 2, 4, 5, 6, 8, 9, 10, 11, 33]
def st174_0 (x0 : api_Consumer) (x1 : Int) (i174_0 : Nat) (s174_0 : Unit) : St := [(1, .d (I x1)), (2, .d (.o 0 0)), (4, .d (Bo false)), (8, .d (DS pI x0.Needs)), (9, .d (I (x0.Needs.length : Int))), (10, .d (I (cnt 0 i174_0)))]
def R174_0 (x0 : api_Consumer) (i174_0 : Nat) (s174_0 : Unit) : List Res := [.box 108 [I x0.Load, I x0.Least, I x0.Preference, I x0.Thruster, DS pI x0.Needs]]
def sa174_0  (s174_0 : Unit) : St := [(2, .d (.o 0 0)), (4, .d (Bo false))]
def Ra174_0 (x0 : api_Consumer) (s174_0 : Unit) : List Res := [.box 108 [I x0.Load, I x0.Least, I x0.Preference, I x0.Thruster, DS pI x0.Needs]]
theorem k174 (x0 : api_Consumer) (x1 : Int) (r : Bool) (h : F174 x0 x1 = some r) : CallOk Tryz.prog 174 [.agg [I x0.Load, I x0.Least, I x0.Preference, I x0.Thruster, DS pI x0.Needs], .d (I x1)] [] (.d (Bo r)) [] := by
  unfold F174 at h
  refine callOk_of 61 Tryz.func174 rfl rfl rfl fun C hC => ?_
  refine WI_stop (bs := []) mixed lv174 26 [] [.len ((x0.Needs.map pI).length : Int) (x0.Needs.length : Int)] [] 0 [0] (st174_0 x0 x1 0 ()) (R174_0 x0 0 ()) hC ⟨len_map _ _, trivial⟩ trivial (by kernel_rfl) ?_
  obtain ⟨k174_0, hm174_0, hret174_0, hnext174_0⟩ := andThen_inv h
  clear h
  refine WI_cut (by kernel_rfl) (fun s => k174_0 = .next s) (sa174_0) (Ra174_0 x0) ?_ fun s174_0 hs174_0 => ?_
  · refine WI_blk (by kernel_rfl) ?_
    refine WI_len 8 rfl fun hl174_0 => ?_
    refine WI_foldI (by kernel_rfl) (F174_l0 x0 x1) (st174_0 x0 x1) (R174_0 x0) k174_0 x0.Needs () hm174_0 rfl rfl (fun s174_0 hn174_0 => ?_) fun i174_0 x174_0 s174_0 k174_0b hi174_0 hx174_0 h hb174_0 hr174_0 => ?_
    · clear hm174_0
      exact WI_end (bs := [(decide ((cnt 0 x0.Needs.length) < (x0.Needs.length : Int)), false)]) (φ := fun s' => k174_0 = .next s') (st' := (sa174_0)) (R' := (Ra174_0 x0)) mixed lv174 26 [false] [] [] 0 [0] () hC trivial ⟨(cnt_end hl174_0), trivial⟩ (by kernel_rfl) (by kernel_rfl) hn174_0
    · unfold F174_l0 at h
      obtain ⟨y1, h2, h⟩ := bindE h
      refine WI_stop (bs := [(decide ((cnt 0 i174_0) < (x0.Needs.length : Int)), true)]) mixed lv174 32 [true] [.row (x0.Needs.map pI) (cnt 0 i174_0) (pI x174_0), .call 132 [.d (I x174_0), .d (I 0), .d (I (w64 (x1 - 1)))] [] (.d (Bo (F132 x174_0 0 (w64 (x1 - 1))))) [] [], .when [(!(F132 x174_0 0 (w64 (x1 - 1))), false), (decide ((cnt 0 i174_0) > 0), true)] (.row (x0.Needs.map pI) (w64 ((cnt 0 i174_0) - 1)) (pI y1))] [] 0 [0] [(1, .d (I x1)), (2, .d (.o 0 0)), (4, .d (Bo false)), (8, .d (DS pI x0.Needs)), (9, .d (I (x0.Needs.length : Int))), (10, .d (I (cnt 0 i174_0))), (33, .d (Bo (c174_1 x1 i174_0 x174_0 y1)))] [.box 108 [I x0.Load, I x0.Least, I x0.Preference, I x0.Thruster, DS pI x0.Needs]] hC ⟨(row_cnt hx174_0 hl174_0), ⟨e132, (k132 x174_0 0 (w64 (x1 - 1)) _ rfl)⟩, fun hg => row_get (guardO_get h2 hg), trivial⟩ ⟨(cnt_lt hi174_0 hl174_0), trivial⟩ (by kernel_rfl) ?_
      rcases boolC ((c174_1 x1 i174_0 x174_0 y1)) with h3 | h3
      · replace h := condT h3 h
        have hq := hret174_0 _ (hr174_0 _ (Option.some.inj h).symm)
        replace hq := Option.some.inj hq
        subst hq
        exact WI_ret (bs := [((c174_1 x1 i174_0 x174_0 y1), true)]) mixed lv174 24 [true] [] [] [.tmp 4] 0 [] rfl hC trivial ⟨h3, trivial⟩ (by kernel_rfl)
      · replace h := condF h3 h
        exact WI_end (bs := [((c174_1 x1 i174_0 x174_0 y1), false)]) (φ := fun s' => k174_0b = .next s') (st' := (st174_0 x0 x1 (i174_0 + 1))) (R' := (R174_0 x0 (i174_0 + 1))) mixed lv174 25 [false] [] [] 0 [0] () hC trivial ⟨h3, trivial⟩ (by kernel_rfl) (by kernel_rfl) (Option.some.inj h).symm
  · have h := hnext174_0 _ hs174_0
    replace h := Option.some.inj h
    subst h
    exact WI_ret (bs := []) mixed lv174 23 [] [.call 132 [.d (I x0.Load), .d (I 0), .d (I 50000)] [] (.d (Bo (F132 x0.Load 0 50000))) [] [], .when [(F132 x0.Load 0 50000, true)] (.call 132 [.d (I x0.Least), .d (I 0), .d (I x0.Load)] [] (.d (Bo (F132 x0.Least 0 x0.Load))) [] []), .when [(((F132 x0.Load 0 50000) && (F132 x0.Least 0 x0.Load)), true)] (.call 132 [.d (I x0.Preference), .d (I 0), .d (I 15)] [] (.d (Bo (F132 x0.Preference 0 15))) [] []), .when [((((F132 x0.Load 0 50000) && (F132 x0.Least 0 x0.Load)) && (F132 x0.Preference 0 15)), true)] (.call 132 [.d (I x0.Thruster), .d (I (-1)), .d (I 7)] [] (.d (Bo (F132 x0.Thruster (-1) 7))) [] []), .when [(((((F132 x0.Load 0 50000) && (F132 x0.Least 0 x0.Load)) && (F132 x0.Preference 0 15)) && (F132 x0.Thruster (-1) 7)), true)] (.len ((x0.Needs.map pI).length : Int) (x0.Needs.length : Int))] [] [.tmp 4] 0 [] rfl hC ⟨⟨e132, (k132 x0.Load 0 50000 _ rfl)⟩, fun hg => ⟨e132, (k132 x0.Least 0 x0.Load _ rfl)⟩, fun hg => ⟨e132, (k132 x0.Preference 0 15 _ rfl)⟩, fun hg => ⟨e132, (k132 x0.Thruster (-1) 7 _ rfl)⟩, fun hg => len_map _ _, trivial⟩ trivial (by kernel_rfl)
theorem e174 : Enters Tryz.prog 174 := Go.SL.enters_of Tryz.func174 (by kernel_rfl) (by kernel_rfl)
theorem k89s1 (x0 : restore_planner) (x1 : Int) (x2 : Int) (r : restore_planner) (h : F89s1 x0 x1 x2 = some r) : CallOk Tryz.prog 89 [.d (.o 0 0), .d (I x1), .d (I x2)] [.box 144 [I x0.board.Buses, DS api_Breaker.ps x0.board.Breakers, DS api_Source.ps x0.board.Sources, DS api_Consumer.ps x0.board.Consumers, I x0.board.Phase, I x0.board.Frequency, .os 1, .os 2, .os 3, .os 4, .os 5, .os 6], .sl 4 1 (x0.power.Closed.map pB), .sl 59 4 (x0.power.Sources.map api_Running.ps), .sl 3 1 (x0.power.Limits.map pI), .sl 119 2 (x0.power.Broken.map api_Part.ps), .sl 4 1 (x0.goal.map pB), .sl 42 3 (x0.acts.map api_Act.ps)] (.tup []) [.box 144 [I r.board.Buses, DS api_Breaker.ps r.board.Breakers, DS api_Source.ps r.board.Sources, DS api_Consumer.ps r.board.Consumers, I r.board.Phase, I r.board.Frequency, .os 1, .os 2, .os 3, .os 4, .os 5, .os 7], .sl 4 1 (r.power.Closed.map pB), .sl 59 4 (r.power.Sources.map api_Running.ps), .sl 3 1 (r.power.Limits.map pI), .sl 119 2 (r.power.Broken.map api_Part.ps), .sl 4 1 (r.goal.map pB), .non, .sl 42 3 (r.acts.map api_Act.ps)] := by
  unfold F89s1 at h
  refine callOk_of 27 Tryz.func89 rfl rfl rfl fun C hC => ?_
  obtain ⟨y1, h2, h⟩ := bindE h
  obtain ⟨y3, h4, h⟩ := bindE h
  obtain ⟨y5, h6, h⟩ := bindE h
  replace h := Option.some.inj h
  subst h
  exact WI_endF (bs := []) mixed [0, 1, 2] 23 [] [.app (x0.acts.map api_Act.ps) ([(⟨x1, x2, 0⟩ : api_Act)].map api_Act.ps) 3 (((x0.acts.map api_Act.ps).length + ([(⟨x1, x2, 0⟩ : api_Act)].map api_Act.ps).length) * (24 + 1)) (y1.map api_Act.ps), .row (x0.power.Closed.map pB) x2 (pB y3), .upd (x0.power.Closed.map pB) (Int.toNat x2) (pB y3) (pB (x1 == 1)) (y5.map pB)] [] [] 7 [0, 1, 2, 3, 4, 5, 6, 7] rfl hC ⟨app_get api_Act.ps 3 (fun _ => rfl) h2, row_get h4, upd_get h4 h6, trivial⟩ trivial (by kernel_rfl) (by kernel_rfl)
theorem e89s1 : Enters Tryz.prog 89 := Go.SL.enters_of Tryz.func89 (by kernel_rfl) (by kernel_rfl)
theorem k235 (x0 : Int) (x1 : Int) (r : Int × Int) (h : F235 x0 x1 = r) : CallOk Tryz.prog 235 [.d (.p (.v (.int .u64 x0))), .d (.p (.v (.int .u64 x1)))] [] (.tup [.d (.p (.v (.int .u64 r.1))), .d (.p (.v (.int .u64 r.2)))]) [] := by
  unfold F235 at h
  refine callOk_of 51 Tryz.func235 rfl rfl rfl fun C hC => ?_
  subst h
  exact WI_ret (bs := []) mixed [0, 1, 4, 5, 6, 7, 8, 9, 10, 11, 12, 13] 45 [] [] [] [.tmp 4, .tmp 5] 0 [] rfl hC trivial trivial (by kernel_rfl)
theorem e235 : Enters Tryz.prog 235 := Go.SL.enters_of Tryz.func235 (by kernel_rfl) (by kernel_rfl)
theorem k166 (x0 : List Int) : CallOk Tryz.prog 166 [.d (.p (.s (x0.map pI)))] [] (.d (.fn (.func 229) [] [.o 0 0])) [.box 22 [.p (.s (x0.map pI))]] := by
  refine callOk_of 4 Tryz.func166 rfl rfl rfl fun C hC => ?_
  exact WI_ret (bs := []) mixed [1, 2] 40 [] [] [] [.tmp 2] 0 [0] rfl hC trivial trivial (by kernel_rfl)
theorem e166 : Enters Tryz.prog 166 := Go.SL.enters_of Tryz.func166 (by kernel_rfl) (by kernel_rfl)
def lv72 : List Nat := [0, 1, 4, 5, 10, 12, 13, 14, 24]
def st72_0 (x0 : List api_Act) (x1 : List api_Act) (i72_0 : Nat) (s72_0 : Unit) : St := [(0, .d (DS api_Act.ps x0)), (1, .d (DS api_Act.ps x1)), (4, .d (Bo false)), (12, .d (I (x0.length : Int))), (13, .d (I (cnt 0 i72_0)))]
def R72_0  (i72_0 : Nat) (s72_0 : Unit) : List Res := []
def sa72_0  (s72_0 : Unit) : St := [(4, .d (Bo false))]
def Ra72_0  (s72_0 : Unit) : List Res := []
theorem k72 (x0 : List api_Act) (x1 : List api_Act) (r : Bool) (h : F72 x0 x1 = some r) : CallOk Tryz.prog 72 [.d (DS api_Act.ps x0), .d (DS api_Act.ps x1)] [] (.d (Bo r)) [] := by
  unfold F72 at h
  refine callOk_of 26 Tryz.func72 rfl rfl rfl fun C hC => ?_
  rcases boolC (((x0.length : Int) != (x1.length : Int))) with h1 | h1
  · replace h := condT h1 h
    replace h := Option.some.inj h
    subst h
    exact WI_ret (bs := [(((x0.length : Int) != (x1.length : Int)), true)]) mixed lv72 29 [true] [.len ((x0.map api_Act.ps).length : Int) (x0.length : Int), .len ((x1.map api_Act.ps).length : Int) (x1.length : Int)] [] [.tmp 4] 0 [] rfl hC ⟨len_map _ _, len_map _ _, trivial⟩ ⟨h1, trivial⟩ (by kernel_rfl)
  · replace h := condF h1 h
    refine WI_stop (bs := [(((x0.length : Int) != (x1.length : Int)), false)]) mixed lv72 31 [false] [.len ((x0.map api_Act.ps).length : Int) (x0.length : Int), .len ((x1.map api_Act.ps).length : Int) (x1.length : Int), .len ((x0.map api_Act.ps).length : Int) (x0.length : Int)] [] 0 [] (st72_0 x0 x1 0 ()) (R72_0 0 ()) hC ⟨len_map _ _, len_map _ _, len_map _ _, trivial⟩ ⟨h1, trivial⟩ (by kernel_rfl) ?_
    obtain ⟨k72_0, hm72_0, hret72_0, hnext72_0⟩ := andThen_inv h
    clear h
    refine WI_cut (by kernel_rfl) (fun s => k72_0 = .next s) (sa72_0) (Ra72_0) ?_ fun s72_0 hs72_0 => ?_
    · refine WI_blk (by kernel_rfl) ?_
      refine WI_len 0 rfl fun hl72_0 => ?_
      refine WI_foldI (by kernel_rfl) (F72_l0 x1) (st72_0 x0 x1) (R72_0) k72_0 x0 () hm72_0 rfl rfl (fun s72_0 hn72_0 => ?_) fun i72_0 x72_0 s72_0 k72_0b hi72_0 hx72_0 h hb72_0 hr72_0 => ?_
      · clear hm72_0
        exact WI_end (bs := [(decide ((cnt 0 x0.length) < (x0.length : Int)), false)]) (φ := fun s' => k72_0 = .next s') (st' := (sa72_0)) (R' := (Ra72_0)) mixed lv72 26 [false] [] [] 0 [] () hC trivial ⟨(cnt_end hl72_0), trivial⟩ (by kernel_rfl) (by kernel_rfl) hn72_0
      · unfold F72_l0 at h
        obtain ⟨y2, h3, h⟩ := bindE h
        rcases boolC ((c72_1 x72_0 y2)) with h4 | h4
        · replace h := condT h4 h
          have hq := hret72_0 _ (hr72_0 _ (Option.some.inj h).symm)
          replace hq := Option.some.inj hq
          subst hq
          exact WI_ret (bs := [(decide ((cnt 0 i72_0) < (x0.length : Int)), true), ((c72_1 x72_0 y2), true)]) mixed lv72 35 [true, true] [.row (x0.map api_Act.ps) (cnt 0 i72_0) (api_Act.ps x72_0), .row (x1.map api_Act.ps) (cnt 0 i72_0) (api_Act.ps y2)] [] [.tmp 4] 0 [] rfl hC ⟨(row_cnt hx72_0 hl72_0), row_get h3, trivial⟩ ⟨(cnt_lt hi72_0 hl72_0), h4, trivial⟩ (by kernel_rfl)
        · replace h := condF h4 h
          exact WI_end (bs := [(decide ((cnt 0 i72_0) < (x0.length : Int)), true), ((c72_1 x72_0 y2), false)]) (φ := fun s' => k72_0b = .next s') (st' := (st72_0 x0 x1 (i72_0 + 1))) (R' := (R72_0 (i72_0 + 1))) mixed lv72 36 [true, false] [.row (x0.map api_Act.ps) (cnt 0 i72_0) (api_Act.ps x72_0), .row (x1.map api_Act.ps) (cnt 0 i72_0) (api_Act.ps y2)] [] 0 [] () hC ⟨(row_cnt hx72_0 hl72_0), row_get h3, trivial⟩ ⟨(cnt_lt hi72_0 hl72_0), h4, trivial⟩ (by kernel_rfl) (by kernel_rfl) (Option.some.inj h).symm
    · have h := hnext72_0 _ hs72_0
      replace h := Option.some.inj h
      subst h
      exact WI_ret (bs := []) mixed lv72 23 [] [] [] [.tmp 4] 0 [] rfl hC trivial trivial (by kernel_rfl)
theorem e72 : Enters Tryz.prog 72 := Go.SL.enters_of Tryz.func72 (by kernel_rfl) (by kernel_rfl)
def lv210 : List Nat := [0, 1, 4, 5, 6, 11, 12, 13, 16, 19]
theorem k210 (x0 : Int) (x1 : Int) (r : Int) (h : F210 x0 x1 = r) : CallOk Tryz.prog 210 [.d (I x0), .d (I x1)] [] (.d (I r)) [] := by
  unfold F210 at h
  refine callOk_of 20 Tryz.func210 rfl rfl rfl fun C hC => ?_
  rcases boolC (F248 x0) with h1 | h1
  · replace h := condT h1 h
    rcases boolC (F248 x1) with h2 | h2
    · replace h := condT h2 h
      subst h
      exact WI_ret (bs := [(F248 x0, true), (F248 x1, true)]) mixed lv210 37 [true, true] [.call 248 [.d (I x0)] [] (.d (Bo (F248 x0))) [] [], .call 248 [.d (I x1)] [] (.d (Bo (F248 x1))) [] []] [] [.tmp 4] 0 [] rfl hC ⟨⟨e248, (k248 x0 _ rfl)⟩, ⟨e248, (k248 x1 _ rfl)⟩, trivial⟩ ⟨h1, h2, trivial⟩ (by kernel_rfl)
    · replace h := condF h2 h
      subst h
      exact WI_ret (bs := [(F248 x0, true), (F248 x1, false)]) mixed lv210 38 [true, false] [.call 248 [.d (I x0)] [] (.d (Bo (F248 x0))) [] [], .call 248 [.d (I x1)] [] (.d (Bo (F248 x1))) [] []] [] [.tmp 4] 0 [] rfl hC ⟨⟨e248, (k248 x0 _ rfl)⟩, ⟨e248, (k248 x1 _ rfl)⟩, trivial⟩ ⟨h1, h2, trivial⟩ (by kernel_rfl)
  · replace h := condF h1 h
    rcases boolC (F248 x1) with h3 | h3
    · replace h := condT h3 h
      subst h
      exact WI_ret (bs := [(F248 x0, false), (F248 x1, true)]) mixed lv210 38 [false, true] [.call 248 [.d (I x0)] [] (.d (Bo (F248 x0))) [] [], .call 248 [.d (I x1)] [] (.d (Bo (F248 x1))) [] []] [] [.tmp 4] 0 [] rfl hC ⟨⟨e248, (k248 x0 _ rfl)⟩, ⟨e248, (k248 x1 _ rfl)⟩, trivial⟩ ⟨h1, h3, trivial⟩ (by kernel_rfl)
    · replace h := condF h3 h
      rcases boolC (decide (x0 < x1)) with h4 | h4
      · replace h := condT h4 h
        subst h
        exact WI_ret (bs := [(F248 x0, false), (F248 x1, false), (decide (x0 < x1), true)]) mixed lv210 43 [false, false, true] [.call 248 [.d (I x0)] [] (.d (Bo (F248 x0))) [] [], .call 248 [.d (I x1)] [] (.d (Bo (F248 x1))) [] []] [] [.tmp 4] 0 [] rfl hC ⟨⟨e248, (k248 x0 _ rfl)⟩, ⟨e248, (k248 x1 _ rfl)⟩, trivial⟩ ⟨h1, h3, h4, trivial⟩ (by kernel_rfl)
      · replace h := condF h4 h
        rcases boolC (decide (x0 > x1)) with h5 | h5
        · replace h := condT h5 h
          subst h
          exact WI_ret (bs := [(F248 x0, false), (F248 x1, false), (decide (x0 < x1), false), (decide (x0 > x1), true)]) mixed lv210 48 [false, false, false, true] [.call 248 [.d (I x0)] [] (.d (Bo (F248 x0))) [] [], .call 248 [.d (I x1)] [] (.d (Bo (F248 x1))) [] []] [] [.tmp 4] 0 [] rfl hC ⟨⟨e248, (k248 x0 _ rfl)⟩, ⟨e248, (k248 x1 _ rfl)⟩, trivial⟩ ⟨h1, h3, h4, h5, trivial⟩ (by kernel_rfl)
        · replace h := condF h5 h
          subst h
          exact WI_ret (bs := [(F248 x0, false), (F248 x1, false), (decide (x0 < x1), false), (decide (x0 > x1), false)]) mixed lv210 49 [false, false, false, false] [.call 248 [.d (I x0)] [] (.d (Bo (F248 x0))) [] [], .call 248 [.d (I x1)] [] (.d (Bo (F248 x1))) [] []] [] [.tmp 4] 0 [] rfl hC ⟨⟨e248, (k248 x0 _ rfl)⟩, ⟨e248, (k248 x1 _ rfl)⟩, trivial⟩ ⟨h1, h3, h4, h5, trivial⟩ (by kernel_rfl)
theorem e210 : Enters Tryz.prog 210 := Go.SL.enters_of Tryz.func210 (by kernel_rfl) (by kernel_rfl)
theorem k131 (x0 : api_Running) (r : Bool) (h : F131 x0 = r) : CallOk Tryz.prog 131 [.agg [I x0.State, I x0.Since, I x0.Frequency, I x0.Phase]] [] (.d (Bo r)) [] := by
  unfold F131 at h
  refine callOk_of 21 Tryz.func131 rfl rfl rfl fun C hC => ?_
  subst h
  exact WI_ret (bs := []) mixed [0, 1, 2] 25 [] [.call 132 [.d (I x0.State), .d (I 0), .d (I 3)] [] (.d (Bo (F132 x0.State 0 3))) [] [], .when [(F132 x0.State 0 3, true)] (.call 132 [.d (I x0.Since), .d (I 0), .d (I 2147483648)] [] (.d (Bo (F132 x0.Since 0 2147483648))) [] []), .when [(((F132 x0.State 0 3) && (F132 x0.Since 0 2147483648)), true)] (.call 132 [.d (I x0.Frequency), .d (I 0), .d (I 6000)] [] (.d (Bo (F132 x0.Frequency 0 6000))) [] []), .when [((((F132 x0.State 0 3) && (F132 x0.Since 0 2147483648)) && (F132 x0.Frequency 0 6000)), true)] (.call 132 [.d (I x0.Phase), .d (I 0), .d (I 3599)] [] (.d (Bo (F132 x0.Phase 0 3599))) [] [])] [] [.tmp 2] 0 [] rfl hC ⟨⟨e132, (k132 x0.State 0 3 _ rfl)⟩, fun hg => ⟨e132, (k132 x0.Since 0 2147483648 _ rfl)⟩, fun hg => ⟨e132, (k132 x0.Frequency 0 6000 _ rfl)⟩, fun hg => ⟨e132, (k132 x0.Phase 0 3599 _ rfl)⟩, trivial⟩ trivial (by kernel_rfl)
theorem e131 : Enters Tryz.prog 131 := Go.SL.enters_of Tryz.func131 (by kernel_rfl) (by kernel_rfl)
def lv69 : List Nat := [0, 1, 2, 3, 4, 6, 7, 14, 21, 27, 39]
def sa69_0 (x1 : api_Act) (s69_0 : Bool) : St := [(2, .d (.o 0 0)), (3, .d (.o 1 0)), (4, .d (Bo false)), (6, .d (I x1.Kind)), (7, .d (Bo s69_0))]
def Ra69_0 (x0 : api_Board) (x1 : api_Act) (s69_0 : Bool) : List Res := [.box 29 [I x0.Buses, DS api_Breaker.ps x0.Breakers, DS api_Source.ps x0.Sources, DS api_Consumer.ps x0.Consumers, I x0.Phase, I x0.Frequency], .box 42 [I x1.Kind, I x1.Unit, I x1.Value]]
def sa69_1 (x1 : api_Act) (s69_1 : Bool) : St := [(2, .d (.o 0 0)), (3, .d (.o 1 0)), (4, .d (Bo false)), (6, .d (I x1.Kind)), (14, .d (Bo s69_1))]
def Ra69_1 (x0 : api_Board) (x1 : api_Act) (s69_1 : Bool) : List Res := [.box 29 [I x0.Buses, DS api_Breaker.ps x0.Breakers, DS api_Source.ps x0.Sources, DS api_Consumer.ps x0.Consumers, I x0.Phase, I x0.Frequency], .box 42 [I x1.Kind, I x1.Unit, I x1.Value]]
theorem k69 (x0 : api_Board) (x1 : api_Act) (r : Bool) (h : F69 x0 x1 = some r) : CallOk Tryz.prog 69 [.agg [I x0.Buses, DS api_Breaker.ps x0.Breakers, DS api_Source.ps x0.Sources, DS api_Consumer.ps x0.Consumers, I x0.Phase, I x0.Frequency], .agg [I x1.Kind, I x1.Unit, I x1.Value]] [] (.d (Bo r)) [] := by
  unfold F69 at h
  refine callOk_of 48 Tryz.func69 rfl rfl rfl fun C hC => ?_
  refine WI_stop (bs := []) mixed lv69 30 [] [] [] 0 [0, 1] [(2, .d (.o 0 0)), (3, .d (.o 1 0)), (4, .d (Bo false)), (6, .d (I x1.Kind)), (7, .d (Bo (x1.Kind == 1)))] [.box 29 [I x0.Buses, DS api_Breaker.ps x0.Breakers, DS api_Source.ps x0.Sources, DS api_Consumer.ps x0.Consumers, I x0.Phase, I x0.Frequency], .box 42 [I x1.Kind, I x1.Unit, I x1.Value]] hC trivial trivial (by kernel_rfl) ?_
  obtain ⟨k69_0, h, hret69_0, hnext69_0⟩ := andThen_inv h
  refine WI_cut (by kernel_rfl) (fun s => k69_0 = .next s) (sa69_0 x1) (Ra69_0 x0 x1) ?_ fun s69_0 hs69_0 => ?_
  · unfold F69_m0 at h
    rcases boolC ((x1.Kind == 1)) with h1 | h1
    · replace h := condT h1 h
      exact WI_end (bs := [((x1.Kind == 1), true)]) (φ := fun s' => k69_0 = .next s') (st' := (sa69_0 x1)) (R' := (Ra69_0 x0 x1)) mixed lv69 23 [true] [] [] 0 [0, 1] (x1.Kind == 1) hC trivial ⟨h1, trivial⟩ (by kernel_rfl) (by kernel_rfl) (Option.some.inj h).symm
    · replace h := condF h1 h
      exact WI_end (bs := [((x1.Kind == 1), false)]) (φ := fun s' => k69_0 = .next s') (st' := (sa69_0 x1)) (R' := (Ra69_0 x0 x1)) mixed lv69 23 [false] [] [] 0 [0, 1] (x1.Kind == 2) hC trivial ⟨h1, trivial⟩ (by kernel_rfl) (by kernel_rfl) (Option.some.inj h).symm
  · clear h; have h := hnext69_0 _ hs69_0
    rcases boolC (s69_0) with h2 | h2
    · replace h := condT h2 h
      replace h := Option.some.inj h
      subst h
      exact WI_ret (bs := [(s69_0, true)]) mixed lv69 24 [true] [.call 137 [.agg [I x0.Buses, DS api_Breaker.ps x0.Breakers, DS api_Source.ps x0.Sources, DS api_Consumer.ps x0.Consumers, I x0.Phase, I x0.Frequency], .d (I 2), .d (I x1.Unit)] [] (.d (Bo (F137 x0 2 x1.Unit))) [] []] [] [.tmp 4] 0 [] rfl hC ⟨⟨e137, (k137 x0 2 x1.Unit _ rfl)⟩, trivial⟩ ⟨h2, trivial⟩ (by kernel_rfl)
    · replace h := condF h2 h
      refine WI_stop (bs := [(s69_0, false)]) mixed lv69 25 [false] [] [] 0 [0, 1] [(2, .d (.o 0 0)), (3, .d (.o 1 0)), (4, .d (Bo false)), (6, .d (I x1.Kind)), (14, .d (Bo (x1.Kind == 3)))] [.box 29 [I x0.Buses, DS api_Breaker.ps x0.Breakers, DS api_Source.ps x0.Sources, DS api_Consumer.ps x0.Consumers, I x0.Phase, I x0.Frequency], .box 42 [I x1.Kind, I x1.Unit, I x1.Value]] hC trivial ⟨h2, trivial⟩ (by kernel_rfl) ?_
      obtain ⟨k69_1, h, hret69_1, hnext69_1⟩ := andThen_inv h
      refine WI_cut (by kernel_rfl) (fun s => k69_1 = .next s) (sa69_1 x1) (Ra69_1 x0 x1) ?_ fun s69_1 hs69_1 => ?_
      · unfold F69_m1 at h
        rcases boolC ((x1.Kind == 3)) with h3 | h3
        · replace h := condT h3 h
          exact WI_end (bs := [((x1.Kind == 3), true)]) (φ := fun s' => k69_1 = .next s') (st' := (sa69_1 x1)) (R' := (Ra69_1 x0 x1)) mixed lv69 23 [true] [] [] 0 [0, 1] (x1.Kind == 3) hC trivial ⟨h3, trivial⟩ (by kernel_rfl) (by kernel_rfl) (Option.some.inj h).symm
        · replace h := condF h3 h
          exact WI_end (bs := [((x1.Kind == 3), false)]) (φ := fun s' => k69_1 = .next s') (st' := (sa69_1 x1)) (R' := (Ra69_1 x0 x1)) mixed lv69 23 [false] [] [] 0 [0, 1] (x1.Kind == 4) hC trivial ⟨h3, trivial⟩ (by kernel_rfl) (by kernel_rfl) (Option.some.inj h).symm
      · clear h; have h := hnext69_1 _ hs69_1
        rcases boolC (s69_1) with h4 | h4
        · replace h := condT h4 h
          replace h := Option.some.inj h
          subst h
          exact WI_ret (bs := [(s69_1, true)]) mixed lv69 24 [true] [.call 137 [.agg [I x0.Buses, DS api_Breaker.ps x0.Breakers, DS api_Source.ps x0.Sources, DS api_Consumer.ps x0.Consumers, I x0.Phase, I x0.Frequency], .d (I 1), .d (I x1.Unit)] [] (.d (Bo (F137 x0 1 x1.Unit))) [] []] [] [.tmp 4] 0 [] rfl hC ⟨⟨e137, (k137 x0 1 x1.Unit _ rfl)⟩, trivial⟩ ⟨h4, trivial⟩ (by kernel_rfl)
        · replace h := condF h4 h
          rcases boolC ((x1.Kind == 5)) with h5 | h5
          · replace h := condT h5 h
            replace h := Option.some.inj h
            subst h
            exact WI_ret (bs := [(s69_1, false), ((x1.Kind == 5), true)]) mixed lv69 27 [false, true] [.call 137 [.agg [I x0.Buses, DS api_Breaker.ps x0.Breakers, DS api_Source.ps x0.Sources, DS api_Consumer.ps x0.Consumers, I x0.Phase, I x0.Frequency], .d (I 4), .d (I x1.Unit)] [] (.d (Bo (F137 x0 4 x1.Unit))) [] []] [] [.tmp 4] 0 [] rfl hC ⟨⟨e137, (k137 x0 4 x1.Unit _ rfl)⟩, trivial⟩ ⟨h4, h5, trivial⟩ (by kernel_rfl)
          · replace h := condF h5 h
            rcases boolC ((x1.Kind == 6)) with h6 | h6
            · replace h := condT h6 h
              replace h := Option.some.inj h
              subst h
              exact WI_ret (bs := [(s69_1, false), ((x1.Kind == 5), false), ((x1.Kind == 6), true)]) mixed lv69 30 [false, false, true] [.call 137 [.agg [I x0.Buses, DS api_Breaker.ps x0.Breakers, DS api_Source.ps x0.Sources, DS api_Consumer.ps x0.Consumers, I x0.Phase, I x0.Frequency], .d (I 1), .d (I x1.Unit)] [] (.d (Bo (F137 x0 1 x1.Unit))) [] [], .when [(F137 x0 1 x1.Unit, true)] (.call 137 [.agg [I x0.Buses, DS api_Breaker.ps x0.Breakers, DS api_Source.ps x0.Sources, DS api_Consumer.ps x0.Consumers, I x0.Phase, I x0.Frequency], .d (I 3), .d (I x1.Value)] [] (.d (Bo (F137 x0 3 x1.Value))) [] [])] [] [.tmp 4] 0 [] rfl hC ⟨⟨e137, (k137 x0 1 x1.Unit _ rfl)⟩, fun hg => ⟨e137, (k137 x0 3 x1.Value _ rfl)⟩, trivial⟩ ⟨h4, h5, h6, trivial⟩ (by kernel_rfl)
            · replace h := condF h6 h
              rcases boolC ((x1.Kind == 8)) with h7 | h7
              · replace h := condT h7 h
                replace h := Option.some.inj h
                subst h
                exact WI_ret (bs := [(s69_1, false), ((x1.Kind == 5), false), ((x1.Kind == 6), false), ((x1.Kind == 8), true), ((x1.Kind == 8), true)]) mixed lv69 36 [false, false, false, true, true] [.call 137 [.agg [I x0.Buses, DS api_Breaker.ps x0.Breakers, DS api_Source.ps x0.Sources, DS api_Consumer.ps x0.Consumers, I x0.Phase, I x0.Frequency], .d (I x1.Value), .d (I x1.Unit)] [] (.d (Bo (F137 x0 x1.Value x1.Unit))) [] []] [] [.tmp 4] 0 [] rfl hC ⟨⟨e137, (k137 x0 x1.Value x1.Unit _ rfl)⟩, trivial⟩ ⟨h4, h5, h6, h7, h7, trivial⟩ (by kernel_rfl)
              · replace h := condF h7 h
                rcases boolC ((x1.Kind == 9)) with h8 | h8
                · replace h := condT h8 h
                  replace h := Option.some.inj h
                  subst h
                  exact WI_ret (bs := [(s69_1, false), ((x1.Kind == 5), false), ((x1.Kind == 6), false), ((x1.Kind == 8), false), ((x1.Kind == 9), true)]) mixed lv69 36 [false, false, false, false, true] [.call 137 [.agg [I x0.Buses, DS api_Breaker.ps x0.Breakers, DS api_Source.ps x0.Sources, DS api_Consumer.ps x0.Consumers, I x0.Phase, I x0.Frequency], .d (I x1.Value), .d (I x1.Unit)] [] (.d (Bo (F137 x0 x1.Value x1.Unit))) [] []] [] [.tmp 4] 0 [] rfl hC ⟨⟨e137, (k137 x0 x1.Value x1.Unit _ rfl)⟩, trivial⟩ ⟨h4, h5, h6, h7, h8, trivial⟩ (by kernel_rfl)
                · replace h := condF h8 h
                  replace h := Option.some.inj h
                  subst h
                  exact WI_ret (bs := [(s69_1, false), ((x1.Kind == 5), false), ((x1.Kind == 6), false), ((x1.Kind == 8), false), ((x1.Kind == 9), false)]) mixed lv69 38 [false, false, false, false, false] [] [] [.tmp 4] 0 [] rfl hC trivial ⟨h4, h5, h6, h7, h8, trivial⟩ (by kernel_rfl)
theorem e69 : Enters Tryz.prog 69 := Go.SL.enters_of Tryz.func69 (by kernel_rfl) (by kernel_rfl)
theorem k70 (x0 : api_Power) (r : api_Power) (h : F70 x0 = some r) : CallOk Tryz.prog 70 [.agg [DS pB x0.Closed, DS api_Running.ps x0.Sources, DS pI x0.Limits, DS api_Part.ps x0.Broken]] [] (.agg [.os 0, .os 1, .os 2, .os 3]) [.sl 4 1 (r.Closed.map pB), .sl 59 4 (r.Sources.map api_Running.ps), .sl 3 1 (r.Limits.map pI), .sl 119 2 (r.Broken.map api_Part.ps)] := by
  unfold F70 at h
  refine callOk_of 16 Tryz.func70 rfl rfl rfl fun C hC => ?_
  obtain ⟨y1, h2, h⟩ := bindE h
  obtain ⟨y3, h4, h⟩ := bindE h
  obtain ⟨y5, h6, h⟩ := bindE h
  obtain ⟨y7, h8, h⟩ := bindE h
  replace h := Option.some.inj h
  subst h
  exact WI_ret (bs := []) mixed [0, 1, 2] 25 [] [.call 138 [.d (DS pB x0.Closed)] [] (.d (.os 0)) [.sl 4 1 (y1.map pB)] [], .call 139 [.d (DS api_Running.ps x0.Sources)] [] (.d (.os 0)) [.sl 59 4 (y3.map api_Running.ps)] [], .call 140 [.d (DS pI x0.Limits)] [] (.d (.os 0)) [.sl 3 1 (y5.map pI)] [], .call 141 [.d (DS api_Part.ps x0.Broken)] [] (.d (.os 0)) [.sl 119 2 (y7.map api_Part.ps)] []] [] [.cell 2 35] 0 [2, 3, 4, 5] rfl hC ⟨⟨e138, (k138 x0.Closed _ h2)⟩, ⟨e139, (k139 x0.Sources _ h4)⟩, ⟨e140, (k140 x0.Limits _ h6)⟩, ⟨e141, (k141 x0.Broken _ h8)⟩, trivial⟩ trivial (by kernel_rfl)
theorem e70 : Enters Tryz.prog 70 := Go.SL.enters_of Tryz.func70 (by kernel_rfl) (by kernel_rfl)
theorem k212 (x0 : List api_Part) (x1 : api_Part) (r : Bool) (h : F212 x0 x1 = some r) : CallOk Tryz.prog 212 [.d (DS api_Part.ps x0), .agg [I x1.Kind, I x1.Number]] [] (.d (Bo r)) [] := by
  unfold F212 at h
  refine callOk_of 9 Tryz.func212 rfl rfl rfl fun C hC => ?_
  obtain ⟨y1, h2, h⟩ := bindE h
  replace h := Option.some.inj h
  subst h
  exact WI_ret (bs := []) mixed [0, 1, 3, 4] 25 [] [.call 249 [.d (DS api_Part.ps x0), .agg [I x1.Kind, I x1.Number]] [] (.d (I y1)) [] []] [] [.tmp 4] 0 [] rfl hC ⟨⟨e249, (k249 x0 x1 _ h2)⟩, trivial⟩ trivial (by kernel_rfl)
theorem e212 : Enters Tryz.prog 212 := Go.SL.enters_of Tryz.func212 (by kernel_rfl) (by kernel_rfl)
theorem k188 (x0 : api_Board) (x1 : api_Power) (x2 : Int) (r : Int × Bool) (h : F188 x0 x1 x2 = some r) : CallOk Tryz.prog 188 [.agg [I x0.Buses, DS api_Breaker.ps x0.Breakers, DS api_Source.ps x0.Sources, DS api_Consumer.ps x0.Consumers, I x0.Phase, I x0.Frequency], .agg [DS pB x1.Closed, DS api_Running.ps x1.Sources, DS pI x1.Limits, DS api_Part.ps x1.Broken], .d (I x2)] [] (.tup [.d (I r.1), .d (Bo r.2)]) [] := by
  unfold F188 at h
  refine callOk_of 14 Tryz.func188 rfl rfl rfl fun C hC => ?_
  obtain ⟨y1, h2, h⟩ := bindE h
  replace h := Option.some.inj h
  subst h
  exact WI_ret (bs := []) mixed [0, 1, 2, 3, 4, 6, 7] 25 [] [.call 237 [.agg [I x0.Buses, DS api_Breaker.ps x0.Breakers, DS api_Source.ps x0.Sources, DS api_Consumer.ps x0.Consumers, I x0.Phase, I x0.Frequency], .agg [DS pB x1.Closed, DS api_Running.ps x1.Sources, DS pI x1.Limits, DS api_Part.ps x1.Broken], .d (I 3), .d (I x2)] [] (.tup [.d (I y1.1), .d (Bo y1.2)]) [] []] [] [.tmp 6, .tmp 7] 0 [] rfl hC ⟨⟨e237, (k237 x0 x1 3 x2 _ h2)⟩, trivial⟩ trivial (by kernel_rfl)
theorem e188 : Enters Tryz.prog 188 := Go.SL.enters_of Tryz.func188 (by kernel_rfl) (by kernel_rfl)
def lv187 : List Nat := [0, 1, 2, 3, 4, 6, 7, 23]
theorem k187 (x0 : api_Board) (x1 : api_Power) (x2 : Int) (r : Int × Bool) (h : F187 x0 x1 x2 = some r) : CallOk Tryz.prog 187 [.agg [I x0.Buses, DS api_Breaker.ps x0.Breakers, DS api_Source.ps x0.Sources, DS api_Consumer.ps x0.Consumers, I x0.Phase, I x0.Frequency], .agg [DS pB x1.Closed, DS api_Running.ps x1.Sources, DS pI x1.Limits, DS api_Part.ps x1.Broken], .d (I x2)] [] (.tup [.d (I r.1), .d (Bo r.2)]) [] := by
  unfold F187 at h
  refine callOk_of 30 Tryz.func187 rfl rfl rfl fun C hC => ?_
  obtain ⟨y1, h2, h⟩ := bindE h
  refine WI_stop (bs := []) mixed lv187 26 [] [.len ((x1.Sources.map api_Running.ps).length : Int) (x1.Sources.length : Int), .call 132 [.d (I x2), .d (I 0), .d (I (w64 ((x1.Sources.length : Int) - 1)))] [] (.d (Bo (F132 x2 0 (w64 ((x1.Sources.length : Int) - 1))))) [] [], .when [(!(F132 x2 0 (w64 ((x1.Sources.length : Int) - 1))), false)] (.row (x1.Sources.map api_Running.ps) x2 (api_Running.ps y1))] [] 0 [0, 1] [(2, .d (I x2)), (3, .d (.o 0 0)), (4, .d (.o 1 0)), (6, .d (I 0)), (7, .d (Bo false)), (23, .d (Bo (c187_0 x1 x2 y1)))] [.box 29 [I x0.Buses, DS api_Breaker.ps x0.Breakers, DS api_Source.ps x0.Sources, DS api_Consumer.ps x0.Consumers, I x0.Phase, I x0.Frequency], .box 35 [DS pB x1.Closed, DS api_Running.ps x1.Sources, DS pI x1.Limits, DS api_Part.ps x1.Broken]] hC ⟨len_map _ _, ⟨e132, (k132 x2 0 (w64 ((x1.Sources.length : Int) - 1)) _ rfl)⟩, fun hg => row_get (guardO_get h2 hg), trivial⟩ trivial (by kernel_rfl) ?_
  rcases boolC ((c187_0 x1 x2 y1)) with h3 | h3
  · replace h := condT h3 h
    replace h := Option.some.inj h
    subst h
    exact WI_ret (bs := [((c187_0 x1 x2 y1), true)]) mixed lv187 24 [true] [] [] [.tmp 6, .tmp 7] 0 [] rfl hC trivial ⟨h3, trivial⟩ (by kernel_rfl)
  · replace h := condF h3 h
    obtain ⟨y4, h5, h⟩ := bindE h
    replace h := Option.some.inj h
    subst h
    exact WI_ret (bs := [((c187_0 x1 x2 y1), false)]) mixed lv187 25 [false] [.call 237 [.agg [I x0.Buses, DS api_Breaker.ps x0.Breakers, DS api_Source.ps x0.Sources, DS api_Consumer.ps x0.Consumers, I x0.Phase, I x0.Frequency], .agg [DS pB x1.Closed, DS api_Running.ps x1.Sources, DS pI x1.Limits, DS api_Part.ps x1.Broken], .d (I 2), .d (I x2)] [] (.tup [.d (I y4.1), .d (Bo y4.2)]) [] []] [] [.tmp 6, .tmp 7] 0 [] rfl hC ⟨⟨e237, (k237 x0 x1 2 x2 _ h5)⟩, trivial⟩ ⟨h3, trivial⟩ (by kernel_rfl)
theorem e187 : Enters Tryz.prog 187 := Go.SL.enters_of Tryz.func187 (by kernel_rfl) (by kernel_rfl)
def lv185s0 : List Nat := [0, 1, 4, 5, 7, 8, 9, 16]
def st185s0_0 (x0 : List api_Island) (i185s0_0 : Nat) (s185s0_0 : Unit) : St := [(0, .d (DS api_Island.ps x0)), (1, .d (.fn (.func 190) [] [])), (4, .d (I 0)), (7, .d (I (x0.length : Int))), (8, .d (I (cnt 0 i185s0_0)))]
def R185s0_0  (i185s0_0 : Nat) (s185s0_0 : Unit) : List Res := []
def sa185s0_0  (s185s0_0 : Unit) : St := [(4, .d (I 0))]
def Ra185s0_0  (s185s0_0 : Unit) : List Res := []
theorem k185s0 (x0 : List api_Island) (r : Int) (h : F185s0 x0 = some r) : CallOk Tryz.prog 185 [.d (DS api_Island.ps x0), .d (.fn (.func 190) [] [])] [] (.d (I r)) [] := by
  unfold F185s0 at h
  refine callOk_of 19 Tryz.func185 rfl rfl rfl fun C hC => ?_
  refine WI_stop (bs := []) mixed lv185s0 26 [] [.len ((x0.map api_Island.ps).length : Int) (x0.length : Int)] [] 0 [] (st185s0_0 x0 0 ()) (R185s0_0 0 ()) hC ⟨len_map _ _, trivial⟩ trivial (by kernel_rfl) ?_
  obtain ⟨k185s0_0, hm185s0_0, hret185s0_0, hnext185s0_0⟩ := andThen_inv h
  clear h
  refine WI_cut (by kernel_rfl) (fun s => k185s0_0 = .next s) (sa185s0_0) (Ra185s0_0) ?_ fun s185s0_0 hs185s0_0 => ?_
  · refine WI_blk (by kernel_rfl) ?_
    refine WI_len 0 rfl fun hl185s0_0 => ?_
    refine WI_foldI (by kernel_rfl) F185s0_l0 (st185s0_0 x0) (R185s0_0) k185s0_0 x0 () hm185s0_0 rfl rfl (fun s185s0_0 hn185s0_0 => ?_) fun i185s0_0 x185s0_0 s185s0_0 k185s0_0b hi185s0_0 hx185s0_0 h hb185s0_0 hr185s0_0 => ?_
    · clear hm185s0_0
      exact WI_end (bs := [(decide ((cnt 0 x0.length) < (x0.length : Int)), false)]) (φ := fun s' => k185s0_0 = .next s') (st' := (sa185s0_0)) (R' := (Ra185s0_0)) mixed lv185s0 26 [false] [] [] 0 [] () hC trivial ⟨(cnt_end hl185s0_0), trivial⟩ (by kernel_rfl) (by kernel_rfl) hn185s0_0
    · unfold F185s0_l0 at h
      refine WI_stop (bs := [(decide ((cnt 0 i185s0_0) < (x0.length : Int)), true)]) mixed lv185s0 32 [true] [.row (x0.map api_Island.ps) (cnt 0 i185s0_0) (api_Island.ps x185s0_0), .call 190 [.agg [DS pI x185s0_0.Buses, DS pI x185s0_0.Sources, DS pI x185s0_0.Consumers]] [] (.d (Bo (F190 x185s0_0))) [] []] [] 0 [] [(0, .d (DS api_Island.ps x0)), (1, .d (.fn (.func 190) [] [])), (4, .d (I 0)), (5, .d (I (cnt 0 i185s0_0))), (7, .d (I (x0.length : Int))), (8, .d (I (cnt 0 i185s0_0))), (16, .d (Bo (F190 x185s0_0)))] [] hC ⟨(row_cnt hx185s0_0 hl185s0_0), ⟨e190, (k190 x185s0_0 _ rfl)⟩, trivial⟩ ⟨(cnt_lt hi185s0_0 hl185s0_0), trivial⟩ (by kernel_rfl) ?_
      rcases boolC (F190 x185s0_0) with h1 | h1
      · replace h := condT h1 h
        have hq := hret185s0_0 _ (hr185s0_0 _ (Option.some.inj h).symm)
        replace hq := Option.some.inj hq
        subst hq
        exact WI_ret (bs := [(F190 x185s0_0, true)]) mixed lv185s0 24 [true] [] [] [.tmp 4] 0 [] rfl hC trivial ⟨h1, trivial⟩ (by kernel_rfl)
      · replace h := condF h1 h
        exact WI_end (bs := [(F190 x185s0_0, false)]) (φ := fun s' => k185s0_0b = .next s') (st' := (st185s0_0 x0 (i185s0_0 + 1))) (R' := (R185s0_0 (i185s0_0 + 1))) mixed lv185s0 25 [false] [] [] 0 [] () hC trivial ⟨h1, trivial⟩ (by kernel_rfl) (by kernel_rfl) (Option.some.inj h).symm
  · have h := hnext185s0_0 _ hs185s0_0
    replace h := Option.some.inj h
    subst h
    exact WI_ret (bs := []) mixed lv185s0 23 [] [] [] [.tmp 4] 0 [] rfl hC trivial trivial (by kernel_rfl)
theorem e185s0 : Enters Tryz.prog 185 := Go.SL.enters_of Tryz.func185 (by kernel_rfl) (by kernel_rfl)
theorem k280 (x0 : Int) (x1 : Int) (r : Int) (h : F280 x0 x1 = r) : CallOk Tryz.prog 280 [.d (I x0), .d (I x1)] [] (.d (I r)) [] := by
  unfold F280 at h
  refine callOk_of 17 Tryz.func280 rfl rfl rfl fun C hC => ?_
  refine WI_stop (bs := []) mixed [0, 1, 4, 5, 13] 28 [] [.call 252 [.d (I x1)] [] (.d (I (F252 x1))) [] [], .call 252 [.d (I x0)] [] (.d (I (F252 x0))) [] [], .call 252 [.d (I (w64 ((F252 x1) - (F252 x0))))] [] (.d (I (F252 (w64 ((F252 x1) - (F252 x0)))))) [] []] [] 0 [] [(4, .d (I 0)), (5, .d (I (F252 (w64 ((F252 x1) - (F252 x0)))))), (13, .d (Bo (c280_0 x0 x1)))] [] hC ⟨⟨e252, (k252 x1 _ rfl)⟩, ⟨e252, (k252 x0 _ rfl)⟩, ⟨e252, (k252 (w64 ((F252 x1) - (F252 x0))) _ rfl)⟩, trivial⟩ trivial (by kernel_rfl) ?_
  rcases boolC ((c280_0 x0 x1)) with h1 | h1
  · replace h := condT h1 h
    subst h
    exact WI_ret (bs := [((c280_0 x0 x1), true)]) mixed [0, 1, 4, 5, 13] 25 [true] [] [] [.tmp 4] 0 [] rfl hC trivial ⟨h1, trivial⟩ (by kernel_rfl)
  · replace h := condF h1 h
    subst h
    exact WI_ret (bs := [((c280_0 x0 x1), false)]) mixed [0, 1, 4, 5, 13] 25 [false] [] [] [.tmp 4] 0 [] rfl hC trivial ⟨h1, trivial⟩ (by kernel_rfl)
theorem e280 : Enters Tryz.prog 280 := Go.SL.enters_of Tryz.func280 (by kernel_rfl) (by kernel_rfl)
def lv135s1 : List Nat := [0, 1, 4, 5, 7, 8, 9, 16]
def st135s1_0 (x0 : List api_Breaker) (i135s1_0 : Nat) (s135s1_0 : Unit) : St := [(0, .d (DS api_Breaker.ps x0)), (1, .d (.fn (.func 136) [] [.o 0 0])), (4, .d (I 0)), (7, .d (I (x0.length : Int))), (8, .d (I (cnt 0 i135s1_0)))]
def R135s1_0 (x1c0 : Int) (i135s1_0 : Nat) (s135s1_0 : Unit) : List Res := [.box 3 [I x1c0]]
def sa135s1_0  (s135s1_0 : Unit) : St := [(4, .d (I 0))]
def Ra135s1_0 (x1c0 : Int) (s135s1_0 : Unit) : List Res := [.box 3 [I x1c0]]
theorem k135s1 (x0 : List api_Breaker) (x1c0 : Int) (r : Int × Int) (h : F135s1 x0 x1c0 = some r) : CallOk Tryz.prog 135 [.d (DS api_Breaker.ps x0), .d (.fn (.func 136) [] [.o 0 0])] [.box 3 [I x1c0]] (.d (I r.1)) [.box 3 [I r.2]] := by
  unfold F135s1 at h
  refine callOk_of 19 Tryz.func135 rfl rfl rfl fun C hC => ?_
  refine WI_stop (bs := []) mixed lv135s1 26 [] [.len ((x0.map api_Breaker.ps).length : Int) (x0.length : Int)] [] 1 [0] (st135s1_0 x0 0 ()) (R135s1_0 x1c0 0 ()) hC ⟨len_map _ _, trivial⟩ trivial (by kernel_rfl) ?_
  obtain ⟨k135s1_0, hm135s1_0, hret135s1_0, hnext135s1_0⟩ := andThen_inv h
  clear h
  refine WI_cut (by kernel_rfl) (fun s => k135s1_0 = .next s) (sa135s1_0) (Ra135s1_0 x1c0) ?_ fun s135s1_0 hs135s1_0 => ?_
  · refine WI_blk (by kernel_rfl) ?_
    refine WI_len 0 rfl fun hl135s1_0 => ?_
    refine WI_foldI (by kernel_rfl) (F135s1_l0 x1c0) (st135s1_0 x0) (R135s1_0 x1c0) k135s1_0 x0 () hm135s1_0 rfl rfl (fun s135s1_0 hn135s1_0 => ?_) fun i135s1_0 x135s1_0 s135s1_0 k135s1_0b hi135s1_0 hx135s1_0 h hb135s1_0 hr135s1_0 => ?_
    · clear hm135s1_0
      exact WI_end (bs := [(decide ((cnt 0 x0.length) < (x0.length : Int)), false)]) (φ := fun s' => k135s1_0 = .next s') (st' := (sa135s1_0)) (R' := (Ra135s1_0 x1c0)) mixed lv135s1 26 [false] [] [] 1 [0] () hC trivial ⟨(cnt_end hl135s1_0), trivial⟩ (by kernel_rfl) (by kernel_rfl) hn135s1_0
    · unfold F135s1_l0 at h
      refine WI_stop (bs := [(decide ((cnt 0 i135s1_0) < (x0.length : Int)), true)]) mixed lv135s1 32 [true] [.row (x0.map api_Breaker.ps) (cnt 0 i135s1_0) (api_Breaker.ps x135s1_0), .callB 136 [.agg [I x135s1_0.Kind, I x135s1_0.A, I x135s1_0.B], .d (.ip [.v (.int .i64 x1c0)])] (.d (Bo (F136s0 x135s1_0 x1c0))) [[]] 0 []] [] 1 [0] [(0, .d (DS api_Breaker.ps x0)), (1, .d (.fn (.func 136) [] [.o 0 0])), (4, .d (I 0)), (5, .d (I (cnt 0 i135s1_0))), (7, .d (I (x0.length : Int))), (8, .d (I (cnt 0 i135s1_0))), (16, .d (Bo (F136s0 x135s1_0 x1c0)))] [.box 3 [I x1c0]] hC ⟨(row_cnt hx135s1_0 hl135s1_0), lend0_get ⟨e136s0, (k136s0 x135s1_0 x1c0 _ rfl)⟩, trivial⟩ ⟨(cnt_lt hi135s1_0 hl135s1_0), trivial⟩ (by kernel_rfl) ?_
      rcases boolC (F136s0 x135s1_0 x1c0) with h1 | h1
      · replace h := condT h1 h
        have hq := hret135s1_0 _ (hr135s1_0 _ (Option.some.inj h).symm)
        replace hq := Option.some.inj hq
        subst hq
        exact WI_ret (bs := [(F136s0 x135s1_0 x1c0, true)]) mixed lv135s1 24 [true] [] [] [.tmp 4] 1 [0] rfl hC trivial ⟨h1, trivial⟩ (by kernel_rfl)
      · replace h := condF h1 h
        exact WI_end (bs := [(F136s0 x135s1_0 x1c0, false)]) (φ := fun s' => k135s1_0b = .next s') (st' := (st135s1_0 x0 (i135s1_0 + 1))) (R' := (R135s1_0 x1c0 (i135s1_0 + 1))) mixed lv135s1 25 [false] [] [] 1 [0] () hC trivial ⟨h1, trivial⟩ (by kernel_rfl) (by kernel_rfl) (Option.some.inj h).symm
  · have h := hnext135s1_0 _ hs135s1_0
    replace h := Option.some.inj h
    subst h
    exact WI_ret (bs := []) mixed lv135s1 23 [] [] [] [.tmp 4] 1 [0] rfl hC trivial trivial (by kernel_rfl)
theorem e135s1 : Enters Tryz.prog 135 := Go.SL.enters_of Tryz.func135 (by kernel_rfl) (by kernel_rfl)
def lv218s0 : List Nat := [0, 1, 2, 4, 6, 7, 8, 9, 10, 11, 17, 31]
def st218s0_0 (x0 : List api_Part) (s218s0_0 : Int × Int) : St := [(0, .d (DS api_Part.ps x0)), (2, .d (.fn (.func 219) [] [])), (4, .d (.o 0 0)), (6, .d (I 0)), (7, .d (Bo false)), (8, .d (I (x0.length : Int))), (9, .d (I s218s0_0.1)), (10, .d (I s218s0_0.2))]
def R218s0_0 (x1 : api_Part) (s218s0_0 : Int × Int) : List Res := [.box 119 [I x1.Kind, I x1.Number]]
def sa218s0_0 (x0 : List api_Part) (s218s0_0 : Int × Int) : St := [(0, .d (DS api_Part.ps x0)), (2, .d (.fn (.func 219) [] [])), (4, .d (.o 0 0)), (6, .d (I 0)), (7, .d (Bo false)), (8, .d (I (x0.length : Int))), (9, .d (I s218s0_0.1))]
def Ra218s0_0 (x1 : api_Part) (s218s0_0 : Int × Int) : List Res := [.box 119 [I x1.Kind, I x1.Number]]
theorem k218s0 (x0 : List api_Part) (x1 : api_Part) (r : Int × Bool) (h : F218s0 x0 x1 = some r) : CallOk Tryz.prog 218 [.d (DS api_Part.ps x0), .agg [I x1.Kind, I x1.Number], .d (.fn (.func 219) [] [])] [] (.tup [.d (I r.1), .d (Bo r.2)]) [] := by
  unfold F218s0 at h
  refine callOk_of 49 Tryz.func218 rfl rfl rfl fun C hC => ?_
  refine WI_stop (bs := []) mixed lv218s0 28 [] [.len ((x0.map api_Part.ps).length : Int) (x0.length : Int)] [] 0 [0] (st218s0_0 x0 (0, (x0.length : Int))) (R218s0_0 x1 (0, (x0.length : Int))) hC ⟨len_map _ _, trivial⟩ trivial (by kernel_rfl) ?_
  obtain ⟨k218s0_0, hm218s0_0, hret218s0_0, hnext218s0_0⟩ := andThen_inv h
  clear h
  refine WI_cut (by kernel_rfl) (fun s => k218s0_0 = .next s) (sa218s0_0 x0) (Ra218s0_0 x1) ?_ fun s218s0_0 hs218s0_0 => ?_
  · refine WI_blk (by kernel_rfl) ?_
    refine WI_while (by kernel_rfl) (F218s0_l0 x0 x1) (st218s0_0 x0) (R218s0_0 x1) k218s0_0 1152921504606846976 (0, (x0.length : Int)) hm218s0_0 rfl rfl fun s218s0_0 k218s0_0b h hb218s0_0 hr218s0_0 => ?_
    unfold F218s0_l0 at h
    rcases boolC (decide (s218s0_0.1 < s218s0_0.2)) with h1 | h1
    · replace h := condT h1 h
      obtain ⟨y2, h3, h⟩ := bindE h
      refine WI_stop (bs := [(decide (s218s0_0.1 < s218s0_0.2), true)]) mixed lv218s0 31 [true] [.row (x0.map api_Part.ps) (w64 (shrI .u64 (IntKind.wrap .u64 (w64 (s218s0_0.1 + s218s0_0.2))) 1)) (api_Part.ps y2), .call 219 [.agg [I y2.Kind, I y2.Number], .agg [I x1.Kind, I x1.Number]] [] (.d (I (F219 y2 x1))) [] []] [] 0 [0] [(0, .d (DS api_Part.ps x0)), (2, .d (.fn (.func 219) [] [])), (4, .d (.o 0 0)), (6, .d (I 0)), (7, .d (Bo false)), (8, .d (I (x0.length : Int))), (9, .d (I s218s0_0.1)), (10, .d (I s218s0_0.2)), (11, .d (I (w64 (shrI .u64 (IntKind.wrap .u64 (w64 (s218s0_0.1 + s218s0_0.2))) 1)))), (31, .d (Bo (decide ((F219 y2 x1) < 0))))] [.box 119 [I x1.Kind, I x1.Number]] hC ⟨row_get h3, ⟨e219, (k219 y2 x1 _ rfl)⟩, trivial⟩ ⟨h1, trivial⟩ (by kernel_rfl) ?_
      rcases boolC (decide ((F219 y2 x1) < 0)) with h4 | h4
      · replace h := condT h4 h
        exact WI_end (bs := [(decide ((F219 y2 x1) < 0), true)]) (φ := fun s' => k218s0_0b = .next s') (st' := (st218s0_0 x0)) (R' := (R218s0_0 x1)) mixed lv218s0 24 [true] [] [] 0 [0] (w64 ((w64 (shrI .u64 (IntKind.wrap .u64 (w64 (s218s0_0.1 + s218s0_0.2))) 1)) + 1), s218s0_0.2) hC trivial ⟨h4, trivial⟩ (by kernel_rfl) (by kernel_rfl) (Option.some.inj h).symm
      · replace h := condF h4 h
        exact WI_end (bs := [(decide ((F219 y2 x1) < 0), false)]) (φ := fun s' => k218s0_0b = .next s') (st' := (st218s0_0 x0)) (R' := (R218s0_0 x1)) mixed lv218s0 24 [false] [] [] 0 [0] (s218s0_0.1, w64 (shrI .u64 (IntKind.wrap .u64 (w64 (s218s0_0.1 + s218s0_0.2))) 1)) hC trivial ⟨h4, trivial⟩ (by kernel_rfl) (by kernel_rfl) (Option.some.inj h).symm
    · replace h := condF h1 h
      exact WI_end (bs := [(decide (s218s0_0.1 < s218s0_0.2), false)]) (φ := fun s' => k218s0_0 = .next s') (st' := (sa218s0_0 x0)) (R' := (Ra218s0_0 x1)) mixed lv218s0 26 [false] [] [] 0 [0] (s218s0_0.1, s218s0_0.2) hC trivial ⟨h1, trivial⟩ (by kernel_rfl) (by kernel_rfl) (hb218s0_0 _ (Option.some.inj h).symm)
  · have h := hnext218s0_0 _ hs218s0_0
    obtain ⟨y5, h6, h⟩ := bindE h
    replace h := Option.some.inj h
    subst h
    exact WI_ret (bs := []) mixed lv218s0 23 [] [.when [(decide (s218s0_0.1 < (x0.length : Int)), true)] (.row (x0.map api_Part.ps) s218s0_0.1 (api_Part.ps y5)), .when [(decide (s218s0_0.1 < (x0.length : Int)), true)] (.call 219 [.agg [I y5.Kind, I y5.Number], .agg [I x1.Kind, I x1.Number]] [] (.d (I (F219 y5 x1))) [] [])] [] [.tmp 6, .tmp 7] 0 [] rfl hC ⟨fun hg => row_get (guardO_get h6 hg), fun hg => ⟨e219, (k219 y5 x1 _ rfl)⟩, trivial⟩ trivial (by kernel_rfl)
theorem e218s0 : Enters Tryz.prog 218 := Go.SL.enters_of Tryz.func218 (by kernel_rfl) (by kernel_rfl)
def lv282s1 : List Nat := [0, 1, 2, 3, 4, 10, 11, 20, 23]
def st282s1_0 (x2 : Int) (s282s1_0 : Sg2) : St := [(0, .d (.os 0)), (2, .d (I x2)), (4, .d (.fn (.func 231) [] [.o 1 0])), (10, .d (I s282s1_0.1)), (11, .d (I s282s1_0.2.2.2.2.2.2.2.2))]
def R282s1_0  (s282s1_0 : Sg2) : List Res := [.sl 3 1 (s282s1_0.2.1.map pI), .box 29 [I s282s1_0.2.2.1, DS api_Breaker.ps s282s1_0.2.2.2.1, DS api_Source.ps s282s1_0.2.2.2.2.1, DS api_Consumer.ps s282s1_0.2.2.2.2.2.1, I s282s1_0.2.2.2.2.2.2.1, I s282s1_0.2.2.2.2.2.2.2.1]]
def sa282s1_0 (x2 : Int) (s282s1_0 : Sg2) : St := [(0, .d (.os 0)), (2, .d (I x2)), (4, .d (.fn (.func 231) [] [.o 1 0])), (10, .d (I s282s1_0.1))]
def Ra282s1_0  (s282s1_0 : Sg2) : List Res := [.sl 3 1 (s282s1_0.2.1.map pI), .box 29 [I s282s1_0.2.2.1, DS api_Breaker.ps s282s1_0.2.2.2.1, DS api_Source.ps s282s1_0.2.2.2.2.1, DS api_Consumer.ps s282s1_0.2.2.2.2.2.1, I s282s1_0.2.2.2.2.2.2.1, I s282s1_0.2.2.2.2.2.2.2.1]]
theorem k282s1 (x0 : List Int) (x1 : Int) (x2 : Int) (x3 : Int) (x4c0 : api_Board) (r : (List Int) × api_Board) (h : F282s1 x0 x1 x2 x3 x4c0 = some r) : CallOk Tryz.prog 282 [.d (.os 0), .d (I x1), .d (I x2), .d (I x3), .d (.fn (.func 231) [] [.o 1 0])] [.sl 3 1 (x0.map pI), .box 29 [I x4c0.Buses, DS api_Breaker.ps x4c0.Breakers, DS api_Source.ps x4c0.Sources, DS api_Consumer.ps x4c0.Consumers, I x4c0.Phase, I x4c0.Frequency]] (.tup []) [.sl 3 1 (r.1.map pI), .box 29 [I r.2.Buses, DS api_Breaker.ps r.2.Breakers, DS api_Source.ps r.2.Sources, DS api_Consumer.ps r.2.Consumers, I r.2.Phase, I r.2.Frequency]] := by
  unfold F282s1 at h
  refine callOk_of 58 Tryz.func282 rfl rfl rfl fun C hC => ?_
  refine WI_stop (bs := []) mixed lv282s1 26 [] [] [] 2 [0, 1] (st282s1_0 x2 (w64 (x2 - x1), x0, x4c0.Buses, x4c0.Breakers, x4c0.Sources, x4c0.Consumers, x4c0.Phase, x4c0.Frequency, w64 (x3 - x2))) (R282s1_0 (w64 (x2 - x1), x0, x4c0.Buses, x4c0.Breakers, x4c0.Sources, x4c0.Consumers, x4c0.Phase, x4c0.Frequency, w64 (x3 - x2))) hC trivial trivial (by kernel_rfl) ?_
  obtain ⟨k282s1_0, hm282s1_0, hret282s1_0, hnext282s1_0⟩ := andThen_inv h
  clear h
  refine WI_cut (by kernel_rfl) (fun s => k282s1_0 = .next s) (sa282s1_0 x2) (Ra282s1_0) ?_ fun s282s1_0 hs282s1_0 => ?_
  · refine WI_blk (by kernel_rfl) ?_
    refine WI_while (by kernel_rfl) (F282s1_l0 x2) (st282s1_0 x2) (R282s1_0) k282s1_0 1152921504606846976 (w64 (x2 - x1), x0, x4c0.Buses, x4c0.Breakers, x4c0.Sources, x4c0.Consumers, x4c0.Phase, x4c0.Frequency, w64 (x3 - x2)) hm282s1_0 rfl rfl fun s282s1_0 k282s1_0b h hb282s1_0 hr282s1_0 => ?_
    unfold F282s1_l0 at h
    rcases boolC ((s282s1_0.1 != s282s1_0.2.2.2.2.2.2.2.2)) with h1 | h1
    · replace h := condT h1 h
      rcases boolC ((c282s1_2 s282s1_0)) with h2 | h2
      · replace h := condT h2 h
        obtain ⟨y3, h4, h⟩ := bindE h
        exact WI_end (bs := [((s282s1_0.1 != s282s1_0.2.2.2.2.2.2.2.2), true), ((c282s1_2 s282s1_0), true)]) (φ := fun s' => k282s1_0b = .next s') (st' := (st282s1_0 x2)) (R' := (R282s1_0)) mixed lv282s1 34 [true, true] [.call 283 [.d (.os 0), .d (I (w64 (x2 - s282s1_0.1))), .d (I x2), .d (I s282s1_0.2.2.2.2.2.2.2.2), .d (.fn (.func 231) [] [.o 1 0])] [.sl 3 1 (s282s1_0.2.1.map pI), .box 29 [I s282s1_0.2.2.1, DS api_Breaker.ps s282s1_0.2.2.2.1, DS api_Source.ps s282s1_0.2.2.2.2.1, DS api_Consumer.ps s282s1_0.2.2.2.2.2.1, I s282s1_0.2.2.2.2.2.2.1, I s282s1_0.2.2.2.2.2.2.2.1]] (.tup []) [.sl 3 1 (y3.1.map pI), .box 29 [I y3.2.Buses, DS api_Breaker.ps y3.2.Breakers, DS api_Source.ps y3.2.Sources, DS api_Consumer.ps y3.2.Consumers, I y3.2.Phase, I y3.2.Frequency]] [0, 1]] [] 2 [0, 1] (w64 (s282s1_0.1 - s282s1_0.2.2.2.2.2.2.2.2), y3.1, y3.2.Buses, y3.2.Breakers, y3.2.Sources, y3.2.Consumers, y3.2.Phase, y3.2.Frequency, s282s1_0.2.2.2.2.2.2.2.2) hC ⟨⟨e283s1, (k283s1 s282s1_0.2.1 (w64 (x2 - s282s1_0.1)) x2 s282s1_0.2.2.2.2.2.2.2.2 (⟨s282s1_0.2.2.1, s282s1_0.2.2.2.1, s282s1_0.2.2.2.2.1, s282s1_0.2.2.2.2.2.1, s282s1_0.2.2.2.2.2.2.1, s282s1_0.2.2.2.2.2.2.2.1⟩ : api_Board) _ h4)⟩, trivial⟩ ⟨h1, h2, trivial⟩ (by kernel_rfl) (by kernel_rfl) (Option.some.inj h).symm
      · replace h := condF h2 h
        obtain ⟨y5, h6, h⟩ := bindE h
        exact WI_end (bs := [((s282s1_0.1 != s282s1_0.2.2.2.2.2.2.2.2), true), ((c282s1_2 s282s1_0), false)]) (φ := fun s' => k282s1_0b = .next s') (st' := (st282s1_0 x2)) (R' := (R282s1_0)) mixed lv282s1 34 [true, false] [.call 283 [.d (.os 0), .d (I (w64 (x2 - s282s1_0.1))), .d (I (w64 ((w64 (x2 + s282s1_0.2.2.2.2.2.2.2.2)) - s282s1_0.1))), .d (I s282s1_0.1), .d (.fn (.func 231) [] [.o 1 0])] [.sl 3 1 (s282s1_0.2.1.map pI), .box 29 [I s282s1_0.2.2.1, DS api_Breaker.ps s282s1_0.2.2.2.1, DS api_Source.ps s282s1_0.2.2.2.2.1, DS api_Consumer.ps s282s1_0.2.2.2.2.2.1, I s282s1_0.2.2.2.2.2.2.1, I s282s1_0.2.2.2.2.2.2.2.1]] (.tup []) [.sl 3 1 (y5.1.map pI), .box 29 [I y5.2.Buses, DS api_Breaker.ps y5.2.Breakers, DS api_Source.ps y5.2.Sources, DS api_Consumer.ps y5.2.Consumers, I y5.2.Phase, I y5.2.Frequency]] [0, 1]] [] 2 [0, 1] (s282s1_0.1, y5.1, y5.2.Buses, y5.2.Breakers, y5.2.Sources, y5.2.Consumers, y5.2.Phase, y5.2.Frequency, w64 (s282s1_0.2.2.2.2.2.2.2.2 - s282s1_0.1)) hC ⟨⟨e283s1, (k283s1 s282s1_0.2.1 (w64 (x2 - s282s1_0.1)) (w64 ((w64 (x2 + s282s1_0.2.2.2.2.2.2.2.2)) - s282s1_0.1)) s282s1_0.1 (⟨s282s1_0.2.2.1, s282s1_0.2.2.2.1, s282s1_0.2.2.2.2.1, s282s1_0.2.2.2.2.2.1, s282s1_0.2.2.2.2.2.2.1, s282s1_0.2.2.2.2.2.2.2.1⟩ : api_Board) _ h6)⟩, trivial⟩ ⟨h1, h2, trivial⟩ (by kernel_rfl) (by kernel_rfl) (Option.some.inj h).symm
    · replace h := condF h1 h
      exact WI_end (bs := [((s282s1_0.1 != s282s1_0.2.2.2.2.2.2.2.2), false)]) (φ := fun s' => k282s1_0 = .next s') (st' := (sa282s1_0 x2)) (R' := (Ra282s1_0)) mixed lv282s1 26 [false] [] [] 2 [0, 1] (s282s1_0.1, s282s1_0.2.1, s282s1_0.2.2.1, s282s1_0.2.2.2.1, s282s1_0.2.2.2.2.1, s282s1_0.2.2.2.2.2.1, s282s1_0.2.2.2.2.2.2.1, s282s1_0.2.2.2.2.2.2.2.1, s282s1_0.2.2.2.2.2.2.2.2) hC trivial ⟨h1, trivial⟩ (by kernel_rfl) (by kernel_rfl) (hb282s1_0 _ (Option.some.inj h).symm)
  · have h := hnext282s1_0 _ hs282s1_0
    obtain ⟨y7, h8, h⟩ := bindE h
    replace h := Option.some.inj h
    subst h
    exact WI_endF (bs := []) mixed lv282s1 21 [] [.call 283 [.d (.os 0), .d (I (w64 (x2 - s282s1_0.1))), .d (I x2), .d (I s282s1_0.1), .d (.fn (.func 231) [] [.o 1 0])] [.sl 3 1 (s282s1_0.2.1.map pI), .box 29 [I s282s1_0.2.2.1, DS api_Breaker.ps s282s1_0.2.2.2.1, DS api_Source.ps s282s1_0.2.2.2.2.1, DS api_Consumer.ps s282s1_0.2.2.2.2.2.1, I s282s1_0.2.2.2.2.2.2.1, I s282s1_0.2.2.2.2.2.2.2.1]] (.tup []) [.sl 3 1 (y7.1.map pI), .box 29 [I y7.2.Buses, DS api_Breaker.ps y7.2.Breakers, DS api_Source.ps y7.2.Sources, DS api_Consumer.ps y7.2.Consumers, I y7.2.Phase, I y7.2.Frequency]] [0, 1]] [] [] 2 [0, 1] rfl hC ⟨⟨e283s1, (k283s1 s282s1_0.2.1 (w64 (x2 - s282s1_0.1)) x2 s282s1_0.1 (⟨s282s1_0.2.2.1, s282s1_0.2.2.2.1, s282s1_0.2.2.2.2.1, s282s1_0.2.2.2.2.2.1, s282s1_0.2.2.2.2.2.2.1, s282s1_0.2.2.2.2.2.2.2.1⟩ : api_Board) _ h8)⟩, trivial⟩ trivial (by kernel_rfl) (by kernel_rfl)
theorem e282s1 : Enters Tryz.prog 282 := Go.SL.enters_of Tryz.func282 (by kernel_rfl) (by kernel_rfl)
def lv222s5 : List Nat := [0, 1, 4, 5, 6, 8, 13, 14, 15, 16, 32, 38, 39, 40, 41]
def st222s5_0 (x0 : shed_relief) (i222s5_0 : Nat) (s222s5_0 : (List Int)) : St := [(0, .d (.o 0 0)), (1, .d (.fn (.func 258) [] [.o 6 0])), (4, .d (.os 7)), (13, .d (DS api_Breaker.ps x0.board.Breakers)), (14, .d (I (x0.board.Breakers.length : Int))), (15, .d (I (cnt 0 i222s5_0)))]
def R222s5_0 (x0 : shed_relief) (x1c0 : Int) (i222s5_0 : Nat) (s222s5_0 : (List Int)) : List Res := [.box 244 [I x0.board.Buses, DS api_Breaker.ps x0.board.Breakers, DS api_Source.ps x0.board.Sources, DS api_Consumer.ps x0.board.Consumers, I x0.board.Phase, I x0.board.Frequency, .os 8, .os 9, .os 10, .os 11, .os 12], .non, .non, .non, .non, .non, .box 3 [I x1c0], .sl 3 1 (s222s5_0.map pI), .sl 4 1 (x0.power.Closed.map pB), .sl 59 4 (x0.power.Sources.map api_Running.ps), .sl 3 1 (x0.power.Limits.map pI), .sl 119 2 (x0.power.Broken.map api_Part.ps), .sl 42 3 (x0.acts.map api_Act.ps)]
def sa222s5_0  (s222s5_0 : (List Int)) : St := [(0, .d (.o 0 0)), (4, .d (.os 7))]
def Ra222s5_0 (x0 : shed_relief) (x1c0 : Int) (s222s5_0 : (List Int)) : List Res := [.box 244 [I x0.board.Buses, DS api_Breaker.ps x0.board.Breakers, DS api_Source.ps x0.board.Sources, DS api_Consumer.ps x0.board.Consumers, I x0.board.Phase, I x0.board.Frequency, .os 8, .os 9, .os 10, .os 11, .os 12], .non, .non, .non, .non, .non, .box 3 [I x1c0], .sl 3 1 (s222s5_0.map pI), .sl 4 1 (x0.power.Closed.map pB), .sl 59 4 (x0.power.Sources.map api_Running.ps), .sl 3 1 (x0.power.Limits.map pI), .sl 119 2 (x0.power.Broken.map api_Part.ps), .sl 42 3 (x0.acts.map api_Act.ps)]
def st222s5_1 (s222s5_0 : (List Int)) (i222s5_1 : Nat) (s222s5_1 : Sg4) : St := [(0, .d (.o 0 0)), (38, .d (.os 7)), (39, .d (I (s222s5_0.length : Int))), (40, .d (I (cnt 0 i222s5_1)))]
def R222s5_1 (x1c0 : Int) (s222s5_0 : (List Int)) (i222s5_1 : Nat) (s222s5_1 : Sg4) : List Res := [.box 244 [I s222s5_1.1, DS api_Breaker.ps s222s5_1.2.1, DS api_Source.ps s222s5_1.2.2.1, DS api_Consumer.ps s222s5_1.2.2.2.1, I s222s5_1.2.2.2.2.1, I s222s5_1.2.2.2.2.2.1, .os 8, .os 9, .os 10, .os 11, .os 12], .non, .non, .non, .non, .non, .box 3 [I x1c0], .sl 3 1 (s222s5_0.map pI), .sl 4 1 (s222s5_1.2.2.2.2.2.2.1.map pB), .sl 59 4 (s222s5_1.2.2.2.2.2.2.2.1.map api_Running.ps), .sl 3 1 (s222s5_1.2.2.2.2.2.2.2.2.1.map pI), .sl 119 2 (s222s5_1.2.2.2.2.2.2.2.2.2.1.map api_Part.ps), .sl 42 3 (s222s5_1.2.2.2.2.2.2.2.2.2.2.map api_Act.ps)]
def sa222s5_1  (s222s5_1 : Sg4) : St := []
def Ra222s5_1 (x1c0 : Int) (s222s5_1 : Sg4) : List Res := [.box 244 [I s222s5_1.1, DS api_Breaker.ps s222s5_1.2.1, DS api_Source.ps s222s5_1.2.2.1, DS api_Consumer.ps s222s5_1.2.2.2.1, I s222s5_1.2.2.2.2.1, I s222s5_1.2.2.2.2.2.1, .os 7, .os 8, .os 9, .os 10, .os 11], .non, .non, .non, .non, .non, .box 3 [I x1c0], .sl 4 1 (s222s5_1.2.2.2.2.2.2.1.map pB), .sl 59 4 (s222s5_1.2.2.2.2.2.2.2.1.map api_Running.ps), .sl 3 1 (s222s5_1.2.2.2.2.2.2.2.2.1.map pI), .sl 119 2 (s222s5_1.2.2.2.2.2.2.2.2.2.1.map api_Part.ps), .sl 42 3 (s222s5_1.2.2.2.2.2.2.2.2.2.2.map api_Act.ps)]
theorem k222s5 (x0 : shed_relief) (x1c0 : Int) (r : shed_relief × Int) (h : F222s5 x0 x1c0 = some r) : CallOk Tryz.prog 222 [.d (.o 0 0), .d (.fn (.func 258) [] [.o 6 0])] [.box 244 [I x0.board.Buses, DS api_Breaker.ps x0.board.Breakers, DS api_Source.ps x0.board.Sources, DS api_Consumer.ps x0.board.Consumers, I x0.board.Phase, I x0.board.Frequency, .os 1, .os 2, .os 3, .os 4, .os 5], .sl 4 1 (x0.power.Closed.map pB), .sl 59 4 (x0.power.Sources.map api_Running.ps), .sl 3 1 (x0.power.Limits.map pI), .sl 119 2 (x0.power.Broken.map api_Part.ps), .sl 42 3 (x0.acts.map api_Act.ps), .box 3 [I x1c0]] (.tup []) [.box 244 [I r.1.board.Buses, DS api_Breaker.ps r.1.board.Breakers, DS api_Source.ps r.1.board.Sources, DS api_Consumer.ps r.1.board.Consumers, I r.1.board.Phase, I r.1.board.Frequency, .os 7, .os 8, .os 9, .os 10, .os 11], .non, .non, .non, .non, .non, .box 3 [I r.2], .sl 4 1 (r.1.power.Closed.map pB), .sl 59 4 (r.1.power.Sources.map api_Running.ps), .sl 3 1 (r.1.power.Limits.map pI), .sl 119 2 (r.1.power.Broken.map api_Part.ps), .sl 42 3 (r.1.acts.map api_Act.ps)] := by
  unfold F222s5 at h
  refine callOk_of 48 Tryz.func222 rfl rfl rfl fun C hC => ?_
  refine WI_stop (bs := []) mixed lv222s5 26 [] [.len ((x0.board.Breakers.map api_Breaker.ps).length : Int) (x0.board.Breakers.length : Int)] [.own 4 3 1, .mv 1, .mv 2, .mv 3, .mv 4, .mv 5] 7 [0, 1, 2, 3, 4, 5, 6, 7, 8, 9, 10, 11, 12] (st222s5_0 x0 0 ([] : List Int)) (R222s5_0 x0 x1c0 0 ([] : List Int)) hC ⟨len_map _ _, trivial⟩ trivial (by kernel_rfl) ?_
  obtain ⟨k222s5_0, hm222s5_0, hret222s5_0, hnext222s5_0⟩ := andThen_inv h
  clear h
  refine WI_cut (by kernel_rfl) (fun s => k222s5_0 = .next s) (sa222s5_0) (Ra222s5_0 x0 x1c0) ?_ fun s222s5_0 hs222s5_0 => ?_
  · refine WI_blk (by kernel_rfl) ?_
    refine WI_len 13 rfl fun hl222s5_0 => ?_
    refine WI_foldI (by kernel_rfl) (F222s5_l0 x0 x1c0) (st222s5_0 x0) (R222s5_0 x0 x1c0) k222s5_0 x0.board.Breakers ([] : List Int) hm222s5_0 rfl rfl (fun s222s5_0 hn222s5_0 => ?_) fun i222s5_0 x222s5_0 s222s5_0 k222s5_0b hi222s5_0 hx222s5_0 h hb222s5_0 hr222s5_0 => ?_
    · clear hm222s5_0
      exact WI_end (bs := [(decide ((cnt 0 x0.board.Breakers.length) < (x0.board.Breakers.length : Int)), false)]) (φ := fun s' => k222s5_0 = .next s') (st' := (sa222s5_0)) (R' := (Ra222s5_0 x0 x1c0)) mixed lv222s5 26 [false] [] [] 7 [0, 1, 2, 3, 4, 5, 6, 7, 8, 9, 10, 11, 12] s222s5_0 hC trivial ⟨(cnt_end hl222s5_0), trivial⟩ (by kernel_rfl) (by kernel_rfl) hn222s5_0
    · unfold F222s5_l0 at h
      obtain ⟨y1, h2, h⟩ := bindE h
      refine WI_stop (bs := [(decide ((cnt 0 i222s5_0) < (x0.board.Breakers.length : Int)), true)]) mixed lv222s5 32 [true] [.row (x0.board.Breakers.map api_Breaker.ps) (cnt 0 i222s5_0) (api_Breaker.ps x222s5_0), .row (x0.power.Closed.map pB) (cnt 0 i222s5_0) (pB y1), .row (x0.power.Closed.map pB) (((Int.toNat (cnt 0 i222s5_0)) : Nat) : Int) (pB y1), .when [(y1, true)] (.callB 258 [.agg [I x222s5_0.Kind, I x222s5_0.A, I x222s5_0.B], .d (.ip [.v (.int .i64 x1c0)])] (.d (Bo (F258s0 x222s5_0 x1c0))) [[]] 0 [])] [] 7 [0, 1, 2, 3, 4, 5, 6, 7, 8, 9, 10, 11, 12] [(0, .d (.o 0 0)), (1, .d (.fn (.func 258) [] [.o 6 0])), (4, .d (.os 7)), (5, .d (I (cnt 0 i222s5_0))), (13, .d (DS api_Breaker.ps x0.board.Breakers)), (14, .d (I (x0.board.Breakers.length : Int))), (15, .d (I (cnt 0 i222s5_0))), (32, .d (Bo (y1 && (F258s0 x222s5_0 x1c0))))] [.box 244 [I x0.board.Buses, DS api_Breaker.ps x0.board.Breakers, DS api_Source.ps x0.board.Sources, DS api_Consumer.ps x0.board.Consumers, I x0.board.Phase, I x0.board.Frequency, .os 8, .os 9, .os 10, .os 11, .os 12], .non, .non, .non, .non, .non, .box 3 [I x1c0], .sl 3 1 (s222s5_0.map pI), .sl 4 1 (x0.power.Closed.map pB), .sl 59 4 (x0.power.Sources.map api_Running.ps), .sl 3 1 (x0.power.Limits.map pI), .sl 119 2 (x0.power.Broken.map api_Part.ps), .sl 42 3 (x0.acts.map api_Act.ps)] hC ⟨(row_cnt hx222s5_0 hl222s5_0), row_get h2, row_getN h2, fun hg => lend0_get ⟨e258s0, (k258s0 x222s5_0 x1c0 _ rfl)⟩, trivial⟩ ⟨(cnt_lt hi222s5_0 hl222s5_0), trivial⟩ (by kernel_rfl) ?_
      rcases boolC ((y1 && (F258s0 x222s5_0 x1c0))) with h3 | h3
      · replace h := condT h3 h
        obtain ⟨y4, h5, h⟩ := bindE h
        exact WI_end (bs := [((y1 && (F258s0 x222s5_0 x1c0)), true)]) (φ := fun s' => k222s5_0b = .next s') (st' := (st222s5_0 x0 (i222s5_0 + 1))) (R' := (R222s5_0 x0 x1c0 (i222s5_0 + 1))) mixed lv222s5 25 [true] [.app (s222s5_0.map pI) ([cnt 0 i222s5_0].map pI) 1 (((s222s5_0.map pI).length + ([cnt 0 i222s5_0].map pI).length) * (8 + 1)) (y4.map pI)] [] 7 [0, 1, 2, 3, 4, 5, 6, 13, 8, 9, 10, 11, 12] y4 hC ⟨app_get pI 1 (fun _ => rfl) h5, trivial⟩ ⟨h3, trivial⟩ (by kernel_rfl) (by kernel_rfl) (Option.some.inj h).symm
      · replace h := condF h3 h
        exact WI_end (bs := [((y1 && (F258s0 x222s5_0 x1c0)), false)]) (φ := fun s' => k222s5_0b = .next s') (st' := (st222s5_0 x0 (i222s5_0 + 1))) (R' := (R222s5_0 x0 x1c0 (i222s5_0 + 1))) mixed lv222s5 25 [false] [] [] 7 [0, 1, 2, 3, 4, 5, 6, 7, 8, 9, 10, 11, 12] s222s5_0 hC trivial ⟨h3, trivial⟩ (by kernel_rfl) (by kernel_rfl) (Option.some.inj h).symm
  · have h := hnext222s5_0 _ hs222s5_0
    refine WI_stop (bs := []) mixed lv222s5 23 [] [.len ((s222s5_0.map pI).length : Int) (s222s5_0.length : Int)] [] 7 [0, 1, 2, 3, 4, 5, 6, 7, 8, 9, 10, 11, 12] (st222s5_1 s222s5_0 0 (x0.board.Buses, x0.board.Breakers, x0.board.Sources, x0.board.Consumers, x0.board.Phase, x0.board.Frequency, x0.power.Closed, x0.power.Sources, x0.power.Limits, x0.power.Broken, x0.acts)) (R222s5_1 x1c0 s222s5_0 0 (x0.board.Buses, x0.board.Breakers, x0.board.Sources, x0.board.Consumers, x0.board.Phase, x0.board.Frequency, x0.power.Closed, x0.power.Sources, x0.power.Limits, x0.power.Broken, x0.acts)) hC ⟨len_map _ _, trivial⟩ trivial (by kernel_rfl) ?_
    obtain ⟨k222s5_1, hm222s5_1, hret222s5_1, hnext222s5_1⟩ := andThen_inv h
    clear h
    refine WI_cut (by kernel_rfl) (fun s => k222s5_1 = .next s) (sa222s5_1) (Ra222s5_1 x1c0) ?_ fun s222s5_1 hs222s5_1 => ?_
    · refine WI_blk (by kernel_rfl) ?_
      refine WI_lenO 38 7 rfl rfl fun hl222s5_1 => ?_
      refine WI_foldI (by kernel_rfl) F222s5_l1 (st222s5_1 s222s5_0) (R222s5_1 x1c0 s222s5_0) k222s5_1 s222s5_0 (x0.board.Buses, x0.board.Breakers, x0.board.Sources, x0.board.Consumers, x0.board.Phase, x0.board.Frequency, x0.power.Closed, x0.power.Sources, x0.power.Limits, x0.power.Broken, x0.acts) hm222s5_1 rfl rfl (fun s222s5_1 hn222s5_1 => ?_) fun i222s5_1 x222s5_1 s222s5_1 k222s5_1b hi222s5_1 hx222s5_1 h hb222s5_1 hr222s5_1 => ?_
      · clear hm222s5_1
        exact WI_end (bs := [(decide ((cnt 0 s222s5_0.length) < (s222s5_0.length : Int)), false)]) (φ := fun s' => k222s5_1 = .next s') (st' := (sa222s5_1)) (R' := (Ra222s5_1 x1c0)) mixed lv222s5 26 [false] [] [] 7 [0, 1, 2, 3, 4, 5, 6, 8, 9, 10, 11, 12] (s222s5_1.1, s222s5_1.2.1, s222s5_1.2.2.1, s222s5_1.2.2.2.1, s222s5_1.2.2.2.2.1, s222s5_1.2.2.2.2.2.1, s222s5_1.2.2.2.2.2.2.1, s222s5_1.2.2.2.2.2.2.2.1, s222s5_1.2.2.2.2.2.2.2.2.1, s222s5_1.2.2.2.2.2.2.2.2.2.1, s222s5_1.2.2.2.2.2.2.2.2.2.2) hC trivial ⟨(cnt_end hl222s5_1), trivial⟩ (by kernel_rfl) (by kernel_rfl) hn222s5_1
      · unfold F222s5_l1 at h
        obtain ⟨y6, h7, h⟩ := bindE h
        exact WI_end (bs := [(decide ((cnt 0 i222s5_1) < (s222s5_0.length : Int)), true)]) (φ := fun s' => k222s5_1b = .next s') (st' := (st222s5_1 s222s5_0 (i222s5_1 + 1))) (R' := (R222s5_1 x1c0 s222s5_0 (i222s5_1 + 1))) mixed lv222s5 33 [true] [.row (s222s5_0.map pI) (cnt 0 i222s5_1) (pI x222s5_1), .row (s222s5_0.map pI) (((Int.toNat (cnt 0 i222s5_1)) : Nat) : Int) (pI x222s5_1), .call 255 [.d (.o 0 0), .d (I x222s5_1)] [.box 244 [I s222s5_1.1, DS api_Breaker.ps s222s5_1.2.1, DS api_Source.ps s222s5_1.2.2.1, DS api_Consumer.ps s222s5_1.2.2.2.1, I s222s5_1.2.2.2.2.1, I s222s5_1.2.2.2.2.2.1, .os 1, .os 2, .os 3, .os 4, .os 5], .sl 4 1 (s222s5_1.2.2.2.2.2.2.1.map pB), .sl 59 4 (s222s5_1.2.2.2.2.2.2.2.1.map api_Running.ps), .sl 3 1 (s222s5_1.2.2.2.2.2.2.2.2.1.map pI), .sl 119 2 (s222s5_1.2.2.2.2.2.2.2.2.2.1.map api_Part.ps), .sl 42 3 (s222s5_1.2.2.2.2.2.2.2.2.2.2.map api_Act.ps)] (.tup []) [.box 244 [I y6.board.Buses, DS api_Breaker.ps y6.board.Breakers, DS api_Source.ps y6.board.Sources, DS api_Consumer.ps y6.board.Consumers, I y6.board.Phase, I y6.board.Frequency, .os 1, .os 2, .os 3, .os 4, .os 6], .sl 4 1 (y6.power.Closed.map pB), .sl 59 4 (y6.power.Sources.map api_Running.ps), .sl 3 1 (y6.power.Limits.map pI), .sl 119 2 (y6.power.Broken.map api_Part.ps), .non, .sl 42 3 (y6.acts.map api_Act.ps)] [0, 8, 9, 10, 11, 12]] [] 7 [0, 1, 2, 3, 4, 5, 6, 7, 8, 9, 10, 11, 13] (y6.board.Buses, y6.board.Breakers, y6.board.Sources, y6.board.Consumers, y6.board.Phase, y6.board.Frequency, y6.power.Closed, y6.power.Sources, y6.power.Limits, y6.power.Broken, y6.acts) hC ⟨row_get (get_cnt hx222s5_1 hl222s5_1), row_getN (get_cnt hx222s5_1 hl222s5_1), ⟨e255s1, (k255s1 (⟨(⟨s222s5_1.1, s222s5_1.2.1, s222s5_1.2.2.1, s222s5_1.2.2.2.1, s222s5_1.2.2.2.2.1, s222s5_1.2.2.2.2.2.1⟩ : api_Board), (⟨s222s5_1.2.2.2.2.2.2.1, s222s5_1.2.2.2.2.2.2.2.1, s222s5_1.2.2.2.2.2.2.2.2.1, s222s5_1.2.2.2.2.2.2.2.2.2.1⟩ : api_Power), s222s5_1.2.2.2.2.2.2.2.2.2.2⟩ : shed_relief) x222s5_1 _ h7)⟩, trivial⟩ ⟨(cnt_lt hi222s5_1 hl222s5_1), trivial⟩ (by kernel_rfl) (by kernel_rfl) (Option.some.inj h).symm
    · have h := hnext222s5_1 _ hs222s5_1
      replace h := Option.some.inj h
      subst h
      exact WI_endF (bs := []) mixed lv222s5 20 [] [] [] [] 7 [0, 1, 2, 3, 4, 5, 6, 7, 8, 9, 10, 11] rfl hC trivial trivial (by kernel_rfl) (by kernel_rfl)
theorem e222s5 : Enters Tryz.prog 222 := Go.SL.enters_of Tryz.func222 (by kernel_rfl) (by kernel_rfl)
theorem k82 (x0 : api_Power) (x1 : api_Power) (r : Bool) (h : F82 x0 x1 = some r) : CallOk Tryz.prog 82 [.agg [DS pB x0.Closed, DS api_Running.ps x0.Sources, DS pI x0.Limits, DS api_Part.ps x0.Broken], .agg [DS pB x1.Closed, DS api_Running.ps x1.Sources, DS pI x1.Limits, DS api_Part.ps x1.Broken]] [] (.d (Bo r)) [] := by
  unfold F82 at h
  refine callOk_of 31 Tryz.func82 rfl rfl rfl fun C hC => ?_
  obtain ⟨y1, h2, h⟩ := bindE h
  obtain ⟨y3, h4, h⟩ := bindE h
  obtain ⟨y5, h6, h⟩ := bindE h
  obtain ⟨y7, h8, h⟩ := bindE h
  replace h := Option.some.inj h
  subst h
  exact WI_ret (bs := []) mixed [0, 1, 2, 3, 4] 25 [] [.call 159 [.d (DS pB x0.Closed), .d (DS pB x1.Closed)] [] (.d (Bo y1)) [] [], .when [(y1, true)] (.call 160 [.d (DS api_Running.ps x0.Sources), .d (DS api_Running.ps x1.Sources)] [] (.d (Bo y3)) [] []), .when [((y1 && y3), true)] (.call 161 [.d (DS pI x0.Limits), .d (DS pI x1.Limits)] [] (.d (Bo y5)) [] []), .when [(((y1 && y3) && y5), true)] (.call 162 [.d (DS api_Part.ps x0.Broken), .d (DS api_Part.ps x1.Broken)] [] (.d (Bo y7)) [] [])] [] [.tmp 4] 0 [] rfl hC ⟨⟨e159, (k159 x0.Closed x1.Closed _ h2)⟩, fun hg => ⟨e160, (k160 x0.Sources x1.Sources _ (guardO_get h4 hg))⟩, fun hg => ⟨e161, (k161 x0.Limits x1.Limits _ (guardO_get h6 hg))⟩, fun hg => ⟨e162, (k162 x0.Broken x1.Broken _ (guardO_get h8 hg))⟩, trivial⟩ trivial (by kernel_rfl)
theorem e82 : Enters Tryz.prog 82 := Go.SL.enters_of Tryz.func82 (by kernel_rfl) (by kernel_rfl)
theorem k84 (x0 : List Bool) (x1 : Bool) (r : Bool) (h : F84 x0 x1 = some r) : CallOk Tryz.prog 84 [.d (DS pB x0), .d (Bo x1)] [] (.d (Bo r)) [] := by
  unfold F84 at h
  refine callOk_of 9 Tryz.func84 rfl rfl rfl fun C hC => ?_
  obtain ⟨y1, h2, h⟩ := bindE h
  replace h := Option.some.inj h
  subst h
  exact WI_ret (bs := []) mixed [0, 1, 4] 25 [] [.call 163 [.d (DS pB x0), .d (Bo x1)] [] (.d (I y1)) [] []] [] [.tmp 4] 0 [] rfl hC ⟨⟨e163, (k163 x0 x1 _ h2)⟩, trivial⟩ trivial (by kernel_rfl)
theorem e84 : Enters Tryz.prog 84 := Go.SL.enters_of Tryz.func84 (by kernel_rfl) (by kernel_rfl)
theorem k179 (x0 : Int) (x1 : Int) (r : Int × Int) (h : F179 x0 x1 = r) : CallOk Tryz.prog 179 [.d (.p (.v (.int .u64 x0))), .d (.p (.v (.int .u64 x1)))] [] (.tup [.d (.p (.v (.int .u64 r.1))), .d (.p (.v (.int .u64 r.2)))]) [] := by
  unfold F179 at h
  refine callOk_of 30 Tryz.func179 rfl rfl rfl fun C hC => ?_
  subst h
  exact WI_ret (bs := [(false, false)]) mixed [0, 1, 4, 5, 6, 7, 8, 9] 30 [false] [.call 235 [.d (.p (.v (.int .u64 x0))), .d (.p (.v (.int .u64 x1)))] [] (.tup [.d (.p (.v (.int .u64 ((F235 x0 x1).1)))), .d (.p (.v (.int .u64 ((F235 x0 x1).2))))]) [] []] [] [.tmp 4, .tmp 5] 0 [] rfl hC ⟨⟨e235, (k235 x0 x1 _ rfl)⟩, trivial⟩ ⟨rfl, trivial⟩ (by kernel_rfl)
theorem e179 : Enters Tryz.prog 179 := Go.SL.enters_of Tryz.func179 (by kernel_rfl) (by kernel_rfl)
theorem k232s0 (x0 : List (List Int)) (r : Bool) (h : F232s0 x0 = some r) : CallOk Tryz.prog 232 [.d (DS (pL pI) x0), .d (.fn (.func 233) [] [])] [] (.d (Bo r)) [] := by
  unfold F232s0 at h
  refine callOk_of 9 Tryz.func232 rfl rfl rfl fun C hC => ?_
  obtain ⟨y1, h2, h⟩ := bindE h
  replace h := Option.some.inj h
  subst h
  exact WI_ret (bs := []) mixed [0, 1, 4] 25 [] [.call 260 [.d (DS (pL pI) x0), .d (.fn (.func 233) [] [])] [] (.d (I y1)) [] []] [] [.tmp 4] 0 [] rfl hC ⟨⟨e260s0, (k260s0 x0 _ h2)⟩, trivial⟩ trivial (by kernel_rfl)
theorem e232s0 : Enters Tryz.prog 232 := Go.SL.enters_of Tryz.func232 (by kernel_rfl) (by kernel_rfl)
def lv128 : List Nat := [0, 1, 2, 4, 5, 6, 7, 8, 9, 10, 49]
def st128_0 (x1 : List api_Part) (i128_0 : Nat) (s128_0 : Unit) : St := [(1, .d (DS api_Part.ps x1)), (2, .d (.o 0 0)), (4, .d (Bo false)), (7, .d (DS api_Part.ps x1)), (8, .d (I (x1.length : Int))), (9, .d (I (cnt 0 i128_0)))]
def R128_0 (x0 : api_Board) (i128_0 : Nat) (s128_0 : Unit) : List Res := [.box 29 [I x0.Buses, DS api_Breaker.ps x0.Breakers, DS api_Source.ps x0.Sources, DS api_Consumer.ps x0.Consumers, I x0.Phase, I x0.Frequency]]
def sa128_0 (x1 : List api_Part) (s128_0 : Unit) : St := [(1, .d (DS api_Part.ps x1)), (4, .d (Bo false))]
def Ra128_0  (s128_0 : Unit) : List Res := []
theorem k128 (x0 : api_Board) (x1 : List api_Part) (r : Bool) (h : F128 x0 x1 = some r) : CallOk Tryz.prog 128 [.agg [I x0.Buses, DS api_Breaker.ps x0.Breakers, DS api_Source.ps x0.Sources, DS api_Consumer.ps x0.Consumers, I x0.Phase, I x0.Frequency], .d (DS api_Part.ps x1)] [] (.d (Bo r)) [] := by
  unfold F128 at h
  refine callOk_of 54 Tryz.func128 rfl rfl rfl fun C hC => ?_
  refine WI_stop (bs := []) mixed lv128 26 [] [.len ((x1.map api_Part.ps).length : Int) (x1.length : Int)] [] 0 [0] (st128_0 x1 0 ()) (R128_0 x0 0 ()) hC ⟨len_map _ _, trivial⟩ trivial (by kernel_rfl) ?_
  obtain ⟨k128_0, hm128_0, hret128_0, hnext128_0⟩ := andThen_inv h
  clear h
  refine WI_cut (by kernel_rfl) (fun s => k128_0 = .next s) (sa128_0 x1) (Ra128_0) ?_ fun s128_0 hs128_0 => ?_
  · refine WI_blk (by kernel_rfl) ?_
    refine WI_len 7 rfl fun hl128_0 => ?_
    refine WI_foldI (by kernel_rfl) (F128_l0 x0 x1) (st128_0 x1) (R128_0 x0) k128_0 x1 () hm128_0 rfl rfl (fun s128_0 hn128_0 => ?_) fun i128_0 x128_0 s128_0 k128_0b hi128_0 hx128_0 h hb128_0 hr128_0 => ?_
    · clear hm128_0
      exact WI_end (bs := [(decide ((cnt 0 x1.length) < (x1.length : Int)), false)]) (φ := fun s' => k128_0 = .next s') (st' := (sa128_0 x1)) (R' := (Ra128_0)) mixed lv128 26 [false] [] [] 0 [] () hC trivial ⟨(cnt_end hl128_0), trivial⟩ (by kernel_rfl) (by kernel_rfl) hn128_0
    · unfold F128_l0 at h
      obtain ⟨y1, h2, h⟩ := bindE h
      obtain ⟨y3, h4, h⟩ := bindE h
      obtain ⟨y5, h6, h⟩ := bindE h
      refine WI_stop (bs := [(decide ((cnt 0 i128_0) < (x1.length : Int)), true)]) mixed lv128 32 [true] [.row (x1.map api_Part.ps) (cnt 0 i128_0) (api_Part.ps x128_0), .call 208 [.agg [I x0.Buses, DS api_Breaker.ps x0.Breakers, DS api_Source.ps x0.Sources, DS api_Consumer.ps x0.Consumers, I x0.Phase, I x0.Frequency], .d (I x128_0.Kind)] [] (.d (I (F208 x0 x128_0.Kind))) [] [], .call 132 [.d (I x128_0.Number), .d (I 0), .d (I (w64 ((F208 x0 x128_0.Kind) - 1)))] [] (.d (Bo (F132 x128_0.Number 0 (w64 ((F208 x0 x128_0.Kind) - 1))))) [] [], .when [(!(F132 x128_0.Number 0 (w64 ((F208 x0 x128_0.Kind) - 1))), false), (decide ((cnt 0 i128_0) > 0), true)] (.row (x1.map api_Part.ps) (w64 ((cnt 0 i128_0) - 1)) (api_Part.ps y1)), .when [(!(F132 x128_0.Number 0 (w64 ((F208 x0 x128_0.Kind) - 1))), false), (decide ((cnt 0 i128_0) > 0), true)] (.call 210 [.d (I y1.Kind), .d (I x128_0.Kind)] [] (.d (I (F210 y1.Kind x128_0.Kind))) [] []), .when [(!(F132 x128_0.Number 0 (w64 ((F208 x0 x128_0.Kind) - 1))), false), (decide ((cnt 0 i128_0) > 0), true)] (.row (x1.map api_Part.ps) (w64 ((cnt 0 i128_0) - 1)) (api_Part.ps y3)), .when [(!(F132 x128_0.Number 0 (w64 ((F208 x0 x128_0.Kind) - 1))), false), (decide ((cnt 0 i128_0) > 0), true)] (.call 210 [.d (I y3.Number), .d (I x128_0.Number)] [] (.d (I (F210 y3.Number x128_0.Number))) [] []), .when [(!(F132 x128_0.Number 0 (w64 ((F208 x0 x128_0.Kind) - 1))), false), (decide ((cnt 0 i128_0) > 0), true)] (.call 209 [.d (DS pI [F210 y1.Kind x128_0.Kind, F210 y3.Number x128_0.Number])] [] (.d (I y5)) [] [])] [] 0 [0] [(1, .d (DS api_Part.ps x1)), (2, .d (.o 0 0)), (4, .d (Bo false)), (7, .d (DS api_Part.ps x1)), (8, .d (I (x1.length : Int))), (9, .d (I (cnt 0 i128_0))), (49, .d (Bo (c128_1 x0 i128_0 x128_0 y5)))] [.box 29 [I x0.Buses, DS api_Breaker.ps x0.Breakers, DS api_Source.ps x0.Sources, DS api_Consumer.ps x0.Consumers, I x0.Phase, I x0.Frequency]] hC ⟨(row_cnt hx128_0 hl128_0), ⟨e208, (k208 x0 x128_0.Kind _ rfl)⟩, ⟨e132, (k132 x128_0.Number 0 (w64 ((F208 x0 x128_0.Kind) - 1)) _ rfl)⟩, fun hg => row_get (guardO_get h2 hg), fun hg => ⟨e210, (k210 y1.Kind x128_0.Kind _ rfl)⟩, fun hg => row_get (guardO_get h4 hg), fun hg => ⟨e210, (k210 y3.Number x128_0.Number _ rfl)⟩, fun hg => ⟨e209, (k209 [F210 y1.Kind x128_0.Kind, F210 y3.Number x128_0.Number] _ (guardO_get h6 hg))⟩, trivial⟩ ⟨(cnt_lt hi128_0 hl128_0), trivial⟩ (by kernel_rfl) ?_
      rcases boolC ((c128_1 x0 i128_0 x128_0 y5)) with h7 | h7
      · replace h := condT h7 h
        have hq := hret128_0 _ (hr128_0 _ (Option.some.inj h).symm)
        replace hq := Option.some.inj hq
        subst hq
        exact WI_ret (bs := [((c128_1 x0 i128_0 x128_0 y5), true)]) mixed lv128 24 [true] [] [] [.tmp 4] 0 [] rfl hC trivial ⟨h7, trivial⟩ (by kernel_rfl)
      · replace h := condF h7 h
        exact WI_end (bs := [((c128_1 x0 i128_0 x128_0 y5), false)]) (φ := fun s' => k128_0b = .next s') (st' := (st128_0 x1 (i128_0 + 1))) (R' := (R128_0 x0 (i128_0 + 1))) mixed lv128 25 [false] [] [] 0 [0] () hC trivial ⟨h7, trivial⟩ (by kernel_rfl) (by kernel_rfl) (Option.some.inj h).symm
  · have h := hnext128_0 _ hs128_0
    replace h := Option.some.inj h
    subst h
    exact WI_ret (bs := []) mixed lv128 23 [] [.len ((x1.map api_Part.ps).length : Int) (x1.length : Int)] [] [.tmp 4] 0 [] rfl hC ⟨len_map _ _, trivial⟩ trivial (by kernel_rfl)
theorem e128 : Enters Tryz.prog 128 := Go.SL.enters_of Tryz.func128 (by kernel_rfl) (by kernel_rfl)
theorem k130 (x0 : api_Running) (r : Bool) (h : F130 x0 = r) : CallOk Tryz.prog 130 [.agg [I x0.State, I x0.Since, I x0.Frequency, I x0.Phase]] [] (.d (Bo r)) [] := by
  unfold F130 at h
  refine callOk_of 6 Tryz.func130 rfl rfl rfl fun C hC => ?_
  subst h
  exact WI_ret (bs := []) mixed [0, 1, 2] 25 [] [.call 131 [.agg [I x0.State, I x0.Since, I x0.Frequency, I x0.Phase]] [] (.d (Bo (F131 x0))) [] []] [] [.tmp 2] 0 [] rfl hC ⟨⟨e131, (k131 x0 _ rfl)⟩, trivial⟩ trivial (by kernel_rfl)
theorem e130 : Enters Tryz.prog 130 := Go.SL.enters_of Tryz.func130 (by kernel_rfl) (by kernel_rfl)
theorem k134 (x0 : api_Power) (x1 : Int) (x2 : Int) (r : Bool) (h : F134 x0 x1 x2 = some r) : CallOk Tryz.prog 134 [.agg [DS pB x0.Closed, DS api_Running.ps x0.Sources, DS pI x0.Limits, DS api_Part.ps x0.Broken], .d (I x1), .d (I x2)] [] (.d (Bo r)) [] := by
  unfold F134 at h
  refine callOk_of 13 Tryz.func134 rfl rfl rfl fun C hC => ?_
  obtain ⟨y1, h2, h⟩ := bindE h
  replace h := Option.some.inj h
  subst h
  exact WI_ret (bs := []) mixed [0, 1, 2, 3, 6] 25 [] [.call 212 [.d (DS api_Part.ps x0.Broken), .agg [I x1, I x2]] [] (.d (Bo y1)) [] []] [] [.tmp 6] 0 [] rfl hC ⟨⟨e212, (k212 x0.Broken (⟨x1, x2⟩ : api_Part) _ h2)⟩, trivial⟩ trivial (by kernel_rfl)
theorem e134 : Enters Tryz.prog 134 := Go.SL.enters_of Tryz.func134 (by kernel_rfl) (by kernel_rfl)
def lv189s1 : List Nat := [0, 1, 4, 5, 6, 7, 12, 19, 29]
def st189s1_0  (s189s1_0 : Int × Int × (List api_Island)) : St := [(0, .d (.os 0)), (1, .d (.fn (.func 190) [] [])), (4, .d (DS api_Island.ps [])), (5, .d (I s189s1_0.1)), (6, .d (I s189s1_0.2.1))]
def R189s1_0  (s189s1_0 : Int × Int × (List api_Island)) : List Res := [.sl 78 3 (s189s1_0.2.2.map api_Island.ps)]
def sa189s1_0  (s189s1_0 : Int × Int × (List api_Island)) : St := [(0, .d (.os 0)), (4, .d (DS api_Island.ps [])), (5, .d (I s189s1_0.1))]
def Ra189s1_0  (s189s1_0 : Int × Int × (List api_Island)) : List Res := [.sl 78 3 (s189s1_0.2.2.map api_Island.ps)]
theorem k189s1 (x0 : List api_Island) (r : (List api_Island)) (h : F189s1 x0 = some r) : CallOk Tryz.prog 189 [.d (.os 0), .d (.fn (.func 190) [] [])] [.sl 78 3 (x0.map api_Island.ps)] (.d (.os 1)) [.non, .sl 78 3 (r.map api_Island.ps)] := by
  unfold F189s1 at h
  refine callOk_of 42 Tryz.func189 rfl rfl rfl fun C hC => ?_
  obtain ⟨y1, h2, h⟩ := bindE h
  rcases boolC ((y1 == (-1))) with h3 | h3
  · replace h := condT h3 h
    replace h := Option.some.inj h
    subst h
    exact WI_ret (bs := [((y1 == (-1)), true)]) mixed lv189s1 31 [true] [.callB 185 [.d (DS api_Island.ps x0), .d (.fn (.func 190) [] [])] (.d (I y1)) [[]] 0 []] [.mv 0] [.tmp 4] 1 [0, 1] rfl hC ⟨lend0_get ⟨e185s0, (k185s0 x0 _ h2)⟩, trivial⟩ ⟨h3, trivial⟩ (by kernel_rfl)
  · replace h := condF h3 h
    refine WI_stop (bs := [((y1 == (-1)), false)]) mixed lv189s1 33 [false] [.callB 185 [.d (DS api_Island.ps x0), .d (.fn (.func 190) [] [])] (.d (I y1)) [[]] 0 []] [] 1 [0] (st189s1_0 (y1, w64 (y1 + 1), x0)) (R189s1_0 (y1, w64 (y1 + 1), x0)) hC ⟨lend0_get ⟨e185s0, (k185s0 x0 _ h2)⟩, trivial⟩ ⟨h3, trivial⟩ (by kernel_rfl) ?_
    obtain ⟨k189s1_0, hm189s1_0, hret189s1_0, hnext189s1_0⟩ := andThen_inv h
    clear h
    refine WI_cut (by kernel_rfl) (fun s => k189s1_0 = .next s) (sa189s1_0) (Ra189s1_0) ?_ fun s189s1_0 hs189s1_0 => ?_
    · refine WI_blk (by kernel_rfl) ?_
      refine WI_while (by kernel_rfl) F189s1_l0 (st189s1_0) (R189s1_0) k189s1_0 1152921504606846976 (y1, w64 (y1 + 1), x0) hm189s1_0 rfl rfl fun s189s1_0 k189s1_0b h hb189s1_0 hr189s1_0 => ?_
      unfold F189s1_l0 at h
      rcases boolC ((c189s1_2 s189s1_0)) with h4 | h4
      · replace h := condT h4 h
        obtain ⟨y5, h6, h⟩ := bindE h
        refine WI_stop (bs := [((c189s1_2 s189s1_0), true)]) mixed lv189s1 32 [true] [.len ((s189s1_0.2.2.map api_Island.ps).length : Int) (s189s1_0.2.2.length : Int), .row (s189s1_0.2.2.map api_Island.ps) s189s1_0.2.1 (api_Island.ps y5), .row (s189s1_0.2.2.map api_Island.ps) (((Int.toNat s189s1_0.2.1) : Nat) : Int) (api_Island.ps y5), .call 190 [.agg [DS pI y5.Buses, DS pI y5.Sources, DS pI y5.Consumers]] [] (.d (Bo (F190 y5))) [] []] [] 1 [0, 1] [(0, .d (.os 0)), (1, .d (.fn (.func 190) [] [])), (4, .d (DS api_Island.ps [])), (5, .d (I s189s1_0.1)), (6, .d (I s189s1_0.2.1)), (7, .d (.o 1 0)), (29, .d (Bo (!(F190 y5))))] [.sl 78 3 (s189s1_0.2.2.map api_Island.ps), .box 78 [DS pI y5.Buses, DS pI y5.Sources, DS pI y5.Consumers]] hC ⟨len_map _ _, row_get h6, row_getN h6, ⟨e190, (k190 y5 _ rfl)⟩, trivial⟩ ⟨h4, trivial⟩ (by kernel_rfl) ?_
        rcases boolC (!(F190 y5)) with h7 | h7
        · replace h := condT h7 h
          obtain ⟨y8, h9, h⟩ := bindE h
          obtain ⟨y10, h11, h⟩ := bindE h
          exact WI_end (bs := [(!(F190 y5), true)]) (φ := fun s' => k189s1_0b = .next s') (st' := (st189s1_0)) (R' := (R189s1_0)) mixed lv189s1 27 [true] [.row (s189s1_0.2.2.map api_Island.ps) s189s1_0.1 (api_Island.ps y8), .upd (s189s1_0.2.2.map api_Island.ps) (Int.toNat s189s1_0.1) (api_Island.ps y8) (api_Island.ps y5) (y10.map api_Island.ps)] [] 1 [0] (w64 (s189s1_0.1 + 1), w64 (s189s1_0.2.1 + 1), y10) hC ⟨row_get h9, upd_get h9 h11, trivial⟩ ⟨h7, trivial⟩ (by kernel_rfl) (by kernel_rfl) (Option.some.inj h).symm
        · replace h := condF h7 h
          exact WI_end (bs := [(!(F190 y5), false)]) (φ := fun s' => k189s1_0b = .next s') (st' := (st189s1_0)) (R' := (R189s1_0)) mixed lv189s1 25 [false] [] [] 1 [0] (s189s1_0.1, w64 (s189s1_0.2.1 + 1), s189s1_0.2.2) hC trivial ⟨h7, trivial⟩ (by kernel_rfl) (by kernel_rfl) (Option.some.inj h).symm
      · replace h := condF h4 h
        exact WI_end (bs := [((c189s1_2 s189s1_0), false)]) (φ := fun s' => k189s1_0 = .next s') (st' := (sa189s1_0)) (R' := (Ra189s1_0)) mixed lv189s1 26 [false] [.len ((s189s1_0.2.2.map api_Island.ps).length : Int) (s189s1_0.2.2.length : Int)] [] 1 [0] (s189s1_0.1, s189s1_0.2.1, s189s1_0.2.2) hC ⟨len_map _ _, trivial⟩ ⟨h4, trivial⟩ (by kernel_rfl) (by kernel_rfl) (hb189s1_0 _ (Option.some.inj h).symm)
    · have h := hnext189s1_0 _ hs189s1_0
      obtain ⟨u13, h12, h⟩ := bindE h
      obtain ⟨u15, h14, h⟩ := bindE h
      replace h := Option.some.inj h
      subst h
      (rw [List.map_take]; exact WI_ret (bs := []) mixed lv189s1 25 [] [.bnd (s189s1_0.2.2.map api_Island.ps).length s189s1_0.1 (((s189s1_0.2.2.map api_Island.ps).length : Nat) : Int) (s189s1_0.2.2.length : Int), .eqr ((s189s1_0.2.2.map api_Island.ps).take (Int.toNat s189s1_0.1) ++ (List.replicate ((Int.toNat (s189s1_0.2.2.length : Int)) - (Int.toNat s189s1_0.1)) (api_Island.ps (⟨([] : List Int), ([] : List Int), ([] : List Int)⟩ : api_Island)) ++ (s189s1_0.2.2.map api_Island.ps).drop ((Int.toNat s189s1_0.1) + ((Int.toNat (s189s1_0.2.2.length : Int)) - (Int.toNat s189s1_0.1))))) ((clrI s189s1_0.2.2 (Int.toNat s189s1_0.1) ((Int.toNat (s189s1_0.2.2.length : Int)) - (Int.toNat s189s1_0.1)) (⟨([] : List Int), ([] : List Int), ([] : List Int)⟩ : api_Island)).map api_Island.ps), .bnd ((clrI s189s1_0.2.2 (Int.toNat s189s1_0.1) ((Int.toNat (s189s1_0.2.2.length : Int)) - (Int.toNat s189s1_0.1)) (⟨([] : List Int), ([] : List Int), ([] : List Int)⟩ : api_Island)).map api_Island.ps).length 0 s189s1_0.1 s189s1_0.1] [.trunc 4] [.tmp 4] 1 [0, 1] rfl hC ⟨bnd_get (by simp) (by simp) h12, clr_get api_Island.ps rfl, bnd_get (by simp) rfl h14, trivial⟩ trivial (by kernel_rfl))
theorem e189s1 : Enters Tryz.prog 189 := Go.SL.enters_of Tryz.func189 (by kernel_rfl) (by kernel_rfl)
theorem k274 (x0 : api_Board) (x1 : api_Running) (x2 : api_Running) (r : Bool) (h : F274 x0 x1 x2 = r) : CallOk Tryz.prog 274 [.agg [I x0.Buses, DS api_Breaker.ps x0.Breakers, DS api_Source.ps x0.Sources, DS api_Consumer.ps x0.Consumers, I x0.Phase, I x0.Frequency], .agg [I x1.State, I x1.Since, I x1.Frequency, I x1.Phase], .agg [I x2.State, I x2.Since, I x2.Frequency, I x2.Phase]] [] (.d (Bo r)) [] := by
  unfold F274 at h
  refine callOk_of 52 Tryz.func274 rfl rfl rfl fun C hC => ?_
  rcases boolC ((c274_0 x1 x2)) with h1 | h1
  · replace h := condT h1 h
    subst h
    exact WI_ret (bs := [((c274_0 x1 x2), true)]) mixed [0, 1, 2, 3, 4, 5, 6, 7, 8, 22] 29 [true] [] [] [.tmp 6] 0 [] rfl hC trivial ⟨h1, trivial⟩ (by kernel_rfl)
  · replace h := condF h1 h
    subst h
    exact WI_ret (bs := [((c274_0 x1 x2), false)]) mixed [0, 1, 2, 3, 4, 5, 6, 7, 8, 22] 34 [false] [.call 280 [.d (I x1.Phase), .d (I x2.Phase)] [] (.d (I (F280 x1.Phase x2.Phase))) [] []] [] [.tmp 6] 0 [] rfl hC ⟨⟨e280, (k280 x1.Phase x2.Phase _ rfl)⟩, trivial⟩ ⟨h1, trivial⟩ (by kernel_rfl)
theorem e274 : Enters Tryz.prog 274 := Go.SL.enters_of Tryz.func274 (by kernel_rfl) (by kernel_rfl)
theorem k67 (x0 : api_Board) (x1 : Int) (r : Int) (h : F67 x0 x1 = some r) : CallOk Tryz.prog 67 [.agg [I x0.Buses, DS api_Breaker.ps x0.Breakers, DS api_Source.ps x0.Sources, DS api_Consumer.ps x0.Consumers, I x0.Phase, I x0.Frequency], .d (I x1)] [] (.d (I r)) [] := by
  unfold F67 at h
  refine callOk_of 9 Tryz.func67 rfl rfl rfl fun C hC => ?_
  obtain ⟨y1, h2, h⟩ := bindE h
  replace h := Option.some.inj h
  subst h
  exact WI_ret (bs := []) mixed [0, 1, 2, 3, 4] 25 [] [.call 135 [.d (DS api_Breaker.ps x0.Breakers), .d (.fn (.func 136) [] [.o 0 0])] [.box 3 [I x1]] (.d (I y1.1)) [.box 3 [I y1.2]] [1]] [] [.tmp 4] 0 [] rfl hC ⟨⟨e135s1, (k135s1 x0.Breakers x1 _ h2)⟩, trivial⟩ trivial (by kernel_rfl)
theorem e67 : Enters Tryz.prog 67 := Go.SL.enters_of Tryz.func67 (by kernel_rfl) (by kernel_rfl)
def lv149s1 : List Nat := [0, 1, 2, 4, 6, 7, 8, 32, 36, 47, 64, 74]
def sa149s1_0 (x2 : Bool) (s149s1_0 : (List api_Part)) : St := [(0, .d (.o 0 0)), (2, .d (Bo x2)), (4, .d (.o 5 0)), (6, .d (I 0))]
def Ra149s1_0 (x0 : restore_worker) (x1 : api_Part) (s149s1_0 : (List api_Part)) : List Res := [.box 130 [I x0.board.Buses, DS api_Breaker.ps x0.board.Breakers, DS api_Source.ps x0.board.Sources, DS api_Consumer.ps x0.board.Consumers, I x0.board.Phase, I x0.board.Frequency, .os 6, .os 7, .os 8, .os 9, I x0.time], .non, .non, .non, .non, .box 119 [I x1.Kind, I x1.Number], .sl 4 1 (x0.power.Closed.map pB), .sl 59 4 (x0.power.Sources.map api_Running.ps), .sl 3 1 (x0.power.Limits.map pI), .sl 119 2 (s149s1_0.map api_Part.ps)]
theorem k149s1 (x0 : restore_worker) (x1 : api_Part) (x2 : Bool) (r : Int × restore_worker) (h : F149s1 x0 x1 x2 = some r) : CallOk Tryz.prog 149 [.d (.o 0 0), .agg [I x1.Kind, I x1.Number], .d (Bo x2)] [.box 130 [I x0.board.Buses, DS api_Breaker.ps x0.board.Breakers, DS api_Source.ps x0.board.Sources, DS api_Consumer.ps x0.board.Consumers, I x0.board.Phase, I x0.board.Frequency, .os 1, .os 2, .os 3, .os 4, I x0.time], .sl 4 1 (x0.power.Closed.map pB), .sl 59 4 (x0.power.Sources.map api_Running.ps), .sl 3 1 (x0.power.Limits.map pI), .sl 119 2 (x0.power.Broken.map api_Part.ps)] (.d (I r.1)) [.box 130 [I r.2.board.Buses, DS api_Breaker.ps r.2.board.Breakers, DS api_Source.ps r.2.board.Sources, DS api_Consumer.ps r.2.board.Consumers, I r.2.board.Phase, I r.2.board.Frequency, .os 5, .os 6, .os 7, .os 8, I r.2.time], .non, .non, .non, .non, .sl 4 1 (r.2.power.Closed.map pB), .sl 59 4 (r.2.power.Sources.map api_Running.ps), .sl 3 1 (r.2.power.Limits.map pI), .sl 119 2 (r.2.power.Broken.map api_Part.ps)] := by
  unfold F149s1 at h
  refine callOk_of 84 Tryz.func149 rfl rfl rfl fun C hC => ?_
  obtain ⟨y1, h2, h⟩ := bindE h
  rcases boolC ((y1.2 == x2)) with h3 | h3
  · replace h := condT h3 h
    replace h := Option.some.inj h
    subst h
    exact WI_ret (bs := [((y1.2 == x2), true)]) mixed lv149s1 32 [true] [.callB 218 [.d (DS api_Part.ps x0.power.Broken), .agg [I x1.Kind, I x1.Number], .d (.fn (.func 219) [] [])] (.tup [.d (I y1.1), .d (Bo y1.2)]) [[]] 0 []] [.mv 1, .mv 2, .mv 3, .mv 4] [.tmp 6] 5 [0, 1, 2, 3, 4, 6, 7, 8, 9] rfl hC ⟨lend0_get ⟨e218s0, (k218s0 x0.power.Broken x1 _ h2)⟩, trivial⟩ ⟨h3, trivial⟩ (by kernel_rfl)
  · replace h := condF h3 h
    refine WI_stop (bs := [((y1.2 == x2), false)]) mixed lv149s1 32 [false] [.callB 218 [.d (DS api_Part.ps x0.power.Broken), .agg [I x1.Kind, I x1.Number], .d (.fn (.func 219) [] [])] (.tup [.d (I y1.1), .d (Bo y1.2)]) [[]] 0 [], .when [(x2, true)] (.len ((x0.power.Broken.map api_Part.ps).length : Int) (x0.power.Broken.length : Int))] [.mv 1, .mv 2, .mv 3, .mv 4] 5 [0, 1, 2, 3, 4, 5, 6, 7, 8, 9] [(0, .d (.o 0 0)), (2, .d (Bo x2)), (4, .d (.o 5 0)), (6, .d (I 0)), (7, .d (I y1.1)), (36, .d (Bo (c149s1_0 x0 x2)))] [.box 130 [I x0.board.Buses, DS api_Breaker.ps x0.board.Breakers, DS api_Source.ps x0.board.Sources, DS api_Consumer.ps x0.board.Consumers, I x0.board.Phase, I x0.board.Frequency, .os 6, .os 7, .os 8, .os 9, I x0.time], .non, .non, .non, .non, .box 119 [I x1.Kind, I x1.Number], .sl 4 1 (x0.power.Closed.map pB), .sl 59 4 (x0.power.Sources.map api_Running.ps), .sl 3 1 (x0.power.Limits.map pI), .sl 119 2 (x0.power.Broken.map api_Part.ps)] hC ⟨lend0_get ⟨e218s0, (k218s0 x0.power.Broken x1 _ h2)⟩, fun hg => len_map _ _, trivial⟩ ⟨h3, trivial⟩ (by kernel_rfl) ?_
    rcases boolC ((c149s1_0 x0 x2)) with h4 | h4
    · replace h := condT h4 h
      replace h := Option.some.inj h
      subst h
      exact WI_ret (bs := [((c149s1_0 x0 x2), true)]) mixed lv149s1 24 [true] [] [] [.tmp 6] 5 [0, 1, 2, 3, 4, 6, 7, 8, 9] rfl hC trivial ⟨h4, trivial⟩ (by kernel_rfl)
    · replace h := condF h4 h
      refine WI_stop (bs := [((c149s1_0 x0 x2), false)]) mixed lv149s1 24 [false] [] [] 5 [0, 1, 2, 3, 4, 5, 6, 7, 8, 9] [(0, .d (.o 0 0)), (2, .d (Bo x2)), (4, .d (.o 5 0)), (6, .d (I 0)), (7, .d (I y1.1)), (47, .d (Bo x2))] [.box 130 [I x0.board.Buses, DS api_Breaker.ps x0.board.Breakers, DS api_Source.ps x0.board.Sources, DS api_Consumer.ps x0.board.Consumers, I x0.board.Phase, I x0.board.Frequency, .os 6, .os 7, .os 8, .os 9, I x0.time], .non, .non, .non, .non, .box 119 [I x1.Kind, I x1.Number], .sl 4 1 (x0.power.Closed.map pB), .sl 59 4 (x0.power.Sources.map api_Running.ps), .sl 3 1 (x0.power.Limits.map pI), .sl 119 2 (x0.power.Broken.map api_Part.ps)] hC trivial ⟨h4, trivial⟩ (by kernel_rfl) ?_
      obtain ⟨k149s1_0, h, hret149s1_0, hnext149s1_0⟩ := andThen_inv h
      refine WI_cut (by kernel_rfl) (fun s => k149s1_0 = .next s) (sa149s1_0 x2) (Ra149s1_0 x0 x1) ?_ fun s149s1_0 hs149s1_0 => ?_
      · unfold F149s1_m0 at h
        rcases boolC (x2) with h5 | h5
        · replace h := condT h5 h
          obtain ⟨y6, h7, h⟩ := bindE h
          exact WI_end (bs := [(x2, true)]) (φ := fun s' => k149s1_0 = .next s') (st' := (sa149s1_0 x2)) (R' := (Ra149s1_0 x0 x1)) mixed lv149s1 23 [true] [.call 220 [.d (.os 0), .d (I y1.1), .d (DS api_Part.ps [x1])] [.sl 119 2 (x0.power.Broken.map api_Part.ps)] (.d (.os 1)) [.non, .sl 119 2 (y6.map api_Part.ps)] [9]] [] 5 [0, 1, 2, 3, 4, 5, 6, 7, 8, 10] y6 hC ⟨⟨e220s0, (k220s0 x0.power.Broken y1.1 [x1] _ h7)⟩, trivial⟩ ⟨h5, trivial⟩ (by kernel_rfl) (by kernel_rfl) (Option.some.inj h).symm
        · replace h := condF h5 h
          obtain ⟨y8, h9, h⟩ := bindE h
          exact WI_end (bs := [(x2, false)]) (φ := fun s' => k149s1_0 = .next s') (st' := (sa149s1_0 x2)) (R' := (Ra149s1_0 x0 x1)) mixed lv149s1 23 [false] [.call 221 [.d (.os 0), .d (I y1.1), .d (I (w64 (y1.1 + 1)))] [.sl 119 2 (x0.power.Broken.map api_Part.ps)] (.d (.os 1)) [.non, .sl 119 2 (y8.map api_Part.ps)] [9]] [] 5 [0, 1, 2, 3, 4, 5, 6, 7, 8, 10] y8 hC ⟨⟨e221s0, (k221s0 x0.power.Broken y1.1 (w64 (y1.1 + 1)) _ h9)⟩, trivial⟩ ⟨h5, trivial⟩ (by kernel_rfl) (by kernel_rfl) (Option.some.inj h).symm
      · clear h; have h := hnext149s1_0 _ hs149s1_0
        rcases boolC ((x1.Kind == 1)) with h10 | h10
        · replace h := condT h10 h
          obtain ⟨y11, h12, h⟩ := bindE h
          obtain ⟨y13, h14, h⟩ := bindE h
          refine WI_stop (bs := [((x1.Kind == 1), true)]) mixed lv149s1 30 [true] [.row (x0.power.Sources.map api_Running.ps) x1.Number (api_Running.ps y11), .upd (x0.power.Sources.map api_Running.ps) (Int.toNat x1.Number) (api_Running.ps y11) (api_Running.ps (⟨0, y11.Since, y11.Frequency, y11.Phase⟩ : api_Running)) (y13.map api_Running.ps)] [] 5 [0, 1, 2, 3, 4, 5, 6, 7, 8, 9] [(0, .d (.o 0 0)), (4, .d (.o 5 0)), (6, .d (I 0)), (74, .d (Bo x2))] [.box 130 [I x0.board.Buses, DS api_Breaker.ps x0.board.Breakers, DS api_Source.ps x0.board.Sources, DS api_Consumer.ps x0.board.Consumers, I x0.board.Phase, I x0.board.Frequency, .os 6, .os 7, .os 8, .os 9, I x0.time], .non, .non, .non, .non, .box 119 [I x1.Kind, I x1.Number], .sl 4 1 (x0.power.Closed.map pB), .sl 59 4 (y13.map api_Running.ps), .sl 3 1 (x0.power.Limits.map pI), .sl 119 2 (s149s1_0.map api_Part.ps)] hC ⟨row_get h12, upd_get h12 h14, trivial⟩ ⟨h10, trivial⟩ (by kernel_rfl) ?_
          rcases boolC (x2) with h15 | h15
          · replace h := condT h15 h
            obtain ⟨y16, h17, h⟩ := bindE h
            obtain ⟨y18, h19, h⟩ := bindE h
            replace h := Option.some.inj h
            subst h
            exact WI_ret (bs := [(x2, true)]) mixed lv149s1 25 [true] [.row (y13.map api_Running.ps) x1.Number (api_Running.ps y16), .upd (y13.map api_Running.ps) (Int.toNat x1.Number) (api_Running.ps y16) (api_Running.ps (⟨3, y16.Since, y16.Frequency, y16.Phase⟩ : api_Running)) (y18.map api_Running.ps)] [] [.tmp 6] 5 [0, 1, 2, 3, 4, 6, 7, 8, 9] rfl hC ⟨row_get h17, upd_get h17 h19, trivial⟩ ⟨h15, trivial⟩ (by kernel_rfl)
          · replace h := condF h15 h
            replace h := Option.some.inj h
            subst h
            exact WI_ret (bs := [(x2, false)]) mixed lv149s1 25 [false] [] [] [.tmp 6] 5 [0, 1, 2, 3, 4, 6, 7, 8, 9] rfl hC trivial ⟨h15, trivial⟩ (by kernel_rfl)
        · replace h := condF h10 h
          replace h := Option.some.inj h
          subst h
          exact WI_ret (bs := [((x1.Kind == 1), false)]) mixed lv149s1 29 [false] [] [] [.tmp 6] 5 [0, 1, 2, 3, 4, 6, 7, 8, 9] rfl hC trivial ⟨h10, trivial⟩ (by kernel_rfl)
theorem e149s1 : Enters Tryz.prog 149 := Go.SL.enters_of Tryz.func149 (by kernel_rfl) (by kernel_rfl)
theorem k231s0 (x0 : Int) (x1 : Int) (x2 : api_Board) (r : Int) (h : F231s0 x0 x1 x2 = some r) : CallOk Tryz.prog 231 [.d (I x0), .d (I x1), .d (.ip [.v (.int .i64 x2.Buses), .s (x2.Breakers.map api_Breaker.ps), .s (x2.Sources.map api_Source.ps), .s (x2.Consumers.map api_Consumer.ps), .v (.int .i64 x2.Phase), .v (.int .i64 x2.Frequency)])] [] (.d (I r)) [] := by
  unfold F231s0 at h
  refine callOk_of 19 Tryz.func231 rfl rfl rfl fun C hC => ?_
  obtain ⟨y1, h2, h⟩ := bindE h
  obtain ⟨y3, h4, h⟩ := bindE h
  replace h := Option.some.inj h
  subst h
  exact WI_ret (bs := []) mixed [0, 1, 2, 5] 25 [] [.row (x2.Consumers.map api_Consumer.ps) x0 (api_Consumer.ps y1), .row (x2.Consumers.map api_Consumer.ps) x1 (api_Consumer.ps y3), .call 210 [.d (I y1.Preference), .d (I y3.Preference)] [] (.d (I (F210 y1.Preference y3.Preference))) [] []] [] [.tmp 5] 0 [] rfl hC ⟨row_get h2, row_get h4, ⟨e210, (k210 y1.Preference y3.Preference _ rfl)⟩, trivial⟩ trivial (by kernel_rfl)
theorem e231s0 : Enters Tryz.prog 231 := Go.SL.enters_of Tryz.func231 (by kernel_rfl) (by kernel_rfl)
theorem k226s0 (x0 : Int) (x1 : api_Island) (r : Bool) (h : F226s0 x0 x1 = some r) : CallOk Tryz.prog 226 [.d (I x0), .d (.ip [.s (x1.Buses.map pI), .s (x1.Sources.map pI), .s (x1.Consumers.map pI)])] [] (.d (Bo r)) [] := by
  unfold F226s0 at h
  refine callOk_of 9 Tryz.func226 rfl rfl rfl fun C hC => ?_
  obtain ⟨y1, h2, h⟩ := bindE h
  replace h := Option.some.inj h
  subst h
  exact WI_ret (bs := []) mixed [0, 1, 3] 25 [] [.call 96 [.d (DS pI x1.Consumers), .d (I x0)] [] (.d (Bo y1)) [] []] [] [.tmp 3] 0 [] rfl hC ⟨⟨e96, (k96 x1.Consumers x0 _ h2)⟩, trivial⟩ trivial (by kernel_rfl)
theorem e226s0 : Enters Tryz.prog 226 := Go.SL.enters_of Tryz.func226 (by kernel_rfl) (by kernel_rfl)
def lv165 : List Nat := [0, 1, 4, 5, 6, 7, 8, 10, 26, 37]
def sa165_0 (x0 : List api_Act) (x1 : Int) (s165_0 : Unit) : St := [(0, .d (DS api_Act.ps x0)), (1, .d (I x1)), (4, .d (DS api_Act.ps []))]
def Ra165_0  (s165_0 : Unit) : List Res := []
def sa165_1 (x0 : List api_Act) (x1 : Int) (s165_1 : Unit) : St := [(0, .d (DS api_Act.ps x0)), (4, .d (DS api_Act.ps [])), (6, .d (.p (.v (.int .u64 ((F179 (IntKind.wrap .u64 (x0.length : Int)) (IntKind.wrap .u64 x1)).2)))))]
def Ra165_1  (s165_1 : Unit) : List Res := []
def st165_2  (s165_2 : Int × (List api_Act)) : St := [(4, .d (DS api_Act.ps [])), (7, .d (.os 0)), (8, .d (I s165_2.1))]
def R165_2  (s165_2 : Int × (List api_Act)) : List Res := [.sl 42 3 (s165_2.2.map api_Act.ps)]
def sa165_2  (s165_2 : Int × (List api_Act)) : St := [(4, .d (DS api_Act.ps [])), (7, .d (.os 0))]
def Ra165_2  (s165_2 : Int × (List api_Act)) : List Res := [.sl 42 3 (s165_2.2.map api_Act.ps)]
theorem k165 (x0 : List api_Act) (x1 : Int) (r : (List api_Act)) (h : F165 x0 x1 = some r) : CallOk Tryz.prog 165 [.d (DS api_Act.ps x0), .d (I x1)] [] (.d (.os 0)) [.sl 42 3 (r.map api_Act.ps)] := by
  unfold F165 at h
  refine callOk_of 48 Tryz.func165 rfl rfl rfl fun C hC => ?_
  refine WI_stop (bs := []) mixed lv165 26 [] [] [] 0 [] [(0, .d (DS api_Act.ps x0)), (1, .d (I x1)), (4, .d (DS api_Act.ps [])), (10, .d (Bo (decide (x1 < 0))))] [] hC trivial trivial (by kernel_rfl) ?_
  obtain ⟨k165_0, h, hret165_0, hnext165_0⟩ := andThen_inv h
  refine WI_cut (by kernel_rfl) (fun s => k165_0 = .next s) (sa165_0 x0 x1) (Ra165_0) ?_ fun s165_0 hs165_0 => ?_
  · unfold F165_m0 at h
    rcases boolC (decide (x1 < 0)) with h1 | h1
    · replace h := condT h1 h
      cases h
    · replace h := condF h1 h
      exact WI_end (bs := [(decide (x1 < 0), false)]) (φ := fun s' => k165_0 = .next s') (st' := (sa165_0 x0 x1)) (R' := (Ra165_0)) mixed lv165 23 [false] [] [] 0 [] () hC trivial ⟨h1, trivial⟩ (by kernel_rfl) (by kernel_rfl) (Option.some.inj h).symm
  · clear h; have h := hnext165_0 _ hs165_0
    refine WI_stop (bs := []) mixed lv165 26 [] [.len ((x0.map api_Act.ps).length : Int) (x0.length : Int), .call 179 [.d (.p (.v (.int .u64 (IntKind.wrap .u64 (x0.length : Int))))), .d (.p (.v (.int .u64 (IntKind.wrap .u64 x1))))] [] (.tup [.d (.p (.v (.int .u64 ((F179 (IntKind.wrap .u64 (x0.length : Int)) (IntKind.wrap .u64 x1)).1)))), .d (.p (.v (.int .u64 ((F179 (IntKind.wrap .u64 (x0.length : Int)) (IntKind.wrap .u64 x1)).2))))]) [] []] [] 0 [] [(0, .d (DS api_Act.ps x0)), (4, .d (DS api_Act.ps [])), (6, .d (.p (.v (.int .u64 ((F179 (IntKind.wrap .u64 (x0.length : Int)) (IntKind.wrap .u64 x1)).2))))), (26, .d (Bo ((decide (((F179 (IntKind.wrap .u64 (x0.length : Int)) (IntKind.wrap .u64 x1)).1) > 0)) || (decide (((F179 (IntKind.wrap .u64 (x0.length : Int)) (IntKind.wrap .u64 x1)).2) > 9223372036854775807)))))] [] hC ⟨len_map _ _, ⟨e179, (k179 (IntKind.wrap .u64 (x0.length : Int)) (IntKind.wrap .u64 x1) _ rfl)⟩, trivial⟩ trivial (by kernel_rfl) ?_
    obtain ⟨k165_1, h, hret165_1, hnext165_1⟩ := andThen_inv h
    refine WI_cut (by kernel_rfl) (fun s => k165_1 = .next s) (sa165_1 x0 x1) (Ra165_1) ?_ fun s165_1 hs165_1 => ?_
    · unfold F165_m1 at h
      rcases boolC ((c165_0 x0 x1)) with h2 | h2
      · replace h := condT h2 h
        cases h
      · replace h := condF h2 h
        exact WI_end (bs := [((c165_0 x0 x1), false)]) (φ := fun s' => k165_1 = .next s') (st' := (sa165_1 x0 x1)) (R' := (Ra165_1)) mixed lv165 23 [false] [] [] 0 [] () hC trivial ⟨h2, trivial⟩ (by kernel_rfl) (by kernel_rfl) (Option.some.inj h).symm
    · clear h; have h := hnext165_1 _ hs165_1
      obtain ⟨y3, h4, h⟩ := bindE h
      refine WI_stop (bs := []) mixed lv165 26 [] [.room ((w64 ((F179 (IntKind.wrap .u64 (x0.length : Int)) (IntKind.wrap .u64 x1)).2)) * (24 + 1)) (List.replicate (Int.toNat (w64 ((F179 (IntKind.wrap .u64 (x0.length : Int)) (IntKind.wrap .u64 x1)).2))) (api_Act.ps (⟨0, 0, 0⟩ : api_Act))) (y3.map api_Act.ps), .cpy (x0.map api_Act.ps) 3 ((y3.map api_Act.ps).length) (Nat.min x0.length y3.length) ((y3.map api_Act.ps).take 0 ++ ((x0.map api_Act.ps).take (Nat.min x0.length y3.length) ++ (y3.map api_Act.ps).drop (0 + (Nat.min x0.length y3.length)))) ((cpyI y3 0 y3.length x0).map api_Act.ps)] [] 0 [0] (st165_2 (((Nat.min x0.length y3.length) : Int), (cpyI y3 0 y3.length x0))) (R165_2 (((Nat.min x0.length y3.length) : Int), (cpyI y3 0 y3.length x0))) hC ⟨make_get h4, cpy_get api_Act.ps 3 (fun _ => rfl) rfl (by simp), trivial⟩ trivial (by kernel_rfl) ?_
      obtain ⟨k165_2, hm165_2, hret165_2, hnext165_2⟩ := andThen_inv h
      clear h
      refine WI_cut (by kernel_rfl) (fun s => k165_2 = .next s) (sa165_2) (Ra165_2) ?_ fun s165_2 hs165_2 => ?_
      · refine WI_blk (by kernel_rfl) ?_
        refine WI_while (by kernel_rfl) F165_l2 (st165_2) (R165_2) k165_2 1152921504606846976 (((Nat.min x0.length y3.length) : Int), (cpyI y3 0 y3.length x0)) hm165_2 rfl rfl fun s165_2 k165_2b h hb165_2 hr165_2 => ?_
        unfold F165_l2 at h
        rcases boolC ((c165_3 s165_2)) with h5 | h5
        · replace h := condT h5 h
          obtain ⟨u7, h6, h⟩ := bindE h
          obtain ⟨u9, h8, h⟩ := bindE h
          exact WI_end (bs := [((c165_3 s165_2), true)]) (φ := fun s' => k165_2b = .next s') (st' := (st165_2)) (R' := (R165_2)) mixed lv165 29 [true] [.len ((s165_2.2.map api_Act.ps).length : Int) (s165_2.2.length : Int), .bnd (s165_2.2.map api_Act.ps).length s165_2.1 (((s165_2.2.map api_Act.ps).length : Nat) : Int) (s165_2.2.length : Int), .bnd (s165_2.2.map api_Act.ps).length 0 s165_2.1 s165_2.1, .cpy (((s165_2.2.map api_Act.ps).drop 0).take ((Int.toNat s165_2.1) - 0)) 3 ((Int.toNat (s165_2.2.length : Int)) - (Int.toNat s165_2.1)) (Nat.min ((s165_2.2.drop 0).take ((Int.toNat s165_2.1) - 0)).length ((Int.toNat (s165_2.2.length : Int)) - (Int.toNat s165_2.1))) ((s165_2.2.map api_Act.ps).take (Int.toNat s165_2.1) ++ ((((s165_2.2.map api_Act.ps).drop 0).take ((Int.toNat s165_2.1) - 0)).take (Nat.min ((s165_2.2.drop 0).take ((Int.toNat s165_2.1) - 0)).length ((Int.toNat (s165_2.2.length : Int)) - (Int.toNat s165_2.1))) ++ (s165_2.2.map api_Act.ps).drop ((Int.toNat s165_2.1) + (Nat.min ((s165_2.2.drop 0).take ((Int.toNat s165_2.1) - 0)).length ((Int.toNat (s165_2.2.length : Int)) - (Int.toNat s165_2.1)))))) ((cpyI s165_2.2 (Int.toNat s165_2.1) ((Int.toNat (s165_2.2.length : Int)) - (Int.toNat s165_2.1)) ((s165_2.2.drop 0).take ((Int.toNat s165_2.1) - 0))).map api_Act.ps)] [] 0 [0] (w64 (s165_2.1 + ((Nat.min ((s165_2.2.drop 0).take ((Int.toNat s165_2.1) - 0)).length ((Int.toNat (s165_2.2.length : Int)) - (Int.toNat s165_2.1))) : Int)), (cpyI s165_2.2 (Int.toNat s165_2.1) ((Int.toNat (s165_2.2.length : Int)) - (Int.toNat s165_2.1)) ((s165_2.2.drop 0).take ((Int.toNat s165_2.1) - 0)))) hC ⟨len_map _ _, bnd_get (by simp) (by simp) h6, bnd_get (by simp) rfl h8, cpy_get api_Act.ps 3 (fun _ => rfl) (part_map _ _ _ _) rfl, trivial⟩ ⟨h5, trivial⟩ (by kernel_rfl) (by kernel_rfl) (Option.some.inj h).symm
        · replace h := condF h5 h
          exact WI_end (bs := [((c165_3 s165_2), false)]) (φ := fun s' => k165_2 = .next s') (st' := (sa165_2)) (R' := (Ra165_2)) mixed lv165 26 [false] [.len ((s165_2.2.map api_Act.ps).length : Int) (s165_2.2.length : Int)] [] 0 [0] (s165_2.1, s165_2.2) hC ⟨len_map _ _, trivial⟩ ⟨h5, trivial⟩ (by kernel_rfl) (by kernel_rfl) (hb165_2 _ (Option.some.inj h).symm)
      · have h := hnext165_2 _ hs165_2
        replace h := Option.some.inj h
        subst h
        exact WI_ret (bs := []) mixed lv165 23 [] [] [] [.tmp 4] 0 [0] rfl hC trivial trivial (by kernel_rfl)
theorem e165 : Enters Tryz.prog 165 := Go.SL.enters_of Tryz.func165 (by kernel_rfl) (by kernel_rfl)
def lv172 : List Nat := [0, 1, 2, 3, 4, 6, 16, 17, 18, 19, 28, 29, 44, 71]
def st172_0 (x0 : api_Board) (i172_0 : Nat) (s172_0 : (List Int) × (List (List Int))) : St := [(1, .d (.o 0 0)), (2, .d (Bo false)), (3, .d (.os 1)), (4, .d (.os 2)), (16, .d (DS api_Breaker.ps x0.Breakers)), (17, .d (I (x0.Breakers.length : Int))), (18, .d (I (cnt 0 i172_0)))]
def R172_0 (x0 : api_Board) (i172_0 : Nat) (s172_0 : (List Int) × (List (List Int))) : List Res := [.box 29 [I x0.Buses, DS api_Breaker.ps x0.Breakers, DS api_Source.ps x0.Sources, DS api_Consumer.ps x0.Consumers, I x0.Phase, I x0.Frequency], .sl 3 1 (s172_0.1.map pI), .dsl 22 1 3, .gh 1 [(3, 1)] (s172_0.2.map (pL pI)) none]
def sa172_0  (s172_0 : (List Int) × (List (List Int))) : St := [(2, .d (Bo false)), (3, .d (.os 0)), (4, .d (.os 1))]
def Ra172_0  (s172_0 : (List Int) × (List (List Int))) : List Res := [.sl 3 1 (s172_0.1.map pI), .dsl 22 1 2, .gh 1 [(3, 1)] (s172_0.2.map (pL pI)) none]
theorem k172 (x0 : api_Board) (r : Bool) (h : F172 x0 = some r) : CallOk Tryz.prog 172 [.agg [I x0.Buses, DS api_Breaker.ps x0.Breakers, DS api_Source.ps x0.Sources, DS api_Consumer.ps x0.Consumers, I x0.Phase, I x0.Frequency]] [] (.d (Bo r)) [] := by
  unfold F172 at h
  refine callOk_of 116 Tryz.func172 rfl rfl rfl fun C hC => ?_
  obtain ⟨y1, h2, h⟩ := bindE h
  obtain ⟨y3, h4, h⟩ := bindE h
  refine WI_stop (bs := []) mixed lv172 28 [] [.flts [.sl 3 1 (y1.map pI), .zsl 22 1 (y3.map (pL pI))], .len ((x0.Sources.map api_Source.ps).length : Int) (x0.Sources.length : Int), .fltm 1 (.room ((x0.Sources.length : Int) * (8 + 1)) (List.replicate (Int.toNat (x0.Sources.length : Int)) (pI 0)) (y1.map pI)) (.sl 3 1 (y1.map pI)) (.sl 3 1 (y1.map pI)), .len ((x0.Consumers.map api_Consumer.ps).length : Int) (x0.Consumers.length : Int), .fltm 2 (.roomZ ((x0.Consumers.length : Int) * (24 + 1)) (List.replicate (Int.toNat (x0.Consumers.length : Int)) ((pL pI) ([] : List Int))) (y3.map (pL pI))) (.zsl 22 1 (y3.map (pL pI))) (.zsl 22 1 (y3.map (pL pI))), .len ((x0.Breakers.map api_Breaker.ps).length : Int) (x0.Breakers.length : Int)] [.deep 2 [(3, 1)]] 0 [0, 1, 2, 3] (st172_0 x0 0 (y1, y3)) (R172_0 x0 0 (y1, y3)) hC ⟨trivial, len_map _ _, ⟨make_get h2, rfl⟩, len_map _ _, ⟨makez_get h4, rfl⟩, len_map _ _, trivial⟩ trivial (by kernel_rfl) ?_
  obtain ⟨k172_0, hm172_0, hret172_0, hnext172_0⟩ := andThen_inv h
  clear h
  refine WI_cut (by kernel_rfl) (fun s => k172_0 = .next s) (sa172_0) (Ra172_0) ?_ fun s172_0 hs172_0 => ?_
  · refine WI_blk (by kernel_rfl) ?_
    refine WI_len 16 rfl fun hl172_0 => ?_
    refine WI_foldI (by kernel_rfl) (F172_l0 x0) (st172_0 x0) (R172_0 x0) k172_0 x0.Breakers (y1, y3) hm172_0 rfl rfl (fun s172_0 hn172_0 => ?_) fun i172_0 x172_0 s172_0 k172_0b hi172_0 hx172_0 h hb172_0 hr172_0 => ?_
    · clear hm172_0
      exact WI_end (bs := [(decide ((cnt 0 x0.Breakers.length) < (x0.Breakers.length : Int)), false)]) (φ := fun s' => k172_0 = .next s') (st' := (sa172_0)) (R' := (Ra172_0)) mixed lv172 26 [false] [] [] 0 [1, 2, 3] (s172_0.1, s172_0.2) hC trivial ⟨(cnt_end hl172_0), trivial⟩ (by kernel_rfl) (by kernel_rfl) hn172_0
    · unfold F172_l0 at h
      refine WI_stop (bs := [(decide ((cnt 0 i172_0) < (x0.Breakers.length : Int)), true)]) mixed lv172 33 [true] [.row (x0.Breakers.map api_Breaker.ps) (cnt 0 i172_0) (api_Breaker.ps x172_0), .call 132 [.d (I x172_0.A), .d (I 0), .d (I (w64 (x0.Buses - 1)))] [] (.d (Bo (F132 x172_0.A 0 (w64 (x0.Buses - 1))))) [] []] [] 0 [0, 1, 2, 3, 4] [(1, .d (.o 0 0)), (2, .d (Bo false)), (3, .d (.os 1)), (4, .d (.os 2)), (6, .d (.o 4 0)), (16, .d (DS api_Breaker.ps x0.Breakers)), (17, .d (I (x0.Breakers.length : Int))), (18, .d (I (cnt 0 i172_0))), (28, .d (Bo (!(F132 x172_0.A 0 (w64 (x0.Buses - 1))))))] [.box 29 [I x0.Buses, DS api_Breaker.ps x0.Breakers, DS api_Source.ps x0.Sources, DS api_Consumer.ps x0.Consumers, I x0.Phase, I x0.Frequency], .sl 3 1 (s172_0.1.map pI), .dsl 22 1 3, .gh 1 [(3, 1)] (s172_0.2.map (pL pI)) none, .box 66 [I x172_0.Kind, I x172_0.A, I x172_0.B]] hC ⟨(row_cnt hx172_0 hl172_0), ⟨e132, (k132 x172_0.A 0 (w64 (x0.Buses - 1)) _ rfl)⟩, trivial⟩ ⟨(cnt_lt hi172_0 hl172_0), trivial⟩ (by kernel_rfl) ?_
      rcases boolC (!(F132 x172_0.A 0 (w64 (x0.Buses - 1)))) with h5 | h5
      · replace h := condT h5 h
        have hq := hret172_0 _ (hr172_0 _ (Option.some.inj h).symm)
        replace hq := Option.some.inj hq
        subst hq
        exact WI_ret (bs := [(!(F132 x172_0.A 0 (w64 (x0.Buses - 1))), true)]) mixed lv172 24 [true] [] [] [.tmp 2] 0 [] rfl hC trivial ⟨h5, trivial⟩ (by kernel_rfl)
      · replace h := condF h5 h
        refine WI_stop (bs := [(!(F132 x172_0.A 0 (w64 (x0.Buses - 1))), false)]) mixed lv172 26 [false] [.when [((x172_0.Kind == 1), true)] (.call 132 [.d (I x172_0.B), .d (I (w64 (x172_0.A + 1))), .d (I (w64 (x0.Buses - 1)))] [] (.d (Bo (F132 x172_0.B (w64 (x172_0.A + 1)) (w64 (x0.Buses - 1))))) [] [])] [] 0 [0, 1, 2, 3, 4] [(1, .d (.o 0 0)), (2, .d (Bo false)), (3, .d (.os 1)), (4, .d (.os 2)), (6, .d (.o 4 0)), (16, .d (DS api_Breaker.ps x0.Breakers)), (17, .d (I (x0.Breakers.length : Int))), (18, .d (I (cnt 0 i172_0))), (29, .d (Bo (c172_6 x0 x172_0)))] [.box 29 [I x0.Buses, DS api_Breaker.ps x0.Breakers, DS api_Source.ps x0.Sources, DS api_Consumer.ps x0.Consumers, I x0.Phase, I x0.Frequency], .sl 3 1 (s172_0.1.map pI), .dsl 22 1 3, .gh 1 [(3, 1)] (s172_0.2.map (pL pI)) none, .box 66 [I x172_0.Kind, I x172_0.A, I x172_0.B]] hC ⟨fun hg => ⟨e132, (k132 x172_0.B (w64 (x172_0.A + 1)) (w64 (x0.Buses - 1)) _ rfl)⟩, trivial⟩ ⟨h5, trivial⟩ (by kernel_rfl) ?_
        rcases boolC ((c172_6 x0 x172_0)) with h6 | h6
        · replace h := condT h6 h
          exact WI_end (bs := [((c172_6 x0 x172_0), true)]) (φ := fun s' => k172_0b = .next s') (st' := (st172_0 x0 (i172_0 + 1))) (R' := (R172_0 x0 (i172_0 + 1))) mixed lv172 26 [true] [] [] 0 [0, 1, 2, 3] (s172_0.1, s172_0.2) hC trivial ⟨h6, trivial⟩ (by kernel_rfl) (by kernel_rfl) (Option.some.inj h).symm
        · replace h := condF h6 h
          obtain ⟨y7, h8, h⟩ := bindE h
          refine WI_stop (bs := [((c172_6 x0 x172_0), false)]) mixed lv172 24 [false] [.when [((x172_0.Kind == 2), true)] (.len ((s172_0.1.map pI).length : Int) (s172_0.1.length : Int)), .when [((x172_0.Kind == 2), true)] (.call 132 [.d (I x172_0.B), .d (I 0), .d (I (w64 ((s172_0.1.length : Int) - 1)))] [] (.d (Bo (F132 x172_0.B 0 (w64 ((s172_0.1.length : Int) - 1))))) [] []), .when [(((x172_0.Kind == 2) && (F132 x172_0.B 0 (w64 ((s172_0.1.length : Int) - 1)))), true)] (.row (s172_0.1.map pI) x172_0.B (pI y7)), .when [(((x172_0.Kind == 2) && (F132 x172_0.B 0 (w64 ((s172_0.1.length : Int) - 1)))), true)] (.row (s172_0.1.map pI) (((Int.toNat x172_0.B) : Nat) : Int) (pI y7))] [] 0 [0, 1, 2, 3, 4] [(1, .d (.o 0 0)), (2, .d (Bo false)), (3, .d (.os 1)), (4, .d (.os 2)), (6, .d (.o 4 0)), (16, .d (DS api_Breaker.ps x0.Breakers)), (17, .d (I (x0.Breakers.length : Int))), (18, .d (I (cnt 0 i172_0))), (44, .d (Bo (c172_7 s172_0 x172_0 y7)))] [.box 29 [I x0.Buses, DS api_Breaker.ps x0.Breakers, DS api_Source.ps x0.Sources, DS api_Consumer.ps x0.Consumers, I x0.Phase, I x0.Frequency], .sl 3 1 (s172_0.1.map pI), .dsl 22 1 3, .gh 1 [(3, 1)] (s172_0.2.map (pL pI)) none, .box 66 [I x172_0.Kind, I x172_0.A, I x172_0.B]] hC ⟨fun hg => len_map _ _, fun hg => ⟨e132, (k132 x172_0.B 0 (w64 ((s172_0.1.length : Int) - 1)) _ rfl)⟩, fun hg => row_get (guardO_get h8 hg), fun hg => row_getN (guardO_get h8 hg), trivial⟩ ⟨h6, trivial⟩ (by kernel_rfl) ?_
          rcases boolC ((c172_7 s172_0 x172_0 y7)) with h9 | h9
          · replace h := condT h9 h
            obtain ⟨y10, h11, h⟩ := bindE h
            obtain ⟨y12, h13, h⟩ := bindE h
            exact WI_end (bs := [((c172_7 s172_0 x172_0 y7), true)]) (φ := fun s' => k172_0b = .next s') (st' := (st172_0 x0 (i172_0 + 1))) (R' := (R172_0 x0 (i172_0 + 1))) mixed lv172 26 [true] [.row (s172_0.1.map pI) x172_0.B (pI y10), .row (s172_0.1.map pI) (((Int.toNat x172_0.B) : Nat) : Int) (pI y10), .row (s172_0.1.map pI) x172_0.B (pI y10), .upd (s172_0.1.map pI) (Int.toNat x172_0.B) (pI y10) (pI (w64 (y10 + 1))) (y12.map pI)] [] 0 [0, 1, 2, 3] (y12, s172_0.2) hC ⟨row_get h11, row_getN h11, row_get h11, upd_get h11 h13, trivial⟩ ⟨h9, trivial⟩ (by kernel_rfl) (by kernel_rfl) (Option.some.inj h).symm
          · replace h := condF h9 h
            obtain ⟨y14, h15, h⟩ := bindE h
            obtain ⟨y16, h17, h⟩ := bindE h
            refine WI_stop (bs := [((c172_7 s172_0 x172_0 y7), false)]) mixed lv172 24 [false] [.when [((x172_0.Kind == 3), true)] (.len ((s172_0.2.map (pL pI)).length : Int) (s172_0.2.length : Int)), .when [((x172_0.Kind == 3), true)] (.call 132 [.d (I x172_0.B), .d (I 0), .d (I (w64 ((s172_0.2.length : Int) - 1)))] [] (.d (Bo (F132 x172_0.B 0 (w64 ((s172_0.2.length : Int) - 1))))) [] []), .when [(((x172_0.Kind == 3) && (F132 x172_0.B 0 (w64 ((s172_0.2.length : Int) - 1)))), true)] (.row (s172_0.2.map (pL pI)) x172_0.B ((pL pI) y14)), .when [(((x172_0.Kind == 3) && (F132 x172_0.B 0 (w64 ((s172_0.2.length : Int) - 1)))), true)] (.row (s172_0.2.map (pL pI)) (((Int.toNat x172_0.B) : Nat) : Int) ((pL pI) y14)), .when [(((x172_0.Kind == 3) && (F132 x172_0.B 0 (w64 ((s172_0.2.length : Int) - 1)))), true)] (.callB 96 [.d (DS pI y14), .d (I x172_0.A)] (.d (Bo y16)) (s172_0.2.map (pL pI)) (Int.toNat x172_0.B) ((pL pI) y14))] [] 0 [0, 1, 2, 3, 4] [(1, .d (.o 0 0)), (2, .d (Bo false)), (3, .d (.os 1)), (4, .d (.os 2)), (6, .d (.o 4 0)), (16, .d (DS api_Breaker.ps x0.Breakers)), (17, .d (I (x0.Breakers.length : Int))), (18, .d (I (cnt 0 i172_0))), (71, .d (Bo (c172_8 s172_0 x172_0 y16)))] [.box 29 [I x0.Buses, DS api_Breaker.ps x0.Breakers, DS api_Source.ps x0.Sources, DS api_Consumer.ps x0.Consumers, I x0.Phase, I x0.Frequency], .sl 3 1 (s172_0.1.map pI), .dsl 22 1 3, .gh 1 [(3, 1)] (s172_0.2.map (pL pI)) none, .box 66 [I x172_0.Kind, I x172_0.A, I x172_0.B]] hC ⟨fun hg => len_map _ _, fun hg => ⟨e132, (k132 x172_0.B 0 (w64 ((s172_0.2.length : Int) - 1)) _ rfl)⟩, fun hg => row_get (guardO_get h15 hg), fun hg => row_getN (guardO_get h15 hg), fun hg => lend_get ⟨e96, (k96 y14 x172_0.A _ (guardO_get h17 hg))⟩ (guardO_get h15 hg), trivial⟩ ⟨h9, trivial⟩ (by kernel_rfl) ?_
            rcases boolC ((c172_8 s172_0 x172_0 y16)) with h18 | h18
            · replace h := condT h18 h
              obtain ⟨y19, h20, h⟩ := bindE h
              obtain ⟨y21, h22, h⟩ := bindE h
              obtain ⟨y23, h24, h⟩ := bindE h
              exact WI_end (bs := [((c172_8 s172_0 x172_0 y16), true)]) (φ := fun s' => k172_0b = .next s') (st' := (st172_0 x0 (i172_0 + 1))) (R' := (R172_0 x0 (i172_0 + 1))) mixed lv172 26 [true] [.row (s172_0.2.map (pL pI)) x172_0.B ((pL pI) y19), .row (s172_0.2.map (pL pI)) (((Int.toNat x172_0.B) : Nat) : Int) ((pL pI) y19), .appD (s172_0.2.map (pL pI)) (Int.toNat x172_0.B) ((pL pI) y19) 0 (y19.map pI) ([x172_0.A].map pI) 1 (((y19.map pI).length + ([x172_0.A].map pI).length) * (8 + 1)) (y21.map pI), .row (s172_0.2.map (pL pI)) x172_0.B ((pL pI) y19), .updD (s172_0.2.map (pL pI)) (Int.toNat x172_0.B) (Int.toNat x172_0.B) ((pL pI) y19) ((pL pI) y21) (y23.map (pL pI))] [] 0 [0, 1, 2, 8] (s172_0.1, y23) hC ⟨row_get h20, row_getN h20, appD_get 1 (fun _ => rfl) h20 rfl h22, row_get h20, updD_get h20 h24, trivial⟩ ⟨h18, trivial⟩ (by kernel_rfl) (by kernel_rfl) (Option.some.inj h).symm
            · replace h := condF h18 h
              have hq := hret172_0 _ (hr172_0 _ (Option.some.inj h).symm)
              replace hq := Option.some.inj hq
              subst hq
              exact WI_ret (bs := [((c172_8 s172_0 x172_0 y16), false)]) mixed lv172 24 [false] [] [] [.tmp 2] 0 [] rfl hC trivial ⟨h18, trivial⟩ (by kernel_rfl)
  · have h := hnext172_0 _ hs172_0
    refine WI_stop (bs := []) mixed lv172 1 [] [] [.flat 1] 0 [0, 1] [(2, .d (Bo false)), (3, .d (.os 0)), (4, .d (.os 1))] [.sl 3 1 (s172_0.1.map pI), .sl 22 1 (s172_0.2.map (pL pI))] hC trivial trivial (by kernel_rfl) ?_
    obtain ⟨y27, h28, h⟩ := bindE h
    obtain ⟨y29, h30, h⟩ := bindE h
    replace h := Option.some.inj h
    subst h
    exact WI_ret (bs := []) mixed lv172 22 [] [.callB 96 [.d (DS pI s172_0.1), .d (I 0)] (.d (Bo y27)) [[]] 0 [], .when [(!y27, true)] (.callB 232 [.d (DS (pL pI) s172_0.2), .d (.fn (.func 233) [] [])] (.d (Bo y29)) [[]] 0 [])] [] [.tmp 2] 0 [] rfl hC ⟨lend0_get ⟨e96, (k96 s172_0.1 0 _ h28)⟩, fun hg => lend0_get ⟨e232s0, (k232s0 s172_0.2 _ (guardO_get h30 hg))⟩, trivial⟩ trivial (by kernel_rfl)
theorem e172 : Enters Tryz.prog 172 := Go.SL.enters_of Tryz.func172 (by kernel_rfl) (by kernel_rfl)
def lv211s0 : List Nat := [0, 1, 4, 5, 7, 8, 9, 16]
def st211s0_0 (x0 : List api_Running) (i211s0_0 : Nat) (s211s0_0 : Unit) : St := [(0, .d (DS api_Running.ps x0)), (1, .d (.fn (.func 130) [] [])), (4, .d (I 0)), (7, .d (I (x0.length : Int))), (8, .d (I (cnt 0 i211s0_0)))]
def R211s0_0  (i211s0_0 : Nat) (s211s0_0 : Unit) : List Res := []
def sa211s0_0  (s211s0_0 : Unit) : St := [(4, .d (I 0))]
def Ra211s0_0  (s211s0_0 : Unit) : List Res := []
theorem k211s0 (x0 : List api_Running) (r : Int) (h : F211s0 x0 = some r) : CallOk Tryz.prog 211 [.d (DS api_Running.ps x0), .d (.fn (.func 130) [] [])] [] (.d (I r)) [] := by
  unfold F211s0 at h
  refine callOk_of 19 Tryz.func211 rfl rfl rfl fun C hC => ?_
  refine WI_stop (bs := []) mixed lv211s0 26 [] [.len ((x0.map api_Running.ps).length : Int) (x0.length : Int)] [] 0 [] (st211s0_0 x0 0 ()) (R211s0_0 0 ()) hC ⟨len_map _ _, trivial⟩ trivial (by kernel_rfl) ?_
  obtain ⟨k211s0_0, hm211s0_0, hret211s0_0, hnext211s0_0⟩ := andThen_inv h
  clear h
  refine WI_cut (by kernel_rfl) (fun s => k211s0_0 = .next s) (sa211s0_0) (Ra211s0_0) ?_ fun s211s0_0 hs211s0_0 => ?_
  · refine WI_blk (by kernel_rfl) ?_
    refine WI_len 0 rfl fun hl211s0_0 => ?_
    refine WI_foldI (by kernel_rfl) F211s0_l0 (st211s0_0 x0) (R211s0_0) k211s0_0 x0 () hm211s0_0 rfl rfl (fun s211s0_0 hn211s0_0 => ?_) fun i211s0_0 x211s0_0 s211s0_0 k211s0_0b hi211s0_0 hx211s0_0 h hb211s0_0 hr211s0_0 => ?_
    · clear hm211s0_0
      exact WI_end (bs := [(decide ((cnt 0 x0.length) < (x0.length : Int)), false)]) (φ := fun s' => k211s0_0 = .next s') (st' := (sa211s0_0)) (R' := (Ra211s0_0)) mixed lv211s0 26 [false] [] [] 0 [] () hC trivial ⟨(cnt_end hl211s0_0), trivial⟩ (by kernel_rfl) (by kernel_rfl) hn211s0_0
    · unfold F211s0_l0 at h
      refine WI_stop (bs := [(decide ((cnt 0 i211s0_0) < (x0.length : Int)), true)]) mixed lv211s0 32 [true] [.row (x0.map api_Running.ps) (cnt 0 i211s0_0) (api_Running.ps x211s0_0), .call 130 [.agg [I x211s0_0.State, I x211s0_0.Since, I x211s0_0.Frequency, I x211s0_0.Phase]] [] (.d (Bo (F130 x211s0_0))) [] []] [] 0 [] [(0, .d (DS api_Running.ps x0)), (1, .d (.fn (.func 130) [] [])), (4, .d (I 0)), (5, .d (I (cnt 0 i211s0_0))), (7, .d (I (x0.length : Int))), (8, .d (I (cnt 0 i211s0_0))), (16, .d (Bo (F130 x211s0_0)))] [] hC ⟨(row_cnt hx211s0_0 hl211s0_0), ⟨e130, (k130 x211s0_0 _ rfl)⟩, trivial⟩ ⟨(cnt_lt hi211s0_0 hl211s0_0), trivial⟩ (by kernel_rfl) ?_
      rcases boolC (F130 x211s0_0) with h1 | h1
      · replace h := condT h1 h
        have hq := hret211s0_0 _ (hr211s0_0 _ (Option.some.inj h).symm)
        replace hq := Option.some.inj hq
        subst hq
        exact WI_ret (bs := [(F130 x211s0_0, true)]) mixed lv211s0 24 [true] [] [] [.tmp 4] 0 [] rfl hC trivial ⟨h1, trivial⟩ (by kernel_rfl)
      · replace h := condF h1 h
        exact WI_end (bs := [(F130 x211s0_0, false)]) (φ := fun s' => k211s0_0b = .next s') (st' := (st211s0_0 x0 (i211s0_0 + 1))) (R' := (R211s0_0 (i211s0_0 + 1))) mixed lv211s0 25 [false] [] [] 0 [] () hC trivial ⟨h1, trivial⟩ (by kernel_rfl) (by kernel_rfl) (Option.some.inj h).symm
  · have h := hnext211s0_0 _ hs211s0_0
    replace h := Option.some.inj h
    subst h
    exact WI_ret (bs := []) mixed lv211s0 23 [] [] [] [.tmp 4] 0 [] rfl hC trivial trivial (by kernel_rfl)
theorem e211s0 : Enters Tryz.prog 211 := Go.SL.enters_of Tryz.func211 (by kernel_rfl) (by kernel_rfl)
theorem k216s0 (x0 : restore_worker) (x1 : Int) (r : Bool) (h : F216s0 x0 x1 = some r) : CallOk Tryz.prog 216 [.d (.ip [.v (.int .i64 x0.board.Buses), .s (x0.board.Breakers.map api_Breaker.ps), .s (x0.board.Sources.map api_Source.ps), .s (x0.board.Consumers.map api_Consumer.ps), .v (.int .i64 x0.board.Phase), .v (.int .i64 x0.board.Frequency), .s (x0.power.Closed.map pB), .s (x0.power.Sources.map api_Running.ps), .s (x0.power.Limits.map pI), .s (x0.power.Broken.map api_Part.ps), .v (.int .i64 x0.time)]), .d (I x1)] [] (.d (Bo r)) [] := by
  unfold F216s0 at h
  refine callOk_of 19 Tryz.func216 rfl rfl rfl fun C hC => ?_
  obtain ⟨y1, h2, h⟩ := bindE h
  obtain ⟨y3, h4, h⟩ := bindE h
  replace h := Option.some.inj h
  subst h
  exact WI_ret (bs := []) mixed [0, 1, 4] 25 [] [.call 67 [.agg [I x0.board.Buses, DS api_Breaker.ps x0.board.Breakers, DS api_Source.ps x0.board.Sources, DS api_Consumer.ps x0.board.Consumers, I x0.board.Phase, I x0.board.Frequency], .d (I x1)] [] (.d (I y1)) [] [], .row (x0.power.Closed.map pB) y1 (pB y3)] [] [.tmp 4] 0 [] rfl hC ⟨⟨e67, (k67 x0.board x1 _ h2)⟩, row_get h4, trivial⟩ trivial (by kernel_rfl)
theorem e216s0 : Enters Tryz.prog 216 := Go.SL.enters_of Tryz.func216 (by kernel_rfl) (by kernel_rfl)
theorem k256s0 (x0 : Int) (x1 : Int) (x2 : shed_relief) (r : Bool × shed_relief) (h : F256s0 x0 x1 x2 = some r) : CallOk Tryz.prog 256 [.d (I x0), .d (I x1), .d (.o 0 0)] [.box 198 [.o 1 0], .box 244 [I x2.board.Buses, DS api_Breaker.ps x2.board.Breakers, DS api_Source.ps x2.board.Sources, DS api_Consumer.ps x2.board.Consumers, I x2.board.Phase, I x2.board.Frequency, .os 2, .os 3, .os 4, .os 5, .os 6], .sl 4 1 (x2.power.Closed.map pB), .sl 59 4 (x2.power.Sources.map api_Running.ps), .sl 3 1 (x2.power.Limits.map pI), .sl 119 2 (x2.power.Broken.map api_Part.ps), .sl 42 3 (x2.acts.map api_Act.ps)] (.d (Bo r.1)) [.box 198 [.o 1 0], .box 244 [I r.2.board.Buses, DS api_Breaker.ps r.2.board.Breakers, DS api_Source.ps r.2.board.Sources, DS api_Consumer.ps r.2.board.Consumers, I r.2.board.Phase, I r.2.board.Frequency, .os 2, .os 3, .os 4, .os 5, .os 6], .sl 4 1 (r.2.power.Closed.map pB), .sl 59 4 (r.2.power.Sources.map api_Running.ps), .sl 3 1 (r.2.power.Limits.map pI), .sl 119 2 (r.2.power.Broken.map api_Part.ps), .sl 42 3 (r.2.acts.map api_Act.ps)] := by
  unfold F256s0 at h
  refine callOk_of 13 Tryz.func256 rfl rfl rfl fun C hC => ?_
  obtain ⟨y1, h2, h⟩ := bindE h
  replace h := Option.some.inj h
  subst h
  exact WI_ret (bs := []) mixed [0, 1, 2, 5] 25 [] [.callB 134 [.agg [DS pB x2.power.Closed, DS api_Running.ps x2.power.Sources, DS pI x2.power.Limits, DS api_Part.ps x2.power.Broken], .d (I x0), .d (I x1)] (.d (Bo y1)) [[]] 0 []] [] [.tmp 5] 7 [0, 1, 2, 3, 4, 5, 6] rfl hC ⟨lend0_get ⟨e134, (k134 x2.power x0 x1 _ h2)⟩, trivial⟩ trivial (by kernel_rfl)
theorem e256s0 : Enters Tryz.prog 256 := Go.SL.enters_of Tryz.func256 (by kernel_rfl) (by kernel_rfl)
def lv276s1 : List Nat := [0, 1, 2, 3, 8, 9, 14, 34]
def st276s1_0 (x1 : Int) (x2 : Int) (s276s1_0 : Int × (List Int)) : St := [(0, .d (.os 0)), (1, .d (I x1)), (2, .d (I x2)), (3, .d (.fn (.func 231) [] [.o 1 0])), (8, .d (I s276s1_0.1))]
def R276s1_0 (x3c0 : api_Board) (s276s1_0 : Int × (List Int)) : List Res := [.sl 3 1 (s276s1_0.2.map pI), .box 29 [I x3c0.Buses, DS api_Breaker.ps x3c0.Breakers, DS api_Source.ps x3c0.Sources, DS api_Consumer.ps x3c0.Consumers, I x3c0.Phase, I x3c0.Frequency]]
def sa276s1_0  (s276s1_0 : Int × (List Int)) : St := []
def Ra276s1_0 (x3c0 : api_Board) (s276s1_0 : Int × (List Int)) : List Res := [.sl 3 1 (s276s1_0.2.map pI), .box 29 [I x3c0.Buses, DS api_Breaker.ps x3c0.Breakers, DS api_Source.ps x3c0.Sources, DS api_Consumer.ps x3c0.Consumers, I x3c0.Phase, I x3c0.Frequency]]
def st276s1_1 (x1 : Int) (x2 : Int) (s276s1_0 : Int × (List Int)) (s276s1_1 : Int × (List Int)) : St := [(0, .d (.os 0)), (1, .d (I x1)), (2, .d (I x2)), (3, .d (.fn (.func 231) [] [.o 1 0])), (8, .d (I s276s1_0.1)), (9, .d (I s276s1_1.1))]
def R276s1_1 (x3c0 : api_Board) (s276s1_1 : Int × (List Int)) : List Res := [.sl 3 1 (s276s1_1.2.map pI), .box 29 [I x3c0.Buses, DS api_Breaker.ps x3c0.Breakers, DS api_Source.ps x3c0.Sources, DS api_Consumer.ps x3c0.Consumers, I x3c0.Phase, I x3c0.Frequency]]
def sa276s1_1 (x1 : Int) (x2 : Int) (s276s1_0 : Int × (List Int)) (s276s1_1 : Int × (List Int)) : St := [(0, .d (.os 0)), (1, .d (I x1)), (2, .d (I x2)), (3, .d (.fn (.func 231) [] [.o 1 0])), (8, .d (I s276s1_0.1))]
def Ra276s1_1 (x3c0 : api_Board) (s276s1_1 : Int × (List Int)) : List Res := [.sl 3 1 (s276s1_1.2.map pI), .box 29 [I x3c0.Buses, DS api_Breaker.ps x3c0.Breakers, DS api_Source.ps x3c0.Sources, DS api_Consumer.ps x3c0.Consumers, I x3c0.Phase, I x3c0.Frequency]]
theorem k276s1 (x0 : List Int) (x1 : Int) (x2 : Int) (x3c0 : api_Board) (r : (List Int) × api_Board) (h : F276s1 x0 x1 x2 x3c0 = some r) : CallOk Tryz.prog 276 [.d (.os 0), .d (I x1), .d (I x2), .d (.fn (.func 231) [] [.o 1 0])] [.sl 3 1 (x0.map pI), .box 29 [I x3c0.Buses, DS api_Breaker.ps x3c0.Breakers, DS api_Source.ps x3c0.Sources, DS api_Consumer.ps x3c0.Consumers, I x3c0.Phase, I x3c0.Frequency]] (.tup []) [.sl 3 1 (r.1.map pI), .box 29 [I r.2.Buses, DS api_Breaker.ps r.2.Breakers, DS api_Source.ps r.2.Sources, DS api_Consumer.ps r.2.Consumers, I r.2.Phase, I r.2.Frequency]] := by
  unfold F276s1 at h
  refine callOk_of 53 Tryz.func276 rfl rfl rfl fun C hC => ?_
  refine WI_stop (bs := []) mixed lv276s1 23 [] [] [] 2 [0, 1] (st276s1_0 x1 x2 (w64 (x1 + 1), x0)) (R276s1_0 x3c0 (w64 (x1 + 1), x0)) hC trivial trivial (by kernel_rfl) ?_
  obtain ⟨k276s1_0, hm276s1_0, hret276s1_0, hnext276s1_0⟩ := andThen_inv h
  clear h
  refine WI_cut (by kernel_rfl) (fun s => k276s1_0 = .next s) (sa276s1_0) (Ra276s1_0 x3c0) ?_ fun s276s1_0 hs276s1_0 => ?_
  · refine WI_blk (by kernel_rfl) ?_
    refine WI_while (by kernel_rfl) (F276s1_l0 x1 x2 x3c0) (st276s1_0 x1 x2) (R276s1_0 x3c0) k276s1_0 1152921504606846976 (w64 (x1 + 1), x0) hm276s1_0 rfl rfl fun s276s1_0 k276s1_0b h hb276s1_0 hr276s1_0 => ?_
    unfold F276s1_l0 at h
    rcases boolC (decide (s276s1_0.1 < x2)) with h1 | h1
    · replace h := condT h1 h
      refine WI_stop (bs := [(decide (s276s1_0.1 < x2), true)]) mixed lv276s1 30 [true] [] [] 2 [0, 1] (st276s1_1 x1 x2 s276s1_0 (s276s1_0.1, s276s1_0.2)) (R276s1_1 x3c0 (s276s1_0.1, s276s1_0.2)) hC trivial ⟨h1, trivial⟩ (by kernel_rfl) ?_
      obtain ⟨k276s1_1, hm276s1_1, hret276s1_1, hnext276s1_1⟩ := andThen_inv h
      clear h
      refine WI_cut (by kernel_rfl) (fun s => k276s1_1 = .next s) (sa276s1_1 x1 x2 s276s1_0) (Ra276s1_1 x3c0) ?_ fun s276s1_1 hs276s1_1 => ?_
      · refine WI_blk (by kernel_rfl) ?_
        refine WI_while (by kernel_rfl) (F276s1_l1 x1 x3c0) (st276s1_1 x1 x2 s276s1_0) (R276s1_1 x3c0) k276s1_1 1152921504606846976 (s276s1_0.1, s276s1_0.2) hm276s1_1 rfl rfl fun s276s1_1 k276s1_1b h hb276s1_1 hr276s1_1 => ?_
        unfold F276s1_l1 at h
        obtain ⟨y8, h9, h⟩ := bindE h
        obtain ⟨y10, h11, h⟩ := bindE h
        obtain ⟨y12, h13, h⟩ := bindE h
        refine WI_stop (bs := []) mixed lv276s1 24 [] [.when [(decide (s276s1_1.1 > x1), true)] (.row (s276s1_1.2.map pI) s276s1_1.1 (pI y8)), .when [(decide (s276s1_1.1 > x1), true)] (.row (s276s1_1.2.map pI) (((Int.toNat s276s1_1.1) : Nat) : Int) (pI y8)), .when [(decide (s276s1_1.1 > x1), true)] (.row (s276s1_1.2.map pI) (w64 (s276s1_1.1 - 1)) (pI y10)), .when [(decide (s276s1_1.1 > x1), true)] (.row (s276s1_1.2.map pI) (((Int.toNat (w64 (s276s1_1.1 - 1))) : Nat) : Int) (pI y10)), .when [(decide (s276s1_1.1 > x1), true)] (.callB 231 [.d (I y8), .d (I y10), .d (.ip [.v (.int .i64 x3c0.Buses), .s (x3c0.Breakers.map api_Breaker.ps), .s (x3c0.Sources.map api_Source.ps), .s (x3c0.Consumers.map api_Consumer.ps), .v (.int .i64 x3c0.Phase), .v (.int .i64 x3c0.Frequency)])] (.d (I y12)) [[]] 0 [])] [] 2 [0, 1] [(0, .d (.os 0)), (1, .d (I x1)), (2, .d (I x2)), (3, .d (.fn (.func 231) [] [.o 1 0])), (8, .d (I s276s1_0.1)), (9, .d (I s276s1_1.1)), (34, .d (Bo (c276s1_8 x1 s276s1_1 y12)))] [.sl 3 1 (s276s1_1.2.map pI), .box 29 [I x3c0.Buses, DS api_Breaker.ps x3c0.Breakers, DS api_Source.ps x3c0.Sources, DS api_Consumer.ps x3c0.Consumers, I x3c0.Phase, I x3c0.Frequency]] hC ⟨fun hg => row_get (guardO_get h9 hg), fun hg => row_getN (guardO_get h9 hg), fun hg => row_get (guardO_get h11 hg), fun hg => row_getN (guardO_get h11 hg), fun hg => lend0_get ⟨e231s0, (k231s0 y8 y10 x3c0 _ (guardO_get h13 hg))⟩, trivial⟩ trivial (by kernel_rfl) ?_
        rcases boolC ((c276s1_8 x1 s276s1_1 y12)) with h14 | h14
        · replace h := condT h14 h
          obtain ⟨y15, h16, h⟩ := bindE h
          obtain ⟨y17, h18, h⟩ := bindE h
          obtain ⟨y19, h20, h⟩ := bindE h
          obtain ⟨y21, h22, h⟩ := bindE h
          obtain ⟨y23, h24, h⟩ := bindE h
          exact WI_end (bs := [((c276s1_8 x1 s276s1_1 y12), true)]) (φ := fun s' => k276s1_1b = .next s') (st' := (st276s1_1 x1 x2 s276s1_0)) (R' := (R276s1_1 x3c0)) mixed lv276s1 28 [true] [.row (s276s1_1.2.map pI) (w64 (s276s1_1.1 - 1)) (pI y15), .row (s276s1_1.2.map pI) (((Int.toNat (w64 (s276s1_1.1 - 1))) : Nat) : Int) (pI y15), .row (s276s1_1.2.map pI) s276s1_1.1 (pI y17), .row (s276s1_1.2.map pI) (((Int.toNat s276s1_1.1) : Nat) : Int) (pI y17), .row (s276s1_1.2.map pI) s276s1_1.1 (pI y17), .upd (s276s1_1.2.map pI) (Int.toNat s276s1_1.1) (pI y17) (pI y15) (y19.map pI), .row (y19.map pI) (w64 (s276s1_1.1 - 1)) (pI y21), .upd (y19.map pI) (Int.toNat (w64 (s276s1_1.1 - 1))) (pI y21) (pI y17) (y23.map pI)] [] 2 [0, 1] (w64 (s276s1_1.1 - 1), y23) hC ⟨row_get h16, row_getN h16, row_get h18, row_getN h18, row_get h18, upd_get h18 h20, row_get h22, upd_get h22 h24, trivial⟩ ⟨h14, trivial⟩ (by kernel_rfl) (by kernel_rfl) (Option.some.inj h).symm
        · replace h := condF h14 h
          exact WI_end (bs := [((c276s1_8 x1 s276s1_1 y12), false)]) (φ := fun s' => k276s1_1 = .next s') (st' := (sa276s1_1 x1 x2 s276s1_0)) (R' := (Ra276s1_1 x3c0)) mixed lv276s1 23 [false] [] [] 2 [0, 1] (s276s1_1.1, s276s1_1.2) hC trivial ⟨h14, trivial⟩ (by kernel_rfl) (by kernel_rfl) (hb276s1_1 _ (Option.some.inj h).symm)
      · have h := hnext276s1_1 _ hs276s1_1
        exact WI_end (bs := []) (φ := fun s' => k276s1_0b = .next s') (st' := (st276s1_0 x1 x2)) (R' := (R276s1_0 x3c0)) mixed lv276s1 23 [] [] [] 2 [0, 1] (w64 (s276s1_0.1 + 1), s276s1_1.2) hC trivial trivial (by kernel_rfl) (by kernel_rfl) (Option.some.inj h).symm
    · replace h := condF h1 h
      exact WI_end (bs := [(decide (s276s1_0.1 < x2), false)]) (φ := fun s' => k276s1_0 = .next s') (st' := (sa276s1_0)) (R' := (Ra276s1_0 x3c0)) mixed lv276s1 26 [false] [] [] 2 [0, 1] (s276s1_0.1, s276s1_0.2) hC trivial ⟨h1, trivial⟩ (by kernel_rfl) (by kernel_rfl) (hb276s1_0 _ (Option.some.inj h).symm)
  · have h := hnext276s1_0 _ hs276s1_0
    replace h := Option.some.inj h
    subst h
    exact WI_endF (bs := []) mixed lv276s1 20 [] [] [] [] 2 [0, 1] rfl hC trivial trivial (by kernel_rfl) (by kernel_rfl)
theorem e276s1 : Enters Tryz.prog 276 := Go.SL.enters_of Tryz.func276 (by kernel_rfl) (by kernel_rfl)
def lv277s1 : List Nat := [0, 1, 2, 3, 4, 10, 11, 12, 13, 14, 15, 16, 17, 18, 19, 20, 21, 22, 23, 24, 28, 33, 50, 58, 80, 85, 103, 110, 140, 151, 171, 185, 199, 213]
def st277s1_0 (x1 : Int) (x2 : Int) (x3 : Int) (s277s1_0 : Int × Int) : St := [(0, .d (.os 0)), (1, .d (I x1)), (2, .d (I x2)), (3, .d (I x3)), (4, .d (.fn (.func 231) [] [.o 1 0])), (10, .d (I s277s1_0.1)), (11, .d (I s277s1_0.2))]
def R277s1_0 (x0 : List Int) (x4c0 : api_Board) (s277s1_0 : Int × Int) : List Res := [.sl 3 1 (x0.map pI), .box 29 [I x4c0.Buses, DS api_Breaker.ps x4c0.Breakers, DS api_Source.ps x4c0.Sources, DS api_Consumer.ps x4c0.Consumers, I x4c0.Phase, I x4c0.Frequency]]
def sa277s1_0 (x1 : Int) (x2 : Int) (x3 : Int) (s277s1_0 : Int × Int) : St := [(0, .d (.os 0)), (1, .d (I x1)), (2, .d (I x2)), (3, .d (I x3)), (4, .d (.fn (.func 231) [] [.o 1 0])), (10, .d (I s277s1_0.1))]
def Ra277s1_0 (x0 : List Int) (x4c0 : api_Board) (s277s1_0 : Int × Int) : List Res := [.sl 3 1 (x0.map pI), .box 29 [I x4c0.Buses, DS api_Breaker.ps x4c0.Breakers, DS api_Source.ps x4c0.Sources, DS api_Consumer.ps x4c0.Consumers, I x4c0.Phase, I x4c0.Frequency]]
def st277s1_1 (x1 : Int) (x2 : Int) (x3 : Int) (s277s1_0 : Int × Int) (s277s1_1 : Int × (List Int)) : St := [(0, .d (.os 0)), (1, .d (I x1)), (2, .d (I x2)), (3, .d (I x3)), (4, .d (.fn (.func 231) [] [.o 1 0])), (10, .d (I s277s1_0.1)), (13, .d (I s277s1_1.1))]
def R277s1_1 (x4c0 : api_Board) (s277s1_1 : Int × (List Int)) : List Res := [.sl 3 1 (s277s1_1.2.map pI), .box 29 [I x4c0.Buses, DS api_Breaker.ps x4c0.Breakers, DS api_Source.ps x4c0.Sources, DS api_Consumer.ps x4c0.Consumers, I x4c0.Phase, I x4c0.Frequency]]
def sa277s1_1 (x1 : Int) (x2 : Int) (x3 : Int) (s277s1_1 : Int × (List Int)) : St := [(0, .d (.os 0)), (1, .d (I x1)), (2, .d (I x2)), (3, .d (I x3)), (4, .d (.fn (.func 231) [] [.o 1 0]))]
def Ra277s1_1 (x4c0 : api_Board) (s277s1_1 : Int × (List Int)) : List Res := [.sl 3 1 (s277s1_1.2.map pI), .box 29 [I x4c0.Buses, DS api_Breaker.ps x4c0.Breakers, DS api_Source.ps x4c0.Sources, DS api_Consumer.ps x4c0.Consumers, I x4c0.Phase, I x4c0.Frequency]]
def st277s1_2 (x1 : Int) (x2 : Int) (x3 : Int) (s277s1_2 : Int × Int) : St := [(0, .d (.os 0)), (1, .d (I x1)), (2, .d (I x2)), (3, .d (I x3)), (4, .d (.fn (.func 231) [] [.o 1 0])), (14, .d (I s277s1_2.1)), (15, .d (I s277s1_2.2))]
def R277s1_2 (x0 : List Int) (x4c0 : api_Board) (s277s1_2 : Int × Int) : List Res := [.sl 3 1 (x0.map pI), .box 29 [I x4c0.Buses, DS api_Breaker.ps x4c0.Breakers, DS api_Source.ps x4c0.Sources, DS api_Consumer.ps x4c0.Consumers, I x4c0.Phase, I x4c0.Frequency]]
def sa277s1_2 (x1 : Int) (x2 : Int) (x3 : Int) (s277s1_2 : Int × Int) : St := [(0, .d (.os 0)), (1, .d (I x1)), (2, .d (I x2)), (3, .d (I x3)), (4, .d (.fn (.func 231) [] [.o 1 0])), (14, .d (I s277s1_2.1))]
def Ra277s1_2 (x0 : List Int) (x4c0 : api_Board) (s277s1_2 : Int × Int) : List Res := [.sl 3 1 (x0.map pI), .box 29 [I x4c0.Buses, DS api_Breaker.ps x4c0.Breakers, DS api_Source.ps x4c0.Sources, DS api_Consumer.ps x4c0.Consumers, I x4c0.Phase, I x4c0.Frequency]]
def st277s1_3 (x1 : Int) (x2 : Int) (x3 : Int) (s277s1_2 : Int × Int) (s277s1_3 : Int × (List Int)) : St := [(0, .d (.os 0)), (1, .d (I x1)), (2, .d (I x2)), (3, .d (I x3)), (4, .d (.fn (.func 231) [] [.o 1 0])), (14, .d (I s277s1_2.1)), (17, .d (I s277s1_3.1))]
def R277s1_3 (x4c0 : api_Board) (s277s1_3 : Int × (List Int)) : List Res := [.sl 3 1 (s277s1_3.2.map pI), .box 29 [I x4c0.Buses, DS api_Breaker.ps x4c0.Breakers, DS api_Source.ps x4c0.Sources, DS api_Consumer.ps x4c0.Consumers, I x4c0.Phase, I x4c0.Frequency]]
def sa277s1_3 (x1 : Int) (x2 : Int) (x3 : Int) (s277s1_3 : Int × (List Int)) : St := [(0, .d (.os 0)), (1, .d (I x1)), (2, .d (I x2)), (3, .d (I x3)), (4, .d (.fn (.func 231) [] [.o 1 0]))]
def Ra277s1_3 (x4c0 : api_Board) (s277s1_3 : Int × (List Int)) : List Res := [.sl 3 1 (s277s1_3.2.map pI), .box 29 [I x4c0.Buses, DS api_Breaker.ps x4c0.Breakers, DS api_Source.ps x4c0.Sources, DS api_Consumer.ps x4c0.Consumers, I x4c0.Phase, I x4c0.Frequency]]
def sa277s1_4 (x1 : Int) (x2 : Int) (x3 : Int) (s277s1_4 : Int × Int) : St := [(0, .d (.os 0)), (1, .d (I x1)), (2, .d (I x2)), (3, .d (I x3)), (4, .d (.fn (.func 231) [] [.o 1 0])), (18, .d (I (w64 (shrI .u64 (IntKind.wrap .u64 (w64 (x1 + x3))) 1)))), (19, .d (I (w64 ((w64 (shrI .u64 (IntKind.wrap .u64 (w64 (x1 + x3))) 1)) + x2)))), (20, .d (I s277s1_4.1)), (21, .d (I s277s1_4.2))]
def Ra277s1_4 (x0 : List Int) (x4c0 : api_Board) (s277s1_4 : Int × Int) : List Res := [.sl 3 1 (x0.map pI), .box 29 [I x4c0.Buses, DS api_Breaker.ps x4c0.Breakers, DS api_Source.ps x4c0.Sources, DS api_Consumer.ps x4c0.Consumers, I x4c0.Phase, I x4c0.Frequency]]
def st277s1_5 (x1 : Int) (x2 : Int) (x3 : Int) (s277s1_5 : Int × Int) : St := [(0, .d (.os 0)), (1, .d (I x1)), (2, .d (I x2)), (3, .d (I x3)), (4, .d (.fn (.func 231) [] [.o 1 0])), (18, .d (I (w64 (shrI .u64 (IntKind.wrap .u64 (w64 (x1 + x3))) 1)))), (19, .d (I (w64 ((w64 (shrI .u64 (IntKind.wrap .u64 (w64 (x1 + x3))) 1)) + x2)))), (20, .d (I s277s1_5.1)), (21, .d (I s277s1_5.2)), (22, .d (I (w64 ((w64 ((w64 (shrI .u64 (IntKind.wrap .u64 (w64 (x1 + x3))) 1)) + x2)) - 1))))]
def R277s1_5 (x0 : List Int) (x4c0 : api_Board) (s277s1_5 : Int × Int) : List Res := [.sl 3 1 (x0.map pI), .box 29 [I x4c0.Buses, DS api_Breaker.ps x4c0.Breakers, DS api_Source.ps x4c0.Sources, DS api_Consumer.ps x4c0.Consumers, I x4c0.Phase, I x4c0.Frequency]]
def sa277s1_5 (x1 : Int) (x2 : Int) (x3 : Int) (s277s1_5 : Int × Int) : St := [(0, .d (.os 0)), (1, .d (I x1)), (2, .d (I x2)), (3, .d (I x3)), (4, .d (.fn (.func 231) [] [.o 1 0])), (18, .d (I (w64 (shrI .u64 (IntKind.wrap .u64 (w64 (x1 + x3))) 1)))), (19, .d (I (w64 ((w64 (shrI .u64 (IntKind.wrap .u64 (w64 (x1 + x3))) 1)) + x2)))), (20, .d (I s277s1_5.1))]
def Ra277s1_5 (x0 : List Int) (x4c0 : api_Board) (s277s1_5 : Int × Int) : List Res := [.sl 3 1 (x0.map pI), .box 29 [I x4c0.Buses, DS api_Breaker.ps x4c0.Breakers, DS api_Source.ps x4c0.Sources, DS api_Consumer.ps x4c0.Consumers, I x4c0.Phase, I x4c0.Frequency]]
def sa277s1_6 (x1 : Int) (x2 : Int) (x3 : Int) (s277s1_5 : Int × Int) (s277s1_6 : Sg0) : St := [(0, .d (.os 0)), (1, .d (I x1)), (3, .d (I x3)), (4, .d (.fn (.func 231) [] [.o 1 0])), (18, .d (I (w64 (shrI .u64 (IntKind.wrap .u64 (w64 (x1 + x3))) 1)))), (20, .d (I s277s1_5.1)), (24, .d (I (w64 ((w64 ((w64 (shrI .u64 (IntKind.wrap .u64 (w64 (x1 + x3))) 1)) + x2)) - s277s1_5.1))))]
def Ra277s1_6  (s277s1_6 : Sg0) : List Res := [.sl 3 1 (s277s1_6.1.map pI), .box 29 [I s277s1_6.2.1, DS api_Breaker.ps s277s1_6.2.2.1, DS api_Source.ps s277s1_6.2.2.2.1, DS api_Consumer.ps s277s1_6.2.2.2.2.1, I s277s1_6.2.2.2.2.2.1, I s277s1_6.2.2.2.2.2.2]]
set_option maxHeartbeats 4000000 in
theorem k277s1 (x0 : List Int) (x1 : Int) (x2 : Int) (x3 : Int) (x4c0 : api_Board) (r : (List Int) × api_Board) (h : F277s1 x0 x1 x2 x3 x4c0 = some r) : CallOk Tryz.prog 277 [.d (.os 0), .d (I x1), .d (I x2), .d (I x3), .d (.fn (.func 231) [] [.o 1 0])] [.sl 3 1 (x0.map pI), .box 29 [I x4c0.Buses, DS api_Breaker.ps x4c0.Breakers, DS api_Source.ps x4c0.Sources, DS api_Consumer.ps x4c0.Consumers, I x4c0.Phase, I x4c0.Frequency]] (.tup []) [.sl 3 1 (r.1.map pI), .box 29 [I r.2.Buses, DS api_Breaker.ps r.2.Breakers, DS api_Source.ps r.2.Sources, DS api_Consumer.ps r.2.Consumers, I r.2.Phase, I r.2.Frequency]] := by
  unfold F277s1 at h
  refine callOk_of 220 Tryz.func277 rfl rfl rfl fun C hC => ?_
  rcases boolC (((w64 (x2 - x1)) == 1)) with h1 | h1
  · replace h := condT h1 h
    refine WI_stop (bs := [(((w64 (x2 - x1)) == 1), true)]) mixed lv277s1 30 [true] [] [] 2 [0, 1] (st277s1_0 x1 x2 x3 (x2, x3)) (R277s1_0 x0 x4c0 (x2, x3)) hC trivial ⟨h1, trivial⟩ (by kernel_rfl) ?_
    obtain ⟨k277s1_0, hm277s1_0, hret277s1_0, hnext277s1_0⟩ := andThen_inv h
    clear h
    refine WI_cut (by kernel_rfl) (fun s => k277s1_0 = .next s) (sa277s1_0 x1 x2 x3) (Ra277s1_0 x0 x4c0) ?_ fun s277s1_0 hs277s1_0 => ?_
    · refine WI_blk (by kernel_rfl) ?_
      refine WI_while (by kernel_rfl) (F277s1_l0 x0 x1 x4c0) (st277s1_0 x1 x2 x3) (R277s1_0 x0 x4c0) k277s1_0 1152921504606846976 (x2, x3) hm277s1_0 rfl rfl fun s277s1_0 k277s1_0b h hb277s1_0 hr277s1_0 => ?_
      unfold F277s1_l0 at h
      rcases boolC (decide (s277s1_0.1 < s277s1_0.2)) with h2 | h2
      · replace h := condT h2 h
        obtain ⟨y3, h4, h⟩ := bindE h
        obtain ⟨y5, h6, h⟩ := bindE h
        obtain ⟨y7, h8, h⟩ := bindE h
        refine WI_stop (bs := [(decide (s277s1_0.1 < s277s1_0.2), true)]) mixed lv277s1 31 [true] [.row (x0.map pI) (w64 (shrI .u64 (IntKind.wrap .u64 (w64 (s277s1_0.1 + s277s1_0.2))) 1)) (pI y3), .row (x0.map pI) (((Int.toNat (w64 (shrI .u64 (IntKind.wrap .u64 (w64 (s277s1_0.1 + s277s1_0.2))) 1))) : Nat) : Int) (pI y3), .row (x0.map pI) x1 (pI y5), .row (x0.map pI) (((Int.toNat x1) : Nat) : Int) (pI y5), .callB 231 [.d (I y3), .d (I y5), .d (.ip [.v (.int .i64 x4c0.Buses), .s (x4c0.Breakers.map api_Breaker.ps), .s (x4c0.Sources.map api_Source.ps), .s (x4c0.Consumers.map api_Consumer.ps), .v (.int .i64 x4c0.Phase), .v (.int .i64 x4c0.Frequency)])] (.d (I y7)) [[]] 0 []] [] 2 [0, 1] [(0, .d (.os 0)), (1, .d (I x1)), (2, .d (I x2)), (3, .d (I x3)), (4, .d (.fn (.func 231) [] [.o 1 0])), (10, .d (I s277s1_0.1)), (11, .d (I s277s1_0.2)), (12, .d (I (w64 (shrI .u64 (IntKind.wrap .u64 (w64 (s277s1_0.1 + s277s1_0.2))) 1)))), (50, .d (Bo (decide (y7 < 0))))] [.sl 3 1 (x0.map pI), .box 29 [I x4c0.Buses, DS api_Breaker.ps x4c0.Breakers, DS api_Source.ps x4c0.Sources, DS api_Consumer.ps x4c0.Consumers, I x4c0.Phase, I x4c0.Frequency]] hC ⟨row_get h4, row_getN h4, row_get h6, row_getN h6, lend0_get ⟨e231s0, (k231s0 y3 y5 x4c0 _ h8)⟩, trivial⟩ ⟨h2, trivial⟩ (by kernel_rfl) ?_
        rcases boolC (decide (y7 < 0)) with h9 | h9
        · replace h := condT h9 h
          exact WI_end (bs := [(decide (y7 < 0), true)]) (φ := fun s' => k277s1_0b = .next s') (st' := (st277s1_0 x1 x2 x3)) (R' := (R277s1_0 x0 x4c0)) mixed lv277s1 24 [true] [] [] 2 [0, 1] (w64 ((w64 (shrI .u64 (IntKind.wrap .u64 (w64 (s277s1_0.1 + s277s1_0.2))) 1)) + 1), s277s1_0.2) hC trivial ⟨h9, trivial⟩ (by kernel_rfl) (by kernel_rfl) (Option.some.inj h).symm
        · replace h := condF h9 h
          exact WI_end (bs := [(decide (y7 < 0), false)]) (φ := fun s' => k277s1_0b = .next s') (st' := (st277s1_0 x1 x2 x3)) (R' := (R277s1_0 x0 x4c0)) mixed lv277s1 24 [false] [] [] 2 [0, 1] (s277s1_0.1, w64 (shrI .u64 (IntKind.wrap .u64 (w64 (s277s1_0.1 + s277s1_0.2))) 1)) hC trivial ⟨h9, trivial⟩ (by kernel_rfl) (by kernel_rfl) (Option.some.inj h).symm
      · replace h := condF h2 h
        exact WI_end (bs := [(decide (s277s1_0.1 < s277s1_0.2), false)]) (φ := fun s' => k277s1_0 = .next s') (st' := (sa277s1_0 x1 x2 x3)) (R' := (Ra277s1_0 x0 x4c0)) mixed lv277s1 26 [false] [] [] 2 [0, 1] (s277s1_0.1, s277s1_0.2) hC trivial ⟨h2, trivial⟩ (by kernel_rfl) (by kernel_rfl) (hb277s1_0 _ (Option.some.inj h).symm)
    · have h := hnext277s1_0 _ hs277s1_0
      refine WI_stop (bs := []) mixed lv277s1 24 [] [] [] 2 [0, 1] (st277s1_1 x1 x2 x3 s277s1_0 (x1, x0)) (R277s1_1 x4c0 (x1, x0)) hC trivial trivial (by kernel_rfl) ?_
      obtain ⟨k277s1_1, hm277s1_1, hret277s1_1, hnext277s1_1⟩ := andThen_inv h
      clear h
      refine WI_cut (by kernel_rfl) (fun s => k277s1_1 = .next s) (sa277s1_1 x1 x2 x3) (Ra277s1_1 x4c0) ?_ fun s277s1_1 hs277s1_1 => ?_
      · refine WI_blk (by kernel_rfl) ?_
        refine WI_while (by kernel_rfl) (F277s1_l1 s277s1_0) (st277s1_1 x1 x2 x3 s277s1_0) (R277s1_1 x4c0) k277s1_1 1152921504606846976 (x1, x0) hm277s1_1 rfl rfl fun s277s1_1 k277s1_1b h hb277s1_1 hr277s1_1 => ?_
        unfold F277s1_l1 at h
        rcases boolC ((c277s1_1 s277s1_0 s277s1_1)) with h10 | h10
        · replace h := condT h10 h
          obtain ⟨y11, h12, h⟩ := bindE h
          obtain ⟨y13, h14, h⟩ := bindE h
          obtain ⟨y15, h16, h⟩ := bindE h
          obtain ⟨y17, h18, h⟩ := bindE h
          obtain ⟨y19, h20, h⟩ := bindE h
          exact WI_end (bs := [((c277s1_1 s277s1_0 s277s1_1), true)]) (φ := fun s' => k277s1_1b = .next s') (st' := (st277s1_1 x1 x2 x3 s277s1_0)) (R' := (R277s1_1 x4c0)) mixed lv277s1 31 [true] [.row (s277s1_1.2.map pI) (w64 (s277s1_1.1 + 1)) (pI y11), .row (s277s1_1.2.map pI) (((Int.toNat (w64 (s277s1_1.1 + 1))) : Nat) : Int) (pI y11), .row (s277s1_1.2.map pI) s277s1_1.1 (pI y13), .row (s277s1_1.2.map pI) (((Int.toNat s277s1_1.1) : Nat) : Int) (pI y13), .row (s277s1_1.2.map pI) s277s1_1.1 (pI y13), .upd (s277s1_1.2.map pI) (Int.toNat s277s1_1.1) (pI y13) (pI y11) (y15.map pI), .row (y15.map pI) (w64 (s277s1_1.1 + 1)) (pI y17), .upd (y15.map pI) (Int.toNat (w64 (s277s1_1.1 + 1))) (pI y17) (pI y13) (y19.map pI)] [] 2 [0, 1] (w64 (s277s1_1.1 + 1), y19) hC ⟨row_get h12, row_getN h12, row_get h14, row_getN h14, row_get h14, upd_get h14 h16, row_get h18, upd_get h18 h20, trivial⟩ ⟨h10, trivial⟩ (by kernel_rfl) (by kernel_rfl) (Option.some.inj h).symm
        · replace h := condF h10 h
          exact WI_end (bs := [((c277s1_1 s277s1_0 s277s1_1), false)]) (φ := fun s' => k277s1_1 = .next s') (st' := (sa277s1_1 x1 x2 x3)) (R' := (Ra277s1_1 x4c0)) mixed lv277s1 26 [false] [] [] 2 [0, 1] (s277s1_1.1, s277s1_1.2) hC trivial ⟨h10, trivial⟩ (by kernel_rfl) (by kernel_rfl) (hb277s1_1 _ (Option.some.inj h).symm)
      · have h := hnext277s1_1 _ hs277s1_1
        replace h := Option.some.inj h
        subst h
        exact WI_ret (bs := []) mixed lv277s1 21 [] [] [] [] 2 [0, 1] rfl hC trivial trivial (by kernel_rfl)
  · replace h := condF h1 h
    rcases boolC (((w64 (x3 - x2)) == 1)) with h21 | h21
    · replace h := condT h21 h
      refine WI_stop (bs := [(((w64 (x2 - x1)) == 1), false), (((w64 (x3 - x2)) == 1), true)]) mixed lv277s1 35 [false, true] [] [] 2 [0, 1] (st277s1_2 x1 x2 x3 (x1, x2)) (R277s1_2 x0 x4c0 (x1, x2)) hC trivial ⟨h1, h21, trivial⟩ (by kernel_rfl) ?_
      obtain ⟨k277s1_2, hm277s1_2, hret277s1_2, hnext277s1_2⟩ := andThen_inv h
      clear h
      refine WI_cut (by kernel_rfl) (fun s => k277s1_2 = .next s) (sa277s1_2 x1 x2 x3) (Ra277s1_2 x0 x4c0) ?_ fun s277s1_2 hs277s1_2 => ?_
      · refine WI_blk (by kernel_rfl) ?_
        refine WI_while (by kernel_rfl) (F277s1_l2 x0 x2 x4c0) (st277s1_2 x1 x2 x3) (R277s1_2 x0 x4c0) k277s1_2 1152921504606846976 (x1, x2) hm277s1_2 rfl rfl fun s277s1_2 k277s1_2b h hb277s1_2 hr277s1_2 => ?_
        unfold F277s1_l2 at h
        rcases boolC (decide (s277s1_2.1 < s277s1_2.2)) with h22 | h22
        · replace h := condT h22 h
          obtain ⟨y23, h24, h⟩ := bindE h
          obtain ⟨y25, h26, h⟩ := bindE h
          obtain ⟨y27, h28, h⟩ := bindE h
          refine WI_stop (bs := [(decide (s277s1_2.1 < s277s1_2.2), true)]) mixed lv277s1 31 [true] [.row (x0.map pI) x2 (pI y23), .row (x0.map pI) (((Int.toNat x2) : Nat) : Int) (pI y23), .row (x0.map pI) (w64 (shrI .u64 (IntKind.wrap .u64 (w64 (s277s1_2.1 + s277s1_2.2))) 1)) (pI y25), .row (x0.map pI) (((Int.toNat (w64 (shrI .u64 (IntKind.wrap .u64 (w64 (s277s1_2.1 + s277s1_2.2))) 1))) : Nat) : Int) (pI y25), .callB 231 [.d (I y23), .d (I y25), .d (.ip [.v (.int .i64 x4c0.Buses), .s (x4c0.Breakers.map api_Breaker.ps), .s (x4c0.Sources.map api_Source.ps), .s (x4c0.Consumers.map api_Consumer.ps), .v (.int .i64 x4c0.Phase), .v (.int .i64 x4c0.Frequency)])] (.d (I y27)) [[]] 0 []] [] 2 [0, 1] [(0, .d (.os 0)), (1, .d (I x1)), (2, .d (I x2)), (3, .d (I x3)), (4, .d (.fn (.func 231) [] [.o 1 0])), (14, .d (I s277s1_2.1)), (15, .d (I s277s1_2.2)), (16, .d (I (w64 (shrI .u64 (IntKind.wrap .u64 (w64 (s277s1_2.1 + s277s1_2.2))) 1)))), (103, .d (Bo (!(decide (y27 < 0)))))] [.sl 3 1 (x0.map pI), .box 29 [I x4c0.Buses, DS api_Breaker.ps x4c0.Breakers, DS api_Source.ps x4c0.Sources, DS api_Consumer.ps x4c0.Consumers, I x4c0.Phase, I x4c0.Frequency]] hC ⟨row_get h24, row_getN h24, row_get h26, row_getN h26, lend0_get ⟨e231s0, (k231s0 y23 y25 x4c0 _ h28)⟩, trivial⟩ ⟨h22, trivial⟩ (by kernel_rfl) ?_
          rcases boolC (!(decide (y27 < 0))) with h29 | h29
          · replace h := condT h29 h
            exact WI_end (bs := [(!(decide (y27 < 0)), true)]) (φ := fun s' => k277s1_2b = .next s') (st' := (st277s1_2 x1 x2 x3)) (R' := (R277s1_2 x0 x4c0)) mixed lv277s1 24 [true] [] [] 2 [0, 1] (w64 ((w64 (shrI .u64 (IntKind.wrap .u64 (w64 (s277s1_2.1 + s277s1_2.2))) 1)) + 1), s277s1_2.2) hC trivial ⟨h29, trivial⟩ (by kernel_rfl) (by kernel_rfl) (Option.some.inj h).symm
          · replace h := condF h29 h
            exact WI_end (bs := [(!(decide (y27 < 0)), false)]) (φ := fun s' => k277s1_2b = .next s') (st' := (st277s1_2 x1 x2 x3)) (R' := (R277s1_2 x0 x4c0)) mixed lv277s1 24 [false] [] [] 2 [0, 1] (s277s1_2.1, w64 (shrI .u64 (IntKind.wrap .u64 (w64 (s277s1_2.1 + s277s1_2.2))) 1)) hC trivial ⟨h29, trivial⟩ (by kernel_rfl) (by kernel_rfl) (Option.some.inj h).symm
        · replace h := condF h22 h
          exact WI_end (bs := [(decide (s277s1_2.1 < s277s1_2.2), false)]) (φ := fun s' => k277s1_2 = .next s') (st' := (sa277s1_2 x1 x2 x3)) (R' := (Ra277s1_2 x0 x4c0)) mixed lv277s1 26 [false] [] [] 2 [0, 1] (s277s1_2.1, s277s1_2.2) hC trivial ⟨h22, trivial⟩ (by kernel_rfl) (by kernel_rfl) (hb277s1_2 _ (Option.some.inj h).symm)
      · have h := hnext277s1_2 _ hs277s1_2
        refine WI_stop (bs := []) mixed lv277s1 24 [] [] [] 2 [0, 1] (st277s1_3 x1 x2 x3 s277s1_2 (x2, x0)) (R277s1_3 x4c0 (x2, x0)) hC trivial trivial (by kernel_rfl) ?_
        obtain ⟨k277s1_3, hm277s1_3, hret277s1_3, hnext277s1_3⟩ := andThen_inv h
        clear h
        refine WI_cut (by kernel_rfl) (fun s => k277s1_3 = .next s) (sa277s1_3 x1 x2 x3) (Ra277s1_3 x4c0) ?_ fun s277s1_3 hs277s1_3 => ?_
        · refine WI_blk (by kernel_rfl) ?_
          refine WI_while (by kernel_rfl) (F277s1_l3 s277s1_2) (st277s1_3 x1 x2 x3 s277s1_2) (R277s1_3 x4c0) k277s1_3 1152921504606846976 (x2, x0) hm277s1_3 rfl rfl fun s277s1_3 k277s1_3b h hb277s1_3 hr277s1_3 => ?_
          unfold F277s1_l3 at h
          rcases boolC (decide (s277s1_3.1 > s277s1_2.1)) with h30 | h30
          · replace h := condT h30 h
            obtain ⟨y31, h32, h⟩ := bindE h
            obtain ⟨y33, h34, h⟩ := bindE h
            obtain ⟨y35, h36, h⟩ := bindE h
            obtain ⟨y37, h38, h⟩ := bindE h
            obtain ⟨y39, h40, h⟩ := bindE h
            exact WI_end (bs := [(decide (s277s1_3.1 > s277s1_2.1), true)]) (φ := fun s' => k277s1_3b = .next s') (st' := (st277s1_3 x1 x2 x3 s277s1_2)) (R' := (R277s1_3 x4c0)) mixed lv277s1 31 [true] [.row (s277s1_3.2.map pI) (w64 (s277s1_3.1 - 1)) (pI y31), .row (s277s1_3.2.map pI) (((Int.toNat (w64 (s277s1_3.1 - 1))) : Nat) : Int) (pI y31), .row (s277s1_3.2.map pI) s277s1_3.1 (pI y33), .row (s277s1_3.2.map pI) (((Int.toNat s277s1_3.1) : Nat) : Int) (pI y33), .row (s277s1_3.2.map pI) s277s1_3.1 (pI y33), .upd (s277s1_3.2.map pI) (Int.toNat s277s1_3.1) (pI y33) (pI y31) (y35.map pI), .row (y35.map pI) (w64 (s277s1_3.1 - 1)) (pI y37), .upd (y35.map pI) (Int.toNat (w64 (s277s1_3.1 - 1))) (pI y37) (pI y33) (y39.map pI)] [] 2 [0, 1] (w64 (s277s1_3.1 - 1), y39) hC ⟨row_get h32, row_getN h32, row_get h34, row_getN h34, row_get h34, upd_get h34 h36, row_get h38, upd_get h38 h40, trivial⟩ ⟨h30, trivial⟩ (by kernel_rfl) (by kernel_rfl) (Option.some.inj h).symm
          · replace h := condF h30 h
            exact WI_end (bs := [(decide (s277s1_3.1 > s277s1_2.1), false)]) (φ := fun s' => k277s1_3 = .next s') (st' := (sa277s1_3 x1 x2 x3)) (R' := (Ra277s1_3 x4c0)) mixed lv277s1 26 [false] [] [] 2 [0, 1] (s277s1_3.1, s277s1_3.2) hC trivial ⟨h30, trivial⟩ (by kernel_rfl) (by kernel_rfl) (hb277s1_3 _ (Option.some.inj h).symm)
        · have h := hnext277s1_3 _ hs277s1_3
          replace h := Option.some.inj h
          subst h
          exact WI_ret (bs := []) mixed lv277s1 21 [] [] [] [] 2 [0, 1] rfl hC trivial trivial (by kernel_rfl)
    · replace h := condF h21 h
      refine WI_stop (bs := [(((w64 (x2 - x1)) == 1), false), (((w64 (x3 - x2)) == 1), false)]) mixed lv277s1 40 [false, false] [] [] 2 [0, 1] [(0, .d (.os 0)), (1, .d (I x1)), (2, .d (I x2)), (3, .d (I x3)), (4, .d (.fn (.func 231) [] [.o 1 0])), (18, .d (I (w64 (shrI .u64 (IntKind.wrap .u64 (w64 (x1 + x3))) 1)))), (19, .d (I (w64 ((w64 (shrI .u64 (IntKind.wrap .u64 (w64 (x1 + x3))) 1)) + x2)))), (20, .d (I 0)), (21, .d (I 0)), (140, .d (Bo (decide (x2 > (w64 (shrI .u64 (IntKind.wrap .u64 (w64 (x1 + x3))) 1))))))] [.sl 3 1 (x0.map pI), .box 29 [I x4c0.Buses, DS api_Breaker.ps x4c0.Breakers, DS api_Source.ps x4c0.Sources, DS api_Consumer.ps x4c0.Consumers, I x4c0.Phase, I x4c0.Frequency]] hC trivial ⟨h1, h21, trivial⟩ (by kernel_rfl) ?_
      obtain ⟨k277s1_4, h, hret277s1_4, hnext277s1_4⟩ := andThen_inv h
      refine WI_cut (by kernel_rfl) (fun s => k277s1_4 = .next s) (sa277s1_4 x1 x2 x3) (Ra277s1_4 x0 x4c0) ?_ fun s277s1_4 hs277s1_4 => ?_
      · unfold F277s1_m4 at h
        rcases boolC ((c277s1_2 x1 x2 x3)) with h41 | h41
        · replace h := condT h41 h
          exact WI_end (bs := [((c277s1_2 x1 x2 x3), true)]) (φ := fun s' => k277s1_4 = .next s') (st' := (sa277s1_4 x1 x2 x3)) (R' := (Ra277s1_4 x0 x4c0)) mixed lv277s1 25 [true] [] [] 2 [0, 1] (w64 ((w64 ((w64 (shrI .u64 (IntKind.wrap .u64 (w64 (x1 + x3))) 1)) + x2)) - x3), w64 (shrI .u64 (IntKind.wrap .u64 (w64 (x1 + x3))) 1)) hC trivial ⟨h41, trivial⟩ (by kernel_rfl) (by kernel_rfl) (Option.some.inj h).symm
        · replace h := condF h41 h
          exact WI_end (bs := [((c277s1_2 x1 x2 x3), false)]) (φ := fun s' => k277s1_4 = .next s') (st' := (sa277s1_4 x1 x2 x3)) (R' := (Ra277s1_4 x0 x4c0)) mixed lv277s1 25 [false] [] [] 2 [0, 1] (x1, x2) hC trivial ⟨h41, trivial⟩ (by kernel_rfl) (by kernel_rfl) (Option.some.inj h).symm
      · clear h; have h := hnext277s1_4 _ hs277s1_4
        refine WI_stop (bs := []) mixed lv277s1 24 [] [] [] 2 [0, 1] (st277s1_5 x1 x2 x3 (s277s1_4.1, s277s1_4.2)) (R277s1_5 x0 x4c0 (s277s1_4.1, s277s1_4.2)) hC trivial trivial (by kernel_rfl) ?_
        obtain ⟨k277s1_5, hm277s1_5, hret277s1_5, hnext277s1_5⟩ := andThen_inv h
        clear h
        refine WI_cut (by kernel_rfl) (fun s => k277s1_5 = .next s) (sa277s1_5 x1 x2 x3) (Ra277s1_5 x0 x4c0) ?_ fun s277s1_5 hs277s1_5 => ?_
        · refine WI_blk (by kernel_rfl) ?_
          refine WI_while (by kernel_rfl) (F277s1_l5 x0 x1 x2 x3 x4c0) (st277s1_5 x1 x2 x3) (R277s1_5 x0 x4c0) k277s1_5 1152921504606846976 (s277s1_4.1, s277s1_4.2) hm277s1_5 rfl rfl fun s277s1_5 k277s1_5b h hb277s1_5 hr277s1_5 => ?_
          unfold F277s1_l5 at h
          rcases boolC (decide (s277s1_5.1 < s277s1_5.2)) with h42 | h42
          · replace h := condT h42 h
            obtain ⟨y43, h44, h⟩ := bindE h
            obtain ⟨y45, h46, h⟩ := bindE h
            obtain ⟨y47, h48, h⟩ := bindE h
            refine WI_stop (bs := [(decide (s277s1_5.1 < s277s1_5.2), true)]) mixed lv277s1 31 [true] [.row (x0.map pI) (w64 ((w64 ((w64 ((w64 (shrI .u64 (IntKind.wrap .u64 (w64 (x1 + x3))) 1)) + x2)) - 1)) - (w64 (shrI .u64 (IntKind.wrap .u64 (w64 (s277s1_5.1 + s277s1_5.2))) 1)))) (pI y43), .row (x0.map pI) (((Int.toNat (w64 ((w64 ((w64 ((w64 (shrI .u64 (IntKind.wrap .u64 (w64 (x1 + x3))) 1)) + x2)) - 1)) - (w64 (shrI .u64 (IntKind.wrap .u64 (w64 (s277s1_5.1 + s277s1_5.2))) 1))))) : Nat) : Int) (pI y43), .row (x0.map pI) (w64 (shrI .u64 (IntKind.wrap .u64 (w64 (s277s1_5.1 + s277s1_5.2))) 1)) (pI y45), .row (x0.map pI) (((Int.toNat (w64 (shrI .u64 (IntKind.wrap .u64 (w64 (s277s1_5.1 + s277s1_5.2))) 1))) : Nat) : Int) (pI y45), .callB 231 [.d (I y43), .d (I y45), .d (.ip [.v (.int .i64 x4c0.Buses), .s (x4c0.Breakers.map api_Breaker.ps), .s (x4c0.Sources.map api_Source.ps), .s (x4c0.Consumers.map api_Consumer.ps), .v (.int .i64 x4c0.Phase), .v (.int .i64 x4c0.Frequency)])] (.d (I y47)) [[]] 0 []] [] 2 [0, 1] [(0, .d (.os 0)), (1, .d (I x1)), (2, .d (I x2)), (3, .d (I x3)), (4, .d (.fn (.func 231) [] [.o 1 0])), (18, .d (I (w64 (shrI .u64 (IntKind.wrap .u64 (w64 (x1 + x3))) 1)))), (19, .d (I (w64 ((w64 (shrI .u64 (IntKind.wrap .u64 (w64 (x1 + x3))) 1)) + x2)))), (20, .d (I s277s1_5.1)), (21, .d (I s277s1_5.2)), (22, .d (I (w64 ((w64 ((w64 (shrI .u64 (IntKind.wrap .u64 (w64 (x1 + x3))) 1)) + x2)) - 1)))), (23, .d (I (w64 (shrI .u64 (IntKind.wrap .u64 (w64 (s277s1_5.1 + s277s1_5.2))) 1)))), (171, .d (Bo (!(decide (y47 < 0)))))] [.sl 3 1 (x0.map pI), .box 29 [I x4c0.Buses, DS api_Breaker.ps x4c0.Breakers, DS api_Source.ps x4c0.Sources, DS api_Consumer.ps x4c0.Consumers, I x4c0.Phase, I x4c0.Frequency]] hC ⟨row_get h44, row_getN h44, row_get h46, row_getN h46, lend0_get ⟨e231s0, (k231s0 y43 y45 x4c0 _ h48)⟩, trivial⟩ ⟨h42, trivial⟩ (by kernel_rfl) ?_
            rcases boolC (!(decide (y47 < 0))) with h49 | h49
            · replace h := condT h49 h
              exact WI_end (bs := [(!(decide (y47 < 0)), true)]) (φ := fun s' => k277s1_5b = .next s') (st' := (st277s1_5 x1 x2 x3)) (R' := (R277s1_5 x0 x4c0)) mixed lv277s1 24 [true] [] [] 2 [0, 1] (w64 ((w64 (shrI .u64 (IntKind.wrap .u64 (w64 (s277s1_5.1 + s277s1_5.2))) 1)) + 1), s277s1_5.2) hC trivial ⟨h49, trivial⟩ (by kernel_rfl) (by kernel_rfl) (Option.some.inj h).symm
            · replace h := condF h49 h
              exact WI_end (bs := [(!(decide (y47 < 0)), false)]) (φ := fun s' => k277s1_5b = .next s') (st' := (st277s1_5 x1 x2 x3)) (R' := (R277s1_5 x0 x4c0)) mixed lv277s1 24 [false] [] [] 2 [0, 1] (s277s1_5.1, w64 (shrI .u64 (IntKind.wrap .u64 (w64 (s277s1_5.1 + s277s1_5.2))) 1)) hC trivial ⟨h49, trivial⟩ (by kernel_rfl) (by kernel_rfl) (Option.some.inj h).symm
          · replace h := condF h42 h
            exact WI_end (bs := [(decide (s277s1_5.1 < s277s1_5.2), false)]) (φ := fun s' => k277s1_5 = .next s') (st' := (sa277s1_5 x1 x2 x3)) (R' := (Ra277s1_5 x0 x4c0)) mixed lv277s1 26 [false] [] [] 2 [0, 1] (s277s1_5.1, s277s1_5.2) hC trivial ⟨h42, trivial⟩ (by kernel_rfl) (by kernel_rfl) (hb277s1_5 _ (Option.some.inj h).symm)
        · have h := hnext277s1_5 _ hs277s1_5
          refine WI_stop (bs := []) mixed lv277s1 26 [] [] [] 2 [0, 1] [(0, .d (.os 0)), (1, .d (I x1)), (2, .d (I x2)), (3, .d (I x3)), (4, .d (.fn (.func 231) [] [.o 1 0])), (18, .d (I (w64 (shrI .u64 (IntKind.wrap .u64 (w64 (x1 + x3))) 1)))), (20, .d (I s277s1_5.1)), (24, .d (I (w64 ((w64 ((w64 (shrI .u64 (IntKind.wrap .u64 (w64 (x1 + x3))) 1)) + x2)) - s277s1_5.1)))), (185, .d (Bo ((decide (s277s1_5.1 < x2)) && (decide (x2 < (w64 ((w64 ((w64 (shrI .u64 (IntKind.wrap .u64 (w64 (x1 + x3))) 1)) + x2)) - s277s1_5.1)))))))] [.sl 3 1 (x0.map pI), .box 29 [I x4c0.Buses, DS api_Breaker.ps x4c0.Breakers, DS api_Source.ps x4c0.Sources, DS api_Consumer.ps x4c0.Consumers, I x4c0.Phase, I x4c0.Frequency]] hC trivial trivial (by kernel_rfl) ?_
          obtain ⟨k277s1_6, h, hret277s1_6, hnext277s1_6⟩ := andThen_inv h
          refine WI_cut (by kernel_rfl) (fun s => k277s1_6 = .next s) (sa277s1_6 x1 x2 x3 s277s1_5) (Ra277s1_6) ?_ fun s277s1_6 hs277s1_6 => ?_
          · unfold F277s1_m6 at h
            rcases boolC ((c277s1_3 x1 x2 x3 s277s1_5)) with h50 | h50
            · replace h := condT h50 h
              obtain ⟨y51, h52, h⟩ := bindE h
              exact WI_end (bs := [((c277s1_3 x1 x2 x3 s277s1_5), true)]) (φ := fun s' => k277s1_6 = .next s') (st' := (sa277s1_6 x1 x2 x3 s277s1_5)) (R' := (Ra277s1_6)) mixed lv277s1 23 [true] [.call 282 [.d (.os 0), .d (I s277s1_5.1), .d (I x2), .d (I (w64 ((w64 ((w64 (shrI .u64 (IntKind.wrap .u64 (w64 (x1 + x3))) 1)) + x2)) - s277s1_5.1))), .d (.fn (.func 231) [] [.o 1 0])] [.sl 3 1 (x0.map pI), .box 29 [I x4c0.Buses, DS api_Breaker.ps x4c0.Breakers, DS api_Source.ps x4c0.Sources, DS api_Consumer.ps x4c0.Consumers, I x4c0.Phase, I x4c0.Frequency]] (.tup []) [.sl 3 1 (y51.1.map pI), .box 29 [I y51.2.Buses, DS api_Breaker.ps y51.2.Breakers, DS api_Source.ps y51.2.Sources, DS api_Consumer.ps y51.2.Consumers, I y51.2.Phase, I y51.2.Frequency]] [0, 1]] [] 2 [0, 1] (y51.1, y51.2.Buses, y51.2.Breakers, y51.2.Sources, y51.2.Consumers, y51.2.Phase, y51.2.Frequency) hC ⟨⟨e282s1, (k282s1 x0 s277s1_5.1 x2 (w64 ((w64 ((w64 (shrI .u64 (IntKind.wrap .u64 (w64 (x1 + x3))) 1)) + x2)) - s277s1_5.1)) x4c0 _ h52)⟩, trivial⟩ ⟨h50, trivial⟩ (by kernel_rfl) (by kernel_rfl) (Option.some.inj h).symm
            · replace h := condF h50 h
              exact WI_end (bs := [((c277s1_3 x1 x2 x3 s277s1_5), false)]) (φ := fun s' => k277s1_6 = .next s') (st' := (sa277s1_6 x1 x2 x3 s277s1_5)) (R' := (Ra277s1_6)) mixed lv277s1 23 [false] [] [] 2 [0, 1] (x0, x4c0.Buses, x4c0.Breakers, x4c0.Sources, x4c0.Consumers, x4c0.Phase, x4c0.Frequency) hC trivial ⟨h50, trivial⟩ (by kernel_rfl) (by kernel_rfl) (Option.some.inj h).symm
          · clear h; have h := hnext277s1_6 _ hs277s1_6
            rcases boolC ((c277s1_4 x1 x3 s277s1_5)) with h53 | h53
            · replace h := condT h53 h
              cases h
            · replace h := condF h53 h
              rcases boolC ((c277s1_5 x1 x2 x3 s277s1_5)) with h54 | h54
              · replace h := condT h54 h
                cases h
              · replace h := condF h54 h
                replace h := Option.some.inj h
                subst h
                exact WI_endF (bs := [((c277s1_4 x1 x3 s277s1_5), false), ((c277s1_5 x1 x2 x3 s277s1_5), false)]) mixed lv277s1 29 [false, false] [] [] [] 2 [0, 1] rfl hC trivial ⟨h53, h54, trivial⟩ (by kernel_rfl) (by kernel_rfl)
theorem e277s1 : Enters Tryz.prog 277 := Go.SL.enters_of Tryz.func277 (by kernel_rfl) (by kernel_rfl)
def lv243s1 : List Nat := [0, 1, 4, 5, 7, 8, 9, 16]
def st243s1_0 (x0 : List Int) (i243s1_0 : Nat) (s243s1_0 : Unit) : St := [(0, .d (.os 0)), (1, .d (.fn (.func 226) [] [.o 1 0])), (4, .d (I 0)), (7, .d (I (x0.length : Int))), (8, .d (I (cnt 0 i243s1_0)))]
def R243s1_0 (x0 : List Int) (x1c0 : api_Island) (i243s1_0 : Nat) (s243s1_0 : Unit) : List Res := [.sl 3 1 (x0.map pI), .box 78 [DS pI x1c0.Buses, DS pI x1c0.Sources, DS pI x1c0.Consumers]]
def sa243s1_0  (s243s1_0 : Unit) : St := [(4, .d (I 0))]
def Ra243s1_0 (x0 : List Int) (x1c0 : api_Island) (s243s1_0 : Unit) : List Res := [.sl 3 1 (x0.map pI), .box 78 [DS pI x1c0.Buses, DS pI x1c0.Sources, DS pI x1c0.Consumers]]
theorem k243s1 (x0 : List Int) (x1c0 : api_Island) (r : Int × api_Island) (h : F243s1 x0 x1c0 = some r) : CallOk Tryz.prog 243 [.d (.os 0), .d (.fn (.func 226) [] [.o 1 0])] [.sl 3 1 (x0.map pI), .box 78 [DS pI x1c0.Buses, DS pI x1c0.Sources, DS pI x1c0.Consumers]] (.d (I r.1)) [.sl 3 1 (x0.map pI), .box 78 [DS pI r.2.Buses, DS pI r.2.Sources, DS pI r.2.Consumers]] := by
  unfold F243s1 at h
  refine callOk_of 19 Tryz.func243 rfl rfl rfl fun C hC => ?_
  refine WI_stop (bs := []) mixed lv243s1 26 [] [.len ((x0.map pI).length : Int) (x0.length : Int)] [] 2 [0, 1] (st243s1_0 x0 0 ()) (R243s1_0 x0 x1c0 0 ()) hC ⟨len_map _ _, trivial⟩ trivial (by kernel_rfl) ?_
  obtain ⟨k243s1_0, hm243s1_0, hret243s1_0, hnext243s1_0⟩ := andThen_inv h
  clear h
  refine WI_cut (by kernel_rfl) (fun s => k243s1_0 = .next s) (sa243s1_0) (Ra243s1_0 x0 x1c0) ?_ fun s243s1_0 hs243s1_0 => ?_
  · refine WI_blk (by kernel_rfl) ?_
    refine WI_lenO 0 0 rfl rfl fun hl243s1_0 => ?_
    refine WI_foldI (by kernel_rfl) (F243s1_l0 x1c0) (st243s1_0 x0) (R243s1_0 x0 x1c0) k243s1_0 x0 () hm243s1_0 rfl rfl (fun s243s1_0 hn243s1_0 => ?_) fun i243s1_0 x243s1_0 s243s1_0 k243s1_0b hi243s1_0 hx243s1_0 h hb243s1_0 hr243s1_0 => ?_
    · clear hm243s1_0
      exact WI_end (bs := [(decide ((cnt 0 x0.length) < (x0.length : Int)), false)]) (φ := fun s' => k243s1_0 = .next s') (st' := (sa243s1_0)) (R' := (Ra243s1_0 x0 x1c0)) mixed lv243s1 26 [false] [] [] 2 [0, 1] () hC trivial ⟨(cnt_end hl243s1_0), trivial⟩ (by kernel_rfl) (by kernel_rfl) hn243s1_0
    · unfold F243s1_l0 at h
      obtain ⟨y1, h2, h⟩ := bindE h
      refine WI_stop (bs := [(decide ((cnt 0 i243s1_0) < (x0.length : Int)), true)]) mixed lv243s1 32 [true] [.row (x0.map pI) (cnt 0 i243s1_0) (pI x243s1_0), .row (x0.map pI) (((Int.toNat (cnt 0 i243s1_0)) : Nat) : Int) (pI x243s1_0), .callB 226 [.d (I x243s1_0), .d (.ip [.s (x1c0.Buses.map pI), .s (x1c0.Sources.map pI), .s (x1c0.Consumers.map pI)])] (.d (Bo y1)) [[]] 0 []] [] 2 [0, 1] [(0, .d (.os 0)), (1, .d (.fn (.func 226) [] [.o 1 0])), (4, .d (I 0)), (5, .d (I (cnt 0 i243s1_0))), (7, .d (I (x0.length : Int))), (8, .d (I (cnt 0 i243s1_0))), (16, .d (Bo y1))] [.sl 3 1 (x0.map pI), .box 78 [DS pI x1c0.Buses, DS pI x1c0.Sources, DS pI x1c0.Consumers]] hC ⟨row_get (get_cnt hx243s1_0 hl243s1_0), row_getN (get_cnt hx243s1_0 hl243s1_0), lend0_get ⟨e226s0, (k226s0 x243s1_0 x1c0 _ h2)⟩, trivial⟩ ⟨(cnt_lt hi243s1_0 hl243s1_0), trivial⟩ (by kernel_rfl) ?_
      rcases boolC (y1) with h3 | h3
      · replace h := condT h3 h
        have hq := hret243s1_0 _ (hr243s1_0 _ (Option.some.inj h).symm)
        replace hq := Option.some.inj hq
        subst hq
        exact WI_ret (bs := [(y1, true)]) mixed lv243s1 24 [true] [] [] [.tmp 4] 2 [0, 1] rfl hC trivial ⟨h3, trivial⟩ (by kernel_rfl)
      · replace h := condF h3 h
        exact WI_end (bs := [(y1, false)]) (φ := fun s' => k243s1_0b = .next s') (st' := (st243s1_0 x0 (i243s1_0 + 1))) (R' := (R243s1_0 x0 x1c0 (i243s1_0 + 1))) mixed lv243s1 25 [false] [] [] 2 [0, 1] () hC trivial ⟨h3, trivial⟩ (by kernel_rfl) (by kernel_rfl) (Option.some.inj h).symm
  · have h := hnext243s1_0 _ hs243s1_0
    replace h := Option.some.inj h
    subst h
    exact WI_ret (bs := []) mixed lv243s1 23 [] [] [] [.tmp 4] 2 [0, 1] rfl hC trivial trivial (by kernel_rfl)
theorem e243s1 : Enters Tryz.prog 243 := Go.SL.enters_of Tryz.func243 (by kernel_rfl) (by kernel_rfl)
theorem k68 (x0 : api_Board) (x1 : api_Power) (x2 : Int) (r : Bool) (h : F68 x0 x1 x2 = some r) : CallOk Tryz.prog 68 [.agg [I x0.Buses, DS api_Breaker.ps x0.Breakers, DS api_Source.ps x0.Sources, DS api_Consumer.ps x0.Consumers, I x0.Phase, I x0.Frequency], .agg [DS pB x1.Closed, DS api_Running.ps x1.Sources, DS pI x1.Limits, DS api_Part.ps x1.Broken], .d (I x2)] [] (.d (Bo r)) [] := by
  unfold F68 at h
  refine callOk_of 36 Tryz.func68 rfl rfl rfl fun C hC => ?_
  obtain ⟨y1, h2, h⟩ := bindE h
  obtain ⟨y3, h4, h⟩ := bindE h
  obtain ⟨y5, h6, h⟩ := bindE h
  obtain ⟨y7, h8, h⟩ := bindE h
  replace h := Option.some.inj h
  subst h
  exact WI_ret (bs := []) mixed [0, 1, 2, 3, 4, 6, 7] 27 [] [.row (x0.Breakers.map api_Breaker.ps) x2 (api_Breaker.ps y1), .call 134 [.agg [DS pB x1.Closed, DS api_Running.ps x1.Sources, DS pI x1.Limits, DS api_Part.ps x1.Broken], .d (I 2), .d (I x2)] [] (.d (Bo y3)) [] [], .when [(!y3, true)] (.call 134 [.agg [DS pB x1.Closed, DS api_Running.ps x1.Sources, DS pI x1.Limits, DS api_Part.ps x1.Broken], .d (I 3), .d (I y1.A)] [] (.d (Bo y5)) [] []), .when [(((!y3) && (!y5)), true), ((y1.Kind != 1), false)] (.call 134 [.agg [DS pB x1.Closed, DS api_Running.ps x1.Sources, DS pI x1.Limits, DS api_Part.ps x1.Broken], .d (I 3), .d (I y1.B)] [] (.d (Bo y7)) [] [])] [] [.tmp 6] 0 [] rfl hC ⟨row_get h2, ⟨e134, (k134 x1 2 x2 _ h4)⟩, fun hg => ⟨e134, (k134 x1 3 y1.A _ (guardO_get h6 hg))⟩, fun hg => ⟨e134, (k134 x1 3 y1.B _ (guardO_get h8 hg))⟩, trivial⟩ trivial (by kernel_rfl)
theorem e68 : Enters Tryz.prog 68 := Go.SL.enters_of Tryz.func68 (by kernel_rfl) (by kernel_rfl)
end Go.Proofs.YtkngbnedbgndoaaGreat
