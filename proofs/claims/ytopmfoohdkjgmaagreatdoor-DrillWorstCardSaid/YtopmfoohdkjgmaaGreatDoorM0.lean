import Derived.Test.YtopmfoohdkjgmaaGreatDoorRows
import Derived.Test.YtopmfoohdkjgmaaGreatDoorMo
import Derived.Test.YtopmfoohdkjgmaaGreatDoorSr
set_option linter.unusedVariables false
namespace Go.Proofs.YtopmfoohdkjgmaaGreatDoor
open Go.SL
theorem mixed : Tryz.prog.follows .mixedOrders = true := by kernel_rfl
end Go.Proofs.YtopmfoohdkjgmaaGreatDoor
set_option linter.unusedVariables false
namespace Go.Proofs.YtopmfoohdkjgmaaGreatDoor
open Go.SL
theorem k5 (x0 : List Int) (r : dynposmake_Src) (h : F5 x0 = some r) : CallOk Tryz.prog 5 [.d (DS pI x0)] [] (.d (.o 0 0)) [.box 105 (d105 r)] := by
  unfold F5 at h
  refine callOk_of 10 Tryz.func5 rfl rfl rfl fun C hC => ?_
  obtain ⟨y2, h1, h⟩ := bindE h
  replace h := Option.some.inj h
  subst h
  exact WI_ret (bs := []) mixed [0, 2] 25 [] [.len ((x0.map pI).length : Int) (x0.length : Int), .cut (x0.map pI) 1 0 (min (x0.length : Int) 600) (y2.map pI)] [] [.tmp 2] 0 [0] rfl hC ⟨len_map _ _, cut_get pI 1 (fun _ => rfl) h1, trivial⟩ trivial (by kernel_rfl)
theorem e5 : Enters Tryz.prog 5 := Go.SL.entersOf Tryz.func5 (by kernel_rfl) (by kernel_rfl)
theorem k13 (x0 : Int) (x1 : Int) (r : Int) (h : F13 x0 x1 = some r) : CallOk Tryz.prog 13 [.d (I x0), .d (I x1)] [] (.d (I r)) [] := by
  unfold F13 at h
  refine callOk_of 14 Tryz.func13 rfl rfl rfl fun C hC => ?_
  rcases boolC (decide (x1 < 1)) with h1 | h1
  · replace h := condT h1 h
    replace h := Option.some.inj h
    subst h
    exact WI_ret (bs := [(decide (x1 < 1), true)]) mixed [0, 1, 4, 6] 29 [true] [] [] [.tmp 4] 0 [] rfl hC trivial ⟨h1, trivial⟩ (by kernel_rfl)
  · replace h := condF h1 h
    obtain ⟨u3, h2, h⟩ := bindE h
    obtain ⟨u5, h4, h⟩ := bindE h
    replace h := Option.some.inj h
    subst h
    exact WI_ret (bs := [(decide (x1 < 1), false)]) mixed [0, 1, 4, 6] 30 [false] [.nz x1, .nz x1] [] [.tmp 4] 0 [] rfl hC ⟨nz_get h2, nz_get h4, trivial⟩ ⟨h1, trivial⟩ (by kernel_rfl)
theorem e13 : Enters Tryz.prog 13 := Go.SL.entersOf Tryz.func13 (by kernel_rfl) (by kernel_rfl)
def lv15 : List Nat := [0, 1, 4, 5, 7, 8, 9, 16]
def st15_0 (x0 : List Int) (x1 : Int) (n0 : Nat) (z0 : Unit) : St := [(0, .d (DS pI x0)), (1, .d (I x1)), (4, .d (I 0)), (7, .d (I (x0.length : Int))), (8, .d (I (cnt 0 n0)))]
def R15_0  (n0 : Nat) (z0 : Unit) : List Res := []
def sa15_0  (z0 : Unit) : St := [(4, .d (I 0))]
def Ra15_0  (z0 : Unit) : List Res := []
theorem k15 (x0 : List Int) (x1 : Int) (r : Int) (h : F15 x0 x1 = some r) : CallOk Tryz.prog 15 [.d (DS pI x0), .d (I x1)] [] (.d (I r)) [] := by
  unfold F15 at h
  refine callOk_of 19 Tryz.func15 rfl rfl rfl fun C hC => ?_
  refine WI_stop (bs := []) mixed lv15 26 [] [.len ((x0.map pI).length : Int) (x0.length : Int)] [] 0 [] (st15_0 x0 x1 0 ()) (R15_0 0 ()) hC ⟨len_map _ _, trivial⟩ trivial (by kernel_rfl) ?_
  obtain ⟨w0, hm0, hret0, hnext0⟩ := andThen_inv h
  clear h
  refine WI_cut (by kernel_rfl) (fun s => w0 = .next s) (sa15_0) (Ra15_0) ?_ fun z0 hs0 => ?_
  · refine WI_blk (by kernel_rfl) ?_
    refine WI_len 0 rfl fun hl0 => ?_
    refine WI_foldI (by kernel_rfl) (F15_l0 x1) (st15_0 x0 x1) (R15_0) w0 x0 () hm0 rfl rfl (fun z0 hn0 => ?_) fun n0 a0 z0 w0b hi0 hx0 h hb0 hr0 => ?_
    · clear hm0
      exact WI_end (bs := [(decide ((cnt 0 x0.length) < (x0.length : Int)), false)]) (φ := fun s' => w0 = .next s') (st' := (sa15_0)) (R' := (Ra15_0)) mixed lv15 26 [false] [] [] 0 [] () hC trivial ⟨(cnt_end hl0), trivial⟩ (by kernel_rfl) (by kernel_rfl) hn0
    · unfold F15_l0 at h
      rcases boolC ((x1 == a0)) with h1 | h1
      · replace h := condT h1 h
        have hq := hret0 _ (hr0 _ (Option.some.inj h).symm)
        replace hq := Option.some.inj hq
        subst hq
        exact WI_ret (bs := [(decide ((cnt 0 n0) < (x0.length : Int)), true), ((x1 == a0), true)]) mixed lv15 35 [true, true] [.row (x0.map pI) (cnt 0 n0) (pI a0)] [] [.tmp 4] 0 [] rfl hC ⟨(row_cnt hx0 hl0), trivial⟩ ⟨(cnt_lt hi0 hl0), h1, trivial⟩ (by kernel_rfl)
      · replace h := condF h1 h
        exact WI_end (bs := [(decide ((cnt 0 n0) < (x0.length : Int)), true), ((x1 == a0), false)]) (φ := fun s' => w0b = .next s') (st' := (st15_0 x0 x1 (n0 + 1))) (R' := (R15_0 (n0 + 1))) mixed lv15 36 [true, false] [.row (x0.map pI) (cnt 0 n0) (pI a0)] [] 0 [] () hC ⟨(row_cnt hx0 hl0), trivial⟩ ⟨(cnt_lt hi0 hl0), h1, trivial⟩ (by kernel_rfl) (by kernel_rfl) (Option.some.inj h).symm
  · have h := hnext0 _ hs0
    replace h := Option.some.inj h
    subst h
    exact WI_ret (bs := []) mixed lv15 23 [] [] [] [.tmp 4] 0 [] rfl hC trivial trivial (by kernel_rfl)
theorem e15 : Enters Tryz.prog 15 := Go.SL.entersOf Tryz.func15 (by kernel_rfl) (by kernel_rfl)
def sa14_0 (x0 : List Int) (z0 : Unit) : St := [(0, .d (DS pI x0)), (2, .d (I 0))]
def Ra14_0  (z0 : Unit) : List Res := []
def st14_1 (x0 : List Int) (z1 : Int × Int) : St := [(0, .d (DS pI x0)), (2, .d (I 0)), (3, .d (I z1.1)), (4, .d (I z1.2))]
def R14_1  (z1 : Int × Int) : List Res := []
def sa14_1  (z1 : Int × Int) : St := [(2, .d (I 0)), (3, .d (I z1.1))]
def Ra14_1  (z1 : Int × Int) : List Res := []
theorem k14 (x0 : List Int) (r : Int) (h : F14 x0 = some r) : CallOk Tryz.prog 14 [.d (DS pI x0)] [] (.d (I r)) [] := by
  unfold F14 at h
  refine callOk_of 25 Tryz.func14 rfl rfl rfl fun C hC => ?_
  refine WI_stop (bs := []) mixed [0, 2, 3, 4, 7, 15] 26 [] [.len ((x0.map pI).length : Int) (x0.length : Int)] [] 0 [] [(0, .d (DS pI x0)), (2, .d (I 0)), (7, .d (Bo (decide ((x0.length : Int) < 1))))] [] hC ⟨len_map _ _, trivial⟩ trivial (by kernel_rfl) ?_
  obtain ⟨w0, h, hret0, hnext0⟩ := andThen_inv h
  refine WI_cut (by kernel_rfl) (fun s => w0 = .next s) (sa14_0 x0) (Ra14_0) ?_ fun z0 hs0 => ?_
  · unfold F14_m0 at h
    rcases boolC (decide ((x0.length : Int) < 1)) with h1 | h1
    · replace h := condT h1 h
      cases h
    · replace h := condF h1 h
      exact WI_end (bs := [(decide ((x0.length : Int) < 1), false)]) (φ := fun s' => w0 = .next s') (st' := (sa14_0 x0)) (R' := (Ra14_0)) mixed [0, 2, 3, 4, 7, 15] 23 [false] [] [] 0 [] () hC trivial ⟨h1, trivial⟩ (by kernel_rfl) (by kernel_rfl) (Option.some.inj h).symm
  · clear h; have h := hnext0 _ hs0
    obtain ⟨y2, h3, h⟩ := bindE h
    refine WI_stop (bs := []) mixed [0, 2, 3, 4, 7, 15] 26 [] [.row (x0.map pI) 0 (pI y2)] [] 0 [] (st14_1 x0 (y2, 1)) (R14_1 (y2, 1)) hC ⟨row_get h3, trivial⟩ trivial (by kernel_rfl) ?_
    obtain ⟨w1, hm1, hret1, hnext1⟩ := andThen_inv h
    clear h
    refine WI_cut (by kernel_rfl) (fun s => w1 = .next s) (sa14_1) (Ra14_1) ?_ fun z1 hs1 => ?_
    · refine WI_blk (by kernel_rfl) ?_
      refine WI_while (by kernel_rfl) (F14_l1 x0) (st14_1 x0) (R14_1) w1 1152921504606846976 (y2, 1) hm1 rfl rfl fun z1 w1b h hb1 hr1 => ?_
      unfold F14_l1 at h
      rcases boolC (decide (z1.2 < (x0.length : Int))) with h4 | h4
      · replace h := condT h4 h
        obtain ⟨y5, h6, h⟩ := bindE h
        exact WI_end (bs := [(decide (z1.2 < (x0.length : Int)), true)]) (φ := fun s' => w1b = .next s') (st' := (st14_1 x0)) (R' := (R14_1)) mixed [0, 2, 3, 4, 7, 15] 31 [true] [.len ((x0.map pI).length : Int) (x0.length : Int), .row (x0.map pI) z1.2 (pI y5)] [] 0 [] (min z1.1 y5, w64 (z1.2 + 1)) hC ⟨len_map _ _, row_get h6, trivial⟩ ⟨h4, trivial⟩ (by kernel_rfl) (by kernel_rfl) (Option.some.inj h).symm
      · replace h := condF h4 h
        exact WI_end (bs := [(decide (z1.2 < (x0.length : Int)), false)]) (φ := fun s' => w1 = .next s') (st' := (sa14_1)) (R' := (Ra14_1)) mixed [0, 2, 3, 4, 7, 15] 26 [false] [.len ((x0.map pI).length : Int) (x0.length : Int)] [] 0 [] (z1.1, z1.2) hC ⟨len_map _ _, trivial⟩ ⟨h4, trivial⟩ (by kernel_rfl) (by kernel_rfl) (hb1 _ (Option.some.inj h).symm)
    · have h := hnext1 _ hs1
      replace h := Option.some.inj h
      subst h
      exact WI_ret (bs := []) mixed [0, 2, 3, 4, 7, 15] 23 [] [] [] [.tmp 2] 0 [] rfl hC trivial trivial (by kernel_rfl)
theorem e14 : Enters Tryz.prog 14 := Go.SL.entersOf Tryz.func14 (by kernel_rfl) (by kernel_rfl)
def lv9 : List Nat := [0, 1, 4, 6, 7, 8, 9, 10, 15]
def st9_0 (x0 : List Int) (x1 : Int) (n0 : Nat) (z0 : Unit) : St := [(1, .d (I x1)), (4, .d (Bo false)), (7, .d (DS pI x0)), (8, .d (I (x0.length : Int))), (9, .d (I (cnt 0 n0)))]
def R9_0  (n0 : Nat) (z0 : Unit) : List Res := []
def sa9_0  (z0 : Unit) : St := [(4, .d (Bo false))]
def Ra9_0  (z0 : Unit) : List Res := []
theorem k9 (x0 : List Int) (x1 : Int) (r : Bool) (h : F9 x0 x1 = some r) : CallOk Tryz.prog 9 [.d (DS pI x0), .d (I x1)] [] (.d (Bo r)) [] := by
  unfold F9 at h
  refine callOk_of 17 Tryz.func9 rfl rfl rfl fun C hC => ?_
  refine WI_stop (bs := []) mixed lv9 26 [] [.len ((x0.map pI).length : Int) (x0.length : Int)] [] 0 [] (st9_0 x0 x1 0 ()) (R9_0 0 ()) hC ⟨len_map _ _, trivial⟩ trivial (by kernel_rfl) ?_
  obtain ⟨w0, hm0, hret0, hnext0⟩ := andThen_inv h
  clear h
  refine WI_cut (by kernel_rfl) (fun s => w0 = .next s) (sa9_0) (Ra9_0) ?_ fun z0 hs0 => ?_
  · refine WI_blk (by kernel_rfl) ?_
    refine WI_len 7 rfl fun hl0 => ?_
    refine WI_foldI (by kernel_rfl) (F9_l0 x1) (st9_0 x0 x1) (R9_0) w0 x0 () hm0 rfl rfl (fun z0 hn0 => ?_) fun n0 a0 z0 w0b hi0 hx0 h hb0 hr0 => ?_
    · clear hm0
      exact WI_end (bs := [(decide ((cnt 0 x0.length) < (x0.length : Int)), false)]) (φ := fun s' => w0 = .next s') (st' := (sa9_0)) (R' := (Ra9_0)) mixed lv9 26 [false] [] [] 0 [] () hC trivial ⟨(cnt_end hl0), trivial⟩ (by kernel_rfl) (by kernel_rfl) hn0
    · unfold F9_l0 at h
      rcases boolC ((a0 == x1)) with h1 | h1
      · replace h := condT h1 h
        have hq := hret0 _ (hr0 _ (Option.some.inj h).symm)
        replace hq := Option.some.inj hq
        subst hq
        exact WI_ret (bs := [(decide ((cnt 0 n0) < (x0.length : Int)), true), ((a0 == x1), true)]) mixed lv9 35 [true, true] [.row (x0.map pI) (cnt 0 n0) (pI a0)] [] [.tmp 4] 0 [] rfl hC ⟨(row_cnt hx0 hl0), trivial⟩ ⟨(cnt_lt hi0 hl0), h1, trivial⟩ (by kernel_rfl)
      · replace h := condF h1 h
        exact WI_end (bs := [(decide ((cnt 0 n0) < (x0.length : Int)), true), ((a0 == x1), false)]) (φ := fun s' => w0b = .next s') (st' := (st9_0 x0 x1 (n0 + 1))) (R' := (R9_0 (n0 + 1))) mixed lv9 36 [true, false] [.row (x0.map pI) (cnt 0 n0) (pI a0)] [] 0 [] () hC ⟨(row_cnt hx0 hl0), trivial⟩ ⟨(cnt_lt hi0 hl0), h1, trivial⟩ (by kernel_rfl) (by kernel_rfl) (Option.some.inj h).symm
  · have h := hnext0 _ hs0
    replace h := Option.some.inj h
    subst h
    exact WI_ret (bs := []) mixed lv9 23 [] [] [] [.tmp 4] 0 [] rfl hC trivial trivial (by kernel_rfl)
theorem e9 : Enters Tryz.prog 9 := Go.SL.entersOf Tryz.func9 (by kernel_rfl) (by kernel_rfl)
end Go.Proofs.YtopmfoohdkjgmaaGreatDoor
set_option linter.unusedVariables false
namespace Go.Proofs.YtopmfoohdkjgmaaGreatDoor
open Go.SL
theorem k6 (x0 : dynposmake_Src) (x1 : Int) (r : Int × dynposmake_Src) (h : F6 x0 x1 = some r) : CallOk Tryz.prog 6 [.d (.o 0 0), .d (I x1)] [.box 105 (d105 x0)] (.d (I r.1)) [.box 105 (d105 r.2)] := by
  unfold F6 at h
  refine callOk_of 35 Tryz.func6 rfl rfl rfl fun C hC => ?_
  rcases boolC (decide (x0.At ≥ (x0.L.length : Int))) with h1 | h1
  · replace h := condT h1 h
    replace h := Option.some.inj h
    subst h
    exact WI_ret (bs := [(decide (x0.At ≥ (x0.L.length : Int)), true)]) mixed [0, 1, 4, 14] 29 [true] [.len ((x0.L.map pI).length : Int) (x0.L.length : Int)] [] [.tmp 4] 1 [0] rfl hC ⟨len_map _ _, trivial⟩ ⟨h1, trivial⟩ (by kernel_rfl)
  · replace h := condF h1 h
    obtain ⟨y2, h3, h⟩ := bindE h
    obtain ⟨y4, h5, h⟩ := bindE h
    replace h := Option.some.inj h
    subst h
    exact WI_ret (bs := [(decide (x0.At ≥ (x0.L.length : Int)), false)]) mixed [0, 1, 4, 14] 32 [false] [.len ((x0.L.map pI).length : Int) (x0.L.length : Int), .row (x0.L.map pI) (w64 ((w64 (x0.At + 1)) - 1)) (pI y2), .call 13 [.d (I y2), .d (I x1)] [] (.d (I y4)) [] []] [] [.tmp 4] 1 [0] rfl hC ⟨len_map _ _, row_get h3, ⟨e13, (k13 y2 x1 _ h5)⟩, trivial⟩ ⟨h1, trivial⟩ (by kernel_rfl)
theorem e6 : Enters Tryz.prog 6 := Go.SL.entersOf Tryz.func6 (by kernel_rfl) (by kernel_rfl)
theorem k8 (x0 : List Int) (r : Int) (h : F8 x0 = some r) : CallOk Tryz.prog 8 [.d (DS pI x0)] [] (.d (I r)) [] := by
  unfold F8 at h
  refine callOk_of 12 Tryz.func8 rfl rfl rfl fun C hC => ?_
  rcases boolC (((x0.length : Int) == 0)) with h1 | h1
  · replace h := condT h1 h
    replace h := Option.some.inj h
    subst h
    exact WI_ret (bs := [(((x0.length : Int) == 0), true)]) mixed [0, 2, 5] 29 [true] [.len ((x0.map pI).length : Int) (x0.length : Int)] [] [.tmp 2] 0 [] rfl hC ⟨len_map _ _, trivial⟩ ⟨h1, trivial⟩ (by kernel_rfl)
  · replace h := condF h1 h
    obtain ⟨y2, h3, h⟩ := bindE h
    obtain ⟨y5, h4, h⟩ := bindE h
    obtain ⟨y6, h7, h⟩ := bindE h
    replace h := Option.some.inj h
    subst h
    exact WI_ret (bs := [(((x0.length : Int) == 0), false)]) mixed [0, 2, 5] 30 [false] [.len ((x0.map pI).length : Int) (x0.length : Int), .call 15 [.d (DS pI x0), .d (I 3)] [] (.d (I y2)) [] [], .cut (x0.map pI) 1 (max 0 y2) ((x0.map pI).length : Int) (y5.map pI), .call 14 [.d (DS pI y5)] [] (.d (I y6)) [] []] [] [.tmp 2] 0 [] rfl hC ⟨len_map _ _, ⟨e15, (k15 x0 3 _ h3)⟩, cut_get_len pI 1 (fun _ => rfl) h4, ⟨e14, (k14 y5 _ h7)⟩, trivial⟩ ⟨h1, trivial⟩ (by kernel_rfl)
theorem e8 : Enters Tryz.prog 8 := Go.SL.entersOf Tryz.func8 (by kernel_rfl) (by kernel_rfl)
end Go.Proofs.YtopmfoohdkjgmaaGreatDoor
set_option linter.unusedVariables false
namespace Go.Proofs.YtopmfoohdkjgmaaGreatDoor
open Go.SL
theorem k7 (x0 : dynposmake_Src) (x1 : Int) (x2 : Int) (r : Int × dynposmake_Src) (h : F7 x0 x1 x2 = some r) : CallOk Tryz.prog 7 [.d (.o 0 0), .d (I x1), .d (I x2)] [.box 105 (d105 x0)] (.d (I r.1)) [.box 105 (d105 r.2)] := by
  unfold F7 at h
  refine callOk_of 15 Tryz.func7 rfl rfl rfl fun C hC => ?_
  obtain ⟨y1, h2, h⟩ := bindE h
  replace h := Option.some.inj h
  subst h
  exact WI_ret (bs := []) mixed [0, 1, 2, 6] 25 [] [.call 6 [.d (.o 0 0), .d (I (w64 ((w64 (x2 - x1)) + 1)))] [.box 105 (d105 x0)] (.d (I y1.1)) [.box 105 (d105 y1.2)] [0]] [] [.tmp 6] 1 [0] rfl hC ⟨⟨e6, (k6 x0 (w64 ((w64 (x2 - x1)) + 1)) _ h2)⟩, trivial⟩ trivial (by kernel_rfl)
theorem e7 : Enters Tryz.prog 7 := Go.SL.entersOf Tryz.func7 (by kernel_rfl) (by kernel_rfl)
end Go.Proofs.YtopmfoohdkjgmaaGreatDoor
set_option linter.unusedVariables false
namespace Go.Proofs.YtopmfoohdkjgmaaGreatDoor
open Go.SL
def lv3 : List Nat := [0, 2, 3, 4, 5, 6, 7, 9, 12, 20, 30, 31, 32, 33, 46]
def st3_0  (z0 : Int × (List Int) × Int × (List Int)) : St := [(2, .d (Bo false)), (3, .d (.o 0 0)), (4, .d (.os 1)), (5, .d (I z0.1))]
def R3_0  (z0 : Int × (List Int) × Int × (List Int)) : List Res := [.box 105 [DS pI z0.2.1, I z0.2.2.1], .sl 3 1 (z0.2.2.2.map pI)]
def sa3_0  (z0 : Int × (List Int) × Int × (List Int)) : St := [(2, .d (Bo false)), (3, .d (.o 0 0)), (4, .d (.os 1))]
def Ra3_0  (z0 : Int × (List Int) × Int × (List Int)) : List Res := [.box 105 [DS pI z0.2.1, I z0.2.2.1], .sl 3 1 (z0.2.2.2.map pI)]
def st3_1 (z0 : Int × (List Int) × Int × (List Int)) (y13 : Int) (n1 : Nat) (z1 : Bool) : St := [(2, .d (Bo false)), (3, .d (.o 0 0)), (4, .d (.os 1)), (6, .d (I y13)), (7, .d (Bo z1)), (30, .d (.os 1)), (31, .d (I (z0.2.2.2.length : Int))), (32, .d (I (cnt 0 n1)))]
def R3_1 (z0 : Int × (List Int) × Int × (List Int)) (n1 : Nat) (z1 : Bool) : List Res := [.box 105 [DS pI z0.2.1, I z0.2.2.1], .sl 3 1 (z0.2.2.2.map pI)]
def sa3_1 (y13 : Int) (z1 : Bool) : St := [(2, .d (Bo false)), (3, .d (.o 0 0)), (4, .d (.os 1)), (6, .d (I y13)), (7, .d (Bo z1))]
def Ra3_1 (z0 : Int × (List Int) × Int × (List Int)) (z1 : Bool) : List Res := [.box 105 [DS pI z0.2.1, I z0.2.2.1], .sl 3 1 (z0.2.2.2.map pI)]
theorem k3 (x0 : List Int) (r : Bool) (h : F3 x0 = some r) : CallOk Tryz.prog 3 [.d (DS pI x0)] [] (.d (Bo r)) [] := by
  unfold F3 at h
  refine callOk_of 69 Tryz.func3 rfl rfl rfl fun C hC => ?_
  rcases boolC (decide ((x0.length : Int) > 600)) with h1 | h1
  · replace h := condT h1 h
    obtain ⟨y2, h3, h⟩ := bindE h
    replace h := Option.some.inj h
    subst h
    exact WI_ret (bs := [(decide ((x0.length : Int) > 600), true)]) mixed lv3 29 [true] [.len ((x0.map pI).length : Int) (x0.length : Int), .call 4 [] [] (.d (Bo y2)) [] []] [] [.tmp 2] 0 [] rfl hC ⟨len_map _ _, ⟨e4, (k4  _ h3)⟩, trivial⟩ ⟨h1, trivial⟩ (by kernel_rfl)
  · replace h := condF h1 h
    obtain ⟨y4, h5, h⟩ := bindE h
    obtain ⟨y6, h7, h⟩ := bindE h
    refine WI_stop (bs := [(decide ((x0.length : Int) > 600), false)]) mixed lv3 35 [false] [.len ((x0.map pI).length : Int) (x0.length : Int), .call 5 [.d (DS pI x0)] [] (.d (.o 0 0)) [.box 105 (d105 y4)] [], .call 6 [.d (.o 0 0), .d (I 12)] [.box 105 (d105 y4)] (.d (I y6.1)) [.box 105 (d105 y6.2)] [0]] [.own 4 3 1] 0 [0, 1] (st3_0 (w64 (1 + y6.1), y6.2.L, y6.2.At, ([] : List Int))) (R3_0 (w64 (1 + y6.1), y6.2.L, y6.2.At, ([] : List Int))) hC ⟨len_map _ _, ⟨e5, (k5 x0 _ h5)⟩, ⟨e6, (k6 y4 12 _ h7)⟩, trivial⟩ ⟨h1, trivial⟩ (by kernel_rfl) ?_
    obtain ⟨w0, hm0, hret0, hnext0⟩ := andThen_inv h
    clear h
    refine WI_cut (by kernel_rfl) (fun s => w0 = .next s) (sa3_0) (Ra3_0) ?_ fun z0 hs0 => ?_
    · refine WI_blk (by kernel_rfl) ?_
      refine WI_while (by kernel_rfl) F3_l0 (st3_0) (R3_0) w0 1152921504606846976 (w64 (1 + y6.1), y6.2.L, y6.2.At, ([] : List Int)) hm0 rfl rfl fun z0 w0b h hb0 hr0 => ?_
      unfold F3_l0 at h
      rcases boolC (decide (z0.1 > 0)) with h8 | h8
      · replace h := condT h8 h
        obtain ⟨y9, h10, h⟩ := bindE h
        obtain ⟨y11, h12, h⟩ := bindE h
        exact WI_end (bs := [(decide (z0.1 > 0), true)]) (φ := fun s' => w0b = .next s') (st' := (st3_0)) (R' := (R3_0)) mixed lv3 31 [true] [.call 7 [.d (.o 0 0), .d (I 1), .d (I 3)] [.box 105 [DS pI z0.2.1, I z0.2.2.1]] (.d (I y9.1)) [.box 105 (d105 y9.2)] [0], .app (z0.2.2.2.map pI) ([y9.1].map pI) 1 (((z0.2.2.2.map pI).length + ([y9.1].map pI).length) * (8 + 1)) (y11.map pI)] [] 0 [0, 2] (w64 (z0.1 - 1), y9.2.L, y9.2.At, y11) hC ⟨⟨e7, (k7 (⟨z0.2.1, z0.2.2.1⟩ : dynposmake_Src) 1 3 _ h10)⟩, app_get pI 1 (fun _ => rfl) h12, trivial⟩ ⟨h8, trivial⟩ (by kernel_rfl) (by kernel_rfl) (Option.some.inj h).symm
      · replace h := condF h8 h
        exact WI_end (bs := [(decide (z0.1 > 0), false)]) (φ := fun s' => w0 = .next s') (st' := (sa3_0)) (R' := (Ra3_0)) mixed lv3 26 [false] [] [] 0 [0, 1] (z0.1, z0.2.1, z0.2.2.1, z0.2.2.2) hC trivial ⟨h8, trivial⟩ (by kernel_rfl) (by kernel_rfl) (hb0 _ (Option.some.inj h).symm)
    · have h := hnext0 _ hs0
      obtain ⟨y13, h14, h⟩ := bindE h
      refine WI_stop (bs := []) mixed lv3 28 [] [.callB 8 [.d (DS pI z0.2.2.2)] (.d (I y13)) [[]] 0 [], .len ((z0.2.2.2.map pI).length : Int) (z0.2.2.2.length : Int)] [] 0 [0, 1] (st3_1 z0 y13 0 false) (R3_1 z0 0 false) hC ⟨lend0_get ⟨e8, (k8 z0.2.2.2 _ h14)⟩, len_map _ _, trivial⟩ trivial (by kernel_rfl) ?_
      obtain ⟨w1, hm1, hret1, hnext1⟩ := andThen_inv h
      clear h
      refine WI_cut (by kernel_rfl) (fun s => w1 = .next s) (sa3_1 y13) (Ra3_1 z0) ?_ fun z1 hs1 => ?_
      · refine WI_blk (by kernel_rfl) ?_
        refine WI_lenO 30 1 rfl rfl fun hl1 => ?_
        refine WI_foldI (by kernel_rfl) (F3_l1 y13) (st3_1 z0 y13) (R3_1 z0) w1 z0.2.2.2 false hm1 rfl rfl (fun z1 hn1 => ?_) fun n1 a1 z1 w1b hi1 hx1 h hb1 hr1 => ?_
        · clear hm1
          exact WI_end (bs := [(decide ((cnt 0 z0.2.2.2.length) < (z0.2.2.2.length : Int)), false)]) (φ := fun s' => w1 = .next s') (st' := (sa3_1 y13)) (R' := (Ra3_1 z0)) mixed lv3 26 [false] [] [] 0 [0, 1] z1 hC trivial ⟨(cnt_end hl1), trivial⟩ (by kernel_rfl) (by kernel_rfl) hn1
        · unfold F3_l1 at h
          rcases boolC ((c3_1 y13 z1 a1)) with h15 | h15
          · replace h := condT h15 h
            have hq := hret1 _ (hr1 _ (Option.some.inj h).symm)
            replace hq := Option.some.inj hq
            subst hq
            exact WI_ret (bs := [(decide ((cnt 0 n1) < (z0.2.2.2.length : Int)), true), ((c3_1 y13 z1 a1), true)]) mixed lv3 37 [true, true] [.row (z0.2.2.2.map pI) (cnt 0 n1) (pI a1), .row (z0.2.2.2.map pI) (((Int.toNat (cnt 0 n1)) : Nat) : Int) (pI a1)] [] [.tmp 2] 0 [] rfl hC ⟨row_get (get_cnt hx1 hl1), row_getN (get_cnt hx1 hl1), trivial⟩ ⟨(cnt_lt hi1 hl1), h15, trivial⟩ (by kernel_rfl)
          · replace h := condF h15 h
            exact WI_end (bs := [(decide ((cnt 0 n1) < (z0.2.2.2.length : Int)), true), ((c3_1 y13 z1 a1), false)]) (φ := fun s' => w1b = .next s') (st' := (st3_1 z0 y13 (n1 + 1))) (R' := (R3_1 z0 (n1 + 1))) mixed lv3 38 [true, false] [.row (z0.2.2.2.map pI) (cnt 0 n1) (pI a1), .row (z0.2.2.2.map pI) (((Int.toNat (cnt 0 n1)) : Nat) : Int) (pI a1)] [] 0 [0, 1] (z1 || (a1 == 3)) hC ⟨row_get (get_cnt hx1 hl1), row_getN (get_cnt hx1 hl1), trivial⟩ ⟨(cnt_lt hi1 hl1), h15, trivial⟩ (by kernel_rfl) (by kernel_rfl) (Option.some.inj h).symm
      · have h := hnext1 _ hs1
        obtain ⟨y16, h17, h⟩ := bindE h
        obtain ⟨y18, h19, h⟩ := bindE h
        obtain ⟨y20, h21, h⟩ := bindE h
        obtain ⟨y22, h23, h⟩ := bindE h
        obtain ⟨y24, h25, h⟩ := bindE h
        obtain ⟨y26, h27, h⟩ := bindE h
        replace h := Option.some.inj h
        subst h
        exact WI_ret (bs := []) mixed lv3 23 [] [.callB 9 [.d (DS pI z0.2.2.2), .d (I y13)] (.d (Bo y16)) [[]] 0 [], .when [(y16, true), (!z1, false)] (.app [] (z0.2.2.2.map pI) 1 ((z0.2.2.2.map pI).length * (8 + 1)) (y18.map pI)), .whenR [(y16, true), (!z1, false)] (.call 7 [.d (.o 0 0), .d (I 1), .d (I 3)] [.box 105 [DS pI z0.2.1, I z0.2.2.1]] (.d (I y20.1)) [.box 105 (d105 y20.2)] [0]), .when [(y16, true), (!z1, false)] (.app (y18.map pI) ([y20.1].map pI) 1 (((y18.map pI).length + ([y20.1].map pI).length) * (8 + 1)) (y22.map pI)), .when [(y16, true), (!z1, false)] (.callB 8 [.d (DS pI y22)] (.d (I y24)) [[]] 0 []), .when [((y16 && ((!z1) || (decide (y24 ≤ y13)))), true)] (.call 4 [] [] (.d (Bo y26)) [] [])] [] [.tmp 2] 0 [] rfl hC ⟨lend0_get ⟨e9, (k9 z0.2.2.2 y13 _ h17)⟩, fun hg => app_get0 pI 1 (fun _ => rfl) (guardO_get h19 hg), ⟨fun hg => ⟨e7, (k7 (⟨z0.2.1, z0.2.2.1⟩ : dynposmake_Src) 1 3 _ (guardO_get h21 hg))⟩, fun hg => by have e := guardO_not h21 hg; subst e; rfl⟩, fun hg => app_get pI 1 (fun _ => rfl) (guardO_get h23 hg), fun hg => lend0_get ⟨e8, (k8 y22 _ (guardO_get h25 hg))⟩, fun hg => ⟨e4, (k4  _ (guardO_get h27 hg))⟩, trivial⟩ trivial (by kernel_rfl)
theorem e3 : Enters Tryz.prog 3 := Go.SL.entersOf Tryz.func3 (by kernel_rfl) (by kernel_rfl)
end Go.Proofs.YtopmfoohdkjgmaaGreatDoor
