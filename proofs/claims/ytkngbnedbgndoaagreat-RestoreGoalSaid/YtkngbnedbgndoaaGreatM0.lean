import Derived.Test.YtkngbnedbgndoaaGreatRows
import Derived.Test.YtkngbnedbgndoaaGreatMo
import Derived.Test.YtkngbnedbgndoaaGreatBw
import Derived.Test.YtkngbnedbgndoaaGreatIn
set_option linter.unusedVariables false
namespace Go.Proofs.YtkngbnedbgndoaaGreat
open Go.SL
theorem sI {α : Type} {a b : α} (h : some a = some b) : a = b := Option.some.inj h
abbrev b6 (b : api_Board) (l : List D) : List D := I b.Buses :: DS q66 b.Breakers :: DS q57 b.Sources :: DS q108 b.Consumers :: I b.Phase :: I b.Frequency :: l
abbrev p4 (p : api_Power) (l : List Res) : List Res := .sl 4 1 (p.Closed.map pB) :: .sl 59 4 (p.Sources.map q59) :: .sl 3 1 (p.Limits.map pI) :: .sl 119 2 (p.Broken.map q119) :: l
abbrev e4 (l : List Res) : List Res := .sl 4 1 (([] : List Bool).map pB) :: .sl 59 4 (([] : List api_Running).map q59) :: .sl 3 1 (([] : List Int).map pI) :: .sl 119 2 (([] : List api_Part).map q119) :: l
abbrev s3 (b : api_Board) (l : List Res) : List Res := .sl 66 3 (b.Breakers.map q66) :: .sl 57 3 (b.Sources.map q57) :: .sl 108 5 (b.Consumers.map q108) :: l
abbrev t6 {α : Type} (b : api_Board) (r : α) : Int × List api_Breaker × List api_Source × List api_Consumer × Int × Int × α := (b.Buses, b.Breakers, b.Sources, b.Consumers, b.Phase, b.Frequency, r)
abbrev t4 {α : Type} (p : api_Power) (r : α) : List Bool × List api_Running × List Int × List api_Part × α := (p.Closed, p.Sources, p.Limits, p.Broken, r)
abbrev n3_ : List Nat := [0, 1, 2]
abbrev n4_ : List Nat := [0, 1, 2, 3]
abbrev n5_ : List Nat := [0, 1, 2, 3, 4]
abbrev n6_ : List Nat := [0, 1, 2, 3, 4, 5]
abbrev n7_ : List Nat := [0, 1, 2, 3, 4, 5, 6]
abbrev n8_ : List Nat := [0, 1, 2, 3, 4, 5, 6, 7]
abbrev n9_ : List Nat := [0, 1, 2, 3, 4, 5, 6, 7, 8]
abbrev n10_ : List Nat := [0, 1, 2, 3, 4, 5, 6, 7, 8, 9]
abbrev n11_ : List Nat := [0, 1, 2, 3, 4, 5, 6, 7, 8, 9, 10]
abbrev n12_ : List Nat := [0, 1, 2, 3, 4, 5, 6, 7, 8, 9, 10, 11]
abbrev n13_ : List Nat := [0, 1, 2, 3, 4, 5, 6, 7, 8, 9, 10, 11, 12]
abbrev n14_ : List Nat := [0, 1, 2, 3, 4, 5, 6, 7, 8, 9, 10, 11, 12, 13]
abbrev n15_ : List Nat := [0, 1, 2, 3, 4, 5, 6, 7, 8, 9, 10, 11, 12, 13, 14]
abbrev n16_ : List Nat := [0, 1, 2, 3, 4, 5, 6, 7, 8, 9, 10, 11, 12, 13, 14, 15]
abbrev n17_ : List Nat := [0, 1, 2, 3, 4, 5, 6, 7, 8, 9, 10, 11, 12, 13, 14, 15, 16]
theorem mixed : Tryz.prog.follows .mixedOrders = true := by kernel_rfl
theorem k15 (x0 : List Int) (r : dynposmake_Src) (h : F15 x0 = some r) : CallOk Tryz.prog 15 [.d (DS pI x0)] [] (.d (.o 0 0)) [.box 121 (d121 r)] := by
 unfold F15 at h
 refine callOk_of 10 Tryz.func15 rfl rfl rfl fun C hC => ?_
 obtain ⟨y2, h1, h⟩ := bindE h
 replace h := sI h
 subst h
 exact WI_ret (bs := []) mixed [0, 2] 25 [] [.len ((x0.map pI).length : Int) (x0.length : Int), .cut (x0.map pI) 1 0 (min (x0.length : Int) 600) (y2.map pI)] [] [.tmp 2] 0 [0] rfl hC ⟨len_map _ _, cut_get pI 1 (fun _ => rfl) h1, trivial⟩ trivial (by kernel_rfl)
theorem e15 : Enters Tryz.prog 15 := Go.SL.enters_of Tryz.func15 (by kernel_rfl) (by kernel_rfl)
theorem k127 (x0 : Int) (x1 : Int) (r : Int) (h : F127 x0 x1 = some r) : CallOk Tryz.prog 127 [.d (I x0), .d (I x1)] [] (.d (I r)) [] := by
 unfold F127 at h
 refine callOk_of 14 Tryz.func127 rfl rfl rfl fun C hC => ?_
 rcases boolC (decide (x1 < 1)) with h1 | h1
 ·replace h := condT h1 h
  replace h := sI h
  subst h
  exact WI_ret (bs := [(decide (x1 < 1), true)]) mixed [0, 1, 4, 6] 29 [true] [] [] [.tmp 4] 0 [] rfl hC trivial ⟨h1, trivial⟩ (by kernel_rfl)
 ·replace h := condF h1 h
  obtain ⟨u3, h2, h⟩ := bindE h
  obtain ⟨u5, h4, h⟩ := bindE h
  replace h := sI h
  subst h
  exact WI_ret (bs := [(decide (x1 < 1), false)]) mixed [0, 1, 4, 6] 30 [false] [.nz x1, .nz x1] [] [.tmp 4] 0 [] rfl hC ⟨nz_get h2, nz_get h4, trivial⟩ ⟨h1, trivial⟩ (by kernel_rfl)
theorem e127 : Enters Tryz.prog 127 := Go.SL.enters_of Tryz.func127 (by kernel_rfl) (by kernel_rfl)
theorem k77 (x0 : Int) (x1 : Int) (x2 : Int) (r : Bool) (h : F77 x0 x1 x2 = r) : CallOk Tryz.prog 77 [.d (I x0), .d (I x1), .d (I x2)] [] (.d (Bo r)) [] := by
 unfold F77 at h
 refine callOk_of 15 Tryz.func77 rfl rfl rfl fun C hC => ?_
 subst h
 exact WI_ret (bs := []) mixed [0, 1, 2, 6] 25 [] [] [] [.tmp 6] 0 [] rfl hC trivial trivial (by kernel_rfl)
theorem e77 : Enters Tryz.prog 77 := Go.SL.enters_of Tryz.func77 (by kernel_rfl) (by kernel_rfl)
theorem k132 (x0 : Int) (x1 : Int) (x2 : Int) (r : Bool) (h : F132 x0 x1 x2 = r) : CallOk Tryz.prog 132 [.d (I x0), .d (I x1), .d (I x2)] [] (.d (Bo r)) [] := by
 unfold F132 at h
 refine callOk_of 15 Tryz.func132 rfl rfl rfl fun C hC => ?_
 subst h
 exact WI_ret (bs := []) mixed [0, 1, 2, 6] 25 [] [] [] [.tmp 6] 0 [] rfl hC trivial trivial (by kernel_rfl)
theorem e132 : Enters Tryz.prog 132 := Go.SL.enters_of Tryz.func132 (by kernel_rfl) (by kernel_rfl)
def lv177 : List Nat := [0, 1, 4, 5, 7, 8, 9, 16]
def st177_0 (x0 : List Int) (x1 : Int) (n0 : Nat) (z0 : Unit) : St := [(0, .d (DS pI x0)), (1, .d (I x1)), (4, .d (I 0)), (7, .d (I (x0.length : Int))), (8, .d (I (cnt 0 n0)))]
def R177_0  (n0 : Nat) (z0 : Unit) : List Res := []
def sa177_0  (z0 : Unit) : St := [(4, .d (I 0))]
def Ra177_0  (z0 : Unit) : List Res := []
theorem k177 (x0 : List Int) (x1 : Int) (r : Int) (h : F177 x0 x1 = some r) : CallOk Tryz.prog 177 [.d (DS pI x0), .d (I x1)] [] (.d (I r)) [] := by
 unfold F177 at h
 refine callOk_of 19 Tryz.func177 rfl rfl rfl fun C hC => ?_
 refine WI_stop (bs := []) mixed lv177 26 [] [.len ((x0.map pI).length : Int) (x0.length : Int)] [] 0 [] (st177_0 x0 x1 0 ()) (R177_0 0 ()) hC ⟨len_map _ _, trivial⟩ trivial (by kernel_rfl) ?_
 obtain ⟨w0, hm0, hret0, hnext0⟩ := andThen_inv h
 clear h
 refine WI_cut (by kernel_rfl) (fun s => w0 = .next s) (sa177_0) (Ra177_0) ?_ fun z0 hs0 => ?_
 ·refine WI_blk (by kernel_rfl) ?_
  refine WI_len 0 rfl fun hl0 => ?_
  refine WI_foldI (by kernel_rfl) (F177_l0 x1) (st177_0 x0 x1) (R177_0) w0 x0 () hm0 rfl rfl (fun z0 hn0 => ?_) fun n0 a0 z0 w0b hi0 hx0 h hb0 hr0 => ?_
  ·clear hm0
   exact WI_end (bs := [(decide ((cnt 0 x0.length) < (x0.length : Int)), false)]) (φ := fun s' => w0 = .next s') (st' := (sa177_0)) (R' := (Ra177_0)) mixed lv177 26 [false] [] [] 0 [] () hC trivial ⟨(cnt_end hl0), trivial⟩ (by kernel_rfl) (by kernel_rfl) hn0
  ·unfold F177_l0 at h
   rcases boolC ((x1 == a0)) with h1 | h1
   ·replace h := condT h1 h
    have hq := hret0 _ (hr0 _ (sI h).symm)
    replace hq := sI hq
    subst hq
    exact WI_ret (bs := [(decide ((cnt 0 n0) < (x0.length : Int)), true), ((x1 == a0), true)]) mixed lv177 35 [true, true] [.row (x0.map pI) (cnt 0 n0) (pI a0)] [] [.tmp 4] 0 [] rfl hC ⟨(row_cnt hx0 hl0), trivial⟩ ⟨(cnt_lt hi0 hl0), h1, trivial⟩ (by kernel_rfl)
   ·replace h := condF h1 h
    exact WI_end (bs := [(decide ((cnt 0 n0) < (x0.length : Int)), true), ((x1 == a0), false)]) (φ := fun s' => w0b = .next s') (st' := (st177_0 x0 x1 (n0 + 1))) (R' := (R177_0 (n0 + 1))) mixed lv177 36 [true, false] [.row (x0.map pI) (cnt 0 n0) (pI a0)] [] 0 [] () hC ⟨(row_cnt hx0 hl0), trivial⟩ ⟨(cnt_lt hi0 hl0), h1, trivial⟩ (by kernel_rfl) (by kernel_rfl) (sI h).symm
 ·have h := hnext0 _ hs0
  replace h := sI h
  subst h
  exact WI_ret (bs := []) mixed lv177 23 [] [] [] [.tmp 4] 0 [] rfl hC trivial trivial (by kernel_rfl)
theorem e177 : Enters Tryz.prog 177 := Go.SL.enters_of Tryz.func177 (by kernel_rfl) (by kernel_rfl)
theorem k233 (x0 : List Int) (r : Bool) (h : F233 x0 = r) : CallOk Tryz.prog 233 [.d (DS pI x0)] [] (.d (Bo r)) [] := by
 unfold F233 at h
 refine callOk_of 6 Tryz.func233 rfl rfl rfl fun C hC => ?_
 subst h
 exact WI_ret (bs := []) mixed [0, 2] 25 [] [.len ((x0.map pI).length : Int) (x0.length : Int)] [] [.tmp 2] 0 [] rfl hC ⟨len_map _ _, trivial⟩ trivial (by kernel_rfl)
theorem e233 : Enters Tryz.prog 233 := Go.SL.enters_of Tryz.func233 (by kernel_rfl) (by kernel_rfl)
def lv208 : List Nat := [0, 1, 2, 4, 5, 6, 11, 16, 20]
theorem k208 (x0 : api_Board) (x1 : Int) (r : Int) (h : F208 x0 x1 = r) : CallOk Tryz.prog 208 [.agg (d29 x0), .d (I x1)] [] (.d (I r)) [] := by
 unfold F208 at h
 refine callOk_of 25 Tryz.func208 rfl rfl rfl fun C hC => ?_
 rcases boolC ((x1 == 1)) with h1 | h1
 ·replace h := condT h1 h
  subst h
  exact WI_ret (bs := [((x1 == 1), true)]) mixed lv208 32 [true] [.len ((x0.Sources.map q57).length : Int) (x0.Sources.length : Int)] [] [.tmp 4] 0 [] rfl hC ⟨len_map _ _, trivial⟩ ⟨h1, trivial⟩ (by kernel_rfl)
 ·replace h := condF h1 h
  rcases boolC ((x1 == 2)) with h2 | h2
  ·replace h := condT h2 h
   subst h
   exact WI_ret (bs := [((x1 == 1), false), ((x1 == 2), true)]) mixed lv208 35 [false, true] [.len ((x0.Breakers.map q66).length : Int) (x0.Breakers.length : Int)] [] [.tmp 4] 0 [] rfl hC ⟨len_map _ _, trivial⟩ ⟨h1, h2, trivial⟩ (by kernel_rfl)
  ·replace h := condF h2 h
   rcases boolC ((x1 == 3)) with h3 | h3
   ·replace h := condT h3 h
    subst h
    exact WI_ret (bs := [((x1 == 1), false), ((x1 == 2), false), ((x1 == 3), true)]) mixed lv208 38 [false, false, true] [] [] [.tmp 4] 0 [] rfl hC trivial ⟨h1, h2, h3, trivial⟩ (by kernel_rfl)
   ·replace h := condF h3 h
    rcases boolC ((x1 == 4)) with h4 | h4
    ·replace h := condT h4 h
     subst h
     exact WI_ret (bs := [((x1 == 1), false), ((x1 == 2), false), ((x1 == 3), false), ((x1 == 4), true)]) mixed lv208 41 [false, false, false, true] [.len ((x0.Consumers.map q108).length : Int) (x0.Consumers.length : Int)] [] [.tmp 4] 0 [] rfl hC ⟨len_map _ _, trivial⟩ ⟨h1, h2, h3, h4, trivial⟩ (by kernel_rfl)
    ·replace h := condF h4 h
     subst h
     exact WI_ret (bs := [((x1 == 1), false), ((x1 == 2), false), ((x1 == 3), false), ((x1 == 4), false)]) mixed lv208 43 [false, false, false, false] [] [] [.tmp 4] 0 [] rfl hC trivial ⟨h1, h2, h3, h4, trivial⟩ (by kernel_rfl)
theorem e208 : Enters Tryz.prog 208 := Go.SL.enters_of Tryz.func208 (by kernel_rfl) (by kernel_rfl)
theorem k248 (x0 : Int) (r : Bool) (h : F248 x0 = r) : CallOk Tryz.prog 248 [.d (I x0)] [] (.d (Bo r)) [] := by
 unfold F248 at h
 refine callOk_of 6 Tryz.func248 rfl rfl rfl fun C hC => ?_
 subst h
 exact WI_ret (bs := []) mixed [0, 2] 25 [] [] [] [.tmp 2] 0 [] rfl hC trivial trivial (by kernel_rfl)
theorem e248 : Enters Tryz.prog 248 := Go.SL.enters_of Tryz.func248 (by kernel_rfl) (by kernel_rfl)
def lv209 : List Nat := [0, 2, 3, 5, 6, 7, 8, 9, 14]
def st209_0 (x0 : List Int) (n0 : Nat) (z0 : Unit) : St := [(2, .d (I 0)), (3, .d (I 0)), (6, .d (DS pI x0)), (7, .d (I (x0.length : Int))), (8, .d (I (cnt 0 n0)))]
def R209_0  (n0 : Nat) (z0 : Unit) : List Res := []
def sa209_0  (z0 : Unit) : St := [(2, .d (I 0)), (3, .d (I 0))]
def Ra209_0  (z0 : Unit) : List Res := []
theorem k209 (x0 : List Int) (r : Int) (h : F209 x0 = some r) : CallOk Tryz.prog 209 [.d (DS pI x0)] [] (.d (I r)) [] := by
 unfold F209 at h
 refine callOk_of 18 Tryz.func209 rfl rfl rfl fun C hC => ?_
 refine WI_stop (bs := []) mixed lv209 28 [] [.len ((x0.map pI).length : Int) (x0.length : Int)] [] 0 [] (st209_0 x0 0 ()) (R209_0 0 ()) hC ⟨len_map _ _, trivial⟩ trivial (by kernel_rfl) ?_
 obtain ⟨w0, hm0, hret0, hnext0⟩ := andThen_inv h
 clear h
 refine WI_cut (by kernel_rfl) (fun s => w0 = .next s) (sa209_0) (Ra209_0) ?_ fun z0 hs0 => ?_
 ·refine WI_blk (by kernel_rfl) ?_
  refine WI_len 6 rfl fun hl0 => ?_
  refine WI_foldI (by kernel_rfl) F209_l0 (st209_0 x0) (R209_0) w0 x0 () hm0 rfl rfl (fun z0 hn0 => ?_) fun n0 a0 z0 w0b hi0 hx0 h hb0 hr0 => ?_
  ·clear hm0
   exact WI_end (bs := [(decide ((cnt 0 x0.length) < (x0.length : Int)), false)]) (φ := fun s' => w0 = .next s') (st' := (sa209_0)) (R' := (Ra209_0)) mixed lv209 26 [false] [] [] 0 [] () hC trivial ⟨(cnt_end hl0), trivial⟩ (by kernel_rfl) (by kernel_rfl) hn0
  ·unfold F209_l0 at h
   rcases boolC ((a0 != 0)) with h1 | h1
   ·replace h := condT h1 h
    have hq := hret0 _ (hr0 _ (sI h).symm)
    replace hq := sI hq
    subst hq
    exact WI_ret (bs := [(decide ((cnt 0 n0) < (x0.length : Int)), true), ((a0 != 0), true)]) mixed lv209 35 [true, true] [.row (x0.map pI) (cnt 0 n0) (pI a0)] [] [.tmp 2] 0 [] rfl hC ⟨(row_cnt hx0 hl0), trivial⟩ ⟨(cnt_lt hi0 hl0), h1, trivial⟩ (by kernel_rfl)
   ·replace h := condF h1 h
    exact WI_end (bs := [(decide ((cnt 0 n0) < (x0.length : Int)), true), ((a0 != 0), false)]) (φ := fun s' => w0b = .next s') (st' := (st209_0 x0 (n0 + 1))) (R' := (R209_0 (n0 + 1))) mixed lv209 36 [true, false] [.row (x0.map pI) (cnt 0 n0) (pI a0)] [] 0 [] () hC ⟨(row_cnt hx0 hl0), trivial⟩ ⟨(cnt_lt hi0 hl0), h1, trivial⟩ (by kernel_rfl) (by kernel_rfl) (sI h).symm
 ·have h := hnext0 _ hs0
  replace h := sI h
  subst h
  exact WI_ret (bs := []) mixed lv209 23 [] [] [] [.tmp 2] 0 [] rfl hC trivial trivial (by kernel_rfl)
theorem e209 : Enters Tryz.prog 209 := Go.SL.enters_of Tryz.func209 (by kernel_rfl) (by kernel_rfl)
def lv133 : List Nat := [0, 1, 2, 3, 4, 6, 7, 8, 9, 11, 12, 13, 14, 33]
def st133_0 (x0 : api_Board) (x2 : Int) (n0 : Nat) (z0 : Int) : St := [(2, .d (I x2)), (4, .d (.o 0 0)), (6, .d (I 0)), (7, .d (I z0)), (11, .d (DS q66 x0.Breakers)), (12, .d (I (x0.Breakers.length : Int))), (13, .d (I (cnt 0 n0)))]
def R133_0 (x1 : api_Power) (n0 : Nat) (z0 : Int) : List Res := [.box 35 (d35 x1)]
def sa133_0  (z0 : Int) : St := [(6, .d (I 0)), (7, .d (I z0))]
def Ra133_0  (z0 : Int) : List Res := []
theorem k133 (x0 : api_Board) (x1 : api_Power) (x2 : Int) (r : Int) (h : F133 x0 x1 x2 = some r) : CallOk Tryz.prog 133 [.agg (d29 x0), .agg (d35 x1), .d (I x2)] [] (.d (I r)) [] := by
 unfold F133 at h
 refine callOk_of 38 Tryz.func133 rfl rfl rfl fun C hC => ?_
 refine WI_stop (bs := []) mixed lv133 28 [] [.len ((x0.Breakers.map q66).length : Int) (x0.Breakers.length : Int)] [] 0 [1] (st133_0 x0 x2 0 0) (R133_0 x1 0 0) hC ⟨len_map _ _, trivial⟩ trivial (by kernel_rfl) ?_
 obtain ⟨w0, hm0, hret0, hnext0⟩ := andThen_inv h
 clear h
 refine WI_cut (by kernel_rfl) (fun s => w0 = .next s) (sa133_0) (Ra133_0) ?_ fun z0 hs0 => ?_
 ·refine WI_blk (by kernel_rfl) ?_
  refine WI_len 11 rfl fun hl0 => ?_
  refine WI_foldI (by kernel_rfl) (F133_l0 x1 x2) (st133_0 x0 x2) (R133_0 x1) w0 x0.Breakers 0 hm0 rfl rfl (fun z0 hn0 => ?_) fun n0 a0 z0 w0b hi0 hx0 h hb0 hr0 => ?_
  ·clear hm0
   exact WI_end (bs := [(decide ((cnt 0 x0.Breakers.length) < (x0.Breakers.length : Int)), false)]) (φ := fun s' => w0 = .next s') (st' := (sa133_0)) (R' := (Ra133_0)) mixed lv133 26 [false] [] [] 0 [] z0 hC trivial ⟨(cnt_end hl0), trivial⟩ (by kernel_rfl) (by kernel_rfl) hn0
  ·unfold F133_l0 at h
   obtain ⟨y1, h2, h⟩ := bindE h
   rcases boolC ((c133_2 x2 a0 y1)) with h3 | h3
   ·replace h := condT h3 h
    exact WI_end (bs := [(decide ((cnt 0 n0) < (x0.Breakers.length : Int)), true), ((c133_2 x2 a0 y1), true)]) (φ := fun s' => w0b = .next s') (st' := (st133_0 x0 x2 (n0 + 1))) (R' := (R133_0 x1 (n0 + 1))) mixed lv133 36 [true, true] [.row (x0.Breakers.map q66) (cnt 0 n0) (q66 a0), .when [(((a0.Kind == 3) && (a0.B == x2)), true)] (.row (x1.Closed.map pB) (cnt 0 n0) (pB y1))] [] 0 [0] (w64 (z0 + 1)) hC ⟨(row_cnt hx0 hl0), fun hg => row_get (guardO_get h2 hg), trivial⟩ ⟨(cnt_lt hi0 hl0), h3, trivial⟩ (by kernel_rfl) (by kernel_rfl) (sI h).symm
   ·replace h := condF h3 h
    exact WI_end (bs := [(decide ((cnt 0 n0) < (x0.Breakers.length : Int)), true), ((c133_2 x2 a0 y1), false)]) (φ := fun s' => w0b = .next s') (st' := (st133_0 x0 x2 (n0 + 1))) (R' := (R133_0 x1 (n0 + 1))) mixed lv133 36 [true, false] [.row (x0.Breakers.map q66) (cnt 0 n0) (q66 a0), .when [(((a0.Kind == 3) && (a0.B == x2)), true)] (.row (x1.Closed.map pB) (cnt 0 n0) (pB y1))] [] 0 [0] z0 hC ⟨(row_cnt hx0 hl0), fun hg => row_get (guardO_get h2 hg), trivial⟩ ⟨(cnt_lt hi0 hl0), h3, trivial⟩ (by kernel_rfl) (by kernel_rfl) (sI h).symm
 ·have h := hnext0 _ hs0
  replace h := sI h
  subst h
  exact WI_ret (bs := []) mixed lv133 23 [] [] [] [.tmp 6] 0 [] rfl hC trivial trivial (by kernel_rfl)
theorem e133 : Enters Tryz.prog 133 := Go.SL.enters_of Tryz.func133 (by kernel_rfl) (by kernel_rfl)
theorem k136s0 (x0 : api_Breaker) (x1 : Int) (r : Bool) (h : F136s0 x0 x1 = r) : CallOk Tryz.prog 136 [.agg (d66 x0), .d (.ip [.v (.int .i64 x1)])] [] (.d (Bo r)) [] := by
 unfold F136s0 at h
 refine callOk_of 13 Tryz.func136 rfl rfl rfl fun C hC => ?_
 subst h
 exact WI_ret (bs := []) mixed n4_ 25 [] [] [] [.tmp 3] 0 [] rfl hC trivial trivial (by kernel_rfl)
theorem e136s0 : Enters Tryz.prog 136 := Go.SL.enters_of Tryz.func136 (by kernel_rfl) (by kernel_rfl)
def lv249 : List Nat := [0, 1, 3, 4, 5, 7, 8, 9, 16]
def st249_0 (x0 : List api_Part) (n0 : Nat) (z0 : Unit) : St := [(0, .d (DS q119 x0)), (3, .d (.o 0 0)), (4, .d (I 0)), (7, .d (I (x0.length : Int))), (8, .d (I (cnt 0 n0)))]
def R249_0 (x1 : api_Part) (n0 : Nat) (z0 : Unit) : List Res := [.box 119 (d119 x1)]
def sa249_0  (z0 : Unit) : St := [(4, .d (I 0))]
def Ra249_0  (z0 : Unit) : List Res := []
theorem k249 (x0 : List api_Part) (x1 : api_Part) (r : Int) (h : F249 x0 x1 = some r) : CallOk Tryz.prog 249 [.d (DS q119 x0), .agg (d119 x1)] [] (.d (I r)) [] := by
 unfold F249 at h
 refine callOk_of 19 Tryz.func249 rfl rfl rfl fun C hC => ?_
 refine WI_stop (bs := []) mixed lv249 26 [] [.len ((x0.map q119).length : Int) (x0.length : Int)] [] 0 [0] (st249_0 x0 0 ()) (R249_0 x1 0 ()) hC ⟨len_map _ _, trivial⟩ trivial (by kernel_rfl) ?_
 obtain ⟨w0, hm0, hret0, hnext0⟩ := andThen_inv h
 clear h
 refine WI_cut (by kernel_rfl) (fun s => w0 = .next s) (sa249_0) (Ra249_0) ?_ fun z0 hs0 => ?_
 ·refine WI_blk (by kernel_rfl) ?_
  refine WI_len 0 rfl fun hl0 => ?_
  refine WI_foldI (by kernel_rfl) (F249_l0 x1) (st249_0 x0) (R249_0 x1) w0 x0 () hm0 rfl rfl (fun z0 hn0 => ?_) fun n0 a0 z0 w0b hi0 hx0 h hb0 hr0 => ?_
  ·clear hm0
   exact WI_end (bs := [(decide ((cnt 0 x0.length) < (x0.length : Int)), false)]) (φ := fun s' => w0 = .next s') (st' := (sa249_0)) (R' := (Ra249_0)) mixed lv249 26 [false] [] [] 0 [] () hC trivial ⟨(cnt_end hl0), trivial⟩ (by kernel_rfl) (by kernel_rfl) hn0
  ·unfold F249_l0 at h
   rcases boolC ((c249_1 x1 a0)) with h1 | h1
   ·replace h := condT h1 h
    have hq := hret0 _ (hr0 _ (sI h).symm)
    replace hq := sI hq
    subst hq
    exact WI_ret (bs := [(decide ((cnt 0 n0) < (x0.length : Int)), true), ((c249_1 x1 a0), true)]) mixed lv249 35 [true, true] [.row (x0.map q119) (cnt 0 n0) (q119 a0)] [] [.tmp 4] 0 [] rfl hC ⟨(row_cnt hx0 hl0), trivial⟩ ⟨(cnt_lt hi0 hl0), h1, trivial⟩ (by kernel_rfl)
   ·replace h := condF h1 h
    exact WI_end (bs := [(decide ((cnt 0 n0) < (x0.length : Int)), true), ((c249_1 x1 a0), false)]) (φ := fun s' => w0b = .next s') (st' := (st249_0 x0 (n0 + 1))) (R' := (R249_0 x1 (n0 + 1))) mixed lv249 36 [true, false] [.row (x0.map q119) (cnt 0 n0) (q119 a0)] [] 0 [0] () hC ⟨(row_cnt hx0 hl0), trivial⟩ ⟨(cnt_lt hi0 hl0), h1, trivial⟩ (by kernel_rfl) (by kernel_rfl) (sI h).symm
 ·have h := hnext0 _ hs0
  replace h := sI h
  subst h
  exact WI_ret (bs := []) mixed lv249 23 [] [] [] [.tmp 4] 0 [] rfl hC trivial trivial (by kernel_rfl)
theorem e249 : Enters Tryz.prog 249 := Go.SL.enters_of Tryz.func249 (by kernel_rfl) (by kernel_rfl)
def lv137 : List Nat := [0, 1, 2, 3, 6, 7, 8, 9, 14, 19, 23]
theorem k137 (x0 : api_Board) (x1 : Int) (x2 : Int) (r : Bool) (h : F137 x0 x1 x2 = r) : CallOk Tryz.prog 137 [.agg (d29 x0), .d (I x1), .d (I x2)] [] (.d (Bo r)) [] := by
 unfold F137 at h
 refine callOk_of 35 Tryz.func137 rfl rfl rfl fun C hC => ?_
 rcases boolC ((x1 == 1)) with h1 | h1
 ·replace h := condT h1 h
  subst h
  exact WI_ret (bs := [((x1 == 1), true)]) mixed lv137 36 [true] [.len ((x0.Sources.map q57).length : Int) (x0.Sources.length : Int)] [] [.tmp 6] 0 [] rfl hC ⟨len_map _ _, trivial⟩ ⟨h1, trivial⟩ (by kernel_rfl)
 ·replace h := condF h1 h
  rcases boolC ((x1 == 2)) with h2 | h2
  ·replace h := condT h2 h
   subst h
   exact WI_ret (bs := [((x1 == 1), false), ((x1 == 2), true)]) mixed lv137 39 [false, true] [.len ((x0.Breakers.map q66).length : Int) (x0.Breakers.length : Int)] [] [.tmp 6] 0 [] rfl hC ⟨len_map _ _, trivial⟩ ⟨h1, h2, trivial⟩ (by kernel_rfl)
  ·replace h := condF h2 h
   rcases boolC ((x1 == 3)) with h3 | h3
   ·replace h := condT h3 h
    subst h
    exact WI_ret (bs := [((x1 == 1), false), ((x1 == 2), false), ((x1 == 3), true)]) mixed lv137 42 [false, false, true] [] [] [.tmp 6] 0 [] rfl hC trivial ⟨h1, h2, h3, trivial⟩ (by kernel_rfl)
   ·replace h := condF h3 h
    rcases boolC ((x1 == 4)) with h4 | h4
    ·replace h := condT h4 h
     subst h
     exact WI_ret (bs := [((x1 == 1), false), ((x1 == 2), false), ((x1 == 3), false), ((x1 == 4), true)]) mixed lv137 45 [false, false, false, true] [.len ((x0.Consumers.map q108).length : Int) (x0.Consumers.length : Int)] [] [.tmp 6] 0 [] rfl hC ⟨len_map _ _, trivial⟩ ⟨h1, h2, h3, h4, trivial⟩ (by kernel_rfl)
    ·replace h := condF h4 h
     subst h
     exact WI_ret (bs := [((x1 == 1), false), ((x1 == 2), false), ((x1 == 3), false), ((x1 == 4), false)]) mixed lv137 45 [false, false, false, false] [] [] [.tmp 6] 0 [] rfl hC trivial ⟨h1, h2, h3, h4, trivial⟩ (by kernel_rfl)
theorem e137 : Enters Tryz.prog 137 := Go.SL.enters_of Tryz.func137 (by kernel_rfl) (by kernel_rfl)
theorem k138 (x0 : List Bool) (r : List Bool) (h : F138 x0 = some r) : CallOk Tryz.prog 138 [.d (.p (.s (x0.map pB)))] [] (.d (.os 0)) [.sl 4 1 (r.map pB)] := by
 unfold F138 at h
 refine callOk_of 8 Tryz.func138 rfl rfl rfl fun C hC => ?_
 refine WI_stop (bs := []) mixed [0, 4] 40 [] [] [] 0 [] [(0, .d (.p (.s (x0.map pB)))), (4, .d (.nq (x0.map pB)))] [] hC trivial trivial (by kernel_rfl) ?_
 refine WI_nq 4 (by kernel_rfl) (by kernel_rfl) rfl (fun hn => ?_) ?_
 ·have hx : x0 = [] := by cases x0 with | nil => rfl | cons => cases hn
  subst hx
  have hr : r = [] := by simpa [appI] using h.symm
  subst hr
  exact WI_ret (bs := []) mixed [2] 40 [] [] [.own 2 4 1] [.tmp 2] 0 [0] rfl hC trivial trivial (by kernel_rfl)
 ·exact WI_ret (bs := []) mixed [2] 40 [] [.own, (.app [] (x0.map pB) 1 ((([] : List (List Pd)).length + (x0.map pB).length) * (1 + 1)) (r.map pB))] [] [.tmp 2] 0 [1] rfl hC ⟨trivial, app_get (l := []) pB 1 (fun _ => rfl) h, trivial⟩ trivial (by kernel_rfl)
theorem e138 : Enters Tryz.prog 138 := Go.SL.enters_of Tryz.func138 (by kernel_rfl) (by kernel_rfl)
theorem k139 (x0 : List api_Running) (r : List api_Running) (h : F139 x0 = some r) : CallOk Tryz.prog 139 [.d (.p (.s (x0.map q59)))] [] (.d (.os 0)) [.sl 59 4 (r.map q59)] := by
 unfold F139 at h
 refine callOk_of 8 Tryz.func139 rfl rfl rfl fun C hC => ?_
 refine WI_stop (bs := []) mixed [0, 4] 40 [] [] [] 0 [] [(0, .d (.p (.s (x0.map q59)))), (4, .d (.nq (x0.map q59)))] [] hC trivial trivial (by kernel_rfl) ?_
 refine WI_nq 4 (by kernel_rfl) (by kernel_rfl) rfl (fun hn => ?_) ?_
 ·have hx : x0 = [] := by cases x0 with | nil => rfl | cons => cases hn
  subst hx
  have hr : r = [] := by simpa [appI] using h.symm
  subst hr
  exact WI_ret (bs := []) mixed [2] 40 [] [] [.own 2 59 4] [.tmp 2] 0 [0] rfl hC trivial trivial (by kernel_rfl)
 ·exact WI_ret (bs := []) mixed [2] 40 [] [.own, (.app [] (x0.map q59) 4 ((([] : List (List Pd)).length + (x0.map q59).length) * (32 + 1)) (r.map q59))] [] [.tmp 2] 0 [1] rfl hC ⟨trivial, app_get (l := []) q59 4 (fun _ => rfl) h, trivial⟩ trivial (by kernel_rfl)
theorem e139 : Enters Tryz.prog 139 := Go.SL.enters_of Tryz.func139 (by kernel_rfl) (by kernel_rfl)
theorem k140 (x0 : List Int) (r : List Int) (h : F140 x0 = some r) : CallOk Tryz.prog 140 [.d (.p (.s (x0.map pI)))] [] (.d (.os 0)) [.sl 3 1 (r.map pI)] := by
 unfold F140 at h
 refine callOk_of 8 Tryz.func140 rfl rfl rfl fun C hC => ?_
 refine WI_stop (bs := []) mixed [0, 4] 40 [] [] [] 0 [] [(0, .d (.p (.s (x0.map pI)))), (4, .d (.nq (x0.map pI)))] [] hC trivial trivial (by kernel_rfl) ?_
 refine WI_nq 4 (by kernel_rfl) (by kernel_rfl) rfl (fun hn => ?_) ?_
 ·have hx : x0 = [] := by cases x0 with | nil => rfl | cons => cases hn
  subst hx
  have hr : r = [] := by simpa [appI] using h.symm
  subst hr
  exact WI_ret (bs := []) mixed [2] 40 [] [] [.own 2 3 1] [.tmp 2] 0 [0] rfl hC trivial trivial (by kernel_rfl)
 ·exact WI_ret (bs := []) mixed [2] 40 [] [.own, (.app [] (x0.map pI) 1 ((([] : List (List Pd)).length + (x0.map pI).length) * (8 + 1)) (r.map pI))] [] [.tmp 2] 0 [1] rfl hC ⟨trivial, app_get (l := []) pI 1 (fun _ => rfl) h, trivial⟩ trivial (by kernel_rfl)
theorem e140 : Enters Tryz.prog 140 := Go.SL.enters_of Tryz.func140 (by kernel_rfl) (by kernel_rfl)
theorem k141 (x0 : List api_Part) (r : List api_Part) (h : F141 x0 = some r) : CallOk Tryz.prog 141 [.d (.p (.s (x0.map q119)))] [] (.d (.os 0)) [.sl 119 2 (r.map q119)] := by
 unfold F141 at h
 refine callOk_of 8 Tryz.func141 rfl rfl rfl fun C hC => ?_
 refine WI_stop (bs := []) mixed [0, 4] 40 [] [] [] 0 [] [(0, .d (.p (.s (x0.map q119)))), (4, .d (.nq (x0.map q119)))] [] hC trivial trivial (by kernel_rfl) ?_
 refine WI_nq 4 (by kernel_rfl) (by kernel_rfl) rfl (fun hn => ?_) ?_
 ·have hx : x0 = [] := by cases x0 with | nil => rfl | cons => cases hn
  subst hx
  have hr : r = [] := by simpa [appI] using h.symm
  subst hr
  exact WI_ret (bs := []) mixed [2] 40 [] [] [.own 2 119 2] [.tmp 2] 0 [0] rfl hC trivial trivial (by kernel_rfl)
 ·exact WI_ret (bs := []) mixed [2] 40 [] [.own, (.app [] (x0.map q119) 2 ((([] : List (List Pd)).length + (x0.map q119).length) * (16 + 1)) (r.map q119))] [] [.tmp 2] 0 [1] rfl hC ⟨trivial, app_get (l := []) q119 2 (fun _ => rfl) h, trivial⟩ trivial (by kernel_rfl)
theorem e141 : Enters Tryz.prog 141 := Go.SL.enters_of Tryz.func141 (by kernel_rfl) (by kernel_rfl)
def lv237 : List Nat := [0, 1, 2, 3, 4, 5, 8, 9, 10, 11, 13, 14, 15, 16, 36]
def st237_0 (x0 : api_Board) (x2 : Int) (x3 : Int) (n0 : Nat) (z0 : Unit) : St := [(2, .d (I x2)), (3, .d (I x3)), (5, .d (.o 0 0)), (8, .d (I 0)), (9, .d (Bo false)), (13, .d (DS q66 x0.Breakers)), (14, .d (I (x0.Breakers.length : Int))), (15, .d (I (cnt 0 n0)))]
def R237_0 (x1 : api_Power) (n0 : Nat) (z0 : Unit) : List Res := [.box 35 (d35 x1)]
def sa237_0  (z0 : Unit) : St := [(8, .d (I 0)), (9, .d (Bo false))]
def Ra237_0  (z0 : Unit) : List Res := []
theorem k237 (x0 : api_Board) (x1 : api_Power) (x2 : Int) (x3 : Int) (r : Int × Bool) (h : F237 x0 x1 x2 x3 = some r) : CallOk Tryz.prog 237 [.agg (d29 x0), .agg (d35 x1), .d (I x2), .d (I x3)] [] (.tup [.d (I r.1), .d (Bo r.2)]) [] := by
 unfold F237 at h
 refine callOk_of 40 Tryz.func237 rfl rfl rfl fun C hC => ?_
 refine WI_stop (bs := []) mixed lv237 26 [] [.len ((x0.Breakers.map q66).length : Int) (x0.Breakers.length : Int)] [] 0 [1] (st237_0 x0 x2 x3 0 ()) (R237_0 x1 0 ()) hC ⟨len_map _ _, trivial⟩ trivial (by kernel_rfl) ?_
 obtain ⟨w0, hm0, hret0, hnext0⟩ := andThen_inv h
 clear h
 refine WI_cut (by kernel_rfl) (fun s => w0 = .next s) (sa237_0) (Ra237_0) ?_ fun z0 hs0 => ?_
 ·refine WI_blk (by kernel_rfl) ?_
  refine WI_len 13 rfl fun hl0 => ?_
  refine WI_foldI (by kernel_rfl) (F237_l0 x1 x2 x3) (st237_0 x0 x2 x3) (R237_0 x1) w0 x0.Breakers () hm0 rfl rfl (fun z0 hn0 => ?_) fun n0 a0 z0 w0b hi0 hx0 h hb0 hr0 => ?_
  ·clear hm0
   exact WI_end (bs := [(decide ((cnt 0 x0.Breakers.length) < (x0.Breakers.length : Int)), false)]) (φ := fun s' => w0 = .next s') (st' := (sa237_0)) (R' := (Ra237_0)) mixed lv237 26 [false] [] [] 0 [] () hC trivial ⟨(cnt_end hl0), trivial⟩ (by kernel_rfl) (by kernel_rfl) hn0
  ·unfold F237_l0 at h
   obtain ⟨y1, h2, h⟩ := bindE h
   rcases boolC ((c237_1 x2 x3 a0 y1)) with h3 | h3
   ·replace h := condT h3 h
    have hq := hret0 _ (hr0 _ (sI h).symm)
    replace hq := sI hq
    subst hq
    exact WI_ret (bs := [(decide ((cnt 0 n0) < (x0.Breakers.length : Int)), true), ((c237_1 x2 x3 a0 y1), true)]) mixed lv237 35 [true, true] [.row (x0.Breakers.map q66) (cnt 0 n0) (q66 a0), .when [(((a0.Kind == x2) && (a0.B == x3)), true)] (.row (x1.Closed.map pB) (cnt 0 n0) (pB y1))] [] [.tmp 8, .tmp 9] 0 [] rfl hC ⟨(row_cnt hx0 hl0), fun hg => row_get (guardO_get h2 hg), trivial⟩ ⟨(cnt_lt hi0 hl0), h3, trivial⟩ (by kernel_rfl)
   ·replace h := condF h3 h
    exact WI_end (bs := [(decide ((cnt 0 n0) < (x0.Breakers.length : Int)), true), ((c237_1 x2 x3 a0 y1), false)]) (φ := fun s' => w0b = .next s') (st' := (st237_0 x0 x2 x3 (n0 + 1))) (R' := (R237_0 x1 (n0 + 1))) mixed lv237 36 [true, false] [.row (x0.Breakers.map q66) (cnt 0 n0) (q66 a0), .when [(((a0.Kind == x2) && (a0.B == x3)), true)] (.row (x1.Closed.map pB) (cnt 0 n0) (pB y1))] [] 0 [0] () hC ⟨(row_cnt hx0 hl0), fun hg => row_get (guardO_get h2 hg), trivial⟩ ⟨(cnt_lt hi0 hl0), h3, trivial⟩ (by kernel_rfl) (by kernel_rfl) (sI h).symm
 ·have h := hnext0 _ hs0
  replace h := sI h
  subst h
  exact WI_ret (bs := []) mixed lv237 23 [] [] [] [.tmp 8, .tmp 9] 0 [] rfl hC trivial trivial (by kernel_rfl)
theorem e237 : Enters Tryz.prog 237 := Go.SL.enters_of Tryz.func237 (by kernel_rfl) (by kernel_rfl)
def lv186 : List Nat := [0, 1, 2, 3, 4, 5, 6, 7, 8, 9, 14, 15, 16, 24, 25, 26, 28, 29, 30, 31, 44]
def st186_0 (y1 : List Int) (n0 : Nat) (z0 : (List Int)) : St := [(2, .d (.o 0 0)), (3, .d (.o 1 0)), (4, .d (DS pI [])), (5, .d (.os 2)), (14, .d (I (y1.length : Int))), (15, .d (I (cnt 0 n0)))]
def R186_0 (x0 : api_Board) (x1 : api_Power) (n0 : Nat) (z0 : (List Int)) : List Res := [.box 29 (d29 x0), .box 35 (d35 x1), .sl 3 1 (z0.map pI)]
def sa186_0  (z0 : (List Int)) : St := [(2, .d (.o 0 0)), (3, .d (.o 1 0)), (4, .d (DS pI [])), (5, .d (.os 2))]
def Ra186_0 (x0 : api_Board) (x1 : api_Power) (z0 : (List Int)) : List Res := [.box 29 (d29 x0), .box 35 (d35 x1), .sl 3 1 (z0.map pI)]
def st186_1 (z0 : (List Int)) (n1 : Nat) (z1 : (List Int)) : St := [(2, .d (.o 0 0)), (3, .d (.o 1 0)), (4, .d (DS pI [])), (5, .d (.os 2)), (24, .d (I (z0.length : Int))), (25, .d (I (cnt 0 n1)))]
def R186_1 (x0 : api_Board) (x1 : api_Power) (n1 : Nat) (z1 : (List Int)) : List Res := [.box 29 (d29 x0), .box 35 (d35 x1), .sl 3 1 (z1.map pI)]
def sa186_1  (z1 : (List Int)) : St := [(4, .d (DS pI [])), (5, .d (.os 0))]
def Ra186_1  (z1 : (List Int)) : List Res := [.sl 3 1 (z1.map pI)]
def st186_2 (x0 : api_Board) (z0 : (List Int)) (n1 : Nat) (n2 : Nat) (z2 : (List Int)) : St := [(2, .d (.o 0 0)), (3, .d (.o 1 0)), (4, .d (DS pI [])), (5, .d (.os 2)), (24, .d (I (z0.length : Int))), (25, .d (I (cnt 0 n1))), (28, .d (DS q66 x0.Breakers)), (29, .d (I (x0.Breakers.length : Int))), (30, .d (I (cnt 0 n2)))]
def R186_2 (x0 : api_Board) (x1 : api_Power) (n2 : Nat) (z2 : (List Int)) : List Res := [.box 29 (d29 x0), .box 35 (d35 x1), .sl 3 1 (z2.map pI)]
def sa186_2 (z0 : (List Int)) (n1 : Nat) (z2 : (List Int)) : St := [(2, .d (.o 0 0)), (3, .d (.o 1 0)), (4, .d (DS pI [])), (5, .d (.os 2)), (24, .d (I (z0.length : Int))), (25, .d (I (cnt 0 n1)))]
def Ra186_2 (x0 : api_Board) (x1 : api_Power) (z2 : (List Int)) : List Res := [.box 29 (d29 x0), .box 35 (d35 x1), .sl 3 1 (z2.map pI)]
theorem k186 (x0 : api_Board) (x1 : api_Power) (r : (List Int)) (h : F186 x0 x1 = some r) : CallOk Tryz.prog 186 [.agg (d29 x0), .agg (d35 x1)] [] (.d (.os 0)) [.sl 3 1 (r.map pI)] := by
 unfold F186 at h
 refine callOk_of 69 Tryz.func186 rfl rfl rfl fun C hC => ?_
 obtain ⟨y1, h2, h⟩ := bindE h
 refine WI_stop (bs := []) mixed lv186 28 [] [.room (x0.Buses * (8 + 1)) (List.replicate (Int.toNat x0.Buses) (pI 0)) (y1.map pI), .len ((y1.map pI).length : Int) (y1.length : Int)] [] 0 n3_ (st186_0 y1 0 y1) (R186_0 x0 x1 0 y1) hC ⟨make_get h2, len_map _ _, trivial⟩ trivial (by kernel_rfl) ?_
 obtain ⟨w0, hm0, hret0, hnext0⟩ := andThen_inv h
 clear h
 refine WI_cut (by kernel_rfl) (fun s => w0 = .next s) (sa186_0) (Ra186_0 x0 x1) ?_ fun z0 hs0 => ?_
 ·refine WI_blk (by kernel_rfl) ?_
  refine WI_lenO 5 2 rfl rfl fun hl0 => ?_
  refine WI_foldI (by kernel_rfl) F186_l0 (st186_0 y1) (R186_0 x0 x1) w0 y1 y1 hm0 rfl rfl (fun z0 hn0 => ?_) fun n0 a0 z0 w0b hi0 hx0 h hb0 hr0 => ?_
  ·clear hm0
   exact WI_end (bs := [(decide ((cnt 0 y1.length) < (y1.length : Int)), false)]) (φ := fun s' => w0 = .next s') (st' := (sa186_0)) (R' := (Ra186_0 x0 x1)) mixed lv186 26 [false] [] [] 0 n3_ z0 hC trivial ⟨(cnt_end hl0), trivial⟩ (by kernel_rfl) (by kernel_rfl) hn0
  ·unfold F186_l0 at h
   obtain ⟨y3, h4, h⟩ := bindE h
   obtain ⟨y5, h6, h⟩ := bindE h
   exact WI_end (bs := [(decide ((cnt 0 n0) < (y1.length : Int)), true)]) (φ := fun s' => w0b = .next s') (st' := (st186_0 y1 (n0 + 1))) (R' := (R186_0 x0 x1 (n0 + 1))) mixed lv186 33 [true] [.row (z0.map pI) (cnt 0 n0) (pI y3), .upd (z0.map pI) (Int.toNat (cnt 0 n0)) (pI y3) (pI (cnt 0 n0)) (y5.map pI)] [] 0 n3_ y5 hC ⟨row_get h4, upd_get h4 h6, trivial⟩ ⟨(cnt_lt hi0 hl0), trivial⟩ (by kernel_rfl) (by kernel_rfl) (sI h).symm
 ·have h := hnext0 _ hs0
  refine WI_stop (bs := []) mixed lv186 24 [] [.len ((z0.map pI).length : Int) (z0.length : Int)] [] 0 n3_ (st186_1 z0 0 z0) (R186_1 x0 x1 0 z0) hC ⟨len_map _ _, trivial⟩ trivial (by kernel_rfl) ?_
  obtain ⟨w1, hm1, hret1, hnext1⟩ := andThen_inv h
  clear h
  refine WI_cut (by kernel_rfl) (fun s => w1 = .next s) (sa186_1) (Ra186_1) ?_ fun z1 hs1 => ?_
  ·refine WI_blk (by kernel_rfl) ?_
   refine WI_lenO 5 2 rfl rfl fun hl1 => ?_
   refine WI_foldI (by kernel_rfl) (F186_l1 x0 x1) (st186_1 z0) (R186_1 x0 x1) w1 z0 z0 hm1 rfl rfl (fun z1 hn1 => ?_) fun n1 a1 z1 w1b hi1 hx1 h hb1 hr1 => ?_
   ·clear hm1
    exact WI_end (bs := [(decide ((cnt 0 z0.length) < (z0.length : Int)), false)]) (φ := fun s' => w1 = .next s') (st' := (sa186_1)) (R' := (Ra186_1)) mixed lv186 26 [false] [] [] 0 [2] z1 hC trivial ⟨(cnt_end hl1), trivial⟩ (by kernel_rfl) (by kernel_rfl) hn1
   ·unfold F186_l1 at h
    refine WI_stop (bs := [(decide ((cnt 0 n1) < (z0.length : Int)), true)]) mixed lv186 30 [true] [.len ((x0.Breakers.map q66).length : Int) (x0.Breakers.length : Int)] [] 0 n3_ (st186_2 x0 z0 n1 0 z1) (R186_2 x0 x1 0 z1) hC ⟨len_map _ _, trivial⟩ ⟨(cnt_lt hi1 hl1), trivial⟩ (by kernel_rfl) ?_
    obtain ⟨w2, hm2, hret2, hnext2⟩ := andThen_inv h
    clear h
    refine WI_cut (by kernel_rfl) (fun s => w2 = .next s) (sa186_2 z0 n1) (Ra186_2 x0 x1) ?_ fun z2 hs2 => ?_
    ·refine WI_blk (by kernel_rfl) ?_
     refine WI_len 28 rfl fun hl2 => ?_
     refine WI_foldI (by kernel_rfl) (F186_l2 x1) (st186_2 x0 z0 n1) (R186_2 x0 x1) w2 x0.Breakers z1 hm2 rfl rfl (fun z2 hn2 => ?_) fun n2 a2 z2 w2b hi2 hx2 h hb2 hr2 => ?_
     ·clear hm2
      exact WI_end (bs := [(decide ((cnt 0 x0.Breakers.length) < (x0.Breakers.length : Int)), false)]) (φ := fun s' => w2 = .next s') (st' := (sa186_2 z0 n1)) (R' := (Ra186_2 x0 x1)) mixed lv186 26 [false] [] [] 0 n3_ z2 hC trivial ⟨(cnt_end hl2), trivial⟩ (by kernel_rfl) (by kernel_rfl) hn2
     ·unfold F186_l2 at h
      obtain ⟨y7, h8, h⟩ := bindE h
      rcases boolC (((a2.Kind == 1) && y7)) with h9 | h9
      ·replace h := condT h9 h
       obtain ⟨y10, h11, h⟩ := bindE h
       obtain ⟨y12, h13, h⟩ := bindE h
       obtain ⟨y14, h15, h⟩ := bindE h
       obtain ⟨y16, h17, h⟩ := bindE h
       obtain ⟨y18, h19, h⟩ := bindE h
       exact WI_end (bs := [(decide ((cnt 0 n2) < (x0.Breakers.length : Int)), true), (((a2.Kind == 1) && y7), true)]) (φ := fun s' => w2b = .next s') (st' := (st186_2 x0 z0 n1 (n2 + 1))) (R' := (R186_2 x0 x1 (n2 + 1))) mixed lv186 38 [true, true] [.row (x0.Breakers.map q66) (cnt 0 n2) (q66 a2), .when [((a2.Kind == 1), true)] (.row (x1.Closed.map pB) (cnt 0 n2) (pB y7)), .row (z2.map pI) a2.A (pI y10), .row (z2.map pI) (((Int.toNat a2.A) : Nat) : Int) (pI y10), .row (z2.map pI) a2.B (pI y12), .row (z2.map pI) (((Int.toNat a2.B) : Nat) : Int) (pI y12), .row (z2.map pI) a2.A (pI y10), .upd (z2.map pI) (Int.toNat a2.A) (pI y10) (pI (min y10 y12)) (y14.map pI), .row (y14.map pI) a2.B (pI y16), .upd (y14.map pI) (Int.toNat a2.B) (pI y16) (pI (min y10 y12)) (y18.map pI)] [] 0 n3_ y18 hC ⟨(row_cnt hx2 hl2), fun hg => row_get (guardO_get h8 hg), row_get h11, row_getN h11, row_get h13, row_getN h13, row_get h11, upd_get h11 h15, row_get h17, upd_get h17 h19, trivial⟩ ⟨(cnt_lt hi2 hl2), h9, trivial⟩ (by kernel_rfl) (by kernel_rfl) (sI h).symm
      ·replace h := condF h9 h
       exact WI_end (bs := [(decide ((cnt 0 n2) < (x0.Breakers.length : Int)), true), (((a2.Kind == 1) && y7), false)]) (φ := fun s' => w2b = .next s') (st' := (st186_2 x0 z0 n1 (n2 + 1))) (R' := (R186_2 x0 x1 (n2 + 1))) mixed lv186 36 [true, false] [.row (x0.Breakers.map q66) (cnt 0 n2) (q66 a2), .when [((a2.Kind == 1), true)] (.row (x1.Closed.map pB) (cnt 0 n2) (pB y7))] [] 0 n3_ z2 hC ⟨(row_cnt hx2 hl2), fun hg => row_get (guardO_get h8 hg), trivial⟩ ⟨(cnt_lt hi2 hl2), h9, trivial⟩ (by kernel_rfl) (by kernel_rfl) (sI h).symm
    ·have h := hnext2 _ hs2
     exact WI_end (bs := []) (φ := fun s' => w1b = .next s') (st' := (st186_1 z0 (n1 + 1))) (R' := (R186_1 x0 x1 (n1 + 1))) mixed lv186 23 [] [] [] 0 n3_ z2 hC trivial trivial (by kernel_rfl) (by kernel_rfl) (sI h).symm
  ·have h := hnext1 _ hs1
   replace h := sI h
   subst h
   exact WI_ret (bs := []) mixed lv186 23 [] [] [] [.tmp 4] 0 [0] rfl hC trivial trivial (by kernel_rfl)
theorem e186 : Enters Tryz.prog 186 := Go.SL.enters_of Tryz.func186 (by kernel_rfl) (by kernel_rfl)
theorem k190 (x0 : api_Island) (r : Bool) (h : F190 x0 = r) : CallOk Tryz.prog 190 [.agg (d78 x0)] [] (.d (Bo r)) [] := by
 unfold F190 at h
 refine callOk_of 7 Tryz.func190 rfl rfl rfl fun C hC => ?_
 subst h
 exact WI_ret (bs := []) mixed n3_ 25 [] [.len ((x0.Buses.map pI).length : Int) (x0.Buses.length : Int)] [] [.tmp 2] 0 [] rfl hC ⟨len_map _ _, trivial⟩ trivial (by kernel_rfl)
theorem e190 : Enters Tryz.prog 190 := Go.SL.enters_of Tryz.func190 (by kernel_rfl) (by kernel_rfl)
theorem k252 (x0 : Int) (r : Int) (h : F252 x0 = r) : CallOk Tryz.prog 252 [.d (I x0)] [] (.d (I r)) [] := by
 unfold F252 at h
 refine callOk_of 10 Tryz.func252 rfl rfl rfl fun C hC => ?_
 rcases boolC (decide ((Int.tmod x0 3600) < 0)) with h1 | h1
 ·replace h := condT h1 h
  subst h
  exact WI_ret (bs := [(decide ((Int.tmod x0 3600) < 0), true)]) mixed [0, 2, 6] 32 [true] [.nz 3600] [] [.tmp 2] 0 [] rfl hC ⟨nz_lit rfl, trivial⟩ ⟨h1, trivial⟩ (by kernel_rfl)
 ·replace h := condF h1 h
  subst h
  exact WI_ret (bs := [(decide ((Int.tmod x0 3600) < 0), false)]) mixed [0, 2, 6] 32 [false] [.nz 3600] [] [.tmp 2] 0 [] rfl hC ⟨nz_lit rfl, trivial⟩ ⟨h1, trivial⟩ (by kernel_rfl)
theorem e252 : Enters Tryz.prog 252 := Go.SL.enters_of Tryz.func252 (by kernel_rfl) (by kernel_rfl)
def lv183s0 : List Nat := [0, 1, 2, 3, 5, 7, 8, 9, 10, 11]
def st183s0_0 (x1 : List Int) (n0 : Nat) (z0 : (List api_Running)) : St := [(3, .d (.o 4 0)), (5, .d (.o 5 0)), (8, .d (DS pI x1)), (9, .d (I (x1.length : Int))), (10, .d (I (cnt 0 n0)))]
def R183s0_0 (x0 : api_Power) (x2 : api_Running) (n0 : Nat) (z0 : (List api_Running)) : List Res := [.sl 4 1 (x0.Closed.map pB), .sl 59 4 (z0.map q59), .sl 3 1 (x0.Limits.map pI), .sl 119 2 (x0.Broken.map q119), .box 35 [.os 0, .os 1, .os 2, .os 3], .box 59 (d59 x2)]
def sa183s0_0  (z0 : (List api_Running)) : St := []
def Ra183s0_0 (x0 : api_Power) (z0 : (List api_Running)) : List Res := [.sl 4 1 (x0.Closed.map pB), .sl 59 4 (z0.map q59), .sl 3 1 (x0.Limits.map pI), .sl 119 2 (x0.Broken.map q119)]
theorem k183s0 (x0 : api_Power) (x1 : List Int) (x2 : api_Running) (r : (List api_Running)) (h : F183s0 x0 x1 x2 = some r) : CallOk Tryz.prog 183 [.agg [.os 0, .os 1, .os 2, .os 3], .d (DS pI x1), .agg (d59 x2)] (p4 x0 []) (.tup []) [.sl 4 1 (x0.Closed.map pB), .sl 59 4 (r.map q59), .sl 3 1 (x0.Limits.map pI), .sl 119 2 (x0.Broken.map q119)] := by
 unfold F183s0 at h
 refine callOk_of 29 Tryz.func183 rfl rfl rfl fun C hC => ?_
 refine WI_stop (bs := []) mixed lv183s0 25 [] [.len ((x1.map pI).length : Int) (x1.length : Int)] [] 4 n6_ (st183s0_0 x1 0 x0.Sources) (R183s0_0 x0 x2 0 x0.Sources) hC ⟨len_map _ _, trivial⟩ trivial (by kernel_rfl) ?_
 obtain ⟨w0, hm0, hret0, hnext0⟩ := andThen_inv h
 clear h
 refine WI_cut (by kernel_rfl) (fun s => w0 = .next s) (sa183s0_0) (Ra183s0_0 x0) ?_ fun z0 hs0 => ?_
 ·refine WI_blk (by kernel_rfl) ?_
  refine WI_len 8 rfl fun hl0 => ?_
  refine WI_foldI (by kernel_rfl) (F183s0_l0 x2) (st183s0_0 x1) (R183s0_0 x0 x2) w0 x1 x0.Sources hm0 rfl rfl (fun z0 hn0 => ?_) fun n0 a0 z0 w0b hi0 hx0 h hb0 hr0 => ?_
  ·clear hm0
   exact WI_end (bs := [(decide ((cnt 0 x1.length) < (x1.length : Int)), false)]) (φ := fun s' => w0 = .next s') (st' := (sa183s0_0)) (R' := (Ra183s0_0 x0)) mixed lv183s0 26 [false] [] [] 4 n4_ z0 hC trivial ⟨(cnt_end hl0), trivial⟩ (by kernel_rfl) (by kernel_rfl) hn0
  ·unfold F183s0_l0 at h
   obtain ⟨y1, h2, h⟩ := bindE h
   obtain ⟨y3, h4, h⟩ := bindE h
   obtain ⟨y5, h6, h⟩ := bindE h
   obtain ⟨y7, h8, h⟩ := bindE h
   exact WI_end (bs := [(decide ((cnt 0 n0) < (x1.length : Int)), true)]) (φ := fun s' => w0b = .next s') (st' := (st183s0_0 x1 (n0 + 1))) (R' := (R183s0_0 x0 x2 (n0 + 1))) mixed lv183s0 33 [true] [.row (x1.map pI) (cnt 0 n0) (pI a0), .row (z0.map q59) a0 (q59 y1), .upd (z0.map q59) (Int.toNat a0) (q59 y1) (q59 (⟨y1.State, y1.Since, x2.Frequency, y1.Phase⟩ : api_Running)) (y3.map q59), .row (y3.map q59) a0 (q59 y5), .upd (y3.map q59) (Int.toNat a0) (q59 y5) (q59 (⟨y5.State, y5.Since, y5.Frequency, x2.Phase⟩ : api_Running)) (y7.map q59)] [] 4 n6_ y7 hC ⟨(row_cnt hx0 hl0), row_get h2, upd_get h2 h4, row_get h6, upd_get h6 h8, trivial⟩ ⟨(cnt_lt hi0 hl0), trivial⟩ (by kernel_rfl) (by kernel_rfl) (sI h).symm
 ·have h := hnext0 _ hs0
  replace h := sI h
  subst h
  exact WI_endF (bs := []) mixed lv183s0 20 [] [] [] [] 4 n4_ rfl hC trivial trivial (by kernel_rfl) (by kernel_rfl)
theorem e183s0 : Enters Tryz.prog 183 := Go.SL.enters_of Tryz.func183 (by kernel_rfl) (by kernel_rfl)
theorem k147s1 (x0 : restore_worker) (x1 : Int) (x2 : Int) (r : Int × restore_worker) (h : F147s1 x0 x1 x2 = some r) : CallOk Tryz.prog 147 [.d (.o 0 0), .d (I x1), .d (I x2)] (.box 130 (b6 x0.board [.os 1, .os 2, .os 3, .os 4, I x0.time]) :: p4 x0.power []) (.d (I r.1)) (.box 130 (b6 r.2.board [.os 1, .os 2, .os 3, .os 4, I r.2.time]) :: p4 r.2.power []) := by
 unfold F147s1 at h
 refine callOk_of 30 Tryz.func147 rfl rfl rfl fun C hC => ?_
 obtain ⟨y1, h2, h⟩ := bindE h
 rcases boolC ((c147s1_0 x2 y1)) with h3 | h3
 ·replace h := condT h3 h
  replace h := sI h
  subst h
  exact WI_ret (bs := [((c147s1_0 x2 y1), true)]) mixed [0, 1, 2, 6, 21] 29 [true] [.when [(decide (x2 < 0), false)] (.row (x0.board.Consumers.map q108) x1 (q108 y1))] [] [.tmp 6] 5 n5_ rfl hC ⟨fun hg => row_get (guardO_get h2 hg), trivial⟩ ⟨h3, trivial⟩ (by kernel_rfl)
 ·replace h := condF h3 h
  obtain ⟨y4, h5, h⟩ := bindE h
  obtain ⟨y6, h7, h⟩ := bindE h
  replace h := sI h
  subst h
  exact WI_ret (bs := [((c147s1_0 x2 y1), false)]) mixed [0, 1, 2, 6, 21] 32 [false] [.when [(decide (x2 < 0), false)] (.row (x0.board.Consumers.map q108) x1 (q108 y1)), .row (x0.power.Limits.map pI) x1 (pI y4), .upd (x0.power.Limits.map pI) (Int.toNat x1) (pI y4) (pI x2) (y6.map pI)] [] [.tmp 6] 5 n5_ rfl hC ⟨fun hg => row_get (guardO_get h2 hg), row_get h5, upd_get h5 h7, trivial⟩ ⟨h3, trivial⟩ (by kernel_rfl)
theorem e147s1 : Enters Tryz.prog 147 := Go.SL.enters_of Tryz.func147 (by kernel_rfl) (by kernel_rfl)
theorem k219 (x0 : api_Part) (x1 : api_Part) (r : Int) (h : F219 x0 x1 = r) : CallOk Tryz.prog 219 [.agg (d119 x0), .agg (d119 x1)] [] (.d (I r)) [] := by
 unfold F219 at h
 refine callOk_of 20 Tryz.func219 rfl rfl rfl fun C hC => ?_
 rcases boolC ((x0.Kind != x1.Kind)) with h1 | h1
 ·replace h := condT h1 h
  subst h
  exact WI_ret (bs := [((x0.Kind != x1.Kind), true)]) mixed [0, 1, 2, 3, 4, 9] 29 [true] [] [] [.tmp 4] 0 [] rfl hC trivial ⟨h1, trivial⟩ (by kernel_rfl)
 ·replace h := condF h1 h
  subst h
  exact WI_ret (bs := [((x0.Kind != x1.Kind), false)]) mixed [0, 1, 2, 3, 4, 9] 30 [false] [] [] [.tmp 4] 0 [] rfl hC trivial ⟨h1, trivial⟩ (by kernel_rfl)
theorem e219 : Enters Tryz.prog 219 := Go.SL.enters_of Tryz.func219 (by kernel_rfl) (by kernel_rfl)
def lv220s0 : List Nat := [0, 1, 2, 6, 7, 8, 9, 16, 22, 31, 68]
theorem k220s0 (x0 : List api_Part) (x1 : Int) (x2 : List api_Part) (r : (List api_Part)) (h : F220s0 x0 x1 x2 = some r) : CallOk Tryz.prog 220 [.d (.os 0), .d (I x1), .d (DS q119 x2)] [.sl 119 2 (x0.map q119)] (.d (.os 1)) [.non, .sl 119 2 (r.map q119)] := by
 by_cases hh : ((x2.length : Int) == 0) = false ∧ (x1 == (x0.length : Int)) = false
 ·unfold F220s0 at h
  exact insertM (enc := q119) (fun _ => rfl) hh.1 hh.2 h
 unfold F220s0 at h
 refine callOk_of 95 Tryz.func220 rfl rfl rfl fun C hC => ?_
 obtain ⟨u2, h1, h⟩ := bindE h
 rcases boolC (((x2.length : Int) == 0)) with h3 | h3
 ·replace h := condT h3 h
  replace h := sI h
  subst h
  exact WI_ret (bs := [(((x2.length : Int) == 0), true)]) mixed lv220s0 33 [true] [.bnd (x0.map q119).length x1 (((x0.map q119).length : Nat) : Int) (x0.length : Int), .len ((x2.map q119).length : Int) (x2.length : Int)] [.mv 0] [.tmp 6] 1 [0, 1] rfl hC ⟨bnd_get (by simp) (by simp) h1, len_map _ _, trivial⟩ ⟨h3, trivial⟩ (by kernel_rfl)
 ·replace h := condF h3 h
  refine WI_stop (bs := [(((x2.length : Int) == 0), false)]) mixed lv220s0 37 [false] [.bnd (x0.map q119).length x1 (((x0.map q119).length : Nat) : Int) (x0.length : Int), .len ((x2.map q119).length : Int) (x2.length : Int), .len ((x0.map q119).length : Int) (x0.length : Int)] [] 1 [0] [(0, .d (.os 0)), (1, .d (I x1)), (2, .d (DS q119 x2)), (6, .d (DS q119 [])), (7, .d (I (x2.length : Int))), (8, .d (I (x0.length : Int))), (22, .d (Bo (x1 == (x0.length : Int))))] [.sl 119 2 (x0.map q119)] hC ⟨bnd_get (by simp) (by simp) h1, len_map _ _, len_map _ _, trivial⟩ ⟨h3, trivial⟩ (by kernel_rfl) ?_
  rcases boolC ((x1 == (x0.length : Int))) with h4 | h4
  ·replace h := condT h4 h
   obtain ⟨y5, h6, h⟩ := bindE h
   replace h := sI h
   subst h
   exact WI_ret (bs := [((x1 == (x0.length : Int)), true)]) mixed lv220s0 24 [true] [.app (x0.map q119) (x2.map q119) 2 (((x0.map q119).length + (x2.map q119).length) * (16 + 1)) (y5.map q119)] [] [.tmp 6] 1 [0, 1] rfl hC ⟨app_get q119 2 (fun _ => rfl) h6, trivial⟩ ⟨h4, trivial⟩ (by kernel_rfl)
  ·replace h := condF h4 h
   exact absurd ⟨h3, h4⟩ hh
theorem e220s0 : Enters Tryz.prog 220 := Go.SL.enters_of Tryz.func220 (by kernel_rfl) (by kernel_rfl)
theorem k221s0 (x0 : List api_Part) (x1 : Int) (x2 : Int) (r : (List api_Part)) (h : F221s0 x0 x1 x2 = some r) : CallOk Tryz.prog 221 [.d (.os 0), .d (I x1), .d (I x2)] [.sl 119 2 (x0.map q119)] (.d (.os 1)) [.non, .sl 119 2 (r.map q119)] := by
 unfold F221s0 at h
 refine callOk_of 33 Tryz.func221 rfl rfl rfl fun C hC => ?_
 obtain ⟨u2, h1, h⟩ := bindE h
 rcases boolC ((x1 == x2)) with h3 | h3
 ·replace h := condT h3 h
  replace h := sI h
  subst h
  exact WI_ret (bs := [((x1 == x2), true)]) mixed [0, 1, 2, 6, 7, 16] 31 [true] [.len ((x0.map q119).length : Int) (x0.length : Int), .bnd3 (x0.map q119).length x1 x2 (x0.length : Int)] [.mv 0] [.tmp 6] 1 [0, 1] rfl hC ⟨len_map _ _, bnd3_get (by simp) h1, trivial⟩ ⟨h3, trivial⟩ (by kernel_rfl)
 ·replace h := condF h3 h
  obtain ⟨u5, h4, h⟩ := bindE h
  obtain ⟨u7, h6, h⟩ := bindE h
  obtain ⟨y8, h9, h⟩ := bindE h
  obtain ⟨u11, h10, h⟩ := bindE h
  replace h := sI h
  subst h
  (rw [List.map_take]; exact WI_ret (bs := [((x1 == x2), false)]) mixed [0, 1, 2, 6, 7, 16] 38 [false] [.len ((x0.map q119).length : Int) (x0.length : Int), .bnd3 (x0.map q119).length x1 x2 (x0.length : Int), .len ((x0.map q119).length : Int) (x0.length : Int), .bnd (x0.map q119).length 0 x1 x1, .bnd (x0.map q119).length x2 (((x0.map q119).length : Nat) : Int) (x0.length : Int), .appP (x0.map q119) (((x0.map q119).drop (Int.toNat x2)).take ((Int.toNat (x0.length : Int)) - (Int.toNat x2))) 2 ((Int.toNat x1) - 0) (((Int.toNat x1) - 0) + ((x0.drop (Int.toNat x2)).take ((Int.toNat (x0.length : Int)) - (Int.toNat x2))).length) ((x0.map q119).take ((Int.toNat x1) - 0) ++ ((((x0.map q119).drop (Int.toNat x2)).take ((Int.toNat (x0.length : Int)) - (Int.toNat x2))) ++ (x0.map q119).drop (((Int.toNat x1) - 0) + (((x0.map q119).drop (Int.toNat x2)).take ((Int.toNat (x0.length : Int)) - (Int.toNat x2))).length))) (y8.map q119), .len (((((Int.toNat x1) - 0) + ((x0.drop (Int.toNat x2)).take ((Int.toNat (x0.length : Int)) - (Int.toNat x2))).length) : Nat) : Int) (((((Int.toNat x1) - 0) + ((x0.drop (Int.toNat x2)).take ((Int.toNat (x0.length : Int)) - (Int.toNat x2))).length) : Nat) : Int), .bnd ((y8.map q119).length - 0) (((((Int.toNat x1) - 0) + ((x0.drop (Int.toNat x2)).take ((Int.toNat (x0.length : Int)) - (Int.toNat x2))).length) : Nat) : Int) (x0.length : Int) (x0.length : Int), .eqr ((y8.map q119).take (0 + (Int.toNat (((((Int.toNat x1) - 0) + ((x0.drop (Int.toNat x2)).take ((Int.toNat (x0.length : Int)) - (Int.toNat x2))).length) : Nat) : Int))) ++ (List.replicate ((Int.toNat (x0.length : Int)) - (Int.toNat (((((Int.toNat x1) - 0) + ((x0.drop (Int.toNat x2)).take ((Int.toNat (x0.length : Int)) - (Int.toNat x2))).length) : Nat) : Int))) (q119 (⟨0, 0⟩ : api_Part)) ++ (y8.map q119).drop ((0 + (Int.toNat (((((Int.toNat x1) - 0) + ((x0.drop (Int.toNat x2)).take ((Int.toNat (x0.length : Int)) - (Int.toNat x2))).length) : Nat) : Int))) + ((Int.toNat (x0.length : Int)) - (Int.toNat (((((Int.toNat x1) - 0) + ((x0.drop (Int.toNat x2)).take ((Int.toNat (x0.length : Int)) - (Int.toNat x2))).length) : Nat) : Int)))))) ((clrI y8 (0 + (Int.toNat (((((Int.toNat x1) - 0) + ((x0.drop (Int.toNat x2)).take ((Int.toNat (x0.length : Int)) - (Int.toNat x2))).length) : Nat) : Int))) ((Int.toNat (x0.length : Int)) - (Int.toNat (((((Int.toNat x1) - 0) + ((x0.drop (Int.toNat x2)).take ((Int.toNat (x0.length : Int)) - (Int.toNat x2))).length) : Nat) : Int))) (⟨0, 0⟩ : api_Part)).map q119)] [.trunc 6] [.tmp 6] 1 [0, 1] rfl hC ⟨len_map _ _, bnd3_get (by simp) h1, len_map _ _, bnd_get (by simp) rfl h4, bnd_get (by simp) (by simp) h6, appP_get q119 2 (fun _ => rfl) (part_map _ _ _ _) h9, rfl, bnd_get (by simp) rfl h10, clr_get q119 rfl, trivial⟩ ⟨h3, trivial⟩ (by kernel_rfl))
theorem e221s0 : Enters Tryz.prog 221 := Go.SL.enters_of Tryz.func221 (by kernel_rfl) (by kernel_rfl)
theorem k20 (x0 : api_Power) (r : api_Power) (h : F20 x0 = some r) : CallOk Tryz.prog 20 [.agg (d35 x0)] [] (.agg [.os 0, .os 1, .os 2, .os 3]) (p4 r []) := by
 unfold F20 at h
 refine callOk_of 16 Tryz.func20 rfl rfl rfl fun C hC => ?_
 obtain ⟨y1, h2, h⟩ := bindE h
 obtain ⟨y3, h4, h⟩ := bindE h
 obtain ⟨y5, h6, h⟩ := bindE h
 obtain ⟨y7, h8, h⟩ := bindE h
 replace h := sI h
 subst h
 exact WI_ret (bs := []) mixed n3_ 25 [] [.app [] (x0.Closed.map pB) 1 ((x0.Closed.map pB).length * (1 + 1)) (y1.map pB), .app [] (x0.Sources.map q59) 4 ((x0.Sources.map q59).length * (32 + 1)) (y3.map q59), .app [] (x0.Limits.map pI) 1 ((x0.Limits.map pI).length * (8 + 1)) (y5.map pI), .app [] (x0.Broken.map q119) 2 ((x0.Broken.map q119).length * (16 + 1)) (y7.map q119)] [] [.cell 2 35] 0 [3, 5, 7, 9] rfl hC ⟨app_get0 pB 1 (fun _ => rfl) h2, app_get0 q59 4 (fun _ => rfl) h4, app_get0 pI 1 (fun _ => rfl) h6, app_get0 q119 2 (fun _ => rfl) h8, trivial⟩ trivial (by kernel_rfl)
theorem e20 : Enters Tryz.prog 20 := Go.SL.enters_of Tryz.func20 (by kernel_rfl) (by kernel_rfl)
def lv21 : List Nat := [0, 1, 4, 5, 10, 12, 13, 14, 24]
def st21_0 (x0 : List Bool) (x1 : List Bool) (n0 : Nat) (z0 : Unit) : St := [(0, .d (DS pB x0)), (1, .d (DS pB x1)), (4, .d (Bo false)), (12, .d (I (x0.length : Int))), (13, .d (I (cnt 0 n0)))]
def R21_0  (n0 : Nat) (z0 : Unit) : List Res := []
def sa21_0  (z0 : Unit) : St := [(4, .d (Bo false))]
def Ra21_0  (z0 : Unit) : List Res := []
theorem k21 (x0 : List Bool) (x1 : List Bool) (r : Bool) (h : F21 x0 x1 = some r) : CallOk Tryz.prog 21 [.d (DS pB x0), .d (DS pB x1)] [] (.d (Bo r)) [] := by
 unfold F21 at h
 refine callOk_of 26 Tryz.func21 rfl rfl rfl fun C hC => ?_
 rcases boolC (((x0.length : Int) != (x1.length : Int))) with h1 | h1
 ·replace h := condT h1 h
  replace h := sI h
  subst h
  exact WI_ret (bs := [(((x0.length : Int) != (x1.length : Int)), true)]) mixed lv21 29 [true] [.len ((x0.map pB).length : Int) (x0.length : Int), .len ((x1.map pB).length : Int) (x1.length : Int)] [] [.tmp 4] 0 [] rfl hC ⟨len_map _ _, len_map _ _, trivial⟩ ⟨h1, trivial⟩ (by kernel_rfl)
 ·replace h := condF h1 h
  refine WI_stop (bs := [(((x0.length : Int) != (x1.length : Int)), false)]) mixed lv21 31 [false] [.len ((x0.map pB).length : Int) (x0.length : Int), .len ((x1.map pB).length : Int) (x1.length : Int), .len ((x0.map pB).length : Int) (x0.length : Int)] [] 0 [] (st21_0 x0 x1 0 ()) (R21_0 0 ()) hC ⟨len_map _ _, len_map _ _, len_map _ _, trivial⟩ ⟨h1, trivial⟩ (by kernel_rfl) ?_
  obtain ⟨w0, hm0, hret0, hnext0⟩ := andThen_inv h
  clear h
  refine WI_cut (by kernel_rfl) (fun s => w0 = .next s) (sa21_0) (Ra21_0) ?_ fun z0 hs0 => ?_
  ·refine WI_blk (by kernel_rfl) ?_
   refine WI_len 0 rfl fun hl0 => ?_
   refine WI_foldI (by kernel_rfl) (F21_l0 x1) (st21_0 x0 x1) (R21_0) w0 x0 () hm0 rfl rfl (fun z0 hn0 => ?_) fun n0 a0 z0 w0b hi0 hx0 h hb0 hr0 => ?_
   ·clear hm0
    exact WI_end (bs := [(decide ((cnt 0 x0.length) < (x0.length : Int)), false)]) (φ := fun s' => w0 = .next s') (st' := (sa21_0)) (R' := (Ra21_0)) mixed lv21 26 [false] [] [] 0 [] () hC trivial ⟨(cnt_end hl0), trivial⟩ (by kernel_rfl) (by kernel_rfl) hn0
   ·unfold F21_l0 at h
    obtain ⟨y2, h3, h⟩ := bindE h
    rcases boolC (!(a0 == y2)) with h4 | h4
    ·replace h := condT h4 h
     have hq := hret0 _ (hr0 _ (sI h).symm)
     replace hq := sI hq
     subst hq
     exact WI_ret (bs := [(decide ((cnt 0 n0) < (x0.length : Int)), true), (!(a0 == y2), true)]) mixed lv21 35 [true, true] [.row (x0.map pB) (cnt 0 n0) (pB a0), .row (x1.map pB) (cnt 0 n0) (pB y2)] [] [.tmp 4] 0 [] rfl hC ⟨(row_cnt hx0 hl0), row_get h3, trivial⟩ ⟨(cnt_lt hi0 hl0), h4, trivial⟩ (by kernel_rfl)
    ·replace h := condF h4 h
     exact WI_end (bs := [(decide ((cnt 0 n0) < (x0.length : Int)), true), (!(a0 == y2), false)]) (φ := fun s' => w0b = .next s') (st' := (st21_0 x0 x1 (n0 + 1))) (R' := (R21_0 (n0 + 1))) mixed lv21 36 [true, false] [.row (x0.map pB) (cnt 0 n0) (pB a0), .row (x1.map pB) (cnt 0 n0) (pB y2)] [] 0 [] () hC ⟨(row_cnt hx0 hl0), row_get h3, trivial⟩ ⟨(cnt_lt hi0 hl0), h4, trivial⟩ (by kernel_rfl) (by kernel_rfl) (sI h).symm
  ·have h := hnext0 _ hs0
   replace h := sI h
   subst h
   exact WI_ret (bs := []) mixed lv21 23 [] [] [] [.tmp 4] 0 [] rfl hC trivial trivial (by kernel_rfl)
theorem e21 : Enters Tryz.prog 21 := Go.SL.enters_of Tryz.func21 (by kernel_rfl) (by kernel_rfl)
theorem k28  (r : api_Board × api_Power) (h : F28  = r) : CallOk Tryz.prog 28 [] [] (.tup [.agg (d29 r.1), .agg (d35 r.2)]) [] := by
 unfold F28 at h
 refine callOk_of 14 Tryz.func28 rfl rfl rfl fun C hC => ?_
 subst h
 exact WI_ret (bs := []) mixed n3_ 27 [] [] [.ownb 0 3 108 5, .frz 3, .ownb 1 2 3 1, .frz 4, .ownb 1 3 119 2, .frz 5] [.cell 0 29, .cell 1 35] 0 [] rfl hC trivial trivial (by kernel_rfl)
theorem e28 : Enters Tryz.prog 28 := Go.SL.enters_of Tryz.func28 (by kernel_rfl) (by kernel_rfl)
theorem k255s1 (x0 : shed_relief) (x1 : Int) (r : shed_relief) (h : F255s1 x0 x1 = some r) : CallOk Tryz.prog 255 [.d (.o 0 0), .d (I x1)] (.box 244 (b6 x0.board [.os 1, .os 2, .os 3, .os 4, .os 5]) :: p4 x0.power [.sl 42 3 (x0.acts.map q42)]) (.tup []) (.box 244 (b6 r.board [.os 1, .os 2, .os 3, .os 4, .os 6]) :: p4 r.power [.non, .sl 42 3 (r.acts.map q42)]) := by
 unfold F255s1 at h
 refine callOk_of 22 Tryz.func255 rfl rfl rfl fun C hC => ?_
 obtain ⟨y1, h2, h⟩ := bindE h
 obtain ⟨y3, h4, h⟩ := bindE h
 obtain ⟨y5, h6, h⟩ := bindE h
 replace h := sI h
 subst h
 exact WI_endF (bs := []) mixed [0, 1] 23 [] [.row (x0.power.Closed.map pB) x1 (pB y1), .upd (x0.power.Closed.map pB) (Int.toNat x1) (pB y1) (pB false) (y3.map pB), .app (x0.acts.map q42) ([(⟨2, x1, 0⟩ : api_Act)].map q42) 3 (((x0.acts.map q42).length + ([(⟨2, x1, 0⟩ : api_Act)].map q42).length) * (24 + 1)) (y5.map q42)] [] [] 6 n7_ rfl hC ⟨row_get h2, upd_get h2 h4, app_get q42 3 (fun _ => rfl) h6, trivial⟩ trivial (by kernel_rfl) (by kernel_rfl)
theorem e255s1 : Enters Tryz.prog 255 := Go.SL.enters_of Tryz.func255 (by kernel_rfl) (by kernel_rfl)
theorem k258s0 (x0 : api_Breaker) (x1 : Int) (r : Bool) (h : F258s0 x0 x1 = r) : CallOk Tryz.prog 258 [.agg (d66 x0), .d (.ip [.v (.int .i64 x1)])] [] (.d (Bo r)) [] := by
 unfold F258s0 at h
 refine callOk_of 13 Tryz.func258 rfl rfl rfl fun C hC => ?_
 subst h
 exact WI_ret (bs := []) mixed n4_ 25 [] [] [] [.tmp 3] 0 [] rfl hC trivial trivial (by kernel_rfl)
theorem e258s0 : Enters Tryz.prog 258 := Go.SL.enters_of Tryz.func258 (by kernel_rfl) (by kernel_rfl)
def lv159 : List Nat := [0, 1, 4, 5, 10, 12, 13, 14, 24]
def st159_0 (x0 : List Bool) (x1 : List Bool) (n0 : Nat) (z0 : Unit) : St := [(0, .d (DS pB x0)), (1, .d (DS pB x1)), (4, .d (Bo false)), (12, .d (I (x0.length : Int))), (13, .d (I (cnt 0 n0)))]
def R159_0  (n0 : Nat) (z0 : Unit) : List Res := []
def sa159_0  (z0 : Unit) : St := [(4, .d (Bo false))]
def Ra159_0  (z0 : Unit) : List Res := []
theorem k159 (x0 : List Bool) (x1 : List Bool) (r : Bool) (h : F159 x0 x1 = some r) : CallOk Tryz.prog 159 [.d (DS pB x0), .d (DS pB x1)] [] (.d (Bo r)) [] := by
 unfold F159 at h
 refine callOk_of 26 Tryz.func159 rfl rfl rfl fun C hC => ?_
 rcases boolC (((x0.length : Int) != (x1.length : Int))) with h1 | h1
 ·replace h := condT h1 h
  replace h := sI h
  subst h
  exact WI_ret (bs := [(((x0.length : Int) != (x1.length : Int)), true)]) mixed lv159 29 [true] [.len ((x0.map pB).length : Int) (x0.length : Int), .len ((x1.map pB).length : Int) (x1.length : Int)] [] [.tmp 4] 0 [] rfl hC ⟨len_map _ _, len_map _ _, trivial⟩ ⟨h1, trivial⟩ (by kernel_rfl)
 ·replace h := condF h1 h
  refine WI_stop (bs := [(((x0.length : Int) != (x1.length : Int)), false)]) mixed lv159 31 [false] [.len ((x0.map pB).length : Int) (x0.length : Int), .len ((x1.map pB).length : Int) (x1.length : Int), .len ((x0.map pB).length : Int) (x0.length : Int)] [] 0 [] (st159_0 x0 x1 0 ()) (R159_0 0 ()) hC ⟨len_map _ _, len_map _ _, len_map _ _, trivial⟩ ⟨h1, trivial⟩ (by kernel_rfl) ?_
  obtain ⟨w0, hm0, hret0, hnext0⟩ := andThen_inv h
  clear h
  refine WI_cut (by kernel_rfl) (fun s => w0 = .next s) (sa159_0) (Ra159_0) ?_ fun z0 hs0 => ?_
  ·refine WI_blk (by kernel_rfl) ?_
   refine WI_len 0 rfl fun hl0 => ?_
   refine WI_foldI (by kernel_rfl) (F159_l0 x1) (st159_0 x0 x1) (R159_0) w0 x0 () hm0 rfl rfl (fun z0 hn0 => ?_) fun n0 a0 z0 w0b hi0 hx0 h hb0 hr0 => ?_
   ·clear hm0
    exact WI_end (bs := [(decide ((cnt 0 x0.length) < (x0.length : Int)), false)]) (φ := fun s' => w0 = .next s') (st' := (sa159_0)) (R' := (Ra159_0)) mixed lv159 26 [false] [] [] 0 [] () hC trivial ⟨(cnt_end hl0), trivial⟩ (by kernel_rfl) (by kernel_rfl) hn0
   ·unfold F159_l0 at h
    obtain ⟨y2, h3, h⟩ := bindE h
    rcases boolC (!(a0 == y2)) with h4 | h4
    ·replace h := condT h4 h
     have hq := hret0 _ (hr0 _ (sI h).symm)
     replace hq := sI hq
     subst hq
     exact WI_ret (bs := [(decide ((cnt 0 n0) < (x0.length : Int)), true), (!(a0 == y2), true)]) mixed lv159 35 [true, true] [.row (x0.map pB) (cnt 0 n0) (pB a0), .row (x1.map pB) (cnt 0 n0) (pB y2)] [] [.tmp 4] 0 [] rfl hC ⟨(row_cnt hx0 hl0), row_get h3, trivial⟩ ⟨(cnt_lt hi0 hl0), h4, trivial⟩ (by kernel_rfl)
    ·replace h := condF h4 h
     exact WI_end (bs := [(decide ((cnt 0 n0) < (x0.length : Int)), true), (!(a0 == y2), false)]) (φ := fun s' => w0b = .next s') (st' := (st159_0 x0 x1 (n0 + 1))) (R' := (R159_0 (n0 + 1))) mixed lv159 36 [true, false] [.row (x0.map pB) (cnt 0 n0) (pB a0), .row (x1.map pB) (cnt 0 n0) (pB y2)] [] 0 [] () hC ⟨(row_cnt hx0 hl0), row_get h3, trivial⟩ ⟨(cnt_lt hi0 hl0), h4, trivial⟩ (by kernel_rfl) (by kernel_rfl) (sI h).symm
  ·have h := hnext0 _ hs0
   replace h := sI h
   subst h
   exact WI_ret (bs := []) mixed lv159 23 [] [] [] [.tmp 4] 0 [] rfl hC trivial trivial (by kernel_rfl)
theorem e159 : Enters Tryz.prog 159 := Go.SL.enters_of Tryz.func159 (by kernel_rfl) (by kernel_rfl)
def lv160 : List Nat := [0, 1, 4, 5, 10, 12, 13, 14, 24]
def st160_0 (x0 : List api_Running) (x1 : List api_Running) (n0 : Nat) (z0 : Unit) : St := [(0, .d (DS q59 x0)), (1, .d (DS q59 x1)), (4, .d (Bo false)), (12, .d (I (x0.length : Int))), (13, .d (I (cnt 0 n0)))]
def R160_0  (n0 : Nat) (z0 : Unit) : List Res := []
def sa160_0  (z0 : Unit) : St := [(4, .d (Bo false))]
def Ra160_0  (z0 : Unit) : List Res := []
theorem k160 (x0 : List api_Running) (x1 : List api_Running) (r : Bool) (h : F160 x0 x1 = some r) : CallOk Tryz.prog 160 [.d (DS q59 x0), .d (DS q59 x1)] [] (.d (Bo r)) [] := by
 unfold F160 at h
 refine callOk_of 26 Tryz.func160 rfl rfl rfl fun C hC => ?_
 rcases boolC (((x0.length : Int) != (x1.length : Int))) with h1 | h1
 ·replace h := condT h1 h
  replace h := sI h
  subst h
  exact WI_ret (bs := [(((x0.length : Int) != (x1.length : Int)), true)]) mixed lv160 29 [true] [.len ((x0.map q59).length : Int) (x0.length : Int), .len ((x1.map q59).length : Int) (x1.length : Int)] [] [.tmp 4] 0 [] rfl hC ⟨len_map _ _, len_map _ _, trivial⟩ ⟨h1, trivial⟩ (by kernel_rfl)
 ·replace h := condF h1 h
  refine WI_stop (bs := [(((x0.length : Int) != (x1.length : Int)), false)]) mixed lv160 31 [false] [.len ((x0.map q59).length : Int) (x0.length : Int), .len ((x1.map q59).length : Int) (x1.length : Int), .len ((x0.map q59).length : Int) (x0.length : Int)] [] 0 [] (st160_0 x0 x1 0 ()) (R160_0 0 ()) hC ⟨len_map _ _, len_map _ _, len_map _ _, trivial⟩ ⟨h1, trivial⟩ (by kernel_rfl) ?_
  obtain ⟨w0, hm0, hret0, hnext0⟩ := andThen_inv h
  clear h
  refine WI_cut (by kernel_rfl) (fun s => w0 = .next s) (sa160_0) (Ra160_0) ?_ fun z0 hs0 => ?_
  ·refine WI_blk (by kernel_rfl) ?_
   refine WI_len 0 rfl fun hl0 => ?_
   refine WI_foldI (by kernel_rfl) (F160_l0 x1) (st160_0 x0 x1) (R160_0) w0 x0 () hm0 rfl rfl (fun z0 hn0 => ?_) fun n0 a0 z0 w0b hi0 hx0 h hb0 hr0 => ?_
   ·clear hm0
    exact WI_end (bs := [(decide ((cnt 0 x0.length) < (x0.length : Int)), false)]) (φ := fun s' => w0 = .next s') (st' := (sa160_0)) (R' := (Ra160_0)) mixed lv160 26 [false] [] [] 0 [] () hC trivial ⟨(cnt_end hl0), trivial⟩ (by kernel_rfl) (by kernel_rfl) hn0
   ·unfold F160_l0 at h
    obtain ⟨y2, h3, h⟩ := bindE h
    rcases boolC ((c160_1 a0 y2)) with h4 | h4
    ·replace h := condT h4 h
     have hq := hret0 _ (hr0 _ (sI h).symm)
     replace hq := sI hq
     subst hq
     exact WI_ret (bs := [(decide ((cnt 0 n0) < (x0.length : Int)), true), ((c160_1 a0 y2), true)]) mixed lv160 35 [true, true] [.row (x0.map q59) (cnt 0 n0) (q59 a0), .row (x1.map q59) (cnt 0 n0) (q59 y2)] [] [.tmp 4] 0 [] rfl hC ⟨(row_cnt hx0 hl0), row_get h3, trivial⟩ ⟨(cnt_lt hi0 hl0), h4, trivial⟩ (by kernel_rfl)
    ·replace h := condF h4 h
     exact WI_end (bs := [(decide ((cnt 0 n0) < (x0.length : Int)), true), ((c160_1 a0 y2), false)]) (φ := fun s' => w0b = .next s') (st' := (st160_0 x0 x1 (n0 + 1))) (R' := (R160_0 (n0 + 1))) mixed lv160 36 [true, false] [.row (x0.map q59) (cnt 0 n0) (q59 a0), .row (x1.map q59) (cnt 0 n0) (q59 y2)] [] 0 [] () hC ⟨(row_cnt hx0 hl0), row_get h3, trivial⟩ ⟨(cnt_lt hi0 hl0), h4, trivial⟩ (by kernel_rfl) (by kernel_rfl) (sI h).symm
  ·have h := hnext0 _ hs0
   replace h := sI h
   subst h
   exact WI_ret (bs := []) mixed lv160 23 [] [] [] [.tmp 4] 0 [] rfl hC trivial trivial (by kernel_rfl)
theorem e160 : Enters Tryz.prog 160 := Go.SL.enters_of Tryz.func160 (by kernel_rfl) (by kernel_rfl)
def lv161 : List Nat := [0, 1, 4, 5, 10, 12, 13, 14, 24]
def st161_0 (x0 : List Int) (x1 : List Int) (n0 : Nat) (z0 : Unit) : St := [(0, .d (DS pI x0)), (1, .d (DS pI x1)), (4, .d (Bo false)), (12, .d (I (x0.length : Int))), (13, .d (I (cnt 0 n0)))]
def R161_0  (n0 : Nat) (z0 : Unit) : List Res := []
def sa161_0  (z0 : Unit) : St := [(4, .d (Bo false))]
def Ra161_0  (z0 : Unit) : List Res := []
theorem k161 (x0 : List Int) (x1 : List Int) (r : Bool) (h : F161 x0 x1 = some r) : CallOk Tryz.prog 161 [.d (DS pI x0), .d (DS pI x1)] [] (.d (Bo r)) [] := by
 unfold F161 at h
 refine callOk_of 26 Tryz.func161 rfl rfl rfl fun C hC => ?_
 rcases boolC (((x0.length : Int) != (x1.length : Int))) with h1 | h1
 ·replace h := condT h1 h
  replace h := sI h
  subst h
  exact WI_ret (bs := [(((x0.length : Int) != (x1.length : Int)), true)]) mixed lv161 29 [true] [.len ((x0.map pI).length : Int) (x0.length : Int), .len ((x1.map pI).length : Int) (x1.length : Int)] [] [.tmp 4] 0 [] rfl hC ⟨len_map _ _, len_map _ _, trivial⟩ ⟨h1, trivial⟩ (by kernel_rfl)
 ·replace h := condF h1 h
  refine WI_stop (bs := [(((x0.length : Int) != (x1.length : Int)), false)]) mixed lv161 31 [false] [.len ((x0.map pI).length : Int) (x0.length : Int), .len ((x1.map pI).length : Int) (x1.length : Int), .len ((x0.map pI).length : Int) (x0.length : Int)] [] 0 [] (st161_0 x0 x1 0 ()) (R161_0 0 ()) hC ⟨len_map _ _, len_map _ _, len_map _ _, trivial⟩ ⟨h1, trivial⟩ (by kernel_rfl) ?_
  obtain ⟨w0, hm0, hret0, hnext0⟩ := andThen_inv h
  clear h
  refine WI_cut (by kernel_rfl) (fun s => w0 = .next s) (sa161_0) (Ra161_0) ?_ fun z0 hs0 => ?_
  ·refine WI_blk (by kernel_rfl) ?_
   refine WI_len 0 rfl fun hl0 => ?_
   refine WI_foldI (by kernel_rfl) (F161_l0 x1) (st161_0 x0 x1) (R161_0) w0 x0 () hm0 rfl rfl (fun z0 hn0 => ?_) fun n0 a0 z0 w0b hi0 hx0 h hb0 hr0 => ?_
   ·clear hm0
    exact WI_end (bs := [(decide ((cnt 0 x0.length) < (x0.length : Int)), false)]) (φ := fun s' => w0 = .next s') (st' := (sa161_0)) (R' := (Ra161_0)) mixed lv161 26 [false] [] [] 0 [] () hC trivial ⟨(cnt_end hl0), trivial⟩ (by kernel_rfl) (by kernel_rfl) hn0
   ·unfold F161_l0 at h
    obtain ⟨y2, h3, h⟩ := bindE h
    rcases boolC ((a0 != y2)) with h4 | h4
    ·replace h := condT h4 h
     have hq := hret0 _ (hr0 _ (sI h).symm)
     replace hq := sI hq
     subst hq
     exact WI_ret (bs := [(decide ((cnt 0 n0) < (x0.length : Int)), true), ((a0 != y2), true)]) mixed lv161 35 [true, true] [.row (x0.map pI) (cnt 0 n0) (pI a0), .row (x1.map pI) (cnt 0 n0) (pI y2)] [] [.tmp 4] 0 [] rfl hC ⟨(row_cnt hx0 hl0), row_get h3, trivial⟩ ⟨(cnt_lt hi0 hl0), h4, trivial⟩ (by kernel_rfl)
    ·replace h := condF h4 h
     exact WI_end (bs := [(decide ((cnt 0 n0) < (x0.length : Int)), true), ((a0 != y2), false)]) (φ := fun s' => w0b = .next s') (st' := (st161_0 x0 x1 (n0 + 1))) (R' := (R161_0 (n0 + 1))) mixed lv161 36 [true, false] [.row (x0.map pI) (cnt 0 n0) (pI a0), .row (x1.map pI) (cnt 0 n0) (pI y2)] [] 0 [] () hC ⟨(row_cnt hx0 hl0), row_get h3, trivial⟩ ⟨(cnt_lt hi0 hl0), h4, trivial⟩ (by kernel_rfl) (by kernel_rfl) (sI h).symm
  ·have h := hnext0 _ hs0
   replace h := sI h
   subst h
   exact WI_ret (bs := []) mixed lv161 23 [] [] [] [.tmp 4] 0 [] rfl hC trivial trivial (by kernel_rfl)
theorem e161 : Enters Tryz.prog 161 := Go.SL.enters_of Tryz.func161 (by kernel_rfl) (by kernel_rfl)
def lv162 : List Nat := [0, 1, 4, 5, 10, 12, 13, 14, 24]
def st162_0 (x0 : List api_Part) (x1 : List api_Part) (n0 : Nat) (z0 : Unit) : St := [(0, .d (DS q119 x0)), (1, .d (DS q119 x1)), (4, .d (Bo false)), (12, .d (I (x0.length : Int))), (13, .d (I (cnt 0 n0)))]
def R162_0  (n0 : Nat) (z0 : Unit) : List Res := []
def sa162_0  (z0 : Unit) : St := [(4, .d (Bo false))]
def Ra162_0  (z0 : Unit) : List Res := []
theorem k162 (x0 : List api_Part) (x1 : List api_Part) (r : Bool) (h : F162 x0 x1 = some r) : CallOk Tryz.prog 162 [.d (DS q119 x0), .d (DS q119 x1)] [] (.d (Bo r)) [] := by
 unfold F162 at h
 refine callOk_of 26 Tryz.func162 rfl rfl rfl fun C hC => ?_
 rcases boolC (((x0.length : Int) != (x1.length : Int))) with h1 | h1
 ·replace h := condT h1 h
  replace h := sI h
  subst h
  exact WI_ret (bs := [(((x0.length : Int) != (x1.length : Int)), true)]) mixed lv162 29 [true] [.len ((x0.map q119).length : Int) (x0.length : Int), .len ((x1.map q119).length : Int) (x1.length : Int)] [] [.tmp 4] 0 [] rfl hC ⟨len_map _ _, len_map _ _, trivial⟩ ⟨h1, trivial⟩ (by kernel_rfl)
 ·replace h := condF h1 h
  refine WI_stop (bs := [(((x0.length : Int) != (x1.length : Int)), false)]) mixed lv162 31 [false] [.len ((x0.map q119).length : Int) (x0.length : Int), .len ((x1.map q119).length : Int) (x1.length : Int), .len ((x0.map q119).length : Int) (x0.length : Int)] [] 0 [] (st162_0 x0 x1 0 ()) (R162_0 0 ()) hC ⟨len_map _ _, len_map _ _, len_map _ _, trivial⟩ ⟨h1, trivial⟩ (by kernel_rfl) ?_
  obtain ⟨w0, hm0, hret0, hnext0⟩ := andThen_inv h
  clear h
  refine WI_cut (by kernel_rfl) (fun s => w0 = .next s) (sa162_0) (Ra162_0) ?_ fun z0 hs0 => ?_
  ·refine WI_blk (by kernel_rfl) ?_
   refine WI_len 0 rfl fun hl0 => ?_
   refine WI_foldI (by kernel_rfl) (F162_l0 x1) (st162_0 x0 x1) (R162_0) w0 x0 () hm0 rfl rfl (fun z0 hn0 => ?_) fun n0 a0 z0 w0b hi0 hx0 h hb0 hr0 => ?_
   ·clear hm0
    exact WI_end (bs := [(decide ((cnt 0 x0.length) < (x0.length : Int)), false)]) (φ := fun s' => w0 = .next s') (st' := (sa162_0)) (R' := (Ra162_0)) mixed lv162 26 [false] [] [] 0 [] () hC trivial ⟨(cnt_end hl0), trivial⟩ (by kernel_rfl) (by kernel_rfl) hn0
   ·unfold F162_l0 at h
    obtain ⟨y2, h3, h⟩ := bindE h
    rcases boolC ((c162_1 a0 y2)) with h4 | h4
    ·replace h := condT h4 h
     have hq := hret0 _ (hr0 _ (sI h).symm)
     replace hq := sI hq
     subst hq
     exact WI_ret (bs := [(decide ((cnt 0 n0) < (x0.length : Int)), true), ((c162_1 a0 y2), true)]) mixed lv162 35 [true, true] [.row (x0.map q119) (cnt 0 n0) (q119 a0), .row (x1.map q119) (cnt 0 n0) (q119 y2)] [] [.tmp 4] 0 [] rfl hC ⟨(row_cnt hx0 hl0), row_get h3, trivial⟩ ⟨(cnt_lt hi0 hl0), h4, trivial⟩ (by kernel_rfl)
    ·replace h := condF h4 h
     exact WI_end (bs := [(decide ((cnt 0 n0) < (x0.length : Int)), true), ((c162_1 a0 y2), false)]) (φ := fun s' => w0b = .next s') (st' := (st162_0 x0 x1 (n0 + 1))) (R' := (R162_0 (n0 + 1))) mixed lv162 36 [true, false] [.row (x0.map q119) (cnt 0 n0) (q119 a0), .row (x1.map q119) (cnt 0 n0) (q119 y2)] [] 0 [] () hC ⟨(row_cnt hx0 hl0), row_get h3, trivial⟩ ⟨(cnt_lt hi0 hl0), h4, trivial⟩ (by kernel_rfl) (by kernel_rfl) (sI h).symm
  ·have h := hnext0 _ hs0
   replace h := sI h
   subst h
   exact WI_ret (bs := []) mixed lv162 23 [] [] [] [.tmp 4] 0 [] rfl hC trivial trivial (by kernel_rfl)
theorem e162 : Enters Tryz.prog 162 := Go.SL.enters_of Tryz.func162 (by kernel_rfl) (by kernel_rfl)
def lv163 : List Nat := [0, 1, 4, 5, 7, 8, 9, 16]
def st163_0 (x0 : List Bool) (x1 : Bool) (n0 : Nat) (z0 : Unit) : St := [(0, .d (DS pB x0)), (1, .d (Bo x1)), (4, .d (I 0)), (7, .d (I (x0.length : Int))), (8, .d (I (cnt 0 n0)))]
def R163_0  (n0 : Nat) (z0 : Unit) : List Res := []
def sa163_0  (z0 : Unit) : St := [(4, .d (I 0))]
def Ra163_0  (z0 : Unit) : List Res := []
theorem k163 (x0 : List Bool) (x1 : Bool) (r : Int) (h : F163 x0 x1 = some r) : CallOk Tryz.prog 163 [.d (DS pB x0), .d (Bo x1)] [] (.d (I r)) [] := by
 unfold F163 at h
 refine callOk_of 19 Tryz.func163 rfl rfl rfl fun C hC => ?_
 refine WI_stop (bs := []) mixed lv163 26 [] [.len ((x0.map pB).length : Int) (x0.length : Int)] [] 0 [] (st163_0 x0 x1 0 ()) (R163_0 0 ()) hC ⟨len_map _ _, trivial⟩ trivial (by kernel_rfl) ?_
 obtain ⟨w0, hm0, hret0, hnext0⟩ := andThen_inv h
 clear h
 refine WI_cut (by kernel_rfl) (fun s => w0 = .next s) (sa163_0) (Ra163_0) ?_ fun z0 hs0 => ?_
 ·refine WI_blk (by kernel_rfl) ?_
  refine WI_len 0 rfl fun hl0 => ?_
  refine WI_foldI (by kernel_rfl) (F163_l0 x1) (st163_0 x0 x1) (R163_0) w0 x0 () hm0 rfl rfl (fun z0 hn0 => ?_) fun n0 a0 z0 w0b hi0 hx0 h hb0 hr0 => ?_
  ·clear hm0
   exact WI_end (bs := [(decide ((cnt 0 x0.length) < (x0.length : Int)), false)]) (φ := fun s' => w0 = .next s') (st' := (sa163_0)) (R' := (Ra163_0)) mixed lv163 26 [false] [] [] 0 [] () hC trivial ⟨(cnt_end hl0), trivial⟩ (by kernel_rfl) (by kernel_rfl) hn0
  ·unfold F163_l0 at h
   rcases boolC ((x1 == a0)) with h1 | h1
   ·replace h := condT h1 h
    have hq := hret0 _ (hr0 _ (sI h).symm)
    replace hq := sI hq
    subst hq
    exact WI_ret (bs := [(decide ((cnt 0 n0) < (x0.length : Int)), true), ((x1 == a0), true)]) mixed lv163 35 [true, true] [.row (x0.map pB) (cnt 0 n0) (pB a0)] [] [.tmp 4] 0 [] rfl hC ⟨(row_cnt hx0 hl0), trivial⟩ ⟨(cnt_lt hi0 hl0), h1, trivial⟩ (by kernel_rfl)
   ·replace h := condF h1 h
    exact WI_end (bs := [(decide ((cnt 0 n0) < (x0.length : Int)), true), ((x1 == a0), false)]) (φ := fun s' => w0b = .next s') (st' := (st163_0 x0 x1 (n0 + 1))) (R' := (R163_0 (n0 + 1))) mixed lv163 36 [true, false] [.row (x0.map pB) (cnt 0 n0) (pB a0)] [] 0 [] () hC ⟨(row_cnt hx0 hl0), trivial⟩ ⟨(cnt_lt hi0 hl0), h1, trivial⟩ (by kernel_rfl) (by kernel_rfl) (sI h).symm
 ·have h := hnext0 _ hs0
  replace h := sI h
  subst h
  exact WI_ret (bs := []) mixed lv163 23 [] [] [] [.tmp 4] 0 [] rfl hC trivial trivial (by kernel_rfl)
theorem e163 : Enters Tryz.prog 163 := Go.SL.enters_of Tryz.func163 (by kernel_rfl) (by kernel_rfl)
theorem k89s1 (x0 : restore_planner) (x1 : Int) (x2 : Int) (r : restore_planner) (h : F89s1 x0 x1 x2 = some r) : CallOk Tryz.prog 89 [.d (.o 0 0), .d (I x1), .d (I x2)] (.box 144 (b6 x0.board [.os 1, .os 2, .os 3, .os 4, .os 5, .os 6]) :: p4 x0.power [.sl 4 1 (x0.goal.map pB), .sl 42 3 (x0.acts.map q42)]) (.tup []) (.box 144 (b6 r.board [.os 1, .os 2, .os 3, .os 4, .os 5, .os 7]) :: p4 r.power [.sl 4 1 (r.goal.map pB), .non, .sl 42 3 (r.acts.map q42)]) := by
 unfold F89s1 at h
 refine callOk_of 27 Tryz.func89 rfl rfl rfl fun C hC => ?_
 obtain ⟨y1, h2, h⟩ := bindE h
 obtain ⟨y3, h4, h⟩ := bindE h
 obtain ⟨y5, h6, h⟩ := bindE h
 replace h := sI h
 subst h
 exact WI_endF (bs := []) mixed n3_ 23 [] [.app (x0.acts.map q42) ([(⟨x1, x2, 0⟩ : api_Act)].map q42) 3 (((x0.acts.map q42).length + ([(⟨x1, x2, 0⟩ : api_Act)].map q42).length) * (24 + 1)) (y1.map q42), .row (x0.power.Closed.map pB) x2 (pB y3), .upd (x0.power.Closed.map pB) (Int.toNat x2) (pB y3) (pB (x1 == 1)) (y5.map pB)] [] [] 7 n8_ rfl hC ⟨app_get q42 3 (fun _ => rfl) h2, row_get h4, upd_get h4 h6, trivial⟩ trivial (by kernel_rfl) (by kernel_rfl)
theorem e89s1 : Enters Tryz.prog 89 := Go.SL.enters_of Tryz.func89 (by kernel_rfl) (by kernel_rfl)
theorem k235 (x0 : Int) (x1 : Int) (r : Int × Int) (h : F235 x0 x1 = r) : CallOk Tryz.prog 235 [.d (.p (.v (.int .u64 x0))), .d (.p (.v (.int .u64 x1)))] [] (.tup [.d (.p (.v (.int .u64 r.1))), .d (.p (.v (.int .u64 r.2)))]) [] := by
 unfold F235 at h
 refine callOk_of 51 Tryz.func235 rfl rfl rfl fun C hC => ?_
 subst h
 exact WI_ret (bs := []) mixed [0, 1, 4, 5, 6, 7, 8, 9, 10, 11, 12, 13] 45 [] [] [] [.tmp 4, .tmp 5] 0 [] rfl hC trivial trivial (by kernel_rfl)
theorem e235 : Enters Tryz.prog 235 := Go.SL.enters_of Tryz.func235 (by kernel_rfl) (by kernel_rfl)
theorem k166 (x0 : List Int) : CallOk Tryz.prog 166 [.d (.p (.s (x0.map pI)))] [] (.d (.fn (.func 229) [] [.o 0 0])) [.box 22 [.p (.s (x0.map pI))]] := by
 refine callOk_of 4 Tryz.func166 rfl rfl rfl fun C hC => ?_
 exact WI_ret (bs := []) mixed [1, 2] 40 [] [] [] [.tmp 2] 0 [0] rfl hC trivial trivial (by kernel_rfl)
theorem e166 : Enters Tryz.prog 166 := Go.SL.enters_of Tryz.func166 (by kernel_rfl) (by kernel_rfl)
theorem k63 (x0 : dynposmake_Src) (x1 : Int) (r : Int × dynposmake_Src) (h : F63 x0 x1 = some r) : CallOk Tryz.prog 63 [.d (.o 0 0), .d (I x1)] [.box 121 (d121 x0)] (.d (I r.1)) [.box 121 (d121 r.2)] := by
 unfold F63 at h
 refine callOk_of 35 Tryz.func63 rfl rfl rfl fun C hC => ?_
 rcases boolC (decide (x0.At ≥ (x0.L.length : Int))) with h1 | h1
 ·replace h := condT h1 h
  replace h := sI h
  subst h
  exact WI_ret (bs := [(decide (x0.At ≥ (x0.L.length : Int)), true)]) mixed [0, 1, 4, 14] 29 [true] [.len ((x0.L.map pI).length : Int) (x0.L.length : Int)] [] [.tmp 4] 1 [0] rfl hC ⟨len_map _ _, trivial⟩ ⟨h1, trivial⟩ (by kernel_rfl)
 ·replace h := condF h1 h
  obtain ⟨y2, h3, h⟩ := bindE h
  obtain ⟨y4, h5, h⟩ := bindE h
  replace h := sI h
  subst h
  exact WI_ret (bs := [(decide (x0.At ≥ (x0.L.length : Int)), false)]) mixed [0, 1, 4, 14] 32 [false] [.len ((x0.L.map pI).length : Int) (x0.L.length : Int), .row (x0.L.map pI) (w64 ((w64 (x0.At + 1)) - 1)) (pI y2), .call 127 [.d (I y2), .d (I x1)] [] (.d (I y4)) [] []] [] [.tmp 4] 1 [0] rfl hC ⟨len_map _ _, row_get h3, ⟨e127, (k127 y2 x1 _ h5)⟩, trivial⟩ ⟨h1, trivial⟩ (by kernel_rfl)
theorem e63 : Enters Tryz.prog 63 := Go.SL.enters_of Tryz.func63 (by kernel_rfl) (by kernel_rfl)
def lv64 : List Nat := [0, 1, 2, 3, 4, 6, 7, 16, 25, 33]
theorem k64 (x0 : api_Board) (x1 : api_Part) (r : Bool) (h : F64 x0 x1 = r) : CallOk Tryz.prog 64 [.agg (d29 x0), .agg (d119 x1)] [] (.d (Bo r)) [] := by
 unfold F64 at h
 refine callOk_of 42 Tryz.func64 rfl rfl rfl fun C hC => ?_
 rcases boolC ((x1.Kind == 1)) with h1 | h1
 ·replace h := condT h1 h
  subst h
  exact WI_ret (bs := [((x1.Kind == 1), true)]) mixed lv64 32 [true] [.len ((x0.Sources.map q57).length : Int) (x0.Sources.length : Int), .call 77 [.d (I x1.Number), .d (I 0), .d (I (w64 ((x0.Sources.length : Int) - 1)))] [] (.d (Bo (F77 x1.Number 0 (w64 ((x0.Sources.length : Int) - 1))))) [] []] [] [.tmp 4] 0 [] rfl hC ⟨len_map _ _, ⟨e77, (k77 x1.Number 0 (w64 ((x0.Sources.length : Int) - 1)) _ rfl)⟩, trivial⟩ ⟨h1, trivial⟩ (by kernel_rfl)
 ·replace h := condF h1 h
  rcases boolC ((x1.Kind == 2)) with h2 | h2
  ·replace h := condT h2 h
   subst h
   exact WI_ret (bs := [((x1.Kind == 1), false), ((x1.Kind == 2), true)]) mixed lv64 35 [false, true] [.len ((x0.Breakers.map q66).length : Int) (x0.Breakers.length : Int), .call 77 [.d (I x1.Number), .d (I 0), .d (I (w64 ((x0.Breakers.length : Int) - 1)))] [] (.d (Bo (F77 x1.Number 0 (w64 ((x0.Breakers.length : Int) - 1))))) [] []] [] [.tmp 4] 0 [] rfl hC ⟨len_map _ _, ⟨e77, (k77 x1.Number 0 (w64 ((x0.Breakers.length : Int) - 1)) _ rfl)⟩, trivial⟩ ⟨h1, h2, trivial⟩ (by kernel_rfl)
  ·replace h := condF h2 h
   rcases boolC ((x1.Kind == 3)) with h3 | h3
   ·replace h := condT h3 h
    subst h
    exact WI_ret (bs := [((x1.Kind == 1), false), ((x1.Kind == 2), false), ((x1.Kind == 3), true)]) mixed lv64 38 [false, false, true] [.call 77 [.d (I x1.Number), .d (I 0), .d (I (w64 (x0.Buses - 1)))] [] (.d (Bo (F77 x1.Number 0 (w64 (x0.Buses - 1))))) [] []] [] [.tmp 4] 0 [] rfl hC ⟨⟨e77, (k77 x1.Number 0 (w64 (x0.Buses - 1)) _ rfl)⟩, trivial⟩ ⟨h1, h2, h3, trivial⟩ (by kernel_rfl)
   ·replace h := condF h3 h
    rcases boolC ((x1.Kind == 4)) with h4 | h4
    ·replace h := condT h4 h
     subst h
     exact WI_ret (bs := [((x1.Kind == 1), false), ((x1.Kind == 2), false), ((x1.Kind == 3), false), ((x1.Kind == 4), true)]) mixed lv64 41 [false, false, false, true] [.len ((x0.Consumers.map q108).length : Int) (x0.Consumers.length : Int), .call 77 [.d (I x1.Number), .d (I 0), .d (I (w64 ((x0.Consumers.length : Int) - 1)))] [] (.d (Bo (F77 x1.Number 0 (w64 ((x0.Consumers.length : Int) - 1))))) [] []] [] [.tmp 4] 0 [] rfl hC ⟨len_map _ _, ⟨e77, (k77 x1.Number 0 (w64 ((x0.Consumers.length : Int) - 1)) _ rfl)⟩, trivial⟩ ⟨h1, h2, h3, h4, trivial⟩ (by kernel_rfl)
    ·replace h := condF h4 h
     subst h
     exact WI_ret (bs := [((x1.Kind == 1), false), ((x1.Kind == 2), false), ((x1.Kind == 3), false), ((x1.Kind == 4), false)]) mixed lv64 43 [false, false, false, false] [] [] [.tmp 4] 0 [] rfl hC trivial ⟨h1, h2, h3, h4, trivial⟩ (by kernel_rfl)
theorem e64 : Enters Tryz.prog 64 := Go.SL.enters_of Tryz.func64 (by kernel_rfl) (by kernel_rfl)
theorem k96 (x0 : List Int) (x1 : Int) (r : Bool) (h : F96 x0 x1 = some r) : CallOk Tryz.prog 96 [.d (DS pI x0), .d (I x1)] [] (.d (Bo r)) [] := by
 unfold F96 at h
 refine callOk_of 9 Tryz.func96 rfl rfl rfl fun C hC => ?_
 obtain ⟨y1, h2, h⟩ := bindE h
 replace h := sI h
 subst h
 exact WI_ret (bs := []) mixed [0, 1, 4] 25 [] [.call 177 [.d (DS pI x0), .d (I x1)] [] (.d (I y1)) [] []] [] [.tmp 4] 0 [] rfl hC ⟨⟨e177, (k177 x0 x1 _ h2)⟩, trivial⟩ trivial (by kernel_rfl)
theorem e96 : Enters Tryz.prog 96 := Go.SL.enters_of Tryz.func96 (by kernel_rfl) (by kernel_rfl)
def lv260s0 : List Nat := [0, 1, 4, 5, 7, 8, 9, 16]
def st260s0_0 (x0 : List (List Int)) (n0 : Nat) (z0 : Unit) : St := [(0, .d (DS (pL pI) x0)), (1, .d (.fn (.func 233) [] [])), (4, .d (I 0)), (7, .d (I (x0.length : Int))), (8, .d (I (cnt 0 n0)))]
def R260s0_0  (n0 : Nat) (z0 : Unit) : List Res := []
def sa260s0_0  (z0 : Unit) : St := [(4, .d (I 0))]
def Ra260s0_0  (z0 : Unit) : List Res := []
theorem k260s0 (x0 : List (List Int)) (r : Int) (h : F260s0 x0 = some r) : CallOk Tryz.prog 260 [.d (DS (pL pI) x0), .d (.fn (.func 233) [] [])] [] (.d (I r)) [] := by
 unfold F260s0 at h
 refine callOk_of 19 Tryz.func260 rfl rfl rfl fun C hC => ?_
 refine WI_stop (bs := []) mixed lv260s0 26 [] [.len ((x0.map (pL pI)).length : Int) (x0.length : Int)] [] 0 [] (st260s0_0 x0 0 ()) (R260s0_0 0 ()) hC ⟨len_map _ _, trivial⟩ trivial (by kernel_rfl) ?_
 obtain ⟨w0, hm0, hret0, hnext0⟩ := andThen_inv h
 clear h
 refine WI_cut (by kernel_rfl) (fun s => w0 = .next s) (sa260s0_0) (Ra260s0_0) ?_ fun z0 hs0 => ?_
 ·refine WI_blk (by kernel_rfl) ?_
  refine WI_len 0 rfl fun hl0 => ?_
  refine WI_foldI (by kernel_rfl) F260s0_l0 (st260s0_0 x0) (R260s0_0) w0 x0 () hm0 rfl rfl (fun z0 hn0 => ?_) fun n0 a0 z0 w0b hi0 hx0 h hb0 hr0 => ?_
  ·clear hm0
   exact WI_end (bs := [(decide ((cnt 0 x0.length) < (x0.length : Int)), false)]) (φ := fun s' => w0 = .next s') (st' := (sa260s0_0)) (R' := (Ra260s0_0)) mixed lv260s0 26 [false] [] [] 0 [] () hC trivial ⟨(cnt_end hl0), trivial⟩ (by kernel_rfl) (by kernel_rfl) hn0
  ·unfold F260s0_l0 at h
   rcases boolC (F233 a0) with h1 | h1
   ·replace h := condT h1 h
    have hq := hret0 _ (hr0 _ (sI h).symm)
    replace hq := sI hq
    subst hq
    exact WI_ret (bs := [(decide ((cnt 0 n0) < (x0.length : Int)), true), (F233 a0, true)]) mixed lv260s0 35 [true, true] [.row (x0.map (pL pI)) (cnt 0 n0) ((pL pI) a0), .call 233 [.d (DS pI a0)] [] (.d (Bo (F233 a0))) [] []] [] [.tmp 4] 0 [] rfl hC ⟨(row_cnt hx0 hl0), ⟨e233, (k233 a0 _ rfl)⟩, trivial⟩ ⟨(cnt_lt hi0 hl0), h1, trivial⟩ (by kernel_rfl)
   ·replace h := condF h1 h
    exact WI_end (bs := [(decide ((cnt 0 n0) < (x0.length : Int)), true), (F233 a0, false)]) (φ := fun s' => w0b = .next s') (st' := (st260s0_0 x0 (n0 + 1))) (R' := (R260s0_0 (n0 + 1))) mixed lv260s0 36 [true, false] [.row (x0.map (pL pI)) (cnt 0 n0) ((pL pI) a0), .call 233 [.d (DS pI a0)] [] (.d (Bo (F233 a0))) [] []] [] 0 [] () hC ⟨(row_cnt hx0 hl0), ⟨e233, (k233 a0 _ rfl)⟩, trivial⟩ ⟨(cnt_lt hi0 hl0), h1, trivial⟩ (by kernel_rfl) (by kernel_rfl) (sI h).symm
 ·have h := hnext0 _ hs0
  replace h := sI h
  subst h
  exact WI_ret (bs := []) mixed lv260s0 23 [] [] [] [.tmp 4] 0 [] rfl hC trivial trivial (by kernel_rfl)
theorem e260s0 : Enters Tryz.prog 260 := Go.SL.enters_of Tryz.func260 (by kernel_rfl) (by kernel_rfl)
theorem k173 (x0 : api_Source) (r : Bool) (h : F173 x0 = r) : CallOk Tryz.prog 173 [.agg (d57 x0)] [] (.d (Bo r)) [] := by
 unfold F173 at h
 refine callOk_of 18 Tryz.func173 rfl rfl rfl fun C hC => ?_
 subst h
 exact WI_ret (bs := []) mixed n3_ 25 [] [.call 132 [.d (I x0.Rating), .d (I 1), .d (I 50000)] [] (.d (Bo (F132 x0.Rating 1 50000))) [] [], .when [(F132 x0.Rating 1 50000, true)] (.call 132 [.d (I x0.Least), .d (I 0), .d (I x0.Rating)] [] (.d (Bo (F132 x0.Least 0 x0.Rating))) [] []), .when [(((F132 x0.Rating 1 50000) && (F132 x0.Least 0 x0.Rating)), true)] (.call 132 [.d (I x0.Start), .d (I 0), .d (I 600)] [] (.d (Bo (F132 x0.Start 0 600))) [] [])] [] [.tmp 2] 0 [] rfl hC ⟨⟨e132, (k132 x0.Rating 1 50000 _ rfl)⟩, fun hg => ⟨e132, (k132 x0.Least 0 x0.Rating _ rfl)⟩, fun hg => ⟨e132, (k132 x0.Start 0 600 _ rfl)⟩, trivial⟩ trivial (by kernel_rfl)
theorem e173 : Enters Tryz.prog 173 := Go.SL.enters_of Tryz.func173 (by kernel_rfl) (by kernel_rfl)
def lv174 : List Nat := [0, 1, 2, 4, 5, 6, 8, 9, 10, 11, 33]
def st174_0 (x0 : api_Consumer) (x1 : Int) (n0 : Nat) (z0 : Unit) : St := [(1, .d (I x1)), (2, .d (.o 0 0)), (4, .d (Bo false)), (8, .d (DS pI x0.Needs)), (9, .d (I (x0.Needs.length : Int))), (10, .d (I (cnt 0 n0)))]
def R174_0 (x0 : api_Consumer) (n0 : Nat) (z0 : Unit) : List Res := [.box 108 (d108 x0)]
def sa174_0  (z0 : Unit) : St := [(2, .d (.o 0 0)), (4, .d (Bo false))]
def Ra174_0 (x0 : api_Consumer) (z0 : Unit) : List Res := [.box 108 (d108 x0)]
theorem k174 (x0 : api_Consumer) (x1 : Int) (r : Bool) (h : F174 x0 x1 = some r) : CallOk Tryz.prog 174 [.agg (d108 x0), .d (I x1)] [] (.d (Bo r)) [] := by
 unfold F174 at h
 refine callOk_of 61 Tryz.func174 rfl rfl rfl fun C hC => ?_
 refine WI_stop (bs := []) mixed lv174 26 [] [.len ((x0.Needs.map pI).length : Int) (x0.Needs.length : Int)] [] 0 [0] (st174_0 x0 x1 0 ()) (R174_0 x0 0 ()) hC ⟨len_map _ _, trivial⟩ trivial (by kernel_rfl) ?_
 obtain ⟨w0, hm0, hret0, hnext0⟩ := andThen_inv h
 clear h
 refine WI_cut (by kernel_rfl) (fun s => w0 = .next s) (sa174_0) (Ra174_0 x0) ?_ fun z0 hs0 => ?_
 ·refine WI_blk (by kernel_rfl) ?_
  refine WI_len 8 rfl fun hl0 => ?_
  refine WI_foldI (by kernel_rfl) (F174_l0 x0 x1) (st174_0 x0 x1) (R174_0 x0) w0 x0.Needs () hm0 rfl rfl (fun z0 hn0 => ?_) fun n0 a0 z0 w0b hi0 hx0 h hb0 hr0 => ?_
  ·clear hm0
   exact WI_end (bs := [(decide ((cnt 0 x0.Needs.length) < (x0.Needs.length : Int)), false)]) (φ := fun s' => w0 = .next s') (st' := (sa174_0)) (R' := (Ra174_0 x0)) mixed lv174 26 [false] [] [] 0 [0] () hC trivial ⟨(cnt_end hl0), trivial⟩ (by kernel_rfl) (by kernel_rfl) hn0
  ·unfold F174_l0 at h
   obtain ⟨y1, h2, h⟩ := bindE h
   refine WI_stop (bs := [(decide ((cnt 0 n0) < (x0.Needs.length : Int)), true)]) mixed lv174 32 [true] [.row (x0.Needs.map pI) (cnt 0 n0) (pI a0), .call 132 [.d (I a0), .d (I 0), .d (I (w64 (x1 - 1)))] [] (.d (Bo (F132 a0 0 (w64 (x1 - 1))))) [] [], .when [(!(F132 a0 0 (w64 (x1 - 1))), false), (decide ((cnt 0 n0) > 0), true)] (.row (x0.Needs.map pI) (w64 ((cnt 0 n0) - 1)) (pI y1))] [] 0 [0] [(1, .d (I x1)), (2, .d (.o 0 0)), (4, .d (Bo false)), (8, .d (DS pI x0.Needs)), (9, .d (I (x0.Needs.length : Int))), (10, .d (I (cnt 0 n0))), (33, .d (Bo (c174_1 x1 n0 a0 y1)))] [.box 108 (d108 x0)] hC ⟨(row_cnt hx0 hl0), ⟨e132, (k132 a0 0 (w64 (x1 - 1)) _ rfl)⟩, fun hg => row_get (guardO_get h2 hg), trivial⟩ ⟨(cnt_lt hi0 hl0), trivial⟩ (by kernel_rfl) ?_
   rcases boolC ((c174_1 x1 n0 a0 y1)) with h3 | h3
   ·replace h := condT h3 h
    have hq := hret0 _ (hr0 _ (sI h).symm)
    replace hq := sI hq
    subst hq
    exact WI_ret (bs := [((c174_1 x1 n0 a0 y1), true)]) mixed lv174 24 [true] [] [] [.tmp 4] 0 [] rfl hC trivial ⟨h3, trivial⟩ (by kernel_rfl)
   ·replace h := condF h3 h
    exact WI_end (bs := [((c174_1 x1 n0 a0 y1), false)]) (φ := fun s' => w0b = .next s') (st' := (st174_0 x0 x1 (n0 + 1))) (R' := (R174_0 x0 (n0 + 1))) mixed lv174 25 [false] [] [] 0 [0] () hC trivial ⟨h3, trivial⟩ (by kernel_rfl) (by kernel_rfl) (sI h).symm
 ·have h := hnext0 _ hs0
  replace h := sI h
  subst h
  exact WI_ret (bs := []) mixed lv174 23 [] [.call 132 [.d (I x0.Load), .d (I 0), .d (I 50000)] [] (.d (Bo (F132 x0.Load 0 50000))) [] [], .when [(F132 x0.Load 0 50000, true)] (.call 132 [.d (I x0.Least), .d (I 0), .d (I x0.Load)] [] (.d (Bo (F132 x0.Least 0 x0.Load))) [] []), .when [(((F132 x0.Load 0 50000) && (F132 x0.Least 0 x0.Load)), true)] (.call 132 [.d (I x0.Preference), .d (I 0), .d (I 15)] [] (.d (Bo (F132 x0.Preference 0 15))) [] []), .when [((((F132 x0.Load 0 50000) && (F132 x0.Least 0 x0.Load)) && (F132 x0.Preference 0 15)), true)] (.call 132 [.d (I x0.Thruster), .d (I (-1)), .d (I 7)] [] (.d (Bo (F132 x0.Thruster (-1) 7))) [] []), .when [(((((F132 x0.Load 0 50000) && (F132 x0.Least 0 x0.Load)) && (F132 x0.Preference 0 15)) && (F132 x0.Thruster (-1) 7)), true)] (.len ((x0.Needs.map pI).length : Int) (x0.Needs.length : Int))] [] [.tmp 4] 0 [] rfl hC ⟨⟨e132, (k132 x0.Load 0 50000 _ rfl)⟩, fun hg => ⟨e132, (k132 x0.Least 0 x0.Load _ rfl)⟩, fun hg => ⟨e132, (k132 x0.Preference 0 15 _ rfl)⟩, fun hg => ⟨e132, (k132 x0.Thruster (-1) 7 _ rfl)⟩, fun hg => len_map _ _, trivial⟩ trivial (by kernel_rfl)
theorem e174 : Enters Tryz.prog 174 := Go.SL.enters_of Tryz.func174 (by kernel_rfl) (by kernel_rfl)
def lv72 : List Nat := [0, 1, 4, 5, 10, 12, 13, 14, 24]
def st72_0 (x0 : List api_Act) (x1 : List api_Act) (n0 : Nat) (z0 : Unit) : St := [(0, .d (DS q42 x0)), (1, .d (DS q42 x1)), (4, .d (Bo false)), (12, .d (I (x0.length : Int))), (13, .d (I (cnt 0 n0)))]
def R72_0  (n0 : Nat) (z0 : Unit) : List Res := []
def sa72_0  (z0 : Unit) : St := [(4, .d (Bo false))]
def Ra72_0  (z0 : Unit) : List Res := []
theorem k72 (x0 : List api_Act) (x1 : List api_Act) (r : Bool) (h : F72 x0 x1 = some r) : CallOk Tryz.prog 72 [.d (DS q42 x0), .d (DS q42 x1)] [] (.d (Bo r)) [] := by
 unfold F72 at h
 refine callOk_of 26 Tryz.func72 rfl rfl rfl fun C hC => ?_
 rcases boolC (((x0.length : Int) != (x1.length : Int))) with h1 | h1
 ·replace h := condT h1 h
  replace h := sI h
  subst h
  exact WI_ret (bs := [(((x0.length : Int) != (x1.length : Int)), true)]) mixed lv72 29 [true] [.len ((x0.map q42).length : Int) (x0.length : Int), .len ((x1.map q42).length : Int) (x1.length : Int)] [] [.tmp 4] 0 [] rfl hC ⟨len_map _ _, len_map _ _, trivial⟩ ⟨h1, trivial⟩ (by kernel_rfl)
 ·replace h := condF h1 h
  refine WI_stop (bs := [(((x0.length : Int) != (x1.length : Int)), false)]) mixed lv72 31 [false] [.len ((x0.map q42).length : Int) (x0.length : Int), .len ((x1.map q42).length : Int) (x1.length : Int), .len ((x0.map q42).length : Int) (x0.length : Int)] [] 0 [] (st72_0 x0 x1 0 ()) (R72_0 0 ()) hC ⟨len_map _ _, len_map _ _, len_map _ _, trivial⟩ ⟨h1, trivial⟩ (by kernel_rfl) ?_
  obtain ⟨w0, hm0, hret0, hnext0⟩ := andThen_inv h
  clear h
  refine WI_cut (by kernel_rfl) (fun s => w0 = .next s) (sa72_0) (Ra72_0) ?_ fun z0 hs0 => ?_
  ·refine WI_blk (by kernel_rfl) ?_
   refine WI_len 0 rfl fun hl0 => ?_
   refine WI_foldI (by kernel_rfl) (F72_l0 x1) (st72_0 x0 x1) (R72_0) w0 x0 () hm0 rfl rfl (fun z0 hn0 => ?_) fun n0 a0 z0 w0b hi0 hx0 h hb0 hr0 => ?_
   ·clear hm0
    exact WI_end (bs := [(decide ((cnt 0 x0.length) < (x0.length : Int)), false)]) (φ := fun s' => w0 = .next s') (st' := (sa72_0)) (R' := (Ra72_0)) mixed lv72 26 [false] [] [] 0 [] () hC trivial ⟨(cnt_end hl0), trivial⟩ (by kernel_rfl) (by kernel_rfl) hn0
   ·unfold F72_l0 at h
    obtain ⟨y2, h3, h⟩ := bindE h
    rcases boolC ((c72_1 a0 y2)) with h4 | h4
    ·replace h := condT h4 h
     have hq := hret0 _ (hr0 _ (sI h).symm)
     replace hq := sI hq
     subst hq
     exact WI_ret (bs := [(decide ((cnt 0 n0) < (x0.length : Int)), true), ((c72_1 a0 y2), true)]) mixed lv72 35 [true, true] [.row (x0.map q42) (cnt 0 n0) (q42 a0), .row (x1.map q42) (cnt 0 n0) (q42 y2)] [] [.tmp 4] 0 [] rfl hC ⟨(row_cnt hx0 hl0), row_get h3, trivial⟩ ⟨(cnt_lt hi0 hl0), h4, trivial⟩ (by kernel_rfl)
    ·replace h := condF h4 h
     exact WI_end (bs := [(decide ((cnt 0 n0) < (x0.length : Int)), true), ((c72_1 a0 y2), false)]) (φ := fun s' => w0b = .next s') (st' := (st72_0 x0 x1 (n0 + 1))) (R' := (R72_0 (n0 + 1))) mixed lv72 36 [true, false] [.row (x0.map q42) (cnt 0 n0) (q42 a0), .row (x1.map q42) (cnt 0 n0) (q42 y2)] [] 0 [] () hC ⟨(row_cnt hx0 hl0), row_get h3, trivial⟩ ⟨(cnt_lt hi0 hl0), h4, trivial⟩ (by kernel_rfl) (by kernel_rfl) (sI h).symm
  ·have h := hnext0 _ hs0
   replace h := sI h
   subst h
   exact WI_ret (bs := []) mixed lv72 23 [] [] [] [.tmp 4] 0 [] rfl hC trivial trivial (by kernel_rfl)
theorem e72 : Enters Tryz.prog 72 := Go.SL.enters_of Tryz.func72 (by kernel_rfl) (by kernel_rfl)
def lv210 : List Nat := [0, 1, 4, 5, 6, 11, 12, 13, 16, 19]
theorem k210 (x0 : Int) (x1 : Int) (r : Int) (h : F210 x0 x1 = r) : CallOk Tryz.prog 210 [.d (I x0), .d (I x1)] [] (.d (I r)) [] := by
 unfold F210 at h
 refine callOk_of 20 Tryz.func210 rfl rfl rfl fun C hC => ?_
 rcases boolC (F248 x0) with h1 | h1
 ·replace h := condT h1 h
  rcases boolC (F248 x1) with h2 | h2
  ·replace h := condT h2 h
   subst h
   exact WI_ret (bs := [(F248 x0, true), (F248 x1, true)]) mixed lv210 37 [true, true] [.call 248 [.d (I x0)] [] (.d (Bo (F248 x0))) [] [], .call 248 [.d (I x1)] [] (.d (Bo (F248 x1))) [] []] [] [.tmp 4] 0 [] rfl hC ⟨⟨e248, (k248 x0 _ rfl)⟩, ⟨e248, (k248 x1 _ rfl)⟩, trivial⟩ ⟨h1, h2, trivial⟩ (by kernel_rfl)
  ·replace h := condF h2 h
   subst h
   exact WI_ret (bs := [(F248 x0, true), (F248 x1, false)]) mixed lv210 38 [true, false] [.call 248 [.d (I x0)] [] (.d (Bo (F248 x0))) [] [], .call 248 [.d (I x1)] [] (.d (Bo (F248 x1))) [] []] [] [.tmp 4] 0 [] rfl hC ⟨⟨e248, (k248 x0 _ rfl)⟩, ⟨e248, (k248 x1 _ rfl)⟩, trivial⟩ ⟨h1, h2, trivial⟩ (by kernel_rfl)
 ·replace h := condF h1 h
  rcases boolC (F248 x1) with h3 | h3
  ·replace h := condT h3 h
   subst h
   exact WI_ret (bs := [(F248 x0, false), (F248 x1, true)]) mixed lv210 38 [false, true] [.call 248 [.d (I x0)] [] (.d (Bo (F248 x0))) [] [], .call 248 [.d (I x1)] [] (.d (Bo (F248 x1))) [] []] [] [.tmp 4] 0 [] rfl hC ⟨⟨e248, (k248 x0 _ rfl)⟩, ⟨e248, (k248 x1 _ rfl)⟩, trivial⟩ ⟨h1, h3, trivial⟩ (by kernel_rfl)
  ·replace h := condF h3 h
   rcases boolC (decide (x0 < x1)) with h4 | h4
   ·replace h := condT h4 h
    subst h
    exact WI_ret (bs := [(F248 x0, false), (F248 x1, false), (decide (x0 < x1), true)]) mixed lv210 43 [false, false, true] [.call 248 [.d (I x0)] [] (.d (Bo (F248 x0))) [] [], .call 248 [.d (I x1)] [] (.d (Bo (F248 x1))) [] []] [] [.tmp 4] 0 [] rfl hC ⟨⟨e248, (k248 x0 _ rfl)⟩, ⟨e248, (k248 x1 _ rfl)⟩, trivial⟩ ⟨h1, h3, h4, trivial⟩ (by kernel_rfl)
   ·replace h := condF h4 h
    rcases boolC (decide (x0 > x1)) with h5 | h5
    ·replace h := condT h5 h
     subst h
     exact WI_ret (bs := [(F248 x0, false), (F248 x1, false), (decide (x0 < x1), false), (decide (x0 > x1), true)]) mixed lv210 48 [false, false, false, true] [.call 248 [.d (I x0)] [] (.d (Bo (F248 x0))) [] [], .call 248 [.d (I x1)] [] (.d (Bo (F248 x1))) [] []] [] [.tmp 4] 0 [] rfl hC ⟨⟨e248, (k248 x0 _ rfl)⟩, ⟨e248, (k248 x1 _ rfl)⟩, trivial⟩ ⟨h1, h3, h4, h5, trivial⟩ (by kernel_rfl)
    ·replace h := condF h5 h
     subst h
     exact WI_ret (bs := [(F248 x0, false), (F248 x1, false), (decide (x0 < x1), false), (decide (x0 > x1), false)]) mixed lv210 49 [false, false, false, false] [.call 248 [.d (I x0)] [] (.d (Bo (F248 x0))) [] [], .call 248 [.d (I x1)] [] (.d (Bo (F248 x1))) [] []] [] [.tmp 4] 0 [] rfl hC ⟨⟨e248, (k248 x0 _ rfl)⟩, ⟨e248, (k248 x1 _ rfl)⟩, trivial⟩ ⟨h1, h3, h4, h5, trivial⟩ (by kernel_rfl)
theorem e210 : Enters Tryz.prog 210 := Go.SL.enters_of Tryz.func210 (by kernel_rfl) (by kernel_rfl)
theorem k131 (x0 : api_Running) (r : Bool) (h : F131 x0 = r) : CallOk Tryz.prog 131 [.agg (d59 x0)] [] (.d (Bo r)) [] := by
 unfold F131 at h
 refine callOk_of 21 Tryz.func131 rfl rfl rfl fun C hC => ?_
 subst h
 exact WI_ret (bs := []) mixed n3_ 25 [] [.call 132 [.d (I x0.State), .d (I 0), .d (I 3)] [] (.d (Bo (F132 x0.State 0 3))) [] [], .when [(F132 x0.State 0 3, true)] (.call 132 [.d (I x0.Since), .d (I 0), .d (I 2147483648)] [] (.d (Bo (F132 x0.Since 0 2147483648))) [] []), .when [(((F132 x0.State 0 3) && (F132 x0.Since 0 2147483648)), true)] (.call 132 [.d (I x0.Frequency), .d (I 0), .d (I 6000)] [] (.d (Bo (F132 x0.Frequency 0 6000))) [] []), .when [((((F132 x0.State 0 3) && (F132 x0.Since 0 2147483648)) && (F132 x0.Frequency 0 6000)), true)] (.call 132 [.d (I x0.Phase), .d (I 0), .d (I 3599)] [] (.d (Bo (F132 x0.Phase 0 3599))) [] [])] [] [.tmp 2] 0 [] rfl hC ⟨⟨e132, (k132 x0.State 0 3 _ rfl)⟩, fun hg => ⟨e132, (k132 x0.Since 0 2147483648 _ rfl)⟩, fun hg => ⟨e132, (k132 x0.Frequency 0 6000 _ rfl)⟩, fun hg => ⟨e132, (k132 x0.Phase 0 3599 _ rfl)⟩, trivial⟩ trivial (by kernel_rfl)
theorem e131 : Enters Tryz.prog 131 := Go.SL.enters_of Tryz.func131 (by kernel_rfl) (by kernel_rfl)
def lv135s1 : List Nat := [0, 1, 4, 5, 7, 8, 9, 16]
def st135s1_0 (x0 : List api_Breaker) (n0 : Nat) (z0 : Unit) : St := [(0, .d (DS q66 x0)), (1, .d (.fn (.func 136) [] [.o 0 0])), (4, .d (I 0)), (7, .d (I (x0.length : Int))), (8, .d (I (cnt 0 n0)))]
def R135s1_0 (x1c0 : Int) (n0 : Nat) (z0 : Unit) : List Res := [.box 3 [I x1c0]]
def sa135s1_0  (z0 : Unit) : St := [(4, .d (I 0))]
def Ra135s1_0 (x1c0 : Int) (z0 : Unit) : List Res := [.box 3 [I x1c0]]
theorem k135s1 (x0 : List api_Breaker) (x1c0 : Int) (r : Int × Int) (h : F135s1 x0 x1c0 = some r) : CallOk Tryz.prog 135 [.d (DS q66 x0), .d (.fn (.func 136) [] [.o 0 0])] [.box 3 [I x1c0]] (.d (I r.1)) [.box 3 [I r.2]] := by
 unfold F135s1 at h
 refine callOk_of 19 Tryz.func135 rfl rfl rfl fun C hC => ?_
 refine WI_stop (bs := []) mixed lv135s1 26 [] [.len ((x0.map q66).length : Int) (x0.length : Int)] [] 1 [0] (st135s1_0 x0 0 ()) (R135s1_0 x1c0 0 ()) hC ⟨len_map _ _, trivial⟩ trivial (by kernel_rfl) ?_
 obtain ⟨w0, hm0, hret0, hnext0⟩ := andThen_inv h
 clear h
 refine WI_cut (by kernel_rfl) (fun s => w0 = .next s) (sa135s1_0) (Ra135s1_0 x1c0) ?_ fun z0 hs0 => ?_
 ·refine WI_blk (by kernel_rfl) ?_
  refine WI_len 0 rfl fun hl0 => ?_
  refine WI_foldI (by kernel_rfl) (F135s1_l0 x1c0) (st135s1_0 x0) (R135s1_0 x1c0) w0 x0 () hm0 rfl rfl (fun z0 hn0 => ?_) fun n0 a0 z0 w0b hi0 hx0 h hb0 hr0 => ?_
  ·clear hm0
   exact WI_end (bs := [(decide ((cnt 0 x0.length) < (x0.length : Int)), false)]) (φ := fun s' => w0 = .next s') (st' := (sa135s1_0)) (R' := (Ra135s1_0 x1c0)) mixed lv135s1 26 [false] [] [] 1 [0] () hC trivial ⟨(cnt_end hl0), trivial⟩ (by kernel_rfl) (by kernel_rfl) hn0
  ·unfold F135s1_l0 at h
   refine WI_stop (bs := [(decide ((cnt 0 n0) < (x0.length : Int)), true)]) mixed lv135s1 32 [true] [.row (x0.map q66) (cnt 0 n0) (q66 a0), .callB 136 [.agg (d66 a0), .d (.ip [.v (.int .i64 x1c0)])] (.d (Bo (F136s0 a0 x1c0))) [[]] 0 []] [] 1 [0] [(0, .d (DS q66 x0)), (1, .d (.fn (.func 136) [] [.o 0 0])), (4, .d (I 0)), (5, .d (I (cnt 0 n0))), (7, .d (I (x0.length : Int))), (8, .d (I (cnt 0 n0))), (16, .d (Bo (F136s0 a0 x1c0)))] [.box 3 [I x1c0]] hC ⟨(row_cnt hx0 hl0), lend0_get ⟨e136s0, (k136s0 a0 x1c0 _ rfl)⟩, trivial⟩ ⟨(cnt_lt hi0 hl0), trivial⟩ (by kernel_rfl) ?_
   rcases boolC (F136s0 a0 x1c0) with h1 | h1
   ·replace h := condT h1 h
    have hq := hret0 _ (hr0 _ (sI h).symm)
    replace hq := sI hq
    subst hq
    exact WI_ret (bs := [(F136s0 a0 x1c0, true)]) mixed lv135s1 24 [true] [] [] [.tmp 4] 1 [0] rfl hC trivial ⟨h1, trivial⟩ (by kernel_rfl)
   ·replace h := condF h1 h
    exact WI_end (bs := [(F136s0 a0 x1c0, false)]) (φ := fun s' => w0b = .next s') (st' := (st135s1_0 x0 (n0 + 1))) (R' := (R135s1_0 x1c0 (n0 + 1))) mixed lv135s1 25 [false] [] [] 1 [0] () hC trivial ⟨h1, trivial⟩ (by kernel_rfl) (by kernel_rfl) (sI h).symm
 ·have h := hnext0 _ hs0
  replace h := sI h
  subst h
  exact WI_ret (bs := []) mixed lv135s1 23 [] [] [] [.tmp 4] 1 [0] rfl hC trivial trivial (by kernel_rfl)
theorem e135s1 : Enters Tryz.prog 135 := Go.SL.enters_of Tryz.func135 (by kernel_rfl) (by kernel_rfl)
theorem k212 (x0 : List api_Part) (x1 : api_Part) (r : Bool) (h : F212 x0 x1 = some r) : CallOk Tryz.prog 212 [.d (DS q119 x0), .agg (d119 x1)] [] (.d (Bo r)) [] := by
 unfold F212 at h
 refine callOk_of 9 Tryz.func212 rfl rfl rfl fun C hC => ?_
 obtain ⟨y1, h2, h⟩ := bindE h
 replace h := sI h
 subst h
 exact WI_ret (bs := []) mixed [0, 1, 3, 4] 25 [] [.call 249 [.d (DS q119 x0), .agg (d119 x1)] [] (.d (I y1)) [] []] [] [.tmp 4] 0 [] rfl hC ⟨⟨e249, (k249 x0 x1 _ h2)⟩, trivial⟩ trivial (by kernel_rfl)
theorem e212 : Enters Tryz.prog 212 := Go.SL.enters_of Tryz.func212 (by kernel_rfl) (by kernel_rfl)
def lv69 : List Nat := [0, 1, 2, 3, 4, 6, 7, 14, 21, 27, 39]
def sa69_0 (x1 : api_Act) (z0 : Bool) : St := [(2, .d (.o 0 0)), (3, .d (.o 1 0)), (4, .d (Bo false)), (6, .d (I x1.Kind)), (7, .d (Bo z0))]
def Ra69_0 (x0 : api_Board) (x1 : api_Act) (z0 : Bool) : List Res := [.box 29 (d29 x0), .box 42 (d42 x1)]
def sa69_1 (x1 : api_Act) (z1 : Bool) : St := [(2, .d (.o 0 0)), (3, .d (.o 1 0)), (4, .d (Bo false)), (6, .d (I x1.Kind)), (14, .d (Bo z1))]
def Ra69_1 (x0 : api_Board) (x1 : api_Act) (z1 : Bool) : List Res := [.box 29 (d29 x0), .box 42 (d42 x1)]
theorem k69 (x0 : api_Board) (x1 : api_Act) (r : Bool) (h : F69 x0 x1 = some r) : CallOk Tryz.prog 69 [.agg (d29 x0), .agg (d42 x1)] [] (.d (Bo r)) [] := by
 unfold F69 at h
 refine callOk_of 48 Tryz.func69 rfl rfl rfl fun C hC => ?_
 refine WI_stop (bs := []) mixed lv69 30 [] [] [] 0 [0, 1] [(2, .d (.o 0 0)), (3, .d (.o 1 0)), (4, .d (Bo false)), (6, .d (I x1.Kind)), (7, .d (Bo (x1.Kind == 1)))] [.box 29 (d29 x0), .box 42 (d42 x1)] hC trivial trivial (by kernel_rfl) ?_
 obtain ⟨w0, h, hret0, hnext0⟩ := andThen_inv h
 refine WI_cut (by kernel_rfl) (fun s => w0 = .next s) (sa69_0 x1) (Ra69_0 x0 x1) ?_ fun z0 hs0 => ?_
 ·unfold F69_m0 at h
  rcases boolC ((x1.Kind == 1)) with h1 | h1
  ·replace h := condT h1 h
   exact WI_end (bs := [((x1.Kind == 1), true)]) (φ := fun s' => w0 = .next s') (st' := (sa69_0 x1)) (R' := (Ra69_0 x0 x1)) mixed lv69 23 [true] [] [] 0 [0, 1] (x1.Kind == 1) hC trivial ⟨h1, trivial⟩ (by kernel_rfl) (by kernel_rfl) (sI h).symm
  ·replace h := condF h1 h
   exact WI_end (bs := [((x1.Kind == 1), false)]) (φ := fun s' => w0 = .next s') (st' := (sa69_0 x1)) (R' := (Ra69_0 x0 x1)) mixed lv69 23 [false] [] [] 0 [0, 1] (x1.Kind == 2) hC trivial ⟨h1, trivial⟩ (by kernel_rfl) (by kernel_rfl) (sI h).symm
 ·clear h; have h := hnext0 _ hs0
  rcases boolC (z0) with h2 | h2
  ·replace h := condT h2 h
   replace h := sI h
   subst h
   exact WI_ret (bs := [(z0, true)]) mixed lv69 24 [true] [.call 137 [.agg (d29 x0), .d (I 2), .d (I x1.Unit)] [] (.d (Bo (F137 x0 2 x1.Unit))) [] []] [] [.tmp 4] 0 [] rfl hC ⟨⟨e137, (k137 x0 2 x1.Unit _ rfl)⟩, trivial⟩ ⟨h2, trivial⟩ (by kernel_rfl)
  ·replace h := condF h2 h
   refine WI_stop (bs := [(z0, false)]) mixed lv69 25 [false] [] [] 0 [0, 1] [(2, .d (.o 0 0)), (3, .d (.o 1 0)), (4, .d (Bo false)), (6, .d (I x1.Kind)), (14, .d (Bo (x1.Kind == 3)))] [.box 29 (d29 x0), .box 42 (d42 x1)] hC trivial ⟨h2, trivial⟩ (by kernel_rfl) ?_
   obtain ⟨w1, h, hret1, hnext1⟩ := andThen_inv h
   refine WI_cut (by kernel_rfl) (fun s => w1 = .next s) (sa69_1 x1) (Ra69_1 x0 x1) ?_ fun z1 hs1 => ?_
   ·unfold F69_m1 at h
    rcases boolC ((x1.Kind == 3)) with h3 | h3
    ·replace h := condT h3 h
     exact WI_end (bs := [((x1.Kind == 3), true)]) (φ := fun s' => w1 = .next s') (st' := (sa69_1 x1)) (R' := (Ra69_1 x0 x1)) mixed lv69 23 [true] [] [] 0 [0, 1] (x1.Kind == 3) hC trivial ⟨h3, trivial⟩ (by kernel_rfl) (by kernel_rfl) (sI h).symm
    ·replace h := condF h3 h
     exact WI_end (bs := [((x1.Kind == 3), false)]) (φ := fun s' => w1 = .next s') (st' := (sa69_1 x1)) (R' := (Ra69_1 x0 x1)) mixed lv69 23 [false] [] [] 0 [0, 1] (x1.Kind == 4) hC trivial ⟨h3, trivial⟩ (by kernel_rfl) (by kernel_rfl) (sI h).symm
   ·clear h; have h := hnext1 _ hs1
    rcases boolC (z1) with h4 | h4
    ·replace h := condT h4 h
     replace h := sI h
     subst h
     exact WI_ret (bs := [(z1, true)]) mixed lv69 24 [true] [.call 137 [.agg (d29 x0), .d (I 1), .d (I x1.Unit)] [] (.d (Bo (F137 x0 1 x1.Unit))) [] []] [] [.tmp 4] 0 [] rfl hC ⟨⟨e137, (k137 x0 1 x1.Unit _ rfl)⟩, trivial⟩ ⟨h4, trivial⟩ (by kernel_rfl)
    ·replace h := condF h4 h
     rcases boolC ((x1.Kind == 5)) with h5 | h5
     ·replace h := condT h5 h
      replace h := sI h
      subst h
      exact WI_ret (bs := [(z1, false), ((x1.Kind == 5), true)]) mixed lv69 27 [false, true] [.call 137 [.agg (d29 x0), .d (I 4), .d (I x1.Unit)] [] (.d (Bo (F137 x0 4 x1.Unit))) [] []] [] [.tmp 4] 0 [] rfl hC ⟨⟨e137, (k137 x0 4 x1.Unit _ rfl)⟩, trivial⟩ ⟨h4, h5, trivial⟩ (by kernel_rfl)
     ·replace h := condF h5 h
      rcases boolC ((x1.Kind == 6)) with h6 | h6
      ·replace h := condT h6 h
       replace h := sI h
       subst h
       exact WI_ret (bs := [(z1, false), ((x1.Kind == 5), false), ((x1.Kind == 6), true)]) mixed lv69 30 [false, false, true] [.call 137 [.agg (d29 x0), .d (I 1), .d (I x1.Unit)] [] (.d (Bo (F137 x0 1 x1.Unit))) [] [], .when [(F137 x0 1 x1.Unit, true)] (.call 137 [.agg (d29 x0), .d (I 3), .d (I x1.Value)] [] (.d (Bo (F137 x0 3 x1.Value))) [] [])] [] [.tmp 4] 0 [] rfl hC ⟨⟨e137, (k137 x0 1 x1.Unit _ rfl)⟩, fun hg => ⟨e137, (k137 x0 3 x1.Value _ rfl)⟩, trivial⟩ ⟨h4, h5, h6, trivial⟩ (by kernel_rfl)
      ·replace h := condF h6 h
       rcases boolC ((x1.Kind == 8)) with h7 | h7
       ·replace h := condT h7 h
        replace h := sI h
        subst h
        exact WI_ret (bs := [(z1, false), ((x1.Kind == 5), false), ((x1.Kind == 6), false), ((x1.Kind == 8), true), ((x1.Kind == 8), true)]) mixed lv69 36 [false, false, false, true, true] [.call 137 [.agg (d29 x0), .d (I x1.Value), .d (I x1.Unit)] [] (.d (Bo (F137 x0 x1.Value x1.Unit))) [] []] [] [.tmp 4] 0 [] rfl hC ⟨⟨e137, (k137 x0 x1.Value x1.Unit _ rfl)⟩, trivial⟩ ⟨h4, h5, h6, h7, h7, trivial⟩ (by kernel_rfl)
       ·replace h := condF h7 h
        rcases boolC ((x1.Kind == 9)) with h8 | h8
        ·replace h := condT h8 h
         replace h := sI h
         subst h
         exact WI_ret (bs := [(z1, false), ((x1.Kind == 5), false), ((x1.Kind == 6), false), ((x1.Kind == 8), false), ((x1.Kind == 9), true)]) mixed lv69 36 [false, false, false, false, true] [.call 137 [.agg (d29 x0), .d (I x1.Value), .d (I x1.Unit)] [] (.d (Bo (F137 x0 x1.Value x1.Unit))) [] []] [] [.tmp 4] 0 [] rfl hC ⟨⟨e137, (k137 x0 x1.Value x1.Unit _ rfl)⟩, trivial⟩ ⟨h4, h5, h6, h7, h8, trivial⟩ (by kernel_rfl)
        ·replace h := condF h8 h
         replace h := sI h
         subst h
         exact WI_ret (bs := [(z1, false), ((x1.Kind == 5), false), ((x1.Kind == 6), false), ((x1.Kind == 8), false), ((x1.Kind == 9), false)]) mixed lv69 38 [false, false, false, false, false] [] [] [.tmp 4] 0 [] rfl hC trivial ⟨h4, h5, h6, h7, h8, trivial⟩ (by kernel_rfl)
theorem e69 : Enters Tryz.prog 69 := Go.SL.enters_of Tryz.func69 (by kernel_rfl) (by kernel_rfl)
theorem k70 (x0 : api_Power) (r : api_Power) (h : F70 x0 = some r) : CallOk Tryz.prog 70 [.agg (d35 x0)] [] (.agg [.os 0, .os 1, .os 2, .os 3]) (p4 r []) := by
 unfold F70 at h
 refine callOk_of 16 Tryz.func70 rfl rfl rfl fun C hC => ?_
 obtain ⟨y1, h2, h⟩ := bindE h
 obtain ⟨y3, h4, h⟩ := bindE h
 obtain ⟨y5, h6, h⟩ := bindE h
 obtain ⟨y7, h8, h⟩ := bindE h
 replace h := sI h
 subst h
 exact WI_ret (bs := []) mixed n3_ 25 [] [.call 138 [.d (DS pB x0.Closed)] [] (.d (.os 0)) [.sl 4 1 (y1.map pB)] [], .call 139 [.d (DS q59 x0.Sources)] [] (.d (.os 0)) [.sl 59 4 (y3.map q59)] [], .call 140 [.d (DS pI x0.Limits)] [] (.d (.os 0)) [.sl 3 1 (y5.map pI)] [], .call 141 [.d (DS q119 x0.Broken)] [] (.d (.os 0)) [.sl 119 2 (y7.map q119)] []] [] [.cell 2 35] 0 [2, 3, 4, 5] rfl hC ⟨⟨e138, (k138 x0.Closed _ h2)⟩, ⟨e139, (k139 x0.Sources _ h4)⟩, ⟨e140, (k140 x0.Limits _ h6)⟩, ⟨e141, (k141 x0.Broken _ h8)⟩, trivial⟩ trivial (by kernel_rfl)
theorem e70 : Enters Tryz.prog 70 := Go.SL.enters_of Tryz.func70 (by kernel_rfl) (by kernel_rfl)
theorem k188 (x0 : api_Board) (x1 : api_Power) (x2 : Int) (r : Int × Bool) (h : F188 x0 x1 x2 = some r) : CallOk Tryz.prog 188 [.agg (d29 x0), .agg (d35 x1), .d (I x2)] [] (.tup [.d (I r.1), .d (Bo r.2)]) [] := by
 unfold F188 at h
 refine callOk_of 14 Tryz.func188 rfl rfl rfl fun C hC => ?_
 obtain ⟨y1, h2, h⟩ := bindE h
 replace h := sI h
 subst h
 exact WI_ret (bs := []) mixed [0, 1, 2, 3, 4, 6, 7] 25 [] [.call 237 [.agg (d29 x0), .agg (d35 x1), .d (I 3), .d (I x2)] [] (.tup [.d (I y1.1), .d (Bo y1.2)]) [] []] [] [.tmp 6, .tmp 7] 0 [] rfl hC ⟨⟨e237, (k237 x0 x1 3 x2 _ h2)⟩, trivial⟩ trivial (by kernel_rfl)
theorem e188 : Enters Tryz.prog 188 := Go.SL.enters_of Tryz.func188 (by kernel_rfl) (by kernel_rfl)
def lv187 : List Nat := [0, 1, 2, 3, 4, 6, 7, 23]
theorem k187 (x0 : api_Board) (x1 : api_Power) (x2 : Int) (r : Int × Bool) (h : F187 x0 x1 x2 = some r) : CallOk Tryz.prog 187 [.agg (d29 x0), .agg (d35 x1), .d (I x2)] [] (.tup [.d (I r.1), .d (Bo r.2)]) [] := by
 unfold F187 at h
 refine callOk_of 30 Tryz.func187 rfl rfl rfl fun C hC => ?_
 obtain ⟨y1, h2, h⟩ := bindE h
 refine WI_stop (bs := []) mixed lv187 26 [] [.len ((x1.Sources.map q59).length : Int) (x1.Sources.length : Int), .call 132 [.d (I x2), .d (I 0), .d (I (w64 ((x1.Sources.length : Int) - 1)))] [] (.d (Bo (F132 x2 0 (w64 ((x1.Sources.length : Int) - 1))))) [] [], .when [(!(F132 x2 0 (w64 ((x1.Sources.length : Int) - 1))), false)] (.row (x1.Sources.map q59) x2 (q59 y1))] [] 0 [0, 1] [(2, .d (I x2)), (3, .d (.o 0 0)), (4, .d (.o 1 0)), (6, .d (I 0)), (7, .d (Bo false)), (23, .d (Bo (c187_0 x1 x2 y1)))] [.box 29 (d29 x0), .box 35 (d35 x1)] hC ⟨len_map _ _, ⟨e132, (k132 x2 0 (w64 ((x1.Sources.length : Int) - 1)) _ rfl)⟩, fun hg => row_get (guardO_get h2 hg), trivial⟩ trivial (by kernel_rfl) ?_
 rcases boolC ((c187_0 x1 x2 y1)) with h3 | h3
 ·replace h := condT h3 h
  replace h := sI h
  subst h
  exact WI_ret (bs := [((c187_0 x1 x2 y1), true)]) mixed lv187 24 [true] [] [] [.tmp 6, .tmp 7] 0 [] rfl hC trivial ⟨h3, trivial⟩ (by kernel_rfl)
 ·replace h := condF h3 h
  obtain ⟨y4, h5, h⟩ := bindE h
  replace h := sI h
  subst h
  exact WI_ret (bs := [((c187_0 x1 x2 y1), false)]) mixed lv187 25 [false] [.call 237 [.agg (d29 x0), .agg (d35 x1), .d (I 2), .d (I x2)] [] (.tup [.d (I y4.1), .d (Bo y4.2)]) [] []] [] [.tmp 6, .tmp 7] 0 [] rfl hC ⟨⟨e237, (k237 x0 x1 2 x2 _ h5)⟩, trivial⟩ ⟨h3, trivial⟩ (by kernel_rfl)
theorem e187 : Enters Tryz.prog 187 := Go.SL.enters_of Tryz.func187 (by kernel_rfl) (by kernel_rfl)
def lv185s0 : List Nat := [0, 1, 4, 5, 7, 8, 9, 16]
def st185s0_0 (x0 : List api_Island) (n0 : Nat) (z0 : Unit) : St := [(0, .d (DS q78 x0)), (1, .d (.fn (.func 190) [] [])), (4, .d (I 0)), (7, .d (I (x0.length : Int))), (8, .d (I (cnt 0 n0)))]
def R185s0_0  (n0 : Nat) (z0 : Unit) : List Res := []
def sa185s0_0  (z0 : Unit) : St := [(4, .d (I 0))]
def Ra185s0_0  (z0 : Unit) : List Res := []
theorem k185s0 (x0 : List api_Island) (r : Int) (h : F185s0 x0 = some r) : CallOk Tryz.prog 185 [.d (DS q78 x0), .d (.fn (.func 190) [] [])] [] (.d (I r)) [] := by
 unfold F185s0 at h
 refine callOk_of 19 Tryz.func185 rfl rfl rfl fun C hC => ?_
 refine WI_stop (bs := []) mixed lv185s0 26 [] [.len ((x0.map q78).length : Int) (x0.length : Int)] [] 0 [] (st185s0_0 x0 0 ()) (R185s0_0 0 ()) hC ⟨len_map _ _, trivial⟩ trivial (by kernel_rfl) ?_
 obtain ⟨w0, hm0, hret0, hnext0⟩ := andThen_inv h
 clear h
 refine WI_cut (by kernel_rfl) (fun s => w0 = .next s) (sa185s0_0) (Ra185s0_0) ?_ fun z0 hs0 => ?_
 ·refine WI_blk (by kernel_rfl) ?_
  refine WI_len 0 rfl fun hl0 => ?_
  refine WI_foldI (by kernel_rfl) F185s0_l0 (st185s0_0 x0) (R185s0_0) w0 x0 () hm0 rfl rfl (fun z0 hn0 => ?_) fun n0 a0 z0 w0b hi0 hx0 h hb0 hr0 => ?_
  ·clear hm0
   exact WI_end (bs := [(decide ((cnt 0 x0.length) < (x0.length : Int)), false)]) (φ := fun s' => w0 = .next s') (st' := (sa185s0_0)) (R' := (Ra185s0_0)) mixed lv185s0 26 [false] [] [] 0 [] () hC trivial ⟨(cnt_end hl0), trivial⟩ (by kernel_rfl) (by kernel_rfl) hn0
  ·unfold F185s0_l0 at h
   refine WI_stop (bs := [(decide ((cnt 0 n0) < (x0.length : Int)), true)]) mixed lv185s0 32 [true] [.row (x0.map q78) (cnt 0 n0) (q78 a0), .call 190 [.agg (d78 a0)] [] (.d (Bo (F190 a0))) [] []] [] 0 [] [(0, .d (DS q78 x0)), (1, .d (.fn (.func 190) [] [])), (4, .d (I 0)), (5, .d (I (cnt 0 n0))), (7, .d (I (x0.length : Int))), (8, .d (I (cnt 0 n0))), (16, .d (Bo (F190 a0)))] [] hC ⟨(row_cnt hx0 hl0), ⟨e190, (k190 a0 _ rfl)⟩, trivial⟩ ⟨(cnt_lt hi0 hl0), trivial⟩ (by kernel_rfl) ?_
   rcases boolC (F190 a0) with h1 | h1
   ·replace h := condT h1 h
    have hq := hret0 _ (hr0 _ (sI h).symm)
    replace hq := sI hq
    subst hq
    exact WI_ret (bs := [(F190 a0, true)]) mixed lv185s0 24 [true] [] [] [.tmp 4] 0 [] rfl hC trivial ⟨h1, trivial⟩ (by kernel_rfl)
   ·replace h := condF h1 h
    exact WI_end (bs := [(F190 a0, false)]) (φ := fun s' => w0b = .next s') (st' := (st185s0_0 x0 (n0 + 1))) (R' := (R185s0_0 (n0 + 1))) mixed lv185s0 25 [false] [] [] 0 [] () hC trivial ⟨h1, trivial⟩ (by kernel_rfl) (by kernel_rfl) (sI h).symm
 ·have h := hnext0 _ hs0
  replace h := sI h
  subst h
  exact WI_ret (bs := []) mixed lv185s0 23 [] [] [] [.tmp 4] 0 [] rfl hC trivial trivial (by kernel_rfl)
theorem e185s0 : Enters Tryz.prog 185 := Go.SL.enters_of Tryz.func185 (by kernel_rfl) (by kernel_rfl)
theorem k280 (x0 : Int) (x1 : Int) (r : Int) (h : F280 x0 x1 = r) : CallOk Tryz.prog 280 [.d (I x0), .d (I x1)] [] (.d (I r)) [] := by
 unfold F280 at h
 refine callOk_of 17 Tryz.func280 rfl rfl rfl fun C hC => ?_
 refine WI_stop (bs := []) mixed [0, 1, 4, 5, 13] 28 [] [.call 252 [.d (I x1)] [] (.d (I (F252 x1))) [] [], .call 252 [.d (I x0)] [] (.d (I (F252 x0))) [] [], .call 252 [.d (I (w64 ((F252 x1) - (F252 x0))))] [] (.d (I (F252 (w64 ((F252 x1) - (F252 x0)))))) [] []] [] 0 [] [(4, .d (I 0)), (5, .d (I (F252 (w64 ((F252 x1) - (F252 x0)))))), (13, .d (Bo (c280_0 x0 x1)))] [] hC ⟨⟨e252, (k252 x1 _ rfl)⟩, ⟨e252, (k252 x0 _ rfl)⟩, ⟨e252, (k252 (w64 ((F252 x1) - (F252 x0))) _ rfl)⟩, trivial⟩ trivial (by kernel_rfl) ?_
 rcases boolC ((c280_0 x0 x1)) with h1 | h1
 ·replace h := condT h1 h
  subst h
  exact WI_ret (bs := [((c280_0 x0 x1), true)]) mixed [0, 1, 4, 5, 13] 25 [true] [] [] [.tmp 4] 0 [] rfl hC trivial ⟨h1, trivial⟩ (by kernel_rfl)
 ·replace h := condF h1 h
  subst h
  exact WI_ret (bs := [((c280_0 x0 x1), false)]) mixed [0, 1, 4, 5, 13] 25 [false] [] [] [.tmp 4] 0 [] rfl hC trivial ⟨h1, trivial⟩ (by kernel_rfl)
theorem e280 : Enters Tryz.prog 280 := Go.SL.enters_of Tryz.func280 (by kernel_rfl) (by kernel_rfl)
def lv218s0 : List Nat := [0, 1, 2, 4, 6, 7, 8, 9, 10, 11, 17, 31]
def st218s0_0 (x0 : List api_Part) (z0 : Int × Int) : St := [(0, .d (DS q119 x0)), (2, .d (.fn (.func 219) [] [])), (4, .d (.o 0 0)), (6, .d (I 0)), (7, .d (Bo false)), (8, .d (I (x0.length : Int))), (9, .d (I z0.1)), (10, .d (I z0.2))]
def R218s0_0 (x1 : api_Part) (z0 : Int × Int) : List Res := [.box 119 (d119 x1)]
def sa218s0_0 (x0 : List api_Part) (z0 : Int × Int) : St := [(0, .d (DS q119 x0)), (2, .d (.fn (.func 219) [] [])), (4, .d (.o 0 0)), (6, .d (I 0)), (7, .d (Bo false)), (8, .d (I (x0.length : Int))), (9, .d (I z0.1))]
def Ra218s0_0 (x1 : api_Part) (z0 : Int × Int) : List Res := [.box 119 (d119 x1)]
theorem k218s0 (x0 : List api_Part) (x1 : api_Part) (r : Int × Bool) (h : F218s0 x0 x1 = some r) : CallOk Tryz.prog 218 [.d (DS q119 x0), .agg (d119 x1), .d (.fn (.func 219) [] [])] [] (.tup [.d (I r.1), .d (Bo r.2)]) [] := by
 unfold F218s0 at h
 refine callOk_of 49 Tryz.func218 rfl rfl rfl fun C hC => ?_
 refine WI_stop (bs := []) mixed lv218s0 28 [] [.len ((x0.map q119).length : Int) (x0.length : Int)] [] 0 [0] (st218s0_0 x0 (0, (x0.length : Int))) (R218s0_0 x1 (0, (x0.length : Int))) hC ⟨len_map _ _, trivial⟩ trivial (by kernel_rfl) ?_
 obtain ⟨w0, hm0, hret0, hnext0⟩ := andThen_inv h
 clear h
 refine WI_cut (by kernel_rfl) (fun s => w0 = .next s) (sa218s0_0 x0) (Ra218s0_0 x1) ?_ fun z0 hs0 => ?_
 ·refine WI_blk (by kernel_rfl) ?_
  refine WI_while (by kernel_rfl) (F218s0_l0 x0 x1) (st218s0_0 x0) (R218s0_0 x1) w0 1152921504606846976 (0, (x0.length : Int)) hm0 rfl rfl fun z0 w0b h hb0 hr0 => ?_
  unfold F218s0_l0 at h
  rcases boolC (decide (z0.1 < z0.2)) with h1 | h1
  ·replace h := condT h1 h
   obtain ⟨y2, h3, h⟩ := bindE h
   refine WI_stop (bs := [(decide (z0.1 < z0.2), true)]) mixed lv218s0 31 [true] [.row (x0.map q119) (w64 (shrI .u64 (IntKind.wrap .u64 (w64 (z0.1 + z0.2))) 1)) (q119 y2), .call 219 [.agg (d119 y2), .agg (d119 x1)] [] (.d (I (F219 y2 x1))) [] []] [] 0 [0] [(0, .d (DS q119 x0)), (2, .d (.fn (.func 219) [] [])), (4, .d (.o 0 0)), (6, .d (I 0)), (7, .d (Bo false)), (8, .d (I (x0.length : Int))), (9, .d (I z0.1)), (10, .d (I z0.2)), (11, .d (I (w64 (shrI .u64 (IntKind.wrap .u64 (w64 (z0.1 + z0.2))) 1)))), (31, .d (Bo (decide ((F219 y2 x1) < 0))))] [.box 119 (d119 x1)] hC ⟨row_get h3, ⟨e219, (k219 y2 x1 _ rfl)⟩, trivial⟩ ⟨h1, trivial⟩ (by kernel_rfl) ?_
   rcases boolC (decide ((F219 y2 x1) < 0)) with h4 | h4
   ·replace h := condT h4 h
    exact WI_end (bs := [(decide ((F219 y2 x1) < 0), true)]) (φ := fun s' => w0b = .next s') (st' := (st218s0_0 x0)) (R' := (R218s0_0 x1)) mixed lv218s0 24 [true] [] [] 0 [0] (w64 ((w64 (shrI .u64 (IntKind.wrap .u64 (w64 (z0.1 + z0.2))) 1)) + 1), z0.2) hC trivial ⟨h4, trivial⟩ (by kernel_rfl) (by kernel_rfl) (sI h).symm
   ·replace h := condF h4 h
    exact WI_end (bs := [(decide ((F219 y2 x1) < 0), false)]) (φ := fun s' => w0b = .next s') (st' := (st218s0_0 x0)) (R' := (R218s0_0 x1)) mixed lv218s0 24 [false] [] [] 0 [0] (z0.1, w64 (shrI .u64 (IntKind.wrap .u64 (w64 (z0.1 + z0.2))) 1)) hC trivial ⟨h4, trivial⟩ (by kernel_rfl) (by kernel_rfl) (sI h).symm
  ·replace h := condF h1 h
   exact WI_end (bs := [(decide (z0.1 < z0.2), false)]) (φ := fun s' => w0 = .next s') (st' := (sa218s0_0 x0)) (R' := (Ra218s0_0 x1)) mixed lv218s0 26 [false] [] [] 0 [0] (z0.1, z0.2) hC trivial ⟨h1, trivial⟩ (by kernel_rfl) (by kernel_rfl) (hb0 _ (sI h).symm)
 ·have h := hnext0 _ hs0
  obtain ⟨y5, h6, h⟩ := bindE h
  replace h := sI h
  subst h
  exact WI_ret (bs := []) mixed lv218s0 23 [] [.when [(decide (z0.1 < (x0.length : Int)), true)] (.row (x0.map q119) z0.1 (q119 y5)), .when [(decide (z0.1 < (x0.length : Int)), true)] (.call 219 [.agg (d119 y5), .agg (d119 x1)] [] (.d (I (F219 y5 x1))) [] [])] [] [.tmp 6, .tmp 7] 0 [] rfl hC ⟨fun hg => row_get (guardO_get h6 hg), fun hg => ⟨e219, (k219 y5 x1 _ rfl)⟩, trivial⟩ trivial (by kernel_rfl)
theorem e218s0 : Enters Tryz.prog 218 := Go.SL.enters_of Tryz.func218 (by kernel_rfl) (by kernel_rfl)
def lv222s5 : List Nat := [0, 1, 4, 5, 6, 8, 13, 14, 15, 16, 32, 38, 39, 40, 41]
def st222s5_0 (x0 : shed_relief) (n0 : Nat) (z0 : (List Int)) : St := [(0, .d (.o 0 0)), (1, .d (.fn (.func 258) [] [.o 6 0])), (4, .d (.os 7)), (13, .d (DS q66 x0.board.Breakers)), (14, .d (I (x0.board.Breakers.length : Int))), (15, .d (I (cnt 0 n0)))]
def R222s5_0 (x0 : shed_relief) (x1c0 : Int) (n0 : Nat) (z0 : (List Int)) : List Res := (.box 244 (b6 x0.board [.os 8, .os 9, .os 10, .os 11, .os 12]) :: .non :: .non :: .non :: .non :: .non :: .box 3 [I x1c0] :: .sl 3 1 (z0.map pI) :: p4 x0.power [.sl 42 3 (x0.acts.map q42)])
def sa222s5_0  (z0 : (List Int)) : St := [(0, .d (.o 0 0)), (4, .d (.os 7))]
def Ra222s5_0 (x0 : shed_relief) (x1c0 : Int) (z0 : (List Int)) : List Res := (.box 244 (b6 x0.board [.os 8, .os 9, .os 10, .os 11, .os 12]) :: .non :: .non :: .non :: .non :: .non :: .box 3 [I x1c0] :: .sl 3 1 (z0.map pI) :: p4 x0.power [.sl 42 3 (x0.acts.map q42)])
def st222s5_1 (z0 : (List Int)) (n1 : Nat) (z1 : Sg6) : St := [(0, .d (.o 0 0)), (38, .d (.os 7)), (39, .d (I (z0.length : Int))), (40, .d (I (cnt 0 n1)))]
def R222s5_1 (x1c0 : Int) (z0 : (List Int)) (n1 : Nat) (z1 : Sg6) : List Res := [.box 244 [I z1.1, DS q66 z1.2.1, DS q57 z1.2.2.1, DS q108 z1.2.2.2.1, I z1.2.2.2.2.1, I z1.2.2.2.2.2.1, .os 8, .os 9, .os 10, .os 11, .os 12], .non, .non, .non, .non, .non, .box 3 [I x1c0], .sl 3 1 (z0.map pI), .sl 4 1 (z1.2.2.2.2.2.2.1.map pB), .sl 59 4 (z1.2.2.2.2.2.2.2.1.map q59), .sl 3 1 (z1.2.2.2.2.2.2.2.2.1.map pI), .sl 119 2 (z1.2.2.2.2.2.2.2.2.2.1.map q119), .sl 42 3 (z1.2.2.2.2.2.2.2.2.2.2.map q42)]
def sa222s5_1  (z1 : Sg6) : St := []
def Ra222s5_1 (x1c0 : Int) (z1 : Sg6) : List Res := [.box 244 [I z1.1, DS q66 z1.2.1, DS q57 z1.2.2.1, DS q108 z1.2.2.2.1, I z1.2.2.2.2.1, I z1.2.2.2.2.2.1, .os 7, .os 8, .os 9, .os 10, .os 11], .non, .non, .non, .non, .non, .box 3 [I x1c0], .sl 4 1 (z1.2.2.2.2.2.2.1.map pB), .sl 59 4 (z1.2.2.2.2.2.2.2.1.map q59), .sl 3 1 (z1.2.2.2.2.2.2.2.2.1.map pI), .sl 119 2 (z1.2.2.2.2.2.2.2.2.2.1.map q119), .sl 42 3 (z1.2.2.2.2.2.2.2.2.2.2.map q42)]
theorem k222s5 (x0 : shed_relief) (x1c0 : Int) (r : shed_relief × Int) (h : F222s5 x0 x1c0 = some r) : CallOk Tryz.prog 222 [.d (.o 0 0), .d (.fn (.func 258) [] [.o 6 0])] (.box 244 (b6 x0.board [.os 1, .os 2, .os 3, .os 4, .os 5]) :: p4 x0.power [.sl 42 3 (x0.acts.map q42), .box 3 [I x1c0]]) (.tup []) (.box 244 (b6 r.1.board [.os 7, .os 8, .os 9, .os 10, .os 11]) :: .non :: .non :: .non :: .non :: .non :: .box 3 [I r.2] :: p4 r.1.power [.sl 42 3 (r.1.acts.map q42)]) := by
 unfold F222s5 at h
 refine callOk_of 48 Tryz.func222 rfl rfl rfl fun C hC => ?_
 refine WI_stop (bs := []) mixed lv222s5 26 [] [.len ((x0.board.Breakers.map q66).length : Int) (x0.board.Breakers.length : Int)] [.own 4 3 1, .mv 1, .mv 2, .mv 3, .mv 4, .mv 5] 7 n13_ (st222s5_0 x0 0 ([] : List Int)) (R222s5_0 x0 x1c0 0 ([] : List Int)) hC ⟨len_map _ _, trivial⟩ trivial (by kernel_rfl) ?_
 obtain ⟨w0, hm0, hret0, hnext0⟩ := andThen_inv h
 clear h
 refine WI_cut (by kernel_rfl) (fun s => w0 = .next s) (sa222s5_0) (Ra222s5_0 x0 x1c0) ?_ fun z0 hs0 => ?_
 ·refine WI_blk (by kernel_rfl) ?_
  refine WI_len 13 rfl fun hl0 => ?_
  refine WI_foldI (by kernel_rfl) (F222s5_l0 x0 x1c0) (st222s5_0 x0) (R222s5_0 x0 x1c0) w0 x0.board.Breakers ([] : List Int) hm0 rfl rfl (fun z0 hn0 => ?_) fun n0 a0 z0 w0b hi0 hx0 h hb0 hr0 => ?_
  ·clear hm0
   exact WI_end (bs := [(decide ((cnt 0 x0.board.Breakers.length) < (x0.board.Breakers.length : Int)), false)]) (φ := fun s' => w0 = .next s') (st' := (sa222s5_0)) (R' := (Ra222s5_0 x0 x1c0)) mixed lv222s5 26 [false] [] [] 7 n13_ z0 hC trivial ⟨(cnt_end hl0), trivial⟩ (by kernel_rfl) (by kernel_rfl) hn0
  ·unfold F222s5_l0 at h
   obtain ⟨y1, h2, h⟩ := bindE h
   refine WI_stop (bs := [(decide ((cnt 0 n0) < (x0.board.Breakers.length : Int)), true)]) mixed lv222s5 32 [true] [.row (x0.board.Breakers.map q66) (cnt 0 n0) (q66 a0), .row (x0.power.Closed.map pB) (cnt 0 n0) (pB y1), .row (x0.power.Closed.map pB) (((Int.toNat (cnt 0 n0)) : Nat) : Int) (pB y1), .when [(y1, true)] (.callB 258 [.agg (d66 a0), .d (.ip [.v (.int .i64 x1c0)])] (.d (Bo (F258s0 a0 x1c0))) [[]] 0 [])] [] 7 n13_ [(0, .d (.o 0 0)), (1, .d (.fn (.func 258) [] [.o 6 0])), (4, .d (.os 7)), (5, .d (I (cnt 0 n0))), (13, .d (DS q66 x0.board.Breakers)), (14, .d (I (x0.board.Breakers.length : Int))), (15, .d (I (cnt 0 n0))), (32, .d (Bo (y1 && (F258s0 a0 x1c0))))] (.box 244 (b6 x0.board [.os 8, .os 9, .os 10, .os 11, .os 12]) :: .non :: .non :: .non :: .non :: .non :: .box 3 [I x1c0] :: .sl 3 1 (z0.map pI) :: p4 x0.power [.sl 42 3 (x0.acts.map q42)]) hC ⟨(row_cnt hx0 hl0), row_get h2, row_getN h2, fun hg => lend0_get ⟨e258s0, (k258s0 a0 x1c0 _ rfl)⟩, trivial⟩ ⟨(cnt_lt hi0 hl0), trivial⟩ (by kernel_rfl) ?_
   rcases boolC ((y1 && (F258s0 a0 x1c0))) with h3 | h3
   ·replace h := condT h3 h
    obtain ⟨y4, h5, h⟩ := bindE h
    exact WI_end (bs := [((y1 && (F258s0 a0 x1c0)), true)]) (φ := fun s' => w0b = .next s') (st' := (st222s5_0 x0 (n0 + 1))) (R' := (R222s5_0 x0 x1c0 (n0 + 1))) mixed lv222s5 25 [true] [.app (z0.map pI) ([cnt 0 n0].map pI) 1 (((z0.map pI).length + ([cnt 0 n0].map pI).length) * (8 + 1)) (y4.map pI)] [] 7 [0, 1, 2, 3, 4, 5, 6, 13, 8, 9, 10, 11, 12] y4 hC ⟨app_get pI 1 (fun _ => rfl) h5, trivial⟩ ⟨h3, trivial⟩ (by kernel_rfl) (by kernel_rfl) (sI h).symm
   ·replace h := condF h3 h
    exact WI_end (bs := [((y1 && (F258s0 a0 x1c0)), false)]) (φ := fun s' => w0b = .next s') (st' := (st222s5_0 x0 (n0 + 1))) (R' := (R222s5_0 x0 x1c0 (n0 + 1))) mixed lv222s5 25 [false] [] [] 7 n13_ z0 hC trivial ⟨h3, trivial⟩ (by kernel_rfl) (by kernel_rfl) (sI h).symm
 ·have h := hnext0 _ hs0
  refine WI_stop (bs := []) mixed lv222s5 23 [] [.len ((z0.map pI).length : Int) (z0.length : Int)] [] 7 n13_ (st222s5_1 z0 0 (t6 x0.board (t4 x0.power x0.acts))) (R222s5_1 x1c0 z0 0 (t6 x0.board (t4 x0.power x0.acts))) hC ⟨len_map _ _, trivial⟩ trivial (by kernel_rfl) ?_
  obtain ⟨w1, hm1, hret1, hnext1⟩ := andThen_inv h
  clear h
  refine WI_cut (by kernel_rfl) (fun s => w1 = .next s) (sa222s5_1) (Ra222s5_1 x1c0) ?_ fun z1 hs1 => ?_
  ·refine WI_blk (by kernel_rfl) ?_
   refine WI_lenO 38 7 rfl rfl fun hl1 => ?_
   refine WI_foldI (by kernel_rfl) F222s5_l1 (st222s5_1 z0) (R222s5_1 x1c0 z0) w1 z0 (t6 x0.board (t4 x0.power x0.acts)) hm1 rfl rfl (fun z1 hn1 => ?_) fun n1 a1 z1 w1b hi1 hx1 h hb1 hr1 => ?_
   ·clear hm1
    exact WI_end (bs := [(decide ((cnt 0 z0.length) < (z0.length : Int)), false)]) (φ := fun s' => w1 = .next s') (st' := (sa222s5_1)) (R' := (Ra222s5_1 x1c0)) mixed lv222s5 26 [false] [] [] 7 [0, 1, 2, 3, 4, 5, 6, 8, 9, 10, 11, 12] (z1.1, z1.2.1, z1.2.2.1, z1.2.2.2.1, z1.2.2.2.2.1, z1.2.2.2.2.2.1, z1.2.2.2.2.2.2.1, z1.2.2.2.2.2.2.2.1, z1.2.2.2.2.2.2.2.2.1, z1.2.2.2.2.2.2.2.2.2.1, z1.2.2.2.2.2.2.2.2.2.2) hC trivial ⟨(cnt_end hl1), trivial⟩ (by kernel_rfl) (by kernel_rfl) hn1
   ·unfold F222s5_l1 at h
    obtain ⟨y6, h7, h⟩ := bindE h
    exact WI_end (bs := [(decide ((cnt 0 n1) < (z0.length : Int)), true)]) (φ := fun s' => w1b = .next s') (st' := (st222s5_1 z0 (n1 + 1))) (R' := (R222s5_1 x1c0 z0 (n1 + 1))) mixed lv222s5 33 [true] [.row (z0.map pI) (cnt 0 n1) (pI a1), .row (z0.map pI) (((Int.toNat (cnt 0 n1)) : Nat) : Int) (pI a1), .call 255 [.d (.o 0 0), .d (I a1)] [.box 244 [I z1.1, DS q66 z1.2.1, DS q57 z1.2.2.1, DS q108 z1.2.2.2.1, I z1.2.2.2.2.1, I z1.2.2.2.2.2.1, .os 1, .os 2, .os 3, .os 4, .os 5], .sl 4 1 (z1.2.2.2.2.2.2.1.map pB), .sl 59 4 (z1.2.2.2.2.2.2.2.1.map q59), .sl 3 1 (z1.2.2.2.2.2.2.2.2.1.map pI), .sl 119 2 (z1.2.2.2.2.2.2.2.2.2.1.map q119), .sl 42 3 (z1.2.2.2.2.2.2.2.2.2.2.map q42)] (.tup []) (.box 244 (b6 y6.board [.os 1, .os 2, .os 3, .os 4, .os 6]) :: p4 y6.power [.non, .sl 42 3 (y6.acts.map q42)]) [0, 8, 9, 10, 11, 12]] [] 7 [0, 1, 2, 3, 4, 5, 6, 7, 8, 9, 10, 11, 13] (t6 y6.board (t4 y6.power y6.acts)) hC ⟨row_get (get_cnt hx1 hl1), row_getN (get_cnt hx1 hl1), ⟨e255s1, (k255s1 (⟨(⟨z1.1, z1.2.1, z1.2.2.1, z1.2.2.2.1, z1.2.2.2.2.1, z1.2.2.2.2.2.1⟩ : api_Board), (⟨z1.2.2.2.2.2.2.1, z1.2.2.2.2.2.2.2.1, z1.2.2.2.2.2.2.2.2.1, z1.2.2.2.2.2.2.2.2.2.1⟩ : api_Power), z1.2.2.2.2.2.2.2.2.2.2⟩ : shed_relief) a1 _ h7)⟩, trivial⟩ ⟨(cnt_lt hi1 hl1), trivial⟩ (by kernel_rfl) (by kernel_rfl) (sI h).symm
  ·have h := hnext1 _ hs1
   replace h := sI h
   subst h
   exact WI_endF (bs := []) mixed lv222s5 20 [] [] [] [] 7 n12_ rfl hC trivial trivial (by kernel_rfl) (by kernel_rfl)
theorem e222s5 : Enters Tryz.prog 222 := Go.SL.enters_of Tryz.func222 (by kernel_rfl) (by kernel_rfl)
theorem k82 (x0 : api_Power) (x1 : api_Power) (r : Bool) (h : F82 x0 x1 = some r) : CallOk Tryz.prog 82 [.agg (d35 x0), .agg (d35 x1)] [] (.d (Bo r)) [] := by
 unfold F82 at h
 refine callOk_of 31 Tryz.func82 rfl rfl rfl fun C hC => ?_
 obtain ⟨y1, h2, h⟩ := bindE h
 obtain ⟨y3, h4, h⟩ := bindE h
 obtain ⟨y5, h6, h⟩ := bindE h
 obtain ⟨y7, h8, h⟩ := bindE h
 replace h := sI h
 subst h
 exact WI_ret (bs := []) mixed n5_ 25 [] [.call 159 [.d (DS pB x0.Closed), .d (DS pB x1.Closed)] [] (.d (Bo y1)) [] [], .when [(y1, true)] (.call 160 [.d (DS q59 x0.Sources), .d (DS q59 x1.Sources)] [] (.d (Bo y3)) [] []), .when [((y1 && y3), true)] (.call 161 [.d (DS pI x0.Limits), .d (DS pI x1.Limits)] [] (.d (Bo y5)) [] []), .when [(((y1 && y3) && y5), true)] (.call 162 [.d (DS q119 x0.Broken), .d (DS q119 x1.Broken)] [] (.d (Bo y7)) [] [])] [] [.tmp 4] 0 [] rfl hC ⟨⟨e159, (k159 x0.Closed x1.Closed _ h2)⟩, fun hg => ⟨e160, (k160 x0.Sources x1.Sources _ (guardO_get h4 hg))⟩, fun hg => ⟨e161, (k161 x0.Limits x1.Limits _ (guardO_get h6 hg))⟩, fun hg => ⟨e162, (k162 x0.Broken x1.Broken _ (guardO_get h8 hg))⟩, trivial⟩ trivial (by kernel_rfl)
theorem e82 : Enters Tryz.prog 82 := Go.SL.enters_of Tryz.func82 (by kernel_rfl) (by kernel_rfl)
theorem k84 (x0 : List Bool) (x1 : Bool) (r : Bool) (h : F84 x0 x1 = some r) : CallOk Tryz.prog 84 [.d (DS pB x0), .d (Bo x1)] [] (.d (Bo r)) [] := by
 unfold F84 at h
 refine callOk_of 9 Tryz.func84 rfl rfl rfl fun C hC => ?_
 obtain ⟨y1, h2, h⟩ := bindE h
 replace h := sI h
 subst h
 exact WI_ret (bs := []) mixed [0, 1, 4] 25 [] [.call 163 [.d (DS pB x0), .d (Bo x1)] [] (.d (I y1)) [] []] [] [.tmp 4] 0 [] rfl hC ⟨⟨e163, (k163 x0 x1 _ h2)⟩, trivial⟩ trivial (by kernel_rfl)
theorem e84 : Enters Tryz.prog 84 := Go.SL.enters_of Tryz.func84 (by kernel_rfl) (by kernel_rfl)
theorem k61 (x0 : dynposmake_Src) (x1 : Int) (x2 : Int) (r : Int × dynposmake_Src) (h : F61 x0 x1 x2 = some r) : CallOk Tryz.prog 61 [.d (.o 0 0), .d (I x1), .d (I x2)] [.box 121 (d121 x0)] (.d (I r.1)) [.box 121 (d121 r.2)] := by
 unfold F61 at h
 refine callOk_of 15 Tryz.func61 rfl rfl rfl fun C hC => ?_
 obtain ⟨y1, h2, h⟩ := bindE h
 replace h := sI h
 subst h
 exact WI_ret (bs := []) mixed [0, 1, 2, 6] 25 [] [.call 63 [.d (.o 0 0), .d (I (w64 ((w64 (x2 - x1)) + 1)))] [.box 121 (d121 x0)] (.d (I y1.1)) [.box 121 (d121 y1.2)] [0]] [] [.tmp 6] 1 [0] rfl hC ⟨⟨e63, (k63 x0 (w64 ((w64 (x2 - x1)) + 1)) _ h2)⟩, trivial⟩ trivial (by kernel_rfl)
theorem e61 : Enters Tryz.prog 61 := Go.SL.enters_of Tryz.func61 (by kernel_rfl) (by kernel_rfl)
theorem k62 (x0 : dynposmake_Src) (x1 : List Int) (r : Int × dynposmake_Src) (h : F62 x0 x1 = some r) : CallOk Tryz.prog 62 [.d (.o 0 0), .d (DS pI x1)] [.box 121 (d121 x0)] (.d (I r.1)) [.box 121 (d121 r.2)] := by
 unfold F62 at h
 refine callOk_of 12 Tryz.func62 rfl rfl rfl fun C hC => ?_
 obtain ⟨y1, h2, h⟩ := bindE h
 obtain ⟨y3, h4, h⟩ := bindE h
 replace h := sI h
 subst h
 exact WI_ret (bs := []) mixed [0, 1, 4] 25 [] [.len ((x1.map pI).length : Int) (x1.length : Int), .call 63 [.d (.o 0 0), .d (I (x1.length : Int))] [.box 121 (d121 x0)] (.d (I y1.1)) [.box 121 (d121 y1.2)] [0], .row (x1.map pI) y1.1 (pI y3)] [] [.tmp 4] 1 [0] rfl hC ⟨len_map _ _, ⟨e63, (k63 x0 (x1.length : Int) _ h2)⟩, row_get h4, trivial⟩ trivial (by kernel_rfl)
theorem e62 : Enters Tryz.prog 62 := Go.SL.enters_of Tryz.func62 (by kernel_rfl) (by kernel_rfl)
theorem k232s0 (x0 : List (List Int)) (r : Bool) (h : F232s0 x0 = some r) : CallOk Tryz.prog 232 [.d (DS (pL pI) x0), .d (.fn (.func 233) [] [])] [] (.d (Bo r)) [] := by
 unfold F232s0 at h
 refine callOk_of 9 Tryz.func232 rfl rfl rfl fun C hC => ?_
 obtain ⟨y1, h2, h⟩ := bindE h
 replace h := sI h
 subst h
 exact WI_ret (bs := []) mixed [0, 1, 4] 25 [] [.call 260 [.d (DS (pL pI) x0), .d (.fn (.func 233) [] [])] [] (.d (I y1)) [] []] [] [.tmp 4] 0 [] rfl hC ⟨⟨e260s0, (k260s0 x0 _ h2)⟩, trivial⟩ trivial (by kernel_rfl)
theorem e232s0 : Enters Tryz.prog 232 := Go.SL.enters_of Tryz.func232 (by kernel_rfl) (by kernel_rfl)
def lv128 : List Nat := [0, 1, 2, 4, 5, 6, 7, 8, 9, 10, 49]
def st128_0 (x1 : List api_Part) (n0 : Nat) (z0 : Unit) : St := [(1, .d (DS q119 x1)), (2, .d (.o 0 0)), (4, .d (Bo false)), (7, .d (DS q119 x1)), (8, .d (I (x1.length : Int))), (9, .d (I (cnt 0 n0)))]
def R128_0 (x0 : api_Board) (n0 : Nat) (z0 : Unit) : List Res := [.box 29 (d29 x0)]
def sa128_0 (x1 : List api_Part) (z0 : Unit) : St := [(1, .d (DS q119 x1)), (4, .d (Bo false))]
def Ra128_0  (z0 : Unit) : List Res := []
theorem k128 (x0 : api_Board) (x1 : List api_Part) (r : Bool) (h : F128 x0 x1 = some r) : CallOk Tryz.prog 128 [.agg (d29 x0), .d (DS q119 x1)] [] (.d (Bo r)) [] := by
 unfold F128 at h
 refine callOk_of 54 Tryz.func128 rfl rfl rfl fun C hC => ?_
 refine WI_stop (bs := []) mixed lv128 26 [] [.len ((x1.map q119).length : Int) (x1.length : Int)] [] 0 [0] (st128_0 x1 0 ()) (R128_0 x0 0 ()) hC ⟨len_map _ _, trivial⟩ trivial (by kernel_rfl) ?_
 obtain ⟨w0, hm0, hret0, hnext0⟩ := andThen_inv h
 clear h
 refine WI_cut (by kernel_rfl) (fun s => w0 = .next s) (sa128_0 x1) (Ra128_0) ?_ fun z0 hs0 => ?_
 ·refine WI_blk (by kernel_rfl) ?_
  refine WI_len 7 rfl fun hl0 => ?_
  refine WI_foldI (by kernel_rfl) (F128_l0 x0 x1) (st128_0 x1) (R128_0 x0) w0 x1 () hm0 rfl rfl (fun z0 hn0 => ?_) fun n0 a0 z0 w0b hi0 hx0 h hb0 hr0 => ?_
  ·clear hm0
   exact WI_end (bs := [(decide ((cnt 0 x1.length) < (x1.length : Int)), false)]) (φ := fun s' => w0 = .next s') (st' := (sa128_0 x1)) (R' := (Ra128_0)) mixed lv128 26 [false] [] [] 0 [] () hC trivial ⟨(cnt_end hl0), trivial⟩ (by kernel_rfl) (by kernel_rfl) hn0
  ·unfold F128_l0 at h
   obtain ⟨y1, h2, h⟩ := bindE h
   obtain ⟨y3, h4, h⟩ := bindE h
   obtain ⟨y5, h6, h⟩ := bindE h
   refine WI_stop (bs := [(decide ((cnt 0 n0) < (x1.length : Int)), true)]) mixed lv128 32 [true] [.row (x1.map q119) (cnt 0 n0) (q119 a0), .call 208 [.agg (d29 x0), .d (I a0.Kind)] [] (.d (I (F208 x0 a0.Kind))) [] [], .call 132 [.d (I a0.Number), .d (I 0), .d (I (w64 ((F208 x0 a0.Kind) - 1)))] [] (.d (Bo (F132 a0.Number 0 (w64 ((F208 x0 a0.Kind) - 1))))) [] [], .when [(!(F132 a0.Number 0 (w64 ((F208 x0 a0.Kind) - 1))), false), (decide ((cnt 0 n0) > 0), true)] (.row (x1.map q119) (w64 ((cnt 0 n0) - 1)) (q119 y1)), .when [(!(F132 a0.Number 0 (w64 ((F208 x0 a0.Kind) - 1))), false), (decide ((cnt 0 n0) > 0), true)] (.call 210 [.d (I y1.Kind), .d (I a0.Kind)] [] (.d (I (F210 y1.Kind a0.Kind))) [] []), .when [(!(F132 a0.Number 0 (w64 ((F208 x0 a0.Kind) - 1))), false), (decide ((cnt 0 n0) > 0), true)] (.row (x1.map q119) (w64 ((cnt 0 n0) - 1)) (q119 y3)), .when [(!(F132 a0.Number 0 (w64 ((F208 x0 a0.Kind) - 1))), false), (decide ((cnt 0 n0) > 0), true)] (.call 210 [.d (I y3.Number), .d (I a0.Number)] [] (.d (I (F210 y3.Number a0.Number))) [] []), .when [(!(F132 a0.Number 0 (w64 ((F208 x0 a0.Kind) - 1))), false), (decide ((cnt 0 n0) > 0), true)] (.call 209 [.d (DS pI [F210 y1.Kind a0.Kind, F210 y3.Number a0.Number])] [] (.d (I y5)) [] [])] [] 0 [0] [(1, .d (DS q119 x1)), (2, .d (.o 0 0)), (4, .d (Bo false)), (7, .d (DS q119 x1)), (8, .d (I (x1.length : Int))), (9, .d (I (cnt 0 n0))), (49, .d (Bo (c128_1 x0 n0 a0 y5)))] [.box 29 (d29 x0)] hC ⟨(row_cnt hx0 hl0), ⟨e208, (k208 x0 a0.Kind _ rfl)⟩, ⟨e132, (k132 a0.Number 0 (w64 ((F208 x0 a0.Kind) - 1)) _ rfl)⟩, fun hg => row_get (guardO_get h2 hg), fun hg => ⟨e210, (k210 y1.Kind a0.Kind _ rfl)⟩, fun hg => row_get (guardO_get h4 hg), fun hg => ⟨e210, (k210 y3.Number a0.Number _ rfl)⟩, fun hg => ⟨e209, (k209 [F210 y1.Kind a0.Kind, F210 y3.Number a0.Number] _ (guardO_get h6 hg))⟩, trivial⟩ ⟨(cnt_lt hi0 hl0), trivial⟩ (by kernel_rfl) ?_
   rcases boolC ((c128_1 x0 n0 a0 y5)) with h7 | h7
   ·replace h := condT h7 h
    have hq := hret0 _ (hr0 _ (sI h).symm)
    replace hq := sI hq
    subst hq
    exact WI_ret (bs := [((c128_1 x0 n0 a0 y5), true)]) mixed lv128 24 [true] [] [] [.tmp 4] 0 [] rfl hC trivial ⟨h7, trivial⟩ (by kernel_rfl)
   ·replace h := condF h7 h
    exact WI_end (bs := [((c128_1 x0 n0 a0 y5), false)]) (φ := fun s' => w0b = .next s') (st' := (st128_0 x1 (n0 + 1))) (R' := (R128_0 x0 (n0 + 1))) mixed lv128 25 [false] [] [] 0 [0] () hC trivial ⟨h7, trivial⟩ (by kernel_rfl) (by kernel_rfl) (sI h).symm
 ·have h := hnext0 _ hs0
  replace h := sI h
  subst h
  exact WI_ret (bs := []) mixed lv128 23 [] [.len ((x1.map q119).length : Int) (x1.length : Int)] [] [.tmp 4] 0 [] rfl hC ⟨len_map _ _, trivial⟩ trivial (by kernel_rfl)
theorem e128 : Enters Tryz.prog 128 := Go.SL.enters_of Tryz.func128 (by kernel_rfl) (by kernel_rfl)
theorem k130 (x0 : api_Running) (r : Bool) (h : F130 x0 = r) : CallOk Tryz.prog 130 [.agg (d59 x0)] [] (.d (Bo r)) [] := by
 unfold F130 at h
 refine callOk_of 6 Tryz.func130 rfl rfl rfl fun C hC => ?_
 subst h
 exact WI_ret (bs := []) mixed n3_ 25 [] [.call 131 [.agg (d59 x0)] [] (.d (Bo (F131 x0))) [] []] [] [.tmp 2] 0 [] rfl hC ⟨⟨e131, (k131 x0 _ rfl)⟩, trivial⟩ trivial (by kernel_rfl)
theorem e130 : Enters Tryz.prog 130 := Go.SL.enters_of Tryz.func130 (by kernel_rfl) (by kernel_rfl)
theorem k67 (x0 : api_Board) (x1 : Int) (r : Int) (h : F67 x0 x1 = some r) : CallOk Tryz.prog 67 [.agg (d29 x0), .d (I x1)] [] (.d (I r)) [] := by
 unfold F67 at h
 refine callOk_of 9 Tryz.func67 rfl rfl rfl fun C hC => ?_
 obtain ⟨y1, h2, h⟩ := bindE h
 replace h := sI h
 subst h
 exact WI_ret (bs := []) mixed n5_ 25 [] [.call 135 [.d (DS q66 x0.Breakers), .d (.fn (.func 136) [] [.o 0 0])] [.box 3 [I x1]] (.d (I y1.1)) [.box 3 [I y1.2]] [1]] [] [.tmp 4] 0 [] rfl hC ⟨⟨e135s1, (k135s1 x0.Breakers x1 _ h2)⟩, trivial⟩ trivial (by kernel_rfl)
theorem e67 : Enters Tryz.prog 67 := Go.SL.enters_of Tryz.func67 (by kernel_rfl) (by kernel_rfl)
theorem k134 (x0 : api_Power) (x1 : Int) (x2 : Int) (r : Bool) (h : F134 x0 x1 x2 = some r) : CallOk Tryz.prog 134 [.agg (d35 x0), .d (I x1), .d (I x2)] [] (.d (Bo r)) [] := by
 unfold F134 at h
 refine callOk_of 13 Tryz.func134 rfl rfl rfl fun C hC => ?_
 obtain ⟨y1, h2, h⟩ := bindE h
 replace h := sI h
 subst h
 exact WI_ret (bs := []) mixed [0, 1, 2, 3, 6] 25 [] [.call 212 [.d (DS q119 x0.Broken), .agg [I x1, I x2]] [] (.d (Bo y1)) [] []] [] [.tmp 6] 0 [] rfl hC ⟨⟨e212, (k212 x0.Broken (⟨x1, x2⟩ : api_Part) _ h2)⟩, trivial⟩ trivial (by kernel_rfl)
theorem e134 : Enters Tryz.prog 134 := Go.SL.enters_of Tryz.func134 (by kernel_rfl) (by kernel_rfl)
def lv189s1 : List Nat := [0, 1, 4, 5, 6, 7, 12, 19, 29]
def st189s1_0  (z0 : Int × Int × (List api_Island)) : St := [(0, .d (.os 0)), (1, .d (.fn (.func 190) [] [])), (4, .d (DS q78 [])), (5, .d (I z0.1)), (6, .d (I z0.2.1))]
def R189s1_0  (z0 : Int × Int × (List api_Island)) : List Res := [.sl 78 3 (z0.2.2.map q78)]
def sa189s1_0  (z0 : Int × Int × (List api_Island)) : St := [(0, .d (.os 0)), (4, .d (DS q78 [])), (5, .d (I z0.1))]
def Ra189s1_0  (z0 : Int × Int × (List api_Island)) : List Res := [.sl 78 3 (z0.2.2.map q78)]
theorem k189s1 (x0 : List api_Island) (r : (List api_Island)) (h : F189s1 x0 = some r) : CallOk Tryz.prog 189 [.d (.os 0), .d (.fn (.func 190) [] [])] [.sl 78 3 (x0.map q78)] (.d (.os 1)) [.non, .sl 78 3 (r.map q78)] := by
 unfold F189s1 at h
 refine callOk_of 42 Tryz.func189 rfl rfl rfl fun C hC => ?_
 obtain ⟨y1, h2, h⟩ := bindE h
 rcases boolC ((y1 == (-1))) with h3 | h3
 ·replace h := condT h3 h
  replace h := sI h
  subst h
  exact WI_ret (bs := [((y1 == (-1)), true)]) mixed lv189s1 31 [true] [.callB 185 [.d (DS q78 x0), .d (.fn (.func 190) [] [])] (.d (I y1)) [[]] 0 []] [.mv 0] [.tmp 4] 1 [0, 1] rfl hC ⟨lend0_get ⟨e185s0, (k185s0 x0 _ h2)⟩, trivial⟩ ⟨h3, trivial⟩ (by kernel_rfl)
 ·replace h := condF h3 h
  refine WI_stop (bs := [((y1 == (-1)), false)]) mixed lv189s1 33 [false] [.callB 185 [.d (DS q78 x0), .d (.fn (.func 190) [] [])] (.d (I y1)) [[]] 0 []] [] 1 [0] (st189s1_0 (y1, w64 (y1 + 1), x0)) (R189s1_0 (y1, w64 (y1 + 1), x0)) hC ⟨lend0_get ⟨e185s0, (k185s0 x0 _ h2)⟩, trivial⟩ ⟨h3, trivial⟩ (by kernel_rfl) ?_
  obtain ⟨w0, hm0, hret0, hnext0⟩ := andThen_inv h
  clear h
  refine WI_cut (by kernel_rfl) (fun s => w0 = .next s) (sa189s1_0) (Ra189s1_0) ?_ fun z0 hs0 => ?_
  ·refine WI_blk (by kernel_rfl) ?_
   refine WI_while (by kernel_rfl) F189s1_l0 (st189s1_0) (R189s1_0) w0 1152921504606846976 (y1, w64 (y1 + 1), x0) hm0 rfl rfl fun z0 w0b h hb0 hr0 => ?_
   unfold F189s1_l0 at h
   rcases boolC ((c189s1_2 z0)) with h4 | h4
   ·replace h := condT h4 h
    obtain ⟨y5, h6, h⟩ := bindE h
    refine WI_stop (bs := [((c189s1_2 z0), true)]) mixed lv189s1 32 [true] [.len ((z0.2.2.map q78).length : Int) (z0.2.2.length : Int), .row (z0.2.2.map q78) z0.2.1 (q78 y5), .row (z0.2.2.map q78) (((Int.toNat z0.2.1) : Nat) : Int) (q78 y5), .call 190 [.agg (d78 y5)] [] (.d (Bo (F190 y5))) [] []] [] 1 [0, 1] [(0, .d (.os 0)), (1, .d (.fn (.func 190) [] [])), (4, .d (DS q78 [])), (5, .d (I z0.1)), (6, .d (I z0.2.1)), (7, .d (.o 1 0)), (29, .d (Bo (!(F190 y5))))] [.sl 78 3 (z0.2.2.map q78), .box 78 (d78 y5)] hC ⟨len_map _ _, row_get h6, row_getN h6, ⟨e190, (k190 y5 _ rfl)⟩, trivial⟩ ⟨h4, trivial⟩ (by kernel_rfl) ?_
    rcases boolC (!(F190 y5)) with h7 | h7
    ·replace h := condT h7 h
     obtain ⟨y8, h9, h⟩ := bindE h
     obtain ⟨y10, h11, h⟩ := bindE h
     exact WI_end (bs := [(!(F190 y5), true)]) (φ := fun s' => w0b = .next s') (st' := (st189s1_0)) (R' := (R189s1_0)) mixed lv189s1 27 [true] [.row (z0.2.2.map q78) z0.1 (q78 y8), .upd (z0.2.2.map q78) (Int.toNat z0.1) (q78 y8) (q78 y5) (y10.map q78)] [] 1 [0] (w64 (z0.1 + 1), w64 (z0.2.1 + 1), y10) hC ⟨row_get h9, upd_get h9 h11, trivial⟩ ⟨h7, trivial⟩ (by kernel_rfl) (by kernel_rfl) (sI h).symm
    ·replace h := condF h7 h
     exact WI_end (bs := [(!(F190 y5), false)]) (φ := fun s' => w0b = .next s') (st' := (st189s1_0)) (R' := (R189s1_0)) mixed lv189s1 25 [false] [] [] 1 [0] (z0.1, w64 (z0.2.1 + 1), z0.2.2) hC trivial ⟨h7, trivial⟩ (by kernel_rfl) (by kernel_rfl) (sI h).symm
   ·replace h := condF h4 h
    exact WI_end (bs := [((c189s1_2 z0), false)]) (φ := fun s' => w0 = .next s') (st' := (sa189s1_0)) (R' := (Ra189s1_0)) mixed lv189s1 26 [false] [.len ((z0.2.2.map q78).length : Int) (z0.2.2.length : Int)] [] 1 [0] (z0.1, z0.2.1, z0.2.2) hC ⟨len_map _ _, trivial⟩ ⟨h4, trivial⟩ (by kernel_rfl) (by kernel_rfl) (hb0 _ (sI h).symm)
  ·have h := hnext0 _ hs0
   obtain ⟨u13, h12, h⟩ := bindE h
   obtain ⟨u15, h14, h⟩ := bindE h
   replace h := sI h
   subst h
   (rw [List.map_take]; exact WI_ret (bs := []) mixed lv189s1 25 [] [.bnd (z0.2.2.map q78).length z0.1 (((z0.2.2.map q78).length : Nat) : Int) (z0.2.2.length : Int), .eqr ((z0.2.2.map q78).take (Int.toNat z0.1) ++ (List.replicate ((Int.toNat (z0.2.2.length : Int)) - (Int.toNat z0.1)) (q78 (⟨([] : List Int), ([] : List Int), ([] : List Int)⟩ : api_Island)) ++ (z0.2.2.map q78).drop ((Int.toNat z0.1) + ((Int.toNat (z0.2.2.length : Int)) - (Int.toNat z0.1))))) ((clrI z0.2.2 (Int.toNat z0.1) ((Int.toNat (z0.2.2.length : Int)) - (Int.toNat z0.1)) (⟨([] : List Int), ([] : List Int), ([] : List Int)⟩ : api_Island)).map q78), .bnd ((clrI z0.2.2 (Int.toNat z0.1) ((Int.toNat (z0.2.2.length : Int)) - (Int.toNat z0.1)) (⟨([] : List Int), ([] : List Int), ([] : List Int)⟩ : api_Island)).map q78).length 0 z0.1 z0.1] [.trunc 4] [.tmp 4] 1 [0, 1] rfl hC ⟨bnd_get (by simp) (by simp) h12, clr_get q78 rfl, bnd_get (by simp) rfl h14, trivial⟩ trivial (by kernel_rfl))
theorem e189s1 : Enters Tryz.prog 189 := Go.SL.enters_of Tryz.func189 (by kernel_rfl) (by kernel_rfl)
theorem k179 (x0 : Int) (x1 : Int) (r : Int × Int) (h : F179 x0 x1 = r) : CallOk Tryz.prog 179 [.d (.p (.v (.int .u64 x0))), .d (.p (.v (.int .u64 x1)))] [] (.tup [.d (.p (.v (.int .u64 r.1))), .d (.p (.v (.int .u64 r.2)))]) [] := by
 unfold F179 at h
 refine callOk_of 30 Tryz.func179 rfl rfl rfl fun C hC => ?_
 subst h
 exact WI_ret (bs := [(false, false)]) mixed [0, 1, 4, 5, 6, 7, 8, 9] 30 [false] [.call 235 [.d (.p (.v (.int .u64 x0))), .d (.p (.v (.int .u64 x1)))] [] (.tup [.d (.p (.v (.int .u64 ((F235 x0 x1).1)))), .d (.p (.v (.int .u64 ((F235 x0 x1).2))))]) [] []] [] [.tmp 4, .tmp 5] 0 [] rfl hC ⟨⟨e235, (k235 x0 x1 _ rfl)⟩, trivial⟩ ⟨rfl, trivial⟩ (by kernel_rfl)
theorem e179 : Enters Tryz.prog 179 := Go.SL.enters_of Tryz.func179 (by kernel_rfl) (by kernel_rfl)
theorem k274 (x0 : api_Board) (x1 : api_Running) (x2 : api_Running) (r : Bool) (h : F274 x0 x1 x2 = r) : CallOk Tryz.prog 274 [.agg (d29 x0), .agg (d59 x1), .agg (d59 x2)] [] (.d (Bo r)) [] := by
 unfold F274 at h
 refine callOk_of 52 Tryz.func274 rfl rfl rfl fun C hC => ?_
 rcases boolC ((c274_0 x1 x2)) with h1 | h1
 ·replace h := condT h1 h
  subst h
  exact WI_ret (bs := [((c274_0 x1 x2), true)]) mixed [0, 1, 2, 3, 4, 5, 6, 7, 8, 22] 29 [true] [] [] [.tmp 6] 0 [] rfl hC trivial ⟨h1, trivial⟩ (by kernel_rfl)
 ·replace h := condF h1 h
  subst h
  exact WI_ret (bs := [((c274_0 x1 x2), false)]) mixed [0, 1, 2, 3, 4, 5, 6, 7, 8, 22] 34 [false] [.call 280 [.d (I x1.Phase), .d (I x2.Phase)] [] (.d (I (F280 x1.Phase x2.Phase))) [] []] [] [.tmp 6] 0 [] rfl hC ⟨⟨e280, (k280 x1.Phase x2.Phase _ rfl)⟩, trivial⟩ ⟨h1, trivial⟩ (by kernel_rfl)
theorem e274 : Enters Tryz.prog 274 := Go.SL.enters_of Tryz.func274 (by kernel_rfl) (by kernel_rfl)
def lv149s1 : List Nat := [0, 1, 2, 4, 6, 7, 8, 32, 36, 47, 64, 74]
def sa149s1_0 (x2 : Bool) (z0 : (List api_Part)) : St := [(0, .d (.o 0 0)), (2, .d (Bo x2)), (4, .d (.o 5 0)), (6, .d (I 0))]
def Ra149s1_0 (x0 : restore_worker) (x1 : api_Part) (z0 : (List api_Part)) : List Res := [.box 130 (b6 x0.board [.os 6, .os 7, .os 8, .os 9, I x0.time]), .non, .non, .non, .non, .box 119 (d119 x1), .sl 4 1 (x0.power.Closed.map pB), .sl 59 4 (x0.power.Sources.map q59), .sl 3 1 (x0.power.Limits.map pI), .sl 119 2 (z0.map q119)]
theorem k149s1 (x0 : restore_worker) (x1 : api_Part) (x2 : Bool) (r : Int × restore_worker) (h : F149s1 x0 x1 x2 = some r) : CallOk Tryz.prog 149 [.d (.o 0 0), .agg (d119 x1), .d (Bo x2)] (.box 130 (b6 x0.board [.os 1, .os 2, .os 3, .os 4, I x0.time]) :: p4 x0.power []) (.d (I r.1)) (.box 130 (b6 r.2.board [.os 5, .os 6, .os 7, .os 8, I r.2.time]) :: .non :: .non :: .non :: .non :: p4 r.2.power []) := by
 unfold F149s1 at h
 refine callOk_of 84 Tryz.func149 rfl rfl rfl fun C hC => ?_
 obtain ⟨y1, h2, h⟩ := bindE h
 rcases boolC ((y1.2 == x2)) with h3 | h3
 ·replace h := condT h3 h
  replace h := sI h
  subst h
  exact WI_ret (bs := [((y1.2 == x2), true)]) mixed lv149s1 32 [true] [.callB 218 [.d (DS q119 x0.power.Broken), .agg (d119 x1), .d (.fn (.func 219) [] [])] (.tup [.d (I y1.1), .d (Bo y1.2)]) [[]] 0 []] [.mv 1, .mv 2, .mv 3, .mv 4] [.tmp 6] 5 [0, 1, 2, 3, 4, 6, 7, 8, 9] rfl hC ⟨lend0_get ⟨e218s0, (k218s0 x0.power.Broken x1 _ h2)⟩, trivial⟩ ⟨h3, trivial⟩ (by kernel_rfl)
 ·replace h := condF h3 h
  refine WI_stop (bs := [((y1.2 == x2), false)]) mixed lv149s1 32 [false] [.callB 218 [.d (DS q119 x0.power.Broken), .agg (d119 x1), .d (.fn (.func 219) [] [])] (.tup [.d (I y1.1), .d (Bo y1.2)]) [[]] 0 [], .when [(x2, true)] (.len ((x0.power.Broken.map q119).length : Int) (x0.power.Broken.length : Int))] [.mv 1, .mv 2, .mv 3, .mv 4] 5 n10_ [(0, .d (.o 0 0)), (2, .d (Bo x2)), (4, .d (.o 5 0)), (6, .d (I 0)), (7, .d (I y1.1)), (36, .d (Bo (c149s1_0 x0 x2)))] (.box 130 (b6 x0.board [.os 6, .os 7, .os 8, .os 9, I x0.time]) :: .non :: .non :: .non :: .non :: .box 119 (d119 x1) :: p4 x0.power []) hC ⟨lend0_get ⟨e218s0, (k218s0 x0.power.Broken x1 _ h2)⟩, fun hg => len_map _ _, trivial⟩ ⟨h3, trivial⟩ (by kernel_rfl) ?_
  rcases boolC ((c149s1_0 x0 x2)) with h4 | h4
  ·replace h := condT h4 h
   replace h := sI h
   subst h
   exact WI_ret (bs := [((c149s1_0 x0 x2), true)]) mixed lv149s1 24 [true] [] [] [.tmp 6] 5 [0, 1, 2, 3, 4, 6, 7, 8, 9] rfl hC trivial ⟨h4, trivial⟩ (by kernel_rfl)
  ·replace h := condF h4 h
   refine WI_stop (bs := [((c149s1_0 x0 x2), false)]) mixed lv149s1 24 [false] [] [] 5 n10_ [(0, .d (.o 0 0)), (2, .d (Bo x2)), (4, .d (.o 5 0)), (6, .d (I 0)), (7, .d (I y1.1)), (47, .d (Bo x2))] (.box 130 (b6 x0.board [.os 6, .os 7, .os 8, .os 9, I x0.time]) :: .non :: .non :: .non :: .non :: .box 119 (d119 x1) :: p4 x0.power []) hC trivial ⟨h4, trivial⟩ (by kernel_rfl) ?_
   obtain ⟨w0, h, hret0, hnext0⟩ := andThen_inv h
   refine WI_cut (by kernel_rfl) (fun s => w0 = .next s) (sa149s1_0 x2) (Ra149s1_0 x0 x1) ?_ fun z0 hs0 => ?_
   ·unfold F149s1_m0 at h
    rcases boolC (x2) with h5 | h5
    ·replace h := condT h5 h
     obtain ⟨y6, h7, h⟩ := bindE h
     exact WI_end (bs := [(x2, true)]) (φ := fun s' => w0 = .next s') (st' := (sa149s1_0 x2)) (R' := (Ra149s1_0 x0 x1)) mixed lv149s1 23 [true] [.call 220 [.d (.os 0), .d (I y1.1), .d (DS q119 [x1])] [.sl 119 2 (x0.power.Broken.map q119)] (.d (.os 1)) [.non, .sl 119 2 (y6.map q119)] [9]] [] 5 [0, 1, 2, 3, 4, 5, 6, 7, 8, 10] y6 hC ⟨⟨e220s0, (k220s0 x0.power.Broken y1.1 [x1] _ h7)⟩, trivial⟩ ⟨h5, trivial⟩ (by kernel_rfl) (by kernel_rfl) (sI h).symm
    ·replace h := condF h5 h
     obtain ⟨y8, h9, h⟩ := bindE h
     exact WI_end (bs := [(x2, false)]) (φ := fun s' => w0 = .next s') (st' := (sa149s1_0 x2)) (R' := (Ra149s1_0 x0 x1)) mixed lv149s1 23 [false] [.call 221 [.d (.os 0), .d (I y1.1), .d (I (w64 (y1.1 + 1)))] [.sl 119 2 (x0.power.Broken.map q119)] (.d (.os 1)) [.non, .sl 119 2 (y8.map q119)] [9]] [] 5 [0, 1, 2, 3, 4, 5, 6, 7, 8, 10] y8 hC ⟨⟨e221s0, (k221s0 x0.power.Broken y1.1 (w64 (y1.1 + 1)) _ h9)⟩, trivial⟩ ⟨h5, trivial⟩ (by kernel_rfl) (by kernel_rfl) (sI h).symm
   ·clear h; have h := hnext0 _ hs0
    rcases boolC ((x1.Kind == 1)) with h10 | h10
    ·replace h := condT h10 h
     obtain ⟨y11, h12, h⟩ := bindE h
     obtain ⟨y13, h14, h⟩ := bindE h
     refine WI_stop (bs := [((x1.Kind == 1), true)]) mixed lv149s1 30 [true] [.row (x0.power.Sources.map q59) x1.Number (q59 y11), .upd (x0.power.Sources.map q59) (Int.toNat x1.Number) (q59 y11) (q59 (⟨0, y11.Since, y11.Frequency, y11.Phase⟩ : api_Running)) (y13.map q59)] [] 5 n10_ [(0, .d (.o 0 0)), (4, .d (.o 5 0)), (6, .d (I 0)), (74, .d (Bo x2))] [.box 130 (b6 x0.board [.os 6, .os 7, .os 8, .os 9, I x0.time]), .non, .non, .non, .non, .box 119 (d119 x1), .sl 4 1 (x0.power.Closed.map pB), .sl 59 4 (y13.map q59), .sl 3 1 (x0.power.Limits.map pI), .sl 119 2 (z0.map q119)] hC ⟨row_get h12, upd_get h12 h14, trivial⟩ ⟨h10, trivial⟩ (by kernel_rfl) ?_
     rcases boolC (x2) with h15 | h15
     ·replace h := condT h15 h
      obtain ⟨y16, h17, h⟩ := bindE h
      obtain ⟨y18, h19, h⟩ := bindE h
      replace h := sI h
      subst h
      exact WI_ret (bs := [(x2, true)]) mixed lv149s1 25 [true] [.row (y13.map q59) x1.Number (q59 y16), .upd (y13.map q59) (Int.toNat x1.Number) (q59 y16) (q59 (⟨3, y16.Since, y16.Frequency, y16.Phase⟩ : api_Running)) (y18.map q59)] [] [.tmp 6] 5 [0, 1, 2, 3, 4, 6, 7, 8, 9] rfl hC ⟨row_get h17, upd_get h17 h19, trivial⟩ ⟨h15, trivial⟩ (by kernel_rfl)
     ·replace h := condF h15 h
      replace h := sI h
      subst h
      exact WI_ret (bs := [(x2, false)]) mixed lv149s1 25 [false] [] [] [.tmp 6] 5 [0, 1, 2, 3, 4, 6, 7, 8, 9] rfl hC trivial ⟨h15, trivial⟩ (by kernel_rfl)
    ·replace h := condF h10 h
     replace h := sI h
     subst h
     exact WI_ret (bs := [((x1.Kind == 1), false)]) mixed lv149s1 29 [false] [] [] [.tmp 6] 5 [0, 1, 2, 3, 4, 6, 7, 8, 9] rfl hC trivial ⟨h10, trivial⟩ (by kernel_rfl)
theorem e149s1 : Enters Tryz.prog 149 := Go.SL.enters_of Tryz.func149 (by kernel_rfl) (by kernel_rfl)
theorem k231s0 (x0 : Int) (x1 : Int) (x2 : api_Board) (r : Int) (h : F231s0 x0 x1 x2 = some r) : CallOk Tryz.prog 231 [.d (I x0), .d (I x1), .d (.ip [.v (.int .i64 x2.Buses), .s (x2.Breakers.map q66), .s (x2.Sources.map q57), .s (x2.Consumers.map q108), .v (.int .i64 x2.Phase), .v (.int .i64 x2.Frequency)])] [] (.d (I r)) [] := by
 unfold F231s0 at h
 refine callOk_of 19 Tryz.func231 rfl rfl rfl fun C hC => ?_
 obtain ⟨y1, h2, h⟩ := bindE h
 obtain ⟨y3, h4, h⟩ := bindE h
 replace h := sI h
 subst h
 exact WI_ret (bs := []) mixed [0, 1, 2, 5] 25 [] [.row (x2.Consumers.map q108) x0 (q108 y1), .row (x2.Consumers.map q108) x1 (q108 y3), .call 210 [.d (I y1.Preference), .d (I y3.Preference)] [] (.d (I (F210 y1.Preference y3.Preference))) [] []] [] [.tmp 5] 0 [] rfl hC ⟨row_get h2, row_get h4, ⟨e210, (k210 y1.Preference y3.Preference _ rfl)⟩, trivial⟩ trivial (by kernel_rfl)
theorem e231s0 : Enters Tryz.prog 231 := Go.SL.enters_of Tryz.func231 (by kernel_rfl) (by kernel_rfl)
theorem k226s0 (x0 : Int) (x1 : api_Island) (r : Bool) (h : F226s0 x0 x1 = some r) : CallOk Tryz.prog 226 [.d (I x0), .d (.ip [.s (x1.Buses.map pI), .s (x1.Sources.map pI), .s (x1.Consumers.map pI)])] [] (.d (Bo r)) [] := by
 unfold F226s0 at h
 refine callOk_of 9 Tryz.func226 rfl rfl rfl fun C hC => ?_
 obtain ⟨y1, h2, h⟩ := bindE h
 replace h := sI h
 subst h
 exact WI_ret (bs := []) mixed [0, 1, 3] 25 [] [.call 96 [.d (DS pI x1.Consumers), .d (I x0)] [] (.d (Bo y1)) [] []] [] [.tmp 3] 0 [] rfl hC ⟨⟨e96, (k96 x1.Consumers x0 _ h2)⟩, trivial⟩ trivial (by kernel_rfl)
theorem e226s0 : Enters Tryz.prog 226 := Go.SL.enters_of Tryz.func226 (by kernel_rfl) (by kernel_rfl)
def lv165 : List Nat := [0, 1, 4, 5, 6, 7, 8, 10, 26, 37]
def sa165_0 (x0 : List api_Act) (x1 : Int) (z0 : Unit) : St := [(0, .d (DS q42 x0)), (1, .d (I x1)), (4, .d (DS q42 []))]
def Ra165_0  (z0 : Unit) : List Res := []
def sa165_1 (x0 : List api_Act) (x1 : Int) (z1 : Unit) : St := [(0, .d (DS q42 x0)), (4, .d (DS q42 [])), (6, .d (.p (.v (.int .u64 ((F179 (IntKind.wrap .u64 (x0.length : Int)) (IntKind.wrap .u64 x1)).2)))))]
def Ra165_1  (z1 : Unit) : List Res := []
def st165_2  (z2 : Int × (List api_Act)) : St := [(4, .d (DS q42 [])), (7, .d (.os 0)), (8, .d (I z2.1))]
def R165_2  (z2 : Int × (List api_Act)) : List Res := [.sl 42 3 (z2.2.map q42)]
def sa165_2  (z2 : Int × (List api_Act)) : St := [(4, .d (DS q42 [])), (7, .d (.os 0))]
def Ra165_2  (z2 : Int × (List api_Act)) : List Res := [.sl 42 3 (z2.2.map q42)]
theorem k165 (x0 : List api_Act) (x1 : Int) (r : (List api_Act)) (h : F165 x0 x1 = some r) : CallOk Tryz.prog 165 [.d (DS q42 x0), .d (I x1)] [] (.d (.os 0)) [.sl 42 3 (r.map q42)] := by
 unfold F165 at h
 refine callOk_of 48 Tryz.func165 rfl rfl rfl fun C hC => ?_
 refine WI_stop (bs := []) mixed lv165 26 [] [] [] 0 [] [(0, .d (DS q42 x0)), (1, .d (I x1)), (4, .d (DS q42 [])), (10, .d (Bo (decide (x1 < 0))))] [] hC trivial trivial (by kernel_rfl) ?_
 obtain ⟨w0, h, hret0, hnext0⟩ := andThen_inv h
 refine WI_cut (by kernel_rfl) (fun s => w0 = .next s) (sa165_0 x0 x1) (Ra165_0) ?_ fun z0 hs0 => ?_
 ·unfold F165_m0 at h
  rcases boolC (decide (x1 < 0)) with h1 | h1
  ·replace h := condT h1 h
   cases h
  ·replace h := condF h1 h
   exact WI_end (bs := [(decide (x1 < 0), false)]) (φ := fun s' => w0 = .next s') (st' := (sa165_0 x0 x1)) (R' := (Ra165_0)) mixed lv165 23 [false] [] [] 0 [] () hC trivial ⟨h1, trivial⟩ (by kernel_rfl) (by kernel_rfl) (sI h).symm
 ·clear h; have h := hnext0 _ hs0
  refine WI_stop (bs := []) mixed lv165 26 [] [.len ((x0.map q42).length : Int) (x0.length : Int), .call 179 [.d (.p (.v (.int .u64 (IntKind.wrap .u64 (x0.length : Int))))), .d (.p (.v (.int .u64 (IntKind.wrap .u64 x1))))] [] (.tup [.d (.p (.v (.int .u64 ((F179 (IntKind.wrap .u64 (x0.length : Int)) (IntKind.wrap .u64 x1)).1)))), .d (.p (.v (.int .u64 ((F179 (IntKind.wrap .u64 (x0.length : Int)) (IntKind.wrap .u64 x1)).2))))]) [] []] [] 0 [] [(0, .d (DS q42 x0)), (4, .d (DS q42 [])), (6, .d (.p (.v (.int .u64 ((F179 (IntKind.wrap .u64 (x0.length : Int)) (IntKind.wrap .u64 x1)).2))))), (26, .d (Bo ((decide (((F179 (IntKind.wrap .u64 (x0.length : Int)) (IntKind.wrap .u64 x1)).1) > 0)) || (decide (((F179 (IntKind.wrap .u64 (x0.length : Int)) (IntKind.wrap .u64 x1)).2) > 9223372036854775807)))))] [] hC ⟨len_map _ _, ⟨e179, (k179 (IntKind.wrap .u64 (x0.length : Int)) (IntKind.wrap .u64 x1) _ rfl)⟩, trivial⟩ trivial (by kernel_rfl) ?_
  obtain ⟨w1, h, hret1, hnext1⟩ := andThen_inv h
  refine WI_cut (by kernel_rfl) (fun s => w1 = .next s) (sa165_1 x0 x1) (Ra165_1) ?_ fun z1 hs1 => ?_
  ·unfold F165_m1 at h
   rcases boolC ((c165_0 x0 x1)) with h2 | h2
   ·replace h := condT h2 h
    cases h
   ·replace h := condF h2 h
    exact WI_end (bs := [((c165_0 x0 x1), false)]) (φ := fun s' => w1 = .next s') (st' := (sa165_1 x0 x1)) (R' := (Ra165_1)) mixed lv165 23 [false] [] [] 0 [] () hC trivial ⟨h2, trivial⟩ (by kernel_rfl) (by kernel_rfl) (sI h).symm
  ·clear h; have h := hnext1 _ hs1
   obtain ⟨y3, h4, h⟩ := bindE h
   refine WI_stop (bs := []) mixed lv165 26 [] [.room ((w64 ((F179 (IntKind.wrap .u64 (x0.length : Int)) (IntKind.wrap .u64 x1)).2)) * (24 + 1)) (List.replicate (Int.toNat (w64 ((F179 (IntKind.wrap .u64 (x0.length : Int)) (IntKind.wrap .u64 x1)).2))) (q42 (⟨0, 0, 0⟩ : api_Act))) (y3.map q42), .cpy (x0.map q42) 3 ((y3.map q42).length) (Nat.min x0.length y3.length) ((y3.map q42).take 0 ++ ((x0.map q42).take (Nat.min x0.length y3.length) ++ (y3.map q42).drop (0 + (Nat.min x0.length y3.length)))) ((cpyI y3 0 y3.length x0).map q42)] [] 0 [0] (st165_2 (((Nat.min x0.length y3.length) : Int), (cpyI y3 0 y3.length x0))) (R165_2 (((Nat.min x0.length y3.length) : Int), (cpyI y3 0 y3.length x0))) hC ⟨make_get h4, cpy_get q42 3 (fun _ => rfl) rfl (by simp), trivial⟩ trivial (by kernel_rfl) ?_
   obtain ⟨w2, hm2, hret2, hnext2⟩ := andThen_inv h
   clear h
   refine WI_cut (by kernel_rfl) (fun s => w2 = .next s) (sa165_2) (Ra165_2) ?_ fun z2 hs2 => ?_
   ·refine WI_blk (by kernel_rfl) ?_
    refine WI_while (by kernel_rfl) F165_l2 (st165_2) (R165_2) w2 1152921504606846976 (((Nat.min x0.length y3.length) : Int), (cpyI y3 0 y3.length x0)) hm2 rfl rfl fun z2 w2b h hb2 hr2 => ?_
    unfold F165_l2 at h
    rcases boolC ((c165_3 z2)) with h5 | h5
    ·replace h := condT h5 h
     obtain ⟨u7, h6, h⟩ := bindE h
     obtain ⟨u9, h8, h⟩ := bindE h
     exact WI_end (bs := [((c165_3 z2), true)]) (φ := fun s' => w2b = .next s') (st' := (st165_2)) (R' := (R165_2)) mixed lv165 29 [true] [.len ((z2.2.map q42).length : Int) (z2.2.length : Int), .bnd (z2.2.map q42).length z2.1 (((z2.2.map q42).length : Nat) : Int) (z2.2.length : Int), .bnd (z2.2.map q42).length 0 z2.1 z2.1, .cpy (((z2.2.map q42).drop 0).take ((Int.toNat z2.1) - 0)) 3 ((Int.toNat (z2.2.length : Int)) - (Int.toNat z2.1)) (Nat.min ((z2.2.drop 0).take ((Int.toNat z2.1) - 0)).length ((Int.toNat (z2.2.length : Int)) - (Int.toNat z2.1))) ((z2.2.map q42).take (Int.toNat z2.1) ++ ((((z2.2.map q42).drop 0).take ((Int.toNat z2.1) - 0)).take (Nat.min ((z2.2.drop 0).take ((Int.toNat z2.1) - 0)).length ((Int.toNat (z2.2.length : Int)) - (Int.toNat z2.1))) ++ (z2.2.map q42).drop ((Int.toNat z2.1) + (Nat.min ((z2.2.drop 0).take ((Int.toNat z2.1) - 0)).length ((Int.toNat (z2.2.length : Int)) - (Int.toNat z2.1)))))) ((cpyI z2.2 (Int.toNat z2.1) ((Int.toNat (z2.2.length : Int)) - (Int.toNat z2.1)) ((z2.2.drop 0).take ((Int.toNat z2.1) - 0))).map q42)] [] 0 [0] (w64 (z2.1 + ((Nat.min ((z2.2.drop 0).take ((Int.toNat z2.1) - 0)).length ((Int.toNat (z2.2.length : Int)) - (Int.toNat z2.1))) : Int)), (cpyI z2.2 (Int.toNat z2.1) ((Int.toNat (z2.2.length : Int)) - (Int.toNat z2.1)) ((z2.2.drop 0).take ((Int.toNat z2.1) - 0)))) hC ⟨len_map _ _, bnd_get (by simp) (by simp) h6, bnd_get (by simp) rfl h8, cpy_get q42 3 (fun _ => rfl) (part_map _ _ _ _) rfl, trivial⟩ ⟨h5, trivial⟩ (by kernel_rfl) (by kernel_rfl) (sI h).symm
    ·replace h := condF h5 h
     exact WI_end (bs := [((c165_3 z2), false)]) (φ := fun s' => w2 = .next s') (st' := (sa165_2)) (R' := (Ra165_2)) mixed lv165 26 [false] [.len ((z2.2.map q42).length : Int) (z2.2.length : Int)] [] 0 [0] (z2.1, z2.2) hC ⟨len_map _ _, trivial⟩ ⟨h5, trivial⟩ (by kernel_rfl) (by kernel_rfl) (hb2 _ (sI h).symm)
   ·have h := hnext2 _ hs2
    replace h := sI h
    subst h
    exact WI_ret (bs := []) mixed lv165 23 [] [] [] [.tmp 4] 0 [0] rfl hC trivial trivial (by kernel_rfl)
theorem e165 : Enters Tryz.prog 165 := Go.SL.enters_of Tryz.func165 (by kernel_rfl) (by kernel_rfl)
def lv16 : List Nat := [0, 2, 3, 4, 5, 6, 7, 8, 9, 10, 11, 24, 29, 47, 60, 96, 121, 155]
def st16_0  (z0 : Sg1) : St := [(0, .d (.o 0 0)), (2, .d (.o 1 0)), (3, .d (.o 2 0)), (4, .d (I z0.1))]
def R16_0 (y1 : Int × dynposmake_Src) (y3 : Int × dynposmake_Src) (y5 : Int × dynposmake_Src) (z0 : Sg1) : List Res := [.box 121 [DS pI z0.2.1, I z0.2.2.1], .box 29 [I 0, .os 3, .os 4, .os 5, I 0, I 0], .box 29 [I y1.1, .os 6, .os 7, .os 8, I y3.1, I y5.1], .sl 66 3 (([] : List api_Breaker).map q66), .sl 57 3 (([] : List api_Source).map q57), .sl 108 5 (([] : List api_Consumer).map q108), .sl 66 3 (z0.2.2.2.map q66), .sl 57 3 (([] : List api_Source).map q57), .sl 108 5 (([] : List api_Consumer).map q108)]
def sa16_0  (z0 : Sg1) : St := [(0, .d (.o 0 0)), (2, .d (.o 1 0)), (3, .d (.o 2 0))]
def Ra16_0 (y1 : Int × dynposmake_Src) (y3 : Int × dynposmake_Src) (y5 : Int × dynposmake_Src) (z0 : Sg1) : List Res := [.box 121 [DS pI z0.2.1, I z0.2.2.1], .box 29 [I 0, .os 3, .os 4, .os 5, I 0, I 0], .box 29 [I y1.1, .os 6, .os 7, .os 8, I y3.1, I y5.1], .sl 66 3 (([] : List api_Breaker).map q66), .sl 57 3 (([] : List api_Source).map q57), .sl 108 5 (([] : List api_Consumer).map q108), .sl 66 3 (z0.2.2.2.map q66), .sl 57 3 (([] : List api_Source).map q57), .sl 108 5 (([] : List api_Consumer).map q108)]
def sa16_1  (z1 : (List api_Breaker)) : St := [(0, .d (.o 0 0)), (2, .d (.o 1 0)), (3, .d (.o 2 0))]
def Ra16_1 (y1 : Int × dynposmake_Src) (y3 : Int × dynposmake_Src) (y5 : Int × dynposmake_Src) (y15 : Int × dynposmake_Src) (z1 : (List api_Breaker)) : List Res := [.box 121 (d121 y15.2), .box 29 [I 0, .os 3, .os 4, .os 5, I 0, I 0], .box 29 [I y1.1, .os 6, .os 7, .os 8, I y3.1, I y5.1], .sl 66 3 (([] : List api_Breaker).map q66), .sl 57 3 (([] : List api_Source).map q57), .sl 108 5 (([] : List api_Consumer).map q108), .sl 66 3 (z1.map q66), .sl 57 3 (([] : List api_Source).map q57), .sl 108 5 (([] : List api_Consumer).map q108)]
def st16_2  (z2 : Sg3) : St := [(0, .d (.o 0 0)), (2, .d (.o 1 0)), (3, .d (.o 2 0)), (5, .d (I z2.1))]
def R16_2 (y1 : Int × dynposmake_Src) (y3 : Int × dynposmake_Src) (y5 : Int × dynposmake_Src) (z2 : Sg3) : List Res := [.box 121 [DS pI z2.2.1, I z2.2.2.1], .box 29 [I 0, .os 3, .os 4, .os 5, I 0, I 0], .box 29 [I y1.1, .os 6, .os 7, .os 8, I y3.1, I y5.1], .sl 66 3 (([] : List api_Breaker).map q66), .sl 57 3 (([] : List api_Source).map q57), .sl 108 5 (([] : List api_Consumer).map q108), .sl 66 3 (z2.2.2.2.1.map q66), .sl 57 3 (z2.2.2.2.2.map q57), .sl 108 5 (([] : List api_Consumer).map q108)]
def sa16_2  (z2 : Sg3) : St := [(0, .d (.o 0 0)), (2, .d (.o 1 0)), (3, .d (.o 2 0))]
def Ra16_2 (y1 : Int × dynposmake_Src) (y3 : Int × dynposmake_Src) (y5 : Int × dynposmake_Src) (z2 : Sg3) : List Res := [.box 121 [DS pI z2.2.1, I z2.2.2.1], .box 29 [I 0, .os 3, .os 4, .os 5, I 0, I 0], .box 29 [I y1.1, .os 6, .os 7, .os 8, I y3.1, I y5.1], .sl 66 3 (([] : List api_Breaker).map q66), .sl 57 3 (([] : List api_Source).map q57), .sl 108 5 (([] : List api_Consumer).map q108), .sl 66 3 (z2.2.2.2.1.map q66), .sl 57 3 (z2.2.2.2.2.map q57), .sl 108 5 (([] : List api_Consumer).map q108)]
def st16_3  (z3 : Sg2) : St := [(0, .d (.o 0 0)), (2, .d (.o 1 0)), (3, .d (.o 2 0)), (7, .d (I z3.1))]
def R16_3 (y1 : Int × dynposmake_Src) (y3 : Int × dynposmake_Src) (y5 : Int × dynposmake_Src) (z2 : Sg3) (z3 : Sg2) : List Res := [.box 121 [DS pI z3.2.1, I z3.2.2.1], .box 29 [I 0, .os 3, .os 4, .os 5, I 0, I 0], .box 29 [I y1.1, .os 6, .os 7, .os 8, I y3.1, I y5.1], .sl 66 3 (([] : List api_Breaker).map q66), .sl 57 3 (([] : List api_Source).map q57), .sl 108 5 (([] : List api_Consumer).map q108), .sl 66 3 (z3.2.2.2.1.map q66), .sl 57 3 (z2.2.2.2.2.map q57), .sl 108 5 (z3.2.2.2.2.map q108)]
def sa16_3  (z3 : Sg2) : St := [(2, .d (.o 1 0)), (3, .d (.o 2 0))]
def Ra16_3 (y1 : Int × dynposmake_Src) (y3 : Int × dynposmake_Src) (y5 : Int × dynposmake_Src) (z2 : Sg3) (z3 : Sg2) : List Res := [.box 121 [DS pI z3.2.1, I z3.2.2.1], .box 29 [I 0, .os 3, .os 4, .os 5, I 0, I 0], .box 29 [I y1.1, .os 6, .os 7, .os 8, I y3.1, I y5.1], .sl 66 3 (([] : List api_Breaker).map q66), .sl 57 3 (([] : List api_Source).map q57), .sl 108 5 (([] : List api_Consumer).map q108), .sl 66 3 (z3.2.2.2.1.map q66), .sl 57 3 (z2.2.2.2.2.map q57), .sl 108 5 (z3.2.2.2.2.map q108)]
def sa16_4 (z3 : Sg2) (z4 : (List api_Breaker)) : St := [(0, .d (.o 0 0)), (2, .d (.o 1 0)), (3, .d (.o 2 0)), (7, .d (I z3.1)), (8, .d (I (z3.2.2.2.2.length : Int)))]
def Ra16_4 (y1 : Int × dynposmake_Src) (y3 : Int × dynposmake_Src) (y5 : Int × dynposmake_Src) (z2 : Sg3) (z3 : Sg2) (y42 : Int × dynposmake_Src) (z4 : (List api_Breaker)) : List Res := [.box 121 (d121 y42.2), .box 29 [I 0, .os 3, .os 4, .os 5, I 0, I 0], .box 29 [I y1.1, .os 8, .os 6, .os 7, I y3.1, I y5.1], .sl 66 3 (([] : List api_Breaker).map q66), .sl 57 3 (([] : List api_Source).map q57), .sl 108 5 (([] : List api_Consumer).map q108), .sl 57 3 (z2.2.2.2.2.map q57), .sl 108 5 (z3.2.2.2.2.map q108), .sl 66 3 (z4.map q66)]
set_option maxHeartbeats 4000000 in
theorem k16 (x0 : dynposmake_Src) (r : api_Board × dynposmake_Src) (h : F16 x0 = some r) : CallOk Tryz.prog 16 [.d (.o 0 0)] [.box 121 (d121 x0)] (.agg [I r.1.Buses, .os 1, .os 2, .os 3, I r.1.Phase, I r.1.Frequency]) (.box 121 (d121 r.2) :: s3 r.1 []) := by
 unfold F16 at h
 refine callOk_of 168 Tryz.func16 rfl rfl rfl fun C hC => ?_
 obtain ⟨y1, h2, h⟩ := bindE h
 obtain ⟨y3, h4, h⟩ := bindE h
 obtain ⟨y5, h6, h⟩ := bindE h
 refine WI_stop (bs := []) mixed lv16 28 [] [.call 61 [.d (.o 0 0), .d (I 1), .d (I 4)] [.box 121 (d121 x0)] (.d (I y1.1)) [.box 121 (d121 y1.2)] [0], .call 62 [.d (.o 0 0), .d (DS pI [0, 50, 200, 1800])] [.box 121 (d121 y1.2)] (.d (I y3.1)) [.box 121 (d121 y3.2)] [0], .call 62 [.d (.o 0 0), .d (DS pI [0, 10, 50])] [.box 121 (d121 y3.2)] (.d (I y5.1)) [.box 121 (d121 y5.2)] [0]] [.ownb 1 1 66 3, .ownb 1 2 57 3, .ownb 1 3 108 5, .ownb 2 1 66 3, .ownb 2 2 57 3, .ownb 2 3 108 5] 1 n9_ (st16_0 (1, y5.2.L, y5.2.At, ([] : List api_Breaker))) (R16_0 y1 y3 y5 (1, y5.2.L, y5.2.At, ([] : List api_Breaker))) hC ⟨⟨e61, (k61 x0 1 4 _ h2)⟩, ⟨e62, (k62 y1.2 [0, 50, 200, 1800] _ h4)⟩, ⟨e62, (k62 y3.2 [0, 10, 50] _ h6)⟩, trivial⟩ trivial (by kernel_rfl) ?_
 obtain ⟨w0, hm0, hret0, hnext0⟩ := andThen_inv h
 clear h
 refine WI_cut (by kernel_rfl) (fun s => w0 = .next s) (sa16_0) (Ra16_0 y1 y3 y5) ?_ fun z0 hs0 => ?_
 ·refine WI_blk (by kernel_rfl) ?_
  refine WI_while (by kernel_rfl) (F16_l0 y1) (st16_0) (R16_0 y1 y3 y5) w0 1152921504606846976 (1, y5.2.L, y5.2.At, ([] : List api_Breaker)) hm0 rfl rfl fun z0 w0b h hb0 hr0 => ?_
  unfold F16_l0 at h
  rcases boolC (decide (z0.1 < y1.1)) with h7 | h7
  ·replace h := condT h7 h
   obtain ⟨y8, h9, h⟩ := bindE h
   rcases boolC (decide (y8.1 < 5)) with h10 | h10
   ·replace h := condT h10 h
    obtain ⟨y11, h12, h⟩ := bindE h
    obtain ⟨y13, h14, h⟩ := bindE h
    exact WI_end (bs := [(decide (z0.1 < y1.1), true), (decide (y8.1 < 5), true)]) (φ := fun s' => w0b = .next s') (st' := (st16_0)) (R' := (R16_0 y1 y3 y5)) mixed lv16 34 [true, true] [.call 63 [.d (.o 0 0), .d (I 6)] [.box 121 [DS pI z0.2.1, I z0.2.2.1]] (.d (I y8.1)) [.box 121 (d121 y8.2)] [0], .call 63 [.d (.o 0 0), .d (I z0.1)] [.box 121 (d121 y8.2)] (.d (I y11.1)) [.box 121 (d121 y11.2)] [0], .app (z0.2.2.2.map q66) ([(⟨1, y11.1, z0.1⟩ : api_Breaker)].map q66) 3 (((z0.2.2.2.map q66).length + ([(⟨1, y11.1, z0.1⟩ : api_Breaker)].map q66).length) * (24 + 1)) (y13.map q66)] [] 1 [0, 1, 2, 3, 4, 5, 9, 7, 8] (w64 (z0.1 + 1), y11.2.L, y11.2.At, y13) hC ⟨⟨e63, (k63 (⟨z0.2.1, z0.2.2.1⟩ : dynposmake_Src) 6 _ h9)⟩, ⟨e63, (k63 y8.2 z0.1 _ h12)⟩, app_get q66 3 (fun _ => rfl) h14, trivial⟩ ⟨h7, h10, trivial⟩ (by kernel_rfl) (by kernel_rfl) (sI h).symm
   ·replace h := condF h10 h
    exact WI_end (bs := [(decide (z0.1 < y1.1), true), (decide (y8.1 < 5), false)]) (φ := fun s' => w0b = .next s') (st' := (st16_0)) (R' := (R16_0 y1 y3 y5)) mixed lv16 34 [true, false] [.call 63 [.d (.o 0 0), .d (I 6)] [.box 121 [DS pI z0.2.1, I z0.2.2.1]] (.d (I y8.1)) [.box 121 (d121 y8.2)] [0]] [] 1 n9_ (w64 (z0.1 + 1), y8.2.L, y8.2.At, z0.2.2.2) hC ⟨⟨e63, (k63 (⟨z0.2.1, z0.2.2.1⟩ : dynposmake_Src) 6 _ h9)⟩, trivial⟩ ⟨h7, h10, trivial⟩ (by kernel_rfl) (by kernel_rfl) (sI h).symm
  ·replace h := condF h7 h
   exact WI_end (bs := [(decide (z0.1 < y1.1), false)]) (φ := fun s' => w0 = .next s') (st' := (sa16_0)) (R' := (Ra16_0 y1 y3 y5)) mixed lv16 26 [false] [] [] 1 n9_ (z0.1, z0.2.1, z0.2.2.1, z0.2.2.2) hC trivial ⟨h7, trivial⟩ (by kernel_rfl) (by kernel_rfl) (hb0 _ (sI h).symm)
 ·have h := hnext0 _ hs0
  obtain ⟨y15, h16, h⟩ := bindE h
  refine WI_stop (bs := []) mixed lv16 24 [] [.whenR [(decide (y1.1 > 2), true)] (.call 63 [.d (.o 0 0), .d (I 2)] [.box 121 [DS pI z0.2.1, I z0.2.2.1]] (.d (I y15.1)) [.box 121 (d121 y15.2)] [0])] [] 1 n9_ [(0, .d (.o 0 0)), (2, .d (.o 1 0)), (3, .d (.o 2 0)), (47, .d (Bo ((decide (y1.1 > 2)) && (y15.1 == 1))))] [.box 121 (d121 y15.2), .box 29 [I 0, .os 3, .os 4, .os 5, I 0, I 0], .box 29 [I y1.1, .os 6, .os 7, .os 8, I y3.1, I y5.1], .sl 66 3 (([] : List api_Breaker).map q66), .sl 57 3 (([] : List api_Source).map q57), .sl 108 5 (([] : List api_Consumer).map q108), .sl 66 3 (z0.2.2.2.map q66), .sl 57 3 (([] : List api_Source).map q57), .sl 108 5 (([] : List api_Consumer).map q108)] hC ⟨⟨fun hg => ⟨e63, (k63 (⟨z0.2.1, z0.2.2.1⟩ : dynposmake_Src) 2 _ (guardO_get h16 hg))⟩, fun hg => by have e := guardO_not h16 hg; subst e; rfl⟩, trivial⟩ trivial (by kernel_rfl) ?_
  obtain ⟨w1, h, hret1, hnext1⟩ := andThen_inv h
  refine WI_cut (by kernel_rfl) (fun s => w1 = .next s) (sa16_1) (Ra16_1 y1 y3 y5 y15) ?_ fun z1 hs1 => ?_
  ·unfold F16_m1 at h
   rcases boolC (((decide (y1.1 > 2)) && (y15.1 == 1))) with h17 | h17
   ·replace h := condT h17 h
    obtain ⟨y18, h19, h⟩ := bindE h
    exact WI_end (bs := [(((decide (y1.1 > 2)) && (y15.1 == 1)), true)]) (φ := fun s' => w1 = .next s') (st' := (sa16_1)) (R' := (Ra16_1 y1 y3 y5 y15)) mixed lv16 23 [true] [.app (z0.2.2.2.map q66) ([(⟨1, 0, w64 (y1.1 - 1)⟩ : api_Breaker)].map q66) 3 (((z0.2.2.2.map q66).length + ([(⟨1, 0, w64 (y1.1 - 1)⟩ : api_Breaker)].map q66).length) * (24 + 1)) (y18.map q66)] [] 1 [0, 1, 2, 3, 4, 5, 9, 7, 8] y18 hC ⟨app_get q66 3 (fun _ => rfl) h19, trivial⟩ ⟨h17, trivial⟩ (by kernel_rfl) (by kernel_rfl) (sI h).symm
   ·replace h := condF h17 h
    exact WI_end (bs := [(((decide (y1.1 > 2)) && (y15.1 == 1)), false)]) (φ := fun s' => w1 = .next s') (st' := (sa16_1)) (R' := (Ra16_1 y1 y3 y5 y15)) mixed lv16 23 [false] [] [] 1 n9_ z0.2.2.2 hC trivial ⟨h17, trivial⟩ (by kernel_rfl) (by kernel_rfl) (sI h).symm
  ·clear h; have h := hnext1 _ hs1
   obtain ⟨y20, h21, h⟩ := bindE h
   refine WI_stop (bs := []) mixed lv16 24 [] [.call 63 [.d (.o 0 0), .d (I 5)] [.box 121 (d121 y15.2)] (.d (I y20.1)) [.box 121 (d121 y20.2)] [0]] [] 1 n9_ (st16_2 (y20.1, y20.2.L, y20.2.At, z1, ([] : List api_Source))) (R16_2 y1 y3 y5 (y20.1, y20.2.L, y20.2.At, z1, ([] : List api_Source))) hC ⟨⟨e63, (k63 y15.2 5 _ h21)⟩, trivial⟩ trivial (by kernel_rfl) ?_
   obtain ⟨w2, hm2, hret2, hnext2⟩ := andThen_inv h
   clear h
   refine WI_cut (by kernel_rfl) (fun s => w2 = .next s) (sa16_2) (Ra16_2 y1 y3 y5) ?_ fun z2 hs2 => ?_
   ·refine WI_blk (by kernel_rfl) ?_
    refine WI_while (by kernel_rfl) (F16_l2 y1) (st16_2) (R16_2 y1 y3 y5) w2 1152921504606846976 (y20.1, y20.2.L, y20.2.At, z1, ([] : List api_Source)) hm2 rfl rfl fun z2 w2b h hb2 hr2 => ?_
    unfold F16_l2 at h
    rcases boolC (decide (z2.1 > 0)) with h22 | h22
    ·replace h := condT h22 h
     obtain ⟨y23, h24, h⟩ := bindE h
     obtain ⟨y25, h26, h⟩ := bindE h
     obtain ⟨y27, h28, h⟩ := bindE h
     obtain ⟨y29, h30, h⟩ := bindE h
     obtain ⟨y31, h32, h⟩ := bindE h
     obtain ⟨y33, h34, h⟩ := bindE h
     exact WI_end (bs := [(decide (z2.1 > 0), true)]) (φ := fun s' => w2b = .next s') (st' := (st16_2)) (R' := (R16_2 y1 y3 y5)) mixed lv16 35 [true] [.call 63 [.d (.o 0 0), .d (I y1.1)] [.box 121 [DS pI z2.2.1, I z2.2.2.1]] (.d (I y23.1)) [.box 121 (d121 y23.2)] [0], .len ((z2.2.2.2.2.map q57).length : Int) (z2.2.2.2.2.length : Int), .app (z2.2.2.2.1.map q66) ([(⟨2, y23.1, (z2.2.2.2.2.length : Int)⟩ : api_Breaker)].map q66) 3 (((z2.2.2.2.1.map q66).length + ([(⟨2, y23.1, (z2.2.2.2.2.length : Int)⟩ : api_Breaker)].map q66).length) * (24 + 1)) (y25.map q66), .call 62 [.d (.o 0 0), .d (DS pI [10, 50, 100])] [.box 121 (d121 y23.2)] (.d (I y27.1)) [.box 121 (d121 y27.2)] [0], .call 62 [.d (.o 0 0), .d (DS pI [0, 5, y27.1])] [.box 121 (d121 y27.2)] (.d (I y29.1)) [.box 121 (d121 y29.2)] [0], .call 62 [.d (.o 0 0), .d (DS pI [0, 1, 3])] [.box 121 (d121 y29.2)] (.d (I y31.1)) [.box 121 (d121 y31.2)] [0], .app (z2.2.2.2.2.map q57) ([(⟨y27.1, y29.1, y31.1⟩ : api_Source)].map q57) 3 (((z2.2.2.2.2.map q57).length + ([(⟨y27.1, y29.1, y31.1⟩ : api_Source)].map q57).length) * (24 + 1)) (y33.map q57)] [] 1 [0, 1, 2, 3, 4, 5, 9, 10, 8] (w64 (z2.1 - 1), y31.2.L, y31.2.At, y25, y33) hC ⟨⟨e63, (k63 (⟨z2.2.1, z2.2.2.1⟩ : dynposmake_Src) y1.1 _ h24)⟩, len_map _ _, app_get q66 3 (fun _ => rfl) h26, ⟨e62, (k62 y23.2 [10, 50, 100] _ h28)⟩, ⟨e62, (k62 y27.2 [0, 5, y27.1] _ h30)⟩, ⟨e62, (k62 y29.2 [0, 1, 3] _ h32)⟩, app_get q57 3 (fun _ => rfl) h34, trivial⟩ ⟨h22, trivial⟩ (by kernel_rfl) (by kernel_rfl) (sI h).symm
    ·replace h := condF h22 h
     exact WI_end (bs := [(decide (z2.1 > 0), false)]) (φ := fun s' => w2 = .next s') (st' := (sa16_2)) (R' := (Ra16_2 y1 y3 y5)) mixed lv16 26 [false] [] [] 1 n9_ (z2.1, z2.2.1, z2.2.2.1, z2.2.2.2.1, z2.2.2.2.2) hC trivial ⟨h22, trivial⟩ (by kernel_rfl) (by kernel_rfl) (hb2 _ (sI h).symm)
   ·have h := hnext2 _ hs2
    obtain ⟨y35, h36, h⟩ := bindE h
    refine WI_stop (bs := []) mixed lv16 24 [] [.call 63 [.d (.o 0 0), .d (I 6)] [.box 121 [DS pI z2.2.1, I z2.2.2.1]] (.d (I y35.1)) [.box 121 (d121 y35.2)] [0]] [] 1 n9_ (st16_3 (y35.1, y35.2.L, y35.2.At, z2.2.2.2.1, ([] : List api_Consumer))) (R16_3 y1 y3 y5 z2 (y35.1, y35.2.L, y35.2.At, z2.2.2.2.1, ([] : List api_Consumer))) hC ⟨⟨e63, (k63 (⟨z2.2.1, z2.2.2.1⟩ : dynposmake_Src) 6 _ h36)⟩, trivial⟩ trivial (by kernel_rfl) ?_
    obtain ⟨w3, hm3, hret3, hnext3⟩ := andThen_inv h
    clear h
    refine WI_cut (by kernel_rfl) (fun s => w3 = .next s) (sa16_3) (Ra16_3 y1 y3 y5 z2) ?_ fun z3 hs3 => ?_
    ·refine WI_blk (by kernel_rfl) ?_
     refine WI_while (by kernel_rfl) (F16_l3 y1) (st16_3) (R16_3 y1 y3 y5 z2) w3 1152921504606846976 (y35.1, y35.2.L, y35.2.At, z2.2.2.2.1, ([] : List api_Consumer)) hm3 rfl rfl fun z3 w3b h hb3 hr3 => ?_
     unfold F16_l3 at h
     rcases boolC (decide (z3.1 > 0)) with h37 | h37
     ·replace h := condT h37 h
      obtain ⟨y38, h39, h⟩ := bindE h
      obtain ⟨y40, h41, h⟩ := bindE h
      obtain ⟨y42, h43, h⟩ := bindE h
      refine WI_stop (bs := [(decide (z3.1 > 0), true)]) mixed lv16 37 [true] [.len ((z3.2.2.2.2.map q108).length : Int) (z3.2.2.2.2.length : Int), .call 63 [.d (.o 0 0), .d (I y1.1)] [.box 121 [DS pI z3.2.1, I z3.2.2.1]] (.d (I y38.1)) [.box 121 (d121 y38.2)] [0], .app (z3.2.2.2.1.map q66) ([(⟨3, y38.1, (z3.2.2.2.2.length : Int)⟩ : api_Breaker)].map q66) 3 (((z3.2.2.2.1.map q66).length + ([(⟨3, y38.1, (z3.2.2.2.2.length : Int)⟩ : api_Breaker)].map q66).length) * (24 + 1)) (y40.map q66), .whenR [(decide (y1.1 > 1), true)] (.call 63 [.d (.o 0 0), .d (I 4)] [.box 121 (d121 y38.2)] (.d (I y42.1)) [.box 121 (d121 y42.2)] [0])] [] 1 [0, 1, 2, 3, 4, 5, 7, 8, 9] [(0, .d (.o 0 0)), (2, .d (.o 1 0)), (3, .d (.o 2 0)), (7, .d (I z3.1)), (8, .d (I (z3.2.2.2.2.length : Int))), (9, .d (I y38.1)), (121, .d (Bo ((decide (y1.1 > 1)) && (y42.1 == 3))))] [.box 121 (d121 y42.2), .box 29 [I 0, .os 3, .os 4, .os 5, I 0, I 0], .box 29 [I y1.1, .os 8, .os 6, .os 7, I y3.1, I y5.1], .sl 66 3 (([] : List api_Breaker).map q66), .sl 57 3 (([] : List api_Source).map q57), .sl 108 5 (([] : List api_Consumer).map q108), .sl 57 3 (z2.2.2.2.2.map q57), .sl 108 5 (z3.2.2.2.2.map q108), .sl 66 3 (y40.map q66)] hC ⟨len_map _ _, ⟨e63, (k63 (⟨z3.2.1, z3.2.2.1⟩ : dynposmake_Src) y1.1 _ h39)⟩, app_get q66 3 (fun _ => rfl) h41, ⟨fun hg => ⟨e63, (k63 y38.2 4 _ (guardO_get h43 hg))⟩, fun hg => by have e := guardO_not h43 hg; subst e; rfl⟩, trivial⟩ ⟨h37, trivial⟩ (by kernel_rfl) ?_
      obtain ⟨w4, h, hret4, hnext4⟩ := andThen_inv h
      refine WI_cut (by kernel_rfl) (fun s => w4 = .next s) (sa16_4 z3) (Ra16_4 y1 y3 y5 z2 z3 y42) ?_ fun z4 hs4 => ?_
      ·unfold F16_m4 at h
       rcases boolC (((decide (y1.1 > 1)) && (y42.1 == 3))) with h44 | h44
       ·replace h := condT h44 h
        obtain ⟨u46, h45, h⟩ := bindE h
        obtain ⟨y47, h48, h⟩ := bindE h
        exact WI_end (bs := [(((decide (y1.1 > 1)) && (y42.1 == 3)), true)]) (φ := fun s' => w4 = .next s') (st' := (sa16_4 z3)) (R' := (Ra16_4 y1 y3 y5 z2 z3 y42)) mixed lv16 23 [true] [.nz y1.1, .app (y40.map q66) ([(⟨3, Int.tmod (w64 (y38.1 + 1)) y1.1, (z3.2.2.2.2.length : Int)⟩ : api_Breaker)].map q66) 3 (((y40.map q66).length + ([(⟨3, Int.tmod (w64 (y38.1 + 1)) y1.1, (z3.2.2.2.2.length : Int)⟩ : api_Breaker)].map q66).length) * (24 + 1)) (y47.map q66)] [] 1 [0, 1, 2, 3, 4, 5, 6, 7, 9] y47 hC ⟨nz_get h45, app_get q66 3 (fun _ => rfl) h48, trivial⟩ ⟨h44, trivial⟩ (by kernel_rfl) (by kernel_rfl) (sI h).symm
       ·replace h := condF h44 h
        exact WI_end (bs := [(((decide (y1.1 > 1)) && (y42.1 == 3)), false)]) (φ := fun s' => w4 = .next s') (st' := (sa16_4 z3)) (R' := (Ra16_4 y1 y3 y5 z2 z3 y42)) mixed lv16 23 [false] [] [] 1 n9_ y40 hC trivial ⟨h44, trivial⟩ (by kernel_rfl) (by kernel_rfl) (sI h).symm
      ·clear h; have h := hnext4 _ hs4
       obtain ⟨y49, h50, h⟩ := bindE h
       obtain ⟨y51, h52, h⟩ := bindE h
       obtain ⟨y53, h54, h⟩ := bindE h
       obtain ⟨y55, h56, h⟩ := bindE h
       obtain ⟨y57, h58, h⟩ := bindE h
       refine WI_stop (bs := []) mixed lv16 28 [] [.call 62 [.d (.o 0 0), .d (DS pI [0, 5, 20, 40])] [.box 121 (d121 y42.2)] (.d (I y49.1)) [.box 121 (d121 y49.2)] [0], .nz 2, .call 62 [.d (.o 0 0), .d (DS pI [0, w64 (Int.tdiv y49.1 2), y49.1])] [.box 121 (d121 y49.2)] (.d (I y51.1)) [.box 121 (d121 y51.2)] [0], .call 63 [.d (.o 0 0), .d (I 3)] [.box 121 (d121 y51.2)] (.d (I y53.1)) [.box 121 (d121 y53.2)] [0], .call 61 [.d (.o 0 0), .d (I (-1)), .d (I 2)] [.box 121 (d121 y53.2)] (.d (I y55.1)) [.box 121 (d121 y55.2)] [0], .whenR [(decide ((z3.2.2.2.2.length : Int) > 0), true)] (.call 63 [.d (.o 0 0), .d (I 4)] [.box 121 (d121 y55.2)] (.d (I y57.1)) [.box 121 (d121 y57.2)] [0])] [.ownb 9 4 3 1] 1 n11_ [(0, .d (.o 0 0)), (2, .d (.o 1 0)), (3, .d (.o 2 0)), (7, .d (I z3.1)), (8, .d (I (z3.2.2.2.2.length : Int))), (11, .d (.o 9 0)), (155, .d (Bo (c16_2 z3 y57)))] [.box 121 (d121 y57.2), .box 29 [I 0, .os 3, .os 4, .os 5, I 0, I 0], .box 29 [I y1.1, .os 8, .os 6, .os 7, I y3.1, I y5.1], .sl 66 3 (([] : List api_Breaker).map q66), .sl 57 3 (([] : List api_Source).map q57), .sl 108 5 (([] : List api_Consumer).map q108), .sl 57 3 (z2.2.2.2.2.map q57), .sl 108 5 (z3.2.2.2.2.map q108), .sl 66 3 (z4.map q66), .box 108 [I y49.1, I y51.1, I y53.1, I y55.1, .os 10], .sl 3 1 (([] : List Int).map pI)] hC ⟨⟨e62, (k62 y42.2 [0, 5, 20, 40] _ h50)⟩, nz_lit rfl, ⟨e62, (k62 y49.2 [0, w64 (Int.tdiv y49.1 2), y49.1] _ h52)⟩, ⟨e63, (k63 y51.2 3 _ h54)⟩, ⟨e61, (k61 y53.2 (-1) 2 _ h56)⟩, ⟨fun hg => ⟨e63, (k63 y55.2 4 _ (guardO_get h58 hg))⟩, fun hg => by have e := guardO_not h58 hg; subst e; rfl⟩, trivial⟩ trivial (by kernel_rfl) ?_
       rcases boolC ((c16_2 z3 y57)) with h59 | h59
       ·replace h := condT h59 h
        obtain ⟨y60, h61, h⟩ := bindE h
        obtain ⟨y62, h63, h⟩ := bindE h
        exact WI_end (bs := [((c16_2 z3 y57), true)]) (φ := fun s' => w3b = .next s') (st' := (st16_3)) (R' := (R16_3 y1 y3 y5 z2)) mixed lv16 26 [true] [.call 63 [.d (.o 0 0), .d (I (z3.2.2.2.2.length : Int))] [.box 121 (d121 y57.2)] (.d (I y60.1)) [.box 121 (d121 y60.2)] [0], .app (z3.2.2.2.2.map q108) ([(⟨y49.1, y51.1, y53.1, y55.1, [y60.1]⟩ : api_Consumer)].map q108) 5 (((z3.2.2.2.2.map q108).length + ([(⟨y49.1, y51.1, y53.1, y55.1, [y60.1]⟩ : api_Consumer)].map q108).length) * (56 + 1)) (y62.map q108)] [] 1 [0, 1, 2, 3, 4, 5, 8, 6, 11] (w64 (z3.1 - 1), y60.2.L, y60.2.At, z4, y62) hC ⟨⟨e63, (k63 y57.2 (z3.2.2.2.2.length : Int) _ h61)⟩, app_get q108 5 (fun _ => rfl) h63, trivial⟩ ⟨h59, trivial⟩ (by kernel_rfl) (by kernel_rfl) (sI h).symm
       ·replace h := condF h59 h
        refine WI_stop (bs := [((c16_2 z3 y57), false)]) mixed lv16 2 [false] [] [.frz 10] 1 n10_ [(0, .d (.o 0 0)), (2, .d (.o 1 0)), (3, .d (.o 2 0)), (7, .d (I z3.1)), (11, .d (.o 9 0))] [.box 121 (d121 y57.2), .box 29 [I 0, .os 3, .os 4, .os 5, I 0, I 0], .box 29 [I y1.1, .os 8, .os 6, .os 7, I y3.1, I y5.1], .sl 66 3 (([] : List api_Breaker).map q66), .sl 57 3 (([] : List api_Source).map q57), .sl 108 5 (([] : List api_Consumer).map q108), .sl 57 3 (z2.2.2.2.2.map q57), .sl 108 5 (z3.2.2.2.2.map q108), .sl 66 3 (z4.map q66), .box 108 [I y49.1, I y51.1, I y53.1, I y55.1, DS pI ([] : List Int)]] hC trivial ⟨h59, trivial⟩ (by kernel_rfl) ?_
        obtain ⟨y64, h65, h⟩ := bindE h
        exact WI_end (bs := []) (φ := fun s' => w3b = .next s') (st' := (st16_3)) (R' := (R16_3 y1 y3 y5 z2)) mixed lv16 24 [] [.app (z3.2.2.2.2.map q108) ([(⟨y49.1, y51.1, y53.1, y55.1, ([] : List Int)⟩ : api_Consumer)].map q108) 5 (((z3.2.2.2.2.map q108).length + ([(⟨y49.1, y51.1, y53.1, y55.1, ([] : List Int)⟩ : api_Consumer)].map q108).length) * (56 + 1)) (y64.map q108)] [] 1 [0, 1, 2, 3, 4, 5, 8, 6, 10] (w64 (z3.1 - 1), y57.2.L, y57.2.At, z4, y64) hC ⟨app_get q108 5 (fun _ => rfl) h65, trivial⟩ trivial (by kernel_rfl) (by kernel_rfl) (sI h).symm
     ·replace h := condF h37 h
      exact WI_end (bs := [(decide (z3.1 > 0), false)]) (φ := fun s' => w3 = .next s') (st' := (sa16_3)) (R' := (Ra16_3 y1 y3 y5 z2)) mixed lv16 26 [false] [] [] 1 n9_ (z3.1, z3.2.1, z3.2.2.1, z3.2.2.2.1, z3.2.2.2.2) hC trivial ⟨h37, trivial⟩ (by kernel_rfl) (by kernel_rfl) (hb3 _ (sI h).symm)
    ·have h := hnext3 _ hs3
     replace h := sI h
     subst h
     exact WI_ret (bs := []) mixed lv16 23 [] [] [] [.cell 2 29] 1 [0, 6, 7, 8] rfl hC trivial trivial (by kernel_rfl)
theorem e16 : Enters Tryz.prog 16 := Go.SL.enters_of Tryz.func16 (by kernel_rfl) (by kernel_rfl)
def lv17s1 : List Nat := [0, 1, 3, 4, 5, 6, 7, 8, 9, 11, 12, 13, 16, 17, 18, 30, 31, 32, 35, 36, 37, 38, 57, 67, 68, 69, 89, 90, 91, 92, 114, 119, 126]
def st17s1_0 (x1 : api_Board) (z0 : Int × (List Int) × Int × (List Bool)) : St := [(0, .d (.o 0 0)), (3, .d (.o 4 0)), (4, .d (.o 5 0)), (5, .d (.o 6 0)), (16, .d (I (x1.Breakers.length : Int))), (17, .d (I z0.1))]
def R17s1_0 (x1 : api_Board) (z0 : Int × (List Int) × Int × (List Bool)) : List Res := (.box 121 [DS pI z0.2.1, I z0.2.2.1] :: s3 x1 (.box 29 [I x1.Buses, .os 1, .os 2, .os 3, I x1.Phase, I x1.Frequency] :: .box 35 [.os 7, .os 8, .os 9, .os 10] :: .box 35 [.os 11, .os 12, .os 13, .os 14] :: e4 [.sl 4 1 (z0.2.2.2.map pB), .sl 59 4 (([] : List api_Running).map q59), .sl 3 1 (([] : List Int).map pI), .sl 119 2 (([] : List api_Part).map q119)]))
def sa17s1_0  (z0 : Int × (List Int) × Int × (List Bool)) : St := [(0, .d (.o 0 0)), (3, .d (.o 4 0)), (4, .d (.o 5 0)), (5, .d (.o 6 0))]
def Ra17s1_0 (x1 : api_Board) (z0 : Int × (List Int) × Int × (List Bool)) : List Res := (.box 121 [DS pI z0.2.1, I z0.2.2.1] :: s3 x1 (.box 29 [I x1.Buses, .os 1, .os 2, .os 3, I x1.Phase, I x1.Frequency] :: .box 35 [.os 7, .os 8, .os 9, .os 10] :: .box 35 [.os 11, .os 12, .os 13, .os 14] :: e4 [.sl 4 1 (z0.2.2.2.map pB), .sl 59 4 (([] : List api_Running).map q59), .sl 3 1 (([] : List Int).map pI), .sl 119 2 (([] : List api_Part).map q119)]))
def st17s1_1 (x1 : api_Board) (z1 : Int × (List Bool)) : St := [(0, .d (.o 0 0)), (3, .d (.o 4 0)), (4, .d (.o 5 0)), (5, .d (.o 6 0)), (30, .d (I (x1.Consumers.length : Int))), (31, .d (I z1.1))]
def R17s1_1 (x1 : api_Board) (z0 : Int × (List Int) × Int × (List Bool)) (z1 : Int × (List Bool)) : List Res := (.box 121 [DS pI z0.2.1, I z0.2.2.1] :: s3 x1 (.box 29 [I x1.Buses, .os 1, .os 2, .os 3, I x1.Phase, I x1.Frequency] :: .box 35 [.os 7, .os 8, .os 9, .os 10] :: .box 35 [.os 11, .os 12, .os 13, .os 14] :: e4 [.sl 4 1 (z1.2.map pB), .sl 59 4 (([] : List api_Running).map q59), .sl 3 1 (([] : List Int).map pI), .sl 119 2 (([] : List api_Part).map q119)]))
def sa17s1_1  (z1 : Int × (List Bool)) : St := [(0, .d (.o 0 0)), (3, .d (.o 4 0)), (4, .d (.o 5 0)), (5, .d (.o 6 0))]
def Ra17s1_1 (x1 : api_Board) (z0 : Int × (List Int) × Int × (List Bool)) (z1 : Int × (List Bool)) : List Res := (.box 121 [DS pI z0.2.1, I z0.2.2.1] :: s3 x1 (.box 29 [I x1.Buses, .os 1, .os 2, .os 3, I x1.Phase, I x1.Frequency] :: .box 35 [.os 7, .os 8, .os 9, .os 10] :: .box 35 [.os 11, .os 12, .os 13, .os 14] :: e4 [.sl 4 1 (z1.2.map pB), .sl 59 4 (([] : List api_Running).map q59), .sl 3 1 (([] : List Int).map pI), .sl 119 2 (([] : List api_Part).map q119)]))
def st17s1_2 (x1 : api_Board) (z1 : Int × (List Bool)) (n2 : Nat) (z2 : Bool × (List Bool)) : St := [(0, .d (.o 0 0)), (3, .d (.o 4 0)), (4, .d (.o 5 0)), (5, .d (.o 6 0)), (6, .d (I z1.1)), (7, .d (Bo z2.1)), (30, .d (I (x1.Consumers.length : Int))), (31, .d (I z1.1)), (35, .d (.os 1)), (36, .d (I (x1.Breakers.length : Int))), (37, .d (I (cnt 0 n2)))]
def R17s1_2 (x1 : api_Board) (z0 : Int × (List Int) × Int × (List Bool)) (n2 : Nat) (z2 : Bool × (List Bool)) : List Res := (.box 121 [DS pI z0.2.1, I z0.2.2.1] :: s3 x1 (.box 29 [I x1.Buses, .os 1, .os 2, .os 3, I x1.Phase, I x1.Frequency] :: .box 35 [.os 7, .os 8, .os 9, .os 10] :: .box 35 [.os 11, .os 12, .os 13, .os 14] :: e4 [.sl 4 1 (z2.2.map pB), .sl 59 4 (([] : List api_Running).map q59), .sl 3 1 (([] : List Int).map pI), .sl 119 2 (([] : List api_Part).map q119)]))
def sa17s1_2 (x1 : api_Board) (z1 : Int × (List Bool)) (z2 : Bool × (List Bool)) : St := [(0, .d (.o 0 0)), (3, .d (.o 4 0)), (4, .d (.o 5 0)), (5, .d (.o 6 0)), (30, .d (I (x1.Consumers.length : Int))), (31, .d (I z1.1))]
def Ra17s1_2 (x1 : api_Board) (z0 : Int × (List Int) × Int × (List Bool)) (z2 : Bool × (List Bool)) : List Res := (.box 121 [DS pI z0.2.1, I z0.2.2.1] :: s3 x1 (.box 29 [I x1.Buses, .os 1, .os 2, .os 3, I x1.Phase, I x1.Frequency] :: .box 35 [.os 7, .os 8, .os 9, .os 10] :: .box 35 [.os 11, .os 12, .os 13, .os 14] :: e4 [.sl 4 1 (z2.2.map pB), .sl 59 4 (([] : List api_Running).map q59), .sl 3 1 (([] : List Int).map pI), .sl 119 2 (([] : List api_Part).map q119)]))
def st17s1_3 (x1 : api_Board) (z3 : Sg4) : St := [(0, .d (.o 0 0)), (3, .d (.o 4 0)), (4, .d (.o 5 0)), (5, .d (.o 6 0)), (67, .d (I (x1.Sources.length : Int))), (68, .d (I z3.1))]
def R17s1_3 (x1 : api_Board) (z1 : Int × (List Bool)) (z3 : Sg4) : List Res := (.box 121 [DS pI z3.2.1, I z3.2.2.1] :: s3 x1 (.box 29 [I x1.Buses, .os 1, .os 2, .os 3, I x1.Phase, I x1.Frequency] :: .box 35 [.os 7, .os 8, .os 9, .os 10] :: .box 35 [.os 11, .os 12, .os 13, .os 14] :: e4 [.sl 4 1 (z1.2.map pB), .sl 59 4 (z3.2.2.2.map q59), .sl 3 1 (([] : List Int).map pI), .sl 119 2 (([] : List api_Part).map q119)]))
def sa17s1_3  (z3 : Sg4) : St := [(0, .d (.o 0 0)), (3, .d (.o 4 0)), (4, .d (.o 5 0)), (5, .d (.o 6 0))]
def Ra17s1_3 (x1 : api_Board) (z1 : Int × (List Bool)) (z3 : Sg4) : List Res := (.box 121 [DS pI z3.2.1, I z3.2.2.1] :: s3 x1 (.box 29 [I x1.Buses, .os 1, .os 2, .os 3, I x1.Phase, I x1.Frequency] :: .box 35 [.os 7, .os 8, .os 9, .os 10] :: .box 35 [.os 11, .os 12, .os 13, .os 14] :: e4 [.sl 4 1 (z1.2.map pB), .sl 59 4 (z3.2.2.2.map q59), .sl 3 1 (([] : List Int).map pI), .sl 119 2 (([] : List api_Part).map q119)]))
def st17s1_4 (x1 : api_Board) (n4 : Nat) (z4 : (List Int) × Int × (List Int)) : St := [(0, .d (.o 0 0)), (3, .d (.o 4 0)), (4, .d (.o 5 0)), (5, .d (.o 6 0)), (89, .d (.os 3)), (90, .d (I (x1.Consumers.length : Int))), (91, .d (I (cnt 0 n4)))]
def R17s1_4 (x1 : api_Board) (z1 : Int × (List Bool)) (z3 : Sg4) (n4 : Nat) (z4 : (List Int) × Int × (List Int)) : List Res := (.box 121 [DS pI z4.1, I z4.2.1] :: s3 x1 (.box 29 [I x1.Buses, .os 1, .os 2, .os 3, I x1.Phase, I x1.Frequency] :: .box 35 [.os 7, .os 8, .os 9, .os 10] :: .box 35 [.os 11, .os 12, .os 13, .os 14] :: e4 [.sl 4 1 (z1.2.map pB), .sl 59 4 (z3.2.2.2.map q59), .sl 3 1 (z4.2.2.map pI), .sl 119 2 (([] : List api_Part).map q119)]))
def sa17s1_4  (z4 : (List Int) × Int × (List Int)) : St := [(0, .d (.o 0 0)), (3, .d (.o 4 0)), (4, .d (.o 5 0)), (5, .d (.o 6 0))]
def Ra17s1_4 (x1 : api_Board) (z1 : Int × (List Bool)) (z3 : Sg4) (z4 : (List Int) × Int × (List Int)) : List Res := (.box 121 [DS pI z4.1, I z4.2.1] :: s3 x1 (.box 29 [I x1.Buses, .os 1, .os 2, .os 3, I x1.Phase, I x1.Frequency] :: .box 35 [.os 7, .os 8, .os 9, .os 10] :: .box 35 [.os 11, .os 12, .os 13, .os 14] :: e4 [.sl 4 1 (z1.2.map pB), .sl 59 4 (z3.2.2.2.map q59), .sl 3 1 (z4.2.2.map pI), .sl 119 2 (([] : List api_Part).map q119)]))
def st17s1_5  (z5 : Int × (List Int) × Int × (List api_Part)) : St := [(0, .d (.o 0 0)), (3, .d (.o 4 0)), (4, .d (.o 5 0)), (5, .d (.o 6 0)), (12, .d (I z5.1))]
def R17s1_5 (x1 : api_Board) (z1 : Int × (List Bool)) (z3 : Sg4) (z4 : (List Int) × Int × (List Int)) (z5 : Int × (List Int) × Int × (List api_Part)) : List Res := (.box 121 [DS pI z5.2.1, I z5.2.2.1] :: s3 x1 (.box 29 [I x1.Buses, .os 1, .os 2, .os 3, I x1.Phase, I x1.Frequency] :: .box 35 [.os 7, .os 8, .os 9, .os 10] :: .box 35 [.os 11, .os 12, .os 13, .os 14] :: e4 [.sl 4 1 (z1.2.map pB), .sl 59 4 (z3.2.2.2.map q59), .sl 3 1 (z4.2.2.map pI), .sl 119 2 (z5.2.2.2.map q119)]))
def sa17s1_5  (z5 : Int × (List Int) × Int × (List api_Part)) : St := [(4, .d (.o 4 0)), (5, .d (.o 5 0))]
def Ra17s1_5 (x1 : api_Board) (z1 : Int × (List Bool)) (z3 : Sg4) (z4 : (List Int) × Int × (List Int)) (z5 : Int × (List Int) × Int × (List api_Part)) : List Res := (.box 121 [DS pI z5.2.1, I z5.2.2.1] :: s3 x1 (.box 35 [.os 6, .os 7, .os 8, .os 9] :: .box 35 [.os 10, .os 11, .os 12, .os 13] :: e4 [.sl 4 1 (z1.2.map pB), .sl 59 4 (z3.2.2.2.map q59), .sl 3 1 (z4.2.2.map pI), .sl 119 2 (z5.2.2.2.map q119)]))
set_option maxHeartbeats 4000000 in
theorem k17s1 (x0 : dynposmake_Src) (x1 : api_Board) (r : api_Power × dynposmake_Src) (h : F17s1 x0 x1 = some r) : CallOk Tryz.prog 17 [.d (.o 0 0), .agg [I x1.Buses, .os 1, .os 2, .os 3, I x1.Phase, I x1.Frequency]] (.box 121 (d121 x0) :: s3 x1 []) (.agg [.os 4, .os 5, .os 6, .os 7]) (.box 121 (d121 r.2) :: s3 x1 (p4 r.1 [])) := by
 unfold F17s1 at h
 refine callOk_of 134 Tryz.func17 rfl rfl rfl fun C hC => ?_
 refine WI_stop (bs := []) mixed lv17s1 28 [] [.len ((x1.Breakers.map q66).length : Int) (x1.Breakers.length : Int)] [.ownb 5 0 4 1, .ownb 5 1 59 4, .ownb 5 2 3 1, .ownb 5 3 119 2, .ownb 6 0 4 1, .ownb 6 1 59 4, .ownb 6 2 3 1, .ownb 6 3 119 2] 4 n15_ (st17s1_0 x1 (0, x0.L, x0.At, ([] : List Bool))) (R17s1_0 x1 (0, x0.L, x0.At, ([] : List Bool))) hC ⟨len_map _ _, trivial⟩ trivial (by kernel_rfl) ?_
 obtain ⟨w0, hm0, hret0, hnext0⟩ := andThen_inv h
 clear h
 refine WI_cut (by kernel_rfl) (fun s => w0 = .next s) (sa17s1_0) (Ra17s1_0 x1) ?_ fun z0 hs0 => ?_
 ·refine WI_blk (by kernel_rfl) ?_
  refine WI_while (by kernel_rfl) (F17s1_l0 x1) (st17s1_0 x1) (R17s1_0 x1) w0 1152921504606846976 (0, x0.L, x0.At, ([] : List Bool)) hm0 rfl rfl fun z0 w0b h hb0 hr0 => ?_
  unfold F17s1_l0 at h
  rcases boolC ((c17s1_1 x1 z0)) with h1 | h1
  ·replace h := condT h1 h
   obtain ⟨y2, h3, h⟩ := bindE h
   obtain ⟨y4, h5, h⟩ := bindE h
   exact WI_end (bs := [((c17s1_1 x1 z0), true)]) (φ := fun s' => w0b = .next s') (st' := (st17s1_0 x1)) (R' := (R17s1_0 x1)) mixed lv17s1 31 [true] [.call 63 [.d (.o 0 0), .d (I 2)] [.box 121 [DS pI z0.2.1, I z0.2.2.1]] (.d (I y2.1)) [.box 121 (d121 y2.2)] [0], .app (z0.2.2.2.map pB) ([(y2.1 == 1)].map pB) 1 (((z0.2.2.2.map pB).length + ([(y2.1 == 1)].map pB).length) * (1 + 1)) (y4.map pB)] [] 4 [0, 1, 2, 3, 4, 5, 6, 7, 8, 9, 10, 15, 12, 13, 14] (w64 (z0.1 + 1), y2.2.L, y2.2.At, y4) hC ⟨⟨e63, (k63 (⟨z0.2.1, z0.2.2.1⟩ : dynposmake_Src) 2 _ h3)⟩, app_get pB 1 (fun _ => rfl) h5, trivial⟩ ⟨h1, trivial⟩ (by kernel_rfl) (by kernel_rfl) (sI h).symm
  ·replace h := condF h1 h
   exact WI_end (bs := [((c17s1_1 x1 z0), false)]) (φ := fun s' => w0 = .next s') (st' := (sa17s1_0)) (R' := (Ra17s1_0 x1)) mixed lv17s1 26 [false] [] [] 4 n15_ (z0.1, z0.2.1, z0.2.2.1, z0.2.2.2) hC trivial ⟨h1, trivial⟩ (by kernel_rfl) (by kernel_rfl) (hb0 _ (sI h).symm)
 ·have h := hnext0 _ hs0
  refine WI_stop (bs := []) mixed lv17s1 24 [] [.len ((x1.Consumers.map q108).length : Int) (x1.Consumers.length : Int)] [] 4 n15_ (st17s1_1 x1 (0, z0.2.2.2)) (R17s1_1 x1 z0 (0, z0.2.2.2)) hC ⟨len_map _ _, trivial⟩ trivial (by kernel_rfl) ?_
  obtain ⟨w1, hm1, hret1, hnext1⟩ := andThen_inv h
  clear h
  refine WI_cut (by kernel_rfl) (fun s => w1 = .next s) (sa17s1_1) (Ra17s1_1 x1 z0) ?_ fun z1 hs1 => ?_
  ·refine WI_blk (by kernel_rfl) ?_
   refine WI_while (by kernel_rfl) (F17s1_l1 x1) (st17s1_1 x1) (R17s1_1 x1 z0) w1 1152921504606846976 (0, z0.2.2.2) hm1 rfl rfl fun z1 w1b h hb1 hr1 => ?_
   unfold F17s1_l1 at h
   rcases boolC ((c17s1_9 x1 z1)) with h6 | h6
   ·replace h := condT h6 h
    refine WI_stop (bs := [((c17s1_9 x1 z1), true)]) mixed lv17s1 34 [true] [.len ((x1.Breakers.map q66).length : Int) (x1.Breakers.length : Int)] [] 4 n15_ (st17s1_2 x1 z1 0 (true, z1.2)) (R17s1_2 x1 z0 0 (true, z1.2)) hC ⟨len_map _ _, trivial⟩ ⟨h6, trivial⟩ (by kernel_rfl) ?_
    obtain ⟨w2, hm2, hret2, hnext2⟩ := andThen_inv h
    clear h
    refine WI_cut (by kernel_rfl) (fun s => w2 = .next s) (sa17s1_2 x1 z1) (Ra17s1_2 x1 z0) ?_ fun z2 hs2 => ?_
    ·refine WI_blk (by kernel_rfl) ?_
     refine WI_lenO 35 1 rfl rfl fun hl2 => ?_
     refine WI_foldI (by kernel_rfl) (F17s1_l2 z1) (st17s1_2 x1 z1) (R17s1_2 x1 z0) w2 x1.Breakers (true, z1.2) hm2 rfl rfl (fun z2 hn2 => ?_) fun n2 a2 z2 w2b hi2 hx2 h hb2 hr2 => ?_
     ·clear hm2
      exact WI_end (bs := [(decide ((cnt 0 x1.Breakers.length) < (x1.Breakers.length : Int)), false)]) (φ := fun s' => w2 = .next s') (st' := (sa17s1_2 x1 z1)) (R' := (Ra17s1_2 x1 z0)) mixed lv17s1 26 [false] [] [] 4 n15_ (z2.1, z2.2) hC trivial ⟨(cnt_end hl2), trivial⟩ (by kernel_rfl) (by kernel_rfl) hn2
     ·unfold F17s1_l2 at h
      obtain ⟨y7, h8, h⟩ := bindE h
      refine WI_stop (bs := [(decide ((cnt 0 n2) < (x1.Breakers.length : Int)), true)]) mixed lv17s1 32 [true] [.row (x1.Breakers.map q66) (cnt 0 n2) (q66 a2), .row (x1.Breakers.map q66) (((Int.toNat (cnt 0 n2)) : Nat) : Int) (q66 a2), .when [(((a2.Kind == 3) && (a2.B == z1.1)), true)] (.row (z2.2.map pB) (cnt 0 n2) (pB y7)), .when [(((a2.Kind == 3) && (a2.B == z1.1)), true)] (.row (z2.2.map pB) (((Int.toNat (cnt 0 n2)) : Nat) : Int) (pB y7))] [] 4 n15_ [(0, .d (.o 0 0)), (3, .d (.o 4 0)), (4, .d (.o 5 0)), (5, .d (.o 6 0)), (6, .d (I z1.1)), (7, .d (Bo z2.1)), (8, .d (I (cnt 0 n2))), (30, .d (I (x1.Consumers.length : Int))), (31, .d (I z1.1)), (35, .d (.os 1)), (36, .d (I (x1.Breakers.length : Int))), (37, .d (I (cnt 0 n2))), (57, .d (Bo (c17s1_12 z1 a2 y7)))] (.box 121 [DS pI z0.2.1, I z0.2.2.1] :: s3 x1 (.box 29 [I x1.Buses, .os 1, .os 2, .os 3, I x1.Phase, I x1.Frequency] :: .box 35 [.os 7, .os 8, .os 9, .os 10] :: .box 35 [.os 11, .os 12, .os 13, .os 14] :: e4 [.sl 4 1 (z2.2.map pB), .sl 59 4 (([] : List api_Running).map q59), .sl 3 1 (([] : List Int).map pI), .sl 119 2 (([] : List api_Part).map q119)])) hC ⟨row_get (get_cnt hx2 hl2), row_getN (get_cnt hx2 hl2), fun hg => row_get (guardO_get h8 hg), fun hg => row_getN (guardO_get h8 hg), trivial⟩ ⟨(cnt_lt hi2 hl2), trivial⟩ (by kernel_rfl) ?_
      rcases boolC ((c17s1_12 z1 a2 y7)) with h9 | h9
      ·replace h := condT h9 h
       obtain ⟨y10, h11, h⟩ := bindE h
       obtain ⟨y12, h13, h⟩ := bindE h
       exact WI_end (bs := [((c17s1_12 z1 a2 y7), true)]) (φ := fun s' => w2b = .next s') (st' := (st17s1_2 x1 z1 (n2 + 1))) (R' := (R17s1_2 x1 z0 (n2 + 1))) mixed lv17s1 27 [true] [.row (z2.2.map pB) (cnt 0 n2) (pB y10), .upd (z2.2.map pB) (Int.toNat (cnt 0 n2)) (pB y10) (pB z2.1) (y12.map pB)] [] 4 n15_ (false, y12) hC ⟨row_get h11, upd_get h11 h13, trivial⟩ ⟨h9, trivial⟩ (by kernel_rfl) (by kernel_rfl) (sI h).symm
      ·replace h := condF h9 h
       exact WI_end (bs := [((c17s1_12 z1 a2 y7), false)]) (φ := fun s' => w2b = .next s') (st' := (st17s1_2 x1 z1 (n2 + 1))) (R' := (R17s1_2 x1 z0 (n2 + 1))) mixed lv17s1 25 [false] [] [] 4 n15_ (z2.1, z2.2) hC trivial ⟨h9, trivial⟩ (by kernel_rfl) (by kernel_rfl) (sI h).symm
    ·have h := hnext2 _ hs2
     exact WI_end (bs := []) (φ := fun s' => w1b = .next s') (st' := (st17s1_1 x1)) (R' := (R17s1_1 x1 z0)) mixed lv17s1 23 [] [] [] 4 n15_ (w64 (z1.1 + 1), z2.2) hC trivial trivial (by kernel_rfl) (by kernel_rfl) (sI h).symm
   ·replace h := condF h6 h
    exact WI_end (bs := [((c17s1_9 x1 z1), false)]) (φ := fun s' => w1 = .next s') (st' := (sa17s1_1)) (R' := (Ra17s1_1 x1 z0)) mixed lv17s1 26 [false] [] [] 4 n15_ (z1.1, z1.2) hC trivial ⟨h6, trivial⟩ (by kernel_rfl) (by kernel_rfl) (hb1 _ (sI h).symm)
  ·have h := hnext1 _ hs1
   refine WI_stop (bs := []) mixed lv17s1 24 [] [.len ((x1.Sources.map q57).length : Int) (x1.Sources.length : Int)] [] 4 n15_ (st17s1_3 x1 (0, z0.2.1, z0.2.2.1, ([] : List api_Running))) (R17s1_3 x1 z1 (0, z0.2.1, z0.2.2.1, ([] : List api_Running))) hC ⟨len_map _ _, trivial⟩ trivial (by kernel_rfl) ?_
   obtain ⟨w3, hm3, hret3, hnext3⟩ := andThen_inv h
   clear h
   refine WI_cut (by kernel_rfl) (fun s => w3 = .next s) (sa17s1_3) (Ra17s1_3 x1 z1) ?_ fun z3 hs3 => ?_
   ·refine WI_blk (by kernel_rfl) ?_
    refine WI_while (by kernel_rfl) (F17s1_l3 x1) (st17s1_3 x1) (R17s1_3 x1 z1) w3 1152921504606846976 (0, z0.2.1, z0.2.2.1, ([] : List api_Running)) hm3 rfl rfl fun z3 w3b h hb3 hr3 => ?_
    unfold F17s1_l3 at h
    rcases boolC ((c17s1_14 x1 z3)) with h14 | h14
    ·replace h := condT h14 h
     obtain ⟨y15, h16, h⟩ := bindE h
     obtain ⟨y17, h18, h⟩ := bindE h
     obtain ⟨y19, h20, h⟩ := bindE h
     obtain ⟨y21, h22, h⟩ := bindE h
     obtain ⟨y23, h24, h⟩ := bindE h
     exact WI_end (bs := [((c17s1_14 x1 z3), true)]) (φ := fun s' => w3b = .next s') (st' := (st17s1_3 x1)) (R' := (R17s1_3 x1 z1)) mixed lv17s1 31 [true] [.call 62 [.d (.o 0 0), .d (DS pI [0, 1, 2, 2, 2, 3])] [.box 121 [DS pI z3.2.1, I z3.2.2.1]] (.d (I y15.1)) [.box 121 (d121 y15.2)] [0], .call 63 [.d (.o 0 0), .d (I 5)] [.box 121 (d121 y15.2)] (.d (I y17.1)) [.box 121 (d121 y17.2)] [0], .call 62 [.d (.o 0 0), .d (DS pI [5000, 5000, 5005, 4950])] [.box 121 (d121 y17.2)] (.d (I y19.1)) [.box 121 (d121 y19.2)] [0], .call 62 [.d (.o 0 0), .d (DS pI [0, 0, 40, 1800, 3590])] [.box 121 (d121 y19.2)] (.d (I y21.1)) [.box 121 (d121 y21.2)] [0], .app (z3.2.2.2.map q59) ([(⟨y15.1, y17.1, y19.1, y21.1⟩ : api_Running)].map q59) 4 (((z3.2.2.2.map q59).length + ([(⟨y15.1, y17.1, y19.1, y21.1⟩ : api_Running)].map q59).length) * (32 + 1)) (y23.map q59)] [] 4 [0, 1, 2, 3, 4, 5, 6, 7, 8, 9, 10, 11, 15, 13, 14] (w64 (z3.1 + 1), y21.2.L, y21.2.At, y23) hC ⟨⟨e62, (k62 (⟨z3.2.1, z3.2.2.1⟩ : dynposmake_Src) [0, 1, 2, 2, 2, 3] _ h16)⟩, ⟨e63, (k63 y15.2 5 _ h18)⟩, ⟨e62, (k62 y17.2 [5000, 5000, 5005, 4950] _ h20)⟩, ⟨e62, (k62 y19.2 [0, 0, 40, 1800, 3590] _ h22)⟩, app_get q59 4 (fun _ => rfl) h24, trivial⟩ ⟨h14, trivial⟩ (by kernel_rfl) (by kernel_rfl) (sI h).symm
    ·replace h := condF h14 h
     exact WI_end (bs := [((c17s1_14 x1 z3), false)]) (φ := fun s' => w3 = .next s') (st' := (sa17s1_3)) (R' := (Ra17s1_3 x1 z1)) mixed lv17s1 26 [false] [] [] 4 n15_ (z3.1, z3.2.1, z3.2.2.1, z3.2.2.2) hC trivial ⟨h14, trivial⟩ (by kernel_rfl) (by kernel_rfl) (hb3 _ (sI h).symm)
   ·have h := hnext3 _ hs3
    refine WI_stop (bs := []) mixed lv17s1 24 [] [.len ((x1.Consumers.map q108).length : Int) (x1.Consumers.length : Int)] [] 4 n15_ (st17s1_4 x1 0 (z3.2.1, z3.2.2.1, ([] : List Int))) (R17s1_4 x1 z1 z3 0 (z3.2.1, z3.2.2.1, ([] : List Int))) hC ⟨len_map _ _, trivial⟩ trivial (by kernel_rfl) ?_
    obtain ⟨w4, hm4, hret4, hnext4⟩ := andThen_inv h
    clear h
    refine WI_cut (by kernel_rfl) (fun s => w4 = .next s) (sa17s1_4) (Ra17s1_4 x1 z1 z3) ?_ fun z4 hs4 => ?_
    ·refine WI_blk (by kernel_rfl) ?_
     refine WI_lenO 89 3 rfl rfl fun hl4 => ?_
     refine WI_foldI (by kernel_rfl) F17s1_l4 (st17s1_4 x1) (R17s1_4 x1 z1 z3) w4 x1.Consumers (z3.2.1, z3.2.2.1, ([] : List Int)) hm4 rfl rfl (fun z4 hn4 => ?_) fun n4 a4 z4 w4b hi4 hx4 h hb4 hr4 => ?_
     ·clear hm4
      exact WI_end (bs := [(decide ((cnt 0 x1.Consumers.length) < (x1.Consumers.length : Int)), false)]) (φ := fun s' => w4 = .next s') (st' := (sa17s1_4)) (R' := (Ra17s1_4 x1 z1 z3)) mixed lv17s1 26 [false] [] [] 4 n15_ (z4.1, z4.2.1, z4.2.2) hC trivial ⟨(cnt_end hl4), trivial⟩ (by kernel_rfl) (by kernel_rfl) hn4
     ·unfold F17s1_l4 at h
      obtain ⟨y25, h26, h⟩ := bindE h
      obtain ⟨y27, h28, h⟩ := bindE h
      exact WI_end (bs := [(decide ((cnt 0 n4) < (x1.Consumers.length : Int)), true)]) (φ := fun s' => w4b = .next s') (st' := (st17s1_4 x1 (n4 + 1))) (R' := (R17s1_4 x1 z1 z3 (n4 + 1))) mixed lv17s1 33 [true] [.row (x1.Consumers.map q108) (cnt 0 n4) (q108 a4), .row (x1.Consumers.map q108) (((Int.toNat (cnt 0 n4)) : Nat) : Int) (q108 a4), .nz 3, .call 62 [.d (.o 0 0), .d (DS pI [a4.Load, a4.Load, a4.Least, w64 (Int.tdiv a4.Load 3)])] [.box 121 [DS pI z4.1, I z4.2.1]] (.d (I y25.1)) [.box 121 (d121 y25.2)] [0], .app (z4.2.2.map pI) ([y25.1].map pI) 1 (((z4.2.2.map pI).length + ([y25.1].map pI).length) * (8 + 1)) (y27.map pI)] [] 4 [0, 1, 2, 3, 4, 5, 6, 7, 8, 9, 10, 11, 12, 16, 14] (y25.2.L, y25.2.At, y27) hC ⟨row_get (get_cnt hx4 hl4), row_getN (get_cnt hx4 hl4), nz_lit rfl, ⟨e62, (k62 (⟨z4.1, z4.2.1⟩ : dynposmake_Src) [a4.Load, a4.Load, a4.Least, w64 (Int.tdiv a4.Load 3)] _ h26)⟩, app_get pI 1 (fun _ => rfl) h28, trivial⟩ ⟨(cnt_lt hi4 hl4), trivial⟩ (by kernel_rfl) (by kernel_rfl) (sI h).symm
    ·have h := hnext4 _ hs4
     refine WI_stop (bs := []) mixed lv17s1 24 [] [] [] 4 n15_ (st17s1_5 (1, z4.1, z4.2.1, ([] : List api_Part))) (R17s1_5 x1 z1 z3 z4 (1, z4.1, z4.2.1, ([] : List api_Part))) hC trivial trivial (by kernel_rfl) ?_
     obtain ⟨w5, hm5, hret5, hnext5⟩ := andThen_inv h
     clear h
     refine WI_cut (by kernel_rfl) (fun s => w5 = .next s) (sa17s1_5) (Ra17s1_5 x1 z1 z3 z4) ?_ fun z5 hs5 => ?_
     ·refine WI_blk (by kernel_rfl) ?_
      refine WI_while (by kernel_rfl) (F17s1_l5 x1) (st17s1_5) (R17s1_5 x1 z1 z3 z4) w5 7 (1, z4.1, z4.2.1, ([] : List api_Part)) hm5 rfl rfl fun z5 w5b h hb5 hr5 => ?_
      unfold F17s1_l5 at h
      rcases boolC (decide (z5.1 ≤ 4)) with h29 | h29
      ·replace h := condT h29 h
       obtain ⟨y30, h31, h⟩ := bindE h
       rcases boolC ((y30.1 == 4)) with h32 | h32
       ·replace h := condT h32 h
        obtain ⟨y33, h34, h⟩ := bindE h
        refine WI_stop (bs := [(decide (z5.1 ≤ 4), true), ((y30.1 == 4), true)]) mixed lv17s1 35 [true, true] [.call 63 [.d (.o 0 0), .d (I 5)] [.box 121 [DS pI z5.2.1, I z5.2.2.1]] (.d (I y30.1)) [.box 121 (d121 y30.2)] [0], .call 63 [.d (.o 0 0), .d (I 4)] [.box 121 (d121 y30.2)] (.d (I y33.1)) [.box 121 (d121 y33.2)] [0], .callB 64 [.agg (d29 x1), .agg [I z5.1, I y33.1]] (.d (Bo (F64 x1 (⟨z5.1, y33.1⟩ : api_Part)))) [[]] 0 []] [] 4 n16_ [(0, .d (.o 0 0)), (3, .d (.o 4 0)), (4, .d (.o 5 0)), (5, .d (.o 6 0)), (12, .d (I z5.1)), (13, .d (.o 15 0)), (126, .d (Bo (F64 x1 (⟨z5.1, y33.1⟩ : api_Part))))] (.box 121 (d121 y33.2) :: s3 x1 (.box 29 [I x1.Buses, .os 1, .os 2, .os 3, I x1.Phase, I x1.Frequency] :: .box 35 [.os 7, .os 8, .os 9, .os 10] :: .box 35 [.os 11, .os 12, .os 13, .os 14] :: e4 [.sl 4 1 (z1.2.map pB), .sl 59 4 (z3.2.2.2.map q59), .sl 3 1 (z4.2.2.map pI), .sl 119 2 (z5.2.2.2.map q119), .box 119 [I z5.1, I y33.1]])) hC ⟨⟨e63, (k63 (⟨z5.2.1, z5.2.2.1⟩ : dynposmake_Src) 5 _ h31)⟩, ⟨e63, (k63 y30.2 4 _ h34)⟩, lend0_get ⟨e64, (k64 x1 (⟨z5.1, y33.1⟩ : api_Part) _ rfl)⟩, trivial⟩ ⟨h29, h32, trivial⟩ (by kernel_rfl) ?_
        rcases boolC (F64 x1 (⟨z5.1, y33.1⟩ : api_Part)) with h35 | h35
        ·replace h := condT h35 h
         obtain ⟨y36, h37, h⟩ := bindE h
         exact WI_end (bs := [(F64 x1 (⟨z5.1, y33.1⟩ : api_Part), true)]) (φ := fun s' => w5b = .next s') (st' := (st17s1_5)) (R' := (R17s1_5 x1 z1 z3 z4)) mixed lv17s1 25 [true] [.app (z5.2.2.2.map q119) ([(⟨z5.1, y33.1⟩ : api_Part)].map q119) 2 (((z5.2.2.2.map q119).length + ([(⟨z5.1, y33.1⟩ : api_Part)].map q119).length) * (16 + 1)) (y36.map q119)] [] 4 [0, 1, 2, 3, 4, 5, 6, 7, 8, 9, 10, 11, 12, 13, 16] (w64 (z5.1 + 1), y33.2.L, y33.2.At, y36) hC ⟨app_get q119 2 (fun _ => rfl) h37, trivial⟩ ⟨h35, trivial⟩ (by kernel_rfl) (by kernel_rfl) (sI h).symm
        ·replace h := condF h35 h
         exact WI_end (bs := [(F64 x1 (⟨z5.1, y33.1⟩ : api_Part), false)]) (φ := fun s' => w5b = .next s') (st' := (st17s1_5)) (R' := (R17s1_5 x1 z1 z3 z4)) mixed lv17s1 25 [false] [] [] 4 n15_ (w64 (z5.1 + 1), y33.2.L, y33.2.At, z5.2.2.2) hC trivial ⟨h35, trivial⟩ (by kernel_rfl) (by kernel_rfl) (sI h).symm
       ·replace h := condF h32 h
        exact WI_end (bs := [(decide (z5.1 ≤ 4), true), ((y30.1 == 4), false)]) (φ := fun s' => w5b = .next s') (st' := (st17s1_5)) (R' := (R17s1_5 x1 z1 z3 z4)) mixed lv17s1 34 [true, false] [.call 63 [.d (.o 0 0), .d (I 5)] [.box 121 [DS pI z5.2.1, I z5.2.2.1]] (.d (I y30.1)) [.box 121 (d121 y30.2)] [0]] [] 4 n15_ (w64 (z5.1 + 1), y30.2.L, y30.2.At, z5.2.2.2) hC ⟨⟨e63, (k63 (⟨z5.2.1, z5.2.2.1⟩ : dynposmake_Src) 5 _ h31)⟩, trivial⟩ ⟨h29, h32, trivial⟩ (by kernel_rfl) (by kernel_rfl) (sI h).symm
      ·replace h := condF h29 h
       exact WI_end (bs := [(decide (z5.1 ≤ 4), false)]) (φ := fun s' => w5 = .next s') (st' := (sa17s1_5)) (R' := (Ra17s1_5 x1 z1 z3 z4)) mixed lv17s1 26 [false] [] [] 4 [0, 1, 2, 3, 5, 6, 7, 8, 9, 10, 11, 12, 13, 14] (z5.1, z5.2.1, z5.2.2.1, z5.2.2.2) hC trivial ⟨h29, trivial⟩ (by kernel_rfl) (by kernel_rfl) (hb5 _ (sI h).symm)
     ·have h := hnext5 _ hs5
      replace h := sI h
      subst h
      exact WI_ret (bs := []) mixed lv17s1 23 [] [] [] [.cell 4 35] 4 [0, 1, 2, 3, 10, 11, 12, 13] rfl hC trivial trivial (by kernel_rfl)
theorem e17s1 : Enters Tryz.prog 17 := Go.SL.enters_of Tryz.func17 (by kernel_rfl) (by kernel_rfl)
def lv172 : List Nat := [0, 1, 2, 3, 4, 6, 16, 17, 18, 19, 28, 29, 44, 71]
def st172_0 (x0 : api_Board) (n0 : Nat) (z0 : (List Int) × (List (List Int))) : St := [(1, .d (.o 0 0)), (2, .d (Bo false)), (3, .d (.os 1)), (4, .d (.os 2)), (16, .d (DS q66 x0.Breakers)), (17, .d (I (x0.Breakers.length : Int))), (18, .d (I (cnt 0 n0)))]
def R172_0 (x0 : api_Board) (n0 : Nat) (z0 : (List Int) × (List (List Int))) : List Res := [.box 29 (d29 x0), .sl 3 1 (z0.1.map pI), .dsl 22 1 3, .gh 1 [(3, 1)] (z0.2.map (pL pI)) none]
def sa172_0  (z0 : (List Int) × (List (List Int))) : St := [(2, .d (Bo false)), (3, .d (.os 0)), (4, .d (.os 1))]
def Ra172_0  (z0 : (List Int) × (List (List Int))) : List Res := [.sl 3 1 (z0.1.map pI), .dsl 22 1 2, .gh 1 [(3, 1)] (z0.2.map (pL pI)) none]
theorem k172 (x0 : api_Board) (r : Bool) (h : F172 x0 = some r) : CallOk Tryz.prog 172 [.agg (d29 x0)] [] (.d (Bo r)) [] := by
 unfold F172 at h
 refine callOk_of 116 Tryz.func172 rfl rfl rfl fun C hC => ?_
 obtain ⟨y1, h2, h⟩ := bindE h
 obtain ⟨y3, h4, h⟩ := bindE h
 refine WI_stop (bs := []) mixed lv172 28 [] [.flts [.sl 3 1 (y1.map pI), .zsl 22 1 (y3.map (pL pI))], .len ((x0.Sources.map q57).length : Int) (x0.Sources.length : Int), .fltm 1 (.room ((x0.Sources.length : Int) * (8 + 1)) (List.replicate (Int.toNat (x0.Sources.length : Int)) (pI 0)) (y1.map pI)) (.sl 3 1 (y1.map pI)) (.sl 3 1 (y1.map pI)), .len ((x0.Consumers.map q108).length : Int) (x0.Consumers.length : Int), .fltm 2 (.roomZ ((x0.Consumers.length : Int) * (24 + 1)) (List.replicate (Int.toNat (x0.Consumers.length : Int)) ((pL pI) ([] : List Int))) (y3.map (pL pI))) (.zsl 22 1 (y3.map (pL pI))) (.zsl 22 1 (y3.map (pL pI))), .len ((x0.Breakers.map q66).length : Int) (x0.Breakers.length : Int)] [.deep 2 [(3, 1)]] 0 n4_ (st172_0 x0 0 (y1, y3)) (R172_0 x0 0 (y1, y3)) hC ⟨trivial, len_map _ _, ⟨make_get h2, rfl⟩, len_map _ _, ⟨makez_get h4, rfl⟩, len_map _ _, trivial⟩ trivial (by kernel_rfl) ?_
 obtain ⟨w0, hm0, hret0, hnext0⟩ := andThen_inv h
 clear h
 refine WI_cut (by kernel_rfl) (fun s => w0 = .next s) (sa172_0) (Ra172_0) ?_ fun z0 hs0 => ?_
 ·refine WI_blk (by kernel_rfl) ?_
  refine WI_len 16 rfl fun hl0 => ?_
  refine WI_foldI (by kernel_rfl) (F172_l0 x0) (st172_0 x0) (R172_0 x0) w0 x0.Breakers (y1, y3) hm0 rfl rfl (fun z0 hn0 => ?_) fun n0 a0 z0 w0b hi0 hx0 h hb0 hr0 => ?_
  ·clear hm0
   exact WI_end (bs := [(decide ((cnt 0 x0.Breakers.length) < (x0.Breakers.length : Int)), false)]) (φ := fun s' => w0 = .next s') (st' := (sa172_0)) (R' := (Ra172_0)) mixed lv172 26 [false] [] [] 0 [1, 2, 3] (z0.1, z0.2) hC trivial ⟨(cnt_end hl0), trivial⟩ (by kernel_rfl) (by kernel_rfl) hn0
  ·unfold F172_l0 at h
   refine WI_stop (bs := [(decide ((cnt 0 n0) < (x0.Breakers.length : Int)), true)]) mixed lv172 33 [true] [.row (x0.Breakers.map q66) (cnt 0 n0) (q66 a0), .call 132 [.d (I a0.A), .d (I 0), .d (I (w64 (x0.Buses - 1)))] [] (.d (Bo (F132 a0.A 0 (w64 (x0.Buses - 1))))) [] []] [] 0 n5_ [(1, .d (.o 0 0)), (2, .d (Bo false)), (3, .d (.os 1)), (4, .d (.os 2)), (6, .d (.o 4 0)), (16, .d (DS q66 x0.Breakers)), (17, .d (I (x0.Breakers.length : Int))), (18, .d (I (cnt 0 n0))), (28, .d (Bo (!(F132 a0.A 0 (w64 (x0.Buses - 1))))))] [.box 29 (d29 x0), .sl 3 1 (z0.1.map pI), .dsl 22 1 3, .gh 1 [(3, 1)] (z0.2.map (pL pI)) none, .box 66 (d66 a0)] hC ⟨(row_cnt hx0 hl0), ⟨e132, (k132 a0.A 0 (w64 (x0.Buses - 1)) _ rfl)⟩, trivial⟩ ⟨(cnt_lt hi0 hl0), trivial⟩ (by kernel_rfl) ?_
   rcases boolC (!(F132 a0.A 0 (w64 (x0.Buses - 1)))) with h5 | h5
   ·replace h := condT h5 h
    have hq := hret0 _ (hr0 _ (sI h).symm)
    replace hq := sI hq
    subst hq
    exact WI_ret (bs := [(!(F132 a0.A 0 (w64 (x0.Buses - 1))), true)]) mixed lv172 24 [true] [] [] [.tmp 2] 0 [] rfl hC trivial ⟨h5, trivial⟩ (by kernel_rfl)
   ·replace h := condF h5 h
    refine WI_stop (bs := [(!(F132 a0.A 0 (w64 (x0.Buses - 1))), false)]) mixed lv172 26 [false] [.when [((a0.Kind == 1), true)] (.call 132 [.d (I a0.B), .d (I (w64 (a0.A + 1))), .d (I (w64 (x0.Buses - 1)))] [] (.d (Bo (F132 a0.B (w64 (a0.A + 1)) (w64 (x0.Buses - 1))))) [] [])] [] 0 n5_ [(1, .d (.o 0 0)), (2, .d (Bo false)), (3, .d (.os 1)), (4, .d (.os 2)), (6, .d (.o 4 0)), (16, .d (DS q66 x0.Breakers)), (17, .d (I (x0.Breakers.length : Int))), (18, .d (I (cnt 0 n0))), (29, .d (Bo (c172_6 x0 a0)))] [.box 29 (d29 x0), .sl 3 1 (z0.1.map pI), .dsl 22 1 3, .gh 1 [(3, 1)] (z0.2.map (pL pI)) none, .box 66 (d66 a0)] hC ⟨fun hg => ⟨e132, (k132 a0.B (w64 (a0.A + 1)) (w64 (x0.Buses - 1)) _ rfl)⟩, trivial⟩ ⟨h5, trivial⟩ (by kernel_rfl) ?_
    rcases boolC ((c172_6 x0 a0)) with h6 | h6
    ·replace h := condT h6 h
     exact WI_end (bs := [((c172_6 x0 a0), true)]) (φ := fun s' => w0b = .next s') (st' := (st172_0 x0 (n0 + 1))) (R' := (R172_0 x0 (n0 + 1))) mixed lv172 26 [true] [] [] 0 n4_ (z0.1, z0.2) hC trivial ⟨h6, trivial⟩ (by kernel_rfl) (by kernel_rfl) (sI h).symm
    ·replace h := condF h6 h
     obtain ⟨y7, h8, h⟩ := bindE h
     refine WI_stop (bs := [((c172_6 x0 a0), false)]) mixed lv172 24 [false] [.when [((a0.Kind == 2), true)] (.len ((z0.1.map pI).length : Int) (z0.1.length : Int)), .when [((a0.Kind == 2), true)] (.call 132 [.d (I a0.B), .d (I 0), .d (I (w64 ((z0.1.length : Int) - 1)))] [] (.d (Bo (F132 a0.B 0 (w64 ((z0.1.length : Int) - 1))))) [] []), .when [(((a0.Kind == 2) && (F132 a0.B 0 (w64 ((z0.1.length : Int) - 1)))), true)] (.row (z0.1.map pI) a0.B (pI y7)), .when [(((a0.Kind == 2) && (F132 a0.B 0 (w64 ((z0.1.length : Int) - 1)))), true)] (.row (z0.1.map pI) (((Int.toNat a0.B) : Nat) : Int) (pI y7))] [] 0 n5_ [(1, .d (.o 0 0)), (2, .d (Bo false)), (3, .d (.os 1)), (4, .d (.os 2)), (6, .d (.o 4 0)), (16, .d (DS q66 x0.Breakers)), (17, .d (I (x0.Breakers.length : Int))), (18, .d (I (cnt 0 n0))), (44, .d (Bo (c172_7 z0 a0 y7)))] [.box 29 (d29 x0), .sl 3 1 (z0.1.map pI), .dsl 22 1 3, .gh 1 [(3, 1)] (z0.2.map (pL pI)) none, .box 66 (d66 a0)] hC ⟨fun hg => len_map _ _, fun hg => ⟨e132, (k132 a0.B 0 (w64 ((z0.1.length : Int) - 1)) _ rfl)⟩, fun hg => row_get (guardO_get h8 hg), fun hg => row_getN (guardO_get h8 hg), trivial⟩ ⟨h6, trivial⟩ (by kernel_rfl) ?_
     rcases boolC ((c172_7 z0 a0 y7)) with h9 | h9
     ·replace h := condT h9 h
      obtain ⟨y10, h11, h⟩ := bindE h
      obtain ⟨y12, h13, h⟩ := bindE h
      exact WI_end (bs := [((c172_7 z0 a0 y7), true)]) (φ := fun s' => w0b = .next s') (st' := (st172_0 x0 (n0 + 1))) (R' := (R172_0 x0 (n0 + 1))) mixed lv172 26 [true] [.row (z0.1.map pI) a0.B (pI y10), .row (z0.1.map pI) (((Int.toNat a0.B) : Nat) : Int) (pI y10), .row (z0.1.map pI) a0.B (pI y10), .upd (z0.1.map pI) (Int.toNat a0.B) (pI y10) (pI (w64 (y10 + 1))) (y12.map pI)] [] 0 n4_ (y12, z0.2) hC ⟨row_get h11, row_getN h11, row_get h11, upd_get h11 h13, trivial⟩ ⟨h9, trivial⟩ (by kernel_rfl) (by kernel_rfl) (sI h).symm
     ·replace h := condF h9 h
      obtain ⟨y14, h15, h⟩ := bindE h
      obtain ⟨y16, h17, h⟩ := bindE h
      refine WI_stop (bs := [((c172_7 z0 a0 y7), false)]) mixed lv172 24 [false] [.when [((a0.Kind == 3), true)] (.len ((z0.2.map (pL pI)).length : Int) (z0.2.length : Int)), .when [((a0.Kind == 3), true)] (.call 132 [.d (I a0.B), .d (I 0), .d (I (w64 ((z0.2.length : Int) - 1)))] [] (.d (Bo (F132 a0.B 0 (w64 ((z0.2.length : Int) - 1))))) [] []), .when [(((a0.Kind == 3) && (F132 a0.B 0 (w64 ((z0.2.length : Int) - 1)))), true)] (.row (z0.2.map (pL pI)) a0.B ((pL pI) y14)), .when [(((a0.Kind == 3) && (F132 a0.B 0 (w64 ((z0.2.length : Int) - 1)))), true)] (.row (z0.2.map (pL pI)) (((Int.toNat a0.B) : Nat) : Int) ((pL pI) y14)), .when [(((a0.Kind == 3) && (F132 a0.B 0 (w64 ((z0.2.length : Int) - 1)))), true)] (.callB 96 [.d (DS pI y14), .d (I a0.A)] (.d (Bo y16)) (z0.2.map (pL pI)) (Int.toNat a0.B) ((pL pI) y14))] [] 0 n5_ [(1, .d (.o 0 0)), (2, .d (Bo false)), (3, .d (.os 1)), (4, .d (.os 2)), (6, .d (.o 4 0)), (16, .d (DS q66 x0.Breakers)), (17, .d (I (x0.Breakers.length : Int))), (18, .d (I (cnt 0 n0))), (71, .d (Bo (c172_8 z0 a0 y16)))] [.box 29 (d29 x0), .sl 3 1 (z0.1.map pI), .dsl 22 1 3, .gh 1 [(3, 1)] (z0.2.map (pL pI)) none, .box 66 (d66 a0)] hC ⟨fun hg => len_map _ _, fun hg => ⟨e132, (k132 a0.B 0 (w64 ((z0.2.length : Int) - 1)) _ rfl)⟩, fun hg => row_get (guardO_get h15 hg), fun hg => row_getN (guardO_get h15 hg), fun hg => lend_get ⟨e96, (k96 y14 a0.A _ (guardO_get h17 hg))⟩ (guardO_get h15 hg), trivial⟩ ⟨h9, trivial⟩ (by kernel_rfl) ?_
      rcases boolC ((c172_8 z0 a0 y16)) with h18 | h18
      ·replace h := condT h18 h
       obtain ⟨y19, h20, h⟩ := bindE h
       obtain ⟨y21, h22, h⟩ := bindE h
       obtain ⟨y23, h24, h⟩ := bindE h
       exact WI_end (bs := [((c172_8 z0 a0 y16), true)]) (φ := fun s' => w0b = .next s') (st' := (st172_0 x0 (n0 + 1))) (R' := (R172_0 x0 (n0 + 1))) mixed lv172 26 [true] [.row (z0.2.map (pL pI)) a0.B ((pL pI) y19), .row (z0.2.map (pL pI)) (((Int.toNat a0.B) : Nat) : Int) ((pL pI) y19), .appD (z0.2.map (pL pI)) (Int.toNat a0.B) ((pL pI) y19) 0 (y19.map pI) ([a0.A].map pI) 1 (((y19.map pI).length + ([a0.A].map pI).length) * (8 + 1)) (y21.map pI), .row (z0.2.map (pL pI)) a0.B ((pL pI) y19), .updD (z0.2.map (pL pI)) (Int.toNat a0.B) (Int.toNat a0.B) ((pL pI) y19) ((pL pI) y21) (y23.map (pL pI))] [] 0 [0, 1, 2, 8] (z0.1, y23) hC ⟨row_get h20, row_getN h20, appD_get 1 (fun _ => rfl) h20 rfl h22, row_get h20, updD_get h20 h24, trivial⟩ ⟨h18, trivial⟩ (by kernel_rfl) (by kernel_rfl) (sI h).symm
      ·replace h := condF h18 h
       have hq := hret0 _ (hr0 _ (sI h).symm)
       replace hq := sI hq
       subst hq
       exact WI_ret (bs := [((c172_8 z0 a0 y16), false)]) mixed lv172 24 [false] [] [] [.tmp 2] 0 [] rfl hC trivial ⟨h18, trivial⟩ (by kernel_rfl)
 ·have h := hnext0 _ hs0
  refine WI_stop (bs := []) mixed lv172 1 [] [] [.flat 1] 0 [0, 1] [(2, .d (Bo false)), (3, .d (.os 0)), (4, .d (.os 1))] [.sl 3 1 (z0.1.map pI), .sl 22 1 (z0.2.map (pL pI))] hC trivial trivial (by kernel_rfl) ?_
  obtain ⟨y27, h28, h⟩ := bindE h
  obtain ⟨y29, h30, h⟩ := bindE h
  replace h := sI h
  subst h
  exact WI_ret (bs := []) mixed lv172 22 [] [.callB 96 [.d (DS pI z0.1), .d (I 0)] (.d (Bo y27)) [[]] 0 [], .when [(!y27, true)] (.callB 232 [.d (DS (pL pI) z0.2), .d (.fn (.func 233) [] [])] (.d (Bo y29)) [[]] 0 [])] [] [.tmp 2] 0 [] rfl hC ⟨lend0_get ⟨e96, (k96 z0.1 0 _ h28)⟩, fun hg => lend0_get ⟨e232s0, (k232s0 z0.2 _ (guardO_get h30 hg))⟩, trivial⟩ trivial (by kernel_rfl)
theorem e172 : Enters Tryz.prog 172 := Go.SL.enters_of Tryz.func172 (by kernel_rfl) (by kernel_rfl)
def lv211s0 : List Nat := [0, 1, 4, 5, 7, 8, 9, 16]
def st211s0_0 (x0 : List api_Running) (n0 : Nat) (z0 : Unit) : St := [(0, .d (DS q59 x0)), (1, .d (.fn (.func 130) [] [])), (4, .d (I 0)), (7, .d (I (x0.length : Int))), (8, .d (I (cnt 0 n0)))]
def R211s0_0  (n0 : Nat) (z0 : Unit) : List Res := []
def sa211s0_0  (z0 : Unit) : St := [(4, .d (I 0))]
def Ra211s0_0  (z0 : Unit) : List Res := []
theorem k211s0 (x0 : List api_Running) (r : Int) (h : F211s0 x0 = some r) : CallOk Tryz.prog 211 [.d (DS q59 x0), .d (.fn (.func 130) [] [])] [] (.d (I r)) [] := by
 unfold F211s0 at h
 refine callOk_of 19 Tryz.func211 rfl rfl rfl fun C hC => ?_
 refine WI_stop (bs := []) mixed lv211s0 26 [] [.len ((x0.map q59).length : Int) (x0.length : Int)] [] 0 [] (st211s0_0 x0 0 ()) (R211s0_0 0 ()) hC ⟨len_map _ _, trivial⟩ trivial (by kernel_rfl) ?_
 obtain ⟨w0, hm0, hret0, hnext0⟩ := andThen_inv h
 clear h
 refine WI_cut (by kernel_rfl) (fun s => w0 = .next s) (sa211s0_0) (Ra211s0_0) ?_ fun z0 hs0 => ?_
 ·refine WI_blk (by kernel_rfl) ?_
  refine WI_len 0 rfl fun hl0 => ?_
  refine WI_foldI (by kernel_rfl) F211s0_l0 (st211s0_0 x0) (R211s0_0) w0 x0 () hm0 rfl rfl (fun z0 hn0 => ?_) fun n0 a0 z0 w0b hi0 hx0 h hb0 hr0 => ?_
  ·clear hm0
   exact WI_end (bs := [(decide ((cnt 0 x0.length) < (x0.length : Int)), false)]) (φ := fun s' => w0 = .next s') (st' := (sa211s0_0)) (R' := (Ra211s0_0)) mixed lv211s0 26 [false] [] [] 0 [] () hC trivial ⟨(cnt_end hl0), trivial⟩ (by kernel_rfl) (by kernel_rfl) hn0
  ·unfold F211s0_l0 at h
   refine WI_stop (bs := [(decide ((cnt 0 n0) < (x0.length : Int)), true)]) mixed lv211s0 32 [true] [.row (x0.map q59) (cnt 0 n0) (q59 a0), .call 130 [.agg (d59 a0)] [] (.d (Bo (F130 a0))) [] []] [] 0 [] [(0, .d (DS q59 x0)), (1, .d (.fn (.func 130) [] [])), (4, .d (I 0)), (5, .d (I (cnt 0 n0))), (7, .d (I (x0.length : Int))), (8, .d (I (cnt 0 n0))), (16, .d (Bo (F130 a0)))] [] hC ⟨(row_cnt hx0 hl0), ⟨e130, (k130 a0 _ rfl)⟩, trivial⟩ ⟨(cnt_lt hi0 hl0), trivial⟩ (by kernel_rfl) ?_
   rcases boolC (F130 a0) with h1 | h1
   ·replace h := condT h1 h
    have hq := hret0 _ (hr0 _ (sI h).symm)
    replace hq := sI hq
    subst hq
    exact WI_ret (bs := [(F130 a0, true)]) mixed lv211s0 24 [true] [] [] [.tmp 4] 0 [] rfl hC trivial ⟨h1, trivial⟩ (by kernel_rfl)
   ·replace h := condF h1 h
    exact WI_end (bs := [(F130 a0, false)]) (φ := fun s' => w0b = .next s') (st' := (st211s0_0 x0 (n0 + 1))) (R' := (R211s0_0 (n0 + 1))) mixed lv211s0 25 [false] [] [] 0 [] () hC trivial ⟨h1, trivial⟩ (by kernel_rfl) (by kernel_rfl) (sI h).symm
 ·have h := hnext0 _ hs0
  replace h := sI h
  subst h
  exact WI_ret (bs := []) mixed lv211s0 23 [] [] [] [.tmp 4] 0 [] rfl hC trivial trivial (by kernel_rfl)
theorem e211s0 : Enters Tryz.prog 211 := Go.SL.enters_of Tryz.func211 (by kernel_rfl) (by kernel_rfl)
theorem k68 (x0 : api_Board) (x1 : api_Power) (x2 : Int) (r : Bool) (h : F68 x0 x1 x2 = some r) : CallOk Tryz.prog 68 [.agg (d29 x0), .agg (d35 x1), .d (I x2)] [] (.d (Bo r)) [] := by
 unfold F68 at h
 refine callOk_of 36 Tryz.func68 rfl rfl rfl fun C hC => ?_
 obtain ⟨y1, h2, h⟩ := bindE h
 obtain ⟨y3, h4, h⟩ := bindE h
 obtain ⟨y5, h6, h⟩ := bindE h
 obtain ⟨y7, h8, h⟩ := bindE h
 replace h := sI h
 subst h
 exact WI_ret (bs := []) mixed [0, 1, 2, 3, 4, 6, 7] 27 [] [.row (x0.Breakers.map q66) x2 (q66 y1), .call 134 [.agg (d35 x1), .d (I 2), .d (I x2)] [] (.d (Bo y3)) [] [], .when [(!y3, true)] (.call 134 [.agg (d35 x1), .d (I 3), .d (I y1.A)] [] (.d (Bo y5)) [] []), .when [(((!y3) && (!y5)), true), ((y1.Kind != 1), false)] (.call 134 [.agg (d35 x1), .d (I 3), .d (I y1.B)] [] (.d (Bo y7)) [] [])] [] [.tmp 6] 0 [] rfl hC ⟨row_get h2, ⟨e134, (k134 x1 2 x2 _ h4)⟩, fun hg => ⟨e134, (k134 x1 3 y1.A _ (guardO_get h6 hg))⟩, fun hg => ⟨e134, (k134 x1 3 y1.B _ (guardO_get h8 hg))⟩, trivial⟩ trivial (by kernel_rfl)
theorem e68 : Enters Tryz.prog 68 := Go.SL.enters_of Tryz.func68 (by kernel_rfl) (by kernel_rfl)
theorem k216s0 (x0 : restore_worker) (x1 : Int) (r : Bool) (h : F216s0 x0 x1 = some r) : CallOk Tryz.prog 216 [.d (.ip [.v (.int .i64 x0.board.Buses), .s (x0.board.Breakers.map q66), .s (x0.board.Sources.map q57), .s (x0.board.Consumers.map q108), .v (.int .i64 x0.board.Phase), .v (.int .i64 x0.board.Frequency), .s (x0.power.Closed.map pB), .s (x0.power.Sources.map q59), .s (x0.power.Limits.map pI), .s (x0.power.Broken.map q119), .v (.int .i64 x0.time)]), .d (I x1)] [] (.d (Bo r)) [] := by
 unfold F216s0 at h
 refine callOk_of 19 Tryz.func216 rfl rfl rfl fun C hC => ?_
 obtain ⟨y1, h2, h⟩ := bindE h
 obtain ⟨y3, h4, h⟩ := bindE h
 replace h := sI h
 subst h
 exact WI_ret (bs := []) mixed [0, 1, 4] 25 [] [.call 67 [.agg (d29 x0.board), .d (I x1)] [] (.d (I y1)) [] [], .row (x0.power.Closed.map pB) y1 (pB y3)] [] [.tmp 4] 0 [] rfl hC ⟨⟨e67, (k67 x0.board x1 _ h2)⟩, row_get h4, trivial⟩ trivial (by kernel_rfl)
theorem e216s0 : Enters Tryz.prog 216 := Go.SL.enters_of Tryz.func216 (by kernel_rfl) (by kernel_rfl)
theorem k256s0 (x0 : Int) (x1 : Int) (x2 : shed_relief) (r : Bool × shed_relief) (h : F256s0 x0 x1 x2 = some r) : CallOk Tryz.prog 256 [.d (I x0), .d (I x1), .d (.o 0 0)] (.box 198 [.o 1 0] :: .box 244 (b6 x2.board [.os 2, .os 3, .os 4, .os 5, .os 6]) :: p4 x2.power [.sl 42 3 (x2.acts.map q42)]) (.d (Bo r.1)) (.box 198 [.o 1 0] :: .box 244 (b6 r.2.board [.os 2, .os 3, .os 4, .os 5, .os 6]) :: p4 r.2.power [.sl 42 3 (r.2.acts.map q42)]) := by
 unfold F256s0 at h
 refine callOk_of 13 Tryz.func256 rfl rfl rfl fun C hC => ?_
 obtain ⟨y1, h2, h⟩ := bindE h
 replace h := sI h
 subst h
 exact WI_ret (bs := []) mixed [0, 1, 2, 5] 25 [] [.callB 134 [.agg (d35 x2.power), .d (I x0), .d (I x1)] (.d (Bo y1)) [[]] 0 []] [] [.tmp 5] 7 n7_ rfl hC ⟨lend0_get ⟨e134, (k134 x2.power x0 x1 _ h2)⟩, trivial⟩ trivial (by kernel_rfl)
theorem e256s0 : Enters Tryz.prog 256 := Go.SL.enters_of Tryz.func256 (by kernel_rfl) (by kernel_rfl)
def lv276s1 : List Nat := [0, 1, 2, 3, 8, 9, 14, 34]
def st276s1_0 (x1 : Int) (x2 : Int) (z0 : Int × (List Int)) : St := [(0, .d (.os 0)), (1, .d (I x1)), (2, .d (I x2)), (3, .d (.fn (.func 231) [] [.o 1 0])), (8, .d (I z0.1))]
def R276s1_0 (x3c0 : api_Board) (z0 : Int × (List Int)) : List Res := [.sl 3 1 (z0.2.map pI), .box 29 (d29 x3c0)]
def sa276s1_0  (z0 : Int × (List Int)) : St := []
def Ra276s1_0 (x3c0 : api_Board) (z0 : Int × (List Int)) : List Res := [.sl 3 1 (z0.2.map pI), .box 29 (d29 x3c0)]
def st276s1_1 (x1 : Int) (x2 : Int) (z0 : Int × (List Int)) (z1 : Int × (List Int)) : St := [(0, .d (.os 0)), (1, .d (I x1)), (2, .d (I x2)), (3, .d (.fn (.func 231) [] [.o 1 0])), (8, .d (I z0.1)), (9, .d (I z1.1))]
def R276s1_1 (x3c0 : api_Board) (z1 : Int × (List Int)) : List Res := [.sl 3 1 (z1.2.map pI), .box 29 (d29 x3c0)]
def sa276s1_1 (x1 : Int) (x2 : Int) (z0 : Int × (List Int)) (z1 : Int × (List Int)) : St := [(0, .d (.os 0)), (1, .d (I x1)), (2, .d (I x2)), (3, .d (.fn (.func 231) [] [.o 1 0])), (8, .d (I z0.1))]
def Ra276s1_1 (x3c0 : api_Board) (z1 : Int × (List Int)) : List Res := [.sl 3 1 (z1.2.map pI), .box 29 (d29 x3c0)]
theorem k276s1 (x0 : List Int) (x1 : Int) (x2 : Int) (x3c0 : api_Board) (r : (List Int) × api_Board) (h : F276s1 x0 x1 x2 x3c0 = some r) : CallOk Tryz.prog 276 [.d (.os 0), .d (I x1), .d (I x2), .d (.fn (.func 231) [] [.o 1 0])] [.sl 3 1 (x0.map pI), .box 29 (d29 x3c0)] (.tup []) [.sl 3 1 (r.1.map pI), .box 29 (d29 r.2)] := by
 unfold F276s1 at h
 refine callOk_of 53 Tryz.func276 rfl rfl rfl fun C hC => ?_
 refine WI_stop (bs := []) mixed lv276s1 23 [] [] [] 2 [0, 1] (st276s1_0 x1 x2 (w64 (x1 + 1), x0)) (R276s1_0 x3c0 (w64 (x1 + 1), x0)) hC trivial trivial (by kernel_rfl) ?_
 obtain ⟨w0, hm0, hret0, hnext0⟩ := andThen_inv h
 clear h
 refine WI_cut (by kernel_rfl) (fun s => w0 = .next s) (sa276s1_0) (Ra276s1_0 x3c0) ?_ fun z0 hs0 => ?_
 ·refine WI_blk (by kernel_rfl) ?_
  refine WI_while (by kernel_rfl) (F276s1_l0 x1 x2 x3c0) (st276s1_0 x1 x2) (R276s1_0 x3c0) w0 1152921504606846976 (w64 (x1 + 1), x0) hm0 rfl rfl fun z0 w0b h hb0 hr0 => ?_
  unfold F276s1_l0 at h
  rcases boolC (decide (z0.1 < x2)) with h1 | h1
  ·replace h := condT h1 h
   refine WI_stop (bs := [(decide (z0.1 < x2), true)]) mixed lv276s1 30 [true] [] [] 2 [0, 1] (st276s1_1 x1 x2 z0 (z0.1, z0.2)) (R276s1_1 x3c0 (z0.1, z0.2)) hC trivial ⟨h1, trivial⟩ (by kernel_rfl) ?_
   obtain ⟨w1, hm1, hret1, hnext1⟩ := andThen_inv h
   clear h
   refine WI_cut (by kernel_rfl) (fun s => w1 = .next s) (sa276s1_1 x1 x2 z0) (Ra276s1_1 x3c0) ?_ fun z1 hs1 => ?_
   ·refine WI_blk (by kernel_rfl) ?_
    refine WI_while (by kernel_rfl) (F276s1_l1 x1 x3c0) (st276s1_1 x1 x2 z0) (R276s1_1 x3c0) w1 1152921504606846976 (z0.1, z0.2) hm1 rfl rfl fun z1 w1b h hb1 hr1 => ?_
    unfold F276s1_l1 at h
    obtain ⟨y8, h9, h⟩ := bindE h
    obtain ⟨y10, h11, h⟩ := bindE h
    obtain ⟨y12, h13, h⟩ := bindE h
    refine WI_stop (bs := []) mixed lv276s1 24 [] [.when [(decide (z1.1 > x1), true)] (.row (z1.2.map pI) z1.1 (pI y8)), .when [(decide (z1.1 > x1), true)] (.row (z1.2.map pI) (((Int.toNat z1.1) : Nat) : Int) (pI y8)), .when [(decide (z1.1 > x1), true)] (.row (z1.2.map pI) (w64 (z1.1 - 1)) (pI y10)), .when [(decide (z1.1 > x1), true)] (.row (z1.2.map pI) (((Int.toNat (w64 (z1.1 - 1))) : Nat) : Int) (pI y10)), .when [(decide (z1.1 > x1), true)] (.callB 231 [.d (I y8), .d (I y10), .d (.ip [.v (.int .i64 x3c0.Buses), .s (x3c0.Breakers.map q66), .s (x3c0.Sources.map q57), .s (x3c0.Consumers.map q108), .v (.int .i64 x3c0.Phase), .v (.int .i64 x3c0.Frequency)])] (.d (I y12)) [[]] 0 [])] [] 2 [0, 1] [(0, .d (.os 0)), (1, .d (I x1)), (2, .d (I x2)), (3, .d (.fn (.func 231) [] [.o 1 0])), (8, .d (I z0.1)), (9, .d (I z1.1)), (34, .d (Bo (c276s1_8 x1 z1 y12)))] [.sl 3 1 (z1.2.map pI), .box 29 (d29 x3c0)] hC ⟨fun hg => row_get (guardO_get h9 hg), fun hg => row_getN (guardO_get h9 hg), fun hg => row_get (guardO_get h11 hg), fun hg => row_getN (guardO_get h11 hg), fun hg => lend0_get ⟨e231s0, (k231s0 y8 y10 x3c0 _ (guardO_get h13 hg))⟩, trivial⟩ trivial (by kernel_rfl) ?_
    rcases boolC ((c276s1_8 x1 z1 y12)) with h14 | h14
    ·replace h := condT h14 h
     obtain ⟨y15, h16, h⟩ := bindE h
     obtain ⟨y17, h18, h⟩ := bindE h
     obtain ⟨y19, h20, h⟩ := bindE h
     obtain ⟨y21, h22, h⟩ := bindE h
     obtain ⟨y23, h24, h⟩ := bindE h
     exact WI_end (bs := [((c276s1_8 x1 z1 y12), true)]) (φ := fun s' => w1b = .next s') (st' := (st276s1_1 x1 x2 z0)) (R' := (R276s1_1 x3c0)) mixed lv276s1 28 [true] [.row (z1.2.map pI) (w64 (z1.1 - 1)) (pI y15), .row (z1.2.map pI) (((Int.toNat (w64 (z1.1 - 1))) : Nat) : Int) (pI y15), .row (z1.2.map pI) z1.1 (pI y17), .row (z1.2.map pI) (((Int.toNat z1.1) : Nat) : Int) (pI y17), .row (z1.2.map pI) z1.1 (pI y17), .upd (z1.2.map pI) (Int.toNat z1.1) (pI y17) (pI y15) (y19.map pI), .row (y19.map pI) (w64 (z1.1 - 1)) (pI y21), .upd (y19.map pI) (Int.toNat (w64 (z1.1 - 1))) (pI y21) (pI y17) (y23.map pI)] [] 2 [0, 1] (w64 (z1.1 - 1), y23) hC ⟨row_get h16, row_getN h16, row_get h18, row_getN h18, row_get h18, upd_get h18 h20, row_get h22, upd_get h22 h24, trivial⟩ ⟨h14, trivial⟩ (by kernel_rfl) (by kernel_rfl) (sI h).symm
    ·replace h := condF h14 h
     exact WI_end (bs := [((c276s1_8 x1 z1 y12), false)]) (φ := fun s' => w1 = .next s') (st' := (sa276s1_1 x1 x2 z0)) (R' := (Ra276s1_1 x3c0)) mixed lv276s1 23 [false] [] [] 2 [0, 1] (z1.1, z1.2) hC trivial ⟨h14, trivial⟩ (by kernel_rfl) (by kernel_rfl) (hb1 _ (sI h).symm)
   ·have h := hnext1 _ hs1
    exact WI_end (bs := []) (φ := fun s' => w0b = .next s') (st' := (st276s1_0 x1 x2)) (R' := (R276s1_0 x3c0)) mixed lv276s1 23 [] [] [] 2 [0, 1] (w64 (z0.1 + 1), z1.2) hC trivial trivial (by kernel_rfl) (by kernel_rfl) (sI h).symm
  ·replace h := condF h1 h
   exact WI_end (bs := [(decide (z0.1 < x2), false)]) (φ := fun s' => w0 = .next s') (st' := (sa276s1_0)) (R' := (Ra276s1_0 x3c0)) mixed lv276s1 26 [false] [] [] 2 [0, 1] (z0.1, z0.2) hC trivial ⟨h1, trivial⟩ (by kernel_rfl) (by kernel_rfl) (hb0 _ (sI h).symm)
 ·have h := hnext0 _ hs0
  replace h := sI h
  subst h
  exact WI_endF (bs := []) mixed lv276s1 20 [] [] [] [] 2 [0, 1] rfl hC trivial trivial (by kernel_rfl) (by kernel_rfl)
theorem e276s1 : Enters Tryz.prog 276 := Go.SL.enters_of Tryz.func276 (by kernel_rfl) (by kernel_rfl)
def lv243s1 : List Nat := [0, 1, 4, 5, 7, 8, 9, 16]
def st243s1_0 (x0 : List Int) (n0 : Nat) (z0 : Unit) : St := [(0, .d (.os 0)), (1, .d (.fn (.func 226) [] [.o 1 0])), (4, .d (I 0)), (7, .d (I (x0.length : Int))), (8, .d (I (cnt 0 n0)))]
def R243s1_0 (x0 : List Int) (x1c0 : api_Island) (n0 : Nat) (z0 : Unit) : List Res := [.sl 3 1 (x0.map pI), .box 78 (d78 x1c0)]
def sa243s1_0  (z0 : Unit) : St := [(4, .d (I 0))]
def Ra243s1_0 (x0 : List Int) (x1c0 : api_Island) (z0 : Unit) : List Res := [.sl 3 1 (x0.map pI), .box 78 (d78 x1c0)]
theorem k243s1 (x0 : List Int) (x1c0 : api_Island) (r : Int × api_Island) (h : F243s1 x0 x1c0 = some r) : CallOk Tryz.prog 243 [.d (.os 0), .d (.fn (.func 226) [] [.o 1 0])] [.sl 3 1 (x0.map pI), .box 78 (d78 x1c0)] (.d (I r.1)) [.sl 3 1 (x0.map pI), .box 78 (d78 r.2)] := by
 unfold F243s1 at h
 refine callOk_of 19 Tryz.func243 rfl rfl rfl fun C hC => ?_
 refine WI_stop (bs := []) mixed lv243s1 26 [] [.len ((x0.map pI).length : Int) (x0.length : Int)] [] 2 [0, 1] (st243s1_0 x0 0 ()) (R243s1_0 x0 x1c0 0 ()) hC ⟨len_map _ _, trivial⟩ trivial (by kernel_rfl) ?_
 obtain ⟨w0, hm0, hret0, hnext0⟩ := andThen_inv h
 clear h
 refine WI_cut (by kernel_rfl) (fun s => w0 = .next s) (sa243s1_0) (Ra243s1_0 x0 x1c0) ?_ fun z0 hs0 => ?_
 ·refine WI_blk (by kernel_rfl) ?_
  refine WI_lenO 0 0 rfl rfl fun hl0 => ?_
  refine WI_foldI (by kernel_rfl) (F243s1_l0 x1c0) (st243s1_0 x0) (R243s1_0 x0 x1c0) w0 x0 () hm0 rfl rfl (fun z0 hn0 => ?_) fun n0 a0 z0 w0b hi0 hx0 h hb0 hr0 => ?_
  ·clear hm0
   exact WI_end (bs := [(decide ((cnt 0 x0.length) < (x0.length : Int)), false)]) (φ := fun s' => w0 = .next s') (st' := (sa243s1_0)) (R' := (Ra243s1_0 x0 x1c0)) mixed lv243s1 26 [false] [] [] 2 [0, 1] () hC trivial ⟨(cnt_end hl0), trivial⟩ (by kernel_rfl) (by kernel_rfl) hn0
  ·unfold F243s1_l0 at h
   obtain ⟨y1, h2, h⟩ := bindE h
   refine WI_stop (bs := [(decide ((cnt 0 n0) < (x0.length : Int)), true)]) mixed lv243s1 32 [true] [.row (x0.map pI) (cnt 0 n0) (pI a0), .row (x0.map pI) (((Int.toNat (cnt 0 n0)) : Nat) : Int) (pI a0), .callB 226 [.d (I a0), .d (.ip [.s (x1c0.Buses.map pI), .s (x1c0.Sources.map pI), .s (x1c0.Consumers.map pI)])] (.d (Bo y1)) [[]] 0 []] [] 2 [0, 1] [(0, .d (.os 0)), (1, .d (.fn (.func 226) [] [.o 1 0])), (4, .d (I 0)), (5, .d (I (cnt 0 n0))), (7, .d (I (x0.length : Int))), (8, .d (I (cnt 0 n0))), (16, .d (Bo y1))] [.sl 3 1 (x0.map pI), .box 78 (d78 x1c0)] hC ⟨row_get (get_cnt hx0 hl0), row_getN (get_cnt hx0 hl0), lend0_get ⟨e226s0, (k226s0 a0 x1c0 _ h2)⟩, trivial⟩ ⟨(cnt_lt hi0 hl0), trivial⟩ (by kernel_rfl) ?_
   rcases boolC (y1) with h3 | h3
   ·replace h := condT h3 h
    have hq := hret0 _ (hr0 _ (sI h).symm)
    replace hq := sI hq
    subst hq
    exact WI_ret (bs := [(y1, true)]) mixed lv243s1 24 [true] [] [] [.tmp 4] 2 [0, 1] rfl hC trivial ⟨h3, trivial⟩ (by kernel_rfl)
   ·replace h := condF h3 h
    exact WI_end (bs := [(y1, false)]) (φ := fun s' => w0b = .next s') (st' := (st243s1_0 x0 (n0 + 1))) (R' := (R243s1_0 x0 x1c0 (n0 + 1))) mixed lv243s1 25 [false] [] [] 2 [0, 1] () hC trivial ⟨h3, trivial⟩ (by kernel_rfl) (by kernel_rfl) (sI h).symm
 ·have h := hnext0 _ hs0
  replace h := sI h
  subst h
  exact WI_ret (bs := []) mixed lv243s1 23 [] [] [] [.tmp 4] 2 [0, 1] rfl hC trivial trivial (by kernel_rfl)
theorem e243s1 : Enters Tryz.prog 243 := Go.SL.enters_of Tryz.func243 (by kernel_rfl) (by kernel_rfl)
end Go.Proofs.YtkngbnedbgndoaaGreat
