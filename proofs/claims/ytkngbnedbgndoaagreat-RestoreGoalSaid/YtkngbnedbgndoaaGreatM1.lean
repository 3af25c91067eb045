import Derived.Test.YtkngbnedbgndoaaGreatM0
set_option linter.unusedVariables false
namespace Go.Proofs.YtkngbnedbgndoaaGreat
open Go.SL
def lv92 : List Nat := [0, 1, 2, 3, 5, 6, 7, 29, 43, 44, 45, 46, 56, 57, 58, 59, 71]
def st92_0 (x0 : api_Board) (n0 : Nat) (z0 : Bool) : St := [(1, .d (.o 0 0)), (2, .d (I 0)), (3, .d (Bo z0)), (43, .d (DS q57 x0.Sources)), (44, .d (I (x0.Sources.length : Int))), (45, .d (I (cnt 0 n0)))]
def R92_0 (x0 : api_Board) (n0 : Nat) (z0 : Bool) : List Res := [.box 29 (d29 x0)]
def sa92_0  (z0 : Bool) : St := [(1, .d (.o 0 0)), (2, .d (I 0)), (3, .d (Bo z0))]
def Ra92_0 (x0 : api_Board) (z0 : Bool) : List Res := [.box 29 (d29 x0)]
def st92_1 (x0 : api_Board) (n1 : Nat) (z1 : Bool) : St := [(2, .d (I 0)), (3, .d (Bo z1)), (56, .d (DS q108 x0.Consumers)), (57, .d (I (x0.Consumers.length : Int))), (58, .d (I (cnt 0 n1)))]
def R92_1  (n1 : Nat) (z1 : Bool) : List Res := []
def sa92_1  (z1 : Bool) : St := [(2, .d (I 0)), (3, .d (Bo z1))]
def Ra92_1  (z1 : Bool) : List Res := []
theorem k92 (x0 : api_Board) (r : Int) (h : F92 x0 = some r) : CallOk Tryz.prog 92 [.agg (d29 x0)] [] (.d (I r)) [] := by
 unfold F92 at h
 refine callOk_of 72 Tryz.func92 rfl rfl rfl fun C hC => ?_
 refine WI_stop (bs := []) mixed lv92 26 [] [.call 132 [.d (I x0.Buses), .d (I 1), .d (I 6)] [] (.d (Bo (F132 x0.Buses 1 6))) [] [], .when [(!(F132 x0.Buses 1 6), false)] (.len ((x0.Breakers.map q66).length : Int) (x0.Breakers.length : Int)), .when [(((!(F132 x0.Buses 1 6)) || (decide ((x0.Breakers.length : Int) > 24))), false)] (.len ((x0.Sources.map q57).length : Int) (x0.Sources.length : Int)), .when [((((!(F132 x0.Buses 1 6)) || (decide ((x0.Breakers.length : Int) > 24))) || (decide ((x0.Sources.length : Int) > 8))), false)] (.len ((x0.Consumers.map q108).length : Int) (x0.Consumers.length : Int))] [] 0 [0] [(1, .d (.o 0 0)), (2, .d (I 0)), (29, .d (Bo (c92_0 x0)))] [.box 29 (d29 x0)] hC ⟨⟨e132, (k132 x0.Buses 1 6 _ rfl)⟩, fun hg => len_map _ _, fun hg => len_map _ _, fun hg => len_map _ _, trivial⟩ trivial (by kernel_rfl) ?_
 rcases boolC ((c92_0 x0)) with h1 | h1
 ·replace h := condT h1 h
  replace h := sI h
  subst h
  exact WI_ret (bs := [((c92_0 x0), true)]) mixed lv92 24 [true] [] [] [.tmp 2] 0 [] rfl hC trivial ⟨h1, trivial⟩ (by kernel_rfl)
 ·replace h := condF h1 h
  obtain ⟨y2, h3, h⟩ := bindE h
  refine WI_stop (bs := [((c92_0 x0), false)]) mixed lv92 28 [false] [.call 172 [.agg (d29 x0)] [] (.d (Bo y2)) [] [], .when [(y2, true)] (.call 132 [.d (I x0.Phase), .d (I 0), .d (I 1800)] [] (.d (Bo (F132 x0.Phase 0 1800))) [] []), .when [((y2 && (F132 x0.Phase 0 1800)), true)] (.call 132 [.d (I x0.Frequency), .d (I 0), .d (I 6000)] [] (.d (Bo (F132 x0.Frequency 0 6000))) [] []), .len ((x0.Sources.map q57).length : Int) (x0.Sources.length : Int)] [] 0 [0] (st92_0 x0 0 ((y2 && (F132 x0.Phase 0 1800)) && (F132 x0.Frequency 0 6000))) (R92_0 x0 0 ((y2 && (F132 x0.Phase 0 1800)) && (F132 x0.Frequency 0 6000))) hC ⟨⟨e172, (k172 x0 _ h3)⟩, fun hg => ⟨e132, (k132 x0.Phase 0 1800 _ rfl)⟩, fun hg => ⟨e132, (k132 x0.Frequency 0 6000 _ rfl)⟩, len_map _ _, trivial⟩ ⟨h1, trivial⟩ (by kernel_rfl) ?_
  obtain ⟨w0, hm0, hret0, hnext0⟩ := andThen_inv h
  clear h
  refine WI_cut (by kernel_rfl) (fun s => w0 = .next s) (sa92_0) (Ra92_0 x0) ?_ fun z0 hs0 => ?_
  ·refine WI_blk (by kernel_rfl) ?_
   refine WI_len 43 rfl fun hl0 => ?_
   refine WI_foldI (by kernel_rfl) F92_l0 (st92_0 x0) (R92_0 x0) w0 x0.Sources ((y2 && (F132 x0.Phase 0 1800)) && (F132 x0.Frequency 0 6000)) hm0 rfl rfl (fun z0 hn0 => ?_) fun n0 a0 z0 w0b hi0 hx0 h hb0 hr0 => ?_
   ·clear hm0
    exact WI_end (bs := [(decide ((cnt 0 x0.Sources.length) < (x0.Sources.length : Int)), false)]) (φ := fun s' => w0 = .next s') (st' := (sa92_0)) (R' := (Ra92_0 x0)) mixed lv92 26 [false] [] [] 0 [0] z0 hC trivial ⟨(cnt_end hl0), trivial⟩ (by kernel_rfl) (by kernel_rfl) hn0
   ·unfold F92_l0 at h
    exact WI_end (bs := [(decide ((cnt 0 n0) < (x0.Sources.length : Int)), true)]) (φ := fun s' => w0b = .next s') (st' := (st92_0 x0 (n0 + 1))) (R' := (R92_0 x0 (n0 + 1))) mixed lv92 33 [true] [.row (x0.Sources.map q57) (cnt 0 n0) (q57 a0), .when [(z0, true)] (.call 173 [.agg (d57 a0)] [] (.d (Bo (F173 a0))) [] [])] [] 0 [0] (z0 && (F173 a0)) hC ⟨(row_cnt hx0 hl0), fun hg => ⟨e173, (k173 a0 _ rfl)⟩, trivial⟩ ⟨(cnt_lt hi0 hl0), trivial⟩ (by kernel_rfl) (by kernel_rfl) (sI h).symm
  ·have h := hnext0 _ hs0
   refine WI_stop (bs := []) mixed lv92 24 [] [.len ((x0.Consumers.map q108).length : Int) (x0.Consumers.length : Int)] [] 0 [] (st92_1 x0 0 z0) (R92_1 0 z0) hC ⟨len_map _ _, trivial⟩ trivial (by kernel_rfl) ?_
   obtain ⟨w1, hm1, hret1, hnext1⟩ := andThen_inv h
   clear h
   refine WI_cut (by kernel_rfl) (fun s => w1 = .next s) (sa92_1) (Ra92_1) ?_ fun z1 hs1 => ?_
   ·refine WI_blk (by kernel_rfl) ?_
    refine WI_len 56 rfl fun hl1 => ?_
    refine WI_foldI (by kernel_rfl) F92_l1 (st92_1 x0) (R92_1) w1 x0.Consumers z0 hm1 rfl rfl (fun z1 hn1 => ?_) fun n1 a1 z1 w1b hi1 hx1 h hb1 hr1 => ?_
    ·clear hm1
     exact WI_end (bs := [(decide ((cnt 0 x0.Consumers.length) < (x0.Consumers.length : Int)), false)]) (φ := fun s' => w1 = .next s') (st' := (sa92_1)) (R' := (Ra92_1)) mixed lv92 26 [false] [] [] 0 [] z1 hC trivial ⟨(cnt_end hl1), trivial⟩ (by kernel_rfl) (by kernel_rfl) hn1
    ·unfold F92_l1 at h
     obtain ⟨y4, h5, h⟩ := bindE h
     exact WI_end (bs := [(decide ((cnt 0 n1) < (x0.Consumers.length : Int)), true)]) (φ := fun s' => w1b = .next s') (st' := (st92_1 x0 (n1 + 1))) (R' := (R92_1 (n1 + 1))) mixed lv92 33 [true] [.row (x0.Consumers.map q108) (cnt 0 n1) (q108 a1), .when [(z1, true)] (.call 174 [.agg (d108 a1), .d (I (cnt 0 n1))] [] (.d (Bo y4)) [] [])] [] 0 [] (z1 && y4) hC ⟨(row_cnt hx1 hl1), fun hg => ⟨e174, (k174 a1 (cnt 0 n1) _ (guardO_get h5 hg))⟩, trivial⟩ ⟨(cnt_lt hi1 hl1), trivial⟩ (by kernel_rfl) (by kernel_rfl) (sI h).symm
   ·have h := hnext1 _ hs1
    rcases boolC (!z1) with h6 | h6
    ·replace h := condT h6 h
     replace h := sI h
     subst h
     exact WI_ret (bs := [(!z1, true)]) mixed lv92 27 [true] [] [] [.tmp 2] 0 [] rfl hC trivial ⟨h6, trivial⟩ (by kernel_rfl)
    ·replace h := condF h6 h
     replace h := sI h
     subst h
     exact WI_ret (bs := [(!z1, false)]) mixed lv92 28 [false] [] [] [.tmp 2] 0 [] rfl hC trivial ⟨h6, trivial⟩ (by kernel_rfl)
theorem e92 : Enters Tryz.prog 92 := Go.SL.enters_of Tryz.func92 (by kernel_rfl) (by kernel_rfl)
theorem k129s0 (x0 : List api_Running) (r : Bool) (h : F129s0 x0 = some r) : CallOk Tryz.prog 129 [.d (DS q59 x0), .d (.fn (.func 130) [] [])] [] (.d (Bo r)) [] := by
 unfold F129s0 at h
 refine callOk_of 9 Tryz.func129 rfl rfl rfl fun C hC => ?_
 obtain ⟨y1, h2, h⟩ := bindE h
 replace h := sI h
 subst h
 exact WI_ret (bs := []) mixed [0, 1, 4] 25 [] [.call 211 [.d (DS q59 x0), .d (.fn (.func 130) [] [])] [] (.d (I y1)) [] []] [] [.tmp 4] 0 [] rfl hC ⟨⟨e211s0, (k211s0 x0 _ h2)⟩, trivial⟩ trivial (by kernel_rfl)
theorem e129s0 : Enters Tryz.prog 129 := Go.SL.enters_of Tryz.func129 (by kernel_rfl) (by kernel_rfl)
theorem k66 (x0 : api_Board) (x1 : api_Power) (x2 : Int) (r : Bool) (h : F66 x0 x1 x2 = some r) : CallOk Tryz.prog 66 [.agg (d29 x0), .agg (d35 x1), .d (I x2)] [] (.d (Bo r)) [] := by
 unfold F66 at h
 refine callOk_of 28 Tryz.func66 rfl rfl rfl fun C hC => ?_
 obtain ⟨y1, h2, h⟩ := bindE h
 obtain ⟨y3, h4, h⟩ := bindE h
 obtain ⟨y5, h6, h⟩ := bindE h
 obtain ⟨y7, h8, h⟩ := bindE h
 replace h := sI h
 subst h
 exact WI_ret (bs := []) mixed [0, 1, 2, 3, 4, 6] 25 [] [.call 67 [.agg (d29 x0), .d (I x2)] [] (.d (I y1)) [] [], .call 68 [.agg (d29 x0), .agg (d35 x1), .d (I y1)] [] (.d (Bo y3)) [] [], .when [(y3, true)] (.call 134 [.agg (d35 x1), .d (I 1), .d (I x2)] [] (.d (Bo y5)) [] []), .when [((y3 && (!y5)), true)] (.row (x1.Sources.map q59) x2 (q59 y7))] [] [.tmp 6] 0 [] rfl hC ⟨⟨e67, (k67 x0 x2 _ h2)⟩, ⟨e68, (k68 x0 x1 y1 _ h4)⟩, fun hg => ⟨e134, (k134 x1 1 x2 _ (guardO_get h6 hg))⟩, fun hg => row_get (guardO_get h8 hg), trivial⟩ trivial (by kernel_rfl)
theorem e66 : Enters Tryz.prog 66 := Go.SL.enters_of Tryz.func66 (by kernel_rfl) (by kernel_rfl)
theorem k145s1 (x0 : restore_worker) (x1 : Int) (r : Int × restore_worker) (h : F145s1 x0 x1 = some r) : CallOk Tryz.prog 145 [.d (.o 0 0), .d (I x1)] (.box 130 (b6 x0.board [.os 1, .os 2, .os 3, .os 4, I x0.time]) :: p4 x0.power []) (.d (I r.1)) (.box 130 (b6 r.2.board [.os 1, .os 2, .os 3, .os 4, I r.2.time]) :: p4 r.2.power []) := by
 unfold F145s1 at h
 refine callOk_of 53 Tryz.func145 rfl rfl rfl fun C hC => ?_
 obtain ⟨y1, h2, h⟩ := bindE h
 obtain ⟨y3, h4, h⟩ := bindE h
 refine WI_stop (bs := []) mixed [0, 1, 4, 5, 23, 43] 26 [] [.row (x0.power.Sources.map q59) x1 (q59 y1), .row (x0.power.Sources.map q59) (((Int.toNat x1) : Nat) : Int) (q59 y1), .when [((y1.State != 0), false)] (.callB 134 [.agg (d35 x0.power), .d (I 1), .d (I x1)] (.d (Bo y3)) [[]] 0 [])] [] 5 n5_ [(0, .d (.o 0 0)), (1, .d (I x1)), (4, .d (I 0)), (23, .d (Bo ((y1.State != 0) || y3)))] (.box 130 (b6 x0.board [.os 1, .os 2, .os 3, .os 4, I x0.time]) :: p4 x0.power []) hC ⟨row_get h2, row_getN h2, fun hg => lend0_get ⟨e134, (k134 x0.power 1 x1 _ (guardO_get h4 hg))⟩, trivial⟩ trivial (by kernel_rfl) ?_
 rcases boolC (((y1.State != 0) || y3)) with h5 | h5
 ·replace h := condT h5 h
  replace h := sI h
  subst h
  exact WI_ret (bs := [(((y1.State != 0) || y3), true)]) mixed [0, 1, 4, 5, 23, 43] 24 [true] [] [] [.tmp 4] 5 n5_ rfl hC trivial ⟨h5, trivial⟩ (by kernel_rfl)
 ·replace h := condF h5 h
  obtain ⟨y6, h7, h⟩ := bindE h
  obtain ⟨y8, h9, h⟩ := bindE h
  refine WI_stop (bs := [(((y1.State != 0) || y3), false)]) mixed [0, 1, 4, 5, 23, 43] 28 [false] [.row (x0.board.Sources.map q57) x1 (q57 y6), .when [((y6.Start == 0), true)] (.callB 216 [.d (.ip [.v (.int .i64 x0.board.Buses), .s (x0.board.Breakers.map q66), .s (x0.board.Sources.map q57), .s (x0.board.Consumers.map q108), .v (.int .i64 x0.board.Phase), .v (.int .i64 x0.board.Frequency), .s (x0.power.Closed.map pB), .s (x0.power.Sources.map q59), .s (x0.power.Limits.map pI), .s (x0.power.Broken.map q119), .v (.int .i64 x0.time)]), .d (I x1)] (.d (Bo y8)) [[]] 0 [])] [] 5 n6_ [(0, .d (.o 0 0)), (1, .d (I x1)), (4, .d (I 0)), (5, .d (.o 5 0)), (43, .d (Bo ((y6.Start == 0) && y8)))] (.box 130 (b6 x0.board [.os 1, .os 2, .os 3, .os 4, I x0.time]) :: p4 x0.power [.box 59 [I 1, I x0.time, I 5000, I 0]]) hC ⟨row_get h7, fun hg => lend0_get ⟨e216s0, (k216s0 x0 x1 _ (guardO_get h9 hg))⟩, trivial⟩ ⟨h5, trivial⟩ (by kernel_rfl) ?_
  rcases boolC (((y6.Start == 0) && y8)) with h10 | h10
  ·replace h := condT h10 h
   obtain ⟨y11, h12, h⟩ := bindE h
   replace h := sI h
   subst h
   exact WI_ret (bs := [(((y6.Start == 0) && y8), true)]) mixed [0, 1, 4, 5, 23, 43] 27 [true] [.row (x0.power.Sources.map q59) x1 (q59 y1), .upd (x0.power.Sources.map q59) (Int.toNat x1) (q59 y1) (q59 (⟨2, x0.time, 5000, 0⟩ : api_Running)) (y11.map q59)] [] [.tmp 4] 5 n5_ rfl hC ⟨row_get h2, upd_get h2 h12, trivial⟩ ⟨h10, trivial⟩ (by kernel_rfl)
  ·replace h := condF h10 h
   obtain ⟨y13, h14, h⟩ := bindE h
   replace h := sI h
   subst h
   exact WI_ret (bs := [(((y6.Start == 0) && y8), false)]) mixed [0, 1, 4, 5, 23, 43] 27 [false] [.row (x0.power.Sources.map q59) x1 (q59 y1), .upd (x0.power.Sources.map q59) (Int.toNat x1) (q59 y1) (q59 (⟨1, x0.time, 5000, 0⟩ : api_Running)) (y13.map q59)] [] [.tmp 4] 5 n5_ rfl hC ⟨row_get h2, upd_get h2 h14, trivial⟩ ⟨h10, trivial⟩ (by kernel_rfl)
theorem e145s1 : Enters Tryz.prog 145 := Go.SL.enters_of Tryz.func145 (by kernel_rfl) (by kernel_rfl)
theorem k146s1 (x0 : restore_worker) (x1 : Int) (r : Int × restore_worker) (h : F146s1 x0 x1 = some r) : CallOk Tryz.prog 146 [.d (.o 0 0), .d (I x1)] (.box 130 (b6 x0.board [.os 1, .os 2, .os 3, .os 4, I x0.time]) :: p4 x0.power []) (.d (I r.1)) (.box 130 (b6 r.2.board [.os 1, .os 2, .os 3, .os 4, I r.2.time]) :: p4 r.2.power []) := by
 unfold F146s1 at h
 refine callOk_of 34 Tryz.func146 rfl rfl rfl fun C hC => ?_
 obtain ⟨y1, h2, h⟩ := bindE h
 obtain ⟨y3, h4, h⟩ := bindE h
 refine WI_stop (bs := []) mixed [0, 1, 4, 5, 30] 28 [] [.row (x0.power.Sources.map q59) x1 (q59 y1), .row (x0.power.Sources.map q59) (((Int.toNat x1) : Nat) : Int) (q59 y1), .when [((y1.State != 1), true)] (.row (x0.power.Sources.map q59) (((Int.toNat x1) : Nat) : Int) (q59 y1)), .when [(((y1.State != 1) && (y1.State != 2)), false)] (.callB 216 [.d (.ip [.v (.int .i64 x0.board.Buses), .s (x0.board.Breakers.map q66), .s (x0.board.Sources.map q57), .s (x0.board.Consumers.map q108), .v (.int .i64 x0.board.Phase), .v (.int .i64 x0.board.Frequency), .s (x0.power.Closed.map pB), .s (x0.power.Sources.map q59), .s (x0.power.Limits.map pI), .s (x0.power.Broken.map q119), .v (.int .i64 x0.time)]), .d (I x1)] (.d (Bo y3)) [[]] 0 [])] [] 5 n5_ [(4, .d (I 0)), (5, .d (.oe 2 (Int.toNat x1) 4 0)), (30, .d (Bo (c146s1_0 y1 y3)))] (.box 130 (b6 x0.board [.os 1, .os 2, .os 3, .os 4, I x0.time]) :: p4 x0.power []) hC ⟨row_get h2, row_getN h2, fun hg => row_getN h2, fun hg => lend0_get ⟨e216s0, (k216s0 x0 x1 _ (guardO_get h4 hg))⟩, trivial⟩ trivial (by kernel_rfl) ?_
 rcases boolC ((c146s1_0 y1 y3)) with h5 | h5
 ·replace h := condT h5 h
  replace h := sI h
  subst h
  exact WI_ret (bs := [((c146s1_0 y1 y3), true)]) mixed [0, 1, 4, 5, 30] 24 [true] [] [] [.tmp 4] 5 n5_ rfl hC trivial ⟨h5, trivial⟩ (by kernel_rfl)
 ·replace h := condF h5 h
  obtain ⟨y6, h7, h⟩ := bindE h
  replace h := sI h
  subst h
  exact WI_ret (bs := [((c146s1_0 y1 y3), false)]) mixed [0, 1, 4, 5, 30] 27 [false] [.upd (x0.power.Sources.map q59) (Int.toNat x1) (q59 y1) (q59 (⟨0, y1.Since, y1.Frequency, y1.Phase⟩ : api_Running)) (y6.map q59)] [] [.tmp 4] 5 n5_ rfl hC ⟨upd_get h2 h7, trivial⟩ ⟨h5, trivial⟩ (by kernel_rfl)
theorem e146s1 : Enters Tryz.prog 146 := Go.SL.enters_of Tryz.func146 (by kernel_rfl) (by kernel_rfl)
def lv223s1 : List Nat := [0, 1, 2, 3, 4, 5, 7, 12, 20]
theorem k223s1 (x0 : shed_relief) (x1 : api_Breaker) (r : Bool × shed_relief) (h : F223s1 x0 x1 = some r) : CallOk Tryz.prog 223 [.d (.o 0 0), .agg (d66 x1)] (.box 244 (b6 x0.board [.os 1, .os 2, .os 3, .os 4, .os 5]) :: p4 x0.power [.sl 42 3 (x0.acts.map q42)]) (.d (Bo r.1)) (.box 244 (b6 r.2.board [.os 1, .os 2, .os 3, .os 4, .os 5]) :: p4 r.2.power [.sl 42 3 (r.2.acts.map q42)]) := by
 unfold F223s1 at h
 refine callOk_of 45 Tryz.func223 rfl rfl rfl fun C hC => ?_
 obtain ⟨y1, h2, h⟩ := bindE h
 refine WI_stop (bs := []) mixed lv223s1 29 [] [.call 256 [.d (I 3), .d (I x1.A), .d (.o 0 0)] (.box 198 [.o 1 0] :: .box 244 (b6 x0.board [.os 2, .os 3, .os 4, .os 5, .os 6]) :: p4 x0.power [.sl 42 3 (x0.acts.map q42)]) (.d (Bo y1.1)) (.box 198 [.o 1 0] :: .box 244 (b6 y1.2.board [.os 2, .os 3, .os 4, .os 5, .os 6]) :: p4 y1.2.power [.sl 42 3 (y1.2.acts.map q42)]) [6, 0, 1, 2, 3, 4, 5]] [] 6 n8_ [(2, .d (.o 6 0)), (3, .d (.o 7 0)), (4, .d (Bo false)), (5, .d (.fn (.func 256) [] [.o 6 0])), (7, .d (Bo y1.1))] (.box 244 (b6 y1.2.board [.os 1, .os 2, .os 3, .os 4, .os 5]) :: p4 y1.2.power [.sl 42 3 (y1.2.acts.map q42), .box 198 [.o 0 0], .box 66 (d66 x1)]) hC ⟨⟨e256s0, (k256s0 3 x1.A x0 _ h2)⟩, trivial⟩ trivial (by kernel_rfl) ?_
 rcases boolC (y1.1) with h3 | h3
 ·replace h := condT h3 h
  replace h := sI h
  subst h
  exact WI_ret (bs := [(y1.1, true)]) mixed lv223s1 24 [true] [] [] [.tmp 4] 6 n6_ rfl hC trivial ⟨h3, trivial⟩ (by kernel_rfl)
 ·replace h := condF h3 h
  rcases boolC ((x1.Kind == 1)) with h4 | h4
  ·replace h := condT h4 h
   obtain ⟨y5, h6, h⟩ := bindE h
   replace h := sI h
   subst h
   exact WI_ret (bs := [(y1.1, false), ((x1.Kind == 1), true)]) mixed lv223s1 27 [false, true] [.call 256 [.d (I 3), .d (I x1.B), .d (.o 0 0)] (.box 198 [.o 1 0] :: .box 244 (b6 y1.2.board [.os 2, .os 3, .os 4, .os 5, .os 6]) :: p4 y1.2.power [.sl 42 3 (y1.2.acts.map q42)]) (.d (Bo y5.1)) (.box 198 [.o 1 0] :: .box 244 (b6 y5.2.board [.os 2, .os 3, .os 4, .os 5, .os 6]) :: p4 y5.2.power [.sl 42 3 (y5.2.acts.map q42)]) [6, 0, 1, 2, 3, 4, 5]] [] [.tmp 4] 6 n6_ rfl hC ⟨⟨e256s0, (k256s0 3 x1.B y1.2 _ h6)⟩, trivial⟩ ⟨h3, h4, trivial⟩ (by kernel_rfl)
  ·replace h := condF h4 h
   rcases boolC ((x1.Kind == 2)) with h7 | h7
   ·replace h := condT h7 h
    obtain ⟨y8, h9, h⟩ := bindE h
    obtain ⟨y10, h11, h⟩ := bindE h
    replace h := sI h
    subst h
    exact WI_ret (bs := [(y1.1, false), ((x1.Kind == 1), false), ((x1.Kind == 2), true)]) mixed lv223s1 30 [false, false, true] [.call 256 [.d (I 1), .d (I x1.B), .d (.o 0 0)] (.box 198 [.o 1 0] :: .box 244 (b6 y1.2.board [.os 2, .os 3, .os 4, .os 5, .os 6]) :: p4 y1.2.power [.sl 42 3 (y1.2.acts.map q42)]) (.d (Bo y8.1)) (.box 198 [.o 1 0] :: .box 244 (b6 y8.2.board [.os 2, .os 3, .os 4, .os 5, .os 6]) :: p4 y8.2.power [.sl 42 3 (y8.2.acts.map q42)]) [6, 0, 1, 2, 3, 4, 5], .when [(y8.1, false)] (.row (y8.2.power.Sources.map q59) x1.B (q59 y10)), .when [(y8.1, false)] (.row (y8.2.power.Sources.map q59) (((Int.toNat x1.B) : Nat) : Int) (q59 y10))] [] [.tmp 4] 6 n6_ rfl hC ⟨⟨e256s0, (k256s0 1 x1.B y1.2 _ h9)⟩, fun hg => row_get (guardO_get h11 hg), fun hg => row_getN (guardO_get h11 hg), trivial⟩ ⟨h3, h4, h7, trivial⟩ (by kernel_rfl)
   ·replace h := condF h7 h
    obtain ⟨y12, h13, h⟩ := bindE h
    replace h := sI h
    subst h
    exact WI_ret (bs := [(y1.1, false), ((x1.Kind == 1), false), ((x1.Kind == 2), false)]) mixed lv223s1 32 [false, false, false] [.call 256 [.d (I 4), .d (I x1.B), .d (.o 0 0)] (.box 198 [.o 1 0] :: .box 244 (b6 y1.2.board [.os 2, .os 3, .os 4, .os 5, .os 6]) :: p4 y1.2.power [.sl 42 3 (y1.2.acts.map q42)]) (.d (Bo y12.1)) (.box 198 [.o 1 0] :: .box 244 (b6 y12.2.board [.os 2, .os 3, .os 4, .os 5, .os 6]) :: p4 y12.2.power [.sl 42 3 (y12.2.acts.map q42)]) [6, 0, 1, 2, 3, 4, 5]] [] [.tmp 4] 6 n6_ rfl hC ⟨⟨e256s0, (k256s0 4 x1.B y1.2 _ h13)⟩, trivial⟩ ⟨h3, h4, h7, trivial⟩ (by kernel_rfl)
theorem e223s1 : Enters Tryz.prog 223 := Go.SL.enters_of Tryz.func223 (by kernel_rfl) (by kernel_rfl)
def lv259s1 : List Nat := [0, 1, 2, 6, 7, 8, 9, 13, 30, 35, 54]
def st259s1_0 (x1 : Int) (z0 : Sg9) : St := [(0, .d (.os 0)), (1, .d (I x1)), (2, .d (.fn (.func 231) [] [.o 1 0])), (6, .d (I 20)), (7, .d (I z0.1)), (8, .d (I z0.2.1))]
def R259s1_0  (z0 : Sg9) : List Res := [.sl 3 1 (z0.2.2.1.map pI), .box 29 [I z0.2.2.2.1, DS q66 z0.2.2.2.2.1, DS q57 z0.2.2.2.2.2.1, DS q108 z0.2.2.2.2.2.2.1, I z0.2.2.2.2.2.2.2.1, I z0.2.2.2.2.2.2.2.2]]
def sa259s1_0 (x1 : Int) (z0 : Sg9) : St := [(0, .d (.os 0)), (1, .d (I x1)), (2, .d (.fn (.func 231) [] [.o 1 0])), (6, .d (I 20)), (7, .d (I z0.1)), (8, .d (I z0.2.1))]
def Ra259s1_0  (z0 : Sg9) : List Res := [.sl 3 1 (z0.2.2.1.map pI), .box 29 [I z0.2.2.2.1, DS q66 z0.2.2.2.2.1, DS q57 z0.2.2.2.2.2.1, DS q108 z0.2.2.2.2.2.2.1, I z0.2.2.2.2.2.2.2.1, I z0.2.2.2.2.2.2.2.2]]
def st259s1_1 (x1 : Int) (z0 : Sg9) (z1 : Unit) : St := [(0, .d (.os 0)), (1, .d (I x1)), (2, .d (.fn (.func 231) [] [.o 1 0])), (6, .d (I 20)), (7, .d (I z0.1)), (8, .d (I z0.2.1))]
def R259s1_1 (y4 : (List Int) × api_Board) (z1 : Unit) : List Res := [.sl 3 1 (y4.1.map pI), .box 29 (d29 y4.2)]
def sa259s1_1  (z1 : Unit) : St := []
def Ra259s1_1 (y4 : (List Int) × api_Board) (z1 : Unit) : List Res := [.sl 3 1 (y4.1.map pI), .box 29 (d29 y4.2)]
def st259s1_2 (x1 : Int) (z2 : Unit) : St := [(0, .d (.os 0)), (1, .d (I x1)), (2, .d (.fn (.func 231) [] [.o 1 0])), (6, .d (I 20)), (7, .d (I 0)), (8, .d (I 40))]
def R259s1_2 (y4 : (List Int) × api_Board) (z2 : Unit) : List Res := [.sl 3 1 (y4.1.map pI), .box 29 (d29 y4.2)]
def sa259s1_2 (x1 : Int) (z2 : Unit) : St := [(0, .d (.os 0)), (1, .d (I x1)), (2, .d (.fn (.func 231) [] [.o 1 0])), (6, .d (I 20)), (7, .d (I 0)), (8, .d (I 40))]
def Ra259s1_2 (y4 : (List Int) × api_Board) (z2 : Unit) : List Res := [.sl 3 1 (y4.1.map pI), .box 29 (d29 y4.2)]
theorem k259s1 (x0 : List Int) (x1 : Int) (x2c0 : api_Board) (r : (List Int) × api_Board) (h : F259s1 x0 x1 x2c0 = some r) : CallOk Tryz.prog 259 [.d (.os 0), .d (I x1), .d (.fn (.func 231) [] [.o 1 0])] [.sl 3 1 (x0.map pI), .box 29 (d29 x2c0)] (.tup []) [.sl 3 1 (r.1.map pI), .box 29 (d29 r.2)] := by
 unfold F259s1 at h
 refine callOk_of 63 Tryz.func259 rfl rfl rfl fun C hC => ?_
 refine WI_stop (bs := []) mixed lv259s1 26 [] [] [] 2 [0, 1] (st259s1_0 x1 (0, 20, x0, x2c0.Buses, x2c0.Breakers, x2c0.Sources, x2c0.Consumers, x2c0.Phase, x2c0.Frequency)) (R259s1_0 (0, 20, x0, x2c0.Buses, x2c0.Breakers, x2c0.Sources, x2c0.Consumers, x2c0.Phase, x2c0.Frequency)) hC trivial trivial (by kernel_rfl) ?_
 obtain ⟨w0, hm0, hret0, hnext0⟩ := andThen_inv h
 clear h
 refine WI_cut (by kernel_rfl) (fun s => w0 = .next s) (sa259s1_0 x1) (Ra259s1_0) ?_ fun z0 hs0 => ?_
 ·refine WI_blk (by kernel_rfl) ?_
  refine WI_while (by kernel_rfl) (F259s1_l0 x1) (st259s1_0 x1) (R259s1_0) w0 1152921504606846976 (0, 20, x0, x2c0.Buses, x2c0.Breakers, x2c0.Sources, x2c0.Consumers, x2c0.Phase, x2c0.Frequency) hm0 rfl rfl fun z0 w0b h hb0 hr0 => ?_
  unfold F259s1_l0 at h
  rcases boolC (decide (z0.2.1 ≤ x1)) with h1 | h1
  ·replace h := condT h1 h
   obtain ⟨y2, h3, h⟩ := bindE h
   exact WI_end (bs := [(decide (z0.2.1 ≤ x1), true)]) (φ := fun s' => w0b = .next s') (st' := (st259s1_0 x1)) (R' := (R259s1_0)) mixed lv259s1 33 [true] [.call 276 [.d (.os 0), .d (I z0.1), .d (I z0.2.1), .d (.fn (.func 231) [] [.o 1 0])] [.sl 3 1 (z0.2.2.1.map pI), .box 29 [I z0.2.2.2.1, DS q66 z0.2.2.2.2.1, DS q57 z0.2.2.2.2.2.1, DS q108 z0.2.2.2.2.2.2.1, I z0.2.2.2.2.2.2.2.1, I z0.2.2.2.2.2.2.2.2]] (.tup []) [.sl 3 1 (y2.1.map pI), .box 29 (d29 y2.2)] [0, 1]] [] 2 [0, 1] (z0.2.1, w64 (z0.2.1 + 20), y2.1, y2.2.Buses, y2.2.Breakers, y2.2.Sources, y2.2.Consumers, y2.2.Phase, y2.2.Frequency) hC ⟨⟨e276s1, (k276s1 z0.2.2.1 z0.1 z0.2.1 (⟨z0.2.2.2.1, z0.2.2.2.2.1, z0.2.2.2.2.2.1, z0.2.2.2.2.2.2.1, z0.2.2.2.2.2.2.2.1, z0.2.2.2.2.2.2.2.2⟩ : api_Board) _ h3)⟩, trivial⟩ ⟨h1, trivial⟩ (by kernel_rfl) (by kernel_rfl) (sI h).symm
  ·replace h := condF h1 h
   exact WI_end (bs := [(decide (z0.2.1 ≤ x1), false)]) (φ := fun s' => w0 = .next s') (st' := (sa259s1_0 x1)) (R' := (Ra259s1_0)) mixed lv259s1 26 [false] [] [] 2 [0, 1] (z0.1, z0.2.1, z0.2.2.1, z0.2.2.2.1, z0.2.2.2.2.1, z0.2.2.2.2.2.1, z0.2.2.2.2.2.2.1, z0.2.2.2.2.2.2.2.1, z0.2.2.2.2.2.2.2.2) hC trivial ⟨h1, trivial⟩ (by kernel_rfl) (by kernel_rfl) (hb0 _ (sI h).symm)
 ·have h := hnext0 _ hs0
  obtain ⟨y4, h5, h⟩ := bindE h
  refine WI_stop (bs := []) mixed lv259s1 23 [] [.call 276 [.d (.os 0), .d (I z0.1), .d (I x1), .d (.fn (.func 231) [] [.o 1 0])] [.sl 3 1 (z0.2.2.1.map pI), .box 29 [I z0.2.2.2.1, DS q66 z0.2.2.2.2.1, DS q57 z0.2.2.2.2.2.1, DS q108 z0.2.2.2.2.2.2.1, I z0.2.2.2.2.2.2.2.1, I z0.2.2.2.2.2.2.2.2]] (.tup []) [.sl 3 1 (y4.1.map pI), .box 29 (d29 y4.2)] [0, 1]] [] 2 [0, 1] (st259s1_1 x1 z0 ()) (R259s1_1 y4 ()) hC ⟨⟨e276s1, (k276s1 z0.2.2.1 z0.1 x1 (⟨z0.2.2.2.1, z0.2.2.2.2.1, z0.2.2.2.2.2.1, z0.2.2.2.2.2.2.1, z0.2.2.2.2.2.2.2.1, z0.2.2.2.2.2.2.2.2⟩ : api_Board) _ h5)⟩, trivial⟩ trivial (by kernel_rfl) ?_
  obtain ⟨w1, hm1, hret1, hnext1⟩ := andThen_inv h
  clear h
  refine WI_cut (by kernel_rfl) (fun s => w1 = .next s) (sa259s1_1) (Ra259s1_1 y4) ?_ fun z1 hs1 => ?_
  ·refine WI_blk (by kernel_rfl) ?_
   refine WI_while (by kernel_rfl) (F259s1_l1 x1) (st259s1_1 x1 z0) (R259s1_1 y4) w1 1152921504606846976 () hm1 rfl rfl fun z1 w1b h hb1 hr1 => ?_
   unfold F259s1_l1 at h
   rcases boolC (decide (20 < x1)) with h6 | h6
   ·replace h := condT h6 h
    cases h
   ·replace h := condF h6 h
    exact WI_end (bs := [(decide (20 < x1), false)]) (φ := fun s' => w1 = .next s') (st' := (sa259s1_1)) (R' := (Ra259s1_1 y4)) mixed lv259s1 26 [false] [] [] 2 [0, 1] () hC trivial ⟨h6, trivial⟩ (by kernel_rfl) (by kernel_rfl) (hb1 _ (sI h).symm)
  ·have h := hnext1 _ hs1
   replace h := sI h
   subst h
   exact WI_endF (bs := []) mixed lv259s1 20 [] [] [] [] 2 [0, 1] rfl hC trivial trivial (by kernel_rfl) (by kernel_rfl)
theorem e259s1 : Enters Tryz.prog 259 := Go.SL.enters_of Tryz.func259 (by kernel_rfl) (by kernel_rfl)
def lv225s1 : List Nat := [0, 1, 4, 5, 6, 7, 12, 19, 29]
def st225s1_0  (z0 : Int × Int × (List Int)) : St := [(0, .d (.os 0)), (1, .d (.fn (.func 226) [] [.o 1 0])), (4, .d (DS pI [])), (5, .d (I z0.1)), (6, .d (I z0.2.1))]
def R225s1_0 (y1 : Int × api_Island) (z0 : Int × Int × (List Int)) : List Res := [.sl 3 1 (z0.2.2.map pI), .box 78 (d78 y1.2)]
def sa225s1_0  (z0 : Int × Int × (List Int)) : St := [(0, .d (.os 0)), (4, .d (DS pI [])), (5, .d (I z0.1))]
def Ra225s1_0 (y1 : Int × api_Island) (z0 : Int × Int × (List Int)) : List Res := [.sl 3 1 (z0.2.2.map pI), .box 78 (d78 y1.2)]
theorem k225s1 (x0 : List Int) (x1c0 : api_Island) (r : (List Int) × api_Island) (h : F225s1 x0 x1c0 = some r) : CallOk Tryz.prog 225 [.d (.os 0), .d (.fn (.func 226) [] [.o 1 0])] [.sl 3 1 (x0.map pI), .box 78 (d78 x1c0)] (.d (.os 2)) [.non, .box 78 (d78 r.2), .sl 3 1 (r.1.map pI)] := by
 unfold F225s1 at h
 refine callOk_of 42 Tryz.func225 rfl rfl rfl fun C hC => ?_
 obtain ⟨y1, h2, h⟩ := bindE h
 refine WI_stop (bs := []) mixed lv225s1 28 [] [.call 243 [.d (.os 0), .d (.fn (.func 226) [] [.o 1 0])] [.sl 3 1 (x0.map pI), .box 78 (d78 x1c0)] (.d (I y1.1)) [.sl 3 1 (x0.map pI), .box 78 (d78 y1.2)] [0, 1]] [] 2 [0, 1] [(0, .d (.os 0)), (1, .d (.fn (.func 226) [] [.o 1 0])), (4, .d (DS pI [])), (5, .d (I y1.1)), (12, .d (Bo (y1.1 == (-1))))] [.sl 3 1 (x0.map pI), .box 78 (d78 y1.2)] hC ⟨⟨e243s1, (k243s1 x0 x1c0 _ h2)⟩, trivial⟩ trivial (by kernel_rfl) ?_
 rcases boolC ((y1.1 == (-1))) with h3 | h3
 ·replace h := condT h3 h
  replace h := sI h
  subst h
  exact WI_ret (bs := [((y1.1 == (-1)), true)]) mixed lv225s1 24 [true] [] [.mv 0] [.tmp 4] 2 n3_ rfl hC trivial ⟨h3, trivial⟩ (by kernel_rfl)
 ·replace h := condF h3 h
  refine WI_stop (bs := [((y1.1 == (-1)), false)]) mixed lv225s1 26 [false] [] [] 2 [0, 1] (st225s1_0 (y1.1, w64 (y1.1 + 1), x0)) (R225s1_0 y1 (y1.1, w64 (y1.1 + 1), x0)) hC trivial ⟨h3, trivial⟩ (by kernel_rfl) ?_
  obtain ⟨w0, hm0, hret0, hnext0⟩ := andThen_inv h
  clear h
  refine WI_cut (by kernel_rfl) (fun s => w0 = .next s) (sa225s1_0) (Ra225s1_0 y1) ?_ fun z0 hs0 => ?_
  ·refine WI_blk (by kernel_rfl) ?_
   refine WI_while (by kernel_rfl) (F225s1_l0 y1) (st225s1_0) (R225s1_0 y1) w0 1152921504606846976 (y1.1, w64 (y1.1 + 1), x0) hm0 rfl rfl fun z0 w0b h hb0 hr0 => ?_
   unfold F225s1_l0 at h
   rcases boolC ((c225s1_2 z0)) with h4 | h4
   ·replace h := condT h4 h
    obtain ⟨y5, h6, h⟩ := bindE h
    obtain ⟨y7, h8, h⟩ := bindE h
    refine WI_stop (bs := [((c225s1_2 z0), true)]) mixed lv225s1 32 [true] [.len ((z0.2.2.map pI).length : Int) (z0.2.2.length : Int), .row (z0.2.2.map pI) z0.2.1 (pI y5), .row (z0.2.2.map pI) (((Int.toNat z0.2.1) : Nat) : Int) (pI y5), .callB 226 [.d (I y5), .d (.ip [.s (y1.2.Buses.map pI), .s (y1.2.Sources.map pI), .s (y1.2.Consumers.map pI)])] (.d (Bo y7)) [[]] 0 []] [] 2 [0, 1] [(0, .d (.os 0)), (1, .d (.fn (.func 226) [] [.o 1 0])), (4, .d (DS pI [])), (5, .d (I z0.1)), (6, .d (I z0.2.1)), (7, .d (I y5)), (29, .d (Bo (!y7)))] [.sl 3 1 (z0.2.2.map pI), .box 78 (d78 y1.2)] hC ⟨len_map _ _, row_get h6, row_getN h6, lend0_get ⟨e226s0, (k226s0 y5 y1.2 _ h8)⟩, trivial⟩ ⟨h4, trivial⟩ (by kernel_rfl) ?_
    rcases boolC (!y7) with h9 | h9
    ·replace h := condT h9 h
     obtain ⟨y10, h11, h⟩ := bindE h
     obtain ⟨y12, h13, h⟩ := bindE h
     exact WI_end (bs := [(!y7, true)]) (φ := fun s' => w0b = .next s') (st' := (st225s1_0)) (R' := (R225s1_0 y1)) mixed lv225s1 27 [true] [.row (z0.2.2.map pI) z0.1 (pI y10), .upd (z0.2.2.map pI) (Int.toNat z0.1) (pI y10) (pI y5) (y12.map pI)] [] 2 [0, 1] (w64 (z0.1 + 1), w64 (z0.2.1 + 1), y12) hC ⟨row_get h11, upd_get h11 h13, trivial⟩ ⟨h9, trivial⟩ (by kernel_rfl) (by kernel_rfl) (sI h).symm
    ·replace h := condF h9 h
     exact WI_end (bs := [(!y7, false)]) (φ := fun s' => w0b = .next s') (st' := (st225s1_0)) (R' := (R225s1_0 y1)) mixed lv225s1 25 [false] [] [] 2 [0, 1] (z0.1, w64 (z0.2.1 + 1), z0.2.2) hC trivial ⟨h9, trivial⟩ (by kernel_rfl) (by kernel_rfl) (sI h).symm
   ·replace h := condF h4 h
    exact WI_end (bs := [((c225s1_2 z0), false)]) (φ := fun s' => w0 = .next s') (st' := (sa225s1_0)) (R' := (Ra225s1_0 y1)) mixed lv225s1 26 [false] [.len ((z0.2.2.map pI).length : Int) (z0.2.2.length : Int)] [] 2 [0, 1] (z0.1, z0.2.1, z0.2.2) hC ⟨len_map _ _, trivial⟩ ⟨h4, trivial⟩ (by kernel_rfl) (by kernel_rfl) (hb0 _ (sI h).symm)
  ·have h := hnext0 _ hs0
   obtain ⟨u15, h14, h⟩ := bindE h
   obtain ⟨u17, h16, h⟩ := bindE h
   replace h := sI h
   subst h
   (rw [List.map_take]; exact WI_ret (bs := []) mixed lv225s1 25 [] [.bnd (z0.2.2.map pI).length z0.1 (((z0.2.2.map pI).length : Nat) : Int) (z0.2.2.length : Int), .eqr ((z0.2.2.map pI).take (Int.toNat z0.1) ++ (List.replicate ((Int.toNat (z0.2.2.length : Int)) - (Int.toNat z0.1)) (pI 0) ++ (z0.2.2.map pI).drop ((Int.toNat z0.1) + ((Int.toNat (z0.2.2.length : Int)) - (Int.toNat z0.1))))) ((clrI z0.2.2 (Int.toNat z0.1) ((Int.toNat (z0.2.2.length : Int)) - (Int.toNat z0.1)) 0).map pI), .bnd ((clrI z0.2.2 (Int.toNat z0.1) ((Int.toNat (z0.2.2.length : Int)) - (Int.toNat z0.1)) 0).map pI).length 0 z0.1 z0.1] [.trunc 4] [.tmp 4] 2 n3_ rfl hC ⟨bnd_get (by simp) (by simp) h14, clr_get pI rfl, bnd_get (by simp) rfl h16, trivial⟩ trivial (by kernel_rfl))
theorem e225s1 : Enters Tryz.prog 225 := Go.SL.enters_of Tryz.func225 (by kernel_rfl) (by kernel_rfl)
def lv65 : List Nat := [0, 1, 2, 3, 4, 5, 6, 7, 8, 12, 38, 50, 51, 52, 53, 77]
def st65_0 (x1 : api_Power) (n0 : Nat) (z0 : Bool) : St := [(2, .d (.o 0 0)), (3, .d (.o 1 0)), (4, .d (I 0)), (6, .d (Bo z0)), (50, .d (DS pI x1.Limits)), (51, .d (I (x1.Limits.length : Int))), (52, .d (I (cnt 0 n0)))]
def R65_0 (x0 : api_Board) (x1 : api_Power) (n0 : Nat) (z0 : Bool) : List Res := [.box 29 (d29 x0), .box 35 (d35 x1)]
def sa65_0  (z0 : Bool) : St := [(4, .d (I 0)), (6, .d (Bo z0))]
def Ra65_0  (z0 : Bool) : List Res := []
theorem k65 (x0 : api_Board) (x1 : api_Power) (r : Int) (h : F65 x0 x1 = some r) : CallOk Tryz.prog 65 [.agg (d29 x0), .agg (d35 x1)] [] (.d (I r)) [] := by
 unfold F65 at h
 refine callOk_of 78 Tryz.func65 rfl rfl rfl fun C hC => ?_
 obtain ⟨y1, h2, h⟩ := bindE h
 rcases boolC ((y1 != 0)) with h3 | h3
 ·replace h := condT h3 h
  replace h := sI h
  subst h
  exact WI_ret (bs := [((y1 != 0), true)]) mixed lv65 31 [true] [.call 92 [.agg (d29 x0)] [] (.d (I y1)) [] []] [] [.tmp 4] 0 [] rfl hC ⟨⟨e92, (k92 x0 _ h2)⟩, trivial⟩ ⟨h3, trivial⟩ (by kernel_rfl)
 ·replace h := condF h3 h
  refine WI_stop (bs := [((y1 != 0), false)]) mixed lv65 33 [false] [.call 92 [.agg (d29 x0)] [] (.d (I y1)) [] [], .len ((x1.Closed.map pB).length : Int) (x1.Closed.length : Int), .len ((x0.Breakers.map q66).length : Int) (x0.Breakers.length : Int), .when [(((x1.Closed.length : Int) != (x0.Breakers.length : Int)), false)] (.len ((x1.Sources.map q59).length : Int) (x1.Sources.length : Int)), .when [(((x1.Closed.length : Int) != (x0.Breakers.length : Int)), false)] (.len ((x0.Sources.map q57).length : Int) (x0.Sources.length : Int)), .when [((((x1.Closed.length : Int) != (x0.Breakers.length : Int)) || ((x1.Sources.length : Int) != (x0.Sources.length : Int))), false)] (.len ((x1.Limits.map pI).length : Int) (x1.Limits.length : Int)), .when [((((x1.Closed.length : Int) != (x0.Breakers.length : Int)) || ((x1.Sources.length : Int) != (x0.Sources.length : Int))), false)] (.len ((x0.Consumers.map q108).length : Int) (x0.Consumers.length : Int))] [] 0 [0, 1] [(2, .d (.o 0 0)), (3, .d (.o 1 0)), (4, .d (I 0)), (38, .d (Bo (c65_0 x0 x1)))] [.box 29 (d29 x0), .box 35 (d35 x1)] hC ⟨⟨e92, (k92 x0 _ h2)⟩, len_map _ _, len_map _ _, fun hg => len_map _ _, fun hg => len_map _ _, fun hg => len_map _ _, fun hg => len_map _ _, trivial⟩ ⟨h3, trivial⟩ (by kernel_rfl) ?_
  rcases boolC ((c65_0 x0 x1)) with h4 | h4
  ·replace h := condT h4 h
   replace h := sI h
   subst h
   exact WI_ret (bs := [((c65_0 x0 x1), true)]) mixed lv65 24 [true] [] [] [.tmp 4] 0 [] rfl hC trivial ⟨h4, trivial⟩ (by kernel_rfl)
  ·replace h := condF h4 h
   obtain ⟨y5, h6, h⟩ := bindE h
   obtain ⟨y7, h8, h⟩ := bindE h
   refine WI_stop (bs := [((c65_0 x0 x1), false)]) mixed lv65 28 [false] [.call 128 [.agg (d29 x0), .d (DS q119 x1.Broken)] [] (.d (Bo y5)) [] [], .when [(y5, true)] (.call 129 [.d (DS q59 x1.Sources), .d (.fn (.func 130) [] [])] [] (.d (Bo y7)) [] []), .len ((x1.Limits.map pI).length : Int) (x1.Limits.length : Int)] [] 0 [0, 1] (st65_0 x1 0 (y5 && (!y7))) (R65_0 x0 x1 0 (y5 && (!y7))) hC ⟨⟨e128, (k128 x0 x1.Broken _ h6)⟩, fun hg => ⟨e129s0, (k129s0 x1.Sources _ (guardO_get h8 hg))⟩, len_map _ _, trivial⟩ ⟨h4, trivial⟩ (by kernel_rfl) ?_
   obtain ⟨w0, hm0, hret0, hnext0⟩ := andThen_inv h
   clear h
   refine WI_cut (by kernel_rfl) (fun s => w0 = .next s) (sa65_0) (Ra65_0) ?_ fun z0 hs0 => ?_
   ·refine WI_blk (by kernel_rfl) ?_
    refine WI_len 50 rfl fun hl0 => ?_
    refine WI_foldI (by kernel_rfl) (F65_l0 x0 x1) (st65_0 x1) (R65_0 x0 x1) w0 x1.Limits (y5 && (!y7)) hm0 rfl rfl (fun z0 hn0 => ?_) fun n0 a0 z0 w0b hi0 hx0 h hb0 hr0 => ?_
    ·clear hm0
     exact WI_end (bs := [(decide ((cnt 0 x1.Limits.length) < (x1.Limits.length : Int)), false)]) (φ := fun s' => w0 = .next s') (st' := (sa65_0)) (R' := (Ra65_0)) mixed lv65 26 [false] [] [] 0 [] z0 hC trivial ⟨(cnt_end hl0), trivial⟩ (by kernel_rfl) (by kernel_rfl) hn0
    ·unfold F65_l0 at h
     obtain ⟨y9, h10, h⟩ := bindE h
     obtain ⟨y11, h12, h⟩ := bindE h
     exact WI_end (bs := [(decide ((cnt 0 n0) < (x1.Limits.length : Int)), true)]) (φ := fun s' => w0b = .next s') (st' := (st65_0 x1 (n0 + 1))) (R' := (R65_0 x0 x1 (n0 + 1))) mixed lv65 33 [true] [.row (x1.Limits.map pI) (cnt 0 n0) (pI a0), .when [(z0, true)] (.row (x0.Consumers.map q108) (cnt 0 n0) (q108 y9)), .when [(z0, true)] (.call 132 [.d (I a0), .d (I 0), .d (I y9.Load)] [] (.d (Bo (F132 a0 0 y9.Load))) [] []), .when [((z0 && (F132 a0 0 y9.Load)), true)] (.call 133 [.agg (d29 x0), .agg (d35 x1), .d (I (cnt 0 n0))] [] (.d (I y11)) [] [])] [] 0 [0, 1] ((z0 && (F132 a0 0 y9.Load)) && (decide (y11 ≤ 1))) hC ⟨(row_cnt hx0 hl0), fun hg => row_get (guardO_get h10 hg), fun hg => ⟨e132, (k132 a0 0 y9.Load _ rfl)⟩, fun hg => ⟨e133, (k133 x0 x1 (cnt 0 n0) _ (guardO_get h12 hg))⟩, trivial⟩ ⟨(cnt_lt hi0 hl0), trivial⟩ (by kernel_rfl) (by kernel_rfl) (sI h).symm
   ·have h := hnext0 _ hs0
    rcases boolC (!z0) with h13 | h13
    ·replace h := condT h13 h
     replace h := sI h
     subst h
     exact WI_ret (bs := [(!z0, true)]) mixed lv65 27 [true] [] [] [.tmp 4] 0 [] rfl hC trivial ⟨h13, trivial⟩ (by kernel_rfl)
    ·replace h := condF h13 h
     replace h := sI h
     subst h
     exact WI_ret (bs := [(!z0, false)]) mixed lv65 28 [false] [] [] [.tmp 4] 0 [] rfl hC trivial ⟨h13, trivial⟩ (by kernel_rfl)
theorem e65 : Enters Tryz.prog 65 := Go.SL.enters_of Tryz.func65 (by kernel_rfl) (by kernel_rfl)
def lv222s1 : List Nat := [0, 1, 4, 5, 6, 8, 13, 14, 15, 16, 32, 38, 39, 40, 41]
def st222s1_0 (x0 : shed_relief) (n0 : Nat) (z0 : Sg7) : St := [(0, .d (.o 0 0)), (1, .d (.fn (.func 223) [.o 0 0] [])), (4, .d (.os 6)), (13, .d (DS q66 x0.board.Breakers)), (14, .d (I (x0.board.Breakers.length : Int))), (15, .d (I (cnt 0 n0)))]
def R222s1_0  (n0 : Nat) (z0 : Sg7) : List Res := [.box 244 [I z0.1, DS q66 z0.2.1, DS q57 z0.2.2.1, DS q108 z0.2.2.2.1, I z0.2.2.2.2.1, I z0.2.2.2.2.2.1, .os 7, .os 8, .os 9, .os 10, .os 11], .non, .non, .non, .non, .non, .sl 3 1 (z0.2.2.2.2.2.2.1.map pI), .sl 4 1 (z0.2.2.2.2.2.2.2.1.map pB), .sl 59 4 (z0.2.2.2.2.2.2.2.2.1.map q59), .sl 3 1 (z0.2.2.2.2.2.2.2.2.2.1.map pI), .sl 119 2 (z0.2.2.2.2.2.2.2.2.2.2.1.map q119), .sl 42 3 (z0.2.2.2.2.2.2.2.2.2.2.2.map q42)]
def sa222s1_0  (z0 : Sg7) : St := [(0, .d (.o 0 0)), (4, .d (.os 6))]
def Ra222s1_0  (z0 : Sg7) : List Res := [.box 244 [I z0.1, DS q66 z0.2.1, DS q57 z0.2.2.1, DS q108 z0.2.2.2.1, I z0.2.2.2.2.1, I z0.2.2.2.2.2.1, .os 7, .os 8, .os 9, .os 10, .os 11], .non, .non, .non, .non, .non, .sl 3 1 (z0.2.2.2.2.2.2.1.map pI), .sl 4 1 (z0.2.2.2.2.2.2.2.1.map pB), .sl 59 4 (z0.2.2.2.2.2.2.2.2.1.map q59), .sl 3 1 (z0.2.2.2.2.2.2.2.2.2.1.map pI), .sl 119 2 (z0.2.2.2.2.2.2.2.2.2.2.1.map q119), .sl 42 3 (z0.2.2.2.2.2.2.2.2.2.2.2.map q42)]
def st222s1_1 (z0 : Sg7) (n1 : Nat) (z1 : Sg6) : St := [(0, .d (.o 0 0)), (38, .d (.os 6)), (39, .d (I (z0.2.2.2.2.2.2.1.length : Int))), (40, .d (I (cnt 0 n1)))]
def R222s1_1 (z0 : Sg7) (n1 : Nat) (z1 : Sg6) : List Res := [.box 244 [I z1.1, DS q66 z1.2.1, DS q57 z1.2.2.1, DS q108 z1.2.2.2.1, I z1.2.2.2.2.1, I z1.2.2.2.2.2.1, .os 7, .os 8, .os 9, .os 10, .os 11], .non, .non, .non, .non, .non, .sl 3 1 (z0.2.2.2.2.2.2.1.map pI), .sl 4 1 (z1.2.2.2.2.2.2.1.map pB), .sl 59 4 (z1.2.2.2.2.2.2.2.1.map q59), .sl 3 1 (z1.2.2.2.2.2.2.2.2.1.map pI), .sl 119 2 (z1.2.2.2.2.2.2.2.2.2.1.map q119), .sl 42 3 (z1.2.2.2.2.2.2.2.2.2.2.map q42)]
def sa222s1_1  (z1 : Sg6) : St := []
def Ra222s1_1  (z1 : Sg6) : List Res := [.box 244 [I z1.1, DS q66 z1.2.1, DS q57 z1.2.2.1, DS q108 z1.2.2.2.1, I z1.2.2.2.2.1, I z1.2.2.2.2.2.1, .os 6, .os 7, .os 8, .os 9, .os 10], .non, .non, .non, .non, .non, .sl 4 1 (z1.2.2.2.2.2.2.1.map pB), .sl 59 4 (z1.2.2.2.2.2.2.2.1.map q59), .sl 3 1 (z1.2.2.2.2.2.2.2.2.1.map pI), .sl 119 2 (z1.2.2.2.2.2.2.2.2.2.1.map q119), .sl 42 3 (z1.2.2.2.2.2.2.2.2.2.2.map q42)]
theorem k222s1 (x0 : shed_relief) (r : shed_relief) (h : F222s1 x0 = some r) : CallOk Tryz.prog 222 [.d (.o 0 0), .d (.fn (.func 223) [.o 0 0] [])] (.box 244 (b6 x0.board [.os 1, .os 2, .os 3, .os 4, .os 5]) :: p4 x0.power [.sl 42 3 (x0.acts.map q42)]) (.tup []) (.box 244 (b6 r.board [.os 6, .os 7, .os 8, .os 9, .os 10]) :: .non :: .non :: .non :: .non :: .non :: p4 r.power [.sl 42 3 (r.acts.map q42)]) := by
 unfold F222s1 at h
 refine callOk_of 48 Tryz.func222 rfl rfl rfl fun C hC => ?_
 refine WI_stop (bs := []) mixed lv222s1 26 [] [.len ((x0.board.Breakers.map q66).length : Int) (x0.board.Breakers.length : Int)] [.own 4 3 1, .mv 1, .mv 2, .mv 3, .mv 4, .mv 5] 6 n12_ (st222s1_0 x0 0 (t6 x0.board (([] : List Int), t4 x0.power x0.acts))) (R222s1_0 0 (t6 x0.board (([] : List Int), t4 x0.power x0.acts))) hC ⟨len_map _ _, trivial⟩ trivial (by kernel_rfl) ?_
 obtain ⟨w0, hm0, hret0, hnext0⟩ := andThen_inv h
 clear h
 refine WI_cut (by kernel_rfl) (fun s => w0 = .next s) (sa222s1_0) (Ra222s1_0) ?_ fun z0 hs0 => ?_
 ·refine WI_blk (by kernel_rfl) ?_
  refine WI_len 13 rfl fun hl0 => ?_
  refine WI_foldI (by kernel_rfl) F222s1_l0 (st222s1_0 x0) (R222s1_0) w0 x0.board.Breakers (t6 x0.board (([] : List Int), t4 x0.power x0.acts)) hm0 rfl rfl (fun z0 hn0 => ?_) fun n0 a0 z0 w0b hi0 hx0 h hb0 hr0 => ?_
  ·clear hm0
   exact WI_end (bs := [(decide ((cnt 0 x0.board.Breakers.length) < (x0.board.Breakers.length : Int)), false)]) (φ := fun s' => w0 = .next s') (st' := (sa222s1_0)) (R' := (Ra222s1_0)) mixed lv222s1 26 [false] [] [] 6 n12_ (z0.1, z0.2.1, z0.2.2.1, z0.2.2.2.1, z0.2.2.2.2.1, z0.2.2.2.2.2.1, z0.2.2.2.2.2.2.1, z0.2.2.2.2.2.2.2.1, z0.2.2.2.2.2.2.2.2.1, z0.2.2.2.2.2.2.2.2.2.1, z0.2.2.2.2.2.2.2.2.2.2.1, z0.2.2.2.2.2.2.2.2.2.2.2) hC trivial ⟨(cnt_end hl0), trivial⟩ (by kernel_rfl) (by kernel_rfl) hn0
  ·unfold F222s1_l0 at h
   obtain ⟨y1, h2, h⟩ := bindE h
   obtain ⟨y3, h4, h⟩ := bindE h
   refine WI_stop (bs := [(decide ((cnt 0 n0) < (x0.board.Breakers.length : Int)), true)]) mixed lv222s1 32 [true] [.row (x0.board.Breakers.map q66) (cnt 0 n0) (q66 a0), .row (z0.2.2.2.2.2.2.2.1.map pB) (cnt 0 n0) (pB y1), .row (z0.2.2.2.2.2.2.2.1.map pB) (((Int.toNat (cnt 0 n0)) : Nat) : Int) (pB y1), .whenR [(y1, true)] (.call 223 [.d (.o 0 0), .agg (d66 a0)] [.box 244 [I z0.1, DS q66 z0.2.1, DS q57 z0.2.2.1, DS q108 z0.2.2.2.1, I z0.2.2.2.2.1, I z0.2.2.2.2.2.1, .os 1, .os 2, .os 3, .os 4, .os 5], .sl 4 1 (z0.2.2.2.2.2.2.2.1.map pB), .sl 59 4 (z0.2.2.2.2.2.2.2.2.1.map q59), .sl 3 1 (z0.2.2.2.2.2.2.2.2.2.1.map pI), .sl 119 2 (z0.2.2.2.2.2.2.2.2.2.2.1.map q119), .sl 42 3 (z0.2.2.2.2.2.2.2.2.2.2.2.map q42)] (.d (Bo y3.1)) (.box 244 (b6 y3.2.board [.os 1, .os 2, .os 3, .os 4, .os 5]) :: p4 y3.2.power [.sl 42 3 (y3.2.acts.map q42)]) [0, 7, 8, 9, 10, 11])] [] 6 n12_ [(0, .d (.o 0 0)), (1, .d (.fn (.func 223) [.o 0 0] [])), (4, .d (.os 6)), (5, .d (I (cnt 0 n0))), (13, .d (DS q66 x0.board.Breakers)), (14, .d (I (x0.board.Breakers.length : Int))), (15, .d (I (cnt 0 n0))), (32, .d (Bo (y1 && y3.1)))] (.box 244 (b6 y3.2.board [.os 7, .os 8, .os 9, .os 10, .os 11]) :: .non :: .non :: .non :: .non :: .non :: .sl 3 1 (z0.2.2.2.2.2.2.1.map pI) :: p4 y3.2.power [.sl 42 3 (y3.2.acts.map q42)]) hC ⟨(row_cnt hx0 hl0), row_get h2, row_getN h2, ⟨fun hg => ⟨e223s1, (k223s1 (⟨(⟨z0.1, z0.2.1, z0.2.2.1, z0.2.2.2.1, z0.2.2.2.2.1, z0.2.2.2.2.2.1⟩ : api_Board), (⟨z0.2.2.2.2.2.2.2.1, z0.2.2.2.2.2.2.2.2.1, z0.2.2.2.2.2.2.2.2.2.1, z0.2.2.2.2.2.2.2.2.2.2.1⟩ : api_Power), z0.2.2.2.2.2.2.2.2.2.2.2⟩ : shed_relief) a0 _ (guardO_get h4 hg))⟩, fun hg => by have e := guardO_not h4 hg; subst e; rfl⟩, trivial⟩ ⟨(cnt_lt hi0 hl0), trivial⟩ (by kernel_rfl) ?_
   rcases boolC ((y1 && y3.1)) with h5 | h5
   ·replace h := condT h5 h
    obtain ⟨y6, h7, h⟩ := bindE h
    exact WI_end (bs := [((y1 && y3.1), true)]) (φ := fun s' => w0b = .next s') (st' := (st222s1_0 x0 (n0 + 1))) (R' := (R222s1_0 (n0 + 1))) mixed lv222s1 25 [true] [.app (z0.2.2.2.2.2.2.1.map pI) ([cnt 0 n0].map pI) 1 (((z0.2.2.2.2.2.2.1.map pI).length + ([cnt 0 n0].map pI).length) * (8 + 1)) (y6.map pI)] [] 6 [0, 1, 2, 3, 4, 5, 12, 7, 8, 9, 10, 11] (t6 y3.2.board (y6, t4 y3.2.power y3.2.acts)) hC ⟨app_get pI 1 (fun _ => rfl) h7, trivial⟩ ⟨h5, trivial⟩ (by kernel_rfl) (by kernel_rfl) (sI h).symm
   ·replace h := condF h5 h
    exact WI_end (bs := [((y1 && y3.1), false)]) (φ := fun s' => w0b = .next s') (st' := (st222s1_0 x0 (n0 + 1))) (R' := (R222s1_0 (n0 + 1))) mixed lv222s1 25 [false] [] [] 6 n12_ (t6 y3.2.board (z0.2.2.2.2.2.2.1, t4 y3.2.power y3.2.acts)) hC trivial ⟨h5, trivial⟩ (by kernel_rfl) (by kernel_rfl) (sI h).symm
 ·have h := hnext0 _ hs0
  refine WI_stop (bs := []) mixed lv222s1 23 [] [.len ((z0.2.2.2.2.2.2.1.map pI).length : Int) (z0.2.2.2.2.2.2.1.length : Int)] [] 6 n12_ (st222s1_1 z0 0 (z0.1, z0.2.1, z0.2.2.1, z0.2.2.2.1, z0.2.2.2.2.1, z0.2.2.2.2.2.1, z0.2.2.2.2.2.2.2.1, z0.2.2.2.2.2.2.2.2.1, z0.2.2.2.2.2.2.2.2.2.1, z0.2.2.2.2.2.2.2.2.2.2.1, z0.2.2.2.2.2.2.2.2.2.2.2)) (R222s1_1 z0 0 (z0.1, z0.2.1, z0.2.2.1, z0.2.2.2.1, z0.2.2.2.2.1, z0.2.2.2.2.2.1, z0.2.2.2.2.2.2.2.1, z0.2.2.2.2.2.2.2.2.1, z0.2.2.2.2.2.2.2.2.2.1, z0.2.2.2.2.2.2.2.2.2.2.1, z0.2.2.2.2.2.2.2.2.2.2.2)) hC ⟨len_map _ _, trivial⟩ trivial (by kernel_rfl) ?_
  obtain ⟨w1, hm1, hret1, hnext1⟩ := andThen_inv h
  clear h
  refine WI_cut (by kernel_rfl) (fun s => w1 = .next s) (sa222s1_1) (Ra222s1_1) ?_ fun z1 hs1 => ?_
  ·refine WI_blk (by kernel_rfl) ?_
   refine WI_lenO 38 6 rfl rfl fun hl1 => ?_
   refine WI_foldI (by kernel_rfl) F222s1_l1 (st222s1_1 z0) (R222s1_1 z0) w1 z0.2.2.2.2.2.2.1 (z0.1, z0.2.1, z0.2.2.1, z0.2.2.2.1, z0.2.2.2.2.1, z0.2.2.2.2.2.1, z0.2.2.2.2.2.2.2.1, z0.2.2.2.2.2.2.2.2.1, z0.2.2.2.2.2.2.2.2.2.1, z0.2.2.2.2.2.2.2.2.2.2.1, z0.2.2.2.2.2.2.2.2.2.2.2) hm1 rfl rfl (fun z1 hn1 => ?_) fun n1 a1 z1 w1b hi1 hx1 h hb1 hr1 => ?_
   ·clear hm1
    exact WI_end (bs := [(decide ((cnt 0 z0.2.2.2.2.2.2.1.length) < (z0.2.2.2.2.2.2.1.length : Int)), false)]) (φ := fun s' => w1 = .next s') (st' := (sa222s1_1)) (R' := (Ra222s1_1)) mixed lv222s1 26 [false] [] [] 6 [0, 1, 2, 3, 4, 5, 7, 8, 9, 10, 11] (z1.1, z1.2.1, z1.2.2.1, z1.2.2.2.1, z1.2.2.2.2.1, z1.2.2.2.2.2.1, z1.2.2.2.2.2.2.1, z1.2.2.2.2.2.2.2.1, z1.2.2.2.2.2.2.2.2.1, z1.2.2.2.2.2.2.2.2.2.1, z1.2.2.2.2.2.2.2.2.2.2) hC trivial ⟨(cnt_end hl1), trivial⟩ (by kernel_rfl) (by kernel_rfl) hn1
   ·unfold F222s1_l1 at h
    obtain ⟨y8, h9, h⟩ := bindE h
    exact WI_end (bs := [(decide ((cnt 0 n1) < (z0.2.2.2.2.2.2.1.length : Int)), true)]) (φ := fun s' => w1b = .next s') (st' := (st222s1_1 z0 (n1 + 1))) (R' := (R222s1_1 z0 (n1 + 1))) mixed lv222s1 33 [true] [.row (z0.2.2.2.2.2.2.1.map pI) (cnt 0 n1) (pI a1), .row (z0.2.2.2.2.2.2.1.map pI) (((Int.toNat (cnt 0 n1)) : Nat) : Int) (pI a1), .call 255 [.d (.o 0 0), .d (I a1)] [.box 244 [I z1.1, DS q66 z1.2.1, DS q57 z1.2.2.1, DS q108 z1.2.2.2.1, I z1.2.2.2.2.1, I z1.2.2.2.2.2.1, .os 1, .os 2, .os 3, .os 4, .os 5], .sl 4 1 (z1.2.2.2.2.2.2.1.map pB), .sl 59 4 (z1.2.2.2.2.2.2.2.1.map q59), .sl 3 1 (z1.2.2.2.2.2.2.2.2.1.map pI), .sl 119 2 (z1.2.2.2.2.2.2.2.2.2.1.map q119), .sl 42 3 (z1.2.2.2.2.2.2.2.2.2.2.map q42)] (.tup []) (.box 244 (b6 y8.board [.os 1, .os 2, .os 3, .os 4, .os 6]) :: p4 y8.power [.non, .sl 42 3 (y8.acts.map q42)]) [0, 7, 8, 9, 10, 11]] [] 6 [0, 1, 2, 3, 4, 5, 6, 7, 8, 9, 10, 12] (t6 y8.board (t4 y8.power y8.acts)) hC ⟨row_get (get_cnt hx1 hl1), row_getN (get_cnt hx1 hl1), ⟨e255s1, (k255s1 (⟨(⟨z1.1, z1.2.1, z1.2.2.1, z1.2.2.2.1, z1.2.2.2.2.1, z1.2.2.2.2.2.1⟩ : api_Board), (⟨z1.2.2.2.2.2.2.1, z1.2.2.2.2.2.2.2.1, z1.2.2.2.2.2.2.2.2.1, z1.2.2.2.2.2.2.2.2.2.1⟩ : api_Power), z1.2.2.2.2.2.2.2.2.2.2⟩ : shed_relief) a1 _ h9)⟩, trivial⟩ ⟨(cnt_lt hi1 hl1), trivial⟩ (by kernel_rfl) (by kernel_rfl) (sI h).symm
  ·have h := hnext1 _ hs1
   replace h := sI h
   subst h
   exact WI_endF (bs := []) mixed lv222s1 20 [] [] [] [] 6 n11_ rfl hC trivial trivial (by kernel_rfl) (by kernel_rfl)
theorem e222s1 : Enters Tryz.prog 222 := Go.SL.enters_of Tryz.func222 (by kernel_rfl) (by kernel_rfl)
theorem k230s1 (x0 : List Int) (x1c0 : api_Board) (r : (List Int) × api_Board) (h : F230s1 x0 x1c0 = some r) : CallOk Tryz.prog 230 [.d (.os 0), .d (.fn (.func 231) [] [.o 1 0])] [.sl 3 1 (x0.map pI), .box 29 (d29 x1c0)] (.tup []) [.sl 3 1 (r.1.map pI), .box 29 (d29 r.2)] := by
 unfold F230s1 at h
 refine callOk_of 9 Tryz.func230 rfl rfl rfl fun C hC => ?_
 obtain ⟨y1, h2, h⟩ := bindE h
 replace h := sI h
 subst h
 exact WI_endF (bs := []) mixed [0, 1] 21 [] [.len ((x0.map pI).length : Int) (x0.length : Int), .call 259 [.d (.os 0), .d (I (x0.length : Int)), .d (.fn (.func 231) [] [.o 1 0])] [.sl 3 1 (x0.map pI), .box 29 (d29 x1c0)] (.tup []) [.sl 3 1 (y1.1.map pI), .box 29 (d29 y1.2)] [0, 1]] [] [] 2 [0, 1] rfl hC ⟨len_map _ _, ⟨e259s1, (k259s1 x0 (x0.length : Int) x1c0 _ h2)⟩, trivial⟩ trivial (by kernel_rfl) (by kernel_rfl)
theorem e230s1 : Enters Tryz.prog 230 := Go.SL.enters_of Tryz.func230 (by kernel_rfl) (by kernel_rfl)
def lv18 : List Nat := [0, 1, 2, 3, 4, 5, 6, 7, 8, 9, 13, 19, 20, 21, 26, 39, 40, 41, 43, 44, 45, 46, 58]
def st18_0 (x0 : api_Board) (z0 : Int × (List Bool)) : St := [(2, .d (.o 0 0)), (3, .d (.o 1 0)), (4, .d (DS pB [])), (5, .d (.os 2)), (19, .d (I (x0.Sources.length : Int))), (20, .d (I z0.1))]
def R18_0 (x0 : api_Board) (x1 : api_Power) (z0 : Int × (List Bool)) : List Res := [.box 29 (d29 x0), .box 35 (d35 x1), .sl 4 1 (z0.2.map pB)]
def sa18_0  (z0 : Int × (List Bool)) : St := [(2, .d (.o 0 0)), (3, .d (.o 1 0)), (4, .d (DS pB [])), (5, .d (.os 2))]
def Ra18_0 (x0 : api_Board) (x1 : api_Power) (z0 : Int × (List Bool)) : List Res := [.box 29 (d29 x0), .box 35 (d35 x1), .sl 4 1 (z0.2.map pB)]
def st18_1 (x0 : api_Board) (z1 : Int × (List Bool)) : St := [(2, .d (.o 0 0)), (3, .d (.o 1 0)), (4, .d (DS pB [])), (5, .d (.os 2)), (39, .d (I x0.Buses)), (40, .d (I z1.1))]
def R18_1 (x0 : api_Board) (x1 : api_Power) (z1 : Int × (List Bool)) : List Res := [.box 29 (d29 x0), .box 35 (d35 x1), .sl 4 1 (z1.2.map pB)]
def sa18_1  (z1 : Int × (List Bool)) : St := [(4, .d (DS pB [])), (5, .d (.os 0))]
def Ra18_1  (z1 : Int × (List Bool)) : List Res := [.sl 4 1 (z1.2.map pB)]
def st18_2 (x0 : api_Board) (z1 : Int × (List Bool)) (n2 : Nat) (z2 : (List Bool)) : St := [(2, .d (.o 0 0)), (3, .d (.o 1 0)), (4, .d (DS pB [])), (5, .d (.os 2)), (39, .d (I x0.Buses)), (40, .d (I z1.1)), (43, .d (DS q66 x0.Breakers)), (44, .d (I (x0.Breakers.length : Int))), (45, .d (I (cnt 0 n2)))]
def R18_2 (x0 : api_Board) (x1 : api_Power) (n2 : Nat) (z2 : (List Bool)) : List Res := [.box 29 (d29 x0), .box 35 (d35 x1), .sl 4 1 (z2.map pB)]
def sa18_2 (x0 : api_Board) (z1 : Int × (List Bool)) (z2 : (List Bool)) : St := [(2, .d (.o 0 0)), (3, .d (.o 1 0)), (4, .d (DS pB [])), (5, .d (.os 2)), (39, .d (I x0.Buses)), (40, .d (I z1.1))]
def Ra18_2 (x0 : api_Board) (x1 : api_Power) (z2 : (List Bool)) : List Res := [.box 29 (d29 x0), .box 35 (d35 x1), .sl 4 1 (z2.map pB)]
theorem k18 (x0 : api_Board) (x1 : api_Power) (r : (List Bool)) (h : F18 x0 x1 = some r) : CallOk Tryz.prog 18 [.agg (d29 x0), .agg (d35 x1)] [] (.d (.os 0)) [.sl 4 1 (r.map pB)] := by
 unfold F18 at h
 refine callOk_of 84 Tryz.func18 rfl rfl rfl fun C hC => ?_
 obtain ⟨y1, h2, h⟩ := bindE h
 refine WI_stop (bs := []) mixed lv18 26 [] [.call 65 [.agg (d29 x0), .agg (d35 x1)] [] (.d (I y1)) [] []] [] 0 [0, 1] [(2, .d (.o 0 0)), (3, .d (.o 1 0)), (4, .d (DS pB [])), (13, .d (Bo (y1 != 0)))] [.box 29 (d29 x0), .box 35 (d35 x1)] hC ⟨⟨e65, (k65 x0 x1 _ h2)⟩, trivial⟩ trivial (by kernel_rfl) ?_
 rcases boolC ((y1 != 0)) with h3 | h3
 ·replace h := condT h3 h
  replace h := sI h
  subst h
  exact WI_ret (bs := [((y1 != 0), true)]) mixed lv18 24 [true] [] [.own 4 4 1] [.tmp 4] 0 [2] rfl hC trivial ⟨h3, trivial⟩ (by kernel_rfl)
 ·replace h := condF h3 h
  obtain ⟨y4, h5, h⟩ := bindE h
  refine WI_stop (bs := [((y1 != 0), false)]) mixed lv18 28 [false] [.room (x0.Buses * (1 + 1)) (List.replicate (Int.toNat x0.Buses) (pB false)) (y4.map pB), .len ((x0.Sources.map q57).length : Int) (x0.Sources.length : Int)] [] 0 n3_ (st18_0 x0 (0, y4)) (R18_0 x0 x1 (0, y4)) hC ⟨make_get h5, len_map _ _, trivial⟩ ⟨h3, trivial⟩ (by kernel_rfl) ?_
  obtain ⟨w0, hm0, hret0, hnext0⟩ := andThen_inv h
  clear h
  refine WI_cut (by kernel_rfl) (fun s => w0 = .next s) (sa18_0) (Ra18_0 x0 x1) ?_ fun z0 hs0 => ?_
  ·refine WI_blk (by kernel_rfl) ?_
   refine WI_while (by kernel_rfl) (F18_l0 x0 x1) (st18_0 x0) (R18_0 x0 x1) w0 1152921504606846976 (0, y4) hm0 rfl rfl fun z0 w0b h hb0 hr0 => ?_
   unfold F18_l0 at h
   rcases boolC ((c18_1 x0 z0)) with h6 | h6
   ·replace h := condT h6 h
    obtain ⟨y7, h8, h⟩ := bindE h
    refine WI_stop (bs := [((c18_1 x0 z0), true)]) mixed lv18 32 [true] [.call 66 [.agg (d29 x0), .agg (d35 x1), .d (I z0.1)] [] (.d (Bo y7)) [] []] [] 0 n3_ [(2, .d (.o 0 0)), (3, .d (.o 1 0)), (4, .d (DS pB [])), (5, .d (.os 2)), (6, .d (I z0.1)), (19, .d (I (x0.Sources.length : Int))), (20, .d (I z0.1)), (26, .d (Bo y7))] [.box 29 (d29 x0), .box 35 (d35 x1), .sl 4 1 (z0.2.map pB)] hC ⟨⟨e66, (k66 x0 x1 z0.1 _ h8)⟩, trivial⟩ ⟨h6, trivial⟩ (by kernel_rfl) ?_
    rcases boolC (y7) with h9 | h9
    ·replace h := condT h9 h
     obtain ⟨y10, h11, h⟩ := bindE h
     obtain ⟨y12, h13, h⟩ := bindE h
     obtain ⟨y14, h15, h⟩ := bindE h
     obtain ⟨y16, h17, h⟩ := bindE h
     exact WI_end (bs := [(y7, true)]) (φ := fun s' => w0b = .next s') (st' := (st18_0 x0)) (R' := (R18_0 x0 x1)) mixed lv18 25 [true] [.call 67 [.agg (d29 x0), .d (I z0.1)] [] (.d (I y10)) [] [], .row (x0.Breakers.map q66) y10 (q66 y12), .row (z0.2.map pB) y12.A (pB y14), .upd (z0.2.map pB) (Int.toNat y12.A) (pB y14) (pB true) (y16.map pB)] [] 0 n3_ (w64 (z0.1 + 1), y16) hC ⟨⟨e67, (k67 x0 z0.1 _ h11)⟩, row_get h13, row_get h15, upd_get h15 h17, trivial⟩ ⟨h9, trivial⟩ (by kernel_rfl) (by kernel_rfl) (sI h).symm
    ·replace h := condF h9 h
     exact WI_end (bs := [(y7, false)]) (φ := fun s' => w0b = .next s') (st' := (st18_0 x0)) (R' := (R18_0 x0 x1)) mixed lv18 25 [false] [] [] 0 n3_ (w64 (z0.1 + 1), z0.2) hC trivial ⟨h9, trivial⟩ (by kernel_rfl) (by kernel_rfl) (sI h).symm
   ·replace h := condF h6 h
    exact WI_end (bs := [((c18_1 x0 z0), false)]) (φ := fun s' => w0 = .next s') (st' := (sa18_0)) (R' := (Ra18_0 x0 x1)) mixed lv18 26 [false] [] [] 0 n3_ (z0.1, z0.2) hC trivial ⟨h6, trivial⟩ (by kernel_rfl) (by kernel_rfl) (hb0 _ (sI h).symm)
  ·have h := hnext0 _ hs0
   refine WI_stop (bs := []) mixed lv18 24 [] [] [] 0 n3_ (st18_1 x0 (0, z0.2)) (R18_1 x0 x1 (0, z0.2)) hC trivial trivial (by kernel_rfl) ?_
   obtain ⟨w1, hm1, hret1, hnext1⟩ := andThen_inv h
   clear h
   refine WI_cut (by kernel_rfl) (fun s => w1 = .next s) (sa18_1) (Ra18_1) ?_ fun z1 hs1 => ?_
   ·refine WI_blk (by kernel_rfl) ?_
    refine WI_while (by kernel_rfl) (F18_l1 x0 x1) (st18_1 x0) (R18_1 x0 x1) w1 1152921504606846976 (0, z0.2) hm1 rfl rfl fun z1 w1b h hb1 hr1 => ?_
    unfold F18_l1 at h
    rcases boolC (decide (z1.1 < x0.Buses)) with h18 | h18
    ·replace h := condT h18 h
     refine WI_stop (bs := [(decide (z1.1 < x0.Buses), true)]) mixed lv18 30 [true] [.len ((x0.Breakers.map q66).length : Int) (x0.Breakers.length : Int)] [] 0 n3_ (st18_2 x0 z1 0 z1.2) (R18_2 x0 x1 0 z1.2) hC ⟨len_map _ _, trivial⟩ ⟨h18, trivial⟩ (by kernel_rfl) ?_
     obtain ⟨w2, hm2, hret2, hnext2⟩ := andThen_inv h
     clear h
     refine WI_cut (by kernel_rfl) (fun s => w2 = .next s) (sa18_2 x0 z1) (Ra18_2 x0 x1) ?_ fun z2 hs2 => ?_
     ·refine WI_blk (by kernel_rfl) ?_
      refine WI_len 43 rfl fun hl2 => ?_
      refine WI_foldI (by kernel_rfl) (F18_l2 x0 x1) (st18_2 x0 z1) (R18_2 x0 x1) w2 x0.Breakers z1.2 hm2 rfl rfl (fun z2 hn2 => ?_) fun n2 a2 z2 w2b hi2 hx2 h hb2 hr2 => ?_
      ·clear hm2
       exact WI_end (bs := [(decide ((cnt 0 x0.Breakers.length) < (x0.Breakers.length : Int)), false)]) (φ := fun s' => w2 = .next s') (st' := (sa18_2 x0 z1)) (R' := (Ra18_2 x0 x1)) mixed lv18 26 [false] [] [] 0 n3_ z2 hC trivial ⟨(cnt_end hl2), trivial⟩ (by kernel_rfl) (by kernel_rfl) hn2
      ·unfold F18_l2 at h
       obtain ⟨y19, h20, h⟩ := bindE h
       refine WI_stop (bs := [(decide ((cnt 0 n2) < (x0.Breakers.length : Int)), true)]) mixed lv18 32 [true] [.row (x0.Breakers.map q66) (cnt 0 n2) (q66 a2), .when [((a2.Kind == 1), true)] (.call 68 [.agg (d29 x0), .agg (d35 x1), .d (I (cnt 0 n2))] [] (.d (Bo y19)) [] [])] [] 0 n4_ [(2, .d (.o 0 0)), (3, .d (.o 1 0)), (4, .d (DS pB [])), (5, .d (.os 2)), (8, .d (.o 3 0)), (39, .d (I x0.Buses)), (40, .d (I z1.1)), (43, .d (DS q66 x0.Breakers)), (44, .d (I (x0.Breakers.length : Int))), (45, .d (I (cnt 0 n2))), (58, .d (Bo ((a2.Kind == 1) && y19)))] [.box 29 (d29 x0), .box 35 (d35 x1), .sl 4 1 (z2.map pB), .box 66 (d66 a2)] hC ⟨(row_cnt hx2 hl2), fun hg => ⟨e68, (k68 x0 x1 (cnt 0 n2) _ (guardO_get h20 hg))⟩, trivial⟩ ⟨(cnt_lt hi2 hl2), trivial⟩ (by kernel_rfl) ?_
       rcases boolC (((a2.Kind == 1) && y19)) with h21 | h21
       ·replace h := condT h21 h
        obtain ⟨y22, h23, h⟩ := bindE h
        obtain ⟨y24, h25, h⟩ := bindE h
        obtain ⟨y26, h27, h⟩ := bindE h
        obtain ⟨y28, h29, h⟩ := bindE h
        obtain ⟨y30, h31, h⟩ := bindE h
        exact WI_end (bs := [(((a2.Kind == 1) && y19), true)]) (φ := fun s' => w2b = .next s') (st' := (st18_2 x0 z1 (n2 + 1))) (R' := (R18_2 x0 x1 (n2 + 1))) mixed lv18 27 [true] [.row (z2.map pB) a2.A (pB y22), .row (z2.map pB) (((Int.toNat a2.A) : Nat) : Int) (pB y22), .when [(y22, false)] (.row (z2.map pB) a2.B (pB y24)), .when [(y22, false)] (.row (z2.map pB) (((Int.toNat a2.B) : Nat) : Int) (pB y24)), .row (z2.map pB) a2.A (pB y22), .upd (z2.map pB) (Int.toNat a2.A) (pB y22) (pB (y22 || y24)) (y26.map pB), .row (y26.map pB) a2.B (pB y28), .upd (y26.map pB) (Int.toNat a2.B) (pB y28) (pB (y22 || y24)) (y30.map pB)] [] 0 n3_ y30 hC ⟨row_get h23, row_getN h23, fun hg => row_get (guardO_get h25 hg), fun hg => row_getN (guardO_get h25 hg), row_get h23, upd_get h23 h27, row_get h29, upd_get h29 h31, trivial⟩ ⟨h21, trivial⟩ (by kernel_rfl) (by kernel_rfl) (sI h).symm
       ·replace h := condF h21 h
        exact WI_end (bs := [(((a2.Kind == 1) && y19), false)]) (φ := fun s' => w2b = .next s') (st' := (st18_2 x0 z1 (n2 + 1))) (R' := (R18_2 x0 x1 (n2 + 1))) mixed lv18 25 [false] [] [] 0 n3_ z2 hC trivial ⟨h21, trivial⟩ (by kernel_rfl) (by kernel_rfl) (sI h).symm
     ·have h := hnext2 _ hs2
      exact WI_end (bs := []) (φ := fun s' => w1b = .next s') (st' := (st18_1 x0)) (R' := (R18_1 x0 x1)) mixed lv18 23 [] [] [] 0 n3_ (w64 (z1.1 + 1), z2) hC trivial trivial (by kernel_rfl) (by kernel_rfl) (sI h).symm
    ·replace h := condF h18 h
     exact WI_end (bs := [(decide (z1.1 < x0.Buses), false)]) (φ := fun s' => w1 = .next s') (st' := (sa18_1)) (R' := (Ra18_1)) mixed lv18 26 [false] [] [] 0 [2] (z1.1, z1.2) hC trivial ⟨h18, trivial⟩ (by kernel_rfl) (by kernel_rfl) (hb1 _ (sI h).symm)
   ·have h := hnext1 _ hs1
    replace h := sI h
    subst h
    exact WI_ret (bs := []) mixed lv18 23 [] [] [] [.tmp 4] 0 [0] rfl hC trivial trivial (by kernel_rfl)
theorem e18 : Enters Tryz.prog 18 := Go.SL.enters_of Tryz.func18 (by kernel_rfl) (by kernel_rfl)
def lv168 : List Nat := [0, 1, 2, 3, 4, 6, 7, 11]
theorem k168 (x0 : api_Board) (x1 : api_Power) (x2 : Int) (r : Int × Bool) (h : F168 x0 x1 x2 = some r) : CallOk Tryz.prog 168 [.agg (d29 x0), .agg (d35 x1), .d (I x2)] [] (.tup [.d (I r.1), .d (Bo r.2)]) [] := by
 unfold F168 at h
 refine callOk_of 18 Tryz.func168 rfl rfl rfl fun C hC => ?_
 obtain ⟨y1, h2, h⟩ := bindE h
 refine WI_stop (bs := []) mixed lv168 26 [] [.call 65 [.agg (d29 x0), .agg (d35 x1)] [] (.d (I y1)) [] []] [] 0 [0, 1] [(2, .d (I x2)), (3, .d (.o 0 0)), (4, .d (.o 1 0)), (6, .d (I 0)), (7, .d (Bo false)), (11, .d (Bo (y1 != 0)))] [.box 29 (d29 x0), .box 35 (d35 x1)] hC ⟨⟨e65, (k65 x0 x1 _ h2)⟩, trivial⟩ trivial (by kernel_rfl) ?_
 rcases boolC ((y1 != 0)) with h3 | h3
 ·replace h := condT h3 h
  replace h := sI h
  subst h
  exact WI_ret (bs := [((y1 != 0), true)]) mixed lv168 24 [true] [] [] [.tmp 6, .tmp 7] 0 [] rfl hC trivial ⟨h3, trivial⟩ (by kernel_rfl)
 ·replace h := condF h3 h
  obtain ⟨y4, h5, h⟩ := bindE h
  replace h := sI h
  subst h
  exact WI_ret (bs := [((y1 != 0), false)]) mixed lv168 25 [false] [.call 188 [.agg (d29 x0), .agg (d35 x1), .d (I x2)] [] (.tup [.d (I y4.1), .d (Bo y4.2)]) [] []] [] [.tmp 6, .tmp 7] 0 [] rfl hC ⟨⟨e188, (k188 x0 x1 x2 _ h5)⟩, trivial⟩ ⟨h3, trivial⟩ (by kernel_rfl)
theorem e168 : Enters Tryz.prog 168 := Go.SL.enters_of Tryz.func168 (by kernel_rfl) (by kernel_rfl)
def lv106 : List Nat := [0, 1, 2, 3, 4, 5, 6, 7, 8, 9, 10, 11, 12, 13, 14, 18, 25, 26, 27, 28, 47, 48, 49, 58, 80, 81, 82, 91]
def st106_0 (y4 : (List Int)) (n0 : Nat) (z0 : (List api_Island)) : St := [(2, .d (.o 0 0)), (3, .d (.o 1 0)), (4, .d (DS q78 [])), (5, .d (.os 2)), (6, .d (.os 3)), (25, .d (.os 2)), (26, .d (I (y4.length : Int))), (27, .d (I (cnt 0 n0)))]
def R106_0 (x0 : api_Board) (x1 : api_Power) (y4 : (List Int)) (n0 : Nat) (z0 : (List api_Island)) : List Res := [.box 29 (d29 x0), .box 35 (d35 x1), .sl 3 1 (y4.map pI), .dsl 78 3 4, .gh 3 [(3, 1), (3, 1), (3, 1)] (z0.map q78) none]
def sa106_0  (z0 : (List api_Island)) : St := [(2, .d (.o 0 0)), (3, .d (.o 1 0)), (4, .d (DS q78 [])), (5, .d (.os 2)), (6, .d (.os 3))]
def Ra106_0 (x0 : api_Board) (x1 : api_Power) (y4 : (List Int)) (z0 : (List api_Island)) : List Res := [.box 29 (d29 x0), .box 35 (d35 x1), .sl 3 1 (y4.map pI), .dsl 78 3 4, .gh 3 [(3, 1), (3, 1), (3, 1)] (z0.map q78) none]
def st106_1 (x0 : api_Board) (z1 : Int × (List api_Island)) : St := [(2, .d (.o 0 0)), (3, .d (.o 1 0)), (4, .d (DS q78 [])), (5, .d (.os 2)), (6, .d (.os 3)), (47, .d (I (x0.Sources.length : Int))), (48, .d (I z1.1))]
def R106_1 (x0 : api_Board) (x1 : api_Power) (y4 : (List Int)) (z1 : Int × (List api_Island)) : List Res := [.box 29 (d29 x0), .box 35 (d35 x1), .sl 3 1 (y4.map pI), .dsl 78 3 4, .gh 3 [(3, 1), (3, 1), (3, 1)] (z1.2.map q78) none]
def sa106_1  (z1 : Int × (List api_Island)) : St := [(2, .d (.o 0 0)), (3, .d (.o 1 0)), (4, .d (DS q78 [])), (5, .d (.os 2)), (6, .d (.os 3))]
def Ra106_1 (x0 : api_Board) (x1 : api_Power) (y4 : (List Int)) (z1 : Int × (List api_Island)) : List Res := [.box 29 (d29 x0), .box 35 (d35 x1), .sl 3 1 (y4.map pI), .dsl 78 3 4, .gh 3 [(3, 1), (3, 1), (3, 1)] (z1.2.map q78) none]
def st106_2 (x0 : api_Board) (z2 : Int × (List api_Island)) : St := [(2, .d (.o 0 0)), (3, .d (.o 1 0)), (4, .d (DS q78 [])), (5, .d (.os 2)), (6, .d (.os 3)), (80, .d (I (x0.Consumers.length : Int))), (81, .d (I z2.1))]
def R106_2 (x0 : api_Board) (x1 : api_Power) (y4 : (List Int)) (z2 : Int × (List api_Island)) : List Res := [.box 29 (d29 x0), .box 35 (d35 x1), .sl 3 1 (y4.map pI), .dsl 78 3 4, .gh 3 [(3, 1), (3, 1), (3, 1)] (z2.2.map q78) none]
def sa106_2  (z2 : Int × (List api_Island)) : St := [(4, .d (DS q78 [])), (6, .d (.os 0))]
def Ra106_2  (z2 : Int × (List api_Island)) : List Res := [.dsl 78 3 1, .gh 3 [(3, 1), (3, 1), (3, 1)] (z2.2.map q78) none]
theorem k106 (x0 : api_Board) (x1 : api_Power) (r : (List api_Island)) (h : F106 x0 x1 = some r) : CallOk Tryz.prog 106 [.agg (d29 x0), .agg (d35 x1)] [] (.d (.os 0)) [.sl 78 3 (r.map q78)] := by
 unfold F106 at h
 refine callOk_of 113 Tryz.func106 rfl rfl rfl fun C hC => ?_
 obtain ⟨y1, h2, h⟩ := bindE h
 refine WI_stop (bs := []) mixed lv106 26 [] [.call 65 [.agg (d29 x0), .agg (d35 x1)] [] (.d (I y1)) [] []] [] 0 [0, 1] [(2, .d (.o 0 0)), (3, .d (.o 1 0)), (4, .d (DS q78 [])), (18, .d (Bo (y1 != 0)))] [.box 29 (d29 x0), .box 35 (d35 x1)] hC ⟨⟨e65, (k65 x0 x1 _ h2)⟩, trivial⟩ trivial (by kernel_rfl) ?_
 rcases boolC ((y1 != 0)) with h3 | h3
 ·replace h := condT h3 h
  replace h := sI h
  subst h
  exact WI_ret (bs := [((y1 != 0), true)]) mixed lv106 24 [true] [] [.own 4 78 3] [.tmp 4] 0 [2] rfl hC trivial ⟨h3, trivial⟩ (by kernel_rfl)
 ·replace h := condF h3 h
  obtain ⟨y4, h5, h⟩ := bindE h
  obtain ⟨y6, h7, h⟩ := bindE h
  refine WI_stop (bs := [((y1 != 0), false)]) mixed lv106 30 [false] [.call 186 [.agg (d29 x0), .agg (d35 x1)] [] (.d (.os 0)) [.sl 3 1 (y4.map pI)] [], .roomZ (x0.Buses * (72 + 1)) (List.replicate (Int.toNat x0.Buses) (q78 (⟨([] : List Int), ([] : List Int), ([] : List Int)⟩ : api_Island))) (y6.map q78), .len ((y4.map pI).length : Int) (y4.length : Int)] [.deep 3 [(3, 1), (3, 1), (3, 1)]] 0 n5_ (st106_0 y4 0 y6) (R106_0 x0 x1 y4 0 y6) hC ⟨⟨e186, (k186 x0 x1 _ h5)⟩, makez_get h7, len_map _ _, trivial⟩ ⟨h3, trivial⟩ (by kernel_rfl) ?_
  obtain ⟨w0, hm0, hret0, hnext0⟩ := andThen_inv h
  clear h
  refine WI_cut (by kernel_rfl) (fun s => w0 = .next s) (sa106_0) (Ra106_0 x0 x1 y4) ?_ fun z0 hs0 => ?_
  ·refine WI_blk (by kernel_rfl) ?_
   refine WI_lenO 25 2 rfl rfl fun hl0 => ?_
   refine WI_foldI (by kernel_rfl) F106_l0 (st106_0 y4) (R106_0 x0 x1 y4) w0 y4 y6 hm0 rfl rfl (fun z0 hn0 => ?_) fun n0 a0 z0 w0b hi0 hx0 h hb0 hr0 => ?_
   ·clear hm0
    exact WI_end (bs := [(decide ((cnt 0 y4.length) < (y4.length : Int)), false)]) (φ := fun s' => w0 = .next s') (st' := (sa106_0)) (R' := (Ra106_0 x0 x1 y4)) mixed lv106 26 [false] [] [] 0 n5_ z0 hC trivial ⟨(cnt_end hl0), trivial⟩ (by kernel_rfl) (by kernel_rfl) hn0
   ·unfold F106_l0 at h
    obtain ⟨y8, h9, h⟩ := bindE h
    obtain ⟨y10, h11, h⟩ := bindE h
    obtain ⟨y12, h13, h⟩ := bindE h
    exact WI_end (bs := [(decide ((cnt 0 n0) < (y4.length : Int)), true)]) (φ := fun s' => w0b = .next s') (st' := (st106_0 y4 (n0 + 1))) (R' := (R106_0 x0 x1 y4 (n0 + 1))) mixed lv106 33 [true] [.row (y4.map pI) (cnt 0 n0) (pI a0), .row (y4.map pI) (((Int.toNat (cnt 0 n0)) : Nat) : Int) (pI a0), .row (z0.map q78) a0 (q78 y8), .row (z0.map q78) (((Int.toNat a0) : Nat) : Int) (q78 y8), .appD (z0.map q78) (Int.toNat a0) (q78 y8) 0 (y8.Buses.map pI) ([cnt 0 n0].map pI) 1 (((y8.Buses.map pI).length + ([cnt 0 n0].map pI).length) * (8 + 1)) (y10.map pI), .row (z0.map q78) a0 (q78 y8), .updD (z0.map q78) (Int.toNat a0) (Int.toNat a0) (q78 y8) (q78 (⟨y10, y8.Sources, y8.Consumers⟩ : api_Island)) (y12.map q78)] [] 0 [0, 1, 2, 3, 8] y12 hC ⟨row_get (get_cnt hx0 hl0), row_getN (get_cnt hx0 hl0), row_get h9, row_getN h9, appD_get 1 (fun _ => rfl) h9 rfl h11, row_get h9, updD_get h9 h13, trivial⟩ ⟨(cnt_lt hi0 hl0), trivial⟩ (by kernel_rfl) (by kernel_rfl) (sI h).symm
  ·have h := hnext0 _ hs0
   refine WI_stop (bs := []) mixed lv106 24 [] [.len ((x0.Sources.map q57).length : Int) (x0.Sources.length : Int)] [] 0 n5_ (st106_1 x0 (0, z0)) (R106_1 x0 x1 y4 (0, z0)) hC ⟨len_map _ _, trivial⟩ trivial (by kernel_rfl) ?_
   obtain ⟨w1, hm1, hret1, hnext1⟩ := andThen_inv h
   clear h
   refine WI_cut (by kernel_rfl) (fun s => w1 = .next s) (sa106_1) (Ra106_1 x0 x1 y4) ?_ fun z1 hs1 => ?_
   ·refine WI_blk (by kernel_rfl) ?_
    refine WI_while (by kernel_rfl) (F106_l1 x0 x1 y4) (st106_1 x0) (R106_1 x0 x1 y4) w1 1152921504606846976 (0, z0) hm1 rfl rfl fun z1 w1b h hb1 hr1 => ?_
    unfold F106_l1 at h
    rcases boolC ((c106_1 x0 z1)) with h14 | h14
    ·replace h := condT h14 h
     obtain ⟨y15, h16, h⟩ := bindE h
     refine WI_stop (bs := [((c106_1 x0 z1), true)]) mixed lv106 34 [true] [.call 187 [.agg (d29 x0), .agg (d35 x1), .d (I z1.1)] [] (.tup [.d (I y15.1), .d (Bo y15.2)]) [] []] [] 0 n5_ [(2, .d (.o 0 0)), (3, .d (.o 1 0)), (4, .d (DS q78 [])), (5, .d (.os 2)), (6, .d (.os 3)), (9, .d (I z1.1)), (10, .d (I y15.1)), (47, .d (I (x0.Sources.length : Int))), (48, .d (I z1.1)), (58, .d (Bo y15.2))] [.box 29 (d29 x0), .box 35 (d35 x1), .sl 3 1 (y4.map pI), .dsl 78 3 4, .gh 3 [(3, 1), (3, 1), (3, 1)] (z1.2.map q78) none] hC ⟨⟨e187, (k187 x0 x1 z1.1 _ h16)⟩, trivial⟩ ⟨h14, trivial⟩ (by kernel_rfl) ?_
     rcases boolC (y15.2) with h17 | h17
     ·replace h := condT h17 h
      obtain ⟨y18, h19, h⟩ := bindE h
      obtain ⟨y20, h21, h⟩ := bindE h
      obtain ⟨y22, h23, h⟩ := bindE h
      obtain ⟨y24, h25, h⟩ := bindE h
      exact WI_end (bs := [(y15.2, true)]) (φ := fun s' => w1b = .next s') (st' := (st106_1 x0)) (R' := (R106_1 x0 x1 y4)) mixed lv106 25 [true] [.row (y4.map pI) y15.1 (pI y18), .row (y4.map pI) (((Int.toNat y15.1) : Nat) : Int) (pI y18), .row (y4.map pI) y15.1 (pI y18), .row (y4.map pI) (((Int.toNat y15.1) : Nat) : Int) (pI y18), .row (z1.2.map q78) y18 (q78 y20), .row (z1.2.map q78) (((Int.toNat y18) : Nat) : Int) (q78 y20), .appD (z1.2.map q78) (Int.toNat y18) (q78 y20) 1 (y20.Sources.map pI) ([z1.1].map pI) 1 (((y20.Sources.map pI).length + ([z1.1].map pI).length) * (8 + 1)) (y22.map pI), .row (z1.2.map q78) y18 (q78 y20), .updD (z1.2.map q78) (Int.toNat y18) (Int.toNat y18) (q78 y20) (q78 (⟨y20.Buses, y22, y20.Consumers⟩ : api_Island)) (y24.map q78)] [] 0 [0, 1, 2, 3, 8] (w64 (z1.1 + 1), y24) hC ⟨row_get h19, row_getN h19, row_get h19, row_getN h19, row_get h21, row_getN h21, appD_get 1 (fun _ => rfl) h21 rfl h23, row_get h21, updD_get h21 h25, trivial⟩ ⟨h17, trivial⟩ (by kernel_rfl) (by kernel_rfl) (sI h).symm
     ·replace h := condF h17 h
      exact WI_end (bs := [(y15.2, false)]) (φ := fun s' => w1b = .next s') (st' := (st106_1 x0)) (R' := (R106_1 x0 x1 y4)) mixed lv106 25 [false] [] [] 0 n5_ (w64 (z1.1 + 1), z1.2) hC trivial ⟨h17, trivial⟩ (by kernel_rfl) (by kernel_rfl) (sI h).symm
    ·replace h := condF h14 h
     exact WI_end (bs := [((c106_1 x0 z1), false)]) (φ := fun s' => w1 = .next s') (st' := (sa106_1)) (R' := (Ra106_1 x0 x1 y4)) mixed lv106 26 [false] [] [] 0 n5_ (z1.1, z1.2) hC trivial ⟨h14, trivial⟩ (by kernel_rfl) (by kernel_rfl) (hb1 _ (sI h).symm)
   ·have h := hnext1 _ hs1
    refine WI_stop (bs := []) mixed lv106 24 [] [.len ((x0.Consumers.map q108).length : Int) (x0.Consumers.length : Int)] [] 0 n5_ (st106_2 x0 (0, z1.2)) (R106_2 x0 x1 y4 (0, z1.2)) hC ⟨len_map _ _, trivial⟩ trivial (by kernel_rfl) ?_
    obtain ⟨w2, hm2, hret2, hnext2⟩ := andThen_inv h
    clear h
    refine WI_cut (by kernel_rfl) (fun s => w2 = .next s) (sa106_2) (Ra106_2) ?_ fun z2 hs2 => ?_
    ·refine WI_blk (by kernel_rfl) ?_
     refine WI_while (by kernel_rfl) (F106_l2 x0 x1 y4) (st106_2 x0) (R106_2 x0 x1 y4) w2 1152921504606846976 (0, z1.2) hm2 rfl rfl fun z2 w2b h hb2 hr2 => ?_
     unfold F106_l2 at h
     rcases boolC ((c106_3 x0 z2)) with h26 | h26
     ·replace h := condT h26 h
      obtain ⟨y27, h28, h⟩ := bindE h
      refine WI_stop (bs := [((c106_3 x0 z2), true)]) mixed lv106 34 [true] [.call 188 [.agg (d29 x0), .agg (d35 x1), .d (I z2.1)] [] (.tup [.d (I y27.1), .d (Bo y27.2)]) [] []] [] 0 n5_ [(2, .d (.o 0 0)), (3, .d (.o 1 0)), (4, .d (DS q78 [])), (5, .d (.os 2)), (6, .d (.os 3)), (12, .d (I z2.1)), (13, .d (I y27.1)), (80, .d (I (x0.Consumers.length : Int))), (81, .d (I z2.1)), (91, .d (Bo y27.2))] [.box 29 (d29 x0), .box 35 (d35 x1), .sl 3 1 (y4.map pI), .dsl 78 3 4, .gh 3 [(3, 1), (3, 1), (3, 1)] (z2.2.map q78) none] hC ⟨⟨e188, (k188 x0 x1 z2.1 _ h28)⟩, trivial⟩ ⟨h26, trivial⟩ (by kernel_rfl) ?_
      rcases boolC (y27.2) with h29 | h29
      ·replace h := condT h29 h
       obtain ⟨y30, h31, h⟩ := bindE h
       obtain ⟨y32, h33, h⟩ := bindE h
       obtain ⟨y34, h35, h⟩ := bindE h
       obtain ⟨y36, h37, h⟩ := bindE h
       exact WI_end (bs := [(y27.2, true)]) (φ := fun s' => w2b = .next s') (st' := (st106_2 x0)) (R' := (R106_2 x0 x1 y4)) mixed lv106 25 [true] [.row (y4.map pI) y27.1 (pI y30), .row (y4.map pI) (((Int.toNat y27.1) : Nat) : Int) (pI y30), .row (y4.map pI) y27.1 (pI y30), .row (y4.map pI) (((Int.toNat y27.1) : Nat) : Int) (pI y30), .row (z2.2.map q78) y30 (q78 y32), .row (z2.2.map q78) (((Int.toNat y30) : Nat) : Int) (q78 y32), .appD (z2.2.map q78) (Int.toNat y30) (q78 y32) 2 (y32.Consumers.map pI) ([z2.1].map pI) 1 (((y32.Consumers.map pI).length + ([z2.1].map pI).length) * (8 + 1)) (y34.map pI), .row (z2.2.map q78) y30 (q78 y32), .updD (z2.2.map q78) (Int.toNat y30) (Int.toNat y30) (q78 y32) (q78 (⟨y32.Buses, y32.Sources, y34⟩ : api_Island)) (y36.map q78)] [] 0 [0, 1, 2, 3, 8] (w64 (z2.1 + 1), y36) hC ⟨row_get h31, row_getN h31, row_get h31, row_getN h31, row_get h33, row_getN h33, appD_get 1 (fun _ => rfl) h33 rfl h35, row_get h33, updD_get h33 h37, trivial⟩ ⟨h29, trivial⟩ (by kernel_rfl) (by kernel_rfl) (sI h).symm
      ·replace h := condF h29 h
       exact WI_end (bs := [(y27.2, false)]) (φ := fun s' => w2b = .next s') (st' := (st106_2 x0)) (R' := (R106_2 x0 x1 y4)) mixed lv106 25 [false] [] [] 0 n5_ (w64 (z2.1 + 1), z2.2) hC trivial ⟨h29, trivial⟩ (by kernel_rfl) (by kernel_rfl) (sI h).symm
     ·replace h := condF h26 h
      exact WI_end (bs := [((c106_3 x0 z2), false)]) (φ := fun s' => w2 = .next s') (st' := (sa106_2)) (R' := (Ra106_2)) mixed lv106 26 [false] [] [] 0 [3, 4] (z2.1, z2.2) hC trivial ⟨h26, trivial⟩ (by kernel_rfl) (by kernel_rfl) (hb2 _ (sI h).symm)
    ·have h := hnext2 _ hs2
     refine WI_stop (bs := []) mixed lv106 1 [] [] [.flat 0] 0 [0] [(4, .d (DS q78 [])), (6, .d (.os 0))] [.sl 78 3 (z2.2.map q78)] hC trivial trivial (by kernel_rfl) ?_
     obtain ⟨y38, h39, h⟩ := bindE h
     replace h := sI h
     subst h
     exact WI_ret (bs := []) mixed lv106 22 [] [.call 189 [.d (.os 0), .d (.fn (.func 190) [] [])] [.sl 78 3 (z2.2.map q78)] (.d (.os 1)) [.non, .sl 78 3 (y38.map q78)] [0]] [] [.tmp 4] 0 [1] rfl hC ⟨⟨e189s1, (k189s1 z2.2 _ h39)⟩, trivial⟩ trivial (by kernel_rfl)
theorem e106 : Enters Tryz.prog 106 := Go.SL.enters_of Tryz.func106 (by kernel_rfl) (by kernel_rfl)
def lv143 : List Nat := [0, 1, 2, 3, 4, 6, 7, 8, 9, 13, 18, 29]
theorem k143 (x0 : api_Board) (x1 : api_Power) (x2 : Int) (r : api_Power × Int) (h : F143 x0 x1 x2 = some r) : CallOk Tryz.prog 143 [.agg (d29 x0), .agg (d35 x1), .d (I x2)] [] (.tup [.agg [.os 0, .os 1, .os 2, .os 3], .d (I r.2)]) (p4 r.1 []) := by
 unfold F143 at h
 refine callOk_of 49 Tryz.func143 rfl rfl rfl fun C hC => ?_
 obtain ⟨y1, h2, h⟩ := bindE h
 refine WI_stop (bs := []) mixed lv143 29 [] [.call 65 [.agg (d29 x0), .agg (d35 x1)] [] (.d (I y1)) [] []] [.ownb 2 0 4 1, .ownb 2 1 59 4, .ownb 2 2 3 1, .ownb 2 3 119 2] 0 n7_ [(2, .d (I x2)), (3, .d (.o 0 0)), (4, .d (.o 1 0)), (6, .d (.o 2 0)), (7, .d (I 0)), (8, .d (I y1)), (13, .d (Bo (y1 != 0)))] (.box 29 (d29 x0) :: .box 35 (d35 x1) :: .box 35 [.os 3, .os 4, .os 5, .os 6] :: e4 []) hC ⟨⟨e65, (k65 x0 x1 _ h2)⟩, trivial⟩ trivial (by kernel_rfl) ?_
 rcases boolC ((y1 != 0)) with h3 | h3
 ·replace h := condT h3 h
  replace h := sI h
  subst h
  exact WI_ret (bs := [((y1 != 0), true)]) mixed lv143 24 [true] [] [.ownb 2 0 4 1, .ownb 2 1 59 4, .ownb 2 2 3 1, .ownb 2 3 119 2] [.cell 6 35, .tmp 7] 0 [7, 8, 9, 10] rfl hC trivial ⟨h3, trivial⟩ (by kernel_rfl)
 ·replace h := condF h3 h
  rcases boolC ((c143_0 x0 x2)) with h4 | h4
  ·replace h := condT h4 h
   replace h := sI h
   subst h
   exact WI_ret (bs := [((y1 != 0), false), ((c143_0 x0 x2), true)]) mixed lv143 27 [false, true] [.when [(decide (x2 < 0), false)] (.len ((x0.Breakers.map q66).length : Int) (x0.Breakers.length : Int))] [.ownb 2 0 4 1, .ownb 2 1 59 4, .ownb 2 2 3 1, .ownb 2 3 119 2] [.cell 6 35, .tmp 7] 0 [7, 8, 9, 10] rfl hC ⟨fun hg => len_map _ _, trivial⟩ ⟨h3, h4, trivial⟩ (by kernel_rfl)
  ·replace h := condF h4 h
   obtain ⟨y5, h6, h⟩ := bindE h
   obtain ⟨y7, h8, h⟩ := bindE h
   refine WI_stop (bs := [((y1 != 0), false), ((c143_0 x0 x2), false)]) mixed lv143 27 [false, false] [.when [(decide (x2 < 0), false)] (.len ((x0.Breakers.map q66).length : Int) (x0.Breakers.length : Int)), .row (x1.Closed.map pB) x2 (pB y5), .when [(!y5, false)] (.call 134 [.agg (d35 x1), .d (I 2), .d (I x2)] [] (.d (Bo y7)) [] [])] [] 0 [1, 2, 3, 4, 5, 6] [(2, .d (I x2)), (4, .d (.o 0 0)), (6, .d (.o 1 0)), (7, .d (I 0)), (29, .d (Bo ((!y5) || y7)))] (.box 35 (d35 x1) :: .box 35 [.os 2, .os 3, .os 4, .os 5] :: e4 []) hC ⟨fun hg => len_map _ _, row_get h6, fun hg => ⟨e134, (k134 x1 2 x2 _ (guardO_get h8 hg))⟩, trivial⟩ ⟨h3, h4, trivial⟩ (by kernel_rfl) ?_
   rcases boolC (((!y5) || y7)) with h9 | h9
   ·replace h := condT h9 h
    replace h := sI h
    subst h
    exact WI_ret (bs := [(((!y5) || y7), true)]) mixed lv143 24 [true] [] [.ownb 1 0 4 1, .ownb 1 1 59 4, .ownb 1 2 3 1, .ownb 1 3 119 2] [.cell 6 35, .tmp 7] 0 [6, 7, 8, 9] rfl hC trivial ⟨h9, trivial⟩ (by kernel_rfl)
   ·replace h := condF h9 h
    obtain ⟨y10, h11, h⟩ := bindE h
    obtain ⟨y12, h13, h⟩ := bindE h
    obtain ⟨y14, h15, h⟩ := bindE h
    replace h := sI h
    subst h
    exact WI_ret (bs := [(((!y5) || y7), false)]) mixed lv143 30 [false] [.call 70 [.agg (d35 x1)] [] (.agg [.os 0, .os 1, .os 2, .os 3]) (p4 y10 []) [], .row (y10.Closed.map pB) x2 (pB y12), .upd (y10.Closed.map pB) (Int.toNat x2) (pB y12) (pB false) (y14.map pB)] [] [.cell 6 35, .tmp 7] 0 [6, 7, 8, 9] rfl hC ⟨⟨e70, (k70 x1 _ h11)⟩, row_get h13, upd_get h13 h15, trivial⟩ ⟨h9, trivial⟩ (by kernel_rfl)
theorem e143 : Enters Tryz.prog 143 := Go.SL.enters_of Tryz.func143 (by kernel_rfl) (by kernel_rfl)
def lv215 : List Nat := [0, 1, 2, 3, 4, 6, 7, 11]
theorem k215 (x0 : api_Board) (x1 : api_Power) (x2 : Int) (r : Int × Bool) (h : F215 x0 x1 x2 = some r) : CallOk Tryz.prog 215 [.agg (d29 x0), .agg (d35 x1), .d (I x2)] [] (.tup [.d (I r.1), .d (Bo r.2)]) [] := by
 unfold F215 at h
 refine callOk_of 18 Tryz.func215 rfl rfl rfl fun C hC => ?_
 obtain ⟨y1, h2, h⟩ := bindE h
 refine WI_stop (bs := []) mixed lv215 26 [] [.call 65 [.agg (d29 x0), .agg (d35 x1)] [] (.d (I y1)) [] []] [] 0 [0, 1] [(2, .d (I x2)), (3, .d (.o 0 0)), (4, .d (.o 1 0)), (6, .d (I 0)), (7, .d (Bo false)), (11, .d (Bo (y1 != 0)))] [.box 29 (d29 x0), .box 35 (d35 x1)] hC ⟨⟨e65, (k65 x0 x1 _ h2)⟩, trivial⟩ trivial (by kernel_rfl) ?_
 rcases boolC ((y1 != 0)) with h3 | h3
 ·replace h := condT h3 h
  replace h := sI h
  subst h
  exact WI_ret (bs := [((y1 != 0), true)]) mixed lv215 24 [true] [] [] [.tmp 6, .tmp 7] 0 [] rfl hC trivial ⟨h3, trivial⟩ (by kernel_rfl)
 ·replace h := condF h3 h
  obtain ⟨y4, h5, h⟩ := bindE h
  replace h := sI h
  subst h
  exact WI_ret (bs := [((y1 != 0), false)]) mixed lv215 25 [false] [.call 187 [.agg (d29 x0), .agg (d35 x1), .d (I x2)] [] (.tup [.d (I y4.1), .d (Bo y4.2)]) [] []] [] [.tmp 6, .tmp 7] 0 [] rfl hC ⟨⟨e187, (k187 x0 x1 x2 _ h5)⟩, trivial⟩ ⟨h3, trivial⟩ (by kernel_rfl)
theorem e215 : Enters Tryz.prog 215 := Go.SL.enters_of Tryz.func215 (by kernel_rfl) (by kernel_rfl)
def lv217 : List Nat := [0, 1, 2, 3, 4, 5, 6, 7, 8, 9, 14, 20, 21, 22, 23, 29]
def st217_0 (x1 : api_Power) (n0 : Nat) (z0 : (List api_Running)) : St := [(4, .d (.o 0 0)), (5, .d (I 0)), (7, .d (.o 9 0)), (20, .d (DS q59 x1.Sources)), (21, .d (I (x1.Sources.length : Int))), (22, .d (I (cnt 0 n0)))]
def R217_0 (y4 : api_Power) (n0 : Nat) (z0 : (List api_Running)) : List Res := (.box 35 [.os 1, .os 2, .os 3, .os 4] :: e4 [.sl 4 1 (y4.Closed.map pB), .sl 59 4 (z0.map q59), .sl 3 1 (y4.Limits.map pI), .sl 119 2 (y4.Broken.map q119), .box 35 [.os 5, .os 6, .os 7, .os 8]])
def sa217_0  (z0 : (List api_Running)) : St := [(4, .d (.o 0 0)), (5, .d (I 0)), (7, .d (.o 9 0))]
def Ra217_0 (y4 : api_Power) (z0 : (List api_Running)) : List Res := (.box 35 [.os 1, .os 2, .os 3, .os 4] :: e4 [.sl 4 1 (y4.Closed.map pB), .sl 59 4 (z0.map q59), .sl 3 1 (y4.Limits.map pI), .sl 119 2 (y4.Broken.map q119), .box 35 [.os 5, .os 6, .os 7, .os 8]])
theorem k217 (x0 : api_Board) (x1 : api_Power) (r : api_Power × Int) (h : F217 x0 x1 = some r) : CallOk Tryz.prog 217 [.agg (d29 x0), .agg (d35 x1)] [] (.tup [.agg [.os 0, .os 1, .os 2, .os 3], .d (I r.2)]) (p4 r.1 []) := by
 unfold F217 at h
 refine callOk_of 45 Tryz.func217 rfl rfl rfl fun C hC => ?_
 obtain ⟨y1, h2, h⟩ := bindE h
 refine WI_stop (bs := []) mixed lv217 28 [] [.call 65 [.agg (d29 x0), .agg (d35 x1)] [] (.d (I y1)) [] []] [.ownb 2 0 4 1, .ownb 2 1 59 4, .ownb 2 2 3 1, .ownb 2 3 119 2] 0 [1, 2, 3, 4, 5, 6] [(3, .d (.o 0 0)), (4, .d (.o 1 0)), (5, .d (I 0)), (6, .d (I y1)), (14, .d (Bo (y1 != 0)))] (.box 35 (d35 x1) :: .box 35 [.os 2, .os 3, .os 4, .os 5] :: e4 []) hC ⟨⟨e65, (k65 x0 x1 _ h2)⟩, trivial⟩ trivial (by kernel_rfl) ?_
 rcases boolC ((y1 != 0)) with h3 | h3
 ·replace h := condT h3 h
  replace h := sI h
  subst h
  exact WI_ret (bs := [((y1 != 0), true)]) mixed lv217 24 [true] [] [.ownb 1 0 4 1, .ownb 1 1 59 4, .ownb 1 2 3 1, .ownb 1 3 119 2] [.cell 4 35, .tmp 5] 0 [6, 7, 8, 9] rfl hC trivial ⟨h3, trivial⟩ (by kernel_rfl)
 ·replace h := condF h3 h
  obtain ⟨y4, h5, h⟩ := bindE h
  refine WI_stop (bs := [((y1 != 0), false)]) mixed lv217 28 [false] [.call 70 [.agg (d35 x1)] [] (.agg [.os 0, .os 1, .os 2, .os 3]) (p4 y4 []) [], .len ((x1.Sources.map q59).length : Int) (x1.Sources.length : Int)] [] 0 [1, 2, 3, 4, 5, 6, 7, 8, 9, 10] (st217_0 x1 0 y4.Sources) (R217_0 y4 0 y4.Sources) hC ⟨⟨e70, (k70 x1 _ h5)⟩, len_map _ _, trivial⟩ ⟨h3, trivial⟩ (by kernel_rfl) ?_
  obtain ⟨w0, hm0, hret0, hnext0⟩ := andThen_inv h
  clear h
  refine WI_cut (by kernel_rfl) (fun s => w0 = .next s) (sa217_0) (Ra217_0 y4) ?_ fun z0 hs0 => ?_
  ·refine WI_blk (by kernel_rfl) ?_
   refine WI_len 20 rfl fun hl0 => ?_
   refine WI_foldI (by kernel_rfl) F217_l0 (st217_0 x1) (R217_0 y4) w0 x1.Sources y4.Sources hm0 rfl rfl (fun z0 hn0 => ?_) fun n0 a0 z0 w0b hi0 hx0 h hb0 hr0 => ?_
   ·clear hm0
    exact WI_end (bs := [(decide ((cnt 0 x1.Sources.length) < (x1.Sources.length : Int)), false)]) (φ := fun s' => w0 = .next s') (st' := (sa217_0)) (R' := (Ra217_0 y4)) mixed lv217 26 [false] [] [] 0 n10_ z0 hC trivial ⟨(cnt_end hl0), trivial⟩ (by kernel_rfl) (by kernel_rfl) hn0
   ·unfold F217_l0 at h
    rcases boolC ((a0.State == 2)) with h6 | h6
    ·replace h := condT h6 h
     obtain ⟨y7, h8, h⟩ := bindE h
     obtain ⟨y9, h10, h⟩ := bindE h
     exact WI_end (bs := [(decide ((cnt 0 n0) < (x1.Sources.length : Int)), true), ((a0.State == 2), true)]) (φ := fun s' => w0b = .next s') (st' := (st217_0 x1 (n0 + 1))) (R' := (R217_0 y4 (n0 + 1))) mixed lv217 36 [true, true] [.row (x1.Sources.map q59) (cnt 0 n0) (q59 a0), .call 252 [.d (I (w64 (a0.Phase + (w64 (36 * (w64 (a0.Frequency - 5000)))))))] [] (.d (I (F252 (w64 (a0.Phase + (w64 (36 * (w64 (a0.Frequency - 5000))))))))) [] [], .row (z0.map q59) (cnt 0 n0) (q59 y7), .upd (z0.map q59) (Int.toNat (cnt 0 n0)) (q59 y7) (q59 (⟨y7.State, y7.Since, y7.Frequency, F252 (w64 (a0.Phase + (w64 (36 * (w64 (a0.Frequency - 5000))))))⟩ : api_Running)) (y9.map q59)] [] 0 n10_ y9 hC ⟨(row_cnt hx0 hl0), ⟨e252, (k252 (w64 (a0.Phase + (w64 (36 * (w64 (a0.Frequency - 5000)))))) _ rfl)⟩, row_get h8, upd_get h8 h10, trivial⟩ ⟨(cnt_lt hi0 hl0), h6, trivial⟩ (by kernel_rfl) (by kernel_rfl) (sI h).symm
    ·replace h := condF h6 h
     exact WI_end (bs := [(decide ((cnt 0 n0) < (x1.Sources.length : Int)), true), ((a0.State == 2), false)]) (φ := fun s' => w0b = .next s') (st' := (st217_0 x1 (n0 + 1))) (R' := (R217_0 y4 (n0 + 1))) mixed lv217 36 [true, false] [.row (x1.Sources.map q59) (cnt 0 n0) (q59 a0)] [] 0 n10_ z0 hC ⟨(row_cnt hx0 hl0), trivial⟩ ⟨(cnt_lt hi0 hl0), h6, trivial⟩ (by kernel_rfl) (by kernel_rfl) (sI h).symm
  ·have h := hnext0 _ hs0
   replace h := sI h
   subst h
   exact WI_ret (bs := []) mixed lv217 23 [] [] [] [.cell 4 35, .tmp 5] 0 [5, 6, 7, 8] rfl hC trivial trivial (by kernel_rfl)
theorem e217 : Enters Tryz.prog 217 := Go.SL.enters_of Tryz.func217 (by kernel_rfl) (by kernel_rfl)
def lv167 : List Nat := [0, 1, 2, 3, 4, 7, 10, 11, 12]
def st167_0 (x0 : api_Board) (z0 : Int × (List Int)) : St := [(1, .d (.o 0 0)), (2, .d (DS pI [])), (3, .d (.os 1)), (10, .d (I (x0.Consumers.length : Int))), (11, .d (I z0.1))]
def R167_0 (x0 : api_Board) (z0 : Int × (List Int)) : List Res := [.box 29 (d29 x0), .sl 3 1 (z0.2.map pI)]
def sa167_0  (z0 : Int × (List Int)) : St := [(1, .d (.o 0 0)), (2, .d (DS pI [])), (3, .d (.os 1))]
def Ra167_0 (x0 : api_Board) (z0 : Int × (List Int)) : List Res := [.box 29 (d29 x0), .sl 3 1 (z0.2.map pI)]
theorem k167 (x0 : api_Board) (r : (List Int)) (h : F167 x0 = some r) : CallOk Tryz.prog 167 [.agg (d29 x0)] [] (.d (.os 0)) [.sl 3 1 (r.map pI)] := by
 unfold F167 at h
 refine callOk_of 23 Tryz.func167 rfl rfl rfl fun C hC => ?_
 obtain ⟨y1, h2, h⟩ := bindE h
 rcases boolC ((y1 != 0)) with h3 | h3
 ·replace h := condT h3 h
  replace h := sI h
  subst h
  exact WI_ret (bs := [((y1 != 0), true)]) mixed lv167 29 [true] [.call 92 [.agg (d29 x0)] [] (.d (I y1)) [] []] [.own 2 3 1] [.tmp 2] 0 [1] rfl hC ⟨⟨e92, (k92 x0 _ h2)⟩, trivial⟩ ⟨h3, trivial⟩ (by kernel_rfl)
 ·replace h := condF h3 h
  refine WI_stop (bs := [((y1 != 0), false)]) mixed lv167 33 [false] [.call 92 [.agg (d29 x0)] [] (.d (I y1)) [] [], .len ((x0.Consumers.map q108).length : Int) (x0.Consumers.length : Int)] [.own 3 3 1] 0 [0, 1] (st167_0 x0 (0, ([] : List Int))) (R167_0 x0 (0, ([] : List Int))) hC ⟨⟨e92, (k92 x0 _ h2)⟩, len_map _ _, trivial⟩ ⟨h3, trivial⟩ (by kernel_rfl) ?_
  obtain ⟨w0, hm0, hret0, hnext0⟩ := andThen_inv h
  clear h
  refine WI_cut (by kernel_rfl) (fun s => w0 = .next s) (sa167_0) (Ra167_0 x0) ?_ fun z0 hs0 => ?_
  ·refine WI_blk (by kernel_rfl) ?_
   refine WI_while (by kernel_rfl) (F167_l0 x0) (st167_0 x0) (R167_0 x0) w0 1152921504606846976 (0, ([] : List Int)) hm0 rfl rfl fun z0 w0b h hb0 hr0 => ?_
   unfold F167_l0 at h
   rcases boolC ((c167_1 x0 z0)) with h4 | h4
   ·replace h := condT h4 h
    obtain ⟨y5, h6, h⟩ := bindE h
    exact WI_end (bs := [((c167_1 x0 z0), true)]) (φ := fun s' => w0b = .next s') (st' := (st167_0 x0)) (R' := (R167_0 x0)) mixed lv167 33 [true] [.app (z0.2.map pI) ([z0.1].map pI) 1 (((z0.2.map pI).length + ([z0.1].map pI).length) * (8 + 1)) (y5.map pI)] [] 0 [0, 2] (w64 (z0.1 + 1), y5) hC ⟨app_get pI 1 (fun _ => rfl) h6, trivial⟩ ⟨h4, trivial⟩ (by kernel_rfl) (by kernel_rfl) (sI h).symm
   ·replace h := condF h4 h
    exact WI_end (bs := [((c167_1 x0 z0), false)]) (φ := fun s' => w0 = .next s') (st' := (sa167_0)) (R' := (Ra167_0 x0)) mixed lv167 26 [false] [] [] 0 [0, 1] (z0.1, z0.2) hC trivial ⟨h4, trivial⟩ (by kernel_rfl) (by kernel_rfl) (hb0 _ (sI h).symm)
  ·have h := hnext0 _ hs0
   obtain ⟨y7, h8, h⟩ := bindE h
   replace h := sI h
   subst h
   exact WI_ret (bs := []) mixed lv167 25 [] [.call 230 [.d (.os 0), .d (.fn (.func 231) [] [.o 1 0])] [.sl 3 1 (z0.2.map pI), .box 29 (d29 x0)] (.tup []) [.sl 3 1 (y7.1.map pI), .box 29 (d29 y7.2)] [1, 0]] [] [.tmp 2] 0 [1] rfl hC ⟨⟨e230s1, (k230s1 z0.2 x0 _ h8)⟩, trivial⟩ trivial (by kernel_rfl)
theorem e167 : Enters Tryz.prog 167 := Go.SL.enters_of Tryz.func167 (by kernel_rfl) (by kernel_rfl)
def lv106s0 : List Nat := [0, 1, 2, 3, 4, 5, 6, 7, 8, 9, 10, 11, 12, 13, 14, 18, 25, 26, 27, 28, 47, 48, 49, 58, 80, 81, 82, 91]
def st106s0_0 (y4 : (List Int)) (n0 : Nat) (z0 : (List api_Island)) : St := [(2, .d (.o 4 0)), (3, .d (.o 5 0)), (4, .d (DS q78 [])), (5, .d (.os 6)), (6, .d (.os 7)), (25, .d (.os 6)), (26, .d (I (y4.length : Int))), (27, .d (I (cnt 0 n0)))]
def R106s0_0 (x0 : api_Board) (x1 : api_Power) (y4 : (List Int)) (n0 : Nat) (z0 : (List api_Island)) : List Res := (p4 x1 [.box 29 (d29 x0), .box 35 [.os 0, .os 1, .os 2, .os 3], .sl 3 1 (y4.map pI), .dsl 78 3 8, .gh 3 [(3, 1), (3, 1), (3, 1)] (z0.map q78) none])
def sa106s0_0  (z0 : (List api_Island)) : St := [(2, .d (.o 4 0)), (3, .d (.o 5 0)), (4, .d (DS q78 [])), (5, .d (.os 6)), (6, .d (.os 7))]
def Ra106s0_0 (x0 : api_Board) (x1 : api_Power) (y4 : (List Int)) (z0 : (List api_Island)) : List Res := (p4 x1 [.box 29 (d29 x0), .box 35 [.os 0, .os 1, .os 2, .os 3], .sl 3 1 (y4.map pI), .dsl 78 3 8, .gh 3 [(3, 1), (3, 1), (3, 1)] (z0.map q78) none])
def st106s0_1 (x0 : api_Board) (z1 : Int × (List api_Island)) : St := [(2, .d (.o 4 0)), (3, .d (.o 5 0)), (4, .d (DS q78 [])), (5, .d (.os 6)), (6, .d (.os 7)), (47, .d (I (x0.Sources.length : Int))), (48, .d (I z1.1))]
def R106s0_1 (x0 : api_Board) (x1 : api_Power) (y4 : (List Int)) (z1 : Int × (List api_Island)) : List Res := (p4 x1 [.box 29 (d29 x0), .box 35 [.os 0, .os 1, .os 2, .os 3], .sl 3 1 (y4.map pI), .dsl 78 3 8, .gh 3 [(3, 1), (3, 1), (3, 1)] (z1.2.map q78) none])
def sa106s0_1  (z1 : Int × (List api_Island)) : St := [(2, .d (.o 4 0)), (3, .d (.o 5 0)), (4, .d (DS q78 [])), (5, .d (.os 6)), (6, .d (.os 7))]
def Ra106s0_1 (x0 : api_Board) (x1 : api_Power) (y4 : (List Int)) (z1 : Int × (List api_Island)) : List Res := (p4 x1 [.box 29 (d29 x0), .box 35 [.os 0, .os 1, .os 2, .os 3], .sl 3 1 (y4.map pI), .dsl 78 3 8, .gh 3 [(3, 1), (3, 1), (3, 1)] (z1.2.map q78) none])
def st106s0_2 (x0 : api_Board) (z2 : Int × (List api_Island)) : St := [(2, .d (.o 4 0)), (3, .d (.o 5 0)), (4, .d (DS q78 [])), (5, .d (.os 6)), (6, .d (.os 7)), (80, .d (I (x0.Consumers.length : Int))), (81, .d (I z2.1))]
def R106s0_2 (x0 : api_Board) (x1 : api_Power) (y4 : (List Int)) (z2 : Int × (List api_Island)) : List Res := (p4 x1 [.box 29 (d29 x0), .box 35 [.os 0, .os 1, .os 2, .os 3], .sl 3 1 (y4.map pI), .dsl 78 3 8, .gh 3 [(3, 1), (3, 1), (3, 1)] (z2.2.map q78) none])
def sa106s0_2  (z2 : Int × (List api_Island)) : St := [(4, .d (DS q78 [])), (6, .d (.os 4))]
def Ra106s0_2 (x1 : api_Power) (z2 : Int × (List api_Island)) : List Res := (p4 x1 [.dsl 78 3 5, .gh 3 [(3, 1), (3, 1), (3, 1)] (z2.2.map q78) none])
theorem k106s0 (x0 : api_Board) (x1 : api_Power) (r : (List api_Island)) (h : F106s0 x0 x1 = some r) : CallOk Tryz.prog 106 [.agg (d29 x0), .agg [.os 0, .os 1, .os 2, .os 3]] (p4 x1 []) (.d (.os 4)) (p4 x1 [.sl 78 3 (r.map q78)]) := by
 unfold F106s0 at h
 refine callOk_of 113 Tryz.func106 rfl rfl rfl fun C hC => ?_
 obtain ⟨y1, h2, h⟩ := bindE h
 refine WI_stop (bs := []) mixed lv106s0 26 [] [.callB 65 [.agg (d29 x0), .agg (d35 x1)] (.d (I y1)) [[]] 0 []] [] 4 n6_ [(2, .d (.o 4 0)), (3, .d (.o 5 0)), (4, .d (DS q78 [])), (18, .d (Bo (y1 != 0)))] (p4 x1 [.box 29 (d29 x0), .box 35 [.os 0, .os 1, .os 2, .os 3]]) hC ⟨lend0_get ⟨e65, (k65 x0 x1 _ h2)⟩, trivial⟩ trivial (by kernel_rfl) ?_
 rcases boolC ((y1 != 0)) with h3 | h3
 ·replace h := condT h3 h
  replace h := sI h
  subst h
  exact WI_ret (bs := [((y1 != 0), true)]) mixed lv106s0 24 [true] [] [.own 4 78 3] [.tmp 4] 4 [0, 1, 2, 3, 6] rfl hC trivial ⟨h3, trivial⟩ (by kernel_rfl)
 ·replace h := condF h3 h
  obtain ⟨y4, h5, h⟩ := bindE h
  obtain ⟨y6, h7, h⟩ := bindE h
  refine WI_stop (bs := [((y1 != 0), false)]) mixed lv106s0 30 [false] [.call 186 [.agg (d29 x0), .agg [.os 0, .os 1, .os 2, .os 3]] (p4 x1 []) (.d (.os 4)) (p4 x1 [.sl 3 1 (y4.map pI)]) n4_, .roomZ (x0.Buses * (72 + 1)) (List.replicate (Int.toNat x0.Buses) (q78 (⟨([] : List Int), ([] : List Int), ([] : List Int)⟩ : api_Island))) (y6.map q78), .len ((y4.map pI).length : Int) (y4.length : Int)] [.deep 7 [(3, 1), (3, 1), (3, 1)]] 4 n9_ (st106s0_0 y4 0 y6) (R106s0_0 x0 x1 y4 0 y6) hC ⟨⟨e186, ((k186 x0 x1 _ h5).lend (by kernel_rfl) (by kernel_rfl) (by kernel_rfl) ⟨flat_sl (fun _ => rfl), trivial⟩ (by kernel_rfl) (by kernel_rfl))⟩, makez_get h7, len_map _ _, trivial⟩ ⟨h3, trivial⟩ (by kernel_rfl) ?_
  obtain ⟨w0, hm0, hret0, hnext0⟩ := andThen_inv h
  clear h
  refine WI_cut (by kernel_rfl) (fun s => w0 = .next s) (sa106s0_0) (Ra106s0_0 x0 x1 y4) ?_ fun z0 hs0 => ?_
  ·refine WI_blk (by kernel_rfl) ?_
   refine WI_lenO 25 6 rfl rfl fun hl0 => ?_
   refine WI_foldI (by kernel_rfl) F106s0_l0 (st106s0_0 y4) (R106s0_0 x0 x1 y4) w0 y4 y6 hm0 rfl rfl (fun z0 hn0 => ?_) fun n0 a0 z0 w0b hi0 hx0 h hb0 hr0 => ?_
   ·clear hm0
    exact WI_end (bs := [(decide ((cnt 0 y4.length) < (y4.length : Int)), false)]) (φ := fun s' => w0 = .next s') (st' := (sa106s0_0)) (R' := (Ra106s0_0 x0 x1 y4)) mixed lv106s0 26 [false] [] [] 4 n9_ z0 hC trivial ⟨(cnt_end hl0), trivial⟩ (by kernel_rfl) (by kernel_rfl) hn0
   ·unfold F106s0_l0 at h
    obtain ⟨y8, h9, h⟩ := bindE h
    obtain ⟨y10, h11, h⟩ := bindE h
    obtain ⟨y12, h13, h⟩ := bindE h
    exact WI_end (bs := [(decide ((cnt 0 n0) < (y4.length : Int)), true)]) (φ := fun s' => w0b = .next s') (st' := (st106s0_0 y4 (n0 + 1))) (R' := (R106s0_0 x0 x1 y4 (n0 + 1))) mixed lv106s0 33 [true] [.row (y4.map pI) (cnt 0 n0) (pI a0), .row (y4.map pI) (((Int.toNat (cnt 0 n0)) : Nat) : Int) (pI a0), .row (z0.map q78) a0 (q78 y8), .row (z0.map q78) (((Int.toNat a0) : Nat) : Int) (q78 y8), .appD (z0.map q78) (Int.toNat a0) (q78 y8) 0 (y8.Buses.map pI) ([cnt 0 n0].map pI) 1 (((y8.Buses.map pI).length + ([cnt 0 n0].map pI).length) * (8 + 1)) (y10.map pI), .row (z0.map q78) a0 (q78 y8), .updD (z0.map q78) (Int.toNat a0) (Int.toNat a0) (q78 y8) (q78 (⟨y10, y8.Sources, y8.Consumers⟩ : api_Island)) (y12.map q78)] [] 4 [0, 1, 2, 3, 4, 5, 6, 7, 12] y12 hC ⟨row_get (get_cnt hx0 hl0), row_getN (get_cnt hx0 hl0), row_get h9, row_getN h9, appD_get 1 (fun _ => rfl) h9 rfl h11, row_get h9, updD_get h9 h13, trivial⟩ ⟨(cnt_lt hi0 hl0), trivial⟩ (by kernel_rfl) (by kernel_rfl) (sI h).symm
  ·have h := hnext0 _ hs0
   refine WI_stop (bs := []) mixed lv106s0 24 [] [.len ((x0.Sources.map q57).length : Int) (x0.Sources.length : Int)] [] 4 n9_ (st106s0_1 x0 (0, z0)) (R106s0_1 x0 x1 y4 (0, z0)) hC ⟨len_map _ _, trivial⟩ trivial (by kernel_rfl) ?_
   obtain ⟨w1, hm1, hret1, hnext1⟩ := andThen_inv h
   clear h
   refine WI_cut (by kernel_rfl) (fun s => w1 = .next s) (sa106s0_1) (Ra106s0_1 x0 x1 y4) ?_ fun z1 hs1 => ?_
   ·refine WI_blk (by kernel_rfl) ?_
    refine WI_while (by kernel_rfl) (F106s0_l1 x0 x1 y4) (st106s0_1 x0) (R106s0_1 x0 x1 y4) w1 1152921504606846976 (0, z0) hm1 rfl rfl fun z1 w1b h hb1 hr1 => ?_
    unfold F106s0_l1 at h
    rcases boolC ((c106s0_1 x0 z1)) with h14 | h14
    ·replace h := condT h14 h
     obtain ⟨y15, h16, h⟩ := bindE h
     refine WI_stop (bs := [((c106s0_1 x0 z1), true)]) mixed lv106s0 34 [true] [.callB 187 [.agg (d29 x0), .agg (d35 x1), .d (I z1.1)] (.tup [.d (I y15.1), .d (Bo y15.2)]) [[]] 0 []] [] 4 n9_ [(2, .d (.o 4 0)), (3, .d (.o 5 0)), (4, .d (DS q78 [])), (5, .d (.os 6)), (6, .d (.os 7)), (9, .d (I z1.1)), (10, .d (I y15.1)), (47, .d (I (x0.Sources.length : Int))), (48, .d (I z1.1)), (58, .d (Bo y15.2))] (p4 x1 [.box 29 (d29 x0), .box 35 [.os 0, .os 1, .os 2, .os 3], .sl 3 1 (y4.map pI), .dsl 78 3 8, .gh 3 [(3, 1), (3, 1), (3, 1)] (z1.2.map q78) none]) hC ⟨lend0_get ⟨e187, (k187 x0 x1 z1.1 _ h16)⟩, trivial⟩ ⟨h14, trivial⟩ (by kernel_rfl) ?_
     rcases boolC (y15.2) with h17 | h17
     ·replace h := condT h17 h
      obtain ⟨y18, h19, h⟩ := bindE h
      obtain ⟨y20, h21, h⟩ := bindE h
      obtain ⟨y22, h23, h⟩ := bindE h
      obtain ⟨y24, h25, h⟩ := bindE h
      exact WI_end (bs := [(y15.2, true)]) (φ := fun s' => w1b = .next s') (st' := (st106s0_1 x0)) (R' := (R106s0_1 x0 x1 y4)) mixed lv106s0 25 [true] [.row (y4.map pI) y15.1 (pI y18), .row (y4.map pI) (((Int.toNat y15.1) : Nat) : Int) (pI y18), .row (y4.map pI) y15.1 (pI y18), .row (y4.map pI) (((Int.toNat y15.1) : Nat) : Int) (pI y18), .row (z1.2.map q78) y18 (q78 y20), .row (z1.2.map q78) (((Int.toNat y18) : Nat) : Int) (q78 y20), .appD (z1.2.map q78) (Int.toNat y18) (q78 y20) 1 (y20.Sources.map pI) ([z1.1].map pI) 1 (((y20.Sources.map pI).length + ([z1.1].map pI).length) * (8 + 1)) (y22.map pI), .row (z1.2.map q78) y18 (q78 y20), .updD (z1.2.map q78) (Int.toNat y18) (Int.toNat y18) (q78 y20) (q78 (⟨y20.Buses, y22, y20.Consumers⟩ : api_Island)) (y24.map q78)] [] 4 [0, 1, 2, 3, 4, 5, 6, 7, 12] (w64 (z1.1 + 1), y24) hC ⟨row_get h19, row_getN h19, row_get h19, row_getN h19, row_get h21, row_getN h21, appD_get 1 (fun _ => rfl) h21 rfl h23, row_get h21, updD_get h21 h25, trivial⟩ ⟨h17, trivial⟩ (by kernel_rfl) (by kernel_rfl) (sI h).symm
     ·replace h := condF h17 h
      exact WI_end (bs := [(y15.2, false)]) (φ := fun s' => w1b = .next s') (st' := (st106s0_1 x0)) (R' := (R106s0_1 x0 x1 y4)) mixed lv106s0 25 [false] [] [] 4 n9_ (w64 (z1.1 + 1), z1.2) hC trivial ⟨h17, trivial⟩ (by kernel_rfl) (by kernel_rfl) (sI h).symm
    ·replace h := condF h14 h
     exact WI_end (bs := [((c106s0_1 x0 z1), false)]) (φ := fun s' => w1 = .next s') (st' := (sa106s0_1)) (R' := (Ra106s0_1 x0 x1 y4)) mixed lv106s0 26 [false] [] [] 4 n9_ (z1.1, z1.2) hC trivial ⟨h14, trivial⟩ (by kernel_rfl) (by kernel_rfl) (hb1 _ (sI h).symm)
   ·have h := hnext1 _ hs1
    refine WI_stop (bs := []) mixed lv106s0 24 [] [.len ((x0.Consumers.map q108).length : Int) (x0.Consumers.length : Int)] [] 4 n9_ (st106s0_2 x0 (0, z1.2)) (R106s0_2 x0 x1 y4 (0, z1.2)) hC ⟨len_map _ _, trivial⟩ trivial (by kernel_rfl) ?_
    obtain ⟨w2, hm2, hret2, hnext2⟩ := andThen_inv h
    clear h
    refine WI_cut (by kernel_rfl) (fun s => w2 = .next s) (sa106s0_2) (Ra106s0_2 x1) ?_ fun z2 hs2 => ?_
    ·refine WI_blk (by kernel_rfl) ?_
     refine WI_while (by kernel_rfl) (F106s0_l2 x0 x1 y4) (st106s0_2 x0) (R106s0_2 x0 x1 y4) w2 1152921504606846976 (0, z1.2) hm2 rfl rfl fun z2 w2b h hb2 hr2 => ?_
     unfold F106s0_l2 at h
     rcases boolC ((c106s0_3 x0 z2)) with h26 | h26
     ·replace h := condT h26 h
      obtain ⟨y27, h28, h⟩ := bindE h
      refine WI_stop (bs := [((c106s0_3 x0 z2), true)]) mixed lv106s0 34 [true] [.callB 188 [.agg (d29 x0), .agg (d35 x1), .d (I z2.1)] (.tup [.d (I y27.1), .d (Bo y27.2)]) [[]] 0 []] [] 4 n9_ [(2, .d (.o 4 0)), (3, .d (.o 5 0)), (4, .d (DS q78 [])), (5, .d (.os 6)), (6, .d (.os 7)), (12, .d (I z2.1)), (13, .d (I y27.1)), (80, .d (I (x0.Consumers.length : Int))), (81, .d (I z2.1)), (91, .d (Bo y27.2))] (p4 x1 [.box 29 (d29 x0), .box 35 [.os 0, .os 1, .os 2, .os 3], .sl 3 1 (y4.map pI), .dsl 78 3 8, .gh 3 [(3, 1), (3, 1), (3, 1)] (z2.2.map q78) none]) hC ⟨lend0_get ⟨e188, (k188 x0 x1 z2.1 _ h28)⟩, trivial⟩ ⟨h26, trivial⟩ (by kernel_rfl) ?_
      rcases boolC (y27.2) with h29 | h29
      ·replace h := condT h29 h
       obtain ⟨y30, h31, h⟩ := bindE h
       obtain ⟨y32, h33, h⟩ := bindE h
       obtain ⟨y34, h35, h⟩ := bindE h
       obtain ⟨y36, h37, h⟩ := bindE h
       exact WI_end (bs := [(y27.2, true)]) (φ := fun s' => w2b = .next s') (st' := (st106s0_2 x0)) (R' := (R106s0_2 x0 x1 y4)) mixed lv106s0 25 [true] [.row (y4.map pI) y27.1 (pI y30), .row (y4.map pI) (((Int.toNat y27.1) : Nat) : Int) (pI y30), .row (y4.map pI) y27.1 (pI y30), .row (y4.map pI) (((Int.toNat y27.1) : Nat) : Int) (pI y30), .row (z2.2.map q78) y30 (q78 y32), .row (z2.2.map q78) (((Int.toNat y30) : Nat) : Int) (q78 y32), .appD (z2.2.map q78) (Int.toNat y30) (q78 y32) 2 (y32.Consumers.map pI) ([z2.1].map pI) 1 (((y32.Consumers.map pI).length + ([z2.1].map pI).length) * (8 + 1)) (y34.map pI), .row (z2.2.map q78) y30 (q78 y32), .updD (z2.2.map q78) (Int.toNat y30) (Int.toNat y30) (q78 y32) (q78 (⟨y32.Buses, y32.Sources, y34⟩ : api_Island)) (y36.map q78)] [] 4 [0, 1, 2, 3, 4, 5, 6, 7, 12] (w64 (z2.1 + 1), y36) hC ⟨row_get h31, row_getN h31, row_get h31, row_getN h31, row_get h33, row_getN h33, appD_get 1 (fun _ => rfl) h33 rfl h35, row_get h33, updD_get h33 h37, trivial⟩ ⟨h29, trivial⟩ (by kernel_rfl) (by kernel_rfl) (sI h).symm
      ·replace h := condF h29 h
       exact WI_end (bs := [(y27.2, false)]) (φ := fun s' => w2b = .next s') (st' := (st106s0_2 x0)) (R' := (R106s0_2 x0 x1 y4)) mixed lv106s0 25 [false] [] [] 4 n9_ (w64 (z2.1 + 1), z2.2) hC trivial ⟨h29, trivial⟩ (by kernel_rfl) (by kernel_rfl) (sI h).symm
     ·replace h := condF h26 h
      exact WI_end (bs := [((c106s0_3 x0 z2), false)]) (φ := fun s' => w2 = .next s') (st' := (sa106s0_2)) (R' := (Ra106s0_2 x1)) mixed lv106s0 26 [false] [] [] 4 [0, 1, 2, 3, 7, 8] (z2.1, z2.2) hC trivial ⟨h26, trivial⟩ (by kernel_rfl) (by kernel_rfl) (hb2 _ (sI h).symm)
    ·have h := hnext2 _ hs2
     refine WI_stop (bs := []) mixed lv106s0 1 [] [] [.flat 4] 4 n5_ [(4, .d (DS q78 [])), (6, .d (.os 4))] (p4 x1 [.sl 78 3 (z2.2.map q78)]) hC trivial trivial (by kernel_rfl) ?_
     obtain ⟨y38, h39, h⟩ := bindE h
     replace h := sI h
     subst h
     exact WI_ret (bs := []) mixed lv106s0 22 [] [.call 189 [.d (.os 0), .d (.fn (.func 190) [] [])] [.sl 78 3 (z2.2.map q78)] (.d (.os 1)) [.non, .sl 78 3 (y38.map q78)] [4]] [] [.tmp 4] 4 [0, 1, 2, 3, 5] rfl hC ⟨⟨e189s1, (k189s1 z2.2 _ h39)⟩, trivial⟩ trivial (by kernel_rfl)
theorem e106s0 : Enters Tryz.prog 106 := Go.SL.enters_of Tryz.func106 (by kernel_rfl) (by kernel_rfl)
def lv250 : List Nat := [0, 1, 2, 3, 4, 6, 7, 9, 30, 32, 33, 40]
theorem k250 (x0 : api_Board) (x1 : api_Power) (x2 : Int) (r : Bool) (h : F250 x0 x1 x2 = some r) : CallOk Tryz.prog 250 [.agg (d29 x0), .agg (d35 x1), .d (I x2)] [] (.d (Bo r)) [] := by
 unfold F250 at h
 refine callOk_of 74 Tryz.func250 rfl rfl rfl fun C hC => ?_
 obtain ⟨y1, h2, h⟩ := bindE h
 obtain ⟨y3, h4, h⟩ := bindE h
 obtain ⟨y5, h6, h⟩ := bindE h
 obtain ⟨y7, h8, h⟩ := bindE h
 refine WI_stop (bs := []) mixed lv250 28 [] [.row (x0.Breakers.map q66) x2 (q66 y1), .row (x1.Closed.map pB) x2 (pB y3), .when [(y3, false)] (.call 134 [.agg (d35 x1), .d (I 2), .d (I x2)] [] (.d (Bo y5)) [] []), .when [((y3 || y5), false)] (.call 134 [.agg (d35 x1), .d (I 3), .d (I y1.A)] [] (.d (Bo y7)) [] [])] [] 0 n3_ [(3, .d (.o 0 0)), (4, .d (.o 1 0)), (6, .d (Bo false)), (7, .d (.o 2 0)), (30, .d (Bo ((y3 || y5) || y7)))] [.box 29 (d29 x0), .box 35 (d35 x1), .box 66 (d66 y1)] hC ⟨row_get h2, row_get h4, fun hg => ⟨e134, (k134 x1 2 x2 _ (guardO_get h6 hg))⟩, fun hg => ⟨e134, (k134 x1 3 y1.A _ (guardO_get h8 hg))⟩, trivial⟩ trivial (by kernel_rfl) ?_
 rcases boolC (((y3 || y5) || y7)) with h9 | h9
 ·replace h := condT h9 h
  replace h := sI h
  subst h
  exact WI_ret (bs := [(((y3 || y5) || y7), true)]) mixed lv250 24 [true] [] [] [.tmp 6] 0 [] rfl hC trivial ⟨h9, trivial⟩ (by kernel_rfl)
 ·replace h := condF h9 h
  rcases boolC ((y1.Kind == 1)) with h10 | h10
  ·replace h := condT h10 h
   obtain ⟨y11, h12, h⟩ := bindE h
   replace h := sI h
   subst h
   exact WI_ret (bs := [(((y3 || y5) || y7), false), ((y1.Kind == 1), true)]) mixed lv250 32 [false, true] [.call 134 [.agg (d35 x1), .d (I 3), .d (I y1.B)] [] (.d (Bo y11)) [] []] [] [.tmp 6] 0 [] rfl hC ⟨⟨e134, (k134 x1 3 y1.B _ h12)⟩, trivial⟩ ⟨h9, h10, trivial⟩ (by kernel_rfl)
  ·replace h := condF h10 h
   rcases boolC ((y1.Kind == 2)) with h13 | h13
   ·replace h := condT h13 h
    obtain ⟨y14, h15, h⟩ := bindE h
    obtain ⟨y16, h17, h⟩ := bindE h
    replace h := sI h
    subst h
    exact WI_ret (bs := [(((y3 || y5) || y7), false), ((y1.Kind == 1), false), ((y1.Kind == 2), true)]) mixed lv250 35 [false, false, true] [.call 134 [.agg (d35 x1), .d (I 1), .d (I y1.B)] [] (.d (Bo y14)) [] [], .when [(!y14, true)] (.row (x1.Sources.map q59) y1.B (q59 y16))] [] [.tmp 6] 0 [] rfl hC ⟨⟨e134, (k134 x1 1 y1.B _ h15)⟩, fun hg => row_get (guardO_get h17 hg), trivial⟩ ⟨h9, h10, h13, trivial⟩ (by kernel_rfl)
   ·replace h := condF h13 h
    obtain ⟨y18, h19, h⟩ := bindE h
    obtain ⟨y20, h21, h⟩ := bindE h
    replace h := sI h
    subst h
    exact WI_ret (bs := [(((y3 || y5) || y7), false), ((y1.Kind == 1), false), ((y1.Kind == 2), false)]) mixed lv250 39 [false, false, false] [.call 168 [.agg (d29 x0), .agg (d35 x1), .d (I y1.B)] [] (.tup [.d (I y18.1), .d (Bo y18.2)]) [] [], .call 134 [.agg (d35 x1), .d (I 4), .d (I y1.B)] [] (.d (Bo y20)) [] []] [] [.tmp 6] 0 [] rfl hC ⟨⟨e168, (k168 x0 x1 y1.B _ h19)⟩, ⟨e134, (k134 x1 4 y1.B _ h21)⟩, trivial⟩ ⟨h9, h10, h13, trivial⟩ (by kernel_rfl)
theorem e250 : Enters Tryz.prog 250 := Go.SL.enters_of Tryz.func250 (by kernel_rfl) (by kernel_rfl)
def lv176 : List Nat := [0, 1, 2, 3, 4, 6, 7, 9, 12, 13, 14, 15, 21]
def st176_0 (x2 : Int) (y1 : (List api_Island)) (n0 : Nat) (z0 : Unit) : St := [(2, .d (I x2)), (6, .d (.o 0 0)), (7, .d (Bo false)), (12, .d (.os 1)), (13, .d (I (y1.length : Int))), (14, .d (I (cnt 0 n0)))]
def R176_0 (y1 : (List api_Island)) (n0 : Nat) (z0 : Unit) : List Res := [.box 78 [.os 2, .os 3, .os 4], .sl 78 3 (y1.map q78), .sl 3 1 (([] : List Int).map pI), .sl 3 1 (([] : List Int).map pI), .sl 3 1 (([] : List Int).map pI)]
def sa176_0  (z0 : Unit) : St := [(6, .d (.o 0 0)), (7, .d (Bo false))]
def Ra176_0  (z0 : Unit) : List Res := [.box 78 [.os 1, .os 2, .os 3], .sl 3 1 (([] : List Int).map pI), .sl 3 1 (([] : List Int).map pI), .sl 3 1 (([] : List Int).map pI)]
theorem k176 (x0 : api_Board) (x1 : api_Power) (x2 : Int) (r : api_Island × Bool) (h : F176 x0 x1 x2 = some r) : CallOk Tryz.prog 176 [.agg (d29 x0), .agg (d35 x1), .d (I x2)] [] (.tup [.agg (d78 r.1), .d (Bo r.2)]) [] := by
 unfold F176 at h
 refine callOk_of 25 Tryz.func176 rfl rfl rfl fun C hC => ?_
 obtain ⟨y1, h2, h⟩ := bindE h
 refine WI_stop (bs := []) mixed lv176 26 [] [.call 106 [.agg (d29 x0), .agg (d35 x1)] [] (.d (.os 0)) [.sl 78 3 (y1.map q78)] [], .len ((y1.map q78).length : Int) (y1.length : Int)] [.ownb 2 0 3 1, .ownb 2 1 3 1, .ownb 2 2 3 1] 0 [2, 3, 4, 5, 6] (st176_0 x2 y1 0 ()) (R176_0 y1 0 ()) hC ⟨⟨e106, (k106 x0 x1 _ h2)⟩, len_map _ _, trivial⟩ trivial (by kernel_rfl) ?_
 obtain ⟨w0, hm0, hret0, hnext0⟩ := andThen_inv h
 clear h
 refine WI_cut (by kernel_rfl) (fun s => w0 = .next s) (sa176_0) (Ra176_0) ?_ fun z0 hs0 => ?_
 ·refine WI_blk (by kernel_rfl) ?_
  refine WI_lenO 12 1 rfl rfl fun hl0 => ?_
  refine WI_foldI (by kernel_rfl) (F176_l0 x2) (st176_0 x2 y1) (R176_0 y1) w0 y1 () hm0 rfl rfl (fun z0 hn0 => ?_) fun n0 a0 z0 w0b hi0 hx0 h hb0 hr0 => ?_
  ·clear hm0
   exact WI_end (bs := [(decide ((cnt 0 y1.length) < (y1.length : Int)), false)]) (φ := fun s' => w0 = .next s') (st' := (sa176_0)) (R' := (Ra176_0)) mixed lv176 26 [false] [] [] 0 [0, 2, 3, 4] () hC trivial ⟨(cnt_end hl0), trivial⟩ (by kernel_rfl) (by kernel_rfl) hn0
  ·unfold F176_l0 at h
   obtain ⟨y3, h4, h⟩ := bindE h
   refine WI_stop (bs := [(decide ((cnt 0 n0) < (y1.length : Int)), true)]) mixed lv176 32 [true] [.row (y1.map q78) (cnt 0 n0) (q78 a0), .row (y1.map q78) (((Int.toNat (cnt 0 n0)) : Nat) : Int) (q78 a0), .call 96 [.d (DS pI a0.Buses), .d (I x2)] [] (.d (Bo y3)) [] []] [] 0 n6_ [(2, .d (I x2)), (6, .d (.o 0 0)), (7, .d (Bo false)), (9, .d (.o 5 0)), (12, .d (.os 1)), (13, .d (I (y1.length : Int))), (14, .d (I (cnt 0 n0))), (21, .d (Bo y3))] [.box 78 [.os 2, .os 3, .os 4], .sl 78 3 (y1.map q78), .sl 3 1 (([] : List Int).map pI), .sl 3 1 (([] : List Int).map pI), .sl 3 1 (([] : List Int).map pI), .box 78 (d78 a0)] hC ⟨row_get (get_cnt hx0 hl0), row_getN (get_cnt hx0 hl0), ⟨e96, (k96 a0.Buses x2 _ h4)⟩, trivial⟩ ⟨(cnt_lt hi0 hl0), trivial⟩ (by kernel_rfl) ?_
   rcases boolC (y3) with h5 | h5
   ·replace h := condT h5 h
    have hq := hret0 _ (hr0 _ (sI h).symm)
    replace hq := sI hq
    subst hq
    exact WI_ret (bs := [(y3, true)]) mixed lv176 24 [true] [] [] [.cell 6 78, .tmp 7] 0 [] rfl hC trivial ⟨h5, trivial⟩ (by kernel_rfl)
   ·replace h := condF h5 h
    exact WI_end (bs := [(y3, false)]) (φ := fun s' => w0b = .next s') (st' := (st176_0 x2 y1 (n0 + 1))) (R' := (R176_0 y1 (n0 + 1))) mixed lv176 25 [false] [] [] 0 n5_ () hC trivial ⟨h5, trivial⟩ (by kernel_rfl) (by kernel_rfl) (sI h).symm
 ·have h := hnext0 _ hs0
  replace h := sI h
  subst h
  exact WI_ret (bs := []) mixed lv176 23 [] [] [.ownb 0 0 3 1, .frz 4, .ownb 0 1 3 1, .frz 5, .ownb 0 2 3 1, .frz 6] [.cell 6 78, .tmp 7] 0 [] rfl hC trivial trivial (by kernel_rfl)
theorem e176 : Enters Tryz.prog 176 := Go.SL.enters_of Tryz.func176 (by kernel_rfl) (by kernel_rfl)
def lv101 : List Nat := [0, 1, 2, 3, 4, 5, 6, 7, 9, 14, 21, 22, 23, 24, 30]
def st101_0 (y6 : (List api_Island)) (n0 : Nat) (z0 : (List api_Running)) : St := [(3, .d (.o 0 0)), (4, .d (.o 1 0)), (5, .d (I 0)), (7, .d (.o 10 0)), (21, .d (.os 11)), (22, .d (I (y6.length : Int))), (23, .d (I (cnt 0 n0)))]
def R101_0 (x1 : api_Power) (y4 : api_Power) (y6 : (List api_Island)) (n0 : Nat) (z0 : (List api_Running)) : List Res := (.box 35 (d35 x1) :: .box 35 [.os 2, .os 3, .os 4, .os 5] :: e4 [.sl 4 1 (y4.Closed.map pB), .sl 59 4 (z0.map q59), .sl 3 1 (y4.Limits.map pI), .sl 119 2 (y4.Broken.map q119), .box 35 [.os 6, .os 7, .os 8, .os 9], .sl 78 3 (y6.map q78)])
def sa101_0  (z0 : (List api_Running)) : St := [(4, .d (.o 0 0)), (5, .d (I 0)), (7, .d (.o 9 0))]
def Ra101_0 (y4 : api_Power) (z0 : (List api_Running)) : List Res := (.box 35 [.os 1, .os 2, .os 3, .os 4] :: e4 [.sl 4 1 (y4.Closed.map pB), .sl 59 4 (z0.map q59), .sl 3 1 (y4.Limits.map pI), .sl 119 2 (y4.Broken.map q119), .box 35 [.os 5, .os 6, .os 7, .os 8]])
theorem k101 (x0 : api_Board) (x1 : api_Power) (r : api_Power × Int) (h : F101 x0 x1 = some r) : CallOk Tryz.prog 101 [.agg (d29 x0), .agg (d35 x1)] [] (.tup [.agg [.os 0, .os 1, .os 2, .os 3], .d (I r.2)]) (p4 r.1 []) := by
 unfold F101 at h
 refine callOk_of 45 Tryz.func101 rfl rfl rfl fun C hC => ?_
 obtain ⟨y1, h2, h⟩ := bindE h
 refine WI_stop (bs := []) mixed lv101 28 [] [.call 65 [.agg (d29 x0), .agg (d35 x1)] [] (.d (I y1)) [] []] [.ownb 2 0 4 1, .ownb 2 1 59 4, .ownb 2 2 3 1, .ownb 2 3 119 2] 0 n7_ [(2, .d (.o 0 0)), (3, .d (.o 1 0)), (4, .d (.o 2 0)), (5, .d (I 0)), (6, .d (I y1)), (14, .d (Bo (y1 != 0)))] (.box 29 (d29 x0) :: .box 35 (d35 x1) :: .box 35 [.os 3, .os 4, .os 5, .os 6] :: e4 []) hC ⟨⟨e65, (k65 x0 x1 _ h2)⟩, trivial⟩ trivial (by kernel_rfl) ?_
 rcases boolC ((y1 != 0)) with h3 | h3
 ·replace h := condT h3 h
  replace h := sI h
  subst h
  exact WI_ret (bs := [((y1 != 0), true)]) mixed lv101 24 [true] [] [.ownb 2 0 4 1, .ownb 2 1 59 4, .ownb 2 2 3 1, .ownb 2 3 119 2] [.cell 4 35, .tmp 5] 0 [7, 8, 9, 10] rfl hC trivial ⟨h3, trivial⟩ (by kernel_rfl)
 ·replace h := condF h3 h
  obtain ⟨y4, h5, h⟩ := bindE h
  obtain ⟨y6, h7, h⟩ := bindE h
  refine WI_stop (bs := [((y1 != 0), false)]) mixed lv101 28 [false] [.call 70 [.agg (d35 x1)] [] (.agg [.os 0, .os 1, .os 2, .os 3]) (p4 y4 []) [], .call 106 [.agg (d29 x0), .agg (d35 x1)] [] (.d (.os 0)) [.sl 78 3 (y6.map q78)] [], .len ((y6.map q78).length : Int) (y6.length : Int)] [] 0 [1, 2, 3, 4, 5, 6, 7, 8, 9, 10, 11, 12] (st101_0 y6 0 y4.Sources) (R101_0 x1 y4 y6 0 y4.Sources) hC ⟨⟨e70, (k70 x1 _ h5)⟩, ⟨e106, (k106 x0 x1 _ h7)⟩, len_map _ _, trivial⟩ ⟨h3, trivial⟩ (by kernel_rfl) ?_
  obtain ⟨w0, hm0, hret0, hnext0⟩ := andThen_inv h
  clear h
  refine WI_cut (by kernel_rfl) (fun s => w0 = .next s) (sa101_0) (Ra101_0 y4) ?_ fun z0 hs0 => ?_
  ·refine WI_blk (by kernel_rfl) ?_
   refine WI_lenO 21 11 rfl rfl fun hl0 => ?_
   refine WI_foldI (by kernel_rfl) (F101_l0 x1 y4) (st101_0 y6) (R101_0 x1 y4 y6) w0 y6 y4.Sources hm0 rfl rfl (fun z0 hn0 => ?_) fun n0 a0 z0 w0b hi0 hx0 h hb0 hr0 => ?_
   ·clear hm0
    exact WI_end (bs := [(decide ((cnt 0 y6.length) < (y6.length : Int)), false)]) (φ := fun s' => w0 = .next s') (st' := (sa101_0)) (R' := (Ra101_0 y4)) mixed lv101 26 [false] [] [] 0 [1, 2, 3, 4, 5, 6, 7, 8, 9, 10] z0 hC trivial ⟨(cnt_end hl0), trivial⟩ (by kernel_rfl) (by kernel_rfl) hn0
   ·unfold F101_l0 at h
    refine WI_stop (bs := [(decide ((cnt 0 n0) < (y6.length : Int)), true)]) mixed lv101 32 [true] [.row (y6.map q78) (cnt 0 n0) (q78 a0), .row (y6.map q78) (((Int.toNat (cnt 0 n0)) : Nat) : Int) (q78 a0), .len ((a0.Sources.map pI).length : Int) (a0.Sources.length : Int)] [] 0 n13_ [(3, .d (.o 0 0)), (4, .d (.o 1 0)), (5, .d (I 0)), (7, .d (.o 10 0)), (9, .d (.o 12 0)), (21, .d (.os 11)), (22, .d (I (y6.length : Int))), (23, .d (I (cnt 0 n0))), (30, .d (Bo (c101_2 a0)))] (.box 35 (d35 x1) :: .box 35 [.os 2, .os 3, .os 4, .os 5] :: e4 [.sl 4 1 (y4.Closed.map pB), .sl 59 4 (z0.map q59), .sl 3 1 (y4.Limits.map pI), .sl 119 2 (y4.Broken.map q119), .box 35 [.os 6, .os 7, .os 8, .os 9], .sl 78 3 (y6.map q78), .box 78 (d78 a0)]) hC ⟨row_get (get_cnt hx0 hl0), row_getN (get_cnt hx0 hl0), len_map _ _, trivial⟩ ⟨(cnt_lt hi0 hl0), trivial⟩ (by kernel_rfl) ?_
    rcases boolC ((c101_2 a0)) with h8 | h8
    ·replace h := condT h8 h
     obtain ⟨y9, h10, h⟩ := bindE h
     obtain ⟨y11, h12, h⟩ := bindE h
     obtain ⟨y13, h14, h⟩ := bindE h
     exact WI_end (bs := [((c101_2 a0), true)]) (φ := fun s' => w0b = .next s') (st' := (st101_0 y6 (n0 + 1))) (R' := (R101_0 x1 y4 y6 (n0 + 1))) mixed lv101 25 [true] [.row (a0.Sources.map pI) 0 (pI y9), .row (x1.Sources.map q59) y9 (q59 y11), .call 183 [.agg [.os 0, .os 1, .os 2, .os 3], .d (DS pI a0.Sources), .agg (d59 y11)] [.sl 4 1 (y4.Closed.map pB), .sl 59 4 (z0.map q59), .sl 3 1 (y4.Limits.map pI), .sl 119 2 (y4.Broken.map q119)] (.tup []) [.sl 4 1 (y4.Closed.map pB), .sl 59 4 (y13.map q59), .sl 3 1 (y4.Limits.map pI), .sl 119 2 (y4.Broken.map q119)] [6, 7, 8, 9]] [] 0 n12_ y13 hC ⟨row_get h10, row_get h12, ⟨e183s0, (k183s0 (⟨y4.Closed, z0, y4.Limits, y4.Broken⟩ : api_Power) a0.Sources y11 _ h14)⟩, trivial⟩ ⟨h8, trivial⟩ (by kernel_rfl) (by kernel_rfl) (sI h).symm
    ·replace h := condF h8 h
     exact WI_end (bs := [((c101_2 a0), false)]) (φ := fun s' => w0b = .next s') (st' := (st101_0 y6 (n0 + 1))) (R' := (R101_0 x1 y4 y6 (n0 + 1))) mixed lv101 25 [false] [] [] 0 n12_ z0 hC trivial ⟨h8, trivial⟩ (by kernel_rfl) (by kernel_rfl) (sI h).symm
  ·have h := hnext0 _ hs0
   replace h := sI h
   subst h
   exact WI_ret (bs := []) mixed lv101 23 [] [] [] [.cell 4 35, .tmp 5] 0 [5, 6, 7, 8] rfl hC trivial trivial (by kernel_rfl)
theorem e101 : Enters Tryz.prog 101 := Go.SL.enters_of Tryz.func101 (by kernel_rfl) (by kernel_rfl)
def lv148s1 : List Nat := [0, 2, 3, 24, 25, 26, 66]
def st148s1_0 (y1 : api_Power × Int) (z0 : Int × (List api_Running)) : St := [(0, .d (.o 0 0)), (24, .d (I (y1.1.Sources.length : Int))), (25, .d (I z0.1))]
def R148s1_0 (x0 : restore_worker) (y1 : api_Power × Int) (z0 : Int × (List api_Running)) : List Res := (.box 130 (b6 x0.board [.os 5, .os 6, .os 7, .os 8, I x0.time]) :: p4 x0.power [.sl 4 1 (y1.1.Closed.map pB), .sl 59 4 (z0.2.map q59), .sl 3 1 (y1.1.Limits.map pI), .sl 119 2 (y1.1.Broken.map q119)])
def sa148s1_0  (z0 : Int × (List api_Running)) : St := []
def Ra148s1_0 (x0 : restore_worker) (y1 : api_Power × Int) (z0 : Int × (List api_Running)) : List Res := (.box 130 (b6 x0.board [.os 5, .os 6, .os 7, .os 8, I x0.time]) :: p4 x0.power [.sl 4 1 (y1.1.Closed.map pB), .sl 59 4 (z0.2.map q59), .sl 3 1 (y1.1.Limits.map pI), .sl 119 2 (y1.1.Broken.map q119)])
theorem k148s1 (x0 : restore_worker) (r : restore_worker) (h : F148s1 x0 = some r) : CallOk Tryz.prog 148 [.d (.o 0 0)] (.box 130 (b6 x0.board [.os 1, .os 2, .os 3, .os 4, I x0.time]) :: p4 x0.power []) (.tup []) (.box 130 (b6 r.board [.os 5, .os 6, .os 7, .os 8, I r.time]) :: .non :: .non :: .non :: .non :: p4 r.power []) := by
 unfold F148s1 at h
 refine callOk_of 71 Tryz.func148 rfl rfl rfl fun C hC => ?_
 obtain ⟨y1, h2, h⟩ := bindE h
 refine WI_stop (bs := []) mixed lv148s1 25 [] [.call 217 [.agg (d29 x0.board), .agg [.os 0, .os 1, .os 2, .os 3]] (p4 x0.power []) (.tup [.agg [.os 4, .os 5, .os 6, .os 7], .d (I y1.2)]) (p4 x0.power (p4 y1.1 [])) [1, 2, 3, 4], .len ((y1.1.Sources.map q59).length : Int) (y1.1.Sources.length : Int)] [] 5 n9_ (st148s1_0 y1 (0, y1.1.Sources)) (R148s1_0 x0 y1 (0, y1.1.Sources)) hC ⟨⟨e217, ((k217 x0.board x0.power _ h2).lend (by kernel_rfl) (by kernel_rfl) (by kernel_rfl) ⟨flat_sl (fun _ => rfl), flat_sl (fun _ => rfl), flat_sl (fun _ => rfl), flat_sl (fun _ => rfl), trivial⟩ (by kernel_rfl) (by kernel_rfl))⟩, len_map _ _, trivial⟩ trivial (by kernel_rfl) ?_
 obtain ⟨w0, hm0, hret0, hnext0⟩ := andThen_inv h
 clear h
 refine WI_cut (by kernel_rfl) (fun s => w0 = .next s) (sa148s1_0) (Ra148s1_0 x0 y1) ?_ fun z0 hs0 => ?_
 ·refine WI_blk (by kernel_rfl) ?_
  refine WI_while (by kernel_rfl) (F148s1_l0 x0 y1) (st148s1_0 y1) (R148s1_0 x0 y1) w0 1152921504606846976 (0, y1.1.Sources) hm0 rfl rfl fun z0 w0b h hb0 hr0 => ?_
  unfold F148s1_l0 at h
  rcases boolC ((c148s1_3 y1 z0)) with h3 | h3
  ·replace h := condT h3 h
   obtain ⟨y4, h5, h⟩ := bindE h
   obtain ⟨y6, h7, h⟩ := bindE h
   obtain ⟨y8, h9, h⟩ := bindE h
   refine WI_stop (bs := [((c148s1_3 y1 z0), true)]) mixed lv148s1 34 [true] [.row (z0.2.map q59) z0.1 (q59 y4), .row (z0.2.map q59) (((Int.toNat z0.1) : Nat) : Int) (q59 y4), .when [((y4.State == 1), true)] (.callB 216 [.d (.ip [.v (.int .i64 x0.board.Buses), .s (x0.board.Breakers.map q66), .s (x0.board.Sources.map q57), .s (x0.board.Consumers.map q108), .v (.int .i64 x0.board.Phase), .v (.int .i64 x0.board.Frequency), .s (y1.1.Closed.map pB), .s (z0.2.map q59), .s (y1.1.Limits.map pI), .s (y1.1.Broken.map q119), .v (.int .i64 x0.time)]), .d (I z0.1)] (.d (Bo y6)) [[]] 0 []), .when [(((y4.State == 1) && y6), true)] (.row (z0.2.map q59) (((Int.toNat z0.1) : Nat) : Int) (q59 y4)), .when [(((y4.State == 1) && y6), true)] (.row (x0.board.Sources.map q57) z0.1 (q57 y8))] [] 5 n9_ [(0, .d (.o 0 0)), (3, .d (.oe 6 (Int.toNat z0.1) 4 0)), (24, .d (I (y1.1.Sources.length : Int))), (25, .d (I z0.1)), (66, .d (Bo (c148s1_4 x0 y4 y6 y8)))] (.box 130 (b6 x0.board [.os 5, .os 6, .os 7, .os 8, I x0.time]) :: p4 x0.power [.sl 4 1 (y1.1.Closed.map pB), .sl 59 4 (z0.2.map q59), .sl 3 1 (y1.1.Limits.map pI), .sl 119 2 (y1.1.Broken.map q119)]) hC ⟨row_get h5, row_getN h5, fun hg => lend0_get ⟨e216s0, (k216s0 (⟨x0.board, (⟨y1.1.Closed, z0.2, y1.1.Limits, y1.1.Broken⟩ : api_Power), x0.time⟩ : restore_worker) z0.1 _ (guardO_get h7 hg))⟩, fun hg => row_getN h5, fun hg => row_get (guardO_get h9 hg), trivial⟩ ⟨h3, trivial⟩ (by kernel_rfl) ?_
   rcases boolC ((c148s1_4 x0 y4 y6 y8)) with h10 | h10
   ·replace h := condT h10 h
    obtain ⟨y11, h12, h⟩ := bindE h
    exact WI_end (bs := [((c148s1_4 x0 y4 y6 y8), true)]) (φ := fun s' => w0b = .next s') (st' := (st148s1_0 y1)) (R' := (R148s1_0 x0 y1)) mixed lv148s1 25 [true] [.upd (z0.2.map q59) (Int.toNat z0.1) (q59 y4) (q59 (⟨2, y4.Since, y4.Frequency, y4.Phase⟩ : api_Running)) (y11.map q59)] [] 5 n9_ (w64 (z0.1 + 1), y11) hC ⟨upd_get h5 h12, trivial⟩ ⟨h10, trivial⟩ (by kernel_rfl) (by kernel_rfl) (sI h).symm
   ·replace h := condF h10 h
    exact WI_end (bs := [((c148s1_4 x0 y4 y6 y8), false)]) (φ := fun s' => w0b = .next s') (st' := (st148s1_0 y1)) (R' := (R148s1_0 x0 y1)) mixed lv148s1 25 [false] [] [] 5 n9_ (w64 (z0.1 + 1), z0.2) hC trivial ⟨h10, trivial⟩ (by kernel_rfl) (by kernel_rfl) (sI h).symm
  ·replace h := condF h3 h
   exact WI_end (bs := [((c148s1_3 y1 z0), false)]) (φ := fun s' => w0 = .next s') (st' := (sa148s1_0)) (R' := (Ra148s1_0 x0 y1)) mixed lv148s1 26 [false] [] [] 5 n9_ (z0.1, z0.2) hC trivial ⟨h3, trivial⟩ (by kernel_rfl) (by kernel_rfl) (hb0 _ (sI h).symm)
 ·have h := hnext0 _ hs0
  replace h := sI h
  subst h
  exact WI_endF (bs := []) mixed lv148s1 20 [] [] [.frz 1, .frz 2, .frz 3, .frz 4] [] 5 n9_ rfl hC trivial trivial (by kernel_rfl) (by kernel_rfl)
theorem e148s1 : Enters Tryz.prog 148 := Go.SL.enters_of Tryz.func148 (by kernel_rfl) (by kernel_rfl)
def lv214 : List Nat := [0, 1, 2, 3, 4, 6, 7, 8, 20]
theorem k214 (x0 : api_Board) (x1 : api_Power) (x2 : Int) (r : Int × Bool) (h : F214 x0 x1 x2 = some r) : CallOk Tryz.prog 214 [.agg (d29 x0), .agg (d35 x1), .d (I x2)] [] (.tup [.d (I r.1), .d (Bo r.2)]) [] := by
 unfold F214 at h
 refine callOk_of 25 Tryz.func214 rfl rfl rfl fun C hC => ?_
 obtain ⟨y1, h2, h⟩ := bindE h
 refine WI_stop (bs := []) mixed lv214 28 [] [.call 176 [.agg (d29 x0), .agg (d35 x1), .d (I x2)] [] (.tup [.agg (d78 y1.1), .d (Bo y1.2)]) [] [], .len ((y1.1.Sources.map pI).length : Int) (y1.1.Sources.length : Int)] [] 0 [2] [(6, .d (I 0)), (7, .d (Bo false)), (8, .d (.o 0 0)), (20, .d (Bo ((y1.1.Sources.length : Int) == 0)))] [.box 78 (d78 y1.1)] hC ⟨⟨e176, (k176 x0 x1 x2 _ h2)⟩, len_map _ _, trivial⟩ trivial (by kernel_rfl) ?_
 rcases boolC (((y1.1.Sources.length : Int) == 0)) with h3 | h3
 ·replace h := condT h3 h
  replace h := sI h
  subst h
  exact WI_ret (bs := [(((y1.1.Sources.length : Int) == 0), true)]) mixed lv214 24 [true] [] [] [.tmp 6, .tmp 7] 0 [] rfl hC trivial ⟨h3, trivial⟩ (by kernel_rfl)
 ·replace h := condF h3 h
  obtain ⟨y4, h5, h⟩ := bindE h
  replace h := sI h
  subst h
  exact WI_ret (bs := [(((y1.1.Sources.length : Int) == 0), false)]) mixed lv214 25 [false] [.row (y1.1.Sources.map pI) 0 (pI y4)] [] [.tmp 6, .tmp 7] 0 [] rfl hC ⟨row_get h5, trivial⟩ ⟨h3, trivial⟩ (by kernel_rfl)
theorem e214 : Enters Tryz.prog 214 := Go.SL.enters_of Tryz.func214 (by kernel_rfl) (by kernel_rfl)
theorem k95 (x0 : api_Board) (x1 : api_Power) (x2 : Int) (r : Bool) (h : F95 x0 x1 x2 = some r) : CallOk Tryz.prog 95 [.agg (d29 x0), .agg (d35 x1), .d (I x2)] [] (.d (Bo r)) [] := by
 unfold F95 at h
 refine callOk_of 20 Tryz.func95 rfl rfl rfl fun C hC => ?_
 obtain ⟨y1, h2, h⟩ := bindE h
 replace h := sI h
 subst h
 exact WI_ret (bs := []) mixed [0, 1, 2, 3, 4, 6, 7] 27 [] [.call 176 [.agg (d29 x0), .agg (d35 x1), .d (I x2)] [] (.tup [.agg (d78 y1.1), .d (Bo y1.2)]) [] [], .len ((y1.1.Sources.map pI).length : Int) (y1.1.Sources.length : Int)] [] [.tmp 6] 0 [] rfl hC ⟨⟨e176, (k176 x0 x1 x2 _ h2)⟩, len_map _ _, trivial⟩ trivial (by kernel_rfl)
theorem e95 : Enters Tryz.prog 95 := Go.SL.enters_of Tryz.func95 (by kernel_rfl) (by kernel_rfl)
def lv169 : List Nat := [0, 1, 2, 3, 4, 6, 7, 9, 11, 20, 21, 22, 23, 29]
def st169_0 (y1 : api_Island × Bool) (n0 : Nat) (z0 : Int) : St := [(4, .d (.o 0 0)), (6, .d (I 0)), (7, .d (.o 1 0)), (9, .d (I z0)), (20, .d (DS pI y1.1.Consumers)), (21, .d (I (y1.1.Consumers.length : Int))), (22, .d (I (cnt 0 n0)))]
def R169_0 (x1 : api_Power) (y1 : api_Island × Bool) (n0 : Nat) (z0 : Int) : List Res := [.box 35 (d35 x1), .box 78 (d78 y1.1)]
def sa169_0  (z0 : Int) : St := [(6, .d (I 0)), (9, .d (I z0))]
def Ra169_0  (z0 : Int) : List Res := []
theorem k169 (x0 : api_Board) (x1 : api_Power) (x2 : Int) (r : Int) (h : F169 x0 x1 x2 = some r) : CallOk Tryz.prog 169 [.agg (d29 x0), .agg (d35 x1), .d (I x2)] [] (.d (I r)) [] := by
 unfold F169 at h
 refine callOk_of 39 Tryz.func169 rfl rfl rfl fun C hC => ?_
 obtain ⟨y1, h2, h⟩ := bindE h
 refine WI_stop (bs := []) mixed lv169 30 [] [.call 176 [.agg (d29 x0), .agg (d35 x1), .d (I x2)] [] (.tup [.agg (d78 y1.1), .d (Bo y1.2)]) [] [], .len ((y1.1.Consumers.map pI).length : Int) (y1.1.Consumers.length : Int)] [] 0 [1, 2] (st169_0 y1 0 0) (R169_0 x1 y1 0 0) hC ⟨⟨e176, (k176 x0 x1 x2 _ h2)⟩, len_map _ _, trivial⟩ trivial (by kernel_rfl) ?_
 obtain ⟨w0, hm0, hret0, hnext0⟩ := andThen_inv h
 clear h
 refine WI_cut (by kernel_rfl) (fun s => w0 = .next s) (sa169_0) (Ra169_0) ?_ fun z0 hs0 => ?_
 ·refine WI_blk (by kernel_rfl) ?_
  refine WI_len 20 rfl fun hl0 => ?_
  refine WI_foldI (by kernel_rfl) (F169_l0 x1 y1) (st169_0 y1) (R169_0 x1 y1) w0 y1.1.Consumers 0 hm0 rfl rfl (fun z0 hn0 => ?_) fun n0 a0 z0 w0b hi0 hx0 h hb0 hr0 => ?_
  ·clear hm0
   exact WI_end (bs := [(decide ((cnt 0 y1.1.Consumers.length) < (y1.1.Consumers.length : Int)), false)]) (φ := fun s' => w0 = .next s') (st' := (sa169_0)) (R' := (Ra169_0)) mixed lv169 26 [false] [] [] 0 [] z0 hC trivial ⟨(cnt_end hl0), trivial⟩ (by kernel_rfl) (by kernel_rfl) hn0
  ·unfold F169_l0 at h
   rcases boolC (decide ((y1.1.Sources.length : Int) > 0)) with h3 | h3
   ·replace h := condT h3 h
    obtain ⟨y4, h5, h⟩ := bindE h
    exact WI_end (bs := [(decide ((cnt 0 n0) < (y1.1.Consumers.length : Int)), true), (decide ((y1.1.Sources.length : Int) > 0), true)]) (φ := fun s' => w0b = .next s') (st' := (st169_0 y1 (n0 + 1))) (R' := (R169_0 x1 y1 (n0 + 1))) mixed lv169 36 [true, true] [.row (y1.1.Consumers.map pI) (cnt 0 n0) (pI a0), .len ((y1.1.Sources.map pI).length : Int) (y1.1.Sources.length : Int), .row (x1.Limits.map pI) a0 (pI y4)] [] 0 [0, 1] (w64 (z0 + y4)) hC ⟨(row_cnt hx0 hl0), len_map _ _, row_get h5, trivial⟩ ⟨(cnt_lt hi0 hl0), h3, trivial⟩ (by kernel_rfl) (by kernel_rfl) (sI h).symm
   ·replace h := condF h3 h
    exact WI_end (bs := [(decide ((cnt 0 n0) < (y1.1.Consumers.length : Int)), true), (decide ((y1.1.Sources.length : Int) > 0), false)]) (φ := fun s' => w0b = .next s') (st' := (st169_0 y1 (n0 + 1))) (R' := (R169_0 x1 y1 (n0 + 1))) mixed lv169 36 [true, false] [.row (y1.1.Consumers.map pI) (cnt 0 n0) (pI a0), .len ((y1.1.Sources.map pI).length : Int) (y1.1.Sources.length : Int)] [] 0 [0, 1] z0 hC ⟨(row_cnt hx0 hl0), len_map _ _, trivial⟩ ⟨(cnt_lt hi0 hl0), h3, trivial⟩ (by kernel_rfl) (by kernel_rfl) (sI h).symm
 ·have h := hnext0 _ hs0
  replace h := sI h
  subst h
  exact WI_ret (bs := []) mixed lv169 23 [] [] [] [.tmp 6] 0 [] rfl hC trivial trivial (by kernel_rfl)
theorem e169 : Enters Tryz.prog 169 := Go.SL.enters_of Tryz.func169 (by kernel_rfl) (by kernel_rfl)
def lv170 : List Nat := [0, 1, 2, 3, 4, 6, 7, 9, 11, 20, 21, 22, 23]
def st170_0 (y1 : api_Island × Bool) (n0 : Nat) (z0 : Int) : St := [(3, .d (.o 0 0)), (6, .d (I 0)), (9, .d (I z0)), (20, .d (DS pI y1.1.Sources)), (21, .d (I (y1.1.Sources.length : Int))), (22, .d (I (cnt 0 n0)))]
def R170_0 (x0 : api_Board) (n0 : Nat) (z0 : Int) : List Res := [.box 29 (d29 x0)]
def sa170_0  (z0 : Int) : St := [(6, .d (I 0)), (9, .d (I z0))]
def Ra170_0  (z0 : Int) : List Res := []
theorem k170 (x0 : api_Board) (x1 : api_Power) (x2 : Int) (r : Int) (h : F170 x0 x1 x2 = some r) : CallOk Tryz.prog 170 [.agg (d29 x0), .agg (d35 x1), .d (I x2)] [] (.d (I r)) [] := by
 unfold F170 at h
 refine callOk_of 36 Tryz.func170 rfl rfl rfl fun C hC => ?_
 obtain ⟨y1, h2, h⟩ := bindE h
 refine WI_stop (bs := []) mixed lv170 30 [] [.call 176 [.agg (d29 x0), .agg (d35 x1), .d (I x2)] [] (.tup [.agg (d78 y1.1), .d (Bo y1.2)]) [] [], .len ((y1.1.Sources.map pI).length : Int) (y1.1.Sources.length : Int)] [] 0 [0] (st170_0 y1 0 0) (R170_0 x0 0 0) hC ⟨⟨e176, (k176 x0 x1 x2 _ h2)⟩, len_map _ _, trivial⟩ trivial (by kernel_rfl) ?_
 obtain ⟨w0, hm0, hret0, hnext0⟩ := andThen_inv h
 clear h
 refine WI_cut (by kernel_rfl) (fun s => w0 = .next s) (sa170_0) (Ra170_0) ?_ fun z0 hs0 => ?_
 ·refine WI_blk (by kernel_rfl) ?_
  refine WI_len 20 rfl fun hl0 => ?_
  refine WI_foldI (by kernel_rfl) (F170_l0 x0) (st170_0 y1) (R170_0 x0) w0 y1.1.Sources 0 hm0 rfl rfl (fun z0 hn0 => ?_) fun n0 a0 z0 w0b hi0 hx0 h hb0 hr0 => ?_
  ·clear hm0
   exact WI_end (bs := [(decide ((cnt 0 y1.1.Sources.length) < (y1.1.Sources.length : Int)), false)]) (φ := fun s' => w0 = .next s') (st' := (sa170_0)) (R' := (Ra170_0)) mixed lv170 26 [false] [] [] 0 [] z0 hC trivial ⟨(cnt_end hl0), trivial⟩ (by kernel_rfl) (by kernel_rfl) hn0
  ·unfold F170_l0 at h
   obtain ⟨y3, h4, h⟩ := bindE h
   exact WI_end (bs := [(decide ((cnt 0 n0) < (y1.1.Sources.length : Int)), true)]) (φ := fun s' => w0b = .next s') (st' := (st170_0 y1 (n0 + 1))) (R' := (R170_0 x0 (n0 + 1))) mixed lv170 33 [true] [.row (y1.1.Sources.map pI) (cnt 0 n0) (pI a0), .row (x0.Sources.map q57) a0 (q57 y3)] [] 0 [0] (w64 (z0 + y3.Rating)) hC ⟨(row_cnt hx0 hl0), row_get h4, trivial⟩ ⟨(cnt_lt hi0 hl0), trivial⟩ (by kernel_rfl) (by kernel_rfl) (sI h).symm
 ·have h := hnext0 _ hs0
  replace h := sI h
  subst h
  exact WI_ret (bs := []) mixed lv170 23 [] [] [] [.tmp 6] 0 [] rfl hC trivial trivial (by kernel_rfl)
theorem e170 : Enters Tryz.prog 170 := Go.SL.enters_of Tryz.func170 (by kernel_rfl) (by kernel_rfl)
def lv251 : List Nat := [0, 1, 2, 3, 4, 5, 6, 7, 8, 9, 10, 20, 22, 23, 49]
theorem k251 (x0 : api_Board) (x1 : api_Power) (x2 : api_Breaker) (r : Bool) (h : F251 x0 x1 x2 = some r) : CallOk Tryz.prog 251 [.agg (d29 x0), .agg (d35 x1), .agg (d66 x2)] [] (.d (Bo r)) [] := by
 unfold F251 at h
 refine callOk_of 64 Tryz.func251 rfl rfl rfl fun C hC => ?_
 obtain ⟨y1, h2, h⟩ := bindE h
 refine WI_stop (bs := []) mixed lv251 28 [] [.call 214 [.agg (d29 x0), .agg (d35 x1), .d (I x2.A)] [] (.tup [.d (I y1.1), .d (Bo y1.2)]) [] []] [] 0 n3_ [(3, .d (.o 0 0)), (4, .d (.o 1 0)), (5, .d (.o 2 0)), (6, .d (Bo false)), (7, .d (I y1.1)), (20, .d (Bo (!y1.2)))] [.box 29 (d29 x0), .box 35 (d35 x1), .box 66 (d66 x2)] hC ⟨⟨e214, (k214 x0 x1 x2.A _ h2)⟩, trivial⟩ trivial (by kernel_rfl) ?_
 rcases boolC (!y1.2) with h3 | h3
 ·replace h := condT h3 h
  replace h := sI h
  subst h
  exact WI_ret (bs := [(!y1.2, true)]) mixed lv251 24 [true] [] [] [.tmp 6] 0 [] rfl hC trivial ⟨h3, trivial⟩ (by kernel_rfl)
 ·replace h := condF h3 h
  rcases boolC ((x2.Kind == 1)) with h4 | h4
  ·replace h := condT h4 h
   obtain ⟨y5, h6, h⟩ := bindE h
   obtain ⟨y7, h8, h⟩ := bindE h
   obtain ⟨y9, h10, h⟩ := bindE h
   replace h := sI h
   subst h
   exact WI_ret (bs := [(!y1.2, false), ((x2.Kind == 1), true)]) mixed lv251 34 [false, true] [.call 214 [.agg (d29 x0), .agg (d35 x1), .d (I x2.B)] [] (.tup [.d (I y5.1), .d (Bo y5.2)]) [] [], .when [(!y5.2, false)] (.row (x1.Sources.map q59) y1.1 (q59 y7)), .when [(!y5.2, false)] (.row (x1.Sources.map q59) y5.1 (q59 y9)), .when [(!y5.2, false)] (.call 274 [.agg (d29 x0), .agg (d59 y7), .agg (d59 y9)] [] (.d (Bo (F274 x0 y7 y9))) [] [])] [] [.tmp 6] 0 [] rfl hC ⟨⟨e214, (k214 x0 x1 x2.B _ h6)⟩, fun hg => row_get (guardO_get h8 hg), fun hg => row_get (guardO_get h10 hg), fun hg => ⟨e274, (k274 x0 y7 y9 _ rfl)⟩, trivial⟩ ⟨h3, h4, trivial⟩ (by kernel_rfl)
  ·replace h := condF h4 h
   rcases boolC ((x2.Kind == 2)) with h11 | h11
   ·replace h := condT h11 h
    obtain ⟨y12, h13, h⟩ := bindE h
    obtain ⟨y14, h15, h⟩ := bindE h
    replace h := sI h
    subst h
    exact WI_ret (bs := [(!y1.2, false), ((x2.Kind == 1), false), ((x2.Kind == 2), true)]) mixed lv251 35 [false, false, true] [.row (x1.Sources.map q59) y1.1 (q59 y12), .row (x1.Sources.map q59) x2.B (q59 y14), .call 274 [.agg (d29 x0), .agg (d59 y12), .agg (d59 y14)] [] (.d (Bo (F274 x0 y12 y14))) [] []] [] [.tmp 6] 0 [] rfl hC ⟨row_get h13, row_get h15, ⟨e274, (k274 x0 y12 y14 _ rfl)⟩, trivial⟩ ⟨h3, h4, h11, trivial⟩ (by kernel_rfl)
   ·replace h := condF h11 h
    replace h := sI h
    subst h
    exact WI_ret (bs := [(!y1.2, false), ((x2.Kind == 1), false), ((x2.Kind == 2), false)]) mixed lv251 37 [false, false, false] [] [] [.tmp 6] 0 [] rfl hC trivial ⟨h3, h4, h11, trivial⟩ (by kernel_rfl)
theorem e251 : Enters Tryz.prog 251 := Go.SL.enters_of Tryz.func251 (by kernel_rfl) (by kernel_rfl)
def lv144 : List Nat := [0, 1, 2, 3, 4, 5, 8, 9, 10, 11, 12, 13, 14, 15, 16, 17, 23, 44, 63, 76]
theorem k144 (x0 : api_Board) (x1 : api_Power) (x2 : Int) (x3 : Int) (r : api_Power × Int) (h : F144 x0 x1 x2 x3 = some r) : CallOk Tryz.prog 144 [.agg (d29 x0), .agg (d35 x1), .d (I x2), .d (I x3)] [] (.tup [.agg [.os 0, .os 1, .os 2, .os 3], .d (I r.2)]) (p4 r.1 []) := by
 unfold F144 at h
 refine callOk_of 95 Tryz.func144 rfl rfl rfl fun C hC => ?_
 obtain ⟨y1, h2, h⟩ := bindE h
 refine WI_stop (bs := []) mixed lv144 28 [] [.call 65 [.agg (d29 x0), .agg (d35 x1)] [] (.d (I y1)) [] []] [.ownb 2 0 4 1, .ownb 2 1 59 4, .ownb 2 2 3 1, .ownb 2 3 119 2] 0 n7_ [(2, .d (I x2)), (3, .d (I x3)), (4, .d (.o 0 0)), (5, .d (.o 1 0)), (8, .d (.o 2 0)), (9, .d (I 0)), (10, .d (I y1)), (23, .d (Bo (y1 != 0)))] (.box 29 (d29 x0) :: .box 35 (d35 x1) :: .box 35 [.os 3, .os 4, .os 5, .os 6] :: e4 []) hC ⟨⟨e65, (k65 x0 x1 _ h2)⟩, trivial⟩ trivial (by kernel_rfl) ?_
 rcases boolC ((y1 != 0)) with h3 | h3
 ·replace h := condT h3 h
  replace h := sI h
  subst h
  exact WI_ret (bs := [((y1 != 0), true)]) mixed lv144 24 [true] [] [.ownb 2 0 4 1, .ownb 2 1 59 4, .ownb 2 2 3 1, .ownb 2 3 119 2] [.cell 8 35, .tmp 9] 0 [7, 8, 9, 10] rfl hC trivial ⟨h3, trivial⟩ (by kernel_rfl)
 ·replace h := condF h3 h
  rcases boolC ((c144_0 x0 x2 x3)) with h4 | h4
  ·replace h := condT h4 h
   replace h := sI h
   subst h
   exact WI_ret (bs := [((y1 != 0), false), ((c144_0 x0 x2 x3), true)]) mixed lv144 29 [false, true] [.when [(decide (x2 < 0), false)] (.len ((x0.Sources.map q57).length : Int) (x0.Sources.length : Int))] [.ownb 2 0 4 1, .ownb 2 1 59 4, .ownb 2 2 3 1, .ownb 2 3 119 2] [.cell 8 35, .tmp 9] 0 [7, 8, 9, 10] rfl hC ⟨fun hg => len_map _ _, trivial⟩ ⟨h3, h4, trivial⟩ (by kernel_rfl)
  ·replace h := condF h4 h
   obtain ⟨y5, h6, h⟩ := bindE h
   obtain ⟨y7, h8, h⟩ := bindE h
   refine WI_stop (bs := [((y1 != 0), false), ((c144_0 x0 x2 x3), false)]) mixed lv144 33 [false, false] [.when [(decide (x2 < 0), false)] (.len ((x0.Sources.map q57).length : Int) (x0.Sources.length : Int)), .call 214 [.agg (d29 x0), .agg (d35 x1), .d (I x3)] [] (.tup [.d (I y5.1), .d (Bo y5.2)]) [] [], .when [(!y5.2, false)] (.row (x1.Sources.map q59) x2 (q59 y7))] [] 0 n7_ [(2, .d (I x2)), (4, .d (.o 0 0)), (5, .d (.o 1 0)), (8, .d (.o 2 0)), (9, .d (I 0)), (11, .d (I y5.1)), (63, .d (Bo ((!y5.2) || (y7.State != 2))))] (.box 29 (d29 x0) :: .box 35 (d35 x1) :: .box 35 [.os 3, .os 4, .os 5, .os 6] :: e4 []) hC ⟨fun hg => len_map _ _, ⟨e214, (k214 x0 x1 x3 _ h6)⟩, fun hg => row_get (guardO_get h8 hg), trivial⟩ ⟨h3, h4, trivial⟩ (by kernel_rfl) ?_
   rcases boolC (((!y5.2) || (y7.State != 2))) with h9 | h9
   ·replace h := condT h9 h
    replace h := sI h
    subst h
    exact WI_ret (bs := [(((!y5.2) || (y7.State != 2)), true)]) mixed lv144 24 [true] [] [.ownb 2 0 4 1, .ownb 2 1 59 4, .ownb 2 2 3 1, .ownb 2 3 119 2] [.cell 8 35, .tmp 9] 0 [7, 8, 9, 10] rfl hC trivial ⟨h9, trivial⟩ (by kernel_rfl)
   ·replace h := condF h9 h
    obtain ⟨y10, h11, h⟩ := bindE h
    obtain ⟨y12, h13, h⟩ := bindE h
    refine WI_stop (bs := [(((!y5.2) || (y7.State != 2)), false)]) mixed lv144 32 [false] [.call 70 [.agg (d35 x1)] [] (.agg [.os 0, .os 1, .os 2, .os 3]) (p4 y10 []) [], .call 215 [.agg (d29 x0), .agg (d35 x1), .d (I x2)] [] (.tup [.d (I y12.1), .d (Bo y12.2)]) [] []] [] 0 n12_ [(4, .d (.o 0 0)), (5, .d (.o 1 0)), (8, .d (.o 2 0)), (9, .d (I 0)), (11, .d (I y5.1)), (13, .d (.o 11 0)), (14, .d (DS pI [x2])), (15, .d (I y12.1)), (76, .d (Bo y12.2))] (.box 29 (d29 x0) :: .box 35 (d35 x1) :: .box 35 [.os 3, .os 4, .os 5, .os 6] :: e4 (p4 y10 [.box 35 [.os 7, .os 8, .os 9, .os 10]])) hC ⟨⟨e70, (k70 x1 _ h11)⟩, ⟨e215, (k215 x0 x1 x2 _ h13)⟩, trivial⟩ ⟨h9, trivial⟩ (by kernel_rfl) ?_
    rcases boolC (y12.2) with h14 | h14
    ·replace h := condT h14 h
     obtain ⟨y15, h16, h⟩ := bindE h
     obtain ⟨y17, h18, h⟩ := bindE h
     obtain ⟨y19, h20, h⟩ := bindE h
     replace h := sI h
     subst h
     exact WI_ret (bs := [(y12.2, true)]) mixed lv144 29 [true] [.call 176 [.agg (d29 x0), .agg (d35 x1), .d (I y12.1)] [] (.tup [.agg (d78 y15.1), .d (Bo y15.2)]) [] [], .row (x1.Sources.map q59) y5.1 (q59 y17), .call 183 [.agg [.os 0, .os 1, .os 2, .os 3], .d (DS pI y15.1.Sources), .agg (d59 y17)] (p4 y10 []) (.tup []) [.sl 4 1 (y10.Closed.map pB), .sl 59 4 (y19.map q59), .sl 3 1 (y10.Limits.map pI), .sl 119 2 (y10.Broken.map q119)] [7, 8, 9, 10]] [] [.cell 8 35, .tmp 9] 0 [7, 8, 9, 10] rfl hC ⟨⟨e176, (k176 x0 x1 y12.1 _ h16)⟩, row_get h18, ⟨e183s0, (k183s0 y10 y15.1.Sources y17 _ h20)⟩, trivial⟩ ⟨h14, trivial⟩ (by kernel_rfl)
    ·replace h := condF h14 h
     obtain ⟨y21, h22, h⟩ := bindE h
     obtain ⟨y23, h24, h⟩ := bindE h
     replace h := sI h
     subst h
     exact WI_ret (bs := [(y12.2, false)]) mixed lv144 27 [false] [.row (x1.Sources.map q59) y5.1 (q59 y21), .call 183 [.agg [.os 0, .os 1, .os 2, .os 3], .d (DS pI [x2]), .agg (d59 y21)] (p4 y10 []) (.tup []) [.sl 4 1 (y10.Closed.map pB), .sl 59 4 (y23.map q59), .sl 3 1 (y10.Limits.map pI), .sl 119 2 (y10.Broken.map q119)] [7, 8, 9, 10]] [] [.cell 8 35, .tmp 9] 0 [7, 8, 9, 10] rfl hC ⟨row_get h22, ⟨e183s0, (k183s0 y10 [x2] y21 _ h24)⟩, trivial⟩ ⟨h14, trivial⟩ (by kernel_rfl)
theorem e144 : Enters Tryz.prog 144 := Go.SL.enters_of Tryz.func144 (by kernel_rfl) (by kernel_rfl)
theorem k224s0 (x0 : api_Breaker) (x1 : shed_relief) (r : Bool × shed_relief) (h : F224s0 x0 x1 = some r) : CallOk Tryz.prog 224 [.agg (d66 x0), .d (.o 0 0)] (.box 198 [.o 1 0] :: .box 244 (b6 x1.board [.os 2, .os 3, .os 4, .os 5, .os 6]) :: p4 x1.power [.sl 42 3 (x1.acts.map q42)]) (.d (Bo r.1)) (.box 198 [.o 1 0] :: .box 244 (b6 r.2.board [.os 2, .os 3, .os 4, .os 5, .os 6]) :: p4 r.2.power [.sl 42 3 (r.2.acts.map q42)]) := by
 unfold F224s0 at h
 refine callOk_of 21 Tryz.func224 rfl rfl rfl fun C hC => ?_
 obtain ⟨y1, h2, h⟩ := bindE h
 replace h := sI h
 subst h
 exact WI_ret (bs := []) mixed n4_ 25 [] [.when [((x0.Kind == 3), true)] (.callB 95 [.agg (d29 x1.board), .agg (d35 x1.power), .d (I x0.A)] (.d (Bo y1)) [[]] 0 [])] [] [.tmp 3] 7 n7_ rfl hC ⟨fun hg => lend0_get ⟨e95, (k95 x1.board x1.power x0.A _ (guardO_get h2 hg))⟩, trivial⟩ trivial (by kernel_rfl)
theorem e224s0 : Enters Tryz.prog 224 := Go.SL.enters_of Tryz.func224 (by kernel_rfl) (by kernel_rfl)
theorem k257s0 (x0 : shed_relief) (x1 : Int) (r : Int) (h : F257s0 x0 x1 = some r) : CallOk Tryz.prog 257 [.d (.ip [.v (.int .i64 x0.board.Buses), .s (x0.board.Breakers.map q66), .s (x0.board.Sources.map q57), .s (x0.board.Consumers.map q108), .v (.int .i64 x0.board.Phase), .v (.int .i64 x0.board.Frequency), .s (x0.power.Closed.map pB), .s (x0.power.Sources.map q59), .s (x0.power.Limits.map pI), .s (x0.power.Broken.map q119), .s (x0.acts.map q42)]), .d (I x1)] [] (.d (I r)) [] := by
 unfold F257s0 at h
 refine callOk_of 27 Tryz.func257 rfl rfl rfl fun C hC => ?_
 obtain ⟨y1, h2, h⟩ := bindE h
 obtain ⟨y3, h4, h⟩ := bindE h
 replace h := sI h
 subst h
 exact WI_ret (bs := []) mixed [0, 1, 4] 25 [] [.call 169 [.agg (d29 x0.board), .agg (d35 x0.power), .d (I x1)] [] (.d (I y1)) [] [], .call 170 [.agg (d29 x0.board), .agg (d35 x0.power), .d (I x1)] [] (.d (I y3)) [] []] [] [.tmp 4] 0 [] rfl hC ⟨⟨e169, (k169 x0.board x0.power x1 _ h2)⟩, ⟨e170, (k170 x0.board x0.power x1 _ h4)⟩, trivial⟩ trivial (by kernel_rfl)
theorem e257s0 : Enters Tryz.prog 257 := Go.SL.enters_of Tryz.func257 (by kernel_rfl) (by kernel_rfl)
def lv83 : List Nat := [0, 1, 2, 3, 4, 5, 6, 8, 9, 10, 11, 37]
def st83_0 (x0 : api_Board) (n0 : Nat) (z0 : Unit) : St := [(2, .d (.o 0 0)), (3, .d (.o 1 0)), (4, .d (Bo false)), (8, .d (DS q66 x0.Breakers)), (9, .d (I (x0.Breakers.length : Int))), (10, .d (I (cnt 0 n0)))]
def R83_0 (x0 : api_Board) (x1 : api_Power) (n0 : Nat) (z0 : Unit) : List Res := [.box 29 (d29 x0), .box 35 (d35 x1)]
def sa83_0  (z0 : Unit) : St := [(4, .d (Bo false))]
def Ra83_0  (z0 : Unit) : List Res := []
theorem k83 (x0 : api_Board) (x1 : api_Power) (r : Bool) (h : F83 x0 x1 = some r) : CallOk Tryz.prog 83 [.agg (d29 x0), .agg (d35 x1)] [] (.d (Bo r)) [] := by
 unfold F83 at h
 refine callOk_of 39 Tryz.func83 rfl rfl rfl fun C hC => ?_
 refine WI_stop (bs := []) mixed lv83 26 [] [.len ((x0.Breakers.map q66).length : Int) (x0.Breakers.length : Int)] [] 0 [0, 1] (st83_0 x0 0 ()) (R83_0 x0 x1 0 ()) hC ⟨len_map _ _, trivial⟩ trivial (by kernel_rfl) ?_
 obtain ⟨w0, hm0, hret0, hnext0⟩ := andThen_inv h
 clear h
 refine WI_cut (by kernel_rfl) (fun s => w0 = .next s) (sa83_0) (Ra83_0) ?_ fun z0 hs0 => ?_
 ·refine WI_blk (by kernel_rfl) ?_
  refine WI_len 8 rfl fun hl0 => ?_
  refine WI_foldI (by kernel_rfl) (F83_l0 x0 x1) (st83_0 x0) (R83_0 x0 x1) w0 x0.Breakers () hm0 rfl rfl (fun z0 hn0 => ?_) fun n0 a0 z0 w0b hi0 hx0 h hb0 hr0 => ?_
  ·clear hm0
   exact WI_end (bs := [(decide ((cnt 0 x0.Breakers.length) < (x0.Breakers.length : Int)), false)]) (φ := fun s' => w0 = .next s') (st' := (sa83_0)) (R' := (Ra83_0)) mixed lv83 26 [false] [] [] 0 [] () hC trivial ⟨(cnt_end hl0), trivial⟩ (by kernel_rfl) (by kernel_rfl) hn0
  ·unfold F83_l0 at h
   obtain ⟨y1, h2, h⟩ := bindE h
   obtain ⟨y3, h4, h⟩ := bindE h
   obtain ⟨y5, h6, h⟩ := bindE h
   refine WI_stop (bs := [(decide ((cnt 0 n0) < (x0.Breakers.length : Int)), true)]) mixed lv83 32 [true] [.row (x0.Breakers.map q66) (cnt 0 n0) (q66 a0), .when [((a0.Kind == 1), true)] (.row (x1.Closed.map pB) (cnt 0 n0) (pB y1)), .when [(((a0.Kind == 1) && y1), true)] (.call 134 [.agg (d35 x1), .d (I 2), .d (I (cnt 0 n0))] [] (.d (Bo y3)) [] []), .when [((((a0.Kind == 1) && y1) && y3), true)] (.call 95 [.agg (d29 x0), .agg (d35 x1), .d (I a0.A)] [] (.d (Bo y5)) [] [])] [] 0 [0, 1] [(2, .d (.o 0 0)), (3, .d (.o 1 0)), (4, .d (Bo false)), (8, .d (DS q66 x0.Breakers)), (9, .d (I (x0.Breakers.length : Int))), (10, .d (I (cnt 0 n0))), (37, .d (Bo (c83_1 a0 y1 y3 y5)))] [.box 29 (d29 x0), .box 35 (d35 x1)] hC ⟨(row_cnt hx0 hl0), fun hg => row_get (guardO_get h2 hg), fun hg => ⟨e134, (k134 x1 2 (cnt 0 n0) _ (guardO_get h4 hg))⟩, fun hg => ⟨e95, (k95 x0 x1 a0.A _ (guardO_get h6 hg))⟩, trivial⟩ ⟨(cnt_lt hi0 hl0), trivial⟩ (by kernel_rfl) ?_
   rcases boolC ((c83_1 a0 y1 y3 y5)) with h7 | h7
   ·replace h := condT h7 h
    have hq := hret0 _ (hr0 _ (sI h).symm)
    replace hq := sI hq
    subst hq
    exact WI_ret (bs := [((c83_1 a0 y1 y3 y5), true)]) mixed lv83 24 [true] [] [] [.tmp 4] 0 [] rfl hC trivial ⟨h7, trivial⟩ (by kernel_rfl)
   ·replace h := condF h7 h
    exact WI_end (bs := [((c83_1 a0 y1 y3 y5), false)]) (φ := fun s' => w0b = .next s') (st' := (st83_0 x0 (n0 + 1))) (R' := (R83_0 x0 x1 (n0 + 1))) mixed lv83 25 [false] [] [] 0 [0, 1] () hC trivial ⟨h7, trivial⟩ (by kernel_rfl) (by kernel_rfl) (sI h).symm
 ·have h := hnext0 _ hs0
  replace h := sI h
  subst h
  exact WI_ret (bs := []) mixed lv83 23 [] [] [] [.tmp 4] 0 [] rfl hC trivial trivial (by kernel_rfl)
theorem e83 : Enters Tryz.prog 83 := Go.SL.enters_of Tryz.func83 (by kernel_rfl) (by kernel_rfl)
def lv42 : List Nat := [0, 1, 2, 3, 4, 5, 6, 9, 10, 11, 12, 23]
def st42_0 (y1 : (List Bool)) (n0 : Nat) (z0 : Unit) : St := [(2, .d (.o 0 0)), (3, .d (.o 1 0)), (4, .d (Bo false)), (9, .d (.os 2)), (10, .d (I (y1.length : Int))), (11, .d (I (cnt 0 n0)))]
def R42_0 (x0 : api_Board) (x1 : api_Power) (y1 : (List Bool)) (n0 : Nat) (z0 : Unit) : List Res := [.box 29 (d29 x0), .box 35 (d35 x1), .sl 4 1 (y1.map pB)]
def sa42_0  (z0 : Unit) : St := [(2, .d (.o 0 0)), (3, .d (.o 1 0)), (4, .d (Bo false))]
def Ra42_0 (x0 : api_Board) (x1 : api_Power) (z0 : Unit) : List Res := [.box 29 (d29 x0), .box 35 (d35 x1)]
theorem k42 (x0 : api_Board) (x1 : api_Power) (r : Bool) (h : F42 x0 x1 = some r) : CallOk Tryz.prog 42 [.agg (d29 x0), .agg (d35 x1)] [] (.d (Bo r)) [] := by
 unfold F42 at h
 refine callOk_of 29 Tryz.func42 rfl rfl rfl fun C hC => ?_
 obtain ⟨y1, h2, h⟩ := bindE h
 refine WI_stop (bs := []) mixed lv42 26 [] [.call 18 [.agg (d29 x0), .agg (d35 x1)] [] (.d (.os 0)) [.sl 4 1 (y1.map pB)] [], .len ((y1.map pB).length : Int) (y1.length : Int)] [] 0 n3_ (st42_0 y1 0 ()) (R42_0 x0 x1 y1 0 ()) hC ⟨⟨e18, (k18 x0 x1 _ h2)⟩, len_map _ _, trivial⟩ trivial (by kernel_rfl) ?_
 obtain ⟨w0, hm0, hret0, hnext0⟩ := andThen_inv h
 clear h
 refine WI_cut (by kernel_rfl) (fun s => w0 = .next s) (sa42_0) (Ra42_0 x0 x1) ?_ fun z0 hs0 => ?_
 ·refine WI_blk (by kernel_rfl) ?_
  refine WI_lenO 9 2 rfl rfl fun hl0 => ?_
  refine WI_foldI (by kernel_rfl) (F42_l0 x0 x1) (st42_0 y1) (R42_0 x0 x1 y1) w0 y1 () hm0 rfl rfl (fun z0 hn0 => ?_) fun n0 a0 z0 w0b hi0 hx0 h hb0 hr0 => ?_
  ·clear hm0
   exact WI_end (bs := [(decide ((cnt 0 y1.length) < (y1.length : Int)), false)]) (φ := fun s' => w0 = .next s') (st' := (sa42_0)) (R' := (Ra42_0 x0 x1)) mixed lv42 26 [false] [] [] 0 [0, 1] () hC trivial ⟨(cnt_end hl0), trivial⟩ (by kernel_rfl) (by kernel_rfl) hn0
  ·unfold F42_l0 at h
   obtain ⟨y3, h4, h⟩ := bindE h
   refine WI_stop (bs := [(decide ((cnt 0 n0) < (y1.length : Int)), true)]) mixed lv42 32 [true] [.row (y1.map pB) (cnt 0 n0) (pB a0), .row (y1.map pB) (((Int.toNat (cnt 0 n0)) : Nat) : Int) (pB a0), .when [(a0, true)] (.call 95 [.agg (d29 x0), .agg (d35 x1), .d (I (cnt 0 n0))] [] (.d (Bo y3)) [] [])] [] 0 n3_ [(2, .d (.o 0 0)), (3, .d (.o 1 0)), (4, .d (Bo false)), (9, .d (.os 2)), (10, .d (I (y1.length : Int))), (11, .d (I (cnt 0 n0))), (23, .d (Bo (a0 && (!y3))))] [.box 29 (d29 x0), .box 35 (d35 x1), .sl 4 1 (y1.map pB)] hC ⟨row_get (get_cnt hx0 hl0), row_getN (get_cnt hx0 hl0), fun hg => ⟨e95, (k95 x0 x1 (cnt 0 n0) _ (guardO_get h4 hg))⟩, trivial⟩ ⟨(cnt_lt hi0 hl0), trivial⟩ (by kernel_rfl) ?_
   rcases boolC ((a0 && (!y3))) with h5 | h5
   ·replace h := condT h5 h
    have hq := hret0 _ (hr0 _ (sI h).symm)
    replace hq := sI hq
    subst hq
    exact WI_ret (bs := [((a0 && (!y3)), true)]) mixed lv42 24 [true] [] [] [.tmp 4] 0 [] rfl hC trivial ⟨h5, trivial⟩ (by kernel_rfl)
   ·replace h := condF h5 h
    exact WI_end (bs := [((a0 && (!y3)), false)]) (φ := fun s' => w0b = .next s') (st' := (st42_0 y1 (n0 + 1))) (R' := (R42_0 x0 x1 y1 (n0 + 1))) mixed lv42 25 [false] [] [] 0 n3_ () hC trivial ⟨h5, trivial⟩ (by kernel_rfl) (by kernel_rfl) (sI h).symm
 ·have h := hnext0 _ hs0
  obtain ⟨y6, h7, h⟩ := bindE h
  replace h := sI h
  subst h
  exact WI_ret (bs := []) mixed lv42 23 [] [.call 65 [.agg (d29 x0), .agg (d35 x1)] [] (.d (I y6)) [] []] [] [.tmp 4] 0 [] rfl hC ⟨⟨e65, (k65 x0 x1 _ h7)⟩, trivial⟩ trivial (by kernel_rfl)
theorem e42 : Enters Tryz.prog 42 := Go.SL.enters_of Tryz.func42 (by kernel_rfl) (by kernel_rfl)
theorem k164s0 (x0 : restore_planner) (x1 : Int) (r : Bool) (h : F164s0 x0 x1 = some r) : CallOk Tryz.prog 164 [.d (.ip [.v (.int .i64 x0.board.Buses), .s (x0.board.Breakers.map q66), .s (x0.board.Sources.map q57), .s (x0.board.Consumers.map q108), .v (.int .i64 x0.board.Phase), .v (.int .i64 x0.board.Frequency), .s (x0.power.Closed.map pB), .s (x0.power.Sources.map q59), .s (x0.power.Limits.map pI), .s (x0.power.Broken.map q119), .s (x0.goal.map pB), .s (x0.acts.map q42)]), .d (I x1)] [] (.d (Bo r)) [] := by
 unfold F164s0 at h
 refine callOk_of 15 Tryz.func164 rfl rfl rfl fun C hC => ?_
 obtain ⟨y1, h2, h⟩ := bindE h
 replace h := sI h
 subst h
 exact WI_ret (bs := []) mixed [0, 1, 4] 25 [] [.call 95 [.agg (d29 x0.board), .agg (d35 x0.power), .d (I x1)] [] (.d (Bo y1)) [] []] [] [.tmp 4] 0 [] rfl hC ⟨⟨e95, (k95 x0.board x0.power x1 _ h2)⟩, trivial⟩ trivial (by kernel_rfl)
theorem e164s0 : Enters Tryz.prog 164 := Go.SL.enters_of Tryz.func164 (by kernel_rfl) (by kernel_rfl)
def lv213 : List Nat := [0, 1, 2, 3, 4, 6, 7, 8, 9, 11, 15, 19, 29, 66]
theorem k213 (x0 : api_Board) (x1 : api_Power) (x2 : Int) (r : Int) (h : F213 x0 x1 x2 = some r) : CallOk Tryz.prog 213 [.agg (d29 x0), .agg (d35 x1), .d (I x2)] [] (.d (I r)) [] := by
 unfold F213 at h
 refine callOk_of 67 Tryz.func213 rfl rfl rfl fun C hC => ?_
 obtain ⟨y1, h2, h⟩ := bindE h
 refine WI_stop (bs := []) mixed lv213 29 [] [.call 65 [.agg (d29 x0), .agg (d35 x1)] [] (.d (I y1)) [] []] [] 0 [0, 1] [(2, .d (I x2)), (3, .d (.o 0 0)), (4, .d (.o 1 0)), (6, .d (I 0)), (7, .d (I y1)), (15, .d (Bo (y1 != 0)))] [.box 29 (d29 x0), .box 35 (d35 x1)] hC ⟨⟨e65, (k65 x0 x1 _ h2)⟩, trivial⟩ trivial (by kernel_rfl) ?_
 rcases boolC ((y1 != 0)) with h3 | h3
 ·replace h := condT h3 h
  replace h := sI h
  subst h
  exact WI_ret (bs := [((y1 != 0), true)]) mixed lv213 24 [true] [] [] [.tmp 6] 0 [] rfl hC trivial ⟨h3, trivial⟩ (by kernel_rfl)
 ·replace h := condF h3 h
  rcases boolC ((c213_0 x0 x2)) with h4 | h4
  ·replace h := condT h4 h
   replace h := sI h
   subst h
   exact WI_ret (bs := [((y1 != 0), false), ((c213_0 x0 x2), true)]) mixed lv213 27 [false, true] [.when [(decide (x2 < 0), false)] (.len ((x0.Breakers.map q66).length : Int) (x0.Breakers.length : Int))] [] [.tmp 6] 0 [] rfl hC ⟨fun hg => len_map _ _, trivial⟩ ⟨h3, h4, trivial⟩ (by kernel_rfl)
  ·replace h := condF h4 h
   obtain ⟨y5, h6, h⟩ := bindE h
   refine WI_stop (bs := [((y1 != 0), false), ((c213_0 x0 x2), false)]) mixed lv213 27 [false, false] [.when [(decide (x2 < 0), false)] (.len ((x0.Breakers.map q66).length : Int) (x0.Breakers.length : Int)), .call 250 [.agg (d29 x0), .agg (d35 x1), .d (I x2)] [] (.d (Bo y5)) [] []] [] 0 [0, 1] [(2, .d (I x2)), (3, .d (.o 0 0)), (4, .d (.o 1 0)), (6, .d (I 0)), (29, .d (Bo (!y5)))] [.box 29 (d29 x0), .box 35 (d35 x1)] hC ⟨fun hg => len_map _ _, ⟨e250, (k250 x0 x1 x2 _ h6)⟩, trivial⟩ ⟨h3, h4, trivial⟩ (by kernel_rfl) ?_
   rcases boolC (!y5) with h7 | h7
   ·replace h := condT h7 h
    replace h := sI h
    subst h
    exact WI_ret (bs := [(!y5, true)]) mixed lv213 24 [true] [] [] [.tmp 6] 0 [] rfl hC trivial ⟨h7, trivial⟩ (by kernel_rfl)
   ·replace h := condF h7 h
    obtain ⟨y8, h9, h⟩ := bindE h
    obtain ⟨y10, h11, h⟩ := bindE h
    obtain ⟨y12, h13, h⟩ := bindE h
    obtain ⟨y14, h15, h⟩ := bindE h
    refine WI_stop (bs := [(!y5, false)]) mixed lv213 33 [false] [.row (x0.Breakers.map q66) x2 (q66 y8), .call 176 [.agg (d29 x0), .agg (d35 x1), .d (I y8.A)] [] (.tup [.agg (d78 y10.1), .d (Bo y10.2)]) [] [], .when [((y8.Kind == 1), true)] (.call 96 [.d (DS pI y10.1.Buses), .d (I y8.B)] [] (.d (Bo y12)) [] []), .when [(!((y8.Kind == 1) && y12), true)] (.call 251 [.agg (d29 x0), .agg (d35 x1), .agg (d66 y8)] [] (.d (Bo y14)) [] [])] [] 0 [] [(6, .d (I 0)), (66, .d (Bo ((!((y8.Kind == 1) && y12)) && (!y14))))] [] hC ⟨row_get h9, ⟨e176, (k176 x0 x1 y8.A _ h11)⟩, fun hg => ⟨e96, (k96 y10.1.Buses y8.B _ (guardO_get h13 hg))⟩, fun hg => ⟨e251, (k251 x0 x1 y8 _ (guardO_get h15 hg))⟩, trivial⟩ ⟨h7, trivial⟩ (by kernel_rfl) ?_
    rcases boolC (((!((y8.Kind == 1) && y12)) && (!y14))) with h16 | h16
    ·replace h := condT h16 h
     replace h := sI h
     subst h
     exact WI_ret (bs := [(((!((y8.Kind == 1) && y12)) && (!y14)), true)]) mixed lv213 24 [true] [] [] [.tmp 6] 0 [] rfl hC trivial ⟨h16, trivial⟩ (by kernel_rfl)
    ·replace h := condF h16 h
     replace h := sI h
     subst h
     exact WI_ret (bs := [(((!((y8.Kind == 1) && y12)) && (!y14)), false)]) mixed lv213 25 [false] [] [] [.tmp 6] 0 [] rfl hC trivial ⟨h16, trivial⟩ (by kernel_rfl)
theorem e213 : Enters Tryz.prog 213 := Go.SL.enters_of Tryz.func213 (by kernel_rfl) (by kernel_rfl)
def lv222s2 : List Nat := [0, 1, 4, 5, 6, 8, 13, 14, 15, 16, 32, 38, 39, 40, 41]
def st222s2_0 (x0 : shed_relief) (n0 : Nat) (z0 : Sg7) : St := [(0, .d (.o 0 0)), (1, .d (.fn (.func 224) [] [.o 6 0])), (4, .d (.os 7)), (13, .d (DS q66 x0.board.Breakers)), (14, .d (I (x0.board.Breakers.length : Int))), (15, .d (I (cnt 0 n0)))]
def R222s2_0  (n0 : Nat) (z0 : Sg7) : List Res := [.box 244 [I z0.1, DS q66 z0.2.1, DS q57 z0.2.2.1, DS q108 z0.2.2.2.1, I z0.2.2.2.2.1, I z0.2.2.2.2.2.1, .os 8, .os 9, .os 10, .os 11, .os 12], .non, .non, .non, .non, .non, .box 198 [.o 0 0], .sl 3 1 (z0.2.2.2.2.2.2.1.map pI), .sl 4 1 (z0.2.2.2.2.2.2.2.1.map pB), .sl 59 4 (z0.2.2.2.2.2.2.2.2.1.map q59), .sl 3 1 (z0.2.2.2.2.2.2.2.2.2.1.map pI), .sl 119 2 (z0.2.2.2.2.2.2.2.2.2.2.1.map q119), .sl 42 3 (z0.2.2.2.2.2.2.2.2.2.2.2.map q42)]
def sa222s2_0  (z0 : Sg7) : St := [(0, .d (.o 0 0)), (4, .d (.os 7))]
def Ra222s2_0  (z0 : Sg7) : List Res := [.box 244 [I z0.1, DS q66 z0.2.1, DS q57 z0.2.2.1, DS q108 z0.2.2.2.1, I z0.2.2.2.2.1, I z0.2.2.2.2.2.1, .os 8, .os 9, .os 10, .os 11, .os 12], .non, .non, .non, .non, .non, .box 198 [.o 0 0], .sl 3 1 (z0.2.2.2.2.2.2.1.map pI), .sl 4 1 (z0.2.2.2.2.2.2.2.1.map pB), .sl 59 4 (z0.2.2.2.2.2.2.2.2.1.map q59), .sl 3 1 (z0.2.2.2.2.2.2.2.2.2.1.map pI), .sl 119 2 (z0.2.2.2.2.2.2.2.2.2.2.1.map q119), .sl 42 3 (z0.2.2.2.2.2.2.2.2.2.2.2.map q42)]
def st222s2_1 (z0 : Sg7) (n1 : Nat) (z1 : Sg6) : St := [(0, .d (.o 0 0)), (38, .d (.os 7)), (39, .d (I (z0.2.2.2.2.2.2.1.length : Int))), (40, .d (I (cnt 0 n1)))]
def R222s2_1 (z0 : Sg7) (n1 : Nat) (z1 : Sg6) : List Res := [.box 244 [I z1.1, DS q66 z1.2.1, DS q57 z1.2.2.1, DS q108 z1.2.2.2.1, I z1.2.2.2.2.1, I z1.2.2.2.2.2.1, .os 8, .os 9, .os 10, .os 11, .os 12], .non, .non, .non, .non, .non, .box 198 [.o 0 0], .sl 3 1 (z0.2.2.2.2.2.2.1.map pI), .sl 4 1 (z1.2.2.2.2.2.2.1.map pB), .sl 59 4 (z1.2.2.2.2.2.2.2.1.map q59), .sl 3 1 (z1.2.2.2.2.2.2.2.2.1.map pI), .sl 119 2 (z1.2.2.2.2.2.2.2.2.2.1.map q119), .sl 42 3 (z1.2.2.2.2.2.2.2.2.2.2.map q42)]
def sa222s2_1  (z1 : Sg6) : St := []
def Ra222s2_1  (z1 : Sg6) : List Res := [.box 244 [I z1.1, DS q66 z1.2.1, DS q57 z1.2.2.1, DS q108 z1.2.2.2.1, I z1.2.2.2.2.1, I z1.2.2.2.2.2.1, .os 7, .os 8, .os 9, .os 10, .os 11], .non, .non, .non, .non, .non, .box 198 [.o 0 0], .sl 4 1 (z1.2.2.2.2.2.2.1.map pB), .sl 59 4 (z1.2.2.2.2.2.2.2.1.map q59), .sl 3 1 (z1.2.2.2.2.2.2.2.2.1.map pI), .sl 119 2 (z1.2.2.2.2.2.2.2.2.2.1.map q119), .sl 42 3 (z1.2.2.2.2.2.2.2.2.2.2.map q42)]
theorem k222s2 (x0 : shed_relief) (r : shed_relief) (h : F222s2 x0 = some r) : CallOk Tryz.prog 222 [.d (.o 0 0), .d (.fn (.func 224) [] [.o 6 0])] (.box 244 (b6 x0.board [.os 1, .os 2, .os 3, .os 4, .os 5]) :: p4 x0.power [.sl 42 3 (x0.acts.map q42), .box 198 [.o 0 0]]) (.tup []) (.box 244 (b6 r.board [.os 7, .os 8, .os 9, .os 10, .os 11]) :: .non :: .non :: .non :: .non :: .non :: .box 198 [.o 0 0] :: p4 r.power [.sl 42 3 (r.acts.map q42)]) := by
 unfold F222s2 at h
 refine callOk_of 48 Tryz.func222 rfl rfl rfl fun C hC => ?_
 refine WI_stop (bs := []) mixed lv222s2 26 [] [.len ((x0.board.Breakers.map q66).length : Int) (x0.board.Breakers.length : Int)] [.own 4 3 1, .mv 1, .mv 2, .mv 3, .mv 4, .mv 5] 7 n13_ (st222s2_0 x0 0 (t6 x0.board (([] : List Int), t4 x0.power x0.acts))) (R222s2_0 0 (t6 x0.board (([] : List Int), t4 x0.power x0.acts))) hC ⟨len_map _ _, trivial⟩ trivial (by kernel_rfl) ?_
 obtain ⟨w0, hm0, hret0, hnext0⟩ := andThen_inv h
 clear h
 refine WI_cut (by kernel_rfl) (fun s => w0 = .next s) (sa222s2_0) (Ra222s2_0) ?_ fun z0 hs0 => ?_
 ·refine WI_blk (by kernel_rfl) ?_
  refine WI_len 13 rfl fun hl0 => ?_
  refine WI_foldI (by kernel_rfl) F222s2_l0 (st222s2_0 x0) (R222s2_0) w0 x0.board.Breakers (t6 x0.board (([] : List Int), t4 x0.power x0.acts)) hm0 rfl rfl (fun z0 hn0 => ?_) fun n0 a0 z0 w0b hi0 hx0 h hb0 hr0 => ?_
  ·clear hm0
   exact WI_end (bs := [(decide ((cnt 0 x0.board.Breakers.length) < (x0.board.Breakers.length : Int)), false)]) (φ := fun s' => w0 = .next s') (st' := (sa222s2_0)) (R' := (Ra222s2_0)) mixed lv222s2 26 [false] [] [] 7 n13_ (z0.1, z0.2.1, z0.2.2.1, z0.2.2.2.1, z0.2.2.2.2.1, z0.2.2.2.2.2.1, z0.2.2.2.2.2.2.1, z0.2.2.2.2.2.2.2.1, z0.2.2.2.2.2.2.2.2.1, z0.2.2.2.2.2.2.2.2.2.1, z0.2.2.2.2.2.2.2.2.2.2.1, z0.2.2.2.2.2.2.2.2.2.2.2) hC trivial ⟨(cnt_end hl0), trivial⟩ (by kernel_rfl) (by kernel_rfl) hn0
  ·unfold F222s2_l0 at h
   obtain ⟨y1, h2, h⟩ := bindE h
   obtain ⟨y3, h4, h⟩ := bindE h
   refine WI_stop (bs := [(decide ((cnt 0 n0) < (x0.board.Breakers.length : Int)), true)]) mixed lv222s2 32 [true] [.row (x0.board.Breakers.map q66) (cnt 0 n0) (q66 a0), .row (z0.2.2.2.2.2.2.2.1.map pB) (cnt 0 n0) (pB y1), .row (z0.2.2.2.2.2.2.2.1.map pB) (((Int.toNat (cnt 0 n0)) : Nat) : Int) (pB y1), .whenR [(y1, true)] (.call 224 [.agg (d66 a0), .d (.o 0 0)] [.box 198 [.o 1 0], .box 244 [I z0.1, DS q66 z0.2.1, DS q57 z0.2.2.1, DS q108 z0.2.2.2.1, I z0.2.2.2.2.1, I z0.2.2.2.2.2.1, .os 2, .os 3, .os 4, .os 5, .os 6], .sl 4 1 (z0.2.2.2.2.2.2.2.1.map pB), .sl 59 4 (z0.2.2.2.2.2.2.2.2.1.map q59), .sl 3 1 (z0.2.2.2.2.2.2.2.2.2.1.map pI), .sl 119 2 (z0.2.2.2.2.2.2.2.2.2.2.1.map q119), .sl 42 3 (z0.2.2.2.2.2.2.2.2.2.2.2.map q42)] (.d (Bo y3.1)) (.box 198 [.o 1 0] :: .box 244 (b6 y3.2.board [.os 2, .os 3, .os 4, .os 5, .os 6]) :: p4 y3.2.power [.sl 42 3 (y3.2.acts.map q42)]) [6, 0, 8, 9, 10, 11, 12])] [] 7 n13_ [(0, .d (.o 0 0)), (1, .d (.fn (.func 224) [] [.o 6 0])), (4, .d (.os 7)), (5, .d (I (cnt 0 n0))), (13, .d (DS q66 x0.board.Breakers)), (14, .d (I (x0.board.Breakers.length : Int))), (15, .d (I (cnt 0 n0))), (32, .d (Bo (y1 && y3.1)))] (.box 244 (b6 y3.2.board [.os 8, .os 9, .os 10, .os 11, .os 12]) :: .non :: .non :: .non :: .non :: .non :: .box 198 [.o 0 0] :: .sl 3 1 (z0.2.2.2.2.2.2.1.map pI) :: p4 y3.2.power [.sl 42 3 (y3.2.acts.map q42)]) hC ⟨(row_cnt hx0 hl0), row_get h2, row_getN h2, ⟨fun hg => ⟨e224s0, (k224s0 a0 (⟨(⟨z0.1, z0.2.1, z0.2.2.1, z0.2.2.2.1, z0.2.2.2.2.1, z0.2.2.2.2.2.1⟩ : api_Board), (⟨z0.2.2.2.2.2.2.2.1, z0.2.2.2.2.2.2.2.2.1, z0.2.2.2.2.2.2.2.2.2.1, z0.2.2.2.2.2.2.2.2.2.2.1⟩ : api_Power), z0.2.2.2.2.2.2.2.2.2.2.2⟩ : shed_relief) _ (guardO_get h4 hg))⟩, fun hg => by have e := guardO_not h4 hg; subst e; rfl⟩, trivial⟩ ⟨(cnt_lt hi0 hl0), trivial⟩ (by kernel_rfl) ?_
   rcases boolC ((y1 && y3.1)) with h5 | h5
   ·replace h := condT h5 h
    obtain ⟨y6, h7, h⟩ := bindE h
    exact WI_end (bs := [((y1 && y3.1), true)]) (φ := fun s' => w0b = .next s') (st' := (st222s2_0 x0 (n0 + 1))) (R' := (R222s2_0 (n0 + 1))) mixed lv222s2 25 [true] [.app (z0.2.2.2.2.2.2.1.map pI) ([cnt 0 n0].map pI) 1 (((z0.2.2.2.2.2.2.1.map pI).length + ([cnt 0 n0].map pI).length) * (8 + 1)) (y6.map pI)] [] 7 [0, 1, 2, 3, 4, 5, 6, 13, 8, 9, 10, 11, 12] (t6 y3.2.board (y6, t4 y3.2.power y3.2.acts)) hC ⟨app_get pI 1 (fun _ => rfl) h7, trivial⟩ ⟨h5, trivial⟩ (by kernel_rfl) (by kernel_rfl) (sI h).symm
   ·replace h := condF h5 h
    exact WI_end (bs := [((y1 && y3.1), false)]) (φ := fun s' => w0b = .next s') (st' := (st222s2_0 x0 (n0 + 1))) (R' := (R222s2_0 (n0 + 1))) mixed lv222s2 25 [false] [] [] 7 n13_ (t6 y3.2.board (z0.2.2.2.2.2.2.1, t4 y3.2.power y3.2.acts)) hC trivial ⟨h5, trivial⟩ (by kernel_rfl) (by kernel_rfl) (sI h).symm
 ·have h := hnext0 _ hs0
  refine WI_stop (bs := []) mixed lv222s2 23 [] [.len ((z0.2.2.2.2.2.2.1.map pI).length : Int) (z0.2.2.2.2.2.2.1.length : Int)] [] 7 n13_ (st222s2_1 z0 0 (z0.1, z0.2.1, z0.2.2.1, z0.2.2.2.1, z0.2.2.2.2.1, z0.2.2.2.2.2.1, z0.2.2.2.2.2.2.2.1, z0.2.2.2.2.2.2.2.2.1, z0.2.2.2.2.2.2.2.2.2.1, z0.2.2.2.2.2.2.2.2.2.2.1, z0.2.2.2.2.2.2.2.2.2.2.2)) (R222s2_1 z0 0 (z0.1, z0.2.1, z0.2.2.1, z0.2.2.2.1, z0.2.2.2.2.1, z0.2.2.2.2.2.1, z0.2.2.2.2.2.2.2.1, z0.2.2.2.2.2.2.2.2.1, z0.2.2.2.2.2.2.2.2.2.1, z0.2.2.2.2.2.2.2.2.2.2.1, z0.2.2.2.2.2.2.2.2.2.2.2)) hC ⟨len_map _ _, trivial⟩ trivial (by kernel_rfl) ?_
  obtain ⟨w1, hm1, hret1, hnext1⟩ := andThen_inv h
  clear h
  refine WI_cut (by kernel_rfl) (fun s => w1 = .next s) (sa222s2_1) (Ra222s2_1) ?_ fun z1 hs1 => ?_
  ·refine WI_blk (by kernel_rfl) ?_
   refine WI_lenO 38 7 rfl rfl fun hl1 => ?_
   refine WI_foldI (by kernel_rfl) F222s2_l1 (st222s2_1 z0) (R222s2_1 z0) w1 z0.2.2.2.2.2.2.1 (z0.1, z0.2.1, z0.2.2.1, z0.2.2.2.1, z0.2.2.2.2.1, z0.2.2.2.2.2.1, z0.2.2.2.2.2.2.2.1, z0.2.2.2.2.2.2.2.2.1, z0.2.2.2.2.2.2.2.2.2.1, z0.2.2.2.2.2.2.2.2.2.2.1, z0.2.2.2.2.2.2.2.2.2.2.2) hm1 rfl rfl (fun z1 hn1 => ?_) fun n1 a1 z1 w1b hi1 hx1 h hb1 hr1 => ?_
   ·clear hm1
    exact WI_end (bs := [(decide ((cnt 0 z0.2.2.2.2.2.2.1.length) < (z0.2.2.2.2.2.2.1.length : Int)), false)]) (φ := fun s' => w1 = .next s') (st' := (sa222s2_1)) (R' := (Ra222s2_1)) mixed lv222s2 26 [false] [] [] 7 [0, 1, 2, 3, 4, 5, 6, 8, 9, 10, 11, 12] (z1.1, z1.2.1, z1.2.2.1, z1.2.2.2.1, z1.2.2.2.2.1, z1.2.2.2.2.2.1, z1.2.2.2.2.2.2.1, z1.2.2.2.2.2.2.2.1, z1.2.2.2.2.2.2.2.2.1, z1.2.2.2.2.2.2.2.2.2.1, z1.2.2.2.2.2.2.2.2.2.2) hC trivial ⟨(cnt_end hl1), trivial⟩ (by kernel_rfl) (by kernel_rfl) hn1
   ·unfold F222s2_l1 at h
    obtain ⟨y8, h9, h⟩ := bindE h
    exact WI_end (bs := [(decide ((cnt 0 n1) < (z0.2.2.2.2.2.2.1.length : Int)), true)]) (φ := fun s' => w1b = .next s') (st' := (st222s2_1 z0 (n1 + 1))) (R' := (R222s2_1 z0 (n1 + 1))) mixed lv222s2 33 [true] [.row (z0.2.2.2.2.2.2.1.map pI) (cnt 0 n1) (pI a1), .row (z0.2.2.2.2.2.2.1.map pI) (((Int.toNat (cnt 0 n1)) : Nat) : Int) (pI a1), .call 255 [.d (.o 0 0), .d (I a1)] [.box 244 [I z1.1, DS q66 z1.2.1, DS q57 z1.2.2.1, DS q108 z1.2.2.2.1, I z1.2.2.2.2.1, I z1.2.2.2.2.2.1, .os 1, .os 2, .os 3, .os 4, .os 5], .sl 4 1 (z1.2.2.2.2.2.2.1.map pB), .sl 59 4 (z1.2.2.2.2.2.2.2.1.map q59), .sl 3 1 (z1.2.2.2.2.2.2.2.2.1.map pI), .sl 119 2 (z1.2.2.2.2.2.2.2.2.2.1.map q119), .sl 42 3 (z1.2.2.2.2.2.2.2.2.2.2.map q42)] (.tup []) (.box 244 (b6 y8.board [.os 1, .os 2, .os 3, .os 4, .os 6]) :: p4 y8.power [.non, .sl 42 3 (y8.acts.map q42)]) [0, 8, 9, 10, 11, 12]] [] 7 [0, 1, 2, 3, 4, 5, 6, 7, 8, 9, 10, 11, 13] (t6 y8.board (t4 y8.power y8.acts)) hC ⟨row_get (get_cnt hx1 hl1), row_getN (get_cnt hx1 hl1), ⟨e255s1, (k255s1 (⟨(⟨z1.1, z1.2.1, z1.2.2.1, z1.2.2.2.1, z1.2.2.2.2.1, z1.2.2.2.2.2.1⟩ : api_Board), (⟨z1.2.2.2.2.2.2.1, z1.2.2.2.2.2.2.2.1, z1.2.2.2.2.2.2.2.2.1, z1.2.2.2.2.2.2.2.2.2.1⟩ : api_Power), z1.2.2.2.2.2.2.2.2.2.2⟩ : shed_relief) a1 _ h9)⟩, trivial⟩ ⟨(cnt_lt hi1 hl1), trivial⟩ (by kernel_rfl) (by kernel_rfl) (sI h).symm
  ·have h := hnext1 _ hs1
   replace h := sI h
   subst h
   exact WI_endF (bs := []) mixed lv222s2 20 [] [] [] [] 7 n12_ rfl hC trivial trivial (by kernel_rfl) (by kernel_rfl)
theorem e222s2 : Enters Tryz.prog 222 := Go.SL.enters_of Tryz.func222 (by kernel_rfl) (by kernel_rfl)
def lv227s2 : List Nat := [0, 1, 2, 7, 8, 9, 10, 11, 12, 38]
def st227s2_0 (x1 : List Int) (x2 : Int) (n0 : Nat) (z0 : (List Int) × (List api_Act)) : St := [(0, .d (.o 0 0)), (2, .d (I x2)), (9, .d (.os 6)), (10, .d (I (x1.length : Int))), (11, .d (I (cnt 0 n0)))]
def R227s2_0 (x0 : shed_relief) (x1 : List Int) (n0 : Nat) (z0 : (List Int) × (List api_Act)) : List Res := [.box 244 (b6 x0.board [.os 7, .os 8, .os 9, .os 10, .os 11]), .non, .non, .non, .non, .non, .sl 3 1 (x1.map pI), .sl 4 1 (x0.power.Closed.map pB), .sl 59 4 (x0.power.Sources.map q59), .sl 3 1 (z0.1.map pI), .sl 119 2 (x0.power.Broken.map q119), .sl 42 3 (z0.2.map q42)]
def sa227s2_0  (z0 : (List Int) × (List api_Act)) : St := []
def Ra227s2_0 (x0 : shed_relief) (x1 : List Int) (z0 : (List Int) × (List api_Act)) : List Res := [.box 244 (b6 x0.board [.os 7, .os 8, .os 9, .os 10, .os 11]), .non, .non, .non, .non, .non, .sl 3 1 (x1.map pI), .sl 4 1 (x0.power.Closed.map pB), .sl 59 4 (x0.power.Sources.map q59), .sl 3 1 (z0.1.map pI), .sl 119 2 (x0.power.Broken.map q119), .sl 42 3 (z0.2.map q42)]
theorem k227s2 (x0 : shed_relief) (x1 : List Int) (x2 : Int) (r : shed_relief) (h : F227s2 x0 x1 x2 = some r) : CallOk Tryz.prog 227 [.d (.o 0 0), .d (.os 6), .d (I x2)] (.box 244 (b6 x0.board [.os 1, .os 2, .os 3, .os 4, .os 5]) :: p4 x0.power [.sl 42 3 (x0.acts.map q42), .sl 3 1 (x1.map pI)]) (.tup []) (.box 244 (b6 r.board [.os 7, .os 8, .os 9, .os 10, .os 11]) :: .non :: .non :: .non :: .non :: .non :: .sl 3 1 (x1.map pI) :: p4 r.power [.sl 42 3 (r.acts.map q42)]) := by
 unfold F227s2 at h
 refine callOk_of 70 Tryz.func227 rfl rfl rfl fun C hC => ?_
 refine WI_stop (bs := []) mixed lv227s2 23 [] [.len ((x1.map pI).length : Int) (x1.length : Int)] [.mv 1, .mv 2, .mv 3, .mv 4, .mv 5] 7 n12_ (st227s2_0 x1 x2 0 (x0.power.Limits, x0.acts)) (R227s2_0 x0 x1 0 (x0.power.Limits, x0.acts)) hC ⟨len_map _ _, trivial⟩ trivial (by kernel_rfl) ?_
 obtain ⟨w0, hm0, hret0, hnext0⟩ := andThen_inv h
 clear h
 refine WI_cut (by kernel_rfl) (fun s => w0 = .next s) (sa227s2_0) (Ra227s2_0 x0 x1) ?_ fun z0 hs0 => ?_
 ·refine WI_blk (by kernel_rfl) ?_
  refine WI_lenO 9 6 rfl rfl fun hl0 => ?_
  refine WI_foldI (by kernel_rfl) (F227s2_l0 x0 x2) (st227s2_0 x1 x2) (R227s2_0 x0 x1) w0 x1 (x0.power.Limits, x0.acts) hm0 rfl rfl (fun z0 hn0 => ?_) fun n0 a0 z0 w0b hi0 hx0 h hb0 hr0 => ?_
  ·clear hm0
   exact WI_end (bs := [(decide ((cnt 0 x1.length) < (x1.length : Int)), false)]) (φ := fun s' => w0 = .next s') (st' := (sa227s2_0)) (R' := (Ra227s2_0 x0 x1)) mixed lv227s2 26 [false] [] [] 7 n12_ (z0.1, z0.2) hC trivial ⟨(cnt_end hl0), trivial⟩ (by kernel_rfl) (by kernel_rfl) hn0
  ·unfold F227s2_l0 at h
   obtain ⟨y1, h2, h⟩ := bindE h
   obtain ⟨y3, h4, h⟩ := bindE h
   obtain ⟨y5, h6, h⟩ := bindE h
   refine WI_stop (bs := [(decide ((cnt 0 n0) < (x1.length : Int)), true)]) mixed lv227s2 34 [true] [.row (x1.map pI) (cnt 0 n0) (pI a0), .row (x1.map pI) (((Int.toNat (cnt 0 n0)) : Nat) : Int) (pI a0), .callB 257 [.d (.ip [.v (.int .i64 x0.board.Buses), .s (x0.board.Breakers.map q66), .s (x0.board.Sources.map q57), .s (x0.board.Consumers.map q108), .v (.int .i64 x0.board.Phase), .v (.int .i64 x0.board.Frequency), .s (x0.power.Closed.map pB), .s (x0.power.Sources.map q59), .s (z0.1.map pI), .s (x0.power.Broken.map q119), .s (z0.2.map q42)]), .d (I x2)] (.d (I y1)) [[]] 0 [], .row (z0.1.map pI) a0 (pI y3), .row (z0.1.map pI) (((Int.toNat a0) : Nat) : Int) (pI y3), .row (x0.board.Consumers.map q108) a0 (q108 y5)] [] 7 n12_ [(0, .d (.o 0 0)), (2, .d (I x2)), (7, .d (I a0)), (8, .d (I (min y1 (w64 (y3 - y5.Least))))), (9, .d (.os 6)), (10, .d (I (x1.length : Int))), (11, .d (I (cnt 0 n0))), (38, .d (Bo (c227s2_2 y1 y3 y5)))] [.box 244 (b6 x0.board [.os 7, .os 8, .os 9, .os 10, .os 11]), .non, .non, .non, .non, .non, .sl 3 1 (x1.map pI), .sl 4 1 (x0.power.Closed.map pB), .sl 59 4 (x0.power.Sources.map q59), .sl 3 1 (z0.1.map pI), .sl 119 2 (x0.power.Broken.map q119), .sl 42 3 (z0.2.map q42)] hC ⟨row_get (get_cnt hx0 hl0), row_getN (get_cnt hx0 hl0), lend0_get ⟨e257s0, (k257s0 (⟨x0.board, (⟨x0.power.Closed, x0.power.Sources, z0.1, x0.power.Broken⟩ : api_Power), z0.2⟩ : shed_relief) x2 _ h2)⟩, row_get h4, row_getN h4, row_get h6, trivial⟩ ⟨(cnt_lt hi0 hl0), trivial⟩ (by kernel_rfl) ?_
   rcases boolC ((c227s2_2 y1 y3 y5)) with h7 | h7
   ·replace h := condT h7 h
    obtain ⟨y8, h9, h⟩ := bindE h
    obtain ⟨y10, h11, h⟩ := bindE h
    obtain ⟨y12, h13, h⟩ := bindE h
    exact WI_end (bs := [((c227s2_2 y1 y3 y5), true)]) (φ := fun s' => w0b = .next s') (st' := (st227s2_0 x1 x2 (n0 + 1))) (R' := (R227s2_0 x0 x1 (n0 + 1))) mixed lv227s2 27 [true] [.row (z0.1.map pI) a0 (pI y3), .row (z0.1.map pI) (((Int.toNat a0) : Nat) : Int) (pI y3), .row (z0.1.map pI) a0 (pI y3), .upd (z0.1.map pI) (Int.toNat a0) (pI y3) (pI (w64 (y3 - (min y1 (w64 (y3 - y5.Least)))))) (y8.map pI), .row (y8.map pI) a0 (pI y10), .row (y8.map pI) (((Int.toNat a0) : Nat) : Int) (pI y10), .app (z0.2.map q42) ([(⟨5, a0, y10⟩ : api_Act)].map q42) 3 (((z0.2.map q42).length + ([(⟨5, a0, y10⟩ : api_Act)].map q42).length) * (24 + 1)) (y12.map q42)] [] 7 [0, 1, 2, 3, 4, 5, 6, 7, 8, 9, 10, 12] (y8, y12) hC ⟨row_get h4, row_getN h4, row_get h4, upd_get h4 h9, row_get h11, row_getN h11, app_get q42 3 (fun _ => rfl) h13, trivial⟩ ⟨h7, trivial⟩ (by kernel_rfl) (by kernel_rfl) (sI h).symm
   ·replace h := condF h7 h
    exact WI_end (bs := [((c227s2_2 y1 y3 y5), false)]) (φ := fun s' => w0b = .next s') (st' := (st227s2_0 x1 x2 (n0 + 1))) (R' := (R227s2_0 x0 x1 (n0 + 1))) mixed lv227s2 25 [false] [] [] 7 n12_ (z0.1, z0.2) hC trivial ⟨h7, trivial⟩ (by kernel_rfl) (by kernel_rfl) (sI h).symm
 ·have h := hnext0 _ hs0
  replace h := sI h
  subst h
  exact WI_endF (bs := []) mixed lv227s2 20 [] [] [] [] 7 n12_ rfl hC trivial trivial (by kernel_rfl) (by kernel_rfl)
theorem e227s2 : Enters Tryz.prog 227 := Go.SL.enters_of Tryz.func227 (by kernel_rfl) (by kernel_rfl)
def lv228s1 : List Nat := [0, 1, 2, 7, 8, 9, 10, 11, 28]
def st228s1_0 (x1 : List Int) (x2 : Int) (n0 : Nat) (z0 : Sg6) : St := [(0, .d (.o 0 0)), (2, .d (I x2)), (8, .d (.os 6)), (9, .d (I (x1.length : Int))), (10, .d (I (cnt 0 n0)))]
def R228s1_0 (x1 : List Int) (n0 : Nat) (z0 : Sg6) : List Res := [.box 244 [I z0.1, DS q66 z0.2.1, DS q57 z0.2.2.1, DS q108 z0.2.2.2.1, I z0.2.2.2.2.1, I z0.2.2.2.2.2.1, .os 7, .os 8, .os 9, .os 10, .os 11], .non, .non, .non, .non, .non, .sl 3 1 (x1.map pI), .sl 4 1 (z0.2.2.2.2.2.2.1.map pB), .sl 59 4 (z0.2.2.2.2.2.2.2.1.map q59), .sl 3 1 (z0.2.2.2.2.2.2.2.2.1.map pI), .sl 119 2 (z0.2.2.2.2.2.2.2.2.2.1.map q119), .sl 42 3 (z0.2.2.2.2.2.2.2.2.2.2.map q42)]
def sa228s1_0  (z0 : Sg6) : St := []
def Ra228s1_0 (x1 : List Int) (z0 : Sg6) : List Res := [.box 244 [I z0.1, DS q66 z0.2.1, DS q57 z0.2.2.1, DS q108 z0.2.2.2.1, I z0.2.2.2.2.1, I z0.2.2.2.2.2.1, .os 7, .os 8, .os 9, .os 10, .os 11], .non, .non, .non, .non, .non, .sl 3 1 (x1.map pI), .sl 4 1 (z0.2.2.2.2.2.2.1.map pB), .sl 59 4 (z0.2.2.2.2.2.2.2.1.map q59), .sl 3 1 (z0.2.2.2.2.2.2.2.2.1.map pI), .sl 119 2 (z0.2.2.2.2.2.2.2.2.2.1.map q119), .sl 42 3 (z0.2.2.2.2.2.2.2.2.2.2.map q42)]
theorem k228s1 (x0 : shed_relief) (x1 : List Int) (x2 : Int) (r : shed_relief) (h : F228s1 x0 x1 x2 = some r) : CallOk Tryz.prog 228 [.d (.o 0 0), .d (.os 6), .d (I x2)] (.box 244 (b6 x0.board [.os 1, .os 2, .os 3, .os 4, .os 5]) :: p4 x0.power [.sl 42 3 (x0.acts.map q42), .sl 3 1 (x1.map pI)]) (.tup []) (.box 244 (b6 r.board [.os 7, .os 8, .os 9, .os 10, .os 11]) :: .non :: .non :: .non :: .non :: .non :: .sl 3 1 (x1.map pI) :: p4 r.power [.sl 42 3 (r.acts.map q42)]) := by
 unfold F228s1 at h
 refine callOk_of 33 Tryz.func228 rfl rfl rfl fun C hC => ?_
 refine WI_stop (bs := []) mixed lv228s1 23 [] [.len ((x1.map pI).length : Int) (x1.length : Int)] [.mv 1, .mv 2, .mv 3, .mv 4, .mv 5] 7 n12_ (st228s1_0 x1 x2 0 (t6 x0.board (t4 x0.power x0.acts))) (R228s1_0 x1 0 (t6 x0.board (t4 x0.power x0.acts))) hC ⟨len_map _ _, trivial⟩ trivial (by kernel_rfl) ?_
 obtain ⟨w0, hm0, hret0, hnext0⟩ := andThen_inv h
 clear h
 refine WI_cut (by kernel_rfl) (fun s => w0 = .next s) (sa228s1_0) (Ra228s1_0 x1) ?_ fun z0 hs0 => ?_
 ·refine WI_blk (by kernel_rfl) ?_
  refine WI_lenO 8 6 rfl rfl fun hl0 => ?_
  refine WI_foldI (by kernel_rfl) (F228s1_l0 x2) (st228s1_0 x1 x2) (R228s1_0 x1) w0 x1 (t6 x0.board (t4 x0.power x0.acts)) hm0 rfl rfl (fun z0 hn0 => ?_) fun n0 a0 z0 w0b hi0 hx0 h hb0 hr0 => ?_
  ·clear hm0
   exact WI_end (bs := [(decide ((cnt 0 x1.length) < (x1.length : Int)), false)]) (φ := fun s' => w0 = .next s') (st' := (sa228s1_0)) (R' := (Ra228s1_0 x1)) mixed lv228s1 26 [false] [] [] 7 n12_ (z0.1, z0.2.1, z0.2.2.1, z0.2.2.2.1, z0.2.2.2.2.1, z0.2.2.2.2.2.1, z0.2.2.2.2.2.2.1, z0.2.2.2.2.2.2.2.1, z0.2.2.2.2.2.2.2.2.1, z0.2.2.2.2.2.2.2.2.2.1, z0.2.2.2.2.2.2.2.2.2.2) hC trivial ⟨(cnt_end hl0), trivial⟩ (by kernel_rfl) (by kernel_rfl) hn0
  ·unfold F228s1_l0 at h
   obtain ⟨y1, h2, h⟩ := bindE h
   obtain ⟨y3, h4, h⟩ := bindE h
   refine WI_stop (bs := [(decide ((cnt 0 n0) < (x1.length : Int)), true)]) mixed lv228s1 32 [true] [.row (x1.map pI) (cnt 0 n0) (pI a0), .row (x1.map pI) (((Int.toNat (cnt 0 n0)) : Nat) : Int) (pI a0), .row (z0.2.2.2.2.2.2.2.2.1.map pI) a0 (pI y1), .row (z0.2.2.2.2.2.2.2.2.1.map pI) (((Int.toNat a0) : Nat) : Int) (pI y1), .when [(decide (y1 > 0), true)] (.callB 257 [.d (.ip [.v (.int .i64 z0.1), .s (z0.2.1.map q66), .s (z0.2.2.1.map q57), .s (z0.2.2.2.1.map q108), .v (.int .i64 z0.2.2.2.2.1), .v (.int .i64 z0.2.2.2.2.2.1), .s (z0.2.2.2.2.2.2.1.map pB), .s (z0.2.2.2.2.2.2.2.1.map q59), .s (z0.2.2.2.2.2.2.2.2.1.map pI), .s (z0.2.2.2.2.2.2.2.2.2.1.map q119), .s (z0.2.2.2.2.2.2.2.2.2.2.map q42)]), .d (I x2)] (.d (I y3)) [[]] 0 [])] [] 7 n13_ [(0, .d (.o 0 0)), (2, .d (I x2)), (7, .d (.o 12 0)), (8, .d (.os 6)), (9, .d (I (x1.length : Int))), (10, .d (I (cnt 0 n0))), (28, .d (Bo ((decide (y1 > 0)) && (decide (y3 > 0)))))] [.box 244 [I z0.1, DS q66 z0.2.1, DS q57 z0.2.2.1, DS q108 z0.2.2.2.1, I z0.2.2.2.2.1, I z0.2.2.2.2.2.1, .os 7, .os 8, .os 9, .os 10, .os 11], .non, .non, .non, .non, .non, .sl 3 1 (x1.map pI), .sl 4 1 (z0.2.2.2.2.2.2.1.map pB), .sl 59 4 (z0.2.2.2.2.2.2.2.1.map q59), .sl 3 1 (z0.2.2.2.2.2.2.2.2.1.map pI), .sl 119 2 (z0.2.2.2.2.2.2.2.2.2.1.map q119), .sl 42 3 (z0.2.2.2.2.2.2.2.2.2.2.map q42), .box 3 [I a0]] hC ⟨row_get (get_cnt hx0 hl0), row_getN (get_cnt hx0 hl0), row_get h2, row_getN h2, fun hg => lend0_get ⟨e257s0, (k257s0 (⟨(⟨z0.1, z0.2.1, z0.2.2.1, z0.2.2.2.1, z0.2.2.2.2.1, z0.2.2.2.2.2.1⟩ : api_Board), (⟨z0.2.2.2.2.2.2.1, z0.2.2.2.2.2.2.2.1, z0.2.2.2.2.2.2.2.2.1, z0.2.2.2.2.2.2.2.2.2.1⟩ : api_Power), z0.2.2.2.2.2.2.2.2.2.2⟩ : shed_relief) x2 _ (guardO_get h4 hg))⟩, trivial⟩ ⟨(cnt_lt hi0 hl0), trivial⟩ (by kernel_rfl) ?_
   rcases boolC (((decide (y1 > 0)) && (decide (y3 > 0)))) with h5 | h5
   ·replace h := condT h5 h
    obtain ⟨y6, h7, h⟩ := bindE h
    exact WI_end (bs := [(((decide (y1 > 0)) && (decide (y3 > 0))), true)]) (φ := fun s' => w0b = .next s') (st' := (st228s1_0 x1 x2 (n0 + 1))) (R' := (R228s1_0 x1 (n0 + 1))) mixed lv228s1 25 [true] [.call 222 [.d (.o 0 0), .d (.fn (.func 258) [] [.o 6 0])] [.box 244 [I z0.1, DS q66 z0.2.1, DS q57 z0.2.2.1, DS q108 z0.2.2.2.1, I z0.2.2.2.2.1, I z0.2.2.2.2.2.1, .os 1, .os 2, .os 3, .os 4, .os 5], .sl 4 1 (z0.2.2.2.2.2.2.1.map pB), .sl 59 4 (z0.2.2.2.2.2.2.2.1.map q59), .sl 3 1 (z0.2.2.2.2.2.2.2.2.1.map pI), .sl 119 2 (z0.2.2.2.2.2.2.2.2.2.1.map q119), .sl 42 3 (z0.2.2.2.2.2.2.2.2.2.2.map q42), .box 3 [I a0]] (.tup []) (.box 244 (b6 y6.1.board [.os 7, .os 8, .os 9, .os 10, .os 11]) :: .non :: .non :: .non :: .non :: .non :: .box 3 [I y6.2] :: p4 y6.1.power [.sl 42 3 (y6.1.acts.map q42)]) [0, 7, 8, 9, 10, 11, 12]] [] 7 [0, 1, 2, 3, 4, 5, 6, 13, 14, 15, 16, 17] (t6 y6.1.board (t4 y6.1.power y6.1.acts)) hC ⟨⟨e222s5, (k222s5 (⟨(⟨z0.1, z0.2.1, z0.2.2.1, z0.2.2.2.1, z0.2.2.2.2.1, z0.2.2.2.2.2.1⟩ : api_Board), (⟨z0.2.2.2.2.2.2.1, z0.2.2.2.2.2.2.2.1, z0.2.2.2.2.2.2.2.2.1, z0.2.2.2.2.2.2.2.2.2.1⟩ : api_Power), z0.2.2.2.2.2.2.2.2.2.2⟩ : shed_relief) a0 _ h7)⟩, trivial⟩ ⟨h5, trivial⟩ (by kernel_rfl) (by kernel_rfl) (sI h).symm
   ·replace h := condF h5 h
    exact WI_end (bs := [(((decide (y1 > 0)) && (decide (y3 > 0))), false)]) (φ := fun s' => w0b = .next s') (st' := (st228s1_0 x1 x2 (n0 + 1))) (R' := (R228s1_0 x1 (n0 + 1))) mixed lv228s1 25 [false] [] [] 7 n12_ (z0.1, z0.2.1, z0.2.2.1, z0.2.2.2.1, z0.2.2.2.2.1, z0.2.2.2.2.2.1, z0.2.2.2.2.2.2.1, z0.2.2.2.2.2.2.2.1, z0.2.2.2.2.2.2.2.2.1, z0.2.2.2.2.2.2.2.2.2.1, z0.2.2.2.2.2.2.2.2.2.2) hC trivial ⟨h5, trivial⟩ (by kernel_rfl) (by kernel_rfl) (sI h).symm
 ·have h := hnext0 _ hs0
  replace h := sI h
  subst h
  exact WI_endF (bs := []) mixed lv228s1 20 [] [] [] [] 7 n12_ rfl hC trivial trivial (by kernel_rfl) (by kernel_rfl)
theorem e228s1 : Enters Tryz.prog 228 := Go.SL.enters_of Tryz.func228 (by kernel_rfl) (by kernel_rfl)
def lv85s1 : List Nat := [0, 2, 3, 4, 6, 11, 12, 13, 14, 46, 52, 53, 54, 55]
def st85s1_0 (x0 : restore_planner) (n0 : Nat) (z0 : (List Int)) : St := [(0, .d (.o 0 0)), (2, .d (.os 7)), (11, .d (DS q66 x0.board.Breakers)), (12, .d (I (x0.board.Breakers.length : Int))), (13, .d (I (cnt 0 n0)))]
def R85s1_0 (x0 : restore_planner) (n0 : Nat) (z0 : (List Int)) : List Res := (.box 144 (b6 x0.board [.os 8, .os 9, .os 10, .os 11, .os 12, .os 13]) :: .non :: .non :: .non :: .non :: .non :: .non :: .sl 3 1 (z0.map pI) :: p4 x0.power [.sl 4 1 (x0.goal.map pB), .sl 42 3 (x0.acts.map q42)])
def sa85s1_0  (z0 : (List Int)) : St := [(0, .d (.o 0 0)), (2, .d (.os 7))]
def Ra85s1_0 (x0 : restore_planner) (z0 : (List Int)) : List Res := (.box 144 (b6 x0.board [.os 8, .os 9, .os 10, .os 11, .os 12, .os 13]) :: .non :: .non :: .non :: .non :: .non :: .non :: .sl 3 1 (z0.map pI) :: p4 x0.power [.sl 4 1 (x0.goal.map pB), .sl 42 3 (x0.acts.map q42)])
def st85s1_1 (z0 : (List Int)) (n1 : Nat) (z1 : Sg5) : St := [(0, .d (.o 0 0)), (52, .d (.os 7)), (53, .d (I (z0.length : Int))), (54, .d (I (cnt 0 n1)))]
def R85s1_1 (z0 : (List Int)) (n1 : Nat) (z1 : Sg5) : List Res := [.box 144 [I z1.1, DS q66 z1.2.1, DS q57 z1.2.2.1, DS q108 z1.2.2.2.1, I z1.2.2.2.2.1, I z1.2.2.2.2.2.1, .os 8, .os 9, .os 10, .os 11, .os 12, .os 13], .non, .non, .non, .non, .non, .non, .sl 3 1 (z0.map pI), .sl 4 1 (z1.2.2.2.2.2.2.1.map pB), .sl 59 4 (z1.2.2.2.2.2.2.2.1.map q59), .sl 3 1 (z1.2.2.2.2.2.2.2.2.1.map pI), .sl 119 2 (z1.2.2.2.2.2.2.2.2.2.1.map q119), .sl 4 1 (z1.2.2.2.2.2.2.2.2.2.2.1.map pB), .sl 42 3 (z1.2.2.2.2.2.2.2.2.2.2.2.map q42)]
def sa85s1_1  (z1 : Sg5) : St := []
def Ra85s1_1  (z1 : Sg5) : List Res := [.box 144 [I z1.1, DS q66 z1.2.1, DS q57 z1.2.2.1, DS q108 z1.2.2.2.1, I z1.2.2.2.2.1, I z1.2.2.2.2.2.1, .os 7, .os 8, .os 9, .os 10, .os 11, .os 12], .non, .non, .non, .non, .non, .non, .sl 4 1 (z1.2.2.2.2.2.2.1.map pB), .sl 59 4 (z1.2.2.2.2.2.2.2.1.map q59), .sl 3 1 (z1.2.2.2.2.2.2.2.2.1.map pI), .sl 119 2 (z1.2.2.2.2.2.2.2.2.2.1.map q119), .sl 4 1 (z1.2.2.2.2.2.2.2.2.2.2.1.map pB), .sl 42 3 (z1.2.2.2.2.2.2.2.2.2.2.2.map q42)]
theorem k85s1 (x0 : restore_planner) (r : restore_planner) (h : F85s1 x0 = some r) : CallOk Tryz.prog 85 [.d (.o 0 0)] (.box 144 (b6 x0.board [.os 1, .os 2, .os 3, .os 4, .os 5, .os 6]) :: p4 x0.power [.sl 4 1 (x0.goal.map pB), .sl 42 3 (x0.acts.map q42)]) (.tup []) (.box 144 (b6 r.board [.os 7, .os 8, .os 9, .os 10, .os 11, .os 12]) :: .non :: .non :: .non :: .non :: .non :: .non :: p4 r.power [.sl 4 1 (r.goal.map pB), .sl 42 3 (r.acts.map q42)]) := by
 unfold F85s1 at h
 refine callOk_of 62 Tryz.func85 rfl rfl rfl fun C hC => ?_
 refine WI_stop (bs := []) mixed lv85s1 26 [] [.len ((x0.board.Breakers.map q66).length : Int) (x0.board.Breakers.length : Int)] [.own 2 3 1, .mv 1, .mv 2, .mv 3, .mv 4, .mv 5, .mv 6] 7 n14_ (st85s1_0 x0 0 ([] : List Int)) (R85s1_0 x0 0 ([] : List Int)) hC ⟨len_map _ _, trivial⟩ trivial (by kernel_rfl) ?_
 obtain ⟨w0, hm0, hret0, hnext0⟩ := andThen_inv h
 clear h
 refine WI_cut (by kernel_rfl) (fun s => w0 = .next s) (sa85s1_0) (Ra85s1_0 x0) ?_ fun z0 hs0 => ?_
 ·refine WI_blk (by kernel_rfl) ?_
  refine WI_len 11 rfl fun hl0 => ?_
  refine WI_foldI (by kernel_rfl) (F85s1_l0 x0) (st85s1_0 x0) (R85s1_0 x0) w0 x0.board.Breakers ([] : List Int) hm0 rfl rfl (fun z0 hn0 => ?_) fun n0 a0 z0 w0b hi0 hx0 h hb0 hr0 => ?_
  ·clear hm0
   exact WI_end (bs := [(decide ((cnt 0 x0.board.Breakers.length) < (x0.board.Breakers.length : Int)), false)]) (φ := fun s' => w0 = .next s') (st' := (sa85s1_0)) (R' := (Ra85s1_0 x0)) mixed lv85s1 26 [false] [] [] 7 n14_ z0 hC trivial ⟨(cnt_end hl0), trivial⟩ (by kernel_rfl) (by kernel_rfl) hn0
  ·unfold F85s1_l0 at h
   obtain ⟨y1, h2, h⟩ := bindE h
   obtain ⟨y3, h4, h⟩ := bindE h
   obtain ⟨y5, h6, h⟩ := bindE h
   refine WI_stop (bs := [(decide ((cnt 0 n0) < (x0.board.Breakers.length : Int)), true)]) mixed lv85s1 32 [true] [.row (x0.board.Breakers.map q66) (cnt 0 n0) (q66 a0), .when [((a0.Kind != 2), true)] (.row (x0.power.Closed.map pB) (cnt 0 n0) (pB y1)), .when [((a0.Kind != 2), true)] (.row (x0.power.Closed.map pB) (((Int.toNat (cnt 0 n0)) : Nat) : Int) (pB y1)), .when [(((a0.Kind != 2) && y1), true)] (.callB 134 [.agg (d35 x0.power), .d (I 2), .d (I (cnt 0 n0))] (.d (Bo y3)) [[]] 0 []), .when [((((a0.Kind != 2) && y1) && (!y3)), true)] (.callB 164 [.d (.ip [.v (.int .i64 x0.board.Buses), .s (x0.board.Breakers.map q66), .s (x0.board.Sources.map q57), .s (x0.board.Consumers.map q108), .v (.int .i64 x0.board.Phase), .v (.int .i64 x0.board.Frequency), .s (x0.power.Closed.map pB), .s (x0.power.Sources.map q59), .s (x0.power.Limits.map pI), .s (x0.power.Broken.map q119), .s (x0.goal.map pB), .s (x0.acts.map q42)]), .d (I a0.A)] (.d (Bo y5)) [[]] 0 [])] [] 7 n14_ [(0, .d (.o 0 0)), (2, .d (.os 7)), (3, .d (I (cnt 0 n0))), (11, .d (DS q66 x0.board.Breakers)), (12, .d (I (x0.board.Breakers.length : Int))), (13, .d (I (cnt 0 n0))), (46, .d (Bo (c85s1_2 a0 y1 y3 y5)))] (.box 144 (b6 x0.board [.os 8, .os 9, .os 10, .os 11, .os 12, .os 13]) :: .non :: .non :: .non :: .non :: .non :: .non :: .sl 3 1 (z0.map pI) :: p4 x0.power [.sl 4 1 (x0.goal.map pB), .sl 42 3 (x0.acts.map q42)]) hC ⟨(row_cnt hx0 hl0), fun hg => row_get (guardO_get h2 hg), fun hg => row_getN (guardO_get h2 hg), fun hg => lend0_get ⟨e134, (k134 x0.power 2 (cnt 0 n0) _ (guardO_get h4 hg))⟩, fun hg => lend0_get ⟨e164s0, (k164s0 x0 a0.A _ (guardO_get h6 hg))⟩, trivial⟩ ⟨(cnt_lt hi0 hl0), trivial⟩ (by kernel_rfl) ?_
   rcases boolC ((c85s1_2 a0 y1 y3 y5)) with h7 | h7
   ·replace h := condT h7 h
    obtain ⟨y8, h9, h⟩ := bindE h
    exact WI_end (bs := [((c85s1_2 a0 y1 y3 y5), true)]) (φ := fun s' => w0b = .next s') (st' := (st85s1_0 x0 (n0 + 1))) (R' := (R85s1_0 x0 (n0 + 1))) mixed lv85s1 25 [true] [.app (z0.map pI) ([cnt 0 n0].map pI) 1 (((z0.map pI).length + ([cnt 0 n0].map pI).length) * (8 + 1)) (y8.map pI)] [] 7 [0, 1, 2, 3, 4, 5, 6, 14, 8, 9, 10, 11, 12, 13] y8 hC ⟨app_get pI 1 (fun _ => rfl) h9, trivial⟩ ⟨h7, trivial⟩ (by kernel_rfl) (by kernel_rfl) (sI h).symm
   ·replace h := condF h7 h
    exact WI_end (bs := [((c85s1_2 a0 y1 y3 y5), false)]) (φ := fun s' => w0b = .next s') (st' := (st85s1_0 x0 (n0 + 1))) (R' := (R85s1_0 x0 (n0 + 1))) mixed lv85s1 25 [false] [] [] 7 n14_ z0 hC trivial ⟨h7, trivial⟩ (by kernel_rfl) (by kernel_rfl) (sI h).symm
 ·have h := hnext0 _ hs0
  refine WI_stop (bs := []) mixed lv85s1 23 [] [.len ((z0.map pI).length : Int) (z0.length : Int)] [] 7 n14_ (st85s1_1 z0 0 (t6 x0.board (t4 x0.power (x0.goal, x0.acts)))) (R85s1_1 z0 0 (t6 x0.board (t4 x0.power (x0.goal, x0.acts)))) hC ⟨len_map _ _, trivial⟩ trivial (by kernel_rfl) ?_
  obtain ⟨w1, hm1, hret1, hnext1⟩ := andThen_inv h
  clear h
  refine WI_cut (by kernel_rfl) (fun s => w1 = .next s) (sa85s1_1) (Ra85s1_1) ?_ fun z1 hs1 => ?_
  ·refine WI_blk (by kernel_rfl) ?_
   refine WI_lenO 52 7 rfl rfl fun hl1 => ?_
   refine WI_foldI (by kernel_rfl) F85s1_l1 (st85s1_1 z0) (R85s1_1 z0) w1 z0 (t6 x0.board (t4 x0.power (x0.goal, x0.acts))) hm1 rfl rfl (fun z1 hn1 => ?_) fun n1 a1 z1 w1b hi1 hx1 h hb1 hr1 => ?_
   ·clear hm1
    exact WI_end (bs := [(decide ((cnt 0 z0.length) < (z0.length : Int)), false)]) (φ := fun s' => w1 = .next s') (st' := (sa85s1_1)) (R' := (Ra85s1_1)) mixed lv85s1 26 [false] [] [] 7 [0, 1, 2, 3, 4, 5, 6, 8, 9, 10, 11, 12, 13] (z1.1, z1.2.1, z1.2.2.1, z1.2.2.2.1, z1.2.2.2.2.1, z1.2.2.2.2.2.1, z1.2.2.2.2.2.2.1, z1.2.2.2.2.2.2.2.1, z1.2.2.2.2.2.2.2.2.1, z1.2.2.2.2.2.2.2.2.2.1, z1.2.2.2.2.2.2.2.2.2.2.1, z1.2.2.2.2.2.2.2.2.2.2.2) hC trivial ⟨(cnt_end hl1), trivial⟩ (by kernel_rfl) (by kernel_rfl) hn1
   ·unfold F85s1_l1 at h
    obtain ⟨y10, h11, h⟩ := bindE h
    exact WI_end (bs := [(decide ((cnt 0 n1) < (z0.length : Int)), true)]) (φ := fun s' => w1b = .next s') (st' := (st85s1_1 z0 (n1 + 1))) (R' := (R85s1_1 z0 (n1 + 1))) mixed lv85s1 33 [true] [.row (z0.map pI) (cnt 0 n1) (pI a1), .row (z0.map pI) (((Int.toNat (cnt 0 n1)) : Nat) : Int) (pI a1), .call 89 [.d (.o 0 0), .d (I 2), .d (I a1)] [.box 144 [I z1.1, DS q66 z1.2.1, DS q57 z1.2.2.1, DS q108 z1.2.2.2.1, I z1.2.2.2.2.1, I z1.2.2.2.2.2.1, .os 1, .os 2, .os 3, .os 4, .os 5, .os 6], .sl 4 1 (z1.2.2.2.2.2.2.1.map pB), .sl 59 4 (z1.2.2.2.2.2.2.2.1.map q59), .sl 3 1 (z1.2.2.2.2.2.2.2.2.1.map pI), .sl 119 2 (z1.2.2.2.2.2.2.2.2.2.1.map q119), .sl 4 1 (z1.2.2.2.2.2.2.2.2.2.2.1.map pB), .sl 42 3 (z1.2.2.2.2.2.2.2.2.2.2.2.map q42)] (.tup []) (.box 144 (b6 y10.board [.os 1, .os 2, .os 3, .os 4, .os 5, .os 7]) :: p4 y10.power [.sl 4 1 (y10.goal.map pB), .non, .sl 42 3 (y10.acts.map q42)]) [0, 8, 9, 10, 11, 12, 13]] [] 7 [0, 1, 2, 3, 4, 5, 6, 7, 8, 9, 10, 11, 12, 14] (t6 y10.board (t4 y10.power (y10.goal, y10.acts))) hC ⟨row_get (get_cnt hx1 hl1), row_getN (get_cnt hx1 hl1), ⟨e89s1, (k89s1 (⟨(⟨z1.1, z1.2.1, z1.2.2.1, z1.2.2.2.1, z1.2.2.2.2.1, z1.2.2.2.2.2.1⟩ : api_Board), (⟨z1.2.2.2.2.2.2.1, z1.2.2.2.2.2.2.2.1, z1.2.2.2.2.2.2.2.2.1, z1.2.2.2.2.2.2.2.2.2.1⟩ : api_Power), z1.2.2.2.2.2.2.2.2.2.2.1, z1.2.2.2.2.2.2.2.2.2.2.2⟩ : restore_planner) 2 a1 _ h11)⟩, trivial⟩ ⟨(cnt_lt hi1 hl1), trivial⟩ (by kernel_rfl) (by kernel_rfl) (sI h).symm
  ·have h := hnext1 _ hs1
   replace h := sI h
   subst h
   exact WI_endF (bs := []) mixed lv85s1 20 [] [] [] [] 7 n13_ rfl hC trivial trivial (by kernel_rfl) (by kernel_rfl)
theorem e85s1 : Enters Tryz.prog 85 := Go.SL.enters_of Tryz.func85 (by kernel_rfl) (by kernel_rfl)
def lv86s1 : List Nat := [0, 2, 3, 4, 9, 10, 11, 12, 44, 46, 47, 71]
def st86s1_0 (x0 : restore_planner) (n0 : Nat) (z0 : Sg8) : St := [(0, .d (.o 0 0)), (2, .d (I z0.1)), (9, .d (.os 8)), (10, .d (I (x0.power.Sources.length : Int))), (11, .d (I (cnt 0 n0)))]
def R86s1_0 (x0 : restore_planner) (n0 : Nat) (z0 : Sg8) : List Res := [.box 144 (b6 x0.board [.os 7, .os 8, .os 9, .os 10, .os 11, .os 12]), .non, .non, .non, .non, .non, .non, .sl 4 1 (x0.power.Closed.map pB), .sl 59 4 (z0.2.1.map q59), .sl 3 1 (x0.power.Limits.map pI), .sl 119 2 (x0.power.Broken.map q119), .sl 4 1 (x0.goal.map pB), .sl 42 3 (z0.2.2.map q42)]
def sa86s1_0  (z0 : Sg8) : St := [(0, .d (.o 0 0)), (2, .d (I z0.1))]
def Ra86s1_0 (x0 : restore_planner) (z0 : Sg8) : List Res := [.box 144 (b6 x0.board [.os 7, .os 8, .os 9, .os 10, .os 11, .os 12]), .non, .non, .non, .non, .non, .non, .sl 4 1 (x0.power.Closed.map pB), .sl 59 4 (z0.2.1.map q59), .sl 3 1 (x0.power.Limits.map pI), .sl 119 2 (x0.power.Broken.map q119), .sl 4 1 (x0.goal.map pB), .sl 42 3 (z0.2.2.map q42)]
theorem k86s1 (x0 : restore_planner) (r : restore_planner) (h : F86s1 x0 = some r) : CallOk Tryz.prog 86 [.d (.o 0 0)] (.box 144 (b6 x0.board [.os 1, .os 2, .os 3, .os 4, .os 5, .os 6]) :: p4 x0.power [.sl 4 1 (x0.goal.map pB), .sl 42 3 (x0.acts.map q42)]) (.tup []) (.box 144 (b6 r.board [.os 7, .os 8, .os 9, .os 10, .os 11, .os 12]) :: .non :: .non :: .non :: .non :: .non :: .non :: p4 r.power [.sl 4 1 (r.goal.map pB), .sl 42 3 (r.acts.map q42)]) := by
 unfold F86s1 at h
 refine callOk_of 105 Tryz.func86 rfl rfl rfl fun C hC => ?_
 refine WI_stop (bs := []) mixed lv86s1 26 [] [.len ((x0.power.Sources.map q59).length : Int) (x0.power.Sources.length : Int)] [.mv 1, .mv 2, .mv 3, .mv 4, .mv 5, .mv 6] 7 n13_ (st86s1_0 x0 0 (0, x0.power.Sources, x0.acts)) (R86s1_0 x0 0 (0, x0.power.Sources, x0.acts)) hC ⟨len_map _ _, trivial⟩ trivial (by kernel_rfl) ?_
 obtain ⟨w0, hm0, hret0, hnext0⟩ := andThen_inv h
 clear h
 refine WI_cut (by kernel_rfl) (fun s => w0 = .next s) (sa86s1_0) (Ra86s1_0 x0) ?_ fun z0 hs0 => ?_
 ·refine WI_blk (by kernel_rfl) ?_
  refine WI_lenO 9 8 rfl rfl fun hl0 => ?_
  refine WI_foldI (by kernel_rfl) (F86s1_l0 x0) (st86s1_0 x0) (R86s1_0 x0) w0 x0.power.Sources (0, x0.power.Sources, x0.acts) hm0 rfl rfl (fun z0 hn0 => ?_) fun n0 a0 z0 w0b hi0 hx0 h hb0 hr0 => ?_
  ·clear hm0
   exact WI_end (bs := [(decide ((cnt 0 x0.power.Sources.length) < (x0.power.Sources.length : Int)), false)]) (φ := fun s' => w0 = .next s') (st' := (sa86s1_0)) (R' := (Ra86s1_0 x0)) mixed lv86s1 26 [false] [] [] 7 n13_ (z0.1, z0.2.1, z0.2.2) hC trivial ⟨(cnt_end hl0), trivial⟩ (by kernel_rfl) (by kernel_rfl) hn0
  ·unfold F86s1_l0 at h
   obtain ⟨y1, h2, h⟩ := bindE h
   obtain ⟨y3, h4, h⟩ := bindE h
   obtain ⟨y5, h6, h⟩ := bindE h
   obtain ⟨y7, h8, h⟩ := bindE h
   obtain ⟨y9, h10, h⟩ := bindE h
   refine WI_stop (bs := [(decide ((cnt 0 n0) < (x0.power.Sources.length : Int)), true)]) mixed lv86s1 33 [true] [.row (z0.2.1.map q59) (cnt 0 n0) (q59 y1), .row (z0.2.1.map q59) (((Int.toNat (cnt 0 n0)) : Nat) : Int) (q59 y1), .callB 66 [.agg (d29 x0.board), .agg [DS pB x0.power.Closed, DS q59 z0.2.1, DS pI x0.power.Limits, DS q119 x0.power.Broken], .d (I (cnt 0 n0))] (.d (Bo y3)) [[]] 0 [], .when [(!y3, false)] (.call 67 [.agg (d29 x0.board), .d (I (cnt 0 n0))] [] (.d (I y5)) [] []), .when [(!y3, false)] (.row (x0.board.Breakers.map q66) y5 (q66 y7)), .when [(!y3, false)] (.callB 164 [.d (.ip [.v (.int .i64 x0.board.Buses), .s (x0.board.Breakers.map q66), .s (x0.board.Sources.map q57), .s (x0.board.Consumers.map q108), .v (.int .i64 x0.board.Phase), .v (.int .i64 x0.board.Frequency), .s (x0.power.Closed.map pB), .s (z0.2.1.map q59), .s (x0.power.Limits.map pI), .s (x0.power.Broken.map q119), .s (x0.goal.map pB), .s (z0.2.2.map q42)]), .d (I y7.A)] (.d (Bo y9)) [[]] 0 [])] [] 7 n14_ [(0, .d (.o 0 0)), (2, .d (I z0.1)), (3, .d (I (cnt 0 n0))), (4, .d (.o 13 0)), (9, .d (.os 8)), (10, .d (I (x0.power.Sources.length : Int))), (11, .d (I (cnt 0 n0))), (44, .d (Bo ((!y3) || y9)))] [.box 144 (b6 x0.board [.os 7, .os 8, .os 9, .os 10, .os 11, .os 12]), .non, .non, .non, .non, .non, .non, .sl 4 1 (x0.power.Closed.map pB), .sl 59 4 (z0.2.1.map q59), .sl 3 1 (x0.power.Limits.map pI), .sl 119 2 (x0.power.Broken.map q119), .sl 4 1 (x0.goal.map pB), .sl 42 3 (z0.2.2.map q42), .box 59 (d59 y1)] hC ⟨row_get h2, row_getN h2, lend0_get ⟨e66, (k66 x0.board (⟨x0.power.Closed, z0.2.1, x0.power.Limits, x0.power.Broken⟩ : api_Power) (cnt 0 n0) _ h4)⟩, fun hg => ⟨e67, (k67 x0.board (cnt 0 n0) _ (guardO_get h6 hg))⟩, fun hg => row_get (guardO_get h8 hg), fun hg => lend0_get ⟨e164s0, (k164s0 (⟨x0.board, (⟨x0.power.Closed, z0.2.1, x0.power.Limits, x0.power.Broken⟩ : api_Power), x0.goal, z0.2.2⟩ : restore_planner) y7.A _ (guardO_get h10 hg))⟩, trivial⟩ ⟨(cnt_lt hi0 hl0), trivial⟩ (by kernel_rfl) ?_
   rcases boolC (((!y3) || y9)) with h11 | h11
   ·replace h := condT h11 h
    exact WI_end (bs := [(((!y3) || y9), true)]) (φ := fun s' => w0b = .next s') (st' := (st86s1_0 x0 (n0 + 1))) (R' := (R86s1_0 x0 (n0 + 1))) mixed lv86s1 24 [true] [] [] 7 n13_ (z0.1, z0.2.1, z0.2.2) hC trivial ⟨h11, trivial⟩ (by kernel_rfl) (by kernel_rfl) (sI h).symm
   ·replace h := condF h11 h
    rcases boolC ((y1.State == 0)) with h12 | h12
    ·replace h := condT h12 h
     obtain ⟨y13, h14, h⟩ := bindE h
     obtain ⟨y15, h16, h⟩ := bindE h
     obtain ⟨y17, h18, h⟩ := bindE h
     exact WI_end (bs := [(((!y3) || y9), false), ((y1.State == 0), true)]) (φ := fun s' => w0b = .next s') (st' := (st86s1_0 x0 (n0 + 1))) (R' := (R86s1_0 x0 (n0 + 1))) mixed lv86s1 37 [false, true] [.app (z0.2.2.map q42) ([(⟨3, cnt 0 n0, 0⟩ : api_Act)].map q42) 3 (((z0.2.2.map q42).length + ([(⟨3, cnt 0 n0, 0⟩ : api_Act)].map q42).length) * (24 + 1)) (y13.map q42), .row (x0.board.Sources.map q57) (cnt 0 n0) (q57 y15), .row (z0.2.1.map q59) (cnt 0 n0) (q59 y1), .upd (z0.2.1.map q59) (Int.toNat (cnt 0 n0)) (q59 y1) (q59 (⟨2, y1.Since, y1.Frequency, y1.Phase⟩ : api_Running)) (y17.map q59)] [] 7 [0, 1, 2, 3, 4, 5, 6, 7, 8, 9, 10, 11, 14] (max z0.1 y15.Start, y17, y13) hC ⟨app_get q42 3 (fun _ => rfl) h14, row_get h16, row_get h2, upd_get h2 h18, trivial⟩ ⟨h11, h12, trivial⟩ (by kernel_rfl) (by kernel_rfl) (sI h).symm
    ·replace h := condF h12 h
     rcases boolC ((y1.State == 1)) with h19 | h19
     ·replace h := condT h19 h
      obtain ⟨y20, h21, h⟩ := bindE h
      obtain ⟨y22, h23, h⟩ := bindE h
      exact WI_end (bs := [(((!y3) || y9), false), ((y1.State == 0), false), ((y1.State == 1), true)]) (φ := fun s' => w0b = .next s') (st' := (st86s1_0 x0 (n0 + 1))) (R' := (R86s1_0 x0 (n0 + 1))) mixed lv86s1 38 [false, false, true] [.row (x0.board.Sources.map q57) (cnt 0 n0) (q57 y20), .row (z0.2.1.map q59) (cnt 0 n0) (q59 y1), .upd (z0.2.1.map q59) (Int.toNat (cnt 0 n0)) (q59 y1) (q59 (⟨2, y1.Since, y1.Frequency, y1.Phase⟩ : api_Running)) (y22.map q59)] [] 7 n13_ (max (max z0.1 y20.Start) 1, y22, z0.2.2) hC ⟨row_get h21, row_get h2, upd_get h2 h23, trivial⟩ ⟨h11, h12, h19, trivial⟩ (by kernel_rfl) (by kernel_rfl) (sI h).symm
     ·replace h := condF h19 h
      obtain ⟨y24, h25, h⟩ := bindE h
      exact WI_end (bs := [(((!y3) || y9), false), ((y1.State == 0), false), ((y1.State == 1), false)]) (φ := fun s' => w0b = .next s') (st' := (st86s1_0 x0 (n0 + 1))) (R' := (R86s1_0 x0 (n0 + 1))) mixed lv86s1 38 [false, false, false] [.row (z0.2.1.map q59) (cnt 0 n0) (q59 y1), .upd (z0.2.1.map q59) (Int.toNat (cnt 0 n0)) (q59 y1) (q59 (⟨2, y1.Since, y1.Frequency, y1.Phase⟩ : api_Running)) (y24.map q59)] [] 7 n13_ (z0.1, y24, z0.2.2) hC ⟨row_get h2, upd_get h2 h25, trivial⟩ ⟨h11, h12, h19, trivial⟩ (by kernel_rfl) (by kernel_rfl) (sI h).symm
 ·have h := hnext0 _ hs0
  obtain ⟨y26, h27, h⟩ := bindE h
  obtain ⟨y28, h29, h⟩ := bindE h
  replace h := sI h
  subst h
  exact WI_endF (bs := []) mixed lv86s1 21 [] [.call 165 [.d (DS q42 [(⟨7, 0, 0⟩ : api_Act)]), .d (I z0.1)] [] (.d (.os 0)) [.sl 42 3 (y26.map q42)] [], .app (z0.2.2.map q42) (y26.map q42) 3 (((z0.2.2.map q42).length + (y26.map q42).length) * (24 + 1)) (y28.map q42)] [] [] 7 [0, 1, 2, 3, 4, 5, 6, 7, 8, 9, 10, 11, 14] rfl hC ⟨⟨e165, (k165 [(⟨7, 0, 0⟩ : api_Act)] z0.1 _ h27)⟩, app_get q42 3 (fun _ => rfl) h29, trivial⟩ trivial (by kernel_rfl) (by kernel_rfl)
theorem e86s1 : Enters Tryz.prog 86 := Go.SL.enters_of Tryz.func86 (by kernel_rfl) (by kernel_rfl)
def lv87s1 : List Nat := [0, 2, 3, 4, 9, 10, 11, 18, 19, 20, 56]
def st87s1_0 (x0 : restore_planner) (z0 : Sg10) : St := [(0, .d (.o 0 0)), (9, .d (I x0.board.Buses)), (10, .d (I z0.1))]
def R87s1_0  (z0 : Sg10) : List Res := [.box 144 [I z0.2.1, DS q66 z0.2.2.1, DS q57 z0.2.2.2.1, DS q108 z0.2.2.2.2.1, I z0.2.2.2.2.2.1, I z0.2.2.2.2.2.2.1, .os 7, .os 8, .os 9, .os 10, .os 11, .os 12], .non, .non, .non, .non, .non, .non, .sl 4 1 (z0.2.2.2.2.2.2.2.1.map pB), .sl 59 4 (z0.2.2.2.2.2.2.2.2.1.map q59), .sl 3 1 (z0.2.2.2.2.2.2.2.2.2.1.map pI), .sl 119 2 (z0.2.2.2.2.2.2.2.2.2.2.1.map q119), .sl 4 1 (z0.2.2.2.2.2.2.2.2.2.2.2.1.map pB), .sl 42 3 (z0.2.2.2.2.2.2.2.2.2.2.2.2.map q42)]
def sa87s1_0  (z0 : Sg10) : St := []
def Ra87s1_0  (z0 : Sg10) : List Res := [.box 144 [I z0.2.1, DS q66 z0.2.2.1, DS q57 z0.2.2.2.1, DS q108 z0.2.2.2.2.1, I z0.2.2.2.2.2.1, I z0.2.2.2.2.2.2.1, .os 7, .os 8, .os 9, .os 10, .os 11, .os 12], .non, .non, .non, .non, .non, .non, .sl 4 1 (z0.2.2.2.2.2.2.2.1.map pB), .sl 59 4 (z0.2.2.2.2.2.2.2.2.1.map q59), .sl 3 1 (z0.2.2.2.2.2.2.2.2.2.1.map pI), .sl 119 2 (z0.2.2.2.2.2.2.2.2.2.2.1.map q119), .sl 4 1 (z0.2.2.2.2.2.2.2.2.2.2.2.1.map pB), .sl 42 3 (z0.2.2.2.2.2.2.2.2.2.2.2.2.map q42)]
def st87s1_1 (x0 : restore_planner) (z0 : Sg10) (z1 : Sg10) : St := [(0, .d (.o 0 0)), (2, .d (I z0.1)), (9, .d (I x0.board.Buses)), (10, .d (I z0.1)), (18, .d (I (z0.2.2.2.1.length : Int))), (19, .d (I z1.1))]
def R87s1_1  (z1 : Sg10) : List Res := [.box 144 [I z1.2.1, DS q66 z1.2.2.1, DS q57 z1.2.2.2.1, DS q108 z1.2.2.2.2.1, I z1.2.2.2.2.2.1, I z1.2.2.2.2.2.2.1, .os 7, .os 8, .os 9, .os 10, .os 11, .os 12], .non, .non, .non, .non, .non, .non, .sl 4 1 (z1.2.2.2.2.2.2.2.1.map pB), .sl 59 4 (z1.2.2.2.2.2.2.2.2.1.map q59), .sl 3 1 (z1.2.2.2.2.2.2.2.2.2.1.map pI), .sl 119 2 (z1.2.2.2.2.2.2.2.2.2.2.1.map q119), .sl 4 1 (z1.2.2.2.2.2.2.2.2.2.2.2.1.map pB), .sl 42 3 (z1.2.2.2.2.2.2.2.2.2.2.2.2.map q42)]
def sa87s1_1 (x0 : restore_planner) (z0 : Sg10) (z1 : Sg10) : St := [(0, .d (.o 0 0)), (9, .d (I x0.board.Buses)), (10, .d (I z0.1))]
def Ra87s1_1  (z1 : Sg10) : List Res := [.box 144 [I z1.2.1, DS q66 z1.2.2.1, DS q57 z1.2.2.2.1, DS q108 z1.2.2.2.2.1, I z1.2.2.2.2.2.1, I z1.2.2.2.2.2.2.1, .os 7, .os 8, .os 9, .os 10, .os 11, .os 12], .non, .non, .non, .non, .non, .non, .sl 4 1 (z1.2.2.2.2.2.2.2.1.map pB), .sl 59 4 (z1.2.2.2.2.2.2.2.2.1.map q59), .sl 3 1 (z1.2.2.2.2.2.2.2.2.2.1.map pI), .sl 119 2 (z1.2.2.2.2.2.2.2.2.2.2.1.map q119), .sl 4 1 (z1.2.2.2.2.2.2.2.2.2.2.2.1.map pB), .sl 42 3 (z1.2.2.2.2.2.2.2.2.2.2.2.2.map q42)]
theorem k87s1 (x0 : restore_planner) (r : restore_planner) (h : F87s1 x0 = some r) : CallOk Tryz.prog 87 [.d (.o 0 0)] (.box 144 (b6 x0.board [.os 1, .os 2, .os 3, .os 4, .os 5, .os 6]) :: p4 x0.power [.sl 4 1 (x0.goal.map pB), .sl 42 3 (x0.acts.map q42)]) (.tup []) (.box 144 (b6 r.board [.os 7, .os 8, .os 9, .os 10, .os 11, .os 12]) :: .non :: .non :: .non :: .non :: .non :: .non :: p4 r.power [.sl 4 1 (r.goal.map pB), .sl 42 3 (r.acts.map q42)]) := by
 unfold F87s1 at h
 refine callOk_of 62 Tryz.func87 rfl rfl rfl fun C hC => ?_
 refine WI_stop (bs := []) mixed lv87s1 23 [] [] [.mv 1, .mv 2, .mv 3, .mv 4, .mv 5, .mv 6] 7 n13_ (st87s1_0 x0 (0, t6 x0.board (t4 x0.power (x0.goal, x0.acts)))) (R87s1_0 (0, t6 x0.board (t4 x0.power (x0.goal, x0.acts)))) hC trivial trivial (by kernel_rfl) ?_
 obtain ⟨w0, hm0, hret0, hnext0⟩ := andThen_inv h
 clear h
 refine WI_cut (by kernel_rfl) (fun s => w0 = .next s) (sa87s1_0) (Ra87s1_0) ?_ fun z0 hs0 => ?_
 ·refine WI_blk (by kernel_rfl) ?_
  refine WI_while (by kernel_rfl) (F87s1_l0 x0) (st87s1_0 x0) (R87s1_0) w0 1152921504606846976 (0, t6 x0.board (t4 x0.power (x0.goal, x0.acts))) hm0 rfl rfl fun z0 w0b h hb0 hr0 => ?_
  unfold F87s1_l0 at h
  rcases boolC (decide (z0.1 < x0.board.Buses)) with h1 | h1
  ·replace h := condT h1 h
   refine WI_stop (bs := [(decide (z0.1 < x0.board.Buses), true)]) mixed lv87s1 32 [true] [.len ((z0.2.2.2.1.map q57).length : Int) (z0.2.2.2.1.length : Int)] [] 7 n13_ (st87s1_1 x0 z0 (0, z0.2.1, z0.2.2.1, z0.2.2.2.1, z0.2.2.2.2.1, z0.2.2.2.2.2.1, z0.2.2.2.2.2.2.1, z0.2.2.2.2.2.2.2.1, z0.2.2.2.2.2.2.2.2.1, z0.2.2.2.2.2.2.2.2.2.1, z0.2.2.2.2.2.2.2.2.2.2.1, z0.2.2.2.2.2.2.2.2.2.2.2.1, z0.2.2.2.2.2.2.2.2.2.2.2.2)) (R87s1_1 (0, z0.2.1, z0.2.2.1, z0.2.2.2.1, z0.2.2.2.2.1, z0.2.2.2.2.2.1, z0.2.2.2.2.2.2.1, z0.2.2.2.2.2.2.2.1, z0.2.2.2.2.2.2.2.2.1, z0.2.2.2.2.2.2.2.2.2.1, z0.2.2.2.2.2.2.2.2.2.2.1, z0.2.2.2.2.2.2.2.2.2.2.2.1, z0.2.2.2.2.2.2.2.2.2.2.2.2)) hC ⟨len_map _ _, trivial⟩ ⟨h1, trivial⟩ (by kernel_rfl) ?_
   obtain ⟨w1, hm1, hret1, hnext1⟩ := andThen_inv h
   clear h
   refine WI_cut (by kernel_rfl) (fun s => w1 = .next s) (sa87s1_1 x0 z0) (Ra87s1_1) ?_ fun z1 hs1 => ?_
   ·refine WI_blk (by kernel_rfl) ?_
    refine WI_while (by kernel_rfl) (F87s1_l1 z0) (st87s1_1 x0 z0) (R87s1_1) w1 1152921504606846976 (0, z0.2.1, z0.2.2.1, z0.2.2.2.1, z0.2.2.2.2.1, z0.2.2.2.2.2.1, z0.2.2.2.2.2.2.1, z0.2.2.2.2.2.2.2.1, z0.2.2.2.2.2.2.2.2.1, z0.2.2.2.2.2.2.2.2.2.1, z0.2.2.2.2.2.2.2.2.2.2.1, z0.2.2.2.2.2.2.2.2.2.2.2.1, z0.2.2.2.2.2.2.2.2.2.2.2.2) hm1 rfl rfl fun z1 w1b h hb1 hr1 => ?_
    unfold F87s1_l1 at h
    rcases boolC ((c87s1_8 z0 z1)) with h2 | h2
    ·replace h := condT h2 h
     obtain ⟨y3, h4, h⟩ := bindE h
     obtain ⟨y5, h6, h⟩ := bindE h
     obtain ⟨y7, h8, h⟩ := bindE h
     obtain ⟨y9, h10, h⟩ := bindE h
     refine WI_stop (bs := [((c87s1_8 z0 z1), true)]) mixed lv87s1 34 [true] [.call 67 [.agg [I z1.2.1, DS q66 z1.2.2.1, DS q57 z1.2.2.2.1, DS q108 z1.2.2.2.2.1, I z1.2.2.2.2.2.1, I z1.2.2.2.2.2.2.1], .d (I z1.1)] [] (.d (I y3)) [] [], .row (z1.2.2.1.map q66) y3 (q66 y5), .when [((y5.A == z0.1), true)] (.callB 66 [.agg [I z1.2.1, DS q66 z1.2.2.1, DS q57 z1.2.2.2.1, DS q108 z1.2.2.2.2.1, I z1.2.2.2.2.2.1, I z1.2.2.2.2.2.2.1], .agg [DS pB z1.2.2.2.2.2.2.2.1, DS q59 z1.2.2.2.2.2.2.2.2.1, DS pI z1.2.2.2.2.2.2.2.2.2.1, DS q119 z1.2.2.2.2.2.2.2.2.2.2.1], .d (I z1.1)] (.d (Bo y7)) [[]] 0 []), .when [(((y5.A == z0.1) && y7), true)] (.callB 164 [.d (.ip [.v (.int .i64 z1.2.1), .s (z1.2.2.1.map q66), .s (z1.2.2.2.1.map q57), .s (z1.2.2.2.2.1.map q108), .v (.int .i64 z1.2.2.2.2.2.1), .v (.int .i64 z1.2.2.2.2.2.2.1), .s (z1.2.2.2.2.2.2.2.1.map pB), .s (z1.2.2.2.2.2.2.2.2.1.map q59), .s (z1.2.2.2.2.2.2.2.2.2.1.map pI), .s (z1.2.2.2.2.2.2.2.2.2.2.1.map q119), .s (z1.2.2.2.2.2.2.2.2.2.2.2.1.map pB), .s (z1.2.2.2.2.2.2.2.2.2.2.2.2.map q42)]), .d (I z0.1)] (.d (Bo y9)) [[]] 0 [])] [] 7 n13_ [(0, .d (.o 0 0)), (2, .d (I z0.1)), (4, .d (I y3)), (9, .d (I x0.board.Buses)), (10, .d (I z0.1)), (18, .d (I (z0.2.2.2.1.length : Int))), (19, .d (I z1.1)), (56, .d (Bo (((y5.A == z0.1) && y7) && (!y9))))] [.box 144 [I z1.2.1, DS q66 z1.2.2.1, DS q57 z1.2.2.2.1, DS q108 z1.2.2.2.2.1, I z1.2.2.2.2.2.1, I z1.2.2.2.2.2.2.1, .os 7, .os 8, .os 9, .os 10, .os 11, .os 12], .non, .non, .non, .non, .non, .non, .sl 4 1 (z1.2.2.2.2.2.2.2.1.map pB), .sl 59 4 (z1.2.2.2.2.2.2.2.2.1.map q59), .sl 3 1 (z1.2.2.2.2.2.2.2.2.2.1.map pI), .sl 119 2 (z1.2.2.2.2.2.2.2.2.2.2.1.map q119), .sl 4 1 (z1.2.2.2.2.2.2.2.2.2.2.2.1.map pB), .sl 42 3 (z1.2.2.2.2.2.2.2.2.2.2.2.2.map q42)] hC ⟨⟨e67, (k67 (⟨z1.2.1, z1.2.2.1, z1.2.2.2.1, z1.2.2.2.2.1, z1.2.2.2.2.2.1, z1.2.2.2.2.2.2.1⟩ : api_Board) z1.1 _ h4)⟩, row_get h6, fun hg => lend0_get ⟨e66, (k66 (⟨z1.2.1, z1.2.2.1, z1.2.2.2.1, z1.2.2.2.2.1, z1.2.2.2.2.2.1, z1.2.2.2.2.2.2.1⟩ : api_Board) (⟨z1.2.2.2.2.2.2.2.1, z1.2.2.2.2.2.2.2.2.1, z1.2.2.2.2.2.2.2.2.2.1, z1.2.2.2.2.2.2.2.2.2.2.1⟩ : api_Power) z1.1 _ (guardO_get h8 hg))⟩, fun hg => lend0_get ⟨e164s0, (k164s0 (⟨(⟨z1.2.1, z1.2.2.1, z1.2.2.2.1, z1.2.2.2.2.1, z1.2.2.2.2.2.1, z1.2.2.2.2.2.2.1⟩ : api_Board), (⟨z1.2.2.2.2.2.2.2.1, z1.2.2.2.2.2.2.2.2.1, z1.2.2.2.2.2.2.2.2.2.1, z1.2.2.2.2.2.2.2.2.2.2.1⟩ : api_Power), z1.2.2.2.2.2.2.2.2.2.2.2.1, z1.2.2.2.2.2.2.2.2.2.2.2.2⟩ : restore_planner) z0.1 _ (guardO_get h10 hg))⟩, trivial⟩ ⟨h2, trivial⟩ (by kernel_rfl) ?_
     rcases boolC ((((y5.A == z0.1) && y7) && (!y9))) with h11 | h11
     ·replace h := condT h11 h
      obtain ⟨y12, h13, h⟩ := bindE h
      exact WI_end (bs := [((((y5.A == z0.1) && y7) && (!y9)), true)]) (φ := fun s' => w1b = .next s') (st' := (st87s1_1 x0 z0)) (R' := (R87s1_1)) mixed lv87s1 25 [true] [.call 89 [.d (.o 0 0), .d (I 1), .d (I y3)] [.box 144 [I z1.2.1, DS q66 z1.2.2.1, DS q57 z1.2.2.2.1, DS q108 z1.2.2.2.2.1, I z1.2.2.2.2.2.1, I z1.2.2.2.2.2.2.1, .os 1, .os 2, .os 3, .os 4, .os 5, .os 6], .sl 4 1 (z1.2.2.2.2.2.2.2.1.map pB), .sl 59 4 (z1.2.2.2.2.2.2.2.2.1.map q59), .sl 3 1 (z1.2.2.2.2.2.2.2.2.2.1.map pI), .sl 119 2 (z1.2.2.2.2.2.2.2.2.2.2.1.map q119), .sl 4 1 (z1.2.2.2.2.2.2.2.2.2.2.2.1.map pB), .sl 42 3 (z1.2.2.2.2.2.2.2.2.2.2.2.2.map q42)] (.tup []) (.box 144 (b6 y12.board [.os 1, .os 2, .os 3, .os 4, .os 5, .os 7]) :: p4 y12.power [.sl 4 1 (y12.goal.map pB), .non, .sl 42 3 (y12.acts.map q42)]) [0, 7, 8, 9, 10, 11, 12]] [] 7 [0, 1, 2, 3, 4, 5, 6, 7, 8, 9, 10, 11, 13] (w64 (z1.1 + 1), t6 y12.board (t4 y12.power (y12.goal, y12.acts))) hC ⟨⟨e89s1, (k89s1 (⟨(⟨z1.2.1, z1.2.2.1, z1.2.2.2.1, z1.2.2.2.2.1, z1.2.2.2.2.2.1, z1.2.2.2.2.2.2.1⟩ : api_Board), (⟨z1.2.2.2.2.2.2.2.1, z1.2.2.2.2.2.2.2.2.1, z1.2.2.2.2.2.2.2.2.2.1, z1.2.2.2.2.2.2.2.2.2.2.1⟩ : api_Power), z1.2.2.2.2.2.2.2.2.2.2.2.1, z1.2.2.2.2.2.2.2.2.2.2.2.2⟩ : restore_planner) 1 y3 _ h13)⟩, trivial⟩ ⟨h11, trivial⟩ (by kernel_rfl) (by kernel_rfl) (sI h).symm
     ·replace h := condF h11 h
      exact WI_end (bs := [((((y5.A == z0.1) && y7) && (!y9)), false)]) (φ := fun s' => w1b = .next s') (st' := (st87s1_1 x0 z0)) (R' := (R87s1_1)) mixed lv87s1 25 [false] [] [] 7 n13_ (w64 (z1.1 + 1), z1.2.1, z1.2.2.1, z1.2.2.2.1, z1.2.2.2.2.1, z1.2.2.2.2.2.1, z1.2.2.2.2.2.2.1, z1.2.2.2.2.2.2.2.1, z1.2.2.2.2.2.2.2.2.1, z1.2.2.2.2.2.2.2.2.2.1, z1.2.2.2.2.2.2.2.2.2.2.1, z1.2.2.2.2.2.2.2.2.2.2.2.1, z1.2.2.2.2.2.2.2.2.2.2.2.2) hC trivial ⟨h11, trivial⟩ (by kernel_rfl) (by kernel_rfl) (sI h).symm
    ·replace h := condF h2 h
     exact WI_end (bs := [((c87s1_8 z0 z1), false)]) (φ := fun s' => w1 = .next s') (st' := (sa87s1_1 x0 z0)) (R' := (Ra87s1_1)) mixed lv87s1 26 [false] [] [] 7 n13_ (z1.1, z1.2.1, z1.2.2.1, z1.2.2.2.1, z1.2.2.2.2.1, z1.2.2.2.2.2.1, z1.2.2.2.2.2.2.1, z1.2.2.2.2.2.2.2.1, z1.2.2.2.2.2.2.2.2.1, z1.2.2.2.2.2.2.2.2.2.1, z1.2.2.2.2.2.2.2.2.2.2.1, z1.2.2.2.2.2.2.2.2.2.2.2.1, z1.2.2.2.2.2.2.2.2.2.2.2.2) hC trivial ⟨h2, trivial⟩ (by kernel_rfl) (by kernel_rfl) (hb1 _ (sI h).symm)
   ·have h := hnext1 _ hs1
    exact WI_end (bs := []) (φ := fun s' => w0b = .next s') (st' := (st87s1_0 x0)) (R' := (R87s1_0)) mixed lv87s1 23 [] [] [] 7 n13_ (w64 (z0.1 + 1), z1.2.1, z1.2.2.1, z1.2.2.2.1, z1.2.2.2.2.1, z1.2.2.2.2.2.1, z1.2.2.2.2.2.2.1, z1.2.2.2.2.2.2.2.1, z1.2.2.2.2.2.2.2.2.1, z1.2.2.2.2.2.2.2.2.2.1, z1.2.2.2.2.2.2.2.2.2.2.1, z1.2.2.2.2.2.2.2.2.2.2.2.1, z1.2.2.2.2.2.2.2.2.2.2.2.2) hC trivial trivial (by kernel_rfl) (by kernel_rfl) (sI h).symm
  ·replace h := condF h1 h
   exact WI_end (bs := [(decide (z0.1 < x0.board.Buses), false)]) (φ := fun s' => w0 = .next s') (st' := (sa87s1_0)) (R' := (Ra87s1_0)) mixed lv87s1 26 [false] [] [] 7 n13_ (z0.1, z0.2.1, z0.2.2.1, z0.2.2.2.1, z0.2.2.2.2.1, z0.2.2.2.2.2.1, z0.2.2.2.2.2.2.1, z0.2.2.2.2.2.2.2.1, z0.2.2.2.2.2.2.2.2.1, z0.2.2.2.2.2.2.2.2.2.1, z0.2.2.2.2.2.2.2.2.2.2.1, z0.2.2.2.2.2.2.2.2.2.2.2.1, z0.2.2.2.2.2.2.2.2.2.2.2.2) hC trivial ⟨h1, trivial⟩ (by kernel_rfl) (by kernel_rfl) (hb0 _ (sI h).symm)
 ·have h := hnext0 _ hs0
  replace h := sI h
  subst h
  exact WI_endF (bs := []) mixed lv87s1 20 [] [] [] [] 7 n13_ rfl hC trivial trivial (by kernel_rfl) (by kernel_rfl)
theorem e87s1 : Enters Tryz.prog 87 := Go.SL.enters_of Tryz.func87 (by kernel_rfl) (by kernel_rfl)
def lv88s0 : List Nat := [0, 2, 3, 4, 5, 10, 11, 12, 13, 63]
def st88s0_0 (x0 : restore_planner) (n0 : Nat) (z0 : Unit) : St := [(0, .d (.ip [.v (.int .i64 x0.board.Buses), .s (x0.board.Breakers.map q66), .s (x0.board.Sources.map q57), .s (x0.board.Consumers.map q108), .v (.int .i64 x0.board.Phase), .v (.int .i64 x0.board.Frequency), .s (x0.power.Closed.map pB), .s (x0.power.Sources.map q59), .s (x0.power.Limits.map pI), .s (x0.power.Broken.map q119), .s (x0.goal.map pB), .s (x0.acts.map q42)])), (2, .d (I 0)), (3, .d (Bo false)), (10, .d (DS q66 x0.board.Breakers)), (11, .d (I (x0.board.Breakers.length : Int))), (12, .d (I (cnt 0 n0)))]
def R88s0_0  (n0 : Nat) (z0 : Unit) : List Res := []
def sa88s0_0  (z0 : Unit) : St := [(2, .d (I 0)), (3, .d (Bo false))]
def Ra88s0_0  (z0 : Unit) : List Res := []
theorem k88s0 (x0 : restore_planner) (r : Int × Bool) (h : F88s0 x0 = some r) : CallOk Tryz.prog 88 [.d (.ip [.v (.int .i64 x0.board.Buses), .s (x0.board.Breakers.map q66), .s (x0.board.Sources.map q57), .s (x0.board.Consumers.map q108), .v (.int .i64 x0.board.Phase), .v (.int .i64 x0.board.Frequency), .s (x0.power.Closed.map pB), .s (x0.power.Sources.map q59), .s (x0.power.Limits.map pI), .s (x0.power.Broken.map q119), .s (x0.goal.map pB), .s (x0.acts.map q42)])] [] (.tup [.d (I r.1), .d (Bo r.2)]) [] := by
 unfold F88s0 at h
 refine callOk_of 66 Tryz.func88 rfl rfl rfl fun C hC => ?_
 refine WI_stop (bs := []) mixed lv88s0 26 [] [.len ((x0.board.Breakers.map q66).length : Int) (x0.board.Breakers.length : Int)] [] 0 [] (st88s0_0 x0 0 ()) (R88s0_0 0 ()) hC ⟨len_map _ _, trivial⟩ trivial (by kernel_rfl) ?_
 obtain ⟨w0, hm0, hret0, hnext0⟩ := andThen_inv h
 clear h
 refine WI_cut (by kernel_rfl) (fun s => w0 = .next s) (sa88s0_0) (Ra88s0_0) ?_ fun z0 hs0 => ?_
 ·refine WI_blk (by kernel_rfl) ?_
  refine WI_len 10 rfl fun hl0 => ?_
  refine WI_foldI (by kernel_rfl) (F88s0_l0 x0) (st88s0_0 x0) (R88s0_0) w0 x0.board.Breakers () hm0 rfl rfl (fun z0 hn0 => ?_) fun n0 a0 z0 w0b hi0 hx0 h hb0 hr0 => ?_
  ·clear hm0
   exact WI_end (bs := [(decide ((cnt 0 x0.board.Breakers.length) < (x0.board.Breakers.length : Int)), false)]) (φ := fun s' => w0 = .next s') (st' := (sa88s0_0)) (R' := (Ra88s0_0)) mixed lv88s0 26 [false] [] [] 0 [] () hC trivial ⟨(cnt_end hl0), trivial⟩ (by kernel_rfl) (by kernel_rfl) hn0
  ·unfold F88s0_l0 at h
   obtain ⟨y1, h2, h⟩ := bindE h
   obtain ⟨y3, h4, h⟩ := bindE h
   obtain ⟨y5, h6, h⟩ := bindE h
   obtain ⟨y7, h8, h⟩ := bindE h
   obtain ⟨y9, h10, h⟩ := bindE h
   refine WI_stop (bs := [(decide ((cnt 0 n0) < (x0.board.Breakers.length : Int)), true)]) mixed lv88s0 32 [true] [.row (x0.board.Breakers.map q66) (cnt 0 n0) (q66 a0), .when [((a0.Kind == 1), true)] (.row (x0.power.Closed.map pB) (cnt 0 n0) (pB y1)), .when [(((a0.Kind == 1) && (!y1)), true)] (.call 68 [.agg (d29 x0.board), .agg (d35 x0.power), .d (I (cnt 0 n0))] [] (.d (Bo y3)) [] []), .when [((((a0.Kind == 1) && (!y1)) && y3), true)] (.row (x0.goal.map pB) a0.A (pB y5)), .when [(((((a0.Kind == 1) && (!y1)) && y3) && y5), true)] (.call 164 [.d (.ip [.v (.int .i64 x0.board.Buses), .s (x0.board.Breakers.map q66), .s (x0.board.Sources.map q57), .s (x0.board.Consumers.map q108), .v (.int .i64 x0.board.Phase), .v (.int .i64 x0.board.Frequency), .s (x0.power.Closed.map pB), .s (x0.power.Sources.map q59), .s (x0.power.Limits.map pI), .s (x0.power.Broken.map q119), .s (x0.goal.map pB), .s (x0.acts.map q42)]), .d (I a0.A)] [] (.d (Bo y7)) [] []), .when [(((((a0.Kind == 1) && (!y1)) && y3) && y5), true)] (.call 164 [.d (.ip [.v (.int .i64 x0.board.Buses), .s (x0.board.Breakers.map q66), .s (x0.board.Sources.map q57), .s (x0.board.Consumers.map q108), .v (.int .i64 x0.board.Phase), .v (.int .i64 x0.board.Frequency), .s (x0.power.Closed.map pB), .s (x0.power.Sources.map q59), .s (x0.power.Limits.map pI), .s (x0.power.Broken.map q119), .s (x0.goal.map pB), .s (x0.acts.map q42)]), .d (I a0.B)] [] (.d (Bo y9)) [] [])] [] 0 [] [(0, .d (.ip [.v (.int .i64 x0.board.Buses), .s (x0.board.Breakers.map q66), .s (x0.board.Sources.map q57), .s (x0.board.Consumers.map q108), .v (.int .i64 x0.board.Phase), .v (.int .i64 x0.board.Frequency), .s (x0.power.Closed.map pB), .s (x0.power.Sources.map q59), .s (x0.power.Limits.map pI), .s (x0.power.Broken.map q119), .s (x0.goal.map pB), .s (x0.acts.map q42)])), (2, .d (I 0)), (3, .d (Bo false)), (4, .d (I (cnt 0 n0))), (10, .d (DS q66 x0.board.Breakers)), (11, .d (I (x0.board.Breakers.length : Int))), (12, .d (I (cnt 0 n0))), (63, .d (Bo (c88s0_1 a0 y1 y3 y5 y7 y9)))] [] hC ⟨(row_cnt hx0 hl0), fun hg => row_get (guardO_get h2 hg), fun hg => ⟨e68, (k68 x0.board x0.power (cnt 0 n0) _ (guardO_get h4 hg))⟩, fun hg => row_get (guardO_get h6 hg), fun hg => ⟨e164s0, (k164s0 x0 a0.A _ (guardO_get h8 hg))⟩, fun hg => ⟨e164s0, (k164s0 x0 a0.B _ (guardO_get h10 hg))⟩, trivial⟩ ⟨(cnt_lt hi0 hl0), trivial⟩ (by kernel_rfl) ?_
   rcases boolC ((c88s0_1 a0 y1 y3 y5 y7 y9)) with h11 | h11
   ·replace h := condT h11 h
    have hq := hret0 _ (hr0 _ (sI h).symm)
    replace hq := sI hq
    subst hq
    exact WI_ret (bs := [((c88s0_1 a0 y1 y3 y5 y7 y9), true)]) mixed lv88s0 24 [true] [] [] [.tmp 2, .tmp 3] 0 [] rfl hC trivial ⟨h11, trivial⟩ (by kernel_rfl)
   ·replace h := condF h11 h
    exact WI_end (bs := [((c88s0_1 a0 y1 y3 y5 y7 y9), false)]) (φ := fun s' => w0b = .next s') (st' := (st88s0_0 x0 (n0 + 1))) (R' := (R88s0_0 (n0 + 1))) mixed lv88s0 25 [false] [] [] 0 [] () hC trivial ⟨h11, trivial⟩ (by kernel_rfl) (by kernel_rfl) (sI h).symm
 ·have h := hnext0 _ hs0
  replace h := sI h
  subst h
  exact WI_ret (bs := []) mixed lv88s0 23 [] [] [] [.tmp 2, .tmp 3] 0 [] rfl hC trivial trivial (by kernel_rfl)
theorem e88s0 : Enters Tryz.prog 88 := Go.SL.enters_of Tryz.func88 (by kernel_rfl) (by kernel_rfl)
def lv90s1 : List Nat := [0, 1, 3, 5, 6, 7, 13, 14, 15, 37, 42, 43, 44, 45, 77, 109]
def R90s1_0  (z0 : Sg5) : List Res := [.box 144 [I z0.1, DS q66 z0.2.1, DS q57 z0.2.2.1, DS q108 z0.2.2.2.1, I z0.2.2.2.2.1, I z0.2.2.2.2.2.1, .os 9, .os 10, .os 11, .os 12, .os 13, .os 14], .non, .non, .non, .non, .non, .non, .box 142 [.o 0 0], .non, .sl 4 1 (z0.2.2.2.2.2.2.1.map pB), .sl 59 4 (z0.2.2.2.2.2.2.2.1.map q59), .sl 3 1 (z0.2.2.2.2.2.2.2.2.1.map pI), .sl 119 2 (z0.2.2.2.2.2.2.2.2.2.1.map q119), .sl 4 1 (z0.2.2.2.2.2.2.2.2.2.2.1.map pB), .sl 42 3 (z0.2.2.2.2.2.2.2.2.2.2.2.map q42)]
def st90s1_1 (z0 : Sg5) (a0 : (Int × Int)) (n1 : Nat) (z1 : Sg5) : St := [(1, .d (.o 7 0)), (3, .d (I a0.2)), (42, .d (DS q66 z0.2.1)), (43, .d (I (z0.2.1.length : Int))), (44, .d (I (cnt 0 n1)))]
def R90s1_1  (n1 : Nat) (z1 : Sg5) : List Res := [.box 144 [I z1.1, DS q66 z1.2.1, DS q57 z1.2.2.1, DS q108 z1.2.2.2.1, I z1.2.2.2.2.1, I z1.2.2.2.2.2.1, .os 9, .os 10, .os 11, .os 12, .os 13, .os 14], .non, .non, .non, .non, .non, .non, .box 142 [.o 0 0], .non, .sl 4 1 (z1.2.2.2.2.2.2.1.map pB), .sl 59 4 (z1.2.2.2.2.2.2.2.1.map q59), .sl 3 1 (z1.2.2.2.2.2.2.2.2.1.map pI), .sl 119 2 (z1.2.2.2.2.2.2.2.2.2.1.map q119), .sl 4 1 (z1.2.2.2.2.2.2.2.2.2.2.1.map pB), .sl 42 3 (z1.2.2.2.2.2.2.2.2.2.2.2.map q42)]
def sa90s1_1  (z1 : Sg5) : St := []
def Ra90s1_1  (z1 : Sg5) : List Res := [.box 144 [I z1.1, DS q66 z1.2.1, DS q57 z1.2.2.1, DS q108 z1.2.2.2.1, I z1.2.2.2.2.1, I z1.2.2.2.2.2.1, .os 9, .os 10, .os 11, .os 12, .os 13, .os 14], .non, .non, .non, .non, .non, .non, .box 142 [.o 0 0], .non, .sl 4 1 (z1.2.2.2.2.2.2.1.map pB), .sl 59 4 (z1.2.2.2.2.2.2.2.1.map q59), .sl 3 1 (z1.2.2.2.2.2.2.2.2.1.map pI), .sl 119 2 (z1.2.2.2.2.2.2.2.2.2.1.map q119), .sl 4 1 (z1.2.2.2.2.2.2.2.2.2.2.1.map pB), .sl 42 3 (z1.2.2.2.2.2.2.2.2.2.2.2.map q42)]
theorem k90s1 (x0 : restore_planner) (r : restore_planner) (h : F90s1 x0 = some r) : CallOk Tryz.prog 90 [.d (.o 0 0)] (.box 144 (b6 x0.board [.os 1, .os 2, .os 3, .os 4, .os 5, .os 6]) :: p4 x0.power [.sl 4 1 (x0.goal.map pB), .sl 42 3 (x0.acts.map q42)]) (.tup []) (.box 144 (b6 r.board [.os 7, .os 8, .os 9, .os 10, .os 11, .os 12]) :: .non :: .non :: .non :: .non :: .non :: .non :: p4 r.power [.sl 4 1 (r.goal.map pB), .sl 42 3 (r.acts.map q42)]) := by
 unfold F90s1 at h
 refine callOk_of 114 Tryz.func90 rfl rfl rfl fun C hC => ?_
 obtain ⟨y3, h4, h⟩ := bindE h
 refine WI_stop (bs := []) mixed lv90s1 26 [] [.call 167 [.agg (d29 x0.board)] [] (.d (DS pI y3)) [.non] [], .call 166 [.d (.p (.s (y3.map pI)))] [] (.d (.fn (.func 229) [] [.o 0 0])) [.box 22 [.p (.s (y3.map pI))]] []] [.mv 1, .mv 2, .mv 3, .mv 4, .mv 5, .mv 6] 7 [0, 1, 2, 3, 4, 5, 6, 7, 9, 10, 11, 12, 13, 14, 15] [(1, .d (.o 7 0)), (13, .d (.fn (.func 229) [] [.o 8 0]))] (.box 144 (b6 x0.board [.os 9, .os 10, .os 11, .os 12, .os 13, .os 14]) :: .non :: .non :: .non :: .non :: .non :: .non :: .box 142 [.o 0 0] :: .box 22 [DS pI y3] :: p4 x0.power [.sl 4 1 (x0.goal.map pB), .sl 42 3 (x0.acts.map q42)]) hC ⟨⟨e167, (CallOk.frzAll [0] (show CallOk Tryz.prog 167 [.agg (d29 x0.board)] [] (.d (.os 0)) [.sl 3 1 (y3.map pI)] from (k167 x0.board _ h4)) (by kernel_rfl))⟩, ⟨e166, k166 y3⟩, trivial⟩ trivial (by kernel_rfl) ?_
 obtain ⟨w0, hm0, hret0, hnext0⟩ := andThen_inv h
 clear h
 refine WI_range (by kernel_rfl) (t := 13) (d := 3) (p := 15) (gf := 229) (j := 8) (ty := 22) bwEnc (bw y3) F90s1_l0 (R90s1_0) (fun _ => []) w0 (t6 x0.board (t4 x0.power (x0.goal, x0.acts))) (fun a0 => .d (I a0.2)) hm0 (bw_iter y3) (by kernel_rfl) (by kernel_rfl) (by kernel_rfl) (by kernel_rfl) (by kernel_rfl) [(1, .d (.o 7 0))] (by kernel_rfl) (by kernel_rfl) (bw_ps (a := 14) (b := 15) (by kernel_rfl)) (bw_av2 14 15 (by kernel_rfl) (by decide) (by decide)) (by decide) rfl (Up.of_nil rfl) 9 (by kernel_rfl) (Nat.le_trans hC (Nat.le_of_ble_eq_true rfl)) (fun C2 z0 hh hup2 hs0 => ?_) (fun C2 v90s1_0 hh hup2 hr0 a w hsR => ?_) (fun l C' a0 z0 w0b hlen hdf h hkr => ?_)
 ·have hC : C2.h.length ≤ 7 := by rw [hh]; exact hC
  have h := hnext0 _ hs0
  replace h := sI h
  subst h
  exact WI_endM (bs := []) mixed lv90s1 21 [] [] [] [] 7 [0, 1, 2, 3, 4, 5, 6, 9, 10, 11, 12, 13, 14] rfl hC trivial trivial (by kernel_rfl) (by kernel_rfl) hup2
 ·exact absurd (hret0 _ hr0) (by simp)
 ·have hC : C'.h.length ≤ 9 := hlen
  unfold F90s1_l0 at h
  obtain ⟨y5, h6, h⟩ := bindE h
  obtain ⟨y7, h8, h⟩ := bindE h
  refine WI_stop (bs := []) mixed lv90s1 27 [] [.callB 168 [.agg [I z0.1, DS q66 z0.2.1, DS q57 z0.2.2.1, DS q108 z0.2.2.2.1, I z0.2.2.2.2.1, I z0.2.2.2.2.2.1], .agg [DS pB z0.2.2.2.2.2.2.1, DS q59 z0.2.2.2.2.2.2.2.1, DS pI z0.2.2.2.2.2.2.2.2.1, DS q119 z0.2.2.2.2.2.2.2.2.2.1], .d (I a0.2)] (.tup [.d (I y5.1), .d (Bo y5.2)]) [[]] 0 [], .when [(y5.2, false)] (.callB 134 [.agg [DS pB z0.2.2.2.2.2.2.1, DS q59 z0.2.2.2.2.2.2.2.1, DS pI z0.2.2.2.2.2.2.2.2.1, DS q119 z0.2.2.2.2.2.2.2.2.2.1], .d (I 4), .d (I a0.2)] (.d (Bo y7)) [[]] 0 [])] [] 9 n15_ [(1, .d (.o 7 0)), (3, .d (I a0.2)), (37, .d (Bo (y5.2 || y7)))] [.box 144 [I z0.1, DS q66 z0.2.1, DS q57 z0.2.2.1, DS q108 z0.2.2.2.1, I z0.2.2.2.2.1, I z0.2.2.2.2.2.1, .os 9, .os 10, .os 11, .os 12, .os 13, .os 14], .non, .non, .non, .non, .non, .non, .box 142 [.o 0 0], .non, .sl 4 1 (z0.2.2.2.2.2.2.1.map pB), .sl 59 4 (z0.2.2.2.2.2.2.2.1.map q59), .sl 3 1 (z0.2.2.2.2.2.2.2.2.1.map pI), .sl 119 2 (z0.2.2.2.2.2.2.2.2.2.1.map q119), .sl 4 1 (z0.2.2.2.2.2.2.2.2.2.2.1.map pB), .sl 42 3 (z0.2.2.2.2.2.2.2.2.2.2.2.map q42)] hC ⟨lend0_get ⟨e168, (k168 (⟨z0.1, z0.2.1, z0.2.2.1, z0.2.2.2.1, z0.2.2.2.2.1, z0.2.2.2.2.2.1⟩ : api_Board) (⟨z0.2.2.2.2.2.2.1, z0.2.2.2.2.2.2.2.1, z0.2.2.2.2.2.2.2.2.1, z0.2.2.2.2.2.2.2.2.2.1⟩ : api_Power) a0.2 _ h6)⟩, fun hg => lend0_get ⟨e134, (k134 (⟨z0.2.2.2.2.2.2.1, z0.2.2.2.2.2.2.2.1, z0.2.2.2.2.2.2.2.2.1, z0.2.2.2.2.2.2.2.2.2.1⟩ : api_Power) 4 a0.2 _ (guardO_get h8 hg))⟩, trivial⟩ trivial (by kernel_rfl) ?_
  rcases boolC ((y5.2 || y7)) with h9 | h9
  ·replace h := condT h9 h
   exact WI_end (bs := [((y5.2 || y7), true)]) (φ := fun s' => w0b = .next s') (st' := fun _ => []) (R' := (R90s1_0)) mixed lv90s1 23 [true] [] [] 9 n15_ (z0.1, z0.2.1, z0.2.2.1, z0.2.2.2.1, z0.2.2.2.2.1, z0.2.2.2.2.2.1, z0.2.2.2.2.2.2.1, z0.2.2.2.2.2.2.2.1, z0.2.2.2.2.2.2.2.2.1, z0.2.2.2.2.2.2.2.2.2.1, z0.2.2.2.2.2.2.2.2.2.2.1, z0.2.2.2.2.2.2.2.2.2.2.2) hC trivial ⟨h9, trivial⟩ (by kernel_rfl) (by kernel_rfl) (sI h).symm
  ·replace h := condF h9 h
   refine WI_stop (bs := [((y5.2 || y7), false)]) mixed lv90s1 25 [false] [.len ((z0.2.1.map q66).length : Int) (z0.2.1.length : Int)] [] 9 n15_ (st90s1_1 z0 a0 0 (z0.1, z0.2.1, z0.2.2.1, z0.2.2.2.1, z0.2.2.2.2.1, z0.2.2.2.2.2.1, z0.2.2.2.2.2.2.1, z0.2.2.2.2.2.2.2.1, z0.2.2.2.2.2.2.2.2.1, z0.2.2.2.2.2.2.2.2.2.1, z0.2.2.2.2.2.2.2.2.2.2.1, z0.2.2.2.2.2.2.2.2.2.2.2)) (R90s1_1 0 (z0.1, z0.2.1, z0.2.2.1, z0.2.2.2.1, z0.2.2.2.2.1, z0.2.2.2.2.2.1, z0.2.2.2.2.2.2.1, z0.2.2.2.2.2.2.2.1, z0.2.2.2.2.2.2.2.2.1, z0.2.2.2.2.2.2.2.2.2.1, z0.2.2.2.2.2.2.2.2.2.2.1, z0.2.2.2.2.2.2.2.2.2.2.2)) hC ⟨len_map _ _, trivial⟩ ⟨h9, trivial⟩ (by kernel_rfl) ?_
   obtain ⟨w1, hm1, hret1, hnext1⟩ := andThen_inv h
   clear h
   refine WI_cut (by kernel_rfl) (fun s => w1 = .next s) (sa90s1_1) (Ra90s1_1) ?_ fun z1 hs1 => ?_
   ·refine WI_blk (by kernel_rfl) ?_
    refine WI_len 42 rfl fun hl1 => ?_
    refine WI_foldI (by kernel_rfl) (F90s1_l1 a0) (st90s1_1 z0 a0) (R90s1_1) w1 z0.2.1 (z0.1, z0.2.1, z0.2.2.1, z0.2.2.2.1, z0.2.2.2.2.1, z0.2.2.2.2.2.1, z0.2.2.2.2.2.2.1, z0.2.2.2.2.2.2.2.1, z0.2.2.2.2.2.2.2.2.1, z0.2.2.2.2.2.2.2.2.2.1, z0.2.2.2.2.2.2.2.2.2.2.1, z0.2.2.2.2.2.2.2.2.2.2.2) hm1 rfl rfl (fun z1 hn1 => ?_) fun n1 a1 z1 w1b hi1 hx1 h hb1 hr1 => ?_
    ·clear hm1
     exact WI_end (bs := [(decide ((cnt 0 z0.2.1.length) < (z0.2.1.length : Int)), false)]) (φ := fun s' => w1 = .next s') (st' := (sa90s1_1)) (R' := (Ra90s1_1)) mixed lv90s1 26 [false] [] [] 9 n15_ (z1.1, z1.2.1, z1.2.2.1, z1.2.2.2.1, z1.2.2.2.2.1, z1.2.2.2.2.2.1, z1.2.2.2.2.2.2.1, z1.2.2.2.2.2.2.2.1, z1.2.2.2.2.2.2.2.2.1, z1.2.2.2.2.2.2.2.2.2.1, z1.2.2.2.2.2.2.2.2.2.2.1, z1.2.2.2.2.2.2.2.2.2.2.2) hC trivial ⟨(cnt_end hl1), trivial⟩ (by kernel_rfl) (by kernel_rfl) hn1
    ·unfold F90s1_l1 at h
     obtain ⟨y10, h11, h⟩ := bindE h
     obtain ⟨y12, h13, h⟩ := bindE h
     refine WI_stop (bs := [(decide ((cnt 0 n1) < (z0.2.1.length : Int)), true)]) mixed lv90s1 33 [true] [.row (z0.2.1.map q66) (cnt 0 n1) (q66 a1), .when [(((a1.Kind != 3) || (a1.B != a0.2)), false)] (.callB 68 [.agg [I z1.1, DS q66 z1.2.1, DS q57 z1.2.2.1, DS q108 z1.2.2.2.1, I z1.2.2.2.2.1, I z1.2.2.2.2.2.1], .agg [DS pB z1.2.2.2.2.2.2.1, DS q59 z1.2.2.2.2.2.2.2.1, DS pI z1.2.2.2.2.2.2.2.2.1, DS q119 z1.2.2.2.2.2.2.2.2.2.1], .d (I (cnt 0 n1))] (.d (Bo y10)) [[]] 0 []), .when [((((a1.Kind != 3) || (a1.B != a0.2)) || (!y10)), false)] (.callB 164 [.d (.ip [.v (.int .i64 z1.1), .s (z1.2.1.map q66), .s (z1.2.2.1.map q57), .s (z1.2.2.2.1.map q108), .v (.int .i64 z1.2.2.2.2.1), .v (.int .i64 z1.2.2.2.2.2.1), .s (z1.2.2.2.2.2.2.1.map pB), .s (z1.2.2.2.2.2.2.2.1.map q59), .s (z1.2.2.2.2.2.2.2.2.1.map pI), .s (z1.2.2.2.2.2.2.2.2.2.1.map q119), .s (z1.2.2.2.2.2.2.2.2.2.2.1.map pB), .s (z1.2.2.2.2.2.2.2.2.2.2.2.map q42)]), .d (I a1.A)] (.d (Bo y12)) [[]] 0 [])] [] 9 n16_ [(1, .d (.o 7 0)), (3, .d (I a0.2)), (6, .d (I (cnt 0 n1))), (7, .d (.o 15 0)), (42, .d (DS q66 z0.2.1)), (43, .d (I (z0.2.1.length : Int))), (44, .d (I (cnt 0 n1))), (77, .d (Bo (c90s1_2 a0 a1 y10 y12)))] [.box 144 [I z1.1, DS q66 z1.2.1, DS q57 z1.2.2.1, DS q108 z1.2.2.2.1, I z1.2.2.2.2.1, I z1.2.2.2.2.2.1, .os 9, .os 10, .os 11, .os 12, .os 13, .os 14], .non, .non, .non, .non, .non, .non, .box 142 [.o 0 0], .non, .sl 4 1 (z1.2.2.2.2.2.2.1.map pB), .sl 59 4 (z1.2.2.2.2.2.2.2.1.map q59), .sl 3 1 (z1.2.2.2.2.2.2.2.2.1.map pI), .sl 119 2 (z1.2.2.2.2.2.2.2.2.2.1.map q119), .sl 4 1 (z1.2.2.2.2.2.2.2.2.2.2.1.map pB), .sl 42 3 (z1.2.2.2.2.2.2.2.2.2.2.2.map q42), .box 66 (d66 a1)] hC ⟨(row_cnt hx1 hl1), fun hg => lend0_get ⟨e68, (k68 (⟨z1.1, z1.2.1, z1.2.2.1, z1.2.2.2.1, z1.2.2.2.2.1, z1.2.2.2.2.2.1⟩ : api_Board) (⟨z1.2.2.2.2.2.2.1, z1.2.2.2.2.2.2.2.1, z1.2.2.2.2.2.2.2.2.1, z1.2.2.2.2.2.2.2.2.2.1⟩ : api_Power) (cnt 0 n1) _ (guardO_get h11 hg))⟩, fun hg => lend0_get ⟨e164s0, (k164s0 (⟨(⟨z1.1, z1.2.1, z1.2.2.1, z1.2.2.2.1, z1.2.2.2.2.1, z1.2.2.2.2.2.1⟩ : api_Board), (⟨z1.2.2.2.2.2.2.1, z1.2.2.2.2.2.2.2.1, z1.2.2.2.2.2.2.2.2.1, z1.2.2.2.2.2.2.2.2.2.1⟩ : api_Power), z1.2.2.2.2.2.2.2.2.2.2.1, z1.2.2.2.2.2.2.2.2.2.2.2⟩ : restore_planner) a1.A _ (guardO_get h13 hg))⟩, trivial⟩ ⟨(cnt_lt hi1 hl1), trivial⟩ (by kernel_rfl) ?_
     rcases boolC ((c90s1_2 a0 a1 y10 y12)) with h14 | h14
     ·replace h := condT h14 h
      exact WI_end (bs := [((c90s1_2 a0 a1 y10 y12), true)]) (φ := fun s' => w1b = .next s') (st' := (st90s1_1 z0 a0 (n1 + 1))) (R' := (R90s1_1 (n1 + 1))) mixed lv90s1 24 [true] [] [] 9 n15_ (z1.1, z1.2.1, z1.2.2.1, z1.2.2.2.1, z1.2.2.2.2.1, z1.2.2.2.2.2.1, z1.2.2.2.2.2.2.1, z1.2.2.2.2.2.2.2.1, z1.2.2.2.2.2.2.2.2.1, z1.2.2.2.2.2.2.2.2.2.1, z1.2.2.2.2.2.2.2.2.2.2.1, z1.2.2.2.2.2.2.2.2.2.2.2) hC trivial ⟨h14, trivial⟩ (by kernel_rfl) (by kernel_rfl) (sI h).symm
     ·replace h := condF h14 h
      obtain ⟨y15, h16, h⟩ := bindE h
      obtain ⟨y17, h18, h⟩ := bindE h
      obtain ⟨y19, h20, h⟩ := bindE h
      refine WI_stop (bs := [((c90s1_2 a0 a1 y10 y12), false)]) mixed lv90s1 26 [false] [.callB 169 [.agg [I z1.1, DS q66 z1.2.1, DS q57 z1.2.2.1, DS q108 z1.2.2.2.1, I z1.2.2.2.2.1, I z1.2.2.2.2.2.1], .agg [DS pB z1.2.2.2.2.2.2.1, DS q59 z1.2.2.2.2.2.2.2.1, DS pI z1.2.2.2.2.2.2.2.2.1, DS q119 z1.2.2.2.2.2.2.2.2.2.1], .d (I a1.A)] (.d (I y15)) [[]] 0 [], .row (z1.2.2.2.2.2.2.2.2.1.map pI) a0.2 (pI y17), .row (z1.2.2.2.2.2.2.2.2.1.map pI) (((Int.toNat a0.2) : Nat) : Int) (pI y17), .callB 170 [.agg [I z1.1, DS q66 z1.2.1, DS q57 z1.2.2.1, DS q108 z1.2.2.2.1, I z1.2.2.2.2.1, I z1.2.2.2.2.2.1], .agg [DS pB z1.2.2.2.2.2.2.1, DS q59 z1.2.2.2.2.2.2.2.1, DS pI z1.2.2.2.2.2.2.2.2.1, DS q119 z1.2.2.2.2.2.2.2.2.2.1], .d (I a1.A)] (.d (I y19)) [[]] 0 []] [] 9 n15_ [(1, .d (.o 7 0)), (3, .d (I a0.2)), (6, .d (I (cnt 0 n1))), (42, .d (DS q66 z0.2.1)), (43, .d (I (z0.2.1.length : Int))), (44, .d (I (cnt 0 n1))), (109, .d (Bo (decide ((w64 (y15 + y17)) ≤ y19))))] [.box 144 [I z1.1, DS q66 z1.2.1, DS q57 z1.2.2.1, DS q108 z1.2.2.2.1, I z1.2.2.2.2.1, I z1.2.2.2.2.2.1, .os 9, .os 10, .os 11, .os 12, .os 13, .os 14], .non, .non, .non, .non, .non, .non, .box 142 [.o 0 0], .non, .sl 4 1 (z1.2.2.2.2.2.2.1.map pB), .sl 59 4 (z1.2.2.2.2.2.2.2.1.map q59), .sl 3 1 (z1.2.2.2.2.2.2.2.2.1.map pI), .sl 119 2 (z1.2.2.2.2.2.2.2.2.2.1.map q119), .sl 4 1 (z1.2.2.2.2.2.2.2.2.2.2.1.map pB), .sl 42 3 (z1.2.2.2.2.2.2.2.2.2.2.2.map q42)] hC ⟨lend0_get ⟨e169, (k169 (⟨z1.1, z1.2.1, z1.2.2.1, z1.2.2.2.1, z1.2.2.2.2.1, z1.2.2.2.2.2.1⟩ : api_Board) (⟨z1.2.2.2.2.2.2.1, z1.2.2.2.2.2.2.2.1, z1.2.2.2.2.2.2.2.2.1, z1.2.2.2.2.2.2.2.2.2.1⟩ : api_Power) a1.A _ h16)⟩, row_get h18, row_getN h18, lend0_get ⟨e170, (k170 (⟨z1.1, z1.2.1, z1.2.2.1, z1.2.2.2.1, z1.2.2.2.2.1, z1.2.2.2.2.2.1⟩ : api_Board) (⟨z1.2.2.2.2.2.2.1, z1.2.2.2.2.2.2.2.1, z1.2.2.2.2.2.2.2.2.1, z1.2.2.2.2.2.2.2.2.2.1⟩ : api_Power) a1.A _ h20)⟩, trivial⟩ ⟨h14, trivial⟩ (by kernel_rfl) ?_
      rcases boolC (decide ((w64 (y15 + y17)) ≤ y19)) with h21 | h21
      ·replace h := condT h21 h
       obtain ⟨y22, h23, h⟩ := bindE h
       exact WI_end (bs := [(decide ((w64 (y15 + y17)) ≤ y19), true)]) (φ := fun s' => w1 = .next s') (st' := (sa90s1_1)) (R' := (Ra90s1_1)) mixed lv90s1 24 [true] [.call 89 [.d (.o 0 0), .d (I 1), .d (I (cnt 0 n1))] [.box 144 [I z1.1, DS q66 z1.2.1, DS q57 z1.2.2.1, DS q108 z1.2.2.2.1, I z1.2.2.2.2.1, I z1.2.2.2.2.2.1, .os 1, .os 2, .os 3, .os 4, .os 5, .os 6], .sl 4 1 (z1.2.2.2.2.2.2.1.map pB), .sl 59 4 (z1.2.2.2.2.2.2.2.1.map q59), .sl 3 1 (z1.2.2.2.2.2.2.2.2.1.map pI), .sl 119 2 (z1.2.2.2.2.2.2.2.2.2.1.map q119), .sl 4 1 (z1.2.2.2.2.2.2.2.2.2.2.1.map pB), .sl 42 3 (z1.2.2.2.2.2.2.2.2.2.2.2.map q42)] (.tup []) (.box 144 (b6 y22.board [.os 1, .os 2, .os 3, .os 4, .os 5, .os 7]) :: p4 y22.power [.sl 4 1 (y22.goal.map pB), .non, .sl 42 3 (y22.acts.map q42)]) [0, 9, 10, 11, 12, 13, 14]] [] 9 [0, 1, 2, 3, 4, 5, 6, 7, 8, 9, 10, 11, 12, 13, 15] (t6 y22.board (t4 y22.power (y22.goal, y22.acts))) hC ⟨⟨e89s1, (k89s1 (⟨(⟨z1.1, z1.2.1, z1.2.2.1, z1.2.2.2.1, z1.2.2.2.2.1, z1.2.2.2.2.2.1⟩ : api_Board), (⟨z1.2.2.2.2.2.2.1, z1.2.2.2.2.2.2.2.1, z1.2.2.2.2.2.2.2.2.1, z1.2.2.2.2.2.2.2.2.2.1⟩ : api_Power), z1.2.2.2.2.2.2.2.2.2.2.1, z1.2.2.2.2.2.2.2.2.2.2.2⟩ : restore_planner) 1 (cnt 0 n1) _ h23)⟩, trivial⟩ ⟨h21, trivial⟩ (by kernel_rfl) (by kernel_rfl) (hb1 _ (sI h).symm)
      ·replace h := condF h21 h
       exact WI_end (bs := [(decide ((w64 (y15 + y17)) ≤ y19), false)]) (φ := fun s' => w1 = .next s') (st' := (sa90s1_1)) (R' := (Ra90s1_1)) mixed lv90s1 24 [false] [] [] 9 n15_ (z1.1, z1.2.1, z1.2.2.1, z1.2.2.2.1, z1.2.2.2.2.1, z1.2.2.2.2.2.1, z1.2.2.2.2.2.2.1, z1.2.2.2.2.2.2.2.1, z1.2.2.2.2.2.2.2.2.1, z1.2.2.2.2.2.2.2.2.2.1, z1.2.2.2.2.2.2.2.2.2.2.1, z1.2.2.2.2.2.2.2.2.2.2.2) hC trivial ⟨h21, trivial⟩ (by kernel_rfl) (by kernel_rfl) (hb1 _ (sI h).symm)
   ·have h := hnext1 _ hs1
    exact WI_end (bs := []) (φ := fun s' => w0b = .next s') (st' := fun _ => []) (R' := (R90s1_0)) mixed lv90s1 22 [] [] [] 9 n15_ (z1.1, z1.2.1, z1.2.2.1, z1.2.2.2.1, z1.2.2.2.2.1, z1.2.2.2.2.2.1, z1.2.2.2.2.2.2.1, z1.2.2.2.2.2.2.2.1, z1.2.2.2.2.2.2.2.2.1, z1.2.2.2.2.2.2.2.2.2.1, z1.2.2.2.2.2.2.2.2.2.2.1, z1.2.2.2.2.2.2.2.2.2.2.2) hC trivial trivial (by kernel_rfl) (by kernel_rfl) (sI h).symm
theorem e90s1 : Enters Tryz.prog 90 := Go.SL.enters_of Tryz.func90 (by kernel_rfl) (by kernel_rfl)
def lv142 : List Nat := [0, 1, 2, 3, 4, 6, 7, 8, 9, 15]
theorem k142 (x0 : api_Board) (x1 : api_Power) (x2 : Int) (r : api_Power × Int) (h : F142 x0 x1 x2 = some r) : CallOk Tryz.prog 142 [.agg (d29 x0), .agg (d35 x1), .d (I x2)] [] (.tup [.agg [.os 0, .os 1, .os 2, .os 3], .d (I r.2)]) (p4 r.1 []) := by
 unfold F142 at h
 refine callOk_of 29 Tryz.func142 rfl rfl rfl fun C hC => ?_
 obtain ⟨y1, h2, h⟩ := bindE h
 refine WI_stop (bs := []) mixed lv142 28 [] [.call 213 [.agg (d29 x0), .agg (d35 x1), .d (I x2)] [] (.d (I y1)) [] []] [.ownb 2 0 4 1, .ownb 2 1 59 4, .ownb 2 2 3 1, .ownb 2 3 119 2] 0 n7_ [(2, .d (I x2)), (3, .d (.o 0 0)), (4, .d (.o 1 0)), (6, .d (.o 2 0)), (7, .d (I 0)), (8, .d (I y1)), (15, .d (Bo (y1 != 0)))] (.box 29 (d29 x0) :: .box 35 (d35 x1) :: .box 35 [.os 3, .os 4, .os 5, .os 6] :: e4 []) hC ⟨⟨e213, (k213 x0 x1 x2 _ h2)⟩, trivial⟩ trivial (by kernel_rfl) ?_
 rcases boolC ((y1 != 0)) with h3 | h3
 ·replace h := condT h3 h
  replace h := sI h
  subst h
  exact WI_ret (bs := [((y1 != 0), true)]) mixed lv142 24 [true] [] [.ownb 2 0 4 1, .ownb 2 1 59 4, .ownb 2 2 3 1, .ownb 2 3 119 2] [.cell 6 35, .tmp 7] 0 [7, 8, 9, 10] rfl hC trivial ⟨h3, trivial⟩ (by kernel_rfl)
 ·replace h := condF h3 h
  obtain ⟨y4, h5, h⟩ := bindE h
  obtain ⟨y6, h7, h⟩ := bindE h
  obtain ⟨y8, h9, h⟩ := bindE h
  obtain ⟨y10, h11, h⟩ := bindE h
  replace h := sI h
  subst h
  exact WI_ret (bs := [((y1 != 0), false)]) mixed lv142 29 [false] [.call 70 [.agg (d35 x1)] [] (.agg [.os 0, .os 1, .os 2, .os 3]) (p4 y4 []) [], .row (y4.Closed.map pB) x2 (pB y6), .upd (y4.Closed.map pB) (Int.toNat x2) (pB y6) (pB true) (y8.map pB), .call 101 [.agg (d29 x0), .agg [.os 0, .os 1, .os 2, .os 3]] [.sl 4 1 (y8.map pB), .sl 59 4 (y4.Sources.map q59), .sl 3 1 (y4.Limits.map pI), .sl 119 2 (y4.Broken.map q119)] (.tup [.agg [.os 4, .os 5, .os 6, .os 7], .d (I y10.2)]) (.sl 4 1 (y8.map pB) :: .sl 59 4 (y4.Sources.map q59) :: .sl 3 1 (y4.Limits.map pI) :: .sl 119 2 (y4.Broken.map q119) :: p4 y10.1 []) [7, 8, 9, 10]] [] [.cell 6 35, .tmp 7] 0 [12, 13, 14, 15] rfl hC ⟨⟨e70, (k70 x1 _ h5)⟩, row_get h7, upd_get h7 h9, ⟨e101, ((k101 x0 (⟨y8, y4.Sources, y4.Limits, y4.Broken⟩ : api_Power) _ h11).lend (by kernel_rfl) (by kernel_rfl) (by kernel_rfl) ⟨flat_sl (fun _ => rfl), flat_sl (fun _ => rfl), flat_sl (fun _ => rfl), flat_sl (fun _ => rfl), trivial⟩ (by kernel_rfl) (by kernel_rfl))⟩, trivial⟩ ⟨h3, trivial⟩ (by kernel_rfl)
theorem e142 : Enters Tryz.prog 142 := Go.SL.enters_of Tryz.func142 (by kernel_rfl) (by kernel_rfl)
theorem k157s1 (x0 : shed_relief) (r : shed_relief) (h : F157s1 x0 = some r) : CallOk Tryz.prog 157 [.d (.o 0 0)] (.box 244 (b6 x0.board [.os 1, .os 2, .os 3, .os 4, .os 5]) :: p4 x0.power [.sl 42 3 (x0.acts.map q42)]) (.tup []) (.box 244 (b6 r.board [.os 6, .os 7, .os 8, .os 9, .os 10]) :: .non :: .non :: .non :: .non :: .non :: p4 r.power [.sl 42 3 (r.acts.map q42)]) := by
 unfold F157s1 at h
 refine callOk_of 24 Tryz.func157 rfl rfl rfl fun C hC => ?_
 obtain ⟨y1, h2, h⟩ := bindE h
 obtain ⟨y3, h4, h⟩ := bindE h
 obtain ⟨y5, h6, h⟩ := bindE h
 replace h := sI h
 subst h
 exact WI_endF (bs := []) mixed [0, 1] 27 [] [.call 222 [.d (.o 0 0), .d (.fn (.func 223) [.o 0 0] [])] (.box 244 (b6 x0.board [.os 1, .os 2, .os 3, .os 4, .os 5]) :: p4 x0.power [.sl 42 3 (x0.acts.map q42)]) (.tup []) (.box 244 (b6 y1.board [.os 6, .os 7, .os 8, .os 9, .os 10]) :: .non :: .non :: .non :: .non :: .non :: p4 y1.power [.sl 42 3 (y1.acts.map q42)]) n6_, .call 222 [.d (.o 0 0), .d (.fn (.func 224) [] [.o 6 0])] (.box 244 (b6 y1.board [.os 1, .os 2, .os 3, .os 4, .os 5]) :: p4 y1.power [.sl 42 3 (y1.acts.map q42), .box 198 [.o 0 0]]) (.tup []) (.box 244 (b6 y3.board [.os 7, .os 8, .os 9, .os 10, .os 11]) :: .non :: .non :: .non :: .non :: .non :: .box 198 [.o 0 0] :: p4 y3.power [.sl 42 3 (y3.acts.map q42)]) [0, 7, 8, 9, 10, 11, 6], .call 101 [.agg (d29 y3.board), .agg [.os 0, .os 1, .os 2, .os 3]] (p4 y3.power []) (.tup [.agg [.os 4, .os 5, .os 6, .os 7], .d (I y5.2)]) (p4 y3.power (p4 y5.1 [])) [12, 13, 14, 15]] [] [] 6 [0, 1, 2, 3, 4, 5, 17, 18, 19, 20, 16] rfl hC ⟨⟨e222s1, (k222s1 x0 _ h2)⟩, ⟨e222s2, (k222s2 y1 _ h4)⟩, ⟨e101, ((k101 y3.board y3.power _ h6).lend (by kernel_rfl) (by kernel_rfl) (by kernel_rfl) ⟨flat_sl (fun _ => rfl), flat_sl (fun _ => rfl), flat_sl (fun _ => rfl), flat_sl (fun _ => rfl), trivial⟩ (by kernel_rfl) (by kernel_rfl))⟩, trivial⟩ trivial (by kernel_rfl) (by kernel_rfl)
theorem e157s1 : Enters Tryz.prog 157 := Go.SL.enters_of Tryz.func157 (by kernel_rfl) (by kernel_rfl)
def lv158s1 : List Nat := [0, 2, 4, 5, 19, 20, 21, 22, 32]
def st158s1_0 (y3 : (List api_Island)) (n0 : Nat) (z0 : Sg6) : St := [(0, .d (.o 0 0)), (2, .d (.os 6)), (19, .d (.os 7)), (20, .d (I (y3.length : Int))), (21, .d (I (cnt 0 n0)))]
def R158s1_0 (y1 : (List Int)) (y3 : (List api_Island)) (n0 : Nat) (z0 : Sg6) : List Res := [.box 244 [I z0.1, DS q66 z0.2.1, DS q57 z0.2.2.1, DS q108 z0.2.2.2.1, I z0.2.2.2.2.1, I z0.2.2.2.2.2.1, .os 8, .os 9, .os 10, .os 11, .os 12], .non, .non, .non, .non, .non, .sl 3 1 (y1.map pI), .sl 78 3 (y3.map q78), .sl 4 1 (z0.2.2.2.2.2.2.1.map pB), .sl 59 4 (z0.2.2.2.2.2.2.2.1.map q59), .sl 3 1 (z0.2.2.2.2.2.2.2.2.1.map pI), .sl 119 2 (z0.2.2.2.2.2.2.2.2.2.1.map q119), .sl 42 3 (z0.2.2.2.2.2.2.2.2.2.2.map q42)]
def sa158s1_0  (z0 : Sg6) : St := []
def Ra158s1_0  (z0 : Sg6) : List Res := [.box 244 [I z0.1, DS q66 z0.2.1, DS q57 z0.2.2.1, DS q108 z0.2.2.2.1, I z0.2.2.2.2.1, I z0.2.2.2.2.2.1, .os 6, .os 7, .os 8, .os 9, .os 10], .non, .non, .non, .non, .non, .sl 4 1 (z0.2.2.2.2.2.2.1.map pB), .sl 59 4 (z0.2.2.2.2.2.2.2.1.map q59), .sl 3 1 (z0.2.2.2.2.2.2.2.2.1.map pI), .sl 119 2 (z0.2.2.2.2.2.2.2.2.2.1.map q119), .sl 42 3 (z0.2.2.2.2.2.2.2.2.2.2.map q42)]
theorem k158s1 (x0 : shed_relief) (r : shed_relief) (h : F158s1 x0 = some r) : CallOk Tryz.prog 158 [.d (.o 0 0)] (.box 244 (b6 x0.board [.os 1, .os 2, .os 3, .os 4, .os 5]) :: p4 x0.power [.sl 42 3 (x0.acts.map q42)]) (.tup []) (.box 244 (b6 r.board [.os 6, .os 7, .os 8, .os 9, .os 10]) :: .non :: .non :: .non :: .non :: .non :: p4 r.power [.sl 42 3 (r.acts.map q42)]) := by
 unfold F158s1 at h
 refine callOk_of 48 Tryz.func158 rfl rfl rfl fun C hC => ?_
 obtain ⟨y1, h2, h⟩ := bindE h
 obtain ⟨y3, h4, h⟩ := bindE h
 refine WI_stop (bs := []) mixed lv158s1 25 [] [.call 167 [.agg (d29 x0.board)] [] (.d (.os 0)) [.sl 3 1 (y1.map pI)] [], .call 106 [.agg (d29 x0.board), .agg [.os 0, .os 1, .os 2, .os 3]] (p4 x0.power []) (.d (.os 4)) (p4 x0.power [.sl 78 3 (y3.map q78)]) [1, 2, 3, 4], .len ((y3.map q78).length : Int) (y3.length : Int)] [.mv 1, .mv 2, .mv 3, .mv 4, .mv 5] 6 n13_ (st158s1_0 y3 0 (t6 x0.board (t4 x0.power x0.acts))) (R158s1_0 y1 y3 0 (t6 x0.board (t4 x0.power x0.acts))) hC ⟨⟨e167, (k167 x0.board _ h2)⟩, ⟨e106s0, (k106s0 x0.board x0.power _ h4)⟩, len_map _ _, trivial⟩ trivial (by kernel_rfl) ?_
 obtain ⟨w0, hm0, hret0, hnext0⟩ := andThen_inv h
 clear h
 refine WI_cut (by kernel_rfl) (fun s => w0 = .next s) (sa158s1_0) (Ra158s1_0) ?_ fun z0 hs0 => ?_
 ·refine WI_blk (by kernel_rfl) ?_
  refine WI_lenO 19 7 rfl rfl fun hl0 => ?_
  refine WI_foldI (by kernel_rfl) (F158s1_l0 y1) (st158s1_0 y3) (R158s1_0 y1 y3) w0 y3 (t6 x0.board (t4 x0.power x0.acts)) hm0 rfl rfl (fun z0 hn0 => ?_) fun n0 a0 z0 w0b hi0 hx0 h hb0 hr0 => ?_
  ·clear hm0
   exact WI_end (bs := [(decide ((cnt 0 y3.length) < (y3.length : Int)), false)]) (φ := fun s' => w0 = .next s') (st' := (sa158s1_0)) (R' := (Ra158s1_0)) mixed lv158s1 26 [false] [] [] 6 [0, 1, 2, 3, 4, 5, 8, 9, 10, 11, 12] (z0.1, z0.2.1, z0.2.2.1, z0.2.2.2.1, z0.2.2.2.2.1, z0.2.2.2.2.2.1, z0.2.2.2.2.2.2.1, z0.2.2.2.2.2.2.2.1, z0.2.2.2.2.2.2.2.2.1, z0.2.2.2.2.2.2.2.2.2.1, z0.2.2.2.2.2.2.2.2.2.2) hC trivial ⟨(cnt_end hl0), trivial⟩ (by kernel_rfl) (by kernel_rfl) hn0
  ·unfold F158s1_l0 at h
   obtain ⟨y5, h6, h⟩ := bindE h
   obtain ⟨y7, h8, h⟩ := bindE h
   refine WI_stop (bs := [(decide ((cnt 0 n0) < (y3.length : Int)), true)]) mixed lv158s1 34 [true] [.row (y3.map q78) (cnt 0 n0) (q78 a0), .row (y3.map q78) (((Int.toNat (cnt 0 n0)) : Nat) : Int) (q78 a0), .call 140 [.d (.os 0)] [.sl 3 1 (y1.map pI)] (.d (.os 1)) [.sl 3 1 (y1.map pI), .sl 3 1 (y5.map pI)] [6], .call 225 [.d (.os 0), .d (.fn (.func 226) [] [.o 1 0])] [.sl 3 1 (y5.map pI), .box 78 (d78 a0)] (.d (.os 2)) [.non, .box 78 (d78 y7.2), .sl 3 1 (y7.1.map pI)] [14, 13], .len ((y7.2.Sources.map pI).length : Int) (y7.2.Sources.length : Int)] [] 6 [0, 1, 2, 3, 4, 5, 6, 7, 8, 9, 10, 11, 12, 13, 15] [(0, .d (.o 0 0)), (2, .d (.os 6)), (4, .d (.o 13 0)), (5, .d (.os 14)), (19, .d (.os 7)), (20, .d (I (y3.length : Int))), (21, .d (I (cnt 0 n0))), (32, .d (Bo (decide ((y7.2.Sources.length : Int) > 0))))] [.box 244 [I z0.1, DS q66 z0.2.1, DS q57 z0.2.2.1, DS q108 z0.2.2.2.1, I z0.2.2.2.2.1, I z0.2.2.2.2.2.1, .os 8, .os 9, .os 10, .os 11, .os 12], .non, .non, .non, .non, .non, .sl 3 1 (y1.map pI), .sl 78 3 (y3.map q78), .sl 4 1 (z0.2.2.2.2.2.2.1.map pB), .sl 59 4 (z0.2.2.2.2.2.2.2.1.map q59), .sl 3 1 (z0.2.2.2.2.2.2.2.2.1.map pI), .sl 119 2 (z0.2.2.2.2.2.2.2.2.2.1.map q119), .sl 42 3 (z0.2.2.2.2.2.2.2.2.2.2.map q42), .box 78 (d78 y7.2), .sl 3 1 (y7.1.map pI)] hC ⟨row_get (get_cnt hx0 hl0), row_getN (get_cnt hx0 hl0), ⟨e140, ((k140 y1 _ h6).lend (by kernel_rfl) (by kernel_rfl) (by kernel_rfl) ⟨flat_sl (fun _ => rfl), trivial⟩ (by kernel_rfl) (by kernel_rfl))⟩, ⟨e225s1, (k225s1 y5 a0 _ h8)⟩, len_map _ _, trivial⟩ ⟨(cnt_lt hi0 hl0), trivial⟩ (by kernel_rfl) ?_
   rcases boolC (decide ((y7.2.Sources.length : Int) > 0)) with h9 | h9
   ·replace h := condT h9 h
    obtain ⟨y10, h11, h⟩ := bindE h
    obtain ⟨y12, h13, h⟩ := bindE h
    obtain ⟨y14, h15, h⟩ := bindE h
    obtain ⟨y16, h17, h⟩ := bindE h
    exact WI_end (bs := [(decide ((y7.2.Sources.length : Int) > 0), true)]) (φ := fun s' => w0b = .next s') (st' := (st158s1_0 y3 (n0 + 1))) (R' := (R158s1_0 y1 y3 (n0 + 1))) mixed lv158s1 27 [true] [.row (y7.2.Buses.map pI) 0 (pI y10), .call 227 [.d (.o 0 0), .d (.os 6), .d (I y10)] [.box 244 [I z0.1, DS q66 z0.2.1, DS q57 z0.2.2.1, DS q108 z0.2.2.2.1, I z0.2.2.2.2.1, I z0.2.2.2.2.2.1, .os 1, .os 2, .os 3, .os 4, .os 5], .sl 4 1 (z0.2.2.2.2.2.2.1.map pB), .sl 59 4 (z0.2.2.2.2.2.2.2.1.map q59), .sl 3 1 (z0.2.2.2.2.2.2.2.2.1.map pI), .sl 119 2 (z0.2.2.2.2.2.2.2.2.2.1.map q119), .sl 42 3 (z0.2.2.2.2.2.2.2.2.2.2.map q42), .sl 3 1 (y7.1.map pI)] (.tup []) (.box 244 (b6 y12.board [.os 7, .os 8, .os 9, .os 10, .os 11]) :: .non :: .non :: .non :: .non :: .non :: .sl 3 1 (y7.1.map pI) :: p4 y12.power [.sl 42 3 (y12.acts.map q42)]) [0, 8, 9, 10, 11, 12, 14], .row (y7.2.Buses.map pI) 0 (pI y14), .call 228 [.d (.o 0 0), .d (.os 6), .d (I y14)] (.box 244 (b6 y12.board [.os 1, .os 2, .os 3, .os 4, .os 5]) :: p4 y12.power [.sl 42 3 (y12.acts.map q42), .sl 3 1 (y7.1.map pI)]) (.tup []) (.box 244 (b6 y16.board [.os 7, .os 8, .os 9, .os 10, .os 11]) :: .non :: .non :: .non :: .non :: .non :: .sl 3 1 (y7.1.map pI) :: p4 y16.power [.sl 42 3 (y16.acts.map q42)]) [0, 15, 16, 17, 18, 19, 14]] [] 6 [0, 1, 2, 3, 4, 5, 6, 7, 20, 21, 22, 23, 24] (t6 y16.board (t4 y16.power y16.acts)) hC ⟨row_get h11, ⟨e227s2, (k227s2 (⟨(⟨z0.1, z0.2.1, z0.2.2.1, z0.2.2.2.1, z0.2.2.2.2.1, z0.2.2.2.2.2.1⟩ : api_Board), (⟨z0.2.2.2.2.2.2.1, z0.2.2.2.2.2.2.2.1, z0.2.2.2.2.2.2.2.2.1, z0.2.2.2.2.2.2.2.2.2.1⟩ : api_Power), z0.2.2.2.2.2.2.2.2.2.2⟩ : shed_relief) y7.1 y10 _ h13)⟩, row_get h15, ⟨e228s1, (k228s1 y12 y7.1 y14 _ h17)⟩, trivial⟩ ⟨h9, trivial⟩ (by kernel_rfl) (by kernel_rfl) (sI h).symm
   ·replace h := condF h9 h
    exact WI_end (bs := [(decide ((y7.2.Sources.length : Int) > 0), false)]) (φ := fun s' => w0b = .next s') (st' := (st158s1_0 y3 (n0 + 1))) (R' := (R158s1_0 y1 y3 (n0 + 1))) mixed lv158s1 25 [false] [] [] 6 n13_ (z0.1, z0.2.1, z0.2.2.1, z0.2.2.2.1, z0.2.2.2.2.1, z0.2.2.2.2.2.1, z0.2.2.2.2.2.2.1, z0.2.2.2.2.2.2.2.1, z0.2.2.2.2.2.2.2.2.1, z0.2.2.2.2.2.2.2.2.2.1, z0.2.2.2.2.2.2.2.2.2.2) hC trivial ⟨h9, trivial⟩ (by kernel_rfl) (by kernel_rfl) (sI h).symm
 ·have h := hnext0 _ hs0
  replace h := sI h
  subst h
  exact WI_endF (bs := []) mixed lv158s1 20 [] [] [] [] 6 n11_ rfl hC trivial trivial (by kernel_rfl) (by kernel_rfl)
theorem e158s1 : Enters Tryz.prog 158 := Go.SL.enters_of Tryz.func158 (by kernel_rfl) (by kernel_rfl)
end Go.Proofs.YtkngbnedbgndoaaGreat
