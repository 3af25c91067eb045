import Derived.Test.YtkngbnedbgndoaaGreatM1
set_option linter.unusedVariables false
namespace Go.Proofs.YtkngbnedbgndoaaGreat
open Go.SL
def lv87s1 : List Nat := [0, 2, 3, 4, 9, 10, 11, 18, 19, 20, 56]
def st87s1_0 (x0 : restore_planner) (z0 : Sg8) : St := [(0, dO 0 0), (9, dI x0.board.Buses), (10, dI z0.1)]
def R87s1_0  (z0 : Sg8) : List Res := [.box 144 [I z0.2.1, DS q66 z0.2.2.1, DS q57 z0.2.2.2.1, DS q108 z0.2.2.2.2.1, I z0.2.2.2.2.2.1, I z0.2.2.2.2.2.2.1, .os 7, .os 8, .os 9, .os 10, .os 11, .os 12], .non, .non, .non, .non, .non, .non, .sl 4 1 (z0.2.2.2.2.2.2.2.1.map pB), .sl 59 4 (z0.2.2.2.2.2.2.2.2.1.map q59), .sl 3 1 (z0.2.2.2.2.2.2.2.2.2.1.map pI), .sl 119 2 (z0.2.2.2.2.2.2.2.2.2.2.1.map q119), .sl 4 1 (z0.2.2.2.2.2.2.2.2.2.2.2.1.map pB), .sl 42 3 (z0.2.2.2.2.2.2.2.2.2.2.2.2.map q42)]
def sa87s1_0  (z0 : Sg8) : St := []
def Ra87s1_0  (z0 : Sg8) : List Res := [.box 144 [I z0.2.1, DS q66 z0.2.2.1, DS q57 z0.2.2.2.1, DS q108 z0.2.2.2.2.1, I z0.2.2.2.2.2.1, I z0.2.2.2.2.2.2.1, .os 7, .os 8, .os 9, .os 10, .os 11, .os 12], .non, .non, .non, .non, .non, .non, .sl 4 1 (z0.2.2.2.2.2.2.2.1.map pB), .sl 59 4 (z0.2.2.2.2.2.2.2.2.1.map q59), .sl 3 1 (z0.2.2.2.2.2.2.2.2.2.1.map pI), .sl 119 2 (z0.2.2.2.2.2.2.2.2.2.2.1.map q119), .sl 4 1 (z0.2.2.2.2.2.2.2.2.2.2.2.1.map pB), .sl 42 3 (z0.2.2.2.2.2.2.2.2.2.2.2.2.map q42)]
def st87s1_1 (x0 : restore_planner) (z0 : Sg8) (z1 : Sg8) : St := [(0, dO 0 0), (2, dI z0.1), (9, dI x0.board.Buses), (10, dI z0.1), (18, dI (ln z0.2.2.2.1)), (19, dI z1.1)]
def R87s1_1  (z1 : Sg8) : List Res := [.box 144 [I z1.2.1, DS q66 z1.2.2.1, DS q57 z1.2.2.2.1, DS q108 z1.2.2.2.2.1, I z1.2.2.2.2.2.1, I z1.2.2.2.2.2.2.1, .os 7, .os 8, .os 9, .os 10, .os 11, .os 12], .non, .non, .non, .non, .non, .non, .sl 4 1 (z1.2.2.2.2.2.2.2.1.map pB), .sl 59 4 (z1.2.2.2.2.2.2.2.2.1.map q59), .sl 3 1 (z1.2.2.2.2.2.2.2.2.2.1.map pI), .sl 119 2 (z1.2.2.2.2.2.2.2.2.2.2.1.map q119), .sl 4 1 (z1.2.2.2.2.2.2.2.2.2.2.2.1.map pB), .sl 42 3 (z1.2.2.2.2.2.2.2.2.2.2.2.2.map q42)]
def sa87s1_1 (x0 : restore_planner) (z0 : Sg8) (z1 : Sg8) : St := [(0, dO 0 0), (9, dI x0.board.Buses), (10, dI z0.1)]
def Ra87s1_1  (z1 : Sg8) : List Res := [.box 144 [I z1.2.1, DS q66 z1.2.2.1, DS q57 z1.2.2.2.1, DS q108 z1.2.2.2.2.1, I z1.2.2.2.2.2.1, I z1.2.2.2.2.2.2.1, .os 7, .os 8, .os 9, .os 10, .os 11, .os 12], .non, .non, .non, .non, .non, .non, .sl 4 1 (z1.2.2.2.2.2.2.2.1.map pB), .sl 59 4 (z1.2.2.2.2.2.2.2.2.1.map q59), .sl 3 1 (z1.2.2.2.2.2.2.2.2.2.1.map pI), .sl 119 2 (z1.2.2.2.2.2.2.2.2.2.2.1.map q119), .sl 4 1 (z1.2.2.2.2.2.2.2.2.2.2.2.1.map pB), .sl 42 3 (z1.2.2.2.2.2.2.2.2.2.2.2.2.map q42)]
theorem k87s1 (x0 : restore_planner) (r : restore_planner) (h : F87s1 x0 = some r) : CallOk Tryz.prog 87 [.d (.o 0 0)] (.box 144 (zb x0.board [.os 1, .os 2, .os 3, .os 4, .os 5, .os 6]) :: zp x0.power [.sl 4 1 (x0.goal.map pB), .sl 42 3 (x0.acts.map q42)]) (.tup []) (.box 144 (zb r.board [.os 7, .os 8, .os 9, .os 10, .os 11, .os 12]) :: .non :: .non :: .non :: .non :: .non :: .non :: zp r.power [.sl 4 1 (r.goal.map pB), .sl 42 3 (r.acts.map q42)]) := by
 unfold F87s1 at h
 refine callOk_of 62 Tryz.func87 rfl rfl rfl fun C hC => ?_
 refine ws (bs := []) lv87s1 23 [] [] [.mv 1, .mv 2, .mv 3, .mv 4, .mv 5, .mv 6] 7 n13_ (st87s1_0 x0 (0, zt x0.board (zu x0.power (x0.goal, x0.acts)))) (R87s1_0 (0, zt x0.board (zu x0.power (x0.goal, x0.acts)))) hC trivial trivial ?_
 obtain ⟨w0, hm0, hret0, hnext0⟩ := andThen_inv h
 clear h
 refine WI_cut (by kernel_rfl) (fun s => w0 = .next s) (sa87s1_0) (Ra87s1_0) ?_ fun z0 hs0 => ?_
 ·refine WI_blk (by kernel_rfl) ?_
  refine WI_while (by kernel_rfl) (F87s1_l0 x0) (st87s1_0 x0) (R87s1_0) w0 1152921504606846976 (0, zt x0.board (zu x0.power (x0.goal, x0.acts))) hm0 rfl rfl fun z0 w0b h hb0 hr0 => ?_
  unfold F87s1_l0 at h
  rcases boolC (decide (z0.1 < x0.board.Buses)) with h1 | h1
  ·replace h := condT h1 h
   refine ws (bs := [(decide (z0.1 < x0.board.Buses), true)]) lv87s1 32 [true] [.len (ln (z0.2.2.2.1.map q57)) (ln z0.2.2.2.1)] [] 7 n13_ (st87s1_1 x0 z0 (0, z0.2.1, z0.2.2.1, z0.2.2.2.1, z0.2.2.2.2.1, z0.2.2.2.2.2.1, z0.2.2.2.2.2.2.1, z0.2.2.2.2.2.2.2.1, z0.2.2.2.2.2.2.2.2.1, z0.2.2.2.2.2.2.2.2.2.1, z0.2.2.2.2.2.2.2.2.2.2.1, z0.2.2.2.2.2.2.2.2.2.2.2.1, z0.2.2.2.2.2.2.2.2.2.2.2.2)) (R87s1_1 (0, z0.2.1, z0.2.2.1, z0.2.2.2.1, z0.2.2.2.2.1, z0.2.2.2.2.2.1, z0.2.2.2.2.2.2.1, z0.2.2.2.2.2.2.2.1, z0.2.2.2.2.2.2.2.2.1, z0.2.2.2.2.2.2.2.2.2.1, z0.2.2.2.2.2.2.2.2.2.2.1, z0.2.2.2.2.2.2.2.2.2.2.2.1, z0.2.2.2.2.2.2.2.2.2.2.2.2)) hC ⟨len_map _ _, trivial⟩ ⟨h1, trivial⟩ ?_
   obtain ⟨w1, hm1, hret1, hnext1⟩ := andThen_inv h
   clear h
   refine WI_cut (by kernel_rfl) (fun s => w1 = .next s) (sa87s1_1 x0 z0) (Ra87s1_1) ?_ fun z1 hs1 => ?_
   ·refine WI_blk (by kernel_rfl) ?_
    refine WI_while (by kernel_rfl) (F87s1_l1 z0) (st87s1_1 x0 z0) (R87s1_1) w1 1152921504606846976 (0, z0.2.1, z0.2.2.1, z0.2.2.2.1, z0.2.2.2.2.1, z0.2.2.2.2.2.1, z0.2.2.2.2.2.2.1, z0.2.2.2.2.2.2.2.1, z0.2.2.2.2.2.2.2.2.1, z0.2.2.2.2.2.2.2.2.2.1, z0.2.2.2.2.2.2.2.2.2.2.1, z0.2.2.2.2.2.2.2.2.2.2.2.1, z0.2.2.2.2.2.2.2.2.2.2.2.2) hm1 rfl rfl fun z1 w1b h hb1 hr1 => ?_
    unfold F87s1_l1 at h
    rcases boolC ((c87s1_8 z0 z1)) with h2 | h2
    ·replace h := condT h2 h
     obtain ⟨y3, h4, h⟩ := bindE h
     obtain ⟨y5, h6, h⟩ := bindE h
     obtain ⟨y7, h8, h⟩ := bindE h
     obtain ⟨y9, h10, h⟩ := bindE h
     refine ws (bs := [((c87s1_8 z0 z1), true)]) lv87s1 34 [true] [.call 67 [.agg [I z1.2.1, DS q66 z1.2.2.1, DS q57 z1.2.2.2.1, DS q108 z1.2.2.2.2.1, I z1.2.2.2.2.2.1, I z1.2.2.2.2.2.2.1], dI z1.1] [] (dI y3) [] [], .row (z1.2.2.1.map q66) y3 (q66 y5), .when [((y5.A == z0.1), true)] (.callB 66 [.agg [I z1.2.1, DS q66 z1.2.2.1, DS q57 z1.2.2.2.1, DS q108 z1.2.2.2.2.1, I z1.2.2.2.2.2.1, I z1.2.2.2.2.2.2.1], .agg [DS pB z1.2.2.2.2.2.2.2.1, DS q59 z1.2.2.2.2.2.2.2.2.1, DS pI z1.2.2.2.2.2.2.2.2.2.1, DS q119 z1.2.2.2.2.2.2.2.2.2.2.1], dI z1.1] (dB y7) [[]] 0 []), .when [(((y5.A == z0.1) && y7), true)] (.callB 164 [.d (.ip [.v (.int .i64 z1.2.1), .s (z1.2.2.1.map q66), .s (z1.2.2.2.1.map q57), .s (z1.2.2.2.2.1.map q108), .v (.int .i64 z1.2.2.2.2.2.1), .v (.int .i64 z1.2.2.2.2.2.2.1), .s (z1.2.2.2.2.2.2.2.1.map pB), .s (z1.2.2.2.2.2.2.2.2.1.map q59), .s (z1.2.2.2.2.2.2.2.2.2.1.map pI), .s (z1.2.2.2.2.2.2.2.2.2.2.1.map q119), .s (z1.2.2.2.2.2.2.2.2.2.2.2.1.map pB), .s (z1.2.2.2.2.2.2.2.2.2.2.2.2.map q42)]), dI z0.1] (dB y9) [[]] 0 [])] [] 7 n13_ [(0, dO 0 0), (2, dI z0.1), (4, dI y3), (9, dI x0.board.Buses), (10, dI z0.1), (18, dI (ln z0.2.2.2.1)), (19, dI z1.1), (56, dB (((y5.A == z0.1) && y7) && (!y9)))] [.box 144 [I z1.2.1, DS q66 z1.2.2.1, DS q57 z1.2.2.2.1, DS q108 z1.2.2.2.2.1, I z1.2.2.2.2.2.1, I z1.2.2.2.2.2.2.1, .os 7, .os 8, .os 9, .os 10, .os 11, .os 12], .non, .non, .non, .non, .non, .non, .sl 4 1 (z1.2.2.2.2.2.2.2.1.map pB), .sl 59 4 (z1.2.2.2.2.2.2.2.2.1.map q59), .sl 3 1 (z1.2.2.2.2.2.2.2.2.2.1.map pI), .sl 119 2 (z1.2.2.2.2.2.2.2.2.2.2.1.map q119), .sl 4 1 (z1.2.2.2.2.2.2.2.2.2.2.2.1.map pB), .sl 42 3 (z1.2.2.2.2.2.2.2.2.2.2.2.2.map q42)] hC ⟨⟨e67, (k67 (⟨z1.2.1, z1.2.2.1, z1.2.2.2.1, z1.2.2.2.2.1, z1.2.2.2.2.2.1, z1.2.2.2.2.2.2.1⟩ : api_Board) z1.1 _ h4)⟩, row_get h6, fun hg => lend0_get ⟨e66, (k66 (⟨z1.2.1, z1.2.2.1, z1.2.2.2.1, z1.2.2.2.2.1, z1.2.2.2.2.2.1, z1.2.2.2.2.2.2.1⟩ : api_Board) (⟨z1.2.2.2.2.2.2.2.1, z1.2.2.2.2.2.2.2.2.1, z1.2.2.2.2.2.2.2.2.2.1, z1.2.2.2.2.2.2.2.2.2.2.1⟩ : api_Power) z1.1 _ (guardO_get h8 hg))⟩, fun hg => lend0_get ⟨e164s0, (k164s0 (⟨(⟨z1.2.1, z1.2.2.1, z1.2.2.2.1, z1.2.2.2.2.1, z1.2.2.2.2.2.1, z1.2.2.2.2.2.2.1⟩ : api_Board), (⟨z1.2.2.2.2.2.2.2.1, z1.2.2.2.2.2.2.2.2.1, z1.2.2.2.2.2.2.2.2.2.1, z1.2.2.2.2.2.2.2.2.2.2.1⟩ : api_Power), z1.2.2.2.2.2.2.2.2.2.2.2.1, z1.2.2.2.2.2.2.2.2.2.2.2.2⟩ : restore_planner) z0.1 _ (guardO_get h10 hg))⟩, trivial⟩ ⟨h2, trivial⟩ ?_
     rcases boolC ((((y5.A == z0.1) && y7) && (!y9))) with h11 | h11
     ·replace h := condT h11 h
      obtain ⟨y12, h13, h⟩ := bindE h
      exact we (bs := [((((y5.A == z0.1) && y7) && (!y9)), true)]) (φ := fun s' => w1b = .next s') (st' := (st87s1_1 x0 z0)) (R' := (R87s1_1)) lv87s1 25 [true] [.call 89 [dO 0 0, dI 1, dI y3] [.box 144 [I z1.2.1, DS q66 z1.2.2.1, DS q57 z1.2.2.2.1, DS q108 z1.2.2.2.2.1, I z1.2.2.2.2.2.1, I z1.2.2.2.2.2.2.1, .os 1, .os 2, .os 3, .os 4, .os 5, .os 6], .sl 4 1 (z1.2.2.2.2.2.2.2.1.map pB), .sl 59 4 (z1.2.2.2.2.2.2.2.2.1.map q59), .sl 3 1 (z1.2.2.2.2.2.2.2.2.2.1.map pI), .sl 119 2 (z1.2.2.2.2.2.2.2.2.2.2.1.map q119), .sl 4 1 (z1.2.2.2.2.2.2.2.2.2.2.2.1.map pB), .sl 42 3 (z1.2.2.2.2.2.2.2.2.2.2.2.2.map q42)] (.tup []) (.box 144 (zb y12.board [.os 1, .os 2, .os 3, .os 4, .os 5, .os 7]) :: zp y12.power [.sl 4 1 (y12.goal.map pB), .non, .sl 42 3 (y12.acts.map q42)]) [0, 7, 8, 9, 10, 11, 12]] [] 7 [0, 1, 2, 3, 4, 5, 6, 7, 8, 9, 10, 11, 13] (w64 (z1.1 + 1), zt y12.board (zu y12.power (y12.goal, y12.acts))) hC ⟨⟨e89s1, (k89s1 (⟨(⟨z1.2.1, z1.2.2.1, z1.2.2.2.1, z1.2.2.2.2.1, z1.2.2.2.2.2.1, z1.2.2.2.2.2.2.1⟩ : api_Board), (⟨z1.2.2.2.2.2.2.2.1, z1.2.2.2.2.2.2.2.2.1, z1.2.2.2.2.2.2.2.2.2.1, z1.2.2.2.2.2.2.2.2.2.2.1⟩ : api_Power), z1.2.2.2.2.2.2.2.2.2.2.2.1, z1.2.2.2.2.2.2.2.2.2.2.2.2⟩ : restore_planner) 1 y3 _ h13)⟩, trivial⟩ ⟨h11, trivial⟩ (sI h).symm
     ·replace h := condF h11 h
      exact we (bs := [((((y5.A == z0.1) && y7) && (!y9)), false)]) (φ := fun s' => w1b = .next s') (st' := (st87s1_1 x0 z0)) (R' := (R87s1_1)) lv87s1 25 [false] [] [] 7 n13_ (w64 (z1.1 + 1), z1.2.1, z1.2.2.1, z1.2.2.2.1, z1.2.2.2.2.1, z1.2.2.2.2.2.1, z1.2.2.2.2.2.2.1, z1.2.2.2.2.2.2.2.1, z1.2.2.2.2.2.2.2.2.1, z1.2.2.2.2.2.2.2.2.2.1, z1.2.2.2.2.2.2.2.2.2.2.1, z1.2.2.2.2.2.2.2.2.2.2.2.1, z1.2.2.2.2.2.2.2.2.2.2.2.2) hC trivial ⟨h11, trivial⟩ (sI h).symm
    ·replace h := condF h2 h
     exact we (bs := [((c87s1_8 z0 z1), false)]) (φ := fun s' => w1 = .next s') (st' := (sa87s1_1 x0 z0)) (R' := (Ra87s1_1)) lv87s1 26 [false] [] [] 7 n13_ (z1.1, z1.2.1, z1.2.2.1, z1.2.2.2.1, z1.2.2.2.2.1, z1.2.2.2.2.2.1, z1.2.2.2.2.2.2.1, z1.2.2.2.2.2.2.2.1, z1.2.2.2.2.2.2.2.2.1, z1.2.2.2.2.2.2.2.2.2.1, z1.2.2.2.2.2.2.2.2.2.2.1, z1.2.2.2.2.2.2.2.2.2.2.2.1, z1.2.2.2.2.2.2.2.2.2.2.2.2) hC trivial ⟨h2, trivial⟩ (hb1 _ (sI h).symm)
   ·have h := hnext1 _ hs1
    exact we (bs := []) (φ := fun s' => w0b = .next s') (st' := (st87s1_0 x0)) (R' := (R87s1_0)) lv87s1 23 [] [] [] 7 n13_ (w64 (z0.1 + 1), z1.2.1, z1.2.2.1, z1.2.2.2.1, z1.2.2.2.2.1, z1.2.2.2.2.2.1, z1.2.2.2.2.2.2.1, z1.2.2.2.2.2.2.2.1, z1.2.2.2.2.2.2.2.2.1, z1.2.2.2.2.2.2.2.2.2.1, z1.2.2.2.2.2.2.2.2.2.2.1, z1.2.2.2.2.2.2.2.2.2.2.2.1, z1.2.2.2.2.2.2.2.2.2.2.2.2) hC trivial trivial (sI h).symm
  ·replace h := condF h1 h
   exact we (bs := [(decide (z0.1 < x0.board.Buses), false)]) (φ := fun s' => w0 = .next s') (st' := (sa87s1_0)) (R' := (Ra87s1_0)) lv87s1 26 [false] [] [] 7 n13_ (z0.1, z0.2.1, z0.2.2.1, z0.2.2.2.1, z0.2.2.2.2.1, z0.2.2.2.2.2.1, z0.2.2.2.2.2.2.1, z0.2.2.2.2.2.2.2.1, z0.2.2.2.2.2.2.2.2.1, z0.2.2.2.2.2.2.2.2.2.1, z0.2.2.2.2.2.2.2.2.2.2.1, z0.2.2.2.2.2.2.2.2.2.2.2.1, z0.2.2.2.2.2.2.2.2.2.2.2.2) hC trivial ⟨h1, trivial⟩ (hb0 _ (sI h).symm)
 ·have h := hnext0 _ hs0
  replace h := sI h
  subst h
  exact wf (bs := []) lv87s1 20 [] [] [] [] 7 n13_ hC trivial trivial
theorem e87s1 : Enters Tryz.prog 87 := en Tryz.func87
def lv88s0 : List Nat := [0, 2, 3, 4, 5, 10, 11, 12, 13, 63]
def st88s0_0 (x0 : restore_planner) (n0 : Nat) (z0 : Unit) : St := [(0, .d (.ip [.v (.int .i64 x0.board.Buses), .s (x0.board.Breakers.map q66), .s (x0.board.Sources.map q57), .s (x0.board.Consumers.map q108), .v (.int .i64 x0.board.Phase), .v (.int .i64 x0.board.Frequency), .s (x0.power.Closed.map pB), .s (x0.power.Sources.map q59), .s (x0.power.Limits.map pI), .s (x0.power.Broken.map q119), .s (x0.goal.map pB), .s (x0.acts.map q42)])), (2, dI 0), (3, dB false), (10, .d (DS q66 x0.board.Breakers)), (11, dI (ln x0.board.Breakers)), (12, dI (cnt 0 n0))]
def R88s0_0  (n0 : Nat) (z0 : Unit) : List Res := []
def sa88s0_0  (z0 : Unit) : St := [(2, dI 0), (3, dB false)]
def Ra88s0_0  (z0 : Unit) : List Res := []
theorem k88s0 (x0 : restore_planner) (r : Int × Bool) (h : F88s0 x0 = some r) : CallOk Tryz.prog 88 [.d (.ip [.v (.int .i64 x0.board.Buses), .s (x0.board.Breakers.map q66), .s (x0.board.Sources.map q57), .s (x0.board.Consumers.map q108), .v (.int .i64 x0.board.Phase), .v (.int .i64 x0.board.Frequency), .s (x0.power.Closed.map pB), .s (x0.power.Sources.map q59), .s (x0.power.Limits.map pI), .s (x0.power.Broken.map q119), .s (x0.goal.map pB), .s (x0.acts.map q42)])] [] (.tup [.d (I r.1), .d (Bo r.2)]) [] := by
 unfold F88s0 at h
 refine callOk_of 66 Tryz.func88 rfl rfl rfl fun C hC => ?_
 refine ws (bs := []) lv88s0 26 [] [.len (ln (x0.board.Breakers.map q66)) (ln x0.board.Breakers)] [] 0 [] (st88s0_0 x0 0 ()) (R88s0_0 0 ()) hC ⟨len_map _ _, trivial⟩ trivial ?_
 obtain ⟨w0, hm0, hret0, hnext0⟩ := andThen_inv h
 clear h
 refine WI_cut (by kernel_rfl) (fun s => w0 = .next s) (sa88s0_0) (Ra88s0_0) ?_ fun z0 hs0 => ?_
 ·refine WI_blk (by kernel_rfl) ?_
  refine WI_len 10 rfl fun hl0 => ?_
  refine WI_foldI (by kernel_rfl) (F88s0_l0 x0) (st88s0_0 x0) (R88s0_0) w0 x0.board.Breakers () hm0 rfl rfl (fun z0 hn0 => ?_) fun n0 a0 z0 w0b hi0 hx0 h hb0 hr0 => ?_
  ·clear hm0
   exact we (bs := [(decide ((cnt 0 x0.board.Breakers.length) < (ln x0.board.Breakers)), false)]) (φ := fun s' => w0 = .next s') (st' := (sa88s0_0)) (R' := (Ra88s0_0)) lv88s0 26 [false] [] [] 0 [] () hC trivial ⟨(cnt_end hl0), trivial⟩ hn0
  ·unfold F88s0_l0 at h
   obtain ⟨y1, h2, h⟩ := bindE h
   obtain ⟨y3, h4, h⟩ := bindE h
   obtain ⟨y5, h6, h⟩ := bindE h
   obtain ⟨y7, h8, h⟩ := bindE h
   obtain ⟨y9, h10, h⟩ := bindE h
   refine ws (bs := [(decide ((cnt 0 n0) < (ln x0.board.Breakers)), true)]) lv88s0 32 [true] [.row (x0.board.Breakers.map q66) (cnt 0 n0) (q66 a0), .when [((a0.Kind == 1), true)] (.row (x0.power.Closed.map pB) (cnt 0 n0) (pB y1)), .when [(((a0.Kind == 1) && (!y1)), true)] (.call 68 [.agg (d29 x0.board), .agg (d35 x0.power), dI (cnt 0 n0)] [] (dB y3) [] []), .when [((((a0.Kind == 1) && (!y1)) && y3), true)] (.row (x0.goal.map pB) a0.A (pB y5)), .when [(((((a0.Kind == 1) && (!y1)) && y3) && y5), true)] (.call 164 [.d (.ip [.v (.int .i64 x0.board.Buses), .s (x0.board.Breakers.map q66), .s (x0.board.Sources.map q57), .s (x0.board.Consumers.map q108), .v (.int .i64 x0.board.Phase), .v (.int .i64 x0.board.Frequency), .s (x0.power.Closed.map pB), .s (x0.power.Sources.map q59), .s (x0.power.Limits.map pI), .s (x0.power.Broken.map q119), .s (x0.goal.map pB), .s (x0.acts.map q42)]), dI a0.A] [] (dB y7) [] []), .when [(((((a0.Kind == 1) && (!y1)) && y3) && y5), true)] (.call 164 [.d (.ip [.v (.int .i64 x0.board.Buses), .s (x0.board.Breakers.map q66), .s (x0.board.Sources.map q57), .s (x0.board.Consumers.map q108), .v (.int .i64 x0.board.Phase), .v (.int .i64 x0.board.Frequency), .s (x0.power.Closed.map pB), .s (x0.power.Sources.map q59), .s (x0.power.Limits.map pI), .s (x0.power.Broken.map q119), .s (x0.goal.map pB), .s (x0.acts.map q42)]), dI a0.B] [] (dB y9) [] [])] [] 0 [] [(0, .d (.ip [.v (.int .i64 x0.board.Buses), .s (x0.board.Breakers.map q66), .s (x0.board.Sources.map q57), .s (x0.board.Consumers.map q108), .v (.int .i64 x0.board.Phase), .v (.int .i64 x0.board.Frequency), .s (x0.power.Closed.map pB), .s (x0.power.Sources.map q59), .s (x0.power.Limits.map pI), .s (x0.power.Broken.map q119), .s (x0.goal.map pB), .s (x0.acts.map q42)])), (2, dI 0), (3, dB false), (4, dI (cnt 0 n0)), (10, .d (DS q66 x0.board.Breakers)), (11, dI (ln x0.board.Breakers)), (12, dI (cnt 0 n0)), (63, dB (c88s0_1 a0 y1 y3 y5 y7 y9))] [] hC ⟨(row_cnt hx0 hl0), fun hg => row_get (guardO_get h2 hg), fun hg => ⟨e68, (k68 x0.board x0.power (cnt 0 n0) _ (guardO_get h4 hg))⟩, fun hg => row_get (guardO_get h6 hg), fun hg => ⟨e164s0, (k164s0 x0 a0.A _ (guardO_get h8 hg))⟩, fun hg => ⟨e164s0, (k164s0 x0 a0.B _ (guardO_get h10 hg))⟩, trivial⟩ ⟨(cnt_lt hi0 hl0), trivial⟩ ?_
   rcases boolC ((c88s0_1 a0 y1 y3 y5 y7 y9)) with h11 | h11
   ·replace h := condT h11 h
    have hq := hret0 _ (hr0 _ (sI h).symm)
    replace hq := sI hq
    subst hq
    exact wr (bs := [((c88s0_1 a0 y1 y3 y5 y7 y9), true)]) lv88s0 24 [true] [] [] [.tmp 2, .tmp 3] 0 [] hC trivial ⟨h11, trivial⟩
   ·replace h := condF h11 h
    exact we (bs := [((c88s0_1 a0 y1 y3 y5 y7 y9), false)]) (φ := fun s' => w0b = .next s') (st' := (st88s0_0 x0 (n0 + 1))) (R' := (R88s0_0 (n0 + 1))) lv88s0 25 [false] [] [] 0 [] () hC trivial ⟨h11, trivial⟩ (sI h).symm
 ·have h := hnext0 _ hs0
  replace h := sI h
  subst h
  exact wr (bs := []) lv88s0 23 [] [] [] [.tmp 2, .tmp 3] 0 [] hC trivial trivial
theorem e88s0 : Enters Tryz.prog 88 := en Tryz.func88
def lv90s1 : List Nat := [0, 1, 3, 5, 6, 7, 13, 14, 15, 37, 42, 43, 44, 45, 77, 109]
def R90s1_0  (z0 : Sg5) : List Res := [.box 144 [I z0.1, DS q66 z0.2.1, DS q57 z0.2.2.1, DS q108 z0.2.2.2.1, I z0.2.2.2.2.1, I z0.2.2.2.2.2.1, .os 9, .os 10, .os 11, .os 12, .os 13, .os 14], .non, .non, .non, .non, .non, .non, .box 142 [.o 0 0], .non, .sl 4 1 (z0.2.2.2.2.2.2.1.map pB), .sl 59 4 (z0.2.2.2.2.2.2.2.1.map q59), .sl 3 1 (z0.2.2.2.2.2.2.2.2.1.map pI), .sl 119 2 (z0.2.2.2.2.2.2.2.2.2.1.map q119), .sl 4 1 (z0.2.2.2.2.2.2.2.2.2.2.1.map pB), .sl 42 3 (z0.2.2.2.2.2.2.2.2.2.2.2.map q42)]
def st90s1_1 (z0 : Sg5) (a0 : (Int × Int)) (n1 : Nat) (z1 : Sg5) : St := [(1, dO 7 0), (3, dI a0.2), (42, .d (DS q66 z0.2.1)), (43, dI (ln z0.2.1)), (44, dI (cnt 0 n1))]
def R90s1_1  (n1 : Nat) (z1 : Sg5) : List Res := [.box 144 [I z1.1, DS q66 z1.2.1, DS q57 z1.2.2.1, DS q108 z1.2.2.2.1, I z1.2.2.2.2.1, I z1.2.2.2.2.2.1, .os 9, .os 10, .os 11, .os 12, .os 13, .os 14], .non, .non, .non, .non, .non, .non, .box 142 [.o 0 0], .non, .sl 4 1 (z1.2.2.2.2.2.2.1.map pB), .sl 59 4 (z1.2.2.2.2.2.2.2.1.map q59), .sl 3 1 (z1.2.2.2.2.2.2.2.2.1.map pI), .sl 119 2 (z1.2.2.2.2.2.2.2.2.2.1.map q119), .sl 4 1 (z1.2.2.2.2.2.2.2.2.2.2.1.map pB), .sl 42 3 (z1.2.2.2.2.2.2.2.2.2.2.2.map q42)]
def sa90s1_1  (z1 : Sg5) : St := []
def Ra90s1_1  (z1 : Sg5) : List Res := [.box 144 [I z1.1, DS q66 z1.2.1, DS q57 z1.2.2.1, DS q108 z1.2.2.2.1, I z1.2.2.2.2.1, I z1.2.2.2.2.2.1, .os 9, .os 10, .os 11, .os 12, .os 13, .os 14], .non, .non, .non, .non, .non, .non, .box 142 [.o 0 0], .non, .sl 4 1 (z1.2.2.2.2.2.2.1.map pB), .sl 59 4 (z1.2.2.2.2.2.2.2.1.map q59), .sl 3 1 (z1.2.2.2.2.2.2.2.2.1.map pI), .sl 119 2 (z1.2.2.2.2.2.2.2.2.2.1.map q119), .sl 4 1 (z1.2.2.2.2.2.2.2.2.2.2.1.map pB), .sl 42 3 (z1.2.2.2.2.2.2.2.2.2.2.2.map q42)]
theorem k90s1 (x0 : restore_planner) (r : restore_planner) (h : F90s1 x0 = some r) : CallOk Tryz.prog 90 [.d (.o 0 0)] (.box 144 (zb x0.board [.os 1, .os 2, .os 3, .os 4, .os 5, .os 6]) :: zp x0.power [.sl 4 1 (x0.goal.map pB), .sl 42 3 (x0.acts.map q42)]) (.tup []) (.box 144 (zb r.board [.os 7, .os 8, .os 9, .os 10, .os 11, .os 12]) :: .non :: .non :: .non :: .non :: .non :: .non :: zp r.power [.sl 4 1 (r.goal.map pB), .sl 42 3 (r.acts.map q42)]) := by
 unfold F90s1 at h
 refine callOk_of 114 Tryz.func90 rfl rfl rfl fun C hC => ?_
 obtain ⟨y3, h4, h⟩ := bindE h
 refine ws (bs := []) lv90s1 26 [] [.call 167 [.agg (d29 x0.board)] [] (.d (DS pI y3)) [.non] [], .call 166 [.d (.p (.s (y3.map pI)))] [] (.d (.fn (.func 229) [] [.o 0 0])) [.box 22 [.p (.s (y3.map pI))]] []] [.mv 1, .mv 2, .mv 3, .mv 4, .mv 5, .mv 6] 7 [0, 1, 2, 3, 4, 5, 6, 7, 9, 10, 11, 12, 13, 14, 15] [(1, dO 7 0), (13, .d (.fn (.func 229) [] [.o 8 0]))] (.box 144 (zb x0.board [.os 9, .os 10, .os 11, .os 12, .os 13, .os 14]) :: .non :: .non :: .non :: .non :: .non :: .non :: .box 142 [.o 0 0] :: .box 22 [DS pI y3] :: zp x0.power [.sl 4 1 (x0.goal.map pB), .sl 42 3 (x0.acts.map q42)]) hC ⟨⟨e167, (CallOk.frzAll [0] (show CallOk Tryz.prog 167 [.agg (d29 x0.board)] [] (dS 0) [.sl 3 1 (y3.map pI)] from (k167 x0.board _ h4)) (by kernel_rfl))⟩, ⟨e166, k166 y3⟩, trivial⟩ trivial ?_
 obtain ⟨w0, hm0, hret0, hnext0⟩ := andThen_inv h
 clear h
 refine WI_range (by kernel_rfl) (t := 13) (d := 3) (p := 15) (gf := 229) (j := 8) (ty := 22) bwEnc (bw y3) F90s1_l0 (R90s1_0) (fun _ => []) w0 (zt x0.board (zu x0.power (x0.goal, x0.acts))) (fun a0 => dI a0.2) hm0 (bw_iter y3) (by kernel_rfl) (by kernel_rfl) (by kernel_rfl) (by kernel_rfl) (by kernel_rfl) [(1, dO 7 0)] (by kernel_rfl) (by kernel_rfl) (bw_ps (a := 14) (b := 15) (by kernel_rfl)) (bw_av2 14 15 (by kernel_rfl) (by decide) (by decide)) (by decide) rfl (Up.of_nil rfl) 9 (by kernel_rfl) (Nat.le_trans hC (Nat.le_of_ble_eq_true rfl)) (fun C2 z0 hh hup2 hs0 => ?_) (fun C2 v90s1_0 hh hup2 hr0 a w hsR => ?_) (fun l C' a0 z0 w0b hlen hdf h hkr => ?_)
 ·have hC : C2.h.length ≤ 7 := by rw [hh]; exact hC
  have h := hnext0 _ hs0
  replace h := sI h
  subst h
  exact WI_endM (bs := []) mixed lv90s1 21 [] [] [] [] 7 [0, 1, 2, 3, 4, 5, 6, 9, 10, 11, 12, 13, 14] rfl hC trivial trivial (by kernel_rfl) (by kernel_rfl) hup2
 ·exact absurd (hret0 _ hr0) (by simp)
 ·have hC : C'.h.length ≤ 9 := hlen
  unfold F90s1_l0 at h
  obtain ⟨y5, h6, h⟩ := bindE h
  obtain ⟨y7, h8, h⟩ := bindE h
  refine ws (bs := []) lv90s1 27 [] [.callB 168 [.agg [I z0.1, DS q66 z0.2.1, DS q57 z0.2.2.1, DS q108 z0.2.2.2.1, I z0.2.2.2.2.1, I z0.2.2.2.2.2.1], .agg [DS pB z0.2.2.2.2.2.2.1, DS q59 z0.2.2.2.2.2.2.2.1, DS pI z0.2.2.2.2.2.2.2.2.1, DS q119 z0.2.2.2.2.2.2.2.2.2.1], dI a0.2] (.tup [dI y5.1, dB y5.2]) [[]] 0 [], .when [(y5.2, false)] (.callB 134 [.agg [DS pB z0.2.2.2.2.2.2.1, DS q59 z0.2.2.2.2.2.2.2.1, DS pI z0.2.2.2.2.2.2.2.2.1, DS q119 z0.2.2.2.2.2.2.2.2.2.1], dI 4, dI a0.2] (dB y7) [[]] 0 [])] [] 9 n15_ [(1, dO 7 0), (3, dI a0.2), (37, dB (y5.2 || y7))] [.box 144 [I z0.1, DS q66 z0.2.1, DS q57 z0.2.2.1, DS q108 z0.2.2.2.1, I z0.2.2.2.2.1, I z0.2.2.2.2.2.1, .os 9, .os 10, .os 11, .os 12, .os 13, .os 14], .non, .non, .non, .non, .non, .non, .box 142 [.o 0 0], .non, .sl 4 1 (z0.2.2.2.2.2.2.1.map pB), .sl 59 4 (z0.2.2.2.2.2.2.2.1.map q59), .sl 3 1 (z0.2.2.2.2.2.2.2.2.1.map pI), .sl 119 2 (z0.2.2.2.2.2.2.2.2.2.1.map q119), .sl 4 1 (z0.2.2.2.2.2.2.2.2.2.2.1.map pB), .sl 42 3 (z0.2.2.2.2.2.2.2.2.2.2.2.map q42)] hC ⟨lend0_get ⟨e168, (k168 (⟨z0.1, z0.2.1, z0.2.2.1, z0.2.2.2.1, z0.2.2.2.2.1, z0.2.2.2.2.2.1⟩ : api_Board) (⟨z0.2.2.2.2.2.2.1, z0.2.2.2.2.2.2.2.1, z0.2.2.2.2.2.2.2.2.1, z0.2.2.2.2.2.2.2.2.2.1⟩ : api_Power) a0.2 _ h6)⟩, fun hg => lend0_get ⟨e134, (k134 (⟨z0.2.2.2.2.2.2.1, z0.2.2.2.2.2.2.2.1, z0.2.2.2.2.2.2.2.2.1, z0.2.2.2.2.2.2.2.2.2.1⟩ : api_Power) 4 a0.2 _ (guardO_get h8 hg))⟩, trivial⟩ trivial ?_
  rcases boolC ((y5.2 || y7)) with h9 | h9
  ·replace h := condT h9 h
   exact we (bs := [((y5.2 || y7), true)]) (φ := fun s' => w0b = .next s') (st' := fun _ => []) (R' := (R90s1_0)) lv90s1 23 [true] [] [] 9 n15_ (z0.1, z0.2.1, z0.2.2.1, z0.2.2.2.1, z0.2.2.2.2.1, z0.2.2.2.2.2.1, z0.2.2.2.2.2.2.1, z0.2.2.2.2.2.2.2.1, z0.2.2.2.2.2.2.2.2.1, z0.2.2.2.2.2.2.2.2.2.1, z0.2.2.2.2.2.2.2.2.2.2.1, z0.2.2.2.2.2.2.2.2.2.2.2) hC trivial ⟨h9, trivial⟩ (sI h).symm
  ·replace h := condF h9 h
   refine ws (bs := [((y5.2 || y7), false)]) lv90s1 25 [false] [.len (ln (z0.2.1.map q66)) (ln z0.2.1)] [] 9 n15_ (st90s1_1 z0 a0 0 (z0.1, z0.2.1, z0.2.2.1, z0.2.2.2.1, z0.2.2.2.2.1, z0.2.2.2.2.2.1, z0.2.2.2.2.2.2.1, z0.2.2.2.2.2.2.2.1, z0.2.2.2.2.2.2.2.2.1, z0.2.2.2.2.2.2.2.2.2.1, z0.2.2.2.2.2.2.2.2.2.2.1, z0.2.2.2.2.2.2.2.2.2.2.2)) (R90s1_1 0 (z0.1, z0.2.1, z0.2.2.1, z0.2.2.2.1, z0.2.2.2.2.1, z0.2.2.2.2.2.1, z0.2.2.2.2.2.2.1, z0.2.2.2.2.2.2.2.1, z0.2.2.2.2.2.2.2.2.1, z0.2.2.2.2.2.2.2.2.2.1, z0.2.2.2.2.2.2.2.2.2.2.1, z0.2.2.2.2.2.2.2.2.2.2.2)) hC ⟨len_map _ _, trivial⟩ ⟨h9, trivial⟩ ?_
   obtain ⟨w1, hm1, hret1, hnext1⟩ := andThen_inv h
   clear h
   refine WI_cut (by kernel_rfl) (fun s => w1 = .next s) (sa90s1_1) (Ra90s1_1) ?_ fun z1 hs1 => ?_
   ·refine WI_blk (by kernel_rfl) ?_
    refine WI_len 42 rfl fun hl1 => ?_
    refine WI_foldI (by kernel_rfl) (F90s1_l1 a0) (st90s1_1 z0 a0) (R90s1_1) w1 z0.2.1 (z0.1, z0.2.1, z0.2.2.1, z0.2.2.2.1, z0.2.2.2.2.1, z0.2.2.2.2.2.1, z0.2.2.2.2.2.2.1, z0.2.2.2.2.2.2.2.1, z0.2.2.2.2.2.2.2.2.1, z0.2.2.2.2.2.2.2.2.2.1, z0.2.2.2.2.2.2.2.2.2.2.1, z0.2.2.2.2.2.2.2.2.2.2.2) hm1 rfl rfl (fun z1 hn1 => ?_) fun n1 a1 z1 w1b hi1 hx1 h hb1 hr1 => ?_
    ·clear hm1
     exact we (bs := [(decide ((cnt 0 z0.2.1.length) < (ln z0.2.1)), false)]) (φ := fun s' => w1 = .next s') (st' := (sa90s1_1)) (R' := (Ra90s1_1)) lv90s1 26 [false] [] [] 9 n15_ (z1.1, z1.2.1, z1.2.2.1, z1.2.2.2.1, z1.2.2.2.2.1, z1.2.2.2.2.2.1, z1.2.2.2.2.2.2.1, z1.2.2.2.2.2.2.2.1, z1.2.2.2.2.2.2.2.2.1, z1.2.2.2.2.2.2.2.2.2.1, z1.2.2.2.2.2.2.2.2.2.2.1, z1.2.2.2.2.2.2.2.2.2.2.2) hC trivial ⟨(cnt_end hl1), trivial⟩ hn1
    ·unfold F90s1_l1 at h
     obtain ⟨y10, h11, h⟩ := bindE h
     obtain ⟨y12, h13, h⟩ := bindE h
     refine ws (bs := [(decide ((cnt 0 n1) < (ln z0.2.1)), true)]) lv90s1 33 [true] [.row (z0.2.1.map q66) (cnt 0 n1) (q66 a1), .when [(((a1.Kind != 3) || (a1.B != a0.2)), false)] (.callB 68 [.agg [I z1.1, DS q66 z1.2.1, DS q57 z1.2.2.1, DS q108 z1.2.2.2.1, I z1.2.2.2.2.1, I z1.2.2.2.2.2.1], .agg [DS pB z1.2.2.2.2.2.2.1, DS q59 z1.2.2.2.2.2.2.2.1, DS pI z1.2.2.2.2.2.2.2.2.1, DS q119 z1.2.2.2.2.2.2.2.2.2.1], dI (cnt 0 n1)] (dB y10) [[]] 0 []), .when [((((a1.Kind != 3) || (a1.B != a0.2)) || (!y10)), false)] (.callB 164 [.d (.ip [.v (.int .i64 z1.1), .s (z1.2.1.map q66), .s (z1.2.2.1.map q57), .s (z1.2.2.2.1.map q108), .v (.int .i64 z1.2.2.2.2.1), .v (.int .i64 z1.2.2.2.2.2.1), .s (z1.2.2.2.2.2.2.1.map pB), .s (z1.2.2.2.2.2.2.2.1.map q59), .s (z1.2.2.2.2.2.2.2.2.1.map pI), .s (z1.2.2.2.2.2.2.2.2.2.1.map q119), .s (z1.2.2.2.2.2.2.2.2.2.2.1.map pB), .s (z1.2.2.2.2.2.2.2.2.2.2.2.map q42)]), dI a1.A] (dB y12) [[]] 0 [])] [] 9 n16_ [(1, dO 7 0), (3, dI a0.2), (6, dI (cnt 0 n1)), (7, dO 15 0), (42, .d (DS q66 z0.2.1)), (43, dI (ln z0.2.1)), (44, dI (cnt 0 n1)), (77, dB (c90s1_2 a0 a1 y10 y12))] [.box 144 [I z1.1, DS q66 z1.2.1, DS q57 z1.2.2.1, DS q108 z1.2.2.2.1, I z1.2.2.2.2.1, I z1.2.2.2.2.2.1, .os 9, .os 10, .os 11, .os 12, .os 13, .os 14], .non, .non, .non, .non, .non, .non, .box 142 [.o 0 0], .non, .sl 4 1 (z1.2.2.2.2.2.2.1.map pB), .sl 59 4 (z1.2.2.2.2.2.2.2.1.map q59), .sl 3 1 (z1.2.2.2.2.2.2.2.2.1.map pI), .sl 119 2 (z1.2.2.2.2.2.2.2.2.2.1.map q119), .sl 4 1 (z1.2.2.2.2.2.2.2.2.2.2.1.map pB), .sl 42 3 (z1.2.2.2.2.2.2.2.2.2.2.2.map q42), .box 66 (d66 a1)] hC ⟨(row_cnt hx1 hl1), fun hg => lend0_get ⟨e68, (k68 (⟨z1.1, z1.2.1, z1.2.2.1, z1.2.2.2.1, z1.2.2.2.2.1, z1.2.2.2.2.2.1⟩ : api_Board) (⟨z1.2.2.2.2.2.2.1, z1.2.2.2.2.2.2.2.1, z1.2.2.2.2.2.2.2.2.1, z1.2.2.2.2.2.2.2.2.2.1⟩ : api_Power) (cnt 0 n1) _ (guardO_get h11 hg))⟩, fun hg => lend0_get ⟨e164s0, (k164s0 (⟨(⟨z1.1, z1.2.1, z1.2.2.1, z1.2.2.2.1, z1.2.2.2.2.1, z1.2.2.2.2.2.1⟩ : api_Board), (⟨z1.2.2.2.2.2.2.1, z1.2.2.2.2.2.2.2.1, z1.2.2.2.2.2.2.2.2.1, z1.2.2.2.2.2.2.2.2.2.1⟩ : api_Power), z1.2.2.2.2.2.2.2.2.2.2.1, z1.2.2.2.2.2.2.2.2.2.2.2⟩ : restore_planner) a1.A _ (guardO_get h13 hg))⟩, trivial⟩ ⟨(cnt_lt hi1 hl1), trivial⟩ ?_
     rcases boolC ((c90s1_2 a0 a1 y10 y12)) with h14 | h14
     ·replace h := condT h14 h
      exact we (bs := [((c90s1_2 a0 a1 y10 y12), true)]) (φ := fun s' => w1b = .next s') (st' := (st90s1_1 z0 a0 (n1 + 1))) (R' := (R90s1_1 (n1 + 1))) lv90s1 24 [true] [] [] 9 n15_ (z1.1, z1.2.1, z1.2.2.1, z1.2.2.2.1, z1.2.2.2.2.1, z1.2.2.2.2.2.1, z1.2.2.2.2.2.2.1, z1.2.2.2.2.2.2.2.1, z1.2.2.2.2.2.2.2.2.1, z1.2.2.2.2.2.2.2.2.2.1, z1.2.2.2.2.2.2.2.2.2.2.1, z1.2.2.2.2.2.2.2.2.2.2.2) hC trivial ⟨h14, trivial⟩ (sI h).symm
     ·replace h := condF h14 h
      obtain ⟨y15, h16, h⟩ := bindE h
      obtain ⟨y17, h18, h⟩ := bindE h
      obtain ⟨y19, h20, h⟩ := bindE h
      refine ws (bs := [((c90s1_2 a0 a1 y10 y12), false)]) lv90s1 26 [false] [.callB 169 [.agg [I z1.1, DS q66 z1.2.1, DS q57 z1.2.2.1, DS q108 z1.2.2.2.1, I z1.2.2.2.2.1, I z1.2.2.2.2.2.1], .agg [DS pB z1.2.2.2.2.2.2.1, DS q59 z1.2.2.2.2.2.2.2.1, DS pI z1.2.2.2.2.2.2.2.2.1, DS q119 z1.2.2.2.2.2.2.2.2.2.1], dI a1.A] (dI y15) [[]] 0 [], .row (z1.2.2.2.2.2.2.2.2.1.map pI) a0.2 (pI y17), .row (z1.2.2.2.2.2.2.2.2.1.map pI) (((Int.toNat a0.2) : Nat) : Int) (pI y17), .callB 170 [.agg [I z1.1, DS q66 z1.2.1, DS q57 z1.2.2.1, DS q108 z1.2.2.2.1, I z1.2.2.2.2.1, I z1.2.2.2.2.2.1], .agg [DS pB z1.2.2.2.2.2.2.1, DS q59 z1.2.2.2.2.2.2.2.1, DS pI z1.2.2.2.2.2.2.2.2.1, DS q119 z1.2.2.2.2.2.2.2.2.2.1], dI a1.A] (dI y19) [[]] 0 []] [] 9 n15_ [(1, dO 7 0), (3, dI a0.2), (6, dI (cnt 0 n1)), (42, .d (DS q66 z0.2.1)), (43, dI (ln z0.2.1)), (44, dI (cnt 0 n1)), (109, .d (Bo (decide ((w64 (y15 + y17)) ≤ y19))))] [.box 144 [I z1.1, DS q66 z1.2.1, DS q57 z1.2.2.1, DS q108 z1.2.2.2.1, I z1.2.2.2.2.1, I z1.2.2.2.2.2.1, .os 9, .os 10, .os 11, .os 12, .os 13, .os 14], .non, .non, .non, .non, .non, .non, .box 142 [.o 0 0], .non, .sl 4 1 (z1.2.2.2.2.2.2.1.map pB), .sl 59 4 (z1.2.2.2.2.2.2.2.1.map q59), .sl 3 1 (z1.2.2.2.2.2.2.2.2.1.map pI), .sl 119 2 (z1.2.2.2.2.2.2.2.2.2.1.map q119), .sl 4 1 (z1.2.2.2.2.2.2.2.2.2.2.1.map pB), .sl 42 3 (z1.2.2.2.2.2.2.2.2.2.2.2.map q42)] hC ⟨lend0_get ⟨e169, (k169 (⟨z1.1, z1.2.1, z1.2.2.1, z1.2.2.2.1, z1.2.2.2.2.1, z1.2.2.2.2.2.1⟩ : api_Board) (⟨z1.2.2.2.2.2.2.1, z1.2.2.2.2.2.2.2.1, z1.2.2.2.2.2.2.2.2.1, z1.2.2.2.2.2.2.2.2.2.1⟩ : api_Power) a1.A _ h16)⟩, row_get h18, row_getN h18, lend0_get ⟨e170, (k170 (⟨z1.1, z1.2.1, z1.2.2.1, z1.2.2.2.1, z1.2.2.2.2.1, z1.2.2.2.2.2.1⟩ : api_Board) (⟨z1.2.2.2.2.2.2.1, z1.2.2.2.2.2.2.2.1, z1.2.2.2.2.2.2.2.2.1, z1.2.2.2.2.2.2.2.2.2.1⟩ : api_Power) a1.A _ h20)⟩, trivial⟩ ⟨h14, trivial⟩ ?_
      rcases boolC (decide ((w64 (y15 + y17)) ≤ y19)) with h21 | h21
      ·replace h := condT h21 h
       obtain ⟨y22, h23, h⟩ := bindE h
       exact we (bs := [(decide ((w64 (y15 + y17)) ≤ y19), true)]) (φ := fun s' => w1 = .next s') (st' := (sa90s1_1)) (R' := (Ra90s1_1)) lv90s1 24 [true] [.call 89 [dO 0 0, dI 1, dI (cnt 0 n1)] [.box 144 [I z1.1, DS q66 z1.2.1, DS q57 z1.2.2.1, DS q108 z1.2.2.2.1, I z1.2.2.2.2.1, I z1.2.2.2.2.2.1, .os 1, .os 2, .os 3, .os 4, .os 5, .os 6], .sl 4 1 (z1.2.2.2.2.2.2.1.map pB), .sl 59 4 (z1.2.2.2.2.2.2.2.1.map q59), .sl 3 1 (z1.2.2.2.2.2.2.2.2.1.map pI), .sl 119 2 (z1.2.2.2.2.2.2.2.2.2.1.map q119), .sl 4 1 (z1.2.2.2.2.2.2.2.2.2.2.1.map pB), .sl 42 3 (z1.2.2.2.2.2.2.2.2.2.2.2.map q42)] (.tup []) (.box 144 (zb y22.board [.os 1, .os 2, .os 3, .os 4, .os 5, .os 7]) :: zp y22.power [.sl 4 1 (y22.goal.map pB), .non, .sl 42 3 (y22.acts.map q42)]) [0, 9, 10, 11, 12, 13, 14]] [] 9 [0, 1, 2, 3, 4, 5, 6, 7, 8, 9, 10, 11, 12, 13, 15] (zt y22.board (zu y22.power (y22.goal, y22.acts))) hC ⟨⟨e89s1, (k89s1 (⟨(⟨z1.1, z1.2.1, z1.2.2.1, z1.2.2.2.1, z1.2.2.2.2.1, z1.2.2.2.2.2.1⟩ : api_Board), (⟨z1.2.2.2.2.2.2.1, z1.2.2.2.2.2.2.2.1, z1.2.2.2.2.2.2.2.2.1, z1.2.2.2.2.2.2.2.2.2.1⟩ : api_Power), z1.2.2.2.2.2.2.2.2.2.2.1, z1.2.2.2.2.2.2.2.2.2.2.2⟩ : restore_planner) 1 (cnt 0 n1) _ h23)⟩, trivial⟩ ⟨h21, trivial⟩ (hb1 _ (sI h).symm)
      ·replace h := condF h21 h
       exact we (bs := [(decide ((w64 (y15 + y17)) ≤ y19), false)]) (φ := fun s' => w1 = .next s') (st' := (sa90s1_1)) (R' := (Ra90s1_1)) lv90s1 24 [false] [] [] 9 n15_ (z1.1, z1.2.1, z1.2.2.1, z1.2.2.2.1, z1.2.2.2.2.1, z1.2.2.2.2.2.1, z1.2.2.2.2.2.2.1, z1.2.2.2.2.2.2.2.1, z1.2.2.2.2.2.2.2.2.1, z1.2.2.2.2.2.2.2.2.2.1, z1.2.2.2.2.2.2.2.2.2.2.1, z1.2.2.2.2.2.2.2.2.2.2.2) hC trivial ⟨h21, trivial⟩ (hb1 _ (sI h).symm)
   ·have h := hnext1 _ hs1
    exact we (bs := []) (φ := fun s' => w0b = .next s') (st' := fun _ => []) (R' := (R90s1_0)) lv90s1 22 [] [] [] 9 n15_ (z1.1, z1.2.1, z1.2.2.1, z1.2.2.2.1, z1.2.2.2.2.1, z1.2.2.2.2.2.1, z1.2.2.2.2.2.2.1, z1.2.2.2.2.2.2.2.1, z1.2.2.2.2.2.2.2.2.1, z1.2.2.2.2.2.2.2.2.2.1, z1.2.2.2.2.2.2.2.2.2.2.1, z1.2.2.2.2.2.2.2.2.2.2.2) hC trivial trivial (sI h).symm
theorem e90s1 : Enters Tryz.prog 90 := en Tryz.func90
def lv142 : List Nat := [0, 1, 2, 3, 4, 6, 7, 8, 9, 15]
theorem k142 (x0 : api_Board) (x1 : api_Power) (x2 : Int) (r : api_Power × Int) (h : F142 x0 x1 x2 = some r) : CallOk Tryz.prog 142 [.agg (d29 x0), .agg (d35 x1), .d (I x2)] [] (.tup [.agg [.os 0, .os 1, .os 2, .os 3], .d (I r.2)]) (zp r.1 []) := by
 unfold F142 at h
 refine callOk_of 29 Tryz.func142 rfl rfl rfl fun C hC => ?_
 obtain ⟨y1, h2, h⟩ := bindE h
 refine ws (bs := []) lv142 28 [] [.call 213 [.agg (d29 x0), .agg (d35 x1), dI x2] [] (dI y1) [] []] [.ownb 2 0 4 1, .ownb 2 1 59 4, .ownb 2 2 3 1, .ownb 2 3 119 2] 0 n7_ [(2, dI x2), (3, dO 0 0), (4, dO 1 0), (6, dO 2 0), (7, dI 0), (8, dI y1), (15, dB (y1 != 0))] (.box 29 (d29 x0) :: .box 35 (d35 x1) :: .box 35 [.os 3, .os 4, .os 5, .os 6] :: ze []) hC ⟨⟨e213, (k213 x0 x1 x2 _ h2)⟩, trivial⟩ trivial ?_
 rcases boolC ((y1 != 0)) with h3 | h3
 ·replace h := condT h3 h
  replace h := sI h
  subst h
  exact wr (bs := [((y1 != 0), true)]) lv142 24 [true] [] [.ownb 2 0 4 1, .ownb 2 1 59 4, .ownb 2 2 3 1, .ownb 2 3 119 2] [.cell 6 35, .tmp 7] 0 [7, 8, 9, 10] hC trivial ⟨h3, trivial⟩
 ·replace h := condF h3 h
  obtain ⟨y4, h5, h⟩ := bindE h
  obtain ⟨y6, h7, h⟩ := bindE h
  obtain ⟨y8, h9, h⟩ := bindE h
  obtain ⟨y10, h11, h⟩ := bindE h
  replace h := sI h
  subst h
  exact wr (bs := [((y1 != 0), false)]) lv142 29 [false] [.call 70 [.agg (d35 x1)] [] (.agg [.os 0, .os 1, .os 2, .os 3]) (zp y4 []) [], .row (y4.Closed.map pB) x2 (pB y6), .upd (y4.Closed.map pB) (Int.toNat x2) (pB y6) (pB true) (y8.map pB), .call 101 [.agg (d29 x0), .agg [.os 0, .os 1, .os 2, .os 3]] [.sl 4 1 (y8.map pB), .sl 59 4 (y4.Sources.map q59), .sl 3 1 (y4.Limits.map pI), .sl 119 2 (y4.Broken.map q119)] (.tup [.agg [.os 4, .os 5, .os 6, .os 7], dI y10.2]) (.sl 4 1 (y8.map pB) :: .sl 59 4 (y4.Sources.map q59) :: .sl 3 1 (y4.Limits.map pI) :: .sl 119 2 (y4.Broken.map q119) :: zp y10.1 []) [7, 8, 9, 10]] [] [.cell 6 35, .tmp 7] 0 [12, 13, 14, 15] hC ⟨⟨e70, (k70 x1 _ h5)⟩, row_get h7, upd_get h7 h9, ⟨e101, ((k101 x0 (⟨y8, y4.Sources, y4.Limits, y4.Broken⟩ : api_Power) _ h11).lend (by kernel_rfl) (by kernel_rfl) (by kernel_rfl) ⟨flat_sl (fun _ => rfl), flat_sl (fun _ => rfl), flat_sl (fun _ => rfl), flat_sl (fun _ => rfl), trivial⟩ (by kernel_rfl) (by kernel_rfl))⟩, trivial⟩ ⟨h3, trivial⟩
theorem e142 : Enters Tryz.prog 142 := en Tryz.func142
theorem k157s1 (x0 : shed_relief) (r : shed_relief) (h : F157s1 x0 = some r) : CallOk Tryz.prog 157 [.d (.o 0 0)] (.box 244 (zb x0.board [.os 1, .os 2, .os 3, .os 4, .os 5]) :: zp x0.power [.sl 42 3 (x0.acts.map q42)]) (.tup []) (.box 244 (zb r.board [.os 6, .os 7, .os 8, .os 9, .os 10]) :: .non :: .non :: .non :: .non :: .non :: zp r.power [.sl 42 3 (r.acts.map q42)]) := by
 unfold F157s1 at h
 refine callOk_of 24 Tryz.func157 rfl rfl rfl fun C hC => ?_
 obtain ⟨y1, h2, h⟩ := bindE h
 obtain ⟨y3, h4, h⟩ := bindE h
 obtain ⟨y5, h6, h⟩ := bindE h
 replace h := sI h
 subst h
 exact wf (bs := []) [0, 1] 27 [] [.call 222 [dO 0 0, .d (.fn (.func 223) [.o 0 0] [])] (.box 244 (zb x0.board [.os 1, .os 2, .os 3, .os 4, .os 5]) :: zp x0.power [.sl 42 3 (x0.acts.map q42)]) (.tup []) (.box 244 (zb y1.board [.os 6, .os 7, .os 8, .os 9, .os 10]) :: .non :: .non :: .non :: .non :: .non :: zp y1.power [.sl 42 3 (y1.acts.map q42)]) n6_, .call 222 [dO 0 0, .d (.fn (.func 224) [] [.o 6 0])] (.box 244 (zb y1.board [.os 1, .os 2, .os 3, .os 4, .os 5]) :: zp y1.power [.sl 42 3 (y1.acts.map q42), .box 198 [.o 0 0]]) (.tup []) (.box 244 (zb y3.board [.os 7, .os 8, .os 9, .os 10, .os 11]) :: .non :: .non :: .non :: .non :: .non :: .box 198 [.o 0 0] :: zp y3.power [.sl 42 3 (y3.acts.map q42)]) [0, 7, 8, 9, 10, 11, 6], .call 101 [.agg (d29 y3.board), .agg [.os 0, .os 1, .os 2, .os 3]] (zp y3.power []) (.tup [.agg [.os 4, .os 5, .os 6, .os 7], dI y5.2]) (zp y3.power (zp y5.1 [])) [12, 13, 14, 15]] [] [] 6 [0, 1, 2, 3, 4, 5, 17, 18, 19, 20, 16] hC ⟨⟨e222s1, (k222s1 x0 _ h2)⟩, ⟨e222s2, (k222s2 y1 _ h4)⟩, ⟨e101, ((k101 y3.board y3.power _ h6).lend (by kernel_rfl) (by kernel_rfl) (by kernel_rfl) ⟨flat_sl (fun _ => rfl), flat_sl (fun _ => rfl), flat_sl (fun _ => rfl), flat_sl (fun _ => rfl), trivial⟩ (by kernel_rfl) (by kernel_rfl))⟩, trivial⟩ trivial
theorem e157s1 : Enters Tryz.prog 157 := en Tryz.func157
def lv71s1 : List Nat := [0, 1, 3, 4, 6, 17, 36, 55, 76, 82, 88, 96]
theorem k71s1 (x0 : restore_worker) (x1 : api_Act) (r : Int × restore_worker) (h : F71s1 x0 x1 = some r) : CallOk Tryz.prog 71 [.d (.o 0 0), .agg (d42 x1)] (.box 130 (zb x0.board [.os 1, .os 2, .os 3, .os 4, I x0.time]) :: zp x0.power []) (.d (I r.1)) (.box 130 (zb r.2.board [.os 5, .os 6, .os 7, .os 8, I r.2.time]) :: .non :: .non :: .non :: .non :: zp r.2.power []) := by
 unfold F71s1 at h
 refine callOk_of 101 Tryz.func71 rfl rfl rfl fun C hC => ?_
 rcases boolC ((x1.Kind == 1)) with h1 | h1
 ·replace h := condT h1 h
  obtain ⟨y2, h3, h⟩ := bindE h
  replace h := sI h
  subst h
  exact wr (bs := [((x1.Kind == 1), true)]) lv71s1 34 [true] [.call 142 [.agg (d29 x0.board), .agg [.os 0, .os 1, .os 2, .os 3], dI x1.Unit] (zp x0.power []) (.tup [.agg [.os 4, .os 5, .os 6, .os 7], dI y2.2]) (zp x0.power (zp y2.1 [])) [1, 2, 3, 4]] [.frz 1, .frz 2, .frz 3, .frz 4] [.tmp 4] 5 [0, 1, 2, 3, 4, 6, 7, 8, 9] hC ⟨⟨e142, ((k142 x0.board x0.power x1.Unit _ h3).lend (by kernel_rfl) (by kernel_rfl) (by kernel_rfl) ⟨flat_sl (fun _ => rfl), flat_sl (fun _ => rfl), flat_sl (fun _ => rfl), flat_sl (fun _ => rfl), trivial⟩ (by kernel_rfl) (by kernel_rfl))⟩, trivial⟩ ⟨h1, trivial⟩
 ·replace h := condF h1 h
  rcases boolC ((x1.Kind == 2)) with h4 | h4
  ·replace h := condT h4 h
   obtain ⟨y5, h6, h⟩ := bindE h
   replace h := sI h
   subst h
   exact wr (bs := [((x1.Kind == 1), false), ((x1.Kind == 2), true)]) lv71s1 37 [false, true] [.call 143 [.agg (d29 x0.board), .agg [.os 0, .os 1, .os 2, .os 3], dI x1.Unit] (zp x0.power []) (.tup [.agg [.os 4, .os 5, .os 6, .os 7], dI y5.2]) (zp x0.power (zp y5.1 [])) [1, 2, 3, 4]] [.frz 1, .frz 2, .frz 3, .frz 4] [.tmp 4] 5 [0, 1, 2, 3, 4, 6, 7, 8, 9] hC ⟨⟨e143, ((k143 x0.board x0.power x1.Unit _ h6).lend (by kernel_rfl) (by kernel_rfl) (by kernel_rfl) ⟨flat_sl (fun _ => rfl), flat_sl (fun _ => rfl), flat_sl (fun _ => rfl), flat_sl (fun _ => rfl), trivial⟩ (by kernel_rfl) (by kernel_rfl))⟩, trivial⟩ ⟨h1, h4, trivial⟩
  ·replace h := condF h4 h
   rcases boolC ((x1.Kind == 6)) with h7 | h7
   ·replace h := condT h7 h
    obtain ⟨y8, h9, h⟩ := bindE h
    replace h := sI h
    subst h
    exact wr (bs := [((x1.Kind == 1), false), ((x1.Kind == 2), false), ((x1.Kind == 6), true)]) lv71s1 40 [false, false, true] [.call 144 [.agg (d29 x0.board), .agg [.os 0, .os 1, .os 2, .os 3], dI x1.Unit, dI x1.Value] (zp x0.power []) (.tup [.agg [.os 4, .os 5, .os 6, .os 7], dI y8.2]) (zp x0.power (zp y8.1 [])) [1, 2, 3, 4]] [.frz 1, .frz 2, .frz 3, .frz 4] [.tmp 4] 5 [0, 1, 2, 3, 4, 6, 7, 8, 9] hC ⟨⟨e144, ((k144 x0.board x0.power x1.Unit x1.Value _ h9).lend (by kernel_rfl) (by kernel_rfl) (by kernel_rfl) ⟨flat_sl (fun _ => rfl), flat_sl (fun _ => rfl), flat_sl (fun _ => rfl), flat_sl (fun _ => rfl), trivial⟩ (by kernel_rfl) (by kernel_rfl))⟩, trivial⟩ ⟨h1, h4, h7, trivial⟩
   ·replace h := condF h7 h
    rcases boolC ((x1.Kind == 3)) with h10 | h10
    ·replace h := condT h10 h
     obtain ⟨y11, h12, h⟩ := bindE h
     replace h := sI h
     subst h
     exact wr (bs := [((x1.Kind == 1), false), ((x1.Kind == 2), false), ((x1.Kind == 6), false), ((x1.Kind == 3), true)]) lv71s1 43 [false, false, false, true] [.call 145 [dO 0 0, dI x1.Unit] (.box 130 (zb x0.board [.os 1, .os 2, .os 3, .os 4, I x0.time]) :: zp x0.power []) (dI y11.1) (.box 130 (zb y11.2.board [.os 1, .os 2, .os 3, .os 4, I y11.2.time]) :: zp y11.2.power []) n5_] [.mv 1, .mv 2, .mv 3, .mv 4] [.tmp 4] 5 [0, 1, 2, 3, 4, 6, 7, 8, 9] hC ⟨⟨e145s1, (k145s1 x0 x1.Unit _ h12)⟩, trivial⟩ ⟨h1, h4, h7, h10, trivial⟩
    ·replace h := condF h10 h
     rcases boolC ((x1.Kind == 4)) with h13 | h13
     ·replace h := condT h13 h
      obtain ⟨y14, h15, h⟩ := bindE h
      replace h := sI h
      subst h
      exact wr (bs := [((x1.Kind == 1), false), ((x1.Kind == 2), false), ((x1.Kind == 6), false), ((x1.Kind == 3), false), ((x1.Kind == 4), true)]) lv71s1 46 [false, false, false, false, true] [.call 146 [dO 0 0, dI x1.Unit] (.box 130 (zb x0.board [.os 1, .os 2, .os 3, .os 4, I x0.time]) :: zp x0.power []) (dI y14.1) (.box 130 (zb y14.2.board [.os 1, .os 2, .os 3, .os 4, I y14.2.time]) :: zp y14.2.power []) n5_] [.mv 1, .mv 2, .mv 3, .mv 4] [.tmp 4] 5 [0, 1, 2, 3, 4, 6, 7, 8, 9] hC ⟨⟨e146s1, (k146s1 x0 x1.Unit _ h15)⟩, trivial⟩ ⟨h1, h4, h7, h10, h13, trivial⟩
     ·replace h := condF h13 h
      rcases boolC ((x1.Kind == 5)) with h16 | h16
      ·replace h := condT h16 h
       obtain ⟨y17, h18, h⟩ := bindE h
       replace h := sI h
       subst h
       exact wr (bs := [((x1.Kind == 1), false), ((x1.Kind == 2), false), ((x1.Kind == 6), false), ((x1.Kind == 3), false), ((x1.Kind == 4), false), ((x1.Kind == 5), true)]) lv71s1 49 [false, false, false, false, false, true] [.call 147 [dO 0 0, dI x1.Unit, dI x1.Value] (.box 130 (zb x0.board [.os 1, .os 2, .os 3, .os 4, I x0.time]) :: zp x0.power []) (dI y17.1) (.box 130 (zb y17.2.board [.os 1, .os 2, .os 3, .os 4, I y17.2.time]) :: zp y17.2.power []) n5_] [.mv 1, .mv 2, .mv 3, .mv 4] [.tmp 4] 5 [0, 1, 2, 3, 4, 6, 7, 8, 9] hC ⟨⟨e147s1, (k147s1 x0 x1.Unit x1.Value _ h18)⟩, trivial⟩ ⟨h1, h4, h7, h10, h13, h16, trivial⟩
      ·replace h := condF h16 h
       rcases boolC ((x1.Kind == 7)) with h19 | h19
       ·replace h := condT h19 h
        obtain ⟨y20, h21, h⟩ := bindE h
        replace h := sI h
        subst h
        exact wr (bs := [((x1.Kind == 1), false), ((x1.Kind == 2), false), ((x1.Kind == 6), false), ((x1.Kind == 3), false), ((x1.Kind == 4), false), ((x1.Kind == 5), false), ((x1.Kind == 7), true)]) lv71s1 52 [false, false, false, false, false, false, true] [.call 148 [dO 0 0] (.box 130 (zb x0.board [.os 1, .os 2, .os 3, .os 4, I x0.time]) :: zp x0.power []) (.tup []) (.box 130 (zb y20.board [.os 5, .os 6, .os 7, .os 8, I y20.time]) :: .non :: .non :: .non :: .non :: zp y20.power []) n5_] [] [.tmp 4] 5 [0, 1, 2, 3, 4, 6, 7, 8, 9] hC ⟨⟨e148s1, (k148s1 x0 _ h21)⟩, trivial⟩ ⟨h1, h4, h7, h10, h13, h16, h19, trivial⟩
       ·replace h := condF h19 h
        obtain ⟨y22, h23, h⟩ := bindE h
        replace h := sI h
        subst h
        exact wr (bs := [((x1.Kind == 1), false), ((x1.Kind == 2), false), ((x1.Kind == 6), false), ((x1.Kind == 3), false), ((x1.Kind == 4), false), ((x1.Kind == 5), false), ((x1.Kind == 7), false)]) lv71s1 52 [false, false, false, false, false, false, false] [.call 149 [dO 0 0, .agg [I x1.Value, I x1.Unit], dB (x1.Kind == 8)] (.box 130 (zb x0.board [.os 1, .os 2, .os 3, .os 4, I x0.time]) :: zp x0.power []) (dI y22.1) (.box 130 (zb y22.2.board [.os 5, .os 6, .os 7, .os 8, I y22.2.time]) :: .non :: .non :: .non :: .non :: zp y22.2.power []) n5_] [] [.tmp 4] 5 [0, 1, 2, 3, 4, 6, 7, 8, 9] hC ⟨⟨e149s1, (k149s1 x0 (⟨x1.Value, x1.Unit⟩ : api_Part) (x1.Kind == 8) _ h23)⟩, trivial⟩ ⟨h1, h4, h7, h10, h13, h16, h19, trivial⟩
theorem e71s1 : Enters Tryz.prog 71 := en Tryz.func71
theorem k156s1 (x0 : shed_relief) (r : shed_relief) (h : F156s1 x0 = some r) : CallOk Tryz.prog 156 [.d (.o 0 0)] (.box 244 (zb x0.board [.os 1, .os 2, .os 3, .os 4, .os 5]) :: zp x0.power [.sl 42 3 (x0.acts.map q42)]) (.tup []) (.box 244 (zb r.board [.os 6, .os 7, .os 8, .os 9, .os 10]) :: .non :: .non :: .non :: .non :: .non :: zp r.power [.sl 42 3 (r.acts.map q42)]) := by
 unfold F156s1 at h
 refine callOk_of 6 Tryz.func156 rfl rfl rfl fun C hC => ?_
 obtain ⟨y1, h2, h⟩ := bindE h
 obtain ⟨y3, h4, h⟩ := bindE h
 replace h := sI h
 subst h
 exact wf (bs := []) [0] 23 [] [.call 157 [dO 0 0] (.box 244 (zb x0.board [.os 1, .os 2, .os 3, .os 4, .os 5]) :: zp x0.power [.sl 42 3 (x0.acts.map q42)]) (.tup []) (.box 244 (zb y1.board [.os 6, .os 7, .os 8, .os 9, .os 10]) :: .non :: .non :: .non :: .non :: .non :: zp y1.power [.sl 42 3 (y1.acts.map q42)]) n6_, .callB 158 [.d (.ip [.v (.int .i64 y1.board.Buses), .s (y1.board.Breakers.map q66), .s (y1.board.Sources.map q57), .s (y1.board.Consumers.map q108), .v (.int .i64 y1.board.Phase), .v (.int .i64 y1.board.Frequency), .s (y1.power.Closed.map pB), .s (y1.power.Sources.map q59), .s (y1.power.Limits.map pI), .s (y1.power.Broken.map q119), .s (y1.acts.map q42)])] (.tup []) [[]] 0 []] [] [] 6 n11_ hC ⟨⟨e157s1, (k157s1 x0 _ h2)⟩, lend0_get ⟨e158s0, (k158s0 y1 _ h4)⟩, trivial⟩ trivial
theorem e156s1 : Enters Tryz.prog 156 := en Tryz.func156
def lv19 : List Nat := [0, 1, 2, 3, 4, 5, 7, 8, 9, 10, 11, 12, 16, 21, 39, 55]
theorem k19 (x0 : api_Board) (x1 : api_Power) (x2 : Int) (x3 : api_Act) (r : api_Power × Int) (h : F19 x0 x1 x2 x3 = some r) : CallOk Tryz.prog 19 [.agg (d29 x0), .agg (d35 x1), .d (I x2), .agg (d42 x3)] [] (.tup [.agg [.os 0, .os 1, .os 2, .os 3], .d (I r.2)]) (zp r.1 []) := by
 unfold F19 at h
 refine callOk_of 62 Tryz.func19 rfl rfl rfl fun C hC => ?_
 obtain ⟨y1, h2, h⟩ := bindE h
 refine ws (bs := []) lv19 29 [] [.call 65 [.agg (d29 x0), .agg (d35 x1)] [] (dI y1) [] []] [.ownb 3 0 4 1, .ownb 3 1 59 4, .ownb 3 2 3 1, .ownb 3 3 119 2] 0 n8_ [(2, dI x2), (4, dO 0 0), (5, dO 1 0), (7, dO 2 0), (8, dO 3 0), (9, dI 0), (10, dI y1), (16, dB (y1 != 0))] (.box 29 (d29 x0) :: .box 35 (d35 x1) :: .box 42 (d42 x3) :: .box 35 [.os 4, .os 5, .os 6, .os 7] :: ze []) hC ⟨⟨e65, (k65 x0 x1 _ h2)⟩, trivial⟩ trivial ?_
 rcases boolC ((y1 != 0)) with h3 | h3
 ·replace h := condT h3 h
  replace h := sI h
  subst h
  exact wr (bs := [((y1 != 0), true)]) lv19 24 [true] [] [.ownb 3 0 4 1, .ownb 3 1 59 4, .ownb 3 2 3 1, .ownb 3 3 119 2] [.cell 8 35, .tmp 9] 0 [8, 9, 10, 11] hC trivial ⟨h3, trivial⟩
 ·replace h := condF h3 h
  rcases boolC ((c19_0 x2 x3)) with h4 | h4
  ·replace h := condT h4 h
   replace h := sI h
   subst h
   exact wr (bs := [((y1 != 0), false), ((c19_0 x2 x3), true)]) lv19 27 [false, true] [] [.ownb 3 0 4 1, .ownb 3 1 59 4, .ownb 3 2 3 1, .ownb 3 3 119 2] [.cell 8 35, .tmp 9] 0 [8, 9, 10, 11] hC trivial ⟨h3, h4, trivial⟩
  ·replace h := condF h4 h
   obtain ⟨y5, h6, h⟩ := bindE h
   rcases boolC (!y5) with h7 | h7
   ·replace h := condT h7 h
    replace h := sI h
    subst h
    exact wr (bs := [((y1 != 0), false), ((c19_0 x2 x3), false), (!y5, true)]) lv19 30 [false, false, true] [.call 69 [.agg (d29 x0), .agg (d42 x3)] [] (dB y5) [] []] [.ownb 3 0 4 1, .ownb 3 1 59 4, .ownb 3 2 3 1, .ownb 3 3 119 2] [.cell 8 35, .tmp 9] 0 [8, 9, 10, 11] hC ⟨⟨e69, (k69 x0 x3 _ h6)⟩, trivial⟩ ⟨h3, h4, h7, trivial⟩
   ·replace h := condF h7 h
    obtain ⟨y8, h9, h⟩ := bindE h
    obtain ⟨y10, h11, h⟩ := bindE h
    refine ws (bs := [((y1 != 0), false), ((c19_0 x2 x3), false), (!y5, false)]) lv19 37 [false, false, false] [.call 69 [.agg (d29 x0), .agg (d42 x3)] [] (dB y5) [] [], .call 70 [.agg (d35 x1)] [] (.agg [.os 0, .os 1, .os 2, .os 3]) (zp y8 []) [], .call 71 [dO 0 0, .agg (d42 x3)] (.box 130 (zb x0 [.os 1, .os 2, .os 3, .os 4, I x2]) :: zp y8 []) (dI y10.1) (.box 130 (zb y10.2.board [.os 5, .os 6, .os 7, .os 8, I y10.2.time]) :: .non :: .non :: .non :: .non :: zp y10.2.power []) [12, 8, 9, 10, 11]] [] 0 [3, 4, 5, 6, 7, 12, 13, 14, 15, 16] [(8, dO 0 0), (9, dI 0), (11, dO 5 0), (12, dI y10.1), (55, dB (y10.1 != 0))] (.box 35 [.os 1, .os 2, .os 3, .os 4] :: ze (.box 130 (zb y10.2.board [.os 6, .os 7, .os 8, .os 9, I y10.2.time]) :: zp y10.2.power [])) hC ⟨⟨e69, (k69 x0 x3 _ h6)⟩, ⟨e70, (k70 x1 _ h9)⟩, ⟨e71s1, (k71s1 (⟨x0, y8, x2⟩ : restore_worker) x3 _ h11)⟩, trivial⟩ ⟨h3, h4, h7, trivial⟩ ?_
    rcases boolC ((y10.1 != 0)) with h12 | h12
    ·replace h := condT h12 h
     replace h := sI h
     subst h
     exact wr (bs := [((y10.1 != 0), true)]) lv19 24 [true] [] [.ownb 0 0 4 1, .ownb 0 1 59 4, .ownb 0 2 3 1, .ownb 0 3 119 2] [.cell 8 35, .tmp 9] 0 [10, 11, 12, 13] hC trivial ⟨h12, trivial⟩
    ·replace h := condF h12 h
     replace h := sI h
     subst h
     exact wr (bs := [((y10.1 != 0), false)]) lv19 25 [false] [] [] [.cell 8 35, .tmp 9] 0 [6, 7, 8, 9] hC trivial ⟨h12, trivial⟩
theorem e19 : Enters Tryz.prog 19 := en Tryz.func19
def lv155s0 : List Nat := [0, 1, 2, 3, 4, 6, 7, 8, 9, 10, 15]
theorem k155s0 (x0 : api_Board) (x1 : api_Power) (r : api_Power × (List api_Act) × Int) (h : F155s0 x0 x1 = some r) : CallOk Tryz.prog 155 [.agg (d29 x0), .agg (d35 x1), .d (.fn (.func 156) [] [])] [] (.tup [.agg [.os 0, .os 1, .os 2, .os 3], .d (.os 4), .d (I r.2.2)]) (zp r.1 [.sl 42 3 (r.2.1.map q42)]) := by
 unfold F155s0 at h
 refine callOk_of 34 Tryz.func155 rfl rfl rfl fun C hC => ?_
 obtain ⟨y1, h2, h⟩ := bindE h
 refine ws (bs := []) lv155s0 28 [] [.call 65 [.agg (d29 x0), .agg (d35 x1)] [] (dI y1) [] []] [.ownb 2 0 4 1, .ownb 2 1 59 4, .ownb 2 2 3 1, .ownb 2 3 119 2] 0 n7_ [(2, .d (.fn (.func 156) [] [])), (3, dO 0 0), (4, dO 1 0), (6, dO 2 0), (7, .d (DS q42 [])), (8, dI 0), (9, dI y1), (15, dB (y1 != 0))] (.box 29 (d29 x0) :: .box 35 (d35 x1) :: .box 35 [.os 3, .os 4, .os 5, .os 6] :: ze []) hC ⟨⟨e65, (k65 x0 x1 _ h2)⟩, trivial⟩ trivial ?_
 rcases boolC ((y1 != 0)) with h3 | h3
 ·replace h := condT h3 h
  cases h
 ·replace h := condF h3 h
  obtain ⟨y4, h5, h⟩ := bindE h
  refine ws (bs := [((y1 != 0), false)]) lv155s0 5 [false] [.call 70 [.agg (d35 x1)] [] (.agg [.os 0, .os 1, .os 2, .os 3]) (zp y4 []) []] [.ownb 11 10 42 3] 0 [2, 3, 4, 5, 6, 7, 8, 9, 10, 11, 12] [(2, .d (.fn (.func 156) [] [])), (6, dO 0 0), (7, .d (DS q42 [])), (8, dI 0), (10, dO 9 0)] (.box 35 [.os 1, .os 2, .os 3, .os 4] :: ze (zp y4 [.box 244 (zb x0 [.os 5, .os 6, .os 7, .os 8, .os 10]), .sl 42 3 (([] : List api_Act).map q42)])) hC ⟨⟨e70, (k70 x1 _ h5)⟩, trivial⟩ ⟨h3, trivial⟩ ?_
  obtain ⟨y6, h7, h⟩ := bindE h
  replace h := sI h
  subst h
  exact wr (bs := []) lv155s0 24 [] [.call 156 [dO 0 0] (.box 244 (zb x0 [.os 1, .os 2, .os 3, .os 4, .os 5]) :: zp y4 [.sl 42 3 (([] : List api_Act).map q42)]) (.tup []) (.box 244 (zb y6.board [.os 6, .os 7, .os 8, .os 9, .os 10]) :: .non :: .non :: .non :: .non :: .non :: zp y6.power [.sl 42 3 (y6.acts.map q42)]) [9, 5, 6, 7, 8, 10]] [] [.cell 6 35, .tmp 7, .tmp 8] 0 [11, 12, 13, 14, 15] hC ⟨⟨e156s1, (k156s1 (⟨x0, y4, ([] : List api_Act)⟩ : shed_relief) _ h7)⟩, trivial⟩ trivial
theorem e155s0 : Enters Tryz.prog 155 := en Tryz.func155
def lv25 : List Nat := [0, 1, 2, 3, 4, 5, 8, 9, 10, 11, 12, 13, 14, 15, 16, 21, 26, 27, 28, 29, 42, 49]
def st25_0 (x3 : List api_Act) (n0 : Nat) (z0 : Sg0) : St := [(2, dI z0.1), (3, .d (DS q42 x3)), (4, dO 0 0), (5, dO 1 0), (8, dO 2 0), (9, dI 0), (10, dI 0), (11, dI 0), (26, .d (DS q42 x3)), (27, dI (ln x3)), (28, dI (cnt 0 n0))]
def R25_0 (x0 : api_Board) (n0 : Nat) (z0 : Sg0) : List Res := (.box 29 (d29 x0) :: .box 35 [.os 7, .os 8, .os 9, .os 10] :: .box 35 [.os 3, .os 4, .os 5, .os 6] :: ze [.sl 4 1 (z0.2.1.map pB), .sl 59 4 (z0.2.2.1.map q59), .sl 3 1 (z0.2.2.2.1.map pI), .sl 119 2 (z0.2.2.2.2.map q119)])
def sa25_0 (x3 : List api_Act) (z0 : Sg0) : St := [(2, dI z0.1), (3, .d (DS q42 x3)), (5, dO 0 0), (8, dO 1 0), (9, dI 0), (10, dI 0), (11, dI 0)]
def Ra25_0  (z0 : Sg0) : List Res := (.box 35 [.os 6, .os 7, .os 8, .os 9] :: .box 35 [.os 2, .os 3, .os 4, .os 5] :: ze [.sl 4 1 (z0.2.1.map pB), .sl 59 4 (z0.2.2.1.map q59), .sl 3 1 (z0.2.2.2.1.map pI), .sl 119 2 (z0.2.2.2.2.map q119)])
theorem k25 (x0 : api_Board) (x1 : api_Power) (x2 : Int) (x3 : List api_Act) (r : api_Power × Int × Int × Int) (h : F25 x0 x1 x2 x3 = some r) : CallOk Tryz.prog 25 [.agg (d29 x0), .agg (d35 x1), .d (I x2), .d (DS q42 x3)] [] (.tup [.agg [.os 0, .os 1, .os 2, .os 3], .d (I r.2.1), .d (I r.2.2.1), .d (I r.2.2.2)]) (zp r.1 []) := by
 unfold F25 at h
 refine callOk_of 58 Tryz.func25 rfl rfl rfl fun C hC => ?_
 obtain ⟨y1, h2, h⟩ := bindE h
 refine ws (bs := []) lv25 28 [] [.call 65 [.agg (d29 x0), .agg (d35 x1)] [] (dI y1) [] []] [.ownb 2 0 4 1, .ownb 2 1 59 4, .ownb 2 2 3 1, .ownb 2 3 119 2] 0 n7_ [(2, dI x2), (3, .d (DS q42 x3)), (4, dO 0 0), (5, dO 1 0), (8, dO 2 0), (9, dI 0), (10, dI 0), (11, dI 0), (12, dI y1), (21, dB (y1 != 0))] (.box 29 (d29 x0) :: .box 35 (d35 x1) :: .box 35 [.os 3, .os 4, .os 5, .os 6] :: ze []) hC ⟨⟨e65, (k65 x0 x1 _ h2)⟩, trivial⟩ trivial ?_
 rcases boolC ((y1 != 0)) with h3 | h3
 ·replace h := condT h3 h
  replace h := sI h
  subst h
  exact wr (bs := [((y1 != 0), true)]) lv25 24 [true] [] [.ownb 2 0 4 1, .ownb 2 1 59 4, .ownb 2 2 3 1, .ownb 2 3 119 2] [.cell 8 35, .tmp 9, .tmp 10, .tmp 11] 0 [7, 8, 9, 10] hC trivial ⟨h3, trivial⟩
 ·replace h := condF h3 h
  obtain ⟨y4, h5, h⟩ := bindE h
  refine ws (bs := [((y1 != 0), false)]) lv25 28 [false] [.call 70 [.agg (d35 x1)] [] (.agg [.os 0, .os 1, .os 2, .os 3]) (zp y4 []) [], .len (ln (x3.map q42)) (ln x3)] [] 0 n11_ (st25_0 x3 0 (x2, y4.Closed, y4.Sources, y4.Limits, y4.Broken)) (R25_0 x0 0 (x2, y4.Closed, y4.Sources, y4.Limits, y4.Broken)) hC ⟨⟨e70, (k70 x1 _ h5)⟩, len_map _ _, trivial⟩ ⟨h3, trivial⟩ ?_
  obtain ⟨w0, hm0, hret0, hnext0⟩ := andThen_inv h
  clear h
  refine WI_cut (by kernel_rfl) (fun s => w0 = .next s) (sa25_0 x3) (Ra25_0) ?_ fun z0 hs0 => ?_
  ·refine WI_blk (by kernel_rfl) ?_
   refine WI_len 26 rfl fun hl0 => ?_
   refine WI_foldI (by kernel_rfl) (F25_l0 x0) (st25_0 x3) (R25_0 x0) w0 x3 (x2, y4.Closed, y4.Sources, y4.Limits, y4.Broken) hm0 rfl rfl (fun z0 hn0 => ?_) fun n0 a0 z0 w0b hi0 hx0 h hb0 hr0 => ?_
   ·clear hm0
    exact we (bs := [(decide ((cnt 0 x3.length) < (ln x3)), false)]) (φ := fun s' => w0 = .next s') (st' := (sa25_0 x3)) (R' := (Ra25_0)) lv25 26 [false] [] [] 0 [1, 2, 3, 4, 5, 6, 7, 8, 9, 10] (z0.1, z0.2.1, z0.2.2.1, z0.2.2.2.1, z0.2.2.2.2) hC trivial ⟨(cnt_end hl0), trivial⟩ hn0
   ·unfold F25_l0 at h
    obtain ⟨y6, h7, h⟩ := bindE h
    refine ws (bs := [(decide ((cnt 0 n0) < (ln x3)), true)]) lv25 35 [true] [.row (x3.map q42) (cnt 0 n0) (q42 a0), .call 19 [.agg (d29 x0), .agg [.os 0, .os 1, .os 2, .os 3], dI z0.1, .agg (d42 a0)] [.sl 4 1 (z0.2.1.map pB), .sl 59 4 (z0.2.2.1.map q59), .sl 3 1 (z0.2.2.2.1.map pI), .sl 119 2 (z0.2.2.2.2.map q119)] (.tup [.agg [.os 4, .os 5, .os 6, .os 7], dI y6.2]) (.sl 4 1 (z0.2.1.map pB) :: .sl 59 4 (z0.2.2.1.map q59) :: .sl 3 1 (z0.2.2.2.1.map pI) :: .sl 119 2 (z0.2.2.2.2.map q119) :: zp y6.1 []) [7, 8, 9, 10]] [] 0 n17_ [(2, dI z0.1), (3, .d (DS q42 x3)), (4, dO 0 0), (5, dO 1 0), (8, dO 2 0), (9, dI 0), (10, dI 0), (11, dI 0), (13, dI (cnt 0 n0)), (14, dO 11 0), (15, dO 16 0), (16, dI y6.2), (26, .d (DS q42 x3)), (27, dI (ln x3)), (28, dI (cnt 0 n0)), (42, dB (y6.2 != 0))] (.box 29 (d29 x0) :: .box 35 [.os 7, .os 8, .os 9, .os 10] :: .box 35 [.os 3, .os 4, .os 5, .os 6] :: ze (.sl 4 1 (z0.2.1.map pB) :: .sl 59 4 (z0.2.2.1.map q59) :: .sl 3 1 (z0.2.2.2.1.map pI) :: .sl 119 2 (z0.2.2.2.2.map q119) :: .box 42 (d42 a0) :: zp y6.1 [.box 35 [.os 12, .os 13, .os 14, .os 15]])) hC ⟨(row_cnt hx0 hl0), ⟨e19, ((k19 x0 (⟨z0.2.1, z0.2.2.1, z0.2.2.2.1, z0.2.2.2.2⟩ : api_Power) z0.1 a0 _ h7).lend (by kernel_rfl) (by kernel_rfl) (by kernel_rfl) ⟨flat_sl (fun _ => rfl), flat_sl (fun _ => rfl), flat_sl (fun _ => rfl), flat_sl (fun _ => rfl), trivial⟩ (by kernel_rfl) (by kernel_rfl))⟩, trivial⟩ ⟨(cnt_lt hi0 hl0), trivial⟩ ?_
    rcases boolC ((y6.2 != 0)) with h8 | h8
    ·replace h := condT h8 h
     have hq := hret0 _ (hr0 _ (sI h).symm)
     replace hq := sI hq
     subst hq
     exact wr (bs := [((y6.2 != 0), true)]) lv25 24 [true] [] [] [.cell 8 35, .tmp 9, .tmp 10, .tmp 11] 0 [7, 8, 9, 10] hC trivial ⟨h8, trivial⟩
    ·replace h := condF h8 h
     rcases boolC ((a0.Kind == 7)) with h9 | h9
     ·replace h := condT h9 h
      exact we (bs := [((y6.2 != 0), false), ((a0.Kind == 7), true)]) (φ := fun s' => w0b = .next s') (st' := (st25_0 x3 (n0 + 1))) (R' := (R25_0 x0 (n0 + 1))) lv25 31 [false, true] [] [] 0 [0, 1, 2, 3, 4, 5, 6, 12, 13, 14, 15] (w64 (z0.1 + 1), y6.1.Closed, y6.1.Sources, y6.1.Limits, y6.1.Broken) hC trivial ⟨h8, h9, trivial⟩ (sI h).symm
     ·replace h := condF h9 h
      exact we (bs := [((y6.2 != 0), false), ((a0.Kind == 7), false)]) (φ := fun s' => w0b = .next s') (st' := (st25_0 x3 (n0 + 1))) (R' := (R25_0 x0 (n0 + 1))) lv25 31 [false, false] [] [] 0 [0, 1, 2, 3, 4, 5, 6, 12, 13, 14, 15] (z0.1, y6.1.Closed, y6.1.Sources, y6.1.Limits, y6.1.Broken) hC trivial ⟨h8, h9, trivial⟩ (sI h).symm
  ·have h := hnext0 _ hs0
   replace h := sI h
   subst h
   exact wr (bs := []) lv25 23 [] [.len (ln (x3.map q42)) (ln x3)] [] [.cell 8 35, .tmp 9, .tmp 10, .tmp 11] 0 [6, 7, 8, 9] hC ⟨len_map _ _, trivial⟩ trivial
theorem e25 : Enters Tryz.prog 25 := en Tryz.func25
theorem k81 (x0 : api_Board) (x1 : api_Power) (r : api_Power × (List api_Act) × Int) (h : F81 x0 x1 = some r) : CallOk Tryz.prog 81 [.agg (d29 x0), .agg (d35 x1)] [] (.tup [.agg [.os 0, .os 1, .os 2, .os 3], .d (.os 4), .d (I r.2.2)]) (zp r.1 [.sl 42 3 (r.2.1.map q42)]) := by
 unfold F81 at h
 refine callOk_of 13 Tryz.func81 rfl rfl rfl fun C hC => ?_
 obtain ⟨y1, h2, h⟩ := bindE h
 replace h := sI h
 subst h
 exact wr (bs := []) n7_ 25 [] [.call 155 [.agg (d29 x0), .agg (d35 x1), .d (.fn (.func 156) [] [])] [] (.tup [.agg [.os 0, .os 1, .os 2, .os 3], dS 4, dI y1.2.2]) (zp y1.1 [.sl 42 3 (y1.2.1.map q42)]) []] [] [.cell 4 35, .tmp 5, .tmp 6] 0 [3, 4, 5, 6, 7] hC ⟨⟨e155s0, (k155s0 x0 x1 _ h2)⟩, trivial⟩ trivial
theorem e81 : Enters Tryz.prog 81 := en Tryz.func81
def lv30 : List Nat := [0, 1, 2, 3, 4, 5, 6, 8, 9, 10, 11, 19, 23, 33, 64]
def st30_0  (z0 : Sg5) : St := [(4, .d (DS q42 [])), (5, dI 0), (9, dO 0 0)]
def R30_0  (z0 : Sg5) : List Res := [.box 144 [I z0.1, DS q66 z0.2.1, DS q57 z0.2.2.1, DS q108 z0.2.2.2.1, I z0.2.2.2.2.1, I z0.2.2.2.2.2.1, .os 1, .os 2, .os 3, .os 4, .os 5, .os 6], .sl 4 1 (z0.2.2.2.2.2.2.1.map pB), .sl 59 4 (z0.2.2.2.2.2.2.2.1.map q59), .sl 3 1 (z0.2.2.2.2.2.2.2.2.1.map pI), .sl 119 2 (z0.2.2.2.2.2.2.2.2.2.1.map q119), .sl 4 1 (z0.2.2.2.2.2.2.2.2.2.2.1.map pB), .sl 42 3 (z0.2.2.2.2.2.2.2.2.2.2.2.map q42)]
def sa30_0  (z0 : Sg5) : St := [(4, .d (DS q42 [])), (5, dI 0), (9, dO 0 0)]
def Ra30_0  (z0 : Sg5) : List Res := [.box 144 [I z0.1, DS q66 z0.2.1, DS q57 z0.2.2.1, DS q108 z0.2.2.2.1, I z0.2.2.2.2.1, I z0.2.2.2.2.2.1, .os 1, .os 2, .os 3, .os 4, .os 5, .os 6], .sl 4 1 (z0.2.2.2.2.2.2.1.map pB), .sl 59 4 (z0.2.2.2.2.2.2.2.1.map q59), .sl 3 1 (z0.2.2.2.2.2.2.2.2.1.map pI), .sl 119 2 (z0.2.2.2.2.2.2.2.2.2.1.map q119), .sl 4 1 (z0.2.2.2.2.2.2.2.2.2.2.1.map pB), .sl 42 3 (z0.2.2.2.2.2.2.2.2.2.2.2.map q42)]
theorem k30 (x0 : api_Board) (x1 : api_Power) (r : (List api_Act) × Int) (h : F30 x0 x1 = some r) : CallOk Tryz.prog 30 [.agg (d29 x0), .agg (d35 x1)] [] (.tup [.d (.os 0), .d (I r.2)]) [.sl 42 3 (r.1.map q42)] := by
 unfold F30 at h
 refine callOk_of 74 Tryz.func30 rfl rfl rfl fun C hC => ?_
 obtain ⟨y1, h2, h⟩ := bindE h
 refine ws (bs := []) lv30 29 [] [.call 81 [.agg (d29 x0), .agg (d35 x1)] [] (.tup [.agg [.os 0, .os 1, .os 2, .os 3], dS 4, dI y1.2.2]) (zp y1.1 [.sl 42 3 (y1.2.1.map q42)]) []] [] 0 [0, 1, 2, 3, 4, 5, 7] [(2, dO 0 0), (3, dO 1 0), (4, .d (DS q42 [])), (5, dI 0), (6, dO 6 0), (8, dI y1.2.2), (19, dB (y1.2.2 != 0))] (.box 29 (d29 x0) :: .box 35 (d35 x1) :: zp y1.1 [.box 35 [.os 2, .os 3, .os 4, .os 5]]) hC ⟨⟨e81, (k81 x0 x1 _ h2)⟩, trivial⟩ trivial ?_
 rcases boolC ((y1.2.2 != 0)) with h3 | h3
 ·replace h := condT h3 h
  cases h
 ·replace h := condF h3 h
  obtain ⟨y4, h5, h⟩ := bindE h
  obtain ⟨y6, h7, h⟩ := bindE h
  refine ws (bs := [((y1.2.2 != 0), false)]) lv30 24 [false] [.callB 82 [.agg (d35 x1), .agg (d35 y1.1)] (dB y4) [[]] 0 [], .when [(!y4, false)] (.call 83 [.agg (d29 x0), .agg (d35 x1)] [] (dB y6) [] [])] [] 0 [0, 1] [(2, dO 0 0), (3, dO 1 0), (4, .d (DS q42 [])), (5, dI 0), (23, dB ((!y4) || y6))] [.box 29 (d29 x0), .box 35 (d35 x1)] hC ⟨lend0_get ⟨e82, (k82 x1 y1.1 _ h5)⟩, fun hg => ⟨e83, (k83 x0 x1 _ (guardO_get h7 hg))⟩, trivial⟩ ⟨h3, trivial⟩ ?_
  rcases boolC (((!y4) || y6)) with h8 | h8
  ·replace h := condT h8 h
   cases h
  ·replace h := condF h8 h
   obtain ⟨y9, h10, h⟩ := bindE h
   obtain ⟨y11, h12, h⟩ := bindE h
   obtain ⟨y13, h14, h⟩ := bindE h
   refine ws (bs := [(((!y4) || y6), false)]) lv30 24 [false] [.call 18 [.agg (d29 x0), .agg (d35 x1)] [] (dS 0) [.sl 4 1 (y9.map pB)] [], .callB 84 [.d (DS pB y9), dB true] (dB y11) [[]] 0 [], .when [(!y11, false)] (.call 42 [.agg (d29 x0), .agg (d35 x1)] [] (dB y13) [] [])] [] 0 [0, 1] [(2, dO 0 0), (3, dO 1 0), (4, .d (DS q42 [])), (5, dI 0), (33, dB ((!y11) || y13))] [.box 29 (d29 x0), .box 35 (d35 x1)] hC ⟨⟨e18, (k18 x0 x1 _ h10)⟩, lend0_get ⟨e84, (k84 y9 true _ h12)⟩, fun hg => ⟨e42, (k42 x0 x1 _ (guardO_get h14 hg))⟩, trivial⟩ ⟨h8, trivial⟩ ?_
   rcases boolC (((!y11) || y13)) with h15 | h15
   ·replace h := condT h15 h
    cases h
   ·replace h := condF h15 h
    obtain ⟨y16, h17, h⟩ := bindE h
    obtain ⟨y18, h19, h⟩ := bindE h
    refine ws (bs := [(((!y11) || y13), false)]) lv30 6 [false] [.call 70 [.agg (d35 x1)] [] (.agg [.os 0, .os 1, .os 2, .os 3]) (zp y16 []) [], .call 18 [.agg (d29 x0), .agg (d35 x1)] [] (dS 0) [.sl 4 1 (y18.map pB)] []] [.ownb 7 11 42 3] 0 [2, 3, 4, 5, 6, 7, 8] [(4, .d (DS q42 [])), (5, dI 0), (9, dO 5 0)] (zp y16 [.sl 4 1 (y18.map pB), .box 144 (zb x0 [.os 0, .os 1, .os 2, .os 3, .os 4, .os 6]), .sl 42 3 (([] : List api_Act).map q42)]) hC ⟨⟨e70, (k70 x1 _ h17)⟩, ⟨e18, (k18 x0 x1 _ h19)⟩, trivial⟩ ⟨h15, trivial⟩ ?_
    obtain ⟨y20, h21, h⟩ := bindE h
    obtain ⟨y22, h23, h⟩ := bindE h
    obtain ⟨y24, h25, h⟩ := bindE h
    refine ws (bs := []) lv30 27 [] [.call 85 [dO 0 0] (.box 144 (zb x0 [.os 1, .os 2, .os 3, .os 4, .os 5, .os 6]) :: zp y16 [.sl 4 1 (y18.map pB), .sl 42 3 (([] : List api_Act).map q42)]) (.tup []) (.box 144 (zb y20.board [.os 7, .os 8, .os 9, .os 10, .os 11, .os 12]) :: .non :: .non :: .non :: .non :: .non :: .non :: zp y20.power [.sl 4 1 (y20.goal.map pB), .sl 42 3 (y20.acts.map q42)]) [5, 0, 1, 2, 3, 4, 6], .call 86 [dO 0 0] (.box 144 (zb y20.board [.os 1, .os 2, .os 3, .os 4, .os 5, .os 6]) :: zp y20.power [.sl 4 1 (y20.goal.map pB), .sl 42 3 (y20.acts.map q42)]) (.tup []) (.box 144 (zb y22.board [.os 7, .os 8, .os 9, .os 10, .os 11, .os 12]) :: .non :: .non :: .non :: .non :: .non :: .non :: zp y22.power [.sl 4 1 (y22.goal.map pB), .sl 42 3 (y22.acts.map q42)]) [5, 7, 8, 9, 10, 11, 12], .call 87 [dO 0 0] (.box 144 (zb y22.board [.os 1, .os 2, .os 3, .os 4, .os 5, .os 6]) :: zp y22.power [.sl 4 1 (y22.goal.map pB), .sl 42 3 (y22.acts.map q42)]) (.tup []) (.box 144 (zb y24.board [.os 7, .os 8, .os 9, .os 10, .os 11, .os 12]) :: .non :: .non :: .non :: .non :: .non :: .non :: zp y24.power [.sl 4 1 (y24.goal.map pB), .sl 42 3 (y24.acts.map q42)]) [5, 13, 14, 15, 16, 17, 18]] [] 0 [5, 19, 20, 21, 22, 23, 24] (st30_0 (zt y24.board (zu y24.power (y24.goal, y24.acts)))) (R30_0 (zt y24.board (zu y24.power (y24.goal, y24.acts)))) hC ⟨⟨e85s1, (k85s1 (⟨x0, y16, y18, ([] : List api_Act)⟩ : restore_planner) _ h21)⟩, ⟨e86s1, (k86s1 y20 _ h23)⟩, ⟨e87s1, (k87s1 y22 _ h25)⟩, trivial⟩ trivial ?_
    obtain ⟨w0, hm0, hret0, hnext0⟩ := andThen_inv h
    clear h
    refine WI_cut (by kernel_rfl) (fun s => w0 = .next s) (sa30_0) (Ra30_0) ?_ fun z0 hs0 => ?_
    ·refine WI_blk (by kernel_rfl) ?_
     refine WI_while (by kernel_rfl) F30_l0 (st30_0) (R30_0) w0 1152921504606846976 (zt y24.board (zu y24.power (y24.goal, y24.acts))) hm0 rfl rfl fun z0 w0b h hb0 hr0 => ?_
     unfold F30_l0 at h
     obtain ⟨y26, h27, h⟩ := bindE h
     refine ws (bs := []) lv30 27 [] [.callB 88 [.d (.ip [.v (.int .i64 z0.1), .s (z0.2.1.map q66), .s (z0.2.2.1.map q57), .s (z0.2.2.2.1.map q108), .v (.int .i64 z0.2.2.2.2.1), .v (.int .i64 z0.2.2.2.2.2.1), .s (z0.2.2.2.2.2.2.1.map pB), .s (z0.2.2.2.2.2.2.2.1.map q59), .s (z0.2.2.2.2.2.2.2.2.1.map pI), .s (z0.2.2.2.2.2.2.2.2.2.1.map q119), .s (z0.2.2.2.2.2.2.2.2.2.2.1.map pB), .s (z0.2.2.2.2.2.2.2.2.2.2.2.map q42)])] (.tup [dI y26.1, dB y26.2]) [[]] 0 []] [] 0 n7_ [(4, .d (DS q42 [])), (5, dI 0), (9, dO 0 0), (10, dI y26.1), (64, dB (!y26.2))] [.box 144 [I z0.1, DS q66 z0.2.1, DS q57 z0.2.2.1, DS q108 z0.2.2.2.1, I z0.2.2.2.2.1, I z0.2.2.2.2.2.1, .os 1, .os 2, .os 3, .os 4, .os 5, .os 6], .sl 4 1 (z0.2.2.2.2.2.2.1.map pB), .sl 59 4 (z0.2.2.2.2.2.2.2.1.map q59), .sl 3 1 (z0.2.2.2.2.2.2.2.2.1.map pI), .sl 119 2 (z0.2.2.2.2.2.2.2.2.2.1.map q119), .sl 4 1 (z0.2.2.2.2.2.2.2.2.2.2.1.map pB), .sl 42 3 (z0.2.2.2.2.2.2.2.2.2.2.2.map q42)] hC ⟨lend0_get ⟨e88s0, (k88s0 (⟨(⟨z0.1, z0.2.1, z0.2.2.1, z0.2.2.2.1, z0.2.2.2.2.1, z0.2.2.2.2.2.1⟩ : api_Board), (⟨z0.2.2.2.2.2.2.1, z0.2.2.2.2.2.2.2.1, z0.2.2.2.2.2.2.2.2.1, z0.2.2.2.2.2.2.2.2.2.1⟩ : api_Power), z0.2.2.2.2.2.2.2.2.2.2.1, z0.2.2.2.2.2.2.2.2.2.2.2⟩ : restore_planner) _ h27)⟩, trivial⟩ trivial ?_
     rcases boolC (!y26.2) with h28 | h28
     ·replace h := condT h28 h
      exact we (bs := [(!y26.2, true)]) (φ := fun s' => w0 = .next s') (st' := (sa30_0)) (R' := (Ra30_0)) lv30 23 [true] [] [] 0 n7_ (z0.1, z0.2.1, z0.2.2.1, z0.2.2.2.1, z0.2.2.2.2.1, z0.2.2.2.2.2.1, z0.2.2.2.2.2.2.1, z0.2.2.2.2.2.2.2.1, z0.2.2.2.2.2.2.2.2.1, z0.2.2.2.2.2.2.2.2.2.1, z0.2.2.2.2.2.2.2.2.2.2.1, z0.2.2.2.2.2.2.2.2.2.2.2) hC trivial ⟨h28, trivial⟩ (hb0 _ (sI h).symm)
     ·replace h := condF h28 h
      obtain ⟨y29, h30, h⟩ := bindE h
      exact we (bs := [(!y26.2, false)]) (φ := fun s' => w0b = .next s') (st' := (st30_0)) (R' := (R30_0)) lv30 25 [false] [.call 89 [dO 0 0, dI 1, dI y26.1] [.box 144 [I z0.1, DS q66 z0.2.1, DS q57 z0.2.2.1, DS q108 z0.2.2.2.1, I z0.2.2.2.2.1, I z0.2.2.2.2.2.1, .os 1, .os 2, .os 3, .os 4, .os 5, .os 6], .sl 4 1 (z0.2.2.2.2.2.2.1.map pB), .sl 59 4 (z0.2.2.2.2.2.2.2.1.map q59), .sl 3 1 (z0.2.2.2.2.2.2.2.2.1.map pI), .sl 119 2 (z0.2.2.2.2.2.2.2.2.2.1.map q119), .sl 4 1 (z0.2.2.2.2.2.2.2.2.2.2.1.map pB), .sl 42 3 (z0.2.2.2.2.2.2.2.2.2.2.2.map q42)] (.tup []) (.box 144 (zb y29.board [.os 1, .os 2, .os 3, .os 4, .os 5, .os 7]) :: zp y29.power [.sl 4 1 (y29.goal.map pB), .non, .sl 42 3 (y29.acts.map q42)]) n7_] [] 0 [0, 1, 2, 3, 4, 5, 7] (zt y29.board (zu y29.power (y29.goal, y29.acts))) hC ⟨⟨e89s1, (k89s1 (⟨(⟨z0.1, z0.2.1, z0.2.2.1, z0.2.2.2.1, z0.2.2.2.2.1, z0.2.2.2.2.2.1⟩ : api_Board), (⟨z0.2.2.2.2.2.2.1, z0.2.2.2.2.2.2.2.1, z0.2.2.2.2.2.2.2.2.1, z0.2.2.2.2.2.2.2.2.2.1⟩ : api_Power), z0.2.2.2.2.2.2.2.2.2.2.1, z0.2.2.2.2.2.2.2.2.2.2.2⟩ : restore_planner) 1 y26.1 _ h30)⟩, trivial⟩ ⟨h28, trivial⟩ (sI h).symm
    ·have h := hnext0 _ hs0
     obtain ⟨y31, h32, h⟩ := bindE h
     replace h := sI h
     subst h
     exact wr (bs := []) lv30 25 [] [.call 90 [dO 0 0] [.box 144 [I z0.1, DS q66 z0.2.1, DS q57 z0.2.2.1, DS q108 z0.2.2.2.1, I z0.2.2.2.2.1, I z0.2.2.2.2.2.1, .os 1, .os 2, .os 3, .os 4, .os 5, .os 6], .sl 4 1 (z0.2.2.2.2.2.2.1.map pB), .sl 59 4 (z0.2.2.2.2.2.2.2.1.map q59), .sl 3 1 (z0.2.2.2.2.2.2.2.2.1.map pI), .sl 119 2 (z0.2.2.2.2.2.2.2.2.2.1.map q119), .sl 4 1 (z0.2.2.2.2.2.2.2.2.2.2.1.map pB), .sl 42 3 (z0.2.2.2.2.2.2.2.2.2.2.2.map q42)] (.tup []) (.box 144 (zb y31.board [.os 7, .os 8, .os 9, .os 10, .os 11, .os 12]) :: .non :: .non :: .non :: .non :: .non :: .non :: zp y31.power [.sl 4 1 (y31.goal.map pB), .sl 42 3 (y31.acts.map q42)]) n7_] [] [.tmp 4, .tmp 5] 0 [12] hC ⟨⟨e90s1, (k90s1 (⟨(⟨z0.1, z0.2.1, z0.2.2.1, z0.2.2.2.1, z0.2.2.2.2.1, z0.2.2.2.2.2.1⟩ : api_Board), (⟨z0.2.2.2.2.2.2.1, z0.2.2.2.2.2.2.2.1, z0.2.2.2.2.2.2.2.2.1, z0.2.2.2.2.2.2.2.2.2.1⟩ : api_Power), z0.2.2.2.2.2.2.2.2.2.2.1, z0.2.2.2.2.2.2.2.2.2.2.2⟩ : restore_planner) _ h32)⟩, trivial⟩ trivial
theorem e30 : Enters Tryz.prog 30 := en Tryz.func30
theorem k22  (r : Bool) (h : F22  = some r) : CallOk Tryz.prog 22 [] [] (.d (Bo r)) [] := by
 unfold F22 at h
 refine callOk_of 64 Tryz.func22 rfl rfl rfl fun C hC => ?_
 obtain ⟨y1, h2, h⟩ := bindE h
 obtain ⟨y3, h4, h⟩ := bindE h
 obtain ⟨y5, h6, h⟩ := bindE h
 obtain ⟨y7, h8, h⟩ := bindE h
 obtain ⟨y9, h10, h⟩ := bindE h
 replace h := sI h
 subst h
 exact wr (bs := []) n9_ 31 [] [.call 28 [] [] (.tup [.agg (d29 F28.1), .agg (d35 F28.2)]) [] [], .call 30 [.agg (d29 F28.1), .agg (d35 F28.2)] [] (.tup [dS 0, dI y1.2]) [.sl 42 3 (y1.1.map q42)] [], .call 25 [.agg (d29 F28.1), .agg (d35 F28.2), dI 7, dS 0] [.sl 42 3 (y1.1.map q42)] (.tup [.agg [.os 1, .os 2, .os 3, .os 4], dI y3.2.1, dI y3.2.2.1, dI y3.2.2.2]) (.sl 42 3 (y1.1.map q42) :: zp y3.1 []) [2], .when [((y1.2 == 0), true)] (.callB 72 [.d (DS q42 y1.1), .d (DS q42 [(⟨3, 0, 0⟩ : api_Act), (⟨7, 0, 0⟩ : api_Act), (⟨7, 0, 0⟩ : api_Act), (⟨7, 0, 0⟩ : api_Act), (⟨1, 1, 0⟩ : api_Act), (⟨1, 0, 0⟩ : api_Act)])] (dB y5) [[]] 0 []), .when [((((((y1.2 == 0) && y5) && (y3.2.2.2 == 0)) && (y3.2.1 == 10)) && (y3.2.2.1 == 6)), true)] (.callB 42 [.agg (d29 F28.1), .agg (d35 y3.1)] (dB y7) [[]] 0 []), .when [(((((((y1.2 == 0) && y5) && (y3.2.2.2 == 0)) && (y3.2.1 == 10)) && (y3.2.2.1 == 6)) && y7), true)] (.call 42 [.agg (d29 F28.1), .agg (d35 F28.2)] [] (dB y9) [] [])] [] [.tmp 0] 0 [] hC ⟨⟨e28, (k28  _ rfl)⟩, ⟨e30, (k30 F28.1 F28.2 _ h2)⟩, ⟨e25, ((k25 F28.1 F28.2 7 y1.1 _ h4).lend (by kernel_rfl) (by kernel_rfl) (by kernel_rfl) ⟨flat_sl (fun _ => rfl), flat_sl (fun _ => rfl), flat_sl (fun _ => rfl), flat_sl (fun _ => rfl), trivial⟩ (by kernel_rfl) (by kernel_rfl))⟩, fun hg => lend0_get ⟨e72, (k72 y1.1 [(⟨3, 0, 0⟩ : api_Act), (⟨7, 0, 0⟩ : api_Act), (⟨7, 0, 0⟩ : api_Act), (⟨7, 0, 0⟩ : api_Act), (⟨1, 1, 0⟩ : api_Act), (⟨1, 0, 0⟩ : api_Act)] _ (guardO_get h6 hg))⟩, fun hg => lend0_get ⟨e42, (k42 F28.1 y3.1 _ (guardO_get h8 hg))⟩, fun hg => ⟨e42, (k42 F28.1 F28.2 _ (guardO_get h10 hg))⟩, trivial⟩ trivial
theorem e22 : Enters Tryz.prog 22 := en Tryz.func22
def lv4 : List Nat := [0, 2, 3, 4, 5, 6, 7, 8, 9, 10, 11, 12, 13, 14, 15, 16, 37, 38, 39, 40, 53, 96, 99]
def st4_0 (y7 : (List api_Act) × dynposmake_Src) (y9 : api_Power × Int × Int × Int) (n0 : Nat) (z0 : Sg0) : St := [(2, dB false), (4, dO 3 0), (6, dS 8), (7, dO 13 0), (8, dI y9.2.1), (9, dI y9.2.2.1), (10, dI y9.2.2.2), (11, dO 14 0), (12, dI z0.1), (37, dS 8), (38, dI (ln y7.1)), (39, dI (cnt 0 n0))]
def R4_0 (y3 : api_Board × dynposmake_Src) (y7 : (List api_Act) × dynposmake_Src) (y9 : api_Power × Int × Int × Int) (n0 : Nat) (z0 : Sg0) : List Res := (zs y3.1 (.box 29 [I y3.1.Buses, .os 0, .os 1, .os 2, I y3.1.Phase, I y3.1.Frequency] :: .sl 4 1 (z0.2.1.map pB) :: .sl 59 4 (z0.2.2.1.map q59) :: .sl 3 1 (z0.2.2.2.1.map pI) :: .sl 119 2 (z0.2.2.2.2.map q119) :: .sl 42 3 (y7.1.map q42) :: zp y9.1 [.box 35 [.os 9, .os 10, .os 11, .os 12], .box 35 [.os 4, .os 5, .os 6, .os 7]]))
def sa4_0 (y9 : api_Power × Int × Int × Int) (z0 : Sg0) : St := [(2, dB false), (6, dS 4), (7, dO 9 0), (8, dI y9.2.1), (9, dI y9.2.2.1), (10, dI y9.2.2.2), (11, dO 10 0), (12, dI z0.1)]
def Ra4_0 (y7 : (List api_Act) × dynposmake_Src) (y9 : api_Power × Int × Int × Int) (z0 : Sg0) : List Res := (.sl 4 1 (z0.2.1.map pB) :: .sl 59 4 (z0.2.2.1.map q59) :: .sl 3 1 (z0.2.2.2.1.map pI) :: .sl 119 2 (z0.2.2.2.2.map q119) :: .sl 42 3 (y7.1.map q42) :: zp y9.1 [.box 35 [.os 5, .os 6, .os 7, .os 8], .box 35 [.os 0, .os 1, .os 2, .os 3]])
theorem k4 (x0 : List Int) (r : Bool) (h : F4 x0 = some r) : CallOk Tryz.prog 4 [.d (DS pI x0)] [] (.d (Bo r)) [] := by
 unfold F4 at h
 refine callOk_of 125 Tryz.func4 rfl rfl rfl fun C hC => ?_
 obtain ⟨y1, h2, h⟩ := bindE h
 obtain ⟨y3, h4, h⟩ := bindE h
 obtain ⟨y5, h6, h⟩ := bindE h
 obtain ⟨y7, h8, h⟩ := bindE h
 obtain ⟨y9, h10, h⟩ := bindE h
 refine ws (bs := []) lv4 38 [] [.call 15 [.d (DS pI x0)] [] (dO 0 0) [.box 121 (d121 y1)] [], .call 16 [dO 0 0] [.box 121 (d121 y1)] (.agg [I y3.1.Buses, .os 1, .os 2, .os 3, I y3.1.Phase, I y3.1.Frequency]) (.box 121 (d121 y3.2) :: zs y3.1 []) [0], .call 23 [dO 0 0, .agg [I y3.1.Buses, .os 1, .os 2, .os 3, I y3.1.Phase, I y3.1.Frequency]] (.box 121 (d121 y3.2) :: zs y3.1 []) (.agg [.os 4, .os 5, .os 6, .os 7]) (.box 121 (d121 y5.2) :: zs y3.1 (zp y5.1 [])) n4_, .call 24 [dO 0 0, .agg [I y3.1.Buses, .os 1, .os 2, .os 3, I y3.1.Phase, I y3.1.Frequency], dI 8] (.box 121 (d121 y5.2) :: zs y3.1 []) (dS 4) (.box 121 (d121 y7.2) :: zs y3.1 [.sl 42 3 (y7.1.map q42)]) n4_, .call 25 [.agg [I y3.1.Buses, .os 0, .os 1, .os 2, I y3.1.Phase, I y3.1.Frequency], .agg [.os 3, .os 4, .os 5, .os 6], dI 10, dS 7] (zs y3.1 (zp y5.1 [.sl 42 3 (y7.1.map q42)])) (.tup [.agg [.os 8, .os 9, .os 10, .os 11], dI y9.2.1, dI y9.2.2.1, dI y9.2.2.2]) (zs y3.1 (zp y5.1 (.sl 42 3 (y7.1.map q42) :: zp y9.1 []))) [1, 2, 3, 5, 6, 7, 8, 10], .len (ln (y7.1.map q42)) (ln y7.1)] [] 0 [1, 2, 3, 4, 5, 6, 7, 8, 10, 11, 12, 13, 14, 15, 16] (st4_0 y7 y9 0 (10, y5.1.Closed, y5.1.Sources, y5.1.Limits, y5.1.Broken)) (R4_0 y3 y7 y9 0 (10, y5.1.Closed, y5.1.Sources, y5.1.Limits, y5.1.Broken)) hC ⟨⟨e15, (k15 x0 _ h2)⟩, ⟨e16, (k16 y1 _ h4)⟩, ⟨e23s1, (k23s1 y3.2 y3.1 _ h6)⟩, ⟨e24s1, (k24s1 y5.2 y3.1 8 _ h8)⟩, ⟨e25, ((k25 y3.1 y5.1 10 y7.1 _ h10).lend (by kernel_rfl) (by kernel_rfl) (by kernel_rfl) ⟨flat_sl (fun _ => rfl), flat_sl (fun _ => rfl), flat_sl (fun _ => rfl), flat_sl (fun _ => rfl), trivial⟩ (by kernel_rfl) (by kernel_rfl))⟩, len_map _ _, trivial⟩ trivial ?_
 obtain ⟨w0, hm0, hret0, hnext0⟩ := andThen_inv h
 clear h
 refine WI_cut (by kernel_rfl) (fun s => w0 = .next s) (sa4_0 y9) (Ra4_0 y7 y9) ?_ fun z0 hs0 => ?_
 ·refine WI_blk (by kernel_rfl) ?_
  refine WI_lenO 37 8 rfl rfl fun hl0 => ?_
  refine WI_foldI (by kernel_rfl) (F4_l0 y3 y9) (st4_0 y7 y9) (R4_0 y3 y7 y9) w0 y7.1 (10, y5.1.Closed, y5.1.Sources, y5.1.Limits, y5.1.Broken) hm0 rfl rfl (fun z0 hn0 => ?_) fun n0 a0 z0 w0b hi0 hx0 h hb0 hr0 => ?_
  ·clear hm0
   exact we (bs := [(decide ((cnt 0 y7.1.length) < (ln y7.1)), false)]) (φ := fun s' => w0 = .next s') (st' := (sa4_0 y9)) (R' := (Ra4_0 y7 y9)) lv4 26 [false] [] [] 0 [4, 5, 6, 7, 8, 9, 10, 11, 12, 13, 14] (z0.1, z0.2.1, z0.2.2.1, z0.2.2.2.1, z0.2.2.2.2) hC trivial ⟨(cnt_end hl0), trivial⟩ hn0
  ·unfold F4_l0 at h
   obtain ⟨y11, h12, h⟩ := bindE h
   refine ws (bs := [(decide ((cnt 0 n0) < (ln y7.1)), true)]) lv4 35 [true] [.row (y7.1.map q42) (cnt 0 n0) (q42 a0), .row (y7.1.map q42) (((Int.toNat (cnt 0 n0)) : Nat) : Int) (q42 a0), .call 19 [.agg [I y3.1.Buses, .os 0, .os 1, .os 2, I y3.1.Phase, I y3.1.Frequency], .agg [.os 3, .os 4, .os 5, .os 6], dI z0.1, .agg (d42 a0)] (zs y3.1 [.sl 4 1 (z0.2.1.map pB), .sl 59 4 (z0.2.2.1.map q59), .sl 3 1 (z0.2.2.2.1.map pI), .sl 119 2 (z0.2.2.2.2.map q119)]) (.tup [.agg [.os 7, .os 8, .os 9, .os 10], dI y11.2]) (zs y3.1 (.sl 4 1 (z0.2.1.map pB) :: .sl 59 4 (z0.2.2.1.map q59) :: .sl 3 1 (z0.2.2.2.1.map pI) :: .sl 119 2 (z0.2.2.2.2.map q119) :: zp y11.1 [])) [0, 1, 2, 4, 5, 6, 7]] [] 0 n21_ [(2, dB false), (4, dO 3 0), (6, dS 8), (7, dO 13 0), (8, dI y9.2.1), (9, dI y9.2.2.1), (10, dI y9.2.2.2), (11, dO 14 0), (12, dI z0.1), (13, dI (cnt 0 n0)), (14, dO 15 0), (15, dO 20 0), (16, dI y11.2), (37, dS 8), (38, dI (ln y7.1)), (39, dI (cnt 0 n0)), (53, dB (y11.2 != 0))] (zs y3.1 (.box 29 [I y3.1.Buses, .os 0, .os 1, .os 2, I y3.1.Phase, I y3.1.Frequency] :: .sl 4 1 (z0.2.1.map pB) :: .sl 59 4 (z0.2.2.1.map q59) :: .sl 3 1 (z0.2.2.2.1.map pI) :: .sl 119 2 (z0.2.2.2.2.map q119) :: .sl 42 3 (y7.1.map q42) :: zp y9.1 (.box 35 [.os 9, .os 10, .os 11, .os 12] :: .box 35 [.os 4, .os 5, .os 6, .os 7] :: .box 42 (d42 a0) :: zp y11.1 [.box 35 [.os 16, .os 17, .os 18, .os 19]]))) hC ⟨row_get (get_cnt hx0 hl0), row_getN (get_cnt hx0 hl0), ⟨e19, ((k19 y3.1 (⟨z0.2.1, z0.2.2.1, z0.2.2.2.1, z0.2.2.2.2⟩ : api_Power) z0.1 a0 _ h12).lend (by kernel_rfl) (by kernel_rfl) (by kernel_rfl) ⟨flat_sl (fun _ => rfl), flat_sl (fun _ => rfl), flat_sl (fun _ => rfl), flat_sl (fun _ => rfl), trivial⟩ (by kernel_rfl) (by kernel_rfl))⟩, trivial⟩ ⟨(cnt_lt hi0 hl0), trivial⟩ ?_
   rcases boolC ((y11.2 != 0)) with h13 | h13
   ·replace h := condT h13 h
    obtain ⟨y14, h15, h⟩ := bindE h
    obtain ⟨y16, h17, h⟩ := bindE h
    have hq := hret0 _ (hr0 _ (sI h).symm)
    replace hq := sI hq
    subst hq
    exact wr (bs := [((y11.2 != 0), true)]) lv4 24 [true] [.when [((((y9.2.2.1 == (cnt 0 n0)) && (y9.2.2.2 == y11.2)) && (y9.2.1 == z0.1)), true)] (.callB 26 [.agg (d35 y9.1), .agg [DS pB z0.2.1, DS q59 z0.2.2.1, DS pI z0.2.2.2.1, DS q119 z0.2.2.2.2]] (dB y14) [[]] 0 []), .when [(((((y9.2.2.1 == (cnt 0 n0)) && (y9.2.2.2 == y11.2)) && (y9.2.1 == z0.1)) && y14), true)] (.len (ln (y11.1.Closed.map pB)) (ln y11.1.Closed)), .when [(((((y9.2.2.1 == (cnt 0 n0)) && (y9.2.2.2 == y11.2)) && (y9.2.1 == z0.1)) && y14), true)] (.len (ln (y11.1.Sources.map q59)) (ln y11.1.Sources)), .when [(((((y9.2.2.1 == (cnt 0 n0)) && (y9.2.2.2 == y11.2)) && (y9.2.1 == z0.1)) && y14), true)] (.len (ln (y11.1.Limits.map pI)) (ln y11.1.Limits)), .when [(((((y9.2.2.1 == (cnt 0 n0)) && (y9.2.2.2 == y11.2)) && (y9.2.1 == z0.1)) && y14), true)] (.len (ln (y11.1.Broken.map q119)) (ln y11.1.Broken)), .when [((((((y9.2.2.1 == (cnt 0 n0)) && (y9.2.2.2 == y11.2)) && (y9.2.1 == z0.1)) && y14) && ((w64 ((w64 ((w64 ((ln y11.1.Closed) + (ln y11.1.Sources))) + (ln y11.1.Limits))) + (ln y11.1.Broken))) == 0)), true)] (.call 22 [] [] (dB y16) [] [])] [] [.tmp 2] 0 [] hC ⟨fun hg => lend0_get ⟨e26, (k26 y9.1 (⟨z0.2.1, z0.2.2.1, z0.2.2.2.1, z0.2.2.2.2⟩ : api_Power) _ (guardO_get h15 hg))⟩, fun hg => len_map _ _, fun hg => len_map _ _, fun hg => len_map _ _, fun hg => len_map _ _, fun hg => ⟨e22, (k22  _ (guardO_get h17 hg))⟩, trivial⟩ ⟨h13, trivial⟩
   ·replace h := condF h13 h
    obtain ⟨y18, h19, h⟩ := bindE h
    refine ws (bs := [((y11.2 != 0), false)]) lv4 26 [false] [.callB 27 [.agg (d29 y3.1), .agg (d35 y11.1)] (dI y18) [[]] 0 []] [] 0 n21_ [(2, dB false), (4, dO 3 0), (6, dS 8), (7, dO 13 0), (8, dI y9.2.1), (9, dI y9.2.2.1), (10, dI y9.2.2.2), (11, dO 14 0), (12, dI z0.1), (14, dO 15 0), (15, dO 20 0), (37, dS 8), (38, dI (ln y7.1)), (39, dI (cnt 0 n0)), (96, dB (y18 != 0))] (zs y3.1 (.box 29 [I y3.1.Buses, .os 0, .os 1, .os 2, I y3.1.Phase, I y3.1.Frequency] :: .sl 4 1 (z0.2.1.map pB) :: .sl 59 4 (z0.2.2.1.map q59) :: .sl 3 1 (z0.2.2.2.1.map pI) :: .sl 119 2 (z0.2.2.2.2.map q119) :: .sl 42 3 (y7.1.map q42) :: zp y9.1 (.box 35 [.os 9, .os 10, .os 11, .os 12] :: .box 35 [.os 4, .os 5, .os 6, .os 7] :: .box 42 (d42 a0) :: zp y11.1 [.box 35 [.os 16, .os 17, .os 18, .os 19]]))) hC ⟨lend0_get ⟨e27, (k27 y3.1 y11.1 _ h19)⟩, trivial⟩ ⟨h13, trivial⟩ ?_
    rcases boolC ((y18 != 0)) with h20 | h20
    ·replace h := condT h20 h
     have hq := hret0 _ (hr0 _ (sI h).symm)
     replace hq := sI hq
     subst hq
     exact wr (bs := [((y18 != 0), true)]) lv4 24 [true] [] [] [.tmp 2] 0 [] hC trivial ⟨h20, trivial⟩
    ·replace h := condF h20 h
     rcases boolC ((a0.Kind == 7)) with h21 | h21
     ·replace h := condT h21 h
      exact we (bs := [((y18 != 0), false), ((a0.Kind == 7), true)]) (φ := fun s' => w0b = .next s') (st' := (st4_0 y7 y9 (n0 + 1))) (R' := (R4_0 y3 y7 y9 (n0 + 1))) lv4 31 [false, true] [] [] 0 [0, 1, 2, 3, 16, 17, 18, 19, 8, 9, 10, 11, 12, 13, 14] (w64 (z0.1 + 1), y11.1.Closed, y11.1.Sources, y11.1.Limits, y11.1.Broken) hC trivial ⟨h20, h21, trivial⟩ (sI h).symm
     ·replace h := condF h21 h
      exact we (bs := [((y18 != 0), false), ((a0.Kind == 7), false)]) (φ := fun s' => w0b = .next s') (st' := (st4_0 y7 y9 (n0 + 1))) (R' := (R4_0 y3 y7 y9 (n0 + 1))) lv4 31 [false, false] [] [] 0 [0, 1, 2, 3, 16, 17, 18, 19, 8, 9, 10, 11, 12, 13, 14] (z0.1, y11.1.Closed, y11.1.Sources, y11.1.Limits, y11.1.Broken) hC trivial ⟨h20, h21, trivial⟩ (sI h).symm
 ·have h := hnext0 _ hs0
  obtain ⟨y22, h23, h⟩ := bindE h
  obtain ⟨y24, h25, h⟩ := bindE h
  replace h := sI h
  subst h
  exact wr (bs := []) lv4 23 [] [.len (ln (y7.1.map q42)) (ln y7.1), .when [((((y9.2.2.1 == (ln y7.1)) && (y9.2.2.2 == 0)) && (y9.2.1 == z0.1)), true)] (.callB 26 [.agg (d35 y9.1), .agg [DS pB z0.2.1, DS q59 z0.2.2.1, DS pI z0.2.2.2.1, DS q119 z0.2.2.2.2]] (dB y22) [[]] 0 []), .when [(((((y9.2.2.1 == (ln y7.1)) && (y9.2.2.2 == 0)) && (y9.2.1 == z0.1)) && y22), true)] (.call 22 [] [] (dB y24) [] [])] [] [.tmp 2] 0 [] hC ⟨len_map _ _, fun hg => lend0_get ⟨e26, (k26 y9.1 (⟨z0.2.1, z0.2.2.1, z0.2.2.2.1, z0.2.2.2.2⟩ : api_Power) _ (guardO_get h23 hg))⟩, fun hg => ⟨e22, (k22  _ (guardO_get h25 hg))⟩, trivial⟩ trivial
theorem e4 : Enters Tryz.prog 4 := en Tryz.func4
end Go.Proofs.YtkngbnedbgndoaaGreat
