import Derived.Test.YtkngbnedbgndoaaGreatM1
set_option linter.unusedVariables false
namespace Go.Proofs.YtkngbnedbgndoaaGreat
open Go.SL
def lv71s1 : List Nat := [0, 1, 3, 4, 6, 17, 36, 55, 76, 82, 88, 96]
theorem k71s1 (x0 : restore_worker) (x1 : api_Act) (r : Int × restore_worker) (h : F71s1 x0 x1 = some r) : CallOk Tryz.prog 71 [.d (.o 0 0), .agg (d42 x1)] (.box 130 (b6 x0.board [.os 1, .os 2, .os 3, .os 4, I x0.time]) :: p4 x0.power []) (.d (I r.1)) (.box 130 (b6 r.2.board [.os 5, .os 6, .os 7, .os 8, I r.2.time]) :: .non :: .non :: .non :: .non :: p4 r.2.power []) := by
 unfold F71s1 at h
 refine callOk_of 101 Tryz.func71 rfl rfl rfl fun C hC => ?_
 rcases boolC ((x1.Kind == 1)) with h1 | h1
 ·replace h := condT h1 h
  obtain ⟨y2, h3, h⟩ := bindE h
  replace h := sI h
  subst h
  exact WI_ret (bs := [((x1.Kind == 1), true)]) mixed lv71s1 34 [true] [.call 142 [.agg (d29 x0.board), .agg [.os 0, .os 1, .os 2, .os 3], .d (I x1.Unit)] (p4 x0.power []) (.tup [.agg [.os 4, .os 5, .os 6, .os 7], .d (I y2.2)]) (p4 x0.power (p4 y2.1 [])) [1, 2, 3, 4]] [.frz 1, .frz 2, .frz 3, .frz 4] [.tmp 4] 5 [0, 1, 2, 3, 4, 6, 7, 8, 9] rfl hC ⟨⟨e142, ((k142 x0.board x0.power x1.Unit _ h3).lend (by kernel_rfl) (by kernel_rfl) (by kernel_rfl) ⟨flat_sl (fun _ => rfl), flat_sl (fun _ => rfl), flat_sl (fun _ => rfl), flat_sl (fun _ => rfl), trivial⟩ (by kernel_rfl) (by kernel_rfl))⟩, trivial⟩ ⟨h1, trivial⟩ (by kernel_rfl)
 ·replace h := condF h1 h
  rcases boolC ((x1.Kind == 2)) with h4 | h4
  ·replace h := condT h4 h
   obtain ⟨y5, h6, h⟩ := bindE h
   replace h := sI h
   subst h
   exact WI_ret (bs := [((x1.Kind == 1), false), ((x1.Kind == 2), true)]) mixed lv71s1 37 [false, true] [.call 143 [.agg (d29 x0.board), .agg [.os 0, .os 1, .os 2, .os 3], .d (I x1.Unit)] (p4 x0.power []) (.tup [.agg [.os 4, .os 5, .os 6, .os 7], .d (I y5.2)]) (p4 x0.power (p4 y5.1 [])) [1, 2, 3, 4]] [.frz 1, .frz 2, .frz 3, .frz 4] [.tmp 4] 5 [0, 1, 2, 3, 4, 6, 7, 8, 9] rfl hC ⟨⟨e143, ((k143 x0.board x0.power x1.Unit _ h6).lend (by kernel_rfl) (by kernel_rfl) (by kernel_rfl) ⟨flat_sl (fun _ => rfl), flat_sl (fun _ => rfl), flat_sl (fun _ => rfl), flat_sl (fun _ => rfl), trivial⟩ (by kernel_rfl) (by kernel_rfl))⟩, trivial⟩ ⟨h1, h4, trivial⟩ (by kernel_rfl)
  ·replace h := condF h4 h
   rcases boolC ((x1.Kind == 6)) with h7 | h7
   ·replace h := condT h7 h
    obtain ⟨y8, h9, h⟩ := bindE h
    replace h := sI h
    subst h
    exact WI_ret (bs := [((x1.Kind == 1), false), ((x1.Kind == 2), false), ((x1.Kind == 6), true)]) mixed lv71s1 40 [false, false, true] [.call 144 [.agg (d29 x0.board), .agg [.os 0, .os 1, .os 2, .os 3], .d (I x1.Unit), .d (I x1.Value)] (p4 x0.power []) (.tup [.agg [.os 4, .os 5, .os 6, .os 7], .d (I y8.2)]) (p4 x0.power (p4 y8.1 [])) [1, 2, 3, 4]] [.frz 1, .frz 2, .frz 3, .frz 4] [.tmp 4] 5 [0, 1, 2, 3, 4, 6, 7, 8, 9] rfl hC ⟨⟨e144, ((k144 x0.board x0.power x1.Unit x1.Value _ h9).lend (by kernel_rfl) (by kernel_rfl) (by kernel_rfl) ⟨flat_sl (fun _ => rfl), flat_sl (fun _ => rfl), flat_sl (fun _ => rfl), flat_sl (fun _ => rfl), trivial⟩ (by kernel_rfl) (by kernel_rfl))⟩, trivial⟩ ⟨h1, h4, h7, trivial⟩ (by kernel_rfl)
   ·replace h := condF h7 h
    rcases boolC ((x1.Kind == 3)) with h10 | h10
    ·replace h := condT h10 h
     obtain ⟨y11, h12, h⟩ := bindE h
     replace h := sI h
     subst h
     exact WI_ret (bs := [((x1.Kind == 1), false), ((x1.Kind == 2), false), ((x1.Kind == 6), false), ((x1.Kind == 3), true)]) mixed lv71s1 43 [false, false, false, true] [.call 145 [.d (.o 0 0), .d (I x1.Unit)] (.box 130 (b6 x0.board [.os 1, .os 2, .os 3, .os 4, I x0.time]) :: p4 x0.power []) (.d (I y11.1)) (.box 130 (b6 y11.2.board [.os 1, .os 2, .os 3, .os 4, I y11.2.time]) :: p4 y11.2.power []) n5_] [.mv 1, .mv 2, .mv 3, .mv 4] [.tmp 4] 5 [0, 1, 2, 3, 4, 6, 7, 8, 9] rfl hC ⟨⟨e145s1, (k145s1 x0 x1.Unit _ h12)⟩, trivial⟩ ⟨h1, h4, h7, h10, trivial⟩ (by kernel_rfl)
    ·replace h := condF h10 h
     rcases boolC ((x1.Kind == 4)) with h13 | h13
     ·replace h := condT h13 h
      obtain ⟨y14, h15, h⟩ := bindE h
      replace h := sI h
      subst h
      exact WI_ret (bs := [((x1.Kind == 1), false), ((x1.Kind == 2), false), ((x1.Kind == 6), false), ((x1.Kind == 3), false), ((x1.Kind == 4), true)]) mixed lv71s1 46 [false, false, false, false, true] [.call 146 [.d (.o 0 0), .d (I x1.Unit)] (.box 130 (b6 x0.board [.os 1, .os 2, .os 3, .os 4, I x0.time]) :: p4 x0.power []) (.d (I y14.1)) (.box 130 (b6 y14.2.board [.os 1, .os 2, .os 3, .os 4, I y14.2.time]) :: p4 y14.2.power []) n5_] [.mv 1, .mv 2, .mv 3, .mv 4] [.tmp 4] 5 [0, 1, 2, 3, 4, 6, 7, 8, 9] rfl hC ⟨⟨e146s1, (k146s1 x0 x1.Unit _ h15)⟩, trivial⟩ ⟨h1, h4, h7, h10, h13, trivial⟩ (by kernel_rfl)
     ·replace h := condF h13 h
      rcases boolC ((x1.Kind == 5)) with h16 | h16
      ·replace h := condT h16 h
       obtain ⟨y17, h18, h⟩ := bindE h
       replace h := sI h
       subst h
       exact WI_ret (bs := [((x1.Kind == 1), false), ((x1.Kind == 2), false), ((x1.Kind == 6), false), ((x1.Kind == 3), false), ((x1.Kind == 4), false), ((x1.Kind == 5), true)]) mixed lv71s1 49 [false, false, false, false, false, true] [.call 147 [.d (.o 0 0), .d (I x1.Unit), .d (I x1.Value)] (.box 130 (b6 x0.board [.os 1, .os 2, .os 3, .os 4, I x0.time]) :: p4 x0.power []) (.d (I y17.1)) (.box 130 (b6 y17.2.board [.os 1, .os 2, .os 3, .os 4, I y17.2.time]) :: p4 y17.2.power []) n5_] [.mv 1, .mv 2, .mv 3, .mv 4] [.tmp 4] 5 [0, 1, 2, 3, 4, 6, 7, 8, 9] rfl hC ⟨⟨e147s1, (k147s1 x0 x1.Unit x1.Value _ h18)⟩, trivial⟩ ⟨h1, h4, h7, h10, h13, h16, trivial⟩ (by kernel_rfl)
      ·replace h := condF h16 h
       rcases boolC ((x1.Kind == 7)) with h19 | h19
       ·replace h := condT h19 h
        obtain ⟨y20, h21, h⟩ := bindE h
        replace h := sI h
        subst h
        exact WI_ret (bs := [((x1.Kind == 1), false), ((x1.Kind == 2), false), ((x1.Kind == 6), false), ((x1.Kind == 3), false), ((x1.Kind == 4), false), ((x1.Kind == 5), false), ((x1.Kind == 7), true)]) mixed lv71s1 52 [false, false, false, false, false, false, true] [.call 148 [.d (.o 0 0)] (.box 130 (b6 x0.board [.os 1, .os 2, .os 3, .os 4, I x0.time]) :: p4 x0.power []) (.tup []) (.box 130 (b6 y20.board [.os 5, .os 6, .os 7, .os 8, I y20.time]) :: .non :: .non :: .non :: .non :: p4 y20.power []) n5_] [] [.tmp 4] 5 [0, 1, 2, 3, 4, 6, 7, 8, 9] rfl hC ⟨⟨e148s1, (k148s1 x0 _ h21)⟩, trivial⟩ ⟨h1, h4, h7, h10, h13, h16, h19, trivial⟩ (by kernel_rfl)
       ·replace h := condF h19 h
        obtain ⟨y22, h23, h⟩ := bindE h
        replace h := sI h
        subst h
        exact WI_ret (bs := [((x1.Kind == 1), false), ((x1.Kind == 2), false), ((x1.Kind == 6), false), ((x1.Kind == 3), false), ((x1.Kind == 4), false), ((x1.Kind == 5), false), ((x1.Kind == 7), false)]) mixed lv71s1 52 [false, false, false, false, false, false, false] [.call 149 [.d (.o 0 0), .agg [I x1.Value, I x1.Unit], .d (Bo (x1.Kind == 8))] (.box 130 (b6 x0.board [.os 1, .os 2, .os 3, .os 4, I x0.time]) :: p4 x0.power []) (.d (I y22.1)) (.box 130 (b6 y22.2.board [.os 5, .os 6, .os 7, .os 8, I y22.2.time]) :: .non :: .non :: .non :: .non :: p4 y22.2.power []) n5_] [] [.tmp 4] 5 [0, 1, 2, 3, 4, 6, 7, 8, 9] rfl hC ⟨⟨e149s1, (k149s1 x0 (⟨x1.Value, x1.Unit⟩ : api_Part) (x1.Kind == 8) _ h23)⟩, trivial⟩ ⟨h1, h4, h7, h10, h13, h16, h19, trivial⟩ (by kernel_rfl)
theorem e71s1 : Enters Tryz.prog 71 := Go.SL.enters_of Tryz.func71 (by kernel_rfl) (by kernel_rfl)
theorem k156s1 (x0 : shed_relief) (r : shed_relief) (h : F156s1 x0 = some r) : CallOk Tryz.prog 156 [.d (.o 0 0)] (.box 244 (b6 x0.board [.os 1, .os 2, .os 3, .os 4, .os 5]) :: p4 x0.power [.sl 42 3 (x0.acts.map q42)]) (.tup []) (.box 244 (b6 r.board [.os 6, .os 7, .os 8, .os 9, .os 10]) :: .non :: .non :: .non :: .non :: .non :: p4 r.power [.sl 42 3 (r.acts.map q42)]) := by
 unfold F156s1 at h
 refine callOk_of 6 Tryz.func156 rfl rfl rfl fun C hC => ?_
 obtain ⟨y1, h2, h⟩ := bindE h
 obtain ⟨y3, h4, h⟩ := bindE h
 replace h := sI h
 subst h
 exact WI_endF (bs := []) mixed [0] 23 [] [.call 157 [.d (.o 0 0)] (.box 244 (b6 x0.board [.os 1, .os 2, .os 3, .os 4, .os 5]) :: p4 x0.power [.sl 42 3 (x0.acts.map q42)]) (.tup []) (.box 244 (b6 y1.board [.os 6, .os 7, .os 8, .os 9, .os 10]) :: .non :: .non :: .non :: .non :: .non :: p4 y1.power [.sl 42 3 (y1.acts.map q42)]) n6_, .call 158 [.d (.o 0 0)] (.box 244 (b6 y1.board [.os 1, .os 2, .os 3, .os 4, .os 5]) :: p4 y1.power [.sl 42 3 (y1.acts.map q42)]) (.tup []) (.box 244 (b6 y3.board [.os 6, .os 7, .os 8, .os 9, .os 10]) :: .non :: .non :: .non :: .non :: .non :: p4 y3.power [.sl 42 3 (y3.acts.map q42)]) [0, 6, 7, 8, 9, 10]] [] [] 6 [0, 1, 2, 3, 4, 5, 11, 12, 13, 14, 15] rfl hC ⟨⟨e157s1, (k157s1 x0 _ h2)⟩, ⟨e158s1, (k158s1 y1 _ h4)⟩, trivial⟩ trivial (by kernel_rfl) (by kernel_rfl)
theorem e156s1 : Enters Tryz.prog 156 := Go.SL.enters_of Tryz.func156 (by kernel_rfl) (by kernel_rfl)
def lv19 : List Nat := [0, 1, 2, 3, 4, 5, 7, 8, 9, 10, 11, 12, 16, 21, 39, 55]
theorem k19 (x0 : api_Board) (x1 : api_Power) (x2 : Int) (x3 : api_Act) (r : api_Power × Int) (h : F19 x0 x1 x2 x3 = some r) : CallOk Tryz.prog 19 [.agg (d29 x0), .agg (d35 x1), .d (I x2), .agg (d42 x3)] [] (.tup [.agg [.os 0, .os 1, .os 2, .os 3], .d (I r.2)]) (p4 r.1 []) := by
 unfold F19 at h
 refine callOk_of 62 Tryz.func19 rfl rfl rfl fun C hC => ?_
 obtain ⟨y1, h2, h⟩ := bindE h
 refine WI_stop (bs := []) mixed lv19 29 [] [.call 65 [.agg (d29 x0), .agg (d35 x1)] [] (.d (I y1)) [] []] [.ownb 3 0 4 1, .ownb 3 1 59 4, .ownb 3 2 3 1, .ownb 3 3 119 2] 0 n8_ [(2, .d (I x2)), (4, .d (.o 0 0)), (5, .d (.o 1 0)), (7, .d (.o 2 0)), (8, .d (.o 3 0)), (9, .d (I 0)), (10, .d (I y1)), (16, .d (Bo (y1 != 0)))] (.box 29 (d29 x0) :: .box 35 (d35 x1) :: .box 42 (d42 x3) :: .box 35 [.os 4, .os 5, .os 6, .os 7] :: e4 []) hC ⟨⟨e65, (k65 x0 x1 _ h2)⟩, trivial⟩ trivial (by kernel_rfl) ?_
 rcases boolC ((y1 != 0)) with h3 | h3
 ·replace h := condT h3 h
  replace h := sI h
  subst h
  exact WI_ret (bs := [((y1 != 0), true)]) mixed lv19 24 [true] [] [.ownb 3 0 4 1, .ownb 3 1 59 4, .ownb 3 2 3 1, .ownb 3 3 119 2] [.cell 8 35, .tmp 9] 0 [8, 9, 10, 11] rfl hC trivial ⟨h3, trivial⟩ (by kernel_rfl)
 ·replace h := condF h3 h
  rcases boolC ((c19_0 x2 x3)) with h4 | h4
  ·replace h := condT h4 h
   replace h := sI h
   subst h
   exact WI_ret (bs := [((y1 != 0), false), ((c19_0 x2 x3), true)]) mixed lv19 27 [false, true] [] [.ownb 3 0 4 1, .ownb 3 1 59 4, .ownb 3 2 3 1, .ownb 3 3 119 2] [.cell 8 35, .tmp 9] 0 [8, 9, 10, 11] rfl hC trivial ⟨h3, h4, trivial⟩ (by kernel_rfl)
  ·replace h := condF h4 h
   obtain ⟨y5, h6, h⟩ := bindE h
   rcases boolC (!y5) with h7 | h7
   ·replace h := condT h7 h
    replace h := sI h
    subst h
    exact WI_ret (bs := [((y1 != 0), false), ((c19_0 x2 x3), false), (!y5, true)]) mixed lv19 30 [false, false, true] [.call 69 [.agg (d29 x0), .agg (d42 x3)] [] (.d (Bo y5)) [] []] [.ownb 3 0 4 1, .ownb 3 1 59 4, .ownb 3 2 3 1, .ownb 3 3 119 2] [.cell 8 35, .tmp 9] 0 [8, 9, 10, 11] rfl hC ⟨⟨e69, (k69 x0 x3 _ h6)⟩, trivial⟩ ⟨h3, h4, h7, trivial⟩ (by kernel_rfl)
   ·replace h := condF h7 h
    obtain ⟨y8, h9, h⟩ := bindE h
    obtain ⟨y10, h11, h⟩ := bindE h
    refine WI_stop (bs := [((y1 != 0), false), ((c19_0 x2 x3), false), (!y5, false)]) mixed lv19 37 [false, false, false] [.call 69 [.agg (d29 x0), .agg (d42 x3)] [] (.d (Bo y5)) [] [], .call 70 [.agg (d35 x1)] [] (.agg [.os 0, .os 1, .os 2, .os 3]) (p4 y8 []) [], .call 71 [.d (.o 0 0), .agg (d42 x3)] (.box 130 (b6 x0 [.os 1, .os 2, .os 3, .os 4, I x2]) :: p4 y8 []) (.d (I y10.1)) (.box 130 (b6 y10.2.board [.os 5, .os 6, .os 7, .os 8, I y10.2.time]) :: .non :: .non :: .non :: .non :: p4 y10.2.power []) [12, 8, 9, 10, 11]] [] 0 [3, 4, 5, 6, 7, 12, 13, 14, 15, 16] [(8, .d (.o 0 0)), (9, .d (I 0)), (11, .d (.o 5 0)), (12, .d (I y10.1)), (55, .d (Bo (y10.1 != 0)))] (.box 35 [.os 1, .os 2, .os 3, .os 4] :: e4 (.box 130 (b6 y10.2.board [.os 6, .os 7, .os 8, .os 9, I y10.2.time]) :: p4 y10.2.power [])) hC ⟨⟨e69, (k69 x0 x3 _ h6)⟩, ⟨e70, (k70 x1 _ h9)⟩, ⟨e71s1, (k71s1 (⟨x0, y8, x2⟩ : restore_worker) x3 _ h11)⟩, trivial⟩ ⟨h3, h4, h7, trivial⟩ (by kernel_rfl) ?_
    rcases boolC ((y10.1 != 0)) with h12 | h12
    ·replace h := condT h12 h
     replace h := sI h
     subst h
     exact WI_ret (bs := [((y10.1 != 0), true)]) mixed lv19 24 [true] [] [.ownb 0 0 4 1, .ownb 0 1 59 4, .ownb 0 2 3 1, .ownb 0 3 119 2] [.cell 8 35, .tmp 9] 0 [10, 11, 12, 13] rfl hC trivial ⟨h12, trivial⟩ (by kernel_rfl)
    ·replace h := condF h12 h
     replace h := sI h
     subst h
     exact WI_ret (bs := [((y10.1 != 0), false)]) mixed lv19 25 [false] [] [] [.cell 8 35, .tmp 9] 0 [6, 7, 8, 9] rfl hC trivial ⟨h12, trivial⟩ (by kernel_rfl)
theorem e19 : Enters Tryz.prog 19 := Go.SL.enters_of Tryz.func19 (by kernel_rfl) (by kernel_rfl)
def lv155s0 : List Nat := [0, 1, 2, 3, 4, 6, 7, 8, 9, 10, 15]
theorem k155s0 (x0 : api_Board) (x1 : api_Power) (r : api_Power × (List api_Act) × Int) (h : F155s0 x0 x1 = some r) : CallOk Tryz.prog 155 [.agg (d29 x0), .agg (d35 x1), .d (.fn (.func 156) [] [])] [] (.tup [.agg [.os 0, .os 1, .os 2, .os 3], .d (.os 4), .d (I r.2.2)]) (p4 r.1 [.sl 42 3 (r.2.1.map q42)]) := by
 unfold F155s0 at h
 refine callOk_of 34 Tryz.func155 rfl rfl rfl fun C hC => ?_
 obtain ⟨y1, h2, h⟩ := bindE h
 refine WI_stop (bs := []) mixed lv155s0 28 [] [.call 65 [.agg (d29 x0), .agg (d35 x1)] [] (.d (I y1)) [] []] [.ownb 2 0 4 1, .ownb 2 1 59 4, .ownb 2 2 3 1, .ownb 2 3 119 2] 0 n7_ [(2, .d (.fn (.func 156) [] [])), (3, .d (.o 0 0)), (4, .d (.o 1 0)), (6, .d (.o 2 0)), (7, .d (DS q42 [])), (8, .d (I 0)), (9, .d (I y1)), (15, .d (Bo (y1 != 0)))] (.box 29 (d29 x0) :: .box 35 (d35 x1) :: .box 35 [.os 3, .os 4, .os 5, .os 6] :: e4 []) hC ⟨⟨e65, (k65 x0 x1 _ h2)⟩, trivial⟩ trivial (by kernel_rfl) ?_
 rcases boolC ((y1 != 0)) with h3 | h3
 ·replace h := condT h3 h
  replace h := sI h
  subst h
  exact WI_ret (bs := [((y1 != 0), true)]) mixed lv155s0 24 [true] [] [.ownb 2 0 4 1, .ownb 2 1 59 4, .ownb 2 2 3 1, .ownb 2 3 119 2, .own 7 42 3] [.cell 6 35, .tmp 7, .tmp 8] 0 [7, 8, 9, 10, 11] rfl hC trivial ⟨h3, trivial⟩ (by kernel_rfl)
 ·replace h := condF h3 h
  obtain ⟨y4, h5, h⟩ := bindE h
  refine WI_stop (bs := [((y1 != 0), false)]) mixed lv155s0 5 [false] [.call 70 [.agg (d35 x1)] [] (.agg [.os 0, .os 1, .os 2, .os 3]) (p4 y4 []) []] [.ownb 11 10 42 3] 0 [2, 3, 4, 5, 6, 7, 8, 9, 10, 11, 12] [(2, .d (.fn (.func 156) [] [])), (6, .d (.o 0 0)), (7, .d (DS q42 [])), (8, .d (I 0)), (10, .d (.o 9 0))] (.box 35 [.os 1, .os 2, .os 3, .os 4] :: e4 (p4 y4 [.box 244 (b6 x0 [.os 5, .os 6, .os 7, .os 8, .os 10]), .sl 42 3 (([] : List api_Act).map q42)])) hC ⟨⟨e70, (k70 x1 _ h5)⟩, trivial⟩ ⟨h3, trivial⟩ (by kernel_rfl) ?_
  obtain ⟨y6, h7, h⟩ := bindE h
  replace h := sI h
  subst h
  exact WI_ret (bs := []) mixed lv155s0 24 [] [.call 156 [.d (.o 0 0)] (.box 244 (b6 x0 [.os 1, .os 2, .os 3, .os 4, .os 5]) :: p4 y4 [.sl 42 3 (([] : List api_Act).map q42)]) (.tup []) (.box 244 (b6 y6.board [.os 6, .os 7, .os 8, .os 9, .os 10]) :: .non :: .non :: .non :: .non :: .non :: p4 y6.power [.sl 42 3 (y6.acts.map q42)]) [9, 5, 6, 7, 8, 10]] [] [.cell 6 35, .tmp 7, .tmp 8] 0 [11, 12, 13, 14, 15] rfl hC ⟨⟨e156s1, (k156s1 (⟨x0, y4, ([] : List api_Act)⟩ : shed_relief) _ h7)⟩, trivial⟩ trivial (by kernel_rfl)
theorem e155s0 : Enters Tryz.prog 155 := Go.SL.enters_of Tryz.func155 (by kernel_rfl) (by kernel_rfl)
theorem k81 (x0 : api_Board) (x1 : api_Power) (r : api_Power × (List api_Act) × Int) (h : F81 x0 x1 = some r) : CallOk Tryz.prog 81 [.agg (d29 x0), .agg (d35 x1)] [] (.tup [.agg [.os 0, .os 1, .os 2, .os 3], .d (.os 4), .d (I r.2.2)]) (p4 r.1 [.sl 42 3 (r.2.1.map q42)]) := by
 unfold F81 at h
 refine callOk_of 13 Tryz.func81 rfl rfl rfl fun C hC => ?_
 obtain ⟨y1, h2, h⟩ := bindE h
 replace h := sI h
 subst h
 exact WI_ret (bs := []) mixed n7_ 25 [] [.call 155 [.agg (d29 x0), .agg (d35 x1), .d (.fn (.func 156) [] [])] [] (.tup [.agg [.os 0, .os 1, .os 2, .os 3], .d (.os 4), .d (I y1.2.2)]) (p4 y1.1 [.sl 42 3 (y1.2.1.map q42)]) []] [] [.cell 4 35, .tmp 5, .tmp 6] 0 [3, 4, 5, 6, 7] rfl hC ⟨⟨e155s0, (k155s0 x0 x1 _ h2)⟩, trivial⟩ trivial (by kernel_rfl)
theorem e81 : Enters Tryz.prog 81 := Go.SL.enters_of Tryz.func81 (by kernel_rfl) (by kernel_rfl)
def lv25 : List Nat := [0, 1, 2, 3, 4, 5, 8, 9, 10, 11, 12, 13, 14, 15, 16, 21, 26, 27, 28, 29, 42, 49]
def st25_0 (x3 : List api_Act) (n0 : Nat) (z0 : Sg0) : St := [(2, .d (I z0.1)), (3, .d (DS q42 x3)), (4, .d (.o 0 0)), (5, .d (.o 1 0)), (8, .d (.o 2 0)), (9, .d (I 0)), (10, .d (I 0)), (11, .d (I 0)), (26, .d (DS q42 x3)), (27, .d (I (x3.length : Int))), (28, .d (I (cnt 0 n0)))]
def R25_0 (x0 : api_Board) (n0 : Nat) (z0 : Sg0) : List Res := (.box 29 (d29 x0) :: .box 35 [.os 7, .os 8, .os 9, .os 10] :: .box 35 [.os 3, .os 4, .os 5, .os 6] :: e4 [.sl 4 1 (z0.2.1.map pB), .sl 59 4 (z0.2.2.1.map q59), .sl 3 1 (z0.2.2.2.1.map pI), .sl 119 2 (z0.2.2.2.2.map q119)])
def sa25_0 (x3 : List api_Act) (z0 : Sg0) : St := [(2, .d (I z0.1)), (3, .d (DS q42 x3)), (5, .d (.o 0 0)), (8, .d (.o 1 0)), (9, .d (I 0)), (10, .d (I 0)), (11, .d (I 0))]
def Ra25_0  (z0 : Sg0) : List Res := (.box 35 [.os 6, .os 7, .os 8, .os 9] :: .box 35 [.os 2, .os 3, .os 4, .os 5] :: e4 [.sl 4 1 (z0.2.1.map pB), .sl 59 4 (z0.2.2.1.map q59), .sl 3 1 (z0.2.2.2.1.map pI), .sl 119 2 (z0.2.2.2.2.map q119)])
theorem k25 (x0 : api_Board) (x1 : api_Power) (x2 : Int) (x3 : List api_Act) (r : api_Power × Int × Int × Int) (h : F25 x0 x1 x2 x3 = some r) : CallOk Tryz.prog 25 [.agg (d29 x0), .agg (d35 x1), .d (I x2), .d (DS q42 x3)] [] (.tup [.agg [.os 0, .os 1, .os 2, .os 3], .d (I r.2.1), .d (I r.2.2.1), .d (I r.2.2.2)]) (p4 r.1 []) := by
 unfold F25 at h
 refine callOk_of 58 Tryz.func25 rfl rfl rfl fun C hC => ?_
 obtain ⟨y1, h2, h⟩ := bindE h
 refine WI_stop (bs := []) mixed lv25 28 [] [.call 65 [.agg (d29 x0), .agg (d35 x1)] [] (.d (I y1)) [] []] [.ownb 2 0 4 1, .ownb 2 1 59 4, .ownb 2 2 3 1, .ownb 2 3 119 2] 0 n7_ [(2, .d (I x2)), (3, .d (DS q42 x3)), (4, .d (.o 0 0)), (5, .d (.o 1 0)), (8, .d (.o 2 0)), (9, .d (I 0)), (10, .d (I 0)), (11, .d (I 0)), (12, .d (I y1)), (21, .d (Bo (y1 != 0)))] (.box 29 (d29 x0) :: .box 35 (d35 x1) :: .box 35 [.os 3, .os 4, .os 5, .os 6] :: e4 []) hC ⟨⟨e65, (k65 x0 x1 _ h2)⟩, trivial⟩ trivial (by kernel_rfl) ?_
 rcases boolC ((y1 != 0)) with h3 | h3
 ·replace h := condT h3 h
  replace h := sI h
  subst h
  exact WI_ret (bs := [((y1 != 0), true)]) mixed lv25 24 [true] [] [.ownb 2 0 4 1, .ownb 2 1 59 4, .ownb 2 2 3 1, .ownb 2 3 119 2] [.cell 8 35, .tmp 9, .tmp 10, .tmp 11] 0 [7, 8, 9, 10] rfl hC trivial ⟨h3, trivial⟩ (by kernel_rfl)
 ·replace h := condF h3 h
  obtain ⟨y4, h5, h⟩ := bindE h
  refine WI_stop (bs := [((y1 != 0), false)]) mixed lv25 28 [false] [.call 70 [.agg (d35 x1)] [] (.agg [.os 0, .os 1, .os 2, .os 3]) (p4 y4 []) [], .len ((x3.map q42).length : Int) (x3.length : Int)] [] 0 n11_ (st25_0 x3 0 (x2, y4.Closed, y4.Sources, y4.Limits, y4.Broken)) (R25_0 x0 0 (x2, y4.Closed, y4.Sources, y4.Limits, y4.Broken)) hC ⟨⟨e70, (k70 x1 _ h5)⟩, len_map _ _, trivial⟩ ⟨h3, trivial⟩ (by kernel_rfl) ?_
  obtain ⟨w0, hm0, hret0, hnext0⟩ := andThen_inv h
  clear h
  refine WI_cut (by kernel_rfl) (fun s => w0 = .next s) (sa25_0 x3) (Ra25_0) ?_ fun z0 hs0 => ?_
  ·refine WI_blk (by kernel_rfl) ?_
   refine WI_len 26 rfl fun hl0 => ?_
   refine WI_foldI (by kernel_rfl) (F25_l0 x0) (st25_0 x3) (R25_0 x0) w0 x3 (x2, y4.Closed, y4.Sources, y4.Limits, y4.Broken) hm0 rfl rfl (fun z0 hn0 => ?_) fun n0 a0 z0 w0b hi0 hx0 h hb0 hr0 => ?_
   ·clear hm0
    exact WI_end (bs := [(decide ((cnt 0 x3.length) < (x3.length : Int)), false)]) (φ := fun s' => w0 = .next s') (st' := (sa25_0 x3)) (R' := (Ra25_0)) mixed lv25 26 [false] [] [] 0 [1, 2, 3, 4, 5, 6, 7, 8, 9, 10] (z0.1, z0.2.1, z0.2.2.1, z0.2.2.2.1, z0.2.2.2.2) hC trivial ⟨(cnt_end hl0), trivial⟩ (by kernel_rfl) (by kernel_rfl) hn0
   ·unfold F25_l0 at h
    obtain ⟨y6, h7, h⟩ := bindE h
    refine WI_stop (bs := [(decide ((cnt 0 n0) < (x3.length : Int)), true)]) mixed lv25 35 [true] [.row (x3.map q42) (cnt 0 n0) (q42 a0), .call 19 [.agg (d29 x0), .agg [.os 0, .os 1, .os 2, .os 3], .d (I z0.1), .agg (d42 a0)] [.sl 4 1 (z0.2.1.map pB), .sl 59 4 (z0.2.2.1.map q59), .sl 3 1 (z0.2.2.2.1.map pI), .sl 119 2 (z0.2.2.2.2.map q119)] (.tup [.agg [.os 4, .os 5, .os 6, .os 7], .d (I y6.2)]) (.sl 4 1 (z0.2.1.map pB) :: .sl 59 4 (z0.2.2.1.map q59) :: .sl 3 1 (z0.2.2.2.1.map pI) :: .sl 119 2 (z0.2.2.2.2.map q119) :: p4 y6.1 []) [7, 8, 9, 10]] [] 0 n17_ [(2, .d (I z0.1)), (3, .d (DS q42 x3)), (4, .d (.o 0 0)), (5, .d (.o 1 0)), (8, .d (.o 2 0)), (9, .d (I 0)), (10, .d (I 0)), (11, .d (I 0)), (13, .d (I (cnt 0 n0))), (14, .d (.o 11 0)), (15, .d (.o 16 0)), (16, .d (I y6.2)), (26, .d (DS q42 x3)), (27, .d (I (x3.length : Int))), (28, .d (I (cnt 0 n0))), (42, .d (Bo (y6.2 != 0)))] (.box 29 (d29 x0) :: .box 35 [.os 7, .os 8, .os 9, .os 10] :: .box 35 [.os 3, .os 4, .os 5, .os 6] :: e4 (.sl 4 1 (z0.2.1.map pB) :: .sl 59 4 (z0.2.2.1.map q59) :: .sl 3 1 (z0.2.2.2.1.map pI) :: .sl 119 2 (z0.2.2.2.2.map q119) :: .box 42 (d42 a0) :: p4 y6.1 [.box 35 [.os 12, .os 13, .os 14, .os 15]])) hC ⟨(row_cnt hx0 hl0), ⟨e19, ((k19 x0 (⟨z0.2.1, z0.2.2.1, z0.2.2.2.1, z0.2.2.2.2⟩ : api_Power) z0.1 a0 _ h7).lend (by kernel_rfl) (by kernel_rfl) (by kernel_rfl) ⟨flat_sl (fun _ => rfl), flat_sl (fun _ => rfl), flat_sl (fun _ => rfl), flat_sl (fun _ => rfl), trivial⟩ (by kernel_rfl) (by kernel_rfl))⟩, trivial⟩ ⟨(cnt_lt hi0 hl0), trivial⟩ (by kernel_rfl) ?_
    rcases boolC ((y6.2 != 0)) with h8 | h8
    ·replace h := condT h8 h
     have hq := hret0 _ (hr0 _ (sI h).symm)
     replace hq := sI hq
     subst hq
     exact WI_ret (bs := [((y6.2 != 0), true)]) mixed lv25 24 [true] [] [] [.cell 8 35, .tmp 9, .tmp 10, .tmp 11] 0 [7, 8, 9, 10] rfl hC trivial ⟨h8, trivial⟩ (by kernel_rfl)
    ·replace h := condF h8 h
     rcases boolC ((a0.Kind == 7)) with h9 | h9
     ·replace h := condT h9 h
      exact WI_end (bs := [((y6.2 != 0), false), ((a0.Kind == 7), true)]) (φ := fun s' => w0b = .next s') (st' := (st25_0 x3 (n0 + 1))) (R' := (R25_0 x0 (n0 + 1))) mixed lv25 31 [false, true] [] [] 0 [0, 1, 2, 3, 4, 5, 6, 12, 13, 14, 15] (w64 (z0.1 + 1), y6.1.Closed, y6.1.Sources, y6.1.Limits, y6.1.Broken) hC trivial ⟨h8, h9, trivial⟩ (by kernel_rfl) (by kernel_rfl) (sI h).symm
     ·replace h := condF h9 h
      exact WI_end (bs := [((y6.2 != 0), false), ((a0.Kind == 7), false)]) (φ := fun s' => w0b = .next s') (st' := (st25_0 x3 (n0 + 1))) (R' := (R25_0 x0 (n0 + 1))) mixed lv25 31 [false, false] [] [] 0 [0, 1, 2, 3, 4, 5, 6, 12, 13, 14, 15] (z0.1, y6.1.Closed, y6.1.Sources, y6.1.Limits, y6.1.Broken) hC trivial ⟨h8, h9, trivial⟩ (by kernel_rfl) (by kernel_rfl) (sI h).symm
  ·have h := hnext0 _ hs0
   replace h := sI h
   subst h
   exact WI_ret (bs := []) mixed lv25 23 [] [.len ((x3.map q42).length : Int) (x3.length : Int)] [] [.cell 8 35, .tmp 9, .tmp 10, .tmp 11] 0 [6, 7, 8, 9] rfl hC ⟨len_map _ _, trivial⟩ trivial (by kernel_rfl)
theorem e25 : Enters Tryz.prog 25 := Go.SL.enters_of Tryz.func25 (by kernel_rfl) (by kernel_rfl)
def lv30 : List Nat := [0, 1, 2, 3, 4, 5, 6, 8, 9, 10, 11, 19, 23, 33, 64]
def st30_0  (z0 : Sg5) : St := [(4, .d (DS q42 [])), (5, .d (I 0)), (9, .d (.o 0 0))]
def R30_0  (z0 : Sg5) : List Res := [.box 144 [I z0.1, DS q66 z0.2.1, DS q57 z0.2.2.1, DS q108 z0.2.2.2.1, I z0.2.2.2.2.1, I z0.2.2.2.2.2.1, .os 1, .os 2, .os 3, .os 4, .os 5, .os 6], .sl 4 1 (z0.2.2.2.2.2.2.1.map pB), .sl 59 4 (z0.2.2.2.2.2.2.2.1.map q59), .sl 3 1 (z0.2.2.2.2.2.2.2.2.1.map pI), .sl 119 2 (z0.2.2.2.2.2.2.2.2.2.1.map q119), .sl 4 1 (z0.2.2.2.2.2.2.2.2.2.2.1.map pB), .sl 42 3 (z0.2.2.2.2.2.2.2.2.2.2.2.map q42)]
def sa30_0  (z0 : Sg5) : St := [(4, .d (DS q42 [])), (5, .d (I 0)), (9, .d (.o 0 0))]
def Ra30_0  (z0 : Sg5) : List Res := [.box 144 [I z0.1, DS q66 z0.2.1, DS q57 z0.2.2.1, DS q108 z0.2.2.2.1, I z0.2.2.2.2.1, I z0.2.2.2.2.2.1, .os 1, .os 2, .os 3, .os 4, .os 5, .os 6], .sl 4 1 (z0.2.2.2.2.2.2.1.map pB), .sl 59 4 (z0.2.2.2.2.2.2.2.1.map q59), .sl 3 1 (z0.2.2.2.2.2.2.2.2.1.map pI), .sl 119 2 (z0.2.2.2.2.2.2.2.2.2.1.map q119), .sl 4 1 (z0.2.2.2.2.2.2.2.2.2.2.1.map pB), .sl 42 3 (z0.2.2.2.2.2.2.2.2.2.2.2.map q42)]
theorem k30 (x0 : api_Board) (x1 : api_Power) (r : (List api_Act) × Int) (h : F30 x0 x1 = some r) : CallOk Tryz.prog 30 [.agg (d29 x0), .agg (d35 x1)] [] (.tup [.d (.os 0), .d (I r.2)]) [.sl 42 3 (r.1.map q42)] := by
 unfold F30 at h
 refine callOk_of 74 Tryz.func30 rfl rfl rfl fun C hC => ?_
 obtain ⟨y1, h2, h⟩ := bindE h
 refine WI_stop (bs := []) mixed lv30 29 [] [.call 81 [.agg (d29 x0), .agg (d35 x1)] [] (.tup [.agg [.os 0, .os 1, .os 2, .os 3], .d (.os 4), .d (I y1.2.2)]) (p4 y1.1 [.sl 42 3 (y1.2.1.map q42)]) []] [] 0 [0, 1, 2, 3, 4, 5, 7] [(2, .d (.o 0 0)), (3, .d (.o 1 0)), (4, .d (DS q42 [])), (5, .d (I 0)), (6, .d (.o 6 0)), (8, .d (I y1.2.2)), (19, .d (Bo (y1.2.2 != 0)))] (.box 29 (d29 x0) :: .box 35 (d35 x1) :: p4 y1.1 [.box 35 [.os 2, .os 3, .os 4, .os 5]]) hC ⟨⟨e81, (k81 x0 x1 _ h2)⟩, trivial⟩ trivial (by kernel_rfl) ?_
 rcases boolC ((y1.2.2 != 0)) with h3 | h3
 ·replace h := condT h3 h
  replace h := sI h
  subst h
  exact WI_ret (bs := [((y1.2.2 != 0), true)]) mixed lv30 24 [true] [] [.own 4 42 3] [.tmp 4, .tmp 5] 0 [7] rfl hC trivial ⟨h3, trivial⟩ (by kernel_rfl)
 ·replace h := condF h3 h
  obtain ⟨y4, h5, h⟩ := bindE h
  obtain ⟨y6, h7, h⟩ := bindE h
  refine WI_stop (bs := [((y1.2.2 != 0), false)]) mixed lv30 24 [false] [.callB 82 [.agg (d35 x1), .agg (d35 y1.1)] (.d (Bo y4)) [[]] 0 [], .when [(!y4, false)] (.call 83 [.agg (d29 x0), .agg (d35 x1)] [] (.d (Bo y6)) [] [])] [] 0 [0, 1] [(2, .d (.o 0 0)), (3, .d (.o 1 0)), (4, .d (DS q42 [])), (5, .d (I 0)), (23, .d (Bo ((!y4) || y6)))] [.box 29 (d29 x0), .box 35 (d35 x1)] hC ⟨lend0_get ⟨e82, (k82 x1 y1.1 _ h5)⟩, fun hg => ⟨e83, (k83 x0 x1 _ (guardO_get h7 hg))⟩, trivial⟩ ⟨h3, trivial⟩ (by kernel_rfl) ?_
  rcases boolC (((!y4) || y6)) with h8 | h8
  ·replace h := condT h8 h
   replace h := sI h
   subst h
   exact WI_ret (bs := [(((!y4) || y6), true)]) mixed lv30 24 [true] [] [.own 4 42 3] [.tmp 4, .tmp 5] 0 [2] rfl hC trivial ⟨h8, trivial⟩ (by kernel_rfl)
  ·replace h := condF h8 h
   obtain ⟨y9, h10, h⟩ := bindE h
   obtain ⟨y11, h12, h⟩ := bindE h
   obtain ⟨y13, h14, h⟩ := bindE h
   refine WI_stop (bs := [(((!y4) || y6), false)]) mixed lv30 24 [false] [.call 18 [.agg (d29 x0), .agg (d35 x1)] [] (.d (.os 0)) [.sl 4 1 (y9.map pB)] [], .callB 84 [.d (DS pB y9), .d (Bo true)] (.d (Bo y11)) [[]] 0 [], .when [(!y11, false)] (.call 42 [.agg (d29 x0), .agg (d35 x1)] [] (.d (Bo y13)) [] [])] [] 0 [0, 1] [(2, .d (.o 0 0)), (3, .d (.o 1 0)), (4, .d (DS q42 [])), (5, .d (I 0)), (33, .d (Bo ((!y11) || y13)))] [.box 29 (d29 x0), .box 35 (d35 x1)] hC ⟨⟨e18, (k18 x0 x1 _ h10)⟩, lend0_get ⟨e84, (k84 y9 true _ h12)⟩, fun hg => ⟨e42, (k42 x0 x1 _ (guardO_get h14 hg))⟩, trivial⟩ ⟨h8, trivial⟩ (by kernel_rfl) ?_
   rcases boolC (((!y11) || y13)) with h15 | h15
   ·replace h := condT h15 h
    replace h := sI h
    subst h
    exact WI_ret (bs := [(((!y11) || y13), true)]) mixed lv30 24 [true] [] [.own 4 42 3] [.tmp 4, .tmp 5] 0 [2] rfl hC trivial ⟨h15, trivial⟩ (by kernel_rfl)
   ·replace h := condF h15 h
    obtain ⟨y16, h17, h⟩ := bindE h
    obtain ⟨y18, h19, h⟩ := bindE h
    refine WI_stop (bs := [(((!y11) || y13), false)]) mixed lv30 6 [false] [.call 70 [.agg (d35 x1)] [] (.agg [.os 0, .os 1, .os 2, .os 3]) (p4 y16 []) [], .call 18 [.agg (d29 x0), .agg (d35 x1)] [] (.d (.os 0)) [.sl 4 1 (y18.map pB)] []] [.ownb 7 11 42 3] 0 [2, 3, 4, 5, 6, 7, 8] [(4, .d (DS q42 [])), (5, .d (I 0)), (9, .d (.o 5 0))] (p4 y16 [.sl 4 1 (y18.map pB), .box 144 (b6 x0 [.os 0, .os 1, .os 2, .os 3, .os 4, .os 6]), .sl 42 3 (([] : List api_Act).map q42)]) hC ⟨⟨e70, (k70 x1 _ h17)⟩, ⟨e18, (k18 x0 x1 _ h19)⟩, trivial⟩ ⟨h15, trivial⟩ (by kernel_rfl) ?_
    obtain ⟨y20, h21, h⟩ := bindE h
    obtain ⟨y22, h23, h⟩ := bindE h
    obtain ⟨y24, h25, h⟩ := bindE h
    refine WI_stop (bs := []) mixed lv30 27 [] [.call 85 [.d (.o 0 0)] (.box 144 (b6 x0 [.os 1, .os 2, .os 3, .os 4, .os 5, .os 6]) :: p4 y16 [.sl 4 1 (y18.map pB), .sl 42 3 (([] : List api_Act).map q42)]) (.tup []) (.box 144 (b6 y20.board [.os 7, .os 8, .os 9, .os 10, .os 11, .os 12]) :: .non :: .non :: .non :: .non :: .non :: .non :: p4 y20.power [.sl 4 1 (y20.goal.map pB), .sl 42 3 (y20.acts.map q42)]) [5, 0, 1, 2, 3, 4, 6], .call 86 [.d (.o 0 0)] (.box 144 (b6 y20.board [.os 1, .os 2, .os 3, .os 4, .os 5, .os 6]) :: p4 y20.power [.sl 4 1 (y20.goal.map pB), .sl 42 3 (y20.acts.map q42)]) (.tup []) (.box 144 (b6 y22.board [.os 7, .os 8, .os 9, .os 10, .os 11, .os 12]) :: .non :: .non :: .non :: .non :: .non :: .non :: p4 y22.power [.sl 4 1 (y22.goal.map pB), .sl 42 3 (y22.acts.map q42)]) [5, 7, 8, 9, 10, 11, 12], .call 87 [.d (.o 0 0)] (.box 144 (b6 y22.board [.os 1, .os 2, .os 3, .os 4, .os 5, .os 6]) :: p4 y22.power [.sl 4 1 (y22.goal.map pB), .sl 42 3 (y22.acts.map q42)]) (.tup []) (.box 144 (b6 y24.board [.os 7, .os 8, .os 9, .os 10, .os 11, .os 12]) :: .non :: .non :: .non :: .non :: .non :: .non :: p4 y24.power [.sl 4 1 (y24.goal.map pB), .sl 42 3 (y24.acts.map q42)]) [5, 13, 14, 15, 16, 17, 18]] [] 0 [5, 19, 20, 21, 22, 23, 24] (st30_0 (t6 y24.board (t4 y24.power (y24.goal, y24.acts)))) (R30_0 (t6 y24.board (t4 y24.power (y24.goal, y24.acts)))) hC ⟨⟨e85s1, (k85s1 (⟨x0, y16, y18, ([] : List api_Act)⟩ : restore_planner) _ h21)⟩, ⟨e86s1, (k86s1 y20 _ h23)⟩, ⟨e87s1, (k87s1 y22 _ h25)⟩, trivial⟩ trivial (by kernel_rfl) ?_
    obtain ⟨w0, hm0, hret0, hnext0⟩ := andThen_inv h
    clear h
    refine WI_cut (by kernel_rfl) (fun s => w0 = .next s) (sa30_0) (Ra30_0) ?_ fun z0 hs0 => ?_
    ·refine WI_blk (by kernel_rfl) ?_
     refine WI_while (by kernel_rfl) F30_l0 (st30_0) (R30_0) w0 1152921504606846976 (t6 y24.board (t4 y24.power (y24.goal, y24.acts))) hm0 rfl rfl fun z0 w0b h hb0 hr0 => ?_
     unfold F30_l0 at h
     obtain ⟨y26, h27, h⟩ := bindE h
     refine WI_stop (bs := []) mixed lv30 27 [] [.callB 88 [.d (.ip [.v (.int .i64 z0.1), .s (z0.2.1.map q66), .s (z0.2.2.1.map q57), .s (z0.2.2.2.1.map q108), .v (.int .i64 z0.2.2.2.2.1), .v (.int .i64 z0.2.2.2.2.2.1), .s (z0.2.2.2.2.2.2.1.map pB), .s (z0.2.2.2.2.2.2.2.1.map q59), .s (z0.2.2.2.2.2.2.2.2.1.map pI), .s (z0.2.2.2.2.2.2.2.2.2.1.map q119), .s (z0.2.2.2.2.2.2.2.2.2.2.1.map pB), .s (z0.2.2.2.2.2.2.2.2.2.2.2.map q42)])] (.tup [.d (I y26.1), .d (Bo y26.2)]) [[]] 0 []] [] 0 n7_ [(4, .d (DS q42 [])), (5, .d (I 0)), (9, .d (.o 0 0)), (10, .d (I y26.1)), (64, .d (Bo (!y26.2)))] [.box 144 [I z0.1, DS q66 z0.2.1, DS q57 z0.2.2.1, DS q108 z0.2.2.2.1, I z0.2.2.2.2.1, I z0.2.2.2.2.2.1, .os 1, .os 2, .os 3, .os 4, .os 5, .os 6], .sl 4 1 (z0.2.2.2.2.2.2.1.map pB), .sl 59 4 (z0.2.2.2.2.2.2.2.1.map q59), .sl 3 1 (z0.2.2.2.2.2.2.2.2.1.map pI), .sl 119 2 (z0.2.2.2.2.2.2.2.2.2.1.map q119), .sl 4 1 (z0.2.2.2.2.2.2.2.2.2.2.1.map pB), .sl 42 3 (z0.2.2.2.2.2.2.2.2.2.2.2.map q42)] hC ⟨lend0_get ⟨e88s0, (k88s0 (⟨(⟨z0.1, z0.2.1, z0.2.2.1, z0.2.2.2.1, z0.2.2.2.2.1, z0.2.2.2.2.2.1⟩ : api_Board), (⟨z0.2.2.2.2.2.2.1, z0.2.2.2.2.2.2.2.1, z0.2.2.2.2.2.2.2.2.1, z0.2.2.2.2.2.2.2.2.2.1⟩ : api_Power), z0.2.2.2.2.2.2.2.2.2.2.1, z0.2.2.2.2.2.2.2.2.2.2.2⟩ : restore_planner) _ h27)⟩, trivial⟩ trivial (by kernel_rfl) ?_
     rcases boolC (!y26.2) with h28 | h28
     ·replace h := condT h28 h
      exact WI_end (bs := [(!y26.2, true)]) (φ := fun s' => w0 = .next s') (st' := (sa30_0)) (R' := (Ra30_0)) mixed lv30 23 [true] [] [] 0 n7_ (z0.1, z0.2.1, z0.2.2.1, z0.2.2.2.1, z0.2.2.2.2.1, z0.2.2.2.2.2.1, z0.2.2.2.2.2.2.1, z0.2.2.2.2.2.2.2.1, z0.2.2.2.2.2.2.2.2.1, z0.2.2.2.2.2.2.2.2.2.1, z0.2.2.2.2.2.2.2.2.2.2.1, z0.2.2.2.2.2.2.2.2.2.2.2) hC trivial ⟨h28, trivial⟩ (by kernel_rfl) (by kernel_rfl) (hb0 _ (sI h).symm)
     ·replace h := condF h28 h
      obtain ⟨y29, h30, h⟩ := bindE h
      exact WI_end (bs := [(!y26.2, false)]) (φ := fun s' => w0b = .next s') (st' := (st30_0)) (R' := (R30_0)) mixed lv30 25 [false] [.call 89 [.d (.o 0 0), .d (I 1), .d (I y26.1)] [.box 144 [I z0.1, DS q66 z0.2.1, DS q57 z0.2.2.1, DS q108 z0.2.2.2.1, I z0.2.2.2.2.1, I z0.2.2.2.2.2.1, .os 1, .os 2, .os 3, .os 4, .os 5, .os 6], .sl 4 1 (z0.2.2.2.2.2.2.1.map pB), .sl 59 4 (z0.2.2.2.2.2.2.2.1.map q59), .sl 3 1 (z0.2.2.2.2.2.2.2.2.1.map pI), .sl 119 2 (z0.2.2.2.2.2.2.2.2.2.1.map q119), .sl 4 1 (z0.2.2.2.2.2.2.2.2.2.2.1.map pB), .sl 42 3 (z0.2.2.2.2.2.2.2.2.2.2.2.map q42)] (.tup []) (.box 144 (b6 y29.board [.os 1, .os 2, .os 3, .os 4, .os 5, .os 7]) :: p4 y29.power [.sl 4 1 (y29.goal.map pB), .non, .sl 42 3 (y29.acts.map q42)]) n7_] [] 0 [0, 1, 2, 3, 4, 5, 7] (t6 y29.board (t4 y29.power (y29.goal, y29.acts))) hC ⟨⟨e89s1, (k89s1 (⟨(⟨z0.1, z0.2.1, z0.2.2.1, z0.2.2.2.1, z0.2.2.2.2.1, z0.2.2.2.2.2.1⟩ : api_Board), (⟨z0.2.2.2.2.2.2.1, z0.2.2.2.2.2.2.2.1, z0.2.2.2.2.2.2.2.2.1, z0.2.2.2.2.2.2.2.2.2.1⟩ : api_Power), z0.2.2.2.2.2.2.2.2.2.2.1, z0.2.2.2.2.2.2.2.2.2.2.2⟩ : restore_planner) 1 y26.1 _ h30)⟩, trivial⟩ ⟨h28, trivial⟩ (by kernel_rfl) (by kernel_rfl) (sI h).symm
    ·have h := hnext0 _ hs0
     obtain ⟨y31, h32, h⟩ := bindE h
     replace h := sI h
     subst h
     exact WI_ret (bs := []) mixed lv30 25 [] [.call 90 [.d (.o 0 0)] [.box 144 [I z0.1, DS q66 z0.2.1, DS q57 z0.2.2.1, DS q108 z0.2.2.2.1, I z0.2.2.2.2.1, I z0.2.2.2.2.2.1, .os 1, .os 2, .os 3, .os 4, .os 5, .os 6], .sl 4 1 (z0.2.2.2.2.2.2.1.map pB), .sl 59 4 (z0.2.2.2.2.2.2.2.1.map q59), .sl 3 1 (z0.2.2.2.2.2.2.2.2.1.map pI), .sl 119 2 (z0.2.2.2.2.2.2.2.2.2.1.map q119), .sl 4 1 (z0.2.2.2.2.2.2.2.2.2.2.1.map pB), .sl 42 3 (z0.2.2.2.2.2.2.2.2.2.2.2.map q42)] (.tup []) (.box 144 (b6 y31.board [.os 7, .os 8, .os 9, .os 10, .os 11, .os 12]) :: .non :: .non :: .non :: .non :: .non :: .non :: p4 y31.power [.sl 4 1 (y31.goal.map pB), .sl 42 3 (y31.acts.map q42)]) n7_] [] [.tmp 4, .tmp 5] 0 [12] rfl hC ⟨⟨e90s1, (k90s1 (⟨(⟨z0.1, z0.2.1, z0.2.2.1, z0.2.2.2.1, z0.2.2.2.2.1, z0.2.2.2.2.2.1⟩ : api_Board), (⟨z0.2.2.2.2.2.2.1, z0.2.2.2.2.2.2.2.1, z0.2.2.2.2.2.2.2.2.1, z0.2.2.2.2.2.2.2.2.2.1⟩ : api_Power), z0.2.2.2.2.2.2.2.2.2.2.1, z0.2.2.2.2.2.2.2.2.2.2.2⟩ : restore_planner) _ h32)⟩, trivial⟩ trivial (by kernel_rfl)
theorem e30 : Enters Tryz.prog 30 := Go.SL.enters_of Tryz.func30 (by kernel_rfl) (by kernel_rfl)
theorem k22  (r : Bool) (h : F22  = some r) : CallOk Tryz.prog 22 [] [] (.d (Bo r)) [] := by
 unfold F22 at h
 refine callOk_of 64 Tryz.func22 rfl rfl rfl fun C hC => ?_
 obtain ⟨y1, h2, h⟩ := bindE h
 obtain ⟨y3, h4, h⟩ := bindE h
 obtain ⟨y5, h6, h⟩ := bindE h
 obtain ⟨y7, h8, h⟩ := bindE h
 obtain ⟨y9, h10, h⟩ := bindE h
 replace h := sI h
 subst h
 exact WI_ret (bs := []) mixed n9_ 31 [] [.call 28 [] [] (.tup [.agg (d29 F28.1), .agg (d35 F28.2)]) [] [], .call 30 [.agg (d29 F28.1), .agg (d35 F28.2)] [] (.tup [.d (.os 0), .d (I y1.2)]) [.sl 42 3 (y1.1.map q42)] [], .call 25 [.agg (d29 F28.1), .agg (d35 F28.2), .d (I 7), .d (.os 0)] [.sl 42 3 (y1.1.map q42)] (.tup [.agg [.os 1, .os 2, .os 3, .os 4], .d (I y3.2.1), .d (I y3.2.2.1), .d (I y3.2.2.2)]) (.sl 42 3 (y1.1.map q42) :: p4 y3.1 []) [2], .when [((y1.2 == 0), true)] (.callB 72 [.d (DS q42 y1.1), .d (DS q42 [(⟨3, 0, 0⟩ : api_Act), (⟨7, 0, 0⟩ : api_Act), (⟨7, 0, 0⟩ : api_Act), (⟨7, 0, 0⟩ : api_Act), (⟨1, 1, 0⟩ : api_Act), (⟨1, 0, 0⟩ : api_Act)])] (.d (Bo y5)) [[]] 0 []), .when [((((((y1.2 == 0) && y5) && (y3.2.2.2 == 0)) && (y3.2.1 == 10)) && (y3.2.2.1 == 6)), true)] (.callB 42 [.agg (d29 F28.1), .agg (d35 y3.1)] (.d (Bo y7)) [[]] 0 []), .when [(((((((y1.2 == 0) && y5) && (y3.2.2.2 == 0)) && (y3.2.1 == 10)) && (y3.2.2.1 == 6)) && y7), true)] (.call 42 [.agg (d29 F28.1), .agg (d35 F28.2)] [] (.d (Bo y9)) [] [])] [] [.tmp 0] 0 [] rfl hC ⟨⟨e28, (k28  _ rfl)⟩, ⟨e30, (k30 F28.1 F28.2 _ h2)⟩, ⟨e25, ((k25 F28.1 F28.2 7 y1.1 _ h4).lend (by kernel_rfl) (by kernel_rfl) (by kernel_rfl) ⟨flat_sl (fun _ => rfl), flat_sl (fun _ => rfl), flat_sl (fun _ => rfl), flat_sl (fun _ => rfl), trivial⟩ (by kernel_rfl) (by kernel_rfl))⟩, fun hg => lend0_get ⟨e72, (k72 y1.1 [(⟨3, 0, 0⟩ : api_Act), (⟨7, 0, 0⟩ : api_Act), (⟨7, 0, 0⟩ : api_Act), (⟨7, 0, 0⟩ : api_Act), (⟨1, 1, 0⟩ : api_Act), (⟨1, 0, 0⟩ : api_Act)] _ (guardO_get h6 hg))⟩, fun hg => lend0_get ⟨e42, (k42 F28.1 y3.1 _ (guardO_get h8 hg))⟩, fun hg => ⟨e42, (k42 F28.1 F28.2 _ (guardO_get h10 hg))⟩, trivial⟩ trivial (by kernel_rfl)
theorem e22 : Enters Tryz.prog 22 := Go.SL.enters_of Tryz.func22 (by kernel_rfl) (by kernel_rfl)
def lv3 : List Nat := [0, 1, 2, 6, 7, 8, 9, 10, 11, 12, 13, 14, 15, 16, 17, 18, 47, 49, 85, 87, 88, 89, 127]
def sa3_0  (z0 : Unit) : St := [(6, .d (Bo false)), (8, .d (.o 3 0)), (9, .d (.o 8 0)), (10, .d (.os 9))]
def Ra3_0 (y3 : api_Board × dynposmake_Src) (y5 : api_Power × dynposmake_Src) (y7 : (List Bool)) (z0 : Unit) : List Res := (s3 y3.1 (.box 29 [I y3.1.Buses, .os 0, .os 1, .os 2, I y3.1.Phase, I y3.1.Frequency] :: p4 y5.1 [.box 35 [.os 4, .os 5, .os 6, .os 7], .sl 4 1 (y7.map pB)]))
def st3_1 (y7 : (List Bool)) (n1 : Nat) (z1 : Unit) : St := [(6, .d (Bo false)), (8, .d (.o 3 0)), (9, .d (.o 8 0)), (10, .d (.os 9)), (13, .d (.os 10)), (16, .d (.os 11)), (87, .d (I (y7.length : Int))), (88, .d (I (cnt 0 n1)))]
def R3_1 (y3 : api_Board × dynposmake_Src) (y5 : api_Power × dynposmake_Src) (y7 : (List Bool)) (y13 : (List Bool)) (y17 : (List Bool)) (n1 : Nat) (z1 : Unit) : List Res := (s3 y3.1 (.box 29 [I y3.1.Buses, .os 0, .os 1, .os 2, I y3.1.Phase, I y3.1.Frequency] :: p4 y5.1 [.box 35 [.os 4, .os 5, .os 6, .os 7], .sl 4 1 (y7.map pB), .sl 4 1 (y13.map pB), .sl 4 1 (y17.map pB)]))
def sa3_1  (z1 : Unit) : St := [(6, .d (Bo false)), (8, .d (.o 3 0)), (9, .d (.o 8 0)), (10, .d (.os 9))]
def Ra3_1 (y3 : api_Board × dynposmake_Src) (y5 : api_Power × dynposmake_Src) (y7 : (List Bool)) (z1 : Unit) : List Res := (s3 y3.1 (.box 29 [I y3.1.Buses, .os 0, .os 1, .os 2, I y3.1.Phase, I y3.1.Frequency] :: p4 y5.1 [.box 35 [.os 4, .os 5, .os 6, .os 7], .sl 4 1 (y7.map pB)]))
theorem k3 (x0 : List Int) (x1 : Int) (x2 : Int) (r : Bool) (h : F3 x0 x1 x2 = some r) : CallOk Tryz.prog 3 [.d (DS pI x0), .d (.p (.v (.int .u8 x1))), .d (.p (.v (.int .u8 x2)))] [] (.d (Bo r)) [] := by
 unfold F3 at h
 refine callOk_of 144 Tryz.func3 rfl rfl rfl fun C hC => ?_
 obtain ⟨y1, h2, h⟩ := bindE h
 obtain ⟨y3, h4, h⟩ := bindE h
 obtain ⟨y5, h6, h⟩ := bindE h
 obtain ⟨y7, h8, h⟩ := bindE h
 obtain ⟨y9, h10, h⟩ := bindE h
 refine WI_stop (bs := []) mixed lv3 36 [] [.call 15 [.d (DS pI x0)] [] (.d (.o 0 0)) [.box 121 (d121 y1)] [], .call 16 [.d (.o 0 0)] [.box 121 (d121 y1)] (.agg [I y3.1.Buses, .os 1, .os 2, .os 3, I y3.1.Phase, I y3.1.Frequency]) (.box 121 (d121 y3.2) :: s3 y3.1 []) [0], .call 17 [.d (.o 0 0), .agg [I y3.1.Buses, .os 1, .os 2, .os 3, I y3.1.Phase, I y3.1.Frequency]] (.box 121 (d121 y3.2) :: s3 y3.1 []) (.agg [.os 4, .os 5, .os 6, .os 7]) (.box 121 (d121 y5.2) :: s3 y3.1 (p4 y5.1 [])) n4_, .call 18 [.agg [I y3.1.Buses, .os 0, .os 1, .os 2, I y3.1.Phase, I y3.1.Frequency], .agg [.os 3, .os 4, .os 5, .os 6]] (s3 y3.1 (p4 y5.1 [])) (.d (.os 7)) (s3 y3.1 (p4 y5.1 [.sl 4 1 (y7.map pB)])) [1, 2, 3, 5, 6, 7, 8], .nz 4, .nz 5, .call 19 [.agg [I y3.1.Buses, .os 0, .os 1, .os 2, I y3.1.Phase, I y3.1.Frequency], .agg [.os 3, .os 4, .os 5, .os 6], .d (I 5), .agg [I 8, I (Int.tmod (w64 x2) 5), I (w64 (1 + (Int.tmod (w64 x1) 4)))]] (s3 y3.1 (p4 y5.1 [])) (.tup [.agg [.os 7, .os 8, .os 9, .os 10], .d (I y9.2)]) (s3 y3.1 (p4 y5.1 (p4 y9.1 []))) [1, 2, 3, 5, 6, 7, 8], .len ((y7.map pB).length : Int) (y7.length : Int)] [] 0 [1, 2, 3, 4, 5, 6, 7, 8, 9, 10, 11, 12, 13, 14, 15] [(1, .d (.p (.v (.int .u8 x1)))), (2, .d (.p (.v (.int .u8 x2)))), (6, .d (Bo false)), (8, .d (.o 3 0)), (9, .d (.o 8 0)), (10, .d (.os 9)), (11, .d (.o 14 0)), (12, .d (I y9.2)), (47, .d (Bo ((y7.length : Int) != y3.1.Buses)))] (s3 y3.1 (.box 29 [I y3.1.Buses, .os 0, .os 1, .os 2, I y3.1.Phase, I y3.1.Frequency] :: p4 y5.1 (.box 35 [.os 4, .os 5, .os 6, .os 7] :: .sl 4 1 (y7.map pB) :: p4 y9.1 [.box 35 [.os 10, .os 11, .os 12, .os 13]]))) hC ⟨⟨e15, (k15 x0 _ h2)⟩, ⟨e16, (k16 y1 _ h4)⟩, ⟨e17s1, (k17s1 y3.2 y3.1 _ h6)⟩, ⟨e18, ((k18 y3.1 y5.1 _ h8).lend (by kernel_rfl) (by kernel_rfl) (by kernel_rfl) ⟨flat_sl (fun _ => rfl), trivial⟩ (by kernel_rfl) (by kernel_rfl))⟩, nz_lit rfl, nz_lit rfl, ⟨e19, ((k19 y3.1 y5.1 5 (⟨8, Int.tmod (w64 x2) 5, w64 (1 + (Int.tmod (w64 x1) 4))⟩ : api_Act) _ h10).lend (by kernel_rfl) (by kernel_rfl) (by kernel_rfl) ⟨flat_sl (fun _ => rfl), flat_sl (fun _ => rfl), flat_sl (fun _ => rfl), flat_sl (fun _ => rfl), trivial⟩ (by kernel_rfl) (by kernel_rfl))⟩, len_map _ _, trivial⟩ trivial (by kernel_rfl) ?_
 rcases boolC (((y7.length : Int) != y3.1.Buses)) with h11 | h11
 ·replace h := condT h11 h
  replace h := sI h
  subst h
  exact WI_ret (bs := [(((y7.length : Int) != y3.1.Buses), true)]) mixed lv3 24 [true] [] [] [.tmp 6] 0 [] rfl hC trivial ⟨h11, trivial⟩ (by kernel_rfl)
 ·replace h := condF h11 h
  refine WI_stop (bs := [(((y7.length : Int) != y3.1.Buses), false)]) mixed lv3 26 [false] [] [] 0 n15_ [(1, .d (.p (.v (.int .u8 x1)))), (2, .d (.p (.v (.int .u8 x2)))), (6, .d (Bo false)), (8, .d (.o 3 0)), (9, .d (.o 8 0)), (10, .d (.os 9)), (11, .d (.o 14 0)), (49, .d (Bo (y9.2 == 0)))] (s3 y3.1 (.box 29 [I y3.1.Buses, .os 0, .os 1, .os 2, I y3.1.Phase, I y3.1.Frequency] :: p4 y5.1 (.box 35 [.os 4, .os 5, .os 6, .os 7] :: .sl 4 1 (y7.map pB) :: p4 y9.1 [.box 35 [.os 10, .os 11, .os 12, .os 13]]))) hC trivial ⟨h11, trivial⟩ (by kernel_rfl) ?_
  obtain ⟨w0, h, hret0, hnext0⟩ := andThen_inv h
  refine WI_cut (by kernel_rfl) (fun s => w0 = .next s) (sa3_0) (Ra3_0 y3 y5 y7) ?_ fun z0 hs0 => ?_
  ·unfold F3_m0 at h
   rcases boolC ((y9.2 == 0)) with h12 | h12
   ·replace h := condT h12 h
    obtain ⟨y13, h14, h⟩ := bindE h
    obtain ⟨y15, h16, h⟩ := bindE h
    obtain ⟨y17, h18, h⟩ := bindE h
    refine WI_stop (bs := [((y9.2 == 0), true)]) mixed lv3 31 [true] [.call 18 [.agg [I y3.1.Buses, .os 0, .os 1, .os 2, I y3.1.Phase, I y3.1.Frequency], .agg [.os 3, .os 4, .os 5, .os 6]] (s3 y3.1 (p4 y9.1 [])) (.d (.os 7)) (s3 y3.1 (p4 y9.1 [.sl 4 1 (y13.map pB)])) [0, 1, 2, 10, 11, 12, 13], .nz 4, .nz 5, .call 19 [.agg [I y3.1.Buses, .os 0, .os 1, .os 2, I y3.1.Phase, I y3.1.Frequency], .agg [.os 3, .os 4, .os 5, .os 6], .d (I 5), .agg [I 9, I (Int.tmod (w64 x2) 5), I (w64 (1 + (Int.tmod (w64 x1) 4)))]] (s3 y3.1 (p4 y9.1 [])) (.tup [.agg [.os 7, .os 8, .os 9, .os 10], .d (I y15.2)]) (s3 y3.1 (p4 y9.1 (p4 y15.1 []))) [0, 1, 2, 10, 11, 12, 13], .call 18 [.agg [I y3.1.Buses, .os 0, .os 1, .os 2, I y3.1.Phase, I y3.1.Frequency], .agg [.os 3, .os 4, .os 5, .os 6]] (s3 y3.1 (p4 y15.1 [])) (.d (.os 7)) (s3 y3.1 (p4 y15.1 [.sl 4 1 (y17.map pB)])) [0, 1, 2, 16, 17, 18, 19], .when [((y15.2 != 0), false)] (.len ((y13.map pB).length : Int) (y13.length : Int)), .when [((y15.2 != 0), false)] (.len ((y7.map pB).length : Int) (y7.length : Int)), .when [(((y15.2 != 0) || ((y13.length : Int) != (y7.length : Int))), false)] (.len ((y17.map pB).length : Int) (y17.length : Int)), .when [(((y15.2 != 0) || ((y13.length : Int) != (y7.length : Int))), false)] (.len ((y7.map pB).length : Int) (y7.length : Int))] [] 0 [0, 1, 2, 3, 4, 5, 6, 7, 8, 9, 15, 21] [(6, .d (Bo false)), (8, .d (.o 3 0)), (9, .d (.o 8 0)), (10, .d (.os 9)), (13, .d (.os 10)), (16, .d (.os 11)), (85, .d (Bo (c3_0 y7 y13 y15 y17)))] (s3 y3.1 (.box 29 [I y3.1.Buses, .os 0, .os 1, .os 2, I y3.1.Phase, I y3.1.Frequency] :: p4 y5.1 [.box 35 [.os 4, .os 5, .os 6, .os 7], .sl 4 1 (y7.map pB), .sl 4 1 (y13.map pB), .sl 4 1 (y17.map pB)])) hC ⟨⟨e18, ((k18 y3.1 y9.1 _ h14).lend (by kernel_rfl) (by kernel_rfl) (by kernel_rfl) ⟨flat_sl (fun _ => rfl), trivial⟩ (by kernel_rfl) (by kernel_rfl))⟩, nz_lit rfl, nz_lit rfl, ⟨e19, ((k19 y3.1 y9.1 5 (⟨9, Int.tmod (w64 x2) 5, w64 (1 + (Int.tmod (w64 x1) 4))⟩ : api_Act) _ h16).lend (by kernel_rfl) (by kernel_rfl) (by kernel_rfl) ⟨flat_sl (fun _ => rfl), flat_sl (fun _ => rfl), flat_sl (fun _ => rfl), flat_sl (fun _ => rfl), trivial⟩ (by kernel_rfl) (by kernel_rfl))⟩, ⟨e18, ((k18 y3.1 y15.1 _ h18).lend (by kernel_rfl) (by kernel_rfl) (by kernel_rfl) ⟨flat_sl (fun _ => rfl), trivial⟩ (by kernel_rfl) (by kernel_rfl))⟩, fun hg => len_map _ _, fun hg => len_map _ _, fun hg => len_map _ _, fun hg => len_map _ _, trivial⟩ ⟨h12, trivial⟩ (by kernel_rfl) ?_
    rcases boolC ((c3_0 y7 y13 y15 y17)) with h19 | h19
    ·replace h := condT h19 h
     have hq := hret0 _ (sI h).symm
     replace hq := sI hq
     subst hq
     exact WI_ret (bs := [((c3_0 y7 y13 y15 y17), true)]) mixed lv3 24 [true] [] [] [.tmp 6] 0 [] rfl hC trivial ⟨h19, trivial⟩ (by kernel_rfl)
    ·replace h := condF h19 h
     refine WI_stop (bs := [((c3_0 y7 y13 y15 y17), false)]) mixed lv3 25 [false] [.len ((y7.map pB).length : Int) (y7.length : Int)] [] 0 n12_ (st3_1 y7 0 ()) (R3_1 y3 y5 y7 y13 y17 0 ()) hC ⟨len_map _ _, trivial⟩ ⟨h19, trivial⟩ (by kernel_rfl) ?_
     obtain ⟨w1, hm1, hret1, hnext1⟩ := andThen_inv h
     clear h
     refine WI_cut (by kernel_rfl) (fun s => w1 = .next s) (sa3_1) (Ra3_1 y3 y5 y7) ?_ fun z1 hs1 => ?_
     ·refine WI_blk (by kernel_rfl) ?_
      refine WI_lenO 10 9 rfl rfl fun hl1 => ?_
      refine WI_foldI (by kernel_rfl) (F3_l1 y13 y17) (st3_1 y7) (R3_1 y3 y5 y7 y13 y17) w1 y7 () hm1 rfl rfl (fun z1 hn1 => ?_) fun n1 a1 z1 w1b hi1 hx1 h hb1 hr1 => ?_
      ·clear hm1
       exact WI_end (bs := [(decide ((cnt 0 y7.length) < (y7.length : Int)), false)]) (φ := fun s' => w1 = .next s') (st' := (sa3_1)) (R' := (Ra3_1 y3 y5 y7)) mixed lv3 26 [false] [] [] 0 n10_ () hC trivial ⟨(cnt_end hl1), trivial⟩ (by kernel_rfl) (by kernel_rfl) hn1
      ·unfold F3_l1 at h
       obtain ⟨y20, h21, h⟩ := bindE h
       obtain ⟨y22, h23, h⟩ := bindE h
       obtain ⟨y24, h25, h⟩ := bindE h
       refine WI_stop (bs := [(decide ((cnt 0 n1) < (y7.length : Int)), true)]) mixed lv3 32 [true] [.row (y13.map pB) (cnt 0 n1) (pB y20), .row (y13.map pB) (((Int.toNat (cnt 0 n1)) : Nat) : Int) (pB y20), .when [(y20, true)] (.row (y7.map pB) (cnt 0 n1) (pB a1)), .when [(y20, true)] (.row (y7.map pB) (((Int.toNat (cnt 0 n1)) : Nat) : Int) (pB a1)), .when [((y20 && (!a1)), false)] (.row (y13.map pB) (cnt 0 n1) (pB y20)), .when [((y20 && (!a1)), false)] (.row (y13.map pB) (((Int.toNat (cnt 0 n1)) : Nat) : Int) (pB y20)), .when [((y20 && (!a1)), false), (y20, true)] (.row (y17.map pB) (cnt 0 n1) (pB y22)), .when [((y20 && (!a1)), false), (y20, true)] (.row (y17.map pB) (((Int.toNat (cnt 0 n1)) : Nat) : Int) (pB y22)), .when [(((y20 && (!a1)) || (y20 && (!y22))), false)] (.row (y7.map pB) (cnt 0 n1) (pB a1)), .when [(((y20 && (!a1)) || (y20 && (!y22))), false)] (.row (y7.map pB) (((Int.toNat (cnt 0 n1)) : Nat) : Int) (pB a1)), .when [(((y20 && (!a1)) || (y20 && (!y22))), false), (a1, true)] (.row (y17.map pB) (cnt 0 n1) (pB y24)), .when [(((y20 && (!a1)) || (y20 && (!y22))), false), (a1, true)] (.row (y17.map pB) (((Int.toNat (cnt 0 n1)) : Nat) : Int) (pB y24))] [] 0 n12_ [(6, .d (Bo false)), (8, .d (.o 3 0)), (9, .d (.o 8 0)), (10, .d (.os 9)), (13, .d (.os 10)), (16, .d (.os 11)), (87, .d (I (y7.length : Int))), (88, .d (I (cnt 0 n1))), (127, .d (Bo (c3_2 a1 y20 y22 y24)))] (s3 y3.1 (.box 29 [I y3.1.Buses, .os 0, .os 1, .os 2, I y3.1.Phase, I y3.1.Frequency] :: p4 y5.1 [.box 35 [.os 4, .os 5, .os 6, .os 7], .sl 4 1 (y7.map pB), .sl 4 1 (y13.map pB), .sl 4 1 (y17.map pB)])) hC ⟨row_get h21, row_getN h21, fun hg => row_get (get_cnt hx1 hl1), fun hg => row_getN (get_cnt hx1 hl1), fun hg => row_get h21, fun hg => row_getN h21, fun hg => row_get (guardO_get h23 hg), fun hg => row_getN (guardO_get h23 hg), fun hg => row_get (get_cnt hx1 hl1), fun hg => row_getN (get_cnt hx1 hl1), fun hg => row_get (guardO_get h25 hg), fun hg => row_getN (guardO_get h25 hg), trivial⟩ ⟨(cnt_lt hi1 hl1), trivial⟩ (by kernel_rfl) ?_
       rcases boolC ((c3_2 a1 y20 y22 y24)) with h26 | h26
       ·replace h := condT h26 h
        have hq := hret1 _ (hr1 _ (sI h).symm)
        replace hq := hret0 _ (sI hq).symm
        replace hq := sI hq
        subst hq
        exact WI_ret (bs := [((c3_2 a1 y20 y22 y24), true)]) mixed lv3 24 [true] [] [] [.tmp 6] 0 [] rfl hC trivial ⟨h26, trivial⟩ (by kernel_rfl)
       ·replace h := condF h26 h
        exact WI_end (bs := [((c3_2 a1 y20 y22 y24), false)]) (φ := fun s' => w1b = .next s') (st' := (st3_1 y7 (n1 + 1))) (R' := (R3_1 y3 y5 y7 y13 y17 (n1 + 1))) mixed lv3 25 [false] [] [] 0 n12_ () hC trivial ⟨h26, trivial⟩ (by kernel_rfl) (by kernel_rfl) (sI h).symm
     ·have h := hnext1 _ hs1
      exact WI_end (bs := []) (φ := fun s' => w0 = .next s') (st' := (sa3_0)) (R' := (Ra3_0 y3 y5 y7)) mixed lv3 21 [] [] [] 0 n10_ () hC trivial trivial (by kernel_rfl) (by kernel_rfl) (sI h).symm
   ·replace h := condF h12 h
    exact WI_end (bs := [((y9.2 == 0), false)]) (φ := fun s' => w0 = .next s') (st' := (sa3_0)) (R' := (Ra3_0 y3 y5 y7)) mixed lv3 23 [false] [] [] 0 n10_ () hC trivial ⟨h12, trivial⟩ (by kernel_rfl) (by kernel_rfl) (sI h).symm
  ·clear h; have h := hnext0 _ hs0
   obtain ⟨y27, h28, h⟩ := bindE h
   obtain ⟨y29, h30, h⟩ := bindE h
   obtain ⟨y31, h32, h⟩ := bindE h
   obtain ⟨y33, h34, h⟩ := bindE h
   obtain ⟨y35, h36, h⟩ := bindE h
   replace h := sI h
   subst h
   exact WI_ret (bs := []) mixed lv3 27 [] [.call 20 [.agg [.os 0, .os 1, .os 2, .os 3]] (p4 y5.1 []) (.agg [.os 4, .os 5, .os 6, .os 7]) (p4 y5.1 (p4 y27 [])) [4, 5, 6, 7], .len ((y5.1.Closed.map pB).length : Int) (y5.1.Closed.length : Int), .room ((y5.1.Closed.length : Int) * (1 + 1)) (List.replicate (Int.toNat (y5.1.Closed.length : Int)) (pB false)) (y29.map pB), .call 18 [.agg [I y3.1.Buses, .os 0, .os 1, .os 2, I y3.1.Phase, I y3.1.Frequency], .agg [.os 3, .os 4, .os 5, .os 6]] (s3 y3.1 [.sl 4 1 (y29.map pB), .sl 59 4 (y27.Sources.map q59), .sl 3 1 (y27.Limits.map pI), .sl 119 2 (y27.Broken.map q119)]) (.d (.os 7)) (s3 y3.1 [.sl 4 1 (y29.map pB), .sl 59 4 (y27.Sources.map q59), .sl 3 1 (y27.Limits.map pI), .sl 119 2 (y27.Broken.map q119), .sl 4 1 (y31.map pB)]) [0, 1, 2, 15, 11, 12, 13], .callB 21 [.d (DS pB y31), .d (DS pB y7)] (.d (Bo y33)) [[]] 0 [], .when [(y33, true)] (.call 22 [] [] (.d (Bo y35)) [] [])] [] [.tmp 6] 0 [] rfl hC ⟨⟨e20, ((k20 y5.1 _ h28).lend (by kernel_rfl) (by kernel_rfl) (by kernel_rfl) ⟨flat_sl (fun _ => rfl), flat_sl (fun _ => rfl), flat_sl (fun _ => rfl), flat_sl (fun _ => rfl), trivial⟩ (by kernel_rfl) (by kernel_rfl))⟩, len_map _ _, make_get h30, ⟨e18, ((k18 y3.1 (⟨y29, y27.Sources, y27.Limits, y27.Broken⟩ : api_Power) _ h32).lend (by kernel_rfl) (by kernel_rfl) (by kernel_rfl) ⟨flat_sl (fun _ => rfl), trivial⟩ (by kernel_rfl) (by kernel_rfl))⟩, lend0_get ⟨e21, (k21 y31 y7 _ h34)⟩, fun hg => ⟨e22, (k22  _ (guardO_get h36 hg))⟩, trivial⟩ trivial (by kernel_rfl)
theorem e3 : Enters Tryz.prog 3 := Go.SL.enters_of Tryz.func3 (by kernel_rfl) (by kernel_rfl)
end Go.Proofs.YtkngbnedbgndoaaGreat
