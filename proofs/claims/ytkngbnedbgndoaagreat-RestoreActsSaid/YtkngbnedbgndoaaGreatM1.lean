import Derived.Test.YtkngbnedbgndoaaGreatM0
set_option linter.unusedVariables false
namespace Go.Proofs.YtkngbnedbgndoaaGreat
open Go.SL
def lv27 : List Nat := [0, 1, 2, 3, 4, 5, 7, 8, 9, 10, 11, 12, 13, 15, 19, 45, 47, 48, 49, 50, 74, 77, 78, 79, 80, 92, 97, 99, 100, 101, 102, 124, 128, 129, 130, 134, 135, 136, 137, 144, 149]
def st27_0 (x1 : api_Power) (n0 : Nat) (z0 : Unit) : St := [(2, dO 0 0), (3, dO 1 0), (4, dI 0), (47, .d (DS q59 x1.Sources)), (48, dI (ln x1.Sources)), (49, dI (cnt 0 n0))]
def R27_0 (x0 : api_Board) (x1 : api_Power) (n0 : Nat) (z0 : Unit) : List Res := [.box 29 (d29 x0), .box 35 (d35 x1)]
def sa27_0  (z0 : Unit) : St := [(2, dO 0 0), (3, dO 1 0), (4, dI 0)]
def Ra27_0 (x0 : api_Board) (x1 : api_Power) (z0 : Unit) : List Res := [.box 29 (d29 x0), .box 35 (d35 x1)]
def st27_1 (x1 : api_Power) (n1 : Nat) (z1 : Unit) : St := [(2, dO 0 0), (3, dO 1 0), (4, dI 0), (77, .d (DS pI x1.Limits)), (78, dI (ln x1.Limits)), (79, dI (cnt 0 n1))]
def R27_1 (x0 : api_Board) (x1 : api_Power) (n1 : Nat) (z1 : Unit) : List Res := [.box 29 (d29 x0), .box 35 (d35 x1)]
def sa27_1  (z1 : Unit) : St := [(2, dO 0 0), (3, dO 1 0), (4, dI 0)]
def Ra27_1 (x0 : api_Board) (x1 : api_Power) (z1 : Unit) : List Res := [.box 29 (d29 x0), .box 35 (d35 x1)]
def st27_2 (x1 : api_Power) (n2 : Nat) (z2 : Unit) : St := [(2, dO 0 0), (3, dO 1 0), (4, dI 0), (99, .d (DS q119 x1.Broken)), (100, dI (ln x1.Broken)), (101, dI (cnt 0 n2))]
def R27_2 (x0 : api_Board) (x1 : api_Power) (n2 : Nat) (z2 : Unit) : List Res := [.box 29 (d29 x0), .box 35 (d35 x1)]
def sa27_2  (z2 : Unit) : St := [(2, dO 0 0), (3, dO 1 0), (4, dI 0)]
def Ra27_2 (x0 : api_Board) (x1 : api_Power) (z2 : Unit) : List Res := [.box 29 (d29 x0), .box 35 (d35 x1)]
def st27_3 (x0 : api_Board) (z3 : Int) : St := [(2, dO 0 0), (3, dO 1 0), (4, dI 0), (128, dI (ln x0.Consumers)), (129, dI z3)]
def R27_3 (x0 : api_Board) (x1 : api_Power) (z3 : Int) : List Res := [.box 29 (d29 x0), .box 35 (d35 x1)]
def sa27_3  (z3 : Int) : St := [(4, dI 0)]
def Ra27_3  (z3 : Int) : List Res := []
def st27_4 (x0 : api_Board) (z3 : Int) (y14 : (List Int)) (n4 : Nat) (z4 : Int) : St := [(2, dO 0 0), (3, dO 1 0), (4, dI 0), (13, dI z4), (128, dI (ln x0.Consumers)), (129, dI z3), (134, dS 2), (135, dI (ln y14)), (136, dI (cnt 0 n4))]
def R27_4 (x0 : api_Board) (x1 : api_Power) (y14 : (List Int)) (n4 : Nat) (z4 : Int) : List Res := [.box 29 (d29 x0), .box 35 (d35 x1), .sl 3 1 (y14.map pI)]
def sa27_4 (x0 : api_Board) (z3 : Int) (z4 : Int) : St := [(2, dO 0 0), (3, dO 1 0), (4, dI 0), (13, dI z4), (128, dI (ln x0.Consumers)), (129, dI z3)]
def Ra27_4 (x0 : api_Board) (x1 : api_Power) (z4 : Int) : List Res := [.box 29 (d29 x0), .box 35 (d35 x1)]
set_option maxHeartbeats 4000000 in
theorem k27 (x0 : api_Board) (x1 : api_Power) (r : Int) (h : F27 x0 x1 = some r) : CallOk Tryz.prog 27 [.agg (d29 x0), .agg (d35 x1)] [] (.d (I r)) [] := by
 unfold F27 at h
 refine callOk_of 151 Tryz.func27 rfl rfl rfl fun C hC => ?_
 obtain ⟨y1, h2, h⟩ := bindE h
 rcases boolC ((y1 != 0)) with h3 | h3
 ·replace h := condT h3 h
  replace h := sI h
  subst h
  exact wr (bs := [((y1 != 0), true)]) lv27 31 [true] [.call 76 [.agg (d29 x0)] [] (dI y1) [] []] [] [.tmp 4] 0 [] hC ⟨⟨e76, (k76 x0 _ h2)⟩, trivial⟩ ⟨h3, trivial⟩
 ·replace h := condF h3 h
  refine ws (bs := [((y1 != 0), false)]) lv27 33 [false] [.call 76 [.agg (d29 x0)] [] (dI y1) [] [], .len (ln (x1.Closed.map pB)) (ln x1.Closed), .len (ln (x0.Breakers.map q66)) (ln x0.Breakers), .when [(((ln x1.Closed) != (ln x0.Breakers)), false)] (.len (ln (x1.Sources.map q59)) (ln x1.Sources)), .when [(((ln x1.Closed) != (ln x0.Breakers)), false)] (.len (ln (x0.Sources.map q57)) (ln x0.Sources)), .when [((((ln x1.Closed) != (ln x0.Breakers)) || ((ln x1.Sources) != (ln x0.Sources))), false)] (.len (ln (x1.Limits.map pI)) (ln x1.Limits)), .when [((((ln x1.Closed) != (ln x0.Breakers)) || ((ln x1.Sources) != (ln x0.Sources))), false)] (.len (ln (x0.Consumers.map q108)) (ln x0.Consumers))] [] 0 [0, 1] [(2, dO 0 0), (3, dO 1 0), (4, dI 0), (45, dB (c27_0 x0 x1))] [.box 29 (d29 x0), .box 35 (d35 x1)] hC ⟨⟨e76, (k76 x0 _ h2)⟩, len_map _ _, len_map _ _, fun hg => len_map _ _, fun hg => len_map _ _, fun hg => len_map _ _, fun hg => len_map _ _, trivial⟩ ⟨h3, trivial⟩ ?_
  rcases boolC ((c27_0 x0 x1)) with h4 | h4
  ·replace h := condT h4 h
   replace h := sI h
   subst h
   exact wr (bs := [((c27_0 x0 x1), true)]) lv27 24 [true] [] [] [.tmp 4] 0 [] hC trivial ⟨h4, trivial⟩
  ·replace h := condF h4 h
   refine ws (bs := [((c27_0 x0 x1), false)]) lv27 26 [false] [.len (ln (x1.Sources.map q59)) (ln x1.Sources)] [] 0 [0, 1] (st27_0 x1 0 ()) (R27_0 x0 x1 0 ()) hC ⟨len_map _ _, trivial⟩ ⟨h4, trivial⟩ ?_
   obtain ⟨w0, hm0, hret0, hnext0⟩ := andThen_inv h
   clear h
   refine WI_cut (by kernel_rfl) (fun s => w0 = .next s) (sa27_0) (Ra27_0 x0 x1) ?_ fun z0 hs0 => ?_
   ·refine WI_blk (by kernel_rfl) ?_
    refine WI_len 47 rfl fun hl0 => ?_
    refine WI_foldI (by kernel_rfl) F27_l0 (st27_0 x1) (R27_0 x0 x1) w0 x1.Sources () hm0 rfl rfl (fun z0 hn0 => ?_) fun n0 a0 z0 w0b hi0 hx0 h hb0 hr0 => ?_
    ·clear hm0
     exact we (bs := [(decide ((cnt 0 x1.Sources.length) < (ln x1.Sources)), false)]) (φ := fun s' => w0 = .next s') (st' := (sa27_0)) (R' := (Ra27_0 x0 x1)) lv27 26 [false] [] [] 0 [0, 1] () hC trivial ⟨(cnt_end hl0), trivial⟩ hn0
    ·unfold F27_l0 at h
     refine ws (bs := [(decide ((cnt 0 n0) < (ln x1.Sources)), true)]) lv27 32 [true] [.row (x1.Sources.map q59) (cnt 0 n0) (q59 a0), .call 77 [dI a0.State, dI 0, dI 3] [] (dB (F77 a0.State 0 3)) [] [], .when [(!(F77 a0.State 0 3), false)] (.call 77 [dI a0.Since, dI 0, dI 2147483648] [] (dB (F77 a0.Since 0 2147483648)) [] []), .when [(((!(F77 a0.State 0 3)) || (!(F77 a0.Since 0 2147483648))), false)] (.call 77 [dI a0.Frequency, dI 0, dI 6000] [] (dB (F77 a0.Frequency 0 6000)) [] []), .when [((((!(F77 a0.State 0 3)) || (!(F77 a0.Since 0 2147483648))) || (!(F77 a0.Frequency 0 6000))), false)] (.call 77 [dI a0.Phase, dI 0, dI 3599] [] (dB (F77 a0.Phase 0 3599)) [] [])] [] 0 [0, 1] [(2, dO 0 0), (3, dO 1 0), (4, dI 0), (47, .d (DS q59 x1.Sources)), (48, dI (ln x1.Sources)), (49, dI (cnt 0 n0)), (74, dB (c27_2 a0))] [.box 29 (d29 x0), .box 35 (d35 x1)] hC ⟨(row_cnt hx0 hl0), ⟨e77, (k77 a0.State 0 3 _ rfl)⟩, fun hg => ⟨e77, (k77 a0.Since 0 2147483648 _ rfl)⟩, fun hg => ⟨e77, (k77 a0.Frequency 0 6000 _ rfl)⟩, fun hg => ⟨e77, (k77 a0.Phase 0 3599 _ rfl)⟩, trivial⟩ ⟨(cnt_lt hi0 hl0), trivial⟩ ?_
     rcases boolC ((c27_2 a0)) with h5 | h5
     ·replace h := condT h5 h
      have hq := hret0 _ (hr0 _ (sI h).symm)
      replace hq := sI hq
      subst hq
      exact wr (bs := [((c27_2 a0), true)]) lv27 24 [true] [] [] [.tmp 4] 0 [] hC trivial ⟨h5, trivial⟩
     ·replace h := condF h5 h
      exact we (bs := [((c27_2 a0), false)]) (φ := fun s' => w0b = .next s') (st' := (st27_0 x1 (n0 + 1))) (R' := (R27_0 x0 x1 (n0 + 1))) lv27 25 [false] [] [] 0 [0, 1] () hC trivial ⟨h5, trivial⟩ (sI h).symm
   ·have h := hnext0 _ hs0
    refine ws (bs := []) lv27 24 [] [.len (ln (x1.Limits.map pI)) (ln x1.Limits)] [] 0 [0, 1] (st27_1 x1 0 ()) (R27_1 x0 x1 0 ()) hC ⟨len_map _ _, trivial⟩ trivial ?_
    obtain ⟨w1, hm1, hret1, hnext1⟩ := andThen_inv h
    clear h
    refine WI_cut (by kernel_rfl) (fun s => w1 = .next s) (sa27_1) (Ra27_1 x0 x1) ?_ fun z1 hs1 => ?_
    ·refine WI_blk (by kernel_rfl) ?_
     refine WI_len 77 rfl fun hl1 => ?_
     refine WI_foldI (by kernel_rfl) (F27_l1 x0) (st27_1 x1) (R27_1 x0 x1) w1 x1.Limits () hm1 rfl rfl (fun z1 hn1 => ?_) fun n1 a1 z1 w1b hi1 hx1 h hb1 hr1 => ?_
     ·clear hm1
      exact we (bs := [(decide ((cnt 0 x1.Limits.length) < (ln x1.Limits)), false)]) (φ := fun s' => w1 = .next s') (st' := (sa27_1)) (R' := (Ra27_1 x0 x1)) lv27 26 [false] [] [] 0 [0, 1] () hC trivial ⟨(cnt_end hl1), trivial⟩ hn1
     ·unfold F27_l1 at h
      obtain ⟨y6, h7, h⟩ := bindE h
      refine ws (bs := [(decide ((cnt 0 n1) < (ln x1.Limits)), true)]) lv27 32 [true] [.row (x1.Limits.map pI) (cnt 0 n1) (pI a1), .row (x0.Consumers.map q108) (cnt 0 n1) (q108 y6), .call 77 [dI a1, dI 0, dI y6.Load] [] (dB (F77 a1 0 y6.Load)) [] []] [] 0 [0, 1] [(2, dO 0 0), (3, dO 1 0), (4, dI 0), (77, .d (DS pI x1.Limits)), (78, dI (ln x1.Limits)), (79, dI (cnt 0 n1)), (92, dB (!(F77 a1 0 y6.Load)))] [.box 29 (d29 x0), .box 35 (d35 x1)] hC ⟨(row_cnt hx1 hl1), row_get h7, ⟨e77, (k77 a1 0 y6.Load _ rfl)⟩, trivial⟩ ⟨(cnt_lt hi1 hl1), trivial⟩ ?_
      rcases boolC (!(F77 a1 0 y6.Load)) with h8 | h8
      ·replace h := condT h8 h
       have hq := hret1 _ (hr1 _ (sI h).symm)
       replace hq := sI hq
       subst hq
       exact wr (bs := [(!(F77 a1 0 y6.Load), true)]) lv27 24 [true] [] [] [.tmp 4] 0 [] hC trivial ⟨h8, trivial⟩
      ·replace h := condF h8 h
       exact we (bs := [(!(F77 a1 0 y6.Load), false)]) (φ := fun s' => w1b = .next s') (st' := (st27_1 x1 (n1 + 1))) (R' := (R27_1 x0 x1 (n1 + 1))) lv27 25 [false] [] [] 0 [0, 1] () hC trivial ⟨h8, trivial⟩ (sI h).symm
    ·have h := hnext1 _ hs1
     rcases boolC (decide ((ln x1.Broken) > 32)) with h9 | h9
     ·replace h := condT h9 h
      replace h := sI h
      subst h
      exact wr (bs := [(decide ((ln x1.Broken) > 32), true)]) lv27 27 [true] [.len (ln (x1.Broken.map q119)) (ln x1.Broken)] [] [.tmp 4] 0 [] hC ⟨len_map _ _, trivial⟩ ⟨h9, trivial⟩
     ·replace h := condF h9 h
      refine ws (bs := [(decide ((ln x1.Broken) > 32), false)]) lv27 29 [false] [.len (ln (x1.Broken.map q119)) (ln x1.Broken), .len (ln (x1.Broken.map q119)) (ln x1.Broken)] [] 0 [0, 1] (st27_2 x1 0 ()) (R27_2 x0 x1 0 ()) hC ⟨len_map _ _, len_map _ _, trivial⟩ ⟨h9, trivial⟩ ?_
      obtain ⟨w2, hm2, hret2, hnext2⟩ := andThen_inv h
      clear h
      refine WI_cut (by kernel_rfl) (fun s => w2 = .next s) (sa27_2) (Ra27_2 x0 x1) ?_ fun z2 hs2 => ?_
      ·refine WI_blk (by kernel_rfl) ?_
       refine WI_len 99 rfl fun hl2 => ?_
       refine WI_foldI (by kernel_rfl) (F27_l2 x0 x1) (st27_2 x1) (R27_2 x0 x1) w2 x1.Broken () hm2 rfl rfl (fun z2 hn2 => ?_) fun n2 a2 z2 w2b hi2 hx2 h hb2 hr2 => ?_
       ·clear hm2
        exact we (bs := [(decide ((cnt 0 x1.Broken.length) < (ln x1.Broken)), false)]) (φ := fun s' => w2 = .next s') (st' := (sa27_2)) (R' := (Ra27_2 x0 x1)) lv27 26 [false] [] [] 0 [0, 1] () hC trivial ⟨(cnt_end hl2), trivial⟩ hn2
       ·unfold F27_l2 at h
        obtain ⟨y10, h11, h⟩ := bindE h
        refine ws (bs := [(decide ((cnt 0 n2) < (ln x1.Broken)), true)]) lv27 32 [true] [.row (x1.Broken.map q119) (cnt 0 n2) (q119 a2), .call 64 [.agg (d29 x0), .agg (d119 a2)] [] (dB (F64 x0 a2)) [] [], .when [(!(F64 x0 a2), false), (decide ((cnt 0 n2) > 0), true)] (.row (x1.Broken.map q119) (w64 ((cnt 0 n2) - 1)) (q119 y10)), .when [(!(F64 x0 a2), false), (decide ((cnt 0 n2) > 0), true)] (.call 78 [.agg (d119 y10), .agg (d119 a2)] [] (dB (F78 y10 a2)) [] [])] [] 0 [0, 1] [(2, dO 0 0), (3, dO 1 0), (4, dI 0), (99, .d (DS q119 x1.Broken)), (100, dI (ln x1.Broken)), (101, dI (cnt 0 n2)), (124, dB (c27_4 x0 n2 a2 y10))] [.box 29 (d29 x0), .box 35 (d35 x1)] hC ⟨(row_cnt hx2 hl2), ⟨e64, (k64 x0 a2 _ rfl)⟩, fun hg => row_get (guardO_get h11 hg), fun hg => ⟨e78, (k78 y10 a2 _ rfl)⟩, trivial⟩ ⟨(cnt_lt hi2 hl2), trivial⟩ ?_
        rcases boolC ((c27_4 x0 n2 a2 y10)) with h12 | h12
        ·replace h := condT h12 h
         have hq := hret2 _ (hr2 _ (sI h).symm)
         replace hq := sI hq
         subst hq
         exact wr (bs := [((c27_4 x0 n2 a2 y10), true)]) lv27 24 [true] [] [] [.tmp 4] 0 [] hC trivial ⟨h12, trivial⟩
        ·replace h := condF h12 h
         exact we (bs := [((c27_4 x0 n2 a2 y10), false)]) (φ := fun s' => w2b = .next s') (st' := (st27_2 x1 (n2 + 1))) (R' := (R27_2 x0 x1 (n2 + 1))) lv27 25 [false] [] [] 0 [0, 1] () hC trivial ⟨h12, trivial⟩ (sI h).symm
      ·have h := hnext2 _ hs2
       refine ws (bs := []) lv27 24 [] [.len (ln (x0.Consumers.map q108)) (ln x0.Consumers)] [] 0 [0, 1] (st27_3 x0 0) (R27_3 x0 x1 0) hC ⟨len_map _ _, trivial⟩ trivial ?_
       obtain ⟨w3, hm3, hret3, hnext3⟩ := andThen_inv h
       clear h
       refine WI_cut (by kernel_rfl) (fun s => w3 = .next s) (sa27_3) (Ra27_3) ?_ fun z3 hs3 => ?_
       ·refine WI_blk (by kernel_rfl) ?_
        refine WI_while (by kernel_rfl) (F27_l3 x0 x1) (st27_3 x0) (R27_3 x0 x1) w3 1152921504606846976 0 hm3 rfl rfl fun z3 w3b h hb3 hr3 => ?_
        unfold F27_l3 at h
        rcases boolC ((c27_6 x0 z3)) with h13 | h13
        ·replace h := condT h13 h
         obtain ⟨y14, h15, h⟩ := bindE h
         refine ws (bs := [((c27_6 x0 z3), true)]) lv27 35 [true] [.call 79 [.agg (d29 x0), dI 3, dI z3] [] (dS 0) [.sl 3 1 (y14.map pI)] [], .len (ln (y14.map pI)) (ln y14)] [] 0 n3_ (st27_4 x0 z3 y14 0 0) (R27_4 x0 x1 y14 0 0) hC ⟨⟨e79, (k79 x0 3 z3 _ h15)⟩, len_map _ _, trivial⟩ ⟨h13, trivial⟩ ?_
         obtain ⟨w4, hm4, hret4, hnext4⟩ := andThen_inv h
         clear h
         refine WI_cut (by kernel_rfl) (fun s => w4 = .next s) (sa27_4 x0 z3) (Ra27_4 x0 x1) ?_ fun z4 hs4 => ?_
         ·refine WI_blk (by kernel_rfl) ?_
          refine WI_lenO 134 2 rfl rfl fun hl4 => ?_
          refine WI_foldI (by kernel_rfl) (F27_l4 x1) (st27_4 x0 z3 y14) (R27_4 x0 x1 y14) w4 y14 0 hm4 rfl rfl (fun z4 hn4 => ?_) fun n4 a4 z4 w4b hi4 hx4 h hb4 hr4 => ?_
          ·clear hm4
           exact we (bs := [(decide ((cnt 0 y14.length) < (ln y14)), false)]) (φ := fun s' => w4 = .next s') (st' := (sa27_4 x0 z3)) (R' := (Ra27_4 x0 x1)) lv27 26 [false] [] [] 0 [0, 1] z4 hC trivial ⟨(cnt_end hl4), trivial⟩ hn4
          ·unfold F27_l4 at h
           obtain ⟨y16, h17, h⟩ := bindE h
           rcases boolC (y16) with h18 | h18
           ·replace h := condT h18 h
            exact we (bs := [(decide ((cnt 0 n4) < (ln y14)), true), (y16, true)]) (φ := fun s' => w4b = .next s') (st' := (st27_4 x0 z3 y14 (n4 + 1))) (R' := (R27_4 x0 x1 y14 (n4 + 1))) lv27 36 [true, true] [.row (y14.map pI) (cnt 0 n4) (pI a4), .row (y14.map pI) (((Int.toNat (cnt 0 n4)) : Nat) : Int) (pI a4), .row (x1.Closed.map pB) a4 (pB y16)] [] 0 n3_ (w64 (z4 + 1)) hC ⟨row_get (get_cnt hx4 hl4), row_getN (get_cnt hx4 hl4), row_get h17, trivial⟩ ⟨(cnt_lt hi4 hl4), h18, trivial⟩ (sI h).symm
           ·replace h := condF h18 h
            exact we (bs := [(decide ((cnt 0 n4) < (ln y14)), true), (y16, false)]) (φ := fun s' => w4b = .next s') (st' := (st27_4 x0 z3 y14 (n4 + 1))) (R' := (R27_4 x0 x1 y14 (n4 + 1))) lv27 36 [true, false] [.row (y14.map pI) (cnt 0 n4) (pI a4), .row (y14.map pI) (((Int.toNat (cnt 0 n4)) : Nat) : Int) (pI a4), .row (x1.Closed.map pB) a4 (pB y16)] [] 0 n3_ z4 hC ⟨row_get (get_cnt hx4 hl4), row_getN (get_cnt hx4 hl4), row_get h17, trivial⟩ ⟨(cnt_lt hi4 hl4), h18, trivial⟩ (sI h).symm
         ·have h := hnext4 _ hs4
          rcases boolC (decide (z4 > 1)) with h19 | h19
          ·replace h := condT h19 h
           have hq := hret3 _ (hr3 _ (sI h).symm)
           replace hq := sI hq
           subst hq
           exact wr (bs := [(decide (z4 > 1), true)]) lv27 26 [true] [] [] [.tmp 4] 0 [] hC trivial ⟨h19, trivial⟩
          ·replace h := condF h19 h
           exact we (bs := [(decide (z4 > 1), false)]) (φ := fun s' => w3b = .next s') (st' := (st27_3 x0)) (R' := (R27_3 x0 x1)) lv27 27 [false] [] [] 0 [0, 1] (w64 (z3 + 1)) hC trivial ⟨h19, trivial⟩ (sI h).symm
        ·replace h := condF h13 h
         exact we (bs := [((c27_6 x0 z3), false)]) (φ := fun s' => w3 = .next s') (st' := (sa27_3)) (R' := (Ra27_3)) lv27 26 [false] [] [] 0 [] z3 hC trivial ⟨h13, trivial⟩ (hb3 _ (sI h).symm)
       ·have h := hnext3 _ hs3
        replace h := sI h
        subst h
        exact wr (bs := []) lv27 23 [] [] [] [.tmp 4] 0 [] hC trivial trivial
theorem e27 : Enters Tryz.prog 27 := en Tryz.func27
def lv74s1 : List Nat := [0, 1, 3, 4, 5, 10, 11, 21, 31, 44, 59]
def sa74s1_0 (y1 : Int × dynposmake_Src) (z0 : Bool) : St := [(0, dO 0 0), (3, dO 4 0), (4, dO 5 0), (5, dO 6 0), (10, dI y1.1), (11, dB z0)]
def Ra74s1_0 (x1 : api_Board) (y1 : Int × dynposmake_Src) (z0 : Bool) : List Res := (.box 121 (d121 y1.2) :: zs x1 [.box 29 [I x1.Buses, .os 1, .os 2, .os 3, I x1.Phase, I x1.Frequency], .box 42 [I 0, I 0, I 0], .box 42 [I y1.1, I 0, I 0]])
def sa74s1_1 (y1 : Int × dynposmake_Src) (z1 : Bool) : St := [(0, dO 0 0), (3, dO 4 0), (4, dO 5 0), (5, dO 6 0), (10, dI y1.1), (21, dB z1)]
def Ra74s1_1 (x1 : api_Board) (y1 : Int × dynposmake_Src) (z1 : Bool) : List Res := (.box 121 (d121 y1.2) :: zs x1 [.box 29 [I x1.Buses, .os 1, .os 2, .os 3, I x1.Phase, I x1.Frequency], .box 42 [I 0, I 0, I 0], .box 42 [I y1.1, I 0, I 0]])
theorem k74s1 (x0 : dynposmake_Src) (x1 : api_Board) (r : api_Act × dynposmake_Src) (h : F74s1 x0 x1 = some r) : CallOk Tryz.prog 74 [.d (.o 0 0), .agg [I x1.Buses, .os 1, .os 2, .os 3, I x1.Phase, I x1.Frequency]] (.box 121 (d121 x0) :: zs x1 []) (.agg (d42 r.1)) (.box 121 (d121 r.2) :: zs x1 []) := by
 unfold F74s1 at h
 refine callOk_of 69 Tryz.func74 rfl rfl rfl fun C hC => ?_
 obtain ⟨y1, h2, h⟩ := bindE h
 refine ws (bs := []) lv74s1 32 [] [.call 61 [dO 0 0, dI 1, dI 9] [.box 121 (d121 x0)] (dI y1.1) [.box 121 (d121 y1.2)] [0]] [] 4 n7_ [(0, dO 0 0), (3, dO 4 0), (4, dO 5 0), (5, dO 6 0), (10, dI y1.1), (11, dB (y1.1 == 1))] (.box 121 (d121 y1.2) :: zs x1 [.box 29 [I x1.Buses, .os 1, .os 2, .os 3, I x1.Phase, I x1.Frequency], .box 42 [I 0, I 0, I 0], .box 42 [I y1.1, I 0, I 0]]) hC ⟨⟨e61, (k61 x0 1 9 _ h2)⟩, trivial⟩ trivial ?_
 obtain ⟨w0, h, hret0, hnext0⟩ := andThen_inv h
 refine WI_cut (by kernel_rfl) (fun s => w0 = .next s) (sa74s1_0 y1) (Ra74s1_0 x1 y1) ?_ fun z0 hs0 => ?_
 ·unfold F74s1_m0 at h
  rcases boolC ((y1.1 == 1)) with h3 | h3
  ·replace h := condT h3 h
   exact we (bs := [((y1.1 == 1), true)]) (φ := fun s' => w0 = .next s') (st' := (sa74s1_0 y1)) (R' := (Ra74s1_0 x1 y1)) lv74s1 23 [true] [] [] 4 n7_ (y1.1 == 1) hC trivial ⟨h3, trivial⟩ (sI h).symm
  ·replace h := condF h3 h
   exact we (bs := [((y1.1 == 1), false)]) (φ := fun s' => w0 = .next s') (st' := (sa74s1_0 y1)) (R' := (Ra74s1_0 x1 y1)) lv74s1 23 [false] [] [] 4 n7_ (y1.1 == 2) hC trivial ⟨h3, trivial⟩ (sI h).symm
 ·clear h; have h := hnext0 _ hs0
  rcases boolC (z0) with h4 | h4
  ·replace h := condT h4 h
   obtain ⟨y5, h6, h⟩ := bindE h
   replace h := sI h
   subst h
   exact wr (bs := [(z0, true)]) lv74s1 26 [true] [.len (ln (x1.Breakers.map q66)) (ln x1.Breakers), .call 63 [dO 0 0, dI (w64 ((ln x1.Breakers) + 1))] [.box 121 (d121 y1.2)] (dI y5.1) [.box 121 (d121 y5.2)] [0]] [] [.cell 4 42] 4 n4_ hC ⟨len_map _ _, ⟨e63, (k63 y1.2 (w64 ((ln x1.Breakers) + 1)) _ h6)⟩, trivial⟩ ⟨h4, trivial⟩
  ·replace h := condF h4 h
   refine ws (bs := [(z0, false)]) lv74s1 25 [false] [] [] 4 n7_ [(0, dO 0 0), (3, dO 4 0), (4, dO 5 0), (5, dO 6 0), (10, dI y1.1), (21, dB (y1.1 == 3))] (.box 121 (d121 y1.2) :: zs x1 [.box 29 [I x1.Buses, .os 1, .os 2, .os 3, I x1.Phase, I x1.Frequency], .box 42 [I 0, I 0, I 0], .box 42 [I y1.1, I 0, I 0]]) hC trivial ⟨h4, trivial⟩ ?_
   obtain ⟨w1, h, hret1, hnext1⟩ := andThen_inv h
   refine WI_cut (by kernel_rfl) (fun s => w1 = .next s) (sa74s1_1 y1) (Ra74s1_1 x1 y1) ?_ fun z1 hs1 => ?_
   ·unfold F74s1_m1 at h
    rcases boolC ((y1.1 == 3)) with h7 | h7
    ·replace h := condT h7 h
     exact we (bs := [((y1.1 == 3), true)]) (φ := fun s' => w1 = .next s') (st' := (sa74s1_1 y1)) (R' := (Ra74s1_1 x1 y1)) lv74s1 23 [true] [] [] 4 n7_ (y1.1 == 3) hC trivial ⟨h7, trivial⟩ (sI h).symm
    ·replace h := condF h7 h
     exact we (bs := [((y1.1 == 3), false)]) (φ := fun s' => w1 = .next s') (st' := (sa74s1_1 y1)) (R' := (Ra74s1_1 x1 y1)) lv74s1 23 [false] [] [] 4 n7_ (y1.1 == 4) hC trivial ⟨h7, trivial⟩ (sI h).symm
   ·clear h; have h := hnext1 _ hs1
    rcases boolC (z1) with h8 | h8
    ·replace h := condT h8 h
     obtain ⟨y9, h10, h⟩ := bindE h
     replace h := sI h
     subst h
     exact wr (bs := [(z1, true)]) lv74s1 26 [true] [.len (ln (x1.Sources.map q57)) (ln x1.Sources), .call 63 [dO 0 0, dI (w64 ((ln x1.Sources) + 1))] [.box 121 (d121 y1.2)] (dI y9.1) [.box 121 (d121 y9.2)] [0]] [] [.cell 4 42] 4 n4_ hC ⟨len_map _ _, ⟨e63, (k63 y1.2 (w64 ((ln x1.Sources) + 1)) _ h10)⟩, trivial⟩ ⟨h8, trivial⟩
    ·replace h := condF h8 h
     rcases boolC ((y1.1 == 5)) with h11 | h11
     ·replace h := condT h11 h
      obtain ⟨y12, h13, h⟩ := bindE h
      obtain ⟨y14, h15, h⟩ := bindE h
      replace h := sI h
      subst h
      exact wr (bs := [(z1, false), ((y1.1 == 5), true)]) lv74s1 29 [false, true] [.len (ln (x1.Consumers.map q108)) (ln x1.Consumers), .call 63 [dO 0 0, dI (w64 ((ln x1.Consumers) + 1))] [.box 121 (d121 y1.2)] (dI y12.1) [.box 121 (d121 y12.2)] [0], .call 62 [dO 0 0, .d (DS pI [0, 5, 20, 41])] [.box 121 (d121 y12.2)] (dI y14.1) [.box 121 (d121 y14.2)] [0]] [] [.cell 4 42] 4 n4_ hC ⟨len_map _ _, ⟨e63, (k63 y1.2 (w64 ((ln x1.Consumers) + 1)) _ h13)⟩, ⟨e62, (k62 y12.2 [0, 5, 20, 41] _ h15)⟩, trivial⟩ ⟨h8, h11, trivial⟩
     ·replace h := condF h11 h
      rcases boolC ((y1.1 == 6)) with h16 | h16
      ·replace h := condT h16 h
       obtain ⟨y17, h18, h⟩ := bindE h
       obtain ⟨y19, h20, h⟩ := bindE h
       replace h := sI h
       subst h
       exact wr (bs := [(z1, false), ((y1.1 == 5), false), ((y1.1 == 6), true)]) lv74s1 32 [false, false, true] [.len (ln (x1.Sources.map q57)) (ln x1.Sources), .call 63 [dO 0 0, dI (w64 ((ln x1.Sources) + 1))] [.box 121 (d121 y1.2)] (dI y17.1) [.box 121 (d121 y17.2)] [0], .call 63 [dO 0 0, dI (w64 (x1.Buses + 1))] [.box 121 (d121 y17.2)] (dI y19.1) [.box 121 (d121 y19.2)] [0]] [] [.cell 4 42] 4 n4_ hC ⟨len_map _ _, ⟨e63, (k63 y1.2 (w64 ((ln x1.Sources) + 1)) _ h18)⟩, ⟨e63, (k63 y17.2 (w64 (x1.Buses + 1)) _ h20)⟩, trivial⟩ ⟨h8, h11, h16, trivial⟩
      ·replace h := condF h16 h
       rcases boolC ((y1.1 == 8)) with h21 | h21
       ·replace h := condT h21 h
        obtain ⟨y22, h23, h⟩ := bindE h
        obtain ⟨y24, h25, h⟩ := bindE h
        replace h := sI h
        subst h
        exact wr (bs := [(z1, false), ((y1.1 == 5), false), ((y1.1 == 6), false), ((y1.1 == 8), true), ((y1.1 == 8), true)]) lv74s1 38 [false, false, false, true, true] [.call 61 [dO 0 0, dI 1, dI 4] [.box 121 (d121 y1.2)] (dI y22.1) [.box 121 (d121 y22.2)] [0], .call 63 [dO 0 0, dI 4] [.box 121 (d121 y22.2)] (dI y24.1) [.box 121 (d121 y24.2)] [0]] [] [.cell 4 42] 4 n4_ hC ⟨⟨e61, (k61 y1.2 1 4 _ h23)⟩, ⟨e63, (k63 y22.2 4 _ h25)⟩, trivial⟩ ⟨h8, h11, h16, h21, h21, trivial⟩
       ·replace h := condF h21 h
        rcases boolC ((y1.1 == 9)) with h26 | h26
        ·replace h := condT h26 h
         obtain ⟨y27, h28, h⟩ := bindE h
         obtain ⟨y29, h30, h⟩ := bindE h
         replace h := sI h
         subst h
         exact wr (bs := [(z1, false), ((y1.1 == 5), false), ((y1.1 == 6), false), ((y1.1 == 8), false), ((y1.1 == 9), true)]) lv74s1 38 [false, false, false, false, true] [.call 61 [dO 0 0, dI 1, dI 4] [.box 121 (d121 y1.2)] (dI y27.1) [.box 121 (d121 y27.2)] [0], .call 63 [dO 0 0, dI 4] [.box 121 (d121 y27.2)] (dI y29.1) [.box 121 (d121 y29.2)] [0]] [] [.cell 4 42] 4 n4_ hC ⟨⟨e61, (k61 y1.2 1 4 _ h28)⟩, ⟨e63, (k63 y27.2 4 _ h30)⟩, trivial⟩ ⟨h8, h11, h16, h21, h26, trivial⟩
        ·replace h := condF h26 h
         replace h := sI h
         subst h
         exact wr (bs := [(z1, false), ((y1.1 == 5), false), ((y1.1 == 6), false), ((y1.1 == 8), false), ((y1.1 == 9), false)]) lv74s1 38 [false, false, false, false, false] [] [] [.cell 4 42] 4 n4_ hC trivial ⟨h8, h11, h16, h21, h26, trivial⟩
theorem e74s1 : Enters Tryz.prog 74 := en Tryz.func74
def lv172 : List Nat := [0, 1, 2, 3, 4, 6, 16, 17, 18, 19, 28, 29, 44, 71]
def st172_0 (x0 : api_Board) (n0 : Nat) (z0 : (List Int) × (List (List Int))) : St := [(1, dO 0 0), (2, dB false), (3, dS 1), (4, dS 2), (16, .d (DS q66 x0.Breakers)), (17, dI (ln x0.Breakers)), (18, dI (cnt 0 n0))]
def R172_0 (x0 : api_Board) (n0 : Nat) (z0 : (List Int) × (List (List Int))) : List Res := [.box 29 (d29 x0), .sl 3 1 (z0.1.map pI), .dsl 22 1 3, .gh 1 [(3, 1)] (z0.2.map (pL pI)) none]
def sa172_0  (z0 : (List Int) × (List (List Int))) : St := [(2, dB false), (3, dS 0), (4, dS 1)]
def Ra172_0  (z0 : (List Int) × (List (List Int))) : List Res := [.sl 3 1 (z0.1.map pI), .dsl 22 1 2, .gh 1 [(3, 1)] (z0.2.map (pL pI)) none]
theorem k172 (x0 : api_Board) (r : Bool) (h : F172 x0 = some r) : CallOk Tryz.prog 172 [.agg (d29 x0)] [] (.d (Bo r)) [] := by
 unfold F172 at h
 refine callOk_of 116 Tryz.func172 rfl rfl rfl fun C hC => ?_
 obtain ⟨y1, h2, h⟩ := bindE h
 obtain ⟨y3, h4, h⟩ := bindE h
 refine ws (bs := []) lv172 28 [] [.flts [.sl 3 1 (y1.map pI), .zsl 22 1 (y3.map (pL pI))], .len (ln (x0.Sources.map q57)) (ln x0.Sources), .fltm 1 (.room ((ln x0.Sources) * (8 + 1)) (List.replicate (Int.toNat (ln x0.Sources)) (pI 0)) (y1.map pI)) (.sl 3 1 (y1.map pI)) (.sl 3 1 (y1.map pI)), .len (ln (x0.Consumers.map q108)) (ln x0.Consumers), .fltm 2 (.roomZ ((ln x0.Consumers) * (24 + 1)) (List.replicate (Int.toNat (ln x0.Consumers)) ((pL pI) ([] : List Int))) (y3.map (pL pI))) (.zsl 22 1 (y3.map (pL pI))) (.zsl 22 1 (y3.map (pL pI))), .len (ln (x0.Breakers.map q66)) (ln x0.Breakers)] [.deep 2 [(3, 1)]] 0 n4_ (st172_0 x0 0 (y1, y3)) (R172_0 x0 0 (y1, y3)) hC ⟨trivial, len_map _ _, ⟨make_get h2, rfl⟩, len_map _ _, ⟨makez_get h4, rfl⟩, len_map _ _, trivial⟩ trivial ?_
 obtain ⟨w0, hm0, hret0, hnext0⟩ := andThen_inv h
 clear h
 refine WI_cut (by kernel_rfl) (fun s => w0 = .next s) (sa172_0) (Ra172_0) ?_ fun z0 hs0 => ?_
 ·refine WI_blk (by kernel_rfl) ?_
  refine WI_len 16 rfl fun hl0 => ?_
  refine WI_foldI (by kernel_rfl) (F172_l0 x0) (st172_0 x0) (R172_0 x0) w0 x0.Breakers (y1, y3) hm0 rfl rfl (fun z0 hn0 => ?_) fun n0 a0 z0 w0b hi0 hx0 h hb0 hr0 => ?_
  ·clear hm0
   exact we (bs := [(decide ((cnt 0 x0.Breakers.length) < (ln x0.Breakers)), false)]) (φ := fun s' => w0 = .next s') (st' := (sa172_0)) (R' := (Ra172_0)) lv172 26 [false] [] [] 0 [1, 2, 3] (z0.1, z0.2) hC trivial ⟨(cnt_end hl0), trivial⟩ hn0
  ·unfold F172_l0 at h
   refine ws (bs := [(decide ((cnt 0 n0) < (ln x0.Breakers)), true)]) lv172 33 [true] [.row (x0.Breakers.map q66) (cnt 0 n0) (q66 a0), .call 132 [dI a0.A, dI 0, dI (w64 (x0.Buses - 1))] [] (dB (F132 a0.A 0 (w64 (x0.Buses - 1)))) [] []] [] 0 n5_ [(1, dO 0 0), (2, dB false), (3, dS 1), (4, dS 2), (6, dO 4 0), (16, .d (DS q66 x0.Breakers)), (17, dI (ln x0.Breakers)), (18, dI (cnt 0 n0)), (28, .d (Bo (!(F132 a0.A 0 (w64 (x0.Buses - 1))))))] [.box 29 (d29 x0), .sl 3 1 (z0.1.map pI), .dsl 22 1 3, .gh 1 [(3, 1)] (z0.2.map (pL pI)) none, .box 66 (d66 a0)] hC ⟨(row_cnt hx0 hl0), ⟨e132, (k132 a0.A 0 (w64 (x0.Buses - 1)) _ rfl)⟩, trivial⟩ ⟨(cnt_lt hi0 hl0), trivial⟩ ?_
   rcases boolC (!(F132 a0.A 0 (w64 (x0.Buses - 1)))) with h5 | h5
   ·replace h := condT h5 h
    have hq := hret0 _ (hr0 _ (sI h).symm)
    replace hq := sI hq
    subst hq
    exact wr (bs := [(!(F132 a0.A 0 (w64 (x0.Buses - 1))), true)]) lv172 24 [true] [] [] [.tmp 2] 0 [] hC trivial ⟨h5, trivial⟩
   ·replace h := condF h5 h
    refine ws (bs := [(!(F132 a0.A 0 (w64 (x0.Buses - 1))), false)]) lv172 26 [false] [.when [((a0.Kind == 1), true)] (.call 132 [dI a0.B, dI (w64 (a0.A + 1)), dI (w64 (x0.Buses - 1))] [] (dB (F132 a0.B (w64 (a0.A + 1)) (w64 (x0.Buses - 1)))) [] [])] [] 0 n5_ [(1, dO 0 0), (2, dB false), (3, dS 1), (4, dS 2), (6, dO 4 0), (16, .d (DS q66 x0.Breakers)), (17, dI (ln x0.Breakers)), (18, dI (cnt 0 n0)), (29, dB (c172_6 x0 a0))] [.box 29 (d29 x0), .sl 3 1 (z0.1.map pI), .dsl 22 1 3, .gh 1 [(3, 1)] (z0.2.map (pL pI)) none, .box 66 (d66 a0)] hC ⟨fun hg => ⟨e132, (k132 a0.B (w64 (a0.A + 1)) (w64 (x0.Buses - 1)) _ rfl)⟩, trivial⟩ ⟨h5, trivial⟩ ?_
    rcases boolC ((c172_6 x0 a0)) with h6 | h6
    ·replace h := condT h6 h
     exact we (bs := [((c172_6 x0 a0), true)]) (φ := fun s' => w0b = .next s') (st' := (st172_0 x0 (n0 + 1))) (R' := (R172_0 x0 (n0 + 1))) lv172 26 [true] [] [] 0 n4_ (z0.1, z0.2) hC trivial ⟨h6, trivial⟩ (sI h).symm
    ·replace h := condF h6 h
     obtain ⟨y7, h8, h⟩ := bindE h
     refine ws (bs := [((c172_6 x0 a0), false)]) lv172 24 [false] [.when [((a0.Kind == 2), true)] (.len (ln (z0.1.map pI)) (ln z0.1)), .when [((a0.Kind == 2), true)] (.call 132 [dI a0.B, dI 0, dI (w64 ((ln z0.1) - 1))] [] (.d (Bo (F132 a0.B 0 (w64 ((ln z0.1) - 1))))) [] []), .when [(((a0.Kind == 2) && (F132 a0.B 0 (w64 ((ln z0.1) - 1)))), true)] (.row (z0.1.map pI) a0.B (pI y7)), .when [(((a0.Kind == 2) && (F132 a0.B 0 (w64 ((ln z0.1) - 1)))), true)] (.row (z0.1.map pI) (((Int.toNat a0.B) : Nat) : Int) (pI y7))] [] 0 n5_ [(1, dO 0 0), (2, dB false), (3, dS 1), (4, dS 2), (6, dO 4 0), (16, .d (DS q66 x0.Breakers)), (17, dI (ln x0.Breakers)), (18, dI (cnt 0 n0)), (44, dB (c172_7 z0 a0 y7))] [.box 29 (d29 x0), .sl 3 1 (z0.1.map pI), .dsl 22 1 3, .gh 1 [(3, 1)] (z0.2.map (pL pI)) none, .box 66 (d66 a0)] hC ⟨fun hg => len_map _ _, fun hg => ⟨e132, (k132 a0.B 0 (w64 ((ln z0.1) - 1)) _ rfl)⟩, fun hg => row_get (guardO_get h8 hg), fun hg => row_getN (guardO_get h8 hg), trivial⟩ ⟨h6, trivial⟩ ?_
     rcases boolC ((c172_7 z0 a0 y7)) with h9 | h9
     ·replace h := condT h9 h
      obtain ⟨y10, h11, h⟩ := bindE h
      obtain ⟨y12, h13, h⟩ := bindE h
      exact we (bs := [((c172_7 z0 a0 y7), true)]) (φ := fun s' => w0b = .next s') (st' := (st172_0 x0 (n0 + 1))) (R' := (R172_0 x0 (n0 + 1))) lv172 26 [true] [.row (z0.1.map pI) a0.B (pI y10), .row (z0.1.map pI) (((Int.toNat a0.B) : Nat) : Int) (pI y10), .row (z0.1.map pI) a0.B (pI y10), .upd (z0.1.map pI) (Int.toNat a0.B) (pI y10) (pI (w64 (y10 + 1))) (y12.map pI)] [] 0 n4_ (y12, z0.2) hC ⟨row_get h11, row_getN h11, row_get h11, upd_get h11 h13, trivial⟩ ⟨h9, trivial⟩ (sI h).symm
     ·replace h := condF h9 h
      obtain ⟨y14, h15, h⟩ := bindE h
      obtain ⟨y16, h17, h⟩ := bindE h
      refine ws (bs := [((c172_7 z0 a0 y7), false)]) lv172 24 [false] [.when [((a0.Kind == 3), true)] (.len (ln (z0.2.map (pL pI))) (ln z0.2)), .when [((a0.Kind == 3), true)] (.call 132 [dI a0.B, dI 0, dI (w64 ((ln z0.2) - 1))] [] (.d (Bo (F132 a0.B 0 (w64 ((ln z0.2) - 1))))) [] []), .when [(((a0.Kind == 3) && (F132 a0.B 0 (w64 ((ln z0.2) - 1)))), true)] (.row (z0.2.map (pL pI)) a0.B ((pL pI) y14)), .when [(((a0.Kind == 3) && (F132 a0.B 0 (w64 ((ln z0.2) - 1)))), true)] (.row (z0.2.map (pL pI)) (((Int.toNat a0.B) : Nat) : Int) ((pL pI) y14)), .when [(((a0.Kind == 3) && (F132 a0.B 0 (w64 ((ln z0.2) - 1)))), true)] (.callB 96 [.d (DS pI y14), dI a0.A] (dB y16) (z0.2.map (pL pI)) (Int.toNat a0.B) ((pL pI) y14))] [] 0 n5_ [(1, dO 0 0), (2, dB false), (3, dS 1), (4, dS 2), (6, dO 4 0), (16, .d (DS q66 x0.Breakers)), (17, dI (ln x0.Breakers)), (18, dI (cnt 0 n0)), (71, dB (c172_8 z0 a0 y16))] [.box 29 (d29 x0), .sl 3 1 (z0.1.map pI), .dsl 22 1 3, .gh 1 [(3, 1)] (z0.2.map (pL pI)) none, .box 66 (d66 a0)] hC ⟨fun hg => len_map _ _, fun hg => ⟨e132, (k132 a0.B 0 (w64 ((ln z0.2) - 1)) _ rfl)⟩, fun hg => row_get (guardO_get h15 hg), fun hg => row_getN (guardO_get h15 hg), fun hg => lend_get ⟨e96, (k96 y14 a0.A _ (guardO_get h17 hg))⟩ (guardO_get h15 hg), trivial⟩ ⟨h9, trivial⟩ ?_
      rcases boolC ((c172_8 z0 a0 y16)) with h18 | h18
      ·replace h := condT h18 h
       obtain ⟨y19, h20, h⟩ := bindE h
       obtain ⟨y21, h22, h⟩ := bindE h
       obtain ⟨y23, h24, h⟩ := bindE h
       exact we (bs := [((c172_8 z0 a0 y16), true)]) (φ := fun s' => w0b = .next s') (st' := (st172_0 x0 (n0 + 1))) (R' := (R172_0 x0 (n0 + 1))) lv172 26 [true] [.row (z0.2.map (pL pI)) a0.B ((pL pI) y19), .row (z0.2.map (pL pI)) (((Int.toNat a0.B) : Nat) : Int) ((pL pI) y19), .appD (z0.2.map (pL pI)) (Int.toNat a0.B) ((pL pI) y19) 0 (y19.map pI) ([a0.A].map pI) 1 (((y19.map pI).length + ([a0.A].map pI).length) * (8 + 1)) (y21.map pI), .row (z0.2.map (pL pI)) a0.B ((pL pI) y19), .updD (z0.2.map (pL pI)) (Int.toNat a0.B) (Int.toNat a0.B) ((pL pI) y19) ((pL pI) y21) (y23.map (pL pI))] [] 0 [0, 1, 2, 8] (z0.1, y23) hC ⟨row_get h20, row_getN h20, appD_get 1 (fun _ => rfl) h20 rfl h22, row_get h20, updD_get h20 h24, trivial⟩ ⟨h18, trivial⟩ (sI h).symm
      ·replace h := condF h18 h
       have hq := hret0 _ (hr0 _ (sI h).symm)
       replace hq := sI hq
       subst hq
       exact wr (bs := [((c172_8 z0 a0 y16), false)]) lv172 24 [false] [] [] [.tmp 2] 0 [] hC trivial ⟨h18, trivial⟩
 ·have h := hnext0 _ hs0
  refine ws (bs := []) lv172 1 [] [] [.flat 1] 0 [0, 1] [(2, dB false), (3, dS 0), (4, dS 1)] [.sl 3 1 (z0.1.map pI), .sl 22 1 (z0.2.map (pL pI))] hC trivial trivial ?_
  obtain ⟨y27, h28, h⟩ := bindE h
  obtain ⟨y29, h30, h⟩ := bindE h
  replace h := sI h
  subst h
  exact wr (bs := []) lv172 22 [] [.callB 96 [.d (DS pI z0.1), dI 0] (dB y27) [[]] 0 [], .when [(!y27, true)] (.callB 232 [.d (DS (pL pI) z0.2), .d (.fn (.func 233) [] [])] (dB y29) [[]] 0 [])] [] [.tmp 2] 0 [] hC ⟨lend0_get ⟨e96, (k96 z0.1 0 _ h28)⟩, fun hg => lend0_get ⟨e232s0, (k232s0 z0.2 _ (guardO_get h30 hg))⟩, trivial⟩ trivial
theorem e172 : Enters Tryz.prog 172 := en Tryz.func172
def lv60 : List Nat := [0, 1, 2, 3, 4, 6, 7, 8, 32, 43]
theorem k60 (x0 : api_Board) (x1 : api_Power) (x2 : Int) (r : Int × Bool) (h : F60 x0 x1 x2 = some r) : CallOk Tryz.prog 60 [.agg (d29 x0), .agg (d35 x1), .d (I x2)] [] (.tup [.d (I r.1), .d (Bo r.2)]) [] := by
 unfold F60 at h
 refine callOk_of 50 Tryz.func60 rfl rfl rfl fun C hC => ?_
 obtain ⟨y1, h2, h⟩ := bindE h
 obtain ⟨y3, h4, h⟩ := bindE h
 refine ws (bs := []) lv60 26 [] [.call 27 [.agg (d29 x0), .agg (d35 x1)] [] (dI y1) [] [], .when [(((y1 != 0) || (decide (x2 < 0))), false)] (.len (ln (x0.Sources.map q57)) (ln x0.Sources)), .when [((((y1 != 0) || (decide (x2 < 0))) || (decide (x2 ≥ (ln x0.Sources)))), false)] (.row (x1.Sources.map q59) x2 (q59 y3))] [] 0 [0, 1] [(2, dI x2), (3, dO 0 0), (4, dO 1 0), (6, dI 0), (7, dB false), (32, dB (c60_0 x0 x2 y1 y3))] [.box 29 (d29 x0), .box 35 (d35 x1)] hC ⟨⟨e27, (k27 x0 x1 _ h2)⟩, fun hg => len_map _ _, fun hg => row_get (guardO_get h4 hg), trivial⟩ trivial ?_
 rcases boolC ((c60_0 x0 x2 y1 y3)) with h5 | h5
 ·replace h := condT h5 h
  replace h := sI h
  subst h
  exact wr (bs := [((c60_0 x0 x2 y1 y3), true)]) lv60 24 [true] [] [] [.tmp 6, .tmp 7] 0 [] hC trivial ⟨h5, trivial⟩
 ·replace h := condF h5 h
  obtain ⟨y6, h7, h⟩ := bindE h
  obtain ⟨y8, h9, h⟩ := bindE h
  obtain ⟨y10, h11, h⟩ := bindE h
  refine ws (bs := [((c60_0 x0 x2 y1 y3), false)]) lv60 28 [false] [.call 79 [.agg (d29 x0), dI 2, dI x2] [] (dS 0) [.sl 3 1 (y6.map pI)] [], .row (y6.map pI) 0 (pI y8), .row (y6.map pI) ((0 : Nat) : Int) (pI y8), .row (x1.Closed.map pB) y8 (pB y10)] [] 0 [0] [(3, dO 0 0), (6, dI 0), (7, dB false), (8, dI y8), (43, dB (!y10))] [.box 29 (d29 x0)] hC ⟨⟨e79, (k79 x0 2 x2 _ h7)⟩, row_get h9, row_getN h9, row_get h11, trivial⟩ ⟨h5, trivial⟩ ?_
  rcases boolC (!y10) with h12 | h12
  ·replace h := condT h12 h
   replace h := sI h
   subst h
   exact wr (bs := [(!y10, true)]) lv60 24 [true] [] [] [.tmp 6, .tmp 7] 0 [] hC trivial ⟨h12, trivial⟩
  ·replace h := condF h12 h
   obtain ⟨y13, h14, h⟩ := bindE h
   replace h := sI h
   subst h
   exact wr (bs := [(!y10, false)]) lv60 25 [false] [.row (x0.Breakers.map q66) y8 (q66 y13)] [] [.tmp 6, .tmp 7] 0 [] hC ⟨row_get h14, trivial⟩ ⟨h12, trivial⟩
theorem e60 : Enters Tryz.prog 60 := en Tryz.func60
def lv32 : List Nat := [0, 1, 2, 3, 4, 6, 7, 9, 24, 27, 28, 29, 30, 37]
def st32_0 (y4 : (List Int)) (n0 : Nat) (z0 : Unit) : St := [(3, dO 0 0), (4, dO 1 0), (6, dI 0), (7, dB false), (27, dS 2), (28, dI (ln y4)), (29, dI (cnt 0 n0))]
def R32_0 (x0 : api_Board) (x1 : api_Power) (y4 : (List Int)) (n0 : Nat) (z0 : Unit) : List Res := [.box 29 (d29 x0), .box 35 (d35 x1), .sl 3 1 (y4.map pI)]
def sa32_0  (z0 : Unit) : St := [(6, dI 0), (7, dB false)]
def Ra32_0  (z0 : Unit) : List Res := []
theorem k32 (x0 : api_Board) (x1 : api_Power) (x2 : Int) (r : Int × Bool) (h : F32 x0 x1 x2 = some r) : CallOk Tryz.prog 32 [.agg (d29 x0), .agg (d35 x1), .d (I x2)] [] (.tup [.d (I r.1), .d (Bo r.2)]) [] := by
 unfold F32 at h
 refine callOk_of 45 Tryz.func32 rfl rfl rfl fun C hC => ?_
 obtain ⟨y1, h2, h⟩ := bindE h
 refine ws (bs := []) lv32 26 [] [.call 27 [.agg (d29 x0), .agg (d35 x1)] [] (dI y1) [] [], .when [(((y1 != 0) || (decide (x2 < 0))), false)] (.len (ln (x0.Consumers.map q108)) (ln x0.Consumers))] [] 0 [0, 1] [(2, dI x2), (3, dO 0 0), (4, dO 1 0), (6, dI 0), (7, dB false), (24, dB (c32_0 x0 x2 y1))] [.box 29 (d29 x0), .box 35 (d35 x1)] hC ⟨⟨e27, (k27 x0 x1 _ h2)⟩, fun hg => len_map _ _, trivial⟩ trivial ?_
 rcases boolC ((c32_0 x0 x2 y1)) with h3 | h3
 ·replace h := condT h3 h
  replace h := sI h
  subst h
  exact wr (bs := [((c32_0 x0 x2 y1), true)]) lv32 24 [true] [] [] [.tmp 6, .tmp 7] 0 [] hC trivial ⟨h3, trivial⟩
 ·replace h := condF h3 h
  obtain ⟨y4, h5, h⟩ := bindE h
  refine ws (bs := [((c32_0 x0 x2 y1), false)]) lv32 26 [false] [.call 79 [.agg (d29 x0), dI 3, dI x2] [] (dS 0) [.sl 3 1 (y4.map pI)] [], .len (ln (y4.map pI)) (ln y4)] [] 0 n3_ (st32_0 y4 0 ()) (R32_0 x0 x1 y4 0 ()) hC ⟨⟨e79, (k79 x0 3 x2 _ h5)⟩, len_map _ _, trivial⟩ ⟨h3, trivial⟩ ?_
  obtain ⟨w0, hm0, hret0, hnext0⟩ := andThen_inv h
  clear h
  refine WI_cut (by kernel_rfl) (fun s => w0 = .next s) (sa32_0) (Ra32_0) ?_ fun z0 hs0 => ?_
  ·refine WI_blk (by kernel_rfl) ?_
   refine WI_lenO 27 2 rfl rfl fun hl0 => ?_
   refine WI_foldI (by kernel_rfl) (F32_l0 x0 x1) (st32_0 y4) (R32_0 x0 x1 y4) w0 y4 () hm0 rfl rfl (fun z0 hn0 => ?_) fun n0 a0 z0 w0b hi0 hx0 h hb0 hr0 => ?_
   ·clear hm0
    exact we (bs := [(decide ((cnt 0 y4.length) < (ln y4)), false)]) (φ := fun s' => w0 = .next s') (st' := (sa32_0)) (R' := (Ra32_0)) lv32 26 [false] [] [] 0 [] () hC trivial ⟨(cnt_end hl0), trivial⟩ hn0
   ·unfold F32_l0 at h
    obtain ⟨y6, h7, h⟩ := bindE h
    rcases boolC (y6) with h8 | h8
    ·replace h := condT h8 h
     obtain ⟨y9, h10, h⟩ := bindE h
     have hq := hret0 _ (hr0 _ (sI h).symm)
     replace hq := sI hq
     subst hq
     exact wr (bs := [(decide ((cnt 0 n0) < (ln y4)), true), (y6, true)]) lv32 35 [true, true] [.row (y4.map pI) (cnt 0 n0) (pI a0), .row (y4.map pI) (((Int.toNat (cnt 0 n0)) : Nat) : Int) (pI a0), .row (x1.Closed.map pB) a0 (pB y6), .row (x0.Breakers.map q66) a0 (q66 y9)] [] [.tmp 6, .tmp 7] 0 [] hC ⟨row_get (get_cnt hx0 hl0), row_getN (get_cnt hx0 hl0), row_get h7, row_get h10, trivial⟩ ⟨(cnt_lt hi0 hl0), h8, trivial⟩
    ·replace h := condF h8 h
     exact we (bs := [(decide ((cnt 0 n0) < (ln y4)), true), (y6, false)]) (φ := fun s' => w0b = .next s') (st' := (st32_0 y4 (n0 + 1))) (R' := (R32_0 x0 x1 y4 (n0 + 1))) lv32 36 [true, false] [.row (y4.map pI) (cnt 0 n0) (pI a0), .row (y4.map pI) (((Int.toNat (cnt 0 n0)) : Nat) : Int) (pI a0), .row (x1.Closed.map pB) a0 (pB y6)] [] 0 n3_ () hC ⟨row_get (get_cnt hx0 hl0), row_getN (get_cnt hx0 hl0), row_get h7, trivial⟩ ⟨(cnt_lt hi0 hl0), h8, trivial⟩ (sI h).symm
  ·have h := hnext0 _ hs0
   replace h := sI h
   subst h
   exact wr (bs := []) lv32 23 [] [] [] [.tmp 6, .tmp 7] 0 [] hC trivial trivial
theorem e32 : Enters Tryz.prog 32 := en Tryz.func32
def lv211s0 : List Nat := [0, 1, 4, 5, 7, 8, 9, 16]
def st211s0_0 (x0 : List api_Running) (n0 : Nat) (z0 : Unit) : St := [(0, .d (DS q59 x0)), (1, .d (.fn (.func 130) [] [])), (4, dI 0), (7, dI (ln x0)), (8, dI (cnt 0 n0))]
def R211s0_0  (n0 : Nat) (z0 : Unit) : List Res := []
def sa211s0_0  (z0 : Unit) : St := [(4, dI 0)]
def Ra211s0_0  (z0 : Unit) : List Res := []
theorem k211s0 (x0 : List api_Running) (r : Int) (h : F211s0 x0 = some r) : CallOk Tryz.prog 211 [.d (DS q59 x0), .d (.fn (.func 130) [] [])] [] (.d (I r)) [] := by
 unfold F211s0 at h
 refine callOk_of 19 Tryz.func211 rfl rfl rfl fun C hC => ?_
 refine ws (bs := []) lv211s0 26 [] [.len (ln (x0.map q59)) (ln x0)] [] 0 [] (st211s0_0 x0 0 ()) (R211s0_0 0 ()) hC ⟨len_map _ _, trivial⟩ trivial ?_
 obtain ⟨w0, hm0, hret0, hnext0⟩ := andThen_inv h
 clear h
 refine WI_cut (by kernel_rfl) (fun s => w0 = .next s) (sa211s0_0) (Ra211s0_0) ?_ fun z0 hs0 => ?_
 ·refine WI_blk (by kernel_rfl) ?_
  refine WI_len 0 rfl fun hl0 => ?_
  refine WI_foldI (by kernel_rfl) F211s0_l0 (st211s0_0 x0) (R211s0_0) w0 x0 () hm0 rfl rfl (fun z0 hn0 => ?_) fun n0 a0 z0 w0b hi0 hx0 h hb0 hr0 => ?_
  ·clear hm0
   exact we (bs := [(decide ((cnt 0 x0.length) < (ln x0)), false)]) (φ := fun s' => w0 = .next s') (st' := (sa211s0_0)) (R' := (Ra211s0_0)) lv211s0 26 [false] [] [] 0 [] () hC trivial ⟨(cnt_end hl0), trivial⟩ hn0
  ·unfold F211s0_l0 at h
   refine ws (bs := [(decide ((cnt 0 n0) < (ln x0)), true)]) lv211s0 32 [true] [.row (x0.map q59) (cnt 0 n0) (q59 a0), .call 130 [.agg (d59 a0)] [] (dB (F130 a0)) [] []] [] 0 [] [(0, .d (DS q59 x0)), (1, .d (.fn (.func 130) [] [])), (4, dI 0), (5, dI (cnt 0 n0)), (7, dI (ln x0)), (8, dI (cnt 0 n0)), (16, dB (F130 a0))] [] hC ⟨(row_cnt hx0 hl0), ⟨e130, (k130 a0 _ rfl)⟩, trivial⟩ ⟨(cnt_lt hi0 hl0), trivial⟩ ?_
   rcases boolC (F130 a0) with h1 | h1
   ·replace h := condT h1 h
    have hq := hret0 _ (hr0 _ (sI h).symm)
    replace hq := sI hq
    subst hq
    exact wr (bs := [(F130 a0, true)]) lv211s0 24 [true] [] [] [.tmp 4] 0 [] hC trivial ⟨h1, trivial⟩
   ·replace h := condF h1 h
    exact we (bs := [(F130 a0, false)]) (φ := fun s' => w0b = .next s') (st' := (st211s0_0 x0 (n0 + 1))) (R' := (R211s0_0 (n0 + 1))) lv211s0 25 [false] [] [] 0 [] () hC trivial ⟨h1, trivial⟩ (sI h).symm
 ·have h := hnext0 _ hs0
  replace h := sI h
  subst h
  exact wr (bs := []) lv211s0 23 [] [] [] [.tmp 4] 0 [] hC trivial trivial
theorem e211s0 : Enters Tryz.prog 211 := en Tryz.func211
theorem k216s0 (x0 : restore_worker) (x1 : Int) (r : Bool) (h : F216s0 x0 x1 = some r) : CallOk Tryz.prog 216 [.d (.ip [.v (.int .i64 x0.board.Buses), .s (x0.board.Breakers.map q66), .s (x0.board.Sources.map q57), .s (x0.board.Consumers.map q108), .v (.int .i64 x0.board.Phase), .v (.int .i64 x0.board.Frequency), .s (x0.power.Closed.map pB), .s (x0.power.Sources.map q59), .s (x0.power.Limits.map pI), .s (x0.power.Broken.map q119), .v (.int .i64 x0.time)]), .d (I x1)] [] (.d (Bo r)) [] := by
 unfold F216s0 at h
 refine callOk_of 19 Tryz.func216 rfl rfl rfl fun C hC => ?_
 obtain ⟨y1, h2, h⟩ := bindE h
 obtain ⟨y3, h4, h⟩ := bindE h
 replace h := sI h
 subst h
 exact wr (bs := []) [0, 1, 4] 25 [] [.call 67 [.agg (d29 x0.board), dI x1] [] (dI y1) [] [], .row (x0.power.Closed.map pB) y1 (pB y3)] [] [.tmp 4] 0 [] hC ⟨⟨e67, (k67 x0.board x1 _ h2)⟩, row_get h4, trivial⟩ trivial
theorem e216s0 : Enters Tryz.prog 216 := en Tryz.func216
theorem k256s0 (x0 : Int) (x1 : Int) (x2 : shed_relief) (r : Bool × shed_relief) (h : F256s0 x0 x1 x2 = some r) : CallOk Tryz.prog 256 [.d (I x0), .d (I x1), .d (.o 0 0)] (.box 198 [.o 1 0] :: .box 244 (zb x2.board [.os 2, .os 3, .os 4, .os 5, .os 6]) :: zp x2.power [.sl 42 3 (x2.acts.map q42)]) (.d (Bo r.1)) (.box 198 [.o 1 0] :: .box 244 (zb r.2.board [.os 2, .os 3, .os 4, .os 5, .os 6]) :: zp r.2.power [.sl 42 3 (r.2.acts.map q42)]) := by
 unfold F256s0 at h
 refine callOk_of 13 Tryz.func256 rfl rfl rfl fun C hC => ?_
 obtain ⟨y1, h2, h⟩ := bindE h
 replace h := sI h
 subst h
 exact wr (bs := []) [0, 1, 2, 5] 25 [] [.callB 134 [.agg (d35 x2.power), dI x0, dI x1] (dB y1) [[]] 0 []] [] [.tmp 5] 7 n7_ hC ⟨lend0_get ⟨e134, (k134 x2.power x0 x1 _ h2)⟩, trivial⟩ trivial
theorem e256s0 : Enters Tryz.prog 256 := en Tryz.func256
def lv243s1 : List Nat := [0, 1, 4, 5, 7, 8, 9, 16]
def st243s1_0 (x0 : List Int) (n0 : Nat) (z0 : Unit) : St := [(0, dS 0), (1, .d (.fn (.func 226) [] [.o 1 0])), (4, dI 0), (7, dI (ln x0)), (8, dI (cnt 0 n0))]
def R243s1_0 (x0 : List Int) (x1c0 : api_Island) (n0 : Nat) (z0 : Unit) : List Res := [.sl 3 1 (x0.map pI), .box 78 (d78 x1c0)]
def sa243s1_0  (z0 : Unit) : St := [(4, dI 0)]
def Ra243s1_0 (x0 : List Int) (x1c0 : api_Island) (z0 : Unit) : List Res := [.sl 3 1 (x0.map pI), .box 78 (d78 x1c0)]
theorem k243s1 (x0 : List Int) (x1c0 : api_Island) (r : Int × api_Island) (h : F243s1 x0 x1c0 = some r) : CallOk Tryz.prog 243 [.d (.os 0), .d (.fn (.func 226) [] [.o 1 0])] [.sl 3 1 (x0.map pI), .box 78 (d78 x1c0)] (.d (I r.1)) [.sl 3 1 (x0.map pI), .box 78 (d78 r.2)] := by
 unfold F243s1 at h
 refine callOk_of 19 Tryz.func243 rfl rfl rfl fun C hC => ?_
 refine ws (bs := []) lv243s1 26 [] [.len (ln (x0.map pI)) (ln x0)] [] 2 [0, 1] (st243s1_0 x0 0 ()) (R243s1_0 x0 x1c0 0 ()) hC ⟨len_map _ _, trivial⟩ trivial ?_
 obtain ⟨w0, hm0, hret0, hnext0⟩ := andThen_inv h
 clear h
 refine WI_cut (by kernel_rfl) (fun s => w0 = .next s) (sa243s1_0) (Ra243s1_0 x0 x1c0) ?_ fun z0 hs0 => ?_
 ·refine WI_blk (by kernel_rfl) ?_
  refine WI_lenO 0 0 rfl rfl fun hl0 => ?_
  refine WI_foldI (by kernel_rfl) (F243s1_l0 x1c0) (st243s1_0 x0) (R243s1_0 x0 x1c0) w0 x0 () hm0 rfl rfl (fun z0 hn0 => ?_) fun n0 a0 z0 w0b hi0 hx0 h hb0 hr0 => ?_
  ·clear hm0
   exact we (bs := [(decide ((cnt 0 x0.length) < (ln x0)), false)]) (φ := fun s' => w0 = .next s') (st' := (sa243s1_0)) (R' := (Ra243s1_0 x0 x1c0)) lv243s1 26 [false] [] [] 2 [0, 1] () hC trivial ⟨(cnt_end hl0), trivial⟩ hn0
  ·unfold F243s1_l0 at h
   obtain ⟨y1, h2, h⟩ := bindE h
   refine ws (bs := [(decide ((cnt 0 n0) < (ln x0)), true)]) lv243s1 32 [true] [.row (x0.map pI) (cnt 0 n0) (pI a0), .row (x0.map pI) (((Int.toNat (cnt 0 n0)) : Nat) : Int) (pI a0), .callB 226 [dI a0, .d (.ip [.s (x1c0.Buses.map pI), .s (x1c0.Sources.map pI), .s (x1c0.Consumers.map pI)])] (dB y1) [[]] 0 []] [] 2 [0, 1] [(0, dS 0), (1, .d (.fn (.func 226) [] [.o 1 0])), (4, dI 0), (5, dI (cnt 0 n0)), (7, dI (ln x0)), (8, dI (cnt 0 n0)), (16, dB y1)] [.sl 3 1 (x0.map pI), .box 78 (d78 x1c0)] hC ⟨row_get (get_cnt hx0 hl0), row_getN (get_cnt hx0 hl0), lend0_get ⟨e226s0, (k226s0 a0 x1c0 _ h2)⟩, trivial⟩ ⟨(cnt_lt hi0 hl0), trivial⟩ ?_
   rcases boolC (y1) with h3 | h3
   ·replace h := condT h3 h
    have hq := hret0 _ (hr0 _ (sI h).symm)
    replace hq := sI hq
    subst hq
    exact wr (bs := [(y1, true)]) lv243s1 24 [true] [] [] [.tmp 4] 2 [0, 1] hC trivial ⟨h3, trivial⟩
   ·replace h := condF h3 h
    exact we (bs := [(y1, false)]) (φ := fun s' => w0b = .next s') (st' := (st243s1_0 x0 (n0 + 1))) (R' := (R243s1_0 x0 x1c0 (n0 + 1))) lv243s1 25 [false] [] [] 2 [0, 1] () hC trivial ⟨h3, trivial⟩ (sI h).symm
 ·have h := hnext0 _ hs0
  replace h := sI h
  subst h
  exact wr (bs := []) lv243s1 23 [] [] [] [.tmp 4] 2 [0, 1] hC trivial trivial
theorem e243s1 : Enters Tryz.prog 243 := en Tryz.func243
theorem k68 (x0 : api_Board) (x1 : api_Power) (x2 : Int) (r : Bool) (h : F68 x0 x1 x2 = some r) : CallOk Tryz.prog 68 [.agg (d29 x0), .agg (d35 x1), .d (I x2)] [] (.d (Bo r)) [] := by
 unfold F68 at h
 refine callOk_of 36 Tryz.func68 rfl rfl rfl fun C hC => ?_
 obtain ⟨y1, h2, h⟩ := bindE h
 obtain ⟨y3, h4, h⟩ := bindE h
 obtain ⟨y5, h6, h⟩ := bindE h
 obtain ⟨y7, h8, h⟩ := bindE h
 replace h := sI h
 subst h
 exact wr (bs := []) [0, 1, 2, 3, 4, 6, 7] 27 [] [.row (x0.Breakers.map q66) x2 (q66 y1), .call 134 [.agg (d35 x1), dI 2, dI x2] [] (dB y3) [] [], .when [(!y3, true)] (.call 134 [.agg (d35 x1), dI 3, dI y1.A] [] (dB y5) [] []), .when [(((!y3) && (!y5)), true), ((y1.Kind != 1), false)] (.call 134 [.agg (d35 x1), dI 3, dI y1.B] [] (dB y7) [] [])] [] [.tmp 6] 0 [] hC ⟨row_get h2, ⟨e134, (k134 x1 2 x2 _ h4)⟩, fun hg => ⟨e134, (k134 x1 3 y1.A _ (guardO_get h6 hg))⟩, fun hg => ⟨e134, (k134 x1 3 y1.B _ (guardO_get h8 hg))⟩, trivial⟩ trivial
theorem e68 : Enters Tryz.prog 68 := en Tryz.func68
def lv24s1 : List Nat := [0, 1, 2, 4, 6, 7, 8, 14]
def st24s1_0  (z0 : Int × (List Int) × Int × (List api_Act)) : St := [(0, dO 0 0), (4, dO 4 0), (6, .d (DS q42 [])), (7, dS 5), (8, dI z0.1)]
def R24s1_0 (x1 : api_Board) (z0 : Int × (List Int) × Int × (List api_Act)) : List Res := (.box 121 [DS pI z0.2.1, I z0.2.2.1] :: zs x1 [.box 29 [I x1.Buses, .os 1, .os 2, .os 3, I x1.Phase, I x1.Frequency], .sl 42 3 (z0.2.2.2.map q42)])
def sa24s1_0  (z0 : Int × (List Int) × Int × (List api_Act)) : St := [(6, .d (DS q42 [])), (7, dS 4)]
def Ra24s1_0 (x1 : api_Board) (z0 : Int × (List Int) × Int × (List api_Act)) : List Res := (.box 121 [DS pI z0.2.1, I z0.2.2.1] :: zs x1 [.sl 42 3 (z0.2.2.2.map q42)])
theorem k24s1 (x0 : dynposmake_Src) (x1 : api_Board) (x2 : Int) (r : (List api_Act) × dynposmake_Src) (h : F24s1 x0 x1 x2 = some r) : CallOk Tryz.prog 24 [.d (.o 0 0), .agg [I x1.Buses, .os 1, .os 2, .os 3, I x1.Phase, I x1.Frequency], .d (I x2)] (.box 121 (d121 x0) :: zs x1 []) (.d (.os 4)) (.box 121 (d121 r.2) :: zs x1 [.sl 42 3 (r.1.map q42)]) := by
 unfold F24s1 at h
 refine callOk_of 24 Tryz.func24 rfl rfl rfl fun C hC => ?_
 obtain ⟨y1, h2, h⟩ := bindE h
 refine ws (bs := []) lv24s1 28 [] [.call 63 [dO 0 0, dI (w64 (x2 + 1))] [.box 121 (d121 x0)] (dI y1.1) [.box 121 (d121 y1.2)] [0]] [.own 7 42 3] 4 n6_ (st24s1_0 (y1.1, y1.2.L, y1.2.At, ([] : List api_Act))) (R24s1_0 x1 (y1.1, y1.2.L, y1.2.At, ([] : List api_Act))) hC ⟨⟨e63, (k63 x0 (w64 (x2 + 1)) _ h2)⟩, trivial⟩ trivial ?_
 obtain ⟨w0, hm0, hret0, hnext0⟩ := andThen_inv h
 clear h
 refine WI_cut (by kernel_rfl) (fun s => w0 = .next s) (sa24s1_0) (Ra24s1_0 x1) ?_ fun z0 hs0 => ?_
 ·refine WI_blk (by kernel_rfl) ?_
  refine WI_while (by kernel_rfl) (F24s1_l0 x1) (st24s1_0) (R24s1_0 x1) w0 1152921504606846976 (y1.1, y1.2.L, y1.2.At, ([] : List api_Act)) hm0 rfl rfl fun z0 w0b h hb0 hr0 => ?_
  unfold F24s1_l0 at h
  rcases boolC (decide (z0.1 > 0)) with h3 | h3
  ·replace h := condT h3 h
   obtain ⟨y4, h5, h⟩ := bindE h
   obtain ⟨y6, h7, h⟩ := bindE h
   exact we (bs := [(decide (z0.1 > 0), true)]) (φ := fun s' => w0b = .next s') (st' := (st24s1_0)) (R' := (R24s1_0 x1)) lv24s1 31 [true] [.call 74 [dO 0 0, .agg [I x1.Buses, .os 1, .os 2, .os 3, I x1.Phase, I x1.Frequency]] (.box 121 [DS pI z0.2.1, I z0.2.2.1] :: zs x1 []) (.agg (d42 y4.1)) (.box 121 (d121 y4.2) :: zs x1 []) n4_, .app (z0.2.2.2.map q42) ([y4.1].map q42) 3 (((z0.2.2.2.map q42).length + ([y4.1].map q42).length) * (24 + 1)) (y6.map q42)] [] 4 [0, 1, 2, 3, 4, 6] (w64 (z0.1 - 1), y4.2.L, y4.2.At, y6) hC ⟨⟨e74s1, (k74s1 (⟨z0.2.1, z0.2.2.1⟩ : dynposmake_Src) x1 _ h5)⟩, app_get q42 3 (fun _ => rfl) h7, trivial⟩ ⟨h3, trivial⟩ (sI h).symm
  ·replace h := condF h3 h
   exact we (bs := [(decide (z0.1 > 0), false)]) (φ := fun s' => w0 = .next s') (st' := (sa24s1_0)) (R' := (Ra24s1_0 x1)) lv24s1 26 [false] [] [] 4 [0, 1, 2, 3, 5] (z0.1, z0.2.1, z0.2.2.1, z0.2.2.2) hC trivial ⟨h3, trivial⟩ (hb0 _ (sI h).symm)
 ·have h := hnext0 _ hs0
  replace h := sI h
  subst h
  exact wr (bs := []) lv24s1 23 [] [] [] [.tmp 6] 4 n5_ hC trivial trivial
theorem e24s1 : Enters Tryz.prog 24 := en Tryz.func24
def lv92 : List Nat := [0, 1, 2, 3, 5, 6, 7, 29, 43, 44, 45, 46, 56, 57, 58, 59, 71]
def st92_0 (x0 : api_Board) (n0 : Nat) (z0 : Bool) : St := [(1, dO 0 0), (2, dI 0), (3, dB z0), (43, .d (DS q57 x0.Sources)), (44, dI (ln x0.Sources)), (45, dI (cnt 0 n0))]
def R92_0 (x0 : api_Board) (n0 : Nat) (z0 : Bool) : List Res := [.box 29 (d29 x0)]
def sa92_0  (z0 : Bool) : St := [(1, dO 0 0), (2, dI 0), (3, dB z0)]
def Ra92_0 (x0 : api_Board) (z0 : Bool) : List Res := [.box 29 (d29 x0)]
def st92_1 (x0 : api_Board) (n1 : Nat) (z1 : Bool) : St := [(2, dI 0), (3, dB z1), (56, .d (DS q108 x0.Consumers)), (57, dI (ln x0.Consumers)), (58, dI (cnt 0 n1))]
def R92_1  (n1 : Nat) (z1 : Bool) : List Res := []
def sa92_1  (z1 : Bool) : St := [(2, dI 0), (3, dB z1)]
def Ra92_1  (z1 : Bool) : List Res := []
theorem k92 (x0 : api_Board) (r : Int) (h : F92 x0 = some r) : CallOk Tryz.prog 92 [.agg (d29 x0)] [] (.d (I r)) [] := by
 unfold F92 at h
 refine callOk_of 72 Tryz.func92 rfl rfl rfl fun C hC => ?_
 refine ws (bs := []) lv92 26 [] [.call 132 [dI x0.Buses, dI 1, dI 6] [] (dB (F132 x0.Buses 1 6)) [] [], .when [(!(F132 x0.Buses 1 6), false)] (.len (ln (x0.Breakers.map q66)) (ln x0.Breakers)), .when [(((!(F132 x0.Buses 1 6)) || (decide ((ln x0.Breakers) > 24))), false)] (.len (ln (x0.Sources.map q57)) (ln x0.Sources)), .when [((((!(F132 x0.Buses 1 6)) || (decide ((ln x0.Breakers) > 24))) || (decide ((ln x0.Sources) > 8))), false)] (.len (ln (x0.Consumers.map q108)) (ln x0.Consumers))] [] 0 [0] [(1, dO 0 0), (2, dI 0), (29, dB (c92_0 x0))] [.box 29 (d29 x0)] hC ⟨⟨e132, (k132 x0.Buses 1 6 _ rfl)⟩, fun hg => len_map _ _, fun hg => len_map _ _, fun hg => len_map _ _, trivial⟩ trivial ?_
 rcases boolC ((c92_0 x0)) with h1 | h1
 ·replace h := condT h1 h
  replace h := sI h
  subst h
  exact wr (bs := [((c92_0 x0), true)]) lv92 24 [true] [] [] [.tmp 2] 0 [] hC trivial ⟨h1, trivial⟩
 ·replace h := condF h1 h
  obtain ⟨y2, h3, h⟩ := bindE h
  refine ws (bs := [((c92_0 x0), false)]) lv92 28 [false] [.call 172 [.agg (d29 x0)] [] (dB y2) [] [], .when [(y2, true)] (.call 132 [dI x0.Phase, dI 0, dI 1800] [] (dB (F132 x0.Phase 0 1800)) [] []), .when [((y2 && (F132 x0.Phase 0 1800)), true)] (.call 132 [dI x0.Frequency, dI 0, dI 6000] [] (dB (F132 x0.Frequency 0 6000)) [] []), .len (ln (x0.Sources.map q57)) (ln x0.Sources)] [] 0 [0] (st92_0 x0 0 ((y2 && (F132 x0.Phase 0 1800)) && (F132 x0.Frequency 0 6000))) (R92_0 x0 0 ((y2 && (F132 x0.Phase 0 1800)) && (F132 x0.Frequency 0 6000))) hC ⟨⟨e172, (k172 x0 _ h3)⟩, fun hg => ⟨e132, (k132 x0.Phase 0 1800 _ rfl)⟩, fun hg => ⟨e132, (k132 x0.Frequency 0 6000 _ rfl)⟩, len_map _ _, trivial⟩ ⟨h1, trivial⟩ ?_
  obtain ⟨w0, hm0, hret0, hnext0⟩ := andThen_inv h
  clear h
  refine WI_cut (by kernel_rfl) (fun s => w0 = .next s) (sa92_0) (Ra92_0 x0) ?_ fun z0 hs0 => ?_
  ·refine WI_blk (by kernel_rfl) ?_
   refine WI_len 43 rfl fun hl0 => ?_
   refine WI_foldI (by kernel_rfl) F92_l0 (st92_0 x0) (R92_0 x0) w0 x0.Sources ((y2 && (F132 x0.Phase 0 1800)) && (F132 x0.Frequency 0 6000)) hm0 rfl rfl (fun z0 hn0 => ?_) fun n0 a0 z0 w0b hi0 hx0 h hb0 hr0 => ?_
   ·clear hm0
    exact we (bs := [(decide ((cnt 0 x0.Sources.length) < (ln x0.Sources)), false)]) (φ := fun s' => w0 = .next s') (st' := (sa92_0)) (R' := (Ra92_0 x0)) lv92 26 [false] [] [] 0 [0] z0 hC trivial ⟨(cnt_end hl0), trivial⟩ hn0
   ·unfold F92_l0 at h
    exact we (bs := [(decide ((cnt 0 n0) < (ln x0.Sources)), true)]) (φ := fun s' => w0b = .next s') (st' := (st92_0 x0 (n0 + 1))) (R' := (R92_0 x0 (n0 + 1))) lv92 33 [true] [.row (x0.Sources.map q57) (cnt 0 n0) (q57 a0), .when [(z0, true)] (.call 173 [.agg (d57 a0)] [] (dB (F173 a0)) [] [])] [] 0 [0] (z0 && (F173 a0)) hC ⟨(row_cnt hx0 hl0), fun hg => ⟨e173, (k173 a0 _ rfl)⟩, trivial⟩ ⟨(cnt_lt hi0 hl0), trivial⟩ (sI h).symm
  ·have h := hnext0 _ hs0
   refine ws (bs := []) lv92 24 [] [.len (ln (x0.Consumers.map q108)) (ln x0.Consumers)] [] 0 [] (st92_1 x0 0 z0) (R92_1 0 z0) hC ⟨len_map _ _, trivial⟩ trivial ?_
   obtain ⟨w1, hm1, hret1, hnext1⟩ := andThen_inv h
   clear h
   refine WI_cut (by kernel_rfl) (fun s => w1 = .next s) (sa92_1) (Ra92_1) ?_ fun z1 hs1 => ?_
   ·refine WI_blk (by kernel_rfl) ?_
    refine WI_len 56 rfl fun hl1 => ?_
    refine WI_foldI (by kernel_rfl) F92_l1 (st92_1 x0) (R92_1) w1 x0.Consumers z0 hm1 rfl rfl (fun z1 hn1 => ?_) fun n1 a1 z1 w1b hi1 hx1 h hb1 hr1 => ?_
    ·clear hm1
     exact we (bs := [(decide ((cnt 0 x0.Consumers.length) < (ln x0.Consumers)), false)]) (φ := fun s' => w1 = .next s') (st' := (sa92_1)) (R' := (Ra92_1)) lv92 26 [false] [] [] 0 [] z1 hC trivial ⟨(cnt_end hl1), trivial⟩ hn1
    ·unfold F92_l1 at h
     obtain ⟨y4, h5, h⟩ := bindE h
     exact we (bs := [(decide ((cnt 0 n1) < (ln x0.Consumers)), true)]) (φ := fun s' => w1b = .next s') (st' := (st92_1 x0 (n1 + 1))) (R' := (R92_1 (n1 + 1))) lv92 33 [true] [.row (x0.Consumers.map q108) (cnt 0 n1) (q108 a1), .when [(z1, true)] (.call 174 [.agg (d108 a1), dI (cnt 0 n1)] [] (dB y4) [] [])] [] 0 [] (z1 && y4) hC ⟨(row_cnt hx1 hl1), fun hg => ⟨e174, (k174 a1 (cnt 0 n1) _ (guardO_get h5 hg))⟩, trivial⟩ ⟨(cnt_lt hi1 hl1), trivial⟩ (sI h).symm
   ·have h := hnext1 _ hs1
    rcases boolC (!z1) with h6 | h6
    ·replace h := condT h6 h
     replace h := sI h
     subst h
     exact wr (bs := [(!z1, true)]) lv92 27 [true] [] [] [.tmp 2] 0 [] hC trivial ⟨h6, trivial⟩
    ·replace h := condF h6 h
     replace h := sI h
     subst h
     exact wr (bs := [(!z1, false)]) lv92 28 [false] [] [] [.tmp 2] 0 [] hC trivial ⟨h6, trivial⟩
theorem e92 : Enters Tryz.prog 92 := en Tryz.func92
theorem k129s0 (x0 : List api_Running) (r : Bool) (h : F129s0 x0 = some r) : CallOk Tryz.prog 129 [.d (DS q59 x0), .d (.fn (.func 130) [] [])] [] (.d (Bo r)) [] := by
 unfold F129s0 at h
 refine callOk_of 9 Tryz.func129 rfl rfl rfl fun C hC => ?_
 obtain ⟨y1, h2, h⟩ := bindE h
 replace h := sI h
 subst h
 exact wr (bs := []) [0, 1, 4] 25 [] [.call 211 [.d (DS q59 x0), .d (.fn (.func 130) [] [])] [] (dI y1) [] []] [] [.tmp 4] 0 [] hC ⟨⟨e211s0, (k211s0 x0 _ h2)⟩, trivial⟩ trivial
theorem e129s0 : Enters Tryz.prog 129 := en Tryz.func129
theorem k145s1 (x0 : restore_worker) (x1 : Int) (r : Int × restore_worker) (h : F145s1 x0 x1 = some r) : CallOk Tryz.prog 145 [.d (.o 0 0), .d (I x1)] (.box 130 (zb x0.board [.os 1, .os 2, .os 3, .os 4, I x0.time]) :: zp x0.power []) (.d (I r.1)) (.box 130 (zb r.2.board [.os 1, .os 2, .os 3, .os 4, I r.2.time]) :: zp r.2.power []) := by
 unfold F145s1 at h
 refine callOk_of 53 Tryz.func145 rfl rfl rfl fun C hC => ?_
 obtain ⟨y1, h2, h⟩ := bindE h
 obtain ⟨y3, h4, h⟩ := bindE h
 refine ws (bs := []) [0, 1, 4, 5, 23, 43] 26 [] [.row (x0.power.Sources.map q59) x1 (q59 y1), .row (x0.power.Sources.map q59) (((Int.toNat x1) : Nat) : Int) (q59 y1), .when [((y1.State != 0), false)] (.callB 134 [.agg (d35 x0.power), dI 1, dI x1] (dB y3) [[]] 0 [])] [] 5 n5_ [(0, dO 0 0), (1, dI x1), (4, dI 0), (23, dB ((y1.State != 0) || y3))] (.box 130 (zb x0.board [.os 1, .os 2, .os 3, .os 4, I x0.time]) :: zp x0.power []) hC ⟨row_get h2, row_getN h2, fun hg => lend0_get ⟨e134, (k134 x0.power 1 x1 _ (guardO_get h4 hg))⟩, trivial⟩ trivial ?_
 rcases boolC (((y1.State != 0) || y3)) with h5 | h5
 ·replace h := condT h5 h
  replace h := sI h
  subst h
  exact wr (bs := [(((y1.State != 0) || y3), true)]) [0, 1, 4, 5, 23, 43] 24 [true] [] [] [.tmp 4] 5 n5_ hC trivial ⟨h5, trivial⟩
 ·replace h := condF h5 h
  obtain ⟨y6, h7, h⟩ := bindE h
  obtain ⟨y8, h9, h⟩ := bindE h
  refine ws (bs := [(((y1.State != 0) || y3), false)]) [0, 1, 4, 5, 23, 43] 28 [false] [.row (x0.board.Sources.map q57) x1 (q57 y6), .when [((y6.Start == 0), true)] (.callB 216 [.d (.ip [.v (.int .i64 x0.board.Buses), .s (x0.board.Breakers.map q66), .s (x0.board.Sources.map q57), .s (x0.board.Consumers.map q108), .v (.int .i64 x0.board.Phase), .v (.int .i64 x0.board.Frequency), .s (x0.power.Closed.map pB), .s (x0.power.Sources.map q59), .s (x0.power.Limits.map pI), .s (x0.power.Broken.map q119), .v (.int .i64 x0.time)]), dI x1] (dB y8) [[]] 0 [])] [] 5 n6_ [(0, dO 0 0), (1, dI x1), (4, dI 0), (5, dO 5 0), (43, dB ((y6.Start == 0) && y8))] (.box 130 (zb x0.board [.os 1, .os 2, .os 3, .os 4, I x0.time]) :: zp x0.power [.box 59 [I 1, I x0.time, I 5000, I 0]]) hC ⟨row_get h7, fun hg => lend0_get ⟨e216s0, (k216s0 x0 x1 _ (guardO_get h9 hg))⟩, trivial⟩ ⟨h5, trivial⟩ ?_
  rcases boolC (((y6.Start == 0) && y8)) with h10 | h10
  ·replace h := condT h10 h
   obtain ⟨y11, h12, h⟩ := bindE h
   replace h := sI h
   subst h
   exact wr (bs := [(((y6.Start == 0) && y8), true)]) [0, 1, 4, 5, 23, 43] 27 [true] [.row (x0.power.Sources.map q59) x1 (q59 y1), .upd (x0.power.Sources.map q59) (Int.toNat x1) (q59 y1) (q59 (⟨2, x0.time, 5000, 0⟩ : api_Running)) (y11.map q59)] [] [.tmp 4] 5 n5_ hC ⟨row_get h2, upd_get h2 h12, trivial⟩ ⟨h10, trivial⟩
  ·replace h := condF h10 h
   obtain ⟨y13, h14, h⟩ := bindE h
   replace h := sI h
   subst h
   exact wr (bs := [(((y6.Start == 0) && y8), false)]) [0, 1, 4, 5, 23, 43] 27 [false] [.row (x0.power.Sources.map q59) x1 (q59 y1), .upd (x0.power.Sources.map q59) (Int.toNat x1) (q59 y1) (q59 (⟨1, x0.time, 5000, 0⟩ : api_Running)) (y13.map q59)] [] [.tmp 4] 5 n5_ hC ⟨row_get h2, upd_get h2 h14, trivial⟩ ⟨h10, trivial⟩
theorem e145s1 : Enters Tryz.prog 145 := en Tryz.func145
theorem k146s1 (x0 : restore_worker) (x1 : Int) (r : Int × restore_worker) (h : F146s1 x0 x1 = some r) : CallOk Tryz.prog 146 [.d (.o 0 0), .d (I x1)] (.box 130 (zb x0.board [.os 1, .os 2, .os 3, .os 4, I x0.time]) :: zp x0.power []) (.d (I r.1)) (.box 130 (zb r.2.board [.os 1, .os 2, .os 3, .os 4, I r.2.time]) :: zp r.2.power []) := by
 unfold F146s1 at h
 refine callOk_of 34 Tryz.func146 rfl rfl rfl fun C hC => ?_
 obtain ⟨y1, h2, h⟩ := bindE h
 obtain ⟨y3, h4, h⟩ := bindE h
 refine ws (bs := []) [0, 1, 4, 5, 30] 28 [] [.row (x0.power.Sources.map q59) x1 (q59 y1), .row (x0.power.Sources.map q59) (((Int.toNat x1) : Nat) : Int) (q59 y1), .when [((y1.State != 1), true)] (.row (x0.power.Sources.map q59) (((Int.toNat x1) : Nat) : Int) (q59 y1)), .when [(((y1.State != 1) && (y1.State != 2)), false)] (.callB 216 [.d (.ip [.v (.int .i64 x0.board.Buses), .s (x0.board.Breakers.map q66), .s (x0.board.Sources.map q57), .s (x0.board.Consumers.map q108), .v (.int .i64 x0.board.Phase), .v (.int .i64 x0.board.Frequency), .s (x0.power.Closed.map pB), .s (x0.power.Sources.map q59), .s (x0.power.Limits.map pI), .s (x0.power.Broken.map q119), .v (.int .i64 x0.time)]), dI x1] (dB y3) [[]] 0 [])] [] 5 n5_ [(4, dI 0), (5, .d (.oe 2 (Int.toNat x1) 4 0)), (30, dB (c146s1_0 y1 y3))] (.box 130 (zb x0.board [.os 1, .os 2, .os 3, .os 4, I x0.time]) :: zp x0.power []) hC ⟨row_get h2, row_getN h2, fun hg => row_getN h2, fun hg => lend0_get ⟨e216s0, (k216s0 x0 x1 _ (guardO_get h4 hg))⟩, trivial⟩ trivial ?_
 rcases boolC ((c146s1_0 y1 y3)) with h5 | h5
 ·replace h := condT h5 h
  replace h := sI h
  subst h
  exact wr (bs := [((c146s1_0 y1 y3), true)]) [0, 1, 4, 5, 30] 24 [true] [] [] [.tmp 4] 5 n5_ hC trivial ⟨h5, trivial⟩
 ·replace h := condF h5 h
  obtain ⟨y6, h7, h⟩ := bindE h
  replace h := sI h
  subst h
  exact wr (bs := [((c146s1_0 y1 y3), false)]) [0, 1, 4, 5, 30] 27 [false] [.upd (x0.power.Sources.map q59) (Int.toNat x1) (q59 y1) (q59 (⟨0, y1.Since, y1.Frequency, y1.Phase⟩ : api_Running)) (y6.map q59)] [] [.tmp 4] 5 n5_ hC ⟨upd_get h2 h7, trivial⟩ ⟨h5, trivial⟩
theorem e146s1 : Enters Tryz.prog 146 := en Tryz.func146
def lv223s1 : List Nat := [0, 1, 2, 3, 4, 5, 7, 12, 20]
theorem k223s1 (x0 : shed_relief) (x1 : api_Breaker) (r : Bool × shed_relief) (h : F223s1 x0 x1 = some r) : CallOk Tryz.prog 223 [.d (.o 0 0), .agg (d66 x1)] (.box 244 (zb x0.board [.os 1, .os 2, .os 3, .os 4, .os 5]) :: zp x0.power [.sl 42 3 (x0.acts.map q42)]) (.d (Bo r.1)) (.box 244 (zb r.2.board [.os 1, .os 2, .os 3, .os 4, .os 5]) :: zp r.2.power [.sl 42 3 (r.2.acts.map q42)]) := by
 unfold F223s1 at h
 refine callOk_of 45 Tryz.func223 rfl rfl rfl fun C hC => ?_
 obtain ⟨y1, h2, h⟩ := bindE h
 refine ws (bs := []) lv223s1 29 [] [.call 256 [dI 3, dI x1.A, dO 0 0] (.box 198 [.o 1 0] :: .box 244 (zb x0.board [.os 2, .os 3, .os 4, .os 5, .os 6]) :: zp x0.power [.sl 42 3 (x0.acts.map q42)]) (dB y1.1) (.box 198 [.o 1 0] :: .box 244 (zb y1.2.board [.os 2, .os 3, .os 4, .os 5, .os 6]) :: zp y1.2.power [.sl 42 3 (y1.2.acts.map q42)]) [6, 0, 1, 2, 3, 4, 5]] [] 6 n8_ [(2, dO 6 0), (3, dO 7 0), (4, dB false), (5, .d (.fn (.func 256) [] [.o 6 0])), (7, dB y1.1)] (.box 244 (zb y1.2.board [.os 1, .os 2, .os 3, .os 4, .os 5]) :: zp y1.2.power [.sl 42 3 (y1.2.acts.map q42), .box 198 [.o 0 0], .box 66 (d66 x1)]) hC ⟨⟨e256s0, (k256s0 3 x1.A x0 _ h2)⟩, trivial⟩ trivial ?_
 rcases boolC (y1.1) with h3 | h3
 ·replace h := condT h3 h
  replace h := sI h
  subst h
  exact wr (bs := [(y1.1, true)]) lv223s1 24 [true] [] [] [.tmp 4] 6 n6_ hC trivial ⟨h3, trivial⟩
 ·replace h := condF h3 h
  rcases boolC ((x1.Kind == 1)) with h4 | h4
  ·replace h := condT h4 h
   obtain ⟨y5, h6, h⟩ := bindE h
   replace h := sI h
   subst h
   exact wr (bs := [(y1.1, false), ((x1.Kind == 1), true)]) lv223s1 27 [false, true] [.call 256 [dI 3, dI x1.B, dO 0 0] (.box 198 [.o 1 0] :: .box 244 (zb y1.2.board [.os 2, .os 3, .os 4, .os 5, .os 6]) :: zp y1.2.power [.sl 42 3 (y1.2.acts.map q42)]) (dB y5.1) (.box 198 [.o 1 0] :: .box 244 (zb y5.2.board [.os 2, .os 3, .os 4, .os 5, .os 6]) :: zp y5.2.power [.sl 42 3 (y5.2.acts.map q42)]) [6, 0, 1, 2, 3, 4, 5]] [] [.tmp 4] 6 n6_ hC ⟨⟨e256s0, (k256s0 3 x1.B y1.2 _ h6)⟩, trivial⟩ ⟨h3, h4, trivial⟩
  ·replace h := condF h4 h
   rcases boolC ((x1.Kind == 2)) with h7 | h7
   ·replace h := condT h7 h
    obtain ⟨y8, h9, h⟩ := bindE h
    obtain ⟨y10, h11, h⟩ := bindE h
    replace h := sI h
    subst h
    exact wr (bs := [(y1.1, false), ((x1.Kind == 1), false), ((x1.Kind == 2), true)]) lv223s1 30 [false, false, true] [.call 256 [dI 1, dI x1.B, dO 0 0] (.box 198 [.o 1 0] :: .box 244 (zb y1.2.board [.os 2, .os 3, .os 4, .os 5, .os 6]) :: zp y1.2.power [.sl 42 3 (y1.2.acts.map q42)]) (dB y8.1) (.box 198 [.o 1 0] :: .box 244 (zb y8.2.board [.os 2, .os 3, .os 4, .os 5, .os 6]) :: zp y8.2.power [.sl 42 3 (y8.2.acts.map q42)]) [6, 0, 1, 2, 3, 4, 5], .when [(y8.1, false)] (.row (y8.2.power.Sources.map q59) x1.B (q59 y10)), .when [(y8.1, false)] (.row (y8.2.power.Sources.map q59) (((Int.toNat x1.B) : Nat) : Int) (q59 y10))] [] [.tmp 4] 6 n6_ hC ⟨⟨e256s0, (k256s0 1 x1.B y1.2 _ h9)⟩, fun hg => row_get (guardO_get h11 hg), fun hg => row_getN (guardO_get h11 hg), trivial⟩ ⟨h3, h4, h7, trivial⟩
   ·replace h := condF h7 h
    obtain ⟨y12, h13, h⟩ := bindE h
    replace h := sI h
    subst h
    exact wr (bs := [(y1.1, false), ((x1.Kind == 1), false), ((x1.Kind == 2), false)]) lv223s1 32 [false, false, false] [.call 256 [dI 4, dI x1.B, dO 0 0] (.box 198 [.o 1 0] :: .box 244 (zb y1.2.board [.os 2, .os 3, .os 4, .os 5, .os 6]) :: zp y1.2.power [.sl 42 3 (y1.2.acts.map q42)]) (dB y12.1) (.box 198 [.o 1 0] :: .box 244 (zb y12.2.board [.os 2, .os 3, .os 4, .os 5, .os 6]) :: zp y12.2.power [.sl 42 3 (y12.2.acts.map q42)]) [6, 0, 1, 2, 3, 4, 5]] [] [.tmp 4] 6 n6_ hC ⟨⟨e256s0, (k256s0 4 x1.B y1.2 _ h13)⟩, trivial⟩ ⟨h3, h4, h7, trivial⟩
theorem e223s1 : Enters Tryz.prog 223 := en Tryz.func223
theorem k225s1 (x0 : List Int) (x1c0 : api_Island) (r : (List Int) × api_Island) (h : F225s1 x0 x1c0 = some r) : CallOk Tryz.prog 225 [.d (.os 0), .d (.fn (.func 226) [] [.o 1 0])] [.sl 3 1 (x0.map pI), .box 78 (d78 x1c0)] (.d (.os 2)) [.non, .box 78 (d78 r.2), .sl 3 1 (r.1.map pI)] := by
 unfold F225s1 at h
 refine callOk_of 42 Tryz.func225 rfl rfl rfl fun C hC => ?_
 obtain ⟨y1, h2, h⟩ := bindE h
 refine ws (bs := []) [0, 1, 4, 5, 6, 7, 12, 19, 29] 28 [] [.call 243 [dS 0, .d (.fn (.func 226) [] [.o 1 0])] [.sl 3 1 (x0.map pI), .box 78 (d78 x1c0)] (dI y1.1) [.sl 3 1 (x0.map pI), .box 78 (d78 y1.2)] [0, 1]] [] 2 [0, 1] [(0, dS 0), (1, .d (.fn (.func 226) [] [.o 1 0])), (4, .d (DS pI [])), (5, dI y1.1), (12, dB (y1.1 == (-1)))] [.sl 3 1 (x0.map pI), .box 78 (d78 y1.2)] hC ⟨⟨e243s1, (k243s1 x0 x1c0 _ h2)⟩, trivial⟩ trivial ?_
 rcases boolC ((y1.1 == (-1))) with h3 | h3
 ·replace h := condT h3 h
  replace h := sI h
  subst h
  exact wr (bs := [((y1.1 == (-1)), true)]) [0, 1, 4, 5, 6, 7, 12, 19, 29] 24 [true] [] [.mv 0] [.tmp 4] 2 n3_ hC trivial ⟨h3, trivial⟩
 ·replace h := condF h3 h
  cases h
theorem e225s1 : Enters Tryz.prog 225 := en Tryz.func225
theorem k66 (x0 : api_Board) (x1 : api_Power) (x2 : Int) (r : Bool) (h : F66 x0 x1 x2 = some r) : CallOk Tryz.prog 66 [.agg (d29 x0), .agg (d35 x1), .d (I x2)] [] (.d (Bo r)) [] := by
 unfold F66 at h
 refine callOk_of 28 Tryz.func66 rfl rfl rfl fun C hC => ?_
 obtain ⟨y1, h2, h⟩ := bindE h
 obtain ⟨y3, h4, h⟩ := bindE h
 obtain ⟨y5, h6, h⟩ := bindE h
 obtain ⟨y7, h8, h⟩ := bindE h
 replace h := sI h
 subst h
 exact wr (bs := []) [0, 1, 2, 3, 4, 6] 25 [] [.call 67 [.agg (d29 x0), dI x2] [] (dI y1) [] [], .call 68 [.agg (d29 x0), .agg (d35 x1), dI y1] [] (dB y3) [] [], .when [(y3, true)] (.call 134 [.agg (d35 x1), dI 1, dI x2] [] (dB y5) [] []), .when [((y3 && (!y5)), true)] (.row (x1.Sources.map q59) x2 (q59 y7))] [] [.tmp 6] 0 [] hC ⟨⟨e67, (k67 x0 x2 _ h2)⟩, ⟨e68, (k68 x0 x1 y1 _ h4)⟩, fun hg => ⟨e134, (k134 x1 1 x2 _ (guardO_get h6 hg))⟩, fun hg => row_get (guardO_get h8 hg), trivial⟩ trivial
theorem e66 : Enters Tryz.prog 66 := en Tryz.func66
def lv91 : List Nat := [0, 1, 2, 3, 4, 6, 7, 8, 9, 10, 11, 12, 13, 14, 28, 37, 38, 39, 54, 64, 65, 66, 81]
def st91_0 (x0 : api_Board) (z0 : Int × (List Int)) : St := [(3, dO 0 0), (4, dO 1 0), (6, dO 2 0), (7, dB false), (8, dO 7 0), (37, dI (ln x0.Sources)), (38, dI z0.1)]
def R91_0 (x0 : api_Board) (x1 : api_Power) (y4 : (List Int)) (z0 : Int × (List Int)) : List Res := [.box 29 (d29 x0), .box 35 (d35 x1), .box 78 [.os 3, .os 4, .os 5], .sl 3 1 (([] : List Int).map pI), .sl 3 1 (([] : List Int).map pI), .sl 3 1 (([] : List Int).map pI), .sl 3 1 (y4.map pI), .box 78 [.os 6, .os 8, .os 9], .sl 3 1 (z0.2.map pI), .sl 3 1 (([] : List Int).map pI)]
def sa91_0  (z0 : Int × (List Int)) : St := [(3, dO 0 0), (4, dO 1 0), (6, dO 2 0), (7, dB false), (8, dO 7 0)]
def Ra91_0 (x0 : api_Board) (x1 : api_Power) (y4 : (List Int)) (z0 : Int × (List Int)) : List Res := [.box 29 (d29 x0), .box 35 (d35 x1), .box 78 [.os 3, .os 4, .os 5], .sl 3 1 (([] : List Int).map pI), .sl 3 1 (([] : List Int).map pI), .sl 3 1 (([] : List Int).map pI), .sl 3 1 (y4.map pI), .box 78 [.os 6, .os 8, .os 9], .sl 3 1 (z0.2.map pI), .sl 3 1 (([] : List Int).map pI)]
def st91_1 (x0 : api_Board) (z1 : Int × (List Int)) : St := [(3, dO 0 0), (4, dO 1 0), (6, dO 2 0), (7, dB false), (8, dO 7 0), (64, dI (ln x0.Consumers)), (65, dI z1.1)]
def R91_1 (x0 : api_Board) (x1 : api_Power) (y4 : (List Int)) (z0 : Int × (List Int)) (z1 : Int × (List Int)) : List Res := [.box 29 (d29 x0), .box 35 (d35 x1), .box 78 [.os 3, .os 4, .os 5], .sl 3 1 (([] : List Int).map pI), .sl 3 1 (([] : List Int).map pI), .sl 3 1 (([] : List Int).map pI), .sl 3 1 (y4.map pI), .box 78 [.os 6, .os 8, .os 9], .sl 3 1 (z0.2.map pI), .sl 3 1 (z1.2.map pI)]
def sa91_1  (z1 : Int × (List Int)) : St := [(6, dO 0 0), (7, dB false), (8, dO 5 0)]
def Ra91_1 (y4 : (List Int)) (z0 : Int × (List Int)) (z1 : Int × (List Int)) : List Res := [.box 78 [.os 1, .os 2, .os 3], .sl 3 1 (([] : List Int).map pI), .sl 3 1 (([] : List Int).map pI), .sl 3 1 (([] : List Int).map pI), .sl 3 1 (y4.map pI), .box 78 [.os 4, .os 6, .os 7], .sl 3 1 (z0.2.map pI), .sl 3 1 (z1.2.map pI)]
theorem k91 (x0 : api_Board) (x1 : api_Power) (x2 : Int) (r : api_Island × Bool) (h : F91 x0 x1 x2 = some r) : CallOk Tryz.prog 91 [.agg (d29 x0), .agg (d35 x1), .d (I x2)] [] (.tup [.agg [.os 0, .os 1, .os 2], .d (Bo r.2)]) [.sl 3 1 (r.1.Buses.map pI), .sl 3 1 (r.1.Sources.map pI), .sl 3 1 (r.1.Consumers.map pI)] := by
 unfold F91 at h
 refine callOk_of 90 Tryz.func91 rfl rfl rfl fun C hC => ?_
 obtain ⟨y1, h2, h⟩ := bindE h
 refine ws (bs := []) lv91 26 [] [.call 27 [.agg (d29 x0), .agg (d35 x1)] [] (dI y1) [] []] [.ownb 2 0 3 1, .ownb 2 1 3 1, .ownb 2 2 3 1] 0 n6_ [(2, dI x2), (3, dO 0 0), (4, dO 1 0), (6, dO 2 0), (7, dB false), (28, dB (c91_0 x0 x2 y1))] [.box 29 (d29 x0), .box 35 (d35 x1), .box 78 [.os 3, .os 4, .os 5], .sl 3 1 (([] : List Int).map pI), .sl 3 1 (([] : List Int).map pI), .sl 3 1 (([] : List Int).map pI)] hC ⟨⟨e27, (k27 x0 x1 _ h2)⟩, trivial⟩ trivial ?_
 rcases boolC ((c91_0 x0 x2 y1)) with h3 | h3
 ·replace h := condT h3 h
  replace h := sI h
  subst h
  exact wr (bs := [((c91_0 x0 x2 y1), true)]) lv91 24 [true] [] [.ownb 2 0 3 1, .ownb 2 1 3 1, .ownb 2 2 3 1] [.cell 6 78, .tmp 7] 0 [6, 7, 8] hC trivial ⟨h3, trivial⟩
 ·replace h := condF h3 h
  obtain ⟨y4, h5, h⟩ := bindE h
  refine ws (bs := [((c91_0 x0 x2 y1), false)]) lv91 28 [false] [.call 171 [.agg (d29 x0), .agg (d35 x1), dI x2] [] (dS 0) [.sl 3 1 (y4.map pI)] [], .len (ln (x0.Sources.map q57)) (ln x0.Sources)] [.ownb 7 1 3 1, .ownb 7 2 3 1] 0 n10_ (st91_0 x0 (0, ([] : List Int))) (R91_0 x0 x1 y4 (0, ([] : List Int))) hC ⟨⟨e171, (k171 x0 x1 x2 _ h5)⟩, len_map _ _, trivial⟩ ⟨h3, trivial⟩ ?_
  obtain ⟨w0, hm0, hret0, hnext0⟩ := andThen_inv h
  clear h
  refine WI_cut (by kernel_rfl) (fun s => w0 = .next s) (sa91_0) (Ra91_0 x0 x1 y4) ?_ fun z0 hs0 => ?_
  ·refine WI_blk (by kernel_rfl) ?_
   refine WI_while (by kernel_rfl) (F91_l0 x0 x1 y4) (st91_0 x0) (R91_0 x0 x1 y4) w0 1152921504606846976 (0, ([] : List Int)) hm0 rfl rfl fun z0 w0b h hb0 hr0 => ?_
   unfold F91_l0 at h
   rcases boolC ((c91_2 x0 z0)) with h6 | h6
   ·replace h := condT h6 h
    obtain ⟨y7, h8, h⟩ := bindE h
    obtain ⟨y9, h10, h⟩ := bindE h
    refine ws (bs := [((c91_2 x0 z0), true)]) lv91 34 [true] [.call 60 [.agg (d29 x0), .agg (d35 x1), dI z0.1] [] (.tup [dI y7.1, dB y7.2]) [] [], .when [(y7.2, true)] (.callB 93 [.d (DS pI y4), dI y7.1] (dB y9) [[]] 0 [])] [] 0 n10_ [(3, dO 0 0), (4, dO 1 0), (6, dO 2 0), (7, dB false), (8, dO 7 0), (9, dI z0.1), (37, dI (ln x0.Sources)), (38, dI z0.1), (54, dB (y7.2 && y9))] [.box 29 (d29 x0), .box 35 (d35 x1), .box 78 [.os 3, .os 4, .os 5], .sl 3 1 (([] : List Int).map pI), .sl 3 1 (([] : List Int).map pI), .sl 3 1 (([] : List Int).map pI), .sl 3 1 (y4.map pI), .box 78 [.os 6, .os 8, .os 9], .sl 3 1 (z0.2.map pI), .sl 3 1 (([] : List Int).map pI)] hC ⟨⟨e60, (k60 x0 x1 z0.1 _ h8)⟩, fun hg => lend0_get ⟨e93, (k93 y4 y7.1 _ (guardO_get h10 hg))⟩, trivial⟩ ⟨h6, trivial⟩ ?_
    rcases boolC ((y7.2 && y9)) with h11 | h11
    ·replace h := condT h11 h
     obtain ⟨y12, h13, h⟩ := bindE h
     exact we (bs := [((y7.2 && y9), true)]) (φ := fun s' => w0b = .next s') (st' := (st91_0 x0)) (R' := (R91_0 x0 x1 y4)) lv91 25 [true] [.app (z0.2.map pI) ([z0.1].map pI) 1 (((z0.2.map pI).length + ([z0.1].map pI).length) * (8 + 1)) (y12.map pI)] [] 0 [0, 1, 2, 3, 4, 5, 6, 7, 10, 9] (w64 (z0.1 + 1), y12) hC ⟨app_get pI 1 (fun _ => rfl) h13, trivial⟩ ⟨h11, trivial⟩ (sI h).symm
    ·replace h := condF h11 h
     exact we (bs := [((y7.2 && y9), false)]) (φ := fun s' => w0b = .next s') (st' := (st91_0 x0)) (R' := (R91_0 x0 x1 y4)) lv91 25 [false] [] [] 0 n10_ (w64 (z0.1 + 1), z0.2) hC trivial ⟨h11, trivial⟩ (sI h).symm
   ·replace h := condF h6 h
    exact we (bs := [((c91_2 x0 z0), false)]) (φ := fun s' => w0 = .next s') (st' := (sa91_0)) (R' := (Ra91_0 x0 x1 y4)) lv91 26 [false] [] [] 0 n10_ (z0.1, z0.2) hC trivial ⟨h6, trivial⟩ (hb0 _ (sI h).symm)
  ·have h := hnext0 _ hs0
   refine ws (bs := []) lv91 24 [] [.len (ln (x0.Consumers.map q108)) (ln x0.Consumers)] [] 0 n10_ (st91_1 x0 (0, ([] : List Int))) (R91_1 x0 x1 y4 z0 (0, ([] : List Int))) hC ⟨len_map _ _, trivial⟩ trivial ?_
   obtain ⟨w1, hm1, hret1, hnext1⟩ := andThen_inv h
   clear h
   refine WI_cut (by kernel_rfl) (fun s => w1 = .next s) (sa91_1) (Ra91_1 y4 z0) ?_ fun z1 hs1 => ?_
   ·refine WI_blk (by kernel_rfl) ?_
    refine WI_while (by kernel_rfl) (F91_l1 x0 x1 y4) (st91_1 x0) (R91_1 x0 x1 y4 z0) w1 1152921504606846976 (0, ([] : List Int)) hm1 rfl rfl fun z1 w1b h hb1 hr1 => ?_
    unfold F91_l1 at h
    rcases boolC ((c91_4 x0 z1)) with h14 | h14
    ·replace h := condT h14 h
     obtain ⟨y15, h16, h⟩ := bindE h
     obtain ⟨y17, h18, h⟩ := bindE h
     refine ws (bs := [((c91_4 x0 z1), true)]) lv91 34 [true] [.call 32 [.agg (d29 x0), .agg (d35 x1), dI z1.1] [] (.tup [dI y15.1, dB y15.2]) [] [], .when [(y15.2, true)] (.callB 93 [.d (DS pI y4), dI y15.1] (dB y17) [[]] 0 [])] [] 0 n10_ [(3, dO 0 0), (4, dO 1 0), (6, dO 2 0), (7, dB false), (8, dO 7 0), (12, dI z1.1), (64, dI (ln x0.Consumers)), (65, dI z1.1), (81, dB (y15.2 && y17))] [.box 29 (d29 x0), .box 35 (d35 x1), .box 78 [.os 3, .os 4, .os 5], .sl 3 1 (([] : List Int).map pI), .sl 3 1 (([] : List Int).map pI), .sl 3 1 (([] : List Int).map pI), .sl 3 1 (y4.map pI), .box 78 [.os 6, .os 8, .os 9], .sl 3 1 (z0.2.map pI), .sl 3 1 (z1.2.map pI)] hC ⟨⟨e32, (k32 x0 x1 z1.1 _ h16)⟩, fun hg => lend0_get ⟨e93, (k93 y4 y15.1 _ (guardO_get h18 hg))⟩, trivial⟩ ⟨h14, trivial⟩ ?_
     rcases boolC ((y15.2 && y17)) with h19 | h19
     ·replace h := condT h19 h
      obtain ⟨y20, h21, h⟩ := bindE h
      exact we (bs := [((y15.2 && y17), true)]) (φ := fun s' => w1b = .next s') (st' := (st91_1 x0)) (R' := (R91_1 x0 x1 y4 z0)) lv91 25 [true] [.app (z1.2.map pI) ([z1.1].map pI) 1 (((z1.2.map pI).length + ([z1.1].map pI).length) * (8 + 1)) (y20.map pI)] [] 0 [0, 1, 2, 3, 4, 5, 6, 7, 8, 10] (w64 (z1.1 + 1), y20) hC ⟨app_get pI 1 (fun _ => rfl) h21, trivial⟩ ⟨h19, trivial⟩ (sI h).symm
     ·replace h := condF h19 h
      exact we (bs := [((y15.2 && y17), false)]) (φ := fun s' => w1b = .next s') (st' := (st91_1 x0)) (R' := (R91_1 x0 x1 y4 z0)) lv91 25 [false] [] [] 0 n10_ (w64 (z1.1 + 1), z1.2) hC trivial ⟨h19, trivial⟩ (sI h).symm
    ·replace h := condF h14 h
     exact we (bs := [((c91_4 x0 z1), false)]) (φ := fun s' => w1 = .next s') (st' := (sa91_1)) (R' := (Ra91_1 y4 z0)) lv91 26 [false] [] [] 0 [2, 3, 4, 5, 6, 7, 8, 9] (z1.1, z1.2) hC trivial ⟨h14, trivial⟩ (hb1 _ (sI h).symm)
   ·have h := hnext1 _ hs1
    replace h := sI h
    subst h
    exact wr (bs := []) lv91 23 [] [] [] [.cell 6 78, .tmp 7] 0 [4, 6, 7] hC trivial trivial
theorem e91 : Enters Tryz.prog 91 := en Tryz.func91
def lv65 : List Nat := [0, 1, 2, 3, 4, 5, 6, 7, 8, 12, 38, 50, 51, 52, 53, 77]
def st65_0 (x1 : api_Power) (n0 : Nat) (z0 : Bool) : St := [(2, dO 0 0), (3, dO 1 0), (4, dI 0), (6, dB z0), (50, .d (DS pI x1.Limits)), (51, dI (ln x1.Limits)), (52, dI (cnt 0 n0))]
def R65_0 (x0 : api_Board) (x1 : api_Power) (n0 : Nat) (z0 : Bool) : List Res := [.box 29 (d29 x0), .box 35 (d35 x1)]
def sa65_0  (z0 : Bool) : St := [(4, dI 0), (6, dB z0)]
def Ra65_0  (z0 : Bool) : List Res := []
theorem k65 (x0 : api_Board) (x1 : api_Power) (r : Int) (h : F65 x0 x1 = some r) : CallOk Tryz.prog 65 [.agg (d29 x0), .agg (d35 x1)] [] (.d (I r)) [] := by
 unfold F65 at h
 refine callOk_of 78 Tryz.func65 rfl rfl rfl fun C hC => ?_
 obtain ⟨y1, h2, h⟩ := bindE h
 rcases boolC ((y1 != 0)) with h3 | h3
 ·replace h := condT h3 h
  replace h := sI h
  subst h
  exact wr (bs := [((y1 != 0), true)]) lv65 31 [true] [.call 92 [.agg (d29 x0)] [] (dI y1) [] []] [] [.tmp 4] 0 [] hC ⟨⟨e92, (k92 x0 _ h2)⟩, trivial⟩ ⟨h3, trivial⟩
 ·replace h := condF h3 h
  refine ws (bs := [((y1 != 0), false)]) lv65 33 [false] [.call 92 [.agg (d29 x0)] [] (dI y1) [] [], .len (ln (x1.Closed.map pB)) (ln x1.Closed), .len (ln (x0.Breakers.map q66)) (ln x0.Breakers), .when [(((ln x1.Closed) != (ln x0.Breakers)), false)] (.len (ln (x1.Sources.map q59)) (ln x1.Sources)), .when [(((ln x1.Closed) != (ln x0.Breakers)), false)] (.len (ln (x0.Sources.map q57)) (ln x0.Sources)), .when [((((ln x1.Closed) != (ln x0.Breakers)) || ((ln x1.Sources) != (ln x0.Sources))), false)] (.len (ln (x1.Limits.map pI)) (ln x1.Limits)), .when [((((ln x1.Closed) != (ln x0.Breakers)) || ((ln x1.Sources) != (ln x0.Sources))), false)] (.len (ln (x0.Consumers.map q108)) (ln x0.Consumers))] [] 0 [0, 1] [(2, dO 0 0), (3, dO 1 0), (4, dI 0), (38, dB (c65_0 x0 x1))] [.box 29 (d29 x0), .box 35 (d35 x1)] hC ⟨⟨e92, (k92 x0 _ h2)⟩, len_map _ _, len_map _ _, fun hg => len_map _ _, fun hg => len_map _ _, fun hg => len_map _ _, fun hg => len_map _ _, trivial⟩ ⟨h3, trivial⟩ ?_
  rcases boolC ((c65_0 x0 x1)) with h4 | h4
  ·replace h := condT h4 h
   replace h := sI h
   subst h
   exact wr (bs := [((c65_0 x0 x1), true)]) lv65 24 [true] [] [] [.tmp 4] 0 [] hC trivial ⟨h4, trivial⟩
  ·replace h := condF h4 h
   obtain ⟨y5, h6, h⟩ := bindE h
   obtain ⟨y7, h8, h⟩ := bindE h
   refine ws (bs := [((c65_0 x0 x1), false)]) lv65 28 [false] [.call 128 [.agg (d29 x0), .d (DS q119 x1.Broken)] [] (dB y5) [] [], .when [(y5, true)] (.call 129 [.d (DS q59 x1.Sources), .d (.fn (.func 130) [] [])] [] (dB y7) [] []), .len (ln (x1.Limits.map pI)) (ln x1.Limits)] [] 0 [0, 1] (st65_0 x1 0 (y5 && (!y7))) (R65_0 x0 x1 0 (y5 && (!y7))) hC ⟨⟨e128, (k128 x0 x1.Broken _ h6)⟩, fun hg => ⟨e129s0, (k129s0 x1.Sources _ (guardO_get h8 hg))⟩, len_map _ _, trivial⟩ ⟨h4, trivial⟩ ?_
   obtain ⟨w0, hm0, hret0, hnext0⟩ := andThen_inv h
   clear h
   refine WI_cut (by kernel_rfl) (fun s => w0 = .next s) (sa65_0) (Ra65_0) ?_ fun z0 hs0 => ?_
   ·refine WI_blk (by kernel_rfl) ?_
    refine WI_len 50 rfl fun hl0 => ?_
    refine WI_foldI (by kernel_rfl) (F65_l0 x0 x1) (st65_0 x1) (R65_0 x0 x1) w0 x1.Limits (y5 && (!y7)) hm0 rfl rfl (fun z0 hn0 => ?_) fun n0 a0 z0 w0b hi0 hx0 h hb0 hr0 => ?_
    ·clear hm0
     exact we (bs := [(decide ((cnt 0 x1.Limits.length) < (ln x1.Limits)), false)]) (φ := fun s' => w0 = .next s') (st' := (sa65_0)) (R' := (Ra65_0)) lv65 26 [false] [] [] 0 [] z0 hC trivial ⟨(cnt_end hl0), trivial⟩ hn0
    ·unfold F65_l0 at h
     obtain ⟨y9, h10, h⟩ := bindE h
     obtain ⟨y11, h12, h⟩ := bindE h
     exact we (bs := [(decide ((cnt 0 n0) < (ln x1.Limits)), true)]) (φ := fun s' => w0b = .next s') (st' := (st65_0 x1 (n0 + 1))) (R' := (R65_0 x0 x1 (n0 + 1))) lv65 33 [true] [.row (x1.Limits.map pI) (cnt 0 n0) (pI a0), .when [(z0, true)] (.row (x0.Consumers.map q108) (cnt 0 n0) (q108 y9)), .when [(z0, true)] (.call 132 [dI a0, dI 0, dI y9.Load] [] (dB (F132 a0 0 y9.Load)) [] []), .when [((z0 && (F132 a0 0 y9.Load)), true)] (.call 133 [.agg (d29 x0), .agg (d35 x1), dI (cnt 0 n0)] [] (dI y11) [] [])] [] 0 [0, 1] ((z0 && (F132 a0 0 y9.Load)) && (decide (y11 ≤ 1))) hC ⟨(row_cnt hx0 hl0), fun hg => row_get (guardO_get h10 hg), fun hg => ⟨e132, (k132 a0 0 y9.Load _ rfl)⟩, fun hg => ⟨e133, (k133 x0 x1 (cnt 0 n0) _ (guardO_get h12 hg))⟩, trivial⟩ ⟨(cnt_lt hi0 hl0), trivial⟩ (sI h).symm
   ·have h := hnext0 _ hs0
    rcases boolC (!z0) with h13 | h13
    ·replace h := condT h13 h
     replace h := sI h
     subst h
     exact wr (bs := [(!z0, true)]) lv65 27 [true] [] [] [.tmp 4] 0 [] hC trivial ⟨h13, trivial⟩
    ·replace h := condF h13 h
     replace h := sI h
     subst h
     exact wr (bs := [(!z0, false)]) lv65 28 [false] [] [] [.tmp 4] 0 [] hC trivial ⟨h13, trivial⟩
theorem e65 : Enters Tryz.prog 65 := en Tryz.func65
def lv222s1 : List Nat := [0, 1, 4, 5, 6, 8, 13, 14, 15, 16, 32, 38, 39, 40, 41]
def st222s1_0 (x0 : shed_relief) (n0 : Nat) (z0 : Sg6) : St := [(0, dO 0 0), (1, .d (.fn (.func 223) [.o 0 0] [])), (4, dS 6), (13, .d (DS q66 x0.board.Breakers)), (14, dI (ln x0.board.Breakers)), (15, dI (cnt 0 n0))]
def R222s1_0  (n0 : Nat) (z0 : Sg6) : List Res := [.box 244 [I z0.1, DS q66 z0.2.1, DS q57 z0.2.2.1, DS q108 z0.2.2.2.1, I z0.2.2.2.2.1, I z0.2.2.2.2.2.1, .os 7, .os 8, .os 9, .os 10, .os 11], .non, .non, .non, .non, .non, .sl 3 1 (([] : List Int).map pI), .sl 4 1 (z0.2.2.2.2.2.2.1.map pB), .sl 59 4 (z0.2.2.2.2.2.2.2.1.map q59), .sl 3 1 (z0.2.2.2.2.2.2.2.2.1.map pI), .sl 119 2 (z0.2.2.2.2.2.2.2.2.2.1.map q119), .sl 42 3 (z0.2.2.2.2.2.2.2.2.2.2.map q42)]
def sa222s1_0  (z0 : Sg6) : St := [(0, dO 0 0), (4, dS 6)]
def Ra222s1_0  (z0 : Sg6) : List Res := [.box 244 [I z0.1, DS q66 z0.2.1, DS q57 z0.2.2.1, DS q108 z0.2.2.2.1, I z0.2.2.2.2.1, I z0.2.2.2.2.2.1, .os 7, .os 8, .os 9, .os 10, .os 11], .non, .non, .non, .non, .non, .sl 3 1 (([] : List Int).map pI), .sl 4 1 (z0.2.2.2.2.2.2.1.map pB), .sl 59 4 (z0.2.2.2.2.2.2.2.1.map q59), .sl 3 1 (z0.2.2.2.2.2.2.2.2.1.map pI), .sl 119 2 (z0.2.2.2.2.2.2.2.2.2.1.map q119), .sl 42 3 (z0.2.2.2.2.2.2.2.2.2.2.map q42)]
def st222s1_1  (n1 : Nat) (z1 : Sg6) : St := [(0, dO 0 0), (38, dS 6), (39, dI (ln ([] : List Int))), (40, dI (cnt 0 n1))]
def R222s1_1  (n1 : Nat) (z1 : Sg6) : List Res := [.box 244 [I z1.1, DS q66 z1.2.1, DS q57 z1.2.2.1, DS q108 z1.2.2.2.1, I z1.2.2.2.2.1, I z1.2.2.2.2.2.1, .os 7, .os 8, .os 9, .os 10, .os 11], .non, .non, .non, .non, .non, .sl 3 1 (([] : List Int).map pI), .sl 4 1 (z1.2.2.2.2.2.2.1.map pB), .sl 59 4 (z1.2.2.2.2.2.2.2.1.map q59), .sl 3 1 (z1.2.2.2.2.2.2.2.2.1.map pI), .sl 119 2 (z1.2.2.2.2.2.2.2.2.2.1.map q119), .sl 42 3 (z1.2.2.2.2.2.2.2.2.2.2.map q42)]
def sa222s1_1  (z1 : Sg6) : St := []
def Ra222s1_1  (z1 : Sg6) : List Res := [.box 244 [I z1.1, DS q66 z1.2.1, DS q57 z1.2.2.1, DS q108 z1.2.2.2.1, I z1.2.2.2.2.1, I z1.2.2.2.2.2.1, .os 6, .os 7, .os 8, .os 9, .os 10], .non, .non, .non, .non, .non, .sl 4 1 (z1.2.2.2.2.2.2.1.map pB), .sl 59 4 (z1.2.2.2.2.2.2.2.1.map q59), .sl 3 1 (z1.2.2.2.2.2.2.2.2.1.map pI), .sl 119 2 (z1.2.2.2.2.2.2.2.2.2.1.map q119), .sl 42 3 (z1.2.2.2.2.2.2.2.2.2.2.map q42)]
theorem k222s1 (x0 : shed_relief) (r : shed_relief) (h : F222s1 x0 = some r) : CallOk Tryz.prog 222 [.d (.o 0 0), .d (.fn (.func 223) [.o 0 0] [])] (.box 244 (zb x0.board [.os 1, .os 2, .os 3, .os 4, .os 5]) :: zp x0.power [.sl 42 3 (x0.acts.map q42)]) (.tup []) (.box 244 (zb r.board [.os 6, .os 7, .os 8, .os 9, .os 10]) :: .non :: .non :: .non :: .non :: .non :: zp r.power [.sl 42 3 (r.acts.map q42)]) := by
 unfold F222s1 at h
 refine callOk_of 48 Tryz.func222 rfl rfl rfl fun C hC => ?_
 refine ws (bs := []) lv222s1 26 [] [.len (ln (x0.board.Breakers.map q66)) (ln x0.board.Breakers)] [.own 4 3 1, .mv 1, .mv 2, .mv 3, .mv 4, .mv 5] 6 n12_ (st222s1_0 x0 0 (zt x0.board (zu x0.power x0.acts))) (R222s1_0 0 (zt x0.board (zu x0.power x0.acts))) hC ⟨len_map _ _, trivial⟩ trivial ?_
 obtain ⟨w0, hm0, hret0, hnext0⟩ := andThen_inv h
 clear h
 refine WI_cut (by kernel_rfl) (fun s => w0 = .next s) (sa222s1_0) (Ra222s1_0) ?_ fun z0 hs0 => ?_
 ·refine WI_blk (by kernel_rfl) ?_
  refine WI_len 13 rfl fun hl0 => ?_
  refine WI_foldI (by kernel_rfl) F222s1_l0 (st222s1_0 x0) (R222s1_0) w0 x0.board.Breakers (zt x0.board (zu x0.power x0.acts)) hm0 rfl rfl (fun z0 hn0 => ?_) fun n0 a0 z0 w0b hi0 hx0 h hb0 hr0 => ?_
  ·clear hm0
   exact we (bs := [(decide ((cnt 0 x0.board.Breakers.length) < (ln x0.board.Breakers)), false)]) (φ := fun s' => w0 = .next s') (st' := (sa222s1_0)) (R' := (Ra222s1_0)) lv222s1 26 [false] [] [] 6 n12_ (z0.1, z0.2.1, z0.2.2.1, z0.2.2.2.1, z0.2.2.2.2.1, z0.2.2.2.2.2.1, z0.2.2.2.2.2.2.1, z0.2.2.2.2.2.2.2.1, z0.2.2.2.2.2.2.2.2.1, z0.2.2.2.2.2.2.2.2.2.1, z0.2.2.2.2.2.2.2.2.2.2) hC trivial ⟨(cnt_end hl0), trivial⟩ hn0
  ·unfold F222s1_l0 at h
   obtain ⟨y1, h2, h⟩ := bindE h
   obtain ⟨y3, h4, h⟩ := bindE h
   refine ws (bs := [(decide ((cnt 0 n0) < (ln x0.board.Breakers)), true)]) lv222s1 32 [true] [.row (x0.board.Breakers.map q66) (cnt 0 n0) (q66 a0), .row (z0.2.2.2.2.2.2.1.map pB) (cnt 0 n0) (pB y1), .row (z0.2.2.2.2.2.2.1.map pB) (((Int.toNat (cnt 0 n0)) : Nat) : Int) (pB y1), .whenR [(y1, true)] (.call 223 [dO 0 0, .agg (d66 a0)] [.box 244 [I z0.1, DS q66 z0.2.1, DS q57 z0.2.2.1, DS q108 z0.2.2.2.1, I z0.2.2.2.2.1, I z0.2.2.2.2.2.1, .os 1, .os 2, .os 3, .os 4, .os 5], .sl 4 1 (z0.2.2.2.2.2.2.1.map pB), .sl 59 4 (z0.2.2.2.2.2.2.2.1.map q59), .sl 3 1 (z0.2.2.2.2.2.2.2.2.1.map pI), .sl 119 2 (z0.2.2.2.2.2.2.2.2.2.1.map q119), .sl 42 3 (z0.2.2.2.2.2.2.2.2.2.2.map q42)] (dB y3.1) (.box 244 (zb y3.2.board [.os 1, .os 2, .os 3, .os 4, .os 5]) :: zp y3.2.power [.sl 42 3 (y3.2.acts.map q42)]) [0, 7, 8, 9, 10, 11])] [] 6 n12_ [(0, dO 0 0), (1, .d (.fn (.func 223) [.o 0 0] [])), (4, dS 6), (5, dI (cnt 0 n0)), (13, .d (DS q66 x0.board.Breakers)), (14, dI (ln x0.board.Breakers)), (15, dI (cnt 0 n0)), (32, dB (y1 && y3.1))] (.box 244 (zb y3.2.board [.os 7, .os 8, .os 9, .os 10, .os 11]) :: .non :: .non :: .non :: .non :: .non :: .sl 3 1 (([] : List Int).map pI) :: zp y3.2.power [.sl 42 3 (y3.2.acts.map q42)]) hC ⟨(row_cnt hx0 hl0), row_get h2, row_getN h2, ⟨fun hg => ⟨e223s1, (k223s1 (⟨(⟨z0.1, z0.2.1, z0.2.2.1, z0.2.2.2.1, z0.2.2.2.2.1, z0.2.2.2.2.2.1⟩ : api_Board), (⟨z0.2.2.2.2.2.2.1, z0.2.2.2.2.2.2.2.1, z0.2.2.2.2.2.2.2.2.1, z0.2.2.2.2.2.2.2.2.2.1⟩ : api_Power), z0.2.2.2.2.2.2.2.2.2.2⟩ : shed_relief) a0 _ (guardO_get h4 hg))⟩, fun hg => by have e := guardO_not h4 hg; subst e; rfl⟩, trivial⟩ ⟨(cnt_lt hi0 hl0), trivial⟩ ?_
   rcases boolC ((y1 && y3.1)) with h5 | h5
   ·replace h := condT h5 h
    cases h
   ·replace h := condF h5 h
    exact we (bs := [((y1 && y3.1), false)]) (φ := fun s' => w0b = .next s') (st' := (st222s1_0 x0 (n0 + 1))) (R' := (R222s1_0 (n0 + 1))) lv222s1 25 [false] [] [] 6 n12_ (zt y3.2.board (zu y3.2.power y3.2.acts)) hC trivial ⟨h5, trivial⟩ (sI h).symm
 ·have h := hnext0 _ hs0
  refine ws (bs := []) lv222s1 23 [] [.len (ln (([] : List Int).map pI)) (ln ([] : List Int))] [] 6 n12_ (st222s1_1 0 (z0.1, z0.2.1, z0.2.2.1, z0.2.2.2.1, z0.2.2.2.2.1, z0.2.2.2.2.2.1, z0.2.2.2.2.2.2.1, z0.2.2.2.2.2.2.2.1, z0.2.2.2.2.2.2.2.2.1, z0.2.2.2.2.2.2.2.2.2.1, z0.2.2.2.2.2.2.2.2.2.2)) (R222s1_1 0 (z0.1, z0.2.1, z0.2.2.1, z0.2.2.2.1, z0.2.2.2.2.1, z0.2.2.2.2.2.1, z0.2.2.2.2.2.2.1, z0.2.2.2.2.2.2.2.1, z0.2.2.2.2.2.2.2.2.1, z0.2.2.2.2.2.2.2.2.2.1, z0.2.2.2.2.2.2.2.2.2.2)) hC ⟨len_map _ _, trivial⟩ trivial ?_
  obtain ⟨w1, hm1, hret1, hnext1⟩ := andThen_inv h
  clear h
  refine WI_cut (by kernel_rfl) (fun s => w1 = .next s) (sa222s1_1) (Ra222s1_1) ?_ fun z1 hs1 => ?_
  ·refine WI_blk (by kernel_rfl) ?_
   refine WI_lenO 38 6 rfl rfl fun hl1 => ?_
   refine WI_foldI (by kernel_rfl) F222s1_l1 (st222s1_1) (R222s1_1) w1 ([] : List Int) (z0.1, z0.2.1, z0.2.2.1, z0.2.2.2.1, z0.2.2.2.2.1, z0.2.2.2.2.2.1, z0.2.2.2.2.2.2.1, z0.2.2.2.2.2.2.2.1, z0.2.2.2.2.2.2.2.2.1, z0.2.2.2.2.2.2.2.2.2.1, z0.2.2.2.2.2.2.2.2.2.2) hm1 rfl rfl (fun z1 hn1 => ?_) fun n1 a1 z1 w1b hi1 hx1 h hb1 hr1 => ?_
   ·clear hm1
    exact we (bs := [(decide ((cnt 0 (([] : List Int).length)) < (ln ([] : List Int))), false)]) (φ := fun s' => w1 = .next s') (st' := (sa222s1_1)) (R' := (Ra222s1_1)) lv222s1 26 [false] [] [] 6 [0, 1, 2, 3, 4, 5, 7, 8, 9, 10, 11] (z1.1, z1.2.1, z1.2.2.1, z1.2.2.2.1, z1.2.2.2.2.1, z1.2.2.2.2.2.1, z1.2.2.2.2.2.2.1, z1.2.2.2.2.2.2.2.1, z1.2.2.2.2.2.2.2.2.1, z1.2.2.2.2.2.2.2.2.2.1, z1.2.2.2.2.2.2.2.2.2.2) hC trivial ⟨(cnt_end hl1), trivial⟩ hn1
   ·unfold F222s1_l1 at h
    obtain ⟨y6, h7, h⟩ := bindE h
    exact we (bs := [(decide ((cnt 0 n1) < (ln ([] : List Int))), true)]) (φ := fun s' => w1b = .next s') (st' := (st222s1_1 (n1 + 1))) (R' := (R222s1_1 (n1 + 1))) lv222s1 33 [true] [.row (([] : List Int).map pI) (cnt 0 n1) (pI a1), .row (([] : List Int).map pI) (((Int.toNat (cnt 0 n1)) : Nat) : Int) (pI a1), .call 255 [dO 0 0, dI a1] [.box 244 [I z1.1, DS q66 z1.2.1, DS q57 z1.2.2.1, DS q108 z1.2.2.2.1, I z1.2.2.2.2.1, I z1.2.2.2.2.2.1, .os 1, .os 2, .os 3, .os 4, .os 5], .sl 4 1 (z1.2.2.2.2.2.2.1.map pB), .sl 59 4 (z1.2.2.2.2.2.2.2.1.map q59), .sl 3 1 (z1.2.2.2.2.2.2.2.2.1.map pI), .sl 119 2 (z1.2.2.2.2.2.2.2.2.2.1.map q119), .sl 42 3 (z1.2.2.2.2.2.2.2.2.2.2.map q42)] (.tup []) (.box 244 (zb y6.board [.os 1, .os 2, .os 3, .os 4, .os 6]) :: zp y6.power [.non, .sl 42 3 (y6.acts.map q42)]) [0, 7, 8, 9, 10, 11]] [] 6 [0, 1, 2, 3, 4, 5, 6, 7, 8, 9, 10, 12] (zt y6.board (zu y6.power y6.acts)) hC ⟨row_get (get_cnt hx1 hl1), row_getN (get_cnt hx1 hl1), ⟨e255s1, (k255s1 (⟨(⟨z1.1, z1.2.1, z1.2.2.1, z1.2.2.2.1, z1.2.2.2.2.1, z1.2.2.2.2.2.1⟩ : api_Board), (⟨z1.2.2.2.2.2.2.1, z1.2.2.2.2.2.2.2.1, z1.2.2.2.2.2.2.2.2.1, z1.2.2.2.2.2.2.2.2.2.1⟩ : api_Power), z1.2.2.2.2.2.2.2.2.2.2⟩ : shed_relief) a1 _ h7)⟩, trivial⟩ ⟨(cnt_lt hi1 hl1), trivial⟩ (sI h).symm
  ·have h := hnext1 _ hs1
   replace h := sI h
   subst h
   exact wf (bs := []) lv222s1 20 [] [] [] [] 6 n11_ hC trivial trivial
theorem e222s1 : Enters Tryz.prog 222 := en Tryz.func222
def lv167 : List Nat := [0, 1, 2, 3, 4, 7, 10, 11, 12]
def st167_0 (x0 : api_Board) (z0 : Unit) : St := [(1, dO 0 0), (2, .d (DS pI [])), (3, dS 1), (10, dI (ln x0.Consumers)), (11, dI 0)]
def R167_0 (x0 : api_Board) (z0 : Unit) : List Res := [.box 29 (d29 x0), .sl 3 1 (([] : List Int).map pI)]
def sa167_0  (z0 : Unit) : St := [(1, dO 0 0), (2, .d (DS pI [])), (3, dS 1)]
def Ra167_0 (x0 : api_Board) (z0 : Unit) : List Res := [.box 29 (d29 x0), .sl 3 1 (([] : List Int).map pI)]
theorem k167 (x0 : api_Board) (r : (List Int)) (h : F167 x0 = some r) : CallOk Tryz.prog 167 [.agg (d29 x0)] [] (.d (.os 0)) [.sl 3 1 (r.map pI)] := by
 unfold F167 at h
 refine callOk_of 23 Tryz.func167 rfl rfl rfl fun C hC => ?_
 obtain ⟨y1, h2, h⟩ := bindE h
 rcases boolC ((y1 != 0)) with h3 | h3
 ·replace h := condT h3 h
  cases h
 ·replace h := condF h3 h
  refine ws (bs := [((y1 != 0), false)]) lv167 33 [false] [.call 92 [.agg (d29 x0)] [] (dI y1) [] [], .len (ln (x0.Consumers.map q108)) (ln x0.Consumers)] [.own 3 3 1] 0 [0, 1] (st167_0 x0 ()) (R167_0 x0 ()) hC ⟨⟨e92, (k92 x0 _ h2)⟩, len_map _ _, trivial⟩ ⟨h3, trivial⟩ ?_
  obtain ⟨w0, hm0, hret0, hnext0⟩ := andThen_inv h
  clear h
  refine WI_cut (by kernel_rfl) (fun s => w0 = .next s) (sa167_0) (Ra167_0 x0) ?_ fun z0 hs0 => ?_
  ·refine WI_blk (by kernel_rfl) ?_
   refine WI_while (by kernel_rfl) (F167_l0 x0) (st167_0 x0) (R167_0 x0) w0 1152921504606846976 () hm0 rfl rfl fun z0 w0b h hb0 hr0 => ?_
   unfold F167_l0 at h
   rcases boolC (decide (0 < (ln x0.Consumers))) with h4 | h4
   ·replace h := condT h4 h
    cases h
   ·replace h := condF h4 h
    exact we (bs := [(decide (0 < (ln x0.Consumers)), false)]) (φ := fun s' => w0 = .next s') (st' := (sa167_0)) (R' := (Ra167_0 x0)) lv167 26 [false] [] [] 0 [0, 1] () hC trivial ⟨h4, trivial⟩ (hb0 _ (sI h).symm)
  ·have h := hnext0 _ hs0
   obtain ⟨y5, h6, h⟩ := bindE h
   replace h := sI h
   subst h
   exact wr (bs := []) lv167 25 [] [.call 230 [dS 0, .d (.fn (.func 231) [] [.o 1 0])] [.sl 3 1 (([] : List Int).map pI), .box 29 (d29 x0)] (.tup []) [.sl 3 1 (([] : List Int).map pI), .box 29 (d29 y5)] [1, 0]] [] [.tmp 2] 0 [1] hC ⟨⟨e230s1, (k230s1 ([] : List Int) x0 _ h6)⟩, trivial⟩ trivial
theorem e167 : Enters Tryz.prog 167 := en Tryz.func167
def lv40 : List Nat := [0, 1, 2, 3, 4, 5, 6, 7, 12, 16, 31]
def st40_0  (z0 : Int × (List api_Island)) : St := [(2, dO 0 0), (3, dO 1 0), (4, .d (DS q78 [])), (5, dS 2), (6, dI z0.1)]
def R40_0 (x0 : api_Board) (x1 : api_Power) (z0 : Int × (List api_Island)) : List Res := [.box 29 (d29 x0), .box 35 (d35 x1), .sl 78 3 (z0.2.map q78)]
def sa40_0  (z0 : Int × (List api_Island)) : St := [(4, .d (DS q78 [])), (5, dS 0)]
def Ra40_0  (z0 : Int × (List api_Island)) : List Res := [.sl 78 3 (z0.2.map q78)]
theorem k40 (x0 : api_Board) (x1 : api_Power) (r : (List api_Island)) (h : F40 x0 x1 = some r) : CallOk Tryz.prog 40 [.agg (d29 x0), .agg (d35 x1)] [] (.d (.os 0)) [.sl 78 3 (r.map q78)] := by
 unfold F40 at h
 refine callOk_of 37 Tryz.func40 rfl rfl rfl fun C hC => ?_
 obtain ⟨y1, h2, h⟩ := bindE h
 refine ws (bs := []) lv40 26 [] [.call 27 [.agg (d29 x0), .agg (d35 x1)] [] (dI y1) [] []] [] 0 [0, 1] [(2, dO 0 0), (3, dO 1 0), (4, .d (DS q78 [])), (12, dB (y1 != 0))] [.box 29 (d29 x0), .box 35 (d35 x1)] hC ⟨⟨e27, (k27 x0 x1 _ h2)⟩, trivial⟩ trivial ?_
 rcases boolC ((y1 != 0)) with h3 | h3
 ·replace h := condT h3 h
  replace h := sI h
  subst h
  exact wr (bs := [((y1 != 0), true)]) lv40 24 [true] [] [.own 4 78 3] [.tmp 4] 0 [2] hC trivial ⟨h3, trivial⟩
 ·replace h := condF h3 h
  refine ws (bs := [((y1 != 0), false)]) lv40 28 [false] [] [.own 5 78 3] 0 n3_ (st40_0 (0, ([] : List api_Island))) (R40_0 x0 x1 (0, ([] : List api_Island))) hC trivial ⟨h3, trivial⟩ ?_
  obtain ⟨w0, hm0, hret0, hnext0⟩ := andThen_inv h
  clear h
  refine WI_cut (by kernel_rfl) (fun s => w0 = .next s) (sa40_0) (Ra40_0) ?_ fun z0 hs0 => ?_
  ·refine WI_blk (by kernel_rfl) ?_
   refine WI_while (by kernel_rfl) (F40_l0 x0 x1) (st40_0) (R40_0 x0 x1) w0 1152921504606846976 (0, ([] : List api_Island)) hm0 rfl rfl fun z0 w0b h hb0 hr0 => ?_
   unfold F40_l0 at h
   rcases boolC (decide (z0.1 < x0.Buses)) with h4 | h4
   ·replace h := condT h4 h
    obtain ⟨y5, h6, h⟩ := bindE h
    obtain ⟨y7, h8, h⟩ := bindE h
    refine ws (bs := [(decide (z0.1 < x0.Buses), true)]) lv40 32 [true] [.call 91 [.agg (d29 x0), .agg (d35 x1), dI z0.1] [] (.tup [.agg [.os 0, .os 1, .os 2], dB y5.2]) [.sl 3 1 (y5.1.Buses.map pI), .sl 3 1 (y5.1.Sources.map pI), .sl 3 1 (y5.1.Consumers.map pI)] [], .row (y5.1.Buses.map pI) 0 (pI y7), .row (y5.1.Buses.map pI) ((0 : Nat) : Int) (pI y7)] [] 0 n7_ [(2, dO 0 0), (3, dO 1 0), (4, .d (DS q78 [])), (5, dS 2), (6, dI z0.1), (7, dO 6 0), (31, dB (y7 == z0.1))] [.box 29 (d29 x0), .box 35 (d35 x1), .sl 78 3 (z0.2.map q78), .sl 3 1 (y5.1.Buses.map pI), .sl 3 1 (y5.1.Sources.map pI), .sl 3 1 (y5.1.Consumers.map pI), .box 78 [.os 3, .os 4, .os 5]] hC ⟨⟨e91, (k91 x0 x1 z0.1 _ h6)⟩, row_get h8, row_getN h8, trivial⟩ ⟨h4, trivial⟩ ?_
    rcases boolC ((y7 == z0.1)) with h9 | h9
    ·replace h := condT h9 h
     refine ws (bs := [((y7 == z0.1), true)]) lv40 1 [true] [] [.frz 3] 0 [0, 1, 2, 4, 5, 6] [(2, dO 0 0), (3, dO 1 0), (4, .d (DS q78 [])), (5, dS 2), (6, dI z0.1), (7, dO 5 0)] [.box 29 (d29 x0), .box 35 (d35 x1), .sl 78 3 (z0.2.map q78), .sl 3 1 (y5.1.Sources.map pI), .sl 3 1 (y5.1.Consumers.map pI), .box 78 [DS pI y5.1.Buses, .os 3, .os 4]] hC trivial ⟨h9, trivial⟩ ?_
     refine ws (bs := []) lv40 0 [] [] [.frz 3] 0 [0, 1, 2, 4, 5] [(2, dO 0 0), (3, dO 1 0), (4, .d (DS q78 [])), (5, dS 2), (6, dI z0.1), (7, dO 4 0)] [.box 29 (d29 x0), .box 35 (d35 x1), .sl 78 3 (z0.2.map q78), .sl 3 1 (y5.1.Consumers.map pI), .box 78 [DS pI y5.1.Buses, DS pI y5.1.Sources, .os 3]] hC trivial trivial ?_
     refine ws (bs := []) lv40 0 [] [] [.frz 3] 0 [0, 1, 2, 4] [(2, dO 0 0), (3, dO 1 0), (4, .d (DS q78 [])), (5, dS 2), (6, dI z0.1), (7, dO 3 0)] [.box 29 (d29 x0), .box 35 (d35 x1), .sl 78 3 (z0.2.map q78), .box 78 (d78 y5.1)] hC trivial trivial ?_
     obtain ⟨y10, h11, h⟩ := bindE h
     exact we (bs := []) (φ := fun s' => w0b = .next s') (st' := (st40_0)) (R' := (R40_0 x0 x1)) lv40 24 [] [.app (z0.2.map q78) ([y5.1].map q78) 3 (((z0.2.map q78).length + ([y5.1].map q78).length) * (72 + 1)) (y10.map q78)] [] 0 [0, 1, 4] (w64 (z0.1 + 1), y10) hC ⟨app_get q78 3 (fun _ => rfl) h11, trivial⟩ trivial (sI h).symm
    ·replace h := condF h9 h
     exact we (bs := [((y7 == z0.1), false)]) (φ := fun s' => w0b = .next s') (st' := (st40_0)) (R' := (R40_0 x0 x1)) lv40 25 [false] [] [] 0 n3_ (w64 (z0.1 + 1), z0.2) hC trivial ⟨h9, trivial⟩ (sI h).symm
   ·replace h := condF h4 h
    exact we (bs := [(decide (z0.1 < x0.Buses), false)]) (φ := fun s' => w0 = .next s') (st' := (sa40_0)) (R' := (Ra40_0)) lv40 26 [false] [] [] 0 [2] (z0.1, z0.2) hC trivial ⟨h4, trivial⟩ (hb0 _ (sI h).symm)
  ·have h := hnext0 _ hs0
   replace h := sI h
   subst h
   exact wr (bs := []) lv40 23 [] [] [] [.tmp 4] 0 [0] hC trivial trivial
theorem e40 : Enters Tryz.prog 40 := en Tryz.func40
def lv168 : List Nat := [0, 1, 2, 3, 4, 6, 7, 11]
theorem k168 (x0 : api_Board) (x1 : api_Power) (x2 : Int) (r : Int × Bool) (h : F168 x0 x1 x2 = some r) : CallOk Tryz.prog 168 [.agg (d29 x0), .agg (d35 x1), .d (I x2)] [] (.tup [.d (I r.1), .d (Bo r.2)]) [] := by
 unfold F168 at h
 refine callOk_of 18 Tryz.func168 rfl rfl rfl fun C hC => ?_
 obtain ⟨y1, h2, h⟩ := bindE h
 refine ws (bs := []) lv168 26 [] [.call 65 [.agg (d29 x0), .agg (d35 x1)] [] (dI y1) [] []] [] 0 [0, 1] [(2, dI x2), (3, dO 0 0), (4, dO 1 0), (6, dI 0), (7, dB false), (11, dB (y1 != 0))] [.box 29 (d29 x0), .box 35 (d35 x1)] hC ⟨⟨e65, (k65 x0 x1 _ h2)⟩, trivial⟩ trivial ?_
 rcases boolC ((y1 != 0)) with h3 | h3
 ·replace h := condT h3 h
  replace h := sI h
  subst h
  exact wr (bs := [((y1 != 0), true)]) lv168 24 [true] [] [] [.tmp 6, .tmp 7] 0 [] hC trivial ⟨h3, trivial⟩
 ·replace h := condF h3 h
  obtain ⟨y4, h5, h⟩ := bindE h
  replace h := sI h
  subst h
  exact wr (bs := [((y1 != 0), false)]) lv168 25 [false] [.call 188 [.agg (d29 x0), .agg (d35 x1), dI x2] [] (.tup [dI y4.1, dB y4.2]) [] []] [] [.tmp 6, .tmp 7] 0 [] hC ⟨⟨e188, (k188 x0 x1 x2 _ h5)⟩, trivial⟩ ⟨h3, trivial⟩
theorem e168 : Enters Tryz.prog 168 := en Tryz.func168
def lv106 : List Nat := [0, 1, 2, 3, 4, 5, 6, 7, 8, 9, 10, 11, 12, 13, 14, 18, 25, 26, 27, 28, 47, 48, 49, 58, 80, 81, 82, 91]
def st106_0 (y4 : (List Int)) (n0 : Nat) (z0 : (List api_Island)) : St := [(2, dO 0 0), (3, dO 1 0), (4, .d (DS q78 [])), (5, dS 2), (6, dS 3), (25, dS 2), (26, dI (ln y4)), (27, dI (cnt 0 n0))]
def R106_0 (x0 : api_Board) (x1 : api_Power) (y4 : (List Int)) (n0 : Nat) (z0 : (List api_Island)) : List Res := [.box 29 (d29 x0), .box 35 (d35 x1), .sl 3 1 (y4.map pI), .dsl 78 3 4, .gh 3 [(3, 1), (3, 1), (3, 1)] (z0.map q78) none]
def sa106_0  (z0 : (List api_Island)) : St := [(2, dO 0 0), (3, dO 1 0), (4, .d (DS q78 [])), (5, dS 2), (6, dS 3)]
def Ra106_0 (x0 : api_Board) (x1 : api_Power) (y4 : (List Int)) (z0 : (List api_Island)) : List Res := [.box 29 (d29 x0), .box 35 (d35 x1), .sl 3 1 (y4.map pI), .dsl 78 3 4, .gh 3 [(3, 1), (3, 1), (3, 1)] (z0.map q78) none]
def st106_1 (x0 : api_Board) (z1 : Int × (List api_Island)) : St := [(2, dO 0 0), (3, dO 1 0), (4, .d (DS q78 [])), (5, dS 2), (6, dS 3), (47, dI (ln x0.Sources)), (48, dI z1.1)]
def R106_1 (x0 : api_Board) (x1 : api_Power) (y4 : (List Int)) (z1 : Int × (List api_Island)) : List Res := [.box 29 (d29 x0), .box 35 (d35 x1), .sl 3 1 (y4.map pI), .dsl 78 3 4, .gh 3 [(3, 1), (3, 1), (3, 1)] (z1.2.map q78) none]
def sa106_1  (z1 : Int × (List api_Island)) : St := [(2, dO 0 0), (3, dO 1 0), (4, .d (DS q78 [])), (5, dS 2), (6, dS 3)]
def Ra106_1 (x0 : api_Board) (x1 : api_Power) (y4 : (List Int)) (z1 : Int × (List api_Island)) : List Res := [.box 29 (d29 x0), .box 35 (d35 x1), .sl 3 1 (y4.map pI), .dsl 78 3 4, .gh 3 [(3, 1), (3, 1), (3, 1)] (z1.2.map q78) none]
def st106_2 (x0 : api_Board) (z2 : Int × (List api_Island)) : St := [(2, dO 0 0), (3, dO 1 0), (4, .d (DS q78 [])), (5, dS 2), (6, dS 3), (80, dI (ln x0.Consumers)), (81, dI z2.1)]
def R106_2 (x0 : api_Board) (x1 : api_Power) (y4 : (List Int)) (z2 : Int × (List api_Island)) : List Res := [.box 29 (d29 x0), .box 35 (d35 x1), .sl 3 1 (y4.map pI), .dsl 78 3 4, .gh 3 [(3, 1), (3, 1), (3, 1)] (z2.2.map q78) none]
def sa106_2  (z2 : Int × (List api_Island)) : St := [(4, .d (DS q78 [])), (6, dS 0)]
def Ra106_2  (z2 : Int × (List api_Island)) : List Res := [.dsl 78 3 1, .gh 3 [(3, 1), (3, 1), (3, 1)] (z2.2.map q78) none]
theorem k106 (x0 : api_Board) (x1 : api_Power) (r : (List api_Island)) (h : F106 x0 x1 = some r) : CallOk Tryz.prog 106 [.agg (d29 x0), .agg (d35 x1)] [] (.d (.os 0)) [.sl 78 3 (r.map q78)] := by
 unfold F106 at h
 refine callOk_of 113 Tryz.func106 rfl rfl rfl fun C hC => ?_
 obtain ⟨y1, h2, h⟩ := bindE h
 refine ws (bs := []) lv106 26 [] [.call 65 [.agg (d29 x0), .agg (d35 x1)] [] (dI y1) [] []] [] 0 [0, 1] [(2, dO 0 0), (3, dO 1 0), (4, .d (DS q78 [])), (18, dB (y1 != 0))] [.box 29 (d29 x0), .box 35 (d35 x1)] hC ⟨⟨e65, (k65 x0 x1 _ h2)⟩, trivial⟩ trivial ?_
 rcases boolC ((y1 != 0)) with h3 | h3
 ·replace h := condT h3 h
  replace h := sI h
  subst h
  exact wr (bs := [((y1 != 0), true)]) lv106 24 [true] [] [.own 4 78 3] [.tmp 4] 0 [2] hC trivial ⟨h3, trivial⟩
 ·replace h := condF h3 h
  obtain ⟨y4, h5, h⟩ := bindE h
  obtain ⟨y6, h7, h⟩ := bindE h
  refine ws (bs := [((y1 != 0), false)]) lv106 30 [false] [.call 186 [.agg (d29 x0), .agg (d35 x1)] [] (dS 0) [.sl 3 1 (y4.map pI)] [], .roomZ (x0.Buses * (72 + 1)) (List.replicate (Int.toNat x0.Buses) (q78 (⟨([] : List Int), ([] : List Int), ([] : List Int)⟩ : api_Island))) (y6.map q78), .len (ln (y4.map pI)) (ln y4)] [.deep 3 [(3, 1), (3, 1), (3, 1)]] 0 n5_ (st106_0 y4 0 y6) (R106_0 x0 x1 y4 0 y6) hC ⟨⟨e186, (k186 x0 x1 _ h5)⟩, makez_get h7, len_map _ _, trivial⟩ ⟨h3, trivial⟩ ?_
  obtain ⟨w0, hm0, hret0, hnext0⟩ := andThen_inv h
  clear h
  refine WI_cut (by kernel_rfl) (fun s => w0 = .next s) (sa106_0) (Ra106_0 x0 x1 y4) ?_ fun z0 hs0 => ?_
  ·refine WI_blk (by kernel_rfl) ?_
   refine WI_lenO 25 2 rfl rfl fun hl0 => ?_
   refine WI_foldI (by kernel_rfl) F106_l0 (st106_0 y4) (R106_0 x0 x1 y4) w0 y4 y6 hm0 rfl rfl (fun z0 hn0 => ?_) fun n0 a0 z0 w0b hi0 hx0 h hb0 hr0 => ?_
   ·clear hm0
    exact we (bs := [(decide ((cnt 0 y4.length) < (ln y4)), false)]) (φ := fun s' => w0 = .next s') (st' := (sa106_0)) (R' := (Ra106_0 x0 x1 y4)) lv106 26 [false] [] [] 0 n5_ z0 hC trivial ⟨(cnt_end hl0), trivial⟩ hn0
   ·unfold F106_l0 at h
    obtain ⟨y8, h9, h⟩ := bindE h
    obtain ⟨y10, h11, h⟩ := bindE h
    obtain ⟨y12, h13, h⟩ := bindE h
    exact we (bs := [(decide ((cnt 0 n0) < (ln y4)), true)]) (φ := fun s' => w0b = .next s') (st' := (st106_0 y4 (n0 + 1))) (R' := (R106_0 x0 x1 y4 (n0 + 1))) lv106 33 [true] [.row (y4.map pI) (cnt 0 n0) (pI a0), .row (y4.map pI) (((Int.toNat (cnt 0 n0)) : Nat) : Int) (pI a0), .row (z0.map q78) a0 (q78 y8), .row (z0.map q78) (((Int.toNat a0) : Nat) : Int) (q78 y8), .appD (z0.map q78) (Int.toNat a0) (q78 y8) 0 (y8.Buses.map pI) ([cnt 0 n0].map pI) 1 (((y8.Buses.map pI).length + ([cnt 0 n0].map pI).length) * (8 + 1)) (y10.map pI), .row (z0.map q78) a0 (q78 y8), .updD (z0.map q78) (Int.toNat a0) (Int.toNat a0) (q78 y8) (q78 (⟨y10, y8.Sources, y8.Consumers⟩ : api_Island)) (y12.map q78)] [] 0 [0, 1, 2, 3, 8] y12 hC ⟨row_get (get_cnt hx0 hl0), row_getN (get_cnt hx0 hl0), row_get h9, row_getN h9, appD_get 1 (fun _ => rfl) h9 rfl h11, row_get h9, updD_get h9 h13, trivial⟩ ⟨(cnt_lt hi0 hl0), trivial⟩ (sI h).symm
  ·have h := hnext0 _ hs0
   refine ws (bs := []) lv106 24 [] [.len (ln (x0.Sources.map q57)) (ln x0.Sources)] [] 0 n5_ (st106_1 x0 (0, z0)) (R106_1 x0 x1 y4 (0, z0)) hC ⟨len_map _ _, trivial⟩ trivial ?_
   obtain ⟨w1, hm1, hret1, hnext1⟩ := andThen_inv h
   clear h
   refine WI_cut (by kernel_rfl) (fun s => w1 = .next s) (sa106_1) (Ra106_1 x0 x1 y4) ?_ fun z1 hs1 => ?_
   ·refine WI_blk (by kernel_rfl) ?_
    refine WI_while (by kernel_rfl) (F106_l1 x0 x1 y4) (st106_1 x0) (R106_1 x0 x1 y4) w1 1152921504606846976 (0, z0) hm1 rfl rfl fun z1 w1b h hb1 hr1 => ?_
    unfold F106_l1 at h
    rcases boolC ((c106_1 x0 z1)) with h14 | h14
    ·replace h := condT h14 h
     obtain ⟨y15, h16, h⟩ := bindE h
     refine ws (bs := [((c106_1 x0 z1), true)]) lv106 34 [true] [.call 187 [.agg (d29 x0), .agg (d35 x1), dI z1.1] [] (.tup [dI y15.1, dB y15.2]) [] []] [] 0 n5_ [(2, dO 0 0), (3, dO 1 0), (4, .d (DS q78 [])), (5, dS 2), (6, dS 3), (9, dI z1.1), (10, dI y15.1), (47, dI (ln x0.Sources)), (48, dI z1.1), (58, dB y15.2)] [.box 29 (d29 x0), .box 35 (d35 x1), .sl 3 1 (y4.map pI), .dsl 78 3 4, .gh 3 [(3, 1), (3, 1), (3, 1)] (z1.2.map q78) none] hC ⟨⟨e187, (k187 x0 x1 z1.1 _ h16)⟩, trivial⟩ ⟨h14, trivial⟩ ?_
     rcases boolC (y15.2) with h17 | h17
     ·replace h := condT h17 h
      obtain ⟨y18, h19, h⟩ := bindE h
      obtain ⟨y20, h21, h⟩ := bindE h
      obtain ⟨y22, h23, h⟩ := bindE h
      obtain ⟨y24, h25, h⟩ := bindE h
      exact we (bs := [(y15.2, true)]) (φ := fun s' => w1b = .next s') (st' := (st106_1 x0)) (R' := (R106_1 x0 x1 y4)) lv106 25 [true] [.row (y4.map pI) y15.1 (pI y18), .row (y4.map pI) (((Int.toNat y15.1) : Nat) : Int) (pI y18), .row (y4.map pI) y15.1 (pI y18), .row (y4.map pI) (((Int.toNat y15.1) : Nat) : Int) (pI y18), .row (z1.2.map q78) y18 (q78 y20), .row (z1.2.map q78) (((Int.toNat y18) : Nat) : Int) (q78 y20), .appD (z1.2.map q78) (Int.toNat y18) (q78 y20) 1 (y20.Sources.map pI) ([z1.1].map pI) 1 (((y20.Sources.map pI).length + ([z1.1].map pI).length) * (8 + 1)) (y22.map pI), .row (z1.2.map q78) y18 (q78 y20), .updD (z1.2.map q78) (Int.toNat y18) (Int.toNat y18) (q78 y20) (q78 (⟨y20.Buses, y22, y20.Consumers⟩ : api_Island)) (y24.map q78)] [] 0 [0, 1, 2, 3, 8] (w64 (z1.1 + 1), y24) hC ⟨row_get h19, row_getN h19, row_get h19, row_getN h19, row_get h21, row_getN h21, appD_get 1 (fun _ => rfl) h21 rfl h23, row_get h21, updD_get h21 h25, trivial⟩ ⟨h17, trivial⟩ (sI h).symm
     ·replace h := condF h17 h
      exact we (bs := [(y15.2, false)]) (φ := fun s' => w1b = .next s') (st' := (st106_1 x0)) (R' := (R106_1 x0 x1 y4)) lv106 25 [false] [] [] 0 n5_ (w64 (z1.1 + 1), z1.2) hC trivial ⟨h17, trivial⟩ (sI h).symm
    ·replace h := condF h14 h
     exact we (bs := [((c106_1 x0 z1), false)]) (φ := fun s' => w1 = .next s') (st' := (sa106_1)) (R' := (Ra106_1 x0 x1 y4)) lv106 26 [false] [] [] 0 n5_ (z1.1, z1.2) hC trivial ⟨h14, trivial⟩ (hb1 _ (sI h).symm)
   ·have h := hnext1 _ hs1
    refine ws (bs := []) lv106 24 [] [.len (ln (x0.Consumers.map q108)) (ln x0.Consumers)] [] 0 n5_ (st106_2 x0 (0, z1.2)) (R106_2 x0 x1 y4 (0, z1.2)) hC ⟨len_map _ _, trivial⟩ trivial ?_
    obtain ⟨w2, hm2, hret2, hnext2⟩ := andThen_inv h
    clear h
    refine WI_cut (by kernel_rfl) (fun s => w2 = .next s) (sa106_2) (Ra106_2) ?_ fun z2 hs2 => ?_
    ·refine WI_blk (by kernel_rfl) ?_
     refine WI_while (by kernel_rfl) (F106_l2 x0 x1 y4) (st106_2 x0) (R106_2 x0 x1 y4) w2 1152921504606846976 (0, z1.2) hm2 rfl rfl fun z2 w2b h hb2 hr2 => ?_
     unfold F106_l2 at h
     rcases boolC ((c106_3 x0 z2)) with h26 | h26
     ·replace h := condT h26 h
      obtain ⟨y27, h28, h⟩ := bindE h
      refine ws (bs := [((c106_3 x0 z2), true)]) lv106 34 [true] [.call 188 [.agg (d29 x0), .agg (d35 x1), dI z2.1] [] (.tup [dI y27.1, dB y27.2]) [] []] [] 0 n5_ [(2, dO 0 0), (3, dO 1 0), (4, .d (DS q78 [])), (5, dS 2), (6, dS 3), (12, dI z2.1), (13, dI y27.1), (80, dI (ln x0.Consumers)), (81, dI z2.1), (91, dB y27.2)] [.box 29 (d29 x0), .box 35 (d35 x1), .sl 3 1 (y4.map pI), .dsl 78 3 4, .gh 3 [(3, 1), (3, 1), (3, 1)] (z2.2.map q78) none] hC ⟨⟨e188, (k188 x0 x1 z2.1 _ h28)⟩, trivial⟩ ⟨h26, trivial⟩ ?_
      rcases boolC (y27.2) with h29 | h29
      ·replace h := condT h29 h
       obtain ⟨y30, h31, h⟩ := bindE h
       obtain ⟨y32, h33, h⟩ := bindE h
       obtain ⟨y34, h35, h⟩ := bindE h
       obtain ⟨y36, h37, h⟩ := bindE h
       exact we (bs := [(y27.2, true)]) (φ := fun s' => w2b = .next s') (st' := (st106_2 x0)) (R' := (R106_2 x0 x1 y4)) lv106 25 [true] [.row (y4.map pI) y27.1 (pI y30), .row (y4.map pI) (((Int.toNat y27.1) : Nat) : Int) (pI y30), .row (y4.map pI) y27.1 (pI y30), .row (y4.map pI) (((Int.toNat y27.1) : Nat) : Int) (pI y30), .row (z2.2.map q78) y30 (q78 y32), .row (z2.2.map q78) (((Int.toNat y30) : Nat) : Int) (q78 y32), .appD (z2.2.map q78) (Int.toNat y30) (q78 y32) 2 (y32.Consumers.map pI) ([z2.1].map pI) 1 (((y32.Consumers.map pI).length + ([z2.1].map pI).length) * (8 + 1)) (y34.map pI), .row (z2.2.map q78) y30 (q78 y32), .updD (z2.2.map q78) (Int.toNat y30) (Int.toNat y30) (q78 y32) (q78 (⟨y32.Buses, y32.Sources, y34⟩ : api_Island)) (y36.map q78)] [] 0 [0, 1, 2, 3, 8] (w64 (z2.1 + 1), y36) hC ⟨row_get h31, row_getN h31, row_get h31, row_getN h31, row_get h33, row_getN h33, appD_get 1 (fun _ => rfl) h33 rfl h35, row_get h33, updD_get h33 h37, trivial⟩ ⟨h29, trivial⟩ (sI h).symm
      ·replace h := condF h29 h
       exact we (bs := [(y27.2, false)]) (φ := fun s' => w2b = .next s') (st' := (st106_2 x0)) (R' := (R106_2 x0 x1 y4)) lv106 25 [false] [] [] 0 n5_ (w64 (z2.1 + 1), z2.2) hC trivial ⟨h29, trivial⟩ (sI h).symm
     ·replace h := condF h26 h
      exact we (bs := [((c106_3 x0 z2), false)]) (φ := fun s' => w2 = .next s') (st' := (sa106_2)) (R' := (Ra106_2)) lv106 26 [false] [] [] 0 [3, 4] (z2.1, z2.2) hC trivial ⟨h26, trivial⟩ (hb2 _ (sI h).symm)
    ·have h := hnext2 _ hs2
     refine ws (bs := []) lv106 1 [] [] [.flat 0] 0 [0] [(4, .d (DS q78 [])), (6, dS 0)] [.sl 78 3 (z2.2.map q78)] hC trivial trivial ?_
     obtain ⟨y38, h39, h⟩ := bindE h
     replace h := sI h
     subst h
     exact wr (bs := []) lv106 22 [] [.call 189 [dS 0, .d (.fn (.func 190) [] [])] [.sl 78 3 (z2.2.map q78)] (dS 1) [.non, .sl 78 3 (y38.map q78)] [0]] [] [.tmp 4] 0 [1] hC ⟨⟨e189s1, (k189s1 z2.2 _ h39)⟩, trivial⟩ trivial
theorem e106 : Enters Tryz.prog 106 := en Tryz.func106
def lv143 : List Nat := [0, 1, 2, 3, 4, 6, 7, 8, 9, 13, 18, 29]
theorem k143 (x0 : api_Board) (x1 : api_Power) (x2 : Int) (r : api_Power × Int) (h : F143 x0 x1 x2 = some r) : CallOk Tryz.prog 143 [.agg (d29 x0), .agg (d35 x1), .d (I x2)] [] (.tup [.agg [.os 0, .os 1, .os 2, .os 3], .d (I r.2)]) (zp r.1 []) := by
 unfold F143 at h
 refine callOk_of 49 Tryz.func143 rfl rfl rfl fun C hC => ?_
 obtain ⟨y1, h2, h⟩ := bindE h
 refine ws (bs := []) lv143 29 [] [.call 65 [.agg (d29 x0), .agg (d35 x1)] [] (dI y1) [] []] [.ownb 2 0 4 1, .ownb 2 1 59 4, .ownb 2 2 3 1, .ownb 2 3 119 2] 0 n7_ [(2, dI x2), (3, dO 0 0), (4, dO 1 0), (6, dO 2 0), (7, dI 0), (8, dI y1), (13, dB (y1 != 0))] (.box 29 (d29 x0) :: .box 35 (d35 x1) :: .box 35 [.os 3, .os 4, .os 5, .os 6] :: ze []) hC ⟨⟨e65, (k65 x0 x1 _ h2)⟩, trivial⟩ trivial ?_
 rcases boolC ((y1 != 0)) with h3 | h3
 ·replace h := condT h3 h
  replace h := sI h
  subst h
  exact wr (bs := [((y1 != 0), true)]) lv143 24 [true] [] [.ownb 2 0 4 1, .ownb 2 1 59 4, .ownb 2 2 3 1, .ownb 2 3 119 2] [.cell 6 35, .tmp 7] 0 [7, 8, 9, 10] hC trivial ⟨h3, trivial⟩
 ·replace h := condF h3 h
  rcases boolC ((c143_0 x0 x2)) with h4 | h4
  ·replace h := condT h4 h
   replace h := sI h
   subst h
   exact wr (bs := [((y1 != 0), false), ((c143_0 x0 x2), true)]) lv143 27 [false, true] [.when [(decide (x2 < 0), false)] (.len (ln (x0.Breakers.map q66)) (ln x0.Breakers))] [.ownb 2 0 4 1, .ownb 2 1 59 4, .ownb 2 2 3 1, .ownb 2 3 119 2] [.cell 6 35, .tmp 7] 0 [7, 8, 9, 10] hC ⟨fun hg => len_map _ _, trivial⟩ ⟨h3, h4, trivial⟩
  ·replace h := condF h4 h
   obtain ⟨y5, h6, h⟩ := bindE h
   obtain ⟨y7, h8, h⟩ := bindE h
   refine ws (bs := [((y1 != 0), false), ((c143_0 x0 x2), false)]) lv143 27 [false, false] [.when [(decide (x2 < 0), false)] (.len (ln (x0.Breakers.map q66)) (ln x0.Breakers)), .row (x1.Closed.map pB) x2 (pB y5), .when [(!y5, false)] (.call 134 [.agg (d35 x1), dI 2, dI x2] [] (dB y7) [] [])] [] 0 [1, 2, 3, 4, 5, 6] [(2, dI x2), (4, dO 0 0), (6, dO 1 0), (7, dI 0), (29, dB ((!y5) || y7))] (.box 35 (d35 x1) :: .box 35 [.os 2, .os 3, .os 4, .os 5] :: ze []) hC ⟨fun hg => len_map _ _, row_get h6, fun hg => ⟨e134, (k134 x1 2 x2 _ (guardO_get h8 hg))⟩, trivial⟩ ⟨h3, h4, trivial⟩ ?_
   rcases boolC (((!y5) || y7)) with h9 | h9
   ·replace h := condT h9 h
    replace h := sI h
    subst h
    exact wr (bs := [(((!y5) || y7), true)]) lv143 24 [true] [] [.ownb 1 0 4 1, .ownb 1 1 59 4, .ownb 1 2 3 1, .ownb 1 3 119 2] [.cell 6 35, .tmp 7] 0 [6, 7, 8, 9] hC trivial ⟨h9, trivial⟩
   ·replace h := condF h9 h
    obtain ⟨y10, h11, h⟩ := bindE h
    obtain ⟨y12, h13, h⟩ := bindE h
    obtain ⟨y14, h15, h⟩ := bindE h
    replace h := sI h
    subst h
    exact wr (bs := [(((!y5) || y7), false)]) lv143 30 [false] [.call 70 [.agg (d35 x1)] [] (.agg [.os 0, .os 1, .os 2, .os 3]) (zp y10 []) [], .row (y10.Closed.map pB) x2 (pB y12), .upd (y10.Closed.map pB) (Int.toNat x2) (pB y12) (pB false) (y14.map pB)] [] [.cell 6 35, .tmp 7] 0 [6, 7, 8, 9] hC ⟨⟨e70, (k70 x1 _ h11)⟩, row_get h13, upd_get h13 h15, trivial⟩ ⟨h9, trivial⟩
theorem e143 : Enters Tryz.prog 143 := en Tryz.func143
def lv215 : List Nat := [0, 1, 2, 3, 4, 6, 7, 11]
theorem k215 (x0 : api_Board) (x1 : api_Power) (x2 : Int) (r : Int × Bool) (h : F215 x0 x1 x2 = some r) : CallOk Tryz.prog 215 [.agg (d29 x0), .agg (d35 x1), .d (I x2)] [] (.tup [.d (I r.1), .d (Bo r.2)]) [] := by
 unfold F215 at h
 refine callOk_of 18 Tryz.func215 rfl rfl rfl fun C hC => ?_
 obtain ⟨y1, h2, h⟩ := bindE h
 refine ws (bs := []) lv215 26 [] [.call 65 [.agg (d29 x0), .agg (d35 x1)] [] (dI y1) [] []] [] 0 [0, 1] [(2, dI x2), (3, dO 0 0), (4, dO 1 0), (6, dI 0), (7, dB false), (11, dB (y1 != 0))] [.box 29 (d29 x0), .box 35 (d35 x1)] hC ⟨⟨e65, (k65 x0 x1 _ h2)⟩, trivial⟩ trivial ?_
 rcases boolC ((y1 != 0)) with h3 | h3
 ·replace h := condT h3 h
  replace h := sI h
  subst h
  exact wr (bs := [((y1 != 0), true)]) lv215 24 [true] [] [] [.tmp 6, .tmp 7] 0 [] hC trivial ⟨h3, trivial⟩
 ·replace h := condF h3 h
  obtain ⟨y4, h5, h⟩ := bindE h
  replace h := sI h
  subst h
  exact wr (bs := [((y1 != 0), false)]) lv215 25 [false] [.call 187 [.agg (d29 x0), .agg (d35 x1), dI x2] [] (.tup [dI y4.1, dB y4.2]) [] []] [] [.tmp 6, .tmp 7] 0 [] hC ⟨⟨e187, (k187 x0 x1 x2 _ h5)⟩, trivial⟩ ⟨h3, trivial⟩
theorem e215 : Enters Tryz.prog 215 := en Tryz.func215
def lv217 : List Nat := [0, 1, 2, 3, 4, 5, 6, 7, 8, 9, 14, 20, 21, 22, 23, 29]
def st217_0 (x1 : api_Power) (n0 : Nat) (z0 : (List api_Running)) : St := [(4, dO 0 0), (5, dI 0), (7, dO 9 0), (20, .d (DS q59 x1.Sources)), (21, dI (ln x1.Sources)), (22, dI (cnt 0 n0))]
def R217_0 (y4 : api_Power) (n0 : Nat) (z0 : (List api_Running)) : List Res := (.box 35 [.os 1, .os 2, .os 3, .os 4] :: ze [.sl 4 1 (y4.Closed.map pB), .sl 59 4 (z0.map q59), .sl 3 1 (y4.Limits.map pI), .sl 119 2 (y4.Broken.map q119), .box 35 [.os 5, .os 6, .os 7, .os 8]])
def sa217_0  (z0 : (List api_Running)) : St := [(4, dO 0 0), (5, dI 0), (7, dO 9 0)]
def Ra217_0 (y4 : api_Power) (z0 : (List api_Running)) : List Res := (.box 35 [.os 1, .os 2, .os 3, .os 4] :: ze [.sl 4 1 (y4.Closed.map pB), .sl 59 4 (z0.map q59), .sl 3 1 (y4.Limits.map pI), .sl 119 2 (y4.Broken.map q119), .box 35 [.os 5, .os 6, .os 7, .os 8]])
theorem k217 (x0 : api_Board) (x1 : api_Power) (r : api_Power × Int) (h : F217 x0 x1 = some r) : CallOk Tryz.prog 217 [.agg (d29 x0), .agg (d35 x1)] [] (.tup [.agg [.os 0, .os 1, .os 2, .os 3], .d (I r.2)]) (zp r.1 []) := by
 unfold F217 at h
 refine callOk_of 45 Tryz.func217 rfl rfl rfl fun C hC => ?_
 obtain ⟨y1, h2, h⟩ := bindE h
 refine ws (bs := []) lv217 28 [] [.call 65 [.agg (d29 x0), .agg (d35 x1)] [] (dI y1) [] []] [.ownb 2 0 4 1, .ownb 2 1 59 4, .ownb 2 2 3 1, .ownb 2 3 119 2] 0 [1, 2, 3, 4, 5, 6] [(3, dO 0 0), (4, dO 1 0), (5, dI 0), (6, dI y1), (14, dB (y1 != 0))] (.box 35 (d35 x1) :: .box 35 [.os 2, .os 3, .os 4, .os 5] :: ze []) hC ⟨⟨e65, (k65 x0 x1 _ h2)⟩, trivial⟩ trivial ?_
 rcases boolC ((y1 != 0)) with h3 | h3
 ·replace h := condT h3 h
  replace h := sI h
  subst h
  exact wr (bs := [((y1 != 0), true)]) lv217 24 [true] [] [.ownb 1 0 4 1, .ownb 1 1 59 4, .ownb 1 2 3 1, .ownb 1 3 119 2] [.cell 4 35, .tmp 5] 0 [6, 7, 8, 9] hC trivial ⟨h3, trivial⟩
 ·replace h := condF h3 h
  obtain ⟨y4, h5, h⟩ := bindE h
  refine ws (bs := [((y1 != 0), false)]) lv217 28 [false] [.call 70 [.agg (d35 x1)] [] (.agg [.os 0, .os 1, .os 2, .os 3]) (zp y4 []) [], .len (ln (x1.Sources.map q59)) (ln x1.Sources)] [] 0 [1, 2, 3, 4, 5, 6, 7, 8, 9, 10] (st217_0 x1 0 y4.Sources) (R217_0 y4 0 y4.Sources) hC ⟨⟨e70, (k70 x1 _ h5)⟩, len_map _ _, trivial⟩ ⟨h3, trivial⟩ ?_
  obtain ⟨w0, hm0, hret0, hnext0⟩ := andThen_inv h
  clear h
  refine WI_cut (by kernel_rfl) (fun s => w0 = .next s) (sa217_0) (Ra217_0 y4) ?_ fun z0 hs0 => ?_
  ·refine WI_blk (by kernel_rfl) ?_
   refine WI_len 20 rfl fun hl0 => ?_
   refine WI_foldI (by kernel_rfl) F217_l0 (st217_0 x1) (R217_0 y4) w0 x1.Sources y4.Sources hm0 rfl rfl (fun z0 hn0 => ?_) fun n0 a0 z0 w0b hi0 hx0 h hb0 hr0 => ?_
   ·clear hm0
    exact we (bs := [(decide ((cnt 0 x1.Sources.length) < (ln x1.Sources)), false)]) (φ := fun s' => w0 = .next s') (st' := (sa217_0)) (R' := (Ra217_0 y4)) lv217 26 [false] [] [] 0 n10_ z0 hC trivial ⟨(cnt_end hl0), trivial⟩ hn0
   ·unfold F217_l0 at h
    rcases boolC ((a0.State == 2)) with h6 | h6
    ·replace h := condT h6 h
     obtain ⟨y7, h8, h⟩ := bindE h
     obtain ⟨y9, h10, h⟩ := bindE h
     exact we (bs := [(decide ((cnt 0 n0) < (ln x1.Sources)), true), ((a0.State == 2), true)]) (φ := fun s' => w0b = .next s') (st' := (st217_0 x1 (n0 + 1))) (R' := (R217_0 y4 (n0 + 1))) lv217 36 [true, true] [.row (x1.Sources.map q59) (cnt 0 n0) (q59 a0), .call 252 [.d (I (w64 (a0.Phase + (w64 (36 * (w64 (a0.Frequency - 5000)))))))] [] (.d (I (F252 (w64 (a0.Phase + (w64 (36 * (w64 (a0.Frequency - 5000))))))))) [] [], .row (z0.map q59) (cnt 0 n0) (q59 y7), .upd (z0.map q59) (Int.toNat (cnt 0 n0)) (q59 y7) (q59 (⟨y7.State, y7.Since, y7.Frequency, F252 (w64 (a0.Phase + (w64 (36 * (w64 (a0.Frequency - 5000))))))⟩ : api_Running)) (y9.map q59)] [] 0 n10_ y9 hC ⟨(row_cnt hx0 hl0), ⟨e252, (k252 (w64 (a0.Phase + (w64 (36 * (w64 (a0.Frequency - 5000)))))) _ rfl)⟩, row_get h8, upd_get h8 h10, trivial⟩ ⟨(cnt_lt hi0 hl0), h6, trivial⟩ (sI h).symm
    ·replace h := condF h6 h
     exact we (bs := [(decide ((cnt 0 n0) < (ln x1.Sources)), true), ((a0.State == 2), false)]) (φ := fun s' => w0b = .next s') (st' := (st217_0 x1 (n0 + 1))) (R' := (R217_0 y4 (n0 + 1))) lv217 36 [true, false] [.row (x1.Sources.map q59) (cnt 0 n0) (q59 a0)] [] 0 n10_ z0 hC ⟨(row_cnt hx0 hl0), trivial⟩ ⟨(cnt_lt hi0 hl0), h6, trivial⟩ (sI h).symm
  ·have h := hnext0 _ hs0
   replace h := sI h
   subst h
   exact wr (bs := []) lv217 23 [] [] [] [.cell 4 35, .tmp 5] 0 [5, 6, 7, 8] hC trivial trivial
theorem e217 : Enters Tryz.prog 217 := en Tryz.func217
def lv150 : List Nat := [0, 1, 2, 3, 4, 5, 7, 9, 14, 15, 16, 17, 21, 22, 23, 24]
def st150_0 (y3 : (List api_Island)) (n0 : Nat) (z0 : (List api_Running)) : St := [(3, dO 0 0), (4, dO 1 0), (5, dO 6 0), (14, dS 7), (15, dI (ln y3)), (16, dI (cnt 0 n0))]
def R150_0 (x1 : api_Power) (y1 : api_Power) (y3 : (List api_Island)) (n0 : Nat) (z0 : (List api_Running)) : List Res := (.box 35 (d35 x1) :: .box 35 [.os 8, .os 9, .os 10, .os 11] :: .sl 4 1 (y1.Closed.map pB) :: .sl 59 4 (z0.map q59) :: .sl 3 1 (y1.Limits.map pI) :: .sl 119 2 (y1.Broken.map q119) :: .box 35 [.os 2, .os 3, .os 4, .os 5] :: .sl 78 3 (y3.map q78) :: ze [])
def sa150_0  (z0 : (List api_Running)) : St := [(4, dO 0 0), (5, dO 5 0)]
def Ra150_0 (y1 : api_Power) (z0 : (List api_Running)) : List Res := (.box 35 [.os 6, .os 7, .os 8, .os 9] :: .sl 4 1 (y1.Closed.map pB) :: .sl 59 4 (z0.map q59) :: .sl 3 1 (y1.Limits.map pI) :: .sl 119 2 (y1.Broken.map q119) :: .box 35 [.os 1, .os 2, .os 3, .os 4] :: ze [])
def st150_1 (y3 : (List api_Island)) (n0 : Nat) (a0 : api_Island) (n1 : Nat) (z1 : (List api_Running)) : St := [(3, dO 0 0), (4, dO 1 0), (5, dO 6 0), (7, dO 12 0), (14, dS 7), (15, dI (ln y3)), (16, dI (cnt 0 n0)), (21, .d (DS pI a0.Sources)), (22, dI (ln a0.Sources)), (23, dI (cnt 0 n1))]
def R150_1 (x1 : api_Power) (y1 : api_Power) (y3 : (List api_Island)) (a0 : api_Island) (n1 : Nat) (z1 : (List api_Running)) : List Res := (.box 35 (d35 x1) :: .box 35 [.os 8, .os 9, .os 10, .os 11] :: .sl 4 1 (y1.Closed.map pB) :: .sl 59 4 (z1.map q59) :: .sl 3 1 (y1.Limits.map pI) :: .sl 119 2 (y1.Broken.map q119) :: .box 35 [.os 2, .os 3, .os 4, .os 5] :: .sl 78 3 (y3.map q78) :: ze [.box 78 (d78 a0)])
def sa150_1 (y3 : (List api_Island)) (n0 : Nat) (z1 : (List api_Running)) : St := [(3, dO 0 0), (4, dO 1 0), (5, dO 6 0), (14, dS 7), (15, dI (ln y3)), (16, dI (cnt 0 n0))]
def Ra150_1 (x1 : api_Power) (y1 : api_Power) (y3 : (List api_Island)) (z1 : (List api_Running)) : List Res := (.box 35 (d35 x1) :: .box 35 [.os 8, .os 9, .os 10, .os 11] :: .sl 4 1 (y1.Closed.map pB) :: .sl 59 4 (z1.map q59) :: .sl 3 1 (y1.Limits.map pI) :: .sl 119 2 (y1.Broken.map q119) :: .box 35 [.os 2, .os 3, .os 4, .os 5] :: .sl 78 3 (y3.map q78) :: ze [])
theorem k150 (x0 : api_Board) (x1 : api_Power) (r : api_Power) (h : F150 x0 x1 = some r) : CallOk Tryz.prog 150 [.agg (d29 x0), .agg (d35 x1)] [] (.agg [.os 0, .os 1, .os 2, .os 3]) (zp r []) := by
 unfold F150 at h
 refine callOk_of 58 Tryz.func150 rfl rfl rfl fun C hC => ?_
 obtain ⟨y1, h2, h⟩ := bindE h
 obtain ⟨y3, h4, h⟩ := bindE h
 refine ws (bs := []) lv150 28 [] [.call 20 [.agg (d35 x1)] [] (.agg [.os 0, .os 1, .os 2, .os 3]) (zp y1 []) [], .call 40 [.agg (d29 x0), .agg (d35 x1)] [] (dS 0) [.sl 78 3 (y3.map q78)] [], .len (ln (y3.map q78)) (ln y3)] [.ownb 2 0 4 1, .ownb 2 1 59 4, .ownb 2 2 3 1, .ownb 2 3 119 2] 0 [1, 2, 3, 4, 5, 6, 7, 8, 9, 10, 11, 12] (st150_0 y3 0 y1.Sources) (R150_0 x1 y1 y3 0 y1.Sources) hC ⟨⟨e20, (k20 x1 _ h2)⟩, ⟨e40, (k40 x0 x1 _ h4)⟩, len_map _ _, trivial⟩ trivial ?_
 obtain ⟨w0, hm0, hret0, hnext0⟩ := andThen_inv h
 clear h
 refine WI_cut (by kernel_rfl) (fun s => w0 = .next s) (sa150_0) (Ra150_0 y1) ?_ fun z0 hs0 => ?_
 ·refine WI_blk (by kernel_rfl) ?_
  refine WI_lenO 14 7 rfl rfl fun hl0 => ?_
  refine WI_foldI (by kernel_rfl) (F150_l0 x1) (st150_0 y3) (R150_0 x1 y1 y3) w0 y3 y1.Sources hm0 rfl rfl (fun z0 hn0 => ?_) fun n0 a0 z0 w0b hi0 hx0 h hb0 hr0 => ?_
  ·clear hm0
   exact we (bs := [(decide ((cnt 0 y3.length) < (ln y3)), false)]) (φ := fun s' => w0 = .next s') (st' := (sa150_0)) (R' := (Ra150_0 y1)) lv150 26 [false] [] [] 0 [1, 2, 3, 4, 5, 6, 8, 9, 10, 11] z0 hC trivial ⟨(cnt_end hl0), trivial⟩ hn0
  ·unfold F150_l0 at h
   refine ws (bs := [(decide ((cnt 0 n0) < (ln y3)), true)]) lv150 32 [true] [.row (y3.map q78) (cnt 0 n0) (q78 a0), .row (y3.map q78) (((Int.toNat (cnt 0 n0)) : Nat) : Int) (q78 a0), .len (ln (a0.Sources.map pI)) (ln a0.Sources)] [] 0 n13_ (st150_1 y3 n0 a0 0 z0) (R150_1 x1 y1 y3 a0 0 z0) hC ⟨row_get (get_cnt hx0 hl0), row_getN (get_cnt hx0 hl0), len_map _ _, trivial⟩ ⟨(cnt_lt hi0 hl0), trivial⟩ ?_
   obtain ⟨w1, hm1, hret1, hnext1⟩ := andThen_inv h
   clear h
   refine WI_cut (by kernel_rfl) (fun s => w1 = .next s) (sa150_1 y3 n0) (Ra150_1 x1 y1 y3) ?_ fun z1 hs1 => ?_
   ·refine WI_blk (by kernel_rfl) ?_
    refine WI_len 21 rfl fun hl1 => ?_
    refine WI_foldI (by kernel_rfl) (F150_l1 x1 a0) (st150_1 y3 n0 a0) (R150_1 x1 y1 y3 a0) w1 a0.Sources z0 hm1 rfl rfl (fun z1 hn1 => ?_) fun n1 a1 z1 w1b hi1 hx1 h hb1 hr1 => ?_
    ·clear hm1
     exact we (bs := [(decide ((cnt 0 a0.Sources.length) < (ln a0.Sources)), false)]) (φ := fun s' => w1 = .next s') (st' := (sa150_1 y3 n0)) (R' := (Ra150_1 x1 y1 y3)) lv150 26 [false] [] [] 0 n12_ z1 hC trivial ⟨(cnt_end hl1), trivial⟩ hn1
    ·unfold F150_l1 at h
     obtain ⟨y5, h6, h⟩ := bindE h
     obtain ⟨y7, h8, h⟩ := bindE h
     obtain ⟨y9, h10, h⟩ := bindE h
     obtain ⟨y11, h12, h⟩ := bindE h
     obtain ⟨y13, h14, h⟩ := bindE h
     obtain ⟨y15, h16, h⟩ := bindE h
     obtain ⟨y17, h18, h⟩ := bindE h
     obtain ⟨y19, h20, h⟩ := bindE h
     exact we (bs := [(decide ((cnt 0 n1) < (ln a0.Sources)), true)]) (φ := fun s' => w1b = .next s') (st' := (st150_1 y3 n0 a0 (n1 + 1))) (R' := (R150_1 x1 y1 y3 a0 (n1 + 1))) lv150 33 [true] [.row (a0.Sources.map pI) (cnt 0 n1) (pI a1), .row (a0.Sources.map pI) 0 (pI y5), .row (x1.Sources.map q59) y5 (q59 y7), .row (a0.Sources.map pI) 0 (pI y9), .row (x1.Sources.map q59) y9 (q59 y11), .row (z1.map q59) a1 (q59 y13), .upd (z1.map q59) (Int.toNat a1) (q59 y13) (q59 (⟨y13.State, y13.Since, y7.Frequency, y13.Phase⟩ : api_Running)) (y15.map q59), .row (y15.map q59) a1 (q59 y17), .upd (y15.map q59) (Int.toNat a1) (q59 y17) (q59 (⟨y17.State, y17.Since, y17.Frequency, y11.Phase⟩ : api_Running)) (y19.map q59)] [] 0 n13_ y19 hC ⟨(row_cnt hx1 hl1), row_get h6, row_get h8, row_get h10, row_get h12, row_get h14, upd_get h14 h16, row_get h18, upd_get h18 h20, trivial⟩ ⟨(cnt_lt hi1 hl1), trivial⟩ (sI h).symm
   ·have h := hnext1 _ hs1
    exact we (bs := []) (φ := fun s' => w0b = .next s') (st' := (st150_0 y3 (n0 + 1))) (R' := (R150_0 x1 y1 y3 (n0 + 1))) lv150 23 [] [] [] 0 n12_ z1 hC trivial trivial (sI h).symm
 ·have h := hnext0 _ hs0
  replace h := sI h
  subst h
  exact wr (bs := []) lv150 23 [] [] [] [.cell 4 35] 0 [1, 2, 3, 4] hC trivial trivial
theorem e150 : Enters Tryz.prog 150 := en Tryz.func150
def lv18 : List Nat := [0, 1, 2, 3, 4, 5, 6, 7, 8, 9, 13, 19, 20, 21, 26, 39, 40, 41, 43, 44, 45, 46, 58]
def st18_0 (x0 : api_Board) (z0 : Int × (List Bool)) : St := [(2, dO 0 0), (3, dO 1 0), (4, .d (DS pB [])), (5, dS 2), (19, dI (ln x0.Sources)), (20, dI z0.1)]
def R18_0 (x0 : api_Board) (x1 : api_Power) (z0 : Int × (List Bool)) : List Res := [.box 29 (d29 x0), .box 35 (d35 x1), .sl 4 1 (z0.2.map pB)]
def sa18_0  (z0 : Int × (List Bool)) : St := [(2, dO 0 0), (3, dO 1 0), (4, .d (DS pB [])), (5, dS 2)]
def Ra18_0 (x0 : api_Board) (x1 : api_Power) (z0 : Int × (List Bool)) : List Res := [.box 29 (d29 x0), .box 35 (d35 x1), .sl 4 1 (z0.2.map pB)]
def st18_1 (x0 : api_Board) (z1 : Int × (List Bool)) : St := [(2, dO 0 0), (3, dO 1 0), (4, .d (DS pB [])), (5, dS 2), (39, dI x0.Buses), (40, dI z1.1)]
def R18_1 (x0 : api_Board) (x1 : api_Power) (z1 : Int × (List Bool)) : List Res := [.box 29 (d29 x0), .box 35 (d35 x1), .sl 4 1 (z1.2.map pB)]
def sa18_1  (z1 : Int × (List Bool)) : St := [(4, .d (DS pB [])), (5, dS 0)]
def Ra18_1  (z1 : Int × (List Bool)) : List Res := [.sl 4 1 (z1.2.map pB)]
def st18_2 (x0 : api_Board) (z1 : Int × (List Bool)) (n2 : Nat) (z2 : (List Bool)) : St := [(2, dO 0 0), (3, dO 1 0), (4, .d (DS pB [])), (5, dS 2), (39, dI x0.Buses), (40, dI z1.1), (43, .d (DS q66 x0.Breakers)), (44, dI (ln x0.Breakers)), (45, dI (cnt 0 n2))]
def R18_2 (x0 : api_Board) (x1 : api_Power) (n2 : Nat) (z2 : (List Bool)) : List Res := [.box 29 (d29 x0), .box 35 (d35 x1), .sl 4 1 (z2.map pB)]
def sa18_2 (x0 : api_Board) (z1 : Int × (List Bool)) (z2 : (List Bool)) : St := [(2, dO 0 0), (3, dO 1 0), (4, .d (DS pB [])), (5, dS 2), (39, dI x0.Buses), (40, dI z1.1)]
def Ra18_2 (x0 : api_Board) (x1 : api_Power) (z2 : (List Bool)) : List Res := [.box 29 (d29 x0), .box 35 (d35 x1), .sl 4 1 (z2.map pB)]
theorem k18 (x0 : api_Board) (x1 : api_Power) (r : (List Bool)) (h : F18 x0 x1 = some r) : CallOk Tryz.prog 18 [.agg (d29 x0), .agg (d35 x1)] [] (.d (.os 0)) [.sl 4 1 (r.map pB)] := by
 unfold F18 at h
 refine callOk_of 84 Tryz.func18 rfl rfl rfl fun C hC => ?_
 obtain ⟨y1, h2, h⟩ := bindE h
 refine ws (bs := []) lv18 26 [] [.call 65 [.agg (d29 x0), .agg (d35 x1)] [] (dI y1) [] []] [] 0 [0, 1] [(2, dO 0 0), (3, dO 1 0), (4, .d (DS pB [])), (13, dB (y1 != 0))] [.box 29 (d29 x0), .box 35 (d35 x1)] hC ⟨⟨e65, (k65 x0 x1 _ h2)⟩, trivial⟩ trivial ?_
 rcases boolC ((y1 != 0)) with h3 | h3
 ·replace h := condT h3 h
  cases h
 ·replace h := condF h3 h
  obtain ⟨y4, h5, h⟩ := bindE h
  refine ws (bs := [((y1 != 0), false)]) lv18 28 [false] [.room (x0.Buses * (1 + 1)) (List.replicate (Int.toNat x0.Buses) (pB false)) (y4.map pB), .len (ln (x0.Sources.map q57)) (ln x0.Sources)] [] 0 n3_ (st18_0 x0 (0, y4)) (R18_0 x0 x1 (0, y4)) hC ⟨make_get h5, len_map _ _, trivial⟩ ⟨h3, trivial⟩ ?_
  obtain ⟨w0, hm0, hret0, hnext0⟩ := andThen_inv h
  clear h
  refine WI_cut (by kernel_rfl) (fun s => w0 = .next s) (sa18_0) (Ra18_0 x0 x1) ?_ fun z0 hs0 => ?_
  ·refine WI_blk (by kernel_rfl) ?_
   refine WI_while (by kernel_rfl) (F18_l0 x0 x1) (st18_0 x0) (R18_0 x0 x1) w0 1152921504606846976 (0, y4) hm0 rfl rfl fun z0 w0b h hb0 hr0 => ?_
   unfold F18_l0 at h
   rcases boolC ((c18_1 x0 z0)) with h6 | h6
   ·replace h := condT h6 h
    obtain ⟨y7, h8, h⟩ := bindE h
    refine ws (bs := [((c18_1 x0 z0), true)]) lv18 32 [true] [.call 66 [.agg (d29 x0), .agg (d35 x1), dI z0.1] [] (dB y7) [] []] [] 0 n3_ [(2, dO 0 0), (3, dO 1 0), (4, .d (DS pB [])), (5, dS 2), (6, dI z0.1), (19, dI (ln x0.Sources)), (20, dI z0.1), (26, dB y7)] [.box 29 (d29 x0), .box 35 (d35 x1), .sl 4 1 (z0.2.map pB)] hC ⟨⟨e66, (k66 x0 x1 z0.1 _ h8)⟩, trivial⟩ ⟨h6, trivial⟩ ?_
    rcases boolC (y7) with h9 | h9
    ·replace h := condT h9 h
     obtain ⟨y10, h11, h⟩ := bindE h
     obtain ⟨y12, h13, h⟩ := bindE h
     obtain ⟨y14, h15, h⟩ := bindE h
     obtain ⟨y16, h17, h⟩ := bindE h
     exact we (bs := [(y7, true)]) (φ := fun s' => w0b = .next s') (st' := (st18_0 x0)) (R' := (R18_0 x0 x1)) lv18 25 [true] [.call 67 [.agg (d29 x0), dI z0.1] [] (dI y10) [] [], .row (x0.Breakers.map q66) y10 (q66 y12), .row (z0.2.map pB) y12.A (pB y14), .upd (z0.2.map pB) (Int.toNat y12.A) (pB y14) (pB true) (y16.map pB)] [] 0 n3_ (w64 (z0.1 + 1), y16) hC ⟨⟨e67, (k67 x0 z0.1 _ h11)⟩, row_get h13, row_get h15, upd_get h15 h17, trivial⟩ ⟨h9, trivial⟩ (sI h).symm
    ·replace h := condF h9 h
     cases h
   ·replace h := condF h6 h
    exact we (bs := [((c18_1 x0 z0), false)]) (φ := fun s' => w0 = .next s') (st' := (sa18_0)) (R' := (Ra18_0 x0 x1)) lv18 26 [false] [] [] 0 n3_ (z0.1, z0.2) hC trivial ⟨h6, trivial⟩ (hb0 _ (sI h).symm)
  ·have h := hnext0 _ hs0
   refine ws (bs := []) lv18 24 [] [] [] 0 n3_ (st18_1 x0 (0, z0.2)) (R18_1 x0 x1 (0, z0.2)) hC trivial trivial ?_
   obtain ⟨w1, hm1, hret1, hnext1⟩ := andThen_inv h
   clear h
   refine WI_cut (by kernel_rfl) (fun s => w1 = .next s) (sa18_1) (Ra18_1) ?_ fun z1 hs1 => ?_
   ·refine WI_blk (by kernel_rfl) ?_
    refine WI_while (by kernel_rfl) (F18_l1 x0 x1) (st18_1 x0) (R18_1 x0 x1) w1 1152921504606846976 (0, z0.2) hm1 rfl rfl fun z1 w1b h hb1 hr1 => ?_
    unfold F18_l1 at h
    rcases boolC (decide (z1.1 < x0.Buses)) with h18 | h18
    ·replace h := condT h18 h
     refine ws (bs := [(decide (z1.1 < x0.Buses), true)]) lv18 30 [true] [.len (ln (x0.Breakers.map q66)) (ln x0.Breakers)] [] 0 n3_ (st18_2 x0 z1 0 z1.2) (R18_2 x0 x1 0 z1.2) hC ⟨len_map _ _, trivial⟩ ⟨h18, trivial⟩ ?_
     obtain ⟨w2, hm2, hret2, hnext2⟩ := andThen_inv h
     clear h
     refine WI_cut (by kernel_rfl) (fun s => w2 = .next s) (sa18_2 x0 z1) (Ra18_2 x0 x1) ?_ fun z2 hs2 => ?_
     ·refine WI_blk (by kernel_rfl) ?_
      refine WI_len 43 rfl fun hl2 => ?_
      refine WI_foldI (by kernel_rfl) (F18_l2 x0 x1) (st18_2 x0 z1) (R18_2 x0 x1) w2 x0.Breakers z1.2 hm2 rfl rfl (fun z2 hn2 => ?_) fun n2 a2 z2 w2b hi2 hx2 h hb2 hr2 => ?_
      ·clear hm2
       exact we (bs := [(decide ((cnt 0 x0.Breakers.length) < (ln x0.Breakers)), false)]) (φ := fun s' => w2 = .next s') (st' := (sa18_2 x0 z1)) (R' := (Ra18_2 x0 x1)) lv18 26 [false] [] [] 0 n3_ z2 hC trivial ⟨(cnt_end hl2), trivial⟩ hn2
      ·unfold F18_l2 at h
       obtain ⟨y19, h20, h⟩ := bindE h
       refine ws (bs := [(decide ((cnt 0 n2) < (ln x0.Breakers)), true)]) lv18 32 [true] [.row (x0.Breakers.map q66) (cnt 0 n2) (q66 a2), .when [((a2.Kind == 1), true)] (.call 68 [.agg (d29 x0), .agg (d35 x1), dI (cnt 0 n2)] [] (dB y19) [] [])] [] 0 n4_ [(2, dO 0 0), (3, dO 1 0), (4, .d (DS pB [])), (5, dS 2), (8, dO 3 0), (39, dI x0.Buses), (40, dI z1.1), (43, .d (DS q66 x0.Breakers)), (44, dI (ln x0.Breakers)), (45, dI (cnt 0 n2)), (58, dB ((a2.Kind == 1) && y19))] [.box 29 (d29 x0), .box 35 (d35 x1), .sl 4 1 (z2.map pB), .box 66 (d66 a2)] hC ⟨(row_cnt hx2 hl2), fun hg => ⟨e68, (k68 x0 x1 (cnt 0 n2) _ (guardO_get h20 hg))⟩, trivial⟩ ⟨(cnt_lt hi2 hl2), trivial⟩ ?_
       rcases boolC (((a2.Kind == 1) && y19)) with h21 | h21
       ·replace h := condT h21 h
        obtain ⟨y22, h23, h⟩ := bindE h
        obtain ⟨y24, h25, h⟩ := bindE h
        obtain ⟨y26, h27, h⟩ := bindE h
        obtain ⟨y28, h29, h⟩ := bindE h
        obtain ⟨y30, h31, h⟩ := bindE h
        exact we (bs := [(((a2.Kind == 1) && y19), true)]) (φ := fun s' => w2b = .next s') (st' := (st18_2 x0 z1 (n2 + 1))) (R' := (R18_2 x0 x1 (n2 + 1))) lv18 27 [true] [.row (z2.map pB) a2.A (pB y22), .row (z2.map pB) (((Int.toNat a2.A) : Nat) : Int) (pB y22), .when [(y22, false)] (.row (z2.map pB) a2.B (pB y24)), .when [(y22, false)] (.row (z2.map pB) (((Int.toNat a2.B) : Nat) : Int) (pB y24)), .row (z2.map pB) a2.A (pB y22), .upd (z2.map pB) (Int.toNat a2.A) (pB y22) (pB (y22 || y24)) (y26.map pB), .row (y26.map pB) a2.B (pB y28), .upd (y26.map pB) (Int.toNat a2.B) (pB y28) (pB (y22 || y24)) (y30.map pB)] [] 0 n3_ y30 hC ⟨row_get h23, row_getN h23, fun hg => row_get (guardO_get h25 hg), fun hg => row_getN (guardO_get h25 hg), row_get h23, upd_get h23 h27, row_get h29, upd_get h29 h31, trivial⟩ ⟨h21, trivial⟩ (sI h).symm
       ·replace h := condF h21 h
        exact we (bs := [(((a2.Kind == 1) && y19), false)]) (φ := fun s' => w2b = .next s') (st' := (st18_2 x0 z1 (n2 + 1))) (R' := (R18_2 x0 x1 (n2 + 1))) lv18 25 [false] [] [] 0 n3_ z2 hC trivial ⟨h21, trivial⟩ (sI h).symm
     ·have h := hnext2 _ hs2
      exact we (bs := []) (φ := fun s' => w1b = .next s') (st' := (st18_1 x0)) (R' := (R18_1 x0 x1)) lv18 23 [] [] [] 0 n3_ (w64 (z1.1 + 1), z2) hC trivial trivial (sI h).symm
    ·replace h := condF h18 h
     exact we (bs := [(decide (z1.1 < x0.Buses), false)]) (φ := fun s' => w1 = .next s') (st' := (sa18_1)) (R' := (Ra18_1)) lv18 26 [false] [] [] 0 [2] (z1.1, z1.2) hC trivial ⟨h18, trivial⟩ (hb1 _ (sI h).symm)
   ·have h := hnext1 _ hs1
    replace h := sI h
    subst h
    exact wr (bs := []) lv18 23 [] [] [] [.tmp 4] 0 [0] hC trivial trivial
theorem e18 : Enters Tryz.prog 18 := en Tryz.func18
def lv250 : List Nat := [0, 1, 2, 3, 4, 6, 7, 9, 30, 32, 33, 40]
theorem k250 (x0 : api_Board) (x1 : api_Power) (x2 : Int) (r : Bool) (h : F250 x0 x1 x2 = some r) : CallOk Tryz.prog 250 [.agg (d29 x0), .agg (d35 x1), .d (I x2)] [] (.d (Bo r)) [] := by
 unfold F250 at h
 refine callOk_of 74 Tryz.func250 rfl rfl rfl fun C hC => ?_
 obtain ⟨y1, h2, h⟩ := bindE h
 obtain ⟨y3, h4, h⟩ := bindE h
 obtain ⟨y5, h6, h⟩ := bindE h
 obtain ⟨y7, h8, h⟩ := bindE h
 refine ws (bs := []) lv250 28 [] [.row (x0.Breakers.map q66) x2 (q66 y1), .row (x1.Closed.map pB) x2 (pB y3), .when [(y3, false)] (.call 134 [.agg (d35 x1), dI 2, dI x2] [] (dB y5) [] []), .when [((y3 || y5), false)] (.call 134 [.agg (d35 x1), dI 3, dI y1.A] [] (dB y7) [] [])] [] 0 n3_ [(3, dO 0 0), (4, dO 1 0), (6, dB false), (7, dO 2 0), (30, dB ((y3 || y5) || y7))] [.box 29 (d29 x0), .box 35 (d35 x1), .box 66 (d66 y1)] hC ⟨row_get h2, row_get h4, fun hg => ⟨e134, (k134 x1 2 x2 _ (guardO_get h6 hg))⟩, fun hg => ⟨e134, (k134 x1 3 y1.A _ (guardO_get h8 hg))⟩, trivial⟩ trivial ?_
 rcases boolC (((y3 || y5) || y7)) with h9 | h9
 ·replace h := condT h9 h
  replace h := sI h
  subst h
  exact wr (bs := [(((y3 || y5) || y7), true)]) lv250 24 [true] [] [] [.tmp 6] 0 [] hC trivial ⟨h9, trivial⟩
 ·replace h := condF h9 h
  rcases boolC ((y1.Kind == 1)) with h10 | h10
  ·replace h := condT h10 h
   obtain ⟨y11, h12, h⟩ := bindE h
   replace h := sI h
   subst h
   exact wr (bs := [(((y3 || y5) || y7), false), ((y1.Kind == 1), true)]) lv250 32 [false, true] [.call 134 [.agg (d35 x1), dI 3, dI y1.B] [] (dB y11) [] []] [] [.tmp 6] 0 [] hC ⟨⟨e134, (k134 x1 3 y1.B _ h12)⟩, trivial⟩ ⟨h9, h10, trivial⟩
  ·replace h := condF h10 h
   rcases boolC ((y1.Kind == 2)) with h13 | h13
   ·replace h := condT h13 h
    obtain ⟨y14, h15, h⟩ := bindE h
    obtain ⟨y16, h17, h⟩ := bindE h
    replace h := sI h
    subst h
    exact wr (bs := [(((y3 || y5) || y7), false), ((y1.Kind == 1), false), ((y1.Kind == 2), true)]) lv250 35 [false, false, true] [.call 134 [.agg (d35 x1), dI 1, dI y1.B] [] (dB y14) [] [], .when [(!y14, true)] (.row (x1.Sources.map q59) y1.B (q59 y16))] [] [.tmp 6] 0 [] hC ⟨⟨e134, (k134 x1 1 y1.B _ h15)⟩, fun hg => row_get (guardO_get h17 hg), trivial⟩ ⟨h9, h10, h13, trivial⟩
   ·replace h := condF h13 h
    obtain ⟨y18, h19, h⟩ := bindE h
    obtain ⟨y20, h21, h⟩ := bindE h
    replace h := sI h
    subst h
    exact wr (bs := [(((y3 || y5) || y7), false), ((y1.Kind == 1), false), ((y1.Kind == 2), false)]) lv250 39 [false, false, false] [.call 168 [.agg (d29 x0), .agg (d35 x1), dI y1.B] [] (.tup [dI y18.1, dB y18.2]) [] [], .call 134 [.agg (d35 x1), dI 4, dI y1.B] [] (dB y20) [] []] [] [.tmp 6] 0 [] hC ⟨⟨e168, (k168 x0 x1 y1.B _ h19)⟩, ⟨e134, (k134 x1 4 y1.B _ h21)⟩, trivial⟩ ⟨h9, h10, h13, trivial⟩
theorem e250 : Enters Tryz.prog 250 := en Tryz.func250
def lv176 : List Nat := [0, 1, 2, 3, 4, 6, 7, 9, 12, 13, 14, 15, 21]
def st176_0 (x2 : Int) (y1 : (List api_Island)) (n0 : Nat) (z0 : Unit) : St := [(2, dI x2), (6, dO 0 0), (7, dB false), (12, dS 1), (13, dI (ln y1)), (14, dI (cnt 0 n0))]
def R176_0 (y1 : (List api_Island)) (n0 : Nat) (z0 : Unit) : List Res := [.box 78 [.os 2, .os 3, .os 4], .sl 78 3 (y1.map q78), .sl 3 1 (([] : List Int).map pI), .sl 3 1 (([] : List Int).map pI), .sl 3 1 (([] : List Int).map pI)]
def sa176_0  (z0 : Unit) : St := [(6, dO 0 0), (7, dB false)]
def Ra176_0  (z0 : Unit) : List Res := [.box 78 [.os 1, .os 2, .os 3], .sl 3 1 (([] : List Int).map pI), .sl 3 1 (([] : List Int).map pI), .sl 3 1 (([] : List Int).map pI)]
theorem k176 (x0 : api_Board) (x1 : api_Power) (x2 : Int) (r : api_Island × Bool) (h : F176 x0 x1 x2 = some r) : CallOk Tryz.prog 176 [.agg (d29 x0), .agg (d35 x1), .d (I x2)] [] (.tup [.agg (d78 r.1), .d (Bo r.2)]) [] := by
 unfold F176 at h
 refine callOk_of 25 Tryz.func176 rfl rfl rfl fun C hC => ?_
 obtain ⟨y1, h2, h⟩ := bindE h
 refine ws (bs := []) lv176 26 [] [.call 106 [.agg (d29 x0), .agg (d35 x1)] [] (dS 0) [.sl 78 3 (y1.map q78)] [], .len (ln (y1.map q78)) (ln y1)] [.ownb 2 0 3 1, .ownb 2 1 3 1, .ownb 2 2 3 1] 0 [2, 3, 4, 5, 6] (st176_0 x2 y1 0 ()) (R176_0 y1 0 ()) hC ⟨⟨e106, (k106 x0 x1 _ h2)⟩, len_map _ _, trivial⟩ trivial ?_
 obtain ⟨w0, hm0, hret0, hnext0⟩ := andThen_inv h
 clear h
 refine WI_cut (by kernel_rfl) (fun s => w0 = .next s) (sa176_0) (Ra176_0) ?_ fun z0 hs0 => ?_
 ·refine WI_blk (by kernel_rfl) ?_
  refine WI_lenO 12 1 rfl rfl fun hl0 => ?_
  refine WI_foldI (by kernel_rfl) (F176_l0 x2) (st176_0 x2 y1) (R176_0 y1) w0 y1 () hm0 rfl rfl (fun z0 hn0 => ?_) fun n0 a0 z0 w0b hi0 hx0 h hb0 hr0 => ?_
  ·clear hm0
   exact we (bs := [(decide ((cnt 0 y1.length) < (ln y1)), false)]) (φ := fun s' => w0 = .next s') (st' := (sa176_0)) (R' := (Ra176_0)) lv176 26 [false] [] [] 0 [0, 2, 3, 4] () hC trivial ⟨(cnt_end hl0), trivial⟩ hn0
  ·unfold F176_l0 at h
   obtain ⟨y3, h4, h⟩ := bindE h
   refine ws (bs := [(decide ((cnt 0 n0) < (ln y1)), true)]) lv176 32 [true] [.row (y1.map q78) (cnt 0 n0) (q78 a0), .row (y1.map q78) (((Int.toNat (cnt 0 n0)) : Nat) : Int) (q78 a0), .call 96 [.d (DS pI a0.Buses), dI x2] [] (dB y3) [] []] [] 0 n6_ [(2, dI x2), (6, dO 0 0), (7, dB false), (9, dO 5 0), (12, dS 1), (13, dI (ln y1)), (14, dI (cnt 0 n0)), (21, dB y3)] [.box 78 [.os 2, .os 3, .os 4], .sl 78 3 (y1.map q78), .sl 3 1 (([] : List Int).map pI), .sl 3 1 (([] : List Int).map pI), .sl 3 1 (([] : List Int).map pI), .box 78 (d78 a0)] hC ⟨row_get (get_cnt hx0 hl0), row_getN (get_cnt hx0 hl0), ⟨e96, (k96 a0.Buses x2 _ h4)⟩, trivial⟩ ⟨(cnt_lt hi0 hl0), trivial⟩ ?_
   rcases boolC (y3) with h5 | h5
   ·replace h := condT h5 h
    have hq := hret0 _ (hr0 _ (sI h).symm)
    replace hq := sI hq
    subst hq
    exact wr (bs := [(y3, true)]) lv176 24 [true] [] [] [.cell 6 78, .tmp 7] 0 [] hC trivial ⟨h5, trivial⟩
   ·replace h := condF h5 h
    exact we (bs := [(y3, false)]) (φ := fun s' => w0b = .next s') (st' := (st176_0 x2 y1 (n0 + 1))) (R' := (R176_0 y1 (n0 + 1))) lv176 25 [false] [] [] 0 n5_ () hC trivial ⟨h5, trivial⟩ (sI h).symm
 ·have h := hnext0 _ hs0
  replace h := sI h
  subst h
  exact wr (bs := []) lv176 23 [] [] [.ownb 0 0 3 1, .frz 4, .ownb 0 1 3 1, .frz 5, .ownb 0 2 3 1, .frz 6] [.cell 6 78, .tmp 7] 0 [] hC trivial trivial
theorem e176 : Enters Tryz.prog 176 := en Tryz.func176
def lv101 : List Nat := [0, 1, 2, 3, 4, 5, 6, 7, 9, 14, 21, 22, 23, 24, 30]
def st101_0 (y6 : (List api_Island)) (n0 : Nat) (z0 : (List api_Running)) : St := [(3, dO 0 0), (4, dO 1 0), (5, dI 0), (7, dO 10 0), (21, dS 11), (22, dI (ln y6)), (23, dI (cnt 0 n0))]
def R101_0 (x1 : api_Power) (y4 : api_Power) (y6 : (List api_Island)) (n0 : Nat) (z0 : (List api_Running)) : List Res := (.box 35 (d35 x1) :: .box 35 [.os 2, .os 3, .os 4, .os 5] :: ze [.sl 4 1 (y4.Closed.map pB), .sl 59 4 (z0.map q59), .sl 3 1 (y4.Limits.map pI), .sl 119 2 (y4.Broken.map q119), .box 35 [.os 6, .os 7, .os 8, .os 9], .sl 78 3 (y6.map q78)])
def sa101_0  (z0 : (List api_Running)) : St := [(4, dO 0 0), (5, dI 0), (7, dO 9 0)]
def Ra101_0 (y4 : api_Power) (z0 : (List api_Running)) : List Res := (.box 35 [.os 1, .os 2, .os 3, .os 4] :: ze [.sl 4 1 (y4.Closed.map pB), .sl 59 4 (z0.map q59), .sl 3 1 (y4.Limits.map pI), .sl 119 2 (y4.Broken.map q119), .box 35 [.os 5, .os 6, .os 7, .os 8]])
theorem k101 (x0 : api_Board) (x1 : api_Power) (r : api_Power × Int) (h : F101 x0 x1 = some r) : CallOk Tryz.prog 101 [.agg (d29 x0), .agg (d35 x1)] [] (.tup [.agg [.os 0, .os 1, .os 2, .os 3], .d (I r.2)]) (zp r.1 []) := by
 unfold F101 at h
 refine callOk_of 45 Tryz.func101 rfl rfl rfl fun C hC => ?_
 obtain ⟨y1, h2, h⟩ := bindE h
 refine ws (bs := []) lv101 28 [] [.call 65 [.agg (d29 x0), .agg (d35 x1)] [] (dI y1) [] []] [.ownb 2 0 4 1, .ownb 2 1 59 4, .ownb 2 2 3 1, .ownb 2 3 119 2] 0 n7_ [(2, dO 0 0), (3, dO 1 0), (4, dO 2 0), (5, dI 0), (6, dI y1), (14, dB (y1 != 0))] (.box 29 (d29 x0) :: .box 35 (d35 x1) :: .box 35 [.os 3, .os 4, .os 5, .os 6] :: ze []) hC ⟨⟨e65, (k65 x0 x1 _ h2)⟩, trivial⟩ trivial ?_
 rcases boolC ((y1 != 0)) with h3 | h3
 ·replace h := condT h3 h
  replace h := sI h
  subst h
  exact wr (bs := [((y1 != 0), true)]) lv101 24 [true] [] [.ownb 2 0 4 1, .ownb 2 1 59 4, .ownb 2 2 3 1, .ownb 2 3 119 2] [.cell 4 35, .tmp 5] 0 [7, 8, 9, 10] hC trivial ⟨h3, trivial⟩
 ·replace h := condF h3 h
  obtain ⟨y4, h5, h⟩ := bindE h
  obtain ⟨y6, h7, h⟩ := bindE h
  refine ws (bs := [((y1 != 0), false)]) lv101 28 [false] [.call 70 [.agg (d35 x1)] [] (.agg [.os 0, .os 1, .os 2, .os 3]) (zp y4 []) [], .call 106 [.agg (d29 x0), .agg (d35 x1)] [] (dS 0) [.sl 78 3 (y6.map q78)] [], .len (ln (y6.map q78)) (ln y6)] [] 0 [1, 2, 3, 4, 5, 6, 7, 8, 9, 10, 11, 12] (st101_0 y6 0 y4.Sources) (R101_0 x1 y4 y6 0 y4.Sources) hC ⟨⟨e70, (k70 x1 _ h5)⟩, ⟨e106, (k106 x0 x1 _ h7)⟩, len_map _ _, trivial⟩ ⟨h3, trivial⟩ ?_
  obtain ⟨w0, hm0, hret0, hnext0⟩ := andThen_inv h
  clear h
  refine WI_cut (by kernel_rfl) (fun s => w0 = .next s) (sa101_0) (Ra101_0 y4) ?_ fun z0 hs0 => ?_
  ·refine WI_blk (by kernel_rfl) ?_
   refine WI_lenO 21 11 rfl rfl fun hl0 => ?_
   refine WI_foldI (by kernel_rfl) (F101_l0 x1 y4) (st101_0 y6) (R101_0 x1 y4 y6) w0 y6 y4.Sources hm0 rfl rfl (fun z0 hn0 => ?_) fun n0 a0 z0 w0b hi0 hx0 h hb0 hr0 => ?_
   ·clear hm0
    exact we (bs := [(decide ((cnt 0 y6.length) < (ln y6)), false)]) (φ := fun s' => w0 = .next s') (st' := (sa101_0)) (R' := (Ra101_0 y4)) lv101 26 [false] [] [] 0 [1, 2, 3, 4, 5, 6, 7, 8, 9, 10] z0 hC trivial ⟨(cnt_end hl0), trivial⟩ hn0
   ·unfold F101_l0 at h
    refine ws (bs := [(decide ((cnt 0 n0) < (ln y6)), true)]) lv101 32 [true] [.row (y6.map q78) (cnt 0 n0) (q78 a0), .row (y6.map q78) (((Int.toNat (cnt 0 n0)) : Nat) : Int) (q78 a0), .len (ln (a0.Sources.map pI)) (ln a0.Sources)] [] 0 n13_ [(3, dO 0 0), (4, dO 1 0), (5, dI 0), (7, dO 10 0), (9, dO 12 0), (21, dS 11), (22, dI (ln y6)), (23, dI (cnt 0 n0)), (30, dB (c101_2 a0))] (.box 35 (d35 x1) :: .box 35 [.os 2, .os 3, .os 4, .os 5] :: ze [.sl 4 1 (y4.Closed.map pB), .sl 59 4 (z0.map q59), .sl 3 1 (y4.Limits.map pI), .sl 119 2 (y4.Broken.map q119), .box 35 [.os 6, .os 7, .os 8, .os 9], .sl 78 3 (y6.map q78), .box 78 (d78 a0)]) hC ⟨row_get (get_cnt hx0 hl0), row_getN (get_cnt hx0 hl0), len_map _ _, trivial⟩ ⟨(cnt_lt hi0 hl0), trivial⟩ ?_
    rcases boolC ((c101_2 a0)) with h8 | h8
    ·replace h := condT h8 h
     obtain ⟨y9, h10, h⟩ := bindE h
     obtain ⟨y11, h12, h⟩ := bindE h
     obtain ⟨y13, h14, h⟩ := bindE h
     exact we (bs := [((c101_2 a0), true)]) (φ := fun s' => w0b = .next s') (st' := (st101_0 y6 (n0 + 1))) (R' := (R101_0 x1 y4 y6 (n0 + 1))) lv101 25 [true] [.row (a0.Sources.map pI) 0 (pI y9), .row (x1.Sources.map q59) y9 (q59 y11), .call 183 [.agg [.os 0, .os 1, .os 2, .os 3], .d (DS pI a0.Sources), .agg (d59 y11)] [.sl 4 1 (y4.Closed.map pB), .sl 59 4 (z0.map q59), .sl 3 1 (y4.Limits.map pI), .sl 119 2 (y4.Broken.map q119)] (.tup []) [.sl 4 1 (y4.Closed.map pB), .sl 59 4 (y13.map q59), .sl 3 1 (y4.Limits.map pI), .sl 119 2 (y4.Broken.map q119)] [6, 7, 8, 9]] [] 0 n12_ y13 hC ⟨row_get h10, row_get h12, ⟨e183s0, (k183s0 (⟨y4.Closed, z0, y4.Limits, y4.Broken⟩ : api_Power) a0.Sources y11 _ h14)⟩, trivial⟩ ⟨h8, trivial⟩ (sI h).symm
    ·replace h := condF h8 h
     exact we (bs := [((c101_2 a0), false)]) (φ := fun s' => w0b = .next s') (st' := (st101_0 y6 (n0 + 1))) (R' := (R101_0 x1 y4 y6 (n0 + 1))) lv101 25 [false] [] [] 0 n12_ z0 hC trivial ⟨h8, trivial⟩ (sI h).symm
  ·have h := hnext0 _ hs0
   replace h := sI h
   subst h
   exact wr (bs := []) lv101 23 [] [] [] [.cell 4 35, .tmp 5] 0 [5, 6, 7, 8] hC trivial trivial
theorem e101 : Enters Tryz.prog 101 := en Tryz.func101
def lv148s1 : List Nat := [0, 2, 3, 24, 25, 26, 66]
def st148s1_0 (y1 : api_Power × Int) (z0 : Int × (List api_Running)) : St := [(0, dO 0 0), (24, dI (ln y1.1.Sources)), (25, dI z0.1)]
def R148s1_0 (x0 : restore_worker) (y1 : api_Power × Int) (z0 : Int × (List api_Running)) : List Res := (.box 130 (zb x0.board [.os 5, .os 6, .os 7, .os 8, I x0.time]) :: zp x0.power [.sl 4 1 (y1.1.Closed.map pB), .sl 59 4 (z0.2.map q59), .sl 3 1 (y1.1.Limits.map pI), .sl 119 2 (y1.1.Broken.map q119)])
def sa148s1_0  (z0 : Int × (List api_Running)) : St := []
def Ra148s1_0 (x0 : restore_worker) (y1 : api_Power × Int) (z0 : Int × (List api_Running)) : List Res := (.box 130 (zb x0.board [.os 5, .os 6, .os 7, .os 8, I x0.time]) :: zp x0.power [.sl 4 1 (y1.1.Closed.map pB), .sl 59 4 (z0.2.map q59), .sl 3 1 (y1.1.Limits.map pI), .sl 119 2 (y1.1.Broken.map q119)])
theorem k148s1 (x0 : restore_worker) (r : restore_worker) (h : F148s1 x0 = some r) : CallOk Tryz.prog 148 [.d (.o 0 0)] (.box 130 (zb x0.board [.os 1, .os 2, .os 3, .os 4, I x0.time]) :: zp x0.power []) (.tup []) (.box 130 (zb r.board [.os 5, .os 6, .os 7, .os 8, I r.time]) :: .non :: .non :: .non :: .non :: zp r.power []) := by
 unfold F148s1 at h
 refine callOk_of 71 Tryz.func148 rfl rfl rfl fun C hC => ?_
 obtain ⟨y1, h2, h⟩ := bindE h
 refine ws (bs := []) lv148s1 25 [] [.call 217 [.agg (d29 x0.board), .agg [.os 0, .os 1, .os 2, .os 3]] (zp x0.power []) (.tup [.agg [.os 4, .os 5, .os 6, .os 7], dI y1.2]) (zp x0.power (zp y1.1 [])) [1, 2, 3, 4], .len (ln (y1.1.Sources.map q59)) (ln y1.1.Sources)] [] 5 n9_ (st148s1_0 y1 (0, y1.1.Sources)) (R148s1_0 x0 y1 (0, y1.1.Sources)) hC ⟨⟨e217, ((k217 x0.board x0.power _ h2).lend (by kernel_rfl) (by kernel_rfl) (by kernel_rfl) ⟨flat_sl (fun _ => rfl), flat_sl (fun _ => rfl), flat_sl (fun _ => rfl), flat_sl (fun _ => rfl), trivial⟩ (by kernel_rfl) (by kernel_rfl))⟩, len_map _ _, trivial⟩ trivial ?_
 obtain ⟨w0, hm0, hret0, hnext0⟩ := andThen_inv h
 clear h
 refine WI_cut (by kernel_rfl) (fun s => w0 = .next s) (sa148s1_0) (Ra148s1_0 x0 y1) ?_ fun z0 hs0 => ?_
 ·refine WI_blk (by kernel_rfl) ?_
  refine WI_while (by kernel_rfl) (F148s1_l0 x0 y1) (st148s1_0 y1) (R148s1_0 x0 y1) w0 1152921504606846976 (0, y1.1.Sources) hm0 rfl rfl fun z0 w0b h hb0 hr0 => ?_
  unfold F148s1_l0 at h
  rcases boolC ((c148s1_3 y1 z0)) with h3 | h3
  ·replace h := condT h3 h
   obtain ⟨y4, h5, h⟩ := bindE h
   obtain ⟨y6, h7, h⟩ := bindE h
   obtain ⟨y8, h9, h⟩ := bindE h
   refine ws (bs := [((c148s1_3 y1 z0), true)]) lv148s1 34 [true] [.row (z0.2.map q59) z0.1 (q59 y4), .row (z0.2.map q59) (((Int.toNat z0.1) : Nat) : Int) (q59 y4), .when [((y4.State == 1), true)] (.callB 216 [.d (.ip [.v (.int .i64 x0.board.Buses), .s (x0.board.Breakers.map q66), .s (x0.board.Sources.map q57), .s (x0.board.Consumers.map q108), .v (.int .i64 x0.board.Phase), .v (.int .i64 x0.board.Frequency), .s (y1.1.Closed.map pB), .s (z0.2.map q59), .s (y1.1.Limits.map pI), .s (y1.1.Broken.map q119), .v (.int .i64 x0.time)]), dI z0.1] (dB y6) [[]] 0 []), .when [(((y4.State == 1) && y6), true)] (.row (z0.2.map q59) (((Int.toNat z0.1) : Nat) : Int) (q59 y4)), .when [(((y4.State == 1) && y6), true)] (.row (x0.board.Sources.map q57) z0.1 (q57 y8))] [] 5 n9_ [(0, dO 0 0), (3, .d (.oe 6 (Int.toNat z0.1) 4 0)), (24, dI (ln y1.1.Sources)), (25, dI z0.1), (66, dB (c148s1_4 x0 y4 y6 y8))] (.box 130 (zb x0.board [.os 5, .os 6, .os 7, .os 8, I x0.time]) :: zp x0.power [.sl 4 1 (y1.1.Closed.map pB), .sl 59 4 (z0.2.map q59), .sl 3 1 (y1.1.Limits.map pI), .sl 119 2 (y1.1.Broken.map q119)]) hC ⟨row_get h5, row_getN h5, fun hg => lend0_get ⟨e216s0, (k216s0 (⟨x0.board, (⟨y1.1.Closed, z0.2, y1.1.Limits, y1.1.Broken⟩ : api_Power), x0.time⟩ : restore_worker) z0.1 _ (guardO_get h7 hg))⟩, fun hg => row_getN h5, fun hg => row_get (guardO_get h9 hg), trivial⟩ ⟨h3, trivial⟩ ?_
   rcases boolC ((c148s1_4 x0 y4 y6 y8)) with h10 | h10
   ·replace h := condT h10 h
    obtain ⟨y11, h12, h⟩ := bindE h
    exact we (bs := [((c148s1_4 x0 y4 y6 y8), true)]) (φ := fun s' => w0b = .next s') (st' := (st148s1_0 y1)) (R' := (R148s1_0 x0 y1)) lv148s1 25 [true] [.upd (z0.2.map q59) (Int.toNat z0.1) (q59 y4) (q59 (⟨2, y4.Since, y4.Frequency, y4.Phase⟩ : api_Running)) (y11.map q59)] [] 5 n9_ (w64 (z0.1 + 1), y11) hC ⟨upd_get h5 h12, trivial⟩ ⟨h10, trivial⟩ (sI h).symm
   ·replace h := condF h10 h
    exact we (bs := [((c148s1_4 x0 y4 y6 y8), false)]) (φ := fun s' => w0b = .next s') (st' := (st148s1_0 y1)) (R' := (R148s1_0 x0 y1)) lv148s1 25 [false] [] [] 5 n9_ (w64 (z0.1 + 1), z0.2) hC trivial ⟨h10, trivial⟩ (sI h).symm
  ·replace h := condF h3 h
   exact we (bs := [((c148s1_3 y1 z0), false)]) (φ := fun s' => w0 = .next s') (st' := (sa148s1_0)) (R' := (Ra148s1_0 x0 y1)) lv148s1 26 [false] [] [] 5 n9_ (z0.1, z0.2) hC trivial ⟨h3, trivial⟩ (hb0 _ (sI h).symm)
 ·have h := hnext0 _ hs0
  replace h := sI h
  subst h
  exact wf (bs := []) lv148s1 20 [] [] [.frz 1, .frz 2, .frz 3, .frz 4] [] 5 n9_ hC trivial trivial
theorem e148s1 : Enters Tryz.prog 148 := en Tryz.func148
def lv158s0 : List Nat := [0, 2, 4, 5, 19, 20, 21, 22, 32]
def st158s0_0 (x0 : shed_relief) (y3 : (List api_Island)) (n0 : Nat) (z0 : Unit) : St := [(0, .d (.ip [.v (.int .i64 x0.board.Buses), .s (x0.board.Breakers.map q66), .s (x0.board.Sources.map q57), .s (x0.board.Consumers.map q108), .v (.int .i64 x0.board.Phase), .v (.int .i64 x0.board.Frequency), .s (x0.power.Closed.map pB), .s (x0.power.Sources.map q59), .s (x0.power.Limits.map pI), .s (x0.power.Broken.map q119), .s (x0.acts.map q42)])), (2, dS 0), (19, dS 1), (20, dI (ln y3)), (21, dI (cnt 0 n0))]
def R158s0_0 (y1 : (List Int)) (y3 : (List api_Island)) (n0 : Nat) (z0 : Unit) : List Res := [.sl 3 1 (y1.map pI), .sl 78 3 (y3.map q78)]
def sa158s0_0  (z0 : Unit) : St := []
def Ra158s0_0  (z0 : Unit) : List Res := []
theorem k158s0 (x0 : shed_relief) (r : Unit) (h : F158s0 x0 = some r) : CallOk Tryz.prog 158 [.d (.ip [.v (.int .i64 x0.board.Buses), .s (x0.board.Breakers.map q66), .s (x0.board.Sources.map q57), .s (x0.board.Consumers.map q108), .v (.int .i64 x0.board.Phase), .v (.int .i64 x0.board.Frequency), .s (x0.power.Closed.map pB), .s (x0.power.Sources.map q59), .s (x0.power.Limits.map pI), .s (x0.power.Broken.map q119), .s (x0.acts.map q42)])] [] (.tup []) [] := by
 unfold F158s0 at h
 refine callOk_of 48 Tryz.func158 rfl rfl rfl fun C hC => ?_
 obtain ⟨y1, h2, h⟩ := bindE h
 obtain ⟨y3, h4, h⟩ := bindE h
 refine ws (bs := []) lv158s0 25 [] [.call 167 [.agg (d29 x0.board)] [] (dS 0) [.sl 3 1 (y1.map pI)] [], .call 106 [.agg (d29 x0.board), .agg (d35 x0.power)] [] (dS 0) [.sl 78 3 (y3.map q78)] [], .len (ln (y3.map q78)) (ln y3)] [] 0 [0, 1] (st158s0_0 x0 y3 0 ()) (R158s0_0 y1 y3 0 ()) hC ⟨⟨e167, (k167 x0.board _ h2)⟩, ⟨e106, (k106 x0.board x0.power _ h4)⟩, len_map _ _, trivial⟩ trivial ?_
 obtain ⟨w0, hm0, hret0, hnext0⟩ := andThen_inv h
 clear h
 refine WI_cut (by kernel_rfl) (fun s => w0 = .next s) (sa158s0_0) (Ra158s0_0) ?_ fun z0 hs0 => ?_
 ·refine WI_blk (by kernel_rfl) ?_
  refine WI_lenO 19 1 rfl rfl fun hl0 => ?_
  refine WI_foldI (by kernel_rfl) (F158s0_l0 y1) (st158s0_0 x0 y3) (R158s0_0 y1 y3) w0 y3 () hm0 rfl rfl (fun z0 hn0 => ?_) fun n0 a0 z0 w0b hi0 hx0 h hb0 hr0 => ?_
  ·clear hm0
   exact we (bs := [(decide ((cnt 0 y3.length) < (ln y3)), false)]) (φ := fun s' => w0 = .next s') (st' := (sa158s0_0)) (R' := (Ra158s0_0)) lv158s0 26 [false] [] [] 0 [] () hC trivial ⟨(cnt_end hl0), trivial⟩ hn0
  ·unfold F158s0_l0 at h
   obtain ⟨y5, h6, h⟩ := bindE h
   obtain ⟨y7, h8, h⟩ := bindE h
   refine ws (bs := [(decide ((cnt 0 n0) < (ln y3)), true)]) lv158s0 34 [true] [.row (y3.map q78) (cnt 0 n0) (q78 a0), .row (y3.map q78) (((Int.toNat (cnt 0 n0)) : Nat) : Int) (q78 a0), .call 140 [dS 0] [.sl 3 1 (y1.map pI)] (dS 1) [.sl 3 1 (y1.map pI), .sl 3 1 (y5.map pI)] [0], .call 225 [dS 0, .d (.fn (.func 226) [] [.o 1 0])] [.sl 3 1 (y5.map pI), .box 78 (d78 a0)] (dS 2) [.non, .box 78 (d78 y7.2), .sl 3 1 (y7.1.map pI)] [3, 2], .len (ln (y7.2.Sources.map pI)) (ln y7.2.Sources)] [] 0 [0, 1, 2, 4] [(0, .d (.ip [.v (.int .i64 x0.board.Buses), .s (x0.board.Breakers.map q66), .s (x0.board.Sources.map q57), .s (x0.board.Consumers.map q108), .v (.int .i64 x0.board.Phase), .v (.int .i64 x0.board.Frequency), .s (x0.power.Closed.map pB), .s (x0.power.Sources.map q59), .s (x0.power.Limits.map pI), .s (x0.power.Broken.map q119), .s (x0.acts.map q42)])), (2, dS 0), (4, dO 2 0), (5, dS 3), (19, dS 1), (20, dI (ln y3)), (21, dI (cnt 0 n0)), (32, dB (decide ((ln y7.2.Sources) > 0)))] [.sl 3 1 (y1.map pI), .sl 78 3 (y3.map q78), .box 78 (d78 y7.2), .sl 3 1 (y7.1.map pI)] hC ⟨row_get (get_cnt hx0 hl0), row_getN (get_cnt hx0 hl0), ⟨e140, ((k140 y1 _ h6).lend (by kernel_rfl) (by kernel_rfl) (by kernel_rfl) ⟨flat_sl (fun _ => rfl), trivial⟩ (by kernel_rfl) (by kernel_rfl))⟩, ⟨e225s1, (k225s1 y5 a0 _ h8)⟩, len_map _ _, trivial⟩ ⟨(cnt_lt hi0 hl0), trivial⟩ ?_
   rcases boolC (decide ((ln y7.2.Sources) > 0)) with h9 | h9
   ·replace h := condT h9 h
    cases h
   ·replace h := condF h9 h
    exact we (bs := [(decide ((ln y7.2.Sources) > 0), false)]) (φ := fun s' => w0b = .next s') (st' := (st158s0_0 x0 y3 (n0 + 1))) (R' := (R158s0_0 y1 y3 (n0 + 1))) lv158s0 25 [false] [] [] 0 [0, 1] () hC trivial ⟨h9, trivial⟩ (sI h).symm
 ·have h := hnext0 _ hs0
  replace h := sI h
  subst h
  exact wf (bs := []) lv158s0 20 [] [] [] [] 0 [] hC trivial trivial
theorem e158s0 : Enters Tryz.prog 158 := en Tryz.func158
def lv73 : List Nat := [0, 1, 2, 3, 4, 5, 6, 11]
theorem k73 (x0 : api_Board) (x1 : api_Power) (r : api_Power × Int) (h : F73 x0 x1 = some r) : CallOk Tryz.prog 73 [.agg (d29 x0), .agg (d35 x1)] [] (.tup [.agg [.os 0, .os 1, .os 2, .os 3], .d (I r.2)]) (zp r.1 []) := by
 unfold F73 at h
 refine callOk_of 17 Tryz.func73 rfl rfl rfl fun C hC => ?_
 obtain ⟨y1, h2, h⟩ := bindE h
 refine ws (bs := []) lv73 28 [] [.call 27 [.agg (d29 x0), .agg (d35 x1)] [] (dI y1) [] []] [.ownb 2 0 4 1, .ownb 2 1 59 4, .ownb 2 2 3 1, .ownb 2 3 119 2] 0 n7_ [(2, dO 0 0), (3, dO 1 0), (4, dO 2 0), (5, dI 0), (6, dI y1), (11, dB (y1 != 0))] (.box 29 (d29 x0) :: .box 35 (d35 x1) :: .box 35 [.os 3, .os 4, .os 5, .os 6] :: ze []) hC ⟨⟨e27, (k27 x0 x1 _ h2)⟩, trivial⟩ trivial ?_
 rcases boolC ((y1 != 0)) with h3 | h3
 ·replace h := condT h3 h
  replace h := sI h
  subst h
  exact wr (bs := [((y1 != 0), true)]) lv73 24 [true] [] [.ownb 2 0 4 1, .ownb 2 1 59 4, .ownb 2 2 3 1, .ownb 2 3 119 2] [.cell 4 35, .tmp 5] 0 [7, 8, 9, 10] hC trivial ⟨h3, trivial⟩
 ·replace h := condF h3 h
  obtain ⟨y4, h5, h⟩ := bindE h
  replace h := sI h
  subst h
  exact wr (bs := [((y1 != 0), false)]) lv73 25 [false] [.call 150 [.agg (d29 x0), .agg (d35 x1)] [] (.agg [.os 0, .os 1, .os 2, .os 3]) (zp y4 []) []] [] [.cell 4 35, .tmp 5] 0 [7, 8, 9, 10] hC ⟨⟨e150, (k150 x0 x1 _ h5)⟩, trivial⟩ ⟨h3, trivial⟩
theorem e73 : Enters Tryz.prog 73 := en Tryz.func73
def lv214 : List Nat := [0, 1, 2, 3, 4, 6, 7, 8, 20]
theorem k214 (x0 : api_Board) (x1 : api_Power) (x2 : Int) (r : Int × Bool) (h : F214 x0 x1 x2 = some r) : CallOk Tryz.prog 214 [.agg (d29 x0), .agg (d35 x1), .d (I x2)] [] (.tup [.d (I r.1), .d (Bo r.2)]) [] := by
 unfold F214 at h
 refine callOk_of 25 Tryz.func214 rfl rfl rfl fun C hC => ?_
 obtain ⟨y1, h2, h⟩ := bindE h
 refine ws (bs := []) lv214 28 [] [.call 176 [.agg (d29 x0), .agg (d35 x1), dI x2] [] (.tup [.agg (d78 y1.1), dB y1.2]) [] [], .len (ln (y1.1.Sources.map pI)) (ln y1.1.Sources)] [] 0 [2] [(6, dI 0), (7, dB false), (8, dO 0 0), (20, dB ((ln y1.1.Sources) == 0))] [.box 78 (d78 y1.1)] hC ⟨⟨e176, (k176 x0 x1 x2 _ h2)⟩, len_map _ _, trivial⟩ trivial ?_
 rcases boolC (((ln y1.1.Sources) == 0)) with h3 | h3
 ·replace h := condT h3 h
  replace h := sI h
  subst h
  exact wr (bs := [(((ln y1.1.Sources) == 0), true)]) lv214 24 [true] [] [] [.tmp 6, .tmp 7] 0 [] hC trivial ⟨h3, trivial⟩
 ·replace h := condF h3 h
  obtain ⟨y4, h5, h⟩ := bindE h
  replace h := sI h
  subst h
  exact wr (bs := [(((ln y1.1.Sources) == 0), false)]) lv214 25 [false] [.row (y1.1.Sources.map pI) 0 (pI y4)] [] [.tmp 6, .tmp 7] 0 [] hC ⟨row_get h5, trivial⟩ ⟨h3, trivial⟩
theorem e214 : Enters Tryz.prog 214 := en Tryz.func214
theorem k95 (x0 : api_Board) (x1 : api_Power) (x2 : Int) (r : Bool) (h : F95 x0 x1 x2 = some r) : CallOk Tryz.prog 95 [.agg (d29 x0), .agg (d35 x1), .d (I x2)] [] (.d (Bo r)) [] := by
 unfold F95 at h
 refine callOk_of 20 Tryz.func95 rfl rfl rfl fun C hC => ?_
 obtain ⟨y1, h2, h⟩ := bindE h
 replace h := sI h
 subst h
 exact wr (bs := []) [0, 1, 2, 3, 4, 6, 7] 27 [] [.call 176 [.agg (d29 x0), .agg (d35 x1), dI x2] [] (.tup [.agg (d78 y1.1), dB y1.2]) [] [], .len (ln (y1.1.Sources.map pI)) (ln y1.1.Sources)] [] [.tmp 6] 0 [] hC ⟨⟨e176, (k176 x0 x1 x2 _ h2)⟩, len_map _ _, trivial⟩ trivial
theorem e95 : Enters Tryz.prog 95 := en Tryz.func95
def lv169 : List Nat := [0, 1, 2, 3, 4, 6, 7, 9, 11, 20, 21, 22, 23, 29]
def st169_0 (y1 : api_Island × Bool) (n0 : Nat) (z0 : Int) : St := [(4, dO 0 0), (6, dI 0), (7, dO 1 0), (9, dI z0), (20, .d (DS pI y1.1.Consumers)), (21, dI (ln y1.1.Consumers)), (22, dI (cnt 0 n0))]
def R169_0 (x1 : api_Power) (y1 : api_Island × Bool) (n0 : Nat) (z0 : Int) : List Res := [.box 35 (d35 x1), .box 78 (d78 y1.1)]
def sa169_0  (z0 : Int) : St := [(6, dI 0), (9, dI z0)]
def Ra169_0  (z0 : Int) : List Res := []
theorem k169 (x0 : api_Board) (x1 : api_Power) (x2 : Int) (r : Int) (h : F169 x0 x1 x2 = some r) : CallOk Tryz.prog 169 [.agg (d29 x0), .agg (d35 x1), .d (I x2)] [] (.d (I r)) [] := by
 unfold F169 at h
 refine callOk_of 39 Tryz.func169 rfl rfl rfl fun C hC => ?_
 obtain ⟨y1, h2, h⟩ := bindE h
 refine ws (bs := []) lv169 30 [] [.call 176 [.agg (d29 x0), .agg (d35 x1), dI x2] [] (.tup [.agg (d78 y1.1), dB y1.2]) [] [], .len (ln (y1.1.Consumers.map pI)) (ln y1.1.Consumers)] [] 0 [1, 2] (st169_0 y1 0 0) (R169_0 x1 y1 0 0) hC ⟨⟨e176, (k176 x0 x1 x2 _ h2)⟩, len_map _ _, trivial⟩ trivial ?_
 obtain ⟨w0, hm0, hret0, hnext0⟩ := andThen_inv h
 clear h
 refine WI_cut (by kernel_rfl) (fun s => w0 = .next s) (sa169_0) (Ra169_0) ?_ fun z0 hs0 => ?_
 ·refine WI_blk (by kernel_rfl) ?_
  refine WI_len 20 rfl fun hl0 => ?_
  refine WI_foldI (by kernel_rfl) (F169_l0 x1 y1) (st169_0 y1) (R169_0 x1 y1) w0 y1.1.Consumers 0 hm0 rfl rfl (fun z0 hn0 => ?_) fun n0 a0 z0 w0b hi0 hx0 h hb0 hr0 => ?_
  ·clear hm0
   exact we (bs := [(decide ((cnt 0 y1.1.Consumers.length) < (ln y1.1.Consumers)), false)]) (φ := fun s' => w0 = .next s') (st' := (sa169_0)) (R' := (Ra169_0)) lv169 26 [false] [] [] 0 [] z0 hC trivial ⟨(cnt_end hl0), trivial⟩ hn0
  ·unfold F169_l0 at h
   rcases boolC (decide ((ln y1.1.Sources) > 0)) with h3 | h3
   ·replace h := condT h3 h
    obtain ⟨y4, h5, h⟩ := bindE h
    exact we (bs := [(decide ((cnt 0 n0) < (ln y1.1.Consumers)), true), (decide ((ln y1.1.Sources) > 0), true)]) (φ := fun s' => w0b = .next s') (st' := (st169_0 y1 (n0 + 1))) (R' := (R169_0 x1 y1 (n0 + 1))) lv169 36 [true, true] [.row (y1.1.Consumers.map pI) (cnt 0 n0) (pI a0), .len (ln (y1.1.Sources.map pI)) (ln y1.1.Sources), .row (x1.Limits.map pI) a0 (pI y4)] [] 0 [0, 1] (w64 (z0 + y4)) hC ⟨(row_cnt hx0 hl0), len_map _ _, row_get h5, trivial⟩ ⟨(cnt_lt hi0 hl0), h3, trivial⟩ (sI h).symm
   ·replace h := condF h3 h
    exact we (bs := [(decide ((cnt 0 n0) < (ln y1.1.Consumers)), true), (decide ((ln y1.1.Sources) > 0), false)]) (φ := fun s' => w0b = .next s') (st' := (st169_0 y1 (n0 + 1))) (R' := (R169_0 x1 y1 (n0 + 1))) lv169 36 [true, false] [.row (y1.1.Consumers.map pI) (cnt 0 n0) (pI a0), .len (ln (y1.1.Sources.map pI)) (ln y1.1.Sources)] [] 0 [0, 1] z0 hC ⟨(row_cnt hx0 hl0), len_map _ _, trivial⟩ ⟨(cnt_lt hi0 hl0), h3, trivial⟩ (sI h).symm
 ·have h := hnext0 _ hs0
  replace h := sI h
  subst h
  exact wr (bs := []) lv169 23 [] [] [] [.tmp 6] 0 [] hC trivial trivial
theorem e169 : Enters Tryz.prog 169 := en Tryz.func169
def lv170 : List Nat := [0, 1, 2, 3, 4, 6, 7, 9, 11, 20, 21, 22, 23]
def st170_0 (y1 : api_Island × Bool) (n0 : Nat) (z0 : Int) : St := [(3, dO 0 0), (6, dI 0), (9, dI z0), (20, .d (DS pI y1.1.Sources)), (21, dI (ln y1.1.Sources)), (22, dI (cnt 0 n0))]
def R170_0 (x0 : api_Board) (n0 : Nat) (z0 : Int) : List Res := [.box 29 (d29 x0)]
def sa170_0  (z0 : Int) : St := [(6, dI 0), (9, dI z0)]
def Ra170_0  (z0 : Int) : List Res := []
theorem k170 (x0 : api_Board) (x1 : api_Power) (x2 : Int) (r : Int) (h : F170 x0 x1 x2 = some r) : CallOk Tryz.prog 170 [.agg (d29 x0), .agg (d35 x1), .d (I x2)] [] (.d (I r)) [] := by
 unfold F170 at h
 refine callOk_of 36 Tryz.func170 rfl rfl rfl fun C hC => ?_
 obtain ⟨y1, h2, h⟩ := bindE h
 refine ws (bs := []) lv170 30 [] [.call 176 [.agg (d29 x0), .agg (d35 x1), dI x2] [] (.tup [.agg (d78 y1.1), dB y1.2]) [] [], .len (ln (y1.1.Sources.map pI)) (ln y1.1.Sources)] [] 0 [0] (st170_0 y1 0 0) (R170_0 x0 0 0) hC ⟨⟨e176, (k176 x0 x1 x2 _ h2)⟩, len_map _ _, trivial⟩ trivial ?_
 obtain ⟨w0, hm0, hret0, hnext0⟩ := andThen_inv h
 clear h
 refine WI_cut (by kernel_rfl) (fun s => w0 = .next s) (sa170_0) (Ra170_0) ?_ fun z0 hs0 => ?_
 ·refine WI_blk (by kernel_rfl) ?_
  refine WI_len 20 rfl fun hl0 => ?_
  refine WI_foldI (by kernel_rfl) (F170_l0 x0) (st170_0 y1) (R170_0 x0) w0 y1.1.Sources 0 hm0 rfl rfl (fun z0 hn0 => ?_) fun n0 a0 z0 w0b hi0 hx0 h hb0 hr0 => ?_
  ·clear hm0
   exact we (bs := [(decide ((cnt 0 y1.1.Sources.length) < (ln y1.1.Sources)), false)]) (φ := fun s' => w0 = .next s') (st' := (sa170_0)) (R' := (Ra170_0)) lv170 26 [false] [] [] 0 [] z0 hC trivial ⟨(cnt_end hl0), trivial⟩ hn0
  ·unfold F170_l0 at h
   obtain ⟨y3, h4, h⟩ := bindE h
   exact we (bs := [(decide ((cnt 0 n0) < (ln y1.1.Sources)), true)]) (φ := fun s' => w0b = .next s') (st' := (st170_0 y1 (n0 + 1))) (R' := (R170_0 x0 (n0 + 1))) lv170 33 [true] [.row (y1.1.Sources.map pI) (cnt 0 n0) (pI a0), .row (x0.Sources.map q57) a0 (q57 y3)] [] 0 [0] (w64 (z0 + y3.Rating)) hC ⟨(row_cnt hx0 hl0), row_get h4, trivial⟩ ⟨(cnt_lt hi0 hl0), trivial⟩ (sI h).symm
 ·have h := hnext0 _ hs0
  replace h := sI h
  subst h
  exact wr (bs := []) lv170 23 [] [] [] [.tmp 6] 0 [] hC trivial trivial
theorem e170 : Enters Tryz.prog 170 := en Tryz.func170
theorem k23s1 (x0 : dynposmake_Src) (x1 : api_Board) (r : api_Power × dynposmake_Src) (h : F23s1 x0 x1 = some r) : CallOk Tryz.prog 23 [.d (.o 0 0), .agg [I x1.Buses, .os 1, .os 2, .os 3, I x1.Phase, I x1.Frequency]] (.box 121 (d121 x0) :: zs x1 []) (.agg [.os 4, .os 5, .os 6, .os 7]) (.box 121 (d121 r.2) :: zs x1 (zp r.1 [])) := by
 unfold F23s1 at h
 refine callOk_of 16 Tryz.func23 rfl rfl rfl fun C hC => ?_
 obtain ⟨y1, h2, h⟩ := bindE h
 obtain ⟨y3, h4, h⟩ := bindE h
 replace h := sI h
 subst h
 exact wr (bs := []) [0, 1, 3, 4, 5] 27 [] [.flts [.box 35 [.p (.v (.slice none 0 0)), .p (.v (.slice none 0 0)), .p (.v (.slice none 0 0)), .p (.v (.slice none 0 0))]], .call 17 [dO 0 0, .agg [I x1.Buses, .os 1, .os 2, .os 3, I x1.Phase, I x1.Frequency]] (.box 121 (d121 x0) :: zs x1 []) (.agg [.os 4, .os 5, .os 6, .os 7]) (.box 121 (d121 y1.2) :: zs x1 (zp y1.1 [])) n4_, .call 73 [.agg [I x1.Buses, .os 0, .os 1, .os 2, I x1.Phase, I x1.Frequency], .agg [.os 3, .os 4, .os 5, .os 6]] (zs x1 (zp y1.1 [])) (.tup [.agg [.os 7, .os 8, .os 9, .os 10], dI y3.2]) (zs x1 (zp y1.1 (zp y3.1 []))) [1, 2, 3, 7, 8, 9, 10], .flt 6 (.box 35 [.p (.v (.slice none 0 0)), .p (.v (.slice none 0 0)), .p (.v (.slice none 0 0)), .p (.v (.slice none 0 0))]) (.box 35 [.p (.v (.slice none 0 0)), .p (.v (.slice none 0 0)), .p (.v (.slice none 0 0)), .p (.v (.slice none 0 0))])] [] [.cell 4 35] 4 [0, 1, 2, 3, 11, 12, 13, 14] hC ⟨trivial, ⟨e17s1, (k17s1 x0 x1 _ h2)⟩, ⟨e73, ((k73 x1 y1.1 _ h4).lend (by kernel_rfl) (by kernel_rfl) (by kernel_rfl) ⟨flat_sl (fun _ => rfl), flat_sl (fun _ => rfl), flat_sl (fun _ => rfl), flat_sl (fun _ => rfl), trivial⟩ (by kernel_rfl) (by kernel_rfl))⟩, rfl, trivial⟩ trivial
theorem e23s1 : Enters Tryz.prog 23 := en Tryz.func23
def lv251 : List Nat := [0, 1, 2, 3, 4, 5, 6, 7, 8, 9, 10, 20, 22, 23, 49]
theorem k251 (x0 : api_Board) (x1 : api_Power) (x2 : api_Breaker) (r : Bool) (h : F251 x0 x1 x2 = some r) : CallOk Tryz.prog 251 [.agg (d29 x0), .agg (d35 x1), .agg (d66 x2)] [] (.d (Bo r)) [] := by
 unfold F251 at h
 refine callOk_of 64 Tryz.func251 rfl rfl rfl fun C hC => ?_
 obtain ⟨y1, h2, h⟩ := bindE h
 refine ws (bs := []) lv251 28 [] [.call 214 [.agg (d29 x0), .agg (d35 x1), dI x2.A] [] (.tup [dI y1.1, dB y1.2]) [] []] [] 0 n3_ [(3, dO 0 0), (4, dO 1 0), (5, dO 2 0), (6, dB false), (7, dI y1.1), (20, dB (!y1.2))] [.box 29 (d29 x0), .box 35 (d35 x1), .box 66 (d66 x2)] hC ⟨⟨e214, (k214 x0 x1 x2.A _ h2)⟩, trivial⟩ trivial ?_
 rcases boolC (!y1.2) with h3 | h3
 ·replace h := condT h3 h
  replace h := sI h
  subst h
  exact wr (bs := [(!y1.2, true)]) lv251 24 [true] [] [] [.tmp 6] 0 [] hC trivial ⟨h3, trivial⟩
 ·replace h := condF h3 h
  rcases boolC ((x2.Kind == 1)) with h4 | h4
  ·replace h := condT h4 h
   obtain ⟨y5, h6, h⟩ := bindE h
   obtain ⟨y7, h8, h⟩ := bindE h
   obtain ⟨y9, h10, h⟩ := bindE h
   replace h := sI h
   subst h
   exact wr (bs := [(!y1.2, false), ((x2.Kind == 1), true)]) lv251 34 [false, true] [.call 214 [.agg (d29 x0), .agg (d35 x1), dI x2.B] [] (.tup [dI y5.1, dB y5.2]) [] [], .when [(!y5.2, false)] (.row (x1.Sources.map q59) y1.1 (q59 y7)), .when [(!y5.2, false)] (.row (x1.Sources.map q59) y5.1 (q59 y9)), .when [(!y5.2, false)] (.call 274 [.agg (d29 x0), .agg (d59 y7), .agg (d59 y9)] [] (dB (F274 x0 y7 y9)) [] [])] [] [.tmp 6] 0 [] hC ⟨⟨e214, (k214 x0 x1 x2.B _ h6)⟩, fun hg => row_get (guardO_get h8 hg), fun hg => row_get (guardO_get h10 hg), fun hg => ⟨e274, (k274 x0 y7 y9 _ rfl)⟩, trivial⟩ ⟨h3, h4, trivial⟩
  ·replace h := condF h4 h
   rcases boolC ((x2.Kind == 2)) with h11 | h11
   ·replace h := condT h11 h
    obtain ⟨y12, h13, h⟩ := bindE h
    obtain ⟨y14, h15, h⟩ := bindE h
    replace h := sI h
    subst h
    exact wr (bs := [(!y1.2, false), ((x2.Kind == 1), false), ((x2.Kind == 2), true)]) lv251 35 [false, false, true] [.row (x1.Sources.map q59) y1.1 (q59 y12), .row (x1.Sources.map q59) x2.B (q59 y14), .call 274 [.agg (d29 x0), .agg (d59 y12), .agg (d59 y14)] [] (dB (F274 x0 y12 y14)) [] []] [] [.tmp 6] 0 [] hC ⟨row_get h13, row_get h15, ⟨e274, (k274 x0 y12 y14 _ rfl)⟩, trivial⟩ ⟨h3, h4, h11, trivial⟩
   ·replace h := condF h11 h
    replace h := sI h
    subst h
    exact wr (bs := [(!y1.2, false), ((x2.Kind == 1), false), ((x2.Kind == 2), false)]) lv251 37 [false, false, false] [] [] [.tmp 6] 0 [] hC trivial ⟨h3, h4, h11, trivial⟩
theorem e251 : Enters Tryz.prog 251 := en Tryz.func251
def lv144 : List Nat := [0, 1, 2, 3, 4, 5, 8, 9, 10, 11, 12, 13, 14, 15, 16, 17, 23, 44, 63, 76]
theorem k144 (x0 : api_Board) (x1 : api_Power) (x2 : Int) (x3 : Int) (r : api_Power × Int) (h : F144 x0 x1 x2 x3 = some r) : CallOk Tryz.prog 144 [.agg (d29 x0), .agg (d35 x1), .d (I x2), .d (I x3)] [] (.tup [.agg [.os 0, .os 1, .os 2, .os 3], .d (I r.2)]) (zp r.1 []) := by
 unfold F144 at h
 refine callOk_of 95 Tryz.func144 rfl rfl rfl fun C hC => ?_
 obtain ⟨y1, h2, h⟩ := bindE h
 refine ws (bs := []) lv144 28 [] [.call 65 [.agg (d29 x0), .agg (d35 x1)] [] (dI y1) [] []] [.ownb 2 0 4 1, .ownb 2 1 59 4, .ownb 2 2 3 1, .ownb 2 3 119 2] 0 n7_ [(2, dI x2), (3, dI x3), (4, dO 0 0), (5, dO 1 0), (8, dO 2 0), (9, dI 0), (10, dI y1), (23, dB (y1 != 0))] (.box 29 (d29 x0) :: .box 35 (d35 x1) :: .box 35 [.os 3, .os 4, .os 5, .os 6] :: ze []) hC ⟨⟨e65, (k65 x0 x1 _ h2)⟩, trivial⟩ trivial ?_
 rcases boolC ((y1 != 0)) with h3 | h3
 ·replace h := condT h3 h
  replace h := sI h
  subst h
  exact wr (bs := [((y1 != 0), true)]) lv144 24 [true] [] [.ownb 2 0 4 1, .ownb 2 1 59 4, .ownb 2 2 3 1, .ownb 2 3 119 2] [.cell 8 35, .tmp 9] 0 [7, 8, 9, 10] hC trivial ⟨h3, trivial⟩
 ·replace h := condF h3 h
  rcases boolC ((c144_0 x0 x2 x3)) with h4 | h4
  ·replace h := condT h4 h
   replace h := sI h
   subst h
   exact wr (bs := [((y1 != 0), false), ((c144_0 x0 x2 x3), true)]) lv144 29 [false, true] [.when [(decide (x2 < 0), false)] (.len (ln (x0.Sources.map q57)) (ln x0.Sources))] [.ownb 2 0 4 1, .ownb 2 1 59 4, .ownb 2 2 3 1, .ownb 2 3 119 2] [.cell 8 35, .tmp 9] 0 [7, 8, 9, 10] hC ⟨fun hg => len_map _ _, trivial⟩ ⟨h3, h4, trivial⟩
  ·replace h := condF h4 h
   obtain ⟨y5, h6, h⟩ := bindE h
   obtain ⟨y7, h8, h⟩ := bindE h
   refine ws (bs := [((y1 != 0), false), ((c144_0 x0 x2 x3), false)]) lv144 33 [false, false] [.when [(decide (x2 < 0), false)] (.len (ln (x0.Sources.map q57)) (ln x0.Sources)), .call 214 [.agg (d29 x0), .agg (d35 x1), dI x3] [] (.tup [dI y5.1, dB y5.2]) [] [], .when [(!y5.2, false)] (.row (x1.Sources.map q59) x2 (q59 y7))] [] 0 n7_ [(2, dI x2), (4, dO 0 0), (5, dO 1 0), (8, dO 2 0), (9, dI 0), (11, dI y5.1), (63, dB ((!y5.2) || (y7.State != 2)))] (.box 29 (d29 x0) :: .box 35 (d35 x1) :: .box 35 [.os 3, .os 4, .os 5, .os 6] :: ze []) hC ⟨fun hg => len_map _ _, ⟨e214, (k214 x0 x1 x3 _ h6)⟩, fun hg => row_get (guardO_get h8 hg), trivial⟩ ⟨h3, h4, trivial⟩ ?_
   rcases boolC (((!y5.2) || (y7.State != 2))) with h9 | h9
   ·replace h := condT h9 h
    replace h := sI h
    subst h
    exact wr (bs := [(((!y5.2) || (y7.State != 2)), true)]) lv144 24 [true] [] [.ownb 2 0 4 1, .ownb 2 1 59 4, .ownb 2 2 3 1, .ownb 2 3 119 2] [.cell 8 35, .tmp 9] 0 [7, 8, 9, 10] hC trivial ⟨h9, trivial⟩
   ·replace h := condF h9 h
    obtain ⟨y10, h11, h⟩ := bindE h
    obtain ⟨y12, h13, h⟩ := bindE h
    refine ws (bs := [(((!y5.2) || (y7.State != 2)), false)]) lv144 32 [false] [.call 70 [.agg (d35 x1)] [] (.agg [.os 0, .os 1, .os 2, .os 3]) (zp y10 []) [], .call 215 [.agg (d29 x0), .agg (d35 x1), dI x2] [] (.tup [dI y12.1, dB y12.2]) [] []] [] 0 n12_ [(4, dO 0 0), (5, dO 1 0), (8, dO 2 0), (9, dI 0), (11, dI y5.1), (13, dO 11 0), (14, .d (DS pI [x2])), (15, dI y12.1), (76, dB y12.2)] (.box 29 (d29 x0) :: .box 35 (d35 x1) :: .box 35 [.os 3, .os 4, .os 5, .os 6] :: ze (zp y10 [.box 35 [.os 7, .os 8, .os 9, .os 10]])) hC ⟨⟨e70, (k70 x1 _ h11)⟩, ⟨e215, (k215 x0 x1 x2 _ h13)⟩, trivial⟩ ⟨h9, trivial⟩ ?_
    rcases boolC (y12.2) with h14 | h14
    ·replace h := condT h14 h
     obtain ⟨y15, h16, h⟩ := bindE h
     obtain ⟨y17, h18, h⟩ := bindE h
     obtain ⟨y19, h20, h⟩ := bindE h
     replace h := sI h
     subst h
     exact wr (bs := [(y12.2, true)]) lv144 29 [true] [.call 176 [.agg (d29 x0), .agg (d35 x1), dI y12.1] [] (.tup [.agg (d78 y15.1), dB y15.2]) [] [], .row (x1.Sources.map q59) y5.1 (q59 y17), .call 183 [.agg [.os 0, .os 1, .os 2, .os 3], .d (DS pI y15.1.Sources), .agg (d59 y17)] (zp y10 []) (.tup []) [.sl 4 1 (y10.Closed.map pB), .sl 59 4 (y19.map q59), .sl 3 1 (y10.Limits.map pI), .sl 119 2 (y10.Broken.map q119)] [7, 8, 9, 10]] [] [.cell 8 35, .tmp 9] 0 [7, 8, 9, 10] hC ⟨⟨e176, (k176 x0 x1 y12.1 _ h16)⟩, row_get h18, ⟨e183s0, (k183s0 y10 y15.1.Sources y17 _ h20)⟩, trivial⟩ ⟨h14, trivial⟩
    ·replace h := condF h14 h
     obtain ⟨y21, h22, h⟩ := bindE h
     obtain ⟨y23, h24, h⟩ := bindE h
     replace h := sI h
     subst h
     exact wr (bs := [(y12.2, false)]) lv144 27 [false] [.row (x1.Sources.map q59) y5.1 (q59 y21), .call 183 [.agg [.os 0, .os 1, .os 2, .os 3], .d (DS pI [x2]), .agg (d59 y21)] (zp y10 []) (.tup []) [.sl 4 1 (y10.Closed.map pB), .sl 59 4 (y23.map q59), .sl 3 1 (y10.Limits.map pI), .sl 119 2 (y10.Broken.map q119)] [7, 8, 9, 10]] [] [.cell 8 35, .tmp 9] 0 [7, 8, 9, 10] hC ⟨row_get h22, ⟨e183s0, (k183s0 y10 [x2] y21 _ h24)⟩, trivial⟩ ⟨h14, trivial⟩
theorem e144 : Enters Tryz.prog 144 := en Tryz.func144
theorem k224s0 (x0 : api_Breaker) (x1 : shed_relief) (r : Bool × shed_relief) (h : F224s0 x0 x1 = some r) : CallOk Tryz.prog 224 [.agg (d66 x0), .d (.o 0 0)] (.box 198 [.o 1 0] :: .box 244 (zb x1.board [.os 2, .os 3, .os 4, .os 5, .os 6]) :: zp x1.power [.sl 42 3 (x1.acts.map q42)]) (.d (Bo r.1)) (.box 198 [.o 1 0] :: .box 244 (zb r.2.board [.os 2, .os 3, .os 4, .os 5, .os 6]) :: zp r.2.power [.sl 42 3 (r.2.acts.map q42)]) := by
 unfold F224s0 at h
 refine callOk_of 21 Tryz.func224 rfl rfl rfl fun C hC => ?_
 obtain ⟨y1, h2, h⟩ := bindE h
 replace h := sI h
 subst h
 exact wr (bs := []) n4_ 25 [] [.when [((x0.Kind == 3), true)] (.callB 95 [.agg (d29 x1.board), .agg (d35 x1.power), dI x0.A] (dB y1) [[]] 0 [])] [] [.tmp 3] 7 n7_ hC ⟨fun hg => lend0_get ⟨e95, (k95 x1.board x1.power x0.A _ (guardO_get h2 hg))⟩, trivial⟩ trivial
theorem e224s0 : Enters Tryz.prog 224 := en Tryz.func224
def lv83 : List Nat := [0, 1, 2, 3, 4, 5, 6, 8, 9, 10, 11, 37]
def st83_0 (x0 : api_Board) (n0 : Nat) (z0 : Unit) : St := [(2, dO 0 0), (3, dO 1 0), (4, dB false), (8, .d (DS q66 x0.Breakers)), (9, dI (ln x0.Breakers)), (10, dI (cnt 0 n0))]
def R83_0 (x0 : api_Board) (x1 : api_Power) (n0 : Nat) (z0 : Unit) : List Res := [.box 29 (d29 x0), .box 35 (d35 x1)]
def sa83_0  (z0 : Unit) : St := [(4, dB false)]
def Ra83_0  (z0 : Unit) : List Res := []
theorem k83 (x0 : api_Board) (x1 : api_Power) (r : Bool) (h : F83 x0 x1 = some r) : CallOk Tryz.prog 83 [.agg (d29 x0), .agg (d35 x1)] [] (.d (Bo r)) [] := by
 unfold F83 at h
 refine callOk_of 39 Tryz.func83 rfl rfl rfl fun C hC => ?_
 refine ws (bs := []) lv83 26 [] [.len (ln (x0.Breakers.map q66)) (ln x0.Breakers)] [] 0 [0, 1] (st83_0 x0 0 ()) (R83_0 x0 x1 0 ()) hC ⟨len_map _ _, trivial⟩ trivial ?_
 obtain ⟨w0, hm0, hret0, hnext0⟩ := andThen_inv h
 clear h
 refine WI_cut (by kernel_rfl) (fun s => w0 = .next s) (sa83_0) (Ra83_0) ?_ fun z0 hs0 => ?_
 ·refine WI_blk (by kernel_rfl) ?_
  refine WI_len 8 rfl fun hl0 => ?_
  refine WI_foldI (by kernel_rfl) (F83_l0 x0 x1) (st83_0 x0) (R83_0 x0 x1) w0 x0.Breakers () hm0 rfl rfl (fun z0 hn0 => ?_) fun n0 a0 z0 w0b hi0 hx0 h hb0 hr0 => ?_
  ·clear hm0
   exact we (bs := [(decide ((cnt 0 x0.Breakers.length) < (ln x0.Breakers)), false)]) (φ := fun s' => w0 = .next s') (st' := (sa83_0)) (R' := (Ra83_0)) lv83 26 [false] [] [] 0 [] () hC trivial ⟨(cnt_end hl0), trivial⟩ hn0
  ·unfold F83_l0 at h
   obtain ⟨y1, h2, h⟩ := bindE h
   obtain ⟨y3, h4, h⟩ := bindE h
   obtain ⟨y5, h6, h⟩ := bindE h
   refine ws (bs := [(decide ((cnt 0 n0) < (ln x0.Breakers)), true)]) lv83 32 [true] [.row (x0.Breakers.map q66) (cnt 0 n0) (q66 a0), .when [((a0.Kind == 1), true)] (.row (x1.Closed.map pB) (cnt 0 n0) (pB y1)), .when [(((a0.Kind == 1) && y1), true)] (.call 134 [.agg (d35 x1), dI 2, dI (cnt 0 n0)] [] (dB y3) [] []), .when [((((a0.Kind == 1) && y1) && y3), true)] (.call 95 [.agg (d29 x0), .agg (d35 x1), dI a0.A] [] (dB y5) [] [])] [] 0 [0, 1] [(2, dO 0 0), (3, dO 1 0), (4, dB false), (8, .d (DS q66 x0.Breakers)), (9, dI (ln x0.Breakers)), (10, dI (cnt 0 n0)), (37, dB (c83_1 a0 y1 y3 y5))] [.box 29 (d29 x0), .box 35 (d35 x1)] hC ⟨(row_cnt hx0 hl0), fun hg => row_get (guardO_get h2 hg), fun hg => ⟨e134, (k134 x1 2 (cnt 0 n0) _ (guardO_get h4 hg))⟩, fun hg => ⟨e95, (k95 x0 x1 a0.A _ (guardO_get h6 hg))⟩, trivial⟩ ⟨(cnt_lt hi0 hl0), trivial⟩ ?_
   rcases boolC ((c83_1 a0 y1 y3 y5)) with h7 | h7
   ·replace h := condT h7 h
    cases h
   ·replace h := condF h7 h
    exact we (bs := [((c83_1 a0 y1 y3 y5), false)]) (φ := fun s' => w0b = .next s') (st' := (st83_0 x0 (n0 + 1))) (R' := (R83_0 x0 x1 (n0 + 1))) lv83 25 [false] [] [] 0 [0, 1] () hC trivial ⟨h7, trivial⟩ (sI h).symm
 ·have h := hnext0 _ hs0
  replace h := sI h
  subst h
  exact wr (bs := []) lv83 23 [] [] [] [.tmp 4] 0 [] hC trivial trivial
theorem e83 : Enters Tryz.prog 83 := en Tryz.func83
def lv42 : List Nat := [0, 1, 2, 3, 4, 5, 6, 9, 10, 11, 12, 23]
def st42_0 (y1 : (List Bool)) (n0 : Nat) (z0 : Unit) : St := [(2, dO 0 0), (3, dO 1 0), (4, dB false), (9, dS 2), (10, dI (ln y1)), (11, dI (cnt 0 n0))]
def R42_0 (x0 : api_Board) (x1 : api_Power) (y1 : (List Bool)) (n0 : Nat) (z0 : Unit) : List Res := [.box 29 (d29 x0), .box 35 (d35 x1), .sl 4 1 (y1.map pB)]
def sa42_0  (z0 : Unit) : St := [(2, dO 0 0), (3, dO 1 0), (4, dB false)]
def Ra42_0 (x0 : api_Board) (x1 : api_Power) (z0 : Unit) : List Res := [.box 29 (d29 x0), .box 35 (d35 x1)]
theorem k42 (x0 : api_Board) (x1 : api_Power) (r : Bool) (h : F42 x0 x1 = some r) : CallOk Tryz.prog 42 [.agg (d29 x0), .agg (d35 x1)] [] (.d (Bo r)) [] := by
 unfold F42 at h
 refine callOk_of 29 Tryz.func42 rfl rfl rfl fun C hC => ?_
 obtain ⟨y1, h2, h⟩ := bindE h
 refine ws (bs := []) lv42 26 [] [.call 18 [.agg (d29 x0), .agg (d35 x1)] [] (dS 0) [.sl 4 1 (y1.map pB)] [], .len (ln (y1.map pB)) (ln y1)] [] 0 n3_ (st42_0 y1 0 ()) (R42_0 x0 x1 y1 0 ()) hC ⟨⟨e18, (k18 x0 x1 _ h2)⟩, len_map _ _, trivial⟩ trivial ?_
 obtain ⟨w0, hm0, hret0, hnext0⟩ := andThen_inv h
 clear h
 refine WI_cut (by kernel_rfl) (fun s => w0 = .next s) (sa42_0) (Ra42_0 x0 x1) ?_ fun z0 hs0 => ?_
 ·refine WI_blk (by kernel_rfl) ?_
  refine WI_lenO 9 2 rfl rfl fun hl0 => ?_
  refine WI_foldI (by kernel_rfl) (F42_l0 x0 x1) (st42_0 y1) (R42_0 x0 x1 y1) w0 y1 () hm0 rfl rfl (fun z0 hn0 => ?_) fun n0 a0 z0 w0b hi0 hx0 h hb0 hr0 => ?_
  ·clear hm0
   exact we (bs := [(decide ((cnt 0 y1.length) < (ln y1)), false)]) (φ := fun s' => w0 = .next s') (st' := (sa42_0)) (R' := (Ra42_0 x0 x1)) lv42 26 [false] [] [] 0 [0, 1] () hC trivial ⟨(cnt_end hl0), trivial⟩ hn0
  ·unfold F42_l0 at h
   obtain ⟨y3, h4, h⟩ := bindE h
   refine ws (bs := [(decide ((cnt 0 n0) < (ln y1)), true)]) lv42 32 [true] [.row (y1.map pB) (cnt 0 n0) (pB a0), .row (y1.map pB) (((Int.toNat (cnt 0 n0)) : Nat) : Int) (pB a0), .when [(a0, true)] (.call 95 [.agg (d29 x0), .agg (d35 x1), dI (cnt 0 n0)] [] (dB y3) [] [])] [] 0 n3_ [(2, dO 0 0), (3, dO 1 0), (4, dB false), (9, dS 2), (10, dI (ln y1)), (11, dI (cnt 0 n0)), (23, dB (a0 && (!y3)))] [.box 29 (d29 x0), .box 35 (d35 x1), .sl 4 1 (y1.map pB)] hC ⟨row_get (get_cnt hx0 hl0), row_getN (get_cnt hx0 hl0), fun hg => ⟨e95, (k95 x0 x1 (cnt 0 n0) _ (guardO_get h4 hg))⟩, trivial⟩ ⟨(cnt_lt hi0 hl0), trivial⟩ ?_
   rcases boolC ((a0 && (!y3))) with h5 | h5
   ·replace h := condT h5 h
    have hq := hret0 _ (hr0 _ (sI h).symm)
    replace hq := sI hq
    subst hq
    exact wr (bs := [((a0 && (!y3)), true)]) lv42 24 [true] [] [] [.tmp 4] 0 [] hC trivial ⟨h5, trivial⟩
   ·replace h := condF h5 h
    exact we (bs := [((a0 && (!y3)), false)]) (φ := fun s' => w0b = .next s') (st' := (st42_0 y1 (n0 + 1))) (R' := (R42_0 x0 x1 y1 (n0 + 1))) lv42 25 [false] [] [] 0 n3_ () hC trivial ⟨h5, trivial⟩ (sI h).symm
 ·have h := hnext0 _ hs0
  obtain ⟨y6, h7, h⟩ := bindE h
  replace h := sI h
  subst h
  exact wr (bs := []) lv42 23 [] [.call 65 [.agg (d29 x0), .agg (d35 x1)] [] (dI y6) [] []] [] [.tmp 4] 0 [] hC ⟨⟨e65, (k65 x0 x1 _ h7)⟩, trivial⟩ trivial
theorem e42 : Enters Tryz.prog 42 := en Tryz.func42
theorem k164s0 (x0 : restore_planner) (x1 : Int) (r : Bool) (h : F164s0 x0 x1 = some r) : CallOk Tryz.prog 164 [.d (.ip [.v (.int .i64 x0.board.Buses), .s (x0.board.Breakers.map q66), .s (x0.board.Sources.map q57), .s (x0.board.Consumers.map q108), .v (.int .i64 x0.board.Phase), .v (.int .i64 x0.board.Frequency), .s (x0.power.Closed.map pB), .s (x0.power.Sources.map q59), .s (x0.power.Limits.map pI), .s (x0.power.Broken.map q119), .s (x0.goal.map pB), .s (x0.acts.map q42)]), .d (I x1)] [] (.d (Bo r)) [] := by
 unfold F164s0 at h
 refine callOk_of 15 Tryz.func164 rfl rfl rfl fun C hC => ?_
 obtain ⟨y1, h2, h⟩ := bindE h
 replace h := sI h
 subst h
 exact wr (bs := []) [0, 1, 4] 25 [] [.call 95 [.agg (d29 x0.board), .agg (d35 x0.power), dI x1] [] (dB y1) [] []] [] [.tmp 4] 0 [] hC ⟨⟨e95, (k95 x0.board x0.power x1 _ h2)⟩, trivial⟩ trivial
theorem e164s0 : Enters Tryz.prog 164 := en Tryz.func164
def lv213 : List Nat := [0, 1, 2, 3, 4, 6, 7, 8, 9, 11, 15, 19, 29, 66]
theorem k213 (x0 : api_Board) (x1 : api_Power) (x2 : Int) (r : Int) (h : F213 x0 x1 x2 = some r) : CallOk Tryz.prog 213 [.agg (d29 x0), .agg (d35 x1), .d (I x2)] [] (.d (I r)) [] := by
 unfold F213 at h
 refine callOk_of 67 Tryz.func213 rfl rfl rfl fun C hC => ?_
 obtain ⟨y1, h2, h⟩ := bindE h
 refine ws (bs := []) lv213 29 [] [.call 65 [.agg (d29 x0), .agg (d35 x1)] [] (dI y1) [] []] [] 0 [0, 1] [(2, dI x2), (3, dO 0 0), (4, dO 1 0), (6, dI 0), (7, dI y1), (15, dB (y1 != 0))] [.box 29 (d29 x0), .box 35 (d35 x1)] hC ⟨⟨e65, (k65 x0 x1 _ h2)⟩, trivial⟩ trivial ?_
 rcases boolC ((y1 != 0)) with h3 | h3
 ·replace h := condT h3 h
  replace h := sI h
  subst h
  exact wr (bs := [((y1 != 0), true)]) lv213 24 [true] [] [] [.tmp 6] 0 [] hC trivial ⟨h3, trivial⟩
 ·replace h := condF h3 h
  rcases boolC ((c213_0 x0 x2)) with h4 | h4
  ·replace h := condT h4 h
   replace h := sI h
   subst h
   exact wr (bs := [((y1 != 0), false), ((c213_0 x0 x2), true)]) lv213 27 [false, true] [.when [(decide (x2 < 0), false)] (.len (ln (x0.Breakers.map q66)) (ln x0.Breakers))] [] [.tmp 6] 0 [] hC ⟨fun hg => len_map _ _, trivial⟩ ⟨h3, h4, trivial⟩
  ·replace h := condF h4 h
   obtain ⟨y5, h6, h⟩ := bindE h
   refine ws (bs := [((y1 != 0), false), ((c213_0 x0 x2), false)]) lv213 27 [false, false] [.when [(decide (x2 < 0), false)] (.len (ln (x0.Breakers.map q66)) (ln x0.Breakers)), .call 250 [.agg (d29 x0), .agg (d35 x1), dI x2] [] (dB y5) [] []] [] 0 [0, 1] [(2, dI x2), (3, dO 0 0), (4, dO 1 0), (6, dI 0), (29, dB (!y5))] [.box 29 (d29 x0), .box 35 (d35 x1)] hC ⟨fun hg => len_map _ _, ⟨e250, (k250 x0 x1 x2 _ h6)⟩, trivial⟩ ⟨h3, h4, trivial⟩ ?_
   rcases boolC (!y5) with h7 | h7
   ·replace h := condT h7 h
    replace h := sI h
    subst h
    exact wr (bs := [(!y5, true)]) lv213 24 [true] [] [] [.tmp 6] 0 [] hC trivial ⟨h7, trivial⟩
   ·replace h := condF h7 h
    obtain ⟨y8, h9, h⟩ := bindE h
    obtain ⟨y10, h11, h⟩ := bindE h
    obtain ⟨y12, h13, h⟩ := bindE h
    obtain ⟨y14, h15, h⟩ := bindE h
    refine ws (bs := [(!y5, false)]) lv213 33 [false] [.row (x0.Breakers.map q66) x2 (q66 y8), .call 176 [.agg (d29 x0), .agg (d35 x1), dI y8.A] [] (.tup [.agg (d78 y10.1), dB y10.2]) [] [], .when [((y8.Kind == 1), true)] (.call 96 [.d (DS pI y10.1.Buses), dI y8.B] [] (dB y12) [] []), .when [(!((y8.Kind == 1) && y12), true)] (.call 251 [.agg (d29 x0), .agg (d35 x1), .agg (d66 y8)] [] (dB y14) [] [])] [] 0 [] [(6, dI 0), (66, .d (Bo ((!((y8.Kind == 1) && y12)) && (!y14))))] [] hC ⟨row_get h9, ⟨e176, (k176 x0 x1 y8.A _ h11)⟩, fun hg => ⟨e96, (k96 y10.1.Buses y8.B _ (guardO_get h13 hg))⟩, fun hg => ⟨e251, (k251 x0 x1 y8 _ (guardO_get h15 hg))⟩, trivial⟩ ⟨h7, trivial⟩ ?_
    rcases boolC (((!((y8.Kind == 1) && y12)) && (!y14))) with h16 | h16
    ·replace h := condT h16 h
     replace h := sI h
     subst h
     exact wr (bs := [(((!((y8.Kind == 1) && y12)) && (!y14)), true)]) lv213 24 [true] [] [] [.tmp 6] 0 [] hC trivial ⟨h16, trivial⟩
    ·replace h := condF h16 h
     replace h := sI h
     subst h
     exact wr (bs := [(((!((y8.Kind == 1) && y12)) && (!y14)), false)]) lv213 25 [false] [] [] [.tmp 6] 0 [] hC trivial ⟨h16, trivial⟩
theorem e213 : Enters Tryz.prog 213 := en Tryz.func213
def lv222s2 : List Nat := [0, 1, 4, 5, 6, 8, 13, 14, 15, 16, 32, 38, 39, 40, 41]
def st222s2_0 (x0 : shed_relief) (n0 : Nat) (z0 : Sg6) : St := [(0, dO 0 0), (1, .d (.fn (.func 224) [] [.o 6 0])), (4, dS 7), (13, .d (DS q66 x0.board.Breakers)), (14, dI (ln x0.board.Breakers)), (15, dI (cnt 0 n0))]
def R222s2_0  (n0 : Nat) (z0 : Sg6) : List Res := [.box 244 [I z0.1, DS q66 z0.2.1, DS q57 z0.2.2.1, DS q108 z0.2.2.2.1, I z0.2.2.2.2.1, I z0.2.2.2.2.2.1, .os 8, .os 9, .os 10, .os 11, .os 12], .non, .non, .non, .non, .non, .box 198 [.o 0 0], .sl 3 1 (([] : List Int).map pI), .sl 4 1 (z0.2.2.2.2.2.2.1.map pB), .sl 59 4 (z0.2.2.2.2.2.2.2.1.map q59), .sl 3 1 (z0.2.2.2.2.2.2.2.2.1.map pI), .sl 119 2 (z0.2.2.2.2.2.2.2.2.2.1.map q119), .sl 42 3 (z0.2.2.2.2.2.2.2.2.2.2.map q42)]
def sa222s2_0  (z0 : Sg6) : St := [(0, dO 0 0), (4, dS 7)]
def Ra222s2_0  (z0 : Sg6) : List Res := [.box 244 [I z0.1, DS q66 z0.2.1, DS q57 z0.2.2.1, DS q108 z0.2.2.2.1, I z0.2.2.2.2.1, I z0.2.2.2.2.2.1, .os 8, .os 9, .os 10, .os 11, .os 12], .non, .non, .non, .non, .non, .box 198 [.o 0 0], .sl 3 1 (([] : List Int).map pI), .sl 4 1 (z0.2.2.2.2.2.2.1.map pB), .sl 59 4 (z0.2.2.2.2.2.2.2.1.map q59), .sl 3 1 (z0.2.2.2.2.2.2.2.2.1.map pI), .sl 119 2 (z0.2.2.2.2.2.2.2.2.2.1.map q119), .sl 42 3 (z0.2.2.2.2.2.2.2.2.2.2.map q42)]
def st222s2_1  (n1 : Nat) (z1 : Sg6) : St := [(0, dO 0 0), (38, dS 7), (39, dI (ln ([] : List Int))), (40, dI (cnt 0 n1))]
def R222s2_1  (n1 : Nat) (z1 : Sg6) : List Res := [.box 244 [I z1.1, DS q66 z1.2.1, DS q57 z1.2.2.1, DS q108 z1.2.2.2.1, I z1.2.2.2.2.1, I z1.2.2.2.2.2.1, .os 8, .os 9, .os 10, .os 11, .os 12], .non, .non, .non, .non, .non, .box 198 [.o 0 0], .sl 3 1 (([] : List Int).map pI), .sl 4 1 (z1.2.2.2.2.2.2.1.map pB), .sl 59 4 (z1.2.2.2.2.2.2.2.1.map q59), .sl 3 1 (z1.2.2.2.2.2.2.2.2.1.map pI), .sl 119 2 (z1.2.2.2.2.2.2.2.2.2.1.map q119), .sl 42 3 (z1.2.2.2.2.2.2.2.2.2.2.map q42)]
def sa222s2_1  (z1 : Sg6) : St := []
def Ra222s2_1  (z1 : Sg6) : List Res := [.box 244 [I z1.1, DS q66 z1.2.1, DS q57 z1.2.2.1, DS q108 z1.2.2.2.1, I z1.2.2.2.2.1, I z1.2.2.2.2.2.1, .os 7, .os 8, .os 9, .os 10, .os 11], .non, .non, .non, .non, .non, .box 198 [.o 0 0], .sl 4 1 (z1.2.2.2.2.2.2.1.map pB), .sl 59 4 (z1.2.2.2.2.2.2.2.1.map q59), .sl 3 1 (z1.2.2.2.2.2.2.2.2.1.map pI), .sl 119 2 (z1.2.2.2.2.2.2.2.2.2.1.map q119), .sl 42 3 (z1.2.2.2.2.2.2.2.2.2.2.map q42)]
theorem k222s2 (x0 : shed_relief) (r : shed_relief) (h : F222s2 x0 = some r) : CallOk Tryz.prog 222 [.d (.o 0 0), .d (.fn (.func 224) [] [.o 6 0])] (.box 244 (zb x0.board [.os 1, .os 2, .os 3, .os 4, .os 5]) :: zp x0.power [.sl 42 3 (x0.acts.map q42), .box 198 [.o 0 0]]) (.tup []) (.box 244 (zb r.board [.os 7, .os 8, .os 9, .os 10, .os 11]) :: .non :: .non :: .non :: .non :: .non :: .box 198 [.o 0 0] :: zp r.power [.sl 42 3 (r.acts.map q42)]) := by
 unfold F222s2 at h
 refine callOk_of 48 Tryz.func222 rfl rfl rfl fun C hC => ?_
 refine ws (bs := []) lv222s2 26 [] [.len (ln (x0.board.Breakers.map q66)) (ln x0.board.Breakers)] [.own 4 3 1, .mv 1, .mv 2, .mv 3, .mv 4, .mv 5] 7 n13_ (st222s2_0 x0 0 (zt x0.board (zu x0.power x0.acts))) (R222s2_0 0 (zt x0.board (zu x0.power x0.acts))) hC ⟨len_map _ _, trivial⟩ trivial ?_
 obtain ⟨w0, hm0, hret0, hnext0⟩ := andThen_inv h
 clear h
 refine WI_cut (by kernel_rfl) (fun s => w0 = .next s) (sa222s2_0) (Ra222s2_0) ?_ fun z0 hs0 => ?_
 ·refine WI_blk (by kernel_rfl) ?_
  refine WI_len 13 rfl fun hl0 => ?_
  refine WI_foldI (by kernel_rfl) F222s2_l0 (st222s2_0 x0) (R222s2_0) w0 x0.board.Breakers (zt x0.board (zu x0.power x0.acts)) hm0 rfl rfl (fun z0 hn0 => ?_) fun n0 a0 z0 w0b hi0 hx0 h hb0 hr0 => ?_
  ·clear hm0
   exact we (bs := [(decide ((cnt 0 x0.board.Breakers.length) < (ln x0.board.Breakers)), false)]) (φ := fun s' => w0 = .next s') (st' := (sa222s2_0)) (R' := (Ra222s2_0)) lv222s2 26 [false] [] [] 7 n13_ (z0.1, z0.2.1, z0.2.2.1, z0.2.2.2.1, z0.2.2.2.2.1, z0.2.2.2.2.2.1, z0.2.2.2.2.2.2.1, z0.2.2.2.2.2.2.2.1, z0.2.2.2.2.2.2.2.2.1, z0.2.2.2.2.2.2.2.2.2.1, z0.2.2.2.2.2.2.2.2.2.2) hC trivial ⟨(cnt_end hl0), trivial⟩ hn0
  ·unfold F222s2_l0 at h
   obtain ⟨y1, h2, h⟩ := bindE h
   obtain ⟨y3, h4, h⟩ := bindE h
   refine ws (bs := [(decide ((cnt 0 n0) < (ln x0.board.Breakers)), true)]) lv222s2 32 [true] [.row (x0.board.Breakers.map q66) (cnt 0 n0) (q66 a0), .row (z0.2.2.2.2.2.2.1.map pB) (cnt 0 n0) (pB y1), .row (z0.2.2.2.2.2.2.1.map pB) (((Int.toNat (cnt 0 n0)) : Nat) : Int) (pB y1), .whenR [(y1, true)] (.call 224 [.agg (d66 a0), dO 0 0] [.box 198 [.o 1 0], .box 244 [I z0.1, DS q66 z0.2.1, DS q57 z0.2.2.1, DS q108 z0.2.2.2.1, I z0.2.2.2.2.1, I z0.2.2.2.2.2.1, .os 2, .os 3, .os 4, .os 5, .os 6], .sl 4 1 (z0.2.2.2.2.2.2.1.map pB), .sl 59 4 (z0.2.2.2.2.2.2.2.1.map q59), .sl 3 1 (z0.2.2.2.2.2.2.2.2.1.map pI), .sl 119 2 (z0.2.2.2.2.2.2.2.2.2.1.map q119), .sl 42 3 (z0.2.2.2.2.2.2.2.2.2.2.map q42)] (dB y3.1) (.box 198 [.o 1 0] :: .box 244 (zb y3.2.board [.os 2, .os 3, .os 4, .os 5, .os 6]) :: zp y3.2.power [.sl 42 3 (y3.2.acts.map q42)]) [6, 0, 8, 9, 10, 11, 12])] [] 7 n13_ [(0, dO 0 0), (1, .d (.fn (.func 224) [] [.o 6 0])), (4, dS 7), (5, dI (cnt 0 n0)), (13, .d (DS q66 x0.board.Breakers)), (14, dI (ln x0.board.Breakers)), (15, dI (cnt 0 n0)), (32, dB (y1 && y3.1))] (.box 244 (zb y3.2.board [.os 8, .os 9, .os 10, .os 11, .os 12]) :: .non :: .non :: .non :: .non :: .non :: .box 198 [.o 0 0] :: .sl 3 1 (([] : List Int).map pI) :: zp y3.2.power [.sl 42 3 (y3.2.acts.map q42)]) hC ⟨(row_cnt hx0 hl0), row_get h2, row_getN h2, ⟨fun hg => ⟨e224s0, (k224s0 a0 (⟨(⟨z0.1, z0.2.1, z0.2.2.1, z0.2.2.2.1, z0.2.2.2.2.1, z0.2.2.2.2.2.1⟩ : api_Board), (⟨z0.2.2.2.2.2.2.1, z0.2.2.2.2.2.2.2.1, z0.2.2.2.2.2.2.2.2.1, z0.2.2.2.2.2.2.2.2.2.1⟩ : api_Power), z0.2.2.2.2.2.2.2.2.2.2⟩ : shed_relief) _ (guardO_get h4 hg))⟩, fun hg => by have e := guardO_not h4 hg; subst e; rfl⟩, trivial⟩ ⟨(cnt_lt hi0 hl0), trivial⟩ ?_
   rcases boolC ((y1 && y3.1)) with h5 | h5
   ·replace h := condT h5 h
    cases h
   ·replace h := condF h5 h
    exact we (bs := [((y1 && y3.1), false)]) (φ := fun s' => w0b = .next s') (st' := (st222s2_0 x0 (n0 + 1))) (R' := (R222s2_0 (n0 + 1))) lv222s2 25 [false] [] [] 7 n13_ (zt y3.2.board (zu y3.2.power y3.2.acts)) hC trivial ⟨h5, trivial⟩ (sI h).symm
 ·have h := hnext0 _ hs0
  refine ws (bs := []) lv222s2 23 [] [.len (ln (([] : List Int).map pI)) (ln ([] : List Int))] [] 7 n13_ (st222s2_1 0 (z0.1, z0.2.1, z0.2.2.1, z0.2.2.2.1, z0.2.2.2.2.1, z0.2.2.2.2.2.1, z0.2.2.2.2.2.2.1, z0.2.2.2.2.2.2.2.1, z0.2.2.2.2.2.2.2.2.1, z0.2.2.2.2.2.2.2.2.2.1, z0.2.2.2.2.2.2.2.2.2.2)) (R222s2_1 0 (z0.1, z0.2.1, z0.2.2.1, z0.2.2.2.1, z0.2.2.2.2.1, z0.2.2.2.2.2.1, z0.2.2.2.2.2.2.1, z0.2.2.2.2.2.2.2.1, z0.2.2.2.2.2.2.2.2.1, z0.2.2.2.2.2.2.2.2.2.1, z0.2.2.2.2.2.2.2.2.2.2)) hC ⟨len_map _ _, trivial⟩ trivial ?_
  obtain ⟨w1, hm1, hret1, hnext1⟩ := andThen_inv h
  clear h
  refine WI_cut (by kernel_rfl) (fun s => w1 = .next s) (sa222s2_1) (Ra222s2_1) ?_ fun z1 hs1 => ?_
  ·refine WI_blk (by kernel_rfl) ?_
   refine WI_lenO 38 7 rfl rfl fun hl1 => ?_
   refine WI_foldI (by kernel_rfl) F222s2_l1 (st222s2_1) (R222s2_1) w1 ([] : List Int) (z0.1, z0.2.1, z0.2.2.1, z0.2.2.2.1, z0.2.2.2.2.1, z0.2.2.2.2.2.1, z0.2.2.2.2.2.2.1, z0.2.2.2.2.2.2.2.1, z0.2.2.2.2.2.2.2.2.1, z0.2.2.2.2.2.2.2.2.2.1, z0.2.2.2.2.2.2.2.2.2.2) hm1 rfl rfl (fun z1 hn1 => ?_) fun n1 a1 z1 w1b hi1 hx1 h hb1 hr1 => ?_
   ·clear hm1
    exact we (bs := [(decide ((cnt 0 (([] : List Int).length)) < (ln ([] : List Int))), false)]) (φ := fun s' => w1 = .next s') (st' := (sa222s2_1)) (R' := (Ra222s2_1)) lv222s2 26 [false] [] [] 7 [0, 1, 2, 3, 4, 5, 6, 8, 9, 10, 11, 12] (z1.1, z1.2.1, z1.2.2.1, z1.2.2.2.1, z1.2.2.2.2.1, z1.2.2.2.2.2.1, z1.2.2.2.2.2.2.1, z1.2.2.2.2.2.2.2.1, z1.2.2.2.2.2.2.2.2.1, z1.2.2.2.2.2.2.2.2.2.1, z1.2.2.2.2.2.2.2.2.2.2) hC trivial ⟨(cnt_end hl1), trivial⟩ hn1
   ·unfold F222s2_l1 at h
    obtain ⟨y6, h7, h⟩ := bindE h
    exact we (bs := [(decide ((cnt 0 n1) < (ln ([] : List Int))), true)]) (φ := fun s' => w1b = .next s') (st' := (st222s2_1 (n1 + 1))) (R' := (R222s2_1 (n1 + 1))) lv222s2 33 [true] [.row (([] : List Int).map pI) (cnt 0 n1) (pI a1), .row (([] : List Int).map pI) (((Int.toNat (cnt 0 n1)) : Nat) : Int) (pI a1), .call 255 [dO 0 0, dI a1] [.box 244 [I z1.1, DS q66 z1.2.1, DS q57 z1.2.2.1, DS q108 z1.2.2.2.1, I z1.2.2.2.2.1, I z1.2.2.2.2.2.1, .os 1, .os 2, .os 3, .os 4, .os 5], .sl 4 1 (z1.2.2.2.2.2.2.1.map pB), .sl 59 4 (z1.2.2.2.2.2.2.2.1.map q59), .sl 3 1 (z1.2.2.2.2.2.2.2.2.1.map pI), .sl 119 2 (z1.2.2.2.2.2.2.2.2.2.1.map q119), .sl 42 3 (z1.2.2.2.2.2.2.2.2.2.2.map q42)] (.tup []) (.box 244 (zb y6.board [.os 1, .os 2, .os 3, .os 4, .os 6]) :: zp y6.power [.non, .sl 42 3 (y6.acts.map q42)]) [0, 8, 9, 10, 11, 12]] [] 7 [0, 1, 2, 3, 4, 5, 6, 7, 8, 9, 10, 11, 13] (zt y6.board (zu y6.power y6.acts)) hC ⟨row_get (get_cnt hx1 hl1), row_getN (get_cnt hx1 hl1), ⟨e255s1, (k255s1 (⟨(⟨z1.1, z1.2.1, z1.2.2.1, z1.2.2.2.1, z1.2.2.2.2.1, z1.2.2.2.2.2.1⟩ : api_Board), (⟨z1.2.2.2.2.2.2.1, z1.2.2.2.2.2.2.2.1, z1.2.2.2.2.2.2.2.2.1, z1.2.2.2.2.2.2.2.2.2.1⟩ : api_Power), z1.2.2.2.2.2.2.2.2.2.2⟩ : shed_relief) a1 _ h7)⟩, trivial⟩ ⟨(cnt_lt hi1 hl1), trivial⟩ (sI h).symm
  ·have h := hnext1 _ hs1
   replace h := sI h
   subst h
   exact wf (bs := []) lv222s2 20 [] [] [] [] 7 n12_ hC trivial trivial
theorem e222s2 : Enters Tryz.prog 222 := en Tryz.func222
def lv85s1 : List Nat := [0, 2, 3, 4, 6, 11, 12, 13, 14, 46, 52, 53, 54, 55]
def st85s1_0 (x0 : restore_planner) (n0 : Nat) (z0 : Unit) : St := [(0, dO 0 0), (2, dS 7), (11, .d (DS q66 x0.board.Breakers)), (12, dI (ln x0.board.Breakers)), (13, dI (cnt 0 n0))]
def R85s1_0 (x0 : restore_planner) (n0 : Nat) (z0 : Unit) : List Res := (.box 144 (zb x0.board [.os 8, .os 9, .os 10, .os 11, .os 12, .os 13]) :: .non :: .non :: .non :: .non :: .non :: .non :: .sl 3 1 (([] : List Int).map pI) :: zp x0.power [.sl 4 1 (x0.goal.map pB), .sl 42 3 (x0.acts.map q42)])
def sa85s1_0  (z0 : Unit) : St := [(0, dO 0 0), (2, dS 7)]
def Ra85s1_0 (x0 : restore_planner) (z0 : Unit) : List Res := (.box 144 (zb x0.board [.os 8, .os 9, .os 10, .os 11, .os 12, .os 13]) :: .non :: .non :: .non :: .non :: .non :: .non :: .sl 3 1 (([] : List Int).map pI) :: zp x0.power [.sl 4 1 (x0.goal.map pB), .sl 42 3 (x0.acts.map q42)])
def st85s1_1  (n1 : Nat) (z1 : Sg5) : St := [(0, dO 0 0), (52, dS 7), (53, dI (ln ([] : List Int))), (54, dI (cnt 0 n1))]
def R85s1_1  (n1 : Nat) (z1 : Sg5) : List Res := [.box 144 [I z1.1, DS q66 z1.2.1, DS q57 z1.2.2.1, DS q108 z1.2.2.2.1, I z1.2.2.2.2.1, I z1.2.2.2.2.2.1, .os 8, .os 9, .os 10, .os 11, .os 12, .os 13], .non, .non, .non, .non, .non, .non, .sl 3 1 (([] : List Int).map pI), .sl 4 1 (z1.2.2.2.2.2.2.1.map pB), .sl 59 4 (z1.2.2.2.2.2.2.2.1.map q59), .sl 3 1 (z1.2.2.2.2.2.2.2.2.1.map pI), .sl 119 2 (z1.2.2.2.2.2.2.2.2.2.1.map q119), .sl 4 1 (z1.2.2.2.2.2.2.2.2.2.2.1.map pB), .sl 42 3 (z1.2.2.2.2.2.2.2.2.2.2.2.map q42)]
def sa85s1_1  (z1 : Sg5) : St := []
def Ra85s1_1  (z1 : Sg5) : List Res := [.box 144 [I z1.1, DS q66 z1.2.1, DS q57 z1.2.2.1, DS q108 z1.2.2.2.1, I z1.2.2.2.2.1, I z1.2.2.2.2.2.1, .os 7, .os 8, .os 9, .os 10, .os 11, .os 12], .non, .non, .non, .non, .non, .non, .sl 4 1 (z1.2.2.2.2.2.2.1.map pB), .sl 59 4 (z1.2.2.2.2.2.2.2.1.map q59), .sl 3 1 (z1.2.2.2.2.2.2.2.2.1.map pI), .sl 119 2 (z1.2.2.2.2.2.2.2.2.2.1.map q119), .sl 4 1 (z1.2.2.2.2.2.2.2.2.2.2.1.map pB), .sl 42 3 (z1.2.2.2.2.2.2.2.2.2.2.2.map q42)]
theorem k85s1 (x0 : restore_planner) (r : restore_planner) (h : F85s1 x0 = some r) : CallOk Tryz.prog 85 [.d (.o 0 0)] (.box 144 (zb x0.board [.os 1, .os 2, .os 3, .os 4, .os 5, .os 6]) :: zp x0.power [.sl 4 1 (x0.goal.map pB), .sl 42 3 (x0.acts.map q42)]) (.tup []) (.box 144 (zb r.board [.os 7, .os 8, .os 9, .os 10, .os 11, .os 12]) :: .non :: .non :: .non :: .non :: .non :: .non :: zp r.power [.sl 4 1 (r.goal.map pB), .sl 42 3 (r.acts.map q42)]) := by
 unfold F85s1 at h
 refine callOk_of 62 Tryz.func85 rfl rfl rfl fun C hC => ?_
 refine ws (bs := []) lv85s1 26 [] [.len (ln (x0.board.Breakers.map q66)) (ln x0.board.Breakers)] [.own 2 3 1, .mv 1, .mv 2, .mv 3, .mv 4, .mv 5, .mv 6] 7 n14_ (st85s1_0 x0 0 ()) (R85s1_0 x0 0 ()) hC ⟨len_map _ _, trivial⟩ trivial ?_
 obtain ⟨w0, hm0, hret0, hnext0⟩ := andThen_inv h
 clear h
 refine WI_cut (by kernel_rfl) (fun s => w0 = .next s) (sa85s1_0) (Ra85s1_0 x0) ?_ fun z0 hs0 => ?_
 ·refine WI_blk (by kernel_rfl) ?_
  refine WI_len 11 rfl fun hl0 => ?_
  refine WI_foldI (by kernel_rfl) (F85s1_l0 x0) (st85s1_0 x0) (R85s1_0 x0) w0 x0.board.Breakers () hm0 rfl rfl (fun z0 hn0 => ?_) fun n0 a0 z0 w0b hi0 hx0 h hb0 hr0 => ?_
  ·clear hm0
   exact we (bs := [(decide ((cnt 0 x0.board.Breakers.length) < (ln x0.board.Breakers)), false)]) (φ := fun s' => w0 = .next s') (st' := (sa85s1_0)) (R' := (Ra85s1_0 x0)) lv85s1 26 [false] [] [] 7 n14_ () hC trivial ⟨(cnt_end hl0), trivial⟩ hn0
  ·unfold F85s1_l0 at h
   obtain ⟨y1, h2, h⟩ := bindE h
   obtain ⟨y3, h4, h⟩ := bindE h
   obtain ⟨y5, h6, h⟩ := bindE h
   refine ws (bs := [(decide ((cnt 0 n0) < (ln x0.board.Breakers)), true)]) lv85s1 32 [true] [.row (x0.board.Breakers.map q66) (cnt 0 n0) (q66 a0), .when [((a0.Kind != 2), true)] (.row (x0.power.Closed.map pB) (cnt 0 n0) (pB y1)), .when [((a0.Kind != 2), true)] (.row (x0.power.Closed.map pB) (((Int.toNat (cnt 0 n0)) : Nat) : Int) (pB y1)), .when [(((a0.Kind != 2) && y1), true)] (.callB 134 [.agg (d35 x0.power), dI 2, dI (cnt 0 n0)] (dB y3) [[]] 0 []), .when [((((a0.Kind != 2) && y1) && (!y3)), true)] (.callB 164 [.d (.ip [.v (.int .i64 x0.board.Buses), .s (x0.board.Breakers.map q66), .s (x0.board.Sources.map q57), .s (x0.board.Consumers.map q108), .v (.int .i64 x0.board.Phase), .v (.int .i64 x0.board.Frequency), .s (x0.power.Closed.map pB), .s (x0.power.Sources.map q59), .s (x0.power.Limits.map pI), .s (x0.power.Broken.map q119), .s (x0.goal.map pB), .s (x0.acts.map q42)]), dI a0.A] (dB y5) [[]] 0 [])] [] 7 n14_ [(0, dO 0 0), (2, dS 7), (3, dI (cnt 0 n0)), (11, .d (DS q66 x0.board.Breakers)), (12, dI (ln x0.board.Breakers)), (13, dI (cnt 0 n0)), (46, dB (c85s1_1 a0 y1 y3 y5))] (.box 144 (zb x0.board [.os 8, .os 9, .os 10, .os 11, .os 12, .os 13]) :: .non :: .non :: .non :: .non :: .non :: .non :: .sl 3 1 (([] : List Int).map pI) :: zp x0.power [.sl 4 1 (x0.goal.map pB), .sl 42 3 (x0.acts.map q42)]) hC ⟨(row_cnt hx0 hl0), fun hg => row_get (guardO_get h2 hg), fun hg => row_getN (guardO_get h2 hg), fun hg => lend0_get ⟨e134, (k134 x0.power 2 (cnt 0 n0) _ (guardO_get h4 hg))⟩, fun hg => lend0_get ⟨e164s0, (k164s0 x0 a0.A _ (guardO_get h6 hg))⟩, trivial⟩ ⟨(cnt_lt hi0 hl0), trivial⟩ ?_
   rcases boolC ((c85s1_1 a0 y1 y3 y5)) with h7 | h7
   ·replace h := condT h7 h
    cases h
   ·replace h := condF h7 h
    exact we (bs := [((c85s1_1 a0 y1 y3 y5), false)]) (φ := fun s' => w0b = .next s') (st' := (st85s1_0 x0 (n0 + 1))) (R' := (R85s1_0 x0 (n0 + 1))) lv85s1 25 [false] [] [] 7 n14_ () hC trivial ⟨h7, trivial⟩ (sI h).symm
 ·have h := hnext0 _ hs0
  refine ws (bs := []) lv85s1 23 [] [.len (ln (([] : List Int).map pI)) (ln ([] : List Int))] [] 7 n14_ (st85s1_1 0 (zt x0.board (zu x0.power (x0.goal, x0.acts)))) (R85s1_1 0 (zt x0.board (zu x0.power (x0.goal, x0.acts)))) hC ⟨len_map _ _, trivial⟩ trivial ?_
  obtain ⟨w1, hm1, hret1, hnext1⟩ := andThen_inv h
  clear h
  refine WI_cut (by kernel_rfl) (fun s => w1 = .next s) (sa85s1_1) (Ra85s1_1) ?_ fun z1 hs1 => ?_
  ·refine WI_blk (by kernel_rfl) ?_
   refine WI_lenO 52 7 rfl rfl fun hl1 => ?_
   refine WI_foldI (by kernel_rfl) F85s1_l1 (st85s1_1) (R85s1_1) w1 ([] : List Int) (zt x0.board (zu x0.power (x0.goal, x0.acts))) hm1 rfl rfl (fun z1 hn1 => ?_) fun n1 a1 z1 w1b hi1 hx1 h hb1 hr1 => ?_
   ·clear hm1
    exact we (bs := [(decide ((cnt 0 (([] : List Int).length)) < (ln ([] : List Int))), false)]) (φ := fun s' => w1 = .next s') (st' := (sa85s1_1)) (R' := (Ra85s1_1)) lv85s1 26 [false] [] [] 7 [0, 1, 2, 3, 4, 5, 6, 8, 9, 10, 11, 12, 13] (z1.1, z1.2.1, z1.2.2.1, z1.2.2.2.1, z1.2.2.2.2.1, z1.2.2.2.2.2.1, z1.2.2.2.2.2.2.1, z1.2.2.2.2.2.2.2.1, z1.2.2.2.2.2.2.2.2.1, z1.2.2.2.2.2.2.2.2.2.1, z1.2.2.2.2.2.2.2.2.2.2.1, z1.2.2.2.2.2.2.2.2.2.2.2) hC trivial ⟨(cnt_end hl1), trivial⟩ hn1
   ·unfold F85s1_l1 at h
    obtain ⟨y8, h9, h⟩ := bindE h
    exact we (bs := [(decide ((cnt 0 n1) < (ln ([] : List Int))), true)]) (φ := fun s' => w1b = .next s') (st' := (st85s1_1 (n1 + 1))) (R' := (R85s1_1 (n1 + 1))) lv85s1 33 [true] [.row (([] : List Int).map pI) (cnt 0 n1) (pI a1), .row (([] : List Int).map pI) (((Int.toNat (cnt 0 n1)) : Nat) : Int) (pI a1), .call 89 [dO 0 0, dI 2, dI a1] [.box 144 [I z1.1, DS q66 z1.2.1, DS q57 z1.2.2.1, DS q108 z1.2.2.2.1, I z1.2.2.2.2.1, I z1.2.2.2.2.2.1, .os 1, .os 2, .os 3, .os 4, .os 5, .os 6], .sl 4 1 (z1.2.2.2.2.2.2.1.map pB), .sl 59 4 (z1.2.2.2.2.2.2.2.1.map q59), .sl 3 1 (z1.2.2.2.2.2.2.2.2.1.map pI), .sl 119 2 (z1.2.2.2.2.2.2.2.2.2.1.map q119), .sl 4 1 (z1.2.2.2.2.2.2.2.2.2.2.1.map pB), .sl 42 3 (z1.2.2.2.2.2.2.2.2.2.2.2.map q42)] (.tup []) (.box 144 (zb y8.board [.os 1, .os 2, .os 3, .os 4, .os 5, .os 7]) :: zp y8.power [.sl 4 1 (y8.goal.map pB), .non, .sl 42 3 (y8.acts.map q42)]) [0, 8, 9, 10, 11, 12, 13]] [] 7 [0, 1, 2, 3, 4, 5, 6, 7, 8, 9, 10, 11, 12, 14] (zt y8.board (zu y8.power (y8.goal, y8.acts))) hC ⟨row_get (get_cnt hx1 hl1), row_getN (get_cnt hx1 hl1), ⟨e89s1, (k89s1 (⟨(⟨z1.1, z1.2.1, z1.2.2.1, z1.2.2.2.1, z1.2.2.2.2.1, z1.2.2.2.2.2.1⟩ : api_Board), (⟨z1.2.2.2.2.2.2.1, z1.2.2.2.2.2.2.2.1, z1.2.2.2.2.2.2.2.2.1, z1.2.2.2.2.2.2.2.2.2.1⟩ : api_Power), z1.2.2.2.2.2.2.2.2.2.2.1, z1.2.2.2.2.2.2.2.2.2.2.2⟩ : restore_planner) 2 a1 _ h9)⟩, trivial⟩ ⟨(cnt_lt hi1 hl1), trivial⟩ (sI h).symm
  ·have h := hnext1 _ hs1
   replace h := sI h
   subst h
   exact wf (bs := []) lv85s1 20 [] [] [] [] 7 n13_ hC trivial trivial
theorem e85s1 : Enters Tryz.prog 85 := en Tryz.func85
def lv86s1 : List Nat := [0, 2, 3, 4, 9, 10, 11, 12, 44, 46, 47, 71]
def st86s1_0 (x0 : restore_planner) (n0 : Nat) (z0 : Sg7) : St := [(0, dO 0 0), (2, dI z0.1), (9, dS 8), (10, dI (ln x0.power.Sources)), (11, dI (cnt 0 n0))]
def R86s1_0 (x0 : restore_planner) (n0 : Nat) (z0 : Sg7) : List Res := [.box 144 (zb x0.board [.os 7, .os 8, .os 9, .os 10, .os 11, .os 12]), .non, .non, .non, .non, .non, .non, .sl 4 1 (x0.power.Closed.map pB), .sl 59 4 (z0.2.1.map q59), .sl 3 1 (x0.power.Limits.map pI), .sl 119 2 (x0.power.Broken.map q119), .sl 4 1 (x0.goal.map pB), .sl 42 3 (z0.2.2.map q42)]
def sa86s1_0  (z0 : Sg7) : St := [(0, dO 0 0), (2, dI z0.1)]
def Ra86s1_0 (x0 : restore_planner) (z0 : Sg7) : List Res := [.box 144 (zb x0.board [.os 7, .os 8, .os 9, .os 10, .os 11, .os 12]), .non, .non, .non, .non, .non, .non, .sl 4 1 (x0.power.Closed.map pB), .sl 59 4 (z0.2.1.map q59), .sl 3 1 (x0.power.Limits.map pI), .sl 119 2 (x0.power.Broken.map q119), .sl 4 1 (x0.goal.map pB), .sl 42 3 (z0.2.2.map q42)]
theorem k86s1 (x0 : restore_planner) (r : restore_planner) (h : F86s1 x0 = some r) : CallOk Tryz.prog 86 [.d (.o 0 0)] (.box 144 (zb x0.board [.os 1, .os 2, .os 3, .os 4, .os 5, .os 6]) :: zp x0.power [.sl 4 1 (x0.goal.map pB), .sl 42 3 (x0.acts.map q42)]) (.tup []) (.box 144 (zb r.board [.os 7, .os 8, .os 9, .os 10, .os 11, .os 12]) :: .non :: .non :: .non :: .non :: .non :: .non :: zp r.power [.sl 4 1 (r.goal.map pB), .sl 42 3 (r.acts.map q42)]) := by
 unfold F86s1 at h
 refine callOk_of 105 Tryz.func86 rfl rfl rfl fun C hC => ?_
 refine ws (bs := []) lv86s1 26 [] [.len (ln (x0.power.Sources.map q59)) (ln x0.power.Sources)] [.mv 1, .mv 2, .mv 3, .mv 4, .mv 5, .mv 6] 7 n13_ (st86s1_0 x0 0 (0, x0.power.Sources, x0.acts)) (R86s1_0 x0 0 (0, x0.power.Sources, x0.acts)) hC ⟨len_map _ _, trivial⟩ trivial ?_
 obtain ⟨w0, hm0, hret0, hnext0⟩ := andThen_inv h
 clear h
 refine WI_cut (by kernel_rfl) (fun s => w0 = .next s) (sa86s1_0) (Ra86s1_0 x0) ?_ fun z0 hs0 => ?_
 ·refine WI_blk (by kernel_rfl) ?_
  refine WI_lenO 9 8 rfl rfl fun hl0 => ?_
  refine WI_foldI (by kernel_rfl) (F86s1_l0 x0) (st86s1_0 x0) (R86s1_0 x0) w0 x0.power.Sources (0, x0.power.Sources, x0.acts) hm0 rfl rfl (fun z0 hn0 => ?_) fun n0 a0 z0 w0b hi0 hx0 h hb0 hr0 => ?_
  ·clear hm0
   exact we (bs := [(decide ((cnt 0 x0.power.Sources.length) < (ln x0.power.Sources)), false)]) (φ := fun s' => w0 = .next s') (st' := (sa86s1_0)) (R' := (Ra86s1_0 x0)) lv86s1 26 [false] [] [] 7 n13_ (z0.1, z0.2.1, z0.2.2) hC trivial ⟨(cnt_end hl0), trivial⟩ hn0
  ·unfold F86s1_l0 at h
   obtain ⟨y1, h2, h⟩ := bindE h
   obtain ⟨y3, h4, h⟩ := bindE h
   obtain ⟨y5, h6, h⟩ := bindE h
   obtain ⟨y7, h8, h⟩ := bindE h
   obtain ⟨y9, h10, h⟩ := bindE h
   refine ws (bs := [(decide ((cnt 0 n0) < (ln x0.power.Sources)), true)]) lv86s1 33 [true] [.row (z0.2.1.map q59) (cnt 0 n0) (q59 y1), .row (z0.2.1.map q59) (((Int.toNat (cnt 0 n0)) : Nat) : Int) (q59 y1), .callB 66 [.agg (d29 x0.board), .agg [DS pB x0.power.Closed, DS q59 z0.2.1, DS pI x0.power.Limits, DS q119 x0.power.Broken], dI (cnt 0 n0)] (dB y3) [[]] 0 [], .when [(!y3, false)] (.call 67 [.agg (d29 x0.board), dI (cnt 0 n0)] [] (dI y5) [] []), .when [(!y3, false)] (.row (x0.board.Breakers.map q66) y5 (q66 y7)), .when [(!y3, false)] (.callB 164 [.d (.ip [.v (.int .i64 x0.board.Buses), .s (x0.board.Breakers.map q66), .s (x0.board.Sources.map q57), .s (x0.board.Consumers.map q108), .v (.int .i64 x0.board.Phase), .v (.int .i64 x0.board.Frequency), .s (x0.power.Closed.map pB), .s (z0.2.1.map q59), .s (x0.power.Limits.map pI), .s (x0.power.Broken.map q119), .s (x0.goal.map pB), .s (z0.2.2.map q42)]), dI y7.A] (dB y9) [[]] 0 [])] [] 7 n14_ [(0, dO 0 0), (2, dI z0.1), (3, dI (cnt 0 n0)), (4, dO 13 0), (9, dS 8), (10, dI (ln x0.power.Sources)), (11, dI (cnt 0 n0)), (44, dB ((!y3) || y9))] [.box 144 (zb x0.board [.os 7, .os 8, .os 9, .os 10, .os 11, .os 12]), .non, .non, .non, .non, .non, .non, .sl 4 1 (x0.power.Closed.map pB), .sl 59 4 (z0.2.1.map q59), .sl 3 1 (x0.power.Limits.map pI), .sl 119 2 (x0.power.Broken.map q119), .sl 4 1 (x0.goal.map pB), .sl 42 3 (z0.2.2.map q42), .box 59 (d59 y1)] hC ⟨row_get h2, row_getN h2, lend0_get ⟨e66, (k66 x0.board (⟨x0.power.Closed, z0.2.1, x0.power.Limits, x0.power.Broken⟩ : api_Power) (cnt 0 n0) _ h4)⟩, fun hg => ⟨e67, (k67 x0.board (cnt 0 n0) _ (guardO_get h6 hg))⟩, fun hg => row_get (guardO_get h8 hg), fun hg => lend0_get ⟨e164s0, (k164s0 (⟨x0.board, (⟨x0.power.Closed, z0.2.1, x0.power.Limits, x0.power.Broken⟩ : api_Power), x0.goal, z0.2.2⟩ : restore_planner) y7.A _ (guardO_get h10 hg))⟩, trivial⟩ ⟨(cnt_lt hi0 hl0), trivial⟩ ?_
   rcases boolC (((!y3) || y9)) with h11 | h11
   ·replace h := condT h11 h
    cases h
   ·replace h := condF h11 h
    rcases boolC ((y1.State == 0)) with h12 | h12
    ·replace h := condT h12 h
     obtain ⟨y13, h14, h⟩ := bindE h
     obtain ⟨y15, h16, h⟩ := bindE h
     obtain ⟨y17, h18, h⟩ := bindE h
     exact we (bs := [(((!y3) || y9), false), ((y1.State == 0), true)]) (φ := fun s' => w0b = .next s') (st' := (st86s1_0 x0 (n0 + 1))) (R' := (R86s1_0 x0 (n0 + 1))) lv86s1 37 [false, true] [.app (z0.2.2.map q42) ([(⟨3, cnt 0 n0, 0⟩ : api_Act)].map q42) 3 (((z0.2.2.map q42).length + ([(⟨3, cnt 0 n0, 0⟩ : api_Act)].map q42).length) * (24 + 1)) (y13.map q42), .row (x0.board.Sources.map q57) (cnt 0 n0) (q57 y15), .row (z0.2.1.map q59) (cnt 0 n0) (q59 y1), .upd (z0.2.1.map q59) (Int.toNat (cnt 0 n0)) (q59 y1) (q59 (⟨2, y1.Since, y1.Frequency, y1.Phase⟩ : api_Running)) (y17.map q59)] [] 7 [0, 1, 2, 3, 4, 5, 6, 7, 8, 9, 10, 11, 14] (max z0.1 y15.Start, y17, y13) hC ⟨app_get q42 3 (fun _ => rfl) h14, row_get h16, row_get h2, upd_get h2 h18, trivial⟩ ⟨h11, h12, trivial⟩ (sI h).symm
    ·replace h := condF h12 h
     cases h
 ·have h := hnext0 _ hs0
  obtain ⟨y19, h20, h⟩ := bindE h
  obtain ⟨y21, h22, h⟩ := bindE h
  replace h := sI h
  subst h
  exact wf (bs := []) lv86s1 21 [] [.call 165 [.d (DS q42 [(⟨7, 0, 0⟩ : api_Act)]), dI z0.1] [] (dS 0) [.sl 42 3 (y19.map q42)] [], .app (z0.2.2.map q42) (y19.map q42) 3 (((z0.2.2.map q42).length + (y19.map q42).length) * (24 + 1)) (y21.map q42)] [] [] 7 [0, 1, 2, 3, 4, 5, 6, 7, 8, 9, 10, 11, 14] hC ⟨⟨e165, (k165 [(⟨7, 0, 0⟩ : api_Act)] z0.1 _ h20)⟩, app_get q42 3 (fun _ => rfl) h22, trivial⟩ trivial
theorem e86s1 : Enters Tryz.prog 86 := en Tryz.func86
end Go.Proofs.YtkngbnedbgndoaaGreat
