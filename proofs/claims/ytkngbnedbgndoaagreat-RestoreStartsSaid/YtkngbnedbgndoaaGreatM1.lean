import Derived.Test.YtkngbnedbgndoaaGreatM0
set_option linter.unusedVariables false
namespace Go.Proofs.YtkngbnedbgndoaaGreat
open Go.SL
def lv92 : List Nat := [0, 1, 2, 3, 5, 6, 7, 29, 43, 44, 45, 46, 56, 57, 58, 59, 71]
def st92_0 (x0 : api_Board) (i92_0 : Nat) (s92_0 : Bool) : St := [(1, .d (.o 0 0)), (2, .d (I 0)), (3, .d (Bo s92_0)), (43, .d (DS api_Source.ps x0.Sources)), (44, .d (I (x0.Sources.length : Int))), (45, .d (I (cnt 0 i92_0)))]
def R92_0 (x0 : api_Board) (i92_0 : Nat) (s92_0 : Bool) : List Res := [.box 29 [I x0.Buses, DS api_Breaker.ps x0.Breakers, DS api_Source.ps x0.Sources, DS api_Consumer.ps x0.Consumers, I x0.Phase, I x0.Frequency]]
def sa92_0  (s92_0 : Bool) : St := [(1, .d (.o 0 0)), (2, .d (I 0)), (3, .d (Bo s92_0))]
def Ra92_0 (x0 : api_Board) (s92_0 : Bool) : List Res := [.box 29 [I x0.Buses, DS api_Breaker.ps x0.Breakers, DS api_Source.ps x0.Sources, DS api_Consumer.ps x0.Consumers, I x0.Phase, I x0.Frequency]]
def st92_1 (x0 : api_Board) (i92_1 : Nat) (s92_1 : Bool) : St := [(2, .d (I 0)), (3, .d (Bo s92_1)), (56, .d (DS api_Consumer.ps x0.Consumers)), (57, .d (I (x0.Consumers.length : Int))), (58, .d (I (cnt 0 i92_1)))]
def R92_1  (i92_1 : Nat) (s92_1 : Bool) : List Res := []
def sa92_1  (s92_1 : Bool) : St := [(2, .d (I 0)), (3, .d (Bo s92_1))]
def Ra92_1  (s92_1 : Bool) : List Res := []
theorem k92 (x0 : api_Board) (r : Int) (h : F92 x0 = some r) : CallOk Tryz.prog 92 [.agg [I x0.Buses, DS api_Breaker.ps x0.Breakers, DS api_Source.ps x0.Sources, DS api_Consumer.ps x0.Consumers, I x0.Phase, I x0.Frequency]] [] (.d (I r)) [] := by
  unfold F92 at h
  refine callOk_of 72 Tryz.func92 rfl rfl rfl fun C hC => ?_
  refine WI_stop (bs := []) mixed lv92 26 [] [.call 132 [.d (I x0.Buses), .d (I 1), .d (I 6)] [] (.d (Bo (F132 x0.Buses 1 6))) [] [], .when [(!(F132 x0.Buses 1 6), false)] (.len ((x0.Breakers.map api_Breaker.ps).length : Int) (x0.Breakers.length : Int)), .when [(((!(F132 x0.Buses 1 6)) || (decide ((x0.Breakers.length : Int) > 24))), false)] (.len ((x0.Sources.map api_Source.ps).length : Int) (x0.Sources.length : Int)), .when [((((!(F132 x0.Buses 1 6)) || (decide ((x0.Breakers.length : Int) > 24))) || (decide ((x0.Sources.length : Int) > 8))), false)] (.len ((x0.Consumers.map api_Consumer.ps).length : Int) (x0.Consumers.length : Int))] [] 0 [0] [(1, .d (.o 0 0)), (2, .d (I 0)), (29, .d (Bo (c92_0 x0)))] [.box 29 [I x0.Buses, DS api_Breaker.ps x0.Breakers, DS api_Source.ps x0.Sources, DS api_Consumer.ps x0.Consumers, I x0.Phase, I x0.Frequency]] hC ⟨⟨e132, (k132 x0.Buses 1 6 _ rfl)⟩, fun hg => len_map _ _, fun hg => len_map _ _, fun hg => len_map _ _, trivial⟩ trivial (by kernel_rfl) ?_
  rcases boolC ((c92_0 x0)) with h1 | h1
  · replace h := condT h1 h
    replace h := Option.some.inj h
    subst h
    exact WI_ret (bs := [((c92_0 x0), true)]) mixed lv92 24 [true] [] [] [.tmp 2] 0 [] rfl hC trivial ⟨h1, trivial⟩ (by kernel_rfl)
  · replace h := condF h1 h
    obtain ⟨y2, h3, h⟩ := bindE h
    refine WI_stop (bs := [((c92_0 x0), false)]) mixed lv92 28 [false] [.call 172 [.agg [I x0.Buses, DS api_Breaker.ps x0.Breakers, DS api_Source.ps x0.Sources, DS api_Consumer.ps x0.Consumers, I x0.Phase, I x0.Frequency]] [] (.d (Bo y2)) [] [], .when [(y2, true)] (.call 132 [.d (I x0.Phase), .d (I 0), .d (I 1800)] [] (.d (Bo (F132 x0.Phase 0 1800))) [] []), .when [((y2 && (F132 x0.Phase 0 1800)), true)] (.call 132 [.d (I x0.Frequency), .d (I 0), .d (I 6000)] [] (.d (Bo (F132 x0.Frequency 0 6000))) [] []), .len ((x0.Sources.map api_Source.ps).length : Int) (x0.Sources.length : Int)] [] 0 [0] (st92_0 x0 0 ((y2 && (F132 x0.Phase 0 1800)) && (F132 x0.Frequency 0 6000))) (R92_0 x0 0 ((y2 && (F132 x0.Phase 0 1800)) && (F132 x0.Frequency 0 6000))) hC ⟨⟨e172, (k172 x0 _ h3)⟩, fun hg => ⟨e132, (k132 x0.Phase 0 1800 _ rfl)⟩, fun hg => ⟨e132, (k132 x0.Frequency 0 6000 _ rfl)⟩, len_map _ _, trivial⟩ ⟨h1, trivial⟩ (by kernel_rfl) ?_
    obtain ⟨k92_0, hm92_0, hret92_0, hnext92_0⟩ := andThen_inv h
    clear h
    refine WI_cut (by kernel_rfl) (fun s => k92_0 = .next s) (sa92_0) (Ra92_0 x0) ?_ fun s92_0 hs92_0 => ?_
    · refine WI_blk (by kernel_rfl) ?_
      refine WI_len 43 rfl fun hl92_0 => ?_
      refine WI_foldI (by kernel_rfl) F92_l0 (st92_0 x0) (R92_0 x0) k92_0 x0.Sources ((y2 && (F132 x0.Phase 0 1800)) && (F132 x0.Frequency 0 6000)) hm92_0 rfl rfl (fun s92_0 hn92_0 => ?_) fun i92_0 x92_0 s92_0 k92_0b hi92_0 hx92_0 h hb92_0 hr92_0 => ?_
      · clear hm92_0
        exact WI_end (bs := [(decide ((cnt 0 x0.Sources.length) < (x0.Sources.length : Int)), false)]) (φ := fun s' => k92_0 = .next s') (st' := (sa92_0)) (R' := (Ra92_0 x0)) mixed lv92 26 [false] [] [] 0 [0] s92_0 hC trivial ⟨(cnt_end hl92_0), trivial⟩ (by kernel_rfl) (by kernel_rfl) hn92_0
      · unfold F92_l0 at h
        exact WI_end (bs := [(decide ((cnt 0 i92_0) < (x0.Sources.length : Int)), true)]) (φ := fun s' => k92_0b = .next s') (st' := (st92_0 x0 (i92_0 + 1))) (R' := (R92_0 x0 (i92_0 + 1))) mixed lv92 33 [true] [.row (x0.Sources.map api_Source.ps) (cnt 0 i92_0) (api_Source.ps x92_0), .when [(s92_0, true)] (.call 173 [.agg [I x92_0.Rating, I x92_0.Least, I x92_0.Start]] [] (.d (Bo (F173 x92_0))) [] [])] [] 0 [0] (s92_0 && (F173 x92_0)) hC ⟨(row_cnt hx92_0 hl92_0), fun hg => ⟨e173, (k173 x92_0 _ rfl)⟩, trivial⟩ ⟨(cnt_lt hi92_0 hl92_0), trivial⟩ (by kernel_rfl) (by kernel_rfl) (Option.some.inj h).symm
    · have h := hnext92_0 _ hs92_0
      refine WI_stop (bs := []) mixed lv92 24 [] [.len ((x0.Consumers.map api_Consumer.ps).length : Int) (x0.Consumers.length : Int)] [] 0 [] (st92_1 x0 0 s92_0) (R92_1 0 s92_0) hC ⟨len_map _ _, trivial⟩ trivial (by kernel_rfl) ?_
      obtain ⟨k92_1, hm92_1, hret92_1, hnext92_1⟩ := andThen_inv h
      clear h
      refine WI_cut (by kernel_rfl) (fun s => k92_1 = .next s) (sa92_1) (Ra92_1) ?_ fun s92_1 hs92_1 => ?_
      · refine WI_blk (by kernel_rfl) ?_
        refine WI_len 56 rfl fun hl92_1 => ?_
        refine WI_foldI (by kernel_rfl) F92_l1 (st92_1 x0) (R92_1) k92_1 x0.Consumers s92_0 hm92_1 rfl rfl (fun s92_1 hn92_1 => ?_) fun i92_1 x92_1 s92_1 k92_1b hi92_1 hx92_1 h hb92_1 hr92_1 => ?_
        · clear hm92_1
          exact WI_end (bs := [(decide ((cnt 0 x0.Consumers.length) < (x0.Consumers.length : Int)), false)]) (φ := fun s' => k92_1 = .next s') (st' := (sa92_1)) (R' := (Ra92_1)) mixed lv92 26 [false] [] [] 0 [] s92_1 hC trivial ⟨(cnt_end hl92_1), trivial⟩ (by kernel_rfl) (by kernel_rfl) hn92_1
        · unfold F92_l1 at h
          obtain ⟨y4, h5, h⟩ := bindE h
          exact WI_end (bs := [(decide ((cnt 0 i92_1) < (x0.Consumers.length : Int)), true)]) (φ := fun s' => k92_1b = .next s') (st' := (st92_1 x0 (i92_1 + 1))) (R' := (R92_1 (i92_1 + 1))) mixed lv92 33 [true] [.row (x0.Consumers.map api_Consumer.ps) (cnt 0 i92_1) (api_Consumer.ps x92_1), .when [(s92_1, true)] (.call 174 [.agg [I x92_1.Load, I x92_1.Least, I x92_1.Preference, I x92_1.Thruster, DS pI x92_1.Needs], .d (I (cnt 0 i92_1))] [] (.d (Bo y4)) [] [])] [] 0 [] (s92_1 && y4) hC ⟨(row_cnt hx92_1 hl92_1), fun hg => ⟨e174, (k174 x92_1 (cnt 0 i92_1) _ (guardO_get h5 hg))⟩, trivial⟩ ⟨(cnt_lt hi92_1 hl92_1), trivial⟩ (by kernel_rfl) (by kernel_rfl) (Option.some.inj h).symm
      · have h := hnext92_1 _ hs92_1
        rcases boolC (!s92_1) with h6 | h6
        · replace h := condT h6 h
          replace h := Option.some.inj h
          subst h
          exact WI_ret (bs := [(!s92_1, true)]) mixed lv92 27 [true] [] [] [.tmp 2] 0 [] rfl hC trivial ⟨h6, trivial⟩ (by kernel_rfl)
        · replace h := condF h6 h
          replace h := Option.some.inj h
          subst h
          exact WI_ret (bs := [(!s92_1, false)]) mixed lv92 28 [false] [] [] [.tmp 2] 0 [] rfl hC trivial ⟨h6, trivial⟩ (by kernel_rfl)
theorem e92 : Enters Tryz.prog 92 := Go.SL.enters_of Tryz.func92 (by kernel_rfl) (by kernel_rfl)
theorem k129s0 (x0 : List api_Running) (r : Bool) (h : F129s0 x0 = some r) : CallOk Tryz.prog 129 [.d (DS api_Running.ps x0), .d (.fn (.func 130) [] [])] [] (.d (Bo r)) [] := by
  unfold F129s0 at h
  refine callOk_of 9 Tryz.func129 rfl rfl rfl fun C hC => ?_
  obtain ⟨y1, h2, h⟩ := bindE h
  replace h := Option.some.inj h
  subst h
  exact WI_ret (bs := []) mixed [0, 1, 4] 25 [] [.call 211 [.d (DS api_Running.ps x0), .d (.fn (.func 130) [] [])] [] (.d (I y1)) [] []] [] [.tmp 4] 0 [] rfl hC ⟨⟨e211s0, (k211s0 x0 _ h2)⟩, trivial⟩ trivial (by kernel_rfl)
theorem e129s0 : Enters Tryz.prog 129 := Go.SL.enters_of Tryz.func129 (by kernel_rfl) (by kernel_rfl)
theorem k145s1 (x0 : restore_worker) (x1 : Int) (r : Int × restore_worker) (h : F145s1 x0 x1 = some r) : CallOk Tryz.prog 145 [.d (.o 0 0), .d (I x1)] [.box 130 [I x0.board.Buses, DS api_Breaker.ps x0.board.Breakers, DS api_Source.ps x0.board.Sources, DS api_Consumer.ps x0.board.Consumers, I x0.board.Phase, I x0.board.Frequency, .os 1, .os 2, .os 3, .os 4, I x0.time], .sl 4 1 (x0.power.Closed.map pB), .sl 59 4 (x0.power.Sources.map api_Running.ps), .sl 3 1 (x0.power.Limits.map pI), .sl 119 2 (x0.power.Broken.map api_Part.ps)] (.d (I r.1)) [.box 130 [I r.2.board.Buses, DS api_Breaker.ps r.2.board.Breakers, DS api_Source.ps r.2.board.Sources, DS api_Consumer.ps r.2.board.Consumers, I r.2.board.Phase, I r.2.board.Frequency, .os 1, .os 2, .os 3, .os 4, I r.2.time], .sl 4 1 (r.2.power.Closed.map pB), .sl 59 4 (r.2.power.Sources.map api_Running.ps), .sl 3 1 (r.2.power.Limits.map pI), .sl 119 2 (r.2.power.Broken.map api_Part.ps)] := by
  unfold F145s1 at h
  refine callOk_of 53 Tryz.func145 rfl rfl rfl fun C hC => ?_
  obtain ⟨y1, h2, h⟩ := bindE h
  obtain ⟨y3, h4, h⟩ := bindE h
  refine WI_stop (bs := []) mixed [0, 1, 4, 5, 23, 43] 26 [] [.row (x0.power.Sources.map api_Running.ps) x1 (api_Running.ps y1), .row (x0.power.Sources.map api_Running.ps) (((Int.toNat x1) : Nat) : Int) (api_Running.ps y1), .when [((y1.State != 0), false)] (.callB 134 [.agg [DS pB x0.power.Closed, DS api_Running.ps x0.power.Sources, DS pI x0.power.Limits, DS api_Part.ps x0.power.Broken], .d (I 1), .d (I x1)] (.d (Bo y3)) [[]] 0 [])] [] 5 [0, 1, 2, 3, 4] [(0, .d (.o 0 0)), (1, .d (I x1)), (4, .d (I 0)), (23, .d (Bo ((y1.State != 0) || y3)))] [.box 130 [I x0.board.Buses, DS api_Breaker.ps x0.board.Breakers, DS api_Source.ps x0.board.Sources, DS api_Consumer.ps x0.board.Consumers, I x0.board.Phase, I x0.board.Frequency, .os 1, .os 2, .os 3, .os 4, I x0.time], .sl 4 1 (x0.power.Closed.map pB), .sl 59 4 (x0.power.Sources.map api_Running.ps), .sl 3 1 (x0.power.Limits.map pI), .sl 119 2 (x0.power.Broken.map api_Part.ps)] hC ⟨row_get h2, row_getN h2, fun hg => lend0_get ⟨e134, (k134 x0.power 1 x1 _ (guardO_get h4 hg))⟩, trivial⟩ trivial (by kernel_rfl) ?_
  rcases boolC (((y1.State != 0) || y3)) with h5 | h5
  · replace h := condT h5 h
    replace h := Option.some.inj h
    subst h
    exact WI_ret (bs := [(((y1.State != 0) || y3), true)]) mixed [0, 1, 4, 5, 23, 43] 24 [true] [] [] [.tmp 4] 5 [0, 1, 2, 3, 4] rfl hC trivial ⟨h5, trivial⟩ (by kernel_rfl)
  · replace h := condF h5 h
    obtain ⟨y6, h7, h⟩ := bindE h
    obtain ⟨y8, h9, h⟩ := bindE h
    refine WI_stop (bs := [(((y1.State != 0) || y3), false)]) mixed [0, 1, 4, 5, 23, 43] 28 [false] [.row (x0.board.Sources.map api_Source.ps) x1 (api_Source.ps y6), .when [((y6.Start == 0), true)] (.callB 216 [.d (.ip [.v (.int .i64 x0.board.Buses), .s (x0.board.Breakers.map api_Breaker.ps), .s (x0.board.Sources.map api_Source.ps), .s (x0.board.Consumers.map api_Consumer.ps), .v (.int .i64 x0.board.Phase), .v (.int .i64 x0.board.Frequency), .s (x0.power.Closed.map pB), .s (x0.power.Sources.map api_Running.ps), .s (x0.power.Limits.map pI), .s (x0.power.Broken.map api_Part.ps), .v (.int .i64 x0.time)]), .d (I x1)] (.d (Bo y8)) [[]] 0 [])] [] 5 [0, 1, 2, 3, 4, 5] [(0, .d (.o 0 0)), (1, .d (I x1)), (4, .d (I 0)), (5, .d (.o 5 0)), (43, .d (Bo ((y6.Start == 0) && y8)))] [.box 130 [I x0.board.Buses, DS api_Breaker.ps x0.board.Breakers, DS api_Source.ps x0.board.Sources, DS api_Consumer.ps x0.board.Consumers, I x0.board.Phase, I x0.board.Frequency, .os 1, .os 2, .os 3, .os 4, I x0.time], .sl 4 1 (x0.power.Closed.map pB), .sl 59 4 (x0.power.Sources.map api_Running.ps), .sl 3 1 (x0.power.Limits.map pI), .sl 119 2 (x0.power.Broken.map api_Part.ps), .box 59 [I 1, I x0.time, I 5000, I 0]] hC ⟨row_get h7, fun hg => lend0_get ⟨e216s0, (k216s0 x0 x1 _ (guardO_get h9 hg))⟩, trivial⟩ ⟨h5, trivial⟩ (by kernel_rfl) ?_
    rcases boolC (((y6.Start == 0) && y8)) with h10 | h10
    · replace h := condT h10 h
      obtain ⟨y11, h12, h⟩ := bindE h
      replace h := Option.some.inj h
      subst h
      exact WI_ret (bs := [(((y6.Start == 0) && y8), true)]) mixed [0, 1, 4, 5, 23, 43] 27 [true] [.row (x0.power.Sources.map api_Running.ps) x1 (api_Running.ps y1), .upd (x0.power.Sources.map api_Running.ps) (Int.toNat x1) (api_Running.ps y1) (api_Running.ps (⟨2, x0.time, 5000, 0⟩ : api_Running)) (y11.map api_Running.ps)] [] [.tmp 4] 5 [0, 1, 2, 3, 4] rfl hC ⟨row_get h2, upd_get h2 h12, trivial⟩ ⟨h10, trivial⟩ (by kernel_rfl)
    · replace h := condF h10 h
      obtain ⟨y13, h14, h⟩ := bindE h
      replace h := Option.some.inj h
      subst h
      exact WI_ret (bs := [(((y6.Start == 0) && y8), false)]) mixed [0, 1, 4, 5, 23, 43] 27 [false] [.row (x0.power.Sources.map api_Running.ps) x1 (api_Running.ps y1), .upd (x0.power.Sources.map api_Running.ps) (Int.toNat x1) (api_Running.ps y1) (api_Running.ps (⟨1, x0.time, 5000, 0⟩ : api_Running)) (y13.map api_Running.ps)] [] [.tmp 4] 5 [0, 1, 2, 3, 4] rfl hC ⟨row_get h2, upd_get h2 h14, trivial⟩ ⟨h10, trivial⟩ (by kernel_rfl)
theorem e145s1 : Enters Tryz.prog 145 := Go.SL.enters_of Tryz.func145 (by kernel_rfl) (by kernel_rfl)
theorem k146s1 (x0 : restore_worker) (x1 : Int) (r : Int × restore_worker) (h : F146s1 x0 x1 = some r) : CallOk Tryz.prog 146 [.d (.o 0 0), .d (I x1)] [.box 130 [I x0.board.Buses, DS api_Breaker.ps x0.board.Breakers, DS api_Source.ps x0.board.Sources, DS api_Consumer.ps x0.board.Consumers, I x0.board.Phase, I x0.board.Frequency, .os 1, .os 2, .os 3, .os 4, I x0.time], .sl 4 1 (x0.power.Closed.map pB), .sl 59 4 (x0.power.Sources.map api_Running.ps), .sl 3 1 (x0.power.Limits.map pI), .sl 119 2 (x0.power.Broken.map api_Part.ps)] (.d (I r.1)) [.box 130 [I r.2.board.Buses, DS api_Breaker.ps r.2.board.Breakers, DS api_Source.ps r.2.board.Sources, DS api_Consumer.ps r.2.board.Consumers, I r.2.board.Phase, I r.2.board.Frequency, .os 1, .os 2, .os 3, .os 4, I r.2.time], .sl 4 1 (r.2.power.Closed.map pB), .sl 59 4 (r.2.power.Sources.map api_Running.ps), .sl 3 1 (r.2.power.Limits.map pI), .sl 119 2 (r.2.power.Broken.map api_Part.ps)] := by
  unfold F146s1 at h
  refine callOk_of 34 Tryz.func146 rfl rfl rfl fun C hC => ?_
  obtain ⟨y1, h2, h⟩ := bindE h
  obtain ⟨y3, h4, h⟩ := bindE h
  refine WI_stop (bs := []) mixed [0, 1, 4, 5, 30] 28 [] [.row (x0.power.Sources.map api_Running.ps) x1 (api_Running.ps y1), .row (x0.power.Sources.map api_Running.ps) (((Int.toNat x1) : Nat) : Int) (api_Running.ps y1), .when [((y1.State != 1), true)] (.row (x0.power.Sources.map api_Running.ps) (((Int.toNat x1) : Nat) : Int) (api_Running.ps y1)), .when [(((y1.State != 1) && (y1.State != 2)), false)] (.callB 216 [.d (.ip [.v (.int .i64 x0.board.Buses), .s (x0.board.Breakers.map api_Breaker.ps), .s (x0.board.Sources.map api_Source.ps), .s (x0.board.Consumers.map api_Consumer.ps), .v (.int .i64 x0.board.Phase), .v (.int .i64 x0.board.Frequency), .s (x0.power.Closed.map pB), .s (x0.power.Sources.map api_Running.ps), .s (x0.power.Limits.map pI), .s (x0.power.Broken.map api_Part.ps), .v (.int .i64 x0.time)]), .d (I x1)] (.d (Bo y3)) [[]] 0 [])] [] 5 [0, 1, 2, 3, 4] [(4, .d (I 0)), (5, .d (.oe 2 (Int.toNat x1) 4 0)), (30, .d (Bo (c146s1_0 y1 y3)))] [.box 130 [I x0.board.Buses, DS api_Breaker.ps x0.board.Breakers, DS api_Source.ps x0.board.Sources, DS api_Consumer.ps x0.board.Consumers, I x0.board.Phase, I x0.board.Frequency, .os 1, .os 2, .os 3, .os 4, I x0.time], .sl 4 1 (x0.power.Closed.map pB), .sl 59 4 (x0.power.Sources.map api_Running.ps), .sl 3 1 (x0.power.Limits.map pI), .sl 119 2 (x0.power.Broken.map api_Part.ps)] hC ⟨row_get h2, row_getN h2, fun hg => row_getN h2, fun hg => lend0_get ⟨e216s0, (k216s0 x0 x1 _ (guardO_get h4 hg))⟩, trivial⟩ trivial (by kernel_rfl) ?_
  rcases boolC ((c146s1_0 y1 y3)) with h5 | h5
  · replace h := condT h5 h
    replace h := Option.some.inj h
    subst h
    exact WI_ret (bs := [((c146s1_0 y1 y3), true)]) mixed [0, 1, 4, 5, 30] 24 [true] [] [] [.tmp 4] 5 [0, 1, 2, 3, 4] rfl hC trivial ⟨h5, trivial⟩ (by kernel_rfl)
  · replace h := condF h5 h
    obtain ⟨y6, h7, h⟩ := bindE h
    replace h := Option.some.inj h
    subst h
    exact WI_ret (bs := [((c146s1_0 y1 y3), false)]) mixed [0, 1, 4, 5, 30] 27 [false] [.upd (x0.power.Sources.map api_Running.ps) (Int.toNat x1) (api_Running.ps y1) (api_Running.ps (⟨0, y1.Since, y1.Frequency, y1.Phase⟩ : api_Running)) (y6.map api_Running.ps)] [] [.tmp 4] 5 [0, 1, 2, 3, 4] rfl hC ⟨upd_get h2 h7, trivial⟩ ⟨h5, trivial⟩ (by kernel_rfl)
theorem e146s1 : Enters Tryz.prog 146 := Go.SL.enters_of Tryz.func146 (by kernel_rfl) (by kernel_rfl)
def lv223s1 : List Nat := [0, 1, 2, 3, 4, 5, 7, 12, 20]
theorem k223s1 (x0 : shed_relief) (x1 : api_Breaker) (r : Bool × shed_relief) (h : F223s1 x0 x1 = some r) : CallOk Tryz.prog 223 [.d (.o 0 0), .agg [I x1.Kind, I x1.A, I x1.B]] [.box 244 [I x0.board.Buses, DS api_Breaker.ps x0.board.Breakers, DS api_Source.ps x0.board.Sources, DS api_Consumer.ps x0.board.Consumers, I x0.board.Phase, I x0.board.Frequency, .os 1, .os 2, .os 3, .os 4, .os 5], .sl 4 1 (x0.power.Closed.map pB), .sl 59 4 (x0.power.Sources.map api_Running.ps), .sl 3 1 (x0.power.Limits.map pI), .sl 119 2 (x0.power.Broken.map api_Part.ps), .sl 42 3 (x0.acts.map api_Act.ps)] (.d (Bo r.1)) [.box 244 [I r.2.board.Buses, DS api_Breaker.ps r.2.board.Breakers, DS api_Source.ps r.2.board.Sources, DS api_Consumer.ps r.2.board.Consumers, I r.2.board.Phase, I r.2.board.Frequency, .os 1, .os 2, .os 3, .os 4, .os 5], .sl 4 1 (r.2.power.Closed.map pB), .sl 59 4 (r.2.power.Sources.map api_Running.ps), .sl 3 1 (r.2.power.Limits.map pI), .sl 119 2 (r.2.power.Broken.map api_Part.ps), .sl 42 3 (r.2.acts.map api_Act.ps)] := by
  unfold F223s1 at h
  refine callOk_of 45 Tryz.func223 rfl rfl rfl fun C hC => ?_
  obtain ⟨y1, h2, h⟩ := bindE h
  refine WI_stop (bs := []) mixed lv223s1 29 [] [.call 256 [.d (I 3), .d (I x1.A), .d (.o 0 0)] [.box 198 [.o 1 0], .box 244 [I x0.board.Buses, DS api_Breaker.ps x0.board.Breakers, DS api_Source.ps x0.board.Sources, DS api_Consumer.ps x0.board.Consumers, I x0.board.Phase, I x0.board.Frequency, .os 2, .os 3, .os 4, .os 5, .os 6], .sl 4 1 (x0.power.Closed.map pB), .sl 59 4 (x0.power.Sources.map api_Running.ps), .sl 3 1 (x0.power.Limits.map pI), .sl 119 2 (x0.power.Broken.map api_Part.ps), .sl 42 3 (x0.acts.map api_Act.ps)] (.d (Bo y1.1)) [.box 198 [.o 1 0], .box 244 [I y1.2.board.Buses, DS api_Breaker.ps y1.2.board.Breakers, DS api_Source.ps y1.2.board.Sources, DS api_Consumer.ps y1.2.board.Consumers, I y1.2.board.Phase, I y1.2.board.Frequency, .os 2, .os 3, .os 4, .os 5, .os 6], .sl 4 1 (y1.2.power.Closed.map pB), .sl 59 4 (y1.2.power.Sources.map api_Running.ps), .sl 3 1 (y1.2.power.Limits.map pI), .sl 119 2 (y1.2.power.Broken.map api_Part.ps), .sl 42 3 (y1.2.acts.map api_Act.ps)] [6, 0, 1, 2, 3, 4, 5]] [] 6 [0, 1, 2, 3, 4, 5, 6, 7] [(2, .d (.o 6 0)), (3, .d (.o 7 0)), (4, .d (Bo false)), (5, .d (.fn (.func 256) [] [.o 6 0])), (7, .d (Bo y1.1))] [.box 244 [I y1.2.board.Buses, DS api_Breaker.ps y1.2.board.Breakers, DS api_Source.ps y1.2.board.Sources, DS api_Consumer.ps y1.2.board.Consumers, I y1.2.board.Phase, I y1.2.board.Frequency, .os 1, .os 2, .os 3, .os 4, .os 5], .sl 4 1 (y1.2.power.Closed.map pB), .sl 59 4 (y1.2.power.Sources.map api_Running.ps), .sl 3 1 (y1.2.power.Limits.map pI), .sl 119 2 (y1.2.power.Broken.map api_Part.ps), .sl 42 3 (y1.2.acts.map api_Act.ps), .box 198 [.o 0 0], .box 66 [I x1.Kind, I x1.A, I x1.B]] hC ⟨⟨e256s0, (k256s0 3 x1.A x0 _ h2)⟩, trivial⟩ trivial (by kernel_rfl) ?_
  rcases boolC (y1.1) with h3 | h3
  · replace h := condT h3 h
    replace h := Option.some.inj h
    subst h
    exact WI_ret (bs := [(y1.1, true)]) mixed lv223s1 24 [true] [] [] [.tmp 4] 6 [0, 1, 2, 3, 4, 5] rfl hC trivial ⟨h3, trivial⟩ (by kernel_rfl)
  · replace h := condF h3 h
    rcases boolC ((x1.Kind == 1)) with h4 | h4
    · replace h := condT h4 h
      obtain ⟨y5, h6, h⟩ := bindE h
      replace h := Option.some.inj h
      subst h
      exact WI_ret (bs := [(y1.1, false), ((x1.Kind == 1), true)]) mixed lv223s1 27 [false, true] [.call 256 [.d (I 3), .d (I x1.B), .d (.o 0 0)] [.box 198 [.o 1 0], .box 244 [I y1.2.board.Buses, DS api_Breaker.ps y1.2.board.Breakers, DS api_Source.ps y1.2.board.Sources, DS api_Consumer.ps y1.2.board.Consumers, I y1.2.board.Phase, I y1.2.board.Frequency, .os 2, .os 3, .os 4, .os 5, .os 6], .sl 4 1 (y1.2.power.Closed.map pB), .sl 59 4 (y1.2.power.Sources.map api_Running.ps), .sl 3 1 (y1.2.power.Limits.map pI), .sl 119 2 (y1.2.power.Broken.map api_Part.ps), .sl 42 3 (y1.2.acts.map api_Act.ps)] (.d (Bo y5.1)) [.box 198 [.o 1 0], .box 244 [I y5.2.board.Buses, DS api_Breaker.ps y5.2.board.Breakers, DS api_Source.ps y5.2.board.Sources, DS api_Consumer.ps y5.2.board.Consumers, I y5.2.board.Phase, I y5.2.board.Frequency, .os 2, .os 3, .os 4, .os 5, .os 6], .sl 4 1 (y5.2.power.Closed.map pB), .sl 59 4 (y5.2.power.Sources.map api_Running.ps), .sl 3 1 (y5.2.power.Limits.map pI), .sl 119 2 (y5.2.power.Broken.map api_Part.ps), .sl 42 3 (y5.2.acts.map api_Act.ps)] [6, 0, 1, 2, 3, 4, 5]] [] [.tmp 4] 6 [0, 1, 2, 3, 4, 5] rfl hC ⟨⟨e256s0, (k256s0 3 x1.B y1.2 _ h6)⟩, trivial⟩ ⟨h3, h4, trivial⟩ (by kernel_rfl)
    · replace h := condF h4 h
      rcases boolC ((x1.Kind == 2)) with h7 | h7
      · replace h := condT h7 h
        obtain ⟨y8, h9, h⟩ := bindE h
        obtain ⟨y10, h11, h⟩ := bindE h
        replace h := Option.some.inj h
        subst h
        exact WI_ret (bs := [(y1.1, false), ((x1.Kind == 1), false), ((x1.Kind == 2), true)]) mixed lv223s1 30 [false, false, true] [.call 256 [.d (I 1), .d (I x1.B), .d (.o 0 0)] [.box 198 [.o 1 0], .box 244 [I y1.2.board.Buses, DS api_Breaker.ps y1.2.board.Breakers, DS api_Source.ps y1.2.board.Sources, DS api_Consumer.ps y1.2.board.Consumers, I y1.2.board.Phase, I y1.2.board.Frequency, .os 2, .os 3, .os 4, .os 5, .os 6], .sl 4 1 (y1.2.power.Closed.map pB), .sl 59 4 (y1.2.power.Sources.map api_Running.ps), .sl 3 1 (y1.2.power.Limits.map pI), .sl 119 2 (y1.2.power.Broken.map api_Part.ps), .sl 42 3 (y1.2.acts.map api_Act.ps)] (.d (Bo y8.1)) [.box 198 [.o 1 0], .box 244 [I y8.2.board.Buses, DS api_Breaker.ps y8.2.board.Breakers, DS api_Source.ps y8.2.board.Sources, DS api_Consumer.ps y8.2.board.Consumers, I y8.2.board.Phase, I y8.2.board.Frequency, .os 2, .os 3, .os 4, .os 5, .os 6], .sl 4 1 (y8.2.power.Closed.map pB), .sl 59 4 (y8.2.power.Sources.map api_Running.ps), .sl 3 1 (y8.2.power.Limits.map pI), .sl 119 2 (y8.2.power.Broken.map api_Part.ps), .sl 42 3 (y8.2.acts.map api_Act.ps)] [6, 0, 1, 2, 3, 4, 5], .when [(y8.1, false)] (.row (y8.2.power.Sources.map api_Running.ps) x1.B (api_Running.ps y10)), .when [(y8.1, false)] (.row (y8.2.power.Sources.map api_Running.ps) (((Int.toNat x1.B) : Nat) : Int) (api_Running.ps y10))] [] [.tmp 4] 6 [0, 1, 2, 3, 4, 5] rfl hC ⟨⟨e256s0, (k256s0 1 x1.B y1.2 _ h9)⟩, fun hg => row_get (guardO_get h11 hg), fun hg => row_getN (guardO_get h11 hg), trivial⟩ ⟨h3, h4, h7, trivial⟩ (by kernel_rfl)
      · replace h := condF h7 h
        obtain ⟨y12, h13, h⟩ := bindE h
        replace h := Option.some.inj h
        subst h
        exact WI_ret (bs := [(y1.1, false), ((x1.Kind == 1), false), ((x1.Kind == 2), false)]) mixed lv223s1 32 [false, false, false] [.call 256 [.d (I 4), .d (I x1.B), .d (.o 0 0)] [.box 198 [.o 1 0], .box 244 [I y1.2.board.Buses, DS api_Breaker.ps y1.2.board.Breakers, DS api_Source.ps y1.2.board.Sources, DS api_Consumer.ps y1.2.board.Consumers, I y1.2.board.Phase, I y1.2.board.Frequency, .os 2, .os 3, .os 4, .os 5, .os 6], .sl 4 1 (y1.2.power.Closed.map pB), .sl 59 4 (y1.2.power.Sources.map api_Running.ps), .sl 3 1 (y1.2.power.Limits.map pI), .sl 119 2 (y1.2.power.Broken.map api_Part.ps), .sl 42 3 (y1.2.acts.map api_Act.ps)] (.d (Bo y12.1)) [.box 198 [.o 1 0], .box 244 [I y12.2.board.Buses, DS api_Breaker.ps y12.2.board.Breakers, DS api_Source.ps y12.2.board.Sources, DS api_Consumer.ps y12.2.board.Consumers, I y12.2.board.Phase, I y12.2.board.Frequency, .os 2, .os 3, .os 4, .os 5, .os 6], .sl 4 1 (y12.2.power.Closed.map pB), .sl 59 4 (y12.2.power.Sources.map api_Running.ps), .sl 3 1 (y12.2.power.Limits.map pI), .sl 119 2 (y12.2.power.Broken.map api_Part.ps), .sl 42 3 (y12.2.acts.map api_Act.ps)] [6, 0, 1, 2, 3, 4, 5]] [] [.tmp 4] 6 [0, 1, 2, 3, 4, 5] rfl hC ⟨⟨e256s0, (k256s0 4 x1.B y1.2 _ h13)⟩, trivial⟩ ⟨h3, h4, h7, trivial⟩ (by kernel_rfl)
theorem e223s1 : Enters Tryz.prog 223 := Go.SL.enters_of Tryz.func223 (by kernel_rfl) (by kernel_rfl)
def lv259s1 : List Nat := [0, 1, 2, 6, 7, 8, 9, 13, 30, 35, 54]
def st259s1_0 (x1 : Int) (s259s1_0 : Sg7) : St := [(0, .d (.os 0)), (1, .d (I x1)), (2, .d (.fn (.func 231) [] [.o 1 0])), (6, .d (I 20)), (7, .d (I s259s1_0.1)), (8, .d (I s259s1_0.2.1))]
def R259s1_0  (s259s1_0 : Sg7) : List Res := [.sl 3 1 (s259s1_0.2.2.1.map pI), .box 29 [I s259s1_0.2.2.2.1, DS api_Breaker.ps s259s1_0.2.2.2.2.1, DS api_Source.ps s259s1_0.2.2.2.2.2.1, DS api_Consumer.ps s259s1_0.2.2.2.2.2.2.1, I s259s1_0.2.2.2.2.2.2.2.1, I s259s1_0.2.2.2.2.2.2.2.2]]
def sa259s1_0 (x1 : Int) (s259s1_0 : Sg7) : St := [(0, .d (.os 0)), (1, .d (I x1)), (2, .d (.fn (.func 231) [] [.o 1 0])), (6, .d (I 20)), (7, .d (I s259s1_0.1)), (8, .d (I s259s1_0.2.1))]
def Ra259s1_0  (s259s1_0 : Sg7) : List Res := [.sl 3 1 (s259s1_0.2.2.1.map pI), .box 29 [I s259s1_0.2.2.2.1, DS api_Breaker.ps s259s1_0.2.2.2.2.1, DS api_Source.ps s259s1_0.2.2.2.2.2.1, DS api_Consumer.ps s259s1_0.2.2.2.2.2.2.1, I s259s1_0.2.2.2.2.2.2.2.1, I s259s1_0.2.2.2.2.2.2.2.2]]
def st259s1_1 (x1 : Int) (s259s1_1 : Sg9) : St := [(0, .d (.os 0)), (1, .d (I x1)), (2, .d (.fn (.func 231) [] [.o 1 0])), (6, .d (I s259s1_1.1)), (7, .d (I s259s1_1.2.1)), (8, .d (I s259s1_1.2.2.1))]
def R259s1_1  (s259s1_1 : Sg9) : List Res := [.sl 3 1 (s259s1_1.2.2.2.1.map pI), .box 29 [I s259s1_1.2.2.2.2.1, DS api_Breaker.ps s259s1_1.2.2.2.2.2.1, DS api_Source.ps s259s1_1.2.2.2.2.2.2.1, DS api_Consumer.ps s259s1_1.2.2.2.2.2.2.2.1, I s259s1_1.2.2.2.2.2.2.2.2.1, I s259s1_1.2.2.2.2.2.2.2.2.2]]
def sa259s1_1  (s259s1_1 : Sg9) : St := []
def Ra259s1_1  (s259s1_1 : Sg9) : List Res := [.sl 3 1 (s259s1_1.2.2.2.1.map pI), .box 29 [I s259s1_1.2.2.2.2.1, DS api_Breaker.ps s259s1_1.2.2.2.2.2.1, DS api_Source.ps s259s1_1.2.2.2.2.2.2.1, DS api_Consumer.ps s259s1_1.2.2.2.2.2.2.2.1, I s259s1_1.2.2.2.2.2.2.2.2.1, I s259s1_1.2.2.2.2.2.2.2.2.2]]
def st259s1_2 (x1 : Int) (s259s1_1 : Sg9) (s259s1_2 : Sg7) : St := [(0, .d (.os 0)), (1, .d (I x1)), (2, .d (.fn (.func 231) [] [.o 1 0])), (6, .d (I s259s1_1.1)), (7, .d (I s259s1_2.1)), (8, .d (I s259s1_2.2.1))]
def R259s1_2  (s259s1_2 : Sg7) : List Res := [.sl 3 1 (s259s1_2.2.2.1.map pI), .box 29 [I s259s1_2.2.2.2.1, DS api_Breaker.ps s259s1_2.2.2.2.2.1, DS api_Source.ps s259s1_2.2.2.2.2.2.1, DS api_Consumer.ps s259s1_2.2.2.2.2.2.2.1, I s259s1_2.2.2.2.2.2.2.2.1, I s259s1_2.2.2.2.2.2.2.2.2]]
def sa259s1_2 (x1 : Int) (s259s1_1 : Sg9) (s259s1_2 : Sg7) : St := [(0, .d (.os 0)), (1, .d (I x1)), (2, .d (.fn (.func 231) [] [.o 1 0])), (6, .d (I s259s1_1.1)), (7, .d (I s259s1_2.1)), (8, .d (I s259s1_2.2.1))]
def Ra259s1_2  (s259s1_2 : Sg7) : List Res := [.sl 3 1 (s259s1_2.2.2.1.map pI), .box 29 [I s259s1_2.2.2.2.1, DS api_Breaker.ps s259s1_2.2.2.2.2.1, DS api_Source.ps s259s1_2.2.2.2.2.2.1, DS api_Consumer.ps s259s1_2.2.2.2.2.2.2.1, I s259s1_2.2.2.2.2.2.2.2.1, I s259s1_2.2.2.2.2.2.2.2.2]]
theorem k259s1 (x0 : List Int) (x1 : Int) (x2c0 : api_Board) (r : (List Int) × api_Board) (h : F259s1 x0 x1 x2c0 = some r) : CallOk Tryz.prog 259 [.d (.os 0), .d (I x1), .d (.fn (.func 231) [] [.o 1 0])] [.sl 3 1 (x0.map pI), .box 29 [I x2c0.Buses, DS api_Breaker.ps x2c0.Breakers, DS api_Source.ps x2c0.Sources, DS api_Consumer.ps x2c0.Consumers, I x2c0.Phase, I x2c0.Frequency]] (.tup []) [.sl 3 1 (r.1.map pI), .box 29 [I r.2.Buses, DS api_Breaker.ps r.2.Breakers, DS api_Source.ps r.2.Sources, DS api_Consumer.ps r.2.Consumers, I r.2.Phase, I r.2.Frequency]] := by
  unfold F259s1 at h
  refine callOk_of 63 Tryz.func259 rfl rfl rfl fun C hC => ?_
  refine WI_stop (bs := []) mixed lv259s1 26 [] [] [] 2 [0, 1] (st259s1_0 x1 (0, 20, x0, x2c0.Buses, x2c0.Breakers, x2c0.Sources, x2c0.Consumers, x2c0.Phase, x2c0.Frequency)) (R259s1_0 (0, 20, x0, x2c0.Buses, x2c0.Breakers, x2c0.Sources, x2c0.Consumers, x2c0.Phase, x2c0.Frequency)) hC trivial trivial (by kernel_rfl) ?_
  obtain ⟨k259s1_0, hm259s1_0, hret259s1_0, hnext259s1_0⟩ := andThen_inv h
  clear h
  refine WI_cut (by kernel_rfl) (fun s => k259s1_0 = .next s) (sa259s1_0 x1) (Ra259s1_0) ?_ fun s259s1_0 hs259s1_0 => ?_
  · refine WI_blk (by kernel_rfl) ?_
    refine WI_while (by kernel_rfl) (F259s1_l0 x1) (st259s1_0 x1) (R259s1_0) k259s1_0 1152921504606846976 (0, 20, x0, x2c0.Buses, x2c0.Breakers, x2c0.Sources, x2c0.Consumers, x2c0.Phase, x2c0.Frequency) hm259s1_0 rfl rfl fun s259s1_0 k259s1_0b h hb259s1_0 hr259s1_0 => ?_
    unfold F259s1_l0 at h
    rcases boolC (decide (s259s1_0.2.1 ≤ x1)) with h1 | h1
    · replace h := condT h1 h
      obtain ⟨y2, h3, h⟩ := bindE h
      exact WI_end (bs := [(decide (s259s1_0.2.1 ≤ x1), true)]) (φ := fun s' => k259s1_0b = .next s') (st' := (st259s1_0 x1)) (R' := (R259s1_0)) mixed lv259s1 33 [true] [.call 276 [.d (.os 0), .d (I s259s1_0.1), .d (I s259s1_0.2.1), .d (.fn (.func 231) [] [.o 1 0])] [.sl 3 1 (s259s1_0.2.2.1.map pI), .box 29 [I s259s1_0.2.2.2.1, DS api_Breaker.ps s259s1_0.2.2.2.2.1, DS api_Source.ps s259s1_0.2.2.2.2.2.1, DS api_Consumer.ps s259s1_0.2.2.2.2.2.2.1, I s259s1_0.2.2.2.2.2.2.2.1, I s259s1_0.2.2.2.2.2.2.2.2]] (.tup []) [.sl 3 1 (y2.1.map pI), .box 29 [I y2.2.Buses, DS api_Breaker.ps y2.2.Breakers, DS api_Source.ps y2.2.Sources, DS api_Consumer.ps y2.2.Consumers, I y2.2.Phase, I y2.2.Frequency]] [0, 1]] [] 2 [0, 1] (s259s1_0.2.1, w64 (s259s1_0.2.1 + 20), y2.1, y2.2.Buses, y2.2.Breakers, y2.2.Sources, y2.2.Consumers, y2.2.Phase, y2.2.Frequency) hC ⟨⟨e276s1, (k276s1 s259s1_0.2.2.1 s259s1_0.1 s259s1_0.2.1 (⟨s259s1_0.2.2.2.1, s259s1_0.2.2.2.2.1, s259s1_0.2.2.2.2.2.1, s259s1_0.2.2.2.2.2.2.1, s259s1_0.2.2.2.2.2.2.2.1, s259s1_0.2.2.2.2.2.2.2.2⟩ : api_Board) _ h3)⟩, trivial⟩ ⟨h1, trivial⟩ (by kernel_rfl) (by kernel_rfl) (Option.some.inj h).symm
    · replace h := condF h1 h
      exact WI_end (bs := [(decide (s259s1_0.2.1 ≤ x1), false)]) (φ := fun s' => k259s1_0 = .next s') (st' := (sa259s1_0 x1)) (R' := (Ra259s1_0)) mixed lv259s1 26 [false] [] [] 2 [0, 1] (s259s1_0.1, s259s1_0.2.1, s259s1_0.2.2.1, s259s1_0.2.2.2.1, s259s1_0.2.2.2.2.1, s259s1_0.2.2.2.2.2.1, s259s1_0.2.2.2.2.2.2.1, s259s1_0.2.2.2.2.2.2.2.1, s259s1_0.2.2.2.2.2.2.2.2) hC trivial ⟨h1, trivial⟩ (by kernel_rfl) (by kernel_rfl) (hb259s1_0 _ (Option.some.inj h).symm)
  · have h := hnext259s1_0 _ hs259s1_0
    obtain ⟨y4, h5, h⟩ := bindE h
    refine WI_stop (bs := []) mixed lv259s1 23 [] [.call 276 [.d (.os 0), .d (I s259s1_0.1), .d (I x1), .d (.fn (.func 231) [] [.o 1 0])] [.sl 3 1 (s259s1_0.2.2.1.map pI), .box 29 [I s259s1_0.2.2.2.1, DS api_Breaker.ps s259s1_0.2.2.2.2.1, DS api_Source.ps s259s1_0.2.2.2.2.2.1, DS api_Consumer.ps s259s1_0.2.2.2.2.2.2.1, I s259s1_0.2.2.2.2.2.2.2.1, I s259s1_0.2.2.2.2.2.2.2.2]] (.tup []) [.sl 3 1 (y4.1.map pI), .box 29 [I y4.2.Buses, DS api_Breaker.ps y4.2.Breakers, DS api_Source.ps y4.2.Sources, DS api_Consumer.ps y4.2.Consumers, I y4.2.Phase, I y4.2.Frequency]] [0, 1]] [] 2 [0, 1] (st259s1_1 x1 (20, s259s1_0.1, s259s1_0.2.1, y4.1, y4.2.Buses, y4.2.Breakers, y4.2.Sources, y4.2.Consumers, y4.2.Phase, y4.2.Frequency)) (R259s1_1 (20, s259s1_0.1, s259s1_0.2.1, y4.1, y4.2.Buses, y4.2.Breakers, y4.2.Sources, y4.2.Consumers, y4.2.Phase, y4.2.Frequency)) hC ⟨⟨e276s1, (k276s1 s259s1_0.2.2.1 s259s1_0.1 x1 (⟨s259s1_0.2.2.2.1, s259s1_0.2.2.2.2.1, s259s1_0.2.2.2.2.2.1, s259s1_0.2.2.2.2.2.2.1, s259s1_0.2.2.2.2.2.2.2.1, s259s1_0.2.2.2.2.2.2.2.2⟩ : api_Board) _ h5)⟩, trivial⟩ trivial (by kernel_rfl) ?_
    obtain ⟨k259s1_1, hm259s1_1, hret259s1_1, hnext259s1_1⟩ := andThen_inv h
    clear h
    refine WI_cut (by kernel_rfl) (fun s => k259s1_1 = .next s) (sa259s1_1) (Ra259s1_1) ?_ fun s259s1_1 hs259s1_1 => ?_
    · refine WI_blk (by kernel_rfl) ?_
      refine WI_while (by kernel_rfl) (F259s1_l1 x1) (st259s1_1 x1) (R259s1_1) k259s1_1 1152921504606846976 (20, s259s1_0.1, s259s1_0.2.1, y4.1, y4.2.Buses, y4.2.Breakers, y4.2.Sources, y4.2.Consumers, y4.2.Phase, y4.2.Frequency) hm259s1_1 rfl rfl fun s259s1_1 k259s1_1b h hb259s1_1 hr259s1_1 => ?_
      unfold F259s1_l1 at h
      rcases boolC (decide (s259s1_1.1 < x1)) with h6 | h6
      · replace h := condT h6 h
        refine WI_stop (bs := [(decide (s259s1_1.1 < x1), true)]) mixed lv259s1 30 [true] [] [] 2 [0, 1] (st259s1_2 x1 s259s1_1 (0, w64 (2 * s259s1_1.1), s259s1_1.2.2.2.1, s259s1_1.2.2.2.2.1, s259s1_1.2.2.2.2.2.1, s259s1_1.2.2.2.2.2.2.1, s259s1_1.2.2.2.2.2.2.2.1, s259s1_1.2.2.2.2.2.2.2.2.1, s259s1_1.2.2.2.2.2.2.2.2.2)) (R259s1_2 (0, w64 (2 * s259s1_1.1), s259s1_1.2.2.2.1, s259s1_1.2.2.2.2.1, s259s1_1.2.2.2.2.2.1, s259s1_1.2.2.2.2.2.2.1, s259s1_1.2.2.2.2.2.2.2.1, s259s1_1.2.2.2.2.2.2.2.2.1, s259s1_1.2.2.2.2.2.2.2.2.2)) hC trivial ⟨h6, trivial⟩ (by kernel_rfl) ?_
        obtain ⟨k259s1_2, hm259s1_2, hret259s1_2, hnext259s1_2⟩ := andThen_inv h
        clear h
        refine WI_cut (by kernel_rfl) (fun s => k259s1_2 = .next s) (sa259s1_2 x1 s259s1_1) (Ra259s1_2) ?_ fun s259s1_2 hs259s1_2 => ?_
        · refine WI_blk (by kernel_rfl) ?_
          refine WI_while (by kernel_rfl) (F259s1_l2 x1 s259s1_1) (st259s1_2 x1 s259s1_1) (R259s1_2) k259s1_2 1152921504606846976 (0, w64 (2 * s259s1_1.1), s259s1_1.2.2.2.1, s259s1_1.2.2.2.2.1, s259s1_1.2.2.2.2.2.1, s259s1_1.2.2.2.2.2.2.1, s259s1_1.2.2.2.2.2.2.2.1, s259s1_1.2.2.2.2.2.2.2.2.1, s259s1_1.2.2.2.2.2.2.2.2.2) hm259s1_2 rfl rfl fun s259s1_2 k259s1_2b h hb259s1_2 hr259s1_2 => ?_
          unfold F259s1_l2 at h
          rcases boolC (decide (s259s1_2.2.1 ≤ x1)) with h7 | h7
          · replace h := condT h7 h
            obtain ⟨y8, h9, h⟩ := bindE h
            exact WI_end (bs := [(decide (s259s1_2.2.1 ≤ x1), true)]) (φ := fun s' => k259s1_2b = .next s') (st' := (st259s1_2 x1 s259s1_1)) (R' := (R259s1_2)) mixed lv259s1 33 [true] [.call 277 [.d (.os 0), .d (I s259s1_2.1), .d (I (w64 (s259s1_2.1 + s259s1_1.1))), .d (I s259s1_2.2.1), .d (.fn (.func 231) [] [.o 1 0])] [.sl 3 1 (s259s1_2.2.2.1.map pI), .box 29 [I s259s1_2.2.2.2.1, DS api_Breaker.ps s259s1_2.2.2.2.2.1, DS api_Source.ps s259s1_2.2.2.2.2.2.1, DS api_Consumer.ps s259s1_2.2.2.2.2.2.2.1, I s259s1_2.2.2.2.2.2.2.2.1, I s259s1_2.2.2.2.2.2.2.2.2]] (.tup []) [.sl 3 1 (y8.1.map pI), .box 29 [I y8.2.Buses, DS api_Breaker.ps y8.2.Breakers, DS api_Source.ps y8.2.Sources, DS api_Consumer.ps y8.2.Consumers, I y8.2.Phase, I y8.2.Frequency]] [0, 1]] [] 2 [0, 1] (s259s1_2.2.1, w64 (s259s1_2.2.1 + (w64 (2 * s259s1_1.1))), y8.1, y8.2.Buses, y8.2.Breakers, y8.2.Sources, y8.2.Consumers, y8.2.Phase, y8.2.Frequency) hC ⟨⟨e277s1, (k277s1 s259s1_2.2.2.1 s259s1_2.1 (w64 (s259s1_2.1 + s259s1_1.1)) s259s1_2.2.1 (⟨s259s1_2.2.2.2.1, s259s1_2.2.2.2.2.1, s259s1_2.2.2.2.2.2.1, s259s1_2.2.2.2.2.2.2.1, s259s1_2.2.2.2.2.2.2.2.1, s259s1_2.2.2.2.2.2.2.2.2⟩ : api_Board) _ h9)⟩, trivial⟩ ⟨h7, trivial⟩ (by kernel_rfl) (by kernel_rfl) (Option.some.inj h).symm
          · replace h := condF h7 h
            exact WI_end (bs := [(decide (s259s1_2.2.1 ≤ x1), false)]) (φ := fun s' => k259s1_2 = .next s') (st' := (sa259s1_2 x1 s259s1_1)) (R' := (Ra259s1_2)) mixed lv259s1 26 [false] [] [] 2 [0, 1] (s259s1_2.1, s259s1_2.2.1, s259s1_2.2.2.1, s259s1_2.2.2.2.1, s259s1_2.2.2.2.2.1, s259s1_2.2.2.2.2.2.1, s259s1_2.2.2.2.2.2.2.1, s259s1_2.2.2.2.2.2.2.2.1, s259s1_2.2.2.2.2.2.2.2.2) hC trivial ⟨h7, trivial⟩ (by kernel_rfl) (by kernel_rfl) (hb259s1_2 _ (Option.some.inj h).symm)
        · have h := hnext259s1_2 _ hs259s1_2
          rcases boolC ((c259s1_1 x1 s259s1_1 s259s1_2)) with h10 | h10
          · replace h := condT h10 h
            obtain ⟨y11, h12, h⟩ := bindE h
            exact WI_end (bs := [((c259s1_1 x1 s259s1_1 s259s1_2), true)]) (φ := fun s' => k259s1_1b = .next s') (st' := (st259s1_1 x1)) (R' := (R259s1_1)) mixed lv259s1 30 [true] [.call 277 [.d (.os 0), .d (I s259s1_2.1), .d (I (w64 (s259s1_2.1 + s259s1_1.1))), .d (I x1), .d (.fn (.func 231) [] [.o 1 0])] [.sl 3 1 (s259s1_2.2.2.1.map pI), .box 29 [I s259s1_2.2.2.2.1, DS api_Breaker.ps s259s1_2.2.2.2.2.1, DS api_Source.ps s259s1_2.2.2.2.2.2.1, DS api_Consumer.ps s259s1_2.2.2.2.2.2.2.1, I s259s1_2.2.2.2.2.2.2.2.1, I s259s1_2.2.2.2.2.2.2.2.2]] (.tup []) [.sl 3 1 (y11.1.map pI), .box 29 [I y11.2.Buses, DS api_Breaker.ps y11.2.Breakers, DS api_Source.ps y11.2.Sources, DS api_Consumer.ps y11.2.Consumers, I y11.2.Phase, I y11.2.Frequency]] [0, 1]] [] 2 [0, 1] (w64 (s259s1_1.1 * 2), s259s1_2.1, s259s1_2.2.1, y11.1, y11.2.Buses, y11.2.Breakers, y11.2.Sources, y11.2.Consumers, y11.2.Phase, y11.2.Frequency) hC ⟨⟨e277s1, (k277s1 s259s1_2.2.2.1 s259s1_2.1 (w64 (s259s1_2.1 + s259s1_1.1)) x1 (⟨s259s1_2.2.2.2.1, s259s1_2.2.2.2.2.1, s259s1_2.2.2.2.2.2.1, s259s1_2.2.2.2.2.2.2.1, s259s1_2.2.2.2.2.2.2.2.1, s259s1_2.2.2.2.2.2.2.2.2⟩ : api_Board) _ h12)⟩, trivial⟩ ⟨h10, trivial⟩ (by kernel_rfl) (by kernel_rfl) (Option.some.inj h).symm
          · replace h := condF h10 h
            exact WI_end (bs := [((c259s1_1 x1 s259s1_1 s259s1_2), false)]) (φ := fun s' => k259s1_1b = .next s') (st' := (st259s1_1 x1)) (R' := (R259s1_1)) mixed lv259s1 30 [false] [] [] 2 [0, 1] (w64 (s259s1_1.1 * 2), s259s1_2.1, s259s1_2.2.1, s259s1_2.2.2.1, s259s1_2.2.2.2.1, s259s1_2.2.2.2.2.1, s259s1_2.2.2.2.2.2.1, s259s1_2.2.2.2.2.2.2.1, s259s1_2.2.2.2.2.2.2.2.1, s259s1_2.2.2.2.2.2.2.2.2) hC trivial ⟨h10, trivial⟩ (by kernel_rfl) (by kernel_rfl) (Option.some.inj h).symm
      · replace h := condF h6 h
        exact WI_end (bs := [(decide (s259s1_1.1 < x1), false)]) (φ := fun s' => k259s1_1 = .next s') (st' := (sa259s1_1)) (R' := (Ra259s1_1)) mixed lv259s1 26 [false] [] [] 2 [0, 1] (s259s1_1.1, s259s1_1.2.1, s259s1_1.2.2.1, s259s1_1.2.2.2.1, s259s1_1.2.2.2.2.1, s259s1_1.2.2.2.2.2.1, s259s1_1.2.2.2.2.2.2.1, s259s1_1.2.2.2.2.2.2.2.1, s259s1_1.2.2.2.2.2.2.2.2.1, s259s1_1.2.2.2.2.2.2.2.2.2) hC trivial ⟨h6, trivial⟩ (by kernel_rfl) (by kernel_rfl) (hb259s1_1 _ (Option.some.inj h).symm)
    · have h := hnext259s1_1 _ hs259s1_1
      replace h := Option.some.inj h
      subst h
      exact WI_endF (bs := []) mixed lv259s1 20 [] [] [] [] 2 [0, 1] rfl hC trivial trivial (by kernel_rfl) (by kernel_rfl)
theorem e259s1 : Enters Tryz.prog 259 := Go.SL.enters_of Tryz.func259 (by kernel_rfl) (by kernel_rfl)
def lv65 : List Nat := [0, 1, 2, 3, 4, 5, 6, 7, 8, 12, 38, 50, 51, 52, 53, 77]
def st65_0 (x1 : api_Power) (i65_0 : Nat) (s65_0 : Bool) : St := [(2, .d (.o 0 0)), (3, .d (.o 1 0)), (4, .d (I 0)), (6, .d (Bo s65_0)), (50, .d (DS pI x1.Limits)), (51, .d (I (x1.Limits.length : Int))), (52, .d (I (cnt 0 i65_0)))]
def R65_0 (x0 : api_Board) (x1 : api_Power) (i65_0 : Nat) (s65_0 : Bool) : List Res := [.box 29 [I x0.Buses, DS api_Breaker.ps x0.Breakers, DS api_Source.ps x0.Sources, DS api_Consumer.ps x0.Consumers, I x0.Phase, I x0.Frequency], .box 35 [DS pB x1.Closed, DS api_Running.ps x1.Sources, DS pI x1.Limits, DS api_Part.ps x1.Broken]]
def sa65_0  (s65_0 : Bool) : St := [(4, .d (I 0)), (6, .d (Bo s65_0))]
def Ra65_0  (s65_0 : Bool) : List Res := []
theorem k65 (x0 : api_Board) (x1 : api_Power) (r : Int) (h : F65 x0 x1 = some r) : CallOk Tryz.prog 65 [.agg [I x0.Buses, DS api_Breaker.ps x0.Breakers, DS api_Source.ps x0.Sources, DS api_Consumer.ps x0.Consumers, I x0.Phase, I x0.Frequency], .agg [DS pB x1.Closed, DS api_Running.ps x1.Sources, DS pI x1.Limits, DS api_Part.ps x1.Broken]] [] (.d (I r)) [] := by
  unfold F65 at h
  refine callOk_of 78 Tryz.func65 rfl rfl rfl fun C hC => ?_
  obtain ⟨y1, h2, h⟩ := bindE h
  rcases boolC ((y1 != 0)) with h3 | h3
  · replace h := condT h3 h
    replace h := Option.some.inj h
    subst h
    exact WI_ret (bs := [((y1 != 0), true)]) mixed lv65 31 [true] [.call 92 [.agg [I x0.Buses, DS api_Breaker.ps x0.Breakers, DS api_Source.ps x0.Sources, DS api_Consumer.ps x0.Consumers, I x0.Phase, I x0.Frequency]] [] (.d (I y1)) [] []] [] [.tmp 4] 0 [] rfl hC ⟨⟨e92, (k92 x0 _ h2)⟩, trivial⟩ ⟨h3, trivial⟩ (by kernel_rfl)
  · replace h := condF h3 h
    refine WI_stop (bs := [((y1 != 0), false)]) mixed lv65 33 [false] [.call 92 [.agg [I x0.Buses, DS api_Breaker.ps x0.Breakers, DS api_Source.ps x0.Sources, DS api_Consumer.ps x0.Consumers, I x0.Phase, I x0.Frequency]] [] (.d (I y1)) [] [], .len ((x1.Closed.map pB).length : Int) (x1.Closed.length : Int), .len ((x0.Breakers.map api_Breaker.ps).length : Int) (x0.Breakers.length : Int), .when [(((x1.Closed.length : Int) != (x0.Breakers.length : Int)), false)] (.len ((x1.Sources.map api_Running.ps).length : Int) (x1.Sources.length : Int)), .when [(((x1.Closed.length : Int) != (x0.Breakers.length : Int)), false)] (.len ((x0.Sources.map api_Source.ps).length : Int) (x0.Sources.length : Int)), .when [((((x1.Closed.length : Int) != (x0.Breakers.length : Int)) || ((x1.Sources.length : Int) != (x0.Sources.length : Int))), false)] (.len ((x1.Limits.map pI).length : Int) (x1.Limits.length : Int)), .when [((((x1.Closed.length : Int) != (x0.Breakers.length : Int)) || ((x1.Sources.length : Int) != (x0.Sources.length : Int))), false)] (.len ((x0.Consumers.map api_Consumer.ps).length : Int) (x0.Consumers.length : Int))] [] 0 [0, 1] [(2, .d (.o 0 0)), (3, .d (.o 1 0)), (4, .d (I 0)), (38, .d (Bo (c65_0 x0 x1)))] [.box 29 [I x0.Buses, DS api_Breaker.ps x0.Breakers, DS api_Source.ps x0.Sources, DS api_Consumer.ps x0.Consumers, I x0.Phase, I x0.Frequency], .box 35 [DS pB x1.Closed, DS api_Running.ps x1.Sources, DS pI x1.Limits, DS api_Part.ps x1.Broken]] hC ⟨⟨e92, (k92 x0 _ h2)⟩, len_map _ _, len_map _ _, fun hg => len_map _ _, fun hg => len_map _ _, fun hg => len_map _ _, fun hg => len_map _ _, trivial⟩ ⟨h3, trivial⟩ (by kernel_rfl) ?_
    rcases boolC ((c65_0 x0 x1)) with h4 | h4
    · replace h := condT h4 h
      replace h := Option.some.inj h
      subst h
      exact WI_ret (bs := [((c65_0 x0 x1), true)]) mixed lv65 24 [true] [] [] [.tmp 4] 0 [] rfl hC trivial ⟨h4, trivial⟩ (by kernel_rfl)
    · replace h := condF h4 h
      obtain ⟨y5, h6, h⟩ := bindE h
      obtain ⟨y7, h8, h⟩ := bindE h
      refine WI_stop (bs := [((c65_0 x0 x1), false)]) mixed lv65 28 [false] [.call 128 [.agg [I x0.Buses, DS api_Breaker.ps x0.Breakers, DS api_Source.ps x0.Sources, DS api_Consumer.ps x0.Consumers, I x0.Phase, I x0.Frequency], .d (DS api_Part.ps x1.Broken)] [] (.d (Bo y5)) [] [], .when [(y5, true)] (.call 129 [.d (DS api_Running.ps x1.Sources), .d (.fn (.func 130) [] [])] [] (.d (Bo y7)) [] []), .len ((x1.Limits.map pI).length : Int) (x1.Limits.length : Int)] [] 0 [0, 1] (st65_0 x1 0 (y5 && (!y7))) (R65_0 x0 x1 0 (y5 && (!y7))) hC ⟨⟨e128, (k128 x0 x1.Broken _ h6)⟩, fun hg => ⟨e129s0, (k129s0 x1.Sources _ (guardO_get h8 hg))⟩, len_map _ _, trivial⟩ ⟨h4, trivial⟩ (by kernel_rfl) ?_
      obtain ⟨k65_0, hm65_0, hret65_0, hnext65_0⟩ := andThen_inv h
      clear h
      refine WI_cut (by kernel_rfl) (fun s => k65_0 = .next s) (sa65_0) (Ra65_0) ?_ fun s65_0 hs65_0 => ?_
      · refine WI_blk (by kernel_rfl) ?_
        refine WI_len 50 rfl fun hl65_0 => ?_
        refine WI_foldI (by kernel_rfl) (F65_l0 x0 x1) (st65_0 x1) (R65_0 x0 x1) k65_0 x1.Limits (y5 && (!y7)) hm65_0 rfl rfl (fun s65_0 hn65_0 => ?_) fun i65_0 x65_0 s65_0 k65_0b hi65_0 hx65_0 h hb65_0 hr65_0 => ?_
        · clear hm65_0
          exact WI_end (bs := [(decide ((cnt 0 x1.Limits.length) < (x1.Limits.length : Int)), false)]) (φ := fun s' => k65_0 = .next s') (st' := (sa65_0)) (R' := (Ra65_0)) mixed lv65 26 [false] [] [] 0 [] s65_0 hC trivial ⟨(cnt_end hl65_0), trivial⟩ (by kernel_rfl) (by kernel_rfl) hn65_0
        · unfold F65_l0 at h
          obtain ⟨y9, h10, h⟩ := bindE h
          obtain ⟨y11, h12, h⟩ := bindE h
          exact WI_end (bs := [(decide ((cnt 0 i65_0) < (x1.Limits.length : Int)), true)]) (φ := fun s' => k65_0b = .next s') (st' := (st65_0 x1 (i65_0 + 1))) (R' := (R65_0 x0 x1 (i65_0 + 1))) mixed lv65 33 [true] [.row (x1.Limits.map pI) (cnt 0 i65_0) (pI x65_0), .when [(s65_0, true)] (.row (x0.Consumers.map api_Consumer.ps) (cnt 0 i65_0) (api_Consumer.ps y9)), .when [(s65_0, true)] (.call 132 [.d (I x65_0), .d (I 0), .d (I y9.Load)] [] (.d (Bo (F132 x65_0 0 y9.Load))) [] []), .when [((s65_0 && (F132 x65_0 0 y9.Load)), true)] (.call 133 [.agg [I x0.Buses, DS api_Breaker.ps x0.Breakers, DS api_Source.ps x0.Sources, DS api_Consumer.ps x0.Consumers, I x0.Phase, I x0.Frequency], .agg [DS pB x1.Closed, DS api_Running.ps x1.Sources, DS pI x1.Limits, DS api_Part.ps x1.Broken], .d (I (cnt 0 i65_0))] [] (.d (I y11)) [] [])] [] 0 [0, 1] ((s65_0 && (F132 x65_0 0 y9.Load)) && (decide (y11 ≤ 1))) hC ⟨(row_cnt hx65_0 hl65_0), fun hg => row_get (guardO_get h10 hg), fun hg => ⟨e132, (k132 x65_0 0 y9.Load _ rfl)⟩, fun hg => ⟨e133, (k133 x0 x1 (cnt 0 i65_0) _ (guardO_get h12 hg))⟩, trivial⟩ ⟨(cnt_lt hi65_0 hl65_0), trivial⟩ (by kernel_rfl) (by kernel_rfl) (Option.some.inj h).symm
      · have h := hnext65_0 _ hs65_0
        rcases boolC (!s65_0) with h13 | h13
        · replace h := condT h13 h
          replace h := Option.some.inj h
          subst h
          exact WI_ret (bs := [(!s65_0, true)]) mixed lv65 27 [true] [] [] [.tmp 4] 0 [] rfl hC trivial ⟨h13, trivial⟩ (by kernel_rfl)
        · replace h := condF h13 h
          replace h := Option.some.inj h
          subst h
          exact WI_ret (bs := [(!s65_0, false)]) mixed lv65 28 [false] [] [] [.tmp 4] 0 [] rfl hC trivial ⟨h13, trivial⟩ (by kernel_rfl)
theorem e65 : Enters Tryz.prog 65 := Go.SL.enters_of Tryz.func65 (by kernel_rfl) (by kernel_rfl)
def lv225s1 : List Nat := [0, 1, 4, 5, 6, 7, 12, 19, 29]
def st225s1_0  (s225s1_0 : Int × Int × (List Int)) : St := [(0, .d (.os 0)), (1, .d (.fn (.func 226) [] [.o 1 0])), (4, .d (DS pI [])), (5, .d (I s225s1_0.1)), (6, .d (I s225s1_0.2.1))]
def R225s1_0 (y1 : Int × api_Island) (s225s1_0 : Int × Int × (List Int)) : List Res := [.sl 3 1 (s225s1_0.2.2.map pI), .box 78 [DS pI y1.2.Buses, DS pI y1.2.Sources, DS pI y1.2.Consumers]]
def sa225s1_0  (s225s1_0 : Int × Int × (List Int)) : St := [(0, .d (.os 0)), (4, .d (DS pI [])), (5, .d (I s225s1_0.1))]
def Ra225s1_0 (y1 : Int × api_Island) (s225s1_0 : Int × Int × (List Int)) : List Res := [.sl 3 1 (s225s1_0.2.2.map pI), .box 78 [DS pI y1.2.Buses, DS pI y1.2.Sources, DS pI y1.2.Consumers]]
theorem k225s1 (x0 : List Int) (x1c0 : api_Island) (r : (List Int) × api_Island) (h : F225s1 x0 x1c0 = some r) : CallOk Tryz.prog 225 [.d (.os 0), .d (.fn (.func 226) [] [.o 1 0])] [.sl 3 1 (x0.map pI), .box 78 [DS pI x1c0.Buses, DS pI x1c0.Sources, DS pI x1c0.Consumers]] (.d (.os 2)) [.non, .box 78 [DS pI r.2.Buses, DS pI r.2.Sources, DS pI r.2.Consumers], .sl 3 1 (r.1.map pI)] := by
  unfold F225s1 at h
  refine callOk_of 42 Tryz.func225 rfl rfl rfl fun C hC => ?_
  obtain ⟨y1, h2, h⟩ := bindE h
  refine WI_stop (bs := []) mixed lv225s1 28 [] [.call 243 [.d (.os 0), .d (.fn (.func 226) [] [.o 1 0])] [.sl 3 1 (x0.map pI), .box 78 [DS pI x1c0.Buses, DS pI x1c0.Sources, DS pI x1c0.Consumers]] (.d (I y1.1)) [.sl 3 1 (x0.map pI), .box 78 [DS pI y1.2.Buses, DS pI y1.2.Sources, DS pI y1.2.Consumers]] [0, 1]] [] 2 [0, 1] [(0, .d (.os 0)), (1, .d (.fn (.func 226) [] [.o 1 0])), (4, .d (DS pI [])), (5, .d (I y1.1)), (12, .d (Bo (y1.1 == (-1))))] [.sl 3 1 (x0.map pI), .box 78 [DS pI y1.2.Buses, DS pI y1.2.Sources, DS pI y1.2.Consumers]] hC ⟨⟨e243s1, (k243s1 x0 x1c0 _ h2)⟩, trivial⟩ trivial (by kernel_rfl) ?_
  rcases boolC ((y1.1 == (-1))) with h3 | h3
  · replace h := condT h3 h
    replace h := Option.some.inj h
    subst h
    exact WI_ret (bs := [((y1.1 == (-1)), true)]) mixed lv225s1 24 [true] [] [.mv 0] [.tmp 4] 2 [0, 1, 2] rfl hC trivial ⟨h3, trivial⟩ (by kernel_rfl)
  · replace h := condF h3 h
    refine WI_stop (bs := [((y1.1 == (-1)), false)]) mixed lv225s1 26 [false] [] [] 2 [0, 1] (st225s1_0 (y1.1, w64 (y1.1 + 1), x0)) (R225s1_0 y1 (y1.1, w64 (y1.1 + 1), x0)) hC trivial ⟨h3, trivial⟩ (by kernel_rfl) ?_
    obtain ⟨k225s1_0, hm225s1_0, hret225s1_0, hnext225s1_0⟩ := andThen_inv h
    clear h
    refine WI_cut (by kernel_rfl) (fun s => k225s1_0 = .next s) (sa225s1_0) (Ra225s1_0 y1) ?_ fun s225s1_0 hs225s1_0 => ?_
    · refine WI_blk (by kernel_rfl) ?_
      refine WI_while (by kernel_rfl) (F225s1_l0 y1) (st225s1_0) (R225s1_0 y1) k225s1_0 1152921504606846976 (y1.1, w64 (y1.1 + 1), x0) hm225s1_0 rfl rfl fun s225s1_0 k225s1_0b h hb225s1_0 hr225s1_0 => ?_
      unfold F225s1_l0 at h
      rcases boolC ((c225s1_2 s225s1_0)) with h4 | h4
      · replace h := condT h4 h
        obtain ⟨y5, h6, h⟩ := bindE h
        obtain ⟨y7, h8, h⟩ := bindE h
        refine WI_stop (bs := [((c225s1_2 s225s1_0), true)]) mixed lv225s1 32 [true] [.len ((s225s1_0.2.2.map pI).length : Int) (s225s1_0.2.2.length : Int), .row (s225s1_0.2.2.map pI) s225s1_0.2.1 (pI y5), .row (s225s1_0.2.2.map pI) (((Int.toNat s225s1_0.2.1) : Nat) : Int) (pI y5), .callB 226 [.d (I y5), .d (.ip [.s (y1.2.Buses.map pI), .s (y1.2.Sources.map pI), .s (y1.2.Consumers.map pI)])] (.d (Bo y7)) [[]] 0 []] [] 2 [0, 1] [(0, .d (.os 0)), (1, .d (.fn (.func 226) [] [.o 1 0])), (4, .d (DS pI [])), (5, .d (I s225s1_0.1)), (6, .d (I s225s1_0.2.1)), (7, .d (I y5)), (29, .d (Bo (!y7)))] [.sl 3 1 (s225s1_0.2.2.map pI), .box 78 [DS pI y1.2.Buses, DS pI y1.2.Sources, DS pI y1.2.Consumers]] hC ⟨len_map _ _, row_get h6, row_getN h6, lend0_get ⟨e226s0, (k226s0 y5 y1.2 _ h8)⟩, trivial⟩ ⟨h4, trivial⟩ (by kernel_rfl) ?_
        rcases boolC (!y7) with h9 | h9
        · replace h := condT h9 h
          obtain ⟨y10, h11, h⟩ := bindE h
          obtain ⟨y12, h13, h⟩ := bindE h
          exact WI_end (bs := [(!y7, true)]) (φ := fun s' => k225s1_0b = .next s') (st' := (st225s1_0)) (R' := (R225s1_0 y1)) mixed lv225s1 27 [true] [.row (s225s1_0.2.2.map pI) s225s1_0.1 (pI y10), .upd (s225s1_0.2.2.map pI) (Int.toNat s225s1_0.1) (pI y10) (pI y5) (y12.map pI)] [] 2 [0, 1] (w64 (s225s1_0.1 + 1), w64 (s225s1_0.2.1 + 1), y12) hC ⟨row_get h11, upd_get h11 h13, trivial⟩ ⟨h9, trivial⟩ (by kernel_rfl) (by kernel_rfl) (Option.some.inj h).symm
        · replace h := condF h9 h
          exact WI_end (bs := [(!y7, false)]) (φ := fun s' => k225s1_0b = .next s') (st' := (st225s1_0)) (R' := (R225s1_0 y1)) mixed lv225s1 25 [false] [] [] 2 [0, 1] (s225s1_0.1, w64 (s225s1_0.2.1 + 1), s225s1_0.2.2) hC trivial ⟨h9, trivial⟩ (by kernel_rfl) (by kernel_rfl) (Option.some.inj h).symm
      · replace h := condF h4 h
        exact WI_end (bs := [((c225s1_2 s225s1_0), false)]) (φ := fun s' => k225s1_0 = .next s') (st' := (sa225s1_0)) (R' := (Ra225s1_0 y1)) mixed lv225s1 26 [false] [.len ((s225s1_0.2.2.map pI).length : Int) (s225s1_0.2.2.length : Int)] [] 2 [0, 1] (s225s1_0.1, s225s1_0.2.1, s225s1_0.2.2) hC ⟨len_map _ _, trivial⟩ ⟨h4, trivial⟩ (by kernel_rfl) (by kernel_rfl) (hb225s1_0 _ (Option.some.inj h).symm)
    · have h := hnext225s1_0 _ hs225s1_0
      obtain ⟨u15, h14, h⟩ := bindE h
      obtain ⟨u17, h16, h⟩ := bindE h
      replace h := Option.some.inj h
      subst h
      (rw [List.map_take]; exact WI_ret (bs := []) mixed lv225s1 25 [] [.bnd (s225s1_0.2.2.map pI).length s225s1_0.1 (((s225s1_0.2.2.map pI).length : Nat) : Int) (s225s1_0.2.2.length : Int), .eqr ((s225s1_0.2.2.map pI).take (Int.toNat s225s1_0.1) ++ (List.replicate ((Int.toNat (s225s1_0.2.2.length : Int)) - (Int.toNat s225s1_0.1)) (pI 0) ++ (s225s1_0.2.2.map pI).drop ((Int.toNat s225s1_0.1) + ((Int.toNat (s225s1_0.2.2.length : Int)) - (Int.toNat s225s1_0.1))))) ((clrI s225s1_0.2.2 (Int.toNat s225s1_0.1) ((Int.toNat (s225s1_0.2.2.length : Int)) - (Int.toNat s225s1_0.1)) 0).map pI), .bnd ((clrI s225s1_0.2.2 (Int.toNat s225s1_0.1) ((Int.toNat (s225s1_0.2.2.length : Int)) - (Int.toNat s225s1_0.1)) 0).map pI).length 0 s225s1_0.1 s225s1_0.1] [.trunc 4] [.tmp 4] 2 [0, 1, 2] rfl hC ⟨bnd_get (by simp) (by simp) h14, clr_get pI rfl, bnd_get (by simp) rfl h16, trivial⟩ trivial (by kernel_rfl))
theorem e225s1 : Enters Tryz.prog 225 := Go.SL.enters_of Tryz.func225 (by kernel_rfl) (by kernel_rfl)
theorem k66 (x0 : api_Board) (x1 : api_Power) (x2 : Int) (r : Bool) (h : F66 x0 x1 x2 = some r) : CallOk Tryz.prog 66 [.agg [I x0.Buses, DS api_Breaker.ps x0.Breakers, DS api_Source.ps x0.Sources, DS api_Consumer.ps x0.Consumers, I x0.Phase, I x0.Frequency], .agg [DS pB x1.Closed, DS api_Running.ps x1.Sources, DS pI x1.Limits, DS api_Part.ps x1.Broken], .d (I x2)] [] (.d (Bo r)) [] := by
  unfold F66 at h
  refine callOk_of 28 Tryz.func66 rfl rfl rfl fun C hC => ?_
  obtain ⟨y1, h2, h⟩ := bindE h
  obtain ⟨y3, h4, h⟩ := bindE h
  obtain ⟨y5, h6, h⟩ := bindE h
  obtain ⟨y7, h8, h⟩ := bindE h
  replace h := Option.some.inj h
  subst h
  exact WI_ret (bs := []) mixed [0, 1, 2, 3, 4, 6] 25 [] [.call 67 [.agg [I x0.Buses, DS api_Breaker.ps x0.Breakers, DS api_Source.ps x0.Sources, DS api_Consumer.ps x0.Consumers, I x0.Phase, I x0.Frequency], .d (I x2)] [] (.d (I y1)) [] [], .call 68 [.agg [I x0.Buses, DS api_Breaker.ps x0.Breakers, DS api_Source.ps x0.Sources, DS api_Consumer.ps x0.Consumers, I x0.Phase, I x0.Frequency], .agg [DS pB x1.Closed, DS api_Running.ps x1.Sources, DS pI x1.Limits, DS api_Part.ps x1.Broken], .d (I y1)] [] (.d (Bo y3)) [] [], .when [(y3, true)] (.call 134 [.agg [DS pB x1.Closed, DS api_Running.ps x1.Sources, DS pI x1.Limits, DS api_Part.ps x1.Broken], .d (I 1), .d (I x2)] [] (.d (Bo y5)) [] []), .when [((y3 && (!y5)), true)] (.row (x1.Sources.map api_Running.ps) x2 (api_Running.ps y7))] [] [.tmp 6] 0 [] rfl hC ⟨⟨e67, (k67 x0 x2 _ h2)⟩, ⟨e68, (k68 x0 x1 y1 _ h4)⟩, fun hg => ⟨e134, (k134 x1 1 x2 _ (guardO_get h6 hg))⟩, fun hg => row_get (guardO_get h8 hg), trivial⟩ trivial (by kernel_rfl)
theorem e66 : Enters Tryz.prog 66 := Go.SL.enters_of Tryz.func66 (by kernel_rfl) (by kernel_rfl)
def lv222s1 : List Nat := [0, 1, 4, 5, 6, 8, 13, 14, 15, 16, 32, 38, 39, 40, 41]
def st222s1_0 (x0 : shed_relief) (i222s1_0 : Nat) (s222s1_0 : Sg5) : St := [(0, .d (.o 0 0)), (1, .d (.fn (.func 223) [.o 0 0] [])), (4, .d (.os 6)), (13, .d (DS api_Breaker.ps x0.board.Breakers)), (14, .d (I (x0.board.Breakers.length : Int))), (15, .d (I (cnt 0 i222s1_0)))]
def R222s1_0  (i222s1_0 : Nat) (s222s1_0 : Sg5) : List Res := [.box 244 [I s222s1_0.1, DS api_Breaker.ps s222s1_0.2.1, DS api_Source.ps s222s1_0.2.2.1, DS api_Consumer.ps s222s1_0.2.2.2.1, I s222s1_0.2.2.2.2.1, I s222s1_0.2.2.2.2.2.1, .os 7, .os 8, .os 9, .os 10, .os 11], .non, .non, .non, .non, .non, .sl 3 1 (s222s1_0.2.2.2.2.2.2.1.map pI), .sl 4 1 (s222s1_0.2.2.2.2.2.2.2.1.map pB), .sl 59 4 (s222s1_0.2.2.2.2.2.2.2.2.1.map api_Running.ps), .sl 3 1 (s222s1_0.2.2.2.2.2.2.2.2.2.1.map pI), .sl 119 2 (s222s1_0.2.2.2.2.2.2.2.2.2.2.1.map api_Part.ps), .sl 42 3 (s222s1_0.2.2.2.2.2.2.2.2.2.2.2.map api_Act.ps)]
def sa222s1_0  (s222s1_0 : Sg5) : St := [(0, .d (.o 0 0)), (4, .d (.os 6))]
def Ra222s1_0  (s222s1_0 : Sg5) : List Res := [.box 244 [I s222s1_0.1, DS api_Breaker.ps s222s1_0.2.1, DS api_Source.ps s222s1_0.2.2.1, DS api_Consumer.ps s222s1_0.2.2.2.1, I s222s1_0.2.2.2.2.1, I s222s1_0.2.2.2.2.2.1, .os 7, .os 8, .os 9, .os 10, .os 11], .non, .non, .non, .non, .non, .sl 3 1 (s222s1_0.2.2.2.2.2.2.1.map pI), .sl 4 1 (s222s1_0.2.2.2.2.2.2.2.1.map pB), .sl 59 4 (s222s1_0.2.2.2.2.2.2.2.2.1.map api_Running.ps), .sl 3 1 (s222s1_0.2.2.2.2.2.2.2.2.2.1.map pI), .sl 119 2 (s222s1_0.2.2.2.2.2.2.2.2.2.2.1.map api_Part.ps), .sl 42 3 (s222s1_0.2.2.2.2.2.2.2.2.2.2.2.map api_Act.ps)]
def st222s1_1 (s222s1_0 : Sg5) (i222s1_1 : Nat) (s222s1_1 : Sg4) : St := [(0, .d (.o 0 0)), (38, .d (.os 6)), (39, .d (I (s222s1_0.2.2.2.2.2.2.1.length : Int))), (40, .d (I (cnt 0 i222s1_1)))]
def R222s1_1 (s222s1_0 : Sg5) (i222s1_1 : Nat) (s222s1_1 : Sg4) : List Res := [.box 244 [I s222s1_1.1, DS api_Breaker.ps s222s1_1.2.1, DS api_Source.ps s222s1_1.2.2.1, DS api_Consumer.ps s222s1_1.2.2.2.1, I s222s1_1.2.2.2.2.1, I s222s1_1.2.2.2.2.2.1, .os 7, .os 8, .os 9, .os 10, .os 11], .non, .non, .non, .non, .non, .sl 3 1 (s222s1_0.2.2.2.2.2.2.1.map pI), .sl 4 1 (s222s1_1.2.2.2.2.2.2.1.map pB), .sl 59 4 (s222s1_1.2.2.2.2.2.2.2.1.map api_Running.ps), .sl 3 1 (s222s1_1.2.2.2.2.2.2.2.2.1.map pI), .sl 119 2 (s222s1_1.2.2.2.2.2.2.2.2.2.1.map api_Part.ps), .sl 42 3 (s222s1_1.2.2.2.2.2.2.2.2.2.2.map api_Act.ps)]
def sa222s1_1  (s222s1_1 : Sg4) : St := []
def Ra222s1_1  (s222s1_1 : Sg4) : List Res := [.box 244 [I s222s1_1.1, DS api_Breaker.ps s222s1_1.2.1, DS api_Source.ps s222s1_1.2.2.1, DS api_Consumer.ps s222s1_1.2.2.2.1, I s222s1_1.2.2.2.2.1, I s222s1_1.2.2.2.2.2.1, .os 6, .os 7, .os 8, .os 9, .os 10], .non, .non, .non, .non, .non, .sl 4 1 (s222s1_1.2.2.2.2.2.2.1.map pB), .sl 59 4 (s222s1_1.2.2.2.2.2.2.2.1.map api_Running.ps), .sl 3 1 (s222s1_1.2.2.2.2.2.2.2.2.1.map pI), .sl 119 2 (s222s1_1.2.2.2.2.2.2.2.2.2.1.map api_Part.ps), .sl 42 3 (s222s1_1.2.2.2.2.2.2.2.2.2.2.map api_Act.ps)]
theorem k222s1 (x0 : shed_relief) (r : shed_relief) (h : F222s1 x0 = some r) : CallOk Tryz.prog 222 [.d (.o 0 0), .d (.fn (.func 223) [.o 0 0] [])] [.box 244 [I x0.board.Buses, DS api_Breaker.ps x0.board.Breakers, DS api_Source.ps x0.board.Sources, DS api_Consumer.ps x0.board.Consumers, I x0.board.Phase, I x0.board.Frequency, .os 1, .os 2, .os 3, .os 4, .os 5], .sl 4 1 (x0.power.Closed.map pB), .sl 59 4 (x0.power.Sources.map api_Running.ps), .sl 3 1 (x0.power.Limits.map pI), .sl 119 2 (x0.power.Broken.map api_Part.ps), .sl 42 3 (x0.acts.map api_Act.ps)] (.tup []) [.box 244 [I r.board.Buses, DS api_Breaker.ps r.board.Breakers, DS api_Source.ps r.board.Sources, DS api_Consumer.ps r.board.Consumers, I r.board.Phase, I r.board.Frequency, .os 6, .os 7, .os 8, .os 9, .os 10], .non, .non, .non, .non, .non, .sl 4 1 (r.power.Closed.map pB), .sl 59 4 (r.power.Sources.map api_Running.ps), .sl 3 1 (r.power.Limits.map pI), .sl 119 2 (r.power.Broken.map api_Part.ps), .sl 42 3 (r.acts.map api_Act.ps)] := by
  unfold F222s1 at h
  refine callOk_of 48 Tryz.func222 rfl rfl rfl fun C hC => ?_
  refine WI_stop (bs := []) mixed lv222s1 26 [] [.len ((x0.board.Breakers.map api_Breaker.ps).length : Int) (x0.board.Breakers.length : Int)] [.own 4 3 1, .mv 1, .mv 2, .mv 3, .mv 4, .mv 5] 6 [0, 1, 2, 3, 4, 5, 6, 7, 8, 9, 10, 11] (st222s1_0 x0 0 (x0.board.Buses, x0.board.Breakers, x0.board.Sources, x0.board.Consumers, x0.board.Phase, x0.board.Frequency, ([] : List Int), x0.power.Closed, x0.power.Sources, x0.power.Limits, x0.power.Broken, x0.acts)) (R222s1_0 0 (x0.board.Buses, x0.board.Breakers, x0.board.Sources, x0.board.Consumers, x0.board.Phase, x0.board.Frequency, ([] : List Int), x0.power.Closed, x0.power.Sources, x0.power.Limits, x0.power.Broken, x0.acts)) hC ⟨len_map _ _, trivial⟩ trivial (by kernel_rfl) ?_
  obtain ⟨k222s1_0, hm222s1_0, hret222s1_0, hnext222s1_0⟩ := andThen_inv h
  clear h
  refine WI_cut (by kernel_rfl) (fun s => k222s1_0 = .next s) (sa222s1_0) (Ra222s1_0) ?_ fun s222s1_0 hs222s1_0 => ?_
  · refine WI_blk (by kernel_rfl) ?_
    refine WI_len 13 rfl fun hl222s1_0 => ?_
    refine WI_foldI (by kernel_rfl) F222s1_l0 (st222s1_0 x0) (R222s1_0) k222s1_0 x0.board.Breakers (x0.board.Buses, x0.board.Breakers, x0.board.Sources, x0.board.Consumers, x0.board.Phase, x0.board.Frequency, ([] : List Int), x0.power.Closed, x0.power.Sources, x0.power.Limits, x0.power.Broken, x0.acts) hm222s1_0 rfl rfl (fun s222s1_0 hn222s1_0 => ?_) fun i222s1_0 x222s1_0 s222s1_0 k222s1_0b hi222s1_0 hx222s1_0 h hb222s1_0 hr222s1_0 => ?_
    · clear hm222s1_0
      exact WI_end (bs := [(decide ((cnt 0 x0.board.Breakers.length) < (x0.board.Breakers.length : Int)), false)]) (φ := fun s' => k222s1_0 = .next s') (st' := (sa222s1_0)) (R' := (Ra222s1_0)) mixed lv222s1 26 [false] [] [] 6 [0, 1, 2, 3, 4, 5, 6, 7, 8, 9, 10, 11] (s222s1_0.1, s222s1_0.2.1, s222s1_0.2.2.1, s222s1_0.2.2.2.1, s222s1_0.2.2.2.2.1, s222s1_0.2.2.2.2.2.1, s222s1_0.2.2.2.2.2.2.1, s222s1_0.2.2.2.2.2.2.2.1, s222s1_0.2.2.2.2.2.2.2.2.1, s222s1_0.2.2.2.2.2.2.2.2.2.1, s222s1_0.2.2.2.2.2.2.2.2.2.2.1, s222s1_0.2.2.2.2.2.2.2.2.2.2.2) hC trivial ⟨(cnt_end hl222s1_0), trivial⟩ (by kernel_rfl) (by kernel_rfl) hn222s1_0
    · unfold F222s1_l0 at h
      obtain ⟨y1, h2, h⟩ := bindE h
      obtain ⟨y3, h4, h⟩ := bindE h
      refine WI_stop (bs := [(decide ((cnt 0 i222s1_0) < (x0.board.Breakers.length : Int)), true)]) mixed lv222s1 32 [true] [.row (x0.board.Breakers.map api_Breaker.ps) (cnt 0 i222s1_0) (api_Breaker.ps x222s1_0), .row (s222s1_0.2.2.2.2.2.2.2.1.map pB) (cnt 0 i222s1_0) (pB y1), .row (s222s1_0.2.2.2.2.2.2.2.1.map pB) (((Int.toNat (cnt 0 i222s1_0)) : Nat) : Int) (pB y1), .whenR [(y1, true)] (.call 223 [.d (.o 0 0), .agg [I x222s1_0.Kind, I x222s1_0.A, I x222s1_0.B]] [.box 244 [I s222s1_0.1, DS api_Breaker.ps s222s1_0.2.1, DS api_Source.ps s222s1_0.2.2.1, DS api_Consumer.ps s222s1_0.2.2.2.1, I s222s1_0.2.2.2.2.1, I s222s1_0.2.2.2.2.2.1, .os 1, .os 2, .os 3, .os 4, .os 5], .sl 4 1 (s222s1_0.2.2.2.2.2.2.2.1.map pB), .sl 59 4 (s222s1_0.2.2.2.2.2.2.2.2.1.map api_Running.ps), .sl 3 1 (s222s1_0.2.2.2.2.2.2.2.2.2.1.map pI), .sl 119 2 (s222s1_0.2.2.2.2.2.2.2.2.2.2.1.map api_Part.ps), .sl 42 3 (s222s1_0.2.2.2.2.2.2.2.2.2.2.2.map api_Act.ps)] (.d (Bo y3.1)) [.box 244 [I y3.2.board.Buses, DS api_Breaker.ps y3.2.board.Breakers, DS api_Source.ps y3.2.board.Sources, DS api_Consumer.ps y3.2.board.Consumers, I y3.2.board.Phase, I y3.2.board.Frequency, .os 1, .os 2, .os 3, .os 4, .os 5], .sl 4 1 (y3.2.power.Closed.map pB), .sl 59 4 (y3.2.power.Sources.map api_Running.ps), .sl 3 1 (y3.2.power.Limits.map pI), .sl 119 2 (y3.2.power.Broken.map api_Part.ps), .sl 42 3 (y3.2.acts.map api_Act.ps)] [0, 7, 8, 9, 10, 11])] [] 6 [0, 1, 2, 3, 4, 5, 6, 7, 8, 9, 10, 11] [(0, .d (.o 0 0)), (1, .d (.fn (.func 223) [.o 0 0] [])), (4, .d (.os 6)), (5, .d (I (cnt 0 i222s1_0))), (13, .d (DS api_Breaker.ps x0.board.Breakers)), (14, .d (I (x0.board.Breakers.length : Int))), (15, .d (I (cnt 0 i222s1_0))), (32, .d (Bo (y1 && y3.1)))] [.box 244 [I y3.2.board.Buses, DS api_Breaker.ps y3.2.board.Breakers, DS api_Source.ps y3.2.board.Sources, DS api_Consumer.ps y3.2.board.Consumers, I y3.2.board.Phase, I y3.2.board.Frequency, .os 7, .os 8, .os 9, .os 10, .os 11], .non, .non, .non, .non, .non, .sl 3 1 (s222s1_0.2.2.2.2.2.2.1.map pI), .sl 4 1 (y3.2.power.Closed.map pB), .sl 59 4 (y3.2.power.Sources.map api_Running.ps), .sl 3 1 (y3.2.power.Limits.map pI), .sl 119 2 (y3.2.power.Broken.map api_Part.ps), .sl 42 3 (y3.2.acts.map api_Act.ps)] hC ⟨(row_cnt hx222s1_0 hl222s1_0), row_get h2, row_getN h2, ⟨fun hg => ⟨e223s1, (k223s1 (⟨(⟨s222s1_0.1, s222s1_0.2.1, s222s1_0.2.2.1, s222s1_0.2.2.2.1, s222s1_0.2.2.2.2.1, s222s1_0.2.2.2.2.2.1⟩ : api_Board), (⟨s222s1_0.2.2.2.2.2.2.2.1, s222s1_0.2.2.2.2.2.2.2.2.1, s222s1_0.2.2.2.2.2.2.2.2.2.1, s222s1_0.2.2.2.2.2.2.2.2.2.2.1⟩ : api_Power), s222s1_0.2.2.2.2.2.2.2.2.2.2.2⟩ : shed_relief) x222s1_0 _ (guardO_get h4 hg))⟩, fun hg => by have e := guardO_not h4 hg; subst e; rfl⟩, trivial⟩ ⟨(cnt_lt hi222s1_0 hl222s1_0), trivial⟩ (by kernel_rfl) ?_
      rcases boolC ((y1 && y3.1)) with h5 | h5
      · replace h := condT h5 h
        obtain ⟨y6, h7, h⟩ := bindE h
        exact WI_end (bs := [((y1 && y3.1), true)]) (φ := fun s' => k222s1_0b = .next s') (st' := (st222s1_0 x0 (i222s1_0 + 1))) (R' := (R222s1_0 (i222s1_0 + 1))) mixed lv222s1 25 [true] [.app (s222s1_0.2.2.2.2.2.2.1.map pI) ([cnt 0 i222s1_0].map pI) 1 (((s222s1_0.2.2.2.2.2.2.1.map pI).length + ([cnt 0 i222s1_0].map pI).length) * (8 + 1)) (y6.map pI)] [] 6 [0, 1, 2, 3, 4, 5, 12, 7, 8, 9, 10, 11] (y3.2.board.Buses, y3.2.board.Breakers, y3.2.board.Sources, y3.2.board.Consumers, y3.2.board.Phase, y3.2.board.Frequency, y6, y3.2.power.Closed, y3.2.power.Sources, y3.2.power.Limits, y3.2.power.Broken, y3.2.acts) hC ⟨app_get pI 1 (fun _ => rfl) h7, trivial⟩ ⟨h5, trivial⟩ (by kernel_rfl) (by kernel_rfl) (Option.some.inj h).symm
      · replace h := condF h5 h
        exact WI_end (bs := [((y1 && y3.1), false)]) (φ := fun s' => k222s1_0b = .next s') (st' := (st222s1_0 x0 (i222s1_0 + 1))) (R' := (R222s1_0 (i222s1_0 + 1))) mixed lv222s1 25 [false] [] [] 6 [0, 1, 2, 3, 4, 5, 6, 7, 8, 9, 10, 11] (y3.2.board.Buses, y3.2.board.Breakers, y3.2.board.Sources, y3.2.board.Consumers, y3.2.board.Phase, y3.2.board.Frequency, s222s1_0.2.2.2.2.2.2.1, y3.2.power.Closed, y3.2.power.Sources, y3.2.power.Limits, y3.2.power.Broken, y3.2.acts) hC trivial ⟨h5, trivial⟩ (by kernel_rfl) (by kernel_rfl) (Option.some.inj h).symm
  · have h := hnext222s1_0 _ hs222s1_0
    refine WI_stop (bs := []) mixed lv222s1 23 [] [.len ((s222s1_0.2.2.2.2.2.2.1.map pI).length : Int) (s222s1_0.2.2.2.2.2.2.1.length : Int)] [] 6 [0, 1, 2, 3, 4, 5, 6, 7, 8, 9, 10, 11] (st222s1_1 s222s1_0 0 (s222s1_0.1, s222s1_0.2.1, s222s1_0.2.2.1, s222s1_0.2.2.2.1, s222s1_0.2.2.2.2.1, s222s1_0.2.2.2.2.2.1, s222s1_0.2.2.2.2.2.2.2.1, s222s1_0.2.2.2.2.2.2.2.2.1, s222s1_0.2.2.2.2.2.2.2.2.2.1, s222s1_0.2.2.2.2.2.2.2.2.2.2.1, s222s1_0.2.2.2.2.2.2.2.2.2.2.2)) (R222s1_1 s222s1_0 0 (s222s1_0.1, s222s1_0.2.1, s222s1_0.2.2.1, s222s1_0.2.2.2.1, s222s1_0.2.2.2.2.1, s222s1_0.2.2.2.2.2.1, s222s1_0.2.2.2.2.2.2.2.1, s222s1_0.2.2.2.2.2.2.2.2.1, s222s1_0.2.2.2.2.2.2.2.2.2.1, s222s1_0.2.2.2.2.2.2.2.2.2.2.1, s222s1_0.2.2.2.2.2.2.2.2.2.2.2)) hC ⟨len_map _ _, trivial⟩ trivial (by kernel_rfl) ?_
    obtain ⟨k222s1_1, hm222s1_1, hret222s1_1, hnext222s1_1⟩ := andThen_inv h
    clear h
    refine WI_cut (by kernel_rfl) (fun s => k222s1_1 = .next s) (sa222s1_1) (Ra222s1_1) ?_ fun s222s1_1 hs222s1_1 => ?_
    · refine WI_blk (by kernel_rfl) ?_
      refine WI_lenO 38 6 rfl rfl fun hl222s1_1 => ?_
      refine WI_foldI (by kernel_rfl) F222s1_l1 (st222s1_1 s222s1_0) (R222s1_1 s222s1_0) k222s1_1 s222s1_0.2.2.2.2.2.2.1 (s222s1_0.1, s222s1_0.2.1, s222s1_0.2.2.1, s222s1_0.2.2.2.1, s222s1_0.2.2.2.2.1, s222s1_0.2.2.2.2.2.1, s222s1_0.2.2.2.2.2.2.2.1, s222s1_0.2.2.2.2.2.2.2.2.1, s222s1_0.2.2.2.2.2.2.2.2.2.1, s222s1_0.2.2.2.2.2.2.2.2.2.2.1, s222s1_0.2.2.2.2.2.2.2.2.2.2.2) hm222s1_1 rfl rfl (fun s222s1_1 hn222s1_1 => ?_) fun i222s1_1 x222s1_1 s222s1_1 k222s1_1b hi222s1_1 hx222s1_1 h hb222s1_1 hr222s1_1 => ?_
      · clear hm222s1_1
        exact WI_end (bs := [(decide ((cnt 0 s222s1_0.2.2.2.2.2.2.1.length) < (s222s1_0.2.2.2.2.2.2.1.length : Int)), false)]) (φ := fun s' => k222s1_1 = .next s') (st' := (sa222s1_1)) (R' := (Ra222s1_1)) mixed lv222s1 26 [false] [] [] 6 [0, 1, 2, 3, 4, 5, 7, 8, 9, 10, 11] (s222s1_1.1, s222s1_1.2.1, s222s1_1.2.2.1, s222s1_1.2.2.2.1, s222s1_1.2.2.2.2.1, s222s1_1.2.2.2.2.2.1, s222s1_1.2.2.2.2.2.2.1, s222s1_1.2.2.2.2.2.2.2.1, s222s1_1.2.2.2.2.2.2.2.2.1, s222s1_1.2.2.2.2.2.2.2.2.2.1, s222s1_1.2.2.2.2.2.2.2.2.2.2) hC trivial ⟨(cnt_end hl222s1_1), trivial⟩ (by kernel_rfl) (by kernel_rfl) hn222s1_1
      · unfold F222s1_l1 at h
        obtain ⟨y8, h9, h⟩ := bindE h
        exact WI_end (bs := [(decide ((cnt 0 i222s1_1) < (s222s1_0.2.2.2.2.2.2.1.length : Int)), true)]) (φ := fun s' => k222s1_1b = .next s') (st' := (st222s1_1 s222s1_0 (i222s1_1 + 1))) (R' := (R222s1_1 s222s1_0 (i222s1_1 + 1))) mixed lv222s1 33 [true] [.row (s222s1_0.2.2.2.2.2.2.1.map pI) (cnt 0 i222s1_1) (pI x222s1_1), .row (s222s1_0.2.2.2.2.2.2.1.map pI) (((Int.toNat (cnt 0 i222s1_1)) : Nat) : Int) (pI x222s1_1), .call 255 [.d (.o 0 0), .d (I x222s1_1)] [.box 244 [I s222s1_1.1, DS api_Breaker.ps s222s1_1.2.1, DS api_Source.ps s222s1_1.2.2.1, DS api_Consumer.ps s222s1_1.2.2.2.1, I s222s1_1.2.2.2.2.1, I s222s1_1.2.2.2.2.2.1, .os 1, .os 2, .os 3, .os 4, .os 5], .sl 4 1 (s222s1_1.2.2.2.2.2.2.1.map pB), .sl 59 4 (s222s1_1.2.2.2.2.2.2.2.1.map api_Running.ps), .sl 3 1 (s222s1_1.2.2.2.2.2.2.2.2.1.map pI), .sl 119 2 (s222s1_1.2.2.2.2.2.2.2.2.2.1.map api_Part.ps), .sl 42 3 (s222s1_1.2.2.2.2.2.2.2.2.2.2.map api_Act.ps)] (.tup []) [.box 244 [I y8.board.Buses, DS api_Breaker.ps y8.board.Breakers, DS api_Source.ps y8.board.Sources, DS api_Consumer.ps y8.board.Consumers, I y8.board.Phase, I y8.board.Frequency, .os 1, .os 2, .os 3, .os 4, .os 6], .sl 4 1 (y8.power.Closed.map pB), .sl 59 4 (y8.power.Sources.map api_Running.ps), .sl 3 1 (y8.power.Limits.map pI), .sl 119 2 (y8.power.Broken.map api_Part.ps), .non, .sl 42 3 (y8.acts.map api_Act.ps)] [0, 7, 8, 9, 10, 11]] [] 6 [0, 1, 2, 3, 4, 5, 6, 7, 8, 9, 10, 12] (y8.board.Buses, y8.board.Breakers, y8.board.Sources, y8.board.Consumers, y8.board.Phase, y8.board.Frequency, y8.power.Closed, y8.power.Sources, y8.power.Limits, y8.power.Broken, y8.acts) hC ⟨row_get (get_cnt hx222s1_1 hl222s1_1), row_getN (get_cnt hx222s1_1 hl222s1_1), ⟨e255s1, (k255s1 (⟨(⟨s222s1_1.1, s222s1_1.2.1, s222s1_1.2.2.1, s222s1_1.2.2.2.1, s222s1_1.2.2.2.2.1, s222s1_1.2.2.2.2.2.1⟩ : api_Board), (⟨s222s1_1.2.2.2.2.2.2.1, s222s1_1.2.2.2.2.2.2.2.1, s222s1_1.2.2.2.2.2.2.2.2.1, s222s1_1.2.2.2.2.2.2.2.2.2.1⟩ : api_Power), s222s1_1.2.2.2.2.2.2.2.2.2.2⟩ : shed_relief) x222s1_1 _ h9)⟩, trivial⟩ ⟨(cnt_lt hi222s1_1 hl222s1_1), trivial⟩ (by kernel_rfl) (by kernel_rfl) (Option.some.inj h).symm
    · have h := hnext222s1_1 _ hs222s1_1
      replace h := Option.some.inj h
      subst h
      exact WI_endF (bs := []) mixed lv222s1 20 [] [] [] [] 6 [0, 1, 2, 3, 4, 5, 6, 7, 8, 9, 10] rfl hC trivial trivial (by kernel_rfl) (by kernel_rfl)
theorem e222s1 : Enters Tryz.prog 222 := Go.SL.enters_of Tryz.func222 (by kernel_rfl) (by kernel_rfl)
theorem k230s1 (x0 : List Int) (x1c0 : api_Board) (r : (List Int) × api_Board) (h : F230s1 x0 x1c0 = some r) : CallOk Tryz.prog 230 [.d (.os 0), .d (.fn (.func 231) [] [.o 1 0])] [.sl 3 1 (x0.map pI), .box 29 [I x1c0.Buses, DS api_Breaker.ps x1c0.Breakers, DS api_Source.ps x1c0.Sources, DS api_Consumer.ps x1c0.Consumers, I x1c0.Phase, I x1c0.Frequency]] (.tup []) [.sl 3 1 (r.1.map pI), .box 29 [I r.2.Buses, DS api_Breaker.ps r.2.Breakers, DS api_Source.ps r.2.Sources, DS api_Consumer.ps r.2.Consumers, I r.2.Phase, I r.2.Frequency]] := by
  unfold F230s1 at h
  refine callOk_of 9 Tryz.func230 rfl rfl rfl fun C hC => ?_
  obtain ⟨y1, h2, h⟩ := bindE h
  replace h := Option.some.inj h
  subst h
  exact WI_endF (bs := []) mixed [0, 1] 21 [] [.len ((x0.map pI).length : Int) (x0.length : Int), .call 259 [.d (.os 0), .d (I (x0.length : Int)), .d (.fn (.func 231) [] [.o 1 0])] [.sl 3 1 (x0.map pI), .box 29 [I x1c0.Buses, DS api_Breaker.ps x1c0.Breakers, DS api_Source.ps x1c0.Sources, DS api_Consumer.ps x1c0.Consumers, I x1c0.Phase, I x1c0.Frequency]] (.tup []) [.sl 3 1 (y1.1.map pI), .box 29 [I y1.2.Buses, DS api_Breaker.ps y1.2.Breakers, DS api_Source.ps y1.2.Sources, DS api_Consumer.ps y1.2.Consumers, I y1.2.Phase, I y1.2.Frequency]] [0, 1]] [] [] 2 [0, 1] rfl hC ⟨len_map _ _, ⟨e259s1, (k259s1 x0 (x0.length : Int) x1c0 _ h2)⟩, trivial⟩ trivial (by kernel_rfl) (by kernel_rfl)
theorem e230s1 : Enters Tryz.prog 230 := Go.SL.enters_of Tryz.func230 (by kernel_rfl) (by kernel_rfl)
def lv168 : List Nat := [0, 1, 2, 3, 4, 6, 7, 11]
theorem k168 (x0 : api_Board) (x1 : api_Power) (x2 : Int) (r : Int × Bool) (h : F168 x0 x1 x2 = some r) : CallOk Tryz.prog 168 [.agg [I x0.Buses, DS api_Breaker.ps x0.Breakers, DS api_Source.ps x0.Sources, DS api_Consumer.ps x0.Consumers, I x0.Phase, I x0.Frequency], .agg [DS pB x1.Closed, DS api_Running.ps x1.Sources, DS pI x1.Limits, DS api_Part.ps x1.Broken], .d (I x2)] [] (.tup [.d (I r.1), .d (Bo r.2)]) [] := by
  unfold F168 at h
  refine callOk_of 18 Tryz.func168 rfl rfl rfl fun C hC => ?_
  obtain ⟨y1, h2, h⟩ := bindE h
  refine WI_stop (bs := []) mixed lv168 26 [] [.call 65 [.agg [I x0.Buses, DS api_Breaker.ps x0.Breakers, DS api_Source.ps x0.Sources, DS api_Consumer.ps x0.Consumers, I x0.Phase, I x0.Frequency], .agg [DS pB x1.Closed, DS api_Running.ps x1.Sources, DS pI x1.Limits, DS api_Part.ps x1.Broken]] [] (.d (I y1)) [] []] [] 0 [0, 1] [(2, .d (I x2)), (3, .d (.o 0 0)), (4, .d (.o 1 0)), (6, .d (I 0)), (7, .d (Bo false)), (11, .d (Bo (y1 != 0)))] [.box 29 [I x0.Buses, DS api_Breaker.ps x0.Breakers, DS api_Source.ps x0.Sources, DS api_Consumer.ps x0.Consumers, I x0.Phase, I x0.Frequency], .box 35 [DS pB x1.Closed, DS api_Running.ps x1.Sources, DS pI x1.Limits, DS api_Part.ps x1.Broken]] hC ⟨⟨e65, (k65 x0 x1 _ h2)⟩, trivial⟩ trivial (by kernel_rfl) ?_
  rcases boolC ((y1 != 0)) with h3 | h3
  · replace h := condT h3 h
    replace h := Option.some.inj h
    subst h
    exact WI_ret (bs := [((y1 != 0), true)]) mixed lv168 24 [true] [] [] [.tmp 6, .tmp 7] 0 [] rfl hC trivial ⟨h3, trivial⟩ (by kernel_rfl)
  · replace h := condF h3 h
    obtain ⟨y4, h5, h⟩ := bindE h
    replace h := Option.some.inj h
    subst h
    exact WI_ret (bs := [((y1 != 0), false)]) mixed lv168 25 [false] [.call 188 [.agg [I x0.Buses, DS api_Breaker.ps x0.Breakers, DS api_Source.ps x0.Sources, DS api_Consumer.ps x0.Consumers, I x0.Phase, I x0.Frequency], .agg [DS pB x1.Closed, DS api_Running.ps x1.Sources, DS pI x1.Limits, DS api_Part.ps x1.Broken], .d (I x2)] [] (.tup [.d (I y4.1), .d (Bo y4.2)]) [] []] [] [.tmp 6, .tmp 7] 0 [] rfl hC ⟨⟨e188, (k188 x0 x1 x2 _ h5)⟩, trivial⟩ ⟨h3, trivial⟩ (by kernel_rfl)
theorem e168 : Enters Tryz.prog 168 := Go.SL.enters_of Tryz.func168 (by kernel_rfl) (by kernel_rfl)
def lv106 : List Nat := [0, 1, 2, 3, 4, 5, 6, 7, 8, 9, 10, 11, 12, 13, 14, 18, 25, 26, 27, 28, 47, 48, 49, 58, 80, 81, 82, 91]
def st106_0 (y4 : (List Int)) (i106_0 : Nat) (s106_0 : (List api_Island)) : St := [(2, .d (.o 0 0)), (3, .d (.o 1 0)), (4, .d (DS api_Island.ps [])), (5, .d (.os 2)), (6, .d (.os 3)), (25, .d (.os 2)), (26, .d (I (y4.length : Int))), (27, .d (I (cnt 0 i106_0)))]
def R106_0 (x0 : api_Board) (x1 : api_Power) (y4 : (List Int)) (i106_0 : Nat) (s106_0 : (List api_Island)) : List Res := [.box 29 [I x0.Buses, DS api_Breaker.ps x0.Breakers, DS api_Source.ps x0.Sources, DS api_Consumer.ps x0.Consumers, I x0.Phase, I x0.Frequency], .box 35 [DS pB x1.Closed, DS api_Running.ps x1.Sources, DS pI x1.Limits, DS api_Part.ps x1.Broken], .sl 3 1 (y4.map pI), .dsl 78 3 4, .gh 3 [(3, 1), (3, 1), (3, 1)] (s106_0.map api_Island.ps) none]
def sa106_0  (s106_0 : (List api_Island)) : St := [(2, .d (.o 0 0)), (3, .d (.o 1 0)), (4, .d (DS api_Island.ps [])), (5, .d (.os 2)), (6, .d (.os 3))]
def Ra106_0 (x0 : api_Board) (x1 : api_Power) (y4 : (List Int)) (s106_0 : (List api_Island)) : List Res := [.box 29 [I x0.Buses, DS api_Breaker.ps x0.Breakers, DS api_Source.ps x0.Sources, DS api_Consumer.ps x0.Consumers, I x0.Phase, I x0.Frequency], .box 35 [DS pB x1.Closed, DS api_Running.ps x1.Sources, DS pI x1.Limits, DS api_Part.ps x1.Broken], .sl 3 1 (y4.map pI), .dsl 78 3 4, .gh 3 [(3, 1), (3, 1), (3, 1)] (s106_0.map api_Island.ps) none]
def st106_1 (x0 : api_Board) (s106_1 : Int × (List api_Island)) : St := [(2, .d (.o 0 0)), (3, .d (.o 1 0)), (4, .d (DS api_Island.ps [])), (5, .d (.os 2)), (6, .d (.os 3)), (47, .d (I (x0.Sources.length : Int))), (48, .d (I s106_1.1))]
def R106_1 (x0 : api_Board) (x1 : api_Power) (y4 : (List Int)) (s106_1 : Int × (List api_Island)) : List Res := [.box 29 [I x0.Buses, DS api_Breaker.ps x0.Breakers, DS api_Source.ps x0.Sources, DS api_Consumer.ps x0.Consumers, I x0.Phase, I x0.Frequency], .box 35 [DS pB x1.Closed, DS api_Running.ps x1.Sources, DS pI x1.Limits, DS api_Part.ps x1.Broken], .sl 3 1 (y4.map pI), .dsl 78 3 4, .gh 3 [(3, 1), (3, 1), (3, 1)] (s106_1.2.map api_Island.ps) none]
def sa106_1  (s106_1 : Int × (List api_Island)) : St := [(2, .d (.o 0 0)), (3, .d (.o 1 0)), (4, .d (DS api_Island.ps [])), (5, .d (.os 2)), (6, .d (.os 3))]
def Ra106_1 (x0 : api_Board) (x1 : api_Power) (y4 : (List Int)) (s106_1 : Int × (List api_Island)) : List Res := [.box 29 [I x0.Buses, DS api_Breaker.ps x0.Breakers, DS api_Source.ps x0.Sources, DS api_Consumer.ps x0.Consumers, I x0.Phase, I x0.Frequency], .box 35 [DS pB x1.Closed, DS api_Running.ps x1.Sources, DS pI x1.Limits, DS api_Part.ps x1.Broken], .sl 3 1 (y4.map pI), .dsl 78 3 4, .gh 3 [(3, 1), (3, 1), (3, 1)] (s106_1.2.map api_Island.ps) none]
def st106_2 (x0 : api_Board) (s106_2 : Int × (List api_Island)) : St := [(2, .d (.o 0 0)), (3, .d (.o 1 0)), (4, .d (DS api_Island.ps [])), (5, .d (.os 2)), (6, .d (.os 3)), (80, .d (I (x0.Consumers.length : Int))), (81, .d (I s106_2.1))]
def R106_2 (x0 : api_Board) (x1 : api_Power) (y4 : (List Int)) (s106_2 : Int × (List api_Island)) : List Res := [.box 29 [I x0.Buses, DS api_Breaker.ps x0.Breakers, DS api_Source.ps x0.Sources, DS api_Consumer.ps x0.Consumers, I x0.Phase, I x0.Frequency], .box 35 [DS pB x1.Closed, DS api_Running.ps x1.Sources, DS pI x1.Limits, DS api_Part.ps x1.Broken], .sl 3 1 (y4.map pI), .dsl 78 3 4, .gh 3 [(3, 1), (3, 1), (3, 1)] (s106_2.2.map api_Island.ps) none]
def sa106_2  (s106_2 : Int × (List api_Island)) : St := [(4, .d (DS api_Island.ps [])), (6, .d (.os 0))]
def Ra106_2  (s106_2 : Int × (List api_Island)) : List Res := [.dsl 78 3 1, .gh 3 [(3, 1), (3, 1), (3, 1)] (s106_2.2.map api_Island.ps) none]
theorem k106 (x0 : api_Board) (x1 : api_Power) (r : (List api_Island)) (h : F106 x0 x1 = some r) : CallOk Tryz.prog 106 [.agg [I x0.Buses, DS api_Breaker.ps x0.Breakers, DS api_Source.ps x0.Sources, DS api_Consumer.ps x0.Consumers, I x0.Phase, I x0.Frequency], .agg [DS pB x1.Closed, DS api_Running.ps x1.Sources, DS pI x1.Limits, DS api_Part.ps x1.Broken]] [] (.d (.os 0)) [.sl 78 3 (r.map api_Island.ps)] := by
  unfold F106 at h
  refine callOk_of 113 Tryz.func106 rfl rfl rfl fun C hC => ?_
  obtain ⟨y1, h2, h⟩ := bindE h
  refine WI_stop (bs := []) mixed lv106 26 [] [.call 65 [.agg [I x0.Buses, DS api_Breaker.ps x0.Breakers, DS api_Source.ps x0.Sources, DS api_Consumer.ps x0.Consumers, I x0.Phase, I x0.Frequency], .agg [DS pB x1.Closed, DS api_Running.ps x1.Sources, DS pI x1.Limits, DS api_Part.ps x1.Broken]] [] (.d (I y1)) [] []] [] 0 [0, 1] [(2, .d (.o 0 0)), (3, .d (.o 1 0)), (4, .d (DS api_Island.ps [])), (18, .d (Bo (y1 != 0)))] [.box 29 [I x0.Buses, DS api_Breaker.ps x0.Breakers, DS api_Source.ps x0.Sources, DS api_Consumer.ps x0.Consumers, I x0.Phase, I x0.Frequency], .box 35 [DS pB x1.Closed, DS api_Running.ps x1.Sources, DS pI x1.Limits, DS api_Part.ps x1.Broken]] hC ⟨⟨e65, (k65 x0 x1 _ h2)⟩, trivial⟩ trivial (by kernel_rfl) ?_
  rcases boolC ((y1 != 0)) with h3 | h3
  · replace h := condT h3 h
    replace h := Option.some.inj h
    subst h
    exact WI_ret (bs := [((y1 != 0), true)]) mixed lv106 24 [true] [] [.own 4 78 3] [.tmp 4] 0 [2] rfl hC trivial ⟨h3, trivial⟩ (by kernel_rfl)
  · replace h := condF h3 h
    obtain ⟨y4, h5, h⟩ := bindE h
    obtain ⟨y6, h7, h⟩ := bindE h
    refine WI_stop (bs := [((y1 != 0), false)]) mixed lv106 30 [false] [.call 186 [.agg [I x0.Buses, DS api_Breaker.ps x0.Breakers, DS api_Source.ps x0.Sources, DS api_Consumer.ps x0.Consumers, I x0.Phase, I x0.Frequency], .agg [DS pB x1.Closed, DS api_Running.ps x1.Sources, DS pI x1.Limits, DS api_Part.ps x1.Broken]] [] (.d (.os 0)) [.sl 3 1 (y4.map pI)] [], .roomZ (x0.Buses * (72 + 1)) (List.replicate (Int.toNat x0.Buses) (api_Island.ps (⟨([] : List Int), ([] : List Int), ([] : List Int)⟩ : api_Island))) (y6.map api_Island.ps), .len ((y4.map pI).length : Int) (y4.length : Int)] [.deep 3 [(3, 1), (3, 1), (3, 1)]] 0 [0, 1, 2, 3, 4] (st106_0 y4 0 y6) (R106_0 x0 x1 y4 0 y6) hC ⟨⟨e186, (k186 x0 x1 _ h5)⟩, makez_get h7, len_map _ _, trivial⟩ ⟨h3, trivial⟩ (by kernel_rfl) ?_
    obtain ⟨k106_0, hm106_0, hret106_0, hnext106_0⟩ := andThen_inv h
    clear h
    refine WI_cut (by kernel_rfl) (fun s => k106_0 = .next s) (sa106_0) (Ra106_0 x0 x1 y4) ?_ fun s106_0 hs106_0 => ?_
    · refine WI_blk (by kernel_rfl) ?_
      refine WI_lenO 25 2 rfl rfl fun hl106_0 => ?_
      refine WI_foldI (by kernel_rfl) F106_l0 (st106_0 y4) (R106_0 x0 x1 y4) k106_0 y4 y6 hm106_0 rfl rfl (fun s106_0 hn106_0 => ?_) fun i106_0 x106_0 s106_0 k106_0b hi106_0 hx106_0 h hb106_0 hr106_0 => ?_
      · clear hm106_0
        exact WI_end (bs := [(decide ((cnt 0 y4.length) < (y4.length : Int)), false)]) (φ := fun s' => k106_0 = .next s') (st' := (sa106_0)) (R' := (Ra106_0 x0 x1 y4)) mixed lv106 26 [false] [] [] 0 [0, 1, 2, 3, 4] s106_0 hC trivial ⟨(cnt_end hl106_0), trivial⟩ (by kernel_rfl) (by kernel_rfl) hn106_0
      · unfold F106_l0 at h
        obtain ⟨y8, h9, h⟩ := bindE h
        obtain ⟨y10, h11, h⟩ := bindE h
        obtain ⟨y12, h13, h⟩ := bindE h
        exact WI_end (bs := [(decide ((cnt 0 i106_0) < (y4.length : Int)), true)]) (φ := fun s' => k106_0b = .next s') (st' := (st106_0 y4 (i106_0 + 1))) (R' := (R106_0 x0 x1 y4 (i106_0 + 1))) mixed lv106 33 [true] [.row (y4.map pI) (cnt 0 i106_0) (pI x106_0), .row (y4.map pI) (((Int.toNat (cnt 0 i106_0)) : Nat) : Int) (pI x106_0), .row (s106_0.map api_Island.ps) x106_0 (api_Island.ps y8), .row (s106_0.map api_Island.ps) (((Int.toNat x106_0) : Nat) : Int) (api_Island.ps y8), .appD (s106_0.map api_Island.ps) (Int.toNat x106_0) (api_Island.ps y8) 0 (y8.Buses.map pI) ([cnt 0 i106_0].map pI) 1 (((y8.Buses.map pI).length + ([cnt 0 i106_0].map pI).length) * (8 + 1)) (y10.map pI), .row (s106_0.map api_Island.ps) x106_0 (api_Island.ps y8), .updD (s106_0.map api_Island.ps) (Int.toNat x106_0) (Int.toNat x106_0) (api_Island.ps y8) (api_Island.ps (⟨y10, y8.Sources, y8.Consumers⟩ : api_Island)) (y12.map api_Island.ps)] [] 0 [0, 1, 2, 3, 8] y12 hC ⟨row_get (get_cnt hx106_0 hl106_0), row_getN (get_cnt hx106_0 hl106_0), row_get h9, row_getN h9, appD_get 1 (fun _ => rfl) h9 rfl h11, row_get h9, updD_get h9 h13, trivial⟩ ⟨(cnt_lt hi106_0 hl106_0), trivial⟩ (by kernel_rfl) (by kernel_rfl) (Option.some.inj h).symm
    · have h := hnext106_0 _ hs106_0
      refine WI_stop (bs := []) mixed lv106 24 [] [.len ((x0.Sources.map api_Source.ps).length : Int) (x0.Sources.length : Int)] [] 0 [0, 1, 2, 3, 4] (st106_1 x0 (0, s106_0)) (R106_1 x0 x1 y4 (0, s106_0)) hC ⟨len_map _ _, trivial⟩ trivial (by kernel_rfl) ?_
      obtain ⟨k106_1, hm106_1, hret106_1, hnext106_1⟩ := andThen_inv h
      clear h
      refine WI_cut (by kernel_rfl) (fun s => k106_1 = .next s) (sa106_1) (Ra106_1 x0 x1 y4) ?_ fun s106_1 hs106_1 => ?_
      · refine WI_blk (by kernel_rfl) ?_
        refine WI_while (by kernel_rfl) (F106_l1 x0 x1 y4) (st106_1 x0) (R106_1 x0 x1 y4) k106_1 1152921504606846976 (0, s106_0) hm106_1 rfl rfl fun s106_1 k106_1b h hb106_1 hr106_1 => ?_
        unfold F106_l1 at h
        rcases boolC ((c106_1 x0 s106_1)) with h14 | h14
        · replace h := condT h14 h
          obtain ⟨y15, h16, h⟩ := bindE h
          refine WI_stop (bs := [((c106_1 x0 s106_1), true)]) mixed lv106 34 [true] [.call 187 [.agg [I x0.Buses, DS api_Breaker.ps x0.Breakers, DS api_Source.ps x0.Sources, DS api_Consumer.ps x0.Consumers, I x0.Phase, I x0.Frequency], .agg [DS pB x1.Closed, DS api_Running.ps x1.Sources, DS pI x1.Limits, DS api_Part.ps x1.Broken], .d (I s106_1.1)] [] (.tup [.d (I y15.1), .d (Bo y15.2)]) [] []] [] 0 [0, 1, 2, 3, 4] [(2, .d (.o 0 0)), (3, .d (.o 1 0)), (4, .d (DS api_Island.ps [])), (5, .d (.os 2)), (6, .d (.os 3)), (9, .d (I s106_1.1)), (10, .d (I y15.1)), (47, .d (I (x0.Sources.length : Int))), (48, .d (I s106_1.1)), (58, .d (Bo y15.2))] [.box 29 [I x0.Buses, DS api_Breaker.ps x0.Breakers, DS api_Source.ps x0.Sources, DS api_Consumer.ps x0.Consumers, I x0.Phase, I x0.Frequency], .box 35 [DS pB x1.Closed, DS api_Running.ps x1.Sources, DS pI x1.Limits, DS api_Part.ps x1.Broken], .sl 3 1 (y4.map pI), .dsl 78 3 4, .gh 3 [(3, 1), (3, 1), (3, 1)] (s106_1.2.map api_Island.ps) none] hC ⟨⟨e187, (k187 x0 x1 s106_1.1 _ h16)⟩, trivial⟩ ⟨h14, trivial⟩ (by kernel_rfl) ?_
          rcases boolC (y15.2) with h17 | h17
          · replace h := condT h17 h
            obtain ⟨y18, h19, h⟩ := bindE h
            obtain ⟨y20, h21, h⟩ := bindE h
            obtain ⟨y22, h23, h⟩ := bindE h
            obtain ⟨y24, h25, h⟩ := bindE h
            exact WI_end (bs := [(y15.2, true)]) (φ := fun s' => k106_1b = .next s') (st' := (st106_1 x0)) (R' := (R106_1 x0 x1 y4)) mixed lv106 25 [true] [.row (y4.map pI) y15.1 (pI y18), .row (y4.map pI) (((Int.toNat y15.1) : Nat) : Int) (pI y18), .row (y4.map pI) y15.1 (pI y18), .row (y4.map pI) (((Int.toNat y15.1) : Nat) : Int) (pI y18), .row (s106_1.2.map api_Island.ps) y18 (api_Island.ps y20), .row (s106_1.2.map api_Island.ps) (((Int.toNat y18) : Nat) : Int) (api_Island.ps y20), .appD (s106_1.2.map api_Island.ps) (Int.toNat y18) (api_Island.ps y20) 1 (y20.Sources.map pI) ([s106_1.1].map pI) 1 (((y20.Sources.map pI).length + ([s106_1.1].map pI).length) * (8 + 1)) (y22.map pI), .row (s106_1.2.map api_Island.ps) y18 (api_Island.ps y20), .updD (s106_1.2.map api_Island.ps) (Int.toNat y18) (Int.toNat y18) (api_Island.ps y20) (api_Island.ps (⟨y20.Buses, y22, y20.Consumers⟩ : api_Island)) (y24.map api_Island.ps)] [] 0 [0, 1, 2, 3, 8] (w64 (s106_1.1 + 1), y24) hC ⟨row_get h19, row_getN h19, row_get h19, row_getN h19, row_get h21, row_getN h21, appD_get 1 (fun _ => rfl) h21 rfl h23, row_get h21, updD_get h21 h25, trivial⟩ ⟨h17, trivial⟩ (by kernel_rfl) (by kernel_rfl) (Option.some.inj h).symm
          · replace h := condF h17 h
            exact WI_end (bs := [(y15.2, false)]) (φ := fun s' => k106_1b = .next s') (st' := (st106_1 x0)) (R' := (R106_1 x0 x1 y4)) mixed lv106 25 [false] [] [] 0 [0, 1, 2, 3, 4] (w64 (s106_1.1 + 1), s106_1.2) hC trivial ⟨h17, trivial⟩ (by kernel_rfl) (by kernel_rfl) (Option.some.inj h).symm
        · replace h := condF h14 h
          exact WI_end (bs := [((c106_1 x0 s106_1), false)]) (φ := fun s' => k106_1 = .next s') (st' := (sa106_1)) (R' := (Ra106_1 x0 x1 y4)) mixed lv106 26 [false] [] [] 0 [0, 1, 2, 3, 4] (s106_1.1, s106_1.2) hC trivial ⟨h14, trivial⟩ (by kernel_rfl) (by kernel_rfl) (hb106_1 _ (Option.some.inj h).symm)
      · have h := hnext106_1 _ hs106_1
        refine WI_stop (bs := []) mixed lv106 24 [] [.len ((x0.Consumers.map api_Consumer.ps).length : Int) (x0.Consumers.length : Int)] [] 0 [0, 1, 2, 3, 4] (st106_2 x0 (0, s106_1.2)) (R106_2 x0 x1 y4 (0, s106_1.2)) hC ⟨len_map _ _, trivial⟩ trivial (by kernel_rfl) ?_
        obtain ⟨k106_2, hm106_2, hret106_2, hnext106_2⟩ := andThen_inv h
        clear h
        refine WI_cut (by kernel_rfl) (fun s => k106_2 = .next s) (sa106_2) (Ra106_2) ?_ fun s106_2 hs106_2 => ?_
        · refine WI_blk (by kernel_rfl) ?_
          refine WI_while (by kernel_rfl) (F106_l2 x0 x1 y4) (st106_2 x0) (R106_2 x0 x1 y4) k106_2 1152921504606846976 (0, s106_1.2) hm106_2 rfl rfl fun s106_2 k106_2b h hb106_2 hr106_2 => ?_
          unfold F106_l2 at h
          rcases boolC ((c106_3 x0 s106_2)) with h26 | h26
          · replace h := condT h26 h
            obtain ⟨y27, h28, h⟩ := bindE h
            refine WI_stop (bs := [((c106_3 x0 s106_2), true)]) mixed lv106 34 [true] [.call 188 [.agg [I x0.Buses, DS api_Breaker.ps x0.Breakers, DS api_Source.ps x0.Sources, DS api_Consumer.ps x0.Consumers, I x0.Phase, I x0.Frequency], .agg [DS pB x1.Closed, DS api_Running.ps x1.Sources, DS pI x1.Limits, DS api_Part.ps x1.Broken], .d (I s106_2.1)] [] (.tup [.d (I y27.1), .d (Bo y27.2)]) [] []] [] 0 [0, 1, 2, 3, 4] [(2, .d (.o 0 0)), (3, .d (.o 1 0)), (4, .d (DS api_Island.ps [])), (5, .d (.os 2)), (6, .d (.os 3)), (12, .d (I s106_2.1)), (13, .d (I y27.1)), (80, .d (I (x0.Consumers.length : Int))), (81, .d (I s106_2.1)), (91, .d (Bo y27.2))] [.box 29 [I x0.Buses, DS api_Breaker.ps x0.Breakers, DS api_Source.ps x0.Sources, DS api_Consumer.ps x0.Consumers, I x0.Phase, I x0.Frequency], .box 35 [DS pB x1.Closed, DS api_Running.ps x1.Sources, DS pI x1.Limits, DS api_Part.ps x1.Broken], .sl 3 1 (y4.map pI), .dsl 78 3 4, .gh 3 [(3, 1), (3, 1), (3, 1)] (s106_2.2.map api_Island.ps) none] hC ⟨⟨e188, (k188 x0 x1 s106_2.1 _ h28)⟩, trivial⟩ ⟨h26, trivial⟩ (by kernel_rfl) ?_
            rcases boolC (y27.2) with h29 | h29
            · replace h := condT h29 h
              obtain ⟨y30, h31, h⟩ := bindE h
              obtain ⟨y32, h33, h⟩ := bindE h
              obtain ⟨y34, h35, h⟩ := bindE h
              obtain ⟨y36, h37, h⟩ := bindE h
              exact WI_end (bs := [(y27.2, true)]) (φ := fun s' => k106_2b = .next s') (st' := (st106_2 x0)) (R' := (R106_2 x0 x1 y4)) mixed lv106 25 [true] [.row (y4.map pI) y27.1 (pI y30), .row (y4.map pI) (((Int.toNat y27.1) : Nat) : Int) (pI y30), .row (y4.map pI) y27.1 (pI y30), .row (y4.map pI) (((Int.toNat y27.1) : Nat) : Int) (pI y30), .row (s106_2.2.map api_Island.ps) y30 (api_Island.ps y32), .row (s106_2.2.map api_Island.ps) (((Int.toNat y30) : Nat) : Int) (api_Island.ps y32), .appD (s106_2.2.map api_Island.ps) (Int.toNat y30) (api_Island.ps y32) 2 (y32.Consumers.map pI) ([s106_2.1].map pI) 1 (((y32.Consumers.map pI).length + ([s106_2.1].map pI).length) * (8 + 1)) (y34.map pI), .row (s106_2.2.map api_Island.ps) y30 (api_Island.ps y32), .updD (s106_2.2.map api_Island.ps) (Int.toNat y30) (Int.toNat y30) (api_Island.ps y32) (api_Island.ps (⟨y32.Buses, y32.Sources, y34⟩ : api_Island)) (y36.map api_Island.ps)] [] 0 [0, 1, 2, 3, 8] (w64 (s106_2.1 + 1), y36) hC ⟨row_get h31, row_getN h31, row_get h31, row_getN h31, row_get h33, row_getN h33, appD_get 1 (fun _ => rfl) h33 rfl h35, row_get h33, updD_get h33 h37, trivial⟩ ⟨h29, trivial⟩ (by kernel_rfl) (by kernel_rfl) (Option.some.inj h).symm
            · replace h := condF h29 h
              exact WI_end (bs := [(y27.2, false)]) (φ := fun s' => k106_2b = .next s') (st' := (st106_2 x0)) (R' := (R106_2 x0 x1 y4)) mixed lv106 25 [false] [] [] 0 [0, 1, 2, 3, 4] (w64 (s106_2.1 + 1), s106_2.2) hC trivial ⟨h29, trivial⟩ (by kernel_rfl) (by kernel_rfl) (Option.some.inj h).symm
          · replace h := condF h26 h
            exact WI_end (bs := [((c106_3 x0 s106_2), false)]) (φ := fun s' => k106_2 = .next s') (st' := (sa106_2)) (R' := (Ra106_2)) mixed lv106 26 [false] [] [] 0 [3, 4] (s106_2.1, s106_2.2) hC trivial ⟨h26, trivial⟩ (by kernel_rfl) (by kernel_rfl) (hb106_2 _ (Option.some.inj h).symm)
        · have h := hnext106_2 _ hs106_2
          refine WI_stop (bs := []) mixed lv106 1 [] [] [.flat 0] 0 [0] [(4, .d (DS api_Island.ps [])), (6, .d (.os 0))] [.sl 78 3 (s106_2.2.map api_Island.ps)] hC trivial trivial (by kernel_rfl) ?_
          obtain ⟨y38, h39, h⟩ := bindE h
          replace h := Option.some.inj h
          subst h
          exact WI_ret (bs := []) mixed lv106 22 [] [.call 189 [.d (.os 0), .d (.fn (.func 190) [] [])] [.sl 78 3 (s106_2.2.map api_Island.ps)] (.d (.os 1)) [.non, .sl 78 3 (y38.map api_Island.ps)] [0]] [] [.tmp 4] 0 [1] rfl hC ⟨⟨e189s1, (k189s1 s106_2.2 _ h39)⟩, trivial⟩ trivial (by kernel_rfl)
theorem e106 : Enters Tryz.prog 106 := Go.SL.enters_of Tryz.func106 (by kernel_rfl) (by kernel_rfl)
def lv143 : List Nat := [0, 1, 2, 3, 4, 6, 7, 8, 9, 13, 18, 29]
theorem k143 (x0 : api_Board) (x1 : api_Power) (x2 : Int) (r : api_Power × Int) (h : F143 x0 x1 x2 = some r) : CallOk Tryz.prog 143 [.agg [I x0.Buses, DS api_Breaker.ps x0.Breakers, DS api_Source.ps x0.Sources, DS api_Consumer.ps x0.Consumers, I x0.Phase, I x0.Frequency], .agg [DS pB x1.Closed, DS api_Running.ps x1.Sources, DS pI x1.Limits, DS api_Part.ps x1.Broken], .d (I x2)] [] (.tup [.agg [.os 0, .os 1, .os 2, .os 3], .d (I r.2)]) [.sl 4 1 (r.1.Closed.map pB), .sl 59 4 (r.1.Sources.map api_Running.ps), .sl 3 1 (r.1.Limits.map pI), .sl 119 2 (r.1.Broken.map api_Part.ps)] := by
  unfold F143 at h
  refine callOk_of 49 Tryz.func143 rfl rfl rfl fun C hC => ?_
  obtain ⟨y1, h2, h⟩ := bindE h
  refine WI_stop (bs := []) mixed lv143 29 [] [.call 65 [.agg [I x0.Buses, DS api_Breaker.ps x0.Breakers, DS api_Source.ps x0.Sources, DS api_Consumer.ps x0.Consumers, I x0.Phase, I x0.Frequency], .agg [DS pB x1.Closed, DS api_Running.ps x1.Sources, DS pI x1.Limits, DS api_Part.ps x1.Broken]] [] (.d (I y1)) [] []] [.ownb 2 0 4 1, .ownb 2 1 59 4, .ownb 2 2 3 1, .ownb 2 3 119 2] 0 [0, 1, 2, 3, 4, 5, 6] [(2, .d (I x2)), (3, .d (.o 0 0)), (4, .d (.o 1 0)), (6, .d (.o 2 0)), (7, .d (I 0)), (8, .d (I y1)), (13, .d (Bo (y1 != 0)))] [.box 29 [I x0.Buses, DS api_Breaker.ps x0.Breakers, DS api_Source.ps x0.Sources, DS api_Consumer.ps x0.Consumers, I x0.Phase, I x0.Frequency], .box 35 [DS pB x1.Closed, DS api_Running.ps x1.Sources, DS pI x1.Limits, DS api_Part.ps x1.Broken], .box 35 [.os 3, .os 4, .os 5, .os 6], .sl 4 1 (([] : List Bool).map pB), .sl 59 4 (([] : List api_Running).map api_Running.ps), .sl 3 1 (([] : List Int).map pI), .sl 119 2 (([] : List api_Part).map api_Part.ps)] hC ⟨⟨e65, (k65 x0 x1 _ h2)⟩, trivial⟩ trivial (by kernel_rfl) ?_
  rcases boolC ((y1 != 0)) with h3 | h3
  · replace h := condT h3 h
    replace h := Option.some.inj h
    subst h
    exact WI_ret (bs := [((y1 != 0), true)]) mixed lv143 24 [true] [] [.ownb 2 0 4 1, .ownb 2 1 59 4, .ownb 2 2 3 1, .ownb 2 3 119 2] [.cell 6 35, .tmp 7] 0 [7, 8, 9, 10] rfl hC trivial ⟨h3, trivial⟩ (by kernel_rfl)
  · replace h := condF h3 h
    rcases boolC ((c143_0 x0 x2)) with h4 | h4
    · replace h := condT h4 h
      replace h := Option.some.inj h
      subst h
      exact WI_ret (bs := [((y1 != 0), false), ((c143_0 x0 x2), true)]) mixed lv143 27 [false, true] [.when [(decide (x2 < 0), false)] (.len ((x0.Breakers.map api_Breaker.ps).length : Int) (x0.Breakers.length : Int))] [.ownb 2 0 4 1, .ownb 2 1 59 4, .ownb 2 2 3 1, .ownb 2 3 119 2] [.cell 6 35, .tmp 7] 0 [7, 8, 9, 10] rfl hC ⟨fun hg => len_map _ _, trivial⟩ ⟨h3, h4, trivial⟩ (by kernel_rfl)
    · replace h := condF h4 h
      obtain ⟨y5, h6, h⟩ := bindE h
      obtain ⟨y7, h8, h⟩ := bindE h
      refine WI_stop (bs := [((y1 != 0), false), ((c143_0 x0 x2), false)]) mixed lv143 27 [false, false] [.when [(decide (x2 < 0), false)] (.len ((x0.Breakers.map api_Breaker.ps).length : Int) (x0.Breakers.length : Int)), .row (x1.Closed.map pB) x2 (pB y5), .when [(!y5, false)] (.call 134 [.agg [DS pB x1.Closed, DS api_Running.ps x1.Sources, DS pI x1.Limits, DS api_Part.ps x1.Broken], .d (I 2), .d (I x2)] [] (.d (Bo y7)) [] [])] [] 0 [1, 2, 3, 4, 5, 6] [(2, .d (I x2)), (4, .d (.o 0 0)), (6, .d (.o 1 0)), (7, .d (I 0)), (29, .d (Bo ((!y5) || y7)))] [.box 35 [DS pB x1.Closed, DS api_Running.ps x1.Sources, DS pI x1.Limits, DS api_Part.ps x1.Broken], .box 35 [.os 2, .os 3, .os 4, .os 5], .sl 4 1 (([] : List Bool).map pB), .sl 59 4 (([] : List api_Running).map api_Running.ps), .sl 3 1 (([] : List Int).map pI), .sl 119 2 (([] : List api_Part).map api_Part.ps)] hC ⟨fun hg => len_map _ _, row_get h6, fun hg => ⟨e134, (k134 x1 2 x2 _ (guardO_get h8 hg))⟩, trivial⟩ ⟨h3, h4, trivial⟩ (by kernel_rfl) ?_
      rcases boolC (((!y5) || y7)) with h9 | h9
      · replace h := condT h9 h
        replace h := Option.some.inj h
        subst h
        exact WI_ret (bs := [(((!y5) || y7), true)]) mixed lv143 24 [true] [] [.ownb 1 0 4 1, .ownb 1 1 59 4, .ownb 1 2 3 1, .ownb 1 3 119 2] [.cell 6 35, .tmp 7] 0 [6, 7, 8, 9] rfl hC trivial ⟨h9, trivial⟩ (by kernel_rfl)
      · replace h := condF h9 h
        obtain ⟨y10, h11, h⟩ := bindE h
        obtain ⟨y12, h13, h⟩ := bindE h
        obtain ⟨y14, h15, h⟩ := bindE h
        replace h := Option.some.inj h
        subst h
        exact WI_ret (bs := [(((!y5) || y7), false)]) mixed lv143 30 [false] [.call 70 [.agg [DS pB x1.Closed, DS api_Running.ps x1.Sources, DS pI x1.Limits, DS api_Part.ps x1.Broken]] [] (.agg [.os 0, .os 1, .os 2, .os 3]) [.sl 4 1 (y10.Closed.map pB), .sl 59 4 (y10.Sources.map api_Running.ps), .sl 3 1 (y10.Limits.map pI), .sl 119 2 (y10.Broken.map api_Part.ps)] [], .row (y10.Closed.map pB) x2 (pB y12), .upd (y10.Closed.map pB) (Int.toNat x2) (pB y12) (pB false) (y14.map pB)] [] [.cell 6 35, .tmp 7] 0 [6, 7, 8, 9] rfl hC ⟨⟨e70, (k70 x1 _ h11)⟩, row_get h13, upd_get h13 h15, trivial⟩ ⟨h9, trivial⟩ (by kernel_rfl)
theorem e143 : Enters Tryz.prog 143 := Go.SL.enters_of Tryz.func143 (by kernel_rfl) (by kernel_rfl)
def lv215 : List Nat := [0, 1, 2, 3, 4, 6, 7, 11]
theorem k215 (x0 : api_Board) (x1 : api_Power) (x2 : Int) (r : Int × Bool) (h : F215 x0 x1 x2 = some r) : CallOk Tryz.prog 215 [.agg [I x0.Buses, DS api_Breaker.ps x0.Breakers, DS api_Source.ps x0.Sources, DS api_Consumer.ps x0.Consumers, I x0.Phase, I x0.Frequency], .agg [DS pB x1.Closed, DS api_Running.ps x1.Sources, DS pI x1.Limits, DS api_Part.ps x1.Broken], .d (I x2)] [] (.tup [.d (I r.1), .d (Bo r.2)]) [] := by
  unfold F215 at h
  refine callOk_of 18 Tryz.func215 rfl rfl rfl fun C hC => ?_
  obtain ⟨y1, h2, h⟩ := bindE h
  refine WI_stop (bs := []) mixed lv215 26 [] [.call 65 [.agg [I x0.Buses, DS api_Breaker.ps x0.Breakers, DS api_Source.ps x0.Sources, DS api_Consumer.ps x0.Consumers, I x0.Phase, I x0.Frequency], .agg [DS pB x1.Closed, DS api_Running.ps x1.Sources, DS pI x1.Limits, DS api_Part.ps x1.Broken]] [] (.d (I y1)) [] []] [] 0 [0, 1] [(2, .d (I x2)), (3, .d (.o 0 0)), (4, .d (.o 1 0)), (6, .d (I 0)), (7, .d (Bo false)), (11, .d (Bo (y1 != 0)))] [.box 29 [I x0.Buses, DS api_Breaker.ps x0.Breakers, DS api_Source.ps x0.Sources, DS api_Consumer.ps x0.Consumers, I x0.Phase, I x0.Frequency], .box 35 [DS pB x1.Closed, DS api_Running.ps x1.Sources, DS pI x1.Limits, DS api_Part.ps x1.Broken]] hC ⟨⟨e65, (k65 x0 x1 _ h2)⟩, trivial⟩ trivial (by kernel_rfl) ?_
  rcases boolC ((y1 != 0)) with h3 | h3
  · replace h := condT h3 h
    replace h := Option.some.inj h
    subst h
    exact WI_ret (bs := [((y1 != 0), true)]) mixed lv215 24 [true] [] [] [.tmp 6, .tmp 7] 0 [] rfl hC trivial ⟨h3, trivial⟩ (by kernel_rfl)
  · replace h := condF h3 h
    obtain ⟨y4, h5, h⟩ := bindE h
    replace h := Option.some.inj h
    subst h
    exact WI_ret (bs := [((y1 != 0), false)]) mixed lv215 25 [false] [.call 187 [.agg [I x0.Buses, DS api_Breaker.ps x0.Breakers, DS api_Source.ps x0.Sources, DS api_Consumer.ps x0.Consumers, I x0.Phase, I x0.Frequency], .agg [DS pB x1.Closed, DS api_Running.ps x1.Sources, DS pI x1.Limits, DS api_Part.ps x1.Broken], .d (I x2)] [] (.tup [.d (I y4.1), .d (Bo y4.2)]) [] []] [] [.tmp 6, .tmp 7] 0 [] rfl hC ⟨⟨e187, (k187 x0 x1 x2 _ h5)⟩, trivial⟩ ⟨h3, trivial⟩ (by kernel_rfl)
theorem e215 : Enters Tryz.prog 215 := Go.SL.enters_of Tryz.func215 (by kernel_rfl) (by kernel_rfl)
def lv217 : List Nat := [0, 1, 2, 3, 4, 5, 6, 7, 8, 9, 14, 20, 21, 22, 23, 29]
def st217_0 (x1 : api_Power) (i217_0 : Nat) (s217_0 : (List api_Running)) : St := [(4, .d (.o 0 0)), (5, .d (I 0)), (7, .d (.o 9 0)), (20, .d (DS api_Running.ps x1.Sources)), (21, .d (I (x1.Sources.length : Int))), (22, .d (I (cnt 0 i217_0)))]
def R217_0 (y4 : api_Power) (i217_0 : Nat) (s217_0 : (List api_Running)) : List Res := [.box 35 [.os 1, .os 2, .os 3, .os 4], .sl 4 1 (([] : List Bool).map pB), .sl 59 4 (([] : List api_Running).map api_Running.ps), .sl 3 1 (([] : List Int).map pI), .sl 119 2 (([] : List api_Part).map api_Part.ps), .sl 4 1 (y4.Closed.map pB), .sl 59 4 (s217_0.map api_Running.ps), .sl 3 1 (y4.Limits.map pI), .sl 119 2 (y4.Broken.map api_Part.ps), .box 35 [.os 5, .os 6, .os 7, .os 8]]
def sa217_0  (s217_0 : (List api_Running)) : St := [(4, .d (.o 0 0)), (5, .d (I 0)), (7, .d (.o 9 0))]
def Ra217_0 (y4 : api_Power) (s217_0 : (List api_Running)) : List Res := [.box 35 [.os 1, .os 2, .os 3, .os 4], .sl 4 1 (([] : List Bool).map pB), .sl 59 4 (([] : List api_Running).map api_Running.ps), .sl 3 1 (([] : List Int).map pI), .sl 119 2 (([] : List api_Part).map api_Part.ps), .sl 4 1 (y4.Closed.map pB), .sl 59 4 (s217_0.map api_Running.ps), .sl 3 1 (y4.Limits.map pI), .sl 119 2 (y4.Broken.map api_Part.ps), .box 35 [.os 5, .os 6, .os 7, .os 8]]
theorem k217 (x0 : api_Board) (x1 : api_Power) (r : api_Power × Int) (h : F217 x0 x1 = some r) : CallOk Tryz.prog 217 [.agg [I x0.Buses, DS api_Breaker.ps x0.Breakers, DS api_Source.ps x0.Sources, DS api_Consumer.ps x0.Consumers, I x0.Phase, I x0.Frequency], .agg [DS pB x1.Closed, DS api_Running.ps x1.Sources, DS pI x1.Limits, DS api_Part.ps x1.Broken]] [] (.tup [.agg [.os 0, .os 1, .os 2, .os 3], .d (I r.2)]) [.sl 4 1 (r.1.Closed.map pB), .sl 59 4 (r.1.Sources.map api_Running.ps), .sl 3 1 (r.1.Limits.map pI), .sl 119 2 (r.1.Broken.map api_Part.ps)] := by
  unfold F217 at h
  refine callOk_of 45 Tryz.func217 rfl rfl rfl fun C hC => ?_
  obtain ⟨y1, h2, h⟩ := bindE h
  refine WI_stop (bs := []) mixed lv217 28 [] [.call 65 [.agg [I x0.Buses, DS api_Breaker.ps x0.Breakers, DS api_Source.ps x0.Sources, DS api_Consumer.ps x0.Consumers, I x0.Phase, I x0.Frequency], .agg [DS pB x1.Closed, DS api_Running.ps x1.Sources, DS pI x1.Limits, DS api_Part.ps x1.Broken]] [] (.d (I y1)) [] []] [.ownb 2 0 4 1, .ownb 2 1 59 4, .ownb 2 2 3 1, .ownb 2 3 119 2] 0 [1, 2, 3, 4, 5, 6] [(3, .d (.o 0 0)), (4, .d (.o 1 0)), (5, .d (I 0)), (6, .d (I y1)), (14, .d (Bo (y1 != 0)))] [.box 35 [DS pB x1.Closed, DS api_Running.ps x1.Sources, DS pI x1.Limits, DS api_Part.ps x1.Broken], .box 35 [.os 2, .os 3, .os 4, .os 5], .sl 4 1 (([] : List Bool).map pB), .sl 59 4 (([] : List api_Running).map api_Running.ps), .sl 3 1 (([] : List Int).map pI), .sl 119 2 (([] : List api_Part).map api_Part.ps)] hC ⟨⟨e65, (k65 x0 x1 _ h2)⟩, trivial⟩ trivial (by kernel_rfl) ?_
  rcases boolC ((y1 != 0)) with h3 | h3
  · replace h := condT h3 h
    replace h := Option.some.inj h
    subst h
    exact WI_ret (bs := [((y1 != 0), true)]) mixed lv217 24 [true] [] [.ownb 1 0 4 1, .ownb 1 1 59 4, .ownb 1 2 3 1, .ownb 1 3 119 2] [.cell 4 35, .tmp 5] 0 [6, 7, 8, 9] rfl hC trivial ⟨h3, trivial⟩ (by kernel_rfl)
  · replace h := condF h3 h
    obtain ⟨y4, h5, h⟩ := bindE h
    refine WI_stop (bs := [((y1 != 0), false)]) mixed lv217 28 [false] [.call 70 [.agg [DS pB x1.Closed, DS api_Running.ps x1.Sources, DS pI x1.Limits, DS api_Part.ps x1.Broken]] [] (.agg [.os 0, .os 1, .os 2, .os 3]) [.sl 4 1 (y4.Closed.map pB), .sl 59 4 (y4.Sources.map api_Running.ps), .sl 3 1 (y4.Limits.map pI), .sl 119 2 (y4.Broken.map api_Part.ps)] [], .len ((x1.Sources.map api_Running.ps).length : Int) (x1.Sources.length : Int)] [] 0 [1, 2, 3, 4, 5, 6, 7, 8, 9, 10] (st217_0 x1 0 y4.Sources) (R217_0 y4 0 y4.Sources) hC ⟨⟨e70, (k70 x1 _ h5)⟩, len_map _ _, trivial⟩ ⟨h3, trivial⟩ (by kernel_rfl) ?_
    obtain ⟨k217_0, hm217_0, hret217_0, hnext217_0⟩ := andThen_inv h
    clear h
    refine WI_cut (by kernel_rfl) (fun s => k217_0 = .next s) (sa217_0) (Ra217_0 y4) ?_ fun s217_0 hs217_0 => ?_
    · refine WI_blk (by kernel_rfl) ?_
      refine WI_len 20 rfl fun hl217_0 => ?_
      refine WI_foldI (by kernel_rfl) F217_l0 (st217_0 x1) (R217_0 y4) k217_0 x1.Sources y4.Sources hm217_0 rfl rfl (fun s217_0 hn217_0 => ?_) fun i217_0 x217_0 s217_0 k217_0b hi217_0 hx217_0 h hb217_0 hr217_0 => ?_
      · clear hm217_0
        exact WI_end (bs := [(decide ((cnt 0 x1.Sources.length) < (x1.Sources.length : Int)), false)]) (φ := fun s' => k217_0 = .next s') (st' := (sa217_0)) (R' := (Ra217_0 y4)) mixed lv217 26 [false] [] [] 0 [0, 1, 2, 3, 4, 5, 6, 7, 8, 9] s217_0 hC trivial ⟨(cnt_end hl217_0), trivial⟩ (by kernel_rfl) (by kernel_rfl) hn217_0
      · unfold F217_l0 at h
        rcases boolC ((x217_0.State == 2)) with h6 | h6
        · replace h := condT h6 h
          obtain ⟨y7, h8, h⟩ := bindE h
          obtain ⟨y9, h10, h⟩ := bindE h
          exact WI_end (bs := [(decide ((cnt 0 i217_0) < (x1.Sources.length : Int)), true), ((x217_0.State == 2), true)]) (φ := fun s' => k217_0b = .next s') (st' := (st217_0 x1 (i217_0 + 1))) (R' := (R217_0 y4 (i217_0 + 1))) mixed lv217 36 [true, true] [.row (x1.Sources.map api_Running.ps) (cnt 0 i217_0) (api_Running.ps x217_0), .call 252 [.d (I (w64 (x217_0.Phase + (w64 (36 * (w64 (x217_0.Frequency - 5000)))))))] [] (.d (I (F252 (w64 (x217_0.Phase + (w64 (36 * (w64 (x217_0.Frequency - 5000))))))))) [] [], .row (s217_0.map api_Running.ps) (cnt 0 i217_0) (api_Running.ps y7), .upd (s217_0.map api_Running.ps) (Int.toNat (cnt 0 i217_0)) (api_Running.ps y7) (api_Running.ps (⟨y7.State, y7.Since, y7.Frequency, F252 (w64 (x217_0.Phase + (w64 (36 * (w64 (x217_0.Frequency - 5000))))))⟩ : api_Running)) (y9.map api_Running.ps)] [] 0 [0, 1, 2, 3, 4, 5, 6, 7, 8, 9] y9 hC ⟨(row_cnt hx217_0 hl217_0), ⟨e252, (k252 (w64 (x217_0.Phase + (w64 (36 * (w64 (x217_0.Frequency - 5000)))))) _ rfl)⟩, row_get h8, upd_get h8 h10, trivial⟩ ⟨(cnt_lt hi217_0 hl217_0), h6, trivial⟩ (by kernel_rfl) (by kernel_rfl) (Option.some.inj h).symm
        · replace h := condF h6 h
          exact WI_end (bs := [(decide ((cnt 0 i217_0) < (x1.Sources.length : Int)), true), ((x217_0.State == 2), false)]) (φ := fun s' => k217_0b = .next s') (st' := (st217_0 x1 (i217_0 + 1))) (R' := (R217_0 y4 (i217_0 + 1))) mixed lv217 36 [true, false] [.row (x1.Sources.map api_Running.ps) (cnt 0 i217_0) (api_Running.ps x217_0)] [] 0 [0, 1, 2, 3, 4, 5, 6, 7, 8, 9] s217_0 hC ⟨(row_cnt hx217_0 hl217_0), trivial⟩ ⟨(cnt_lt hi217_0 hl217_0), h6, trivial⟩ (by kernel_rfl) (by kernel_rfl) (Option.some.inj h).symm
    · have h := hnext217_0 _ hs217_0
      replace h := Option.some.inj h
      subst h
      exact WI_ret (bs := []) mixed lv217 23 [] [] [] [.cell 4 35, .tmp 5] 0 [5, 6, 7, 8] rfl hC trivial trivial (by kernel_rfl)
theorem e217 : Enters Tryz.prog 217 := Go.SL.enters_of Tryz.func217 (by kernel_rfl) (by kernel_rfl)
def lv167 : List Nat := [0, 1, 2, 3, 4, 7, 10, 11, 12]
def st167_0 (x0 : api_Board) (s167_0 : Int × (List Int)) : St := [(1, .d (.o 0 0)), (2, .d (DS pI [])), (3, .d (.os 1)), (10, .d (I (x0.Consumers.length : Int))), (11, .d (I s167_0.1))]
def R167_0 (x0 : api_Board) (s167_0 : Int × (List Int)) : List Res := [.box 29 [I x0.Buses, DS api_Breaker.ps x0.Breakers, DS api_Source.ps x0.Sources, DS api_Consumer.ps x0.Consumers, I x0.Phase, I x0.Frequency], .sl 3 1 (s167_0.2.map pI)]
def sa167_0  (s167_0 : Int × (List Int)) : St := [(1, .d (.o 0 0)), (2, .d (DS pI [])), (3, .d (.os 1))]
def Ra167_0 (x0 : api_Board) (s167_0 : Int × (List Int)) : List Res := [.box 29 [I x0.Buses, DS api_Breaker.ps x0.Breakers, DS api_Source.ps x0.Sources, DS api_Consumer.ps x0.Consumers, I x0.Phase, I x0.Frequency], .sl 3 1 (s167_0.2.map pI)]
theorem k167 (x0 : api_Board) (r : (List Int)) (h : F167 x0 = some r) : CallOk Tryz.prog 167 [.agg [I x0.Buses, DS api_Breaker.ps x0.Breakers, DS api_Source.ps x0.Sources, DS api_Consumer.ps x0.Consumers, I x0.Phase, I x0.Frequency]] [] (.d (.os 0)) [.sl 3 1 (r.map pI)] := by
  unfold F167 at h
  refine callOk_of 23 Tryz.func167 rfl rfl rfl fun C hC => ?_
  obtain ⟨y1, h2, h⟩ := bindE h
  rcases boolC ((y1 != 0)) with h3 | h3
  · replace h := condT h3 h
    replace h := Option.some.inj h
    subst h
    exact WI_ret (bs := [((y1 != 0), true)]) mixed lv167 29 [true] [.call 92 [.agg [I x0.Buses, DS api_Breaker.ps x0.Breakers, DS api_Source.ps x0.Sources, DS api_Consumer.ps x0.Consumers, I x0.Phase, I x0.Frequency]] [] (.d (I y1)) [] []] [.own 2 3 1] [.tmp 2] 0 [1] rfl hC ⟨⟨e92, (k92 x0 _ h2)⟩, trivial⟩ ⟨h3, trivial⟩ (by kernel_rfl)
  · replace h := condF h3 h
    refine WI_stop (bs := [((y1 != 0), false)]) mixed lv167 33 [false] [.call 92 [.agg [I x0.Buses, DS api_Breaker.ps x0.Breakers, DS api_Source.ps x0.Sources, DS api_Consumer.ps x0.Consumers, I x0.Phase, I x0.Frequency]] [] (.d (I y1)) [] [], .len ((x0.Consumers.map api_Consumer.ps).length : Int) (x0.Consumers.length : Int)] [.own 3 3 1] 0 [0, 1] (st167_0 x0 (0, ([] : List Int))) (R167_0 x0 (0, ([] : List Int))) hC ⟨⟨e92, (k92 x0 _ h2)⟩, len_map _ _, trivial⟩ ⟨h3, trivial⟩ (by kernel_rfl) ?_
    obtain ⟨k167_0, hm167_0, hret167_0, hnext167_0⟩ := andThen_inv h
    clear h
    refine WI_cut (by kernel_rfl) (fun s => k167_0 = .next s) (sa167_0) (Ra167_0 x0) ?_ fun s167_0 hs167_0 => ?_
    · refine WI_blk (by kernel_rfl) ?_
      refine WI_while (by kernel_rfl) (F167_l0 x0) (st167_0 x0) (R167_0 x0) k167_0 1152921504606846976 (0, ([] : List Int)) hm167_0 rfl rfl fun s167_0 k167_0b h hb167_0 hr167_0 => ?_
      unfold F167_l0 at h
      rcases boolC ((c167_1 x0 s167_0)) with h4 | h4
      · replace h := condT h4 h
        obtain ⟨y5, h6, h⟩ := bindE h
        exact WI_end (bs := [((c167_1 x0 s167_0), true)]) (φ := fun s' => k167_0b = .next s') (st' := (st167_0 x0)) (R' := (R167_0 x0)) mixed lv167 33 [true] [.app (s167_0.2.map pI) ([s167_0.1].map pI) 1 (((s167_0.2.map pI).length + ([s167_0.1].map pI).length) * (8 + 1)) (y5.map pI)] [] 0 [0, 2] (w64 (s167_0.1 + 1), y5) hC ⟨app_get pI 1 (fun _ => rfl) h6, trivial⟩ ⟨h4, trivial⟩ (by kernel_rfl) (by kernel_rfl) (Option.some.inj h).symm
      · replace h := condF h4 h
        exact WI_end (bs := [((c167_1 x0 s167_0), false)]) (φ := fun s' => k167_0 = .next s') (st' := (sa167_0)) (R' := (Ra167_0 x0)) mixed lv167 26 [false] [] [] 0 [0, 1] (s167_0.1, s167_0.2) hC trivial ⟨h4, trivial⟩ (by kernel_rfl) (by kernel_rfl) (hb167_0 _ (Option.some.inj h).symm)
    · have h := hnext167_0 _ hs167_0
      obtain ⟨y7, h8, h⟩ := bindE h
      replace h := Option.some.inj h
      subst h
      exact WI_ret (bs := []) mixed lv167 25 [] [.call 230 [.d (.os 0), .d (.fn (.func 231) [] [.o 1 0])] [.sl 3 1 (s167_0.2.map pI), .box 29 [I x0.Buses, DS api_Breaker.ps x0.Breakers, DS api_Source.ps x0.Sources, DS api_Consumer.ps x0.Consumers, I x0.Phase, I x0.Frequency]] (.tup []) [.sl 3 1 (y7.1.map pI), .box 29 [I y7.2.Buses, DS api_Breaker.ps y7.2.Breakers, DS api_Source.ps y7.2.Sources, DS api_Consumer.ps y7.2.Consumers, I y7.2.Phase, I y7.2.Frequency]] [1, 0]] [] [.tmp 2] 0 [1] rfl hC ⟨⟨e230s1, (k230s1 s167_0.2 x0 _ h8)⟩, trivial⟩ trivial (by kernel_rfl)
theorem e167 : Enters Tryz.prog 167 := Go.SL.enters_of Tryz.func167 (by kernel_rfl) (by kernel_rfl)
def lv106s0 : List Nat := [0, 1, 2, 3, 4, 5, 6, 7, 8, 9, 10, 11, 12, 13, 14, 18, 25, 26, 27, 28, 47, 48, 49, 58, 80, 81, 82, 91]
def st106s0_0 (y4 : (List Int)) (i106s0_0 : Nat) (s106s0_0 : (List api_Island)) : St := [(2, .d (.o 4 0)), (3, .d (.o 5 0)), (4, .d (DS api_Island.ps [])), (5, .d (.os 6)), (6, .d (.os 7)), (25, .d (.os 6)), (26, .d (I (y4.length : Int))), (27, .d (I (cnt 0 i106s0_0)))]
def R106s0_0 (x0 : api_Board) (x1 : api_Power) (y4 : (List Int)) (i106s0_0 : Nat) (s106s0_0 : (List api_Island)) : List Res := [.sl 4 1 (x1.Closed.map pB), .sl 59 4 (x1.Sources.map api_Running.ps), .sl 3 1 (x1.Limits.map pI), .sl 119 2 (x1.Broken.map api_Part.ps), .box 29 [I x0.Buses, DS api_Breaker.ps x0.Breakers, DS api_Source.ps x0.Sources, DS api_Consumer.ps x0.Consumers, I x0.Phase, I x0.Frequency], .box 35 [.os 0, .os 1, .os 2, .os 3], .sl 3 1 (y4.map pI), .dsl 78 3 8, .gh 3 [(3, 1), (3, 1), (3, 1)] (s106s0_0.map api_Island.ps) none]
def sa106s0_0  (s106s0_0 : (List api_Island)) : St := [(2, .d (.o 4 0)), (3, .d (.o 5 0)), (4, .d (DS api_Island.ps [])), (5, .d (.os 6)), (6, .d (.os 7))]
def Ra106s0_0 (x0 : api_Board) (x1 : api_Power) (y4 : (List Int)) (s106s0_0 : (List api_Island)) : List Res := [.sl 4 1 (x1.Closed.map pB), .sl 59 4 (x1.Sources.map api_Running.ps), .sl 3 1 (x1.Limits.map pI), .sl 119 2 (x1.Broken.map api_Part.ps), .box 29 [I x0.Buses, DS api_Breaker.ps x0.Breakers, DS api_Source.ps x0.Sources, DS api_Consumer.ps x0.Consumers, I x0.Phase, I x0.Frequency], .box 35 [.os 0, .os 1, .os 2, .os 3], .sl 3 1 (y4.map pI), .dsl 78 3 8, .gh 3 [(3, 1), (3, 1), (3, 1)] (s106s0_0.map api_Island.ps) none]
def st106s0_1 (x0 : api_Board) (s106s0_1 : Int × (List api_Island)) : St := [(2, .d (.o 4 0)), (3, .d (.o 5 0)), (4, .d (DS api_Island.ps [])), (5, .d (.os 6)), (6, .d (.os 7)), (47, .d (I (x0.Sources.length : Int))), (48, .d (I s106s0_1.1))]
def R106s0_1 (x0 : api_Board) (x1 : api_Power) (y4 : (List Int)) (s106s0_1 : Int × (List api_Island)) : List Res := [.sl 4 1 (x1.Closed.map pB), .sl 59 4 (x1.Sources.map api_Running.ps), .sl 3 1 (x1.Limits.map pI), .sl 119 2 (x1.Broken.map api_Part.ps), .box 29 [I x0.Buses, DS api_Breaker.ps x0.Breakers, DS api_Source.ps x0.Sources, DS api_Consumer.ps x0.Consumers, I x0.Phase, I x0.Frequency], .box 35 [.os 0, .os 1, .os 2, .os 3], .sl 3 1 (y4.map pI), .dsl 78 3 8, .gh 3 [(3, 1), (3, 1), (3, 1)] (s106s0_1.2.map api_Island.ps) none]
def sa106s0_1  (s106s0_1 : Int × (List api_Island)) : St := [(2, .d (.o 4 0)), (3, .d (.o 5 0)), (4, .d (DS api_Island.ps [])), (5, .d (.os 6)), (6, .d (.os 7))]
def Ra106s0_1 (x0 : api_Board) (x1 : api_Power) (y4 : (List Int)) (s106s0_1 : Int × (List api_Island)) : List Res := [.sl 4 1 (x1.Closed.map pB), .sl 59 4 (x1.Sources.map api_Running.ps), .sl 3 1 (x1.Limits.map pI), .sl 119 2 (x1.Broken.map api_Part.ps), .box 29 [I x0.Buses, DS api_Breaker.ps x0.Breakers, DS api_Source.ps x0.Sources, DS api_Consumer.ps x0.Consumers, I x0.Phase, I x0.Frequency], .box 35 [.os 0, .os 1, .os 2, .os 3], .sl 3 1 (y4.map pI), .dsl 78 3 8, .gh 3 [(3, 1), (3, 1), (3, 1)] (s106s0_1.2.map api_Island.ps) none]
def st106s0_2 (x0 : api_Board) (s106s0_2 : Int × (List api_Island)) : St := [(2, .d (.o 4 0)), (3, .d (.o 5 0)), (4, .d (DS api_Island.ps [])), (5, .d (.os 6)), (6, .d (.os 7)), (80, .d (I (x0.Consumers.length : Int))), (81, .d (I s106s0_2.1))]
def R106s0_2 (x0 : api_Board) (x1 : api_Power) (y4 : (List Int)) (s106s0_2 : Int × (List api_Island)) : List Res := [.sl 4 1 (x1.Closed.map pB), .sl 59 4 (x1.Sources.map api_Running.ps), .sl 3 1 (x1.Limits.map pI), .sl 119 2 (x1.Broken.map api_Part.ps), .box 29 [I x0.Buses, DS api_Breaker.ps x0.Breakers, DS api_Source.ps x0.Sources, DS api_Consumer.ps x0.Consumers, I x0.Phase, I x0.Frequency], .box 35 [.os 0, .os 1, .os 2, .os 3], .sl 3 1 (y4.map pI), .dsl 78 3 8, .gh 3 [(3, 1), (3, 1), (3, 1)] (s106s0_2.2.map api_Island.ps) none]
def sa106s0_2  (s106s0_2 : Int × (List api_Island)) : St := [(4, .d (DS api_Island.ps [])), (6, .d (.os 4))]
def Ra106s0_2 (x1 : api_Power) (s106s0_2 : Int × (List api_Island)) : List Res := [.sl 4 1 (x1.Closed.map pB), .sl 59 4 (x1.Sources.map api_Running.ps), .sl 3 1 (x1.Limits.map pI), .sl 119 2 (x1.Broken.map api_Part.ps), .dsl 78 3 5, .gh 3 [(3, 1), (3, 1), (3, 1)] (s106s0_2.2.map api_Island.ps) none]
theorem k106s0 (x0 : api_Board) (x1 : api_Power) (r : (List api_Island)) (h : F106s0 x0 x1 = some r) : CallOk Tryz.prog 106 [.agg [I x0.Buses, DS api_Breaker.ps x0.Breakers, DS api_Source.ps x0.Sources, DS api_Consumer.ps x0.Consumers, I x0.Phase, I x0.Frequency], .agg [.os 0, .os 1, .os 2, .os 3]] [.sl 4 1 (x1.Closed.map pB), .sl 59 4 (x1.Sources.map api_Running.ps), .sl 3 1 (x1.Limits.map pI), .sl 119 2 (x1.Broken.map api_Part.ps)] (.d (.os 4)) [.sl 4 1 (x1.Closed.map pB), .sl 59 4 (x1.Sources.map api_Running.ps), .sl 3 1 (x1.Limits.map pI), .sl 119 2 (x1.Broken.map api_Part.ps), .sl 78 3 (r.map api_Island.ps)] := by
  unfold F106s0 at h
  refine callOk_of 113 Tryz.func106 rfl rfl rfl fun C hC => ?_
  obtain ⟨y1, h2, h⟩ := bindE h
  refine WI_stop (bs := []) mixed lv106s0 26 [] [.callB 65 [.agg [I x0.Buses, DS api_Breaker.ps x0.Breakers, DS api_Source.ps x0.Sources, DS api_Consumer.ps x0.Consumers, I x0.Phase, I x0.Frequency], .agg [DS pB x1.Closed, DS api_Running.ps x1.Sources, DS pI x1.Limits, DS api_Part.ps x1.Broken]] (.d (I y1)) [[]] 0 []] [] 4 [0, 1, 2, 3, 4, 5] [(2, .d (.o 4 0)), (3, .d (.o 5 0)), (4, .d (DS api_Island.ps [])), (18, .d (Bo (y1 != 0)))] [.sl 4 1 (x1.Closed.map pB), .sl 59 4 (x1.Sources.map api_Running.ps), .sl 3 1 (x1.Limits.map pI), .sl 119 2 (x1.Broken.map api_Part.ps), .box 29 [I x0.Buses, DS api_Breaker.ps x0.Breakers, DS api_Source.ps x0.Sources, DS api_Consumer.ps x0.Consumers, I x0.Phase, I x0.Frequency], .box 35 [.os 0, .os 1, .os 2, .os 3]] hC ⟨lend0_get ⟨e65, (k65 x0 x1 _ h2)⟩, trivial⟩ trivial (by kernel_rfl) ?_
  rcases boolC ((y1 != 0)) with h3 | h3
  · replace h := condT h3 h
    replace h := Option.some.inj h
    subst h
    exact WI_ret (bs := [((y1 != 0), true)]) mixed lv106s0 24 [true] [] [.own 4 78 3] [.tmp 4] 4 [0, 1, 2, 3, 6] rfl hC trivial ⟨h3, trivial⟩ (by kernel_rfl)
  · replace h := condF h3 h
    obtain ⟨y4, h5, h⟩ := bindE h
    obtain ⟨y6, h7, h⟩ := bindE h
    refine WI_stop (bs := [((y1 != 0), false)]) mixed lv106s0 30 [false] [.call 186 [.agg [I x0.Buses, DS api_Breaker.ps x0.Breakers, DS api_Source.ps x0.Sources, DS api_Consumer.ps x0.Consumers, I x0.Phase, I x0.Frequency], .agg [.os 0, .os 1, .os 2, .os 3]] [.sl 4 1 (x1.Closed.map pB), .sl 59 4 (x1.Sources.map api_Running.ps), .sl 3 1 (x1.Limits.map pI), .sl 119 2 (x1.Broken.map api_Part.ps)] (.d (.os 4)) [.sl 4 1 (x1.Closed.map pB), .sl 59 4 (x1.Sources.map api_Running.ps), .sl 3 1 (x1.Limits.map pI), .sl 119 2 (x1.Broken.map api_Part.ps), .sl 3 1 (y4.map pI)] [0, 1, 2, 3], .roomZ (x0.Buses * (72 + 1)) (List.replicate (Int.toNat x0.Buses) (api_Island.ps (⟨([] : List Int), ([] : List Int), ([] : List Int)⟩ : api_Island))) (y6.map api_Island.ps), .len ((y4.map pI).length : Int) (y4.length : Int)] [.deep 7 [(3, 1), (3, 1), (3, 1)]] 4 [0, 1, 2, 3, 4, 5, 6, 7, 8] (st106s0_0 y4 0 y6) (R106s0_0 x0 x1 y4 0 y6) hC ⟨⟨e186, ((k186 x0 x1 _ h5).lend (by kernel_rfl) (by kernel_rfl) (by kernel_rfl) ⟨flat_sl (fun _ => rfl), trivial⟩ (by kernel_rfl) (by kernel_rfl))⟩, makez_get h7, len_map _ _, trivial⟩ ⟨h3, trivial⟩ (by kernel_rfl) ?_
    obtain ⟨k106s0_0, hm106s0_0, hret106s0_0, hnext106s0_0⟩ := andThen_inv h
    clear h
    refine WI_cut (by kernel_rfl) (fun s => k106s0_0 = .next s) (sa106s0_0) (Ra106s0_0 x0 x1 y4) ?_ fun s106s0_0 hs106s0_0 => ?_
    · refine WI_blk (by kernel_rfl) ?_
      refine WI_lenO 25 6 rfl rfl fun hl106s0_0 => ?_
      refine WI_foldI (by kernel_rfl) F106s0_l0 (st106s0_0 y4) (R106s0_0 x0 x1 y4) k106s0_0 y4 y6 hm106s0_0 rfl rfl (fun s106s0_0 hn106s0_0 => ?_) fun i106s0_0 x106s0_0 s106s0_0 k106s0_0b hi106s0_0 hx106s0_0 h hb106s0_0 hr106s0_0 => ?_
      · clear hm106s0_0
        exact WI_end (bs := [(decide ((cnt 0 y4.length) < (y4.length : Int)), false)]) (φ := fun s' => k106s0_0 = .next s') (st' := (sa106s0_0)) (R' := (Ra106s0_0 x0 x1 y4)) mixed lv106s0 26 [false] [] [] 4 [0, 1, 2, 3, 4, 5, 6, 7, 8] s106s0_0 hC trivial ⟨(cnt_end hl106s0_0), trivial⟩ (by kernel_rfl) (by kernel_rfl) hn106s0_0
      · unfold F106s0_l0 at h
        obtain ⟨y8, h9, h⟩ := bindE h
        obtain ⟨y10, h11, h⟩ := bindE h
        obtain ⟨y12, h13, h⟩ := bindE h
        exact WI_end (bs := [(decide ((cnt 0 i106s0_0) < (y4.length : Int)), true)]) (φ := fun s' => k106s0_0b = .next s') (st' := (st106s0_0 y4 (i106s0_0 + 1))) (R' := (R106s0_0 x0 x1 y4 (i106s0_0 + 1))) mixed lv106s0 33 [true] [.row (y4.map pI) (cnt 0 i106s0_0) (pI x106s0_0), .row (y4.map pI) (((Int.toNat (cnt 0 i106s0_0)) : Nat) : Int) (pI x106s0_0), .row (s106s0_0.map api_Island.ps) x106s0_0 (api_Island.ps y8), .row (s106s0_0.map api_Island.ps) (((Int.toNat x106s0_0) : Nat) : Int) (api_Island.ps y8), .appD (s106s0_0.map api_Island.ps) (Int.toNat x106s0_0) (api_Island.ps y8) 0 (y8.Buses.map pI) ([cnt 0 i106s0_0].map pI) 1 (((y8.Buses.map pI).length + ([cnt 0 i106s0_0].map pI).length) * (8 + 1)) (y10.map pI), .row (s106s0_0.map api_Island.ps) x106s0_0 (api_Island.ps y8), .updD (s106s0_0.map api_Island.ps) (Int.toNat x106s0_0) (Int.toNat x106s0_0) (api_Island.ps y8) (api_Island.ps (⟨y10, y8.Sources, y8.Consumers⟩ : api_Island)) (y12.map api_Island.ps)] [] 4 [0, 1, 2, 3, 4, 5, 6, 7, 12] y12 hC ⟨row_get (get_cnt hx106s0_0 hl106s0_0), row_getN (get_cnt hx106s0_0 hl106s0_0), row_get h9, row_getN h9, appD_get 1 (fun _ => rfl) h9 rfl h11, row_get h9, updD_get h9 h13, trivial⟩ ⟨(cnt_lt hi106s0_0 hl106s0_0), trivial⟩ (by kernel_rfl) (by kernel_rfl) (Option.some.inj h).symm
    · have h := hnext106s0_0 _ hs106s0_0
      refine WI_stop (bs := []) mixed lv106s0 24 [] [.len ((x0.Sources.map api_Source.ps).length : Int) (x0.Sources.length : Int)] [] 4 [0, 1, 2, 3, 4, 5, 6, 7, 8] (st106s0_1 x0 (0, s106s0_0)) (R106s0_1 x0 x1 y4 (0, s106s0_0)) hC ⟨len_map _ _, trivial⟩ trivial (by kernel_rfl) ?_
      obtain ⟨k106s0_1, hm106s0_1, hret106s0_1, hnext106s0_1⟩ := andThen_inv h
      clear h
      refine WI_cut (by kernel_rfl) (fun s => k106s0_1 = .next s) (sa106s0_1) (Ra106s0_1 x0 x1 y4) ?_ fun s106s0_1 hs106s0_1 => ?_
      · refine WI_blk (by kernel_rfl) ?_
        refine WI_while (by kernel_rfl) (F106s0_l1 x0 x1 y4) (st106s0_1 x0) (R106s0_1 x0 x1 y4) k106s0_1 1152921504606846976 (0, s106s0_0) hm106s0_1 rfl rfl fun s106s0_1 k106s0_1b h hb106s0_1 hr106s0_1 => ?_
        unfold F106s0_l1 at h
        rcases boolC ((c106s0_1 x0 s106s0_1)) with h14 | h14
        · replace h := condT h14 h
          obtain ⟨y15, h16, h⟩ := bindE h
          refine WI_stop (bs := [((c106s0_1 x0 s106s0_1), true)]) mixed lv106s0 34 [true] [.callB 187 [.agg [I x0.Buses, DS api_Breaker.ps x0.Breakers, DS api_Source.ps x0.Sources, DS api_Consumer.ps x0.Consumers, I x0.Phase, I x0.Frequency], .agg [DS pB x1.Closed, DS api_Running.ps x1.Sources, DS pI x1.Limits, DS api_Part.ps x1.Broken], .d (I s106s0_1.1)] (.tup [.d (I y15.1), .d (Bo y15.2)]) [[]] 0 []] [] 4 [0, 1, 2, 3, 4, 5, 6, 7, 8] [(2, .d (.o 4 0)), (3, .d (.o 5 0)), (4, .d (DS api_Island.ps [])), (5, .d (.os 6)), (6, .d (.os 7)), (9, .d (I s106s0_1.1)), (10, .d (I y15.1)), (47, .d (I (x0.Sources.length : Int))), (48, .d (I s106s0_1.1)), (58, .d (Bo y15.2))] [.sl 4 1 (x1.Closed.map pB), .sl 59 4 (x1.Sources.map api_Running.ps), .sl 3 1 (x1.Limits.map pI), .sl 119 2 (x1.Broken.map api_Part.ps), .box 29 [I x0.Buses, DS api_Breaker.ps x0.Breakers, DS api_Source.ps x0.Sources, DS api_Consumer.ps x0.Consumers, I x0.Phase, I x0.Frequency], .box 35 [.os 0, .os 1, .os 2, .os 3], .sl 3 1 (y4.map pI), .dsl 78 3 8, .gh 3 [(3, 1), (3, 1), (3, 1)] (s106s0_1.2.map api_Island.ps) none] hC ⟨lend0_get ⟨e187, (k187 x0 x1 s106s0_1.1 _ h16)⟩, trivial⟩ ⟨h14, trivial⟩ (by kernel_rfl) ?_
          rcases boolC (y15.2) with h17 | h17
          · replace h := condT h17 h
            obtain ⟨y18, h19, h⟩ := bindE h
            obtain ⟨y20, h21, h⟩ := bindE h
            obtain ⟨y22, h23, h⟩ := bindE h
            obtain ⟨y24, h25, h⟩ := bindE h
            exact WI_end (bs := [(y15.2, true)]) (φ := fun s' => k106s0_1b = .next s') (st' := (st106s0_1 x0)) (R' := (R106s0_1 x0 x1 y4)) mixed lv106s0 25 [true] [.row (y4.map pI) y15.1 (pI y18), .row (y4.map pI) (((Int.toNat y15.1) : Nat) : Int) (pI y18), .row (y4.map pI) y15.1 (pI y18), .row (y4.map pI) (((Int.toNat y15.1) : Nat) : Int) (pI y18), .row (s106s0_1.2.map api_Island.ps) y18 (api_Island.ps y20), .row (s106s0_1.2.map api_Island.ps) (((Int.toNat y18) : Nat) : Int) (api_Island.ps y20), .appD (s106s0_1.2.map api_Island.ps) (Int.toNat y18) (api_Island.ps y20) 1 (y20.Sources.map pI) ([s106s0_1.1].map pI) 1 (((y20.Sources.map pI).length + ([s106s0_1.1].map pI).length) * (8 + 1)) (y22.map pI), .row (s106s0_1.2.map api_Island.ps) y18 (api_Island.ps y20), .updD (s106s0_1.2.map api_Island.ps) (Int.toNat y18) (Int.toNat y18) (api_Island.ps y20) (api_Island.ps (⟨y20.Buses, y22, y20.Consumers⟩ : api_Island)) (y24.map api_Island.ps)] [] 4 [0, 1, 2, 3, 4, 5, 6, 7, 12] (w64 (s106s0_1.1 + 1), y24) hC ⟨row_get h19, row_getN h19, row_get h19, row_getN h19, row_get h21, row_getN h21, appD_get 1 (fun _ => rfl) h21 rfl h23, row_get h21, updD_get h21 h25, trivial⟩ ⟨h17, trivial⟩ (by kernel_rfl) (by kernel_rfl) (Option.some.inj h).symm
          · replace h := condF h17 h
            exact WI_end (bs := [(y15.2, false)]) (φ := fun s' => k106s0_1b = .next s') (st' := (st106s0_1 x0)) (R' := (R106s0_1 x0 x1 y4)) mixed lv106s0 25 [false] [] [] 4 [0, 1, 2, 3, 4, 5, 6, 7, 8] (w64 (s106s0_1.1 + 1), s106s0_1.2) hC trivial ⟨h17, trivial⟩ (by kernel_rfl) (by kernel_rfl) (Option.some.inj h).symm
        · replace h := condF h14 h
          exact WI_end (bs := [((c106s0_1 x0 s106s0_1), false)]) (φ := fun s' => k106s0_1 = .next s') (st' := (sa106s0_1)) (R' := (Ra106s0_1 x0 x1 y4)) mixed lv106s0 26 [false] [] [] 4 [0, 1, 2, 3, 4, 5, 6, 7, 8] (s106s0_1.1, s106s0_1.2) hC trivial ⟨h14, trivial⟩ (by kernel_rfl) (by kernel_rfl) (hb106s0_1 _ (Option.some.inj h).symm)
      · have h := hnext106s0_1 _ hs106s0_1
        refine WI_stop (bs := []) mixed lv106s0 24 [] [.len ((x0.Consumers.map api_Consumer.ps).length : Int) (x0.Consumers.length : Int)] [] 4 [0, 1, 2, 3, 4, 5, 6, 7, 8] (st106s0_2 x0 (0, s106s0_1.2)) (R106s0_2 x0 x1 y4 (0, s106s0_1.2)) hC ⟨len_map _ _, trivial⟩ trivial (by kernel_rfl) ?_
        obtain ⟨k106s0_2, hm106s0_2, hret106s0_2, hnext106s0_2⟩ := andThen_inv h
        clear h
        refine WI_cut (by kernel_rfl) (fun s => k106s0_2 = .next s) (sa106s0_2) (Ra106s0_2 x1) ?_ fun s106s0_2 hs106s0_2 => ?_
        · refine WI_blk (by kernel_rfl) ?_
          refine WI_while (by kernel_rfl) (F106s0_l2 x0 x1 y4) (st106s0_2 x0) (R106s0_2 x0 x1 y4) k106s0_2 1152921504606846976 (0, s106s0_1.2) hm106s0_2 rfl rfl fun s106s0_2 k106s0_2b h hb106s0_2 hr106s0_2 => ?_
          unfold F106s0_l2 at h
          rcases boolC ((c106s0_3 x0 s106s0_2)) with h26 | h26
          · replace h := condT h26 h
            obtain ⟨y27, h28, h⟩ := bindE h
            refine WI_stop (bs := [((c106s0_3 x0 s106s0_2), true)]) mixed lv106s0 34 [true] [.callB 188 [.agg [I x0.Buses, DS api_Breaker.ps x0.Breakers, DS api_Source.ps x0.Sources, DS api_Consumer.ps x0.Consumers, I x0.Phase, I x0.Frequency], .agg [DS pB x1.Closed, DS api_Running.ps x1.Sources, DS pI x1.Limits, DS api_Part.ps x1.Broken], .d (I s106s0_2.1)] (.tup [.d (I y27.1), .d (Bo y27.2)]) [[]] 0 []] [] 4 [0, 1, 2, 3, 4, 5, 6, 7, 8] [(2, .d (.o 4 0)), (3, .d (.o 5 0)), (4, .d (DS api_Island.ps [])), (5, .d (.os 6)), (6, .d (.os 7)), (12, .d (I s106s0_2.1)), (13, .d (I y27.1)), (80, .d (I (x0.Consumers.length : Int))), (81, .d (I s106s0_2.1)), (91, .d (Bo y27.2))] [.sl 4 1 (x1.Closed.map pB), .sl 59 4 (x1.Sources.map api_Running.ps), .sl 3 1 (x1.Limits.map pI), .sl 119 2 (x1.Broken.map api_Part.ps), .box 29 [I x0.Buses, DS api_Breaker.ps x0.Breakers, DS api_Source.ps x0.Sources, DS api_Consumer.ps x0.Consumers, I x0.Phase, I x0.Frequency], .box 35 [.os 0, .os 1, .os 2, .os 3], .sl 3 1 (y4.map pI), .dsl 78 3 8, .gh 3 [(3, 1), (3, 1), (3, 1)] (s106s0_2.2.map api_Island.ps) none] hC ⟨lend0_get ⟨e188, (k188 x0 x1 s106s0_2.1 _ h28)⟩, trivial⟩ ⟨h26, trivial⟩ (by kernel_rfl) ?_
            rcases boolC (y27.2) with h29 | h29
            · replace h := condT h29 h
              obtain ⟨y30, h31, h⟩ := bindE h
              obtain ⟨y32, h33, h⟩ := bindE h
              obtain ⟨y34, h35, h⟩ := bindE h
              obtain ⟨y36, h37, h⟩ := bindE h
              exact WI_end (bs := [(y27.2, true)]) (φ := fun s' => k106s0_2b = .next s') (st' := (st106s0_2 x0)) (R' := (R106s0_2 x0 x1 y4)) mixed lv106s0 25 [true] [.row (y4.map pI) y27.1 (pI y30), .row (y4.map pI) (((Int.toNat y27.1) : Nat) : Int) (pI y30), .row (y4.map pI) y27.1 (pI y30), .row (y4.map pI) (((Int.toNat y27.1) : Nat) : Int) (pI y30), .row (s106s0_2.2.map api_Island.ps) y30 (api_Island.ps y32), .row (s106s0_2.2.map api_Island.ps) (((Int.toNat y30) : Nat) : Int) (api_Island.ps y32), .appD (s106s0_2.2.map api_Island.ps) (Int.toNat y30) (api_Island.ps y32) 2 (y32.Consumers.map pI) ([s106s0_2.1].map pI) 1 (((y32.Consumers.map pI).length + ([s106s0_2.1].map pI).length) * (8 + 1)) (y34.map pI), .row (s106s0_2.2.map api_Island.ps) y30 (api_Island.ps y32), .updD (s106s0_2.2.map api_Island.ps) (Int.toNat y30) (Int.toNat y30) (api_Island.ps y32) (api_Island.ps (⟨y32.Buses, y32.Sources, y34⟩ : api_Island)) (y36.map api_Island.ps)] [] 4 [0, 1, 2, 3, 4, 5, 6, 7, 12] (w64 (s106s0_2.1 + 1), y36) hC ⟨row_get h31, row_getN h31, row_get h31, row_getN h31, row_get h33, row_getN h33, appD_get 1 (fun _ => rfl) h33 rfl h35, row_get h33, updD_get h33 h37, trivial⟩ ⟨h29, trivial⟩ (by kernel_rfl) (by kernel_rfl) (Option.some.inj h).symm
            · replace h := condF h29 h
              exact WI_end (bs := [(y27.2, false)]) (φ := fun s' => k106s0_2b = .next s') (st' := (st106s0_2 x0)) (R' := (R106s0_2 x0 x1 y4)) mixed lv106s0 25 [false] [] [] 4 [0, 1, 2, 3, 4, 5, 6, 7, 8] (w64 (s106s0_2.1 + 1), s106s0_2.2) hC trivial ⟨h29, trivial⟩ (by kernel_rfl) (by kernel_rfl) (Option.some.inj h).symm
          · replace h := condF h26 h
            exact WI_end (bs := [((c106s0_3 x0 s106s0_2), false)]) (φ := fun s' => k106s0_2 = .next s') (st' := (sa106s0_2)) (R' := (Ra106s0_2 x1)) mixed lv106s0 26 [false] [] [] 4 [0, 1, 2, 3, 7, 8] (s106s0_2.1, s106s0_2.2) hC trivial ⟨h26, trivial⟩ (by kernel_rfl) (by kernel_rfl) (hb106s0_2 _ (Option.some.inj h).symm)
        · have h := hnext106s0_2 _ hs106s0_2
          refine WI_stop (bs := []) mixed lv106s0 1 [] [] [.flat 4] 4 [0, 1, 2, 3, 4] [(4, .d (DS api_Island.ps [])), (6, .d (.os 4))] [.sl 4 1 (x1.Closed.map pB), .sl 59 4 (x1.Sources.map api_Running.ps), .sl 3 1 (x1.Limits.map pI), .sl 119 2 (x1.Broken.map api_Part.ps), .sl 78 3 (s106s0_2.2.map api_Island.ps)] hC trivial trivial (by kernel_rfl) ?_
          obtain ⟨y38, h39, h⟩ := bindE h
          replace h := Option.some.inj h
          subst h
          exact WI_ret (bs := []) mixed lv106s0 22 [] [.call 189 [.d (.os 0), .d (.fn (.func 190) [] [])] [.sl 78 3 (s106s0_2.2.map api_Island.ps)] (.d (.os 1)) [.non, .sl 78 3 (y38.map api_Island.ps)] [4]] [] [.tmp 4] 4 [0, 1, 2, 3, 5] rfl hC ⟨⟨e189s1, (k189s1 s106s0_2.2 _ h39)⟩, trivial⟩ trivial (by kernel_rfl)
theorem e106s0 : Enters Tryz.prog 106 := Go.SL.enters_of Tryz.func106 (by kernel_rfl) (by kernel_rfl)
def lv18 : List Nat := [0, 1, 2, 3, 4, 5, 6, 7, 8, 9, 13, 19, 20, 21, 26, 39, 40, 41, 43, 44, 45, 46, 58]
def st18_0 (x0 : api_Board) (s18_0 : Int × (List Bool)) : St := [(2, .d (.o 0 0)), (3, .d (.o 1 0)), (4, .d (DS pB [])), (5, .d (.os 2)), (19, .d (I (x0.Sources.length : Int))), (20, .d (I s18_0.1))]
def R18_0 (x0 : api_Board) (x1 : api_Power) (s18_0 : Int × (List Bool)) : List Res := [.box 29 [I x0.Buses, DS api_Breaker.ps x0.Breakers, DS api_Source.ps x0.Sources, DS api_Consumer.ps x0.Consumers, I x0.Phase, I x0.Frequency], .box 35 [DS pB x1.Closed, DS api_Running.ps x1.Sources, DS pI x1.Limits, DS api_Part.ps x1.Broken], .sl 4 1 (s18_0.2.map pB)]
def sa18_0  (s18_0 : Int × (List Bool)) : St := [(2, .d (.o 0 0)), (3, .d (.o 1 0)), (4, .d (DS pB [])), (5, .d (.os 2))]
def Ra18_0 (x0 : api_Board) (x1 : api_Power) (s18_0 : Int × (List Bool)) : List Res := [.box 29 [I x0.Buses, DS api_Breaker.ps x0.Breakers, DS api_Source.ps x0.Sources, DS api_Consumer.ps x0.Consumers, I x0.Phase, I x0.Frequency], .box 35 [DS pB x1.Closed, DS api_Running.ps x1.Sources, DS pI x1.Limits, DS api_Part.ps x1.Broken], .sl 4 1 (s18_0.2.map pB)]
def st18_1 (x0 : api_Board) (s18_1 : Int × (List Bool)) : St := [(2, .d (.o 0 0)), (3, .d (.o 1 0)), (4, .d (DS pB [])), (5, .d (.os 2)), (39, .d (I x0.Buses)), (40, .d (I s18_1.1))]
def R18_1 (x0 : api_Board) (x1 : api_Power) (s18_1 : Int × (List Bool)) : List Res := [.box 29 [I x0.Buses, DS api_Breaker.ps x0.Breakers, DS api_Source.ps x0.Sources, DS api_Consumer.ps x0.Consumers, I x0.Phase, I x0.Frequency], .box 35 [DS pB x1.Closed, DS api_Running.ps x1.Sources, DS pI x1.Limits, DS api_Part.ps x1.Broken], .sl 4 1 (s18_1.2.map pB)]
def sa18_1  (s18_1 : Int × (List Bool)) : St := [(4, .d (DS pB [])), (5, .d (.os 0))]
def Ra18_1  (s18_1 : Int × (List Bool)) : List Res := [.sl 4 1 (s18_1.2.map pB)]
def st18_2 (x0 : api_Board) (s18_1 : Int × (List Bool)) (i18_2 : Nat) (s18_2 : (List Bool)) : St := [(2, .d (.o 0 0)), (3, .d (.o 1 0)), (4, .d (DS pB [])), (5, .d (.os 2)), (39, .d (I x0.Buses)), (40, .d (I s18_1.1)), (43, .d (DS api_Breaker.ps x0.Breakers)), (44, .d (I (x0.Breakers.length : Int))), (45, .d (I (cnt 0 i18_2)))]
def R18_2 (x0 : api_Board) (x1 : api_Power) (i18_2 : Nat) (s18_2 : (List Bool)) : List Res := [.box 29 [I x0.Buses, DS api_Breaker.ps x0.Breakers, DS api_Source.ps x0.Sources, DS api_Consumer.ps x0.Consumers, I x0.Phase, I x0.Frequency], .box 35 [DS pB x1.Closed, DS api_Running.ps x1.Sources, DS pI x1.Limits, DS api_Part.ps x1.Broken], .sl 4 1 (s18_2.map pB)]
def sa18_2 (x0 : api_Board) (s18_1 : Int × (List Bool)) (s18_2 : (List Bool)) : St := [(2, .d (.o 0 0)), (3, .d (.o 1 0)), (4, .d (DS pB [])), (5, .d (.os 2)), (39, .d (I x0.Buses)), (40, .d (I s18_1.1))]
def Ra18_2 (x0 : api_Board) (x1 : api_Power) (s18_2 : (List Bool)) : List Res := [.box 29 [I x0.Buses, DS api_Breaker.ps x0.Breakers, DS api_Source.ps x0.Sources, DS api_Consumer.ps x0.Consumers, I x0.Phase, I x0.Frequency], .box 35 [DS pB x1.Closed, DS api_Running.ps x1.Sources, DS pI x1.Limits, DS api_Part.ps x1.Broken], .sl 4 1 (s18_2.map pB)]
theorem k18 (x0 : api_Board) (x1 : api_Power) (r : (List Bool)) (h : F18 x0 x1 = some r) : CallOk Tryz.prog 18 [.agg [I x0.Buses, DS api_Breaker.ps x0.Breakers, DS api_Source.ps x0.Sources, DS api_Consumer.ps x0.Consumers, I x0.Phase, I x0.Frequency], .agg [DS pB x1.Closed, DS api_Running.ps x1.Sources, DS pI x1.Limits, DS api_Part.ps x1.Broken]] [] (.d (.os 0)) [.sl 4 1 (r.map pB)] := by
  unfold F18 at h
  refine callOk_of 84 Tryz.func18 rfl rfl rfl fun C hC => ?_
  obtain ⟨y1, h2, h⟩ := bindE h
  refine WI_stop (bs := []) mixed lv18 26 [] [.call 65 [.agg [I x0.Buses, DS api_Breaker.ps x0.Breakers, DS api_Source.ps x0.Sources, DS api_Consumer.ps x0.Consumers, I x0.Phase, I x0.Frequency], .agg [DS pB x1.Closed, DS api_Running.ps x1.Sources, DS pI x1.Limits, DS api_Part.ps x1.Broken]] [] (.d (I y1)) [] []] [] 0 [0, 1] [(2, .d (.o 0 0)), (3, .d (.o 1 0)), (4, .d (DS pB [])), (13, .d (Bo (y1 != 0)))] [.box 29 [I x0.Buses, DS api_Breaker.ps x0.Breakers, DS api_Source.ps x0.Sources, DS api_Consumer.ps x0.Consumers, I x0.Phase, I x0.Frequency], .box 35 [DS pB x1.Closed, DS api_Running.ps x1.Sources, DS pI x1.Limits, DS api_Part.ps x1.Broken]] hC ⟨⟨e65, (k65 x0 x1 _ h2)⟩, trivial⟩ trivial (by kernel_rfl) ?_
  rcases boolC ((y1 != 0)) with h3 | h3
  · replace h := condT h3 h
    replace h := Option.some.inj h
    subst h
    exact WI_ret (bs := [((y1 != 0), true)]) mixed lv18 24 [true] [] [.own 4 4 1] [.tmp 4] 0 [2] rfl hC trivial ⟨h3, trivial⟩ (by kernel_rfl)
  · replace h := condF h3 h
    obtain ⟨y4, h5, h⟩ := bindE h
    refine WI_stop (bs := [((y1 != 0), false)]) mixed lv18 28 [false] [.room (x0.Buses * (1 + 1)) (List.replicate (Int.toNat x0.Buses) (pB false)) (y4.map pB), .len ((x0.Sources.map api_Source.ps).length : Int) (x0.Sources.length : Int)] [] 0 [0, 1, 2] (st18_0 x0 (0, y4)) (R18_0 x0 x1 (0, y4)) hC ⟨make_get h5, len_map _ _, trivial⟩ ⟨h3, trivial⟩ (by kernel_rfl) ?_
    obtain ⟨k18_0, hm18_0, hret18_0, hnext18_0⟩ := andThen_inv h
    clear h
    refine WI_cut (by kernel_rfl) (fun s => k18_0 = .next s) (sa18_0) (Ra18_0 x0 x1) ?_ fun s18_0 hs18_0 => ?_
    · refine WI_blk (by kernel_rfl) ?_
      refine WI_while (by kernel_rfl) (F18_l0 x0 x1) (st18_0 x0) (R18_0 x0 x1) k18_0 1152921504606846976 (0, y4) hm18_0 rfl rfl fun s18_0 k18_0b h hb18_0 hr18_0 => ?_
      unfold F18_l0 at h
      rcases boolC ((c18_1 x0 s18_0)) with h6 | h6
      · replace h := condT h6 h
        obtain ⟨y7, h8, h⟩ := bindE h
        refine WI_stop (bs := [((c18_1 x0 s18_0), true)]) mixed lv18 32 [true] [.call 66 [.agg [I x0.Buses, DS api_Breaker.ps x0.Breakers, DS api_Source.ps x0.Sources, DS api_Consumer.ps x0.Consumers, I x0.Phase, I x0.Frequency], .agg [DS pB x1.Closed, DS api_Running.ps x1.Sources, DS pI x1.Limits, DS api_Part.ps x1.Broken], .d (I s18_0.1)] [] (.d (Bo y7)) [] []] [] 0 [0, 1, 2] [(2, .d (.o 0 0)), (3, .d (.o 1 0)), (4, .d (DS pB [])), (5, .d (.os 2)), (6, .d (I s18_0.1)), (19, .d (I (x0.Sources.length : Int))), (20, .d (I s18_0.1)), (26, .d (Bo y7))] [.box 29 [I x0.Buses, DS api_Breaker.ps x0.Breakers, DS api_Source.ps x0.Sources, DS api_Consumer.ps x0.Consumers, I x0.Phase, I x0.Frequency], .box 35 [DS pB x1.Closed, DS api_Running.ps x1.Sources, DS pI x1.Limits, DS api_Part.ps x1.Broken], .sl 4 1 (s18_0.2.map pB)] hC ⟨⟨e66, (k66 x0 x1 s18_0.1 _ h8)⟩, trivial⟩ ⟨h6, trivial⟩ (by kernel_rfl) ?_
        rcases boolC (y7) with h9 | h9
        · replace h := condT h9 h
          obtain ⟨y10, h11, h⟩ := bindE h
          obtain ⟨y12, h13, h⟩ := bindE h
          obtain ⟨y14, h15, h⟩ := bindE h
          obtain ⟨y16, h17, h⟩ := bindE h
          exact WI_end (bs := [(y7, true)]) (φ := fun s' => k18_0b = .next s') (st' := (st18_0 x0)) (R' := (R18_0 x0 x1)) mixed lv18 25 [true] [.call 67 [.agg [I x0.Buses, DS api_Breaker.ps x0.Breakers, DS api_Source.ps x0.Sources, DS api_Consumer.ps x0.Consumers, I x0.Phase, I x0.Frequency], .d (I s18_0.1)] [] (.d (I y10)) [] [], .row (x0.Breakers.map api_Breaker.ps) y10 (api_Breaker.ps y12), .row (s18_0.2.map pB) y12.A (pB y14), .upd (s18_0.2.map pB) (Int.toNat y12.A) (pB y14) (pB true) (y16.map pB)] [] 0 [0, 1, 2] (w64 (s18_0.1 + 1), y16) hC ⟨⟨e67, (k67 x0 s18_0.1 _ h11)⟩, row_get h13, row_get h15, upd_get h15 h17, trivial⟩ ⟨h9, trivial⟩ (by kernel_rfl) (by kernel_rfl) (Option.some.inj h).symm
        · replace h := condF h9 h
          exact WI_end (bs := [(y7, false)]) (φ := fun s' => k18_0b = .next s') (st' := (st18_0 x0)) (R' := (R18_0 x0 x1)) mixed lv18 25 [false] [] [] 0 [0, 1, 2] (w64 (s18_0.1 + 1), s18_0.2) hC trivial ⟨h9, trivial⟩ (by kernel_rfl) (by kernel_rfl) (Option.some.inj h).symm
      · replace h := condF h6 h
        exact WI_end (bs := [((c18_1 x0 s18_0), false)]) (φ := fun s' => k18_0 = .next s') (st' := (sa18_0)) (R' := (Ra18_0 x0 x1)) mixed lv18 26 [false] [] [] 0 [0, 1, 2] (s18_0.1, s18_0.2) hC trivial ⟨h6, trivial⟩ (by kernel_rfl) (by kernel_rfl) (hb18_0 _ (Option.some.inj h).symm)
    · have h := hnext18_0 _ hs18_0
      refine WI_stop (bs := []) mixed lv18 24 [] [] [] 0 [0, 1, 2] (st18_1 x0 (0, s18_0.2)) (R18_1 x0 x1 (0, s18_0.2)) hC trivial trivial (by kernel_rfl) ?_
      obtain ⟨k18_1, hm18_1, hret18_1, hnext18_1⟩ := andThen_inv h
      clear h
      refine WI_cut (by kernel_rfl) (fun s => k18_1 = .next s) (sa18_1) (Ra18_1) ?_ fun s18_1 hs18_1 => ?_
      · refine WI_blk (by kernel_rfl) ?_
        refine WI_while (by kernel_rfl) (F18_l1 x0 x1) (st18_1 x0) (R18_1 x0 x1) k18_1 1152921504606846976 (0, s18_0.2) hm18_1 rfl rfl fun s18_1 k18_1b h hb18_1 hr18_1 => ?_
        unfold F18_l1 at h
        rcases boolC (decide (s18_1.1 < x0.Buses)) with h18 | h18
        · replace h := condT h18 h
          refine WI_stop (bs := [(decide (s18_1.1 < x0.Buses), true)]) mixed lv18 30 [true] [.len ((x0.Breakers.map api_Breaker.ps).length : Int) (x0.Breakers.length : Int)] [] 0 [0, 1, 2] (st18_2 x0 s18_1 0 s18_1.2) (R18_2 x0 x1 0 s18_1.2) hC ⟨len_map _ _, trivial⟩ ⟨h18, trivial⟩ (by kernel_rfl) ?_
          obtain ⟨k18_2, hm18_2, hret18_2, hnext18_2⟩ := andThen_inv h
          clear h
          refine WI_cut (by kernel_rfl) (fun s => k18_2 = .next s) (sa18_2 x0 s18_1) (Ra18_2 x0 x1) ?_ fun s18_2 hs18_2 => ?_
          · refine WI_blk (by kernel_rfl) ?_
            refine WI_len 43 rfl fun hl18_2 => ?_
            refine WI_foldI (by kernel_rfl) (F18_l2 x0 x1) (st18_2 x0 s18_1) (R18_2 x0 x1) k18_2 x0.Breakers s18_1.2 hm18_2 rfl rfl (fun s18_2 hn18_2 => ?_) fun i18_2 x18_2 s18_2 k18_2b hi18_2 hx18_2 h hb18_2 hr18_2 => ?_
            · clear hm18_2
              exact WI_end (bs := [(decide ((cnt 0 x0.Breakers.length) < (x0.Breakers.length : Int)), false)]) (φ := fun s' => k18_2 = .next s') (st' := (sa18_2 x0 s18_1)) (R' := (Ra18_2 x0 x1)) mixed lv18 26 [false] [] [] 0 [0, 1, 2] s18_2 hC trivial ⟨(cnt_end hl18_2), trivial⟩ (by kernel_rfl) (by kernel_rfl) hn18_2
            · unfold F18_l2 at h
              obtain ⟨y19, h20, h⟩ := bindE h
              refine WI_stop (bs := [(decide ((cnt 0 i18_2) < (x0.Breakers.length : Int)), true)]) mixed lv18 32 [true] [.row (x0.Breakers.map api_Breaker.ps) (cnt 0 i18_2) (api_Breaker.ps x18_2), .when [((x18_2.Kind == 1), true)] (.call 68 [.agg [I x0.Buses, DS api_Breaker.ps x0.Breakers, DS api_Source.ps x0.Sources, DS api_Consumer.ps x0.Consumers, I x0.Phase, I x0.Frequency], .agg [DS pB x1.Closed, DS api_Running.ps x1.Sources, DS pI x1.Limits, DS api_Part.ps x1.Broken], .d (I (cnt 0 i18_2))] [] (.d (Bo y19)) [] [])] [] 0 [0, 1, 2, 3] [(2, .d (.o 0 0)), (3, .d (.o 1 0)), (4, .d (DS pB [])), (5, .d (.os 2)), (8, .d (.o 3 0)), (39, .d (I x0.Buses)), (40, .d (I s18_1.1)), (43, .d (DS api_Breaker.ps x0.Breakers)), (44, .d (I (x0.Breakers.length : Int))), (45, .d (I (cnt 0 i18_2))), (58, .d (Bo ((x18_2.Kind == 1) && y19)))] [.box 29 [I x0.Buses, DS api_Breaker.ps x0.Breakers, DS api_Source.ps x0.Sources, DS api_Consumer.ps x0.Consumers, I x0.Phase, I x0.Frequency], .box 35 [DS pB x1.Closed, DS api_Running.ps x1.Sources, DS pI x1.Limits, DS api_Part.ps x1.Broken], .sl 4 1 (s18_2.map pB), .box 66 [I x18_2.Kind, I x18_2.A, I x18_2.B]] hC ⟨(row_cnt hx18_2 hl18_2), fun hg => ⟨e68, (k68 x0 x1 (cnt 0 i18_2) _ (guardO_get h20 hg))⟩, trivial⟩ ⟨(cnt_lt hi18_2 hl18_2), trivial⟩ (by kernel_rfl) ?_
              rcases boolC (((x18_2.Kind == 1) && y19)) with h21 | h21
              · replace h := condT h21 h
                obtain ⟨y22, h23, h⟩ := bindE h
                obtain ⟨y24, h25, h⟩ := bindE h
                obtain ⟨y26, h27, h⟩ := bindE h
                obtain ⟨y28, h29, h⟩ := bindE h
                obtain ⟨y30, h31, h⟩ := bindE h
                exact WI_end (bs := [(((x18_2.Kind == 1) && y19), true)]) (φ := fun s' => k18_2b = .next s') (st' := (st18_2 x0 s18_1 (i18_2 + 1))) (R' := (R18_2 x0 x1 (i18_2 + 1))) mixed lv18 27 [true] [.row (s18_2.map pB) x18_2.A (pB y22), .row (s18_2.map pB) (((Int.toNat x18_2.A) : Nat) : Int) (pB y22), .when [(y22, false)] (.row (s18_2.map pB) x18_2.B (pB y24)), .when [(y22, false)] (.row (s18_2.map pB) (((Int.toNat x18_2.B) : Nat) : Int) (pB y24)), .row (s18_2.map pB) x18_2.A (pB y22), .upd (s18_2.map pB) (Int.toNat x18_2.A) (pB y22) (pB (y22 || y24)) (y26.map pB), .row (y26.map pB) x18_2.B (pB y28), .upd (y26.map pB) (Int.toNat x18_2.B) (pB y28) (pB (y22 || y24)) (y30.map pB)] [] 0 [0, 1, 2] y30 hC ⟨row_get h23, row_getN h23, fun hg => row_get (guardO_get h25 hg), fun hg => row_getN (guardO_get h25 hg), row_get h23, upd_get h23 h27, row_get h29, upd_get h29 h31, trivial⟩ ⟨h21, trivial⟩ (by kernel_rfl) (by kernel_rfl) (Option.some.inj h).symm
              · replace h := condF h21 h
                exact WI_end (bs := [(((x18_2.Kind == 1) && y19), false)]) (φ := fun s' => k18_2b = .next s') (st' := (st18_2 x0 s18_1 (i18_2 + 1))) (R' := (R18_2 x0 x1 (i18_2 + 1))) mixed lv18 25 [false] [] [] 0 [0, 1, 2] s18_2 hC trivial ⟨h21, trivial⟩ (by kernel_rfl) (by kernel_rfl) (Option.some.inj h).symm
          · have h := hnext18_2 _ hs18_2
            exact WI_end (bs := []) (φ := fun s' => k18_1b = .next s') (st' := (st18_1 x0)) (R' := (R18_1 x0 x1)) mixed lv18 23 [] [] [] 0 [0, 1, 2] (w64 (s18_1.1 + 1), s18_2) hC trivial trivial (by kernel_rfl) (by kernel_rfl) (Option.some.inj h).symm
        · replace h := condF h18 h
          exact WI_end (bs := [(decide (s18_1.1 < x0.Buses), false)]) (φ := fun s' => k18_1 = .next s') (st' := (sa18_1)) (R' := (Ra18_1)) mixed lv18 26 [false] [] [] 0 [2] (s18_1.1, s18_1.2) hC trivial ⟨h18, trivial⟩ (by kernel_rfl) (by kernel_rfl) (hb18_1 _ (Option.some.inj h).symm)
      · have h := hnext18_1 _ hs18_1
        replace h := Option.some.inj h
        subst h
        exact WI_ret (bs := []) mixed lv18 23 [] [] [] [.tmp 4] 0 [0] rfl hC trivial trivial (by kernel_rfl)
theorem e18 : Enters Tryz.prog 18 := Go.SL.enters_of Tryz.func18 (by kernel_rfl) (by kernel_rfl)
def lv250 : List Nat := [0, 1, 2, 3, 4, 6, 7, 9, 30, 32, 33, 40]
theorem k250 (x0 : api_Board) (x1 : api_Power) (x2 : Int) (r : Bool) (h : F250 x0 x1 x2 = some r) : CallOk Tryz.prog 250 [.agg [I x0.Buses, DS api_Breaker.ps x0.Breakers, DS api_Source.ps x0.Sources, DS api_Consumer.ps x0.Consumers, I x0.Phase, I x0.Frequency], .agg [DS pB x1.Closed, DS api_Running.ps x1.Sources, DS pI x1.Limits, DS api_Part.ps x1.Broken], .d (I x2)] [] (.d (Bo r)) [] := by
  unfold F250 at h
  refine callOk_of 74 Tryz.func250 rfl rfl rfl fun C hC => ?_
  obtain ⟨y1, h2, h⟩ := bindE h
  obtain ⟨y3, h4, h⟩ := bindE h
  obtain ⟨y5, h6, h⟩ := bindE h
  obtain ⟨y7, h8, h⟩ := bindE h
  refine WI_stop (bs := []) mixed lv250 28 [] [.row (x0.Breakers.map api_Breaker.ps) x2 (api_Breaker.ps y1), .row (x1.Closed.map pB) x2 (pB y3), .when [(y3, false)] (.call 134 [.agg [DS pB x1.Closed, DS api_Running.ps x1.Sources, DS pI x1.Limits, DS api_Part.ps x1.Broken], .d (I 2), .d (I x2)] [] (.d (Bo y5)) [] []), .when [((y3 || y5), false)] (.call 134 [.agg [DS pB x1.Closed, DS api_Running.ps x1.Sources, DS pI x1.Limits, DS api_Part.ps x1.Broken], .d (I 3), .d (I y1.A)] [] (.d (Bo y7)) [] [])] [] 0 [0, 1, 2] [(3, .d (.o 0 0)), (4, .d (.o 1 0)), (6, .d (Bo false)), (7, .d (.o 2 0)), (30, .d (Bo ((y3 || y5) || y7)))] [.box 29 [I x0.Buses, DS api_Breaker.ps x0.Breakers, DS api_Source.ps x0.Sources, DS api_Consumer.ps x0.Consumers, I x0.Phase, I x0.Frequency], .box 35 [DS pB x1.Closed, DS api_Running.ps x1.Sources, DS pI x1.Limits, DS api_Part.ps x1.Broken], .box 66 [I y1.Kind, I y1.A, I y1.B]] hC ⟨row_get h2, row_get h4, fun hg => ⟨e134, (k134 x1 2 x2 _ (guardO_get h6 hg))⟩, fun hg => ⟨e134, (k134 x1 3 y1.A _ (guardO_get h8 hg))⟩, trivial⟩ trivial (by kernel_rfl) ?_
  rcases boolC (((y3 || y5) || y7)) with h9 | h9
  · replace h := condT h9 h
    replace h := Option.some.inj h
    subst h
    exact WI_ret (bs := [(((y3 || y5) || y7), true)]) mixed lv250 24 [true] [] [] [.tmp 6] 0 [] rfl hC trivial ⟨h9, trivial⟩ (by kernel_rfl)
  · replace h := condF h9 h
    rcases boolC ((y1.Kind == 1)) with h10 | h10
    · replace h := condT h10 h
      obtain ⟨y11, h12, h⟩ := bindE h
      replace h := Option.some.inj h
      subst h
      exact WI_ret (bs := [(((y3 || y5) || y7), false), ((y1.Kind == 1), true)]) mixed lv250 32 [false, true] [.call 134 [.agg [DS pB x1.Closed, DS api_Running.ps x1.Sources, DS pI x1.Limits, DS api_Part.ps x1.Broken], .d (I 3), .d (I y1.B)] [] (.d (Bo y11)) [] []] [] [.tmp 6] 0 [] rfl hC ⟨⟨e134, (k134 x1 3 y1.B _ h12)⟩, trivial⟩ ⟨h9, h10, trivial⟩ (by kernel_rfl)
    · replace h := condF h10 h
      rcases boolC ((y1.Kind == 2)) with h13 | h13
      · replace h := condT h13 h
        obtain ⟨y14, h15, h⟩ := bindE h
        obtain ⟨y16, h17, h⟩ := bindE h
        replace h := Option.some.inj h
        subst h
        exact WI_ret (bs := [(((y3 || y5) || y7), false), ((y1.Kind == 1), false), ((y1.Kind == 2), true)]) mixed lv250 35 [false, false, true] [.call 134 [.agg [DS pB x1.Closed, DS api_Running.ps x1.Sources, DS pI x1.Limits, DS api_Part.ps x1.Broken], .d (I 1), .d (I y1.B)] [] (.d (Bo y14)) [] [], .when [(!y14, true)] (.row (x1.Sources.map api_Running.ps) y1.B (api_Running.ps y16))] [] [.tmp 6] 0 [] rfl hC ⟨⟨e134, (k134 x1 1 y1.B _ h15)⟩, fun hg => row_get (guardO_get h17 hg), trivial⟩ ⟨h9, h10, h13, trivial⟩ (by kernel_rfl)
      · replace h := condF h13 h
        obtain ⟨y18, h19, h⟩ := bindE h
        obtain ⟨y20, h21, h⟩ := bindE h
        replace h := Option.some.inj h
        subst h
        exact WI_ret (bs := [(((y3 || y5) || y7), false), ((y1.Kind == 1), false), ((y1.Kind == 2), false)]) mixed lv250 39 [false, false, false] [.call 168 [.agg [I x0.Buses, DS api_Breaker.ps x0.Breakers, DS api_Source.ps x0.Sources, DS api_Consumer.ps x0.Consumers, I x0.Phase, I x0.Frequency], .agg [DS pB x1.Closed, DS api_Running.ps x1.Sources, DS pI x1.Limits, DS api_Part.ps x1.Broken], .d (I y1.B)] [] (.tup [.d (I y18.1), .d (Bo y18.2)]) [] [], .call 134 [.agg [DS pB x1.Closed, DS api_Running.ps x1.Sources, DS pI x1.Limits, DS api_Part.ps x1.Broken], .d (I 4), .d (I y1.B)] [] (.d (Bo y20)) [] []] [] [.tmp 6] 0 [] rfl hC ⟨⟨e168, (k168 x0 x1 y1.B _ h19)⟩, ⟨e134, (k134 x1 4 y1.B _ h21)⟩, trivial⟩ ⟨h9, h10, h13, trivial⟩ (by kernel_rfl)
theorem e250 : Enters Tryz.prog 250 := Go.SL.enters_of Tryz.func250 (by kernel_rfl) (by kernel_rfl)
def lv176 : List Nat := [0, 1, 2, 3, 4, 6, 7, 9, 12, 13, 14, 15, 21]
def st176_0 (x2 : Int) (y1 : (List api_Island)) (i176_0 : Nat) (s176_0 : Unit) : St := [(2, .d (I x2)), (6, .d (.o 0 0)), (7, .d (Bo false)), (12, .d (.os 1)), (13, .d (I (y1.length : Int))), (14, .d (I (cnt 0 i176_0)))]
def R176_0 (y1 : (List api_Island)) (i176_0 : Nat) (s176_0 : Unit) : List Res := [.box 78 [.os 2, .os 3, .os 4], .sl 78 3 (y1.map api_Island.ps), .sl 3 1 (([] : List Int).map pI), .sl 3 1 (([] : List Int).map pI), .sl 3 1 (([] : List Int).map pI)]
def sa176_0  (s176_0 : Unit) : St := [(6, .d (.o 0 0)), (7, .d (Bo false))]
def Ra176_0  (s176_0 : Unit) : List Res := [.box 78 [.os 1, .os 2, .os 3], .sl 3 1 (([] : List Int).map pI), .sl 3 1 (([] : List Int).map pI), .sl 3 1 (([] : List Int).map pI)]
theorem k176 (x0 : api_Board) (x1 : api_Power) (x2 : Int) (r : api_Island × Bool) (h : F176 x0 x1 x2 = some r) : CallOk Tryz.prog 176 [.agg [I x0.Buses, DS api_Breaker.ps x0.Breakers, DS api_Source.ps x0.Sources, DS api_Consumer.ps x0.Consumers, I x0.Phase, I x0.Frequency], .agg [DS pB x1.Closed, DS api_Running.ps x1.Sources, DS pI x1.Limits, DS api_Part.ps x1.Broken], .d (I x2)] [] (.tup [.agg [DS pI r.1.Buses, DS pI r.1.Sources, DS pI r.1.Consumers], .d (Bo r.2)]) [] := by
  unfold F176 at h
  refine callOk_of 25 Tryz.func176 rfl rfl rfl fun C hC => ?_
  obtain ⟨y1, h2, h⟩ := bindE h
  refine WI_stop (bs := []) mixed lv176 26 [] [.call 106 [.agg [I x0.Buses, DS api_Breaker.ps x0.Breakers, DS api_Source.ps x0.Sources, DS api_Consumer.ps x0.Consumers, I x0.Phase, I x0.Frequency], .agg [DS pB x1.Closed, DS api_Running.ps x1.Sources, DS pI x1.Limits, DS api_Part.ps x1.Broken]] [] (.d (.os 0)) [.sl 78 3 (y1.map api_Island.ps)] [], .len ((y1.map api_Island.ps).length : Int) (y1.length : Int)] [.ownb 2 0 3 1, .ownb 2 1 3 1, .ownb 2 2 3 1] 0 [2, 3, 4, 5, 6] (st176_0 x2 y1 0 ()) (R176_0 y1 0 ()) hC ⟨⟨e106, (k106 x0 x1 _ h2)⟩, len_map _ _, trivial⟩ trivial (by kernel_rfl) ?_
  obtain ⟨k176_0, hm176_0, hret176_0, hnext176_0⟩ := andThen_inv h
  clear h
  refine WI_cut (by kernel_rfl) (fun s => k176_0 = .next s) (sa176_0) (Ra176_0) ?_ fun s176_0 hs176_0 => ?_
  · refine WI_blk (by kernel_rfl) ?_
    refine WI_lenO 12 1 rfl rfl fun hl176_0 => ?_
    refine WI_foldI (by kernel_rfl) (F176_l0 x2) (st176_0 x2 y1) (R176_0 y1) k176_0 y1 () hm176_0 rfl rfl (fun s176_0 hn176_0 => ?_) fun i176_0 x176_0 s176_0 k176_0b hi176_0 hx176_0 h hb176_0 hr176_0 => ?_
    · clear hm176_0
      exact WI_end (bs := [(decide ((cnt 0 y1.length) < (y1.length : Int)), false)]) (φ := fun s' => k176_0 = .next s') (st' := (sa176_0)) (R' := (Ra176_0)) mixed lv176 26 [false] [] [] 0 [0, 2, 3, 4] () hC trivial ⟨(cnt_end hl176_0), trivial⟩ (by kernel_rfl) (by kernel_rfl) hn176_0
    · unfold F176_l0 at h
      obtain ⟨y3, h4, h⟩ := bindE h
      refine WI_stop (bs := [(decide ((cnt 0 i176_0) < (y1.length : Int)), true)]) mixed lv176 32 [true] [.row (y1.map api_Island.ps) (cnt 0 i176_0) (api_Island.ps x176_0), .row (y1.map api_Island.ps) (((Int.toNat (cnt 0 i176_0)) : Nat) : Int) (api_Island.ps x176_0), .call 96 [.d (DS pI x176_0.Buses), .d (I x2)] [] (.d (Bo y3)) [] []] [] 0 [0, 1, 2, 3, 4, 5] [(2, .d (I x2)), (6, .d (.o 0 0)), (7, .d (Bo false)), (9, .d (.o 5 0)), (12, .d (.os 1)), (13, .d (I (y1.length : Int))), (14, .d (I (cnt 0 i176_0))), (21, .d (Bo y3))] [.box 78 [.os 2, .os 3, .os 4], .sl 78 3 (y1.map api_Island.ps), .sl 3 1 (([] : List Int).map pI), .sl 3 1 (([] : List Int).map pI), .sl 3 1 (([] : List Int).map pI), .box 78 [DS pI x176_0.Buses, DS pI x176_0.Sources, DS pI x176_0.Consumers]] hC ⟨row_get (get_cnt hx176_0 hl176_0), row_getN (get_cnt hx176_0 hl176_0), ⟨e96, (k96 x176_0.Buses x2 _ h4)⟩, trivial⟩ ⟨(cnt_lt hi176_0 hl176_0), trivial⟩ (by kernel_rfl) ?_
      rcases boolC (y3) with h5 | h5
      · replace h := condT h5 h
        have hq := hret176_0 _ (hr176_0 _ (Option.some.inj h).symm)
        replace hq := Option.some.inj hq
        subst hq
        exact WI_ret (bs := [(y3, true)]) mixed lv176 24 [true] [] [] [.cell 6 78, .tmp 7] 0 [] rfl hC trivial ⟨h5, trivial⟩ (by kernel_rfl)
      · replace h := condF h5 h
        exact WI_end (bs := [(y3, false)]) (φ := fun s' => k176_0b = .next s') (st' := (st176_0 x2 y1 (i176_0 + 1))) (R' := (R176_0 y1 (i176_0 + 1))) mixed lv176 25 [false] [] [] 0 [0, 1, 2, 3, 4] () hC trivial ⟨h5, trivial⟩ (by kernel_rfl) (by kernel_rfl) (Option.some.inj h).symm
  · have h := hnext176_0 _ hs176_0
    replace h := Option.some.inj h
    subst h
    exact WI_ret (bs := []) mixed lv176 23 [] [] [.ownb 0 0 3 1, .frz 4, .ownb 0 1 3 1, .frz 5, .ownb 0 2 3 1, .frz 6] [.cell 6 78, .tmp 7] 0 [] rfl hC trivial trivial (by kernel_rfl)
theorem e176 : Enters Tryz.prog 176 := Go.SL.enters_of Tryz.func176 (by kernel_rfl) (by kernel_rfl)
def lv101 : List Nat := [0, 1, 2, 3, 4, 5, 6, 7, 9, 14, 21, 22, 23, 24, 30]
def st101_0 (y6 : (List api_Island)) (i101_0 : Nat) (s101_0 : (List api_Running)) : St := [(3, .d (.o 0 0)), (4, .d (.o 1 0)), (5, .d (I 0)), (7, .d (.o 10 0)), (21, .d (.os 11)), (22, .d (I (y6.length : Int))), (23, .d (I (cnt 0 i101_0)))]
def R101_0 (x1 : api_Power) (y4 : api_Power) (y6 : (List api_Island)) (i101_0 : Nat) (s101_0 : (List api_Running)) : List Res := [.box 35 [DS pB x1.Closed, DS api_Running.ps x1.Sources, DS pI x1.Limits, DS api_Part.ps x1.Broken], .box 35 [.os 2, .os 3, .os 4, .os 5], .sl 4 1 (([] : List Bool).map pB), .sl 59 4 (([] : List api_Running).map api_Running.ps), .sl 3 1 (([] : List Int).map pI), .sl 119 2 (([] : List api_Part).map api_Part.ps), .sl 4 1 (y4.Closed.map pB), .sl 59 4 (s101_0.map api_Running.ps), .sl 3 1 (y4.Limits.map pI), .sl 119 2 (y4.Broken.map api_Part.ps), .box 35 [.os 6, .os 7, .os 8, .os 9], .sl 78 3 (y6.map api_Island.ps)]
def sa101_0  (s101_0 : (List api_Running)) : St := [(4, .d (.o 0 0)), (5, .d (I 0)), (7, .d (.o 9 0))]
def Ra101_0 (y4 : api_Power) (s101_0 : (List api_Running)) : List Res := [.box 35 [.os 1, .os 2, .os 3, .os 4], .sl 4 1 (([] : List Bool).map pB), .sl 59 4 (([] : List api_Running).map api_Running.ps), .sl 3 1 (([] : List Int).map pI), .sl 119 2 (([] : List api_Part).map api_Part.ps), .sl 4 1 (y4.Closed.map pB), .sl 59 4 (s101_0.map api_Running.ps), .sl 3 1 (y4.Limits.map pI), .sl 119 2 (y4.Broken.map api_Part.ps), .box 35 [.os 5, .os 6, .os 7, .os 8]]
theorem k101 (x0 : api_Board) (x1 : api_Power) (r : api_Power × Int) (h : F101 x0 x1 = some r) : CallOk Tryz.prog 101 [.agg [I x0.Buses, DS api_Breaker.ps x0.Breakers, DS api_Source.ps x0.Sources, DS api_Consumer.ps x0.Consumers, I x0.Phase, I x0.Frequency], .agg [DS pB x1.Closed, DS api_Running.ps x1.Sources, DS pI x1.Limits, DS api_Part.ps x1.Broken]] [] (.tup [.agg [.os 0, .os 1, .os 2, .os 3], .d (I r.2)]) [.sl 4 1 (r.1.Closed.map pB), .sl 59 4 (r.1.Sources.map api_Running.ps), .sl 3 1 (r.1.Limits.map pI), .sl 119 2 (r.1.Broken.map api_Part.ps)] := by
  unfold F101 at h
  refine callOk_of 45 Tryz.func101 rfl rfl rfl fun C hC => ?_
  obtain ⟨y1, h2, h⟩ := bindE h
  refine WI_stop (bs := []) mixed lv101 28 [] [.call 65 [.agg [I x0.Buses, DS api_Breaker.ps x0.Breakers, DS api_Source.ps x0.Sources, DS api_Consumer.ps x0.Consumers, I x0.Phase, I x0.Frequency], .agg [DS pB x1.Closed, DS api_Running.ps x1.Sources, DS pI x1.Limits, DS api_Part.ps x1.Broken]] [] (.d (I y1)) [] []] [.ownb 2 0 4 1, .ownb 2 1 59 4, .ownb 2 2 3 1, .ownb 2 3 119 2] 0 [0, 1, 2, 3, 4, 5, 6] [(2, .d (.o 0 0)), (3, .d (.o 1 0)), (4, .d (.o 2 0)), (5, .d (I 0)), (6, .d (I y1)), (14, .d (Bo (y1 != 0)))] [.box 29 [I x0.Buses, DS api_Breaker.ps x0.Breakers, DS api_Source.ps x0.Sources, DS api_Consumer.ps x0.Consumers, I x0.Phase, I x0.Frequency], .box 35 [DS pB x1.Closed, DS api_Running.ps x1.Sources, DS pI x1.Limits, DS api_Part.ps x1.Broken], .box 35 [.os 3, .os 4, .os 5, .os 6], .sl 4 1 (([] : List Bool).map pB), .sl 59 4 (([] : List api_Running).map api_Running.ps), .sl 3 1 (([] : List Int).map pI), .sl 119 2 (([] : List api_Part).map api_Part.ps)] hC ⟨⟨e65, (k65 x0 x1 _ h2)⟩, trivial⟩ trivial (by kernel_rfl) ?_
  rcases boolC ((y1 != 0)) with h3 | h3
  · replace h := condT h3 h
    replace h := Option.some.inj h
    subst h
    exact WI_ret (bs := [((y1 != 0), true)]) mixed lv101 24 [true] [] [.ownb 2 0 4 1, .ownb 2 1 59 4, .ownb 2 2 3 1, .ownb 2 3 119 2] [.cell 4 35, .tmp 5] 0 [7, 8, 9, 10] rfl hC trivial ⟨h3, trivial⟩ (by kernel_rfl)
  · replace h := condF h3 h
    obtain ⟨y4, h5, h⟩ := bindE h
    obtain ⟨y6, h7, h⟩ := bindE h
    refine WI_stop (bs := [((y1 != 0), false)]) mixed lv101 28 [false] [.call 70 [.agg [DS pB x1.Closed, DS api_Running.ps x1.Sources, DS pI x1.Limits, DS api_Part.ps x1.Broken]] [] (.agg [.os 0, .os 1, .os 2, .os 3]) [.sl 4 1 (y4.Closed.map pB), .sl 59 4 (y4.Sources.map api_Running.ps), .sl 3 1 (y4.Limits.map pI), .sl 119 2 (y4.Broken.map api_Part.ps)] [], .call 106 [.agg [I x0.Buses, DS api_Breaker.ps x0.Breakers, DS api_Source.ps x0.Sources, DS api_Consumer.ps x0.Consumers, I x0.Phase, I x0.Frequency], .agg [DS pB x1.Closed, DS api_Running.ps x1.Sources, DS pI x1.Limits, DS api_Part.ps x1.Broken]] [] (.d (.os 0)) [.sl 78 3 (y6.map api_Island.ps)] [], .len ((y6.map api_Island.ps).length : Int) (y6.length : Int)] [] 0 [1, 2, 3, 4, 5, 6, 7, 8, 9, 10, 11, 12] (st101_0 y6 0 y4.Sources) (R101_0 x1 y4 y6 0 y4.Sources) hC ⟨⟨e70, (k70 x1 _ h5)⟩, ⟨e106, (k106 x0 x1 _ h7)⟩, len_map _ _, trivial⟩ ⟨h3, trivial⟩ (by kernel_rfl) ?_
    obtain ⟨k101_0, hm101_0, hret101_0, hnext101_0⟩ := andThen_inv h
    clear h
    refine WI_cut (by kernel_rfl) (fun s => k101_0 = .next s) (sa101_0) (Ra101_0 y4) ?_ fun s101_0 hs101_0 => ?_
    · refine WI_blk (by kernel_rfl) ?_
      refine WI_lenO 21 11 rfl rfl fun hl101_0 => ?_
      refine WI_foldI (by kernel_rfl) (F101_l0 x1 y4) (st101_0 y6) (R101_0 x1 y4 y6) k101_0 y6 y4.Sources hm101_0 rfl rfl (fun s101_0 hn101_0 => ?_) fun i101_0 x101_0 s101_0 k101_0b hi101_0 hx101_0 h hb101_0 hr101_0 => ?_
      · clear hm101_0
        exact WI_end (bs := [(decide ((cnt 0 y6.length) < (y6.length : Int)), false)]) (φ := fun s' => k101_0 = .next s') (st' := (sa101_0)) (R' := (Ra101_0 y4)) mixed lv101 26 [false] [] [] 0 [1, 2, 3, 4, 5, 6, 7, 8, 9, 10] s101_0 hC trivial ⟨(cnt_end hl101_0), trivial⟩ (by kernel_rfl) (by kernel_rfl) hn101_0
      · unfold F101_l0 at h
        refine WI_stop (bs := [(decide ((cnt 0 i101_0) < (y6.length : Int)), true)]) mixed lv101 32 [true] [.row (y6.map api_Island.ps) (cnt 0 i101_0) (api_Island.ps x101_0), .row (y6.map api_Island.ps) (((Int.toNat (cnt 0 i101_0)) : Nat) : Int) (api_Island.ps x101_0), .len ((x101_0.Sources.map pI).length : Int) (x101_0.Sources.length : Int)] [] 0 [0, 1, 2, 3, 4, 5, 6, 7, 8, 9, 10, 11, 12] [(3, .d (.o 0 0)), (4, .d (.o 1 0)), (5, .d (I 0)), (7, .d (.o 10 0)), (9, .d (.o 12 0)), (21, .d (.os 11)), (22, .d (I (y6.length : Int))), (23, .d (I (cnt 0 i101_0))), (30, .d (Bo (c101_2 x101_0)))] [.box 35 [DS pB x1.Closed, DS api_Running.ps x1.Sources, DS pI x1.Limits, DS api_Part.ps x1.Broken], .box 35 [.os 2, .os 3, .os 4, .os 5], .sl 4 1 (([] : List Bool).map pB), .sl 59 4 (([] : List api_Running).map api_Running.ps), .sl 3 1 (([] : List Int).map pI), .sl 119 2 (([] : List api_Part).map api_Part.ps), .sl 4 1 (y4.Closed.map pB), .sl 59 4 (s101_0.map api_Running.ps), .sl 3 1 (y4.Limits.map pI), .sl 119 2 (y4.Broken.map api_Part.ps), .box 35 [.os 6, .os 7, .os 8, .os 9], .sl 78 3 (y6.map api_Island.ps), .box 78 [DS pI x101_0.Buses, DS pI x101_0.Sources, DS pI x101_0.Consumers]] hC ⟨row_get (get_cnt hx101_0 hl101_0), row_getN (get_cnt hx101_0 hl101_0), len_map _ _, trivial⟩ ⟨(cnt_lt hi101_0 hl101_0), trivial⟩ (by kernel_rfl) ?_
        rcases boolC ((c101_2 x101_0)) with h8 | h8
        · replace h := condT h8 h
          obtain ⟨y9, h10, h⟩ := bindE h
          obtain ⟨y11, h12, h⟩ := bindE h
          obtain ⟨y13, h14, h⟩ := bindE h
          exact WI_end (bs := [((c101_2 x101_0), true)]) (φ := fun s' => k101_0b = .next s') (st' := (st101_0 y6 (i101_0 + 1))) (R' := (R101_0 x1 y4 y6 (i101_0 + 1))) mixed lv101 25 [true] [.row (x101_0.Sources.map pI) 0 (pI y9), .row (x1.Sources.map api_Running.ps) y9 (api_Running.ps y11), .call 183 [.agg [.os 0, .os 1, .os 2, .os 3], .d (DS pI x101_0.Sources), .agg [I y11.State, I y11.Since, I y11.Frequency, I y11.Phase]] [.sl 4 1 (y4.Closed.map pB), .sl 59 4 (s101_0.map api_Running.ps), .sl 3 1 (y4.Limits.map pI), .sl 119 2 (y4.Broken.map api_Part.ps)] (.tup []) [.sl 4 1 (y4.Closed.map pB), .sl 59 4 (y13.map api_Running.ps), .sl 3 1 (y4.Limits.map pI), .sl 119 2 (y4.Broken.map api_Part.ps)] [6, 7, 8, 9]] [] 0 [0, 1, 2, 3, 4, 5, 6, 7, 8, 9, 10, 11] y13 hC ⟨row_get h10, row_get h12, ⟨e183s0, (k183s0 (⟨y4.Closed, s101_0, y4.Limits, y4.Broken⟩ : api_Power) x101_0.Sources y11 _ h14)⟩, trivial⟩ ⟨h8, trivial⟩ (by kernel_rfl) (by kernel_rfl) (Option.some.inj h).symm
        · replace h := condF h8 h
          exact WI_end (bs := [((c101_2 x101_0), false)]) (φ := fun s' => k101_0b = .next s') (st' := (st101_0 y6 (i101_0 + 1))) (R' := (R101_0 x1 y4 y6 (i101_0 + 1))) mixed lv101 25 [false] [] [] 0 [0, 1, 2, 3, 4, 5, 6, 7, 8, 9, 10, 11] s101_0 hC trivial ⟨h8, trivial⟩ (by kernel_rfl) (by kernel_rfl) (Option.some.inj h).symm
    · have h := hnext101_0 _ hs101_0
      replace h := Option.some.inj h
      subst h
      exact WI_ret (bs := []) mixed lv101 23 [] [] [] [.cell 4 35, .tmp 5] 0 [5, 6, 7, 8] rfl hC trivial trivial (by kernel_rfl)
theorem e101 : Enters Tryz.prog 101 := Go.SL.enters_of Tryz.func101 (by kernel_rfl) (by kernel_rfl)
def lv148s1 : List Nat := [0, 2, 3, 24, 25, 26, 66]
def st148s1_0 (y1 : api_Power × Int) (s148s1_0 : Int × (List api_Running)) : St := [(0, .d (.o 0 0)), (24, .d (I (y1.1.Sources.length : Int))), (25, .d (I s148s1_0.1))]
def R148s1_0 (x0 : restore_worker) (y1 : api_Power × Int) (s148s1_0 : Int × (List api_Running)) : List Res := [.box 130 [I x0.board.Buses, DS api_Breaker.ps x0.board.Breakers, DS api_Source.ps x0.board.Sources, DS api_Consumer.ps x0.board.Consumers, I x0.board.Phase, I x0.board.Frequency, .os 5, .os 6, .os 7, .os 8, I x0.time], .sl 4 1 (x0.power.Closed.map pB), .sl 59 4 (x0.power.Sources.map api_Running.ps), .sl 3 1 (x0.power.Limits.map pI), .sl 119 2 (x0.power.Broken.map api_Part.ps), .sl 4 1 (y1.1.Closed.map pB), .sl 59 4 (s148s1_0.2.map api_Running.ps), .sl 3 1 (y1.1.Limits.map pI), .sl 119 2 (y1.1.Broken.map api_Part.ps)]
def sa148s1_0  (s148s1_0 : Int × (List api_Running)) : St := []
def Ra148s1_0 (x0 : restore_worker) (y1 : api_Power × Int) (s148s1_0 : Int × (List api_Running)) : List Res := [.box 130 [I x0.board.Buses, DS api_Breaker.ps x0.board.Breakers, DS api_Source.ps x0.board.Sources, DS api_Consumer.ps x0.board.Consumers, I x0.board.Phase, I x0.board.Frequency, .os 5, .os 6, .os 7, .os 8, I x0.time], .sl 4 1 (x0.power.Closed.map pB), .sl 59 4 (x0.power.Sources.map api_Running.ps), .sl 3 1 (x0.power.Limits.map pI), .sl 119 2 (x0.power.Broken.map api_Part.ps), .sl 4 1 (y1.1.Closed.map pB), .sl 59 4 (s148s1_0.2.map api_Running.ps), .sl 3 1 (y1.1.Limits.map pI), .sl 119 2 (y1.1.Broken.map api_Part.ps)]
theorem k148s1 (x0 : restore_worker) (r : restore_worker) (h : F148s1 x0 = some r) : CallOk Tryz.prog 148 [.d (.o 0 0)] [.box 130 [I x0.board.Buses, DS api_Breaker.ps x0.board.Breakers, DS api_Source.ps x0.board.Sources, DS api_Consumer.ps x0.board.Consumers, I x0.board.Phase, I x0.board.Frequency, .os 1, .os 2, .os 3, .os 4, I x0.time], .sl 4 1 (x0.power.Closed.map pB), .sl 59 4 (x0.power.Sources.map api_Running.ps), .sl 3 1 (x0.power.Limits.map pI), .sl 119 2 (x0.power.Broken.map api_Part.ps)] (.tup []) [.box 130 [I r.board.Buses, DS api_Breaker.ps r.board.Breakers, DS api_Source.ps r.board.Sources, DS api_Consumer.ps r.board.Consumers, I r.board.Phase, I r.board.Frequency, .os 5, .os 6, .os 7, .os 8, I r.time], .non, .non, .non, .non, .sl 4 1 (r.power.Closed.map pB), .sl 59 4 (r.power.Sources.map api_Running.ps), .sl 3 1 (r.power.Limits.map pI), .sl 119 2 (r.power.Broken.map api_Part.ps)] := by
  unfold F148s1 at h
  refine callOk_of 71 Tryz.func148 rfl rfl rfl fun C hC => ?_
  obtain ⟨y1, h2, h⟩ := bindE h
  refine WI_stop (bs := []) mixed lv148s1 25 [] [.call 217 [.agg [I x0.board.Buses, DS api_Breaker.ps x0.board.Breakers, DS api_Source.ps x0.board.Sources, DS api_Consumer.ps x0.board.Consumers, I x0.board.Phase, I x0.board.Frequency], .agg [.os 0, .os 1, .os 2, .os 3]] [.sl 4 1 (x0.power.Closed.map pB), .sl 59 4 (x0.power.Sources.map api_Running.ps), .sl 3 1 (x0.power.Limits.map pI), .sl 119 2 (x0.power.Broken.map api_Part.ps)] (.tup [.agg [.os 4, .os 5, .os 6, .os 7], .d (I y1.2)]) [.sl 4 1 (x0.power.Closed.map pB), .sl 59 4 (x0.power.Sources.map api_Running.ps), .sl 3 1 (x0.power.Limits.map pI), .sl 119 2 (x0.power.Broken.map api_Part.ps), .sl 4 1 (y1.1.Closed.map pB), .sl 59 4 (y1.1.Sources.map api_Running.ps), .sl 3 1 (y1.1.Limits.map pI), .sl 119 2 (y1.1.Broken.map api_Part.ps)] [1, 2, 3, 4], .len ((y1.1.Sources.map api_Running.ps).length : Int) (y1.1.Sources.length : Int)] [] 5 [0, 1, 2, 3, 4, 5, 6, 7, 8] (st148s1_0 y1 (0, y1.1.Sources)) (R148s1_0 x0 y1 (0, y1.1.Sources)) hC ⟨⟨e217, ((k217 x0.board x0.power _ h2).lend (by kernel_rfl) (by kernel_rfl) (by kernel_rfl) ⟨flat_sl (fun _ => rfl), flat_sl (fun _ => rfl), flat_sl (fun _ => rfl), flat_sl (fun _ => rfl), trivial⟩ (by kernel_rfl) (by kernel_rfl))⟩, len_map _ _, trivial⟩ trivial (by kernel_rfl) ?_
  obtain ⟨k148s1_0, hm148s1_0, hret148s1_0, hnext148s1_0⟩ := andThen_inv h
  clear h
  refine WI_cut (by kernel_rfl) (fun s => k148s1_0 = .next s) (sa148s1_0) (Ra148s1_0 x0 y1) ?_ fun s148s1_0 hs148s1_0 => ?_
  · refine WI_blk (by kernel_rfl) ?_
    refine WI_while (by kernel_rfl) (F148s1_l0 x0 y1) (st148s1_0 y1) (R148s1_0 x0 y1) k148s1_0 1152921504606846976 (0, y1.1.Sources) hm148s1_0 rfl rfl fun s148s1_0 k148s1_0b h hb148s1_0 hr148s1_0 => ?_
    unfold F148s1_l0 at h
    rcases boolC ((c148s1_3 y1 s148s1_0)) with h3 | h3
    · replace h := condT h3 h
      obtain ⟨y4, h5, h⟩ := bindE h
      obtain ⟨y6, h7, h⟩ := bindE h
      obtain ⟨y8, h9, h⟩ := bindE h
      refine WI_stop (bs := [((c148s1_3 y1 s148s1_0), true)]) mixed lv148s1 34 [true] [.row (s148s1_0.2.map api_Running.ps) s148s1_0.1 (api_Running.ps y4), .row (s148s1_0.2.map api_Running.ps) (((Int.toNat s148s1_0.1) : Nat) : Int) (api_Running.ps y4), .when [((y4.State == 1), true)] (.callB 216 [.d (.ip [.v (.int .i64 x0.board.Buses), .s (x0.board.Breakers.map api_Breaker.ps), .s (x0.board.Sources.map api_Source.ps), .s (x0.board.Consumers.map api_Consumer.ps), .v (.int .i64 x0.board.Phase), .v (.int .i64 x0.board.Frequency), .s (y1.1.Closed.map pB), .s (s148s1_0.2.map api_Running.ps), .s (y1.1.Limits.map pI), .s (y1.1.Broken.map api_Part.ps), .v (.int .i64 x0.time)]), .d (I s148s1_0.1)] (.d (Bo y6)) [[]] 0 []), .when [(((y4.State == 1) && y6), true)] (.row (s148s1_0.2.map api_Running.ps) (((Int.toNat s148s1_0.1) : Nat) : Int) (api_Running.ps y4)), .when [(((y4.State == 1) && y6), true)] (.row (x0.board.Sources.map api_Source.ps) s148s1_0.1 (api_Source.ps y8))] [] 5 [0, 1, 2, 3, 4, 5, 6, 7, 8] [(0, .d (.o 0 0)), (3, .d (.oe 6 (Int.toNat s148s1_0.1) 4 0)), (24, .d (I (y1.1.Sources.length : Int))), (25, .d (I s148s1_0.1)), (66, .d (Bo (c148s1_4 x0 y4 y6 y8)))] [.box 130 [I x0.board.Buses, DS api_Breaker.ps x0.board.Breakers, DS api_Source.ps x0.board.Sources, DS api_Consumer.ps x0.board.Consumers, I x0.board.Phase, I x0.board.Frequency, .os 5, .os 6, .os 7, .os 8, I x0.time], .sl 4 1 (x0.power.Closed.map pB), .sl 59 4 (x0.power.Sources.map api_Running.ps), .sl 3 1 (x0.power.Limits.map pI), .sl 119 2 (x0.power.Broken.map api_Part.ps), .sl 4 1 (y1.1.Closed.map pB), .sl 59 4 (s148s1_0.2.map api_Running.ps), .sl 3 1 (y1.1.Limits.map pI), .sl 119 2 (y1.1.Broken.map api_Part.ps)] hC ⟨row_get h5, row_getN h5, fun hg => lend0_get ⟨e216s0, (k216s0 (⟨x0.board, (⟨y1.1.Closed, s148s1_0.2, y1.1.Limits, y1.1.Broken⟩ : api_Power), x0.time⟩ : restore_worker) s148s1_0.1 _ (guardO_get h7 hg))⟩, fun hg => row_getN h5, fun hg => row_get (guardO_get h9 hg), trivial⟩ ⟨h3, trivial⟩ (by kernel_rfl) ?_
      rcases boolC ((c148s1_4 x0 y4 y6 y8)) with h10 | h10
      · replace h := condT h10 h
        obtain ⟨y11, h12, h⟩ := bindE h
        exact WI_end (bs := [((c148s1_4 x0 y4 y6 y8), true)]) (φ := fun s' => k148s1_0b = .next s') (st' := (st148s1_0 y1)) (R' := (R148s1_0 x0 y1)) mixed lv148s1 25 [true] [.upd (s148s1_0.2.map api_Running.ps) (Int.toNat s148s1_0.1) (api_Running.ps y4) (api_Running.ps (⟨2, y4.Since, y4.Frequency, y4.Phase⟩ : api_Running)) (y11.map api_Running.ps)] [] 5 [0, 1, 2, 3, 4, 5, 6, 7, 8] (w64 (s148s1_0.1 + 1), y11) hC ⟨upd_get h5 h12, trivial⟩ ⟨h10, trivial⟩ (by kernel_rfl) (by kernel_rfl) (Option.some.inj h).symm
      · replace h := condF h10 h
        exact WI_end (bs := [((c148s1_4 x0 y4 y6 y8), false)]) (φ := fun s' => k148s1_0b = .next s') (st' := (st148s1_0 y1)) (R' := (R148s1_0 x0 y1)) mixed lv148s1 25 [false] [] [] 5 [0, 1, 2, 3, 4, 5, 6, 7, 8] (w64 (s148s1_0.1 + 1), s148s1_0.2) hC trivial ⟨h10, trivial⟩ (by kernel_rfl) (by kernel_rfl) (Option.some.inj h).symm
    · replace h := condF h3 h
      exact WI_end (bs := [((c148s1_3 y1 s148s1_0), false)]) (φ := fun s' => k148s1_0 = .next s') (st' := (sa148s1_0)) (R' := (Ra148s1_0 x0 y1)) mixed lv148s1 26 [false] [] [] 5 [0, 1, 2, 3, 4, 5, 6, 7, 8] (s148s1_0.1, s148s1_0.2) hC trivial ⟨h3, trivial⟩ (by kernel_rfl) (by kernel_rfl) (hb148s1_0 _ (Option.some.inj h).symm)
  · have h := hnext148s1_0 _ hs148s1_0
    replace h := Option.some.inj h
    subst h
    exact WI_endF (bs := []) mixed lv148s1 20 [] [] [.frz 1, .frz 2, .frz 3, .frz 4] [] 5 [0, 1, 2, 3, 4, 5, 6, 7, 8] rfl hC trivial trivial (by kernel_rfl) (by kernel_rfl)
theorem e148s1 : Enters Tryz.prog 148 := Go.SL.enters_of Tryz.func148 (by kernel_rfl) (by kernel_rfl)
def lv214 : List Nat := [0, 1, 2, 3, 4, 6, 7, 8, 20]
theorem k214 (x0 : api_Board) (x1 : api_Power) (x2 : Int) (r : Int × Bool) (h : F214 x0 x1 x2 = some r) : CallOk Tryz.prog 214 [.agg [I x0.Buses, DS api_Breaker.ps x0.Breakers, DS api_Source.ps x0.Sources, DS api_Consumer.ps x0.Consumers, I x0.Phase, I x0.Frequency], .agg [DS pB x1.Closed, DS api_Running.ps x1.Sources, DS pI x1.Limits, DS api_Part.ps x1.Broken], .d (I x2)] [] (.tup [.d (I r.1), .d (Bo r.2)]) [] := by
  unfold F214 at h
  refine callOk_of 25 Tryz.func214 rfl rfl rfl fun C hC => ?_
  obtain ⟨y1, h2, h⟩ := bindE h
  refine WI_stop (bs := []) mixed lv214 28 [] [.call 176 [.agg [I x0.Buses, DS api_Breaker.ps x0.Breakers, DS api_Source.ps x0.Sources, DS api_Consumer.ps x0.Consumers, I x0.Phase, I x0.Frequency], .agg [DS pB x1.Closed, DS api_Running.ps x1.Sources, DS pI x1.Limits, DS api_Part.ps x1.Broken], .d (I x2)] [] (.tup [.agg [DS pI y1.1.Buses, DS pI y1.1.Sources, DS pI y1.1.Consumers], .d (Bo y1.2)]) [] [], .len ((y1.1.Sources.map pI).length : Int) (y1.1.Sources.length : Int)] [] 0 [2] [(6, .d (I 0)), (7, .d (Bo false)), (8, .d (.o 0 0)), (20, .d (Bo ((y1.1.Sources.length : Int) == 0)))] [.box 78 [DS pI y1.1.Buses, DS pI y1.1.Sources, DS pI y1.1.Consumers]] hC ⟨⟨e176, (k176 x0 x1 x2 _ h2)⟩, len_map _ _, trivial⟩ trivial (by kernel_rfl) ?_
  rcases boolC (((y1.1.Sources.length : Int) == 0)) with h3 | h3
  · replace h := condT h3 h
    replace h := Option.some.inj h
    subst h
    exact WI_ret (bs := [(((y1.1.Sources.length : Int) == 0), true)]) mixed lv214 24 [true] [] [] [.tmp 6, .tmp 7] 0 [] rfl hC trivial ⟨h3, trivial⟩ (by kernel_rfl)
  · replace h := condF h3 h
    obtain ⟨y4, h5, h⟩ := bindE h
    replace h := Option.some.inj h
    subst h
    exact WI_ret (bs := [(((y1.1.Sources.length : Int) == 0), false)]) mixed lv214 25 [false] [.row (y1.1.Sources.map pI) 0 (pI y4)] [] [.tmp 6, .tmp 7] 0 [] rfl hC ⟨row_get h5, trivial⟩ ⟨h3, trivial⟩ (by kernel_rfl)
theorem e214 : Enters Tryz.prog 214 := Go.SL.enters_of Tryz.func214 (by kernel_rfl) (by kernel_rfl)
theorem k95 (x0 : api_Board) (x1 : api_Power) (x2 : Int) (r : Bool) (h : F95 x0 x1 x2 = some r) : CallOk Tryz.prog 95 [.agg [I x0.Buses, DS api_Breaker.ps x0.Breakers, DS api_Source.ps x0.Sources, DS api_Consumer.ps x0.Consumers, I x0.Phase, I x0.Frequency], .agg [DS pB x1.Closed, DS api_Running.ps x1.Sources, DS pI x1.Limits, DS api_Part.ps x1.Broken], .d (I x2)] [] (.d (Bo r)) [] := by
  unfold F95 at h
  refine callOk_of 20 Tryz.func95 rfl rfl rfl fun C hC => ?_
  obtain ⟨y1, h2, h⟩ := bindE h
  replace h := Option.some.inj h
  subst h
  exact WI_ret (bs := []) mixed [0, 1, 2, 3, 4, 6, 7] 27 [] [.call 176 [.agg [I x0.Buses, DS api_Breaker.ps x0.Breakers, DS api_Source.ps x0.Sources, DS api_Consumer.ps x0.Consumers, I x0.Phase, I x0.Frequency], .agg [DS pB x1.Closed, DS api_Running.ps x1.Sources, DS pI x1.Limits, DS api_Part.ps x1.Broken], .d (I x2)] [] (.tup [.agg [DS pI y1.1.Buses, DS pI y1.1.Sources, DS pI y1.1.Consumers], .d (Bo y1.2)]) [] [], .len ((y1.1.Sources.map pI).length : Int) (y1.1.Sources.length : Int)] [] [.tmp 6] 0 [] rfl hC ⟨⟨e176, (k176 x0 x1 x2 _ h2)⟩, len_map _ _, trivial⟩ trivial (by kernel_rfl)
theorem e95 : Enters Tryz.prog 95 := Go.SL.enters_of Tryz.func95 (by kernel_rfl) (by kernel_rfl)
def lv169 : List Nat := [0, 1, 2, 3, 4, 6, 7, 9, 11, 20, 21, 22, 23, 29]
def st169_0 (y1 : api_Island × Bool) (i169_0 : Nat) (s169_0 : Int) : St := [(4, .d (.o 0 0)), (6, .d (I 0)), (7, .d (.o 1 0)), (9, .d (I s169_0)), (20, .d (DS pI y1.1.Consumers)), (21, .d (I (y1.1.Consumers.length : Int))), (22, .d (I (cnt 0 i169_0)))]
def R169_0 (x1 : api_Power) (y1 : api_Island × Bool) (i169_0 : Nat) (s169_0 : Int) : List Res := [.box 35 [DS pB x1.Closed, DS api_Running.ps x1.Sources, DS pI x1.Limits, DS api_Part.ps x1.Broken], .box 78 [DS pI y1.1.Buses, DS pI y1.1.Sources, DS pI y1.1.Consumers]]
def sa169_0  (s169_0 : Int) : St := [(6, .d (I 0)), (9, .d (I s169_0))]
def Ra169_0  (s169_0 : Int) : List Res := []
theorem k169 (x0 : api_Board) (x1 : api_Power) (x2 : Int) (r : Int) (h : F169 x0 x1 x2 = some r) : CallOk Tryz.prog 169 [.agg [I x0.Buses, DS api_Breaker.ps x0.Breakers, DS api_Source.ps x0.Sources, DS api_Consumer.ps x0.Consumers, I x0.Phase, I x0.Frequency], .agg [DS pB x1.Closed, DS api_Running.ps x1.Sources, DS pI x1.Limits, DS api_Part.ps x1.Broken], .d (I x2)] [] (.d (I r)) [] := by
  unfold F169 at h
  refine callOk_of 39 Tryz.func169 rfl rfl rfl fun C hC => ?_
  obtain ⟨y1, h2, h⟩ := bindE h
  refine WI_stop (bs := []) mixed lv169 30 [] [.call 176 [.agg [I x0.Buses, DS api_Breaker.ps x0.Breakers, DS api_Source.ps x0.Sources, DS api_Consumer.ps x0.Consumers, I x0.Phase, I x0.Frequency], .agg [DS pB x1.Closed, DS api_Running.ps x1.Sources, DS pI x1.Limits, DS api_Part.ps x1.Broken], .d (I x2)] [] (.tup [.agg [DS pI y1.1.Buses, DS pI y1.1.Sources, DS pI y1.1.Consumers], .d (Bo y1.2)]) [] [], .len ((y1.1.Consumers.map pI).length : Int) (y1.1.Consumers.length : Int)] [] 0 [1, 2] (st169_0 y1 0 0) (R169_0 x1 y1 0 0) hC ⟨⟨e176, (k176 x0 x1 x2 _ h2)⟩, len_map _ _, trivial⟩ trivial (by kernel_rfl) ?_
  obtain ⟨k169_0, hm169_0, hret169_0, hnext169_0⟩ := andThen_inv h
  clear h
  refine WI_cut (by kernel_rfl) (fun s => k169_0 = .next s) (sa169_0) (Ra169_0) ?_ fun s169_0 hs169_0 => ?_
  · refine WI_blk (by kernel_rfl) ?_
    refine WI_len 20 rfl fun hl169_0 => ?_
    refine WI_foldI (by kernel_rfl) (F169_l0 x1 y1) (st169_0 y1) (R169_0 x1 y1) k169_0 y1.1.Consumers 0 hm169_0 rfl rfl (fun s169_0 hn169_0 => ?_) fun i169_0 x169_0 s169_0 k169_0b hi169_0 hx169_0 h hb169_0 hr169_0 => ?_
    · clear hm169_0
      exact WI_end (bs := [(decide ((cnt 0 y1.1.Consumers.length) < (y1.1.Consumers.length : Int)), false)]) (φ := fun s' => k169_0 = .next s') (st' := (sa169_0)) (R' := (Ra169_0)) mixed lv169 26 [false] [] [] 0 [] s169_0 hC trivial ⟨(cnt_end hl169_0), trivial⟩ (by kernel_rfl) (by kernel_rfl) hn169_0
    · unfold F169_l0 at h
      rcases boolC (decide ((y1.1.Sources.length : Int) > 0)) with h3 | h3
      · replace h := condT h3 h
        obtain ⟨y4, h5, h⟩ := bindE h
        exact WI_end (bs := [(decide ((cnt 0 i169_0) < (y1.1.Consumers.length : Int)), true), (decide ((y1.1.Sources.length : Int) > 0), true)]) (φ := fun s' => k169_0b = .next s') (st' := (st169_0 y1 (i169_0 + 1))) (R' := (R169_0 x1 y1 (i169_0 + 1))) mixed lv169 36 [true, true] [.row (y1.1.Consumers.map pI) (cnt 0 i169_0) (pI x169_0), .len ((y1.1.Sources.map pI).length : Int) (y1.1.Sources.length : Int), .row (x1.Limits.map pI) x169_0 (pI y4)] [] 0 [0, 1] (w64 (s169_0 + y4)) hC ⟨(row_cnt hx169_0 hl169_0), len_map _ _, row_get h5, trivial⟩ ⟨(cnt_lt hi169_0 hl169_0), h3, trivial⟩ (by kernel_rfl) (by kernel_rfl) (Option.some.inj h).symm
      · replace h := condF h3 h
        exact WI_end (bs := [(decide ((cnt 0 i169_0) < (y1.1.Consumers.length : Int)), true), (decide ((y1.1.Sources.length : Int) > 0), false)]) (φ := fun s' => k169_0b = .next s') (st' := (st169_0 y1 (i169_0 + 1))) (R' := (R169_0 x1 y1 (i169_0 + 1))) mixed lv169 36 [true, false] [.row (y1.1.Consumers.map pI) (cnt 0 i169_0) (pI x169_0), .len ((y1.1.Sources.map pI).length : Int) (y1.1.Sources.length : Int)] [] 0 [0, 1] s169_0 hC ⟨(row_cnt hx169_0 hl169_0), len_map _ _, trivial⟩ ⟨(cnt_lt hi169_0 hl169_0), h3, trivial⟩ (by kernel_rfl) (by kernel_rfl) (Option.some.inj h).symm
  · have h := hnext169_0 _ hs169_0
    replace h := Option.some.inj h
    subst h
    exact WI_ret (bs := []) mixed lv169 23 [] [] [] [.tmp 6] 0 [] rfl hC trivial trivial (by kernel_rfl)
theorem e169 : Enters Tryz.prog 169 := Go.SL.enters_of Tryz.func169 (by kernel_rfl) (by kernel_rfl)
def lv170 : List Nat := [0, 1, 2, 3, 4, 6, 7, 9, 11, 20, 21, 22, 23]
def st170_0 (y1 : api_Island × Bool) (i170_0 : Nat) (s170_0 : Int) : St := [(3, .d (.o 0 0)), (6, .d (I 0)), (9, .d (I s170_0)), (20, .d (DS pI y1.1.Sources)), (21, .d (I (y1.1.Sources.length : Int))), (22, .d (I (cnt 0 i170_0)))]
def R170_0 (x0 : api_Board) (i170_0 : Nat) (s170_0 : Int) : List Res := [.box 29 [I x0.Buses, DS api_Breaker.ps x0.Breakers, DS api_Source.ps x0.Sources, DS api_Consumer.ps x0.Consumers, I x0.Phase, I x0.Frequency]]
def sa170_0  (s170_0 : Int) : St := [(6, .d (I 0)), (9, .d (I s170_0))]
def Ra170_0  (s170_0 : Int) : List Res := []
theorem k170 (x0 : api_Board) (x1 : api_Power) (x2 : Int) (r : Int) (h : F170 x0 x1 x2 = some r) : CallOk Tryz.prog 170 [.agg [I x0.Buses, DS api_Breaker.ps x0.Breakers, DS api_Source.ps x0.Sources, DS api_Consumer.ps x0.Consumers, I x0.Phase, I x0.Frequency], .agg [DS pB x1.Closed, DS api_Running.ps x1.Sources, DS pI x1.Limits, DS api_Part.ps x1.Broken], .d (I x2)] [] (.d (I r)) [] := by
  unfold F170 at h
  refine callOk_of 36 Tryz.func170 rfl rfl rfl fun C hC => ?_
  obtain ⟨y1, h2, h⟩ := bindE h
  refine WI_stop (bs := []) mixed lv170 30 [] [.call 176 [.agg [I x0.Buses, DS api_Breaker.ps x0.Breakers, DS api_Source.ps x0.Sources, DS api_Consumer.ps x0.Consumers, I x0.Phase, I x0.Frequency], .agg [DS pB x1.Closed, DS api_Running.ps x1.Sources, DS pI x1.Limits, DS api_Part.ps x1.Broken], .d (I x2)] [] (.tup [.agg [DS pI y1.1.Buses, DS pI y1.1.Sources, DS pI y1.1.Consumers], .d (Bo y1.2)]) [] [], .len ((y1.1.Sources.map pI).length : Int) (y1.1.Sources.length : Int)] [] 0 [0] (st170_0 y1 0 0) (R170_0 x0 0 0) hC ⟨⟨e176, (k176 x0 x1 x2 _ h2)⟩, len_map _ _, trivial⟩ trivial (by kernel_rfl) ?_
  obtain ⟨k170_0, hm170_0, hret170_0, hnext170_0⟩ := andThen_inv h
  clear h
  refine WI_cut (by kernel_rfl) (fun s => k170_0 = .next s) (sa170_0) (Ra170_0) ?_ fun s170_0 hs170_0 => ?_
  · refine WI_blk (by kernel_rfl) ?_
    refine WI_len 20 rfl fun hl170_0 => ?_
    refine WI_foldI (by kernel_rfl) (F170_l0 x0) (st170_0 y1) (R170_0 x0) k170_0 y1.1.Sources 0 hm170_0 rfl rfl (fun s170_0 hn170_0 => ?_) fun i170_0 x170_0 s170_0 k170_0b hi170_0 hx170_0 h hb170_0 hr170_0 => ?_
    · clear hm170_0
      exact WI_end (bs := [(decide ((cnt 0 y1.1.Sources.length) < (y1.1.Sources.length : Int)), false)]) (φ := fun s' => k170_0 = .next s') (st' := (sa170_0)) (R' := (Ra170_0)) mixed lv170 26 [false] [] [] 0 [] s170_0 hC trivial ⟨(cnt_end hl170_0), trivial⟩ (by kernel_rfl) (by kernel_rfl) hn170_0
    · unfold F170_l0 at h
      obtain ⟨y3, h4, h⟩ := bindE h
      exact WI_end (bs := [(decide ((cnt 0 i170_0) < (y1.1.Sources.length : Int)), true)]) (φ := fun s' => k170_0b = .next s') (st' := (st170_0 y1 (i170_0 + 1))) (R' := (R170_0 x0 (i170_0 + 1))) mixed lv170 33 [true] [.row (y1.1.Sources.map pI) (cnt 0 i170_0) (pI x170_0), .row (x0.Sources.map api_Source.ps) x170_0 (api_Source.ps y3)] [] 0 [0] (w64 (s170_0 + y3.Rating)) hC ⟨(row_cnt hx170_0 hl170_0), row_get h4, trivial⟩ ⟨(cnt_lt hi170_0 hl170_0), trivial⟩ (by kernel_rfl) (by kernel_rfl) (Option.some.inj h).symm
  · have h := hnext170_0 _ hs170_0
    replace h := Option.some.inj h
    subst h
    exact WI_ret (bs := []) mixed lv170 23 [] [] [] [.tmp 6] 0 [] rfl hC trivial trivial (by kernel_rfl)
theorem e170 : Enters Tryz.prog 170 := Go.SL.enters_of Tryz.func170 (by kernel_rfl) (by kernel_rfl)
def lv251 : List Nat := [0, 1, 2, 3, 4, 5, 6, 7, 8, 9, 10, 20, 22, 23, 49]
theorem k251 (x0 : api_Board) (x1 : api_Power) (x2 : api_Breaker) (r : Bool) (h : F251 x0 x1 x2 = some r) : CallOk Tryz.prog 251 [.agg [I x0.Buses, DS api_Breaker.ps x0.Breakers, DS api_Source.ps x0.Sources, DS api_Consumer.ps x0.Consumers, I x0.Phase, I x0.Frequency], .agg [DS pB x1.Closed, DS api_Running.ps x1.Sources, DS pI x1.Limits, DS api_Part.ps x1.Broken], .agg [I x2.Kind, I x2.A, I x2.B]] [] (.d (Bo r)) [] := by
  unfold F251 at h
  refine callOk_of 64 Tryz.func251 rfl rfl rfl fun C hC => ?_
  obtain ⟨y1, h2, h⟩ := bindE h
  refine WI_stop (bs := []) mixed lv251 28 [] [.call 214 [.agg [I x0.Buses, DS api_Breaker.ps x0.Breakers, DS api_Source.ps x0.Sources, DS api_Consumer.ps x0.Consumers, I x0.Phase, I x0.Frequency], .agg [DS pB x1.Closed, DS api_Running.ps x1.Sources, DS pI x1.Limits, DS api_Part.ps x1.Broken], .d (I x2.A)] [] (.tup [.d (I y1.1), .d (Bo y1.2)]) [] []] [] 0 [0, 1, 2] [(3, .d (.o 0 0)), (4, .d (.o 1 0)), (5, .d (.o 2 0)), (6, .d (Bo false)), (7, .d (I y1.1)), (20, .d (Bo (!y1.2)))] [.box 29 [I x0.Buses, DS api_Breaker.ps x0.Breakers, DS api_Source.ps x0.Sources, DS api_Consumer.ps x0.Consumers, I x0.Phase, I x0.Frequency], .box 35 [DS pB x1.Closed, DS api_Running.ps x1.Sources, DS pI x1.Limits, DS api_Part.ps x1.Broken], .box 66 [I x2.Kind, I x2.A, I x2.B]] hC ⟨⟨e214, (k214 x0 x1 x2.A _ h2)⟩, trivial⟩ trivial (by kernel_rfl) ?_
  rcases boolC (!y1.2) with h3 | h3
  · replace h := condT h3 h
    replace h := Option.some.inj h
    subst h
    exact WI_ret (bs := [(!y1.2, true)]) mixed lv251 24 [true] [] [] [.tmp 6] 0 [] rfl hC trivial ⟨h3, trivial⟩ (by kernel_rfl)
  · replace h := condF h3 h
    rcases boolC ((x2.Kind == 1)) with h4 | h4
    · replace h := condT h4 h
      obtain ⟨y5, h6, h⟩ := bindE h
      obtain ⟨y7, h8, h⟩ := bindE h
      obtain ⟨y9, h10, h⟩ := bindE h
      replace h := Option.some.inj h
      subst h
      exact WI_ret (bs := [(!y1.2, false), ((x2.Kind == 1), true)]) mixed lv251 34 [false, true] [.call 214 [.agg [I x0.Buses, DS api_Breaker.ps x0.Breakers, DS api_Source.ps x0.Sources, DS api_Consumer.ps x0.Consumers, I x0.Phase, I x0.Frequency], .agg [DS pB x1.Closed, DS api_Running.ps x1.Sources, DS pI x1.Limits, DS api_Part.ps x1.Broken], .d (I x2.B)] [] (.tup [.d (I y5.1), .d (Bo y5.2)]) [] [], .when [(!y5.2, false)] (.row (x1.Sources.map api_Running.ps) y1.1 (api_Running.ps y7)), .when [(!y5.2, false)] (.row (x1.Sources.map api_Running.ps) y5.1 (api_Running.ps y9)), .when [(!y5.2, false)] (.call 274 [.agg [I x0.Buses, DS api_Breaker.ps x0.Breakers, DS api_Source.ps x0.Sources, DS api_Consumer.ps x0.Consumers, I x0.Phase, I x0.Frequency], .agg [I y7.State, I y7.Since, I y7.Frequency, I y7.Phase], .agg [I y9.State, I y9.Since, I y9.Frequency, I y9.Phase]] [] (.d (Bo (F274 x0 y7 y9))) [] [])] [] [.tmp 6] 0 [] rfl hC ⟨⟨e214, (k214 x0 x1 x2.B _ h6)⟩, fun hg => row_get (guardO_get h8 hg), fun hg => row_get (guardO_get h10 hg), fun hg => ⟨e274, (k274 x0 y7 y9 _ rfl)⟩, trivial⟩ ⟨h3, h4, trivial⟩ (by kernel_rfl)
    · replace h := condF h4 h
      rcases boolC ((x2.Kind == 2)) with h11 | h11
      · replace h := condT h11 h
        obtain ⟨y12, h13, h⟩ := bindE h
        obtain ⟨y14, h15, h⟩ := bindE h
        replace h := Option.some.inj h
        subst h
        exact WI_ret (bs := [(!y1.2, false), ((x2.Kind == 1), false), ((x2.Kind == 2), true)]) mixed lv251 35 [false, false, true] [.row (x1.Sources.map api_Running.ps) y1.1 (api_Running.ps y12), .row (x1.Sources.map api_Running.ps) x2.B (api_Running.ps y14), .call 274 [.agg [I x0.Buses, DS api_Breaker.ps x0.Breakers, DS api_Source.ps x0.Sources, DS api_Consumer.ps x0.Consumers, I x0.Phase, I x0.Frequency], .agg [I y12.State, I y12.Since, I y12.Frequency, I y12.Phase], .agg [I y14.State, I y14.Since, I y14.Frequency, I y14.Phase]] [] (.d (Bo (F274 x0 y12 y14))) [] []] [] [.tmp 6] 0 [] rfl hC ⟨row_get h13, row_get h15, ⟨e274, (k274 x0 y12 y14 _ rfl)⟩, trivial⟩ ⟨h3, h4, h11, trivial⟩ (by kernel_rfl)
      · replace h := condF h11 h
        replace h := Option.some.inj h
        subst h
        exact WI_ret (bs := [(!y1.2, false), ((x2.Kind == 1), false), ((x2.Kind == 2), false)]) mixed lv251 37 [false, false, false] [] [] [.tmp 6] 0 [] rfl hC trivial ⟨h3, h4, h11, trivial⟩ (by kernel_rfl)
theorem e251 : Enters Tryz.prog 251 := Go.SL.enters_of Tryz.func251 (by kernel_rfl) (by kernel_rfl)
def lv144 : List Nat := [0, 1, 2, 3, 4, 5, 8, 9, 10, 11, 12, 13, 14, 15, 16, 17, 23, 44, 63, 76]
theorem k144 (x0 : api_Board) (x1 : api_Power) (x2 : Int) (x3 : Int) (r : api_Power × Int) (h : F144 x0 x1 x2 x3 = some r) : CallOk Tryz.prog 144 [.agg [I x0.Buses, DS api_Breaker.ps x0.Breakers, DS api_Source.ps x0.Sources, DS api_Consumer.ps x0.Consumers, I x0.Phase, I x0.Frequency], .agg [DS pB x1.Closed, DS api_Running.ps x1.Sources, DS pI x1.Limits, DS api_Part.ps x1.Broken], .d (I x2), .d (I x3)] [] (.tup [.agg [.os 0, .os 1, .os 2, .os 3], .d (I r.2)]) [.sl 4 1 (r.1.Closed.map pB), .sl 59 4 (r.1.Sources.map api_Running.ps), .sl 3 1 (r.1.Limits.map pI), .sl 119 2 (r.1.Broken.map api_Part.ps)] := by
  unfold F144 at h
  refine callOk_of 95 Tryz.func144 rfl rfl rfl fun C hC => ?_
  obtain ⟨y1, h2, h⟩ := bindE h
  refine WI_stop (bs := []) mixed lv144 28 [] [.call 65 [.agg [I x0.Buses, DS api_Breaker.ps x0.Breakers, DS api_Source.ps x0.Sources, DS api_Consumer.ps x0.Consumers, I x0.Phase, I x0.Frequency], .agg [DS pB x1.Closed, DS api_Running.ps x1.Sources, DS pI x1.Limits, DS api_Part.ps x1.Broken]] [] (.d (I y1)) [] []] [.ownb 2 0 4 1, .ownb 2 1 59 4, .ownb 2 2 3 1, .ownb 2 3 119 2] 0 [0, 1, 2, 3, 4, 5, 6] [(2, .d (I x2)), (3, .d (I x3)), (4, .d (.o 0 0)), (5, .d (.o 1 0)), (8, .d (.o 2 0)), (9, .d (I 0)), (10, .d (I y1)), (23, .d (Bo (y1 != 0)))] [.box 29 [I x0.Buses, DS api_Breaker.ps x0.Breakers, DS api_Source.ps x0.Sources, DS api_Consumer.ps x0.Consumers, I x0.Phase, I x0.Frequency], .box 35 [DS pB x1.Closed, DS api_Running.ps x1.Sources, DS pI x1.Limits, DS api_Part.ps x1.Broken], .box 35 [.os 3, .os 4, .os 5, .os 6], .sl 4 1 (([] : List Bool).map pB), .sl 59 4 (([] : List api_Running).map api_Running.ps), .sl 3 1 (([] : List Int).map pI), .sl 119 2 (([] : List api_Part).map api_Part.ps)] hC ⟨⟨e65, (k65 x0 x1 _ h2)⟩, trivial⟩ trivial (by kernel_rfl) ?_
  rcases boolC ((y1 != 0)) with h3 | h3
  · replace h := condT h3 h
    replace h := Option.some.inj h
    subst h
    exact WI_ret (bs := [((y1 != 0), true)]) mixed lv144 24 [true] [] [.ownb 2 0 4 1, .ownb 2 1 59 4, .ownb 2 2 3 1, .ownb 2 3 119 2] [.cell 8 35, .tmp 9] 0 [7, 8, 9, 10] rfl hC trivial ⟨h3, trivial⟩ (by kernel_rfl)
  · replace h := condF h3 h
    rcases boolC ((c144_0 x0 x2 x3)) with h4 | h4
    · replace h := condT h4 h
      replace h := Option.some.inj h
      subst h
      exact WI_ret (bs := [((y1 != 0), false), ((c144_0 x0 x2 x3), true)]) mixed lv144 29 [false, true] [.when [(decide (x2 < 0), false)] (.len ((x0.Sources.map api_Source.ps).length : Int) (x0.Sources.length : Int))] [.ownb 2 0 4 1, .ownb 2 1 59 4, .ownb 2 2 3 1, .ownb 2 3 119 2] [.cell 8 35, .tmp 9] 0 [7, 8, 9, 10] rfl hC ⟨fun hg => len_map _ _, trivial⟩ ⟨h3, h4, trivial⟩ (by kernel_rfl)
    · replace h := condF h4 h
      obtain ⟨y5, h6, h⟩ := bindE h
      obtain ⟨y7, h8, h⟩ := bindE h
      refine WI_stop (bs := [((y1 != 0), false), ((c144_0 x0 x2 x3), false)]) mixed lv144 33 [false, false] [.when [(decide (x2 < 0), false)] (.len ((x0.Sources.map api_Source.ps).length : Int) (x0.Sources.length : Int)), .call 214 [.agg [I x0.Buses, DS api_Breaker.ps x0.Breakers, DS api_Source.ps x0.Sources, DS api_Consumer.ps x0.Consumers, I x0.Phase, I x0.Frequency], .agg [DS pB x1.Closed, DS api_Running.ps x1.Sources, DS pI x1.Limits, DS api_Part.ps x1.Broken], .d (I x3)] [] (.tup [.d (I y5.1), .d (Bo y5.2)]) [] [], .when [(!y5.2, false)] (.row (x1.Sources.map api_Running.ps) x2 (api_Running.ps y7))] [] 0 [0, 1, 2, 3, 4, 5, 6] [(2, .d (I x2)), (4, .d (.o 0 0)), (5, .d (.o 1 0)), (8, .d (.o 2 0)), (9, .d (I 0)), (11, .d (I y5.1)), (63, .d (Bo ((!y5.2) || (y7.State != 2))))] [.box 29 [I x0.Buses, DS api_Breaker.ps x0.Breakers, DS api_Source.ps x0.Sources, DS api_Consumer.ps x0.Consumers, I x0.Phase, I x0.Frequency], .box 35 [DS pB x1.Closed, DS api_Running.ps x1.Sources, DS pI x1.Limits, DS api_Part.ps x1.Broken], .box 35 [.os 3, .os 4, .os 5, .os 6], .sl 4 1 (([] : List Bool).map pB), .sl 59 4 (([] : List api_Running).map api_Running.ps), .sl 3 1 (([] : List Int).map pI), .sl 119 2 (([] : List api_Part).map api_Part.ps)] hC ⟨fun hg => len_map _ _, ⟨e214, (k214 x0 x1 x3 _ h6)⟩, fun hg => row_get (guardO_get h8 hg), trivial⟩ ⟨h3, h4, trivial⟩ (by kernel_rfl) ?_
      rcases boolC (((!y5.2) || (y7.State != 2))) with h9 | h9
      · replace h := condT h9 h
        replace h := Option.some.inj h
        subst h
        exact WI_ret (bs := [(((!y5.2) || (y7.State != 2)), true)]) mixed lv144 24 [true] [] [.ownb 2 0 4 1, .ownb 2 1 59 4, .ownb 2 2 3 1, .ownb 2 3 119 2] [.cell 8 35, .tmp 9] 0 [7, 8, 9, 10] rfl hC trivial ⟨h9, trivial⟩ (by kernel_rfl)
      · replace h := condF h9 h
        obtain ⟨y10, h11, h⟩ := bindE h
        obtain ⟨y12, h13, h⟩ := bindE h
        refine WI_stop (bs := [(((!y5.2) || (y7.State != 2)), false)]) mixed lv144 32 [false] [.call 70 [.agg [DS pB x1.Closed, DS api_Running.ps x1.Sources, DS pI x1.Limits, DS api_Part.ps x1.Broken]] [] (.agg [.os 0, .os 1, .os 2, .os 3]) [.sl 4 1 (y10.Closed.map pB), .sl 59 4 (y10.Sources.map api_Running.ps), .sl 3 1 (y10.Limits.map pI), .sl 119 2 (y10.Broken.map api_Part.ps)] [], .call 215 [.agg [I x0.Buses, DS api_Breaker.ps x0.Breakers, DS api_Source.ps x0.Sources, DS api_Consumer.ps x0.Consumers, I x0.Phase, I x0.Frequency], .agg [DS pB x1.Closed, DS api_Running.ps x1.Sources, DS pI x1.Limits, DS api_Part.ps x1.Broken], .d (I x2)] [] (.tup [.d (I y12.1), .d (Bo y12.2)]) [] []] [] 0 [0, 1, 2, 3, 4, 5, 6, 7, 8, 9, 10, 11] [(4, .d (.o 0 0)), (5, .d (.o 1 0)), (8, .d (.o 2 0)), (9, .d (I 0)), (11, .d (I y5.1)), (13, .d (.o 11 0)), (14, .d (DS pI [x2])), (15, .d (I y12.1)), (76, .d (Bo y12.2))] [.box 29 [I x0.Buses, DS api_Breaker.ps x0.Breakers, DS api_Source.ps x0.Sources, DS api_Consumer.ps x0.Consumers, I x0.Phase, I x0.Frequency], .box 35 [DS pB x1.Closed, DS api_Running.ps x1.Sources, DS pI x1.Limits, DS api_Part.ps x1.Broken], .box 35 [.os 3, .os 4, .os 5, .os 6], .sl 4 1 (([] : List Bool).map pB), .sl 59 4 (([] : List api_Running).map api_Running.ps), .sl 3 1 (([] : List Int).map pI), .sl 119 2 (([] : List api_Part).map api_Part.ps), .sl 4 1 (y10.Closed.map pB), .sl 59 4 (y10.Sources.map api_Running.ps), .sl 3 1 (y10.Limits.map pI), .sl 119 2 (y10.Broken.map api_Part.ps), .box 35 [.os 7, .os 8, .os 9, .os 10]] hC ⟨⟨e70, (k70 x1 _ h11)⟩, ⟨e215, (k215 x0 x1 x2 _ h13)⟩, trivial⟩ ⟨h9, trivial⟩ (by kernel_rfl) ?_
        rcases boolC (y12.2) with h14 | h14
        · replace h := condT h14 h
          obtain ⟨y15, h16, h⟩ := bindE h
          obtain ⟨y17, h18, h⟩ := bindE h
          obtain ⟨y19, h20, h⟩ := bindE h
          replace h := Option.some.inj h
          subst h
          exact WI_ret (bs := [(y12.2, true)]) mixed lv144 29 [true] [.call 176 [.agg [I x0.Buses, DS api_Breaker.ps x0.Breakers, DS api_Source.ps x0.Sources, DS api_Consumer.ps x0.Consumers, I x0.Phase, I x0.Frequency], .agg [DS pB x1.Closed, DS api_Running.ps x1.Sources, DS pI x1.Limits, DS api_Part.ps x1.Broken], .d (I y12.1)] [] (.tup [.agg [DS pI y15.1.Buses, DS pI y15.1.Sources, DS pI y15.1.Consumers], .d (Bo y15.2)]) [] [], .row (x1.Sources.map api_Running.ps) y5.1 (api_Running.ps y17), .call 183 [.agg [.os 0, .os 1, .os 2, .os 3], .d (DS pI y15.1.Sources), .agg [I y17.State, I y17.Since, I y17.Frequency, I y17.Phase]] [.sl 4 1 (y10.Closed.map pB), .sl 59 4 (y10.Sources.map api_Running.ps), .sl 3 1 (y10.Limits.map pI), .sl 119 2 (y10.Broken.map api_Part.ps)] (.tup []) [.sl 4 1 (y10.Closed.map pB), .sl 59 4 (y19.map api_Running.ps), .sl 3 1 (y10.Limits.map pI), .sl 119 2 (y10.Broken.map api_Part.ps)] [7, 8, 9, 10]] [] [.cell 8 35, .tmp 9] 0 [7, 8, 9, 10] rfl hC ⟨⟨e176, (k176 x0 x1 y12.1 _ h16)⟩, row_get h18, ⟨e183s0, (k183s0 y10 y15.1.Sources y17 _ h20)⟩, trivial⟩ ⟨h14, trivial⟩ (by kernel_rfl)
        · replace h := condF h14 h
          obtain ⟨y21, h22, h⟩ := bindE h
          obtain ⟨y23, h24, h⟩ := bindE h
          replace h := Option.some.inj h
          subst h
          exact WI_ret (bs := [(y12.2, false)]) mixed lv144 27 [false] [.row (x1.Sources.map api_Running.ps) y5.1 (api_Running.ps y21), .call 183 [.agg [.os 0, .os 1, .os 2, .os 3], .d (DS pI [x2]), .agg [I y21.State, I y21.Since, I y21.Frequency, I y21.Phase]] [.sl 4 1 (y10.Closed.map pB), .sl 59 4 (y10.Sources.map api_Running.ps), .sl 3 1 (y10.Limits.map pI), .sl 119 2 (y10.Broken.map api_Part.ps)] (.tup []) [.sl 4 1 (y10.Closed.map pB), .sl 59 4 (y23.map api_Running.ps), .sl 3 1 (y10.Limits.map pI), .sl 119 2 (y10.Broken.map api_Part.ps)] [7, 8, 9, 10]] [] [.cell 8 35, .tmp 9] 0 [7, 8, 9, 10] rfl hC ⟨row_get h22, ⟨e183s0, (k183s0 y10 [x2] y21 _ h24)⟩, trivial⟩ ⟨h14, trivial⟩ (by kernel_rfl)
theorem e144 : Enters Tryz.prog 144 := Go.SL.enters_of Tryz.func144 (by kernel_rfl) (by kernel_rfl)
theorem k224s0 (x0 : api_Breaker) (x1 : shed_relief) (r : Bool × shed_relief) (h : F224s0 x0 x1 = some r) : CallOk Tryz.prog 224 [.agg [I x0.Kind, I x0.A, I x0.B], .d (.o 0 0)] [.box 198 [.o 1 0], .box 244 [I x1.board.Buses, DS api_Breaker.ps x1.board.Breakers, DS api_Source.ps x1.board.Sources, DS api_Consumer.ps x1.board.Consumers, I x1.board.Phase, I x1.board.Frequency, .os 2, .os 3, .os 4, .os 5, .os 6], .sl 4 1 (x1.power.Closed.map pB), .sl 59 4 (x1.power.Sources.map api_Running.ps), .sl 3 1 (x1.power.Limits.map pI), .sl 119 2 (x1.power.Broken.map api_Part.ps), .sl 42 3 (x1.acts.map api_Act.ps)] (.d (Bo r.1)) [.box 198 [.o 1 0], .box 244 [I r.2.board.Buses, DS api_Breaker.ps r.2.board.Breakers, DS api_Source.ps r.2.board.Sources, DS api_Consumer.ps r.2.board.Consumers, I r.2.board.Phase, I r.2.board.Frequency, .os 2, .os 3, .os 4, .os 5, .os 6], .sl 4 1 (r.2.power.Closed.map pB), .sl 59 4 (r.2.power.Sources.map api_Running.ps), .sl 3 1 (r.2.power.Limits.map pI), .sl 119 2 (r.2.power.Broken.map api_Part.ps), .sl 42 3 (r.2.acts.map api_Act.ps)] := by
  unfold F224s0 at h
  refine callOk_of 21 Tryz.func224 rfl rfl rfl fun C hC => ?_
  obtain ⟨y1, h2, h⟩ := bindE h
  replace h := Option.some.inj h
  subst h
  exact WI_ret (bs := []) mixed [0, 1, 2, 3] 25 [] [.when [((x0.Kind == 3), true)] (.callB 95 [.agg [I x1.board.Buses, DS api_Breaker.ps x1.board.Breakers, DS api_Source.ps x1.board.Sources, DS api_Consumer.ps x1.board.Consumers, I x1.board.Phase, I x1.board.Frequency], .agg [DS pB x1.power.Closed, DS api_Running.ps x1.power.Sources, DS pI x1.power.Limits, DS api_Part.ps x1.power.Broken], .d (I x0.A)] (.d (Bo y1)) [[]] 0 [])] [] [.tmp 3] 7 [0, 1, 2, 3, 4, 5, 6] rfl hC ⟨fun hg => lend0_get ⟨e95, (k95 x1.board x1.power x0.A _ (guardO_get h2 hg))⟩, trivial⟩ trivial (by kernel_rfl)
theorem e224s0 : Enters Tryz.prog 224 := Go.SL.enters_of Tryz.func224 (by kernel_rfl) (by kernel_rfl)
theorem k257s0 (x0 : shed_relief) (x1 : Int) (r : Int) (h : F257s0 x0 x1 = some r) : CallOk Tryz.prog 257 [.d (.ip [.v (.int .i64 x0.board.Buses), .s (x0.board.Breakers.map api_Breaker.ps), .s (x0.board.Sources.map api_Source.ps), .s (x0.board.Consumers.map api_Consumer.ps), .v (.int .i64 x0.board.Phase), .v (.int .i64 x0.board.Frequency), .s (x0.power.Closed.map pB), .s (x0.power.Sources.map api_Running.ps), .s (x0.power.Limits.map pI), .s (x0.power.Broken.map api_Part.ps), .s (x0.acts.map api_Act.ps)]), .d (I x1)] [] (.d (I r)) [] := by
  unfold F257s0 at h
  refine callOk_of 27 Tryz.func257 rfl rfl rfl fun C hC => ?_
  obtain ⟨y1, h2, h⟩ := bindE h
  obtain ⟨y3, h4, h⟩ := bindE h
  replace h := Option.some.inj h
  subst h
  exact WI_ret (bs := []) mixed [0, 1, 4] 25 [] [.call 169 [.agg [I x0.board.Buses, DS api_Breaker.ps x0.board.Breakers, DS api_Source.ps x0.board.Sources, DS api_Consumer.ps x0.board.Consumers, I x0.board.Phase, I x0.board.Frequency], .agg [DS pB x0.power.Closed, DS api_Running.ps x0.power.Sources, DS pI x0.power.Limits, DS api_Part.ps x0.power.Broken], .d (I x1)] [] (.d (I y1)) [] [], .call 170 [.agg [I x0.board.Buses, DS api_Breaker.ps x0.board.Breakers, DS api_Source.ps x0.board.Sources, DS api_Consumer.ps x0.board.Consumers, I x0.board.Phase, I x0.board.Frequency], .agg [DS pB x0.power.Closed, DS api_Running.ps x0.power.Sources, DS pI x0.power.Limits, DS api_Part.ps x0.power.Broken], .d (I x1)] [] (.d (I y3)) [] []] [] [.tmp 4] 0 [] rfl hC ⟨⟨e169, (k169 x0.board x0.power x1 _ h2)⟩, ⟨e170, (k170 x0.board x0.power x1 _ h4)⟩, trivial⟩ trivial (by kernel_rfl)
theorem e257s0 : Enters Tryz.prog 257 := Go.SL.enters_of Tryz.func257 (by kernel_rfl) (by kernel_rfl)
def lv83 : List Nat := [0, 1, 2, 3, 4, 5, 6, 8, 9, 10, 11, 37]
def st83_0 (x0 : api_Board) (i83_0 : Nat) (s83_0 : Unit) : St := [(2, .d (.o 0 0)), (3, .d (.o 1 0)), (4, .d (Bo false)), (8, .d (DS api_Breaker.ps x0.Breakers)), (9, .d (I (x0.Breakers.length : Int))), (10, .d (I (cnt 0 i83_0)))]
def R83_0 (x0 : api_Board) (x1 : api_Power) (i83_0 : Nat) (s83_0 : Unit) : List Res := [.box 29 [I x0.Buses, DS api_Breaker.ps x0.Breakers, DS api_Source.ps x0.Sources, DS api_Consumer.ps x0.Consumers, I x0.Phase, I x0.Frequency], .box 35 [DS pB x1.Closed, DS api_Running.ps x1.Sources, DS pI x1.Limits, DS api_Part.ps x1.Broken]]
def sa83_0  (s83_0 : Unit) : St := [(4, .d (Bo false))]
def Ra83_0  (s83_0 : Unit) : List Res := []
theorem k83 (x0 : api_Board) (x1 : api_Power) (r : Bool) (h : F83 x0 x1 = some r) : CallOk Tryz.prog 83 [.agg [I x0.Buses, DS api_Breaker.ps x0.Breakers, DS api_Source.ps x0.Sources, DS api_Consumer.ps x0.Consumers, I x0.Phase, I x0.Frequency], .agg [DS pB x1.Closed, DS api_Running.ps x1.Sources, DS pI x1.Limits, DS api_Part.ps x1.Broken]] [] (.d (Bo r)) [] := by
  unfold F83 at h
  refine callOk_of 39 Tryz.func83 rfl rfl rfl fun C hC => ?_
  refine WI_stop (bs := []) mixed lv83 26 [] [.len ((x0.Breakers.map api_Breaker.ps).length : Int) (x0.Breakers.length : Int)] [] 0 [0, 1] (st83_0 x0 0 ()) (R83_0 x0 x1 0 ()) hC ⟨len_map _ _, trivial⟩ trivial (by kernel_rfl) ?_
  obtain ⟨k83_0, hm83_0, hret83_0, hnext83_0⟩ := andThen_inv h
  clear h
  refine WI_cut (by kernel_rfl) (fun s => k83_0 = .next s) (sa83_0) (Ra83_0) ?_ fun s83_0 hs83_0 => ?_
  · refine WI_blk (by kernel_rfl) ?_
    refine WI_len 8 rfl fun hl83_0 => ?_
    refine WI_foldI (by kernel_rfl) (F83_l0 x0 x1) (st83_0 x0) (R83_0 x0 x1) k83_0 x0.Breakers () hm83_0 rfl rfl (fun s83_0 hn83_0 => ?_) fun i83_0 x83_0 s83_0 k83_0b hi83_0 hx83_0 h hb83_0 hr83_0 => ?_
    · clear hm83_0
      exact WI_end (bs := [(decide ((cnt 0 x0.Breakers.length) < (x0.Breakers.length : Int)), false)]) (φ := fun s' => k83_0 = .next s') (st' := (sa83_0)) (R' := (Ra83_0)) mixed lv83 26 [false] [] [] 0 [] () hC trivial ⟨(cnt_end hl83_0), trivial⟩ (by kernel_rfl) (by kernel_rfl) hn83_0
    · unfold F83_l0 at h
      obtain ⟨y1, h2, h⟩ := bindE h
      obtain ⟨y3, h4, h⟩ := bindE h
      obtain ⟨y5, h6, h⟩ := bindE h
      refine WI_stop (bs := [(decide ((cnt 0 i83_0) < (x0.Breakers.length : Int)), true)]) mixed lv83 32 [true] [.row (x0.Breakers.map api_Breaker.ps) (cnt 0 i83_0) (api_Breaker.ps x83_0), .when [((x83_0.Kind == 1), true)] (.row (x1.Closed.map pB) (cnt 0 i83_0) (pB y1)), .when [(((x83_0.Kind == 1) && y1), true)] (.call 134 [.agg [DS pB x1.Closed, DS api_Running.ps x1.Sources, DS pI x1.Limits, DS api_Part.ps x1.Broken], .d (I 2), .d (I (cnt 0 i83_0))] [] (.d (Bo y3)) [] []), .when [((((x83_0.Kind == 1) && y1) && y3), true)] (.call 95 [.agg [I x0.Buses, DS api_Breaker.ps x0.Breakers, DS api_Source.ps x0.Sources, DS api_Consumer.ps x0.Consumers, I x0.Phase, I x0.Frequency], .agg [DS pB x1.Closed, DS api_Running.ps x1.Sources, DS pI x1.Limits, DS api_Part.ps x1.Broken], .d (I x83_0.A)] [] (.d (Bo y5)) [] [])] [] 0 [0, 1] [(2, .d (.o 0 0)), (3, .d (.o 1 0)), (4, .d (Bo false)), (8, .d (DS api_Breaker.ps x0.Breakers)), (9, .d (I (x0.Breakers.length : Int))), (10, .d (I (cnt 0 i83_0))), (37, .d (Bo (c83_1 x83_0 y1 y3 y5)))] [.box 29 [I x0.Buses, DS api_Breaker.ps x0.Breakers, DS api_Source.ps x0.Sources, DS api_Consumer.ps x0.Consumers, I x0.Phase, I x0.Frequency], .box 35 [DS pB x1.Closed, DS api_Running.ps x1.Sources, DS pI x1.Limits, DS api_Part.ps x1.Broken]] hC ⟨(row_cnt hx83_0 hl83_0), fun hg => row_get (guardO_get h2 hg), fun hg => ⟨e134, (k134 x1 2 (cnt 0 i83_0) _ (guardO_get h4 hg))⟩, fun hg => ⟨e95, (k95 x0 x1 x83_0.A _ (guardO_get h6 hg))⟩, trivial⟩ ⟨(cnt_lt hi83_0 hl83_0), trivial⟩ (by kernel_rfl) ?_
      rcases boolC ((c83_1 x83_0 y1 y3 y5)) with h7 | h7
      · replace h := condT h7 h
        have hq := hret83_0 _ (hr83_0 _ (Option.some.inj h).symm)
        replace hq := Option.some.inj hq
        subst hq
        exact WI_ret (bs := [((c83_1 x83_0 y1 y3 y5), true)]) mixed lv83 24 [true] [] [] [.tmp 4] 0 [] rfl hC trivial ⟨h7, trivial⟩ (by kernel_rfl)
      · replace h := condF h7 h
        exact WI_end (bs := [((c83_1 x83_0 y1 y3 y5), false)]) (φ := fun s' => k83_0b = .next s') (st' := (st83_0 x0 (i83_0 + 1))) (R' := (R83_0 x0 x1 (i83_0 + 1))) mixed lv83 25 [false] [] [] 0 [0, 1] () hC trivial ⟨h7, trivial⟩ (by kernel_rfl) (by kernel_rfl) (Option.some.inj h).symm
  · have h := hnext83_0 _ hs83_0
    replace h := Option.some.inj h
    subst h
    exact WI_ret (bs := []) mixed lv83 23 [] [] [] [.tmp 4] 0 [] rfl hC trivial trivial (by kernel_rfl)
theorem e83 : Enters Tryz.prog 83 := Go.SL.enters_of Tryz.func83 (by kernel_rfl) (by kernel_rfl)
def lv42 : List Nat := [0, 1, 2, 3, 4, 5, 6, 9, 10, 11, 12, 23]
def st42_0 (y1 : (List Bool)) (i42_0 : Nat) (s42_0 : Unit) : St := [(2, .d (.o 0 0)), (3, .d (.o 1 0)), (4, .d (Bo false)), (9, .d (.os 2)), (10, .d (I (y1.length : Int))), (11, .d (I (cnt 0 i42_0)))]
def R42_0 (x0 : api_Board) (x1 : api_Power) (y1 : (List Bool)) (i42_0 : Nat) (s42_0 : Unit) : List Res := [.box 29 [I x0.Buses, DS api_Breaker.ps x0.Breakers, DS api_Source.ps x0.Sources, DS api_Consumer.ps x0.Consumers, I x0.Phase, I x0.Frequency], .box 35 [DS pB x1.Closed, DS api_Running.ps x1.Sources, DS pI x1.Limits, DS api_Part.ps x1.Broken], .sl 4 1 (y1.map pB)]
def sa42_0  (s42_0 : Unit) : St := [(2, .d (.o 0 0)), (3, .d (.o 1 0)), (4, .d (Bo false))]
def Ra42_0 (x0 : api_Board) (x1 : api_Power) (s42_0 : Unit) : List Res := [.box 29 [I x0.Buses, DS api_Breaker.ps x0.Breakers, DS api_Source.ps x0.Sources, DS api_Consumer.ps x0.Consumers, I x0.Phase, I x0.Frequency], .box 35 [DS pB x1.Closed, DS api_Running.ps x1.Sources, DS pI x1.Limits, DS api_Part.ps x1.Broken]]
theorem k42 (x0 : api_Board) (x1 : api_Power) (r : Bool) (h : F42 x0 x1 = some r) : CallOk Tryz.prog 42 [.agg [I x0.Buses, DS api_Breaker.ps x0.Breakers, DS api_Source.ps x0.Sources, DS api_Consumer.ps x0.Consumers, I x0.Phase, I x0.Frequency], .agg [DS pB x1.Closed, DS api_Running.ps x1.Sources, DS pI x1.Limits, DS api_Part.ps x1.Broken]] [] (.d (Bo r)) [] := by
  unfold F42 at h
  refine callOk_of 29 Tryz.func42 rfl rfl rfl fun C hC => ?_
  obtain ⟨y1, h2, h⟩ := bindE h
  refine WI_stop (bs := []) mixed lv42 26 [] [.call 18 [.agg [I x0.Buses, DS api_Breaker.ps x0.Breakers, DS api_Source.ps x0.Sources, DS api_Consumer.ps x0.Consumers, I x0.Phase, I x0.Frequency], .agg [DS pB x1.Closed, DS api_Running.ps x1.Sources, DS pI x1.Limits, DS api_Part.ps x1.Broken]] [] (.d (.os 0)) [.sl 4 1 (y1.map pB)] [], .len ((y1.map pB).length : Int) (y1.length : Int)] [] 0 [0, 1, 2] (st42_0 y1 0 ()) (R42_0 x0 x1 y1 0 ()) hC ⟨⟨e18, (k18 x0 x1 _ h2)⟩, len_map _ _, trivial⟩ trivial (by kernel_rfl) ?_
  obtain ⟨k42_0, hm42_0, hret42_0, hnext42_0⟩ := andThen_inv h
  clear h
  refine WI_cut (by kernel_rfl) (fun s => k42_0 = .next s) (sa42_0) (Ra42_0 x0 x1) ?_ fun s42_0 hs42_0 => ?_
  · refine WI_blk (by kernel_rfl) ?_
    refine WI_lenO 9 2 rfl rfl fun hl42_0 => ?_
    refine WI_foldI (by kernel_rfl) (F42_l0 x0 x1) (st42_0 y1) (R42_0 x0 x1 y1) k42_0 y1 () hm42_0 rfl rfl (fun s42_0 hn42_0 => ?_) fun i42_0 x42_0 s42_0 k42_0b hi42_0 hx42_0 h hb42_0 hr42_0 => ?_
    · clear hm42_0
      exact WI_end (bs := [(decide ((cnt 0 y1.length) < (y1.length : Int)), false)]) (φ := fun s' => k42_0 = .next s') (st' := (sa42_0)) (R' := (Ra42_0 x0 x1)) mixed lv42 26 [false] [] [] 0 [0, 1] () hC trivial ⟨(cnt_end hl42_0), trivial⟩ (by kernel_rfl) (by kernel_rfl) hn42_0
    · unfold F42_l0 at h
      obtain ⟨y3, h4, h⟩ := bindE h
      refine WI_stop (bs := [(decide ((cnt 0 i42_0) < (y1.length : Int)), true)]) mixed lv42 32 [true] [.row (y1.map pB) (cnt 0 i42_0) (pB x42_0), .row (y1.map pB) (((Int.toNat (cnt 0 i42_0)) : Nat) : Int) (pB x42_0), .when [(x42_0, true)] (.call 95 [.agg [I x0.Buses, DS api_Breaker.ps x0.Breakers, DS api_Source.ps x0.Sources, DS api_Consumer.ps x0.Consumers, I x0.Phase, I x0.Frequency], .agg [DS pB x1.Closed, DS api_Running.ps x1.Sources, DS pI x1.Limits, DS api_Part.ps x1.Broken], .d (I (cnt 0 i42_0))] [] (.d (Bo y3)) [] [])] [] 0 [0, 1, 2] [(2, .d (.o 0 0)), (3, .d (.o 1 0)), (4, .d (Bo false)), (9, .d (.os 2)), (10, .d (I (y1.length : Int))), (11, .d (I (cnt 0 i42_0))), (23, .d (Bo (x42_0 && (!y3))))] [.box 29 [I x0.Buses, DS api_Breaker.ps x0.Breakers, DS api_Source.ps x0.Sources, DS api_Consumer.ps x0.Consumers, I x0.Phase, I x0.Frequency], .box 35 [DS pB x1.Closed, DS api_Running.ps x1.Sources, DS pI x1.Limits, DS api_Part.ps x1.Broken], .sl 4 1 (y1.map pB)] hC ⟨row_get (get_cnt hx42_0 hl42_0), row_getN (get_cnt hx42_0 hl42_0), fun hg => ⟨e95, (k95 x0 x1 (cnt 0 i42_0) _ (guardO_get h4 hg))⟩, trivial⟩ ⟨(cnt_lt hi42_0 hl42_0), trivial⟩ (by kernel_rfl) ?_
      rcases boolC ((x42_0 && (!y3))) with h5 | h5
      · replace h := condT h5 h
        have hq := hret42_0 _ (hr42_0 _ (Option.some.inj h).symm)
        replace hq := Option.some.inj hq
        subst hq
        exact WI_ret (bs := [((x42_0 && (!y3)), true)]) mixed lv42 24 [true] [] [] [.tmp 4] 0 [] rfl hC trivial ⟨h5, trivial⟩ (by kernel_rfl)
      · replace h := condF h5 h
        exact WI_end (bs := [((x42_0 && (!y3)), false)]) (φ := fun s' => k42_0b = .next s') (st' := (st42_0 y1 (i42_0 + 1))) (R' := (R42_0 x0 x1 y1 (i42_0 + 1))) mixed lv42 25 [false] [] [] 0 [0, 1, 2] () hC trivial ⟨h5, trivial⟩ (by kernel_rfl) (by kernel_rfl) (Option.some.inj h).symm
  · have h := hnext42_0 _ hs42_0
    obtain ⟨y6, h7, h⟩ := bindE h
    replace h := Option.some.inj h
    subst h
    exact WI_ret (bs := []) mixed lv42 23 [] [.call 65 [.agg [I x0.Buses, DS api_Breaker.ps x0.Breakers, DS api_Source.ps x0.Sources, DS api_Consumer.ps x0.Consumers, I x0.Phase, I x0.Frequency], .agg [DS pB x1.Closed, DS api_Running.ps x1.Sources, DS pI x1.Limits, DS api_Part.ps x1.Broken]] [] (.d (I y6)) [] []] [] [.tmp 4] 0 [] rfl hC ⟨⟨e65, (k65 x0 x1 _ h7)⟩, trivial⟩ trivial (by kernel_rfl)
theorem e42 : Enters Tryz.prog 42 := Go.SL.enters_of Tryz.func42 (by kernel_rfl) (by kernel_rfl)
theorem k164s0 (x0 : restore_planner) (x1 : Int) (r : Bool) (h : F164s0 x0 x1 = some r) : CallOk Tryz.prog 164 [.d (.ip [.v (.int .i64 x0.board.Buses), .s (x0.board.Breakers.map api_Breaker.ps), .s (x0.board.Sources.map api_Source.ps), .s (x0.board.Consumers.map api_Consumer.ps), .v (.int .i64 x0.board.Phase), .v (.int .i64 x0.board.Frequency), .s (x0.power.Closed.map pB), .s (x0.power.Sources.map api_Running.ps), .s (x0.power.Limits.map pI), .s (x0.power.Broken.map api_Part.ps), .s (x0.goal.map pB), .s (x0.acts.map api_Act.ps)]), .d (I x1)] [] (.d (Bo r)) [] := by
  unfold F164s0 at h
  refine callOk_of 15 Tryz.func164 rfl rfl rfl fun C hC => ?_
  obtain ⟨y1, h2, h⟩ := bindE h
  replace h := Option.some.inj h
  subst h
  exact WI_ret (bs := []) mixed [0, 1, 4] 25 [] [.call 95 [.agg [I x0.board.Buses, DS api_Breaker.ps x0.board.Breakers, DS api_Source.ps x0.board.Sources, DS api_Consumer.ps x0.board.Consumers, I x0.board.Phase, I x0.board.Frequency], .agg [DS pB x0.power.Closed, DS api_Running.ps x0.power.Sources, DS pI x0.power.Limits, DS api_Part.ps x0.power.Broken], .d (I x1)] [] (.d (Bo y1)) [] []] [] [.tmp 4] 0 [] rfl hC ⟨⟨e95, (k95 x0.board x0.power x1 _ h2)⟩, trivial⟩ trivial (by kernel_rfl)
theorem e164s0 : Enters Tryz.prog 164 := Go.SL.enters_of Tryz.func164 (by kernel_rfl) (by kernel_rfl)
def lv213 : List Nat := [0, 1, 2, 3, 4, 6, 7, 8, 9, 11, 15, 19, 29, 66]
theorem k213 (x0 : api_Board) (x1 : api_Power) (x2 : Int) (r : Int) (h : F213 x0 x1 x2 = some r) : CallOk Tryz.prog 213 [.agg [I x0.Buses, DS api_Breaker.ps x0.Breakers, DS api_Source.ps x0.Sources, DS api_Consumer.ps x0.Consumers, I x0.Phase, I x0.Frequency], .agg [DS pB x1.Closed, DS api_Running.ps x1.Sources, DS pI x1.Limits, DS api_Part.ps x1.Broken], .d (I x2)] [] (.d (I r)) [] := by
  unfold F213 at h
  refine callOk_of 67 Tryz.func213 rfl rfl rfl fun C hC => ?_
  obtain ⟨y1, h2, h⟩ := bindE h
  refine WI_stop (bs := []) mixed lv213 29 [] [.call 65 [.agg [I x0.Buses, DS api_Breaker.ps x0.Breakers, DS api_Source.ps x0.Sources, DS api_Consumer.ps x0.Consumers, I x0.Phase, I x0.Frequency], .agg [DS pB x1.Closed, DS api_Running.ps x1.Sources, DS pI x1.Limits, DS api_Part.ps x1.Broken]] [] (.d (I y1)) [] []] [] 0 [0, 1] [(2, .d (I x2)), (3, .d (.o 0 0)), (4, .d (.o 1 0)), (6, .d (I 0)), (7, .d (I y1)), (15, .d (Bo (y1 != 0)))] [.box 29 [I x0.Buses, DS api_Breaker.ps x0.Breakers, DS api_Source.ps x0.Sources, DS api_Consumer.ps x0.Consumers, I x0.Phase, I x0.Frequency], .box 35 [DS pB x1.Closed, DS api_Running.ps x1.Sources, DS pI x1.Limits, DS api_Part.ps x1.Broken]] hC ⟨⟨e65, (k65 x0 x1 _ h2)⟩, trivial⟩ trivial (by kernel_rfl) ?_
  rcases boolC ((y1 != 0)) with h3 | h3
  · replace h := condT h3 h
    replace h := Option.some.inj h
    subst h
    exact WI_ret (bs := [((y1 != 0), true)]) mixed lv213 24 [true] [] [] [.tmp 6] 0 [] rfl hC trivial ⟨h3, trivial⟩ (by kernel_rfl)
  · replace h := condF h3 h
    rcases boolC ((c213_0 x0 x2)) with h4 | h4
    · replace h := condT h4 h
      replace h := Option.some.inj h
      subst h
      exact WI_ret (bs := [((y1 != 0), false), ((c213_0 x0 x2), true)]) mixed lv213 27 [false, true] [.when [(decide (x2 < 0), false)] (.len ((x0.Breakers.map api_Breaker.ps).length : Int) (x0.Breakers.length : Int))] [] [.tmp 6] 0 [] rfl hC ⟨fun hg => len_map _ _, trivial⟩ ⟨h3, h4, trivial⟩ (by kernel_rfl)
    · replace h := condF h4 h
      obtain ⟨y5, h6, h⟩ := bindE h
      refine WI_stop (bs := [((y1 != 0), false), ((c213_0 x0 x2), false)]) mixed lv213 27 [false, false] [.when [(decide (x2 < 0), false)] (.len ((x0.Breakers.map api_Breaker.ps).length : Int) (x0.Breakers.length : Int)), .call 250 [.agg [I x0.Buses, DS api_Breaker.ps x0.Breakers, DS api_Source.ps x0.Sources, DS api_Consumer.ps x0.Consumers, I x0.Phase, I x0.Frequency], .agg [DS pB x1.Closed, DS api_Running.ps x1.Sources, DS pI x1.Limits, DS api_Part.ps x1.Broken], .d (I x2)] [] (.d (Bo y5)) [] []] [] 0 [0, 1] [(2, .d (I x2)), (3, .d (.o 0 0)), (4, .d (.o 1 0)), (6, .d (I 0)), (29, .d (Bo (!y5)))] [.box 29 [I x0.Buses, DS api_Breaker.ps x0.Breakers, DS api_Source.ps x0.Sources, DS api_Consumer.ps x0.Consumers, I x0.Phase, I x0.Frequency], .box 35 [DS pB x1.Closed, DS api_Running.ps x1.Sources, DS pI x1.Limits, DS api_Part.ps x1.Broken]] hC ⟨fun hg => len_map _ _, ⟨e250, (k250 x0 x1 x2 _ h6)⟩, trivial⟩ ⟨h3, h4, trivial⟩ (by kernel_rfl) ?_
      rcases boolC (!y5) with h7 | h7
      · replace h := condT h7 h
        replace h := Option.some.inj h
        subst h
        exact WI_ret (bs := [(!y5, true)]) mixed lv213 24 [true] [] [] [.tmp 6] 0 [] rfl hC trivial ⟨h7, trivial⟩ (by kernel_rfl)
      · replace h := condF h7 h
        obtain ⟨y8, h9, h⟩ := bindE h
        obtain ⟨y10, h11, h⟩ := bindE h
        obtain ⟨y12, h13, h⟩ := bindE h
        obtain ⟨y14, h15, h⟩ := bindE h
        refine WI_stop (bs := [(!y5, false)]) mixed lv213 33 [false] [.row (x0.Breakers.map api_Breaker.ps) x2 (api_Breaker.ps y8), .call 176 [.agg [I x0.Buses, DS api_Breaker.ps x0.Breakers, DS api_Source.ps x0.Sources, DS api_Consumer.ps x0.Consumers, I x0.Phase, I x0.Frequency], .agg [DS pB x1.Closed, DS api_Running.ps x1.Sources, DS pI x1.Limits, DS api_Part.ps x1.Broken], .d (I y8.A)] [] (.tup [.agg [DS pI y10.1.Buses, DS pI y10.1.Sources, DS pI y10.1.Consumers], .d (Bo y10.2)]) [] [], .when [((y8.Kind == 1), true)] (.call 96 [.d (DS pI y10.1.Buses), .d (I y8.B)] [] (.d (Bo y12)) [] []), .when [(!((y8.Kind == 1) && y12), true)] (.call 251 [.agg [I x0.Buses, DS api_Breaker.ps x0.Breakers, DS api_Source.ps x0.Sources, DS api_Consumer.ps x0.Consumers, I x0.Phase, I x0.Frequency], .agg [DS pB x1.Closed, DS api_Running.ps x1.Sources, DS pI x1.Limits, DS api_Part.ps x1.Broken], .agg [I y8.Kind, I y8.A, I y8.B]] [] (.d (Bo y14)) [] [])] [] 0 [] [(6, .d (I 0)), (66, .d (Bo ((!((y8.Kind == 1) && y12)) && (!y14))))] [] hC ⟨row_get h9, ⟨e176, (k176 x0 x1 y8.A _ h11)⟩, fun hg => ⟨e96, (k96 y10.1.Buses y8.B _ (guardO_get h13 hg))⟩, fun hg => ⟨e251, (k251 x0 x1 y8 _ (guardO_get h15 hg))⟩, trivial⟩ ⟨h7, trivial⟩ (by kernel_rfl) ?_
        rcases boolC (((!((y8.Kind == 1) && y12)) && (!y14))) with h16 | h16
        · replace h := condT h16 h
          replace h := Option.some.inj h
          subst h
          exact WI_ret (bs := [(((!((y8.Kind == 1) && y12)) && (!y14)), true)]) mixed lv213 24 [true] [] [] [.tmp 6] 0 [] rfl hC trivial ⟨h16, trivial⟩ (by kernel_rfl)
        · replace h := condF h16 h
          replace h := Option.some.inj h
          subst h
          exact WI_ret (bs := [(((!((y8.Kind == 1) && y12)) && (!y14)), false)]) mixed lv213 25 [false] [] [] [.tmp 6] 0 [] rfl hC trivial ⟨h16, trivial⟩ (by kernel_rfl)
theorem e213 : Enters Tryz.prog 213 := Go.SL.enters_of Tryz.func213 (by kernel_rfl) (by kernel_rfl)
def lv222s2 : List Nat := [0, 1, 4, 5, 6, 8, 13, 14, 15, 16, 32, 38, 39, 40, 41]
def st222s2_0 (x0 : shed_relief) (i222s2_0 : Nat) (s222s2_0 : Sg5) : St := [(0, .d (.o 0 0)), (1, .d (.fn (.func 224) [] [.o 6 0])), (4, .d (.os 7)), (13, .d (DS api_Breaker.ps x0.board.Breakers)), (14, .d (I (x0.board.Breakers.length : Int))), (15, .d (I (cnt 0 i222s2_0)))]
def R222s2_0  (i222s2_0 : Nat) (s222s2_0 : Sg5) : List Res := [.box 244 [I s222s2_0.1, DS api_Breaker.ps s222s2_0.2.1, DS api_Source.ps s222s2_0.2.2.1, DS api_Consumer.ps s222s2_0.2.2.2.1, I s222s2_0.2.2.2.2.1, I s222s2_0.2.2.2.2.2.1, .os 8, .os 9, .os 10, .os 11, .os 12], .non, .non, .non, .non, .non, .box 198 [.o 0 0], .sl 3 1 (s222s2_0.2.2.2.2.2.2.1.map pI), .sl 4 1 (s222s2_0.2.2.2.2.2.2.2.1.map pB), .sl 59 4 (s222s2_0.2.2.2.2.2.2.2.2.1.map api_Running.ps), .sl 3 1 (s222s2_0.2.2.2.2.2.2.2.2.2.1.map pI), .sl 119 2 (s222s2_0.2.2.2.2.2.2.2.2.2.2.1.map api_Part.ps), .sl 42 3 (s222s2_0.2.2.2.2.2.2.2.2.2.2.2.map api_Act.ps)]
def sa222s2_0  (s222s2_0 : Sg5) : St := [(0, .d (.o 0 0)), (4, .d (.os 7))]
def Ra222s2_0  (s222s2_0 : Sg5) : List Res := [.box 244 [I s222s2_0.1, DS api_Breaker.ps s222s2_0.2.1, DS api_Source.ps s222s2_0.2.2.1, DS api_Consumer.ps s222s2_0.2.2.2.1, I s222s2_0.2.2.2.2.1, I s222s2_0.2.2.2.2.2.1, .os 8, .os 9, .os 10, .os 11, .os 12], .non, .non, .non, .non, .non, .box 198 [.o 0 0], .sl 3 1 (s222s2_0.2.2.2.2.2.2.1.map pI), .sl 4 1 (s222s2_0.2.2.2.2.2.2.2.1.map pB), .sl 59 4 (s222s2_0.2.2.2.2.2.2.2.2.1.map api_Running.ps), .sl 3 1 (s222s2_0.2.2.2.2.2.2.2.2.2.1.map pI), .sl 119 2 (s222s2_0.2.2.2.2.2.2.2.2.2.2.1.map api_Part.ps), .sl 42 3 (s222s2_0.2.2.2.2.2.2.2.2.2.2.2.map api_Act.ps)]
def st222s2_1 (s222s2_0 : Sg5) (i222s2_1 : Nat) (s222s2_1 : Sg4) : St := [(0, .d (.o 0 0)), (38, .d (.os 7)), (39, .d (I (s222s2_0.2.2.2.2.2.2.1.length : Int))), (40, .d (I (cnt 0 i222s2_1)))]
def R222s2_1 (s222s2_0 : Sg5) (i222s2_1 : Nat) (s222s2_1 : Sg4) : List Res := [.box 244 [I s222s2_1.1, DS api_Breaker.ps s222s2_1.2.1, DS api_Source.ps s222s2_1.2.2.1, DS api_Consumer.ps s222s2_1.2.2.2.1, I s222s2_1.2.2.2.2.1, I s222s2_1.2.2.2.2.2.1, .os 8, .os 9, .os 10, .os 11, .os 12], .non, .non, .non, .non, .non, .box 198 [.o 0 0], .sl 3 1 (s222s2_0.2.2.2.2.2.2.1.map pI), .sl 4 1 (s222s2_1.2.2.2.2.2.2.1.map pB), .sl 59 4 (s222s2_1.2.2.2.2.2.2.2.1.map api_Running.ps), .sl 3 1 (s222s2_1.2.2.2.2.2.2.2.2.1.map pI), .sl 119 2 (s222s2_1.2.2.2.2.2.2.2.2.2.1.map api_Part.ps), .sl 42 3 (s222s2_1.2.2.2.2.2.2.2.2.2.2.map api_Act.ps)]
def sa222s2_1  (s222s2_1 : Sg4) : St := []
def Ra222s2_1  (s222s2_1 : Sg4) : List Res := [.box 244 [I s222s2_1.1, DS api_Breaker.ps s222s2_1.2.1, DS api_Source.ps s222s2_1.2.2.1, DS api_Consumer.ps s222s2_1.2.2.2.1, I s222s2_1.2.2.2.2.1, I s222s2_1.2.2.2.2.2.1, .os 7, .os 8, .os 9, .os 10, .os 11], .non, .non, .non, .non, .non, .box 198 [.o 0 0], .sl 4 1 (s222s2_1.2.2.2.2.2.2.1.map pB), .sl 59 4 (s222s2_1.2.2.2.2.2.2.2.1.map api_Running.ps), .sl 3 1 (s222s2_1.2.2.2.2.2.2.2.2.1.map pI), .sl 119 2 (s222s2_1.2.2.2.2.2.2.2.2.2.1.map api_Part.ps), .sl 42 3 (s222s2_1.2.2.2.2.2.2.2.2.2.2.map api_Act.ps)]
theorem k222s2 (x0 : shed_relief) (r : shed_relief) (h : F222s2 x0 = some r) : CallOk Tryz.prog 222 [.d (.o 0 0), .d (.fn (.func 224) [] [.o 6 0])] [.box 244 [I x0.board.Buses, DS api_Breaker.ps x0.board.Breakers, DS api_Source.ps x0.board.Sources, DS api_Consumer.ps x0.board.Consumers, I x0.board.Phase, I x0.board.Frequency, .os 1, .os 2, .os 3, .os 4, .os 5], .sl 4 1 (x0.power.Closed.map pB), .sl 59 4 (x0.power.Sources.map api_Running.ps), .sl 3 1 (x0.power.Limits.map pI), .sl 119 2 (x0.power.Broken.map api_Part.ps), .sl 42 3 (x0.acts.map api_Act.ps), .box 198 [.o 0 0]] (.tup []) [.box 244 [I r.board.Buses, DS api_Breaker.ps r.board.Breakers, DS api_Source.ps r.board.Sources, DS api_Consumer.ps r.board.Consumers, I r.board.Phase, I r.board.Frequency, .os 7, .os 8, .os 9, .os 10, .os 11], .non, .non, .non, .non, .non, .box 198 [.o 0 0], .sl 4 1 (r.power.Closed.map pB), .sl 59 4 (r.power.Sources.map api_Running.ps), .sl 3 1 (r.power.Limits.map pI), .sl 119 2 (r.power.Broken.map api_Part.ps), .sl 42 3 (r.acts.map api_Act.ps)] := by
  unfold F222s2 at h
  refine callOk_of 48 Tryz.func222 rfl rfl rfl fun C hC => ?_
  refine WI_stop (bs := []) mixed lv222s2 26 [] [.len ((x0.board.Breakers.map api_Breaker.ps).length : Int) (x0.board.Breakers.length : Int)] [.own 4 3 1, .mv 1, .mv 2, .mv 3, .mv 4, .mv 5] 7 [0, 1, 2, 3, 4, 5, 6, 7, 8, 9, 10, 11, 12] (st222s2_0 x0 0 (x0.board.Buses, x0.board.Breakers, x0.board.Sources, x0.board.Consumers, x0.board.Phase, x0.board.Frequency, ([] : List Int), x0.power.Closed, x0.power.Sources, x0.power.Limits, x0.power.Broken, x0.acts)) (R222s2_0 0 (x0.board.Buses, x0.board.Breakers, x0.board.Sources, x0.board.Consumers, x0.board.Phase, x0.board.Frequency, ([] : List Int), x0.power.Closed, x0.power.Sources, x0.power.Limits, x0.power.Broken, x0.acts)) hC ⟨len_map _ _, trivial⟩ trivial (by kernel_rfl) ?_
  obtain ⟨k222s2_0, hm222s2_0, hret222s2_0, hnext222s2_0⟩ := andThen_inv h
  clear h
  refine WI_cut (by kernel_rfl) (fun s => k222s2_0 = .next s) (sa222s2_0) (Ra222s2_0) ?_ fun s222s2_0 hs222s2_0 => ?_
  · refine WI_blk (by kernel_rfl) ?_
    refine WI_len 13 rfl fun hl222s2_0 => ?_
    refine WI_foldI (by kernel_rfl) F222s2_l0 (st222s2_0 x0) (R222s2_0) k222s2_0 x0.board.Breakers (x0.board.Buses, x0.board.Breakers, x0.board.Sources, x0.board.Consumers, x0.board.Phase, x0.board.Frequency, ([] : List Int), x0.power.Closed, x0.power.Sources, x0.power.Limits, x0.power.Broken, x0.acts) hm222s2_0 rfl rfl (fun s222s2_0 hn222s2_0 => ?_) fun i222s2_0 x222s2_0 s222s2_0 k222s2_0b hi222s2_0 hx222s2_0 h hb222s2_0 hr222s2_0 => ?_
    · clear hm222s2_0
      exact WI_end (bs := [(decide ((cnt 0 x0.board.Breakers.length) < (x0.board.Breakers.length : Int)), false)]) (φ := fun s' => k222s2_0 = .next s') (st' := (sa222s2_0)) (R' := (Ra222s2_0)) mixed lv222s2 26 [false] [] [] 7 [0, 1, 2, 3, 4, 5, 6, 7, 8, 9, 10, 11, 12] (s222s2_0.1, s222s2_0.2.1, s222s2_0.2.2.1, s222s2_0.2.2.2.1, s222s2_0.2.2.2.2.1, s222s2_0.2.2.2.2.2.1, s222s2_0.2.2.2.2.2.2.1, s222s2_0.2.2.2.2.2.2.2.1, s222s2_0.2.2.2.2.2.2.2.2.1, s222s2_0.2.2.2.2.2.2.2.2.2.1, s222s2_0.2.2.2.2.2.2.2.2.2.2.1, s222s2_0.2.2.2.2.2.2.2.2.2.2.2) hC trivial ⟨(cnt_end hl222s2_0), trivial⟩ (by kernel_rfl) (by kernel_rfl) hn222s2_0
    · unfold F222s2_l0 at h
      obtain ⟨y1, h2, h⟩ := bindE h
      obtain ⟨y3, h4, h⟩ := bindE h
      refine WI_stop (bs := [(decide ((cnt 0 i222s2_0) < (x0.board.Breakers.length : Int)), true)]) mixed lv222s2 32 [true] [.row (x0.board.Breakers.map api_Breaker.ps) (cnt 0 i222s2_0) (api_Breaker.ps x222s2_0), .row (s222s2_0.2.2.2.2.2.2.2.1.map pB) (cnt 0 i222s2_0) (pB y1), .row (s222s2_0.2.2.2.2.2.2.2.1.map pB) (((Int.toNat (cnt 0 i222s2_0)) : Nat) : Int) (pB y1), .whenR [(y1, true)] (.call 224 [.agg [I x222s2_0.Kind, I x222s2_0.A, I x222s2_0.B], .d (.o 0 0)] [.box 198 [.o 1 0], .box 244 [I s222s2_0.1, DS api_Breaker.ps s222s2_0.2.1, DS api_Source.ps s222s2_0.2.2.1, DS api_Consumer.ps s222s2_0.2.2.2.1, I s222s2_0.2.2.2.2.1, I s222s2_0.2.2.2.2.2.1, .os 2, .os 3, .os 4, .os 5, .os 6], .sl 4 1 (s222s2_0.2.2.2.2.2.2.2.1.map pB), .sl 59 4 (s222s2_0.2.2.2.2.2.2.2.2.1.map api_Running.ps), .sl 3 1 (s222s2_0.2.2.2.2.2.2.2.2.2.1.map pI), .sl 119 2 (s222s2_0.2.2.2.2.2.2.2.2.2.2.1.map api_Part.ps), .sl 42 3 (s222s2_0.2.2.2.2.2.2.2.2.2.2.2.map api_Act.ps)] (.d (Bo y3.1)) [.box 198 [.o 1 0], .box 244 [I y3.2.board.Buses, DS api_Breaker.ps y3.2.board.Breakers, DS api_Source.ps y3.2.board.Sources, DS api_Consumer.ps y3.2.board.Consumers, I y3.2.board.Phase, I y3.2.board.Frequency, .os 2, .os 3, .os 4, .os 5, .os 6], .sl 4 1 (y3.2.power.Closed.map pB), .sl 59 4 (y3.2.power.Sources.map api_Running.ps), .sl 3 1 (y3.2.power.Limits.map pI), .sl 119 2 (y3.2.power.Broken.map api_Part.ps), .sl 42 3 (y3.2.acts.map api_Act.ps)] [6, 0, 8, 9, 10, 11, 12])] [] 7 [0, 1, 2, 3, 4, 5, 6, 7, 8, 9, 10, 11, 12] [(0, .d (.o 0 0)), (1, .d (.fn (.func 224) [] [.o 6 0])), (4, .d (.os 7)), (5, .d (I (cnt 0 i222s2_0))), (13, .d (DS api_Breaker.ps x0.board.Breakers)), (14, .d (I (x0.board.Breakers.length : Int))), (15, .d (I (cnt 0 i222s2_0))), (32, .d (Bo (y1 && y3.1)))] [.box 244 [I y3.2.board.Buses, DS api_Breaker.ps y3.2.board.Breakers, DS api_Source.ps y3.2.board.Sources, DS api_Consumer.ps y3.2.board.Consumers, I y3.2.board.Phase, I y3.2.board.Frequency, .os 8, .os 9, .os 10, .os 11, .os 12], .non, .non, .non, .non, .non, .box 198 [.o 0 0], .sl 3 1 (s222s2_0.2.2.2.2.2.2.1.map pI), .sl 4 1 (y3.2.power.Closed.map pB), .sl 59 4 (y3.2.power.Sources.map api_Running.ps), .sl 3 1 (y3.2.power.Limits.map pI), .sl 119 2 (y3.2.power.Broken.map api_Part.ps), .sl 42 3 (y3.2.acts.map api_Act.ps)] hC ⟨(row_cnt hx222s2_0 hl222s2_0), row_get h2, row_getN h2, ⟨fun hg => ⟨e224s0, (k224s0 x222s2_0 (⟨(⟨s222s2_0.1, s222s2_0.2.1, s222s2_0.2.2.1, s222s2_0.2.2.2.1, s222s2_0.2.2.2.2.1, s222s2_0.2.2.2.2.2.1⟩ : api_Board), (⟨s222s2_0.2.2.2.2.2.2.2.1, s222s2_0.2.2.2.2.2.2.2.2.1, s222s2_0.2.2.2.2.2.2.2.2.2.1, s222s2_0.2.2.2.2.2.2.2.2.2.2.1⟩ : api_Power), s222s2_0.2.2.2.2.2.2.2.2.2.2.2⟩ : shed_relief) _ (guardO_get h4 hg))⟩, fun hg => by have e := guardO_not h4 hg; subst e; rfl⟩, trivial⟩ ⟨(cnt_lt hi222s2_0 hl222s2_0), trivial⟩ (by kernel_rfl) ?_
      rcases boolC ((y1 && y3.1)) with h5 | h5
      · replace h := condT h5 h
        obtain ⟨y6, h7, h⟩ := bindE h
        exact WI_end (bs := [((y1 && y3.1), true)]) (φ := fun s' => k222s2_0b = .next s') (st' := (st222s2_0 x0 (i222s2_0 + 1))) (R' := (R222s2_0 (i222s2_0 + 1))) mixed lv222s2 25 [true] [.app (s222s2_0.2.2.2.2.2.2.1.map pI) ([cnt 0 i222s2_0].map pI) 1 (((s222s2_0.2.2.2.2.2.2.1.map pI).length + ([cnt 0 i222s2_0].map pI).length) * (8 + 1)) (y6.map pI)] [] 7 [0, 1, 2, 3, 4, 5, 6, 13, 8, 9, 10, 11, 12] (y3.2.board.Buses, y3.2.board.Breakers, y3.2.board.Sources, y3.2.board.Consumers, y3.2.board.Phase, y3.2.board.Frequency, y6, y3.2.power.Closed, y3.2.power.Sources, y3.2.power.Limits, y3.2.power.Broken, y3.2.acts) hC ⟨app_get pI 1 (fun _ => rfl) h7, trivial⟩ ⟨h5, trivial⟩ (by kernel_rfl) (by kernel_rfl) (Option.some.inj h).symm
      · replace h := condF h5 h
        exact WI_end (bs := [((y1 && y3.1), false)]) (φ := fun s' => k222s2_0b = .next s') (st' := (st222s2_0 x0 (i222s2_0 + 1))) (R' := (R222s2_0 (i222s2_0 + 1))) mixed lv222s2 25 [false] [] [] 7 [0, 1, 2, 3, 4, 5, 6, 7, 8, 9, 10, 11, 12] (y3.2.board.Buses, y3.2.board.Breakers, y3.2.board.Sources, y3.2.board.Consumers, y3.2.board.Phase, y3.2.board.Frequency, s222s2_0.2.2.2.2.2.2.1, y3.2.power.Closed, y3.2.power.Sources, y3.2.power.Limits, y3.2.power.Broken, y3.2.acts) hC trivial ⟨h5, trivial⟩ (by kernel_rfl) (by kernel_rfl) (Option.some.inj h).symm
  · have h := hnext222s2_0 _ hs222s2_0
    refine WI_stop (bs := []) mixed lv222s2 23 [] [.len ((s222s2_0.2.2.2.2.2.2.1.map pI).length : Int) (s222s2_0.2.2.2.2.2.2.1.length : Int)] [] 7 [0, 1, 2, 3, 4, 5, 6, 7, 8, 9, 10, 11, 12] (st222s2_1 s222s2_0 0 (s222s2_0.1, s222s2_0.2.1, s222s2_0.2.2.1, s222s2_0.2.2.2.1, s222s2_0.2.2.2.2.1, s222s2_0.2.2.2.2.2.1, s222s2_0.2.2.2.2.2.2.2.1, s222s2_0.2.2.2.2.2.2.2.2.1, s222s2_0.2.2.2.2.2.2.2.2.2.1, s222s2_0.2.2.2.2.2.2.2.2.2.2.1, s222s2_0.2.2.2.2.2.2.2.2.2.2.2)) (R222s2_1 s222s2_0 0 (s222s2_0.1, s222s2_0.2.1, s222s2_0.2.2.1, s222s2_0.2.2.2.1, s222s2_0.2.2.2.2.1, s222s2_0.2.2.2.2.2.1, s222s2_0.2.2.2.2.2.2.2.1, s222s2_0.2.2.2.2.2.2.2.2.1, s222s2_0.2.2.2.2.2.2.2.2.2.1, s222s2_0.2.2.2.2.2.2.2.2.2.2.1, s222s2_0.2.2.2.2.2.2.2.2.2.2.2)) hC ⟨len_map _ _, trivial⟩ trivial (by kernel_rfl) ?_
    obtain ⟨k222s2_1, hm222s2_1, hret222s2_1, hnext222s2_1⟩ := andThen_inv h
    clear h
    refine WI_cut (by kernel_rfl) (fun s => k222s2_1 = .next s) (sa222s2_1) (Ra222s2_1) ?_ fun s222s2_1 hs222s2_1 => ?_
    · refine WI_blk (by kernel_rfl) ?_
      refine WI_lenO 38 7 rfl rfl fun hl222s2_1 => ?_
      refine WI_foldI (by kernel_rfl) F222s2_l1 (st222s2_1 s222s2_0) (R222s2_1 s222s2_0) k222s2_1 s222s2_0.2.2.2.2.2.2.1 (s222s2_0.1, s222s2_0.2.1, s222s2_0.2.2.1, s222s2_0.2.2.2.1, s222s2_0.2.2.2.2.1, s222s2_0.2.2.2.2.2.1, s222s2_0.2.2.2.2.2.2.2.1, s222s2_0.2.2.2.2.2.2.2.2.1, s222s2_0.2.2.2.2.2.2.2.2.2.1, s222s2_0.2.2.2.2.2.2.2.2.2.2.1, s222s2_0.2.2.2.2.2.2.2.2.2.2.2) hm222s2_1 rfl rfl (fun s222s2_1 hn222s2_1 => ?_) fun i222s2_1 x222s2_1 s222s2_1 k222s2_1b hi222s2_1 hx222s2_1 h hb222s2_1 hr222s2_1 => ?_
      · clear hm222s2_1
        exact WI_end (bs := [(decide ((cnt 0 s222s2_0.2.2.2.2.2.2.1.length) < (s222s2_0.2.2.2.2.2.2.1.length : Int)), false)]) (φ := fun s' => k222s2_1 = .next s') (st' := (sa222s2_1)) (R' := (Ra222s2_1)) mixed lv222s2 26 [false] [] [] 7 [0, 1, 2, 3, 4, 5, 6, 8, 9, 10, 11, 12] (s222s2_1.1, s222s2_1.2.1, s222s2_1.2.2.1, s222s2_1.2.2.2.1, s222s2_1.2.2.2.2.1, s222s2_1.2.2.2.2.2.1, s222s2_1.2.2.2.2.2.2.1, s222s2_1.2.2.2.2.2.2.2.1, s222s2_1.2.2.2.2.2.2.2.2.1, s222s2_1.2.2.2.2.2.2.2.2.2.1, s222s2_1.2.2.2.2.2.2.2.2.2.2) hC trivial ⟨(cnt_end hl222s2_1), trivial⟩ (by kernel_rfl) (by kernel_rfl) hn222s2_1
      · unfold F222s2_l1 at h
        obtain ⟨y8, h9, h⟩ := bindE h
        exact WI_end (bs := [(decide ((cnt 0 i222s2_1) < (s222s2_0.2.2.2.2.2.2.1.length : Int)), true)]) (φ := fun s' => k222s2_1b = .next s') (st' := (st222s2_1 s222s2_0 (i222s2_1 + 1))) (R' := (R222s2_1 s222s2_0 (i222s2_1 + 1))) mixed lv222s2 33 [true] [.row (s222s2_0.2.2.2.2.2.2.1.map pI) (cnt 0 i222s2_1) (pI x222s2_1), .row (s222s2_0.2.2.2.2.2.2.1.map pI) (((Int.toNat (cnt 0 i222s2_1)) : Nat) : Int) (pI x222s2_1), .call 255 [.d (.o 0 0), .d (I x222s2_1)] [.box 244 [I s222s2_1.1, DS api_Breaker.ps s222s2_1.2.1, DS api_Source.ps s222s2_1.2.2.1, DS api_Consumer.ps s222s2_1.2.2.2.1, I s222s2_1.2.2.2.2.1, I s222s2_1.2.2.2.2.2.1, .os 1, .os 2, .os 3, .os 4, .os 5], .sl 4 1 (s222s2_1.2.2.2.2.2.2.1.map pB), .sl 59 4 (s222s2_1.2.2.2.2.2.2.2.1.map api_Running.ps), .sl 3 1 (s222s2_1.2.2.2.2.2.2.2.2.1.map pI), .sl 119 2 (s222s2_1.2.2.2.2.2.2.2.2.2.1.map api_Part.ps), .sl 42 3 (s222s2_1.2.2.2.2.2.2.2.2.2.2.map api_Act.ps)] (.tup []) [.box 244 [I y8.board.Buses, DS api_Breaker.ps y8.board.Breakers, DS api_Source.ps y8.board.Sources, DS api_Consumer.ps y8.board.Consumers, I y8.board.Phase, I y8.board.Frequency, .os 1, .os 2, .os 3, .os 4, .os 6], .sl 4 1 (y8.power.Closed.map pB), .sl 59 4 (y8.power.Sources.map api_Running.ps), .sl 3 1 (y8.power.Limits.map pI), .sl 119 2 (y8.power.Broken.map api_Part.ps), .non, .sl 42 3 (y8.acts.map api_Act.ps)] [0, 8, 9, 10, 11, 12]] [] 7 [0, 1, 2, 3, 4, 5, 6, 7, 8, 9, 10, 11, 13] (y8.board.Buses, y8.board.Breakers, y8.board.Sources, y8.board.Consumers, y8.board.Phase, y8.board.Frequency, y8.power.Closed, y8.power.Sources, y8.power.Limits, y8.power.Broken, y8.acts) hC ⟨row_get (get_cnt hx222s2_1 hl222s2_1), row_getN (get_cnt hx222s2_1 hl222s2_1), ⟨e255s1, (k255s1 (⟨(⟨s222s2_1.1, s222s2_1.2.1, s222s2_1.2.2.1, s222s2_1.2.2.2.1, s222s2_1.2.2.2.2.1, s222s2_1.2.2.2.2.2.1⟩ : api_Board), (⟨s222s2_1.2.2.2.2.2.2.1, s222s2_1.2.2.2.2.2.2.2.1, s222s2_1.2.2.2.2.2.2.2.2.1, s222s2_1.2.2.2.2.2.2.2.2.2.1⟩ : api_Power), s222s2_1.2.2.2.2.2.2.2.2.2.2⟩ : shed_relief) x222s2_1 _ h9)⟩, trivial⟩ ⟨(cnt_lt hi222s2_1 hl222s2_1), trivial⟩ (by kernel_rfl) (by kernel_rfl) (Option.some.inj h).symm
    · have h := hnext222s2_1 _ hs222s2_1
      replace h := Option.some.inj h
      subst h
      exact WI_endF (bs := []) mixed lv222s2 20 [] [] [] [] 7 [0, 1, 2, 3, 4, 5, 6, 7, 8, 9, 10, 11] rfl hC trivial trivial (by kernel_rfl) (by kernel_rfl)
theorem e222s2 : Enters Tryz.prog 222 := Go.SL.enters_of Tryz.func222 (by kernel_rfl) (by kernel_rfl)
def lv227s2 : List Nat := [0, 1, 2, 7, 8, 9, 10, 11, 12, 38]
def st227s2_0 (x1 : List Int) (x2 : Int) (i227s2_0 : Nat) (s227s2_0 : (List Int) × (List api_Act)) : St := [(0, .d (.o 0 0)), (2, .d (I x2)), (9, .d (.os 6)), (10, .d (I (x1.length : Int))), (11, .d (I (cnt 0 i227s2_0)))]
def R227s2_0 (x0 : shed_relief) (x1 : List Int) (i227s2_0 : Nat) (s227s2_0 : (List Int) × (List api_Act)) : List Res := [.box 244 [I x0.board.Buses, DS api_Breaker.ps x0.board.Breakers, DS api_Source.ps x0.board.Sources, DS api_Consumer.ps x0.board.Consumers, I x0.board.Phase, I x0.board.Frequency, .os 7, .os 8, .os 9, .os 10, .os 11], .non, .non, .non, .non, .non, .sl 3 1 (x1.map pI), .sl 4 1 (x0.power.Closed.map pB), .sl 59 4 (x0.power.Sources.map api_Running.ps), .sl 3 1 (s227s2_0.1.map pI), .sl 119 2 (x0.power.Broken.map api_Part.ps), .sl 42 3 (s227s2_0.2.map api_Act.ps)]
def sa227s2_0  (s227s2_0 : (List Int) × (List api_Act)) : St := []
def Ra227s2_0 (x0 : shed_relief) (x1 : List Int) (s227s2_0 : (List Int) × (List api_Act)) : List Res := [.box 244 [I x0.board.Buses, DS api_Breaker.ps x0.board.Breakers, DS api_Source.ps x0.board.Sources, DS api_Consumer.ps x0.board.Consumers, I x0.board.Phase, I x0.board.Frequency, .os 7, .os 8, .os 9, .os 10, .os 11], .non, .non, .non, .non, .non, .sl 3 1 (x1.map pI), .sl 4 1 (x0.power.Closed.map pB), .sl 59 4 (x0.power.Sources.map api_Running.ps), .sl 3 1 (s227s2_0.1.map pI), .sl 119 2 (x0.power.Broken.map api_Part.ps), .sl 42 3 (s227s2_0.2.map api_Act.ps)]
theorem k227s2 (x0 : shed_relief) (x1 : List Int) (x2 : Int) (r : shed_relief) (h : F227s2 x0 x1 x2 = some r) : CallOk Tryz.prog 227 [.d (.o 0 0), .d (.os 6), .d (I x2)] [.box 244 [I x0.board.Buses, DS api_Breaker.ps x0.board.Breakers, DS api_Source.ps x0.board.Sources, DS api_Consumer.ps x0.board.Consumers, I x0.board.Phase, I x0.board.Frequency, .os 1, .os 2, .os 3, .os 4, .os 5], .sl 4 1 (x0.power.Closed.map pB), .sl 59 4 (x0.power.Sources.map api_Running.ps), .sl 3 1 (x0.power.Limits.map pI), .sl 119 2 (x0.power.Broken.map api_Part.ps), .sl 42 3 (x0.acts.map api_Act.ps), .sl 3 1 (x1.map pI)] (.tup []) [.box 244 [I r.board.Buses, DS api_Breaker.ps r.board.Breakers, DS api_Source.ps r.board.Sources, DS api_Consumer.ps r.board.Consumers, I r.board.Phase, I r.board.Frequency, .os 7, .os 8, .os 9, .os 10, .os 11], .non, .non, .non, .non, .non, .sl 3 1 (x1.map pI), .sl 4 1 (r.power.Closed.map pB), .sl 59 4 (r.power.Sources.map api_Running.ps), .sl 3 1 (r.power.Limits.map pI), .sl 119 2 (r.power.Broken.map api_Part.ps), .sl 42 3 (r.acts.map api_Act.ps)] := by
  unfold F227s2 at h
  refine callOk_of 70 Tryz.func227 rfl rfl rfl fun C hC => ?_
  refine WI_stop (bs := []) mixed lv227s2 23 [] [.len ((x1.map pI).length : Int) (x1.length : Int)] [.mv 1, .mv 2, .mv 3, .mv 4, .mv 5] 7 [0, 1, 2, 3, 4, 5, 6, 7, 8, 9, 10, 11] (st227s2_0 x1 x2 0 (x0.power.Limits, x0.acts)) (R227s2_0 x0 x1 0 (x0.power.Limits, x0.acts)) hC ⟨len_map _ _, trivial⟩ trivial (by kernel_rfl) ?_
  obtain ⟨k227s2_0, hm227s2_0, hret227s2_0, hnext227s2_0⟩ := andThen_inv h
  clear h
  refine WI_cut (by kernel_rfl) (fun s => k227s2_0 = .next s) (sa227s2_0) (Ra227s2_0 x0 x1) ?_ fun s227s2_0 hs227s2_0 => ?_
  · refine WI_blk (by kernel_rfl) ?_
    refine WI_lenO 9 6 rfl rfl fun hl227s2_0 => ?_
    refine WI_foldI (by kernel_rfl) (F227s2_l0 x0 x2) (st227s2_0 x1 x2) (R227s2_0 x0 x1) k227s2_0 x1 (x0.power.Limits, x0.acts) hm227s2_0 rfl rfl (fun s227s2_0 hn227s2_0 => ?_) fun i227s2_0 x227s2_0 s227s2_0 k227s2_0b hi227s2_0 hx227s2_0 h hb227s2_0 hr227s2_0 => ?_
    · clear hm227s2_0
      exact WI_end (bs := [(decide ((cnt 0 x1.length) < (x1.length : Int)), false)]) (φ := fun s' => k227s2_0 = .next s') (st' := (sa227s2_0)) (R' := (Ra227s2_0 x0 x1)) mixed lv227s2 26 [false] [] [] 7 [0, 1, 2, 3, 4, 5, 6, 7, 8, 9, 10, 11] (s227s2_0.1, s227s2_0.2) hC trivial ⟨(cnt_end hl227s2_0), trivial⟩ (by kernel_rfl) (by kernel_rfl) hn227s2_0
    · unfold F227s2_l0 at h
      obtain ⟨y1, h2, h⟩ := bindE h
      obtain ⟨y3, h4, h⟩ := bindE h
      obtain ⟨y5, h6, h⟩ := bindE h
      refine WI_stop (bs := [(decide ((cnt 0 i227s2_0) < (x1.length : Int)), true)]) mixed lv227s2 34 [true] [.row (x1.map pI) (cnt 0 i227s2_0) (pI x227s2_0), .row (x1.map pI) (((Int.toNat (cnt 0 i227s2_0)) : Nat) : Int) (pI x227s2_0), .callB 257 [.d (.ip [.v (.int .i64 x0.board.Buses), .s (x0.board.Breakers.map api_Breaker.ps), .s (x0.board.Sources.map api_Source.ps), .s (x0.board.Consumers.map api_Consumer.ps), .v (.int .i64 x0.board.Phase), .v (.int .i64 x0.board.Frequency), .s (x0.power.Closed.map pB), .s (x0.power.Sources.map api_Running.ps), .s (s227s2_0.1.map pI), .s (x0.power.Broken.map api_Part.ps), .s (s227s2_0.2.map api_Act.ps)]), .d (I x2)] (.d (I y1)) [[]] 0 [], .row (s227s2_0.1.map pI) x227s2_0 (pI y3), .row (s227s2_0.1.map pI) (((Int.toNat x227s2_0) : Nat) : Int) (pI y3), .row (x0.board.Consumers.map api_Consumer.ps) x227s2_0 (api_Consumer.ps y5)] [] 7 [0, 1, 2, 3, 4, 5, 6, 7, 8, 9, 10, 11] [(0, .d (.o 0 0)), (2, .d (I x2)), (7, .d (I x227s2_0)), (8, .d (I (min y1 (w64 (y3 - y5.Least))))), (9, .d (.os 6)), (10, .d (I (x1.length : Int))), (11, .d (I (cnt 0 i227s2_0))), (38, .d (Bo (c227s2_2 y1 y3 y5)))] [.box 244 [I x0.board.Buses, DS api_Breaker.ps x0.board.Breakers, DS api_Source.ps x0.board.Sources, DS api_Consumer.ps x0.board.Consumers, I x0.board.Phase, I x0.board.Frequency, .os 7, .os 8, .os 9, .os 10, .os 11], .non, .non, .non, .non, .non, .sl 3 1 (x1.map pI), .sl 4 1 (x0.power.Closed.map pB), .sl 59 4 (x0.power.Sources.map api_Running.ps), .sl 3 1 (s227s2_0.1.map pI), .sl 119 2 (x0.power.Broken.map api_Part.ps), .sl 42 3 (s227s2_0.2.map api_Act.ps)] hC ⟨row_get (get_cnt hx227s2_0 hl227s2_0), row_getN (get_cnt hx227s2_0 hl227s2_0), lend0_get ⟨e257s0, (k257s0 (⟨x0.board, (⟨x0.power.Closed, x0.power.Sources, s227s2_0.1, x0.power.Broken⟩ : api_Power), s227s2_0.2⟩ : shed_relief) x2 _ h2)⟩, row_get h4, row_getN h4, row_get h6, trivial⟩ ⟨(cnt_lt hi227s2_0 hl227s2_0), trivial⟩ (by kernel_rfl) ?_
      rcases boolC ((c227s2_2 y1 y3 y5)) with h7 | h7
      · replace h := condT h7 h
        obtain ⟨y8, h9, h⟩ := bindE h
        obtain ⟨y10, h11, h⟩ := bindE h
        obtain ⟨y12, h13, h⟩ := bindE h
        exact WI_end (bs := [((c227s2_2 y1 y3 y5), true)]) (φ := fun s' => k227s2_0b = .next s') (st' := (st227s2_0 x1 x2 (i227s2_0 + 1))) (R' := (R227s2_0 x0 x1 (i227s2_0 + 1))) mixed lv227s2 27 [true] [.row (s227s2_0.1.map pI) x227s2_0 (pI y3), .row (s227s2_0.1.map pI) (((Int.toNat x227s2_0) : Nat) : Int) (pI y3), .row (s227s2_0.1.map pI) x227s2_0 (pI y3), .upd (s227s2_0.1.map pI) (Int.toNat x227s2_0) (pI y3) (pI (w64 (y3 - (min y1 (w64 (y3 - y5.Least)))))) (y8.map pI), .row (y8.map pI) x227s2_0 (pI y10), .row (y8.map pI) (((Int.toNat x227s2_0) : Nat) : Int) (pI y10), .app (s227s2_0.2.map api_Act.ps) ([(⟨5, x227s2_0, y10⟩ : api_Act)].map api_Act.ps) 3 (((s227s2_0.2.map api_Act.ps).length + ([(⟨5, x227s2_0, y10⟩ : api_Act)].map api_Act.ps).length) * (24 + 1)) (y12.map api_Act.ps)] [] 7 [0, 1, 2, 3, 4, 5, 6, 7, 8, 9, 10, 12] (y8, y12) hC ⟨row_get h4, row_getN h4, row_get h4, upd_get h4 h9, row_get h11, row_getN h11, app_get api_Act.ps 3 (fun _ => rfl) h13, trivial⟩ ⟨h7, trivial⟩ (by kernel_rfl) (by kernel_rfl) (Option.some.inj h).symm
      · replace h := condF h7 h
        exact WI_end (bs := [((c227s2_2 y1 y3 y5), false)]) (φ := fun s' => k227s2_0b = .next s') (st' := (st227s2_0 x1 x2 (i227s2_0 + 1))) (R' := (R227s2_0 x0 x1 (i227s2_0 + 1))) mixed lv227s2 25 [false] [] [] 7 [0, 1, 2, 3, 4, 5, 6, 7, 8, 9, 10, 11] (s227s2_0.1, s227s2_0.2) hC trivial ⟨h7, trivial⟩ (by kernel_rfl) (by kernel_rfl) (Option.some.inj h).symm
  · have h := hnext227s2_0 _ hs227s2_0
    replace h := Option.some.inj h
    subst h
    exact WI_endF (bs := []) mixed lv227s2 20 [] [] [] [] 7 [0, 1, 2, 3, 4, 5, 6, 7, 8, 9, 10, 11] rfl hC trivial trivial (by kernel_rfl) (by kernel_rfl)
theorem e227s2 : Enters Tryz.prog 227 := Go.SL.enters_of Tryz.func227 (by kernel_rfl) (by kernel_rfl)
def lv228s1 : List Nat := [0, 1, 2, 7, 8, 9, 10, 11, 28]
def st228s1_0 (x1 : List Int) (x2 : Int) (i228s1_0 : Nat) (s228s1_0 : Sg4) : St := [(0, .d (.o 0 0)), (2, .d (I x2)), (8, .d (.os 6)), (9, .d (I (x1.length : Int))), (10, .d (I (cnt 0 i228s1_0)))]
def R228s1_0 (x1 : List Int) (i228s1_0 : Nat) (s228s1_0 : Sg4) : List Res := [.box 244 [I s228s1_0.1, DS api_Breaker.ps s228s1_0.2.1, DS api_Source.ps s228s1_0.2.2.1, DS api_Consumer.ps s228s1_0.2.2.2.1, I s228s1_0.2.2.2.2.1, I s228s1_0.2.2.2.2.2.1, .os 7, .os 8, .os 9, .os 10, .os 11], .non, .non, .non, .non, .non, .sl 3 1 (x1.map pI), .sl 4 1 (s228s1_0.2.2.2.2.2.2.1.map pB), .sl 59 4 (s228s1_0.2.2.2.2.2.2.2.1.map api_Running.ps), .sl 3 1 (s228s1_0.2.2.2.2.2.2.2.2.1.map pI), .sl 119 2 (s228s1_0.2.2.2.2.2.2.2.2.2.1.map api_Part.ps), .sl 42 3 (s228s1_0.2.2.2.2.2.2.2.2.2.2.map api_Act.ps)]
def sa228s1_0  (s228s1_0 : Sg4) : St := []
def Ra228s1_0 (x1 : List Int) (s228s1_0 : Sg4) : List Res := [.box 244 [I s228s1_0.1, DS api_Breaker.ps s228s1_0.2.1, DS api_Source.ps s228s1_0.2.2.1, DS api_Consumer.ps s228s1_0.2.2.2.1, I s228s1_0.2.2.2.2.1, I s228s1_0.2.2.2.2.2.1, .os 7, .os 8, .os 9, .os 10, .os 11], .non, .non, .non, .non, .non, .sl 3 1 (x1.map pI), .sl 4 1 (s228s1_0.2.2.2.2.2.2.1.map pB), .sl 59 4 (s228s1_0.2.2.2.2.2.2.2.1.map api_Running.ps), .sl 3 1 (s228s1_0.2.2.2.2.2.2.2.2.1.map pI), .sl 119 2 (s228s1_0.2.2.2.2.2.2.2.2.2.1.map api_Part.ps), .sl 42 3 (s228s1_0.2.2.2.2.2.2.2.2.2.2.map api_Act.ps)]
theorem k228s1 (x0 : shed_relief) (x1 : List Int) (x2 : Int) (r : shed_relief) (h : F228s1 x0 x1 x2 = some r) : CallOk Tryz.prog 228 [.d (.o 0 0), .d (.os 6), .d (I x2)] [.box 244 [I x0.board.Buses, DS api_Breaker.ps x0.board.Breakers, DS api_Source.ps x0.board.Sources, DS api_Consumer.ps x0.board.Consumers, I x0.board.Phase, I x0.board.Frequency, .os 1, .os 2, .os 3, .os 4, .os 5], .sl 4 1 (x0.power.Closed.map pB), .sl 59 4 (x0.power.Sources.map api_Running.ps), .sl 3 1 (x0.power.Limits.map pI), .sl 119 2 (x0.power.Broken.map api_Part.ps), .sl 42 3 (x0.acts.map api_Act.ps), .sl 3 1 (x1.map pI)] (.tup []) [.box 244 [I r.board.Buses, DS api_Breaker.ps r.board.Breakers, DS api_Source.ps r.board.Sources, DS api_Consumer.ps r.board.Consumers, I r.board.Phase, I r.board.Frequency, .os 7, .os 8, .os 9, .os 10, .os 11], .non, .non, .non, .non, .non, .sl 3 1 (x1.map pI), .sl 4 1 (r.power.Closed.map pB), .sl 59 4 (r.power.Sources.map api_Running.ps), .sl 3 1 (r.power.Limits.map pI), .sl 119 2 (r.power.Broken.map api_Part.ps), .sl 42 3 (r.acts.map api_Act.ps)] := by
  unfold F228s1 at h
  refine callOk_of 33 Tryz.func228 rfl rfl rfl fun C hC => ?_
  refine WI_stop (bs := []) mixed lv228s1 23 [] [.len ((x1.map pI).length : Int) (x1.length : Int)] [.mv 1, .mv 2, .mv 3, .mv 4, .mv 5] 7 [0, 1, 2, 3, 4, 5, 6, 7, 8, 9, 10, 11] (st228s1_0 x1 x2 0 (x0.board.Buses, x0.board.Breakers, x0.board.Sources, x0.board.Consumers, x0.board.Phase, x0.board.Frequency, x0.power.Closed, x0.power.Sources, x0.power.Limits, x0.power.Broken, x0.acts)) (R228s1_0 x1 0 (x0.board.Buses, x0.board.Breakers, x0.board.Sources, x0.board.Consumers, x0.board.Phase, x0.board.Frequency, x0.power.Closed, x0.power.Sources, x0.power.Limits, x0.power.Broken, x0.acts)) hC ⟨len_map _ _, trivial⟩ trivial (by kernel_rfl) ?_
  obtain ⟨k228s1_0, hm228s1_0, hret228s1_0, hnext228s1_0⟩ := andThen_inv h
  clear h
  refine WI_cut (by kernel_rfl) (fun s => k228s1_0 = .next s) (sa228s1_0) (Ra228s1_0 x1) ?_ fun s228s1_0 hs228s1_0 => ?_
  · refine WI_blk (by kernel_rfl) ?_
    refine WI_lenO 8 6 rfl rfl fun hl228s1_0 => ?_
    refine WI_foldI (by kernel_rfl) (F228s1_l0 x2) (st228s1_0 x1 x2) (R228s1_0 x1) k228s1_0 x1 (x0.board.Buses, x0.board.Breakers, x0.board.Sources, x0.board.Consumers, x0.board.Phase, x0.board.Frequency, x0.power.Closed, x0.power.Sources, x0.power.Limits, x0.power.Broken, x0.acts) hm228s1_0 rfl rfl (fun s228s1_0 hn228s1_0 => ?_) fun i228s1_0 x228s1_0 s228s1_0 k228s1_0b hi228s1_0 hx228s1_0 h hb228s1_0 hr228s1_0 => ?_
    · clear hm228s1_0
      exact WI_end (bs := [(decide ((cnt 0 x1.length) < (x1.length : Int)), false)]) (φ := fun s' => k228s1_0 = .next s') (st' := (sa228s1_0)) (R' := (Ra228s1_0 x1)) mixed lv228s1 26 [false] [] [] 7 [0, 1, 2, 3, 4, 5, 6, 7, 8, 9, 10, 11] (s228s1_0.1, s228s1_0.2.1, s228s1_0.2.2.1, s228s1_0.2.2.2.1, s228s1_0.2.2.2.2.1, s228s1_0.2.2.2.2.2.1, s228s1_0.2.2.2.2.2.2.1, s228s1_0.2.2.2.2.2.2.2.1, s228s1_0.2.2.2.2.2.2.2.2.1, s228s1_0.2.2.2.2.2.2.2.2.2.1, s228s1_0.2.2.2.2.2.2.2.2.2.2) hC trivial ⟨(cnt_end hl228s1_0), trivial⟩ (by kernel_rfl) (by kernel_rfl) hn228s1_0
    · unfold F228s1_l0 at h
      obtain ⟨y1, h2, h⟩ := bindE h
      obtain ⟨y3, h4, h⟩ := bindE h
      refine WI_stop (bs := [(decide ((cnt 0 i228s1_0) < (x1.length : Int)), true)]) mixed lv228s1 32 [true] [.row (x1.map pI) (cnt 0 i228s1_0) (pI x228s1_0), .row (x1.map pI) (((Int.toNat (cnt 0 i228s1_0)) : Nat) : Int) (pI x228s1_0), .row (s228s1_0.2.2.2.2.2.2.2.2.1.map pI) x228s1_0 (pI y1), .row (s228s1_0.2.2.2.2.2.2.2.2.1.map pI) (((Int.toNat x228s1_0) : Nat) : Int) (pI y1), .when [(decide (y1 > 0), true)] (.callB 257 [.d (.ip [.v (.int .i64 s228s1_0.1), .s (s228s1_0.2.1.map api_Breaker.ps), .s (s228s1_0.2.2.1.map api_Source.ps), .s (s228s1_0.2.2.2.1.map api_Consumer.ps), .v (.int .i64 s228s1_0.2.2.2.2.1), .v (.int .i64 s228s1_0.2.2.2.2.2.1), .s (s228s1_0.2.2.2.2.2.2.1.map pB), .s (s228s1_0.2.2.2.2.2.2.2.1.map api_Running.ps), .s (s228s1_0.2.2.2.2.2.2.2.2.1.map pI), .s (s228s1_0.2.2.2.2.2.2.2.2.2.1.map api_Part.ps), .s (s228s1_0.2.2.2.2.2.2.2.2.2.2.map api_Act.ps)]), .d (I x2)] (.d (I y3)) [[]] 0 [])] [] 7 [0, 1, 2, 3, 4, 5, 6, 7, 8, 9, 10, 11, 12] [(0, .d (.o 0 0)), (2, .d (I x2)), (7, .d (.o 12 0)), (8, .d (.os 6)), (9, .d (I (x1.length : Int))), (10, .d (I (cnt 0 i228s1_0))), (28, .d (Bo ((decide (y1 > 0)) && (decide (y3 > 0)))))] [.box 244 [I s228s1_0.1, DS api_Breaker.ps s228s1_0.2.1, DS api_Source.ps s228s1_0.2.2.1, DS api_Consumer.ps s228s1_0.2.2.2.1, I s228s1_0.2.2.2.2.1, I s228s1_0.2.2.2.2.2.1, .os 7, .os 8, .os 9, .os 10, .os 11], .non, .non, .non, .non, .non, .sl 3 1 (x1.map pI), .sl 4 1 (s228s1_0.2.2.2.2.2.2.1.map pB), .sl 59 4 (s228s1_0.2.2.2.2.2.2.2.1.map api_Running.ps), .sl 3 1 (s228s1_0.2.2.2.2.2.2.2.2.1.map pI), .sl 119 2 (s228s1_0.2.2.2.2.2.2.2.2.2.1.map api_Part.ps), .sl 42 3 (s228s1_0.2.2.2.2.2.2.2.2.2.2.map api_Act.ps), .box 3 [I x228s1_0]] hC ⟨row_get (get_cnt hx228s1_0 hl228s1_0), row_getN (get_cnt hx228s1_0 hl228s1_0), row_get h2, row_getN h2, fun hg => lend0_get ⟨e257s0, (k257s0 (⟨(⟨s228s1_0.1, s228s1_0.2.1, s228s1_0.2.2.1, s228s1_0.2.2.2.1, s228s1_0.2.2.2.2.1, s228s1_0.2.2.2.2.2.1⟩ : api_Board), (⟨s228s1_0.2.2.2.2.2.2.1, s228s1_0.2.2.2.2.2.2.2.1, s228s1_0.2.2.2.2.2.2.2.2.1, s228s1_0.2.2.2.2.2.2.2.2.2.1⟩ : api_Power), s228s1_0.2.2.2.2.2.2.2.2.2.2⟩ : shed_relief) x2 _ (guardO_get h4 hg))⟩, trivial⟩ ⟨(cnt_lt hi228s1_0 hl228s1_0), trivial⟩ (by kernel_rfl) ?_
      rcases boolC (((decide (y1 > 0)) && (decide (y3 > 0)))) with h5 | h5
      · replace h := condT h5 h
        obtain ⟨y6, h7, h⟩ := bindE h
        exact WI_end (bs := [(((decide (y1 > 0)) && (decide (y3 > 0))), true)]) (φ := fun s' => k228s1_0b = .next s') (st' := (st228s1_0 x1 x2 (i228s1_0 + 1))) (R' := (R228s1_0 x1 (i228s1_0 + 1))) mixed lv228s1 25 [true] [.call 222 [.d (.o 0 0), .d (.fn (.func 258) [] [.o 6 0])] [.box 244 [I s228s1_0.1, DS api_Breaker.ps s228s1_0.2.1, DS api_Source.ps s228s1_0.2.2.1, DS api_Consumer.ps s228s1_0.2.2.2.1, I s228s1_0.2.2.2.2.1, I s228s1_0.2.2.2.2.2.1, .os 1, .os 2, .os 3, .os 4, .os 5], .sl 4 1 (s228s1_0.2.2.2.2.2.2.1.map pB), .sl 59 4 (s228s1_0.2.2.2.2.2.2.2.1.map api_Running.ps), .sl 3 1 (s228s1_0.2.2.2.2.2.2.2.2.1.map pI), .sl 119 2 (s228s1_0.2.2.2.2.2.2.2.2.2.1.map api_Part.ps), .sl 42 3 (s228s1_0.2.2.2.2.2.2.2.2.2.2.map api_Act.ps), .box 3 [I x228s1_0]] (.tup []) [.box 244 [I y6.1.board.Buses, DS api_Breaker.ps y6.1.board.Breakers, DS api_Source.ps y6.1.board.Sources, DS api_Consumer.ps y6.1.board.Consumers, I y6.1.board.Phase, I y6.1.board.Frequency, .os 7, .os 8, .os 9, .os 10, .os 11], .non, .non, .non, .non, .non, .box 3 [I y6.2], .sl 4 1 (y6.1.power.Closed.map pB), .sl 59 4 (y6.1.power.Sources.map api_Running.ps), .sl 3 1 (y6.1.power.Limits.map pI), .sl 119 2 (y6.1.power.Broken.map api_Part.ps), .sl 42 3 (y6.1.acts.map api_Act.ps)] [0, 7, 8, 9, 10, 11, 12]] [] 7 [0, 1, 2, 3, 4, 5, 6, 13, 14, 15, 16, 17] (y6.1.board.Buses, y6.1.board.Breakers, y6.1.board.Sources, y6.1.board.Consumers, y6.1.board.Phase, y6.1.board.Frequency, y6.1.power.Closed, y6.1.power.Sources, y6.1.power.Limits, y6.1.power.Broken, y6.1.acts) hC ⟨⟨e222s5, (k222s5 (⟨(⟨s228s1_0.1, s228s1_0.2.1, s228s1_0.2.2.1, s228s1_0.2.2.2.1, s228s1_0.2.2.2.2.1, s228s1_0.2.2.2.2.2.1⟩ : api_Board), (⟨s228s1_0.2.2.2.2.2.2.1, s228s1_0.2.2.2.2.2.2.2.1, s228s1_0.2.2.2.2.2.2.2.2.1, s228s1_0.2.2.2.2.2.2.2.2.2.1⟩ : api_Power), s228s1_0.2.2.2.2.2.2.2.2.2.2⟩ : shed_relief) x228s1_0 _ h7)⟩, trivial⟩ ⟨h5, trivial⟩ (by kernel_rfl) (by kernel_rfl) (Option.some.inj h).symm
      · replace h := condF h5 h
        exact WI_end (bs := [(((decide (y1 > 0)) && (decide (y3 > 0))), false)]) (φ := fun s' => k228s1_0b = .next s') (st' := (st228s1_0 x1 x2 (i228s1_0 + 1))) (R' := (R228s1_0 x1 (i228s1_0 + 1))) mixed lv228s1 25 [false] [] [] 7 [0, 1, 2, 3, 4, 5, 6, 7, 8, 9, 10, 11] (s228s1_0.1, s228s1_0.2.1, s228s1_0.2.2.1, s228s1_0.2.2.2.1, s228s1_0.2.2.2.2.1, s228s1_0.2.2.2.2.2.1, s228s1_0.2.2.2.2.2.2.1, s228s1_0.2.2.2.2.2.2.2.1, s228s1_0.2.2.2.2.2.2.2.2.1, s228s1_0.2.2.2.2.2.2.2.2.2.1, s228s1_0.2.2.2.2.2.2.2.2.2.2) hC trivial ⟨h5, trivial⟩ (by kernel_rfl) (by kernel_rfl) (Option.some.inj h).symm
  · have h := hnext228s1_0 _ hs228s1_0
    replace h := Option.some.inj h
    subst h
    exact WI_endF (bs := []) mixed lv228s1 20 [] [] [] [] 7 [0, 1, 2, 3, 4, 5, 6, 7, 8, 9, 10, 11] rfl hC trivial trivial (by kernel_rfl) (by kernel_rfl)
theorem e228s1 : Enters Tryz.prog 228 := Go.SL.enters_of Tryz.func228 (by kernel_rfl) (by kernel_rfl)
def lv85s1 : List Nat := [0, 2, 3, 4, 6, 11, 12, 13, 14, 46, 52, 53, 54, 55]
def st85s1_0 (x0 : restore_planner) (i85s1_0 : Nat) (s85s1_0 : (List Int)) : St := [(0, .d (.o 0 0)), (2, .d (.os 7)), (11, .d (DS api_Breaker.ps x0.board.Breakers)), (12, .d (I (x0.board.Breakers.length : Int))), (13, .d (I (cnt 0 i85s1_0)))]
def R85s1_0 (x0 : restore_planner) (i85s1_0 : Nat) (s85s1_0 : (List Int)) : List Res := [.box 144 [I x0.board.Buses, DS api_Breaker.ps x0.board.Breakers, DS api_Source.ps x0.board.Sources, DS api_Consumer.ps x0.board.Consumers, I x0.board.Phase, I x0.board.Frequency, .os 8, .os 9, .os 10, .os 11, .os 12, .os 13], .non, .non, .non, .non, .non, .non, .sl 3 1 (s85s1_0.map pI), .sl 4 1 (x0.power.Closed.map pB), .sl 59 4 (x0.power.Sources.map api_Running.ps), .sl 3 1 (x0.power.Limits.map pI), .sl 119 2 (x0.power.Broken.map api_Part.ps), .sl 4 1 (x0.goal.map pB), .sl 42 3 (x0.acts.map api_Act.ps)]
def sa85s1_0  (s85s1_0 : (List Int)) : St := [(0, .d (.o 0 0)), (2, .d (.os 7))]
def Ra85s1_0 (x0 : restore_planner) (s85s1_0 : (List Int)) : List Res := [.box 144 [I x0.board.Buses, DS api_Breaker.ps x0.board.Breakers, DS api_Source.ps x0.board.Sources, DS api_Consumer.ps x0.board.Consumers, I x0.board.Phase, I x0.board.Frequency, .os 8, .os 9, .os 10, .os 11, .os 12, .os 13], .non, .non, .non, .non, .non, .non, .sl 3 1 (s85s1_0.map pI), .sl 4 1 (x0.power.Closed.map pB), .sl 59 4 (x0.power.Sources.map api_Running.ps), .sl 3 1 (x0.power.Limits.map pI), .sl 119 2 (x0.power.Broken.map api_Part.ps), .sl 4 1 (x0.goal.map pB), .sl 42 3 (x0.acts.map api_Act.ps)]
def st85s1_1 (s85s1_0 : (List Int)) (i85s1_1 : Nat) (s85s1_1 : Sg3) : St := [(0, .d (.o 0 0)), (52, .d (.os 7)), (53, .d (I (s85s1_0.length : Int))), (54, .d (I (cnt 0 i85s1_1)))]
def R85s1_1 (s85s1_0 : (List Int)) (i85s1_1 : Nat) (s85s1_1 : Sg3) : List Res := [.box 144 [I s85s1_1.1, DS api_Breaker.ps s85s1_1.2.1, DS api_Source.ps s85s1_1.2.2.1, DS api_Consumer.ps s85s1_1.2.2.2.1, I s85s1_1.2.2.2.2.1, I s85s1_1.2.2.2.2.2.1, .os 8, .os 9, .os 10, .os 11, .os 12, .os 13], .non, .non, .non, .non, .non, .non, .sl 3 1 (s85s1_0.map pI), .sl 4 1 (s85s1_1.2.2.2.2.2.2.1.map pB), .sl 59 4 (s85s1_1.2.2.2.2.2.2.2.1.map api_Running.ps), .sl 3 1 (s85s1_1.2.2.2.2.2.2.2.2.1.map pI), .sl 119 2 (s85s1_1.2.2.2.2.2.2.2.2.2.1.map api_Part.ps), .sl 4 1 (s85s1_1.2.2.2.2.2.2.2.2.2.2.1.map pB), .sl 42 3 (s85s1_1.2.2.2.2.2.2.2.2.2.2.2.map api_Act.ps)]
def sa85s1_1  (s85s1_1 : Sg3) : St := []
def Ra85s1_1  (s85s1_1 : Sg3) : List Res := [.box 144 [I s85s1_1.1, DS api_Breaker.ps s85s1_1.2.1, DS api_Source.ps s85s1_1.2.2.1, DS api_Consumer.ps s85s1_1.2.2.2.1, I s85s1_1.2.2.2.2.1, I s85s1_1.2.2.2.2.2.1, .os 7, .os 8, .os 9, .os 10, .os 11, .os 12], .non, .non, .non, .non, .non, .non, .sl 4 1 (s85s1_1.2.2.2.2.2.2.1.map pB), .sl 59 4 (s85s1_1.2.2.2.2.2.2.2.1.map api_Running.ps), .sl 3 1 (s85s1_1.2.2.2.2.2.2.2.2.1.map pI), .sl 119 2 (s85s1_1.2.2.2.2.2.2.2.2.2.1.map api_Part.ps), .sl 4 1 (s85s1_1.2.2.2.2.2.2.2.2.2.2.1.map pB), .sl 42 3 (s85s1_1.2.2.2.2.2.2.2.2.2.2.2.map api_Act.ps)]
theorem k85s1 (x0 : restore_planner) (r : restore_planner) (h : F85s1 x0 = some r) : CallOk Tryz.prog 85 [.d (.o 0 0)] [.box 144 [I x0.board.Buses, DS api_Breaker.ps x0.board.Breakers, DS api_Source.ps x0.board.Sources, DS api_Consumer.ps x0.board.Consumers, I x0.board.Phase, I x0.board.Frequency, .os 1, .os 2, .os 3, .os 4, .os 5, .os 6], .sl 4 1 (x0.power.Closed.map pB), .sl 59 4 (x0.power.Sources.map api_Running.ps), .sl 3 1 (x0.power.Limits.map pI), .sl 119 2 (x0.power.Broken.map api_Part.ps), .sl 4 1 (x0.goal.map pB), .sl 42 3 (x0.acts.map api_Act.ps)] (.tup []) [.box 144 [I r.board.Buses, DS api_Breaker.ps r.board.Breakers, DS api_Source.ps r.board.Sources, DS api_Consumer.ps r.board.Consumers, I r.board.Phase, I r.board.Frequency, .os 7, .os 8, .os 9, .os 10, .os 11, .os 12], .non, .non, .non, .non, .non, .non, .sl 4 1 (r.power.Closed.map pB), .sl 59 4 (r.power.Sources.map api_Running.ps), .sl 3 1 (r.power.Limits.map pI), .sl 119 2 (r.power.Broken.map api_Part.ps), .sl 4 1 (r.goal.map pB), .sl 42 3 (r.acts.map api_Act.ps)] := by
  unfold F85s1 at h
  refine callOk_of 62 Tryz.func85 rfl rfl rfl fun C hC => ?_
  refine WI_stop (bs := []) mixed lv85s1 26 [] [.len ((x0.board.Breakers.map api_Breaker.ps).length : Int) (x0.board.Breakers.length : Int)] [.own 2 3 1, .mv 1, .mv 2, .mv 3, .mv 4, .mv 5, .mv 6] 7 [0, 1, 2, 3, 4, 5, 6, 7, 8, 9, 10, 11, 12, 13] (st85s1_0 x0 0 ([] : List Int)) (R85s1_0 x0 0 ([] : List Int)) hC ⟨len_map _ _, trivial⟩ trivial (by kernel_rfl) ?_
  obtain ⟨k85s1_0, hm85s1_0, hret85s1_0, hnext85s1_0⟩ := andThen_inv h
  clear h
  refine WI_cut (by kernel_rfl) (fun s => k85s1_0 = .next s) (sa85s1_0) (Ra85s1_0 x0) ?_ fun s85s1_0 hs85s1_0 => ?_
  · refine WI_blk (by kernel_rfl) ?_
    refine WI_len 11 rfl fun hl85s1_0 => ?_
    refine WI_foldI (by kernel_rfl) (F85s1_l0 x0) (st85s1_0 x0) (R85s1_0 x0) k85s1_0 x0.board.Breakers ([] : List Int) hm85s1_0 rfl rfl (fun s85s1_0 hn85s1_0 => ?_) fun i85s1_0 x85s1_0 s85s1_0 k85s1_0b hi85s1_0 hx85s1_0 h hb85s1_0 hr85s1_0 => ?_
    · clear hm85s1_0
      exact WI_end (bs := [(decide ((cnt 0 x0.board.Breakers.length) < (x0.board.Breakers.length : Int)), false)]) (φ := fun s' => k85s1_0 = .next s') (st' := (sa85s1_0)) (R' := (Ra85s1_0 x0)) mixed lv85s1 26 [false] [] [] 7 [0, 1, 2, 3, 4, 5, 6, 7, 8, 9, 10, 11, 12, 13] s85s1_0 hC trivial ⟨(cnt_end hl85s1_0), trivial⟩ (by kernel_rfl) (by kernel_rfl) hn85s1_0
    · unfold F85s1_l0 at h
      obtain ⟨y1, h2, h⟩ := bindE h
      obtain ⟨y3, h4, h⟩ := bindE h
      obtain ⟨y5, h6, h⟩ := bindE h
      refine WI_stop (bs := [(decide ((cnt 0 i85s1_0) < (x0.board.Breakers.length : Int)), true)]) mixed lv85s1 32 [true] [.row (x0.board.Breakers.map api_Breaker.ps) (cnt 0 i85s1_0) (api_Breaker.ps x85s1_0), .when [((x85s1_0.Kind != 2), true)] (.row (x0.power.Closed.map pB) (cnt 0 i85s1_0) (pB y1)), .when [((x85s1_0.Kind != 2), true)] (.row (x0.power.Closed.map pB) (((Int.toNat (cnt 0 i85s1_0)) : Nat) : Int) (pB y1)), .when [(((x85s1_0.Kind != 2) && y1), true)] (.callB 134 [.agg [DS pB x0.power.Closed, DS api_Running.ps x0.power.Sources, DS pI x0.power.Limits, DS api_Part.ps x0.power.Broken], .d (I 2), .d (I (cnt 0 i85s1_0))] (.d (Bo y3)) [[]] 0 []), .when [((((x85s1_0.Kind != 2) && y1) && (!y3)), true)] (.callB 164 [.d (.ip [.v (.int .i64 x0.board.Buses), .s (x0.board.Breakers.map api_Breaker.ps), .s (x0.board.Sources.map api_Source.ps), .s (x0.board.Consumers.map api_Consumer.ps), .v (.int .i64 x0.board.Phase), .v (.int .i64 x0.board.Frequency), .s (x0.power.Closed.map pB), .s (x0.power.Sources.map api_Running.ps), .s (x0.power.Limits.map pI), .s (x0.power.Broken.map api_Part.ps), .s (x0.goal.map pB), .s (x0.acts.map api_Act.ps)]), .d (I x85s1_0.A)] (.d (Bo y5)) [[]] 0 [])] [] 7 [0, 1, 2, 3, 4, 5, 6, 7, 8, 9, 10, 11, 12, 13] [(0, .d (.o 0 0)), (2, .d (.os 7)), (3, .d (I (cnt 0 i85s1_0))), (11, .d (DS api_Breaker.ps x0.board.Breakers)), (12, .d (I (x0.board.Breakers.length : Int))), (13, .d (I (cnt 0 i85s1_0))), (46, .d (Bo (c85s1_2 x85s1_0 y1 y3 y5)))] [.box 144 [I x0.board.Buses, DS api_Breaker.ps x0.board.Breakers, DS api_Source.ps x0.board.Sources, DS api_Consumer.ps x0.board.Consumers, I x0.board.Phase, I x0.board.Frequency, .os 8, .os 9, .os 10, .os 11, .os 12, .os 13], .non, .non, .non, .non, .non, .non, .sl 3 1 (s85s1_0.map pI), .sl 4 1 (x0.power.Closed.map pB), .sl 59 4 (x0.power.Sources.map api_Running.ps), .sl 3 1 (x0.power.Limits.map pI), .sl 119 2 (x0.power.Broken.map api_Part.ps), .sl 4 1 (x0.goal.map pB), .sl 42 3 (x0.acts.map api_Act.ps)] hC ⟨(row_cnt hx85s1_0 hl85s1_0), fun hg => row_get (guardO_get h2 hg), fun hg => row_getN (guardO_get h2 hg), fun hg => lend0_get ⟨e134, (k134 x0.power 2 (cnt 0 i85s1_0) _ (guardO_get h4 hg))⟩, fun hg => lend0_get ⟨e164s0, (k164s0 x0 x85s1_0.A _ (guardO_get h6 hg))⟩, trivial⟩ ⟨(cnt_lt hi85s1_0 hl85s1_0), trivial⟩ (by kernel_rfl) ?_
      rcases boolC ((c85s1_2 x85s1_0 y1 y3 y5)) with h7 | h7
      · replace h := condT h7 h
        obtain ⟨y8, h9, h⟩ := bindE h
        exact WI_end (bs := [((c85s1_2 x85s1_0 y1 y3 y5), true)]) (φ := fun s' => k85s1_0b = .next s') (st' := (st85s1_0 x0 (i85s1_0 + 1))) (R' := (R85s1_0 x0 (i85s1_0 + 1))) mixed lv85s1 25 [true] [.app (s85s1_0.map pI) ([cnt 0 i85s1_0].map pI) 1 (((s85s1_0.map pI).length + ([cnt 0 i85s1_0].map pI).length) * (8 + 1)) (y8.map pI)] [] 7 [0, 1, 2, 3, 4, 5, 6, 14, 8, 9, 10, 11, 12, 13] y8 hC ⟨app_get pI 1 (fun _ => rfl) h9, trivial⟩ ⟨h7, trivial⟩ (by kernel_rfl) (by kernel_rfl) (Option.some.inj h).symm
      · replace h := condF h7 h
        exact WI_end (bs := [((c85s1_2 x85s1_0 y1 y3 y5), false)]) (φ := fun s' => k85s1_0b = .next s') (st' := (st85s1_0 x0 (i85s1_0 + 1))) (R' := (R85s1_0 x0 (i85s1_0 + 1))) mixed lv85s1 25 [false] [] [] 7 [0, 1, 2, 3, 4, 5, 6, 7, 8, 9, 10, 11, 12, 13] s85s1_0 hC trivial ⟨h7, trivial⟩ (by kernel_rfl) (by kernel_rfl) (Option.some.inj h).symm
  · have h := hnext85s1_0 _ hs85s1_0
    refine WI_stop (bs := []) mixed lv85s1 23 [] [.len ((s85s1_0.map pI).length : Int) (s85s1_0.length : Int)] [] 7 [0, 1, 2, 3, 4, 5, 6, 7, 8, 9, 10, 11, 12, 13] (st85s1_1 s85s1_0 0 (x0.board.Buses, x0.board.Breakers, x0.board.Sources, x0.board.Consumers, x0.board.Phase, x0.board.Frequency, x0.power.Closed, x0.power.Sources, x0.power.Limits, x0.power.Broken, x0.goal, x0.acts)) (R85s1_1 s85s1_0 0 (x0.board.Buses, x0.board.Breakers, x0.board.Sources, x0.board.Consumers, x0.board.Phase, x0.board.Frequency, x0.power.Closed, x0.power.Sources, x0.power.Limits, x0.power.Broken, x0.goal, x0.acts)) hC ⟨len_map _ _, trivial⟩ trivial (by kernel_rfl) ?_
    obtain ⟨k85s1_1, hm85s1_1, hret85s1_1, hnext85s1_1⟩ := andThen_inv h
    clear h
    refine WI_cut (by kernel_rfl) (fun s => k85s1_1 = .next s) (sa85s1_1) (Ra85s1_1) ?_ fun s85s1_1 hs85s1_1 => ?_
    · refine WI_blk (by kernel_rfl) ?_
      refine WI_lenO 52 7 rfl rfl fun hl85s1_1 => ?_
      refine WI_foldI (by kernel_rfl) F85s1_l1 (st85s1_1 s85s1_0) (R85s1_1 s85s1_0) k85s1_1 s85s1_0 (x0.board.Buses, x0.board.Breakers, x0.board.Sources, x0.board.Consumers, x0.board.Phase, x0.board.Frequency, x0.power.Closed, x0.power.Sources, x0.power.Limits, x0.power.Broken, x0.goal, x0.acts) hm85s1_1 rfl rfl (fun s85s1_1 hn85s1_1 => ?_) fun i85s1_1 x85s1_1 s85s1_1 k85s1_1b hi85s1_1 hx85s1_1 h hb85s1_1 hr85s1_1 => ?_
      · clear hm85s1_1
        exact WI_end (bs := [(decide ((cnt 0 s85s1_0.length) < (s85s1_0.length : Int)), false)]) (φ := fun s' => k85s1_1 = .next s') (st' := (sa85s1_1)) (R' := (Ra85s1_1)) mixed lv85s1 26 [false] [] [] 7 [0, 1, 2, 3, 4, 5, 6, 8, 9, 10, 11, 12, 13] (s85s1_1.1, s85s1_1.2.1, s85s1_1.2.2.1, s85s1_1.2.2.2.1, s85s1_1.2.2.2.2.1, s85s1_1.2.2.2.2.2.1, s85s1_1.2.2.2.2.2.2.1, s85s1_1.2.2.2.2.2.2.2.1, s85s1_1.2.2.2.2.2.2.2.2.1, s85s1_1.2.2.2.2.2.2.2.2.2.1, s85s1_1.2.2.2.2.2.2.2.2.2.2.1, s85s1_1.2.2.2.2.2.2.2.2.2.2.2) hC trivial ⟨(cnt_end hl85s1_1), trivial⟩ (by kernel_rfl) (by kernel_rfl) hn85s1_1
      · unfold F85s1_l1 at h
        obtain ⟨y10, h11, h⟩ := bindE h
        exact WI_end (bs := [(decide ((cnt 0 i85s1_1) < (s85s1_0.length : Int)), true)]) (φ := fun s' => k85s1_1b = .next s') (st' := (st85s1_1 s85s1_0 (i85s1_1 + 1))) (R' := (R85s1_1 s85s1_0 (i85s1_1 + 1))) mixed lv85s1 33 [true] [.row (s85s1_0.map pI) (cnt 0 i85s1_1) (pI x85s1_1), .row (s85s1_0.map pI) (((Int.toNat (cnt 0 i85s1_1)) : Nat) : Int) (pI x85s1_1), .call 89 [.d (.o 0 0), .d (I 2), .d (I x85s1_1)] [.box 144 [I s85s1_1.1, DS api_Breaker.ps s85s1_1.2.1, DS api_Source.ps s85s1_1.2.2.1, DS api_Consumer.ps s85s1_1.2.2.2.1, I s85s1_1.2.2.2.2.1, I s85s1_1.2.2.2.2.2.1, .os 1, .os 2, .os 3, .os 4, .os 5, .os 6], .sl 4 1 (s85s1_1.2.2.2.2.2.2.1.map pB), .sl 59 4 (s85s1_1.2.2.2.2.2.2.2.1.map api_Running.ps), .sl 3 1 (s85s1_1.2.2.2.2.2.2.2.2.1.map pI), .sl 119 2 (s85s1_1.2.2.2.2.2.2.2.2.2.1.map api_Part.ps), .sl 4 1 (s85s1_1.2.2.2.2.2.2.2.2.2.2.1.map pB), .sl 42 3 (s85s1_1.2.2.2.2.2.2.2.2.2.2.2.map api_Act.ps)] (.tup []) [.box 144 [I y10.board.Buses, DS api_Breaker.ps y10.board.Breakers, DS api_Source.ps y10.board.Sources, DS api_Consumer.ps y10.board.Consumers, I y10.board.Phase, I y10.board.Frequency, .os 1, .os 2, .os 3, .os 4, .os 5, .os 7], .sl 4 1 (y10.power.Closed.map pB), .sl 59 4 (y10.power.Sources.map api_Running.ps), .sl 3 1 (y10.power.Limits.map pI), .sl 119 2 (y10.power.Broken.map api_Part.ps), .sl 4 1 (y10.goal.map pB), .non, .sl 42 3 (y10.acts.map api_Act.ps)] [0, 8, 9, 10, 11, 12, 13]] [] 7 [0, 1, 2, 3, 4, 5, 6, 7, 8, 9, 10, 11, 12, 14] (y10.board.Buses, y10.board.Breakers, y10.board.Sources, y10.board.Consumers, y10.board.Phase, y10.board.Frequency, y10.power.Closed, y10.power.Sources, y10.power.Limits, y10.power.Broken, y10.goal, y10.acts) hC ⟨row_get (get_cnt hx85s1_1 hl85s1_1), row_getN (get_cnt hx85s1_1 hl85s1_1), ⟨e89s1, (k89s1 (⟨(⟨s85s1_1.1, s85s1_1.2.1, s85s1_1.2.2.1, s85s1_1.2.2.2.1, s85s1_1.2.2.2.2.1, s85s1_1.2.2.2.2.2.1⟩ : api_Board), (⟨s85s1_1.2.2.2.2.2.2.1, s85s1_1.2.2.2.2.2.2.2.1, s85s1_1.2.2.2.2.2.2.2.2.1, s85s1_1.2.2.2.2.2.2.2.2.2.1⟩ : api_Power), s85s1_1.2.2.2.2.2.2.2.2.2.2.1, s85s1_1.2.2.2.2.2.2.2.2.2.2.2⟩ : restore_planner) 2 x85s1_1 _ h11)⟩, trivial⟩ ⟨(cnt_lt hi85s1_1 hl85s1_1), trivial⟩ (by kernel_rfl) (by kernel_rfl) (Option.some.inj h).symm
    · have h := hnext85s1_1 _ hs85s1_1
      replace h := Option.some.inj h
      subst h
      exact WI_endF (bs := []) mixed lv85s1 20 [] [] [] [] 7 [0, 1, 2, 3, 4, 5, 6, 7, 8, 9, 10, 11, 12] rfl hC trivial trivial (by kernel_rfl) (by kernel_rfl)
theorem e85s1 : Enters Tryz.prog 85 := Go.SL.enters_of Tryz.func85 (by kernel_rfl) (by kernel_rfl)
def lv86s1 : List Nat := [0, 2, 3, 4, 9, 10, 11, 12, 44, 46, 47, 71]
def st86s1_0 (x0 : restore_planner) (i86s1_0 : Nat) (s86s1_0 : Sg6) : St := [(0, .d (.o 0 0)), (2, .d (I s86s1_0.1)), (9, .d (.os 8)), (10, .d (I (x0.power.Sources.length : Int))), (11, .d (I (cnt 0 i86s1_0)))]
def R86s1_0 (x0 : restore_planner) (i86s1_0 : Nat) (s86s1_0 : Sg6) : List Res := [.box 144 [I x0.board.Buses, DS api_Breaker.ps x0.board.Breakers, DS api_Source.ps x0.board.Sources, DS api_Consumer.ps x0.board.Consumers, I x0.board.Phase, I x0.board.Frequency, .os 7, .os 8, .os 9, .os 10, .os 11, .os 12], .non, .non, .non, .non, .non, .non, .sl 4 1 (x0.power.Closed.map pB), .sl 59 4 (s86s1_0.2.1.map api_Running.ps), .sl 3 1 (x0.power.Limits.map pI), .sl 119 2 (x0.power.Broken.map api_Part.ps), .sl 4 1 (x0.goal.map pB), .sl 42 3 (s86s1_0.2.2.map api_Act.ps)]
def sa86s1_0  (s86s1_0 : Sg6) : St := [(0, .d (.o 0 0)), (2, .d (I s86s1_0.1))]
def Ra86s1_0 (x0 : restore_planner) (s86s1_0 : Sg6) : List Res := [.box 144 [I x0.board.Buses, DS api_Breaker.ps x0.board.Breakers, DS api_Source.ps x0.board.Sources, DS api_Consumer.ps x0.board.Consumers, I x0.board.Phase, I x0.board.Frequency, .os 7, .os 8, .os 9, .os 10, .os 11, .os 12], .non, .non, .non, .non, .non, .non, .sl 4 1 (x0.power.Closed.map pB), .sl 59 4 (s86s1_0.2.1.map api_Running.ps), .sl 3 1 (x0.power.Limits.map pI), .sl 119 2 (x0.power.Broken.map api_Part.ps), .sl 4 1 (x0.goal.map pB), .sl 42 3 (s86s1_0.2.2.map api_Act.ps)]
theorem k86s1 (x0 : restore_planner) (r : restore_planner) (h : F86s1 x0 = some r) : CallOk Tryz.prog 86 [.d (.o 0 0)] [.box 144 [I x0.board.Buses, DS api_Breaker.ps x0.board.Breakers, DS api_Source.ps x0.board.Sources, DS api_Consumer.ps x0.board.Consumers, I x0.board.Phase, I x0.board.Frequency, .os 1, .os 2, .os 3, .os 4, .os 5, .os 6], .sl 4 1 (x0.power.Closed.map pB), .sl 59 4 (x0.power.Sources.map api_Running.ps), .sl 3 1 (x0.power.Limits.map pI), .sl 119 2 (x0.power.Broken.map api_Part.ps), .sl 4 1 (x0.goal.map pB), .sl 42 3 (x0.acts.map api_Act.ps)] (.tup []) [.box 144 [I r.board.Buses, DS api_Breaker.ps r.board.Breakers, DS api_Source.ps r.board.Sources, DS api_Consumer.ps r.board.Consumers, I r.board.Phase, I r.board.Frequency, .os 7, .os 8, .os 9, .os 10, .os 11, .os 12], .non, .non, .non, .non, .non, .non, .sl 4 1 (r.power.Closed.map pB), .sl 59 4 (r.power.Sources.map api_Running.ps), .sl 3 1 (r.power.Limits.map pI), .sl 119 2 (r.power.Broken.map api_Part.ps), .sl 4 1 (r.goal.map pB), .sl 42 3 (r.acts.map api_Act.ps)] := by
  unfold F86s1 at h
  refine callOk_of 105 Tryz.func86 rfl rfl rfl fun C hC => ?_
  refine WI_stop (bs := []) mixed lv86s1 26 [] [.len ((x0.power.Sources.map api_Running.ps).length : Int) (x0.power.Sources.length : Int)] [.mv 1, .mv 2, .mv 3, .mv 4, .mv 5, .mv 6] 7 [0, 1, 2, 3, 4, 5, 6, 7, 8, 9, 10, 11, 12] (st86s1_0 x0 0 (0, x0.power.Sources, x0.acts)) (R86s1_0 x0 0 (0, x0.power.Sources, x0.acts)) hC ⟨len_map _ _, trivial⟩ trivial (by kernel_rfl) ?_
  obtain ⟨k86s1_0, hm86s1_0, hret86s1_0, hnext86s1_0⟩ := andThen_inv h
  clear h
  refine WI_cut (by kernel_rfl) (fun s => k86s1_0 = .next s) (sa86s1_0) (Ra86s1_0 x0) ?_ fun s86s1_0 hs86s1_0 => ?_
  · refine WI_blk (by kernel_rfl) ?_
    refine WI_lenO 9 8 rfl rfl fun hl86s1_0 => ?_
    refine WI_foldI (by kernel_rfl) (F86s1_l0 x0) (st86s1_0 x0) (R86s1_0 x0) k86s1_0 x0.power.Sources (0, x0.power.Sources, x0.acts) hm86s1_0 rfl rfl (fun s86s1_0 hn86s1_0 => ?_) fun i86s1_0 x86s1_0 s86s1_0 k86s1_0b hi86s1_0 hx86s1_0 h hb86s1_0 hr86s1_0 => ?_
    · clear hm86s1_0
      exact WI_end (bs := [(decide ((cnt 0 x0.power.Sources.length) < (x0.power.Sources.length : Int)), false)]) (φ := fun s' => k86s1_0 = .next s') (st' := (sa86s1_0)) (R' := (Ra86s1_0 x0)) mixed lv86s1 26 [false] [] [] 7 [0, 1, 2, 3, 4, 5, 6, 7, 8, 9, 10, 11, 12] (s86s1_0.1, s86s1_0.2.1, s86s1_0.2.2) hC trivial ⟨(cnt_end hl86s1_0), trivial⟩ (by kernel_rfl) (by kernel_rfl) hn86s1_0
    · unfold F86s1_l0 at h
      obtain ⟨y1, h2, h⟩ := bindE h
      obtain ⟨y3, h4, h⟩ := bindE h
      obtain ⟨y5, h6, h⟩ := bindE h
      obtain ⟨y7, h8, h⟩ := bindE h
      obtain ⟨y9, h10, h⟩ := bindE h
      refine WI_stop (bs := [(decide ((cnt 0 i86s1_0) < (x0.power.Sources.length : Int)), true)]) mixed lv86s1 33 [true] [.row (s86s1_0.2.1.map api_Running.ps) (cnt 0 i86s1_0) (api_Running.ps y1), .row (s86s1_0.2.1.map api_Running.ps) (((Int.toNat (cnt 0 i86s1_0)) : Nat) : Int) (api_Running.ps y1), .callB 66 [.agg [I x0.board.Buses, DS api_Breaker.ps x0.board.Breakers, DS api_Source.ps x0.board.Sources, DS api_Consumer.ps x0.board.Consumers, I x0.board.Phase, I x0.board.Frequency], .agg [DS pB x0.power.Closed, DS api_Running.ps s86s1_0.2.1, DS pI x0.power.Limits, DS api_Part.ps x0.power.Broken], .d (I (cnt 0 i86s1_0))] (.d (Bo y3)) [[]] 0 [], .when [(!y3, false)] (.call 67 [.agg [I x0.board.Buses, DS api_Breaker.ps x0.board.Breakers, DS api_Source.ps x0.board.Sources, DS api_Consumer.ps x0.board.Consumers, I x0.board.Phase, I x0.board.Frequency], .d (I (cnt 0 i86s1_0))] [] (.d (I y5)) [] []), .when [(!y3, false)] (.row (x0.board.Breakers.map api_Breaker.ps) y5 (api_Breaker.ps y7)), .when [(!y3, false)] (.callB 164 [.d (.ip [.v (.int .i64 x0.board.Buses), .s (x0.board.Breakers.map api_Breaker.ps), .s (x0.board.Sources.map api_Source.ps), .s (x0.board.Consumers.map api_Consumer.ps), .v (.int .i64 x0.board.Phase), .v (.int .i64 x0.board.Frequency), .s (x0.power.Closed.map pB), .s (s86s1_0.2.1.map api_Running.ps), .s (x0.power.Limits.map pI), .s (x0.power.Broken.map api_Part.ps), .s (x0.goal.map pB), .s (s86s1_0.2.2.map api_Act.ps)]), .d (I y7.A)] (.d (Bo y9)) [[]] 0 [])] [] 7 [0, 1, 2, 3, 4, 5, 6, 7, 8, 9, 10, 11, 12, 13] [(0, .d (.o 0 0)), (2, .d (I s86s1_0.1)), (3, .d (I (cnt 0 i86s1_0))), (4, .d (.o 13 0)), (9, .d (.os 8)), (10, .d (I (x0.power.Sources.length : Int))), (11, .d (I (cnt 0 i86s1_0))), (44, .d (Bo ((!y3) || y9)))] [.box 144 [I x0.board.Buses, DS api_Breaker.ps x0.board.Breakers, DS api_Source.ps x0.board.Sources, DS api_Consumer.ps x0.board.Consumers, I x0.board.Phase, I x0.board.Frequency, .os 7, .os 8, .os 9, .os 10, .os 11, .os 12], .non, .non, .non, .non, .non, .non, .sl 4 1 (x0.power.Closed.map pB), .sl 59 4 (s86s1_0.2.1.map api_Running.ps), .sl 3 1 (x0.power.Limits.map pI), .sl 119 2 (x0.power.Broken.map api_Part.ps), .sl 4 1 (x0.goal.map pB), .sl 42 3 (s86s1_0.2.2.map api_Act.ps), .box 59 [I y1.State, I y1.Since, I y1.Frequency, I y1.Phase]] hC ⟨row_get h2, row_getN h2, lend0_get ⟨e66, (k66 x0.board (⟨x0.power.Closed, s86s1_0.2.1, x0.power.Limits, x0.power.Broken⟩ : api_Power) (cnt 0 i86s1_0) _ h4)⟩, fun hg => ⟨e67, (k67 x0.board (cnt 0 i86s1_0) _ (guardO_get h6 hg))⟩, fun hg => row_get (guardO_get h8 hg), fun hg => lend0_get ⟨e164s0, (k164s0 (⟨x0.board, (⟨x0.power.Closed, s86s1_0.2.1, x0.power.Limits, x0.power.Broken⟩ : api_Power), x0.goal, s86s1_0.2.2⟩ : restore_planner) y7.A _ (guardO_get h10 hg))⟩, trivial⟩ ⟨(cnt_lt hi86s1_0 hl86s1_0), trivial⟩ (by kernel_rfl) ?_
      rcases boolC (((!y3) || y9)) with h11 | h11
      · replace h := condT h11 h
        exact WI_end (bs := [(((!y3) || y9), true)]) (φ := fun s' => k86s1_0b = .next s') (st' := (st86s1_0 x0 (i86s1_0 + 1))) (R' := (R86s1_0 x0 (i86s1_0 + 1))) mixed lv86s1 24 [true] [] [] 7 [0, 1, 2, 3, 4, 5, 6, 7, 8, 9, 10, 11, 12] (s86s1_0.1, s86s1_0.2.1, s86s1_0.2.2) hC trivial ⟨h11, trivial⟩ (by kernel_rfl) (by kernel_rfl) (Option.some.inj h).symm
      · replace h := condF h11 h
        rcases boolC ((y1.State == 0)) with h12 | h12
        · replace h := condT h12 h
          obtain ⟨y13, h14, h⟩ := bindE h
          obtain ⟨y15, h16, h⟩ := bindE h
          obtain ⟨y17, h18, h⟩ := bindE h
          exact WI_end (bs := [(((!y3) || y9), false), ((y1.State == 0), true)]) (φ := fun s' => k86s1_0b = .next s') (st' := (st86s1_0 x0 (i86s1_0 + 1))) (R' := (R86s1_0 x0 (i86s1_0 + 1))) mixed lv86s1 37 [false, true] [.app (s86s1_0.2.2.map api_Act.ps) ([(⟨3, cnt 0 i86s1_0, 0⟩ : api_Act)].map api_Act.ps) 3 (((s86s1_0.2.2.map api_Act.ps).length + ([(⟨3, cnt 0 i86s1_0, 0⟩ : api_Act)].map api_Act.ps).length) * (24 + 1)) (y13.map api_Act.ps), .row (x0.board.Sources.map api_Source.ps) (cnt 0 i86s1_0) (api_Source.ps y15), .row (s86s1_0.2.1.map api_Running.ps) (cnt 0 i86s1_0) (api_Running.ps y1), .upd (s86s1_0.2.1.map api_Running.ps) (Int.toNat (cnt 0 i86s1_0)) (api_Running.ps y1) (api_Running.ps (⟨2, y1.Since, y1.Frequency, y1.Phase⟩ : api_Running)) (y17.map api_Running.ps)] [] 7 [0, 1, 2, 3, 4, 5, 6, 7, 8, 9, 10, 11, 14] (max s86s1_0.1 y15.Start, y17, y13) hC ⟨app_get api_Act.ps 3 (fun _ => rfl) h14, row_get h16, row_get h2, upd_get h2 h18, trivial⟩ ⟨h11, h12, trivial⟩ (by kernel_rfl) (by kernel_rfl) (Option.some.inj h).symm
        · replace h := condF h12 h
          rcases boolC ((y1.State == 1)) with h19 | h19
          · replace h := condT h19 h
            obtain ⟨y20, h21, h⟩ := bindE h
            obtain ⟨y22, h23, h⟩ := bindE h
            exact WI_end (bs := [(((!y3) || y9), false), ((y1.State == 0), false), ((y1.State == 1), true)]) (φ := fun s' => k86s1_0b = .next s') (st' := (st86s1_0 x0 (i86s1_0 + 1))) (R' := (R86s1_0 x0 (i86s1_0 + 1))) mixed lv86s1 38 [false, false, true] [.row (x0.board.Sources.map api_Source.ps) (cnt 0 i86s1_0) (api_Source.ps y20), .row (s86s1_0.2.1.map api_Running.ps) (cnt 0 i86s1_0) (api_Running.ps y1), .upd (s86s1_0.2.1.map api_Running.ps) (Int.toNat (cnt 0 i86s1_0)) (api_Running.ps y1) (api_Running.ps (⟨2, y1.Since, y1.Frequency, y1.Phase⟩ : api_Running)) (y22.map api_Running.ps)] [] 7 [0, 1, 2, 3, 4, 5, 6, 7, 8, 9, 10, 11, 12] (max (max s86s1_0.1 y20.Start) 1, y22, s86s1_0.2.2) hC ⟨row_get h21, row_get h2, upd_get h2 h23, trivial⟩ ⟨h11, h12, h19, trivial⟩ (by kernel_rfl) (by kernel_rfl) (Option.some.inj h).symm
          · replace h := condF h19 h
            obtain ⟨y24, h25, h⟩ := bindE h
            exact WI_end (bs := [(((!y3) || y9), false), ((y1.State == 0), false), ((y1.State == 1), false)]) (φ := fun s' => k86s1_0b = .next s') (st' := (st86s1_0 x0 (i86s1_0 + 1))) (R' := (R86s1_0 x0 (i86s1_0 + 1))) mixed lv86s1 38 [false, false, false] [.row (s86s1_0.2.1.map api_Running.ps) (cnt 0 i86s1_0) (api_Running.ps y1), .upd (s86s1_0.2.1.map api_Running.ps) (Int.toNat (cnt 0 i86s1_0)) (api_Running.ps y1) (api_Running.ps (⟨2, y1.Since, y1.Frequency, y1.Phase⟩ : api_Running)) (y24.map api_Running.ps)] [] 7 [0, 1, 2, 3, 4, 5, 6, 7, 8, 9, 10, 11, 12] (s86s1_0.1, y24, s86s1_0.2.2) hC ⟨row_get h2, upd_get h2 h25, trivial⟩ ⟨h11, h12, h19, trivial⟩ (by kernel_rfl) (by kernel_rfl) (Option.some.inj h).symm
  · have h := hnext86s1_0 _ hs86s1_0
    obtain ⟨y26, h27, h⟩ := bindE h
    obtain ⟨y28, h29, h⟩ := bindE h
    replace h := Option.some.inj h
    subst h
    exact WI_endF (bs := []) mixed lv86s1 21 [] [.call 165 [.d (DS api_Act.ps [(⟨7, 0, 0⟩ : api_Act)]), .d (I s86s1_0.1)] [] (.d (.os 0)) [.sl 42 3 (y26.map api_Act.ps)] [], .app (s86s1_0.2.2.map api_Act.ps) (y26.map api_Act.ps) 3 (((s86s1_0.2.2.map api_Act.ps).length + (y26.map api_Act.ps).length) * (24 + 1)) (y28.map api_Act.ps)] [] [] 7 [0, 1, 2, 3, 4, 5, 6, 7, 8, 9, 10, 11, 14] rfl hC ⟨⟨e165, (k165 [(⟨7, 0, 0⟩ : api_Act)] s86s1_0.1 _ h27)⟩, app_get api_Act.ps 3 (fun _ => rfl) h29, trivial⟩ trivial (by kernel_rfl) (by kernel_rfl)
theorem e86s1 : Enters Tryz.prog 86 := Go.SL.enters_of Tryz.func86 (by kernel_rfl) (by kernel_rfl)
end Go.Proofs.YtkngbnedbgndoaaGreat
