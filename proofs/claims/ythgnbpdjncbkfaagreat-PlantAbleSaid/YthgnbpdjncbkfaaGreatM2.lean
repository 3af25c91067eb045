import Derived.Test.YthgnbpdjncbkfaaGreatM1
set_option linter.unusedVariables false
namespace Go.Proofs.YthgnbpdjncbkfaaGreat
open Go.SL
theorem k79s1 (x0 : dynposmake_Src) (x1 : api_Board) (r : api_Power × dynposmake_Src) (h : F79s1 x0 x1 = some r) : CO 79 [.d (.o 0 0), .agg [I x1.Buses, .os 1, .os 2, .os 3, I x1.Phase, I x1.Frequency]] (.box 90 (d90 x0) :: zs x1 []) (.agg [.os 4, .os 5, .os 6, .os 7]) (.box 90 (d90 r.2) :: zs x1 (zp r.1 [])) := by
 unfold F79s1 at h
 refine co 16 Tryz.func79 fun C hC => ?_
 obtain ⟨y1, h2, h⟩ := bE h
 obtain ⟨y3, h4, h⟩ := bE h
 replace h := sI h
 subst h
 exact wr [0, 1, 3, 4, 5] 27 [] [⟨.flts [.box 36 [.p (.v (.slice none 0 0)), .p (.v (.slice none 0 0)), .p (.v (.slice none 0 0)), .p (.v (.slice none 0 0))]], trivial⟩, pc e132s1 (k132s1 x0 x1 _ h2) n4_, ⟨.call 131 [.agg [I x1.Buses, .os 0, .os 1, .os 2, I x1.Phase, I x1.Frequency], .agg [.os 3, .os 4, .os 5, .os 6]] (zs x1 (zp y1.1 [])) (.tup [.agg [.os 7, .os 8, .os 9, .os 10], dI y3.2]) (zs x1 (zp y1.1 (zp y3.1 []))) [1, 2, 3, 7, 8, 9, 10], ⟨e131, ((k131 x1 y1.1 _ h4).lend (by kernel_rfl) (by kernel_rfl) (by kernel_rfl) ⟨fS (fun _ => rfl), fS (fun _ => rfl), fS (fun _ => rfl), fS (fun _ => rfl), trivial⟩ (by kernel_rfl) (by kernel_rfl))⟩⟩, ⟨.flt 6 (.box 36 [.p (.v (.slice none 0 0)), .p (.v (.slice none 0 0)), .p (.v (.slice none 0 0)), .p (.v (.slice none 0 0))]) (.box 36 [.p (.v (.slice none 0 0)), .p (.v (.slice none 0 0)), .p (.v (.slice none 0 0)), .p (.v (.slice none 0 0))]), rfl⟩] [] [.cell 4 36] 4 [0, 1, 2, 3, 11, 12, 13, 14] hC []
theorem e79s1 : EN 79 := en Tryz.func79
theorem k92s0 (x0 : List api_Thruster) (r : Bool) (h : F92s0 x0 = some r) : CO 92 [.d (DS q63 x0), .d (.fn (.func 93) [] [])] [] (.d (Bo r)) [] := by
 unfold F92s0 at h
 refine co 9 Tryz.func92 fun C hC => ?_
 obtain ⟨y1, h2, h⟩ := bE h
 replace h := sI h
 subst h
 exact wr [0, 1, 4] 25 [] [pc e147s0 (k147s0 x0 _ h2) []] [] [.tmp 4] 0 [] hC []
theorem e92s0 : EN 92 := en Tryz.func92
def lv46b : List Nat := [0, 1, 2, 3, 4, 6, 7, 8, 43]
theorem k46b (rec46 : api_Board -> api_Power -> Int -> Option Bool) (ih46 : ∀ (x0 : api_Board) (x1 : api_Power) (x2 : Int) (r : Bool), rec46 x0 x1 x2 = some r -> CO 46 [.agg (d29 x0), .agg (d36 x1), .d (I x2)] [] (.d (Bo r)) []) (x0 : api_Board) (x1 : api_Power) (x2 : Int) (r : Bool) (h : F46b rec46 x0 x1 x2 = some r) : CO 46 [.agg (d29 x0), .agg (d36 x1), .d (I x2)] [] (.d (Bo r)) [] := by
 unfold F46b at h
 refine co 53 Tryz.func46 fun C hC => ?_
 obtain ⟨y1, h2, h⟩ := bE h
 obtain ⟨y3, h4, h⟩ := bE h
 obtain ⟨y5, h6, h⟩ := bE h
 obtain ⟨y7, h8, h⟩ := bE h
 obtain ⟨y9, h10, h⟩ := bE h
 refine ws lv46b 28 [] [pc e101 (k101 x0 x1 x2 _ h2) [], pw e102 (fun hg => k102 x0 x1 y1.1 _ (gg h4 hg)) [], pw e103 (fun hg => k103 x1 4 x2 _ (gg h6 hg)) [], pR pI h8, pR q65 h10] [] 0 [0, 1] [(2, dI x2), (3, dO 0 0), (4, dO 1 0), (6, dB false), (43, dB (c46_0 y1 y3 y5 y7 y9))] [.box 29 (d29 x0), .box 36 (d36 x1)] hC [] ?_
 rcases bC ((c46_0 y1 y3 y5 y7 y9)) with h11 | h11
 ·replace h := cT h11 h
  replace h := sI h
  subst h
  exact wr lv46b 24 [true] [] [] [.tmp 6] 0 [] hC [pq h11]
 ·replace h := cF h11 h
  obtain ⟨y12, h13, h⟩ := bE h
  obtain ⟨y14, h15, h⟩ := bE h
  replace h := sI h
  subst h
  exact wr lv46b 25 [false] [pr q65 h13, pc e104s1 (k104s1 rec46 ih46 y12.Needs x0 x1 _ h15) [0, 1]] [] [.tmp 6] 0 [] hC [pq h11]
theorem k46f (n : Nat) : ∀ (x0 : api_Board) (x1 : api_Power) (x2 : Int) (r : Bool), F46f n x0 x1 x2 = some r -> CO 46 [.agg (d29 x0), .agg (d36 x1), .d (I x2)] [] (.d (Bo r)) [] := by
 induction n with
 | zero => intro x0 x1 x2 r h; cases h
 | succ n ih => intro x0 x1 x2 r h; exact k46b _ ih x0 x1 x2 r h
theorem k46 (x0 : api_Board) (x1 : api_Power) (x2 : Int) (r : Bool) (h : F46 x0 x1 x2 = some r) : CO 46 [.agg (d29 x0), .agg (d36 x1), .d (I x2)] [] (.d (Bo r)) [] := k46f 1000 x0 x1 x2 r h
def lv238 : List Nat := [0, 1, 2, 3, 4, 5, 6, 7, 8, 9, 10, 20, 22, 23, 49]
theorem k238 (x0 : api_Board) (x1 : api_Power) (x2 : api_Breaker) (r : Bool) (h : F238 x0 x1 x2 = some r) : CO 238 [.agg (d29 x0), .agg (d36 x1), .agg (d147 x2)] [] (.d (Bo r)) [] := by
 unfold F238 at h
 refine co 64 Tryz.func238 fun C hC => ?_
 obtain ⟨y1, h2, h⟩ := bE h
 refine ws lv238 28 [] [pc e216 (k216 x0 x1 x2.A _ h2) []] [] 0 n3_ [(3, dO 0 0), (4, dO 1 0), (5, dO 2 0), (6, dB false), (7, dI y1.1), (20, dB (!y1.2))] [.box 29 (d29 x0), .box 36 (d36 x1), .box 147 (d147 x2)] hC [] ?_
 rcases bC (!y1.2) with h3 | h3
 ·replace h := cT h3 h
  replace h := sI h
  subst h
  exact wr lv238 24 [true] [] [] [.tmp 6] 0 [] hC [pq h3]
 ·replace h := cF h3 h
  rcases bC ((x2.Kind == 1)) with h4 | h4
  ·replace h := cT h4 h
   cases h
  ·replace h := cF h4 h
   rcases bC ((x2.Kind == 2)) with h5 | h5
   ·replace h := cT h5 h
    obtain ⟨y6, h7, h⟩ := bE h
    obtain ⟨y8, h9, h⟩ := bE h
    obtain ⟨y10, h11, h⟩ := bE h
    replace h := sI h
    subst h
    exact wr lv238 35 [false, false, true] [pr q120 h7, pr q120 h9, pc e243 (k243 x0 y6 y8 _ h11) []] [] [.tmp 6] 0 [] hC [pq h3, pq h4, pq h5]
   ·replace h := cF h5 h
    replace h := sI h
    subst h
    exact wr lv238 37 [false, false, false] [] [] [.tmp 6] 0 [] hC [pq h3, pq h4, pq h5]
theorem e238 : EN 238 := en Tryz.func238
theorem k206s0 (x0 : api_Breaker) (x1 : shed_relief) (r : Bool × shed_relief) (h : F206s0 x0 x1 = some r) : CO 206 [.agg (d147 x0), .d (.o 0 0)] (.box 211 [.o 1 0] :: .box 235 (zb x1.board [.os 2, .os 3, .os 4, .os 5, .os 6]) :: zp x1.power [v6_ x1.acts]) (.d (Bo r.1)) (.box 211 [.o 1 0] :: .box 235 (zb r.2.board [.os 2, .os 3, .os 4, .os 5, .os 6]) :: zp r.2.power [v6_ r.2.acts]) := by
 unfold F206s0 at h
 refine co 21 Tryz.func206 fun C hC => ?_
 obtain ⟨y1, h2, h⟩ := bE h
 replace h := sI h
 subst h
 exact wr n4_ 25 [] [pv e102 (fun hg => k102 x1.board x1.power x0.A _ (gg h2 hg))] [] [.tmp 3] 7 n7_ hC []
theorem e206s0 : EN 206 := en Tryz.func206
theorem k234s0 (x0 : shed_relief) (x1 : Int) (r : Int) (h : F234s0 x0 x1 = some r) : CO 234 [.d (.ip [.v (.int .i64 x0.board.Buses), .s (x0.board.Breakers.map q147), .s (x0.board.Sources.map q139), .s (x0.board.Consumers.map q65), .v (.int .i64 x0.board.Phase), .v (.int .i64 x0.board.Frequency), .s (x0.power.Closed.map pB), .s (x0.power.Sources.map q120), .s (x0.power.Limits.map pI), .s (x0.power.Broken.map q86), .s (x0.acts.map q49)]), .d (I x1)] [] (.d (I r)) [] := by
 unfold F234s0 at h
 refine co 27 Tryz.func234 fun C hC => ?_
 obtain ⟨y1, h2, h⟩ := bE h
 obtain ⟨y3, h4, h⟩ := bE h
 replace h := sI h
 subst h
 exact wr [0, 1, 4] 25 [] [pc e214 (k214 x0.board x0.power x1 _ h2) [], pc e213 (k213 x0.board x0.power x1 _ h4) []] [] [.tmp 4] 0 [] hC []
theorem e234s0 : EN 234 := en Tryz.func234
def lv175 : List Nat := [0, 1, 2, 3, 4, 5, 6, 7, 8, 9, 10, 13, 14, 30, 33, 34, 35, 40, 61]
def R175_0 (x0 : api_Board) (x1 : api_Table) (x2 : api_Power) (x3 : Int) (z0 : Unit) : List Res := [.box 29 (d29 x0), .box 31 (d31 x1), .box 36 (d36 x2), .box 3 [I x3], .box 3 [I 0], .box 4 [Bo false], .non]
theorem k175 (x0 : api_Board) (x1 : api_Table) (x2 : api_Power) (x3 : Int) (r : Int × Bool) (h : F175 x0 x1 x2 x3 = some r) : CO 175 [.agg (d29 x0), .agg (d31 x1), .agg (d36 x2), .d (I x3)] [] (.tup [.d (I r.1), .d (Bo r.2)]) [] := by
 unfold F175 at h
 refine co 63 Tryz.func175 fun C hC => ?_
 obtain ⟨y1, h2, h⟩ := bE h
 refine ws lv175 28 [] [pc e156 (k156 x0 x2 x3 _ h2) [], pc e59 (k59 x1 _ rfl) [], pL_ [(!(F59 x1), false)] pI y1.1.Sources] [] 0 n7_ [(4, dO 0 0), (5, dO 1 0), (6, dO 2 0), (7, dO 3 0), (8, dO 4 0), (9, dO 5 0), (10, dO 6 0), (30, dB (c175_0 x1 y1))] [.box 29 (d29 x0), .box 31 (d31 x1), .box 36 (d36 x2), .box 3 [I x3], .box 3 [I 0], .box 4 [Bo false], .box 84 (d84 y1.1)] hC [] ?_
 rcases bC ((c175_0 x1 y1)) with h3 | h3
 ·replace h := cT h3 h
  replace h := sI h
  subst h
  exact wr lv175 24 [true] [] [] [.cell 8 3, .cell 9 4] 0 [] hC [pq h3]
 ·replace h := cF h3 h
  refine ws lv175 27 [false] [pc e212 (k212 y1.1.Sources) []] [] 0 [0, 1, 2, 3, 4, 5, 7] [(4, dO 0 0), (5, dO 1 0), (6, dO 2 0), (7, dO 3 0), (8, dO 4 0), (9, dO 5 0), (33, .d (.fn (.func 236) [] [.o 6 0]))] [.box 29 (d29 x0), .box 31 (d31 x1), .box 36 (d36 x2), .box 3 [I x3], .box 3 [I 0], .box 4 [Bo false], .box 22 [DS pI y1.1.Sources]] hC [pq h3] ?_
  obtain ⟨w0, hm0, hret0, hnext0⟩ := aIn h
  clear h
  refine WI_range (by kernel_rfl) (t := 33) (d := 13) (p := 35) (gf := 236) (j := 6) (ty := 22) bwEnc (bw y1.1.Sources) (F175_l0 x0 x1 x2 x3) (R175_0 x0 x1 x2 x3) (fun _ => []) w0 () (fun a0 => dI a0.2) hm0 (bw_iter y1.1.Sources) (by kernel_rfl) (by kernel_rfl) (by kernel_rfl) (by kernel_rfl) (by kernel_rfl) [(4, dO 0 0), (5, dO 1 0), (6, dO 2 0), (7, dO 3 0), (8, dO 4 0), (9, dO 5 0)] (by kernel_rfl) (by kernel_rfl) (bw_ps (a := 34) (b := 35) (by kernel_rfl)) (bw_av2 34 35 (by kernel_rfl) (by decide) (by decide)) (by decide) rfl (Up.of_nil rfl) 7 (by kernel_rfl) (Nat.le_trans hC (Nat.le_of_ble_eq_true rfl)) (fun C2 z0 hh hup2 hs0 => ?_) (fun C2 v175_0 hh hup2 hr0 a w hsR => ?_) (fun l C' a0 z0 w0b hlen hdf h hkr => ?_)
  ·have hC : C2.h.length <= 0 := by rw [hh]; exact hC
   have h := hnext0 _ hs0
   replace h := sI h
   subst h
   exact WI_retM (bs := []) mixed lv175 24 [] [] [] [.cell 8 3, .cell 9 4] 0 [] rfl hC trivial trivial (by kernel_rfl) hup2
  ·exact absurd (hret0 _ hr0) (by simp)
  ·have hC : C'.h.length <= 7 := hlen
   unfold F175_l0 at h
   obtain ⟨y4, h5, h⟩ := bE h
   obtain ⟨y6, h7, h⟩ := bE h
   refine ws lv175 25 [] [pc e180 (k180 x0 a0.2 _ h5) [], pc e103 (k103 x2 2 y4 _ h7) []] [] 7 n7_ [(4, dO 0 0), (5, dO 1 0), (6, dO 2 0), (7, dO 3 0), (8, dO 4 0), (9, dO 5 0), (13, dI a0.2), (40, dB y6)] [.box 29 (d29 x0), .box 31 (d31 x1), .box 36 (d36 x2), .box 3 [I x3], .box 3 [I 0], .box 4 [Bo false], .non] hC [] ?_
   rcases bC (y6) with h8 | h8
   ·replace h := cT h8 h
    cases h
   ·replace h := cF h8 h
    obtain ⟨y9, h10, h⟩ := bE h
    obtain ⟨y11, h12, h⟩ := bE h
    obtain ⟨y13, h14, h⟩ := bE h
    refine ws lv175 27 [false] [pc e213 (k213 x0 x2 x3 _ h10) [], pr q139 h12, pc e214 (k214 x0 x2 x3 _ h14) []] [] 7 n7_ [(8, dO 4 0), (9, dO 5 0), (13, dI a0.2), (61, dB (c175_1 x1 y9 y11 y13))] [.box 29 (d29 x0), .box 31 (d31 x1), .box 36 (d36 x2), .box 3 [I x3], .box 3 [I 0], .box 4 [Bo false], .non] hC [pq h8] ?_
    rcases bC ((c175_1 x1 y9 y11 y13)) with h15 | h15
    ·replace h := cT h15 h
     cases h
    ·replace h := cF h15 h
     exact wx w0b (fun _ => []) (R175_0 x0 x1 x2 x3) lv175 24 [false] [] [] 7 n7_ () hC [pq h15] (sI h).symm
theorem e175 : EN 175 := en Tryz.func175
theorem k177 (x0 : api_Board) (x1 : api_Table) (x2 : api_Power) (x3 : Int) (r : Bool) (h : F177 x0 x1 x2 x3 = some r) : CO 177 [.agg (d29 x0), .agg (d31 x1), .agg (d36 x2), .d (I x3)] [] (.d (Bo r)) [] := by
 unfold F177 at h
 refine co 32 Tryz.func177 fun C hC => ?_
 obtain ⟨y1, h2, h⟩ := bE h
 obtain ⟨y3, h4, h⟩ := bE h
 obtain ⟨y5, h6, h⟩ := bE h
 replace h := sI h
 subst h
 exact wr [0, 1, 2, 3, 4, 5, 6, 8] 25 [] [pc e59 (k59 x1 _ rfl) [], pw e102 (fun hg => k102 x0 x2 x3 _ (gg h2 hg)) [], pw e214 (fun hg => k214 x0 x2 x3 _ (gg h4 hg)) [], pw e213 (fun hg => k213 x0 x2 x3 _ (gg h6 hg)) []] [] [.tmp 8] 0 [] hC []
theorem e177 : EN 177 := en Tryz.func177
def lv31s1 : List Nat := [0, 1, 3, 4, 5, 6, 16]
def st31s1_0  (z0 : Sg4) : St := [(0, dO 0 0), (3, dO 4 0), (4, dO 5 0), (5, dO 6 0), (6, dI z0.1)]
def R31s1_0 (x1 : api_Board) (y1 : Int × dynposmake_Src) (y3 : api_Power × dynposmake_Src) (z0 : Sg4) : List Res := (.box 90 [DS pI z0.2.1, I z0.2.2.1] :: zs x1 (.box 29 [I x1.Buses, .os 1, .os 2, .os 3, I x1.Phase, I x1.Frequency] :: .box 40 [I 0, .os 11, .os 12, .os 13, .os 14, .os 15, .os 16] :: .box 40 [I y1.1, .os 7, .os 8, .os 9, .os 10, .os 17, .os 18] :: zp y3.1 (ze [v5_ ([] : List api_Roster), v1_ ([] : List api_Event), v5_ (g3z_ z0), v1_ ([] : List api_Event)])))
def sa31s1_0  (z0 : Sg4) : St := [(4, dO 4 0), (5, dO 5 0)]
def Ra31s1_0 (x1 : api_Board) (y1 : Int × dynposmake_Src) (y3 : api_Power × dynposmake_Src) (z0 : Sg4) : List Res := (.box 90 [DS pI z0.2.1, I z0.2.2.1] :: zs x1 (.box 40 [I 0, .os 10, .os 11, .os 12, .os 13, .os 14, .os 15] :: .box 40 [I y1.1, .os 6, .os 7, .os 8, .os 9, .os 16, .os 17] :: zp y3.1 (ze [v5_ ([] : List api_Roster), v1_ ([] : List api_Event), v5_ (g3z_ z0), v1_ ([] : List api_Event)])))
theorem k31s1 (x0 : dynposmake_Src) (x1 : api_Board) (r : api_Plant × dynposmake_Src) (h : F31s1 x0 x1 = some r) : CO 31 [.d (.o 0 0), .agg [I x1.Buses, .os 1, .os 2, .os 3, I x1.Phase, I x1.Frequency]] (.box 90 (d90 x0) :: zs x1 []) (.agg [I r.1.Time, .os 4, .os 5, .os 6, .os 7, .os 8, .os 9]) (.box 90 (d90 r.2) :: zs x1 (zp r.1.Power [v5_ r.1.Rosters, v1_ r.1.Events])) := by
 unfold F31s1 at h
 refine co 30 Tryz.func31 fun C hC => ?_
 obtain ⟨y1, h2, h⟩ := bE h
 obtain ⟨y3, h4, h⟩ := bE h
 refine ws lv31s1 28 [] [⟨.flts [.box 40 [I 0, .p (.v (.slice none 0 0)), .p (.v (.slice none 0 0)), .p (.v (.slice none 0 0)), .p (.v (.slice none 0 0)), .p (.v (.slice none 0 0)), .p (.v (.slice none 0 0))]], trivial⟩, pc e78 (k78 x0 5 20 _ h2) [0], pc e79s1 (k79s1 y1.2 x1 _ h4) n4_, ⟨.flt 6 (.box 40 [I 0, .p (.v (.slice none 0 0)), .p (.v (.slice none 0 0)), .p (.v (.slice none 0 0)), .p (.v (.slice none 0 0)), .p (.v (.slice none 0 0)), .p (.v (.slice none 0 0))]) (.box 40 [I 0, .p (.v (.slice none 0 0)), .p (.v (.slice none 0 0)), .p (.v (.slice none 0 0)), .p (.v (.slice none 0 0)), .p (.v (.slice none 0 0)), .p (.v (.slice none 0 0))]), rfl⟩] [.ownb 5 1 4 1, .ownb 5 2 120 4, .ownb 5 3 3 1, .ownb 5 4 86 2, .ownb 5 5 130 2, .ownb 5 6 51 5, .ownb 6 5 130 2, .ownb 6 6 51 5] 4 n19_ (st31s1_0 (0, y3.2.L, y3.2.At, ([] : List api_Roster))) (R31s1_0 x1 y1 y3 (0, y3.2.L, y3.2.At, ([] : List api_Roster))) hC [] ?_
 obtain ⟨w0, hm0, hret0, hnext0⟩ := aIn h
 clear h
 refine wc w0 (sa31s1_0) (Ra31s1_0 x1 y1 y3) ?_ fun z0 hs0 => ?_
 ·refine wb ?_
  refine wW (by kernel_rfl) (F31s1_l0 x1) (st31s1_0) (R31s1_0 x1 y1 y3) w0 1152921504606846976 (0, y3.2.L, y3.2.At, ([] : List api_Roster)) hm0 rfl rfl fun z0 w0b h hb0 hr0 => ?_
  unfold F31s1_l0 at h
  rcases bC (decide (z0.1 < x1.Buses)) with h5 | h5
  ·replace h := cT h5 h
   obtain ⟨y6, h7, h⟩ := bE h
   obtain ⟨y8, h9, h⟩ := bE h
   obtain ⟨y10, h11, h⟩ := bE h
   exact wx w0b (st31s1_0) (R31s1_0 x1 y1 y3) lv31s1 31 [true] [pc e78 (k78 (⟨z0.2.1, z0.2.2.1⟩ : dynposmake_Src) (-1) 4 _ h7) [0], pc e78 (k78 y6.2 (-1) 4 _ h9) [0], pa q130 2 h11] [] 4 [0, 1, 2, 3, 4, 5, 6, 7, 8, 9, 10, 11, 12, 13, 14, 15, 16, 19, 18] (w64 (z0.1 + 1), y8.2.L, y8.2.At, y10) hC [pq h5] (sI h).symm
  ·replace h := cF h5 h
   exact wx w0 (sa31s1_0) (Ra31s1_0 x1 y1 y3) lv31s1 26 [false] [] [] 4 [0, 1, 2, 3, 5, 6, 7, 8, 9, 10, 11, 12, 13, 14, 15, 16, 17, 18] (z0.1, z0.2.1, z0.2.2.1, (g3z_ z0)) hC [pq h5] (hb0 _ (sI h).symm)
 ·have h := hnext0 _ hs0
  replace h := sI h
  subst h
  exact wr lv31s1 23 [] [] [] [.cell 4 40] 4 [0, 1, 2, 3, 6, 7, 8, 9, 16, 17] hC []
theorem e31s1 : EN 31 := en Tryz.func31
theorem k42 (x0 : api_Ship) (r : Int) (h : F42 x0 = some r) : CO 42 [.agg (d57 x0)] [] (.d (I r)) [] := by
 unfold F42 at h
 refine co 37 Tryz.func42 fun C hC => ?_
 rcases bC (decide ((ln x0.Thrusters) > 8)) with h1 | h1
 ·replace h := cT h1 h
  replace h := sI h
  subst h
  exact wr [0, 1, 2, 3, 8, 33] 30 [true] [pl q63 x0.Thrusters] [] [.tmp 2] 0 [] hC [pq h1]
 ·replace h := cF h1 h
  rcases bC ((c42_0 x0)) with h2 | h2
  ·replace h := cT h2 h
   replace h := sI h
   subst h
   exact wr [0, 1, 2, 3, 8, 33] 33 [false, true] [pl q63 x0.Thrusters] [] [.tmp 2] 0 [] hC [pq h1, pq h2]
  ·replace h := cF h2 h
   obtain ⟨y3, h4, h⟩ := bE h
   rcases bC (y3) with h5 | h5
   ·replace h := cT h5 h
    replace h := sI h
    subst h
    exact wr [0, 1, 2, 3, 8, 33] 36 [false, false, true] [pl q63 x0.Thrusters, pc e92s0 (k92s0 x0.Thrusters _ h4) []] [] [.tmp 2] 0 [] hC [pq h1, pq h2, pq h5]
   ·replace h := cF h5 h
    replace h := sI h
    subst h
    exact wr [0, 1, 2, 3, 8, 33] 38 [false, false, false] [pl q63 x0.Thrusters, pc e92s0 (k92s0 x0.Thrusters _ h4) []] [] [.tmp 2] 0 [] hC [pq h1, pq h2, pq h5]
theorem e42 : EN 42 := en Tryz.func42
def lv220 : List Nat := [0, 1, 2, 3, 4, 6, 7, 8, 9, 11, 15, 19, 29, 66]
theorem k220 (x0 : api_Board) (x1 : api_Power) (x2 : Int) (r : Int) (h : F220 x0 x1 x2 = some r) : CO 220 [.agg (d29 x0), .agg (d36 x1), .d (I x2)] [] (.d (I r)) [] := by
 unfold F220 at h
 refine co 67 Tryz.func220 fun C hC => ?_
 obtain ⟨y1, h2, h⟩ := bE h
 refine ws lv220 29 [] [pc e43 (k43 x0 x1 _ h2) []] [] 0 [0, 1] [(2, dI x2), (3, dO 0 0), (4, dO 1 0), (6, dI 0), (7, dI y1), (15, dB (y1 != 0))] [.box 29 (d29 x0), .box 36 (d36 x1)] hC [] ?_
 rcases bC ((y1 != 0)) with h3 | h3
 ·replace h := cT h3 h
  cases h
 ·replace h := cF h3 h
  rcases bC ((c220_0 x0 x2)) with h4 | h4
  ·replace h := cT h4 h
   cases h
  ·replace h := cF h4 h
   obtain ⟨y5, h6, h⟩ := bE h
   refine ws lv220 27 [false, false] [pL_ [(decide (x2 < 0), false)] q147 x0.Breakers, pc e237 (k237 x0 x1 x2 _ h6) []] [] 0 [0, 1] [(2, dI x2), (3, dO 0 0), (4, dO 1 0), (6, dI 0), (29, dB (!y5))] [.box 29 (d29 x0), .box 36 (d36 x1)] hC [pq h3, pq h4] ?_
   rcases bC (!y5) with h7 | h7
   ·replace h := cT h7 h
    cases h
   ·replace h := cF h7 h
    obtain ⟨y8, h9, h⟩ := bE h
    obtain ⟨y10, h11, h⟩ := bE h
    obtain ⟨y12, h13, h⟩ := bE h
    obtain ⟨y14, h15, h⟩ := bE h
    refine ws lv220 33 [false] [pr q147 h9, pc e156 (k156 x0 x1 y8.A _ h11) [], pw e190 (fun hg => k190 y10.1.Buses y8.B _ (gg h13 hg)) [], pw e238 (fun hg => k238 x0 x1 y8 _ (gg h15 hg)) []] [] 0 [] [(6, dI 0), (66, .d (Bo ((!((y8.Kind == 1) && y12)) && (!y14))))] [] hC [pq h7] ?_
    rcases bC (((!((y8.Kind == 1) && y12)) && (!y14))) with h16 | h16
    ·replace h := cT h16 h
     cases h
    ·replace h := cF h16 h
     replace h := sI h
     subst h
     exact wr lv220 25 [false] [] [] [.tmp 6] 0 [] hC [pq h16]
theorem e220 : EN 220 := en Tryz.func220
def lv204s2 : List Nat := [0, 1, 4, 5, 6, 8, 13, 14, 15, 16, 32, 38, 39, 40, 41]
def st204s2_0 (x0 : shed_relief) (n0 : Nat) (z0 : Sg8) : St := [(0, dO 0 0), (1, .d (.fn (.func 206) [] [.o 6 0])), (4, dS 7), (13, .d (DS q147 x0.board.Breakers)), (14, dI (ln x0.board.Breakers)), (15, dI (cnt 0 n0))]
def R204s2_0  (n0 : Nat) (z0 : Sg8) : List Res := [.box 235 [I z0.1, DS q147 z0.2.1, DS q139 z0.2.2.1, DS q65 (g3_ z0), I (g4_ z0), I (g5_ z0), .os 8, .os 9, .os 10, .os 11, .os 12], .non, .non, .non, .non, .non, .box 211 [.o 0 0], v0_ (g6_ z0), v2_ (g7_ z0), v3_ (g8_ z0), v0_ (g9_ z0), v4_ (g10_ z0), v6_ (g11z_ z0)]
def sa204s2_0  (z0 : Sg8) : St := [(0, dO 0 0), (4, dS 7)]
def Ra204s2_0  (z0 : Sg8) : List Res := [.box 235 [I z0.1, DS q147 z0.2.1, DS q139 z0.2.2.1, DS q65 (g3_ z0), I (g4_ z0), I (g5_ z0), .os 8, .os 9, .os 10, .os 11, .os 12], .non, .non, .non, .non, .non, .box 211 [.o 0 0], v0_ (g6_ z0), v2_ (g7_ z0), v3_ (g8_ z0), v0_ (g9_ z0), v4_ (g10_ z0), v6_ (g11z_ z0)]
def st204s2_1 (z0 : Sg8) (n1 : Nat) (z1 : Sg7) : St := [(0, dO 0 0), (38, dS 7), (39, dI (ln (g6_ z0))), (40, dI (cnt 0 n1))]
def R204s2_1 (z0 : Sg8) (n1 : Nat) (z1 : Sg7) : List Res := [.box 235 [I z1.1, DS q147 z1.2.1, DS q139 z1.2.2.1, DS q65 (g3_ z1), I (g4_ z1), I (g5_ z1), .os 8, .os 9, .os 10, .os 11, .os 12], .non, .non, .non, .non, .non, .box 211 [.o 0 0], v0_ (g6_ z0), v2_ (g6_ z1), v3_ (g7_ z1), v0_ (g8_ z1), v4_ (g9_ z1), v6_ (g10z_ z1)]
def sa204s2_1  (z1 : Sg7) : St := []
def Ra204s2_1  (z1 : Sg7) : List Res := [.box 235 [I z1.1, DS q147 z1.2.1, DS q139 z1.2.2.1, DS q65 (g3_ z1), I (g4_ z1), I (g5_ z1), .os 7, .os 8, .os 9, .os 10, .os 11], .non, .non, .non, .non, .non, .box 211 [.o 0 0], v2_ (g6_ z1), v3_ (g7_ z1), v0_ (g8_ z1), v4_ (g9_ z1), v6_ (g10z_ z1)]
theorem k204s2 (x0 : shed_relief) (r : shed_relief) (h : F204s2 x0 = some r) : CO 204 [.d (.o 0 0), .d (.fn (.func 206) [] [.o 6 0])] (.box 235 (zb x0.board [.os 1, .os 2, .os 3, .os 4, .os 5]) :: zp x0.power [v6_ x0.acts, .box 211 [.o 0 0]]) (.tup []) (.box 235 (zb r.board [.os 7, .os 8, .os 9, .os 10, .os 11]) :: .non :: .non :: .non :: .non :: .non :: .box 211 [.o 0 0] :: zp r.power [v6_ r.acts]) := by
 unfold F204s2 at h
 refine co 48 Tryz.func204 fun C hC => ?_
 refine ws lv204s2 26 [] [pl q147 x0.board.Breakers] [.own 4 3 1, .mv 1, .mv 2, .mv 3, .mv 4, .mv 5] 7 n13_ (st204s2_0 x0 0 (zt x0.board (([] : List Int), zu x0.power x0.acts))) (R204s2_0 0 (zt x0.board (([] : List Int), zu x0.power x0.acts))) hC [] ?_
 obtain ⟨w0, hm0, hret0, hnext0⟩ := aIn h
 clear h
 refine wc w0 (sa204s2_0) (Ra204s2_0) ?_ fun z0 hs0 => ?_
 ·refine wb ?_
  refine wL 13 rfl fun hl0 => ?_
  refine wF (by kernel_rfl) F204s2_l0 (st204s2_0 x0) (R204s2_0) w0 x0.board.Breakers (zt x0.board (([] : List Int), zu x0.power x0.acts)) hm0 rfl rfl (fun z0 hn0 => ?_) fun n0 a0 z0 w0b hi0 hx0 h hb0 hr0 => ?_
  ·clear hm0
   exact wx w0 (sa204s2_0) (Ra204s2_0) lv204s2 26 [false] [] [] 7 n13_ (z0.1, z0.2.1, z0.2.2.1, (g3_ z0), (g4_ z0), (g5_ z0), (g6_ z0), (g7_ z0), (g8_ z0), (g9_ z0), (g10_ z0), (g11z_ z0)) hC [pq (cE hl0)] hn0
  ·unfold F204s2_l0 at h
   obtain ⟨y1, h2, h⟩ := bE h
   obtain ⟨y3, h4, h⟩ := bE h
   refine ws lv204s2 32 [true] [pt hx0 hl0, pr pB h2, pn pB h2, ⟨.whenR [(y1, true)] (.call 206 [.agg (d147 a0), dO 0 0] [.box 211 [.o 1 0], .box 235 [I z0.1, DS q147 z0.2.1, DS q139 z0.2.2.1, DS q65 (g3_ z0), I (g4_ z0), I (g5_ z0), .os 2, .os 3, .os 4, .os 5, .os 6], v2_ (g7_ z0), v3_ (g8_ z0), v0_ (g9_ z0), v4_ (g10_ z0), v6_ (g11z_ z0)] (dB y3.1) (.box 211 [.o 1 0] :: .box 235 (zb y3.2.board [.os 2, .os 3, .os 4, .os 5, .os 6]) :: zp y3.2.power [v6_ y3.2.acts]) [6, 0, 8, 9, 10, 11, 12]), ⟨fun hg => ⟨e206s0, (k206s0 a0 (⟨(⟨z0.1, z0.2.1, z0.2.2.1, (g3_ z0), (g4_ z0), (g5_ z0)⟩ : api_Board), (⟨(g7_ z0), (g8_ z0), (g9_ z0), (g10_ z0)⟩ : api_Power), (g11z_ z0)⟩ : shed_relief) _ (gg h4 hg))⟩, fun hg => by have e := guardO_not h4 hg; subst e; rfl⟩⟩] [] 7 n13_ [(0, dO 0 0), (1, .d (.fn (.func 206) [] [.o 6 0])), (4, dS 7), (5, dI (cnt 0 n0)), (13, .d (DS q147 x0.board.Breakers)), (14, dI (ln x0.board.Breakers)), (15, dI (cnt 0 n0)), (32, dB (y1 && y3.1))] (.box 235 (zb y3.2.board [.os 8, .os 9, .os 10, .os 11, .os 12]) :: .non :: .non :: .non :: .non :: .non :: .box 211 [.o 0 0] :: v0_ (g6_ z0) :: zp y3.2.power [v6_ y3.2.acts]) hC [pq (cL hi0 hl0)] ?_
   rcases bC ((y1 && y3.1)) with h5 | h5
   ·replace h := cT h5 h
    obtain ⟨y6, h7, h⟩ := bE h
    exact wx w0b (st204s2_0 x0 (n0 + 1)) (R204s2_0 (n0 + 1)) lv204s2 25 [true] [pa pI 1 h7] [] 7 [0, 1, 2, 3, 4, 5, 6, 13, 8, 9, 10, 11, 12] (zt y3.2.board (y6, zu y3.2.power y3.2.acts)) hC [pq h5] (sI h).symm
   ·replace h := cF h5 h
    exact wx w0b (st204s2_0 x0 (n0 + 1)) (R204s2_0 (n0 + 1)) lv204s2 25 [false] [] [] 7 n13_ (zt y3.2.board ((g6_ z0), zu y3.2.power y3.2.acts)) hC [pq h5] (sI h).symm
 ·have h := hnext0 _ hs0
  refine ws lv204s2 23 [] [pl pI (g6_ z0)] [] 7 n13_ (st204s2_1 z0 0 (z0.1, z0.2.1, z0.2.2.1, (g3_ z0), (g4_ z0), (g5_ z0), (g7_ z0), (g8_ z0), (g9_ z0), (g10_ z0), (g11z_ z0))) (R204s2_1 z0 0 (z0.1, z0.2.1, z0.2.2.1, (g3_ z0), (g4_ z0), (g5_ z0), (g7_ z0), (g8_ z0), (g9_ z0), (g10_ z0), (g11z_ z0))) hC [] ?_
  obtain ⟨w1, hm1, hret1, hnext1⟩ := aIn h
  clear h
  refine wc w1 (sa204s2_1) (Ra204s2_1) ?_ fun z1 hs1 => ?_
  ·refine wb ?_
   refine wO 38 7 rfl rfl fun hl1 => ?_
   refine wF (by kernel_rfl) F204s2_l1 (st204s2_1 z0) (R204s2_1 z0) w1 (g6_ z0) (z0.1, z0.2.1, z0.2.2.1, (g3_ z0), (g4_ z0), (g5_ z0), (g7_ z0), (g8_ z0), (g9_ z0), (g10_ z0), (g11z_ z0)) hm1 rfl rfl (fun z1 hn1 => ?_) fun n1 a1 z1 w1b hi1 hx1 h hb1 hr1 => ?_
   ·clear hm1
    exact wx w1 (sa204s2_1) (Ra204s2_1) lv204s2 26 [false] [] [] 7 [0, 1, 2, 3, 4, 5, 6, 8, 9, 10, 11, 12] (z1.1, z1.2.1, z1.2.2.1, (g3_ z1), (g4_ z1), (g5_ z1), (g6_ z1), (g7_ z1), (g8_ z1), (g9_ z1), (g10z_ z1)) hC [pq (cE hl1)] hn1
   ·unfold F204s2_l1 at h
    obtain ⟨y8, h9, h⟩ := bE h
    exact wx w1b (st204s2_1 z0 (n1 + 1)) (R204s2_1 z0 (n1 + 1)) lv204s2 33 [true] [pr pI (gC hx1 hl1), pn pI (gC hx1 hl1), pc e230s1 (k230s1 (⟨(⟨z1.1, z1.2.1, z1.2.2.1, (g3_ z1), (g4_ z1), (g5_ z1)⟩ : api_Board), (⟨(g6_ z1), (g7_ z1), (g8_ z1), (g9_ z1)⟩ : api_Power), (g10z_ z1)⟩ : shed_relief) a1 _ h9) [0, 8, 9, 10, 11, 12]] [] 7 [0, 1, 2, 3, 4, 5, 6, 7, 8, 9, 10, 11, 13] (zt y8.board (zu y8.power y8.acts)) hC [pq (cL hi1 hl1)] (sI h).symm
  ·have h := hnext1 _ hs1
   replace h := sI h
   subst h
   exact wf lv204s2 20 [] [] [] [] 7 n12_ hC []
theorem e204s2 : EN 204 := en Tryz.func204
def lv210s2 : List Nat := [0, 1, 2, 7, 8, 9, 10, 11, 12, 38]
def st210s2_0 (x1 : List Int) (x2 : Int) (n0 : Nat) (z0 : (List Int) × (List api_Act)) : St := [(0, dO 0 0), (2, dI x2), (9, dS 6), (10, dI (ln x1)), (11, dI (cnt 0 n0))]
def R210s2_0 (x0 : shed_relief) (x1 : List Int) (n0 : Nat) (z0 : (List Int) × (List api_Act)) : List Res := [.box 235 (zb x0.board [.os 7, .os 8, .os 9, .os 10, .os 11]), .non, .non, .non, .non, .non, v0_ x1, v2_ x0.power.Closed, v3_ x0.power.Sources, v0_ z0.1, v4_ x0.power.Broken, v6_ z0.2]
def sa210s2_0  (z0 : (List Int) × (List api_Act)) : St := []
def Ra210s2_0 (x0 : shed_relief) (x1 : List Int) (z0 : (List Int) × (List api_Act)) : List Res := [.box 235 (zb x0.board [.os 7, .os 8, .os 9, .os 10, .os 11]), .non, .non, .non, .non, .non, v0_ x1, v2_ x0.power.Closed, v3_ x0.power.Sources, v0_ z0.1, v4_ x0.power.Broken, v6_ z0.2]
theorem k210s2 (x0 : shed_relief) (x1 : List Int) (x2 : Int) (r : shed_relief) (h : F210s2 x0 x1 x2 = some r) : CO 210 [.d (.o 0 0), .d (.os 6), .d (I x2)] (.box 235 (zb x0.board [.os 1, .os 2, .os 3, .os 4, .os 5]) :: zp x0.power [v6_ x0.acts, v0_ x1]) (.tup []) (.box 235 (zb r.board [.os 7, .os 8, .os 9, .os 10, .os 11]) :: .non :: .non :: .non :: .non :: .non :: v0_ x1 :: zp r.power [v6_ r.acts]) := by
 unfold F210s2 at h
 refine co 70 Tryz.func210 fun C hC => ?_
 refine ws lv210s2 23 [] [pl pI x1] [.mv 1, .mv 2, .mv 3, .mv 4, .mv 5] 7 n12_ (st210s2_0 x1 x2 0 (x0.power.Limits, x0.acts)) (R210s2_0 x0 x1 0 (x0.power.Limits, x0.acts)) hC [] ?_
 obtain ⟨w0, hm0, hret0, hnext0⟩ := aIn h
 clear h
 refine wc w0 (sa210s2_0) (Ra210s2_0 x0 x1) ?_ fun z0 hs0 => ?_
 ·refine wb ?_
  refine wO 9 6 rfl rfl fun hl0 => ?_
  refine wF (by kernel_rfl) (F210s2_l0 x0 x2) (st210s2_0 x1 x2) (R210s2_0 x0 x1) w0 x1 (x0.power.Limits, x0.acts) hm0 rfl rfl (fun z0 hn0 => ?_) fun n0 a0 z0 w0b hi0 hx0 h hb0 hr0 => ?_
  ·clear hm0
   exact wx w0 (sa210s2_0) (Ra210s2_0 x0 x1) lv210s2 26 [false] [] [] 7 n12_ (z0.1, z0.2) hC [pq (cE hl0)] hn0
  ·unfold F210s2_l0 at h
   obtain ⟨y1, h2, h⟩ := bE h
   obtain ⟨y3, h4, h⟩ := bE h
   obtain ⟨y5, h6, h⟩ := bE h
   refine ws lv210s2 34 [true] [pr pI (gC hx0 hl0), pn pI (gC hx0 hl0), pb e234s0 (k234s0 (⟨x0.board, (⟨x0.power.Closed, x0.power.Sources, z0.1, x0.power.Broken⟩ : api_Power), z0.2⟩ : shed_relief) x2 _ h2), pr pI h4, pn pI h4, pr q65 h6] [] 7 n12_ [(0, dO 0 0), (2, dI x2), (7, dI a0), (8, dI (min y1 (w64 (y3 - y5.Least)))), (9, dS 6), (10, dI (ln x1)), (11, dI (cnt 0 n0)), (38, dB (c210s2_2 y1 y3 y5))] [.box 235 (zb x0.board [.os 7, .os 8, .os 9, .os 10, .os 11]), .non, .non, .non, .non, .non, v0_ x1, v2_ x0.power.Closed, v3_ x0.power.Sources, v0_ z0.1, v4_ x0.power.Broken, v6_ z0.2] hC [pq (cL hi0 hl0)] ?_
   rcases bC ((c210s2_2 y1 y3 y5)) with h7 | h7
   ·replace h := cT h7 h
    obtain ⟨y8, h9, h⟩ := bE h
    obtain ⟨y10, h11, h⟩ := bE h
    obtain ⟨y12, h13, h⟩ := bE h
    exact wx w0b (st210s2_0 x1 x2 (n0 + 1)) (R210s2_0 x0 x1 (n0 + 1)) lv210s2 27 [true] [pr pI h4, pn pI h4, pr pI h4, pu pI h4 h9, pr pI h11, pn pI h11, pa q49 3 h13] [] 7 [0, 1, 2, 3, 4, 5, 6, 7, 8, 9, 10, 12] (y8, y12) hC [pq h7] (sI h).symm
   ·replace h := cF h7 h
    exact wx w0b (st210s2_0 x1 x2 (n0 + 1)) (R210s2_0 x0 x1 (n0 + 1)) lv210s2 25 [false] [] [] 7 n12_ (z0.1, z0.2) hC [pq h7] (sI h).symm
 ·have h := hnext0 _ hs0
  replace h := sI h
  subst h
  exact wf lv210s2 20 [] [] [] [] 7 n12_ hC []
theorem e210s2 : EN 210 := en Tryz.func210
def lv211s0 : List Nat := [0, 1, 2, 7, 8, 9, 10, 11, 28]
def st211s0_0 (x0 : shed_relief) (x1 : List Int) (x2 : Int) (n0 : Nat) (z0 : Unit) : St := [(0, .d (.ip [.v (.int .i64 x0.board.Buses), .s (x0.board.Breakers.map q147), .s (x0.board.Sources.map q139), .s (x0.board.Consumers.map q65), .v (.int .i64 x0.board.Phase), .v (.int .i64 x0.board.Frequency), .s (x0.power.Closed.map pB), .s (x0.power.Sources.map q120), .s (x0.power.Limits.map pI), .s (x0.power.Broken.map q86), .s (x0.acts.map q49)])), (2, dI x2), (8, .d (DS pI x1)), (9, dI (ln x1)), (10, dI (cnt 0 n0))]
def R211s0_0  (n0 : Nat) (z0 : Unit) : List Res := []
def sa211s0_0  (z0 : Unit) : St := []
def Ra211s0_0  (z0 : Unit) : List Res := []
theorem k211s0 (x0 : shed_relief) (x1 : List Int) (x2 : Int) (r : Unit) (h : F211s0 x0 x1 x2 = some r) : CO 211 [.d (.ip [.v (.int .i64 x0.board.Buses), .s (x0.board.Breakers.map q147), .s (x0.board.Sources.map q139), .s (x0.board.Consumers.map q65), .v (.int .i64 x0.board.Phase), .v (.int .i64 x0.board.Frequency), .s (x0.power.Closed.map pB), .s (x0.power.Sources.map q120), .s (x0.power.Limits.map pI), .s (x0.power.Broken.map q86), .s (x0.acts.map q49)]), .d (DS pI x1), .d (I x2)] [] (.tup []) [] := by
 unfold F211s0 at h
 refine co 33 Tryz.func211 fun C hC => ?_
 refine ws lv211s0 23 [] [pl pI x1] [] 0 [] (st211s0_0 x0 x1 x2 0 ()) (R211s0_0 0 ()) hC [] ?_
 obtain ⟨w0, hm0, hret0, hnext0⟩ := aIn h
 clear h
 refine wc w0 (sa211s0_0) (Ra211s0_0) ?_ fun z0 hs0 => ?_
 ·refine wb ?_
  refine wL 8 rfl fun hl0 => ?_
  refine wF (by kernel_rfl) (F211s0_l0 x0 x2) (st211s0_0 x0 x1 x2) (R211s0_0) w0 x1 () hm0 rfl rfl (fun z0 hn0 => ?_) fun n0 a0 z0 w0b hi0 hx0 h hb0 hr0 => ?_
  ·clear hm0
   exact wx w0 (sa211s0_0) (Ra211s0_0) lv211s0 26 [false] [] [] 0 [] () hC [pq (cE hl0)] hn0
  ·unfold F211s0_l0 at h
   obtain ⟨y1, h2, h⟩ := bE h
   obtain ⟨y3, h4, h⟩ := bE h
   refine ws lv211s0 32 [true] [pt hx0 hl0, pr pI h2, pw e234s0 (fun hg => k234s0 x0 x2 _ (gg h4 hg)) []] [] 0 [0] [(0, .d (.ip [.v (.int .i64 x0.board.Buses), .s (x0.board.Breakers.map q147), .s (x0.board.Sources.map q139), .s (x0.board.Consumers.map q65), .v (.int .i64 x0.board.Phase), .v (.int .i64 x0.board.Frequency), .s (x0.power.Closed.map pB), .s (x0.power.Sources.map q120), .s (x0.power.Limits.map pI), .s (x0.power.Broken.map q86), .s (x0.acts.map q49)])), (2, dI x2), (7, dO 0 0), (8, .d (DS pI x1)), (9, dI (ln x1)), (10, dI (cnt 0 n0)), (28, dB ((decide (y1 > 0)) && (decide (y3 > 0))))] [.box 3 [I a0]] hC [pq (cL hi0 hl0)] ?_
   rcases bC (((decide (y1 > 0)) && (decide (y3 > 0)))) with h5 | h5
   ·replace h := cT h5 h
    cases h
   ·replace h := cF h5 h
    exact wx w0b (st211s0_0 x0 x1 x2 (n0 + 1)) (R211s0_0 (n0 + 1)) lv211s0 25 [false] [] [] 0 [] () hC [pq h5] (sI h).symm
 ·have h := hnext0 _ hs0
  replace h := sI h
  subst h
  exact wf lv211s0 20 [] [] [] [] 0 [] hC []
theorem e211s0 : EN 211 := en Tryz.func211
theorem k9 (x0 : dynposmake_Src) (r : Sg12) (h : F9 x0 = some r) : CO 9 [.d (.o 0 0)] [.box 90 (d90 x0)] (.tup [.agg [I r.1.Buses, .os 1, .os 2, .os 3, I r.1.Phase, I r.1.Frequency], .agg (d31 r.2.1), .agg [I r.2.2.1.Time, .os 4, .os 5, .os 6, .os 7, .os 8, .os 9]]) (.box 90 (d90 (g3z_ r)) :: zs r.1 (zp r.2.2.1.Power [v5_ r.2.2.1.Rosters, v1_ r.2.2.1.Events])) := by
 unfold F9 at h
 refine co 14 Tryz.func9 fun C hC => ?_
 obtain ⟨y1, h2, h⟩ := bE h
 obtain ⟨y3, h4, h⟩ := bE h
 obtain ⟨y5, h6, h⟩ := bE h
 replace h := sI h
 subst h
 exact wr [0, 2, 3, 4, 5] 27 [] [pc e29 (k29 x0 _ h2) [0], pc e30 (k30 y1.2 _ h4) [0], pc e31s1 (k31s1 y3.2 y1.1 _ h6) [0, 4, 5, 6]] [] [.cell 2 29, .cell 3 31, .cell 4 40] 1 [0, 4, 5, 6, 8, 9, 10, 11, 12, 13] hC []
theorem e9 : EN 9 := en Tryz.func9
def lv15 : List Nat := [0, 1, 2, 3, 4, 5, 6, 7, 8, 9, 10, 11, 12, 13, 17, 23, 30, 31, 32, 33, 48]
def st15_0 (x0 : api_Ship) (n0 : Nat) (z0 : (List Int)) : St := [(4, dO 0 0), (5, dO 1 0), (6, .d (DS pI [])), (7, dI 0), (10, dS 2), (30, .d (DS q63 x0.Thrusters)), (31, dI (ln x0.Thrusters)), (32, dI (cnt 0 n0))]
def R15_0 (x1 : api_Board) (x2 : api_Power) (n0 : Nat) (z0 : (List Int)) : List Res := [.box 29 (d29 x1), .box 36 (d36 x2), v0_ z0]
def sa15_0  (z0 : (List Int)) : St := [(6, .d (DS pI [])), (7, dI 0), (10, dS 0)]
def Ra15_0  (z0 : (List Int)) : List Res := [v0_ z0]
theorem k15 (x0 : api_Ship) (x1 : api_Board) (x2 : api_Power) (r : (List Int) × Int) (h : F15 x0 x1 x2 = some r) : CO 15 [.agg (d57 x0), .agg (d29 x1), .agg (d36 x2)] [] (.tup [.d (.os 0), .d (I r.2)]) [v0_ r.1] := by
 unfold F15 at h
 refine co 61 Tryz.func15 fun C hC => ?_
 obtain ⟨y1, h2, h⟩ := bE h
 rcases bC ((y1 != 0)) with h3 | h3
 ·replace h := cT h3 h
  replace h := sI h
  subst h
  exact wr lv15 31 [true] [pc e42 (k42 x0 _ h2) []] [.own 6 3 1] [.tmp 6, .tmp 7] 0 [3] hC [pq h3]
 ·replace h := cF h3 h
  obtain ⟨y4, h5, h⟩ := bE h
  refine ws lv15 35 [false] [pc e42 (k42 x0 _ h2) [], pc e43 (k43 x1 x2 _ h5) []] [] 0 n3_ [(3, dO 0 0), (4, dO 1 0), (5, dO 2 0), (6, .d (DS pI [])), (7, dI 0), (9, dI y4), (23, dB (y4 != 0))] [.box 57 (d57 x0), .box 29 (d29 x1), .box 36 (d36 x2)] hC [pq h3] ?_
  rcases bC ((y4 != 0)) with h6 | h6
  ·replace h := cT h6 h
   replace h := sI h
   subst h
   exact wr lv15 24 [true] [] [.own 6 3 1] [.tmp 6, .tmp 7] 0 [3] hC [pq h6]
  ·replace h := cF h6 h
   obtain ⟨y7, h8, h⟩ := bE h
   refine ws lv15 28 [false] [pl q63 x0.Thrusters, ⟨.room ((ln x0.Thrusters) * (8 + 1)) (List.replicate (Int.toNat (ln x0.Thrusters)) (pI 0)) (y7.map pI), make_get h8⟩, pl q63 x0.Thrusters] [] 0 [1, 2, 3] (st15_0 x0 0 y7) (R15_0 x1 x2 0 y7) hC [pq h6] ?_
   obtain ⟨w0, hm0, hret0, hnext0⟩ := aIn h
   clear h
   refine wc w0 (sa15_0) (Ra15_0) ?_ fun z0 hs0 => ?_
   ·refine wb ?_
    refine wL 30 rfl fun hl0 => ?_
    refine wF (by kernel_rfl) (F15_l0 x1 x2) (st15_0 x0) (R15_0 x1 x2) w0 x0.Thrusters y7 hm0 rfl rfl (fun z0 hn0 => ?_) fun n0 a0 z0 w0b hi0 hx0 h hb0 hr0 => ?_
    ·clear hm0
     exact wx w0 (sa15_0) (Ra15_0) lv15 26 [false] [] [] 0 [2] z0 hC [pq (cE hl0)] hn0
    ·unfold F15_l0 at h
     obtain ⟨y9, h10, h⟩ := bE h
     obtain ⟨y11, h12, h⟩ := bE h
     refine ws lv15 34 [true] [pt hx0 hl0, pc e44s1 (k44s1 x1.Consumers (cnt 0 n0) _ h10) [3], pw e46 (fun hg => k46 x1 x2 y9.1 _ (gg h12 hg)) []] [] 0 n5_ [(4, dO 0 0), (5, dO 1 0), (6, .d (DS pI [])), (7, dI 0), (10, dS 2), (11, dO 3 0), (12, dO 4 0), (13, dI y9.1), (30, .d (DS q63 x0.Thrusters)), (31, dI (ln x0.Thrusters)), (32, dI (cnt 0 n0)), (48, dB ((decide (y9.1 >= 0)) && y11))] [.box 29 (d29 x1), .box 36 (d36 x2), v0_ z0, .box 3 [I y9.2], .box 63 (d63 a0)] hC [pq (cL hi0 hl0)] ?_
     rcases bC (((decide (y9.1 >= 0)) && y11)) with h13 | h13
     ·replace h := cT h13 h
      obtain ⟨y14, h15, h⟩ := bE h
      obtain ⟨y16, h17, h⟩ := bE h
      obtain ⟨y18, h19, h⟩ := bE h
      obtain ⟨y20, h21, h⟩ := bE h
      exact wx w0b (st15_0 x0 (n0 + 1)) (R15_0 x1 x2 (n0 + 1)) lv15 25 [true] [pr pI h15, pc e47 (k47 a0 y14 _ h17) [], pr pI h19, pu pI h19 h21] [] 0 n3_ y20 hC [pq h13] (sI h).symm
     ·replace h := cF h13 h
      exact wx w0b (st15_0 x0 (n0 + 1)) (R15_0 x1 x2 (n0 + 1)) lv15 25 [false] [] [] 0 n3_ z0 hC [pq h13] (sI h).symm
   ·have h := hnext0 _ hs0
    replace h := sI h
    subst h
    exact wr lv15 23 [] [] [] [.tmp 6, .tmp 7] 0 [0] hC []
theorem e15 : EN 15 := en Tryz.func15
def lv133s0 : List Nat := [0, 1, 2, 3, 4, 5, 6, 7, 8, 10, 11, 12, 13, 14, 15, 16, 17, 18, 19, 20, 21, 22, 27, 32, 59, 114, 123, 138]
theorem k133s0 (x0 : api_Board) (x1 : api_Table) (x2 : api_Power) (x3 : Int) (x4 : Int) (x5 : api_Roster) (r : api_Roster × (List api_Act) × Int) (h : F133s0 x0 x1 x2 x3 x4 x5 = some r) : CO 133 [.agg (d29 x0), .agg (d31 x1), .agg [.os 0, .os 1, .os 2, .os 3], .d (I x3), .d (I x4), .agg (d130 x5)] (zp x2 []) (.tup [.agg (d130 r.1), .d (DS q49 r.2.1), .d (I r.2.2)]) (zp x2 []) := by
 unfold F133s0 at h
 refine co 149 Tryz.func133 fun C hC => ?_
 obtain ⟨y1, h2, h⟩ := bE h
 refine ws lv133s0 31 [] [pb e43 (k43 x0 x2 _ h2)] [] 4 n10_ [(3, dI x3), (6, dO 4 0), (7, dO 5 0), (8, dO 6 0), (10, dO 7 0), (11, dO 8 0), (12, dO 9 0), (13, .d (DS q49 [])), (14, dI 0), (15, .d (.fn (.func 174) [] [.o 7 0])), (16, dI y1), (27, dB (y1 != 0))] (zp x2 [.box 29 (d29 x0), .box 31 (d31 x1), .box 36 [.os 0, .os 1, .os 2, .os 3], .box 3 [I x4], .box 130 (d130 x5), .box 130 [I 0, I 0]]) hC [] ?_
 rcases bC ((y1 != 0)) with h3 | h3
 ·replace h := cT h3 h
  cases h
 ·replace h := cF h3 h
  refine ws lv133s0 24 [false] [pc e59 (k59 x1 _ rfl) [], ⟨.when [((((!(F59 x1)) || (decide (x4 < 0))) || (decide (x4 > 2147483648))), false)] (.callB 174 [dI x5.High, .d (.ip [.v (.int .i64 x4)])] (dB (F174s0 x5.High x4)) [[]] 0 []), fun hg => l0g ⟨e174s0, (k174s0 x5.High x4 _ rfl)⟩⟩, ⟨.when [(((((!(F59 x1)) || (decide (x4 < 0))) || (decide (x4 > 2147483648))) || (!(F174s0 x5.High x4))), false)] (.callB 174 [dI x5.Low, .d (.ip [.v (.int .i64 x4)])] (dB (F174s0 x5.Low x4)) [[]] 0 []), fun hg => l0g ⟨e174s0, (k174s0 x5.Low x4 _ rfl)⟩⟩] [] 4 n10_ [(3, dI x3), (6, dO 4 0), (7, dO 5 0), (8, dO 6 0), (10, dO 7 0), (11, dO 8 0), (12, dO 9 0), (13, .d (DS q49 [])), (14, dI 0), (32, dB (c133s0_0 x1 x4 x5))] (zp x2 [.box 29 (d29 x0), .box 31 (d31 x1), .box 36 [.os 0, .os 1, .os 2, .os 3], .box 3 [I x4], .box 130 (d130 x5), .box 130 [I 0, I 0]]) hC [pq h3] ?_
  rcases bC ((c133s0_0 x1 x4 x5)) with h4 | h4
  ·replace h := cT h4 h
   cases h
  ·replace h := cF h4 h
   rcases bC ((c133s0_1 x0 x3)) with h5 | h5
   ·replace h := cT h5 h
    cases h
   ·replace h := cF h5 h
    obtain ⟨y6, h7, h⟩ := bE h
    obtain ⟨y8, h9, h⟩ := bE h
    obtain ⟨y10, h11, h⟩ := bE h
    obtain ⟨y12, h13, h⟩ := bE h
    obtain ⟨y14, h15, h⟩ := bE h
    refine ws lv133s0 36 [false, false] [pb e175 (k175 x0 x1 x2 x3 _ h7), pb e177 (k177 x0 x1 x2 x3 _ h9), pc e176 (k176 x5.High y8 x4 _ h11) [], pc e176 (k176 x5.Low y6.2 x4 _ h13) [], pb e178 (k178 x0 x2 x3 _ h15)] [] 4 n10_ [(3, dI x3), (6, dO 4 0), (7, dO 5 0), (8, dO 6 0), (10, dO 7 0), (11, dO 8 0), (12, dO 9 0), (13, .d (DS q49 [])), (14, dI 0), (17, dI y6.1), (19, dI y14.1), (114, dB (c133s0_2 x1 x4 y10 y14))] (zp x2 [.box 29 (d29 x0), .box 31 (d31 x1), .box 36 [.os 0, .os 1, .os 2, .os 3], .box 3 [I x4], .box 130 [I y10, I y12], .box 130 [I 0, I 0]]) hC [pq h4, pq h5] ?_
    rcases bC ((c133s0_2 x1 x4 y10 y14)) with h16 | h16
    ·replace h := cT h16 h
     cases h
    ·replace h := cF h16 h
     rcases bC ((c133s0_3 x1 x4 y12)) with h17 | h17
     ·replace h := cT h17 h
      cases h
     ·replace h := cF h17 h
      replace h := sI h
      subst h
      exact wr lv133s0 30 [false, false] [] [] [.cell 12 130, .tmp 13, .tmp 14] 4 n4_ hC [pq h16, pq h17]
theorem e133s0 : EN 133 := en Tryz.func133
theorem k182 (x0 : api_Board) (x1 : api_Power) (x2 : Int) (r : api_Power × Int) (h : F182 x0 x1 x2 = some r) : CO 182 [.agg (d29 x0), .agg (d36 x1), .d (I x2)] [] (.tup [.agg [.os 0, .os 1, .os 2, .os 3], .d (I r.2)]) (zp r.1 []) := by
 unfold F182 at h
 refine co 29 Tryz.func182 fun C hC => ?_
 obtain ⟨y1, h2, h⟩ := bE h
 refine ws [0, 1, 2, 3, 4, 6, 7, 8, 9, 15] 28 [] [pc e220 (k220 x0 x1 x2 _ h2) []] [.ownb 2 0 4 1, .ownb 2 1 120 4, .ownb 2 2 3 1, .ownb 2 3 86 2] 0 n7_ [(2, dI x2), (3, dO 0 0), (4, dO 1 0), (6, dO 2 0), (7, dI 0), (8, dI y1), (15, dB (y1 != 0))] (.box 29 (d29 x0) :: .box 36 (d36 x1) :: .box 36 [.os 3, .os 4, .os 5, .os 6] :: ze []) hC [] ?_
 rcases bC ((y1 != 0)) with h3 | h3
 ·replace h := cT h3 h
  cases h
 ·replace h := cF h3 h
  obtain ⟨y4, h5, h⟩ := bE h
  obtain ⟨y6, h7, h⟩ := bE h
  obtain ⟨y8, h9, h⟩ := bE h
  obtain ⟨y10, h11, h⟩ := bE h
  replace h := sI h
  subst h
  exact wr [0, 1, 2, 3, 4, 6, 7, 8, 9, 15] 29 [false] [pc e116 (k116 x1 _ h5) [], pr pB h7, pu pB h7 h9, ⟨.call 57 [.agg (d29 x0), .agg [.os 0, .os 1, .os 2, .os 3]] [v2_ y8, v3_ y4.Sources, v0_ y4.Limits, v4_ y4.Broken] (.tup [.agg [.os 4, .os 5, .os 6, .os 7], dI y10.2]) (v2_ y8 :: v3_ y4.Sources :: v0_ y4.Limits :: v4_ y4.Broken :: zp y10.1 []) [7, 8, 9, 10], ⟨e57, ((k57 x0 (⟨y8, y4.Sources, y4.Limits, y4.Broken⟩ : api_Power) _ h11).lend (by kernel_rfl) (by kernel_rfl) (by kernel_rfl) ⟨fS (fun _ => rfl), fS (fun _ => rfl), fS (fun _ => rfl), fS (fun _ => rfl), trivial⟩ (by kernel_rfl) (by kernel_rfl))⟩⟩] [] [.cell 6 36, .tmp 7] 0 [12, 13, 14, 15] hC [pq h3]
theorem e182 : EN 182 := en Tryz.func182
theorem k172s1 (x0 : shed_relief) (r : shed_relief) (h : F172s1 x0 = some r) : CO 172 [.d (.o 0 0)] (.box 235 (zb x0.board [.os 1, .os 2, .os 3, .os 4, .os 5]) :: zp x0.power [v6_ x0.acts]) (.tup []) (.box 235 (zb r.board [.os 6, .os 7, .os 8, .os 9, .os 10]) :: .non :: .non :: .non :: .non :: .non :: zp r.power [v6_ r.acts]) := by
 unfold F172s1 at h
 refine co 24 Tryz.func172 fun C hC => ?_
 obtain ⟨y1, h2, h⟩ := bE h
 obtain ⟨y3, h4, h⟩ := bE h
 obtain ⟨y5, h6, h⟩ := bE h
 replace h := sI h
 subst h
 exact wf [0, 1] 27 [] [pc e204s1 (k204s1 x0 _ h2) n6_, pc e204s2 (k204s2 y1 _ h4) [0, 7, 8, 9, 10, 11, 6], ⟨.call 57 [.agg (d29 y3.board), .agg [.os 0, .os 1, .os 2, .os 3]] (zp y3.power []) (.tup [.agg [.os 4, .os 5, .os 6, .os 7], dI y5.2]) (zp y3.power (zp y5.1 [])) [12, 13, 14, 15], ⟨e57, ((k57 y3.board y3.power _ h6).lend (by kernel_rfl) (by kernel_rfl) (by kernel_rfl) ⟨fS (fun _ => rfl), fS (fun _ => rfl), fS (fun _ => rfl), fS (fun _ => rfl), trivial⟩ (by kernel_rfl) (by kernel_rfl))⟩⟩] [] [] 6 [0, 1, 2, 3, 4, 5, 17, 18, 19, 20, 16] hC []
theorem e172s1 : EN 172 := en Tryz.func172
def lv173s1 : List Nat := [0, 2, 4, 5, 19, 20, 21, 22, 32]
def st173s1_0 (y3 : (List api_Island)) (n0 : Nat) (z0 : Sg7) : St := [(0, dO 0 0), (2, dS 6), (19, dS 7), (20, dI (ln y3)), (21, dI (cnt 0 n0))]
def R173s1_0 (y1 : (List Int)) (y3 : (List api_Island)) (n0 : Nat) (z0 : Sg7) : List Res := [.box 235 [I z0.1, DS q147 z0.2.1, DS q139 z0.2.2.1, DS q65 (g3_ z0), I (g4_ z0), I (g5_ z0), .os 8, .os 9, .os 10, .os 11, .os 12], .non, .non, .non, .non, .non, v0_ y1, v8_ y3, v2_ (g6_ z0), v3_ (g7_ z0), v0_ (g8_ z0), v4_ (g9_ z0), v6_ (g10z_ z0)]
def sa173s1_0  (z0 : Sg7) : St := []
def Ra173s1_0  (z0 : Sg7) : List Res := [.box 235 [I z0.1, DS q147 z0.2.1, DS q139 z0.2.2.1, DS q65 (g3_ z0), I (g4_ z0), I (g5_ z0), .os 6, .os 7, .os 8, .os 9, .os 10], .non, .non, .non, .non, .non, v2_ (g6_ z0), v3_ (g7_ z0), v0_ (g8_ z0), v4_ (g9_ z0), v6_ (g10z_ z0)]
theorem k173s1 (x0 : shed_relief) (r : shed_relief) (h : F173s1 x0 = some r) : CO 173 [.d (.o 0 0)] (.box 235 (zb x0.board [.os 1, .os 2, .os 3, .os 4, .os 5]) :: zp x0.power [v6_ x0.acts]) (.tup []) (.box 235 (zb r.board [.os 6, .os 7, .os 8, .os 9, .os 10]) :: .non :: .non :: .non :: .non :: .non :: zp r.power [v6_ r.acts]) := by
 unfold F173s1 at h
 refine co 48 Tryz.func173 fun C hC => ?_
 obtain ⟨y1, h2, h⟩ := bE h
 obtain ⟨y3, h4, h⟩ := bE h
 refine ws lv173s1 25 [] [pc e207 (k207 x0.board _ h2) [], pc e89s0 (k89s0 x0.board x0.power _ h4) [1, 2, 3, 4], pl q84 y3] [.mv 1, .mv 2, .mv 3, .mv 4, .mv 5] 6 n13_ (st173s1_0 y3 0 (zt x0.board (zu x0.power x0.acts))) (R173s1_0 y1 y3 0 (zt x0.board (zu x0.power x0.acts))) hC [] ?_
 obtain ⟨w0, hm0, hret0, hnext0⟩ := aIn h
 clear h
 refine wc w0 (sa173s1_0) (Ra173s1_0) ?_ fun z0 hs0 => ?_
 ·refine wb ?_
  refine wO 19 7 rfl rfl fun hl0 => ?_
  refine wF (by kernel_rfl) (F173s1_l0 y1) (st173s1_0 y3) (R173s1_0 y1 y3) w0 y3 (zt x0.board (zu x0.power x0.acts)) hm0 rfl rfl (fun z0 hn0 => ?_) fun n0 a0 z0 w0b hi0 hx0 h hb0 hr0 => ?_
  ·clear hm0
   exact wx w0 (sa173s1_0) (Ra173s1_0) lv173s1 26 [false] [] [] 6 [0, 1, 2, 3, 4, 5, 8, 9, 10, 11, 12] (z0.1, z0.2.1, z0.2.2.1, (g3_ z0), (g4_ z0), (g5_ z0), (g6_ z0), (g7_ z0), (g8_ z0), (g9_ z0), (g10z_ z0)) hC [pq (cE hl0)] hn0
  ·unfold F173s1_l0 at h
   obtain ⟨y5, h6, h⟩ := bE h
   obtain ⟨y7, h8, h⟩ := bE h
   refine ws lv173s1 34 [true] [pr q84 (gC hx0 hl0), pn q84 (gC hx0 hl0), ⟨.call 168 [dS 0] [v0_ y1] (dS 1) [v0_ y1, v0_ y5] [6], ⟨e168, ((k168 y1 _ h6).lend (by kernel_rfl) (by kernel_rfl) (by kernel_rfl) ⟨fS (fun _ => rfl), trivial⟩ (by kernel_rfl) (by kernel_rfl))⟩⟩, pc e208s1 (k208s1 y5 a0 _ h8) [14, 13], pl pI y7.2.Sources] [] 6 [0, 1, 2, 3, 4, 5, 6, 7, 8, 9, 10, 11, 12, 13, 15] [(0, dO 0 0), (2, dS 6), (4, dO 13 0), (5, dS 14), (19, dS 7), (20, dI (ln y3)), (21, dI (cnt 0 n0)), (32, dB (decide ((ln y7.2.Sources) > 0)))] [.box 235 [I z0.1, DS q147 z0.2.1, DS q139 z0.2.2.1, DS q65 (g3_ z0), I (g4_ z0), I (g5_ z0), .os 8, .os 9, .os 10, .os 11, .os 12], .non, .non, .non, .non, .non, v0_ y1, v8_ y3, v2_ (g6_ z0), v3_ (g7_ z0), v0_ (g8_ z0), v4_ (g9_ z0), v6_ (g10z_ z0), .box 84 (d84 y7.2), v0_ y7.1] hC [pq (cL hi0 hl0)] ?_
   rcases bC (decide ((ln y7.2.Sources) > 0)) with h9 | h9
   ·replace h := cT h9 h
    obtain ⟨y10, h11, h⟩ := bE h
    obtain ⟨y12, h13, h⟩ := bE h
    obtain ⟨y14, h15, h⟩ := bE h
    obtain ⟨y16, h17, h⟩ := bE h
    exact wx w0b (st173s1_0 y3 (n0 + 1)) (R173s1_0 y1 y3 (n0 + 1)) lv173s1 27 [true] [pr pI h11, pc e210s2 (k210s2 (⟨(⟨z0.1, z0.2.1, z0.2.2.1, (g3_ z0), (g4_ z0), (g5_ z0)⟩ : api_Board), (⟨(g6_ z0), (g7_ z0), (g8_ z0), (g9_ z0)⟩ : api_Power), (g10z_ z0)⟩ : shed_relief) y7.1 y10 _ h13) [0, 8, 9, 10, 11, 12, 14], pr pI h15, pb e211s0 (k211s0 y12 y7.1 y14 _ h17)] [] 6 [0, 1, 2, 3, 4, 5, 6, 7, 15, 16, 17, 18, 19] (zt y12.board (zu y12.power y12.acts)) hC [pq h9] (sI h).symm
   ·replace h := cF h9 h
    exact wx w0b (st173s1_0 y3 (n0 + 1)) (R173s1_0 y1 y3 (n0 + 1)) lv173s1 25 [false] [] [] 6 n13_ (z0.1, z0.2.1, z0.2.2.1, (g3_ z0), (g4_ z0), (g5_ z0), (g6_ z0), (g7_ z0), (g8_ z0), (g9_ z0), (g10z_ z0)) hC [pq h9] (sI h).symm
 ·have h := hnext0 _ hs0
  replace h := sI h
  subst h
  exact wf lv173s1 20 [] [] [] [] 6 n11_ hC []
theorem e173s1 : EN 173 := en Tryz.func173
def lv135s1 : List Nat := [0, 1, 3, 4, 6, 17, 36, 55, 76, 82, 88, 96]
theorem k135s1 (x0 : restore_worker) (x1 : api_Act) (r : Int × restore_worker) (h : F135s1 x0 x1 = some r) : CO 135 [.d (.o 0 0), .agg (d49 x1)] (.box 186 (zb x0.board [.os 1, .os 2, .os 3, .os 4, I x0.time]) :: zp x0.power []) (.d (I r.1)) (.box 186 (zb r.2.board [.os 5, .os 6, .os 7, .os 8, I r.2.time]) :: .non :: .non :: .non :: .non :: zp r.2.power []) := by
 unfold F135s1 at h
 refine co 101 Tryz.func135 fun C hC => ?_
 rcases bC ((x1.Kind == 1)) with h1 | h1
 ·replace h := cT h1 h
  obtain ⟨y2, h3, h⟩ := bE h
  replace h := sI h
  subst h
  exact wr lv135s1 34 [true] [⟨.call 182 [.agg (d29 x0.board), .agg [.os 0, .os 1, .os 2, .os 3], dI x1.Unit] (zp x0.power []) (.tup [.agg [.os 4, .os 5, .os 6, .os 7], dI y2.2]) (zp x0.power (zp y2.1 [])) [1, 2, 3, 4], ⟨e182, ((k182 x0.board x0.power x1.Unit _ h3).lend (by kernel_rfl) (by kernel_rfl) (by kernel_rfl) ⟨fS (fun _ => rfl), fS (fun _ => rfl), fS (fun _ => rfl), fS (fun _ => rfl), trivial⟩ (by kernel_rfl) (by kernel_rfl))⟩⟩] [.frz 1, .frz 2, .frz 3, .frz 4] [.tmp 4] 5 [0, 1, 2, 3, 4, 6, 7, 8, 9] hC [pq h1]
 ·replace h := cF h1 h
  rcases bC ((x1.Kind == 2)) with h4 | h4
  ·replace h := cT h4 h
   cases h
  ·replace h := cF h4 h
   rcases bC ((x1.Kind == 6)) with h5 | h5
   ·replace h := cT h5 h
    cases h
   ·replace h := cF h5 h
    rcases bC ((x1.Kind == 3)) with h6 | h6
    ·replace h := cT h6 h
     obtain ⟨y7, h8, h⟩ := bE h
     replace h := sI h
     subst h
     exact wr lv135s1 43 [false, false, false, true] [pc e185s1 (k185s1 x0 x1.Unit _ h8) n5_] [.mv 1, .mv 2, .mv 3, .mv 4] [.tmp 4] 5 [0, 1, 2, 3, 4, 6, 7, 8, 9] hC [pq h1, pq h4, pq h5, pq h6]
    ·replace h := cF h6 h
     rcases bC ((x1.Kind == 4)) with h9 | h9
     ·replace h := cT h9 h
      cases h
     ·replace h := cF h9 h
      rcases bC ((x1.Kind == 5)) with h10 | h10
      ·replace h := cT h10 h
       cases h
      ·replace h := cF h10 h
       rcases bC ((x1.Kind == 7)) with h11 | h11
       ·replace h := cT h11 h
        obtain ⟨y12, h13, h⟩ := bE h
        replace h := sI h
        subst h
        exact wr lv135s1 52 [false, false, false, false, false, false, true] [pc e188s1 (k188s1 x0 _ h13) n5_] [] [.tmp 4] 5 [0, 1, 2, 3, 4, 6, 7, 8, 9] hC [pq h1, pq h4, pq h5, pq h6, pq h9, pq h10, pq h11]
       ·replace h := cF h11 h
        obtain ⟨y14, h15, h⟩ := bE h
        replace h := sI h
        subst h
        exact wr lv135s1 52 [false, false, false, false, false, false, false] [pc e189s1 (k189s1 x0 (⟨x1.Value, x1.Unit⟩ : api_Part) (x1.Kind == 8) _ h15) n5_] [] [.tmp 4] 5 [0, 1, 2, 3, 4, 6, 7, 8, 9] hC [pq h1, pq h4, pq h5, pq h6, pq h9, pq h10, pq h11]
theorem e135s1 : EN 135 := en Tryz.func135
theorem k171s1 (x0 : shed_relief) (r : shed_relief) (h : F171s1 x0 = some r) : CO 171 [.d (.o 0 0)] (.box 235 (zb x0.board [.os 1, .os 2, .os 3, .os 4, .os 5]) :: zp x0.power [v6_ x0.acts]) (.tup []) (.box 235 (zb r.board [.os 6, .os 7, .os 8, .os 9, .os 10]) :: .non :: .non :: .non :: .non :: .non :: zp r.power [v6_ r.acts]) := by
 unfold F171s1 at h
 refine co 6 Tryz.func171 fun C hC => ?_
 obtain ⟨y1, h2, h⟩ := bE h
 obtain ⟨y3, h4, h⟩ := bE h
 replace h := sI h
 subst h
 exact wf [0] 23 [] [pc e172s1 (k172s1 x0 _ h2) n6_, pc e173s1 (k173s1 y1 _ h4) [0, 6, 7, 8, 9, 10]] [] [] 6 [0, 1, 2, 3, 4, 5, 11, 12, 13, 14, 15] hC []
theorem e171s1 : EN 171 := en Tryz.func171
def lv83 : List Nat := [0, 1, 2, 3, 4, 5, 7, 8, 9, 10, 11, 12, 16, 21, 39, 55]
theorem k83 (x0 : api_Board) (x1 : api_Power) (x2 : Int) (x3 : api_Act) (r : api_Power × Int) (h : F83 x0 x1 x2 x3 = some r) : CO 83 [.agg (d29 x0), .agg (d36 x1), .d (I x2), .agg (d49 x3)] [] (.tup [.agg [.os 0, .os 1, .os 2, .os 3], .d (I r.2)]) (zp r.1 []) := by
 unfold F83 at h
 refine co 62 Tryz.func83 fun C hC => ?_
 obtain ⟨y1, h2, h⟩ := bE h
 refine ws lv83 29 [] [pc e43 (k43 x0 x1 _ h2) []] [.ownb 3 0 4 1, .ownb 3 1 120 4, .ownb 3 2 3 1, .ownb 3 3 86 2] 0 n8_ [(2, dI x2), (4, dO 0 0), (5, dO 1 0), (7, dO 2 0), (8, dO 3 0), (9, dI 0), (10, dI y1), (16, dB (y1 != 0))] (.box 29 (d29 x0) :: .box 36 (d36 x1) :: .box 49 (d49 x3) :: .box 36 [.os 4, .os 5, .os 6, .os 7] :: ze []) hC [] ?_
 rcases bC ((y1 != 0)) with h3 | h3
 ·replace h := cT h3 h
  cases h
 ·replace h := cF h3 h
  rcases bC ((c83_0 x2 x3)) with h4 | h4
  ·replace h := cT h4 h
   cases h
  ·replace h := cF h4 h
   obtain ⟨y5, h6, h⟩ := bE h
   rcases bC (!y5) with h7 | h7
   ·replace h := cT h7 h
    cases h
   ·replace h := cF h7 h
    obtain ⟨y8, h9, h⟩ := bE h
    obtain ⟨y10, h11, h⟩ := bE h
    refine ws lv83 37 [false, false, false] [pc e134 (k134 x0 x3 _ h6) [], pc e116 (k116 x1 _ h9) [], pc e135s1 (k135s1 (⟨x0, y8, x2⟩ : restore_worker) x3 _ h11) [12, 8, 9, 10, 11]] [] 0 [3, 4, 5, 6, 7, 12, 13, 14, 15, 16] [(8, dO 0 0), (9, dI 0), (11, dO 5 0), (12, dI y10.1), (55, dB (y10.1 != 0))] (.box 36 [.os 1, .os 2, .os 3, .os 4] :: ze (.box 186 (zb y10.2.board [.os 6, .os 7, .os 8, .os 9, I y10.2.time]) :: zp y10.2.power [])) hC [pq h3, pq h4, pq h7] ?_
    rcases bC ((y10.1 != 0)) with h12 | h12
    ·replace h := cT h12 h
     cases h
    ·replace h := cF h12 h
     replace h := sI h
     subst h
     exact wr lv83 25 [false] [] [] [.cell 8 36, .tmp 9] 0 [6, 7, 8, 9] hC [pq h12]
theorem e83 : EN 83 := en Tryz.func83
def lv170s0 : List Nat := [0, 1, 2, 3, 4, 6, 7, 8, 9, 10, 15]
theorem k170s0 (x0 : api_Board) (x1 : api_Power) (r : api_Power × (List api_Act) × Int) (h : F170s0 x0 x1 = some r) : CO 170 [.agg (d29 x0), .agg (d36 x1), .d (.fn (.func 171) [] [])] [] (.tup [.agg [.os 0, .os 1, .os 2, .os 3], .d (.os 4), .d (I r.2.2)]) (zp r.1 [v6_ r.2.1]) := by
 unfold F170s0 at h
 refine co 34 Tryz.func170 fun C hC => ?_
 obtain ⟨y1, h2, h⟩ := bE h
 refine ws lv170s0 28 [] [pc e43 (k43 x0 x1 _ h2) []] [.ownb 2 0 4 1, .ownb 2 1 120 4, .ownb 2 2 3 1, .ownb 2 3 86 2] 0 n7_ [(2, .d (.fn (.func 171) [] [])), (3, dO 0 0), (4, dO 1 0), (6, dO 2 0), (7, .d (DS q49 [])), (8, dI 0), (9, dI y1), (15, dB (y1 != 0))] (.box 29 (d29 x0) :: .box 36 (d36 x1) :: .box 36 [.os 3, .os 4, .os 5, .os 6] :: ze []) hC [] ?_
 rcases bC ((y1 != 0)) with h3 | h3
 ·replace h := cT h3 h
  cases h
 ·replace h := cF h3 h
  obtain ⟨y4, h5, h⟩ := bE h
  refine ws lv170s0 5 [false] [pc e116 (k116 x1 _ h5) []] [.ownb 11 10 49 3] 0 [2, 3, 4, 5, 6, 7, 8, 9, 10, 11, 12] [(2, .d (.fn (.func 171) [] [])), (6, dO 0 0), (7, .d (DS q49 [])), (8, dI 0), (10, dO 9 0)] (.box 36 [.os 1, .os 2, .os 3, .os 4] :: ze (zp y4 [.box 235 (zb x0 [.os 5, .os 6, .os 7, .os 8, .os 10]), v6_ ([] : List api_Act)])) hC [pq h3] ?_
  obtain ⟨y6, h7, h⟩ := bE h
  replace h := sI h
  subst h
  exact wr lv170s0 24 [] [pc e171s1 (k171s1 (⟨x0, y4, ([] : List api_Act)⟩ : shed_relief) _ h7) [9, 5, 6, 7, 8, 10]] [] [.cell 6 36, .tmp 7, .tmp 8] 0 [11, 12, 13, 14, 15] hC []
theorem e170s0 : EN 170 := en Tryz.func170
theorem k125 (x0 : api_Board) (x1 : api_Power) (r : api_Power × (List api_Act) × Int) (h : F125 x0 x1 = some r) : CO 125 [.agg (d29 x0), .agg (d36 x1)] [] (.tup [.agg [.os 0, .os 1, .os 2, .os 3], .d (.os 4), .d (I r.2.2)]) (zp r.1 [v6_ r.2.1]) := by
 unfold F125 at h
 refine co 13 Tryz.func125 fun C hC => ?_
 obtain ⟨y1, h2, h⟩ := bE h
 replace h := sI h
 subst h
 exact wr n7_ 25 [] [pc e170s0 (k170s0 x0 x1 _ h2) []] [] [.cell 4 36, .tmp 5, .tmp 6] 0 [3, 4, 5, 6, 7] hC []
theorem e125 : EN 125 := en Tryz.func125
def lv64s1 : List Nat := [0, 1, 3, 4, 5, 6, 7, 10, 32, 38, 52, 53, 54, 55, 63, 83]
def sa64s1_0 (y1 : api_Power × Int) (z0 : Unit) : St := [(0, dO 0 0), (3, dO 9 0), (4, dO 10 0), (5, dI y1.2)]
def Ra64s1_0 (x0 : plant_runner) (x1 : api_Act) (y1 : api_Power × Int) (z0 : Unit) : List Res := (.box 100 (I x0.Plant.Time :: .os 1 :: .os 2 :: .os 3 :: .os 4 :: .os 5 :: .os 6 :: zb x0.board [.os 7, .os 8]) :: zp x0.Plant.Power (v5_ x0.Plant.Rosters :: v1_ x0.Plant.Events :: v1_ x0.events :: v7_ x0.states :: .box 49 (d49 x1) :: .box 36 [.os 11, .os 12, .os 13, .os 14] :: zp y1.1 []))
def st64s1_1 (y9 : api_Power × (List api_Act) × Int) (n1 : Nat) (z1 : Sg9) : St := [(0, dO 0 0), (4, dO 9 0), (6, dO 16 0), (52, dS 21), (53, dI (ln y9.2.1)), (54, dI (cnt 0 n1))]
def R64s1_1 (y1 : api_Power × Int) (y9 : api_Power × (List api_Act) × Int) (n1 : Nat) (z1 : Sg9) : List Res := (.box 100 [I z1.1, .os 1, .os 2, .os 3, .os 4, .os 5, .os 6, I z1.2.1, DS q147 z1.2.2.1, DS q139 (g3_ z1), DS q65 (g4_ z1), I (g5_ z1), I (g6_ z1), .os 14, .os 15] :: v2_ (g7_ z1) :: v3_ (g8_ z1) :: v0_ (g9_ z1) :: v4_ (g10_ z1) :: v5_ (g11_ z1) :: v1_ (g12_ z1) :: .non :: .non :: .box 36 [.os 10, .os 11, .os 12, .os 13] :: v2_ (g13_ z1) :: v3_ y1.1.Sources :: v0_ (g16z_ z1) :: v4_ y1.1.Broken :: v1_ (g14_ z1) :: v7_ (g15_ z1) :: .box 36 [.os 17, .os 18, .os 19, .os 20] :: zp y9.1 [v6_ y9.2.1])
def sa64s1_1  (z1 : Sg9) : St := [(0, dO 0 0), (4, dO 9 0), (6, dO 16 0)]
def Ra64s1_1 (y1 : api_Power × Int) (y9 : api_Power × (List api_Act) × Int) (z1 : Sg9) : List Res := (.box 100 [I z1.1, .os 1, .os 2, .os 3, .os 4, .os 5, .os 6, I z1.2.1, DS q147 z1.2.2.1, DS q139 (g3_ z1), DS q65 (g4_ z1), I (g5_ z1), I (g6_ z1), .os 14, .os 15] :: v2_ (g7_ z1) :: v3_ (g8_ z1) :: v0_ (g9_ z1) :: v4_ (g10_ z1) :: v5_ (g11_ z1) :: v1_ (g12_ z1) :: .non :: .non :: .box 36 [.os 10, .os 11, .os 12, .os 13] :: v2_ (g13_ z1) :: v3_ y1.1.Sources :: v0_ (g16z_ z1) :: v4_ y1.1.Broken :: v1_ (g14_ z1) :: v7_ (g15_ z1) :: .box 36 [.os 17, .os 18, .os 19, .os 20] :: zp y9.1 [])
set_option maxHeartbeats 4000000 in
theorem k64s1 (x0 : plant_runner) (x1 : api_Act) (r : plant_runner) (h : F64s1 x0 x1 = some r) : CO 64 [.d (.o 0 0), .agg (d49 x1)] (.box 100 (I x0.Plant.Time :: .os 1 :: .os 2 :: .os 3 :: .os 4 :: .os 5 :: .os 6 :: zb x0.board [.os 7, .os 8]) :: zp x0.Plant.Power [v5_ x0.Plant.Rosters, v1_ x0.Plant.Events, v1_ x0.events, v7_ x0.states]) (.tup []) (.box 100 (I r.Plant.Time :: .os 9 :: .os 10 :: .os 11 :: .os 12 :: .os 5 :: .os 6 :: zb r.board [.os 13, .os 14]) :: .non :: .non :: .non :: .non :: v5_ r.Plant.Rosters :: v1_ r.Plant.Events :: .non :: .non :: zp r.Plant.Power [v1_ r.events, v7_ r.states]) := by
 unfold F64s1 at h
 refine co 92 Tryz.func64 fun C hC => ?_
 obtain ⟨y1, h2, h⟩ := bE h
 refine ws lv64s1 28 [] [⟨.flts [.box 36 [.p (.v (.slice none 0 0)), .p (.v (.slice none 0 0)), .p (.v (.slice none 0 0)), .p (.v (.slice none 0 0))]], trivial⟩, ⟨.call 83 [.agg (d29 x0.board), .agg [.os 0, .os 1, .os 2, .os 3], dI x0.Plant.Time, .agg (d49 x1)] (zp x0.Plant.Power []) (.tup [.agg [.os 4, .os 5, .os 6, .os 7], dI y1.2]) (zp x0.Plant.Power (zp y1.1 [])) [1, 2, 3, 4], ⟨e83, ((k83 x0.board x0.Plant.Power x0.Plant.Time x1 _ h2).lend (by kernel_rfl) (by kernel_rfl) (by kernel_rfl) ⟨fS (fun _ => rfl), fS (fun _ => rfl), fS (fun _ => rfl), fS (fun _ => rfl), trivial⟩ (by kernel_rfl) (by kernel_rfl))⟩⟩, ⟨.flt 10 (.box 36 [.p (.v (.slice none 0 0)), .p (.v (.slice none 0 0)), .p (.v (.slice none 0 0)), .p (.v (.slice none 0 0))]) (.box 36 [.p (.v (.slice none 0 0)), .p (.v (.slice none 0 0)), .p (.v (.slice none 0 0)), .p (.v (.slice none 0 0))]), rfl⟩] [] 9 n15_ [(0, dO 0 0), (3, dO 9 0), (4, dO 10 0), (5, dI y1.2), (32, dB (x1.Kind == 7))] (.box 100 (I x0.Plant.Time :: .os 1 :: .os 2 :: .os 3 :: .os 4 :: .os 5 :: .os 6 :: zb x0.board [.os 7, .os 8]) :: zp x0.Plant.Power (v5_ x0.Plant.Rosters :: v1_ x0.Plant.Events :: v1_ x0.events :: v7_ x0.states :: .box 49 (d49 x1) :: .box 36 [.os 11, .os 12, .os 13, .os 14] :: zp y1.1 [])) hC [] ?_
 obtain ⟨w0, h, hret0, hnext0⟩ := aIn h
 refine wc w0 (sa64s1_0 y1) (Ra64s1_0 x0 x1 y1) ?_ fun z0 hs0 => ?_
 ·unfold F64s1_m0 at h
  rcases bC ((x1.Kind == 7)) with h3 | h3
  ·replace h := cT h3 h
   cases h
  ·replace h := cF h3 h
   exact wx w0 (sa64s1_0 y1) (Ra64s1_0 x0 x1 y1) lv64s1 23 [false] [] [] 9 n15_ () hC [pq h3] (sI h).symm
 ·clear h; have h := hnext0 _ hs0
  obtain ⟨y4, h5, h⟩ := bE h
  refine ws lv64s1 26 [] [pc e124s1 (k124s1 x0 x1 y1.2 _ h5) n9_] [] 9 [0, 1, 2, 3, 4, 5, 6, 7, 8, 10, 11, 12, 13, 14, 15] [(0, dO 0 0), (4, dO 9 0), (38, dB (y1.2 != 0))] (.box 100 (I y4.Plant.Time :: .os 1 :: .os 2 :: .os 3 :: .os 4 :: .os 5 :: .os 6 :: zb y4.board [.os 14, .os 8]) :: zp y4.Plant.Power (v5_ y4.Plant.Rosters :: v1_ y4.Plant.Events :: .non :: v7_ y4.states :: .box 36 [.os 10, .os 11, .os 12, .os 13] :: zp y1.1 [v1_ y4.events])) hC [] ?_
  rcases bC ((y1.2 != 0)) with h6 | h6
  ·replace h := cT h6 h
   cases h
  ·replace h := cF h6 h
   obtain ⟨y7, h8, h⟩ := bE h
   obtain ⟨y9, h10, h⟩ := bE h
   refine ws lv64s1 30 [false] [pc e81s2 (k81s2 y4 y1.1 _ h8) [0, 1, 2, 3, 4, 5, 6, 14, 8, 10, 11, 12, 13], ⟨.flts [.box 36 [.p (.v (.slice none 0 0)), .p (.v (.slice none 0 0)), .p (.v (.slice none 0 0)), .p (.v (.slice none 0 0))]], trivial⟩, ⟨.call 125 [.agg (d29 y7.board), .agg [.os 0, .os 1, .os 2, .os 3]] (zp y1.1 []) (.tup [.agg [.os 4, .os 5, .os 6, .os 7], dS 8, dI y9.2.2]) (zp y1.1 (zp y9.1 [v6_ y9.2.1])) [10, 11, 12, 13], ⟨e125, ((k125 y7.board y1.1 _ h10).lend (by kernel_rfl) (by kernel_rfl) (by kernel_rfl) ⟨fS (fun _ => rfl), fS (fun _ => rfl), fS (fun _ => rfl), fS (fun _ => rfl), fS (fun _ => rfl), trivial⟩ (by kernel_rfl) (by kernel_rfl))⟩⟩, ⟨.flt 16 (.box 36 [.p (.v (.slice none 0 0)), .p (.v (.slice none 0 0)), .p (.v (.slice none 0 0)), .p (.v (.slice none 0 0))]) (.box 36 [.p (.v (.slice none 0 0)), .p (.v (.slice none 0 0)), .p (.v (.slice none 0 0)), .p (.v (.slice none 0 0))]), rfl⟩, pl q49 y9.2.1] [] 9 n22_ (st64s1_1 y9 0 (y7.Plant.Time, zt y7.board (zu y7.Plant.Power (y7.Plant.Rosters, y7.Plant.Events, y1.1.Closed, y7.events, y7.states, y1.1.Limits)))) (R64s1_1 y1 y9 0 (y7.Plant.Time, zt y7.board (zu y7.Plant.Power (y7.Plant.Rosters, y7.Plant.Events, y1.1.Closed, y7.events, y7.states, y1.1.Limits)))) hC [pq h6] ?_
   obtain ⟨w1, hm1, hret1, hnext1⟩ := aIn h
   clear h
   refine wc w1 (sa64s1_1) (Ra64s1_1 y1 y9) ?_ fun z1 hs1 => ?_
   ·refine wb ?_
    refine wO 52 21 rfl rfl fun hl1 => ?_
    refine wF (by kernel_rfl) (F64s1_l1 y1) (st64s1_1 y9) (R64s1_1 y1 y9) w1 y9.2.1 (y7.Plant.Time, zt y7.board (zu y7.Plant.Power (y7.Plant.Rosters, y7.Plant.Events, y1.1.Closed, y7.events, y7.states, y1.1.Limits))) hm1 rfl rfl (fun z1 hn1 => ?_) fun n1 a1 z1 w1b hi1 hx1 h hb1 hr1 => ?_
    ·clear hm1
     exact wx w1 (sa64s1_1) (Ra64s1_1 y1 y9) lv64s1 26 [false] [] [] 9 n21_ (z1.1, z1.2.1, z1.2.2.1, (g3_ z1), (g4_ z1), (g5_ z1), (g6_ z1), (g7_ z1), (g8_ z1), (g9_ z1), (g10_ z1), (g11_ z1), (g12_ z1), (g13_ z1), (g14_ z1), (g15_ z1), (g16z_ z1)) hC [pq (cE hl1)] hn1
    ·unfold F64s1_l1 at h
     obtain ⟨y11, h12, h⟩ := bE h
     refine ws lv64s1 35 [true] [pr q49 (gC hx1 hl1), pn q49 (gC hx1 hl1), pc e124s1 (k124s1 (⟨(⟨z1.1, (⟨(g7_ z1), (g8_ z1), (g9_ z1), (g10_ z1)⟩ : api_Power), (g11_ z1), (g12_ z1)⟩ : api_Plant), (⟨z1.2.1, z1.2.2.1, (g3_ z1), (g4_ z1), (g5_ z1), (g6_ z1)⟩ : api_Board), (g14_ z1), (g15_ z1)⟩ : plant_runner) a1 0 _ h12) [0, 1, 2, 3, 4, 5, 6, 14, 15]] [] 9 [0, 1, 2, 3, 4, 5, 6, 7, 8, 9, 10, 11, 12, 13, 15, 16, 17, 18, 19, 20, 21, 22, 23] [(0, dO 0 0), (4, dO 9 0), (6, dO 15 0), (10, dO 21 0), (52, dS 20), (53, dI (ln y9.2.1)), (54, dI (cnt 0 n1)), (63, dB (a1.Kind == 2))] (.box 100 (I y11.Plant.Time :: .os 1 :: .os 2 :: .os 3 :: .os 4 :: .os 5 :: .os 6 :: zb y11.board [.os 22, .os 14]) :: zp y11.Plant.Power (v5_ y11.Plant.Rosters :: v1_ y11.Plant.Events :: .non :: .non :: .box 36 [.os 10, .os 11, .os 12, .os 13] :: v2_ (g13_ z1) :: v3_ y1.1.Sources :: v0_ (g16z_ z1) :: v4_ y1.1.Broken :: v7_ y11.states :: .box 36 [.os 16, .os 17, .os 18, .os 19] :: zp y9.1 [v6_ y9.2.1, .box 49 (d49 a1), v1_ y11.events])) hC [pq (cL hi1 hl1)] ?_
     rcases bC ((a1.Kind == 2)) with h13 | h13
     ·replace h := cT h13 h
      obtain ⟨y14, h15, h⟩ := bE h
      obtain ⟨y16, h17, h⟩ := bE h
      obtain ⟨y18, h19, h⟩ := bE h
      exact wx w1b (st64s1_1 y9 (n1 + 1)) (R64s1_1 y1 y9 (n1 + 1)) lv64s1 26 [true] [pr pB h15, pu pB h15 h17, pc e81s2 (k81s2 y11 (⟨y16, y1.1.Sources, (g16z_ z1), y1.1.Broken⟩ : api_Power) _ h19) [0, 1, 2, 3, 4, 5, 6, 22, 14, 10, 11, 12, 13]] [] 9 [0, 1, 2, 3, 4, 5, 6, 7, 8, 9, 10, 11, 12, 13, 22, 23, 15, 16, 17, 18, 19, 20] (y18.Plant.Time, zt y18.board (zu y18.Plant.Power (y18.Plant.Rosters, y18.Plant.Events, y16, y18.events, y18.states, (g16z_ z1)))) hC [pq h13] (sI h).symm
     ·replace h := cF h13 h
      obtain ⟨y20, h21, h⟩ := bE h
      obtain ⟨y22, h23, h⟩ := bE h
      obtain ⟨y24, h25, h⟩ := bE h
      exact wx w1b (st64s1_1 y9 (n1 + 1)) (R64s1_1 y1 y9 (n1 + 1)) lv64s1 26 [false] [pr pI h21, pu pI h21 h23, pc e81s2 (k81s2 y11 (⟨(g13_ z1), y1.1.Sources, y22, y1.1.Broken⟩ : api_Power) _ h25) [0, 1, 2, 3, 4, 5, 6, 22, 14, 10, 11, 12, 13]] [] 9 [0, 1, 2, 3, 4, 5, 6, 7, 8, 9, 10, 11, 12, 13, 22, 23, 15, 16, 17, 18, 19, 20] (y24.Plant.Time, zt y24.board (zu y24.Plant.Power (y24.Plant.Rosters, y24.Plant.Events, (g13_ z1), y24.events, y24.states, y22))) hC [pq h13] (sI h).symm
   ·have h := hnext1 _ hs1
    obtain ⟨y26, h27, h⟩ := bE h
    refine ws lv64s1 24 [] [pb e60 (k60 (⟨(g13_ z1), y1.1.Sources, (g16z_ z1), y1.1.Broken⟩ : api_Power) y9.1 _ h27)] [] 9 [0, 1, 2, 3, 4, 5, 6, 7, 8, 14, 15, 16, 17, 18, 19, 20] [(0, dO 0 0), (6, dO 11 0), (83, dB (!y26))] (.box 100 [I z1.1, .os 1, .os 2, .os 3, .os 4, .os 5, .os 6, I z1.2.1, DS q147 z1.2.2.1, DS q139 (g3_ z1), DS q65 (g4_ z1), I (g5_ z1), I (g6_ z1), .os 9, .os 10] :: v2_ (g7_ z1) :: v3_ (g8_ z1) :: v0_ (g9_ z1) :: v4_ (g10_ z1) :: v5_ (g11_ z1) :: v1_ (g12_ z1) :: .non :: .non :: v1_ (g14_ z1) :: v7_ (g15_ z1) :: .box 36 [.os 12, .os 13, .os 14, .os 15] :: zp y9.1 []) hC [] ?_
    rcases bC (!y26) with h28 | h28
    ·replace h := cT h28 h
     cases h
    ·replace h := cF h28 h
     replace h := sI h
     subst h
     exact wf lv64s1 23 [false] [] [.frz 1, .frz 2, .frz 3, .frz 4] [] 9 [0, 1, 2, 3, 4, 5, 6, 7, 8, 12, 13, 14, 15, 9, 10] hC [pq h28]
theorem e64s1 : EN 64 := en Tryz.func64
def lv82s1 : List Nat := [0, 1, 3, 4, 6, 7, 8, 9, 12, 28, 29, 30, 31, 55, 89, 90, 91, 92]
def st82s1_0 (y3 : (List api_Island)) (n0 : Nat) (z0 : Sg11) : St := [(0, dO 0 0), (3, dO 9 0), (4, dS 10), (28, dS 11), (29, dI (ln y3)), (30, dI (cnt 0 n0))]
def R82s1_0 (x1 : api_Table) (y3 : (List api_Island)) (n0 : Nat) (z0 : Sg11) : List Res := [.box 100 [I z0.1, .os 12, .os 13, .os 14, .os 15, .os 16, .os 17, I z0.2.1, DS q147 z0.2.2.1, DS q139 (g3_ z0), DS q65 (g4_ z0), I (g5_ z0), I (g6_ z0), .os 18, .os 19], .non, .non, .non, .non, .non, .non, .non, .non, .box 31 (d31 x1), v5_ (g7_ z0), v8_ y3, v2_ (g8_ z0), v3_ (g9_ z0), v0_ (g10_ z0), v4_ (g11_ z0), v5_ (g12_ z0), v1_ (g13_ z0), v1_ (g14_ z0), v7_ (g15z_ z0)]
def sa82s1_0  (z0 : Sg11) : St := [(0, dO 0 0), (4, dS 9)]
def Ra82s1_0  (z0 : Sg11) : List Res := [.box 100 [I z0.1, .os 10, .os 11, .os 12, .os 13, .os 14, .os 15, I z0.2.1, DS q147 z0.2.2.1, DS q139 (g3_ z0), DS q65 (g4_ z0), I (g5_ z0), I (g6_ z0), .os 16, .os 17], .non, .non, .non, .non, .non, .non, .non, .non, v5_ (g7_ z0), v2_ (g8_ z0), v3_ (g9_ z0), v0_ (g10_ z0), v4_ (g11_ z0), v5_ (g12_ z0), v1_ (g13_ z0), v1_ (g14_ z0), v7_ (g15z_ z0)]
def st82s1_1 (y3 : (List api_Island)) (n0 : Nat) (y12 : api_Roster × (List api_Act) × Int) (n1 : Nat) (z1 : Sg10) : St := [(0, dO 0 0), (3, dO 9 0), (4, dS 10), (28, dS 11), (29, dI (ln y3)), (30, dI (cnt 0 n0)), (89, .d (DS q49 y12.2.1)), (90, dI (ln y12.2.1)), (91, dI (cnt 0 n1))]
def R82s1_1 (x1 : api_Table) (y3 : (List api_Island)) (y16 : List api_Roster) (n1 : Nat) (z1 : Sg10) : List Res := [.box 100 [I z1.1, .os 12, .os 13, .os 14, .os 15, .os 16, .os 17, I z1.2.1, DS q147 z1.2.2.1, DS q139 (g3_ z1), DS q65 (g4_ z1), I (g5_ z1), I (g6_ z1), .os 18, .os 19], .non, .non, .non, .non, .non, .non, .non, .non, .box 31 (d31 x1), v5_ y16, v8_ y3, v2_ (g7_ z1), v3_ (g8_ z1), v0_ (g9_ z1), v4_ (g10_ z1), v5_ (g11_ z1), v1_ (g12_ z1), v1_ (g13_ z1), v7_ (g14z_ z1)]
def sa82s1_1 (y3 : (List api_Island)) (n0 : Nat) (z1 : Sg10) : St := [(0, dO 0 0), (3, dO 9 0), (4, dS 10), (28, dS 11), (29, dI (ln y3)), (30, dI (cnt 0 n0))]
def Ra82s1_1 (x1 : api_Table) (y3 : (List api_Island)) (y16 : List api_Roster) (z1 : Sg10) : List Res := [.box 100 [I z1.1, .os 12, .os 13, .os 14, .os 15, .os 16, .os 17, I z1.2.1, DS q147 z1.2.2.1, DS q139 (g3_ z1), DS q65 (g4_ z1), I (g5_ z1), I (g6_ z1), .os 18, .os 19], .non, .non, .non, .non, .non, .non, .non, .non, .box 31 (d31 x1), v5_ y16, v8_ y3, v2_ (g7_ z1), v3_ (g8_ z1), v0_ (g9_ z1), v4_ (g10_ z1), v5_ (g11_ z1), v1_ (g12_ z1), v1_ (g13_ z1), v7_ (g14z_ z1)]
theorem k82s1 (x0 : plant_runner) (x1 : api_Table) (r : plant_runner) (h : F82s1 x0 x1 = some r) : CO 82 [.d (.o 0 0), .agg (d31 x1)] (.box 100 (I x0.Plant.Time :: .os 1 :: .os 2 :: .os 3 :: .os 4 :: .os 5 :: .os 6 :: zb x0.board [.os 7, .os 8]) :: zp x0.Plant.Power [v5_ x0.Plant.Rosters, v1_ x0.Plant.Events, v1_ x0.events, v7_ x0.states]) (.tup []) (.box 100 (I r.Plant.Time :: .os 9 :: .os 10 :: .os 11 :: .os 12 :: .os 13 :: .os 14 :: zb r.board [.os 15, .os 16]) :: .non :: .non :: .non :: .non :: .non :: .non :: .non :: .non :: zp r.Plant.Power [v5_ r.Plant.Rosters, v1_ r.Plant.Events, v1_ r.events, v7_ r.states]) := by
 unfold F82s1 at h
 refine co 105 Tryz.func82 fun C hC => ?_
 obtain ⟨y1, h2, h⟩ := bE h
 obtain ⟨y3, h4, h⟩ := bE h
 refine ws lv82s1 28 [] [pc e86 (k86 x0.board.Buses _ h2) [], pc e89s0 (k89s0 x0.board x0.Plant.Power _ h4) [1, 2, 3, 4], pl q84 y3] [.mv 1, .mv 2, .mv 3, .mv 4, .mv 5, .mv 6, .mv 7, .mv 8] 9 n20_ (st82s1_0 y3 0 (x0.Plant.Time, zt x0.board (y1, zu x0.Plant.Power (x0.Plant.Rosters, x0.Plant.Events, x0.events, x0.states)))) (R82s1_0 x1 y3 0 (x0.Plant.Time, zt x0.board (y1, zu x0.Plant.Power (x0.Plant.Rosters, x0.Plant.Events, x0.events, x0.states)))) hC [] ?_
 obtain ⟨w0, hm0, hret0, hnext0⟩ := aIn h
 clear h
 refine wc w0 (sa82s1_0) (Ra82s1_0) ?_ fun z0 hs0 => ?_
 ·refine wb ?_
  refine wO 28 11 rfl rfl fun hl0 => ?_
  refine wF (by kernel_rfl) (F82s1_l0 x1) (st82s1_0 y3) (R82s1_0 x1 y3) w0 y3 (x0.Plant.Time, zt x0.board (y1, zu x0.Plant.Power (x0.Plant.Rosters, x0.Plant.Events, x0.events, x0.states))) hm0 rfl rfl (fun z0 hn0 => ?_) fun n0 a0 z0 w0b hi0 hx0 h hb0 hr0 => ?_
  ·clear hm0
   exact wx w0 (sa82s1_0) (Ra82s1_0) lv82s1 26 [false] [] [] 9 [0, 1, 2, 3, 4, 5, 6, 7, 8, 10, 12, 13, 14, 15, 16, 17, 18, 19] (z0.1, z0.2.1, z0.2.2.1, (g3_ z0), (g4_ z0), (g5_ z0), (g6_ z0), (g7_ z0), (g8_ z0), (g9_ z0), (g10_ z0), (g11_ z0), (g12_ z0), (g13_ z0), (g14_ z0), (g15z_ z0)) hC [pq (cE hl0)] hn0
  ·unfold F82s1_l0 at h
   obtain ⟨y5, h6, h⟩ := bE h
   obtain ⟨y7, h8, h⟩ := bE h
   refine ws lv82s1 35 [true] [pr q84 (gC hx0 hl0), pn q84 (gC hx0 hl0), pr pI h6, pl pI a0.Sources, pv e102 (fun hg => k102 (⟨z0.2.1, z0.2.2.1, (g3_ z0), (g4_ z0), (g5_ z0), (g6_ z0)⟩ : api_Board) (⟨(g8_ z0), (g9_ z0), (g10_ z0), (g11_ z0)⟩ : api_Power) y5 _ (gg h8 hg))] [] 9 n20_ [(0, dO 0 0), (3, dO 9 0), (4, dS 10), (7, dI y5), (28, dS 11), (29, dI (ln y3)), (30, dI (cnt 0 n0)), (55, dB (c82s1_2 a0 y7))] [.box 100 [I z0.1, .os 12, .os 13, .os 14, .os 15, .os 16, .os 17, I z0.2.1, DS q147 z0.2.2.1, DS q139 (g3_ z0), DS q65 (g4_ z0), I (g5_ z0), I (g6_ z0), .os 18, .os 19], .non, .non, .non, .non, .non, .non, .non, .non, .box 31 (d31 x1), v5_ (g7_ z0), v8_ y3, v2_ (g8_ z0), v3_ (g9_ z0), v0_ (g10_ z0), v4_ (g11_ z0), v5_ (g12_ z0), v1_ (g13_ z0), v1_ (g14_ z0), v7_ (g15z_ z0)] hC [pq (cL hi0 hl0)] ?_
   rcases bC ((c82s1_2 a0 y7)) with h9 | h9
   ·replace h := cT h9 h
    cases h
   ·replace h := cF h9 h
    obtain ⟨y10, h11, h⟩ := bE h
    obtain ⟨y12, h13, h⟩ := bE h
    obtain ⟨y14, h15, h⟩ := bE h
    obtain ⟨y16, h17, h⟩ := bE h
    refine ws lv82s1 29 [false] [⟨.flts [.box 130 [I 0, I 0]], trivial⟩, pr q130 h11, pn q130 h11, pc e133s0 (k133s0 (⟨z0.2.1, z0.2.2.1, (g3_ z0), (g4_ z0), (g5_ z0), (g6_ z0)⟩ : api_Board) x1 (⟨(g8_ z0), (g9_ z0), (g10_ z0), (g11_ z0)⟩ : api_Power) y5 z0.1 y10 _ h13) [12, 13, 14, 15], ⟨.flt 20 (.box 130 [I 0, I 0]) (.box 130 [I 0, I 0]), rfl⟩, pr q130 h15, pu q130 h15 h17, pl q49 y12.2.1] [] 9 n20_ (st82s1_1 y3 n0 y12 0 (z0.1, z0.2.1, z0.2.2.1, (g3_ z0), (g4_ z0), (g5_ z0), (g6_ z0), (g8_ z0), (g9_ z0), (g10_ z0), (g11_ z0), (g12_ z0), (g13_ z0), (g14_ z0), (g15z_ z0))) (R82s1_1 x1 y3 y16 0 (z0.1, z0.2.1, z0.2.2.1, (g3_ z0), (g4_ z0), (g5_ z0), (g6_ z0), (g8_ z0), (g9_ z0), (g10_ z0), (g11_ z0), (g12_ z0), (g13_ z0), (g14_ z0), (g15z_ z0))) hC [pq h9] ?_
    obtain ⟨w1, hm1, hret1, hnext1⟩ := aIn h
    clear h
    refine wc w1 (sa82s1_1 y3 n0) (Ra82s1_1 x1 y3 y16) ?_ fun z1 hs1 => ?_
    ·refine wb ?_
     refine wL 89 rfl fun hl1 => ?_
     refine wF (by kernel_rfl) F82s1_l1 (st82s1_1 y3 n0 y12) (R82s1_1 x1 y3 y16) w1 y12.2.1 (z0.1, z0.2.1, z0.2.2.1, (g3_ z0), (g4_ z0), (g5_ z0), (g6_ z0), (g8_ z0), (g9_ z0), (g10_ z0), (g11_ z0), (g12_ z0), (g13_ z0), (g14_ z0), (g15z_ z0)) hm1 rfl rfl (fun z1 hn1 => ?_) fun n1 a1 z1 w1b hi1 hx1 h hb1 hr1 => ?_
     ·clear hm1
      exact wx w1 (sa82s1_1 y3 n0) (Ra82s1_1 x1 y3 y16) lv82s1 26 [false] [] [] 9 n20_ (z1.1, z1.2.1, z1.2.2.1, (g3_ z1), (g4_ z1), (g5_ z1), (g6_ z1), (g7_ z1), (g8_ z1), (g9_ z1), (g10_ z1), (g11_ z1), (g12_ z1), (g13_ z1), (g14z_ z1)) hC [pq (cE hl1)] hn1
     ·unfold F82s1_l1 at h
      obtain ⟨y18, h19, h⟩ := bE h
      exact wx w1b (st82s1_1 y3 n0 y12 (n1 + 1)) (R82s1_1 x1 y3 y16 (n1 + 1)) lv82s1 33 [true] [pt hx1 hl1, pc e64s1 (k64s1 (⟨(⟨z1.1, (⟨(g7_ z1), (g8_ z1), (g9_ z1), (g10_ z1)⟩ : api_Power), (g11_ z1), (g12_ z1)⟩ : api_Plant), (⟨z1.2.1, z1.2.2.1, (g3_ z1), (g4_ z1), (g5_ z1), (g6_ z1)⟩ : api_Board), (g13_ z1), (g14z_ z1)⟩ : plant_runner) a1 _ h19) [0, 12, 13, 14, 15, 16, 17, 18, 19]] [] 9 [0, 1, 2, 3, 4, 5, 6, 7, 8, 9, 10, 11, 21, 22, 23, 24, 16, 17, 25, 26] (y18.Plant.Time, zt y18.board (zu y18.Plant.Power (y18.Plant.Rosters, y18.Plant.Events, y18.events, y18.states))) hC [pq (cL hi1 hl1)] (sI h).symm
    ·have h := hnext1 _ hs1
     exact wx w0b (st82s1_0 y3 (n0 + 1)) (R82s1_0 x1 y3 (n0 + 1)) lv82s1 23 [] [] [] 9 n20_ (z1.1, z1.2.1, z1.2.2.1, (g3_ z1), (g4_ z1), (g5_ z1), (g6_ z1), y16, (g7_ z1), (g8_ z1), (g9_ z1), (g10_ z1), (g11_ z1), (g12_ z1), (g13_ z1), (g14z_ z1)) hC [] (sI h).symm
 ·have h := hnext0 _ hs0
  replace h := sI h
  subst h
  exact wf lv82s1 21 [] [] [] [] 9 [0, 1, 2, 3, 4, 5, 6, 7, 8, 10, 11, 12, 13, 9, 15, 16, 17] hC []
theorem e82s1 : EN 82 := en Tryz.func82
def lv34 : List Nat := [0, 1, 2, 3, 4, 5, 6, 8, 9, 10, 11, 13, 14, 19, 23, 27, 38, 39, 40, 41]
def st34_0 (x3 : List api_Act) (n0 : Nat) (z0 : Sg10) : St := [(4, dO 0 0), (5, dO 1 0), (8, .d (.p (.v (.pointer none)))), (9, dI 0), (11, dO 2 0), (38, .d (DS q49 x3)), (39, dI (ln x3)), (40, dI (cnt 0 n0))]
def R34_0 (x0 : api_Board) (x1 : api_Table) (n0 : Nat) (z0 : Sg10) : List Res := [.box 29 (d29 x0), .box 31 (d31 x1), .box 100 [I z0.1, .os 3, .os 4, .os 5, .os 6, .os 7, .os 8, I z0.2.1, DS q147 z0.2.2.1, DS q139 (g3_ z0), DS q65 (g4_ z0), I (g5_ z0), I (g6_ z0), .os 9, .os 10], v2_ (g7_ z0), v3_ (g8_ z0), v0_ (g9_ z0), v4_ (g10_ z0), v5_ (g11_ z0), v1_ (g12_ z0), v1_ (g13_ z0), v7_ (g14z_ z0)]
def sa34_0  (z0 : Sg10) : St := [(4, dO 0 0), (5, dO 1 0), (8, .d (.p (.v (.pointer none)))), (9, dI 0), (11, dO 2 0)]
def Ra34_0 (x0 : api_Board) (x1 : api_Table) (z0 : Sg10) : List Res := [.box 29 (d29 x0), .box 31 (d31 x1), .box 100 [I z0.1, .os 3, .os 4, .os 5, .os 6, .os 7, .os 8, I z0.2.1, DS q147 z0.2.2.1, DS q139 (g3_ z0), DS q65 (g4_ z0), I (g5_ z0), I (g6_ z0), .os 9, .os 10], v2_ (g7_ z0), v3_ (g8_ z0), v0_ (g9_ z0), v4_ (g10_ z0), v5_ (g11_ z0), v1_ (g12_ z0), v1_ (g13_ z0), v7_ (g14z_ z0)]
theorem k34 (x0 : api_Board) (x1 : api_Table) (x2 : api_Plant) (x3 : List api_Act) (r : plant_runner × Int) (h : F34 x0 x1 x2 x3 = some r) : CO 34 [.agg (d29 x0), .agg (d31 x1), .agg (d40 x2), .d (DS q49 x3)] [] (.tup [.d (.o 0 0), .d (I r.2)]) (.box 100 (I r.1.Plant.Time :: .os 1 :: .os 2 :: .os 3 :: .os 4 :: .os 5 :: .os 6 :: zb r.1.board [.os 7, .os 8]) :: zp r.1.Plant.Power [v5_ r.1.Plant.Rosters, v1_ r.1.Plant.Events, v1_ r.1.events, v7_ r.1.states]) := by
 unfold F34 at h
 refine co 109 Tryz.func34 fun C hC => ?_
 obtain ⟨y1, h2, h⟩ := bE h
 refine ws lv34 29 [] [pc e21 (k21 x0 x1 x2 _ h2) []] [] 0 n3_ [(3, .d (DS q49 x3)), (4, dO 0 0), (5, dO 1 0), (6, dO 2 0), (8, .d (.p (.v (.pointer none)))), (9, dI 0), (10, dI y1), (19, dB (y1 != 0))] [.box 29 (d29 x0), .box 31 (d31 x1), .box 40 (d40 x2)] hC [] ?_
 rcases bC ((y1 != 0)) with h3 | h3
 ·replace h := cT h3 h
  cases h
 ·replace h := cF h3 h
  rcases bC (decide ((ln x3) > 200)) with h4 | h4
  ·replace h := cT h4 h
   cases h
  ·replace h := cF h4 h
   rcases bC ((x2.Time == 2147483648)) with h5 | h5
   ·replace h := cT h5 h
    cases h
   ·replace h := cF h5 h
    obtain ⟨y6, h7, h⟩ := bE h
    obtain ⟨y8, h9, h⟩ := bE h
    refine ws lv34 37 [false, false, false] [pl q49 x3, pc e63 (k63 x0 x2 _ h7) [], pc e81s1 (k81s1 y6 x2.Power _ h9) [3, 4, 5, 6, 7, 8, 9, 10, 11], pl q49 x3] [] 0 [0, 1, 3, 4, 5, 6, 7, 8, 9, 10, 12] (st34_0 x3 0 (y8.Plant.Time, zt y8.board (zu y8.Plant.Power (y8.Plant.Rosters, y8.Plant.Events, y8.events, y8.states)))) (R34_0 x0 x1 0 (y8.Plant.Time, zt y8.board (zu y8.Plant.Power (y8.Plant.Rosters, y8.Plant.Events, y8.events, y8.states)))) hC [pq h3, pq h4, pq h5] ?_
    obtain ⟨w0, hm0, hret0, hnext0⟩ := aIn h
    clear h
    refine wc w0 (sa34_0) (Ra34_0 x0 x1) ?_ fun z0 hs0 => ?_
    ·refine wb ?_
     refine wL 38 rfl fun hl0 => ?_
     refine wF (by kernel_rfl) F34_l0 (st34_0 x3) (R34_0 x0 x1) w0 x3 (y8.Plant.Time, zt y8.board (zu y8.Plant.Power (y8.Plant.Rosters, y8.Plant.Events, y8.events, y8.states))) hm0 rfl rfl (fun z0 hn0 => ?_) fun n0 a0 z0 w0b hi0 hx0 h hb0 hr0 => ?_
     ·clear hm0
      exact wx w0 (sa34_0) (Ra34_0 x0 x1) lv34 26 [false] [] [] 0 n11_ (z0.1, z0.2.1, z0.2.2.1, (g3_ z0), (g4_ z0), (g5_ z0), (g6_ z0), (g7_ z0), (g8_ z0), (g9_ z0), (g10_ z0), (g11_ z0), (g12_ z0), (g13_ z0), (g14z_ z0)) hC [pq (cE hl0)] hn0
     ·unfold F34_l0 at h
      obtain ⟨y10, h11, h⟩ := bE h
      exact wx w0b (st34_0 x3 (n0 + 1)) (R34_0 x0 x1 (n0 + 1)) lv34 33 [true] [pt hx0 hl0, pc e64s1 (k64s1 (⟨(⟨z0.1, (⟨(g7_ z0), (g8_ z0), (g9_ z0), (g10_ z0)⟩ : api_Power), (g11_ z0), (g12_ z0)⟩ : api_Plant), (⟨z0.2.1, z0.2.2.1, (g3_ z0), (g4_ z0), (g5_ z0), (g6_ z0)⟩ : api_Board), (g13_ z0), (g14z_ z0)⟩ : plant_runner) a0 _ h11) [2, 3, 4, 5, 6, 7, 8, 9, 10]] [] 0 [0, 1, 2, 12, 13, 14, 15, 7, 8, 16, 17] (y10.Plant.Time, zt y10.board (zu y10.Plant.Power (y10.Plant.Rosters, y10.Plant.Events, y10.events, y10.states))) hC [pq (cL hi0 hl0)] (sI h).symm
    ·have h := hnext0 _ hs0
     obtain ⟨y12, h13, h⟩ := bE h
     obtain ⟨y14, h15, h⟩ := bE h
     obtain ⟨y16, h17, h⟩ := bE h
     obtain ⟨y18, h19, h⟩ := bE h
     refine ws lv34 11 [] [pc e82s1 (k82s1 (⟨(⟨z0.1, (⟨(g7_ z0), (g8_ z0), (g9_ z0), (g10_ z0)⟩ : api_Power), (g11_ z0), (g12_ z0)⟩ : api_Plant), (⟨z0.2.1, z0.2.2.1, (g3_ z0), (g4_ z0), (g5_ z0), (g6_ z0)⟩ : api_Board), (g13_ z0), (g14z_ z0)⟩ : plant_runner) x1 _ h13) [2, 3, 4, 5, 6, 7, 8, 9, 10], ⟨.call 83 [.agg (d29 x0), .agg [.os 0, .os 1, .os 2, .os 3], dI y12.Plant.Time, .agg [I 7, I 0, I 0]] (zp y12.Plant.Power []) (.tup [.agg [.os 4, .os 5, .os 6, .os 7], dI y14.2]) (zp y12.Plant.Power (zp y14.1 [])) [11, 12, 13, 14], ⟨e83, ((k83 x0 y12.Plant.Power y12.Plant.Time (⟨7, 0, 0⟩ : api_Act) _ h15).lend (by kernel_rfl) (by kernel_rfl) (by kernel_rfl) ⟨fS (fun _ => rfl), fS (fun _ => rfl), fS (fun _ => rfl), fS (fun _ => rfl), trivial⟩ (by kernel_rfl) (by kernel_rfl))⟩⟩, pc e81s3 (k81s3 (⟨(⟨y12.Plant.Time, y14.1, y12.Plant.Rosters, y12.Plant.Events⟩ : api_Plant), y12.board, y12.events, y12.states⟩ : plant_runner) y14.1 _ h17) [2, 19, 20, 21, 22, 15, 16, 17, 18], pa q51 5 h19] [.frz 24] 0 [2, 15, 16, 17, 19, 20, 21, 22, 23] [(8, .d (.p (.v (.pointer none)))), (9, dI 0), (11, dO 0 0), (14, .d (DS q51 y18))] (.box 100 (I (w64 (y16.Plant.Time + 1)) :: .os 4 :: .os 5 :: .os 6 :: .os 7 :: .os 1 :: .os 2 :: zb y16.board [.os 3, .os 8]) :: v5_ y16.Plant.Rosters :: .non :: v1_ y16.events :: zp y16.Plant.Power [v7_ y16.states]) hC [] ?_
     obtain ⟨y21, h20, h⟩ := bE h
     obtain ⟨y22, h23, h⟩ := bE h
     replace h := sI h
     subst h
     exact wr lv34 24 [] [pl q51 y18, ⟨.cut (y18.map q51) 5 (max 0 (w64 ((ln y18) - 200))) (ln (y18.map q51)) (y21.map q51), cut_get_len q51 5 (fun _ => rfl) h20⟩, pc e84 (k84 y21 _ h23) []] [] [.tmp 8, .tmp 9] 0 [0, 4, 5, 6, 7, 1, 9, 3, 8] hC []
theorem e34 : EN 34 := en Tryz.func34
theorem k11 (x0 : api_Board) (x1 : api_Table) (x2 : api_Plant) (x3 : List api_Act) (r : api_Plant × (List api_Event) × Int) (h : F11 x0 x1 x2 x3 = some r) : CO 11 [.agg (d29 x0), .agg (d31 x1), .agg (d40 x2), .d (DS q49 x3)] [] (.tup [.agg [I r.1.Time, .os 0, .os 1, .os 2, .os 3, .os 4, .os 5], .d (.os 6), .d (I r.2.2)]) (zp r.1.Power [v5_ r.1.Rosters, v1_ r.1.Events, v1_ r.2.1]) := by
 unfold F11 at h
 refine co 33 Tryz.func11 fun C hC => ?_
 obtain ⟨y1, h2, h⟩ := bE h
 refine ws [0, 1, 2, 3, 4, 5, 6, 8, 9, 10, 11, 12, 22] 28 [] [pc e34 (k34 x0 x1 x2 x3 _ h2) []] [.ownb 3 1 4 1, .ownb 3 2 120 4, .ownb 3 3 3 1, .ownb 3 4 86 2, .ownb 3 5 130 2, .ownb 3 6 51 5] 0 [3, 4, 5, 6, 7, 8, 9, 10, 11, 12, 13, 14, 15, 16, 17, 18] [(8, dO 0 0), (9, .d (DS q51 [])), (10, dI 0), (11, dO 1 0), (12, dI y1.2), (22, dB (y1.2 != 0))] (.box 40 [I 0, .os 10, .os 11, .os 12, .os 13, .os 14, .os 15] :: .box 100 (I y1.1.Plant.Time :: .os 2 :: .os 3 :: .os 4 :: .os 5 :: .os 6 :: .os 7 :: zb y1.1.board [.os 8, .os 9]) :: zp y1.1.Plant.Power (v5_ y1.1.Plant.Rosters :: v1_ y1.1.Plant.Events :: v1_ y1.1.events :: v7_ y1.1.states :: ze [v5_ ([] : List api_Roster), v1_ ([] : List api_Event)])) hC [] ?_
 rcases bC ((y1.2 != 0)) with h3 | h3
 ·replace h := cT h3 h
  cases h
 ·replace h := cF h3 h
  replace h := sI h
  subst h
  exact wr [0, 1, 2, 3, 4, 5, 6, 8, 9, 10, 11, 12, 22] 25 [false] [] [] [.cell 8 40, .tmp 9, .tmp 10] 0 [2, 3, 4, 5, 6, 7, 8] hC [pq h3]
theorem e11 : EN 11 := en Tryz.func11
theorem k13  (r : Bool) (h : F13  = some r) : CO 13 [] [] (.d (Bo r)) [] := by
 unfold F13 at h
 refine co 106 Tryz.func13 fun C hC => ?_
 obtain ⟨y1, h2, h⟩ := bE h
 obtain ⟨y3, h4, h⟩ := bE h
 obtain ⟨y5, h6, h⟩ := bE h
 obtain ⟨y7, h8, h⟩ := bE h
 obtain ⟨y9, h10, h⟩ := bE h
 obtain ⟨y11, h12, h⟩ := bE h
 obtain ⟨y13, h14, h⟩ := bE h
 obtain ⟨y15, h16, h⟩ := bE h
 replace h := sI h
 subst h
 exact wr [0, 1, 2, 3, 4, 6, 7, 8, 9, 10, 11] 35 [] [pc e35 (k35  _ rfl) [], pc e36 (k36 F35.1 F35.2 _ h2) [], ⟨.call 11 [.agg (d29 F35.1), .agg (d31 F35.2), .agg [I y1.1.Time, .os 0, .os 1, .os 2, .os 3, .os 4, .os 5], .d (DS q49 [(⟨3, 0, 0⟩ : api_Act), (⟨3, 1, 0⟩ : api_Act), (⟨1, 0, 0⟩ : api_Act), (⟨1, 1, 0⟩ : api_Act), (⟨1, 2, 0⟩ : api_Act)])] (zp y1.1.Power [v5_ y1.1.Rosters, v1_ y1.1.Events]) (.tup [.agg [I y3.1.Time, .os 6, .os 7, .os 8, .os 9, .os 10, .os 11], dS 12, dI y3.2.2]) (zp y1.1.Power (v5_ y1.1.Rosters :: v1_ y1.1.Events :: zp y3.1.Power [v5_ y3.1.Rosters, v1_ y3.1.Events, v1_ y3.2.1])) [2, 3, 4, 5, 6, 7], ⟨e11, ((k11 F35.1 F35.2 y1.1 [(⟨3, 0, 0⟩ : api_Act), (⟨3, 1, 0⟩ : api_Act), (⟨1, 0, 0⟩ : api_Act), (⟨1, 1, 0⟩ : api_Act), (⟨1, 2, 0⟩ : api_Act)] _ h4).lend (by kernel_rfl) (by kernel_rfl) (by kernel_rfl) ⟨fS (fun _ => rfl), fS (fun _ => rfl), fS (fun _ => rfl), fS (fun _ => rfl), fS (fun _ => rfl), fS (fun _ => rfl), fS (fun _ => rfl), trivial⟩ (by kernel_rfl) (by kernel_rfl))⟩⟩, ⟨.call 11 [.agg (d29 F35.1), .agg (d31 F35.2), .agg [I y3.1.Time, .os 0, .os 1, .os 2, .os 3, .os 4, .os 5], .d (DS q49 [(⟨8, 1, 1⟩ : api_Act)])] (zp y3.1.Power [v5_ y3.1.Rosters, v1_ y3.1.Events]) (.tup [.agg [I y5.1.Time, .os 6, .os 7, .os 8, .os 9, .os 10, .os 11], dS 12, dI y5.2.2]) (zp y3.1.Power (v5_ y3.1.Rosters :: v1_ y3.1.Events :: zp y5.1.Power [v5_ y5.1.Rosters, v1_ y5.1.Events, v1_ y5.2.1])) [9, 10, 11, 12, 13, 14], ⟨e11, ((k11 F35.1 F35.2 y3.1 [(⟨8, 1, 1⟩ : api_Act)] _ h6).lend (by kernel_rfl) (by kernel_rfl) (by kernel_rfl) ⟨fS (fun _ => rfl), fS (fun _ => rfl), fS (fun _ => rfl), fS (fun _ => rfl), fS (fun _ => rfl), fS (fun _ => rfl), fS (fun _ => rfl), trivial⟩ (by kernel_rfl) (by kernel_rfl))⟩⟩, ⟨.call 15 [.agg [I 0, I 1, DS q63 [(⟨2, 0, 1000, 0, 1, ([] : List api_Arc)⟩ : api_Thruster)]], .agg (d29 F35.1), .agg [.os 0, .os 1, .os 2, .os 3]] (zp y5.1.Power []) (.tup [dS 4, dI y7.2]) (zp y5.1.Power [v0_ y7.1]) [16, 17, 18, 19], ⟨e15, ((k15 (⟨0, 1, [(⟨2, 0, 1000, 0, 1, ([] : List api_Arc)⟩ : api_Thruster)]⟩ : api_Ship) F35.1 y5.1.Power _ h8).lend (by kernel_rfl) (by kernel_rfl) (by kernel_rfl) ⟨fS (fun _ => rfl), trivial⟩ (by kernel_rfl) (by kernel_rfl))⟩⟩, pL_ [((((((y1.2 == 0) && (y3.2.2 == 0)) && (y5.2.2 == 0)) && (y7.2 == 0)) && (y5.1.Time == 2)), true)] q51 y5.2.1, pv e37 (fun hg => k37 y5.1.Power.Closed [true, false, true] _ (gg h10 hg)), pv e38 (fun hg => k38 y5.1.Power.Limits [50] _ (gg h12 hg)), pv e38 (fun hg => k38 y7.1 [223] _ (gg h14 hg)), pv e39 (fun hg => k39 F35.1 y5.1.Power _ (gg h16 hg))] [] [.tmp 0] 0 [] hC []
theorem e13 : EN 13 := en Tryz.func13
def lv4 : List Nat := [0, 2, 3, 4, 6, 7, 8, 9, 10, 11, 12, 13, 14, 15, 16, 44, 46, 47, 48, 49, 66, 68, 69, 70, 71, 78, 105, 115]
def st4_0 (y5 : api_Ship × dynposmake_Src) (n0 : Nat) (z0 : Unit) : St := [(2, dB false), (4, dO 9 0), (6, dO 10 0), (8, dS 12), (46, dS 11), (47, dI (ln y5.1.Thrusters)), (48, dI (cnt 0 n0))]
def R4_0 (y3 : Sg12) (y5 : api_Ship × dynposmake_Src) (y7 : (List Int) × Int) (n0 : Nat) (z0 : Unit) : List Res := (zs y3.1 (zp y3.2.2.1.Power [v5_ y3.2.2.1.Rosters, v1_ y3.2.2.1.Events, .box 29 [I y3.1.Buses, .os 0, .os 1, .os 2, I y3.1.Phase, I y3.1.Frequency], .box 40 [I y3.2.2.1.Time, .os 3, .os 4, .os 5, .os 6, .os 7, .os 8], v12_ y5.1.Thrusters, v0_ y7.1]))
def sa4_0  (z0 : Unit) : St := [(2, dB false)]
def Ra4_0  (z0 : Unit) : List Res := []
def st4_1 (y3 : Sg12) (y5 : api_Ship × dynposmake_Src) (n0 : Nat) (n1 : Nat) (z1 : Bool) : St := [(2, dB false), (4, dO 9 0), (6, dO 10 0), (8, dS 12), (10, dI (cnt 0 n0)), (11, dO 13 0), (12, dB z1), (46, dS 11), (47, dI (ln y5.1.Thrusters)), (48, dI (cnt 0 n0)), (68, dS 2), (69, dI (ln y3.1.Consumers)), (70, dI (cnt 0 n1))]
def R4_1 (y3 : Sg12) (y5 : api_Ship × dynposmake_Src) (y7 : (List Int) × Int) (a0 : api_Thruster) (n1 : Nat) (z1 : Bool) : List Res := (zs y3.1 (zp y3.2.2.1.Power [v5_ y3.2.2.1.Rosters, v1_ y3.2.2.1.Events, .box 29 [I y3.1.Buses, .os 0, .os 1, .os 2, I y3.1.Phase, I y3.1.Frequency], .box 40 [I y3.2.2.1.Time, .os 3, .os 4, .os 5, .os 6, .os 7, .os 8], v12_ y5.1.Thrusters, v0_ y7.1, .box 63 (d63 a0)]))
def sa4_1 (y5 : api_Ship × dynposmake_Src) (n0 : Nat) (z1 : Bool) : St := [(2, dB false), (4, dO 9 0), (6, dO 10 0), (8, dS 12), (10, dI (cnt 0 n0)), (12, dB z1), (46, dS 11), (47, dI (ln y5.1.Thrusters)), (48, dI (cnt 0 n0))]
def Ra4_1 (y3 : Sg12) (y5 : api_Ship × dynposmake_Src) (y7 : (List Int) × Int) (z1 : Bool) : List Res := (zs y3.1 (zp y3.2.2.1.Power [v5_ y3.2.2.1.Rosters, v1_ y3.2.2.1.Events, .box 29 [I y3.1.Buses, .os 0, .os 1, .os 2, I y3.1.Phase, I y3.1.Frequency], .box 40 [I y3.2.2.1.Time, .os 3, .os 4, .os 5, .os 6, .os 7, .os 8], v12_ y5.1.Thrusters, v0_ y7.1]))
theorem k4 (x0 : List Int) (r : Bool) (h : F4 x0 = some r) : CO 4 [.d (DS pI x0)] [] (.d (Bo r)) [] := by
 unfold F4 at h
 refine co 118 Tryz.func4 fun C hC => ?_
 obtain ⟨y1, h2, h⟩ := bE h
 obtain ⟨y3, h4, h⟩ := bE h
 obtain ⟨y5, h6, h⟩ := bE h
 obtain ⟨y7, h8, h⟩ := bE h
 refine ws lv4 34 [] [pc e8 (k8 x0 _ h2) [], pc e9 (k9 y1 _ h4) [0], pc e14 (k14 (g3z_ y3) 4 _ h6) [0], ⟨.call 15 [.agg [I y5.1.Bow, I y5.1.Stern, .os 0], .agg [I y3.1.Buses, .os 1, .os 2, .os 3, I y3.1.Phase, I y3.1.Frequency], .agg [.os 4, .os 5, .os 6, .os 7]] (v12_ y5.1.Thrusters :: zs y3.1 (zp y3.2.2.1.Power [])) (.tup [dS 8, dI y7.2]) (v12_ y5.1.Thrusters :: zs y3.1 (zp y3.2.2.1.Power [v0_ y7.1])) [13, 1, 2, 3, 4, 5, 6, 7], ⟨e15, ((k15 y5.1 y3.1 y3.2.2.1.Power _ h8).lend (by kernel_rfl) (by kernel_rfl) (by kernel_rfl) ⟨fS (fun _ => rfl), trivial⟩ (by kernel_rfl) (by kernel_rfl))⟩⟩, pL_ [((y7.2 != 0), false)] pI y7.1, pL_ [((y7.2 != 0), false)] q63 y5.1.Thrusters] [] 0 [1, 2, 3, 4, 5, 6, 7, 8, 9, 10, 12, 13, 14, 15] [(2, dB false), (4, dO 9 0), (6, dO 10 0), (7, dO 12 0), (8, dS 13), (44, dB (c4_0 y5 y7))] (zs y3.1 (zp y3.2.2.1.Power [v5_ y3.2.2.1.Rosters, v1_ y3.2.2.1.Events, .box 29 [I y3.1.Buses, .os 0, .os 1, .os 2, I y3.1.Phase, I y3.1.Frequency], .box 40 [I y3.2.2.1.Time, .os 3, .os 4, .os 5, .os 6, .os 7, .os 8], v12_ y5.1.Thrusters, .box 57 [I y5.1.Bow, I y5.1.Stern, .os 11], v0_ y7.1])) hC [] ?_
 rcases bC ((c4_0 y5 y7)) with h9 | h9
 ·replace h := cT h9 h
  replace h := sI h
  subst h
  exact wr lv4 24 [true] [] [] [.tmp 2] 0 [] hC [pq h9]
 ·replace h := cF h9 h
  refine ws lv4 26 [false] [pl q63 y5.1.Thrusters] [] 0 [0, 1, 2, 3, 4, 5, 6, 7, 8, 9, 10, 11, 13] (st4_0 y5 0 ()) (R4_0 y3 y5 y7 0 ()) hC [pq h9] ?_
  obtain ⟨w0, hm0, hret0, hnext0⟩ := aIn h
  clear h
  refine wc w0 (sa4_0) (Ra4_0) ?_ fun z0 hs0 => ?_
  ·refine wb ?_
   refine wO 46 11 rfl rfl fun hl0 => ?_
   refine wF (by kernel_rfl) (F4_l0 y3 y7) (st4_0 y5) (R4_0 y3 y5 y7) w0 y5.1.Thrusters () hm0 rfl rfl (fun z0 hn0 => ?_) fun n0 a0 z0 w0b hi0 hx0 h hb0 hr0 => ?_
   ·clear hm0
    exact wx w0 (sa4_0) (Ra4_0) lv4 26 [false] [] [] 0 [] () hC [pq (cE hl0)] hn0
   ·unfold F4_l0 at h
    obtain ⟨y10, h11, h⟩ := bE h
    refine ws lv4 33 [true] [pr q63 (gC hx0 hl0), pn q63 (gC hx0 hl0), pr pI h11, pn pI h11, ⟨.when [(decide (y10 < 0), false)] (.row (y7.1.map pI) (cnt 0 n0) (pI y10)), fun hg => rg h11⟩, ⟨.when [(decide (y10 < 0), false)] (.row (y7.1.map pI) (((Int.toNat (cnt 0 n0)) : Nat) : Int) (pI y10)), fun hg => rN h11⟩] [] 0 n14_ [(2, dB false), (4, dO 9 0), (6, dO 10 0), (8, dS 12), (10, dI (cnt 0 n0)), (11, dO 13 0), (46, dS 11), (47, dI (ln y5.1.Thrusters)), (48, dI (cnt 0 n0)), (66, dB (c4_2 a0 y10))] (zs y3.1 (zp y3.2.2.1.Power [v5_ y3.2.2.1.Rosters, v1_ y3.2.2.1.Events, .box 29 [I y3.1.Buses, .os 0, .os 1, .os 2, I y3.1.Phase, I y3.1.Frequency], .box 40 [I y3.2.2.1.Time, .os 3, .os 4, .os 5, .os 6, .os 7, .os 8], v12_ y5.1.Thrusters, v0_ y7.1, .box 63 (d63 a0)])) hC [pq (cL hi0 hl0)] ?_
    rcases bC ((c4_2 a0 y10)) with h12 | h12
    ·replace h := cT h12 h
     have hq := hret0 _ (hr0 _ (sI h).symm)
     replace hq := sI hq
     subst hq
     exact wr lv4 24 [true] [] [] [.tmp 2] 0 [] hC [pq h12]
    ·replace h := cF h12 h
     refine ws lv4 28 [false] [pl q65 y3.1.Consumers] [] 0 n14_ (st4_1 y3 y5 n0 0 false) (R4_1 y3 y5 y7 a0 0 false) hC [pq h12] ?_
     obtain ⟨w1, hm1, hret1, hnext1⟩ := aIn h
     clear h
     refine wc w1 (sa4_1 y5 n0) (Ra4_1 y3 y5 y7) ?_ fun z1 hs1 => ?_
     ·refine wb ?_
      refine wO 68 2 rfl rfl fun hl1 => ?_
      refine wF (by kernel_rfl) (F4_l1 y3 n0 a0 y10) (st4_1 y3 y5 n0) (R4_1 y3 y5 y7 a0) w1 y3.1.Consumers false hm1 rfl rfl (fun z1 hn1 => ?_) fun n1 a1 z1 w1b hi1 hx1 h hb1 hr1 => ?_
      ·clear hm1
       exact wx w1 (sa4_1 y5 n0) (Ra4_1 y3 y5 y7) lv4 26 [false] [] [] 0 n13_ z1 hC [pq (cE hl1)] hn1
      ·unfold F4_l1 at h
       rcases bC ((a1.Thruster != (cnt 0 n0))) with h13 | h13
       ·replace h := cT h13 h
        exact wx w1b (st4_1 y3 y5 n0 (n1 + 1)) (R4_1 y3 y5 y7 a0 (n1 + 1)) lv4 36 [true, true] [pr q65 (gC hx1 hl1), pn q65 (gC hx1 hl1)] [] 0 n14_ z1 hC [pq (cL hi1 hl1), pq h13] (sI h).symm
       ·replace h := cF h13 h
        obtain ⟨y14, h15, h⟩ := bE h
        obtain ⟨y16, h17, h⟩ := bE h
        obtain ⟨y18, h19, h⟩ := bE h
        refine ws lv4 42 [true, false] [pr q65 (gC hx1 hl1), pn q65 (gC hx1 hl1), pb e16 (k16 y3.1 y3.2.2.1.Power (cnt 0 n1) _ h15), pr pI h11, pn pI h11, pc e17 (k17 a0 (⟨y10, 0⟩ : api_Thrust) _ h17) [], pR pI h19, pN pI h19] [] 0 n14_ [(2, dB false), (4, dO 9 0), (6, dO 10 0), (8, dS 12), (10, dI (cnt 0 n0)), (11, dO 13 0), (12, dB y14), (46, dS 11), (47, dI (ln y5.1.Thrusters)), (48, dI (cnt 0 n0)), (68, dS 2), (69, dI (ln y3.1.Consumers)), (70, dI (cnt 0 n1)), (105, dB ((y16.2 != 0) || (decide (y16.1 > y18))))] (zs y3.1 (zp y3.2.2.1.Power [v5_ y3.2.2.1.Rosters, v1_ y3.2.2.1.Events, .box 29 [I y3.1.Buses, .os 0, .os 1, .os 2, I y3.1.Phase, I y3.1.Frequency], .box 40 [I y3.2.2.1.Time, .os 3, .os 4, .os 5, .os 6, .os 7, .os 8], v12_ y5.1.Thrusters, v0_ y7.1, .box 63 (d63 a0)])) hC [pq (cL hi1 hl1), pq h13] ?_
        rcases bC (((y16.2 != 0) || (decide (y16.1 > y18)))) with h20 | h20
        ·replace h := cT h20 h
         have hq := hret1 _ (hr1 _ (sI h).symm)
         replace hq := hret0 _ (hr0 _ (sI hq).symm)
         replace hq := sI hq
         subst hq
         exact wr lv4 24 [true] [] [] [.tmp 2] 0 [] hC [pq h20]
        ·replace h := cF h20 h
         exact wx w1 (sa4_1 y5 n0) (Ra4_1 y3 y5 y7) lv4 24 [false] [] [] 0 n13_ y14 hC [pq h20] (hb1 _ (sI h).symm)
     ·have h := hnext1 _ hs1
      rcases bC (((!z1) && (y10 != 0))) with h21 | h21
      ·replace h := cT h21 h
       have hq := hret0 _ (hr0 _ (sI h).symm)
       replace hq := sI hq
       subst hq
       exact wr lv4 26 [true] [⟨.when [(!z1, true)] (.row (y7.1.map pI) (cnt 0 n0) (pI y10)), fun hg => rg h11⟩, ⟨.when [(!z1, true)] (.row (y7.1.map pI) (((Int.toNat (cnt 0 n0)) : Nat) : Int) (pI y10)), fun hg => rN h11⟩] [] [.tmp 2] 0 [] hC [pq h21]
      ·replace h := cF h21 h
       exact wx w0b (st4_0 y5 (n0 + 1)) (R4_0 y3 y5 y7 (n0 + 1)) lv4 27 [false] [⟨.when [(!z1, true)] (.row (y7.1.map pI) (cnt 0 n0) (pI y10)), fun hg => rg h11⟩, ⟨.when [(!z1, true)] (.row (y7.1.map pI) (((Int.toNat (cnt 0 n0)) : Nat) : Int) (pI y10)), fun hg => rN h11⟩] [] 0 n13_ () hC [pq h21] (sI h).symm
  ·have h := hnext0 _ hs0
   obtain ⟨y22, h23, h⟩ := bE h
   replace h := sI h
   subst h
   exact wr lv4 23 [] [pc e13 (k13  _ h23) []] [] [.tmp 2] 0 [] hC []
end Go.Proofs.YthgnbpdjncbkfaaGreat
