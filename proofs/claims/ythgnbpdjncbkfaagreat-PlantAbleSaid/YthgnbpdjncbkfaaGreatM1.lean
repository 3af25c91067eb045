import Derived.Test.YthgnbpdjncbkfaaGreatM0
set_option linter.unusedVariables false
namespace Go.Proofs.YthgnbpdjncbkfaaGreat
open Go.SL
def lv132s1 : List Nat := [0, 1, 3, 4, 5, 6, 7, 8, 9, 11, 12, 13, 16, 17, 18, 30, 31, 32, 35, 36, 37, 38, 57, 67, 68, 69, 89, 90, 91, 92, 114, 119, 126]
def st132s1_0 (x1 : api_Board) (z0 : Int × (List Int) × Int × (List Bool)) : St := [(0, dO 0 0), (3, dO 4 0), (4, dO 5 0), (5, dO 6 0), (16, dI (ln x1.Breakers)), (17, dI z0.1)]
def R132s1_0 (x1 : api_Board) (z0 : Int × (List Int) × Int × (List Bool)) : List Res := (.box 90 [DS pI z0.2.1, I z0.2.2.1] :: zs x1 (.box 29 [I x1.Buses, .os 1, .os 2, .os 3, I x1.Phase, I x1.Frequency] :: .box 36 [.os 7, .os 8, .os 9, .os 10] :: .box 36 [.os 11, .os 12, .os 13, .os 14] :: ze [v3_ (g3z_ z0), v5_ ([] : List api_Running), v0_ ([] : List Int), v4_ ([] : List api_Part)]))
def sa132s1_0  (z0 : Int × (List Int) × Int × (List Bool)) : St := [(0, dO 0 0), (3, dO 4 0), (4, dO 5 0), (5, dO 6 0)]
def Ra132s1_0 (x1 : api_Board) (z0 : Int × (List Int) × Int × (List Bool)) : List Res := (.box 90 [DS pI z0.2.1, I z0.2.2.1] :: zs x1 (.box 29 [I x1.Buses, .os 1, .os 2, .os 3, I x1.Phase, I x1.Frequency] :: .box 36 [.os 7, .os 8, .os 9, .os 10] :: .box 36 [.os 11, .os 12, .os 13, .os 14] :: ze [v3_ (g3z_ z0), v5_ ([] : List api_Running), v0_ ([] : List Int), v4_ ([] : List api_Part)]))
def st132s1_1 (x1 : api_Board) (z1 : Int × (List Bool)) : St := [(0, dO 0 0), (3, dO 4 0), (4, dO 5 0), (5, dO 6 0), (30, dI (ln x1.Consumers)), (31, dI z1.1)]
def R132s1_1 (x1 : api_Board) (z0 : Int × (List Int) × Int × (List Bool)) (z1 : Int × (List Bool)) : List Res := (.box 90 [DS pI z0.2.1, I z0.2.2.1] :: zs x1 (.box 29 [I x1.Buses, .os 1, .os 2, .os 3, I x1.Phase, I x1.Frequency] :: .box 36 [.os 7, .os 8, .os 9, .os 10] :: .box 36 [.os 11, .os 12, .os 13, .os 14] :: ze [v3_ z1.2, v5_ ([] : List api_Running), v0_ ([] : List Int), v4_ ([] : List api_Part)]))
def sa132s1_1  (z1 : Int × (List Bool)) : St := [(0, dO 0 0), (3, dO 4 0), (4, dO 5 0), (5, dO 6 0)]
def Ra132s1_1 (x1 : api_Board) (z0 : Int × (List Int) × Int × (List Bool)) (z1 : Int × (List Bool)) : List Res := (.box 90 [DS pI z0.2.1, I z0.2.2.1] :: zs x1 (.box 29 [I x1.Buses, .os 1, .os 2, .os 3, I x1.Phase, I x1.Frequency] :: .box 36 [.os 7, .os 8, .os 9, .os 10] :: .box 36 [.os 11, .os 12, .os 13, .os 14] :: ze [v3_ z1.2, v5_ ([] : List api_Running), v0_ ([] : List Int), v4_ ([] : List api_Part)]))
def st132s1_2 (x1 : api_Board) (z1 : Int × (List Bool)) (n2 : Nat) (z2 : Bool × (List Bool)) : St := [(0, dO 0 0), (3, dO 4 0), (4, dO 5 0), (5, dO 6 0), (6, dI z1.1), (7, dB z2.1), (30, dI (ln x1.Consumers)), (31, dI z1.1), (35, dS 1), (36, dI (ln x1.Breakers)), (37, dI (cnt 0 n2))]
def R132s1_2 (x1 : api_Board) (z0 : Int × (List Int) × Int × (List Bool)) (n2 : Nat) (z2 : Bool × (List Bool)) : List Res := (.box 90 [DS pI z0.2.1, I z0.2.2.1] :: zs x1 (.box 29 [I x1.Buses, .os 1, .os 2, .os 3, I x1.Phase, I x1.Frequency] :: .box 36 [.os 7, .os 8, .os 9, .os 10] :: .box 36 [.os 11, .os 12, .os 13, .os 14] :: ze [v3_ z2.2, v5_ ([] : List api_Running), v0_ ([] : List Int), v4_ ([] : List api_Part)]))
def sa132s1_2 (x1 : api_Board) (z1 : Int × (List Bool)) (z2 : Bool × (List Bool)) : St := [(0, dO 0 0), (3, dO 4 0), (4, dO 5 0), (5, dO 6 0), (30, dI (ln x1.Consumers)), (31, dI z1.1)]
def Ra132s1_2 (x1 : api_Board) (z0 : Int × (List Int) × Int × (List Bool)) (z2 : Bool × (List Bool)) : List Res := (.box 90 [DS pI z0.2.1, I z0.2.2.1] :: zs x1 (.box 29 [I x1.Buses, .os 1, .os 2, .os 3, I x1.Phase, I x1.Frequency] :: .box 36 [.os 7, .os 8, .os 9, .os 10] :: .box 36 [.os 11, .os 12, .os 13, .os 14] :: ze [v3_ z2.2, v5_ ([] : List api_Running), v0_ ([] : List Int), v4_ ([] : List api_Part)]))
def st132s1_3 (x1 : api_Board) (z3 : Sg5) : St := [(0, dO 0 0), (3, dO 4 0), (4, dO 5 0), (5, dO 6 0), (67, dI (ln x1.Sources)), (68, dI z3.1)]
def R132s1_3 (x1 : api_Board) (z1 : Int × (List Bool)) (z3 : Sg5) : List Res := (.box 90 [DS pI z3.2.1, I z3.2.2.1] :: zs x1 (.box 29 [I x1.Buses, .os 1, .os 2, .os 3, I x1.Phase, I x1.Frequency] :: .box 36 [.os 7, .os 8, .os 9, .os 10] :: .box 36 [.os 11, .os 12, .os 13, .os 14] :: ze [v3_ z1.2, v5_ (g3z_ z3), v0_ ([] : List Int), v4_ ([] : List api_Part)]))
def sa132s1_3  (z3 : Sg5) : St := [(0, dO 0 0), (3, dO 4 0), (4, dO 5 0), (5, dO 6 0)]
def Ra132s1_3 (x1 : api_Board) (z1 : Int × (List Bool)) (z3 : Sg5) : List Res := (.box 90 [DS pI z3.2.1, I z3.2.2.1] :: zs x1 (.box 29 [I x1.Buses, .os 1, .os 2, .os 3, I x1.Phase, I x1.Frequency] :: .box 36 [.os 7, .os 8, .os 9, .os 10] :: .box 36 [.os 11, .os 12, .os 13, .os 14] :: ze [v3_ z1.2, v5_ (g3z_ z3), v0_ ([] : List Int), v4_ ([] : List api_Part)]))
def st132s1_4 (x1 : api_Board) (n4 : Nat) (z4 : (List Int) × Int × (List Int)) : St := [(0, dO 0 0), (3, dO 4 0), (4, dO 5 0), (5, dO 6 0), (89, dS 3), (90, dI (ln x1.Consumers)), (91, dI (cnt 0 n4))]
def R132s1_4 (x1 : api_Board) (z1 : Int × (List Bool)) (z3 : Sg5) (n4 : Nat) (z4 : (List Int) × Int × (List Int)) : List Res := (.box 90 [DS pI z4.1, I z4.2.1] :: zs x1 (.box 29 [I x1.Buses, .os 1, .os 2, .os 3, I x1.Phase, I x1.Frequency] :: .box 36 [.os 7, .os 8, .os 9, .os 10] :: .box 36 [.os 11, .os 12, .os 13, .os 14] :: ze [v3_ z1.2, v5_ (g3z_ z3), v0_ z4.2.2, v4_ ([] : List api_Part)]))
def sa132s1_4  (z4 : (List Int) × Int × (List Int)) : St := [(0, dO 0 0), (3, dO 4 0), (4, dO 5 0), (5, dO 6 0)]
def Ra132s1_4 (x1 : api_Board) (z1 : Int × (List Bool)) (z3 : Sg5) (z4 : (List Int) × Int × (List Int)) : List Res := (.box 90 [DS pI z4.1, I z4.2.1] :: zs x1 (.box 29 [I x1.Buses, .os 1, .os 2, .os 3, I x1.Phase, I x1.Frequency] :: .box 36 [.os 7, .os 8, .os 9, .os 10] :: .box 36 [.os 11, .os 12, .os 13, .os 14] :: ze [v3_ z1.2, v5_ (g3z_ z3), v0_ z4.2.2, v4_ ([] : List api_Part)]))
def st132s1_5  (z5 : Int × (List Int) × Int × (List api_Part)) : St := [(0, dO 0 0), (3, dO 4 0), (4, dO 5 0), (5, dO 6 0), (12, dI z5.1)]
def R132s1_5 (x1 : api_Board) (z1 : Int × (List Bool)) (z3 : Sg5) (z4 : (List Int) × Int × (List Int)) (z5 : Int × (List Int) × Int × (List api_Part)) : List Res := (.box 90 [DS pI z5.2.1, I z5.2.2.1] :: zs x1 (.box 29 [I x1.Buses, .os 1, .os 2, .os 3, I x1.Phase, I x1.Frequency] :: .box 36 [.os 7, .os 8, .os 9, .os 10] :: .box 36 [.os 11, .os 12, .os 13, .os 14] :: ze [v3_ z1.2, v5_ (g3z_ z3), v0_ z4.2.2, v4_ (g3z_ z5)]))
def sa132s1_5  (z5 : Int × (List Int) × Int × (List api_Part)) : St := [(4, dO 4 0), (5, dO 5 0)]
def Ra132s1_5 (x1 : api_Board) (z1 : Int × (List Bool)) (z3 : Sg5) (z4 : (List Int) × Int × (List Int)) (z5 : Int × (List Int) × Int × (List api_Part)) : List Res := (.box 90 [DS pI z5.2.1, I z5.2.2.1] :: zs x1 (.box 36 [.os 6, .os 7, .os 8, .os 9] :: .box 36 [.os 10, .os 11, .os 12, .os 13] :: ze [v3_ z1.2, v5_ (g3z_ z3), v0_ z4.2.2, v4_ (g3z_ z5)]))
set_option maxHeartbeats 4000000 in
theorem k132s1 (x0 : dynposmake_Src) (x1 : api_Board) (r : api_Power × dynposmake_Src) (h : F132s1 x0 x1 = some r) : CO 132 [.d (.o 0 0), .agg [I x1.Buses, .os 1, .os 2, .os 3, I x1.Phase, I x1.Frequency]] (.box 90 (d90 x0) :: zs x1 []) (.agg [.os 4, .os 5, .os 6, .os 7]) (.box 90 (d90 r.2) :: zs x1 (zp r.1 [])) := by
 unfold F132s1 at h
 refine co 134 Tryz.func132 fun C hC => ?_
 refine ws [] lv132s1 28 [] [.len (ln (x1.Breakers.map q147)) (ln x1.Breakers)] [.ownb 5 0 4 1, .ownb 5 1 120 4, .ownb 5 2 3 1, .ownb 5 3 86 2, .ownb 6 0 4 1, .ownb 6 1 120 4, .ownb 6 2 3 1, .ownb 6 3 86 2] 4 n15_ (st132s1_0 x1 (0, x0.L, x0.At, ([] : List Bool))) (R132s1_0 x1 (0, x0.L, x0.At, ([] : List Bool))) hC ⟨lM _ _, trivial⟩ trivial ?_
 obtain ⟨w0, hm0, hret0, hnext0⟩ := aIn h
 clear h
 refine wc w0 (sa132s1_0) (Ra132s1_0 x1) ?_ fun z0 hs0 => ?_
 ·refine wb ?_
  refine wW (by kernel_rfl) (F132s1_l0 x1) (st132s1_0 x1) (R132s1_0 x1) w0 1152921504606846976 (0, x0.L, x0.At, ([] : List Bool)) hm0 rfl rfl fun z0 w0b h hb0 hr0 => ?_
  unfold F132s1_l0 at h
  rcases bC ((c132s1_1 x1 z0)) with h1 | h1
  ·replace h := cT h1 h
   obtain ⟨y2, h3, h⟩ := bE h
   obtain ⟨y4, h5, h⟩ := bE h
   exact wx [((c132s1_1 x1 z0), true)] w0b (st132s1_0 x1) (R132s1_0 x1) lv132s1 31 [true] [.call 32 [dO 0 0, dI 2] [.box 90 [DS pI z0.2.1, I z0.2.2.1]] (dI y2.1) [.box 90 (d90 y2.2)] [0], .app (z0.2.2.2.map pB) ([(y2.1 == 1)].map pB) 1 (((z0.2.2.2.map pB).length + ([(y2.1 == 1)].map pB).length) * (1 + 1)) (y4.map pB)] [] 4 [0, 1, 2, 3, 4, 5, 6, 7, 8, 9, 10, 15, 12, 13, 14] (w64 (z0.1 + 1), y2.2.L, y2.2.At, y4) hC ⟨⟨e32, (k32 (⟨z0.2.1, z0.2.2.1⟩ : dynposmake_Src) 2 _ h3)⟩, aG pB 1 (fun _ => rfl) h5, trivial⟩ ⟨h1, trivial⟩ (sI h).symm
  ·replace h := cF h1 h
   exact wx [((c132s1_1 x1 z0), false)] w0 (sa132s1_0) (Ra132s1_0 x1) lv132s1 26 [false] [] [] 4 n15_ (z0.1, z0.2.1, z0.2.2.1, (g3z_ z0)) hC trivial ⟨h1, trivial⟩ (hb0 _ (sI h).symm)
 ·have h := hnext0 _ hs0
  refine ws [] lv132s1 24 [] [.len (ln (x1.Consumers.map q65)) (ln x1.Consumers)] [] 4 n15_ (st132s1_1 x1 (0, (g3z_ z0))) (R132s1_1 x1 z0 (0, (g3z_ z0))) hC ⟨lM _ _, trivial⟩ trivial ?_
  obtain ⟨w1, hm1, hret1, hnext1⟩ := aIn h
  clear h
  refine wc w1 (sa132s1_1) (Ra132s1_1 x1 z0) ?_ fun z1 hs1 => ?_
  ·refine wb ?_
   refine wW (by kernel_rfl) (F132s1_l1 x1) (st132s1_1 x1) (R132s1_1 x1 z0) w1 1152921504606846976 (0, (g3z_ z0)) hm1 rfl rfl fun z1 w1b h hb1 hr1 => ?_
   unfold F132s1_l1 at h
   rcases bC ((c132s1_9 x1 z1)) with h6 | h6
   ·replace h := cT h6 h
    refine ws [((c132s1_9 x1 z1), true)] lv132s1 34 [true] [.len (ln (x1.Breakers.map q147)) (ln x1.Breakers)] [] 4 n15_ (st132s1_2 x1 z1 0 (true, z1.2)) (R132s1_2 x1 z0 0 (true, z1.2)) hC ⟨lM _ _, trivial⟩ ⟨h6, trivial⟩ ?_
    obtain ⟨w2, hm2, hret2, hnext2⟩ := aIn h
    clear h
    refine wc w2 (sa132s1_2 x1 z1) (Ra132s1_2 x1 z0) ?_ fun z2 hs2 => ?_
    ·refine wb ?_
     refine wO 35 1 rfl rfl fun hl2 => ?_
     refine wF (by kernel_rfl) (F132s1_l2 z1) (st132s1_2 x1 z1) (R132s1_2 x1 z0) w2 x1.Breakers (true, z1.2) hm2 rfl rfl (fun z2 hn2 => ?_) fun n2 a2 z2 w2b hi2 hx2 h hb2 hr2 => ?_
     ·clear hm2
      exact wx [(decide ((cnt 0 x1.Breakers.length) < (ln x1.Breakers)), false)] w2 (sa132s1_2 x1 z1) (Ra132s1_2 x1 z0) lv132s1 26 [false] [] [] 4 n15_ (z2.1, z2.2) hC trivial ⟨(cE hl2), trivial⟩ hn2
     ·unfold F132s1_l2 at h
      obtain ⟨y7, h8, h⟩ := bE h
      refine ws [(decide ((cnt 0 n2) < (ln x1.Breakers)), true)] lv132s1 32 [true] [.row (x1.Breakers.map q147) (cnt 0 n2) (q147 a2), .row (x1.Breakers.map q147) (((Int.toNat (cnt 0 n2)) : Nat) : Int) (q147 a2), .when [(((a2.Kind == 3) && (a2.B == z1.1)), true)] (.row (z2.2.map pB) (cnt 0 n2) (pB y7)), .when [(((a2.Kind == 3) && (a2.B == z1.1)), true)] (.row (z2.2.map pB) (((Int.toNat (cnt 0 n2)) : Nat) : Int) (pB y7))] [] 4 n15_ [(0, dO 0 0), (3, dO 4 0), (4, dO 5 0), (5, dO 6 0), (6, dI z1.1), (7, dB z2.1), (8, dI (cnt 0 n2)), (30, dI (ln x1.Consumers)), (31, dI z1.1), (35, dS 1), (36, dI (ln x1.Breakers)), (37, dI (cnt 0 n2)), (57, dB (c132s1_12 z1 a2 y7))] (.box 90 [DS pI z0.2.1, I z0.2.2.1] :: zs x1 (.box 29 [I x1.Buses, .os 1, .os 2, .os 3, I x1.Phase, I x1.Frequency] :: .box 36 [.os 7, .os 8, .os 9, .os 10] :: .box 36 [.os 11, .os 12, .os 13, .os 14] :: ze [v3_ z2.2, v5_ ([] : List api_Running), v0_ ([] : List Int), v4_ ([] : List api_Part)])) hC ⟨rg (gC hx2 hl2), rN (gC hx2 hl2), fun hg => rg (gg h8 hg), fun hg => rN (gg h8 hg), trivial⟩ ⟨(cL hi2 hl2), trivial⟩ ?_
      rcases bC ((c132s1_12 z1 a2 y7)) with h9 | h9
      ·replace h := cT h9 h
       obtain ⟨y10, h11, h⟩ := bE h
       obtain ⟨y12, h13, h⟩ := bE h
       exact wx [((c132s1_12 z1 a2 y7), true)] w2b (st132s1_2 x1 z1 (n2 + 1)) (R132s1_2 x1 z0 (n2 + 1)) lv132s1 27 [true] [.row (z2.2.map pB) (cnt 0 n2) (pB y10), .upd (z2.2.map pB) (Int.toNat (cnt 0 n2)) (pB y10) (pB z2.1) (y12.map pB)] [] 4 n15_ (false, y12) hC ⟨rg h11, uG h11 h13, trivial⟩ ⟨h9, trivial⟩ (sI h).symm
      ·replace h := cF h9 h
       exact wx [((c132s1_12 z1 a2 y7), false)] w2b (st132s1_2 x1 z1 (n2 + 1)) (R132s1_2 x1 z0 (n2 + 1)) lv132s1 25 [false] [] [] 4 n15_ (z2.1, z2.2) hC trivial ⟨h9, trivial⟩ (sI h).symm
    ·have h := hnext2 _ hs2
     exact wx [] w1b (st132s1_1 x1) (R132s1_1 x1 z0) lv132s1 23 [] [] [] 4 n15_ (w64 (z1.1 + 1), z2.2) hC trivial trivial (sI h).symm
   ·replace h := cF h6 h
    exact wx [((c132s1_9 x1 z1), false)] w1 (sa132s1_1) (Ra132s1_1 x1 z0) lv132s1 26 [false] [] [] 4 n15_ (z1.1, z1.2) hC trivial ⟨h6, trivial⟩ (hb1 _ (sI h).symm)
  ·have h := hnext1 _ hs1
   refine ws [] lv132s1 24 [] [.len (ln (x1.Sources.map q139)) (ln x1.Sources)] [] 4 n15_ (st132s1_3 x1 (0, z0.2.1, z0.2.2.1, ([] : List api_Running))) (R132s1_3 x1 z1 (0, z0.2.1, z0.2.2.1, ([] : List api_Running))) hC ⟨lM _ _, trivial⟩ trivial ?_
   obtain ⟨w3, hm3, hret3, hnext3⟩ := aIn h
   clear h
   refine wc w3 (sa132s1_3) (Ra132s1_3 x1 z1) ?_ fun z3 hs3 => ?_
   ·refine wb ?_
    refine wW (by kernel_rfl) (F132s1_l3 x1) (st132s1_3 x1) (R132s1_3 x1 z1) w3 1152921504606846976 (0, z0.2.1, z0.2.2.1, ([] : List api_Running)) hm3 rfl rfl fun z3 w3b h hb3 hr3 => ?_
    unfold F132s1_l3 at h
    rcases bC ((c132s1_14 x1 z3)) with h14 | h14
    ·replace h := cT h14 h
     obtain ⟨y15, h16, h⟩ := bE h
     obtain ⟨y17, h18, h⟩ := bE h
     obtain ⟨y19, h20, h⟩ := bE h
     obtain ⟨y21, h22, h⟩ := bE h
     obtain ⟨y23, h24, h⟩ := bE h
     exact wx [((c132s1_14 x1 z3), true)] w3b (st132s1_3 x1) (R132s1_3 x1 z1) lv132s1 31 [true] [.call 40 [dO 0 0, .d (DS pI [0, 1, 2, 2, 2, 3])] [.box 90 [DS pI z3.2.1, I z3.2.2.1]] (dI y15.1) [.box 90 (d90 y15.2)] [0], .call 32 [dO 0 0, dI 5] [.box 90 (d90 y15.2)] (dI y17.1) [.box 90 (d90 y17.2)] [0], .call 40 [dO 0 0, .d (DS pI [5000, 5000, 5005, 4950])] [.box 90 (d90 y17.2)] (dI y19.1) [.box 90 (d90 y19.2)] [0], .call 40 [dO 0 0, .d (DS pI [0, 0, 40, 1800, 3590])] [.box 90 (d90 y19.2)] (dI y21.1) [.box 90 (d90 y21.2)] [0], .app (z3.2.2.2.map q120) ([(⟨y15.1, y17.1, y19.1, y21.1⟩ : api_Running)].map q120) 4 (((z3.2.2.2.map q120).length + ([(⟨y15.1, y17.1, y19.1, y21.1⟩ : api_Running)].map q120).length) * (32 + 1)) (y23.map q120)] [] 4 [0, 1, 2, 3, 4, 5, 6, 7, 8, 9, 10, 11, 15, 13, 14] (w64 (z3.1 + 1), y21.2.L, y21.2.At, y23) hC ⟨⟨e40, (k40 (⟨z3.2.1, z3.2.2.1⟩ : dynposmake_Src) [0, 1, 2, 2, 2, 3] _ h16)⟩, ⟨e32, (k32 y15.2 5 _ h18)⟩, ⟨e40, (k40 y17.2 [5000, 5000, 5005, 4950] _ h20)⟩, ⟨e40, (k40 y19.2 [0, 0, 40, 1800, 3590] _ h22)⟩, aG q120 4 (fun _ => rfl) h24, trivial⟩ ⟨h14, trivial⟩ (sI h).symm
    ·replace h := cF h14 h
     exact wx [((c132s1_14 x1 z3), false)] w3 (sa132s1_3) (Ra132s1_3 x1 z1) lv132s1 26 [false] [] [] 4 n15_ (z3.1, z3.2.1, z3.2.2.1, (g3z_ z3)) hC trivial ⟨h14, trivial⟩ (hb3 _ (sI h).symm)
   ·have h := hnext3 _ hs3
    refine ws [] lv132s1 24 [] [.len (ln (x1.Consumers.map q65)) (ln x1.Consumers)] [] 4 n15_ (st132s1_4 x1 0 (z3.2.1, z3.2.2.1, ([] : List Int))) (R132s1_4 x1 z1 z3 0 (z3.2.1, z3.2.2.1, ([] : List Int))) hC ⟨lM _ _, trivial⟩ trivial ?_
    obtain ⟨w4, hm4, hret4, hnext4⟩ := aIn h
    clear h
    refine wc w4 (sa132s1_4) (Ra132s1_4 x1 z1 z3) ?_ fun z4 hs4 => ?_
    ·refine wb ?_
     refine wO 89 3 rfl rfl fun hl4 => ?_
     refine wF (by kernel_rfl) F132s1_l4 (st132s1_4 x1) (R132s1_4 x1 z1 z3) w4 x1.Consumers (z3.2.1, z3.2.2.1, ([] : List Int)) hm4 rfl rfl (fun z4 hn4 => ?_) fun n4 a4 z4 w4b hi4 hx4 h hb4 hr4 => ?_
     ·clear hm4
      exact wx [(decide ((cnt 0 x1.Consumers.length) < (ln x1.Consumers)), false)] w4 (sa132s1_4) (Ra132s1_4 x1 z1 z3) lv132s1 26 [false] [] [] 4 n15_ (z4.1, z4.2.1, z4.2.2) hC trivial ⟨(cE hl4), trivial⟩ hn4
     ·unfold F132s1_l4 at h
      obtain ⟨y25, h26, h⟩ := bE h
      obtain ⟨y27, h28, h⟩ := bE h
      exact wx [(decide ((cnt 0 n4) < (ln x1.Consumers)), true)] w4b (st132s1_4 x1 (n4 + 1)) (R132s1_4 x1 z1 z3 (n4 + 1)) lv132s1 33 [true] [.row (x1.Consumers.map q65) (cnt 0 n4) (q65 a4), .row (x1.Consumers.map q65) (((Int.toNat (cnt 0 n4)) : Nat) : Int) (q65 a4), .nz 3, .call 40 [dO 0 0, .d (DS pI [a4.Load, a4.Load, a4.Least, w64 (Int.tdiv a4.Load 3)])] [.box 90 [DS pI z4.1, I z4.2.1]] (dI y25.1) [.box 90 (d90 y25.2)] [0], .app (z4.2.2.map pI) ([y25.1].map pI) 1 (((z4.2.2.map pI).length + ([y25.1].map pI).length) * (8 + 1)) (y27.map pI)] [] 4 [0, 1, 2, 3, 4, 5, 6, 7, 8, 9, 10, 11, 12, 16, 14] (y25.2.L, y25.2.At, y27) hC ⟨rg (gC hx4 hl4), rN (gC hx4 hl4), nz_lit rfl, ⟨e40, (k40 (⟨z4.1, z4.2.1⟩ : dynposmake_Src) [a4.Load, a4.Load, a4.Least, w64 (Int.tdiv a4.Load 3)] _ h26)⟩, aG pI 1 (fun _ => rfl) h28, trivial⟩ ⟨(cL hi4 hl4), trivial⟩ (sI h).symm
    ·have h := hnext4 _ hs4
     refine ws [] lv132s1 24 [] [] [] 4 n15_ (st132s1_5 (1, z4.1, z4.2.1, ([] : List api_Part))) (R132s1_5 x1 z1 z3 z4 (1, z4.1, z4.2.1, ([] : List api_Part))) hC trivial trivial ?_
     obtain ⟨w5, hm5, hret5, hnext5⟩ := aIn h
     clear h
     refine wc w5 (sa132s1_5) (Ra132s1_5 x1 z1 z3 z4) ?_ fun z5 hs5 => ?_
     ·refine wb ?_
      refine wW (by kernel_rfl) (F132s1_l5 x1) (st132s1_5) (R132s1_5 x1 z1 z3 z4) w5 7 (1, z4.1, z4.2.1, ([] : List api_Part)) hm5 rfl rfl fun z5 w5b h hb5 hr5 => ?_
      unfold F132s1_l5 at h
      rcases bC (decide (z5.1 <= 4)) with h29 | h29
      ·replace h := cT h29 h
       obtain ⟨y30, h31, h⟩ := bE h
       rcases bC ((y30.1 == 4)) with h32 | h32
       ·replace h := cT h32 h
        obtain ⟨y33, h34, h⟩ := bE h
        refine ws [(decide (z5.1 <= 4), true), ((y30.1 == 4), true)] lv132s1 35 [true, true] [.call 32 [dO 0 0, dI 5] [.box 90 [DS pI z5.2.1, I z5.2.2.1]] (dI y30.1) [.box 90 (d90 y30.2)] [0], .call 32 [dO 0 0, dI 4] [.box 90 (d90 y30.2)] (dI y33.1) [.box 90 (d90 y33.2)] [0], .callB 71 [.agg (d29 x1), .agg [I z5.1, I y33.1]] (dB (F71 x1 (⟨z5.1, y33.1⟩ : api_Part))) [[]] 0 []] [] 4 n16_ [(0, dO 0 0), (3, dO 4 0), (4, dO 5 0), (5, dO 6 0), (12, dI z5.1), (13, dO 15 0), (126, dB (F71 x1 (⟨z5.1, y33.1⟩ : api_Part)))] (.box 90 (d90 y33.2) :: zs x1 (.box 29 [I x1.Buses, .os 1, .os 2, .os 3, I x1.Phase, I x1.Frequency] :: .box 36 [.os 7, .os 8, .os 9, .os 10] :: .box 36 [.os 11, .os 12, .os 13, .os 14] :: ze [v3_ z1.2, v5_ (g3z_ z3), v0_ z4.2.2, v4_ (g3z_ z5), .box 86 [I z5.1, I y33.1]])) hC ⟨⟨e32, (k32 (⟨z5.2.1, z5.2.2.1⟩ : dynposmake_Src) 5 _ h31)⟩, ⟨e32, (k32 y30.2 4 _ h34)⟩, l0g ⟨e71, (k71 x1 (⟨z5.1, y33.1⟩ : api_Part) _ rfl)⟩, trivial⟩ ⟨h29, h32, trivial⟩ ?_
        rcases bC (F71 x1 (⟨z5.1, y33.1⟩ : api_Part)) with h35 | h35
        ·replace h := cT h35 h
         obtain ⟨y36, h37, h⟩ := bE h
         exact wx [(F71 x1 (⟨z5.1, y33.1⟩ : api_Part), true)] w5b (st132s1_5) (R132s1_5 x1 z1 z3 z4) lv132s1 25 [true] [.app (z5.2.2.2.map q86) ([(⟨z5.1, y33.1⟩ : api_Part)].map q86) 2 (((z5.2.2.2.map q86).length + ([(⟨z5.1, y33.1⟩ : api_Part)].map q86).length) * (16 + 1)) (y36.map q86)] [] 4 [0, 1, 2, 3, 4, 5, 6, 7, 8, 9, 10, 11, 12, 13, 16] (w64 (z5.1 + 1), y33.2.L, y33.2.At, y36) hC ⟨aG q86 2 (fun _ => rfl) h37, trivial⟩ ⟨h35, trivial⟩ (sI h).symm
        ·replace h := cF h35 h
         exact wx [(F71 x1 (⟨z5.1, y33.1⟩ : api_Part), false)] w5b (st132s1_5) (R132s1_5 x1 z1 z3 z4) lv132s1 25 [false] [] [] 4 n15_ (w64 (z5.1 + 1), y33.2.L, y33.2.At, (g3z_ z5)) hC trivial ⟨h35, trivial⟩ (sI h).symm
       ·replace h := cF h32 h
        exact wx [(decide (z5.1 <= 4), true), ((y30.1 == 4), false)] w5b (st132s1_5) (R132s1_5 x1 z1 z3 z4) lv132s1 34 [true, false] [.call 32 [dO 0 0, dI 5] [.box 90 [DS pI z5.2.1, I z5.2.2.1]] (dI y30.1) [.box 90 (d90 y30.2)] [0]] [] 4 n15_ (w64 (z5.1 + 1), y30.2.L, y30.2.At, (g3z_ z5)) hC ⟨⟨e32, (k32 (⟨z5.2.1, z5.2.2.1⟩ : dynposmake_Src) 5 _ h31)⟩, trivial⟩ ⟨h29, h32, trivial⟩ (sI h).symm
      ·replace h := cF h29 h
       exact wx [(decide (z5.1 <= 4), false)] w5 (sa132s1_5) (Ra132s1_5 x1 z1 z3 z4) lv132s1 26 [false] [] [] 4 [0, 1, 2, 3, 5, 6, 7, 8, 9, 10, 11, 12, 13, 14] (z5.1, z5.2.1, z5.2.2.1, (g3z_ z5)) hC trivial ⟨h29, trivial⟩ (hb5 _ (sI h).symm)
     ·have h := hnext5 _ hs5
      replace h := sI h
      subst h
      exact wr [] lv132s1 23 [] [] [] [.cell 4 36] 4 [0, 1, 2, 3, 10, 11, 12, 13] hC trivial trivial
def e132s1 := en Tryz.func132
def lv53 : List Nat := [0, 1, 2, 3, 4, 5, 7, 8, 9, 10, 11, 12, 13, 15, 19, 45, 47, 48, 49, 50, 74, 77, 78, 79, 80, 92, 97, 99, 100, 101, 102, 124, 128, 129, 130, 134, 135, 136, 137, 144, 149]
def st53_0 (x1 : api_Power) (n0 : Nat) (z0 : Unit) : St := [(2, dO 0 0), (3, dO 1 0), (4, dI 0), (47, .d (DS q120 x1.Sources)), (48, dI (ln x1.Sources)), (49, dI (cnt 0 n0))]
def R53_0 (x0 : api_Board) (x1 : api_Power) (n0 : Nat) (z0 : Unit) : List Res := [.box 29 (d29 x0), .box 36 (d36 x1)]
def sa53_0  (z0 : Unit) : St := [(2, dO 0 0), (3, dO 1 0), (4, dI 0)]
def Ra53_0 (x0 : api_Board) (x1 : api_Power) (z0 : Unit) : List Res := [.box 29 (d29 x0), .box 36 (d36 x1)]
def st53_1 (x1 : api_Power) (n1 : Nat) (z1 : Unit) : St := [(2, dO 0 0), (3, dO 1 0), (4, dI 0), (77, .d (DS pI x1.Limits)), (78, dI (ln x1.Limits)), (79, dI (cnt 0 n1))]
def R53_1 (x0 : api_Board) (x1 : api_Power) (n1 : Nat) (z1 : Unit) : List Res := [.box 29 (d29 x0), .box 36 (d36 x1)]
def sa53_1  (z1 : Unit) : St := [(2, dO 0 0), (3, dO 1 0), (4, dI 0)]
def Ra53_1 (x0 : api_Board) (x1 : api_Power) (z1 : Unit) : List Res := [.box 29 (d29 x0), .box 36 (d36 x1)]
def st53_2 (x1 : api_Power) (n2 : Nat) (z2 : Unit) : St := [(2, dO 0 0), (3, dO 1 0), (4, dI 0), (99, .d (DS q86 x1.Broken)), (100, dI (ln x1.Broken)), (101, dI (cnt 0 n2))]
def R53_2 (x0 : api_Board) (x1 : api_Power) (n2 : Nat) (z2 : Unit) : List Res := [.box 29 (d29 x0), .box 36 (d36 x1)]
def sa53_2  (z2 : Unit) : St := [(2, dO 0 0), (3, dO 1 0), (4, dI 0)]
def Ra53_2 (x0 : api_Board) (x1 : api_Power) (z2 : Unit) : List Res := [.box 29 (d29 x0), .box 36 (d36 x1)]
def st53_3 (x0 : api_Board) (z3 : Int) : St := [(2, dO 0 0), (3, dO 1 0), (4, dI 0), (128, dI (ln x0.Consumers)), (129, dI z3)]
def R53_3 (x0 : api_Board) (x1 : api_Power) (z3 : Int) : List Res := [.box 29 (d29 x0), .box 36 (d36 x1)]
def sa53_3  (z3 : Int) : St := [(4, dI 0)]
def Ra53_3  (z3 : Int) : List Res := []
def st53_4 (x0 : api_Board) (z3 : Int) (y14 : (List Int)) (n4 : Nat) (z4 : Int) : St := [(2, dO 0 0), (3, dO 1 0), (4, dI 0), (13, dI z4), (128, dI (ln x0.Consumers)), (129, dI z3), (134, dS 2), (135, dI (ln y14)), (136, dI (cnt 0 n4))]
def R53_4 (x0 : api_Board) (x1 : api_Power) (y14 : (List Int)) (n4 : Nat) (z4 : Int) : List Res := [.box 29 (d29 x0), .box 36 (d36 x1), v0_ y14]
def sa53_4 (x0 : api_Board) (z3 : Int) (z4 : Int) : St := [(2, dO 0 0), (3, dO 1 0), (4, dI 0), (13, dI z4), (128, dI (ln x0.Consumers)), (129, dI z3)]
def Ra53_4 (x0 : api_Board) (x1 : api_Power) (z4 : Int) : List Res := [.box 29 (d29 x0), .box 36 (d36 x1)]
set_option maxHeartbeats 4000000 in
theorem k53 (x0 : api_Board) (x1 : api_Power) (r : Int) (h : F53 x0 x1 = some r) : CO 53 [.agg (d29 x0), .agg (d36 x1)] [] (.d (I r)) [] := by
 unfold F53 at h
 refine co 151 Tryz.func53 fun C hC => ?_
 obtain ⟨y1, h2, h⟩ := bE h
 rcases bC ((y1 != 0)) with h3 | h3
 ·replace h := cT h3 h
  replace h := sI h
  subst h
  exact wr [((y1 != 0), true)] lv53 31 [true] [.call 111 [.agg (d29 x0)] [] (dI y1) [] []] [] [.tmp 4] 0 [] hC ⟨⟨e111, (k111 x0 _ h2)⟩, trivial⟩ ⟨h3, trivial⟩
 ·replace h := cF h3 h
  refine ws [((y1 != 0), false)] lv53 33 [false] [.call 111 [.agg (d29 x0)] [] (dI y1) [] [], .len (ln (x1.Closed.map pB)) (ln x1.Closed), .len (ln (x0.Breakers.map q147)) (ln x0.Breakers), .when [(((ln x1.Closed) != (ln x0.Breakers)), false)] (.len (ln (x1.Sources.map q120)) (ln x1.Sources)), .when [(((ln x1.Closed) != (ln x0.Breakers)), false)] (.len (ln (x0.Sources.map q139)) (ln x0.Sources)), .when [((((ln x1.Closed) != (ln x0.Breakers)) || ((ln x1.Sources) != (ln x0.Sources))), false)] (.len (ln (x1.Limits.map pI)) (ln x1.Limits)), .when [((((ln x1.Closed) != (ln x0.Breakers)) || ((ln x1.Sources) != (ln x0.Sources))), false)] (.len (ln (x0.Consumers.map q65)) (ln x0.Consumers))] [] 0 [0, 1] [(2, dO 0 0), (3, dO 1 0), (4, dI 0), (45, dB (c53_0 x0 x1))] [.box 29 (d29 x0), .box 36 (d36 x1)] hC ⟨⟨e111, (k111 x0 _ h2)⟩, lM _ _, lM _ _, fun hg => lM _ _, fun hg => lM _ _, fun hg => lM _ _, fun hg => lM _ _, trivial⟩ ⟨h3, trivial⟩ ?_
  rcases bC ((c53_0 x0 x1)) with h4 | h4
  ·replace h := cT h4 h
   replace h := sI h
   subst h
   exact wr [((c53_0 x0 x1), true)] lv53 24 [true] [] [] [.tmp 4] 0 [] hC trivial ⟨h4, trivial⟩
  ·replace h := cF h4 h
   refine ws [((c53_0 x0 x1), false)] lv53 26 [false] [.len (ln (x1.Sources.map q120)) (ln x1.Sources)] [] 0 [0, 1] (st53_0 x1 0 ()) (R53_0 x0 x1 0 ()) hC ⟨lM _ _, trivial⟩ ⟨h4, trivial⟩ ?_
   obtain ⟨w0, hm0, hret0, hnext0⟩ := aIn h
   clear h
   refine wc w0 (sa53_0) (Ra53_0 x0 x1) ?_ fun z0 hs0 => ?_
   ·refine wb ?_
    refine wL 47 rfl fun hl0 => ?_
    refine wF (by kernel_rfl) F53_l0 (st53_0 x1) (R53_0 x0 x1) w0 x1.Sources () hm0 rfl rfl (fun z0 hn0 => ?_) fun n0 a0 z0 w0b hi0 hx0 h hb0 hr0 => ?_
    ·clear hm0
     exact wx [(decide ((cnt 0 x1.Sources.length) < (ln x1.Sources)), false)] w0 (sa53_0) (Ra53_0 x0 x1) lv53 26 [false] [] [] 0 [0, 1] () hC trivial ⟨(cE hl0), trivial⟩ hn0
    ·unfold F53_l0 at h
     refine ws [(decide ((cnt 0 n0) < (ln x1.Sources)), true)] lv53 32 [true] [.row (x1.Sources.map q120) (cnt 0 n0) (q120 a0), .call 112 [dI a0.State, dI 0, dI 3] [] (dB (F112 a0.State 0 3)) [] [], .when [(!(F112 a0.State 0 3), false)] (.call 112 [dI a0.Since, dI 0, dI 2147483648] [] (dB (F112 a0.Since 0 2147483648)) [] []), .when [(((!(F112 a0.State 0 3)) || (!(F112 a0.Since 0 2147483648))), false)] (.call 112 [dI a0.Frequency, dI 0, dI 6000] [] (dB (F112 a0.Frequency 0 6000)) [] []), .when [((((!(F112 a0.State 0 3)) || (!(F112 a0.Since 0 2147483648))) || (!(F112 a0.Frequency 0 6000))), false)] (.call 112 [dI a0.Phase, dI 0, dI 3599] [] (dB (F112 a0.Phase 0 3599)) [] [])] [] 0 [0, 1] [(2, dO 0 0), (3, dO 1 0), (4, dI 0), (47, .d (DS q120 x1.Sources)), (48, dI (ln x1.Sources)), (49, dI (cnt 0 n0)), (74, dB (c53_2 a0))] [.box 29 (d29 x0), .box 36 (d36 x1)] hC ⟨(rC hx0 hl0), ⟨e112, (k112 a0.State 0 3 _ rfl)⟩, fun hg => ⟨e112, (k112 a0.Since 0 2147483648 _ rfl)⟩, fun hg => ⟨e112, (k112 a0.Frequency 0 6000 _ rfl)⟩, fun hg => ⟨e112, (k112 a0.Phase 0 3599 _ rfl)⟩, trivial⟩ ⟨(cL hi0 hl0), trivial⟩ ?_
     rcases bC ((c53_2 a0)) with h5 | h5
     ·replace h := cT h5 h
      have hq := hret0 _ (hr0 _ (sI h).symm)
      replace hq := sI hq
      subst hq
      exact wr [((c53_2 a0), true)] lv53 24 [true] [] [] [.tmp 4] 0 [] hC trivial ⟨h5, trivial⟩
     ·replace h := cF h5 h
      exact wx [((c53_2 a0), false)] w0b (st53_0 x1 (n0 + 1)) (R53_0 x0 x1 (n0 + 1)) lv53 25 [false] [] [] 0 [0, 1] () hC trivial ⟨h5, trivial⟩ (sI h).symm
   ·have h := hnext0 _ hs0
    refine ws [] lv53 24 [] [.len (ln (x1.Limits.map pI)) (ln x1.Limits)] [] 0 [0, 1] (st53_1 x1 0 ()) (R53_1 x0 x1 0 ()) hC ⟨lM _ _, trivial⟩ trivial ?_
    obtain ⟨w1, hm1, hret1, hnext1⟩ := aIn h
    clear h
    refine wc w1 (sa53_1) (Ra53_1 x0 x1) ?_ fun z1 hs1 => ?_
    ·refine wb ?_
     refine wL 77 rfl fun hl1 => ?_
     refine wF (by kernel_rfl) (F53_l1 x0) (st53_1 x1) (R53_1 x0 x1) w1 x1.Limits () hm1 rfl rfl (fun z1 hn1 => ?_) fun n1 a1 z1 w1b hi1 hx1 h hb1 hr1 => ?_
     ·clear hm1
      exact wx [(decide ((cnt 0 x1.Limits.length) < (ln x1.Limits)), false)] w1 (sa53_1) (Ra53_1 x0 x1) lv53 26 [false] [] [] 0 [0, 1] () hC trivial ⟨(cE hl1), trivial⟩ hn1
     ·unfold F53_l1 at h
      obtain ⟨y6, h7, h⟩ := bE h
      refine ws [(decide ((cnt 0 n1) < (ln x1.Limits)), true)] lv53 32 [true] [.row (x1.Limits.map pI) (cnt 0 n1) (pI a1), .row (x0.Consumers.map q65) (cnt 0 n1) (q65 y6), .call 112 [dI a1, dI 0, dI y6.Load] [] (dB (F112 a1 0 y6.Load)) [] []] [] 0 [0, 1] [(2, dO 0 0), (3, dO 1 0), (4, dI 0), (77, .d (DS pI x1.Limits)), (78, dI (ln x1.Limits)), (79, dI (cnt 0 n1)), (92, dB (!(F112 a1 0 y6.Load)))] [.box 29 (d29 x0), .box 36 (d36 x1)] hC ⟨(rC hx1 hl1), rg h7, ⟨e112, (k112 a1 0 y6.Load _ rfl)⟩, trivial⟩ ⟨(cL hi1 hl1), trivial⟩ ?_
      rcases bC (!(F112 a1 0 y6.Load)) with h8 | h8
      ·replace h := cT h8 h
       have hq := hret1 _ (hr1 _ (sI h).symm)
       replace hq := sI hq
       subst hq
       exact wr [(!(F112 a1 0 y6.Load), true)] lv53 24 [true] [] [] [.tmp 4] 0 [] hC trivial ⟨h8, trivial⟩
      ·replace h := cF h8 h
       exact wx [(!(F112 a1 0 y6.Load), false)] w1b (st53_1 x1 (n1 + 1)) (R53_1 x0 x1 (n1 + 1)) lv53 25 [false] [] [] 0 [0, 1] () hC trivial ⟨h8, trivial⟩ (sI h).symm
    ·have h := hnext1 _ hs1
     rcases bC (decide ((ln x1.Broken) > 32)) with h9 | h9
     ·replace h := cT h9 h
      replace h := sI h
      subst h
      exact wr [(decide ((ln x1.Broken) > 32), true)] lv53 27 [true] [.len (ln (x1.Broken.map q86)) (ln x1.Broken)] [] [.tmp 4] 0 [] hC ⟨lM _ _, trivial⟩ ⟨h9, trivial⟩
     ·replace h := cF h9 h
      refine ws [(decide ((ln x1.Broken) > 32), false)] lv53 29 [false] [.len (ln (x1.Broken.map q86)) (ln x1.Broken), .len (ln (x1.Broken.map q86)) (ln x1.Broken)] [] 0 [0, 1] (st53_2 x1 0 ()) (R53_2 x0 x1 0 ()) hC ⟨lM _ _, lM _ _, trivial⟩ ⟨h9, trivial⟩ ?_
      obtain ⟨w2, hm2, hret2, hnext2⟩ := aIn h
      clear h
      refine wc w2 (sa53_2) (Ra53_2 x0 x1) ?_ fun z2 hs2 => ?_
      ·refine wb ?_
       refine wL 99 rfl fun hl2 => ?_
       refine wF (by kernel_rfl) (F53_l2 x0 x1) (st53_2 x1) (R53_2 x0 x1) w2 x1.Broken () hm2 rfl rfl (fun z2 hn2 => ?_) fun n2 a2 z2 w2b hi2 hx2 h hb2 hr2 => ?_
       ·clear hm2
        exact wx [(decide ((cnt 0 x1.Broken.length) < (ln x1.Broken)), false)] w2 (sa53_2) (Ra53_2 x0 x1) lv53 26 [false] [] [] 0 [0, 1] () hC trivial ⟨(cE hl2), trivial⟩ hn2
       ·unfold F53_l2 at h
        obtain ⟨y10, h11, h⟩ := bE h
        refine ws [(decide ((cnt 0 n2) < (ln x1.Broken)), true)] lv53 32 [true] [.row (x1.Broken.map q86) (cnt 0 n2) (q86 a2), .call 71 [.agg (d29 x0), .agg (d86 a2)] [] (dB (F71 x0 a2)) [] [], .when [(!(F71 x0 a2), false), (decide ((cnt 0 n2) > 0), true)] (.row (x1.Broken.map q86) (w64 ((cnt 0 n2) - 1)) (q86 y10)), .when [(!(F71 x0 a2), false), (decide ((cnt 0 n2) > 0), true)] (.call 113 [.agg (d86 y10), .agg (d86 a2)] [] (dB (F113 y10 a2)) [] [])] [] 0 [0, 1] [(2, dO 0 0), (3, dO 1 0), (4, dI 0), (99, .d (DS q86 x1.Broken)), (100, dI (ln x1.Broken)), (101, dI (cnt 0 n2)), (124, dB (c53_4 x0 n2 a2 y10))] [.box 29 (d29 x0), .box 36 (d36 x1)] hC ⟨(rC hx2 hl2), ⟨e71, (k71 x0 a2 _ rfl)⟩, fun hg => rg (gg h11 hg), fun hg => ⟨e113, (k113 y10 a2 _ rfl)⟩, trivial⟩ ⟨(cL hi2 hl2), trivial⟩ ?_
        rcases bC ((c53_4 x0 n2 a2 y10)) with h12 | h12
        ·replace h := cT h12 h
         have hq := hret2 _ (hr2 _ (sI h).symm)
         replace hq := sI hq
         subst hq
         exact wr [((c53_4 x0 n2 a2 y10), true)] lv53 24 [true] [] [] [.tmp 4] 0 [] hC trivial ⟨h12, trivial⟩
        ·replace h := cF h12 h
         exact wx [((c53_4 x0 n2 a2 y10), false)] w2b (st53_2 x1 (n2 + 1)) (R53_2 x0 x1 (n2 + 1)) lv53 25 [false] [] [] 0 [0, 1] () hC trivial ⟨h12, trivial⟩ (sI h).symm
      ·have h := hnext2 _ hs2
       refine ws [] lv53 24 [] [.len (ln (x0.Consumers.map q65)) (ln x0.Consumers)] [] 0 [0, 1] (st53_3 x0 0) (R53_3 x0 x1 0) hC ⟨lM _ _, trivial⟩ trivial ?_
       obtain ⟨w3, hm3, hret3, hnext3⟩ := aIn h
       clear h
       refine wc w3 (sa53_3) (Ra53_3) ?_ fun z3 hs3 => ?_
       ·refine wb ?_
        refine wW (by kernel_rfl) (F53_l3 x0 x1) (st53_3 x0) (R53_3 x0 x1) w3 1152921504606846976 0 hm3 rfl rfl fun z3 w3b h hb3 hr3 => ?_
        unfold F53_l3 at h
        rcases bC ((c53_6 x0 z3)) with h13 | h13
        ·replace h := cT h13 h
         obtain ⟨y14, h15, h⟩ := bE h
         refine ws [((c53_6 x0 z3), true)] lv53 35 [true] [.call 77 [.agg (d29 x0), dI 3, dI z3] [] (dS 0) [v0_ y14] [], .len (ln (y14.map pI)) (ln y14)] [] 0 n3_ (st53_4 x0 z3 y14 0 0) (R53_4 x0 x1 y14 0 0) hC ⟨⟨e77, (k77 x0 3 z3 _ h15)⟩, lM _ _, trivial⟩ ⟨h13, trivial⟩ ?_
         obtain ⟨w4, hm4, hret4, hnext4⟩ := aIn h
         clear h
         refine wc w4 (sa53_4 x0 z3) (Ra53_4 x0 x1) ?_ fun z4 hs4 => ?_
         ·refine wb ?_
          refine wO 134 2 rfl rfl fun hl4 => ?_
          refine wF (by kernel_rfl) (F53_l4 x1) (st53_4 x0 z3 y14) (R53_4 x0 x1 y14) w4 y14 0 hm4 rfl rfl (fun z4 hn4 => ?_) fun n4 a4 z4 w4b hi4 hx4 h hb4 hr4 => ?_
          ·clear hm4
           exact wx [(decide ((cnt 0 y14.length) < (ln y14)), false)] w4 (sa53_4 x0 z3) (Ra53_4 x0 x1) lv53 26 [false] [] [] 0 [0, 1] z4 hC trivial ⟨(cE hl4), trivial⟩ hn4
          ·unfold F53_l4 at h
           obtain ⟨y16, h17, h⟩ := bE h
           rcases bC (y16) with h18 | h18
           ·replace h := cT h18 h
            exact wx [(decide ((cnt 0 n4) < (ln y14)), true), (y16, true)] w4b (st53_4 x0 z3 y14 (n4 + 1)) (R53_4 x0 x1 y14 (n4 + 1)) lv53 36 [true, true] [.row (y14.map pI) (cnt 0 n4) (pI a4), .row (y14.map pI) (((Int.toNat (cnt 0 n4)) : Nat) : Int) (pI a4), .row (x1.Closed.map pB) a4 (pB y16)] [] 0 n3_ (w64 (z4 + 1)) hC ⟨rg (gC hx4 hl4), rN (gC hx4 hl4), rg h17, trivial⟩ ⟨(cL hi4 hl4), h18, trivial⟩ (sI h).symm
           ·replace h := cF h18 h
            exact wx [(decide ((cnt 0 n4) < (ln y14)), true), (y16, false)] w4b (st53_4 x0 z3 y14 (n4 + 1)) (R53_4 x0 x1 y14 (n4 + 1)) lv53 36 [true, false] [.row (y14.map pI) (cnt 0 n4) (pI a4), .row (y14.map pI) (((Int.toNat (cnt 0 n4)) : Nat) : Int) (pI a4), .row (x1.Closed.map pB) a4 (pB y16)] [] 0 n3_ z4 hC ⟨rg (gC hx4 hl4), rN (gC hx4 hl4), rg h17, trivial⟩ ⟨(cL hi4 hl4), h18, trivial⟩ (sI h).symm
         ·have h := hnext4 _ hs4
          rcases bC (decide (z4 > 1)) with h19 | h19
          ·replace h := cT h19 h
           have hq := hret3 _ (hr3 _ (sI h).symm)
           replace hq := sI hq
           subst hq
           exact wr [(decide (z4 > 1), true)] lv53 26 [true] [] [] [.tmp 4] 0 [] hC trivial ⟨h19, trivial⟩
          ·replace h := cF h19 h
           exact wx [(decide (z4 > 1), false)] w3b (st53_3 x0) (R53_3 x0 x1) lv53 27 [false] [] [] 0 [0, 1] (w64 (z3 + 1)) hC trivial ⟨h19, trivial⟩ (sI h).symm
        ·replace h := cF h13 h
         exact wx [((c53_6 x0 z3), false)] w3 (sa53_3) (Ra53_3) lv53 26 [false] [] [] 0 [] z3 hC trivial ⟨h13, trivial⟩ (hb3 _ (sI h).symm)
       ·have h := hnext3 _ hs3
        replace h := sI h
        subst h
        exact wr [] lv53 23 [] [] [] [.tmp 4] 0 [] hC trivial trivial
def e53 := en Tryz.func53
theorem k91 (x0 : dynposmake_Src) (r : api_Arc × dynposmake_Src) (h : F91 x0 = some r) : CO 91 [.d (.o 0 0)] [.box 90 (d90 x0)] (.agg (d159 r.1)) [.box 90 (d90 r.2)] := by
 unfold F91 at h
 refine co 15 Tryz.func91 fun C hC => ?_
 obtain ⟨y1, h2, h⟩ := bE h
 obtain ⟨y3, h4, h⟩ := bE h
 replace h := sI h
 subst h
 exact wr [] [0, 2, 3] 27 [] [.call 40 [dO 0 0, .d (DS pI [0, 450, 800, 1350, 1800, 2600, 3500])] [.box 90 (d90 x0)] (dI y1.1) [.box 90 (d90 y1.2)] [0], .call 40 [dO 0 0, .d (DS pI [0, 100, 300, 900, 1799])] [.box 90 (d90 y1.2)] (dI y3.1) [.box 90 (d90 y3.2)] [0], .nz 3600] [] [.cell 2 159] 1 [0] hC ⟨⟨e40, (k40 x0 [0, 450, 800, 1350, 1800, 2600, 3500] _ h2)⟩, ⟨e40, (k40 y1.2 [0, 100, 300, 900, 1799] _ h4)⟩, nz_lit rfl, trivial⟩ trivial
def e91 := en Tryz.func91
theorem k150 (x0 : api_Arc) (r : Bool) (h : F150 x0 = r) : CO 150 [.agg (d159 x0)] [] (.d (Bo r)) [] := by
 unfold F150 at h
 refine co 6 Tryz.func150 fun C hC => ?_
 subst h
 exact wr [] n3_ 25 [] [.call 151 [.agg (d159 x0)] [] (dB (F151 x0)) [] []] [] [.tmp 2] 0 [] hC ⟨⟨e151, (k151 x0 _ rfl)⟩, trivial⟩ trivial
def e150 := en Tryz.func150
def lv136 : List Nat := [0, 1, 2, 3, 4, 6, 16, 17, 18, 19, 28, 29, 44, 71]
def st136_0 (x0 : api_Board) (n0 : Nat) (z0 : (List Int) × (List (List Int))) : St := [(1, dO 0 0), (2, dB false), (3, dS 1), (4, dS 2), (16, .d (DS q147 x0.Breakers)), (17, dI (ln x0.Breakers)), (18, dI (cnt 0 n0))]
def R136_0 (x0 : api_Board) (n0 : Nat) (z0 : (List Int) × (List (List Int))) : List Res := [.box 29 (d29 x0), v0_ z0.1, .dsl 22 1 3, .gh 1 [(3, 1)] (z0.2.map (pL pI)) none]
def sa136_0  (z0 : (List Int) × (List (List Int))) : St := [(2, dB false), (3, dS 0), (4, dS 1)]
def Ra136_0  (z0 : (List Int) × (List (List Int))) : List Res := [v0_ z0.1, .dsl 22 1 2, .gh 1 [(3, 1)] (z0.2.map (pL pI)) none]
theorem k136 (x0 : api_Board) (r : Bool) (h : F136 x0 = some r) : CO 136 [.agg (d29 x0)] [] (.d (Bo r)) [] := by
 unfold F136 at h
 refine co 116 Tryz.func136 fun C hC => ?_
 obtain ⟨y1, h2, h⟩ := bE h
 obtain ⟨y3, h4, h⟩ := bE h
 refine ws [] lv136 28 [] [.flts [v0_ y1, .zsl 22 1 (y3.map (pL pI))], .len (ln (x0.Sources.map q139)) (ln x0.Sources), .fltm 1 (.room ((ln x0.Sources) * (8 + 1)) (List.replicate (Int.toNat (ln x0.Sources)) (pI 0)) (y1.map pI)) (v0_ y1) (v0_ y1), .len (ln (x0.Consumers.map q65)) (ln x0.Consumers), .fltm 2 (.roomZ ((ln x0.Consumers) * (24 + 1)) (List.replicate (Int.toNat (ln x0.Consumers)) ((pL pI) ([] : List Int))) (y3.map (pL pI))) (.zsl 22 1 (y3.map (pL pI))) (.zsl 22 1 (y3.map (pL pI))), .len (ln (x0.Breakers.map q147)) (ln x0.Breakers)] [.deep 2 [(3, 1)]] 0 n4_ (st136_0 x0 0 (y1, y3)) (R136_0 x0 0 (y1, y3)) hC ⟨trivial, lM _ _, ⟨make_get h2, rfl⟩, lM _ _, ⟨makez_get h4, rfl⟩, lM _ _, trivial⟩ trivial ?_
 obtain ⟨w0, hm0, hret0, hnext0⟩ := aIn h
 clear h
 refine wc w0 (sa136_0) (Ra136_0) ?_ fun z0 hs0 => ?_
 ·refine wb ?_
  refine wL 16 rfl fun hl0 => ?_
  refine wF (by kernel_rfl) (F136_l0 x0) (st136_0 x0) (R136_0 x0) w0 x0.Breakers (y1, y3) hm0 rfl rfl (fun z0 hn0 => ?_) fun n0 a0 z0 w0b hi0 hx0 h hb0 hr0 => ?_
  ·clear hm0
   exact wx [(decide ((cnt 0 x0.Breakers.length) < (ln x0.Breakers)), false)] w0 (sa136_0) (Ra136_0) lv136 26 [false] [] [] 0 [1, 2, 3] (z0.1, z0.2) hC trivial ⟨(cE hl0), trivial⟩ hn0
  ·unfold F136_l0 at h
   refine ws [(decide ((cnt 0 n0) < (ln x0.Breakers)), true)] lv136 33 [true] [.row (x0.Breakers.map q147) (cnt 0 n0) (q147 a0), .call 99 [dI a0.A, dI 0, dI (w64 (x0.Buses - 1))] [] (dB (F99 a0.A 0 (w64 (x0.Buses - 1)))) [] []] [] 0 n5_ [(1, dO 0 0), (2, dB false), (3, dS 1), (4, dS 2), (6, dO 4 0), (16, .d (DS q147 x0.Breakers)), (17, dI (ln x0.Breakers)), (18, dI (cnt 0 n0)), (28, .d (Bo (!(F99 a0.A 0 (w64 (x0.Buses - 1))))))] [.box 29 (d29 x0), v0_ z0.1, .dsl 22 1 3, .gh 1 [(3, 1)] (z0.2.map (pL pI)) none, .box 147 (d147 a0)] hC ⟨(rC hx0 hl0), ⟨e99, (k99 a0.A 0 (w64 (x0.Buses - 1)) _ rfl)⟩, trivial⟩ ⟨(cL hi0 hl0), trivial⟩ ?_
   rcases bC (!(F99 a0.A 0 (w64 (x0.Buses - 1)))) with h5 | h5
   ·replace h := cT h5 h
    have hq := hret0 _ (hr0 _ (sI h).symm)
    replace hq := sI hq
    subst hq
    exact wr [(!(F99 a0.A 0 (w64 (x0.Buses - 1))), true)] lv136 24 [true] [] [] [.tmp 2] 0 [] hC trivial ⟨h5, trivial⟩
   ·replace h := cF h5 h
    refine ws [(!(F99 a0.A 0 (w64 (x0.Buses - 1))), false)] lv136 26 [false] [.when [((a0.Kind == 1), true)] (.call 99 [dI a0.B, dI (w64 (a0.A + 1)), dI (w64 (x0.Buses - 1))] [] (dB (F99 a0.B (w64 (a0.A + 1)) (w64 (x0.Buses - 1)))) [] [])] [] 0 n5_ [(1, dO 0 0), (2, dB false), (3, dS 1), (4, dS 2), (6, dO 4 0), (16, .d (DS q147 x0.Breakers)), (17, dI (ln x0.Breakers)), (18, dI (cnt 0 n0)), (29, dB (c136_6 x0 a0))] [.box 29 (d29 x0), v0_ z0.1, .dsl 22 1 3, .gh 1 [(3, 1)] (z0.2.map (pL pI)) none, .box 147 (d147 a0)] hC ⟨fun hg => ⟨e99, (k99 a0.B (w64 (a0.A + 1)) (w64 (x0.Buses - 1)) _ rfl)⟩, trivial⟩ ⟨h5, trivial⟩ ?_
    rcases bC ((c136_6 x0 a0)) with h6 | h6
    ·replace h := cT h6 h
     exact wx [((c136_6 x0 a0), true)] w0b (st136_0 x0 (n0 + 1)) (R136_0 x0 (n0 + 1)) lv136 26 [true] [] [] 0 n4_ (z0.1, z0.2) hC trivial ⟨h6, trivial⟩ (sI h).symm
    ·replace h := cF h6 h
     obtain ⟨y7, h8, h⟩ := bE h
     refine ws [((c136_6 x0 a0), false)] lv136 24 [false] [.when [((a0.Kind == 2), true)] (.len (ln (z0.1.map pI)) (ln z0.1)), .when [((a0.Kind == 2), true)] (.call 99 [dI a0.B, dI 0, dI (w64 ((ln z0.1) - 1))] [] (.d (Bo (F99 a0.B 0 (w64 ((ln z0.1) - 1))))) [] []), .when [(((a0.Kind == 2) && (F99 a0.B 0 (w64 ((ln z0.1) - 1)))), true)] (.row (z0.1.map pI) a0.B (pI y7)), .when [(((a0.Kind == 2) && (F99 a0.B 0 (w64 ((ln z0.1) - 1)))), true)] (.row (z0.1.map pI) (((Int.toNat a0.B) : Nat) : Int) (pI y7))] [] 0 n5_ [(1, dO 0 0), (2, dB false), (3, dS 1), (4, dS 2), (6, dO 4 0), (16, .d (DS q147 x0.Breakers)), (17, dI (ln x0.Breakers)), (18, dI (cnt 0 n0)), (44, dB (c136_7 z0 a0 y7))] [.box 29 (d29 x0), v0_ z0.1, .dsl 22 1 3, .gh 1 [(3, 1)] (z0.2.map (pL pI)) none, .box 147 (d147 a0)] hC ⟨fun hg => lM _ _, fun hg => ⟨e99, (k99 a0.B 0 (w64 ((ln z0.1) - 1)) _ rfl)⟩, fun hg => rg (gg h8 hg), fun hg => rN (gg h8 hg), trivial⟩ ⟨h6, trivial⟩ ?_
     rcases bC ((c136_7 z0 a0 y7)) with h9 | h9
     ·replace h := cT h9 h
      obtain ⟨y10, h11, h⟩ := bE h
      obtain ⟨y12, h13, h⟩ := bE h
      exact wx [((c136_7 z0 a0 y7), true)] w0b (st136_0 x0 (n0 + 1)) (R136_0 x0 (n0 + 1)) lv136 26 [true] [.row (z0.1.map pI) a0.B (pI y10), .row (z0.1.map pI) (((Int.toNat a0.B) : Nat) : Int) (pI y10), .row (z0.1.map pI) a0.B (pI y10), .upd (z0.1.map pI) (Int.toNat a0.B) (pI y10) (pI (w64 (y10 + 1))) (y12.map pI)] [] 0 n4_ (y12, z0.2) hC ⟨rg h11, rN h11, rg h11, uG h11 h13, trivial⟩ ⟨h9, trivial⟩ (sI h).symm
     ·replace h := cF h9 h
      obtain ⟨y14, h15, h⟩ := bE h
      obtain ⟨y16, h17, h⟩ := bE h
      refine ws [((c136_7 z0 a0 y7), false)] lv136 24 [false] [.when [((a0.Kind == 3), true)] (.len (ln (z0.2.map (pL pI))) (ln z0.2)), .when [((a0.Kind == 3), true)] (.call 99 [dI a0.B, dI 0, dI (w64 ((ln z0.2) - 1))] [] (.d (Bo (F99 a0.B 0 (w64 ((ln z0.2) - 1))))) [] []), .when [(((a0.Kind == 3) && (F99 a0.B 0 (w64 ((ln z0.2) - 1)))), true)] (.row (z0.2.map (pL pI)) a0.B ((pL pI) y14)), .when [(((a0.Kind == 3) && (F99 a0.B 0 (w64 ((ln z0.2) - 1)))), true)] (.row (z0.2.map (pL pI)) (((Int.toNat a0.B) : Nat) : Int) ((pL pI) y14)), .when [(((a0.Kind == 3) && (F99 a0.B 0 (w64 ((ln z0.2) - 1)))), true)] (.callB 190 [.d (DS pI y14), dI a0.A] (dB y16) (z0.2.map (pL pI)) (Int.toNat a0.B) ((pL pI) y14))] [] 0 n5_ [(1, dO 0 0), (2, dB false), (3, dS 1), (4, dS 2), (6, dO 4 0), (16, .d (DS q147 x0.Breakers)), (17, dI (ln x0.Breakers)), (18, dI (cnt 0 n0)), (71, dB (c136_8 z0 a0 y16))] [.box 29 (d29 x0), v0_ z0.1, .dsl 22 1 3, .gh 1 [(3, 1)] (z0.2.map (pL pI)) none, .box 147 (d147 a0)] hC ⟨fun hg => lM _ _, fun hg => ⟨e99, (k99 a0.B 0 (w64 ((ln z0.2) - 1)) _ rfl)⟩, fun hg => rg (gg h15 hg), fun hg => rN (gg h15 hg), fun hg => lend_get ⟨e190, (k190 y14 a0.A _ (gg h17 hg))⟩ (gg h15 hg), trivial⟩ ⟨h9, trivial⟩ ?_
      rcases bC ((c136_8 z0 a0 y16)) with h18 | h18
      ·replace h := cT h18 h
       obtain ⟨y19, h20, h⟩ := bE h
       obtain ⟨y21, h22, h⟩ := bE h
       obtain ⟨y23, h24, h⟩ := bE h
       exact wx [((c136_8 z0 a0 y16), true)] w0b (st136_0 x0 (n0 + 1)) (R136_0 x0 (n0 + 1)) lv136 26 [true] [.row (z0.2.map (pL pI)) a0.B ((pL pI) y19), .row (z0.2.map (pL pI)) (((Int.toNat a0.B) : Nat) : Int) ((pL pI) y19), .appD (z0.2.map (pL pI)) (Int.toNat a0.B) ((pL pI) y19) 0 (y19.map pI) ([a0.A].map pI) 1 (((y19.map pI).length + ([a0.A].map pI).length) * (8 + 1)) (y21.map pI), .row (z0.2.map (pL pI)) a0.B ((pL pI) y19), .updD (z0.2.map (pL pI)) (Int.toNat a0.B) (Int.toNat a0.B) ((pL pI) y19) ((pL pI) y21) (y23.map (pL pI))] [] 0 [0, 1, 2, 8] (z0.1, y23) hC ⟨rg h20, rN h20, appD_get 1 (fun _ => rfl) h20 rfl h22, rg h20, updD_get h20 h24, trivial⟩ ⟨h18, trivial⟩ (sI h).symm
      ·replace h := cF h18 h
       have hq := hret0 _ (hr0 _ (sI h).symm)
       replace hq := sI hq
       subst hq
       exact wr [((c136_8 z0 a0 y16), false)] lv136 24 [false] [] [] [.tmp 2] 0 [] hC trivial ⟨h18, trivial⟩
 ·have h := hnext0 _ hs0
  refine ws [] lv136 1 [] [] [.flat 1] 0 [0, 1] [(2, dB false), (3, dS 0), (4, dS 1)] [v0_ z0.1, .sl 22 1 (z0.2.map (pL pI))] hC trivial trivial ?_
  obtain ⟨y27, h28, h⟩ := bE h
  obtain ⟨y29, h30, h⟩ := bE h
  replace h := sI h
  subst h
  exact wr [] lv136 22 [] [.callB 190 [.d (DS pI z0.1), dI 0] (dB y27) [[]] 0 [], .when [(!y27, true)] (.callB 191 [.d (DS (pL pI) z0.2), .d (.fn (.func 192) [] [])] (dB y29) [[]] 0 [])] [] [.tmp 2] 0 [] hC ⟨l0g ⟨e190, (k190 z0.1 0 _ h28)⟩, fun hg => l0g ⟨e191s0, (k191s0 z0.2 _ (gg h30 hg))⟩, trivial⟩ trivial
def e136 := en Tryz.func136
def lv155s0 : List Nat := [0, 1, 4, 5, 7, 8, 9, 16]
def st155s0_0 (x0 : List api_Running) (n0 : Nat) (z0 : Unit) : St := [(0, .d (DS q120 x0)), (1, .d (.fn (.func 97) [] [])), (4, dI 0), (7, dI (ln x0)), (8, dI (cnt 0 n0))]
def R155s0_0  (n0 : Nat) (z0 : Unit) : List Res := []
def sa155s0_0  (z0 : Unit) : St := [(4, dI 0)]
def Ra155s0_0  (z0 : Unit) : List Res := []
theorem k155s0 (x0 : List api_Running) (r : Int) (h : F155s0 x0 = some r) : CO 155 [.d (DS q120 x0), .d (.fn (.func 97) [] [])] [] (.d (I r)) [] := by
 unfold F155s0 at h
 refine co 19 Tryz.func155 fun C hC => ?_
 refine ws [] lv155s0 26 [] [.len (ln (x0.map q120)) (ln x0)] [] 0 [] (st155s0_0 x0 0 ()) (R155s0_0 0 ()) hC ⟨lM _ _, trivial⟩ trivial ?_
 obtain ⟨w0, hm0, hret0, hnext0⟩ := aIn h
 clear h
 refine wc w0 (sa155s0_0) (Ra155s0_0) ?_ fun z0 hs0 => ?_
 ·refine wb ?_
  refine wL 0 rfl fun hl0 => ?_
  refine wF (by kernel_rfl) F155s0_l0 (st155s0_0 x0) (R155s0_0) w0 x0 () hm0 rfl rfl (fun z0 hn0 => ?_) fun n0 a0 z0 w0b hi0 hx0 h hb0 hr0 => ?_
  ·clear hm0
   exact wx [(decide ((cnt 0 x0.length) < (ln x0)), false)] w0 (sa155s0_0) (Ra155s0_0) lv155s0 26 [false] [] [] 0 [] () hC trivial ⟨(cE hl0), trivial⟩ hn0
  ·unfold F155s0_l0 at h
   refine ws [(decide ((cnt 0 n0) < (ln x0)), true)] lv155s0 32 [true] [.row (x0.map q120) (cnt 0 n0) (q120 a0), .call 97 [.agg (d120 a0)] [] (dB (F97 a0)) [] []] [] 0 [] [(0, .d (DS q120 x0)), (1, .d (.fn (.func 97) [] [])), (4, dI 0), (5, dI (cnt 0 n0)), (7, dI (ln x0)), (8, dI (cnt 0 n0)), (16, dB (F97 a0))] [] hC ⟨(rC hx0 hl0), ⟨e97, (k97 a0 _ rfl)⟩, trivial⟩ ⟨(cL hi0 hl0), trivial⟩ ?_
   rcases bC (F97 a0) with h1 | h1
   ·replace h := cT h1 h
    have hq := hret0 _ (hr0 _ (sI h).symm)
    replace hq := sI hq
    subst hq
    exact wr [(F97 a0, true)] lv155s0 24 [true] [] [] [.tmp 4] 0 [] hC trivial ⟨h1, trivial⟩
   ·replace h := cF h1 h
    exact wx [(F97 a0, false)] w0b (st155s0_0 x0 (n0 + 1)) (R155s0_0 (n0 + 1)) lv155s0 25 [false] [] [] 0 [] () hC trivial ⟨h1, trivial⟩ (sI h).symm
 ·have h := hnext0 _ hs0
  replace h := sI h
  subst h
  exact wr [] lv155s0 23 [] [] [] [.tmp 4] 0 [] hC trivial trivial
def e155s0 := en Tryz.func155
theorem k104s1 (rec46 : api_Board -> api_Power -> Int -> Option Bool) (ih46 : ∀ (x0 : api_Board) (x1 : api_Power) (x2 : Int) (r : Bool), rec46 x0 x1 x2 = some r -> CO 46 [.agg (d29 x0), .agg (d36 x1), .d (I x2)] [] (.d (Bo r)) []) (x0 : List Int) (x1c0 : api_Board) (x1c1 : api_Power) (r : Bool × api_Board × api_Power) (h : F104s1 rec46 x0 x1c0 x1c1 = some r) : CO 104 [.d (DS pI x0), .d (.fn (.func 105) [] [.o 0 0, .o 1 0])] [.box 29 (d29 x1c0), .box 36 (d36 x1c1)] (.d (Bo r.1)) [.box 29 (d29 r.2.1), .box 36 (d36 r.2.2)] := by
 unfold F104s1 at h
 refine co 9 Tryz.func104 fun C hC => ?_
 obtain ⟨y1, h2, h⟩ := bE h
 replace h := sI h
 subst h
 exact wr [] [0, 1, 4] 25 [] [.call 158 [.d (DS pI x0), .d (.fn (.func 105) [] [.o 0 0, .o 1 0])] [.box 29 (d29 x1c0), .box 36 (d36 x1c1)] (dI y1.1) [.box 29 (d29 y1.2.1), .box 36 (d36 y1.2.2)] [0, 1]] [] [.tmp 4] 2 [0, 1] hC ⟨⟨e158s1, (k158s1 rec46 ih46 x0 x1c0 x1c1 _ h2)⟩, trivial⟩ trivial
def e104s1 := en Tryz.func104
theorem k160 (x0 : Int) (x1 : Int) (r : Int × Int) (h : F160 x0 x1 = some r) : CO 160 [.d (I x0), .d (I x1)] [] (.tup [.d (I r.1), .d (I r.2)]) [] := by
 unfold F160 at h
 refine co 11 Tryz.func160 fun C hC => ?_
 obtain ⟨y1, h2, h⟩ := bE h
 replace h := sI h
 subst h
 exact wr [] [0, 1, 4, 5] 25 [] [.call 201 [dI x0, dI x1, .d (.fn (.func 202) [] [])] [] (.tup [dI y1.1, dI y1.2]) [] []] [] [.tmp 4, .tmp 5] 0 [] hC ⟨⟨e201s0, (k201s0 x0 x1 _ h2)⟩, trivial⟩ trivial
def e160 := en Tryz.func160
def lv50 : List Nat := [0, 1, 2, 4, 58, 60, 61, 62, 63, 68]
def st50_0 (x0 : api_Thruster) (n0 : Nat) (z0 : Unit) : St := [(2, dB false), (60, .d (DS q159 x0.Forbidden)), (61, dI (ln x0.Forbidden)), (62, dI (cnt 0 n0))]
def R50_0  (n0 : Nat) (z0 : Unit) : List Res := []
def sa50_0  (z0 : Unit) : St := [(2, dB false)]
def Ra50_0  (z0 : Unit) : List Res := []
theorem k50 (x0 : api_Thruster) (r : Bool) (h : F50 x0 = some r) : CO 50 [.agg (d63 x0)] [] (.d (Bo r)) [] := by
 unfold F50 at h
 refine co 70 Tryz.func50 fun C hC => ?_
 refine ws [] lv50 26 [] [.when [(((((((((((decide (x0.Kind < 1)) || (decide (x0.Kind > 3))) || (decide (x0.Station < 0))) || (decide (x0.Station > 1))) || (decide (x0.Max < 0))) || (decide (x0.Max > 5000))) || (decide (x0.Rate < 0))) || (decide (x0.Rate > 5000))) || (decide (x0.Cost < 1))) || (decide (x0.Cost > 100))), false)] (.len (ln (x0.Forbidden.map q159)) (ln x0.Forbidden))] [] 0 [0] [(1, dO 0 0), (2, dB false), (58, dB (c50_0 x0))] [.box 63 (d63 x0)] hC ⟨fun hg => lM _ _, trivial⟩ trivial ?_
 rcases bC ((c50_0 x0)) with h1 | h1
 ·replace h := cT h1 h
  replace h := sI h
  subst h
  exact wr [((c50_0 x0), true)] lv50 24 [true] [] [] [.tmp 2] 0 [] hC trivial ⟨h1, trivial⟩
 ·replace h := cF h1 h
  refine ws [((c50_0 x0), false)] lv50 26 [false] [.len (ln (x0.Forbidden.map q159)) (ln x0.Forbidden)] [] 0 [] (st50_0 x0 0 ()) (R50_0 0 ()) hC ⟨lM _ _, trivial⟩ ⟨h1, trivial⟩ ?_
  obtain ⟨w0, hm0, hret0, hnext0⟩ := aIn h
  clear h
  refine wc w0 (sa50_0) (Ra50_0) ?_ fun z0 hs0 => ?_
  ·refine wb ?_
   refine wL 60 rfl fun hl0 => ?_
   refine wF (by kernel_rfl) F50_l0 (st50_0 x0) (R50_0) w0 x0.Forbidden () hm0 rfl rfl (fun z0 hn0 => ?_) fun n0 a0 z0 w0b hi0 hx0 h hb0 hr0 => ?_
   ·clear hm0
    exact wx [(decide ((cnt 0 x0.Forbidden.length) < (ln x0.Forbidden)), false)] w0 (sa50_0) (Ra50_0) lv50 26 [false] [] [] 0 [] () hC trivial ⟨(cE hl0), trivial⟩ hn0
   ·unfold F50_l0 at h
    rcases bC (!(F108 a0)) with h2 | h2
    ·replace h := cT h2 h
     have hq := hret0 _ (hr0 _ (sI h).symm)
     replace hq := sI hq
     subst hq
     exact wr [(decide ((cnt 0 n0) < (ln x0.Forbidden)), true), (!(F108 a0), true)] lv50 35 [true, true] [.row (x0.Forbidden.map q159) (cnt 0 n0) (q159 a0), .call 108 [.agg (d159 a0)] [] (dB (F108 a0)) [] []] [] [.tmp 2] 0 [] hC ⟨(rC hx0 hl0), ⟨e108, (k108 a0 _ rfl)⟩, trivial⟩ ⟨(cL hi0 hl0), h2, trivial⟩
    ·replace h := cF h2 h
     exact wx [(decide ((cnt 0 n0) < (ln x0.Forbidden)), true), (!(F108 a0), false)] w0b (st50_0 x0 (n0 + 1)) (R50_0 (n0 + 1)) lv50 36 [true, false] [.row (x0.Forbidden.map q159) (cnt 0 n0) (q159 a0), .call 108 [.agg (d159 a0)] [] (dB (F108 a0)) [] []] [] 0 [] () hC ⟨(rC hx0 hl0), ⟨e108, (k108 a0 _ rfl)⟩, trivial⟩ ⟨(cL hi0 hl0), h2, trivial⟩ (sI h).symm
  ·have h := hnext0 _ hs0
   replace h := sI h
   subst h
   exact wr [] lv50 23 [] [] [] [.tmp 2] 0 [] hC trivial trivial
def e50 := en Tryz.func50
def lv27 : List Nat := [0, 1, 2, 3, 4, 6, 7, 8, 32, 43]
theorem k27 (x0 : api_Board) (x1 : api_Power) (x2 : Int) (r : Int × Bool) (h : F27 x0 x1 x2 = some r) : CO 27 [.agg (d29 x0), .agg (d36 x1), .d (I x2)] [] (.tup [.d (I r.1), .d (Bo r.2)]) [] := by
 unfold F27 at h
 refine co 50 Tryz.func27 fun C hC => ?_
 obtain ⟨y1, h2, h⟩ := bE h
 obtain ⟨y3, h4, h⟩ := bE h
 refine ws [] lv27 26 [] [.call 53 [.agg (d29 x0), .agg (d36 x1)] [] (dI y1) [] [], .when [(((y1 != 0) || (decide (x2 < 0))), false)] (.len (ln (x0.Sources.map q139)) (ln x0.Sources)), .when [((((y1 != 0) || (decide (x2 < 0))) || (decide (x2 >= (ln x0.Sources)))), false)] (.row (x1.Sources.map q120) x2 (q120 y3))] [] 0 [0, 1] [(2, dI x2), (3, dO 0 0), (4, dO 1 0), (6, dI 0), (7, dB false), (32, dB (c27_0 x0 x2 y1 y3))] [.box 29 (d29 x0), .box 36 (d36 x1)] hC ⟨⟨e53, (k53 x0 x1 _ h2)⟩, fun hg => lM _ _, fun hg => rg (gg h4 hg), trivial⟩ trivial ?_
 rcases bC ((c27_0 x0 x2 y1 y3)) with h5 | h5
 ·replace h := cT h5 h
  replace h := sI h
  subst h
  exact wr [((c27_0 x0 x2 y1 y3), true)] lv27 24 [true] [] [] [.tmp 6, .tmp 7] 0 [] hC trivial ⟨h5, trivial⟩
 ·replace h := cF h5 h
  obtain ⟨y6, h7, h⟩ := bE h
  obtain ⟨y8, h9, h⟩ := bE h
  obtain ⟨y10, h11, h⟩ := bE h
  refine ws [((c27_0 x0 x2 y1 y3), false)] lv27 28 [false] [.call 77 [.agg (d29 x0), dI 2, dI x2] [] (dS 0) [v0_ y6] [], .row (y6.map pI) 0 (pI y8), .row (y6.map pI) ((0 : Nat) : Int) (pI y8), .row (x1.Closed.map pB) y8 (pB y10)] [] 0 [0] [(3, dO 0 0), (6, dI 0), (7, dB false), (8, dI y8), (43, dB (!y10))] [.box 29 (d29 x0)] hC ⟨⟨e77, (k77 x0 2 x2 _ h7)⟩, rg h9, rN h9, rg h11, trivial⟩ ⟨h5, trivial⟩ ?_
  rcases bC (!y10) with h12 | h12
  ·replace h := cT h12 h
   replace h := sI h
   subst h
   exact wr [(!y10, true)] lv27 24 [true] [] [] [.tmp 6, .tmp 7] 0 [] hC trivial ⟨h12, trivial⟩
  ·replace h := cF h12 h
   obtain ⟨y13, h14, h⟩ := bE h
   replace h := sI h
   subst h
   exact wr [(!y10, false)] lv27 25 [false] [.row (x0.Breakers.map q147) y8 (q147 y13)] [] [.tmp 6, .tmp 7] 0 [] hC ⟨rg h14, trivial⟩ ⟨h12, trivial⟩
def e27 := en Tryz.func27
def lv48 : List Nat := [0, 1, 2, 3, 4, 6, 7, 9, 24, 27, 28, 29, 30, 37]
def st48_0 (y4 : (List Int)) (n0 : Nat) (z0 : Unit) : St := [(3, dO 0 0), (4, dO 1 0), (6, dI 0), (7, dB false), (27, dS 2), (28, dI (ln y4)), (29, dI (cnt 0 n0))]
def R48_0 (x0 : api_Board) (x1 : api_Power) (y4 : (List Int)) (n0 : Nat) (z0 : Unit) : List Res := [.box 29 (d29 x0), .box 36 (d36 x1), v0_ y4]
def sa48_0  (z0 : Unit) : St := [(6, dI 0), (7, dB false)]
def Ra48_0  (z0 : Unit) : List Res := []
theorem k48 (x0 : api_Board) (x1 : api_Power) (x2 : Int) (r : Int × Bool) (h : F48 x0 x1 x2 = some r) : CO 48 [.agg (d29 x0), .agg (d36 x1), .d (I x2)] [] (.tup [.d (I r.1), .d (Bo r.2)]) [] := by
 unfold F48 at h
 refine co 45 Tryz.func48 fun C hC => ?_
 obtain ⟨y1, h2, h⟩ := bE h
 refine ws [] lv48 26 [] [.call 53 [.agg (d29 x0), .agg (d36 x1)] [] (dI y1) [] [], .when [(((y1 != 0) || (decide (x2 < 0))), false)] (.len (ln (x0.Consumers.map q65)) (ln x0.Consumers))] [] 0 [0, 1] [(2, dI x2), (3, dO 0 0), (4, dO 1 0), (6, dI 0), (7, dB false), (24, dB (c48_0 x0 x2 y1))] [.box 29 (d29 x0), .box 36 (d36 x1)] hC ⟨⟨e53, (k53 x0 x1 _ h2)⟩, fun hg => lM _ _, trivial⟩ trivial ?_
 rcases bC ((c48_0 x0 x2 y1)) with h3 | h3
 ·replace h := cT h3 h
  replace h := sI h
  subst h
  exact wr [((c48_0 x0 x2 y1), true)] lv48 24 [true] [] [] [.tmp 6, .tmp 7] 0 [] hC trivial ⟨h3, trivial⟩
 ·replace h := cF h3 h
  obtain ⟨y4, h5, h⟩ := bE h
  refine ws [((c48_0 x0 x2 y1), false)] lv48 26 [false] [.call 77 [.agg (d29 x0), dI 3, dI x2] [] (dS 0) [v0_ y4] [], .len (ln (y4.map pI)) (ln y4)] [] 0 n3_ (st48_0 y4 0 ()) (R48_0 x0 x1 y4 0 ()) hC ⟨⟨e77, (k77 x0 3 x2 _ h5)⟩, lM _ _, trivial⟩ ⟨h3, trivial⟩ ?_
  obtain ⟨w0, hm0, hret0, hnext0⟩ := aIn h
  clear h
  refine wc w0 (sa48_0) (Ra48_0) ?_ fun z0 hs0 => ?_
  ·refine wb ?_
   refine wO 27 2 rfl rfl fun hl0 => ?_
   refine wF (by kernel_rfl) (F48_l0 x0 x1) (st48_0 y4) (R48_0 x0 x1 y4) w0 y4 () hm0 rfl rfl (fun z0 hn0 => ?_) fun n0 a0 z0 w0b hi0 hx0 h hb0 hr0 => ?_
   ·clear hm0
    exact wx [(decide ((cnt 0 y4.length) < (ln y4)), false)] w0 (sa48_0) (Ra48_0) lv48 26 [false] [] [] 0 [] () hC trivial ⟨(cE hl0), trivial⟩ hn0
   ·unfold F48_l0 at h
    obtain ⟨y6, h7, h⟩ := bE h
    rcases bC (y6) with h8 | h8
    ·replace h := cT h8 h
     obtain ⟨y9, h10, h⟩ := bE h
     have hq := hret0 _ (hr0 _ (sI h).symm)
     replace hq := sI hq
     subst hq
     exact wr [(decide ((cnt 0 n0) < (ln y4)), true), (y6, true)] lv48 35 [true, true] [.row (y4.map pI) (cnt 0 n0) (pI a0), .row (y4.map pI) (((Int.toNat (cnt 0 n0)) : Nat) : Int) (pI a0), .row (x1.Closed.map pB) a0 (pB y6), .row (x0.Breakers.map q147) a0 (q147 y9)] [] [.tmp 6, .tmp 7] 0 [] hC ⟨rg (gC hx0 hl0), rN (gC hx0 hl0), rg h7, rg h10, trivial⟩ ⟨(cL hi0 hl0), h8, trivial⟩
    ·replace h := cF h8 h
     exact wx [(decide ((cnt 0 n0) < (ln y4)), true), (y6, false)] w0b (st48_0 y4 (n0 + 1)) (R48_0 x0 x1 y4 (n0 + 1)) lv48 36 [true, false] [.row (y4.map pI) (cnt 0 n0) (pI a0), .row (y4.map pI) (((Int.toNat (cnt 0 n0)) : Nat) : Int) (pI a0), .row (x1.Closed.map pB) a0 (pB y6)] [] 0 n3_ () hC ⟨rg (gC hx0 hl0), rN (gC hx0 hl0), rg h7, trivial⟩ ⟨(cL hi0 hl0), h8, trivial⟩ (sI h).symm
  ·have h := hnext0 _ hs0
   replace h := sI h
   subst h
   exact wr [] lv48 23 [] [] [] [.tmp 6, .tmp 7] 0 [] hC trivial trivial
def e48 := en Tryz.func48
theorem k86 (x0 : Int) (r : (List api_Roster)) (h : F86 x0 = some r) : CO 86 [.d (I x0)] [] (.d (.os 0)) [v2_ r] := by
 unfold F86 at h
 refine co 7 Tryz.func86 fun C hC => ?_
 obtain ⟨y1, h2, h⟩ := bE h
 replace h := sI h
 subst h
 exact wr [] [0, 2] 25 [] [.call 139 [.d (DS q130 [(⟨(-1), (-1)⟩ : api_Roster)]), dI x0] [] (dS 0) [v2_ y1] []] [] [.tmp 2] 0 [0] hC ⟨⟨e139, (k139 [(⟨(-1), (-1)⟩ : api_Roster)] x0 _ h2)⟩, trivial⟩ trivial
def e86 := en Tryz.func86
theorem k61s0 (x0 : List api_Roster) (x1c0c0 : api_Plant) (r : Bool × api_Plant) (h : F61s0 x0 x1c0c0 = some r) : CO 61 [.d (DS q130 x0), .d (.fn (.func 62) [] [.o 0 0])] [.box 126 [.fn (.func 58) [] [.o 1 0]], .box 40 (d40 x1c0c0)] (.d (Bo r.1)) [.box 126 [.fn (.func 58) [] [.o 1 0]], .box 40 (d40 r.2)] := by
 unfold F61s0 at h
 refine co 9 Tryz.func61 fun C hC => ?_
 obtain ⟨y1, h2, h⟩ := bE h
 replace h := sI h
 subst h
 exact wr [] [0, 1, 4] 25 [] [.call 122 [.d (DS q130 x0), .d (.fn (.func 62) [] [.o 0 0])] [.box 126 [.fn (.func 58) [] [.o 1 0]], .box 40 (d40 x1c0c0)] (dI y1.1) [.box 126 [.fn (.func 58) [] [.o 1 0]], .box 40 (d40 y1.2)] [0, 1]] [] [.tmp 4] 2 [0, 1] hC ⟨⟨e122s0, (k122s0 x0 x1c0c0 _ h2)⟩, trivial⟩ trivial
def e61s0 := en Tryz.func61
theorem k221s0 (x0 : restore_worker) (x1 : Int) (r : Bool) (h : F221s0 x0 x1 = some r) : CO 221 [.d (.ip [.v (.int .i64 x0.board.Buses), .s (x0.board.Breakers.map q147), .s (x0.board.Sources.map q139), .s (x0.board.Consumers.map q65), .v (.int .i64 x0.board.Phase), .v (.int .i64 x0.board.Frequency), .s (x0.power.Closed.map pB), .s (x0.power.Sources.map q120), .s (x0.power.Limits.map pI), .s (x0.power.Broken.map q86), .v (.int .i64 x0.time)]), .d (I x1)] [] (.d (Bo r)) [] := by
 unfold F221s0 at h
 refine co 19 Tryz.func221 fun C hC => ?_
 obtain ⟨y1, h2, h⟩ := bE h
 obtain ⟨y3, h4, h⟩ := bE h
 replace h := sI h
 subst h
 exact wr [] [0, 1, 4] 25 [] [.call 239 [.agg (d29 x0.board), dI x1] [] (dI y1) [] [], .row (x0.power.Closed.map pB) y1 (pB y3)] [] [.tmp 4] 0 [] hC ⟨⟨e239, (k239 x0.board x1 _ h2)⟩, rg h4, trivial⟩ trivial
def e221s0 := en Tryz.func221
theorem k231s0 (x0 : Int) (x1 : Int) (x2 : shed_relief) (r : Bool × shed_relief) (h : F231s0 x0 x1 x2 = some r) : CO 231 [.d (I x0), .d (I x1), .d (.o 0 0)] (.box 211 [.o 1 0] :: .box 235 (zb x2.board [.os 2, .os 3, .os 4, .os 5, .os 6]) :: zp x2.power [v6_ x2.acts]) (.d (Bo r.1)) (.box 211 [.o 1 0] :: .box 235 (zb r.2.board [.os 2, .os 3, .os 4, .os 5, .os 6]) :: zp r.2.power [v6_ r.2.acts]) := by
 unfold F231s0 at h
 refine co 13 Tryz.func231 fun C hC => ?_
 obtain ⟨y1, h2, h⟩ := bE h
 replace h := sI h
 subst h
 exact wr [] [0, 1, 2, 5] 25 [] [.callB 103 [.agg (d36 x2.power), dI x0, dI x1] (dB y1) [[]] 0 []] [] [.tmp 5] 7 n7_ hC ⟨l0g ⟨e103, (k103 x2.power x0 x1 _ h2)⟩, trivial⟩ trivial
def e231s0 := en Tryz.func231
def lv158s3 : List Nat := [0, 1, 4, 5, 7, 8, 9, 16]
def st158s3_0 (x0 : List Int) (n0 : Nat) (z0 : Unit) : St := [(0, dS 0), (1, .d (.fn (.func 209) [] [.o 1 0])), (4, dI 0), (7, dI (ln x0)), (8, dI (cnt 0 n0))]
def R158s3_0 (x0 : List Int) (x1c0 : api_Island) (n0 : Nat) (z0 : Unit) : List Res := [v0_ x0, .box 84 (d84 x1c0)]
def sa158s3_0  (z0 : Unit) : St := [(4, dI 0)]
def Ra158s3_0 (x0 : List Int) (x1c0 : api_Island) (z0 : Unit) : List Res := [v0_ x0, .box 84 (d84 x1c0)]
theorem k158s3 (x0 : List Int) (x1c0 : api_Island) (r : Int × api_Island) (h : F158s3 x0 x1c0 = some r) : CO 158 [.d (.os 0), .d (.fn (.func 209) [] [.o 1 0])] [v0_ x0, .box 84 (d84 x1c0)] (.d (I r.1)) [v0_ x0, .box 84 (d84 r.2)] := by
 unfold F158s3 at h
 refine co 19 Tryz.func158 fun C hC => ?_
 refine ws [] lv158s3 26 [] [.len (ln (x0.map pI)) (ln x0)] [] 2 [0, 1] (st158s3_0 x0 0 ()) (R158s3_0 x0 x1c0 0 ()) hC ⟨lM _ _, trivial⟩ trivial ?_
 obtain ⟨w0, hm0, hret0, hnext0⟩ := aIn h
 clear h
 refine wc w0 (sa158s3_0) (Ra158s3_0 x0 x1c0) ?_ fun z0 hs0 => ?_
 ·refine wb ?_
  refine wO 0 0 rfl rfl fun hl0 => ?_
  refine wF (by kernel_rfl) (F158s3_l0 x1c0) (st158s3_0 x0) (R158s3_0 x0 x1c0) w0 x0 () hm0 rfl rfl (fun z0 hn0 => ?_) fun n0 a0 z0 w0b hi0 hx0 h hb0 hr0 => ?_
  ·clear hm0
   exact wx [(decide ((cnt 0 x0.length) < (ln x0)), false)] w0 (sa158s3_0) (Ra158s3_0 x0 x1c0) lv158s3 26 [false] [] [] 2 [0, 1] () hC trivial ⟨(cE hl0), trivial⟩ hn0
  ·unfold F158s3_l0 at h
   obtain ⟨y1, h2, h⟩ := bE h
   refine ws [(decide ((cnt 0 n0) < (ln x0)), true)] lv158s3 32 [true] [.row (x0.map pI) (cnt 0 n0) (pI a0), .row (x0.map pI) (((Int.toNat (cnt 0 n0)) : Nat) : Int) (pI a0), .callB 209 [dI a0, .d (.ip [.s (x1c0.Buses.map pI), .s (x1c0.Sources.map pI), .s (x1c0.Consumers.map pI)])] (dB y1) [[]] 0 []] [] 2 [0, 1] [(0, dS 0), (1, .d (.fn (.func 209) [] [.o 1 0])), (4, dI 0), (5, dI (cnt 0 n0)), (7, dI (ln x0)), (8, dI (cnt 0 n0)), (16, dB y1)] [v0_ x0, .box 84 (d84 x1c0)] hC ⟨rg (gC hx0 hl0), rN (gC hx0 hl0), l0g ⟨e209s0, (k209s0 a0 x1c0 _ h2)⟩, trivial⟩ ⟨(cL hi0 hl0), trivial⟩ ?_
   rcases bC (y1) with h3 | h3
   ·replace h := cT h3 h
    have hq := hret0 _ (hr0 _ (sI h).symm)
    replace hq := sI hq
    subst hq
    exact wr [(y1, true)] lv158s3 24 [true] [] [] [.tmp 4] 2 [0, 1] hC trivial ⟨h3, trivial⟩
   ·replace h := cF h3 h
    exact wx [(y1, false)] w0b (st158s3_0 x0 (n0 + 1)) (R158s3_0 x0 x1c0 (n0 + 1)) lv158s3 25 [false] [] [] 2 [0, 1] () hC trivial ⟨h3, trivial⟩ (sI h).symm
 ·have h := hnext0 _ hs0
  replace h := sI h
  subst h
  exact wr [] lv158s3 23 [] [] [] [.tmp 4] 2 [0, 1] hC trivial trivial
def e158s3 := en Tryz.func158
theorem k215 (x0 : api_Board) (x1 : api_Power) (x2 : api_Island) (x3 : Int) (r : Bool) (h : F215 x0 x1 x2 x3 = some r) : CO 215 [.agg (d29 x0), .agg (d36 x1), .agg (d84 x2), .d (I x3)] [] (.d (Bo r)) [] := by
 unfold F215 at h
 refine co 58 Tryz.func215 fun C hC => ?_
 obtain ⟨y1, h2, h⟩ := bE h
 obtain ⟨y3, h4, h⟩ := bE h
 obtain ⟨y5, h6, h⟩ := bE h
 obtain ⟨y7, h8, h⟩ := bE h
 obtain ⟨y9, h10, h⟩ := bE h
 obtain ⟨y11, h12, h⟩ := bE h
 obtain ⟨y13, h14, h⟩ := bE h
 obtain ⟨y15, h16, h⟩ := bE h
 replace h := sI h
 subst h
 exact wr [] [0, 1, 2, 3, 4, 5, 6, 8, 9, 10, 11] 31 [] [.call 180 [.agg (d29 x0), dI x3] [] (dI y1) [] [], .row (x0.Breakers.map q147) y1 (q147 y3), .call 103 [.agg (d36 x1), dI 1, dI x3] [] (dB y5) [] [], .when [(y5, false)] (.call 103 [.agg (d36 x1), dI 2, dI y1] [] (dB y7) [] []), .when [((y5 || y7), false)] (.call 103 [.agg (d36 x1), dI 3, dI y3.A] [] (dB y9) [] []), .when [(!((y5 || y7) || y9), true)] (.call 190 [.d (DS pI x2.Buses), dI y3.A] [] (dB y11) [] []), .when [(((!((y5 || y7) || y9)) && y11), true)] (.call 190 [.d (DS pI x2.Sources), dI x3] [] (dB y13) [] []), .when [((((!((y5 || y7) || y9)) && y11) && (!y13)), true)] (.row (x1.Sources.map q120) x3 (q120 y15))] [] [.tmp 8] 0 [] hC ⟨⟨e180, (k180 x0 x3 _ h2)⟩, rg h4, ⟨e103, (k103 x1 1 x3 _ h6)⟩, fun hg => ⟨e103, (k103 x1 2 y1 _ (gg h8 hg))⟩, fun hg => ⟨e103, (k103 x1 3 y3.A _ (gg h10 hg))⟩, fun hg => ⟨e190, (k190 x2.Buses y3.A _ (gg h12 hg))⟩, fun hg => ⟨e190, (k190 x2.Sources x3 _ (gg h14 hg))⟩, fun hg => rg (gg h16 hg), trivial⟩ trivial
def e215 := en Tryz.func215
def st41_0  (z0 : Int × (List Int) × Int × (List api_Arc)) : St := [(0, dO 0 0), (2, dO 1 0), (3, dO 2 0), (4, dI z0.1)]
def R41_0 (y1 : Int × dynposmake_Src) (y3 : Int × dynposmake_Src) (y5 : Int × dynposmake_Src) (y7 : Int × dynposmake_Src) (y9 : Int × dynposmake_Src) (z0 : Int × (List Int) × Int × (List api_Arc)) : List Res := [.box 90 [DS pI z0.2.1, I z0.2.2.1], .box 63 [I 0, I 0, I 0, I 0, I 0, .os 3], .box 63 [I y1.1, I y3.1, I y5.1, I y7.1, I y9.1, .os 4], .sl 159 2 (([] : List api_Arc).map q159), .sl 159 2 (z0.2.2.2.map q159)]
def sa41_0  (z0 : Int × (List Int) × Int × (List api_Arc)) : St := [(2, dO 1 0), (3, dO 2 0)]
def Ra41_0 (y1 : Int × dynposmake_Src) (y3 : Int × dynposmake_Src) (y5 : Int × dynposmake_Src) (y7 : Int × dynposmake_Src) (y9 : Int × dynposmake_Src) (z0 : Int × (List Int) × Int × (List api_Arc)) : List Res := [.box 90 [DS pI z0.2.1, I z0.2.2.1], .box 63 [I 0, I 0, I 0, I 0, I 0, .os 3], .box 63 [I y1.1, I y3.1, I y5.1, I y7.1, I y9.1, .os 4], .sl 159 2 (([] : List api_Arc).map q159), .sl 159 2 (z0.2.2.2.map q159)]
theorem k41 (x0 : dynposmake_Src) (r : api_Thruster × dynposmake_Src) (h : F41 x0 = some r) : CO 41 [.d (.o 0 0)] [.box 90 (d90 x0)] (.agg [I r.1.Kind, I r.1.Station, I r.1.Max, I r.1.Rate, I r.1.Cost, .os 1]) [.box 90 (d90 r.2), .sl 159 2 (r.1.Forbidden.map q159)] := by
 unfold F41 at h
 refine co 33 Tryz.func41 fun C hC => ?_
 obtain ⟨y1, h2, h⟩ := bE h
 obtain ⟨y3, h4, h⟩ := bE h
 obtain ⟨y5, h6, h⟩ := bE h
 obtain ⟨y7, h8, h⟩ := bE h
 obtain ⟨y9, h10, h⟩ := bE h
 obtain ⟨y11, h12, h⟩ := bE h
 refine ws [] [0, 2, 3, 4, 22] 28 [] [.call 78 [dO 0 0, dI 1, dI 3] [.box 90 (d90 x0)] (dI y1.1) [.box 90 (d90 y1.2)] [0], .call 32 [dO 0 0, dI 2] [.box 90 (d90 y1.2)] (dI y3.1) [.box 90 (d90 y3.2)] [0], .call 40 [dO 0 0, .d (DS pI [0, 1, 7, 20, 40])] [.box 90 (d90 y3.2)] (dI y5.1) [.box 90 (d90 y5.2)] [0], .call 40 [dO 0 0, .d (DS pI [0, 1, 5, 50])] [.box 90 (d90 y5.2)] (dI y7.1) [.box 90 (d90 y7.2)] [0], .call 40 [dO 0 0, .d (DS pI [1, 2, 3, 100])] [.box 90 (d90 y7.2)] (dI y9.1) [.box 90 (d90 y9.2)] [0], .call 32 [dO 0 0, dI 3] [.box 90 (d90 y9.2)] (dI y11.1) [.box 90 (d90 y11.2)] [0]] [.ownb 1 5 159 2, .ownb 2 5 159 2] 1 n5_ (st41_0 (y11.1, y11.2.L, y11.2.At, ([] : List api_Arc))) (R41_0 y1 y3 y5 y7 y9 (y11.1, y11.2.L, y11.2.At, ([] : List api_Arc))) hC ⟨⟨e78, (k78 x0 1 3 _ h2)⟩, ⟨e32, (k32 y1.2 2 _ h4)⟩, ⟨e40, (k40 y3.2 [0, 1, 7, 20, 40] _ h6)⟩, ⟨e40, (k40 y5.2 [0, 1, 5, 50] _ h8)⟩, ⟨e40, (k40 y7.2 [1, 2, 3, 100] _ h10)⟩, ⟨e32, (k32 y9.2 3 _ h12)⟩, trivial⟩ trivial ?_
 obtain ⟨w0, hm0, hret0, hnext0⟩ := aIn h
 clear h
 refine wc w0 (sa41_0) (Ra41_0 y1 y3 y5 y7 y9) ?_ fun z0 hs0 => ?_
 ·refine wb ?_
  refine wW (by kernel_rfl) F41_l0 (st41_0) (R41_0 y1 y3 y5 y7 y9) w0 1152921504606846976 (y11.1, y11.2.L, y11.2.At, ([] : List api_Arc)) hm0 rfl rfl fun z0 w0b h hb0 hr0 => ?_
  unfold F41_l0 at h
  rcases bC (decide (z0.1 > 0)) with h13 | h13
  ·replace h := cT h13 h
   obtain ⟨y14, h15, h⟩ := bE h
   obtain ⟨y16, h17, h⟩ := bE h
   exact wx [(decide (z0.1 > 0), true)] w0b (st41_0) (R41_0 y1 y3 y5 y7 y9) [0, 2, 3, 4, 22] 31 [true] [.call 91 [dO 0 0] [.box 90 [DS pI z0.2.1, I z0.2.2.1]] (.agg (d159 y14.1)) [.box 90 (d90 y14.2)] [0], .app (z0.2.2.2.map q159) ([y14.1].map q159) 2 (((z0.2.2.2.map q159).length + ([y14.1].map q159).length) * (16 + 1)) (y16.map q159)] [] 1 [0, 1, 2, 3, 5] (w64 (z0.1 - 1), y14.2.L, y14.2.At, y16) hC ⟨⟨e91, (k91 (⟨z0.2.1, z0.2.2.1⟩ : dynposmake_Src) _ h15)⟩, aG q159 2 (fun _ => rfl) h17, trivial⟩ ⟨h13, trivial⟩ (sI h).symm
  ·replace h := cF h13 h
   exact wx [(decide (z0.1 > 0), false)] w0 (sa41_0) (Ra41_0 y1 y3 y5 y7 y9) [0, 2, 3, 4, 22] 26 [false] [] [] 1 n5_ (z0.1, z0.2.1, z0.2.2.1, (g3z_ z0)) hC trivial ⟨h13, trivial⟩ (hb0 _ (sI h).symm)
 ·have h := hnext0 _ hs0
  replace h := sI h
  subst h
  exact wr [] [0, 2, 3, 4, 22] 23 [] [] [] [.cell 2 63] 1 [0, 4] hC trivial trivial
def e41 := en Tryz.func41
def lv196s0 : List Nat := [0, 1, 4, 5, 7, 8, 9, 16]
def st196s0_0 (x0 : List api_Arc) (n0 : Nat) (z0 : Unit) : St := [(0, .d (DS q159 x0)), (1, .d (.fn (.func 150) [] [])), (4, dI 0), (7, dI (ln x0)), (8, dI (cnt 0 n0))]
def R196s0_0  (n0 : Nat) (z0 : Unit) : List Res := []
def sa196s0_0  (z0 : Unit) : St := [(4, dI 0)]
def Ra196s0_0  (z0 : Unit) : List Res := []
theorem k196s0 (x0 : List api_Arc) (r : Int) (h : F196s0 x0 = some r) : CO 196 [.d (DS q159 x0), .d (.fn (.func 150) [] [])] [] (.d (I r)) [] := by
 unfold F196s0 at h
 refine co 19 Tryz.func196 fun C hC => ?_
 refine ws [] lv196s0 26 [] [.len (ln (x0.map q159)) (ln x0)] [] 0 [] (st196s0_0 x0 0 ()) (R196s0_0 0 ()) hC ⟨lM _ _, trivial⟩ trivial ?_
 obtain ⟨w0, hm0, hret0, hnext0⟩ := aIn h
 clear h
 refine wc w0 (sa196s0_0) (Ra196s0_0) ?_ fun z0 hs0 => ?_
 ·refine wb ?_
  refine wL 0 rfl fun hl0 => ?_
  refine wF (by kernel_rfl) F196s0_l0 (st196s0_0 x0) (R196s0_0) w0 x0 () hm0 rfl rfl (fun z0 hn0 => ?_) fun n0 a0 z0 w0b hi0 hx0 h hb0 hr0 => ?_
  ·clear hm0
   exact wx [(decide ((cnt 0 x0.length) < (ln x0)), false)] w0 (sa196s0_0) (Ra196s0_0) lv196s0 26 [false] [] [] 0 [] () hC trivial ⟨(cE hl0), trivial⟩ hn0
  ·unfold F196s0_l0 at h
   rcases bC (F150 a0) with h1 | h1
   ·replace h := cT h1 h
    have hq := hret0 _ (hr0 _ (sI h).symm)
    replace hq := sI hq
    subst hq
    exact wr [(decide ((cnt 0 n0) < (ln x0)), true), (F150 a0, true)] lv196s0 35 [true, true] [.row (x0.map q159) (cnt 0 n0) (q159 a0), .call 150 [.agg (d159 a0)] [] (dB (F150 a0)) [] []] [] [.tmp 4] 0 [] hC ⟨(rC hx0 hl0), ⟨e150, (k150 a0 _ rfl)⟩, trivial⟩ ⟨(cL hi0 hl0), h1, trivial⟩
   ·replace h := cF h1 h
    exact wx [(decide ((cnt 0 n0) < (ln x0)), true), (F150 a0, false)] w0b (st196s0_0 x0 (n0 + 1)) (R196s0_0 (n0 + 1)) lv196s0 36 [true, false] [.row (x0.map q159) (cnt 0 n0) (q159 a0), .call 150 [.agg (d159 a0)] [] (dB (F150 a0)) [] []] [] 0 [] () hC ⟨(rC hx0 hl0), ⟨e150, (k150 a0 _ rfl)⟩, trivial⟩ ⟨(cL hi0 hl0), h1, trivial⟩ (sI h).symm
 ·have h := hnext0 _ hs0
  replace h := sI h
  subst h
  exact wr [] lv196s0 23 [] [] [] [.tmp 4] 0 [] hC trivial trivial
def e196s0 := en Tryz.func196
def lv85 : List Nat := [0, 1, 2, 3, 5, 6, 7, 29, 43, 44, 45, 46, 56, 57, 58, 59, 71]
def st85_0 (x0 : api_Board) (n0 : Nat) (z0 : Bool) : St := [(1, dO 0 0), (2, dI 0), (3, dB z0), (43, .d (DS q139 x0.Sources)), (44, dI (ln x0.Sources)), (45, dI (cnt 0 n0))]
def R85_0 (x0 : api_Board) (n0 : Nat) (z0 : Bool) : List Res := [.box 29 (d29 x0)]
def sa85_0  (z0 : Bool) : St := [(1, dO 0 0), (2, dI 0), (3, dB z0)]
def Ra85_0 (x0 : api_Board) (z0 : Bool) : List Res := [.box 29 (d29 x0)]
def st85_1 (x0 : api_Board) (n1 : Nat) (z1 : Bool) : St := [(2, dI 0), (3, dB z1), (56, .d (DS q65 x0.Consumers)), (57, dI (ln x0.Consumers)), (58, dI (cnt 0 n1))]
def R85_1  (n1 : Nat) (z1 : Bool) : List Res := []
def sa85_1  (z1 : Bool) : St := [(2, dI 0), (3, dB z1)]
def Ra85_1  (z1 : Bool) : List Res := []
theorem k85 (x0 : api_Board) (r : Int) (h : F85 x0 = some r) : CO 85 [.agg (d29 x0)] [] (.d (I r)) [] := by
 unfold F85 at h
 refine co 72 Tryz.func85 fun C hC => ?_
 refine ws [] lv85 26 [] [.call 99 [dI x0.Buses, dI 1, dI 6] [] (dB (F99 x0.Buses 1 6)) [] [], .when [(!(F99 x0.Buses 1 6), false)] (.len (ln (x0.Breakers.map q147)) (ln x0.Breakers)), .when [(((!(F99 x0.Buses 1 6)) || (decide ((ln x0.Breakers) > 24))), false)] (.len (ln (x0.Sources.map q139)) (ln x0.Sources)), .when [((((!(F99 x0.Buses 1 6)) || (decide ((ln x0.Breakers) > 24))) || (decide ((ln x0.Sources) > 8))), false)] (.len (ln (x0.Consumers.map q65)) (ln x0.Consumers))] [] 0 [0] [(1, dO 0 0), (2, dI 0), (29, dB (c85_0 x0))] [.box 29 (d29 x0)] hC ⟨⟨e99, (k99 x0.Buses 1 6 _ rfl)⟩, fun hg => lM _ _, fun hg => lM _ _, fun hg => lM _ _, trivial⟩ trivial ?_
 rcases bC ((c85_0 x0)) with h1 | h1
 ·replace h := cT h1 h
  replace h := sI h
  subst h
  exact wr [((c85_0 x0), true)] lv85 24 [true] [] [] [.tmp 2] 0 [] hC trivial ⟨h1, trivial⟩
 ·replace h := cF h1 h
  obtain ⟨y2, h3, h⟩ := bE h
  refine ws [((c85_0 x0), false)] lv85 28 [false] [.call 136 [.agg (d29 x0)] [] (dB y2) [] [], .when [(y2, true)] (.call 99 [dI x0.Phase, dI 0, dI 1800] [] (dB (F99 x0.Phase 0 1800)) [] []), .when [((y2 && (F99 x0.Phase 0 1800)), true)] (.call 99 [dI x0.Frequency, dI 0, dI 6000] [] (dB (F99 x0.Frequency 0 6000)) [] []), .len (ln (x0.Sources.map q139)) (ln x0.Sources)] [] 0 [0] (st85_0 x0 0 ((y2 && (F99 x0.Phase 0 1800)) && (F99 x0.Frequency 0 6000))) (R85_0 x0 0 ((y2 && (F99 x0.Phase 0 1800)) && (F99 x0.Frequency 0 6000))) hC ⟨⟨e136, (k136 x0 _ h3)⟩, fun hg => ⟨e99, (k99 x0.Phase 0 1800 _ rfl)⟩, fun hg => ⟨e99, (k99 x0.Frequency 0 6000 _ rfl)⟩, lM _ _, trivial⟩ ⟨h1, trivial⟩ ?_
  obtain ⟨w0, hm0, hret0, hnext0⟩ := aIn h
  clear h
  refine wc w0 (sa85_0) (Ra85_0 x0) ?_ fun z0 hs0 => ?_
  ·refine wb ?_
   refine wL 43 rfl fun hl0 => ?_
   refine wF (by kernel_rfl) F85_l0 (st85_0 x0) (R85_0 x0) w0 x0.Sources ((y2 && (F99 x0.Phase 0 1800)) && (F99 x0.Frequency 0 6000)) hm0 rfl rfl (fun z0 hn0 => ?_) fun n0 a0 z0 w0b hi0 hx0 h hb0 hr0 => ?_
   ·clear hm0
    exact wx [(decide ((cnt 0 x0.Sources.length) < (ln x0.Sources)), false)] w0 (sa85_0) (Ra85_0 x0) lv85 26 [false] [] [] 0 [0] z0 hC trivial ⟨(cE hl0), trivial⟩ hn0
   ·unfold F85_l0 at h
    exact wx [(decide ((cnt 0 n0) < (ln x0.Sources)), true)] w0b (st85_0 x0 (n0 + 1)) (R85_0 x0 (n0 + 1)) lv85 33 [true] [.row (x0.Sources.map q139) (cnt 0 n0) (q139 a0), .when [(z0, true)] (.call 137 [.agg (d139 a0)] [] (dB (F137 a0)) [] [])] [] 0 [0] (z0 && (F137 a0)) hC ⟨(rC hx0 hl0), fun hg => ⟨e137, (k137 a0 _ rfl)⟩, trivial⟩ ⟨(cL hi0 hl0), trivial⟩ (sI h).symm
  ·have h := hnext0 _ hs0
   refine ws [] lv85 24 [] [.len (ln (x0.Consumers.map q65)) (ln x0.Consumers)] [] 0 [] (st85_1 x0 0 z0) (R85_1 0 z0) hC ⟨lM _ _, trivial⟩ trivial ?_
   obtain ⟨w1, hm1, hret1, hnext1⟩ := aIn h
   clear h
   refine wc w1 (sa85_1) (Ra85_1) ?_ fun z1 hs1 => ?_
   ·refine wb ?_
    refine wL 56 rfl fun hl1 => ?_
    refine wF (by kernel_rfl) F85_l1 (st85_1 x0) (R85_1) w1 x0.Consumers z0 hm1 rfl rfl (fun z1 hn1 => ?_) fun n1 a1 z1 w1b hi1 hx1 h hb1 hr1 => ?_
    ·clear hm1
     exact wx [(decide ((cnt 0 x0.Consumers.length) < (ln x0.Consumers)), false)] w1 (sa85_1) (Ra85_1) lv85 26 [false] [] [] 0 [] z1 hC trivial ⟨(cE hl1), trivial⟩ hn1
    ·unfold F85_l1 at h
     obtain ⟨y4, h5, h⟩ := bE h
     exact wx [(decide ((cnt 0 n1) < (ln x0.Consumers)), true)] w1b (st85_1 x0 (n1 + 1)) (R85_1 (n1 + 1)) lv85 33 [true] [.row (x0.Consumers.map q65) (cnt 0 n1) (q65 a1), .when [(z1, true)] (.call 138 [.agg (d65 a1), dI (cnt 0 n1)] [] (dB y4) [] [])] [] 0 [] (z1 && y4) hC ⟨(rC hx1 hl1), fun hg => ⟨e138, (k138 a1 (cnt 0 n1) _ (gg h5 hg))⟩, trivial⟩ ⟨(cL hi1 hl1), trivial⟩ (sI h).symm
   ·have h := hnext1 _ hs1
    rcases bC (!z1) with h6 | h6
    ·replace h := cT h6 h
     replace h := sI h
     subst h
     exact wr [(!z1, true)] lv85 27 [true] [] [] [.tmp 2] 0 [] hC trivial ⟨h6, trivial⟩
    ·replace h := cF h6 h
     replace h := sI h
     subst h
     exact wr [(!z1, false)] lv85 28 [false] [] [] [.tmp 2] 0 [] hC trivial ⟨h6, trivial⟩
def e85 := en Tryz.func85
theorem k96s0 (x0 : List api_Running) (r : Bool) (h : F96s0 x0 = some r) : CO 96 [.d (DS q120 x0), .d (.fn (.func 97) [] [])] [] (.d (Bo r)) [] := by
 unfold F96s0 at h
 refine co 9 Tryz.func96 fun C hC => ?_
 obtain ⟨y1, h2, h⟩ := bE h
 replace h := sI h
 subst h
 exact wr [] [0, 1, 4] 25 [] [.call 155 [.d (DS q120 x0), .d (.fn (.func 97) [] [])] [] (dI y1) [] []] [] [.tmp 4] 0 [] hC ⟨⟨e155s0, (k155s0 x0 _ h2)⟩, trivial⟩ trivial
def e96s0 := en Tryz.func96
def lv17 : List Nat := [0, 1, 2, 3, 4, 5, 13]
theorem k17 (x0 : api_Thruster) (x1 : api_Thrust) (r : Int × Int) (h : F17 x0 x1 = some r) : CO 17 [.agg (d63 x0), .agg (d70 x1)] [] (.tup [.d (I r.1), .d (I r.2)]) [] := by
 unfold F17 at h
 refine co 31 Tryz.func17 fun C hC => ?_
 obtain ⟨y1, h2, h⟩ := bE h
 refine ws [] lv17 26 [] [.call 50 [.agg (d63 x0)] [] (dB y1) [] [], .when [(!y1, false)] (.call 51 [.agg (d70 x1)] [] (dB (F51 x1)) [] [])] [] 0 [0, 1] [(2, dO 0 0), (3, dO 1 0), (4, dI 0), (5, dI 0), (13, dB ((!y1) || (!(F51 x1))))] [.box 63 (d63 x0), .box 70 (d70 x1)] hC ⟨⟨e50, (k50 x0 _ h2)⟩, fun hg => ⟨e51, (k51 x1 _ rfl)⟩, trivial⟩ trivial ?_
 rcases bC (((!y1) || (!(F51 x1)))) with h3 | h3
 ·replace h := cT h3 h
  replace h := sI h
  subst h
  exact wr [(((!y1) || (!(F51 x1))), true)] lv17 24 [true] [] [] [.tmp 4, .tmp 5] 0 [] hC trivial ⟨h3, trivial⟩
 ·replace h := cF h3 h
  obtain ⟨y4, h5, h⟩ := bE h
  replace h := sI h
  subst h
  exact wr [(((!y1) || (!(F51 x1))), false)] lv17 25 [false] [.call 52 [.d (I (w64 ((w64 ((w64 (x1.X * x1.X)) + (w64 (x1.Y * x1.Y)))) * x0.Cost))), dI 1000] [] (.tup [dI y4.1, dI y4.2]) [] []] [] [.tmp 4, .tmp 5] 0 [] hC ⟨⟨e52, (k52 (w64 ((w64 ((w64 (x1.X * x1.X)) + (w64 (x1.Y * x1.Y)))) * x0.Cost)) 1000 _ h5)⟩, trivial⟩ ⟨h3, trivial⟩
def e17 := en Tryz.func17
theorem k185s1 (x0 : restore_worker) (x1 : Int) (r : Int × restore_worker) (h : F185s1 x0 x1 = some r) : CO 185 [.d (.o 0 0), .d (I x1)] (.box 186 (zb x0.board [.os 1, .os 2, .os 3, .os 4, I x0.time]) :: zp x0.power []) (.d (I r.1)) (.box 186 (zb r.2.board [.os 1, .os 2, .os 3, .os 4, I r.2.time]) :: zp r.2.power []) := by
 unfold F185s1 at h
 refine co 53 Tryz.func185 fun C hC => ?_
 obtain ⟨y1, h2, h⟩ := bE h
 obtain ⟨y3, h4, h⟩ := bE h
 refine ws [] [0, 1, 4, 5, 23, 43] 26 [] [.row (x0.power.Sources.map q120) x1 (q120 y1), .row (x0.power.Sources.map q120) (((Int.toNat x1) : Nat) : Int) (q120 y1), .when [((y1.State != 0), false)] (.callB 103 [.agg (d36 x0.power), dI 1, dI x1] (dB y3) [[]] 0 [])] [] 5 n5_ [(0, dO 0 0), (1, dI x1), (4, dI 0), (23, dB ((y1.State != 0) || y3))] (.box 186 (zb x0.board [.os 1, .os 2, .os 3, .os 4, I x0.time]) :: zp x0.power []) hC ⟨rg h2, rN h2, fun hg => l0g ⟨e103, (k103 x0.power 1 x1 _ (gg h4 hg))⟩, trivial⟩ trivial ?_
 rcases bC (((y1.State != 0) || y3)) with h5 | h5
 ·replace h := cT h5 h
  cases h
 ·replace h := cF h5 h
  obtain ⟨y6, h7, h⟩ := bE h
  obtain ⟨y8, h9, h⟩ := bE h
  refine ws [(((y1.State != 0) || y3), false)] [0, 1, 4, 5, 23, 43] 28 [false] [.row (x0.board.Sources.map q139) x1 (q139 y6), .when [((y6.Start == 0), true)] (.callB 221 [.d (.ip [.v (.int .i64 x0.board.Buses), .s (x0.board.Breakers.map q147), .s (x0.board.Sources.map q139), .s (x0.board.Consumers.map q65), .v (.int .i64 x0.board.Phase), .v (.int .i64 x0.board.Frequency), .s (x0.power.Closed.map pB), .s (x0.power.Sources.map q120), .s (x0.power.Limits.map pI), .s (x0.power.Broken.map q86), .v (.int .i64 x0.time)]), dI x1] (dB y8) [[]] 0 [])] [] 5 n6_ [(0, dO 0 0), (1, dI x1), (4, dI 0), (5, dO 5 0), (43, dB ((y6.Start == 0) && y8))] (.box 186 (zb x0.board [.os 1, .os 2, .os 3, .os 4, I x0.time]) :: zp x0.power [.box 120 [I 1, I x0.time, I 5000, I 0]]) hC ⟨rg h7, fun hg => l0g ⟨e221s0, (k221s0 x0 x1 _ (gg h9 hg))⟩, trivial⟩ ⟨h5, trivial⟩ ?_
  rcases bC (((y6.Start == 0) && y8)) with h10 | h10
  ·replace h := cT h10 h
   obtain ⟨y11, h12, h⟩ := bE h
   replace h := sI h
   subst h
   exact wr [(((y6.Start == 0) && y8), true)] [0, 1, 4, 5, 23, 43] 27 [true] [.row (x0.power.Sources.map q120) x1 (q120 y1), .upd (x0.power.Sources.map q120) (Int.toNat x1) (q120 y1) (q120 (⟨2, x0.time, 5000, 0⟩ : api_Running)) (y11.map q120)] [] [.tmp 4] 5 n5_ hC ⟨rg h2, uG h2 h12, trivial⟩ ⟨h10, trivial⟩
  ·replace h := cF h10 h
   cases h
def e185s1 := en Tryz.func185
def lv205s1 : List Nat := [0, 1, 2, 3, 4, 5, 7, 12, 20]
theorem k205s1 (x0 : shed_relief) (x1 : api_Breaker) (r : Bool × shed_relief) (h : F205s1 x0 x1 = some r) : CO 205 [.d (.o 0 0), .agg (d147 x1)] (.box 235 (zb x0.board [.os 1, .os 2, .os 3, .os 4, .os 5]) :: zp x0.power [v6_ x0.acts]) (.d (Bo r.1)) (.box 235 (zb r.2.board [.os 1, .os 2, .os 3, .os 4, .os 5]) :: zp r.2.power [v6_ r.2.acts]) := by
 unfold F205s1 at h
 refine co 45 Tryz.func205 fun C hC => ?_
 obtain ⟨y1, h2, h⟩ := bE h
 refine ws [] lv205s1 29 [] [.call 231 [dI 3, dI x1.A, dO 0 0] (.box 211 [.o 1 0] :: .box 235 (zb x0.board [.os 2, .os 3, .os 4, .os 5, .os 6]) :: zp x0.power [v6_ x0.acts]) (dB y1.1) (.box 211 [.o 1 0] :: .box 235 (zb y1.2.board [.os 2, .os 3, .os 4, .os 5, .os 6]) :: zp y1.2.power [v6_ y1.2.acts]) [6, 0, 1, 2, 3, 4, 5]] [] 6 n8_ [(2, dO 6 0), (3, dO 7 0), (4, dB false), (5, .d (.fn (.func 231) [] [.o 6 0])), (7, dB y1.1)] (.box 235 (zb y1.2.board [.os 1, .os 2, .os 3, .os 4, .os 5]) :: zp y1.2.power [v6_ y1.2.acts, .box 211 [.o 0 0], .box 147 (d147 x1)]) hC ⟨⟨e231s0, (k231s0 3 x1.A x0 _ h2)⟩, trivial⟩ trivial ?_
 rcases bC (y1.1) with h3 | h3
 ·replace h := cT h3 h
  cases h
 ·replace h := cF h3 h
  rcases bC ((x1.Kind == 1)) with h4 | h4
  ·replace h := cT h4 h
   cases h
  ·replace h := cF h4 h
   rcases bC ((x1.Kind == 2)) with h5 | h5
   ·replace h := cT h5 h
    obtain ⟨y6, h7, h⟩ := bE h
    obtain ⟨y8, h9, h⟩ := bE h
    replace h := sI h
    subst h
    exact wr [(y1.1, false), ((x1.Kind == 1), false), ((x1.Kind == 2), true)] lv205s1 30 [false, false, true] [.call 231 [dI 1, dI x1.B, dO 0 0] (.box 211 [.o 1 0] :: .box 235 (zb y1.2.board [.os 2, .os 3, .os 4, .os 5, .os 6]) :: zp y1.2.power [v6_ y1.2.acts]) (dB y6.1) (.box 211 [.o 1 0] :: .box 235 (zb y6.2.board [.os 2, .os 3, .os 4, .os 5, .os 6]) :: zp y6.2.power [v6_ y6.2.acts]) [6, 0, 1, 2, 3, 4, 5], .when [(y6.1, false)] (.row (y6.2.power.Sources.map q120) x1.B (q120 y8)), .when [(y6.1, false)] (.row (y6.2.power.Sources.map q120) (((Int.toNat x1.B) : Nat) : Int) (q120 y8))] [] [.tmp 4] 6 n6_ hC ⟨⟨e231s0, (k231s0 1 x1.B y1.2 _ h7)⟩, fun hg => rg (gg h9 hg), fun hg => rN (gg h9 hg), trivial⟩ ⟨h3, h4, h5, trivial⟩
   ·replace h := cF h5 h
    obtain ⟨y10, h11, h⟩ := bE h
    replace h := sI h
    subst h
    exact wr [(y1.1, false), ((x1.Kind == 1), false), ((x1.Kind == 2), false)] lv205s1 32 [false, false, false] [.call 231 [dI 4, dI x1.B, dO 0 0] (.box 211 [.o 1 0] :: .box 235 (zb y1.2.board [.os 2, .os 3, .os 4, .os 5, .os 6]) :: zp y1.2.power [v6_ y1.2.acts]) (dB y10.1) (.box 211 [.o 1 0] :: .box 235 (zb y10.2.board [.os 2, .os 3, .os 4, .os 5, .os 6]) :: zp y10.2.power [v6_ y10.2.acts]) [6, 0, 1, 2, 3, 4, 5]] [] [.tmp 4] 6 n6_ hC ⟨⟨e231s0, (k231s0 4 x1.B y1.2 _ h11)⟩, trivial⟩ ⟨h3, h4, h5, trivial⟩
def e205s1 := en Tryz.func205
def lv208s1 : List Nat := [0, 1, 4, 5, 6, 7, 12, 19, 29]
def st208s1_0 (y1 : Int × api_Island) (z0 : Unit) : St := [(0, dS 0), (1, .d (.fn (.func 209) [] [.o 1 0])), (4, .d (DS pI [])), (5, dI y1.1), (6, dI (w64 (y1.1 + 1)))]
def R208s1_0 (x0 : List Int) (y1 : Int × api_Island) (z0 : Unit) : List Res := [v0_ x0, .box 84 (d84 y1.2)]
def sa208s1_0 (y1 : Int × api_Island) (z0 : Unit) : St := [(0, dS 0), (4, .d (DS pI [])), (5, dI y1.1)]
def Ra208s1_0 (x0 : List Int) (y1 : Int × api_Island) (z0 : Unit) : List Res := [v0_ x0, .box 84 (d84 y1.2)]
theorem k208s1 (x0 : List Int) (x1c0 : api_Island) (r : (List Int) × api_Island) (h : F208s1 x0 x1c0 = some r) : CO 208 [.d (.os 0), .d (.fn (.func 209) [] [.o 1 0])] [v0_ x0, .box 84 (d84 x1c0)] (.d (.os 2)) [.non, .box 84 (d84 r.2), v0_ r.1] := by
 unfold F208s1 at h
 refine co 42 Tryz.func208 fun C hC => ?_
 obtain ⟨y1, h2, h⟩ := bE h
 refine ws [] lv208s1 28 [] [.call 158 [dS 0, .d (.fn (.func 209) [] [.o 1 0])] [v0_ x0, .box 84 (d84 x1c0)] (dI y1.1) [v0_ x0, .box 84 (d84 y1.2)] [0, 1]] [] 2 [0, 1] [(0, dS 0), (1, .d (.fn (.func 209) [] [.o 1 0])), (4, .d (DS pI [])), (5, dI y1.1), (12, dB (y1.1 == (-1)))] [v0_ x0, .box 84 (d84 y1.2)] hC ⟨⟨e158s3, (k158s3 x0 x1c0 _ h2)⟩, trivial⟩ trivial ?_
 rcases bC ((y1.1 == (-1))) with h3 | h3
 ·replace h := cT h3 h
  replace h := sI h
  subst h
  exact wr [((y1.1 == (-1)), true)] lv208s1 24 [true] [] [.mv 0] [.tmp 4] 2 n3_ hC trivial ⟨h3, trivial⟩
 ·replace h := cF h3 h
  refine ws [((y1.1 == (-1)), false)] lv208s1 26 [false] [] [] 2 [0, 1] (st208s1_0 y1 ()) (R208s1_0 x0 y1 ()) hC trivial ⟨h3, trivial⟩ ?_
  obtain ⟨w0, hm0, hret0, hnext0⟩ := aIn h
  clear h
  refine wc w0 (sa208s1_0 y1) (Ra208s1_0 x0 y1) ?_ fun z0 hs0 => ?_
  ·refine wb ?_
   refine wW (by kernel_rfl) (F208s1_l0 x0 y1) (st208s1_0 y1) (R208s1_0 x0 y1) w0 1152921504606846976 () hm0 rfl rfl fun z0 w0b h hb0 hr0 => ?_
   unfold F208s1_l0 at h
   rcases bC ((c208s1_1 x0 y1)) with h4 | h4
   ·replace h := cT h4 h
    cases h
   ·replace h := cF h4 h
    exact wx [((c208s1_1 x0 y1), false)] w0 (sa208s1_0 y1) (Ra208s1_0 x0 y1) lv208s1 26 [false] [.len (ln (x0.map pI)) (ln x0)] [] 2 [0, 1] () hC ⟨lM _ _, trivial⟩ ⟨h4, trivial⟩ (hb0 _ (sI h).symm)
  ·have h := hnext0 _ hs0
   obtain ⟨u6, h5, h⟩ := bE h
   obtain ⟨u8, h7, h⟩ := bE h
   replace h := sI h
   subst h
   (rw [List.map_take]; exact WI_ret (bs := []) mixed lv208s1 25 [] [.bnd (x0.map pI).length y1.1 (((x0.map pI).length : Nat) : Int) (ln x0), .eqr ((x0.map pI).take (Int.toNat y1.1) ++ (List.replicate ((Int.toNat (ln x0)) - (Int.toNat y1.1)) (pI 0) ++ (x0.map pI).drop ((Int.toNat y1.1) + ((Int.toNat (ln x0)) - (Int.toNat y1.1))))) ((clrI x0 (Int.toNat y1.1) ((Int.toNat (ln x0)) - (Int.toNat y1.1)) 0).map pI), .bnd ((clrI x0 (Int.toNat y1.1) ((Int.toNat (ln x0)) - (Int.toNat y1.1)) 0).map pI).length 0 y1.1 y1.1] [.trunc 4] [.tmp 4] 2 n3_ rfl hC ⟨bnd_get (by simp) (by simp) h5, clr_get pI rfl, bnd_get (by simp) rfl h7, trivial⟩ trivial (by kernel_rfl))
def e208s1 := en Tryz.func208
def lv54 : List Nat := [0, 1, 2, 3, 4, 6, 7, 8, 9, 10, 11, 12, 13, 14, 28, 37, 38, 39, 54, 64, 65, 66, 81]
def st54_0 (x0 : api_Board) (z0 : Int × (List Int)) : St := [(3, dO 0 0), (4, dO 1 0), (6, dO 2 0), (7, dB false), (8, dO 7 0), (37, dI (ln x0.Sources)), (38, dI z0.1)]
def R54_0 (x0 : api_Board) (x1 : api_Power) (y4 : (List Int)) (z0 : Int × (List Int)) : List Res := [.box 29 (d29 x0), .box 36 (d36 x1), .box 84 [.os 3, .os 4, .os 5], v0_ ([] : List Int), v0_ ([] : List Int), v0_ ([] : List Int), v0_ y4, .box 84 [.os 6, .os 8, .os 9], v0_ z0.2, v0_ ([] : List Int)]
def sa54_0  (z0 : Int × (List Int)) : St := [(3, dO 0 0), (4, dO 1 0), (6, dO 2 0), (7, dB false), (8, dO 7 0)]
def Ra54_0 (x0 : api_Board) (x1 : api_Power) (y4 : (List Int)) (z0 : Int × (List Int)) : List Res := [.box 29 (d29 x0), .box 36 (d36 x1), .box 84 [.os 3, .os 4, .os 5], v0_ ([] : List Int), v0_ ([] : List Int), v0_ ([] : List Int), v0_ y4, .box 84 [.os 6, .os 8, .os 9], v0_ z0.2, v0_ ([] : List Int)]
def st54_1 (x0 : api_Board) (z1 : Int × (List Int)) : St := [(3, dO 0 0), (4, dO 1 0), (6, dO 2 0), (7, dB false), (8, dO 7 0), (64, dI (ln x0.Consumers)), (65, dI z1.1)]
def R54_1 (x0 : api_Board) (x1 : api_Power) (y4 : (List Int)) (z0 : Int × (List Int)) (z1 : Int × (List Int)) : List Res := [.box 29 (d29 x0), .box 36 (d36 x1), .box 84 [.os 3, .os 4, .os 5], v0_ ([] : List Int), v0_ ([] : List Int), v0_ ([] : List Int), v0_ y4, .box 84 [.os 6, .os 8, .os 9], v0_ z0.2, v0_ z1.2]
def sa54_1  (z1 : Int × (List Int)) : St := [(6, dO 0 0), (7, dB false), (8, dO 5 0)]
def Ra54_1 (y4 : (List Int)) (z0 : Int × (List Int)) (z1 : Int × (List Int)) : List Res := [.box 84 [.os 1, .os 2, .os 3], v0_ ([] : List Int), v0_ ([] : List Int), v0_ ([] : List Int), v0_ y4, .box 84 [.os 4, .os 6, .os 7], v0_ z0.2, v0_ z1.2]
theorem k54 (x0 : api_Board) (x1 : api_Power) (x2 : Int) (r : api_Island × Bool) (h : F54 x0 x1 x2 = some r) : CO 54 [.agg (d29 x0), .agg (d36 x1), .d (I x2)] [] (.tup [.agg [.os 0, .os 1, .os 2], .d (Bo r.2)]) [v0_ r.1.Buses, v0_ r.1.Sources, v0_ r.1.Consumers] := by
 unfold F54 at h
 refine co 90 Tryz.func54 fun C hC => ?_
 obtain ⟨y1, h2, h⟩ := bE h
 refine ws [] lv54 26 [] [.call 53 [.agg (d29 x0), .agg (d36 x1)] [] (dI y1) [] []] [.ownb 2 0 3 1, .ownb 2 1 3 1, .ownb 2 2 3 1] 0 n6_ [(2, dI x2), (3, dO 0 0), (4, dO 1 0), (6, dO 2 0), (7, dB false), (28, dB (c54_0 x0 x2 y1))] [.box 29 (d29 x0), .box 36 (d36 x1), .box 84 [.os 3, .os 4, .os 5], v0_ ([] : List Int), v0_ ([] : List Int), v0_ ([] : List Int)] hC ⟨⟨e53, (k53 x0 x1 _ h2)⟩, trivial⟩ trivial ?_
 rcases bC ((c54_0 x0 x2 y1)) with h3 | h3
 ·replace h := cT h3 h
  replace h := sI h
  subst h
  exact wr [((c54_0 x0 x2 y1), true)] lv54 24 [true] [] [.ownb 2 0 3 1, .ownb 2 1 3 1, .ownb 2 2 3 1] [.cell 6 84, .tmp 7] 0 [6, 7, 8] hC trivial ⟨h3, trivial⟩
 ·replace h := cF h3 h
  obtain ⟨y4, h5, h⟩ := bE h
  refine ws [((c54_0 x0 x2 y1), false)] lv54 28 [false] [.call 114 [.agg (d29 x0), .agg (d36 x1), dI x2] [] (dS 0) [v0_ y4] [], .len (ln (x0.Sources.map q139)) (ln x0.Sources)] [.ownb 7 1 3 1, .ownb 7 2 3 1] 0 n10_ (st54_0 x0 (0, ([] : List Int))) (R54_0 x0 x1 y4 (0, ([] : List Int))) hC ⟨⟨e114, (k114 x0 x1 x2 _ h5)⟩, lM _ _, trivial⟩ ⟨h3, trivial⟩ ?_
  obtain ⟨w0, hm0, hret0, hnext0⟩ := aIn h
  clear h
  refine wc w0 (sa54_0) (Ra54_0 x0 x1 y4) ?_ fun z0 hs0 => ?_
  ·refine wb ?_
   refine wW (by kernel_rfl) (F54_l0 x0 x1 y4) (st54_0 x0) (R54_0 x0 x1 y4) w0 1152921504606846976 (0, ([] : List Int)) hm0 rfl rfl fun z0 w0b h hb0 hr0 => ?_
   unfold F54_l0 at h
   rcases bC ((c54_2 x0 z0)) with h6 | h6
   ·replace h := cT h6 h
    obtain ⟨y7, h8, h⟩ := bE h
    obtain ⟨y9, h10, h⟩ := bE h
    refine ws [((c54_2 x0 z0), true)] lv54 34 [true] [.call 27 [.agg (d29 x0), .agg (d36 x1), dI z0.1] [] (.tup [dI y7.1, dB y7.2]) [] [], .when [(y7.2, true)] (.callB 55 [.d (DS pI y4), dI y7.1] (dB y9) [[]] 0 [])] [] 0 n10_ [(3, dO 0 0), (4, dO 1 0), (6, dO 2 0), (7, dB false), (8, dO 7 0), (9, dI z0.1), (37, dI (ln x0.Sources)), (38, dI z0.1), (54, dB (y7.2 && y9))] [.box 29 (d29 x0), .box 36 (d36 x1), .box 84 [.os 3, .os 4, .os 5], v0_ ([] : List Int), v0_ ([] : List Int), v0_ ([] : List Int), v0_ y4, .box 84 [.os 6, .os 8, .os 9], v0_ z0.2, v0_ ([] : List Int)] hC ⟨⟨e27, (k27 x0 x1 z0.1 _ h8)⟩, fun hg => l0g ⟨e55, (k55 y4 y7.1 _ (gg h10 hg))⟩, trivial⟩ ⟨h6, trivial⟩ ?_
    rcases bC ((y7.2 && y9)) with h11 | h11
    ·replace h := cT h11 h
     obtain ⟨y12, h13, h⟩ := bE h
     exact wx [((y7.2 && y9), true)] w0b (st54_0 x0) (R54_0 x0 x1 y4) lv54 25 [true] [.app (z0.2.map pI) ([z0.1].map pI) 1 (((z0.2.map pI).length + ([z0.1].map pI).length) * (8 + 1)) (y12.map pI)] [] 0 [0, 1, 2, 3, 4, 5, 6, 7, 10, 9] (w64 (z0.1 + 1), y12) hC ⟨aG pI 1 (fun _ => rfl) h13, trivial⟩ ⟨h11, trivial⟩ (sI h).symm
    ·replace h := cF h11 h
     exact wx [((y7.2 && y9), false)] w0b (st54_0 x0) (R54_0 x0 x1 y4) lv54 25 [false] [] [] 0 n10_ (w64 (z0.1 + 1), z0.2) hC trivial ⟨h11, trivial⟩ (sI h).symm
   ·replace h := cF h6 h
    exact wx [((c54_2 x0 z0), false)] w0 (sa54_0) (Ra54_0 x0 x1 y4) lv54 26 [false] [] [] 0 n10_ (z0.1, z0.2) hC trivial ⟨h6, trivial⟩ (hb0 _ (sI h).symm)
  ·have h := hnext0 _ hs0
   refine ws [] lv54 24 [] [.len (ln (x0.Consumers.map q65)) (ln x0.Consumers)] [] 0 n10_ (st54_1 x0 (0, ([] : List Int))) (R54_1 x0 x1 y4 z0 (0, ([] : List Int))) hC ⟨lM _ _, trivial⟩ trivial ?_
   obtain ⟨w1, hm1, hret1, hnext1⟩ := aIn h
   clear h
   refine wc w1 (sa54_1) (Ra54_1 y4 z0) ?_ fun z1 hs1 => ?_
   ·refine wb ?_
    refine wW (by kernel_rfl) (F54_l1 x0 x1 y4) (st54_1 x0) (R54_1 x0 x1 y4 z0) w1 1152921504606846976 (0, ([] : List Int)) hm1 rfl rfl fun z1 w1b h hb1 hr1 => ?_
    unfold F54_l1 at h
    rcases bC ((c54_4 x0 z1)) with h14 | h14
    ·replace h := cT h14 h
     obtain ⟨y15, h16, h⟩ := bE h
     obtain ⟨y17, h18, h⟩ := bE h
     refine ws [((c54_4 x0 z1), true)] lv54 34 [true] [.call 48 [.agg (d29 x0), .agg (d36 x1), dI z1.1] [] (.tup [dI y15.1, dB y15.2]) [] [], .when [(y15.2, true)] (.callB 55 [.d (DS pI y4), dI y15.1] (dB y17) [[]] 0 [])] [] 0 n10_ [(3, dO 0 0), (4, dO 1 0), (6, dO 2 0), (7, dB false), (8, dO 7 0), (12, dI z1.1), (64, dI (ln x0.Consumers)), (65, dI z1.1), (81, dB (y15.2 && y17))] [.box 29 (d29 x0), .box 36 (d36 x1), .box 84 [.os 3, .os 4, .os 5], v0_ ([] : List Int), v0_ ([] : List Int), v0_ ([] : List Int), v0_ y4, .box 84 [.os 6, .os 8, .os 9], v0_ z0.2, v0_ z1.2] hC ⟨⟨e48, (k48 x0 x1 z1.1 _ h16)⟩, fun hg => l0g ⟨e55, (k55 y4 y15.1 _ (gg h18 hg))⟩, trivial⟩ ⟨h14, trivial⟩ ?_
     rcases bC ((y15.2 && y17)) with h19 | h19
     ·replace h := cT h19 h
      obtain ⟨y20, h21, h⟩ := bE h
      exact wx [((y15.2 && y17), true)] w1b (st54_1 x0) (R54_1 x0 x1 y4 z0) lv54 25 [true] [.app (z1.2.map pI) ([z1.1].map pI) 1 (((z1.2.map pI).length + ([z1.1].map pI).length) * (8 + 1)) (y20.map pI)] [] 0 [0, 1, 2, 3, 4, 5, 6, 7, 8, 10] (w64 (z1.1 + 1), y20) hC ⟨aG pI 1 (fun _ => rfl) h21, trivial⟩ ⟨h19, trivial⟩ (sI h).symm
     ·replace h := cF h19 h
      exact wx [((y15.2 && y17), false)] w1b (st54_1 x0) (R54_1 x0 x1 y4 z0) lv54 25 [false] [] [] 0 n10_ (w64 (z1.1 + 1), z1.2) hC trivial ⟨h19, trivial⟩ (sI h).symm
    ·replace h := cF h14 h
     exact wx [((c54_4 x0 z1), false)] w1 (sa54_1) (Ra54_1 y4 z0) lv54 26 [false] [] [] 0 [2, 3, 4, 5, 6, 7, 8, 9] (z1.1, z1.2) hC trivial ⟨h14, trivial⟩ (hb1 _ (sI h).symm)
   ·have h := hnext1 _ hs1
    replace h := sI h
    subst h
    exact wr [] lv54 23 [] [] [] [.cell 6 84, .tmp 7] 0 [4, 6, 7] hC trivial trivial
def e54 := en Tryz.func54
def st14_0  (z0 : Sg6) : St := [(0, dO 0 0), (4, dO 1 0), (5, dO 2 0), (6, dI z0.1)]
def R14_0 (y1 : Int × dynposmake_Src) (y3 : Int × dynposmake_Src) (z0 : Sg6) : List Res := [.box 90 [DS pI z0.2.1, I z0.2.2.1], .box 57 [I 0, I 0, .os 3], .box 57 [I y1.1, I y3.1, .os 4], v12_ ([] : List api_Thruster), v12_ (g3z_ z0)]
def sa14_0  (z0 : Sg6) : St := [(4, dO 1 0), (5, dO 2 0)]
def Ra14_0 (y1 : Int × dynposmake_Src) (y3 : Int × dynposmake_Src) (z0 : Sg6) : List Res := [.box 90 [DS pI z0.2.1, I z0.2.2.1], .box 57 [I 0, I 0, .os 3], .box 57 [I y1.1, I y3.1, .os 4], v12_ ([] : List api_Thruster), v12_ (g3z_ z0)]
theorem k14 (x0 : dynposmake_Src) (x1 : Int) (r : api_Ship × dynposmake_Src) (h : F14 x0 x1 = some r) : CO 14 [.d (.o 0 0), .d (I x1)] [.box 90 (d90 x0)] (.agg [I r.1.Bow, I r.1.Stern, .os 1]) [.box 90 (d90 r.2), v12_ r.1.Thrusters] := by
 unfold F14 at h
 refine co 30 Tryz.func14 fun C hC => ?_
 obtain ⟨y1, h2, h⟩ := bE h
 obtain ⟨y3, h4, h⟩ := bE h
 obtain ⟨y5, h6, h⟩ := bE h
 refine ws [] [0, 1, 4, 5, 6, 19] 28 [] [.call 40 [dO 0 0, .d (DS pI [0, 1, 30, 60])] [.box 90 (d90 x0)] (dI y1.1) [.box 90 (d90 y1.2)] [0], .call 40 [dO 0 0, .d (DS pI [1, 25, 40])] [.box 90 (d90 y1.2)] (dI y3.1) [.box 90 (d90 y3.2)] [0], .call 32 [dO 0 0, dI (w64 (x1 + 1))] [.box 90 (d90 y3.2)] (dI y5.1) [.box 90 (d90 y5.2)] [0]] [.ownb 1 2 63 6, .ownb 2 2 63 6] 1 n5_ (st14_0 (y5.1, y5.2.L, y5.2.At, ([] : List api_Thruster))) (R14_0 y1 y3 (y5.1, y5.2.L, y5.2.At, ([] : List api_Thruster))) hC ⟨⟨e40, (k40 x0 [0, 1, 30, 60] _ h2)⟩, ⟨e40, (k40 y1.2 [1, 25, 40] _ h4)⟩, ⟨e32, (k32 y3.2 (w64 (x1 + 1)) _ h6)⟩, trivial⟩ trivial ?_
 obtain ⟨w0, hm0, hret0, hnext0⟩ := aIn h
 clear h
 refine wc w0 (sa14_0) (Ra14_0 y1 y3) ?_ fun z0 hs0 => ?_
 ·refine wb ?_
  refine wW (by kernel_rfl) F14_l0 (st14_0) (R14_0 y1 y3) w0 1152921504606846976 (y5.1, y5.2.L, y5.2.At, ([] : List api_Thruster)) hm0 rfl rfl fun z0 w0b h hb0 hr0 => ?_
  unfold F14_l0 at h
  rcases bC (decide (z0.1 > 0)) with h7 | h7
  ·replace h := cT h7 h
   obtain ⟨y10, h11, h⟩ := bE h
   obtain ⟨y12, h13, h⟩ := bE h
   exact wx [(decide (z0.1 > 0), true)] w0b (st14_0) (R14_0 y1 y3) [0, 1, 4, 5, 6, 19] 31 [true] [.call 41 [dO 0 0] [.box 90 [DS pI z0.2.1, I z0.2.2.1]] (.agg (d63 y10.1)) [.box 90 (d90 y10.2), .non] [0], .app (z0.2.2.2.map q63) ([y10.1].map q63) 6 (((z0.2.2.2.map q63).length + ([y10.1].map q63).length) * (64 + 1)) (y12.map q63)] [] 1 [0, 1, 2, 3, 6] (w64 (z0.1 - 1), y10.2.L, y10.2.At, y12) hC ⟨⟨e41, (CK.frzAll [1] (show CO 41 [dO 0 0] [.box 90 [DS pI z0.2.1, I z0.2.2.1]] (.agg [I y10.1.Kind, I y10.1.Station, I y10.1.Max, I y10.1.Rate, I y10.1.Cost, .os 1]) [.box 90 (d90 y10.2), .sl 159 2 (y10.1.Forbidden.map q159)] from (k41 (⟨z0.2.1, z0.2.2.1⟩ : dynposmake_Src) _ h11)) (by kernel_rfl))⟩, aG q63 6 (fun _ => rfl) h13, trivial⟩ ⟨h7, trivial⟩ (sI h).symm
  ·replace h := cF h7 h
   exact wx [(decide (z0.1 > 0), false)] w0 (sa14_0) (Ra14_0 y1 y3) [0, 1, 4, 5, 6, 19] 26 [false] [] [] 1 n5_ (z0.1, z0.2.1, z0.2.2.1, (g3z_ z0)) hC trivial ⟨h7, trivial⟩ (hb0 _ (sI h).symm)
 ·have h := hnext0 _ hs0
  replace h := sI h
  subst h
  exact wr [] [0, 1, 4, 5, 6, 19] 23 [] [] [] [.cell 4 57] 1 [0, 4] hC trivial trivial
def e14 := en Tryz.func14
theorem k149s0 (x0 : List api_Arc) (r : Bool) (h : F149s0 x0 = some r) : CO 149 [.d (DS q159 x0), .d (.fn (.func 150) [] [])] [] (.d (Bo r)) [] := by
 unfold F149s0 at h
 refine co 9 Tryz.func149 fun C hC => ?_
 obtain ⟨y1, h2, h⟩ := bE h
 replace h := sI h
 subst h
 exact wr [] [0, 1, 4] 25 [] [.call 196 [.d (DS q159 x0), .d (.fn (.func 150) [] [])] [] (dI y1) [] []] [] [.tmp 4] 0 [] hC ⟨⟨e196s0, (k196s0 x0 _ h2)⟩, trivial⟩ trivial
def e149s0 := en Tryz.func149
def lv43 : List Nat := [0, 1, 2, 3, 4, 5, 6, 7, 8, 12, 38, 50, 51, 52, 53, 77]
def st43_0 (x1 : api_Power) (n0 : Nat) (z0 : Bool) : St := [(2, dO 0 0), (3, dO 1 0), (4, dI 0), (6, dB z0), (50, .d (DS pI x1.Limits)), (51, dI (ln x1.Limits)), (52, dI (cnt 0 n0))]
def R43_0 (x0 : api_Board) (x1 : api_Power) (n0 : Nat) (z0 : Bool) : List Res := [.box 29 (d29 x0), .box 36 (d36 x1)]
def sa43_0  (z0 : Bool) : St := [(4, dI 0), (6, dB z0)]
def Ra43_0  (z0 : Bool) : List Res := []
theorem k43 (x0 : api_Board) (x1 : api_Power) (r : Int) (h : F43 x0 x1 = some r) : CO 43 [.agg (d29 x0), .agg (d36 x1)] [] (.d (I r)) [] := by
 unfold F43 at h
 refine co 78 Tryz.func43 fun C hC => ?_
 obtain ⟨y1, h2, h⟩ := bE h
 rcases bC ((y1 != 0)) with h3 | h3
 ·replace h := cT h3 h
  replace h := sI h
  subst h
  exact wr [((y1 != 0), true)] lv43 31 [true] [.call 85 [.agg (d29 x0)] [] (dI y1) [] []] [] [.tmp 4] 0 [] hC ⟨⟨e85, (k85 x0 _ h2)⟩, trivial⟩ ⟨h3, trivial⟩
 ·replace h := cF h3 h
  refine ws [((y1 != 0), false)] lv43 33 [false] [.call 85 [.agg (d29 x0)] [] (dI y1) [] [], .len (ln (x1.Closed.map pB)) (ln x1.Closed), .len (ln (x0.Breakers.map q147)) (ln x0.Breakers), .when [(((ln x1.Closed) != (ln x0.Breakers)), false)] (.len (ln (x1.Sources.map q120)) (ln x1.Sources)), .when [(((ln x1.Closed) != (ln x0.Breakers)), false)] (.len (ln (x0.Sources.map q139)) (ln x0.Sources)), .when [((((ln x1.Closed) != (ln x0.Breakers)) || ((ln x1.Sources) != (ln x0.Sources))), false)] (.len (ln (x1.Limits.map pI)) (ln x1.Limits)), .when [((((ln x1.Closed) != (ln x0.Breakers)) || ((ln x1.Sources) != (ln x0.Sources))), false)] (.len (ln (x0.Consumers.map q65)) (ln x0.Consumers))] [] 0 [0, 1] [(2, dO 0 0), (3, dO 1 0), (4, dI 0), (38, dB (c43_0 x0 x1))] [.box 29 (d29 x0), .box 36 (d36 x1)] hC ⟨⟨e85, (k85 x0 _ h2)⟩, lM _ _, lM _ _, fun hg => lM _ _, fun hg => lM _ _, fun hg => lM _ _, fun hg => lM _ _, trivial⟩ ⟨h3, trivial⟩ ?_
  rcases bC ((c43_0 x0 x1)) with h4 | h4
  ·replace h := cT h4 h
   replace h := sI h
   subst h
   exact wr [((c43_0 x0 x1), true)] lv43 24 [true] [] [] [.tmp 4] 0 [] hC trivial ⟨h4, trivial⟩
  ·replace h := cF h4 h
   obtain ⟨y5, h6, h⟩ := bE h
   obtain ⟨y7, h8, h⟩ := bE h
   refine ws [((c43_0 x0 x1), false)] lv43 28 [false] [.call 95 [.agg (d29 x0), .d (DS q86 x1.Broken)] [] (dB y5) [] [], .when [(y5, true)] (.call 96 [.d (DS q120 x1.Sources), .d (.fn (.func 97) [] [])] [] (dB y7) [] []), .len (ln (x1.Limits.map pI)) (ln x1.Limits)] [] 0 [0, 1] (st43_0 x1 0 (y5 && (!y7))) (R43_0 x0 x1 0 (y5 && (!y7))) hC ⟨⟨e95, (k95 x0 x1.Broken _ h6)⟩, fun hg => ⟨e96s0, (k96s0 x1.Sources _ (gg h8 hg))⟩, lM _ _, trivial⟩ ⟨h4, trivial⟩ ?_
   obtain ⟨w0, hm0, hret0, hnext0⟩ := aIn h
   clear h
   refine wc w0 (sa43_0) (Ra43_0) ?_ fun z0 hs0 => ?_
   ·refine wb ?_
    refine wL 50 rfl fun hl0 => ?_
    refine wF (by kernel_rfl) (F43_l0 x0 x1) (st43_0 x1) (R43_0 x0 x1) w0 x1.Limits (y5 && (!y7)) hm0 rfl rfl (fun z0 hn0 => ?_) fun n0 a0 z0 w0b hi0 hx0 h hb0 hr0 => ?_
    ·clear hm0
     exact wx [(decide ((cnt 0 x1.Limits.length) < (ln x1.Limits)), false)] w0 (sa43_0) (Ra43_0) lv43 26 [false] [] [] 0 [] z0 hC trivial ⟨(cE hl0), trivial⟩ hn0
    ·unfold F43_l0 at h
     obtain ⟨y9, h10, h⟩ := bE h
     obtain ⟨y11, h12, h⟩ := bE h
     exact wx [(decide ((cnt 0 n0) < (ln x1.Limits)), true)] w0b (st43_0 x1 (n0 + 1)) (R43_0 x0 x1 (n0 + 1)) lv43 33 [true] [.row (x1.Limits.map pI) (cnt 0 n0) (pI a0), .when [(z0, true)] (.row (x0.Consumers.map q65) (cnt 0 n0) (q65 y9)), .when [(z0, true)] (.call 99 [dI a0, dI 0, dI y9.Load] [] (dB (F99 a0 0 y9.Load)) [] []), .when [((z0 && (F99 a0 0 y9.Load)), true)] (.call 100 [.agg (d29 x0), .agg (d36 x1), dI (cnt 0 n0)] [] (dI y11) [] [])] [] 0 [0, 1] ((z0 && (F99 a0 0 y9.Load)) && (decide (y11 <= 1))) hC ⟨(rC hx0 hl0), fun hg => rg (gg h10 hg), fun hg => ⟨e99, (k99 a0 0 y9.Load _ rfl)⟩, fun hg => ⟨e100, (k100 x0 x1 (cnt 0 n0) _ (gg h12 hg))⟩, trivial⟩ ⟨(cL hi0 hl0), trivial⟩ (sI h).symm
   ·have h := hnext0 _ hs0
    rcases bC (!z0) with h13 | h13
    ·replace h := cT h13 h
     replace h := sI h
     subst h
     exact wr [(!z0, true)] lv43 27 [true] [] [] [.tmp 4] 0 [] hC trivial ⟨h13, trivial⟩
    ·replace h := cF h13 h
     replace h := sI h
     subst h
     exact wr [(!z0, false)] lv43 28 [false] [] [] [.tmp 4] 0 [] hC trivial ⟨h13, trivial⟩
def e43 := en Tryz.func43
def lv36 : List Nat := [0, 1, 2, 3, 4, 5, 6, 7, 9, 12, 17, 41, 42, 43, 44]
def st36_0 (x0 : api_Board) (n0 : Nat) (z0 : (List Int)) : St := [(4, dO 0 0), (5, dI 0), (7, dO 8 0), (41, .d (DS q65 x0.Consumers)), (42, dI (ln x0.Consumers)), (43, dI (cnt 0 n0))]
def R36_0 (y5 : (List api_Roster)) (y7 : List Bool) (y9 : (List api_Running)) (n0 : Nat) (z0 : (List Int)) : List Res := (.box 40 [I 0, .os 1, .os 2, .os 3, .os 4, .os 5, .os 6] :: ze [v2_ ([] : List api_Roster), v1_ ([] : List api_Event), v2_ y5, .box 40 [I 0, .os 9, .os 10, .os 11, .os 12, .os 7, .os 13], v3_ y7, v5_ y9, v0_ z0, v4_ ([] : List api_Part), v1_ ([] : List api_Event)])
def sa36_0  (z0 : (List Int)) : St := [(4, dO 0 0), (5, dI 0), (7, dO 8 0)]
def Ra36_0 (y5 : (List api_Roster)) (y7 : List Bool) (y9 : (List api_Running)) (z0 : (List Int)) : List Res := (.box 40 [I 0, .os 1, .os 2, .os 3, .os 4, .os 5, .os 6] :: ze [v2_ ([] : List api_Roster), v1_ ([] : List api_Event), v2_ y5, .box 40 [I 0, .os 9, .os 10, .os 11, .os 12, .os 7, .os 13], v3_ y7, v5_ y9, v0_ z0, v4_ ([] : List api_Part), v1_ ([] : List api_Event)])
theorem k36 (x0 : api_Board) (x1 : api_Table) (r : api_Plant × Int) (h : F36 x0 x1 = some r) : CO 36 [.agg (d29 x0), .agg (d31 x1)] [] (.tup [.agg [I r.1.Time, .os 0, .os 1, .os 2, .os 3, .os 4, .os 5], .d (I r.2)]) (zp r.1.Power [v2_ r.1.Rosters, v1_ r.1.Events]) := by
 unfold F36 at h
 refine co 58 Tryz.func36 fun C hC => ?_
 obtain ⟨y1, h2, h⟩ := bE h
 rcases bC ((y1 != 0)) with h3 | h3
 ·replace h := cT h3 h
  cases h
 ·replace h := cF h3 h
  refine ws [((y1 != 0), false)] lv36 32 [false] [.call 85 [.agg (d29 x0)] [] (dI y1) [] [], .call 59 [.agg (d31 x1)] [] (dB (F59 x1)) [] []] [.ownb 2 1 4 1, .ownb 2 2 120 4, .ownb 2 3 3 1, .ownb 2 4 86 2, .ownb 2 5 130 2, .ownb 2 6 51 5] 0 [0, 2, 3, 4, 5, 6, 7, 8] [(2, dO 0 0), (4, dO 1 0), (5, dI 0), (17, dB (!(F59 x1)))] (.box 29 (d29 x0) :: .box 40 [I 0, .os 2, .os 3, .os 4, .os 5, .os 6, .os 7] :: ze [v2_ ([] : List api_Roster), v1_ ([] : List api_Event)]) hC ⟨⟨e85, (k85 x0 _ h2)⟩, ⟨e59, (k59 x1 _ rfl)⟩, trivial⟩ ⟨h3, trivial⟩ ?_
  rcases bC (!(F59 x1)) with h4 | h4
  ·replace h := cT h4 h
   cases h
  ·replace h := cF h4 h
   obtain ⟨y5, h6, h⟩ := bE h
   obtain ⟨y7, h8, h⟩ := bE h
   obtain ⟨y9, h10, h⟩ := bE h
   refine ws [(!(F59 x1), false)] lv36 33 [false] [.call 86 [dI x0.Buses] [] (dS 0) [v2_ y5] [], .len (ln (x0.Breakers.map q147)) (ln x0.Breakers), .room ((ln x0.Breakers) * (1 + 1)) (List.replicate (Int.toNat (ln x0.Breakers)) (pB false)) (y7.map pB), .len (ln (x0.Sources.map q139)) (ln x0.Sources), .call 87 [.d (DS q120 [(⟨0, 0, 5000, 0⟩ : api_Running)]), dI (ln x0.Sources)] [] (dS 0) [v5_ y9] [], .len (ln (x0.Consumers.map q65)) (ln x0.Consumers)] [.ownb 9 3 3 1, .ownb 9 4 86 2, .ownb 9 6 51 5] 0 [1, 2, 3, 4, 5, 6, 7, 8, 9, 10, 11, 12, 13, 14] (st36_0 x0 0 ([] : List Int)) (R36_0 y5 y7 y9 0 ([] : List Int)) hC ⟨⟨e86, (k86 x0.Buses _ h6)⟩, lM _ _, make_get h8, lM _ _, ⟨e87, (k87 [(⟨0, 0, 5000, 0⟩ : api_Running)] (ln x0.Sources) _ h10)⟩, lM _ _, trivial⟩ ⟨h4, trivial⟩ ?_
   obtain ⟨w0, hm0, hret0, hnext0⟩ := aIn h
   clear h
   refine wc w0 (sa36_0) (Ra36_0 y5 y7 y9) ?_ fun z0 hs0 => ?_
   ·refine wb ?_
    refine wL 41 rfl fun hl0 => ?_
    refine wF (by kernel_rfl) F36_l0 (st36_0 x0) (R36_0 y5 y7 y9) w0 x0.Consumers ([] : List Int) hm0 rfl rfl (fun z0 hn0 => ?_) fun n0 a0 z0 w0b hi0 hx0 h hb0 hr0 => ?_
    ·clear hm0
     exact wx [(decide ((cnt 0 x0.Consumers.length) < (ln x0.Consumers)), false)] w0 (sa36_0) (Ra36_0 y5 y7 y9) lv36 26 [false] [] [] 0 n14_ z0 hC trivial ⟨(cE hl0), trivial⟩ hn0
    ·unfold F36_l0 at h
     obtain ⟨y11, h12, h⟩ := bE h
     exact wx [(decide ((cnt 0 n0) < (ln x0.Consumers)), true)] w0b (st36_0 x0 (n0 + 1)) (R36_0 y5 y7 y9 (n0 + 1)) lv36 33 [true] [.row (x0.Consumers.map q65) (cnt 0 n0) (q65 a0), .app (z0.map pI) ([a0.Load].map pI) 1 (((z0.map pI).length + ([a0.Load].map pI).length) * (8 + 1)) (y11.map pI)] [] 0 [0, 1, 2, 3, 4, 5, 6, 7, 8, 9, 10, 15, 12, 13] y11 hC ⟨(rC hx0 hl0), aG pI 1 (fun _ => rfl) h12, trivial⟩ ⟨(cL hi0 hl0), trivial⟩ (sI h).symm
   ·have h := hnext0 _ hs0
    replace h := sI h
    subst h
    exact wr [] lv36 23 [] [] [] [.cell 4 40, .tmp 5] 0 [9, 10, 11, 12, 7, 13] hC trivial trivial
def e36 := en Tryz.func36
def lv204s1 : List Nat := [0, 1, 4, 5, 6, 8, 13, 14, 15, 16, 32, 38, 39, 40, 41]
def st204s1_0 (x0 : shed_relief) (n0 : Nat) (z0 : Sg8) : St := [(0, dO 0 0), (1, .d (.fn (.func 205) [.o 0 0] [])), (4, dS 6), (13, .d (DS q147 x0.board.Breakers)), (14, dI (ln x0.board.Breakers)), (15, dI (cnt 0 n0))]
def R204s1_0  (n0 : Nat) (z0 : Sg8) : List Res := [.box 235 [I z0.1, DS q147 z0.2.1, DS q139 z0.2.2.1, DS q65 (g3_ z0), I (g4_ z0), I (g5_ z0), .os 7, .os 8, .os 9, .os 10, .os 11], .non, .non, .non, .non, .non, v0_ (g6_ z0), v3_ (g7_ z0), v5_ (g8_ z0), v0_ (g9_ z0), v4_ (g10_ z0), v6_ (g11z_ z0)]
def sa204s1_0  (z0 : Sg8) : St := [(0, dO 0 0), (4, dS 6)]
def Ra204s1_0  (z0 : Sg8) : List Res := [.box 235 [I z0.1, DS q147 z0.2.1, DS q139 z0.2.2.1, DS q65 (g3_ z0), I (g4_ z0), I (g5_ z0), .os 7, .os 8, .os 9, .os 10, .os 11], .non, .non, .non, .non, .non, v0_ (g6_ z0), v3_ (g7_ z0), v5_ (g8_ z0), v0_ (g9_ z0), v4_ (g10_ z0), v6_ (g11z_ z0)]
def st204s1_1 (z0 : Sg8) (n1 : Nat) (z1 : Sg7) : St := [(0, dO 0 0), (38, dS 6), (39, dI (ln (g6_ z0))), (40, dI (cnt 0 n1))]
def R204s1_1 (z0 : Sg8) (n1 : Nat) (z1 : Sg7) : List Res := [.box 235 [I z1.1, DS q147 z1.2.1, DS q139 z1.2.2.1, DS q65 (g3_ z1), I (g4_ z1), I (g5_ z1), .os 7, .os 8, .os 9, .os 10, .os 11], .non, .non, .non, .non, .non, v0_ (g6_ z0), v3_ (g6_ z1), v5_ (g7_ z1), v0_ (g8_ z1), v4_ (g9_ z1), v6_ (g10z_ z1)]
def sa204s1_1  (z1 : Sg7) : St := []
def Ra204s1_1  (z1 : Sg7) : List Res := [.box 235 [I z1.1, DS q147 z1.2.1, DS q139 z1.2.2.1, DS q65 (g3_ z1), I (g4_ z1), I (g5_ z1), .os 6, .os 7, .os 8, .os 9, .os 10], .non, .non, .non, .non, .non, v3_ (g6_ z1), v5_ (g7_ z1), v0_ (g8_ z1), v4_ (g9_ z1), v6_ (g10z_ z1)]
theorem k204s1 (x0 : shed_relief) (r : shed_relief) (h : F204s1 x0 = some r) : CO 204 [.d (.o 0 0), .d (.fn (.func 205) [.o 0 0] [])] (.box 235 (zb x0.board [.os 1, .os 2, .os 3, .os 4, .os 5]) :: zp x0.power [v6_ x0.acts]) (.tup []) (.box 235 (zb r.board [.os 6, .os 7, .os 8, .os 9, .os 10]) :: .non :: .non :: .non :: .non :: .non :: zp r.power [v6_ r.acts]) := by
 unfold F204s1 at h
 refine co 48 Tryz.func204 fun C hC => ?_
 refine ws [] lv204s1 26 [] [.len (ln (x0.board.Breakers.map q147)) (ln x0.board.Breakers)] [.own 4 3 1, .mv 1, .mv 2, .mv 3, .mv 4, .mv 5] 6 n12_ (st204s1_0 x0 0 (zt x0.board (([] : List Int), zu x0.power x0.acts))) (R204s1_0 0 (zt x0.board (([] : List Int), zu x0.power x0.acts))) hC ⟨lM _ _, trivial⟩ trivial ?_
 obtain ⟨w0, hm0, hret0, hnext0⟩ := aIn h
 clear h
 refine wc w0 (sa204s1_0) (Ra204s1_0) ?_ fun z0 hs0 => ?_
 ·refine wb ?_
  refine wL 13 rfl fun hl0 => ?_
  refine wF (by kernel_rfl) F204s1_l0 (st204s1_0 x0) (R204s1_0) w0 x0.board.Breakers (zt x0.board (([] : List Int), zu x0.power x0.acts)) hm0 rfl rfl (fun z0 hn0 => ?_) fun n0 a0 z0 w0b hi0 hx0 h hb0 hr0 => ?_
  ·clear hm0
   exact wx [(decide ((cnt 0 x0.board.Breakers.length) < (ln x0.board.Breakers)), false)] w0 (sa204s1_0) (Ra204s1_0) lv204s1 26 [false] [] [] 6 n12_ (z0.1, z0.2.1, z0.2.2.1, (g3_ z0), (g4_ z0), (g5_ z0), (g6_ z0), (g7_ z0), (g8_ z0), (g9_ z0), (g10_ z0), (g11z_ z0)) hC trivial ⟨(cE hl0), trivial⟩ hn0
  ·unfold F204s1_l0 at h
   obtain ⟨y1, h2, h⟩ := bE h
   obtain ⟨y3, h4, h⟩ := bE h
   refine ws [(decide ((cnt 0 n0) < (ln x0.board.Breakers)), true)] lv204s1 32 [true] [.row (x0.board.Breakers.map q147) (cnt 0 n0) (q147 a0), .row (z0.2.2.2.2.2.2.2.1.map pB) (cnt 0 n0) (pB y1), .row (z0.2.2.2.2.2.2.2.1.map pB) (((Int.toNat (cnt 0 n0)) : Nat) : Int) (pB y1), .whenR [(y1, true)] (.call 205 [dO 0 0, .agg (d147 a0)] [.box 235 [I z0.1, DS q147 z0.2.1, DS q139 z0.2.2.1, DS q65 (g3_ z0), I (g4_ z0), I (g5_ z0), .os 1, .os 2, .os 3, .os 4, .os 5], v3_ (g7_ z0), v5_ (g8_ z0), v0_ (g9_ z0), v4_ (g10_ z0), v6_ (g11z_ z0)] (dB y3.1) (.box 235 (zb y3.2.board [.os 1, .os 2, .os 3, .os 4, .os 5]) :: zp y3.2.power [v6_ y3.2.acts]) [0, 7, 8, 9, 10, 11])] [] 6 n12_ [(0, dO 0 0), (1, .d (.fn (.func 205) [.o 0 0] [])), (4, dS 6), (5, dI (cnt 0 n0)), (13, .d (DS q147 x0.board.Breakers)), (14, dI (ln x0.board.Breakers)), (15, dI (cnt 0 n0)), (32, dB (y1 && y3.1))] (.box 235 (zb y3.2.board [.os 7, .os 8, .os 9, .os 10, .os 11]) :: .non :: .non :: .non :: .non :: .non :: v0_ (g6_ z0) :: zp y3.2.power [v6_ y3.2.acts]) hC ⟨(rC hx0 hl0), rg h2, rN h2, ⟨fun hg => ⟨e205s1, (k205s1 (⟨(⟨z0.1, z0.2.1, z0.2.2.1, (g3_ z0), (g4_ z0), (g5_ z0)⟩ : api_Board), (⟨(g7_ z0), (g8_ z0), (g9_ z0), (g10_ z0)⟩ : api_Power), (g11z_ z0)⟩ : shed_relief) a0 _ (gg h4 hg))⟩, fun hg => by have e := guardO_not h4 hg; subst e; rfl⟩, trivial⟩ ⟨(cL hi0 hl0), trivial⟩ ?_
   rcases bC ((y1 && y3.1)) with h5 | h5
   ·replace h := cT h5 h
    obtain ⟨y6, h7, h⟩ := bE h
    exact wx [((y1 && y3.1), true)] w0b (st204s1_0 x0 (n0 + 1)) (R204s1_0 (n0 + 1)) lv204s1 25 [true] [.app (z0.2.2.2.2.2.2.1.map pI) ([cnt 0 n0].map pI) 1 (((z0.2.2.2.2.2.2.1.map pI).length + ([cnt 0 n0].map pI).length) * (8 + 1)) (y6.map pI)] [] 6 [0, 1, 2, 3, 4, 5, 12, 7, 8, 9, 10, 11] (zt y3.2.board (y6, zu y3.2.power y3.2.acts)) hC ⟨aG pI 1 (fun _ => rfl) h7, trivial⟩ ⟨h5, trivial⟩ (sI h).symm
   ·replace h := cF h5 h
    exact wx [((y1 && y3.1), false)] w0b (st204s1_0 x0 (n0 + 1)) (R204s1_0 (n0 + 1)) lv204s1 25 [false] [] [] 6 n12_ (zt y3.2.board ((g6_ z0), zu y3.2.power y3.2.acts)) hC trivial ⟨h5, trivial⟩ (sI h).symm
 ·have h := hnext0 _ hs0
  refine ws [] lv204s1 23 [] [.len (ln (z0.2.2.2.2.2.2.1.map pI)) (ln (g6_ z0))] [] 6 n12_ (st204s1_1 z0 0 (z0.1, z0.2.1, z0.2.2.1, (g3_ z0), (g4_ z0), (g5_ z0), (g7_ z0), (g8_ z0), (g9_ z0), (g10_ z0), (g11z_ z0))) (R204s1_1 z0 0 (z0.1, z0.2.1, z0.2.2.1, (g3_ z0), (g4_ z0), (g5_ z0), (g7_ z0), (g8_ z0), (g9_ z0), (g10_ z0), (g11z_ z0))) hC ⟨lM _ _, trivial⟩ trivial ?_
  obtain ⟨w1, hm1, hret1, hnext1⟩ := aIn h
  clear h
  refine wc w1 (sa204s1_1) (Ra204s1_1) ?_ fun z1 hs1 => ?_
  ·refine wb ?_
   refine wO 38 6 rfl rfl fun hl1 => ?_
   refine wF (by kernel_rfl) F204s1_l1 (st204s1_1 z0) (R204s1_1 z0) w1 (g6_ z0) (z0.1, z0.2.1, z0.2.2.1, (g3_ z0), (g4_ z0), (g5_ z0), (g7_ z0), (g8_ z0), (g9_ z0), (g10_ z0), (g11z_ z0)) hm1 rfl rfl (fun z1 hn1 => ?_) fun n1 a1 z1 w1b hi1 hx1 h hb1 hr1 => ?_
   ·clear hm1
    exact wx [(decide ((cnt 0 z0.2.2.2.2.2.2.1.length) < (ln (g6_ z0))), false)] w1 (sa204s1_1) (Ra204s1_1) lv204s1 26 [false] [] [] 6 [0, 1, 2, 3, 4, 5, 7, 8, 9, 10, 11] (z1.1, z1.2.1, z1.2.2.1, (g3_ z1), (g4_ z1), (g5_ z1), (g6_ z1), (g7_ z1), (g8_ z1), (g9_ z1), (g10z_ z1)) hC trivial ⟨(cE hl1), trivial⟩ hn1
   ·unfold F204s1_l1 at h
    obtain ⟨y8, h9, h⟩ := bE h
    exact wx [(decide ((cnt 0 n1) < (ln (g6_ z0))), true)] w1b (st204s1_1 z0 (n1 + 1)) (R204s1_1 z0 (n1 + 1)) lv204s1 33 [true] [.row (z0.2.2.2.2.2.2.1.map pI) (cnt 0 n1) (pI a1), .row (z0.2.2.2.2.2.2.1.map pI) (((Int.toNat (cnt 0 n1)) : Nat) : Int) (pI a1), .call 230 [dO 0 0, dI a1] [.box 235 [I z1.1, DS q147 z1.2.1, DS q139 z1.2.2.1, DS q65 (g3_ z1), I (g4_ z1), I (g5_ z1), .os 1, .os 2, .os 3, .os 4, .os 5], v3_ (g6_ z1), v5_ (g7_ z1), v0_ (g8_ z1), v4_ (g9_ z1), v6_ (g10z_ z1)] (.tup []) (.box 235 (zb y8.board [.os 1, .os 2, .os 3, .os 4, .os 6]) :: zp y8.power [.non, v6_ y8.acts]) [0, 7, 8, 9, 10, 11]] [] 6 [0, 1, 2, 3, 4, 5, 6, 7, 8, 9, 10, 12] (zt y8.board (zu y8.power y8.acts)) hC ⟨rg (gC hx1 hl1), rN (gC hx1 hl1), ⟨e230s1, (k230s1 (⟨(⟨z1.1, z1.2.1, z1.2.2.1, (g3_ z1), (g4_ z1), (g5_ z1)⟩ : api_Board), (⟨(g6_ z1), (g7_ z1), (g8_ z1), (g9_ z1)⟩ : api_Power), (g10z_ z1)⟩ : shed_relief) a1 _ h9)⟩, trivial⟩ ⟨(cL hi1 hl1), trivial⟩ (sI h).symm
  ·have h := hnext1 _ hs1
   replace h := sI h
   subst h
   exact wf [] lv204s1 20 [] [] [] [] 6 n11_ hC trivial trivial
def e204s1 := en Tryz.func204
def lv25 : List Nat := [0, 1, 2, 3, 4, 5, 6, 7, 12, 16, 31]
def st25_0  (z0 : Int × (List api_Island)) : St := [(2, dO 0 0), (3, dO 1 0), (4, .d (DS q84 [])), (5, dS 2), (6, dI z0.1)]
def R25_0 (x0 : api_Board) (x1 : api_Power) (z0 : Int × (List api_Island)) : List Res := [.box 29 (d29 x0), .box 36 (d36 x1), v8_ z0.2]
def sa25_0  (z0 : Int × (List api_Island)) : St := [(4, .d (DS q84 [])), (5, dS 0)]
def Ra25_0  (z0 : Int × (List api_Island)) : List Res := [v8_ z0.2]
theorem k25 (x0 : api_Board) (x1 : api_Power) (r : (List api_Island)) (h : F25 x0 x1 = some r) : CO 25 [.agg (d29 x0), .agg (d36 x1)] [] (.d (.os 0)) [v8_ r] := by
 unfold F25 at h
 refine co 37 Tryz.func25 fun C hC => ?_
 obtain ⟨y1, h2, h⟩ := bE h
 refine ws [] lv25 26 [] [.call 53 [.agg (d29 x0), .agg (d36 x1)] [] (dI y1) [] []] [] 0 [0, 1] [(2, dO 0 0), (3, dO 1 0), (4, .d (DS q84 [])), (12, dB (y1 != 0))] [.box 29 (d29 x0), .box 36 (d36 x1)] hC ⟨⟨e53, (k53 x0 x1 _ h2)⟩, trivial⟩ trivial ?_
 rcases bC ((y1 != 0)) with h3 | h3
 ·replace h := cT h3 h
  replace h := sI h
  subst h
  exact wr [((y1 != 0), true)] lv25 24 [true] [] [.own 4 84 3] [.tmp 4] 0 [2] hC trivial ⟨h3, trivial⟩
 ·replace h := cF h3 h
  refine ws [((y1 != 0), false)] lv25 28 [false] [] [.own 5 84 3] 0 n3_ (st25_0 (0, ([] : List api_Island))) (R25_0 x0 x1 (0, ([] : List api_Island))) hC trivial ⟨h3, trivial⟩ ?_
  obtain ⟨w0, hm0, hret0, hnext0⟩ := aIn h
  clear h
  refine wc w0 (sa25_0) (Ra25_0) ?_ fun z0 hs0 => ?_
  ·refine wb ?_
   refine wW (by kernel_rfl) (F25_l0 x0 x1) (st25_0) (R25_0 x0 x1) w0 1152921504606846976 (0, ([] : List api_Island)) hm0 rfl rfl fun z0 w0b h hb0 hr0 => ?_
   unfold F25_l0 at h
   rcases bC (decide (z0.1 < x0.Buses)) with h4 | h4
   ·replace h := cT h4 h
    obtain ⟨y5, h6, h⟩ := bE h
    obtain ⟨y7, h8, h⟩ := bE h
    refine ws [(decide (z0.1 < x0.Buses), true)] lv25 32 [true] [.call 54 [.agg (d29 x0), .agg (d36 x1), dI z0.1] [] (.tup [.agg [.os 0, .os 1, .os 2], dB y5.2]) [v0_ y5.1.Buses, v0_ y5.1.Sources, v0_ y5.1.Consumers] [], .row (y5.1.Buses.map pI) 0 (pI y7), .row (y5.1.Buses.map pI) ((0 : Nat) : Int) (pI y7)] [] 0 n7_ [(2, dO 0 0), (3, dO 1 0), (4, .d (DS q84 [])), (5, dS 2), (6, dI z0.1), (7, dO 6 0), (31, dB (y7 == z0.1))] [.box 29 (d29 x0), .box 36 (d36 x1), v8_ z0.2, v0_ y5.1.Buses, v0_ y5.1.Sources, v0_ y5.1.Consumers, .box 84 [.os 3, .os 4, .os 5]] hC ⟨⟨e54, (k54 x0 x1 z0.1 _ h6)⟩, rg h8, rN h8, trivial⟩ ⟨h4, trivial⟩ ?_
    rcases bC ((y7 == z0.1)) with h9 | h9
    ·replace h := cT h9 h
     refine ws [((y7 == z0.1), true)] lv25 1 [true] [] [.frz 3] 0 [0, 1, 2, 4, 5, 6] [(2, dO 0 0), (3, dO 1 0), (4, .d (DS q84 [])), (5, dS 2), (6, dI z0.1), (7, dO 5 0)] [.box 29 (d29 x0), .box 36 (d36 x1), v8_ z0.2, v0_ y5.1.Sources, v0_ y5.1.Consumers, .box 84 [DS pI y5.1.Buses, .os 3, .os 4]] hC trivial ⟨h9, trivial⟩ ?_
     refine ws [] lv25 0 [] [] [.frz 3] 0 [0, 1, 2, 4, 5] [(2, dO 0 0), (3, dO 1 0), (4, .d (DS q84 [])), (5, dS 2), (6, dI z0.1), (7, dO 4 0)] [.box 29 (d29 x0), .box 36 (d36 x1), v8_ z0.2, v0_ y5.1.Consumers, .box 84 [DS pI y5.1.Buses, DS pI y5.1.Sources, .os 3]] hC trivial trivial ?_
     refine ws [] lv25 0 [] [] [.frz 3] 0 [0, 1, 2, 4] [(2, dO 0 0), (3, dO 1 0), (4, .d (DS q84 [])), (5, dS 2), (6, dI z0.1), (7, dO 3 0)] [.box 29 (d29 x0), .box 36 (d36 x1), v8_ z0.2, .box 84 (d84 y5.1)] hC trivial trivial ?_
     obtain ⟨y10, h11, h⟩ := bE h
     exact wx [] w0b (st25_0) (R25_0 x0 x1) lv25 24 [] [.app (z0.2.map q84) ([y5.1].map q84) 3 (((z0.2.map q84).length + ([y5.1].map q84).length) * (72 + 1)) (y10.map q84)] [] 0 [0, 1, 4] (w64 (z0.1 + 1), y10) hC ⟨aG q84 3 (fun _ => rfl) h11, trivial⟩ trivial (sI h).symm
    ·replace h := cF h9 h
     exact wx [((y7 == z0.1), false)] w0b (st25_0) (R25_0 x0 x1) lv25 25 [false] [] [] 0 n3_ (w64 (z0.1 + 1), z0.2) hC trivial ⟨h9, trivial⟩ (sI h).symm
   ·replace h := cF h4 h
    exact wx [(decide (z0.1 < x0.Buses), false)] w0 (sa25_0) (Ra25_0) lv25 26 [false] [] [] 0 [2] (z0.1, z0.2) hC trivial ⟨h4, trivial⟩ (hb0 _ (sI h).symm)
  ·have h := hnext0 _ hs0
   replace h := sI h
   subst h
   exact wr [] lv25 23 [] [] [] [.tmp 4] 0 [0] hC trivial trivial
def e25 := en Tryz.func25
theorem k94 (x0 : api_Thruster) (r : Bool) (h : F94 x0 = some r) : CO 94 [.agg (d63 x0)] [] (.d (Bo r)) [] := by
 unfold F94 at h
 refine co 38 Tryz.func94 fun C hC => ?_
 obtain ⟨y1, h2, h⟩ := bE h
 replace h := sI h
 subst h
 exact wr [] n3_ 25 [] [.call 148 [dI x0.Kind, dI 1, dI 3] [] (dB (F148 x0.Kind 1 3)) [] [], .when [(F148 x0.Kind 1 3, true)] (.call 148 [dI x0.Station, dI 0, dI 1] [] (dB (F148 x0.Station 0 1)) [] []), .when [(((F148 x0.Kind 1 3) && (F148 x0.Station 0 1)), true)] (.call 148 [dI x0.Max, dI 0, dI 5000] [] (dB (F148 x0.Max 0 5000)) [] []), .when [((((F148 x0.Kind 1 3) && (F148 x0.Station 0 1)) && (F148 x0.Max 0 5000)), true)] (.call 148 [dI x0.Rate, dI 0, dI 5000] [] (dB (F148 x0.Rate 0 5000)) [] []), .when [(((((F148 x0.Kind 1 3) && (F148 x0.Station 0 1)) && (F148 x0.Max 0 5000)) && (F148 x0.Rate 0 5000)), true)] (.call 148 [dI x0.Cost, dI 1, dI 100] [] (dB (F148 x0.Cost 1 100)) [] []), .when [((((((F148 x0.Kind 1 3) && (F148 x0.Station 0 1)) && (F148 x0.Max 0 5000)) && (F148 x0.Rate 0 5000)) && (F148 x0.Cost 1 100)), true)] (.len (ln (x0.Forbidden.map q159)) (ln x0.Forbidden)), .when [(((((((F148 x0.Kind 1 3) && (F148 x0.Station 0 1)) && (F148 x0.Max 0 5000)) && (F148 x0.Rate 0 5000)) && (F148 x0.Cost 1 100)) && (decide ((ln x0.Forbidden) <= 4))), true)] (.call 149 [.d (DS q159 x0.Forbidden), .d (.fn (.func 150) [] [])] [] (dB y1) [] [])] [] [.tmp 2] 0 [] hC ⟨⟨e148, (k148 x0.Kind 1 3 _ rfl)⟩, fun hg => ⟨e148, (k148 x0.Station 0 1 _ rfl)⟩, fun hg => ⟨e148, (k148 x0.Max 0 5000 _ rfl)⟩, fun hg => ⟨e148, (k148 x0.Rate 0 5000 _ rfl)⟩, fun hg => ⟨e148, (k148 x0.Cost 1 100 _ rfl)⟩, fun hg => lM _ _, fun hg => ⟨e149s0, (k149s0 x0.Forbidden _ (gg h2 hg))⟩, trivial⟩ trivial
def e94 := en Tryz.func94
def lv101 : List Nat := [0, 1, 2, 3, 4, 6, 7, 11]
theorem k101 (x0 : api_Board) (x1 : api_Power) (x2 : Int) (r : Int × Bool) (h : F101 x0 x1 x2 = some r) : CO 101 [.agg (d29 x0), .agg (d36 x1), .d (I x2)] [] (.tup [.d (I r.1), .d (Bo r.2)]) [] := by
 unfold F101 at h
 refine co 18 Tryz.func101 fun C hC => ?_
 obtain ⟨y1, h2, h⟩ := bE h
 refine ws [] lv101 26 [] [.call 43 [.agg (d29 x0), .agg (d36 x1)] [] (dI y1) [] []] [] 0 [0, 1] [(2, dI x2), (3, dO 0 0), (4, dO 1 0), (6, dI 0), (7, dB false), (11, dB (y1 != 0))] [.box 29 (d29 x0), .box 36 (d36 x1)] hC ⟨⟨e43, (k43 x0 x1 _ h2)⟩, trivial⟩ trivial ?_
 rcases bC ((y1 != 0)) with h3 | h3
 ·replace h := cT h3 h
  replace h := sI h
  subst h
  exact wr [((y1 != 0), true)] lv101 24 [true] [] [] [.tmp 6, .tmp 7] 0 [] hC trivial ⟨h3, trivial⟩
 ·replace h := cF h3 h
  obtain ⟨y4, h5, h⟩ := bE h
  replace h := sI h
  subst h
  exact wr [((y1 != 0), false)] lv101 25 [false] [.call 144 [.agg (d29 x0), .agg (d36 x1), dI x2] [] (.tup [dI y4.1, dB y4.2]) [] []] [] [.tmp 6, .tmp 7] 0 [] hC ⟨⟨e144, (k144 x0 x1 x2 _ h5)⟩, trivial⟩ ⟨h3, trivial⟩
def e101 := en Tryz.func101
def lv89 : List Nat := [0, 1, 2, 3, 4, 5, 6, 7, 8, 9, 10, 11, 12, 13, 14, 18, 25, 26, 27, 28, 47, 48, 49, 58, 80, 81, 82, 91]
def st89_0 (y4 : (List Int)) (n0 : Nat) (z0 : (List api_Island)) : St := [(2, dO 0 0), (3, dO 1 0), (4, .d (DS q84 [])), (5, dS 2), (6, dS 3), (25, dS 2), (26, dI (ln y4)), (27, dI (cnt 0 n0))]
def R89_0 (x0 : api_Board) (x1 : api_Power) (y4 : (List Int)) (n0 : Nat) (z0 : (List api_Island)) : List Res := [.box 29 (d29 x0), .box 36 (d36 x1), v0_ y4, .dsl 84 3 4, .gh 3 [(3, 1), (3, 1), (3, 1)] (z0.map q84) none]
def sa89_0  (z0 : (List api_Island)) : St := [(2, dO 0 0), (3, dO 1 0), (4, .d (DS q84 [])), (5, dS 2), (6, dS 3)]
def Ra89_0 (x0 : api_Board) (x1 : api_Power) (y4 : (List Int)) (z0 : (List api_Island)) : List Res := [.box 29 (d29 x0), .box 36 (d36 x1), v0_ y4, .dsl 84 3 4, .gh 3 [(3, 1), (3, 1), (3, 1)] (z0.map q84) none]
def st89_1 (x0 : api_Board) (z1 : Int × (List api_Island)) : St := [(2, dO 0 0), (3, dO 1 0), (4, .d (DS q84 [])), (5, dS 2), (6, dS 3), (47, dI (ln x0.Sources)), (48, dI z1.1)]
def R89_1 (x0 : api_Board) (x1 : api_Power) (y4 : (List Int)) (z1 : Int × (List api_Island)) : List Res := [.box 29 (d29 x0), .box 36 (d36 x1), v0_ y4, .dsl 84 3 4, .gh 3 [(3, 1), (3, 1), (3, 1)] (z1.2.map q84) none]
def sa89_1  (z1 : Int × (List api_Island)) : St := [(2, dO 0 0), (3, dO 1 0), (4, .d (DS q84 [])), (5, dS 2), (6, dS 3)]
def Ra89_1 (x0 : api_Board) (x1 : api_Power) (y4 : (List Int)) (z1 : Int × (List api_Island)) : List Res := [.box 29 (d29 x0), .box 36 (d36 x1), v0_ y4, .dsl 84 3 4, .gh 3 [(3, 1), (3, 1), (3, 1)] (z1.2.map q84) none]
def st89_2 (x0 : api_Board) (z2 : Int × (List api_Island)) : St := [(2, dO 0 0), (3, dO 1 0), (4, .d (DS q84 [])), (5, dS 2), (6, dS 3), (80, dI (ln x0.Consumers)), (81, dI z2.1)]
def R89_2 (x0 : api_Board) (x1 : api_Power) (y4 : (List Int)) (z2 : Int × (List api_Island)) : List Res := [.box 29 (d29 x0), .box 36 (d36 x1), v0_ y4, .dsl 84 3 4, .gh 3 [(3, 1), (3, 1), (3, 1)] (z2.2.map q84) none]
def sa89_2  (z2 : Int × (List api_Island)) : St := [(4, .d (DS q84 [])), (6, dS 0)]
def Ra89_2  (z2 : Int × (List api_Island)) : List Res := [.dsl 84 3 1, .gh 3 [(3, 1), (3, 1), (3, 1)] (z2.2.map q84) none]
theorem k89 (x0 : api_Board) (x1 : api_Power) (r : (List api_Island)) (h : F89 x0 x1 = some r) : CO 89 [.agg (d29 x0), .agg (d36 x1)] [] (.d (.os 0)) [v8_ r] := by
 unfold F89 at h
 refine co 113 Tryz.func89 fun C hC => ?_
 obtain ⟨y1, h2, h⟩ := bE h
 refine ws [] lv89 26 [] [.call 43 [.agg (d29 x0), .agg (d36 x1)] [] (dI y1) [] []] [] 0 [0, 1] [(2, dO 0 0), (3, dO 1 0), (4, .d (DS q84 [])), (18, dB (y1 != 0))] [.box 29 (d29 x0), .box 36 (d36 x1)] hC ⟨⟨e43, (k43 x0 x1 _ h2)⟩, trivial⟩ trivial ?_
 rcases bC ((y1 != 0)) with h3 | h3
 ·replace h := cT h3 h
  replace h := sI h
  subst h
  exact wr [((y1 != 0), true)] lv89 24 [true] [] [.own 4 84 3] [.tmp 4] 0 [2] hC trivial ⟨h3, trivial⟩
 ·replace h := cF h3 h
  obtain ⟨y4, h5, h⟩ := bE h
  obtain ⟨y6, h7, h⟩ := bE h
  refine ws [((y1 != 0), false)] lv89 30 [false] [.call 142 [.agg (d29 x0), .agg (d36 x1)] [] (dS 0) [v0_ y4] [], .roomZ (x0.Buses * (72 + 1)) (List.replicate (Int.toNat x0.Buses) (q84 (⟨([] : List Int), ([] : List Int), ([] : List Int)⟩ : api_Island))) (y6.map q84), .len (ln (y4.map pI)) (ln y4)] [.deep 3 [(3, 1), (3, 1), (3, 1)]] 0 n5_ (st89_0 y4 0 y6) (R89_0 x0 x1 y4 0 y6) hC ⟨⟨e142, (k142 x0 x1 _ h5)⟩, makez_get h7, lM _ _, trivial⟩ ⟨h3, trivial⟩ ?_
  obtain ⟨w0, hm0, hret0, hnext0⟩ := aIn h
  clear h
  refine wc w0 (sa89_0) (Ra89_0 x0 x1 y4) ?_ fun z0 hs0 => ?_
  ·refine wb ?_
   refine wO 25 2 rfl rfl fun hl0 => ?_
   refine wF (by kernel_rfl) F89_l0 (st89_0 y4) (R89_0 x0 x1 y4) w0 y4 y6 hm0 rfl rfl (fun z0 hn0 => ?_) fun n0 a0 z0 w0b hi0 hx0 h hb0 hr0 => ?_
   ·clear hm0
    exact wx [(decide ((cnt 0 y4.length) < (ln y4)), false)] w0 (sa89_0) (Ra89_0 x0 x1 y4) lv89 26 [false] [] [] 0 n5_ z0 hC trivial ⟨(cE hl0), trivial⟩ hn0
   ·unfold F89_l0 at h
    obtain ⟨y8, h9, h⟩ := bE h
    obtain ⟨y10, h11, h⟩ := bE h
    obtain ⟨y12, h13, h⟩ := bE h
    exact wx [(decide ((cnt 0 n0) < (ln y4)), true)] w0b (st89_0 y4 (n0 + 1)) (R89_0 x0 x1 y4 (n0 + 1)) lv89 33 [true] [.row (y4.map pI) (cnt 0 n0) (pI a0), .row (y4.map pI) (((Int.toNat (cnt 0 n0)) : Nat) : Int) (pI a0), .row (z0.map q84) a0 (q84 y8), .row (z0.map q84) (((Int.toNat a0) : Nat) : Int) (q84 y8), .appD (z0.map q84) (Int.toNat a0) (q84 y8) 0 (y8.Buses.map pI) ([cnt 0 n0].map pI) 1 (((y8.Buses.map pI).length + ([cnt 0 n0].map pI).length) * (8 + 1)) (y10.map pI), .row (z0.map q84) a0 (q84 y8), .updD (z0.map q84) (Int.toNat a0) (Int.toNat a0) (q84 y8) (q84 (⟨y10, y8.Sources, y8.Consumers⟩ : api_Island)) (y12.map q84)] [] 0 [0, 1, 2, 3, 8] y12 hC ⟨rg (gC hx0 hl0), rN (gC hx0 hl0), rg h9, rN h9, appD_get 1 (fun _ => rfl) h9 rfl h11, rg h9, updD_get h9 h13, trivial⟩ ⟨(cL hi0 hl0), trivial⟩ (sI h).symm
  ·have h := hnext0 _ hs0
   refine ws [] lv89 24 [] [.len (ln (x0.Sources.map q139)) (ln x0.Sources)] [] 0 n5_ (st89_1 x0 (0, z0)) (R89_1 x0 x1 y4 (0, z0)) hC ⟨lM _ _, trivial⟩ trivial ?_
   obtain ⟨w1, hm1, hret1, hnext1⟩ := aIn h
   clear h
   refine wc w1 (sa89_1) (Ra89_1 x0 x1 y4) ?_ fun z1 hs1 => ?_
   ·refine wb ?_
    refine wW (by kernel_rfl) (F89_l1 x0 x1 y4) (st89_1 x0) (R89_1 x0 x1 y4) w1 1152921504606846976 (0, z0) hm1 rfl rfl fun z1 w1b h hb1 hr1 => ?_
    unfold F89_l1 at h
    rcases bC ((c89_1 x0 z1)) with h14 | h14
    ·replace h := cT h14 h
     obtain ⟨y15, h16, h⟩ := bE h
     refine ws [((c89_1 x0 z1), true)] lv89 34 [true] [.call 143 [.agg (d29 x0), .agg (d36 x1), dI z1.1] [] (.tup [dI y15.1, dB y15.2]) [] []] [] 0 n5_ [(2, dO 0 0), (3, dO 1 0), (4, .d (DS q84 [])), (5, dS 2), (6, dS 3), (9, dI z1.1), (10, dI y15.1), (47, dI (ln x0.Sources)), (48, dI z1.1), (58, dB y15.2)] [.box 29 (d29 x0), .box 36 (d36 x1), v0_ y4, .dsl 84 3 4, .gh 3 [(3, 1), (3, 1), (3, 1)] (z1.2.map q84) none] hC ⟨⟨e143, (k143 x0 x1 z1.1 _ h16)⟩, trivial⟩ ⟨h14, trivial⟩ ?_
     rcases bC (y15.2) with h17 | h17
     ·replace h := cT h17 h
      obtain ⟨y18, h19, h⟩ := bE h
      obtain ⟨y20, h21, h⟩ := bE h
      obtain ⟨y22, h23, h⟩ := bE h
      obtain ⟨y24, h25, h⟩ := bE h
      exact wx [(y15.2, true)] w1b (st89_1 x0) (R89_1 x0 x1 y4) lv89 25 [true] [.row (y4.map pI) y15.1 (pI y18), .row (y4.map pI) (((Int.toNat y15.1) : Nat) : Int) (pI y18), .row (y4.map pI) y15.1 (pI y18), .row (y4.map pI) (((Int.toNat y15.1) : Nat) : Int) (pI y18), .row (z1.2.map q84) y18 (q84 y20), .row (z1.2.map q84) (((Int.toNat y18) : Nat) : Int) (q84 y20), .appD (z1.2.map q84) (Int.toNat y18) (q84 y20) 1 (y20.Sources.map pI) ([z1.1].map pI) 1 (((y20.Sources.map pI).length + ([z1.1].map pI).length) * (8 + 1)) (y22.map pI), .row (z1.2.map q84) y18 (q84 y20), .updD (z1.2.map q84) (Int.toNat y18) (Int.toNat y18) (q84 y20) (q84 (⟨y20.Buses, y22, y20.Consumers⟩ : api_Island)) (y24.map q84)] [] 0 [0, 1, 2, 3, 8] (w64 (z1.1 + 1), y24) hC ⟨rg h19, rN h19, rg h19, rN h19, rg h21, rN h21, appD_get 1 (fun _ => rfl) h21 rfl h23, rg h21, updD_get h21 h25, trivial⟩ ⟨h17, trivial⟩ (sI h).symm
     ·replace h := cF h17 h
      exact wx [(y15.2, false)] w1b (st89_1 x0) (R89_1 x0 x1 y4) lv89 25 [false] [] [] 0 n5_ (w64 (z1.1 + 1), z1.2) hC trivial ⟨h17, trivial⟩ (sI h).symm
    ·replace h := cF h14 h
     exact wx [((c89_1 x0 z1), false)] w1 (sa89_1) (Ra89_1 x0 x1 y4) lv89 26 [false] [] [] 0 n5_ (z1.1, z1.2) hC trivial ⟨h14, trivial⟩ (hb1 _ (sI h).symm)
   ·have h := hnext1 _ hs1
    refine ws [] lv89 24 [] [.len (ln (x0.Consumers.map q65)) (ln x0.Consumers)] [] 0 n5_ (st89_2 x0 (0, z1.2)) (R89_2 x0 x1 y4 (0, z1.2)) hC ⟨lM _ _, trivial⟩ trivial ?_
    obtain ⟨w2, hm2, hret2, hnext2⟩ := aIn h
    clear h
    refine wc w2 (sa89_2) (Ra89_2) ?_ fun z2 hs2 => ?_
    ·refine wb ?_
     refine wW (by kernel_rfl) (F89_l2 x0 x1 y4) (st89_2 x0) (R89_2 x0 x1 y4) w2 1152921504606846976 (0, z1.2) hm2 rfl rfl fun z2 w2b h hb2 hr2 => ?_
     unfold F89_l2 at h
     rcases bC ((c89_3 x0 z2)) with h26 | h26
     ·replace h := cT h26 h
      obtain ⟨y27, h28, h⟩ := bE h
      refine ws [((c89_3 x0 z2), true)] lv89 34 [true] [.call 144 [.agg (d29 x0), .agg (d36 x1), dI z2.1] [] (.tup [dI y27.1, dB y27.2]) [] []] [] 0 n5_ [(2, dO 0 0), (3, dO 1 0), (4, .d (DS q84 [])), (5, dS 2), (6, dS 3), (12, dI z2.1), (13, dI y27.1), (80, dI (ln x0.Consumers)), (81, dI z2.1), (91, dB y27.2)] [.box 29 (d29 x0), .box 36 (d36 x1), v0_ y4, .dsl 84 3 4, .gh 3 [(3, 1), (3, 1), (3, 1)] (z2.2.map q84) none] hC ⟨⟨e144, (k144 x0 x1 z2.1 _ h28)⟩, trivial⟩ ⟨h26, trivial⟩ ?_
      rcases bC (y27.2) with h29 | h29
      ·replace h := cT h29 h
       obtain ⟨y30, h31, h⟩ := bE h
       obtain ⟨y32, h33, h⟩ := bE h
       obtain ⟨y34, h35, h⟩ := bE h
       obtain ⟨y36, h37, h⟩ := bE h
       exact wx [(y27.2, true)] w2b (st89_2 x0) (R89_2 x0 x1 y4) lv89 25 [true] [.row (y4.map pI) y27.1 (pI y30), .row (y4.map pI) (((Int.toNat y27.1) : Nat) : Int) (pI y30), .row (y4.map pI) y27.1 (pI y30), .row (y4.map pI) (((Int.toNat y27.1) : Nat) : Int) (pI y30), .row (z2.2.map q84) y30 (q84 y32), .row (z2.2.map q84) (((Int.toNat y30) : Nat) : Int) (q84 y32), .appD (z2.2.map q84) (Int.toNat y30) (q84 y32) 2 (y32.Consumers.map pI) ([z2.1].map pI) 1 (((y32.Consumers.map pI).length + ([z2.1].map pI).length) * (8 + 1)) (y34.map pI), .row (z2.2.map q84) y30 (q84 y32), .updD (z2.2.map q84) (Int.toNat y30) (Int.toNat y30) (q84 y32) (q84 (⟨y32.Buses, y32.Sources, y34⟩ : api_Island)) (y36.map q84)] [] 0 [0, 1, 2, 3, 8] (w64 (z2.1 + 1), y36) hC ⟨rg h31, rN h31, rg h31, rN h31, rg h33, rN h33, appD_get 1 (fun _ => rfl) h33 rfl h35, rg h33, updD_get h33 h37, trivial⟩ ⟨h29, trivial⟩ (sI h).symm
      ·replace h := cF h29 h
       exact wx [(y27.2, false)] w2b (st89_2 x0) (R89_2 x0 x1 y4) lv89 25 [false] [] [] 0 n5_ (w64 (z2.1 + 1), z2.2) hC trivial ⟨h29, trivial⟩ (sI h).symm
     ·replace h := cF h26 h
      exact wx [((c89_3 x0 z2), false)] w2 (sa89_2) (Ra89_2) lv89 26 [false] [] [] 0 [3, 4] (z2.1, z2.2) hC trivial ⟨h26, trivial⟩ (hb2 _ (sI h).symm)
    ·have h := hnext2 _ hs2
     refine ws [] lv89 1 [] [] [.flat 0] 0 [0] [(4, .d (DS q84 [])), (6, dS 0)] [v8_ z2.2] hC trivial trivial ?_
     obtain ⟨y38, h39, h⟩ := bE h
     replace h := sI h
     subst h
     exact wr [] lv89 22 [] [.call 145 [dS 0, .d (.fn (.func 146) [] [])] [v8_ z2.2] (dS 1) [.non, v8_ y38] [0]] [] [.tmp 4] 0 [1] hC ⟨⟨e145s1, (k145s1 z2.2 _ h39)⟩, trivial⟩ trivial
def e89 := en Tryz.func89
def lv207 : List Nat := [0, 1, 2, 3, 4, 7, 10, 11, 12]
def st207_0 (x0 : api_Board) (z0 : Int × (List Int)) : St := [(1, dO 0 0), (2, .d (DS pI [])), (3, dS 1), (10, dI (ln x0.Consumers)), (11, dI z0.1)]
def R207_0 (x0 : api_Board) (z0 : Int × (List Int)) : List Res := [.box 29 (d29 x0), v0_ z0.2]
def sa207_0  (z0 : Int × (List Int)) : St := [(1, dO 0 0), (2, .d (DS pI [])), (3, dS 1)]
def Ra207_0 (x0 : api_Board) (z0 : Int × (List Int)) : List Res := [.box 29 (d29 x0), v0_ z0.2]
theorem k207 (x0 : api_Board) (r : (List Int)) (h : F207 x0 = some r) : CO 207 [.agg (d29 x0)] [] (.d (.os 0)) [v0_ r] := by
 unfold F207 at h
 refine co 23 Tryz.func207 fun C hC => ?_
 obtain ⟨y1, h2, h⟩ := bE h
 rcases bC ((y1 != 0)) with h3 | h3
 ·replace h := cT h3 h
  cases h
 ·replace h := cF h3 h
  refine ws [((y1 != 0), false)] lv207 33 [false] [.call 85 [.agg (d29 x0)] [] (dI y1) [] [], .len (ln (x0.Consumers.map q65)) (ln x0.Consumers)] [.own 3 3 1] 0 [0, 1] (st207_0 x0 (0, ([] : List Int))) (R207_0 x0 (0, ([] : List Int))) hC ⟨⟨e85, (k85 x0 _ h2)⟩, lM _ _, trivial⟩ ⟨h3, trivial⟩ ?_
  obtain ⟨w0, hm0, hret0, hnext0⟩ := aIn h
  clear h
  refine wc w0 (sa207_0) (Ra207_0 x0) ?_ fun z0 hs0 => ?_
  ·refine wb ?_
   refine wW (by kernel_rfl) (F207_l0 x0) (st207_0 x0) (R207_0 x0) w0 1152921504606846976 (0, ([] : List Int)) hm0 rfl rfl fun z0 w0b h hb0 hr0 => ?_
   unfold F207_l0 at h
   rcases bC ((c207_1 x0 z0)) with h4 | h4
   ·replace h := cT h4 h
    obtain ⟨y5, h6, h⟩ := bE h
    exact wx [((c207_1 x0 z0), true)] w0b (st207_0 x0) (R207_0 x0) lv207 33 [true] [.app (z0.2.map pI) ([z0.1].map pI) 1 (((z0.2.map pI).length + ([z0.1].map pI).length) * (8 + 1)) (y5.map pI)] [] 0 [0, 2] (w64 (z0.1 + 1), y5) hC ⟨aG pI 1 (fun _ => rfl) h6, trivial⟩ ⟨h4, trivial⟩ (sI h).symm
   ·replace h := cF h4 h
    exact wx [((c207_1 x0 z0), false)] w0 (sa207_0) (Ra207_0 x0) lv207 26 [false] [] [] 0 [0, 1] (z0.1, z0.2) hC trivial ⟨h4, trivial⟩ (hb0 _ (sI h).symm)
  ·have h := hnext0 _ hs0
   obtain ⟨y7, h8, h⟩ := bE h
   replace h := sI h
   subst h
   exact wr [] lv207 25 [] [.call 232 [dS 0, .d (.fn (.func 233) [] [.o 1 0])] [v0_ z0.2, .box 29 (d29 x0)] (.tup []) [v0_ z0.2, .box 29 (d29 y7)] [1, 0]] [] [.tmp 2] 0 [1] hC ⟨⟨e232s1, (k232s1 z0.2 x0 _ h8)⟩, trivial⟩ trivial
def e207 := en Tryz.func207
theorem k28 (x0 : api_Board) (x1 : api_Power) (x2 : Int) (r : Bool) (h : F28 x0 x1 x2 = some r) : CO 28 [.agg (d29 x0), .agg (d36 x1), .d (I x2)] [] (.d (Bo r)) [] := by
 unfold F28 at h
 refine co 23 Tryz.func28 fun C hC => ?_
 obtain ⟨y1, h2, h⟩ := bE h
 replace h := sI h
 subst h
 exact wr [] [0, 1, 2, 3, 4, 6, 7, 8] 27 [] [.call 54 [.agg (d29 x0), .agg (d36 x1), dI x2] [] (.tup [.agg [.os 0, .os 1, .os 2], dB y1.2]) [v0_ y1.1.Buses, v0_ y1.1.Sources, v0_ y1.1.Consumers] [], .when [(y1.2, true)] (.len (ln (y1.1.Sources.map pI)) (ln y1.1.Sources))] [] [.tmp 6] 0 [] hC ⟨⟨e54, (k54 x0 x1 x2 _ h2)⟩, fun hg => lM _ _, trivial⟩ trivial
def e28 := en Tryz.func28
def lv222 : List Nat := [0, 1, 2, 3, 4, 5, 6, 7, 8, 9, 14, 20, 21, 22, 23, 29]
def st222_0 (x1 : api_Power) (n0 : Nat) (z0 : (List api_Running)) : St := [(4, dO 0 0), (5, dI 0), (7, dO 9 0), (20, .d (DS q120 x1.Sources)), (21, dI (ln x1.Sources)), (22, dI (cnt 0 n0))]
def R222_0 (y4 : api_Power) (n0 : Nat) (z0 : (List api_Running)) : List Res := (.box 36 [.os 1, .os 2, .os 3, .os 4] :: ze [v3_ y4.Closed, v5_ z0, v0_ y4.Limits, v4_ y4.Broken, .box 36 [.os 5, .os 6, .os 7, .os 8]])
def sa222_0  (z0 : (List api_Running)) : St := [(4, dO 0 0), (5, dI 0), (7, dO 9 0)]
def Ra222_0 (y4 : api_Power) (z0 : (List api_Running)) : List Res := (.box 36 [.os 1, .os 2, .os 3, .os 4] :: ze [v3_ y4.Closed, v5_ z0, v0_ y4.Limits, v4_ y4.Broken, .box 36 [.os 5, .os 6, .os 7, .os 8]])
theorem k222 (x0 : api_Board) (x1 : api_Power) (r : api_Power × Int) (h : F222 x0 x1 = some r) : CO 222 [.agg (d29 x0), .agg (d36 x1)] [] (.tup [.agg [.os 0, .os 1, .os 2, .os 3], .d (I r.2)]) (zp r.1 []) := by
 unfold F222 at h
 refine co 45 Tryz.func222 fun C hC => ?_
 obtain ⟨y1, h2, h⟩ := bE h
 refine ws [] lv222 28 [] [.call 43 [.agg (d29 x0), .agg (d36 x1)] [] (dI y1) [] []] [.ownb 2 0 4 1, .ownb 2 1 120 4, .ownb 2 2 3 1, .ownb 2 3 86 2] 0 [1, 2, 3, 4, 5, 6] [(3, dO 0 0), (4, dO 1 0), (5, dI 0), (6, dI y1), (14, dB (y1 != 0))] (.box 36 (d36 x1) :: .box 36 [.os 2, .os 3, .os 4, .os 5] :: ze []) hC ⟨⟨e43, (k43 x0 x1 _ h2)⟩, trivial⟩ trivial ?_
 rcases bC ((y1 != 0)) with h3 | h3
 ·replace h := cT h3 h
  cases h
 ·replace h := cF h3 h
  obtain ⟨y4, h5, h⟩ := bE h
  refine ws [((y1 != 0), false)] lv222 28 [false] [.call 116 [.agg (d36 x1)] [] (.agg [.os 0, .os 1, .os 2, .os 3]) (zp y4 []) [], .len (ln (x1.Sources.map q120)) (ln x1.Sources)] [] 0 [1, 2, 3, 4, 5, 6, 7, 8, 9, 10] (st222_0 x1 0 y4.Sources) (R222_0 y4 0 y4.Sources) hC ⟨⟨e116, (k116 x1 _ h5)⟩, lM _ _, trivial⟩ ⟨h3, trivial⟩ ?_
  obtain ⟨w0, hm0, hret0, hnext0⟩ := aIn h
  clear h
  refine wc w0 (sa222_0) (Ra222_0 y4) ?_ fun z0 hs0 => ?_
  ·refine wb ?_
   refine wL 20 rfl fun hl0 => ?_
   refine wF (by kernel_rfl) F222_l0 (st222_0 x1) (R222_0 y4) w0 x1.Sources y4.Sources hm0 rfl rfl (fun z0 hn0 => ?_) fun n0 a0 z0 w0b hi0 hx0 h hb0 hr0 => ?_
   ·clear hm0
    exact wx [(decide ((cnt 0 x1.Sources.length) < (ln x1.Sources)), false)] w0 (sa222_0) (Ra222_0 y4) lv222 26 [false] [] [] 0 n10_ z0 hC trivial ⟨(cE hl0), trivial⟩ hn0
   ·unfold F222_l0 at h
    rcases bC ((a0.State == 2)) with h6 | h6
    ·replace h := cT h6 h
     obtain ⟨y7, h8, h⟩ := bE h
     obtain ⟨y9, h10, h⟩ := bE h
     exact wx [(decide ((cnt 0 n0) < (ln x1.Sources)), true), ((a0.State == 2), true)] w0b (st222_0 x1 (n0 + 1)) (R222_0 y4 (n0 + 1)) lv222 36 [true, true] [.row (x1.Sources.map q120) (cnt 0 n0) (q120 a0), .call 229 [.d (I (w64 (a0.Phase + (w64 (36 * (w64 (a0.Frequency - 5000)))))))] [] (.d (I (F229 (w64 (a0.Phase + (w64 (36 * (w64 (a0.Frequency - 5000))))))))) [] [], .row (z0.map q120) (cnt 0 n0) (q120 y7), .upd (z0.map q120) (Int.toNat (cnt 0 n0)) (q120 y7) (q120 (⟨y7.State, y7.Since, y7.Frequency, F229 (w64 (a0.Phase + (w64 (36 * (w64 (a0.Frequency - 5000))))))⟩ : api_Running)) (y9.map q120)] [] 0 n10_ y9 hC ⟨(rC hx0 hl0), ⟨e229, (k229 (w64 (a0.Phase + (w64 (36 * (w64 (a0.Frequency - 5000)))))) _ rfl)⟩, rg h8, uG h8 h10, trivial⟩ ⟨(cL hi0 hl0), h6, trivial⟩ (sI h).symm
    ·replace h := cF h6 h
     exact wx [(decide ((cnt 0 n0) < (ln x1.Sources)), true), ((a0.State == 2), false)] w0b (st222_0 x1 (n0 + 1)) (R222_0 y4 (n0 + 1)) lv222 36 [true, false] [.row (x1.Sources.map q120) (cnt 0 n0) (q120 a0)] [] 0 n10_ z0 hC ⟨(rC hx0 hl0), trivial⟩ ⟨(cL hi0 hl0), h6, trivial⟩ (sI h).symm
  ·have h := hnext0 _ hs0
   replace h := sI h
   subst h
   exact wr [] lv222 23 [] [] [] [.cell 4 36, .tmp 5] 0 [5, 6, 7, 8] hC trivial trivial
def e222 := en Tryz.func222
def lv89s0 : List Nat := [0, 1, 2, 3, 4, 5, 6, 7, 8, 9, 10, 11, 12, 13, 14, 18, 25, 26, 27, 28, 47, 48, 49, 58, 80, 81, 82, 91]
def st89s0_0 (y4 : (List Int)) (n0 : Nat) (z0 : (List api_Island)) : St := [(2, dO 4 0), (3, dO 5 0), (4, .d (DS q84 [])), (5, dS 6), (6, dS 7), (25, dS 6), (26, dI (ln y4)), (27, dI (cnt 0 n0))]
def R89s0_0 (x0 : api_Board) (x1 : api_Power) (y4 : (List Int)) (n0 : Nat) (z0 : (List api_Island)) : List Res := (zp x1 [.box 29 (d29 x0), .box 36 [.os 0, .os 1, .os 2, .os 3], v0_ y4, .dsl 84 3 8, .gh 3 [(3, 1), (3, 1), (3, 1)] (z0.map q84) none])
def sa89s0_0  (z0 : (List api_Island)) : St := [(2, dO 4 0), (3, dO 5 0), (4, .d (DS q84 [])), (5, dS 6), (6, dS 7)]
def Ra89s0_0 (x0 : api_Board) (x1 : api_Power) (y4 : (List Int)) (z0 : (List api_Island)) : List Res := (zp x1 [.box 29 (d29 x0), .box 36 [.os 0, .os 1, .os 2, .os 3], v0_ y4, .dsl 84 3 8, .gh 3 [(3, 1), (3, 1), (3, 1)] (z0.map q84) none])
def st89s0_1 (x0 : api_Board) (z1 : Int × (List api_Island)) : St := [(2, dO 4 0), (3, dO 5 0), (4, .d (DS q84 [])), (5, dS 6), (6, dS 7), (47, dI (ln x0.Sources)), (48, dI z1.1)]
def R89s0_1 (x0 : api_Board) (x1 : api_Power) (y4 : (List Int)) (z1 : Int × (List api_Island)) : List Res := (zp x1 [.box 29 (d29 x0), .box 36 [.os 0, .os 1, .os 2, .os 3], v0_ y4, .dsl 84 3 8, .gh 3 [(3, 1), (3, 1), (3, 1)] (z1.2.map q84) none])
def sa89s0_1  (z1 : Int × (List api_Island)) : St := [(2, dO 4 0), (3, dO 5 0), (4, .d (DS q84 [])), (5, dS 6), (6, dS 7)]
def Ra89s0_1 (x0 : api_Board) (x1 : api_Power) (y4 : (List Int)) (z1 : Int × (List api_Island)) : List Res := (zp x1 [.box 29 (d29 x0), .box 36 [.os 0, .os 1, .os 2, .os 3], v0_ y4, .dsl 84 3 8, .gh 3 [(3, 1), (3, 1), (3, 1)] (z1.2.map q84) none])
def st89s0_2 (x0 : api_Board) (z2 : Int × (List api_Island)) : St := [(2, dO 4 0), (3, dO 5 0), (4, .d (DS q84 [])), (5, dS 6), (6, dS 7), (80, dI (ln x0.Consumers)), (81, dI z2.1)]
def R89s0_2 (x0 : api_Board) (x1 : api_Power) (y4 : (List Int)) (z2 : Int × (List api_Island)) : List Res := (zp x1 [.box 29 (d29 x0), .box 36 [.os 0, .os 1, .os 2, .os 3], v0_ y4, .dsl 84 3 8, .gh 3 [(3, 1), (3, 1), (3, 1)] (z2.2.map q84) none])
def sa89s0_2  (z2 : Int × (List api_Island)) : St := [(4, .d (DS q84 [])), (6, dS 4)]
def Ra89s0_2 (x1 : api_Power) (z2 : Int × (List api_Island)) : List Res := (zp x1 [.dsl 84 3 5, .gh 3 [(3, 1), (3, 1), (3, 1)] (z2.2.map q84) none])
theorem k89s0 (x0 : api_Board) (x1 : api_Power) (r : (List api_Island)) (h : F89s0 x0 x1 = some r) : CO 89 [.agg (d29 x0), .agg [.os 0, .os 1, .os 2, .os 3]] (zp x1 []) (.d (.os 4)) (zp x1 [v8_ r]) := by
 unfold F89s0 at h
 refine co 113 Tryz.func89 fun C hC => ?_
 obtain ⟨y1, h2, h⟩ := bE h
 refine ws [] lv89s0 26 [] [.callB 43 [.agg (d29 x0), .agg (d36 x1)] (dI y1) [[]] 0 []] [] 4 n6_ [(2, dO 4 0), (3, dO 5 0), (4, .d (DS q84 [])), (18, dB (y1 != 0))] (zp x1 [.box 29 (d29 x0), .box 36 [.os 0, .os 1, .os 2, .os 3]]) hC ⟨l0g ⟨e43, (k43 x0 x1 _ h2)⟩, trivial⟩ trivial ?_
 rcases bC ((y1 != 0)) with h3 | h3
 ·replace h := cT h3 h
  replace h := sI h
  subst h
  exact wr [((y1 != 0), true)] lv89s0 24 [true] [] [.own 4 84 3] [.tmp 4] 4 [0, 1, 2, 3, 6] hC trivial ⟨h3, trivial⟩
 ·replace h := cF h3 h
  obtain ⟨y4, h5, h⟩ := bE h
  obtain ⟨y6, h7, h⟩ := bE h
  refine ws [((y1 != 0), false)] lv89s0 30 [false] [.call 142 [.agg (d29 x0), .agg [.os 0, .os 1, .os 2, .os 3]] (zp x1 []) (dS 4) (zp x1 [v0_ y4]) n4_, .roomZ (x0.Buses * (72 + 1)) (List.replicate (Int.toNat x0.Buses) (q84 (⟨([] : List Int), ([] : List Int), ([] : List Int)⟩ : api_Island))) (y6.map q84), .len (ln (y4.map pI)) (ln y4)] [.deep 7 [(3, 1), (3, 1), (3, 1)]] 4 n9_ (st89s0_0 y4 0 y6) (R89s0_0 x0 x1 y4 0 y6) hC ⟨⟨e142, ((k142 x0 x1 _ h5).lend (by kernel_rfl) (by kernel_rfl) (by kernel_rfl) ⟨fS (fun _ => rfl), trivial⟩ (by kernel_rfl) (by kernel_rfl))⟩, makez_get h7, lM _ _, trivial⟩ ⟨h3, trivial⟩ ?_
  obtain ⟨w0, hm0, hret0, hnext0⟩ := aIn h
  clear h
  refine wc w0 (sa89s0_0) (Ra89s0_0 x0 x1 y4) ?_ fun z0 hs0 => ?_
  ·refine wb ?_
   refine wO 25 6 rfl rfl fun hl0 => ?_
   refine wF (by kernel_rfl) F89s0_l0 (st89s0_0 y4) (R89s0_0 x0 x1 y4) w0 y4 y6 hm0 rfl rfl (fun z0 hn0 => ?_) fun n0 a0 z0 w0b hi0 hx0 h hb0 hr0 => ?_
   ·clear hm0
    exact wx [(decide ((cnt 0 y4.length) < (ln y4)), false)] w0 (sa89s0_0) (Ra89s0_0 x0 x1 y4) lv89s0 26 [false] [] [] 4 n9_ z0 hC trivial ⟨(cE hl0), trivial⟩ hn0
   ·unfold F89s0_l0 at h
    obtain ⟨y8, h9, h⟩ := bE h
    obtain ⟨y10, h11, h⟩ := bE h
    obtain ⟨y12, h13, h⟩ := bE h
    exact wx [(decide ((cnt 0 n0) < (ln y4)), true)] w0b (st89s0_0 y4 (n0 + 1)) (R89s0_0 x0 x1 y4 (n0 + 1)) lv89s0 33 [true] [.row (y4.map pI) (cnt 0 n0) (pI a0), .row (y4.map pI) (((Int.toNat (cnt 0 n0)) : Nat) : Int) (pI a0), .row (z0.map q84) a0 (q84 y8), .row (z0.map q84) (((Int.toNat a0) : Nat) : Int) (q84 y8), .appD (z0.map q84) (Int.toNat a0) (q84 y8) 0 (y8.Buses.map pI) ([cnt 0 n0].map pI) 1 (((y8.Buses.map pI).length + ([cnt 0 n0].map pI).length) * (8 + 1)) (y10.map pI), .row (z0.map q84) a0 (q84 y8), .updD (z0.map q84) (Int.toNat a0) (Int.toNat a0) (q84 y8) (q84 (⟨y10, y8.Sources, y8.Consumers⟩ : api_Island)) (y12.map q84)] [] 4 [0, 1, 2, 3, 4, 5, 6, 7, 12] y12 hC ⟨rg (gC hx0 hl0), rN (gC hx0 hl0), rg h9, rN h9, appD_get 1 (fun _ => rfl) h9 rfl h11, rg h9, updD_get h9 h13, trivial⟩ ⟨(cL hi0 hl0), trivial⟩ (sI h).symm
  ·have h := hnext0 _ hs0
   refine ws [] lv89s0 24 [] [.len (ln (x0.Sources.map q139)) (ln x0.Sources)] [] 4 n9_ (st89s0_1 x0 (0, z0)) (R89s0_1 x0 x1 y4 (0, z0)) hC ⟨lM _ _, trivial⟩ trivial ?_
   obtain ⟨w1, hm1, hret1, hnext1⟩ := aIn h
   clear h
   refine wc w1 (sa89s0_1) (Ra89s0_1 x0 x1 y4) ?_ fun z1 hs1 => ?_
   ·refine wb ?_
    refine wW (by kernel_rfl) (F89s0_l1 x0 x1 y4) (st89s0_1 x0) (R89s0_1 x0 x1 y4) w1 1152921504606846976 (0, z0) hm1 rfl rfl fun z1 w1b h hb1 hr1 => ?_
    unfold F89s0_l1 at h
    rcases bC ((c89s0_1 x0 z1)) with h14 | h14
    ·replace h := cT h14 h
     obtain ⟨y15, h16, h⟩ := bE h
     refine ws [((c89s0_1 x0 z1), true)] lv89s0 34 [true] [.callB 143 [.agg (d29 x0), .agg (d36 x1), dI z1.1] (.tup [dI y15.1, dB y15.2]) [[]] 0 []] [] 4 n9_ [(2, dO 4 0), (3, dO 5 0), (4, .d (DS q84 [])), (5, dS 6), (6, dS 7), (9, dI z1.1), (10, dI y15.1), (47, dI (ln x0.Sources)), (48, dI z1.1), (58, dB y15.2)] (zp x1 [.box 29 (d29 x0), .box 36 [.os 0, .os 1, .os 2, .os 3], v0_ y4, .dsl 84 3 8, .gh 3 [(3, 1), (3, 1), (3, 1)] (z1.2.map q84) none]) hC ⟨l0g ⟨e143, (k143 x0 x1 z1.1 _ h16)⟩, trivial⟩ ⟨h14, trivial⟩ ?_
     rcases bC (y15.2) with h17 | h17
     ·replace h := cT h17 h
      obtain ⟨y18, h19, h⟩ := bE h
      obtain ⟨y20, h21, h⟩ := bE h
      obtain ⟨y22, h23, h⟩ := bE h
      obtain ⟨y24, h25, h⟩ := bE h
      exact wx [(y15.2, true)] w1b (st89s0_1 x0) (R89s0_1 x0 x1 y4) lv89s0 25 [true] [.row (y4.map pI) y15.1 (pI y18), .row (y4.map pI) (((Int.toNat y15.1) : Nat) : Int) (pI y18), .row (y4.map pI) y15.1 (pI y18), .row (y4.map pI) (((Int.toNat y15.1) : Nat) : Int) (pI y18), .row (z1.2.map q84) y18 (q84 y20), .row (z1.2.map q84) (((Int.toNat y18) : Nat) : Int) (q84 y20), .appD (z1.2.map q84) (Int.toNat y18) (q84 y20) 1 (y20.Sources.map pI) ([z1.1].map pI) 1 (((y20.Sources.map pI).length + ([z1.1].map pI).length) * (8 + 1)) (y22.map pI), .row (z1.2.map q84) y18 (q84 y20), .updD (z1.2.map q84) (Int.toNat y18) (Int.toNat y18) (q84 y20) (q84 (⟨y20.Buses, y22, y20.Consumers⟩ : api_Island)) (y24.map q84)] [] 4 [0, 1, 2, 3, 4, 5, 6, 7, 12] (w64 (z1.1 + 1), y24) hC ⟨rg h19, rN h19, rg h19, rN h19, rg h21, rN h21, appD_get 1 (fun _ => rfl) h21 rfl h23, rg h21, updD_get h21 h25, trivial⟩ ⟨h17, trivial⟩ (sI h).symm
     ·replace h := cF h17 h
      exact wx [(y15.2, false)] w1b (st89s0_1 x0) (R89s0_1 x0 x1 y4) lv89s0 25 [false] [] [] 4 n9_ (w64 (z1.1 + 1), z1.2) hC trivial ⟨h17, trivial⟩ (sI h).symm
    ·replace h := cF h14 h
     exact wx [((c89s0_1 x0 z1), false)] w1 (sa89s0_1) (Ra89s0_1 x0 x1 y4) lv89s0 26 [false] [] [] 4 n9_ (z1.1, z1.2) hC trivial ⟨h14, trivial⟩ (hb1 _ (sI h).symm)
   ·have h := hnext1 _ hs1
    refine ws [] lv89s0 24 [] [.len (ln (x0.Consumers.map q65)) (ln x0.Consumers)] [] 4 n9_ (st89s0_2 x0 (0, z1.2)) (R89s0_2 x0 x1 y4 (0, z1.2)) hC ⟨lM _ _, trivial⟩ trivial ?_
    obtain ⟨w2, hm2, hret2, hnext2⟩ := aIn h
    clear h
    refine wc w2 (sa89s0_2) (Ra89s0_2 x1) ?_ fun z2 hs2 => ?_
    ·refine wb ?_
     refine wW (by kernel_rfl) (F89s0_l2 x0 x1 y4) (st89s0_2 x0) (R89s0_2 x0 x1 y4) w2 1152921504606846976 (0, z1.2) hm2 rfl rfl fun z2 w2b h hb2 hr2 => ?_
     unfold F89s0_l2 at h
     rcases bC ((c89s0_3 x0 z2)) with h26 | h26
     ·replace h := cT h26 h
      obtain ⟨y27, h28, h⟩ := bE h
      refine ws [((c89s0_3 x0 z2), true)] lv89s0 34 [true] [.callB 144 [.agg (d29 x0), .agg (d36 x1), dI z2.1] (.tup [dI y27.1, dB y27.2]) [[]] 0 []] [] 4 n9_ [(2, dO 4 0), (3, dO 5 0), (4, .d (DS q84 [])), (5, dS 6), (6, dS 7), (12, dI z2.1), (13, dI y27.1), (80, dI (ln x0.Consumers)), (81, dI z2.1), (91, dB y27.2)] (zp x1 [.box 29 (d29 x0), .box 36 [.os 0, .os 1, .os 2, .os 3], v0_ y4, .dsl 84 3 8, .gh 3 [(3, 1), (3, 1), (3, 1)] (z2.2.map q84) none]) hC ⟨l0g ⟨e144, (k144 x0 x1 z2.1 _ h28)⟩, trivial⟩ ⟨h26, trivial⟩ ?_
      rcases bC (y27.2) with h29 | h29
      ·replace h := cT h29 h
       obtain ⟨y30, h31, h⟩ := bE h
       obtain ⟨y32, h33, h⟩ := bE h
       obtain ⟨y34, h35, h⟩ := bE h
       obtain ⟨y36, h37, h⟩ := bE h
       exact wx [(y27.2, true)] w2b (st89s0_2 x0) (R89s0_2 x0 x1 y4) lv89s0 25 [true] [.row (y4.map pI) y27.1 (pI y30), .row (y4.map pI) (((Int.toNat y27.1) : Nat) : Int) (pI y30), .row (y4.map pI) y27.1 (pI y30), .row (y4.map pI) (((Int.toNat y27.1) : Nat) : Int) (pI y30), .row (z2.2.map q84) y30 (q84 y32), .row (z2.2.map q84) (((Int.toNat y30) : Nat) : Int) (q84 y32), .appD (z2.2.map q84) (Int.toNat y30) (q84 y32) 2 (y32.Consumers.map pI) ([z2.1].map pI) 1 (((y32.Consumers.map pI).length + ([z2.1].map pI).length) * (8 + 1)) (y34.map pI), .row (z2.2.map q84) y30 (q84 y32), .updD (z2.2.map q84) (Int.toNat y30) (Int.toNat y30) (q84 y32) (q84 (⟨y32.Buses, y32.Sources, y34⟩ : api_Island)) (y36.map q84)] [] 4 [0, 1, 2, 3, 4, 5, 6, 7, 12] (w64 (z2.1 + 1), y36) hC ⟨rg h31, rN h31, rg h31, rN h31, rg h33, rN h33, appD_get 1 (fun _ => rfl) h33 rfl h35, rg h33, updD_get h33 h37, trivial⟩ ⟨h29, trivial⟩ (sI h).symm
      ·replace h := cF h29 h
       exact wx [(y27.2, false)] w2b (st89s0_2 x0) (R89s0_2 x0 x1 y4) lv89s0 25 [false] [] [] 4 n9_ (w64 (z2.1 + 1), z2.2) hC trivial ⟨h29, trivial⟩ (sI h).symm
     ·replace h := cF h26 h
      exact wx [((c89s0_3 x0 z2), false)] w2 (sa89s0_2) (Ra89s0_2 x1) lv89s0 26 [false] [] [] 4 [0, 1, 2, 3, 7, 8] (z2.1, z2.2) hC trivial ⟨h26, trivial⟩ (hb2 _ (sI h).symm)
    ·have h := hnext2 _ hs2
     refine ws [] lv89s0 1 [] [] [.flat 4] 4 n5_ [(4, .d (DS q84 [])), (6, dS 4)] (zp x1 [v8_ z2.2]) hC trivial trivial ?_
     obtain ⟨y38, h39, h⟩ := bE h
     replace h := sI h
     subst h
     exact wr [] lv89s0 22 [] [.call 145 [dS 0, .d (.fn (.func 146) [] [])] [v8_ z2.2] (dS 1) [.non, v8_ y38] [4]] [] [.tmp 4] 4 [0, 1, 2, 3, 5] hC ⟨⟨e145s1, (k145s1 z2.2 _ h39)⟩, trivial⟩ trivial
def e89s0 := en Tryz.func89
def lv127 : List Nat := [0, 1, 2, 3, 4, 5, 7, 9, 14, 15, 16, 17, 21, 22, 23, 24]
def st127_0 (y3 : (List api_Island)) (n0 : Nat) (z0 : (List api_Running)) : St := [(3, dO 0 0), (4, dO 1 0), (5, dO 6 0), (14, dS 7), (15, dI (ln y3)), (16, dI (cnt 0 n0))]
def R127_0 (x1 : api_Power) (y1 : api_Power) (y3 : (List api_Island)) (n0 : Nat) (z0 : (List api_Running)) : List Res := (.box 36 (d36 x1) :: .box 36 [.os 8, .os 9, .os 10, .os 11] :: v3_ y1.Closed :: v5_ z0 :: v0_ y1.Limits :: v4_ y1.Broken :: .box 36 [.os 2, .os 3, .os 4, .os 5] :: v8_ y3 :: ze [])
def sa127_0  (z0 : (List api_Running)) : St := [(4, dO 0 0), (5, dO 5 0)]
def Ra127_0 (y1 : api_Power) (z0 : (List api_Running)) : List Res := (.box 36 [.os 6, .os 7, .os 8, .os 9] :: v3_ y1.Closed :: v5_ z0 :: v0_ y1.Limits :: v4_ y1.Broken :: .box 36 [.os 1, .os 2, .os 3, .os 4] :: ze [])
def st127_1 (y3 : (List api_Island)) (n0 : Nat) (a0 : api_Island) (n1 : Nat) (z1 : (List api_Running)) : St := [(3, dO 0 0), (4, dO 1 0), (5, dO 6 0), (7, dO 12 0), (14, dS 7), (15, dI (ln y3)), (16, dI (cnt 0 n0)), (21, .d (DS pI a0.Sources)), (22, dI (ln a0.Sources)), (23, dI (cnt 0 n1))]
def R127_1 (x1 : api_Power) (y1 : api_Power) (y3 : (List api_Island)) (a0 : api_Island) (n1 : Nat) (z1 : (List api_Running)) : List Res := (.box 36 (d36 x1) :: .box 36 [.os 8, .os 9, .os 10, .os 11] :: v3_ y1.Closed :: v5_ z1 :: v0_ y1.Limits :: v4_ y1.Broken :: .box 36 [.os 2, .os 3, .os 4, .os 5] :: v8_ y3 :: ze [.box 84 (d84 a0)])
def sa127_1 (y3 : (List api_Island)) (n0 : Nat) (z1 : (List api_Running)) : St := [(3, dO 0 0), (4, dO 1 0), (5, dO 6 0), (14, dS 7), (15, dI (ln y3)), (16, dI (cnt 0 n0))]
def Ra127_1 (x1 : api_Power) (y1 : api_Power) (y3 : (List api_Island)) (z1 : (List api_Running)) : List Res := (.box 36 (d36 x1) :: .box 36 [.os 8, .os 9, .os 10, .os 11] :: v3_ y1.Closed :: v5_ z1 :: v0_ y1.Limits :: v4_ y1.Broken :: .box 36 [.os 2, .os 3, .os 4, .os 5] :: v8_ y3 :: ze [])
theorem k127 (x0 : api_Board) (x1 : api_Power) (r : api_Power) (h : F127 x0 x1 = some r) : CO 127 [.agg (d29 x0), .agg (d36 x1)] [] (.agg [.os 0, .os 1, .os 2, .os 3]) (zp r []) := by
 unfold F127 at h
 refine co 58 Tryz.func127 fun C hC => ?_
 obtain ⟨y1, h2, h⟩ := bE h
 obtain ⟨y3, h4, h⟩ := bE h
 refine ws [] lv127 28 [] [.call 65 [.agg (d36 x1)] [] (.agg [.os 0, .os 1, .os 2, .os 3]) (zp y1 []) [], .call 25 [.agg (d29 x0), .agg (d36 x1)] [] (dS 0) [v8_ y3] [], .len (ln (y3.map q84)) (ln y3)] [.ownb 2 0 4 1, .ownb 2 1 120 4, .ownb 2 2 3 1, .ownb 2 3 86 2] 0 [1, 2, 3, 4, 5, 6, 7, 8, 9, 10, 11, 12] (st127_0 y3 0 y1.Sources) (R127_0 x1 y1 y3 0 y1.Sources) hC ⟨⟨e65, (k65 x1 _ h2)⟩, ⟨e25, (k25 x0 x1 _ h4)⟩, lM _ _, trivial⟩ trivial ?_
 obtain ⟨w0, hm0, hret0, hnext0⟩ := aIn h
 clear h
 refine wc w0 (sa127_0) (Ra127_0 y1) ?_ fun z0 hs0 => ?_
 ·refine wb ?_
  refine wO 14 7 rfl rfl fun hl0 => ?_
  refine wF (by kernel_rfl) (F127_l0 x1) (st127_0 y3) (R127_0 x1 y1 y3) w0 y3 y1.Sources hm0 rfl rfl (fun z0 hn0 => ?_) fun n0 a0 z0 w0b hi0 hx0 h hb0 hr0 => ?_
  ·clear hm0
   exact wx [(decide ((cnt 0 y3.length) < (ln y3)), false)] w0 (sa127_0) (Ra127_0 y1) lv127 26 [false] [] [] 0 [1, 2, 3, 4, 5, 6, 8, 9, 10, 11] z0 hC trivial ⟨(cE hl0), trivial⟩ hn0
  ·unfold F127_l0 at h
   refine ws [(decide ((cnt 0 n0) < (ln y3)), true)] lv127 32 [true] [.row (y3.map q84) (cnt 0 n0) (q84 a0), .row (y3.map q84) (((Int.toNat (cnt 0 n0)) : Nat) : Int) (q84 a0), .len (ln (a0.Sources.map pI)) (ln a0.Sources)] [] 0 n13_ (st127_1 y3 n0 a0 0 z0) (R127_1 x1 y1 y3 a0 0 z0) hC ⟨rg (gC hx0 hl0), rN (gC hx0 hl0), lM _ _, trivial⟩ ⟨(cL hi0 hl0), trivial⟩ ?_
   obtain ⟨w1, hm1, hret1, hnext1⟩ := aIn h
   clear h
   refine wc w1 (sa127_1 y3 n0) (Ra127_1 x1 y1 y3) ?_ fun z1 hs1 => ?_
   ·refine wb ?_
    refine wL 21 rfl fun hl1 => ?_
    refine wF (by kernel_rfl) (F127_l1 x1 a0) (st127_1 y3 n0 a0) (R127_1 x1 y1 y3 a0) w1 a0.Sources z0 hm1 rfl rfl (fun z1 hn1 => ?_) fun n1 a1 z1 w1b hi1 hx1 h hb1 hr1 => ?_
    ·clear hm1
     exact wx [(decide ((cnt 0 a0.Sources.length) < (ln a0.Sources)), false)] w1 (sa127_1 y3 n0) (Ra127_1 x1 y1 y3) lv127 26 [false] [] [] 0 n12_ z1 hC trivial ⟨(cE hl1), trivial⟩ hn1
    ·unfold F127_l1 at h
     obtain ⟨y5, h6, h⟩ := bE h
     obtain ⟨y7, h8, h⟩ := bE h
     obtain ⟨y9, h10, h⟩ := bE h
     obtain ⟨y11, h12, h⟩ := bE h
     obtain ⟨y13, h14, h⟩ := bE h
     obtain ⟨y15, h16, h⟩ := bE h
     obtain ⟨y17, h18, h⟩ := bE h
     obtain ⟨y19, h20, h⟩ := bE h
     exact wx [(decide ((cnt 0 n1) < (ln a0.Sources)), true)] w1b (st127_1 y3 n0 a0 (n1 + 1)) (R127_1 x1 y1 y3 a0 (n1 + 1)) lv127 33 [true] [.row (a0.Sources.map pI) (cnt 0 n1) (pI a1), .row (a0.Sources.map pI) 0 (pI y5), .row (x1.Sources.map q120) y5 (q120 y7), .row (a0.Sources.map pI) 0 (pI y9), .row (x1.Sources.map q120) y9 (q120 y11), .row (z1.map q120) a1 (q120 y13), .upd (z1.map q120) (Int.toNat a1) (q120 y13) (q120 (⟨y13.State, y13.Since, y7.Frequency, y13.Phase⟩ : api_Running)) (y15.map q120), .row (y15.map q120) a1 (q120 y17), .upd (y15.map q120) (Int.toNat a1) (q120 y17) (q120 (⟨y17.State, y17.Since, y17.Frequency, y11.Phase⟩ : api_Running)) (y19.map q120)] [] 0 n13_ y19 hC ⟨(rC hx1 hl1), rg h6, rg h8, rg h10, rg h12, rg h14, uG h14 h16, rg h18, uG h18 h20, trivial⟩ ⟨(cL hi1 hl1), trivial⟩ (sI h).symm
   ·have h := hnext1 _ hs1
    exact wx [] w0b (st127_0 y3 (n0 + 1)) (R127_0 x1 y1 y3 (n0 + 1)) lv127 23 [] [] [] 0 n12_ z1 hC trivial trivial (sI h).symm
 ·have h := hnext0 _ hs0
  replace h := sI h
  subst h
  exact wr [] lv127 23 [] [] [] [.cell 4 36] 0 [1, 2, 3, 4] hC trivial trivial
def e127 := en Tryz.func127
theorem k93 (x0 : api_Thruster) (r : Bool) (h : F93 x0 = some r) : CO 93 [.agg (d63 x0)] [] (.d (Bo r)) [] := by
 unfold F93 at h
 refine co 6 Tryz.func93 fun C hC => ?_
 obtain ⟨y1, h2, h⟩ := bE h
 replace h := sI h
 subst h
 exact wr [] n3_ 25 [] [.call 94 [.agg (d63 x0)] [] (dB y1) [] []] [] [.tmp 2] 0 [] hC ⟨⟨e94, (k94 x0 _ h2)⟩, trivial⟩ trivial
def e93 := en Tryz.func93
def lv156 : List Nat := [0, 1, 2, 3, 4, 6, 7, 9, 12, 13, 14, 15, 21]
def st156_0 (x2 : Int) (y1 : (List api_Island)) (n0 : Nat) (z0 : Unit) : St := [(2, dI x2), (6, dO 0 0), (7, dB false), (12, dS 1), (13, dI (ln y1)), (14, dI (cnt 0 n0))]
def R156_0 (y1 : (List api_Island)) (n0 : Nat) (z0 : Unit) : List Res := [.box 84 [.os 2, .os 3, .os 4], v8_ y1, v0_ ([] : List Int), v0_ ([] : List Int), v0_ ([] : List Int)]
def sa156_0  (z0 : Unit) : St := [(6, dO 0 0), (7, dB false)]
def Ra156_0  (z0 : Unit) : List Res := [.box 84 [.os 1, .os 2, .os 3], v0_ ([] : List Int), v0_ ([] : List Int), v0_ ([] : List Int)]
theorem k156 (x0 : api_Board) (x1 : api_Power) (x2 : Int) (r : api_Island × Bool) (h : F156 x0 x1 x2 = some r) : CO 156 [.agg (d29 x0), .agg (d36 x1), .d (I x2)] [] (.tup [.agg (d84 r.1), .d (Bo r.2)]) [] := by
 unfold F156 at h
 refine co 25 Tryz.func156 fun C hC => ?_
 obtain ⟨y1, h2, h⟩ := bE h
 refine ws [] lv156 26 [] [.call 89 [.agg (d29 x0), .agg (d36 x1)] [] (dS 0) [v8_ y1] [], .len (ln (y1.map q84)) (ln y1)] [.ownb 2 0 3 1, .ownb 2 1 3 1, .ownb 2 2 3 1] 0 [2, 3, 4, 5, 6] (st156_0 x2 y1 0 ()) (R156_0 y1 0 ()) hC ⟨⟨e89, (k89 x0 x1 _ h2)⟩, lM _ _, trivial⟩ trivial ?_
 obtain ⟨w0, hm0, hret0, hnext0⟩ := aIn h
 clear h
 refine wc w0 (sa156_0) (Ra156_0) ?_ fun z0 hs0 => ?_
 ·refine wb ?_
  refine wO 12 1 rfl rfl fun hl0 => ?_
  refine wF (by kernel_rfl) (F156_l0 x2) (st156_0 x2 y1) (R156_0 y1) w0 y1 () hm0 rfl rfl (fun z0 hn0 => ?_) fun n0 a0 z0 w0b hi0 hx0 h hb0 hr0 => ?_
  ·clear hm0
   exact wx [(decide ((cnt 0 y1.length) < (ln y1)), false)] w0 (sa156_0) (Ra156_0) lv156 26 [false] [] [] 0 [0, 2, 3, 4] () hC trivial ⟨(cE hl0), trivial⟩ hn0
  ·unfold F156_l0 at h
   obtain ⟨y3, h4, h⟩ := bE h
   refine ws [(decide ((cnt 0 n0) < (ln y1)), true)] lv156 32 [true] [.row (y1.map q84) (cnt 0 n0) (q84 a0), .row (y1.map q84) (((Int.toNat (cnt 0 n0)) : Nat) : Int) (q84 a0), .call 190 [.d (DS pI a0.Buses), dI x2] [] (dB y3) [] []] [] 0 n6_ [(2, dI x2), (6, dO 0 0), (7, dB false), (9, dO 5 0), (12, dS 1), (13, dI (ln y1)), (14, dI (cnt 0 n0)), (21, dB y3)] [.box 84 [.os 2, .os 3, .os 4], v8_ y1, v0_ ([] : List Int), v0_ ([] : List Int), v0_ ([] : List Int), .box 84 (d84 a0)] hC ⟨rg (gC hx0 hl0), rN (gC hx0 hl0), ⟨e190, (k190 a0.Buses x2 _ h4)⟩, trivial⟩ ⟨(cL hi0 hl0), trivial⟩ ?_
   rcases bC (y3) with h5 | h5
   ·replace h := cT h5 h
    have hq := hret0 _ (hr0 _ (sI h).symm)
    replace hq := sI hq
    subst hq
    exact wr [(y3, true)] lv156 24 [true] [] [] [.cell 6 84, .tmp 7] 0 [] hC trivial ⟨h5, trivial⟩
   ·replace h := cF h5 h
    exact wx [(y3, false)] w0b (st156_0 x2 y1 (n0 + 1)) (R156_0 y1 (n0 + 1)) lv156 25 [false] [] [] 0 n5_ () hC trivial ⟨h5, trivial⟩ (sI h).symm
 ·have h := hnext0 _ hs0
  replace h := sI h
  subst h
  exact wr [] lv156 23 [] [] [.ownb 0 0 3 1, .frz 4, .ownb 0 1 3 1, .frz 5, .ownb 0 2 3 1, .frz 6] [.cell 6 84, .tmp 7] 0 [] hC trivial trivial
def e156 := en Tryz.func156
def lv106 : List Nat := [0, 1, 2, 3, 4, 5, 13]
theorem k106 (x0 : api_Thruster) (x1 : api_Thrust) (r : Int × Int) (h : F106 x0 x1 = some r) : CO 106 [.agg (d63 x0), .agg (d70 x1)] [] (.tup [.d (I r.1), .d (I r.2)]) [] := by
 unfold F106 at h
 refine co 31 Tryz.func106 fun C hC => ?_
 obtain ⟨y1, h2, h⟩ := bE h
 refine ws [] lv106 26 [] [.call 94 [.agg (d63 x0)] [] (dB y1) [] [], .when [(!y1, false)] (.call 159 [.agg (d70 x1)] [] (dB (F159 x1)) [] [])] [] 0 [0, 1] [(2, dO 0 0), (3, dO 1 0), (4, dI 0), (5, dI 0), (13, dB ((!y1) || (!(F159 x1))))] [.box 63 (d63 x0), .box 70 (d70 x1)] hC ⟨⟨e94, (k94 x0 _ h2)⟩, fun hg => ⟨e159, (k159 x1 _ rfl)⟩, trivial⟩ trivial ?_
 rcases bC (((!y1) || (!(F159 x1)))) with h3 | h3
 ·replace h := cT h3 h
  replace h := sI h
  subst h
  exact wr [(((!y1) || (!(F159 x1))), true)] lv106 24 [true] [] [] [.tmp 4, .tmp 5] 0 [] hC trivial ⟨h3, trivial⟩
 ·replace h := cF h3 h
  obtain ⟨y4, h5, h⟩ := bE h
  replace h := sI h
  subst h
  exact wr [(((!y1) || (!(F159 x1))), false)] lv106 25 [false] [.call 160 [.d (I (w64 ((w64 ((w64 (x1.X * x1.X)) + (w64 (x1.Y * x1.Y)))) * x0.Cost))), dI 1000] [] (.tup [dI y4.1, dI y4.2]) [] []] [] [.tmp 4, .tmp 5] 0 [] hC ⟨⟨e160, (k160 (w64 ((w64 ((w64 (x1.X * x1.X)) + (w64 (x1.Y * x1.Y)))) * x0.Cost)) 1000 _ h5)⟩, trivial⟩ ⟨h3, trivial⟩
def e106 := en Tryz.func106
def lv16b : List Nat := [0, 1, 2, 3, 4, 6, 7, 8, 10, 45, 51, 52, 53, 54, 61]
def st16_0 (y12 : api_Consumer) (n0 : Nat) (z0 : Unit) : St := [(3, dO 0 0), (4, dO 1 0), (6, dB false), (51, .d (DS pI y12.Needs)), (52, dI (ln y12.Needs)), (53, dI (cnt 0 n0))]
def R16_0 (x0 : api_Board) (x1 : api_Power) (n0 : Nat) (z0 : Unit) : List Res := [.box 29 (d29 x0), .box 36 (d36 x1)]
def sa16_0  (z0 : Unit) : St := [(6, dB false)]
def Ra16_0  (z0 : Unit) : List Res := []
theorem k16b (rec16 : api_Board -> api_Power -> Int -> Option Bool) (ih16 : ∀ (x0 : api_Board) (x1 : api_Power) (x2 : Int) (r : Bool), rec16 x0 x1 x2 = some r -> CO 16 [.agg (d29 x0), .agg (d36 x1), .d (I x2)] [] (.d (Bo r)) []) (x0 : api_Board) (x1 : api_Power) (x2 : Int) (r : Bool) (h : F16b rec16 x0 x1 x2 = some r) : CO 16 [.agg (d29 x0), .agg (d36 x1), .d (I x2)] [] (.d (Bo r)) [] := by
 unfold F16b at h
 refine co 63 Tryz.func16 fun C hC => ?_
 obtain ⟨y1, h2, h⟩ := bE h
 obtain ⟨y3, h4, h⟩ := bE h
 obtain ⟨y5, h6, h⟩ := bE h
 obtain ⟨y7, h8, h⟩ := bE h
 obtain ⟨y9, h10, h⟩ := bE h
 refine ws [] lv16b 28 [] [.call 48 [.agg (d29 x0), .agg (d36 x1), dI x2] [] (.tup [dI y1.1, dB y1.2]) [] [], .when [(!y1.2, false)] (.call 28 [.agg (d29 x0), .agg (d36 x1), dI y1.1] [] (dB y3) [] []), .when [(((!y1.2) || (!y3)), false)] (.call 49 [.agg (d36 x1), dI 4, dI x2] [] (dB y5) [] []), .when [((((!y1.2) || (!y3)) || y5), false)] (.row (x1.Limits.map pI) x2 (pI y7)), .when [((((!y1.2) || (!y3)) || y5), false)] (.row (x0.Consumers.map q65) x2 (q65 y9))] [] 0 [0, 1] [(2, dI x2), (3, dO 0 0), (4, dO 1 0), (6, dB false), (45, dB (c16_0 y1 y3 y5 y7 y9))] [.box 29 (d29 x0), .box 36 (d36 x1)] hC ⟨⟨e48, (k48 x0 x1 x2 _ h2)⟩, fun hg => ⟨e28, (k28 x0 x1 y1.1 _ (gg h4 hg))⟩, fun hg => ⟨e49, (k49 x1 4 x2 _ (gg h6 hg))⟩, fun hg => rg (gg h8 hg), fun hg => rg (gg h10 hg), trivial⟩ trivial ?_
 rcases bC ((c16_0 y1 y3 y5 y7 y9)) with h11 | h11
 ·replace h := cT h11 h
  replace h := sI h
  subst h
  exact wr [((c16_0 y1 y3 y5 y7 y9), true)] lv16b 24 [true] [] [] [.tmp 6] 0 [] hC trivial ⟨h11, trivial⟩
 ·replace h := cF h11 h
  obtain ⟨y12, h13, h⟩ := bE h
  refine ws [((c16_0 y1 y3 y5 y7 y9), false)] lv16b 26 [false] [.row (x0.Consumers.map q65) x2 (q65 y12), .len (ln (y12.Needs.map pI)) (ln y12.Needs)] [] 0 [0, 1] (st16_0 y12 0 ()) (R16_0 x0 x1 0 ()) hC ⟨rg h13, lM _ _, trivial⟩ ⟨h11, trivial⟩ ?_
  obtain ⟨w0, hm0, hret0, hnext0⟩ := aIn h
  clear h
  refine wc w0 (sa16_0) (Ra16_0) ?_ fun z0 hs0 => ?_
  ·refine wb ?_
   refine wL 51 rfl fun hl0 => ?_
   refine wF (by kernel_rfl) (F16_l0 x0 x1 rec16) (st16_0 y12) (R16_0 x0 x1) w0 y12.Needs () hm0 rfl rfl (fun z0 hn0 => ?_) fun n0 a0 z0 w0b hi0 hx0 h hb0 hr0 => ?_
   ·clear hm0
    exact wx [(decide ((cnt 0 y12.Needs.length) < (ln y12.Needs)), false)] w0 (sa16_0) (Ra16_0) lv16b 26 [false] [] [] 0 [] () hC trivial ⟨(cE hl0), trivial⟩ hn0
   ·unfold F16_l0 at h
    obtain ⟨y14, h15, h⟩ := bE h
    refine ws [(decide ((cnt 0 n0) < (ln y12.Needs)), true)] lv16b 32 [true] [.row (y12.Needs.map pI) (cnt 0 n0) (pI a0), .call 16 [.agg (d29 x0), .agg (d36 x1), dI a0] [] (dB y14) [] []] [] 0 [0, 1] [(3, dO 0 0), (4, dO 1 0), (6, dB false), (51, .d (DS pI y12.Needs)), (52, dI (ln y12.Needs)), (53, dI (cnt 0 n0)), (61, dB (!y14))] [.box 29 (d29 x0), .box 36 (d36 x1)] hC ⟨(rC hx0 hl0), ⟨e16, (ih16 x0 x1 a0 _ h15)⟩, trivial⟩ ⟨(cL hi0 hl0), trivial⟩ ?_
    rcases bC (!y14) with h16 | h16
    ·replace h := cT h16 h
     have hq := hret0 _ (hr0 _ (sI h).symm)
     replace hq := sI hq
     subst hq
     exact wr [(!y14, true)] lv16b 24 [true] [] [] [.tmp 6] 0 [] hC trivial ⟨h16, trivial⟩
    ·replace h := cF h16 h
     exact wx [(!y14, false)] w0b (st16_0 y12 (n0 + 1)) (R16_0 x0 x1 (n0 + 1)) lv16b 25 [false] [] [] 0 [0, 1] () hC trivial ⟨h16, trivial⟩ (sI h).symm
  ·have h := hnext0 _ hs0
   replace h := sI h
   subst h
   exact wr [] lv16b 23 [] [] [] [.tmp 6] 0 [] hC trivial trivial
theorem k16f (n : Nat) : ∀ (x0 : api_Board) (x1 : api_Power) (x2 : Int) (r : Bool), F16f n x0 x1 x2 = some r -> CO 16 [.agg (d29 x0), .agg (d36 x1), .d (I x2)] [] (.d (Bo r)) [] := by
 induction n with
 | zero => intro x0 x1 x2 r h; cases h
 | succ n ih => intro x0 x1 x2 r h; exact k16b _ ih x0 x1 x2 r h
theorem k16 (x0 : api_Board) (x1 : api_Power) (x2 : Int) (r : Bool) (h : F16 x0 x1 x2 = some r) : CO 16 [.agg (d29 x0), .agg (d36 x1), .d (I x2)] [] (.d (Bo r)) [] := k16f 1000 x0 x1 x2 r h
def lv57 : List Nat := [0, 1, 2, 3, 4, 5, 6, 7, 9, 14, 21, 22, 23, 24, 30]
def st57_0 (y6 : (List api_Island)) (n0 : Nat) (z0 : (List api_Running)) : St := [(3, dO 0 0), (4, dO 1 0), (5, dI 0), (7, dO 10 0), (21, dS 11), (22, dI (ln y6)), (23, dI (cnt 0 n0))]
def R57_0 (x1 : api_Power) (y4 : api_Power) (y6 : (List api_Island)) (n0 : Nat) (z0 : (List api_Running)) : List Res := (.box 36 (d36 x1) :: .box 36 [.os 2, .os 3, .os 4, .os 5] :: ze [v3_ y4.Closed, v5_ z0, v0_ y4.Limits, v4_ y4.Broken, .box 36 [.os 6, .os 7, .os 8, .os 9], v8_ y6])
def sa57_0  (z0 : (List api_Running)) : St := [(4, dO 0 0), (5, dI 0), (7, dO 9 0)]
def Ra57_0 (y4 : api_Power) (z0 : (List api_Running)) : List Res := (.box 36 [.os 1, .os 2, .os 3, .os 4] :: ze [v3_ y4.Closed, v5_ z0, v0_ y4.Limits, v4_ y4.Broken, .box 36 [.os 5, .os 6, .os 7, .os 8]])
theorem k57 (x0 : api_Board) (x1 : api_Power) (r : api_Power × Int) (h : F57 x0 x1 = some r) : CO 57 [.agg (d29 x0), .agg (d36 x1)] [] (.tup [.agg [.os 0, .os 1, .os 2, .os 3], .d (I r.2)]) (zp r.1 []) := by
 unfold F57 at h
 refine co 45 Tryz.func57 fun C hC => ?_
 obtain ⟨y1, h2, h⟩ := bE h
 refine ws [] lv57 28 [] [.call 43 [.agg (d29 x0), .agg (d36 x1)] [] (dI y1) [] []] [.ownb 2 0 4 1, .ownb 2 1 120 4, .ownb 2 2 3 1, .ownb 2 3 86 2] 0 n7_ [(2, dO 0 0), (3, dO 1 0), (4, dO 2 0), (5, dI 0), (6, dI y1), (14, dB (y1 != 0))] (.box 29 (d29 x0) :: .box 36 (d36 x1) :: .box 36 [.os 3, .os 4, .os 5, .os 6] :: ze []) hC ⟨⟨e43, (k43 x0 x1 _ h2)⟩, trivial⟩ trivial ?_
 rcases bC ((y1 != 0)) with h3 | h3
 ·replace h := cT h3 h
  cases h
 ·replace h := cF h3 h
  obtain ⟨y4, h5, h⟩ := bE h
  obtain ⟨y6, h7, h⟩ := bE h
  refine ws [((y1 != 0), false)] lv57 28 [false] [.call 116 [.agg (d36 x1)] [] (.agg [.os 0, .os 1, .os 2, .os 3]) (zp y4 []) [], .call 89 [.agg (d29 x0), .agg (d36 x1)] [] (dS 0) [v8_ y6] [], .len (ln (y6.map q84)) (ln y6)] [] 0 [1, 2, 3, 4, 5, 6, 7, 8, 9, 10, 11, 12] (st57_0 y6 0 y4.Sources) (R57_0 x1 y4 y6 0 y4.Sources) hC ⟨⟨e116, (k116 x1 _ h5)⟩, ⟨e89, (k89 x0 x1 _ h7)⟩, lM _ _, trivial⟩ ⟨h3, trivial⟩ ?_
  obtain ⟨w0, hm0, hret0, hnext0⟩ := aIn h
  clear h
  refine wc w0 (sa57_0) (Ra57_0 y4) ?_ fun z0 hs0 => ?_
  ·refine wb ?_
   refine wO 21 11 rfl rfl fun hl0 => ?_
   refine wF (by kernel_rfl) (F57_l0 x1 y4) (st57_0 y6) (R57_0 x1 y4 y6) w0 y6 y4.Sources hm0 rfl rfl (fun z0 hn0 => ?_) fun n0 a0 z0 w0b hi0 hx0 h hb0 hr0 => ?_
   ·clear hm0
    exact wx [(decide ((cnt 0 y6.length) < (ln y6)), false)] w0 (sa57_0) (Ra57_0 y4) lv57 26 [false] [] [] 0 [1, 2, 3, 4, 5, 6, 7, 8, 9, 10] z0 hC trivial ⟨(cE hl0), trivial⟩ hn0
   ·unfold F57_l0 at h
    refine ws [(decide ((cnt 0 n0) < (ln y6)), true)] lv57 32 [true] [.row (y6.map q84) (cnt 0 n0) (q84 a0), .row (y6.map q84) (((Int.toNat (cnt 0 n0)) : Nat) : Int) (q84 a0), .len (ln (a0.Sources.map pI)) (ln a0.Sources)] [] 0 n13_ [(3, dO 0 0), (4, dO 1 0), (5, dI 0), (7, dO 10 0), (9, dO 12 0), (21, dS 11), (22, dI (ln y6)), (23, dI (cnt 0 n0)), (30, dB (c57_2 a0))] (.box 36 (d36 x1) :: .box 36 [.os 2, .os 3, .os 4, .os 5] :: ze [v3_ y4.Closed, v5_ z0, v0_ y4.Limits, v4_ y4.Broken, .box 36 [.os 6, .os 7, .os 8, .os 9], v8_ y6, .box 84 (d84 a0)]) hC ⟨rg (gC hx0 hl0), rN (gC hx0 hl0), lM _ _, trivial⟩ ⟨(cL hi0 hl0), trivial⟩ ?_
    rcases bC ((c57_2 a0)) with h8 | h8
    ·replace h := cT h8 h
     obtain ⟨y9, h10, h⟩ := bE h
     obtain ⟨y11, h12, h⟩ := bE h
     obtain ⟨y13, h14, h⟩ := bE h
     exact wx [((c57_2 a0), true)] w0b (st57_0 y6 (n0 + 1)) (R57_0 x1 y4 y6 (n0 + 1)) lv57 25 [true] [.row (a0.Sources.map pI) 0 (pI y9), .row (x1.Sources.map q120) y9 (q120 y11), .call 117 [.agg [.os 0, .os 1, .os 2, .os 3], .d (DS pI a0.Sources), .agg (d120 y11)] [v3_ y4.Closed, v5_ z0, v0_ y4.Limits, v4_ y4.Broken] (.tup []) [v3_ y4.Closed, v5_ y13, v0_ y4.Limits, v4_ y4.Broken] [6, 7, 8, 9]] [] 0 n12_ y13 hC ⟨rg h10, rg h12, ⟨e117s0, (k117s0 (⟨y4.Closed, z0, y4.Limits, y4.Broken⟩ : api_Power) a0.Sources y11 _ h14)⟩, trivial⟩ ⟨h8, trivial⟩ (sI h).symm
    ·replace h := cF h8 h
     exact wx [((c57_2 a0), false)] w0b (st57_0 y6 (n0 + 1)) (R57_0 x1 y4 y6 (n0 + 1)) lv57 25 [false] [] [] 0 n12_ z0 hC trivial ⟨h8, trivial⟩ (sI h).symm
  ·have h := hnext0 _ hs0
   replace h := sI h
   subst h
   exact wr [] lv57 23 [] [] [] [.cell 4 36, .tmp 5] 0 [5, 6, 7, 8] hC trivial trivial
def e57 := en Tryz.func57
def lv237 : List Nat := [0, 1, 2, 3, 4, 6, 7, 9, 30, 32, 33, 40]
theorem k237 (x0 : api_Board) (x1 : api_Power) (x2 : Int) (r : Bool) (h : F237 x0 x1 x2 = some r) : CO 237 [.agg (d29 x0), .agg (d36 x1), .d (I x2)] [] (.d (Bo r)) [] := by
 unfold F237 at h
 refine co 74 Tryz.func237 fun C hC => ?_
 obtain ⟨y1, h2, h⟩ := bE h
 obtain ⟨y3, h4, h⟩ := bE h
 obtain ⟨y5, h6, h⟩ := bE h
 obtain ⟨y7, h8, h⟩ := bE h
 refine ws [] lv237 28 [] [.row (x0.Breakers.map q147) x2 (q147 y1), .row (x1.Closed.map pB) x2 (pB y3), .when [(y3, false)] (.call 103 [.agg (d36 x1), dI 2, dI x2] [] (dB y5) [] []), .when [((y3 || y5), false)] (.call 103 [.agg (d36 x1), dI 3, dI y1.A] [] (dB y7) [] [])] [] 0 n3_ [(3, dO 0 0), (4, dO 1 0), (6, dB false), (7, dO 2 0), (30, dB ((y3 || y5) || y7))] [.box 29 (d29 x0), .box 36 (d36 x1), .box 147 (d147 y1)] hC ⟨rg h2, rg h4, fun hg => ⟨e103, (k103 x1 2 x2 _ (gg h6 hg))⟩, fun hg => ⟨e103, (k103 x1 3 y1.A _ (gg h8 hg))⟩, trivial⟩ trivial ?_
 rcases bC (((y3 || y5) || y7)) with h9 | h9
 ·replace h := cT h9 h
  cases h
 ·replace h := cF h9 h
  rcases bC ((y1.Kind == 1)) with h10 | h10
  ·replace h := cT h10 h
   cases h
  ·replace h := cF h10 h
   rcases bC ((y1.Kind == 2)) with h11 | h11
   ·replace h := cT h11 h
    obtain ⟨y12, h13, h⟩ := bE h
    obtain ⟨y14, h15, h⟩ := bE h
    replace h := sI h
    subst h
    exact wr [(((y3 || y5) || y7), false), ((y1.Kind == 1), false), ((y1.Kind == 2), true)] lv237 35 [false, false, true] [.call 103 [.agg (d36 x1), dI 1, dI y1.B] [] (dB y12) [] [], .when [(!y12, true)] (.row (x1.Sources.map q120) y1.B (q120 y14))] [] [.tmp 6] 0 [] hC ⟨⟨e103, (k103 x1 1 y1.B _ h13)⟩, fun hg => rg (gg h15 hg), trivial⟩ ⟨h9, h10, h11, trivial⟩
   ·replace h := cF h11 h
    obtain ⟨y16, h17, h⟩ := bE h
    obtain ⟨y18, h19, h⟩ := bE h
    replace h := sI h
    subst h
    exact wr [(((y3 || y5) || y7), false), ((y1.Kind == 1), false), ((y1.Kind == 2), false)] lv237 39 [false, false, false] [.call 101 [.agg (d29 x0), .agg (d36 x1), dI y1.B] [] (.tup [dI y16.1, dB y16.2]) [] [], .call 103 [.agg (d36 x1), dI 4, dI y1.B] [] (dB y18) [] []] [] [.tmp 6] 0 [] hC ⟨⟨e101, (k101 x0 x1 y1.B _ h17)⟩, ⟨e103, (k103 x1 4 y1.B _ h19)⟩, trivial⟩ ⟨h9, h10, h11, trivial⟩
def e237 := en Tryz.func237
def lv188s1 : List Nat := [0, 2, 3, 24, 25, 26, 66]
def st188s1_0 (y1 : api_Power × Int) (z0 : Int) : St := [(0, dO 0 0), (24, dI (ln y1.1.Sources)), (25, dI z0)]
def R188s1_0 (x0 : restore_worker) (y1 : api_Power × Int) (z0 : Int) : List Res := (.box 186 (zb x0.board [.os 5, .os 6, .os 7, .os 8, I x0.time]) :: zp x0.power (zp y1.1 []))
def sa188s1_0  (z0 : Int) : St := []
def Ra188s1_0 (x0 : restore_worker) (y1 : api_Power × Int) (z0 : Int) : List Res := (.box 186 (zb x0.board [.os 5, .os 6, .os 7, .os 8, I x0.time]) :: zp x0.power (zp y1.1 []))
theorem k188s1 (x0 : restore_worker) (r : restore_worker) (h : F188s1 x0 = some r) : CO 188 [.d (.o 0 0)] (.box 186 (zb x0.board [.os 1, .os 2, .os 3, .os 4, I x0.time]) :: zp x0.power []) (.tup []) (.box 186 (zb r.board [.os 5, .os 6, .os 7, .os 8, I r.time]) :: .non :: .non :: .non :: .non :: zp r.power []) := by
 unfold F188s1 at h
 refine co 71 Tryz.func188 fun C hC => ?_
 obtain ⟨y1, h2, h⟩ := bE h
 refine ws [] lv188s1 25 [] [.call 222 [.agg (d29 x0.board), .agg [.os 0, .os 1, .os 2, .os 3]] (zp x0.power []) (.tup [.agg [.os 4, .os 5, .os 6, .os 7], dI y1.2]) (zp x0.power (zp y1.1 [])) [1, 2, 3, 4], .len (ln (y1.1.Sources.map q120)) (ln y1.1.Sources)] [] 5 n9_ (st188s1_0 y1 0) (R188s1_0 x0 y1 0) hC ⟨⟨e222, ((k222 x0.board x0.power _ h2).lend (by kernel_rfl) (by kernel_rfl) (by kernel_rfl) ⟨fS (fun _ => rfl), fS (fun _ => rfl), fS (fun _ => rfl), fS (fun _ => rfl), trivial⟩ (by kernel_rfl) (by kernel_rfl))⟩, lM _ _, trivial⟩ trivial ?_
 obtain ⟨w0, hm0, hret0, hnext0⟩ := aIn h
 clear h
 refine wc w0 (sa188s1_0) (Ra188s1_0 x0 y1) ?_ fun z0 hs0 => ?_
 ·refine wb ?_
  refine wW (by kernel_rfl) (F188s1_l0 x0 y1) (st188s1_0 y1) (R188s1_0 x0 y1) w0 1152921504606846976 0 hm0 rfl rfl fun z0 w0b h hb0 hr0 => ?_
  unfold F188s1_l0 at h
  rcases bC ((c188s1_3 y1 z0)) with h3 | h3
  ·replace h := cT h3 h
   obtain ⟨y4, h5, h⟩ := bE h
   obtain ⟨y6, h7, h⟩ := bE h
   obtain ⟨y8, h9, h⟩ := bE h
   refine ws [((c188s1_3 y1 z0), true)] lv188s1 34 [true] [.row (y1.1.Sources.map q120) z0 (q120 y4), .row (y1.1.Sources.map q120) (((Int.toNat z0) : Nat) : Int) (q120 y4), .when [((y4.State == 1), true)] (.callB 221 [.d (.ip [.v (.int .i64 x0.board.Buses), .s (x0.board.Breakers.map q147), .s (x0.board.Sources.map q139), .s (x0.board.Consumers.map q65), .v (.int .i64 x0.board.Phase), .v (.int .i64 x0.board.Frequency), .s (y1.1.Closed.map pB), .s (y1.1.Sources.map q120), .s (y1.1.Limits.map pI), .s (y1.1.Broken.map q86), .v (.int .i64 x0.time)]), dI z0] (dB y6) [[]] 0 []), .when [(((y4.State == 1) && y6), true)] (.row (y1.1.Sources.map q120) (((Int.toNat z0) : Nat) : Int) (q120 y4)), .when [(((y4.State == 1) && y6), true)] (.row (x0.board.Sources.map q139) z0 (q139 y8))] [] 5 n9_ [(0, dO 0 0), (3, .d (.oe 6 (Int.toNat z0) 4 0)), (24, dI (ln y1.1.Sources)), (25, dI z0), (66, dB (c188s1_4 x0 y4 y6 y8))] (.box 186 (zb x0.board [.os 5, .os 6, .os 7, .os 8, I x0.time]) :: zp x0.power (zp y1.1 [])) hC ⟨rg h5, rN h5, fun hg => l0g ⟨e221s0, (k221s0 (⟨x0.board, y1.1, x0.time⟩ : restore_worker) z0 _ (gg h7 hg))⟩, fun hg => rN h5, fun hg => rg (gg h9 hg), trivial⟩ ⟨h3, trivial⟩ ?_
   rcases bC ((c188s1_4 x0 y4 y6 y8)) with h10 | h10
   ·replace h := cT h10 h
    cases h
   ·replace h := cF h10 h
    exact wx [((c188s1_4 x0 y4 y6 y8), false)] w0b (st188s1_0 y1) (R188s1_0 x0 y1) lv188s1 25 [false] [] [] 5 n9_ (w64 (z0 + 1)) hC trivial ⟨h10, trivial⟩ (sI h).symm
  ·replace h := cF h3 h
   exact wx [((c188s1_3 y1 z0), false)] w0 (sa188s1_0) (Ra188s1_0 x0 y1) lv188s1 26 [false] [] [] 5 n9_ z0 hC trivial ⟨h3, trivial⟩ (hb0 _ (sI h).symm)
 ·have h := hnext0 _ hs0
  replace h := sI h
  subst h
  exact wf [] lv188s1 20 [] [] [.frz 1, .frz 2, .frz 3, .frz 4] [] 5 n9_ hC trivial trivial
def e188s1 := en Tryz.func188
theorem k39 (x0 : api_Board) (x1 : api_Power) (r : Bool) (h : F39 x0 x1 = some r) : CO 39 [.agg (d29 x0), .agg (d36 x1)] [] (.d (Bo r)) [] := by
 unfold F39 at h
 refine co 16 Tryz.func39 fun C hC => ?_
 obtain ⟨y1, h2, h⟩ := bE h
 obtain ⟨y3, h4, h⟩ := bE h
 obtain ⟨y5, h6, h⟩ := bE h
 replace h := sI h
 subst h
 exact wr [] n5_ 25 [] [.call 43 [.agg (d29 x0), .agg (d36 x1)] [] (dI y1) [] [], .when [((y1 == 0), true)] (.call 89 [.agg (d29 x0), .agg (d36 x1)] [] (dS 0) [v8_ y3] []), .when [((y1 == 0), true)] (.callB 88 [.d (DS q84 y3), .d (.fn (.func 90) [] [])] (dB y5) [[]] 0 [])] [] [.tmp 4] 0 [] hC ⟨⟨e43, (k43 x0 x1 _ h2)⟩, fun hg => ⟨e89, (k89 x0 x1 _ (gg h4 hg))⟩, fun hg => l0g ⟨e88s0, (k88s0 y3 _ (gg h6 hg))⟩, trivial⟩ trivial
def e39 := en Tryz.func39
def lv131 : List Nat := [0, 1, 2, 3, 4, 5, 6, 11]
theorem k131 (x0 : api_Board) (x1 : api_Power) (r : api_Power × Int) (h : F131 x0 x1 = some r) : CO 131 [.agg (d29 x0), .agg (d36 x1)] [] (.tup [.agg [.os 0, .os 1, .os 2, .os 3], .d (I r.2)]) (zp r.1 []) := by
 unfold F131 at h
 refine co 17 Tryz.func131 fun C hC => ?_
 obtain ⟨y1, h2, h⟩ := bE h
 refine ws [] lv131 28 [] [.call 53 [.agg (d29 x0), .agg (d36 x1)] [] (dI y1) [] []] [.ownb 2 0 4 1, .ownb 2 1 120 4, .ownb 2 2 3 1, .ownb 2 3 86 2] 0 n7_ [(2, dO 0 0), (3, dO 1 0), (4, dO 2 0), (5, dI 0), (6, dI y1), (11, dB (y1 != 0))] (.box 29 (d29 x0) :: .box 36 (d36 x1) :: .box 36 [.os 3, .os 4, .os 5, .os 6] :: ze []) hC ⟨⟨e53, (k53 x0 x1 _ h2)⟩, trivial⟩ trivial ?_
 rcases bC ((y1 != 0)) with h3 | h3
 ·replace h := cT h3 h
  replace h := sI h
  subst h
  exact wr [((y1 != 0), true)] lv131 24 [true] [] [.ownb 2 0 4 1, .ownb 2 1 120 4, .ownb 2 2 3 1, .ownb 2 3 86 2] [.cell 4 36, .tmp 5] 0 [7, 8, 9, 10] hC trivial ⟨h3, trivial⟩
 ·replace h := cF h3 h
  obtain ⟨y4, h5, h⟩ := bE h
  replace h := sI h
  subst h
  exact wr [((y1 != 0), false)] lv131 25 [false] [.call 127 [.agg (d29 x0), .agg (d36 x1)] [] (.agg [.os 0, .os 1, .os 2, .os 3]) (zp y4 []) []] [] [.cell 4 36, .tmp 5] 0 [7, 8, 9, 10] hC ⟨⟨e127, (k127 x0 x1 _ h5)⟩, trivial⟩ ⟨h3, trivial⟩
def e131 := en Tryz.func131
def lv147s0 : List Nat := [0, 1, 4, 5, 7, 8, 9, 16]
def st147s0_0 (x0 : List api_Thruster) (n0 : Nat) (z0 : Unit) : St := [(0, .d (DS q63 x0)), (1, .d (.fn (.func 93) [] [])), (4, dI 0), (7, dI (ln x0)), (8, dI (cnt 0 n0))]
def R147s0_0  (n0 : Nat) (z0 : Unit) : List Res := []
def sa147s0_0  (z0 : Unit) : St := [(4, dI 0)]
def Ra147s0_0  (z0 : Unit) : List Res := []
theorem k147s0 (x0 : List api_Thruster) (r : Int) (h : F147s0 x0 = some r) : CO 147 [.d (DS q63 x0), .d (.fn (.func 93) [] [])] [] (.d (I r)) [] := by
 unfold F147s0 at h
 refine co 19 Tryz.func147 fun C hC => ?_
 refine ws [] lv147s0 26 [] [.len (ln (x0.map q63)) (ln x0)] [] 0 [] (st147s0_0 x0 0 ()) (R147s0_0 0 ()) hC ⟨lM _ _, trivial⟩ trivial ?_
 obtain ⟨w0, hm0, hret0, hnext0⟩ := aIn h
 clear h
 refine wc w0 (sa147s0_0) (Ra147s0_0) ?_ fun z0 hs0 => ?_
 ·refine wb ?_
  refine wL 0 rfl fun hl0 => ?_
  refine wF (by kernel_rfl) F147s0_l0 (st147s0_0 x0) (R147s0_0) w0 x0 () hm0 rfl rfl (fun z0 hn0 => ?_) fun n0 a0 z0 w0b hi0 hx0 h hb0 hr0 => ?_
  ·clear hm0
   exact wx [(decide ((cnt 0 x0.length) < (ln x0)), false)] w0 (sa147s0_0) (Ra147s0_0) lv147s0 26 [false] [] [] 0 [] () hC trivial ⟨(cE hl0), trivial⟩ hn0
  ·unfold F147s0_l0 at h
   obtain ⟨y1, h2, h⟩ := bE h
   refine ws [(decide ((cnt 0 n0) < (ln x0)), true)] lv147s0 32 [true] [.row (x0.map q63) (cnt 0 n0) (q63 a0), .call 93 [.agg (d63 a0)] [] (dB y1) [] []] [] 0 [] [(0, .d (DS q63 x0)), (1, .d (.fn (.func 93) [] [])), (4, dI 0), (5, dI (cnt 0 n0)), (7, dI (ln x0)), (8, dI (cnt 0 n0)), (16, dB y1)] [] hC ⟨(rC hx0 hl0), ⟨e93, (k93 a0 _ h2)⟩, trivial⟩ ⟨(cL hi0 hl0), trivial⟩ ?_
   rcases bC (y1) with h3 | h3
   ·replace h := cT h3 h
    have hq := hret0 _ (hr0 _ (sI h).symm)
    replace hq := sI hq
    subst hq
    exact wr [(y1, true)] lv147s0 24 [true] [] [] [.tmp 4] 0 [] hC trivial ⟨h3, trivial⟩
   ·replace h := cF h3 h
    exact wx [(y1, false)] w0b (st147s0_0 x0 (n0 + 1)) (R147s0_0 (n0 + 1)) lv147s0 25 [false] [] [] 0 [] () hC trivial ⟨h3, trivial⟩ (sI h).symm
 ·have h := hnext0 _ hs0
  replace h := sI h
  subst h
  exact wr [] lv147s0 23 [] [] [] [.tmp 4] 0 [] hC trivial trivial
def e147s0 := en Tryz.func147
theorem k102 (x0 : api_Board) (x1 : api_Power) (x2 : Int) (r : Bool) (h : F102 x0 x1 x2 = some r) : CO 102 [.agg (d29 x0), .agg (d36 x1), .d (I x2)] [] (.d (Bo r)) [] := by
 unfold F102 at h
 refine co 20 Tryz.func102 fun C hC => ?_
 obtain ⟨y1, h2, h⟩ := bE h
 replace h := sI h
 subst h
 exact wr [] [0, 1, 2, 3, 4, 6, 7] 27 [] [.call 156 [.agg (d29 x0), .agg (d36 x1), dI x2] [] (.tup [.agg (d84 y1.1), dB y1.2]) [] [], .len (ln (y1.1.Sources.map pI)) (ln y1.1.Sources)] [] [.tmp 6] 0 [] hC ⟨⟨e156, (k156 x0 x1 x2 _ h2)⟩, lM _ _, trivial⟩ trivial
def e102 := en Tryz.func102
def lv47 : List Nat := [0, 1, 2, 4, 5, 6, 7, 17, 24]
theorem k47 (x0 : api_Thruster) (x1 : Int) (r : Int) (h : F47 x0 x1 = some r) : CO 47 [.agg (d63 x0), .d (I x1)] [] (.d (I r)) [] := by
 unfold F47 at h
 refine co 40 Tryz.func47 fun C hC => ?_
 obtain ⟨y1, h2, h⟩ := bE h
 rcases bC (((y1.2 != 0) || (decide (x1 < 0)))) with h3 | h3
 ·replace h := cT h3 h
  replace h := sI h
  subst h
  exact wr [(((y1.2 != 0) || (decide (x1 < 0))), true)] lv47 32 [true] [.call 106 [.agg (d63 x0), .agg [I x0.Max, I 0]] [] (.tup [dI y1.1, dI y1.2]) [] []] [] [.tmp 4] 0 [] hC ⟨⟨e106, (k106 x0 (⟨x0.Max, 0⟩ : api_Thrust) _ h2)⟩, trivial⟩ ⟨h3, trivial⟩
 ·replace h := cF h3 h
  rcases bC (decide (x1 >= y1.1)) with h4 | h4
  ·replace h := cT h4 h
   replace h := sI h
   subst h
   exact wr [(((y1.2 != 0) || (decide (x1 < 0))), false), (decide (x1 >= y1.1), true)] lv47 35 [false, true] [.call 106 [.agg (d63 x0), .agg [I x0.Max, I 0]] [] (.tup [dI y1.1, dI y1.2]) [] []] [] [.tmp 4] 0 [] hC ⟨⟨e106, (k106 x0 (⟨x0.Max, 0⟩ : api_Thrust) _ h2)⟩, trivial⟩ ⟨h3, h4, trivial⟩
  ·replace h := cF h4 h
   obtain ⟨u6, h5, h⟩ := bE h
   obtain ⟨y7, h8, h⟩ := bE h
   replace h := sI h
   subst h
   exact wr [(((y1.2 != 0) || (decide (x1 < 0))), false), (decide (x1 >= y1.1), false)] lv47 39 [false, false] [.call 106 [.agg (d63 x0), .agg [I x0.Max, I 0]] [] (.tup [dI y1.1, dI y1.2]) [] [], .nz x0.Cost, .call 107 [.d (I (w64 (Int.tdiv (w64 (1000 * x1)) x0.Cost)))] [] (.tup [dI y7.1, dI y7.2]) [] []] [] [.tmp 4] 0 [] hC ⟨⟨e106, (k106 x0 (⟨x0.Max, 0⟩ : api_Thrust) _ h2)⟩, nz_get h5, ⟨e107, (k107 (w64 (Int.tdiv (w64 (1000 * x1)) x0.Cost)) _ h8)⟩, trivial⟩ ⟨h3, h4, trivial⟩
def e47 := en Tryz.func47
def lv21 : List Nat := [0, 1, 2, 3, 4, 5, 6, 7, 8, 9, 18, 22, 36, 43]
theorem k21 (x0 : api_Board) (x1 : api_Table) (x2 : api_Plant) (r : Int) (h : F21 x0 x1 x2 = some r) : CO 21 [.agg (d29 x0), .agg (d31 x1), .agg (d40 x2)] [] (.d (I r)) [] := by
 unfold F21 at h
 refine co 55 Tryz.func21 fun C hC => ?_
 obtain ⟨y1, h2, h⟩ := bE h
 refine ws [] lv21 31 [] [.call 57 [.agg (d29 x0), .agg (d36 x2.Power)] [] (.tup [.agg [.os 0, .os 1, .os 2, .os 3], dI y1.2]) (zp y1.1 []) []] [] 0 n9_ [(3, dO 0 0), (4, dO 1 0), (5, dO 2 0), (6, dI 0), (7, dO 7 0), (8, dI y1.2), (9, dO 8 0), (18, dB (y1.2 != 0))] (.box 29 (d29 x0) :: .box 31 (d31 x1) :: .box 40 (d40 x2) :: zp y1.1 [.box 36 [.os 3, .os 4, .os 5, .os 6], .box 126 [.fn (.func 58) [] [.o 2 0]]]) hC ⟨⟨e57, (k57 x0 x2.Power _ h2)⟩, trivial⟩ trivial ?_
 rcases bC ((y1.2 != 0)) with h3 | h3
 ·replace h := cT h3 h
  cases h
 ·replace h := cF h3 h
  rcases bC ((c21_0 x1 x2)) with h4 | h4
  ·replace h := cT h4 h
   cases h
  ·replace h := cF h4 h
   rcases bC (((ln x2.Rosters) != x0.Buses)) with h5 | h5
   ·replace h := cT h5 h
    cases h
   ·replace h := cF h5 h
    obtain ⟨y6, h7, h⟩ := bE h
    obtain ⟨y8, h9, h⟩ := bE h
    refine ws [((y1.2 != 0), false), ((c21_0 x1 x2), false), (((ln x2.Rosters) != x0.Buses), false)] lv21 30 [false, false, false] [.call 59 [.agg (d31 x1)] [] (dB (F59 x1)) [] [], .len (ln (x2.Rosters.map q130)) (ln x2.Rosters), .callB 60 [.agg (d36 x2.Power), .agg (d36 y1.1)] (dB y6) [[]] 0 [], .whenR [(!y6, false)] (.call 61 [.d (DS q130 x2.Rosters), .d (.fn (.func 62) [] [.o 0 0])] [.box 126 [.fn (.func 58) [] [.o 1 0]], .box 40 (d40 x2)] (dB y8.1) [.box 126 [.fn (.func 58) [] [.o 1 0]], .box 40 (d40 y8.2)] [8, 2])] [] 0 [] [(6, dI 0), (43, dB ((!y6) || y8.1))] [] hC ⟨⟨e59, (k59 x1 _ rfl)⟩, lM _ _, l0g ⟨e60, (k60 x2.Power y1.1 _ h7)⟩, ⟨fun hg => ⟨e61s0, (k61s0 x2.Rosters x2 _ (gg h9 hg))⟩, fun hg => by have e := guardO_not h9 hg; subst e; rfl⟩, trivial⟩ ⟨h3, h4, h5, trivial⟩ ?_
    rcases bC (((!y6) || y8.1)) with h10 | h10
    ·replace h := cT h10 h
     cases h
    ·replace h := cF h10 h
     replace h := sI h
     subst h
     exact wr [(((!y6) || y8.1), false)] lv21 26 [false] [] [] [.tmp 6] 0 [] hC trivial ⟨h10, trivial⟩
def e21 := en Tryz.func21
def lv216 : List Nat := [0, 1, 2, 3, 4, 6, 7, 8, 20]
theorem k216 (x0 : api_Board) (x1 : api_Power) (x2 : Int) (r : Int × Bool) (h : F216 x0 x1 x2 = some r) : CO 216 [.agg (d29 x0), .agg (d36 x1), .d (I x2)] [] (.tup [.d (I r.1), .d (Bo r.2)]) [] := by
 unfold F216 at h
 refine co 25 Tryz.func216 fun C hC => ?_
 obtain ⟨y1, h2, h⟩ := bE h
 refine ws [] lv216 28 [] [.call 156 [.agg (d29 x0), .agg (d36 x1), dI x2] [] (.tup [.agg (d84 y1.1), dB y1.2]) [] [], .len (ln (y1.1.Sources.map pI)) (ln y1.1.Sources)] [] 0 [2] [(6, dI 0), (7, dB false), (8, dO 0 0), (20, dB ((ln y1.1.Sources) == 0))] [.box 84 (d84 y1.1)] hC ⟨⟨e156, (k156 x0 x1 x2 _ h2)⟩, lM _ _, trivial⟩ trivial ?_
 rcases bC (((ln y1.1.Sources) == 0)) with h3 | h3
 ·replace h := cT h3 h
  replace h := sI h
  subst h
  exact wr [(((ln y1.1.Sources) == 0), true)] lv216 24 [true] [] [] [.tmp 6, .tmp 7] 0 [] hC trivial ⟨h3, trivial⟩
 ·replace h := cF h3 h
  obtain ⟨y4, h5, h⟩ := bE h
  replace h := sI h
  subst h
  exact wr [(((ln y1.1.Sources) == 0), false)] lv216 25 [false] [.row (y1.1.Sources.map pI) 0 (pI y4)] [] [.tmp 6, .tmp 7] 0 [] hC ⟨rg h5, trivial⟩ ⟨h3, trivial⟩
def e216 := en Tryz.func216
def lv214 : List Nat := [0, 1, 2, 3, 4, 6, 7, 9, 11, 20, 21, 22, 23, 29]
def st214_0 (y1 : api_Island × Bool) (n0 : Nat) (z0 : Int) : St := [(4, dO 0 0), (6, dI 0), (7, dO 1 0), (9, dI z0), (20, .d (DS pI y1.1.Consumers)), (21, dI (ln y1.1.Consumers)), (22, dI (cnt 0 n0))]
def R214_0 (x1 : api_Power) (y1 : api_Island × Bool) (n0 : Nat) (z0 : Int) : List Res := [.box 36 (d36 x1), .box 84 (d84 y1.1)]
def sa214_0  (z0 : Int) : St := [(6, dI 0), (9, dI z0)]
def Ra214_0  (z0 : Int) : List Res := []
theorem k214 (x0 : api_Board) (x1 : api_Power) (x2 : Int) (r : Int) (h : F214 x0 x1 x2 = some r) : CO 214 [.agg (d29 x0), .agg (d36 x1), .d (I x2)] [] (.d (I r)) [] := by
 unfold F214 at h
 refine co 39 Tryz.func214 fun C hC => ?_
 obtain ⟨y1, h2, h⟩ := bE h
 refine ws [] lv214 30 [] [.call 156 [.agg (d29 x0), .agg (d36 x1), dI x2] [] (.tup [.agg (d84 y1.1), dB y1.2]) [] [], .len (ln (y1.1.Consumers.map pI)) (ln y1.1.Consumers)] [] 0 [1, 2] (st214_0 y1 0 0) (R214_0 x1 y1 0 0) hC ⟨⟨e156, (k156 x0 x1 x2 _ h2)⟩, lM _ _, trivial⟩ trivial ?_
 obtain ⟨w0, hm0, hret0, hnext0⟩ := aIn h
 clear h
 refine wc w0 (sa214_0) (Ra214_0) ?_ fun z0 hs0 => ?_
 ·refine wb ?_
  refine wL 20 rfl fun hl0 => ?_
  refine wF (by kernel_rfl) (F214_l0 x1 y1) (st214_0 y1) (R214_0 x1 y1) w0 y1.1.Consumers 0 hm0 rfl rfl (fun z0 hn0 => ?_) fun n0 a0 z0 w0b hi0 hx0 h hb0 hr0 => ?_
  ·clear hm0
   exact wx [(decide ((cnt 0 y1.1.Consumers.length) < (ln y1.1.Consumers)), false)] w0 (sa214_0) (Ra214_0) lv214 26 [false] [] [] 0 [] z0 hC trivial ⟨(cE hl0), trivial⟩ hn0
  ·unfold F214_l0 at h
   rcases bC (decide ((ln y1.1.Sources) > 0)) with h3 | h3
   ·replace h := cT h3 h
    obtain ⟨y4, h5, h⟩ := bE h
    exact wx [(decide ((cnt 0 n0) < (ln y1.1.Consumers)), true), (decide ((ln y1.1.Sources) > 0), true)] w0b (st214_0 y1 (n0 + 1)) (R214_0 x1 y1 (n0 + 1)) lv214 36 [true, true] [.row (y1.1.Consumers.map pI) (cnt 0 n0) (pI a0), .len (ln (y1.1.Sources.map pI)) (ln y1.1.Sources), .row (x1.Limits.map pI) a0 (pI y4)] [] 0 [0, 1] (w64 (z0 + y4)) hC ⟨(rC hx0 hl0), lM _ _, rg h5, trivial⟩ ⟨(cL hi0 hl0), h3, trivial⟩ (sI h).symm
   ·replace h := cF h3 h
    cases h
 ·have h := hnext0 _ hs0
  replace h := sI h
  subst h
  exact wr [] lv214 23 [] [] [] [.tmp 6] 0 [] hC trivial trivial
def e214 := en Tryz.func214
def lv213 : List Nat := [0, 1, 2, 3, 4, 6, 7, 9, 11, 20, 21, 22, 23]
def st213_0 (y1 : api_Island × Bool) (n0 : Nat) (z0 : Int) : St := [(3, dO 0 0), (6, dI 0), (9, dI z0), (20, .d (DS pI y1.1.Sources)), (21, dI (ln y1.1.Sources)), (22, dI (cnt 0 n0))]
def R213_0 (x0 : api_Board) (n0 : Nat) (z0 : Int) : List Res := [.box 29 (d29 x0)]
def sa213_0  (z0 : Int) : St := [(6, dI 0), (9, dI z0)]
def Ra213_0  (z0 : Int) : List Res := []
theorem k213 (x0 : api_Board) (x1 : api_Power) (x2 : Int) (r : Int) (h : F213 x0 x1 x2 = some r) : CO 213 [.agg (d29 x0), .agg (d36 x1), .d (I x2)] [] (.d (I r)) [] := by
 unfold F213 at h
 refine co 36 Tryz.func213 fun C hC => ?_
 obtain ⟨y1, h2, h⟩ := bE h
 refine ws [] lv213 30 [] [.call 156 [.agg (d29 x0), .agg (d36 x1), dI x2] [] (.tup [.agg (d84 y1.1), dB y1.2]) [] [], .len (ln (y1.1.Sources.map pI)) (ln y1.1.Sources)] [] 0 [0] (st213_0 y1 0 0) (R213_0 x0 0 0) hC ⟨⟨e156, (k156 x0 x1 x2 _ h2)⟩, lM _ _, trivial⟩ trivial ?_
 obtain ⟨w0, hm0, hret0, hnext0⟩ := aIn h
 clear h
 refine wc w0 (sa213_0) (Ra213_0) ?_ fun z0 hs0 => ?_
 ·refine wb ?_
  refine wL 20 rfl fun hl0 => ?_
  refine wF (by kernel_rfl) (F213_l0 x0) (st213_0 y1) (R213_0 x0) w0 y1.1.Sources 0 hm0 rfl rfl (fun z0 hn0 => ?_) fun n0 a0 z0 w0b hi0 hx0 h hb0 hr0 => ?_
  ·clear hm0
   exact wx [(decide ((cnt 0 y1.1.Sources.length) < (ln y1.1.Sources)), false)] w0 (sa213_0) (Ra213_0) lv213 26 [false] [] [] 0 [] z0 hC trivial ⟨(cE hl0), trivial⟩ hn0
  ·unfold F213_l0 at h
   obtain ⟨y3, h4, h⟩ := bE h
   exact wx [(decide ((cnt 0 n0) < (ln y1.1.Sources)), true)] w0b (st213_0 y1 (n0 + 1)) (R213_0 x0 (n0 + 1)) lv213 33 [true] [.row (y1.1.Sources.map pI) (cnt 0 n0) (pI a0), .row (x0.Sources.map q139) a0 (q139 y3)] [] 0 [0] (w64 (z0 + y3.Rating)) hC ⟨(rC hx0 hl0), rg h4, trivial⟩ ⟨(cL hi0 hl0), trivial⟩ (sI h).symm
 ·have h := hnext0 _ hs0
  replace h := sI h
  subst h
  exact wr [] lv213 23 [] [] [] [.tmp 6] 0 [] hC trivial trivial
def e213 := en Tryz.func213
def lv178 : List Nat := [0, 1, 2, 3, 4, 6, 7, 8, 9, 11, 12, 13, 22, 23, 24, 25, 26, 30, 31, 32, 33, 47]
def st178_0  (n0 : Nat) (z0 : Unit) : St := [(3, dO 0 0), (4, dO 1 0), (6, dI 0), (7, dB false), (8, dO 2 0), (23, .d (DS pI [2, 1, 0])), (24, dI ([2, 1, 0].length : Int)), (25, dI (cnt 0 n0))]
def R178_0 (x0 : api_Board) (x1 : api_Power) (y1 : api_Island × Bool) (n0 : Nat) (z0 : Unit) : List Res := [.box 29 (d29 x0), .box 36 (d36 x1), .box 84 (d84 y1.1)]
def sa178_0  (z0 : Unit) : St := [(6, dI 0), (7, dB false)]
def Ra178_0  (z0 : Unit) : List Res := []
def st178_1 (x1 : api_Power) (n0 : Nat) (a0 : Int) (n1 : Nat) (z1 : Unit) : St := [(3, dO 0 0), (4, dO 1 0), (6, dI 0), (7, dB false), (8, dO 2 0), (11, dI a0), (23, .d (DS pI [2, 1, 0])), (24, dI ([2, 1, 0].length : Int)), (25, dI (cnt 0 n0)), (30, .d (DS q120 x1.Sources)), (31, dI (ln x1.Sources)), (32, dI (cnt 0 n1))]
def R178_1 (x0 : api_Board) (x1 : api_Power) (y1 : api_Island × Bool) (n1 : Nat) (z1 : Unit) : List Res := [.box 29 (d29 x0), .box 36 (d36 x1), .box 84 (d84 y1.1)]
def sa178_1 (n0 : Nat) (z1 : Unit) : St := [(3, dO 0 0), (4, dO 1 0), (6, dI 0), (7, dB false), (8, dO 2 0), (23, .d (DS pI [2, 1, 0])), (24, dI ([2, 1, 0].length : Int)), (25, dI (cnt 0 n0))]
def Ra178_1 (x0 : api_Board) (x1 : api_Power) (y1 : api_Island × Bool) (z1 : Unit) : List Res := [.box 29 (d29 x0), .box 36 (d36 x1), .box 84 (d84 y1.1)]
theorem k178 (x0 : api_Board) (x1 : api_Power) (x2 : Int) (r : Int × Bool) (h : F178 x0 x1 x2 = some r) : CO 178 [.agg (d29 x0), .agg (d36 x1), .d (I x2)] [] (.tup [.d (I r.1), .d (Bo r.2)]) [] := by
 unfold F178 at h
 refine co 51 Tryz.func178 fun C hC => ?_
 obtain ⟨y1, h2, h⟩ := bE h
 refine ws [] lv178 28 [] [.call 156 [.agg (d29 x0), .agg (d36 x1), dI x2] [] (.tup [.agg (d84 y1.1), dB y1.2]) [] []] [] 0 n3_ [(3, dO 0 0), (4, dO 1 0), (6, dI 0), (7, dB false), (8, dO 2 0), (22, dB (!y1.2))] [.box 29 (d29 x0), .box 36 (d36 x1), .box 84 (d84 y1.1)] hC ⟨⟨e156, (k156 x0 x1 x2 _ h2)⟩, trivial⟩ trivial ?_
 rcases bC (!y1.2) with h3 | h3
 ·replace h := cT h3 h
  cases h
 ·replace h := cF h3 h
  refine ws [(!y1.2, false)] lv178 26 [false] [.len (ln ([2, 1, 0].map pI)) ([2, 1, 0].length : Int)] [] 0 n3_ (st178_0 0 ()) (R178_0 x0 x1 y1 0 ()) hC ⟨lM _ _, trivial⟩ ⟨h3, trivial⟩ ?_
  obtain ⟨w0, hm0, hret0, hnext0⟩ := aIn h
  clear h
  refine wc w0 (sa178_0) (Ra178_0) ?_ fun z0 hs0 => ?_
  ·refine wb ?_
   refine wL 23 rfl fun hl0 => ?_
   refine wF (by kernel_rfl) (F178_l0 x0 x1 y1) (st178_0) (R178_0 x0 x1 y1) w0 [2, 1, 0] () hm0 rfl rfl (fun z0 hn0 => ?_) fun n0 a0 z0 w0b hi0 hx0 h hb0 hr0 => ?_
   ·clear hm0
    exact wx [(decide ((cnt 0 ([2, 1, 0].length)) < ([2, 1, 0].length : Int)), false)] w0 (sa178_0) (Ra178_0) lv178 26 [false] [] [] 0 [] () hC trivial ⟨(cE hl0), trivial⟩ hn0
   ·unfold F178_l0 at h
    refine ws [(decide ((cnt 0 n0) < ([2, 1, 0].length : Int)), true)] lv178 32 [true] [.row ([2, 1, 0].map pI) (cnt 0 n0) (pI a0), .len (ln (x1.Sources.map q120)) (ln x1.Sources)] [] 0 n3_ (st178_1 x1 n0 a0 0 ()) (R178_1 x0 x1 y1 0 ()) hC ⟨(rC hx0 hl0), lM _ _, trivial⟩ ⟨(cL hi0 hl0), trivial⟩ ?_
    obtain ⟨w1, hm1, hret1, hnext1⟩ := aIn h
    clear h
    refine wc w1 (sa178_1 n0) (Ra178_1 x0 x1 y1) ?_ fun z1 hs1 => ?_
    ·refine wb ?_
     refine wL 30 rfl fun hl1 => ?_
     refine wF (by kernel_rfl) (F178_l1 x0 x1 y1 a0) (st178_1 x1 n0 a0) (R178_1 x0 x1 y1) w1 x1.Sources () hm1 rfl rfl (fun z1 hn1 => ?_) fun n1 a1 z1 w1b hi1 hx1 h hb1 hr1 => ?_
     ·clear hm1
      exact wx [(decide ((cnt 0 x1.Sources.length) < (ln x1.Sources)), false)] w1 (sa178_1 n0) (Ra178_1 x0 x1 y1) lv178 26 [false] [] [] 0 n3_ () hC trivial ⟨(cE hl1), trivial⟩ hn1
     ·unfold F178_l1 at h
      obtain ⟨y4, h5, h⟩ := bE h
      refine ws [(decide ((cnt 0 n1) < (ln x1.Sources)), true)] lv178 32 [true] [.row (x1.Sources.map q120) (cnt 0 n1) (q120 a1), .when [((a1.State == a0), true)] (.call 215 [.agg (d29 x0), .agg (d36 x1), .agg (d84 y1.1), dI (cnt 0 n1)] [] (dB y4) [] [])] [] 0 n3_ [(3, dO 0 0), (4, dO 1 0), (6, dI 0), (7, dB false), (8, dO 2 0), (11, dI a0), (12, dI (cnt 0 n1)), (23, .d (DS pI [2, 1, 0])), (24, dI ([2, 1, 0].length : Int)), (25, dI (cnt 0 n0)), (30, .d (DS q120 x1.Sources)), (31, dI (ln x1.Sources)), (32, dI (cnt 0 n1)), (47, dB ((a1.State == a0) && y4))] [.box 29 (d29 x0), .box 36 (d36 x1), .box 84 (d84 y1.1)] hC ⟨(rC hx1 hl1), fun hg => ⟨e215, (k215 x0 x1 y1.1 (cnt 0 n1) _ (gg h5 hg))⟩, trivial⟩ ⟨(cL hi1 hl1), trivial⟩ ?_
      rcases bC (((a1.State == a0) && y4)) with h6 | h6
      ·replace h := cT h6 h
       cases h
      ·replace h := cF h6 h
       exact wx [(((a1.State == a0) && y4), false)] w1b (st178_1 x1 n0 a0 (n1 + 1)) (R178_1 x0 x1 y1 (n1 + 1)) lv178 25 [false] [] [] 0 n3_ () hC trivial ⟨h6, trivial⟩ (sI h).symm
    ·have h := hnext1 _ hs1
     exact wx [] w0b (st178_0 (n0 + 1)) (R178_0 x0 x1 y1 (n0 + 1)) lv178 23 [] [] [] 0 n3_ () hC trivial trivial (sI h).symm
  ·have h := hnext0 _ hs0
   replace h := sI h
   subst h
   exact wr [] lv178 23 [] [] [] [.tmp 6, .tmp 7] 0 [] hC trivial trivial
def e178 := en Tryz.func178
end Go.Proofs.YthgnbpdjncbkfaaGreat
