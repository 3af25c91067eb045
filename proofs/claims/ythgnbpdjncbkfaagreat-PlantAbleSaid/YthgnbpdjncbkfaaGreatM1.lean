import Derived.Test.YthgnbpdjncbkfaaGreatM0
set_option linter.unusedVariables false
namespace Go.Proofs.YthgnbpdjncbkfaaGreat
open Go.SL
def lv132s1 : List Nat := [0, 1, 3, 4, 5, 6, 7, 8, 9, 11, 12, 13, 16, 17, 18, 30, 31, 32, 35, 36, 37, 38, 57, 67, 68, 69, 89, 90, 91, 92, 114, 119, 126]
def st132s1_0 (x1 : api_Board) (z0 : Int × (List Int) × Int × (List Bool)) : St := [(0, dO 0 0), (3, dO 4 0), (4, dO 5 0), (5, dO 6 0), (16, dI (ln x1.Breakers)), (17, dI z0.1)]
def R132s1_0 (x1 : api_Board) (z0 : Int × (List Int) × Int × (List Bool)) : List Res := (.box 90 [DS pI z0.2.1, I z0.2.2.1] :: zs x1 (.box 29 [I x1.Buses, .os 1, .os 2, .os 3, I x1.Phase, I x1.Frequency] :: .box 36 [.os 7, .os 8, .os 9, .os 10] :: .box 36 [.os 11, .os 12, .os 13, .os 14] :: ze [v2_ (g3z_ z0), v3_ ([] : List api_Running), v0_ ([] : List Int), v4_ ([] : List api_Part)]))
def sa132s1_0  (z0 : Int × (List Int) × Int × (List Bool)) : St := [(0, dO 0 0), (3, dO 4 0), (4, dO 5 0), (5, dO 6 0)]
def Ra132s1_0 (x1 : api_Board) (z0 : Int × (List Int) × Int × (List Bool)) : List Res := (.box 90 [DS pI z0.2.1, I z0.2.2.1] :: zs x1 (.box 29 [I x1.Buses, .os 1, .os 2, .os 3, I x1.Phase, I x1.Frequency] :: .box 36 [.os 7, .os 8, .os 9, .os 10] :: .box 36 [.os 11, .os 12, .os 13, .os 14] :: ze [v2_ (g3z_ z0), v3_ ([] : List api_Running), v0_ ([] : List Int), v4_ ([] : List api_Part)]))
def st132s1_1 (x1 : api_Board) (z1 : Int × (List Bool)) : St := [(0, dO 0 0), (3, dO 4 0), (4, dO 5 0), (5, dO 6 0), (30, dI (ln x1.Consumers)), (31, dI z1.1)]
def R132s1_1 (x1 : api_Board) (z0 : Int × (List Int) × Int × (List Bool)) (z1 : Int × (List Bool)) : List Res := (.box 90 [DS pI z0.2.1, I z0.2.2.1] :: zs x1 (.box 29 [I x1.Buses, .os 1, .os 2, .os 3, I x1.Phase, I x1.Frequency] :: .box 36 [.os 7, .os 8, .os 9, .os 10] :: .box 36 [.os 11, .os 12, .os 13, .os 14] :: ze [v2_ z1.2, v3_ ([] : List api_Running), v0_ ([] : List Int), v4_ ([] : List api_Part)]))
def sa132s1_1  (z1 : Int × (List Bool)) : St := [(0, dO 0 0), (3, dO 4 0), (4, dO 5 0), (5, dO 6 0)]
def Ra132s1_1 (x1 : api_Board) (z0 : Int × (List Int) × Int × (List Bool)) (z1 : Int × (List Bool)) : List Res := (.box 90 [DS pI z0.2.1, I z0.2.2.1] :: zs x1 (.box 29 [I x1.Buses, .os 1, .os 2, .os 3, I x1.Phase, I x1.Frequency] :: .box 36 [.os 7, .os 8, .os 9, .os 10] :: .box 36 [.os 11, .os 12, .os 13, .os 14] :: ze [v2_ z1.2, v3_ ([] : List api_Running), v0_ ([] : List Int), v4_ ([] : List api_Part)]))
def st132s1_2 (x1 : api_Board) (z1 : Int × (List Bool)) (n2 : Nat) (z2 : Bool × (List Bool)) : St := [(0, dO 0 0), (3, dO 4 0), (4, dO 5 0), (5, dO 6 0), (6, dI z1.1), (7, dB z2.1), (30, dI (ln x1.Consumers)), (31, dI z1.1), (35, dS 1), (36, dI (ln x1.Breakers)), (37, dI (cnt 0 n2))]
def R132s1_2 (x1 : api_Board) (z0 : Int × (List Int) × Int × (List Bool)) (n2 : Nat) (z2 : Bool × (List Bool)) : List Res := (.box 90 [DS pI z0.2.1, I z0.2.2.1] :: zs x1 (.box 29 [I x1.Buses, .os 1, .os 2, .os 3, I x1.Phase, I x1.Frequency] :: .box 36 [.os 7, .os 8, .os 9, .os 10] :: .box 36 [.os 11, .os 12, .os 13, .os 14] :: ze [v2_ z2.2, v3_ ([] : List api_Running), v0_ ([] : List Int), v4_ ([] : List api_Part)]))
def sa132s1_2 (x1 : api_Board) (z1 : Int × (List Bool)) (z2 : Bool × (List Bool)) : St := [(0, dO 0 0), (3, dO 4 0), (4, dO 5 0), (5, dO 6 0), (30, dI (ln x1.Consumers)), (31, dI z1.1)]
def Ra132s1_2 (x1 : api_Board) (z0 : Int × (List Int) × Int × (List Bool)) (z2 : Bool × (List Bool)) : List Res := (.box 90 [DS pI z0.2.1, I z0.2.2.1] :: zs x1 (.box 29 [I x1.Buses, .os 1, .os 2, .os 3, I x1.Phase, I x1.Frequency] :: .box 36 [.os 7, .os 8, .os 9, .os 10] :: .box 36 [.os 11, .os 12, .os 13, .os 14] :: ze [v2_ z2.2, v3_ ([] : List api_Running), v0_ ([] : List Int), v4_ ([] : List api_Part)]))
def st132s1_3 (x1 : api_Board) (z3 : Sg5) : St := [(0, dO 0 0), (3, dO 4 0), (4, dO 5 0), (5, dO 6 0), (67, dI (ln x1.Sources)), (68, dI z3.1)]
def R132s1_3 (x1 : api_Board) (z1 : Int × (List Bool)) (z3 : Sg5) : List Res := (.box 90 [DS pI z3.2.1, I z3.2.2.1] :: zs x1 (.box 29 [I x1.Buses, .os 1, .os 2, .os 3, I x1.Phase, I x1.Frequency] :: .box 36 [.os 7, .os 8, .os 9, .os 10] :: .box 36 [.os 11, .os 12, .os 13, .os 14] :: ze [v2_ z1.2, v3_ (g3z_ z3), v0_ ([] : List Int), v4_ ([] : List api_Part)]))
def sa132s1_3  (z3 : Sg5) : St := [(0, dO 0 0), (3, dO 4 0), (4, dO 5 0), (5, dO 6 0)]
def Ra132s1_3 (x1 : api_Board) (z1 : Int × (List Bool)) (z3 : Sg5) : List Res := (.box 90 [DS pI z3.2.1, I z3.2.2.1] :: zs x1 (.box 29 [I x1.Buses, .os 1, .os 2, .os 3, I x1.Phase, I x1.Frequency] :: .box 36 [.os 7, .os 8, .os 9, .os 10] :: .box 36 [.os 11, .os 12, .os 13, .os 14] :: ze [v2_ z1.2, v3_ (g3z_ z3), v0_ ([] : List Int), v4_ ([] : List api_Part)]))
def st132s1_4 (x1 : api_Board) (n4 : Nat) (z4 : (List Int) × Int × (List Int)) : St := [(0, dO 0 0), (3, dO 4 0), (4, dO 5 0), (5, dO 6 0), (89, dS 3), (90, dI (ln x1.Consumers)), (91, dI (cnt 0 n4))]
def R132s1_4 (x1 : api_Board) (z1 : Int × (List Bool)) (z3 : Sg5) (n4 : Nat) (z4 : (List Int) × Int × (List Int)) : List Res := (.box 90 [DS pI z4.1, I z4.2.1] :: zs x1 (.box 29 [I x1.Buses, .os 1, .os 2, .os 3, I x1.Phase, I x1.Frequency] :: .box 36 [.os 7, .os 8, .os 9, .os 10] :: .box 36 [.os 11, .os 12, .os 13, .os 14] :: ze [v2_ z1.2, v3_ (g3z_ z3), v0_ z4.2.2, v4_ ([] : List api_Part)]))
def sa132s1_4  (z4 : (List Int) × Int × (List Int)) : St := [(0, dO 0 0), (3, dO 4 0), (4, dO 5 0), (5, dO 6 0)]
def Ra132s1_4 (x1 : api_Board) (z1 : Int × (List Bool)) (z3 : Sg5) (z4 : (List Int) × Int × (List Int)) : List Res := (.box 90 [DS pI z4.1, I z4.2.1] :: zs x1 (.box 29 [I x1.Buses, .os 1, .os 2, .os 3, I x1.Phase, I x1.Frequency] :: .box 36 [.os 7, .os 8, .os 9, .os 10] :: .box 36 [.os 11, .os 12, .os 13, .os 14] :: ze [v2_ z1.2, v3_ (g3z_ z3), v0_ z4.2.2, v4_ ([] : List api_Part)]))
def st132s1_5  (z5 : Int × (List Int) × Int × (List api_Part)) : St := [(0, dO 0 0), (3, dO 4 0), (4, dO 5 0), (5, dO 6 0), (12, dI z5.1)]
def R132s1_5 (x1 : api_Board) (z1 : Int × (List Bool)) (z3 : Sg5) (z4 : (List Int) × Int × (List Int)) (z5 : Int × (List Int) × Int × (List api_Part)) : List Res := (.box 90 [DS pI z5.2.1, I z5.2.2.1] :: zs x1 (.box 29 [I x1.Buses, .os 1, .os 2, .os 3, I x1.Phase, I x1.Frequency] :: .box 36 [.os 7, .os 8, .os 9, .os 10] :: .box 36 [.os 11, .os 12, .os 13, .os 14] :: ze [v2_ z1.2, v3_ (g3z_ z3), v0_ z4.2.2, v4_ (g3z_ z5)]))
def sa132s1_5  (z5 : Int × (List Int) × Int × (List api_Part)) : St := [(4, dO 4 0), (5, dO 5 0)]
def Ra132s1_5 (x1 : api_Board) (z1 : Int × (List Bool)) (z3 : Sg5) (z4 : (List Int) × Int × (List Int)) (z5 : Int × (List Int) × Int × (List api_Part)) : List Res := (.box 90 [DS pI z5.2.1, I z5.2.2.1] :: zs x1 (.box 36 [.os 6, .os 7, .os 8, .os 9] :: .box 36 [.os 10, .os 11, .os 12, .os 13] :: ze [v2_ z1.2, v3_ (g3z_ z3), v0_ z4.2.2, v4_ (g3z_ z5)]))
set_option maxHeartbeats 4000000 in
theorem k132s1 (x0 : dynposmake_Src) (x1 : api_Board) (r : api_Power × dynposmake_Src) (h : F132s1 x0 x1 = some r) : CO 132 [.d (.o 0 0), .agg [I x1.Buses, .os 1, .os 2, .os 3, I x1.Phase, I x1.Frequency]] (.box 90 (d90 x0) :: zs x1 []) (.agg [.os 4, .os 5, .os 6, .os 7]) (.box 90 (d90 r.2) :: zs x1 (zp r.1 [])) := by
 unfold F132s1 at h
 refine co 134 Tryz.func132 fun C hC => ?_
 refine ws lv132s1 28 [] [pl q147 x1.Breakers] [.ownb 5 0 4 1, .ownb 5 1 120 4, .ownb 5 2 3 1, .ownb 5 3 86 2, .ownb 6 0 4 1, .ownb 6 1 120 4, .ownb 6 2 3 1, .ownb 6 3 86 2] 4 n15_ (st132s1_0 x1 (0, x0.L, x0.At, ([] : List Bool))) (R132s1_0 x1 (0, x0.L, x0.At, ([] : List Bool))) hC [] ?_
 obtain ⟨w0, hm0, hret0, hnext0⟩ := aIn h
 clear h
 refine wc w0 (sa132s1_0) (Ra132s1_0 x1) ?_ fun z0 hs0 => ?_
 ·refine wb ?_
  refine wW (by kernel_rfl) (F132s1_l0 x1) (st132s1_0 x1) (R132s1_0 x1) w0 1152921504606846976 (0, x0.L, x0.At, ([] : List Bool)) hm0 rfl rfl fun z0 w0b h hb0 hr0 => ?_
  unfold F132s1_l0 at h
  rcases bC ((c132s1_1 x1 z0)) with h1 | h1
  ·replace h := cT h1 h
   obtain ⟨y2, h3, h⟩ := bE h
   obtain ⟨y4, h5, h⟩ := bE h
   exact wx w0b (st132s1_0 x1) (R132s1_0 x1) lv132s1 31 [true] [pc e32 (k32 (⟨z0.2.1, z0.2.2.1⟩ : dynposmake_Src) 2 _ h3) [0], pa pB 1 h5] [] 4 [0, 1, 2, 3, 4, 5, 6, 7, 8, 9, 10, 15, 12, 13, 14] (w64 (z0.1 + 1), y2.2.L, y2.2.At, y4) hC [pq h1] (sI h).symm
  ·replace h := cF h1 h
   exact wx w0 (sa132s1_0) (Ra132s1_0 x1) lv132s1 26 [false] [] [] 4 n15_ (z0.1, z0.2.1, z0.2.2.1, (g3z_ z0)) hC [pq h1] (hb0 _ (sI h).symm)
 ·have h := hnext0 _ hs0
  refine ws lv132s1 24 [] [pl q65 x1.Consumers] [] 4 n15_ (st132s1_1 x1 (0, (g3z_ z0))) (R132s1_1 x1 z0 (0, (g3z_ z0))) hC [] ?_
  obtain ⟨w1, hm1, hret1, hnext1⟩ := aIn h
  clear h
  refine wc w1 (sa132s1_1) (Ra132s1_1 x1 z0) ?_ fun z1 hs1 => ?_
  ·refine wb ?_
   refine wW (by kernel_rfl) (F132s1_l1 x1) (st132s1_1 x1) (R132s1_1 x1 z0) w1 1152921504606846976 (0, (g3z_ z0)) hm1 rfl rfl fun z1 w1b h hb1 hr1 => ?_
   unfold F132s1_l1 at h
   rcases bC ((c132s1_9 x1 z1)) with h6 | h6
   ·replace h := cT h6 h
    refine ws lv132s1 34 [true] [pl q147 x1.Breakers] [] 4 n15_ (st132s1_2 x1 z1 0 (true, z1.2)) (R132s1_2 x1 z0 0 (true, z1.2)) hC [pq h6] ?_
    obtain ⟨w2, hm2, hret2, hnext2⟩ := aIn h
    clear h
    refine wc w2 (sa132s1_2 x1 z1) (Ra132s1_2 x1 z0) ?_ fun z2 hs2 => ?_
    ·refine wb ?_
     refine wO 35 1 rfl rfl fun hl2 => ?_
     refine wF (by kernel_rfl) (F132s1_l2 z1) (st132s1_2 x1 z1) (R132s1_2 x1 z0) w2 x1.Breakers (true, z1.2) hm2 rfl rfl (fun z2 hn2 => ?_) fun n2 a2 z2 w2b hi2 hx2 h hb2 hr2 => ?_
     ·clear hm2
      exact wx w2 (sa132s1_2 x1 z1) (Ra132s1_2 x1 z0) lv132s1 26 [false] [] [] 4 n15_ (z2.1, z2.2) hC [pq (cE hl2)] hn2
     ·unfold F132s1_l2 at h
      obtain ⟨y7, h8, h⟩ := bE h
      refine ws lv132s1 32 [true] [pr q147 (gC hx2 hl2), pn q147 (gC hx2 hl2), pR pB h8, pN pB h8] [] 4 n15_ [(0, dO 0 0), (3, dO 4 0), (4, dO 5 0), (5, dO 6 0), (6, dI z1.1), (7, dB z2.1), (8, dI (cnt 0 n2)), (30, dI (ln x1.Consumers)), (31, dI z1.1), (35, dS 1), (36, dI (ln x1.Breakers)), (37, dI (cnt 0 n2)), (57, dB (c132s1_12 z1 a2 y7))] (.box 90 [DS pI z0.2.1, I z0.2.2.1] :: zs x1 (.box 29 [I x1.Buses, .os 1, .os 2, .os 3, I x1.Phase, I x1.Frequency] :: .box 36 [.os 7, .os 8, .os 9, .os 10] :: .box 36 [.os 11, .os 12, .os 13, .os 14] :: ze [v2_ z2.2, v3_ ([] : List api_Running), v0_ ([] : List Int), v4_ ([] : List api_Part)])) hC [pq (cL hi2 hl2)] ?_
      rcases bC ((c132s1_12 z1 a2 y7)) with h9 | h9
      ·replace h := cT h9 h
       obtain ⟨y10, h11, h⟩ := bE h
       obtain ⟨y12, h13, h⟩ := bE h
       exact wx w2b (st132s1_2 x1 z1 (n2 + 1)) (R132s1_2 x1 z0 (n2 + 1)) lv132s1 27 [true] [pr pB h11, pu pB h11 h13] [] 4 n15_ (false, y12) hC [pq h9] (sI h).symm
      ·replace h := cF h9 h
       exact wx w2b (st132s1_2 x1 z1 (n2 + 1)) (R132s1_2 x1 z0 (n2 + 1)) lv132s1 25 [false] [] [] 4 n15_ (z2.1, z2.2) hC [pq h9] (sI h).symm
    ·have h := hnext2 _ hs2
     exact wx w1b (st132s1_1 x1) (R132s1_1 x1 z0) lv132s1 23 [] [] [] 4 n15_ (w64 (z1.1 + 1), z2.2) hC [] (sI h).symm
   ·replace h := cF h6 h
    exact wx w1 (sa132s1_1) (Ra132s1_1 x1 z0) lv132s1 26 [false] [] [] 4 n15_ (z1.1, z1.2) hC [pq h6] (hb1 _ (sI h).symm)
  ·have h := hnext1 _ hs1
   refine ws lv132s1 24 [] [pl q139 x1.Sources] [] 4 n15_ (st132s1_3 x1 (0, z0.2.1, z0.2.2.1, ([] : List api_Running))) (R132s1_3 x1 z1 (0, z0.2.1, z0.2.2.1, ([] : List api_Running))) hC [] ?_
   obtain ⟨w3, hm3, hret3, hnext3⟩ := aIn h
   clear h
   refine wc w3 (sa132s1_3) (Ra132s1_3 x1 z1) ?_ fun z3 hs3 => ?_
   ·refine wb ?_
    refine wW (by kernel_rfl) (F132s1_l3 x1) (st132s1_3 x1) (R132s1_3 x1 z1) w3 1152921504606846976 (0, z0.2.1, z0.2.2.1, ([] : List api_Running)) hm3 rfl rfl fun z3 w3b h hb3 hr3 => ?_
    unfold F132s1_l3 at h
    rcases bC ((c132s1_14 x1 z3)) with h14 | h14
    ·replace h := cT h14 h
     obtain ⟨y15, h16, h⟩ := bE h
     obtain ⟨y17, h18, h⟩ := bE h
     obtain ⟨y19, h20, h⟩ := bE h
     obtain ⟨y21, h22, h⟩ := bE h
     obtain ⟨y23, h24, h⟩ := bE h
     exact wx w3b (st132s1_3 x1) (R132s1_3 x1 z1) lv132s1 31 [true] [pc e40 (k40 (⟨z3.2.1, z3.2.2.1⟩ : dynposmake_Src) [0, 1, 2, 2, 2, 3] _ h16) [0], pc e32 (k32 y15.2 5 _ h18) [0], pc e40 (k40 y17.2 [5000, 5000, 5005, 4950] _ h20) [0], pc e40 (k40 y19.2 [0, 0, 40, 1800, 3590] _ h22) [0], pa q120 4 h24] [] 4 [0, 1, 2, 3, 4, 5, 6, 7, 8, 9, 10, 11, 15, 13, 14] (w64 (z3.1 + 1), y21.2.L, y21.2.At, y23) hC [pq h14] (sI h).symm
    ·replace h := cF h14 h
     exact wx w3 (sa132s1_3) (Ra132s1_3 x1 z1) lv132s1 26 [false] [] [] 4 n15_ (z3.1, z3.2.1, z3.2.2.1, (g3z_ z3)) hC [pq h14] (hb3 _ (sI h).symm)
   ·have h := hnext3 _ hs3
    refine ws lv132s1 24 [] [pl q65 x1.Consumers] [] 4 n15_ (st132s1_4 x1 0 (z3.2.1, z3.2.2.1, ([] : List Int))) (R132s1_4 x1 z1 z3 0 (z3.2.1, z3.2.2.1, ([] : List Int))) hC [] ?_
    obtain ⟨w4, hm4, hret4, hnext4⟩ := aIn h
    clear h
    refine wc w4 (sa132s1_4) (Ra132s1_4 x1 z1 z3) ?_ fun z4 hs4 => ?_
    ·refine wb ?_
     refine wO 89 3 rfl rfl fun hl4 => ?_
     refine wF (by kernel_rfl) F132s1_l4 (st132s1_4 x1) (R132s1_4 x1 z1 z3) w4 x1.Consumers (z3.2.1, z3.2.2.1, ([] : List Int)) hm4 rfl rfl (fun z4 hn4 => ?_) fun n4 a4 z4 w4b hi4 hx4 h hb4 hr4 => ?_
     ·clear hm4
      exact wx w4 (sa132s1_4) (Ra132s1_4 x1 z1 z3) lv132s1 26 [false] [] [] 4 n15_ (z4.1, z4.2.1, z4.2.2) hC [pq (cE hl4)] hn4
     ·unfold F132s1_l4 at h
      obtain ⟨y25, h26, h⟩ := bE h
      obtain ⟨y27, h28, h⟩ := bE h
      exact wx w4b (st132s1_4 x1 (n4 + 1)) (R132s1_4 x1 z1 z3 (n4 + 1)) lv132s1 33 [true] [pr q65 (gC hx4 hl4), pn q65 (gC hx4 hl4), ⟨.nz 3, nz_lit rfl⟩, pc e40 (k40 (⟨z4.1, z4.2.1⟩ : dynposmake_Src) [a4.Load, a4.Load, a4.Least, w64 (Int.tdiv a4.Load 3)] _ h26) [0], pa pI 1 h28] [] 4 [0, 1, 2, 3, 4, 5, 6, 7, 8, 9, 10, 11, 12, 16, 14] (y25.2.L, y25.2.At, y27) hC [pq (cL hi4 hl4)] (sI h).symm
    ·have h := hnext4 _ hs4
     refine ws lv132s1 24 [] [] [] 4 n15_ (st132s1_5 (1, z4.1, z4.2.1, ([] : List api_Part))) (R132s1_5 x1 z1 z3 z4 (1, z4.1, z4.2.1, ([] : List api_Part))) hC [] ?_
     obtain ⟨w5, hm5, hret5, hnext5⟩ := aIn h
     clear h
     refine wc w5 (sa132s1_5) (Ra132s1_5 x1 z1 z3 z4) ?_ fun z5 hs5 => ?_
     ·refine wb ?_
      refine wW (by kernel_rfl) (F132s1_l5 x1) (st132s1_5) (R132s1_5 x1 z1 z3 z4) w5 7 (1, z4.1, z4.2.1, ([] : List api_Part)) hm5 rfl rfl fun z5 w5b h hb5 hr5 => ?_
      unfold F132s1_l5 at h
      rcases bC (decide (z5.1 <= 4)) with h29 | h29
      ·replace h := cT h29 h
       obtain ⟨y30, h31, h⟩ := bE h
       rcases bC ((y30.1 == 4)) with h32 | h32
       ·replace h := cT h32 h
        obtain ⟨y33, h34, h⟩ := bE h
        refine ws lv132s1 35 [true, true] [pc e32 (k32 (⟨z5.2.1, z5.2.2.1⟩ : dynposmake_Src) 5 _ h31) [0], pc e32 (k32 y30.2 4 _ h34) [0], pb e71 (k71 x1 (⟨z5.1, y33.1⟩ : api_Part) _ rfl)] [] 4 n16_ [(0, dO 0 0), (3, dO 4 0), (4, dO 5 0), (5, dO 6 0), (12, dI z5.1), (13, dO 15 0), (126, dB (F71 x1 (⟨z5.1, y33.1⟩ : api_Part)))] (.box 90 (d90 y33.2) :: zs x1 (.box 29 [I x1.Buses, .os 1, .os 2, .os 3, I x1.Phase, I x1.Frequency] :: .box 36 [.os 7, .os 8, .os 9, .os 10] :: .box 36 [.os 11, .os 12, .os 13, .os 14] :: ze [v2_ z1.2, v3_ (g3z_ z3), v0_ z4.2.2, v4_ (g3z_ z5), .box 86 [I z5.1, I y33.1]])) hC [pq h29, pq h32] ?_
        rcases bC (F71 x1 (⟨z5.1, y33.1⟩ : api_Part)) with h35 | h35
        ·replace h := cT h35 h
         obtain ⟨y36, h37, h⟩ := bE h
         exact wx w5b (st132s1_5) (R132s1_5 x1 z1 z3 z4) lv132s1 25 [true] [pa q86 2 h37] [] 4 [0, 1, 2, 3, 4, 5, 6, 7, 8, 9, 10, 11, 12, 13, 16] (w64 (z5.1 + 1), y33.2.L, y33.2.At, y36) hC [pq h35] (sI h).symm
        ·replace h := cF h35 h
         exact wx w5b (st132s1_5) (R132s1_5 x1 z1 z3 z4) lv132s1 25 [false] [] [] 4 n15_ (w64 (z5.1 + 1), y33.2.L, y33.2.At, (g3z_ z5)) hC [pq h35] (sI h).symm
       ·replace h := cF h32 h
        exact wx w5b (st132s1_5) (R132s1_5 x1 z1 z3 z4) lv132s1 34 [true, false] [pc e32 (k32 (⟨z5.2.1, z5.2.2.1⟩ : dynposmake_Src) 5 _ h31) [0]] [] 4 n15_ (w64 (z5.1 + 1), y30.2.L, y30.2.At, (g3z_ z5)) hC [pq h29, pq h32] (sI h).symm
      ·replace h := cF h29 h
       exact wx w5 (sa132s1_5) (Ra132s1_5 x1 z1 z3 z4) lv132s1 26 [false] [] [] 4 [0, 1, 2, 3, 5, 6, 7, 8, 9, 10, 11, 12, 13, 14] (z5.1, z5.2.1, z5.2.2.1, (g3z_ z5)) hC [pq h29] (hb5 _ (sI h).symm)
     ·have h := hnext5 _ hs5
      replace h := sI h
      subst h
      exact wr lv132s1 23 [] [] [] [.cell 4 36] 4 [0, 1, 2, 3, 10, 11, 12, 13] hC []
theorem e132s1 : EN 132 := en Tryz.func132
def lv53 : List Nat := [0, 1, 2, 3, 4, 5, 7, 8, 9, 10, 11, 12, 13, 15, 19, 45, 47, 48, 49, 50, 74, 77, 78, 79, 80, 92, 97, 99, 100, 101, 102, 124, 128, 129, 130, 134, 135, 136, 137, 144, 149]
def st53_0 (x1 : api_Power) (n0 : Nat) (z0 : Unit) : St := [(2, dO 0 0), (3, dO 1 0), (4, dI 0), (47, .d (DS q120 x1.Sources)), (48, dI (ln x1.Sources)), (49, dI (cnt 0 n0))]
def R53_0 (x0 : api_Board) (x1 : api_Power) (n0 : Nat) (z0 : Unit) : List Res := [.box 29 (d29 x0), .box 36 (d36 x1)]
def sa53_0  (z0 : Unit) : St := [(2, dO 0 0), (3, dO 1 0), (4, dI 0)]
def Ra53_0 (x0 : api_Board) (x1 : api_Power) (z0 : Unit) : List Res := [.box 29 (d29 x0), .box 36 (d36 x1)]
def st53_1 (x1 : api_Power) (n1 : Nat) (z1 : Unit) : St := [(2, dO 0 0), (3, dO 1 0), (4, dI 0), (77, .d (DS pI x1.Limits)), (78, dI (ln x1.Limits)), (79, dI (cnt 0 n1))]
def R53_1 (x0 : api_Board) (x1 : api_Power) (n1 : Nat) (z1 : Unit) : List Res := [.box 29 (d29 x0), .box 36 (d36 x1)]
def sa53_1  (z1 : Unit) : St := [(2, dO 0 0), (3, dO 1 0), (4, dI 0)]
def Ra53_1 (x0 : api_Board) (x1 : api_Power) (z1 : Unit) : List Res := [.box 29 (d29 x0), .box 36 (d36 x1)]
def st53_2 (x1 : api_Power) (n2 : Nat) (z2 : Unit) : St := [(2, dO 0 0), (3, dO 1 0), (4, dI 0), (99, .d (DS q86 x1.Broken)), (100, dI (ln x1.Broken)), (101, dI (cnt 0 n2))]
def R53_2 (x0 : api_Board) (x1 : api_Power) (n2 : Nat) (z2 : Unit) : List Res := [.box 29 (d29 x0), .box 36 (d36 x1)]
def sa53_2  (z2 : Unit) : St := [(2, dO 0 0), (3, dO 1 0), (4, dI 0)]
def Ra53_2 (x0 : api_Board) (x1 : api_Power) (z2 : Unit) : List Res := [.box 29 (d29 x0), .box 36 (d36 x1)]
def st53_3 (x0 : api_Board) (z3 : Int) : St := [(2, dO 0 0), (3, dO 1 0), (4, dI 0), (128, dI (ln x0.Consumers)), (129, dI z3)]
def R53_3 (x0 : api_Board) (x1 : api_Power) (z3 : Int) : List Res := [.box 29 (d29 x0), .box 36 (d36 x1)]
def sa53_3  (z3 : Int) : St := [(4, dI 0)]
def Ra53_3  (z3 : Int) : List Res := []
def st53_4 (x0 : api_Board) (z3 : Int) (y14 : (List Int)) (n4 : Nat) (z4 : Int) : St := [(2, dO 0 0), (3, dO 1 0), (4, dI 0), (13, dI z4), (128, dI (ln x0.Consumers)), (129, dI z3), (134, dS 2), (135, dI (ln y14)), (136, dI (cnt 0 n4))]
def R53_4 (x0 : api_Board) (x1 : api_Power) (y14 : (List Int)) (n4 : Nat) (z4 : Int) : List Res := [.box 29 (d29 x0), .box 36 (d36 x1), v0_ y14]
def sa53_4 (x0 : api_Board) (z3 : Int) (z4 : Int) : St := [(2, dO 0 0), (3, dO 1 0), (4, dI 0), (13, dI z4), (128, dI (ln x0.Consumers)), (129, dI z3)]
def Ra53_4 (x0 : api_Board) (x1 : api_Power) (z4 : Int) : List Res := [.box 29 (d29 x0), .box 36 (d36 x1)]
set_option maxHeartbeats 4000000 in
theorem k53 (x0 : api_Board) (x1 : api_Power) (r : Int) (h : F53 x0 x1 = some r) : CO 53 [.agg (d29 x0), .agg (d36 x1)] [] (.d (I r)) [] := by
 unfold F53 at h
 refine co 151 Tryz.func53 fun C hC => ?_
 obtain ⟨y1, h2, h⟩ := bE h
 rcases bC ((y1 != 0)) with h3 | h3
 ·replace h := cT h3 h
  replace h := sI h
  subst h
  exact wr lv53 31 [true] [pc e111 (k111 x0 _ h2) []] [] [.tmp 4] 0 [] hC [pq h3]
 ·replace h := cF h3 h
  refine ws lv53 33 [false] [pc e111 (k111 x0 _ h2) [], pl pB x1.Closed, pl q147 x0.Breakers, pL_ [(((ln x1.Closed) != (ln x0.Breakers)), false)] q120 x1.Sources, pL_ [(((ln x1.Closed) != (ln x0.Breakers)), false)] q139 x0.Sources, pL_ [((((ln x1.Closed) != (ln x0.Breakers)) || ((ln x1.Sources) != (ln x0.Sources))), false)] pI x1.Limits, pL_ [((((ln x1.Closed) != (ln x0.Breakers)) || ((ln x1.Sources) != (ln x0.Sources))), false)] q65 x0.Consumers] [] 0 [0, 1] [(2, dO 0 0), (3, dO 1 0), (4, dI 0), (45, dB (c53_0 x0 x1))] [.box 29 (d29 x0), .box 36 (d36 x1)] hC [pq h3] ?_
  rcases bC ((c53_0 x0 x1)) with h4 | h4
  ·replace h := cT h4 h
   replace h := sI h
   subst h
   exact wr lv53 24 [true] [] [] [.tmp 4] 0 [] hC [pq h4]
  ·replace h := cF h4 h
   refine ws lv53 26 [false] [pl q120 x1.Sources] [] 0 [0, 1] (st53_0 x1 0 ()) (R53_0 x0 x1 0 ()) hC [pq h4] ?_
   obtain ⟨w0, hm0, hret0, hnext0⟩ := aIn h
   clear h
   refine wc w0 (sa53_0) (Ra53_0 x0 x1) ?_ fun z0 hs0 => ?_
   ·refine wb ?_
    refine wL 47 rfl fun hl0 => ?_
    refine wF (by kernel_rfl) F53_l0 (st53_0 x1) (R53_0 x0 x1) w0 x1.Sources () hm0 rfl rfl (fun z0 hn0 => ?_) fun n0 a0 z0 w0b hi0 hx0 h hb0 hr0 => ?_
    ·clear hm0
     exact wx w0 (sa53_0) (Ra53_0 x0 x1) lv53 26 [false] [] [] 0 [0, 1] () hC [pq (cE hl0)] hn0
    ·unfold F53_l0 at h
     refine ws lv53 32 [true] [pt hx0 hl0, pc e112 (k112 a0.State 0 3 _ rfl) [], ⟨.when [(!(F112 a0.State 0 3), false)] (.call 112 [dI a0.Since, dI 0, dI 2147483648] [] (dB (F112 a0.Since 0 2147483648)) [] []), fun hg => ⟨e112, (k112 a0.Since 0 2147483648 _ rfl)⟩⟩, ⟨.when [(((!(F112 a0.State 0 3)) || (!(F112 a0.Since 0 2147483648))), false)] (.call 112 [dI a0.Frequency, dI 0, dI 6000] [] (dB (F112 a0.Frequency 0 6000)) [] []), fun hg => ⟨e112, (k112 a0.Frequency 0 6000 _ rfl)⟩⟩, ⟨.when [((((!(F112 a0.State 0 3)) || (!(F112 a0.Since 0 2147483648))) || (!(F112 a0.Frequency 0 6000))), false)] (.call 112 [dI a0.Phase, dI 0, dI 3599] [] (dB (F112 a0.Phase 0 3599)) [] []), fun hg => ⟨e112, (k112 a0.Phase 0 3599 _ rfl)⟩⟩] [] 0 [0, 1] [(2, dO 0 0), (3, dO 1 0), (4, dI 0), (47, .d (DS q120 x1.Sources)), (48, dI (ln x1.Sources)), (49, dI (cnt 0 n0)), (74, dB (c53_2 a0))] [.box 29 (d29 x0), .box 36 (d36 x1)] hC [pq (cL hi0 hl0)] ?_
     rcases bC ((c53_2 a0)) with h5 | h5
     ·replace h := cT h5 h
      have hq := hret0 _ (hr0 _ (sI h).symm)
      replace hq := sI hq
      subst hq
      exact wr lv53 24 [true] [] [] [.tmp 4] 0 [] hC [pq h5]
     ·replace h := cF h5 h
      exact wx w0b (st53_0 x1 (n0 + 1)) (R53_0 x0 x1 (n0 + 1)) lv53 25 [false] [] [] 0 [0, 1] () hC [pq h5] (sI h).symm
   ·have h := hnext0 _ hs0
    refine ws lv53 24 [] [pl pI x1.Limits] [] 0 [0, 1] (st53_1 x1 0 ()) (R53_1 x0 x1 0 ()) hC [] ?_
    obtain ⟨w1, hm1, hret1, hnext1⟩ := aIn h
    clear h
    refine wc w1 (sa53_1) (Ra53_1 x0 x1) ?_ fun z1 hs1 => ?_
    ·refine wb ?_
     refine wL 77 rfl fun hl1 => ?_
     refine wF (by kernel_rfl) (F53_l1 x0) (st53_1 x1) (R53_1 x0 x1) w1 x1.Limits () hm1 rfl rfl (fun z1 hn1 => ?_) fun n1 a1 z1 w1b hi1 hx1 h hb1 hr1 => ?_
     ·clear hm1
      exact wx w1 (sa53_1) (Ra53_1 x0 x1) lv53 26 [false] [] [] 0 [0, 1] () hC [pq (cE hl1)] hn1
     ·unfold F53_l1 at h
      obtain ⟨y6, h7, h⟩ := bE h
      refine ws lv53 32 [true] [pt hx1 hl1, pr q65 h7, pc e112 (k112 a1 0 y6.Load _ rfl) []] [] 0 [0, 1] [(2, dO 0 0), (3, dO 1 0), (4, dI 0), (77, .d (DS pI x1.Limits)), (78, dI (ln x1.Limits)), (79, dI (cnt 0 n1)), (92, dB (!(F112 a1 0 y6.Load)))] [.box 29 (d29 x0), .box 36 (d36 x1)] hC [pq (cL hi1 hl1)] ?_
      rcases bC (!(F112 a1 0 y6.Load)) with h8 | h8
      ·replace h := cT h8 h
       have hq := hret1 _ (hr1 _ (sI h).symm)
       replace hq := sI hq
       subst hq
       exact wr lv53 24 [true] [] [] [.tmp 4] 0 [] hC [pq h8]
      ·replace h := cF h8 h
       exact wx w1b (st53_1 x1 (n1 + 1)) (R53_1 x0 x1 (n1 + 1)) lv53 25 [false] [] [] 0 [0, 1] () hC [pq h8] (sI h).symm
    ·have h := hnext1 _ hs1
     rcases bC (decide ((ln x1.Broken) > 32)) with h9 | h9
     ·replace h := cT h9 h
      replace h := sI h
      subst h
      exact wr lv53 27 [true] [pl q86 x1.Broken] [] [.tmp 4] 0 [] hC [pq h9]
     ·replace h := cF h9 h
      refine ws lv53 29 [false] [pl q86 x1.Broken, pl q86 x1.Broken] [] 0 [0, 1] (st53_2 x1 0 ()) (R53_2 x0 x1 0 ()) hC [pq h9] ?_
      obtain ⟨w2, hm2, hret2, hnext2⟩ := aIn h
      clear h
      refine wc w2 (sa53_2) (Ra53_2 x0 x1) ?_ fun z2 hs2 => ?_
      ·refine wb ?_
       refine wL 99 rfl fun hl2 => ?_
       refine wF (by kernel_rfl) (F53_l2 x0 x1) (st53_2 x1) (R53_2 x0 x1) w2 x1.Broken () hm2 rfl rfl (fun z2 hn2 => ?_) fun n2 a2 z2 w2b hi2 hx2 h hb2 hr2 => ?_
       ·clear hm2
        exact wx w2 (sa53_2) (Ra53_2 x0 x1) lv53 26 [false] [] [] 0 [0, 1] () hC [pq (cE hl2)] hn2
       ·unfold F53_l2 at h
        obtain ⟨y10, h11, h⟩ := bE h
        refine ws lv53 32 [true] [pt hx2 hl2, pc e71 (k71 x0 a2 _ rfl) [], pR q86 h11, ⟨.when [(!(F71 x0 a2), false), (decide ((cnt 0 n2) > 0), true)] (.call 113 [.agg (d86 y10), .agg (d86 a2)] [] (dB (F113 y10 a2)) [] []), fun hg => ⟨e113, (k113 y10 a2 _ rfl)⟩⟩] [] 0 [0, 1] [(2, dO 0 0), (3, dO 1 0), (4, dI 0), (99, .d (DS q86 x1.Broken)), (100, dI (ln x1.Broken)), (101, dI (cnt 0 n2)), (124, dB (c53_4 x0 n2 a2 y10))] [.box 29 (d29 x0), .box 36 (d36 x1)] hC [pq (cL hi2 hl2)] ?_
        rcases bC ((c53_4 x0 n2 a2 y10)) with h12 | h12
        ·replace h := cT h12 h
         have hq := hret2 _ (hr2 _ (sI h).symm)
         replace hq := sI hq
         subst hq
         exact wr lv53 24 [true] [] [] [.tmp 4] 0 [] hC [pq h12]
        ·replace h := cF h12 h
         exact wx w2b (st53_2 x1 (n2 + 1)) (R53_2 x0 x1 (n2 + 1)) lv53 25 [false] [] [] 0 [0, 1] () hC [pq h12] (sI h).symm
      ·have h := hnext2 _ hs2
       refine ws lv53 24 [] [pl q65 x0.Consumers] [] 0 [0, 1] (st53_3 x0 0) (R53_3 x0 x1 0) hC [] ?_
       obtain ⟨w3, hm3, hret3, hnext3⟩ := aIn h
       clear h
       refine wc w3 (sa53_3) (Ra53_3) ?_ fun z3 hs3 => ?_
       ·refine wb ?_
        refine wW (by kernel_rfl) (F53_l3 x0 x1) (st53_3 x0) (R53_3 x0 x1) w3 1152921504606846976 0 hm3 rfl rfl fun z3 w3b h hb3 hr3 => ?_
        unfold F53_l3 at h
        rcases bC ((c53_6 x0 z3)) with h13 | h13
        ·replace h := cT h13 h
         obtain ⟨y14, h15, h⟩ := bE h
         refine ws lv53 35 [true] [pc e77 (k77 x0 3 z3 _ h15) [], pl pI y14] [] 0 n3_ (st53_4 x0 z3 y14 0 0) (R53_4 x0 x1 y14 0 0) hC [pq h13] ?_
         obtain ⟨w4, hm4, hret4, hnext4⟩ := aIn h
         clear h
         refine wc w4 (sa53_4 x0 z3) (Ra53_4 x0 x1) ?_ fun z4 hs4 => ?_
         ·refine wb ?_
          refine wO 134 2 rfl rfl fun hl4 => ?_
          refine wF (by kernel_rfl) (F53_l4 x1) (st53_4 x0 z3 y14) (R53_4 x0 x1 y14) w4 y14 0 hm4 rfl rfl (fun z4 hn4 => ?_) fun n4 a4 z4 w4b hi4 hx4 h hb4 hr4 => ?_
          ·clear hm4
           exact wx w4 (sa53_4 x0 z3) (Ra53_4 x0 x1) lv53 26 [false] [] [] 0 [0, 1] z4 hC [pq (cE hl4)] hn4
          ·unfold F53_l4 at h
           obtain ⟨y16, h17, h⟩ := bE h
           rcases bC (y16) with h18 | h18
           ·replace h := cT h18 h
            exact wx w4b (st53_4 x0 z3 y14 (n4 + 1)) (R53_4 x0 x1 y14 (n4 + 1)) lv53 36 [true, true] [pr pI (gC hx4 hl4), pn pI (gC hx4 hl4), pr pB h17] [] 0 n3_ (w64 (z4 + 1)) hC [pq (cL hi4 hl4), pq h18] (sI h).symm
           ·replace h := cF h18 h
            exact wx w4b (st53_4 x0 z3 y14 (n4 + 1)) (R53_4 x0 x1 y14 (n4 + 1)) lv53 36 [true, false] [pr pI (gC hx4 hl4), pn pI (gC hx4 hl4), pr pB h17] [] 0 n3_ z4 hC [pq (cL hi4 hl4), pq h18] (sI h).symm
         ·have h := hnext4 _ hs4
          rcases bC (decide (z4 > 1)) with h19 | h19
          ·replace h := cT h19 h
           have hq := hret3 _ (hr3 _ (sI h).symm)
           replace hq := sI hq
           subst hq
           exact wr lv53 26 [true] [] [] [.tmp 4] 0 [] hC [pq h19]
          ·replace h := cF h19 h
           exact wx w3b (st53_3 x0) (R53_3 x0 x1) lv53 27 [false] [] [] 0 [0, 1] (w64 (z3 + 1)) hC [pq h19] (sI h).symm
        ·replace h := cF h13 h
         exact wx w3 (sa53_3) (Ra53_3) lv53 26 [false] [] [] 0 [] z3 hC [pq h13] (hb3 _ (sI h).symm)
       ·have h := hnext3 _ hs3
        replace h := sI h
        subst h
        exact wr lv53 23 [] [] [] [.tmp 4] 0 [] hC []
theorem e53 : EN 53 := en Tryz.func53
theorem k91 (x0 : dynposmake_Src) (r : api_Arc × dynposmake_Src) (h : F91 x0 = some r) : CO 91 [.d (.o 0 0)] [.box 90 (d90 x0)] (.agg (d159 r.1)) [.box 90 (d90 r.2)] := by
 unfold F91 at h
 refine co 15 Tryz.func91 fun C hC => ?_
 obtain ⟨y1, h2, h⟩ := bE h
 obtain ⟨y3, h4, h⟩ := bE h
 replace h := sI h
 subst h
 exact wr [0, 2, 3] 27 [] [pc e40 (k40 x0 [0, 450, 800, 1350, 1800, 2600, 3500] _ h2) [0], pc e40 (k40 y1.2 [0, 100, 300, 900, 1799] _ h4) [0], ⟨.nz 3600, nz_lit rfl⟩] [] [.cell 2 159] 1 [0] hC []
theorem e91 : EN 91 := en Tryz.func91
theorem k150 (x0 : api_Arc) (r : Bool) (h : F150 x0 = r) : CO 150 [.agg (d159 x0)] [] (.d (Bo r)) [] := by
 unfold F150 at h
 refine co 6 Tryz.func150 fun C hC => ?_
 subst h
 exact wr n3_ 25 [] [pc e151 (k151 x0 _ rfl) []] [] [.tmp 2] 0 [] hC []
theorem e150 : EN 150 := en Tryz.func150
def lv136 : List Nat := [0, 1, 2, 3, 4, 6, 16, 17, 18, 19, 28, 29, 44, 71]
def st136_0 (x0 : api_Board) (n0 : Nat) (z0 : (List Int) × (List (List Int))) : St := [(1, dO 0 0), (2, dB false), (3, dS 1), (4, dS 2), (16, .d (DS q147 x0.Breakers)), (17, dI (ln x0.Breakers)), (18, dI (cnt 0 n0))]
def R136_0 (x0 : api_Board) (n0 : Nat) (z0 : (List Int) × (List (List Int))) : List Res := [.box 29 (d29 x0), v0_ z0.1, .dsl 22 1 3, .gh 1 [(3, 1)] (z0.2.map (pL pI)) none]
def sa136_0  (z0 : (List Int) × (List (List Int))) : St := [(2, dB false), (3, dS 0), (4, dS 1)]
def Ra136_0  (z0 : (List Int) × (List (List Int))) : List Res := [v0_ z0.1, .dsl 22 1 2, .gh 1 [(3, 1)] (z0.2.map (pL pI)) none]
theorem k136 (x0 : api_Board) (r : Bool) (h : F136 x0 = some r) : CO 136 [.agg (d29 x0)] [] (.d (Bo r)) [] := by
 unfold F136 at h
 refine co 116 Tryz.func136 fun C hC => ?_
 obtain ⟨y1, h2, h⟩ := bE h
 obtain ⟨y3, h4, h⟩ := bE h
 refine ws lv136 28 [] [⟨.flts [v0_ y1, .zsl 22 1 (y3.map (pL pI))], trivial⟩, pl q139 x0.Sources, ⟨.fltm 1 (.room ((ln x0.Sources) * (8 + 1)) (List.replicate (Int.toNat (ln x0.Sources)) (pI 0)) (y1.map pI)) (v0_ y1) (v0_ y1), ⟨make_get h2, rfl⟩⟩, pl q65 x0.Consumers, ⟨.fltm 2 (.roomZ ((ln x0.Consumers) * (24 + 1)) (List.replicate (Int.toNat (ln x0.Consumers)) ((pL pI) ([] : List Int))) (y3.map (pL pI))) (.zsl 22 1 (y3.map (pL pI))) (.zsl 22 1 (y3.map (pL pI))), ⟨makez_get h4, rfl⟩⟩, pl q147 x0.Breakers] [.deep 2 [(3, 1)]] 0 n4_ (st136_0 x0 0 (y1, y3)) (R136_0 x0 0 (y1, y3)) hC [] ?_
 obtain ⟨w0, hm0, hret0, hnext0⟩ := aIn h
 clear h
 refine wc w0 (sa136_0) (Ra136_0) ?_ fun z0 hs0 => ?_
 ·refine wb ?_
  refine wL 16 rfl fun hl0 => ?_
  refine wF (by kernel_rfl) (F136_l0 x0) (st136_0 x0) (R136_0 x0) w0 x0.Breakers (y1, y3) hm0 rfl rfl (fun z0 hn0 => ?_) fun n0 a0 z0 w0b hi0 hx0 h hb0 hr0 => ?_
  ·clear hm0
   exact wx w0 (sa136_0) (Ra136_0) lv136 26 [false] [] [] 0 [1, 2, 3] (z0.1, z0.2) hC [pq (cE hl0)] hn0
  ·unfold F136_l0 at h
   refine ws lv136 33 [true] [pt hx0 hl0, pc e99 (k99 a0.A 0 (w64 (x0.Buses - 1)) _ rfl) []] [] 0 n5_ [(1, dO 0 0), (2, dB false), (3, dS 1), (4, dS 2), (6, dO 4 0), (16, .d (DS q147 x0.Breakers)), (17, dI (ln x0.Breakers)), (18, dI (cnt 0 n0)), (28, .d (Bo (!(F99 a0.A 0 (w64 (x0.Buses - 1))))))] [.box 29 (d29 x0), v0_ z0.1, .dsl 22 1 3, .gh 1 [(3, 1)] (z0.2.map (pL pI)) none, .box 147 (d147 a0)] hC [pq (cL hi0 hl0)] ?_
   rcases bC (!(F99 a0.A 0 (w64 (x0.Buses - 1)))) with h5 | h5
   ·replace h := cT h5 h
    have hq := hret0 _ (hr0 _ (sI h).symm)
    replace hq := sI hq
    subst hq
    exact wr lv136 24 [true] [] [] [.tmp 2] 0 [] hC [pq h5]
   ·replace h := cF h5 h
    refine ws lv136 26 [false] [⟨.when [((a0.Kind == 1), true)] (.call 99 [dI a0.B, dI (w64 (a0.A + 1)), dI (w64 (x0.Buses - 1))] [] (dB (F99 a0.B (w64 (a0.A + 1)) (w64 (x0.Buses - 1)))) [] []), fun hg => ⟨e99, (k99 a0.B (w64 (a0.A + 1)) (w64 (x0.Buses - 1)) _ rfl)⟩⟩] [] 0 n5_ [(1, dO 0 0), (2, dB false), (3, dS 1), (4, dS 2), (6, dO 4 0), (16, .d (DS q147 x0.Breakers)), (17, dI (ln x0.Breakers)), (18, dI (cnt 0 n0)), (29, dB (c136_6 x0 a0))] [.box 29 (d29 x0), v0_ z0.1, .dsl 22 1 3, .gh 1 [(3, 1)] (z0.2.map (pL pI)) none, .box 147 (d147 a0)] hC [pq h5] ?_
    rcases bC ((c136_6 x0 a0)) with h6 | h6
    ·replace h := cT h6 h
     exact wx w0b (st136_0 x0 (n0 + 1)) (R136_0 x0 (n0 + 1)) lv136 26 [true] [] [] 0 n4_ (z0.1, z0.2) hC [pq h6] (sI h).symm
    ·replace h := cF h6 h
     obtain ⟨y7, h8, h⟩ := bE h
     refine ws lv136 24 [false] [pL_ [((a0.Kind == 2), true)] pI z0.1, ⟨.when [((a0.Kind == 2), true)] (.call 99 [dI a0.B, dI 0, dI (w64 ((ln z0.1) - 1))] [] (.d (Bo (F99 a0.B 0 (w64 ((ln z0.1) - 1))))) [] []), fun hg => ⟨e99, (k99 a0.B 0 (w64 ((ln z0.1) - 1)) _ rfl)⟩⟩, pR pI h8, pN pI h8] [] 0 n5_ [(1, dO 0 0), (2, dB false), (3, dS 1), (4, dS 2), (6, dO 4 0), (16, .d (DS q147 x0.Breakers)), (17, dI (ln x0.Breakers)), (18, dI (cnt 0 n0)), (44, dB (c136_7 z0 a0 y7))] [.box 29 (d29 x0), v0_ z0.1, .dsl 22 1 3, .gh 1 [(3, 1)] (z0.2.map (pL pI)) none, .box 147 (d147 a0)] hC [pq h6] ?_
     rcases bC ((c136_7 z0 a0 y7)) with h9 | h9
     ·replace h := cT h9 h
      obtain ⟨y10, h11, h⟩ := bE h
      obtain ⟨y12, h13, h⟩ := bE h
      exact wx w0b (st136_0 x0 (n0 + 1)) (R136_0 x0 (n0 + 1)) lv136 26 [true] [pr pI h11, pn pI h11, pr pI h11, pu pI h11 h13] [] 0 n4_ (y12, z0.2) hC [pq h9] (sI h).symm
     ·replace h := cF h9 h
      obtain ⟨y14, h15, h⟩ := bE h
      obtain ⟨y16, h17, h⟩ := bE h
      refine ws lv136 24 [false] [pL_ [((a0.Kind == 3), true)] (pL pI) z0.2, ⟨.when [((a0.Kind == 3), true)] (.call 99 [dI a0.B, dI 0, dI (w64 ((ln z0.2) - 1))] [] (.d (Bo (F99 a0.B 0 (w64 ((ln z0.2) - 1))))) [] []), fun hg => ⟨e99, (k99 a0.B 0 (w64 ((ln z0.2) - 1)) _ rfl)⟩⟩, pR (pL pI) h15, pN (pL pI) h15, ⟨.when [(((a0.Kind == 3) && (F99 a0.B 0 (w64 ((ln z0.2) - 1)))), true)] (.callB 190 [.d (DS pI y14), dI a0.A] (dB y16) (z0.2.map (pL pI)) (Int.toNat a0.B) ((pL pI) y14)), fun hg => lend_get ⟨e190, (k190 y14 a0.A _ (gg h17 hg))⟩ (gg h15 hg)⟩] [] 0 n5_ [(1, dO 0 0), (2, dB false), (3, dS 1), (4, dS 2), (6, dO 4 0), (16, .d (DS q147 x0.Breakers)), (17, dI (ln x0.Breakers)), (18, dI (cnt 0 n0)), (71, dB (c136_8 z0 a0 y16))] [.box 29 (d29 x0), v0_ z0.1, .dsl 22 1 3, .gh 1 [(3, 1)] (z0.2.map (pL pI)) none, .box 147 (d147 a0)] hC [pq h9] ?_
      rcases bC ((c136_8 z0 a0 y16)) with h18 | h18
      ·replace h := cT h18 h
       obtain ⟨y19, h20, h⟩ := bE h
       obtain ⟨y21, h22, h⟩ := bE h
       obtain ⟨y23, h24, h⟩ := bE h
       exact wx w0b (st136_0 x0 (n0 + 1)) (R136_0 x0 (n0 + 1)) lv136 26 [true] [pr (pL pI) h20, pn (pL pI) h20, ⟨.appD (z0.2.map (pL pI)) (Int.toNat a0.B) ((pL pI) y19) 0 (y19.map pI) ([a0.A].map pI) 1 (((y19.map pI).length + ([a0.A].map pI).length) * (8 + 1)) (y21.map pI), appD_get 1 (fun _ => rfl) h20 rfl h22⟩, pr (pL pI) h20, ⟨.updD (z0.2.map (pL pI)) (Int.toNat a0.B) (Int.toNat a0.B) ((pL pI) y19) ((pL pI) y21) (y23.map (pL pI)), updD_get h20 h24⟩] [] 0 [0, 1, 2, 8] (z0.1, y23) hC [pq h18] (sI h).symm
      ·replace h := cF h18 h
       have hq := hret0 _ (hr0 _ (sI h).symm)
       replace hq := sI hq
       subst hq
       exact wr lv136 24 [false] [] [] [.tmp 2] 0 [] hC [pq h18]
 ·have h := hnext0 _ hs0
  refine ws lv136 1 [] [] [.flat 1] 0 [0, 1] [(2, dB false), (3, dS 0), (4, dS 1)] [v0_ z0.1, .sl 22 1 (z0.2.map (pL pI))] hC [] ?_
  obtain ⟨y27, h28, h⟩ := bE h
  obtain ⟨y29, h30, h⟩ := bE h
  replace h := sI h
  subst h
  exact wr lv136 22 [] [pb e190 (k190 z0.1 0 _ h28), pv e191s0 (fun hg => k191s0 z0.2 _ (gg h30 hg))] [] [.tmp 2] 0 [] hC []
theorem e136 : EN 136 := en Tryz.func136
def lv155s0 : List Nat := [0, 1, 4, 5, 7, 8, 9, 16]
def st155s0_0 (x0 : List api_Running) (n0 : Nat) (z0 : Unit) : St := [(0, .d (DS q120 x0)), (1, .d (.fn (.func 97) [] [])), (4, dI 0), (7, dI (ln x0)), (8, dI (cnt 0 n0))]
def R155s0_0  (n0 : Nat) (z0 : Unit) : List Res := []
def sa155s0_0  (z0 : Unit) : St := [(4, dI 0)]
def Ra155s0_0  (z0 : Unit) : List Res := []
theorem k155s0 (x0 : List api_Running) (r : Int) (h : F155s0 x0 = some r) : CO 155 [.d (DS q120 x0), .d (.fn (.func 97) [] [])] [] (.d (I r)) [] := by
 unfold F155s0 at h
 refine co 19 Tryz.func155 fun C hC => ?_
 refine ws lv155s0 26 [] [pl q120 x0] [] 0 [] (st155s0_0 x0 0 ()) (R155s0_0 0 ()) hC [] ?_
 obtain ⟨w0, hm0, hret0, hnext0⟩ := aIn h
 clear h
 refine wc w0 (sa155s0_0) (Ra155s0_0) ?_ fun z0 hs0 => ?_
 ·refine wb ?_
  refine wL 0 rfl fun hl0 => ?_
  refine wF (by kernel_rfl) F155s0_l0 (st155s0_0 x0) (R155s0_0) w0 x0 () hm0 rfl rfl (fun z0 hn0 => ?_) fun n0 a0 z0 w0b hi0 hx0 h hb0 hr0 => ?_
  ·clear hm0
   exact wx w0 (sa155s0_0) (Ra155s0_0) lv155s0 26 [false] [] [] 0 [] () hC [pq (cE hl0)] hn0
  ·unfold F155s0_l0 at h
   refine ws lv155s0 32 [true] [pt hx0 hl0, pc e97 (k97 a0 _ rfl) []] [] 0 [] [(0, .d (DS q120 x0)), (1, .d (.fn (.func 97) [] [])), (4, dI 0), (5, dI (cnt 0 n0)), (7, dI (ln x0)), (8, dI (cnt 0 n0)), (16, dB (F97 a0))] [] hC [pq (cL hi0 hl0)] ?_
   rcases bC (F97 a0) with h1 | h1
   ·replace h := cT h1 h
    have hq := hret0 _ (hr0 _ (sI h).symm)
    replace hq := sI hq
    subst hq
    exact wr lv155s0 24 [true] [] [] [.tmp 4] 0 [] hC [pq h1]
   ·replace h := cF h1 h
    exact wx w0b (st155s0_0 x0 (n0 + 1)) (R155s0_0 (n0 + 1)) lv155s0 25 [false] [] [] 0 [] () hC [pq h1] (sI h).symm
 ·have h := hnext0 _ hs0
  replace h := sI h
  subst h
  exact wr lv155s0 23 [] [] [] [.tmp 4] 0 [] hC []
theorem e155s0 : EN 155 := en Tryz.func155
theorem k104s1 (rec46 : api_Board -> api_Power -> Int -> Option Bool) (ih46 : ∀ (x0 : api_Board) (x1 : api_Power) (x2 : Int) (r : Bool), rec46 x0 x1 x2 = some r -> CO 46 [.agg (d29 x0), .agg (d36 x1), .d (I x2)] [] (.d (Bo r)) []) (x0 : List Int) (x1c0 : api_Board) (x1c1 : api_Power) (r : Bool × api_Board × api_Power) (h : F104s1 rec46 x0 x1c0 x1c1 = some r) : CO 104 [.d (DS pI x0), .d (.fn (.func 105) [] [.o 0 0, .o 1 0])] [.box 29 (d29 x1c0), .box 36 (d36 x1c1)] (.d (Bo r.1)) [.box 29 (d29 r.2.1), .box 36 (d36 r.2.2)] := by
 unfold F104s1 at h
 refine co 9 Tryz.func104 fun C hC => ?_
 obtain ⟨y1, h2, h⟩ := bE h
 replace h := sI h
 subst h
 exact wr [0, 1, 4] 25 [] [pc e158s1 (k158s1 rec46 ih46 x0 x1c0 x1c1 _ h2) [0, 1]] [] [.tmp 4] 2 [0, 1] hC []
theorem e104s1 : EN 104 := en Tryz.func104
theorem k160 (x0 : Int) (x1 : Int) (r : Int × Int) (h : F160 x0 x1 = some r) : CO 160 [.d (I x0), .d (I x1)] [] (.tup [.d (I r.1), .d (I r.2)]) [] := by
 unfold F160 at h
 refine co 11 Tryz.func160 fun C hC => ?_
 obtain ⟨y1, h2, h⟩ := bE h
 replace h := sI h
 subst h
 exact wr [0, 1, 4, 5] 25 [] [pc e201s0 (k201s0 x0 x1 _ h2) []] [] [.tmp 4, .tmp 5] 0 [] hC []
theorem e160 : EN 160 := en Tryz.func160
def lv50 : List Nat := [0, 1, 2, 4, 58, 60, 61, 62, 63, 68]
def st50_0 (x0 : api_Thruster) (n0 : Nat) (z0 : Unit) : St := [(2, dB false), (60, .d (DS q159 x0.Forbidden)), (61, dI (ln x0.Forbidden)), (62, dI (cnt 0 n0))]
def R50_0  (n0 : Nat) (z0 : Unit) : List Res := []
def sa50_0  (z0 : Unit) : St := [(2, dB false)]
def Ra50_0  (z0 : Unit) : List Res := []
theorem k50 (x0 : api_Thruster) (r : Bool) (h : F50 x0 = some r) : CO 50 [.agg (d63 x0)] [] (.d (Bo r)) [] := by
 unfold F50 at h
 refine co 70 Tryz.func50 fun C hC => ?_
 refine ws lv50 26 [] [pL_ [(((((((((((decide (x0.Kind < 1)) || (decide (x0.Kind > 3))) || (decide (x0.Station < 0))) || (decide (x0.Station > 1))) || (decide (x0.Max < 0))) || (decide (x0.Max > 5000))) || (decide (x0.Rate < 0))) || (decide (x0.Rate > 5000))) || (decide (x0.Cost < 1))) || (decide (x0.Cost > 100))), false)] q159 x0.Forbidden] [] 0 [0] [(1, dO 0 0), (2, dB false), (58, dB (c50_0 x0))] [.box 63 (d63 x0)] hC [] ?_
 rcases bC ((c50_0 x0)) with h1 | h1
 ·replace h := cT h1 h
  replace h := sI h
  subst h
  exact wr lv50 24 [true] [] [] [.tmp 2] 0 [] hC [pq h1]
 ·replace h := cF h1 h
  refine ws lv50 26 [false] [pl q159 x0.Forbidden] [] 0 [] (st50_0 x0 0 ()) (R50_0 0 ()) hC [pq h1] ?_
  obtain ⟨w0, hm0, hret0, hnext0⟩ := aIn h
  clear h
  refine wc w0 (sa50_0) (Ra50_0) ?_ fun z0 hs0 => ?_
  ·refine wb ?_
   refine wL 60 rfl fun hl0 => ?_
   refine wF (by kernel_rfl) F50_l0 (st50_0 x0) (R50_0) w0 x0.Forbidden () hm0 rfl rfl (fun z0 hn0 => ?_) fun n0 a0 z0 w0b hi0 hx0 h hb0 hr0 => ?_
   ·clear hm0
    exact wx w0 (sa50_0) (Ra50_0) lv50 26 [false] [] [] 0 [] () hC [pq (cE hl0)] hn0
   ·unfold F50_l0 at h
    rcases bC (!(F108 a0)) with h2 | h2
    ·replace h := cT h2 h
     have hq := hret0 _ (hr0 _ (sI h).symm)
     replace hq := sI hq
     subst hq
     exact wr lv50 35 [true, true] [pt hx0 hl0, pc e108 (k108 a0 _ rfl) []] [] [.tmp 2] 0 [] hC [pq (cL hi0 hl0), pq h2]
    ·replace h := cF h2 h
     exact wx w0b (st50_0 x0 (n0 + 1)) (R50_0 (n0 + 1)) lv50 36 [true, false] [pt hx0 hl0, pc e108 (k108 a0 _ rfl) []] [] 0 [] () hC [pq (cL hi0 hl0), pq h2] (sI h).symm
  ·have h := hnext0 _ hs0
   replace h := sI h
   subst h
   exact wr lv50 23 [] [] [] [.tmp 2] 0 [] hC []
theorem e50 : EN 50 := en Tryz.func50
def lv27 : List Nat := [0, 1, 2, 3, 4, 6, 7, 8, 32, 43]
theorem k27 (x0 : api_Board) (x1 : api_Power) (x2 : Int) (r : Int × Bool) (h : F27 x0 x1 x2 = some r) : CO 27 [.agg (d29 x0), .agg (d36 x1), .d (I x2)] [] (.tup [.d (I r.1), .d (Bo r.2)]) [] := by
 unfold F27 at h
 refine co 50 Tryz.func27 fun C hC => ?_
 obtain ⟨y1, h2, h⟩ := bE h
 obtain ⟨y3, h4, h⟩ := bE h
 refine ws lv27 26 [] [pc e53 (k53 x0 x1 _ h2) [], pL_ [(((y1 != 0) || (decide (x2 < 0))), false)] q139 x0.Sources, pR q120 h4] [] 0 [0, 1] [(2, dI x2), (3, dO 0 0), (4, dO 1 0), (6, dI 0), (7, dB false), (32, dB (c27_0 x0 x2 y1 y3))] [.box 29 (d29 x0), .box 36 (d36 x1)] hC [] ?_
 rcases bC ((c27_0 x0 x2 y1 y3)) with h5 | h5
 ·replace h := cT h5 h
  replace h := sI h
  subst h
  exact wr lv27 24 [true] [] [] [.tmp 6, .tmp 7] 0 [] hC [pq h5]
 ·replace h := cF h5 h
  obtain ⟨y6, h7, h⟩ := bE h
  obtain ⟨y8, h9, h⟩ := bE h
  obtain ⟨y10, h11, h⟩ := bE h
  refine ws lv27 28 [false] [pc e77 (k77 x0 2 x2 _ h7) [], pr pI h9, pn pI h9, pr pB h11] [] 0 [0] [(3, dO 0 0), (6, dI 0), (7, dB false), (8, dI y8), (43, dB (!y10))] [.box 29 (d29 x0)] hC [pq h5] ?_
  rcases bC (!y10) with h12 | h12
  ·replace h := cT h12 h
   replace h := sI h
   subst h
   exact wr lv27 24 [true] [] [] [.tmp 6, .tmp 7] 0 [] hC [pq h12]
  ·replace h := cF h12 h
   obtain ⟨y13, h14, h⟩ := bE h
   replace h := sI h
   subst h
   exact wr lv27 25 [false] [pr q147 h14] [] [.tmp 6, .tmp 7] 0 [] hC [pq h12]
theorem e27 : EN 27 := en Tryz.func27
def lv48 : List Nat := [0, 1, 2, 3, 4, 6, 7, 9, 24, 27, 28, 29, 30, 37]
def st48_0 (y4 : (List Int)) (n0 : Nat) (z0 : Unit) : St := [(3, dO 0 0), (4, dO 1 0), (6, dI 0), (7, dB false), (27, dS 2), (28, dI (ln y4)), (29, dI (cnt 0 n0))]
def R48_0 (x0 : api_Board) (x1 : api_Power) (y4 : (List Int)) (n0 : Nat) (z0 : Unit) : List Res := [.box 29 (d29 x0), .box 36 (d36 x1), v0_ y4]
def sa48_0  (z0 : Unit) : St := [(6, dI 0), (7, dB false)]
def Ra48_0  (z0 : Unit) : List Res := []
theorem k48 (x0 : api_Board) (x1 : api_Power) (x2 : Int) (r : Int × Bool) (h : F48 x0 x1 x2 = some r) : CO 48 [.agg (d29 x0), .agg (d36 x1), .d (I x2)] [] (.tup [.d (I r.1), .d (Bo r.2)]) [] := by
 unfold F48 at h
 refine co 45 Tryz.func48 fun C hC => ?_
 obtain ⟨y1, h2, h⟩ := bE h
 refine ws lv48 26 [] [pc e53 (k53 x0 x1 _ h2) [], pL_ [(((y1 != 0) || (decide (x2 < 0))), false)] q65 x0.Consumers] [] 0 [0, 1] [(2, dI x2), (3, dO 0 0), (4, dO 1 0), (6, dI 0), (7, dB false), (24, dB (c48_0 x0 x2 y1))] [.box 29 (d29 x0), .box 36 (d36 x1)] hC [] ?_
 rcases bC ((c48_0 x0 x2 y1)) with h3 | h3
 ·replace h := cT h3 h
  replace h := sI h
  subst h
  exact wr lv48 24 [true] [] [] [.tmp 6, .tmp 7] 0 [] hC [pq h3]
 ·replace h := cF h3 h
  obtain ⟨y4, h5, h⟩ := bE h
  refine ws lv48 26 [false] [pc e77 (k77 x0 3 x2 _ h5) [], pl pI y4] [] 0 n3_ (st48_0 y4 0 ()) (R48_0 x0 x1 y4 0 ()) hC [pq h3] ?_
  obtain ⟨w0, hm0, hret0, hnext0⟩ := aIn h
  clear h
  refine wc w0 (sa48_0) (Ra48_0) ?_ fun z0 hs0 => ?_
  ·refine wb ?_
   refine wO 27 2 rfl rfl fun hl0 => ?_
   refine wF (by kernel_rfl) (F48_l0 x0 x1) (st48_0 y4) (R48_0 x0 x1 y4) w0 y4 () hm0 rfl rfl (fun z0 hn0 => ?_) fun n0 a0 z0 w0b hi0 hx0 h hb0 hr0 => ?_
   ·clear hm0
    exact wx w0 (sa48_0) (Ra48_0) lv48 26 [false] [] [] 0 [] () hC [pq (cE hl0)] hn0
   ·unfold F48_l0 at h
    obtain ⟨y6, h7, h⟩ := bE h
    rcases bC (y6) with h8 | h8
    ·replace h := cT h8 h
     obtain ⟨y9, h10, h⟩ := bE h
     have hq := hret0 _ (hr0 _ (sI h).symm)
     replace hq := sI hq
     subst hq
     exact wr lv48 35 [true, true] [pr pI (gC hx0 hl0), pn pI (gC hx0 hl0), pr pB h7, pr q147 h10] [] [.tmp 6, .tmp 7] 0 [] hC [pq (cL hi0 hl0), pq h8]
    ·replace h := cF h8 h
     exact wx w0b (st48_0 y4 (n0 + 1)) (R48_0 x0 x1 y4 (n0 + 1)) lv48 36 [true, false] [pr pI (gC hx0 hl0), pn pI (gC hx0 hl0), pr pB h7] [] 0 n3_ () hC [pq (cL hi0 hl0), pq h8] (sI h).symm
  ·have h := hnext0 _ hs0
   replace h := sI h
   subst h
   exact wr lv48 23 [] [] [] [.tmp 6, .tmp 7] 0 [] hC []
theorem e48 : EN 48 := en Tryz.func48
theorem k86 (x0 : Int) (r : (List api_Roster)) (h : F86 x0 = some r) : CO 86 [.d (I x0)] [] (.d (.os 0)) [v5_ r] := by
 unfold F86 at h
 refine co 7 Tryz.func86 fun C hC => ?_
 obtain ⟨y1, h2, h⟩ := bE h
 replace h := sI h
 subst h
 exact wr [0, 2] 25 [] [pc e139 (k139 [(⟨(-1), (-1)⟩ : api_Roster)] x0 _ h2) []] [] [.tmp 2] 0 [0] hC []
theorem e86 : EN 86 := en Tryz.func86
theorem k61s0 (x0 : List api_Roster) (x1c0c0 : api_Plant) (r : Bool × api_Plant) (h : F61s0 x0 x1c0c0 = some r) : CO 61 [.d (DS q130 x0), .d (.fn (.func 62) [] [.o 0 0])] [.box 126 [.fn (.func 58) [] [.o 1 0]], .box 40 (d40 x1c0c0)] (.d (Bo r.1)) [.box 126 [.fn (.func 58) [] [.o 1 0]], .box 40 (d40 r.2)] := by
 unfold F61s0 at h
 refine co 9 Tryz.func61 fun C hC => ?_
 obtain ⟨y1, h2, h⟩ := bE h
 replace h := sI h
 subst h
 exact wr [0, 1, 4] 25 [] [pc e122s0 (k122s0 x0 x1c0c0 _ h2) [0, 1]] [] [.tmp 4] 2 [0, 1] hC []
theorem e61s0 : EN 61 := en Tryz.func61
theorem k221s0 (x0 : restore_worker) (x1 : Int) (r : Bool) (h : F221s0 x0 x1 = some r) : CO 221 [.d (.ip [.v (.int .i64 x0.board.Buses), .s (x0.board.Breakers.map q147), .s (x0.board.Sources.map q139), .s (x0.board.Consumers.map q65), .v (.int .i64 x0.board.Phase), .v (.int .i64 x0.board.Frequency), .s (x0.power.Closed.map pB), .s (x0.power.Sources.map q120), .s (x0.power.Limits.map pI), .s (x0.power.Broken.map q86), .v (.int .i64 x0.time)]), .d (I x1)] [] (.d (Bo r)) [] := by
 unfold F221s0 at h
 refine co 19 Tryz.func221 fun C hC => ?_
 obtain ⟨y1, h2, h⟩ := bE h
 obtain ⟨y3, h4, h⟩ := bE h
 replace h := sI h
 subst h
 exact wr [0, 1, 4] 25 [] [pc e239 (k239 x0.board x1 _ h2) [], pr pB h4] [] [.tmp 4] 0 [] hC []
theorem e221s0 : EN 221 := en Tryz.func221
theorem k231s0 (x0 : Int) (x1 : Int) (x2 : shed_relief) (r : Bool × shed_relief) (h : F231s0 x0 x1 x2 = some r) : CO 231 [.d (I x0), .d (I x1), .d (.o 0 0)] (.box 211 [.o 1 0] :: .box 235 (zb x2.board [.os 2, .os 3, .os 4, .os 5, .os 6]) :: zp x2.power [v6_ x2.acts]) (.d (Bo r.1)) (.box 211 [.o 1 0] :: .box 235 (zb r.2.board [.os 2, .os 3, .os 4, .os 5, .os 6]) :: zp r.2.power [v6_ r.2.acts]) := by
 unfold F231s0 at h
 refine co 13 Tryz.func231 fun C hC => ?_
 obtain ⟨y1, h2, h⟩ := bE h
 replace h := sI h
 subst h
 exact wr [0, 1, 2, 5] 25 [] [pb e103 (k103 x2.power x0 x1 _ h2)] [] [.tmp 5] 7 n7_ hC []
theorem e231s0 : EN 231 := en Tryz.func231
def lv158s3 : List Nat := [0, 1, 4, 5, 7, 8, 9, 16]
def st158s3_0 (x0 : List Int) (n0 : Nat) (z0 : Unit) : St := [(0, dS 0), (1, .d (.fn (.func 209) [] [.o 1 0])), (4, dI 0), (7, dI (ln x0)), (8, dI (cnt 0 n0))]
def R158s3_0 (x0 : List Int) (x1c0 : api_Island) (n0 : Nat) (z0 : Unit) : List Res := [v0_ x0, .box 84 (d84 x1c0)]
def sa158s3_0  (z0 : Unit) : St := [(4, dI 0)]
def Ra158s3_0 (x0 : List Int) (x1c0 : api_Island) (z0 : Unit) : List Res := [v0_ x0, .box 84 (d84 x1c0)]
theorem k158s3 (x0 : List Int) (x1c0 : api_Island) (r : Int × api_Island) (h : F158s3 x0 x1c0 = some r) : CO 158 [.d (.os 0), .d (.fn (.func 209) [] [.o 1 0])] [v0_ x0, .box 84 (d84 x1c0)] (.d (I r.1)) [v0_ x0, .box 84 (d84 r.2)] := by
 unfold F158s3 at h
 refine co 19 Tryz.func158 fun C hC => ?_
 refine ws lv158s3 26 [] [pl pI x0] [] 2 [0, 1] (st158s3_0 x0 0 ()) (R158s3_0 x0 x1c0 0 ()) hC [] ?_
 obtain ⟨w0, hm0, hret0, hnext0⟩ := aIn h
 clear h
 refine wc w0 (sa158s3_0) (Ra158s3_0 x0 x1c0) ?_ fun z0 hs0 => ?_
 ·refine wb ?_
  refine wO 0 0 rfl rfl fun hl0 => ?_
  refine wF (by kernel_rfl) (F158s3_l0 x1c0) (st158s3_0 x0) (R158s3_0 x0 x1c0) w0 x0 () hm0 rfl rfl (fun z0 hn0 => ?_) fun n0 a0 z0 w0b hi0 hx0 h hb0 hr0 => ?_
  ·clear hm0
   exact wx w0 (sa158s3_0) (Ra158s3_0 x0 x1c0) lv158s3 26 [false] [] [] 2 [0, 1] () hC [pq (cE hl0)] hn0
  ·unfold F158s3_l0 at h
   obtain ⟨y1, h2, h⟩ := bE h
   refine ws lv158s3 32 [true] [pr pI (gC hx0 hl0), pn pI (gC hx0 hl0), pb e209s0 (k209s0 a0 x1c0 _ h2)] [] 2 [0, 1] [(0, dS 0), (1, .d (.fn (.func 209) [] [.o 1 0])), (4, dI 0), (5, dI (cnt 0 n0)), (7, dI (ln x0)), (8, dI (cnt 0 n0)), (16, dB y1)] [v0_ x0, .box 84 (d84 x1c0)] hC [pq (cL hi0 hl0)] ?_
   rcases bC (y1) with h3 | h3
   ·replace h := cT h3 h
    have hq := hret0 _ (hr0 _ (sI h).symm)
    replace hq := sI hq
    subst hq
    exact wr lv158s3 24 [true] [] [] [.tmp 4] 2 [0, 1] hC [pq h3]
   ·replace h := cF h3 h
    exact wx w0b (st158s3_0 x0 (n0 + 1)) (R158s3_0 x0 x1c0 (n0 + 1)) lv158s3 25 [false] [] [] 2 [0, 1] () hC [pq h3] (sI h).symm
 ·have h := hnext0 _ hs0
  replace h := sI h
  subst h
  exact wr lv158s3 23 [] [] [] [.tmp 4] 2 [0, 1] hC []
theorem e158s3 : EN 158 := en Tryz.func158
theorem k215 (x0 : api_Board) (x1 : api_Power) (x2 : api_Island) (x3 : Int) (r : Bool) (h : F215 x0 x1 x2 x3 = some r) : CO 215 [.agg (d29 x0), .agg (d36 x1), .agg (d84 x2), .d (I x3)] [] (.d (Bo r)) [] := by
 unfold F215 at h
 refine co 58 Tryz.func215 fun C hC => ?_
 obtain ⟨y1, h2, h⟩ := bE h
 obtain ⟨y3, h4, h⟩ := bE h
 obtain ⟨y5, h6, h⟩ := bE h
 obtain ⟨y7, h8, h⟩ := bE h
 obtain ⟨y9, h10, h⟩ := bE h
 obtain ⟨y11, h12, h⟩ := bE h
 obtain ⟨y13, h14, h⟩ := bE h
 obtain ⟨y15, h16, h⟩ := bE h
 replace h := sI h
 subst h
 exact wr [0, 1, 2, 3, 4, 5, 6, 8, 9, 10, 11] 31 [] [pc e180 (k180 x0 x3 _ h2) [], pr q147 h4, pc e103 (k103 x1 1 x3 _ h6) [], pw e103 (fun hg => k103 x1 2 y1 _ (gg h8 hg)) [], pw e103 (fun hg => k103 x1 3 y3.A _ (gg h10 hg)) [], pw e190 (fun hg => k190 x2.Buses y3.A _ (gg h12 hg)) [], pw e190 (fun hg => k190 x2.Sources x3 _ (gg h14 hg)) [], pR q120 h16] [] [.tmp 8] 0 [] hC []
theorem e215 : EN 215 := en Tryz.func215
def st41_0  (z0 : Int × (List Int) × Int × (List api_Arc)) : St := [(0, dO 0 0), (2, dO 1 0), (3, dO 2 0), (4, dI z0.1)]
def R41_0 (y1 : Int × dynposmake_Src) (y3 : Int × dynposmake_Src) (y5 : Int × dynposmake_Src) (y7 : Int × dynposmake_Src) (y9 : Int × dynposmake_Src) (z0 : Int × (List Int) × Int × (List api_Arc)) : List Res := [.box 90 [DS pI z0.2.1, I z0.2.2.1], .box 63 [I 0, I 0, I 0, I 0, I 0, .os 3], .box 63 [I y1.1, I y3.1, I y5.1, I y7.1, I y9.1, .os 4], .sl 159 2 (([] : List api_Arc).map q159), .sl 159 2 (z0.2.2.2.map q159)]
def sa41_0  (z0 : Int × (List Int) × Int × (List api_Arc)) : St := [(2, dO 1 0), (3, dO 2 0)]
def Ra41_0 (y1 : Int × dynposmake_Src) (y3 : Int × dynposmake_Src) (y5 : Int × dynposmake_Src) (y7 : Int × dynposmake_Src) (y9 : Int × dynposmake_Src) (z0 : Int × (List Int) × Int × (List api_Arc)) : List Res := [.box 90 [DS pI z0.2.1, I z0.2.2.1], .box 63 [I 0, I 0, I 0, I 0, I 0, .os 3], .box 63 [I y1.1, I y3.1, I y5.1, I y7.1, I y9.1, .os 4], .sl 159 2 (([] : List api_Arc).map q159), .sl 159 2 (z0.2.2.2.map q159)]
theorem k41 (x0 : dynposmake_Src) (r : api_Thruster × dynposmake_Src) (h : F41 x0 = some r) : CO 41 [.d (.o 0 0)] [.box 90 (d90 x0)] (.agg [I r.1.Kind, I r.1.Station, I r.1.Max, I r.1.Rate, I r.1.Cost, .os 1]) [.box 90 (d90 r.2), .sl 159 2 (r.1.Forbidden.map q159)] := by
 unfold F41 at h
 refine co 33 Tryz.func41 fun C hC => ?_
 obtain ⟨y1, h2, h⟩ := bE h
 obtain ⟨y3, h4, h⟩ := bE h
 obtain ⟨y5, h6, h⟩ := bE h
 obtain ⟨y7, h8, h⟩ := bE h
 obtain ⟨y9, h10, h⟩ := bE h
 obtain ⟨y11, h12, h⟩ := bE h
 refine ws [0, 2, 3, 4, 22] 28 [] [pc e78 (k78 x0 1 3 _ h2) [0], pc e32 (k32 y1.2 2 _ h4) [0], pc e40 (k40 y3.2 [0, 1, 7, 20, 40] _ h6) [0], pc e40 (k40 y5.2 [0, 1, 5, 50] _ h8) [0], pc e40 (k40 y7.2 [1, 2, 3, 100] _ h10) [0], pc e32 (k32 y9.2 3 _ h12) [0]] [.ownb 1 5 159 2, .ownb 2 5 159 2] 1 n5_ (st41_0 (y11.1, y11.2.L, y11.2.At, ([] : List api_Arc))) (R41_0 y1 y3 y5 y7 y9 (y11.1, y11.2.L, y11.2.At, ([] : List api_Arc))) hC [] ?_
 obtain ⟨w0, hm0, hret0, hnext0⟩ := aIn h
 clear h
 refine wc w0 (sa41_0) (Ra41_0 y1 y3 y5 y7 y9) ?_ fun z0 hs0 => ?_
 ·refine wb ?_
  refine wW (by kernel_rfl) F41_l0 (st41_0) (R41_0 y1 y3 y5 y7 y9) w0 1152921504606846976 (y11.1, y11.2.L, y11.2.At, ([] : List api_Arc)) hm0 rfl rfl fun z0 w0b h hb0 hr0 => ?_
  unfold F41_l0 at h
  rcases bC (decide (z0.1 > 0)) with h13 | h13
  ·replace h := cT h13 h
   obtain ⟨y14, h15, h⟩ := bE h
   obtain ⟨y16, h17, h⟩ := bE h
   exact wx w0b (st41_0) (R41_0 y1 y3 y5 y7 y9) [0, 2, 3, 4, 22] 31 [true] [pc e91 (k91 (⟨z0.2.1, z0.2.2.1⟩ : dynposmake_Src) _ h15) [0], pa q159 2 h17] [] 1 [0, 1, 2, 3, 5] (w64 (z0.1 - 1), y14.2.L, y14.2.At, y16) hC [pq h13] (sI h).symm
  ·replace h := cF h13 h
   exact wx w0 (sa41_0) (Ra41_0 y1 y3 y5 y7 y9) [0, 2, 3, 4, 22] 26 [false] [] [] 1 n5_ (z0.1, z0.2.1, z0.2.2.1, (g3z_ z0)) hC [pq h13] (hb0 _ (sI h).symm)
 ·have h := hnext0 _ hs0
  replace h := sI h
  subst h
  exact wr [0, 2, 3, 4, 22] 23 [] [] [] [.cell 2 63] 1 [0, 4] hC []
theorem e41 : EN 41 := en Tryz.func41
def lv196s0 : List Nat := [0, 1, 4, 5, 7, 8, 9, 16]
def st196s0_0 (x0 : List api_Arc) (n0 : Nat) (z0 : Unit) : St := [(0, .d (DS q159 x0)), (1, .d (.fn (.func 150) [] [])), (4, dI 0), (7, dI (ln x0)), (8, dI (cnt 0 n0))]
def R196s0_0  (n0 : Nat) (z0 : Unit) : List Res := []
def sa196s0_0  (z0 : Unit) : St := [(4, dI 0)]
def Ra196s0_0  (z0 : Unit) : List Res := []
theorem k196s0 (x0 : List api_Arc) (r : Int) (h : F196s0 x0 = some r) : CO 196 [.d (DS q159 x0), .d (.fn (.func 150) [] [])] [] (.d (I r)) [] := by
 unfold F196s0 at h
 refine co 19 Tryz.func196 fun C hC => ?_
 refine ws lv196s0 26 [] [pl q159 x0] [] 0 [] (st196s0_0 x0 0 ()) (R196s0_0 0 ()) hC [] ?_
 obtain ⟨w0, hm0, hret0, hnext0⟩ := aIn h
 clear h
 refine wc w0 (sa196s0_0) (Ra196s0_0) ?_ fun z0 hs0 => ?_
 ·refine wb ?_
  refine wL 0 rfl fun hl0 => ?_
  refine wF (by kernel_rfl) F196s0_l0 (st196s0_0 x0) (R196s0_0) w0 x0 () hm0 rfl rfl (fun z0 hn0 => ?_) fun n0 a0 z0 w0b hi0 hx0 h hb0 hr0 => ?_
  ·clear hm0
   exact wx w0 (sa196s0_0) (Ra196s0_0) lv196s0 26 [false] [] [] 0 [] () hC [pq (cE hl0)] hn0
  ·unfold F196s0_l0 at h
   rcases bC (F150 a0) with h1 | h1
   ·replace h := cT h1 h
    have hq := hret0 _ (hr0 _ (sI h).symm)
    replace hq := sI hq
    subst hq
    exact wr lv196s0 35 [true, true] [pt hx0 hl0, pc e150 (k150 a0 _ rfl) []] [] [.tmp 4] 0 [] hC [pq (cL hi0 hl0), pq h1]
   ·replace h := cF h1 h
    exact wx w0b (st196s0_0 x0 (n0 + 1)) (R196s0_0 (n0 + 1)) lv196s0 36 [true, false] [pt hx0 hl0, pc e150 (k150 a0 _ rfl) []] [] 0 [] () hC [pq (cL hi0 hl0), pq h1] (sI h).symm
 ·have h := hnext0 _ hs0
  replace h := sI h
  subst h
  exact wr lv196s0 23 [] [] [] [.tmp 4] 0 [] hC []
theorem e196s0 : EN 196 := en Tryz.func196
def lv85 : List Nat := [0, 1, 2, 3, 5, 6, 7, 29, 43, 44, 45, 46, 56, 57, 58, 59, 71]
def st85_0 (x0 : api_Board) (n0 : Nat) (z0 : Bool) : St := [(1, dO 0 0), (2, dI 0), (3, dB z0), (43, .d (DS q139 x0.Sources)), (44, dI (ln x0.Sources)), (45, dI (cnt 0 n0))]
def R85_0 (x0 : api_Board) (n0 : Nat) (z0 : Bool) : List Res := [.box 29 (d29 x0)]
def sa85_0  (z0 : Bool) : St := [(1, dO 0 0), (2, dI 0), (3, dB z0)]
def Ra85_0 (x0 : api_Board) (z0 : Bool) : List Res := [.box 29 (d29 x0)]
def st85_1 (x0 : api_Board) (n1 : Nat) (z1 : Bool) : St := [(2, dI 0), (3, dB z1), (56, .d (DS q65 x0.Consumers)), (57, dI (ln x0.Consumers)), (58, dI (cnt 0 n1))]
def R85_1  (n1 : Nat) (z1 : Bool) : List Res := []
def sa85_1  (z1 : Bool) : St := [(2, dI 0), (3, dB z1)]
def Ra85_1  (z1 : Bool) : List Res := []
theorem k85 (x0 : api_Board) (r : Int) (h : F85 x0 = some r) : CO 85 [.agg (d29 x0)] [] (.d (I r)) [] := by
 unfold F85 at h
 refine co 72 Tryz.func85 fun C hC => ?_
 refine ws lv85 26 [] [pc e99 (k99 x0.Buses 1 6 _ rfl) [], pL_ [(!(F99 x0.Buses 1 6), false)] q147 x0.Breakers, pL_ [(((!(F99 x0.Buses 1 6)) || (decide ((ln x0.Breakers) > 24))), false)] q139 x0.Sources, pL_ [((((!(F99 x0.Buses 1 6)) || (decide ((ln x0.Breakers) > 24))) || (decide ((ln x0.Sources) > 8))), false)] q65 x0.Consumers] [] 0 [0] [(1, dO 0 0), (2, dI 0), (29, dB (c85_0 x0))] [.box 29 (d29 x0)] hC [] ?_
 rcases bC ((c85_0 x0)) with h1 | h1
 ·replace h := cT h1 h
  replace h := sI h
  subst h
  exact wr lv85 24 [true] [] [] [.tmp 2] 0 [] hC [pq h1]
 ·replace h := cF h1 h
  obtain ⟨y2, h3, h⟩ := bE h
  refine ws lv85 28 [false] [pc e136 (k136 x0 _ h3) [], ⟨.when [(y2, true)] (.call 99 [dI x0.Phase, dI 0, dI 1800] [] (dB (F99 x0.Phase 0 1800)) [] []), fun hg => ⟨e99, (k99 x0.Phase 0 1800 _ rfl)⟩⟩, ⟨.when [((y2 && (F99 x0.Phase 0 1800)), true)] (.call 99 [dI x0.Frequency, dI 0, dI 6000] [] (dB (F99 x0.Frequency 0 6000)) [] []), fun hg => ⟨e99, (k99 x0.Frequency 0 6000 _ rfl)⟩⟩, pl q139 x0.Sources] [] 0 [0] (st85_0 x0 0 ((y2 && (F99 x0.Phase 0 1800)) && (F99 x0.Frequency 0 6000))) (R85_0 x0 0 ((y2 && (F99 x0.Phase 0 1800)) && (F99 x0.Frequency 0 6000))) hC [pq h1] ?_
  obtain ⟨w0, hm0, hret0, hnext0⟩ := aIn h
  clear h
  refine wc w0 (sa85_0) (Ra85_0 x0) ?_ fun z0 hs0 => ?_
  ·refine wb ?_
   refine wL 43 rfl fun hl0 => ?_
   refine wF (by kernel_rfl) F85_l0 (st85_0 x0) (R85_0 x0) w0 x0.Sources ((y2 && (F99 x0.Phase 0 1800)) && (F99 x0.Frequency 0 6000)) hm0 rfl rfl (fun z0 hn0 => ?_) fun n0 a0 z0 w0b hi0 hx0 h hb0 hr0 => ?_
   ·clear hm0
    exact wx w0 (sa85_0) (Ra85_0 x0) lv85 26 [false] [] [] 0 [0] z0 hC [pq (cE hl0)] hn0
   ·unfold F85_l0 at h
    exact wx w0b (st85_0 x0 (n0 + 1)) (R85_0 x0 (n0 + 1)) lv85 33 [true] [pt hx0 hl0, ⟨.when [(z0, true)] (.call 137 [.agg (d139 a0)] [] (dB (F137 a0)) [] []), fun hg => ⟨e137, (k137 a0 _ rfl)⟩⟩] [] 0 [0] (z0 && (F137 a0)) hC [pq (cL hi0 hl0)] (sI h).symm
  ·have h := hnext0 _ hs0
   refine ws lv85 24 [] [pl q65 x0.Consumers] [] 0 [] (st85_1 x0 0 z0) (R85_1 0 z0) hC [] ?_
   obtain ⟨w1, hm1, hret1, hnext1⟩ := aIn h
   clear h
   refine wc w1 (sa85_1) (Ra85_1) ?_ fun z1 hs1 => ?_
   ·refine wb ?_
    refine wL 56 rfl fun hl1 => ?_
    refine wF (by kernel_rfl) F85_l1 (st85_1 x0) (R85_1) w1 x0.Consumers z0 hm1 rfl rfl (fun z1 hn1 => ?_) fun n1 a1 z1 w1b hi1 hx1 h hb1 hr1 => ?_
    ·clear hm1
     exact wx w1 (sa85_1) (Ra85_1) lv85 26 [false] [] [] 0 [] z1 hC [pq (cE hl1)] hn1
    ·unfold F85_l1 at h
     obtain ⟨y4, h5, h⟩ := bE h
     exact wx w1b (st85_1 x0 (n1 + 1)) (R85_1 (n1 + 1)) lv85 33 [true] [pt hx1 hl1, pw e138 (fun hg => k138 a1 (cnt 0 n1) _ (gg h5 hg)) []] [] 0 [] (z1 && y4) hC [pq (cL hi1 hl1)] (sI h).symm
   ·have h := hnext1 _ hs1
    rcases bC (!z1) with h6 | h6
    ·replace h := cT h6 h
     replace h := sI h
     subst h
     exact wr lv85 27 [true] [] [] [.tmp 2] 0 [] hC [pq h6]
    ·replace h := cF h6 h
     replace h := sI h
     subst h
     exact wr lv85 28 [false] [] [] [.tmp 2] 0 [] hC [pq h6]
theorem e85 : EN 85 := en Tryz.func85
theorem k96s0 (x0 : List api_Running) (r : Bool) (h : F96s0 x0 = some r) : CO 96 [.d (DS q120 x0), .d (.fn (.func 97) [] [])] [] (.d (Bo r)) [] := by
 unfold F96s0 at h
 refine co 9 Tryz.func96 fun C hC => ?_
 obtain ⟨y1, h2, h⟩ := bE h
 replace h := sI h
 subst h
 exact wr [0, 1, 4] 25 [] [pc e155s0 (k155s0 x0 _ h2) []] [] [.tmp 4] 0 [] hC []
theorem e96s0 : EN 96 := en Tryz.func96
def lv17 : List Nat := [0, 1, 2, 3, 4, 5, 13]
theorem k17 (x0 : api_Thruster) (x1 : api_Thrust) (r : Int × Int) (h : F17 x0 x1 = some r) : CO 17 [.agg (d63 x0), .agg (d70 x1)] [] (.tup [.d (I r.1), .d (I r.2)]) [] := by
 unfold F17 at h
 refine co 31 Tryz.func17 fun C hC => ?_
 obtain ⟨y1, h2, h⟩ := bE h
 refine ws lv17 26 [] [pc e50 (k50 x0 _ h2) [], ⟨.when [(!y1, false)] (.call 51 [.agg (d70 x1)] [] (dB (F51 x1)) [] []), fun hg => ⟨e51, (k51 x1 _ rfl)⟩⟩] [] 0 [0, 1] [(2, dO 0 0), (3, dO 1 0), (4, dI 0), (5, dI 0), (13, dB ((!y1) || (!(F51 x1))))] [.box 63 (d63 x0), .box 70 (d70 x1)] hC [] ?_
 rcases bC (((!y1) || (!(F51 x1)))) with h3 | h3
 ·replace h := cT h3 h
  replace h := sI h
  subst h
  exact wr lv17 24 [true] [] [] [.tmp 4, .tmp 5] 0 [] hC [pq h3]
 ·replace h := cF h3 h
  obtain ⟨y4, h5, h⟩ := bE h
  replace h := sI h
  subst h
  exact wr lv17 25 [false] [pc e52 (k52 (w64 ((w64 ((w64 (x1.X * x1.X)) + (w64 (x1.Y * x1.Y)))) * x0.Cost)) 1000 _ h5) []] [] [.tmp 4, .tmp 5] 0 [] hC [pq h3]
theorem e17 : EN 17 := en Tryz.func17
theorem k185s1 (x0 : restore_worker) (x1 : Int) (r : Int × restore_worker) (h : F185s1 x0 x1 = some r) : CO 185 [.d (.o 0 0), .d (I x1)] (.box 186 (zb x0.board [.os 1, .os 2, .os 3, .os 4, I x0.time]) :: zp x0.power []) (.d (I r.1)) (.box 186 (zb r.2.board [.os 1, .os 2, .os 3, .os 4, I r.2.time]) :: zp r.2.power []) := by
 unfold F185s1 at h
 refine co 53 Tryz.func185 fun C hC => ?_
 obtain ⟨y1, h2, h⟩ := bE h
 obtain ⟨y3, h4, h⟩ := bE h
 refine ws [0, 1, 4, 5, 23, 43] 26 [] [pr q120 h2, pn q120 h2, pv e103 (fun hg => k103 x0.power 1 x1 _ (gg h4 hg))] [] 5 n5_ [(0, dO 0 0), (1, dI x1), (4, dI 0), (23, dB ((y1.State != 0) || y3))] (.box 186 (zb x0.board [.os 1, .os 2, .os 3, .os 4, I x0.time]) :: zp x0.power []) hC [] ?_
 rcases bC (((y1.State != 0) || y3)) with h5 | h5
 ·replace h := cT h5 h
  cases h
 ·replace h := cF h5 h
  obtain ⟨y6, h7, h⟩ := bE h
  obtain ⟨y8, h9, h⟩ := bE h
  refine ws [0, 1, 4, 5, 23, 43] 28 [false] [pr q139 h7, pv e221s0 (fun hg => k221s0 x0 x1 _ (gg h9 hg))] [] 5 n6_ [(0, dO 0 0), (1, dI x1), (4, dI 0), (5, dO 5 0), (43, dB ((y6.Start == 0) && y8))] (.box 186 (zb x0.board [.os 1, .os 2, .os 3, .os 4, I x0.time]) :: zp x0.power [.box 120 [I 1, I x0.time, I 5000, I 0]]) hC [pq h5] ?_
  rcases bC (((y6.Start == 0) && y8)) with h10 | h10
  ·replace h := cT h10 h
   obtain ⟨y11, h12, h⟩ := bE h
   replace h := sI h
   subst h
   exact wr [0, 1, 4, 5, 23, 43] 27 [true] [pr q120 h2, pu q120 h2 h12] [] [.tmp 4] 5 n5_ hC [pq h10]
  ·replace h := cF h10 h
   cases h
theorem e185s1 : EN 185 := en Tryz.func185
def lv205s1 : List Nat := [0, 1, 2, 3, 4, 5, 7, 12, 20]
theorem k205s1 (x0 : shed_relief) (x1 : api_Breaker) (r : Bool × shed_relief) (h : F205s1 x0 x1 = some r) : CO 205 [.d (.o 0 0), .agg (d147 x1)] (.box 235 (zb x0.board [.os 1, .os 2, .os 3, .os 4, .os 5]) :: zp x0.power [v6_ x0.acts]) (.d (Bo r.1)) (.box 235 (zb r.2.board [.os 1, .os 2, .os 3, .os 4, .os 5]) :: zp r.2.power [v6_ r.2.acts]) := by
 unfold F205s1 at h
 refine co 45 Tryz.func205 fun C hC => ?_
 obtain ⟨y1, h2, h⟩ := bE h
 refine ws lv205s1 29 [] [pc e231s0 (k231s0 3 x1.A x0 _ h2) [6, 0, 1, 2, 3, 4, 5]] [] 6 n8_ [(2, dO 6 0), (3, dO 7 0), (4, dB false), (5, .d (.fn (.func 231) [] [.o 6 0])), (7, dB y1.1)] (.box 235 (zb y1.2.board [.os 1, .os 2, .os 3, .os 4, .os 5]) :: zp y1.2.power [v6_ y1.2.acts, .box 211 [.o 0 0], .box 147 (d147 x1)]) hC [] ?_
 rcases bC (y1.1) with h3 | h3
 ·replace h := cT h3 h
  cases h
 ·replace h := cF h3 h
  rcases bC ((x1.Kind == 1)) with h4 | h4
  ·replace h := cT h4 h
   cases h
  ·replace h := cF h4 h
   rcases bC ((x1.Kind == 2)) with h5 | h5
   ·replace h := cT h5 h
    obtain ⟨y6, h7, h⟩ := bE h
    obtain ⟨y8, h9, h⟩ := bE h
    replace h := sI h
    subst h
    exact wr lv205s1 30 [false, false, true] [pc e231s0 (k231s0 1 x1.B y1.2 _ h7) [6, 0, 1, 2, 3, 4, 5], pR q120 h9, pN q120 h9] [] [.tmp 4] 6 n6_ hC [pq h3, pq h4, pq h5]
   ·replace h := cF h5 h
    obtain ⟨y10, h11, h⟩ := bE h
    replace h := sI h
    subst h
    exact wr lv205s1 32 [false, false, false] [pc e231s0 (k231s0 4 x1.B y1.2 _ h11) [6, 0, 1, 2, 3, 4, 5]] [] [.tmp 4] 6 n6_ hC [pq h3, pq h4, pq h5]
theorem e205s1 : EN 205 := en Tryz.func205
def lv208s1 : List Nat := [0, 1, 4, 5, 6, 7, 12, 19, 29]
def st208s1_0 (y1 : Int × api_Island) (z0 : Unit) : St := [(0, dS 0), (1, .d (.fn (.func 209) [] [.o 1 0])), (4, .d (DS pI [])), (5, dI y1.1), (6, dI (w64 (y1.1 + 1)))]
def R208s1_0 (x0 : List Int) (y1 : Int × api_Island) (z0 : Unit) : List Res := [v0_ x0, .box 84 (d84 y1.2)]
def sa208s1_0 (y1 : Int × api_Island) (z0 : Unit) : St := [(0, dS 0), (4, .d (DS pI [])), (5, dI y1.1)]
def Ra208s1_0 (x0 : List Int) (y1 : Int × api_Island) (z0 : Unit) : List Res := [v0_ x0, .box 84 (d84 y1.2)]
theorem k208s1 (x0 : List Int) (x1c0 : api_Island) (r : (List Int) × api_Island) (h : F208s1 x0 x1c0 = some r) : CO 208 [.d (.os 0), .d (.fn (.func 209) [] [.o 1 0])] [.sl 3 1 (x0.map pI), .box 84 (d84 x1c0)] (.d (.os 2)) [.non, .box 84 (d84 r.2), .sl 3 1 (r.1.map pI)] := by
 unfold F208s1 at h
 refine co 42 Tryz.func208 fun C hC => ?_
 obtain ⟨y1, h2, h⟩ := bE h
 refine ws lv208s1 28 [] [pc e158s3 (k158s3 x0 x1c0 _ h2) [0, 1]] [] 2 [0, 1] [(0, dS 0), (1, .d (.fn (.func 209) [] [.o 1 0])), (4, .d (DS pI [])), (5, dI y1.1), (12, dB (y1.1 == (-1)))] [v0_ x0, .box 84 (d84 y1.2)] hC [] ?_
 rcases bC ((y1.1 == (-1))) with h3 | h3
 ·replace h := cT h3 h
  replace h := sI h
  subst h
  exact wr lv208s1 24 [true] [] [.mv 0] [.tmp 4] 2 n3_ hC [pq h3]
 ·replace h := cF h3 h
  refine ws lv208s1 26 [false] [] [] 2 [0, 1] (st208s1_0 y1 ()) (R208s1_0 x0 y1 ()) hC [pq h3] ?_
  obtain ⟨w0, hm0, hret0, hnext0⟩ := aIn h
  clear h
  refine wc w0 (sa208s1_0 y1) (Ra208s1_0 x0 y1) ?_ fun z0 hs0 => ?_
  ·refine wb ?_
   refine wW (by kernel_rfl) (F208s1_l0 x0 y1) (st208s1_0 y1) (R208s1_0 x0 y1) w0 1152921504606846976 () hm0 rfl rfl fun z0 w0b h hb0 hr0 => ?_
   unfold F208s1_l0 at h
   rcases bC ((c208s1_1 x0 y1)) with h4 | h4
   ·replace h := cT h4 h
    cases h
   ·replace h := cF h4 h
    exact wx w0 (sa208s1_0 y1) (Ra208s1_0 x0 y1) lv208s1 26 [false] [pl pI x0] [] 2 [0, 1] () hC [pq h4] (hb0 _ (sI h).symm)
  ·have h := hnext0 _ hs0
   obtain ⟨u6, h5, h⟩ := bE h
   obtain ⟨u8, h7, h⟩ := bE h
   replace h := sI h
   subst h
   (rw [List.map_take]; exact WI_ret (bs := []) mixed lv208s1 25 [] [.bnd (x0.map pI).length y1.1 (((x0.map pI).length : Nat) : Int) (ln x0), .eqr ((x0.map pI).take (Int.toNat y1.1) ++ (List.replicate ((Int.toNat (ln x0)) - (Int.toNat y1.1)) (pI 0) ++ (x0.map pI).drop ((Int.toNat y1.1) + ((Int.toNat (ln x0)) - (Int.toNat y1.1))))) ((clrI x0 (Int.toNat y1.1) ((Int.toNat (ln x0)) - (Int.toNat y1.1)) 0).map pI), .bnd ((clrI x0 (Int.toNat y1.1) ((Int.toNat (ln x0)) - (Int.toNat y1.1)) 0).map pI).length 0 y1.1 y1.1] [.trunc 4] [.tmp 4] 2 n3_ rfl hC ⟨bnd_get (by simp) (by simp) h5, clr_get pI rfl, bnd_get (by simp) rfl h7, trivial⟩ trivial (by kernel_rfl))
theorem e208s1 : EN 208 := en Tryz.func208
def lv54 : List Nat := [0, 1, 2, 3, 4, 6, 7, 8, 9, 10, 11, 12, 13, 14, 28, 37, 38, 39, 54, 64, 65, 66, 81]
def st54_0 (x0 : api_Board) (z0 : Int × (List Int)) : St := [(3, dO 0 0), (4, dO 1 0), (6, dO 2 0), (7, dB false), (8, dO 7 0), (37, dI (ln x0.Sources)), (38, dI z0.1)]
def R54_0 (x0 : api_Board) (x1 : api_Power) (y4 : (List Int)) (z0 : Int × (List Int)) : List Res := [.box 29 (d29 x0), .box 36 (d36 x1), .box 84 [.os 3, .os 4, .os 5], v0_ ([] : List Int), v0_ ([] : List Int), v0_ ([] : List Int), v0_ y4, .box 84 [.os 6, .os 8, .os 9], v0_ z0.2, v0_ ([] : List Int)]
def sa54_0  (z0 : Int × (List Int)) : St := [(3, dO 0 0), (4, dO 1 0), (6, dO 2 0), (7, dB false), (8, dO 7 0)]
def Ra54_0 (x0 : api_Board) (x1 : api_Power) (y4 : (List Int)) (z0 : Int × (List Int)) : List Res := [.box 29 (d29 x0), .box 36 (d36 x1), .box 84 [.os 3, .os 4, .os 5], v0_ ([] : List Int), v0_ ([] : List Int), v0_ ([] : List Int), v0_ y4, .box 84 [.os 6, .os 8, .os 9], v0_ z0.2, v0_ ([] : List Int)]
def st54_1 (x0 : api_Board) (z1 : Int × (List Int)) : St := [(3, dO 0 0), (4, dO 1 0), (6, dO 2 0), (7, dB false), (8, dO 7 0), (64, dI (ln x0.Consumers)), (65, dI z1.1)]
def R54_1 (x0 : api_Board) (x1 : api_Power) (y4 : (List Int)) (z0 : Int × (List Int)) (z1 : Int × (List Int)) : List Res := [.box 29 (d29 x0), .box 36 (d36 x1), .box 84 [.os 3, .os 4, .os 5], v0_ ([] : List Int), v0_ ([] : List Int), v0_ ([] : List Int), v0_ y4, .box 84 [.os 6, .os 8, .os 9], v0_ z0.2, v0_ z1.2]
def sa54_1  (z1 : Int × (List Int)) : St := [(6, dO 0 0), (7, dB false), (8, dO 5 0)]
def Ra54_1 (y4 : (List Int)) (z0 : Int × (List Int)) (z1 : Int × (List Int)) : List Res := [.box 84 [.os 1, .os 2, .os 3], v0_ ([] : List Int), v0_ ([] : List Int), v0_ ([] : List Int), v0_ y4, .box 84 [.os 4, .os 6, .os 7], v0_ z0.2, v0_ z1.2]
theorem k54 (x0 : api_Board) (x1 : api_Power) (x2 : Int) (r : api_Island × Bool) (h : F54 x0 x1 x2 = some r) : CO 54 [.agg (d29 x0), .agg (d36 x1), .d (I x2)] [] (.tup [.agg [.os 0, .os 1, .os 2], .d (Bo r.2)]) [v0_ r.1.Buses, v0_ r.1.Sources, v0_ r.1.Consumers] := by
 unfold F54 at h
 refine co 90 Tryz.func54 fun C hC => ?_
 obtain ⟨y1, h2, h⟩ := bE h
 refine ws lv54 26 [] [pc e53 (k53 x0 x1 _ h2) []] [.ownb 2 0 3 1, .ownb 2 1 3 1, .ownb 2 2 3 1] 0 n6_ [(2, dI x2), (3, dO 0 0), (4, dO 1 0), (6, dO 2 0), (7, dB false), (28, dB (c54_0 x0 x2 y1))] [.box 29 (d29 x0), .box 36 (d36 x1), .box 84 [.os 3, .os 4, .os 5], v0_ ([] : List Int), v0_ ([] : List Int), v0_ ([] : List Int)] hC [] ?_
 rcases bC ((c54_0 x0 x2 y1)) with h3 | h3
 ·replace h := cT h3 h
  replace h := sI h
  subst h
  exact wr lv54 24 [true] [] [.ownb 2 0 3 1, .ownb 2 1 3 1, .ownb 2 2 3 1] [.cell 6 84, .tmp 7] 0 [6, 7, 8] hC [pq h3]
 ·replace h := cF h3 h
  obtain ⟨y4, h5, h⟩ := bE h
  refine ws lv54 28 [false] [pc e114 (k114 x0 x1 x2 _ h5) [], pl q139 x0.Sources] [.ownb 7 1 3 1, .ownb 7 2 3 1] 0 n10_ (st54_0 x0 (0, ([] : List Int))) (R54_0 x0 x1 y4 (0, ([] : List Int))) hC [pq h3] ?_
  obtain ⟨w0, hm0, hret0, hnext0⟩ := aIn h
  clear h
  refine wc w0 (sa54_0) (Ra54_0 x0 x1 y4) ?_ fun z0 hs0 => ?_
  ·refine wb ?_
   refine wW (by kernel_rfl) (F54_l0 x0 x1 y4) (st54_0 x0) (R54_0 x0 x1 y4) w0 1152921504606846976 (0, ([] : List Int)) hm0 rfl rfl fun z0 w0b h hb0 hr0 => ?_
   unfold F54_l0 at h
   rcases bC ((c54_2 x0 z0)) with h6 | h6
   ·replace h := cT h6 h
    obtain ⟨y7, h8, h⟩ := bE h
    obtain ⟨y9, h10, h⟩ := bE h
    refine ws lv54 34 [true] [pc e27 (k27 x0 x1 z0.1 _ h8) [], pv e55 (fun hg => k55 y4 y7.1 _ (gg h10 hg))] [] 0 n10_ [(3, dO 0 0), (4, dO 1 0), (6, dO 2 0), (7, dB false), (8, dO 7 0), (9, dI z0.1), (37, dI (ln x0.Sources)), (38, dI z0.1), (54, dB (y7.2 && y9))] [.box 29 (d29 x0), .box 36 (d36 x1), .box 84 [.os 3, .os 4, .os 5], v0_ ([] : List Int), v0_ ([] : List Int), v0_ ([] : List Int), v0_ y4, .box 84 [.os 6, .os 8, .os 9], v0_ z0.2, v0_ ([] : List Int)] hC [pq h6] ?_
    rcases bC ((y7.2 && y9)) with h11 | h11
    ·replace h := cT h11 h
     obtain ⟨y12, h13, h⟩ := bE h
     exact wx w0b (st54_0 x0) (R54_0 x0 x1 y4) lv54 25 [true] [pa pI 1 h13] [] 0 [0, 1, 2, 3, 4, 5, 6, 7, 10, 9] (w64 (z0.1 + 1), y12) hC [pq h11] (sI h).symm
    ·replace h := cF h11 h
     exact wx w0b (st54_0 x0) (R54_0 x0 x1 y4) lv54 25 [false] [] [] 0 n10_ (w64 (z0.1 + 1), z0.2) hC [pq h11] (sI h).symm
   ·replace h := cF h6 h
    exact wx w0 (sa54_0) (Ra54_0 x0 x1 y4) lv54 26 [false] [] [] 0 n10_ (z0.1, z0.2) hC [pq h6] (hb0 _ (sI h).symm)
  ·have h := hnext0 _ hs0
   refine ws lv54 24 [] [pl q65 x0.Consumers] [] 0 n10_ (st54_1 x0 (0, ([] : List Int))) (R54_1 x0 x1 y4 z0 (0, ([] : List Int))) hC [] ?_
   obtain ⟨w1, hm1, hret1, hnext1⟩ := aIn h
   clear h
   refine wc w1 (sa54_1) (Ra54_1 y4 z0) ?_ fun z1 hs1 => ?_
   ·refine wb ?_
    refine wW (by kernel_rfl) (F54_l1 x0 x1 y4) (st54_1 x0) (R54_1 x0 x1 y4 z0) w1 1152921504606846976 (0, ([] : List Int)) hm1 rfl rfl fun z1 w1b h hb1 hr1 => ?_
    unfold F54_l1 at h
    rcases bC ((c54_4 x0 z1)) with h14 | h14
    ·replace h := cT h14 h
     obtain ⟨y15, h16, h⟩ := bE h
     obtain ⟨y17, h18, h⟩ := bE h
     refine ws lv54 34 [true] [pc e48 (k48 x0 x1 z1.1 _ h16) [], pv e55 (fun hg => k55 y4 y15.1 _ (gg h18 hg))] [] 0 n10_ [(3, dO 0 0), (4, dO 1 0), (6, dO 2 0), (7, dB false), (8, dO 7 0), (12, dI z1.1), (64, dI (ln x0.Consumers)), (65, dI z1.1), (81, dB (y15.2 && y17))] [.box 29 (d29 x0), .box 36 (d36 x1), .box 84 [.os 3, .os 4, .os 5], v0_ ([] : List Int), v0_ ([] : List Int), v0_ ([] : List Int), v0_ y4, .box 84 [.os 6, .os 8, .os 9], v0_ z0.2, v0_ z1.2] hC [pq h14] ?_
     rcases bC ((y15.2 && y17)) with h19 | h19
     ·replace h := cT h19 h
      obtain ⟨y20, h21, h⟩ := bE h
      exact wx w1b (st54_1 x0) (R54_1 x0 x1 y4 z0) lv54 25 [true] [pa pI 1 h21] [] 0 [0, 1, 2, 3, 4, 5, 6, 7, 8, 10] (w64 (z1.1 + 1), y20) hC [pq h19] (sI h).symm
     ·replace h := cF h19 h
      exact wx w1b (st54_1 x0) (R54_1 x0 x1 y4 z0) lv54 25 [false] [] [] 0 n10_ (w64 (z1.1 + 1), z1.2) hC [pq h19] (sI h).symm
    ·replace h := cF h14 h
     exact wx w1 (sa54_1) (Ra54_1 y4 z0) lv54 26 [false] [] [] 0 [2, 3, 4, 5, 6, 7, 8, 9] (z1.1, z1.2) hC [pq h14] (hb1 _ (sI h).symm)
   ·have h := hnext1 _ hs1
    replace h := sI h
    subst h
    exact wr lv54 23 [] [] [] [.cell 6 84, .tmp 7] 0 [4, 6, 7] hC []
theorem e54 : EN 54 := en Tryz.func54
def st14_0  (z0 : Sg6) : St := [(0, dO 0 0), (4, dO 1 0), (5, dO 2 0), (6, dI z0.1)]
def R14_0 (y1 : Int × dynposmake_Src) (y3 : Int × dynposmake_Src) (z0 : Sg6) : List Res := [.box 90 [DS pI z0.2.1, I z0.2.2.1], .box 57 [I 0, I 0, .os 3], .box 57 [I y1.1, I y3.1, .os 4], v12_ ([] : List api_Thruster), v12_ (g3z_ z0)]
def sa14_0  (z0 : Sg6) : St := [(4, dO 1 0), (5, dO 2 0)]
def Ra14_0 (y1 : Int × dynposmake_Src) (y3 : Int × dynposmake_Src) (z0 : Sg6) : List Res := [.box 90 [DS pI z0.2.1, I z0.2.2.1], .box 57 [I 0, I 0, .os 3], .box 57 [I y1.1, I y3.1, .os 4], v12_ ([] : List api_Thruster), v12_ (g3z_ z0)]
theorem k14 (x0 : dynposmake_Src) (x1 : Int) (r : api_Ship × dynposmake_Src) (h : F14 x0 x1 = some r) : CO 14 [.d (.o 0 0), .d (I x1)] [.box 90 (d90 x0)] (.agg [I r.1.Bow, I r.1.Stern, .os 1]) [.box 90 (d90 r.2), v12_ r.1.Thrusters] := by
 unfold F14 at h
 refine co 30 Tryz.func14 fun C hC => ?_
 obtain ⟨y1, h2, h⟩ := bE h
 obtain ⟨y3, h4, h⟩ := bE h
 obtain ⟨y5, h6, h⟩ := bE h
 refine ws [0, 1, 4, 5, 6, 19] 28 [] [pc e40 (k40 x0 [0, 1, 30, 60] _ h2) [0], pc e40 (k40 y1.2 [1, 25, 40] _ h4) [0], pc e32 (k32 y3.2 (w64 (x1 + 1)) _ h6) [0]] [.ownb 1 2 63 6, .ownb 2 2 63 6] 1 n5_ (st14_0 (y5.1, y5.2.L, y5.2.At, ([] : List api_Thruster))) (R14_0 y1 y3 (y5.1, y5.2.L, y5.2.At, ([] : List api_Thruster))) hC [] ?_
 obtain ⟨w0, hm0, hret0, hnext0⟩ := aIn h
 clear h
 refine wc w0 (sa14_0) (Ra14_0 y1 y3) ?_ fun z0 hs0 => ?_
 ·refine wb ?_
  refine wW (by kernel_rfl) F14_l0 (st14_0) (R14_0 y1 y3) w0 1152921504606846976 (y5.1, y5.2.L, y5.2.At, ([] : List api_Thruster)) hm0 rfl rfl fun z0 w0b h hb0 hr0 => ?_
  unfold F14_l0 at h
  rcases bC (decide (z0.1 > 0)) with h7 | h7
  ·replace h := cT h7 h
   obtain ⟨y10, h11, h⟩ := bE h
   obtain ⟨y12, h13, h⟩ := bE h
   exact wx w0b (st14_0) (R14_0 y1 y3) [0, 1, 4, 5, 6, 19] 31 [true] [⟨.call 41 [dO 0 0] [.box 90 [DS pI z0.2.1, I z0.2.2.1]] (.agg (d63 y10.1)) [.box 90 (d90 y10.2), .non] [0], ⟨e41, (CK.frzAll [1] (show CO 41 [dO 0 0] [.box 90 [DS pI z0.2.1, I z0.2.2.1]] (.agg [I y10.1.Kind, I y10.1.Station, I y10.1.Max, I y10.1.Rate, I y10.1.Cost, .os 1]) [.box 90 (d90 y10.2), .sl 159 2 (y10.1.Forbidden.map q159)] from (k41 (⟨z0.2.1, z0.2.2.1⟩ : dynposmake_Src) _ h11)) (by kernel_rfl))⟩⟩, pa q63 6 h13] [] 1 [0, 1, 2, 3, 6] (w64 (z0.1 - 1), y10.2.L, y10.2.At, y12) hC [pq h7] (sI h).symm
  ·replace h := cF h7 h
   exact wx w0 (sa14_0) (Ra14_0 y1 y3) [0, 1, 4, 5, 6, 19] 26 [false] [] [] 1 n5_ (z0.1, z0.2.1, z0.2.2.1, (g3z_ z0)) hC [pq h7] (hb0 _ (sI h).symm)
 ·have h := hnext0 _ hs0
  replace h := sI h
  subst h
  exact wr [0, 1, 4, 5, 6, 19] 23 [] [] [] [.cell 4 57] 1 [0, 4] hC []
theorem e14 : EN 14 := en Tryz.func14
theorem k149s0 (x0 : List api_Arc) (r : Bool) (h : F149s0 x0 = some r) : CO 149 [.d (DS q159 x0), .d (.fn (.func 150) [] [])] [] (.d (Bo r)) [] := by
 unfold F149s0 at h
 refine co 9 Tryz.func149 fun C hC => ?_
 obtain ⟨y1, h2, h⟩ := bE h
 replace h := sI h
 subst h
 exact wr [0, 1, 4] 25 [] [pc e196s0 (k196s0 x0 _ h2) []] [] [.tmp 4] 0 [] hC []
theorem e149s0 : EN 149 := en Tryz.func149
def lv43 : List Nat := [0, 1, 2, 3, 4, 5, 6, 7, 8, 12, 38, 50, 51, 52, 53, 77]
def st43_0 (x1 : api_Power) (n0 : Nat) (z0 : Bool) : St := [(2, dO 0 0), (3, dO 1 0), (4, dI 0), (6, dB z0), (50, .d (DS pI x1.Limits)), (51, dI (ln x1.Limits)), (52, dI (cnt 0 n0))]
def R43_0 (x0 : api_Board) (x1 : api_Power) (n0 : Nat) (z0 : Bool) : List Res := [.box 29 (d29 x0), .box 36 (d36 x1)]
def sa43_0  (z0 : Bool) : St := [(4, dI 0), (6, dB z0)]
def Ra43_0  (z0 : Bool) : List Res := []
theorem k43 (x0 : api_Board) (x1 : api_Power) (r : Int) (h : F43 x0 x1 = some r) : CO 43 [.agg (d29 x0), .agg (d36 x1)] [] (.d (I r)) [] := by
 unfold F43 at h
 refine co 78 Tryz.func43 fun C hC => ?_
 obtain ⟨y1, h2, h⟩ := bE h
 rcases bC ((y1 != 0)) with h3 | h3
 ·replace h := cT h3 h
  replace h := sI h
  subst h
  exact wr lv43 31 [true] [pc e85 (k85 x0 _ h2) []] [] [.tmp 4] 0 [] hC [pq h3]
 ·replace h := cF h3 h
  refine ws lv43 33 [false] [pc e85 (k85 x0 _ h2) [], pl pB x1.Closed, pl q147 x0.Breakers, pL_ [(((ln x1.Closed) != (ln x0.Breakers)), false)] q120 x1.Sources, pL_ [(((ln x1.Closed) != (ln x0.Breakers)), false)] q139 x0.Sources, pL_ [((((ln x1.Closed) != (ln x0.Breakers)) || ((ln x1.Sources) != (ln x0.Sources))), false)] pI x1.Limits, pL_ [((((ln x1.Closed) != (ln x0.Breakers)) || ((ln x1.Sources) != (ln x0.Sources))), false)] q65 x0.Consumers] [] 0 [0, 1] [(2, dO 0 0), (3, dO 1 0), (4, dI 0), (38, dB (c43_0 x0 x1))] [.box 29 (d29 x0), .box 36 (d36 x1)] hC [pq h3] ?_
  rcases bC ((c43_0 x0 x1)) with h4 | h4
  ·replace h := cT h4 h
   replace h := sI h
   subst h
   exact wr lv43 24 [true] [] [] [.tmp 4] 0 [] hC [pq h4]
  ·replace h := cF h4 h
   obtain ⟨y5, h6, h⟩ := bE h
   obtain ⟨y7, h8, h⟩ := bE h
   refine ws lv43 28 [false] [pc e95 (k95 x0 x1.Broken _ h6) [], pw e96s0 (fun hg => k96s0 x1.Sources _ (gg h8 hg)) [], pl pI x1.Limits] [] 0 [0, 1] (st43_0 x1 0 (y5 && (!y7))) (R43_0 x0 x1 0 (y5 && (!y7))) hC [pq h4] ?_
   obtain ⟨w0, hm0, hret0, hnext0⟩ := aIn h
   clear h
   refine wc w0 (sa43_0) (Ra43_0) ?_ fun z0 hs0 => ?_
   ·refine wb ?_
    refine wL 50 rfl fun hl0 => ?_
    refine wF (by kernel_rfl) (F43_l0 x0 x1) (st43_0 x1) (R43_0 x0 x1) w0 x1.Limits (y5 && (!y7)) hm0 rfl rfl (fun z0 hn0 => ?_) fun n0 a0 z0 w0b hi0 hx0 h hb0 hr0 => ?_
    ·clear hm0
     exact wx w0 (sa43_0) (Ra43_0) lv43 26 [false] [] [] 0 [] z0 hC [pq (cE hl0)] hn0
    ·unfold F43_l0 at h
     obtain ⟨y9, h10, h⟩ := bE h
     obtain ⟨y11, h12, h⟩ := bE h
     exact wx w0b (st43_0 x1 (n0 + 1)) (R43_0 x0 x1 (n0 + 1)) lv43 33 [true] [pt hx0 hl0, pR q65 h10, ⟨.when [(z0, true)] (.call 99 [dI a0, dI 0, dI y9.Load] [] (dB (F99 a0 0 y9.Load)) [] []), fun hg => ⟨e99, (k99 a0 0 y9.Load _ rfl)⟩⟩, pw e100 (fun hg => k100 x0 x1 (cnt 0 n0) _ (gg h12 hg)) []] [] 0 [0, 1] ((z0 && (F99 a0 0 y9.Load)) && (decide (y11 <= 1))) hC [pq (cL hi0 hl0)] (sI h).symm
   ·have h := hnext0 _ hs0
    rcases bC (!z0) with h13 | h13
    ·replace h := cT h13 h
     replace h := sI h
     subst h
     exact wr lv43 27 [true] [] [] [.tmp 4] 0 [] hC [pq h13]
    ·replace h := cF h13 h
     replace h := sI h
     subst h
     exact wr lv43 28 [false] [] [] [.tmp 4] 0 [] hC [pq h13]
theorem e43 : EN 43 := en Tryz.func43
def lv36 : List Nat := [0, 1, 2, 3, 4, 5, 6, 7, 9, 12, 17, 41, 42, 43, 44]
def st36_0 (x0 : api_Board) (n0 : Nat) (z0 : (List Int)) : St := [(4, dO 0 0), (5, dI 0), (7, dO 8 0), (41, .d (DS q65 x0.Consumers)), (42, dI (ln x0.Consumers)), (43, dI (cnt 0 n0))]
def R36_0 (y5 : (List api_Roster)) (y7 : List Bool) (y9 : (List api_Running)) (n0 : Nat) (z0 : (List Int)) : List Res := (.box 40 [I 0, .os 1, .os 2, .os 3, .os 4, .os 5, .os 6] :: ze [v5_ ([] : List api_Roster), v1_ ([] : List api_Event), v5_ y5, .box 40 [I 0, .os 9, .os 10, .os 11, .os 12, .os 7, .os 13], v2_ y7, v3_ y9, v0_ z0, v4_ ([] : List api_Part), v1_ ([] : List api_Event)])
def sa36_0  (z0 : (List Int)) : St := [(4, dO 0 0), (5, dI 0), (7, dO 8 0)]
def Ra36_0 (y5 : (List api_Roster)) (y7 : List Bool) (y9 : (List api_Running)) (z0 : (List Int)) : List Res := (.box 40 [I 0, .os 1, .os 2, .os 3, .os 4, .os 5, .os 6] :: ze [v5_ ([] : List api_Roster), v1_ ([] : List api_Event), v5_ y5, .box 40 [I 0, .os 9, .os 10, .os 11, .os 12, .os 7, .os 13], v2_ y7, v3_ y9, v0_ z0, v4_ ([] : List api_Part), v1_ ([] : List api_Event)])
theorem k36 (x0 : api_Board) (x1 : api_Table) (r : api_Plant × Int) (h : F36 x0 x1 = some r) : CO 36 [.agg (d29 x0), .agg (d31 x1)] [] (.tup [.agg [I r.1.Time, .os 0, .os 1, .os 2, .os 3, .os 4, .os 5], .d (I r.2)]) (zp r.1.Power [v5_ r.1.Rosters, v1_ r.1.Events]) := by
 unfold F36 at h
 refine co 58 Tryz.func36 fun C hC => ?_
 obtain ⟨y1, h2, h⟩ := bE h
 rcases bC ((y1 != 0)) with h3 | h3
 ·replace h := cT h3 h
  cases h
 ·replace h := cF h3 h
  refine ws lv36 32 [false] [pc e85 (k85 x0 _ h2) [], pc e59 (k59 x1 _ rfl) []] [.ownb 2 1 4 1, .ownb 2 2 120 4, .ownb 2 3 3 1, .ownb 2 4 86 2, .ownb 2 5 130 2, .ownb 2 6 51 5] 0 [0, 2, 3, 4, 5, 6, 7, 8] [(2, dO 0 0), (4, dO 1 0), (5, dI 0), (17, dB (!(F59 x1)))] (.box 29 (d29 x0) :: .box 40 [I 0, .os 2, .os 3, .os 4, .os 5, .os 6, .os 7] :: ze [v5_ ([] : List api_Roster), v1_ ([] : List api_Event)]) hC [pq h3] ?_
  rcases bC (!(F59 x1)) with h4 | h4
  ·replace h := cT h4 h
   cases h
  ·replace h := cF h4 h
   obtain ⟨y5, h6, h⟩ := bE h
   obtain ⟨y7, h8, h⟩ := bE h
   obtain ⟨y9, h10, h⟩ := bE h
   refine ws lv36 33 [false] [pc e86 (k86 x0.Buses _ h6) [], pl q147 x0.Breakers, ⟨.room ((ln x0.Breakers) * (1 + 1)) (List.replicate (Int.toNat (ln x0.Breakers)) (pB false)) (y7.map pB), make_get h8⟩, pl q139 x0.Sources, pc e87 (k87 [(⟨0, 0, 5000, 0⟩ : api_Running)] (ln x0.Sources) _ h10) [], pl q65 x0.Consumers] [.ownb 9 3 3 1, .ownb 9 4 86 2, .ownb 9 6 51 5] 0 [1, 2, 3, 4, 5, 6, 7, 8, 9, 10, 11, 12, 13, 14] (st36_0 x0 0 ([] : List Int)) (R36_0 y5 y7 y9 0 ([] : List Int)) hC [pq h4] ?_
   obtain ⟨w0, hm0, hret0, hnext0⟩ := aIn h
   clear h
   refine wc w0 (sa36_0) (Ra36_0 y5 y7 y9) ?_ fun z0 hs0 => ?_
   ·refine wb ?_
    refine wL 41 rfl fun hl0 => ?_
    refine wF (by kernel_rfl) F36_l0 (st36_0 x0) (R36_0 y5 y7 y9) w0 x0.Consumers ([] : List Int) hm0 rfl rfl (fun z0 hn0 => ?_) fun n0 a0 z0 w0b hi0 hx0 h hb0 hr0 => ?_
    ·clear hm0
     exact wx w0 (sa36_0) (Ra36_0 y5 y7 y9) lv36 26 [false] [] [] 0 n14_ z0 hC [pq (cE hl0)] hn0
    ·unfold F36_l0 at h
     obtain ⟨y11, h12, h⟩ := bE h
     exact wx w0b (st36_0 x0 (n0 + 1)) (R36_0 y5 y7 y9 (n0 + 1)) lv36 33 [true] [pt hx0 hl0, pa pI 1 h12] [] 0 [0, 1, 2, 3, 4, 5, 6, 7, 8, 9, 10, 15, 12, 13] y11 hC [pq (cL hi0 hl0)] (sI h).symm
   ·have h := hnext0 _ hs0
    replace h := sI h
    subst h
    exact wr lv36 23 [] [] [] [.cell 4 40, .tmp 5] 0 [9, 10, 11, 12, 7, 13] hC []
theorem e36 : EN 36 := en Tryz.func36
def lv204s1 : List Nat := [0, 1, 4, 5, 6, 8, 13, 14, 15, 16, 32, 38, 39, 40, 41]
def st204s1_0 (x0 : shed_relief) (n0 : Nat) (z0 : Sg8) : St := [(0, dO 0 0), (1, .d (.fn (.func 205) [.o 0 0] [])), (4, dS 6), (13, .d (DS q147 x0.board.Breakers)), (14, dI (ln x0.board.Breakers)), (15, dI (cnt 0 n0))]
def R204s1_0  (n0 : Nat) (z0 : Sg8) : List Res := [.box 235 [I z0.1, DS q147 z0.2.1, DS q139 z0.2.2.1, DS q65 (g3_ z0), I (g4_ z0), I (g5_ z0), .os 7, .os 8, .os 9, .os 10, .os 11], .non, .non, .non, .non, .non, v0_ (g6_ z0), v2_ (g7_ z0), v3_ (g8_ z0), v0_ (g9_ z0), v4_ (g10_ z0), v6_ (g11z_ z0)]
def sa204s1_0  (z0 : Sg8) : St := [(0, dO 0 0), (4, dS 6)]
def Ra204s1_0  (z0 : Sg8) : List Res := [.box 235 [I z0.1, DS q147 z0.2.1, DS q139 z0.2.2.1, DS q65 (g3_ z0), I (g4_ z0), I (g5_ z0), .os 7, .os 8, .os 9, .os 10, .os 11], .non, .non, .non, .non, .non, v0_ (g6_ z0), v2_ (g7_ z0), v3_ (g8_ z0), v0_ (g9_ z0), v4_ (g10_ z0), v6_ (g11z_ z0)]
def st204s1_1 (z0 : Sg8) (n1 : Nat) (z1 : Sg7) : St := [(0, dO 0 0), (38, dS 6), (39, dI (ln (g6_ z0))), (40, dI (cnt 0 n1))]
def R204s1_1 (z0 : Sg8) (n1 : Nat) (z1 : Sg7) : List Res := [.box 235 [I z1.1, DS q147 z1.2.1, DS q139 z1.2.2.1, DS q65 (g3_ z1), I (g4_ z1), I (g5_ z1), .os 7, .os 8, .os 9, .os 10, .os 11], .non, .non, .non, .non, .non, v0_ (g6_ z0), v2_ (g6_ z1), v3_ (g7_ z1), v0_ (g8_ z1), v4_ (g9_ z1), v6_ (g10z_ z1)]
def sa204s1_1  (z1 : Sg7) : St := []
def Ra204s1_1  (z1 : Sg7) : List Res := [.box 235 [I z1.1, DS q147 z1.2.1, DS q139 z1.2.2.1, DS q65 (g3_ z1), I (g4_ z1), I (g5_ z1), .os 6, .os 7, .os 8, .os 9, .os 10], .non, .non, .non, .non, .non, v2_ (g6_ z1), v3_ (g7_ z1), v0_ (g8_ z1), v4_ (g9_ z1), v6_ (g10z_ z1)]
theorem k204s1 (x0 : shed_relief) (r : shed_relief) (h : F204s1 x0 = some r) : CO 204 [.d (.o 0 0), .d (.fn (.func 205) [.o 0 0] [])] (.box 235 (zb x0.board [.os 1, .os 2, .os 3, .os 4, .os 5]) :: zp x0.power [v6_ x0.acts]) (.tup []) (.box 235 (zb r.board [.os 6, .os 7, .os 8, .os 9, .os 10]) :: .non :: .non :: .non :: .non :: .non :: zp r.power [v6_ r.acts]) := by
 unfold F204s1 at h
 refine co 48 Tryz.func204 fun C hC => ?_
 refine ws lv204s1 26 [] [pl q147 x0.board.Breakers] [.own 4 3 1, .mv 1, .mv 2, .mv 3, .mv 4, .mv 5] 6 n12_ (st204s1_0 x0 0 (zt x0.board (([] : List Int), zu x0.power x0.acts))) (R204s1_0 0 (zt x0.board (([] : List Int), zu x0.power x0.acts))) hC [] ?_
 obtain ⟨w0, hm0, hret0, hnext0⟩ := aIn h
 clear h
 refine wc w0 (sa204s1_0) (Ra204s1_0) ?_ fun z0 hs0 => ?_
 ·refine wb ?_
  refine wL 13 rfl fun hl0 => ?_
  refine wF (by kernel_rfl) F204s1_l0 (st204s1_0 x0) (R204s1_0) w0 x0.board.Breakers (zt x0.board (([] : List Int), zu x0.power x0.acts)) hm0 rfl rfl (fun z0 hn0 => ?_) fun n0 a0 z0 w0b hi0 hx0 h hb0 hr0 => ?_
  ·clear hm0
   exact wx w0 (sa204s1_0) (Ra204s1_0) lv204s1 26 [false] [] [] 6 n12_ (z0.1, z0.2.1, z0.2.2.1, (g3_ z0), (g4_ z0), (g5_ z0), (g6_ z0), (g7_ z0), (g8_ z0), (g9_ z0), (g10_ z0), (g11z_ z0)) hC [pq (cE hl0)] hn0
  ·unfold F204s1_l0 at h
   obtain ⟨y1, h2, h⟩ := bE h
   obtain ⟨y3, h4, h⟩ := bE h
   refine ws lv204s1 32 [true] [pt hx0 hl0, pr pB h2, pn pB h2, ⟨.whenR [(y1, true)] (.call 205 [dO 0 0, .agg (d147 a0)] [.box 235 [I z0.1, DS q147 z0.2.1, DS q139 z0.2.2.1, DS q65 (g3_ z0), I (g4_ z0), I (g5_ z0), .os 1, .os 2, .os 3, .os 4, .os 5], v2_ (g7_ z0), v3_ (g8_ z0), v0_ (g9_ z0), v4_ (g10_ z0), v6_ (g11z_ z0)] (dB y3.1) (.box 235 (zb y3.2.board [.os 1, .os 2, .os 3, .os 4, .os 5]) :: zp y3.2.power [v6_ y3.2.acts]) [0, 7, 8, 9, 10, 11]), ⟨fun hg => ⟨e205s1, (k205s1 (⟨(⟨z0.1, z0.2.1, z0.2.2.1, (g3_ z0), (g4_ z0), (g5_ z0)⟩ : api_Board), (⟨(g7_ z0), (g8_ z0), (g9_ z0), (g10_ z0)⟩ : api_Power), (g11z_ z0)⟩ : shed_relief) a0 _ (gg h4 hg))⟩, fun hg => by have e := guardO_not h4 hg; subst e; rfl⟩⟩] [] 6 n12_ [(0, dO 0 0), (1, .d (.fn (.func 205) [.o 0 0] [])), (4, dS 6), (5, dI (cnt 0 n0)), (13, .d (DS q147 x0.board.Breakers)), (14, dI (ln x0.board.Breakers)), (15, dI (cnt 0 n0)), (32, dB (y1 && y3.1))] (.box 235 (zb y3.2.board [.os 7, .os 8, .os 9, .os 10, .os 11]) :: .non :: .non :: .non :: .non :: .non :: v0_ (g6_ z0) :: zp y3.2.power [v6_ y3.2.acts]) hC [pq (cL hi0 hl0)] ?_
   rcases bC ((y1 && y3.1)) with h5 | h5
   ·replace h := cT h5 h
    obtain ⟨y6, h7, h⟩ := bE h
    exact wx w0b (st204s1_0 x0 (n0 + 1)) (R204s1_0 (n0 + 1)) lv204s1 25 [true] [pa pI 1 h7] [] 6 [0, 1, 2, 3, 4, 5, 12, 7, 8, 9, 10, 11] (zt y3.2.board (y6, zu y3.2.power y3.2.acts)) hC [pq h5] (sI h).symm
   ·replace h := cF h5 h
    exact wx w0b (st204s1_0 x0 (n0 + 1)) (R204s1_0 (n0 + 1)) lv204s1 25 [false] [] [] 6 n12_ (zt y3.2.board ((g6_ z0), zu y3.2.power y3.2.acts)) hC [pq h5] (sI h).symm
 ·have h := hnext0 _ hs0
  refine ws lv204s1 23 [] [pl pI (g6_ z0)] [] 6 n12_ (st204s1_1 z0 0 (z0.1, z0.2.1, z0.2.2.1, (g3_ z0), (g4_ z0), (g5_ z0), (g7_ z0), (g8_ z0), (g9_ z0), (g10_ z0), (g11z_ z0))) (R204s1_1 z0 0 (z0.1, z0.2.1, z0.2.2.1, (g3_ z0), (g4_ z0), (g5_ z0), (g7_ z0), (g8_ z0), (g9_ z0), (g10_ z0), (g11z_ z0))) hC [] ?_
  obtain ⟨w1, hm1, hret1, hnext1⟩ := aIn h
  clear h
  refine wc w1 (sa204s1_1) (Ra204s1_1) ?_ fun z1 hs1 => ?_
  ·refine wb ?_
   refine wO 38 6 rfl rfl fun hl1 => ?_
   refine wF (by kernel_rfl) F204s1_l1 (st204s1_1 z0) (R204s1_1 z0) w1 (g6_ z0) (z0.1, z0.2.1, z0.2.2.1, (g3_ z0), (g4_ z0), (g5_ z0), (g7_ z0), (g8_ z0), (g9_ z0), (g10_ z0), (g11z_ z0)) hm1 rfl rfl (fun z1 hn1 => ?_) fun n1 a1 z1 w1b hi1 hx1 h hb1 hr1 => ?_
   ·clear hm1
    exact wx w1 (sa204s1_1) (Ra204s1_1) lv204s1 26 [false] [] [] 6 [0, 1, 2, 3, 4, 5, 7, 8, 9, 10, 11] (z1.1, z1.2.1, z1.2.2.1, (g3_ z1), (g4_ z1), (g5_ z1), (g6_ z1), (g7_ z1), (g8_ z1), (g9_ z1), (g10z_ z1)) hC [pq (cE hl1)] hn1
   ·unfold F204s1_l1 at h
    obtain ⟨y8, h9, h⟩ := bE h
    exact wx w1b (st204s1_1 z0 (n1 + 1)) (R204s1_1 z0 (n1 + 1)) lv204s1 33 [true] [pr pI (gC hx1 hl1), pn pI (gC hx1 hl1), pc e230s1 (k230s1 (⟨(⟨z1.1, z1.2.1, z1.2.2.1, (g3_ z1), (g4_ z1), (g5_ z1)⟩ : api_Board), (⟨(g6_ z1), (g7_ z1), (g8_ z1), (g9_ z1)⟩ : api_Power), (g10z_ z1)⟩ : shed_relief) a1 _ h9) [0, 7, 8, 9, 10, 11]] [] 6 [0, 1, 2, 3, 4, 5, 6, 7, 8, 9, 10, 12] (zt y8.board (zu y8.power y8.acts)) hC [pq (cL hi1 hl1)] (sI h).symm
  ·have h := hnext1 _ hs1
   replace h := sI h
   subst h
   exact wf lv204s1 20 [] [] [] [] 6 n11_ hC []
theorem e204s1 : EN 204 := en Tryz.func204
def lv25 : List Nat := [0, 1, 2, 3, 4, 5, 6, 7, 12, 16, 31]
def st25_0  (z0 : Int × (List api_Island)) : St := [(2, dO 0 0), (3, dO 1 0), (4, .d (DS q84 [])), (5, dS 2), (6, dI z0.1)]
def R25_0 (x0 : api_Board) (x1 : api_Power) (z0 : Int × (List api_Island)) : List Res := [.box 29 (d29 x0), .box 36 (d36 x1), v8_ z0.2]
def sa25_0  (z0 : Int × (List api_Island)) : St := [(4, .d (DS q84 [])), (5, dS 0)]
def Ra25_0  (z0 : Int × (List api_Island)) : List Res := [v8_ z0.2]
theorem k25 (x0 : api_Board) (x1 : api_Power) (r : (List api_Island)) (h : F25 x0 x1 = some r) : CO 25 [.agg (d29 x0), .agg (d36 x1)] [] (.d (.os 0)) [v8_ r] := by
 unfold F25 at h
 refine co 37 Tryz.func25 fun C hC => ?_
 obtain ⟨y1, h2, h⟩ := bE h
 refine ws lv25 26 [] [pc e53 (k53 x0 x1 _ h2) []] [] 0 [0, 1] [(2, dO 0 0), (3, dO 1 0), (4, .d (DS q84 [])), (12, dB (y1 != 0))] [.box 29 (d29 x0), .box 36 (d36 x1)] hC [] ?_
 rcases bC ((y1 != 0)) with h3 | h3
 ·replace h := cT h3 h
  replace h := sI h
  subst h
  exact wr lv25 24 [true] [] [.own 4 84 3] [.tmp 4] 0 [2] hC [pq h3]
 ·replace h := cF h3 h
  refine ws lv25 28 [false] [] [.own 5 84 3] 0 n3_ (st25_0 (0, ([] : List api_Island))) (R25_0 x0 x1 (0, ([] : List api_Island))) hC [pq h3] ?_
  obtain ⟨w0, hm0, hret0, hnext0⟩ := aIn h
  clear h
  refine wc w0 (sa25_0) (Ra25_0) ?_ fun z0 hs0 => ?_
  ·refine wb ?_
   refine wW (by kernel_rfl) (F25_l0 x0 x1) (st25_0) (R25_0 x0 x1) w0 1152921504606846976 (0, ([] : List api_Island)) hm0 rfl rfl fun z0 w0b h hb0 hr0 => ?_
   unfold F25_l0 at h
   rcases bC (decide (z0.1 < x0.Buses)) with h4 | h4
   ·replace h := cT h4 h
    obtain ⟨y5, h6, h⟩ := bE h
    obtain ⟨y7, h8, h⟩ := bE h
    refine ws lv25 32 [true] [pc e54 (k54 x0 x1 z0.1 _ h6) [], pr pI h8, pn pI h8] [] 0 n7_ [(2, dO 0 0), (3, dO 1 0), (4, .d (DS q84 [])), (5, dS 2), (6, dI z0.1), (7, dO 6 0), (31, dB (y7 == z0.1))] [.box 29 (d29 x0), .box 36 (d36 x1), v8_ z0.2, v0_ y5.1.Buses, v0_ y5.1.Sources, v0_ y5.1.Consumers, .box 84 [.os 3, .os 4, .os 5]] hC [pq h4] ?_
    rcases bC ((y7 == z0.1)) with h9 | h9
    ·replace h := cT h9 h
     refine ws lv25 1 [true] [] [.frz 3] 0 [0, 1, 2, 4, 5, 6] [(2, dO 0 0), (3, dO 1 0), (4, .d (DS q84 [])), (5, dS 2), (6, dI z0.1), (7, dO 5 0)] [.box 29 (d29 x0), .box 36 (d36 x1), v8_ z0.2, v0_ y5.1.Sources, v0_ y5.1.Consumers, .box 84 [DS pI y5.1.Buses, .os 3, .os 4]] hC [pq h9] ?_
     refine ws lv25 0 [] [] [.frz 3] 0 [0, 1, 2, 4, 5] [(2, dO 0 0), (3, dO 1 0), (4, .d (DS q84 [])), (5, dS 2), (6, dI z0.1), (7, dO 4 0)] [.box 29 (d29 x0), .box 36 (d36 x1), v8_ z0.2, v0_ y5.1.Consumers, .box 84 [DS pI y5.1.Buses, DS pI y5.1.Sources, .os 3]] hC [] ?_
     refine ws lv25 0 [] [] [.frz 3] 0 [0, 1, 2, 4] [(2, dO 0 0), (3, dO 1 0), (4, .d (DS q84 [])), (5, dS 2), (6, dI z0.1), (7, dO 3 0)] [.box 29 (d29 x0), .box 36 (d36 x1), v8_ z0.2, .box 84 (d84 y5.1)] hC [] ?_
     obtain ⟨y10, h11, h⟩ := bE h
     exact wx w0b (st25_0) (R25_0 x0 x1) lv25 24 [] [pa q84 3 h11] [] 0 [0, 1, 4] (w64 (z0.1 + 1), y10) hC [] (sI h).symm
    ·replace h := cF h9 h
     exact wx w0b (st25_0) (R25_0 x0 x1) lv25 25 [false] [] [] 0 n3_ (w64 (z0.1 + 1), z0.2) hC [pq h9] (sI h).symm
   ·replace h := cF h4 h
    exact wx w0 (sa25_0) (Ra25_0) lv25 26 [false] [] [] 0 [2] (z0.1, z0.2) hC [pq h4] (hb0 _ (sI h).symm)
  ·have h := hnext0 _ hs0
   replace h := sI h
   subst h
   exact wr lv25 23 [] [] [] [.tmp 4] 0 [0] hC []
theorem e25 : EN 25 := en Tryz.func25
theorem k94 (x0 : api_Thruster) (r : Bool) (h : F94 x0 = some r) : CO 94 [.agg (d63 x0)] [] (.d (Bo r)) [] := by
 unfold F94 at h
 refine co 38 Tryz.func94 fun C hC => ?_
 obtain ⟨y1, h2, h⟩ := bE h
 replace h := sI h
 subst h
 exact wr n3_ 25 [] [pc e148 (k148 x0.Kind 1 3 _ rfl) [], ⟨.when [(F148 x0.Kind 1 3, true)] (.call 148 [dI x0.Station, dI 0, dI 1] [] (dB (F148 x0.Station 0 1)) [] []), fun hg => ⟨e148, (k148 x0.Station 0 1 _ rfl)⟩⟩, ⟨.when [(((F148 x0.Kind 1 3) && (F148 x0.Station 0 1)), true)] (.call 148 [dI x0.Max, dI 0, dI 5000] [] (dB (F148 x0.Max 0 5000)) [] []), fun hg => ⟨e148, (k148 x0.Max 0 5000 _ rfl)⟩⟩, ⟨.when [((((F148 x0.Kind 1 3) && (F148 x0.Station 0 1)) && (F148 x0.Max 0 5000)), true)] (.call 148 [dI x0.Rate, dI 0, dI 5000] [] (dB (F148 x0.Rate 0 5000)) [] []), fun hg => ⟨e148, (k148 x0.Rate 0 5000 _ rfl)⟩⟩, ⟨.when [(((((F148 x0.Kind 1 3) && (F148 x0.Station 0 1)) && (F148 x0.Max 0 5000)) && (F148 x0.Rate 0 5000)), true)] (.call 148 [dI x0.Cost, dI 1, dI 100] [] (dB (F148 x0.Cost 1 100)) [] []), fun hg => ⟨e148, (k148 x0.Cost 1 100 _ rfl)⟩⟩, pL_ [((((((F148 x0.Kind 1 3) && (F148 x0.Station 0 1)) && (F148 x0.Max 0 5000)) && (F148 x0.Rate 0 5000)) && (F148 x0.Cost 1 100)), true)] q159 x0.Forbidden, pw e149s0 (fun hg => k149s0 x0.Forbidden _ (gg h2 hg)) []] [] [.tmp 2] 0 [] hC []
theorem e94 : EN 94 := en Tryz.func94
def lv101 : List Nat := [0, 1, 2, 3, 4, 6, 7, 11]
theorem k101 (x0 : api_Board) (x1 : api_Power) (x2 : Int) (r : Int × Bool) (h : F101 x0 x1 x2 = some r) : CO 101 [.agg (d29 x0), .agg (d36 x1), .d (I x2)] [] (.tup [.d (I r.1), .d (Bo r.2)]) [] := by
 unfold F101 at h
 refine co 18 Tryz.func101 fun C hC => ?_
 obtain ⟨y1, h2, h⟩ := bE h
 refine ws lv101 26 [] [pc e43 (k43 x0 x1 _ h2) []] [] 0 [0, 1] [(2, dI x2), (3, dO 0 0), (4, dO 1 0), (6, dI 0), (7, dB false), (11, dB (y1 != 0))] [.box 29 (d29 x0), .box 36 (d36 x1)] hC [] ?_
 rcases bC ((y1 != 0)) with h3 | h3
 ·replace h := cT h3 h
  replace h := sI h
  subst h
  exact wr lv101 24 [true] [] [] [.tmp 6, .tmp 7] 0 [] hC [pq h3]
 ·replace h := cF h3 h
  obtain ⟨y4, h5, h⟩ := bE h
  replace h := sI h
  subst h
  exact wr lv101 25 [false] [pc e144 (k144 x0 x1 x2 _ h5) []] [] [.tmp 6, .tmp 7] 0 [] hC [pq h3]
theorem e101 : EN 101 := en Tryz.func101
def lv89 : List Nat := [0, 1, 2, 3, 4, 5, 6, 7, 8, 9, 10, 11, 12, 13, 14, 18, 25, 26, 27, 28, 47, 48, 49, 58, 80, 81, 82, 91]
def st89_0 (y4 : (List Int)) (n0 : Nat) (z0 : (List api_Island)) : St := [(2, dO 0 0), (3, dO 1 0), (4, .d (DS q84 [])), (5, dS 2), (6, dS 3), (25, dS 2), (26, dI (ln y4)), (27, dI (cnt 0 n0))]
def R89_0 (x0 : api_Board) (x1 : api_Power) (y4 : (List Int)) (n0 : Nat) (z0 : (List api_Island)) : List Res := [.box 29 (d29 x0), .box 36 (d36 x1), v0_ y4, .dsl 84 3 4, .gh 3 [(3, 1), (3, 1), (3, 1)] (z0.map q84) none]
def sa89_0  (z0 : (List api_Island)) : St := [(2, dO 0 0), (3, dO 1 0), (4, .d (DS q84 [])), (5, dS 2), (6, dS 3)]
def Ra89_0 (x0 : api_Board) (x1 : api_Power) (y4 : (List Int)) (z0 : (List api_Island)) : List Res := [.box 29 (d29 x0), .box 36 (d36 x1), v0_ y4, .dsl 84 3 4, .gh 3 [(3, 1), (3, 1), (3, 1)] (z0.map q84) none]
def st89_1 (x0 : api_Board) (z1 : Int × (List api_Island)) : St := [(2, dO 0 0), (3, dO 1 0), (4, .d (DS q84 [])), (5, dS 2), (6, dS 3), (47, dI (ln x0.Sources)), (48, dI z1.1)]
def R89_1 (x0 : api_Board) (x1 : api_Power) (y4 : (List Int)) (z1 : Int × (List api_Island)) : List Res := [.box 29 (d29 x0), .box 36 (d36 x1), v0_ y4, .dsl 84 3 4, .gh 3 [(3, 1), (3, 1), (3, 1)] (z1.2.map q84) none]
def sa89_1  (z1 : Int × (List api_Island)) : St := [(2, dO 0 0), (3, dO 1 0), (4, .d (DS q84 [])), (5, dS 2), (6, dS 3)]
def Ra89_1 (x0 : api_Board) (x1 : api_Power) (y4 : (List Int)) (z1 : Int × (List api_Island)) : List Res := [.box 29 (d29 x0), .box 36 (d36 x1), v0_ y4, .dsl 84 3 4, .gh 3 [(3, 1), (3, 1), (3, 1)] (z1.2.map q84) none]
def st89_2 (x0 : api_Board) (z2 : Int × (List api_Island)) : St := [(2, dO 0 0), (3, dO 1 0), (4, .d (DS q84 [])), (5, dS 2), (6, dS 3), (80, dI (ln x0.Consumers)), (81, dI z2.1)]
def R89_2 (x0 : api_Board) (x1 : api_Power) (y4 : (List Int)) (z2 : Int × (List api_Island)) : List Res := [.box 29 (d29 x0), .box 36 (d36 x1), v0_ y4, .dsl 84 3 4, .gh 3 [(3, 1), (3, 1), (3, 1)] (z2.2.map q84) none]
def sa89_2  (z2 : Int × (List api_Island)) : St := [(4, .d (DS q84 [])), (6, dS 0)]
def Ra89_2  (z2 : Int × (List api_Island)) : List Res := [.dsl 84 3 1, .gh 3 [(3, 1), (3, 1), (3, 1)] (z2.2.map q84) none]
theorem k89 (x0 : api_Board) (x1 : api_Power) (r : (List api_Island)) (h : F89 x0 x1 = some r) : CO 89 [.agg (d29 x0), .agg (d36 x1)] [] (.d (.os 0)) [v8_ r] := by
 unfold F89 at h
 refine co 113 Tryz.func89 fun C hC => ?_
 obtain ⟨y1, h2, h⟩ := bE h
 refine ws lv89 26 [] [pc e43 (k43 x0 x1 _ h2) []] [] 0 [0, 1] [(2, dO 0 0), (3, dO 1 0), (4, .d (DS q84 [])), (18, dB (y1 != 0))] [.box 29 (d29 x0), .box 36 (d36 x1)] hC [] ?_
 rcases bC ((y1 != 0)) with h3 | h3
 ·replace h := cT h3 h
  replace h := sI h
  subst h
  exact wr lv89 24 [true] [] [.own 4 84 3] [.tmp 4] 0 [2] hC [pq h3]
 ·replace h := cF h3 h
  obtain ⟨y4, h5, h⟩ := bE h
  obtain ⟨y6, h7, h⟩ := bE h
  refine ws lv89 30 [false] [pc e142 (k142 x0 x1 _ h5) [], ⟨.roomZ (x0.Buses * (72 + 1)) (List.replicate (Int.toNat x0.Buses) (q84 (⟨([] : List Int), ([] : List Int), ([] : List Int)⟩ : api_Island))) (y6.map q84), makez_get h7⟩, pl pI y4] [.deep 3 [(3, 1), (3, 1), (3, 1)]] 0 n5_ (st89_0 y4 0 y6) (R89_0 x0 x1 y4 0 y6) hC [pq h3] ?_
  obtain ⟨w0, hm0, hret0, hnext0⟩ := aIn h
  clear h
  refine wc w0 (sa89_0) (Ra89_0 x0 x1 y4) ?_ fun z0 hs0 => ?_
  ·refine wb ?_
   refine wO 25 2 rfl rfl fun hl0 => ?_
   refine wF (by kernel_rfl) F89_l0 (st89_0 y4) (R89_0 x0 x1 y4) w0 y4 y6 hm0 rfl rfl (fun z0 hn0 => ?_) fun n0 a0 z0 w0b hi0 hx0 h hb0 hr0 => ?_
   ·clear hm0
    exact wx w0 (sa89_0) (Ra89_0 x0 x1 y4) lv89 26 [false] [] [] 0 n5_ z0 hC [pq (cE hl0)] hn0
   ·unfold F89_l0 at h
    obtain ⟨y8, h9, h⟩ := bE h
    obtain ⟨y10, h11, h⟩ := bE h
    obtain ⟨y12, h13, h⟩ := bE h
    exact wx w0b (st89_0 y4 (n0 + 1)) (R89_0 x0 x1 y4 (n0 + 1)) lv89 33 [true] [pr pI (gC hx0 hl0), pn pI (gC hx0 hl0), pr q84 h9, pn q84 h9, ⟨.appD (z0.map q84) (Int.toNat a0) (q84 y8) 0 (y8.Buses.map pI) ([cnt 0 n0].map pI) 1 (((y8.Buses.map pI).length + ([cnt 0 n0].map pI).length) * (8 + 1)) (y10.map pI), appD_get 1 (fun _ => rfl) h9 rfl h11⟩, pr q84 h9, ⟨.updD (z0.map q84) (Int.toNat a0) (Int.toNat a0) (q84 y8) (q84 (⟨y10, y8.Sources, y8.Consumers⟩ : api_Island)) (y12.map q84), updD_get h9 h13⟩] [] 0 [0, 1, 2, 3, 8] y12 hC [pq (cL hi0 hl0)] (sI h).symm
  ·have h := hnext0 _ hs0
   refine ws lv89 24 [] [pl q139 x0.Sources] [] 0 n5_ (st89_1 x0 (0, z0)) (R89_1 x0 x1 y4 (0, z0)) hC [] ?_
   obtain ⟨w1, hm1, hret1, hnext1⟩ := aIn h
   clear h
   refine wc w1 (sa89_1) (Ra89_1 x0 x1 y4) ?_ fun z1 hs1 => ?_
   ·refine wb ?_
    refine wW (by kernel_rfl) (F89_l1 x0 x1 y4) (st89_1 x0) (R89_1 x0 x1 y4) w1 1152921504606846976 (0, z0) hm1 rfl rfl fun z1 w1b h hb1 hr1 => ?_
    unfold F89_l1 at h
    rcases bC ((c89_1 x0 z1)) with h14 | h14
    ·replace h := cT h14 h
     obtain ⟨y15, h16, h⟩ := bE h
     refine ws lv89 34 [true] [pc e143 (k143 x0 x1 z1.1 _ h16) []] [] 0 n5_ [(2, dO 0 0), (3, dO 1 0), (4, .d (DS q84 [])), (5, dS 2), (6, dS 3), (9, dI z1.1), (10, dI y15.1), (47, dI (ln x0.Sources)), (48, dI z1.1), (58, dB y15.2)] [.box 29 (d29 x0), .box 36 (d36 x1), v0_ y4, .dsl 84 3 4, .gh 3 [(3, 1), (3, 1), (3, 1)] (z1.2.map q84) none] hC [pq h14] ?_
     rcases bC (y15.2) with h17 | h17
     ·replace h := cT h17 h
      obtain ⟨y18, h19, h⟩ := bE h
      obtain ⟨y20, h21, h⟩ := bE h
      obtain ⟨y22, h23, h⟩ := bE h
      obtain ⟨y24, h25, h⟩ := bE h
      exact wx w1b (st89_1 x0) (R89_1 x0 x1 y4) lv89 25 [true] [pr pI h19, pn pI h19, pr pI h19, pn pI h19, pr q84 h21, pn q84 h21, ⟨.appD (z1.2.map q84) (Int.toNat y18) (q84 y20) 1 (y20.Sources.map pI) ([z1.1].map pI) 1 (((y20.Sources.map pI).length + ([z1.1].map pI).length) * (8 + 1)) (y22.map pI), appD_get 1 (fun _ => rfl) h21 rfl h23⟩, pr q84 h21, ⟨.updD (z1.2.map q84) (Int.toNat y18) (Int.toNat y18) (q84 y20) (q84 (⟨y20.Buses, y22, y20.Consumers⟩ : api_Island)) (y24.map q84), updD_get h21 h25⟩] [] 0 [0, 1, 2, 3, 8] (w64 (z1.1 + 1), y24) hC [pq h17] (sI h).symm
     ·replace h := cF h17 h
      exact wx w1b (st89_1 x0) (R89_1 x0 x1 y4) lv89 25 [false] [] [] 0 n5_ (w64 (z1.1 + 1), z1.2) hC [pq h17] (sI h).symm
    ·replace h := cF h14 h
     exact wx w1 (sa89_1) (Ra89_1 x0 x1 y4) lv89 26 [false] [] [] 0 n5_ (z1.1, z1.2) hC [pq h14] (hb1 _ (sI h).symm)
   ·have h := hnext1 _ hs1
    refine ws lv89 24 [] [pl q65 x0.Consumers] [] 0 n5_ (st89_2 x0 (0, z1.2)) (R89_2 x0 x1 y4 (0, z1.2)) hC [] ?_
    obtain ⟨w2, hm2, hret2, hnext2⟩ := aIn h
    clear h
    refine wc w2 (sa89_2) (Ra89_2) ?_ fun z2 hs2 => ?_
    ·refine wb ?_
     refine wW (by kernel_rfl) (F89_l2 x0 x1 y4) (st89_2 x0) (R89_2 x0 x1 y4) w2 1152921504606846976 (0, z1.2) hm2 rfl rfl fun z2 w2b h hb2 hr2 => ?_
     unfold F89_l2 at h
     rcases bC ((c89_3 x0 z2)) with h26 | h26
     ·replace h := cT h26 h
      obtain ⟨y27, h28, h⟩ := bE h
      refine ws lv89 34 [true] [pc e144 (k144 x0 x1 z2.1 _ h28) []] [] 0 n5_ [(2, dO 0 0), (3, dO 1 0), (4, .d (DS q84 [])), (5, dS 2), (6, dS 3), (12, dI z2.1), (13, dI y27.1), (80, dI (ln x0.Consumers)), (81, dI z2.1), (91, dB y27.2)] [.box 29 (d29 x0), .box 36 (d36 x1), v0_ y4, .dsl 84 3 4, .gh 3 [(3, 1), (3, 1), (3, 1)] (z2.2.map q84) none] hC [pq h26] ?_
      rcases bC (y27.2) with h29 | h29
      ·replace h := cT h29 h
       obtain ⟨y30, h31, h⟩ := bE h
       obtain ⟨y32, h33, h⟩ := bE h
       obtain ⟨y34, h35, h⟩ := bE h
       obtain ⟨y36, h37, h⟩ := bE h
       exact wx w2b (st89_2 x0) (R89_2 x0 x1 y4) lv89 25 [true] [pr pI h31, pn pI h31, pr pI h31, pn pI h31, pr q84 h33, pn q84 h33, ⟨.appD (z2.2.map q84) (Int.toNat y30) (q84 y32) 2 (y32.Consumers.map pI) ([z2.1].map pI) 1 (((y32.Consumers.map pI).length + ([z2.1].map pI).length) * (8 + 1)) (y34.map pI), appD_get 1 (fun _ => rfl) h33 rfl h35⟩, pr q84 h33, ⟨.updD (z2.2.map q84) (Int.toNat y30) (Int.toNat y30) (q84 y32) (q84 (⟨y32.Buses, y32.Sources, y34⟩ : api_Island)) (y36.map q84), updD_get h33 h37⟩] [] 0 [0, 1, 2, 3, 8] (w64 (z2.1 + 1), y36) hC [pq h29] (sI h).symm
      ·replace h := cF h29 h
       exact wx w2b (st89_2 x0) (R89_2 x0 x1 y4) lv89 25 [false] [] [] 0 n5_ (w64 (z2.1 + 1), z2.2) hC [pq h29] (sI h).symm
     ·replace h := cF h26 h
      exact wx w2 (sa89_2) (Ra89_2) lv89 26 [false] [] [] 0 [3, 4] (z2.1, z2.2) hC [pq h26] (hb2 _ (sI h).symm)
    ·have h := hnext2 _ hs2
     refine ws lv89 1 [] [] [.flat 0] 0 [0] [(4, .d (DS q84 [])), (6, dS 0)] [v8_ z2.2] hC [] ?_
     obtain ⟨y38, h39, h⟩ := bE h
     replace h := sI h
     subst h
     exact wr lv89 22 [] [pc e145s1 (k145s1 z2.2 _ h39) [0]] [] [.tmp 4] 0 [1] hC []
theorem e89 : EN 89 := en Tryz.func89
def lv207 : List Nat := [0, 1, 2, 3, 4, 7, 10, 11, 12]
def st207_0 (x0 : api_Board) (z0 : Int × (List Int)) : St := [(1, dO 0 0), (2, .d (DS pI [])), (3, dS 1), (10, dI (ln x0.Consumers)), (11, dI z0.1)]
def R207_0 (x0 : api_Board) (z0 : Int × (List Int)) : List Res := [.box 29 (d29 x0), v0_ z0.2]
def sa207_0  (z0 : Int × (List Int)) : St := [(1, dO 0 0), (2, .d (DS pI [])), (3, dS 1)]
def Ra207_0 (x0 : api_Board) (z0 : Int × (List Int)) : List Res := [.box 29 (d29 x0), v0_ z0.2]
theorem k207 (x0 : api_Board) (r : (List Int)) (h : F207 x0 = some r) : CO 207 [.agg (d29 x0)] [] (.d (.os 0)) [v0_ r] := by
 unfold F207 at h
 refine co 23 Tryz.func207 fun C hC => ?_
 obtain ⟨y1, h2, h⟩ := bE h
 rcases bC ((y1 != 0)) with h3 | h3
 ·replace h := cT h3 h
  cases h
 ·replace h := cF h3 h
  refine ws lv207 33 [false] [pc e85 (k85 x0 _ h2) [], pl q65 x0.Consumers] [.own 3 3 1] 0 [0, 1] (st207_0 x0 (0, ([] : List Int))) (R207_0 x0 (0, ([] : List Int))) hC [pq h3] ?_
  obtain ⟨w0, hm0, hret0, hnext0⟩ := aIn h
  clear h
  refine wc w0 (sa207_0) (Ra207_0 x0) ?_ fun z0 hs0 => ?_
  ·refine wb ?_
   refine wW (by kernel_rfl) (F207_l0 x0) (st207_0 x0) (R207_0 x0) w0 1152921504606846976 (0, ([] : List Int)) hm0 rfl rfl fun z0 w0b h hb0 hr0 => ?_
   unfold F207_l0 at h
   rcases bC ((c207_1 x0 z0)) with h4 | h4
   ·replace h := cT h4 h
    obtain ⟨y5, h6, h⟩ := bE h
    exact wx w0b (st207_0 x0) (R207_0 x0) lv207 33 [true] [pa pI 1 h6] [] 0 [0, 2] (w64 (z0.1 + 1), y5) hC [pq h4] (sI h).symm
   ·replace h := cF h4 h
    exact wx w0 (sa207_0) (Ra207_0 x0) lv207 26 [false] [] [] 0 [0, 1] (z0.1, z0.2) hC [pq h4] (hb0 _ (sI h).symm)
  ·have h := hnext0 _ hs0
   obtain ⟨y7, h8, h⟩ := bE h
   replace h := sI h
   subst h
   exact wr lv207 25 [] [pc e232s1 (k232s1 z0.2 x0 _ h8) [1, 0]] [] [.tmp 2] 0 [1] hC []
theorem e207 : EN 207 := en Tryz.func207
theorem k28 (x0 : api_Board) (x1 : api_Power) (x2 : Int) (r : Bool) (h : F28 x0 x1 x2 = some r) : CO 28 [.agg (d29 x0), .agg (d36 x1), .d (I x2)] [] (.d (Bo r)) [] := by
 unfold F28 at h
 refine co 23 Tryz.func28 fun C hC => ?_
 obtain ⟨y1, h2, h⟩ := bE h
 replace h := sI h
 subst h
 exact wr [0, 1, 2, 3, 4, 6, 7, 8] 27 [] [pc e54 (k54 x0 x1 x2 _ h2) [], pL_ [(y1.2, true)] pI y1.1.Sources] [] [.tmp 6] 0 [] hC []
theorem e28 : EN 28 := en Tryz.func28
def lv222 : List Nat := [0, 1, 2, 3, 4, 5, 6, 7, 8, 9, 14, 20, 21, 22, 23, 29]
def st222_0 (x1 : api_Power) (n0 : Nat) (z0 : (List api_Running)) : St := [(4, dO 0 0), (5, dI 0), (7, dO 9 0), (20, .d (DS q120 x1.Sources)), (21, dI (ln x1.Sources)), (22, dI (cnt 0 n0))]
def R222_0 (y4 : api_Power) (n0 : Nat) (z0 : (List api_Running)) : List Res := (.box 36 [.os 1, .os 2, .os 3, .os 4] :: ze [v2_ y4.Closed, v3_ z0, v0_ y4.Limits, v4_ y4.Broken, .box 36 [.os 5, .os 6, .os 7, .os 8]])
def sa222_0  (z0 : (List api_Running)) : St := [(4, dO 0 0), (5, dI 0), (7, dO 9 0)]
def Ra222_0 (y4 : api_Power) (z0 : (List api_Running)) : List Res := (.box 36 [.os 1, .os 2, .os 3, .os 4] :: ze [v2_ y4.Closed, v3_ z0, v0_ y4.Limits, v4_ y4.Broken, .box 36 [.os 5, .os 6, .os 7, .os 8]])
theorem k222 (x0 : api_Board) (x1 : api_Power) (r : api_Power × Int) (h : F222 x0 x1 = some r) : CO 222 [.agg (d29 x0), .agg (d36 x1)] [] (.tup [.agg [.os 0, .os 1, .os 2, .os 3], .d (I r.2)]) (zp r.1 []) := by
 unfold F222 at h
 refine co 45 Tryz.func222 fun C hC => ?_
 obtain ⟨y1, h2, h⟩ := bE h
 refine ws lv222 28 [] [pc e43 (k43 x0 x1 _ h2) []] [.ownb 2 0 4 1, .ownb 2 1 120 4, .ownb 2 2 3 1, .ownb 2 3 86 2] 0 [1, 2, 3, 4, 5, 6] [(3, dO 0 0), (4, dO 1 0), (5, dI 0), (6, dI y1), (14, dB (y1 != 0))] (.box 36 (d36 x1) :: .box 36 [.os 2, .os 3, .os 4, .os 5] :: ze []) hC [] ?_
 rcases bC ((y1 != 0)) with h3 | h3
 ·replace h := cT h3 h
  cases h
 ·replace h := cF h3 h
  obtain ⟨y4, h5, h⟩ := bE h
  refine ws lv222 28 [false] [pc e116 (k116 x1 _ h5) [], pl q120 x1.Sources] [] 0 [1, 2, 3, 4, 5, 6, 7, 8, 9, 10] (st222_0 x1 0 y4.Sources) (R222_0 y4 0 y4.Sources) hC [pq h3] ?_
  obtain ⟨w0, hm0, hret0, hnext0⟩ := aIn h
  clear h
  refine wc w0 (sa222_0) (Ra222_0 y4) ?_ fun z0 hs0 => ?_
  ·refine wb ?_
   refine wL 20 rfl fun hl0 => ?_
   refine wF (by kernel_rfl) F222_l0 (st222_0 x1) (R222_0 y4) w0 x1.Sources y4.Sources hm0 rfl rfl (fun z0 hn0 => ?_) fun n0 a0 z0 w0b hi0 hx0 h hb0 hr0 => ?_
   ·clear hm0
    exact wx w0 (sa222_0) (Ra222_0 y4) lv222 26 [false] [] [] 0 n10_ z0 hC [pq (cE hl0)] hn0
   ·unfold F222_l0 at h
    rcases bC ((a0.State == 2)) with h6 | h6
    ·replace h := cT h6 h
     obtain ⟨y7, h8, h⟩ := bE h
     obtain ⟨y9, h10, h⟩ := bE h
     exact wx w0b (st222_0 x1 (n0 + 1)) (R222_0 y4 (n0 + 1)) lv222 36 [true, true] [pt hx0 hl0, pc e229 (k229 (w64 (a0.Phase + (w64 (36 * (w64 (a0.Frequency - 5000)))))) _ rfl) [], pr q120 h8, pu q120 h8 h10] [] 0 n10_ y9 hC [pq (cL hi0 hl0), pq h6] (sI h).symm
    ·replace h := cF h6 h
     exact wx w0b (st222_0 x1 (n0 + 1)) (R222_0 y4 (n0 + 1)) lv222 36 [true, false] [pt hx0 hl0] [] 0 n10_ z0 hC [pq (cL hi0 hl0), pq h6] (sI h).symm
  ·have h := hnext0 _ hs0
   replace h := sI h
   subst h
   exact wr lv222 23 [] [] [] [.cell 4 36, .tmp 5] 0 [5, 6, 7, 8] hC []
theorem e222 : EN 222 := en Tryz.func222
def lv89s0 : List Nat := [0, 1, 2, 3, 4, 5, 6, 7, 8, 9, 10, 11, 12, 13, 14, 18, 25, 26, 27, 28, 47, 48, 49, 58, 80, 81, 82, 91]
def st89s0_0 (y4 : (List Int)) (n0 : Nat) (z0 : (List api_Island)) : St := [(2, dO 4 0), (3, dO 5 0), (4, .d (DS q84 [])), (5, dS 6), (6, dS 7), (25, dS 6), (26, dI (ln y4)), (27, dI (cnt 0 n0))]
def R89s0_0 (x0 : api_Board) (x1 : api_Power) (y4 : (List Int)) (n0 : Nat) (z0 : (List api_Island)) : List Res := (zp x1 [.box 29 (d29 x0), .box 36 [.os 0, .os 1, .os 2, .os 3], v0_ y4, .dsl 84 3 8, .gh 3 [(3, 1), (3, 1), (3, 1)] (z0.map q84) none])
def sa89s0_0  (z0 : (List api_Island)) : St := [(2, dO 4 0), (3, dO 5 0), (4, .d (DS q84 [])), (5, dS 6), (6, dS 7)]
def Ra89s0_0 (x0 : api_Board) (x1 : api_Power) (y4 : (List Int)) (z0 : (List api_Island)) : List Res := (zp x1 [.box 29 (d29 x0), .box 36 [.os 0, .os 1, .os 2, .os 3], v0_ y4, .dsl 84 3 8, .gh 3 [(3, 1), (3, 1), (3, 1)] (z0.map q84) none])
def st89s0_1 (x0 : api_Board) (z1 : Int × (List api_Island)) : St := [(2, dO 4 0), (3, dO 5 0), (4, .d (DS q84 [])), (5, dS 6), (6, dS 7), (47, dI (ln x0.Sources)), (48, dI z1.1)]
def R89s0_1 (x0 : api_Board) (x1 : api_Power) (y4 : (List Int)) (z1 : Int × (List api_Island)) : List Res := (zp x1 [.box 29 (d29 x0), .box 36 [.os 0, .os 1, .os 2, .os 3], v0_ y4, .dsl 84 3 8, .gh 3 [(3, 1), (3, 1), (3, 1)] (z1.2.map q84) none])
def sa89s0_1  (z1 : Int × (List api_Island)) : St := [(2, dO 4 0), (3, dO 5 0), (4, .d (DS q84 [])), (5, dS 6), (6, dS 7)]
def Ra89s0_1 (x0 : api_Board) (x1 : api_Power) (y4 : (List Int)) (z1 : Int × (List api_Island)) : List Res := (zp x1 [.box 29 (d29 x0), .box 36 [.os 0, .os 1, .os 2, .os 3], v0_ y4, .dsl 84 3 8, .gh 3 [(3, 1), (3, 1), (3, 1)] (z1.2.map q84) none])
def st89s0_2 (x0 : api_Board) (z2 : Int × (List api_Island)) : St := [(2, dO 4 0), (3, dO 5 0), (4, .d (DS q84 [])), (5, dS 6), (6, dS 7), (80, dI (ln x0.Consumers)), (81, dI z2.1)]
def R89s0_2 (x0 : api_Board) (x1 : api_Power) (y4 : (List Int)) (z2 : Int × (List api_Island)) : List Res := (zp x1 [.box 29 (d29 x0), .box 36 [.os 0, .os 1, .os 2, .os 3], v0_ y4, .dsl 84 3 8, .gh 3 [(3, 1), (3, 1), (3, 1)] (z2.2.map q84) none])
def sa89s0_2  (z2 : Int × (List api_Island)) : St := [(4, .d (DS q84 [])), (6, dS 4)]
def Ra89s0_2 (x1 : api_Power) (z2 : Int × (List api_Island)) : List Res := (zp x1 [.dsl 84 3 5, .gh 3 [(3, 1), (3, 1), (3, 1)] (z2.2.map q84) none])
theorem k89s0 (x0 : api_Board) (x1 : api_Power) (r : (List api_Island)) (h : F89s0 x0 x1 = some r) : CO 89 [.agg (d29 x0), .agg [.os 0, .os 1, .os 2, .os 3]] (zp x1 []) (.d (.os 4)) (zp x1 [v8_ r]) := by
 unfold F89s0 at h
 refine co 113 Tryz.func89 fun C hC => ?_
 obtain ⟨y1, h2, h⟩ := bE h
 refine ws lv89s0 26 [] [pb e43 (k43 x0 x1 _ h2)] [] 4 n6_ [(2, dO 4 0), (3, dO 5 0), (4, .d (DS q84 [])), (18, dB (y1 != 0))] (zp x1 [.box 29 (d29 x0), .box 36 [.os 0, .os 1, .os 2, .os 3]]) hC [] ?_
 rcases bC ((y1 != 0)) with h3 | h3
 ·replace h := cT h3 h
  replace h := sI h
  subst h
  exact wr lv89s0 24 [true] [] [.own 4 84 3] [.tmp 4] 4 [0, 1, 2, 3, 6] hC [pq h3]
 ·replace h := cF h3 h
  obtain ⟨y4, h5, h⟩ := bE h
  obtain ⟨y6, h7, h⟩ := bE h
  refine ws lv89s0 30 [false] [⟨.call 142 [.agg (d29 x0), .agg [.os 0, .os 1, .os 2, .os 3]] (zp x1 []) (dS 4) (zp x1 [v0_ y4]) n4_, ⟨e142, ((k142 x0 x1 _ h5).lend (by kernel_rfl) (by kernel_rfl) (by kernel_rfl) ⟨fS (fun _ => rfl), trivial⟩ (by kernel_rfl) (by kernel_rfl))⟩⟩, ⟨.roomZ (x0.Buses * (72 + 1)) (List.replicate (Int.toNat x0.Buses) (q84 (⟨([] : List Int), ([] : List Int), ([] : List Int)⟩ : api_Island))) (y6.map q84), makez_get h7⟩, pl pI y4] [.deep 7 [(3, 1), (3, 1), (3, 1)]] 4 n9_ (st89s0_0 y4 0 y6) (R89s0_0 x0 x1 y4 0 y6) hC [pq h3] ?_
  obtain ⟨w0, hm0, hret0, hnext0⟩ := aIn h
  clear h
  refine wc w0 (sa89s0_0) (Ra89s0_0 x0 x1 y4) ?_ fun z0 hs0 => ?_
  ·refine wb ?_
   refine wO 25 6 rfl rfl fun hl0 => ?_
   refine wF (by kernel_rfl) F89s0_l0 (st89s0_0 y4) (R89s0_0 x0 x1 y4) w0 y4 y6 hm0 rfl rfl (fun z0 hn0 => ?_) fun n0 a0 z0 w0b hi0 hx0 h hb0 hr0 => ?_
   ·clear hm0
    exact wx w0 (sa89s0_0) (Ra89s0_0 x0 x1 y4) lv89s0 26 [false] [] [] 4 n9_ z0 hC [pq (cE hl0)] hn0
   ·unfold F89s0_l0 at h
    obtain ⟨y8, h9, h⟩ := bE h
    obtain ⟨y10, h11, h⟩ := bE h
    obtain ⟨y12, h13, h⟩ := bE h
    exact wx w0b (st89s0_0 y4 (n0 + 1)) (R89s0_0 x0 x1 y4 (n0 + 1)) lv89s0 33 [true] [pr pI (gC hx0 hl0), pn pI (gC hx0 hl0), pr q84 h9, pn q84 h9, ⟨.appD (z0.map q84) (Int.toNat a0) (q84 y8) 0 (y8.Buses.map pI) ([cnt 0 n0].map pI) 1 (((y8.Buses.map pI).length + ([cnt 0 n0].map pI).length) * (8 + 1)) (y10.map pI), appD_get 1 (fun _ => rfl) h9 rfl h11⟩, pr q84 h9, ⟨.updD (z0.map q84) (Int.toNat a0) (Int.toNat a0) (q84 y8) (q84 (⟨y10, y8.Sources, y8.Consumers⟩ : api_Island)) (y12.map q84), updD_get h9 h13⟩] [] 4 [0, 1, 2, 3, 4, 5, 6, 7, 12] y12 hC [pq (cL hi0 hl0)] (sI h).symm
  ·have h := hnext0 _ hs0
   refine ws lv89s0 24 [] [pl q139 x0.Sources] [] 4 n9_ (st89s0_1 x0 (0, z0)) (R89s0_1 x0 x1 y4 (0, z0)) hC [] ?_
   obtain ⟨w1, hm1, hret1, hnext1⟩ := aIn h
   clear h
   refine wc w1 (sa89s0_1) (Ra89s0_1 x0 x1 y4) ?_ fun z1 hs1 => ?_
   ·refine wb ?_
    refine wW (by kernel_rfl) (F89s0_l1 x0 x1 y4) (st89s0_1 x0) (R89s0_1 x0 x1 y4) w1 1152921504606846976 (0, z0) hm1 rfl rfl fun z1 w1b h hb1 hr1 => ?_
    unfold F89s0_l1 at h
    rcases bC ((c89s0_1 x0 z1)) with h14 | h14
    ·replace h := cT h14 h
     obtain ⟨y15, h16, h⟩ := bE h
     refine ws lv89s0 34 [true] [pb e143 (k143 x0 x1 z1.1 _ h16)] [] 4 n9_ [(2, dO 4 0), (3, dO 5 0), (4, .d (DS q84 [])), (5, dS 6), (6, dS 7), (9, dI z1.1), (10, dI y15.1), (47, dI (ln x0.Sources)), (48, dI z1.1), (58, dB y15.2)] (zp x1 [.box 29 (d29 x0), .box 36 [.os 0, .os 1, .os 2, .os 3], v0_ y4, .dsl 84 3 8, .gh 3 [(3, 1), (3, 1), (3, 1)] (z1.2.map q84) none]) hC [pq h14] ?_
     rcases bC (y15.2) with h17 | h17
     ·replace h := cT h17 h
      obtain ⟨y18, h19, h⟩ := bE h
      obtain ⟨y20, h21, h⟩ := bE h
      obtain ⟨y22, h23, h⟩ := bE h
      obtain ⟨y24, h25, h⟩ := bE h
      exact wx w1b (st89s0_1 x0) (R89s0_1 x0 x1 y4) lv89s0 25 [true] [pr pI h19, pn pI h19, pr pI h19, pn pI h19, pr q84 h21, pn q84 h21, ⟨.appD (z1.2.map q84) (Int.toNat y18) (q84 y20) 1 (y20.Sources.map pI) ([z1.1].map pI) 1 (((y20.Sources.map pI).length + ([z1.1].map pI).length) * (8 + 1)) (y22.map pI), appD_get 1 (fun _ => rfl) h21 rfl h23⟩, pr q84 h21, ⟨.updD (z1.2.map q84) (Int.toNat y18) (Int.toNat y18) (q84 y20) (q84 (⟨y20.Buses, y22, y20.Consumers⟩ : api_Island)) (y24.map q84), updD_get h21 h25⟩] [] 4 [0, 1, 2, 3, 4, 5, 6, 7, 12] (w64 (z1.1 + 1), y24) hC [pq h17] (sI h).symm
     ·replace h := cF h17 h
      exact wx w1b (st89s0_1 x0) (R89s0_1 x0 x1 y4) lv89s0 25 [false] [] [] 4 n9_ (w64 (z1.1 + 1), z1.2) hC [pq h17] (sI h).symm
    ·replace h := cF h14 h
     exact wx w1 (sa89s0_1) (Ra89s0_1 x0 x1 y4) lv89s0 26 [false] [] [] 4 n9_ (z1.1, z1.2) hC [pq h14] (hb1 _ (sI h).symm)
   ·have h := hnext1 _ hs1
    refine ws lv89s0 24 [] [pl q65 x0.Consumers] [] 4 n9_ (st89s0_2 x0 (0, z1.2)) (R89s0_2 x0 x1 y4 (0, z1.2)) hC [] ?_
    obtain ⟨w2, hm2, hret2, hnext2⟩ := aIn h
    clear h
    refine wc w2 (sa89s0_2) (Ra89s0_2 x1) ?_ fun z2 hs2 => ?_
    ·refine wb ?_
     refine wW (by kernel_rfl) (F89s0_l2 x0 x1 y4) (st89s0_2 x0) (R89s0_2 x0 x1 y4) w2 1152921504606846976 (0, z1.2) hm2 rfl rfl fun z2 w2b h hb2 hr2 => ?_
     unfold F89s0_l2 at h
     rcases bC ((c89s0_3 x0 z2)) with h26 | h26
     ·replace h := cT h26 h
      obtain ⟨y27, h28, h⟩ := bE h
      refine ws lv89s0 34 [true] [pb e144 (k144 x0 x1 z2.1 _ h28)] [] 4 n9_ [(2, dO 4 0), (3, dO 5 0), (4, .d (DS q84 [])), (5, dS 6), (6, dS 7), (12, dI z2.1), (13, dI y27.1), (80, dI (ln x0.Consumers)), (81, dI z2.1), (91, dB y27.2)] (zp x1 [.box 29 (d29 x0), .box 36 [.os 0, .os 1, .os 2, .os 3], v0_ y4, .dsl 84 3 8, .gh 3 [(3, 1), (3, 1), (3, 1)] (z2.2.map q84) none]) hC [pq h26] ?_
      rcases bC (y27.2) with h29 | h29
      ·replace h := cT h29 h
       obtain ⟨y30, h31, h⟩ := bE h
       obtain ⟨y32, h33, h⟩ := bE h
       obtain ⟨y34, h35, h⟩ := bE h
       obtain ⟨y36, h37, h⟩ := bE h
       exact wx w2b (st89s0_2 x0) (R89s0_2 x0 x1 y4) lv89s0 25 [true] [pr pI h31, pn pI h31, pr pI h31, pn pI h31, pr q84 h33, pn q84 h33, ⟨.appD (z2.2.map q84) (Int.toNat y30) (q84 y32) 2 (y32.Consumers.map pI) ([z2.1].map pI) 1 (((y32.Consumers.map pI).length + ([z2.1].map pI).length) * (8 + 1)) (y34.map pI), appD_get 1 (fun _ => rfl) h33 rfl h35⟩, pr q84 h33, ⟨.updD (z2.2.map q84) (Int.toNat y30) (Int.toNat y30) (q84 y32) (q84 (⟨y32.Buses, y32.Sources, y34⟩ : api_Island)) (y36.map q84), updD_get h33 h37⟩] [] 4 [0, 1, 2, 3, 4, 5, 6, 7, 12] (w64 (z2.1 + 1), y36) hC [pq h29] (sI h).symm
      ·replace h := cF h29 h
       exact wx w2b (st89s0_2 x0) (R89s0_2 x0 x1 y4) lv89s0 25 [false] [] [] 4 n9_ (w64 (z2.1 + 1), z2.2) hC [pq h29] (sI h).symm
     ·replace h := cF h26 h
      exact wx w2 (sa89s0_2) (Ra89s0_2 x1) lv89s0 26 [false] [] [] 4 [0, 1, 2, 3, 7, 8] (z2.1, z2.2) hC [pq h26] (hb2 _ (sI h).symm)
    ·have h := hnext2 _ hs2
     refine ws lv89s0 1 [] [] [.flat 4] 4 n5_ [(4, .d (DS q84 [])), (6, dS 4)] (zp x1 [v8_ z2.2]) hC [] ?_
     obtain ⟨y38, h39, h⟩ := bE h
     replace h := sI h
     subst h
     exact wr lv89s0 22 [] [pc e145s1 (k145s1 z2.2 _ h39) [4]] [] [.tmp 4] 4 [0, 1, 2, 3, 5] hC []
theorem e89s0 : EN 89 := en Tryz.func89
def lv127 : List Nat := [0, 1, 2, 3, 4, 5, 7, 9, 14, 15, 16, 17, 21, 22, 23, 24]
def st127_0 (y3 : (List api_Island)) (n0 : Nat) (z0 : (List api_Running)) : St := [(3, dO 0 0), (4, dO 1 0), (5, dO 6 0), (14, dS 7), (15, dI (ln y3)), (16, dI (cnt 0 n0))]
def R127_0 (x1 : api_Power) (y1 : api_Power) (y3 : (List api_Island)) (n0 : Nat) (z0 : (List api_Running)) : List Res := (.box 36 (d36 x1) :: .box 36 [.os 8, .os 9, .os 10, .os 11] :: v2_ y1.Closed :: v3_ z0 :: v0_ y1.Limits :: v4_ y1.Broken :: .box 36 [.os 2, .os 3, .os 4, .os 5] :: v8_ y3 :: ze [])
def sa127_0  (z0 : (List api_Running)) : St := [(4, dO 0 0), (5, dO 5 0)]
def Ra127_0 (y1 : api_Power) (z0 : (List api_Running)) : List Res := (.box 36 [.os 6, .os 7, .os 8, .os 9] :: v2_ y1.Closed :: v3_ z0 :: v0_ y1.Limits :: v4_ y1.Broken :: .box 36 [.os 1, .os 2, .os 3, .os 4] :: ze [])
def st127_1 (y3 : (List api_Island)) (n0 : Nat) (a0 : api_Island) (n1 : Nat) (z1 : (List api_Running)) : St := [(3, dO 0 0), (4, dO 1 0), (5, dO 6 0), (7, dO 12 0), (14, dS 7), (15, dI (ln y3)), (16, dI (cnt 0 n0)), (21, .d (DS pI a0.Sources)), (22, dI (ln a0.Sources)), (23, dI (cnt 0 n1))]
def R127_1 (x1 : api_Power) (y1 : api_Power) (y3 : (List api_Island)) (a0 : api_Island) (n1 : Nat) (z1 : (List api_Running)) : List Res := (.box 36 (d36 x1) :: .box 36 [.os 8, .os 9, .os 10, .os 11] :: v2_ y1.Closed :: v3_ z1 :: v0_ y1.Limits :: v4_ y1.Broken :: .box 36 [.os 2, .os 3, .os 4, .os 5] :: v8_ y3 :: ze [.box 84 (d84 a0)])
def sa127_1 (y3 : (List api_Island)) (n0 : Nat) (z1 : (List api_Running)) : St := [(3, dO 0 0), (4, dO 1 0), (5, dO 6 0), (14, dS 7), (15, dI (ln y3)), (16, dI (cnt 0 n0))]
def Ra127_1 (x1 : api_Power) (y1 : api_Power) (y3 : (List api_Island)) (z1 : (List api_Running)) : List Res := (.box 36 (d36 x1) :: .box 36 [.os 8, .os 9, .os 10, .os 11] :: v2_ y1.Closed :: v3_ z1 :: v0_ y1.Limits :: v4_ y1.Broken :: .box 36 [.os 2, .os 3, .os 4, .os 5] :: v8_ y3 :: ze [])
theorem k127 (x0 : api_Board) (x1 : api_Power) (r : api_Power) (h : F127 x0 x1 = some r) : CO 127 [.agg (d29 x0), .agg (d36 x1)] [] (.agg [.os 0, .os 1, .os 2, .os 3]) (zp r []) := by
 unfold F127 at h
 refine co 58 Tryz.func127 fun C hC => ?_
 obtain ⟨y1, h2, h⟩ := bE h
 obtain ⟨y3, h4, h⟩ := bE h
 refine ws lv127 28 [] [pc e65 (k65 x1 _ h2) [], pc e25 (k25 x0 x1 _ h4) [], pl q84 y3] [.ownb 2 0 4 1, .ownb 2 1 120 4, .ownb 2 2 3 1, .ownb 2 3 86 2] 0 [1, 2, 3, 4, 5, 6, 7, 8, 9, 10, 11, 12] (st127_0 y3 0 y1.Sources) (R127_0 x1 y1 y3 0 y1.Sources) hC [] ?_
 obtain ⟨w0, hm0, hret0, hnext0⟩ := aIn h
 clear h
 refine wc w0 (sa127_0) (Ra127_0 y1) ?_ fun z0 hs0 => ?_
 ·refine wb ?_
  refine wO 14 7 rfl rfl fun hl0 => ?_
  refine wF (by kernel_rfl) (F127_l0 x1) (st127_0 y3) (R127_0 x1 y1 y3) w0 y3 y1.Sources hm0 rfl rfl (fun z0 hn0 => ?_) fun n0 a0 z0 w0b hi0 hx0 h hb0 hr0 => ?_
  ·clear hm0
   exact wx w0 (sa127_0) (Ra127_0 y1) lv127 26 [false] [] [] 0 [1, 2, 3, 4, 5, 6, 8, 9, 10, 11] z0 hC [pq (cE hl0)] hn0
  ·unfold F127_l0 at h
   refine ws lv127 32 [true] [pr q84 (gC hx0 hl0), pn q84 (gC hx0 hl0), pl pI a0.Sources] [] 0 n13_ (st127_1 y3 n0 a0 0 z0) (R127_1 x1 y1 y3 a0 0 z0) hC [pq (cL hi0 hl0)] ?_
   obtain ⟨w1, hm1, hret1, hnext1⟩ := aIn h
   clear h
   refine wc w1 (sa127_1 y3 n0) (Ra127_1 x1 y1 y3) ?_ fun z1 hs1 => ?_
   ·refine wb ?_
    refine wL 21 rfl fun hl1 => ?_
    refine wF (by kernel_rfl) (F127_l1 x1 a0) (st127_1 y3 n0 a0) (R127_1 x1 y1 y3 a0) w1 a0.Sources z0 hm1 rfl rfl (fun z1 hn1 => ?_) fun n1 a1 z1 w1b hi1 hx1 h hb1 hr1 => ?_
    ·clear hm1
     exact wx w1 (sa127_1 y3 n0) (Ra127_1 x1 y1 y3) lv127 26 [false] [] [] 0 n12_ z1 hC [pq (cE hl1)] hn1
    ·unfold F127_l1 at h
     obtain ⟨y5, h6, h⟩ := bE h
     obtain ⟨y7, h8, h⟩ := bE h
     obtain ⟨y9, h10, h⟩ := bE h
     obtain ⟨y11, h12, h⟩ := bE h
     obtain ⟨y13, h14, h⟩ := bE h
     obtain ⟨y15, h16, h⟩ := bE h
     obtain ⟨y17, h18, h⟩ := bE h
     obtain ⟨y19, h20, h⟩ := bE h
     exact wx w1b (st127_1 y3 n0 a0 (n1 + 1)) (R127_1 x1 y1 y3 a0 (n1 + 1)) lv127 33 [true] [pt hx1 hl1, pr pI h6, pr q120 h8, pr pI h10, pr q120 h12, pr q120 h14, pu q120 h14 h16, pr q120 h18, pu q120 h18 h20] [] 0 n13_ y19 hC [pq (cL hi1 hl1)] (sI h).symm
   ·have h := hnext1 _ hs1
    exact wx w0b (st127_0 y3 (n0 + 1)) (R127_0 x1 y1 y3 (n0 + 1)) lv127 23 [] [] [] 0 n12_ z1 hC [] (sI h).symm
 ·have h := hnext0 _ hs0
  replace h := sI h
  subst h
  exact wr lv127 23 [] [] [] [.cell 4 36] 0 [1, 2, 3, 4] hC []
theorem e127 : EN 127 := en Tryz.func127
theorem k93 (x0 : api_Thruster) (r : Bool) (h : F93 x0 = some r) : CO 93 [.agg (d63 x0)] [] (.d (Bo r)) [] := by
 unfold F93 at h
 refine co 6 Tryz.func93 fun C hC => ?_
 obtain ⟨y1, h2, h⟩ := bE h
 replace h := sI h
 subst h
 exact wr n3_ 25 [] [pc e94 (k94 x0 _ h2) []] [] [.tmp 2] 0 [] hC []
theorem e93 : EN 93 := en Tryz.func93
def lv156 : List Nat := [0, 1, 2, 3, 4, 6, 7, 9, 12, 13, 14, 15, 21]
def st156_0 (x2 : Int) (y1 : (List api_Island)) (n0 : Nat) (z0 : Unit) : St := [(2, dI x2), (6, dO 0 0), (7, dB false), (12, dS 1), (13, dI (ln y1)), (14, dI (cnt 0 n0))]
def R156_0 (y1 : (List api_Island)) (n0 : Nat) (z0 : Unit) : List Res := [.box 84 [.os 2, .os 3, .os 4], v8_ y1, v0_ ([] : List Int), v0_ ([] : List Int), v0_ ([] : List Int)]
def sa156_0  (z0 : Unit) : St := [(6, dO 0 0), (7, dB false)]
def Ra156_0  (z0 : Unit) : List Res := [.box 84 [.os 1, .os 2, .os 3], v0_ ([] : List Int), v0_ ([] : List Int), v0_ ([] : List Int)]
theorem k156 (x0 : api_Board) (x1 : api_Power) (x2 : Int) (r : api_Island × Bool) (h : F156 x0 x1 x2 = some r) : CO 156 [.agg (d29 x0), .agg (d36 x1), .d (I x2)] [] (.tup [.agg (d84 r.1), .d (Bo r.2)]) [] := by
 unfold F156 at h
 refine co 25 Tryz.func156 fun C hC => ?_
 obtain ⟨y1, h2, h⟩ := bE h
 refine ws lv156 26 [] [pc e89 (k89 x0 x1 _ h2) [], pl q84 y1] [.ownb 2 0 3 1, .ownb 2 1 3 1, .ownb 2 2 3 1] 0 [2, 3, 4, 5, 6] (st156_0 x2 y1 0 ()) (R156_0 y1 0 ()) hC [] ?_
 obtain ⟨w0, hm0, hret0, hnext0⟩ := aIn h
 clear h
 refine wc w0 (sa156_0) (Ra156_0) ?_ fun z0 hs0 => ?_
 ·refine wb ?_
  refine wO 12 1 rfl rfl fun hl0 => ?_
  refine wF (by kernel_rfl) (F156_l0 x2) (st156_0 x2 y1) (R156_0 y1) w0 y1 () hm0 rfl rfl (fun z0 hn0 => ?_) fun n0 a0 z0 w0b hi0 hx0 h hb0 hr0 => ?_
  ·clear hm0
   exact wx w0 (sa156_0) (Ra156_0) lv156 26 [false] [] [] 0 [0, 2, 3, 4] () hC [pq (cE hl0)] hn0
  ·unfold F156_l0 at h
   obtain ⟨y3, h4, h⟩ := bE h
   refine ws lv156 32 [true] [pr q84 (gC hx0 hl0), pn q84 (gC hx0 hl0), pc e190 (k190 a0.Buses x2 _ h4) []] [] 0 n6_ [(2, dI x2), (6, dO 0 0), (7, dB false), (9, dO 5 0), (12, dS 1), (13, dI (ln y1)), (14, dI (cnt 0 n0)), (21, dB y3)] [.box 84 [.os 2, .os 3, .os 4], v8_ y1, v0_ ([] : List Int), v0_ ([] : List Int), v0_ ([] : List Int), .box 84 (d84 a0)] hC [pq (cL hi0 hl0)] ?_
   rcases bC (y3) with h5 | h5
   ·replace h := cT h5 h
    have hq := hret0 _ (hr0 _ (sI h).symm)
    replace hq := sI hq
    subst hq
    exact wr lv156 24 [true] [] [] [.cell 6 84, .tmp 7] 0 [] hC [pq h5]
   ·replace h := cF h5 h
    exact wx w0b (st156_0 x2 y1 (n0 + 1)) (R156_0 y1 (n0 + 1)) lv156 25 [false] [] [] 0 n5_ () hC [pq h5] (sI h).symm
 ·have h := hnext0 _ hs0
  replace h := sI h
  subst h
  exact wr lv156 23 [] [] [.ownb 0 0 3 1, .frz 4, .ownb 0 1 3 1, .frz 5, .ownb 0 2 3 1, .frz 6] [.cell 6 84, .tmp 7] 0 [] hC []
theorem e156 : EN 156 := en Tryz.func156
def lv106 : List Nat := [0, 1, 2, 3, 4, 5, 13]
theorem k106 (x0 : api_Thruster) (x1 : api_Thrust) (r : Int × Int) (h : F106 x0 x1 = some r) : CO 106 [.agg (d63 x0), .agg (d70 x1)] [] (.tup [.d (I r.1), .d (I r.2)]) [] := by
 unfold F106 at h
 refine co 31 Tryz.func106 fun C hC => ?_
 obtain ⟨y1, h2, h⟩ := bE h
 refine ws lv106 26 [] [pc e94 (k94 x0 _ h2) [], ⟨.when [(!y1, false)] (.call 159 [.agg (d70 x1)] [] (dB (F159 x1)) [] []), fun hg => ⟨e159, (k159 x1 _ rfl)⟩⟩] [] 0 [0, 1] [(2, dO 0 0), (3, dO 1 0), (4, dI 0), (5, dI 0), (13, dB ((!y1) || (!(F159 x1))))] [.box 63 (d63 x0), .box 70 (d70 x1)] hC [] ?_
 rcases bC (((!y1) || (!(F159 x1)))) with h3 | h3
 ·replace h := cT h3 h
  replace h := sI h
  subst h
  exact wr lv106 24 [true] [] [] [.tmp 4, .tmp 5] 0 [] hC [pq h3]
 ·replace h := cF h3 h
  obtain ⟨y4, h5, h⟩ := bE h
  replace h := sI h
  subst h
  exact wr lv106 25 [false] [pc e160 (k160 (w64 ((w64 ((w64 (x1.X * x1.X)) + (w64 (x1.Y * x1.Y)))) * x0.Cost)) 1000 _ h5) []] [] [.tmp 4, .tmp 5] 0 [] hC [pq h3]
theorem e106 : EN 106 := en Tryz.func106
def lv16b : List Nat := [0, 1, 2, 3, 4, 6, 7, 8, 10, 45, 51, 52, 53, 54, 61]
def st16_0 (y12 : api_Consumer) (n0 : Nat) (z0 : Unit) : St := [(3, dO 0 0), (4, dO 1 0), (6, dB false), (51, .d (DS pI y12.Needs)), (52, dI (ln y12.Needs)), (53, dI (cnt 0 n0))]
def R16_0 (x0 : api_Board) (x1 : api_Power) (n0 : Nat) (z0 : Unit) : List Res := [.box 29 (d29 x0), .box 36 (d36 x1)]
def sa16_0  (z0 : Unit) : St := [(6, dB false)]
def Ra16_0  (z0 : Unit) : List Res := []
theorem k16b (rec16 : api_Board -> api_Power -> Int -> Option Bool) (ih16 : ∀ (x0 : api_Board) (x1 : api_Power) (x2 : Int) (r : Bool), rec16 x0 x1 x2 = some r -> CO 16 [.agg (d29 x0), .agg (d36 x1), .d (I x2)] [] (.d (Bo r)) []) (x0 : api_Board) (x1 : api_Power) (x2 : Int) (r : Bool) (h : F16b rec16 x0 x1 x2 = some r) : CO 16 [.agg (d29 x0), .agg (d36 x1), .d (I x2)] [] (.d (Bo r)) [] := by
 unfold F16b at h
 refine co 63 Tryz.func16 fun C hC => ?_
 obtain ⟨y1, h2, h⟩ := bE h
 obtain ⟨y3, h4, h⟩ := bE h
 obtain ⟨y5, h6, h⟩ := bE h
 obtain ⟨y7, h8, h⟩ := bE h
 obtain ⟨y9, h10, h⟩ := bE h
 refine ws lv16b 28 [] [pc e48 (k48 x0 x1 x2 _ h2) [], pw e28 (fun hg => k28 x0 x1 y1.1 _ (gg h4 hg)) [], pw e49 (fun hg => k49 x1 4 x2 _ (gg h6 hg)) [], pR pI h8, pR q65 h10] [] 0 [0, 1] [(2, dI x2), (3, dO 0 0), (4, dO 1 0), (6, dB false), (45, dB (c16_0 y1 y3 y5 y7 y9))] [.box 29 (d29 x0), .box 36 (d36 x1)] hC [] ?_
 rcases bC ((c16_0 y1 y3 y5 y7 y9)) with h11 | h11
 ·replace h := cT h11 h
  replace h := sI h
  subst h
  exact wr lv16b 24 [true] [] [] [.tmp 6] 0 [] hC [pq h11]
 ·replace h := cF h11 h
  obtain ⟨y12, h13, h⟩ := bE h
  refine ws lv16b 26 [false] [pr q65 h13, pl pI y12.Needs] [] 0 [0, 1] (st16_0 y12 0 ()) (R16_0 x0 x1 0 ()) hC [pq h11] ?_
  obtain ⟨w0, hm0, hret0, hnext0⟩ := aIn h
  clear h
  refine wc w0 (sa16_0) (Ra16_0) ?_ fun z0 hs0 => ?_
  ·refine wb ?_
   refine wL 51 rfl fun hl0 => ?_
   refine wF (by kernel_rfl) (F16_l0 x0 x1 rec16) (st16_0 y12) (R16_0 x0 x1) w0 y12.Needs () hm0 rfl rfl (fun z0 hn0 => ?_) fun n0 a0 z0 w0b hi0 hx0 h hb0 hr0 => ?_
   ·clear hm0
    exact wx w0 (sa16_0) (Ra16_0) lv16b 26 [false] [] [] 0 [] () hC [pq (cE hl0)] hn0
   ·unfold F16_l0 at h
    obtain ⟨y14, h15, h⟩ := bE h
    refine ws lv16b 32 [true] [pt hx0 hl0, pc e16 (ih16 x0 x1 a0 _ h15) []] [] 0 [0, 1] [(3, dO 0 0), (4, dO 1 0), (6, dB false), (51, .d (DS pI y12.Needs)), (52, dI (ln y12.Needs)), (53, dI (cnt 0 n0)), (61, dB (!y14))] [.box 29 (d29 x0), .box 36 (d36 x1)] hC [pq (cL hi0 hl0)] ?_
    rcases bC (!y14) with h16 | h16
    ·replace h := cT h16 h
     have hq := hret0 _ (hr0 _ (sI h).symm)
     replace hq := sI hq
     subst hq
     exact wr lv16b 24 [true] [] [] [.tmp 6] 0 [] hC [pq h16]
    ·replace h := cF h16 h
     exact wx w0b (st16_0 y12 (n0 + 1)) (R16_0 x0 x1 (n0 + 1)) lv16b 25 [false] [] [] 0 [0, 1] () hC [pq h16] (sI h).symm
  ·have h := hnext0 _ hs0
   replace h := sI h
   subst h
   exact wr lv16b 23 [] [] [] [.tmp 6] 0 [] hC []
theorem k16f (n : Nat) : ∀ (x0 : api_Board) (x1 : api_Power) (x2 : Int) (r : Bool), F16f n x0 x1 x2 = some r -> CO 16 [.agg (d29 x0), .agg (d36 x1), .d (I x2)] [] (.d (Bo r)) [] := by
 induction n with
 | zero => intro x0 x1 x2 r h; cases h
 | succ n ih => intro x0 x1 x2 r h; exact k16b _ ih x0 x1 x2 r h
theorem k16 (x0 : api_Board) (x1 : api_Power) (x2 : Int) (r : Bool) (h : F16 x0 x1 x2 = some r) : CO 16 [.agg (d29 x0), .agg (d36 x1), .d (I x2)] [] (.d (Bo r)) [] := k16f 1000 x0 x1 x2 r h
def lv57 : List Nat := [0, 1, 2, 3, 4, 5, 6, 7, 9, 14, 21, 22, 23, 24, 30]
def st57_0 (y6 : (List api_Island)) (n0 : Nat) (z0 : (List api_Running)) : St := [(3, dO 0 0), (4, dO 1 0), (5, dI 0), (7, dO 10 0), (21, dS 11), (22, dI (ln y6)), (23, dI (cnt 0 n0))]
def R57_0 (x1 : api_Power) (y4 : api_Power) (y6 : (List api_Island)) (n0 : Nat) (z0 : (List api_Running)) : List Res := (.box 36 (d36 x1) :: .box 36 [.os 2, .os 3, .os 4, .os 5] :: ze [v2_ y4.Closed, v3_ z0, v0_ y4.Limits, v4_ y4.Broken, .box 36 [.os 6, .os 7, .os 8, .os 9], v8_ y6])
def sa57_0  (z0 : (List api_Running)) : St := [(4, dO 0 0), (5, dI 0), (7, dO 9 0)]
def Ra57_0 (y4 : api_Power) (z0 : (List api_Running)) : List Res := (.box 36 [.os 1, .os 2, .os 3, .os 4] :: ze [v2_ y4.Closed, v3_ z0, v0_ y4.Limits, v4_ y4.Broken, .box 36 [.os 5, .os 6, .os 7, .os 8]])
theorem k57 (x0 : api_Board) (x1 : api_Power) (r : api_Power × Int) (h : F57 x0 x1 = some r) : CO 57 [.agg (d29 x0), .agg (d36 x1)] [] (.tup [.agg [.os 0, .os 1, .os 2, .os 3], .d (I r.2)]) (zp r.1 []) := by
 unfold F57 at h
 refine co 45 Tryz.func57 fun C hC => ?_
 obtain ⟨y1, h2, h⟩ := bE h
 refine ws lv57 28 [] [pc e43 (k43 x0 x1 _ h2) []] [.ownb 2 0 4 1, .ownb 2 1 120 4, .ownb 2 2 3 1, .ownb 2 3 86 2] 0 n7_ [(2, dO 0 0), (3, dO 1 0), (4, dO 2 0), (5, dI 0), (6, dI y1), (14, dB (y1 != 0))] (.box 29 (d29 x0) :: .box 36 (d36 x1) :: .box 36 [.os 3, .os 4, .os 5, .os 6] :: ze []) hC [] ?_
 rcases bC ((y1 != 0)) with h3 | h3
 ·replace h := cT h3 h
  cases h
 ·replace h := cF h3 h
  obtain ⟨y4, h5, h⟩ := bE h
  obtain ⟨y6, h7, h⟩ := bE h
  refine ws lv57 28 [false] [pc e116 (k116 x1 _ h5) [], pc e89 (k89 x0 x1 _ h7) [], pl q84 y6] [] 0 [1, 2, 3, 4, 5, 6, 7, 8, 9, 10, 11, 12] (st57_0 y6 0 y4.Sources) (R57_0 x1 y4 y6 0 y4.Sources) hC [pq h3] ?_
  obtain ⟨w0, hm0, hret0, hnext0⟩ := aIn h
  clear h
  refine wc w0 (sa57_0) (Ra57_0 y4) ?_ fun z0 hs0 => ?_
  ·refine wb ?_
   refine wO 21 11 rfl rfl fun hl0 => ?_
   refine wF (by kernel_rfl) (F57_l0 x1 y4) (st57_0 y6) (R57_0 x1 y4 y6) w0 y6 y4.Sources hm0 rfl rfl (fun z0 hn0 => ?_) fun n0 a0 z0 w0b hi0 hx0 h hb0 hr0 => ?_
   ·clear hm0
    exact wx w0 (sa57_0) (Ra57_0 y4) lv57 26 [false] [] [] 0 [1, 2, 3, 4, 5, 6, 7, 8, 9, 10] z0 hC [pq (cE hl0)] hn0
   ·unfold F57_l0 at h
    refine ws lv57 32 [true] [pr q84 (gC hx0 hl0), pn q84 (gC hx0 hl0), pl pI a0.Sources] [] 0 n13_ [(3, dO 0 0), (4, dO 1 0), (5, dI 0), (7, dO 10 0), (9, dO 12 0), (21, dS 11), (22, dI (ln y6)), (23, dI (cnt 0 n0)), (30, dB (c57_2 a0))] (.box 36 (d36 x1) :: .box 36 [.os 2, .os 3, .os 4, .os 5] :: ze [v2_ y4.Closed, v3_ z0, v0_ y4.Limits, v4_ y4.Broken, .box 36 [.os 6, .os 7, .os 8, .os 9], v8_ y6, .box 84 (d84 a0)]) hC [pq (cL hi0 hl0)] ?_
    rcases bC ((c57_2 a0)) with h8 | h8
    ·replace h := cT h8 h
     obtain ⟨y9, h10, h⟩ := bE h
     obtain ⟨y11, h12, h⟩ := bE h
     obtain ⟨y13, h14, h⟩ := bE h
     exact wx w0b (st57_0 y6 (n0 + 1)) (R57_0 x1 y4 y6 (n0 + 1)) lv57 25 [true] [pr pI h10, pr q120 h12, pc e117s0 (k117s0 (⟨y4.Closed, z0, y4.Limits, y4.Broken⟩ : api_Power) a0.Sources y11 _ h14) [6, 7, 8, 9]] [] 0 n12_ y13 hC [pq h8] (sI h).symm
    ·replace h := cF h8 h
     exact wx w0b (st57_0 y6 (n0 + 1)) (R57_0 x1 y4 y6 (n0 + 1)) lv57 25 [false] [] [] 0 n12_ z0 hC [pq h8] (sI h).symm
  ·have h := hnext0 _ hs0
   replace h := sI h
   subst h
   exact wr lv57 23 [] [] [] [.cell 4 36, .tmp 5] 0 [5, 6, 7, 8] hC []
theorem e57 : EN 57 := en Tryz.func57
def lv237 : List Nat := [0, 1, 2, 3, 4, 6, 7, 9, 30, 32, 33, 40]
theorem k237 (x0 : api_Board) (x1 : api_Power) (x2 : Int) (r : Bool) (h : F237 x0 x1 x2 = some r) : CO 237 [.agg (d29 x0), .agg (d36 x1), .d (I x2)] [] (.d (Bo r)) [] := by
 unfold F237 at h
 refine co 74 Tryz.func237 fun C hC => ?_
 obtain ⟨y1, h2, h⟩ := bE h
 obtain ⟨y3, h4, h⟩ := bE h
 obtain ⟨y5, h6, h⟩ := bE h
 obtain ⟨y7, h8, h⟩ := bE h
 refine ws lv237 28 [] [pr q147 h2, pr pB h4, pw e103 (fun hg => k103 x1 2 x2 _ (gg h6 hg)) [], pw e103 (fun hg => k103 x1 3 y1.A _ (gg h8 hg)) []] [] 0 n3_ [(3, dO 0 0), (4, dO 1 0), (6, dB false), (7, dO 2 0), (30, dB ((y3 || y5) || y7))] [.box 29 (d29 x0), .box 36 (d36 x1), .box 147 (d147 y1)] hC [] ?_
 rcases bC (((y3 || y5) || y7)) with h9 | h9
 ·replace h := cT h9 h
  cases h
 ·replace h := cF h9 h
  rcases bC ((y1.Kind == 1)) with h10 | h10
  ·replace h := cT h10 h
   cases h
  ·replace h := cF h10 h
   rcases bC ((y1.Kind == 2)) with h11 | h11
   ·replace h := cT h11 h
    obtain ⟨y12, h13, h⟩ := bE h
    obtain ⟨y14, h15, h⟩ := bE h
    replace h := sI h
    subst h
    exact wr lv237 35 [false, false, true] [pc e103 (k103 x1 1 y1.B _ h13) [], pR q120 h15] [] [.tmp 6] 0 [] hC [pq h9, pq h10, pq h11]
   ·replace h := cF h11 h
    obtain ⟨y16, h17, h⟩ := bE h
    obtain ⟨y18, h19, h⟩ := bE h
    replace h := sI h
    subst h
    exact wr lv237 39 [false, false, false] [pc e101 (k101 x0 x1 y1.B _ h17) [], pc e103 (k103 x1 4 y1.B _ h19) []] [] [.tmp 6] 0 [] hC [pq h9, pq h10, pq h11]
theorem e237 : EN 237 := en Tryz.func237
def lv188s1 : List Nat := [0, 2, 3, 24, 25, 26, 66]
def st188s1_0 (y1 : api_Power × Int) (z0 : Int) : St := [(0, dO 0 0), (24, dI (ln y1.1.Sources)), (25, dI z0)]
def R188s1_0 (x0 : restore_worker) (y1 : api_Power × Int) (z0 : Int) : List Res := (.box 186 (zb x0.board [.os 5, .os 6, .os 7, .os 8, I x0.time]) :: zp x0.power (zp y1.1 []))
def sa188s1_0  (z0 : Int) : St := []
def Ra188s1_0 (x0 : restore_worker) (y1 : api_Power × Int) (z0 : Int) : List Res := (.box 186 (zb x0.board [.os 5, .os 6, .os 7, .os 8, I x0.time]) :: zp x0.power (zp y1.1 []))
theorem k188s1 (x0 : restore_worker) (r : restore_worker) (h : F188s1 x0 = some r) : CO 188 [.d (.o 0 0)] (.box 186 (zb x0.board [.os 1, .os 2, .os 3, .os 4, I x0.time]) :: zp x0.power []) (.tup []) (.box 186 (zb r.board [.os 5, .os 6, .os 7, .os 8, I r.time]) :: .non :: .non :: .non :: .non :: zp r.power []) := by
 unfold F188s1 at h
 refine co 71 Tryz.func188 fun C hC => ?_
 obtain ⟨y1, h2, h⟩ := bE h
 refine ws lv188s1 25 [] [⟨.call 222 [.agg (d29 x0.board), .agg [.os 0, .os 1, .os 2, .os 3]] (zp x0.power []) (.tup [.agg [.os 4, .os 5, .os 6, .os 7], dI y1.2]) (zp x0.power (zp y1.1 [])) [1, 2, 3, 4], ⟨e222, ((k222 x0.board x0.power _ h2).lend (by kernel_rfl) (by kernel_rfl) (by kernel_rfl) ⟨fS (fun _ => rfl), fS (fun _ => rfl), fS (fun _ => rfl), fS (fun _ => rfl), trivial⟩ (by kernel_rfl) (by kernel_rfl))⟩⟩, pl q120 y1.1.Sources] [] 5 n9_ (st188s1_0 y1 0) (R188s1_0 x0 y1 0) hC [] ?_
 obtain ⟨w0, hm0, hret0, hnext0⟩ := aIn h
 clear h
 refine wc w0 (sa188s1_0) (Ra188s1_0 x0 y1) ?_ fun z0 hs0 => ?_
 ·refine wb ?_
  refine wW (by kernel_rfl) (F188s1_l0 x0 y1) (st188s1_0 y1) (R188s1_0 x0 y1) w0 1152921504606846976 0 hm0 rfl rfl fun z0 w0b h hb0 hr0 => ?_
  unfold F188s1_l0 at h
  rcases bC ((c188s1_3 y1 z0)) with h3 | h3
  ·replace h := cT h3 h
   obtain ⟨y4, h5, h⟩ := bE h
   obtain ⟨y6, h7, h⟩ := bE h
   obtain ⟨y8, h9, h⟩ := bE h
   refine ws lv188s1 34 [true] [pr q120 h5, pn q120 h5, pv e221s0 (fun hg => k221s0 (⟨x0.board, y1.1, x0.time⟩ : restore_worker) z0 _ (gg h7 hg)), ⟨.when [(((y4.State == 1) && y6), true)] (.row (y1.1.Sources.map q120) (((Int.toNat z0) : Nat) : Int) (q120 y4)), fun hg => rN h5⟩, pR q139 h9] [] 5 n9_ [(0, dO 0 0), (3, .d (.oe 6 (Int.toNat z0) 4 0)), (24, dI (ln y1.1.Sources)), (25, dI z0), (66, dB (c188s1_4 x0 y4 y6 y8))] (.box 186 (zb x0.board [.os 5, .os 6, .os 7, .os 8, I x0.time]) :: zp x0.power (zp y1.1 [])) hC [pq h3] ?_
   rcases bC ((c188s1_4 x0 y4 y6 y8)) with h10 | h10
   ·replace h := cT h10 h
    cases h
   ·replace h := cF h10 h
    exact wx w0b (st188s1_0 y1) (R188s1_0 x0 y1) lv188s1 25 [false] [] [] 5 n9_ (w64 (z0 + 1)) hC [pq h10] (sI h).symm
  ·replace h := cF h3 h
   exact wx w0 (sa188s1_0) (Ra188s1_0 x0 y1) lv188s1 26 [false] [] [] 5 n9_ z0 hC [pq h3] (hb0 _ (sI h).symm)
 ·have h := hnext0 _ hs0
  replace h := sI h
  subst h
  exact wf lv188s1 20 [] [] [.frz 1, .frz 2, .frz 3, .frz 4] [] 5 n9_ hC []
theorem e188s1 : EN 188 := en Tryz.func188
theorem k39 (x0 : api_Board) (x1 : api_Power) (r : Bool) (h : F39 x0 x1 = some r) : CO 39 [.agg (d29 x0), .agg (d36 x1)] [] (.d (Bo r)) [] := by
 unfold F39 at h
 refine co 16 Tryz.func39 fun C hC => ?_
 obtain ⟨y1, h2, h⟩ := bE h
 obtain ⟨y3, h4, h⟩ := bE h
 obtain ⟨y5, h6, h⟩ := bE h
 replace h := sI h
 subst h
 exact wr n5_ 25 [] [pc e43 (k43 x0 x1 _ h2) [], pw e89 (fun hg => k89 x0 x1 _ (gg h4 hg)) [], pv e88s0 (fun hg => k88s0 y3 _ (gg h6 hg))] [] [.tmp 4] 0 [] hC []
theorem e39 : EN 39 := en Tryz.func39
def lv131 : List Nat := [0, 1, 2, 3, 4, 5, 6, 11]
theorem k131 (x0 : api_Board) (x1 : api_Power) (r : api_Power × Int) (h : F131 x0 x1 = some r) : CO 131 [.agg (d29 x0), .agg (d36 x1)] [] (.tup [.agg [.os 0, .os 1, .os 2, .os 3], .d (I r.2)]) (zp r.1 []) := by
 unfold F131 at h
 refine co 17 Tryz.func131 fun C hC => ?_
 obtain ⟨y1, h2, h⟩ := bE h
 refine ws lv131 28 [] [pc e53 (k53 x0 x1 _ h2) []] [.ownb 2 0 4 1, .ownb 2 1 120 4, .ownb 2 2 3 1, .ownb 2 3 86 2] 0 n7_ [(2, dO 0 0), (3, dO 1 0), (4, dO 2 0), (5, dI 0), (6, dI y1), (11, dB (y1 != 0))] (.box 29 (d29 x0) :: .box 36 (d36 x1) :: .box 36 [.os 3, .os 4, .os 5, .os 6] :: ze []) hC [] ?_
 rcases bC ((y1 != 0)) with h3 | h3
 ·replace h := cT h3 h
  replace h := sI h
  subst h
  exact wr lv131 24 [true] [] [.ownb 2 0 4 1, .ownb 2 1 120 4, .ownb 2 2 3 1, .ownb 2 3 86 2] [.cell 4 36, .tmp 5] 0 [7, 8, 9, 10] hC [pq h3]
 ·replace h := cF h3 h
  obtain ⟨y4, h5, h⟩ := bE h
  replace h := sI h
  subst h
  exact wr lv131 25 [false] [pc e127 (k127 x0 x1 _ h5) []] [] [.cell 4 36, .tmp 5] 0 [7, 8, 9, 10] hC [pq h3]
theorem e131 : EN 131 := en Tryz.func131
def lv147s0 : List Nat := [0, 1, 4, 5, 7, 8, 9, 16]
def st147s0_0 (x0 : List api_Thruster) (n0 : Nat) (z0 : Unit) : St := [(0, .d (DS q63 x0)), (1, .d (.fn (.func 93) [] [])), (4, dI 0), (7, dI (ln x0)), (8, dI (cnt 0 n0))]
def R147s0_0  (n0 : Nat) (z0 : Unit) : List Res := []
def sa147s0_0  (z0 : Unit) : St := [(4, dI 0)]
def Ra147s0_0  (z0 : Unit) : List Res := []
theorem k147s0 (x0 : List api_Thruster) (r : Int) (h : F147s0 x0 = some r) : CO 147 [.d (DS q63 x0), .d (.fn (.func 93) [] [])] [] (.d (I r)) [] := by
 unfold F147s0 at h
 refine co 19 Tryz.func147 fun C hC => ?_
 refine ws lv147s0 26 [] [pl q63 x0] [] 0 [] (st147s0_0 x0 0 ()) (R147s0_0 0 ()) hC [] ?_
 obtain ⟨w0, hm0, hret0, hnext0⟩ := aIn h
 clear h
 refine wc w0 (sa147s0_0) (Ra147s0_0) ?_ fun z0 hs0 => ?_
 ·refine wb ?_
  refine wL 0 rfl fun hl0 => ?_
  refine wF (by kernel_rfl) F147s0_l0 (st147s0_0 x0) (R147s0_0) w0 x0 () hm0 rfl rfl (fun z0 hn0 => ?_) fun n0 a0 z0 w0b hi0 hx0 h hb0 hr0 => ?_
  ·clear hm0
   exact wx w0 (sa147s0_0) (Ra147s0_0) lv147s0 26 [false] [] [] 0 [] () hC [pq (cE hl0)] hn0
  ·unfold F147s0_l0 at h
   obtain ⟨y1, h2, h⟩ := bE h
   refine ws lv147s0 32 [true] [pt hx0 hl0, pc e93 (k93 a0 _ h2) []] [] 0 [] [(0, .d (DS q63 x0)), (1, .d (.fn (.func 93) [] [])), (4, dI 0), (5, dI (cnt 0 n0)), (7, dI (ln x0)), (8, dI (cnt 0 n0)), (16, dB y1)] [] hC [pq (cL hi0 hl0)] ?_
   rcases bC (y1) with h3 | h3
   ·replace h := cT h3 h
    have hq := hret0 _ (hr0 _ (sI h).symm)
    replace hq := sI hq
    subst hq
    exact wr lv147s0 24 [true] [] [] [.tmp 4] 0 [] hC [pq h3]
   ·replace h := cF h3 h
    exact wx w0b (st147s0_0 x0 (n0 + 1)) (R147s0_0 (n0 + 1)) lv147s0 25 [false] [] [] 0 [] () hC [pq h3] (sI h).symm
 ·have h := hnext0 _ hs0
  replace h := sI h
  subst h
  exact wr lv147s0 23 [] [] [] [.tmp 4] 0 [] hC []
theorem e147s0 : EN 147 := en Tryz.func147
theorem k102 (x0 : api_Board) (x1 : api_Power) (x2 : Int) (r : Bool) (h : F102 x0 x1 x2 = some r) : CO 102 [.agg (d29 x0), .agg (d36 x1), .d (I x2)] [] (.d (Bo r)) [] := by
 unfold F102 at h
 refine co 20 Tryz.func102 fun C hC => ?_
 obtain ⟨y1, h2, h⟩ := bE h
 replace h := sI h
 subst h
 exact wr [0, 1, 2, 3, 4, 6, 7] 27 [] [pc e156 (k156 x0 x1 x2 _ h2) [], pl pI y1.1.Sources] [] [.tmp 6] 0 [] hC []
theorem e102 : EN 102 := en Tryz.func102
def lv47 : List Nat := [0, 1, 2, 4, 5, 6, 7, 17, 24]
theorem k47 (x0 : api_Thruster) (x1 : Int) (r : Int) (h : F47 x0 x1 = some r) : CO 47 [.agg (d63 x0), .d (I x1)] [] (.d (I r)) [] := by
 unfold F47 at h
 refine co 40 Tryz.func47 fun C hC => ?_
 obtain ⟨y1, h2, h⟩ := bE h
 rcases bC (((y1.2 != 0) || (decide (x1 < 0)))) with h3 | h3
 ·replace h := cT h3 h
  replace h := sI h
  subst h
  exact wr lv47 32 [true] [pc e106 (k106 x0 (⟨x0.Max, 0⟩ : api_Thrust) _ h2) []] [] [.tmp 4] 0 [] hC [pq h3]
 ·replace h := cF h3 h
  rcases bC (decide (x1 >= y1.1)) with h4 | h4
  ·replace h := cT h4 h
   replace h := sI h
   subst h
   exact wr lv47 35 [false, true] [pc e106 (k106 x0 (⟨x0.Max, 0⟩ : api_Thrust) _ h2) []] [] [.tmp 4] 0 [] hC [pq h3, pq h4]
  ·replace h := cF h4 h
   obtain ⟨u6, h5, h⟩ := bE h
   obtain ⟨y7, h8, h⟩ := bE h
   replace h := sI h
   subst h
   exact wr lv47 39 [false, false] [pc e106 (k106 x0 (⟨x0.Max, 0⟩ : api_Thrust) _ h2) [], ⟨.nz x0.Cost, nz_get h5⟩, pc e107 (k107 (w64 (Int.tdiv (w64 (1000 * x1)) x0.Cost)) _ h8) []] [] [.tmp 4] 0 [] hC [pq h3, pq h4]
theorem e47 : EN 47 := en Tryz.func47
def lv21 : List Nat := [0, 1, 2, 3, 4, 5, 6, 7, 8, 9, 18, 22, 36, 43]
theorem k21 (x0 : api_Board) (x1 : api_Table) (x2 : api_Plant) (r : Int) (h : F21 x0 x1 x2 = some r) : CO 21 [.agg (d29 x0), .agg (d31 x1), .agg (d40 x2)] [] (.d (I r)) [] := by
 unfold F21 at h
 refine co 55 Tryz.func21 fun C hC => ?_
 obtain ⟨y1, h2, h⟩ := bE h
 refine ws lv21 31 [] [pc e57 (k57 x0 x2.Power _ h2) []] [] 0 n9_ [(3, dO 0 0), (4, dO 1 0), (5, dO 2 0), (6, dI 0), (7, dO 7 0), (8, dI y1.2), (9, dO 8 0), (18, dB (y1.2 != 0))] (.box 29 (d29 x0) :: .box 31 (d31 x1) :: .box 40 (d40 x2) :: zp y1.1 [.box 36 [.os 3, .os 4, .os 5, .os 6], .box 126 [.fn (.func 58) [] [.o 2 0]]]) hC [] ?_
 rcases bC ((y1.2 != 0)) with h3 | h3
 ·replace h := cT h3 h
  cases h
 ·replace h := cF h3 h
  rcases bC ((c21_0 x1 x2)) with h4 | h4
  ·replace h := cT h4 h
   cases h
  ·replace h := cF h4 h
   rcases bC (((ln x2.Rosters) != x0.Buses)) with h5 | h5
   ·replace h := cT h5 h
    cases h
   ·replace h := cF h5 h
    obtain ⟨y6, h7, h⟩ := bE h
    obtain ⟨y8, h9, h⟩ := bE h
    refine ws lv21 30 [false, false, false] [pc e59 (k59 x1 _ rfl) [], pl q130 x2.Rosters, pb e60 (k60 x2.Power y1.1 _ h7), ⟨.whenR [(!y6, false)] (.call 61 [.d (DS q130 x2.Rosters), .d (.fn (.func 62) [] [.o 0 0])] [.box 126 [.fn (.func 58) [] [.o 1 0]], .box 40 (d40 x2)] (dB y8.1) [.box 126 [.fn (.func 58) [] [.o 1 0]], .box 40 (d40 y8.2)] [8, 2]), ⟨fun hg => ⟨e61s0, (k61s0 x2.Rosters x2 _ (gg h9 hg))⟩, fun hg => by have e := guardO_not h9 hg; subst e; rfl⟩⟩] [] 0 [] [(6, dI 0), (43, dB ((!y6) || y8.1))] [] hC [pq h3, pq h4, pq h5] ?_
    rcases bC (((!y6) || y8.1)) with h10 | h10
    ·replace h := cT h10 h
     cases h
    ·replace h := cF h10 h
     replace h := sI h
     subst h
     exact wr lv21 26 [false] [] [] [.tmp 6] 0 [] hC [pq h10]
theorem e21 : EN 21 := en Tryz.func21
def lv216 : List Nat := [0, 1, 2, 3, 4, 6, 7, 8, 20]
theorem k216 (x0 : api_Board) (x1 : api_Power) (x2 : Int) (r : Int × Bool) (h : F216 x0 x1 x2 = some r) : CO 216 [.agg (d29 x0), .agg (d36 x1), .d (I x2)] [] (.tup [.d (I r.1), .d (Bo r.2)]) [] := by
 unfold F216 at h
 refine co 25 Tryz.func216 fun C hC => ?_
 obtain ⟨y1, h2, h⟩ := bE h
 refine ws lv216 28 [] [pc e156 (k156 x0 x1 x2 _ h2) [], pl pI y1.1.Sources] [] 0 [2] [(6, dI 0), (7, dB false), (8, dO 0 0), (20, dB ((ln y1.1.Sources) == 0))] [.box 84 (d84 y1.1)] hC [] ?_
 rcases bC (((ln y1.1.Sources) == 0)) with h3 | h3
 ·replace h := cT h3 h
  replace h := sI h
  subst h
  exact wr lv216 24 [true] [] [] [.tmp 6, .tmp 7] 0 [] hC [pq h3]
 ·replace h := cF h3 h
  obtain ⟨y4, h5, h⟩ := bE h
  replace h := sI h
  subst h
  exact wr lv216 25 [false] [pr pI h5] [] [.tmp 6, .tmp 7] 0 [] hC [pq h3]
theorem e216 : EN 216 := en Tryz.func216
def lv214 : List Nat := [0, 1, 2, 3, 4, 6, 7, 9, 11, 20, 21, 22, 23, 29]
def st214_0 (y1 : api_Island × Bool) (n0 : Nat) (z0 : Int) : St := [(4, dO 0 0), (6, dI 0), (7, dO 1 0), (9, dI z0), (20, .d (DS pI y1.1.Consumers)), (21, dI (ln y1.1.Consumers)), (22, dI (cnt 0 n0))]
def R214_0 (x1 : api_Power) (y1 : api_Island × Bool) (n0 : Nat) (z0 : Int) : List Res := [.box 36 (d36 x1), .box 84 (d84 y1.1)]
def sa214_0  (z0 : Int) : St := [(6, dI 0), (9, dI z0)]
def Ra214_0  (z0 : Int) : List Res := []
theorem k214 (x0 : api_Board) (x1 : api_Power) (x2 : Int) (r : Int) (h : F214 x0 x1 x2 = some r) : CO 214 [.agg (d29 x0), .agg (d36 x1), .d (I x2)] [] (.d (I r)) [] := by
 unfold F214 at h
 refine co 39 Tryz.func214 fun C hC => ?_
 obtain ⟨y1, h2, h⟩ := bE h
 refine ws lv214 30 [] [pc e156 (k156 x0 x1 x2 _ h2) [], pl pI y1.1.Consumers] [] 0 [1, 2] (st214_0 y1 0 0) (R214_0 x1 y1 0 0) hC [] ?_
 obtain ⟨w0, hm0, hret0, hnext0⟩ := aIn h
 clear h
 refine wc w0 (sa214_0) (Ra214_0) ?_ fun z0 hs0 => ?_
 ·refine wb ?_
  refine wL 20 rfl fun hl0 => ?_
  refine wF (by kernel_rfl) (F214_l0 x1 y1) (st214_0 y1) (R214_0 x1 y1) w0 y1.1.Consumers 0 hm0 rfl rfl (fun z0 hn0 => ?_) fun n0 a0 z0 w0b hi0 hx0 h hb0 hr0 => ?_
  ·clear hm0
   exact wx w0 (sa214_0) (Ra214_0) lv214 26 [false] [] [] 0 [] z0 hC [pq (cE hl0)] hn0
  ·unfold F214_l0 at h
   rcases bC (decide ((ln y1.1.Sources) > 0)) with h3 | h3
   ·replace h := cT h3 h
    obtain ⟨y4, h5, h⟩ := bE h
    exact wx w0b (st214_0 y1 (n0 + 1)) (R214_0 x1 y1 (n0 + 1)) lv214 36 [true, true] [pt hx0 hl0, pl pI y1.1.Sources, pr pI h5] [] 0 [0, 1] (w64 (z0 + y4)) hC [pq (cL hi0 hl0), pq h3] (sI h).symm
   ·replace h := cF h3 h
    cases h
 ·have h := hnext0 _ hs0
  replace h := sI h
  subst h
  exact wr lv214 23 [] [] [] [.tmp 6] 0 [] hC []
theorem e214 : EN 214 := en Tryz.func214
def lv213 : List Nat := [0, 1, 2, 3, 4, 6, 7, 9, 11, 20, 21, 22, 23]
def st213_0 (y1 : api_Island × Bool) (n0 : Nat) (z0 : Int) : St := [(3, dO 0 0), (6, dI 0), (9, dI z0), (20, .d (DS pI y1.1.Sources)), (21, dI (ln y1.1.Sources)), (22, dI (cnt 0 n0))]
def R213_0 (x0 : api_Board) (n0 : Nat) (z0 : Int) : List Res := [.box 29 (d29 x0)]
def sa213_0  (z0 : Int) : St := [(6, dI 0), (9, dI z0)]
def Ra213_0  (z0 : Int) : List Res := []
theorem k213 (x0 : api_Board) (x1 : api_Power) (x2 : Int) (r : Int) (h : F213 x0 x1 x2 = some r) : CO 213 [.agg (d29 x0), .agg (d36 x1), .d (I x2)] [] (.d (I r)) [] := by
 unfold F213 at h
 refine co 36 Tryz.func213 fun C hC => ?_
 obtain ⟨y1, h2, h⟩ := bE h
 refine ws lv213 30 [] [pc e156 (k156 x0 x1 x2 _ h2) [], pl pI y1.1.Sources] [] 0 [0] (st213_0 y1 0 0) (R213_0 x0 0 0) hC [] ?_
 obtain ⟨w0, hm0, hret0, hnext0⟩ := aIn h
 clear h
 refine wc w0 (sa213_0) (Ra213_0) ?_ fun z0 hs0 => ?_
 ·refine wb ?_
  refine wL 20 rfl fun hl0 => ?_
  refine wF (by kernel_rfl) (F213_l0 x0) (st213_0 y1) (R213_0 x0) w0 y1.1.Sources 0 hm0 rfl rfl (fun z0 hn0 => ?_) fun n0 a0 z0 w0b hi0 hx0 h hb0 hr0 => ?_
  ·clear hm0
   exact wx w0 (sa213_0) (Ra213_0) lv213 26 [false] [] [] 0 [] z0 hC [pq (cE hl0)] hn0
  ·unfold F213_l0 at h
   obtain ⟨y3, h4, h⟩ := bE h
   exact wx w0b (st213_0 y1 (n0 + 1)) (R213_0 x0 (n0 + 1)) lv213 33 [true] [pt hx0 hl0, pr q139 h4] [] 0 [0] (w64 (z0 + y3.Rating)) hC [pq (cL hi0 hl0)] (sI h).symm
 ·have h := hnext0 _ hs0
  replace h := sI h
  subst h
  exact wr lv213 23 [] [] [] [.tmp 6] 0 [] hC []
theorem e213 : EN 213 := en Tryz.func213
def lv178 : List Nat := [0, 1, 2, 3, 4, 6, 7, 8, 9, 11, 12, 13, 22, 23, 24, 25, 26, 30, 31, 32, 33, 47]
def st178_0  (n0 : Nat) (z0 : Unit) : St := [(3, dO 0 0), (4, dO 1 0), (6, dI 0), (7, dB false), (8, dO 2 0), (23, .d (DS pI [2, 1, 0])), (24, dI ([2, 1, 0].length : Int)), (25, dI (cnt 0 n0))]
def R178_0 (x0 : api_Board) (x1 : api_Power) (y1 : api_Island × Bool) (n0 : Nat) (z0 : Unit) : List Res := [.box 29 (d29 x0), .box 36 (d36 x1), .box 84 (d84 y1.1)]
def sa178_0  (z0 : Unit) : St := [(6, dI 0), (7, dB false)]
def Ra178_0  (z0 : Unit) : List Res := []
def st178_1 (x1 : api_Power) (n0 : Nat) (a0 : Int) (n1 : Nat) (z1 : Unit) : St := [(3, dO 0 0), (4, dO 1 0), (6, dI 0), (7, dB false), (8, dO 2 0), (11, dI a0), (23, .d (DS pI [2, 1, 0])), (24, dI ([2, 1, 0].length : Int)), (25, dI (cnt 0 n0)), (30, .d (DS q120 x1.Sources)), (31, dI (ln x1.Sources)), (32, dI (cnt 0 n1))]
def R178_1 (x0 : api_Board) (x1 : api_Power) (y1 : api_Island × Bool) (n1 : Nat) (z1 : Unit) : List Res := [.box 29 (d29 x0), .box 36 (d36 x1), .box 84 (d84 y1.1)]
def sa178_1 (n0 : Nat) (z1 : Unit) : St := [(3, dO 0 0), (4, dO 1 0), (6, dI 0), (7, dB false), (8, dO 2 0), (23, .d (DS pI [2, 1, 0])), (24, dI ([2, 1, 0].length : Int)), (25, dI (cnt 0 n0))]
def Ra178_1 (x0 : api_Board) (x1 : api_Power) (y1 : api_Island × Bool) (z1 : Unit) : List Res := [.box 29 (d29 x0), .box 36 (d36 x1), .box 84 (d84 y1.1)]
theorem k178 (x0 : api_Board) (x1 : api_Power) (x2 : Int) (r : Int × Bool) (h : F178 x0 x1 x2 = some r) : CO 178 [.agg (d29 x0), .agg (d36 x1), .d (I x2)] [] (.tup [.d (I r.1), .d (Bo r.2)]) [] := by
 unfold F178 at h
 refine co 51 Tryz.func178 fun C hC => ?_
 obtain ⟨y1, h2, h⟩ := bE h
 refine ws lv178 28 [] [pc e156 (k156 x0 x1 x2 _ h2) []] [] 0 n3_ [(3, dO 0 0), (4, dO 1 0), (6, dI 0), (7, dB false), (8, dO 2 0), (22, dB (!y1.2))] [.box 29 (d29 x0), .box 36 (d36 x1), .box 84 (d84 y1.1)] hC [] ?_
 rcases bC (!y1.2) with h3 | h3
 ·replace h := cT h3 h
  cases h
 ·replace h := cF h3 h
  refine ws lv178 26 [false] [pl pI [2, 1, 0]] [] 0 n3_ (st178_0 0 ()) (R178_0 x0 x1 y1 0 ()) hC [pq h3] ?_
  obtain ⟨w0, hm0, hret0, hnext0⟩ := aIn h
  clear h
  refine wc w0 (sa178_0) (Ra178_0) ?_ fun z0 hs0 => ?_
  ·refine wb ?_
   refine wL 23 rfl fun hl0 => ?_
   refine wF (by kernel_rfl) (F178_l0 x0 x1 y1) (st178_0) (R178_0 x0 x1 y1) w0 [2, 1, 0] () hm0 rfl rfl (fun z0 hn0 => ?_) fun n0 a0 z0 w0b hi0 hx0 h hb0 hr0 => ?_
   ·clear hm0
    exact wx w0 (sa178_0) (Ra178_0) lv178 26 [false] [] [] 0 [] () hC [pq (cE hl0)] hn0
   ·unfold F178_l0 at h
    refine ws lv178 32 [true] [pt hx0 hl0, pl q120 x1.Sources] [] 0 n3_ (st178_1 x1 n0 a0 0 ()) (R178_1 x0 x1 y1 0 ()) hC [pq (cL hi0 hl0)] ?_
    obtain ⟨w1, hm1, hret1, hnext1⟩ := aIn h
    clear h
    refine wc w1 (sa178_1 n0) (Ra178_1 x0 x1 y1) ?_ fun z1 hs1 => ?_
    ·refine wb ?_
     refine wL 30 rfl fun hl1 => ?_
     refine wF (by kernel_rfl) (F178_l1 x0 x1 y1 a0) (st178_1 x1 n0 a0) (R178_1 x0 x1 y1) w1 x1.Sources () hm1 rfl rfl (fun z1 hn1 => ?_) fun n1 a1 z1 w1b hi1 hx1 h hb1 hr1 => ?_
     ·clear hm1
      exact wx w1 (sa178_1 n0) (Ra178_1 x0 x1 y1) lv178 26 [false] [] [] 0 n3_ () hC [pq (cE hl1)] hn1
     ·unfold F178_l1 at h
      obtain ⟨y4, h5, h⟩ := bE h
      refine ws lv178 32 [true] [pt hx1 hl1, pw e215 (fun hg => k215 x0 x1 y1.1 (cnt 0 n1) _ (gg h5 hg)) []] [] 0 n3_ [(3, dO 0 0), (4, dO 1 0), (6, dI 0), (7, dB false), (8, dO 2 0), (11, dI a0), (12, dI (cnt 0 n1)), (23, .d (DS pI [2, 1, 0])), (24, dI ([2, 1, 0].length : Int)), (25, dI (cnt 0 n0)), (30, .d (DS q120 x1.Sources)), (31, dI (ln x1.Sources)), (32, dI (cnt 0 n1)), (47, dB ((a1.State == a0) && y4))] [.box 29 (d29 x0), .box 36 (d36 x1), .box 84 (d84 y1.1)] hC [pq (cL hi1 hl1)] ?_
      rcases bC (((a1.State == a0) && y4)) with h6 | h6
      ·replace h := cT h6 h
       cases h
      ·replace h := cF h6 h
       exact wx w1b (st178_1 x1 n0 a0 (n1 + 1)) (R178_1 x0 x1 y1 (n1 + 1)) lv178 25 [false] [] [] 0 n3_ () hC [pq h6] (sI h).symm
    ·have h := hnext1 _ hs1
     exact wx w0b (st178_0 (n0 + 1)) (R178_0 x0 x1 y1 (n0 + 1)) lv178 23 [] [] [] 0 n3_ () hC [] (sI h).symm
  ·have h := hnext0 _ hs0
   replace h := sI h
   subst h
   exact wr lv178 23 [] [] [] [.tmp 6, .tmp 7] 0 [] hC []
theorem e178 : EN 178 := en Tryz.func178
end Go.Proofs.YthgnbpdjncbkfaaGreat
