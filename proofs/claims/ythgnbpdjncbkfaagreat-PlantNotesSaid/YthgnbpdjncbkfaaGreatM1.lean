import Derived.Test.YthgnbpdjncbkfaaGreatM0
set_option linter.unusedVariables false
namespace Go.Proofs.YthgnbpdjncbkfaaGreat
open Go.SL
def F2 : List Nat := [0, 2, 3, 4, 5, 6, 7, 8, 9, 10, 11, 24, 29, 47, 60, 96, 121, 155]
def jM  (z0 : Sg1) : St := [(0, dO 0 0), (2, dO 1 0), (3, dO 2 0), (4, dI z0.1)]
def Ae8 (y1 : Int × Ai) (y3 : Int × Ai) (y5 : Int × Ai) (z0 : Sg1) : List Res := [.box 90 [DS pI z0.2.1, I z0.2.2.1], .box 29 [I 0, .os 3, .os 4, .os 5, I 0, I 0], .box 29 [I y1.1, .os 6, .os 7, .os 8, I y3.1, I y5.1], v9_ ([] : List Ak), Et ([] : List Bg), Es ([] : List A1), v9_ (C1 z0), Et ([] : List Bg), Es ([] : List A1)]
def As3  (z0 : Sg1) : St := [(0, dO 0 0), (2, dO 1 0), (3, dO 2 0)]
def Avw (y1 : Int × Ai) (y3 : Int × Ai) (y5 : Int × Ai) (z0 : Sg1) : List Res := [.box 90 [DS pI z0.2.1, I z0.2.2.1], .box 29 [I 0, .os 3, .os 4, .os 5, I 0, I 0], .box 29 [I y1.1, .os 6, .os 7, .os 8, I y3.1, I y5.1], v9_ ([] : List Ak), Et ([] : List Bg), Es ([] : List A1), v9_ (C1 z0), Et ([] : List Bg), Es ([] : List A1)]
def Agd  (z1 : (List Ak)) : St := [(0, dO 0 0), (2, dO 1 0), (3, dO 2 0)]
def Ajb (y1 : Int × Ai) (y3 : Int × Ai) (y5 : Int × Ai) (y15 : Int × Ai) (z1 : (List Ak)) : List Res := [.box 90 (d90 y15.2), .box 29 [I 0, .os 3, .os 4, .os 5, I 0, I 0], .box 29 [I y1.1, .os 6, .os 7, .os 8, I y3.1, I y5.1], v9_ ([] : List Ak), Et ([] : List Bg), Es ([] : List A1), v9_ z1, Et ([] : List Bg), Es ([] : List A1)]
def Afx  (z2 : Sg3) : St := [(0, dO 0 0), (2, dO 1 0), (3, dO 2 0), (5, dI z2.1)]
def Arc (y1 : Int × Ai) (y3 : Int × Ai) (y5 : Int × Ai) (z2 : Sg3) : List Res := [.box 90 [DS pI z2.2.1, I z2.2.2.1], .box 29 [I 0, .os 3, .os 4, .os 5, I 0, I 0], .box 29 [I y1.1, .os 6, .os 7, .os 8, I y3.1, I y5.1], v9_ ([] : List Ak), Et ([] : List Bg), Es ([] : List A1), v9_ (g3_ z2), Et (E6 z2), Es ([] : List A1)]
def As2  (z2 : Sg3) : St := [(0, dO 0 0), (2, dO 1 0), (3, dO 2 0)]
def Avv (y1 : Int × Ai) (y3 : Int × Ai) (y5 : Int × Ai) (z2 : Sg3) : List Res := [.box 90 [DS pI z2.2.1, I z2.2.2.1], .box 29 [I 0, .os 3, .os 4, .os 5, I 0, I 0], .box 29 [I y1.1, .os 6, .os 7, .os 8, I y3.1, I y5.1], v9_ ([] : List Ak), Et ([] : List Bg), Es ([] : List A1), v9_ (g3_ z2), Et (E6 z2), Es ([] : List A1)]
def jL  (z3 : Sg2) : St := [(0, dO 0 0), (2, dO 1 0), (3, dO 2 0), (7, dI z3.1)]
def Ae7 (y1 : Int × Ai) (y3 : Int × Ai) (y5 : Int × Ai) (z2 : Sg3) (z3 : Sg2) : List Res := [.box 90 [DS pI z3.2.1, I z3.2.2.1], .box 29 [I 0, .os 3, .os 4, .os 5, I 0, I 0], .box 29 [I y1.1, .os 6, .os 7, .os 8, I y3.1, I y5.1], v9_ ([] : List Ak), Et ([] : List Bg), Es ([] : List A1), v9_ (g3_ z3), Et (E6 z2), Es (E6 z3)]
def As1  (z3 : Sg2) : St := [(2, dO 1 0), (3, dO 2 0)]
def Avu (y1 : Int × Ai) (y3 : Int × Ai) (y5 : Int × Ai) (z2 : Sg3) (z3 : Sg2) : List Res := [.box 90 [DS pI z3.2.1, I z3.2.2.1], .box 29 [I 0, .os 3, .os 4, .os 5, I 0, I 0], .box 29 [I y1.1, .os 6, .os 7, .os 8, I y3.1, I y5.1], v9_ ([] : List Ak), Et ([] : List Bg), Es ([] : List A1), v9_ (g3_ z3), Et (E6 z2), Es (E6 z3)]
def Agc (z3 : Sg2) (z4 : (List Ak)) : St := [(0, dO 0 0), (2, dO 1 0), (3, dO 2 0), (7, dI z3.1), (8, dI (ln (E6 z3)))]
def Aja (y1 : Int × Ai) (y3 : Int × Ai) (y5 : Int × Ai) (z2 : Sg3) (z3 : Sg2) (y42 : Int × Ai) (z4 : (List Ak)) : List Res := [.box 90 (d90 y42.2), .box 29 [I 0, .os 3, .os 4, .os 5, I 0, I 0], .box 29 [I y1.1, .os 8, .os 6, .os 7, I y3.1, I y5.1], v9_ ([] : List Ak), Et ([] : List Bg), Es ([] : List A1), Et (E6 z2), Es (E6 z3), v9_ z4]
set_option maxHeartbeats 4000000 in
theorem k29 (x0 : Ai) (r : Aa × Ai) (h : F29 x0 = some r) : CO 29 [.d (.o 0 0)] [.box 90 (d90 x0)] (.agg [I r.1.Am, .os 1, .os 2, .os 3, I r.1.Phase, I r.1.Ap]) (.box 90 (d90 r.2) :: zs r.1 []) := by
 unfold F29 at h
 refine co 168 Tryz.func29 λ C hC => ?_
 obtain ⟨y1, h2, h⟩ := Ad h
 obtain ⟨y3, h4, h⟩ := Ad h
 obtain ⟨y5, h6, h⟩ := Ad h
 refine ws F2 28 [] [pc e78 (k78 x0 1 4 _ h2) [0], pc e40 (k40 y1.2 [0, 50, 200, 1800] _ h4) [0], pc e40 (k40 y3.2 [0, 10, 50] _ h6) [0]] [.ownb 1 1 147 3, .ownb 1 2 139 3, .ownb 1 3 65 5, .ownb 2 1 147 3, .ownb 2 2 139 3, .ownb 2 3 65 5] 1 n9_ (jM (1, y5.2.L, y5.2.At, ([] : List Ak))) (Ae8 y1 y3 y5 (1, y5.2.L, y5.2.At, ([] : List Ak))) hC [] ?_
 obtain ⟨w0, hm0, hret0, hnext0⟩ := Au h
 clear h
 refine wc w0 (As3) (Avw y1 y3 y5) ?_ λ z0 hs0 => ?_
 ·refine wb ?_
  refine B2 (by kernel_rfl) (Ut y1) (jM) (Ae8 y1 y3 y5) w0 1152921504606846976 (1, y5.2.L, y5.2.At, ([] : List Ak)) hm0 rfl rfl λ z0 w0b h hb0 hr0 => ?_
  unfold Ut at h
  rcases cB h with ⟨h7, h⟩ | ⟨h7, h⟩
  ·obtain ⟨y8, h9, h⟩ := Ad h
   rcases cB h with ⟨h10, h⟩ | ⟨h10, h⟩
   ·obtain ⟨y11, h12, h⟩ := Ad h
    obtain ⟨y13, h14, h⟩ := Ad h
    exact wx w0b (jM) (Ae8 y1 y3 y5) F2 34 [true, true] [pc e32 (k32 (⟨z0.2.1, z0.2.2.1⟩ : Ai) 6 _ h9) [0], pc e32 (k32 y8.2 z0.1 _ h12) [0], pa Bi 3 h14] [] 1 [0, 1, 2, 3, 4, 5, 9, 7, 8] (w64 (z0.1 + 1), y11.2.L, y11.2.At, y13) hC [pq h7, pq h10] (sI h).symm
   ·exact wx w0b (jM) (Ae8 y1 y3 y5) F2 34 [true, false] [pc e32 (k32 (⟨z0.2.1, z0.2.2.1⟩ : Ai) 6 _ h9) [0]] [] 1 n9_ (w64 (z0.1 + 1), y8.2.L, y8.2.At, (C1 z0)) hC [pq h7, pq h10] (sI h).symm
  ·exact wx w0 (As3) (Avw y1 y3 y5) F2 26 [false] [] [] 1 n9_ (z0.1, z0.2.1, z0.2.2.1, (C1 z0)) hC [pq h7] (hb0 _ (sI h).symm)
 ·have h := hnext0 _ hs0
  obtain ⟨y15, h16, h⟩ := Ad h
  refine ws F2 24 [] [⟨.whenR [(decide (y1.1 > 2), true)] (.call 32 [dO 0 0, dI 2] [.box 90 [DS pI z0.2.1, I z0.2.2.1]] (dI y15.1) [.box 90 (d90 y15.2)] [0]), ⟨λ hg => ⟨e32, (k32 (⟨z0.2.1, z0.2.2.1⟩ : Ai) 2 _ (Ba h16 hg))⟩, λ hg => by have e := H1 h16 hg; subst e; rfl⟩⟩] [] 1 n9_ [(0, dO 0 0), (2, dO 1 0), (3, dO 2 0), (47, dB ((decide (y1.1 > 2)) && (y15.1 == 1)))] [.box 90 (d90 y15.2), .box 29 [I 0, .os 3, .os 4, .os 5, I 0, I 0], .box 29 [I y1.1, .os 6, .os 7, .os 8, I y3.1, I y5.1], v9_ ([] : List Ak), Et ([] : List Bg), Es ([] : List A1), v9_ (C1 z0), Et ([] : List Bg), Es ([] : List A1)] hC [] ?_
  obtain ⟨w1, h, hret1, hnext1⟩ := Au h
  refine wc w1 (Agd) (Ajb y1 y3 y5 y15) ?_ λ z1 hs1 => ?_
  ·unfold Akd at h
   rcases cB h with ⟨h17, h⟩ | ⟨h17, h⟩
   ·obtain ⟨y18, h19, h⟩ := Ad h
    exact wx w1 (Agd) (Ajb y1 y3 y5 y15) F2 23 [true] [pa Bi 3 h19] [] 1 [0, 1, 2, 3, 4, 5, 9, 7, 8] y18 hC [pq h17] (sI h).symm
   ·exact wx w1 (Agd) (Ajb y1 y3 y5 y15) F2 23 [false] [] [] 1 n9_ (C1 z0) hC [pq h17] (sI h).symm
  ·clear h; have h := hnext1 _ hs1
   obtain ⟨y20, h21, h⟩ := Ad h
   refine ws F2 24 [] [pc e32 (k32 y15.2 5 _ h21) [0]] [] 1 n9_ (Afx (y20.1, y20.2.L, y20.2.At, z1, ([] : List Bg))) (Arc y1 y3 y5 (y20.1, y20.2.L, y20.2.At, z1, ([] : List Bg))) hC [] ?_
   obtain ⟨w2, hm2, hret2, hnext2⟩ := Au h
   clear h
   refine wc w2 (As2) (Avv y1 y3 y5) ?_ λ z2 hs2 => ?_
   ·refine wb ?_
    refine B2 (by kernel_rfl) (Us y1) (Afx) (Arc y1 y3 y5) w2 1152921504606846976 (y20.1, y20.2.L, y20.2.At, z1, ([] : List Bg)) hm2 rfl rfl λ z2 w2b h hb2 hr2 => ?_
    unfold Us at h
    rcases cB h with ⟨h22, h⟩ | ⟨h22, h⟩
    ·obtain ⟨y23, h24, h⟩ := Ad h
     obtain ⟨y25, h26, h⟩ := Ad h
     obtain ⟨y27, h28, h⟩ := Ad h
     obtain ⟨y29, h30, h⟩ := Ad h
     obtain ⟨y31, h32, h⟩ := Ad h
     obtain ⟨y33, h34, h⟩ := Ad h
     exact wx w2b (Afx) (Arc y1 y3 y5) F2 35 [true] [pc e32 (k32 (⟨z2.2.1, z2.2.2.1⟩ : Ai) y1.1 _ h24) [0], pl Bt (E6 z2), pa Bi 3 h26, pc e40 (k40 y23.2 [10, 50, 100] _ h28) [0], pc e40 (k40 y27.2 [0, 5, y27.1] _ h30) [0], pc e40 (k40 y29.2 [0, 1, 3] _ h32) [0], pa Bt 3 h34] [] 1 [0, 1, 2, 3, 4, 5, 9, 10, 8] (w64 (z2.1 - 1), y31.2.L, y31.2.At, y25, y33) hC [pq h22] (sI h).symm
    ·exact wx w2 (As2) (Avv y1 y3 y5) F2 26 [false] [] [] 1 n9_ (z2.1, z2.2.1, z2.2.2.1, (g3_ z2), (E6 z2)) hC [pq h22] (hb2 _ (sI h).symm)
   ·have h := hnext2 _ hs2
    obtain ⟨y35, h36, h⟩ := Ad h
    refine ws F2 24 [] [pc e32 (k32 (⟨z2.2.1, z2.2.2.1⟩ : Ai) 6 _ h36) [0]] [] 1 n9_ (jL (y35.1, y35.2.L, y35.2.At, (g3_ z2), ([] : List A1))) (Ae7 y1 y3 y5 z2 (y35.1, y35.2.L, y35.2.At, (g3_ z2), ([] : List A1))) hC [] ?_
    obtain ⟨w3, hm3, hret3, hnext3⟩ := Au h
    clear h
    refine wc w3 (As1) (Avu y1 y3 y5 z2) ?_ λ z3 hs3 => ?_
    ·refine wb ?_
     refine B2 (by kernel_rfl) (Ur y1) (jL) (Ae7 y1 y3 y5 z2) w3 1152921504606846976 (y35.1, y35.2.L, y35.2.At, (g3_ z2), ([] : List A1)) hm3 rfl rfl λ z3 w3b h hb3 hr3 => ?_
     unfold Ur at h
     rcases cB h with ⟨h37, h⟩ | ⟨h37, h⟩
     ·obtain ⟨y38, h39, h⟩ := Ad h
      obtain ⟨y40, h41, h⟩ := Ad h
      obtain ⟨y42, h43, h⟩ := Ad h
      refine ws F2 37 [true] [pl q65 (E6 z3), pc e32 (k32 (⟨z3.2.1, z3.2.2.1⟩ : Ai) y1.1 _ h39) [0], pa Bi 3 h41, ⟨.whenR [(decide (y1.1 > 1), true)] (.call 32 [dO 0 0, dI 4] [.box 90 (d90 y38.2)] (dI y42.1) [.box 90 (d90 y42.2)] [0]), ⟨λ hg => ⟨e32, (k32 y38.2 4 _ (Ba h43 hg))⟩, λ hg => by have e := H1 h43 hg; subst e; rfl⟩⟩] [] 1 [0, 1, 2, 3, 4, 5, 7, 8, 9] [(0, dO 0 0), (2, dO 1 0), (3, dO 2 0), (7, dI z3.1), (8, dI (ln (E6 z3))), (9, dI y38.1), (121, dB ((decide (y1.1 > 1)) && (y42.1 == 3)))] [.box 90 (d90 y42.2), .box 29 [I 0, .os 3, .os 4, .os 5, I 0, I 0], .box 29 [I y1.1, .os 8, .os 6, .os 7, I y3.1, I y5.1], v9_ ([] : List Ak), Et ([] : List Bg), Es ([] : List A1), Et (E6 z2), Es (E6 z3), v9_ y40] hC [pq h37] ?_
      obtain ⟨w4, h, hret4, hnext4⟩ := Au h
      refine wc w4 (Agc z3) (Aja y1 y3 y5 z2 z3 y42) ?_ λ z4 hs4 => ?_
      ·unfold Akc at h
       rcases cB h with ⟨h44, h⟩ | ⟨h44, h⟩
       ·obtain ⟨u46, h45, h⟩ := Ad h
        obtain ⟨y47, h48, h⟩ := Ad h
        exact wx w4 (Agc z3) (Aja y1 y3 y5 z2 z3 y42) F2 23 [true] [⟨.nz y1.1, O8 h45⟩, pa Bi 3 h48] [] 1 [0, 1, 2, 3, 4, 5, 6, 7, 9] y47 hC [pq h44] (sI h).symm
       ·exact wx w4 (Agc z3) (Aja y1 y3 y5 z2 z3 y42) F2 23 [false] [] [] 1 n9_ y40 hC [pq h44] (sI h).symm
      ·clear h; have h := hnext4 _ hs4
       obtain ⟨y49, h50, h⟩ := Ad h
       obtain ⟨y51, h52, h⟩ := Ad h
       obtain ⟨y53, h54, h⟩ := Ad h
       obtain ⟨y55, h56, h⟩ := Ad h
       obtain ⟨y57, h58, h⟩ := Ad h
       refine ws F2 28 [] [pc e40 (k40 y42.2 [0, 5, 20, 40] _ h50) [0], ⟨.nz 2, O7 rfl⟩, pc e40 (k40 y49.2 [0, w64 (Int.tdiv y49.1 2), y49.1] _ h52) [0], pc e32 (k32 y51.2 3 _ h54) [0], pc e78 (k78 y53.2 (-1) 2 _ h56) [0], ⟨.whenR [(decide ((ln (E6 z3)) > 0), true)] (.call 32 [dO 0 0, dI 4] [.box 90 (d90 y55.2)] (dI y57.1) [.box 90 (d90 y57.2)] [0]), ⟨λ hg => ⟨e32, (k32 y55.2 4 _ (Ba h58 hg))⟩, λ hg => by have e := H1 h58 hg; subst e; rfl⟩⟩] [.ownb 9 4 3 1] 1 Aph [(0, dO 0 0), (2, dO 1 0), (3, dO 2 0), (7, dI z3.1), (8, dI (ln (E6 z3))), (11, dO 9 0), (155, dB (Aqn z3 y57))] [.box 90 (d90 y57.2), .box 29 [I 0, .os 3, .os 4, .os 5, I 0, I 0], .box 29 [I y1.1, .os 8, .os 6, .os 7, I y3.1, I y5.1], v9_ ([] : List Ak), Et ([] : List Bg), Es ([] : List A1), Et (E6 z2), Es (E6 z3), v9_ z4, .box 65 [I y49.1, I y51.1, I y53.1, I y55.1, .os 10], v0_ ([] : List Int)] hC [] ?_
       rcases cB h with ⟨h59, h⟩ | ⟨h59, h⟩
       ·obtain ⟨y60, h61, h⟩ := Ad h
        obtain ⟨y62, h63, h⟩ := Ad h
        exact wx w3b (jL) (Ae7 y1 y3 y5 z2) F2 26 [true] [pc e32 (k32 y57.2 (ln (E6 z3)) _ h61) [0], pa q65 5 h63] [] 1 [0, 1, 2, 3, 4, 5, 8, 6, 11] (w64 (z3.1 - 1), y60.2.L, y60.2.At, z4, y62) hC [pq h59] (sI h).symm
       ·refine ws F2 2 [false] [] [.frz 10] 1 Hg [(0, dO 0 0), (2, dO 1 0), (3, dO 2 0), (7, dI z3.1), (11, dO 9 0)] [.box 90 (d90 y57.2), .box 29 [I 0, .os 3, .os 4, .os 5, I 0, I 0], .box 29 [I y1.1, .os 8, .os 6, .os 7, I y3.1, I y5.1], v9_ ([] : List Ak), Et ([] : List Bg), Es ([] : List A1), Et (E6 z2), Es (E6 z3), v9_ z4, .box 65 [I y49.1, I y51.1, I y53.1, I y55.1, DS pI ([] : List Int)]] hC [pq h59] ?_
        obtain ⟨y64, h65, h⟩ := Ad h
        exact wx w3b (jL) (Ae7 y1 y3 y5 z2) F2 24 [] [pa q65 5 h65] [] 1 [0, 1, 2, 3, 4, 5, 8, 6, 10] (w64 (z3.1 - 1), y57.2.L, y57.2.At, z4, y64) hC [] (sI h).symm
     ·exact wx w3 (As1) (Avu y1 y3 y5 z2) F2 26 [false] [] [] 1 n9_ (z3.1, z3.2.1, z3.2.2.1, (g3_ z3), (E6 z3)) hC [pq h37] (hb3 _ (sI h).symm)
    ·have h := hnext3 _ hs3
     replace h := sI h
     subst h
     exact wr F2 23 [] [] [] 1 [0, 6, 7, 8] hC []
theorem e29 : EN 29 := en Tryz.func29
theorem k30 (x0 : Ai) (r : Bh × Ai) (h : F30 x0 = some r) : CO 30 [.d (.o 0 0)] [.box 90 (d90 x0)] (.agg (d31 r.1)) [.box 90 (d90 r.2)] := by
 unfold F30 at h
 refine co 13 Tryz.func30 λ C hC => ?_
 obtain ⟨y1, h2, h⟩ := Ad h
 obtain ⟨y3, h4, h⟩ := Ad h
 obtain ⟨y5, h6, h⟩ := Ad h
 replace h := sI h
 subst h
 exact wr [0, 2] 25 [] [pc e40 (k40 x0 [60, 80, 100] _ h2) [0], pc e40 (k40 y1.2 [1, 30, 50] _ h4) [0], pc e40 (k40 y3.2 [0, 1, 3] _ h6) [0]] [] 1 [0] hC []
theorem e30 : EN 30 := en Tryz.func30
def Ce : List Nat := [0, 1, 3, 4, 5, 6, 7, 8, 9, 11, 12, 13, 16, 17, 18, 30, 31, 32, 35, 36, 37, 38, 57, 67, 68, 69, 89, 90, 91, 92, 114, 119, 126]
def S5 (x1 : Aa) (z0 : Int × (List Int) × Int × (List Bool)) : St := [(0, dO 0 0), (3, dO 4 0), (4, dO 5 0), (5, dO 6 0), (16, dI (ln x1.Af)), (17, dI z0.1)]
def Zn (x1 : Aa) (z0 : Int × (List Int) × Int × (List Bool)) : List Res := (.box 90 [DS pI z0.2.1, I z0.2.2.1] :: zs x1 (.box 29 [I x1.Am, .os 1, .os 2, .os 3, I x1.Phase, I x1.Ap] :: .box 36 [.os 7, .os 8, .os 9, .os 10] :: .box 36 [.os 11, .os 12, .os 13, .os 14] :: ze [v2_ (C1 z0), v4_ ([] : List Ag), v0_ ([] : List Int), v3_ ([] : List An)]))
def Acs  (z0 : Int × (List Int) × Int × (List Bool)) : St := [(0, dO 0 0), (3, dO 4 0), (4, dO 5 0), (5, dO 6 0)]
def Aeb (x1 : Aa) (z0 : Int × (List Int) × Int × (List Bool)) : List Res := (.box 90 [DS pI z0.2.1, I z0.2.2.1] :: zs x1 (.box 29 [I x1.Am, .os 1, .os 2, .os 3, I x1.Phase, I x1.Ap] :: .box 36 [.os 7, .os 8, .os 9, .os 10] :: .box 36 [.os 11, .os 12, .os 13, .os 14] :: ze [v2_ (C1 z0), v4_ ([] : List Ag), v0_ ([] : List Int), v3_ ([] : List An)]))
def S4 (x1 : Aa) (z1 : Int × (List Bool)) : St := [(0, dO 0 0), (3, dO 4 0), (4, dO 5 0), (5, dO 6 0), (30, dI (ln x1.Ae)), (31, dI z1.1)]
def Zm (x1 : Aa) (z0 : Int × (List Int) × Int × (List Bool)) (z1 : Int × (List Bool)) : List Res := (.box 90 [DS pI z0.2.1, I z0.2.2.1] :: zs x1 (.box 29 [I x1.Am, .os 1, .os 2, .os 3, I x1.Phase, I x1.Ap] :: .box 36 [.os 7, .os 8, .os 9, .os 10] :: .box 36 [.os 11, .os 12, .os 13, .os 14] :: ze [v2_ z1.2, v4_ ([] : List Ag), v0_ ([] : List Int), v3_ ([] : List An)]))
def Acr  (z1 : Int × (List Bool)) : St := [(0, dO 0 0), (3, dO 4 0), (4, dO 5 0), (5, dO 6 0)]
def Aea (x1 : Aa) (z0 : Int × (List Int) × Int × (List Bool)) (z1 : Int × (List Bool)) : List Res := (.box 90 [DS pI z0.2.1, I z0.2.2.1] :: zs x1 (.box 29 [I x1.Am, .os 1, .os 2, .os 3, I x1.Phase, I x1.Ap] :: .box 36 [.os 7, .os 8, .os 9, .os 10] :: .box 36 [.os 11, .os 12, .os 13, .os 14] :: ze [v2_ z1.2, v4_ ([] : List Ag), v0_ ([] : List Int), v3_ ([] : List An)]))
def Ni (x1 : Aa) (z1 : Int × (List Bool)) (n2 : Nat) (z2 : Bool × (List Bool)) : St := [(0, dO 0 0), (3, dO 4 0), (4, dO 5 0), (5, dO 6 0), (6, dI z1.1), (7, dB z2.1), (30, dI (ln x1.Ae)), (31, dI z1.1), (35, dS 1), (36, dI (ln x1.Af)), (37, dI (cnt 0 n2))]
def Ru (x1 : Aa) (z0 : Int × (List Int) × Int × (List Bool)) (n2 : Nat) (z2 : Bool × (List Bool)) : List Res := (.box 90 [DS pI z0.2.1, I z0.2.2.1] :: zs x1 (.box 29 [I x1.Am, .os 1, .os 2, .os 3, I x1.Phase, I x1.Ap] :: .box 36 [.os 7, .os 8, .os 9, .os 10] :: .box 36 [.os 11, .os 12, .os 13, .os 14] :: ze [v2_ z2.2, v4_ ([] : List Ag), v0_ ([] : List Int), v3_ ([] : List An)]))
def Acq (x1 : Aa) (z1 : Int × (List Bool)) (z2 : Bool × (List Bool)) : St := [(0, dO 0 0), (3, dO 4 0), (4, dO 5 0), (5, dO 6 0), (30, dI (ln x1.Ae)), (31, dI z1.1)]
def Ad9 (x1 : Aa) (z0 : Int × (List Int) × Int × (List Bool)) (z2 : Bool × (List Bool)) : List Res := (.box 90 [DS pI z0.2.1, I z0.2.2.1] :: zs x1 (.box 29 [I x1.Am, .os 1, .os 2, .os 3, I x1.Phase, I x1.Ap] :: .box 36 [.os 7, .os 8, .os 9, .os 10] :: .box 36 [.os 11, .os 12, .os 13, .os 14] :: ze [v2_ z2.2, v4_ ([] : List Ag), v0_ ([] : List Int), v3_ ([] : List An)]))
def S3 (x1 : Aa) (z3 : Sg5) : St := [(0, dO 0 0), (3, dO 4 0), (4, dO 5 0), (5, dO 6 0), (67, dI (ln x1.Ac)), (68, dI z3.1)]
def Zl (x1 : Aa) (z1 : Int × (List Bool)) (z3 : Sg5) : List Res := (.box 90 [DS pI z3.2.1, I z3.2.2.1] :: zs x1 (.box 29 [I x1.Am, .os 1, .os 2, .os 3, I x1.Phase, I x1.Ap] :: .box 36 [.os 7, .os 8, .os 9, .os 10] :: .box 36 [.os 11, .os 12, .os 13, .os 14] :: ze [v2_ z1.2, v4_ (C1 z3), v0_ ([] : List Int), v3_ ([] : List An)]))
def Acp  (z3 : Sg5) : St := [(0, dO 0 0), (3, dO 4 0), (4, dO 5 0), (5, dO 6 0)]
def Ad8 (x1 : Aa) (z1 : Int × (List Bool)) (z3 : Sg5) : List Res := (.box 90 [DS pI z3.2.1, I z3.2.2.1] :: zs x1 (.box 29 [I x1.Am, .os 1, .os 2, .os 3, I x1.Phase, I x1.Ap] :: .box 36 [.os 7, .os 8, .os 9, .os 10] :: .box 36 [.os 11, .os 12, .os 13, .os 14] :: ze [v2_ z1.2, v4_ (C1 z3), v0_ ([] : List Int), v3_ ([] : List An)]))
def Sz (x1 : Aa) (n4 : Nat) (z4 : (List Int) × Int × (List Int)) : St := [(0, dO 0 0), (3, dO 4 0), (4, dO 5 0), (5, dO 6 0), (89, dS 3), (90, dI (ln x1.Ae)), (91, dI (cnt 0 n4))]
def Zk (x1 : Aa) (z1 : Int × (List Bool)) (z3 : Sg5) (n4 : Nat) (z4 : (List Int) × Int × (List Int)) : List Res := (.box 90 [DS pI z4.1, I z4.2.1] :: zs x1 (.box 29 [I x1.Am, .os 1, .os 2, .os 3, I x1.Phase, I x1.Ap] :: .box 36 [.os 7, .os 8, .os 9, .os 10] :: .box 36 [.os 11, .os 12, .os 13, .os 14] :: ze [v2_ z1.2, v4_ (C1 z3), v0_ z4.2.2, v3_ ([] : List An)]))
def Aco  (z4 : (List Int) × Int × (List Int)) : St := [(0, dO 0 0), (3, dO 4 0), (4, dO 5 0), (5, dO 6 0)]
def Ad7 (x1 : Aa) (z1 : Int × (List Bool)) (z3 : Sg5) (z4 : (List Int) × Int × (List Int)) : List Res := (.box 90 [DS pI z4.1, I z4.2.1] :: zs x1 (.box 29 [I x1.Am, .os 1, .os 2, .os 3, I x1.Phase, I x1.Ap] :: .box 36 [.os 7, .os 8, .os 9, .os 10] :: .box 36 [.os 11, .os 12, .os 13, .os 14] :: ze [v2_ z1.2, v4_ (C1 z3), v0_ z4.2.2, v3_ ([] : List An)]))
def Kh  (z5 : Int × (List Int) × Int × (List An)) : St := [(0, dO 0 0), (3, dO 4 0), (4, dO 5 0), (5, dO 6 0), (12, dI z5.1)]
def Mx (x1 : Aa) (z1 : Int × (List Bool)) (z3 : Sg5) (z4 : (List Int) × Int × (List Int)) (z5 : Int × (List Int) × Int × (List An)) : List Res := (.box 90 [DS pI z5.2.1, I z5.2.2.1] :: zs x1 (.box 29 [I x1.Am, .os 1, .os 2, .os 3, I x1.Phase, I x1.Ap] :: .box 36 [.os 7, .os 8, .os 9, .os 10] :: .box 36 [.os 11, .os 12, .os 13, .os 14] :: ze [v2_ z1.2, v4_ (C1 z3), v0_ z4.2.2, v3_ (C1 z5)]))
def Acn  (z5 : Int × (List Int) × Int × (List An)) : St := [(4, dO 4 0), (5, dO 5 0)]
def Ad6 (x1 : Aa) (z1 : Int × (List Bool)) (z3 : Sg5) (z4 : (List Int) × Int × (List Int)) (z5 : Int × (List Int) × Int × (List An)) : List Res := (.box 90 [DS pI z5.2.1, I z5.2.2.1] :: zs x1 (.box 36 [.os 6, .os 7, .os 8, .os 9] :: .box 36 [.os 10, .os 11, .os 12, .os 13] :: ze [v2_ z1.2, v4_ (C1 z3), v0_ z4.2.2, v3_ (C1 z5)]))
set_option maxHeartbeats 4000000 in
theorem A2r (x0 : Ai) (x1 : Aa) (r : Ab × Ai) (h : Vp x0 x1 = some r) : CO 132 [.d (.o 0 0), .agg [I x1.Am, .os 1, .os 2, .os 3, I x1.Phase, I x1.Ap]] (.box 90 (d90 x0) :: zs x1 []) (.agg [.os 4, .os 5, .os 6, .os 7]) (.box 90 (d90 r.2) :: zs x1 (zp r.1 [])) := by
 unfold Vp at h
 refine co 134 Tryz.func132 λ C hC => ?_
 refine ws Ce 28 [] [pl Bi x1.Af] [.ownb 5 0 4 1, .ownb 5 1 120 4, .ownb 5 2 3 1, .ownb 5 3 86 2, .ownb 6 0 4 1, .ownb 6 1 120 4, .ownb 6 2 3 1, .ownb 6 3 86 2] 4 Fz (S5 x1 (0, x0.L, x0.At, ([] : List Bool))) (Zn x1 (0, x0.L, x0.At, ([] : List Bool))) hC [] ?_
 obtain ⟨w0, hm0, hret0, hnext0⟩ := Au h
 clear h
 refine wc w0 (Acs) (Aeb x1) ?_ λ z0 hs0 => ?_
 ·refine wb ?_
  refine B2 (by kernel_rfl) (K6 x1) (S5 x1) (Zn x1) w0 1152921504606846976 (0, x0.L, x0.At, ([] : List Bool)) hm0 rfl rfl λ z0 w0b h hb0 hr0 => ?_
  unfold K6 at h
  rcases cB h with ⟨h1, h⟩ | ⟨h1, h⟩
  ·obtain ⟨y2, h3, h⟩ := Ad h
   obtain ⟨y4, h5, h⟩ := Ad h
   exact wx w0b (S5 x1) (Zn x1) Ce 31 [true] [pc e32 (k32 (⟨z0.2.1, z0.2.2.1⟩ : Ai) 2 _ h3) [0], pa pB 1 h5] [] 4 [0, 1, 2, 3, 4, 5, 6, 7, 8, 9, 10, 15, 12, 13, 14] (w64 (z0.1 + 1), y2.2.L, y2.2.At, y4) hC [pq h1] (sI h).symm
  ·exact wx w0 (Acs) (Aeb x1) Ce 26 [false] [] [] 4 Fz (z0.1, z0.2.1, z0.2.2.1, (C1 z0)) hC [pq h1] (hb0 _ (sI h).symm)
 ·have h := hnext0 _ hs0
  refine ws Ce 24 [] [pl q65 x1.Ae] [] 4 Fz (S4 x1 (0, (C1 z0))) (Zm x1 z0 (0, (C1 z0))) hC [] ?_
  obtain ⟨w1, hm1, hret1, hnext1⟩ := Au h
  clear h
  refine wc w1 (Acr) (Aea x1 z0) ?_ λ z1 hs1 => ?_
  ·refine wb ?_
   refine B2 (by kernel_rfl) (K5 x1) (S4 x1) (Zm x1 z0) w1 1152921504606846976 (0, (C1 z0)) hm1 rfl rfl λ z1 w1b h hb1 hr1 => ?_
   unfold K5 at h
   rcases cB h with ⟨h6, h⟩ | ⟨h6, h⟩
   ·refine ws Ce 34 [true] [pl Bi x1.Af] [] 4 Fz (Ni x1 z1 0 (true, z1.2)) (Ru x1 z0 0 (true, z1.2)) hC [pq h6] ?_
    obtain ⟨w2, hm2, hret2, hnext2⟩ := Au h
    clear h
    refine wc w2 (Acq x1 z1) (Ad9 x1 z0) ?_ λ z2 hs2 => ?_
    ·refine wb ?_
     refine Cj 35 1 rfl rfl λ hl2 => ?_
     refine A7 (by kernel_rfl) (K4 z1) (Ni x1 z1) (Ru x1 z0) w2 x1.Af (true, z1.2) hm2 rfl rfl (λ z2 hn2 => ?_) λ n2 a2 z2 w2b hi2 hx2 h hb2 hr2 => ?_
     ·clear hm2
      exact wx w2 (Acq x1 z1) (Ad9 x1 z0) Ce 26 [false] [] [] 4 Fz (z2.1, z2.2) hC [pq (Bb hl2)] hn2
     ·unfold K4 at h
      obtain ⟨y7, h8, h⟩ := Ad h
      refine ws Ce 32 [true] [pr Bi (Bl hx2 hl2), pn Bi (Bl hx2 hl2), pR pB h8, pN pB h8] [] 4 Fz [(0, dO 0 0), (3, dO 4 0), (4, dO 5 0), (5, dO 6 0), (6, dI z1.1), (7, dB z2.1), (8, dI (cnt 0 n2)), (30, dI (ln x1.Ae)), (31, dI z1.1), (35, dS 1), (36, dI (ln x1.Af)), (37, dI (cnt 0 n2)), (57, dB (Uc z1 a2 y7))] (.box 90 [DS pI z0.2.1, I z0.2.2.1] :: zs x1 (.box 29 [I x1.Am, .os 1, .os 2, .os 3, I x1.Phase, I x1.Ap] :: .box 36 [.os 7, .os 8, .os 9, .os 10] :: .box 36 [.os 11, .os 12, .os 13, .os 14] :: ze [v2_ z2.2, v4_ ([] : List Ag), v0_ ([] : List Int), v3_ ([] : List An)])) hC [pq (A8 hi2 hl2)] ?_
      rcases cB h with ⟨h9, h⟩ | ⟨h9, h⟩
      ·obtain ⟨y10, h11, h⟩ := Ad h
       obtain ⟨y12, h13, h⟩ := Ad h
       exact wx w2b (Ni x1 z1 (n2 + 1)) (Ru x1 z0 (n2 + 1)) Ce 27 [true] [pr pB h11, pu pB h11 h13] [] 4 Fz (false, y12) hC [pq h9] (sI h).symm
      ·exact wx w2b (Ni x1 z1 (n2 + 1)) (Ru x1 z0 (n2 + 1)) Ce 25 [false] [] [] 4 Fz (z2.1, z2.2) hC [pq h9] (sI h).symm
    ·have h := hnext2 _ hs2
     exact wx w1b (S4 x1) (Zm x1 z0) Ce 23 [] [] [] 4 Fz (w64 (z1.1 + 1), z2.2) hC [] (sI h).symm
   ·exact wx w1 (Acr) (Aea x1 z0) Ce 26 [false] [] [] 4 Fz (z1.1, z1.2) hC [pq h6] (hb1 _ (sI h).symm)
  ·have h := hnext1 _ hs1
   refine ws Ce 24 [] [pl Bt x1.Ac] [] 4 Fz (S3 x1 (0, z0.2.1, z0.2.2.1, ([] : List Ag))) (Zl x1 z1 (0, z0.2.1, z0.2.2.1, ([] : List Ag))) hC [] ?_
   obtain ⟨w3, hm3, hret3, hnext3⟩ := Au h
   clear h
   refine wc w3 (Acp) (Ad8 x1 z1) ?_ λ z3 hs3 => ?_
   ·refine wb ?_
    refine B2 (by kernel_rfl) (K3 x1) (S3 x1) (Zl x1 z1) w3 1152921504606846976 (0, z0.2.1, z0.2.2.1, ([] : List Ag)) hm3 rfl rfl λ z3 w3b h hb3 hr3 => ?_
    unfold K3 at h
    rcases cB h with ⟨h14, h⟩ | ⟨h14, h⟩
    ·obtain ⟨y15, h16, h⟩ := Ad h
     obtain ⟨y17, h18, h⟩ := Ad h
     obtain ⟨y19, h20, h⟩ := Ad h
     obtain ⟨y21, h22, h⟩ := Ad h
     obtain ⟨y23, h24, h⟩ := Ad h
     exact wx w3b (S3 x1) (Zl x1 z1) Ce 31 [true] [pc e40 (k40 (⟨z3.2.1, z3.2.2.1⟩ : Ai) [0, 1, 2, 2, 2, 3] _ h16) [0], pc e32 (k32 y15.2 5 _ h18) [0], pc e40 (k40 y17.2 [5000, 5000, 5005, 4950] _ h20) [0], pc e40 (k40 y19.2 [0, 0, 40, 1800, 3590] _ h22) [0], pa A_ 4 h24] [] 4 [0, 1, 2, 3, 4, 5, 6, 7, 8, 9, 10, 11, 15, 13, 14] (w64 (z3.1 + 1), y21.2.L, y21.2.At, y23) hC [pq h14] (sI h).symm
    ·exact wx w3 (Acp) (Ad8 x1 z1) Ce 26 [false] [] [] 4 Fz (z3.1, z3.2.1, z3.2.2.1, (C1 z3)) hC [pq h14] (hb3 _ (sI h).symm)
   ·have h := hnext3 _ hs3
    refine ws Ce 24 [] [pl q65 x1.Ae] [] 4 Fz (Sz x1 0 (z3.2.1, z3.2.2.1, ([] : List Int))) (Zk x1 z1 z3 0 (z3.2.1, z3.2.2.1, ([] : List Int))) hC [] ?_
    obtain ⟨w4, hm4, hret4, hnext4⟩ := Au h
    clear h
    refine wc w4 (Aco) (Ad7 x1 z1 z3) ?_ λ z4 hs4 => ?_
    ·refine wb ?_
     refine Cj 89 3 rfl rfl λ hl4 => ?_
     refine A7 (by kernel_rfl) K2 (Sz x1) (Zk x1 z1 z3) w4 x1.Ae (z3.2.1, z3.2.2.1, ([] : List Int)) hm4 rfl rfl (λ z4 hn4 => ?_) λ n4 a4 z4 w4b hi4 hx4 h hb4 hr4 => ?_
     ·clear hm4
      exact wx w4 (Aco) (Ad7 x1 z1 z3) Ce 26 [false] [] [] 4 Fz (z4.1, z4.2.1, z4.2.2) hC [pq (Bb hl4)] hn4
     ·unfold K2 at h
      obtain ⟨y25, h26, h⟩ := Ad h
      obtain ⟨y27, h28, h⟩ := Ad h
      exact wx w4b (Sz x1 (n4 + 1)) (Zk x1 z1 z3 (n4 + 1)) Ce 33 [true] [pr q65 (Bl hx4 hl4), pn q65 (Bl hx4 hl4), ⟨.nz 3, O7 rfl⟩, pc e40 (k40 (⟨z4.1, z4.2.1⟩ : Ai) [a4.Load, a4.Load, a4.Least, w64 (Int.tdiv a4.Load 3)] _ h26) [0], pa pI 1 h28] [] 4 [0, 1, 2, 3, 4, 5, 6, 7, 8, 9, 10, 11, 12, 16, 14] (y25.2.L, y25.2.At, y27) hC [pq (A8 hi4 hl4)] (sI h).symm
    ·have h := hnext4 _ hs4
     refine ws Ce 24 [] [] [] 4 Fz (Kh (1, z4.1, z4.2.1, ([] : List An))) (Mx x1 z1 z3 z4 (1, z4.1, z4.2.1, ([] : List An))) hC [] ?_
     obtain ⟨w5, hm5, hret5, hnext5⟩ := Au h
     clear h
     refine wc w5 (Acn) (Ad6 x1 z1 z3 z4) ?_ λ z5 hs5 => ?_
     ·refine wb ?_
      refine B2 (by kernel_rfl) (K1 x1) (Kh) (Mx x1 z1 z3 z4) w5 7 (1, z4.1, z4.2.1, ([] : List An)) hm5 rfl rfl λ z5 w5b h hb5 hr5 => ?_
      unfold K1 at h
      rcases cB h with ⟨h29, h⟩ | ⟨h29, h⟩
      ·obtain ⟨y30, h31, h⟩ := Ad h
       rcases cB h with ⟨h32, h⟩ | ⟨h32, h⟩
       ·obtain ⟨y33, h34, h⟩ := Ad h
        refine ws Ce 35 [true, true] [pc e32 (k32 (⟨z5.2.1, z5.2.2.1⟩ : Ai) 5 _ h31) [0], pc e32 (k32 y30.2 4 _ h34) [0], pb e71 (k71 x1 (⟨z5.1, y33.1⟩ : An) _ rfl)] [] 4 A66 [(0, dO 0 0), (3, dO 4 0), (4, dO 5 0), (5, dO 6 0), (12, dI z5.1), (13, dO 15 0), (126, dB (F71 x1 (⟨z5.1, y33.1⟩ : An)))] (.box 90 (d90 y33.2) :: zs x1 (.box 29 [I x1.Am, .os 1, .os 2, .os 3, I x1.Phase, I x1.Ap] :: .box 36 [.os 7, .os 8, .os 9, .os 10] :: .box 36 [.os 11, .os 12, .os 13, .os 14] :: ze [v2_ z1.2, v4_ (C1 z3), v0_ z4.2.2, v3_ (C1 z5), .box 86 [I z5.1, I y33.1]])) hC [pq h29, pq h32] ?_
        rcases cB h with ⟨h35, h⟩ | ⟨h35, h⟩
        ·obtain ⟨y36, h37, h⟩ := Ad h
         exact wx w5b (Kh) (Mx x1 z1 z3 z4) Ce 25 [true] [pa q86 2 h37] [] 4 [0, 1, 2, 3, 4, 5, 6, 7, 8, 9, 10, 11, 12, 13, 16] (w64 (z5.1 + 1), y33.2.L, y33.2.At, y36) hC [pq h35] (sI h).symm
        ·exact wx w5b (Kh) (Mx x1 z1 z3 z4) Ce 25 [false] [] [] 4 Fz (w64 (z5.1 + 1), y33.2.L, y33.2.At, (C1 z5)) hC [pq h35] (sI h).symm
       ·exact wx w5b (Kh) (Mx x1 z1 z3 z4) Ce 34 [true, false] [pc e32 (k32 (⟨z5.2.1, z5.2.2.1⟩ : Ai) 5 _ h31) [0]] [] 4 Fz (w64 (z5.1 + 1), y30.2.L, y30.2.At, (C1 z5)) hC [pq h29, pq h32] (sI h).symm
      ·exact wx w5 (Acn) (Ad6 x1 z1 z3 z4) Ce 26 [false] [] [] 4 [0, 1, 2, 3, 5, 6, 7, 8, 9, 10, 11, 12, 13, 14] (z5.1, z5.2.1, z5.2.2.1, (C1 z5)) hC [pq h29] (hb5 _ (sI h).symm)
     ·have h := hnext5 _ hs5
      replace h := sI h
      subst h
      exact wr Ce 23 [] [] [] 4 [0, 1, 2, 3, 10, 11, 12, 13] hC []
theorem A4m : EN 132 := en Tryz.func132
def Dw : List Nat := [0, 1, 2, 3, 4, 5, 7, 8, 9, 10, 11, 12, 13, 15, 19, 45, 47, 48, 49, 50, 74, 77, 78, 79, 80, 92, 97, 99, 100, 101, 102, 124, 128, 129, 130, 134, 135, 136, 137, 144, 149]
def Afp (x1 : Ab) (n0 : Nat) (z0 : Unit) : St := [(2, dO 0 0), (3, dO 1 0), (4, dI 0), (47, .d (DS A_ x1.Ac)), (48, dI (ln x1.Ac)), (49, dI (cnt 0 n0))]
def Aq4 (x0 : Aa) (x1 : Ab) (n0 : Nat) (z0 : Unit) : List Res := [.box 29 (d29 x0), .box 36 (d36 x1)]
def Asu  (z0 : Unit) : St := [(2, dO 0 0), (3, dO 1 0), (4, dI 0)]
def Avn (x0 : Aa) (x1 : Ab) (z0 : Unit) : List Res := [.box 29 (d29 x0), .box 36 (d36 x1)]
def Afo (x1 : Ab) (n1 : Nat) (z1 : Unit) : St := [(2, dO 0 0), (3, dO 1 0), (4, dI 0), (77, .d (DS pI x1.As)), (78, dI (ln x1.As)), (79, dI (cnt 0 n1))]
def Aq3 (x0 : Aa) (x1 : Ab) (n1 : Nat) (z1 : Unit) : List Res := [.box 29 (d29 x0), .box 36 (d36 x1)]
def Ast  (z1 : Unit) : St := [(2, dO 0 0), (3, dO 1 0), (4, dI 0)]
def Avm (x0 : Aa) (x1 : Ab) (z1 : Unit) : List Res := [.box 29 (d29 x0), .box 36 (d36 x1)]
def Afn (x1 : Ab) (n2 : Nat) (z2 : Unit) : St := [(2, dO 0 0), (3, dO 1 0), (4, dI 0), (99, .d (DS q86 x1.Aq)), (100, dI (ln x1.Aq)), (101, dI (cnt 0 n2))]
def Aq2 (x0 : Aa) (x1 : Ab) (n2 : Nat) (z2 : Unit) : List Res := [.box 29 (d29 x0), .box 36 (d36 x1)]
def Ass  (z2 : Unit) : St := [(2, dO 0 0), (3, dO 1 0), (4, dI 0)]
def Avl (x0 : Aa) (x1 : Ab) (z2 : Unit) : List Res := [.box 29 (d29 x0), .box 36 (d36 x1)]
def Afm (x0 : Aa) (z3 : Int) : St := [(2, dO 0 0), (3, dO 1 0), (4, dI 0), (128, dI (ln x0.Ae)), (129, dI z3)]
def Aq1 (x0 : Aa) (x1 : Ab) (z3 : Int) : List Res := [.box 29 (d29 x0), .box 36 (d36 x1)]
def Asr  (z3 : Int) : St := [(4, dI 0)]
def Avk  (z3 : Int) : List Res := []
def jK (x0 : Aa) (z3 : Int) (y14 : (List Int)) (n4 : Nat) (z4 : Int) : St := [(2, dO 0 0), (3, dO 1 0), (4, dI 0), (13, dI z4), (128, dI (ln x0.Ae)), (129, dI z3), (134, dS 2), (135, dI (ln y14)), (136, dI (cnt 0 n4))]
def Ae6 (x0 : Aa) (x1 : Ab) (y14 : (List Int)) (n4 : Nat) (z4 : Int) : List Res := [.box 29 (d29 x0), .box 36 (d36 x1), v0_ y14]
def Asq (x0 : Aa) (z3 : Int) (z4 : Int) : St := [(2, dO 0 0), (3, dO 1 0), (4, dI 0), (13, dI z4), (128, dI (ln x0.Ae)), (129, dI z3)]
def Avj (x0 : Aa) (x1 : Ab) (z4 : Int) : List Res := [.box 29 (d29 x0), .box 36 (d36 x1)]
set_option maxHeartbeats 4000000 in
theorem k53 (x0 : Aa) (x1 : Ab) (r : Int) (h : F53 x0 x1 = some r) : CO 53 [.agg (d29 x0), .agg (d36 x1)] [] (.d (I r)) [] := by
 unfold F53 at h
 refine co 151 Tryz.func53 λ C hC => ?_
 obtain ⟨y1, h2, h⟩ := Ad h
 rcases cB h with ⟨h3, h⟩ | ⟨h3, h⟩
 ·replace h := sI h
  subst h
  exact wr Dw 31 [true] [pc A4o (A2t x0 _ h2) []] [] 0 [] hC [pq h3]
 ·refine ws Dw 33 [false] [pc A4o (A2t x0 _ h2) [], pl pB x1.Ah, pl Bi x0.Af, pL_ [(((ln x1.Ah) != (ln x0.Af)), false)] A_ x1.Ac, pL_ [(((ln x1.Ah) != (ln x0.Af)), false)] Bt x0.Ac, pL_ [((((ln x1.Ah) != (ln x0.Af)) || ((ln x1.Ac) != (ln x0.Ac))), false)] pI x1.As, pL_ [((((ln x1.Ah) != (ln x0.Af)) || ((ln x1.Ac) != (ln x0.Ac))), false)] q65 x0.Ae] [] 0 [0, 1] [(2, dO 0 0), (3, dO 1 0), (4, dI 0), (45, dB (Aql x0 x1))] [.box 29 (d29 x0), .box 36 (d36 x1)] hC [pq h3] ?_
  rcases cB h with ⟨h4, h⟩ | ⟨h4, h⟩
  ·replace h := sI h
   subst h
   exact wr Dw 24 [true] [] [] 0 [] hC [pq h4]
  ·refine ws Dw 26 [false] [pl A_ x1.Ac] [] 0 [0, 1] (Afp x1 0 ()) (Aq4 x0 x1 0 ()) hC [pq h4] ?_
   obtain ⟨w0, hm0, hret0, hnext0⟩ := Au h
   clear h
   refine wc w0 (Asu) (Avn x0 x1) ?_ λ z0 hs0 => ?_
   ·refine wb ?_
    refine Bn 47 rfl λ hl0 => ?_
    refine A7 (by kernel_rfl) vQ (Afp x1) (Aq4 x0 x1) w0 x1.Ac () hm0 rfl rfl (λ z0 hn0 => ?_) λ n0 a0 z0 w0b hi0 hx0 h hb0 hr0 => ?_
    ·clear hm0
     exact wx w0 (Asu) (Avn x0 x1) Dw 26 [false] [] [] 0 [0, 1] () hC [pq (Bb hl0)] hn0
    ·unfold vQ at h
     refine ws Dw 32 [true] [pt hx0 hl0, pc Fc (Fa a0.State 0 3 _ rfl) [], ⟨.when [(!(B5 a0.State 0 3), false)] (.call 112 [dI a0.Since, dI 0, dI 2147483648] [] (dB (B5 a0.Since 0 2147483648)) [] []), λ hg => ⟨Fc, (Fa a0.Since 0 2147483648 _ rfl)⟩⟩, ⟨.when [(((!(B5 a0.State 0 3)) || (!(B5 a0.Since 0 2147483648))), false)] (.call 112 [dI a0.Ap, dI 0, dI 6000] [] (dB (B5 a0.Ap 0 6000)) [] []), λ hg => ⟨Fc, (Fa a0.Ap 0 6000 _ rfl)⟩⟩, ⟨.when [((((!(B5 a0.State 0 3)) || (!(B5 a0.Since 0 2147483648))) || (!(B5 a0.Ap 0 6000))), false)] (.call 112 [dI a0.Phase, dI 0, dI 3599] [] (dB (B5 a0.Phase 0 3599)) [] []), λ hg => ⟨Fc, (Fa a0.Phase 0 3599 _ rfl)⟩⟩] [] 0 [0, 1] [(2, dO 0 0), (3, dO 1 0), (4, dI 0), (47, .d (DS A_ x1.Ac)), (48, dI (ln x1.Ac)), (49, dI (cnt 0 n0)), (74, dB (Aqk a0))] [.box 29 (d29 x0), .box 36 (d36 x1)] hC [pq (A8 hi0 hl0)] ?_
     rcases cB h with ⟨h5, h⟩ | ⟨h5, h⟩
     ·have hq := hret0 _ (hr0 _ (sI h).symm)
      replace hq := sI hq
      subst hq
      exact wr Dw 24 [true] [] [] 0 [] hC [pq h5]
     ·exact wx w0b (Afp x1 (n0 + 1)) (Aq4 x0 x1 (n0 + 1)) Dw 25 [false] [] [] 0 [0, 1] () hC [pq h5] (sI h).symm
   ·have h := hnext0 _ hs0
    refine ws Dw 24 [] [pl pI x1.As] [] 0 [0, 1] (Afo x1 0 ()) (Aq3 x0 x1 0 ()) hC [] ?_
    obtain ⟨w1, hm1, hret1, hnext1⟩ := Au h
    clear h
    refine wc w1 (Ast) (Avm x0 x1) ?_ λ z1 hs1 => ?_
    ·refine wb ?_
     refine Bn 77 rfl λ hl1 => ?_
     refine A7 (by kernel_rfl) (vP x0) (Afo x1) (Aq3 x0 x1) w1 x1.As () hm1 rfl rfl (λ z1 hn1 => ?_) λ n1 a1 z1 w1b hi1 hx1 h hb1 hr1 => ?_
     ·clear hm1
      exact wx w1 (Ast) (Avm x0 x1) Dw 26 [false] [] [] 0 [0, 1] () hC [pq (Bb hl1)] hn1
     ·unfold vP at h
      obtain ⟨y6, h7, h⟩ := Ad h
      refine ws Dw 32 [true] [pt hx1 hl1, pr q65 h7, pc Fc (Fa a1 0 y6.Load _ rfl) []] [] 0 [0, 1] [(2, dO 0 0), (3, dO 1 0), (4, dI 0), (77, .d (DS pI x1.As)), (78, dI (ln x1.As)), (79, dI (cnt 0 n1)), (92, dB (!(B5 a1 0 y6.Load)))] [.box 29 (d29 x0), .box 36 (d36 x1)] hC [pq (A8 hi1 hl1)] ?_
      rcases cB h with ⟨h8, h⟩ | ⟨h8, h⟩
      ·have hq := hret1 _ (hr1 _ (sI h).symm)
       replace hq := sI hq
       subst hq
       exact wr Dw 24 [true] [] [] 0 [] hC [pq h8]
      ·exact wx w1b (Afo x1 (n1 + 1)) (Aq3 x0 x1 (n1 + 1)) Dw 25 [false] [] [] 0 [0, 1] () hC [pq h8] (sI h).symm
    ·have h := hnext1 _ hs1
     rcases cB h with ⟨h9, h⟩ | ⟨h9, h⟩
     ·replace h := sI h
      subst h
      exact wr Dw 27 [true] [pl q86 x1.Aq] [] 0 [] hC [pq h9]
     ·refine ws Dw 29 [false] [pl q86 x1.Aq, pl q86 x1.Aq] [] 0 [0, 1] (Afn x1 0 ()) (Aq2 x0 x1 0 ()) hC [pq h9] ?_
      obtain ⟨w2, hm2, hret2, hnext2⟩ := Au h
      clear h
      refine wc w2 (Ass) (Avl x0 x1) ?_ λ z2 hs2 => ?_
      ·refine wb ?_
       refine Bn 99 rfl λ hl2 => ?_
       refine A7 (by kernel_rfl) (vO x0 x1) (Afn x1) (Aq2 x0 x1) w2 x1.Aq () hm2 rfl rfl (λ z2 hn2 => ?_) λ n2 a2 z2 w2b hi2 hx2 h hb2 hr2 => ?_
       ·clear hm2
        exact wx w2 (Ass) (Avl x0 x1) Dw 26 [false] [] [] 0 [0, 1] () hC [pq (Bb hl2)] hn2
       ·unfold vO at h
        obtain ⟨y10, h11, h⟩ := Ad h
        refine ws Dw 32 [true] [pt hx2 hl2, pc e71 (k71 x0 a2 _ rfl) [], pR q86 h11, ⟨.when [(!(F71 x0 a2), false), (decide ((cnt 0 n2) > 0), true)] (.call 113 [.agg (d86 y10), .agg (d86 a2)] [] (dB (Abh y10 a2)) [] []), λ hg => ⟨A91, (A8k y10 a2 _ rfl)⟩⟩] [] 0 [0, 1] [(2, dO 0 0), (3, dO 1 0), (4, dI 0), (99, .d (DS q86 x1.Aq)), (100, dI (ln x1.Aq)), (101, dI (cnt 0 n2)), (124, dB (Aqj x0 n2 a2 y10))] [.box 29 (d29 x0), .box 36 (d36 x1)] hC [pq (A8 hi2 hl2)] ?_
        rcases cB h with ⟨h12, h⟩ | ⟨h12, h⟩
        ·have hq := hret2 _ (hr2 _ (sI h).symm)
         replace hq := sI hq
         subst hq
         exact wr Dw 24 [true] [] [] 0 [] hC [pq h12]
        ·exact wx w2b (Afn x1 (n2 + 1)) (Aq2 x0 x1 (n2 + 1)) Dw 25 [false] [] [] 0 [0, 1] () hC [pq h12] (sI h).symm
      ·have h := hnext2 _ hs2
       refine ws Dw 24 [] [pl q65 x0.Ae] [] 0 [0, 1] (Afm x0 0) (Aq1 x0 x1 0) hC [] ?_
       obtain ⟨w3, hm3, hret3, hnext3⟩ := Au h
       clear h
       refine wc w3 (Asr) (Avk) ?_ λ z3 hs3 => ?_
       ·refine wb ?_
        refine B2 (by kernel_rfl) (vN x0 x1) (Afm x0) (Aq1 x0 x1) w3 1152921504606846976 0 hm3 rfl rfl λ z3 w3b h hb3 hr3 => ?_
        unfold vN at h
        rcases cB h with ⟨h13, h⟩ | ⟨h13, h⟩
        ·obtain ⟨y14, h15, h⟩ := Ad h
         refine ws Dw 35 [true] [pc e77 (k77 x0 3 z3 _ h15) [], pl pI y14] [] 0 n3_ (jK x0 z3 y14 0 0) (Ae6 x0 x1 y14 0 0) hC [pq h13] ?_
         obtain ⟨w4, hm4, hret4, hnext4⟩ := Au h
         clear h
         refine wc w4 (Asq x0 z3) (Avj x0 x1) ?_ λ z4 hs4 => ?_
         ·refine wb ?_
          refine Cj 134 2 rfl rfl λ hl4 => ?_
          refine A7 (by kernel_rfl) (vM x1) (jK x0 z3 y14) (Ae6 x0 x1 y14) w4 y14 0 hm4 rfl rfl (λ z4 hn4 => ?_) λ n4 a4 z4 w4b hi4 hx4 h hb4 hr4 => ?_
          ·clear hm4
           exact wx w4 (Asq x0 z3) (Avj x0 x1) Dw 26 [false] [] [] 0 [0, 1] z4 hC [pq (Bb hl4)] hn4
          ·unfold vM at h
           obtain ⟨y16, h17, h⟩ := Ad h
           rcases cB h with ⟨h18, h⟩ | ⟨h18, h⟩
           ·exact wx w4b (jK x0 z3 y14 (n4 + 1)) (Ae6 x0 x1 y14 (n4 + 1)) Dw 36 [true, true] [pr pI (Bl hx4 hl4), pn pI (Bl hx4 hl4), pr pB h17] [] 0 n3_ (w64 (z4 + 1)) hC [pq (A8 hi4 hl4), pq h18] (sI h).symm
           ·exact wx w4b (jK x0 z3 y14 (n4 + 1)) (Ae6 x0 x1 y14 (n4 + 1)) Dw 36 [true, false] [pr pI (Bl hx4 hl4), pn pI (Bl hx4 hl4), pr pB h17] [] 0 n3_ z4 hC [pq (A8 hi4 hl4), pq h18] (sI h).symm
         ·have h := hnext4 _ hs4
          rcases cB h with ⟨h19, h⟩ | ⟨h19, h⟩
          ·have hq := hret3 _ (hr3 _ (sI h).symm)
           replace hq := sI hq
           subst hq
           exact wr Dw 26 [true] [] [] 0 [] hC [pq h19]
          ·exact wx w3b (Afm x0) (Aq1 x0 x1) Dw 27 [false] [] [] 0 [0, 1] (w64 (z3 + 1)) hC [pq h19] (sI h).symm
        ·exact wx w3 (Asr) (Avk) Dw 26 [false] [] [] 0 [] z3 hC [pq h13] (hb3 _ (sI h).symm)
       ·have h := hnext3 _ hs3
        replace h := sI h
        subst h
        exact wr Dw 23 [] [] [] 0 [] hC []
theorem e53 : EN 53 := en Tryz.func53
def F1 : List Nat := [0, 1, 3, 4, 5, 10, 11, 21, 31, 44, 59]
def Ya (y1 : Int × Ai) (z0 : Bool) : St := [(0, dO 0 0), (3, dO 4 0), (4, dO 5 0), (5, dO 6 0), (10, dI y1.1), (11, dB z0)]
def Y4 (x1 : Aa) (y1 : Int × Ai) (z0 : Bool) : List Res := (.box 90 (d90 y1.2) :: zs x1 [.box 29 [I x1.Am, .os 1, .os 2, .os 3, I x1.Phase, I x1.Ap], .box 49 [I 0, I 0, I 0], .box 49 [I y1.1, I 0, I 0]])
def X_ (y1 : Int × Ai) (z1 : Bool) : St := [(0, dO 0 0), (3, dO 4 0), (4, dO 5 0), (5, dO 6 0), (10, dI y1.1), (21, dB z1)]
def Y3 (x1 : Aa) (y1 : Int × Ai) (z1 : Bool) : List Res := (.box 90 (d90 y1.2) :: zs x1 [.box 29 [I x1.Am, .os 1, .os 2, .os 3, I x1.Phase, I x1.Ap], .box 49 [I 0, I 0, I 0], .box 49 [I y1.1, I 0, I 0]])
theorem A5z (x0 : Ai) (x1 : Aa) (r : Ao × Ai) (h : vT x0 x1 = some r) : CO 33 [.d (.o 0 0), .agg [I x1.Am, .os 1, .os 2, .os 3, I x1.Phase, I x1.Ap]] (.box 90 (d90 x0) :: zs x1 []) (.agg (d49 r.1)) (.box 90 (d90 r.2) :: zs x1 []) := by
 unfold vT at h
 refine co 69 Tryz.func33 λ C hC => ?_
 obtain ⟨y1, h2, h⟩ := Ad h
 refine ws F1 32 [] [pc e78 (k78 x0 1 9 _ h2) [0]] [] 4 n7_ [(0, dO 0 0), (3, dO 4 0), (4, dO 5 0), (5, dO 6 0), (10, dI y1.1), (11, dB (y1.1 == 1))] (.box 90 (d90 y1.2) :: zs x1 [.box 29 [I x1.Am, .os 1, .os 2, .os 3, I x1.Phase, I x1.Ap], .box 49 [I 0, I 0, I 0], .box 49 [I y1.1, I 0, I 0]]) hC [] ?_
 obtain ⟨w0, h, hret0, hnext0⟩ := Au h
 refine wc w0 (Ya y1) (Y4 x1 y1) ?_ λ z0 hs0 => ?_
 ·unfold Zw at h
  rcases cB h with ⟨h3, h⟩ | ⟨h3, h⟩
  ·exact wx w0 (Ya y1) (Y4 x1 y1) F1 23 [true] [] [] 4 n7_ (y1.1 == 1) hC [pq h3] (sI h).symm
  ·exact wx w0 (Ya y1) (Y4 x1 y1) F1 23 [false] [] [] 4 n7_ (y1.1 == 2) hC [pq h3] (sI h).symm
 ·clear h; have h := hnext0 _ hs0
  rcases cB h with ⟨h4, h⟩ | ⟨h4, h⟩
  ·obtain ⟨y5, h6, h⟩ := Ad h
   replace h := sI h
   subst h
   exact wr F1 26 [true] [pl Bi x1.Af, pc e32 (k32 y1.2 (w64 ((ln x1.Af) + 1)) _ h6) [0]] [] 4 n4_ hC [pq h4]
  ·refine ws F1 25 [false] [] [] 4 n7_ [(0, dO 0 0), (3, dO 4 0), (4, dO 5 0), (5, dO 6 0), (10, dI y1.1), (21, dB (y1.1 == 3))] (.box 90 (d90 y1.2) :: zs x1 [.box 29 [I x1.Am, .os 1, .os 2, .os 3, I x1.Phase, I x1.Ap], .box 49 [I 0, I 0, I 0], .box 49 [I y1.1, I 0, I 0]]) hC [pq h4] ?_
   obtain ⟨w1, h, hret1, hnext1⟩ := Au h
   refine wc w1 (X_ y1) (Y3 x1 y1) ?_ λ z1 hs1 => ?_
   ·unfold Zv at h
    rcases cB h with ⟨h7, h⟩ | ⟨h7, h⟩
    ·exact wx w1 (X_ y1) (Y3 x1 y1) F1 23 [true] [] [] 4 n7_ (y1.1 == 3) hC [pq h7] (sI h).symm
    ·exact wx w1 (X_ y1) (Y3 x1 y1) F1 23 [false] [] [] 4 n7_ (y1.1 == 4) hC [pq h7] (sI h).symm
   ·clear h; have h := hnext1 _ hs1
    rcases cB h with ⟨h8, h⟩ | ⟨h8, h⟩
    ·obtain ⟨y9, h10, h⟩ := Ad h
     replace h := sI h
     subst h
     exact wr F1 26 [true] [pl Bt x1.Ac, pc e32 (k32 y1.2 (w64 ((ln x1.Ac) + 1)) _ h10) [0]] [] 4 n4_ hC [pq h8]
    ·rcases cB h with ⟨h11, h⟩ | ⟨h11, h⟩
     ·obtain ⟨y12, h13, h⟩ := Ad h
      obtain ⟨y14, h15, h⟩ := Ad h
      replace h := sI h
      subst h
      exact wr F1 29 [false, true] [pl q65 x1.Ae, pc e32 (k32 y1.2 (w64 ((ln x1.Ae) + 1)) _ h13) [0], pc e40 (k40 y12.2 [0, 5, 20, 41] _ h15) [0]] [] 4 n4_ hC [pq h8, pq h11]
     ·rcases cB h with ⟨h16, h⟩ | ⟨h16, h⟩
      ·obtain ⟨y17, h18, h⟩ := Ad h
       obtain ⟨y19, h20, h⟩ := Ad h
       replace h := sI h
       subst h
       exact wr F1 32 [false, false, true] [pl Bt x1.Ac, pc e32 (k32 y1.2 (w64 ((ln x1.Ac) + 1)) _ h18) [0], pc e32 (k32 y17.2 (w64 (x1.Am + 1)) _ h20) [0]] [] 4 n4_ hC [pq h8, pq h11, pq h16]
      ·rcases cB h with ⟨h21, h⟩ | ⟨h21, h⟩
       ·obtain ⟨y22, h23, h⟩ := Ad h
        obtain ⟨y24, h25, h⟩ := Ad h
        replace h := sI h
        subst h
        exact wr F1 38 [false, false, false, true, true] [pc e78 (k78 y1.2 1 4 _ h23) [0], pc e32 (k32 y22.2 4 _ h25) [0]] [] 4 n4_ hC [pq h8, pq h11, pq h16, pq h21, pq h21]
       ·rcases cB h with ⟨h26, h⟩ | ⟨h26, h⟩
        ·obtain ⟨y27, h28, h⟩ := Ad h
         obtain ⟨y29, h30, h⟩ := Ad h
         replace h := sI h
         subst h
         exact wr F1 38 [false, false, false, false, true] [pc e78 (k78 y1.2 1 4 _ h28) [0], pc e32 (k32 y27.2 4 _ h30) [0]] [] 4 n4_ hC [pq h8, pq h11, pq h16, pq h21, pq h26]
        ·replace h := sI h
         subst h
         exact wr F1 38 [false, false, false, false, false] [] [] 4 n4_ hC [pq h8, pq h11, pq h16, pq h21, pq h26]
theorem A6k : EN 33 := en Tryz.func33
def Hw : List Nat := [0, 1, 2, 3, 4, 6, 16, 17, 18, 19, 28, 29, 44, 71]
def Oz (x0 : Aa) (n0 : Nat) (z0 : (List Int) × (List (List Int))) : St := [(1, dO 0 0), (2, dB false), (3, dS 1), (4, dS 2), (16, .d (DS Bi x0.Af)), (17, dI (ln x0.Af)), (18, dI (cnt 0 n0))]
def Ul (x0 : Aa) (n0 : Nat) (z0 : (List Int) × (List (List Int))) : List Res := [.box 29 (d29 x0), v0_ z0.1, .dsl 22 1 3, .gh 1 [(3, 1)] (z0.2.map (pL pI)) none]
def Amt  (z0 : (List Int) × (List (List Int))) : St := [(2, dB false), (3, dS 0), (4, dS 1)]
def Aol  (z0 : (List Int) × (List (List Int))) : List Res := [v0_ z0.1, .dsl 22 1 2, .gh 1 [(3, 1)] (z0.2.map (pL pI)) none]
theorem A8a (x0 : Aa) (r : Bool) (h : Akz x0 = some r) : CO 136 [.agg (d29 x0)] [] (.d (Bo r)) [] := by
 unfold Akz at h
 refine co 116 Tryz.func136 λ C hC => ?_
 obtain ⟨y1, h2, h⟩ := Ad h
 obtain ⟨y3, h4, h⟩ := Ad h
 refine ws Hw 28 [] [⟨.flts [v0_ y1, .zsl 22 1 (y3.map (pL pI))], trivial⟩, pl Bt x0.Ac, ⟨.fltm 1 (.room ((ln x0.Ac) * (8 + 1)) (List.replicate (Int.toNat (ln x0.Ac)) (pI 0)) (y1.map pI)) (v0_ y1) (v0_ y1), ⟨Hh h2, rfl⟩⟩, pl q65 x0.Ae, ⟨.fltm 2 (.roomZ ((ln x0.Ae) * (24 + 1)) (List.replicate (Int.toNat (ln x0.Ae)) ((pL pI) ([] : List Int))) (y3.map (pL pI))) (.zsl 22 1 (y3.map (pL pI))) (.zsl 22 1 (y3.map (pL pI))), ⟨Tk h4, rfl⟩⟩, pl Bi x0.Af] [.deep 2 [(3, 1)]] 0 n4_ (Oz x0 0 (y1, y3)) (Ul x0 0 (y1, y3)) hC [] ?_
 obtain ⟨w0, hm0, hret0, hnext0⟩ := Au h
 clear h
 refine wc w0 (Amt) (Aol) ?_ λ z0 hs0 => ?_
 ·refine wb ?_
  refine Bn 16 rfl λ hl0 => ?_
  refine A7 (by kernel_rfl) (Xe x0) (Oz x0) (Ul x0) w0 x0.Af (y1, y3) hm0 rfl rfl (λ z0 hn0 => ?_) λ n0 a0 z0 w0b hi0 hx0 h hb0 hr0 => ?_
  ·clear hm0
   exact wx w0 (Amt) (Aol) Hw 26 [false] [] [] 0 [1, 2, 3] (z0.1, z0.2) hC [pq (Bb hl0)] hn0
  ·unfold Xe at h
   refine ws Hw 33 [true] [pt hx0 hl0, pc e99 (k99 a0.A 0 (w64 (x0.Am - 1)) _ rfl) []] [] 0 n5_ [(1, dO 0 0), (2, dB false), (3, dS 1), (4, dS 2), (6, dO 4 0), (16, .d (DS Bi x0.Af)), (17, dI (ln x0.Af)), (18, dI (cnt 0 n0)), (28, .d (Bo (!(F99 a0.A 0 (w64 (x0.Am - 1))))))] [.box 29 (d29 x0), v0_ z0.1, .dsl 22 1 3, .gh 1 [(3, 1)] (z0.2.map (pL pI)) none, .box 147 (F7 a0)] hC [pq (A8 hi0 hl0)] ?_
   rcases cB h with ⟨h5, h⟩ | ⟨h5, h⟩
   ·have hq := hret0 _ (hr0 _ (sI h).symm)
    replace hq := sI hq
    subst hq
    exact wr Hw 24 [true] [] [] 0 [] hC [pq h5]
   ·refine ws Hw 26 [false] [⟨.when [((a0.Kind == 1), true)] (.call 99 [dI a0.B, dI (w64 (a0.A + 1)), dI (w64 (x0.Am - 1))] [] (dB (F99 a0.B (w64 (a0.A + 1)) (w64 (x0.Am - 1)))) [] []), λ hg => ⟨e99, (k99 a0.B (w64 (a0.A + 1)) (w64 (x0.Am - 1)) _ rfl)⟩⟩] [] 0 n5_ [(1, dO 0 0), (2, dB false), (3, dS 1), (4, dS 2), (6, dO 4 0), (16, .d (DS Bi x0.Af)), (17, dI (ln x0.Af)), (18, dI (cnt 0 n0)), (29, dB (uK x0 a0))] [.box 29 (d29 x0), v0_ z0.1, .dsl 22 1 3, .gh 1 [(3, 1)] (z0.2.map (pL pI)) none, .box 147 (F7 a0)] hC [pq h5] ?_
    rcases cB h with ⟨h6, h⟩ | ⟨h6, h⟩
    ·exact wx w0b (Oz x0 (n0 + 1)) (Ul x0 (n0 + 1)) Hw 26 [true] [] [] 0 n4_ (z0.1, z0.2) hC [pq h6] (sI h).symm
    ·obtain ⟨y7, h8, h⟩ := Ad h
     refine ws Hw 24 [false] [pL_ [((a0.Kind == 2), true)] pI z0.1, ⟨.when [((a0.Kind == 2), true)] (.call 99 [dI a0.B, dI 0, dI (w64 ((ln z0.1) - 1))] [] (.d (Bo (F99 a0.B 0 (w64 ((ln z0.1) - 1))))) [] []), λ hg => ⟨e99, (k99 a0.B 0 (w64 ((ln z0.1) - 1)) _ rfl)⟩⟩, pR pI h8, pN pI h8] [] 0 n5_ [(1, dO 0 0), (2, dB false), (3, dS 1), (4, dS 2), (6, dO 4 0), (16, .d (DS Bi x0.Af)), (17, dI (ln x0.Af)), (18, dI (cnt 0 n0)), (44, dB (uJ z0 a0 y7))] [.box 29 (d29 x0), v0_ z0.1, .dsl 22 1 3, .gh 1 [(3, 1)] (z0.2.map (pL pI)) none, .box 147 (F7 a0)] hC [pq h6] ?_
     rcases cB h with ⟨h9, h⟩ | ⟨h9, h⟩
     ·obtain ⟨y10, h11, h⟩ := Ad h
      obtain ⟨y12, h13, h⟩ := Ad h
      exact wx w0b (Oz x0 (n0 + 1)) (Ul x0 (n0 + 1)) Hw 26 [true] [pr pI h11, pn pI h11, pr pI h11, pu pI h11 h13] [] 0 n4_ (y12, z0.2) hC [pq h9] (sI h).symm
     ·obtain ⟨y14, h15, h⟩ := Ad h
      obtain ⟨y16, h17, h⟩ := Ad h
      refine ws Hw 24 [false] [pL_ [((a0.Kind == 3), true)] (pL pI) z0.2, ⟨.when [((a0.Kind == 3), true)] (.call 99 [dI a0.B, dI 0, dI (w64 ((ln z0.2) - 1))] [] (.d (Bo (F99 a0.B 0 (w64 ((ln z0.2) - 1))))) [] []), λ hg => ⟨e99, (k99 a0.B 0 (w64 ((ln z0.2) - 1)) _ rfl)⟩⟩, pR (pL pI) h15, pN (pL pI) h15, ⟨.when [(((a0.Kind == 3) && (F99 a0.B 0 (w64 ((ln z0.2) - 1)))), true)] (.callB 190 [.d (DS pI y14), dI a0.A] (dB y16) (z0.2.map (pL pI)) (Int.toNat a0.B) ((pL pI) y14)), λ hg => Aw1 ⟨Yr, (Yl y14 a0.A _ (Ba h17 hg))⟩ (Ba h15 hg)⟩] [] 0 n5_ [(1, dO 0 0), (2, dB false), (3, dS 1), (4, dS 2), (6, dO 4 0), (16, .d (DS Bi x0.Af)), (17, dI (ln x0.Af)), (18, dI (cnt 0 n0)), (71, dB (Air z0 a0 y16))] [.box 29 (d29 x0), v0_ z0.1, .dsl 22 1 3, .gh 1 [(3, 1)] (z0.2.map (pL pI)) none, .box 147 (F7 a0)] hC [pq h9] ?_
      rcases cB h with ⟨h18, h⟩ | ⟨h18, h⟩
      ·obtain ⟨y19, h20, h⟩ := Ad h
       obtain ⟨y21, h22, h⟩ := Ad h
       obtain ⟨y23, h24, h⟩ := Ad h
       exact wx w0b (Oz x0 (n0 + 1)) (Ul x0 (n0 + 1)) Hw 26 [true] [pr (pL pI) h20, pn (pL pI) h20, ⟨.appD (z0.2.map (pL pI)) (Int.toNat a0.B) ((pL pI) y19) 0 (y19.map pI) ([a0.A].map pI) 1 (((y19.map pI).length + ([a0.A].map pI).length) * (8 + 1)) (y21.map pI), Ik 1 (λ _ => rfl) h20 rfl h22⟩, pr (pL pI) h20, ⟨.updD (z0.2.map (pL pI)) (Int.toNat a0.B) (Int.toNat a0.B) ((pL pI) y19) ((pL pI) y21) (y23.map (pL pI)), Ih h20 h24⟩] [] 0 [0, 1, 2, 8] (z0.1, y23) hC [pq h18] (sI h).symm
      ·have hq := hret0 _ (hr0 _ (sI h).symm)
       replace hq := sI hq
       subst hq
       exact wr Hw 24 [false] [] [] 0 [] hC [pq h18]
 ·have h := hnext0 _ hs0
  refine ws Hw 1 [] [] [.flat 1] 0 [0, 1] [(2, dB false), (3, dS 0), (4, dS 1)] [v0_ z0.1, .sl 22 1 (z0.2.map (pL pI))] hC [] ?_
  obtain ⟨y27, h28, h⟩ := Ad h
  obtain ⟨y29, h30, h⟩ := Ad h
  replace h := sI h
  subst h
  exact wr Hw 22 [] [pb Yr (Yl z0.1 0 _ h28), pv A3w (λ hg => A11 z0.2 _ (Ba h30 hg))] [] 0 [] hC []
theorem A9r : EN 136 := en Tryz.func136
def L5 : List Nat := [0, 1, 4, 5, 7, 8, 9, 16]
def Sv (x0 : List Ag) (n0 : Nat) (z0 : Unit) : St := [(0, .d (DS A_ x0)), (1, .d (.fn (.func 97) [] [])), (4, dI 0), (7, dI (ln x0)), (8, dI (cnt 0 n0))]
def Zg  (n0 : Nat) (z0 : Unit) : List Res := []
def Aci  (z0 : Unit) : St := [(4, dI 0)]
def Ad1  (z0 : Unit) : List Res := []
theorem A2g (x0 : List Ag) (r : Int) (h : yD x0 = some r) : CO 155 [.d (DS A_ x0), .d (.fn (.func 97) [] [])] [] (.d (I r)) [] := by
 unfold yD at h
 refine co 19 Tryz.func155 λ C hC => ?_
 refine ws L5 26 [] [pl A_ x0] [] 0 [] (Sv x0 0 ()) (Zg 0 ()) hC [] ?_
 obtain ⟨w0, hm0, hret0, hnext0⟩ := Au h
 clear h
 refine wc w0 (Aci) (Ad1) ?_ λ z0 hs0 => ?_
 ·refine wb ?_
  refine Bn 0 rfl λ hl0 => ?_
  refine A7 (by kernel_rfl) Vi (Sv x0) (Zg) w0 x0 () hm0 rfl rfl (λ z0 hn0 => ?_) λ n0 a0 z0 w0b hi0 hx0 h hb0 hr0 => ?_
  ·clear hm0
   exact wx w0 (Aci) (Ad1) L5 26 [false] [] [] 0 [] () hC [pq (Bb hl0)] hn0
  ·unfold Vi at h
   refine ws L5 32 [true] [pt hx0 hl0, pc e97 (k97 a0 _ rfl) []] [] 0 [] [(0, .d (DS A_ x0)), (1, .d (.fn (.func 97) [] [])), (4, dI 0), (5, dI (cnt 0 n0)), (7, dI (ln x0)), (8, dI (cnt 0 n0)), (16, dB (F97 a0))] [] hC [pq (A8 hi0 hl0)] ?_
   rcases cB h with ⟨h1, h⟩ | ⟨h1, h⟩
   ·have hq := hret0 _ (hr0 _ (sI h).symm)
    replace hq := sI hq
    subst hq
    exact wr L5 24 [true] [] [] 0 [] hC [pq h1]
   ·exact wx w0b (Sv x0 (n0 + 1)) (Zg (n0 + 1)) L5 25 [false] [] [] 0 [] () hC [pq h1] (sI h).symm
 ·have h := hnext0 _ hs0
  replace h := sI h
  subst h
  exact wr L5 23 [] [] [] 0 [] hC []
theorem A4b : EN 155 := en Tryz.func155
theorem A5w (x0 : List Az) (x1c0c0 : A0) (r : Bool × A0) (h : vI x0 x1c0c0 = some r) : CO 61 [.d (DS B1 x0), .d (.fn (.func 62) [] [.o 0 0])] [.box 126 [.fn (.func 58) [] [.o 1 0]], .box 40 (d40 x1c0c0)] (.d (Bo r.1)) [.box 126 [.fn (.func 58) [] [.o 1 0]], .box 40 (d40 r.2)] := by
 unfold vI at h
 refine co 9 Tryz.func61 λ C hC => ?_
 obtain ⟨y1, h2, h⟩ := Ad h
 replace h := sI h
 subst h
 exact wr [0, 1, 4] 25 [] [pc A4n (A2s x0 x1c0c0 _ h2) [0, 1]] [] 2 [0, 1] hC []
theorem A6h : EN 61 := en Tryz.func61
theorem Ag7 (x0 : A2) (x1 : Int) (r : Bool) (h : M2 x0 x1 = some r) : CO 221 [.d (.ip [.v (.int .i64 x0.Al.Am), .s (x0.Al.Af.map Bi), .s (x0.Al.Ac.map Bt), .s (x0.Al.Ae.map q65), .v (.int .i64 x0.Al.Phase), .v (.int .i64 x0.Al.Ap), .s (x0.Ar.Ah.map pB), .s (x0.Ar.Ac.map A_), .s (x0.Ar.As.map pI), .s (x0.Ar.Aq.map q86), .v (.int .i64 x0.time)]), .d (I x1)] [] (.d (Bo r)) [] := by
 unfold M2 at h
 refine co 19 Tryz.func221 λ C hC => ?_
 obtain ⟨y1, h2, h⟩ := Ad h
 obtain ⟨y3, h4, h⟩ := Ad h
 replace h := sI h
 subst h
 exact wr [0, 1, 4] 25 [] [pc A8s (A7b x0.Al x1 _ h2) [], pr pB h4] [] 0 [] hC []
theorem Ah1 : EN 221 := en Tryz.func221
theorem qJ (x0 : Int) (x1 : Int) (x2 : Ay) (r : Bool × Ay) (h : Ku x0 x1 x2 = some r) : CO 231 [.d (I x0), .d (I x1), .d (.o 0 0)] (.box 211 [.o 1 0] :: .box 235 (zb x2.Al [.os 2, .os 3, .os 4, .os 5, .os 6]) :: zp x2.Ar [v6_ x2.acts]) (.d (Bo r.1)) (.box 211 [.o 1 0] :: .box 235 (zb r.2.Al [.os 2, .os 3, .os 4, .os 5, .os 6]) :: zp r.2.Ar [v6_ r.2.acts]) := by
 unfold Ku at h
 refine co 13 Tryz.func231 λ C hC => ?_
 obtain ⟨y1, h2, h⟩ := Ad h
 replace h := sI h
 subst h
 exact wr [0, 1, 2, 5] 25 [] [pb J0 (Jw x2.Ar x0 x1 _ h2)] [] 7 n7_ hC []
theorem qV : EN 231 := en Tryz.func231
def Im : List Nat := [0, 1, 2, 3, 8, 9, 14, 34]
def Sj (x1 : Int) (x2 : Int) (z0 : Int × (List Int)) : St := [(0, dS 0), (1, dI x1), (2, dI x2), (3, .d (.fn (.func 233) [] [.o 1 0])), (8, dI z0.1)]
def Y6 (x3c0 : Aa) (z0 : Int × (List Int)) : List Res := [v0_ z0.2, .box 29 (d29 x3c0)]
def Abx  (z0 : Int × (List Int)) : St := []
def Adf (x3c0 : Aa) (z0 : Int × (List Int)) : List Res := [v0_ z0.2, .box 29 (d29 x3c0)]
def Si (x1 : Int) (x2 : Int) (z0 : Int × (List Int)) (z1 : Int × (List Int)) : St := [(0, dS 0), (1, dI x1), (2, dI x2), (3, .d (.fn (.func 233) [] [.o 1 0])), (8, dI z0.1), (9, dI z1.1)]
def Y5 (x3c0 : Aa) (z1 : Int × (List Int)) : List Res := [v0_ z1.2, .box 29 (d29 x3c0)]
def Abw (x1 : Int) (x2 : Int) (z0 : Int × (List Int)) (z1 : Int × (List Int)) : St := [(0, dS 0), (1, dI x1), (2, dI x2), (3, .d (.fn (.func 233) [] [.o 1 0])), (8, dI z0.1)]
def Ade (x3c0 : Aa) (z1 : Int × (List Int)) : List Res := [v0_ z1.2, .box 29 (d29 x3c0)]
theorem Ati (x0 : List Int) (x1 : Int) (x2 : Int) (x3c0 : Aa) (r : (List Int) × Aa) (h : Uu x0 x1 x2 x3c0 = some r) : CO 246 [.d (.os 0), .d (I x1), .d (I x2), .d (.fn (.func 233) [] [.o 1 0])] [v0_ x0, .box 29 (d29 x3c0)] (.tup []) [v0_ r.1, .box 29 (d29 r.2)] := by
 unfold Uu at h
 refine co 53 Tryz.func246 λ C hC => ?_
 refine ws Im 23 [] [] [] 2 [0, 1] (Sj x1 x2 (w64 (x1 + 1), x0)) (Y6 x3c0 (w64 (x1 + 1), x0)) hC [] ?_
 obtain ⟨w0, hm0, hret0, hnext0⟩ := Au h
 clear h
 refine wc w0 (Abx) (Adf x3c0) ?_ λ z0 hs0 => ?_
 ·refine wb ?_
  refine B2 (by kernel_rfl) (N3 x1 x2 x3c0) (Sj x1 x2) (Y6 x3c0) w0 1152921504606846976 (w64 (x1 + 1), x0) hm0 rfl rfl λ z0 w0b h hb0 hr0 => ?_
  unfold N3 at h
  rcases cB h with ⟨h1, h⟩ | ⟨h1, h⟩
  ·refine ws Im 30 [true] [] [] 2 [0, 1] (Si x1 x2 z0 (z0.1, z0.2)) (Y5 x3c0 (z0.1, z0.2)) hC [pq h1] ?_
   obtain ⟨w1, hm1, hret1, hnext1⟩ := Au h
   clear h
   refine wc w1 (Abw x1 x2 z0) (Ade x3c0) ?_ λ z1 hs1 => ?_
   ·refine wb ?_
    refine B2 (by kernel_rfl) (Kt x1 x3c0) (Si x1 x2 z0) (Y5 x3c0) w1 1152921504606846976 (z0.1, z0.2) hm1 rfl rfl λ z1 w1b h hb1 hr1 => ?_
    unfold Kt at h
    obtain ⟨y8, h9, h⟩ := Ad h
    obtain ⟨y10, h11, h⟩ := Ad h
    obtain ⟨y12, h13, h⟩ := Ad h
    refine ws Im 24 [] [pR pI h9, pN pI h9, pR pI h11, pN pI h11, pv A29 (λ hg => A1e y8 y10 x3c0 _ (Ba h13 hg))] [] 2 [0, 1] [(0, dS 0), (1, dI x1), (2, dI x2), (3, .d (.fn (.func 233) [] [.o 1 0])), (8, dI z0.1), (9, dI z1.1), (34, dB (Rc x1 z1 y12))] [v0_ z1.2, .box 29 (d29 x3c0)] hC [] ?_
    rcases cB h with ⟨h14, h⟩ | ⟨h14, h⟩
    ·obtain ⟨y15, h16, h⟩ := Ad h
     obtain ⟨y17, h18, h⟩ := Ad h
     obtain ⟨y19, h20, h⟩ := Ad h
     obtain ⟨y21, h22, h⟩ := Ad h
     obtain ⟨y23, h24, h⟩ := Ad h
     exact wx w1b (Si x1 x2 z0) (Y5 x3c0) Im 28 [true] [pr pI h16, pn pI h16, pr pI h18, pn pI h18, pr pI h18, pu pI h18 h20, pr pI h22, pu pI h22 h24] [] 2 [0, 1] (w64 (z1.1 - 1), y23) hC [pq h14] (sI h).symm
    ·exact wx w1 (Abw x1 x2 z0) (Ade x3c0) Im 23 [false] [] [] 2 [0, 1] (z1.1, z1.2) hC [pq h14] (hb1 _ (sI h).symm)
   ·have h := hnext1 _ hs1
    exact wx w0b (Sj x1 x2) (Y6 x3c0) Im 23 [] [] [] 2 [0, 1] (w64 (z0.1 + 1), z1.2) hC [] (sI h).symm
  ·exact wx w0 (Abx) (Adf x3c0) Im 26 [false] [] [] 2 [0, 1] (z0.1, z0.2) hC [pq h1] (hb0 _ (sI h).symm)
 ·have h := hnext0 _ hs0
  replace h := sI h
  subst h
  exact wf Im 20 [] [] [] 2 [0, 1] hC []
theorem Aub : EN 246 := en Tryz.func246
def L4 : List Nat := [0, 1, 4, 5, 7, 8, 9, 16]
def Su (x0 : List Int) (n0 : Nat) (z0 : Unit) : St := [(0, dS 0), (1, .d (.fn (.func 209) [] [.o 1 0])), (4, dI 0), (7, dI (ln x0)), (8, dI (cnt 0 n0))]
def Zf (x0 : List Int) (x1c0 : Aj) (n0 : Nat) (z0 : Unit) : List Res := [v0_ x0, .box 84 (d84 x1c0)]
def Ach  (z0 : Unit) : St := [(4, dI 0)]
def Ad0 (x0 : List Int) (x1c0 : Aj) (z0 : Unit) : List Res := [v0_ x0, .box 84 (d84 x1c0)]
theorem A2f (x0 : List Int) (x1c0 : Aj) (r : Int × Aj) (h : yC x0 x1c0 = some r) : CO 158 [.d (.os 0), .d (.fn (.func 209) [] [.o 1 0])] [v0_ x0, .box 84 (d84 x1c0)] (.d (I r.1)) [v0_ x0, .box 84 (d84 r.2)] := by
 unfold yC at h
 refine co 19 Tryz.func158 λ C hC => ?_
 refine ws L4 26 [] [pl pI x0] [] 2 [0, 1] (Su x0 0 ()) (Zf x0 x1c0 0 ()) hC [] ?_
 obtain ⟨w0, hm0, hret0, hnext0⟩ := Au h
 clear h
 refine wc w0 (Ach) (Ad0 x0 x1c0) ?_ λ z0 hs0 => ?_
 ·refine wb ?_
  refine Cj 0 0 rfl rfl λ hl0 => ?_
  refine A7 (by kernel_rfl) (K0 x1c0) (Su x0) (Zf x0 x1c0) w0 x0 () hm0 rfl rfl (λ z0 hn0 => ?_) λ n0 a0 z0 w0b hi0 hx0 h hb0 hr0 => ?_
  ·clear hm0
   exact wx w0 (Ach) (Ad0 x0 x1c0) L4 26 [false] [] [] 2 [0, 1] () hC [pq (Bb hl0)] hn0
  ·unfold K0 at h
   obtain ⟨y1, h2, h⟩ := Ad h
   refine ws L4 32 [true] [pr pI (Bl hx0 hl0), pn pI (Bl hx0 hl0), pb Aue (Atl a0 x1c0 _ h2)] [] 2 [0, 1] [(0, dS 0), (1, .d (.fn (.func 209) [] [.o 1 0])), (4, dI 0), (5, dI (cnt 0 n0)), (7, dI (ln x0)), (8, dI (cnt 0 n0)), (16, dB y1)] [v0_ x0, .box 84 (d84 x1c0)] hC [pq (A8 hi0 hl0)] ?_
   rcases cB h with ⟨h3, h⟩ | ⟨h3, h⟩
   ·have hq := hret0 _ (hr0 _ (sI h).symm)
    replace hq := sI hq
    subst hq
    exact wr L4 24 [true] [] [] 2 [0, 1] hC [pq h3]
   ·exact wx w0b (Su x0 (n0 + 1)) (Zf x0 x1c0 (n0 + 1)) L4 25 [false] [] [] 2 [0, 1] () hC [pq h3] (sI h).symm
 ·have h := hnext0 _ hs0
  replace h := sI h
  subst h
  exact wr L4 23 [] [] [] 2 [0, 1] hC []
theorem A4a : EN 158 := en Tryz.func158
theorem k86 (x0 : Int) (r : (List Az)) (h : F86 x0 = some r) : CO 86 [.d (I x0)] [] (.d (.os 0)) [v5_ r] := by
 unfold F86 at h
 refine co 7 Tryz.func86 λ C hC => ?_
 obtain ⟨y1, h2, h⟩ := Ad h
 replace h := sI h
 subst h
 exact wr [0, 2] 25 [] [pc A9o (A77 [(⟨(-1), (-1)⟩ : Az)] x0 _ h2) []] [] 0 [0] hC []
theorem e86 : EN 86 := en Tryz.func86
theorem A7h (x0 : Aa) (x1 : Ab) (x2 : Aj) (x3 : Int) (r : Bool) (h : Akk x0 x1 x2 x3 = some r) : CO 215 [.agg (d29 x0), .agg (d36 x1), .agg (d84 x2), .d (I x3)] [] (.d (Bo r)) [] := by
 unfold Akk at h
 refine co 58 Tryz.func215 λ C hC => ?_
 obtain ⟨y1, h2, h⟩ := Ad h
 obtain ⟨y3, h4, h⟩ := Ad h
 obtain ⟨y5, h6, h⟩ := Ad h
 obtain ⟨y7, h8, h⟩ := Ad h
 obtain ⟨y9, h10, h⟩ := Ad h
 obtain ⟨y11, h12, h⟩ := Ad h
 obtain ⟨y13, h14, h⟩ := Ad h
 obtain ⟨y15, h16, h⟩ := Ad h
 replace h := sI h
 subst h
 exact wr [0, 1, 2, 3, 4, 5, 6, 8, 9, 10, 11] 31 [] [pc Ap6 (Apt x0 x3 _ h2) [], pr Bi h4, pc J0 (Jw x1 1 x3 _ h6) [], pw J0 (λ hg => Jw x1 2 y1 _ (Ba h8 hg)) [], pw J0 (λ hg => Jw x1 3 y3.A _ (Ba h10 hg)) [], pw Yr (λ hg => Yl x2.Am y3.A _ (Ba h12 hg)) [], pw Yr (λ hg => Yl x2.Ac x3 _ (Ba h14 hg)) [], pR A_ h16] [] 0 [] hC []
theorem A8y : EN 215 := en Tryz.func215
theorem A2h (x0 : Dc) (r : Bool) (h : Ayk x0 = r) : CO 150 [.agg (Aqa x0)] [] (.d (Bo r)) [] := by
 unfold Ayk at h
 refine co 6 Tryz.func150 λ C hC => ?_
 subst h
 exact wr n3_ 25 [] [pc A9n (A76 x0 _ rfl) []] [] 0 [] hC []
theorem A4c : EN 150 := en Tryz.func150
theorem A2v (rec46 : Aa -> Ab -> Int -> Option Bool) (ih46 : ∀ (x0 : Aa) (x1 : Ab) (x2 : Int) (r : Bool), rec46 x0 x1 x2 = some r -> CO 46 [.agg (d29 x0), .agg (d36 x1), .d (I x2)] [] (.d (Bo r)) []) (x0 : List Int) (x1c0 : Aa) (x1c1 : Ab) (r : Bool × Aa × Ab) (h : Ak5 rec46 x0 x1c0 x1c1 = some r) : CO 104 [.d (DS pI x0), .d (.fn (.func 105) [] [.o 0 0, .o 1 0])] [.box 29 (d29 x1c0), .box 36 (d36 x1c1)] (.d (Bo r.1)) [.box 29 (d29 r.2.1), .box 36 (d36 r.2.2)] := by
 unfold Ak5 at h
 refine co 9 Tryz.func104 λ C hC => ?_
 obtain ⟨y1, h2, h⟩ := Ad h
 replace h := sI h
 subst h
 exact wr [0, 1, 4] 25 [] [pc A39 (A2e rec46 ih46 x0 x1c0 x1c1 _ h2) [0, 1]] [] 2 [0, 1] hC []
theorem A4q : EN 104 := en Tryz.func104
theorem A71 (x0 : Int) (x1 : Int) (r : Int × Int) (h : Ayi x0 x1 = some r) : CO 160 [.d (I x0), .d (I x1)] [] (.tup [.d (I r.1), .d (I r.2)]) [] := by
 unfold Ayi at h
 refine co 11 Tryz.func160 λ C hC => ?_
 obtain ⟨y1, h2, h⟩ := Ad h
 replace h := sI h
 subst h
 exact wr [0, 1, 4, 5] 25 [] [pc A3r (A1w x0 x1 _ h2) []] [] 0 [] hC []
theorem A9i : EN 160 := en Tryz.func160
def Ag1 : List Nat := [0, 1, 2, 3, 4, 6, 7, 8, 32, 43]
theorem k27 (x0 : Aa) (x1 : Ab) (x2 : Int) (r : Int × Bool) (h : F27 x0 x1 x2 = some r) : CO 27 [.agg (d29 x0), .agg (d36 x1), .d (I x2)] [] (.tup [.d (I r.1), .d (Bo r.2)]) [] := by
 unfold F27 at h
 refine co 50 Tryz.func27 λ C hC => ?_
 obtain ⟨y1, h2, h⟩ := Ad h
 obtain ⟨y3, h4, h⟩ := Ad h
 refine ws Ag1 26 [] [pc e53 (k53 x0 x1 _ h2) [], pL_ [(((y1 != 0) || (decide (x2 < 0))), false)] Bt x0.Ac, pR A_ h4] [] 0 [0, 1] [(2, dI x2), (3, dO 0 0), (4, dO 1 0), (6, dI 0), (7, dB false), (32, dB (uI x0 x2 y1 y3))] [.box 29 (d29 x0), .box 36 (d36 x1)] hC [] ?_
 rcases cB h with ⟨h5, h⟩ | ⟨h5, h⟩
 ·replace h := sI h
  subst h
  exact wr Ag1 24 [true] [] [] 0 [] hC [pq h5]
 ·obtain ⟨y6, h7, h⟩ := Ad h
  obtain ⟨y8, h9, h⟩ := Ad h
  obtain ⟨y10, h11, h⟩ := Ad h
  refine ws Ag1 28 [false] [pc e77 (k77 x0 2 x2 _ h7) [], pr pI h9, pn pI h9, pr pB h11] [] 0 [0] [(3, dO 0 0), (6, dI 0), (7, dB false), (8, dI y8), (43, dB (!y10))] [.box 29 (d29 x0)] hC [pq h5] ?_
  rcases cB h with ⟨h12, h⟩ | ⟨h12, h⟩
  ·replace h := sI h
   subst h
   exact wr Ag1 24 [true] [] [] 0 [] hC [pq h12]
  ·obtain ⟨y13, h14, h⟩ := Ad h
   replace h := sI h
   subst h
   exact wr Ag1 25 [false] [pr Bi h14] [] 0 [] hC [pq h12]
theorem e27 : EN 27 := en Tryz.func27
def Yi : List Nat := [0, 1, 2, 3, 4, 6, 7, 9, 24, 27, 28, 29, 30, 37]
def Afq (y4 : (List Int)) (n0 : Nat) (z0 : Unit) : St := [(3, dO 0 0), (4, dO 1 0), (6, dI 0), (7, dB false), (27, dS 2), (28, dI (ln y4)), (29, dI (cnt 0 n0))]
def Aq5 (x0 : Aa) (x1 : Ab) (y4 : (List Int)) (n0 : Nat) (z0 : Unit) : List Res := [.box 29 (d29 x0), .box 36 (d36 x1), v0_ y4]
def Asv  (z0 : Unit) : St := [(6, dI 0), (7, dB false)]
def Avo  (z0 : Unit) : List Res := []
theorem k48 (x0 : Aa) (x1 : Ab) (x2 : Int) (r : Int × Bool) (h : F48 x0 x1 x2 = some r) : CO 48 [.agg (d29 x0), .agg (d36 x1), .d (I x2)] [] (.tup [.d (I r.1), .d (Bo r.2)]) [] := by
 unfold F48 at h
 refine co 45 Tryz.func48 λ C hC => ?_
 obtain ⟨y1, h2, h⟩ := Ad h
 refine ws Yi 26 [] [pc e53 (k53 x0 x1 _ h2) [], pL_ [(((y1 != 0) || (decide (x2 < 0))), false)] q65 x0.Ae] [] 0 [0, 1] [(2, dI x2), (3, dO 0 0), (4, dO 1 0), (6, dI 0), (7, dB false), (24, dB (Aqm x0 x2 y1))] [.box 29 (d29 x0), .box 36 (d36 x1)] hC [] ?_
 rcases cB h with ⟨h3, h⟩ | ⟨h3, h⟩
 ·replace h := sI h
  subst h
  exact wr Yi 24 [true] [] [] 0 [] hC [pq h3]
 ·obtain ⟨y4, h5, h⟩ := Ad h
  refine ws Yi 26 [false] [pc e77 (k77 x0 3 x2 _ h5) [], pl pI y4] [] 0 n3_ (Afq y4 0 ()) (Aq5 x0 x1 y4 0 ()) hC [pq h3] ?_
  obtain ⟨w0, hm0, hret0, hnext0⟩ := Au h
  clear h
  refine wc w0 (Asv) (Avo) ?_ λ z0 hs0 => ?_
  ·refine wb ?_
   refine Cj 27 2 rfl rfl λ hl0 => ?_
   refine A7 (by kernel_rfl) (Uq x0 x1) (Afq y4) (Aq5 x0 x1 y4) w0 y4 () hm0 rfl rfl (λ z0 hn0 => ?_) λ n0 a0 z0 w0b hi0 hx0 h hb0 hr0 => ?_
   ·clear hm0
    exact wx w0 (Asv) (Avo) Yi 26 [false] [] [] 0 [] () hC [pq (Bb hl0)] hn0
   ·unfold Uq at h
    obtain ⟨y6, h7, h⟩ := Ad h
    rcases cB h with ⟨h8, h⟩ | ⟨h8, h⟩
    ·obtain ⟨y9, h10, h⟩ := Ad h
     have hq := hret0 _ (hr0 _ (sI h).symm)
     replace hq := sI hq
     subst hq
     exact wr Yi 35 [true, true] [pr pI (Bl hx0 hl0), pn pI (Bl hx0 hl0), pr pB h7, pr Bi h10] [] 0 [] hC [pq (A8 hi0 hl0), pq h8]
    ·exact wx w0b (Afq y4 (n0 + 1)) (Aq5 x0 x1 y4 (n0 + 1)) Yi 36 [true, false] [pr pI (Bl hx0 hl0), pn pI (Bl hx0 hl0), pr pB h7] [] 0 n3_ () hC [pq (A8 hi0 hl0), pq h8] (sI h).symm
  ·have h := hnext0 _ hs0
   replace h := sI h
   subst h
   exact wr Yi 23 [] [] [] 0 [] hC []
theorem e48 : EN 48 := en Tryz.func48
def qG : List Nat := [0, 1, 2, 4, 6, 7, 8, 14]
def X6  (z0 : Int × (List Int) × Int × (List Ao)) : St := [(0, dO 0 0), (4, dO 4 0), (6, .d (DS q49 [])), (7, dS 5), (8, dI z0.1)]
def Aa4 (x1 : Aa) (z0 : Int × (List Int) × Int × (List Ao)) : List Res := (.box 90 [DS pI z0.2.1, I z0.2.2.1] :: zs x1 [.box 29 [I x1.Am, .os 1, .os 2, .os 3, I x1.Phase, I x1.Ap], v6_ (C1 z0)])
def Age  (z0 : Int × (List Int) × Int × (List Ao)) : St := [(6, .d (DS q49 [])), (7, dS 4)]
def Ajc (x1 : Aa) (z0 : Int × (List Int) × Int × (List Ao)) : List Res := (.box 90 [DS pI z0.2.1, I z0.2.2.1] :: zs x1 [v6_ (C1 z0)])
theorem A51 (x0 : Ai) (x1 : Aa) (x2 : Int) (r : (List Ao) × Ai) (h : yG x0 x1 x2 = some r) : CO 10 [.d (.o 0 0), .agg [I x1.Am, .os 1, .os 2, .os 3, I x1.Phase, I x1.Ap], .d (I x2)] (.box 90 (d90 x0) :: zs x1 []) (.d (.os 4)) (.box 90 (d90 r.2) :: zs x1 [v6_ r.1]) := by
 unfold yG at h
 refine co 24 Tryz.func10 λ C hC => ?_
 obtain ⟨y1, h2, h⟩ := Ad h
 refine ws qG 28 [] [pc e32 (k32 x0 (w64 (x2 + 1)) _ h2) [0]] [.own 7 49 3] 4 n6_ (X6 (y1.1, y1.2.L, y1.2.At, ([] : List Ao))) (Aa4 x1 (y1.1, y1.2.L, y1.2.At, ([] : List Ao))) hC [] ?_
 obtain ⟨w0, hm0, hret0, hnext0⟩ := Au h
 clear h
 refine wc w0 (Age) (Ajc x1) ?_ λ z0 hs0 => ?_
 ·refine wb ?_
  refine B2 (by kernel_rfl) (R5 x1) (X6) (Aa4 x1) w0 1152921504606846976 (y1.1, y1.2.L, y1.2.At, ([] : List Ao)) hm0 rfl rfl λ z0 w0b h hb0 hr0 => ?_
  unfold R5 at h
  rcases cB h with ⟨h3, h⟩ | ⟨h3, h⟩
  ·obtain ⟨y4, h5, h⟩ := Ad h
   obtain ⟨y6, h7, h⟩ := Ad h
   exact wx w0b (X6) (Aa4 x1) qG 31 [true] [pc A6k (A5z (⟨z0.2.1, z0.2.2.1⟩ : Ai) x1 _ h5) n4_, pa q49 3 h7] [] 4 [0, 1, 2, 3, 4, 6] (w64 (z0.1 - 1), y4.2.L, y4.2.At, y6) hC [pq h3] (sI h).symm
  ·exact wx w0 (Age) (Ajc x1) qG 26 [false] [] [] 4 [0, 1, 2, 3, 5] (z0.1, z0.2.1, z0.2.2.1, (C1 z0)) hC [pq h3] (hb0 _ (sI h).symm)
 ·have h := hnext0 _ hs0
  replace h := sI h
  subst h
  exact wr qG 23 [] [] [] 4 n5_ hC []
theorem A6m : EN 10 := en Tryz.func10
def Om : List Nat := [0, 1, 2, 3, 5, 6, 7, 29, 43, 44, 45, 46, 56, 57, 58, 59, 71]
def Afk (x0 : Aa) (n0 : Nat) (z0 : Bool) : St := [(1, dO 0 0), (2, dI 0), (3, dB z0), (43, .d (DS Bt x0.Ac)), (44, dI (ln x0.Ac)), (45, dI (cnt 0 n0))]
def Aqz (x0 : Aa) (n0 : Nat) (z0 : Bool) : List Res := [.box 29 (d29 x0)]
def Ask  (z0 : Bool) : St := [(1, dO 0 0), (2, dI 0), (3, dB z0)]
def Avd (x0 : Aa) (z0 : Bool) : List Res := [.box 29 (d29 x0)]
def Afj (x0 : Aa) (n1 : Nat) (z1 : Bool) : St := [(2, dI 0), (3, dB z1), (56, .d (DS q65 x0.Ae)), (57, dI (ln x0.Ae)), (58, dI (cnt 0 n1))]
def Aqy  (n1 : Nat) (z1 : Bool) : List Res := []
def Asj  (z1 : Bool) : St := [(2, dI 0), (3, dB z1)]
def Avc  (z1 : Bool) : List Res := []
theorem k85 (x0 : Aa) (r : Int) (h : F85 x0 = some r) : CO 85 [.agg (d29 x0)] [] (.d (I r)) [] := by
 unfold F85 at h
 refine co 72 Tryz.func85 λ C hC => ?_
 refine ws Om 26 [] [pc e99 (k99 x0.Am 1 6 _ rfl) [], pL_ [(!(F99 x0.Am 1 6), false)] Bi x0.Af, pL_ [(((!(F99 x0.Am 1 6)) || (decide ((ln x0.Af) > 24))), false)] Bt x0.Ac, pL_ [((((!(F99 x0.Am 1 6)) || (decide ((ln x0.Af) > 24))) || (decide ((ln x0.Ac) > 8))), false)] q65 x0.Ae] [] 0 [0] [(1, dO 0 0), (2, dI 0), (29, dB (Aqf x0))] [.box 29 (d29 x0)] hC [] ?_
 rcases cB h with ⟨h1, h⟩ | ⟨h1, h⟩
 ·replace h := sI h
  subst h
  exact wr Om 24 [true] [] [] 0 [] hC [pq h1]
 ·obtain ⟨y2, h3, h⟩ := Ad h
  refine ws Om 28 [false] [pc A9r (A8a x0 _ h3) [], ⟨.when [(y2, true)] (.call 99 [dI x0.Phase, dI 0, dI 1800] [] (dB (F99 x0.Phase 0 1800)) [] []), λ hg => ⟨e99, (k99 x0.Phase 0 1800 _ rfl)⟩⟩, ⟨.when [((y2 && (F99 x0.Phase 0 1800)), true)] (.call 99 [dI x0.Ap, dI 0, dI 6000] [] (dB (F99 x0.Ap 0 6000)) [] []), λ hg => ⟨e99, (k99 x0.Ap 0 6000 _ rfl)⟩⟩, pl Bt x0.Ac] [] 0 [0] (Afk x0 0 ((y2 && (F99 x0.Phase 0 1800)) && (F99 x0.Ap 0 6000))) (Aqz x0 0 ((y2 && (F99 x0.Phase 0 1800)) && (F99 x0.Ap 0 6000))) hC [pq h1] ?_
  obtain ⟨w0, hm0, hret0, hnext0⟩ := Au h
  clear h
  refine wc w0 (Ask) (Avd x0) ?_ λ z0 hs0 => ?_
  ·refine wb ?_
   refine Bn 43 rfl λ hl0 => ?_
   refine A7 (by kernel_rfl) Aj7 (Afk x0) (Aqz x0) w0 x0.Ac ((y2 && (F99 x0.Phase 0 1800)) && (F99 x0.Ap 0 6000)) hm0 rfl rfl (λ z0 hn0 => ?_) λ n0 a0 z0 w0b hi0 hx0 h hb0 hr0 => ?_
   ·clear hm0
    exact wx w0 (Ask) (Avd x0) Om 26 [false] [] [] 0 [0] z0 hC [pq (Bb hl0)] hn0
   ·unfold Aj7 at h
    exact wx w0b (Afk x0 (n0 + 1)) (Aqz x0 (n0 + 1)) Om 33 [true] [pt hx0 hl0, ⟨.when [(z0, true)] (.call 137 [.agg (A4s a0)] [] (dB (Z5 a0)) [] []), λ hg => ⟨A9q, (A79 a0 _ rfl)⟩⟩] [] 0 [0] (z0 && (Z5 a0)) hC [pq (A8 hi0 hl0)] (sI h).symm
  ·have h := hnext0 _ hs0
   refine ws Om 24 [] [pl q65 x0.Ae] [] 0 [] (Afj x0 0 z0) (Aqy 0 z0) hC [] ?_
   obtain ⟨w1, hm1, hret1, hnext1⟩ := Au h
   clear h
   refine wc w1 (Asj) (Avc) ?_ λ z1 hs1 => ?_
   ·refine wb ?_
    refine Bn 56 rfl λ hl1 => ?_
    refine A7 (by kernel_rfl) vC (Afj x0) (Aqy) w1 x0.Ae z0 hm1 rfl rfl (λ z1 hn1 => ?_) λ n1 a1 z1 w1b hi1 hx1 h hb1 hr1 => ?_
    ·clear hm1
     exact wx w1 (Asj) (Avc) Om 26 [false] [] [] 0 [] z1 hC [pq (Bb hl1)] hn1
    ·unfold vC at h
     obtain ⟨y4, h5, h⟩ := Ad h
     exact wx w1b (Afj x0 (n1 + 1)) (Aqy (n1 + 1)) Om 33 [true] [pt hx1 hl1, pw A9p (λ hg => A78 a1 (cnt 0 n1) _ (Ba h5 hg)) []] [] 0 [] (z1 && y4) hC [pq (A8 hi1 hl1)] (sI h).symm
   ·have h := hnext1 _ hs1
    rcases cB h with ⟨h6, h⟩ | ⟨h6, h⟩
    ·replace h := sI h
     subst h
     exact wr Om 27 [true] [] [] 0 [] hC [pq h6]
    ·replace h := sI h
     subst h
     exact wr Om 28 [false] [] [] 0 [] hC [pq h6]
theorem e85 : EN 85 := en Tryz.func85
theorem A5o (x0 : List Ag) (r : Bool) (h : Wv x0 = some r) : CO 96 [.d (DS A_ x0), .d (.fn (.func 97) [] [])] [] (.d (Bo r)) [] := by
 unfold Wv at h
 refine co 9 Tryz.func96 λ C hC => ?_
 obtain ⟨y1, h2, h⟩ := Ad h
 replace h := sI h
 subst h
 exact wr [0, 1, 4] 25 [] [pc A4b (A2g x0 _ h2) []] [] 0 [] hC []
theorem A59 : EN 96 := en Tryz.func96
theorem A16 (x0 : A2) (x1 : Int) (r : Int × A2) (h : M6 x0 x1 = some r) : CO 185 [.d (.o 0 0), .d (I x1)] (.box 186 (zb x0.Al [.os 1, .os 2, .os 3, .os 4, I x0.time]) :: zp x0.Ar []) (.d (I r.1)) (.box 186 (zb r.2.Al [.os 1, .os 2, .os 3, .os 4, I r.2.time]) :: zp r.2.Ar []) := by
 unfold M6 at h
 refine co 53 Tryz.func185 λ C hC => ?_
 obtain ⟨y1, h2, h⟩ := Ad h
 obtain ⟨y3, h4, h⟩ := Ad h
 refine ws [0, 1, 4, 5, 23, 43] 26 [] [pr A_ h2, pn A_ h2, pv J0 (λ hg => Jw x0.Ar 1 x1 _ (Ba h4 hg))] [] 5 n5_ [(0, dO 0 0), (1, dI x1), (4, dI 0), (23, dB ((y1.State != 0) || y3))] (.box 186 (zb x0.Al [.os 1, .os 2, .os 3, .os 4, I x0.time]) :: zp x0.Ar []) hC [] ?_
 rcases cB h with ⟨h5, h⟩ | ⟨h5, h⟩
 ·replace h := sI h
  subst h
  exact wr [0, 1, 4, 5, 23, 43] 24 [true] [] [] 5 n5_ hC [pq h5]
 ·obtain ⟨y6, h7, h⟩ := Ad h
  obtain ⟨y8, h9, h⟩ := Ad h
  refine ws [0, 1, 4, 5, 23, 43] 28 [false] [pr Bt h7, pv Ah1 (λ hg => Ag7 x0 x1 _ (Ba h9 hg))] [] 5 n6_ [(0, dO 0 0), (1, dI x1), (4, dI 0), (5, dO 5 0), (43, dB ((y6.Start == 0) && y8))] (.box 186 (zb x0.Al [.os 1, .os 2, .os 3, .os 4, I x0.time]) :: zp x0.Ar [.box 120 [I 1, I x0.time, I 5000, I 0]]) hC [pq h5] ?_
  rcases cB h with ⟨h10, h⟩ | ⟨h10, h⟩
  ·obtain ⟨y11, h12, h⟩ := Ad h
   replace h := sI h
   subst h
   exact wr [0, 1, 4, 5, 23, 43] 27 [true] [pr A_ h2, pu A_ h2 h12] [] 5 n5_ hC [pq h10]
  ·obtain ⟨y13, h14, h⟩ := Ad h
   replace h := sI h
   subst h
   exact wr [0, 1, 4, 5, 23, 43] 27 [false] [pr A_ h2, pu A_ h2 h14] [] 5 n5_ hC [pq h10]
theorem A31 : EN 185 := en Tryz.func185
theorem A15 (x0 : A2) (x1 : Int) (r : Int × A2) (h : M5 x0 x1 = some r) : CO 186 [.d (.o 0 0), .d (I x1)] (.box 186 (zb x0.Al [.os 1, .os 2, .os 3, .os 4, I x0.time]) :: zp x0.Ar []) (.d (I r.1)) (.box 186 (zb r.2.Al [.os 1, .os 2, .os 3, .os 4, I r.2.time]) :: zp r.2.Ar []) := by
 unfold M5 at h
 refine co 34 Tryz.func186 λ C hC => ?_
 obtain ⟨y1, h2, h⟩ := Ad h
 obtain ⟨y3, h4, h⟩ := Ad h
 refine ws [0, 1, 4, 5, 30] 28 [] [pr A_ h2, pn A_ h2, ⟨.when [((y1.State != 1), true)] (.row (x0.Ar.Ac.map A_) (((Int.toNat x1) : Nat) : Int) (A_ y1)), λ hg => Jo h2⟩, pv Ah1 (λ hg => Ag7 x0 x1 _ (Ba h4 hg))] [] 5 n5_ [(4, dI 0), (5, .d (.oe 2 (Int.toNat x1) 4 0)), (30, dB (Aig y1 y3))] (.box 186 (zb x0.Al [.os 1, .os 2, .os 3, .os 4, I x0.time]) :: zp x0.Ar []) hC [] ?_
 rcases cB h with ⟨h5, h⟩ | ⟨h5, h⟩
 ·replace h := sI h
  subst h
  exact wr [0, 1, 4, 5, 30] 24 [true] [] [] 5 n5_ hC [pq h5]
 ·obtain ⟨y6, h7, h⟩ := Ad h
  replace h := sI h
  subst h
  exact wr [0, 1, 4, 5, 30] 27 [false] [pu A_ h2 h7] [] 5 n5_ hC [pq h5]
theorem A30 : EN 186 := en Tryz.func186
def O_ : List Nat := [0, 1, 2, 3, 4, 5, 7, 12, 20]
theorem A1s (x0 : Ay) (x1 : Ak) (r : Bool × Ay) (h : U6 x0 x1 = some r) : CO 205 [.d (.o 0 0), .agg (F7 x1)] (.box 235 (zb x0.Al [.os 1, .os 2, .os 3, .os 4, .os 5]) :: zp x0.Ar [v6_ x0.acts]) (.d (Bo r.1)) (.box 235 (zb r.2.Al [.os 1, .os 2, .os 3, .os 4, .os 5]) :: zp r.2.Ar [v6_ r.2.acts]) := by
 unfold U6 at h
 refine co 45 Tryz.func205 λ C hC => ?_
 obtain ⟨y1, h2, h⟩ := Ad h
 refine ws O_ 29 [] [pc qV (qJ 3 x1.A x0 _ h2) [6, 0, 1, 2, 3, 4, 5]] [] 6 n8_ [(2, dO 6 0), (3, dO 7 0), (4, dB false), (5, .d (.fn (.func 231) [] [.o 6 0])), (7, dB y1.1)] (.box 235 (zb y1.2.Al [.os 1, .os 2, .os 3, .os 4, .os 5]) :: zp y1.2.Ar [v6_ y1.2.acts, .box 211 [.o 0 0], .box 147 (F7 x1)]) hC [] ?_
 rcases cB h with ⟨h3, h⟩ | ⟨h3, h⟩
 ·replace h := sI h
  subst h
  exact wr O_ 24 [true] [] [] 6 n6_ hC [pq h3]
 ·rcases cB h with ⟨h4, h⟩ | ⟨h4, h⟩
  ·obtain ⟨y5, h6, h⟩ := Ad h
   replace h := sI h
   subst h
   exact wr O_ 27 [false, true] [pc qV (qJ 3 x1.B y1.2 _ h6) [6, 0, 1, 2, 3, 4, 5]] [] 6 n6_ hC [pq h3, pq h4]
  ·rcases cB h with ⟨h7, h⟩ | ⟨h7, h⟩
   ·obtain ⟨y8, h9, h⟩ := Ad h
    obtain ⟨y10, h11, h⟩ := Ad h
    replace h := sI h
    subst h
    exact wr O_ 30 [false, false, true] [pc qV (qJ 1 x1.B y1.2 _ h9) [6, 0, 1, 2, 3, 4, 5], pR A_ h11, pN A_ h11] [] 6 n6_ hC [pq h3, pq h4, pq h7]
   ·obtain ⟨y12, h13, h⟩ := Ad h
    replace h := sI h
    subst h
    exact wr O_ 32 [false, false, false] [pc qV (qJ 4 x1.B y1.2 _ h13) [6, 0, 1, 2, 3, 4, 5]] [] 6 n6_ hC [pq h3, pq h4, pq h7]
theorem A3n : EN 205 := en Tryz.func205
def Ls : List Nat := [0, 1, 2, 6, 7, 8, 9, 13, 30, 35, 54]
def Sk (x1 : Int) (z0 : Sg8) : St := [(0, dS 0), (1, dI x1), (2, .d (.fn (.func 233) [] [.o 1 0])), (6, dI 20), (7, dI z0.1), (8, dI z0.2.1)]
def Y7  (z0 : Sg8) : List Res := [v0_ z0.2.2.1, .box 29 [I (g3_ z0), DS Bi (g4_ z0), DS Bt (g5_ z0), DS q65 (g6_ z0), I (g7_ z0), I (Ahf z0)]]
def Abz (x1 : Int) (z0 : Sg8) : St := [(0, dS 0), (1, dI x1), (2, .d (.fn (.func 233) [] [.o 1 0])), (6, dI 20), (7, dI z0.1), (8, dI z0.2.1)]
def Adh  (z0 : Sg8) : List Res := [v0_ z0.2.2.1, .box 29 [I (g3_ z0), DS Bi (g4_ z0), DS Bt (g5_ z0), DS q65 (g6_ z0), I (g7_ z0), I (Ahf z0)]]
def Abq (x1 : Int) (z0 : Sg8) (z1 : Unit) : St := [(0, dS 0), (1, dI x1), (2, .d (.fn (.func 233) [] [.o 1 0])), (6, dI 20), (7, dI z0.1), (8, dI z0.2.1)]
def Ajd (y4 : (List Int) × Aa) (z1 : Unit) : List Res := [v0_ y4.1, .box 29 (d29 y4.2)]
def Aby  (z1 : Unit) : St := []
def Adg (y4 : (List Int) × Aa) (z1 : Unit) : List Res := [v0_ y4.1, .box 29 (d29 y4.2)]
def A6w (x1 : Int) (z2 : Unit) : St := [(0, dS 0), (1, dI x1), (2, .d (.fn (.func 233) [] [.o 1 0])), (6, dI 20), (7, dI 0), (8, dI 40)]
def A97 (y4 : (List Int) × Aa) (z2 : Unit) : List Res := [v0_ y4.1, .box 29 (d29 y4.2)]
def A6x (x1 : Int) (z2 : Unit) : St := [(0, dS 0), (1, dI x1), (2, .d (.fn (.func 233) [] [.o 1 0])), (6, dI 20), (7, dI 0), (8, dI 40)]
def A6y (y4 : (List Int) × Aa) (z2 : Unit) : List Res := [v0_ y4.1, .box 29 (d29 y4.2)]
theorem A1c (x0 : List Int) (x1 : Int) (x2c0 : Aa) (r : (List Int) × Aa) (h : vW x0 x1 x2c0 = some r) : CO 242 [.d (.os 0), .d (I x1), .d (.fn (.func 233) [] [.o 1 0])] [v0_ x0, .box 29 (d29 x2c0)] (.tup []) [v0_ r.1, .box 29 (d29 r.2)] := by
 unfold vW at h
 refine co 63 Tryz.func242 λ C hC => ?_
 refine ws Ls 26 [] [] [] 2 [0, 1] (Sk x1 (0, 20, x0, x2c0.Am, x2c0.Af, x2c0.Ac, x2c0.Ae, x2c0.Phase, x2c0.Ap)) (Y7 (0, 20, x0, x2c0.Am, x2c0.Af, x2c0.Ac, x2c0.Ae, x2c0.Phase, x2c0.Ap)) hC [] ?_
 obtain ⟨w0, hm0, hret0, hnext0⟩ := Au h
 clear h
 refine wc w0 (Abz x1) (Adh) ?_ λ z0 hs0 => ?_
 ·refine wb ?_
  refine B2 (by kernel_rfl) (N5 x1) (Sk x1) (Y7) w0 1152921504606846976 (0, 20, x0, x2c0.Am, x2c0.Af, x2c0.Ac, x2c0.Ae, x2c0.Phase, x2c0.Ap) hm0 rfl rfl λ z0 w0b h hb0 hr0 => ?_
  unfold N5 at h
  rcases cB h with ⟨h1, h⟩ | ⟨h1, h⟩
  ·obtain ⟨y2, h3, h⟩ := Ad h
   exact wx w0b (Sk x1) (Y7) Ls 33 [true] [pc Aub (Ati z0.2.2.1 z0.1 z0.2.1 (⟨(g3_ z0), (g4_ z0), (g5_ z0), (g6_ z0), (g7_ z0), (Ahf z0)⟩ : Aa) _ h3) [0, 1]] [] 2 [0, 1] (z0.2.1, w64 (z0.2.1 + 20), y2.1, y2.2.Am, y2.2.Af, y2.2.Ac, y2.2.Ae, y2.2.Phase, y2.2.Ap) hC [pq h1] (sI h).symm
  ·exact wx w0 (Abz x1) (Adh) Ls 26 [false] [] [] 2 [0, 1] (z0.1, z0.2.1, z0.2.2.1, (g3_ z0), (g4_ z0), (g5_ z0), (g6_ z0), (g7_ z0), (Ahf z0)) hC [pq h1] (hb0 _ (sI h).symm)
 ·have h := hnext0 _ hs0
  obtain ⟨y4, h5, h⟩ := Ad h
  refine ws Ls 23 [] [pc Aub (Ati z0.2.2.1 z0.1 x1 (⟨(g3_ z0), (g4_ z0), (g5_ z0), (g6_ z0), (g7_ z0), (Ahf z0)⟩ : Aa) _ h5) [0, 1]] [] 2 [0, 1] (Abq x1 z0 ()) (Ajd y4 ()) hC [] ?_
  obtain ⟨w1, hm1, hret1, hnext1⟩ := Au h
  clear h
  refine wc w1 (Aby) (Adg y4) ?_ λ z1 hs1 => ?_
  ·refine wb ?_
   refine B2 (by kernel_rfl) (N4 x1) (Abq x1 z0) (Ajd y4) w1 1152921504606846976 () hm1 rfl rfl λ z1 w1b h hb1 hr1 => ?_
   unfold N4 at h
   rcases cB h with ⟨h6, h⟩ | ⟨h6, h⟩
   ·cases h
   ·exact wx w1 (Aby) (Adg y4) Ls 26 [false] [] [] 2 [0, 1] () hC [pq h6] (hb1 _ (sI h).symm)
  ·have h := hnext1 _ hs1
   replace h := sI h
   subst h
   exact wf Ls 20 [] [] [] 2 [0, 1] hC []
theorem A27 : EN 242 := en Tryz.func242
def Ju : List Nat := [0, 1, 2, 3, 4, 6, 7, 8, 9, 10, 11, 12, 13, 14, 28, 37, 38, 39, 54, 64, 65, 66, 81]
def jJ (x0 : Aa) (z0 : Int × (List Int)) : St := [(3, dO 0 0), (4, dO 1 0), (6, dO 2 0), (7, dB false), (8, dO 7 0), (37, dI (ln x0.Ac)), (38, dI z0.1)]
def Ae5 (x0 : Aa) (x1 : Ab) (y4 : (List Int)) (z0 : Int × (List Int)) : List Res := [.box 29 (d29 x0), .box 36 (d36 x1), .box 84 [.os 3, .os 4, .os 5], v0_ ([] : List Int), v0_ ([] : List Int), v0_ ([] : List Int), v0_ y4, .box 84 [.os 6, .os 8, .os 9], v0_ z0.2, v0_ ([] : List Int)]
def Asp  (z0 : Int × (List Int)) : St := [(3, dO 0 0), (4, dO 1 0), (6, dO 2 0), (7, dB false), (8, dO 7 0)]
def Avi (x0 : Aa) (x1 : Ab) (y4 : (List Int)) (z0 : Int × (List Int)) : List Res := [.box 29 (d29 x0), .box 36 (d36 x1), .box 84 [.os 3, .os 4, .os 5], v0_ ([] : List Int), v0_ ([] : List Int), v0_ ([] : List Int), v0_ y4, .box 84 [.os 6, .os 8, .os 9], v0_ z0.2, v0_ ([] : List Int)]
def jI (x0 : Aa) (z1 : Int × (List Int)) : St := [(3, dO 0 0), (4, dO 1 0), (6, dO 2 0), (7, dB false), (8, dO 7 0), (64, dI (ln x0.Ae)), (65, dI z1.1)]
def Ae4 (x0 : Aa) (x1 : Ab) (y4 : (List Int)) (z0 : Int × (List Int)) (z1 : Int × (List Int)) : List Res := [.box 29 (d29 x0), .box 36 (d36 x1), .box 84 [.os 3, .os 4, .os 5], v0_ ([] : List Int), v0_ ([] : List Int), v0_ ([] : List Int), v0_ y4, .box 84 [.os 6, .os 8, .os 9], v0_ z0.2, v0_ z1.2]
def Aso  (z1 : Int × (List Int)) : St := [(6, dO 0 0), (7, dB false), (8, dO 5 0)]
def Avh (y4 : (List Int)) (z0 : Int × (List Int)) (z1 : Int × (List Int)) : List Res := [.box 84 [.os 1, .os 2, .os 3], v0_ ([] : List Int), v0_ ([] : List Int), v0_ ([] : List Int), v0_ y4, .box 84 [.os 4, .os 6, .os 7], v0_ z0.2, v0_ z1.2]
theorem k54 (x0 : Aa) (x1 : Ab) (x2 : Int) (r : Aj × Bool) (h : F54 x0 x1 x2 = some r) : CO 54 [.agg (d29 x0), .agg (d36 x1), .d (I x2)] [] (.tup [.agg [.os 0, .os 1, .os 2], .d (Bo r.2)]) [v0_ r.1.Am, v0_ r.1.Ac, v0_ r.1.Ae] := by
 unfold F54 at h
 refine co 90 Tryz.func54 λ C hC => ?_
 obtain ⟨y1, h2, h⟩ := Ad h
 refine ws Ju 26 [] [pc e53 (k53 x0 x1 _ h2) []] [.ownb 2 0 3 1, .ownb 2 1 3 1, .ownb 2 2 3 1] 0 n6_ [(2, dI x2), (3, dO 0 0), (4, dO 1 0), (6, dO 2 0), (7, dB false), (28, dB (Aqi x0 x2 y1))] [.box 29 (d29 x0), .box 36 (d36 x1), .box 84 [.os 3, .os 4, .os 5], v0_ ([] : List Int), v0_ ([] : List Int), v0_ ([] : List Int)] hC [] ?_
 rcases cB h with ⟨h3, h⟩ | ⟨h3, h⟩
 ·replace h := sI h
  subst h
  exact wr Ju 24 [true] [] [.ownb 2 0 3 1, .ownb 2 1 3 1, .ownb 2 2 3 1] 0 [6, 7, 8] hC [pq h3]
 ·obtain ⟨y4, h5, h⟩ := Ad h
  refine ws Ju 28 [false] [pc A90 (A8j x0 x1 x2 _ h5) [], pl Bt x0.Ac] [.ownb 7 1 3 1, .ownb 7 2 3 1] 0 Hg (jJ x0 (0, ([] : List Int))) (Ae5 x0 x1 y4 (0, ([] : List Int))) hC [pq h3] ?_
  obtain ⟨w0, hm0, hret0, hnext0⟩ := Au h
  clear h
  refine wc w0 (Asp) (Avi x0 x1 y4) ?_ λ z0 hs0 => ?_
  ·refine wb ?_
   refine B2 (by kernel_rfl) (vL x0 x1 y4) (jJ x0) (Ae5 x0 x1 y4) w0 1152921504606846976 (0, ([] : List Int)) hm0 rfl rfl λ z0 w0b h hb0 hr0 => ?_
   unfold vL at h
   rcases cB h with ⟨h6, h⟩ | ⟨h6, h⟩
   ·obtain ⟨y7, h8, h⟩ := Ad h
    obtain ⟨y9, h10, h⟩ := Ad h
    refine ws Ju 34 [true] [pc e27 (k27 x0 x1 z0.1 _ h8) [], pv e55 (λ hg => k55 y4 y7.1 _ (Ba h10 hg))] [] 0 Hg [(3, dO 0 0), (4, dO 1 0), (6, dO 2 0), (7, dB false), (8, dO 7 0), (9, dI z0.1), (37, dI (ln x0.Ac)), (38, dI z0.1), (54, dB (y7.2 && y9))] [.box 29 (d29 x0), .box 36 (d36 x1), .box 84 [.os 3, .os 4, .os 5], v0_ ([] : List Int), v0_ ([] : List Int), v0_ ([] : List Int), v0_ y4, .box 84 [.os 6, .os 8, .os 9], v0_ z0.2, v0_ ([] : List Int)] hC [pq h6] ?_
    rcases cB h with ⟨h11, h⟩ | ⟨h11, h⟩
    ·obtain ⟨y12, h13, h⟩ := Ad h
     exact wx w0b (jJ x0) (Ae5 x0 x1 y4) Ju 25 [true] [pa pI 1 h13] [] 0 [0, 1, 2, 3, 4, 5, 6, 7, 10, 9] (w64 (z0.1 + 1), y12) hC [pq h11] (sI h).symm
    ·exact wx w0b (jJ x0) (Ae5 x0 x1 y4) Ju 25 [false] [] [] 0 Hg (w64 (z0.1 + 1), z0.2) hC [pq h11] (sI h).symm
   ·exact wx w0 (Asp) (Avi x0 x1 y4) Ju 26 [false] [] [] 0 Hg (z0.1, z0.2) hC [pq h6] (hb0 _ (sI h).symm)
  ·have h := hnext0 _ hs0
   refine ws Ju 24 [] [pl q65 x0.Ae] [] 0 Hg (jI x0 (0, ([] : List Int))) (Ae4 x0 x1 y4 z0 (0, ([] : List Int))) hC [] ?_
   obtain ⟨w1, hm1, hret1, hnext1⟩ := Au h
   clear h
   refine wc w1 (Aso) (Avh y4 z0) ?_ λ z1 hs1 => ?_
   ·refine wb ?_
    refine B2 (by kernel_rfl) (vK x0 x1 y4) (jI x0) (Ae4 x0 x1 y4 z0) w1 1152921504606846976 (0, ([] : List Int)) hm1 rfl rfl λ z1 w1b h hb1 hr1 => ?_
    unfold vK at h
    rcases cB h with ⟨h14, h⟩ | ⟨h14, h⟩
    ·obtain ⟨y15, h16, h⟩ := Ad h
     obtain ⟨y17, h18, h⟩ := Ad h
     refine ws Ju 34 [true] [pc e48 (k48 x0 x1 z1.1 _ h16) [], pv e55 (λ hg => k55 y4 y15.1 _ (Ba h18 hg))] [] 0 Hg [(3, dO 0 0), (4, dO 1 0), (6, dO 2 0), (7, dB false), (8, dO 7 0), (12, dI z1.1), (64, dI (ln x0.Ae)), (65, dI z1.1), (81, dB (y15.2 && y17))] [.box 29 (d29 x0), .box 36 (d36 x1), .box 84 [.os 3, .os 4, .os 5], v0_ ([] : List Int), v0_ ([] : List Int), v0_ ([] : List Int), v0_ y4, .box 84 [.os 6, .os 8, .os 9], v0_ z0.2, v0_ z1.2] hC [pq h14] ?_
     rcases cB h with ⟨h19, h⟩ | ⟨h19, h⟩
     ·obtain ⟨y20, h21, h⟩ := Ad h
      exact wx w1b (jI x0) (Ae4 x0 x1 y4 z0) Ju 25 [true] [pa pI 1 h21] [] 0 [0, 1, 2, 3, 4, 5, 6, 7, 8, 10] (w64 (z1.1 + 1), y20) hC [pq h19] (sI h).symm
     ·exact wx w1b (jI x0) (Ae4 x0 x1 y4 z0) Ju 25 [false] [] [] 0 Hg (w64 (z1.1 + 1), z1.2) hC [pq h19] (sI h).symm
    ·exact wx w1 (Aso) (Avh y4 z0) Ju 26 [false] [] [] 0 [2, 3, 4, 5, 6, 7, 8, 9] (z1.1, z1.2) hC [pq h14] (hb1 _ (sI h).symm)
   ·have h := hnext1 _ hs1
    replace h := sI h
    subst h
    exact wr Ju 23 [] [] [] 0 [4, 6, 7] hC []
theorem e54 : EN 54 := en Tryz.func54
def Io : List Nat := [0, 1, 4, 5, 6, 7, 12, 19, 29]
def Na  (z0 : Int × Int × (List Int)) : St := [(0, dS 0), (1, .d (.fn (.func 209) [] [.o 1 0])), (4, .d (DS pI [])), (5, dI z0.1), (6, dI z0.2.1)]
def Rk (y1 : Int × Aj) (z0 : Int × Int × (List Int)) : List Res := [v0_ z0.2.2, .box 84 (d84 y1.2)]
def Ab6  (z0 : Int × Int × (List Int)) : St := [(0, dS 0), (4, .d (DS pI [])), (5, dI z0.1)]
def Adp (y1 : Int × Aj) (z0 : Int × Int × (List Int)) : List Res := [v0_ z0.2.2, .box 84 (d84 y1.2)]
theorem A1q (x0 : List Int) (x1c0 : Aj) (r : (List Int) × Aj) (h : U4 x0 x1c0 = some r) : CO 208 [.d (.os 0), .d (.fn (.func 209) [] [.o 1 0])] [.sl 3 1 (x0.map pI), .box 84 (d84 x1c0)] (.d (.os 2)) [.non, .box 84 (d84 r.2), .sl 3 1 (r.1.map pI)] := by
 unfold U4 at h
 refine co 42 Tryz.func208 λ C hC => ?_
 obtain ⟨y1, h2, h⟩ := Ad h
 refine ws Io 28 [] [pc A4a (A2f x0 x1c0 _ h2) [0, 1]] [] 2 [0, 1] [(0, dS 0), (1, .d (.fn (.func 209) [] [.o 1 0])), (4, .d (DS pI [])), (5, dI y1.1), (12, dB (y1.1 == (-1)))] [v0_ x0, .box 84 (d84 y1.2)] hC [] ?_
 rcases cB h with ⟨h3, h⟩ | ⟨h3, h⟩
 ·replace h := sI h
  subst h
  exact wr Io 24 [true] [] [.mv 0] 2 n3_ hC [pq h3]
 ·refine ws Io 26 [false] [] [] 2 [0, 1] (Na (y1.1, w64 (y1.1 + 1), x0)) (Rk y1 (y1.1, w64 (y1.1 + 1), x0)) hC [pq h3] ?_
  obtain ⟨w0, hm0, hret0, hnext0⟩ := Au h
  clear h
  refine wc w0 (Ab6) (Adp y1) ?_ λ z0 hs0 => ?_
  ·refine wb ?_
   refine B2 (by kernel_rfl) (N9 y1) (Na) (Rk y1) w0 1152921504606846976 (y1.1, w64 (y1.1 + 1), x0) hm0 rfl rfl λ z0 w0b h hb0 hr0 => ?_
   unfold N9 at h
   rcases cB h with ⟨h4, h⟩ | ⟨h4, h⟩
   ·obtain ⟨y5, h6, h⟩ := Ad h
    obtain ⟨y7, h8, h⟩ := Ad h
    refine ws Io 32 [true] [pl pI z0.2.2, pr pI h6, pn pI h6, pb Aue (Atl y5 y1.2 _ h8)] [] 2 [0, 1] [(0, dS 0), (1, .d (.fn (.func 209) [] [.o 1 0])), (4, .d (DS pI [])), (5, dI z0.1), (6, dI z0.2.1), (7, dI y5), (29, dB (!y7))] [v0_ z0.2.2, .box 84 (d84 y1.2)] hC [pq h4] ?_
    rcases cB h with ⟨h9, h⟩ | ⟨h9, h⟩
    ·obtain ⟨y10, h11, h⟩ := Ad h
     obtain ⟨y12, h13, h⟩ := Ad h
     exact wx w0b (Na) (Rk y1) Io 27 [true] [pr pI h11, pu pI h11 h13] [] 2 [0, 1] (w64 (z0.1 + 1), w64 (z0.2.1 + 1), y12) hC [pq h9] (sI h).symm
    ·exact wx w0b (Na) (Rk y1) Io 25 [false] [] [] 2 [0, 1] (z0.1, w64 (z0.2.1 + 1), z0.2.2) hC [pq h9] (sI h).symm
   ·exact wx w0 (Ab6) (Adp y1) Io 26 [false] [pl pI z0.2.2] [] 2 [0, 1] (z0.1, z0.2.1, z0.2.2) hC [pq h4] (hb0 _ (sI h).symm)
  ·have h := hnext0 _ hs0
   obtain ⟨u15, h14, h⟩ := Ad h
   obtain ⟨u17, h16, h⟩ := Ad h
   replace h := sI h
   subst h
   (rw [List.map_take]; exact uR (bs := []) Ib Io 25 [] [.bnd (z0.2.2.map pI).length z0.1 (((z0.2.2.map pI).length : Nat) : Int) (ln z0.2.2), .eqr ((z0.2.2.map pI).take (Int.toNat z0.1) ++ (List.replicate ((Int.toNat (ln z0.2.2)) - (Int.toNat z0.1)) (pI 0) ++ (z0.2.2.map pI).drop ((Int.toNat z0.1) + ((Int.toNat (ln z0.2.2)) - (Int.toNat z0.1))))) ((Gj z0.2.2 (Int.toNat z0.1) ((Int.toNat (ln z0.2.2)) - (Int.toNat z0.1)) 0).map pI), .bnd ((Gj z0.2.2 (Int.toNat z0.1) ((Int.toNat (ln z0.2.2)) - (Int.toNat z0.1)) 0).map pI).length 0 z0.1 z0.1] [.trunc 4] [.tmp 4] 2 n3_ rfl hC ⟨Ef (by simp) (by simp) h14, Aau pI rfl, Ef (by simp) rfl h16, trivial⟩ trivial (by kernel_rfl))
theorem A3l : EN 208 := en Tryz.func208
def Pa : List Nat := [0, 1, 4, 5, 7, 8, 9, 16]
def Sr (x0 : List Dc) (n0 : Nat) (z0 : Unit) : St := [(0, .d (DS Yd x0)), (1, .d (.fn (.func 150) [] [])), (4, dI 0), (7, dI (ln x0)), (8, dI (cnt 0 n0))]
def Zd  (n0 : Nat) (z0 : Unit) : List Res := []
def Acd  (z0 : Unit) : St := [(4, dI 0)]
def Adw  (z0 : Unit) : List Res := []
theorem A1y (x0 : List Dc) (r : Int) (h : Akm x0 = some r) : CO 196 [.d (DS Yd x0), .d (.fn (.func 150) [] [])] [] (.d (I r)) [] := by
 unfold Akm at h
 refine co 19 Tryz.func196 λ C hC => ?_
 refine ws Pa 26 [] [pl Yd x0] [] 0 [] (Sr x0 0 ()) (Zd 0 ()) hC [] ?_
 obtain ⟨w0, hm0, hret0, hnext0⟩ := Au h
 clear h
 refine wc w0 (Acd) (Adw) ?_ λ z0 hs0 => ?_
 ·refine wb ?_
  refine Bn 0 rfl λ hl0 => ?_
  refine A7 (by kernel_rfl) Vc (Sr x0) (Zd) w0 x0 () hm0 rfl rfl (λ z0 hn0 => ?_) λ n0 a0 z0 w0b hi0 hx0 h hb0 hr0 => ?_
  ·clear hm0
   exact wx w0 (Acd) (Adw) Pa 26 [false] [] [] 0 [] () hC [pq (Bb hl0)] hn0
  ·unfold Vc at h
   rcases cB h with ⟨h1, h⟩ | ⟨h1, h⟩
   ·have hq := hret0 _ (hr0 _ (sI h).symm)
    replace hq := sI hq
    subst hq
    exact wr Pa 35 [true, true] [pt hx0 hl0, pc A4c (A2h a0 _ rfl) []] [] 0 [] hC [pq (A8 hi0 hl0), pq h1]
   ·exact wx w0b (Sr x0 (n0 + 1)) (Zd (n0 + 1)) Pa 36 [true, false] [pt hx0 hl0, pc A4c (A2h a0 _ rfl) []] [] 0 [] () hC [pq (A8 hi0 hl0), pq h1] (sI h).symm
 ·have h := hnext0 _ hs0
  replace h := sI h
  subst h
  exact wr Pa 23 [] [] [] 0 [] hC []
theorem A3t : EN 196 := en Tryz.func196
def Tp : List Nat := [0, 1, 2, 3, 4, 5, 6, 7, 8, 12, 38, 50, 51, 52, 53, 77]
def Afs (x1 : Ab) (n0 : Nat) (z0 : Bool) : St := [(2, dO 0 0), (3, dO 1 0), (4, dI 0), (6, dB z0), (50, .d (DS pI x1.As)), (51, dI (ln x1.As)), (52, dI (cnt 0 n0))]
def Aq6 (x0 : Aa) (x1 : Ab) (n0 : Nat) (z0 : Bool) : List Res := [.box 29 (d29 x0), .box 36 (d36 x1)]
def Asw  (z0 : Bool) : St := [(4, dI 0), (6, dB z0)]
def Avp  (z0 : Bool) : List Res := []
theorem k43 (x0 : Aa) (x1 : Ab) (r : Int) (h : F43 x0 x1 = some r) : CO 43 [.agg (d29 x0), .agg (d36 x1)] [] (.d (I r)) [] := by
 unfold F43 at h
 refine co 78 Tryz.func43 λ C hC => ?_
 obtain ⟨y1, h2, h⟩ := Ad h
 rcases cB h with ⟨h3, h⟩ | ⟨h3, h⟩
 ·replace h := sI h
  subst h
  exact wr Tp 31 [true] [pc e85 (k85 x0 _ h2) []] [] 0 [] hC [pq h3]
 ·refine ws Tp 33 [false] [pc e85 (k85 x0 _ h2) [], pl pB x1.Ah, pl Bi x0.Af, pL_ [(((ln x1.Ah) != (ln x0.Af)), false)] A_ x1.Ac, pL_ [(((ln x1.Ah) != (ln x0.Af)), false)] Bt x0.Ac, pL_ [((((ln x1.Ah) != (ln x0.Af)) || ((ln x1.Ac) != (ln x0.Ac))), false)] pI x1.As, pL_ [((((ln x1.Ah) != (ln x0.Af)) || ((ln x1.Ac) != (ln x0.Ac))), false)] q65 x0.Ae] [] 0 [0, 1] [(2, dO 0 0), (3, dO 1 0), (4, dI 0), (38, dB (Aew x0 x1))] [.box 29 (d29 x0), .box 36 (d36 x1)] hC [pq h3] ?_
  rcases cB h with ⟨h4, h⟩ | ⟨h4, h⟩
  ·replace h := sI h
   subst h
   exact wr Tp 24 [true] [] [] 0 [] hC [pq h4]
  ·obtain ⟨y5, h6, h⟩ := Ad h
   obtain ⟨y7, h8, h⟩ := Ad h
   refine ws Tp 28 [false] [pc e95 (k95 x0 x1.Aq _ h6) [], pw A59 (λ hg => A5o x1.Ac _ (Ba h8 hg)) [], pl pI x1.As] [] 0 [0, 1] (Afs x1 0 (y5 && (!y7))) (Aq6 x0 x1 0 (y5 && (!y7))) hC [pq h4] ?_
   obtain ⟨w0, hm0, hret0, hnext0⟩ := Au h
   clear h
   refine wc w0 (Asw) (Avp) ?_ λ z0 hs0 => ?_
   ·refine wb ?_
    refine Bn 50 rfl λ hl0 => ?_
    refine A7 (by kernel_rfl) (vR x0 x1) (Afs x1) (Aq6 x0 x1) w0 x1.As (y5 && (!y7)) hm0 rfl rfl (λ z0 hn0 => ?_) λ n0 a0 z0 w0b hi0 hx0 h hb0 hr0 => ?_
    ·clear hm0
     exact wx w0 (Asw) (Avp) Tp 26 [false] [] [] 0 [] z0 hC [pq (Bb hl0)] hn0
    ·unfold vR at h
     obtain ⟨y9, h10, h⟩ := Ad h
     obtain ⟨y11, h12, h⟩ := Ad h
     exact wx w0b (Afs x1 (n0 + 1)) (Aq6 x0 x1 (n0 + 1)) Tp 33 [true] [pt hx0 hl0, pR q65 h10, ⟨.when [(z0, true)] (.call 99 [dI a0, dI 0, dI y9.Load] [] (dB (F99 a0 0 y9.Load)) [] []), λ hg => ⟨e99, (k99 a0 0 y9.Load _ rfl)⟩⟩, pw A94 (λ hg => A8n x0 x1 (cnt 0 n0) _ (Ba h12 hg)) []] [] 0 [0, 1] ((z0 && (F99 a0 0 y9.Load)) && (decide (y11 <= 1))) hC [pq (A8 hi0 hl0)] (sI h).symm
   ·have h := hnext0 _ hs0
    rcases cB h with ⟨h13, h⟩ | ⟨h13, h⟩
    ·replace h := sI h
     subst h
     exact wr Tp 27 [true] [] [] 0 [] hC [pq h13]
    ·replace h := sI h
     subst h
     exact wr Tp 28 [false] [] [] 0 [] hC [pq h13]
theorem e43 : EN 43 := en Tryz.func43
def Hv : List Nat := [0, 1, 4, 5, 6, 8, 13, 14, 15, 16, 32, 38, 39, 40, 41]
def Nd (x0 : Ay) (n0 : Nat) (z0 : Sg7) : St := [(0, dO 0 0), (1, .d (.fn (.func 205) [.o 0 0] [])), (4, dS 6), (13, .d (DS Bi x0.Al.Af)), (14, dI (ln x0.Al.Af)), (15, dI (cnt 0 n0))]
def Rn  (n0 : Nat) (z0 : Sg7) : List Res := [.box 235 [I z0.1, DS Bi z0.2.1, DS Bt z0.2.2.1, DS q65 (g3_ z0), I (g4_ z0), I (g5_ z0), .os 7, .os 8, .os 9, .os 10, .os 11], .non, .non, .non, .non, .non, v0_ (g6_ z0), v2_ (g7_ z0), v4_ (g8_ z0), v0_ (g9_ z0), v3_ (Ch z0), v6_ (Ft z0)]
def Acc  (z0 : Sg7) : St := [(0, dO 0 0), (4, dS 6)]
def Adv  (z0 : Sg7) : List Res := [.box 235 [I z0.1, DS Bi z0.2.1, DS Bt z0.2.2.1, DS q65 (g3_ z0), I (g4_ z0), I (g5_ z0), .os 7, .os 8, .os 9, .os 10, .os 11], .non, .non, .non, .non, .non, v0_ (g6_ z0), v2_ (g7_ z0), v4_ (g8_ z0), v0_ (g9_ z0), v3_ (Ch z0), v6_ (Ft z0)]
def Sq (z0 : Sg7) (n1 : Nat) (z1 : Sg6) : St := [(0, dO 0 0), (38, dS 6), (39, dI (ln (g6_ z0))), (40, dI (cnt 0 n1))]
def Zc (z0 : Sg7) (n1 : Nat) (z1 : Sg6) : List Res := [.box 235 [I z1.1, DS Bi z1.2.1, DS Bt z1.2.2.1, DS q65 (g3_ z1), I (g4_ z1), I (g5_ z1), .os 7, .os 8, .os 9, .os 10, .os 11], .non, .non, .non, .non, .non, v0_ (g6_ z0), v2_ (g6_ z1), v4_ (g7_ z1), v0_ (g8_ z1), v3_ (g9_ z1), v6_ (Df z1)]
def Acb  (z1 : Sg6) : St := []
def Adu  (z1 : Sg6) : List Res := [.box 235 [I z1.1, DS Bi z1.2.1, DS Bt z1.2.2.1, DS q65 (g3_ z1), I (g4_ z1), I (g5_ z1), .os 6, .os 7, .os 8, .os 9, .os 10], .non, .non, .non, .non, .non, v2_ (g6_ z1), v4_ (g7_ z1), v0_ (g8_ z1), v3_ (g9_ z1), v6_ (Df z1)]
theorem A1v (x0 : Ay) (r : Ay) (h : Va x0 = some r) : CO 204 [.d (.o 0 0), .d (.fn (.func 205) [.o 0 0] [])] (.box 235 (zb x0.Al [.os 1, .os 2, .os 3, .os 4, .os 5]) :: zp x0.Ar [v6_ x0.acts]) (.tup []) (.box 235 (zb r.Al [.os 6, .os 7, .os 8, .os 9, .os 10]) :: .non :: .non :: .non :: .non :: .non :: zp r.Ar [v6_ r.acts]) := by
 unfold Va at h
 refine co 48 Tryz.func204 λ C hC => ?_
 refine ws Hv 26 [] [pl Bi x0.Al.Af] [.own 4 3 1, .mv 1, .mv 2, .mv 3, .mv 4, .mv 5] 6 Fo (Nd x0 0 (zt x0.Al (([] : List Int), zu x0.Ar x0.acts))) (Rn 0 (zt x0.Al (([] : List Int), zu x0.Ar x0.acts))) hC [] ?_
 obtain ⟨w0, hm0, hret0, hnext0⟩ := Au h
 clear h
 refine wc w0 (Acc) (Adv) ?_ λ z0 hs0 => ?_
 ·refine wb ?_
  refine Bn 13 rfl λ hl0 => ?_
  refine A7 (by kernel_rfl) Ob (Nd x0) (Rn) w0 x0.Al.Af (zt x0.Al (([] : List Int), zu x0.Ar x0.acts)) hm0 rfl rfl (λ z0 hn0 => ?_) λ n0 a0 z0 w0b hi0 hx0 h hb0 hr0 => ?_
  ·clear hm0
   exact wx w0 (Acc) (Adv) Hv 26 [false] [] [] 6 Fo (z0.1, z0.2.1, z0.2.2.1, (g3_ z0), (g4_ z0), (g5_ z0), (g6_ z0), (g7_ z0), (g8_ z0), (g9_ z0), (Ch z0), (Ft z0)) hC [pq (Bb hl0)] hn0
  ·unfold Ob at h
   obtain ⟨y1, h2, h⟩ := Ad h
   obtain ⟨y3, h4, h⟩ := Ad h
   refine ws Hv 32 [true] [pt hx0 hl0, pr pB h2, pn pB h2, ⟨.whenR [(y1, true)] (.call 205 [dO 0 0, .agg (F7 a0)] [.box 235 [I z0.1, DS Bi z0.2.1, DS Bt z0.2.2.1, DS q65 (g3_ z0), I (g4_ z0), I (g5_ z0), .os 1, .os 2, .os 3, .os 4, .os 5], v2_ (g7_ z0), v4_ (g8_ z0), v0_ (g9_ z0), v3_ (Ch z0), v6_ (Ft z0)] (dB y3.1) (.box 235 (zb y3.2.Al [.os 1, .os 2, .os 3, .os 4, .os 5]) :: zp y3.2.Ar [v6_ y3.2.acts]) [0, 7, 8, 9, 10, 11]), ⟨λ hg => ⟨A3n, (A1s (⟨(⟨z0.1, z0.2.1, z0.2.2.1, (g3_ z0), (g4_ z0), (g5_ z0)⟩ : Aa), (⟨(g7_ z0), (g8_ z0), (g9_ z0), (Ch z0)⟩ : Ab), (Ft z0)⟩ : Ay) a0 _ (Ba h4 hg))⟩, λ hg => by have e := H1 h4 hg; subst e; rfl⟩⟩] [] 6 Fo [(0, dO 0 0), (1, .d (.fn (.func 205) [.o 0 0] [])), (4, dS 6), (5, dI (cnt 0 n0)), (13, .d (DS Bi x0.Al.Af)), (14, dI (ln x0.Al.Af)), (15, dI (cnt 0 n0)), (32, dB (y1 && y3.1))] (.box 235 (zb y3.2.Al [.os 7, .os 8, .os 9, .os 10, .os 11]) :: .non :: .non :: .non :: .non :: .non :: v0_ (g6_ z0) :: zp y3.2.Ar [v6_ y3.2.acts]) hC [pq (A8 hi0 hl0)] ?_
   rcases cB h with ⟨h5, h⟩ | ⟨h5, h⟩
   ·obtain ⟨y6, h7, h⟩ := Ad h
    exact wx w0b (Nd x0 (n0 + 1)) (Rn (n0 + 1)) Hv 25 [true] [pa pI 1 h7] [] 6 [0, 1, 2, 3, 4, 5, 12, 7, 8, 9, 10, 11] (zt y3.2.Al (y6, zu y3.2.Ar y3.2.acts)) hC [pq h5] (sI h).symm
   ·exact wx w0b (Nd x0 (n0 + 1)) (Rn (n0 + 1)) Hv 25 [false] [] [] 6 Fo (zt y3.2.Al ((g6_ z0), zu y3.2.Ar y3.2.acts)) hC [pq h5] (sI h).symm
 ·have h := hnext0 _ hs0
  refine ws Hv 23 [] [pl pI (g6_ z0)] [] 6 Fo (Sq z0 0 (z0.1, z0.2.1, z0.2.2.1, (g3_ z0), (g4_ z0), (g5_ z0), (g7_ z0), (g8_ z0), (g9_ z0), (Ch z0), (Ft z0))) (Zc z0 0 (z0.1, z0.2.1, z0.2.2.1, (g3_ z0), (g4_ z0), (g5_ z0), (g7_ z0), (g8_ z0), (g9_ z0), (Ch z0), (Ft z0))) hC [] ?_
  obtain ⟨w1, hm1, hret1, hnext1⟩ := Au h
  clear h
  refine wc w1 (Acb) (Adu) ?_ λ z1 hs1 => ?_
  ·refine wb ?_
   refine Cj 38 6 rfl rfl λ hl1 => ?_
   refine A7 (by kernel_rfl) Kx (Sq z0) (Zc z0) w1 (g6_ z0) (z0.1, z0.2.1, z0.2.2.1, (g3_ z0), (g4_ z0), (g5_ z0), (g7_ z0), (g8_ z0), (g9_ z0), (Ch z0), (Ft z0)) hm1 rfl rfl (λ z1 hn1 => ?_) λ n1 a1 z1 w1b hi1 hx1 h hb1 hr1 => ?_
   ·clear hm1
    exact wx w1 (Acb) (Adu) Hv 26 [false] [] [] 6 [0, 1, 2, 3, 4, 5, 7, 8, 9, 10, 11] (z1.1, z1.2.1, z1.2.2.1, (g3_ z1), (g4_ z1), (g5_ z1), (g6_ z1), (g7_ z1), (g8_ z1), (g9_ z1), (Df z1)) hC [pq (Bb hl1)] hn1
   ·unfold Kx at h
    obtain ⟨y8, h9, h⟩ := Ad h
    exact wx w1b (Sq z0 (n1 + 1)) (Zc z0 (n1 + 1)) Hv 33 [true] [pr pI (Bl hx1 hl1), pn pI (Bl hx1 hl1), pc Ahz (Ag5 (⟨(⟨z1.1, z1.2.1, z1.2.2.1, (g3_ z1), (g4_ z1), (g5_ z1)⟩ : Aa), (⟨(g6_ z1), (g7_ z1), (g8_ z1), (g9_ z1)⟩ : Ab), (Df z1)⟩ : Ay) a1 _ h9) [0, 7, 8, 9, 10, 11]] [] 6 [0, 1, 2, 3, 4, 5, 6, 7, 8, 9, 10, 12] (zt y8.Al (zu y8.Ar y8.acts)) hC [pq (A8 hi1 hl1)] (sI h).symm
  ·have h := hnext1 _ hs1
   replace h := sI h
   subst h
   exact wf Hv 20 [] [] [] 6 Aph hC []
theorem A3q : EN 204 := en Tryz.func204
theorem A1f (x0 : List Int) (x1c0 : Aa) (r : (List Int) × Aa) (h : Uw x0 x1c0 = some r) : CO 232 [.d (.os 0), .d (.fn (.func 233) [] [.o 1 0])] [v0_ x0, .box 29 (d29 x1c0)] (.tup []) [v0_ r.1, .box 29 (d29 r.2)] := by
 unfold Uw at h
 refine co 9 Tryz.func232 λ C hC => ?_
 obtain ⟨y1, h2, h⟩ := Ad h
 replace h := sI h
 subst h
 exact wf [0, 1] 21 [] [pl pI x0, pc A27 (A1c x0 (ln x0) x1c0 _ h2) [0, 1]] [] 2 [0, 1] hC []
theorem A3a : EN 232 := en Tryz.func232
def Ag0 : List Nat := [0, 1, 2, 3, 4, 5, 6, 7, 9, 12, 17, 41, 42, 43, 44]
def Afv (x0 : Aa) (n0 : Nat) (z0 : (List Int)) : St := [(4, dO 0 0), (5, dI 0), (7, dO 8 0), (41, .d (DS q65 x0.Ae)), (42, dI (ln x0.Ae)), (43, dI (cnt 0 n0))]
def Ara (y5 : (List Az)) (y7 : List Bool) (y9 : (List Ag)) (n0 : Nat) (z0 : (List Int)) : List Res := (.box 40 [I 0, .os 1, .os 2, .os 3, .os 4, .os 5, .os 6] :: ze [v5_ ([] : List Az), v1_ ([] : List A9), v5_ y5, .box 40 [I 0, .os 9, .os 10, .os 11, .os 12, .os 7, .os 13], v2_ y7, v4_ y9, v0_ z0, v3_ ([] : List An), v1_ ([] : List A9)])
def Asz  (z0 : (List Int)) : St := [(4, dO 0 0), (5, dI 0), (7, dO 8 0)]
def Avs (y5 : (List Az)) (y7 : List Bool) (y9 : (List Ag)) (z0 : (List Int)) : List Res := (.box 40 [I 0, .os 1, .os 2, .os 3, .os 4, .os 5, .os 6] :: ze [v5_ ([] : List Az), v1_ ([] : List A9), v5_ y5, .box 40 [I 0, .os 9, .os 10, .os 11, .os 12, .os 7, .os 13], v2_ y7, v4_ y9, v0_ z0, v3_ ([] : List An), v1_ ([] : List A9)])
theorem k36 (x0 : Aa) (x1 : Bh) (r : A0 × Int) (h : F36 x0 x1 = some r) : CO 36 [.agg (d29 x0), .agg (d31 x1)] [] (.tup [.agg [I r.1.Time, .os 0, .os 1, .os 2, .os 3, .os 4, .os 5], .d (I r.2)]) (zp r.1.Power [v5_ r.1.A5, v1_ r.1.A4]) := by
 unfold F36 at h
 refine co 58 Tryz.func36 λ C hC => ?_
 obtain ⟨y1, h2, h⟩ := Ad h
 rcases cB h with ⟨h3, h⟩ | ⟨h3, h⟩
 ·cases h
 ·refine ws Ag0 32 [false] [pc e85 (k85 x0 _ h2) [], pc e59 (k59 x1 _ rfl) []] [.ownb 2 1 4 1, .ownb 2 2 120 4, .ownb 2 3 3 1, .ownb 2 4 86 2, .ownb 2 5 130 2, .ownb 2 6 51 5] 0 [0, 2, 3, 4, 5, 6, 7, 8] [(2, dO 0 0), (4, dO 1 0), (5, dI 0), (17, dB (!(F59 x1)))] (.box 29 (d29 x0) :: .box 40 [I 0, .os 2, .os 3, .os 4, .os 5, .os 6, .os 7] :: ze [v5_ ([] : List Az), v1_ ([] : List A9)]) hC [pq h3] ?_
  rcases cB h with ⟨h4, h⟩ | ⟨h4, h⟩
  ·cases h
  ·obtain ⟨y5, h6, h⟩ := Ad h
   obtain ⟨y7, h8, h⟩ := Ad h
   obtain ⟨y9, h10, h⟩ := Ad h
   refine ws Ag0 33 [false] [pc e86 (k86 x0.Am _ h6) [], pl Bi x0.Af, ⟨.room ((ln x0.Af) * (1 + 1)) (List.replicate (Int.toNat (ln x0.Af)) (pB false)) (y7.map pB), Hh h8⟩, pl Bt x0.Ac, pc e87 (k87 [(⟨0, 0, 5000, 0⟩ : Ag)] (ln x0.Ac) _ h10) [], pl q65 x0.Ae] [.ownb 9 3 3 1, .ownb 9 4 86 2, .ownb 9 6 51 5] 0 [1, 2, 3, 4, 5, 6, 7, 8, 9, 10, 11, 12, 13, 14] (Afv x0 0 ([] : List Int)) (Ara y5 y7 y9 0 ([] : List Int)) hC [pq h4] ?_
   obtain ⟨w0, hm0, hret0, hnext0⟩ := Au h
   clear h
   refine wc w0 (Asz) (Avs y5 y7 y9) ?_ λ z0 hs0 => ?_
   ·refine wb ?_
    refine Bn 41 rfl λ hl0 => ?_
    refine A7 (by kernel_rfl) Aka (Afv x0) (Ara y5 y7 y9) w0 x0.Ae ([] : List Int) hm0 rfl rfl (λ z0 hn0 => ?_) λ n0 a0 z0 w0b hi0 hx0 h hb0 hr0 => ?_
    ·clear hm0
     exact wx w0 (Asz) (Avs y5 y7 y9) Ag0 26 [false] [] [] 0 A67 z0 hC [pq (Bb hl0)] hn0
    ·unfold Aka at h
     obtain ⟨y11, h12, h⟩ := Ad h
     exact wx w0b (Afv x0 (n0 + 1)) (Ara y5 y7 y9 (n0 + 1)) Ag0 33 [true] [pt hx0 hl0, pa pI 1 h12] [] 0 [0, 1, 2, 3, 4, 5, 6, 7, 8, 9, 10, 15, 12, 13] y11 hC [pq (A8 hi0 hl0)] (sI h).symm
   ·have h := hnext0 _ hs0
    replace h := sI h
    subst h
    exact wr Ag0 23 [] [] [] 0 [9, 10, 11, 12, 7, 13] hC []
theorem e36 : EN 36 := en Tryz.func36
theorem A2i (x0 : List Dc) (r : Bool) (h : Akw x0 = some r) : CO 149 [.d (DS Yd x0), .d (.fn (.func 150) [] [])] [] (.d (Bo r)) [] := by
 unfold Akw at h
 refine co 9 Tryz.func149 λ C hC => ?_
 obtain ⟨y1, h2, h⟩ := Ad h
 replace h := sI h
 subst h
 exact wr [0, 1, 4] 25 [] [pc A3t (A1y x0 _ h2) []] [] 0 [] hC []
theorem A4d : EN 149 := en Tryz.func149
def Mh : List Nat := [0, 1, 2, 3, 4, 5, 6, 7, 12, 16, 31]
def jN  (z0 : Int × (List Aj)) : St := [(2, dO 0 0), (3, dO 1 0), (4, .d (DS q84 [])), (5, dS 2), (6, dI z0.1)]
def Ae9 (x0 : Aa) (x1 : Ab) (z0 : Int × (List Aj)) : List Res := [.box 29 (d29 x0), .box 36 (d36 x1), v8_ z0.2]
def As4  (z0 : Int × (List Aj)) : St := [(4, .d (DS q84 [])), (5, dS 0)]
def Avx  (z0 : Int × (List Aj)) : List Res := [v8_ z0.2]
theorem k25 (x0 : Aa) (x1 : Ab) (r : (List Aj)) (h : F25 x0 x1 = some r) : CO 25 [.agg (d29 x0), .agg (d36 x1)] [] (.d (.os 0)) [v8_ r] := by
 unfold F25 at h
 refine co 37 Tryz.func25 λ C hC => ?_
 obtain ⟨y1, h2, h⟩ := Ad h
 refine ws Mh 26 [] [pc e53 (k53 x0 x1 _ h2) []] [] 0 [0, 1] [(2, dO 0 0), (3, dO 1 0), (4, .d (DS q84 [])), (12, dB (y1 != 0))] [.box 29 (d29 x0), .box 36 (d36 x1)] hC [] ?_
 rcases cB h with ⟨h3, h⟩ | ⟨h3, h⟩
 ·replace h := sI h
  subst h
  exact wr Mh 24 [true] [] [.own 4 84 3] 0 [2] hC [pq h3]
 ·refine ws Mh 28 [false] [] [.own 5 84 3] 0 n3_ (jN (0, ([] : List Aj))) (Ae9 x0 x1 (0, ([] : List Aj))) hC [pq h3] ?_
  obtain ⟨w0, hm0, hret0, hnext0⟩ := Au h
  clear h
  refine wc w0 (As4) (Avx) ?_ λ z0 hs0 => ?_
  ·refine wb ?_
   refine B2 (by kernel_rfl) (vV x0 x1) (jN) (Ae9 x0 x1) w0 1152921504606846976 (0, ([] : List Aj)) hm0 rfl rfl λ z0 w0b h hb0 hr0 => ?_
   unfold vV at h
   rcases cB h with ⟨h4, h⟩ | ⟨h4, h⟩
   ·obtain ⟨y5, h6, h⟩ := Ad h
    obtain ⟨y7, h8, h⟩ := Ad h
    refine ws Mh 32 [true] [pc e54 (k54 x0 x1 z0.1 _ h6) [], pr pI h8, pn pI h8] [] 0 n7_ [(2, dO 0 0), (3, dO 1 0), (4, .d (DS q84 [])), (5, dS 2), (6, dI z0.1), (7, dO 6 0), (31, dB (y7 == z0.1))] [.box 29 (d29 x0), .box 36 (d36 x1), v8_ z0.2, v0_ y5.1.Am, v0_ y5.1.Ac, v0_ y5.1.Ae, .box 84 [.os 3, .os 4, .os 5]] hC [pq h4] ?_
    rcases cB h with ⟨h9, h⟩ | ⟨h9, h⟩
    ·refine ws Mh 1 [true] [] [.frz 3] 0 [0, 1, 2, 4, 5, 6] [(2, dO 0 0), (3, dO 1 0), (4, .d (DS q84 [])), (5, dS 2), (6, dI z0.1), (7, dO 5 0)] [.box 29 (d29 x0), .box 36 (d36 x1), v8_ z0.2, v0_ y5.1.Ac, v0_ y5.1.Ae, .box 84 [DS pI y5.1.Am, .os 3, .os 4]] hC [pq h9] ?_
     refine ws Mh 0 [] [] [.frz 3] 0 [0, 1, 2, 4, 5] [(2, dO 0 0), (3, dO 1 0), (4, .d (DS q84 [])), (5, dS 2), (6, dI z0.1), (7, dO 4 0)] [.box 29 (d29 x0), .box 36 (d36 x1), v8_ z0.2, v0_ y5.1.Ae, .box 84 [DS pI y5.1.Am, DS pI y5.1.Ac, .os 3]] hC [] ?_
     refine ws Mh 0 [] [] [.frz 3] 0 [0, 1, 2, 4] [(2, dO 0 0), (3, dO 1 0), (4, .d (DS q84 [])), (5, dS 2), (6, dI z0.1), (7, dO 3 0)] [.box 29 (d29 x0), .box 36 (d36 x1), v8_ z0.2, .box 84 (d84 y5.1)] hC [] ?_
     obtain ⟨y10, h11, h⟩ := Ad h
     exact wx w0b (jN) (Ae9 x0 x1) Mh 24 [] [pa q84 3 h11] [] 0 [0, 1, 4] (w64 (z0.1 + 1), y10) hC [] (sI h).symm
    ·exact wx w0b (jN) (Ae9 x0 x1) Mh 25 [false] [] [] 0 n3_ (w64 (z0.1 + 1), z0.2) hC [pq h9] (sI h).symm
   ·exact wx w0 (As4) (Avx) Mh 26 [false] [] [] 0 [2] (z0.1, z0.2) hC [pq h4] (hb0 _ (sI h).symm)
  ·have h := hnext0 _ hs0
   replace h := sI h
   subst h
   exact wr Mh 23 [] [] [] 0 [0] hC []
theorem e25 : EN 25 := en Tryz.func25
def Hi : List Nat := [0, 1, 2, 3, 4, 5, 6, 7, 8, 9, 10, 11, 12, 13, 14, 18, 25, 26, 27, 28, 47, 48, 49, 58, 80, 81, 82, 91]
def Afh (y4 : (List Int)) (n0 : Nat) (z0 : (List Aj)) : St := [(2, dO 0 0), (3, dO 1 0), (4, .d (DS q84 [])), (5, dS 2), (6, dS 3), (25, dS 2), (26, dI (ln y4)), (27, dI (cnt 0 n0))]
def Aqw (x0 : Aa) (x1 : Ab) (y4 : (List Int)) (n0 : Nat) (z0 : (List Aj)) : List Res := [.box 29 (d29 x0), .box 36 (d36 x1), v0_ y4, .dsl 84 3 4, .gh 3 [(3, 1), (3, 1), (3, 1)] (z0.map q84) none]
def Asf  (z0 : (List Aj)) : St := [(2, dO 0 0), (3, dO 1 0), (4, .d (DS q84 [])), (5, dS 2), (6, dS 3)]
def Au8 (x0 : Aa) (x1 : Ab) (y4 : (List Int)) (z0 : (List Aj)) : List Res := [.box 29 (d29 x0), .box 36 (d36 x1), v0_ y4, .dsl 84 3 4, .gh 3 [(3, 1), (3, 1), (3, 1)] (z0.map q84) none]
def jF (x0 : Aa) (z1 : Int × (List Aj)) : St := [(2, dO 0 0), (3, dO 1 0), (4, .d (DS q84 [])), (5, dS 2), (6, dS 3), (47, dI (ln x0.Ac)), (48, dI z1.1)]
def Ae1 (x0 : Aa) (x1 : Ab) (y4 : (List Int)) (z1 : Int × (List Aj)) : List Res := [.box 29 (d29 x0), .box 36 (d36 x1), v0_ y4, .dsl 84 3 4, .gh 3 [(3, 1), (3, 1), (3, 1)] (z1.2.map q84) none]
def Ase  (z1 : Int × (List Aj)) : St := [(2, dO 0 0), (3, dO 1 0), (4, .d (DS q84 [])), (5, dS 2), (6, dS 3)]
def Au7 (x0 : Aa) (x1 : Ab) (y4 : (List Int)) (z1 : Int × (List Aj)) : List Res := [.box 29 (d29 x0), .box 36 (d36 x1), v0_ y4, .dsl 84 3 4, .gh 3 [(3, 1), (3, 1), (3, 1)] (z1.2.map q84) none]
def jE (x0 : Aa) (z2 : Int × (List Aj)) : St := [(2, dO 0 0), (3, dO 1 0), (4, .d (DS q84 [])), (5, dS 2), (6, dS 3), (80, dI (ln x0.Ae)), (81, dI z2.1)]
def Ae0 (x0 : Aa) (x1 : Ab) (y4 : (List Int)) (z2 : Int × (List Aj)) : List Res := [.box 29 (d29 x0), .box 36 (d36 x1), v0_ y4, .dsl 84 3 4, .gh 3 [(3, 1), (3, 1), (3, 1)] (z2.2.map q84) none]
def Asd  (z2 : Int × (List Aj)) : St := [(4, .d (DS q84 [])), (6, dS 0)]
def Au6  (z2 : Int × (List Aj)) : List Res := [.dsl 84 3 1, .gh 3 [(3, 1), (3, 1), (3, 1)] (z2.2.map q84) none]
theorem k89 (x0 : Aa) (x1 : Ab) (r : (List Aj)) (h : F89 x0 x1 = some r) : CO 89 [.agg (d29 x0), .agg (d36 x1)] [] (.d (.os 0)) [v8_ r] := by
 unfold F89 at h
 refine co 113 Tryz.func89 λ C hC => ?_
 obtain ⟨y1, h2, h⟩ := Ad h
 refine ws Hi 26 [] [pc e43 (k43 x0 x1 _ h2) []] [] 0 [0, 1] [(2, dO 0 0), (3, dO 1 0), (4, .d (DS q84 [])), (18, dB (y1 != 0))] [.box 29 (d29 x0), .box 36 (d36 x1)] hC [] ?_
 rcases cB h with ⟨h3, h⟩ | ⟨h3, h⟩
 ·replace h := sI h
  subst h
  exact wr Hi 24 [true] [] [.own 4 84 3] 0 [2] hC [pq h3]
 ·obtain ⟨y4, h5, h⟩ := Ad h
  obtain ⟨y6, h7, h⟩ := Ad h
  refine ws Hi 30 [false] [pc A4g (A2l x0 x1 _ h5) [], ⟨.roomZ (x0.Am * (72 + 1)) (List.replicate (Int.toNat x0.Am) (q84 (⟨([] : List Int), ([] : List Int), ([] : List Int)⟩ : Aj))) (y6.map q84), Tk h7⟩, pl pI y4] [.deep 3 [(3, 1), (3, 1), (3, 1)]] 0 n5_ (Afh y4 0 y6) (Aqw x0 x1 y4 0 y6) hC [pq h3] ?_
  obtain ⟨w0, hm0, hret0, hnext0⟩ := Au h
  clear h
  refine wc w0 (Asf) (Au8 x0 x1 y4) ?_ λ z0 hs0 => ?_
  ·refine wb ?_
   refine Cj 25 2 rfl rfl λ hl0 => ?_
   refine A7 (by kernel_rfl) vB (Afh y4) (Aqw x0 x1 y4) w0 y4 y6 hm0 rfl rfl (λ z0 hn0 => ?_) λ n0 a0 z0 w0b hi0 hx0 h hb0 hr0 => ?_
   ·clear hm0
    exact wx w0 (Asf) (Au8 x0 x1 y4) Hi 26 [false] [] [] 0 n5_ z0 hC [pq (Bb hl0)] hn0
   ·unfold vB at h
    obtain ⟨y8, h9, h⟩ := Ad h
    obtain ⟨y10, h11, h⟩ := Ad h
    obtain ⟨y12, h13, h⟩ := Ad h
    exact wx w0b (Afh y4 (n0 + 1)) (Aqw x0 x1 y4 (n0 + 1)) Hi 33 [true] [pr pI (Bl hx0 hl0), pn pI (Bl hx0 hl0), pr q84 h9, pn q84 h9, ⟨.appD (z0.map q84) (Int.toNat a0) (q84 y8) 0 (y8.Am.map pI) ([cnt 0 n0].map pI) 1 (((y8.Am.map pI).length + ([cnt 0 n0].map pI).length) * (8 + 1)) (y10.map pI), Ik 1 (λ _ => rfl) h9 rfl h11⟩, pr q84 h9, ⟨.updD (z0.map q84) (Int.toNat a0) (Int.toNat a0) (q84 y8) (q84 (⟨y10, y8.Ac, y8.Ae⟩ : Aj)) (y12.map q84), Ih h9 h13⟩] [] 0 [0, 1, 2, 3, 8] y12 hC [pq (A8 hi0 hl0)] (sI h).symm
  ·have h := hnext0 _ hs0
   refine ws Hi 24 [] [pl Bt x0.Ac] [] 0 n5_ (jF x0 (0, z0)) (Ae1 x0 x1 y4 (0, z0)) hC [] ?_
   obtain ⟨w1, hm1, hret1, hnext1⟩ := Au h
   clear h
   refine wc w1 (Ase) (Au7 x0 x1 y4) ?_ λ z1 hs1 => ?_
   ·refine wb ?_
    refine B2 (by kernel_rfl) (vA x0 x1 y4) (jF x0) (Ae1 x0 x1 y4) w1 1152921504606846976 (0, z0) hm1 rfl rfl λ z1 w1b h hb1 hr1 => ?_
    unfold vA at h
    rcases cB h with ⟨h14, h⟩ | ⟨h14, h⟩
    ·obtain ⟨y15, h16, h⟩ := Ad h
     refine ws Hi 34 [true] [pc Axq (Aw8 x0 x1 z1.1 _ h16) []] [] 0 n5_ [(2, dO 0 0), (3, dO 1 0), (4, .d (DS q84 [])), (5, dS 2), (6, dS 3), (9, dI z1.1), (10, dI y15.1), (47, dI (ln x0.Ac)), (48, dI z1.1), (58, dB y15.2)] [.box 29 (d29 x0), .box 36 (d36 x1), v0_ y4, .dsl 84 3 4, .gh 3 [(3, 1), (3, 1), (3, 1)] (z1.2.map q84) none] hC [pq h14] ?_
     rcases cB h with ⟨h17, h⟩ | ⟨h17, h⟩
     ·obtain ⟨y18, h19, h⟩ := Ad h
      obtain ⟨y20, h21, h⟩ := Ad h
      obtain ⟨y22, h23, h⟩ := Ad h
      obtain ⟨y24, h25, h⟩ := Ad h
      exact wx w1b (jF x0) (Ae1 x0 x1 y4) Hi 25 [true] [pr pI h19, pn pI h19, pr pI h19, pn pI h19, pr q84 h21, pn q84 h21, ⟨.appD (z1.2.map q84) (Int.toNat y18) (q84 y20) 1 (y20.Ac.map pI) ([z1.1].map pI) 1 (((y20.Ac.map pI).length + ([z1.1].map pI).length) * (8 + 1)) (y22.map pI), Ik 1 (λ _ => rfl) h21 rfl h23⟩, pr q84 h21, ⟨.updD (z1.2.map q84) (Int.toNat y18) (Int.toNat y18) (q84 y20) (q84 (⟨y20.Am, y22, y20.Ae⟩ : Aj)) (y24.map q84), Ih h21 h25⟩] [] 0 [0, 1, 2, 3, 8] (w64 (z1.1 + 1), y24) hC [pq h17] (sI h).symm
     ·exact wx w1b (jF x0) (Ae1 x0 x1 y4) Hi 25 [false] [] [] 0 n5_ (w64 (z1.1 + 1), z1.2) hC [pq h17] (sI h).symm
    ·exact wx w1 (Ase) (Au7 x0 x1 y4) Hi 26 [false] [] [] 0 n5_ (z1.1, z1.2) hC [pq h14] (hb1 _ (sI h).symm)
   ·have h := hnext1 _ hs1
    refine ws Hi 24 [] [pl q65 x0.Ae] [] 0 n5_ (jE x0 (0, z1.2)) (Ae0 x0 x1 y4 (0, z1.2)) hC [] ?_
    obtain ⟨w2, hm2, hret2, hnext2⟩ := Au h
    clear h
    refine wc w2 (Asd) (Au6) ?_ λ z2 hs2 => ?_
    ·refine wb ?_
     refine B2 (by kernel_rfl) (uZ x0 x1 y4) (jE x0) (Ae0 x0 x1 y4) w2 1152921504606846976 (0, z1.2) hm2 rfl rfl λ z2 w2b h hb2 hr2 => ?_
     unfold uZ at h
     rcases cB h with ⟨h26, h⟩ | ⟨h26, h⟩
     ·obtain ⟨y27, h28, h⟩ := Ad h
      refine ws Hi 34 [true] [pc Axp (Aw7 x0 x1 z2.1 _ h28) []] [] 0 n5_ [(2, dO 0 0), (3, dO 1 0), (4, .d (DS q84 [])), (5, dS 2), (6, dS 3), (12, dI z2.1), (13, dI y27.1), (80, dI (ln x0.Ae)), (81, dI z2.1), (91, dB y27.2)] [.box 29 (d29 x0), .box 36 (d36 x1), v0_ y4, .dsl 84 3 4, .gh 3 [(3, 1), (3, 1), (3, 1)] (z2.2.map q84) none] hC [pq h26] ?_
      rcases cB h with ⟨h29, h⟩ | ⟨h29, h⟩
      ·obtain ⟨y30, h31, h⟩ := Ad h
       obtain ⟨y32, h33, h⟩ := Ad h
       obtain ⟨y34, h35, h⟩ := Ad h
       obtain ⟨y36, h37, h⟩ := Ad h
       exact wx w2b (jE x0) (Ae0 x0 x1 y4) Hi 25 [true] [pr pI h31, pn pI h31, pr pI h31, pn pI h31, pr q84 h33, pn q84 h33, ⟨.appD (z2.2.map q84) (Int.toNat y30) (q84 y32) 2 (y32.Ae.map pI) ([z2.1].map pI) 1 (((y32.Ae.map pI).length + ([z2.1].map pI).length) * (8 + 1)) (y34.map pI), Ik 1 (λ _ => rfl) h33 rfl h35⟩, pr q84 h33, ⟨.updD (z2.2.map q84) (Int.toNat y30) (Int.toNat y30) (q84 y32) (q84 (⟨y32.Am, y32.Ac, y34⟩ : Aj)) (y36.map q84), Ih h33 h37⟩] [] 0 [0, 1, 2, 3, 8] (w64 (z2.1 + 1), y36) hC [pq h29] (sI h).symm
      ·exact wx w2b (jE x0) (Ae0 x0 x1 y4) Hi 25 [false] [] [] 0 n5_ (w64 (z2.1 + 1), z2.2) hC [pq h29] (sI h).symm
     ·exact wx w2 (Asd) (Au6) Hi 26 [false] [] [] 0 [3, 4] (z2.1, z2.2) hC [pq h26] (hb2 _ (sI h).symm)
    ·have h := hnext2 _ hs2
     refine ws Hi 1 [] [] [.flat 0] 0 [0] [(4, .d (DS q84 [])), (6, dS 0)] [v8_ z2.2] hC [] ?_
     obtain ⟨y38, h39, h⟩ := Ad h
     replace h := sI h
     subst h
     exact wr Hi 22 [] [pc Aug (Atn z2.2 _ h39) [0]] [] 0 [1] hC []
theorem e89 : EN 89 := en Tryz.func89
def App : List Nat := [0, 1, 2, 3, 4, 6, 7, 11]
theorem A2w (x0 : Aa) (x1 : Ab) (x2 : Int) (r : Int × Bool) (h : Ak6 x0 x1 x2 = some r) : CO 101 [.agg (d29 x0), .agg (d36 x1), .d (I x2)] [] (.tup [.d (I r.1), .d (Bo r.2)]) [] := by
 unfold Ak6 at h
 refine co 18 Tryz.func101 λ C hC => ?_
 obtain ⟨y1, h2, h⟩ := Ad h
 refine ws App 26 [] [pc e43 (k43 x0 x1 _ h2) []] [] 0 [0, 1] [(2, dI x2), (3, dO 0 0), (4, dO 1 0), (6, dI 0), (7, dB false), (11, dB (y1 != 0))] [.box 29 (d29 x0), .box 36 (d36 x1)] hC [] ?_
 rcases cB h with ⟨h3, h⟩ | ⟨h3, h⟩
 ·replace h := sI h
  subst h
  exact wr App 24 [true] [] [] 0 [] hC [pq h3]
 ·obtain ⟨y4, h5, h⟩ := Ad h
  replace h := sI h
  subst h
  exact wr App 25 [false] [pc Axp (Aw7 x0 x1 x2 _ h5) []] [] 0 [] hC [pq h3]
theorem A4r : EN 101 := en Tryz.func101
def V5 : List Nat := [0, 1, 2, 3, 4, 6, 7, 8, 9, 13, 18, 29]
theorem A7q (x0 : Aa) (x1 : Ab) (x2 : Int) (r : Ab × Int) (h : Z0 x0 x1 x2 = some r) : CO 183 [.agg (d29 x0), .agg (d36 x1), .d (I x2)] [] (.tup [.agg [.os 0, .os 1, .os 2, .os 3], .d (I r.2)]) (zp r.1 []) := by
 unfold Z0 at h
 refine co 49 Tryz.func183 λ C hC => ?_
 obtain ⟨y1, h2, h⟩ := Ad h
 refine ws V5 29 [] [pc e43 (k43 x0 x1 _ h2) []] [.ownb 2 0 4 1, .ownb 2 1 120 4, .ownb 2 2 3 1, .ownb 2 3 86 2] 0 n7_ [(2, dI x2), (3, dO 0 0), (4, dO 1 0), (6, dO 2 0), (7, dI 0), (8, dI y1), (13, dB (y1 != 0))] (.box 29 (d29 x0) :: .box 36 (d36 x1) :: .box 36 [.os 3, .os 4, .os 5, .os 6] :: ze []) hC [] ?_
 rcases cB h with ⟨h3, h⟩ | ⟨h3, h⟩
 ·replace h := sI h
  subst h
  exact wr V5 24 [true] [] [.ownb 2 0 4 1, .ownb 2 1 120 4, .ownb 2 2 3 1, .ownb 2 3 86 2] 0 [7, 8, 9, 10] hC [pq h3]
 ·rcases cB h with ⟨h4, h⟩ | ⟨h4, h⟩
  ·replace h := sI h
   subst h
   exact wr V5 27 [false, true] [pL_ [(decide (x2 < 0), false)] Bi x0.Af] [.ownb 2 0 4 1, .ownb 2 1 120 4, .ownb 2 2 3 1, .ownb 2 3 86 2] 0 [7, 8, 9, 10] hC [pq h3, pq h4]
  ·obtain ⟨y5, h6, h⟩ := Ad h
   obtain ⟨y7, h8, h⟩ := Ad h
   refine ws V5 27 [false, false] [pL_ [(decide (x2 < 0), false)] Bi x0.Af, pr pB h6, pw J0 (λ hg => Jw x1 2 x2 _ (Ba h8 hg)) []] [] 0 [1, 2, 3, 4, 5, 6] [(2, dI x2), (4, dO 0 0), (6, dO 1 0), (7, dI 0), (29, dB ((!y5) || y7))] (.box 36 (d36 x1) :: .box 36 [.os 2, .os 3, .os 4, .os 5] :: ze []) hC [pq h3, pq h4] ?_
   rcases cB h with ⟨h9, h⟩ | ⟨h9, h⟩
   ·replace h := sI h
    subst h
    exact wr V5 24 [true] [] [.ownb 1 0 4 1, .ownb 1 1 120 4, .ownb 1 2 3 1, .ownb 1 3 86 2] 0 [6, 7, 8, 9] hC [pq h9]
   ·obtain ⟨y10, h11, h⟩ := Ad h
    obtain ⟨y12, h13, h⟩ := Ad h
    obtain ⟨y14, h15, h⟩ := Ad h
    replace h := sI h
    subst h
    exact wr V5 30 [false] [pc Mr (Mk x1 _ h11) [], pr pB h13, pu pB h13 h15] [] 0 [6, 7, 8, 9] hC [pq h9]
theorem A87 : EN 183 := en Tryz.func183
def Apk : List Nat := [0, 1, 2, 3, 4, 6, 7, 11]
theorem A1n (x0 : Aa) (x1 : Ab) (x2 : Int) (r : Int × Bool) (h : Aa6 x0 x1 x2 = some r) : CO 217 [.agg (d29 x0), .agg (d36 x1), .d (I x2)] [] (.tup [.d (I r.1), .d (Bo r.2)]) [] := by
 unfold Aa6 at h
 refine co 18 Tryz.func217 λ C hC => ?_
 obtain ⟨y1, h2, h⟩ := Ad h
 refine ws Apk 26 [] [pc e43 (k43 x0 x1 _ h2) []] [] 0 [0, 1] [(2, dI x2), (3, dO 0 0), (4, dO 1 0), (6, dI 0), (7, dB false), (11, dB (y1 != 0))] [.box 29 (d29 x0), .box 36 (d36 x1)] hC [] ?_
 rcases cB h with ⟨h3, h⟩ | ⟨h3, h⟩
 ·replace h := sI h
  subst h
  exact wr Apk 24 [true] [] [] 0 [] hC [pq h3]
 ·obtain ⟨y4, h5, h⟩ := Ad h
  replace h := sI h
  subst h
  exact wr Apk 25 [false] [pc Axq (Aw8 x0 x1 x2 _ h5) []] [] 0 [] hC [pq h3]
theorem A3i : EN 217 := en Tryz.func217
def Qt : List Nat := [0, 1, 2, 3, 4, 5, 6, 7, 8, 9, 14, 20, 21, 22, 23, 29]
def Vs (x1 : Ab) (n0 : Nat) (z0 : (List Ag)) : St := [(4, dO 0 0), (5, dI 0), (7, dO 9 0), (20, .d (DS A_ x1.Ac)), (21, dI (ln x1.Ac)), (22, dI (cnt 0 n0))]
def uS (y4 : Ab) (n0 : Nat) (z0 : (List Ag)) : List Res := (.box 36 [.os 1, .os 2, .os 3, .os 4] :: ze [v2_ y4.Ah, v4_ z0, v0_ y4.As, v3_ y4.Aq, .box 36 [.os 5, .os 6, .os 7, .os 8]])
def Al5  (z0 : (List Ag)) : St := [(4, dO 0 0), (5, dI 0), (7, dO 9 0)]
def Anx (y4 : Ab) (z0 : (List Ag)) : List Res := (.box 36 [.os 1, .os 2, .os 3, .os 4] :: ze [v2_ y4.Ah, v4_ z0, v0_ y4.As, v3_ y4.Aq, .box 36 [.os 5, .os 6, .os 7, .os 8]])
theorem A7f (x0 : Aa) (x1 : Ab) (r : Ab × Int) (h : Aki x0 x1 = some r) : CO 222 [.agg (d29 x0), .agg (d36 x1)] [] (.tup [.agg [.os 0, .os 1, .os 2, .os 3], .d (I r.2)]) (zp r.1 []) := by
 unfold Aki at h
 refine co 45 Tryz.func222 λ C hC => ?_
 obtain ⟨y1, h2, h⟩ := Ad h
 refine ws Qt 28 [] [pc e43 (k43 x0 x1 _ h2) []] [.ownb 2 0 4 1, .ownb 2 1 120 4, .ownb 2 2 3 1, .ownb 2 3 86 2] 0 [1, 2, 3, 4, 5, 6] [(3, dO 0 0), (4, dO 1 0), (5, dI 0), (6, dI y1), (14, dB (y1 != 0))] (.box 36 (d36 x1) :: .box 36 [.os 2, .os 3, .os 4, .os 5] :: ze []) hC [] ?_
 rcases cB h with ⟨h3, h⟩ | ⟨h3, h⟩
 ·replace h := sI h
  subst h
  exact wr Qt 24 [true] [] [.ownb 1 0 4 1, .ownb 1 1 120 4, .ownb 1 2 3 1, .ownb 1 3 86 2] 0 [6, 7, 8, 9] hC [pq h3]
 ·obtain ⟨y4, h5, h⟩ := Ad h
  refine ws Qt 28 [false] [pc Mr (Mk x1 _ h5) [], pl A_ x1.Ac] [] 0 [1, 2, 3, 4, 5, 6, 7, 8, 9, 10] (Vs x1 0 y4.Ac) (uS y4 0 y4.Ac) hC [pq h3] ?_
  obtain ⟨w0, hm0, hret0, hnext0⟩ := Au h
  clear h
  refine wc w0 (Al5) (Anx y4) ?_ λ z0 hs0 => ?_
  ·refine wb ?_
   refine Bn 20 rfl λ hl0 => ?_
   refine A7 (by kernel_rfl) Wx (Vs x1) (uS y4) w0 x1.Ac y4.Ac hm0 rfl rfl (λ z0 hn0 => ?_) λ n0 a0 z0 w0b hi0 hx0 h hb0 hr0 => ?_
   ·clear hm0
    exact wx w0 (Al5) (Anx y4) Qt 26 [false] [] [] 0 Hg z0 hC [pq (Bb hl0)] hn0
   ·unfold Wx at h
    rcases cB h with ⟨h6, h⟩ | ⟨h6, h⟩
    ·obtain ⟨y7, h8, h⟩ := Ad h
     obtain ⟨y9, h10, h⟩ := Ad h
     exact wx w0b (Vs x1 (n0 + 1)) (uS y4 (n0 + 1)) Qt 36 [true, true] [pt hx0 hl0, pc Ah0 (Ag6 (w64 (a0.Phase + (w64 (36 * (w64 (a0.Ap - 5000)))))) _ rfl) [], pr A_ h8, pu A_ h8 h10] [] 0 Hg y9 hC [pq (A8 hi0 hl0), pq h6] (sI h).symm
    ·exact wx w0b (Vs x1 (n0 + 1)) (uS y4 (n0 + 1)) Qt 36 [true, false] [pt hx0 hl0] [] 0 Hg z0 hC [pq (A8 hi0 hl0), pq h6] (sI h).symm
  ·have h := hnext0 _ hs0
   replace h := sI h
   subst h
   exact wr Qt 23 [] [] [] 0 [5, 6, 7, 8] hC []
theorem A8w : EN 222 := en Tryz.func222
def qA : List Nat := [0, 1, 2, 3, 4, 7, 10, 11, 12]
def yO (x0 : Aa) (z0 : Int × (List Int)) : St := [(1, dO 0 0), (2, .d (DS pI [])), (3, dS 1), (10, dI (ln x0.Ae)), (11, dI z0.1)]
def Ajg (x0 : Aa) (z0 : Int × (List Int)) : List Res := [.box 29 (d29 x0), v0_ z0.2]
def Al8  (z0 : Int × (List Int)) : St := [(1, dO 0 0), (2, .d (DS pI [])), (3, dS 1)]
def An0 (x0 : Aa) (z0 : Int × (List Int)) : List Res := [.box 29 (d29 x0), v0_ z0.2]
theorem A7j (x0 : Aa) (r : (List Int)) (h : Zx x0 = some r) : CO 207 [.agg (d29 x0)] [] (.d (.os 0)) [v0_ r] := by
 unfold Zx at h
 refine co 23 Tryz.func207 λ C hC => ?_
 obtain ⟨y1, h2, h⟩ := Ad h
 rcases cB h with ⟨h3, h⟩ | ⟨h3, h⟩
 ·replace h := sI h
  subst h
  exact wr qA 29 [true] [pc e85 (k85 x0 _ h2) []] [.own 2 3 1] 0 [1] hC [pq h3]
 ·refine ws qA 33 [false] [pc e85 (k85 x0 _ h2) [], pl q65 x0.Ae] [.own 3 3 1] 0 [0, 1] (yO x0 (0, ([] : List Int))) (Ajg x0 (0, ([] : List Int))) hC [pq h3] ?_
  obtain ⟨w0, hm0, hret0, hnext0⟩ := Au h
  clear h
  refine wc w0 (Al8) (An0 x0) ?_ λ z0 hs0 => ?_
  ·refine wb ?_
   refine B2 (by kernel_rfl) (Wz x0) (yO x0) (Ajg x0) w0 1152921504606846976 (0, ([] : List Int)) hm0 rfl rfl λ z0 w0b h hb0 hr0 => ?_
   unfold Wz at h
   rcases cB h with ⟨h4, h⟩ | ⟨h4, h⟩
   ·obtain ⟨y5, h6, h⟩ := Ad h
    exact wx w0b (yO x0) (Ajg x0) qA 33 [true] [pa pI 1 h6] [] 0 [0, 2] (w64 (z0.1 + 1), y5) hC [pq h4] (sI h).symm
   ·exact wx w0 (Al8) (An0 x0) qA 26 [false] [] [] 0 [0, 1] (z0.1, z0.2) hC [pq h4] (hb0 _ (sI h).symm)
  ·have h := hnext0 _ hs0
   obtain ⟨y7, h8, h⟩ := Ad h
   replace h := sI h
   subst h
   exact wr qA 25 [] [pc A3a (A1f z0.2 x0 _ h8) [1, 0]] [] 0 [1] hC []
theorem A80 : EN 207 := en Tryz.func207
def D6 : List Nat := [0, 1, 2, 3, 4, 5, 6, 7, 8, 9, 10, 11, 12, 13, 14, 18, 25, 26, 27, 28, 47, 48, 49, 58, 80, 81, 82, 91]
def X3 (y4 : (List Int)) (n0 : Nat) (z0 : (List Aj)) : St := [(2, dO 4 0), (3, dO 5 0), (4, .d (DS q84 [])), (5, dS 6), (6, dS 7), (25, dS 6), (26, dI (ln y4)), (27, dI (cnt 0 n0))]
def Aa1 (x0 : Aa) (x1 : Ab) (y4 : (List Int)) (n0 : Nat) (z0 : (List Aj)) : List Res := (zp x1 [.box 29 (d29 x0), .box 36 [.os 0, .os 1, .os 2, .os 3], v0_ y4, .dsl 84 3 8, .gh 3 [(3, 1), (3, 1), (3, 1)] (z0.map q84) none])
def Af6  (z0 : (List Aj)) : St := [(2, dO 4 0), (3, dO 5 0), (4, .d (DS q84 [])), (5, dS 6), (6, dS 7)]
def Ai4 (x0 : Aa) (x1 : Ab) (y4 : (List Int)) (z0 : (List Aj)) : List Res := (zp x1 [.box 29 (d29 x0), .box 36 [.os 0, .os 1, .os 2, .os 3], v0_ y4, .dsl 84 3 8, .gh 3 [(3, 1), (3, 1), (3, 1)] (z0.map q84) none])
def Qf (x0 : Aa) (z1 : Int × (List Aj)) : St := [(2, dO 4 0), (3, dO 5 0), (4, .d (DS q84 [])), (5, dS 6), (6, dS 7), (47, dI (ln x0.Ac)), (48, dI z1.1)]
def Wr (x0 : Aa) (x1 : Ab) (y4 : (List Int)) (z1 : Int × (List Aj)) : List Res := (zp x1 [.box 29 (d29 x0), .box 36 [.os 0, .os 1, .os 2, .os 3], v0_ y4, .dsl 84 3 8, .gh 3 [(3, 1), (3, 1), (3, 1)] (z1.2.map q84) none])
def Af5  (z1 : Int × (List Aj)) : St := [(2, dO 4 0), (3, dO 5 0), (4, .d (DS q84 [])), (5, dS 6), (6, dS 7)]
def Ai3 (x0 : Aa) (x1 : Ab) (y4 : (List Int)) (z1 : Int × (List Aj)) : List Res := (zp x1 [.box 29 (d29 x0), .box 36 [.os 0, .os 1, .os 2, .os 3], v0_ y4, .dsl 84 3 8, .gh 3 [(3, 1), (3, 1), (3, 1)] (z1.2.map q84) none])
def Qe (x0 : Aa) (z2 : Int × (List Aj)) : St := [(2, dO 4 0), (3, dO 5 0), (4, .d (DS q84 [])), (5, dS 6), (6, dS 7), (80, dI (ln x0.Ae)), (81, dI z2.1)]
def Wq (x0 : Aa) (x1 : Ab) (y4 : (List Int)) (z2 : Int × (List Aj)) : List Res := (zp x1 [.box 29 (d29 x0), .box 36 [.os 0, .os 1, .os 2, .os 3], v0_ y4, .dsl 84 3 8, .gh 3 [(3, 1), (3, 1), (3, 1)] (z2.2.map q84) none])
def Af4  (z2 : Int × (List Aj)) : St := [(4, .d (DS q84 [])), (6, dS 4)]
def Ai2 (x1 : Ab) (z2 : Int × (List Aj)) : List Res := (zp x1 [.dsl 84 3 5, .gh 3 [(3, 1), (3, 1), (3, 1)] (z2.2.map q84) none])
theorem Ayx (x0 : Aa) (x1 : Ab) (r : (List Aj)) (h : Afb x0 x1 = some r) : CO 89 [.agg (d29 x0), .agg [.os 0, .os 1, .os 2, .os 3]] (zp x1 []) (.d (.os 4)) (zp x1 [v8_ r]) := by
 unfold Afb at h
 refine co 113 Tryz.func89 λ C hC => ?_
 obtain ⟨y1, h2, h⟩ := Ad h
 refine ws D6 26 [] [pb e43 (k43 x0 x1 _ h2)] [] 4 n6_ [(2, dO 4 0), (3, dO 5 0), (4, .d (DS q84 [])), (18, dB (y1 != 0))] (zp x1 [.box 29 (d29 x0), .box 36 [.os 0, .os 1, .os 2, .os 3]]) hC [] ?_
 rcases cB h with ⟨h3, h⟩ | ⟨h3, h⟩
 ·replace h := sI h
  subst h
  exact wr D6 24 [true] [] [.own 4 84 3] 4 [0, 1, 2, 3, 6] hC [pq h3]
 ·obtain ⟨y4, h5, h⟩ := Ad h
  obtain ⟨y6, h7, h⟩ := Ad h
  refine ws D6 30 [false] [⟨.call 142 [.agg (d29 x0), .agg [.os 0, .os 1, .os 2, .os 3]] (zp x1 []) (dS 4) (zp x1 [v0_ y4]) n4_, ⟨A4g, ((A2l x0 x1 _ h5).lend (by kernel_rfl) (by kernel_rfl) (by kernel_rfl) ⟨Be (λ _ => rfl), trivial⟩ (by kernel_rfl) (by kernel_rfl))⟩⟩, ⟨.roomZ (x0.Am * (72 + 1)) (List.replicate (Int.toNat x0.Am) (q84 (⟨([] : List Int), ([] : List Int), ([] : List Int)⟩ : Aj))) (y6.map q84), Tk h7⟩, pl pI y4] [.deep 7 [(3, 1), (3, 1), (3, 1)]] 4 n9_ (X3 y4 0 y6) (Aa1 x0 x1 y4 0 y6) hC [pq h3] ?_
  obtain ⟨w0, hm0, hret0, hnext0⟩ := Au h
  clear h
  refine wc w0 (Af6) (Ai4 x0 x1 y4) ?_ λ z0 hs0 => ?_
  ·refine wb ?_
   refine Cj 25 6 rfl rfl λ hl0 => ?_
   refine A7 (by kernel_rfl) Zs (X3 y4) (Aa1 x0 x1 y4) w0 y4 y6 hm0 rfl rfl (λ z0 hn0 => ?_) λ n0 a0 z0 w0b hi0 hx0 h hb0 hr0 => ?_
   ·clear hm0
    exact wx w0 (Af6) (Ai4 x0 x1 y4) D6 26 [false] [] [] 4 n9_ z0 hC [pq (Bb hl0)] hn0
   ·unfold Zs at h
    obtain ⟨y8, h9, h⟩ := Ad h
    obtain ⟨y10, h11, h⟩ := Ad h
    obtain ⟨y12, h13, h⟩ := Ad h
    exact wx w0b (X3 y4 (n0 + 1)) (Aa1 x0 x1 y4 (n0 + 1)) D6 33 [true] [pr pI (Bl hx0 hl0), pn pI (Bl hx0 hl0), pr q84 h9, pn q84 h9, ⟨.appD (z0.map q84) (Int.toNat a0) (q84 y8) 0 (y8.Am.map pI) ([cnt 0 n0].map pI) 1 (((y8.Am.map pI).length + ([cnt 0 n0].map pI).length) * (8 + 1)) (y10.map pI), Ik 1 (λ _ => rfl) h9 rfl h11⟩, pr q84 h9, ⟨.updD (z0.map q84) (Int.toNat a0) (Int.toNat a0) (q84 y8) (q84 (⟨y10, y8.Ac, y8.Ae⟩ : Aj)) (y12.map q84), Ih h9 h13⟩] [] 4 [0, 1, 2, 3, 4, 5, 6, 7, 12] y12 hC [pq (A8 hi0 hl0)] (sI h).symm
  ·have h := hnext0 _ hs0
   refine ws D6 24 [] [pl Bt x0.Ac] [] 4 n9_ (Qf x0 (0, z0)) (Wr x0 x1 y4 (0, z0)) hC [] ?_
   obtain ⟨w1, hm1, hret1, hnext1⟩ := Au h
   clear h
   refine wc w1 (Af5) (Ai3 x0 x1 y4) ?_ λ z1 hs1 => ?_
   ·refine wb ?_
    refine B2 (by kernel_rfl) (Zr x0 x1 y4) (Qf x0) (Wr x0 x1 y4) w1 1152921504606846976 (0, z0) hm1 rfl rfl λ z1 w1b h hb1 hr1 => ?_
    unfold Zr at h
    rcases cB h with ⟨h14, h⟩ | ⟨h14, h⟩
    ·obtain ⟨y15, h16, h⟩ := Ad h
     refine ws D6 34 [true] [pb Axq (Aw8 x0 x1 z1.1 _ h16)] [] 4 n9_ [(2, dO 4 0), (3, dO 5 0), (4, .d (DS q84 [])), (5, dS 6), (6, dS 7), (9, dI z1.1), (10, dI y15.1), (47, dI (ln x0.Ac)), (48, dI z1.1), (58, dB y15.2)] (zp x1 [.box 29 (d29 x0), .box 36 [.os 0, .os 1, .os 2, .os 3], v0_ y4, .dsl 84 3 8, .gh 3 [(3, 1), (3, 1), (3, 1)] (z1.2.map q84) none]) hC [pq h14] ?_
     rcases cB h with ⟨h17, h⟩ | ⟨h17, h⟩
     ·obtain ⟨y18, h19, h⟩ := Ad h
      obtain ⟨y20, h21, h⟩ := Ad h
      obtain ⟨y22, h23, h⟩ := Ad h
      obtain ⟨y24, h25, h⟩ := Ad h
      exact wx w1b (Qf x0) (Wr x0 x1 y4) D6 25 [true] [pr pI h19, pn pI h19, pr pI h19, pn pI h19, pr q84 h21, pn q84 h21, ⟨.appD (z1.2.map q84) (Int.toNat y18) (q84 y20) 1 (y20.Ac.map pI) ([z1.1].map pI) 1 (((y20.Ac.map pI).length + ([z1.1].map pI).length) * (8 + 1)) (y22.map pI), Ik 1 (λ _ => rfl) h21 rfl h23⟩, pr q84 h21, ⟨.updD (z1.2.map q84) (Int.toNat y18) (Int.toNat y18) (q84 y20) (q84 (⟨y20.Am, y22, y20.Ae⟩ : Aj)) (y24.map q84), Ih h21 h25⟩] [] 4 [0, 1, 2, 3, 4, 5, 6, 7, 12] (w64 (z1.1 + 1), y24) hC [pq h17] (sI h).symm
     ·exact wx w1b (Qf x0) (Wr x0 x1 y4) D6 25 [false] [] [] 4 n9_ (w64 (z1.1 + 1), z1.2) hC [pq h17] (sI h).symm
    ·exact wx w1 (Af5) (Ai3 x0 x1 y4) D6 26 [false] [] [] 4 n9_ (z1.1, z1.2) hC [pq h14] (hb1 _ (sI h).symm)
   ·have h := hnext1 _ hs1
    refine ws D6 24 [] [pl q65 x0.Ae] [] 4 n9_ (Qe x0 (0, z1.2)) (Wq x0 x1 y4 (0, z1.2)) hC [] ?_
    obtain ⟨w2, hm2, hret2, hnext2⟩ := Au h
    clear h
    refine wc w2 (Af4) (Ai2 x1) ?_ λ z2 hs2 => ?_
    ·refine wb ?_
     refine B2 (by kernel_rfl) (Zq x0 x1 y4) (Qe x0) (Wq x0 x1 y4) w2 1152921504606846976 (0, z1.2) hm2 rfl rfl λ z2 w2b h hb2 hr2 => ?_
     unfold Zq at h
     rcases cB h with ⟨h26, h⟩ | ⟨h26, h⟩
     ·obtain ⟨y27, h28, h⟩ := Ad h
      refine ws D6 34 [true] [pb Axp (Aw7 x0 x1 z2.1 _ h28)] [] 4 n9_ [(2, dO 4 0), (3, dO 5 0), (4, .d (DS q84 [])), (5, dS 6), (6, dS 7), (12, dI z2.1), (13, dI y27.1), (80, dI (ln x0.Ae)), (81, dI z2.1), (91, dB y27.2)] (zp x1 [.box 29 (d29 x0), .box 36 [.os 0, .os 1, .os 2, .os 3], v0_ y4, .dsl 84 3 8, .gh 3 [(3, 1), (3, 1), (3, 1)] (z2.2.map q84) none]) hC [pq h26] ?_
      rcases cB h with ⟨h29, h⟩ | ⟨h29, h⟩
      ·obtain ⟨y30, h31, h⟩ := Ad h
       obtain ⟨y32, h33, h⟩ := Ad h
       obtain ⟨y34, h35, h⟩ := Ad h
       obtain ⟨y36, h37, h⟩ := Ad h
       exact wx w2b (Qe x0) (Wq x0 x1 y4) D6 25 [true] [pr pI h31, pn pI h31, pr pI h31, pn pI h31, pr q84 h33, pn q84 h33, ⟨.appD (z2.2.map q84) (Int.toNat y30) (q84 y32) 2 (y32.Ae.map pI) ([z2.1].map pI) 1 (((y32.Ae.map pI).length + ([z2.1].map pI).length) * (8 + 1)) (y34.map pI), Ik 1 (λ _ => rfl) h33 rfl h35⟩, pr q84 h33, ⟨.updD (z2.2.map q84) (Int.toNat y30) (Int.toNat y30) (q84 y32) (q84 (⟨y32.Am, y32.Ac, y34⟩ : Aj)) (y36.map q84), Ih h33 h37⟩] [] 4 [0, 1, 2, 3, 4, 5, 6, 7, 12] (w64 (z2.1 + 1), y36) hC [pq h29] (sI h).symm
      ·exact wx w2b (Qe x0) (Wq x0 x1 y4) D6 25 [false] [] [] 4 n9_ (w64 (z2.1 + 1), z2.2) hC [pq h29] (sI h).symm
     ·exact wx w2 (Af4) (Ai2 x1) D6 26 [false] [] [] 4 [0, 1, 2, 3, 7, 8] (z2.1, z2.2) hC [pq h26] (hb2 _ (sI h).symm)
    ·have h := hnext2 _ hs2
     refine ws D6 1 [] [] [.flat 4] 4 n5_ [(4, .d (DS q84 [])), (6, dS 4)] (zp x1 [v8_ z2.2]) hC [] ?_
     obtain ⟨y38, h39, h⟩ := Ad h
     replace h := sI h
     subst h
     exact wr D6 22 [] [pc Aug (Atn z2.2 _ h39) [4]] [] 4 [0, 1, 2, 3, 5] hC []
theorem Ay2 : EN 89 := en Tryz.func89
theorem k94 (x0 : Bz) (r : Bool) (h : F94 x0 = some r) : CO 94 [.agg (d63 x0)] [] (.d (Bo r)) [] := by
 unfold F94 at h
 refine co 38 Tryz.func94 λ C hC => ?_
 obtain ⟨y1, h2, h⟩ := Ad h
 replace h := sI h
 subst h
 exact wr n3_ 25 [] [pc Ah2 (Ag8 x0.Kind 1 3 _ rfl) [], ⟨.when [(Dm x0.Kind 1 3, true)] (.call 148 [dI x0.Station, dI 0, dI 1] [] (dB (Dm x0.Station 0 1)) [] []), λ hg => ⟨Ah2, (Ag8 x0.Station 0 1 _ rfl)⟩⟩, ⟨.when [(((Dm x0.Kind 1 3) && (Dm x0.Station 0 1)), true)] (.call 148 [dI x0.Max, dI 0, dI 5000] [] (dB (Dm x0.Max 0 5000)) [] []), λ hg => ⟨Ah2, (Ag8 x0.Max 0 5000 _ rfl)⟩⟩, ⟨.when [((((Dm x0.Kind 1 3) && (Dm x0.Station 0 1)) && (Dm x0.Max 0 5000)), true)] (.call 148 [dI x0.Rate, dI 0, dI 5000] [] (dB (Dm x0.Rate 0 5000)) [] []), λ hg => ⟨Ah2, (Ag8 x0.Rate 0 5000 _ rfl)⟩⟩, ⟨.when [(((((Dm x0.Kind 1 3) && (Dm x0.Station 0 1)) && (Dm x0.Max 0 5000)) && (Dm x0.Rate 0 5000)), true)] (.call 148 [dI x0.Cost, dI 1, dI 100] [] (dB (Dm x0.Cost 1 100)) [] []), λ hg => ⟨Ah2, (Ag8 x0.Cost 1 100 _ rfl)⟩⟩, pL_ [((((((Dm x0.Kind 1 3) && (Dm x0.Station 0 1)) && (Dm x0.Max 0 5000)) && (Dm x0.Rate 0 5000)) && (Dm x0.Cost 1 100)), true)] Yd x0.Hq, pw A4d (λ hg => A2i x0.Hq _ (Ba h2 hg)) []] [] 0 [] hC []
theorem e94 : EN 94 := en Tryz.func94
end Go.Proofs.YthgnbpdjncbkfaaGreat
