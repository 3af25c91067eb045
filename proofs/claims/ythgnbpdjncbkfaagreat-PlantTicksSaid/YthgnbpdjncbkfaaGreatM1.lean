import Derived.Test.YthgnbpdjncbkfaaGreatM0
set_option linter.unusedVariables false
namespace Go.Proofs.YthgnbpdjncbkfaaGreat
open Go.SL
def F1 : List Nat := [0, 2, 3, 4, 5, 6, 7, 8, 9, 10, 11, 24, 29, 47, 60, 96, 121, 155]
def jP  (z0 : Sg1) : St := [(0, dO 0 0), (2, dO 1 0), (3, dO 2 0), (4, dI z0.1)]
def Afd (y1 : Int × Aj) (y3 : Int × Aj) (y5 : Int × Aj) (z0 : Sg1) : List Res := [.box 90 [DS pI z0.2.1, I z0.2.2.1], .box 29 [I 0, .os 3, .os 4, .os 5, I 0, I 0], .box 29 [I y1.1, .os 6, .os 7, .os 8, I y3.1, I y5.1], v9_ ([] : List Ak), H3 ([] : List Bh), H2 ([] : List A1), v9_ (Dd z0), H3 ([] : List Bh), H2 ([] : List A1)]
def As1  (z0 : Sg1) : St := [(0, dO 0 0), (2, dO 1 0), (3, dO 2 0)]
def Av5 (y1 : Int × Aj) (y3 : Int × Aj) (y5 : Int × Aj) (z0 : Sg1) : List Res := [.box 90 [DS pI z0.2.1, I z0.2.2.1], .box 29 [I 0, .os 3, .os 4, .os 5, I 0, I 0], .box 29 [I y1.1, .os 6, .os 7, .os 8, I y3.1, I y5.1], v9_ ([] : List Ak), H3 ([] : List Bh), H2 ([] : List A1), v9_ (Dd z0), H3 ([] : List Bh), H2 ([] : List A1)]
def Agj  (z1 : (List Ak)) : St := [(0, dO 0 0), (2, dO 1 0), (3, dO 2 0)]
def Ajd (y1 : Int × Aj) (y3 : Int × Aj) (y5 : Int × Aj) (y15 : Int × Aj) (z1 : (List Ak)) : List Res := [.box 90 (d90 y15.2), .box 29 [I 0, .os 3, .os 4, .os 5, I 0, I 0], .box 29 [I y1.1, .os 6, .os 7, .os 8, I y3.1, I y5.1], v9_ ([] : List Ak), H3 ([] : List Bh), H2 ([] : List A1), v9_ z1, H3 ([] : List Bh), H2 ([] : List A1)]
def Af2  (z2 : Sg3) : St := [(0, dO 0 0), (2, dO 1 0), (3, dO 2 0), (5, dI z2.1)]
def Aq3 (y1 : Int × Aj) (y3 : Int × Aj) (y5 : Int × Aj) (z2 : Sg3) : List Res := [.box 90 [DS pI z2.2.1, I z2.2.2.1], .box 29 [I 0, .os 3, .os 4, .os 5, I 0, I 0], .box 29 [I y1.1, .os 6, .os 7, .os 8, I y3.1, I y5.1], v9_ ([] : List Ak), H3 ([] : List Bh), H2 ([] : List A1), v9_ (g3_ z2), H3 (Ik z2), H2 ([] : List A1)]
def As0  (z2 : Sg3) : St := [(0, dO 0 0), (2, dO 1 0), (3, dO 2 0)]
def Av4 (y1 : Int × Aj) (y3 : Int × Aj) (y5 : Int × Aj) (z2 : Sg3) : List Res := [.box 90 [DS pI z2.2.1, I z2.2.2.1], .box 29 [I 0, .os 3, .os 4, .os 5, I 0, I 0], .box 29 [I y1.1, .os 6, .os 7, .os 8, I y3.1, I y5.1], v9_ ([] : List Ak), H3 ([] : List Bh), H2 ([] : List A1), v9_ (g3_ z2), H3 (Ik z2), H2 ([] : List A1)]
def jO  (z3 : Sg2) : St := [(0, dO 0 0), (2, dO 1 0), (3, dO 2 0), (7, dI z3.1)]
def Afc (y1 : Int × Aj) (y3 : Int × Aj) (y5 : Int × Aj) (z2 : Sg3) (z3 : Sg2) : List Res := [.box 90 [DS pI z3.2.1, I z3.2.2.1], .box 29 [I 0, .os 3, .os 4, .os 5, I 0, I 0], .box 29 [I y1.1, .os 6, .os 7, .os 8, I y3.1, I y5.1], v9_ ([] : List Ak), H3 ([] : List Bh), H2 ([] : List A1), v9_ (g3_ z3), H3 (Ik z2), H2 (Ik z3)]
def Asz  (z3 : Sg2) : St := [(2, dO 1 0), (3, dO 2 0)]
def Av3 (y1 : Int × Aj) (y3 : Int × Aj) (y5 : Int × Aj) (z2 : Sg3) (z3 : Sg2) : List Res := [.box 90 [DS pI z3.2.1, I z3.2.2.1], .box 29 [I 0, .os 3, .os 4, .os 5, I 0, I 0], .box 29 [I y1.1, .os 6, .os 7, .os 8, I y3.1, I y5.1], v9_ ([] : List Ak), H3 ([] : List Bh), H2 ([] : List A1), v9_ (g3_ z3), H3 (Ik z2), H2 (Ik z3)]
def Agi (z3 : Sg2) (z4 : (List Ak)) : St := [(0, dO 0 0), (2, dO 1 0), (3, dO 2 0), (7, dI z3.1), (8, dI (ln (Ik z3)))]
def Ajc (y1 : Int × Aj) (y3 : Int × Aj) (y5 : Int × Aj) (z2 : Sg3) (z3 : Sg2) (y42 : Int × Aj) (z4 : (List Ak)) : List Res := [.box 90 (d90 y42.2), .box 29 [I 0, .os 3, .os 4, .os 5, I 0, I 0], .box 29 [I y1.1, .os 8, .os 6, .os 7, I y3.1, I y5.1], v9_ ([] : List Ak), H3 ([] : List Bh), H2 ([] : List A1), H3 (Ik z2), H2 (Ik z3), v9_ z4]
set_option maxHeartbeats 4000000 in
theorem k29 (x0 : Aj) (r : Aa × Aj) (h : F29 x0 = some r) : CO 29 [.d (.o 0 0)] [.box 90 (d90 x0)] (.agg [I r.1.An, .os 1, .os 2, .os 3, I r.1.Phase, I r.1.Aq]) (.box 90 (d90 r.2) :: zs r.1 []) := by
 unfold F29 at h
 refine co 168 Tryz.func29 λ C hC => ?_
 obtain ⟨y1, h2, h⟩ := Ad h
 obtain ⟨y3, h4, h⟩ := Ad h
 obtain ⟨y5, h6, h⟩ := Ad h
 refine ws F1 28 [] [pc e78 (k78 x0 1 4 _ h2) [0], pc e40 (k40 y1.2 [0, 50, 200, 1800] _ h4) [0], pc e40 (k40 y3.2 [0, 10, 50] _ h6) [0]] [.ownb 1 1 147 3, .ownb 1 2 139 3, .ownb 1 3 65 5, .ownb 2 1 147 3, .ownb 2 2 139 3, .ownb 2 3 65 5] 1 n9_ (jP (1, y5.2.L, y5.2.At, ([] : List Ak))) (Afd y1 y3 y5 (1, y5.2.L, y5.2.At, ([] : List Ak))) hC [] ?_
 obtain ⟨w0, hm0, hret0, hnext0⟩ := As h
 clear h
 refine wc w0 (As1) (Av5 y1 y3 y5) ?_ λ z0 hs0 => ?_
 ·refine wb ?_
  refine By (by kernel_rfl) (Ut y1) (jP) (Afd y1 y3 y5) w0 1152921504606846976 (1, y5.2.L, y5.2.At, ([] : List Ak)) hm0 rfl rfl λ z0 w0b h hb0 hr0 => ?_
  unfold Ut at h
  rcases cB h with ⟨h7, h⟩ | ⟨h7, h⟩
  ·obtain ⟨y8, h9, h⟩ := Ad h
   rcases cB h with ⟨h10, h⟩ | ⟨h10, h⟩
   ·obtain ⟨y11, h12, h⟩ := Ad h
    obtain ⟨y13, h14, h⟩ := Ad h
    exact wx w0b (jP) (Afd y1 y3 y5) F1 34 [true, true] [pc e32 (k32 (⟨z0.2.1, z0.2.2.1⟩ : Aj) 6 _ h9) [0], pc e32 (k32 y8.2 z0.1 _ h12) [0], pa Bi 3 h14] [] 1 [0, 1, 2, 3, 4, 5, 9, 7, 8] (w64 (z0.1 + 1), y11.2.L, y11.2.At, y13) hC [pq h7, pq h10] (sI h).symm
   ·exact wx w0b (jP) (Afd y1 y3 y5) F1 34 [true, false] [pc e32 (k32 (⟨z0.2.1, z0.2.2.1⟩ : Aj) 6 _ h9) [0]] [] 1 n9_ (w64 (z0.1 + 1), y8.2.L, y8.2.At, (Dd z0)) hC [pq h7, pq h10] (sI h).symm
  ·exact wx w0 (As1) (Av5 y1 y3 y5) F1 26 [false] [] [] 1 n9_ (z0.1, z0.2.1, z0.2.2.1, (Dd z0)) hC [pq h7] (hb0 _ (sI h).symm)
 ·have h := hnext0 _ hs0
  obtain ⟨y15, h16, h⟩ := Ad h
  refine wn F1 24 [] [⟨.whenR [(decide (y1.1 > 2), true)] (.call 32 [dO 0 0, dI 2] [.box 90 [DS pI z0.2.1, I z0.2.2.1]] (dI y15.1) [.box 90 (d90 y15.2)] [0]), ⟨λ hg => ⟨e32, (k32 (⟨z0.2.1, z0.2.2.1⟩ : Aj) 2 _ (A_ h16 hg))⟩, λ hg => by have e := Ht h16 hg; subst e; rfl⟩⟩] [] 1 n9_ [0, 2, 3, 47] hC [] ?_
  obtain ⟨w1, h, hret1, hnext1⟩ := As h
  refine wc w1 (Agj) (Ajd y1 y3 y5 y15) ?_ λ z1 hs1 => ?_
  ·unfold Ake at h
   rcases cB h with ⟨h17, h⟩ | ⟨h17, h⟩
   ·obtain ⟨y18, h19, h⟩ := Ad h
    exact wx w1 (Agj) (Ajd y1 y3 y5 y15) F1 23 [true] [pa Bi 3 h19] [] 1 [0, 1, 2, 3, 4, 5, 9, 7, 8] y18 hC [pq h17] (sI h).symm
   ·exact wx w1 (Agj) (Ajd y1 y3 y5 y15) F1 23 [false] [] [] 1 n9_ (Dd z0) hC [pq h17] (sI h).symm
  ·clear h; have h := hnext1 _ hs1
   obtain ⟨y20, h21, h⟩ := Ad h
   refine ws F1 24 [] [pc e32 (k32 y15.2 5 _ h21) [0]] [] 1 n9_ (Af2 (y20.1, y20.2.L, y20.2.At, z1, ([] : List Bh))) (Aq3 y1 y3 y5 (y20.1, y20.2.L, y20.2.At, z1, ([] : List Bh))) hC [] ?_
   obtain ⟨w2, hm2, hret2, hnext2⟩ := As h
   clear h
   refine wc w2 (As0) (Av4 y1 y3 y5) ?_ λ z2 hs2 => ?_
   ·refine wb ?_
    refine By (by kernel_rfl) (Us y1) (Af2) (Aq3 y1 y3 y5) w2 1152921504606846976 (y20.1, y20.2.L, y20.2.At, z1, ([] : List Bh)) hm2 rfl rfl λ z2 w2b h hb2 hr2 => ?_
    unfold Us at h
    rcases cB h with ⟨h22, h⟩ | ⟨h22, h⟩
    ·obtain ⟨y23, h24, h⟩ := Ad h
     obtain ⟨y25, h26, h⟩ := Ad h
     obtain ⟨y27, h28, h⟩ := Ad h
     obtain ⟨y29, h30, h⟩ := Ad h
     obtain ⟨y31, h32, h⟩ := Ad h
     obtain ⟨y33, h34, h⟩ := Ad h
     exact wx w2b (Af2) (Aq3 y1 y3 y5) F1 35 [true] [pc e32 (k32 (⟨z2.2.1, z2.2.2.1⟩ : Aj) y1.1 _ h24) [0], pl Bt (Ik z2), pa Bi 3 h26, pc e40 (k40 y23.2 [10, 50, 100] _ h28) [0], pc e40 (k40 y27.2 [0, 5, y27.1] _ h30) [0], pc e40 (k40 y29.2 [0, 1, 3] _ h32) [0], pa Bt 3 h34] [] 1 [0, 1, 2, 3, 4, 5, 9, 10, 8] (w64 (z2.1 - 1), y31.2.L, y31.2.At, y25, y33) hC [pq h22] (sI h).symm
    ·exact wx w2 (As0) (Av4 y1 y3 y5) F1 26 [false] [] [] 1 n9_ (z2.1, z2.2.1, z2.2.2.1, (g3_ z2), (Ik z2)) hC [pq h22] (hb2 _ (sI h).symm)
   ·have h := hnext2 _ hs2
    obtain ⟨y35, h36, h⟩ := Ad h
    refine ws F1 24 [] [pc e32 (k32 (⟨z2.2.1, z2.2.2.1⟩ : Aj) 6 _ h36) [0]] [] 1 n9_ (jO (y35.1, y35.2.L, y35.2.At, (g3_ z2), ([] : List A1))) (Afc y1 y3 y5 z2 (y35.1, y35.2.L, y35.2.At, (g3_ z2), ([] : List A1))) hC [] ?_
    obtain ⟨w3, hm3, hret3, hnext3⟩ := As h
    clear h
    refine wc w3 (Asz) (Av3 y1 y3 y5 z2) ?_ λ z3 hs3 => ?_
    ·refine wb ?_
     refine By (by kernel_rfl) (Ur y1) (jO) (Afc y1 y3 y5 z2) w3 1152921504606846976 (y35.1, y35.2.L, y35.2.At, (g3_ z2), ([] : List A1)) hm3 rfl rfl λ z3 w3b h hb3 hr3 => ?_
     unfold Ur at h
     rcases cB h with ⟨h37, h⟩ | ⟨h37, h⟩
     ·obtain ⟨y38, h39, h⟩ := Ad h
      obtain ⟨y40, h41, h⟩ := Ad h
      obtain ⟨y42, h43, h⟩ := Ad h
      refine wn F1 37 [true] [pl q65 (Ik z3), pc e32 (k32 (⟨z3.2.1, z3.2.2.1⟩ : Aj) y1.1 _ h39) [0], pa Bi 3 h41, ⟨.whenR [(decide (y1.1 > 1), true)] (.call 32 [dO 0 0, dI 4] [.box 90 (d90 y38.2)] (dI y42.1) [.box 90 (d90 y42.2)] [0]), ⟨λ hg => ⟨e32, (k32 y38.2 4 _ (A_ h43 hg))⟩, λ hg => by have e := Ht h43 hg; subst e; rfl⟩⟩] [] 1 [0, 1, 2, 3, 4, 5, 7, 8, 9] [0, 2, 3, 7, 8, 9, 121] hC [pq h37] ?_
      obtain ⟨w4, h, hret4, hnext4⟩ := As h
      refine wc w4 (Agi z3) (Ajc y1 y3 y5 z2 z3 y42) ?_ λ z4 hs4 => ?_
      ·unfold Akd at h
       rcases cB h with ⟨h44, h⟩ | ⟨h44, h⟩
       ·obtain ⟨u46, h45, h⟩ := Ad h
        obtain ⟨y47, h48, h⟩ := Ad h
        exact wx w4 (Agi z3) (Ajc y1 y3 y5 z2 z3 y42) F1 23 [true] [⟨.nz y1.1, O7 h45⟩, pa Bi 3 h48] [] 1 [0, 1, 2, 3, 4, 5, 6, 7, 9] y47 hC [pq h44] (sI h).symm
       ·exact wx w4 (Agi z3) (Ajc y1 y3 y5 z2 z3 y42) F1 23 [false] [] [] 1 n9_ y40 hC [pq h44] (sI h).symm
      ·clear h; have h := hnext4 _ hs4
       obtain ⟨y49, h50, h⟩ := Ad h
       obtain ⟨y51, h52, h⟩ := Ad h
       obtain ⟨y53, h54, h⟩ := Ad h
       obtain ⟨y55, h56, h⟩ := Ad h
       obtain ⟨y57, h58, h⟩ := Ad h
       refine wn F1 28 [] [pc e40 (k40 y42.2 [0, 5, 20, 40] _ h50) [0], ⟨.nz 2, Kk rfl⟩, pc e40 (k40 y49.2 [0, w64 (Int.tdiv y49.1 2), y49.1] _ h52) [0], pc e32 (k32 y51.2 3 _ h54) [0], pc e78 (k78 y53.2 (-1) 2 _ h56) [0], ⟨.whenR [(decide ((ln (Ik z3)) > 0), true)] (.call 32 [dO 0 0, dI 4] [.box 90 (d90 y55.2)] (dI y57.1) [.box 90 (d90 y57.2)] [0]), ⟨λ hg => ⟨e32, (k32 y55.2 4 _ (A_ h58 hg))⟩, λ hg => by have e := Ht h58 hg; subst e; rfl⟩⟩] [.ownb 9 4 3 1] 1 Yi [0, 2, 3, 7, 8, 11, 155] hC [] ?_
       rcases cB h with ⟨h59, h⟩ | ⟨h59, h⟩
       ·obtain ⟨y60, h61, h⟩ := Ad h
        obtain ⟨y62, h63, h⟩ := Ad h
        exact wx w3b (jO) (Afc y1 y3 y5 z2) F1 26 [true] [pc e32 (k32 y57.2 (ln (Ik z3)) _ h61) [0], pa q65 5 h63] [] 1 [0, 1, 2, 3, 4, 5, 8, 6, 11] (w64 (z3.1 - 1), y60.2.L, y60.2.At, z4, y62) hC [pq h59] (sI h).symm
       ·refine wn F1 2 [false] [] [.frz 10] 1 Fo [0, 2, 3, 7, 11] hC [pq h59] ?_
        obtain ⟨y64, h65, h⟩ := Ad h
        exact wx w3b (jO) (Afc y1 y3 y5 z2) F1 24 [] [pa q65 5 h65] [] 1 [0, 1, 2, 3, 4, 5, 8, 6, 10] (w64 (z3.1 - 1), y57.2.L, y57.2.At, z4, y64) hC [] (sI h).symm
     ·exact wx w3 (Asz) (Av3 y1 y3 y5 z2) F1 26 [false] [] [] 1 n9_ (z3.1, z3.2.1, z3.2.2.1, (g3_ z3), (Ik z3)) hC [pq h37] (hb3 _ (sI h).symm)
    ·have h := hnext3 _ hs3
     replace h := sI h
     subst h
     exact wr F1 23 [] [] [] 1 [0, 6, 7, 8] hC []
theorem e29 : EN 29 := en Tryz.func29
theorem k30 (x0 : Aj) (r : Bf × Aj) (h : F30 x0 = some r) : CO 30 [.d (.o 0 0)] [.box 90 (d90 x0)] (.agg (d31 r.1)) [.box 90 (d90 r.2)] := by
 unfold F30 at h
 refine co 13 Tryz.func30 λ C hC => ?_
 obtain ⟨y1, h2, h⟩ := Ad h
 obtain ⟨y3, h4, h⟩ := Ad h
 obtain ⟨y5, h6, h⟩ := Ad h
 replace h := sI h
 subst h
 exact wr [0, 2] 25 [] [pc e40 (k40 x0 [60, 80, 100] _ h2) [0], pc e40 (k40 y1.2 [1, 30, 50] _ h4) [0], pc e40 (k40 y3.2 [0, 1, 3] _ h6) [0]] [] 1 [0] hC []
theorem e30 : EN 30 := en Tryz.func30
def Cf : List Nat := [0, 1, 3, 4, 5, 6, 7, 8, 9, 11, 12, 13, 16, 17, 18, 30, 31, 32, 35, 36, 37, 38, 57, 67, 68, 69, 89, 90, 91, 92, 114, 119, 126]
def S4 (x1 : Aa) (z0 : Int × (List Int) × Int × (List Bool)) : St := [(0, dO 0 0), (3, dO 4 0), (4, dO 5 0), (5, dO 6 0), (16, dI (ln x1.Ag)), (17, dI z0.1)]
def Zr (x1 : Aa) (z0 : Int × (List Int) × Int × (List Bool)) : List Res := (.box 90 [DS pI z0.2.1, I z0.2.2.1] :: zs x1 (.box 29 [I x1.An, .os 1, .os 2, .os 3, I x1.Phase, I x1.Aq] :: .box 36 [.os 7, .os 8, .os 9, .os 10] :: .box 36 [.os 11, .os 12, .os 13, .os 14] :: ze [v2_ (Dd z0), v4_ ([] : List Af), v0_ ([] : List Int), v3_ ([] : List Am)]))
def Ac0  (z0 : Int × (List Int) × Int × (List Bool)) : St := [(0, dO 0 0), (3, dO 4 0), (4, dO 5 0), (5, dO 6 0)]
def Aei (x1 : Aa) (z0 : Int × (List Int) × Int × (List Bool)) : List Res := (.box 90 [DS pI z0.2.1, I z0.2.2.1] :: zs x1 (.box 29 [I x1.An, .os 1, .os 2, .os 3, I x1.Phase, I x1.Aq] :: .box 36 [.os 7, .os 8, .os 9, .os 10] :: .box 36 [.os 11, .os 12, .os 13, .os 14] :: ze [v2_ (Dd z0), v4_ ([] : List Af), v0_ ([] : List Int), v3_ ([] : List Am)]))
def S3 (x1 : Aa) (z1 : Int × (List Bool)) : St := [(0, dO 0 0), (3, dO 4 0), (4, dO 5 0), (5, dO 6 0), (30, dI (ln x1.Ae)), (31, dI z1.1)]
def Zq (x1 : Aa) (z0 : Int × (List Int) × Int × (List Bool)) (z1 : Int × (List Bool)) : List Res := (.box 90 [DS pI z0.2.1, I z0.2.2.1] :: zs x1 (.box 29 [I x1.An, .os 1, .os 2, .os 3, I x1.Phase, I x1.Aq] :: .box 36 [.os 7, .os 8, .os 9, .os 10] :: .box 36 [.os 11, .os 12, .os 13, .os 14] :: ze [v2_ z1.2, v4_ ([] : List Af), v0_ ([] : List Int), v3_ ([] : List Am)]))
def Acz  (z1 : Int × (List Bool)) : St := [(0, dO 0 0), (3, dO 4 0), (4, dO 5 0), (5, dO 6 0)]
def Aeh (x1 : Aa) (z0 : Int × (List Int) × Int × (List Bool)) (z1 : Int × (List Bool)) : List Res := (.box 90 [DS pI z0.2.1, I z0.2.2.1] :: zs x1 (.box 29 [I x1.An, .os 1, .os 2, .os 3, I x1.Phase, I x1.Aq] :: .box 36 [.os 7, .os 8, .os 9, .os 10] :: .box 36 [.os 11, .os 12, .os 13, .os 14] :: ze [v2_ z1.2, v4_ ([] : List Af), v0_ ([] : List Int), v3_ ([] : List Am)]))
def Nl (x1 : Aa) (z1 : Int × (List Bool)) (n2 : Nat) (z2 : Bool × (List Bool)) : St := [(0, dO 0 0), (3, dO 4 0), (4, dO 5 0), (5, dO 6 0), (6, dI z1.1), (7, dB z2.1), (30, dI (ln x1.Ae)), (31, dI z1.1), (35, dS 1), (36, dI (ln x1.Ag)), (37, dI (cnt 0 n2))]
def Ro (x1 : Aa) (z0 : Int × (List Int) × Int × (List Bool)) (n2 : Nat) (z2 : Bool × (List Bool)) : List Res := (.box 90 [DS pI z0.2.1, I z0.2.2.1] :: zs x1 (.box 29 [I x1.An, .os 1, .os 2, .os 3, I x1.Phase, I x1.Aq] :: .box 36 [.os 7, .os 8, .os 9, .os 10] :: .box 36 [.os 11, .os 12, .os 13, .os 14] :: ze [v2_ z2.2, v4_ ([] : List Af), v0_ ([] : List Int), v3_ ([] : List Am)]))
def Acy (x1 : Aa) (z1 : Int × (List Bool)) (z2 : Bool × (List Bool)) : St := [(0, dO 0 0), (3, dO 4 0), (4, dO 5 0), (5, dO 6 0), (30, dI (ln x1.Ae)), (31, dI z1.1)]
def Aeg (x1 : Aa) (z0 : Int × (List Int) × Int × (List Bool)) (z2 : Bool × (List Bool)) : List Res := (.box 90 [DS pI z0.2.1, I z0.2.2.1] :: zs x1 (.box 29 [I x1.An, .os 1, .os 2, .os 3, I x1.Phase, I x1.Aq] :: .box 36 [.os 7, .os 8, .os 9, .os 10] :: .box 36 [.os 11, .os 12, .os 13, .os 14] :: ze [v2_ z2.2, v4_ ([] : List Af), v0_ ([] : List Int), v3_ ([] : List Am)]))
def Sz (x1 : Aa) (z3 : Sg5) : St := [(0, dO 0 0), (3, dO 4 0), (4, dO 5 0), (5, dO 6 0), (67, dI (ln x1.Ac)), (68, dI z3.1)]
def Zp (x1 : Aa) (z1 : Int × (List Bool)) (z3 : Sg5) : List Res := (.box 90 [DS pI z3.2.1, I z3.2.2.1] :: zs x1 (.box 29 [I x1.An, .os 1, .os 2, .os 3, I x1.Phase, I x1.Aq] :: .box 36 [.os 7, .os 8, .os 9, .os 10] :: .box 36 [.os 11, .os 12, .os 13, .os 14] :: ze [v2_ z1.2, v4_ (Dd z3), v0_ ([] : List Int), v3_ ([] : List Am)]))
def Acx  (z3 : Sg5) : St := [(0, dO 0 0), (3, dO 4 0), (4, dO 5 0), (5, dO 6 0)]
def Aef (x1 : Aa) (z1 : Int × (List Bool)) (z3 : Sg5) : List Res := (.box 90 [DS pI z3.2.1, I z3.2.2.1] :: zs x1 (.box 29 [I x1.An, .os 1, .os 2, .os 3, I x1.Phase, I x1.Aq] :: .box 36 [.os 7, .os 8, .os 9, .os 10] :: .box 36 [.os 11, .os 12, .os 13, .os 14] :: ze [v2_ z1.2, v4_ (Dd z3), v0_ ([] : List Int), v3_ ([] : List Am)]))
def Sy (x1 : Aa) (n4 : Nat) (z4 : (List Int) × Int × (List Int)) : St := [(0, dO 0 0), (3, dO 4 0), (4, dO 5 0), (5, dO 6 0), (89, dS 3), (90, dI (ln x1.Ae)), (91, dI (cnt 0 n4))]
def Zo (x1 : Aa) (z1 : Int × (List Bool)) (z3 : Sg5) (n4 : Nat) (z4 : (List Int) × Int × (List Int)) : List Res := (.box 90 [DS pI z4.1, I z4.2.1] :: zs x1 (.box 29 [I x1.An, .os 1, .os 2, .os 3, I x1.Phase, I x1.Aq] :: .box 36 [.os 7, .os 8, .os 9, .os 10] :: .box 36 [.os 11, .os 12, .os 13, .os 14] :: ze [v2_ z1.2, v4_ (Dd z3), v0_ z4.2.2, v3_ ([] : List Am)]))
def Acw  (z4 : (List Int) × Int × (List Int)) : St := [(0, dO 0 0), (3, dO 4 0), (4, dO 5 0), (5, dO 6 0)]
def Aee (x1 : Aa) (z1 : Int × (List Bool)) (z3 : Sg5) (z4 : (List Int) × Int × (List Int)) : List Res := (.box 90 [DS pI z4.1, I z4.2.1] :: zs x1 (.box 29 [I x1.An, .os 1, .os 2, .os 3, I x1.Phase, I x1.Aq] :: .box 36 [.os 7, .os 8, .os 9, .os 10] :: .box 36 [.os 11, .os 12, .os 13, .os 14] :: ze [v2_ z1.2, v4_ (Dd z3), v0_ z4.2.2, v3_ ([] : List Am)]))
def Ke  (z5 : Int × (List Int) × Int × (List Am)) : St := [(0, dO 0 0), (3, dO 4 0), (4, dO 5 0), (5, dO 6 0), (12, dI z5.1)]
def M2 (x1 : Aa) (z1 : Int × (List Bool)) (z3 : Sg5) (z4 : (List Int) × Int × (List Int)) (z5 : Int × (List Int) × Int × (List Am)) : List Res := (.box 90 [DS pI z5.2.1, I z5.2.2.1] :: zs x1 (.box 29 [I x1.An, .os 1, .os 2, .os 3, I x1.Phase, I x1.Aq] :: .box 36 [.os 7, .os 8, .os 9, .os 10] :: .box 36 [.os 11, .os 12, .os 13, .os 14] :: ze [v2_ z1.2, v4_ (Dd z3), v0_ z4.2.2, v3_ (Dd z5)]))
def Acv  (z5 : Int × (List Int) × Int × (List Am)) : St := [(4, dO 4 0), (5, dO 5 0)]
def Aed (x1 : Aa) (z1 : Int × (List Bool)) (z3 : Sg5) (z4 : (List Int) × Int × (List Int)) (z5 : Int × (List Int) × Int × (List Am)) : List Res := (.box 90 [DS pI z5.2.1, I z5.2.2.1] :: zs x1 (.box 36 [.os 6, .os 7, .os 8, .os 9] :: .box 36 [.os 10, .os 11, .os 12, .os 13] :: ze [v2_ z1.2, v4_ (Dd z3), v0_ z4.2.2, v3_ (Dd z5)]))
set_option maxHeartbeats 4000000 in
theorem A3h (x0 : Aj) (x1 : Aa) (r : Ab × Aj) (h : Vr x0 x1 = some r) : CO 132 [.d (.o 0 0), .agg [I x1.An, .os 1, .os 2, .os 3, I x1.Phase, I x1.Aq]] (.box 90 (d90 x0) :: zs x1 []) (.agg [.os 4, .os 5, .os 6, .os 7]) (.box 90 (d90 r.2) :: zs x1 (zp r.1 [])) := by
 unfold Vr at h
 refine co 134 Tryz.func132 λ C hC => ?_
 refine ws Cf 28 [] [pl Bi x1.Ag] [.ownb 5 0 4 1, .ownb 5 1 120 4, .ownb 5 2 3 1, .ownb 5 3 86 2, .ownb 6 0 4 1, .ownb 6 1 120 4, .ownb 6 2 3 1, .ownb 6 3 86 2] 4 Fy (S4 x1 (0, x0.L, x0.At, ([] : List Bool))) (Zr x1 (0, x0.L, x0.At, ([] : List Bool))) hC [] ?_
 obtain ⟨w0, hm0, hret0, hnext0⟩ := As h
 clear h
 refine wc w0 (Ac0) (Aei x1) ?_ λ z0 hs0 => ?_
 ·refine wb ?_
  refine By (by kernel_rfl) (K5 x1) (S4 x1) (Zr x1) w0 1152921504606846976 (0, x0.L, x0.At, ([] : List Bool)) hm0 rfl rfl λ z0 w0b h hb0 hr0 => ?_
  unfold K5 at h
  rcases cB h with ⟨h1, h⟩ | ⟨h1, h⟩
  ·obtain ⟨y2, h3, h⟩ := Ad h
   obtain ⟨y4, h5, h⟩ := Ad h
   exact wx w0b (S4 x1) (Zr x1) Cf 31 [true] [pc e32 (k32 (⟨z0.2.1, z0.2.2.1⟩ : Aj) 2 _ h3) [0], pa pB 1 h5] [] 4 [0, 1, 2, 3, 4, 5, 6, 7, 8, 9, 10, 15, 12, 13, 14] (w64 (z0.1 + 1), y2.2.L, y2.2.At, y4) hC [pq h1] (sI h).symm
  ·exact wx w0 (Ac0) (Aei x1) Cf 26 [false] [] [] 4 Fy (z0.1, z0.2.1, z0.2.2.1, (Dd z0)) hC [pq h1] (hb0 _ (sI h).symm)
 ·have h := hnext0 _ hs0
  refine ws Cf 24 [] [pl q65 x1.Ae] [] 4 Fy (S3 x1 (0, (Dd z0))) (Zq x1 z0 (0, (Dd z0))) hC [] ?_
  obtain ⟨w1, hm1, hret1, hnext1⟩ := As h
  clear h
  refine wc w1 (Acz) (Aeh x1 z0) ?_ λ z1 hs1 => ?_
  ·refine wb ?_
   refine By (by kernel_rfl) (K4 x1) (S3 x1) (Zq x1 z0) w1 1152921504606846976 (0, (Dd z0)) hm1 rfl rfl λ z1 w1b h hb1 hr1 => ?_
   unfold K4 at h
   rcases cB h with ⟨h6, h⟩ | ⟨h6, h⟩
   ·refine ws Cf 34 [true] [pl Bi x1.Ag] [] 4 Fy (Nl x1 z1 0 (true, z1.2)) (Ro x1 z0 0 (true, z1.2)) hC [pq h6] ?_
    obtain ⟨w2, hm2, hret2, hnext2⟩ := As h
    clear h
    refine wc w2 (Acy x1 z1) (Aeg x1 z0) ?_ λ z2 hs2 => ?_
    ·refine wb ?_
     refine Cc 35 1 rfl rfl λ hl2 => ?_
     refine A8 (by kernel_rfl) (K3 z1) (Nl x1 z1) (Ro x1 z0) w2 x1.Ag (true, z1.2) hm2 rfl rfl (λ z2 hn2 => ?_) λ n2 a2 z2 w2b hi2 hx2 h hb2 hr2 => ?_
     ·clear hm2
      exact wx w2 (Acy x1 z1) (Aeg x1 z0) Cf 26 [false] [] [] 4 Fy (z2.1, z2.2) hC [pq (Ba hl2)] hn2
     ·unfold K3 at h
      obtain ⟨y7, h8, h⟩ := Ad h
      refine wn Cf 32 [true] [pr Bi (Bp hx2 hl2), pn Bi (Bp hx2 hl2), pR pB h8, pN pB h8] [] 4 Fy [0, 3, 4, 5, 6, 7, 8, 30, 31, 35, 36, 37, 57] hC [pq (A9 hi2 hl2)] ?_
      rcases cB h with ⟨h9, h⟩ | ⟨h9, h⟩
      ·obtain ⟨y10, h11, h⟩ := Ad h
       obtain ⟨y12, h13, h⟩ := Ad h
       exact wx w2b (Nl x1 z1 (n2 + 1)) (Ro x1 z0 (n2 + 1)) Cf 27 [true] [pr pB h11, pu pB h11 h13] [] 4 Fy (false, y12) hC [pq h9] (sI h).symm
      ·exact wx w2b (Nl x1 z1 (n2 + 1)) (Ro x1 z0 (n2 + 1)) Cf 25 [false] [] [] 4 Fy (z2.1, z2.2) hC [pq h9] (sI h).symm
    ·have h := hnext2 _ hs2
     exact wx w1b (S3 x1) (Zq x1 z0) Cf 23 [] [] [] 4 Fy (w64 (z1.1 + 1), z2.2) hC [] (sI h).symm
   ·exact wx w1 (Acz) (Aeh x1 z0) Cf 26 [false] [] [] 4 Fy (z1.1, z1.2) hC [pq h6] (hb1 _ (sI h).symm)
  ·have h := hnext1 _ hs1
   refine ws Cf 24 [] [pl Bt x1.Ac] [] 4 Fy (Sz x1 (0, z0.2.1, z0.2.2.1, ([] : List Af))) (Zp x1 z1 (0, z0.2.1, z0.2.2.1, ([] : List Af))) hC [] ?_
   obtain ⟨w3, hm3, hret3, hnext3⟩ := As h
   clear h
   refine wc w3 (Acx) (Aef x1 z1) ?_ λ z3 hs3 => ?_
   ·refine wb ?_
    refine By (by kernel_rfl) (K2 x1) (Sz x1) (Zp x1 z1) w3 1152921504606846976 (0, z0.2.1, z0.2.2.1, ([] : List Af)) hm3 rfl rfl λ z3 w3b h hb3 hr3 => ?_
    unfold K2 at h
    rcases cB h with ⟨h14, h⟩ | ⟨h14, h⟩
    ·obtain ⟨y15, h16, h⟩ := Ad h
     obtain ⟨y17, h18, h⟩ := Ad h
     obtain ⟨y19, h20, h⟩ := Ad h
     obtain ⟨y21, h22, h⟩ := Ad h
     obtain ⟨y23, h24, h⟩ := Ad h
     exact wx w3b (Sz x1) (Zp x1 z1) Cf 31 [true] [pc e40 (k40 (⟨z3.2.1, z3.2.2.1⟩ : Aj) [0, 1, 2, 2, 2, 3] _ h16) [0], pc e32 (k32 y15.2 5 _ h18) [0], pc e40 (k40 y17.2 [5000, 5000, 5005, 4950] _ h20) [0], pc e40 (k40 y19.2 [0, 0, 40, 1800, 3590] _ h22) [0], pa A6 4 h24] [] 4 [0, 1, 2, 3, 4, 5, 6, 7, 8, 9, 10, 11, 15, 13, 14] (w64 (z3.1 + 1), y21.2.L, y21.2.At, y23) hC [pq h14] (sI h).symm
    ·exact wx w3 (Acx) (Aef x1 z1) Cf 26 [false] [] [] 4 Fy (z3.1, z3.2.1, z3.2.2.1, (Dd z3)) hC [pq h14] (hb3 _ (sI h).symm)
   ·have h := hnext3 _ hs3
    refine ws Cf 24 [] [pl q65 x1.Ae] [] 4 Fy (Sy x1 0 (z3.2.1, z3.2.2.1, ([] : List Int))) (Zo x1 z1 z3 0 (z3.2.1, z3.2.2.1, ([] : List Int))) hC [] ?_
    obtain ⟨w4, hm4, hret4, hnext4⟩ := As h
    clear h
    refine wc w4 (Acw) (Aee x1 z1 z3) ?_ λ z4 hs4 => ?_
    ·refine wb ?_
     refine Cc 89 3 rfl rfl λ hl4 => ?_
     refine A8 (by kernel_rfl) K1 (Sy x1) (Zo x1 z1 z3) w4 x1.Ae (z3.2.1, z3.2.2.1, ([] : List Int)) hm4 rfl rfl (λ z4 hn4 => ?_) λ n4 a4 z4 w4b hi4 hx4 h hb4 hr4 => ?_
     ·clear hm4
      exact wx w4 (Acw) (Aee x1 z1 z3) Cf 26 [false] [] [] 4 Fy (z4.1, z4.2.1, z4.2.2) hC [pq (Ba hl4)] hn4
     ·unfold K1 at h
      obtain ⟨y25, h26, h⟩ := Ad h
      obtain ⟨y27, h28, h⟩ := Ad h
      exact wx w4b (Sy x1 (n4 + 1)) (Zo x1 z1 z3 (n4 + 1)) Cf 33 [true] [pr q65 (Bp hx4 hl4), pn q65 (Bp hx4 hl4), ⟨.nz 3, Kk rfl⟩, pc e40 (k40 (⟨z4.1, z4.2.1⟩ : Aj) [a4.Load, a4.Load, a4.Least, w64 (Int.tdiv a4.Load 3)] _ h26) [0], pa pI 1 h28] [] 4 [0, 1, 2, 3, 4, 5, 6, 7, 8, 9, 10, 11, 12, 16, 14] (y25.2.L, y25.2.At, y27) hC [pq (A9 hi4 hl4)] (sI h).symm
    ·have h := hnext4 _ hs4
     refine ws Cf 24 [] [] [] 4 Fy (Ke (1, z4.1, z4.2.1, ([] : List Am))) (M2 x1 z1 z3 z4 (1, z4.1, z4.2.1, ([] : List Am))) hC [] ?_
     obtain ⟨w5, hm5, hret5, hnext5⟩ := As h
     clear h
     refine wc w5 (Acv) (Aed x1 z1 z3 z4) ?_ λ z5 hs5 => ?_
     ·refine wb ?_
      refine By (by kernel_rfl) (K0 x1) (Ke) (M2 x1 z1 z3 z4) w5 7 (1, z4.1, z4.2.1, ([] : List Am)) hm5 rfl rfl λ z5 w5b h hb5 hr5 => ?_
      unfold K0 at h
      rcases cB h with ⟨h29, h⟩ | ⟨h29, h⟩
      ·obtain ⟨y30, h31, h⟩ := Ad h
       rcases cB h with ⟨h32, h⟩ | ⟨h32, h⟩
       ·obtain ⟨y33, h34, h⟩ := Ad h
        refine wn Cf 35 [true, true] [pc e32 (k32 (⟨z5.2.1, z5.2.2.1⟩ : Aj) 5 _ h31) [0], pc e32 (k32 y30.2 4 _ h34) [0], pb e71 (k71 x1 (⟨z5.1, y33.1⟩ : Am) _ rfl)] [] 4 A71 [0, 3, 4, 5, 12, 13, 126] hC [pq h29, pq h32] ?_
        rcases cB h with ⟨h35, h⟩ | ⟨h35, h⟩
        ·obtain ⟨y36, h37, h⟩ := Ad h
         exact wx w5b (Ke) (M2 x1 z1 z3 z4) Cf 25 [true] [pa q86 2 h37] [] 4 [0, 1, 2, 3, 4, 5, 6, 7, 8, 9, 10, 11, 12, 13, 16] (w64 (z5.1 + 1), y33.2.L, y33.2.At, y36) hC [pq h35] (sI h).symm
        ·exact wx w5b (Ke) (M2 x1 z1 z3 z4) Cf 25 [false] [] [] 4 Fy (w64 (z5.1 + 1), y33.2.L, y33.2.At, (Dd z5)) hC [pq h35] (sI h).symm
       ·exact wx w5b (Ke) (M2 x1 z1 z3 z4) Cf 34 [true, false] [pc e32 (k32 (⟨z5.2.1, z5.2.2.1⟩ : Aj) 5 _ h31) [0]] [] 4 Fy (w64 (z5.1 + 1), y30.2.L, y30.2.At, (Dd z5)) hC [pq h29, pq h32] (sI h).symm
      ·exact wx w5 (Acv) (Aed x1 z1 z3 z4) Cf 26 [false] [] [] 4 [0, 1, 2, 3, 5, 6, 7, 8, 9, 10, 11, 12, 13, 14] (z5.1, z5.2.1, z5.2.2.1, (Dd z5)) hC [pq h29] (hb5 _ (sI h).symm)
     ·have h := hnext5 _ hs5
      replace h := sI h
      subst h
      exact wr Cf 23 [] [] [] 4 [0, 1, 2, 3, 10, 11, 12, 13] hC []
theorem A5b : EN 132 := en Tryz.func132
def Du : List Nat := [0, 1, 2, 3, 4, 5, 7, 8, 9, 10, 11, 12, 13, 15, 19, 45, 47, 48, 49, 50, 74, 77, 78, 79, 80, 92, 97, 99, 100, 101, 102, 124, 128, 129, 130, 134, 135, 136, 137, 144, 149]
def Afu (x1 : Ab) (n0 : Nat) (z0 : Unit) : St := [(2, dO 0 0), (3, dO 1 0), (4, dI 0), (47, .d (DS A6 x1.Ac)), (48, dI (ln x1.Ac)), (49, dI (cnt 0 n0))]
def Aqw (x0 : Aa) (x1 : Ab) (n0 : Nat) (z0 : Unit) : List Res := [.box 29 (d29 x0), .box 36 (d36 x1)]
def Ass  (z0 : Unit) : St := [(2, dO 0 0), (3, dO 1 0), (4, dI 0)]
def Avw (x0 : Aa) (x1 : Ab) (z0 : Unit) : List Res := [.box 29 (d29 x0), .box 36 (d36 x1)]
def Aft (x1 : Ab) (n1 : Nat) (z1 : Unit) : St := [(2, dO 0 0), (3, dO 1 0), (4, dI 0), (77, .d (DS pI x1.Ar)), (78, dI (ln x1.Ar)), (79, dI (cnt 0 n1))]
def Aqv (x0 : Aa) (x1 : Ab) (n1 : Nat) (z1 : Unit) : List Res := [.box 29 (d29 x0), .box 36 (d36 x1)]
def Asr  (z1 : Unit) : St := [(2, dO 0 0), (3, dO 1 0), (4, dI 0)]
def Avv (x0 : Aa) (x1 : Ab) (z1 : Unit) : List Res := [.box 29 (d29 x0), .box 36 (d36 x1)]
def Afs (x1 : Ab) (n2 : Nat) (z2 : Unit) : St := [(2, dO 0 0), (3, dO 1 0), (4, dI 0), (99, .d (DS q86 x1.Ao)), (100, dI (ln x1.Ao)), (101, dI (cnt 0 n2))]
def Aqu (x0 : Aa) (x1 : Ab) (n2 : Nat) (z2 : Unit) : List Res := [.box 29 (d29 x0), .box 36 (d36 x1)]
def Asq  (z2 : Unit) : St := [(2, dO 0 0), (3, dO 1 0), (4, dI 0)]
def Avu (x0 : Aa) (x1 : Ab) (z2 : Unit) : List Res := [.box 29 (d29 x0), .box 36 (d36 x1)]
def Afr (x0 : Aa) (z3 : Int) : St := [(2, dO 0 0), (3, dO 1 0), (4, dI 0), (128, dI (ln x0.Ae)), (129, dI z3)]
def Aqt (x0 : Aa) (x1 : Ab) (z3 : Int) : List Res := [.box 29 (d29 x0), .box 36 (d36 x1)]
def Asp  (z3 : Int) : St := [(4, dI 0)]
def Avt  (z3 : Int) : List Res := []
def jN (x0 : Aa) (z3 : Int) (y14 : (List Int)) (n4 : Nat) (z4 : Int) : St := [(2, dO 0 0), (3, dO 1 0), (4, dI 0), (13, dI z4), (128, dI (ln x0.Ae)), (129, dI z3), (134, dS 2), (135, dI (ln y14)), (136, dI (cnt 0 n4))]
def Afb (x0 : Aa) (x1 : Ab) (y14 : (List Int)) (n4 : Nat) (z4 : Int) : List Res := [.box 29 (d29 x0), .box 36 (d36 x1), v0_ y14]
def Aso (x0 : Aa) (z3 : Int) (z4 : Int) : St := [(2, dO 0 0), (3, dO 1 0), (4, dI 0), (13, dI z4), (128, dI (ln x0.Ae)), (129, dI z3)]
def Avs (x0 : Aa) (x1 : Ab) (z4 : Int) : List Res := [.box 29 (d29 x0), .box 36 (d36 x1)]
set_option maxHeartbeats 4000000 in
theorem k53 (x0 : Aa) (x1 : Ab) (r : Int) (h : F53 x0 x1 = some r) : CO 53 [.agg (d29 x0), .agg (d36 x1)] [] (.d (I r)) [] := by
 unfold F53 at h
 refine co 151 Tryz.func53 λ C hC => ?_
 obtain ⟨y1, h2, h⟩ := Ad h
 rcases cB h with ⟨h3, h⟩ | ⟨h3, h⟩
 ·replace h := sI h
  subst h
  exact wr Du 31 [true] [pc Ap7 (Aps x0 _ h2) []] [] 0 [] hC [pq h3]
 ·refine wn Du 33 [false] [pc Ap7 (Aps x0 _ h2) [], pl pB x1.Ah, pl Bi x0.Ag, pL_ [(((ln x1.Ah) != (ln x0.Ag)), false)] A6 x1.Ac, pL_ [(((ln x1.Ah) != (ln x0.Ag)), false)] Bt x0.Ac, pL_ [((((ln x1.Ah) != (ln x0.Ag)) || ((ln x1.Ac) != (ln x0.Ac))), false)] pI x1.Ar, pL_ [((((ln x1.Ah) != (ln x0.Ag)) || ((ln x1.Ac) != (ln x0.Ac))), false)] q65 x0.Ae] [] 0 [0, 1] [2, 3, 4, 45] hC [pq h3] ?_
  rcases cB h with ⟨h4, h⟩ | ⟨h4, h⟩
  ·replace h := sI h
   subst h
   exact wr Du 24 [true] [] [] 0 [] hC [pq h4]
  ·refine ws Du 26 [false] [pl A6 x1.Ac] [] 0 [0, 1] (Afu x1 0 ()) (Aqw x0 x1 0 ()) hC [pq h4] ?_
   obtain ⟨w0, hm0, hret0, hnext0⟩ := As h
   clear h
   refine wc w0 (Ass) (Avw x0 x1) ?_ λ z0 hs0 => ?_
   ·refine wb ?_
    refine Bm 47 rfl λ hl0 => ?_
    refine A8 (by kernel_rfl) vR (Afu x1) (Aqw x0 x1) w0 x1.Ac () hm0 rfl rfl (λ z0 hn0 => ?_) λ n0 a0 z0 w0b hi0 hx0 h hb0 hr0 => ?_
    ·clear hm0
     exact wx w0 (Ass) (Avw x0 x1) Du 26 [false] [] [] 0 [0, 1] () hC [pq (Ba hl0)] hn0
    ·unfold vR at h
     refine wn Du 32 [true] [pt hx0 hl0, pc Fa (E8 a0.State 0 3 _ rfl) [], ⟨.when [(!(B4 a0.State 0 3), false)] (.call 112 [dI a0.Since, dI 0, dI 2147483648] [] (dB (B4 a0.Since 0 2147483648)) [] []), λ hg => ⟨Fa, (E8 a0.Since 0 2147483648 _ rfl)⟩⟩, ⟨.when [(((!(B4 a0.State 0 3)) || (!(B4 a0.Since 0 2147483648))), false)] (.call 112 [dI a0.Aq, dI 0, dI 6000] [] (dB (B4 a0.Aq 0 6000)) [] []), λ hg => ⟨Fa, (E8 a0.Aq 0 6000 _ rfl)⟩⟩, ⟨.when [((((!(B4 a0.State 0 3)) || (!(B4 a0.Since 0 2147483648))) || (!(B4 a0.Aq 0 6000))), false)] (.call 112 [dI a0.Phase, dI 0, dI 3599] [] (dB (B4 a0.Phase 0 3599)) [] []), λ hg => ⟨Fa, (E8 a0.Phase 0 3599 _ rfl)⟩⟩] [] 0 [0, 1] [2, 3, 4, 47, 48, 49, 74] hC [pq (A9 hi0 hl0)] ?_
     rcases cB h with ⟨h5, h⟩ | ⟨h5, h⟩
     ·have hq := hret0 _ (hr0 _ (sI h).symm)
      replace hq := sI hq
      subst hq
      exact wr Du 24 [true] [] [] 0 [] hC [pq h5]
     ·exact wx w0b (Afu x1 (n0 + 1)) (Aqw x0 x1 (n0 + 1)) Du 25 [false] [] [] 0 [0, 1] () hC [pq h5] (sI h).symm
   ·have h := hnext0 _ hs0
    refine ws Du 24 [] [pl pI x1.Ar] [] 0 [0, 1] (Aft x1 0 ()) (Aqv x0 x1 0 ()) hC [] ?_
    obtain ⟨w1, hm1, hret1, hnext1⟩ := As h
    clear h
    refine wc w1 (Asr) (Avv x0 x1) ?_ λ z1 hs1 => ?_
    ·refine wb ?_
     refine Bm 77 rfl λ hl1 => ?_
     refine A8 (by kernel_rfl) (vQ x0) (Aft x1) (Aqv x0 x1) w1 x1.Ar () hm1 rfl rfl (λ z1 hn1 => ?_) λ n1 a1 z1 w1b hi1 hx1 h hb1 hr1 => ?_
     ·clear hm1
      exact wx w1 (Asr) (Avv x0 x1) Du 26 [false] [] [] 0 [0, 1] () hC [pq (Ba hl1)] hn1
     ·unfold vQ at h
      obtain ⟨y6, h7, h⟩ := Ad h
      refine wn Du 32 [true] [pt hx1 hl1, pr q65 h7, pc Fa (E8 a1 0 y6.Load _ rfl) []] [] 0 [0, 1] [2, 3, 4, 77, 78, 79, 92] hC [pq (A9 hi1 hl1)] ?_
      rcases cB h with ⟨h8, h⟩ | ⟨h8, h⟩
      ·have hq := hret1 _ (hr1 _ (sI h).symm)
       replace hq := sI hq
       subst hq
       exact wr Du 24 [true] [] [] 0 [] hC [pq h8]
      ·exact wx w1b (Aft x1 (n1 + 1)) (Aqv x0 x1 (n1 + 1)) Du 25 [false] [] [] 0 [0, 1] () hC [pq h8] (sI h).symm
    ·have h := hnext1 _ hs1
     rcases cB h with ⟨h9, h⟩ | ⟨h9, h⟩
     ·replace h := sI h
      subst h
      exact wr Du 27 [true] [pl q86 x1.Ao] [] 0 [] hC [pq h9]
     ·refine ws Du 29 [false] [pl q86 x1.Ao, pl q86 x1.Ao] [] 0 [0, 1] (Afs x1 0 ()) (Aqu x0 x1 0 ()) hC [pq h9] ?_
      obtain ⟨w2, hm2, hret2, hnext2⟩ := As h
      clear h
      refine wc w2 (Asq) (Avu x0 x1) ?_ λ z2 hs2 => ?_
      ·refine wb ?_
       refine Bm 99 rfl λ hl2 => ?_
       refine A8 (by kernel_rfl) (vP x0 x1) (Afs x1) (Aqu x0 x1) w2 x1.Ao () hm2 rfl rfl (λ z2 hn2 => ?_) λ n2 a2 z2 w2b hi2 hx2 h hb2 hr2 => ?_
       ·clear hm2
        exact wx w2 (Asq) (Avu x0 x1) Du 26 [false] [] [] 0 [0, 1] () hC [pq (Ba hl2)] hn2
       ·unfold vP at h
        obtain ⟨y10, h11, h⟩ := Ad h
        refine wn Du 32 [true] [pt hx2 hl2, pc e71 (k71 x0 a2 _ rfl) [], pR q86 h11, ⟨.when [(!(F71 x0 a2), false), (decide ((cnt 0 n2) > 0), true)] (.call 113 [.agg (d86 y10), .agg (d86 a2)] [] (dB (Abo y10 a2)) [] []), λ hg => ⟨A_y, (A9g y10 a2 _ rfl)⟩⟩] [] 0 [0, 1] [2, 3, 4, 99, 100, 101, 124] hC [pq (A9 hi2 hl2)] ?_
        rcases cB h with ⟨h12, h⟩ | ⟨h12, h⟩
        ·have hq := hret2 _ (hr2 _ (sI h).symm)
         replace hq := sI hq
         subst hq
         exact wr Du 24 [true] [] [] 0 [] hC [pq h12]
        ·exact wx w2b (Afs x1 (n2 + 1)) (Aqu x0 x1 (n2 + 1)) Du 25 [false] [] [] 0 [0, 1] () hC [pq h12] (sI h).symm
      ·have h := hnext2 _ hs2
       refine ws Du 24 [] [pl q65 x0.Ae] [] 0 [0, 1] (Afr x0 0) (Aqt x0 x1 0) hC [] ?_
       obtain ⟨w3, hm3, hret3, hnext3⟩ := As h
       clear h
       refine wc w3 (Asp) (Avt) ?_ λ z3 hs3 => ?_
       ·refine wb ?_
        refine By (by kernel_rfl) (vO x0 x1) (Afr x0) (Aqt x0 x1) w3 1152921504606846976 0 hm3 rfl rfl λ z3 w3b h hb3 hr3 => ?_
        unfold vO at h
        rcases cB h with ⟨h13, h⟩ | ⟨h13, h⟩
        ·obtain ⟨y14, h15, h⟩ := Ad h
         refine ws Du 35 [true] [pc e77 (k77 x0 3 z3 _ h15) [], pl pI y14] [] 0 n3_ (jN x0 z3 y14 0 0) (Afb x0 x1 y14 0 0) hC [pq h13] ?_
         obtain ⟨w4, hm4, hret4, hnext4⟩ := As h
         clear h
         refine wc w4 (Aso x0 z3) (Avs x0 x1) ?_ λ z4 hs4 => ?_
         ·refine wb ?_
          refine Cc 134 2 rfl rfl λ hl4 => ?_
          refine A8 (by kernel_rfl) (vN x1) (jN x0 z3 y14) (Afb x0 x1 y14) w4 y14 0 hm4 rfl rfl (λ z4 hn4 => ?_) λ n4 a4 z4 w4b hi4 hx4 h hb4 hr4 => ?_
          ·clear hm4
           exact wx w4 (Aso x0 z3) (Avs x0 x1) Du 26 [false] [] [] 0 [0, 1] z4 hC [pq (Ba hl4)] hn4
          ·unfold vN at h
           obtain ⟨y16, h17, h⟩ := Ad h
           rcases cB h with ⟨h18, h⟩ | ⟨h18, h⟩
           ·exact wx w4b (jN x0 z3 y14 (n4 + 1)) (Afb x0 x1 y14 (n4 + 1)) Du 36 [true, true] [pr pI (Bp hx4 hl4), pn pI (Bp hx4 hl4), pr pB h17] [] 0 n3_ (w64 (z4 + 1)) hC [pq (A9 hi4 hl4), pq h18] (sI h).symm
           ·exact wx w4b (jN x0 z3 y14 (n4 + 1)) (Afb x0 x1 y14 (n4 + 1)) Du 36 [true, false] [pr pI (Bp hx4 hl4), pn pI (Bp hx4 hl4), pr pB h17] [] 0 n3_ z4 hC [pq (A9 hi4 hl4), pq h18] (sI h).symm
         ·have h := hnext4 _ hs4
          rcases cB h with ⟨h19, h⟩ | ⟨h19, h⟩
          ·have hq := hret3 _ (hr3 _ (sI h).symm)
           replace hq := sI hq
           subst hq
           exact wr Du 26 [true] [] [] 0 [] hC [pq h19]
          ·exact wx w3b (Afr x0) (Aqt x0 x1) Du 27 [false] [] [] 0 [0, 1] (w64 (z3 + 1)) hC [pq h19] (sI h).symm
        ·exact wx w3 (Asp) (Avt) Du 26 [false] [] [] 0 [] z3 hC [pq h13] (hb3 _ (sI h).symm)
       ·have h := hnext3 _ hs3
        replace h := sI h
        subst h
        exact wr Du 23 [] [] [] 0 [] hC []
theorem e53 : EN 53 := en Tryz.func53
def F0 : List Nat := [0, 1, 3, 4, 5, 10, 11, 21, 31, 44, 59]
def Yb (y1 : Int × Aj) (z0 : Bool) : St := [(0, dO 0 0), (3, dO 4 0), (4, dO 5 0), (5, dO 6 0), (10, dI y1.1), (11, dB z0)]
def Y8 (x1 : Aa) (y1 : Int × Aj) (z0 : Bool) : List Res := (.box 90 (d90 y1.2) :: zs x1 [.box 29 [I x1.An, .os 1, .os 2, .os 3, I x1.Phase, I x1.Aq], .box 49 [I 0, I 0, I 0], .box 49 [I y1.1, I 0, I 0]])
def Ya (y1 : Int × Aj) (z1 : Bool) : St := [(0, dO 0 0), (3, dO 4 0), (4, dO 5 0), (5, dO 6 0), (10, dI y1.1), (21, dB z1)]
def Y7 (x1 : Aa) (y1 : Int × Aj) (z1 : Bool) : List Res := (.box 90 (d90 y1.2) :: zs x1 [.box 29 [I x1.An, .os 1, .os 2, .os 3, I x1.Phase, I x1.Aq], .box 49 [I 0, I 0, I 0], .box 49 [I y1.1, I 0, I 0]])
theorem A6p (x0 : Aj) (x1 : Aa) (r : Ap × Aj) (h : vV x0 x1 = some r) : CO 33 [.d (.o 0 0), .agg [I x1.An, .os 1, .os 2, .os 3, I x1.Phase, I x1.Aq]] (.box 90 (d90 x0) :: zs x1 []) (.agg (d49 r.1)) (.box 90 (d90 r.2) :: zs x1 []) := by
 unfold vV at h
 refine co 69 Tryz.func33 λ C hC => ?_
 obtain ⟨y1, h2, h⟩ := Ad h
 refine wn F0 32 [] [pc e78 (k78 x0 1 9 _ h2) [0]] [] 4 n7_ [0, 3, 4, 5, 10, 11] hC [] ?_
 obtain ⟨w0, h, hret0, hnext0⟩ := As h
 refine wc w0 (Yb y1) (Y8 x1 y1) ?_ λ z0 hs0 => ?_
 ·unfold Z0 at h
  rcases cB h with ⟨h3, h⟩ | ⟨h3, h⟩
  ·exact wx w0 (Yb y1) (Y8 x1 y1) F0 23 [true] [] [] 4 n7_ (y1.1 == 1) hC [pq h3] (sI h).symm
  ·exact wx w0 (Yb y1) (Y8 x1 y1) F0 23 [false] [] [] 4 n7_ (y1.1 == 2) hC [pq h3] (sI h).symm
 ·clear h; have h := hnext0 _ hs0
  rcases cB h with ⟨h4, h⟩ | ⟨h4, h⟩
  ·obtain ⟨y5, h6, h⟩ := Ad h
   replace h := sI h
   subst h
   exact wr F0 26 [true] [pl Bi x1.Ag, pc e32 (k32 y1.2 (w64 ((ln x1.Ag) + 1)) _ h6) [0]] [] 4 n4_ hC [pq h4]
  ·refine wn F0 25 [false] [] [] 4 n7_ [0, 3, 4, 5, 10, 21] hC [pq h4] ?_
   obtain ⟨w1, h, hret1, hnext1⟩ := As h
   refine wc w1 (Ya y1) (Y7 x1 y1) ?_ λ z1 hs1 => ?_
   ·unfold Zz at h
    rcases cB h with ⟨h7, h⟩ | ⟨h7, h⟩
    ·exact wx w1 (Ya y1) (Y7 x1 y1) F0 23 [true] [] [] 4 n7_ (y1.1 == 3) hC [pq h7] (sI h).symm
    ·exact wx w1 (Ya y1) (Y7 x1 y1) F0 23 [false] [] [] 4 n7_ (y1.1 == 4) hC [pq h7] (sI h).symm
   ·clear h; have h := hnext1 _ hs1
    rcases cB h with ⟨h8, h⟩ | ⟨h8, h⟩
    ·obtain ⟨y9, h10, h⟩ := Ad h
     replace h := sI h
     subst h
     exact wr F0 26 [true] [pl Bt x1.Ac, pc e32 (k32 y1.2 (w64 ((ln x1.Ac) + 1)) _ h10) [0]] [] 4 n4_ hC [pq h8]
    ·rcases cB h with ⟨h11, h⟩ | ⟨h11, h⟩
     ·obtain ⟨y12, h13, h⟩ := Ad h
      obtain ⟨y14, h15, h⟩ := Ad h
      replace h := sI h
      subst h
      exact wr F0 29 [false, true] [pl q65 x1.Ae, pc e32 (k32 y1.2 (w64 ((ln x1.Ae) + 1)) _ h13) [0], pc e40 (k40 y12.2 [0, 5, 20, 41] _ h15) [0]] [] 4 n4_ hC [pq h8, pq h11]
     ·rcases cB h with ⟨h16, h⟩ | ⟨h16, h⟩
      ·obtain ⟨y17, h18, h⟩ := Ad h
       obtain ⟨y19, h20, h⟩ := Ad h
       replace h := sI h
       subst h
       exact wr F0 32 [false, false, true] [pl Bt x1.Ac, pc e32 (k32 y1.2 (w64 ((ln x1.Ac) + 1)) _ h18) [0], pc e32 (k32 y17.2 (w64 (x1.An + 1)) _ h20) [0]] [] 4 n4_ hC [pq h8, pq h11, pq h16]
      ·rcases cB h with ⟨h21, h⟩ | ⟨h21, h⟩
       ·obtain ⟨y22, h23, h⟩ := Ad h
        obtain ⟨y24, h25, h⟩ := Ad h
        replace h := sI h
        subst h
        exact wr F0 38 [false, false, false, true, true] [pc e78 (k78 y1.2 1 4 _ h23) [0], pc e32 (k32 y22.2 4 _ h25) [0]] [] 4 n4_ hC [pq h8, pq h11, pq h16, pq h21, pq h21]
       ·rcases cB h with ⟨h26, h⟩ | ⟨h26, h⟩
        ·obtain ⟨y27, h28, h⟩ := Ad h
         obtain ⟨y29, h30, h⟩ := Ad h
         replace h := sI h
         subst h
         exact wr F0 38 [false, false, false, false, true] [pc e78 (k78 y1.2 1 4 _ h28) [0], pc e32 (k32 y27.2 4 _ h30) [0]] [] 4 n4_ hC [pq h8, pq h11, pq h16, pq h21, pq h26]
        ·replace h := sI h
         subst h
         exact wr F0 38 [false, false, false, false, false] [] [] 4 n4_ hC [pq h8, pq h11, pq h16, pq h21, pq h26]
theorem A7a : EN 33 := en Tryz.func33
def Hn : List Nat := [0, 1, 2, 3, 4, 6, 16, 17, 18, 19, 28, 29, 44, 71]
def Oz (x0 : Aa) (n0 : Nat) (z0 : (List Int) × (List (List Int))) : St := [(1, dO 0 0), (2, dB false), (3, dS 1), (4, dS 2), (16, .d (DS Bi x0.Ag)), (17, dI (ln x0.Ag)), (18, dI (cnt 0 n0))]
def Ul (x0 : Aa) (n0 : Nat) (z0 : (List Int) × (List (List Int))) : List Res := [.box 29 (d29 x0), v0_ z0.1, .dsl 22 1 3, .gh 1 [(3, 1)] (z0.2.map (pL pI)) none]
def Amu  (z0 : (List Int) × (List (List Int))) : St := [(2, dB false), (3, dS 0), (4, dS 1)]
def Aoj  (z0 : (List Int) × (List (List Int))) : List Res := [v0_ z0.1, .dsl 22 1 2, .gh 1 [(3, 1)] (z0.2.map (pL pI)) none]
theorem A85 (x0 : Aa) (r : Bool) (h : Ak1 x0 = some r) : CO 136 [.agg (d29 x0)] [] (.d (Bo r)) [] := by
 unfold Ak1 at h
 refine co 116 Tryz.func136 λ C hC => ?_
 obtain ⟨y1, h2, h⟩ := Ad h
 obtain ⟨y3, h4, h⟩ := Ad h
 refine ws Hn 28 [] [⟨.flts [v0_ y1, .zsl 22 1 (y3.map (pL pI))], trivial⟩, pl Bt x0.Ac, ⟨.fltm 1 (.room ((ln x0.Ac) * (8 + 1)) (List.replicate (Int.toNat (ln x0.Ac)) (pI 0)) (y1.map pI)) (v0_ y1) (v0_ y1), ⟨G7 h2, rfl⟩⟩, pl q65 x0.Ae, ⟨.fltm 2 (.roomZ ((ln x0.Ae) * (24 + 1)) (List.replicate (Int.toNat (ln x0.Ae)) ((pL pI) ([] : List Int))) (y3.map (pL pI))) (.zsl 22 1 (y3.map (pL pI))) (.zsl 22 1 (y3.map (pL pI))), ⟨Ti h4, rfl⟩⟩, pl Bi x0.Ag] [.deep 2 [(3, 1)]] 0 n4_ (Oz x0 0 (y1, y3)) (Ul x0 0 (y1, y3)) hC [] ?_
 obtain ⟨w0, hm0, hret0, hnext0⟩ := As h
 clear h
 refine wc w0 (Amu) (Aoj) ?_ λ z0 hs0 => ?_
 ·refine wb ?_
  refine Bm 16 rfl λ hl0 => ?_
  refine A8 (by kernel_rfl) (Xg x0) (Oz x0) (Ul x0) w0 x0.Ag (y1, y3) hm0 rfl rfl (λ z0 hn0 => ?_) λ n0 a0 z0 w0b hi0 hx0 h hb0 hr0 => ?_
  ·clear hm0
   exact wx w0 (Amu) (Aoj) Hn 26 [false] [] [] 0 [1, 2, 3] (z0.1, z0.2) hC [pq (Ba hl0)] hn0
  ·unfold Xg at h
   refine wn Hn 33 [true] [pt hx0 hl0, pc e99 (k99 a0.A 0 (w64 (x0.An - 1)) _ rfl) []] [] 0 n5_ [1, 2, 3, 4, 6, 16, 17, 18, 28] hC [pq (A9 hi0 hl0)] ?_
   rcases cB h with ⟨h5, h⟩ | ⟨h5, h⟩
   ·have hq := hret0 _ (hr0 _ (sI h).symm)
    replace hq := sI hq
    subst hq
    exact wr Hn 24 [true] [] [] 0 [] hC [pq h5]
   ·refine wn Hn 26 [false] [⟨.when [((a0.Kind == 1), true)] (.call 99 [dI a0.B, dI (w64 (a0.A + 1)), dI (w64 (x0.An - 1))] [] (dB (F99 a0.B (w64 (a0.A + 1)) (w64 (x0.An - 1)))) [] []), λ hg => ⟨e99, (k99 a0.B (w64 (a0.A + 1)) (w64 (x0.An - 1)) _ rfl)⟩⟩] [] 0 n5_ [1, 2, 3, 4, 6, 16, 17, 18, 29] hC [pq h5] ?_
    rcases cB h with ⟨h6, h⟩ | ⟨h6, h⟩
    ·exact wx w0b (Oz x0 (n0 + 1)) (Ul x0 (n0 + 1)) Hn 26 [true] [] [] 0 n4_ (z0.1, z0.2) hC [pq h6] (sI h).symm
    ·obtain ⟨y7, h8, h⟩ := Ad h
     refine wn Hn 24 [false] [pL_ [((a0.Kind == 2), true)] pI z0.1, ⟨.when [((a0.Kind == 2), true)] (.call 99 [dI a0.B, dI 0, dI (w64 ((ln z0.1) - 1))] [] (.d (Bo (F99 a0.B 0 (w64 ((ln z0.1) - 1))))) [] []), λ hg => ⟨e99, (k99 a0.B 0 (w64 ((ln z0.1) - 1)) _ rfl)⟩⟩, pR pI h8, pN pI h8] [] 0 n5_ [1, 2, 3, 4, 6, 16, 17, 18, 44] hC [pq h6] ?_
     rcases cB h with ⟨h9, h⟩ | ⟨h9, h⟩
     ·obtain ⟨y10, h11, h⟩ := Ad h
      obtain ⟨y12, h13, h⟩ := Ad h
      exact wx w0b (Oz x0 (n0 + 1)) (Ul x0 (n0 + 1)) Hn 26 [true] [pr pI h11, pn pI h11, pr pI h11, pu pI h11 h13] [] 0 n4_ (y12, z0.2) hC [pq h9] (sI h).symm
     ·obtain ⟨y14, h15, h⟩ := Ad h
      obtain ⟨y16, h17, h⟩ := Ad h
      refine wn Hn 24 [false] [pL_ [((a0.Kind == 3), true)] (pL pI) z0.2, ⟨.when [((a0.Kind == 3), true)] (.call 99 [dI a0.B, dI 0, dI (w64 ((ln z0.2) - 1))] [] (.d (Bo (F99 a0.B 0 (w64 ((ln z0.2) - 1))))) [] []), λ hg => ⟨e99, (k99 a0.B 0 (w64 ((ln z0.2) - 1)) _ rfl)⟩⟩, pR (pL pI) h15, pN (pL pI) h15, ⟨.when [(((a0.Kind == 3) && (F99 a0.B 0 (w64 ((ln z0.2) - 1)))), true)] (.callB 190 [.d (DS pI y14), dI a0.A] (dB y16) (z0.2.map (pL pI)) (Int.toNat a0.B) ((pL pI) y14)), λ hg => Axa ⟨Yv, (Yo y14 a0.A _ (A_ h17 hg))⟩ (A_ h15 hg)⟩] [] 0 n5_ [1, 2, 3, 4, 6, 16, 17, 18, 71] hC [pq h9] ?_
      rcases cB h with ⟨h18, h⟩ | ⟨h18, h⟩
      ·obtain ⟨y19, h20, h⟩ := Ad h
       obtain ⟨y21, h22, h⟩ := Ad h
       obtain ⟨y23, h24, h⟩ := Ad h
       exact wx w0b (Oz x0 (n0 + 1)) (Ul x0 (n0 + 1)) Hn 26 [true] [pr (pL pI) h20, pn (pL pI) h20, ⟨.appD (z0.2.map (pL pI)) (Int.toNat a0.B) ((pL pI) y19) 0 (y19.map pI) ([a0.A].map pI) 1 (((y19.map pI).length + ([a0.A].map pI).length) * (8 + 1)) (y21.map pI), Im 1 (λ _ => rfl) h20 rfl h22⟩, pr (pL pI) h20, ⟨.updD (z0.2.map (pL pI)) (Int.toNat a0.B) (Int.toNat a0.B) ((pL pI) y19) ((pL pI) y21) (y23.map (pL pI)), Ie h20 h24⟩] [] 0 [0, 1, 2, 8] (z0.1, y23) hC [pq h18] (sI h).symm
      ·have hq := hret0 _ (hr0 _ (sI h).symm)
       replace hq := sI hq
       subst hq
       exact wr Hn 24 [false] [] [] 0 [] hC [pq h18]
 ·have h := hnext0 _ hs0
  refine wn Hn 1 [] [] [.flat 1] 0 [0, 1] [2, 3, 4] hC [] ?_
  obtain ⟨y27, h28, h⟩ := Ad h
  obtain ⟨y29, h30, h⟩ := Ad h
  replace h := sI h
  subst h
  exact wr Hn 22 [] [pb Yv (Yo z0.1 0 _ h28), pv A4l (λ hg => A2r z0.2 _ (A_ h30 hg))] [] 0 [] hC []
theorem A_n : EN 136 := en Tryz.func136
def L6 : List Nat := [0, 1, 4, 5, 7, 8, 9, 16]
def Su (x0 : List Af) (n0 : Nat) (z0 : Unit) : St := [(0, .d (DS A6 x0)), (1, .d (.fn (.func 97) [] [])), (4, dI 0), (7, dI (ln x0)), (8, dI (cnt 0 n0))]
def Zk  (n0 : Nat) (z0 : Unit) : List Res := []
def Acp  (z0 : Unit) : St := [(4, dI 0)]
def Ad8  (z0 : Unit) : List Res := []
theorem A26 (x0 : List Af) (r : Int) (h : yK x0 = some r) : CO 155 [.d (DS A6 x0), .d (.fn (.func 97) [] [])] [] (.d (I r)) [] := by
 unfold yK at h
 refine co 19 Tryz.func155 λ C hC => ?_
 refine ws L6 26 [] [pl A6 x0] [] 0 [] (Su x0 0 ()) (Zk 0 ()) hC [] ?_
 obtain ⟨w0, hm0, hret0, hnext0⟩ := As h
 clear h
 refine wc w0 (Acp) (Ad8) ?_ λ z0 hs0 => ?_
 ·refine wb ?_
  refine Bm 0 rfl λ hl0 => ?_
  refine A8 (by kernel_rfl) Vk (Su x0) (Zk) w0 x0 () hm0 rfl rfl (λ z0 hn0 => ?_) λ n0 a0 z0 w0b hi0 hx0 h hb0 hr0 => ?_
  ·clear hm0
   exact wx w0 (Acp) (Ad8) L6 26 [false] [] [] 0 [] () hC [pq (Ba hl0)] hn0
  ·unfold Vk at h
   refine wn L6 32 [true] [pt hx0 hl0, pc e97 (k97 a0 _ rfl) []] [] 0 [] [0, 1, 4, 5, 7, 8, 16] hC [pq (A9 hi0 hl0)] ?_
   rcases cB h with ⟨h1, h⟩ | ⟨h1, h⟩
   ·have hq := hret0 _ (hr0 _ (sI h).symm)
    replace hq := sI hq
    subst hq
    exact wr L6 24 [true] [] [] 0 [] hC [pq h1]
   ·exact wx w0b (Su x0 (n0 + 1)) (Zk (n0 + 1)) L6 25 [false] [] [] 0 [] () hC [pq h1] (sI h).symm
 ·have h := hnext0 _ hs0
  replace h := sI h
  subst h
  exact wr L6 23 [] [] [] 0 [] hC []
theorem A40 : EN 155 := en Tryz.func155
theorem A6m (x0 : List Az) (x1c0c0 : A0) (r : Bool × A0) (h : vJ x0 x1c0c0 = some r) : CO 61 [.d (DS B2 x0), .d (.fn (.func 62) [] [.o 0 0])] [.box 126 [.fn (.func 58) [] [.o 1 0]], .box 40 (d40 x1c0c0)] (.d (Bo r.1)) [.box 126 [.fn (.func 58) [] [.o 1 0]], .box 40 (d40 r.2)] := by
 unfold vJ at h
 refine co 9 Tryz.func61 λ C hC => ?_
 obtain ⟨y1, h2, h⟩ := Ad h
 replace h := sI h
 subst h
 exact wr [0, 1, 4] 25 [] [pc A5c (A3i x0 x1c0c0 _ h2) [0, 1]] [] 2 [0, 1] hC []
theorem A67 : EN 61 := en Tryz.func61
theorem Ahb (x0 : A3) (x1 : Int) (r : Bool) (h : Ji x0 x1 = some r) : CO 221 [.d (.ip [.v (.int .i64 x0.Al.An), .s (x0.Al.Ag.map Bi), .s (x0.Al.Ac.map Bt), .s (x0.Al.Ae.map q65), .v (.int .i64 x0.Al.Phase), .v (.int .i64 x0.Al.Aq), .s (x0.Au.Ah.map pB), .s (x0.Au.Ac.map A6), .s (x0.Au.Ar.map pI), .s (x0.Au.Ao.map q86), .v (.int .i64 x0.time)]), .d (I x1)] [] (.d (Bo r)) [] := by
 unfold Ji at h
 refine co 19 Tryz.func221 λ C hC => ?_
 obtain ⟨y1, h2, h⟩ := Ad h
 obtain ⟨y3, h4, h⟩ := Ad h
 replace h := sI h
 subst h
 exact wr [0, 1, 4] 25 [] [pc A9o (A76 x0.Al x1 _ h2) [], pr pB h4] [] 0 [] hC []
theorem Ah6 : EN 221 := en Tryz.func221
theorem qO (x0 : Int) (x1 : Int) (x2 : Ax) (r : Bool × Ax) (h : Ks x0 x1 x2 = some r) : CO 231 [.d (I x0), .d (I x1), .d (.o 0 0)] (.box 211 [.o 1 0] :: .box 235 (zb x2.Al [.os 2, .os 3, .os 4, .os 5, .os 6]) :: zp x2.Au [v6_ x2.acts]) (.d (Bo r.1)) (.box 211 [.o 1 0] :: .box 235 (zb r.2.Al [.os 2, .os 3, .os 4, .os 5, .os 6]) :: zp r.2.Au [v6_ r.2.acts]) := by
 unfold Ks at h
 refine co 13 Tryz.func231 λ C hC => ?_
 obtain ⟨y1, h2, h⟩ := Ad h
 replace h := sI h
 subst h
 exact wr [0, 1, 2, 5] 25 [] [pb Jy (Ju x2.Au x0 x1 _ h2)] [] 7 n7_ hC []
theorem uA : EN 231 := en Tryz.func231
def Ip : List Nat := [0, 1, 2, 3, 8, 9, 14, 34]
def Si (x1 : Int) (x2 : Int) (z0 : Int × (List Int)) : St := [(0, dS 0), (1, dI x1), (2, dI x2), (3, .d (.fn (.func 233) [] [.o 1 0])), (8, dI z0.1)]
def Y_ (x3c0 : Aa) (z0 : Int × (List Int)) : List Res := [v0_ z0.2, .box 29 (d29 x3c0)]
def Ab4  (z0 : Int × (List Int)) : St := []
def Adn (x3c0 : Aa) (z0 : Int × (List Int)) : List Res := [v0_ z0.2, .box 29 (d29 x3c0)]
def Sh (x1 : Int) (x2 : Int) (z0 : Int × (List Int)) (z1 : Int × (List Int)) : St := [(0, dS 0), (1, dI x1), (2, dI x2), (3, .d (.fn (.func 233) [] [.o 1 0])), (8, dI z0.1), (9, dI z1.1)]
def Y9 (x3c0 : Aa) (z1 : Int × (List Int)) : List Res := [v0_ z1.2, .box 29 (d29 x3c0)]
def Ab3 (x1 : Int) (x2 : Int) (z0 : Int × (List Int)) (z1 : Int × (List Int)) : St := [(0, dS 0), (1, dI x1), (2, dI x2), (3, .d (.fn (.func 233) [] [.o 1 0])), (8, dI z0.1)]
def Adm (x3c0 : Aa) (z1 : Int × (List Int)) : List Res := [v0_ z1.2, .box 29 (d29 x3c0)]
theorem Ati (x0 : List Int) (x1 : Int) (x2 : Int) (x3c0 : Aa) (r : (List Int) × Aa) (h : Uu x0 x1 x2 x3c0 = some r) : CO 246 [.d (.os 0), .d (I x1), .d (I x2), .d (.fn (.func 233) [] [.o 1 0])] [v0_ x0, .box 29 (d29 x3c0)] (.tup []) [v0_ r.1, .box 29 (d29 r.2)] := by
 unfold Uu at h
 refine co 53 Tryz.func246 λ C hC => ?_
 refine ws Ip 23 [] [] [] 2 [0, 1] (Si x1 x2 (w64 (x1 + 1), x0)) (Y_ x3c0 (w64 (x1 + 1), x0)) hC [] ?_
 obtain ⟨w0, hm0, hret0, hnext0⟩ := As h
 clear h
 refine wc w0 (Ab4) (Adn x3c0) ?_ λ z0 hs0 => ?_
 ·refine wb ?_
  refine By (by kernel_rfl) (N3 x1 x2 x3c0) (Si x1 x2) (Y_ x3c0) w0 1152921504606846976 (w64 (x1 + 1), x0) hm0 rfl rfl λ z0 w0b h hb0 hr0 => ?_
  unfold N3 at h
  rcases cB h with ⟨h1, h⟩ | ⟨h1, h⟩
  ·refine ws Ip 30 [true] [] [] 2 [0, 1] (Sh x1 x2 z0 (z0.1, z0.2)) (Y9 x3c0 (z0.1, z0.2)) hC [pq h1] ?_
   obtain ⟨w1, hm1, hret1, hnext1⟩ := As h
   clear h
   refine wc w1 (Ab3 x1 x2 z0) (Adm x3c0) ?_ λ z1 hs1 => ?_
   ·refine wb ?_
    refine By (by kernel_rfl) (Kr x1 x3c0) (Sh x1 x2 z0) (Y9 x3c0) w1 1152921504606846976 (z0.1, z0.2) hm1 rfl rfl λ z1 w1b h hb1 hr1 => ?_
    unfold Kr at h
    obtain ⟨y8, h9, h⟩ := Ad h
    obtain ⟨y10, h11, h⟩ := Ad h
    obtain ⟨y12, h13, h⟩ := Ad h
    refine wn Ip 24 [] [pR pI h9, pN pI h9, pR pI h11, pN pI h11, pv A3y (λ hg => A14 y8 y10 x3c0 _ (A_ h13 hg))] [] 2 [0, 1] [0, 1, 2, 3, 8, 9, 34] hC [] ?_
    rcases cB h with ⟨h14, h⟩ | ⟨h14, h⟩
    ·obtain ⟨y15, h16, h⟩ := Ad h
     obtain ⟨y17, h18, h⟩ := Ad h
     obtain ⟨y19, h20, h⟩ := Ad h
     obtain ⟨y21, h22, h⟩ := Ad h
     obtain ⟨y23, h24, h⟩ := Ad h
     exact wx w1b (Sh x1 x2 z0) (Y9 x3c0) Ip 28 [true] [pr pI h16, pn pI h16, pr pI h18, pn pI h18, pr pI h18, pu pI h18 h20, pr pI h22, pu pI h22 h24] [] 2 [0, 1] (w64 (z1.1 - 1), y23) hC [pq h14] (sI h).symm
    ·exact wx w1 (Ab3 x1 x2 z0) (Adm x3c0) Ip 23 [false] [] [] 2 [0, 1] (z1.1, z1.2) hC [pq h14] (hb1 _ (sI h).symm)
   ·have h := hnext1 _ hs1
    exact wx w0b (Si x1 x2) (Y_ x3c0) Ip 23 [] [] [] 2 [0, 1] (w64 (z0.1 + 1), z1.2) hC [] (sI h).symm
  ·exact wx w0 (Ab4) (Adn x3c0) Ip 26 [false] [] [] 2 [0, 1] (z0.1, z0.2) hC [pq h1] (hb0 _ (sI h).symm)
 ·have h := hnext0 _ hs0
  replace h := sI h
  subst h
  exact wf Ip 20 [] [] [] 2 [0, 1] hC []
theorem Auc : EN 246 := en Tryz.func246
def L5 : List Nat := [0, 1, 4, 5, 7, 8, 9, 16]
def Ss (x0 : List Int) (n0 : Nat) (z0 : Unit) : St := [(0, dS 0), (1, .d (.fn (.func 209) [] [.o 1 0])), (4, dI 0), (7, dI (ln x0)), (8, dI (cnt 0 n0))]
def Zj (x0 : List Int) (x1c0 : Ai) (n0 : Nat) (z0 : Unit) : List Res := [v0_ x0, .box 84 (d84 x1c0)]
def Aco  (z0 : Unit) : St := [(4, dI 0)]
def Ad7 (x0 : List Int) (x1c0 : Ai) (z0 : Unit) : List Res := [v0_ x0, .box 84 (d84 x1c0)]
theorem A25 (x0 : List Int) (x1c0 : Ai) (r : Int × Ai) (h : yJ x0 x1c0 = some r) : CO 158 [.d (.os 0), .d (.fn (.func 209) [] [.o 1 0])] [v0_ x0, .box 84 (d84 x1c0)] (.d (I r.1)) [v0_ x0, .box 84 (d84 r.2)] := by
 unfold yJ at h
 refine co 19 Tryz.func158 λ C hC => ?_
 refine ws L5 26 [] [pl pI x0] [] 2 [0, 1] (Ss x0 0 ()) (Zj x0 x1c0 0 ()) hC [] ?_
 obtain ⟨w0, hm0, hret0, hnext0⟩ := As h
 clear h
 refine wc w0 (Aco) (Ad7 x0 x1c0) ?_ λ z0 hs0 => ?_
 ·refine wb ?_
  refine Cc 0 0 rfl rfl λ hl0 => ?_
  refine A8 (by kernel_rfl) (Kz x1c0) (Ss x0) (Zj x0 x1c0) w0 x0 () hm0 rfl rfl (λ z0 hn0 => ?_) λ n0 a0 z0 w0b hi0 hx0 h hb0 hr0 => ?_
  ·clear hm0
   exact wx w0 (Aco) (Ad7 x0 x1c0) L5 26 [false] [] [] 2 [0, 1] () hC [pq (Ba hl0)] hn0
  ·unfold Kz at h
   obtain ⟨y1, h2, h⟩ := Ad h
   refine wn L5 32 [true] [pr pI (Bp hx0 hl0), pn pI (Bp hx0 hl0), pb Auf (Atl a0 x1c0 _ h2)] [] 2 [0, 1] [0, 1, 4, 5, 7, 8, 16] hC [pq (A9 hi0 hl0)] ?_
   rcases cB h with ⟨h3, h⟩ | ⟨h3, h⟩
   ·have hq := hret0 _ (hr0 _ (sI h).symm)
    replace hq := sI hq
    subst hq
    exact wr L5 24 [true] [] [] 2 [0, 1] hC [pq h3]
   ·exact wx w0b (Ss x0 (n0 + 1)) (Zj x0 x1c0 (n0 + 1)) L5 25 [false] [] [] 2 [0, 1] () hC [pq h3] (sI h).symm
 ·have h := hnext0 _ hs0
  replace h := sI h
  subst h
  exact wr L5 23 [] [] [] 2 [0, 1] hC []
theorem A4z : EN 158 := en Tryz.func158
theorem k86 (x0 : Int) (r : (List Az)) (h : F86 x0 = some r) : CO 86 [.d (I x0)] [] (.d (.os 0)) [v5_ r] := by
 unfold F86 at h
 refine co 7 Tryz.func86 λ C hC => ?_
 obtain ⟨y1, h2, h⟩ := Ad h
 replace h := sI h
 subst h
 exact wr [0, 2] 25 [] [pc A_k (A82 [(⟨(-1), (-1)⟩ : Az)] x0 _ h2) []] [] 0 [0] hC []
theorem e86 : EN 86 := en Tryz.func86
theorem A8c (x0 : Aa) (x1 : Ab) (x2 : Ai) (x3 : Int) (r : Bool) (h : Akk x0 x1 x2 x3 = some r) : CO 215 [.agg (d29 x0), .agg (d36 x1), .agg (d84 x2), .d (I x3)] [] (.d (Bo r)) [] := by
 unfold Akk at h
 refine co 58 Tryz.func215 λ C hC => ?_
 obtain ⟨y1, h2, h⟩ := Ad h
 obtain ⟨y3, h4, h⟩ := Ad h
 obtain ⟨y5, h6, h⟩ := Ad h
 obtain ⟨y7, h8, h⟩ := Ad h
 obtain ⟨y9, h10, h⟩ := Ad h
 obtain ⟨y11, h12, h⟩ := Ad h
 obtain ⟨y13, h14, h⟩ := Ad h
 obtain ⟨y15, h16, h⟩ := Ad h
 replace h := sI h
 subst h
 exact wr [0, 1, 2, 3, 4, 5, 6, 8, 9, 10, 11] 31 [] [pc Ap6 (Apr x0 x3 _ h2) [], pr Bi h4, pc Jy (Ju x1 1 x3 _ h6) [], pw Jy (λ hg => Ju x1 2 y1 _ (A_ h8 hg)) [], pw Jy (λ hg => Ju x1 3 y3.A _ (A_ h10 hg)) [], pw Yv (λ hg => Yo x2.An y3.A _ (A_ h12 hg)) [], pw Yv (λ hg => Yo x2.Ac x3 _ (A_ h14 hg)) [], pR A6 h16] [] 0 [] hC []
theorem A9u : EN 215 := en Tryz.func215
theorem k69 (x0 : Aa) (x1 : Int) (x2 : Int) (r : (List Int)) (h : F69 x0 x1 x2 = some r) : CO 69 [.agg (d29 x0), .d (I x1), .d (I x2)] [] (.d (.os 0)) [v0_ r] := by
 unfold F69 at h
 refine co 14 Tryz.func69 λ C hC => ?_
 obtain ⟨y1, h2, h⟩ := Ad h
 rcases cB h with ⟨h3, h⟩ | ⟨h3, h⟩
 ·replace h := sI h
  subst h
  exact wr [0, 1, 2, 3, 6, 9] 29 [true] [pc Ap7 (Aps x0 _ h2) []] [.own 6 3 1] 0 [1] hC [pq h3]
 ·obtain ⟨y4, h5, h⟩ := Ad h
  replace h := sI h
  subst h
  exact wr [0, 1, 2, 3, 6, 9] 30 [false] [pc Ap7 (Aps x0 _ h2) [], pc e77 (k77 x0 x1 x2 _ h5) []] [] 0 [1] hC [pq h3]
theorem e69 : EN 69 := en Tryz.func69
theorem A27 (x0 : C6) (r : Bool) (h : Ayu x0 = r) : CO 150 [.agg (Aqb x0)] [] (.d (Bo r)) [] := by
 unfold Ayu at h
 refine co 6 Tryz.func150 λ C hC => ?_
 subst h
 exact wr n3_ 25 [] [pc A_j (A81 x0 _ rfl) []] [] 0 [] hC []
theorem A41 : EN 150 := en Tryz.func150
theorem A3k (rec46 : Aa -> Ab -> Int -> Option Bool) (ih46 : ∀ (x0 : Aa) (x1 : Ab) (x2 : Int) (r : Bool), rec46 x0 x1 x2 = some r -> CO 46 [.agg (d29 x0), .agg (d36 x1), .d (I x2)] [] (.d (Bo r)) []) (x0 : List Int) (x1c0 : Aa) (x1c1 : Ab) (r : Bool × Aa × Ab) (h : Ak7 rec46 x0 x1c0 x1c1 = some r) : CO 104 [.d (DS pI x0), .d (.fn (.func 105) [] [.o 0 0, .o 1 0])] [.box 29 (d29 x1c0), .box 36 (d36 x1c1)] (.d (Bo r.1)) [.box 29 (d29 r.2.1), .box 36 (d36 r.2.2)] := by
 unfold Ak7 at h
 refine co 9 Tryz.func104 λ C hC => ?_
 obtain ⟨y1, h2, h⟩ := Ad h
 replace h := sI h
 subst h
 exact wr [0, 1, 4] 25 [] [pc A4y (A24 rec46 ih46 x0 x1c0 x1c1 _ h2) [0, 1]] [] 2 [0, 1] hC []
theorem A5e : EN 104 := en Tryz.func104
theorem A8w (x0 : Int) (x1 : Int) (r : Int × Int) (h : Ays x0 x1 = some r) : CO 160 [.d (I x0), .d (I x1)] [] (.tup [.d (I r.1), .d (I r.2)]) [] := by
 unfold Ays at h
 refine co 11 Tryz.func160 λ C hC => ?_
 obtain ⟨y1, h2, h⟩ := Ad h
 replace h := sI h
 subst h
 exact wr [0, 1, 4, 5] 25 [] [pc A4g (A2m x0 x1 _ h2) []] [] 0 [] hC []
theorem A_e : EN 160 := en Tryz.func160
def Ag5 : List Nat := [0, 1, 2, 3, 4, 6, 7, 8, 32, 43]
theorem k27 (x0 : Aa) (x1 : Ab) (x2 : Int) (r : Int × Bool) (h : F27 x0 x1 x2 = some r) : CO 27 [.agg (d29 x0), .agg (d36 x1), .d (I x2)] [] (.tup [.d (I r.1), .d (Bo r.2)]) [] := by
 unfold F27 at h
 refine co 50 Tryz.func27 λ C hC => ?_
 obtain ⟨y1, h2, h⟩ := Ad h
 obtain ⟨y3, h4, h⟩ := Ad h
 refine wn Ag5 26 [] [pc e53 (k53 x0 x1 _ h2) [], pL_ [(((y1 != 0) || (decide (x2 < 0))), false)] Bt x0.Ac, pR A6 h4] [] 0 [0, 1] [2, 3, 4, 6, 7, 32] hC [] ?_
 rcases cB h with ⟨h5, h⟩ | ⟨h5, h⟩
 ·replace h := sI h
  subst h
  exact wr Ag5 24 [true] [] [] 0 [] hC [pq h5]
 ·obtain ⟨y6, h7, h⟩ := Ad h
  obtain ⟨y8, h9, h⟩ := Ad h
  obtain ⟨y10, h11, h⟩ := Ad h
  refine wn Ag5 28 [false] [pc e77 (k77 x0 2 x2 _ h7) [], pr pI h9, pn pI h9, pr pB h11] [] 0 [0] [3, 6, 7, 8, 43] hC [pq h5] ?_
  rcases cB h with ⟨h12, h⟩ | ⟨h12, h⟩
  ·replace h := sI h
   subst h
   exact wr Ag5 24 [true] [] [] 0 [] hC [pq h12]
  ·obtain ⟨y13, h14, h⟩ := Ad h
   replace h := sI h
   subst h
   exact wr Ag5 25 [false] [pr Bi h14] [] 0 [] hC [pq h12]
theorem e27 : EN 27 := en Tryz.func27
def Yl : List Nat := [0, 1, 2, 3, 4, 6, 7, 9, 24, 27, 28, 29, 30, 37]
def Afv (y4 : (List Int)) (n0 : Nat) (z0 : Unit) : St := [(3, dO 0 0), (4, dO 1 0), (6, dI 0), (7, dB false), (27, dS 2), (28, dI (ln y4)), (29, dI (cnt 0 n0))]
def Aqx (x0 : Aa) (x1 : Ab) (y4 : (List Int)) (n0 : Nat) (z0 : Unit) : List Res := [.box 29 (d29 x0), .box 36 (d36 x1), v0_ y4]
def Ast  (z0 : Unit) : St := [(6, dI 0), (7, dB false)]
def Avx  (z0 : Unit) : List Res := []
theorem k48 (x0 : Aa) (x1 : Ab) (x2 : Int) (r : Int × Bool) (h : F48 x0 x1 x2 = some r) : CO 48 [.agg (d29 x0), .agg (d36 x1), .d (I x2)] [] (.tup [.d (I r.1), .d (Bo r.2)]) [] := by
 unfold F48 at h
 refine co 45 Tryz.func48 λ C hC => ?_
 obtain ⟨y1, h2, h⟩ := Ad h
 refine wn Yl 26 [] [pc e53 (k53 x0 x1 _ h2) [], pL_ [(((y1 != 0) || (decide (x2 < 0))), false)] q65 x0.Ae] [] 0 [0, 1] [2, 3, 4, 6, 7, 24] hC [] ?_
 rcases cB h with ⟨h3, h⟩ | ⟨h3, h⟩
 ·replace h := sI h
  subst h
  exact wr Yl 24 [true] [] [] 0 [] hC [pq h3]
 ·obtain ⟨y4, h5, h⟩ := Ad h
  refine ws Yl 26 [false] [pc e77 (k77 x0 3 x2 _ h5) [], pl pI y4] [] 0 n3_ (Afv y4 0 ()) (Aqx x0 x1 y4 0 ()) hC [pq h3] ?_
  obtain ⟨w0, hm0, hret0, hnext0⟩ := As h
  clear h
  refine wc w0 (Ast) (Avx) ?_ λ z0 hs0 => ?_
  ·refine wb ?_
   refine Cc 27 2 rfl rfl λ hl0 => ?_
   refine A8 (by kernel_rfl) (Uq x0 x1) (Afv y4) (Aqx x0 x1 y4) w0 y4 () hm0 rfl rfl (λ z0 hn0 => ?_) λ n0 a0 z0 w0b hi0 hx0 h hb0 hr0 => ?_
   ·clear hm0
    exact wx w0 (Ast) (Avx) Yl 26 [false] [] [] 0 [] () hC [pq (Ba hl0)] hn0
   ·unfold Uq at h
    obtain ⟨y6, h7, h⟩ := Ad h
    rcases cB h with ⟨h8, h⟩ | ⟨h8, h⟩
    ·obtain ⟨y9, h10, h⟩ := Ad h
     have hq := hret0 _ (hr0 _ (sI h).symm)
     replace hq := sI hq
     subst hq
     exact wr Yl 35 [true, true] [pr pI (Bp hx0 hl0), pn pI (Bp hx0 hl0), pr pB h7, pr Bi h10] [] 0 [] hC [pq (A9 hi0 hl0), pq h8]
    ·exact wx w0b (Afv y4 (n0 + 1)) (Aqx x0 x1 y4 (n0 + 1)) Yl 36 [true, false] [pr pI (Bp hx0 hl0), pn pI (Bp hx0 hl0), pr pB h7] [] 0 n3_ () hC [pq (A9 hi0 hl0), pq h8] (sI h).symm
  ·have h := hnext0 _ hs0
   replace h := sI h
   subst h
   exact wr Yl 23 [] [] [] 0 [] hC []
theorem e48 : EN 48 := en Tryz.func48
def qL : List Nat := [0, 1, 2, 4, 6, 7, 8, 14]
def X8  (z0 : Int × (List Int) × Int × (List Ap)) : St := [(0, dO 0 0), (4, dO 4 0), (6, .d (DS q49 [])), (7, dS 5), (8, dI z0.1)]
def Abc (x1 : Aa) (z0 : Int × (List Int) × Int × (List Ap)) : List Res := (.box 90 [DS pI z0.2.1, I z0.2.2.1] :: zs x1 [.box 29 [I x1.An, .os 1, .os 2, .os 3, I x1.Phase, I x1.Aq], v6_ (Dd z0)])
def Agl  (z0 : Int × (List Int) × Int × (List Ap)) : St := [(6, .d (DS q49 [])), (7, dS 4)]
def Ajf (x1 : Aa) (z0 : Int × (List Int) × Int × (List Ap)) : List Res := (.box 90 [DS pI z0.2.1, I z0.2.2.1] :: zs x1 [v6_ (Dd z0)])
theorem A6r (x0 : Aj) (x1 : Aa) (x2 : Int) (r : (List Ap) × Aj) (h : yM x0 x1 x2 = some r) : CO 10 [.d (.o 0 0), .agg [I x1.An, .os 1, .os 2, .os 3, I x1.Phase, I x1.Aq], .d (I x2)] (.box 90 (d90 x0) :: zs x1 []) (.d (.os 4)) (.box 90 (d90 r.2) :: zs x1 [v6_ r.1]) := by
 unfold yM at h
 refine co 24 Tryz.func10 λ C hC => ?_
 obtain ⟨y1, h2, h⟩ := Ad h
 refine ws qL 28 [] [pc e32 (k32 x0 (w64 (x2 + 1)) _ h2) [0]] [.own 7 49 3] 4 n6_ (X8 (y1.1, y1.2.L, y1.2.At, ([] : List Ap))) (Abc x1 (y1.1, y1.2.L, y1.2.At, ([] : List Ap))) hC [] ?_
 obtain ⟨w0, hm0, hret0, hnext0⟩ := As h
 clear h
 refine wc w0 (Agl) (Ajf x1) ?_ λ z0 hs0 => ?_
 ·refine wb ?_
  refine By (by kernel_rfl) (Rz x1) (X8) (Abc x1) w0 1152921504606846976 (y1.1, y1.2.L, y1.2.At, ([] : List Ap)) hm0 rfl rfl λ z0 w0b h hb0 hr0 => ?_
  unfold Rz at h
  rcases cB h with ⟨h3, h⟩ | ⟨h3, h⟩
  ·obtain ⟨y4, h5, h⟩ := Ad h
   obtain ⟨y6, h7, h⟩ := Ad h
   exact wx w0b (X8) (Abc x1) qL 31 [true] [pc A7a (A6p (⟨z0.2.1, z0.2.2.1⟩ : Aj) x1 _ h5) n4_, pa q49 3 h7] [] 4 [0, 1, 2, 3, 4, 6] (w64 (z0.1 - 1), y4.2.L, y4.2.At, y6) hC [pq h3] (sI h).symm
  ·exact wx w0 (Agl) (Ajf x1) qL 26 [false] [] [] 4 [0, 1, 2, 3, 5] (z0.1, z0.2.1, z0.2.2.1, (Dd z0)) hC [pq h3] (hb0 _ (sI h).symm)
 ·have h := hnext0 _ hs0
  replace h := sI h
  subst h
  exact wr qL 23 [] [] [] 4 n5_ hC []
theorem A7c : EN 10 := en Tryz.func10
def Oj : List Nat := [0, 1, 2, 3, 5, 6, 7, 29, 43, 44, 45, 46, 56, 57, 58, 59, 71]
def Afp (x0 : Aa) (n0 : Nat) (z0 : Bool) : St := [(1, dO 0 0), (2, dI 0), (3, dB z0), (43, .d (DS Bt x0.Ac)), (44, dI (ln x0.Ac)), (45, dI (cnt 0 n0))]
def Aqr (x0 : Aa) (n0 : Nat) (z0 : Bool) : List Res := [.box 29 (d29 x0)]
def Ash  (z0 : Bool) : St := [(1, dO 0 0), (2, dI 0), (3, dB z0)]
def Avl (x0 : Aa) (z0 : Bool) : List Res := [.box 29 (d29 x0)]
def Afo (x0 : Aa) (n1 : Nat) (z1 : Bool) : St := [(2, dI 0), (3, dB z1), (56, .d (DS q65 x0.Ae)), (57, dI (ln x0.Ae)), (58, dI (cnt 0 n1))]
def Aqq  (n1 : Nat) (z1 : Bool) : List Res := []
def Asg  (z1 : Bool) : St := [(2, dI 0), (3, dB z1)]
def Avk  (z1 : Bool) : List Res := []
theorem k85 (x0 : Aa) (r : Int) (h : F85 x0 = some r) : CO 85 [.agg (d29 x0)] [] (.d (I r)) [] := by
 unfold F85 at h
 refine co 72 Tryz.func85 λ C hC => ?_
 refine wn Oj 26 [] [pc e99 (k99 x0.An 1 6 _ rfl) [], pL_ [(!(F99 x0.An 1 6), false)] Bi x0.Ag, pL_ [(((!(F99 x0.An 1 6)) || (decide ((ln x0.Ag) > 24))), false)] Bt x0.Ac, pL_ [((((!(F99 x0.An 1 6)) || (decide ((ln x0.Ag) > 24))) || (decide ((ln x0.Ac) > 8))), false)] q65 x0.Ae] [] 0 [0] [1, 2, 29] hC [] ?_
 rcases cB h with ⟨h1, h⟩ | ⟨h1, h⟩
 ·replace h := sI h
  subst h
  exact wr Oj 24 [true] [] [] 0 [] hC [pq h1]
 ·obtain ⟨y2, h3, h⟩ := Ad h
  refine ws Oj 28 [false] [pc A_n (A85 x0 _ h3) [], ⟨.when [(y2, true)] (.call 99 [dI x0.Phase, dI 0, dI 1800] [] (dB (F99 x0.Phase 0 1800)) [] []), λ hg => ⟨e99, (k99 x0.Phase 0 1800 _ rfl)⟩⟩, ⟨.when [((y2 && (F99 x0.Phase 0 1800)), true)] (.call 99 [dI x0.Aq, dI 0, dI 6000] [] (dB (F99 x0.Aq 0 6000)) [] []), λ hg => ⟨e99, (k99 x0.Aq 0 6000 _ rfl)⟩⟩, pl Bt x0.Ac] [] 0 [0] (Afp x0 0 ((y2 && (F99 x0.Phase 0 1800)) && (F99 x0.Aq 0 6000))) (Aqr x0 0 ((y2 && (F99 x0.Phase 0 1800)) && (F99 x0.Aq 0 6000))) hC [pq h1] ?_
  obtain ⟨w0, hm0, hret0, hnext0⟩ := As h
  clear h
  refine wc w0 (Ash) (Avl x0) ?_ λ z0 hs0 => ?_
  ·refine wb ?_
   refine Bm 43 rfl λ hl0 => ?_
   refine A8 (by kernel_rfl) Aka (Afp x0) (Aqr x0) w0 x0.Ac ((y2 && (F99 x0.Phase 0 1800)) && (F99 x0.Aq 0 6000)) hm0 rfl rfl (λ z0 hn0 => ?_) λ n0 a0 z0 w0b hi0 hx0 h hb0 hr0 => ?_
   ·clear hm0
    exact wx w0 (Ash) (Avl x0) Oj 26 [false] [] [] 0 [0] z0 hC [pq (Ba hl0)] hn0
   ·unfold Aka at h
    exact wx w0b (Afp x0 (n0 + 1)) (Aqr x0 (n0 + 1)) Oj 33 [true] [pt hx0 hl0, ⟨.when [(z0, true)] (.call 137 [.agg (A5g a0)] [] (dB (Z7 a0)) [] []), λ hg => ⟨A_m, (A84 a0 _ rfl)⟩⟩] [] 0 [0] (z0 && (Z7 a0)) hC [pq (A9 hi0 hl0)] (sI h).symm
  ·have h := hnext0 _ hs0
   refine ws Oj 24 [] [pl q65 x0.Ae] [] 0 [] (Afo x0 0 z0) (Aqq 0 z0) hC [] ?_
   obtain ⟨w1, hm1, hret1, hnext1⟩ := As h
   clear h
   refine wc w1 (Asg) (Avk) ?_ λ z1 hs1 => ?_
   ·refine wb ?_
    refine Bm 56 rfl λ hl1 => ?_
    refine A8 (by kernel_rfl) vC (Afo x0) (Aqq) w1 x0.Ae z0 hm1 rfl rfl (λ z1 hn1 => ?_) λ n1 a1 z1 w1b hi1 hx1 h hb1 hr1 => ?_
    ·clear hm1
     exact wx w1 (Asg) (Avk) Oj 26 [false] [] [] 0 [] z1 hC [pq (Ba hl1)] hn1
    ·unfold vC at h
     obtain ⟨y4, h5, h⟩ := Ad h
     exact wx w1b (Afo x0 (n1 + 1)) (Aqq (n1 + 1)) Oj 33 [true] [pt hx1 hl1, pw A_l (λ hg => A83 a1 (cnt 0 n1) _ (A_ h5 hg)) []] [] 0 [] (z1 && y4) hC [pq (A9 hi1 hl1)] (sI h).symm
   ·have h := hnext1 _ hs1
    rcases cB h with ⟨h6, h⟩ | ⟨h6, h⟩
    ·replace h := sI h
     subst h
     exact wr Oj 27 [true] [] [] 0 [] hC [pq h6]
    ·replace h := sI h
     subst h
     exact wr Oj 28 [false] [] [] 0 [] hC [pq h6]
theorem e85 : EN 85 := en Tryz.func85
theorem A6e (x0 : List Af) (r : Bool) (h : Wz x0 = some r) : CO 96 [.d (DS A6 x0), .d (.fn (.func 97) [] [])] [] (.d (Bo r)) [] := by
 unfold Wz at h
 refine co 9 Tryz.func96 λ C hC => ?_
 obtain ⟨y1, h2, h⟩ := Ad h
 replace h := sI h
 subst h
 exact wr [0, 1, 4] 25 [] [pc A40 (A26 x0 _ h2) []] [] 0 [] hC []
theorem A6z : EN 96 := en Tryz.func96
theorem A2w (x0 : A3) (x1 : Int) (r : Int × A3) (h : Vf x0 x1 = some r) : CO 185 [.d (.o 0 0), .d (I x1)] (.box 186 (zb x0.Al [.os 1, .os 2, .os 3, .os 4, I x0.time]) :: zp x0.Au []) (.d (I r.1)) (.box 186 (zb r.2.Al [.os 1, .os 2, .os 3, .os 4, I r.2.time]) :: zp r.2.Au []) := by
 unfold Vf at h
 refine co 53 Tryz.func185 λ C hC => ?_
 obtain ⟨y1, h2, h⟩ := Ad h
 obtain ⟨y3, h4, h⟩ := Ad h
 refine wn [0, 1, 4, 5, 23, 43] 26 [] [pr A6 h2, pn A6 h2, pv Jy (λ hg => Ju x0.Au 1 x1 _ (A_ h4 hg))] [] 5 n5_ [0, 1, 4, 23] hC [] ?_
 rcases cB h with ⟨h5, h⟩ | ⟨h5, h⟩
 ·replace h := sI h
  subst h
  exact wr [0, 1, 4, 5, 23, 43] 24 [true] [] [] 5 n5_ hC [pq h5]
 ·obtain ⟨y6, h7, h⟩ := Ad h
  obtain ⟨y8, h9, h⟩ := Ad h
  refine wn [0, 1, 4, 5, 23, 43] 28 [false] [pr Bt h7, pv Ah6 (λ hg => Ahb x0 x1 _ (A_ h9 hg))] [] 5 n6_ [0, 1, 4, 5, 43] hC [pq h5] ?_
  rcases cB h with ⟨h10, h⟩ | ⟨h10, h⟩
  ·obtain ⟨y11, h12, h⟩ := Ad h
   replace h := sI h
   subst h
   exact wr [0, 1, 4, 5, 23, 43] 27 [true] [pr A6 h2, pu A6 h2 h12] [] 5 n5_ hC [pq h10]
  ·obtain ⟨y13, h14, h⟩ := Ad h
   replace h := sI h
   subst h
   exact wr [0, 1, 4, 5, 23, 43] 27 [false] [pr A6 h2, pu A6 h2 h14] [] 5 n5_ hC [pq h10]
theorem A4q : EN 185 := en Tryz.func185
theorem A2v (x0 : A3) (x1 : Int) (r : Int × A3) (h : Ve x0 x1 = some r) : CO 186 [.d (.o 0 0), .d (I x1)] (.box 186 (zb x0.Al [.os 1, .os 2, .os 3, .os 4, I x0.time]) :: zp x0.Au []) (.d (I r.1)) (.box 186 (zb r.2.Al [.os 1, .os 2, .os 3, .os 4, I r.2.time]) :: zp r.2.Au []) := by
 unfold Ve at h
 refine co 34 Tryz.func186 λ C hC => ?_
 obtain ⟨y1, h2, h⟩ := Ad h
 obtain ⟨y3, h4, h⟩ := Ad h
 refine wn [0, 1, 4, 5, 30] 28 [] [pr A6 h2, pn A6 h2, ⟨.when [((y1.State != 1), true)] (.row (x0.Au.Ac.map A6) (((Int.toNat x1) : Nat) : Int) (A6 y1)), λ hg => Jo h2⟩, pv Ah6 (λ hg => Ahb x0 x1 _ (A_ h4 hg))] [] 5 n5_ [4, 5, 30] hC [] ?_
 rcases cB h with ⟨h5, h⟩ | ⟨h5, h⟩
 ·replace h := sI h
  subst h
  exact wr [0, 1, 4, 5, 30] 24 [true] [] [] 5 n5_ hC [pq h5]
 ·obtain ⟨y6, h7, h⟩ := Ad h
  replace h := sI h
  subst h
  exact wr [0, 1, 4, 5, 30] 27 [false] [pu A6 h2 h7] [] 5 n5_ hC [pq h5]
theorem A4p : EN 186 := en Tryz.func186
def O9 : List Nat := [0, 1, 2, 3, 4, 5, 7, 12, 20]
theorem A2i (x0 : Ax) (x1 : Ak) (r : Bool × Ax) (h : U5 x0 x1 = some r) : CO 205 [.d (.o 0 0), .agg (Ot x1)] (.box 235 (zb x0.Al [.os 1, .os 2, .os 3, .os 4, .os 5]) :: zp x0.Au [v6_ x0.acts]) (.d (Bo r.1)) (.box 235 (zb r.2.Al [.os 1, .os 2, .os 3, .os 4, .os 5]) :: zp r.2.Au [v6_ r.2.acts]) := by
 unfold U5 at h
 refine co 45 Tryz.func205 λ C hC => ?_
 obtain ⟨y1, h2, h⟩ := Ad h
 refine wn O9 29 [] [pc uA (qO 3 x1.A x0 _ h2) [6, 0, 1, 2, 3, 4, 5]] [] 6 n8_ [2, 3, 4, 5, 7] hC [] ?_
 rcases cB h with ⟨h3, h⟩ | ⟨h3, h⟩
 ·replace h := sI h
  subst h
  exact wr O9 24 [true] [] [] 6 n6_ hC [pq h3]
 ·rcases cB h with ⟨h4, h⟩ | ⟨h4, h⟩
  ·obtain ⟨y5, h6, h⟩ := Ad h
   replace h := sI h
   subst h
   exact wr O9 27 [false, true] [pc uA (qO 3 x1.B y1.2 _ h6) [6, 0, 1, 2, 3, 4, 5]] [] 6 n6_ hC [pq h3, pq h4]
  ·rcases cB h with ⟨h7, h⟩ | ⟨h7, h⟩
   ·obtain ⟨y8, h9, h⟩ := Ad h
    obtain ⟨y10, h11, h⟩ := Ad h
    replace h := sI h
    subst h
    exact wr O9 30 [false, false, true] [pc uA (qO 1 x1.B y1.2 _ h9) [6, 0, 1, 2, 3, 4, 5], pR A6 h11, pN A6 h11] [] 6 n6_ hC [pq h3, pq h4, pq h7]
   ·obtain ⟨y12, h13, h⟩ := Ad h
    replace h := sI h
    subst h
    exact wr O9 32 [false, false, false] [pc uA (qO 4 x1.B y1.2 _ h13) [6, 0, 1, 2, 3, 4, 5]] [] 6 n6_ hC [pq h3, pq h4, pq h7]
theorem A4c : EN 205 := en Tryz.func205
def Lt : List Nat := [0, 1, 2, 6, 7, 8, 9, 13, 30, 35, 54]
def Sj (x1 : Int) (z0 : Sg9) : St := [(0, dS 0), (1, dI x1), (2, .d (.fn (.func 233) [] [.o 1 0])), (6, dI 20), (7, dI z0.1), (8, dI z0.2.1)]
def Za  (z0 : Sg9) : List Res := [v0_ z0.2.2.1, .box 29 [I (g3_ z0), DS Bi (g4_ z0), DS Bt (g5_ z0), DS q65 (g6_ z0), I (g7_ z0), I (Ahj z0)]]
def Ab6 (x1 : Int) (z0 : Sg9) : St := [(0, dS 0), (1, dI x1), (2, .d (.fn (.func 233) [] [.o 1 0])), (6, dI 20), (7, dI z0.1), (8, dI z0.2.1)]
def Adp  (z0 : Sg9) : List Res := [v0_ z0.2.2.1, .box 29 [I (g3_ z0), DS Bi (g4_ z0), DS Bt (g5_ z0), DS q65 (g6_ z0), I (g7_ z0), I (Ahj z0)]]
def Abx (x1 : Int) (z0 : Sg9) (z1 : Unit) : St := [(0, dS 0), (1, dI x1), (2, .d (.fn (.func 233) [] [.o 1 0])), (6, dI 20), (7, dI z0.1), (8, dI z0.2.1)]
def Ajg (y4 : (List Int) × Aa) (z1 : Unit) : List Res := [v0_ y4.1, .box 29 (d29 y4.2)]
def Ab5  (z1 : Unit) : St := []
def Ado (y4 : (List Int) × Aa) (z1 : Unit) : List Res := [v0_ y4.1, .box 29 (d29 y4.2)]
def A7r (x1 : Int) (z2 : Unit) : St := [(0, dS 0), (1, dI x1), (2, .d (.fn (.func 233) [] [.o 1 0])), (6, dI 20), (7, dI 0), (8, dI 40)]
def A_3 (y4 : (List Int) × Aa) (z2 : Unit) : List Res := [v0_ y4.1, .box 29 (d29 y4.2)]
def A7s (x1 : Int) (z2 : Unit) : St := [(0, dS 0), (1, dI x1), (2, .d (.fn (.func 233) [] [.o 1 0])), (6, dI 20), (7, dI 0), (8, dI 40)]
def A7t (y4 : (List Int) × Aa) (z2 : Unit) : List Res := [v0_ y4.1, .box 29 (d29 y4.2)]
theorem A12 (x0 : List Int) (x1 : Int) (x2c0 : Aa) (r : (List Int) × Aa) (h : vZ x0 x1 x2c0 = some r) : CO 242 [.d (.os 0), .d (I x1), .d (.fn (.func 233) [] [.o 1 0])] [v0_ x0, .box 29 (d29 x2c0)] (.tup []) [v0_ r.1, .box 29 (d29 r.2)] := by
 unfold vZ at h
 refine co 63 Tryz.func242 λ C hC => ?_
 refine ws Lt 26 [] [] [] 2 [0, 1] (Sj x1 (0, 20, x0, x2c0.An, x2c0.Ag, x2c0.Ac, x2c0.Ae, x2c0.Phase, x2c0.Aq)) (Za (0, 20, x0, x2c0.An, x2c0.Ag, x2c0.Ac, x2c0.Ae, x2c0.Phase, x2c0.Aq)) hC [] ?_
 obtain ⟨w0, hm0, hret0, hnext0⟩ := As h
 clear h
 refine wc w0 (Ab6 x1) (Adp) ?_ λ z0 hs0 => ?_
 ·refine wb ?_
  refine By (by kernel_rfl) (N5 x1) (Sj x1) (Za) w0 1152921504606846976 (0, 20, x0, x2c0.An, x2c0.Ag, x2c0.Ac, x2c0.Ae, x2c0.Phase, x2c0.Aq) hm0 rfl rfl λ z0 w0b h hb0 hr0 => ?_
  unfold N5 at h
  rcases cB h with ⟨h1, h⟩ | ⟨h1, h⟩
  ·obtain ⟨y2, h3, h⟩ := Ad h
   exact wx w0b (Sj x1) (Za) Lt 33 [true] [pc Auc (Ati z0.2.2.1 z0.1 z0.2.1 (⟨(g3_ z0), (g4_ z0), (g5_ z0), (g6_ z0), (g7_ z0), (Ahj z0)⟩ : Aa) _ h3) [0, 1]] [] 2 [0, 1] (z0.2.1, w64 (z0.2.1 + 20), y2.1, y2.2.An, y2.2.Ag, y2.2.Ac, y2.2.Ae, y2.2.Phase, y2.2.Aq) hC [pq h1] (sI h).symm
  ·exact wx w0 (Ab6 x1) (Adp) Lt 26 [false] [] [] 2 [0, 1] (z0.1, z0.2.1, z0.2.2.1, (g3_ z0), (g4_ z0), (g5_ z0), (g6_ z0), (g7_ z0), (Ahj z0)) hC [pq h1] (hb0 _ (sI h).symm)
 ·have h := hnext0 _ hs0
  obtain ⟨y4, h5, h⟩ := Ad h
  refine ws Lt 23 [] [pc Auc (Ati z0.2.2.1 z0.1 x1 (⟨(g3_ z0), (g4_ z0), (g5_ z0), (g6_ z0), (g7_ z0), (Ahj z0)⟩ : Aa) _ h5) [0, 1]] [] 2 [0, 1] (Abx x1 z0 ()) (Ajg y4 ()) hC [] ?_
  obtain ⟨w1, hm1, hret1, hnext1⟩ := As h
  clear h
  refine wc w1 (Ab5) (Ado y4) ?_ λ z1 hs1 => ?_
  ·refine wb ?_
   refine By (by kernel_rfl) (N4 x1) (Abx x1 z0) (Ajg y4) w1 1152921504606846976 () hm1 rfl rfl λ z1 w1b h hb1 hr1 => ?_
   unfold N4 at h
   rcases cB h with ⟨h6, h⟩ | ⟨h6, h⟩
   ·cases h
   ·exact wx w1 (Ab5) (Ado y4) Lt 26 [false] [] [] 2 [0, 1] () hC [pq h6] (hb1 _ (sI h).symm)
  ·have h := hnext1 _ hs1
   replace h := sI h
   subst h
   exact wf Lt 20 [] [] [] 2 [0, 1] hC []
theorem A3w : EN 242 := en Tryz.func242
def Iq : List Nat := [0, 1, 4, 5, 6, 7, 12, 19, 29]
def Nd  (z0 : Int × Int × (List Int)) : St := [(0, dS 0), (1, .d (.fn (.func 209) [] [.o 1 0])), (4, .d (DS pI [])), (5, dI z0.1), (6, dI z0.2.1)]
def Rh (y1 : Int × Ai) (z0 : Int × Int × (List Int)) : List Res := [v0_ z0.2.2, .box 84 (d84 y1.2)]
def Acd  (z0 : Int × Int × (List Int)) : St := [(0, dS 0), (4, .d (DS pI [])), (5, dI z0.1)]
def Adw (y1 : Int × Ai) (z0 : Int × Int × (List Int)) : List Res := [v0_ z0.2.2, .box 84 (d84 y1.2)]
theorem A2g (x0 : List Int) (x1c0 : Ai) (r : (List Int) × Ai) (h : U3 x0 x1c0 = some r) : CO 208 [.d (.os 0), .d (.fn (.func 209) [] [.o 1 0])] [.sl 3 1 (x0.map pI), .box 84 (d84 x1c0)] (.d (.os 2)) [.non, .box 84 (d84 r.2), .sl 3 1 (r.1.map pI)] := by
 unfold U3 at h
 refine co 42 Tryz.func208 λ C hC => ?_
 obtain ⟨y1, h2, h⟩ := Ad h
 refine wn Iq 28 [] [pc A4z (A25 x0 x1c0 _ h2) [0, 1]] [] 2 [0, 1] [0, 1, 4, 5, 12] hC [] ?_
 rcases cB h with ⟨h3, h⟩ | ⟨h3, h⟩
 ·replace h := sI h
  subst h
  exact wr Iq 24 [true] [] [.mv 0] 2 n3_ hC [pq h3]
 ·refine ws Iq 26 [false] [] [] 2 [0, 1] (Nd (y1.1, w64 (y1.1 + 1), x0)) (Rh y1 (y1.1, w64 (y1.1 + 1), x0)) hC [pq h3] ?_
  obtain ⟨w0, hm0, hret0, hnext0⟩ := As h
  clear h
  refine wc w0 (Acd) (Adw y1) ?_ λ z0 hs0 => ?_
  ·refine wb ?_
   refine By (by kernel_rfl) (N9 y1) (Nd) (Rh y1) w0 1152921504606846976 (y1.1, w64 (y1.1 + 1), x0) hm0 rfl rfl λ z0 w0b h hb0 hr0 => ?_
   unfold N9 at h
   rcases cB h with ⟨h4, h⟩ | ⟨h4, h⟩
   ·obtain ⟨y5, h6, h⟩ := Ad h
    obtain ⟨y7, h8, h⟩ := Ad h
    refine wn Iq 32 [true] [pl pI z0.2.2, pr pI h6, pn pI h6, pb Auf (Atl y5 y1.2 _ h8)] [] 2 [0, 1] [0, 1, 4, 5, 6, 7, 29] hC [pq h4] ?_
    rcases cB h with ⟨h9, h⟩ | ⟨h9, h⟩
    ·obtain ⟨y10, h11, h⟩ := Ad h
     obtain ⟨y12, h13, h⟩ := Ad h
     exact wx w0b (Nd) (Rh y1) Iq 27 [true] [pr pI h11, pu pI h11 h13] [] 2 [0, 1] (w64 (z0.1 + 1), w64 (z0.2.1 + 1), y12) hC [pq h9] (sI h).symm
    ·exact wx w0b (Nd) (Rh y1) Iq 25 [false] [] [] 2 [0, 1] (z0.1, w64 (z0.2.1 + 1), z0.2.2) hC [pq h9] (sI h).symm
   ·exact wx w0 (Acd) (Adw y1) Iq 26 [false] [pl pI z0.2.2] [] 2 [0, 1] (z0.1, z0.2.1, z0.2.2) hC [pq h4] (hb0 _ (sI h).symm)
  ·have h := hnext0 _ hs0
   obtain ⟨u15, h14, h⟩ := Ad h
   obtain ⟨u17, h16, h⟩ := Ad h
   replace h := sI h
   subst h
   (rw [List.map_take]; exact uR (bs := []) Hh Iq 25 [] [.bnd (z0.2.2.map pI).length z0.1 (((z0.2.2.map pI).length : Nat) : Int) (ln z0.2.2), .eqr ((z0.2.2.map pI).take (Int.toNat z0.1) ++ (List.replicate ((Int.toNat (ln z0.2.2)) - (Int.toNat z0.1)) (pI 0) ++ (z0.2.2.map pI).drop ((Int.toNat z0.1) + ((Int.toNat (ln z0.2.2)) - (Int.toNat z0.1))))) ((Ge z0.2.2 (Int.toNat z0.1) ((Int.toNat (ln z0.2.2)) - (Int.toNat z0.1)) 0).map pI), .bnd ((Ge z0.2.2 (Int.toNat z0.1) ((Int.toNat (ln z0.2.2)) - (Int.toNat z0.1)) 0).map pI).length 0 z0.1 z0.1] [.trunc 4] [.tmp 4] 2 n3_ rfl hC ⟨Eb (by simp) (by simp) h14, Aa2 pI rfl, Eb (by simp) rfl h16, trivial⟩ trivial (by kernel_rfl))
theorem A4a : EN 208 := en Tryz.func208
def Yk : List Nat := [0, 1, 2, 3, 4, 5, 6, 7, 8, 9, 14, 20, 21, 22, 23, 29]
def jJ (y4 : Ab) (n0 : Nat) (z0 : (List Af)) : St := [(4, dO 0 0), (5, dI 0), (7, dO 9 0), (20, dS 6), (21, dI (ln y4.Ac)), (22, dI (cnt 0 n0))]
def Ae7 (y4 : Ab) (n0 : Nat) (z0 : (List Af)) : List Res := (.box 36 [.os 1, .os 2, .os 3, .os 4] :: ze [v2_ y4.Ah, v4_ z0, v0_ y4.Ar, v3_ y4.Ao, .box 36 [.os 5, .os 6, .os 7, .os 8]])
def Asj  (z0 : (List Af)) : St := [(4, dO 0 0), (5, dI 0), (7, dO 9 0)]
def Avn (y4 : Ab) (z0 : (List Af)) : List Res := (.box 36 [.os 1, .os 2, .os 3, .os 4] :: ze [v2_ y4.Ah, v4_ z0, v0_ y4.Ar, v3_ y4.Ao, .box 36 [.os 5, .os 6, .os 7, .os 8]])
theorem k70 (x0 : Aa) (x1 : Ab) (r : Ab × Int) (h : F70 x0 x1 = some r) : CO 70 [.agg (d29 x0), .agg (d36 x1)] [] (.tup [.agg [.os 0, .os 1, .os 2, .os 3], .d (I r.2)]) (zp r.1 []) := by
 unfold F70 at h
 refine co 45 Tryz.func70 λ C hC => ?_
 obtain ⟨y1, h2, h⟩ := Ad h
 refine wn Yk 28 [] [pc e53 (k53 x0 x1 _ h2) []] [.ownb 2 0 4 1, .ownb 2 1 120 4, .ownb 2 2 3 1, .ownb 2 3 86 2] 0 [1, 2, 3, 4, 5, 6] [3, 4, 5, 6, 14] hC [] ?_
 rcases cB h with ⟨h3, h⟩ | ⟨h3, h⟩
 ·replace h := sI h
  subst h
  exact wr Yk 24 [true] [] [.ownb 1 0 4 1, .ownb 1 1 120 4, .ownb 1 2 3 1, .ownb 1 3 86 2] 0 [6, 7, 8, 9] hC [pq h3]
 ·obtain ⟨y4, h5, h⟩ := Ad h
  refine ws Yk 28 [false] [pc e65 (k65 x1 _ h5) [], pl A6 y4.Ac] [] 0 [1, 2, 3, 4, 5, 6, 7, 8, 9, 10] (jJ y4 0 y4.Ac) (Ae7 y4 0 y4.Ac) hC [pq h3] ?_
  obtain ⟨w0, hm0, hret0, hnext0⟩ := As h
  clear h
  refine wc w0 (Asj) (Avn y4) ?_ λ z0 hs0 => ?_
  ·refine wb ?_
   refine Cc 20 6 rfl rfl λ hl0 => ?_
   refine A8 (by kernel_rfl) vI (jJ y4) (Ae7 y4) w0 y4.Ac y4.Ac hm0 rfl rfl (λ z0 hn0 => ?_) λ n0 a0 z0 w0b hi0 hx0 h hb0 hr0 => ?_
   ·clear hm0
    exact wx w0 (Asj) (Avn y4) Yk 26 [false] [] [] 0 Fo z0 hC [pq (Ba hl0)] hn0
   ·unfold vI at h
    obtain ⟨y6, h7, h⟩ := Ad h
    rcases cB h with ⟨h8, h⟩ | ⟨h8, h⟩
    ·obtain ⟨y9, h10, h⟩ := Ad h
     exact wx w0b (jJ y4 (n0 + 1)) (Ae7 y4 (n0 + 1)) Yk 36 [true, true] [pr A6 h7, pn A6 h7, pc A_p (A87 (w64 (y6.Phase + (w64 (36 * (w64 (y6.Aq - 5000)))))) _ rfl) [], pr A6 h7, pu A6 h7 h10] [] 0 Fo y9 hC [pq (A9 hi0 hl0), pq h8] (sI h).symm
    ·exact wx w0b (jJ y4 (n0 + 1)) (Ae7 y4 (n0 + 1)) Yk 36 [true, false] [pr A6 h7, pn A6 h7] [] 0 Fo z0 hC [pq (A9 hi0 hl0), pq h8] (sI h).symm
  ·have h := hnext0 _ hs0
   replace h := sI h
   subst h
   exact wr Yk 23 [] [] [] 0 [5, 6, 7, 8] hC []
theorem e70 : EN 70 := en Tryz.func70
def O_ : List Nat := [0, 1, 4, 5, 7, 8, 9, 16]
def Sq (x0 : List C6) (n0 : Nat) (z0 : Unit) : St := [(0, .d (DS Yd x0)), (1, .d (.fn (.func 150) [] [])), (4, dI 0), (7, dI (ln x0)), (8, dI (cnt 0 n0))]
def Zh  (n0 : Nat) (z0 : Unit) : List Res := []
def Ack  (z0 : Unit) : St := [(4, dI 0)]
def Ad3  (z0 : Unit) : List Res := []
theorem A2o (x0 : List C6) (r : Int) (h : Akm x0 = some r) : CO 196 [.d (DS Yd x0), .d (.fn (.func 150) [] [])] [] (.d (I r)) [] := by
 unfold Akm at h
 refine co 19 Tryz.func196 λ C hC => ?_
 refine ws O_ 26 [] [pl Yd x0] [] 0 [] (Sq x0 0 ()) (Zh 0 ()) hC [] ?_
 obtain ⟨w0, hm0, hret0, hnext0⟩ := As h
 clear h
 refine wc w0 (Ack) (Ad3) ?_ λ z0 hs0 => ?_
 ·refine wb ?_
  refine Bm 0 rfl λ hl0 => ?_
  refine A8 (by kernel_rfl) Vb (Sq x0) (Zh) w0 x0 () hm0 rfl rfl (λ z0 hn0 => ?_) λ n0 a0 z0 w0b hi0 hx0 h hb0 hr0 => ?_
  ·clear hm0
   exact wx w0 (Ack) (Ad3) O_ 26 [false] [] [] 0 [] () hC [pq (Ba hl0)] hn0
  ·unfold Vb at h
   rcases cB h with ⟨h1, h⟩ | ⟨h1, h⟩
   ·have hq := hret0 _ (hr0 _ (sI h).symm)
    replace hq := sI hq
    subst hq
    exact wr O_ 35 [true, true] [pt hx0 hl0, pc A41 (A27 a0 _ rfl) []] [] 0 [] hC [pq (A9 hi0 hl0), pq h1]
   ·exact wx w0b (Sq x0 (n0 + 1)) (Zh (n0 + 1)) O_ 36 [true, false] [pt hx0 hl0, pc A41 (A27 a0 _ rfl) []] [] 0 [] () hC [pq (A9 hi0 hl0), pq h1] (sI h).symm
 ·have h := hnext0 _ hs0
  replace h := sI h
  subst h
  exact wr O_ 23 [] [] [] 0 [] hC []
theorem A4i : EN 196 := en Tryz.func196
def Js : List Nat := [0, 1, 2, 3, 4, 6, 7, 8, 9, 10, 11, 12, 13, 14, 28, 37, 38, 39, 54, 64, 65, 66, 81]
def jM (x0 : Aa) (z0 : Int × (List Int)) : St := [(3, dO 0 0), (4, dO 1 0), (6, dO 2 0), (7, dB false), (8, dO 7 0), (37, dI (ln x0.Ac)), (38, dI z0.1)]
def Afa (x0 : Aa) (x1 : Ab) (y4 : (List Int)) (z0 : Int × (List Int)) : List Res := [.box 29 (d29 x0), .box 36 (d36 x1), .box 84 [.os 3, .os 4, .os 5], v0_ ([] : List Int), v0_ ([] : List Int), v0_ ([] : List Int), v0_ y4, .box 84 [.os 6, .os 8, .os 9], v0_ z0.2, v0_ ([] : List Int)]
def Asn  (z0 : Int × (List Int)) : St := [(3, dO 0 0), (4, dO 1 0), (6, dO 2 0), (7, dB false), (8, dO 7 0)]
def Avr (x0 : Aa) (x1 : Ab) (y4 : (List Int)) (z0 : Int × (List Int)) : List Res := [.box 29 (d29 x0), .box 36 (d36 x1), .box 84 [.os 3, .os 4, .os 5], v0_ ([] : List Int), v0_ ([] : List Int), v0_ ([] : List Int), v0_ y4, .box 84 [.os 6, .os 8, .os 9], v0_ z0.2, v0_ ([] : List Int)]
def jL (x0 : Aa) (z1 : Int × (List Int)) : St := [(3, dO 0 0), (4, dO 1 0), (6, dO 2 0), (7, dB false), (8, dO 7 0), (64, dI (ln x0.Ae)), (65, dI z1.1)]
def Ae9 (x0 : Aa) (x1 : Ab) (y4 : (List Int)) (z0 : Int × (List Int)) (z1 : Int × (List Int)) : List Res := [.box 29 (d29 x0), .box 36 (d36 x1), .box 84 [.os 3, .os 4, .os 5], v0_ ([] : List Int), v0_ ([] : List Int), v0_ ([] : List Int), v0_ y4, .box 84 [.os 6, .os 8, .os 9], v0_ z0.2, v0_ z1.2]
def Asm  (z1 : Int × (List Int)) : St := [(6, dO 0 0), (7, dB false), (8, dO 5 0)]
def Avq (y4 : (List Int)) (z0 : Int × (List Int)) (z1 : Int × (List Int)) : List Res := [.box 84 [.os 1, .os 2, .os 3], v0_ ([] : List Int), v0_ ([] : List Int), v0_ ([] : List Int), v0_ y4, .box 84 [.os 4, .os 6, .os 7], v0_ z0.2, v0_ z1.2]
theorem k54 (x0 : Aa) (x1 : Ab) (x2 : Int) (r : Ai × Bool) (h : F54 x0 x1 x2 = some r) : CO 54 [.agg (d29 x0), .agg (d36 x1), .d (I x2)] [] (.tup [.agg [.os 0, .os 1, .os 2], .d (Bo r.2)]) [v0_ r.1.An, v0_ r.1.Ac, v0_ r.1.Ae] := by
 unfold F54 at h
 refine co 90 Tryz.func54 λ C hC => ?_
 obtain ⟨y1, h2, h⟩ := Ad h
 refine wn Js 26 [] [pc e53 (k53 x0 x1 _ h2) []] [.ownb 2 0 3 1, .ownb 2 1 3 1, .ownb 2 2 3 1] 0 n6_ [2, 3, 4, 6, 7, 28] hC [] ?_
 rcases cB h with ⟨h3, h⟩ | ⟨h3, h⟩
 ·replace h := sI h
  subst h
  exact wr Js 24 [true] [] [.ownb 2 0 3 1, .ownb 2 1 3 1, .ownb 2 2 3 1] 0 [6, 7, 8] hC [pq h3]
 ·obtain ⟨y4, h5, h⟩ := Ad h
  refine ws Js 28 [false] [pc A_x (A9f x0 x1 x2 _ h5) [], pl Bt x0.Ac] [.ownb 7 1 3 1, .ownb 7 2 3 1] 0 Fo (jM x0 (0, ([] : List Int))) (Afa x0 x1 y4 (0, ([] : List Int))) hC [pq h3] ?_
  obtain ⟨w0, hm0, hret0, hnext0⟩ := As h
  clear h
  refine wc w0 (Asn) (Avr x0 x1 y4) ?_ λ z0 hs0 => ?_
  ·refine wb ?_
   refine By (by kernel_rfl) (vM x0 x1 y4) (jM x0) (Afa x0 x1 y4) w0 1152921504606846976 (0, ([] : List Int)) hm0 rfl rfl λ z0 w0b h hb0 hr0 => ?_
   unfold vM at h
   rcases cB h with ⟨h6, h⟩ | ⟨h6, h⟩
   ·obtain ⟨y7, h8, h⟩ := Ad h
    obtain ⟨y9, h10, h⟩ := Ad h
    refine wn Js 34 [true] [pc e27 (k27 x0 x1 z0.1 _ h8) [], pv e55 (λ hg => k55 y4 y7.1 _ (A_ h10 hg))] [] 0 Fo [3, 4, 6, 7, 8, 9, 37, 38, 54] hC [pq h6] ?_
    rcases cB h with ⟨h11, h⟩ | ⟨h11, h⟩
    ·obtain ⟨y12, h13, h⟩ := Ad h
     exact wx w0b (jM x0) (Afa x0 x1 y4) Js 25 [true] [pa pI 1 h13] [] 0 [0, 1, 2, 3, 4, 5, 6, 7, 10, 9] (w64 (z0.1 + 1), y12) hC [pq h11] (sI h).symm
    ·exact wx w0b (jM x0) (Afa x0 x1 y4) Js 25 [false] [] [] 0 Fo (w64 (z0.1 + 1), z0.2) hC [pq h11] (sI h).symm
   ·exact wx w0 (Asn) (Avr x0 x1 y4) Js 26 [false] [] [] 0 Fo (z0.1, z0.2) hC [pq h6] (hb0 _ (sI h).symm)
  ·have h := hnext0 _ hs0
   refine ws Js 24 [] [pl q65 x0.Ae] [] 0 Fo (jL x0 (0, ([] : List Int))) (Ae9 x0 x1 y4 z0 (0, ([] : List Int))) hC [] ?_
   obtain ⟨w1, hm1, hret1, hnext1⟩ := As h
   clear h
   refine wc w1 (Asm) (Avq y4 z0) ?_ λ z1 hs1 => ?_
   ·refine wb ?_
    refine By (by kernel_rfl) (vL x0 x1 y4) (jL x0) (Ae9 x0 x1 y4 z0) w1 1152921504606846976 (0, ([] : List Int)) hm1 rfl rfl λ z1 w1b h hb1 hr1 => ?_
    unfold vL at h
    rcases cB h with ⟨h14, h⟩ | ⟨h14, h⟩
    ·obtain ⟨y15, h16, h⟩ := Ad h
     obtain ⟨y17, h18, h⟩ := Ad h
     refine wn Js 34 [true] [pc e48 (k48 x0 x1 z1.1 _ h16) [], pv e55 (λ hg => k55 y4 y15.1 _ (A_ h18 hg))] [] 0 Fo [3, 4, 6, 7, 8, 12, 64, 65, 81] hC [pq h14] ?_
     rcases cB h with ⟨h19, h⟩ | ⟨h19, h⟩
     ·obtain ⟨y20, h21, h⟩ := Ad h
      exact wx w1b (jL x0) (Ae9 x0 x1 y4 z0) Js 25 [true] [pa pI 1 h21] [] 0 [0, 1, 2, 3, 4, 5, 6, 7, 8, 10] (w64 (z1.1 + 1), y20) hC [pq h19] (sI h).symm
     ·exact wx w1b (jL x0) (Ae9 x0 x1 y4 z0) Js 25 [false] [] [] 0 Fo (w64 (z1.1 + 1), z1.2) hC [pq h19] (sI h).symm
    ·exact wx w1 (Asm) (Avq y4 z0) Js 26 [false] [] [] 0 [2, 3, 4, 5, 6, 7, 8, 9] (z1.1, z1.2) hC [pq h14] (hb1 _ (sI h).symm)
   ·have h := hnext1 _ hs1
    replace h := sI h
    subst h
    exact wr Js 23 [] [] [] 0 [4, 6, 7] hC []
theorem e54 : EN 54 := en Tryz.func54
def Tm : List Nat := [0, 1, 2, 3, 4, 5, 6, 7, 8, 12, 38, 50, 51, 52, 53, 77]
def Afx (x1 : Ab) (n0 : Nat) (z0 : Bool) : St := [(2, dO 0 0), (3, dO 1 0), (4, dI 0), (6, dB z0), (50, .d (DS pI x1.Ar)), (51, dI (ln x1.Ar)), (52, dI (cnt 0 n0))]
def Aqy (x0 : Aa) (x1 : Ab) (n0 : Nat) (z0 : Bool) : List Res := [.box 29 (d29 x0), .box 36 (d36 x1)]
def Asu  (z0 : Bool) : St := [(4, dI 0), (6, dB z0)]
def Avy  (z0 : Bool) : List Res := []
theorem k43 (x0 : Aa) (x1 : Ab) (r : Int) (h : F43 x0 x1 = some r) : CO 43 [.agg (d29 x0), .agg (d36 x1)] [] (.d (I r)) [] := by
 unfold F43 at h
 refine co 78 Tryz.func43 λ C hC => ?_
 obtain ⟨y1, h2, h⟩ := Ad h
 rcases cB h with ⟨h3, h⟩ | ⟨h3, h⟩
 ·replace h := sI h
  subst h
  exact wr Tm 31 [true] [pc e85 (k85 x0 _ h2) []] [] 0 [] hC [pq h3]
 ·refine wn Tm 33 [false] [pc e85 (k85 x0 _ h2) [], pl pB x1.Ah, pl Bi x0.Ag, pL_ [(((ln x1.Ah) != (ln x0.Ag)), false)] A6 x1.Ac, pL_ [(((ln x1.Ah) != (ln x0.Ag)), false)] Bt x0.Ac, pL_ [((((ln x1.Ah) != (ln x0.Ag)) || ((ln x1.Ac) != (ln x0.Ac))), false)] pI x1.Ar, pL_ [((((ln x1.Ah) != (ln x0.Ag)) || ((ln x1.Ac) != (ln x0.Ac))), false)] q65 x0.Ae] [] 0 [0, 1] [2, 3, 4, 38] hC [pq h3] ?_
  rcases cB h with ⟨h4, h⟩ | ⟨h4, h⟩
  ·replace h := sI h
   subst h
   exact wr Tm 24 [true] [] [] 0 [] hC [pq h4]
  ·obtain ⟨y5, h6, h⟩ := Ad h
   obtain ⟨y7, h8, h⟩ := Ad h
   refine ws Tm 28 [false] [pc e95 (k95 x0 x1.Ao _ h6) [], pw A6z (λ hg => A6e x1.Ac _ (A_ h8 hg)) [], pl pI x1.Ar] [] 0 [0, 1] (Afx x1 0 (y5 && (!y7))) (Aqy x0 x1 0 (y5 && (!y7))) hC [pq h4] ?_
   obtain ⟨w0, hm0, hret0, hnext0⟩ := As h
   clear h
   refine wc w0 (Asu) (Avy) ?_ λ z0 hs0 => ?_
   ·refine wb ?_
    refine Bm 50 rfl λ hl0 => ?_
    refine A8 (by kernel_rfl) (vS x0 x1) (Afx x1) (Aqy x0 x1) w0 x1.Ar (y5 && (!y7)) hm0 rfl rfl (λ z0 hn0 => ?_) λ n0 a0 z0 w0b hi0 hx0 h hb0 hr0 => ?_
    ·clear hm0
     exact wx w0 (Asu) (Avy) Tm 26 [false] [] [] 0 [] z0 hC [pq (Ba hl0)] hn0
    ·unfold vS at h
     obtain ⟨y9, h10, h⟩ := Ad h
     obtain ⟨y11, h12, h⟩ := Ad h
     exact wx w0b (Afx x1 (n0 + 1)) (Aqy x0 x1 (n0 + 1)) Tm 33 [true] [pt hx0 hl0, pR q65 h10, ⟨.when [(z0, true)] (.call 99 [dI a0, dI 0, dI y9.Load] [] (dB (F99 a0 0 y9.Load)) [] []), λ hg => ⟨e99, (k99 a0 0 y9.Load _ rfl)⟩⟩, pw A_1 (λ hg => A9j x0 x1 (cnt 0 n0) _ (A_ h12 hg)) []] [] 0 [0, 1] ((z0 && (F99 a0 0 y9.Load)) && (decide (y11 <= 1))) hC [pq (A9 hi0 hl0)] (sI h).symm
   ·have h := hnext0 _ hs0
    rcases cB h with ⟨h13, h⟩ | ⟨h13, h⟩
    ·replace h := sI h
     subst h
     exact wr Tm 27 [true] [] [] 0 [] hC [pq h13]
    ·replace h := sI h
     subst h
     exact wr Tm 28 [false] [] [] 0 [] hC [pq h13]
theorem e43 : EN 43 := en Tryz.func43
def Hk : List Nat := [0, 1, 4, 5, 6, 8, 13, 14, 15, 16, 32, 38, 39, 40, 41]
def Nh (x0 : Ax) (n0 : Nat) (z0 : Sg7) : St := [(0, dO 0 0), (1, .d (.fn (.func 205) [.o 0 0] [])), (4, dS 6), (13, .d (DS Bi x0.Al.Ag)), (14, dI (ln x0.Al.Ag)), (15, dI (cnt 0 n0))]
def Rk  (n0 : Nat) (z0 : Sg7) : List Res := [.box 235 [I z0.1, DS Bi z0.2.1, DS Bt z0.2.2.1, DS q65 (g3_ z0), I (g4_ z0), I (g5_ z0), .os 7, .os 8, .os 9, .os 10, .os 11], .non, .non, .non, .non, .non, v0_ (g6_ z0), v2_ (g7_ z0), v4_ (g8_ z0), v0_ (g9_ z0), v3_ (Cj z0), v6_ (Fu z0)]
def Acj  (z0 : Sg7) : St := [(0, dO 0 0), (4, dS 6)]
def Ad2  (z0 : Sg7) : List Res := [.box 235 [I z0.1, DS Bi z0.2.1, DS Bt z0.2.2.1, DS q65 (g3_ z0), I (g4_ z0), I (g5_ z0), .os 7, .os 8, .os 9, .os 10, .os 11], .non, .non, .non, .non, .non, v0_ (g6_ z0), v2_ (g7_ z0), v4_ (g8_ z0), v0_ (g9_ z0), v3_ (Cj z0), v6_ (Fu z0)]
def Sp (z0 : Sg7) (n1 : Nat) (z1 : Sg6) : St := [(0, dO 0 0), (38, dS 6), (39, dI (ln (g6_ z0))), (40, dI (cnt 0 n1))]
def Zg (z0 : Sg7) (n1 : Nat) (z1 : Sg6) : List Res := [.box 235 [I z1.1, DS Bi z1.2.1, DS Bt z1.2.2.1, DS q65 (g3_ z1), I (g4_ z1), I (g5_ z1), .os 7, .os 8, .os 9, .os 10, .os 11], .non, .non, .non, .non, .non, v0_ (g6_ z0), v2_ (g6_ z1), v4_ (g7_ z1), v0_ (g8_ z1), v3_ (g9_ z1), v6_ (Dr z1)]
def Aci  (z1 : Sg6) : St := []
def Ad1  (z1 : Sg6) : List Res := [.box 235 [I z1.1, DS Bi z1.2.1, DS Bt z1.2.2.1, DS q65 (g3_ z1), I (g4_ z1), I (g5_ z1), .os 6, .os 7, .os 8, .os 9, .os 10], .non, .non, .non, .non, .non, v2_ (g6_ z1), v4_ (g7_ z1), v0_ (g8_ z1), v3_ (g9_ z1), v6_ (Dr z1)]
theorem A2l (x0 : Ax) (r : Ax) (h : U_ x0 = some r) : CO 204 [.d (.o 0 0), .d (.fn (.func 205) [.o 0 0] [])] (.box 235 (zb x0.Al [.os 1, .os 2, .os 3, .os 4, .os 5]) :: zp x0.Au [v6_ x0.acts]) (.tup []) (.box 235 (zb r.Al [.os 6, .os 7, .os 8, .os 9, .os 10]) :: .non :: .non :: .non :: .non :: .non :: zp r.Au [v6_ r.acts]) := by
 unfold U_ at h
 refine co 48 Tryz.func204 λ C hC => ?_
 refine ws Hk 26 [] [pl Bi x0.Al.Ag] [.own 4 3 1, .mv 1, .mv 2, .mv 3, .mv 4, .mv 5] 6 E7 (Nh x0 0 (zt x0.Al (([] : List Int), zu x0.Au x0.acts))) (Rk 0 (zt x0.Al (([] : List Int), zu x0.Au x0.acts))) hC [] ?_
 obtain ⟨w0, hm0, hret0, hnext0⟩ := As h
 clear h
 refine wc w0 (Acj) (Ad2) ?_ λ z0 hs0 => ?_
 ·refine wb ?_
  refine Bm 13 rfl λ hl0 => ?_
  refine A8 (by kernel_rfl) Ob (Nh x0) (Rk) w0 x0.Al.Ag (zt x0.Al (([] : List Int), zu x0.Au x0.acts)) hm0 rfl rfl (λ z0 hn0 => ?_) λ n0 a0 z0 w0b hi0 hx0 h hb0 hr0 => ?_
  ·clear hm0
   exact wx w0 (Acj) (Ad2) Hk 26 [false] [] [] 6 E7 (z0.1, z0.2.1, z0.2.2.1, (g3_ z0), (g4_ z0), (g5_ z0), (g6_ z0), (g7_ z0), (g8_ z0), (g9_ z0), (Cj z0), (Fu z0)) hC [pq (Ba hl0)] hn0
  ·unfold Ob at h
   obtain ⟨y1, h2, h⟩ := Ad h
   obtain ⟨y3, h4, h⟩ := Ad h
   refine wn Hk 32 [true] [pt hx0 hl0, pr pB h2, pn pB h2, ⟨.whenR [(y1, true)] (.call 205 [dO 0 0, .agg (Ot a0)] [.box 235 [I z0.1, DS Bi z0.2.1, DS Bt z0.2.2.1, DS q65 (g3_ z0), I (g4_ z0), I (g5_ z0), .os 1, .os 2, .os 3, .os 4, .os 5], v2_ (g7_ z0), v4_ (g8_ z0), v0_ (g9_ z0), v3_ (Cj z0), v6_ (Fu z0)] (dB y3.1) (.box 235 (zb y3.2.Al [.os 1, .os 2, .os 3, .os 4, .os 5]) :: zp y3.2.Au [v6_ y3.2.acts]) [0, 7, 8, 9, 10, 11]), ⟨λ hg => ⟨A4c, (A2i (⟨(⟨z0.1, z0.2.1, z0.2.2.1, (g3_ z0), (g4_ z0), (g5_ z0)⟩ : Aa), (⟨(g7_ z0), (g8_ z0), (g9_ z0), (Cj z0)⟩ : Ab), (Fu z0)⟩ : Ax) a0 _ (A_ h4 hg))⟩, λ hg => by have e := Ht h4 hg; subst e; rfl⟩⟩] [] 6 E7 [0, 1, 4, 5, 13, 14, 15, 32] hC [pq (A9 hi0 hl0)] ?_
   rcases cB h with ⟨h5, h⟩ | ⟨h5, h⟩
   ·obtain ⟨y6, h7, h⟩ := Ad h
    exact wx w0b (Nh x0 (n0 + 1)) (Rk (n0 + 1)) Hk 25 [true] [pa pI 1 h7] [] 6 [0, 1, 2, 3, 4, 5, 12, 7, 8, 9, 10, 11] (zt y3.2.Al (y6, zu y3.2.Au y3.2.acts)) hC [pq h5] (sI h).symm
   ·exact wx w0b (Nh x0 (n0 + 1)) (Rk (n0 + 1)) Hk 25 [false] [] [] 6 E7 (zt y3.2.Al ((g6_ z0), zu y3.2.Au y3.2.acts)) hC [pq h5] (sI h).symm
 ·have h := hnext0 _ hs0
  refine ws Hk 23 [] [pl pI (g6_ z0)] [] 6 E7 (Sp z0 0 (z0.1, z0.2.1, z0.2.2.1, (g3_ z0), (g4_ z0), (g5_ z0), (g7_ z0), (g8_ z0), (g9_ z0), (Cj z0), (Fu z0))) (Zg z0 0 (z0.1, z0.2.1, z0.2.2.1, (g3_ z0), (g4_ z0), (g5_ z0), (g7_ z0), (g8_ z0), (g9_ z0), (Cj z0), (Fu z0))) hC [] ?_
  obtain ⟨w1, hm1, hret1, hnext1⟩ := As h
  clear h
  refine wc w1 (Aci) (Ad1) ?_ λ z1 hs1 => ?_
  ·refine wb ?_
   refine Cc 38 6 rfl rfl λ hl1 => ?_
   refine A8 (by kernel_rfl) Kv (Sp z0) (Zg z0) w1 (g6_ z0) (z0.1, z0.2.1, z0.2.2.1, (g3_ z0), (g4_ z0), (g5_ z0), (g7_ z0), (g8_ z0), (g9_ z0), (Cj z0), (Fu z0)) hm1 rfl rfl (λ z1 hn1 => ?_) λ n1 a1 z1 w1b hi1 hx1 h hb1 hr1 => ?_
   ·clear hm1
    exact wx w1 (Aci) (Ad1) Hk 26 [false] [] [] 6 [0, 1, 2, 3, 4, 5, 7, 8, 9, 10, 11] (z1.1, z1.2.1, z1.2.2.1, (g3_ z1), (g4_ z1), (g5_ z1), (g6_ z1), (g7_ z1), (g8_ z1), (g9_ z1), (Dr z1)) hC [pq (Ba hl1)] hn1
   ·unfold Kv at h
    obtain ⟨y8, h9, h⟩ := Ad h
    exact wx w1b (Sp z0 (n1 + 1)) (Zg z0 (n1 + 1)) Hk 33 [true] [pr pI (Bp hx1 hl1), pn pI (Bp hx1 hl1), pc Ah4 (Ag9 (⟨(⟨z1.1, z1.2.1, z1.2.2.1, (g3_ z1), (g4_ z1), (g5_ z1)⟩ : Aa), (⟨(g6_ z1), (g7_ z1), (g8_ z1), (g9_ z1)⟩ : Ab), (Dr z1)⟩ : Ax) a1 _ h9) [0, 7, 8, 9, 10, 11]] [] 6 [0, 1, 2, 3, 4, 5, 6, 7, 8, 9, 10, 12] (zt y8.Al (zu y8.Au y8.acts)) hC [pq (A9 hi1 hl1)] (sI h).symm
  ·have h := hnext1 _ hs1
   replace h := sI h
   subst h
   exact wf Hk 20 [] [] [] 6 Yi hC []
theorem A4f : EN 204 := en Tryz.func204
theorem A15 (x0 : List Int) (x1c0 : Aa) (r : (List Int) × Aa) (h : Uw x0 x1c0 = some r) : CO 232 [.d (.os 0), .d (.fn (.func 233) [] [.o 1 0])] [v0_ x0, .box 29 (d29 x1c0)] (.tup []) [v0_ r.1, .box 29 (d29 r.2)] := by
 unfold Uw at h
 refine co 9 Tryz.func232 λ C hC => ?_
 obtain ⟨y1, h2, h⟩ := Ad h
 replace h := sI h
 subst h
 exact wf [0, 1] 21 [] [pl pI x0, pc A3w (A12 x0 (ln x0) x1c0 _ h2) [0, 1]] [] 2 [0, 1] hC []
theorem A3z : EN 232 := en Tryz.func232
def E0 : List Nat := [0, 1, 2, 3, 4, 5, 7, 8, 9, 10, 11, 12, 13, 14, 15, 16, 17, 19, 24, 42, 47, 56, 67, 71, 75, 84, 85, 86, 87, 92, 102, 110, 119, 128, 139, 152, 169, 177, 201, 221, 229, 241, 257, 266, 275, 276, 277, 278, 310]
def Agk (x2 : Int) (x3 : Ap) (z0 : Bool) : St := [(2, dI x2), (4, dO 0 0), (5, dO 1 0), (7, dO 2 0), (8, dO 3 0), (9, dI 0), (11, dO 12 0), (47, dI x3.Kind), (139, dB z0)]
def Aje (x0 : Aa) (x1 : Ab) (x3 : Ap) (y5 : Ab) (z0 : Bool) : List Res := (.box 29 (d29 x0) :: .box 36 (d36 x1) :: .box 49 (d49 x3) :: .box 36 [.os 4, .os 5, .os 6, .os 7] :: ze (zp y5 [.box 36 [.os 8, .os 9, .os 10, .os 11]]))
def jR (x2 : Int) (y37 : Ab × Int) (n1 : Nat) (z1 : (List Af)) : St := [(2, dI x2), (4, dO 0 0), (8, dO 1 0), (9, dI 0), (11, dO 6 0), (275, dS 8), (276, dI (ln y37.1.Ac)), (277, dI (cnt 0 n1))]
def Aff (x0 : Aa) (y37 : Ab × Int) (n1 : Nat) (z1 : (List Af)) : List Res := (.box 29 (d29 x0) :: .box 36 [.os 2, .os 3, .os 4, .os 5] :: ze [.box 36 [.os 7, .os 8, .os 9, .os 10], v2_ y37.1.Ah, v4_ z1, v0_ y37.1.Ar, v3_ y37.1.Ao])
def As3  (z1 : (List Af)) : St := [(8, dO 0 0), (9, dI 0), (11, dO 5 0)]
def Av7 (y37 : Ab × Int) (z1 : (List Af)) : List Res := (.box 36 [.os 1, .os 2, .os 3, .os 4] :: ze [.box 36 [.os 6, .os 7, .os 8, .os 9], v2_ y37.1.Ah, v4_ z1, v0_ y37.1.Ar, v3_ y37.1.Ao])
set_option maxHeartbeats 4000000 in
theorem k23 (x0 : Aa) (x1 : Ab) (x2 : Int) (x3 : Ap) (r : Ab × Int) (h : F23 x0 x1 x2 x3 = some r) : CO 23 [.agg (d29 x0), .agg (d36 x1), .d (I x2), .agg (d49 x3)] [] (.tup [.agg [.os 0, .os 1, .os 2, .os 3], .d (I r.2)]) (zp r.1 []) := by
 unfold F23 at h
 refine co 318 Tryz.func23 λ C hC => ?_
 obtain ⟨y1, h2, h⟩ := Ad h
 refine wn E0 28 [] [pc e53 (k53 x0 x1 _ h2) []] [.ownb 3 0 4 1, .ownb 3 1 120 4, .ownb 3 2 3 1, .ownb 3 3 86 2] 0 n8_ [2, 4, 5, 7, 8, 9, 10, 24] hC [] ?_
 rcases cB h with ⟨h3, h⟩ | ⟨h3, h⟩
 ·replace h := sI h
  subst h
  exact wr E0 24 [true] [] [.ownb 3 0 4 1, .ownb 3 1 120 4, .ownb 3 2 3 1, .ownb 3 3 86 2] 0 [8, 9, 10, 11] hC [pq h3]
 ·rcases cB h with ⟨h4, h⟩ | ⟨h4, h⟩
  ·replace h := sI h
   subst h
   exact wr E0 29 [false, true] [] [.ownb 3 0 4 1, .ownb 3 1 120 4, .ownb 3 2 3 1, .ownb 3 3 86 2] 0 [8, 9, 10, 11] hC [pq h3, pq h4]
  ·obtain ⟨y5, h6, h⟩ := Ad h
   refine wn E0 36 [false, false] [pc e65 (k65 x1 _ h6) []] [] 0 Fm [2, 4, 5, 7, 8, 9, 11, 47, 110] hC [pq h3, pq h4] ?_
   rcases cB h with ⟨h7, h⟩ | ⟨h7, h⟩
   ·cases h
   ·rcases cB h with ⟨h8, h⟩ | ⟨h8, h⟩
    ·cases h
    ·rcases cB h with ⟨h9, h⟩ | ⟨h9, h⟩
     ·cases h
     ·refine wn E0 31 [false, false, false] [] [] 0 Fm [2, 4, 5, 7, 8, 9, 11, 47, 139] hC [pq h7, pq h8, pq h9] ?_
      obtain ⟨w0, h, hret0, hnext0⟩ := As h
      refine wc w0 (Agk x2 x3) (Aje x0 x1 x3 y5) ?_ λ z0 hs0 => ?_
      ·unfold Awf at h
       rcases cB h with ⟨h10, h⟩ | ⟨h10, h⟩
       ·exact wx w0 (Agk x2 x3) (Aje x0 x1 x3 y5) E0 23 [true] [] [] 0 Fm (x3.Kind == 3) hC [pq h10] (sI h).symm
       ·exact wx w0 (Agk x2 x3) (Aje x0 x1 x3 y5) E0 23 [false] [] [] 0 Fm (x3.Kind == 4) hC [pq h10] (sI h).symm
      ·clear h; have h := hnext0 _ hs0
       rcases cB h with ⟨h11, h⟩ | ⟨h11, h⟩
       ·rcases cB h with ⟨h12, h⟩ | ⟨h12, h⟩
        ·replace h := sI h
         subst h
         exact wr E0 28 [true, true] [pL_ [(decide (x3.Unit < 0), false)] Bt x0.Ac] [.ownb 3 0 4 1, .ownb 3 1 120 4, .ownb 3 2 3 1, .ownb 3 3 86 2] 0 [13, 14, 15, 16] hC [pq h11, pq h12]
        ·obtain ⟨y13, h14, h⟩ := Ad h
         obtain ⟨y15, h16, h⟩ := Ad h
         obtain ⟨y17, h18, h⟩ := Ad h
         refine wn E0 34 [true, false] [pL_ [(decide (x3.Unit < 0), false)] Bt x0.Ac, pr A6 h14, pc e69 (k69 x0 2 x3.Unit _ h16) [], pr pI h18, pn pI h18] [] 0 Fm [2, 4, 5, 7, 8, 9, 11, 12, 13, 169] hC [pq h11, pq h12] ?_
         rcases cB h with ⟨h19, h⟩ | ⟨h19, h⟩
         ·cases h
         ·obtain ⟨y20, h21, h⟩ := Ad h
          rcases cB h with ⟨h22, h⟩ | ⟨h22, h⟩
          ·replace h := sI h
           subst h
           exact wr E0 29 [false, true] [pR pB h21] [.ownb 3 0 4 1, .ownb 3 1 120 4, .ownb 3 2 3 1, .ownb 3 3 86 2] 0 [13, 14, 15, 16] hC [pq h19, pq h22]
          ·obtain ⟨y23, h24, h⟩ := Ad h
           obtain ⟨y25, h26, h⟩ := Ad h
           replace h := sI h
           subst h
           exact wr E0 32 [false, false] [pR pB h21, pr A6 h24, pu A6 h24 h26] [] 0 [8, 9, 10, 11] hC [pq h19, pq h22]
       ·rcases cB h with ⟨h27, h⟩ | ⟨h27, h⟩
        ·rcases cB h with ⟨h28, h⟩ | ⟨h28, h⟩
         ·replace h := sI h
          subst h
          exact wr E0 31 [false, true, true] [pL_ [(decide (x3.Unit < 0), false)] q65 x0.Ae] [.ownb 3 0 4 1, .ownb 3 1 120 4, .ownb 3 2 3 1, .ownb 3 3 86 2] 0 [13, 14, 15, 16] hC [pq h11, pq h27, pq h28]
         ·obtain ⟨y29, h30, h⟩ := Ad h
          refine wn E0 33 [false, true, false] [pL_ [(decide (x3.Unit < 0), false)] q65 x0.Ae, pR q65 h30] [] 0 [2, 3, 4, 5, 6, 7, 8, 9, 10, 11, 12] [7, 8, 9, 11, 257] hC [pq h11, pq h27, pq h28] ?_
          rcases cB h with ⟨h31, h⟩ | ⟨h31, h⟩
          ·replace h := sI h
           subst h
           exact wr E0 24 [true] [] [.ownb 1 0 4 1, .ownb 1 1 120 4, .ownb 1 2 3 1, .ownb 1 3 86 2] 0 [11, 12, 13, 14] hC [pq h31]
          ·obtain ⟨y32, h33, h⟩ := Ad h
           obtain ⟨y34, h35, h⟩ := Ad h
           replace h := sI h
           subst h
           exact wr E0 27 [false] [pr pI h33, pu pI h33 h35] [] 0 [6, 7, 8, 9] hC [pq h31]
        ·rcases cB h with ⟨h36, h⟩ | ⟨h36, h⟩
         ·obtain ⟨y37, h38, h⟩ := Ad h
          refine ws E0 32 [false, false, true] [pc e70 (k70 x0 x1 _ h38) [], pl A6 y37.1.Ac] [] 0 [0, 3, 4, 5, 6, 7, 12, 13, 14, 15, 16] (jR x2 y37 0 y37.1.Ac) (Aff x0 y37 0 y37.1.Ac) hC [pq h11, pq h27, pq h36] ?_
          obtain ⟨w1, hm1, hret1, hnext1⟩ := As h
          clear h
          refine wc w1 (As3) (Av7 y37) ?_ λ z1 hs1 => ?_
          ·refine wb ?_
           refine Cc 275 8 rfl rfl λ hl1 => ?_
           refine A8 (by kernel_rfl) (yA x0 x2 y37) (jR x2 y37) (Aff x0 y37) w1 y37.1.Ac y37.1.Ac hm1 rfl rfl (λ z1 hn1 => ?_) λ n1 a1 z1 w1b hi1 hx1 h hb1 hr1 => ?_
           ·clear hm1
            exact wx w1 (As3) (Av7 y37) E0 26 [false] [] [] 0 [1, 2, 3, 4, 5, 6, 7, 8, 9, 10] z1 hC [pq (Ba hl1)] hn1
           ·unfold yA at h
            obtain ⟨y39, h40, h⟩ := Ad h
            obtain ⟨y41, h42, h⟩ := Ad h
            obtain ⟨y43, h44, h⟩ := Ad h
            obtain ⟨y45, h46, h⟩ := Ad h
            obtain ⟨y47, h48, h⟩ := Ad h
            refine wn E0 32 [true] [pr A6 h40, pn A6 h40, pw e69 (λ hg => k69 x0 2 (cnt 0 n1) _ (A_ h42 hg)) [], pR pI h44, pN pI h44, pR pB h46, pN pB h46, pR Bt h48] [] 0 Yi [2, 4, 8, 9, 11, 14, 275, 276, 277, 310] hC [pq (A9 hi1 hl1)] ?_
            rcases cB h with ⟨h49, h⟩ | ⟨h49, h⟩
            ·obtain ⟨y50, h51, h⟩ := Ad h
             exact wx w1b (jR x2 y37 (n1 + 1)) (Aff x0 y37 (n1 + 1)) E0 25 [true] [pr A6 h40, pu A6 h40 h51] [] 0 Yi y50 hC [pq h49] (sI h).symm
            ·exact wx w1b (jR x2 y37 (n1 + 1)) (Aff x0 y37 (n1 + 1)) E0 25 [false] [] [] 0 Yi z1 hC [pq h49] (sI h).symm
          ·have h := hnext1 _ hs1
           replace h := sI h
           subst h
           exact wr E0 24 [] [] [] 0 [6, 7, 8, 9] hC []
         ·refine wn E0 33 [false, false, false] [pc e71 (k71 x0 (⟨x3.Value, x3.Unit⟩ : Am) _ rfl) []] [] 0 [1, 2, 3, 4, 5, 6, 7, 8, 9, 10, 11, 12, 13] [5, 7, 8, 9, 11, 16, 56] hC [pq h11, pq h27, pq h36] ?_
          rcases cB h with ⟨h52, h⟩ | ⟨h52, h⟩
          ·replace h := sI h
           subst h
           exact wr E0 24 [true] [] [.ownb 2 0 4 1, .ownb 2 1 120 4, .ownb 2 2 3 1, .ownb 2 3 86 2] 0 [13, 14, 15, 16] hC [pq h52]
          ·cases h
theorem e23 : EN 23 := en Tryz.func23
def Ag4 : List Nat := [0, 1, 2, 3, 4, 5, 6, 7, 9, 12, 17, 41, 42, 43, 44]
def Af0 (x0 : Aa) (n0 : Nat) (z0 : (List Int)) : St := [(4, dO 0 0), (5, dI 0), (7, dO 8 0), (41, .d (DS q65 x0.Ae)), (42, dI (ln x0.Ae)), (43, dI (cnt 0 n0))]
def Aq1 (y5 : (List Az)) (y7 : List Bool) (y9 : (List Af)) (n0 : Nat) (z0 : (List Int)) : List Res := (.box 40 [I 0, .os 1, .os 2, .os 3, .os 4, .os 5, .os 6] :: ze [v5_ ([] : List Az), v1_ ([] : List Bg), v5_ y5, .box 40 [I 0, .os 9, .os 10, .os 11, .os 12, .os 7, .os 13], v2_ y7, v4_ y9, v0_ z0, v3_ ([] : List Am), v1_ ([] : List Bg)])
def Asx  (z0 : (List Int)) : St := [(4, dO 0 0), (5, dI 0), (7, dO 8 0)]
def Av1 (y5 : (List Az)) (y7 : List Bool) (y9 : (List Af)) (z0 : (List Int)) : List Res := (.box 40 [I 0, .os 1, .os 2, .os 3, .os 4, .os 5, .os 6] :: ze [v5_ ([] : List Az), v1_ ([] : List Bg), v5_ y5, .box 40 [I 0, .os 9, .os 10, .os 11, .os 12, .os 7, .os 13], v2_ y7, v4_ y9, v0_ z0, v3_ ([] : List Am), v1_ ([] : List Bg)])
theorem k36 (x0 : Aa) (x1 : Bf) (r : A0 × Int) (h : F36 x0 x1 = some r) : CO 36 [.agg (d29 x0), .agg (d31 x1)] [] (.tup [.agg [I r.1.Time, .os 0, .os 1, .os 2, .os 3, .os 4, .os 5], .d (I r.2)]) (zp r.1.Power [v5_ r.1.A5, v1_ r.1.A7]) := by
 unfold F36 at h
 refine co 58 Tryz.func36 λ C hC => ?_
 obtain ⟨y1, h2, h⟩ := Ad h
 rcases cB h with ⟨h3, h⟩ | ⟨h3, h⟩
 ·cases h
 ·refine wn Ag4 32 [false] [pc e85 (k85 x0 _ h2) [], pc e59 (k59 x1 _ rfl) []] [.ownb 2 1 4 1, .ownb 2 2 120 4, .ownb 2 3 3 1, .ownb 2 4 86 2, .ownb 2 5 130 2, .ownb 2 6 51 5] 0 [0, 2, 3, 4, 5, 6, 7, 8] [2, 4, 5, 17] hC [pq h3] ?_
  rcases cB h with ⟨h4, h⟩ | ⟨h4, h⟩
  ·cases h
  ·obtain ⟨y5, h6, h⟩ := Ad h
   obtain ⟨y7, h8, h⟩ := Ad h
   obtain ⟨y9, h10, h⟩ := Ad h
   refine ws Ag4 33 [false] [pc e86 (k86 x0.An _ h6) [], pl Bi x0.Ag, ⟨.room ((ln x0.Ag) * (1 + 1)) (List.replicate (Int.toNat (ln x0.Ag)) (pB false)) (y7.map pB), G7 h8⟩, pl Bt x0.Ac, pc e87 (k87 [(⟨0, 0, 5000, 0⟩ : Af)] (ln x0.Ac) _ h10) [], pl q65 x0.Ae] [.ownb 9 3 3 1, .ownb 9 4 86 2, .ownb 9 6 51 5] 0 [1, 2, 3, 4, 5, 6, 7, 8, 9, 10, 11, 12, 13, 14] (Af0 x0 0 ([] : List Int)) (Aq1 y5 y7 y9 0 ([] : List Int)) hC [pq h4] ?_
   obtain ⟨w0, hm0, hret0, hnext0⟩ := As h
   clear h
   refine wc w0 (Asx) (Av1 y5 y7 y9) ?_ λ z0 hs0 => ?_
   ·refine wb ?_
    refine Bm 41 rfl λ hl0 => ?_
    refine A8 (by kernel_rfl) Akb (Af0 x0) (Aq1 y5 y7 y9) w0 x0.Ae ([] : List Int) hm0 rfl rfl (λ z0 hn0 => ?_) λ n0 a0 z0 w0b hi0 hx0 h hb0 hr0 => ?_
    ·clear hm0
     exact wx w0 (Asx) (Av1 y5 y7 y9) Ag4 26 [false] [] [] 0 A72 z0 hC [pq (Ba hl0)] hn0
    ·unfold Akb at h
     obtain ⟨y11, h12, h⟩ := Ad h
     exact wx w0b (Af0 x0 (n0 + 1)) (Aq1 y5 y7 y9 (n0 + 1)) Ag4 33 [true] [pt hx0 hl0, pa pI 1 h12] [] 0 [0, 1, 2, 3, 4, 5, 6, 7, 8, 9, 10, 15, 12, 13] y11 hC [pq (A9 hi0 hl0)] (sI h).symm
   ·have h := hnext0 _ hs0
    replace h := sI h
    subst h
    exact wr Ag4 23 [] [] [] 0 [9, 10, 11, 12, 7, 13] hC []
theorem e36 : EN 36 := en Tryz.func36
theorem A28 (x0 : List C6) (r : Bool) (h : Aky x0 = some r) : CO 149 [.d (DS Yd x0), .d (.fn (.func 150) [] [])] [] (.d (Bo r)) [] := by
 unfold Aky at h
 refine co 9 Tryz.func149 λ C hC => ?_
 obtain ⟨y1, h2, h⟩ := Ad h
 replace h := sI h
 subst h
 exact wr [0, 1, 4] 25 [] [pc A4i (A2o x0 _ h2) []] [] 0 [] hC []
theorem A42 : EN 149 := en Tryz.func149
def Ml : List Nat := [0, 1, 2, 3, 4, 5, 6, 7, 12, 16, 31]
def jQ  (z0 : Int × (List Ai)) : St := [(2, dO 0 0), (3, dO 1 0), (4, .d (DS q84 [])), (5, dS 2), (6, dI z0.1)]
def Afe (x0 : Aa) (x1 : Ab) (z0 : Int × (List Ai)) : List Res := [.box 29 (d29 x0), .box 36 (d36 x1), v8_ z0.2]
def As2  (z0 : Int × (List Ai)) : St := [(4, .d (DS q84 [])), (5, dS 0)]
def Av6  (z0 : Int × (List Ai)) : List Res := [v8_ z0.2]
theorem k25 (x0 : Aa) (x1 : Ab) (r : (List Ai)) (h : F25 x0 x1 = some r) : CO 25 [.agg (d29 x0), .agg (d36 x1)] [] (.d (.os 0)) [v8_ r] := by
 unfold F25 at h
 refine co 37 Tryz.func25 λ C hC => ?_
 obtain ⟨y1, h2, h⟩ := Ad h
 refine wn Ml 26 [] [pc e53 (k53 x0 x1 _ h2) []] [] 0 [0, 1] [2, 3, 4, 12] hC [] ?_
 rcases cB h with ⟨h3, h⟩ | ⟨h3, h⟩
 ·replace h := sI h
  subst h
  exact wr Ml 24 [true] [] [.own 4 84 3] 0 [2] hC [pq h3]
 ·refine ws Ml 28 [false] [] [.own 5 84 3] 0 n3_ (jQ (0, ([] : List Ai))) (Afe x0 x1 (0, ([] : List Ai))) hC [pq h3] ?_
  obtain ⟨w0, hm0, hret0, hnext0⟩ := As h
  clear h
  refine wc w0 (As2) (Av6) ?_ λ z0 hs0 => ?_
  ·refine wb ?_
   refine By (by kernel_rfl) (vX x0 x1) (jQ) (Afe x0 x1) w0 1152921504606846976 (0, ([] : List Ai)) hm0 rfl rfl λ z0 w0b h hb0 hr0 => ?_
   unfold vX at h
   rcases cB h with ⟨h4, h⟩ | ⟨h4, h⟩
   ·obtain ⟨y5, h6, h⟩ := Ad h
    obtain ⟨y7, h8, h⟩ := Ad h
    refine wn Ml 32 [true] [pc e54 (k54 x0 x1 z0.1 _ h6) [], pr pI h8, pn pI h8] [] 0 n7_ [2, 3, 4, 5, 6, 7, 31] hC [pq h4] ?_
    rcases cB h with ⟨h9, h⟩ | ⟨h9, h⟩
    ·refine wn Ml 1 [true] [] [.frz 3] 0 [0, 1, 2, 4, 5, 6] [2, 3, 4, 5, 6, 7] hC [pq h9] ?_
     refine wn Ml 0 [] [] [.frz 3] 0 [0, 1, 2, 4, 5] [2, 3, 4, 5, 6, 7] hC [] ?_
     refine wn Ml 0 [] [] [.frz 3] 0 [0, 1, 2, 4] [2, 3, 4, 5, 6, 7] hC [] ?_
     obtain ⟨y10, h11, h⟩ := Ad h
     exact wx w0b (jQ) (Afe x0 x1) Ml 24 [] [pa q84 3 h11] [] 0 [0, 1, 4] (w64 (z0.1 + 1), y10) hC [] (sI h).symm
    ·exact wx w0b (jQ) (Afe x0 x1) Ml 25 [false] [] [] 0 n3_ (w64 (z0.1 + 1), z0.2) hC [pq h9] (sI h).symm
   ·exact wx w0 (As2) (Av6) Ml 26 [false] [] [] 0 [2] (z0.1, z0.2) hC [pq h4] (hb0 _ (sI h).symm)
  ·have h := hnext0 _ hs0
   replace h := sI h
   subst h
   exact wr Ml 23 [] [] [] 0 [0] hC []
theorem e25 : EN 25 := en Tryz.func25
def G8 : List Nat := [0, 1, 2, 3, 4, 5, 6, 7, 8, 9, 10, 11, 12, 13, 14, 18, 25, 26, 27, 28, 47, 48, 49, 58, 80, 81, 82, 91]
def Afm (y4 : (List Int)) (n0 : Nat) (z0 : (List Ai)) : St := [(2, dO 0 0), (3, dO 1 0), (4, .d (DS q84 [])), (5, dS 2), (6, dS 3), (25, dS 2), (26, dI (ln y4)), (27, dI (cnt 0 n0))]
def Aqo (x0 : Aa) (x1 : Ab) (y4 : (List Int)) (n0 : Nat) (z0 : (List Ai)) : List Res := [.box 29 (d29 x0), .box 36 (d36 x1), v0_ y4, .dsl 84 3 4, .gh 3 [(3, 1), (3, 1), (3, 1)] (z0.map q84) none]
def Asc  (z0 : (List Ai)) : St := [(2, dO 0 0), (3, dO 1 0), (4, .d (DS q84 [])), (5, dS 2), (6, dS 3)]
def Avg (x0 : Aa) (x1 : Ab) (y4 : (List Int)) (z0 : (List Ai)) : List Res := [.box 29 (d29 x0), .box 36 (d36 x1), v0_ y4, .dsl 84 3 4, .gh 3 [(3, 1), (3, 1), (3, 1)] (z0.map q84) none]
def jH (x0 : Aa) (z1 : Int × (List Ai)) : St := [(2, dO 0 0), (3, dO 1 0), (4, .d (DS q84 [])), (5, dS 2), (6, dS 3), (47, dI (ln x0.Ac)), (48, dI z1.1)]
def Ae5 (x0 : Aa) (x1 : Ab) (y4 : (List Int)) (z1 : Int × (List Ai)) : List Res := [.box 29 (d29 x0), .box 36 (d36 x1), v0_ y4, .dsl 84 3 4, .gh 3 [(3, 1), (3, 1), (3, 1)] (z1.2.map q84) none]
def Asb  (z1 : Int × (List Ai)) : St := [(2, dO 0 0), (3, dO 1 0), (4, .d (DS q84 [])), (5, dS 2), (6, dS 3)]
def Avf (x0 : Aa) (x1 : Ab) (y4 : (List Int)) (z1 : Int × (List Ai)) : List Res := [.box 29 (d29 x0), .box 36 (d36 x1), v0_ y4, .dsl 84 3 4, .gh 3 [(3, 1), (3, 1), (3, 1)] (z1.2.map q84) none]
def jG (x0 : Aa) (z2 : Int × (List Ai)) : St := [(2, dO 0 0), (3, dO 1 0), (4, .d (DS q84 [])), (5, dS 2), (6, dS 3), (80, dI (ln x0.Ae)), (81, dI z2.1)]
def Ae4 (x0 : Aa) (x1 : Ab) (y4 : (List Int)) (z2 : Int × (List Ai)) : List Res := [.box 29 (d29 x0), .box 36 (d36 x1), v0_ y4, .dsl 84 3 4, .gh 3 [(3, 1), (3, 1), (3, 1)] (z2.2.map q84) none]
def Asa  (z2 : Int × (List Ai)) : St := [(4, .d (DS q84 [])), (6, dS 0)]
def Ave  (z2 : Int × (List Ai)) : List Res := [.dsl 84 3 1, .gh 3 [(3, 1), (3, 1), (3, 1)] (z2.2.map q84) none]
theorem k89 (x0 : Aa) (x1 : Ab) (r : (List Ai)) (h : F89 x0 x1 = some r) : CO 89 [.agg (d29 x0), .agg (d36 x1)] [] (.d (.os 0)) [v8_ r] := by
 unfold F89 at h
 refine co 113 Tryz.func89 λ C hC => ?_
 obtain ⟨y1, h2, h⟩ := Ad h
 refine wn G8 26 [] [pc e43 (k43 x0 x1 _ h2) []] [] 0 [0, 1] [2, 3, 4, 18] hC [] ?_
 rcases cB h with ⟨h3, h⟩ | ⟨h3, h⟩
 ·replace h := sI h
  subst h
  exact wr G8 24 [true] [] [.own 4 84 3] 0 [2] hC [pq h3]
 ·obtain ⟨y4, h5, h⟩ := Ad h
  obtain ⟨y6, h7, h⟩ := Ad h
  refine ws G8 30 [false] [pc A45 (A3b x0 x1 _ h5) [], ⟨.roomZ (x0.An * (72 + 1)) (List.replicate (Int.toNat x0.An) (q84 (⟨([] : List Int), ([] : List Int), ([] : List Int)⟩ : Ai))) (y6.map q84), Ti h7⟩, pl pI y4] [.deep 3 [(3, 1), (3, 1), (3, 1)]] 0 n5_ (Afm y4 0 y6) (Aqo x0 x1 y4 0 y6) hC [pq h3] ?_
  obtain ⟨w0, hm0, hret0, hnext0⟩ := As h
  clear h
  refine wc w0 (Asc) (Avg x0 x1 y4) ?_ λ z0 hs0 => ?_
  ·refine wb ?_
   refine Cc 25 2 rfl rfl λ hl0 => ?_
   refine A8 (by kernel_rfl) vB (Afm y4) (Aqo x0 x1 y4) w0 y4 y6 hm0 rfl rfl (λ z0 hn0 => ?_) λ n0 a0 z0 w0b hi0 hx0 h hb0 hr0 => ?_
   ·clear hm0
    exact wx w0 (Asc) (Avg x0 x1 y4) G8 26 [false] [] [] 0 n5_ z0 hC [pq (Ba hl0)] hn0
   ·unfold vB at h
    obtain ⟨y8, h9, h⟩ := Ad h
    obtain ⟨y10, h11, h⟩ := Ad h
    obtain ⟨y12, h13, h⟩ := Ad h
    exact wx w0b (Afm y4 (n0 + 1)) (Aqo x0 x1 y4 (n0 + 1)) G8 33 [true] [pr pI (Bp hx0 hl0), pn pI (Bp hx0 hl0), pr q84 h9, pn q84 h9, ⟨.appD (z0.map q84) (Int.toNat a0) (q84 y8) 0 (y8.An.map pI) ([cnt 0 n0].map pI) 1 (((y8.An.map pI).length + ([cnt 0 n0].map pI).length) * (8 + 1)) (y10.map pI), Im 1 (λ _ => rfl) h9 rfl h11⟩, pr q84 h9, ⟨.updD (z0.map q84) (Int.toNat a0) (Int.toNat a0) (q84 y8) (q84 (⟨y10, y8.Ac, y8.Ae⟩ : Ai)) (y12.map q84), Ie h9 h13⟩] [] 0 [0, 1, 2, 3, 8] y12 hC [pq (A9 hi0 hl0)] (sI h).symm
  ·have h := hnext0 _ hs0
   refine ws G8 24 [] [pl Bt x0.Ac] [] 0 n5_ (jH x0 (0, z0)) (Ae5 x0 x1 y4 (0, z0)) hC [] ?_
   obtain ⟨w1, hm1, hret1, hnext1⟩ := As h
   clear h
   refine wc w1 (Asb) (Avf x0 x1 y4) ?_ λ z1 hs1 => ?_
   ·refine wb ?_
    refine By (by kernel_rfl) (vA x0 x1 y4) (jH x0) (Ae5 x0 x1 y4) w1 1152921504606846976 (0, z0) hm1 rfl rfl λ z1 w1b h hb1 hr1 => ?_
    unfold vA at h
    rcases cB h with ⟨h14, h⟩ | ⟨h14, h⟩
    ·obtain ⟨y15, h16, h⟩ := Ad h
     refine wn G8 34 [true] [pc Axz (Axh x0 x1 z1.1 _ h16) []] [] 0 n5_ [2, 3, 4, 5, 6, 9, 10, 47, 48, 58] hC [pq h14] ?_
     rcases cB h with ⟨h17, h⟩ | ⟨h17, h⟩
     ·obtain ⟨y18, h19, h⟩ := Ad h
      obtain ⟨y20, h21, h⟩ := Ad h
      obtain ⟨y22, h23, h⟩ := Ad h
      obtain ⟨y24, h25, h⟩ := Ad h
      exact wx w1b (jH x0) (Ae5 x0 x1 y4) G8 25 [true] [pr pI h19, pn pI h19, pr pI h19, pn pI h19, pr q84 h21, pn q84 h21, ⟨.appD (z1.2.map q84) (Int.toNat y18) (q84 y20) 1 (y20.Ac.map pI) ([z1.1].map pI) 1 (((y20.Ac.map pI).length + ([z1.1].map pI).length) * (8 + 1)) (y22.map pI), Im 1 (λ _ => rfl) h21 rfl h23⟩, pr q84 h21, ⟨.updD (z1.2.map q84) (Int.toNat y18) (Int.toNat y18) (q84 y20) (q84 (⟨y20.An, y22, y20.Ae⟩ : Ai)) (y24.map q84), Ie h21 h25⟩] [] 0 [0, 1, 2, 3, 8] (w64 (z1.1 + 1), y24) hC [pq h17] (sI h).symm
     ·exact wx w1b (jH x0) (Ae5 x0 x1 y4) G8 25 [false] [] [] 0 n5_ (w64 (z1.1 + 1), z1.2) hC [pq h17] (sI h).symm
    ·exact wx w1 (Asb) (Avf x0 x1 y4) G8 26 [false] [] [] 0 n5_ (z1.1, z1.2) hC [pq h14] (hb1 _ (sI h).symm)
   ·have h := hnext1 _ hs1
    refine ws G8 24 [] [pl q65 x0.Ae] [] 0 n5_ (jG x0 (0, z1.2)) (Ae4 x0 x1 y4 (0, z1.2)) hC [] ?_
    obtain ⟨w2, hm2, hret2, hnext2⟩ := As h
    clear h
    refine wc w2 (Asa) (Ave) ?_ λ z2 hs2 => ?_
    ·refine wb ?_
     refine By (by kernel_rfl) (uZ x0 x1 y4) (jG x0) (Ae4 x0 x1 y4) w2 1152921504606846976 (0, z1.2) hm2 rfl rfl λ z2 w2b h hb2 hr2 => ?_
     unfold uZ at h
     rcases cB h with ⟨h26, h⟩ | ⟨h26, h⟩
     ·obtain ⟨y27, h28, h⟩ := Ad h
      refine wn G8 34 [true] [pc Axy (Axg x0 x1 z2.1 _ h28) []] [] 0 n5_ [2, 3, 4, 5, 6, 12, 13, 80, 81, 91] hC [pq h26] ?_
      rcases cB h with ⟨h29, h⟩ | ⟨h29, h⟩
      ·obtain ⟨y30, h31, h⟩ := Ad h
       obtain ⟨y32, h33, h⟩ := Ad h
       obtain ⟨y34, h35, h⟩ := Ad h
       obtain ⟨y36, h37, h⟩ := Ad h
       exact wx w2b (jG x0) (Ae4 x0 x1 y4) G8 25 [true] [pr pI h31, pn pI h31, pr pI h31, pn pI h31, pr q84 h33, pn q84 h33, ⟨.appD (z2.2.map q84) (Int.toNat y30) (q84 y32) 2 (y32.Ae.map pI) ([z2.1].map pI) 1 (((y32.Ae.map pI).length + ([z2.1].map pI).length) * (8 + 1)) (y34.map pI), Im 1 (λ _ => rfl) h33 rfl h35⟩, pr q84 h33, ⟨.updD (z2.2.map q84) (Int.toNat y30) (Int.toNat y30) (q84 y32) (q84 (⟨y32.An, y32.Ac, y34⟩ : Ai)) (y36.map q84), Ie h33 h37⟩] [] 0 [0, 1, 2, 3, 8] (w64 (z2.1 + 1), y36) hC [pq h29] (sI h).symm
      ·exact wx w2b (jG x0) (Ae4 x0 x1 y4) G8 25 [false] [] [] 0 n5_ (w64 (z2.1 + 1), z2.2) hC [pq h29] (sI h).symm
     ·exact wx w2 (Asa) (Ave) G8 26 [false] [] [] 0 [3, 4] (z2.1, z2.2) hC [pq h26] (hb2 _ (sI h).symm)
    ·have h := hnext2 _ hs2
     refine wn G8 1 [] [] [.flat 0] 0 [0] [4, 6] hC [] ?_
     obtain ⟨y38, h39, h⟩ := Ad h
     replace h := sI h
     subst h
     exact wr G8 22 [] [pc Auh (Atn z2.2 _ h39) [0]] [] 0 [1] hC []
theorem e89 : EN 89 := en Tryz.func89
def Apm : List Nat := [0, 1, 2, 3, 4, 6, 7, 11]
theorem A3l (x0 : Aa) (x1 : Ab) (x2 : Int) (r : Int × Bool) (h : Ak8 x0 x1 x2 = some r) : CO 101 [.agg (d29 x0), .agg (d36 x1), .d (I x2)] [] (.tup [.d (I r.1), .d (Bo r.2)]) [] := by
 unfold Ak8 at h
 refine co 18 Tryz.func101 λ C hC => ?_
 obtain ⟨y1, h2, h⟩ := Ad h
 refine wn Apm 26 [] [pc e43 (k43 x0 x1 _ h2) []] [] 0 [0, 1] [2, 3, 4, 6, 7, 11] hC [] ?_
 rcases cB h with ⟨h3, h⟩ | ⟨h3, h⟩
 ·replace h := sI h
  subst h
  exact wr Apm 24 [true] [] [] 0 [] hC [pq h3]
 ·obtain ⟨y4, h5, h⟩ := Ad h
  replace h := sI h
  subst h
  exact wr Apm 25 [false] [pc Axy (Axg x0 x1 x2 _ h5) []] [] 0 [] hC [pq h3]
theorem A5f : EN 101 := en Tryz.func101
def V8 : List Nat := [0, 1, 2, 3, 4, 6, 7, 8, 9, 13, 18, 29]
theorem A8l (x0 : Aa) (x1 : Ab) (x2 : Int) (r : Ab × Int) (h : Ako x0 x1 x2 = some r) : CO 183 [.agg (d29 x0), .agg (d36 x1), .d (I x2)] [] (.tup [.agg [.os 0, .os 1, .os 2, .os 3], .d (I r.2)]) (zp r.1 []) := by
 unfold Ako at h
 refine co 49 Tryz.func183 λ C hC => ?_
 obtain ⟨y1, h2, h⟩ := Ad h
 refine wn V8 29 [] [pc e43 (k43 x0 x1 _ h2) []] [.ownb 2 0 4 1, .ownb 2 1 120 4, .ownb 2 2 3 1, .ownb 2 3 86 2] 0 n7_ [2, 3, 4, 6, 7, 8, 13] hC [] ?_
 rcases cB h with ⟨h3, h⟩ | ⟨h3, h⟩
 ·replace h := sI h
  subst h
  exact wr V8 24 [true] [] [.ownb 2 0 4 1, .ownb 2 1 120 4, .ownb 2 2 3 1, .ownb 2 3 86 2] 0 [7, 8, 9, 10] hC [pq h3]
 ·rcases cB h with ⟨h4, h⟩ | ⟨h4, h⟩
  ·replace h := sI h
   subst h
   exact wr V8 27 [false, true] [pL_ [(decide (x2 < 0), false)] Bi x0.Ag] [.ownb 2 0 4 1, .ownb 2 1 120 4, .ownb 2 2 3 1, .ownb 2 3 86 2] 0 [7, 8, 9, 10] hC [pq h3, pq h4]
  ·obtain ⟨y5, h6, h⟩ := Ad h
   obtain ⟨y7, h8, h⟩ := Ad h
   refine wn V8 27 [false, false] [pL_ [(decide (x2 < 0), false)] Bi x0.Ag, pr pB h6, pw Jy (λ hg => Ju x1 2 x2 _ (A_ h8 hg)) []] [] 0 [1, 2, 3, 4, 5, 6] [2, 4, 6, 7, 29] hC [pq h3, pq h4] ?_
   rcases cB h with ⟨h9, h⟩ | ⟨h9, h⟩
   ·replace h := sI h
    subst h
    exact wr V8 24 [true] [] [.ownb 1 0 4 1, .ownb 1 1 120 4, .ownb 1 2 3 1, .ownb 1 3 86 2] 0 [6, 7, 8, 9] hC [pq h9]
   ·obtain ⟨y10, h11, h⟩ := Ad h
    obtain ⟨y12, h13, h⟩ := Ad h
    obtain ⟨y14, h15, h⟩ := Ad h
    replace h := sI h
    subst h
    exact wr V8 30 [false] [pc Mw (Mp x1 _ h11) [], pr pB h13, pu pB h13 h15] [] 0 [6, 7, 8, 9] hC [pq h9]
theorem A93 : EN 183 := en Tryz.func183
def Aph : List Nat := [0, 1, 2, 3, 4, 6, 7, 11]
theorem A2d (x0 : Aa) (x1 : Ab) (x2 : Int) (r : Int × Bool) (h : Abe x0 x1 x2 = some r) : CO 217 [.agg (d29 x0), .agg (d36 x1), .d (I x2)] [] (.tup [.d (I r.1), .d (Bo r.2)]) [] := by
 unfold Abe at h
 refine co 18 Tryz.func217 λ C hC => ?_
 obtain ⟨y1, h2, h⟩ := Ad h
 refine wn Aph 26 [] [pc e43 (k43 x0 x1 _ h2) []] [] 0 [0, 1] [2, 3, 4, 6, 7, 11] hC [] ?_
 rcases cB h with ⟨h3, h⟩ | ⟨h3, h⟩
 ·replace h := sI h
  subst h
  exact wr Aph 24 [true] [] [] 0 [] hC [pq h3]
 ·obtain ⟨y4, h5, h⟩ := Ad h
  replace h := sI h
  subst h
  exact wr Aph 25 [false] [pc Axz (Axh x0 x1 x2 _ h5) []] [] 0 [] hC [pq h3]
theorem A37 : EN 217 := en Tryz.func217
def Qr : List Nat := [0, 1, 2, 3, 4, 5, 6, 7, 8, 9, 14, 20, 21, 22, 23, 29]
def Vu (x1 : Ab) (n0 : Nat) (z0 : (List Af)) : St := [(4, dO 0 0), (5, dI 0), (7, dO 9 0), (20, .d (DS A6 x1.Ac)), (21, dI (ln x1.Ac)), (22, dI (cnt 0 n0))]
def uS (y4 : Ab) (n0 : Nat) (z0 : (List Af)) : List Res := (.box 36 [.os 1, .os 2, .os 3, .os 4] :: ze [v2_ y4.Ah, v4_ z0, v0_ y4.Ar, v3_ y4.Ao, .box 36 [.os 5, .os 6, .os 7, .os 8]])
def Al6  (z0 : (List Af)) : St := [(4, dO 0 0), (5, dI 0), (7, dO 9 0)]
def Anv (y4 : Ab) (z0 : (List Af)) : List Res := (.box 36 [.os 1, .os 2, .os 3, .os 4] :: ze [v2_ y4.Ah, v4_ z0, v0_ y4.Ar, v3_ y4.Ao, .box 36 [.os 5, .os 6, .os 7, .os 8]])
theorem A8a (x0 : Aa) (x1 : Ab) (r : Ab × Int) (h : Z1 x0 x1 = some r) : CO 222 [.agg (d29 x0), .agg (d36 x1)] [] (.tup [.agg [.os 0, .os 1, .os 2, .os 3], .d (I r.2)]) (zp r.1 []) := by
 unfold Z1 at h
 refine co 45 Tryz.func222 λ C hC => ?_
 obtain ⟨y1, h2, h⟩ := Ad h
 refine wn Qr 28 [] [pc e43 (k43 x0 x1 _ h2) []] [.ownb 2 0 4 1, .ownb 2 1 120 4, .ownb 2 2 3 1, .ownb 2 3 86 2] 0 [1, 2, 3, 4, 5, 6] [3, 4, 5, 6, 14] hC [] ?_
 rcases cB h with ⟨h3, h⟩ | ⟨h3, h⟩
 ·replace h := sI h
  subst h
  exact wr Qr 24 [true] [] [.ownb 1 0 4 1, .ownb 1 1 120 4, .ownb 1 2 3 1, .ownb 1 3 86 2] 0 [6, 7, 8, 9] hC [pq h3]
 ·obtain ⟨y4, h5, h⟩ := Ad h
  refine ws Qr 28 [false] [pc Mw (Mp x1 _ h5) [], pl A6 x1.Ac] [] 0 [1, 2, 3, 4, 5, 6, 7, 8, 9, 10] (Vu x1 0 y4.Ac) (uS y4 0 y4.Ac) hC [pq h3] ?_
  obtain ⟨w0, hm0, hret0, hnext0⟩ := As h
  clear h
  refine wc w0 (Al6) (Anv y4) ?_ λ z0 hs0 => ?_
  ·refine wb ?_
   refine Bm 20 rfl λ hl0 => ?_
   refine A8 (by kernel_rfl) Pt (Vu x1) (uS y4) w0 x1.Ac y4.Ac hm0 rfl rfl (λ z0 hn0 => ?_) λ n0 a0 z0 w0b hi0 hx0 h hb0 hr0 => ?_
   ·clear hm0
    exact wx w0 (Al6) (Anv y4) Qr 26 [false] [] [] 0 Fo z0 hC [pq (Ba hl0)] hn0
   ·unfold Pt at h
    rcases cB h with ⟨h6, h⟩ | ⟨h6, h⟩
    ·obtain ⟨y7, h8, h⟩ := Ad h
     obtain ⟨y9, h10, h⟩ := Ad h
     exact wx w0b (Vu x1 (n0 + 1)) (uS y4 (n0 + 1)) Qr 36 [true, true] [pt hx0 hl0, pc Ah5 (Aha (w64 (a0.Phase + (w64 (36 * (w64 (a0.Aq - 5000)))))) _ rfl) [], pr A6 h8, pu A6 h8 h10] [] 0 Fo y9 hC [pq (A9 hi0 hl0), pq h6] (sI h).symm
    ·exact wx w0b (Vu x1 (n0 + 1)) (uS y4 (n0 + 1)) Qr 36 [true, false] [pt hx0 hl0] [] 0 Fo z0 hC [pq (A9 hi0 hl0), pq h6] (sI h).symm
  ·have h := hnext0 _ hs0
   replace h := sI h
   subst h
   exact wr Qr 23 [] [] [] 0 [5, 6, 7, 8] hC []
theorem A9s : EN 222 := en Tryz.func222
def qF : List Nat := [0, 1, 2, 3, 4, 7, 10, 11, 12]
def yU (x0 : Aa) (z0 : Int × (List Int)) : St := [(1, dO 0 0), (2, .d (DS pI [])), (3, dS 1), (10, dI (ln x0.Ae)), (11, dI z0.1)]
def Ajj (x0 : Aa) (z0 : Int × (List Int)) : List Res := [.box 29 (d29 x0), v0_ z0.2]
def Al9  (z0 : Int × (List Int)) : St := [(1, dO 0 0), (2, .d (DS pI [])), (3, dS 1)]
def Any (x0 : Aa) (z0 : Int × (List Int)) : List Res := [.box 29 (d29 x0), v0_ z0.2]
theorem A8e (x0 : Aa) (r : (List Int)) (h : Z2 x0 = some r) : CO 207 [.agg (d29 x0)] [] (.d (.os 0)) [v0_ r] := by
 unfold Z2 at h
 refine co 23 Tryz.func207 λ C hC => ?_
 obtain ⟨y1, h2, h⟩ := Ad h
 rcases cB h with ⟨h3, h⟩ | ⟨h3, h⟩
 ·replace h := sI h
  subst h
  exact wr qF 29 [true] [pc e85 (k85 x0 _ h2) []] [.own 2 3 1] 0 [1] hC [pq h3]
 ·refine ws qF 33 [false] [pc e85 (k85 x0 _ h2) [], pl q65 x0.Ae] [.own 3 3 1] 0 [0, 1] (yU x0 (0, ([] : List Int))) (Ajj x0 (0, ([] : List Int))) hC [pq h3] ?_
  obtain ⟨w0, hm0, hret0, hnext0⟩ := As h
  clear h
  refine wc w0 (Al9) (Any x0) ?_ λ z0 hs0 => ?_
  ·refine wb ?_
   refine By (by kernel_rfl) (W5 x0) (yU x0) (Ajj x0) w0 1152921504606846976 (0, ([] : List Int)) hm0 rfl rfl λ z0 w0b h hb0 hr0 => ?_
   unfold W5 at h
   rcases cB h with ⟨h4, h⟩ | ⟨h4, h⟩
   ·obtain ⟨y5, h6, h⟩ := Ad h
    exact wx w0b (yU x0) (Ajj x0) qF 33 [true] [pa pI 1 h6] [] 0 [0, 2] (w64 (z0.1 + 1), y5) hC [pq h4] (sI h).symm
   ·exact wx w0 (Al9) (Any x0) qF 26 [false] [] [] 0 [0, 1] (z0.1, z0.2) hC [pq h4] (hb0 _ (sI h).symm)
  ·have h := hnext0 _ hs0
   obtain ⟨y7, h8, h⟩ := Ad h
   replace h := sI h
   subst h
   exact wr qF 25 [] [pc A3z (A15 z0.2 x0 _ h8) [1, 0]] [] 0 [1] hC []
theorem A9w : EN 207 := en Tryz.func207
end Go.Proofs.YthgnbpdjncbkfaaGreat
