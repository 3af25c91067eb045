import Derived.Test.YthgnbpdjncbkfaaGreatM2
set_option linter.unusedVariables false
set_option maxHeartbeats 4000000
namespace Go.Proofs.YthgnbpdjncbkfaaGreat
open Go.SL
def zT : List Nat := [0, 1, 2, 3, 4, 5, 6, 8, 9, 10, 11, 13, 14, 19, 23, 27, 38, 39, 40, 41]
def Agc (x3 : List Ap) (n0 : Nat) (z0 : G8) : St := [(4, dO 0 0), (5, dO 1 0), (8, .d (.p (.v (.pointer none)))), (9, dI 0), (11, dO 2 0), (38, .d (DS q49 x3)), (39, dI (ln x3)), (40, dI (cnt 0 n0))]
def Asf (x0 : Aa) (x1 : Bd) (n0 : Nat) (z0 : G8) : List Res := [.box 29 (d29 x0), .box 31 (d31 x1), .box 100 [I z0.1, .os 3, .os 4, .os 5, .os 6, .os 7, .os 8, I z0.2.1, DS Bi z0.2.2.1, DS Br (g3_ z0), DS q65 (g4_ z0), I (g5_ z0), I (g6_ z0), .os 9, .os 10], v2_ (g7_ z0), v5_ (g8_ z0), v0_ (g9_ z0), v4_ (Da z0), v3_ (Fu z0), v1_ (Gl z0), v1_ (Gk z0), v7_ (Jv z0)]
def Auc  (z0 : G8) : St := [(4, dO 0 0), (5, dO 1 0), (8, .d (.p (.v (.pointer none)))), (9, dI 0), (11, dO 2 0)]
def Axm (x0 : Aa) (x1 : Bd) (z0 : G8) : List Res := [.box 29 (d29 x0), .box 31 (d31 x1), .box 100 [I z0.1, .os 3, .os 4, .os 5, .os 6, .os 7, .os 8, I z0.2.1, DS Bi z0.2.2.1, DS Br (g3_ z0), DS q65 (g4_ z0), I (g5_ z0), I (g6_ z0), .os 9, .os 10], v2_ (g7_ z0), v5_ (g8_ z0), v0_ (g9_ z0), v4_ (Da z0), v3_ (Fu z0), v1_ (Gl z0), v1_ (Gk z0), v7_ (Jv z0)]
theorem k34 (x0 : Aa) (x1 : Bd) (x2 : Az) (x3 : List Ap) (r : A1 × Int) (h : F34 x0 x1 x2 x3 = some r) : CO 34 [.agg (d29 x0), .agg (d31 x1), .agg (d40 x2), .d (DS q49 x3)] [] (.tup [.d (.o 0 0), .d (I r.2)]) (.box 100 (I r.1.Av.Time :: .os 1 :: .os 2 :: .os 3 :: .os 4 :: .os 5 :: .os 6 :: zb r.1.Ak [.os 7, .os 8]) :: zp r.1.Av.Power [v3_ r.1.Av.A5, v1_ r.1.Av.A6, v1_ r.1.events, v7_ r.1.states]) := by
 unfold F34 at h
 refine co 109 Tryz.func34 λ C hC => ?_
 obtain ⟨y1, h2, h⟩ := Ax h
 refine wn zT 29 [] [pc e21 (k21 x0 x1 x2 _ h2) []] [] 0 n3_ [3, 4, 5, 6, 8, 9, 10, 19] hC [] ?_
 rcases cB h with ⟨h3, h⟩ | ⟨h3, h⟩
 ·cases h
 ·rcases cB h with ⟨h4, h⟩ | ⟨h4, h⟩
  ·cases h
  ·rcases cB h with ⟨h5, h⟩ | ⟨h5, h⟩
   ·cases h
   ·obtain ⟨y6, h7, y8, h9, h⟩ := Bc h
    refine ws zT 37 [false, false, false] [pl q49 x3, pc e63 (k63 x0 x2 _ h7) [], pc A9e (A8u y6 x2.Power _ h9) [3, 4, 5, 6, 7, 8, 9, 10, 11], pl q49 x3] [] 0 [0, 1, 3, 4, 5, 6, 7, 8, 9, 10, 12] (Agc x3 0 (y8.Av.Time, zt y8.Ak (zu y8.Av.Power (y8.Av.A5, y8.Av.A6, y8.events, y8.states)))) (Asf x0 x1 0 (y8.Av.Time, zt y8.Ak (zu y8.Av.Power (y8.Av.A5, y8.Av.A6, y8.events, y8.states)))) hC [pq h3, pq h4, pq h5] ?_
    obtain ⟨w0, hm0, hret0, hnext0⟩ := Ar h
    clear h
    refine wc w0 (Auc) (Axm x0 x1) ?_ λ z0 hs0 => ?_
    ·refine wb ?_
     refine Bn 38 rfl λ hl0 => ?_
     refine wl (Agc x3) (Asf x0 x1) hm0 (λ z0 hn0 => ?_) λ n0 a0 z0 w0b hi0 hx0 h hb0 hr0 => ?_
     ·clear hm0
      exact wx w0 (Auc) (Axm x0 x1) zT 26 [false] [] [] 0 Aqp _ hC [pq (Be hl0)] hn0
     ·unfold Ax4 at h
      obtain ⟨y10, h11, h⟩ := Ax h
      exact wx w0b (Agc x3 (n0 + 1)) (Asf x0 x1 (n0 + 1)) zT 33 [true] [pt hx0 hl0, pc Are (Aqz (⟨(⟨z0.1, (⟨(g7_ z0), (g8_ z0), (g9_ z0), (Da z0)⟩ : Ab), (Fu z0), (Gl z0)⟩ : Az), (⟨z0.2.1, z0.2.2.1, (g3_ z0), (g4_ z0), (g5_ z0), (g6_ z0)⟩ : Aa), (Gk z0), (Jv z0)⟩ : A1) a0 _ h11) [2, 3, 4, 5, 6, 7, 8, 9, 10]] [] 0 [0, 1, 2, 12, 13, 14, 15, 7, 8, 16, 17] _ hC [pq (A9 hi0 hl0)] (sI h).symm
    ·have h := hnext0 _ hs0
     obtain ⟨y12, h13, y14, h15, y16, h17, y18, h19, h⟩ := Cn h
     refine wn zT 11 [] [pc A1g (A1a (⟨(⟨z0.1, (⟨(g7_ z0), (g8_ z0), (g9_ z0), (Da z0)⟩ : Ab), (Fu z0), (Gl z0)⟩ : Az), (⟨z0.2.1, z0.2.2.1, (g3_ z0), (g4_ z0), (g5_ z0), (g6_ z0)⟩ : Aa), (Gk z0), (Jv z0)⟩ : A1) x1 _ h13) [2, 3, 4, 5, 6, 7, 8, 9, 10], ⟨.call 83 [.agg (d29 x0), .agg [.os 0, .os 1, .os 2, .os 3], dI y12.Av.Time, .agg [I 7, I 0, I 0]] (zp y12.Av.Power []) (.tup [.agg [.os 4, .os 5, .os 6, .os 7], dI y14.2]) (zp y12.Av.Power (zp y14.1 [])) [11, 12, 13, 14], ⟨e83, ((k83 x0 y12.Av.Power y12.Av.Time (⟨7, 0, 0⟩ : Ap) _ h15).lend (by kernel_rfl) (by kernel_rfl) (by kernel_rfl) ⟨Ba (λ _ => rfl), Ba (λ _ => rfl), Ba (λ _ => rfl), Ba (λ _ => rfl), trivial⟩ (by kernel_rfl) (by kernel_rfl))⟩⟩, pc A1h (A1b (⟨(⟨y12.Av.Time, y14.1, y12.Av.A5, y12.Av.A6⟩ : Az), y12.Ak, y12.events, y12.states⟩ : A1) y14.1 _ h17) [2, 19, 20, 21, 22, 15, 16, 17, 18], pa q51 5 h19] [.frz 24] 0 [2, 15, 16, 17, 19, 20, 21, 22, 23] [8, 9, 11, 14] hC [] ?_
     obtain ⟨y21, h20, y22, h23, h⟩ := Bc h
     replace h := sI h
     subst h
     exact wr zT 24 [] [pl q51 y18, ⟨.cut (y18.map q51) 5 (max 0 (w64 ((ln y18) - 200))) (ln (y18.map q51)) (y21.map q51), X3 q51 5 (λ _ => rfl) h20⟩, pc e84 (k84 y21 _ h23) []] [] 0 [0, 4, 5, 6, 7, 1, 9, 3, 8] hC []
theorem e34 : EN 34 := en Tryz.func34
def Pq : List Nat := [0, 1, 2, 3, 4, 5, 6, 8, 9, 10, 11, 13, 14, 19, 23, 27, 38, 39, 40, 41]
def Yb (x3 : List Ap) (n0 : Nat) (z0 : G8) : St := [(4, dO 7 0), (5, dO 8 0), (8, .d (.p (.v (.pointer none)))), (9, dI 0), (11, dO 9 0), (38, dS 6), (39, dI (ln x3)), (40, dI (cnt 0 n0))]
def Aaq (x0 : Aa) (x1 : Bd) (x2 : Az) (x3 : List Ap) (n0 : Nat) (z0 : G8) : List Res := (zp x2.Power [v3_ x2.A5, v1_ x2.A6, v6_ x3, .box 29 (d29 x0), .box 31 (d31 x1), .box 100 [I z0.1, .os 10, .os 11, .os 12, .os 13, .os 14, .os 15, I z0.2.1, DS Bi z0.2.2.1, DS Br (g3_ z0), DS q65 (g4_ z0), I (g5_ z0), I (g6_ z0), .os 16, .os 17], v2_ (g7_ z0), v5_ (g8_ z0), v0_ (g9_ z0), v4_ (Da z0), v3_ (Fu z0), v1_ (Gl z0), v1_ (Gk z0), v7_ (Jv z0)])
def Agu  (z0 : G8) : St := [(4, dO 7 0), (5, dO 8 0), (8, .d (.p (.v (.pointer none)))), (9, dI 0), (11, dO 9 0)]
def Ajl (x0 : Aa) (x1 : Bd) (x2 : Az) (x3 : List Ap) (z0 : G8) : List Res := (zp x2.Power [v3_ x2.A5, v1_ x2.A6, v6_ x3, .box 29 (d29 x0), .box 31 (d31 x1), .box 100 [I z0.1, .os 10, .os 11, .os 12, .os 13, .os 14, .os 15, I z0.2.1, DS Bi z0.2.2.1, DS Br (g3_ z0), DS q65 (g4_ z0), I (g5_ z0), I (g6_ z0), .os 16, .os 17], v2_ (g7_ z0), v5_ (g8_ z0), v0_ (g9_ z0), v4_ (Da z0), v3_ (Fu z0), v1_ (Gl z0), v1_ (Gk z0), v7_ (Jv z0)])
theorem A81 (x0 : Aa) (x1 : Bd) (x2 : Az) (x3 : List Ap) (r : A1 × Int) (h : Afp x0 x1 x2 x3 = some r) : CO 34 [.agg (d29 x0), .agg (d31 x1), .agg [I x2.Time, .os 0, .os 1, .os 2, .os 3, .os 4, .os 5], .d (.os 6)] (zp x2.Power [v3_ x2.A5, v1_ x2.A6, v6_ x3]) (.tup [.d (.o 7 0), .d (I r.2)]) (zp x2.Power (v3_ x2.A5 :: v1_ x2.A6 :: v6_ x3 :: .box 100 (I r.1.Av.Time :: .os 8 :: .os 9 :: .os 10 :: .os 11 :: .os 12 :: .os 13 :: zb r.1.Ak [.os 14, .os 15]) :: zp r.1.Av.Power [v3_ r.1.Av.A5, v1_ r.1.Av.A6, v1_ r.1.events, v7_ r.1.states])) := by
 unfold Afp at h
 refine co 109 Tryz.func34 λ C hC => ?_
 obtain ⟨y1, h2, h⟩ := Ax h
 refine wn Pq 29 [] [pb e21 (k21 x0 x1 x2 _ h2)] [] 7 G7 [3, 4, 5, 6, 8, 9, 10, 19] hC [] ?_
 rcases cB h with ⟨h3, h⟩ | ⟨h3, h⟩
 ·cases h
 ·rcases cB h with ⟨h4, h⟩ | ⟨h4, h⟩
  ·cases h
  ·rcases cB h with ⟨h5, h⟩ | ⟨h5, h⟩
   ·cases h
   ·obtain ⟨y6, h7, y8, h9, h⟩ := Bc h
    refine ws Pq 37 [false, false, false] [pl q49 x3, pc A9g (A8w x0 x2 _ h7) n6_, pc qZ (qN y6 x2.Power _ h9) [10, 11, 12, 13, 14, 15, 16, 17, 18, 0, 1, 2, 3], pl q49 x3] [] 7 [0, 1, 2, 3, 4, 5, 6, 7, 8, 10, 11, 12, 13, 14, 15, 16, 17, 19] (Yb x3 0 (y8.Av.Time, zt y8.Ak (zu y8.Av.Power (y8.Av.A5, y8.Av.A6, y8.events, y8.states)))) (Aaq x0 x1 x2 x3 0 (y8.Av.Time, zt y8.Ak (zu y8.Av.Power (y8.Av.A5, y8.Av.A6, y8.events, y8.states)))) hC [pq h3, pq h4, pq h5] ?_
    obtain ⟨w0, hm0, hret0, hnext0⟩ := Ar h
    clear h
    refine wc w0 (Agu) (Ajl x0 x1 x2 x3) ?_ λ z0 hs0 => ?_
    ·refine wb ?_
     refine Co 38 6 rfl rfl λ hl0 => ?_
     refine wl (Yb x3) (Aaq x0 x1 x2 x3) hm0 (λ z0 hn0 => ?_) λ n0 a0 z0 w0b hi0 hx0 h hb0 hr0 => ?_
     ·clear hm0
      exact wx w0 (Agu) (Ajl x0 x1 x2 x3) Pq 26 [false] [] [] 7 Aqo _ hC [pq (Be hl0)] hn0
     ·unfold Ak4 at h
      obtain ⟨y10, h11, h⟩ := Ax h
      exact wx w0b (Yb x3 (n0 + 1)) (Aaq x0 x1 x2 x3 (n0 + 1)) Pq 33 [true] [pr q49 (Bp hx0 hl0), pn q49 (Bp hx0 hl0), pc Are (Aqz (⟨(⟨z0.1, (⟨(g7_ z0), (g8_ z0), (g9_ z0), (Da z0)⟩ : Ab), (Fu z0), (Gl z0)⟩ : Az), (⟨z0.2.1, z0.2.2.1, (g3_ z0), (g4_ z0), (g5_ z0), (g6_ z0)⟩ : Aa), (Gk z0), (Jv z0)⟩ : A1) a0 _ h11) [9, 10, 11, 12, 13, 14, 15, 16, 17]] [] 7 [0, 1, 2, 3, 4, 5, 6, 7, 8, 9, 19, 20, 21, 22, 14, 15, 23, 24] _ hC [pq (A9 hi0 hl0)] (sI h).symm
    ·have h := hnext0 _ hs0
     obtain ⟨y12, h13, y14, h15, y16, h17, y18, h19, h⟩ := Cn h
     refine wn Pq 11 [] [pc A1g (A1a (⟨(⟨z0.1, (⟨(g7_ z0), (g8_ z0), (g9_ z0), (Da z0)⟩ : Ab), (Fu z0), (Gl z0)⟩ : Az), (⟨z0.2.1, z0.2.2.1, (g3_ z0), (g4_ z0), (g5_ z0), (g6_ z0)⟩ : Aa), (Gk z0), (Jv z0)⟩ : A1) x1 _ h13) [9, 10, 11, 12, 13, 14, 15, 16, 17], ⟨.call 83 [.agg (d29 x0), .agg [.os 0, .os 1, .os 2, .os 3], dI y12.Av.Time, .agg [I 7, I 0, I 0]] (zp y12.Av.Power []) (.tup [.agg [.os 4, .os 5, .os 6, .os 7], dI y14.2]) (zp y12.Av.Power (zp y14.1 [])) [18, 19, 20, 21], ⟨e83, ((k83 x0 y12.Av.Power y12.Av.Time (⟨7, 0, 0⟩ : Ap) _ h15).lend (by kernel_rfl) (by kernel_rfl) (by kernel_rfl) ⟨Ba (λ _ => rfl), Ba (λ _ => rfl), Ba (λ _ => rfl), Ba (λ _ => rfl), trivial⟩ (by kernel_rfl) (by kernel_rfl))⟩⟩, pc A1h (A1b (⟨(⟨y12.Av.Time, y14.1, y12.Av.A5, y12.Av.A6⟩ : Az), y12.Ak, y12.events, y12.states⟩ : A1) y14.1 _ h17) [9, 26, 27, 28, 29, 22, 23, 24, 25], pa q51 5 h19] [.frz 31] 7 [0, 1, 2, 3, 4, 5, 6, 9, 22, 23, 24, 26, 27, 28, 29, 30] [8, 9, 11, 14] hC [] ?_
     obtain ⟨y21, h20, y22, h23, h⟩ := Bc h
     replace h := sI h
     subst h
     exact wr Pq 24 [] [pl q51 y18, ⟨.cut (y18.map q51) 5 (max 0 (w64 ((ln y18) - 200))) (ln (y18.map q51)) (y21.map q51), X3 q51 5 (λ _ => rfl) h20⟩, pc e84 (k84 y21 _ h23) []] [] 7 [0, 1, 2, 3, 4, 5, 6, 7, 11, 12, 13, 14, 8, 16, 10, 15] hC []
theorem A9l : EN 34 := en Tryz.func34
def Ahl : List Nat := [0, 1, 2, 3, 4, 5, 6, 8, 9, 10, 11, 21]
theorem A83 (x0 : Aa) (x1 : Bd) (x2 : Az) (x3 : List Ap) (r : (List Ab) × Int) (h : vS x0 x1 x2 x3 = some r) : CO 18 [.agg (d29 x0), .agg (d31 x1), .agg [I x2.Time, .os 0, .os 1, .os 2, .os 3, .os 4, .os 5], .d (.os 6)] (zp x2.Power [v3_ x2.A5, v1_ x2.A6, v6_ x3]) (.tup [.d (.os 7), .d (I r.2)]) (zp x2.Power [v3_ x2.A5, v1_ x2.A6, v6_ x3, v7_ r.1]) := by
 unfold vS at h
 refine co 27 Tryz.func18 λ C hC => ?_
 obtain ⟨y1, h2, h⟩ := Ax h
 refine wn Ahl 28 [] [pc A9l (A81 x0 x1 x2 x3 _ h2) n7_] [] 7 [0, 1, 2, 3, 4, 5, 6, 10, 11, 12, 13, 14, 15, 16, 17, 18] [8, 9, 10, 11, 21] hC [] ?_
 rcases cB h with ⟨h3, h⟩ | ⟨h3, h⟩
 ·replace h := sI h
  subst h
  exact wr Ahl 24 [true] [] [.own 8 36 4] 7 [0, 1, 2, 3, 4, 5, 6, 16] hC [pq h3]
 ·replace h := sI h
  subst h
  exact wr Ahl 25 [false] [] [] 7 [0, 1, 2, 3, 4, 5, 6, 15] hC [pq h3]
theorem A9n : EN 18 := en Tryz.func18
def Ay1 : List Nat := [0, 1, 2, 3, 4, 5, 6, 8, 9, 10, 11, 12, 22]
theorem k11 (x0 : Aa) (x1 : Bd) (x2 : Az) (x3 : List Ap) (r : Az × (List Bg) × Int) (h : F11 x0 x1 x2 x3 = some r) : CO 11 [.agg (d29 x0), .agg (d31 x1), .agg (d40 x2), .d (DS q49 x3)] [] (.tup [.agg [I r.1.Time, .os 0, .os 1, .os 2, .os 3, .os 4, .os 5], .d (.os 6), .d (I r.2.2)]) (zp r.1.Power [v3_ r.1.A5, v1_ r.1.A6, v1_ r.2.1]) := by
 unfold F11 at h
 refine co 33 Tryz.func11 λ C hC => ?_
 obtain ⟨y1, h2, h⟩ := Ax h
 refine wn Ay1 28 [] [pc e34 (k34 x0 x1 x2 x3 _ h2) []] [.ownb 3 1 4 1, .ownb 3 2 120 4, .ownb 3 3 3 1, .ownb 3 4 86 2, .ownb 3 5 130 2, .ownb 3 6 51 5] 0 [3, 4, 5, 6, 7, 8, 9, 10, 11, 12, 13, 14, 15, 16, 17, 18] [8, 9, 10, 11, 12, 22] hC [] ?_
 rcases cB h with ⟨h3, h⟩ | ⟨h3, h⟩
 ·replace h := sI h
  subst h
  exact wr Ay1 24 [true] [] [.ownb 0 1 4 1, .ownb 0 2 120 4, .ownb 0 3 3 1, .ownb 0 4 86 2, .ownb 0 5 130 2, .ownb 0 6 51 5, .own 9 51 5] 0 [16, 17, 18, 19, 20, 21, 22] hC [pq h3]
 ·replace h := sI h
  subst h
  exact wr Ay1 25 [false] [] [] 0 [2, 3, 4, 5, 6, 7, 8] hC [pq h3]
theorem e11 : EN 11 := en Tryz.func11
theorem k13  (r : Bool) (h : F13  = some r) : CO 13 [] [] (.d (Bo r)) [] := by
 unfold F13 at h
 refine co 106 Tryz.func13 λ C hC => ?_
 obtain ⟨y1, h2, y3, h4, y5, h6, y7, h8, h⟩ := Cn h
 obtain ⟨y9, h10, y11, h12, y13, h14, y15, h16, h⟩ := Cn h
 replace h := sI h
 subst h
 exact wr [0, 1, 2, 3, 4, 6, 7, 8, 9, 10, 11] 35 [] [pc e35 (k35  _ rfl) [], pc e36 (k36 F35.1 F35.2 _ h2) [], ⟨.call 11 [.agg (d29 F35.1), .agg (d31 F35.2), .agg [I y1.1.Time, .os 0, .os 1, .os 2, .os 3, .os 4, .os 5], .d (DS q49 [(⟨3, 0, 0⟩ : Ap), (⟨3, 1, 0⟩ : Ap), (⟨1, 0, 0⟩ : Ap), (⟨1, 1, 0⟩ : Ap), (⟨1, 2, 0⟩ : Ap)])] (zp y1.1.Power [v3_ y1.1.A5, v1_ y1.1.A6]) (.tup [.agg [I y3.1.Time, .os 6, .os 7, .os 8, .os 9, .os 10, .os 11], dS 12, dI y3.2.2]) (zp y1.1.Power (v3_ y1.1.A5 :: v1_ y1.1.A6 :: zp y3.1.Power [v3_ y3.1.A5, v1_ y3.1.A6, v1_ y3.2.1])) [2, 3, 4, 5, 6, 7], ⟨e11, ((k11 F35.1 F35.2 y1.1 [(⟨3, 0, 0⟩ : Ap), (⟨3, 1, 0⟩ : Ap), (⟨1, 0, 0⟩ : Ap), (⟨1, 1, 0⟩ : Ap), (⟨1, 2, 0⟩ : Ap)] _ h4).lend (by kernel_rfl) (by kernel_rfl) (by kernel_rfl) ⟨Ba (λ _ => rfl), Ba (λ _ => rfl), Ba (λ _ => rfl), Ba (λ _ => rfl), Ba (λ _ => rfl), Ba (λ _ => rfl), Ba (λ _ => rfl), trivial⟩ (by kernel_rfl) (by kernel_rfl))⟩⟩, ⟨.call 11 [.agg (d29 F35.1), .agg (d31 F35.2), .agg [I y3.1.Time, .os 0, .os 1, .os 2, .os 3, .os 4, .os 5], .d (DS q49 [(⟨8, 1, 1⟩ : Ap)])] (zp y3.1.Power [v3_ y3.1.A5, v1_ y3.1.A6]) (.tup [.agg [I y5.1.Time, .os 6, .os 7, .os 8, .os 9, .os 10, .os 11], dS 12, dI y5.2.2]) (zp y3.1.Power (v3_ y3.1.A5 :: v1_ y3.1.A6 :: zp y5.1.Power [v3_ y5.1.A5, v1_ y5.1.A6, v1_ y5.2.1])) [9, 10, 11, 12, 13, 14], ⟨e11, ((k11 F35.1 F35.2 y3.1 [(⟨8, 1, 1⟩ : Ap)] _ h6).lend (by kernel_rfl) (by kernel_rfl) (by kernel_rfl) ⟨Ba (λ _ => rfl), Ba (λ _ => rfl), Ba (λ _ => rfl), Ba (λ _ => rfl), Ba (λ _ => rfl), Ba (λ _ => rfl), Ba (λ _ => rfl), trivial⟩ (by kernel_rfl) (by kernel_rfl))⟩⟩, ⟨.call 15 [.agg [I 0, I 1, DS q63 [(⟨2, 0, 1000, 0, 1, ([] : List Df)⟩ : By)]], .agg (d29 F35.1), .agg [.os 0, .os 1, .os 2, .os 3]] (zp y5.1.Power []) (.tup [dS 4, dI y7.2]) (zp y5.1.Power [v0_ y7.1]) [16, 17, 18, 19], ⟨e15, ((k15 (⟨0, 1, [(⟨2, 0, 1000, 0, 1, ([] : List Df)⟩ : By)]⟩ : Fv) F35.1 y5.1.Power _ h8).lend (by kernel_rfl) (by kernel_rfl) (by kernel_rfl) ⟨Ba (λ _ => rfl), trivial⟩ (by kernel_rfl) (by kernel_rfl))⟩⟩, pL_ [((((((y1.2 == 0) && (y3.2.2 == 0)) && (y5.2.2 == 0)) && (y7.2 == 0)) && (y5.1.Time == 2)), true)] q51 y5.2.1, pv e37 (λ hg => k37 y5.1.Power.Ag [true, false, true] _ (Bb h10 hg)), pv e38 (λ hg => k38 y5.1.Power.Aq [50] _ (Bb h12 hg)), pv e38 (λ hg => k38 y7.1 [223] _ (Bb h14 hg)), pv e39 (λ hg => k39 F35.1 y5.1.Power _ (Bb h16 hg))] [] 0 [] hC []
theorem e13 : EN 13 := en Tryz.func13
def lv5 : List Nat := [0, 2, 3, 4, 5, 6, 7, 8, 9, 10, 11, 13, 14, 24, 78, 82, 95, 108]
def Ap3  (z0 : Sg1) : St := [(2, dB false), (3, dO 0 0), (4, dO 7 0), (5, dO 8 0), (6, dO 9 0), (7, dI z0.1)]
def A0m (y3 : Y7) (z0 : Sg1) : List Res := [.box 90 [DS pI z0.2.1, I z0.2.2.1], v2_ (g3_ z0), v5_ (g4_ z0), v0_ (g5_ z0), v4_ (g6_ z0), v3_ (g7_ z0), v1_ (g8_ z0), .box 29 (d29 y3.1), .box 31 (d31 y3.2.1), .box 40 [I (Yv z0), .os 1, .os 2, .os 3, .os 4, .os 5, .os 6]]
def A05  (z0 : Sg1) : St := [(2, dB false)]
def A16  (z0 : Sg1) : List Res := []
def Ap2 (z0 : Sg1) (z1 : Int) : St := [(2, dB false), (3, dO 0 0), (4, dO 7 0), (5, dO 8 0), (6, dO 9 0), (7, dI z0.1), (9, dS 10), (11, dO 17 0), (14, dI z1)]
def A0l (y3 : Y7) (z0 : Sg1) (y6 : (List Ap) × Ah) (y8 : (List Ab) × Int) (y10 : Az × (List Bg) × Int) (z1 : Int) : List Res := (.box 90 (d90 y6.2) :: v2_ (g3_ z0) :: v5_ (g4_ z0) :: v0_ (g5_ z0) :: v4_ (g6_ z0) :: v3_ (g7_ z0) :: v1_ (g8_ z0) :: .box 29 (d29 y3.1) :: .box 31 (d31 y3.2.1) :: .box 40 [I (Yv z0), .os 1, .os 2, .os 3, .os 4, .os 5, .os 6] :: v7_ y8.1 :: zp y10.1.Power [v3_ y10.1.A5, v1_ y10.1.A6, .box 40 [I y10.1.Time, .os 11, .os 12, .os 13, .os 14, .os 15, .os 16]])
def A04 (z0 : Sg1) (z1 : Int) : St := [(2, dB false), (3, dO 0 0), (4, dO 7 0), (5, dO 8 0), (6, dO 9 0), (7, dI z0.1), (11, dO 16 0)]
def A15 (y3 : Y7) (z0 : Sg1) (y6 : (List Ap) × Ah) (y10 : Az × (List Bg) × Int) (z1 : Int) : List Res := (.box 90 (d90 y6.2) :: v2_ (g3_ z0) :: v5_ (g4_ z0) :: v0_ (g5_ z0) :: v4_ (g6_ z0) :: v3_ (g7_ z0) :: v1_ (g8_ z0) :: .box 29 (d29 y3.1) :: .box 31 (d31 y3.2.1) :: .box 40 [I (Yv z0), .os 1, .os 2, .os 3, .os 4, .os 5, .os 6] :: zp y10.1.Power [v3_ y10.1.A5, v1_ y10.1.A6, .box 40 [I y10.1.Time, .os 10, .os 11, .os 12, .os 13, .os 14, .os 15]])
theorem k5 (x0 : List Int) (r : Bool) (h : F5 x0 = some r) : CO 5 [.d (DS pI x0)] [] (.d (Bo r)) [] := by
 unfold F5 at h
 refine co 111 Tryz.func5 λ C hC => ?_
 obtain ⟨y1, h2, y3, h4, h⟩ := Bc h
 refine ws lv5 30 [] [pc e8 (k8 x0 _ h2) [], pc e9 (k9 y1 _ h4) [0]] [.frz 1, .frz 2, .frz 3] 0 [0, 4, 5, 6, 7, 8, 9, 10, 11, 12] (Ap3 (0, y3.2.2.2.L, y3.2.2.2.At, zu y3.2.2.1.Power (y3.2.2.1.A5, y3.2.2.1.A6, y3.2.2.1.Time))) (A0m y3 (0, y3.2.2.2.L, y3.2.2.2.At, zu y3.2.2.1.Power (y3.2.2.1.A5, y3.2.2.1.A6, y3.2.2.1.Time))) hC [] ?_
 obtain ⟨w0, hm0, hret0, hnext0⟩ := Ar h
 clear h
 refine wc w0 (A05) (A16) ?_ λ z0 hs0 => ?_
 ·refine wb ?_
  refine ww (Ap3) (A0m y3) hm0 λ z0 w0b h hb0 hr0 => ?_
  unfold Ast at h
  rcases cB h with ⟨h5, h⟩ | ⟨h5, h⟩
  ·obtain ⟨y6, h7, y8, h9, y10, h11, y12, h13, h⟩ := Cn h
   obtain ⟨y14, h15, y16, h17, y18, h19, h⟩ := B0 h
   refine wn lv5 37 [true] [pc e10 (k10 (⟨z0.2.1, z0.2.2.1⟩ : Ah) y3.1 4 _ h7) [0], pc A9n (A83 y3.1 y3.2.1 (⟨(Yv z0), (⟨(g3_ z0), (g4_ z0), (g5_ z0), (g6_ z0)⟩ : Ab), (g7_ z0), (g8_ z0)⟩ : Az) y6.1 _ h9) [1, 2, 3, 4, 5, 6, 10], ⟨.call 11 [.agg (d29 y3.1), .agg (d31 y3.2.1), .agg [I (Yv z0), .os 0, .os 1, .os 2, .os 3, .os 4, .os 5], dS 6] [v2_ (g3_ z0), v5_ (g4_ z0), v0_ (g5_ z0), v4_ (g6_ z0), v3_ (g7_ z0), v1_ (g8_ z0), v6_ y6.1] (.tup [.agg [I y10.1.Time, .os 7, .os 8, .os 9, .os 10, .os 11, .os 12], dS 13, dI y10.2.2]) (v2_ (g3_ z0) :: v5_ (g4_ z0) :: v0_ (g5_ z0) :: v4_ (g6_ z0) :: v3_ (g7_ z0) :: v1_ (g8_ z0) :: v6_ y6.1 :: zp y10.1.Power [v3_ y10.1.A5, v1_ y10.1.A6, v1_ y10.2.1]) [1, 2, 3, 4, 5, 6, 10], ⟨e11, ((k11 y3.1 y3.2.1 (⟨(Yv z0), (⟨(g3_ z0), (g4_ z0), (g5_ z0), (g6_ z0)⟩ : Ab), (g7_ z0), (g8_ z0)⟩ : Az) y6.1 _ h11).lend (by kernel_rfl) (by kernel_rfl) (by kernel_rfl) ⟨Ba (λ _ => rfl), Ba (λ _ => rfl), Ba (λ _ => rfl), Ba (λ _ => rfl), Ba (λ _ => rfl), Ba (λ _ => rfl), Ba (λ _ => rfl), trivial⟩ (by kernel_rfl) (by kernel_rfl))⟩⟩, pL_ [(((y8.2 != 0) || (y10.2.2 != 0)), false)] q36 y8.1, pR q36 h13, pN q36 h13, pv e19 (λ hg => k19 y12 (⟨(g3_ z0), (g4_ z0), (g5_ z0), (g6_ z0)⟩ : Ab) _ (Bb h15 hg)), pL_ [(((((y8.2 != 0) || (y10.2.2 != 0)) || (decide ((ln y8.1) < 2))) || (!y14)), false)] q36 y8.1, pR q36 h17, pN q36 h17, pv e19 (λ hg => k19 y16 y10.1.Power _ (Bb h19 hg))] [] 0 [0, 1, 2, 3, 4, 5, 6, 7, 8, 9, 11, 12, 13, 14, 15, 16, 17, 19] [2, 3, 4, 5, 6, 7, 9, 11, 78] hC [pq h5] ?_
   rcases cB h with ⟨h20, h⟩ | ⟨h20, h⟩
   ·have hq := hret0 _ (hr0 _ (sI h).symm)
    replace hq := sI hq
    subst hq
    exact wr lv5 24 [true] [] [] 0 [] hC [pq h20]
   ·refine ws lv5 26 [false] [] [] 0 Aqo (Ap2 z0 1) (A0l y3 z0 y6 y8 y10 1) hC [pq h20] ?_
    obtain ⟨w1, hm1, hret1, hnext1⟩ := Ar h
    clear h
    refine wc w1 (A04 z0) (A15 y3 z0 y6 y10) ?_ λ z1 hs1 => ?_
    ·refine wb ?_
     refine ww (Ap2 z0) (A0l y3 z0 y6 y8 y10) hm1 λ z1 w1b h hb1 hr1 => ?_
     unfold Ass at h
     rcases cB h with ⟨h21, h⟩ | ⟨h21, h⟩
     ·obtain ⟨y22, h23, y24, h25, y26, h27, h⟩ := B0 h
      refine wn lv5 30 [true] [pl q36 y8.1, pr q36 h23, pn q36 h23, pr q36 h25, pn q36 h25, pc e20 (k20 y3.1 y22 y24 _ h27) []] [] 0 Aqo [2, 3, 4, 5, 6, 7, 9, 11, 14, 95] hC [pq h21] ?_
      rcases cB h with ⟨h28, h⟩ | ⟨h28, h⟩
      ·have hq := hret1 _ (hr1 _ (sI h).symm)
       replace hq := hret0 _ (hr0 _ (sI hq).symm)
       replace hq := sI hq
       subst hq
       exact wr lv5 24 [true] [] [] 0 [] hC [pq h28]
      ·exact wx w1b (Ap2 z0) (A0l y3 z0 y6 y8 y10) lv5 25 [false] [] [] 0 Aqo _ hC [pq h28] (sI h).symm
     ·exact wx w1 (A04 z0) (A15 y3 z0 y6 y10) lv5 26 [false] [pl q36 y8.1] [] 0 [0, 1, 2, 3, 4, 5, 6, 7, 8, 9, 11, 12, 13, 14, 15, 16, 17] z1 hC [pq h21] (hb1 _ (sI h).symm)
    ·have h := hnext1 _ hs1
     obtain ⟨y29, h30, h⟩ := Ax h
     refine wn lv5 24 [] [pb e21 (k21 y3.1 y3.2.1 y10.1 _ h30)] [] 0 A98 [2, 3, 4, 5, 6, 7, 11, 108] hC [] ?_
     rcases cB h with ⟨h31, h⟩ | ⟨h31, h⟩
     ·have hq := hret0 _ (hr0 _ (sI h).symm)
      replace hq := sI hq
      subst hq
      exact wr lv5 24 [true] [] [] 0 [] hC [pq h31]
     ·exact wx w0b (Ap3) (A0m y3) lv5 26 [false] [] [] 0 [0, 10, 11, 12, 13, 14, 15, 7, 8, 9] _ hC [pq h31] (sI h).symm
  ·exact wx w0 (A05) (A16) lv5 26 [false] [] [] 0 [] (z0.1, z0.2.1, z0.2.2.1, (g3_ z0), (g4_ z0), (g5_ z0), (g6_ z0), (g7_ z0), (g8_ z0), (Yv z0)) hC [pq h5] (hb0 _ (sI h).symm)
 ·have h := hnext0 _ hs0
  obtain ⟨y32, h33, h⟩ := Ax h
  replace h := sI h
  subst h
  exact wr lv5 23 [] [pc e13 (k13  _ h33) []] [] 0 [] hC []
end Go.Proofs.YthgnbpdjncbkfaaGreat
