import Derived.Test.YthgnbpdjncbkfaaGreatM2
set_option linter.unusedVariables false
set_option maxHeartbeats 4000000
namespace Go.Proofs.YthgnbpdjncbkfaaGreat
open Go.SL
def F_ : List Nat := [0, 1, 3, 4, 5, 6, 7, 10, 32, 38, 52, 53, 54, 55, 63, 83]
def Xe  (z0 : Int) : St := [(0, dO 0 0), (3, dO 9 0), (4, dO 10 0), (5, dI z0)]
def X7 (x0 : A4) (x1 : An) (y1 : Ab × Int) (z0 : Int) : List Res := (.box 100 (I x0.Ay.Time :: .os 1 :: .os 2 :: .os 3 :: .os 4 :: .os 5 :: .os 6 :: zb x0.Am [.os 7, .os 8]) :: zp x0.Ay.Power (v5_ x0.Ay.A6 :: v1_ x0.Ay.Bc :: v1_ x0.events :: v8_ x0.states :: .box 49 (d49 x1) :: .box 36 [.os 11, .os 12, .os 13, .os 14] :: zp y1.1 []))
def P2 (y9 : Ab × (List An) × Int) (n1 : Nat) (z1 : yW) : St := [(0, dO 0 0), (4, dO 9 0), (6, dO 16 0), (52, dS 21), (53, dI (ln y9.2.1)), (54, dI (cnt 0 n1))]
def Wb (y1 : Ab × Int) (y9 : Ab × (List An) × Int) (n1 : Nat) (z1 : yW) : List Res := (.box 100 [I z1.1, .os 1, .os 2, .os 3, .os 4, .os 5, .os 6, I z1.2.1, DS Bg z1.2.2.1, DS Bu (g3_ z1), DS q65 (g4_ z1), I (g5_ z1), I (g6_ z1), .os 14, .os 15] :: v2_ (g7_ z1) :: v4_ (g8_ z1) :: v0_ (g9_ z1) :: v3_ (Dx z1) :: v5_ (Hr z1) :: v1_ (Iv z1) :: .non :: .non :: .box 36 [.os 10, .os 11, .os 12, .os 13] :: v2_ (Iu z1) :: v4_ y1.1.Ac :: v0_ (Aea z1) :: v3_ y1.1.Ao :: v1_ (Tg z1) :: v8_ (Aqy z1) :: .box 36 [.os 17, .os 18, .os 19, .os 20] :: zp y9.1 [v6_ y9.2.1])
def Af6  (z1 : yW) : St := [(0, dO 0 0), (4, dO 9 0), (6, dO 16 0)]
def Aiv (y1 : Ab × Int) (y9 : Ab × (List An) × Int) (z1 : yW) : List Res := (.box 100 [I z1.1, .os 1, .os 2, .os 3, .os 4, .os 5, .os 6, I z1.2.1, DS Bg z1.2.2.1, DS Bu (g3_ z1), DS q65 (g4_ z1), I (g5_ z1), I (g6_ z1), .os 14, .os 15] :: v2_ (g7_ z1) :: v4_ (g8_ z1) :: v0_ (g9_ z1) :: v3_ (Dx z1) :: v5_ (Hr z1) :: v1_ (Iv z1) :: .non :: .non :: .box 36 [.os 10, .os 11, .os 12, .os 13] :: v2_ (Iu z1) :: v4_ y1.1.Ac :: v0_ (Aea z1) :: v3_ y1.1.Ao :: v1_ (Tg z1) :: v8_ (Aqy z1) :: .box 36 [.os 17, .os 18, .os 19, .os 20] :: zp y9.1 [])
set_option maxHeartbeats 4000000 in
theorem Aqs (x0 : A4) (x1 : An) (r : A4) (h : Rg x0 x1 = some r) : CO 64 [.d (.o 0 0), .agg (d49 x1)] (.box 100 (I x0.Ay.Time :: .os 1 :: .os 2 :: .os 3 :: .os 4 :: .os 5 :: .os 6 :: zb x0.Am [.os 7, .os 8]) :: zp x0.Ay.Power [v5_ x0.Ay.A6, v1_ x0.Ay.Bc, v1_ x0.events, v8_ x0.states]) (.tup []) (.box 100 (I r.Ay.Time :: .os 9 :: .os 10 :: .os 11 :: .os 12 :: .os 5 :: .os 6 :: zb r.Am [.os 13, .os 14]) :: .non :: .non :: .non :: .non :: v5_ r.Ay.A6 :: v1_ r.Ay.Bc :: .non :: .non :: zp r.Ay.Power [v1_ r.events, v8_ r.states]) := by
 unfold Rg at h
 refine co 92 Tryz.func64 λ C hC => ?_
 obtain ⟨y1, h2, h⟩ := Av h
 refine wn F_ 28 [] [⟨.flts [.box 36 [.p (.v (.slice none 0 0)), .p (.v (.slice none 0 0)), .p (.v (.slice none 0 0)), .p (.v (.slice none 0 0))]], trivial⟩, ⟨.call 83 [.agg (d29 x0.Am), .agg [.os 0, .os 1, .os 2, .os 3], dI x0.Ay.Time, .agg (d49 x1)] (zp x0.Ay.Power []) (.tup [.agg [.os 4, .os 5, .os 6, .os 7], dI y1.2]) (zp x0.Ay.Power (zp y1.1 [])) [1, 2, 3, 4], ⟨e83, ((k83 x0.Am x0.Ay.Power x0.Ay.Time x1 _ h2).lend (by kernel_rfl) (by kernel_rfl) (by kernel_rfl) ⟨Ba (λ _ => rfl), Ba (λ _ => rfl), Ba (λ _ => rfl), Ba (λ _ => rfl), trivial⟩ (by kernel_rfl) (by kernel_rfl))⟩⟩, ⟨.flt 10 (.box 36 [.p (.v (.slice none 0 0)), .p (.v (.slice none 0 0)), .p (.v (.slice none 0 0)), .p (.v (.slice none 0 0))]) (.box 36 [.p (.v (.slice none 0 0)), .p (.v (.slice none 0 0)), .p (.v (.slice none 0 0)), .p (.v (.slice none 0 0))]), rfl⟩] [] 9 F6 [0, 3, 4, 5, 32] hC [] ?_
 obtain ⟨w0, h, hret0, hnext0⟩ := Ap h
 refine wc w0 (Xe) (X7 x0 x1 y1) ?_ λ z0 hs0 => ?_
 ·unfold Yv at h
  rcases cB h with ⟨h3, h⟩ | ⟨h3, h⟩
  ·exact wx w0 (Xe) (X7 x0 x1 y1) F_ 23 [true] [] [] 9 F6 _ hC [pq h3] (sI h).symm
  ·exact wx w0 (Xe) (X7 x0 x1 y1) F_ 23 [false] [] [] 9 F6 _ hC [pq h3] (sI h).symm
 ·clear h; have h := hnext0 _ hs0
  obtain ⟨y4, h5, h⟩ := Av h
  refine wn F_ 26 [] [pc Awg (Avn x0 x1 z0 _ h5) n9_] [] 9 [0, 1, 2, 3, 4, 5, 6, 7, 8, 10, 11, 12, 13, 14, 15] [0, 4, 38] hC [] ?_
  rcases cB h with ⟨h6, h⟩ | ⟨h6, h⟩
  ·replace h := sI h
   subst h
   exact wr F_ 22 [true] [] [.mv 1, .mv 2, .mv 3, .mv 4, .mv 8] 9 [0, 1, 2, 3, 4, 5, 6, 7, 8, 15, 16, 17, 18, 14, 19] hC [pq h6]
  ·obtain ⟨y7, h8, y9, h10, h⟩ := A8 h
   refine ws F_ 30 [false] [pc Aec (Ad9 y4 y1.1 _ h8) [0, 1, 2, 3, 4, 5, 6, 14, 8, 10, 11, 12, 13], ⟨.flts [.box 36 [.p (.v (.slice none 0 0)), .p (.v (.slice none 0 0)), .p (.v (.slice none 0 0)), .p (.v (.slice none 0 0))]], trivial⟩, ⟨.call 125 [.agg (d29 y7.Am), .agg [.os 0, .os 1, .os 2, .os 3]] (zp y1.1 []) (.tup [.agg [.os 4, .os 5, .os 6, .os 7], dS 8, dI y9.2.2]) (zp y1.1 (zp y9.1 [v6_ y9.2.1])) [10, 11, 12, 13], ⟨Bcm, ((Ba5 y7.Am y1.1 _ h10).lend (by kernel_rfl) (by kernel_rfl) (by kernel_rfl) ⟨Ba (λ _ => rfl), Ba (λ _ => rfl), Ba (λ _ => rfl), Ba (λ _ => rfl), Ba (λ _ => rfl), trivial⟩ (by kernel_rfl) (by kernel_rfl))⟩⟩, ⟨.flt 16 (.box 36 [.p (.v (.slice none 0 0)), .p (.v (.slice none 0 0)), .p (.v (.slice none 0 0)), .p (.v (.slice none 0 0))]) (.box 36 [.p (.v (.slice none 0 0)), .p (.v (.slice none 0 0)), .p (.v (.slice none 0 0)), .p (.v (.slice none 0 0))]), rfl⟩, pl q49 y9.2.1] [] 9 A_v (P2 y9 0 (y7.Ay.Time, zt y7.Am (zu y7.Ay.Power (y7.Ay.A6, y7.Ay.Bc, y1.1.Ag, y7.events, y7.states, y1.1.Ak)))) (Wb y1 y9 0 (y7.Ay.Time, zt y7.Am (zu y7.Ay.Power (y7.Ay.A6, y7.Ay.Bc, y1.1.Ag, y7.events, y7.states, y1.1.Ak)))) hC [pq h6] ?_
   obtain ⟨w1, hm1, hret1, hnext1⟩ := Ap h
   clear h
   refine wc w1 (Af6) (Aiv y1 y9) ?_ λ z1 hs1 => ?_
   ·refine wb ?_
    refine B3 52 21 rfl rfl λ hl1 => ?_
    refine wl (P2 y9) (Wb y1 y9) hm1 (λ z1 hn1 => ?_) λ n1 a1 z1 w1b hi1 hx1 h hb1 hr1 => ?_
    ·clear hm1
     exact wx w1 (Af6) (Aiv y1 y9) F_ 26 [false] [] [] 9 A_w _ hC [pq (A7 hl1)] hn1
    ·unfold Yw at h
     obtain ⟨y11, h12, h⟩ := Av h
     refine wn F_ 35 [true] [pr q49 (Be hx1 hl1), pn q49 (Be hx1 hl1), pc Awg (Avn (⟨(⟨z1.1, (⟨(g7_ z1), (g8_ z1), (g9_ z1), (Dx z1)⟩ : Ab), (Hr z1), (Iv z1)⟩ : A0), (⟨z1.2.1, z1.2.2.1, (g3_ z1), (g4_ z1), (g5_ z1), (g6_ z1)⟩ : Aa), (Tg z1), (Aqy z1)⟩ : A4) a1 0 _ h12) [0, 1, 2, 3, 4, 5, 6, 14, 15]] [] 9 [0, 1, 2, 3, 4, 5, 6, 7, 8, 9, 10, 11, 12, 13, 15, 16, 17, 18, 19, 20, 21, 22, 23] [0, 4, 6, 10, 52, 53, 54, 63] hC [pq (A5 hi1 hl1)] ?_
     rcases cB h with ⟨h13, h⟩ | ⟨h13, h⟩
     ·obtain ⟨y14, h15, y16, h17, y18, h19, h⟩ := By h
      exact wx w1b (P2 y9 (n1 + 1)) (Wb y1 y9 (n1 + 1)) F_ 26 [true] [pr pB h15, pu pB h15 h17, pc Aec (Ad9 y11 (⟨y16, y1.1.Ac, (Aea z1), y1.1.Ao⟩ : Ab) _ h19) [0, 1, 2, 3, 4, 5, 6, 22, 14, 10, 11, 12, 13]] [] 9 [0, 1, 2, 3, 4, 5, 6, 7, 8, 9, 10, 11, 12, 13, 22, 23, 15, 16, 17, 18, 19, 20] _ hC [pq h13] (sI h).symm
     ·obtain ⟨y20, h21, y22, h23, y24, h25, h⟩ := By h
      exact wx w1b (P2 y9 (n1 + 1)) (Wb y1 y9 (n1 + 1)) F_ 26 [false] [pr pI h21, pu pI h21 h23, pc Aec (Ad9 y11 (⟨(Iu z1), y1.1.Ac, y22, y1.1.Ao⟩ : Ab) _ h25) [0, 1, 2, 3, 4, 5, 6, 22, 14, 10, 11, 12, 13]] [] 9 [0, 1, 2, 3, 4, 5, 6, 7, 8, 9, 10, 11, 12, 13, 22, 23, 15, 16, 17, 18, 19, 20] _ hC [pq h13] (sI h).symm
   ·have h := hnext1 _ hs1
    obtain ⟨y26, h27, h⟩ := Av h
    refine wn F_ 24 [] [pb e60 (k60 (⟨(Iu z1), y1.1.Ac, (Aea z1), y1.1.Ao⟩ : Ab) y9.1 _ h27)] [] 9 [0, 1, 2, 3, 4, 5, 6, 7, 8, 14, 15, 16, 17, 18, 19, 20] [0, 6, 83] hC [] ?_
    rcases cB h with ⟨h28, h⟩ | ⟨h28, h⟩
    ·obtain ⟨y29, h30, h⟩ := Av h
     replace h := sI h
     subst h
     exact wf F_ 23 [true] [pc Aec (Ad9 (⟨(⟨z1.1, (⟨(g7_ z1), (g8_ z1), (g9_ z1), (Dx z1)⟩ : Ab), (Hr z1), (Iv z1)⟩ : A0), (⟨z1.2.1, z1.2.2.1, (g3_ z1), (g4_ z1), (g5_ z1), (g6_ z1)⟩ : Aa), (Tg z1), (Aqy z1)⟩ : A4) y9.1 _ h30) [0, 1, 2, 3, 4, 5, 6, 9, 10, 12, 13, 14, 15]] [.frz 1, .frz 2, .frz 3, .frz 4] 9 [0, 1, 2, 3, 4, 5, 6, 7, 8, 12, 13, 14, 15, 9, 16] hC [pq h28]
    ·replace h := sI h
     subst h
     exact wf F_ 23 [false] [] [.frz 1, .frz 2, .frz 3, .frz 4] 9 [0, 1, 2, 3, 4, 5, 6, 7, 8, 12, 13, 14, 15, 9, 10] hC [pq h28]
theorem Aq6 : EN 64 := en Tryz.func64
def Agz : List Nat := [0, 1, 2, 3, 4, 5, 6, 7, 8, 9, 10, 16]
theorem A9t (x0 : Aa) (x1 : A0) (x2 : An) (r : A0 × (List Ab) × Int) (h : uA x0 x1 x2 = some r) : CO 22 [.agg (d29 x0), .agg [I x1.Time, .os 0, .os 1, .os 2, .os 3, .os 4, .os 5], .agg (d49 x2)] (zp x1.Power [v5_ x1.A6, v1_ x1.Bc]) (.tup [.agg [I r.1.Time, .os 6, .os 7, .os 8, .os 9, .os 10, .os 11], .d (.os 12), .d (I r.2.2)]) (zp x1.Power (v5_ x1.A6 :: v1_ x1.Bc :: zp r.1.Power [v5_ r.1.A6, v1_ r.1.Bc, v8_ r.2.1])) := by
 unfold uA at h
 refine co 47 Tryz.func22 λ C hC => ?_
 obtain ⟨y1, h2, h⟩ := Av h
 refine wn Agz 28 [] [pb e43 (k43 x0 x1.Power _ h2)] [.ownb 9 1 4 1, .ownb 9 2 120 4, .ownb 9 3 3 1, .ownb 9 4 86 2, .ownb 9 5 130 2, .ownb 9 6 51 5] 6 Xn [3, 4, 5, 6, 7, 8, 9, 16] hC [] ?_
 rcases cB h with ⟨h3, h⟩ | ⟨h3, h⟩
 ·replace h := sI h
  subst h
  exact wr Agz 24 [true] [] [.ownb 9 1 4 1, .ownb 9 2 120 4, .ownb 9 3 3 1, .ownb 9 4 86 2, .ownb 9 5 130 2, .ownb 9 6 51 5, .own 7 36 4] 6 [0, 1, 2, 3, 4, 5, 16, 17, 18, 19, 20, 21, 22] hC [pq h3]
 ·obtain ⟨y4, h5, y6, h7, y8, h9, h⟩ := By h
  replace h := sI h
  subst h
  exact wr Agz 31 [false] [pc A94 (A9m x0 x1 _ h5) n6_, pc Aq6 (Aqs y4 x2 _ h7) [16, 17, 18, 19, 20, 21, 22, 23, 24], pa q51 5 h9] [] 6 [0, 1, 2, 3, 4, 5, 25, 26, 27, 28, 21, 31, 30] hC [pq h3]
theorem A_b : EN 22 := en Tryz.func22
def Kr : List Nat := [0, 1, 3, 4, 6, 7, 8, 9, 12, 28, 29, 30, 31, 55, 89, 90, 91, 92]
def W_ (y3 : (List Af)) (n0 : Nat) (z0 : yV) : St := [(0, dO 0 0), (3, dO 9 0), (4, dS 10), (28, dS 11), (29, dI (ln y3)), (30, dI (cnt 0 n0))]
def zC (x1 : Bk) (y3 : (List Af)) (n0 : Nat) (z0 : yV) : List Res := [.box 100 [I z0.1, .os 12, .os 13, .os 14, .os 15, .os 16, .os 17, I z0.2.1, DS Bg z0.2.2.1, DS Bu (g3_ z0), DS q65 (g4_ z0), I (g5_ z0), I (g6_ z0), .os 18, .os 19], .non, .non, .non, .non, .non, .non, .non, .non, .box 31 (d31 x1), v5_ (g7_ z0), v7_ y3, v2_ (g8_ z0), v4_ (g9_ z0), v0_ (Dx z0), v3_ (Hr z0), v5_ (Iv z0), v1_ (Iu z0), v1_ (Tg z0), v8_ (Aeb z0)]
def Af5  (z0 : yV) : St := [(0, dO 0 0), (4, dS 9)]
def Aiu  (z0 : yV) : List Res := [.box 100 [I z0.1, .os 10, .os 11, .os 12, .os 13, .os 14, .os 15, I z0.2.1, DS Bg z0.2.2.1, DS Bu (g3_ z0), DS q65 (g4_ z0), I (g5_ z0), I (g6_ z0), .os 16, .os 17], .non, .non, .non, .non, .non, .non, .non, .non, v5_ (g7_ z0), v2_ (g8_ z0), v4_ (g9_ z0), v0_ (Dx z0), v3_ (Hr z0), v5_ (Iv z0), v1_ (Iu z0), v1_ (Tg z0), v8_ (Aeb z0)]
def W9 (y3 : (List Af)) (n0 : Nat) (y12 : A3 × (List An) × Int) (n1 : Nat) (z1 : K_) : St := [(0, dO 0 0), (3, dO 9 0), (4, dS 10), (28, dS 11), (29, dI (ln y3)), (30, dI (cnt 0 n0)), (89, .d (DS q49 y12.2.1)), (90, dI (ln y12.2.1)), (91, dI (cnt 0 n1))]
def zA (x1 : Bk) (y3 : (List Af)) (y16 : List A3) (n1 : Nat) (z1 : K_) : List Res := [.box 100 [I z1.1, .os 12, .os 13, .os 14, .os 15, .os 16, .os 17, I z1.2.1, DS Bg z1.2.2.1, DS Bu (g3_ z1), DS q65 (g4_ z1), I (g5_ z1), I (g6_ z1), .os 18, .os 19], .non, .non, .non, .non, .non, .non, .non, .non, .box 31 (d31 x1), v5_ y16, v7_ y3, v2_ (g7_ z1), v4_ (g8_ z1), v0_ (g9_ z1), v3_ (Dx z1), v5_ (Hr z1), v1_ (Iv z1), v1_ (Iu z1), v8_ (Qt z1)]
def Af4 (y3 : (List Af)) (n0 : Nat) (z1 : K_) : St := [(0, dO 0 0), (3, dO 9 0), (4, dS 10), (28, dS 11), (29, dI (ln y3)), (30, dI (cnt 0 n0))]
def Ait (x1 : Bk) (y3 : (List Af)) (y16 : List A3) (z1 : K_) : List Res := [.box 100 [I z1.1, .os 12, .os 13, .os 14, .os 15, .os 16, .os 17, I z1.2.1, DS Bg z1.2.2.1, DS Bu (g3_ z1), DS q65 (g4_ z1), I (g5_ z1), I (g6_ z1), .os 18, .os 19], .non, .non, .non, .non, .non, .non, .non, .non, .box 31 (d31 x1), v5_ y16, v7_ y3, v2_ (g7_ z1), v4_ (g8_ z1), v0_ (g9_ z1), v3_ (Dx z1), v5_ (Hr z1), v1_ (Iv z1), v1_ (Iu z1), v8_ (Qt z1)]
theorem A9i (x0 : A4) (x1 : Bk) (r : A4) (h : Aso x0 x1 = some r) : CO 82 [.d (.o 0 0), .agg (d31 x1)] (.box 100 (I x0.Ay.Time :: .os 1 :: .os 2 :: .os 3 :: .os 4 :: .os 5 :: .os 6 :: zb x0.Am [.os 7, .os 8]) :: zp x0.Ay.Power [v5_ x0.Ay.A6, v1_ x0.Ay.Bc, v1_ x0.events, v8_ x0.states]) (.tup []) (.box 100 (I r.Ay.Time :: .os 9 :: .os 10 :: .os 11 :: .os 12 :: .os 13 :: .os 14 :: zb r.Am [.os 15, .os 16]) :: .non :: .non :: .non :: .non :: .non :: .non :: .non :: .non :: zp r.Ay.Power [v5_ r.Ay.A6, v1_ r.Ay.Bc, v1_ r.events, v8_ r.states]) := by
 unfold Aso at h
 refine co 105 Tryz.func82 λ C hC => ?_
 obtain ⟨y1, h2, y3, h4, h⟩ := A8 h
 refine ws Kr 28 [] [pc e86 (k86 x0.Am.Aq _ h2) [], pc A19 (A14 x0.Am x0.Ay.Power _ h4) [1, 2, 3, 4], pl q84 y3] [.mv 1, .mv 2, .mv 3, .mv 4, .mv 5, .mv 6, .mv 7, .mv 8] 9 Agn (W_ y3 0 (x0.Ay.Time, zt x0.Am (y1, zu x0.Ay.Power (x0.Ay.A6, x0.Ay.Bc, x0.events, x0.states)))) (zC x1 y3 0 (x0.Ay.Time, zt x0.Am (y1, zu x0.Ay.Power (x0.Ay.A6, x0.Ay.Bc, x0.events, x0.states)))) hC [] ?_
 obtain ⟨w0, hm0, hret0, hnext0⟩ := Ap h
 clear h
 refine wc w0 (Af5) (Aiu) ?_ λ z0 hs0 => ?_
 ·refine wb ?_
  refine B3 28 11 rfl rfl λ hl0 => ?_
  refine wl (W_ y3) (zC x1 y3) hm0 (λ z0 hn0 => ?_) λ n0 a0 z0 w0b hi0 hx0 h hb0 hr0 => ?_
  ·clear hm0
   exact wx w0 (Af5) (Aiu) Kr 26 [false] [] [] 9 [0, 1, 2, 3, 4, 5, 6, 7, 8, 10, 12, 13, 14, 15, 16, 17, 18, 19] _ hC [pq (A7 hl0)] hn0
  ·unfold Aj2 at h
   obtain ⟨y5, h6, y7, h8, h⟩ := A8 h
   refine wn Kr 35 [true] [pr q84 (Be hx0 hl0), pn q84 (Be hx0 hl0), pr pI h6, pl pI a0.Ac, pv Aq8 (λ hg => Aqu (⟨z0.2.1, z0.2.2.1, (g3_ z0), (g4_ z0), (g5_ z0), (g6_ z0)⟩ : Aa) (⟨(g8_ z0), (g9_ z0), (Dx z0), (Hr z0)⟩ : Ab) y5 _ (A9 h8 hg))] [] 9 Agn [0, 3, 4, 7, 28, 29, 30, 55] hC [pq (A5 hi0 hl0)] ?_
   rcases cB h with ⟨h9, h⟩ | ⟨h9, h⟩
   ·cases h
   ·obtain ⟨y10, h11, y12, h13, y14, h15, y16, h17, h⟩ := Cy h
    refine ws Kr 29 [false] [⟨.flts [.box 130 [I 0, I 0]], trivial⟩, pr Ce h11, pn Ce h11, pc A77 (A6b (⟨z0.2.1, z0.2.2.1, (g3_ z0), (g4_ z0), (g5_ z0), (g6_ z0)⟩ : Aa) x1 (⟨(g8_ z0), (g9_ z0), (Dx z0), (Hr z0)⟩ : Ab) y5 z0.1 y10 _ h13) [12, 13, 14, 15], ⟨.flt 20 (.box 130 [I 0, I 0]) (.box 130 [I 0, I 0]), rfl⟩, pr Ce h15, pu Ce h15 h17, pl q49 y12.2.1] [] 9 Agn (W9 y3 n0 y12 0 (z0.1, z0.2.1, z0.2.2.1, (g3_ z0), (g4_ z0), (g5_ z0), (g6_ z0), (g8_ z0), (g9_ z0), (Dx z0), (Hr z0), (Iv z0), (Iu z0), (Tg z0), (Aeb z0))) (zA x1 y3 y16 0 (z0.1, z0.2.1, z0.2.2.1, (g3_ z0), (g4_ z0), (g5_ z0), (g6_ z0), (g8_ z0), (g9_ z0), (Dx z0), (Hr z0), (Iv z0), (Iu z0), (Tg z0), (Aeb z0))) hC [pq h9] ?_
    obtain ⟨w1, hm1, hret1, hnext1⟩ := Ap h
    clear h
    refine wc w1 (Af4 y3 n0) (Ait x1 y3 y16) ?_ λ z1 hs1 => ?_
    ·refine wb ?_
     refine Bp 89 rfl λ hl1 => ?_
     refine wl (W9 y3 n0 y12) (zA x1 y3 y16) hm1 (λ z1 hn1 => ?_) λ n1 a1 z1 w1b hi1 hx1 h hb1 hr1 => ?_
     ·clear hm1
      exact wx w1 (Af4 y3 n0) (Ait x1 y3 y16) Kr 26 [false] [] [] 9 Agn _ hC [pq (A7 hl1)] hn1
     ·unfold Aj1 at h
      obtain ⟨y18, h19, h⟩ := Av h
      exact wx w1b (W9 y3 n0 y12 (n1 + 1)) (zA x1 y3 y16 (n1 + 1)) Kr 33 [true] [pt hx1 hl1, pc Aq6 (Aqs (⟨(⟨z1.1, (⟨(g7_ z1), (g8_ z1), (g9_ z1), (Dx z1)⟩ : Ab), (Hr z1), (Iv z1)⟩ : A0), (⟨z1.2.1, z1.2.2.1, (g3_ z1), (g4_ z1), (g5_ z1), (g6_ z1)⟩ : Aa), (Iu z1), (Qt z1)⟩ : A4) a1 _ h19) [0, 12, 13, 14, 15, 16, 17, 18, 19]] [] 9 [0, 1, 2, 3, 4, 5, 6, 7, 8, 9, 10, 11, 21, 22, 23, 24, 16, 17, 25, 26] _ hC [pq (A5 hi1 hl1)] (sI h).symm
    ·have h := hnext1 _ hs1
     exact wx w0b (W_ y3 (n0 + 1)) (zC x1 y3 (n0 + 1)) Kr 23 [] [] [] 9 Agn _ hC [] (sI h).symm
 ·have h := hnext0 _ hs0
  replace h := sI h
  subst h
  exact wf Kr 21 [] [] [] 9 [0, 1, 2, 3, 4, 5, 6, 7, 8, 10, 11, 12, 13, 9, 15, 16, 17] hC []
theorem A90 : EN 82 := en Tryz.func82
def vZ : List Nat := [0, 1, 2, 3, 4, 5, 6, 8, 9, 10, 11, 13, 14, 19, 23, 27, 38, 39, 40, 41]
def Afk (x3 : List An) (n0 : Nat) (z0 : K_) : St := [(4, dO 0 0), (5, dO 1 0), (8, .d (.p (.v (.pointer none)))), (9, dI 0), (11, dO 2 0), (38, .d (DS q49 x3)), (39, dI (ln x3)), (40, dI (cnt 0 n0))]
def Asa (x0 : Aa) (x1 : Bk) (n0 : Nat) (z0 : K_) : List Res := [.box 29 (d29 x0), .box 31 (d31 x1), .box 100 [I z0.1, .os 3, .os 4, .os 5, .os 6, .os 7, .os 8, I z0.2.1, DS Bg z0.2.2.1, DS Bu (g3_ z0), DS q65 (g4_ z0), I (g5_ z0), I (g6_ z0), .os 9, .os 10], v2_ (g7_ z0), v4_ (g8_ z0), v0_ (g9_ z0), v3_ (Dx z0), v5_ (Hr z0), v1_ (Iv z0), v1_ (Iu z0), v8_ (Qt z0)]
def Auo  (z0 : K_) : St := [(4, dO 0 0), (5, dO 1 0), (8, .d (.p (.v (.pointer none)))), (9, dI 0), (11, dO 2 0)]
def Ax7 (x0 : Aa) (x1 : Bk) (z0 : K_) : List Res := [.box 29 (d29 x0), .box 31 (d31 x1), .box 100 [I z0.1, .os 3, .os 4, .os 5, .os 6, .os 7, .os 8, I z0.2.1, DS Bg z0.2.2.1, DS Bu (g3_ z0), DS q65 (g4_ z0), I (g5_ z0), I (g6_ z0), .os 9, .os 10], v2_ (g7_ z0), v4_ (g8_ z0), v0_ (g9_ z0), v3_ (Dx z0), v5_ (Hr z0), v1_ (Iv z0), v1_ (Iu z0), v8_ (Qt z0)]
theorem k34 (x0 : Aa) (x1 : Bk) (x2 : A0) (x3 : List An) (r : A4 × Int) (h : F34 x0 x1 x2 x3 = some r) : CO 34 [.agg (d29 x0), .agg (d31 x1), .agg (d40 x2), .d (DS q49 x3)] [] (.tup [.d (.o 0 0), .d (I r.2)]) (.box 100 (I r.1.Ay.Time :: .os 1 :: .os 2 :: .os 3 :: .os 4 :: .os 5 :: .os 6 :: zb r.1.Am [.os 7, .os 8]) :: zp r.1.Ay.Power [v5_ r.1.Ay.A6, v1_ r.1.Ay.Bc, v1_ r.1.events, v8_ r.1.states]) := by
 unfold F34 at h
 refine co 109 Tryz.func34 λ C hC => ?_
 obtain ⟨y1, h2, h⟩ := Av h
 refine wn vZ 29 [] [pc e21 (k21 x0 x1 x2 _ h2) []] [] 0 n3_ [3, 4, 5, 6, 8, 9, 10, 19] hC [] ?_
 rcases cB h with ⟨h3, h⟩ | ⟨h3, h⟩
 ·cases h
 ·rcases cB h with ⟨h4, h⟩ | ⟨h4, h⟩
  ·cases h
  ·rcases cB h with ⟨h5, h⟩ | ⟨h5, h⟩
   ·cases h
   ·obtain ⟨y6, h7, y8, h9, h⟩ := A8 h
    refine ws vZ 37 [false, false, false] [pl q49 x3, pc e63 (k63 x0 x2 _ h7) [], pc A92 (A9k y6 x2.Power _ h9) [3, 4, 5, 6, 7, 8, 9, 10, 11], pl q49 x3] [] 0 [0, 1, 3, 4, 5, 6, 7, 8, 9, 10, 12] (Afk x3 0 (y8.Ay.Time, zt y8.Am (zu y8.Ay.Power (y8.Ay.A6, y8.Ay.Bc, y8.events, y8.states)))) (Asa x0 x1 0 (y8.Ay.Time, zt y8.Am (zu y8.Ay.Power (y8.Ay.A6, y8.Ay.Bc, y8.events, y8.states)))) hC [pq h3, pq h4, pq h5] ?_
    obtain ⟨w0, hm0, hret0, hnext0⟩ := Ap h
    clear h
    refine wc w0 (Auo) (Ax7 x0 x1) ?_ λ z0 hs0 => ?_
    ·refine wb ?_
     refine Bp 38 rfl λ hl0 => ?_
     refine wl (Afk x3) (Asa x0 x1) hm0 (λ z0 hn0 => ?_) λ n0 a0 z0 w0b hi0 hx0 h hb0 hr0 => ?_
     ·clear hm0
      exact wx w0 (Auo) (Ax7 x0 x1) vZ 26 [false] [] [] 0 Sz _ hC [pq (A7 hl0)] hn0
     ·unfold Ayv at h
      obtain ⟨y10, h11, h⟩ := Av h
      exact wx w0b (Afk x3 (n0 + 1)) (Asa x0 x1 (n0 + 1)) vZ 33 [true] [pt hx0 hl0, pc Aq6 (Aqs (⟨(⟨z0.1, (⟨(g7_ z0), (g8_ z0), (g9_ z0), (Dx z0)⟩ : Ab), (Hr z0), (Iv z0)⟩ : A0), (⟨z0.2.1, z0.2.2.1, (g3_ z0), (g4_ z0), (g5_ z0), (g6_ z0)⟩ : Aa), (Iu z0), (Qt z0)⟩ : A4) a0 _ h11) [2, 3, 4, 5, 6, 7, 8, 9, 10]] [] 0 [0, 1, 2, 12, 13, 14, 15, 7, 8, 16, 17] _ hC [pq (A5 hi0 hl0)] (sI h).symm
    ·have h := hnext0 _ hs0
     obtain ⟨y12, h13, y14, h15, y16, h17, y18, h19, h⟩ := Cy h
     refine wn vZ 11 [] [pc A90 (A9i (⟨(⟨z0.1, (⟨(g7_ z0), (g8_ z0), (g9_ z0), (Dx z0)⟩ : Ab), (Hr z0), (Iv z0)⟩ : A0), (⟨z0.2.1, z0.2.2.1, (g3_ z0), (g4_ z0), (g5_ z0), (g6_ z0)⟩ : Aa), (Iu z0), (Qt z0)⟩ : A4) x1 _ h13) [2, 3, 4, 5, 6, 7, 8, 9, 10], ⟨.call 83 [.agg (d29 x0), .agg [.os 0, .os 1, .os 2, .os 3], dI y12.Ay.Time, .agg [I 7, I 0, I 0]] (zp y12.Ay.Power []) (.tup [.agg [.os 4, .os 5, .os 6, .os 7], dI y14.2]) (zp y12.Ay.Power (zp y14.1 [])) [11, 12, 13, 14], ⟨e83, ((k83 x0 y12.Ay.Power y12.Ay.Time (⟨7, 0, 0⟩ : An) _ h15).lend (by kernel_rfl) (by kernel_rfl) (by kernel_rfl) ⟨Ba (λ _ => rfl), Ba (λ _ => rfl), Ba (λ _ => rfl), Ba (λ _ => rfl), trivial⟩ (by kernel_rfl) (by kernel_rfl))⟩⟩, pc A91 (A9j (⟨(⟨y12.Ay.Time, y14.1, y12.Ay.A6, y12.Ay.Bc⟩ : A0), y12.Am, y12.events, y12.states⟩ : A4) y14.1 _ h17) [2, 19, 20, 21, 22, 15, 16, 17, 18], pa q51 5 h19] [.frz 24] 0 [2, 15, 16, 17, 19, 20, 21, 22, 23] [8, 9, 11, 14] hC [] ?_
     obtain ⟨y21, h20, y22, h23, h⟩ := A8 h
     replace h := sI h
     subst h
     exact wr vZ 24 [] [pl q51 y18, ⟨.cut (y18.map q51) 5 (max 0 (w64 ((ln y18) - 200))) (ln (y18.map q51)) (y21.map q51), Ame q51 5 (λ _ => rfl) h20⟩, pc e84 (k84 y21 _ h23) []] [] 0 [0, 4, 5, 6, 7, 1, 9, 3, 8] hC []
theorem e34 : EN 34 := en Tryz.func34
theorem k11 (x0 : Aa) (x1 : Bk) (x2 : A0) (x3 : List An) (r : A0 × (List Bl) × Int) (h : F11 x0 x1 x2 x3 = some r) : CO 11 [.agg (d29 x0), .agg (d31 x1), .agg (d40 x2), .d (DS q49 x3)] [] (.tup [.agg [I r.1.Time, .os 0, .os 1, .os 2, .os 3, .os 4, .os 5], .d (.os 6), .d (I r.2.2)]) (zp r.1.Power [v5_ r.1.A6, v1_ r.1.Bc, v1_ r.2.1]) := by
 unfold F11 at h
 refine co 33 Tryz.func11 λ C hC => ?_
 obtain ⟨y1, h2, h⟩ := Av h
 refine wn [0, 1, 2, 3, 4, 5, 6, 8, 9, 10, 11, 12, 22] 28 [] [pc e34 (k34 x0 x1 x2 x3 _ h2) []] [.ownb 3 1 4 1, .ownb 3 2 120 4, .ownb 3 3 3 1, .ownb 3 4 86 2, .ownb 3 5 130 2, .ownb 3 6 51 5] 0 [3, 4, 5, 6, 7, 8, 9, 10, 11, 12, 13, 14, 15, 16, 17, 18] [8, 9, 10, 11, 12, 22] hC [] ?_
 rcases cB h with ⟨h3, h⟩ | ⟨h3, h⟩
 ·cases h
 ·replace h := sI h
  subst h
  exact wr [0, 1, 2, 3, 4, 5, 6, 8, 9, 10, 11, 12, 22] 25 [false] [] [] 0 [2, 3, 4, 5, 6, 7, 8] hC [pq h3]
theorem e11 : EN 11 := en Tryz.func11
theorem k13  (r : Bool) (h : F13  = some r) : CO 13 [] [] (.d (Bo r)) [] := by
 unfold F13 at h
 refine co 106 Tryz.func13 λ C hC => ?_
 obtain ⟨y1, h2, y3, h4, y5, h6, y7, h8, h⟩ := Cy h
 obtain ⟨y9, h10, y11, h12, y13, h14, y15, h16, h⟩ := Cy h
 replace h := sI h
 subst h
 exact wr [0, 1, 2, 3, 4, 6, 7, 8, 9, 10, 11] 35 [] [pc e35 (k35  _ rfl) [], pc e36 (k36 F35.1 F35.2 _ h2) [], ⟨.call 11 [.agg (d29 F35.1), .agg (d31 F35.2), .agg [I y1.1.Time, .os 0, .os 1, .os 2, .os 3, .os 4, .os 5], .d (DS q49 [(⟨3, 0, 0⟩ : An), (⟨3, 1, 0⟩ : An), (⟨1, 0, 0⟩ : An), (⟨1, 1, 0⟩ : An), (⟨1, 2, 0⟩ : An)])] (zp y1.1.Power [v5_ y1.1.A6, v1_ y1.1.Bc]) (.tup [.agg [I y3.1.Time, .os 6, .os 7, .os 8, .os 9, .os 10, .os 11], dS 12, dI y3.2.2]) (zp y1.1.Power (v5_ y1.1.A6 :: v1_ y1.1.Bc :: zp y3.1.Power [v5_ y3.1.A6, v1_ y3.1.Bc, v1_ y3.2.1])) [2, 3, 4, 5, 6, 7], ⟨e11, ((k11 F35.1 F35.2 y1.1 [(⟨3, 0, 0⟩ : An), (⟨3, 1, 0⟩ : An), (⟨1, 0, 0⟩ : An), (⟨1, 1, 0⟩ : An), (⟨1, 2, 0⟩ : An)] _ h4).lend (by kernel_rfl) (by kernel_rfl) (by kernel_rfl) ⟨Ba (λ _ => rfl), Ba (λ _ => rfl), Ba (λ _ => rfl), Ba (λ _ => rfl), Ba (λ _ => rfl), Ba (λ _ => rfl), Ba (λ _ => rfl), trivial⟩ (by kernel_rfl) (by kernel_rfl))⟩⟩, ⟨.call 11 [.agg (d29 F35.1), .agg (d31 F35.2), .agg [I y3.1.Time, .os 0, .os 1, .os 2, .os 3, .os 4, .os 5], .d (DS q49 [(⟨8, 1, 1⟩ : An)])] (zp y3.1.Power [v5_ y3.1.A6, v1_ y3.1.Bc]) (.tup [.agg [I y5.1.Time, .os 6, .os 7, .os 8, .os 9, .os 10, .os 11], dS 12, dI y5.2.2]) (zp y3.1.Power (v5_ y3.1.A6 :: v1_ y3.1.Bc :: zp y5.1.Power [v5_ y5.1.A6, v1_ y5.1.Bc, v1_ y5.2.1])) [9, 10, 11, 12, 13, 14], ⟨e11, ((k11 F35.1 F35.2 y3.1 [(⟨8, 1, 1⟩ : An)] _ h6).lend (by kernel_rfl) (by kernel_rfl) (by kernel_rfl) ⟨Ba (λ _ => rfl), Ba (λ _ => rfl), Ba (λ _ => rfl), Ba (λ _ => rfl), Ba (λ _ => rfl), Ba (λ _ => rfl), Ba (λ _ => rfl), trivial⟩ (by kernel_rfl) (by kernel_rfl))⟩⟩, ⟨.call 15 [.agg [I 0, I 1, DS q63 [(⟨2, 0, 1000, 0, 1, ([] : List Dh)⟩ : Bz)]], .agg (d29 F35.1), .agg [.os 0, .os 1, .os 2, .os 3]] (zp y5.1.Power []) (.tup [dS 4, dI y7.2]) (zp y5.1.Power [v0_ y7.1]) [16, 17, 18, 19], ⟨e15, ((k15 (⟨0, 1, [(⟨2, 0, 1000, 0, 1, ([] : List Dh)⟩ : Bz)]⟩ : F1) F35.1 y5.1.Power _ h8).lend (by kernel_rfl) (by kernel_rfl) (by kernel_rfl) ⟨Ba (λ _ => rfl), trivial⟩ (by kernel_rfl) (by kernel_rfl))⟩⟩, pL_ [((((((y1.2 == 0) && (y3.2.2 == 0)) && (y5.2.2 == 0)) && (y7.2 == 0)) && (y5.1.Time == 2)), true)] q51 y5.2.1, pv e37 (λ hg => k37 y5.1.Power.Ag [true, false, true] _ (A9 h10 hg)), pv e38 (λ hg => k38 y5.1.Power.Ak [50] _ (A9 h12 hg)), pv e38 (λ hg => k38 y7.1 [223] _ (A9 h14 hg)), pv e39 (λ hg => k39 F35.1 y5.1.Power _ (A9 h16 hg))] [] 0 [] hC []
theorem e13 : EN 13 := en Tryz.func13
def lv7 : List Nat := [0, 2, 3, 4, 6, 8, 9, 10, 11, 13, 15, 17, 28, 29, 30, 31, 52, 55, 73, 94, 98, 99, 100, 101, 111, 115, 116, 117, 118, 123, 133, 144]
def Ad3 (y5 : (List An) × Ai) (n0 : Nat) (z0 : Sg0) : St := [(2, dB false), (4, dO 6 0), (6, dO 7 0), (28, dS 8), (29, dI (ln y5.1)), (30, dI (cnt 0 n0))]
def Arv (y3 : K9) (y5 : (List An) × Ai) (n0 : Nat) (z0 : Sg0) : List Res := [v2_ z0.1, v4_ z0.2.1, v0_ z0.2.2.1, v3_ (g3_ z0), v5_ (g4_ z0), v1_ (g5_ z0), .box 29 (d29 y3.1), .box 40 [I (Ob z0), .os 0, .os 1, .os 2, .os 3, .os 4, .os 5], v6_ y5.1]
def A1z  (z0 : Sg0) : St := [(2, dB false)]
def A25  (z0 : Sg0) : List Res := []
def Ap0 (y5 : (List An) × Ai) (n0 : Nat) (y25 : (List Af)) (n1 : Nat) (z1 : Unit) : St := [(2, dB false), (4, dO 6 0), (6, dO 7 0), (9, dO 15 0), (28, dS 8), (29, dI (ln y5.1)), (30, dI (cnt 0 n0)), (98, dS 16), (99, dI (ln y25)), (100, dI (cnt 0 n1))]
def A1a (y3 : K9) (y5 : (List An) × Ai) (z0 : Sg0) (y7 : A0 × (List Ab) × Int) (y25 : (List Af)) (n1 : Nat) (z1 : Unit) : List Res := (v2_ z0.1 :: v4_ z0.2.1 :: v0_ z0.2.2.1 :: v3_ (g3_ z0) :: v5_ (g4_ z0) :: v1_ (g5_ z0) :: .box 29 (d29 y3.1) :: .box 40 [I (Ob z0), .os 0, .os 1, .os 2, .os 3, .os 4, .os 5] :: v6_ y5.1 :: zp y7.1.Power [v5_ y7.1.A6, v1_ y7.1.Bc, .box 40 [I y7.1.Time, .os 9, .os 10, .os 11, .os 12, .os 13, .os 14], v7_ y25])
def A1y (y5 : (List An) × Ai) (n0 : Nat) (z1 : Unit) : St := [(2, dB false), (4, dO 6 0), (6, dO 7 0), (9, dO 15 0), (28, dS 8), (29, dI (ln y5.1)), (30, dI (cnt 0 n0))]
def A24 (y3 : K9) (y5 : (List An) × Ai) (z0 : Sg0) (y7 : A0 × (List Ab) × Int) (z1 : Unit) : List Res := (v2_ z0.1 :: v4_ z0.2.1 :: v0_ z0.2.2.1 :: v3_ (g3_ z0) :: v5_ (g4_ z0) :: v1_ (g5_ z0) :: .box 29 (d29 y3.1) :: .box 40 [I (Ob z0), .os 0, .os 1, .os 2, .os 3, .os 4, .os 5] :: v6_ y5.1 :: zp y7.1.Power [v5_ y7.1.A6, v1_ y7.1.Bc, .box 40 [I y7.1.Time, .os 9, .os 10, .os 11, .os 12, .os 13, .os 14]])
def Apz (y5 : (List An) × Ai) (n0 : Nat) (y7 : A0 × (List Ab) × Int) (n2 : Nat) (z2 : Unit) : St := [(2, dB false), (4, dO 6 0), (6, dO 7 0), (9, dO 15 0), (28, dS 8), (29, dI (ln y5.1)), (30, dI (cnt 0 n0)), (115, dS 12), (116, dI (ln y7.1.Power.Ao)), (117, dI (cnt 0 n2))]
def A09 (y3 : K9) (y5 : (List An) × Ai) (z0 : Sg0) (y7 : A0 × (List Ab) × Int) (n2 : Nat) (z2 : Unit) : List Res := (v2_ z0.1 :: v4_ z0.2.1 :: v0_ z0.2.2.1 :: v3_ (g3_ z0) :: v5_ (g4_ z0) :: v1_ (g5_ z0) :: .box 29 (d29 y3.1) :: .box 40 [I (Ob z0), .os 0, .os 1, .os 2, .os 3, .os 4, .os 5] :: v6_ y5.1 :: zp y7.1.Power [v5_ y7.1.A6, v1_ y7.1.Bc, .box 40 [I y7.1.Time, .os 9, .os 10, .os 11, .os 12, .os 13, .os 14]])
def A1x (y5 : (List An) × Ai) (n0 : Nat) (z2 : Unit) : St := [(2, dB false), (4, dO 6 0), (6, dO 7 0), (9, dO 15 0), (28, dS 8), (29, dI (ln y5.1)), (30, dI (cnt 0 n0))]
def A23 (y3 : K9) (y5 : (List An) × Ai) (z0 : Sg0) (y7 : A0 × (List Ab) × Int) (z2 : Unit) : List Res := (v2_ z0.1 :: v4_ z0.2.1 :: v0_ z0.2.2.1 :: v3_ (g3_ z0) :: v5_ (g4_ z0) :: v1_ (g5_ z0) :: .box 29 (d29 y3.1) :: .box 40 [I (Ob z0), .os 0, .os 1, .os 2, .os 3, .os 4, .os 5] :: v6_ y5.1 :: zp y7.1.Power [v5_ y7.1.A6, v1_ y7.1.Bc, .box 40 [I y7.1.Time, .os 9, .os 10, .os 11, .os 12, .os 13, .os 14]])
def Ap4 (y5 : (List An) × Ai) (n0 : Nat) (y7 : A0 × (List Ab) × Int) (n2 : Nat) (z3 : Unit) : St := [(2, dB false), (4, dO 6 0), (6, dO 7 0), (9, dO 15 0), (15, dO 16 0), (28, dS 8), (29, dI (ln y5.1)), (30, dI (cnt 0 n0)), (115, dS 12), (116, dI (ln y7.1.Power.Ao)), (117, dI (cnt 0 n2))]
def Arp (y3 : K9) (y5 : (List An) × Ai) (z0 : Sg0) (y7 : A0 × (List Ab) × Int) (a2 : Al) (z3 : Unit) : List Res := (v2_ z0.1 :: v4_ z0.2.1 :: v0_ z0.2.2.1 :: v3_ (g3_ z0) :: v5_ (g4_ z0) :: v1_ (g5_ z0) :: .box 29 (d29 y3.1) :: .box 40 [I (Ob z0), .os 0, .os 1, .os 2, .os 3, .os 4, .os 5] :: v6_ y5.1 :: zp y7.1.Power [v5_ y7.1.A6, v1_ y7.1.Bc, .box 40 [I y7.1.Time, .os 9, .os 10, .os 11, .os 12, .os 13, .os 14], .box 86 (d86 a2)])
set_option maxHeartbeats 4000000 in
theorem k7 (x0 : List Int) (r : Bool) (h : F7 x0 = some r) : CO 7 [.d (DS pI x0)] [] (.d (Bo r)) [] := by
 unfold F7 at h
 refine co 149 Tryz.func7 λ C hC => ?_
 obtain ⟨y1, h2, y3, h4, y5, h6, h⟩ := By h
 refine ws lv7 30 [] [pc e8 (k8 x0 _ h2) [], pc e9 (k9 y1 _ h4) [0], pc A_c (A9u (Ej y3) y3.1 6 _ h6) n4_, pl q49 y5.1] [.frz 1, .frz 2, .frz 3] 0 [4, 5, 6, 7, 8, 9, 10, 12, 13] (Ad3 y5 0 (zu y3.2.2.1.Power (y3.2.2.1.A6, y3.2.2.1.Bc, y3.2.2.1.Time))) (Arv y3 y5 0 (zu y3.2.2.1.Power (y3.2.2.1.A6, y3.2.2.1.Bc, y3.2.2.1.Time))) hC [] ?_
 obtain ⟨w0, hm0, hret0, hnext0⟩ := Ap h
 clear h
 refine wc w0 (A1z) (A25) ?_ λ z0 hs0 => ?_
 ·refine wb ?_
  refine B3 28 8 rfl rfl λ hl0 => ?_
  refine wl (Ad3 y5) (Arv y3 y5) hm0 (λ z0 hn0 => ?_) λ n0 a0 z0 w0b hi0 hx0 h hb0 hr0 => ?_
  ·clear hm0
   exact wx w0 (A1z) (A25) lv7 26 [false] [] [] 0 [] _ hC [pq (A7 hl0)] hn0
  ·unfold Asu at h
   obtain ⟨y7, h8, h⟩ := Av h
   refine wn lv7 35 [true] [pr q49 (Be hx0 hl0), pn q49 (Be hx0 hl0), pc A_b (A9t y3.1 (⟨(Ob z0), (⟨z0.1, z0.2.1, z0.2.2.1, (g3_ z0)⟩ : Ab), (g4_ z0), (g5_ z0)⟩ : A0) a0 _ h8) n6_, pL_ [((y7.2.2 != 0), false)] q51 y7.1.Bc, pL_ [((y7.2.2 != 0), false)] q51 (g5_ z0)] [] 0 [0, 1, 2, 3, 4, 5, 6, 7, 8, 10, 11, 12, 13, 14, 15, 16, 17] [2, 4, 6, 9, 10, 28, 29, 30, 52] hC [pq (A5 hi0 hl0)] ?_
   rcases cB h with ⟨h9, h⟩ | ⟨h9, h⟩
   ·have hq := hret0 _ (hr0 _ (sI h).symm)
    replace hq := sI hq
    subst hq
    exact wr lv7 24 [true] [] [] 0 [] hC [pq h9]
   ·rcases cB h with ⟨h10, h⟩ | ⟨h10, h⟩
    ·obtain ⟨y11, h12, y13, h14, h⟩ := A8 h
     refine wn lv7 30 [false, true] [pl q36 y7.2.1, pb e19 (k19 (⟨z0.1, z0.2.1, z0.2.2.1, (g3_ z0)⟩ : Ab) y7.1.Power _ h12), pL_ [(!y11, false)] q51 y7.1.Bc, pR q51 h14, pN q51 h14] [] 0 Sy [2, 4, 6, 9, 10, 28, 29, 30, 73] hC [pq h9, pq h10] ?_
     rcases cB h with ⟨h15, h⟩ | ⟨h15, h⟩
     ·have hq := hret0 _ (hr0 _ (sI h).symm)
      replace hq := sI hq
      subst hq
      exact wr lv7 24 [true] [] [] 0 [] hC [pq h15]
     ·exact wx w0b (Ad3 y5 (n0 + 1)) (Arv y3 y5 (n0 + 1)) lv7 27 [false] [] [] 0 [9, 10, 11, 12, 13, 14, 6, 7, 8] _ hC [pq h15] (sI h).symm
    ·obtain ⟨y16, h17, y18, h19, y20, h21, y22, h23, h⟩ := Cy h
     refine wn lv7 31 [false, false] [pl q36 y7.2.1, pr q36 h17, pn q36 h17, pb e24 (k24 y3.1 y16 y7.1.Power _ h19), pL_ [(!y18, false)] q36 y7.2.1, pR q36 h21, pN q36 h21, pv e19 (λ hg => k19 y20 y7.1.Power _ (A9 h23 hg))] [] 0 [0, 1, 2, 3, 4, 5, 6, 7, 8, 9, 10, 11, 12, 13, 14, 16] [2, 4, 6, 9, 28, 29, 30, 94] hC [pq h9, pq h10] ?_
     rcases cB h with ⟨h24, h⟩ | ⟨h24, h⟩
     ·have hq := hret0 _ (hr0 _ (sI h).symm)
      replace hq := sI hq
      subst hq
      exact wr lv7 24 [true] [] [] 0 [] hC [pq h24]
     ·obtain ⟨y25, h26, h⟩ := Av h
      refine ws lv7 26 [false] [pc A2b (A16 y3.1 y7.1.Power _ h26) [9, 10, 11, 12], pl q84 y25] [] 0 Sy (Ap0 y5 n0 y25 0 ()) (A1a y3 y5 z0 y7 y25 0 ()) hC [pq h24] ?_
      obtain ⟨w1, hm1, hret1, hnext1⟩ := Ap h
      clear h
      refine wc w1 (A1y y5 n0) (A24 y3 y5 z0 y7) ?_ λ z1 hs1 => ?_
      ·refine wb ?_
       refine B3 98 16 rfl rfl λ hl1 => ?_
       refine wl (Ap0 y5 n0 y25) (A1a y3 y5 z0 y7 y25) hm1 (λ z1 hn1 => ?_) λ n1 a1 z1 w1b hi1 hx1 h hb1 hr1 => ?_
       ·clear hm1
        exact wx w1 (A1y y5 n0) (A24 y3 y5 z0 y7) lv7 26 [false] [] [] 0 Xn _ hC [pq (A7 hl1)] hn1
       ·unfold Ast at h
        obtain ⟨y27, h28, y29, h30, h⟩ := A8 h
        refine wn lv7 32 [true] [pr q84 (Be hx1 hl1), pn q84 (Be hx1 hl1), pr pI h28, pb e26 (k26 y3.1 y7.1.Power y27 _ h30)] [] 0 Sy [2, 4, 6, 9, 28, 29, 30, 98, 99, 100, 111] hC [pq (A5 hi1 hl1)] ?_
        rcases cB h with ⟨h31, h⟩ | ⟨h31, h⟩
        ·have hq := hret1 _ (hr1 _ (sI h).symm)
         replace hq := hret0 _ (hr0 _ (sI hq).symm)
         replace hq := sI hq
         subst hq
         exact wr lv7 24 [true] [] [] 0 [] hC [pq h31]
        ·exact wx w1b (Ap0 y5 n0 y25 (n1 + 1)) (A1a y3 y5 z0 y7 y25 (n1 + 1)) lv7 25 [false] [] [] 0 Sy _ hC [pq h31] (sI h).symm
      ·have h := hnext1 _ hs1
       refine ws lv7 24 [] [pl q86 y7.1.Power.Ao] [] 0 Xn (Apz y5 n0 y7 0 ()) (A09 y3 y5 z0 y7 0 ()) hC [] ?_
       obtain ⟨w2, hm2, hret2, hnext2⟩ := Ap h
       clear h
       refine wc w2 (A1x y5 n0) (A23 y3 y5 z0 y7) ?_ λ z2 hs2 => ?_
       ·refine wb ?_
        refine B3 115 12 rfl rfl λ hl2 => ?_
        refine wl (Apz y5 n0 y7) (A09 y3 y5 z0 y7) hm2 (λ z2 hn2 => ?_) λ n2 a2 z2 w2b hi2 hx2 h hb2 hr2 => ?_
        ·clear hm2
         exact wx w2 (A1x y5 n0) (A23 y3 y5 z0 y7) lv7 26 [false] [] [] 0 Xn _ hC [pq (A7 hl2)] hn2
        ·unfold Ass at h
         refine wn lv7 33 [true] [pr q86 (Be hx2 hl2), pn q86 (Be hx2 hl2)] [] 0 Sy [2, 4, 6, 9, 15, 28, 29, 30, 115, 116, 117, 123] hC [pq (A5 hi2 hl2)] ?_
         obtain ⟨w3, h, hret3, hnext3⟩ := Ap h
         refine wc w3 (Ap4 y5 n0 y7 n2) (Arp y3 y5 z0 y7 a2) ?_ λ z3 hs3 => ?_
         ·unfold Asr at h
          rcases cB h with ⟨h32, h⟩ | ⟨h32, h⟩
          ·obtain ⟨y33, h34, h⟩ := Av h
           refine wn lv7 26 [true] [pb e27 (k27 y3.1 y7.1.Power a2.Number _ h34)] [] 0 Sy [2, 4, 6, 9, 15, 28, 29, 30, 115, 116, 117, 133] hC [pq h32] ?_
           rcases cB h with ⟨h35, h⟩ | ⟨h35, h⟩
           ·have hq := hret3 _ (sI h).symm
            replace hq := hret2 _ (hr2 _ (sI hq).symm)
            replace hq := hret0 _ (hr0 _ (sI hq).symm)
            replace hq := sI hq
            subst hq
            exact wr lv7 24 [true] [] [] 0 [] hC [pq h35]
           ·exact wx w3 (Ap4 y5 n0 y7 n2) (Arp y3 y5 z0 y7 a2) lv7 23 [false] [] [] 0 Sy _ hC [pq h35] (sI h).symm
          ·exact wx w3 (Ap4 y5 n0 y7 n2) (Arp y3 y5 z0 y7 a2) lv7 23 [false] [] [] 0 Sy _ hC [pq h32] (sI h).symm
         ·clear h; have h := hnext3 _ hs3
          obtain ⟨y36, h37, h⟩ := Av h
          refine wn lv7 23 [] [pv e28 (λ hg => k28 y3.1 y7.1.Power a2.Number _ (A9 h37 hg))] [] 0 Xn [2, 4, 6, 9, 28, 29, 30, 115, 116, 117, 144] hC [] ?_
          rcases cB h with ⟨h38, h⟩ | ⟨h38, h⟩
          ·have hq := hret2 _ (hr2 _ (sI h).symm)
           replace hq := hret0 _ (hr0 _ (sI hq).symm)
           replace hq := sI hq
           subst hq
           exact wr lv7 24 [true] [] [] 0 [] hC [pq h38]
          ·exact wx w2b (Apz y5 n0 y7 (n2 + 1)) (A09 y3 y5 z0 y7 (n2 + 1)) lv7 25 [false] [] [] 0 Xn _ hC [pq h38] (sI h).symm
       ·have h := hnext2 _ hs2
        exact wx w0b (Ad3 y5 (n0 + 1)) (Arv y3 y5 (n0 + 1)) lv7 24 [] [] [] 0 [9, 10, 11, 12, 13, 14, 6, 7, 8] _ hC [] (sI h).symm
 ·have h := hnext0 _ hs0
  obtain ⟨y39, h40, h⟩ := Av h
  replace h := sI h
  subst h
  exact wr lv7 23 [] [pc e13 (k13  _ h40) []] [] 0 [] hC []
end Go.Proofs.YthgnbpdjncbkfaaGreat
