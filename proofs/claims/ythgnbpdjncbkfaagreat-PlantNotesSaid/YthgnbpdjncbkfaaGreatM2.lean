import Derived.Test.YthgnbpdjncbkfaaGreatM1
set_option linter.unusedVariables false
namespace Go.Proofs.YthgnbpdjncbkfaaGreat
open Go.SL
def Qu : List Nat := [0, 1, 2, 3, 4, 5, 7, 9, 14, 15, 16, 17, 21, 22, 23, 24]
def zH (y3 : (List Aj)) (n0 : Nat) (z0 : (List Ag)) : St := [(3, dO 0 0), (4, dO 1 0), (5, dO 6 0), (14, dS 7), (15, dI (ln y3)), (16, dI (cnt 0 n0))]
def Ajz (x1 : Ab) (y1 : Ab) (y3 : (List Aj)) (n0 : Nat) (z0 : (List Ag)) : List Res := (.box 36 (d36 x1) :: .box 36 [.os 8, .os 9, .os 10, .os 11] :: v2_ y1.Ah :: v4_ z0 :: v0_ y1.As :: v3_ y1.Aq :: .box 36 [.os 2, .os 3, .os 4, .os 5] :: v8_ y3 :: ze [])
def Amv  (z0 : (List Ag)) : St := [(4, dO 0 0), (5, dO 5 0)]
def Aon (y1 : Ab) (z0 : (List Ag)) : List Res := (.box 36 [.os 6, .os 7, .os 8, .os 9] :: v2_ y1.Ah :: v4_ z0 :: v0_ y1.As :: v3_ y1.Aq :: .box 36 [.os 1, .os 2, .os 3, .os 4] :: ze [])
def zG (y3 : (List Aj)) (n0 : Nat) (a0 : Aj) (n1 : Nat) (z1 : (List Ag)) : St := [(3, dO 0 0), (4, dO 1 0), (5, dO 6 0), (7, dO 12 0), (14, dS 7), (15, dI (ln y3)), (16, dI (cnt 0 n0)), (21, .d (DS pI a0.Ac)), (22, dI (ln a0.Ac)), (23, dI (cnt 0 n1))]
def Ajy (x1 : Ab) (y1 : Ab) (y3 : (List Aj)) (a0 : Aj) (n1 : Nat) (z1 : (List Ag)) : List Res := (.box 36 (d36 x1) :: .box 36 [.os 8, .os 9, .os 10, .os 11] :: v2_ y1.Ah :: v4_ z1 :: v0_ y1.As :: v3_ y1.Aq :: .box 36 [.os 2, .os 3, .os 4, .os 5] :: v8_ y3 :: ze [.box 84 (d84 a0)])
def Amu (y3 : (List Aj)) (n0 : Nat) (z1 : (List Ag)) : St := [(3, dO 0 0), (4, dO 1 0), (5, dO 6 0), (14, dS 7), (15, dI (ln y3)), (16, dI (cnt 0 n0))]
def Aom (x1 : Ab) (y1 : Ab) (y3 : (List Aj)) (z1 : (List Ag)) : List Res := (.box 36 (d36 x1) :: .box 36 [.os 8, .os 9, .os 10, .os 11] :: v2_ y1.Ah :: v4_ z1 :: v0_ y1.As :: v3_ y1.Aq :: .box 36 [.os 2, .os 3, .os 4, .os 5] :: v8_ y3 :: ze [])
theorem A8c (x0 : Aa) (x1 : Ab) (r : Ab) (h : Art x0 x1 = some r) : CO 127 [.agg (d29 x0), .agg (d36 x1)] [] (.agg [.os 0, .os 1, .os 2, .os 3]) (zp r []) := by
 unfold Art at h
 refine co 58 Tryz.func127 λ C hC => ?_
 obtain ⟨y1, h2, h⟩ := Ad h
 obtain ⟨y3, h4, h⟩ := Ad h
 refine ws Qu 28 [] [pc e65 (k65 x1 _ h2) [], pc e25 (k25 x0 x1 _ h4) [], pl q84 y3] [.ownb 2 0 4 1, .ownb 2 1 120 4, .ownb 2 2 3 1, .ownb 2 3 86 2] 0 [1, 2, 3, 4, 5, 6, 7, 8, 9, 10, 11, 12] (zH y3 0 y1.Ac) (Ajz x1 y1 y3 0 y1.Ac) hC [] ?_
 obtain ⟨w0, hm0, hret0, hnext0⟩ := Au h
 clear h
 refine wc w0 (Amv) (Aon y1) ?_ λ z0 hs0 => ?_
 ·refine wb ?_
  refine Cj 14 7 rfl rfl λ hl0 => ?_
  refine A7 (by kernel_rfl) (Xg x1) (zH y3) (Ajz x1 y1 y3) w0 y3 y1.Ac hm0 rfl rfl (λ z0 hn0 => ?_) λ n0 a0 z0 w0b hi0 hx0 h hb0 hr0 => ?_
  ·clear hm0
   exact wx w0 (Amv) (Aon y1) Qu 26 [false] [] [] 0 [1, 2, 3, 4, 5, 6, 8, 9, 10, 11] z0 hC [pq (Bb hl0)] hn0
  ·unfold Xg at h
   refine ws Qu 32 [true] [pr q84 (Bl hx0 hl0), pn q84 (Bl hx0 hl0), pl pI a0.Ac] [] 0 H9 (zG y3 n0 a0 0 z0) (Ajy x1 y1 y3 a0 0 z0) hC [pq (A8 hi0 hl0)] ?_
   obtain ⟨w1, hm1, hret1, hnext1⟩ := Au h
   clear h
   refine wc w1 (Amu y3 n0) (Aom x1 y1 y3) ?_ λ z1 hs1 => ?_
   ·refine wb ?_
    refine Bn 21 rfl λ hl1 => ?_
    refine A7 (by kernel_rfl) (Xf x1 a0) (zG y3 n0 a0) (Ajy x1 y1 y3 a0) w1 a0.Ac z0 hm1 rfl rfl (λ z1 hn1 => ?_) λ n1 a1 z1 w1b hi1 hx1 h hb1 hr1 => ?_
    ·clear hm1
     exact wx w1 (Amu y3 n0) (Aom x1 y1 y3) Qu 26 [false] [] [] 0 Fo z1 hC [pq (Bb hl1)] hn1
    ·unfold Xf at h
     obtain ⟨y5, h6, h⟩ := Ad h
     obtain ⟨y7, h8, h⟩ := Ad h
     obtain ⟨y9, h10, h⟩ := Ad h
     obtain ⟨y11, h12, h⟩ := Ad h
     obtain ⟨y13, h14, h⟩ := Ad h
     obtain ⟨y15, h16, h⟩ := Ad h
     obtain ⟨y17, h18, h⟩ := Ad h
     obtain ⟨y19, h20, h⟩ := Ad h
     exact wx w1b (zG y3 n0 a0 (n1 + 1)) (Ajy x1 y1 y3 a0 (n1 + 1)) Qu 33 [true] [pt hx1 hl1, pr pI h6, pr A_ h8, pr pI h10, pr A_ h12, pr A_ h14, pu A_ h14 h16, pr A_ h18, pu A_ h18 h20] [] 0 H9 y19 hC [pq (A8 hi1 hl1)] (sI h).symm
   ·have h := hnext1 _ hs1
    exact wx w0b (zH y3 (n0 + 1)) (Ajz x1 y1 y3 (n0 + 1)) Qu 23 [] [] [] 0 Fo z1 hC [] (sI h).symm
 ·have h := hnext0 _ hs0
  replace h := sI h
  subst h
  exact wr Qu 23 [] [] [] 0 [1, 2, 3, 4] hC []
theorem A9t : EN 127 := en Tryz.func127
def Tm : List Nat := [0, 1, 2, 3, 4, 5, 6, 7, 9, 14, 21, 22, 23, 24, 30]
def jH (y6 : (List Aj)) (n0 : Nat) (z0 : (List Ag)) : St := [(3, dO 0 0), (4, dO 1 0), (5, dI 0), (7, dO 10 0), (21, dS 11), (22, dI (ln y6)), (23, dI (cnt 0 n0))]
def Ae3 (x1 : Ab) (y4 : Ab) (y6 : (List Aj)) (n0 : Nat) (z0 : (List Ag)) : List Res := (.box 36 (d36 x1) :: .box 36 [.os 2, .os 3, .os 4, .os 5] :: ze [v2_ y4.Ah, v4_ z0, v0_ y4.As, v3_ y4.Aq, .box 36 [.os 6, .os 7, .os 8, .os 9], v8_ y6])
def Asm  (z0 : (List Ag)) : St := [(4, dO 0 0), (5, dI 0), (7, dO 9 0)]
def Avf (y4 : Ab) (z0 : (List Ag)) : List Res := (.box 36 [.os 1, .os 2, .os 3, .os 4] :: ze [v2_ y4.Ah, v4_ z0, v0_ y4.As, v3_ y4.Aq, .box 36 [.os 5, .os 6, .os 7, .os 8]])
theorem k57 (x0 : Aa) (x1 : Ab) (r : Ab × Int) (h : F57 x0 x1 = some r) : CO 57 [.agg (d29 x0), .agg (d36 x1)] [] (.tup [.agg [.os 0, .os 1, .os 2, .os 3], .d (I r.2)]) (zp r.1 []) := by
 unfold F57 at h
 refine co 45 Tryz.func57 λ C hC => ?_
 obtain ⟨y1, h2, h⟩ := Ad h
 refine ws Tm 28 [] [pc e43 (k43 x0 x1 _ h2) []] [.ownb 2 0 4 1, .ownb 2 1 120 4, .ownb 2 2 3 1, .ownb 2 3 86 2] 0 n7_ [(2, dO 0 0), (3, dO 1 0), (4, dO 2 0), (5, dI 0), (6, dI y1), (14, dB (y1 != 0))] (.box 29 (d29 x0) :: .box 36 (d36 x1) :: .box 36 [.os 3, .os 4, .os 5, .os 6] :: ze []) hC [] ?_
 rcases cB h with ⟨h3, h⟩ | ⟨h3, h⟩
 ·replace h := sI h
  subst h
  exact wr Tm 24 [true] [] [.ownb 2 0 4 1, .ownb 2 1 120 4, .ownb 2 2 3 1, .ownb 2 3 86 2] 0 [7, 8, 9, 10] hC [pq h3]
 ·obtain ⟨y4, h5, h⟩ := Ad h
  obtain ⟨y6, h7, h⟩ := Ad h
  refine ws Tm 28 [false] [pc Mr (Mk x1 _ h5) [], pc e89 (k89 x0 x1 _ h7) [], pl q84 y6] [] 0 [1, 2, 3, 4, 5, 6, 7, 8, 9, 10, 11, 12] (jH y6 0 y4.Ac) (Ae3 x1 y4 y6 0 y4.Ac) hC [pq h3] ?_
  obtain ⟨w0, hm0, hret0, hnext0⟩ := Au h
  clear h
  refine wc w0 (Asm) (Avf y4) ?_ λ z0 hs0 => ?_
  ·refine wb ?_
   refine Cj 21 11 rfl rfl λ hl0 => ?_
   refine A7 (by kernel_rfl) (vJ x1 y4) (jH y6) (Ae3 x1 y4 y6) w0 y6 y4.Ac hm0 rfl rfl (λ z0 hn0 => ?_) λ n0 a0 z0 w0b hi0 hx0 h hb0 hr0 => ?_
   ·clear hm0
    exact wx w0 (Asm) (Avf y4) Tm 26 [false] [] [] 0 [1, 2, 3, 4, 5, 6, 7, 8, 9, 10] z0 hC [pq (Bb hl0)] hn0
   ·unfold vJ at h
    refine ws Tm 32 [true] [pr q84 (Bl hx0 hl0), pn q84 (Bl hx0 hl0), pl pI a0.Ac] [] 0 H9 [(3, dO 0 0), (4, dO 1 0), (5, dI 0), (7, dO 10 0), (9, dO 12 0), (21, dS 11), (22, dI (ln y6)), (23, dI (cnt 0 n0)), (30, dB (Aqh a0))] (.box 36 (d36 x1) :: .box 36 [.os 2, .os 3, .os 4, .os 5] :: ze [v2_ y4.Ah, v4_ z0, v0_ y4.As, v3_ y4.Aq, .box 36 [.os 6, .os 7, .os 8, .os 9], v8_ y6, .box 84 (d84 a0)]) hC [pq (A8 hi0 hl0)] ?_
    rcases cB h with ⟨h8, h⟩ | ⟨h8, h⟩
    ·obtain ⟨y9, h10, h⟩ := Ad h
     obtain ⟨y11, h12, h⟩ := Ad h
     obtain ⟨y13, h14, h⟩ := Ad h
     exact wx w0b (jH y6 (n0 + 1)) (Ae3 x1 y4 y6 (n0 + 1)) Tm 25 [true] [pr pI h10, pr A_ h12, pc Ah3 (Ag9 (⟨y4.Ah, z0, y4.As, y4.Aq⟩ : Ab) a0.Ac y11 _ h14) [6, 7, 8, 9]] [] 0 Fo y13 hC [pq h8] (sI h).symm
    ·exact wx w0b (jH y6 (n0 + 1)) (Ae3 x1 y4 y6 (n0 + 1)) Tm 25 [false] [] [] 0 Fo z0 hC [pq h8] (sI h).symm
  ·have h := hnext0 _ hs0
   replace h := sI h
   subst h
   exact wr Tm 23 [] [] [] 0 [5, 6, 7, 8] hC []
theorem e57 : EN 57 := en Tryz.func57
def jX : List Nat := [0, 1, 2, 3, 4, 6, 7, 9, 30, 32, 33, 40]
theorem A7d (x0 : Aa) (x1 : Ab) (x2 : Int) (r : Bool) (h : Akh x0 x1 x2 = some r) : CO 237 [.agg (d29 x0), .agg (d36 x1), .d (I x2)] [] (.d (Bo r)) [] := by
 unfold Akh at h
 refine co 74 Tryz.func237 λ C hC => ?_
 obtain ⟨y1, h2, h⟩ := Ad h
 obtain ⟨y3, h4, h⟩ := Ad h
 obtain ⟨y5, h6, h⟩ := Ad h
 obtain ⟨y7, h8, h⟩ := Ad h
 refine ws jX 28 [] [pr Bi h2, pr pB h4, pw J0 (λ hg => Jw x1 2 x2 _ (Ba h6 hg)) [], pw J0 (λ hg => Jw x1 3 y1.A _ (Ba h8 hg)) []] [] 0 n3_ [(3, dO 0 0), (4, dO 1 0), (6, dB false), (7, dO 2 0), (30, dB ((y3 || y5) || y7))] [.box 29 (d29 x0), .box 36 (d36 x1), .box 147 (F7 y1)] hC [] ?_
 rcases cB h with ⟨h9, h⟩ | ⟨h9, h⟩
 ·replace h := sI h
  subst h
  exact wr jX 24 [true] [] [] 0 [] hC [pq h9]
 ·rcases cB h with ⟨h10, h⟩ | ⟨h10, h⟩
  ·obtain ⟨y11, h12, h⟩ := Ad h
   replace h := sI h
   subst h
   exact wr jX 32 [false, true] [pc J0 (Jw x1 3 y1.B _ h12) []] [] 0 [] hC [pq h9, pq h10]
  ·rcases cB h with ⟨h13, h⟩ | ⟨h13, h⟩
   ·obtain ⟨y14, h15, h⟩ := Ad h
    obtain ⟨y16, h17, h⟩ := Ad h
    replace h := sI h
    subst h
    exact wr jX 35 [false, false, true] [pc J0 (Jw x1 1 y1.B _ h15) [], pR A_ h17] [] 0 [] hC [pq h9, pq h10, pq h13]
   ·obtain ⟨y18, h19, h⟩ := Ad h
    obtain ⟨y20, h21, h⟩ := Ad h
    replace h := sI h
    subst h
    exact wr jX 39 [false, false, false] [pc A4r (A2w x0 x1 y1.B _ h19) [], pc J0 (Jw x1 4 y1.B _ h21) []] [] 0 [] hC [pq h9, pq h10, pq h13]
theorem A8u : EN 237 := en Tryz.func237
def V8 : List Nat := [0, 1, 2, 3, 4, 6, 7, 9, 12, 13, 14, 15, 21]
def yZ (x2 : Int) (y1 : (List Aj)) (n0 : Nat) (z0 : Unit) : St := [(2, dI x2), (6, dO 0 0), (7, dB false), (12, dS 1), (13, dI (ln y1)), (14, dI (cnt 0 n0))]
def Ajs (y1 : (List Aj)) (n0 : Nat) (z0 : Unit) : List Res := [.box 84 [.os 2, .os 3, .os 4], v8_ y1, v0_ ([] : List Int), v0_ ([] : List Int), v0_ ([] : List Int)]
def Amk  (z0 : Unit) : St := [(6, dO 0 0), (7, dB false)]
def Aoc  (z0 : Unit) : List Res := [.box 84 [.os 1, .os 2, .os 3], v0_ ([] : List Int), v0_ ([] : List Int), v0_ ([] : List Int)]
theorem Tr (x0 : Aa) (x1 : Ab) (x2 : Int) (r : Aj × Bool) (h : Gm x0 x1 x2 = some r) : CO 156 [.agg (d29 x0), .agg (d36 x1), .d (I x2)] [] (.tup [.agg (d84 r.1), .d (Bo r.2)]) [] := by
 unfold Gm at h
 refine co 25 Tryz.func156 λ C hC => ?_
 obtain ⟨y1, h2, h⟩ := Ad h
 refine ws V8 26 [] [pc e89 (k89 x0 x1 _ h2) [], pl q84 y1] [.ownb 2 0 3 1, .ownb 2 1 3 1, .ownb 2 2 3 1] 0 [2, 3, 4, 5, 6] (yZ x2 y1 0 ()) (Ajs y1 0 ()) hC [] ?_
 obtain ⟨w0, hm0, hret0, hnext0⟩ := Au h
 clear h
 refine wc w0 (Amk) (Aoc) ?_ λ z0 hs0 => ?_
 ·refine wb ?_
  refine Cj 12 1 rfl rfl λ hl0 => ?_
  refine A7 (by kernel_rfl) (J3 x2) (yZ x2 y1) (Ajs y1) w0 y1 () hm0 rfl rfl (λ z0 hn0 => ?_) λ n0 a0 z0 w0b hi0 hx0 h hb0 hr0 => ?_
  ·clear hm0
   exact wx w0 (Amk) (Aoc) V8 26 [false] [] [] 0 [0, 2, 3, 4] () hC [pq (Bb hl0)] hn0
  ·unfold J3 at h
   obtain ⟨y3, h4, h⟩ := Ad h
   refine ws V8 32 [true] [pr q84 (Bl hx0 hl0), pn q84 (Bl hx0 hl0), pc Yr (Yl a0.Am x2 _ h4) []] [] 0 n6_ [(2, dI x2), (6, dO 0 0), (7, dB false), (9, dO 5 0), (12, dS 1), (13, dI (ln y1)), (14, dI (cnt 0 n0)), (21, dB y3)] [.box 84 [.os 2, .os 3, .os 4], v8_ y1, v0_ ([] : List Int), v0_ ([] : List Int), v0_ ([] : List Int), .box 84 (d84 a0)] hC [pq (A8 hi0 hl0)] ?_
   rcases cB h with ⟨h5, h⟩ | ⟨h5, h⟩
   ·have hq := hret0 _ (hr0 _ (sI h).symm)
    replace hq := sI hq
    subst hq
    exact wr V8 24 [true] [] [] 0 [] hC [pq h5]
   ·exact wx w0b (yZ x2 y1 (n0 + 1)) (Ajs y1 (n0 + 1)) V8 25 [false] [] [] 0 n5_ () hC [pq h5] (sI h).symm
 ·have h := hnext0 _ hs0
  replace h := sI h
  subst h
  exact wr V8 23 [] [] [.ownb 0 0 3 1, .frz 4, .ownb 0 1 3 1, .frz 5, .ownb 0 2 3 1, .frz 6] 0 [] hC []
theorem T7 : EN 156 := en Tryz.func156
def Ly : List Nat := [0, 2, 3, 24, 25, 26, 66]
def Nf (y1 : Ab × Int) (z0 : Int × (List Ag)) : St := [(0, dO 0 0), (24, dI (ln y1.1.Ac)), (25, dI z0.1)]
def Ro (x0 : A2) (y1 : Ab × Int) (z0 : Int × (List Ag)) : List Res := (.box 186 (zb x0.Al [.os 5, .os 6, .os 7, .os 8, I x0.time]) :: zp x0.Ar [v2_ y1.1.Ah, v4_ z0.2, v0_ y1.1.As, v3_ y1.1.Aq])
def Ace  (z0 : Int × (List Ag)) : St := []
def Adx (x0 : A2) (y1 : Ab × Int) (z0 : Int × (List Ag)) : List Res := (.box 186 (zb x0.Al [.os 5, .os 6, .os 7, .os 8, I x0.time]) :: zp x0.Ar [v2_ y1.1.Ah, v4_ z0.2, v0_ y1.1.As, v3_ y1.1.Aq])
theorem A13 (x0 : A2) (r : A2) (h : Ky x0 = some r) : CO 188 [.d (.o 0 0)] (.box 186 (zb x0.Al [.os 1, .os 2, .os 3, .os 4, I x0.time]) :: zp x0.Ar []) (.tup []) (.box 186 (zb r.Al [.os 5, .os 6, .os 7, .os 8, I r.time]) :: .non :: .non :: .non :: .non :: zp r.Ar []) := by
 unfold Ky at h
 refine co 71 Tryz.func188 λ C hC => ?_
 obtain ⟨y1, h2, h⟩ := Ad h
 refine ws Ly 25 [] [⟨.call 222 [.agg (d29 x0.Al), .agg [.os 0, .os 1, .os 2, .os 3]] (zp x0.Ar []) (.tup [.agg [.os 4, .os 5, .os 6, .os 7], dI y1.2]) (zp x0.Ar (zp y1.1 [])) [1, 2, 3, 4], ⟨A8w, ((A7f x0.Al x0.Ar _ h2).lend (by kernel_rfl) (by kernel_rfl) (by kernel_rfl) ⟨Be (λ _ => rfl), Be (λ _ => rfl), Be (λ _ => rfl), Be (λ _ => rfl), trivial⟩ (by kernel_rfl) (by kernel_rfl))⟩⟩, pl A_ y1.1.Ac] [] 5 n9_ (Nf y1 (0, y1.1.Ac)) (Ro x0 y1 (0, y1.1.Ac)) hC [] ?_
 obtain ⟨w0, hm0, hret0, hnext0⟩ := Au h
 clear h
 refine wc w0 (Ace) (Adx x0 y1) ?_ λ z0 hs0 => ?_
 ·refine wb ?_
  refine B2 (by kernel_rfl) (Od x0 y1) (Nf y1) (Ro x0 y1) w0 1152921504606846976 (0, y1.1.Ac) hm0 rfl rfl λ z0 w0b h hb0 hr0 => ?_
  unfold Od at h
  rcases cB h with ⟨h3, h⟩ | ⟨h3, h⟩
  ·obtain ⟨y4, h5, h⟩ := Ad h
   obtain ⟨y6, h7, h⟩ := Ad h
   obtain ⟨y8, h9, h⟩ := Ad h
   refine ws Ly 34 [true] [pr A_ h5, pn A_ h5, pv Ah1 (λ hg => Ag7 (⟨x0.Al, (⟨y1.1.Ah, z0.2, y1.1.As, y1.1.Aq⟩ : Ab), x0.time⟩ : A2) z0.1 _ (Ba h7 hg)), ⟨.when [(((y4.State == 1) && y6), true)] (.row (z0.2.map A_) (((Int.toNat z0.1) : Nat) : Int) (A_ y4)), λ hg => Jo h5⟩, pR Bt h9] [] 5 n9_ [(0, dO 0 0), (3, .d (.oe 6 (Int.toNat z0.1) 4 0)), (24, dI (ln y1.1.Ac)), (25, dI z0.1), (66, dB (Aid x0 y4 y6 y8))] (.box 186 (zb x0.Al [.os 5, .os 6, .os 7, .os 8, I x0.time]) :: zp x0.Ar [v2_ y1.1.Ah, v4_ z0.2, v0_ y1.1.As, v3_ y1.1.Aq]) hC [pq h3] ?_
   rcases cB h with ⟨h10, h⟩ | ⟨h10, h⟩
   ·obtain ⟨y11, h12, h⟩ := Ad h
    exact wx w0b (Nf y1) (Ro x0 y1) Ly 25 [true] [pu A_ h5 h12] [] 5 n9_ (w64 (z0.1 + 1), y11) hC [pq h10] (sI h).symm
   ·exact wx w0b (Nf y1) (Ro x0 y1) Ly 25 [false] [] [] 5 n9_ (w64 (z0.1 + 1), z0.2) hC [pq h10] (sI h).symm
  ·exact wx w0 (Ace) (Adx x0 y1) Ly 26 [false] [] [] 5 n9_ (z0.1, z0.2) hC [pq h3] (hb0 _ (sI h).symm)
 ·have h := hnext0 _ hs0
  replace h := sI h
  subst h
  exact wf Ly 20 [] [] [.frz 1, .frz 2, .frz 3, .frz 4] 5 n9_ hC []
theorem A3y : EN 188 := en Tryz.func188
theorem k93 (x0 : Bz) (r : Bool) (h : F93 x0 = some r) : CO 93 [.agg (d63 x0)] [] (.d (Bo r)) [] := by
 unfold F93 at h
 refine co 6 Tryz.func93 λ C hC => ?_
 obtain ⟨y1, h2, h⟩ := Ad h
 replace h := sI h
 subst h
 exact wr n3_ 25 [] [pc e94 (k94 x0 _ h2) []] [] 0 [] hC []
theorem e93 : EN 93 := en Tryz.func93
theorem A8m (x0 : Bz) (x1 : Fk) (r : Int × Int) (h : Ayn x0 x1 = some r) : CO 106 [.agg (d63 x0), .agg (d70 x1)] [] (.tup [.d (I r.1), .d (I r.2)]) [] := by
 unfold Ayn at h
 refine co 31 Tryz.func106 λ C hC => ?_
 obtain ⟨y1, h2, h⟩ := Ad h
 refine ws [0, 1, 2, 3, 4, 5, 13] 26 [] [pc e94 (k94 x0 _ h2) [], ⟨.when [(!y1, false)] (.call 159 [.agg (d70 x1)] [] (dB (Aku x1)) [] []), λ hg => ⟨A9j, (A72 x1 _ rfl)⟩⟩] [] 0 [0, 1] [(2, dO 0 0), (3, dO 1 0), (4, dI 0), (5, dI 0), (13, dB ((!y1) || (!(Aku x1))))] [.box 63 (d63 x0), .box 70 (d70 x1)] hC [] ?_
 rcases cB h with ⟨h3, h⟩ | ⟨h3, h⟩
 ·cases h
 ·obtain ⟨y4, h5, h⟩ := Ad h
  replace h := sI h
  subst h
  exact wr [0, 1, 2, 3, 4, 5, 13] 25 [false] [pc A9i (A71 (w64 ((w64 ((w64 (x1.X * x1.X)) + (w64 (x1.Y * x1.Y)))) * x0.Cost)) 1000 _ h5) []] [] 0 [] hC [pq h3]
theorem A93 : EN 106 := en Tryz.func106
theorem k39 (x0 : Aa) (x1 : Ab) (r : Bool) (h : F39 x0 x1 = some r) : CO 39 [.agg (d29 x0), .agg (d36 x1)] [] (.d (Bo r)) [] := by
 unfold F39 at h
 refine co 16 Tryz.func39 λ C hC => ?_
 obtain ⟨y1, h2, h⟩ := Ad h
 obtain ⟨y3, h4, h⟩ := Ad h
 obtain ⟨y5, h6, h⟩ := Ad h
 replace h := sI h
 subst h
 exact wr n5_ 25 [] [pc e43 (k43 x0 x1 _ h2) [], pw e89 (λ hg => k89 x0 x1 _ (Ba h4 hg)) [], pv A6b (λ hg => A5q y3 _ (Ba h6 hg))] [] 0 [] hC []
theorem e39 : EN 39 := en Tryz.func39
def Apo : List Nat := [0, 1, 2, 3, 4, 5, 6, 11]
theorem A8b (x0 : Aa) (x1 : Ab) (r : Ab × Int) (h : Ak0 x0 x1 = some r) : CO 131 [.agg (d29 x0), .agg (d36 x1)] [] (.tup [.agg [.os 0, .os 1, .os 2, .os 3], .d (I r.2)]) (zp r.1 []) := by
 unfold Ak0 at h
 refine co 17 Tryz.func131 λ C hC => ?_
 obtain ⟨y1, h2, h⟩ := Ad h
 refine ws Apo 28 [] [pc e53 (k53 x0 x1 _ h2) []] [.ownb 2 0 4 1, .ownb 2 1 120 4, .ownb 2 2 3 1, .ownb 2 3 86 2] 0 n7_ [(2, dO 0 0), (3, dO 1 0), (4, dO 2 0), (5, dI 0), (6, dI y1), (11, dB (y1 != 0))] (.box 29 (d29 x0) :: .box 36 (d36 x1) :: .box 36 [.os 3, .os 4, .os 5, .os 6] :: ze []) hC [] ?_
 rcases cB h with ⟨h3, h⟩ | ⟨h3, h⟩
 ·replace h := sI h
  subst h
  exact wr Apo 24 [true] [] [.ownb 2 0 4 1, .ownb 2 1 120 4, .ownb 2 2 3 1, .ownb 2 3 86 2] 0 [7, 8, 9, 10] hC [pq h3]
 ·obtain ⟨y4, h5, h⟩ := Ad h
  replace h := sI h
  subst h
  exact wr Apo 25 [false] [pc A9t (A8c x0 x1 _ h5) []] [] 0 [7, 8, 9, 10] hC [pq h3]
theorem A9s : EN 131 := en Tryz.func131
def Yj : List Nat := [0, 1, 2, 3, 4, 5, 6, 7, 8, 9, 18, 22, 36, 43]
theorem k21 (x0 : Aa) (x1 : Bh) (x2 : A0) (r : Int) (h : F21 x0 x1 x2 = some r) : CO 21 [.agg (d29 x0), .agg (d31 x1), .agg (d40 x2)] [] (.d (I r)) [] := by
 unfold F21 at h
 refine co 55 Tryz.func21 λ C hC => ?_
 obtain ⟨y1, h2, h⟩ := Ad h
 refine ws Yj 31 [] [pc e57 (k57 x0 x2.Power _ h2) []] [] 0 n9_ [(3, dO 0 0), (4, dO 1 0), (5, dO 2 0), (6, dI 0), (7, dO 7 0), (8, dI y1.2), (9, dO 8 0), (18, dB (y1.2 != 0))] (.box 29 (d29 x0) :: .box 31 (d31 x1) :: .box 40 (d40 x2) :: zp y1.1 [.box 36 [.os 3, .os 4, .os 5, .os 6], .box 126 [.fn (.func 58) [] [.o 2 0]]]) hC [] ?_
 rcases cB h with ⟨h3, h⟩ | ⟨h3, h⟩
 ·replace h := sI h
  subst h
  exact wr Yj 24 [true] [] [] 0 [] hC [pq h3]
 ·rcases cB h with ⟨h4, h⟩ | ⟨h4, h⟩
  ·replace h := sI h
   subst h
   exact wr Yj 27 [false, true] [pc e59 (k59 x1 _ rfl) []] [] 0 [] hC [pq h3, pq h4]
  ·rcases cB h with ⟨h5, h⟩ | ⟨h5, h⟩
   ·replace h := sI h
    subst h
    exact wr Yj 30 [false, false, true] [pc e59 (k59 x1 _ rfl) [], pl B1 x2.A5] [] 0 [] hC [pq h3, pq h4, pq h5]
   ·obtain ⟨y6, h7, h⟩ := Ad h
    obtain ⟨y8, h9, h⟩ := Ad h
    refine ws Yj 30 [false, false, false] [pc e59 (k59 x1 _ rfl) [], pl B1 x2.A5, pb e60 (k60 x2.Power y1.1 _ h7), ⟨.whenR [(!y6, false)] (.call 61 [.d (DS B1 x2.A5), .d (.fn (.func 62) [] [.o 0 0])] [.box 126 [.fn (.func 58) [] [.o 1 0]], .box 40 (d40 x2)] (dB y8.1) [.box 126 [.fn (.func 58) [] [.o 1 0]], .box 40 (d40 y8.2)] [8, 2]), ⟨λ hg => ⟨A6h, (A5w x2.A5 x2 _ (Ba h9 hg))⟩, λ hg => by have e := H1 h9 hg; subst e; rfl⟩⟩] [] 0 [] [(6, dI 0), (43, dB ((!y6) || y8.1))] [] hC [pq h3, pq h4, pq h5] ?_
    rcases cB h with ⟨h10, h⟩ | ⟨h10, h⟩
    ·replace h := sI h
     subst h
     exact wr Yj 24 [true] [] [] 0 [] hC [pq h10]
    ·replace h := sI h
     subst h
     exact wr Yj 26 [false] [] [] 0 [] hC [pq h10]
theorem e21 : EN 21 := en Tryz.func21
def Apl : List Nat := [0, 1, 2, 3, 4, 6, 7, 8, 20]
theorem Aps (x0 : Aa) (x1 : Ab) (x2 : Int) (r : Int × Bool) (h : U1 x0 x1 x2 = some r) : CO 216 [.agg (d29 x0), .agg (d36 x1), .d (I x2)] [] (.tup [.d (I r.1), .d (Bo r.2)]) [] := by
 unfold U1 at h
 refine co 25 Tryz.func216 λ C hC => ?_
 obtain ⟨y1, h2, h⟩ := Ad h
 refine ws Apl 28 [] [pc T7 (Tr x0 x1 x2 _ h2) [], pl pI y1.1.Ac] [] 0 [2] [(6, dI 0), (7, dB false), (8, dO 0 0), (20, dB ((ln y1.1.Ac) == 0))] [.box 84 (d84 y1.1)] hC [] ?_
 rcases cB h with ⟨h3, h⟩ | ⟨h3, h⟩
 ·replace h := sI h
  subst h
  exact wr Apl 24 [true] [] [] 0 [] hC [pq h3]
 ·obtain ⟨y4, h5, h⟩ := Ad h
  replace h := sI h
  subst h
  exact wr Apl 25 [false] [pr pI h5] [] 0 [] hC [pq h3]
theorem Ap5 : EN 216 := en Tryz.func216
theorem Apu (x0 : Aa) (x1 : Ab) (x2 : Int) (r : Bool) (h : Vq x0 x1 x2 = some r) : CO 102 [.agg (d29 x0), .agg (d36 x1), .d (I x2)] [] (.d (Bo r)) [] := by
 unfold Vq at h
 refine co 20 Tryz.func102 λ C hC => ?_
 obtain ⟨y1, h2, h⟩ := Ad h
 replace h := sI h
 subst h
 exact wr [0, 1, 2, 3, 4, 6, 7] 27 [] [pc T7 (Tr x0 x1 x2 _ h2) [], pl pI y1.1.Ac] [] 0 [] hC []
theorem Ap7 : EN 102 := en Tryz.func102
def jZ : List Nat := [0, 1, 2, 3, 4, 6, 7, 9, 11, 20, 21, 22, 23, 29]
def Vt (y1 : Aj × Bool) (n0 : Nat) (z0 : Int) : St := [(4, dO 0 0), (6, dI 0), (7, dO 1 0), (9, dI z0), (20, .d (DS pI y1.1.Ae)), (21, dI (ln y1.1.Ae)), (22, dI (cnt 0 n0))]
def uT (x1 : Ab) (y1 : Aj × Bool) (n0 : Nat) (z0 : Int) : List Res := [.box 36 (d36 x1), .box 84 (d84 y1.1)]
def Al6  (z0 : Int) : St := [(6, dI 0), (9, dI z0)]
def Any  (z0 : Int) : List Res := []
theorem Aw4 (x0 : Aa) (x1 : Ab) (x2 : Int) (r : Int) (h : U2 x0 x1 x2 = some r) : CO 214 [.agg (d29 x0), .agg (d36 x1), .d (I x2)] [] (.d (I r)) [] := by
 unfold U2 at h
 refine co 39 Tryz.func214 λ C hC => ?_
 obtain ⟨y1, h2, h⟩ := Ad h
 refine ws jZ 30 [] [pc T7 (Tr x0 x1 x2 _ h2) [], pl pI y1.1.Ae] [] 0 [1, 2] (Vt y1 0 0) (uT x1 y1 0 0) hC [] ?_
 obtain ⟨w0, hm0, hret0, hnext0⟩ := Au h
 clear h
 refine wc w0 (Al6) (Any) ?_ λ z0 hs0 => ?_
 ·refine wb ?_
  refine Bn 20 rfl λ hl0 => ?_
  refine A7 (by kernel_rfl) (Pw x1 y1) (Vt y1) (uT x1 y1) w0 y1.1.Ae 0 hm0 rfl rfl (λ z0 hn0 => ?_) λ n0 a0 z0 w0b hi0 hx0 h hb0 hr0 => ?_
  ·clear hm0
   exact wx w0 (Al6) (Any) jZ 26 [false] [] [] 0 [] z0 hC [pq (Bb hl0)] hn0
  ·unfold Pw at h
   rcases cB h with ⟨h3, h⟩ | ⟨h3, h⟩
   ·obtain ⟨y4, h5, h⟩ := Ad h
    exact wx w0b (Vt y1 (n0 + 1)) (uT x1 y1 (n0 + 1)) jZ 36 [true, true] [pt hx0 hl0, pl pI y1.1.Ac, pr pI h5] [] 0 [0, 1] (w64 (z0 + y4)) hC [pq (A8 hi0 hl0), pq h3] (sI h).symm
   ·exact wx w0b (Vt y1 (n0 + 1)) (uT x1 y1 (n0 + 1)) jZ 36 [true, false] [pt hx0 hl0, pl pI y1.1.Ac] [] 0 [0, 1] z0 hC [pq (A8 hi0 hl0), pq h3] (sI h).symm
 ·have h := hnext0 _ hs0
  replace h := sI h
  subst h
  exact wr jZ 23 [] [] [] 0 [] hC []
theorem Axm : EN 214 := en Tryz.func214
def Aer : List Nat := [0, 1, 2, 3, 4, 6, 7, 9, 11, 20, 21, 22, 23]
def yN (y1 : Aj × Bool) (n0 : Nat) (z0 : Int) : St := [(3, dO 0 0), (6, dI 0), (9, dI z0), (20, .d (DS pI y1.1.Ac)), (21, dI (ln y1.1.Ac)), (22, dI (cnt 0 n0))]
def Ajf (x0 : Aa) (n0 : Nat) (z0 : Int) : List Res := [.box 29 (d29 x0)]
def Al7  (z0 : Int) : St := [(6, dI 0), (9, dI z0)]
def Anz  (z0 : Int) : List Res := []
theorem Aw5 (x0 : Aa) (x1 : Ab) (x2 : Int) (r : Int) (h : U3 x0 x1 x2 = some r) : CO 213 [.agg (d29 x0), .agg (d36 x1), .d (I x2)] [] (.d (I r)) [] := by
 unfold U3 at h
 refine co 36 Tryz.func213 λ C hC => ?_
 obtain ⟨y1, h2, h⟩ := Ad h
 refine ws Aer 30 [] [pc T7 (Tr x0 x1 x2 _ h2) [], pl pI y1.1.Ac] [] 0 [0] (yN y1 0 0) (Ajf x0 0 0) hC [] ?_
 obtain ⟨w0, hm0, hret0, hnext0⟩ := Au h
 clear h
 refine wc w0 (Al7) (Anz) ?_ λ z0 hs0 => ?_
 ·refine wb ?_
  refine Bn 20 rfl λ hl0 => ?_
  refine A7 (by kernel_rfl) (Wy x0) (yN y1) (Ajf x0) w0 y1.1.Ac 0 hm0 rfl rfl (λ z0 hn0 => ?_) λ n0 a0 z0 w0b hi0 hx0 h hb0 hr0 => ?_
  ·clear hm0
   exact wx w0 (Al7) (Anz) Aer 26 [false] [] [] 0 [] z0 hC [pq (Bb hl0)] hn0
  ·unfold Wy at h
   obtain ⟨y3, h4, h⟩ := Ad h
   exact wx w0b (yN y1 (n0 + 1)) (Ajf x0 (n0 + 1)) Aer 33 [true] [pt hx0 hl0, pr Bt h4] [] 0 [0] (w64 (z0 + y3.Rating)) hC [pq (A8 hi0 hl0)] (sI h).symm
 ·have h := hnext0 _ hs0
  replace h := sI h
  subst h
  exact wr Aer 23 [] [] [] 0 [] hC []
theorem Axn : EN 213 := en Tryz.func213
def I5 : List Nat := [0, 1, 2, 3, 4, 6, 7, 8, 9, 11, 12, 13, 22, 23, 24, 25, 26, 30, 31, 32, 33, 47]
def yS  (n0 : Nat) (z0 : Unit) : St := [(3, dO 0 0), (4, dO 1 0), (6, dI 0), (7, dB false), (8, dO 2 0), (23, .d (DS pI [2, 1, 0])), (24, dI ([2, 1, 0].length : Int)), (25, dI (cnt 0 n0))]
def Ajk (x0 : Aa) (x1 : Ab) (y1 : Aj × Bool) (n0 : Nat) (z0 : Unit) : List Res := [.box 29 (d29 x0), .box 36 (d36 x1), .box 84 (d84 y1.1)]
def Amc  (z0 : Unit) : St := [(6, dI 0), (7, dB false)]
def An4  (z0 : Unit) : List Res := []
def yR (x1 : Ab) (n0 : Nat) (a0 : Int) (n1 : Nat) (z1 : Unit) : St := [(3, dO 0 0), (4, dO 1 0), (6, dI 0), (7, dB false), (8, dO 2 0), (11, dI a0), (23, .d (DS pI [2, 1, 0])), (24, dI ([2, 1, 0].length : Int)), (25, dI (cnt 0 n0)), (30, .d (DS A_ x1.Ac)), (31, dI (ln x1.Ac)), (32, dI (cnt 0 n1))]
def Ajj (x0 : Aa) (x1 : Ab) (y1 : Aj × Bool) (n1 : Nat) (z1 : Unit) : List Res := [.box 29 (d29 x0), .box 36 (d36 x1), .box 84 (d84 y1.1)]
def Amb (n0 : Nat) (z1 : Unit) : St := [(3, dO 0 0), (4, dO 1 0), (6, dI 0), (7, dB false), (8, dO 2 0), (23, .d (DS pI [2, 1, 0])), (24, dI ([2, 1, 0].length : Int)), (25, dI (cnt 0 n0))]
def An3 (x0 : Aa) (x1 : Ab) (y1 : Aj × Bool) (z1 : Unit) : List Res := [.box 29 (d29 x0), .box 36 (d36 x1), .box 84 (d84 y1.1)]
theorem A7s (x0 : Aa) (x1 : Ab) (x2 : Int) (r : Int × Bool) (h : Akn x0 x1 x2 = some r) : CO 178 [.agg (d29 x0), .agg (d36 x1), .d (I x2)] [] (.tup [.d (I r.1), .d (Bo r.2)]) [] := by
 unfold Akn at h
 refine co 51 Tryz.func178 λ C hC => ?_
 obtain ⟨y1, h2, h⟩ := Ad h
 refine ws I5 28 [] [pc T7 (Tr x0 x1 x2 _ h2) []] [] 0 n3_ [(3, dO 0 0), (4, dO 1 0), (6, dI 0), (7, dB false), (8, dO 2 0), (22, dB (!y1.2))] [.box 29 (d29 x0), .box 36 (d36 x1), .box 84 (d84 y1.1)] hC [] ?_
 rcases cB h with ⟨h3, h⟩ | ⟨h3, h⟩
 ·replace h := sI h
  subst h
  exact wr I5 24 [true] [] [] 0 [] hC [pq h3]
 ·refine ws I5 26 [false] [pl pI [2, 1, 0]] [] 0 n3_ (yS 0 ()) (Ajk x0 x1 y1 0 ()) hC [pq h3] ?_
  obtain ⟨w0, hm0, hret0, hnext0⟩ := Au h
  clear h
  refine wc w0 (Amc) (An4) ?_ λ z0 hs0 => ?_
  ·refine wb ?_
   refine Bn 23 rfl λ hl0 => ?_
   refine A7 (by kernel_rfl) (W5 x0 x1 y1) (yS) (Ajk x0 x1 y1) w0 [2, 1, 0] () hm0 rfl rfl (λ z0 hn0 => ?_) λ n0 a0 z0 w0b hi0 hx0 h hb0 hr0 => ?_
   ·clear hm0
    exact wx w0 (Amc) (An4) I5 26 [false] [] [] 0 [] () hC [pq (Bb hl0)] hn0
   ·unfold W5 at h
    refine ws I5 32 [true] [pt hx0 hl0, pl A_ x1.Ac] [] 0 n3_ (yR x1 n0 a0 0 ()) (Ajj x0 x1 y1 0 ()) hC [pq (A8 hi0 hl0)] ?_
    obtain ⟨w1, hm1, hret1, hnext1⟩ := Au h
    clear h
    refine wc w1 (Amb n0) (An3 x0 x1 y1) ?_ λ z1 hs1 => ?_
    ·refine wb ?_
     refine Bn 30 rfl λ hl1 => ?_
     refine A7 (by kernel_rfl) (W0 x0 x1 y1 a0) (yR x1 n0 a0) (Ajj x0 x1 y1) w1 x1.Ac () hm1 rfl rfl (λ z1 hn1 => ?_) λ n1 a1 z1 w1b hi1 hx1 h hb1 hr1 => ?_
     ·clear hm1
      exact wx w1 (Amb n0) (An3 x0 x1 y1) I5 26 [false] [] [] 0 n3_ () hC [pq (Bb hl1)] hn1
     ·unfold W0 at h
      obtain ⟨y4, h5, h⟩ := Ad h
      refine ws I5 32 [true] [pt hx1 hl1, pw A8y (λ hg => A7h x0 x1 y1.1 (cnt 0 n1) _ (Ba h5 hg)) []] [] 0 n3_ [(3, dO 0 0), (4, dO 1 0), (6, dI 0), (7, dB false), (8, dO 2 0), (11, dI a0), (12, dI (cnt 0 n1)), (23, .d (DS pI [2, 1, 0])), (24, dI ([2, 1, 0].length : Int)), (25, dI (cnt 0 n0)), (30, .d (DS A_ x1.Ac)), (31, dI (ln x1.Ac)), (32, dI (cnt 0 n1)), (47, dB ((a1.State == a0) && y4))] [.box 29 (d29 x0), .box 36 (d36 x1), .box 84 (d84 y1.1)] hC [pq (A8 hi1 hl1)] ?_
      rcases cB h with ⟨h6, h⟩ | ⟨h6, h⟩
      ·have hq := hret1 _ (hr1 _ (sI h).symm)
       replace hq := hret0 _ (hr0 _ (sI hq).symm)
       replace hq := sI hq
       subst hq
       exact wr I5 24 [true] [] [] 0 [] hC [pq h6]
      ·exact wx w1b (yR x1 n0 a0 (n1 + 1)) (Ajj x0 x1 y1 (n1 + 1)) I5 25 [false] [] [] 0 n3_ () hC [pq h6] (sI h).symm
    ·have h := hnext1 _ hs1
     exact wx w0b (yS (n0 + 1)) (Ajk x0 x1 y1 (n0 + 1)) I5 23 [] [] [] 0 n3_ () hC [] (sI h).symm
  ·have h := hnext0 _ hs0
   replace h := sI h
   subst h
   exact wr I5 23 [] [] [] 0 [] hC []
theorem A89 : EN 178 := en Tryz.func178
def Pb : List Nat := [0, 1, 4, 5, 7, 8, 9, 16]
def Sw (x0 : List Bz) (n0 : Nat) (z0 : Unit) : St := [(0, .d (DS q63 x0)), (1, .d (.fn (.func 93) [] [])), (4, dI 0), (7, dI (ln x0)), (8, dI (cnt 0 n0))]
def Zh  (n0 : Nat) (z0 : Unit) : List Res := []
def Acj  (z0 : Unit) : St := [(4, dI 0)]
def Ad2  (z0 : Unit) : List Res := []
theorem A2j (x0 : List Bz) (r : Int) (h : Akx x0 = some r) : CO 147 [.d (DS q63 x0), .d (.fn (.func 93) [] [])] [] (.d (I r)) [] := by
 unfold Akx at h
 refine co 19 Tryz.func147 λ C hC => ?_
 refine ws Pb 26 [] [pl q63 x0] [] 0 [] (Sw x0 0 ()) (Zh 0 ()) hC [] ?_
 obtain ⟨w0, hm0, hret0, hnext0⟩ := Au h
 clear h
 refine wc w0 (Acj) (Ad2) ?_ λ z0 hs0 => ?_
 ·refine wb ?_
  refine Bn 0 rfl λ hl0 => ?_
  refine A7 (by kernel_rfl) Vj (Sw x0) (Zh) w0 x0 () hm0 rfl rfl (λ z0 hn0 => ?_) λ n0 a0 z0 w0b hi0 hx0 h hb0 hr0 => ?_
  ·clear hm0
   exact wx w0 (Acj) (Ad2) Pb 26 [false] [] [] 0 [] () hC [pq (Bb hl0)] hn0
  ·unfold Vj at h
   obtain ⟨y1, h2, h⟩ := Ad h
   refine ws Pb 32 [true] [pt hx0 hl0, pc e93 (k93 a0 _ h2) []] [] 0 [] [(0, .d (DS q63 x0)), (1, .d (.fn (.func 93) [] [])), (4, dI 0), (5, dI (cnt 0 n0)), (7, dI (ln x0)), (8, dI (cnt 0 n0)), (16, dB y1)] [] hC [pq (A8 hi0 hl0)] ?_
   rcases cB h with ⟨h3, h⟩ | ⟨h3, h⟩
   ·cases h
   ·exact wx w0b (Sw x0 (n0 + 1)) (Zh (n0 + 1)) Pb 25 [false] [] [] 0 [] () hC [pq h3] (sI h).symm
 ·have h := hnext0 _ hs0
  replace h := sI h
  subst h
  exact wr Pb 23 [] [] [] 0 [] hC []
theorem A4e : EN 147 := en Tryz.func147
theorem k47 (x0 : Bz) (x1 : Int) (r : Int) (h : F47 x0 x1 = some r) : CO 47 [.agg (d63 x0), .d (I x1)] [] (.d (I r)) [] := by
 unfold F47 at h
 refine co 40 Tryz.func47 λ C hC => ?_
 obtain ⟨y1, h2, h⟩ := Ad h
 rcases cB h with ⟨h3, h⟩ | ⟨h3, h⟩
 ·cases h
 ·rcases cB h with ⟨h4, h⟩ | ⟨h4, h⟩
  ·cases h
  ·obtain ⟨u6, h5, h⟩ := Ad h
   obtain ⟨y7, h8, h⟩ := Ad h
   replace h := sI h
   subst h
   exact wr [0, 1, 2, 4, 5, 6, 7, 17, 24] 39 [false, false] [pc A93 (A8m x0 (⟨x0.Max, 0⟩ : Fk) _ h2) [], ⟨.nz x0.Cost, O8 h5⟩, pc A92 (A8l (w64 (Int.tdiv (w64 (1000 * x1)) x0.Cost)) _ h8) []] [] 0 [] hC [pq h3, pq h4]
theorem e47 : EN 47 := en Tryz.func47
theorem A5u (x0 : Ai) (x1 : Aa) (r : Ab × Ai) (h : vG x0 x1 = some r) : CO 79 [.d (.o 0 0), .agg [I x1.Am, .os 1, .os 2, .os 3, I x1.Phase, I x1.Ap]] (.box 90 (d90 x0) :: zs x1 []) (.agg [.os 4, .os 5, .os 6, .os 7]) (.box 90 (d90 r.2) :: zs x1 (zp r.1 [])) := by
 unfold vG at h
 refine co 16 Tryz.func79 λ C hC => ?_
 obtain ⟨y1, h2, h⟩ := Ad h
 obtain ⟨y3, h4, h⟩ := Ad h
 replace h := sI h
 subst h
 exact wr [0, 1, 3, 4, 5] 27 [] [⟨.flts [.box 36 [.p (.v (.slice none 0 0)), .p (.v (.slice none 0 0)), .p (.v (.slice none 0 0)), .p (.v (.slice none 0 0))]], trivial⟩, pc A4m (A2r x0 x1 _ h2) n4_, ⟨.call 131 [.agg [I x1.Am, .os 0, .os 1, .os 2, I x1.Phase, I x1.Ap], .agg [.os 3, .os 4, .os 5, .os 6]] (zs x1 (zp y1.1 [])) (.tup [.agg [.os 7, .os 8, .os 9, .os 10], dI y3.2]) (zs x1 (zp y1.1 (zp y3.1 []))) [1, 2, 3, 7, 8, 9, 10], ⟨A9s, ((A8b x1 y1.1 _ h4).lend (by kernel_rfl) (by kernel_rfl) (by kernel_rfl) ⟨Be (λ _ => rfl), Be (λ _ => rfl), Be (λ _ => rfl), Be (λ _ => rfl), trivial⟩ (by kernel_rfl) (by kernel_rfl))⟩⟩, ⟨.flt 6 (.box 36 [.p (.v (.slice none 0 0)), .p (.v (.slice none 0 0)), .p (.v (.slice none 0 0)), .p (.v (.slice none 0 0))]) (.box 36 [.p (.v (.slice none 0 0)), .p (.v (.slice none 0 0)), .p (.v (.slice none 0 0)), .p (.v (.slice none 0 0))]), rfl⟩] [] 4 [0, 1, 2, 3, 11, 12, 13, 14] hC []
theorem A6f : EN 79 := en Tryz.func79
def jW : List Nat := [0, 1, 2, 3, 4, 5, 6, 7, 8, 9, 10, 20, 22, 23, 49]
theorem A7c (x0 : Aa) (x1 : Ab) (x2 : Ak) (r : Bool) (h : Akg x0 x1 x2 = some r) : CO 238 [.agg (d29 x0), .agg (d36 x1), .agg (F7 x2)] [] (.d (Bo r)) [] := by
 unfold Akg at h
 refine co 64 Tryz.func238 λ C hC => ?_
 obtain ⟨y1, h2, h⟩ := Ad h
 refine ws jW 28 [] [pc Ap5 (Aps x0 x1 x2.A _ h2) []] [] 0 n3_ [(3, dO 0 0), (4, dO 1 0), (5, dO 2 0), (6, dB false), (7, dI y1.1), (20, dB (!y1.2))] [.box 29 (d29 x0), .box 36 (d36 x1), .box 147 (F7 x2)] hC [] ?_
 rcases cB h with ⟨h3, h⟩ | ⟨h3, h⟩
 ·replace h := sI h
  subst h
  exact wr jW 24 [true] [] [] 0 [] hC [pq h3]
 ·rcases cB h with ⟨h4, h⟩ | ⟨h4, h⟩
  ·obtain ⟨y5, h6, h⟩ := Ad h
   obtain ⟨y7, h8, h⟩ := Ad h
   obtain ⟨y9, h10, h⟩ := Ad h
   replace h := sI h
   subst h
   exact wr jW 34 [false, true] [pc Ap5 (Aps x0 x1 x2.B _ h6) [], pR A_ h8, pR A_ h10, ⟨.when [(!y5.2, false)] (.call 243 [.agg (d29 x0), .agg (T9 y7), .agg (T9 y9)] [] (dB (Ake x0 y7 y9)) [] []), λ hg => ⟨A26, (A1b x0 y7 y9 _ rfl)⟩⟩] [] 0 [] hC [pq h3, pq h4]
  ·rcases cB h with ⟨h11, h⟩ | ⟨h11, h⟩
   ·obtain ⟨y12, h13, h⟩ := Ad h
    obtain ⟨y14, h15, h⟩ := Ad h
    replace h := sI h
    subst h
    exact wr jW 35 [false, false, true] [pr A_ h13, pr A_ h15, pc A26 (A1b x0 y12 y14 _ rfl) []] [] 0 [] hC [pq h3, pq h4, pq h11]
   ·replace h := sI h
    subst h
    exact wr jW 37 [false, false, false] [] [] 0 [] hC [pq h3, pq h4, pq h11]
theorem A8t : EN 238 := en Tryz.func238
def Nr : List Nat := [0, 1, 2, 3, 4, 5, 8, 9, 10, 11, 12, 13, 14, 15, 16, 17, 23, 44, 63, 76]
theorem A7p (x0 : Aa) (x1 : Ab) (x2 : Int) (x3 : Int) (r : Ab × Int) (h : Zz x0 x1 x2 x3 = some r) : CO 184 [.agg (d29 x0), .agg (d36 x1), .d (I x2), .d (I x3)] [] (.tup [.agg [.os 0, .os 1, .os 2, .os 3], .d (I r.2)]) (zp r.1 []) := by
 unfold Zz at h
 refine co 95 Tryz.func184 λ C hC => ?_
 obtain ⟨y1, h2, h⟩ := Ad h
 refine ws Nr 28 [] [pc e43 (k43 x0 x1 _ h2) []] [.ownb 2 0 4 1, .ownb 2 1 120 4, .ownb 2 2 3 1, .ownb 2 3 86 2] 0 n7_ [(2, dI x2), (3, dI x3), (4, dO 0 0), (5, dO 1 0), (8, dO 2 0), (9, dI 0), (10, dI y1), (23, dB (y1 != 0))] (.box 29 (d29 x0) :: .box 36 (d36 x1) :: .box 36 [.os 3, .os 4, .os 5, .os 6] :: ze []) hC [] ?_
 rcases cB h with ⟨h3, h⟩ | ⟨h3, h⟩
 ·replace h := sI h
  subst h
  exact wr Nr 24 [true] [] [.ownb 2 0 4 1, .ownb 2 1 120 4, .ownb 2 2 3 1, .ownb 2 3 86 2] 0 [7, 8, 9, 10] hC [pq h3]
 ·rcases cB h with ⟨h4, h⟩ | ⟨h4, h⟩
  ·replace h := sI h
   subst h
   exact wr Nr 29 [false, true] [pL_ [(decide (x2 < 0), false)] Bt x0.Ac] [.ownb 2 0 4 1, .ownb 2 1 120 4, .ownb 2 2 3 1, .ownb 2 3 86 2] 0 [7, 8, 9, 10] hC [pq h3, pq h4]
  ·obtain ⟨y5, h6, h⟩ := Ad h
   obtain ⟨y7, h8, h⟩ := Ad h
   refine ws Nr 33 [false, false] [pL_ [(decide (x2 < 0), false)] Bt x0.Ac, pc Ap5 (Aps x0 x1 x3 _ h6) [], pR A_ h8] [] 0 n7_ [(2, dI x2), (4, dO 0 0), (5, dO 1 0), (8, dO 2 0), (9, dI 0), (11, dI y5.1), (63, dB ((!y5.2) || (y7.State != 2)))] (.box 29 (d29 x0) :: .box 36 (d36 x1) :: .box 36 [.os 3, .os 4, .os 5, .os 6] :: ze []) hC [pq h3, pq h4] ?_
   rcases cB h with ⟨h9, h⟩ | ⟨h9, h⟩
   ·replace h := sI h
    subst h
    exact wr Nr 24 [true] [] [.ownb 2 0 4 1, .ownb 2 1 120 4, .ownb 2 2 3 1, .ownb 2 3 86 2] 0 [7, 8, 9, 10] hC [pq h9]
   ·obtain ⟨y10, h11, h⟩ := Ad h
    obtain ⟨y12, h13, h⟩ := Ad h
    refine ws Nr 32 [false] [pc Mr (Mk x1 _ h11) [], pc A3i (A1n x0 x1 x2 _ h13) []] [] 0 Fo [(4, dO 0 0), (5, dO 1 0), (8, dO 2 0), (9, dI 0), (11, dI y5.1), (13, dO 11 0), (14, .d (DS pI [x2])), (15, dI y12.1), (76, dB y12.2)] (.box 29 (d29 x0) :: .box 36 (d36 x1) :: .box 36 [.os 3, .os 4, .os 5, .os 6] :: ze (zp y10 [.box 36 [.os 7, .os 8, .os 9, .os 10]])) hC [pq h9] ?_
    rcases cB h with ⟨h14, h⟩ | ⟨h14, h⟩
    ·obtain ⟨y15, h16, h⟩ := Ad h
     obtain ⟨y17, h18, h⟩ := Ad h
     obtain ⟨y19, h20, h⟩ := Ad h
     replace h := sI h
     subst h
     exact wr Nr 29 [true] [pc T7 (Tr x0 x1 y12.1 _ h16) [], pr A_ h18, pc Ah3 (Ag9 y10 y15.1.Ac y17 _ h20) [7, 8, 9, 10]] [] 0 [7, 8, 9, 10] hC [pq h14]
    ·obtain ⟨y21, h22, h⟩ := Ad h
     obtain ⟨y23, h24, h⟩ := Ad h
     replace h := sI h
     subst h
     exact wr Nr 27 [false] [pr A_ h22, pc Ah3 (Ag9 y10 [x2] y21 _ h24) [7, 8, 9, 10]] [] 0 [7, 8, 9, 10] hC [pq h14]
theorem A86 : EN 184 := en Tryz.func184
theorem A1r (x0 : Ak) (x1 : Ay) (r : Bool × Ay) (h : U5 x0 x1 = some r) : CO 206 [.agg (F7 x0), .d (.o 0 0)] (.box 211 [.o 1 0] :: .box 235 (zb x1.Al [.os 2, .os 3, .os 4, .os 5, .os 6]) :: zp x1.Ar [v6_ x1.acts]) (.d (Bo r.1)) (.box 211 [.o 1 0] :: .box 235 (zb r.2.Al [.os 2, .os 3, .os 4, .os 5, .os 6]) :: zp r.2.Ar [v6_ r.2.acts]) := by
 unfold U5 at h
 refine co 21 Tryz.func206 λ C hC => ?_
 obtain ⟨y1, h2, h⟩ := Ad h
 replace h := sI h
 subst h
 exact wr n4_ 25 [] [pv Ap7 (λ hg => Apu x1.Al x1.Ar x0.A _ (Ba h2 hg))] [] 7 n7_ hC []
theorem A3m : EN 206 := en Tryz.func206
theorem Atj (x0 : Ay) (x1 : Int) (r : Int) (h : Pu x0 x1 = some r) : CO 234 [.d (.ip [.v (.int .i64 x0.Al.Am), .s (x0.Al.Af.map Bi), .s (x0.Al.Ac.map Bt), .s (x0.Al.Ae.map q65), .v (.int .i64 x0.Al.Phase), .v (.int .i64 x0.Al.Ap), .s (x0.Ar.Ah.map pB), .s (x0.Ar.Ac.map A_), .s (x0.Ar.As.map pI), .s (x0.Ar.Aq.map q86), .s (x0.acts.map q49)]), .d (I x1)] [] (.d (I r)) [] := by
 unfold Pu at h
 refine co 27 Tryz.func234 λ C hC => ?_
 obtain ⟨y1, h2, h⟩ := Ad h
 obtain ⟨y3, h4, h⟩ := Ad h
 replace h := sI h
 subst h
 exact wr [0, 1, 4] 25 [] [pc Axm (Aw4 x0.Al x0.Ar x1 _ h2) [], pc Axn (Aw5 x0.Al x0.Ar x1 _ h4) []] [] 0 [] hC []
theorem Auc : EN 234 := en Tryz.func234
def Lj : List Nat := [0, 1, 2, 3, 4, 5, 6, 7, 8, 9, 10, 13, 14, 30, 33, 34, 35, 40, 61]
def Ajl (x0 : Aa) (x1 : Bh) (x2 : Ab) (x3 : Int) (z0 : Unit) : List Res := [.box 29 (d29 x0), .box 31 (d31 x1), .box 36 (d36 x2), .box 3 [I x3], .box 3 [I 0], .box 4 [Bo false], .non]
def Anv (x0 : Aa) (x1 : Bh) (x2 : Ab) (x3 : Int) (v175_0 : Int × Bool) : List Res := [.box 29 (d29 x0), .box 31 (d31 x1), .box 36 (d36 x2), .box 3 [I x3], .box 3 [I v175_0.1], .box 4 [Bo v175_0.2], .non]
theorem A7u (x0 : Aa) (x1 : Bh) (x2 : Ab) (x3 : Int) (r : Int × Bool) (h : Akp x0 x1 x2 x3 = some r) : CO 175 [.agg (d29 x0), .agg (d31 x1), .agg (d36 x2), .d (I x3)] [] (.tup [.d (I r.1), .d (Bo r.2)]) [] := by
 unfold Akp at h
 refine co 63 Tryz.func175 λ C hC => ?_
 obtain ⟨y1, h2, h⟩ := Ad h
 refine ws Lj 28 [] [pc T7 (Tr x0 x2 x3 _ h2) [], pc e59 (k59 x1 _ rfl) [], pL_ [(!(F59 x1), false)] pI y1.1.Ac] [] 0 n7_ [(4, dO 0 0), (5, dO 1 0), (6, dO 2 0), (7, dO 3 0), (8, dO 4 0), (9, dO 5 0), (10, dO 6 0), (30, dB (Auv x1 y1))] [.box 29 (d29 x0), .box 31 (d31 x1), .box 36 (d36 x2), .box 3 [I x3], .box 3 [I 0], .box 4 [Bo false], .box 84 (d84 y1.1)] hC [] ?_
 rcases cB h with ⟨h3, h⟩ | ⟨h3, h⟩
 ·replace h := sI h
  subst h
  exact wr Lj 24 [true] [] [] 0 [] hC [pq h3]
 ·refine ws Lj 27 [false] [pc A8z (A7i y1.1.Ac) []] [] 0 [0, 1, 2, 3, 4, 5, 7] [(4, dO 0 0), (5, dO 1 0), (6, dO 2 0), (7, dO 3 0), (8, dO 4 0), (9, dO 5 0), (33, .d (.fn (.func 236) [] [.o 6 0]))] [.box 29 (d29 x0), .box 31 (d31 x1), .box 36 (d36 x2), .box 3 [I x3], .box 3 [I 0], .box 4 [Bo false], .box 22 [DS pI y1.1.Ac]] hC [pq h3] ?_
  obtain ⟨w0, hm0, hret0, hnext0⟩ := Au h
  clear h
  refine Ax7 (by kernel_rfl) (t := 33) (d := 13) (p := 35) (gf := 236) (j := 6) (ty := 22) Wn (bw y1.1.Ac) (W6 x0 x1 x2 x3) (Ajl x0 x1 x2 x3) (Anv x0 x1 x2 x3) w0 () (λ a0 => dI a0.2) hm0 (A0r y1.1.Ac) (by kernel_rfl) (by kernel_rfl) (by kernel_rfl) (by kernel_rfl) (by kernel_rfl) [(4, dO 0 0), (5, dO 1 0), (6, dO 2 0), (7, dO 3 0), (8, dO 4 0), (9, dO 5 0)] (by kernel_rfl) (by kernel_rfl) (A6t (a := 34) (b := 35) (by kernel_rfl)) (A42 34 35 (by kernel_rfl) (by decide) (by decide)) (by decide) rfl (Up.of_nil rfl) 7 (by kernel_rfl) (Nat.le_trans hC (Nat.le_of_ble_eq_true rfl)) (λ C2 z0 hh hup2 hs0 => ?_) (λ C2 v175_0 hh hup2 hr0 a w hsR => ?_) (λ l C' a0 z0 w0b hlen hdf h hkr => ?_)
  ·have hC : C2.h.length <= 0 := by rw [hh]; exact hC
   have h := hnext0 _ hs0
   replace h := sI h
   subst h
   exact Anu (bs := []) Ib Lj 24 [] [] [] [.cell 8 3, .cell 9 4] 0 [] rfl hC trivial trivial (by kernel_rfl) hup2
  ·have hC : C2.h.length <= 0 := by rw [hh]; exact hC
   have h := hret0 _ hr0
   replace h := sI h
   subst h
   exact hsR.retM [] [.cell 8 3, .cell 9 4] 0 [] rfl hC (by kernel_rfl) hup2
  ·have hC : C'.h.length <= 7 := hlen
   unfold W6 at h
   obtain ⟨y4, h5, h⟩ := Ad h
   obtain ⟨y6, h7, h⟩ := Ad h
   refine ws Lj 25 [] [pc Ap6 (Apt x0 a0.2 _ h5) [], pc J0 (Jw x2 2 y4 _ h7) []] [] 7 n7_ [(4, dO 0 0), (5, dO 1 0), (6, dO 2 0), (7, dO 3 0), (8, dO 4 0), (9, dO 5 0), (13, dI a0.2), (40, dB y6)] [.box 29 (d29 x0), .box 31 (d31 x1), .box 36 (d36 x2), .box 3 [I x3], .box 3 [I 0], .box 4 [Bo false], .non] hC [] ?_
   rcases cB h with ⟨h8, h⟩ | ⟨h8, h⟩
   ·exact wx w0b (λ _ => []) (Ajl x0 x1 x2 x3) Lj 23 [true] [] [] 7 n7_ () hC [pq h8] (sI h).symm
   ·obtain ⟨y9, h10, h⟩ := Ad h
    obtain ⟨y11, h12, h⟩ := Ad h
    obtain ⟨y13, h14, h⟩ := Ad h
    refine ws Lj 27 [false] [pc Axn (Aw5 x0 x2 x3 _ h10) [], pr Bt h12, pc Axm (Aw4 x0 x2 x3 _ h14) []] [] 7 n7_ [(8, dO 4 0), (9, dO 5 0), (13, dI a0.2), (61, dB (Aii x1 y9 y11 y13))] [.box 29 (d29 x0), .box 31 (d31 x1), .box 36 (d36 x2), .box 3 [I x3], .box 3 [I 0], .box 4 [Bo false], .non] hC [pq h8] ?_
    rcases cB h with ⟨h15, h⟩ | ⟨h15, h⟩
    ·exact A0y (bs := [((Aii x1 y9 y11 y13), true)]) (Rr := (Anv x0 x1 x2 x3)) Ib Lj 24 [true] [] [] 7 n7_ (a0.2, true) hC trivial ⟨h15, trivial⟩ (by kernel_rfl) (sI h).symm
    ·exact wx w0b (λ _ => []) (Ajl x0 x1 x2 x3) Lj 24 [false] [] [] 7 n7_ () hC [pq h15] (sI h).symm
theorem A9b : EN 175 := en Tryz.func175
theorem A7t (x0 : Aa) (x1 : Bh) (x2 : Ab) (x3 : Int) (r : Bool) (h : Ako x0 x1 x2 x3 = some r) : CO 177 [.agg (d29 x0), .agg (d31 x1), .agg (d36 x2), .d (I x3)] [] (.d (Bo r)) [] := by
 unfold Ako at h
 refine co 32 Tryz.func177 λ C hC => ?_
 obtain ⟨y1, h2, h⟩ := Ad h
 obtain ⟨y3, h4, h⟩ := Ad h
 obtain ⟨y5, h6, h⟩ := Ad h
 replace h := sI h
 subst h
 exact wr [0, 1, 2, 3, 4, 5, 6, 8] 25 [] [pc e59 (k59 x1 _ rfl) [], pw Ap7 (λ hg => Apu x0 x2 x3 _ (Ba h2 hg)) [], pw Axm (λ hg => Aw4 x0 x2 x3 _ (Ba h4 hg)) [], pw Axn (λ hg => Aw5 x0 x2 x3 _ (Ba h6 hg)) []] [] 0 [] hC []
theorem A9a : EN 177 := en Tryz.func177
def Aad : List Nat := [0, 1, 2, 3, 4, 5, 8, 9, 10, 12, 19, 20, 25]
theorem A17 (x0 : Aa) (x1 : Ab) (x2 : Int) (x3 : Int) (r : (List Ao) × Bool) (h : Vf x0 x1 x2 x3 = some r) : CO 179 [.agg (d29 x0), .agg [.os 0, .os 1, .os 2, .os 3], .d (I x2), .d (I x3)] (zp x1 []) (.tup [.d (DS q49 r.1), .d (Bo r.2)]) (zp x1 []) := by
 unfold Vf at h
 refine co 49 Tryz.func179 λ C hC => ?_
 obtain ⟨y1, h2, h⟩ := Ad h
 rcases cB h with ⟨h3, h⟩ | ⟨h3, h⟩
 ·replace h := sI h
  subst h
  exact wr Aad 32 [true] [pr A_ h2, pn A_ h2] [] 4 n4_ hC [pq h3]
 ·rcases cB h with ⟨h4, h⟩ | ⟨h4, h⟩
  ·obtain ⟨y5, h6, h⟩ := Ad h
   obtain ⟨y7, h8, h⟩ := Ad h
   obtain ⟨y9, h10, h⟩ := Ad h
   replace h := sI h
   subst h
   exact wr Aad 39 [false, true] [pr A_ h2, pn A_ h2, pb Ap5 (Aps x0 x1 x2 _ h6), pb A3i (A1n x0 x1 y5.1 _ h8), pc Ap6 (Apt x0 x3 _ h10) []] [] 4 n4_ hC [pq h3, pq h4]
  ·replace h := sI h
   subst h
   exact wr Aad 37 [false, false] [pr A_ h2, pn A_ h2] [] 4 n4_ hC [pq h3, pq h4]
theorem A32 : EN 179 := en Tryz.func179
theorem A5p (x0 : List Bz) (r : Bool) (h : Arh x0 = some r) : CO 92 [.d (DS q63 x0), .d (.fn (.func 93) [] [])] [] (.d (Bo r)) [] := by
 unfold Arh at h
 refine co 9 Tryz.func92 λ C hC => ?_
 obtain ⟨y1, h2, h⟩ := Ad h
 replace h := sI h
 subst h
 exact wr [0, 1, 4] 25 [] [pc A4e (A2j x0 _ h2) []] [] 0 [] hC []
theorem A6a : EN 92 := en Tryz.func92
theorem A69 (rec46 : Aa -> Ab -> Int -> Option Bool) (ih46 : ∀ (x0 : Aa) (x1 : Ab) (x2 : Int) (r : Bool), rec46 x0 x1 x2 = some r -> CO 46 [.agg (d29 x0), .agg (d36 x1), .d (I x2)] [] (.d (Bo r)) []) (x0 : Aa) (x1 : Ab) (x2 : Int) (r : Bool) (h : Aye rec46 x0 x1 x2 = some r) : CO 46 [.agg (d29 x0), .agg (d36 x1), .d (I x2)] [] (.d (Bo r)) [] := by
 unfold Aye at h
 refine co 53 Tryz.func46 λ C hC => ?_
 obtain ⟨y1, h2, h⟩ := Ad h
 obtain ⟨y3, h4, h⟩ := Ad h
 obtain ⟨y5, h6, h⟩ := Ad h
 obtain ⟨y7, h8, h⟩ := Ad h
 obtain ⟨y9, h10, h⟩ := Ad h
 refine ws [0, 1, 2, 3, 4, 6, 7, 8, 43] 28 [] [pc A4r (A2w x0 x1 x2 _ h2) [], pw Ap7 (λ hg => Apu x0 x1 y1.1 _ (Ba h4 hg)) [], pw J0 (λ hg => Jw x1 4 x2 _ (Ba h6 hg)) [], pR pI h8, pR q65 h10] [] 0 [0, 1] [(2, dI x2), (3, dO 0 0), (4, dO 1 0), (6, dB false), (43, dB (Azb y1 y3 y5 y7 y9))] [.box 29 (d29 x0), .box 36 (d36 x1)] hC [] ?_
 rcases cB h with ⟨h11, h⟩ | ⟨h11, h⟩
 ·cases h
 ·obtain ⟨y12, h13, h⟩ := Ad h
  obtain ⟨y14, h15, h⟩ := Ad h
  replace h := sI h
  subst h
  exact wr [0, 1, 2, 3, 4, 6, 7, 8, 43] 25 [false] [pr q65 h13, pc A4q (A2v rec46 ih46 y12.Needs x0 x1 _ h15) [0, 1]] [] 0 [] hC [pq h11]
theorem A68 (n : Nat) : ∀ (x0 : Aa) (x1 : Ab) (x2 : Int) (r : Bool), Ayd n x0 x1 x2 = some r -> CO 46 [.agg (d29 x0), .agg (d36 x1), .d (I x2)] [] (.d (Bo r)) [] := by
 induction n with
 | zero => intro x0 x1 x2 r h; cases h
 | succ n ih => intro x0 x1 x2 r h; exact A69 _ ih x0 x1 x2 r h
theorem k46 (x0 : Aa) (x1 : Ab) (x2 : Int) (r : Bool) (h : F46 x0 x1 x2 = some r) : CO 46 [.agg (d29 x0), .agg (d36 x1), .d (I x2)] [] (.d (Bo r)) [] := A68 1000 x0 x1 x2 r h
def jV : List Nat := [0, 1, 3, 4, 5, 6, 16]
def X5  (z0 : Sg4) : St := [(0, dO 0 0), (3, dO 4 0), (4, dO 5 0), (5, dO 6 0), (6, dI z0.1)]
def Aa3 (x1 : Aa) (y1 : Int × Ai) (y3 : Ab × Ai) (z0 : Sg4) : List Res := (.box 90 [DS pI z0.2.1, I z0.2.2.1] :: zs x1 (.box 29 [I x1.Am, .os 1, .os 2, .os 3, I x1.Phase, I x1.Ap] :: .box 40 [I 0, .os 11, .os 12, .os 13, .os 14, .os 15, .os 16] :: .box 40 [I y1.1, .os 7, .os 8, .os 9, .os 10, .os 17, .os 18] :: zp y3.1 (ze [v5_ ([] : List Az), v1_ ([] : List A9), v5_ (C1 z0), v1_ ([] : List A9)])))
def Agb  (z0 : Sg4) : St := [(4, dO 4 0), (5, dO 5 0)]
def Ai9 (x1 : Aa) (y1 : Int × Ai) (y3 : Ab × Ai) (z0 : Sg4) : List Res := (.box 90 [DS pI z0.2.1, I z0.2.2.1] :: zs x1 (.box 40 [I 0, .os 10, .os 11, .os 12, .os 13, .os 14, .os 15] :: .box 40 [I y1.1, .os 6, .os 7, .os 8, .os 9, .os 16, .os 17] :: zp y3.1 (ze [v5_ ([] : List Az), v1_ ([] : List A9), v5_ (C1 z0), v1_ ([] : List A9)])))
theorem A50 (x0 : Ai) (x1 : Aa) (r : A0 × Ai) (h : vU x0 x1 = some r) : CO 31 [.d (.o 0 0), .agg [I x1.Am, .os 1, .os 2, .os 3, I x1.Phase, I x1.Ap]] (.box 90 (d90 x0) :: zs x1 []) (.agg [I r.1.Time, .os 4, .os 5, .os 6, .os 7, .os 8, .os 9]) (.box 90 (d90 r.2) :: zs x1 (zp r.1.Power [v5_ r.1.A5, v1_ r.1.A4])) := by
 unfold vU at h
 refine co 30 Tryz.func31 λ C hC => ?_
 obtain ⟨y1, h2, h⟩ := Ad h
 obtain ⟨y3, h4, h⟩ := Ad h
 refine ws jV 28 [] [⟨.flts [.box 40 [I 0, .p (.v (.slice none 0 0)), .p (.v (.slice none 0 0)), .p (.v (.slice none 0 0)), .p (.v (.slice none 0 0)), .p (.v (.slice none 0 0)), .p (.v (.slice none 0 0))]], trivial⟩, pc e78 (k78 x0 5 20 _ h2) [0], pc A6f (A5u y1.2 x1 _ h4) n4_, ⟨.flt 6 (.box 40 [I 0, .p (.v (.slice none 0 0)), .p (.v (.slice none 0 0)), .p (.v (.slice none 0 0)), .p (.v (.slice none 0 0)), .p (.v (.slice none 0 0)), .p (.v (.slice none 0 0))]) (.box 40 [I 0, .p (.v (.slice none 0 0)), .p (.v (.slice none 0 0)), .p (.v (.slice none 0 0)), .p (.v (.slice none 0 0)), .p (.v (.slice none 0 0)), .p (.v (.slice none 0 0))]), rfl⟩] [.ownb 5 1 4 1, .ownb 5 2 120 4, .ownb 5 3 3 1, .ownb 5 4 86 2, .ownb 5 5 130 2, .ownb 5 6 51 5, .ownb 6 5 130 2, .ownb 6 6 51 5] 4 A65 (X5 (0, y3.2.L, y3.2.At, ([] : List Az))) (Aa3 x1 y1 y3 (0, y3.2.L, y3.2.At, ([] : List Az))) hC [] ?_
 obtain ⟨w0, hm0, hret0, hnext0⟩ := Au h
 clear h
 refine wc w0 (Agb) (Ai9 x1 y1 y3) ?_ λ z0 hs0 => ?_
 ·refine wb ?_
  refine B2 (by kernel_rfl) (Rz x1) (X5) (Aa3 x1 y1 y3) w0 1152921504606846976 (0, y3.2.L, y3.2.At, ([] : List Az)) hm0 rfl rfl λ z0 w0b h hb0 hr0 => ?_
  unfold Rz at h
  rcases cB h with ⟨h5, h⟩ | ⟨h5, h⟩
  ·obtain ⟨y6, h7, h⟩ := Ad h
   obtain ⟨y8, h9, h⟩ := Ad h
   obtain ⟨y10, h11, h⟩ := Ad h
   exact wx w0b (X5) (Aa3 x1 y1 y3) jV 31 [true] [pc e78 (k78 (⟨z0.2.1, z0.2.2.1⟩ : Ai) (-1) 4 _ h7) [0], pc e78 (k78 y6.2 (-1) 4 _ h9) [0], pa B1 2 h11] [] 4 [0, 1, 2, 3, 4, 5, 6, 7, 8, 9, 10, 11, 12, 13, 14, 15, 16, 19, 18] (w64 (z0.1 + 1), y8.2.L, y8.2.At, y10) hC [pq h5] (sI h).symm
  ·exact wx w0 (Agb) (Ai9 x1 y1 y3) jV 26 [false] [] [] 4 [0, 1, 2, 3, 5, 6, 7, 8, 9, 10, 11, 12, 13, 14, 15, 16, 17, 18] (z0.1, z0.2.1, z0.2.2.1, (C1 z0)) hC [pq h5] (hb0 _ (sI h).symm)
 ·have h := hnext0 _ hs0
  replace h := sI h
  subst h
  exact wr jV 23 [] [] [] 4 [0, 1, 2, 3, 6, 7, 8, 9, 16, 17] hC []
theorem A6l : EN 31 := en Tryz.func31
def Nq : List Nat := [0, 1, 2, 3, 4, 6, 7, 8, 9, 11, 15, 19, 29, 66]
theorem A7g (x0 : Aa) (x1 : Ab) (x2 : Int) (r : Int) (h : Akj x0 x1 x2 = some r) : CO 220 [.agg (d29 x0), .agg (d36 x1), .d (I x2)] [] (.d (I r)) [] := by
 unfold Akj at h
 refine co 67 Tryz.func220 λ C hC => ?_
 obtain ⟨y1, h2, h⟩ := Ad h
 refine ws Nq 29 [] [pc e43 (k43 x0 x1 _ h2) []] [] 0 [0, 1] [(2, dI x2), (3, dO 0 0), (4, dO 1 0), (6, dI 0), (7, dI y1), (15, dB (y1 != 0))] [.box 29 (d29 x0), .box 36 (d36 x1)] hC [] ?_
 rcases cB h with ⟨h3, h⟩ | ⟨h3, h⟩
 ·replace h := sI h
  subst h
  exact wr Nq 24 [true] [] [] 0 [] hC [pq h3]
 ·rcases cB h with ⟨h4, h⟩ | ⟨h4, h⟩
  ·replace h := sI h
   subst h
   exact wr Nq 27 [false, true] [pL_ [(decide (x2 < 0), false)] Bi x0.Af] [] 0 [] hC [pq h3, pq h4]
  ·obtain ⟨y5, h6, h⟩ := Ad h
   refine ws Nq 27 [false, false] [pL_ [(decide (x2 < 0), false)] Bi x0.Af, pc A8u (A7d x0 x1 x2 _ h6) []] [] 0 [0, 1] [(2, dI x2), (3, dO 0 0), (4, dO 1 0), (6, dI 0), (29, dB (!y5))] [.box 29 (d29 x0), .box 36 (d36 x1)] hC [pq h3, pq h4] ?_
   rcases cB h with ⟨h7, h⟩ | ⟨h7, h⟩
   ·replace h := sI h
    subst h
    exact wr Nq 24 [true] [] [] 0 [] hC [pq h7]
   ·obtain ⟨y8, h9, h⟩ := Ad h
    obtain ⟨y10, h11, h⟩ := Ad h
    obtain ⟨y12, h13, h⟩ := Ad h
    obtain ⟨y14, h15, h⟩ := Ad h
    refine ws Nq 33 [false] [pr Bi h9, pc T7 (Tr x0 x1 y8.A _ h11) [], pw Yr (λ hg => Yl y10.1.Am y8.B _ (Ba h13 hg)) [], pw A8t (λ hg => A7c x0 x1 y8 _ (Ba h15 hg)) []] [] 0 [] [(6, dI 0), (66, .d (Bo ((!((y8.Kind == 1) && y12)) && (!y14))))] [] hC [pq h7] ?_
    rcases cB h with ⟨h16, h⟩ | ⟨h16, h⟩
    ·replace h := sI h
     subst h
     exact wr Nq 24 [true] [] [] 0 [] hC [pq h16]
    ·replace h := sI h
     subst h
     exact wr Nq 25 [false] [] [] 0 [] hC [pq h16]
theorem A8x : EN 220 := en Tryz.func220
def Hu : List Nat := [0, 1, 4, 5, 6, 8, 13, 14, 15, 16, 32, 38, 39, 40, 41]
def Nc (x0 : Ay) (n0 : Nat) (z0 : Sg7) : St := [(0, dO 0 0), (1, .d (.fn (.func 206) [] [.o 6 0])), (4, dS 7), (13, .d (DS Bi x0.Al.Af)), (14, dI (ln x0.Al.Af)), (15, dI (cnt 0 n0))]
def Rm  (n0 : Nat) (z0 : Sg7) : List Res := [.box 235 [I z0.1, DS Bi z0.2.1, DS Bt z0.2.2.1, DS q65 (g3_ z0), I (g4_ z0), I (g5_ z0), .os 8, .os 9, .os 10, .os 11, .os 12], .non, .non, .non, .non, .non, .box 211 [.o 0 0], v0_ (g6_ z0), v2_ (g7_ z0), v4_ (g8_ z0), v0_ (g9_ z0), v3_ (Ch z0), v6_ (Ft z0)]
def Aca  (z0 : Sg7) : St := [(0, dO 0 0), (4, dS 7)]
def Adt  (z0 : Sg7) : List Res := [.box 235 [I z0.1, DS Bi z0.2.1, DS Bt z0.2.2.1, DS q65 (g3_ z0), I (g4_ z0), I (g5_ z0), .os 8, .os 9, .os 10, .os 11, .os 12], .non, .non, .non, .non, .non, .box 211 [.o 0 0], v0_ (g6_ z0), v2_ (g7_ z0), v4_ (g8_ z0), v0_ (g9_ z0), v3_ (Ch z0), v6_ (Ft z0)]
def Sp (z0 : Sg7) (n1 : Nat) (z1 : Sg6) : St := [(0, dO 0 0), (38, dS 7), (39, dI (ln (g6_ z0))), (40, dI (cnt 0 n1))]
def Zb (z0 : Sg7) (n1 : Nat) (z1 : Sg6) : List Res := [.box 235 [I z1.1, DS Bi z1.2.1, DS Bt z1.2.2.1, DS q65 (g3_ z1), I (g4_ z1), I (g5_ z1), .os 8, .os 9, .os 10, .os 11, .os 12], .non, .non, .non, .non, .non, .box 211 [.o 0 0], v0_ (g6_ z0), v2_ (g6_ z1), v4_ (g7_ z1), v0_ (g8_ z1), v3_ (g9_ z1), v6_ (Df z1)]
def Ab9  (z1 : Sg6) : St := []
def Ads  (z1 : Sg6) : List Res := [.box 235 [I z1.1, DS Bi z1.2.1, DS Bt z1.2.2.1, DS q65 (g3_ z1), I (g4_ z1), I (g5_ z1), .os 7, .os 8, .os 9, .os 10, .os 11], .non, .non, .non, .non, .non, .box 211 [.o 0 0], v2_ (g6_ z1), v4_ (g7_ z1), v0_ (g8_ z1), v3_ (g9_ z1), v6_ (Df z1)]
theorem A1u (x0 : Ay) (r : Ay) (h : U_ x0 = some r) : CO 204 [.d (.o 0 0), .d (.fn (.func 206) [] [.o 6 0])] (.box 235 (zb x0.Al [.os 1, .os 2, .os 3, .os 4, .os 5]) :: zp x0.Ar [v6_ x0.acts, .box 211 [.o 0 0]]) (.tup []) (.box 235 (zb r.Al [.os 7, .os 8, .os 9, .os 10, .os 11]) :: .non :: .non :: .non :: .non :: .non :: .box 211 [.o 0 0] :: zp r.Ar [v6_ r.acts]) := by
 unfold U_ at h
 refine co 48 Tryz.func204 λ C hC => ?_
 refine ws Hu 26 [] [pl Bi x0.Al.Af] [.own 4 3 1, .mv 1, .mv 2, .mv 3, .mv 4, .mv 5] 7 H9 (Nc x0 0 (zt x0.Al (([] : List Int), zu x0.Ar x0.acts))) (Rm 0 (zt x0.Al (([] : List Int), zu x0.Ar x0.acts))) hC [] ?_
 obtain ⟨w0, hm0, hret0, hnext0⟩ := Au h
 clear h
 refine wc w0 (Aca) (Adt) ?_ λ z0 hs0 => ?_
 ·refine wb ?_
  refine Bn 13 rfl λ hl0 => ?_
  refine A7 (by kernel_rfl) Oa (Nc x0) (Rm) w0 x0.Al.Af (zt x0.Al (([] : List Int), zu x0.Ar x0.acts)) hm0 rfl rfl (λ z0 hn0 => ?_) λ n0 a0 z0 w0b hi0 hx0 h hb0 hr0 => ?_
  ·clear hm0
   exact wx w0 (Aca) (Adt) Hu 26 [false] [] [] 7 H9 (z0.1, z0.2.1, z0.2.2.1, (g3_ z0), (g4_ z0), (g5_ z0), (g6_ z0), (g7_ z0), (g8_ z0), (g9_ z0), (Ch z0), (Ft z0)) hC [pq (Bb hl0)] hn0
  ·unfold Oa at h
   obtain ⟨y1, h2, h⟩ := Ad h
   obtain ⟨y3, h4, h⟩ := Ad h
   refine ws Hu 32 [true] [pt hx0 hl0, pr pB h2, pn pB h2, ⟨.whenR [(y1, true)] (.call 206 [.agg (F7 a0), dO 0 0] [.box 211 [.o 1 0], .box 235 [I z0.1, DS Bi z0.2.1, DS Bt z0.2.2.1, DS q65 (g3_ z0), I (g4_ z0), I (g5_ z0), .os 2, .os 3, .os 4, .os 5, .os 6], v2_ (g7_ z0), v4_ (g8_ z0), v0_ (g9_ z0), v3_ (Ch z0), v6_ (Ft z0)] (dB y3.1) (.box 211 [.o 1 0] :: .box 235 (zb y3.2.Al [.os 2, .os 3, .os 4, .os 5, .os 6]) :: zp y3.2.Ar [v6_ y3.2.acts]) [6, 0, 8, 9, 10, 11, 12]), ⟨λ hg => ⟨A3m, (A1r a0 (⟨(⟨z0.1, z0.2.1, z0.2.2.1, (g3_ z0), (g4_ z0), (g5_ z0)⟩ : Aa), (⟨(g7_ z0), (g8_ z0), (g9_ z0), (Ch z0)⟩ : Ab), (Ft z0)⟩ : Ay) _ (Ba h4 hg))⟩, λ hg => by have e := H1 h4 hg; subst e; rfl⟩⟩] [] 7 H9 [(0, dO 0 0), (1, .d (.fn (.func 206) [] [.o 6 0])), (4, dS 7), (5, dI (cnt 0 n0)), (13, .d (DS Bi x0.Al.Af)), (14, dI (ln x0.Al.Af)), (15, dI (cnt 0 n0)), (32, dB (y1 && y3.1))] (.box 235 (zb y3.2.Al [.os 8, .os 9, .os 10, .os 11, .os 12]) :: .non :: .non :: .non :: .non :: .non :: .box 211 [.o 0 0] :: v0_ (g6_ z0) :: zp y3.2.Ar [v6_ y3.2.acts]) hC [pq (A8 hi0 hl0)] ?_
   rcases cB h with ⟨h5, h⟩ | ⟨h5, h⟩
   ·obtain ⟨y6, h7, h⟩ := Ad h
    exact wx w0b (Nc x0 (n0 + 1)) (Rm (n0 + 1)) Hu 25 [true] [pa pI 1 h7] [] 7 [0, 1, 2, 3, 4, 5, 6, 13, 8, 9, 10, 11, 12] (zt y3.2.Al (y6, zu y3.2.Ar y3.2.acts)) hC [pq h5] (sI h).symm
   ·exact wx w0b (Nc x0 (n0 + 1)) (Rm (n0 + 1)) Hu 25 [false] [] [] 7 H9 (zt y3.2.Al ((g6_ z0), zu y3.2.Ar y3.2.acts)) hC [pq h5] (sI h).symm
 ·have h := hnext0 _ hs0
  refine ws Hu 23 [] [pl pI (g6_ z0)] [] 7 H9 (Sp z0 0 (z0.1, z0.2.1, z0.2.2.1, (g3_ z0), (g4_ z0), (g5_ z0), (g7_ z0), (g8_ z0), (g9_ z0), (Ch z0), (Ft z0))) (Zb z0 0 (z0.1, z0.2.1, z0.2.2.1, (g3_ z0), (g4_ z0), (g5_ z0), (g7_ z0), (g8_ z0), (g9_ z0), (Ch z0), (Ft z0))) hC [] ?_
  obtain ⟨w1, hm1, hret1, hnext1⟩ := Au h
  clear h
  refine wc w1 (Ab9) (Ads) ?_ λ z1 hs1 => ?_
  ·refine wb ?_
   refine Cj 38 7 rfl rfl λ hl1 => ?_
   refine A7 (by kernel_rfl) U9 (Sp z0) (Zb z0) w1 (g6_ z0) (z0.1, z0.2.1, z0.2.2.1, (g3_ z0), (g4_ z0), (g5_ z0), (g7_ z0), (g8_ z0), (g9_ z0), (Ch z0), (Ft z0)) hm1 rfl rfl (λ z1 hn1 => ?_) λ n1 a1 z1 w1b hi1 hx1 h hb1 hr1 => ?_
   ·clear hm1
    exact wx w1 (Ab9) (Ads) Hu 26 [false] [] [] 7 [0, 1, 2, 3, 4, 5, 6, 8, 9, 10, 11, 12] (z1.1, z1.2.1, z1.2.2.1, (g3_ z1), (g4_ z1), (g5_ z1), (g6_ z1), (g7_ z1), (g8_ z1), (g9_ z1), (Df z1)) hC [pq (Bb hl1)] hn1
   ·unfold U9 at h
    obtain ⟨y8, h9, h⟩ := Ad h
    exact wx w1b (Sp z0 (n1 + 1)) (Zb z0 (n1 + 1)) Hu 33 [true] [pr pI (Bl hx1 hl1), pn pI (Bl hx1 hl1), pc Ahz (Ag5 (⟨(⟨z1.1, z1.2.1, z1.2.2.1, (g3_ z1), (g4_ z1), (g5_ z1)⟩ : Aa), (⟨(g6_ z1), (g7_ z1), (g8_ z1), (g9_ z1)⟩ : Ab), (Df z1)⟩ : Ay) a1 _ h9) [0, 8, 9, 10, 11, 12]] [] 7 [0, 1, 2, 3, 4, 5, 6, 7, 8, 9, 10, 11, 13] (zt y8.Al (zu y8.Ar y8.acts)) hC [pq (A8 hi1 hl1)] (sI h).symm
  ·have h := hnext1 _ hs1
   replace h := sI h
   subst h
   exact wf Hu 20 [] [] [] 7 Fo hC []
theorem A3p : EN 204 := en Tryz.func204
def Lx : List Nat := [0, 1, 2, 7, 8, 9, 10, 11, 12, 38]
def M_ (x1 : List Int) (x2 : Int) (n0 : Nat) (z0 : (List Int) × (List Ao)) : St := [(0, dO 0 0), (2, dI x2), (9, dS 6), (10, dI (ln x1)), (11, dI (cnt 0 n0))]
def Rj (x0 : Ay) (x1 : List Int) (n0 : Nat) (z0 : (List Int) × (List Ao)) : List Res := [.box 235 (zb x0.Al [.os 7, .os 8, .os 9, .os 10, .os 11]), .non, .non, .non, .non, .non, v0_ x1, v2_ x0.Ar.Ah, v4_ x0.Ar.Ac, v0_ z0.1, v3_ x0.Ar.Aq, v6_ z0.2]
def Ab5  (z0 : (List Int) × (List Ao)) : St := []
def Ado (x0 : Ay) (x1 : List Int) (z0 : (List Int) × (List Ao)) : List Res := [.box 235 (zb x0.Al [.os 7, .os 8, .os 9, .os 10, .os 11]), .non, .non, .non, .non, .non, v0_ x1, v2_ x0.Ar.Ah, v4_ x0.Ar.Ac, v0_ z0.1, v3_ x0.Ar.Aq, v6_ z0.2]
theorem A1p (x0 : Ay) (x1 : List Int) (x2 : Int) (r : Ay) (h : Py x0 x1 x2 = some r) : CO 210 [.d (.o 0 0), .d (.os 6), .d (I x2)] (.box 235 (zb x0.Al [.os 1, .os 2, .os 3, .os 4, .os 5]) :: zp x0.Ar [v6_ x0.acts, v0_ x1]) (.tup []) (.box 235 (zb r.Al [.os 7, .os 8, .os 9, .os 10, .os 11]) :: .non :: .non :: .non :: .non :: .non :: v0_ x1 :: zp r.Ar [v6_ r.acts]) := by
 unfold Py at h
 refine co 70 Tryz.func210 λ C hC => ?_
 refine ws Lx 23 [] [pl pI x1] [.mv 1, .mv 2, .mv 3, .mv 4, .mv 5] 7 Fo (M_ x1 x2 0 (x0.Ar.As, x0.acts)) (Rj x0 x1 0 (x0.Ar.As, x0.acts)) hC [] ?_
 obtain ⟨w0, hm0, hret0, hnext0⟩ := Au h
 clear h
 refine wc w0 (Ab5) (Ado x0 x1) ?_ λ z0 hs0 => ?_
 ·refine wb ?_
  refine Cj 9 6 rfl rfl λ hl0 => ?_
  refine A7 (by kernel_rfl) (N8 x0 x2) (M_ x1 x2) (Rj x0 x1) w0 x1 (x0.Ar.As, x0.acts) hm0 rfl rfl (λ z0 hn0 => ?_) λ n0 a0 z0 w0b hi0 hx0 h hb0 hr0 => ?_
  ·clear hm0
   exact wx w0 (Ab5) (Ado x0 x1) Lx 26 [false] [] [] 7 Fo (z0.1, z0.2) hC [pq (Bb hl0)] hn0
  ·unfold N8 at h
   obtain ⟨y1, h2, h⟩ := Ad h
   obtain ⟨y3, h4, h⟩ := Ad h
   obtain ⟨y5, h6, h⟩ := Ad h
   refine ws Lx 34 [true] [pr pI (Bl hx0 hl0), pn pI (Bl hx0 hl0), pb Auc (Atj (⟨x0.Al, (⟨x0.Ar.Ah, x0.Ar.Ac, z0.1, x0.Ar.Aq⟩ : Ab), z0.2⟩ : Ay) x2 _ h2), pr pI h4, pn pI h4, pr q65 h6] [] 7 Fo [(0, dO 0 0), (2, dI x2), (7, dI a0), (8, dI (min y1 (w64 (y3 - y5.Least)))), (9, dS 6), (10, dI (ln x1)), (11, dI (cnt 0 n0)), (38, dB (Re y1 y3 y5))] [.box 235 (zb x0.Al [.os 7, .os 8, .os 9, .os 10, .os 11]), .non, .non, .non, .non, .non, v0_ x1, v2_ x0.Ar.Ah, v4_ x0.Ar.Ac, v0_ z0.1, v3_ x0.Ar.Aq, v6_ z0.2] hC [pq (A8 hi0 hl0)] ?_
   rcases cB h with ⟨h7, h⟩ | ⟨h7, h⟩
   ·obtain ⟨y8, h9, h⟩ := Ad h
    obtain ⟨y10, h11, h⟩ := Ad h
    obtain ⟨y12, h13, h⟩ := Ad h
    exact wx w0b (M_ x1 x2 (n0 + 1)) (Rj x0 x1 (n0 + 1)) Lx 27 [true] [pr pI h4, pn pI h4, pr pI h4, pu pI h4 h9, pr pI h11, pn pI h11, pa q49 3 h13] [] 7 [0, 1, 2, 3, 4, 5, 6, 7, 8, 9, 10, 12] (y8, y12) hC [pq h7] (sI h).symm
   ·exact wx w0b (M_ x1 x2 (n0 + 1)) (Rj x0 x1 (n0 + 1)) Lx 25 [false] [] [] 7 Fo (z0.1, z0.2) hC [pq h7] (sI h).symm
 ·have h := hnext0 _ hs0
  replace h := sI h
  subst h
  exact wf Lx 20 [] [] [] 7 Fo hC []
theorem A3k : EN 210 := en Tryz.func210
def Lw : List Nat := [0, 1, 2, 7, 8, 9, 10, 11, 28]
def M9 (x1 : List Int) (x2 : Int) (n0 : Nat) (z0 : Sg6) : St := [(0, dO 0 0), (2, dI x2), (8, dS 6), (9, dI (ln x1)), (10, dI (cnt 0 n0))]
def Ri (x1 : List Int) (n0 : Nat) (z0 : Sg6) : List Res := [.box 235 [I z0.1, DS Bi z0.2.1, DS Bt z0.2.2.1, DS q65 (g3_ z0), I (g4_ z0), I (g5_ z0), .os 7, .os 8, .os 9, .os 10, .os 11], .non, .non, .non, .non, .non, v0_ x1, v2_ (g6_ z0), v4_ (g7_ z0), v0_ (g8_ z0), v3_ (g9_ z0), v6_ (Df z0)]
def Ab4  (z0 : Sg6) : St := []
def Adn (x1 : List Int) (z0 : Sg6) : List Res := [.box 235 [I z0.1, DS Bi z0.2.1, DS Bt z0.2.2.1, DS q65 (g3_ z0), I (g4_ z0), I (g5_ z0), .os 7, .os 8, .os 9, .os 10, .os 11], .non, .non, .non, .non, .non, v0_ x1, v2_ (g6_ z0), v4_ (g7_ z0), v0_ (g8_ z0), v3_ (g9_ z0), v6_ (Df z0)]
theorem A1o (x0 : Ay) (x1 : List Int) (x2 : Int) (r : Ay) (h : Px x0 x1 x2 = some r) : CO 211 [.d (.o 0 0), .d (.os 6), .d (I x2)] (.box 235 (zb x0.Al [.os 1, .os 2, .os 3, .os 4, .os 5]) :: zp x0.Ar [v6_ x0.acts, v0_ x1]) (.tup []) (.box 235 (zb r.Al [.os 7, .os 8, .os 9, .os 10, .os 11]) :: .non :: .non :: .non :: .non :: .non :: v0_ x1 :: zp r.Ar [v6_ r.acts]) := by
 unfold Px at h
 refine co 33 Tryz.func211 λ C hC => ?_
 refine ws Lw 23 [] [pl pI x1] [.mv 1, .mv 2, .mv 3, .mv 4, .mv 5] 7 Fo (M9 x1 x2 0 (zt x0.Al (zu x0.Ar x0.acts))) (Ri x1 0 (zt x0.Al (zu x0.Ar x0.acts))) hC [] ?_
 obtain ⟨w0, hm0, hret0, hnext0⟩ := Au h
 clear h
 refine wc w0 (Ab4) (Adn x1) ?_ λ z0 hs0 => ?_
 ·refine wb ?_
  refine Cj 8 6 rfl rfl λ hl0 => ?_
  refine A7 (by kernel_rfl) (N7 x2) (M9 x1 x2) (Ri x1) w0 x1 (zt x0.Al (zu x0.Ar x0.acts)) hm0 rfl rfl (λ z0 hn0 => ?_) λ n0 a0 z0 w0b hi0 hx0 h hb0 hr0 => ?_
  ·clear hm0
   exact wx w0 (Ab4) (Adn x1) Lw 26 [false] [] [] 7 Fo (z0.1, z0.2.1, z0.2.2.1, (g3_ z0), (g4_ z0), (g5_ z0), (g6_ z0), (g7_ z0), (g8_ z0), (g9_ z0), (Df z0)) hC [pq (Bb hl0)] hn0
  ·unfold N7 at h
   obtain ⟨y1, h2, h⟩ := Ad h
   obtain ⟨y3, h4, h⟩ := Ad h
   refine ws Lw 32 [true] [pr pI (Bl hx0 hl0), pn pI (Bl hx0 hl0), pr pI h2, pn pI h2, pv Auc (λ hg => Atj (⟨(⟨z0.1, z0.2.1, z0.2.2.1, (g3_ z0), (g4_ z0), (g5_ z0)⟩ : Aa), (⟨(g6_ z0), (g7_ z0), (g8_ z0), (g9_ z0)⟩ : Ab), (Df z0)⟩ : Ay) x2 _ (Ba h4 hg))] [] 7 H9 [(0, dO 0 0), (2, dI x2), (7, dO 12 0), (8, dS 6), (9, dI (ln x1)), (10, dI (cnt 0 n0)), (28, dB ((decide (y1 > 0)) && (decide (y3 > 0))))] [.box 235 [I z0.1, DS Bi z0.2.1, DS Bt z0.2.2.1, DS q65 (g3_ z0), I (g4_ z0), I (g5_ z0), .os 7, .os 8, .os 9, .os 10, .os 11], .non, .non, .non, .non, .non, v0_ x1, v2_ (g6_ z0), v4_ (g7_ z0), v0_ (g8_ z0), v3_ (g9_ z0), v6_ (Df z0), .box 3 [I a0]] hC [pq (A8 hi0 hl0)] ?_
   rcases cB h with ⟨h5, h⟩ | ⟨h5, h⟩
   ·obtain ⟨y6, h7, h⟩ := Ad h
    exact wx w0b (M9 x1 x2 (n0 + 1)) (Ri x1 (n0 + 1)) Lw 25 [true] [pc A3o (A1t (⟨(⟨z0.1, z0.2.1, z0.2.2.1, (g3_ z0), (g4_ z0), (g5_ z0)⟩ : Aa), (⟨(g6_ z0), (g7_ z0), (g8_ z0), (g9_ z0)⟩ : Ab), (Df z0)⟩ : Ay) a0 _ h7) [0, 7, 8, 9, 10, 11, 12]] [] 7 [0, 1, 2, 3, 4, 5, 6, 13, 14, 15, 16, 17] (zt y6.1.Al (zu y6.1.Ar y6.1.acts)) hC [pq h5] (sI h).symm
   ·exact wx w0b (M9 x1 x2 (n0 + 1)) (Ri x1 (n0 + 1)) Lw 25 [false] [] [] 7 Fo (z0.1, z0.2.1, z0.2.2.1, (g3_ z0), (g4_ z0), (g5_ z0), (g6_ z0), (g7_ z0), (g8_ z0), (g9_ z0), (Df z0)) hC [pq h5] (sI h).symm
 ·have h := hnext0 _ hs0
  replace h := sI h
  subst h
  exact wf Lw 20 [] [] [] 7 Fo hC []
theorem A3j : EN 211 := en Tryz.func211
theorem k9 (x0 : Ai) (r : Ai1) (h : F9 x0 = some r) : CO 9 [.d (.o 0 0)] [.box 90 (d90 x0)] (.tup [.agg [I r.1.Am, .os 1, .os 2, .os 3, I r.1.Phase, I r.1.Ap], .agg (d31 r.2.1), .agg [I r.2.2.1.Time, .os 4, .os 5, .os 6, .os 7, .os 8, .os 9]]) (.box 90 (d90 (C1 r)) :: zs r.1 (zp r.2.2.1.Power [v5_ r.2.2.1.A5, v1_ r.2.2.1.A4])) := by
 unfold F9 at h
 refine co 14 Tryz.func9 λ C hC => ?_
 obtain ⟨y1, h2, h⟩ := Ad h
 obtain ⟨y3, h4, h⟩ := Ad h
 obtain ⟨y5, h6, h⟩ := Ad h
 replace h := sI h
 subst h
 exact wr [0, 2, 3, 4, 5] 27 [] [pc e29 (k29 x0 _ h2) [0], pc e30 (k30 y1.2 _ h4) [0], pc A6l (A50 y3.2 y1.1 _ h6) [0, 4, 5, 6]] [] 1 [0, 4, 5, 6, 8, 9, 10, 11, 12, 13] hC []
theorem e9 : EN 9 := en Tryz.func9
def Apm : List Nat := [0, 1, 2, 3, 4, 6, 7, 8, 9, 15]
theorem A7r (x0 : Aa) (x1 : Ab) (x2 : Int) (r : Ab × Int) (h : Z1 x0 x1 x2 = some r) : CO 182 [.agg (d29 x0), .agg (d36 x1), .d (I x2)] [] (.tup [.agg [.os 0, .os 1, .os 2, .os 3], .d (I r.2)]) (zp r.1 []) := by
 unfold Z1 at h
 refine co 29 Tryz.func182 λ C hC => ?_
 obtain ⟨y1, h2, h⟩ := Ad h
 refine ws Apm 28 [] [pc A8x (A7g x0 x1 x2 _ h2) []] [.ownb 2 0 4 1, .ownb 2 1 120 4, .ownb 2 2 3 1, .ownb 2 3 86 2] 0 n7_ [(2, dI x2), (3, dO 0 0), (4, dO 1 0), (6, dO 2 0), (7, dI 0), (8, dI y1), (15, dB (y1 != 0))] (.box 29 (d29 x0) :: .box 36 (d36 x1) :: .box 36 [.os 3, .os 4, .os 5, .os 6] :: ze []) hC [] ?_
 rcases cB h with ⟨h3, h⟩ | ⟨h3, h⟩
 ·replace h := sI h
  subst h
  exact wr Apm 24 [true] [] [.ownb 2 0 4 1, .ownb 2 1 120 4, .ownb 2 2 3 1, .ownb 2 3 86 2] 0 [7, 8, 9, 10] hC [pq h3]
 ·obtain ⟨y4, h5, h⟩ := Ad h
  obtain ⟨y6, h7, h⟩ := Ad h
  obtain ⟨y8, h9, h⟩ := Ad h
  obtain ⟨y10, h11, h⟩ := Ad h
  replace h := sI h
  subst h
  exact wr Apm 29 [false] [pc Mr (Mk x1 _ h5) [], pr pB h7, pu pB h7 h9, ⟨.call 57 [.agg (d29 x0), .agg [.os 0, .os 1, .os 2, .os 3]] [v2_ y8, v4_ y4.Ac, v0_ y4.As, v3_ y4.Aq] (.tup [.agg [.os 4, .os 5, .os 6, .os 7], dI y10.2]) (v2_ y8 :: v4_ y4.Ac :: v0_ y4.As :: v3_ y4.Aq :: zp y10.1 []) [7, 8, 9, 10], ⟨e57, ((k57 x0 (⟨y8, y4.Ac, y4.As, y4.Aq⟩ : Ab) _ h11).lend (by kernel_rfl) (by kernel_rfl) (by kernel_rfl) ⟨Be (λ _ => rfl), Be (λ _ => rfl), Be (λ _ => rfl), Be (λ _ => rfl), trivial⟩ (by kernel_rfl) (by kernel_rfl))⟩⟩] [] 0 [12, 13, 14, 15] hC [pq h3]
theorem A88 : EN 182 := en Tryz.func182
def Fe : List Nat := [0, 1, 2, 3, 4, 5, 6, 7, 8, 10, 11, 12, 13, 14, 15, 16, 17, 18, 19, 20, 21, 22, 27, 32, 59, 114, 123, 138]
def S_ (y6 : Int × Bool) (y13 : (List Ao) × Bool) (z0 : Int) : St := [(6, dO 4 0), (7, dO 5 0), (10, dO 6 0), (11, dO 7 0), (12, dO 8 0), (13, .d (DS q49 [])), (14, dI 0), (17, dI y6.1), (21, .d (DS q49 y13.1))]
def Uj (x0 : Aa) (x1 : Bh) (x2 : Ab) (x4 : Int) (x5 : Az) (y6 : Int × Bool) (z0 : Int) : List Res := (zp x2 [.box 29 (d29 x0), .box 31 (d31 x1), .box 3 [I x4], .box 130 [I z0, I (Gc x5.Low y6.2 x4)], .box 130 [I 0, I 0]])
theorem A2q (x0 : Aa) (x1 : Bh) (x2 : Ab) (x3 : Int) (x4 : Int) (x5 : Az) (r : Az × (List Ao) × Int) (h : Vo x0 x1 x2 x3 x4 x5 = some r) : CO 133 [.agg (d29 x0), .agg (d31 x1), .agg [.os 0, .os 1, .os 2, .os 3], .d (I x3), .d (I x4), .agg (Ah6 x5)] (zp x2 []) (.tup [.agg (Ah6 r.1), .d (DS q49 r.2.1), .d (I r.2.2)]) (zp x2 []) := by
 unfold Vo at h
 refine co 149 Tryz.func133 λ C hC => ?_
 obtain ⟨y1, h2, h⟩ := Ad h
 refine ws Fe 31 [] [pb e43 (k43 x0 x2 _ h2)] [] 4 Hg [(3, dI x3), (6, dO 4 0), (7, dO 5 0), (8, dO 6 0), (10, dO 7 0), (11, dO 8 0), (12, dO 9 0), (13, .d (DS q49 [])), (14, dI 0), (15, .d (.fn (.func 174) [] [.o 7 0])), (16, dI y1), (27, dB (y1 != 0))] (zp x2 [.box 29 (d29 x0), .box 31 (d31 x1), .box 36 [.os 0, .os 1, .os 2, .os 3], .box 3 [I x4], .box 130 (Ah6 x5), .box 130 [I 0, I 0]]) hC [] ?_
 rcases cB h with ⟨h3, h⟩ | ⟨h3, h⟩
 ·replace h := sI h
  subst h
  exact wr Fe 24 [true] [] [] 4 n4_ hC [pq h3]
 ·refine ws Fe 24 [false] [pc e59 (k59 x1 _ rfl) [], ⟨.when [((((!(F59 x1)) || (decide (x4 < 0))) || (decide (x4 > 2147483648))), false)] (.callB 174 [dI x5.High, .d (.ip [.v (.int .i64 x4)])] (dB (Kz x5.High x4)) [[]] 0 []), λ hg => Ir ⟨Auf, (Atm x5.High x4 _ rfl)⟩⟩, ⟨.when [(((((!(F59 x1)) || (decide (x4 < 0))) || (decide (x4 > 2147483648))) || (!(Kz x5.High x4))), false)] (.callB 174 [dI x5.Low, .d (.ip [.v (.int .i64 x4)])] (dB (Kz x5.Low x4)) [[]] 0 []), λ hg => Ir ⟨Auf, (Atm x5.Low x4 _ rfl)⟩⟩] [] 4 Hg [(3, dI x3), (6, dO 4 0), (7, dO 5 0), (8, dO 6 0), (10, dO 7 0), (11, dO 8 0), (12, dO 9 0), (13, .d (DS q49 [])), (14, dI 0), (32, dB (Yy x1 x4 x5))] (zp x2 [.box 29 (d29 x0), .box 31 (d31 x1), .box 36 [.os 0, .os 1, .os 2, .os 3], .box 3 [I x4], .box 130 (Ah6 x5), .box 130 [I 0, I 0]]) hC [pq h3] ?_
  rcases cB h with ⟨h4, h⟩ | ⟨h4, h⟩
  ·replace h := sI h
   subst h
   exact wr Fe 24 [true] [] [] 4 n4_ hC [pq h4]
  ·rcases cB h with ⟨h5, h⟩ | ⟨h5, h⟩
   ·replace h := sI h
    subst h
    exact wr Fe 27 [false, true] [] [] 4 n4_ hC [pq h4, pq h5]
   ·obtain ⟨y6, h7, h⟩ := Ad h
    obtain ⟨y8, h9, h⟩ := Ad h
    obtain ⟨y10, h11, h⟩ := Ad h
    refine ws Fe 36 [false, false] [pb A9b (A7u x0 x1 x2 x3 _ h7), pb A9a (A7t x0 x1 x2 x3 _ h9), pc A33 (A18 x5.High y8 x4 _ rfl) [], pc A33 (A18 x5.Low y6.2 x4 _ rfl) [], pb A89 (A7s x0 x2 x3 _ h11)] [] 4 Hg [(3, dI x3), (6, dO 4 0), (7, dO 5 0), (8, dO 6 0), (10, dO 7 0), (11, dO 8 0), (12, dO 9 0), (13, .d (DS q49 [])), (14, dI 0), (17, dI y6.1), (19, dI y10.1), (114, dB (Yx x1 x4 x5 y8 y10))] (zp x2 [.box 29 (d29 x0), .box 31 (d31 x1), .box 36 [.os 0, .os 1, .os 2, .os 3], .box 3 [I x4], .box 130 [I (Gc x5.High y8 x4), I (Gc x5.Low y6.2 x4)], .box 130 [I 0, I 0]]) hC [pq h4, pq h5] ?_
    rcases cB h with ⟨h12, h⟩ | ⟨h12, h⟩
    ·obtain ⟨y13, h14, h⟩ := Ad h
     refine ws Fe 27 [true] [pc A32 (A17 x0 x2 x3 y10.1 _ h14) n4_] [] 4 [0, 1, 2, 3, 4, 5, 7, 8, 9] [(6, dO 4 0), (7, dO 5 0), (10, dO 6 0), (11, dO 7 0), (12, dO 8 0), (13, .d (DS q49 [])), (14, dI 0), (17, dI y6.1), (21, .d (DS q49 y13.1)), (123, dB y13.2)] (zp x2 [.box 29 (d29 x0), .box 31 (d31 x1), .box 3 [I x4], .box 130 [I (Gc x5.High y8 x4), I (Gc x5.Low y6.2 x4)], .box 130 [I 0, I 0]]) hC [pq h12] ?_
     obtain ⟨w0, h, hret0, hnext0⟩ := Au h
     refine wc w0 (S_ y6 y13) (Uj x0 x1 x2 x4 x5 y6) ?_ λ z0 hs0 => ?_
     ·unfold Vn at h
      rcases cB h with ⟨h15, h⟩ | ⟨h15, h⟩
      ·exact wx w0 (S_ y6 y13) (Uj x0 x1 x2 x4 x5 y6) Fe 23 [true] [] [] 4 n9_ (-1) hC [pq h15] (sI h).symm
      ·exact wx w0 (S_ y6 y13) (Uj x0 x1 x2 x4 x5 y6) Fe 23 [false] [] [] 4 n9_ (Gc x5.High y8 x4) hC [pq h15] (sI h).symm
     ·clear h; have h := hnext0 _ hs0
      replace h := sI h
      subst h
      exact wr Fe 23 [] [] [] 4 n4_ hC []
    ·rcases cB h with ⟨h16, h⟩ | ⟨h16, h⟩
     ·obtain ⟨y17, h18, h⟩ := Ad h
      replace h := sI h
      subst h
      exact wr Fe 31 [false, true] [pc Ap6 (Apt x0 y6.1 _ h18) []] [] 4 n4_ hC [pq h12, pq h16]
     ·replace h := sI h
      subst h
      exact wr Fe 30 [false, false] [] [] 4 n4_ hC [pq h12, pq h16]
theorem A4l : EN 133 := en Tryz.func133
theorem k42 (x0 : Fp) (r : Int) (h : F42 x0 = some r) : CO 42 [.agg (d57 x0)] [] (.d (I r)) [] := by
 unfold F42 at h
 refine co 37 Tryz.func42 λ C hC => ?_
 rcases cB h with ⟨h1, h⟩ | ⟨h1, h⟩
 ·cases h
 ·rcases cB h with ⟨h2, h⟩ | ⟨h2, h⟩
  ·cases h
  ·obtain ⟨y3, h4, h⟩ := Ad h
   rcases cB h with ⟨h5, h⟩ | ⟨h5, h⟩
   ·cases h
   ·replace h := sI h
    subst h
    exact wr [0, 1, 2, 3, 8, 33] 38 [false, false, false] [pl q63 x0.Cn, pc A6a (A5p x0.Cn _ h4) []] [] 0 [] hC [pq h1, pq h2, pq h5]
theorem e42 : EN 42 := en Tryz.func42
theorem A2a (x0 : Ay) (r : Ay) (h : Vg x0 = some r) : CO 172 [.d (.o 0 0)] (.box 235 (zb x0.Al [.os 1, .os 2, .os 3, .os 4, .os 5]) :: zp x0.Ar [v6_ x0.acts]) (.tup []) (.box 235 (zb r.Al [.os 6, .os 7, .os 8, .os 9, .os 10]) :: .non :: .non :: .non :: .non :: .non :: zp r.Ar [v6_ r.acts]) := by
 unfold Vg at h
 refine co 24 Tryz.func172 λ C hC => ?_
 obtain ⟨y1, h2, h⟩ := Ad h
 obtain ⟨y3, h4, h⟩ := Ad h
 obtain ⟨y5, h6, h⟩ := Ad h
 replace h := sI h
 subst h
 exact wf [0, 1] 27 [] [pc A3q (A1v x0 _ h2) n6_, pc A3p (A1u y1 _ h4) [0, 7, 8, 9, 10, 11, 6], ⟨.call 57 [.agg (d29 y3.Al), .agg [.os 0, .os 1, .os 2, .os 3]] (zp y3.Ar []) (.tup [.agg [.os 4, .os 5, .os 6, .os 7], dI y5.2]) (zp y3.Ar (zp y5.1 [])) [12, 13, 14, 15], ⟨e57, ((k57 y3.Al y3.Ar _ h6).lend (by kernel_rfl) (by kernel_rfl) (by kernel_rfl) ⟨Be (λ _ => rfl), Be (λ _ => rfl), Be (λ _ => rfl), Be (λ _ => rfl), trivial⟩ (by kernel_rfl) (by kernel_rfl))⟩⟩] [] 6 [0, 1, 2, 3, 4, 5, 17, 18, 19, 20, 16] hC []
theorem A35 : EN 172 := en Tryz.func172
def Lz : List Nat := [0, 2, 4, 5, 19, 20, 21, 22, 32]
def Ng (y3 : (List Aj)) (n0 : Nat) (z0 : Sg6) : St := [(0, dO 0 0), (2, dS 6), (19, dS 7), (20, dI (ln y3)), (21, dI (cnt 0 n0))]
def Rs (y1 : (List Int)) (y3 : (List Aj)) (n0 : Nat) (z0 : Sg6) : List Res := [.box 235 [I z0.1, DS Bi z0.2.1, DS Bt z0.2.2.1, DS q65 (g3_ z0), I (g4_ z0), I (g5_ z0), .os 8, .os 9, .os 10, .os 11, .os 12], .non, .non, .non, .non, .non, v0_ y1, v8_ y3, v2_ (g6_ z0), v4_ (g7_ z0), v0_ (g8_ z0), v3_ (g9_ z0), v6_ (Df z0)]
def Acf  (z0 : Sg6) : St := []
def Ady  (z0 : Sg6) : List Res := [.box 235 [I z0.1, DS Bi z0.2.1, DS Bt z0.2.2.1, DS q65 (g3_ z0), I (g4_ z0), I (g5_ z0), .os 6, .os 7, .os 8, .os 9, .os 10], .non, .non, .non, .non, .non, v2_ (g6_ z0), v4_ (g7_ z0), v0_ (g8_ z0), v3_ (g9_ z0), v6_ (Df z0)]
theorem A19 (x0 : Ay) (r : Ay) (h : P1 x0 = some r) : CO 173 [.d (.o 0 0)] (.box 235 (zb x0.Al [.os 1, .os 2, .os 3, .os 4, .os 5]) :: zp x0.Ar [v6_ x0.acts]) (.tup []) (.box 235 (zb r.Al [.os 6, .os 7, .os 8, .os 9, .os 10]) :: .non :: .non :: .non :: .non :: .non :: zp r.Ar [v6_ r.acts]) := by
 unfold P1 at h
 refine co 48 Tryz.func173 λ C hC => ?_
 obtain ⟨y1, h2, h⟩ := Ad h
 obtain ⟨y3, h4, h⟩ := Ad h
 refine ws Lz 25 [] [pc A80 (A7j x0.Al _ h2) [], pc Ay2 (Ayx x0.Al x0.Ar _ h4) [1, 2, 3, 4], pl q84 y3] [.mv 1, .mv 2, .mv 3, .mv 4, .mv 5] 6 H9 (Ng y3 0 (zt x0.Al (zu x0.Ar x0.acts))) (Rs y1 y3 0 (zt x0.Al (zu x0.Ar x0.acts))) hC [] ?_
 obtain ⟨w0, hm0, hret0, hnext0⟩ := Au h
 clear h
 refine wc w0 (Acf) (Ady) ?_ λ z0 hs0 => ?_
 ·refine wb ?_
  refine Cj 19 7 rfl rfl λ hl0 => ?_
  refine A7 (by kernel_rfl) (Oe y1) (Ng y3) (Rs y1 y3) w0 y3 (zt x0.Al (zu x0.Ar x0.acts)) hm0 rfl rfl (λ z0 hn0 => ?_) λ n0 a0 z0 w0b hi0 hx0 h hb0 hr0 => ?_
  ·clear hm0
   exact wx w0 (Acf) (Ady) Lz 26 [false] [] [] 6 [0, 1, 2, 3, 4, 5, 8, 9, 10, 11, 12] (z0.1, z0.2.1, z0.2.2.1, (g3_ z0), (g4_ z0), (g5_ z0), (g6_ z0), (g7_ z0), (g8_ z0), (g9_ z0), (Df z0)) hC [pq (Bb hl0)] hn0
  ·unfold Oe at h
   obtain ⟨y5, h6, h⟩ := Ad h
   obtain ⟨y7, h8, h⟩ := Ad h
   refine ws Lz 34 [true] [pr q84 (Bl hx0 hl0), pn q84 (Bl hx0 hl0), ⟨.call 168 [dS 0] [v0_ y1] (dS 1) [v0_ y1, v0_ y5] [6], ⟨A38, ((A2d y1 _ h6).lend (by kernel_rfl) (by kernel_rfl) (by kernel_rfl) ⟨Be (λ _ => rfl), trivial⟩ (by kernel_rfl) (by kernel_rfl))⟩⟩, pc A3l (A1q y5 a0 _ h8) [14, 13], pl pI y7.2.Ac] [] 6 [0, 1, 2, 3, 4, 5, 6, 7, 8, 9, 10, 11, 12, 13, 15] [(0, dO 0 0), (2, dS 6), (4, dO 13 0), (5, dS 14), (19, dS 7), (20, dI (ln y3)), (21, dI (cnt 0 n0)), (32, dB (decide ((ln y7.2.Ac) > 0)))] [.box 235 [I z0.1, DS Bi z0.2.1, DS Bt z0.2.2.1, DS q65 (g3_ z0), I (g4_ z0), I (g5_ z0), .os 8, .os 9, .os 10, .os 11, .os 12], .non, .non, .non, .non, .non, v0_ y1, v8_ y3, v2_ (g6_ z0), v4_ (g7_ z0), v0_ (g8_ z0), v3_ (g9_ z0), v6_ (Df z0), .box 84 (d84 y7.2), v0_ y7.1] hC [pq (A8 hi0 hl0)] ?_
   rcases cB h with ⟨h9, h⟩ | ⟨h9, h⟩
   ·obtain ⟨y10, h11, h⟩ := Ad h
    obtain ⟨y12, h13, h⟩ := Ad h
    obtain ⟨y14, h15, h⟩ := Ad h
    obtain ⟨y16, h17, h⟩ := Ad h
    exact wx w0b (Ng y3 (n0 + 1)) (Rs y1 y3 (n0 + 1)) Lz 27 [true] [pr pI h11, pc A3k (A1p (⟨(⟨z0.1, z0.2.1, z0.2.2.1, (g3_ z0), (g4_ z0), (g5_ z0)⟩ : Aa), (⟨(g6_ z0), (g7_ z0), (g8_ z0), (g9_ z0)⟩ : Ab), (Df z0)⟩ : Ay) y7.1 y10 _ h13) [0, 8, 9, 10, 11, 12, 14], pr pI h15, pc A3j (A1o y12 y7.1 y14 _ h17) [0, 15, 16, 17, 18, 19, 14]] [] 6 [0, 1, 2, 3, 4, 5, 6, 7, 20, 21, 22, 23, 24] (zt y16.Al (zu y16.Ar y16.acts)) hC [pq h9] (sI h).symm
   ·exact wx w0b (Ng y3 (n0 + 1)) (Rs y1 y3 (n0 + 1)) Lz 25 [false] [] [] 6 H9 (z0.1, z0.2.1, z0.2.2.1, (g3_ z0), (g4_ z0), (g5_ z0), (g6_ z0), (g7_ z0), (g8_ z0), (g9_ z0), (Df z0)) hC [pq h9] (sI h).symm
 ·have h := hnext0 _ hs0
  replace h := sI h
  subst h
  exact wf Lz 20 [] [] [] 6 Aph hC []
theorem A34 : EN 173 := en Tryz.func173
def Aae : List Nat := [0, 1, 2, 3, 4, 5, 6, 7, 8, 9, 10, 11, 12, 13, 17, 23, 30, 31, 32, 33, 48]
def Afy (x0 : Fp) (n0 : Nat) (z0 : (List Int)) : St := [(4, dO 0 0), (5, dO 1 0), (6, .d (DS pI [])), (7, dI 0), (10, dS 2), (30, .d (DS q63 x0.Cn)), (31, dI (ln x0.Cn)), (32, dI (cnt 0 n0))]
def Ard (x1 : Aa) (x2 : Ab) (n0 : Nat) (z0 : (List Int)) : List Res := [.box 29 (d29 x1), .box 36 (d36 x2), v0_ z0]
def As5  (z0 : (List Int)) : St := [(6, .d (DS pI [])), (7, dI 0), (10, dS 0)]
def Avy  (z0 : (List Int)) : List Res := [v0_ z0]
theorem k15 (x0 : Fp) (x1 : Aa) (x2 : Ab) (r : (List Int) × Int) (h : F15 x0 x1 x2 = some r) : CO 15 [.agg (d57 x0), .agg (d29 x1), .agg (d36 x2)] [] (.tup [.d (.os 0), .d (I r.2)]) [v0_ r.1] := by
 unfold F15 at h
 refine co 61 Tryz.func15 λ C hC => ?_
 obtain ⟨y1, h2, h⟩ := Ad h
 rcases cB h with ⟨h3, h⟩ | ⟨h3, h⟩
 ·cases h
 ·obtain ⟨y4, h5, h⟩ := Ad h
  refine ws Aae 35 [false] [pc e42 (k42 x0 _ h2) [], pc e43 (k43 x1 x2 _ h5) []] [] 0 n3_ [(3, dO 0 0), (4, dO 1 0), (5, dO 2 0), (6, .d (DS pI [])), (7, dI 0), (9, dI y4), (23, dB (y4 != 0))] [.box 57 (d57 x0), .box 29 (d29 x1), .box 36 (d36 x2)] hC [pq h3] ?_
  rcases cB h with ⟨h6, h⟩ | ⟨h6, h⟩
  ·cases h
  ·obtain ⟨y7, h8, h⟩ := Ad h
   refine ws Aae 28 [false] [pl q63 x0.Cn, ⟨.room ((ln x0.Cn) * (8 + 1)) (List.replicate (Int.toNat (ln x0.Cn)) (pI 0)) (y7.map pI), Hh h8⟩, pl q63 x0.Cn] [] 0 [1, 2, 3] (Afy x0 0 y7) (Ard x1 x2 0 y7) hC [pq h6] ?_
   obtain ⟨w0, hm0, hret0, hnext0⟩ := Au h
   clear h
   refine wc w0 (As5) (Avy) ?_ λ z0 hs0 => ?_
   ·refine wb ?_
    refine Bn 30 rfl λ hl0 => ?_
    refine A7 (by kernel_rfl) (Akt x1 x2) (Afy x0) (Ard x1 x2) w0 x0.Cn y7 hm0 rfl rfl (λ z0 hn0 => ?_) λ n0 a0 z0 w0b hi0 hx0 h hb0 hr0 => ?_
    ·clear hm0
     exact wx w0 (As5) (Avy) Aae 26 [false] [] [] 0 [2] z0 hC [pq (Bb hl0)] hn0
    ·unfold Akt at h
     obtain ⟨y9, h10, h⟩ := Ad h
     obtain ⟨y11, h12, h⟩ := Ad h
     refine ws Aae 34 [true] [pt hx0 hl0, pc A6j (A5y x1.Ae (cnt 0 n0) _ h10) [3], pw e46 (λ hg => k46 x1 x2 y9.1 _ (Ba h12 hg)) []] [] 0 n5_ [(4, dO 0 0), (5, dO 1 0), (6, .d (DS pI [])), (7, dI 0), (10, dS 2), (11, dO 3 0), (12, dO 4 0), (13, dI y9.1), (30, .d (DS q63 x0.Cn)), (31, dI (ln x0.Cn)), (32, dI (cnt 0 n0)), (48, dB ((decide (y9.1 >= 0)) && y11))] [.box 29 (d29 x1), .box 36 (d36 x2), v0_ z0, .box 3 [I y9.2], .box 63 (d63 a0)] hC [pq (A8 hi0 hl0)] ?_
     rcases cB h with ⟨h13, h⟩ | ⟨h13, h⟩
     ·obtain ⟨y14, h15, h⟩ := Ad h
      obtain ⟨y16, h17, h⟩ := Ad h
      obtain ⟨y18, h19, h⟩ := Ad h
      obtain ⟨y20, h21, h⟩ := Ad h
      exact wx w0b (Afy x0 (n0 + 1)) (Ard x1 x2 (n0 + 1)) Aae 25 [true] [pr pI h15, pc e47 (k47 a0 y14 _ h17) [], pr pI h19, pu pI h19 h21] [] 0 n3_ y20 hC [pq h13] (sI h).symm
     ·cases h
   ·have h := hnext0 _ hs0
    replace h := sI h
    subst h
    exact wr Aae 23 [] [] [] 0 [0] hC []
theorem e15 : EN 15 := en Tryz.func15
def Ip : List Nat := [0, 1, 3, 4, 6, 17, 36, 55, 76, 82, 88, 96]
theorem A2o (x0 : A2) (x1 : Ao) (r : Int × A2) (h : Ji x0 x1 = some r) : CO 135 [.d (.o 0 0), .agg (d49 x1)] (.box 186 (zb x0.Al [.os 1, .os 2, .os 3, .os 4, I x0.time]) :: zp x0.Ar []) (.d (I r.1)) (.box 186 (zb r.2.Al [.os 5, .os 6, .os 7, .os 8, I r.2.time]) :: .non :: .non :: .non :: .non :: zp r.2.Ar []) := by
 unfold Ji at h
 refine co 101 Tryz.func135 λ C hC => ?_
 rcases cB h with ⟨h1, h⟩ | ⟨h1, h⟩
 ·obtain ⟨y2, h3, h⟩ := Ad h
  replace h := sI h
  subst h
  exact wr Ip 34 [true] [⟨.call 182 [.agg (d29 x0.Al), .agg [.os 0, .os 1, .os 2, .os 3], dI x1.Unit] (zp x0.Ar []) (.tup [.agg [.os 4, .os 5, .os 6, .os 7], dI y2.2]) (zp x0.Ar (zp y2.1 [])) [1, 2, 3, 4], ⟨A88, ((A7r x0.Al x0.Ar x1.Unit _ h3).lend (by kernel_rfl) (by kernel_rfl) (by kernel_rfl) ⟨Be (λ _ => rfl), Be (λ _ => rfl), Be (λ _ => rfl), Be (λ _ => rfl), trivial⟩ (by kernel_rfl) (by kernel_rfl))⟩⟩] [.frz 1, .frz 2, .frz 3, .frz 4] 5 [0, 1, 2, 3, 4, 6, 7, 8, 9] hC [pq h1]
 ·rcases cB h with ⟨h4, h⟩ | ⟨h4, h⟩
  ·obtain ⟨y5, h6, h⟩ := Ad h
   replace h := sI h
   subst h
   exact wr Ip 37 [false, true] [⟨.call 183 [.agg (d29 x0.Al), .agg [.os 0, .os 1, .os 2, .os 3], dI x1.Unit] (zp x0.Ar []) (.tup [.agg [.os 4, .os 5, .os 6, .os 7], dI y5.2]) (zp x0.Ar (zp y5.1 [])) [1, 2, 3, 4], ⟨A87, ((A7q x0.Al x0.Ar x1.Unit _ h6).lend (by kernel_rfl) (by kernel_rfl) (by kernel_rfl) ⟨Be (λ _ => rfl), Be (λ _ => rfl), Be (λ _ => rfl), Be (λ _ => rfl), trivial⟩ (by kernel_rfl) (by kernel_rfl))⟩⟩] [.frz 1, .frz 2, .frz 3, .frz 4] 5 [0, 1, 2, 3, 4, 6, 7, 8, 9] hC [pq h1, pq h4]
  ·rcases cB h with ⟨h7, h⟩ | ⟨h7, h⟩
   ·obtain ⟨y8, h9, h⟩ := Ad h
    replace h := sI h
    subst h
    exact wr Ip 40 [false, false, true] [⟨.call 184 [.agg (d29 x0.Al), .agg [.os 0, .os 1, .os 2, .os 3], dI x1.Unit, dI x1.Value] (zp x0.Ar []) (.tup [.agg [.os 4, .os 5, .os 6, .os 7], dI y8.2]) (zp x0.Ar (zp y8.1 [])) [1, 2, 3, 4], ⟨A86, ((A7p x0.Al x0.Ar x1.Unit x1.Value _ h9).lend (by kernel_rfl) (by kernel_rfl) (by kernel_rfl) ⟨Be (λ _ => rfl), Be (λ _ => rfl), Be (λ _ => rfl), Be (λ _ => rfl), trivial⟩ (by kernel_rfl) (by kernel_rfl))⟩⟩] [.frz 1, .frz 2, .frz 3, .frz 4] 5 [0, 1, 2, 3, 4, 6, 7, 8, 9] hC [pq h1, pq h4, pq h7]
   ·rcases cB h with ⟨h10, h⟩ | ⟨h10, h⟩
    ·obtain ⟨y11, h12, h⟩ := Ad h
     replace h := sI h
     subst h
     exact wr Ip 43 [false, false, false, true] [pc A31 (A16 x0 x1.Unit _ h12) n5_] [.mv 1, .mv 2, .mv 3, .mv 4] 5 [0, 1, 2, 3, 4, 6, 7, 8, 9] hC [pq h1, pq h4, pq h7, pq h10]
    ·rcases cB h with ⟨h13, h⟩ | ⟨h13, h⟩
     ·obtain ⟨y14, h15, h⟩ := Ad h
      replace h := sI h
      subst h
      exact wr Ip 46 [false, false, false, false, true] [pc A30 (A15 x0 x1.Unit _ h15) n5_] [.mv 1, .mv 2, .mv 3, .mv 4] 5 [0, 1, 2, 3, 4, 6, 7, 8, 9] hC [pq h1, pq h4, pq h7, pq h10, pq h13]
     ·rcases cB h with ⟨h16, h⟩ | ⟨h16, h⟩
      ·obtain ⟨y17, h18, h⟩ := Ad h
       replace h := sI h
       subst h
       exact wr Ip 49 [false, false, false, false, false, true] [pc A3z (A14 x0 x1.Unit x1.Value _ h18) n5_] [.mv 1, .mv 2, .mv 3, .mv 4] 5 [0, 1, 2, 3, 4, 6, 7, 8, 9] hC [pq h1, pq h4, pq h7, pq h10, pq h13, pq h16]
      ·rcases cB h with ⟨h19, h⟩ | ⟨h19, h⟩
       ·obtain ⟨y20, h21, h⟩ := Ad h
        replace h := sI h
        subst h
        exact wr Ip 52 [false, false, false, false, false, false, true] [pc A3y (A13 x0 _ h21) n5_] [] 5 [0, 1, 2, 3, 4, 6, 7, 8, 9] hC [pq h1, pq h4, pq h7, pq h10, pq h13, pq h16, pq h19]
       ·obtain ⟨y22, h23, h⟩ := Ad h
        replace h := sI h
        subst h
        exact wr Ip 52 [false, false, false, false, false, false, false] [pc A3x (A12 x0 (⟨x1.Value, x1.Unit⟩ : An) (x1.Kind == 8) _ h23) n5_] [] 5 [0, 1, 2, 3, 4, 6, 7, 8, 9] hC [pq h1, pq h4, pq h7, pq h10, pq h13, pq h16, pq h19]
theorem A4j : EN 135 := en Tryz.func135
theorem A2b (x0 : Ay) (r : Ay) (h : yA x0 = some r) : CO 171 [.d (.o 0 0)] (.box 235 (zb x0.Al [.os 1, .os 2, .os 3, .os 4, .os 5]) :: zp x0.Ar [v6_ x0.acts]) (.tup []) (.box 235 (zb r.Al [.os 6, .os 7, .os 8, .os 9, .os 10]) :: .non :: .non :: .non :: .non :: .non :: zp r.Ar [v6_ r.acts]) := by
 unfold yA at h
 refine co 6 Tryz.func171 λ C hC => ?_
 obtain ⟨y1, h2, h⟩ := Ad h
 obtain ⟨y3, h4, h⟩ := Ad h
 replace h := sI h
 subst h
 exact wf [0] 23 [] [pc A35 (A2a x0 _ h2) n6_, pc A34 (A19 y1 _ h4) [0, 6, 7, 8, 9, 10]] [] 6 [0, 1, 2, 3, 4, 5, 11, 12, 13, 14, 15] hC []
theorem A36 : EN 171 := en Tryz.func171
def Yh : List Nat := [0, 1, 2, 3, 4, 5, 7, 8, 9, 10, 11, 12, 16, 21, 39, 55]
theorem k83 (x0 : Aa) (x1 : Ab) (x2 : Int) (x3 : Ao) (r : Ab × Int) (h : F83 x0 x1 x2 x3 = some r) : CO 83 [.agg (d29 x0), .agg (d36 x1), .d (I x2), .agg (d49 x3)] [] (.tup [.agg [.os 0, .os 1, .os 2, .os 3], .d (I r.2)]) (zp r.1 []) := by
 unfold F83 at h
 refine co 62 Tryz.func83 λ C hC => ?_
 obtain ⟨y1, h2, h⟩ := Ad h
 refine ws Yh 29 [] [pc e43 (k43 x0 x1 _ h2) []] [.ownb 3 0 4 1, .ownb 3 1 120 4, .ownb 3 2 3 1, .ownb 3 3 86 2] 0 n8_ [(2, dI x2), (4, dO 0 0), (5, dO 1 0), (7, dO 2 0), (8, dO 3 0), (9, dI 0), (10, dI y1), (16, dB (y1 != 0))] (.box 29 (d29 x0) :: .box 36 (d36 x1) :: .box 49 (d49 x3) :: .box 36 [.os 4, .os 5, .os 6, .os 7] :: ze []) hC [] ?_
 rcases cB h with ⟨h3, h⟩ | ⟨h3, h⟩
 ·replace h := sI h
  subst h
  exact wr Yh 24 [true] [] [.ownb 3 0 4 1, .ownb 3 1 120 4, .ownb 3 2 3 1, .ownb 3 3 86 2] 0 [8, 9, 10, 11] hC [pq h3]
 ·rcases cB h with ⟨h4, h⟩ | ⟨h4, h⟩
  ·replace h := sI h
   subst h
   exact wr Yh 27 [false, true] [] [.ownb 3 0 4 1, .ownb 3 1 120 4, .ownb 3 2 3 1, .ownb 3 3 86 2] 0 [8, 9, 10, 11] hC [pq h3, pq h4]
  ·obtain ⟨y5, h6, h⟩ := Ad h
   rcases cB h with ⟨h7, h⟩ | ⟨h7, h⟩
   ·replace h := sI h
    subst h
    exact wr Yh 30 [false, false, true] [pc A4k (A2p x0 x3 _ h6) []] [.ownb 3 0 4 1, .ownb 3 1 120 4, .ownb 3 2 3 1, .ownb 3 3 86 2] 0 [8, 9, 10, 11] hC [pq h3, pq h4, pq h7]
   ·obtain ⟨y8, h9, h⟩ := Ad h
    obtain ⟨y10, h11, h⟩ := Ad h
    refine ws Yh 37 [false, false, false] [pc A4k (A2p x0 x3 _ h6) [], pc Mr (Mk x1 _ h9) [], pc A4j (A2o (⟨x0, y8, x2⟩ : A2) x3 _ h11) [12, 8, 9, 10, 11]] [] 0 [3, 4, 5, 6, 7, 12, 13, 14, 15, 16] [(8, dO 0 0), (9, dI 0), (11, dO 5 0), (12, dI y10.1), (55, dB (y10.1 != 0))] (.box 36 [.os 1, .os 2, .os 3, .os 4] :: ze (.box 186 (zb y10.2.Al [.os 6, .os 7, .os 8, .os 9, I y10.2.time]) :: zp y10.2.Ar [])) hC [pq h3, pq h4, pq h7] ?_
    rcases cB h with ⟨h12, h⟩ | ⟨h12, h⟩
    ·replace h := sI h
     subst h
     exact wr Yh 24 [true] [] [.ownb 0 0 4 1, .ownb 0 1 120 4, .ownb 0 2 3 1, .ownb 0 3 86 2] 0 [10, 11, 12, 13] hC [pq h12]
    ·replace h := sI h
     subst h
     exact wr Yh 25 [false] [] [] 0 [6, 7, 8, 9] hC [pq h12]
theorem e83 : EN 83 := en Tryz.func83
def V6 : List Nat := [0, 1, 2, 3, 4, 6, 7, 8, 9, 10, 15]
theorem A2c (x0 : Aa) (x1 : Ab) (r : Ab × (List Ao) × Int) (h : yB x0 x1 = some r) : CO 170 [.agg (d29 x0), .agg (d36 x1), .d (.fn (.func 171) [] [])] [] (.tup [.agg [.os 0, .os 1, .os 2, .os 3], .d (.os 4), .d (I r.2.2)]) (zp r.1 [v6_ r.2.1]) := by
 unfold yB at h
 refine co 34 Tryz.func170 λ C hC => ?_
 obtain ⟨y1, h2, h⟩ := Ad h
 refine ws V6 28 [] [pc e43 (k43 x0 x1 _ h2) []] [.ownb 2 0 4 1, .ownb 2 1 120 4, .ownb 2 2 3 1, .ownb 2 3 86 2] 0 n7_ [(2, .d (.fn (.func 171) [] [])), (3, dO 0 0), (4, dO 1 0), (6, dO 2 0), (7, .d (DS q49 [])), (8, dI 0), (9, dI y1), (15, dB (y1 != 0))] (.box 29 (d29 x0) :: .box 36 (d36 x1) :: .box 36 [.os 3, .os 4, .os 5, .os 6] :: ze []) hC [] ?_
 rcases cB h with ⟨h3, h⟩ | ⟨h3, h⟩
 ·replace h := sI h
  subst h
  exact wr V6 24 [true] [] [.ownb 2 0 4 1, .ownb 2 1 120 4, .ownb 2 2 3 1, .ownb 2 3 86 2, .own 7 49 3] 0 [7, 8, 9, 10, 11] hC [pq h3]
 ·obtain ⟨y4, h5, h⟩ := Ad h
  refine ws V6 5 [false] [pc Mr (Mk x1 _ h5) []] [.ownb 11 10 49 3] 0 [2, 3, 4, 5, 6, 7, 8, 9, 10, 11, 12] [(2, .d (.fn (.func 171) [] [])), (6, dO 0 0), (7, .d (DS q49 [])), (8, dI 0), (10, dO 9 0)] (.box 36 [.os 1, .os 2, .os 3, .os 4] :: ze (zp y4 [.box 235 (zb x0 [.os 5, .os 6, .os 7, .os 8, .os 10]), v6_ ([] : List Ao)])) hC [pq h3] ?_
  obtain ⟨y6, h7, h⟩ := Ad h
  replace h := sI h
  subst h
  exact wr V6 24 [] [pc A36 (A2b (⟨x0, y4, ([] : List Ao)⟩ : Ay) _ h7) [9, 5, 6, 7, 8, 10]] [] 0 [11, 12, 13, 14, 15] hC []
theorem A37 : EN 170 := en Tryz.func170
theorem A8d (x0 : Aa) (x1 : Ab) (r : Ab × (List Ao) × Int) (h : Ak1 x0 x1 = some r) : CO 125 [.agg (d29 x0), .agg (d36 x1)] [] (.tup [.agg [.os 0, .os 1, .os 2, .os 3], .d (.os 4), .d (I r.2.2)]) (zp r.1 [v6_ r.2.1]) := by
 unfold Ak1 at h
 refine co 13 Tryz.func125 λ C hC => ?_
 obtain ⟨y1, h2, h⟩ := Ad h
 replace h := sI h
 subst h
 exact wr n7_ 25 [] [pc A37 (A2c x0 x1 _ h2) []] [] 0 [3, 4, 5, 6, 7] hC []
theorem A9u : EN 125 := en Tryz.func125
def F0 : List Nat := [0, 1, 3, 4, 5, 6, 7, 10, 32, 38, 52, 53, 54, 55, 63, 83]
def X9  (z0 : Int) : St := [(0, dO 0 0), (3, dO 9 0), (4, dO 10 0), (5, dI z0)]
def Y2 (x0 : A6) (x1 : Ao) (y1 : Ab × Int) (z0 : Int) : List Res := (.box 100 (I x0.Av.Time :: .os 1 :: .os 2 :: .os 3 :: .os 4 :: .os 5 :: .os 6 :: zb x0.Al [.os 7, .os 8]) :: zp x0.Av.Power (v5_ x0.Av.A5 :: v1_ x0.Av.A4 :: v1_ x0.events :: v7_ x0.states :: .box 49 (d49 x1) :: .box 36 [.os 11, .os 12, .os 13, .os 14] :: zp y1.1 []))
def Qh (y9 : Ab × (List Ao) × Int) (n1 : Nat) (z1 : Sg9) : St := [(0, dO 0 0), (4, dO 9 0), (6, dO 16 0), (52, dS 21), (53, dI (ln y9.2.1)), (54, dI (cnt 0 n1))]
def Wt (y1 : Ab × Int) (y9 : Ab × (List Ao) × Int) (n1 : Nat) (z1 : Sg9) : List Res := (.box 100 [I z1.1, .os 1, .os 2, .os 3, .os 4, .os 5, .os 6, I z1.2.1, DS Bi z1.2.2.1, DS Bt (g3_ z1), DS q65 (g4_ z1), I (g5_ z1), I (g6_ z1), .os 14, .os 15] :: v2_ (g7_ z1) :: v4_ (g8_ z1) :: v0_ (g9_ z1) :: v3_ (Ch z1) :: v5_ (D_ z1) :: v1_ (Ey z1) :: .non :: .non :: .box 36 [.os 10, .os 11, .os 12, .os 13] :: v2_ (Ek z1) :: v4_ y1.1.Ac :: v0_ (Q5 z1) :: v3_ y1.1.Aq :: v1_ (Jd z1) :: v7_ (Aaj z1) :: .box 36 [.os 17, .os 18, .os 19, .os 20] :: zp y9.1 [v6_ y9.2.1])
def Af9  (z1 : Sg9) : St := [(0, dO 0 0), (4, dO 9 0), (6, dO 16 0)]
def Ai7 (y1 : Ab × Int) (y9 : Ab × (List Ao) × Int) (z1 : Sg9) : List Res := (.box 100 [I z1.1, .os 1, .os 2, .os 3, .os 4, .os 5, .os 6, I z1.2.1, DS Bi z1.2.2.1, DS Bt (g3_ z1), DS q65 (g4_ z1), I (g5_ z1), I (g6_ z1), .os 14, .os 15] :: v2_ (g7_ z1) :: v4_ (g8_ z1) :: v0_ (g9_ z1) :: v3_ (Ch z1) :: v5_ (D_ z1) :: v1_ (Ey z1) :: .non :: .non :: .box 36 [.os 10, .os 11, .os 12, .os 13] :: v2_ (Ek z1) :: v4_ y1.1.Ac :: v0_ (Q5 z1) :: v3_ y1.1.Aq :: v1_ (Jd z1) :: v7_ (Aaj z1) :: .box 36 [.os 17, .os 18, .os 19, .os 20] :: zp y9.1 [])
set_option maxHeartbeats 4000000 in
theorem Ayy (x0 : A6) (x1 : Ao) (r : A6) (h : Ww x0 x1 = some r) : CO 64 [.d (.o 0 0), .agg (d49 x1)] (.box 100 (I x0.Av.Time :: .os 1 :: .os 2 :: .os 3 :: .os 4 :: .os 5 :: .os 6 :: zb x0.Al [.os 7, .os 8]) :: zp x0.Av.Power [v5_ x0.Av.A5, v1_ x0.Av.A4, v1_ x0.events, v7_ x0.states]) (.tup []) (.box 100 (I r.Av.Time :: .os 9 :: .os 10 :: .os 11 :: .os 12 :: .os 5 :: .os 6 :: zb r.Al [.os 13, .os 14]) :: .non :: .non :: .non :: .non :: v5_ r.Av.A5 :: v1_ r.Av.A4 :: .non :: .non :: zp r.Av.Power [v1_ r.events, v7_ r.states]) := by
 unfold Ww at h
 refine co 92 Tryz.func64 λ C hC => ?_
 obtain ⟨y1, h2, h⟩ := Ad h
 refine ws F0 28 [] [⟨.flts [.box 36 [.p (.v (.slice none 0 0)), .p (.v (.slice none 0 0)), .p (.v (.slice none 0 0)), .p (.v (.slice none 0 0))]], trivial⟩, ⟨.call 83 [.agg (d29 x0.Al), .agg [.os 0, .os 1, .os 2, .os 3], dI x0.Av.Time, .agg (d49 x1)] (zp x0.Av.Power []) (.tup [.agg [.os 4, .os 5, .os 6, .os 7], dI y1.2]) (zp x0.Av.Power (zp y1.1 [])) [1, 2, 3, 4], ⟨e83, ((k83 x0.Al x0.Av.Power x0.Av.Time x1 _ h2).lend (by kernel_rfl) (by kernel_rfl) (by kernel_rfl) ⟨Be (λ _ => rfl), Be (λ _ => rfl), Be (λ _ => rfl), Be (λ _ => rfl), trivial⟩ (by kernel_rfl) (by kernel_rfl))⟩⟩, ⟨.flt 10 (.box 36 [.p (.v (.slice none 0 0)), .p (.v (.slice none 0 0)), .p (.v (.slice none 0 0)), .p (.v (.slice none 0 0))]) (.box 36 [.p (.v (.slice none 0 0)), .p (.v (.slice none 0 0)), .p (.v (.slice none 0 0)), .p (.v (.slice none 0 0))]), rfl⟩] [] 9 Fz [(0, dO 0 0), (3, dO 9 0), (4, dO 10 0), (5, dI y1.2), (32, dB (x1.Kind == 7))] (.box 100 (I x0.Av.Time :: .os 1 :: .os 2 :: .os 3 :: .os 4 :: .os 5 :: .os 6 :: zb x0.Al [.os 7, .os 8]) :: zp x0.Av.Power (v5_ x0.Av.A5 :: v1_ x0.Av.A4 :: v1_ x0.events :: v7_ x0.states :: .box 49 (d49 x1) :: .box 36 [.os 11, .os 12, .os 13, .os 14] :: zp y1.1 [])) hC [] ?_
 obtain ⟨w0, h, hret0, hnext0⟩ := Au h
 refine wc w0 (X9) (Y2 x0 x1 y1) ?_ λ z0 hs0 => ?_
 ·unfold Zt at h
  rcases cB h with ⟨h3, h⟩ | ⟨h3, h⟩
  ·exact wx w0 (X9) (Y2 x0 x1 y1) F0 23 [true] [] [] 9 Fz 1 hC [pq h3] (sI h).symm
  ·exact wx w0 (X9) (Y2 x0 x1 y1) F0 23 [false] [] [] 9 Fz y1.2 hC [pq h3] (sI h).symm
 ·clear h; have h := hnext0 _ hs0
  obtain ⟨y4, h5, h⟩ := Ad h
  refine ws F0 26 [] [pc Aui (Atp x0 x1 z0 _ h5) n9_] [] 9 [0, 1, 2, 3, 4, 5, 6, 7, 8, 10, 11, 12, 13, 14, 15] [(0, dO 0 0), (4, dO 9 0), (38, dB (z0 != 0))] (.box 100 (I y4.Av.Time :: .os 1 :: .os 2 :: .os 3 :: .os 4 :: .os 5 :: .os 6 :: zb y4.Al [.os 14, .os 8]) :: zp y4.Av.Power (v5_ y4.Av.A5 :: v1_ y4.Av.A4 :: .non :: v7_ y4.states :: .box 36 [.os 10, .os 11, .os 12, .os 13] :: zp y1.1 [v1_ y4.events])) hC [] ?_
  rcases cB h with ⟨h6, h⟩ | ⟨h6, h⟩
  ·replace h := sI h
   subst h
   exact wr F0 22 [true] [] [.mv 1, .mv 2, .mv 3, .mv 4, .mv 8] 9 [0, 1, 2, 3, 4, 5, 6, 7, 8, 15, 16, 17, 18, 14, 19] hC [pq h6]
  ·obtain ⟨y7, h8, h⟩ := Ad h
   obtain ⟨y9, h10, h⟩ := Ad h
   refine ws F0 30 [false] [pc Aev (Aeu y4 y1.1 _ h8) [0, 1, 2, 3, 4, 5, 6, 14, 8, 10, 11, 12, 13], ⟨.flts [.box 36 [.p (.v (.slice none 0 0)), .p (.v (.slice none 0 0)), .p (.v (.slice none 0 0)), .p (.v (.slice none 0 0))]], trivial⟩, ⟨.call 125 [.agg (d29 y7.Al), .agg [.os 0, .os 1, .os 2, .os 3]] (zp y1.1 []) (.tup [.agg [.os 4, .os 5, .os 6, .os 7], dS 8, dI y9.2.2]) (zp y1.1 (zp y9.1 [v6_ y9.2.1])) [10, 11, 12, 13], ⟨A9u, ((A8d y7.Al y1.1 _ h10).lend (by kernel_rfl) (by kernel_rfl) (by kernel_rfl) ⟨Be (λ _ => rfl), Be (λ _ => rfl), Be (λ _ => rfl), Be (λ _ => rfl), Be (λ _ => rfl), trivial⟩ (by kernel_rfl) (by kernel_rfl))⟩⟩, ⟨.flt 16 (.box 36 [.p (.v (.slice none 0 0)), .p (.v (.slice none 0 0)), .p (.v (.slice none 0 0)), .p (.v (.slice none 0 0))]) (.box 36 [.p (.v (.slice none 0 0)), .p (.v (.slice none 0 0)), .p (.v (.slice none 0 0)), .p (.v (.slice none 0 0))]), rfl⟩, pl q49 y9.2.1] [] 9 A63 (Qh y9 0 (y7.Av.Time, zt y7.Al (zu y7.Av.Power (y7.Av.A5, y7.Av.A4, y1.1.Ah, y7.events, y7.states, y1.1.As)))) (Wt y1 y9 0 (y7.Av.Time, zt y7.Al (zu y7.Av.Power (y7.Av.A5, y7.Av.A4, y1.1.Ah, y7.events, y7.states, y1.1.As)))) hC [pq h6] ?_
   obtain ⟨w1, hm1, hret1, hnext1⟩ := Au h
   clear h
   refine wc w1 (Af9) (Ai7 y1 y9) ?_ λ z1 hs1 => ?_
   ·refine wb ?_
    refine Cj 52 21 rfl rfl λ hl1 => ?_
    refine A7 (by kernel_rfl) (Rx y1) (Qh y9) (Wt y1 y9) w1 y9.2.1 (y7.Av.Time, zt y7.Al (zu y7.Av.Power (y7.Av.A5, y7.Av.A4, y1.1.Ah, y7.events, y7.states, y1.1.As))) hm1 rfl rfl (λ z1 hn1 => ?_) λ n1 a1 z1 w1b hi1 hx1 h hb1 hr1 => ?_
    ·clear hm1
     exact wx w1 (Af9) (Ai7 y1 y9) F0 26 [false] [] [] 9 A64 (z1.1, z1.2.1, z1.2.2.1, (g3_ z1), (g4_ z1), (g5_ z1), (g6_ z1), (g7_ z1), (g8_ z1), (g9_ z1), (Ch z1), (D_ z1), (Ey z1), (Ek z1), (Jd z1), (Aaj z1), (Q5 z1)) hC [pq (Bb hl1)] hn1
    ·unfold Rx at h
     obtain ⟨y11, h12, h⟩ := Ad h
     refine ws F0 35 [true] [pr q49 (Bl hx1 hl1), pn q49 (Bl hx1 hl1), pc Aui (Atp (⟨(⟨z1.1, (⟨(g7_ z1), (g8_ z1), (g9_ z1), (Ch z1)⟩ : Ab), (D_ z1), (Ey z1)⟩ : A0), (⟨z1.2.1, z1.2.2.1, (g3_ z1), (g4_ z1), (g5_ z1), (g6_ z1)⟩ : Aa), (Jd z1), (Aaj z1)⟩ : A6) a1 0 _ h12) [0, 1, 2, 3, 4, 5, 6, 14, 15]] [] 9 [0, 1, 2, 3, 4, 5, 6, 7, 8, 9, 10, 11, 12, 13, 15, 16, 17, 18, 19, 20, 21, 22, 23] [(0, dO 0 0), (4, dO 9 0), (6, dO 15 0), (10, dO 21 0), (52, dS 20), (53, dI (ln y9.2.1)), (54, dI (cnt 0 n1)), (63, dB (a1.Kind == 2))] (.box 100 (I y11.Av.Time :: .os 1 :: .os 2 :: .os 3 :: .os 4 :: .os 5 :: .os 6 :: zb y11.Al [.os 22, .os 14]) :: zp y11.Av.Power (v5_ y11.Av.A5 :: v1_ y11.Av.A4 :: .non :: .non :: .box 36 [.os 10, .os 11, .os 12, .os 13] :: v2_ (Ek z1) :: v4_ y1.1.Ac :: v0_ (Q5 z1) :: v3_ y1.1.Aq :: v7_ y11.states :: .box 36 [.os 16, .os 17, .os 18, .os 19] :: zp y9.1 [v6_ y9.2.1, .box 49 (d49 a1), v1_ y11.events])) hC [pq (A8 hi1 hl1)] ?_
     rcases cB h with ⟨h13, h⟩ | ⟨h13, h⟩
     ·obtain ⟨y14, h15, h⟩ := Ad h
      obtain ⟨y16, h17, h⟩ := Ad h
      obtain ⟨y18, h19, h⟩ := Ad h
      exact wx w1b (Qh y9 (n1 + 1)) (Wt y1 y9 (n1 + 1)) F0 26 [true] [pr pB h15, pu pB h15 h17, pc Aev (Aeu y11 (⟨y16, y1.1.Ac, (Q5 z1), y1.1.Aq⟩ : Ab) _ h19) [0, 1, 2, 3, 4, 5, 6, 22, 14, 10, 11, 12, 13]] [] 9 [0, 1, 2, 3, 4, 5, 6, 7, 8, 9, 10, 11, 12, 13, 22, 23, 15, 16, 17, 18, 19, 20] (y18.Av.Time, zt y18.Al (zu y18.Av.Power (y18.Av.A5, y18.Av.A4, y16, y18.events, y18.states, (Q5 z1)))) hC [pq h13] (sI h).symm
     ·obtain ⟨y20, h21, h⟩ := Ad h
      obtain ⟨y22, h23, h⟩ := Ad h
      obtain ⟨y24, h25, h⟩ := Ad h
      exact wx w1b (Qh y9 (n1 + 1)) (Wt y1 y9 (n1 + 1)) F0 26 [false] [pr pI h21, pu pI h21 h23, pc Aev (Aeu y11 (⟨(Ek z1), y1.1.Ac, y22, y1.1.Aq⟩ : Ab) _ h25) [0, 1, 2, 3, 4, 5, 6, 22, 14, 10, 11, 12, 13]] [] 9 [0, 1, 2, 3, 4, 5, 6, 7, 8, 9, 10, 11, 12, 13, 22, 23, 15, 16, 17, 18, 19, 20] (y24.Av.Time, zt y24.Al (zu y24.Av.Power (y24.Av.A5, y24.Av.A4, (Ek z1), y24.events, y24.states, y22))) hC [pq h13] (sI h).symm
   ·have h := hnext1 _ hs1
    obtain ⟨y26, h27, h⟩ := Ad h
    refine ws F0 24 [] [pb e60 (k60 (⟨(Ek z1), y1.1.Ac, (Q5 z1), y1.1.Aq⟩ : Ab) y9.1 _ h27)] [] 9 [0, 1, 2, 3, 4, 5, 6, 7, 8, 14, 15, 16, 17, 18, 19, 20] [(0, dO 0 0), (6, dO 11 0), (83, dB (!y26))] (.box 100 [I z1.1, .os 1, .os 2, .os 3, .os 4, .os 5, .os 6, I z1.2.1, DS Bi z1.2.2.1, DS Bt (g3_ z1), DS q65 (g4_ z1), I (g5_ z1), I (g6_ z1), .os 9, .os 10] :: v2_ (g7_ z1) :: v4_ (g8_ z1) :: v0_ (g9_ z1) :: v3_ (Ch z1) :: v5_ (D_ z1) :: v1_ (Ey z1) :: .non :: .non :: v1_ (Jd z1) :: v7_ (Aaj z1) :: .box 36 [.os 12, .os 13, .os 14, .os 15] :: zp y9.1 []) hC [] ?_
    rcases cB h with ⟨h28, h⟩ | ⟨h28, h⟩
    ·obtain ⟨y29, h30, h⟩ := Ad h
     replace h := sI h
     subst h
     exact wf F0 23 [true] [pc Aev (Aeu (⟨(⟨z1.1, (⟨(g7_ z1), (g8_ z1), (g9_ z1), (Ch z1)⟩ : Ab), (D_ z1), (Ey z1)⟩ : A0), (⟨z1.2.1, z1.2.2.1, (g3_ z1), (g4_ z1), (g5_ z1), (g6_ z1)⟩ : Aa), (Jd z1), (Aaj z1)⟩ : A6) y9.1 _ h30) [0, 1, 2, 3, 4, 5, 6, 9, 10, 12, 13, 14, 15]] [.frz 1, .frz 2, .frz 3, .frz 4] 9 [0, 1, 2, 3, 4, 5, 6, 7, 8, 12, 13, 14, 15, 9, 16] hC [pq h28]
    ·replace h := sI h
     subst h
     exact wf F0 23 [false] [] [.frz 1, .frz 2, .frz 3, .frz 4] 9 [0, 1, 2, 3, 4, 5, 6, 7, 8, 12, 13, 14, 15, 9, 10] hC [pq h28]
theorem Ay3 : EN 64 := en Tryz.func64
def I4 : List Nat := [0, 1, 3, 4, 6, 7, 8, 9, 12, 28, 29, 30, 31, 55, 89, 90, 91, 92]
def Qg (y3 : (List Aj)) (n0 : Nat) (z0 : Aay) : St := [(0, dO 0 0), (3, dO 9 0), (4, dS 10), (28, dS 11), (29, dI (ln y3)), (30, dI (cnt 0 n0))]
def Ws (x1 : Bh) (y3 : (List Aj)) (n0 : Nat) (z0 : Aay) : List Res := [.box 100 [I z0.1, .os 12, .os 13, .os 14, .os 15, .os 16, .os 17, I z0.2.1, DS Bi z0.2.2.1, DS Bt (g3_ z0), DS q65 (g4_ z0), I (g5_ z0), I (g6_ z0), .os 18, .os 19], .non, .non, .non, .non, .non, .non, .non, .non, .box 31 (d31 x1), v5_ (g7_ z0), v8_ y3, v2_ (g8_ z0), v4_ (g9_ z0), v0_ (Ch z0), v3_ (D_ z0), v5_ (Ey z0), v1_ (Ek z0), v1_ (Jd z0), v7_ (Nu z0)]
def Af8  (z0 : Aay) : St := [(0, dO 0 0), (4, dS 9)]
def Ai6  (z0 : Aay) : List Res := [.box 100 [I z0.1, .os 10, .os 11, .os 12, .os 13, .os 14, .os 15, I z0.2.1, DS Bi z0.2.2.1, DS Bt (g3_ z0), DS q65 (g4_ z0), I (g5_ z0), I (g6_ z0), .os 16, .os 17], .non, .non, .non, .non, .non, .non, .non, .non, v5_ (g7_ z0), v2_ (g8_ z0), v4_ (g9_ z0), v0_ (Ch z0), v3_ (D_ z0), v5_ (Ey z0), v1_ (Ek z0), v1_ (Jd z0), v7_ (Nu z0)]
def X4 (y3 : (List Aj)) (n0 : Nat) (y12 : Az × (List Ao) × Int) (n1 : Nat) (z1 : Ld) : St := [(0, dO 0 0), (3, dO 9 0), (4, dS 10), (28, dS 11), (29, dI (ln y3)), (30, dI (cnt 0 n0)), (89, .d (DS q49 y12.2.1)), (90, dI (ln y12.2.1)), (91, dI (cnt 0 n1))]
def Aa2 (x1 : Bh) (y3 : (List Aj)) (y16 : List Az) (n1 : Nat) (z1 : Ld) : List Res := [.box 100 [I z1.1, .os 12, .os 13, .os 14, .os 15, .os 16, .os 17, I z1.2.1, DS Bi z1.2.2.1, DS Bt (g3_ z1), DS q65 (g4_ z1), I (g5_ z1), I (g6_ z1), .os 18, .os 19], .non, .non, .non, .non, .non, .non, .non, .non, .box 31 (d31 x1), v5_ y16, v8_ y3, v2_ (g7_ z1), v4_ (g8_ z1), v0_ (g9_ z1), v3_ (Ch z1), v5_ (D_ z1), v1_ (Ey z1), v1_ (Ek z1), v7_ (Kc z1)]
def Af7 (y3 : (List Aj)) (n0 : Nat) (z1 : Ld) : St := [(0, dO 0 0), (3, dO 9 0), (4, dS 10), (28, dS 11), (29, dI (ln y3)), (30, dI (cnt 0 n0))]
def Ai5 (x1 : Bh) (y3 : (List Aj)) (y16 : List Az) (z1 : Ld) : List Res := [.box 100 [I z1.1, .os 12, .os 13, .os 14, .os 15, .os 16, .os 17, I z1.2.1, DS Bi z1.2.2.1, DS Bt (g3_ z1), DS q65 (g4_ z1), I (g5_ z1), I (g6_ z1), .os 18, .os 19], .non, .non, .non, .non, .non, .non, .non, .non, .box 31 (d31 x1), v5_ y16, v8_ y3, v2_ (g7_ z1), v4_ (g8_ z1), v0_ (g9_ z1), v3_ (Ch z1), v5_ (D_ z1), v1_ (Ey z1), v1_ (Ek z1), v7_ (Kc z1)]
theorem A5r (x0 : A6) (x1 : Bh) (r : A6) (h : vD x0 x1 = some r) : CO 82 [.d (.o 0 0), .agg (d31 x1)] (.box 100 (I x0.Av.Time :: .os 1 :: .os 2 :: .os 3 :: .os 4 :: .os 5 :: .os 6 :: zb x0.Al [.os 7, .os 8]) :: zp x0.Av.Power [v5_ x0.Av.A5, v1_ x0.Av.A4, v1_ x0.events, v7_ x0.states]) (.tup []) (.box 100 (I r.Av.Time :: .os 9 :: .os 10 :: .os 11 :: .os 12 :: .os 13 :: .os 14 :: zb r.Al [.os 15, .os 16]) :: .non :: .non :: .non :: .non :: .non :: .non :: .non :: .non :: zp r.Av.Power [v5_ r.Av.A5, v1_ r.Av.A4, v1_ r.events, v7_ r.states]) := by
 unfold vD at h
 refine co 105 Tryz.func82 λ C hC => ?_
 obtain ⟨y1, h2, h⟩ := Ad h
 obtain ⟨y3, h4, h⟩ := Ad h
 refine ws I4 28 [] [pc e86 (k86 x0.Al.Am _ h2) [], pc Ay2 (Ayx x0.Al x0.Av.Power _ h4) [1, 2, 3, 4], pl q84 y3] [.mv 1, .mv 2, .mv 3, .mv 4, .mv 5, .mv 6, .mv 7, .mv 8] 9 Oj (Qg y3 0 (x0.Av.Time, zt x0.Al (y1, zu x0.Av.Power (x0.Av.A5, x0.Av.A4, x0.events, x0.states)))) (Ws x1 y3 0 (x0.Av.Time, zt x0.Al (y1, zu x0.Av.Power (x0.Av.A5, x0.Av.A4, x0.events, x0.states)))) hC [] ?_
 obtain ⟨w0, hm0, hret0, hnext0⟩ := Au h
 clear h
 refine wc w0 (Af8) (Ai6) ?_ λ z0 hs0 => ?_
 ·refine wb ?_
  refine Cj 28 11 rfl rfl λ hl0 => ?_
  refine A7 (by kernel_rfl) (Rw x1) (Qg y3) (Ws x1 y3) w0 y3 (x0.Av.Time, zt x0.Al (y1, zu x0.Av.Power (x0.Av.A5, x0.Av.A4, x0.events, x0.states))) hm0 rfl rfl (λ z0 hn0 => ?_) λ n0 a0 z0 w0b hi0 hx0 h hb0 hr0 => ?_
  ·clear hm0
   exact wx w0 (Af8) (Ai6) I4 26 [false] [] [] 9 [0, 1, 2, 3, 4, 5, 6, 7, 8, 10, 12, 13, 14, 15, 16, 17, 18, 19] (z0.1, z0.2.1, z0.2.2.1, (g3_ z0), (g4_ z0), (g5_ z0), (g6_ z0), (g7_ z0), (g8_ z0), (g9_ z0), (Ch z0), (D_ z0), (Ey z0), (Ek z0), (Jd z0), (Nu z0)) hC [pq (Bb hl0)] hn0
  ·unfold Rw at h
   obtain ⟨y5, h6, h⟩ := Ad h
   obtain ⟨y7, h8, h⟩ := Ad h
   refine ws I4 35 [true] [pr q84 (Bl hx0 hl0), pn q84 (Bl hx0 hl0), pr pI h6, pl pI a0.Ac, pv Ap7 (λ hg => Apu (⟨z0.2.1, z0.2.2.1, (g3_ z0), (g4_ z0), (g5_ z0), (g6_ z0)⟩ : Aa) (⟨(g8_ z0), (g9_ z0), (Ch z0), (D_ z0)⟩ : Ab) y5 _ (Ba h8 hg))] [] 9 Oj [(0, dO 0 0), (3, dO 9 0), (4, dS 10), (7, dI y5), (28, dS 11), (29, dI (ln y3)), (30, dI (cnt 0 n0)), (55, dB (Ano a0 y7))] [.box 100 [I z0.1, .os 12, .os 13, .os 14, .os 15, .os 16, .os 17, I z0.2.1, DS Bi z0.2.2.1, DS Bt (g3_ z0), DS q65 (g4_ z0), I (g5_ z0), I (g6_ z0), .os 18, .os 19], .non, .non, .non, .non, .non, .non, .non, .non, .box 31 (d31 x1), v5_ (g7_ z0), v8_ y3, v2_ (g8_ z0), v4_ (g9_ z0), v0_ (Ch z0), v3_ (D_ z0), v5_ (Ey z0), v1_ (Ek z0), v1_ (Jd z0), v7_ (Nu z0)] hC [pq (A8 hi0 hl0)] ?_
   rcases cB h with ⟨h9, h⟩ | ⟨h9, h⟩
   ·exact wx w0b (Qg y3 (n0 + 1)) (Ws x1 y3 (n0 + 1)) I4 24 [true] [] [] 9 Oj (z0.1, z0.2.1, z0.2.2.1, (g3_ z0), (g4_ z0), (g5_ z0), (g6_ z0), (g7_ z0), (g8_ z0), (g9_ z0), (Ch z0), (D_ z0), (Ey z0), (Ek z0), (Jd z0), (Nu z0)) hC [pq h9] (sI h).symm
   ·obtain ⟨y10, h11, h⟩ := Ad h
    obtain ⟨y12, h13, h⟩ := Ad h
    obtain ⟨y14, h15, h⟩ := Ad h
    obtain ⟨y16, h17, h⟩ := Ad h
    refine ws I4 29 [false] [⟨.flts [.box 130 [I 0, I 0]], trivial⟩, pr B1 h11, pn B1 h11, pc A4l (A2q (⟨z0.2.1, z0.2.2.1, (g3_ z0), (g4_ z0), (g5_ z0), (g6_ z0)⟩ : Aa) x1 (⟨(g8_ z0), (g9_ z0), (Ch z0), (D_ z0)⟩ : Ab) y5 z0.1 y10 _ h13) [12, 13, 14, 15], ⟨.flt 20 (.box 130 [I 0, I 0]) (.box 130 [I 0, I 0]), rfl⟩, pr B1 h15, pu B1 h15 h17, pl q49 y12.2.1] [] 9 Oj (X4 y3 n0 y12 0 (z0.1, z0.2.1, z0.2.2.1, (g3_ z0), (g4_ z0), (g5_ z0), (g6_ z0), (g8_ z0), (g9_ z0), (Ch z0), (D_ z0), (Ey z0), (Ek z0), (Jd z0), (Nu z0))) (Aa2 x1 y3 y16 0 (z0.1, z0.2.1, z0.2.2.1, (g3_ z0), (g4_ z0), (g5_ z0), (g6_ z0), (g8_ z0), (g9_ z0), (Ch z0), (D_ z0), (Ey z0), (Ek z0), (Jd z0), (Nu z0))) hC [pq h9] ?_
    obtain ⟨w1, hm1, hret1, hnext1⟩ := Au h
    clear h
    refine wc w1 (Af7 y3 n0) (Ai5 x1 y3 y16) ?_ λ z1 hs1 => ?_
    ·refine wb ?_
     refine Bn 89 rfl λ hl1 => ?_
     refine A7 (by kernel_rfl) Mz (X4 y3 n0 y12) (Aa2 x1 y3 y16) w1 y12.2.1 (z0.1, z0.2.1, z0.2.2.1, (g3_ z0), (g4_ z0), (g5_ z0), (g6_ z0), (g8_ z0), (g9_ z0), (Ch z0), (D_ z0), (Ey z0), (Ek z0), (Jd z0), (Nu z0)) hm1 rfl rfl (λ z1 hn1 => ?_) λ n1 a1 z1 w1b hi1 hx1 h hb1 hr1 => ?_
     ·clear hm1
      exact wx w1 (Af7 y3 n0) (Ai5 x1 y3 y16) I4 26 [false] [] [] 9 Oj (z1.1, z1.2.1, z1.2.2.1, (g3_ z1), (g4_ z1), (g5_ z1), (g6_ z1), (g7_ z1), (g8_ z1), (g9_ z1), (Ch z1), (D_ z1), (Ey z1), (Ek z1), (Kc z1)) hC [pq (Bb hl1)] hn1
     ·unfold Mz at h
      obtain ⟨y18, h19, h⟩ := Ad h
      exact wx w1b (X4 y3 n0 y12 (n1 + 1)) (Aa2 x1 y3 y16 (n1 + 1)) I4 33 [true] [pt hx1 hl1, pc Ay3 (Ayy (⟨(⟨z1.1, (⟨(g7_ z1), (g8_ z1), (g9_ z1), (Ch z1)⟩ : Ab), (D_ z1), (Ey z1)⟩ : A0), (⟨z1.2.1, z1.2.2.1, (g3_ z1), (g4_ z1), (g5_ z1), (g6_ z1)⟩ : Aa), (Ek z1), (Kc z1)⟩ : A6) a1 _ h19) [0, 12, 13, 14, 15, 16, 17, 18, 19]] [] 9 [0, 1, 2, 3, 4, 5, 6, 7, 8, 9, 10, 11, 21, 22, 23, 24, 16, 17, 25, 26] (y18.Av.Time, zt y18.Al (zu y18.Av.Power (y18.Av.A5, y18.Av.A4, y18.events, y18.states))) hC [pq (A8 hi1 hl1)] (sI h).symm
    ·have h := hnext1 _ hs1
     exact wx w0b (Qg y3 (n0 + 1)) (Ws x1 y3 (n0 + 1)) I4 23 [] [] [] 9 Oj (z1.1, z1.2.1, z1.2.2.1, (g3_ z1), (g4_ z1), (g5_ z1), (g6_ z1), y16, (g7_ z1), (g8_ z1), (g9_ z1), (Ch z1), (D_ z1), (Ey z1), (Ek z1), (Kc z1)) hC [] (sI h).symm
 ·have h := hnext0 _ hs0
  replace h := sI h
  subst h
  exact wf I4 21 [] [] [] 9 [0, 1, 2, 3, 4, 5, 6, 7, 8, 10, 11, 12, 13, 9, 15, 16, 17] hC []
theorem A6c : EN 82 := en Tryz.func82
def Aab : List Nat := [0, 1, 2, 3, 4, 5, 6, 8, 9, 10, 11, 13, 14, 19, 23, 27, 38, 39, 40, 41]
def Afw (x3 : List Ao) (n0 : Nat) (z0 : Ld) : St := [(4, dO 0 0), (5, dO 1 0), (8, .d (.p (.v (.pointer none)))), (9, dI 0), (11, dO 2 0), (38, .d (DS q49 x3)), (39, dI (ln x3)), (40, dI (cnt 0 n0))]
def Arb (x0 : Aa) (x1 : Bh) (n0 : Nat) (z0 : Ld) : List Res := [.box 29 (d29 x0), .box 31 (d31 x1), .box 100 [I z0.1, .os 3, .os 4, .os 5, .os 6, .os 7, .os 8, I z0.2.1, DS Bi z0.2.2.1, DS Bt (g3_ z0), DS q65 (g4_ z0), I (g5_ z0), I (g6_ z0), .os 9, .os 10], v2_ (g7_ z0), v4_ (g8_ z0), v0_ (g9_ z0), v3_ (Ch z0), v5_ (D_ z0), v1_ (Ey z0), v1_ (Ek z0), v7_ (Kc z0)]
def As0  (z0 : Ld) : St := [(4, dO 0 0), (5, dO 1 0), (8, .d (.p (.v (.pointer none)))), (9, dI 0), (11, dO 2 0)]
def Avt (x0 : Aa) (x1 : Bh) (z0 : Ld) : List Res := [.box 29 (d29 x0), .box 31 (d31 x1), .box 100 [I z0.1, .os 3, .os 4, .os 5, .os 6, .os 7, .os 8, I z0.2.1, DS Bi z0.2.2.1, DS Bt (g3_ z0), DS q65 (g4_ z0), I (g5_ z0), I (g6_ z0), .os 9, .os 10], v2_ (g7_ z0), v4_ (g8_ z0), v0_ (g9_ z0), v3_ (Ch z0), v5_ (D_ z0), v1_ (Ey z0), v1_ (Ek z0), v7_ (Kc z0)]
theorem k34 (x0 : Aa) (x1 : Bh) (x2 : A0) (x3 : List Ao) (r : A6 × Int) (h : F34 x0 x1 x2 x3 = some r) : CO 34 [.agg (d29 x0), .agg (d31 x1), .agg (d40 x2), .d (DS q49 x3)] [] (.tup [.d (.o 0 0), .d (I r.2)]) (.box 100 (I r.1.Av.Time :: .os 1 :: .os 2 :: .os 3 :: .os 4 :: .os 5 :: .os 6 :: zb r.1.Al [.os 7, .os 8]) :: zp r.1.Av.Power [v5_ r.1.Av.A5, v1_ r.1.Av.A4, v1_ r.1.events, v7_ r.1.states]) := by
 unfold F34 at h
 refine co 109 Tryz.func34 λ C hC => ?_
 obtain ⟨y1, h2, h⟩ := Ad h
 refine ws Aab 29 [] [pc e21 (k21 x0 x1 x2 _ h2) []] [] 0 n3_ [(3, .d (DS q49 x3)), (4, dO 0 0), (5, dO 1 0), (6, dO 2 0), (8, .d (.p (.v (.pointer none)))), (9, dI 0), (10, dI y1), (19, dB (y1 != 0))] [.box 29 (d29 x0), .box 31 (d31 x1), .box 40 (d40 x2)] hC [] ?_
 rcases cB h with ⟨h3, h⟩ | ⟨h3, h⟩
 ·cases h
 ·rcases cB h with ⟨h4, h⟩ | ⟨h4, h⟩
  ·cases h
  ·rcases cB h with ⟨h5, h⟩ | ⟨h5, h⟩
   ·cases h
   ·obtain ⟨y6, h7, h⟩ := Ad h
    obtain ⟨y8, h9, h⟩ := Ad h
    refine ws Aab 37 [false, false, false] [pl q49 x3, pc e63 (k63 x0 x2 _ h7) [], pc A6e (A5t y6 x2.Power _ h9) [3, 4, 5, 6, 7, 8, 9, 10, 11], pl q49 x3] [] 0 [0, 1, 3, 4, 5, 6, 7, 8, 9, 10, 12] (Afw x3 0 (y8.Av.Time, zt y8.Al (zu y8.Av.Power (y8.Av.A5, y8.Av.A4, y8.events, y8.states)))) (Arb x0 x1 0 (y8.Av.Time, zt y8.Al (zu y8.Av.Power (y8.Av.A5, y8.Av.A4, y8.events, y8.states)))) hC [pq h3, pq h4, pq h5] ?_
    obtain ⟨w0, hm0, hret0, hnext0⟩ := Au h
    clear h
    refine wc w0 (As0) (Avt x0 x1) ?_ λ z0 hs0 => ?_
    ·refine wb ?_
     refine Bn 38 rfl λ hl0 => ?_
     refine A7 (by kernel_rfl) Akb (Afw x3) (Arb x0 x1) w0 x3 (y8.Av.Time, zt y8.Al (zu y8.Av.Power (y8.Av.A5, y8.Av.A4, y8.events, y8.states))) hm0 rfl rfl (λ z0 hn0 => ?_) λ n0 a0 z0 w0b hi0 hx0 h hb0 hr0 => ?_
     ·clear hm0
      exact wx w0 (As0) (Avt x0 x1) Aab 26 [false] [] [] 0 Aph (z0.1, z0.2.1, z0.2.2.1, (g3_ z0), (g4_ z0), (g5_ z0), (g6_ z0), (g7_ z0), (g8_ z0), (g9_ z0), (Ch z0), (D_ z0), (Ey z0), (Ek z0), (Kc z0)) hC [pq (Bb hl0)] hn0
     ·unfold Akb at h
      obtain ⟨y10, h11, h⟩ := Ad h
      exact wx w0b (Afw x3 (n0 + 1)) (Arb x0 x1 (n0 + 1)) Aab 33 [true] [pt hx0 hl0, pc Ay3 (Ayy (⟨(⟨z0.1, (⟨(g7_ z0), (g8_ z0), (g9_ z0), (Ch z0)⟩ : Ab), (D_ z0), (Ey z0)⟩ : A0), (⟨z0.2.1, z0.2.2.1, (g3_ z0), (g4_ z0), (g5_ z0), (g6_ z0)⟩ : Aa), (Ek z0), (Kc z0)⟩ : A6) a0 _ h11) [2, 3, 4, 5, 6, 7, 8, 9, 10]] [] 0 [0, 1, 2, 12, 13, 14, 15, 7, 8, 16, 17] (y10.Av.Time, zt y10.Al (zu y10.Av.Power (y10.Av.A5, y10.Av.A4, y10.events, y10.states))) hC [pq (A8 hi0 hl0)] (sI h).symm
    ·have h := hnext0 _ hs0
     obtain ⟨y12, h13, h⟩ := Ad h
     obtain ⟨y14, h15, h⟩ := Ad h
     obtain ⟨y16, h17, h⟩ := Ad h
     obtain ⟨y18, h19, h⟩ := Ad h
     refine ws Aab 11 [] [pc A6c (A5r (⟨(⟨z0.1, (⟨(g7_ z0), (g8_ z0), (g9_ z0), (Ch z0)⟩ : Ab), (D_ z0), (Ey z0)⟩ : A0), (⟨z0.2.1, z0.2.2.1, (g3_ z0), (g4_ z0), (g5_ z0), (g6_ z0)⟩ : Aa), (Ek z0), (Kc z0)⟩ : A6) x1 _ h13) [2, 3, 4, 5, 6, 7, 8, 9, 10], ⟨.call 83 [.agg (d29 x0), .agg [.os 0, .os 1, .os 2, .os 3], dI y12.Av.Time, .agg [I 7, I 0, I 0]] (zp y12.Av.Power []) (.tup [.agg [.os 4, .os 5, .os 6, .os 7], dI y14.2]) (zp y12.Av.Power (zp y14.1 [])) [11, 12, 13, 14], ⟨e83, ((k83 x0 y12.Av.Power y12.Av.Time (⟨7, 0, 0⟩ : Ao) _ h15).lend (by kernel_rfl) (by kernel_rfl) (by kernel_rfl) ⟨Be (λ _ => rfl), Be (λ _ => rfl), Be (λ _ => rfl), Be (λ _ => rfl), trivial⟩ (by kernel_rfl) (by kernel_rfl))⟩⟩, pc A6d (A5s (⟨(⟨y12.Av.Time, y14.1, y12.Av.A5, y12.Av.A4⟩ : A0), y12.Al, y12.events, y12.states⟩ : A6) y14.1 _ h17) [2, 19, 20, 21, 22, 15, 16, 17, 18], pa q51 5 h19] [.frz 24] 0 [2, 15, 16, 17, 19, 20, 21, 22, 23] [(8, .d (.p (.v (.pointer none)))), (9, dI 0), (11, dO 0 0), (14, .d (DS q51 y18))] (.box 100 (I (w64 (y16.Av.Time + 1)) :: .os 4 :: .os 5 :: .os 6 :: .os 7 :: .os 1 :: .os 2 :: zb y16.Al [.os 3, .os 8]) :: v5_ y16.Av.A5 :: .non :: v1_ y16.events :: zp y16.Av.Power [v7_ y16.states]) hC [] ?_
     obtain ⟨y21, h20, h⟩ := Ad h
     obtain ⟨y22, h23, h⟩ := Ad h
     replace h := sI h
     subst h
     exact wr Aab 24 [] [pl q51 y18, ⟨.cut (y18.map q51) 5 (max 0 (w64 ((ln y18) - 200))) (ln (y18.map q51)) (y21.map q51), Xx q51 5 (λ _ => rfl) h20⟩, pc e84 (k84 y21 _ h23) []] [] 0 [0, 4, 5, 6, 7, 1, 9, 3, 8] hC []
theorem e34 : EN 34 := en Tryz.func34
def Awy : List Nat := [0, 1, 2, 3, 4, 5, 6, 8, 9, 10, 11, 12, 22]
theorem k11 (x0 : Aa) (x1 : Bh) (x2 : A0) (x3 : List Ao) (r : A0 × (List A9) × Int) (h : F11 x0 x1 x2 x3 = some r) : CO 11 [.agg (d29 x0), .agg (d31 x1), .agg (d40 x2), .d (DS q49 x3)] [] (.tup [.agg [I r.1.Time, .os 0, .os 1, .os 2, .os 3, .os 4, .os 5], .d (.os 6), .d (I r.2.2)]) (zp r.1.Power [v5_ r.1.A5, v1_ r.1.A4, v1_ r.2.1]) := by
 unfold F11 at h
 refine co 33 Tryz.func11 λ C hC => ?_
 obtain ⟨y1, h2, h⟩ := Ad h
 refine ws Awy 28 [] [pc e34 (k34 x0 x1 x2 x3 _ h2) []] [.ownb 3 1 4 1, .ownb 3 2 120 4, .ownb 3 3 3 1, .ownb 3 4 86 2, .ownb 3 5 130 2, .ownb 3 6 51 5] 0 [3, 4, 5, 6, 7, 8, 9, 10, 11, 12, 13, 14, 15, 16, 17, 18] [(8, dO 0 0), (9, .d (DS q51 [])), (10, dI 0), (11, dO 1 0), (12, dI y1.2), (22, dB (y1.2 != 0))] (.box 40 [I 0, .os 10, .os 11, .os 12, .os 13, .os 14, .os 15] :: .box 100 (I y1.1.Av.Time :: .os 2 :: .os 3 :: .os 4 :: .os 5 :: .os 6 :: .os 7 :: zb y1.1.Al [.os 8, .os 9]) :: zp y1.1.Av.Power (v5_ y1.1.Av.A5 :: v1_ y1.1.Av.A4 :: v1_ y1.1.events :: v7_ y1.1.states :: ze [v5_ ([] : List Az), v1_ ([] : List A9)])) hC [] ?_
 rcases cB h with ⟨h3, h⟩ | ⟨h3, h⟩
 ·replace h := sI h
  subst h
  exact wr Awy 24 [true] [] [.ownb 0 1 4 1, .ownb 0 2 120 4, .ownb 0 3 3 1, .ownb 0 4 86 2, .ownb 0 5 130 2, .ownb 0 6 51 5, .own 9 51 5] 0 [16, 17, 18, 19, 20, 21, 22] hC [pq h3]
 ·replace h := sI h
  subst h
  exact wr Awy 25 [false] [] [] 0 [2, 3, 4, 5, 6, 7, 8] hC [pq h3]
theorem e11 : EN 11 := en Tryz.func11
theorem k13  (r : Bool) (h : F13  = some r) : CO 13 [] [] (.d (Bo r)) [] := by
 unfold F13 at h
 refine co 106 Tryz.func13 λ C hC => ?_
 obtain ⟨y1, h2, h⟩ := Ad h
 obtain ⟨y3, h4, h⟩ := Ad h
 obtain ⟨y5, h6, h⟩ := Ad h
 obtain ⟨y7, h8, h⟩ := Ad h
 obtain ⟨y9, h10, h⟩ := Ad h
 obtain ⟨y11, h12, h⟩ := Ad h
 obtain ⟨y13, h14, h⟩ := Ad h
 obtain ⟨y15, h16, h⟩ := Ad h
 replace h := sI h
 subst h
 exact wr [0, 1, 2, 3, 4, 6, 7, 8, 9, 10, 11] 35 [] [pc e35 (k35  _ rfl) [], pc e36 (k36 F35.1 F35.2 _ h2) [], ⟨.call 11 [.agg (d29 F35.1), .agg (d31 F35.2), .agg [I y1.1.Time, .os 0, .os 1, .os 2, .os 3, .os 4, .os 5], .d (DS q49 [(⟨3, 0, 0⟩ : Ao), (⟨3, 1, 0⟩ : Ao), (⟨1, 0, 0⟩ : Ao), (⟨1, 1, 0⟩ : Ao), (⟨1, 2, 0⟩ : Ao)])] (zp y1.1.Power [v5_ y1.1.A5, v1_ y1.1.A4]) (.tup [.agg [I y3.1.Time, .os 6, .os 7, .os 8, .os 9, .os 10, .os 11], dS 12, dI y3.2.2]) (zp y1.1.Power (v5_ y1.1.A5 :: v1_ y1.1.A4 :: zp y3.1.Power [v5_ y3.1.A5, v1_ y3.1.A4, v1_ y3.2.1])) [2, 3, 4, 5, 6, 7], ⟨e11, ((k11 F35.1 F35.2 y1.1 [(⟨3, 0, 0⟩ : Ao), (⟨3, 1, 0⟩ : Ao), (⟨1, 0, 0⟩ : Ao), (⟨1, 1, 0⟩ : Ao), (⟨1, 2, 0⟩ : Ao)] _ h4).lend (by kernel_rfl) (by kernel_rfl) (by kernel_rfl) ⟨Be (λ _ => rfl), Be (λ _ => rfl), Be (λ _ => rfl), Be (λ _ => rfl), Be (λ _ => rfl), Be (λ _ => rfl), Be (λ _ => rfl), trivial⟩ (by kernel_rfl) (by kernel_rfl))⟩⟩, ⟨.call 11 [.agg (d29 F35.1), .agg (d31 F35.2), .agg [I y3.1.Time, .os 0, .os 1, .os 2, .os 3, .os 4, .os 5], .d (DS q49 [(⟨8, 1, 1⟩ : Ao)])] (zp y3.1.Power [v5_ y3.1.A5, v1_ y3.1.A4]) (.tup [.agg [I y5.1.Time, .os 6, .os 7, .os 8, .os 9, .os 10, .os 11], dS 12, dI y5.2.2]) (zp y3.1.Power (v5_ y3.1.A5 :: v1_ y3.1.A4 :: zp y5.1.Power [v5_ y5.1.A5, v1_ y5.1.A4, v1_ y5.2.1])) [9, 10, 11, 12, 13, 14], ⟨e11, ((k11 F35.1 F35.2 y3.1 [(⟨8, 1, 1⟩ : Ao)] _ h6).lend (by kernel_rfl) (by kernel_rfl) (by kernel_rfl) ⟨Be (λ _ => rfl), Be (λ _ => rfl), Be (λ _ => rfl), Be (λ _ => rfl), Be (λ _ => rfl), Be (λ _ => rfl), Be (λ _ => rfl), trivial⟩ (by kernel_rfl) (by kernel_rfl))⟩⟩, ⟨.call 15 [.agg [I 0, I 1, DS q63 [(⟨2, 0, 1000, 0, 1, ([] : List Dc)⟩ : Bz)]], .agg (d29 F35.1), .agg [.os 0, .os 1, .os 2, .os 3]] (zp y5.1.Power []) (.tup [dS 4, dI y7.2]) (zp y5.1.Power [v0_ y7.1]) [16, 17, 18, 19], ⟨e15, ((k15 (⟨0, 1, [(⟨2, 0, 1000, 0, 1, ([] : List Dc)⟩ : Bz)]⟩ : Fp) F35.1 y5.1.Power _ h8).lend (by kernel_rfl) (by kernel_rfl) (by kernel_rfl) ⟨Be (λ _ => rfl), trivial⟩ (by kernel_rfl) (by kernel_rfl))⟩⟩, pL_ [((((((y1.2 == 0) && (y3.2.2 == 0)) && (y5.2.2 == 0)) && (y7.2 == 0)) && (y5.1.Time == 2)), true)] q51 y5.2.1, pv e37 (λ hg => k37 y5.1.Power.Ah [true, false, true] _ (Ba h10 hg)), pv e38 (λ hg => k38 y5.1.Power.As [50] _ (Ba h12 hg)), pv e38 (λ hg => k38 y7.1 [223] _ (Ba h14 hg)), pv e39 (λ hg => k39 F35.1 y5.1.Power _ (Ba h16 hg))] [] 0 [] hC []
theorem e13 : EN 13 := en Tryz.func13
def lv3 : List Nat := [0, 2, 3, 4, 5, 6, 7, 8, 9, 10, 11, 13, 35, 36, 37, 38, 39, 46, 59]
def Aeo (y7 : A0 × (List A9) × Int) (n0 : Nat) (z0 : Int) : St := [(2, dB false), (4, dO 9 0), (6, dO 10 0), (7, dS 11), (8, dO 19 0), (9, dS 18), (11, dI z0), (36, dS 18), (37, dI (ln y7.2.1)), (38, dI (cnt 0 n0))]
def Aq7 (y3 : Ai1) (y5 : (List Ao) × Ai) (y7 : A0 × (List A9) × Int) (n0 : Nat) (z0 : Int) : List Res := (zs y3.1 (zp y3.2.2.1.Power (v5_ y3.2.2.1.A5 :: v1_ y3.2.2.1.A4 :: .box 29 [I y3.1.Am, .os 0, .os 1, .os 2, I y3.1.Phase, I y3.1.Ap] :: .box 40 [I y3.2.2.1.Time, .os 3, .os 4, .os 5, .os 6, .os 7, .os 8] :: v6_ y5.1 :: zp y7.1.Power [v5_ y7.1.A5, v1_ y7.1.A4, v1_ y7.2.1, .box 40 [I y7.1.Time, .os 12, .os 13, .os 14, .os 15, .os 16, .os 17]])))
def Ayr  (z0 : Int) : St := [(2, dB false), (4, dO 3 0), (7, dS 4), (8, dO 12 0), (9, dS 11), (11, dI z0)]
def Azg (y3 : Ai1) (y5 : (List Ao) × Ai) (y7 : A0 × (List A9) × Int) (z0 : Int) : List Res := (zs y3.1 (.box 29 [I y3.1.Am, .os 0, .os 1, .os 2, I y3.1.Phase, I y3.1.Ap] :: v6_ y5.1 :: zp y7.1.Power [v5_ y7.1.A5, v1_ y7.1.A4, v1_ y7.2.1, .box 40 [I y7.1.Time, .os 5, .os 6, .os 7, .os 8, .os 9, .os 10]]))
theorem k3 (x0 : List Int) (r : Bool) (h : F3 x0 = some r) : CO 3 [.d (DS pI x0)] [] (.d (Bo r)) [] := by
 unfold F3 at h
 refine co 99 Tryz.func3 λ C hC => ?_
 obtain ⟨y1, h2, h⟩ := Ad h
 obtain ⟨y3, h4, h⟩ := Ad h
 obtain ⟨y5, h6, h⟩ := Ad h
 obtain ⟨y7, h8, h⟩ := Ad h
 refine ws lv3 34 [] [pc e8 (k8 x0 _ h2) [], pc e9 (k9 y1 _ h4) [0], pc A6m (A51 (C1 y3) y3.1 5 _ h6) n4_, ⟨.call 11 [.agg [I y3.1.Am, .os 0, .os 1, .os 2, I y3.1.Phase, I y3.1.Ap], .agg (d31 y3.2.1), .agg [I y3.2.2.1.Time, .os 3, .os 4, .os 5, .os 6, .os 7, .os 8], dS 9] (zs y3.1 (zp y3.2.2.1.Power [v5_ y3.2.2.1.A5, v1_ y3.2.2.1.A4, v6_ y5.1])) (.tup [.agg [I y7.1.Time, .os 10, .os 11, .os 12, .os 13, .os 14, .os 15], dS 16, dI y7.2.2]) (zs y3.1 (zp y3.2.2.1.Power (v5_ y3.2.2.1.A5 :: v1_ y3.2.2.1.A4 :: v6_ y5.1 :: zp y7.1.Power [v5_ y7.1.A5, v1_ y7.1.A4, v1_ y7.2.1]))) [1, 2, 3, 4, 5, 6, 7, 8, 9, 13], ⟨e11, ((k11 y3.1 y3.2.1 y3.2.2.1 y5.1 _ h8).lend (by kernel_rfl) (by kernel_rfl) (by kernel_rfl) ⟨Be (λ _ => rfl), Be (λ _ => rfl), Be (λ _ => rfl), Be (λ _ => rfl), Be (λ _ => rfl), Be (λ _ => rfl), Be (λ _ => rfl), trivial⟩ (by kernel_rfl) (by kernel_rfl))⟩⟩] [] 0 [1, 2, 3, 4, 5, 6, 7, 8, 9, 10, 12, 13, 14, 15, 16, 17, 18, 19, 20, 21] [(2, dB false), (4, dO 9 0), (6, dO 10 0), (7, dS 11), (8, dO 19 0), (9, dS 18), (35, dB (y7.2.2 != 0))] (zs y3.1 (zp y3.2.2.1.Power (v5_ y3.2.2.1.A5 :: v1_ y3.2.2.1.A4 :: .box 29 [I y3.1.Am, .os 0, .os 1, .os 2, I y3.1.Phase, I y3.1.Ap] :: .box 40 [I y3.2.2.1.Time, .os 3, .os 4, .os 5, .os 6, .os 7, .os 8] :: v6_ y5.1 :: zp y7.1.Power [v5_ y7.1.A5, v1_ y7.1.A4, v1_ y7.2.1, .box 40 [I y7.1.Time, .os 12, .os 13, .os 14, .os 15, .os 16, .os 17]]))) hC [] ?_
 rcases cB h with ⟨h9, h⟩ | ⟨h9, h⟩
 ·replace h := sI h
  subst h
  exact wr lv3 24 [true] [] [] 0 [] hC [pq h9]
 ·refine ws lv3 28 [false] [pl q51 y7.2.1] [] 0 Oj (Aeo y7 0 0) (Aq7 y3 y5 y7 0 0) hC [pq h9] ?_
  obtain ⟨w0, hm0, hret0, hnext0⟩ := Au h
  clear h
  refine wc w0 (Ayr) (Azg y3 y5 y7) ?_ λ z0 hs0 => ?_
  ·refine wb ?_
   refine Cj 36 18 rfl rfl λ hl0 => ?_
   refine A7 (by kernel_rfl) (vS y3 y5) (Aeo y7) (Aq7 y3 y5 y7) w0 y7.2.1 0 hm0 rfl rfl (λ z0 hn0 => ?_) λ n0 a0 z0 w0b hi0 hx0 h hb0 hr0 => ?_
   ·clear hm0
    exact wx w0 (Ayr) (Azg y3 y5 y7) lv3 26 [false] [] [] 0 [0, 1, 2, 9, 11, 12, 13, 14, 15, 16, 17, 18, 19] z0 hC [pq (Bb hl0)] hn0
   ·unfold vS at h
    rcases cB h with ⟨h10, h⟩ | ⟨h10, h⟩
    ·have hq := hret0 _ (hr0 _ (sI h).symm)
     replace hq := sI hq
     subst hq
     exact wr lv3 36 [true, true] [pr q51 (Bl hx0 hl0), pn q51 (Bl hx0 hl0)] [] 0 [] hC [pq (A8 hi0 hl0), pq h10]
    ·obtain ⟨y11, h12, h⟩ := Ad h
     refine ws lv3 37 [true, false] [pr q51 (Bl hx0 hl0), pn q51 (Bl hx0 hl0), pl q49 y5.1, pR q49 h12, pN q49 h12] [] 0 Oj [(2, dB false), (4, dO 9 0), (6, dO 10 0), (7, dS 11), (8, dO 19 0), (9, dS 18), (11, dI z0), (36, dS 18), (37, dI (ln y7.2.1)), (38, dI (cnt 0 n0)), (59, dB (Aaw y5 z0 a0 y11))] (zs y3.1 (zp y3.2.2.1.Power (v5_ y3.2.2.1.A5 :: v1_ y3.2.2.1.A4 :: .box 29 [I y3.1.Am, .os 0, .os 1, .os 2, I y3.1.Phase, I y3.1.Ap] :: .box 40 [I y3.2.2.1.Time, .os 3, .os 4, .os 5, .os 6, .os 7, .os 8] :: v6_ y5.1 :: zp y7.1.Power [v5_ y7.1.A5, v1_ y7.1.A4, v1_ y7.2.1, .box 40 [I y7.1.Time, .os 12, .os 13, .os 14, .os 15, .os 16, .os 17]]))) hC [pq (A8 hi0 hl0), pq h10] ?_
     rcases cB h with ⟨h13, h⟩ | ⟨h13, h⟩
     ·exact wx w0b (Aeo y7 (n0 + 1)) (Aq7 y3 y5 y7 (n0 + 1)) lv3 25 [true] [] [] 0 Oj (w64 (z0 + 1)) hC [pq h13] (sI h).symm
     ·exact wx w0b (Aeo y7 (n0 + 1)) (Aq7 y3 y5 y7 (n0 + 1)) lv3 25 [false] [] [] 0 Oj z0 hC [pq h13] (sI h).symm
  ·have h := hnext0 _ hs0
   refine ws lv3 1 [] [] [.frz 10] 0 [0, 1, 2, 3, 4, 5, 6, 7, 8, 9, 11, 12] [(2, dB false), (4, dO 3 0), (7, dS 4), (8, dO 11 0), (9, dS 10), (11, dI z0)] (zs y3.1 (.box 29 [I y3.1.Am, .os 0, .os 1, .os 2, I y3.1.Phase, I y3.1.Ap] :: v6_ y5.1 :: zp y7.1.Power [v5_ y7.1.A5, v1_ y7.2.1, .box 40 [I y7.1.Time, .os 5, .os 6, .os 7, .os 8, .os 9, DS q51 y7.1.A4]])) hC [] ?_
   obtain ⟨y15, h14, h⟩ := Ad h
   obtain ⟨y16, h17, h⟩ := Ad h
   obtain ⟨y18, h19, h⟩ := Ad h
   replace h := sI h
   subst h
   exact wr lv3 22 [] [pl q49 y5.1, pL_ [((z0 == (ln y5.1)), true)] q51 y7.1.A4, pL_ [((z0 == (ln y5.1)), true)] q51 y7.2.1, pL_ [(((z0 == (ln y5.1)) && (decide ((ln y7.1.A4) >= (ln y7.2.1)))), true)] q51 y7.1.A4, pL_ [(((z0 == (ln y5.1)) && (decide ((ln y7.1.A4) >= (ln y7.2.1)))), true)] q51 y7.2.1, ⟨.when [(((z0 == (ln y5.1)) && (decide ((ln y7.1.A4) >= (ln y7.2.1)))), true)] (.cut (y7.1.A4.map q51) 5 (w64 ((ln y7.1.A4) - (ln y7.2.1))) (ln (y7.1.A4.map q51)) (y15.map q51)), λ hg => Xx q51 5 (λ _ => rfl) (Ba h14 hg)⟩, pv e12 (λ hg => k12 y15 y7.2.1 _ (Ba h17 hg)), pL_ [((((z0 == (ln y5.1)) && (decide ((ln y7.1.A4) >= (ln y7.2.1)))) && y16), true)] B1 y7.1.A5, pw e13 (λ hg => k13  _ (Ba h19 hg)) []] [] 0 [] hC []
end Go.Proofs.YthgnbpdjncbkfaaGreat
