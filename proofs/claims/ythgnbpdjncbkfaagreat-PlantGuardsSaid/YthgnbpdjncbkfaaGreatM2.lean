import Derived.Test.YthgnbpdjncbkfaaGreatM1
set_option linter.unusedVariables false
set_option maxHeartbeats 4000000
namespace Go.Proofs.YthgnbpdjncbkfaaGreat
open Go.SL
def Ef : List Nat := [0, 1, 2, 3, 4, 5, 6, 7, 8, 9, 10, 11, 12, 13, 14, 18, 25, 26, 27, 28, 47, 48, 49, 58, 80, 81, 82, 91]
def W8 (y4 : (List Int)) (n0 : Nat) (z0 : (List Af)) : St := [(2, dO 4 0), (3, dO 5 0), (4, .d (DS q84 [])), (5, dS 6), (6, dS 7), (25, dS 6), (26, dI (ln y4)), (27, dI (cnt 0 n0))]
def yZ (x0 : Aa) (x1 : Ab) (y4 : (List Int)) (n0 : Nat) (z0 : (List Af)) : List Res := (zp x1 [.box 29 (d29 x0), .box 36 [.os 0, .os 1, .os 2, .os 3], v0_ y4, .dsl 84 3 8, .gh 3 [(3, 1), (3, 1), (3, 1)] (z0.map q84) none])
def Af3  (z0 : (List Af)) : St := [(2, dO 4 0), (3, dO 5 0), (4, .d (DS q84 [])), (5, dS 6), (6, dS 7)]
def Ais (x0 : Aa) (x1 : Ab) (y4 : (List Int)) (z0 : (List Af)) : List Res := (zp x1 [.box 29 (d29 x0), .box 36 [.os 0, .os 1, .os 2, .os 3], v0_ y4, .dsl 84 3 8, .gh 3 [(3, 1), (3, 1), (3, 1)] (z0.map q84) none])
def P1 (x0 : Aa) (z1 : Int × (List Af)) : St := [(2, dO 4 0), (3, dO 5 0), (4, .d (DS q84 [])), (5, dS 6), (6, dS 7), (47, dI (ln x0.Ac)), (48, dI z1.1)]
def Wa (x0 : Aa) (x1 : Ab) (y4 : (List Int)) (z1 : Int × (List Af)) : List Res := (zp x1 [.box 29 (d29 x0), .box 36 [.os 0, .os 1, .os 2, .os 3], v0_ y4, .dsl 84 3 8, .gh 3 [(3, 1), (3, 1), (3, 1)] (z1.2.map q84) none])
def Af2  (z1 : Int × (List Af)) : St := [(2, dO 4 0), (3, dO 5 0), (4, .d (DS q84 [])), (5, dS 6), (6, dS 7)]
def Air (x0 : Aa) (x1 : Ab) (y4 : (List Int)) (z1 : Int × (List Af)) : List Res := (zp x1 [.box 29 (d29 x0), .box 36 [.os 0, .os 1, .os 2, .os 3], v0_ y4, .dsl 84 3 8, .gh 3 [(3, 1), (3, 1), (3, 1)] (z1.2.map q84) none])
def P0 (x0 : Aa) (z2 : Int × (List Af)) : St := [(2, dO 4 0), (3, dO 5 0), (4, .d (DS q84 [])), (5, dS 6), (6, dS 7), (80, dI (ln x0.Ad)), (81, dI z2.1)]
def V_ (x0 : Aa) (x1 : Ab) (y4 : (List Int)) (z2 : Int × (List Af)) : List Res := (zp x1 [.box 29 (d29 x0), .box 36 [.os 0, .os 1, .os 2, .os 3], v0_ y4, .dsl 84 3 8, .gh 3 [(3, 1), (3, 1), (3, 1)] (z2.2.map q84) none])
def Af1  (z2 : Int × (List Af)) : St := [(4, .d (DS q84 [])), (6, dS 4)]
def Aiq (x1 : Ab) (z2 : Int × (List Af)) : List Res := (zp x1 [.dsl 84 3 5, .gh 3 [(3, 1), (3, 1), (3, 1)] (z2.2.map q84) none])
theorem A14 (x0 : Aa) (x1 : Ab) (r : (List Af)) (h : Aew x0 x1 = some r) : CO 89 [.agg (d29 x0), .agg [.os 0, .os 1, .os 2, .os 3]] (zp x1 []) (.d (.os 4)) (zp x1 [v7_ r]) := by
 unfold Aew at h
 refine co 113 Tryz.func89 λ C hC => ?_
 obtain ⟨y1, h2, h⟩ := Av h
 refine wn Ef 26 [] [pb e43 (k43 x0 x1 _ h2)] [] 4 n6_ [2, 3, 4, 18] hC [] ?_
 rcases cB h with ⟨h3, h⟩ | ⟨h3, h⟩
 ·replace h := sI h
  subst h
  exact wr Ef 24 [true] [] [.own 4 84 3] 4 [0, 1, 2, 3, 6] hC [pq h3]
 ·obtain ⟨y4, h5, y6, h7, h⟩ := A8 h
  refine ws Ef 30 [false] [⟨.call 142 [.agg (d29 x0), .agg [.os 0, .os 1, .os 2, .os 3]] (zp x1 []) (dS 4) (zp x1 [v0_ y4]) n4_, ⟨A72, ((A56 x0 x1 _ h5).lend (by kernel_rfl) (by kernel_rfl) (by kernel_rfl) ⟨Ba (λ _ => rfl), trivial⟩ (by kernel_rfl) (by kernel_rfl))⟩⟩, ⟨.roomZ (x0.Aq * (72 + 1)) (List.replicate (Int.toNat x0.Aq) (q84 (⟨([] : List Int), ([] : List Int), ([] : List Int)⟩ : Af))) (y6.map q84), S3 h7⟩, pl pI y4] [.deep 7 [(3, 1), (3, 1), (3, 1)]] 4 n9_ (W8 y4 0 y6) (yZ x0 x1 y4 0 y6) hC [pq h3] ?_
  obtain ⟨w0, hm0, hret0, hnext0⟩ := Ap h
  clear h
  refine wc w0 (Af3) (Ais x0 x1 y4) ?_ λ z0 hs0 => ?_
  ·refine wb ?_
   refine B3 25 6 rfl rfl λ hl0 => ?_
   refine wl (W8 y4) (yZ x0 x1 y4) hm0 (λ z0 hn0 => ?_) λ n0 a0 z0 w0b hi0 hx0 h hb0 hr0 => ?_
   ·clear hm0
    exact wx w0 (Af3) (Ais x0 x1 y4) Ef 26 [false] [] [] 4 n9_ _ hC [pq (A7 hl0)] hn0
   ·unfold Ajw at h
    obtain ⟨y8, h9, y10, h11, y12, h13, h⟩ := By h
    exact wx w0b (W8 y4 (n0 + 1)) (yZ x0 x1 y4 (n0 + 1)) Ef 33 [true] [pr pI (Be hx0 hl0), pn pI (Be hx0 hl0), pr q84 h9, pn q84 h9, ⟨.appD (z0.map q84) (Int.toNat a0) (q84 y8) 0 (y8.Aq.map pI) ([cnt 0 n0].map pI) 1 (((y8.Aq.map pI).length + ([cnt 0 n0].map pI).length) * (8 + 1)) (y10.map pI), Ix 1 (λ _ => rfl) h9 rfl h11⟩, pr q84 h9, ⟨.updD (z0.map q84) (Int.toNat a0) (Int.toNat a0) (q84 y8) (q84 (⟨y10, y8.Ac, y8.Ad⟩ : Af)) (y12.map q84), Iq h9 h13⟩] [] 4 [0, 1, 2, 3, 4, 5, 6, 7, 12] _ hC [pq (A5 hi0 hl0)] (sI h).symm
  ·have h := hnext0 _ hs0
   refine ws Ef 24 [] [pl Bu x0.Ac] [] 4 n9_ (P1 x0 (0, z0)) (Wa x0 x1 y4 (0, z0)) hC [] ?_
   obtain ⟨w1, hm1, hret1, hnext1⟩ := Ap h
   clear h
   refine wc w1 (Af2) (Air x0 x1 y4) ?_ λ z1 hs1 => ?_
   ·refine wb ?_
    refine ww (P1 x0) (Wa x0 x1 y4) hm1 λ z1 w1b h hb1 hr1 => ?_
    unfold Ajv at h
    rcases cB h with ⟨h14, h⟩ | ⟨h14, h⟩
    ·obtain ⟨y15, h16, h⟩ := Av h
     refine wn Ef 34 [true] [pb A0f (Azx x0 x1 z1.1 _ h16)] [] 4 n9_ [2, 3, 4, 5, 6, 9, 10, 47, 48, 58] hC [pq h14] ?_
     rcases cB h with ⟨h17, h⟩ | ⟨h17, h⟩
     ·obtain ⟨y18, h19, y20, h21, y22, h23, y24, h25, h⟩ := Cy h
      exact wx w1b (P1 x0) (Wa x0 x1 y4) Ef 25 [true] [pr pI h19, pn pI h19, pr pI h19, pn pI h19, pr q84 h21, pn q84 h21, ⟨.appD (z1.2.map q84) (Int.toNat y18) (q84 y20) 1 (y20.Ac.map pI) ([z1.1].map pI) 1 (((y20.Ac.map pI).length + ([z1.1].map pI).length) * (8 + 1)) (y22.map pI), Ix 1 (λ _ => rfl) h21 rfl h23⟩, pr q84 h21, ⟨.updD (z1.2.map q84) (Int.toNat y18) (Int.toNat y18) (q84 y20) (q84 (⟨y20.Aq, y22, y20.Ad⟩ : Af)) (y24.map q84), Iq h21 h25⟩] [] 4 [0, 1, 2, 3, 4, 5, 6, 7, 12] _ hC [pq h17] (sI h).symm
     ·exact wx w1b (P1 x0) (Wa x0 x1 y4) Ef 25 [false] [] [] 4 n9_ _ hC [pq h17] (sI h).symm
    ·exact wx w1 (Af2) (Air x0 x1 y4) Ef 26 [false] [] [] 4 n9_ (z1.1, z1.2) hC [pq h14] (hb1 _ (sI h).symm)
   ·have h := hnext1 _ hs1
    refine ws Ef 24 [] [pl q65 x0.Ad] [] 4 n9_ (P0 x0 (0, z1.2)) (V_ x0 x1 y4 (0, z1.2)) hC [] ?_
    obtain ⟨w2, hm2, hret2, hnext2⟩ := Ap h
    clear h
    refine wc w2 (Af1) (Aiq x1) ?_ λ z2 hs2 => ?_
    ·refine wb ?_
     refine ww (P0 x0) (V_ x0 x1 y4) hm2 λ z2 w2b h hb2 hr2 => ?_
     unfold Aju at h
     rcases cB h with ⟨h26, h⟩ | ⟨h26, h⟩
     ·obtain ⟨y27, h28, h⟩ := Av h
      refine wn Ef 34 [true] [pb A0e (Azw x0 x1 z2.1 _ h28)] [] 4 n9_ [2, 3, 4, 5, 6, 12, 13, 80, 81, 91] hC [pq h26] ?_
      rcases cB h with ⟨h29, h⟩ | ⟨h29, h⟩
      ·obtain ⟨y30, h31, y32, h33, y34, h35, y36, h37, h⟩ := Cy h
       exact wx w2b (P0 x0) (V_ x0 x1 y4) Ef 25 [true] [pr pI h31, pn pI h31, pr pI h31, pn pI h31, pr q84 h33, pn q84 h33, ⟨.appD (z2.2.map q84) (Int.toNat y30) (q84 y32) 2 (y32.Ad.map pI) ([z2.1].map pI) 1 (((y32.Ad.map pI).length + ([z2.1].map pI).length) * (8 + 1)) (y34.map pI), Ix 1 (λ _ => rfl) h33 rfl h35⟩, pr q84 h33, ⟨.updD (z2.2.map q84) (Int.toNat y30) (Int.toNat y30) (q84 y32) (q84 (⟨y32.Aq, y32.Ac, y34⟩ : Af)) (y36.map q84), Iq h33 h37⟩] [] 4 [0, 1, 2, 3, 4, 5, 6, 7, 12] _ hC [pq h29] (sI h).symm
      ·exact wx w2b (P0 x0) (V_ x0 x1 y4) Ef 25 [false] [] [] 4 n9_ _ hC [pq h29] (sI h).symm
     ·exact wx w2 (Af1) (Aiq x1) Ef 26 [false] [] [] 4 [0, 1, 2, 3, 7, 8] (z2.1, z2.2) hC [pq h26] (hb2 _ (sI h).symm)
    ·have h := hnext2 _ hs2
     refine wn Ef 1 [] [] [.flat 4] 4 n5_ [4, 6] hC [] ?_
     obtain ⟨y38, h39, h⟩ := Av h
     replace h := sI h
     subst h
     exact wr Ef 22 [] [pc Awe (Avl z2.2 _ h39) [4]] [] 4 [0, 1, 2, 3, 5] hC []
theorem A19 : EN 89 := en Tryz.func89
theorem k28 (x0 : Aa) (x1 : Ab) (x2 : Int) (r : Bool) (h : F28 x0 x1 x2 = some r) : CO 28 [.agg (d29 x0), .agg (d36 x1), .d (I x2)] [] (.d (Bo r)) [] := by
 unfold F28 at h
 refine co 23 Tryz.func28 λ C hC => ?_
 obtain ⟨y1, h2, h⟩ := Av h
 replace h := sI h
 subst h
 exact wr [0, 1, 2, 3, 4, 6, 7, 8] 27 [] [pc e54 (k54 x0 x1 x2 _ h2) [], pL_ [(y1.2, true)] pI y1.1.Ac] [] 0 [] hC []
theorem e28 : EN 28 := en Tryz.func28
def vW : List Nat := [0, 1, 2, 3, 4, 6, 7, 8, 9, 11, 26, 28, 29, 30, 31]
def Ae6 (y1 : Af × Bool) (n0 : Nat) (z0 : Int) : St := [(4, dO 0 0), (6, dI 0), (9, dI z0), (28, dS 1), (29, dI (ln y1.1.Ad)), (30, dI (cnt 0 n0))]
def Arx (x1 : Ab) (y1 : Af × Bool) (n0 : Nat) (z0 : Int) : List Res := [.box 36 (d36 x1), v0_ y1.1.Ad]
def At4  (z0 : Int) : St := [(6, dI 0), (9, dI z0)]
def Axn  (z0 : Int) : List Res := []
theorem k75 (x0 : Aa) (x1 : Ab) (x2 : Int) (r : Int) (h : F75 x0 x1 x2 = some r) : CO 75 [.agg (d29 x0), .agg (d36 x1), .d (I x2)] [] (.d (I r)) [] := by
 unfold F75 at h
 refine co 43 Tryz.func75 λ C hC => ?_
 obtain ⟨y1, h2, h⟩ := Av h
 refine wn vW 28 [] [pc e54 (k54 x0 x1 x2 _ h2) [], pL_ [(!y1.2, false)] pI y1.1.Ac] [] 0 [1, 2, 3, 4, 5] [4, 6, 7, 26] hC [] ?_
 rcases cB h with ⟨h3, h⟩ | ⟨h3, h⟩
 ·replace h := sI h
  subst h
  exact wr vW 24 [true] [] [] 0 [] hC [pq h3]
 ·refine ws vW 28 [false] [pl pI y1.1.Ad] [] 0 [0, 3] (Ae6 y1 0 0) (Arx x1 y1 0 0) hC [pq h3] ?_
  obtain ⟨w0, hm0, hret0, hnext0⟩ := Ap h
  clear h
  refine wc w0 (At4) (Axn) ?_ λ z0 hs0 => ?_
  ·refine wb ?_
   refine B3 28 1 rfl rfl λ hl0 => ?_
   refine wl (Ae6 y1) (Arx x1 y1) hm0 (λ z0 hn0 => ?_) λ n0 a0 z0 w0b hi0 hx0 h hb0 hr0 => ?_
   ·clear hm0
    exact wx w0 (At4) (Axn) vW 26 [false] [] [] 0 [] _ hC [pq (A7 hl0)] hn0
   ·unfold qP at h
    obtain ⟨y4, h5, h⟩ := Av h
    exact wx w0b (Ae6 y1 (n0 + 1)) (Arx x1 y1 (n0 + 1)) vW 33 [true] [pr pI (Be hx0 hl0), pn pI (Be hx0 hl0), pr pI h5] [] 0 [0, 1] _ hC [pq (A5 hi0 hl0)] (sI h).symm
  ·have h := hnext0 _ hs0
   replace h := sI h
   subst h
   exact wr vW 23 [] [] [] 0 [] hC []
theorem e75 : EN 75 := en Tryz.func75
def Aqk : List Nat := [0, 1, 2, 3, 4, 6, 7, 9, 11, 20, 21, 22, 23]
def Ae5 (y1 : Af × Bool) (n0 : Nat) (z0 : Int) : St := [(3, dO 0 0), (6, dI 0), (9, dI z0), (20, dS 1), (21, dI (ln y1.1.Ac)), (22, dI (cnt 0 n0))]
def Arw (x0 : Aa) (y1 : Af × Bool) (n0 : Nat) (z0 : Int) : List Res := [.box 29 (d29 x0), v0_ y1.1.Ac]
def At3  (z0 : Int) : St := [(6, dI 0), (9, dI z0)]
def Axm  (z0 : Int) : List Res := []
theorem k76 (x0 : Aa) (x1 : Ab) (x2 : Int) (r : Int) (h : F76 x0 x1 x2 = some r) : CO 76 [.agg (d29 x0), .agg (d36 x1), .d (I x2)] [] (.d (I r)) [] := by
 unfold F76 at h
 refine co 36 Tryz.func76 λ C hC => ?_
 obtain ⟨y1, h2, h⟩ := Av h
 refine ws Aqk 30 [] [pc e54 (k54 x0 x1 x2 _ h2) [], pl pI y1.1.Ac] [] 0 [0, 3] (Ae5 y1 0 0) (Arw x0 y1 0 0) hC [] ?_
 obtain ⟨w0, hm0, hret0, hnext0⟩ := Ap h
 clear h
 refine wc w0 (At3) (Axm) ?_ λ z0 hs0 => ?_
 ·refine wb ?_
  refine B3 20 1 rfl rfl λ hl0 => ?_
  refine wl (Ae5 y1) (Arw x0 y1) hm0 (λ z0 hn0 => ?_) λ n0 a0 z0 w0b hi0 hx0 h hb0 hr0 => ?_
  ·clear hm0
   exact wx w0 (At3) (Axm) Aqk 26 [false] [] [] 0 [] _ hC [pq (A7 hl0)] hn0
  ·unfold Aj4 at h
   obtain ⟨y3, h4, h⟩ := Av h
   exact wx w0b (Ae5 y1 (n0 + 1)) (Arw x0 y1 (n0 + 1)) Aqk 33 [true] [pr pI (Be hx0 hl0), pn pI (Be hx0 hl0), pr Bu h4] [] 0 [0, 1] _ hC [pq (A5 hi0 hl0)] (sI h).symm
 ·have h := hnext0 _ hs0
  replace h := sI h
  subst h
  exact wr Aqk 23 [] [] [] 0 [] hC []
theorem e76 : EN 76 := en Tryz.func76
def Hj : List Nat := [0, 1, 2, 3, 4, 5, 6, 7, 12, 16, 31]
def P3  (z0 : Int × (List Af)) : St := [(2, dO 4 0), (3, dO 5 0), (4, .d (DS q84 [])), (5, dS 6), (6, dI z0.1)]
def Wc (x0 : Aa) (x1 : Ab) (z0 : Int × (List Af)) : List Res := (zp x1 [.box 29 (d29 x0), .box 36 [.os 0, .os 1, .os 2, .os 3], v7_ z0.2])
def Agb  (z0 : Int × (List Af)) : St := [(4, .d (DS q84 [])), (5, dS 4)]
def Ai0 (x1 : Ab) (z0 : Int × (List Af)) : List Res := (zp x1 [v7_ z0.2])
theorem A16 (x0 : Aa) (x1 : Ab) (r : (List Af)) (h : Wg x0 x1 = some r) : CO 25 [.agg (d29 x0), .agg [.os 0, .os 1, .os 2, .os 3]] (zp x1 []) (.d (.os 4)) (zp x1 [v7_ r]) := by
 unfold Wg at h
 refine co 37 Tryz.func25 λ C hC => ?_
 obtain ⟨y1, h2, h⟩ := Av h
 refine wn Hj 26 [] [pb e53 (k53 x0 x1 _ h2)] [] 4 n6_ [2, 3, 4, 12] hC [] ?_
 rcases cB h with ⟨h3, h⟩ | ⟨h3, h⟩
 ·replace h := sI h
  subst h
  exact wr Hj 24 [true] [] [.own 4 84 3] 4 [0, 1, 2, 3, 6] hC [pq h3]
 ·refine ws Hj 28 [false] [] [.own 5 84 3] 4 n7_ (P3 (0, ([] : List Af))) (Wc x0 x1 (0, ([] : List Af))) hC [pq h3] ?_
  obtain ⟨w0, hm0, hret0, hnext0⟩ := Ap h
  clear h
  refine wc w0 (Agb) (Ai0 x1) ?_ λ z0 hs0 => ?_
  ·refine wb ?_
   refine ww (P3) (Wc x0 x1) hm0 λ z0 w0b h hb0 hr0 => ?_
   unfold Akn at h
   rcases cB h with ⟨h4, h⟩ | ⟨h4, h⟩
   ·obtain ⟨y5, h6, y7, h8, h⟩ := A8 h
    refine wn Hj 32 [true] [⟨.call 54 [.agg (d29 x0), .agg [.os 0, .os 1, .os 2, .os 3], dI z0.1] (zp x1 []) (.tup [.agg [.os 4, .os 5, .os 6], dB y5.2]) (zp x1 [v0_ y5.1.Aq, v0_ y5.1.Ac, v0_ y5.1.Ad]) n4_, ⟨e54, ((k54 x0 x1 z0.1 _ h6).lend (by kernel_rfl) (by kernel_rfl) (by kernel_rfl) ⟨Ba (λ _ => rfl), Ba (λ _ => rfl), Ba (λ _ => rfl), trivial⟩ (by kernel_rfl) (by kernel_rfl))⟩⟩, pr pI h8, pn pI h8] [] 4 Sz [2, 3, 4, 5, 6, 7, 31] hC [pq h4] ?_
    rcases cB h with ⟨h9, h⟩ | ⟨h9, h⟩
    ·refine wn Hj 1 [true] [] [.frz 7] 4 [0, 1, 2, 3, 4, 5, 6, 8, 9, 10] [2, 3, 4, 5, 6, 7] hC [pq h9] ?_
     refine wn Hj 0 [] [] [.frz 7] 4 [0, 1, 2, 3, 4, 5, 6, 8, 9] [2, 3, 4, 5, 6, 7] hC [] ?_
     refine wn Hj 0 [] [] [.frz 7] 4 [0, 1, 2, 3, 4, 5, 6, 8] [2, 3, 4, 5, 6, 7] hC [] ?_
     obtain ⟨y10, h11, h⟩ := Av h
     exact wx w0b (P3) (Wc x0 x1) Hj 24 [] [pa q84 3 h11] [] 4 [0, 1, 2, 3, 4, 5, 8] _ hC [] (sI h).symm
    ·exact wx w0b (P3) (Wc x0 x1) Hj 25 [false] [] [] 4 n7_ _ hC [pq h9] (sI h).symm
   ·exact wx w0 (Agb) (Ai0 x1) Hj 26 [false] [] [] 4 [0, 1, 2, 3, 6] (z0.1, z0.2) hC [pq h4] (hb0 _ (sI h).symm)
  ·have h := hnext0 _ hs0
   replace h := sI h
   subst h
   exact wr Hj 23 [] [] [] 4 n5_ hC []
theorem A2b : EN 25 := en Tryz.func25
theorem k94 (x0 : Bz) (r : Bool) (h : F94 x0 = some r) : CO 94 [.agg (d63 x0)] [] (.d (Bo r)) [] := by
 unfold F94 at h
 refine co 38 Tryz.func94 λ C hC => ?_
 obtain ⟨y1, h2, h⟩ := Av h
 replace h := sI h
 subst h
 exact wr n3_ 25 [] [pc Ah1 (Ag7 x0.Kind 1 3 _ rfl) [], ⟨.when [(Dn x0.Kind 1 3, true)] (.call 148 [dI x0.Station, dI 0, dI 1] [] (dB (Dn x0.Station 0 1)) [] []), λ hg => ⟨Ah1, (Ag7 x0.Station 0 1 _ rfl)⟩⟩, ⟨.when [(((Dn x0.Kind 1 3) && (Dn x0.Station 0 1)), true)] (.call 148 [dI x0.Max, dI 0, dI 5000] [] (dB (Dn x0.Max 0 5000)) [] []), λ hg => ⟨Ah1, (Ag7 x0.Max 0 5000 _ rfl)⟩⟩, ⟨.when [((((Dn x0.Kind 1 3) && (Dn x0.Station 0 1)) && (Dn x0.Max 0 5000)), true)] (.call 148 [dI x0.Rate, dI 0, dI 5000] [] (dB (Dn x0.Rate 0 5000)) [] []), λ hg => ⟨Ah1, (Ag7 x0.Rate 0 5000 _ rfl)⟩⟩, ⟨.when [(((((Dn x0.Kind 1 3) && (Dn x0.Station 0 1)) && (Dn x0.Max 0 5000)) && (Dn x0.Rate 0 5000)), true)] (.call 148 [dI x0.Cost, dI 1, dI 100] [] (dB (Dn x0.Cost 1 100)) [] []), λ hg => ⟨Ah1, (Ag7 x0.Cost 1 100 _ rfl)⟩⟩, pL_ [((((((Dn x0.Kind 1 3) && (Dn x0.Station 0 1)) && (Dn x0.Max 0 5000)) && (Dn x0.Rate 0 5000)) && (Dn x0.Cost 1 100)), true)] Xi x0.Hu, pw A7z (λ hg => A53 x0.Hu _ (A9 h2 hg)) []] [] 0 [] hC []
theorem e94 : EN 94 := en Tryz.func94
def Qh : List Nat := [0, 1, 2, 3, 4, 5, 7, 9, 14, 15, 16, 17, 21, 22, 23, 24]
def vF (y3 : (List Af)) (n0 : Nat) (z0 : (List Ah)) : St := [(3, dO 0 0), (4, dO 1 0), (5, dO 6 0), (14, dS 7), (15, dI (ln y3)), (16, dI (cnt 0 n0))]
def Ajm (x1 : Ab) (y1 : Ab) (y3 : (List Af)) (n0 : Nat) (z0 : (List Ah)) : List Res := (.box 36 (d36 x1) :: .box 36 [.os 8, .os 9, .os 10, .os 11] :: v2_ y1.Ag :: v4_ z0 :: v0_ y1.Ak :: v3_ y1.Ao :: .box 36 [.os 2, .os 3, .os 4, .os 5] :: v7_ y3 :: ze [])
def Anm  (z0 : (List Ah)) : St := [(4, dO 0 0), (5, dO 5 0)]
def Ape (y1 : Ab) (z0 : (List Ah)) : List Res := (.box 36 [.os 6, .os 7, .os 8, .os 9] :: v2_ y1.Ag :: v4_ z0 :: v0_ y1.Ak :: v3_ y1.Ao :: .box 36 [.os 1, .os 2, .os 3, .os 4] :: ze [])
def vE (y3 : (List Af)) (n0 : Nat) (a0 : Af) (n1 : Nat) (z1 : (List Ah)) : St := [(3, dO 0 0), (4, dO 1 0), (5, dO 6 0), (7, dO 12 0), (14, dS 7), (15, dI (ln y3)), (16, dI (cnt 0 n0)), (21, .d (DS pI a0.Ac)), (22, dI (ln a0.Ac)), (23, dI (cnt 0 n1))]
def Ajl (x1 : Ab) (y1 : Ab) (y3 : (List Af)) (a0 : Af) (n1 : Nat) (z1 : (List Ah)) : List Res := (.box 36 (d36 x1) :: .box 36 [.os 8, .os 9, .os 10, .os 11] :: v2_ y1.Ag :: v4_ z1 :: v0_ y1.Ak :: v3_ y1.Ao :: .box 36 [.os 2, .os 3, .os 4, .os 5] :: v7_ y3 :: ze [.box 84 (d84 a0)])
def Anl (y3 : (List Af)) (n0 : Nat) (z1 : (List Ah)) : St := [(3, dO 0 0), (4, dO 1 0), (5, dO 6 0), (14, dS 7), (15, dI (ln y3)), (16, dI (cnt 0 n0))]
def Apd (x1 : Ab) (y1 : Ab) (y3 : (List Af)) (z1 : (List Ah)) : List Res := (.box 36 (d36 x1) :: .box 36 [.os 8, .os 9, .os 10, .os 11] :: v2_ y1.Ag :: v4_ z1 :: v0_ y1.Ak :: v3_ y1.Ao :: .box 36 [.os 2, .os 3, .os 4, .os 5] :: v7_ y3 :: ze [])
theorem Ba4 (x0 : Aa) (x1 : Ab) (r : Ab) (h : Atd x0 x1 = some r) : CO 127 [.agg (d29 x0), .agg (d36 x1)] [] (.agg [.os 0, .os 1, .os 2, .os 3]) (zp r []) := by
 unfold Atd at h
 refine co 58 Tryz.func127 λ C hC => ?_
 obtain ⟨y1, h2, y3, h4, h⟩ := A8 h
 refine ws Qh 28 [] [pc e65 (k65 x1 _ h2) [], pc e25 (k25 x0 x1 _ h4) [], pl q84 y3] [.ownb 2 0 4 1, .ownb 2 1 120 4, .ownb 2 2 3 1, .ownb 2 3 86 2] 0 [1, 2, 3, 4, 5, 6, 7, 8, 9, 10, 11, 12] (vF y3 0 y1.Ac) (Ajm x1 y1 y3 0 y1.Ac) hC [] ?_
 obtain ⟨w0, hm0, hret0, hnext0⟩ := Ap h
 clear h
 refine wc w0 (Anm) (Ape y1) ?_ λ z0 hs0 => ?_
 ·refine wb ?_
  refine B3 14 7 rfl rfl λ hl0 => ?_
  refine wl (vF y3) (Ajm x1 y1 y3) hm0 (λ z0 hn0 => ?_) λ n0 a0 z0 w0b hi0 hx0 h hb0 hr0 => ?_
  ·clear hm0
   exact wx w0 (Anm) (Ape y1) Qh 26 [false] [] [] 0 [1, 2, 3, 4, 5, 6, 8, 9, 10, 11] _ hC [pq (A7 hl0)] hn0
  ·unfold Aaa at h
   refine ws Qh 32 [true] [pr q84 (Be hx0 hl0), pn q84 (Be hx0 hl0), pl pI a0.Ac] [] 0 Gl (vE y3 n0 a0 0 z0) (Ajl x1 y1 y3 a0 0 z0) hC [pq (A5 hi0 hl0)] ?_
   obtain ⟨w1, hm1, hret1, hnext1⟩ := Ap h
   clear h
   refine wc w1 (Anl y3 n0) (Apd x1 y1 y3) ?_ λ z1 hs1 => ?_
   ·refine wb ?_
    refine Bp 21 rfl λ hl1 => ?_
    refine wl (vE y3 n0 a0) (Ajl x1 y1 y3 a0) hm1 (λ z1 hn1 => ?_) λ n1 a1 z1 w1b hi1 hx1 h hb1 hr1 => ?_
    ·clear hm1
     exact wx w1 (Anl y3 n0) (Apd x1 y1 y3) Qh 26 [false] [] [] 0 Er _ hC [pq (A7 hl1)] hn1
    ·unfold zZ at h
     obtain ⟨y5, h6, y7, h8, y9, h10, y11, h12, h⟩ := Cy h
     obtain ⟨y13, h14, y15, h16, y17, h18, y19, h20, h⟩ := Cy h
     exact wx w1b (vE y3 n0 a0 (n1 + 1)) (Ajl x1 y1 y3 a0 (n1 + 1)) Qh 33 [true] [pt hx1 hl1, pr pI h6, pr A_ h8, pr pI h10, pr A_ h12, pr A_ h14, pu A_ h14 h16, pr A_ h18, pu A_ h18 h20] [] 0 Gl _ hC [pq (A5 hi1 hl1)] (sI h).symm
   ·have h := hnext1 _ hs1
    exact wx w0b (vF y3 (n0 + 1)) (Ajm x1 y1 y3 (n0 + 1)) Qh 23 [] [] [] 0 Er _ hC [] (sI h).symm
 ·have h := hnext0 _ hs0
  replace h := sI h
  subst h
  exact wr Qh 23 [] [] [] 0 [1, 2, 3, 4] hC []
theorem Bcl : EN 127 := en Tryz.func127
def Z1 : List Nat := [0, 1, 2, 3, 4, 6, 7, 9, 30, 32, 33, 40]
theorem A_4 (x0 : Aa) (x1 : Ab) (x2 : Int) (r : Bool) (h : Akz x0 x1 x2 = some r) : CO 237 [.agg (d29 x0), .agg (d36 x1), .d (I x2)] [] (.d (Bo r)) [] := by
 unfold Akz at h
 refine co 74 Tryz.func237 λ C hC => ?_
 obtain ⟨y1, h2, y3, h4, y5, h6, y7, h8, h⟩ := Cy h
 refine wn Z1 28 [] [pr Bg h2, pr pB h4, pw J5 (λ hg => J2 x1 2 x2 _ (A9 h6 hg)) [], pw J5 (λ hg => J2 x1 3 y1.A _ (A9 h8 hg)) []] [] 0 n3_ [3, 4, 6, 7, 30] hC [] ?_
 rcases cB h with ⟨h9, h⟩ | ⟨h9, h⟩
 ·replace h := sI h
  subst h
  exact wr Z1 24 [true] [] [] 0 [] hC [pq h9]
 ·rcases cB h with ⟨h10, h⟩ | ⟨h10, h⟩
  ·obtain ⟨y11, h12, h⟩ := Av h
   replace h := sI h
   subst h
   exact wr Z1 32 [false, true] [pc J5 (J2 x1 3 y1.B _ h12) []] [] 0 [] hC [pq h9, pq h10]
  ·rcases cB h with ⟨h13, h⟩ | ⟨h13, h⟩
   ·obtain ⟨y14, h15, y16, h17, h⟩ := A8 h
    replace h := sI h
    subst h
    exact wr Z1 35 [false, false, true] [pc J5 (J2 x1 1 y1.B _ h15) [], pR A_ h17] [] 0 [] hC [pq h9, pq h10, pq h13]
   ·obtain ⟨y18, h19, y20, h21, h⟩ := A8 h
    replace h := sI h
    subst h
    exact wr Z1 39 [false, false, false] [pc A8e (A6i x0 x1 y1.B _ h19) [], pc J5 (J2 x1 4 y1.B _ h21) []] [] 0 [] hC [pq h9, pq h10, pq h13]
theorem Bbl : EN 237 := en Tryz.func237
def Vp : List Nat := [0, 1, 2, 3, 4, 6, 7, 9, 12, 13, 14, 15, 21]
def uZ (x2 : Int) (y1 : (List Af)) (n0 : Nat) (z0 : Unit) : St := [(2, dI x2), (6, dO 0 0), (7, dB false), (12, dS 1), (13, dI (ln y1)), (14, dI (cnt 0 n0))]
def Ajg (y1 : (List Af)) (n0 : Nat) (z0 : Unit) : List Res := [.box 84 [.os 2, .os 3, .os 4], v7_ y1, v0_ ([] : List Int), v0_ ([] : List Int), v0_ ([] : List Int)]
def Anb  (z0 : Unit) : St := [(6, dO 0 0), (7, dB false)]
def Ao3  (z0 : Unit) : List Res := [.box 84 [.os 1, .os 2, .os 3], v0_ ([] : List Int), v0_ ([] : List Int), v0_ ([] : List Int)]
theorem Ta (x0 : Aa) (x1 : Ab) (x2 : Int) (r : Af × Bool) (h : G9 x0 x1 x2 = some r) : CO 156 [.agg (d29 x0), .agg (d36 x1), .d (I x2)] [] (.tup [.agg (d84 r.1), .d (Bo r.2)]) [] := by
 unfold G9 at h
 refine co 25 Tryz.func156 λ C hC => ?_
 obtain ⟨y1, h2, h⟩ := Av h
 refine ws Vp 26 [] [pc e89 (k89 x0 x1 _ h2) [], pl q84 y1] [.ownb 2 0 3 1, .ownb 2 1 3 1, .ownb 2 2 3 1] 0 [2, 3, 4, 5, 6] (uZ x2 y1 0 ()) (Ajg y1 0 ()) hC [] ?_
 obtain ⟨w0, hm0, hret0, hnext0⟩ := Ap h
 clear h
 refine wc w0 (Anb) (Ao3) ?_ λ z0 hs0 => ?_
 ·refine wb ?_
  refine B3 12 1 rfl rfl λ hl0 => ?_
  refine wl (uZ x2 y1) (Ajg y1) hm0 (λ z0 hn0 => ?_) λ n0 a0 z0 w0b hi0 hx0 h hb0 hr0 => ?_
  ·clear hm0
   exact wx w0 (Anb) (Ao3) Vp 26 [false] [] [] 0 [0, 2, 3, 4] _ hC [pq (A7 hl0)] hn0
  ·unfold L3 at h
   obtain ⟨y3, h4, h⟩ := Av h
   refine wn Vp 32 [true] [pr q84 (Be hx0 hl0), pn q84 (Be hx0 hl0), pc Xx (Xr a0.Aq x2 _ h4) []] [] 0 n6_ [2, 6, 7, 9, 12, 13, 14, 21] hC [pq (A5 hi0 hl0)] ?_
   rcases cB h with ⟨h5, h⟩ | ⟨h5, h⟩
   ·have hq := hret0 _ (hr0 _ (sI h).symm)
    replace hq := sI hq
    subst hq
    exact wr Vp 24 [true] [] [] 0 [] hC [pq h5]
   ·exact wx w0b (uZ x2 y1 (n0 + 1)) (Ajg y1 (n0 + 1)) Vp 25 [false] [] [] 0 n5_ _ hC [pq h5] (sI h).symm
 ·have h := hnext0 _ hs0
  replace h := sI h
  subst h
  exact wr Vp 23 [] [] [.ownb 0 0 3 1, .frz 4, .ownb 0 1 3 1, .frz 5, .ownb 0 2 3 1, .frz 6] 0 [] hC []
theorem Tp : EN 156 := en Tryz.func156
def S5 : List Nat := [0, 1, 2, 3, 4, 5, 6, 7, 9, 14, 21, 22, 23, 24, 30]
def Zi (y6 : (List Af)) (n0 : Nat) (z0 : (List Ah)) : St := [(3, dO 0 0), (4, dO 1 0), (5, dI 0), (7, dO 10 0), (21, dS 11), (22, dI (ln y6)), (23, dI (cnt 0 n0))]
def Aem (x1 : Ab) (y4 : Ab) (y6 : (List Af)) (n0 : Nat) (z0 : (List Ah)) : List Res := (.box 36 (d36 x1) :: .box 36 [.os 2, .os 3, .os 4, .os 5] :: ze [v2_ y4.Ag, v4_ z0, v0_ y4.Ak, v3_ y4.Ao, .box 36 [.os 6, .os 7, .os 8, .os 9], v7_ y6])
def At9  (z0 : (List Ah)) : St := [(4, dO 0 0), (5, dI 0), (7, dO 9 0)]
def Axs (y4 : Ab) (z0 : (List Ah)) : List Res := (.box 36 [.os 1, .os 2, .os 3, .os 4] :: ze [v2_ y4.Ag, v4_ z0, v0_ y4.Ak, v3_ y4.Ao, .box 36 [.os 5, .os 6, .os 7, .os 8]])
theorem k57 (x0 : Aa) (x1 : Ab) (r : Ab × Int) (h : F57 x0 x1 = some r) : CO 57 [.agg (d29 x0), .agg (d36 x1)] [] (.tup [.agg [.os 0, .os 1, .os 2, .os 3], .d (I r.2)]) (zp r.1 []) := by
 unfold F57 at h
 refine co 45 Tryz.func57 λ C hC => ?_
 obtain ⟨y1, h2, h⟩ := Av h
 refine wn S5 28 [] [pc e43 (k43 x0 x1 _ h2) []] [.ownb 2 0 4 1, .ownb 2 1 120 4, .ownb 2 2 3 1, .ownb 2 3 86 2] 0 n7_ [2, 3, 4, 5, 6, 14] hC [] ?_
 rcases cB h with ⟨h3, h⟩ | ⟨h3, h⟩
 ·replace h := sI h
  subst h
  exact wr S5 24 [true] [] [.ownb 2 0 4 1, .ownb 2 1 120 4, .ownb 2 2 3 1, .ownb 2 3 86 2] 0 [7, 8, 9, 10] hC [pq h3]
 ·obtain ⟨y4, h5, y6, h7, h⟩ := A8 h
  refine ws S5 28 [false] [pc K6 (K4 x1 _ h5) [], pc e89 (k89 x0 x1 _ h7) [], pl q84 y6] [] 0 [1, 2, 3, 4, 5, 6, 7, 8, 9, 10, 11, 12] (Zi y6 0 y4.Ac) (Aem x1 y4 y6 0 y4.Ac) hC [pq h3] ?_
  obtain ⟨w0, hm0, hret0, hnext0⟩ := Ap h
  clear h
  refine wc w0 (At9) (Axs y4) ?_ λ z0 hs0 => ?_
  ·refine wb ?_
   refine B3 21 11 rfl rfl λ hl0 => ?_
   refine wl (Zi y6) (Aem x1 y4 y6) hm0 (λ z0 hn0 => ?_) λ n0 a0 z0 w0b hi0 hx0 h hb0 hr0 => ?_
   ·clear hm0
    exact wx w0 (At9) (Axs y4) S5 26 [false] [] [] 0 [1, 2, 3, 4, 5, 6, 7, 8, 9, 10] _ hC [pq (A7 hl0)] hn0
   ·unfold Aj9 at h
    refine wn S5 32 [true] [pr q84 (Be hx0 hl0), pn q84 (Be hx0 hl0), pl pI a0.Ac] [] 0 Gl [3, 4, 5, 7, 9, 21, 22, 23, 30] hC [pq (A5 hi0 hl0)] ?_
    rcases cB h with ⟨h8, h⟩ | ⟨h8, h⟩
    ·obtain ⟨y9, h10, y11, h12, y13, h14, h⟩ := By h
     exact wx w0b (Zi y6 (n0 + 1)) (Aem x1 y4 y6 (n0 + 1)) S5 25 [true] [pr pI h10, pr A_ h12, pc Ah2 (Ag8 (⟨y4.Ag, z0, y4.Ak, y4.Ao⟩ : Ab) a0.Ac y11 _ h14) [6, 7, 8, 9]] [] 0 Er _ hC [pq h8] (sI h).symm
    ·exact wx w0b (Zi y6 (n0 + 1)) (Aem x1 y4 y6 (n0 + 1)) S5 25 [false] [] [] 0 Er _ hC [pq h8] (sI h).symm
  ·have h := hnext0 _ hs0
   replace h := sI h
   subst h
   exact wr S5 23 [] [] [] 0 [5, 6, 7, 8] hC []
theorem e57 : EN 57 := en Tryz.func57
def Lu : List Nat := [0, 2, 3, 24, 25, 26, 66]
def M8 (y1 : Ab × Int) (z0 : Int × (List Ah)) : St := [(0, dO 0 0), (24, dI (ln y1.1.Ac)), (25, dI z0.1)]
def Ra (x0 : A2) (y1 : Ab × Int) (z0 : Int × (List Ah)) : List Res := (.box 186 (zb x0.Am [.os 5, .os 6, .os 7, .os 8, I x0.time]) :: zp x0.Au [v2_ y1.1.Ag, v4_ z0.2, v0_ y1.1.Ak, v3_ y1.1.Ao])
def Abf  (z0 : Int × (List Ah)) : St := []
def Ac0 (x0 : A2) (y1 : Ab × Int) (z0 : Int × (List Ah)) : List Res := (.box 186 (zb x0.Am [.os 5, .os 6, .os 7, .os 8, I x0.time]) :: zp x0.Au [v2_ y1.1.Ag, v4_ z0.2, v0_ y1.1.Ak, v3_ y1.1.Ao])
theorem A5o (x0 : A2) (r : A2) (h : Uu x0 = some r) : CO 188 [.d (.o 0 0)] (.box 186 (zb x0.Am [.os 1, .os 2, .os 3, .os 4, I x0.time]) :: zp x0.Au []) (.tup []) (.box 186 (zb r.Am [.os 5, .os 6, .os 7, .os 8, I r.time]) :: .non :: .non :: .non :: .non :: zp r.Au []) := by
 unfold Uu at h
 refine co 71 Tryz.func188 λ C hC => ?_
 obtain ⟨y1, h2, h⟩ := Av h
 refine ws Lu 25 [] [⟨.call 222 [.agg (d29 x0.Am), .agg [.os 0, .os 1, .os 2, .os 3]] (zp x0.Au []) (.tup [.agg [.os 4, .os 5, .os 6, .os 7], dI y1.2]) (zp x0.Au (zp y1.1 [])) [1, 2, 3, 4], ⟨Bbn, ((A_6 x0.Am x0.Au _ h2).lend (by kernel_rfl) (by kernel_rfl) (by kernel_rfl) ⟨Ba (λ _ => rfl), Ba (λ _ => rfl), Ba (λ _ => rfl), Ba (λ _ => rfl), trivial⟩ (by kernel_rfl) (by kernel_rfl))⟩⟩, pl A_ y1.1.Ac] [] 5 n9_ (M8 y1 (0, y1.1.Ac)) (Ra x0 y1 (0, y1.1.Ac)) hC [] ?_
 obtain ⟨w0, hm0, hret0, hnext0⟩ := Ap h
 clear h
 refine wc w0 (Abf) (Ac0 x0 y1) ?_ λ z0 hs0 => ?_
 ·refine wb ?_
  refine ww (M8 y1) (Ra x0 y1) hm0 λ z0 w0b h hb0 hr0 => ?_
  unfold Ut at h
  rcases cB h with ⟨h3, h⟩ | ⟨h3, h⟩
  ·obtain ⟨y4, h5, y6, h7, y8, h9, h⟩ := By h
   refine wn Lu 34 [true] [pr A_ h5, pn A_ h5, pv Ah0 (λ hg => Ag6 (⟨x0.Am, (⟨y1.1.Ag, z0.2, y1.1.Ak, y1.1.Ao⟩ : Ab), x0.time⟩ : A2) z0.1 _ (A9 h7 hg)), ⟨.when [(((y4.State == 1) && y6), true)] (.row (z0.2.map A_) (((Int.toNat z0.1) : Nat) : Int) (A_ y4)), λ hg => Js h5⟩, pR Bu h9] [] 5 n9_ [0, 3, 24, 25, 66] hC [pq h3] ?_
   rcases cB h with ⟨h10, h⟩ | ⟨h10, h⟩
   ·obtain ⟨y11, h12, h⟩ := Av h
    exact wx w0b (M8 y1) (Ra x0 y1) Lu 25 [true] [pu A_ h5 h12] [] 5 n9_ _ hC [pq h10] (sI h).symm
   ·exact wx w0b (M8 y1) (Ra x0 y1) Lu 25 [false] [] [] 5 n9_ _ hC [pq h10] (sI h).symm
  ·exact wx w0 (Abf) (Ac0 x0 y1) Lu 26 [false] [] [] 5 n9_ (z0.1, z0.2) hC [pq h3] (hb0 _ (sI h).symm)
 ·have h := hnext0 _ hs0
  replace h := sI h
  subst h
  exact wf Lu 20 [] [] [.frz 1, .frz 2, .frz 3, .frz 4] 5 n9_ hC []
theorem A7k : EN 188 := en Tryz.func188
theorem k26 (x0 : Aa) (x1 : Ab) (x2 : Int) (r : Bool) (h : F26 x0 x1 x2 = some r) : CO 26 [.agg (d29 x0), .agg (d36 x1), .d (I x2)] [] (.d (Bo r)) [] := by
 unfold F26 at h
 refine co 16 Tryz.func26 λ C hC => ?_
 obtain ⟨y1, h2, y3, h4, h⟩ := A8 h
 replace h := sI h
 subst h
 exact wr [0, 1, 2, 3, 4, 6] 25 [] [pc e75 (k75 x0 x1 x2 _ h2) [], pc e76 (k76 x0 x1 x2 _ h4) []] [] 0 [] hC []
theorem e26 : EN 26 := en Tryz.func26
theorem k93 (x0 : Bz) (r : Bool) (h : F93 x0 = some r) : CO 93 [.agg (d63 x0)] [] (.d (Bo r)) [] := by
 unfold F93 at h
 refine co 6 Tryz.func93 λ C hC => ?_
 obtain ⟨y1, h2, h⟩ := Av h
 replace h := sI h
 subst h
 exact wr n3_ 25 [] [pc e94 (k94 x0 _ h2) []] [] 0 [] hC []
theorem e93 : EN 93 := en Tryz.func93
theorem Bbd (x0 : Bz) (x1 : Fx) (r : Int × Int) (h : A1t x0 x1 = some r) : CO 106 [.agg (d63 x0), .agg (d70 x1)] [] (.tup [.d (I r.1), .d (I r.2)]) [] := by
 unfold A1t at h
 refine co 31 Tryz.func106 λ C hC => ?_
 obtain ⟨y1, h2, h⟩ := Av h
 refine wn [0, 1, 2, 3, 4, 5, 13] 26 [] [pc e94 (k94 x0 _ h2) [], ⟨.when [(!y1, false)] (.call 159 [.agg (d70 x1)] [] (dB (Ata x1)) [] []), λ hg => ⟨Bcb, (Bau x1 _ rfl)⟩⟩] [] 0 [0, 1] [2, 3, 4, 5, 13] hC [] ?_
 rcases cB h with ⟨h3, h⟩ | ⟨h3, h⟩
 ·cases h
 ·obtain ⟨y4, h5, h⟩ := Av h
  replace h := sI h
  subst h
  exact wr [0, 1, 2, 3, 4, 5, 13] 25 [false] [pc Bca (Bat (w64 ((w64 ((w64 (x1.X * x1.X)) + (w64 (x1.Y * x1.Y)))) * x0.Cost)) 1000 _ h5) []] [] 0 [] hC [pq h3]
theorem Bcu : EN 106 := en Tryz.func106
theorem k39 (x0 : Aa) (x1 : Ab) (r : Bool) (h : F39 x0 x1 = some r) : CO 39 [.agg (d29 x0), .agg (d36 x1)] [] (.d (Bo r)) [] := by
 unfold F39 at h
 refine co 16 Tryz.func39 λ C hC => ?_
 obtain ⟨y1, h2, y3, h4, y5, h6, h⟩ := By h
 replace h := sI h
 subst h
 exact wr n5_ 25 [] [pc e43 (k43 x0 x1 _ h2) [], pw e89 (λ hg => k89 x0 x1 _ (A9 h4 hg)) [], pv A9z (λ hg => A9h y3 _ (A9 h6 hg))] [] 0 [] hC []
theorem e39 : EN 39 := en Tryz.func39
def Aqp : List Nat := [0, 1, 2, 3, 4, 5, 6, 11]
theorem A6d (x0 : Aa) (x1 : Ab) (r : Ab × Int) (h : Y6 x0 x1 = some r) : CO 131 [.agg (d29 x0), .agg (d36 x1)] [] (.tup [.agg [.os 0, .os 1, .os 2, .os 3], .d (I r.2)]) (zp r.1 []) := by
 unfold Y6 at h
 refine co 17 Tryz.func131 λ C hC => ?_
 obtain ⟨y1, h2, h⟩ := Av h
 refine wn Aqp 28 [] [pc e53 (k53 x0 x1 _ h2) []] [.ownb 2 0 4 1, .ownb 2 1 120 4, .ownb 2 2 3 1, .ownb 2 3 86 2] 0 n7_ [2, 3, 4, 5, 6, 11] hC [] ?_
 rcases cB h with ⟨h3, h⟩ | ⟨h3, h⟩
 ·replace h := sI h
  subst h
  exact wr Aqp 24 [true] [] [.ownb 2 0 4 1, .ownb 2 1 120 4, .ownb 2 2 3 1, .ownb 2 3 86 2] 0 [7, 8, 9, 10] hC [pq h3]
 ·obtain ⟨y4, h5, h⟩ := Av h
  replace h := sI h
  subst h
  exact wr Aqp 25 [false] [pc Bcl (Ba4 x0 x1 _ h5) []] [] 0 [7, 8, 9, 10] hC [pq h3]
theorem A79 : EN 131 := en Tryz.func131
def Aqm : List Nat := [0, 1, 2, 3, 4, 6, 7, 8, 20]
theorem Azs (x0 : Aa) (x1 : Ab) (x2 : Int) (r : Int × Bool) (h : Y0 x0 x1 x2 = some r) : CO 216 [.agg (d29 x0), .agg (d36 x1), .d (I x2)] [] (.tup [.d (I r.1), .d (Bo r.2)]) [] := by
 unfold Y0 at h
 refine co 25 Tryz.func216 λ C hC => ?_
 obtain ⟨y1, h2, h⟩ := Av h
 refine wn Aqm 28 [] [pc Tp (Ta x0 x1 x2 _ h2) [], pl pI y1.1.Ac] [] 0 [2] [6, 7, 8, 20] hC [] ?_
 rcases cB h with ⟨h3, h⟩ | ⟨h3, h⟩
 ·replace h := sI h
  subst h
  exact wr Aqm 24 [true] [] [] 0 [] hC [pq h3]
 ·obtain ⟨y4, h5, h⟩ := Av h
  replace h := sI h
  subst h
  exact wr Aqm 25 [false] [pr pI h5] [] 0 [] hC [pq h3]
theorem A0a : EN 216 := en Tryz.func216
theorem Aqu (x0 : Aa) (x1 : Ab) (x2 : Int) (r : Bool) (h : U5 x0 x1 x2 = some r) : CO 102 [.agg (d29 x0), .agg (d36 x1), .d (I x2)] [] (.d (Bo r)) [] := by
 unfold U5 at h
 refine co 20 Tryz.func102 λ C hC => ?_
 obtain ⟨y1, h2, h⟩ := Av h
 replace h := sI h
 subst h
 exact wr [0, 1, 2, 3, 4, 6, 7] 27 [] [pc Tp (Ta x0 x1 x2 _ h2) [], pl pI y1.1.Ac] [] 0 [] hC []
theorem Aq8 : EN 102 := en Tryz.func102
def Z3 : List Nat := [0, 1, 2, 3, 4, 6, 7, 9, 11, 20, 21, 22, 23, 29]
def U9 (y1 : Af × Bool) (n0 : Nat) (z0 : Int) : St := [(4, dO 0 0), (6, dI 0), (7, dO 1 0), (9, dI z0), (20, .d (DS pI y1.1.Ad)), (21, dI (ln y1.1.Ad)), (22, dI (cnt 0 n0))]
def qH (x1 : Ab) (y1 : Af × Bool) (n0 : Nat) (z0 : Int) : List Res := [.box 36 (d36 x1), .box 84 (d84 y1.1)]
def Amx  (z0 : Int) : St := [(6, dI 0), (9, dI z0)]
def Aop  (z0 : Int) : List Res := []
theorem Azt (x0 : Aa) (x1 : Ab) (x2 : Int) (r : Int) (h : Uc x0 x1 x2 = some r) : CO 214 [.agg (d29 x0), .agg (d36 x1), .d (I x2)] [] (.d (I r)) [] := by
 unfold Uc at h
 refine co 39 Tryz.func214 λ C hC => ?_
 obtain ⟨y1, h2, h⟩ := Av h
 refine ws Z3 30 [] [pc Tp (Ta x0 x1 x2 _ h2) [], pl pI y1.1.Ad] [] 0 [1, 2] (U9 y1 0 0) (qH x1 y1 0 0) hC [] ?_
 obtain ⟨w0, hm0, hret0, hnext0⟩ := Ap h
 clear h
 refine wc w0 (Amx) (Aop) ?_ λ z0 hs0 => ?_
 ·refine wb ?_
  refine Bp 20 rfl λ hl0 => ?_
  refine wl (U9 y1) (qH x1 y1) hm0 (λ z0 hn0 => ?_) λ n0 a0 z0 w0b hi0 hx0 h hb0 hr0 => ?_
  ·clear hm0
   exact wx w0 (Amx) (Aop) Z3 26 [false] [] [] 0 [] _ hC [pq (A7 hl0)] hn0
  ·unfold Wh at h
   rcases cB h with ⟨h3, h⟩ | ⟨h3, h⟩
   ·obtain ⟨y4, h5, h⟩ := Av h
    exact wx w0b (U9 y1 (n0 + 1)) (qH x1 y1 (n0 + 1)) Z3 36 [true, true] [pt hx0 hl0, pl pI y1.1.Ac, pr pI h5] [] 0 [0, 1] _ hC [pq (A5 hi0 hl0), pq h3] (sI h).symm
   ·exact wx w0b (U9 y1 (n0 + 1)) (qH x1 y1 (n0 + 1)) Z3 36 [true, false] [pt hx0 hl0, pl pI y1.1.Ac] [] 0 [0, 1] _ hC [pq (A5 hi0 hl0), pq h3] (sI h).symm
 ·have h := hnext0 _ hs0
  replace h := sI h
  subst h
  exact wr Z3 23 [] [] [] 0 [] hC []
theorem A0b : EN 214 := en Tryz.func214
def Ad5 : List Nat := [0, 1, 2, 3, 4, 6, 7, 9, 11, 20, 21, 22, 23]
def uN (y1 : Af × Bool) (n0 : Nat) (z0 : Int) : St := [(3, dO 0 0), (6, dI 0), (9, dI z0), (20, .d (DS pI y1.1.Ac)), (21, dI (ln y1.1.Ac)), (22, dI (cnt 0 n0))]
def Ai4 (x0 : Aa) (n0 : Nat) (z0 : Int) : List Res := [.box 29 (d29 x0)]
def Amy  (z0 : Int) : St := [(6, dI 0), (9, dI z0)]
def Aoq  (z0 : Int) : List Res := []
theorem Azu (x0 : Aa) (x1 : Ab) (x2 : Int) (r : Int) (h : Ud x0 x1 x2 = some r) : CO 213 [.agg (d29 x0), .agg (d36 x1), .d (I x2)] [] (.d (I r)) [] := by
 unfold Ud at h
 refine co 36 Tryz.func213 λ C hC => ?_
 obtain ⟨y1, h2, h⟩ := Av h
 refine ws Ad5 30 [] [pc Tp (Ta x0 x1 x2 _ h2) [], pl pI y1.1.Ac] [] 0 [0] (uN y1 0 0) (Ai4 x0 0 0) hC [] ?_
 obtain ⟨w0, hm0, hret0, hnext0⟩ := Ap h
 clear h
 refine wc w0 (Amy) (Aoq) ?_ λ z0 hs0 => ?_
 ·refine wb ?_
  refine Bp 20 rfl λ hl0 => ?_
  refine wl (uN y1) (Ai4 x0) hm0 (λ z0 hn0 => ?_) λ n0 a0 z0 w0b hi0 hx0 h hb0 hr0 => ?_
  ·clear hm0
   exact wx w0 (Amy) (Aoq) Ad5 26 [false] [] [] 0 [] _ hC [pq (A7 hl0)] hn0
  ·unfold zG at h
   obtain ⟨y3, h4, h⟩ := Av h
   exact wx w0b (uN y1 (n0 + 1)) (Ai4 x0 (n0 + 1)) Ad5 33 [true] [pt hx0 hl0, pr Bu h4] [] 0 [0] _ hC [pq (A5 hi0 hl0)] (sI h).symm
 ·have h := hnext0 _ hs0
  replace h := sI h
  subst h
  exact wr Ad5 23 [] [] [] 0 [] hC []
theorem A0c : EN 213 := en Tryz.func213
def Azn : List Nat := [0, 1, 2, 3, 4, 5, 6, 7, 8, 9, 18, 22, 36, 43]
theorem k21 (x0 : Aa) (x1 : Bk) (x2 : A0) (r : Int) (h : F21 x0 x1 x2 = some r) : CO 21 [.agg (d29 x0), .agg (d31 x1), .agg (d40 x2)] [] (.d (I r)) [] := by
 unfold F21 at h
 refine co 55 Tryz.func21 λ C hC => ?_
 obtain ⟨y1, h2, h⟩ := Av h
 refine wn Azn 31 [] [pc e57 (k57 x0 x2.Power _ h2) []] [] 0 n9_ [3, 4, 5, 6, 7, 8, 9, 18] hC [] ?_
 rcases cB h with ⟨h3, h⟩ | ⟨h3, h⟩
 ·cases h
 ·rcases cB h with ⟨h4, h⟩ | ⟨h4, h⟩
  ·cases h
  ·rcases cB h with ⟨h5, h⟩ | ⟨h5, h⟩
   ·cases h
   ·obtain ⟨y6, h7, y8, h9, h⟩ := A8 h
    refine wn Azn 30 [false, false, false] [pc e59 (k59 x1 _ rfl) [], pl Ce x2.A6, pb e60 (k60 x2.Power y1.1 _ h7), ⟨.whenR [(!y6, false)] (.call 61 [.d (DS Ce x2.A6), .d (.fn (.func 62) [] [.o 0 0])] [.box 126 [.fn (.func 58) [] [.o 1 0]], .box 40 (d40 x2)] (dB y8.1) [.box 126 [.fn (.func 58) [] [.o 1 0]], .box 40 (d40 y8.2)] [8, 2]), ⟨λ hg => ⟨A96, (A9o x2.A6 x2 _ (A9 h9 hg))⟩, λ hg => by have e := H4 h9 hg; subst e; rfl⟩⟩] [] 0 [] [6, 43] hC [pq h3, pq h4, pq h5] ?_
    rcases cB h with ⟨h10, h⟩ | ⟨h10, h⟩
    ·cases h
    ·replace h := sI h
     subst h
     exact wr Azn 26 [false] [] [] 0 [] hC [pq h10]
theorem e21 : EN 21 := en Tryz.func21
def Lf : List Nat := [0, 1, 2, 3, 4, 6, 7, 8, 9, 11, 12, 13, 22, 23, 24, 25, 26, 30, 31, 32, 33, 47]
def uS  (n0 : Nat) (z0 : Unit) : St := [(3, dO 0 0), (4, dO 1 0), (6, dI 0), (7, dB false), (8, dO 2 0), (23, .d (DS pI [2, 1, 0])), (24, dI ([2, 1, 0].length : Int)), (25, dI (cnt 0 n0))]
def Ai9 (x0 : Aa) (x1 : Ab) (y1 : Af × Bool) (n0 : Nat) (z0 : Unit) : List Res := [.box 29 (d29 x0), .box 36 (d36 x1), .box 84 (d84 y1.1)]
def Am3  (z0 : Unit) : St := [(6, dI 0), (7, dB false)]
def Aov  (z0 : Unit) : List Res := []
def uR (x1 : Ab) (n0 : Nat) (a0 : Int) (n1 : Nat) (z1 : Unit) : St := [(3, dO 0 0), (4, dO 1 0), (6, dI 0), (7, dB false), (8, dO 2 0), (11, dI a0), (23, .d (DS pI [2, 1, 0])), (24, dI ([2, 1, 0].length : Int)), (25, dI (cnt 0 n0)), (30, .d (DS A_ x1.Ac)), (31, dI (ln x1.Ac)), (32, dI (cnt 0 n1))]
def Ai8 (x0 : Aa) (x1 : Ab) (y1 : Af × Bool) (n1 : Nat) (z1 : Unit) : List Res := [.box 29 (d29 x0), .box 36 (d36 x1), .box 84 (d84 y1.1)]
def Am2 (n0 : Nat) (z1 : Unit) : St := [(3, dO 0 0), (4, dO 1 0), (6, dI 0), (7, dB false), (8, dO 2 0), (23, .d (DS pI [2, 1, 0])), (24, dI ([2, 1, 0].length : Int)), (25, dI (cnt 0 n0))]
def Aou (x0 : Aa) (x1 : Ab) (y1 : Af × Bool) (z1 : Unit) : List Res := [.box 29 (d29 x0), .box 36 (d36 x1), .box 84 (d84 y1.1)]
theorem Bak (x0 : Aa) (x1 : Ab) (x2 : Int) (r : Int × Bool) (h : A1l x0 x1 x2 = some r) : CO 178 [.agg (d29 x0), .agg (d36 x1), .d (I x2)] [] (.tup [.d (I r.1), .d (Bo r.2)]) [] := by
 unfold A1l at h
 refine co 51 Tryz.func178 λ C hC => ?_
 obtain ⟨y1, h2, h⟩ := Av h
 refine wn Lf 28 [] [pc Tp (Ta x0 x1 x2 _ h2) []] [] 0 n3_ [3, 4, 6, 7, 8, 22] hC [] ?_
 rcases cB h with ⟨h3, h⟩ | ⟨h3, h⟩
 ·cases h
 ·refine ws Lf 26 [false] [pl pI [2, 1, 0]] [] 0 n3_ (uS 0 ()) (Ai9 x0 x1 y1 0 ()) hC [pq h3] ?_
  obtain ⟨w0, hm0, hret0, hnext0⟩ := Ap h
  clear h
  refine wc w0 (Am3) (Aov) ?_ λ z0 hs0 => ?_
  ·refine wb ?_
   refine Bp 23 rfl λ hl0 => ?_
   refine wl (uS) (Ai9 x0 x1 y1) hm0 (λ z0 hn0 => ?_) λ n0 a0 z0 w0b hi0 hx0 h hb0 hr0 => ?_
   ·clear hm0
    exact wx w0 (Am3) (Aov) Lf 26 [false] [] [] 0 [] _ hC [pq (A7 hl0)] hn0
   ·unfold Apt at h
    refine ws Lf 32 [true] [pt hx0 hl0, pl A_ x1.Ac] [] 0 n3_ (uR x1 n0 a0 0 ()) (Ai8 x0 x1 y1 0 ()) hC [pq (A5 hi0 hl0)] ?_
    obtain ⟨w1, hm1, hret1, hnext1⟩ := Ap h
    clear h
    refine wc w1 (Am2 n0) (Aou x0 x1 y1) ?_ λ z1 hs1 => ?_
    ·refine wb ?_
     refine Bp 30 rfl λ hl1 => ?_
     refine wl (uR x1 n0 a0) (Ai8 x0 x1 y1) hm1 (λ z1 hn1 => ?_) λ n1 a1 z1 w1b hi1 hx1 h hb1 hr1 => ?_
     ·clear hm1
      exact wx w1 (Am2 n0) (Aou x0 x1 y1) Lf 26 [false] [] [] 0 n3_ _ hC [pq (A7 hl1)] hn1
     ·unfold Aps at h
      obtain ⟨y4, h5, h⟩ := Av h
      refine wn Lf 32 [true] [pt hx1 hl1, pw Bbq (λ hg => A_9 x0 x1 y1.1 (cnt 0 n1) _ (A9 h5 hg)) []] [] 0 n3_ [3, 4, 6, 7, 8, 11, 12, 23, 24, 25, 30, 31, 32, 47] hC [pq (A5 hi1 hl1)] ?_
      rcases cB h with ⟨h6, h⟩ | ⟨h6, h⟩
      ·cases h
      ·exact wx w1b (uR x1 n0 a0 (n1 + 1)) (Ai8 x0 x1 y1 (n1 + 1)) Lf 25 [false] [] [] 0 n3_ _ hC [pq h6] (sI h).symm
    ·have h := hnext1 _ hs1
     exact wx w0b (uS (n0 + 1)) (Ai9 x0 x1 y1 (n0 + 1)) Lf 23 [] [] [] 0 n3_ _ hC [] (sI h).symm
  ·have h := hnext0 _ hs0
   replace h := sI h
   subst h
   exact wr Lf 23 [] [] [] 0 [] hC []
theorem Bb1 : EN 178 := en Tryz.func178
def O2 : List Nat := [0, 1, 4, 5, 7, 8, 9, 16]
def Sd (x0 : List Bz) (n0 : Nat) (z0 : Unit) : St := [(0, .d (DS q63 x0)), (1, .d (.fn (.func 93) [] [])), (4, dI 0), (7, dI (ln x0)), (8, dI (cnt 0 n0))]
def Ym  (n0 : Nat) (z0 : Unit) : List Res := []
def Abk  (z0 : Unit) : St := [(4, dI 0)]
def Ac5  (z0 : Unit) : List Res := []
theorem A54 (x0 : List Bz) (r : Int) (h : Alg x0 = some r) : CO 147 [.d (DS q63 x0), .d (.fn (.func 93) [] [])] [] (.d (I r)) [] := by
 unfold Alg at h
 refine co 19 Tryz.func147 λ C hC => ?_
 refine ws O2 26 [] [pl q63 x0] [] 0 [] (Sd x0 0 ()) (Ym 0 ()) hC [] ?_
 obtain ⟨w0, hm0, hret0, hnext0⟩ := Ap h
 clear h
 refine wc w0 (Abk) (Ac5) ?_ λ z0 hs0 => ?_
 ·refine wb ?_
  refine Bp 0 rfl λ hl0 => ?_
  refine wl (Sd x0) (Ym) hm0 (λ z0 hn0 => ?_) λ n0 a0 z0 w0b hi0 hx0 h hb0 hr0 => ?_
  ·clear hm0
   exact wx w0 (Abk) (Ac5) O2 26 [false] [] [] 0 [] _ hC [pq (A7 hl0)] hn0
  ·unfold Adp at h
   obtain ⟨y1, h2, h⟩ := Av h
   refine wn O2 32 [true] [pt hx0 hl0, pc e93 (k93 a0 _ h2) []] [] 0 [] [0, 1, 4, 5, 7, 8, 16] hC [pq (A5 hi0 hl0)] ?_
   rcases cB h with ⟨h3, h⟩ | ⟨h3, h⟩
   ·cases h
   ·exact wx w0b (Sd x0 (n0 + 1)) (Ym (n0 + 1)) O2 25 [false] [] [] 0 [] _ hC [pq h3] (sI h).symm
 ·have h := hnext0 _ hs0
  replace h := sI h
  subst h
  exact wr O2 23 [] [] [] 0 [] hC []
theorem A70 : EN 147 := en Tryz.func147
theorem k47 (x0 : Bz) (x1 : Int) (r : Int) (h : F47 x0 x1 = some r) : CO 47 [.agg (d63 x0), .d (I x1)] [] (.d (I r)) [] := by
 unfold F47 at h
 refine co 40 Tryz.func47 λ C hC => ?_
 obtain ⟨y1, h2, h⟩ := Av h
 rcases cB h with ⟨h3, h⟩ | ⟨h3, h⟩
 ·cases h
 ·rcases cB h with ⟨h4, h⟩ | ⟨h4, h⟩
  ·cases h
  ·obtain ⟨u6, h5, y7, h8, h⟩ := A8 h
   replace h := sI h
   subst h
   exact wr [0, 1, 2, 4, 5, 6, 7, 17, 24] 39 [false, false] [pc Bcu (Bbd x0 (⟨x0.Max, 0⟩ : Fx) _ h2) [], ⟨.nz x0.Cost, Oy h5⟩, pc Bct (Bbc (w64 (Int.tdiv (w64 (1000 * x1)) x0.Cost)) _ h8) []] [] 0 [] hC [pq h3, pq h4]
theorem e47 : EN 47 := en Tryz.func47
theorem A9l (x0 : Ai) (x1 : Aa) (r : Ab × Ai) (h : qO x0 x1 = some r) : CO 79 [.d (.o 0 0), .agg [I x1.Aq, .os 1, .os 2, .os 3, I x1.Phase, I x1.Ar]] (.box 90 (d90 x0) :: zs x1 []) (.agg [.os 4, .os 5, .os 6, .os 7]) (.box 90 (d90 r.2) :: zs x1 (zp r.1 [])) := by
 unfold qO at h
 refine co 16 Tryz.func79 λ C hC => ?_
 obtain ⟨y1, h2, y3, h4, h⟩ := A8 h
 replace h := sI h
 subst h
 exact wr [0, 1, 3, 4, 5] 27 [] [⟨.flts [.box 36 [.p (.v (.slice none 0 0)), .p (.v (.slice none 0 0)), .p (.v (.slice none 0 0)), .p (.v (.slice none 0 0))]], trivial⟩, pc A78 (A6c x0 x1 _ h2) n4_, ⟨.call 131 [.agg [I x1.Aq, .os 0, .os 1, .os 2, I x1.Phase, I x1.Ar], .agg [.os 3, .os 4, .os 5, .os 6]] (zs x1 (zp y1.1 [])) (.tup [.agg [.os 7, .os 8, .os 9, .os 10], dI y3.2]) (zs x1 (zp y1.1 (zp y3.1 []))) [1, 2, 3, 7, 8, 9, 10], ⟨A79, ((A6d x1 y1.1 _ h4).lend (by kernel_rfl) (by kernel_rfl) (by kernel_rfl) ⟨Ba (λ _ => rfl), Ba (λ _ => rfl), Ba (λ _ => rfl), Ba (λ _ => rfl), trivial⟩ (by kernel_rfl) (by kernel_rfl))⟩⟩, ⟨.flt 6 (.box 36 [.p (.v (.slice none 0 0)), .p (.v (.slice none 0 0)), .p (.v (.slice none 0 0)), .p (.v (.slice none 0 0))]) (.box 36 [.p (.v (.slice none 0 0)), .p (.v (.slice none 0 0)), .p (.v (.slice none 0 0)), .p (.v (.slice none 0 0))]), rfl⟩] [] 4 [0, 1, 2, 3, 11, 12, 13, 14] hC []
theorem A93 : EN 79 := en Tryz.func79
def Z0 : List Nat := [0, 1, 2, 3, 4, 5, 6, 7, 8, 9, 10, 20, 22, 23, 49]
theorem A_3 (x0 : Aa) (x1 : Ab) (x2 : Aj) (r : Bool) (h : Aky x0 x1 x2 = some r) : CO 238 [.agg (d29 x0), .agg (d36 x1), .agg (Oc x2)] [] (.d (Bo r)) [] := by
 unfold Aky at h
 refine co 64 Tryz.func238 λ C hC => ?_
 obtain ⟨y1, h2, h⟩ := Av h
 refine wn Z0 28 [] [pc A0a (Azs x0 x1 x2.A _ h2) []] [] 0 n3_ [3, 4, 5, 6, 7, 20] hC [] ?_
 rcases cB h with ⟨h3, h⟩ | ⟨h3, h⟩
 ·replace h := sI h
  subst h
  exact wr Z0 24 [true] [] [] 0 [] hC [pq h3]
 ·rcases cB h with ⟨h4, h⟩ | ⟨h4, h⟩
  ·obtain ⟨y5, h6, y7, h8, y9, h10, h⟩ := By h
   replace h := sI h
   subst h
   exact wr Z0 34 [false, true] [pc A0a (Azs x0 x1 x2.B _ h6) [], pR A_ h8, pR A_ h10, ⟨.when [(!y5.2, false)] (.call 243 [.agg (d29 x0), .agg (Tr y7), .agg (Tr y9)] [] (dB (Akw x0 y7 y9)) [] []), λ hg => ⟨A6t, (A4x x0 y7 y9 _ rfl)⟩⟩] [] 0 [] hC [pq h3, pq h4]
  ·rcases cB h with ⟨h11, h⟩ | ⟨h11, h⟩
   ·obtain ⟨y12, h13, y14, h15, h⟩ := A8 h
    replace h := sI h
    subst h
    exact wr Z0 35 [false, false, true] [pr A_ h13, pr A_ h15, pc A6t (A4x x0 y12 y14 _ rfl) []] [] 0 [] hC [pq h3, pq h4, pq h11]
   ·replace h := sI h
    subst h
    exact wr Z0 37 [false, false, false] [] [] 0 [] hC [pq h3, pq h4, pq h11]
theorem Bbk : EN 238 := en Tryz.func238
def Nj : List Nat := [0, 1, 2, 3, 4, 5, 8, 9, 10, 11, 12, 13, 14, 15, 16, 17, 23, 44, 63, 76]
theorem Bah (x0 : Aa) (x1 : Ab) (x2 : Int) (x3 : Int) (r : Ab × Int) (h : Ak8 x0 x1 x2 x3 = some r) : CO 184 [.agg (d29 x0), .agg (d36 x1), .d (I x2), .d (I x3)] [] (.tup [.agg [.os 0, .os 1, .os 2, .os 3], .d (I r.2)]) (zp r.1 []) := by
 unfold Ak8 at h
 refine co 95 Tryz.func184 λ C hC => ?_
 obtain ⟨y1, h2, h⟩ := Av h
 refine wn Nj 28 [] [pc e43 (k43 x0 x1 _ h2) []] [.ownb 2 0 4 1, .ownb 2 1 120 4, .ownb 2 2 3 1, .ownb 2 3 86 2] 0 n7_ [2, 3, 4, 5, 8, 9, 10, 23] hC [] ?_
 rcases cB h with ⟨h3, h⟩ | ⟨h3, h⟩
 ·replace h := sI h
  subst h
  exact wr Nj 24 [true] [] [.ownb 2 0 4 1, .ownb 2 1 120 4, .ownb 2 2 3 1, .ownb 2 3 86 2] 0 [7, 8, 9, 10] hC [pq h3]
 ·rcases cB h with ⟨h4, h⟩ | ⟨h4, h⟩
  ·replace h := sI h
   subst h
   exact wr Nj 29 [false, true] [pL_ [(decide (x2 < 0), false)] Bu x0.Ac] [.ownb 2 0 4 1, .ownb 2 1 120 4, .ownb 2 2 3 1, .ownb 2 3 86 2] 0 [7, 8, 9, 10] hC [pq h3, pq h4]
  ·obtain ⟨y5, h6, y7, h8, h⟩ := A8 h
   refine wn Nj 33 [false, false] [pL_ [(decide (x2 < 0), false)] Bu x0.Ac, pc A0a (Azs x0 x1 x3 _ h6) [], pR A_ h8] [] 0 n7_ [2, 4, 5, 8, 9, 11, 63] hC [pq h3, pq h4] ?_
   rcases cB h with ⟨h9, h⟩ | ⟨h9, h⟩
   ·replace h := sI h
    subst h
    exact wr Nj 24 [true] [] [.ownb 2 0 4 1, .ownb 2 1 120 4, .ownb 2 2 3 1, .ownb 2 3 86 2] 0 [7, 8, 9, 10] hC [pq h9]
   ·obtain ⟨y10, h11, y12, h13, h⟩ := A8 h
    refine wn Nj 32 [false] [pc K6 (K4 x1 _ h11) [], pc Bbp (A_8 x0 x1 x2 _ h13) []] [] 0 Er [4, 5, 8, 9, 11, 13, 14, 15, 76] hC [pq h9] ?_
    rcases cB h with ⟨h14, h⟩ | ⟨h14, h⟩
    ·obtain ⟨y15, h16, y17, h18, y19, h20, h⟩ := By h
     replace h := sI h
     subst h
     exact wr Nj 29 [true] [pc Tp (Ta x0 x1 y12.1 _ h16) [], pr A_ h18, pc Ah2 (Ag8 y10 y15.1.Ac y17 _ h20) [7, 8, 9, 10]] [] 0 [7, 8, 9, 10] hC [pq h14]
    ·obtain ⟨y21, h22, y23, h24, h⟩ := A8 h
     replace h := sI h
     subst h
     exact wr Nj 27 [false] [pr A_ h22, pc Ah2 (Ag8 y10 [x2] y21 _ h24) [7, 8, 9, 10]] [] 0 [7, 8, 9, 10] hC [pq h14]
theorem Bby : EN 184 := en Tryz.func184
theorem A5c (x0 : Aj) (x1 : Ax) (r : Bool × Ax) (h : Ui x0 x1 = some r) : CO 206 [.agg (Oc x0), .d (.o 0 0)] (.box 211 [.o 1 0] :: .box 235 (zb x1.Am [.os 2, .os 3, .os 4, .os 5, .os 6]) :: zp x1.Au [v6_ x1.acts]) (.d (Bo r.1)) (.box 211 [.o 1 0] :: .box 235 (zb r.2.Am [.os 2, .os 3, .os 4, .os 5, .os 6]) :: zp r.2.Au [v6_ r.2.acts]) := by
 unfold Ui at h
 refine co 21 Tryz.func206 λ C hC => ?_
 obtain ⟨y1, h2, h⟩ := Av h
 replace h := sI h
 subst h
 exact wr n4_ 25 [] [pv Aq8 (λ hg => Aqu x1.Am x1.Au x0.A _ (A9 h2 hg))] [] 7 n7_ hC []
theorem A68 : EN 206 := en Tryz.func206
theorem Avh (x0 : Ax) (x1 : Int) (r : Int) (h : Pp x0 x1 = some r) : CO 234 [.d (.ip [.v (.int .i64 x0.Am.Aq), .s (x0.Am.Ae.map Bg), .s (x0.Am.Ac.map Bu), .s (x0.Am.Ad.map q65), .v (.int .i64 x0.Am.Phase), .v (.int .i64 x0.Am.Ar), .s (x0.Au.Ag.map pB), .s (x0.Au.Ac.map A_), .s (x0.Au.Ak.map pI), .s (x0.Au.Ao.map q86), .s (x0.acts.map q49)]), .d (I x1)] [] (.d (I r)) [] := by
 unfold Pp at h
 refine co 27 Tryz.func234 λ C hC => ?_
 obtain ⟨y1, h2, y3, h4, h⟩ := A8 h
 replace h := sI h
 subst h
 exact wr [0, 1, 4] 25 [] [pc A0b (Azt x0.Am x0.Au x1 _ h2) [], pc A0c (Azu x0.Am x0.Au x1 _ h4) []] [] 0 [] hC []
theorem Awa : EN 234 := en Tryz.func234
def Jy : List Nat := [0, 1, 2, 3, 4, 5, 6, 7, 8, 9, 10, 11, 12, 17, 24, 25, 26, 38, 50, 51, 52, 53, 74]
def Zh (x0 : Aa) (z0 : Int × (List Bool) × (List An)) : St := [(2, dO 0 0), (3, dO 1 0), (4, dO 2 0), (5, .d (DS q49 [])), (6, dI 0), (8, dO 11 0), (9, dS 12), (24, dI (ln x0.Ae)), (25, dI z0.1)]
def Ael (x0 : Aa) (x1 : Ab) (y4 : Ab) (z0 : Int × (List Bool) × (List An)) : List Res := (.box 29 (d29 x0) :: .box 36 (d36 x1) :: .box 36 [.os 3, .os 4, .os 5, .os 6] :: ze [v2_ z0.2.1, v4_ y4.Ac, v0_ y4.Ak, v3_ y4.Ao, .box 36 [.os 7, .os 8, .os 9, .os 10], v6_ z0.2.2])
def At8  (z0 : Int × (List Bool) × (List An)) : St := [(2, dO 0 0), (4, dO 1 0), (5, .d (DS q49 [])), (6, dI 0), (8, dO 10 0), (9, dS 11)]
def Axr (x0 : Aa) (y4 : Ab) (z0 : Int × (List Bool) × (List An)) : List Res := (.box 29 (d29 x0) :: .box 36 [.os 2, .os 3, .os 4, .os 5] :: ze [v2_ z0.2.1, v4_ y4.Ac, v0_ y4.Ak, v3_ y4.Ao, .box 36 [.os 6, .os 7, .os 8, .os 9], v6_ z0.2.2])
def Zg (x0 : Aa) (n1 : Nat) (z1 : (List Bool) × (List An)) : St := [(2, dO 0 0), (4, dO 1 0), (5, .d (DS q49 [])), (6, dI 0), (8, dO 10 0), (9, dS 11), (50, .d (DS Bg x0.Ae)), (51, dI (ln x0.Ae)), (52, dI (cnt 0 n1))]
def Aek (x0 : Aa) (y4 : Ab) (n1 : Nat) (z1 : (List Bool) × (List An)) : List Res := (.box 29 (d29 x0) :: .box 36 [.os 2, .os 3, .os 4, .os 5] :: ze [v2_ z1.1, v4_ y4.Ac, v0_ y4.Ak, v3_ y4.Ao, .box 36 [.os 6, .os 7, .os 8, .os 9], v6_ z1.2])
def At7  (z1 : (List Bool) × (List An)) : St := [(2, dO 0 0), (4, dO 1 0), (5, .d (DS q49 [])), (6, dI 0), (8, dO 10 0), (9, dS 11)]
def Axq (x0 : Aa) (y4 : Ab) (z1 : (List Bool) × (List An)) : List Res := (.box 29 (d29 x0) :: .box 36 [.os 2, .os 3, .os 4, .os 5] :: ze [v2_ z1.1, v4_ y4.Ac, v0_ y4.Ak, v3_ y4.Ao, .box 36 [.os 6, .os 7, .os 8, .os 9], v6_ z1.2])
theorem k73 (x0 : Aa) (x1 : Ab) (r : Ab × (List An) × Int) (h : F73 x0 x1 = some r) : CO 73 [.agg (d29 x0), .agg (d36 x1)] [] (.tup [.agg [.os 0, .os 1, .os 2, .os 3], .d (.os 4), .d (I r.2.2)]) (zp r.1 [v6_ r.2.1]) := by
 unfold F73 at h
 refine co 93 Tryz.func73 λ C hC => ?_
 obtain ⟨y1, h2, h⟩ := Av h
 refine wn Jy 28 [] [pc e53 (k53 x0 x1 _ h2) []] [.ownb 2 0 4 1, .ownb 2 1 120 4, .ownb 2 2 3 1, .ownb 2 3 86 2] 0 n7_ [2, 3, 4, 5, 6, 7, 17] hC [] ?_
 rcases cB h with ⟨h3, h⟩ | ⟨h3, h⟩
 ·replace h := sI h
  subst h
  exact wr Jy 24 [true] [] [.ownb 2 0 4 1, .ownb 2 1 120 4, .ownb 2 2 3 1, .ownb 2 3 86 2, .own 5 49 3] 0 [7, 8, 9, 10, 11] hC [pq h3]
 ·obtain ⟨y4, h5, h⟩ := Av h
  refine ws Jy 30 [false] [pc e65 (k65 x1 _ h5) [], pl Bg x0.Ae] [.own 9 49 3] 0 Gl (Zh x0 (0, y4.Ag, ([] : List An))) (Ael x0 x1 y4 (0, y4.Ag, ([] : List An))) hC [pq h3] ?_
  obtain ⟨w0, hm0, hret0, hnext0⟩ := Ap h
  clear h
  refine wc w0 (At8) (Axr x0 y4) ?_ λ z0 hs0 => ?_
  ·refine wb ?_
   refine ww (Zh x0) (Ael x0 x1 y4) hm0 λ z0 w0b h hb0 hr0 => ?_
   unfold Aj8 at h
   rcases cB h with ⟨h6, h⟩ | ⟨h6, h⟩
   ·obtain ⟨y7, h8, y9, h10, h⟩ := A8 h
    refine wn Jy 32 [true] [pr pB h8, pn pB h8, pw Bck (λ hg => Ba3 x0 x1 z0.1 _ (A9 h10 hg)) []] [] 0 Gl [2, 3, 4, 5, 6, 8, 9, 10, 24, 25, 38] hC [pq h6] ?_
    rcases cB h with ⟨h11, h⟩ | ⟨h11, h⟩
    ·obtain ⟨y12, h13, y14, h15, h⟩ := A8 h
     exact wx w0b (Zh x0) (Ael x0 x1 y4) Jy 27 [true] [pr pB h8, pu pB h8 h13, pa q49 3 h15] [] 0 [0, 1, 2, 3, 4, 5, 6, 7, 8, 9, 10, 11, 13] _ hC [pq h11] (sI h).symm
    ·exact wx w0b (Zh x0) (Ael x0 x1 y4) Jy 25 [false] [] [] 0 Gl _ hC [pq h11] (sI h).symm
   ·exact wx w0 (At8) (Axr x0 y4) Jy 26 [false] [] [] 0 [0, 2, 3, 4, 5, 6, 7, 8, 9, 10, 11, 12] (z0.1, z0.2.1, z0.2.2) hC [pq h6] (hb0 _ (sI h).symm)
  ·have h := hnext0 _ hs0
   refine ws Jy 24 [] [pl Bg x0.Ae] [] 0 Er (Zg x0 0 (z0.2.1, z0.2.2)) (Aek x0 y4 0 (z0.2.1, z0.2.2)) hC [] ?_
   obtain ⟨w1, hm1, hret1, hnext1⟩ := Ap h
   clear h
   refine wc w1 (At7) (Axq x0 y4) ?_ λ z1 hs1 => ?_
   ·refine wb ?_
    refine Bp 50 rfl λ hl1 => ?_
    refine wl (Zg x0) (Aek x0 y4) hm1 (λ z1 hn1 => ?_) λ n1 a1 z1 w1b hi1 hx1 h hb1 hr1 => ?_
    ·clear hm1
     exact wx w1 (At7) (Axq x0 y4) Jy 26 [false] [] [] 0 Er _ hC [pq (A7 hl1)] hn1
    ·unfold Aj7 at h
     obtain ⟨y16, h17, y18, h19, h⟩ := A8 h
     refine wn Jy 32 [true] [pt hx1 hl1, pR pB h17, pN pB h17, pv e28 (λ hg => k28 x0 (⟨z1.1, y4.Ac, y4.Ak, y4.Ao⟩ : Ab) a1.A _ (A9 h19 hg))] [] 0 Er [2, 4, 5, 6, 8, 9, 11, 50, 51, 52, 74] hC [pq (A5 hi1 hl1)] ?_
     rcases cB h with ⟨h20, h⟩ | ⟨h20, h⟩
     ·obtain ⟨y21, h22, y23, h24, y25, h26, h⟩ := By h
      exact wx w1b (Zg x0 (n1 + 1)) (Aek x0 y4 (n1 + 1)) Jy 27 [true] [pr pB h22, pu pB h22 h24, pa q49 3 h26] [] 0 [0, 1, 2, 3, 4, 5, 6, 7, 8, 9, 10, 12] _ hC [pq h20] (sI h).symm
     ·exact wx w1b (Zg x0 (n1 + 1)) (Aek x0 y4 (n1 + 1)) Jy 25 [false] [] [] 0 Er _ hC [pq h20] (sI h).symm
   ·have h := hnext1 _ hs1
    obtain ⟨y27, h28, h⟩ := Av h
    replace h := sI h
    subst h
    exact wr Jy 25 [] [⟨.call 131 [.agg (d29 x0), .agg [.os 0, .os 1, .os 2, .os 3]] [v2_ z1.1, v4_ y4.Ac, v0_ y4.Ak, v3_ y4.Ao] (.tup [.agg [.os 4, .os 5, .os 6, .os 7], dI y27.2]) (v2_ z1.1 :: v4_ y4.Ac :: v0_ y4.Ak :: v3_ y4.Ao :: zp y27.1 []) [6, 7, 8, 9], ⟨A79, ((A6d x0 (⟨z1.1, y4.Ac, y4.Ak, y4.Ao⟩ : Ab) _ h28).lend (by kernel_rfl) (by kernel_rfl) (by kernel_rfl) ⟨Ba (λ _ => rfl), Ba (λ _ => rfl), Ba (λ _ => rfl), Ba (λ _ => rfl), trivial⟩ (by kernel_rfl) (by kernel_rfl))⟩⟩] [] 0 [12, 13, 14, 15, 11] hC []
theorem e73 : EN 73 := en Tryz.func73
def Qf : List Nat := [0, 1, 2, 3, 4, 5, 6, 7, 8, 9, 10, 13, 14, 30, 33, 34, 35, 40, 61]
def Aym (x0 : Aa) (x1 : Bk) (x2 : Ab) (x3 : Int) (z0 : Unit) : List Res := [.box 29 (d29 x0), .box 31 (d31 x1), .box 36 (d36 x2), .box 3 [I x3], .box 3 [I 0], .box 4 [Bo false], .non]
theorem Bam (x0 : Aa) (x1 : Bk) (x2 : Ab) (x3 : Int) (r : Int × Bool) (h : A1n x0 x1 x2 x3 = some r) : CO 175 [.agg (d29 x0), .agg (d31 x1), .agg (d36 x2), .d (I x3)] [] (.tup [.d (I r.1), .d (Bo r.2)]) [] := by
 unfold A1n at h
 refine co 63 Tryz.func175 λ C hC => ?_
 obtain ⟨y1, h2, h⟩ := Av h
 refine wn Qf 28 [] [pc Tp (Ta x0 x2 x3 _ h2) [], pc e59 (k59 x1 _ rfl) [], pL_ [(!(F59 x1), false)] pI y1.1.Ac] [] 0 n7_ [4, 5, 6, 7, 8, 9, 10, 30] hC [] ?_
 rcases cB h with ⟨h3, h⟩ | ⟨h3, h⟩
 ·replace h := sI h
  subst h
  exact wr Qf 24 [true] [] [] 0 [] hC [pq h3]
 ·refine ws Qf 27 [false] [pc Bbr (Baa y1.1.Ac) []] [] 0 [0, 1, 2, 3, 4, 5, 7] [(4, dO 0 0), (5, dO 1 0), (6, dO 2 0), (7, dO 3 0), (8, dO 4 0), (9, dO 5 0), (33, .d (.fn (.func 236) [] [.o 6 0]))] [.box 29 (d29 x0), .box 31 (d31 x1), .box 36 (d36 x2), .box 3 [I x3], .box 3 [I 0], .box 4 [Bo false], .box 22 [DS pI y1.1.Ac]] hC [pq h3] ?_
  obtain ⟨w0, hm0, hret0, hnext0⟩ := Ap h
  clear h
  refine A06 (by kernel_rfl) (t := 33) (d := 13) (p := 35) (gf := 236) (j := 6) (ty := 22) V7 (bw y1.1.Ac) (zJ x0 x1 x2 x3) (Aym x0 x1 x2 x3) (λ _ => []) w0 () (λ a0 => dI a0.2) hm0 (A4d y1.1.Ac) (by kernel_rfl) (by kernel_rfl) (by kernel_rfl) (by kernel_rfl) (by kernel_rfl) [(4, dO 0 0), (5, dO 1 0), (6, dO 2 0), (7, dO 3 0), (8, dO 4 0), (9, dO 5 0)] (by kernel_rfl) (by kernel_rfl) (A_k (a := 34) (b := 35) (by kernel_rfl)) (A8v 34 35 (by kernel_rfl) (by decide) (by decide)) (by decide) rfl (cZ rfl) 7 (by kernel_rfl) (ay hC (bc rfl)) (λ C2 z0 hh hup2 hs0 => ?_) (λ C2 v175_0 hh hup2 hr0 a w hsR => ?_) (λ l C' a0 z0 w0b hlen hdf h hkr => ?_)
  ·have hC : C2.h.length <= 0 := by rw [hh]; exact hC
   have h := hnext0 _ hs0
   replace h := sI h
   subst h
   exact Aol (bs := []) Il Qf 24 [] [] [] [.cell 8 3, .cell 9 4] 0 [] rfl hC trivial trivial (by kernel_rfl) hup2
  ·exact absurd (hret0 _ hr0) (by simp)
  ·have hC : C'.h.length <= 7 := hlen
   unfold zJ at h
   obtain ⟨y4, h5, y6, h7, h⟩ := A8 h
   refine wn Qf 25 [] [pc A7o (A5s x0 a0.2 _ h5) [], pc J5 (J2 x2 2 y4 _ h7) []] [] 7 n7_ [4, 5, 6, 7, 8, 9, 13, 40] hC [] ?_
   rcases cB h with ⟨h8, h⟩ | ⟨h8, h⟩
   ·cases h
   ·obtain ⟨y9, h10, y11, h12, y13, h14, h⟩ := By h
    refine wn Qf 27 [false] [pc A0c (Azu x0 x2 x3 _ h10) [], pr Bu h12, pc A0b (Azt x0 x2 x3 _ h14) []] [] 7 n7_ [8, 9, 13, 61] hC [pq h8] ?_
    rcases cB h with ⟨h15, h⟩ | ⟨h15, h⟩
    ·cases h
    ·exact wx w0b (λ _ => []) (Aym x0 x1 x2 x3) Qf 24 [false] [] [] 7 n7_ _ hC [pq h15] (sI h).symm
theorem Bb3 : EN 175 := en Tryz.func175
theorem Bal (x0 : Aa) (x1 : Bk) (x2 : Ab) (x3 : Int) (r : Bool) (h : A1m x0 x1 x2 x3 = some r) : CO 177 [.agg (d29 x0), .agg (d31 x1), .agg (d36 x2), .d (I x3)] [] (.d (Bo r)) [] := by
 unfold A1m at h
 refine co 32 Tryz.func177 λ C hC => ?_
 obtain ⟨y1, h2, y3, h4, y5, h6, h⟩ := By h
 replace h := sI h
 subst h
 exact wr [0, 1, 2, 3, 4, 5, 6, 8] 25 [] [pc e59 (k59 x1 _ rfl) [], pw Aq8 (λ hg => Aqu x0 x2 x3 _ (A9 h2 hg)) [], pw A0b (λ hg => Azt x0 x2 x3 _ (A9 h4 hg)) [], pw A0c (λ hg => Azu x0 x2 x3 _ (A9 h6 hg)) []] [] 0 [] hC []
theorem Bb2 : EN 177 := en Tryz.func177
theorem A9g (x0 : List Bz) (r : Bool) (h : Asm x0 = some r) : CO 92 [.d (DS q63 x0), .d (.fn (.func 93) [] [])] [] (.d (Bo r)) [] := by
 unfold Asm at h
 refine co 9 Tryz.func92 λ C hC => ?_
 obtain ⟨y1, h2, h⟩ := Av h
 replace h := sI h
 subst h
 exact wr [0, 1, 4] 25 [] [pc A70 (A54 x0 _ h2) []] [] 0 [] hC []
theorem A9y : EN 92 := en Tryz.func92
theorem A_0 (rec46 : Aa -> Ab -> Int -> Option Bool) (ih46 : ∀ (x0 : Aa) (x1 : Ab) (x2 : Int) (r : Bool), rec46 x0 x1 x2 = some r -> CO 46 [.agg (d29 x0), .agg (d36 x1), .d (I x2)] [] (.d (Bo r)) []) (x0 : Aa) (x1 : Ab) (x2 : Int) (r : Bool) (h : A1g rec46 x0 x1 x2 = some r) : CO 46 [.agg (d29 x0), .agg (d36 x1), .d (I x2)] [] (.d (Bo r)) [] := by
 unfold A1g at h
 refine co 53 Tryz.func46 λ C hC => ?_
 obtain ⟨y1, h2, y3, h4, y5, h6, h⟩ := By h
 obtain ⟨y7, h8, y9, h10, h⟩ := A8 h
 refine wn [0, 1, 2, 3, 4, 6, 7, 8, 43] 28 [] [pc A8e (A6i x0 x1 x2 _ h2) [], pw Aq8 (λ hg => Aqu x0 x1 y1.1 _ (A9 h4 hg)) [], pw J5 (λ hg => J2 x1 4 x2 _ (A9 h6 hg)) [], pR pI h8, pR q65 h10] [] 0 [0, 1] [2, 3, 4, 6, 43] hC [] ?_
 rcases cB h with ⟨h11, h⟩ | ⟨h11, h⟩
 ·cases h
 ·obtain ⟨y12, h13, y14, h15, h⟩ := A8 h
  replace h := sI h
  subst h
  exact wr [0, 1, 2, 3, 4, 6, 7, 8, 43] 25 [false] [pr q65 h13, pc A8d (A6h rec46 ih46 y12.Needs x0 x1 _ h15) [0, 1]] [] 0 [] hC [pq h11]
theorem A_z (n : Nat) : ∀ (x0 : Aa) (x1 : Ab) (x2 : Int) (r : Bool), A1f n x0 x1 x2 = some r -> CO 46 [.agg (d29 x0), .agg (d36 x1), .d (I x2)] [] (.d (Bo r)) [] := by
 induction n with
 | zero => intro x0 x1 x2 r h; cases h
 | succ n ih => intro x0 x1 x2 r h; exact A_0 _ ih x0 x1 x2 r h
theorem k46 (x0 : Aa) (x1 : Ab) (x2 : Int) (r : Bool) (h : F46 x0 x1 x2 = some r) : CO 46 [.agg (d29 x0), .agg (d36 x1), .d (I x2)] [] (.d (Bo r)) [] := A_z 1000 x0 x1 x2 r h
def Zz : List Nat := [0, 1, 3, 4, 5, 6, 16]
def Xa  (z0 : Sg5) : St := [(0, dO 0 0), (3, dO 4 0), (4, dO 5 0), (5, dO 6 0), (6, dI z0.1)]
def zD (x1 : Aa) (y1 : Int × Ai) (y3 : Ab × Ai) (z0 : Sg5) : List Res := (.box 90 [DS pI z0.2.1, I z0.2.2.1] :: zs x1 (.box 29 [I x1.Aq, .os 1, .os 2, .os 3, I x1.Phase, I x1.Ar] :: .box 40 [I 0, .os 11, .os 12, .os 13, .os 14, .os 15, .os 16] :: .box 40 [I y1.1, .os 7, .os 8, .os 9, .os 10, .os 17, .os 18] :: zp y3.1 (ze [v5_ ([] : List A3), v1_ ([] : List Bl), v5_ (Ej z0), v1_ ([] : List Bl)])))
def Af8  (z0 : Sg5) : St := [(4, dO 4 0), (5, dO 5 0)]
def Aix (x1 : Aa) (y1 : Int × Ai) (y3 : Ab × Ai) (z0 : Sg5) : List Res := (.box 90 [DS pI z0.2.1, I z0.2.2.1] :: zs x1 (.box 40 [I 0, .os 10, .os 11, .os 12, .os 13, .os 14, .os 15] :: .box 40 [I y1.1, .os 6, .os 7, .os 8, .os 9, .os 16, .os 17] :: zp y3.1 (ze [v5_ ([] : List A3), v1_ ([] : List Bl), v5_ (Ej z0), v1_ ([] : List Bl)])))
theorem A9s (x0 : Ai) (x1 : Aa) (r : A0 × Ai) (h : qU x0 x1 = some r) : CO 31 [.d (.o 0 0), .agg [I x1.Aq, .os 1, .os 2, .os 3, I x1.Phase, I x1.Ar]] (.box 90 (d90 x0) :: zs x1 []) (.agg [I r.1.Time, .os 4, .os 5, .os 6, .os 7, .os 8, .os 9]) (.box 90 (d90 r.2) :: zs x1 (zp r.1.Power [v5_ r.1.A6, v1_ r.1.Bc])) := by
 unfold qU at h
 refine co 30 Tryz.func31 λ C hC => ?_
 obtain ⟨y1, h2, y3, h4, h⟩ := A8 h
 refine ws Zz 28 [] [⟨.flts [.box 40 [I 0, .p (.v (.slice none 0 0)), .p (.v (.slice none 0 0)), .p (.v (.slice none 0 0)), .p (.v (.slice none 0 0)), .p (.v (.slice none 0 0)), .p (.v (.slice none 0 0))]], trivial⟩, pc e78 (k78 x0 5 20 _ h2) [0], pc A93 (A9l y1.2 x1 _ h4) n4_, ⟨.flt 6 (.box 40 [I 0, .p (.v (.slice none 0 0)), .p (.v (.slice none 0 0)), .p (.v (.slice none 0 0)), .p (.v (.slice none 0 0)), .p (.v (.slice none 0 0)), .p (.v (.slice none 0 0))]) (.box 40 [I 0, .p (.v (.slice none 0 0)), .p (.v (.slice none 0 0)), .p (.v (.slice none 0 0)), .p (.v (.slice none 0 0)), .p (.v (.slice none 0 0)), .p (.v (.slice none 0 0))]), rfl⟩] [.ownb 5 1 4 1, .ownb 5 2 120 4, .ownb 5 3 3 1, .ownb 5 4 86 2, .ownb 5 5 130 2, .ownb 5 6 51 5, .ownb 6 5 130 2, .ownb 6 6 51 5] 4 A_x (Xa (0, y3.2.L, y3.2.At, ([] : List A3))) (zD x1 y1 y3 (0, y3.2.L, y3.2.At, ([] : List A3))) hC [] ?_
 obtain ⟨w0, hm0, hret0, hnext0⟩ := Ap h
 clear h
 refine wc w0 (Af8) (Aix x1 y1 y3) ?_ λ z0 hs0 => ?_
 ·refine wb ?_
  refine ww (Xa) (zD x1 y1 y3) hm0 λ z0 w0b h hb0 hr0 => ?_
  unfold Yz at h
  rcases cB h with ⟨h5, h⟩ | ⟨h5, h⟩
  ·obtain ⟨y6, h7, y8, h9, y10, h11, h⟩ := By h
   exact wx w0b (Xa) (zD x1 y1 y3) Zz 31 [true] [pc e78 (k78 (⟨z0.2.1, z0.2.2.1⟩ : Ai) (-1) 4 _ h7) [0], pc e78 (k78 y6.2 (-1) 4 _ h9) [0], pa Ce 2 h11] [] 4 [0, 1, 2, 3, 4, 5, 6, 7, 8, 9, 10, 11, 12, 13, 14, 15, 16, 19, 18] _ hC [pq h5] (sI h).symm
  ·exact wx w0 (Af8) (Aix x1 y1 y3) Zz 26 [false] [] [] 4 [0, 1, 2, 3, 5, 6, 7, 8, 9, 10, 11, 12, 13, 14, 15, 16, 17, 18] (z0.1, z0.2.1, z0.2.2.1, (Ej z0)) hC [pq h5] (hb0 _ (sI h).symm)
 ·have h := hnext0 _ hs0
  replace h := sI h
  subst h
  exact wr Zz 23 [] [] [] 4 [0, 1, 2, 3, 6, 7, 8, 9, 16, 17] hC []
theorem A_a : EN 31 := en Tryz.func31
def Ni : List Nat := [0, 1, 2, 3, 4, 6, 7, 8, 9, 11, 15, 19, 29, 66]
theorem A_7 (x0 : Aa) (x1 : Ab) (x2 : Int) (r : Int) (h : Ak1 x0 x1 x2 = some r) : CO 220 [.agg (d29 x0), .agg (d36 x1), .d (I x2)] [] (.d (I r)) [] := by
 unfold Ak1 at h
 refine co 67 Tryz.func220 λ C hC => ?_
 obtain ⟨y1, h2, h⟩ := Av h
 refine wn Ni 29 [] [pc e43 (k43 x0 x1 _ h2) []] [] 0 [0, 1] [2, 3, 4, 6, 7, 15] hC [] ?_
 rcases cB h with ⟨h3, h⟩ | ⟨h3, h⟩
 ·replace h := sI h
  subst h
  exact wr Ni 24 [true] [] [] 0 [] hC [pq h3]
 ·rcases cB h with ⟨h4, h⟩ | ⟨h4, h⟩
  ·replace h := sI h
   subst h
   exact wr Ni 27 [false, true] [pL_ [(decide (x2 < 0), false)] Bg x0.Ae] [] 0 [] hC [pq h3, pq h4]
  ·obtain ⟨y5, h6, h⟩ := Av h
   refine wn Ni 27 [false, false] [pL_ [(decide (x2 < 0), false)] Bg x0.Ae, pc Bbl (A_4 x0 x1 x2 _ h6) []] [] 0 [0, 1] [2, 3, 4, 6, 29] hC [pq h3, pq h4] ?_
   rcases cB h with ⟨h7, h⟩ | ⟨h7, h⟩
   ·replace h := sI h
    subst h
    exact wr Ni 24 [true] [] [] 0 [] hC [pq h7]
   ·obtain ⟨y8, h9, y10, h11, y12, h13, y14, h15, h⟩ := Cy h
    refine wn Ni 33 [false] [pr Bg h9, pc Tp (Ta x0 x1 y8.A _ h11) [], pw Xx (λ hg => Xr y10.1.Aq y8.B _ (A9 h13 hg)) [], pw Bbk (λ hg => A_3 x0 x1 y8 _ (A9 h15 hg)) []] [] 0 [] [6, 66] hC [pq h7] ?_
    rcases cB h with ⟨h16, h⟩ | ⟨h16, h⟩
    ·replace h := sI h
     subst h
     exact wr Ni 24 [true] [] [] 0 [] hC [pq h16]
    ·replace h := sI h
     subst h
     exact wr Ni 25 [false] [] [] 0 [] hC [pq h16]
theorem Bbo : EN 220 := en Tryz.func220
def Hz : List Nat := [0, 1, 4, 5, 6, 8, 13, 14, 15, 16, 32, 38, 39, 40, 41]
def M6 (x0 : Ax) (n0 : Nat) (z0 : Sg8) : St := [(0, dO 0 0), (1, .d (.fn (.func 206) [] [.o 6 0])), (4, dS 7), (13, .d (DS Bg x0.Am.Ae)), (14, dI (ln x0.Am.Ae)), (15, dI (cnt 0 n0))]
def Q9  (n0 : Nat) (z0 : Sg8) : List Res := [.box 235 [I z0.1, DS Bg z0.2.1, DS Bu z0.2.2.1, DS q65 (g3_ z0), I (g4_ z0), I (g5_ z0), .os 8, .os 9, .os 10, .os 11, .os 12], .non, .non, .non, .non, .non, .box 211 [.o 0 0], v0_ (g6_ z0), v2_ (g7_ z0), v4_ (g8_ z0), v0_ (g9_ z0), v3_ (Dx z0), v6_ (Im z0)]
def Abb  (z0 : Sg8) : St := [(0, dO 0 0), (4, dS 7)]
def Acw  (z0 : Sg8) : List Res := [.box 235 [I z0.1, DS Bg z0.2.1, DS Bu z0.2.2.1, DS q65 (g3_ z0), I (g4_ z0), I (g5_ z0), .os 8, .os 9, .os 10, .os 11, .os 12], .non, .non, .non, .non, .non, .box 211 [.o 0 0], v0_ (g6_ z0), v2_ (g7_ z0), v4_ (g8_ z0), v0_ (g9_ z0), v3_ (Dx z0), v6_ (Im z0)]
def R8 (z0 : Sg8) (n1 : Nat) (z1 : Sg7) : St := [(0, dO 0 0), (38, dS 7), (39, dI (ln (g6_ z0))), (40, dI (cnt 0 n1))]
def Yg (z0 : Sg8) (n1 : Nat) (z1 : Sg7) : List Res := [.box 235 [I z1.1, DS Bg z1.2.1, DS Bu z1.2.2.1, DS q65 (g3_ z1), I (g4_ z1), I (g5_ z1), .os 8, .os 9, .os 10, .os 11, .os 12], .non, .non, .non, .non, .non, .box 211 [.o 0 0], v0_ (g6_ z0), v2_ (g6_ z1), v4_ (g7_ z1), v0_ (g8_ z1), v3_ (g9_ z1), v6_ (F3 z1)]
def Aba  (z1 : Sg7) : St := []
def Acv  (z1 : Sg7) : List Res := [.box 235 [I z1.1, DS Bg z1.2.1, DS Bu z1.2.2.1, DS q65 (g3_ z1), I (g4_ z1), I (g5_ z1), .os 7, .os 8, .os 9, .os 10, .os 11], .non, .non, .non, .non, .non, .box 211 [.o 0 0], v2_ (g6_ z1), v4_ (g7_ z1), v0_ (g8_ z1), v3_ (g9_ z1), v6_ (F3 z1)]
theorem A5f (x0 : Ax) (r : Ax) (h : Un x0 = some r) : CO 204 [.d (.o 0 0), .d (.fn (.func 206) [] [.o 6 0])] (.box 235 (zb x0.Am [.os 1, .os 2, .os 3, .os 4, .os 5]) :: zp x0.Au [v6_ x0.acts, .box 211 [.o 0 0]]) (.tup []) (.box 235 (zb r.Am [.os 7, .os 8, .os 9, .os 10, .os 11]) :: .non :: .non :: .non :: .non :: .non :: .box 211 [.o 0 0] :: zp r.Au [v6_ r.acts]) := by
 unfold Un at h
 refine co 48 Tryz.func204 λ C hC => ?_
 refine ws Hz 26 [] [pl Bg x0.Am.Ae] [.own 4 3 1, .mv 1, .mv 2, .mv 3, .mv 4, .mv 5] 7 Gl (M6 x0 0 (zt x0.Am (([] : List Int), zu x0.Au x0.acts))) (Q9 0 (zt x0.Am (([] : List Int), zu x0.Au x0.acts))) hC [] ?_
 obtain ⟨w0, hm0, hret0, hnext0⟩ := Ap h
 clear h
 refine wc w0 (Abb) (Acw) ?_ λ z0 hs0 => ?_
 ·refine wb ?_
  refine Bp 13 rfl λ hl0 => ?_
  refine wl (M6 x0) (Q9) hm0 (λ z0 hn0 => ?_) λ n0 a0 z0 w0b hi0 hx0 h hb0 hr0 => ?_
  ·clear hm0
   exact wx w0 (Abb) (Acw) Hz 26 [false] [] [] 7 Gl _ hC [pq (A7 hl0)] hn0
  ·unfold Um at h
   obtain ⟨y1, h2, y3, h4, h⟩ := A8 h
   refine wn Hz 32 [true] [pt hx0 hl0, pr pB h2, pn pB h2, ⟨.whenR [(y1, true)] (.call 206 [.agg (Oc a0), dO 0 0] [.box 211 [.o 1 0], .box 235 [I z0.1, DS Bg z0.2.1, DS Bu z0.2.2.1, DS q65 (g3_ z0), I (g4_ z0), I (g5_ z0), .os 2, .os 3, .os 4, .os 5, .os 6], v2_ (g7_ z0), v4_ (g8_ z0), v0_ (g9_ z0), v3_ (Dx z0), v6_ (Im z0)] (dB y3.1) (.box 211 [.o 1 0] :: .box 235 (zb y3.2.Am [.os 2, .os 3, .os 4, .os 5, .os 6]) :: zp y3.2.Au [v6_ y3.2.acts]) [6, 0, 8, 9, 10, 11, 12]), ⟨λ hg => ⟨A68, (A5c a0 (⟨(⟨z0.1, z0.2.1, z0.2.2.1, (g3_ z0), (g4_ z0), (g5_ z0)⟩ : Aa), (⟨(g7_ z0), (g8_ z0), (g9_ z0), (Dx z0)⟩ : Ab), (Im z0)⟩ : Ax) _ (A9 h4 hg))⟩, λ hg => by have e := H4 h4 hg; subst e; rfl⟩⟩] [] 7 Gl [0, 1, 4, 5, 13, 14, 15, 32] hC [pq (A5 hi0 hl0)] ?_
   rcases cB h with ⟨h5, h⟩ | ⟨h5, h⟩
   ·obtain ⟨y6, h7, h⟩ := Av h
    exact wx w0b (M6 x0 (n0 + 1)) (Q9 (n0 + 1)) Hz 25 [true] [pa pI 1 h7] [] 7 [0, 1, 2, 3, 4, 5, 6, 13, 8, 9, 10, 11, 12] _ hC [pq h5] (sI h).symm
   ·exact wx w0b (M6 x0 (n0 + 1)) (Q9 (n0 + 1)) Hz 25 [false] [] [] 7 Gl _ hC [pq h5] (sI h).symm
 ·have h := hnext0 _ hs0
  refine ws Hz 23 [] [pl pI (g6_ z0)] [] 7 Gl (R8 z0 0 (z0.1, z0.2.1, z0.2.2.1, (g3_ z0), (g4_ z0), (g5_ z0), (g7_ z0), (g8_ z0), (g9_ z0), (Dx z0), (Im z0))) (Yg z0 0 (z0.1, z0.2.1, z0.2.2.1, (g3_ z0), (g4_ z0), (g5_ z0), (g7_ z0), (g8_ z0), (g9_ z0), (Dx z0), (Im z0))) hC [] ?_
  obtain ⟨w1, hm1, hret1, hnext1⟩ := Ap h
  clear h
  refine wc w1 (Aba) (Acv) ?_ λ z1 hs1 => ?_
  ·refine wb ?_
   refine B3 38 7 rfl rfl λ hl1 => ?_
   refine wl (R8 z0) (Yg z0) hm1 (λ z1 hn1 => ?_) λ n1 a1 z1 w1b hi1 hx1 h hb1 hr1 => ?_
   ·clear hm1
    exact wx w1 (Aba) (Acv) Hz 26 [false] [] [] 7 [0, 1, 2, 3, 4, 5, 6, 8, 9, 10, 11, 12] _ hC [pq (A7 hl1)] hn1
   ·unfold Adl at h
    obtain ⟨y8, h9, h⟩ := Av h
    exact wx w1b (R8 z0 (n1 + 1)) (Yg z0 (n1 + 1)) Hz 33 [true] [pr pI (Be hx1 hl1), pn pI (Be hx1 hl1), pc Ahy (Ag4 (⟨(⟨z1.1, z1.2.1, z1.2.2.1, (g3_ z1), (g4_ z1), (g5_ z1)⟩ : Aa), (⟨(g6_ z1), (g7_ z1), (g8_ z1), (g9_ z1)⟩ : Ab), (F3 z1)⟩ : Ax) a1 _ h9) [0, 8, 9, 10, 11, 12]] [] 7 [0, 1, 2, 3, 4, 5, 6, 7, 8, 9, 10, 11, 13] _ hC [pq (A5 hi1 hl1)] (sI h).symm
  ·have h := hnext1 _ hs1
   replace h := sI h
   subst h
   exact wf Hz 20 [] [] [] 7 Er hC []
theorem A7b : EN 204 := en Tryz.func204
def Lt : List Nat := [0, 1, 2, 7, 8, 9, 10, 11, 12, 38]
def M3 (x1 : List Int) (x2 : Int) (n0 : Nat) (z0 : (List Int) × (List An)) : St := [(0, dO 0 0), (2, dI x2), (9, dS 6), (10, dI (ln x1)), (11, dI (cnt 0 n0))]
def Q6 (x0 : Ax) (x1 : List Int) (n0 : Nat) (z0 : (List Int) × (List An)) : List Res := [.box 235 (zb x0.Am [.os 7, .os 8, .os 9, .os 10, .os 11]), .non, .non, .non, .non, .non, v0_ x1, v2_ x0.Au.Ag, v4_ x0.Au.Ac, v0_ z0.1, v3_ x0.Au.Ao, v6_ z0.2]
def Aa6  (z0 : (List Int) × (List An)) : St := []
def Acq (x0 : Ax) (x1 : List Int) (z0 : (List Int) × (List An)) : List Res := [.box 235 (zb x0.Am [.os 7, .os 8, .os 9, .os 10, .os 11]), .non, .non, .non, .non, .non, v0_ x1, v2_ x0.Au.Ag, v4_ x0.Au.Ac, v0_ z0.1, v3_ x0.Au.Ao, v6_ z0.2]
theorem A5a (x0 : Ax) (x1 : List Int) (x2 : Int) (r : Ax) (h : Ps x0 x1 x2 = some r) : CO 210 [.d (.o 0 0), .d (.os 6), .d (I x2)] (.box 235 (zb x0.Am [.os 1, .os 2, .os 3, .os 4, .os 5]) :: zp x0.Au [v6_ x0.acts, v0_ x1]) (.tup []) (.box 235 (zb r.Am [.os 7, .os 8, .os 9, .os 10, .os 11]) :: .non :: .non :: .non :: .non :: .non :: v0_ x1 :: zp r.Au [v6_ r.acts]) := by
 unfold Ps at h
 refine co 70 Tryz.func210 λ C hC => ?_
 refine ws Lt 23 [] [pl pI x1] [.mv 1, .mv 2, .mv 3, .mv 4, .mv 5] 7 Er (M3 x1 x2 0 (x0.Au.Ak, x0.acts)) (Q6 x0 x1 0 (x0.Au.Ak, x0.acts)) hC [] ?_
 obtain ⟨w0, hm0, hret0, hnext0⟩ := Ap h
 clear h
 refine wc w0 (Aa6) (Acq x0 x1) ?_ λ z0 hs0 => ?_
 ·refine wb ?_
  refine B3 9 6 rfl rfl λ hl0 => ?_
  refine wl (M3 x1 x2) (Q6 x0 x1) hm0 (λ z0 hn0 => ?_) λ n0 a0 z0 w0b hi0 hx0 h hb0 hr0 => ?_
  ·clear hm0
   exact wx w0 (Aa6) (Acq x0 x1) Lt 26 [false] [] [] 7 Er _ hC [pq (A7 hl0)] hn0
  ·unfold Uf at h
   obtain ⟨y1, h2, y3, h4, y5, h6, h⟩ := By h
   refine wn Lt 34 [true] [pr pI (Be hx0 hl0), pn pI (Be hx0 hl0), pb Awa (Avh (⟨x0.Am, (⟨x0.Au.Ag, x0.Au.Ac, z0.1, x0.Au.Ao⟩ : Ab), z0.2⟩ : Ax) x2 _ h2), pr pI h4, pn pI h4, pr q65 h6] [] 7 Er [0, 2, 7, 8, 9, 10, 11, 38] hC [pq (A5 hi0 hl0)] ?_
   rcases cB h with ⟨h7, h⟩ | ⟨h7, h⟩
   ·obtain ⟨y8, h9, y10, h11, y12, h13, h⟩ := By h
    exact wx w0b (M3 x1 x2 (n0 + 1)) (Q6 x0 x1 (n0 + 1)) Lt 27 [true] [pr pI h4, pn pI h4, pr pI h4, pu pI h4 h9, pr pI h11, pn pI h11, pa q49 3 h13] [] 7 [0, 1, 2, 3, 4, 5, 6, 7, 8, 9, 10, 12] _ hC [pq h7] (sI h).symm
   ·exact wx w0b (M3 x1 x2 (n0 + 1)) (Q6 x0 x1 (n0 + 1)) Lt 25 [false] [] [] 7 Er _ hC [pq h7] (sI h).symm
 ·have h := hnext0 _ hs0
  replace h := sI h
  subst h
  exact wf Lt 20 [] [] [] 7 Er hC []
theorem A66 : EN 210 := en Tryz.func210
def Ls : List Nat := [0, 1, 2, 7, 8, 9, 10, 11, 28]
def M2 (x1 : List Int) (x2 : Int) (n0 : Nat) (z0 : Sg7) : St := [(0, dO 0 0), (2, dI x2), (8, dS 6), (9, dI (ln x1)), (10, dI (cnt 0 n0))]
def Q5 (x1 : List Int) (n0 : Nat) (z0 : Sg7) : List Res := [.box 235 [I z0.1, DS Bg z0.2.1, DS Bu z0.2.2.1, DS q65 (g3_ z0), I (g4_ z0), I (g5_ z0), .os 7, .os 8, .os 9, .os 10, .os 11], .non, .non, .non, .non, .non, v0_ x1, v2_ (g6_ z0), v4_ (g7_ z0), v0_ (g8_ z0), v3_ (g9_ z0), v6_ (F3 z0)]
def Aa5  (z0 : Sg7) : St := []
def Acp (x1 : List Int) (z0 : Sg7) : List Res := [.box 235 [I z0.1, DS Bg z0.2.1, DS Bu z0.2.2.1, DS q65 (g3_ z0), I (g4_ z0), I (g5_ z0), .os 7, .os 8, .os 9, .os 10, .os 11], .non, .non, .non, .non, .non, v0_ x1, v2_ (g6_ z0), v4_ (g7_ z0), v0_ (g8_ z0), v3_ (g9_ z0), v6_ (F3 z0)]
theorem A49 (x0 : Ax) (x1 : List Int) (x2 : Int) (r : Ax) (h : Pr x0 x1 x2 = some r) : CO 211 [.d (.o 0 0), .d (.os 6), .d (I x2)] (.box 235 (zb x0.Am [.os 1, .os 2, .os 3, .os 4, .os 5]) :: zp x0.Au [v6_ x0.acts, v0_ x1]) (.tup []) (.box 235 (zb r.Am [.os 7, .os 8, .os 9, .os 10, .os 11]) :: .non :: .non :: .non :: .non :: .non :: v0_ x1 :: zp r.Au [v6_ r.acts]) := by
 unfold Pr at h
 refine co 33 Tryz.func211 λ C hC => ?_
 refine ws Ls 23 [] [pl pI x1] [.mv 1, .mv 2, .mv 3, .mv 4, .mv 5] 7 Er (M2 x1 x2 0 (zt x0.Am (zu x0.Au x0.acts))) (Q5 x1 0 (zt x0.Am (zu x0.Au x0.acts))) hC [] ?_
 obtain ⟨w0, hm0, hret0, hnext0⟩ := Ap h
 clear h
 refine wc w0 (Aa5) (Acp x1) ?_ λ z0 hs0 => ?_
 ·refine wb ?_
  refine B3 8 6 rfl rfl λ hl0 => ?_
  refine wl (M2 x1 x2) (Q5 x1) hm0 (λ z0 hn0 => ?_) λ n0 a0 z0 w0b hi0 hx0 h hb0 hr0 => ?_
  ·clear hm0
   exact wx w0 (Aa5) (Acp x1) Ls 26 [false] [] [] 7 Er _ hC [pq (A7 hl0)] hn0
  ·unfold Ue at h
   obtain ⟨y1, h2, y3, h4, h⟩ := A8 h
   refine wn Ls 32 [true] [pr pI (Be hx0 hl0), pn pI (Be hx0 hl0), pr pI h2, pn pI h2, pv Awa (λ hg => Avh (⟨(⟨z0.1, z0.2.1, z0.2.2.1, (g3_ z0), (g4_ z0), (g5_ z0)⟩ : Aa), (⟨(g6_ z0), (g7_ z0), (g8_ z0), (g9_ z0)⟩ : Ab), (F3 z0)⟩ : Ax) x2 _ (A9 h4 hg))] [] 7 Gl [0, 2, 7, 8, 9, 10, 28] hC [pq (A5 hi0 hl0)] ?_
   rcases cB h with ⟨h5, h⟩ | ⟨h5, h⟩
   ·obtain ⟨y6, h7, h⟩ := Av h
    exact wx w0b (M2 x1 x2 (n0 + 1)) (Q5 x1 (n0 + 1)) Ls 25 [true] [pc A7a (A5e (⟨(⟨z0.1, z0.2.1, z0.2.2.1, (g3_ z0), (g4_ z0), (g5_ z0)⟩ : Aa), (⟨(g6_ z0), (g7_ z0), (g8_ z0), (g9_ z0)⟩ : Ab), (F3 z0)⟩ : Ax) a0 _ h7) [0, 7, 8, 9, 10, 11, 12]] [] 7 [0, 1, 2, 3, 4, 5, 6, 13, 14, 15, 16, 17] _ hC [pq h5] (sI h).symm
   ·exact wx w0b (M2 x1 x2 (n0 + 1)) (Q5 x1 (n0 + 1)) Ls 25 [false] [] [] 7 Er _ hC [pq h5] (sI h).symm
 ·have h := hnext0 _ hs0
  replace h := sI h
  subst h
  exact wf Ls 20 [] [] [] 7 Er hC []
theorem A65 : EN 211 := en Tryz.func211
def Cw : List Nat := [0, 1, 2, 3, 4, 5, 6, 7, 9, 10, 11, 12, 14, 15, 17, 18, 20, 21, 22, 24, 25, 26, 28, 43, 55, 58, 59, 60, 74, 78, 79, 80, 92, 96, 97, 98, 99, 108, 114, 115, 116, 117, 120, 121, 122, 123, 129, 135, 136, 137, 138, 162, 163, 164, 165, 166, 196, 214]
def Afq (x2 : Ab) (z0 : Int) : St := [(3, dO 0 0), (5, dO 1 0), (6, dB false), (7, dO 6 0), (58, dI (ln x2.Ag)), (59, dI z0)]
def Asg (x0 : Aa) (x2 : Ab) (y1 : Ab × (List An) × Int) (z0 : Int) : List Res := (.box 29 (d29 x0) :: .box 36 (d36 x2) :: zp y1.1 [.box 36 [.os 2, .os 3, .os 4, .os 5]])
def Auz  (z0 : Int) : St := [(3, dO 0 0), (5, dO 1 0), (6, dB false), (7, dO 6 0)]
def Ayi (x0 : Aa) (x2 : Ab) (y1 : Ab × (List An) × Int) (z0 : Int) : List Res := (.box 29 (d29 x0) :: .box 36 (d36 x2) :: zp y1.1 [.box 36 [.os 2, .os 3, .os 4, .os 5]])
def Afp (x2 : Ab) (z1 : Int) : St := [(3, dO 0 0), (5, dO 1 0), (6, dB false), (7, dO 6 0), (78, dI (ln x2.Ak)), (79, dI z1)]
def Asf (x0 : Aa) (x2 : Ab) (y1 : Ab × (List An) × Int) (z1 : Int) : List Res := (.box 29 (d29 x0) :: .box 36 (d36 x2) :: zp y1.1 [.box 36 [.os 2, .os 3, .os 4, .os 5]])
def Auy  (z1 : Int) : St := [(3, dO 0 0), (5, dO 1 0), (6, dB false), (7, dO 6 0)]
def Ayh (x0 : Aa) (x2 : Ab) (y1 : Ab × (List An) × Int) (z1 : Int) : List Res := (.box 29 (d29 x0) :: .box 36 (d36 x2) :: zp y1.1 [.box 36 [.os 2, .os 3, .os 4, .os 5]])
def Afo (y23 : (List Af)) (n2 : Nat) (z2 : Unit) : St := [(3, dO 0 0), (5, dO 1 0), (6, dB false), (7, dO 6 0), (96, dS 7), (97, dI (ln y23)), (98, dI (cnt 0 n2))]
def Ase (x0 : Aa) (x2 : Ab) (y1 : Ab × (List An) × Int) (y23 : (List Af)) (n2 : Nat) (z2 : Unit) : List Res := (.box 29 (d29 x0) :: .box 36 (d36 x2) :: zp y1.1 [.box 36 [.os 2, .os 3, .os 4, .os 5], v7_ y23])
def Aux  (z2 : Unit) : St := [(3, dO 0 0), (5, dO 1 0), (6, dB false), (7, dO 6 0)]
def Ayg (x0 : Aa) (x2 : Ab) (y1 : Ab × (List An) × Int) (z2 : Unit) : List Res := (.box 29 (d29 x0) :: .box 36 (d36 x2) :: zp y1.1 [.box 36 [.os 2, .os 3, .os 4, .os 5]])
def Afn (y32 : (List Af)) (n3 : Nat) (z3 : Unit) : St := [(3, dO 0 0), (5, dO 1 0), (6, dB false), (7, dO 6 0), (15, dS 7), (114, dS 8), (115, dI (ln y32)), (116, dI (cnt 0 n3))]
def Asd (x0 : Aa) (x2 : Ab) (y1 : Ab × (List An) × Int) (y30 : (List Int)) (y32 : (List Af)) (n3 : Nat) (z3 : Unit) : List Res := (.box 29 (d29 x0) :: .box 36 (d36 x2) :: zp y1.1 [.box 36 [.os 2, .os 3, .os 4, .os 5], v0_ y30, v7_ y32])
def Auw  (z3 : Unit) : St := [(6, dB false)]
def Ayf  (z3 : Unit) : List Res := []
def Zq (y30 : (List Int)) (y32 : (List Af)) (n3 : Nat) (n4 : Nat) (z4 : (List Int)) : St := [(3, dO 0 0), (5, dO 1 0), (6, dB false), (7, dO 6 0), (15, dS 7), (17, dO 9 0), (18, dS 10), (114, dS 8), (115, dI (ln y32)), (116, dI (cnt 0 n3)), (120, dS 7), (121, dI (ln y30)), (122, dI (cnt 0 n4))]
def Aeu (x0 : Aa) (x2 : Ab) (y1 : Ab × (List An) × Int) (y30 : (List Int)) (y32 : (List Af)) (a3 : Af) (n4 : Nat) (z4 : (List Int)) : List Res := (.box 29 (d29 x0) :: .box 36 (d36 x2) :: zp y1.1 [.box 36 [.os 2, .os 3, .os 4, .os 5], v0_ y30, v7_ y32, .box 84 (d84 a3), v0_ z4])
def Auv (y32 : (List Af)) (n3 : Nat) (z4 : (List Int)) : St := [(3, dO 0 0), (5, dO 1 0), (6, dB false), (7, dO 6 0), (15, dS 7), (18, dS 9), (114, dS 8), (115, dI (ln y32)), (116, dI (cnt 0 n3))]
def Aye (x0 : Aa) (x2 : Ab) (y1 : Ab × (List An) × Int) (y30 : (List Int)) (y32 : (List Af)) (z4 : (List Int)) : List Res := (.box 29 (d29 x0) :: .box 36 (d36 x2) :: zp y1.1 [.box 36 [.os 2, .os 3, .os 4, .os 5], v0_ y30, v7_ y32, v0_ z4])
def Zp (y32 : (List Af)) (n3 : Nat) (z4 : (List Int)) (n5 : Nat) (z5 : Unit) : St := [(3, dO 0 0), (5, dO 1 0), (6, dB false), (7, dO 6 0), (15, dS 7), (18, dS 9), (114, dS 8), (115, dI (ln y32)), (116, dI (cnt 0 n3)), (135, dS 9), (136, dI (ln z4)), (137, dI (cnt 0 n5))]
def Aet (x0 : Aa) (x2 : Ab) (y1 : Ab × (List An) × Int) (y30 : (List Int)) (y32 : (List Af)) (z4 : (List Int)) (n5 : Nat) (z5 : Unit) : List Res := (.box 29 (d29 x0) :: .box 36 (d36 x2) :: zp y1.1 [.box 36 [.os 2, .os 3, .os 4, .os 5], v0_ y30, v7_ y32, v0_ z4])
def Auu (y32 : (List Af)) (n3 : Nat) (z5 : Unit) : St := [(3, dO 0 0), (5, dO 1 0), (6, dB false), (7, dO 6 0), (15, dS 7), (114, dS 8), (115, dI (ln y32)), (116, dI (cnt 0 n3))]
def Ayd (x0 : Aa) (x2 : Ab) (y1 : Ab × (List An) × Int) (y30 : (List Int)) (y32 : (List Af)) (z5 : Unit) : List Res := (.box 29 (d29 x0) :: .box 36 (d36 x2) :: zp y1.1 [.box 36 [.os 2, .os 3, .os 4, .os 5], v0_ y30, v7_ y32])
def Afm (y32 : (List Af)) (n3 : Nat) (z4 : (List Int)) (n5 : Nat) (y39 : Int × Bool) (n6 : Nat) (z6 : Unit) : St := [(3, dO 0 0), (5, dO 1 0), (6, dB false), (7, dO 6 0), (15, dS 7), (18, dS 9), (21, dI (cnt 0 n5)), (24, dB y39.2), (114, dS 8), (115, dI (ln y32)), (116, dI (cnt 0 n3)), (135, dS 9), (136, dI (ln z4)), (137, dI (cnt 0 n5)), (163, dS 9), (164, dI (ln z4)), (165, dI (cnt 0 n6))]
def Asc (x0 : Aa) (x2 : Ab) (y1 : Ab × (List An) × Int) (y30 : (List Int)) (y32 : (List Af)) (z4 : (List Int)) (n6 : Nat) (z6 : Unit) : List Res := (.box 29 (d29 x0) :: .box 36 (d36 x2) :: zp y1.1 [.box 36 [.os 2, .os 3, .os 4, .os 5], v0_ y30, v7_ y32, v0_ z4])
def Aut (y32 : (List Af)) (n3 : Nat) (z4 : (List Int)) (n5 : Nat) (z6 : Unit) : St := [(3, dO 0 0), (5, dO 1 0), (6, dB false), (7, dO 6 0), (15, dS 7), (18, dS 9), (114, dS 8), (115, dI (ln y32)), (116, dI (cnt 0 n3)), (135, dS 9), (136, dI (ln z4)), (137, dI (cnt 0 n5))]
def Ayc (x0 : Aa) (x2 : Ab) (y1 : Ab × (List An) × Int) (y30 : (List Int)) (y32 : (List Af)) (z4 : (List Int)) (z6 : Unit) : List Res := (.box 29 (d29 x0) :: .box 36 (d36 x2) :: zp y1.1 [.box 36 [.os 2, .os 3, .os 4, .os 5], v0_ y30, v7_ y32, v0_ z4])
set_option maxHeartbeats 4000000 in
theorem k24 (x0 : Aa) (x1 : Ab) (x2 : Ab) (r : Bool) (h : F24 x0 x1 x2 = some r) : CO 24 [.agg (d29 x0), .agg (d36 x1), .agg (d36 x2)] [] (.d (Bo r)) [] := by
 unfold F24 at h
 refine co 218 Tryz.func24 λ C hC => ?_
 obtain ⟨y1, h2, y3, h4, h⟩ := A8 h
 refine wn Cw 28 [] [pc e73 (k73 x0 x1 _ h2) [], pw e53 (λ hg => k53 x0 x2 _ (A9 h4 hg)) []] [] 0 [0, 2, 3, 4, 5, 6, 8] [3, 5, 6, 7, 43] hC [] ?_
 rcases cB h with ⟨h5, h⟩ | ⟨h5, h⟩
 ·replace h := sI h
  subst h
  exact wr Cw 24 [true] [] [] 0 [] hC [pq h5]
 ·obtain ⟨y6, h7, y8, h9, h⟩ := A8 h
  refine wn Cw 30 [false] [pc e65 (k65 x2 _ h7) [], pb e19 (k19 (⟨y1.1.Ag, y6.Ac, y1.1.Ak, y6.Ao⟩ : Ab) y1.1 _ h9)] [] 0 n7_ [3, 5, 6, 7, 55] hC [pq h5] ?_
  rcases cB h with ⟨h10, h⟩ | ⟨h10, h⟩
  ·replace h := sI h
   subst h
   exact wr Cw 24 [true] [] [] 0 [] hC [pq h10]
  ·refine ws Cw 26 [false] [pl pB x2.Ag] [] 0 n7_ (Afq x2 0) (Asg x0 x2 y1 0) hC [pq h10] ?_
   obtain ⟨w0, hm0, hret0, hnext0⟩ := Ap h
   clear h
   refine wc w0 (Auz) (Ayi x0 x2 y1) ?_ λ z0 hs0 => ?_
   ·refine wb ?_
    refine ww (Afq x2) (Asg x0 x2 y1) hm0 λ z0 w0b h hb0 hr0 => ?_
    unfold Akv at h
    rcases cB h with ⟨h11, h⟩ | ⟨h11, h⟩
    ·obtain ⟨y12, h13, y14, h15, h⟩ := A8 h
     refine wn Cw 32 [true] [pr pB h13, pR pB h15, pN pB h15] [] 0 n7_ [3, 5, 6, 7, 58, 59, 74] hC [pq h11] ?_
     rcases cB h with ⟨h16, h⟩ | ⟨h16, h⟩
     ·have hq := hret0 _ (hr0 _ (sI h).symm)
      replace hq := sI hq
      subst hq
      exact wr Cw 24 [true] [] [] 0 [] hC [pq h16]
     ·exact wx w0b (Afq x2) (Asg x0 x2 y1) Cw 25 [false] [] [] 0 n7_ _ hC [pq h16] (sI h).symm
    ·exact wx w0 (Auz) (Ayi x0 x2 y1) Cw 26 [false] [] [] 0 n7_ z0 hC [pq h11] (hb0 _ (sI h).symm)
   ·have h := hnext0 _ hs0
    refine ws Cw 24 [] [pl pI x2.Ak] [] 0 n7_ (Afp x2 0) (Asf x0 x2 y1 0) hC [] ?_
    obtain ⟨w1, hm1, hret1, hnext1⟩ := Ap h
    clear h
    refine wc w1 (Auy) (Ayh x0 x2 y1) ?_ λ z1 hs1 => ?_
    ·refine wb ?_
     refine ww (Afp x2) (Asf x0 x2 y1) hm1 λ z1 w1b h hb1 hr1 => ?_
     unfold Aku at h
     rcases cB h with ⟨h17, h⟩ | ⟨h17, h⟩
     ·obtain ⟨y18, h19, y20, h21, h⟩ := A8 h
      rcases cB h with ⟨h22, h⟩ | ⟨h22, h⟩
      ·have hq := hret1 _ (hr1 _ (sI h).symm)
       replace hq := sI hq
       subst hq
       exact wr Cw 35 [true, true] [pr pI h19, pr pI h21, pn pI h21] [] 0 [] hC [pq h17, pq h22]
      ·exact wx w1b (Afp x2) (Asf x0 x2 y1) Cw 36 [true, false] [pr pI h19, pr pI h21, pn pI h21] [] 0 n7_ _ hC [pq h17, pq h22] (sI h).symm
     ·exact wx w1 (Auy) (Ayh x0 x2 y1) Cw 26 [false] [] [] 0 n7_ z1 hC [pq h17] (hb1 _ (sI h).symm)
    ·have h := hnext1 _ hs1
     obtain ⟨y23, h24, h⟩ := Av h
     refine ws Cw 24 [] [pc e25 (k25 x0 x2 _ h24) [], pl q84 y23] [] 0 n8_ (Afo y23 0 ()) (Ase x0 x2 y1 y23 0 ()) hC [] ?_
     obtain ⟨w2, hm2, hret2, hnext2⟩ := Ap h
     clear h
     refine wc w2 (Aux) (Ayg x0 x2 y1) ?_ λ z2 hs2 => ?_
     ·refine wb ?_
      refine B3 96 7 rfl rfl λ hl2 => ?_
      refine wl (Afo y23) (Ase x0 x2 y1 y23) hm2 (λ z2 hn2 => ?_) λ n2 a2 z2 w2b hi2 hx2 h hb2 hr2 => ?_
      ·clear hm2
       exact wx w2 (Aux) (Ayg x0 x2 y1) Cw 26 [false] [] [] 0 n7_ _ hC [pq (A7 hl2)] hn2
      ·unfold Akt at h
       obtain ⟨y25, h26, y27, h28, h⟩ := A8 h
       refine wn Cw 32 [true] [pr q84 (Be hx2 hl2), pn q84 (Be hx2 hl2), pr pI h26, pc e26 (k26 x0 x2 y25 _ h28) []] [] 0 n8_ [3, 5, 6, 7, 96, 97, 98, 108] hC [pq (A5 hi2 hl2)] ?_
       rcases cB h with ⟨h29, h⟩ | ⟨h29, h⟩
       ·have hq := hret2 _ (hr2 _ (sI h).symm)
        replace hq := sI hq
        subst hq
        exact wr Cw 24 [true] [] [] 0 [] hC [pq h29]
       ·exact wx w2b (Afo y23 (n2 + 1)) (Ase x0 x2 y1 y23 (n2 + 1)) Cw 25 [false] [] [] 0 n8_ _ hC [pq h29] (sI h).symm
     ·have h := hnext2 _ hs2
      obtain ⟨y30, h31, y32, h33, h⟩ := A8 h
      refine ws Cw 26 [] [pc e74 (k74 x0 _ h31) [], pc A2b (A16 x0 y1.1 _ h33) [2, 3, 4, 5], pl q84 y32] [] 0 n9_ (Afn y32 0 ()) (Asd x0 x2 y1 y30 y32 0 ()) hC [] ?_
      obtain ⟨w3, hm3, hret3, hnext3⟩ := Ap h
      clear h
      refine wc w3 (Auw) (Ayf) ?_ λ z3 hs3 => ?_
      ·refine wb ?_
       refine B3 114 8 rfl rfl λ hl3 => ?_
       refine wl (Afn y32) (Asd x0 x2 y1 y30 y32) hm3 (λ z3 hn3 => ?_) λ n3 a3 z3 w3b hi3 hx3 h hb3 hr3 => ?_
       ·clear hm3
        exact wx w3 (Auw) (Ayf) Cw 26 [false] [] [] 0 [] _ hC [pq (A7 hl3)] hn3
       ·unfold Aks at h
        refine ws Cw 35 [true] [pr q84 (Be hx3 hl3), pn q84 (Be hx3 hl3), pl pI y30] [.own 18 3 1] 0 Sz (Zq y30 y32 n3 0 ([] : List Int)) (Aeu x0 x2 y1 y30 y32 a3 0 ([] : List Int)) hC [pq (A5 hi3 hl3)] ?_
        obtain ⟨w4, hm4, hret4, hnext4⟩ := Ap h
        clear h
        refine wc w4 (Auv y32 n3) (Aye x0 x2 y1 y30 y32) ?_ λ z4 hs4 => ?_
        ·refine wb ?_
         refine B3 120 7 rfl rfl λ hl4 => ?_
         refine wl (Zq y30 y32 n3) (Aeu x0 x2 y1 y30 y32 a3) hm4 (λ z4 hn4 => ?_) λ n4 a4 z4 w4b hi4 hx4 h hb4 hr4 => ?_
         ·clear hm4
          exact wx w4 (Auv y32 n3) (Aye x0 x2 y1 y30 y32) Cw 26 [false] [] [] 0 [0, 1, 2, 3, 4, 5, 6, 7, 8, 10] _ hC [pq (A7 hl4)] hn4
         ·unfold Akr at h
          obtain ⟨y34, h35, h⟩ := Av h
          refine wn Cw 32 [true] [pr pI (Be hx4 hl4), pn pI (Be hx4 hl4), pc e55 (k55 a3.Ad a4 _ h35) []] [] 0 Sz [3, 5, 6, 7, 15, 17, 18, 20, 114, 115, 116, 120, 121, 122, 129] hC [pq (A5 hi4 hl4)] ?_
          rcases cB h with ⟨h36, h⟩ | ⟨h36, h⟩
          ·obtain ⟨y37, h38, h⟩ := Av h
           exact wx w4b (Zq y30 y32 n3 (n4 + 1)) (Aeu x0 x2 y1 y30 y32 a3 (n4 + 1)) Cw 25 [true] [pa pI 1 h38] [] 0 [0, 1, 2, 3, 4, 5, 6, 7, 8, 9, 11] _ hC [pq h36] (sI h).symm
          ·exact wx w4b (Zq y30 y32 n3 (n4 + 1)) (Aeu x0 x2 y1 y30 y32 a3 (n4 + 1)) Cw 25 [false] [] [] 0 Sz _ hC [pq h36] (sI h).symm
        ·have h := hnext4 _ hs4
         refine ws Cw 23 [] [pl pI z4] [] 0 Es (Zp y32 n3 z4 0 ()) (Aet x0 x2 y1 y30 y32 z4 0 ()) hC [] ?_
         obtain ⟨w5, hm5, hret5, hnext5⟩ := Ap h
         clear h
         refine wc w5 (Auu y32 n3) (Ayd x0 x2 y1 y30 y32) ?_ λ z5 hs5 => ?_
         ·refine wb ?_
          refine B3 135 9 rfl rfl λ hl5 => ?_
          refine wl (Zp y32 n3 z4) (Aet x0 x2 y1 y30 y32 z4) hm5 (λ z5 hn5 => ?_) λ n5 a5 z5 w5b hi5 hx5 h hb5 hr5 => ?_
          ·clear hm5
           exact wx w5 (Auu y32 n3) (Ayd x0 x2 y1 y30 y32) Cw 26 [false] [] [] 0 n9_ _ hC [pq (A7 hl5)] hn5
          ·unfold Akq at h
           obtain ⟨y39, h40, y41, h42, y43, h44, h⟩ := By h
           refine wn Cw 35 [true] [pr pI (Be hx5 hl5), pn pI (Be hx5 hl5), pc e48 (k48 x0 x2 a5 _ h40) [], pR pI h42, pR pI h44, pN pI h44] [] 0 Es [3, 5, 6, 7, 15, 18, 21, 24, 114, 115, 116, 135, 136, 137, 162] hC [pq (A5 hi5 hl5)] ?_
           rcases cB h with ⟨h45, h⟩ | ⟨h45, h⟩
           ·exact wx w5b (Zp y32 n3 z4 (n5 + 1)) (Aet x0 x2 y1 y30 y32 z4 (n5 + 1)) Cw 24 [true] [] [] 0 Es _ hC [pq h45] (sI h).symm
           ·refine ws Cw 25 [false] [pl pI z4] [] 0 Es (Afm y32 n3 z4 n5 y39 0 ()) (Asc x0 x2 y1 y30 y32 z4 0 ()) hC [pq h45] ?_
            obtain ⟨w6, hm6, hret6, hnext6⟩ := Ap h
            clear h
            refine wc w6 (Aut y32 n3 z4 n5) (Ayc x0 x2 y1 y30 y32 z4) ?_ λ z6 hs6 => ?_
            ·refine wb ?_
             refine B3 163 9 rfl rfl λ hl6 => ?_
             refine wl (Afm y32 n3 z4 n5 y39) (Asc x0 x2 y1 y30 y32 z4) hm6 (λ z6 hn6 => ?_) λ n6 a6 z6 w6b hi6 hx6 h hb6 hr6 => ?_
             ·clear hm6
              exact wx w6 (Aut y32 n3 z4 n5) (Ayc x0 x2 y1 y30 y32 z4) Cw 26 [false] [] [] 0 Es _ hC [pq (A7 hl6)] hn6
             ·unfold Akp at h
              obtain ⟨y46, h47, y48, h49, y50, h51, h⟩ := By h
              refine wn Cw 35 [true] [pr pI (Be hx6 hl6), pn pI (Be hx6 hl6), pc e48 (k48 x0 x2 a6 _ h47) [], pR pI h49, pR q65 h51] [] 0 Es [3, 5, 6, 7, 15, 18, 21, 24, 25, 26, 28, 114, 115, 116, 135, 136, 137, 163, 164, 165, 196] hC [pq (A5 hi6 hl6)] ?_
              rcases cB h with ⟨h52, h⟩ | ⟨h52, h⟩
              ·have hq := hret6 _ (hr6 _ (sI h).symm)
               replace hq := hret5 _ (hr5 _ (sI hq).symm)
               replace hq := hret3 _ (hr3 _ (sI hq).symm)
               replace hq := sI hq
               subst hq
               exact wr Cw 24 [true] [] [] 0 [] hC [pq h52]
              ·obtain ⟨y53, h54, h⟩ := Av h
               rcases cB h with ⟨h55, h⟩ | ⟨h55, h⟩
               ·have hq := hret6 _ (hr6 _ (sI h).symm)
                replace hq := hret5 _ (hr5 _ (sI hq).symm)
                replace hq := hret3 _ (hr3 _ (sI hq).symm)
                replace hq := sI hq
                subst hq
                exact wr Cw 28 [false, true] [pR pI h54] [] 0 [] hC [pq h52, pq h55]
               ·exact wx w6b (Afm y32 n3 z4 n5 y39 (n6 + 1)) (Asc x0 x2 y1 y30 y32 z4 (n6 + 1)) Cw 29 [false, false] [pR pI h54] [] 0 Es _ hC [pq h52, pq h55] (sI h).symm
            ·have h := hnext6 _ hs6
             exact wx w5b (Zp y32 n3 z4 (n5 + 1)) (Aet x0 x2 y1 y30 y32 z4 (n5 + 1)) Cw 23 [] [] [] 0 Es _ hC [] (sI h).symm
         ·have h := hnext5 _ hs5
          exact wx w3b (Afn y32 (n3 + 1)) (Asd x0 x2 y1 y30 y32 (n3 + 1)) Cw 23 [] [] [] 0 n9_ _ hC [] (sI h).symm
      ·have h := hnext3 _ hs3
       replace h := sI h
       subst h
       exact wr Cw 23 [] [] [] 0 [] hC []
theorem e24 : EN 24 := en Tryz.func24
def Vs : List Nat := [0, 1, 2, 3, 4, 5, 6, 7, 8, 10, 11, 12, 13, 14, 15, 16, 17, 18, 19, 20, 21, 22, 27, 32, 59, 114, 123, 138]
theorem A6b (x0 : Aa) (x1 : Bk) (x2 : Ab) (x3 : Int) (x4 : Int) (x5 : A3) (r : A3 × (List An) × Int) (h : Alk x0 x1 x2 x3 x4 x5 = some r) : CO 133 [.agg (d29 x0), .agg (d31 x1), .agg [.os 0, .os 1, .os 2, .os 3], .d (I x3), .d (I x4), .agg (A0i x5)] (zp x2 []) (.tup [.agg (A0i r.1), .d (DS q49 r.2.1), .d (I r.2.2)]) (zp x2 []) := by
 unfold Alk at h
 refine co 149 Tryz.func133 λ C hC => ?_
 obtain ⟨y1, h2, h⟩ := Av h
 refine wn Vs 31 [] [pb e43 (k43 x0 x2 _ h2)] [] 4 Es [3, 6, 7, 8, 10, 11, 12, 13, 14, 15, 16, 27] hC [] ?_
 rcases cB h with ⟨h3, h⟩ | ⟨h3, h⟩
 ·cases h
 ·refine wn Vs 24 [false] [pc e59 (k59 x1 _ rfl) [], ⟨.when [((((!(F59 x1)) || (decide (x4 < 0))) || (decide (x4 > 2147483648))), false)] (.callB 174 [dI x5.High, .d (.ip [.v (.int .i64 x4)])] (dB (My x5.High x4)) [[]] 0 []), λ hg => I2 ⟨Awd, (Avk x5.High x4 _ rfl)⟩⟩, ⟨.when [(((((!(F59 x1)) || (decide (x4 < 0))) || (decide (x4 > 2147483648))) || (!(My x5.High x4))), false)] (.callB 174 [dI x5.Low, .d (.ip [.v (.int .i64 x4)])] (dB (My x5.Low x4)) [[]] 0 []), λ hg => I2 ⟨Awd, (Avk x5.Low x4 _ rfl)⟩⟩] [] 4 Es [3, 6, 7, 8, 10, 11, 12, 13, 14, 32] hC [pq h3] ?_
  rcases cB h with ⟨h4, h⟩ | ⟨h4, h⟩
  ·cases h
  ·rcases cB h with ⟨h5, h⟩ | ⟨h5, h⟩
   ·cases h
   ·obtain ⟨y6, h7, y8, h9, y10, h11, h⟩ := By h
    obtain ⟨y12, h13, y14, h15, h⟩ := A8 h
    refine wn Vs 36 [false, false] [pb Bb3 (Bam x0 x1 x2 x3 _ h7), pb Bb2 (Bal x0 x1 x2 x3 _ h9), pc A7p (A5t x5.High y8 x4 _ h11) [], pc A7p (A5t x5.Low y6.2 x4 _ h13) [], pb Bb1 (Bak x0 x2 x3 _ h15)] [] 4 Es [3, 6, 7, 8, 10, 11, 12, 13, 14, 17, 19, 114] hC [pq h4, pq h5] ?_
    rcases cB h with ⟨h16, h⟩ | ⟨h16, h⟩
    ·cases h
    ·rcases cB h with ⟨h17, h⟩ | ⟨h17, h⟩
     ·cases h
     ·replace h := sI h
      subst h
      exact wr Vs 30 [false, false] [] [] 4 n4_ hC [pq h16, pq h17]
theorem A77 : EN 133 := en Tryz.func133
theorem k9 (x0 : Ai) (r : K9) (h : F9 x0 = some r) : CO 9 [.d (.o 0 0)] [.box 90 (d90 x0)] (.tup [.agg [I r.1.Aq, .os 1, .os 2, .os 3, I r.1.Phase, I r.1.Ar], .agg (d31 r.2.1), .agg [I r.2.2.1.Time, .os 4, .os 5, .os 6, .os 7, .os 8, .os 9]]) (.box 90 (d90 (Ej r)) :: zs r.1 (zp r.2.2.1.Power [v5_ r.2.2.1.A6, v1_ r.2.2.1.Bc])) := by
 unfold F9 at h
 refine co 14 Tryz.func9 λ C hC => ?_
 obtain ⟨y1, h2, y3, h4, y5, h6, h⟩ := By h
 replace h := sI h
 subst h
 exact wr [0, 2, 3, 4, 5] 27 [] [pc e29 (k29 x0 _ h2) [0], pc e30 (k30 y1.2 _ h4) [0], pc A_a (A9s y3.2 y1.1 _ h6) [0, 4, 5, 6]] [] 1 [0, 4, 5, 6, 8, 9, 10, 11, 12, 13] hC []
theorem e9 : EN 9 := en Tryz.func9
def Aqn : List Nat := [0, 1, 2, 3, 4, 6, 7, 8, 9, 15]
theorem Baj (x0 : Aa) (x1 : Ab) (x2 : Int) (r : Ab × Int) (h : Ala x0 x1 x2 = some r) : CO 182 [.agg (d29 x0), .agg (d36 x1), .d (I x2)] [] (.tup [.agg [.os 0, .os 1, .os 2, .os 3], .d (I r.2)]) (zp r.1 []) := by
 unfold Ala at h
 refine co 29 Tryz.func182 λ C hC => ?_
 obtain ⟨y1, h2, h⟩ := Av h
 refine wn Aqn 28 [] [pc Bbo (A_7 x0 x1 x2 _ h2) []] [.ownb 2 0 4 1, .ownb 2 1 120 4, .ownb 2 2 3 1, .ownb 2 3 86 2] 0 n7_ [2, 3, 4, 6, 7, 8, 15] hC [] ?_
 rcases cB h with ⟨h3, h⟩ | ⟨h3, h⟩
 ·replace h := sI h
  subst h
  exact wr Aqn 24 [true] [] [.ownb 2 0 4 1, .ownb 2 1 120 4, .ownb 2 2 3 1, .ownb 2 3 86 2] 0 [7, 8, 9, 10] hC [pq h3]
 ·obtain ⟨y4, h5, y6, h7, y8, h9, y10, h11, h⟩ := Cy h
  replace h := sI h
  subst h
  exact wr Aqn 29 [false] [pc K6 (K4 x1 _ h5) [], pr pB h7, pu pB h7 h9, ⟨.call 57 [.agg (d29 x0), .agg [.os 0, .os 1, .os 2, .os 3]] [v2_ y8, v4_ y4.Ac, v0_ y4.Ak, v3_ y4.Ao] (.tup [.agg [.os 4, .os 5, .os 6, .os 7], dI y10.2]) (v2_ y8 :: v4_ y4.Ac :: v0_ y4.Ak :: v3_ y4.Ao :: zp y10.1 []) [7, 8, 9, 10], ⟨e57, ((k57 x0 (⟨y8, y4.Ac, y4.Ak, y4.Ao⟩ : Ab) _ h11).lend (by kernel_rfl) (by kernel_rfl) (by kernel_rfl) ⟨Ba (λ _ => rfl), Ba (λ _ => rfl), Ba (λ _ => rfl), Ba (λ _ => rfl), trivial⟩ (by kernel_rfl) (by kernel_rfl))⟩⟩] [] 0 [12, 13, 14, 15] hC [pq h3]
theorem Bb0 : EN 182 := en Tryz.func182
theorem A5v (x0 : Ax) (r : Ax) (h : Uz x0 = some r) : CO 172 [.d (.o 0 0)] (.box 235 (zb x0.Am [.os 1, .os 2, .os 3, .os 4, .os 5]) :: zp x0.Au [v6_ x0.acts]) (.tup []) (.box 235 (zb r.Am [.os 6, .os 7, .os 8, .os 9, .os 10]) :: .non :: .non :: .non :: .non :: .non :: zp r.Au [v6_ r.acts]) := by
 unfold Uz at h
 refine co 24 Tryz.func172 λ C hC => ?_
 obtain ⟨y1, h2, y3, h4, y5, h6, h⟩ := By h
 replace h := sI h
 subst h
 exact wf [0, 1] 27 [] [pc A7c (A5g x0 _ h2) n6_, pc A7b (A5f y1 _ h4) [0, 7, 8, 9, 10, 11, 6], ⟨.call 57 [.agg (d29 y3.Am), .agg [.os 0, .os 1, .os 2, .os 3]] (zp y3.Au []) (.tup [.agg [.os 4, .os 5, .os 6, .os 7], dI y5.2]) (zp y3.Au (zp y5.1 [])) [12, 13, 14, 15], ⟨e57, ((k57 y3.Am y3.Au _ h6).lend (by kernel_rfl) (by kernel_rfl) (by kernel_rfl) ⟨Ba (λ _ => rfl), Ba (λ _ => rfl), Ba (λ _ => rfl), Ba (λ _ => rfl), trivial⟩ (by kernel_rfl) (by kernel_rfl))⟩⟩] [] 6 [0, 1, 2, 3, 4, 5, 17, 18, 19, 20, 16] hC []
theorem A7r : EN 172 := en Tryz.func172
def Lv : List Nat := [0, 2, 4, 5, 19, 20, 21, 22, 32]
def M9 (y3 : (List Af)) (n0 : Nat) (z0 : Sg7) : St := [(0, dO 0 0), (2, dS 6), (19, dS 7), (20, dI (ln y3)), (21, dI (cnt 0 n0))]
def Rb (y1 : (List Int)) (y3 : (List Af)) (n0 : Nat) (z0 : Sg7) : List Res := [.box 235 [I z0.1, DS Bg z0.2.1, DS Bu z0.2.2.1, DS q65 (g3_ z0), I (g4_ z0), I (g5_ z0), .os 8, .os 9, .os 10, .os 11, .os 12], .non, .non, .non, .non, .non, v0_ y1, v7_ y3, v2_ (g6_ z0), v4_ (g7_ z0), v0_ (g8_ z0), v3_ (g9_ z0), v6_ (F3 z0)]
def Abg  (z0 : Sg7) : St := []
def Ac1  (z0 : Sg7) : List Res := [.box 235 [I z0.1, DS Bg z0.2.1, DS Bu z0.2.2.1, DS q65 (g3_ z0), I (g4_ z0), I (g5_ z0), .os 6, .os 7, .os 8, .os 9, .os 10], .non, .non, .non, .non, .non, v2_ (g6_ z0), v4_ (g7_ z0), v0_ (g8_ z0), v3_ (g9_ z0), v6_ (F3 z0)]
theorem A5u (x0 : Ax) (r : Ax) (h : Pu x0 = some r) : CO 173 [.d (.o 0 0)] (.box 235 (zb x0.Am [.os 1, .os 2, .os 3, .os 4, .os 5]) :: zp x0.Au [v6_ x0.acts]) (.tup []) (.box 235 (zb r.Am [.os 6, .os 7, .os 8, .os 9, .os 10]) :: .non :: .non :: .non :: .non :: .non :: zp r.Au [v6_ r.acts]) := by
 unfold Pu at h
 refine co 48 Tryz.func173 λ C hC => ?_
 obtain ⟨y1, h2, y3, h4, h⟩ := A8 h
 refine ws Lv 25 [] [pc Bbs (Bab x0.Am _ h2) [], pc A19 (A14 x0.Am x0.Au _ h4) [1, 2, 3, 4], pl q84 y3] [.mv 1, .mv 2, .mv 3, .mv 4, .mv 5] 6 Gl (M9 y3 0 (zt x0.Am (zu x0.Au x0.acts))) (Rb y1 y3 0 (zt x0.Am (zu x0.Au x0.acts))) hC [] ?_
 obtain ⟨w0, hm0, hret0, hnext0⟩ := Ap h
 clear h
 refine wc w0 (Abg) (Ac1) ?_ λ z0 hs0 => ?_
 ·refine wb ?_
  refine B3 19 7 rfl rfl λ hl0 => ?_
  refine wl (M9 y3) (Rb y1 y3) hm0 (λ z0 hn0 => ?_) λ n0 a0 z0 w0b hi0 hx0 h hb0 hr0 => ?_
  ·clear hm0
   exact wx w0 (Abg) (Ac1) Lv 26 [false] [] [] 6 [0, 1, 2, 3, 4, 5, 8, 9, 10, 11, 12] _ hC [pq (A7 hl0)] hn0
  ·unfold Uy at h
   obtain ⟨y5, h6, y7, h8, h⟩ := A8 h
   refine wn Lv 34 [true] [pr q84 (Be hx0 hl0), pn q84 (Be hx0 hl0), ⟨.call 168 [dS 0] [v0_ y1] (dS 1) [v0_ y1, v0_ y5] [6], ⟨A7u, ((A5y y1 _ h6).lend (by kernel_rfl) (by kernel_rfl) (by kernel_rfl) ⟨Ba (λ _ => rfl), trivial⟩ (by kernel_rfl) (by kernel_rfl))⟩⟩, pc A67 (A5b y5 a0 _ h8) [14, 13], pl pI y7.2.Ac] [] 6 [0, 1, 2, 3, 4, 5, 6, 7, 8, 9, 10, 11, 12, 13, 15] [0, 2, 4, 5, 19, 20, 21, 32] hC [pq (A5 hi0 hl0)] ?_
   rcases cB h with ⟨h9, h⟩ | ⟨h9, h⟩
   ·obtain ⟨y10, h11, y12, h13, y14, h15, y16, h17, h⟩ := Cy h
    exact wx w0b (M9 y3 (n0 + 1)) (Rb y1 y3 (n0 + 1)) Lv 27 [true] [pr pI h11, pc A66 (A5a (⟨(⟨z0.1, z0.2.1, z0.2.2.1, (g3_ z0), (g4_ z0), (g5_ z0)⟩ : Aa), (⟨(g6_ z0), (g7_ z0), (g8_ z0), (g9_ z0)⟩ : Ab), (F3 z0)⟩ : Ax) y7.1 y10 _ h13) [0, 8, 9, 10, 11, 12, 14], pr pI h15, pc A65 (A49 y12 y7.1 y14 _ h17) [0, 15, 16, 17, 18, 19, 14]] [] 6 [0, 1, 2, 3, 4, 5, 6, 7, 20, 21, 22, 23, 24] _ hC [pq h9] (sI h).symm
   ·exact wx w0b (M9 y3 (n0 + 1)) (Rb y1 y3 (n0 + 1)) Lv 25 [false] [] [] 6 Gl _ hC [pq h9] (sI h).symm
 ·have h := hnext0 _ hs0
  replace h := sI h
  subst h
  exact wf Lv 20 [] [] [] 6 Sz hC []
theorem A7q : EN 173 := en Tryz.func173
theorem k42 (x0 : F1) (r : Int) (h : F42 x0 = some r) : CO 42 [.agg (d57 x0)] [] (.d (I r)) [] := by
 unfold F42 at h
 refine co 37 Tryz.func42 λ C hC => ?_
 rcases cB h with ⟨h1, h⟩ | ⟨h1, h⟩
 ·cases h
 ·rcases cB h with ⟨h2, h⟩ | ⟨h2, h⟩
  ·cases h
  ·obtain ⟨y3, h4, h⟩ := Av h
   rcases cB h with ⟨h5, h⟩ | ⟨h5, h⟩
   ·cases h
   ·replace h := sI h
    subst h
    exact wr [0, 1, 2, 3, 8, 33] 38 [false, false, false] [pl q63 x0.De, pc A9y (A9g x0.De _ h4) []] [] 0 [] hC [pq h1, pq h2, pq h5]
theorem e42 : EN 42 := en Tryz.func42
def I0 : List Nat := [0, 1, 3, 4, 6, 17, 36, 55, 76, 82, 88, 96]
theorem A59 (x0 : A2) (x1 : An) (r : Int × A2) (h : U2 x0 x1 = some r) : CO 135 [.d (.o 0 0), .agg (d49 x1)] (.box 186 (zb x0.Am [.os 1, .os 2, .os 3, .os 4, I x0.time]) :: zp x0.Au []) (.d (I r.1)) (.box 186 (zb r.2.Am [.os 5, .os 6, .os 7, .os 8, I r.2.time]) :: .non :: .non :: .non :: .non :: zp r.2.Au []) := by
 unfold U2 at h
 refine co 101 Tryz.func135 λ C hC => ?_
 rcases cB h with ⟨h1, h⟩ | ⟨h1, h⟩
 ·obtain ⟨y2, h3, h⟩ := Av h
  replace h := sI h
  subst h
  exact wr I0 34 [true] [⟨.call 182 [.agg (d29 x0.Am), .agg [.os 0, .os 1, .os 2, .os 3], dI x1.Unit] (zp x0.Au []) (.tup [.agg [.os 4, .os 5, .os 6, .os 7], dI y2.2]) (zp x0.Au (zp y2.1 [])) [1, 2, 3, 4], ⟨Bb0, ((Baj x0.Am x0.Au x1.Unit _ h3).lend (by kernel_rfl) (by kernel_rfl) (by kernel_rfl) ⟨Ba (λ _ => rfl), Ba (λ _ => rfl), Ba (λ _ => rfl), Ba (λ _ => rfl), trivial⟩ (by kernel_rfl) (by kernel_rfl))⟩⟩] [.frz 1, .frz 2, .frz 3, .frz 4] 5 [0, 1, 2, 3, 4, 6, 7, 8, 9] hC [pq h1]
 ·rcases cB h with ⟨h4, h⟩ | ⟨h4, h⟩
  ·obtain ⟨y5, h6, h⟩ := Av h
   replace h := sI h
   subst h
   exact wr I0 37 [false, true] [⟨.call 183 [.agg (d29 x0.Am), .agg [.os 0, .os 1, .os 2, .os 3], dI x1.Unit] (zp x0.Au []) (.tup [.agg [.os 4, .os 5, .os 6, .os 7], dI y5.2]) (zp x0.Au (zp y5.1 [])) [1, 2, 3, 4], ⟨Bbz, ((Bai x0.Am x0.Au x1.Unit _ h6).lend (by kernel_rfl) (by kernel_rfl) (by kernel_rfl) ⟨Ba (λ _ => rfl), Ba (λ _ => rfl), Ba (λ _ => rfl), Ba (λ _ => rfl), trivial⟩ (by kernel_rfl) (by kernel_rfl))⟩⟩] [.frz 1, .frz 2, .frz 3, .frz 4] 5 [0, 1, 2, 3, 4, 6, 7, 8, 9] hC [pq h1, pq h4]
  ·rcases cB h with ⟨h7, h⟩ | ⟨h7, h⟩
   ·obtain ⟨y8, h9, h⟩ := Av h
    replace h := sI h
    subst h
    exact wr I0 40 [false, false, true] [⟨.call 184 [.agg (d29 x0.Am), .agg [.os 0, .os 1, .os 2, .os 3], dI x1.Unit, dI x1.Value] (zp x0.Au []) (.tup [.agg [.os 4, .os 5, .os 6, .os 7], dI y8.2]) (zp x0.Au (zp y8.1 [])) [1, 2, 3, 4], ⟨Bby, ((Bah x0.Am x0.Au x1.Unit x1.Value _ h9).lend (by kernel_rfl) (by kernel_rfl) (by kernel_rfl) ⟨Ba (λ _ => rfl), Ba (λ _ => rfl), Ba (λ _ => rfl), Ba (λ _ => rfl), trivial⟩ (by kernel_rfl) (by kernel_rfl))⟩⟩] [.frz 1, .frz 2, .frz 3, .frz 4] 5 [0, 1, 2, 3, 4, 6, 7, 8, 9] hC [pq h1, pq h4, pq h7]
   ·rcases cB h with ⟨h10, h⟩ | ⟨h10, h⟩
    ·obtain ⟨y11, h12, h⟩ := Av h
     replace h := sI h
     subst h
     exact wr I0 43 [false, false, false, true] [pc A7n (A5r x0 x1.Unit _ h12) n5_] [.mv 1, .mv 2, .mv 3, .mv 4] 5 [0, 1, 2, 3, 4, 6, 7, 8, 9] hC [pq h1, pq h4, pq h7, pq h10]
    ·rcases cB h with ⟨h13, h⟩ | ⟨h13, h⟩
     ·obtain ⟨y14, h15, h⟩ := Av h
      replace h := sI h
      subst h
      exact wr I0 46 [false, false, false, false, true] [pc A7m (A5q x0 x1.Unit _ h15) n5_] [.mv 1, .mv 2, .mv 3, .mv 4] 5 [0, 1, 2, 3, 4, 6, 7, 8, 9] hC [pq h1, pq h4, pq h7, pq h10, pq h13]
     ·rcases cB h with ⟨h16, h⟩ | ⟨h16, h⟩
      ·obtain ⟨y17, h18, h⟩ := Av h
       replace h := sI h
       subst h
       exact wr I0 49 [false, false, false, false, false, true] [pc A7l (A5p x0 x1.Unit x1.Value _ h18) n5_] [.mv 1, .mv 2, .mv 3, .mv 4] 5 [0, 1, 2, 3, 4, 6, 7, 8, 9] hC [pq h1, pq h4, pq h7, pq h10, pq h13, pq h16]
      ·rcases cB h with ⟨h19, h⟩ | ⟨h19, h⟩
       ·obtain ⟨y20, h21, h⟩ := Av h
        replace h := sI h
        subst h
        exact wr I0 52 [false, false, false, false, false, false, true] [pc A7k (A5o x0 _ h21) n5_] [] 5 [0, 1, 2, 3, 4, 6, 7, 8, 9] hC [pq h1, pq h4, pq h7, pq h10, pq h13, pq h16, pq h19]
       ·obtain ⟨y22, h23, h⟩ := Av h
        replace h := sI h
        subst h
        exact wr I0 52 [false, false, false, false, false, false, false] [pc A7j (A5n x0 (⟨x1.Value, x1.Unit⟩ : Al) (x1.Kind == 8) _ h23) n5_] [] 5 [0, 1, 2, 3, 4, 6, 7, 8, 9] hC [pq h1, pq h4, pq h7, pq h10, pq h13, pq h16, pq h19]
theorem A75 : EN 135 := en Tryz.func135
def yB : List Nat := [0, 1, 2, 3, 4, 5, 6, 7, 8, 9, 10, 11, 12, 13, 17, 23, 30, 31, 32, 33, 48]
def Afu (x0 : F1) (n0 : Nat) (z0 : (List Int)) : St := [(4, dO 0 0), (5, dO 1 0), (6, .d (DS pI [])), (7, dI 0), (10, dS 2), (30, .d (DS q63 x0.De)), (31, dI (ln x0.De)), (32, dI (cnt 0 n0))]
def Asj (x1 : Aa) (x2 : Ab) (n0 : Nat) (z0 : (List Int)) : List Res := [.box 29 (d29 x1), .box 36 (d36 x2), v0_ z0]
def Au2  (z0 : (List Int)) : St := [(6, .d (DS pI [])), (7, dI 0), (10, dS 0)]
def Ayl  (z0 : (List Int)) : List Res := [v0_ z0]
theorem k15 (x0 : F1) (x1 : Aa) (x2 : Ab) (r : (List Int) × Int) (h : F15 x0 x1 x2 = some r) : CO 15 [.agg (d57 x0), .agg (d29 x1), .agg (d36 x2)] [] (.tup [.d (.os 0), .d (I r.2)]) [v0_ r.1] := by
 unfold F15 at h
 refine co 61 Tryz.func15 λ C hC => ?_
 obtain ⟨y1, h2, h⟩ := Av h
 rcases cB h with ⟨h3, h⟩ | ⟨h3, h⟩
 ·cases h
 ·obtain ⟨y4, h5, h⟩ := Av h
  refine wn yB 35 [false] [pc e42 (k42 x0 _ h2) [], pc e43 (k43 x1 x2 _ h5) []] [] 0 n3_ [3, 4, 5, 6, 7, 9, 23] hC [pq h3] ?_
  rcases cB h with ⟨h6, h⟩ | ⟨h6, h⟩
  ·cases h
  ·obtain ⟨y7, h8, h⟩ := Av h
   refine ws yB 28 [false] [pl q63 x0.De, ⟨.room ((ln x0.De) * (8 + 1)) (List.replicate (Int.toNat (ln x0.De)) (pI 0)) (y7.map pI), Hh h8⟩, pl q63 x0.De] [] 0 [1, 2, 3] (Afu x0 0 y7) (Asj x1 x2 0 y7) hC [pq h6] ?_
   obtain ⟨w0, hm0, hret0, hnext0⟩ := Ap h
   clear h
   refine wc w0 (Au2) (Ayl) ?_ λ z0 hs0 => ?_
   ·refine wb ?_
    refine Bp 30 rfl λ hl0 => ?_
    refine wl (Afu x0) (Asj x1 x2) hm0 (λ z0 hn0 => ?_) λ n0 a0 z0 w0b hi0 hx0 h hb0 hr0 => ?_
    ·clear hm0
     exact wx w0 (Au2) (Ayl) yB 26 [false] [] [] 0 [2] _ hC [pq (A7 hl0)] hn0
    ·unfold Ayw at h
     obtain ⟨y9, h10, y11, h12, h⟩ := A8 h
     refine wn yB 34 [true] [pt hx0 hl0, pc A98 (A9q x1.Ad (cnt 0 n0) _ h10) [3], pw e46 (λ hg => k46 x1 x2 y9.1 _ (A9 h12 hg)) []] [] 0 n5_ [4, 5, 6, 7, 10, 11, 12, 13, 30, 31, 32, 48] hC [pq (A5 hi0 hl0)] ?_
     rcases cB h with ⟨h13, h⟩ | ⟨h13, h⟩
     ·obtain ⟨y14, h15, y16, h17, y18, h19, y20, h21, h⟩ := Cy h
      exact wx w0b (Afu x0 (n0 + 1)) (Asj x1 x2 (n0 + 1)) yB 25 [true] [pr pI h15, pc e47 (k47 a0 y14 _ h17) [], pr pI h19, pu pI h19 h21] [] 0 n3_ _ hC [pq h13] (sI h).symm
     ·cases h
   ·have h := hnext0 _ hs0
    replace h := sI h
    subst h
    exact wr yB 23 [] [] [] 0 [0] hC []
theorem e15 : EN 15 := en Tryz.func15
def Xo : List Nat := [0, 1, 2, 3, 4, 5, 7, 8, 9, 10, 11, 12, 16, 21, 39, 55]
theorem k83 (x0 : Aa) (x1 : Ab) (x2 : Int) (x3 : An) (r : Ab × Int) (h : F83 x0 x1 x2 x3 = some r) : CO 83 [.agg (d29 x0), .agg (d36 x1), .d (I x2), .agg (d49 x3)] [] (.tup [.agg [.os 0, .os 1, .os 2, .os 3], .d (I r.2)]) (zp r.1 []) := by
 unfold F83 at h
 refine co 62 Tryz.func83 λ C hC => ?_
 obtain ⟨y1, h2, h⟩ := Av h
 refine wn Xo 29 [] [pc e43 (k43 x0 x1 _ h2) []] [.ownb 3 0 4 1, .ownb 3 1 120 4, .ownb 3 2 3 1, .ownb 3 3 86 2] 0 n8_ [2, 4, 5, 7, 8, 9, 10, 16] hC [] ?_
 rcases cB h with ⟨h3, h⟩ | ⟨h3, h⟩
 ·replace h := sI h
  subst h
  exact wr Xo 24 [true] [] [.ownb 3 0 4 1, .ownb 3 1 120 4, .ownb 3 2 3 1, .ownb 3 3 86 2] 0 [8, 9, 10, 11] hC [pq h3]
 ·rcases cB h with ⟨h4, h⟩ | ⟨h4, h⟩
  ·replace h := sI h
   subst h
   exact wr Xo 27 [false, true] [] [.ownb 3 0 4 1, .ownb 3 1 120 4, .ownb 3 2 3 1, .ownb 3 3 86 2] 0 [8, 9, 10, 11] hC [pq h3, pq h4]
  ·obtain ⟨y5, h6, h⟩ := Av h
   rcases cB h with ⟨h7, h⟩ | ⟨h7, h⟩
   ·replace h := sI h
    subst h
    exact wr Xo 30 [false, false, true] [pc A76 (A6a x0 x3 _ h6) []] [.ownb 3 0 4 1, .ownb 3 1 120 4, .ownb 3 2 3 1, .ownb 3 3 86 2] 0 [8, 9, 10, 11] hC [pq h3, pq h4, pq h7]
   ·obtain ⟨y8, h9, y10, h11, h⟩ := A8 h
    refine wn Xo 37 [false, false, false] [pc A76 (A6a x0 x3 _ h6) [], pc K6 (K4 x1 _ h9) [], pc A75 (A59 (⟨x0, y8, x2⟩ : A2) x3 _ h11) [12, 8, 9, 10, 11]] [] 0 [3, 4, 5, 6, 7, 12, 13, 14, 15, 16] [8, 9, 11, 12, 55] hC [pq h3, pq h4, pq h7] ?_
    rcases cB h with ⟨h12, h⟩ | ⟨h12, h⟩
    ·replace h := sI h
     subst h
     exact wr Xo 24 [true] [] [.ownb 0 0 4 1, .ownb 0 1 120 4, .ownb 0 2 3 1, .ownb 0 3 86 2] 0 [10, 11, 12, 13] hC [pq h12]
    ·replace h := sI h
     subst h
     exact wr Xo 25 [false] [] [] 0 [6, 7, 8, 9] hC [pq h12]
theorem e83 : EN 83 := en Tryz.func83
theorem A5w (x0 : Ax) (r : Ax) (h : uD x0 = some r) : CO 171 [.d (.o 0 0)] (.box 235 (zb x0.Am [.os 1, .os 2, .os 3, .os 4, .os 5]) :: zp x0.Au [v6_ x0.acts]) (.tup []) (.box 235 (zb r.Am [.os 6, .os 7, .os 8, .os 9, .os 10]) :: .non :: .non :: .non :: .non :: .non :: zp r.Au [v6_ r.acts]) := by
 unfold uD at h
 refine co 6 Tryz.func171 λ C hC => ?_
 obtain ⟨y1, h2, y3, h4, h⟩ := A8 h
 replace h := sI h
 subst h
 exact wf [0] 23 [] [pc A7r (A5v x0 _ h2) n6_, pc A7q (A5u y1 _ h4) [0, 6, 7, 8, 9, 10]] [] 6 [0, 1, 2, 3, 4, 5, 11, 12, 13, 14, 15] hC []
theorem A7s : EN 171 := en Tryz.func171
def Vn : List Nat := [0, 1, 2, 3, 4, 6, 7, 8, 9, 10, 15]
theorem A5x (x0 : Aa) (x1 : Ab) (r : Ab × (List An) × Int) (h : uE x0 x1 = some r) : CO 170 [.agg (d29 x0), .agg (d36 x1), .d (.fn (.func 171) [] [])] [] (.tup [.agg [.os 0, .os 1, .os 2, .os 3], .d (.os 4), .d (I r.2.2)]) (zp r.1 [v6_ r.2.1]) := by
 unfold uE at h
 refine co 34 Tryz.func170 λ C hC => ?_
 obtain ⟨y1, h2, h⟩ := Av h
 refine wn Vn 28 [] [pc e43 (k43 x0 x1 _ h2) []] [.ownb 2 0 4 1, .ownb 2 1 120 4, .ownb 2 2 3 1, .ownb 2 3 86 2] 0 n7_ [2, 3, 4, 6, 7, 8, 9, 15] hC [] ?_
 rcases cB h with ⟨h3, h⟩ | ⟨h3, h⟩
 ·replace h := sI h
  subst h
  exact wr Vn 24 [true] [] [.ownb 2 0 4 1, .ownb 2 1 120 4, .ownb 2 2 3 1, .ownb 2 3 86 2, .own 7 49 3] 0 [7, 8, 9, 10, 11] hC [pq h3]
 ·obtain ⟨y4, h5, h⟩ := Av h
  refine wn Vn 5 [false] [pc K6 (K4 x1 _ h5) []] [.ownb 11 10 49 3] 0 [2, 3, 4, 5, 6, 7, 8, 9, 10, 11, 12] [2, 6, 7, 8, 10] hC [pq h3] ?_
  obtain ⟨y6, h7, h⟩ := Av h
  replace h := sI h
  subst h
  exact wr Vn 24 [] [pc A7s (A5w (⟨x0, y4, ([] : List An)⟩ : Ax) _ h7) [9, 5, 6, 7, 8, 10]] [] 0 [11, 12, 13, 14, 15] hC []
theorem A7t : EN 170 := en Tryz.func170
theorem Ba5 (x0 : Aa) (x1 : Ab) (r : Ab × (List An) × Int) (h : Alm x0 x1 = some r) : CO 125 [.agg (d29 x0), .agg (d36 x1)] [] (.tup [.agg [.os 0, .os 1, .os 2, .os 3], .d (.os 4), .d (I r.2.2)]) (zp r.1 [v6_ r.2.1]) := by
 unfold Alm at h
 refine co 13 Tryz.func125 λ C hC => ?_
 obtain ⟨y1, h2, h⟩ := Av h
 replace h := sI h
 subst h
 exact wr n7_ 25 [] [pc A7t (A5x x0 x1 _ h2) []] [] 0 [3, 4, 5, 6, 7] hC []
theorem Bcm : EN 125 := en Tryz.func125
end Go.Proofs.YthgnbpdjncbkfaaGreat
