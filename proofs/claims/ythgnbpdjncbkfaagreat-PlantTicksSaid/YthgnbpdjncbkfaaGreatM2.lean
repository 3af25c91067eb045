import Derived.Test.YthgnbpdjncbkfaaGreatM1
set_option linter.unusedVariables false
namespace Go.Proofs.YthgnbpdjncbkfaaGreat
open Go.SL
def D6 : List Nat := [0, 1, 2, 3, 4, 5, 6, 7, 8, 9, 10, 11, 12, 13, 14, 18, 25, 26, 27, 28, 47, 48, 49, 58, 80, 81, 82, 91]
def X5 (y4 : (List Int)) (n0 : Nat) (z0 : (List Ai)) : St := [(2, dO 4 0), (3, dO 5 0), (4, .d (DS q84 [])), (5, dS 6), (6, dS 7), (25, dS 6), (26, dI (ln y4)), (27, dI (cnt 0 n0))]
def Aa9 (x0 : Aa) (x1 : Ab) (y4 : (List Int)) (n0 : Nat) (z0 : (List Ai)) : List Res := (zp x1 [.box 29 (d29 x0), .box 36 [.os 0, .os 1, .os 2, .os 3], v0_ y4, .dsl 84 3 8, .gh 3 [(3, 1), (3, 1), (3, 1)] (z0.map q84) none])
def Agc  (z0 : (List Ai)) : St := [(2, dO 4 0), (3, dO 5 0), (4, .d (DS q84 [])), (5, dS 6), (6, dS 7)]
def Ai6 (x0 : Aa) (x1 : Ab) (y4 : (List Int)) (z0 : (List Ai)) : List Res := (zp x1 [.box 29 (d29 x0), .box 36 [.os 0, .os 1, .os 2, .os 3], v0_ y4, .dsl 84 3 8, .gh 3 [(3, 1), (3, 1), (3, 1)] (z0.map q84) none])
def Qc (x0 : Aa) (z1 : Int × (List Ai)) : St := [(2, dO 4 0), (3, dO 5 0), (4, .d (DS q84 [])), (5, dS 6), (6, dS 7), (47, dI (ln x0.Ac)), (48, dI z1.1)]
def Wv (x0 : Aa) (x1 : Ab) (y4 : (List Int)) (z1 : Int × (List Ai)) : List Res := (zp x1 [.box 29 (d29 x0), .box 36 [.os 0, .os 1, .os 2, .os 3], v0_ y4, .dsl 84 3 8, .gh 3 [(3, 1), (3, 1), (3, 1)] (z1.2.map q84) none])
def Agb  (z1 : Int × (List Ai)) : St := [(2, dO 4 0), (3, dO 5 0), (4, .d (DS q84 [])), (5, dS 6), (6, dS 7)]
def Ai5 (x0 : Aa) (x1 : Ab) (y4 : (List Int)) (z1 : Int × (List Ai)) : List Res := (zp x1 [.box 29 (d29 x0), .box 36 [.os 0, .os 1, .os 2, .os 3], v0_ y4, .dsl 84 3 8, .gh 3 [(3, 1), (3, 1), (3, 1)] (z1.2.map q84) none])
def Qb (x0 : Aa) (z2 : Int × (List Ai)) : St := [(2, dO 4 0), (3, dO 5 0), (4, .d (DS q84 [])), (5, dS 6), (6, dS 7), (80, dI (ln x0.Ae)), (81, dI z2.1)]
def Wu (x0 : Aa) (x1 : Ab) (y4 : (List Int)) (z2 : Int × (List Ai)) : List Res := (zp x1 [.box 29 (d29 x0), .box 36 [.os 0, .os 1, .os 2, .os 3], v0_ y4, .dsl 84 3 8, .gh 3 [(3, 1), (3, 1), (3, 1)] (z2.2.map q84) none])
def Aga  (z2 : Int × (List Ai)) : St := [(4, .d (DS q84 [])), (6, dS 4)]
def Ai4 (x1 : Ab) (z2 : Int × (List Ai)) : List Res := (zp x1 [.dsl 84 3 5, .gh 3 [(3, 1), (3, 1), (3, 1)] (z2.2.map q84) none])
theorem Ay7 (x0 : Aa) (x1 : Ab) (r : (List Ai)) (h : Afh x0 x1 = some r) : CO 89 [.agg (d29 x0), .agg [.os 0, .os 1, .os 2, .os 3]] (zp x1 []) (.d (.os 4)) (zp x1 [v8_ r]) := by
 unfold Afh at h
 refine co 113 Tryz.func89 λ C hC => ?_
 obtain ⟨y1, h2, h⟩ := Ad h
 refine wn D6 26 [] [pb e43 (k43 x0 x1 _ h2)] [] 4 n6_ [2, 3, 4, 18] hC [] ?_
 rcases cB h with ⟨h3, h⟩ | ⟨h3, h⟩
 ·replace h := sI h
  subst h
  exact wr D6 24 [true] [] [.own 4 84 3] 4 [0, 1, 2, 3, 6] hC [pq h3]
 ·obtain ⟨y4, h5, h⟩ := Ad h
  obtain ⟨y6, h7, h⟩ := Ad h
  refine ws D6 30 [false] [⟨.call 142 [.agg (d29 x0), .agg [.os 0, .os 1, .os 2, .os 3]] (zp x1 []) (dS 4) (zp x1 [v0_ y4]) n4_, ⟨A45, ((A3b x0 x1 _ h5).lend (by kernel_rfl) (by kernel_rfl) (by kernel_rfl) ⟨Be (λ _ => rfl), trivial⟩ (by kernel_rfl) (by kernel_rfl))⟩⟩, ⟨.roomZ (x0.An * (72 + 1)) (List.replicate (Int.toNat x0.An) (q84 (⟨([] : List Int), ([] : List Int), ([] : List Int)⟩ : Ai))) (y6.map q84), Ti h7⟩, pl pI y4] [.deep 7 [(3, 1), (3, 1), (3, 1)]] 4 n9_ (X5 y4 0 y6) (Aa9 x0 x1 y4 0 y6) hC [pq h3] ?_
  obtain ⟨w0, hm0, hret0, hnext0⟩ := As h
  clear h
  refine wc w0 (Agc) (Ai6 x0 x1 y4) ?_ λ z0 hs0 => ?_
  ·refine wb ?_
   refine Cc 25 6 rfl rfl λ hl0 => ?_
   refine A8 (by kernel_rfl) Zw (X5 y4) (Aa9 x0 x1 y4) w0 y4 y6 hm0 rfl rfl (λ z0 hn0 => ?_) λ n0 a0 z0 w0b hi0 hx0 h hb0 hr0 => ?_
   ·clear hm0
    exact wx w0 (Agc) (Ai6 x0 x1 y4) D6 26 [false] [] [] 4 n9_ z0 hC [pq (Ba hl0)] hn0
   ·unfold Zw at h
    obtain ⟨y8, h9, h⟩ := Ad h
    obtain ⟨y10, h11, h⟩ := Ad h
    obtain ⟨y12, h13, h⟩ := Ad h
    exact wx w0b (X5 y4 (n0 + 1)) (Aa9 x0 x1 y4 (n0 + 1)) D6 33 [true] [pr pI (Bp hx0 hl0), pn pI (Bp hx0 hl0), pr q84 h9, pn q84 h9, ⟨.appD (z0.map q84) (Int.toNat a0) (q84 y8) 0 (y8.An.map pI) ([cnt 0 n0].map pI) 1 (((y8.An.map pI).length + ([cnt 0 n0].map pI).length) * (8 + 1)) (y10.map pI), Im 1 (λ _ => rfl) h9 rfl h11⟩, pr q84 h9, ⟨.updD (z0.map q84) (Int.toNat a0) (Int.toNat a0) (q84 y8) (q84 (⟨y10, y8.Ac, y8.Ae⟩ : Ai)) (y12.map q84), Ie h9 h13⟩] [] 4 [0, 1, 2, 3, 4, 5, 6, 7, 12] y12 hC [pq (A9 hi0 hl0)] (sI h).symm
  ·have h := hnext0 _ hs0
   refine ws D6 24 [] [pl Bt x0.Ac] [] 4 n9_ (Qc x0 (0, z0)) (Wv x0 x1 y4 (0, z0)) hC [] ?_
   obtain ⟨w1, hm1, hret1, hnext1⟩ := As h
   clear h
   refine wc w1 (Agb) (Ai5 x0 x1 y4) ?_ λ z1 hs1 => ?_
   ·refine wb ?_
    refine By (by kernel_rfl) (Zv x0 x1 y4) (Qc x0) (Wv x0 x1 y4) w1 1152921504606846976 (0, z0) hm1 rfl rfl λ z1 w1b h hb1 hr1 => ?_
    unfold Zv at h
    rcases cB h with ⟨h14, h⟩ | ⟨h14, h⟩
    ·obtain ⟨y15, h16, h⟩ := Ad h
     refine wn D6 34 [true] [pb Axz (Axh x0 x1 z1.1 _ h16)] [] 4 n9_ [2, 3, 4, 5, 6, 9, 10, 47, 48, 58] hC [pq h14] ?_
     rcases cB h with ⟨h17, h⟩ | ⟨h17, h⟩
     ·obtain ⟨y18, h19, h⟩ := Ad h
      obtain ⟨y20, h21, h⟩ := Ad h
      obtain ⟨y22, h23, h⟩ := Ad h
      obtain ⟨y24, h25, h⟩ := Ad h
      exact wx w1b (Qc x0) (Wv x0 x1 y4) D6 25 [true] [pr pI h19, pn pI h19, pr pI h19, pn pI h19, pr q84 h21, pn q84 h21, ⟨.appD (z1.2.map q84) (Int.toNat y18) (q84 y20) 1 (y20.Ac.map pI) ([z1.1].map pI) 1 (((y20.Ac.map pI).length + ([z1.1].map pI).length) * (8 + 1)) (y22.map pI), Im 1 (λ _ => rfl) h21 rfl h23⟩, pr q84 h21, ⟨.updD (z1.2.map q84) (Int.toNat y18) (Int.toNat y18) (q84 y20) (q84 (⟨y20.An, y22, y20.Ae⟩ : Ai)) (y24.map q84), Ie h21 h25⟩] [] 4 [0, 1, 2, 3, 4, 5, 6, 7, 12] (w64 (z1.1 + 1), y24) hC [pq h17] (sI h).symm
     ·exact wx w1b (Qc x0) (Wv x0 x1 y4) D6 25 [false] [] [] 4 n9_ (w64 (z1.1 + 1), z1.2) hC [pq h17] (sI h).symm
    ·exact wx w1 (Agb) (Ai5 x0 x1 y4) D6 26 [false] [] [] 4 n9_ (z1.1, z1.2) hC [pq h14] (hb1 _ (sI h).symm)
   ·have h := hnext1 _ hs1
    refine ws D6 24 [] [pl q65 x0.Ae] [] 4 n9_ (Qb x0 (0, z1.2)) (Wu x0 x1 y4 (0, z1.2)) hC [] ?_
    obtain ⟨w2, hm2, hret2, hnext2⟩ := As h
    clear h
    refine wc w2 (Aga) (Ai4 x1) ?_ λ z2 hs2 => ?_
    ·refine wb ?_
     refine By (by kernel_rfl) (Zu x0 x1 y4) (Qb x0) (Wu x0 x1 y4) w2 1152921504606846976 (0, z1.2) hm2 rfl rfl λ z2 w2b h hb2 hr2 => ?_
     unfold Zu at h
     rcases cB h with ⟨h26, h⟩ | ⟨h26, h⟩
     ·obtain ⟨y27, h28, h⟩ := Ad h
      refine wn D6 34 [true] [pb Axy (Axg x0 x1 z2.1 _ h28)] [] 4 n9_ [2, 3, 4, 5, 6, 12, 13, 80, 81, 91] hC [pq h26] ?_
      rcases cB h with ⟨h29, h⟩ | ⟨h29, h⟩
      ·obtain ⟨y30, h31, h⟩ := Ad h
       obtain ⟨y32, h33, h⟩ := Ad h
       obtain ⟨y34, h35, h⟩ := Ad h
       obtain ⟨y36, h37, h⟩ := Ad h
       exact wx w2b (Qb x0) (Wu x0 x1 y4) D6 25 [true] [pr pI h31, pn pI h31, pr pI h31, pn pI h31, pr q84 h33, pn q84 h33, ⟨.appD (z2.2.map q84) (Int.toNat y30) (q84 y32) 2 (y32.Ae.map pI) ([z2.1].map pI) 1 (((y32.Ae.map pI).length + ([z2.1].map pI).length) * (8 + 1)) (y34.map pI), Im 1 (λ _ => rfl) h33 rfl h35⟩, pr q84 h33, ⟨.updD (z2.2.map q84) (Int.toNat y30) (Int.toNat y30) (q84 y32) (q84 (⟨y32.An, y32.Ac, y34⟩ : Ai)) (y36.map q84), Ie h33 h37⟩] [] 4 [0, 1, 2, 3, 4, 5, 6, 7, 12] (w64 (z2.1 + 1), y36) hC [pq h29] (sI h).symm
      ·exact wx w2b (Qb x0) (Wu x0 x1 y4) D6 25 [false] [] [] 4 n9_ (w64 (z2.1 + 1), z2.2) hC [pq h29] (sI h).symm
     ·exact wx w2 (Aga) (Ai4 x1) D6 26 [false] [] [] 4 [0, 1, 2, 3, 7, 8] (z2.1, z2.2) hC [pq h26] (hb2 _ (sI h).symm)
    ·have h := hnext2 _ hs2
     refine wn D6 1 [] [] [.flat 4] 4 n5_ [4, 6] hC [] ?_
     obtain ⟨y38, h39, h⟩ := Ad h
     replace h := sI h
     subst h
     exact wr D6 22 [] [pc Auh (Atn z2.2 _ h39) [4]] [] 4 [0, 1, 2, 3, 5] hC []
theorem Azb : EN 89 := en Tryz.func89
theorem k94 (x0 : B0) (r : Bool) (h : F94 x0 = some r) : CO 94 [.agg (d63 x0)] [] (.d (Bo r)) [] := by
 unfold F94 at h
 refine co 38 Tryz.func94 λ C hC => ?_
 obtain ⟨y1, h2, h⟩ := Ad h
 replace h := sI h
 subst h
 exact wr n3_ 25 [] [pc Ah7 (Ahc x0.Kind 1 3 _ rfl) [], ⟨.when [(Dh x0.Kind 1 3, true)] (.call 148 [dI x0.Station, dI 0, dI 1] [] (dB (Dh x0.Station 0 1)) [] []), λ hg => ⟨Ah7, (Ahc x0.Station 0 1 _ rfl)⟩⟩, ⟨.when [(((Dh x0.Kind 1 3) && (Dh x0.Station 0 1)), true)] (.call 148 [dI x0.Max, dI 0, dI 5000] [] (dB (Dh x0.Max 0 5000)) [] []), λ hg => ⟨Ah7, (Ahc x0.Max 0 5000 _ rfl)⟩⟩, ⟨.when [((((Dh x0.Kind 1 3) && (Dh x0.Station 0 1)) && (Dh x0.Max 0 5000)), true)] (.call 148 [dI x0.Rate, dI 0, dI 5000] [] (dB (Dh x0.Rate 0 5000)) [] []), λ hg => ⟨Ah7, (Ahc x0.Rate 0 5000 _ rfl)⟩⟩, ⟨.when [(((((Dh x0.Kind 1 3) && (Dh x0.Station 0 1)) && (Dh x0.Max 0 5000)) && (Dh x0.Rate 0 5000)), true)] (.call 148 [dI x0.Cost, dI 1, dI 100] [] (dB (Dh x0.Cost 1 100)) [] []), λ hg => ⟨Ah7, (Ahc x0.Cost 1 100 _ rfl)⟩⟩, pL_ [((((((Dh x0.Kind 1 3) && (Dh x0.Station 0 1)) && (Dh x0.Max 0 5000)) && (Dh x0.Rate 0 5000)) && (Dh x0.Cost 1 100)), true)] Yd x0.Hd, pw A42 (λ hg => A28 x0.Hd _ (A_ h2 hg)) []] [] 0 [] hC []
theorem e94 : EN 94 := en Tryz.func94
def Qt : List Nat := [0, 1, 2, 3, 4, 5, 7, 9, 14, 15, 16, 17, 21, 22, 23, 24]
def zN (y3 : (List Ai)) (n0 : Nat) (z0 : (List Af)) : St := [(3, dO 0 0), (4, dO 1 0), (5, dO 6 0), (14, dS 7), (15, dI (ln y3)), (16, dI (cnt 0 n0))]
def Aj2 (x1 : Ab) (y1 : Ab) (y3 : (List Ai)) (n0 : Nat) (z0 : (List Af)) : List Res := (.box 36 (d36 x1) :: .box 36 [.os 8, .os 9, .os 10, .os 11] :: v2_ y1.Ah :: v4_ z0 :: v0_ y1.Ar :: v3_ y1.Ao :: .box 36 [.os 2, .os 3, .os 4, .os 5] :: v8_ y3 :: ze [])
def Amw  (z0 : (List Af)) : St := [(4, dO 0 0), (5, dO 5 0)]
def Aol (y1 : Ab) (z0 : (List Af)) : List Res := (.box 36 [.os 6, .os 7, .os 8, .os 9] :: v2_ y1.Ah :: v4_ z0 :: v0_ y1.Ar :: v3_ y1.Ao :: .box 36 [.os 1, .os 2, .os 3, .os 4] :: ze [])
def zM (y3 : (List Ai)) (n0 : Nat) (a0 : Ai) (n1 : Nat) (z1 : (List Af)) : St := [(3, dO 0 0), (4, dO 1 0), (5, dO 6 0), (7, dO 12 0), (14, dS 7), (15, dI (ln y3)), (16, dI (cnt 0 n0)), (21, .d (DS pI a0.Ac)), (22, dI (ln a0.Ac)), (23, dI (cnt 0 n1))]
def Aj1 (x1 : Ab) (y1 : Ab) (y3 : (List Ai)) (a0 : Ai) (n1 : Nat) (z1 : (List Af)) : List Res := (.box 36 (d36 x1) :: .box 36 [.os 8, .os 9, .os 10, .os 11] :: v2_ y1.Ah :: v4_ z1 :: v0_ y1.Ar :: v3_ y1.Ao :: .box 36 [.os 2, .os 3, .os 4, .os 5] :: v8_ y3 :: ze [.box 84 (d84 a0)])
def Amv (y3 : (List Ai)) (n0 : Nat) (z1 : (List Af)) : St := [(3, dO 0 0), (4, dO 1 0), (5, dO 6 0), (14, dS 7), (15, dI (ln y3)), (16, dI (cnt 0 n0))]
def Aok (x1 : Ab) (y1 : Ab) (y3 : (List Ai)) (z1 : (List Af)) : List Res := (.box 36 (d36 x1) :: .box 36 [.os 8, .os 9, .os 10, .os 11] :: v2_ y1.Ah :: v4_ z1 :: v0_ y1.Ar :: v3_ y1.Ao :: .box 36 [.os 2, .os 3, .os 4, .os 5] :: v8_ y3 :: ze [])
theorem A88 (x0 : Aa) (x1 : Ab) (r : Ab) (h : Arp x0 x1 = some r) : CO 127 [.agg (d29 x0), .agg (d36 x1)] [] (.agg [.os 0, .os 1, .os 2, .os 3]) (zp r []) := by
 unfold Arp at h
 refine co 58 Tryz.func127 λ C hC => ?_
 obtain ⟨y1, h2, h⟩ := Ad h
 obtain ⟨y3, h4, h⟩ := Ad h
 refine ws Qt 28 [] [pc e65 (k65 x1 _ h2) [], pc e25 (k25 x0 x1 _ h4) [], pl q84 y3] [.ownb 2 0 4 1, .ownb 2 1 120 4, .ownb 2 2 3 1, .ownb 2 3 86 2] 0 [1, 2, 3, 4, 5, 6, 7, 8, 9, 10, 11, 12] (zN y3 0 y1.Ac) (Aj2 x1 y1 y3 0 y1.Ac) hC [] ?_
 obtain ⟨w0, hm0, hret0, hnext0⟩ := As h
 clear h
 refine wc w0 (Amw) (Aol y1) ?_ λ z0 hs0 => ?_
 ·refine wb ?_
  refine Cc 14 7 rfl rfl λ hl0 => ?_
  refine A8 (by kernel_rfl) (Xi x1) (zN y3) (Aj2 x1 y1 y3) w0 y3 y1.Ac hm0 rfl rfl (λ z0 hn0 => ?_) λ n0 a0 z0 w0b hi0 hx0 h hb0 hr0 => ?_
  ·clear hm0
   exact wx w0 (Amw) (Aol y1) Qt 26 [false] [] [] 0 [1, 2, 3, 4, 5, 6, 8, 9, 10, 11] z0 hC [pq (Ba hl0)] hn0
  ·unfold Xi at h
   refine ws Qt 32 [true] [pr q84 (Bp hx0 hl0), pn q84 (Bp hx0 hl0), pl pI a0.Ac] [] 0 Fm (zM y3 n0 a0 0 z0) (Aj1 x1 y1 y3 a0 0 z0) hC [pq (A9 hi0 hl0)] ?_
   obtain ⟨w1, hm1, hret1, hnext1⟩ := As h
   clear h
   refine wc w1 (Amv y3 n0) (Aok x1 y1 y3) ?_ λ z1 hs1 => ?_
   ·refine wb ?_
    refine Bm 21 rfl λ hl1 => ?_
    refine A8 (by kernel_rfl) (Xh x1 a0) (zM y3 n0 a0) (Aj1 x1 y1 y3 a0) w1 a0.Ac z0 hm1 rfl rfl (λ z1 hn1 => ?_) λ n1 a1 z1 w1b hi1 hx1 h hb1 hr1 => ?_
    ·clear hm1
     exact wx w1 (Amv y3 n0) (Aok x1 y1 y3) Qt 26 [false] [] [] 0 E7 z1 hC [pq (Ba hl1)] hn1
    ·unfold Xh at h
     obtain ⟨y5, h6, h⟩ := Ad h
     obtain ⟨y7, h8, h⟩ := Ad h
     obtain ⟨y9, h10, h⟩ := Ad h
     obtain ⟨y11, h12, h⟩ := Ad h
     obtain ⟨y13, h14, h⟩ := Ad h
     obtain ⟨y15, h16, h⟩ := Ad h
     obtain ⟨y17, h18, h⟩ := Ad h
     obtain ⟨y19, h20, h⟩ := Ad h
     exact wx w1b (zM y3 n0 a0 (n1 + 1)) (Aj1 x1 y1 y3 a0 (n1 + 1)) Qt 33 [true] [pt hx1 hl1, pr pI h6, pr A6 h8, pr pI h10, pr A6 h12, pr A6 h14, pu A6 h14 h16, pr A6 h18, pu A6 h18 h20] [] 0 Fm y19 hC [pq (A9 hi1 hl1)] (sI h).symm
   ·have h := hnext1 _ hs1
    exact wx w0b (zN y3 (n0 + 1)) (Aj2 x1 y1 y3 (n0 + 1)) Qt 23 [] [] [] 0 E7 z1 hC [] (sI h).symm
 ·have h := hnext0 _ hs0
  replace h := sI h
  subst h
  exact wr Qt 23 [] [] [] 0 [1, 2, 3, 4] hC []
theorem A_q : EN 127 := en Tryz.func127
def Tk : List Nat := [0, 1, 2, 3, 4, 5, 6, 7, 9, 14, 21, 22, 23, 24, 30]
def jK (y6 : (List Ai)) (n0 : Nat) (z0 : (List Af)) : St := [(3, dO 0 0), (4, dO 1 0), (5, dI 0), (7, dO 10 0), (21, dS 11), (22, dI (ln y6)), (23, dI (cnt 0 n0))]
def Ae8 (x1 : Ab) (y4 : Ab) (y6 : (List Ai)) (n0 : Nat) (z0 : (List Af)) : List Res := (.box 36 (d36 x1) :: .box 36 [.os 2, .os 3, .os 4, .os 5] :: ze [v2_ y4.Ah, v4_ z0, v0_ y4.Ar, v3_ y4.Ao, .box 36 [.os 6, .os 7, .os 8, .os 9], v8_ y6])
def Ask  (z0 : (List Af)) : St := [(4, dO 0 0), (5, dI 0), (7, dO 9 0)]
def Avo (y4 : Ab) (z0 : (List Af)) : List Res := (.box 36 [.os 1, .os 2, .os 3, .os 4] :: ze [v2_ y4.Ah, v4_ z0, v0_ y4.Ar, v3_ y4.Ao, .box 36 [.os 5, .os 6, .os 7, .os 8]])
theorem k57 (x0 : Aa) (x1 : Ab) (r : Ab × Int) (h : F57 x0 x1 = some r) : CO 57 [.agg (d29 x0), .agg (d36 x1)] [] (.tup [.agg [.os 0, .os 1, .os 2, .os 3], .d (I r.2)]) (zp r.1 []) := by
 unfold F57 at h
 refine co 45 Tryz.func57 λ C hC => ?_
 obtain ⟨y1, h2, h⟩ := Ad h
 refine wn Tk 28 [] [pc e43 (k43 x0 x1 _ h2) []] [.ownb 2 0 4 1, .ownb 2 1 120 4, .ownb 2 2 3 1, .ownb 2 3 86 2] 0 n7_ [2, 3, 4, 5, 6, 14] hC [] ?_
 rcases cB h with ⟨h3, h⟩ | ⟨h3, h⟩
 ·replace h := sI h
  subst h
  exact wr Tk 24 [true] [] [.ownb 2 0 4 1, .ownb 2 1 120 4, .ownb 2 2 3 1, .ownb 2 3 86 2] 0 [7, 8, 9, 10] hC [pq h3]
 ·obtain ⟨y4, h5, h⟩ := Ad h
  obtain ⟨y6, h7, h⟩ := Ad h
  refine ws Tk 28 [false] [pc Mw (Mp x1 _ h5) [], pc e89 (k89 x0 x1 _ h7) [], pl q84 y6] [] 0 [1, 2, 3, 4, 5, 6, 7, 8, 9, 10, 11, 12] (jK y6 0 y4.Ac) (Ae8 x1 y4 y6 0 y4.Ac) hC [pq h3] ?_
  obtain ⟨w0, hm0, hret0, hnext0⟩ := As h
  clear h
  refine wc w0 (Ask) (Avo y4) ?_ λ z0 hs0 => ?_
  ·refine wb ?_
   refine Cc 21 11 rfl rfl λ hl0 => ?_
   refine A8 (by kernel_rfl) (vK x1 y4) (jK y6) (Ae8 x1 y4 y6) w0 y6 y4.Ac hm0 rfl rfl (λ z0 hn0 => ?_) λ n0 a0 z0 w0b hi0 hx0 h hb0 hr0 => ?_
   ·clear hm0
    exact wx w0 (Ask) (Avo y4) Tk 26 [false] [] [] 0 [1, 2, 3, 4, 5, 6, 7, 8, 9, 10] z0 hC [pq (Ba hl0)] hn0
   ·unfold vK at h
    refine wn Tk 32 [true] [pr q84 (Bp hx0 hl0), pn q84 (Bp hx0 hl0), pl pI a0.Ac] [] 0 Fm [3, 4, 5, 7, 9, 21, 22, 23, 30] hC [pq (A9 hi0 hl0)] ?_
    rcases cB h with ⟨h8, h⟩ | ⟨h8, h⟩
    ·obtain ⟨y9, h10, h⟩ := Ad h
     obtain ⟨y11, h12, h⟩ := Ad h
     obtain ⟨y13, h14, h⟩ := Ad h
     exact wx w0b (jK y6 (n0 + 1)) (Ae8 x1 y4 y6 (n0 + 1)) Tk 25 [true] [pr pI h10, pr A6 h12, pc Ah8 (Ahd (⟨y4.Ah, z0, y4.Ar, y4.Ao⟩ : Ab) a0.Ac y11 _ h14) [6, 7, 8, 9]] [] 0 E7 y13 hC [pq h8] (sI h).symm
    ·exact wx w0b (jK y6 (n0 + 1)) (Ae8 x1 y4 y6 (n0 + 1)) Tk 25 [false] [] [] 0 E7 z0 hC [pq h8] (sI h).symm
  ·have h := hnext0 _ hs0
   replace h := sI h
   subst h
   exact wr Tk 23 [] [] [] 0 [5, 6, 7, 8] hC []
theorem e57 : EN 57 := en Tryz.func57
def qC : List Nat := [0, 1, 2, 3, 4, 6, 7, 9, 30, 32, 33, 40]
theorem A78 (x0 : Aa) (x1 : Ab) (x2 : Int) (r : Bool) (h : Aki x0 x1 x2 = some r) : CO 237 [.agg (d29 x0), .agg (d36 x1), .d (I x2)] [] (.d (Bo r)) [] := by
 unfold Aki at h
 refine co 74 Tryz.func237 λ C hC => ?_
 obtain ⟨y1, h2, h⟩ := Ad h
 obtain ⟨y3, h4, h⟩ := Ad h
 obtain ⟨y5, h6, h⟩ := Ad h
 obtain ⟨y7, h8, h⟩ := Ad h
 refine wn qC 28 [] [pr Bi h2, pr pB h4, pw Jy (λ hg => Ju x1 2 x2 _ (A_ h6 hg)) [], pw Jy (λ hg => Ju x1 3 y1.A _ (A_ h8 hg)) []] [] 0 n3_ [3, 4, 6, 7, 30] hC [] ?_
 rcases cB h with ⟨h9, h⟩ | ⟨h9, h⟩
 ·replace h := sI h
  subst h
  exact wr qC 24 [true] [] [] 0 [] hC [pq h9]
 ·rcases cB h with ⟨h10, h⟩ | ⟨h10, h⟩
  ·obtain ⟨y11, h12, h⟩ := Ad h
   replace h := sI h
   subst h
   exact wr qC 32 [false, true] [pc Jy (Ju x1 3 y1.B _ h12) []] [] 0 [] hC [pq h9, pq h10]
  ·rcases cB h with ⟨h13, h⟩ | ⟨h13, h⟩
   ·obtain ⟨y14, h15, h⟩ := Ad h
    obtain ⟨y16, h17, h⟩ := Ad h
    replace h := sI h
    subst h
    exact wr qC 35 [false, false, true] [pc Jy (Ju x1 1 y1.B _ h15) [], pR A6 h17] [] 0 [] hC [pq h9, pq h10, pq h13]
   ·obtain ⟨y18, h19, h⟩ := Ad h
    obtain ⟨y20, h21, h⟩ := Ad h
    replace h := sI h
    subst h
    exact wr qC 39 [false, false, false] [pc A5f (A3l x0 x1 y1.B _ h19) [], pc Jy (Ju x1 4 y1.B _ h21) []] [] 0 [] hC [pq h9, pq h10, pq h13]
theorem A9q : EN 237 := en Tryz.func237
def Wa : List Nat := [0, 1, 2, 3, 4, 6, 7, 9, 12, 13, 14, 15, 21]
def zG (x2 : Int) (y1 : (List Ai)) (n0 : Nat) (z0 : Unit) : St := [(2, dI x2), (6, dO 0 0), (7, dB false), (12, dS 1), (13, dI (ln y1)), (14, dI (cnt 0 n0))]
def Ajv (y1 : (List Ai)) (n0 : Nat) (z0 : Unit) : List Res := [.box 84 [.os 2, .os 3, .os 4], v8_ y1, v0_ ([] : List Int), v0_ ([] : List Int), v0_ ([] : List Int)]
def Aml  (z0 : Unit) : St := [(6, dO 0 0), (7, dB false)]
def Aoa  (z0 : Unit) : List Res := [.box 84 [.os 1, .os 2, .os 3], v0_ ([] : List Int), v0_ ([] : List Int), v0_ ([] : List Int)]
theorem Tp (x0 : Aa) (x1 : Ab) (x2 : Int) (r : Ai × Bool) (h : Gh x0 x1 x2 = some r) : CO 156 [.agg (d29 x0), .agg (d36 x1), .d (I x2)] [] (.tup [.agg (d84 r.1), .d (Bo r.2)]) [] := by
 unfold Gh at h
 refine co 25 Tryz.func156 λ C hC => ?_
 obtain ⟨y1, h2, h⟩ := Ad h
 refine ws Wa 26 [] [pc e89 (k89 x0 x1 _ h2) [], pl q84 y1] [.ownb 2 0 3 1, .ownb 2 1 3 1, .ownb 2 2 3 1] 0 [2, 3, 4, 5, 6] (zG x2 y1 0 ()) (Ajv y1 0 ()) hC [] ?_
 obtain ⟨w0, hm0, hret0, hnext0⟩ := As h
 clear h
 refine wc w0 (Aml) (Aoa) ?_ λ z0 hs0 => ?_
 ·refine wb ?_
  refine Cc 12 1 rfl rfl λ hl0 => ?_
  refine A8 (by kernel_rfl) (J1 x2) (zG x2 y1) (Ajv y1) w0 y1 () hm0 rfl rfl (λ z0 hn0 => ?_) λ n0 a0 z0 w0b hi0 hx0 h hb0 hr0 => ?_
  ·clear hm0
   exact wx w0 (Aml) (Aoa) Wa 26 [false] [] [] 0 [0, 2, 3, 4] () hC [pq (Ba hl0)] hn0
  ·unfold J1 at h
   obtain ⟨y3, h4, h⟩ := Ad h
   refine wn Wa 32 [true] [pr q84 (Bp hx0 hl0), pn q84 (Bp hx0 hl0), pc Yv (Yo a0.An x2 _ h4) []] [] 0 n6_ [2, 6, 7, 9, 12, 13, 14, 21] hC [pq (A9 hi0 hl0)] ?_
   rcases cB h with ⟨h5, h⟩ | ⟨h5, h⟩
   ·have hq := hret0 _ (hr0 _ (sI h).symm)
    replace hq := sI hq
    subst hq
    exact wr Wa 24 [true] [] [] 0 [] hC [pq h5]
   ·exact wx w0b (zG x2 y1 (n0 + 1)) (Ajv y1 (n0 + 1)) Wa 25 [false] [] [] 0 n5_ () hC [pq h5] (sI h).symm
 ·have h := hnext0 _ hs0
  replace h := sI h
  subst h
  exact wr Wa 23 [] [] [.ownb 0 0 3 1, .frz 4, .ownb 0 1 3 1, .frz 5, .ownb 0 2 3 1, .frz 6] 0 [] hC []
theorem T5 : EN 156 := en Tryz.func156
def Lz : List Nat := [0, 2, 3, 24, 25, 26, 66]
def Ni (y1 : Ab × Int) (z0 : Int × (List Af)) : St := [(0, dO 0 0), (24, dI (ln y1.1.Ac)), (25, dI z0.1)]
def Rl (x0 : A3) (y1 : Ab × Int) (z0 : Int × (List Af)) : List Res := (.box 186 (zb x0.Al [.os 5, .os 6, .os 7, .os 8, I x0.time]) :: zp x0.Au [v2_ y1.1.Ah, v4_ z0.2, v0_ y1.1.Ar, v3_ y1.1.Ao])
def Acl  (z0 : Int × (List Af)) : St := []
def Ad4 (x0 : A3) (y1 : Ab × Int) (z0 : Int × (List Af)) : List Res := (.box 186 (zb x0.Al [.os 5, .os 6, .os 7, .os 8, I x0.time]) :: zp x0.Au [v2_ y1.1.Ah, v4_ z0.2, v0_ y1.1.Ar, v3_ y1.1.Ao])
theorem A2t (x0 : A3) (r : A3) (h : Kx x0 = some r) : CO 188 [.d (.o 0 0)] (.box 186 (zb x0.Al [.os 1, .os 2, .os 3, .os 4, I x0.time]) :: zp x0.Au []) (.tup []) (.box 186 (zb r.Al [.os 5, .os 6, .os 7, .os 8, I r.time]) :: .non :: .non :: .non :: .non :: zp r.Au []) := by
 unfold Kx at h
 refine co 71 Tryz.func188 λ C hC => ?_
 obtain ⟨y1, h2, h⟩ := Ad h
 refine ws Lz 25 [] [⟨.call 222 [.agg (d29 x0.Al), .agg [.os 0, .os 1, .os 2, .os 3]] (zp x0.Au []) (.tup [.agg [.os 4, .os 5, .os 6, .os 7], dI y1.2]) (zp x0.Au (zp y1.1 [])) [1, 2, 3, 4], ⟨A9s, ((A8a x0.Al x0.Au _ h2).lend (by kernel_rfl) (by kernel_rfl) (by kernel_rfl) ⟨Be (λ _ => rfl), Be (λ _ => rfl), Be (λ _ => rfl), Be (λ _ => rfl), trivial⟩ (by kernel_rfl) (by kernel_rfl))⟩⟩, pl A6 y1.1.Ac] [] 5 n9_ (Ni y1 (0, y1.1.Ac)) (Rl x0 y1 (0, y1.1.Ac)) hC [] ?_
 obtain ⟨w0, hm0, hret0, hnext0⟩ := As h
 clear h
 refine wc w0 (Acl) (Ad4 x0 y1) ?_ λ z0 hs0 => ?_
 ·refine wb ?_
  refine By (by kernel_rfl) (Kw x0 y1) (Ni y1) (Rl x0 y1) w0 1152921504606846976 (0, y1.1.Ac) hm0 rfl rfl λ z0 w0b h hb0 hr0 => ?_
  unfold Kw at h
  rcases cB h with ⟨h3, h⟩ | ⟨h3, h⟩
  ·obtain ⟨y4, h5, h⟩ := Ad h
   obtain ⟨y6, h7, h⟩ := Ad h
   obtain ⟨y8, h9, h⟩ := Ad h
   refine wn Lz 34 [true] [pr A6 h5, pn A6 h5, pv Ah6 (λ hg => Ahb (⟨x0.Al, (⟨y1.1.Ah, z0.2, y1.1.Ar, y1.1.Ao⟩ : Ab), x0.time⟩ : A3) z0.1 _ (A_ h7 hg)), ⟨.when [(((y4.State == 1) && y6), true)] (.row (z0.2.map A6) (((Int.toNat z0.1) : Nat) : Int) (A6 y4)), λ hg => Jo h5⟩, pR Bt h9] [] 5 n9_ [0, 3, 24, 25, 66] hC [pq h3] ?_
   rcases cB h with ⟨h10, h⟩ | ⟨h10, h⟩
   ·obtain ⟨y11, h12, h⟩ := Ad h
    exact wx w0b (Ni y1) (Rl x0 y1) Lz 25 [true] [pu A6 h5 h12] [] 5 n9_ (w64 (z0.1 + 1), y11) hC [pq h10] (sI h).symm
   ·exact wx w0b (Ni y1) (Rl x0 y1) Lz 25 [false] [] [] 5 n9_ (w64 (z0.1 + 1), z0.2) hC [pq h10] (sI h).symm
  ·exact wx w0 (Acl) (Ad4 x0 y1) Lz 26 [false] [] [] 5 n9_ (z0.1, z0.2) hC [pq h3] (hb0 _ (sI h).symm)
 ·have h := hnext0 _ hs0
  replace h := sI h
  subst h
  exact wf Lz 20 [] [] [.frz 1, .frz 2, .frz 3, .frz 4] 5 n9_ hC []
theorem A4n : EN 188 := en Tryz.func188
theorem k93 (x0 : B0) (r : Bool) (h : F93 x0 = some r) : CO 93 [.agg (d63 x0)] [] (.d (Bo r)) [] := by
 unfold F93 at h
 refine co 6 Tryz.func93 λ C hC => ?_
 obtain ⟨y1, h2, h⟩ := Ad h
 replace h := sI h
 subst h
 exact wr n3_ 25 [] [pc e94 (k94 x0 _ h2) []] [] 0 [] hC []
theorem e93 : EN 93 := en Tryz.func93
theorem A9i (x0 : B0) (x1 : Fk) (r : Int × Int) (h : Ayx x0 x1 = some r) : CO 106 [.agg (d63 x0), .agg (d70 x1)] [] (.tup [.d (I r.1), .d (I r.2)]) [] := by
 unfold Ayx at h
 refine co 31 Tryz.func106 λ C hC => ?_
 obtain ⟨y1, h2, h⟩ := Ad h
 refine wn [0, 1, 2, 3, 4, 5, 13] 26 [] [pc e94 (k94 x0 _ h2) [], ⟨.when [(!y1, false)] (.call 159 [.agg (d70 x1)] [] (dB (Arm x1)) [] []), λ hg => ⟨A_f, (A8x x1 _ rfl)⟩⟩] [] 0 [0, 1] [2, 3, 4, 5, 13] hC [] ?_
 rcases cB h with ⟨h3, h⟩ | ⟨h3, h⟩
 ·cases h
 ·obtain ⟨y4, h5, h⟩ := Ad h
  replace h := sI h
  subst h
  exact wr [0, 1, 2, 3, 4, 5, 13] 25 [false] [pc A_e (A8w (w64 ((w64 ((w64 (x1.X * x1.X)) + (w64 (x1.Y * x1.Y)))) * x0.Cost)) 1000 _ h5) []] [] 0 [] hC [pq h3]
theorem A_0 : EN 106 := en Tryz.func106
theorem k39 (x0 : Aa) (x1 : Ab) (r : Bool) (h : F39 x0 x1 = some r) : CO 39 [.agg (d29 x0), .agg (d36 x1)] [] (.d (Bo r)) [] := by
 unfold F39 at h
 refine co 16 Tryz.func39 λ C hC => ?_
 obtain ⟨y1, h2, h⟩ := Ad h
 obtain ⟨y3, h4, h⟩ := Ad h
 obtain ⟨y5, h6, h⟩ := Ad h
 replace h := sI h
 subst h
 exact wr n5_ 25 [] [pc e43 (k43 x0 x1 _ h2) [], pw e89 (λ hg => k89 x0 x1 _ (A_ h4 hg)) [], pv A61 (λ hg => A6g y3 _ (A_ h6 hg))] [] 0 [] hC []
theorem e39 : EN 39 := en Tryz.func39
def Apl : List Nat := [0, 1, 2, 3, 4, 5, 6, 11]
theorem A86 (x0 : Aa) (x1 : Ab) (r : Ab × Int) (h : Ak2 x0 x1 = some r) : CO 131 [.agg (d29 x0), .agg (d36 x1)] [] (.tup [.agg [.os 0, .os 1, .os 2, .os 3], .d (I r.2)]) (zp r.1 []) := by
 unfold Ak2 at h
 refine co 17 Tryz.func131 λ C hC => ?_
 obtain ⟨y1, h2, h⟩ := Ad h
 refine wn Apl 28 [] [pc e53 (k53 x0 x1 _ h2) []] [.ownb 2 0 4 1, .ownb 2 1 120 4, .ownb 2 2 3 1, .ownb 2 3 86 2] 0 n7_ [2, 3, 4, 5, 6, 11] hC [] ?_
 rcases cB h with ⟨h3, h⟩ | ⟨h3, h⟩
 ·replace h := sI h
  subst h
  exact wr Apl 24 [true] [] [.ownb 2 0 4 1, .ownb 2 1 120 4, .ownb 2 2 3 1, .ownb 2 3 86 2] 0 [7, 8, 9, 10] hC [pq h3]
 ·obtain ⟨y4, h5, h⟩ := Ad h
  replace h := sI h
  subst h
  exact wr Apl 25 [false] [pc A_q (A88 x0 x1 _ h5) []] [] 0 [7, 8, 9, 10] hC [pq h3]
theorem A_o : EN 131 := en Tryz.func131
def Ym : List Nat := [0, 1, 2, 3, 4, 5, 6, 7, 8, 9, 18, 22, 36, 43]
theorem k21 (x0 : Aa) (x1 : Bf) (x2 : A0) (r : Int) (h : F21 x0 x1 x2 = some r) : CO 21 [.agg (d29 x0), .agg (d31 x1), .agg (d40 x2)] [] (.d (I r)) [] := by
 unfold F21 at h
 refine co 55 Tryz.func21 λ C hC => ?_
 obtain ⟨y1, h2, h⟩ := Ad h
 refine wn Ym 31 [] [pc e57 (k57 x0 x2.Power _ h2) []] [] 0 n9_ [3, 4, 5, 6, 7, 8, 9, 18] hC [] ?_
 rcases cB h with ⟨h3, h⟩ | ⟨h3, h⟩
 ·replace h := sI h
  subst h
  exact wr Ym 24 [true] [] [] 0 [] hC [pq h3]
 ·rcases cB h with ⟨h4, h⟩ | ⟨h4, h⟩
  ·replace h := sI h
   subst h
   exact wr Ym 27 [false, true] [pc e59 (k59 x1 _ rfl) []] [] 0 [] hC [pq h3, pq h4]
  ·rcases cB h with ⟨h5, h⟩ | ⟨h5, h⟩
   ·replace h := sI h
    subst h
    exact wr Ym 30 [false, false, true] [pc e59 (k59 x1 _ rfl) [], pl B2 x2.A5] [] 0 [] hC [pq h3, pq h4, pq h5]
   ·obtain ⟨y6, h7, h⟩ := Ad h
    obtain ⟨y8, h9, h⟩ := Ad h
    refine wn Ym 30 [false, false, false] [pc e59 (k59 x1 _ rfl) [], pl B2 x2.A5, pb e60 (k60 x2.Power y1.1 _ h7), ⟨.whenR [(!y6, false)] (.call 61 [.d (DS B2 x2.A5), .d (.fn (.func 62) [] [.o 0 0])] [.box 126 [.fn (.func 58) [] [.o 1 0]], .box 40 (d40 x2)] (dB y8.1) [.box 126 [.fn (.func 58) [] [.o 1 0]], .box 40 (d40 y8.2)] [8, 2]), ⟨λ hg => ⟨A67, (A6m x2.A5 x2 _ (A_ h9 hg))⟩, λ hg => by have e := Ht h9 hg; subst e; rfl⟩⟩] [] 0 [] [6, 43] hC [pq h3, pq h4, pq h5] ?_
    rcases cB h with ⟨h10, h⟩ | ⟨h10, h⟩
    ·replace h := sI h
     subst h
     exact wr Ym 24 [true] [] [] 0 [] hC [pq h10]
    ·replace h := sI h
     subst h
     exact wr Ym 26 [false] [] [] 0 [] hC [pq h10]
theorem e21 : EN 21 := en Tryz.func21
def Api : List Nat := [0, 1, 2, 3, 4, 6, 7, 8, 20]
theorem Apq (x0 : Aa) (x1 : Ab) (x2 : Int) (r : Int × Bool) (h : U0 x0 x1 x2 = some r) : CO 216 [.agg (d29 x0), .agg (d36 x1), .d (I x2)] [] (.tup [.d (I r.1), .d (Bo r.2)]) [] := by
 unfold U0 at h
 refine co 25 Tryz.func216 λ C hC => ?_
 obtain ⟨y1, h2, h⟩ := Ad h
 refine wn Api 28 [] [pc T5 (Tp x0 x1 x2 _ h2) [], pl pI y1.1.Ac] [] 0 [2] [6, 7, 8, 20] hC [] ?_
 rcases cB h with ⟨h3, h⟩ | ⟨h3, h⟩
 ·replace h := sI h
  subst h
  exact wr Api 24 [true] [] [] 0 [] hC [pq h3]
 ·obtain ⟨y4, h5, h⟩ := Ad h
  replace h := sI h
  subst h
  exact wr Api 25 [false] [pr pI h5] [] 0 [] hC [pq h3]
theorem Ap5 : EN 216 := en Tryz.func216
theorem Apt (x0 : Aa) (x1 : Ab) (x2 : Int) (r : Bool) (h : Vs x0 x1 x2 = some r) : CO 102 [.agg (d29 x0), .agg (d36 x1), .d (I x2)] [] (.d (Bo r)) [] := by
 unfold Vs at h
 refine co 20 Tryz.func102 λ C hC => ?_
 obtain ⟨y1, h2, h⟩ := Ad h
 replace h := sI h
 subst h
 exact wr [0, 1, 2, 3, 4, 6, 7] 27 [] [pc T5 (Tp x0 x1 x2 _ h2) [], pl pI y1.1.Ac] [] 0 [] hC []
theorem Ap8 : EN 102 := en Tryz.func102
def qE : List Nat := [0, 1, 2, 3, 4, 6, 7, 9, 11, 20, 21, 22, 23, 29]
def Vv (y1 : Ai × Bool) (n0 : Nat) (z0 : Int) : St := [(4, dO 0 0), (6, dI 0), (7, dO 1 0), (9, dI z0), (20, .d (DS pI y1.1.Ae)), (21, dI (ln y1.1.Ae)), (22, dI (cnt 0 n0))]
def uT (x1 : Ab) (y1 : Ai × Bool) (n0 : Nat) (z0 : Int) : List Res := [.box 36 (d36 x1), .box 84 (d84 y1.1)]
def Al7  (z0 : Int) : St := [(6, dI 0), (9, dI z0)]
def Anw  (z0 : Int) : List Res := []
theorem Axd (x0 : Aa) (x1 : Ab) (x2 : Int) (r : Int) (h : U1 x0 x1 x2 = some r) : CO 214 [.agg (d29 x0), .agg (d36 x1), .d (I x2)] [] (.d (I r)) [] := by
 unfold U1 at h
 refine co 39 Tryz.func214 λ C hC => ?_
 obtain ⟨y1, h2, h⟩ := Ad h
 refine ws qE 30 [] [pc T5 (Tp x0 x1 x2 _ h2) [], pl pI y1.1.Ae] [] 0 [1, 2] (Vv y1 0 0) (uT x1 y1 0 0) hC [] ?_
 obtain ⟨w0, hm0, hret0, hnext0⟩ := As h
 clear h
 refine wc w0 (Al7) (Anw) ?_ λ z0 hs0 => ?_
 ·refine wb ?_
  refine Bm 20 rfl λ hl0 => ?_
  refine A8 (by kernel_rfl) (Pu x1 y1) (Vv y1) (uT x1 y1) w0 y1.1.Ae 0 hm0 rfl rfl (λ z0 hn0 => ?_) λ n0 a0 z0 w0b hi0 hx0 h hb0 hr0 => ?_
  ·clear hm0
   exact wx w0 (Al7) (Anw) qE 26 [false] [] [] 0 [] z0 hC [pq (Ba hl0)] hn0
  ·unfold Pu at h
   rcases cB h with ⟨h3, h⟩ | ⟨h3, h⟩
   ·obtain ⟨y4, h5, h⟩ := Ad h
    exact wx w0b (Vv y1 (n0 + 1)) (uT x1 y1 (n0 + 1)) qE 36 [true, true] [pt hx0 hl0, pl pI y1.1.Ac, pr pI h5] [] 0 [0, 1] (w64 (z0 + y4)) hC [pq (A9 hi0 hl0), pq h3] (sI h).symm
   ·exact wx w0b (Vv y1 (n0 + 1)) (uT x1 y1 (n0 + 1)) qE 36 [true, false] [pt hx0 hl0, pl pI y1.1.Ac] [] 0 [0, 1] z0 hC [pq (A9 hi0 hl0), pq h3] (sI h).symm
 ·have h := hnext0 _ hs0
  replace h := sI h
  subst h
  exact wr qE 23 [] [] [] 0 [] hC []
theorem Axv : EN 214 := en Tryz.func214
def Aew : List Nat := [0, 1, 2, 3, 4, 6, 7, 9, 11, 20, 21, 22, 23]
def yT (y1 : Ai × Bool) (n0 : Nat) (z0 : Int) : St := [(3, dO 0 0), (6, dI 0), (9, dI z0), (20, .d (DS pI y1.1.Ac)), (21, dI (ln y1.1.Ac)), (22, dI (cnt 0 n0))]
def Aji (x0 : Aa) (n0 : Nat) (z0 : Int) : List Res := [.box 29 (d29 x0)]
def Al8  (z0 : Int) : St := [(6, dI 0), (9, dI z0)]
def Anx  (z0 : Int) : List Res := []
theorem Axe (x0 : Aa) (x1 : Ab) (x2 : Int) (r : Int) (h : U2 x0 x1 x2 = some r) : CO 213 [.agg (d29 x0), .agg (d36 x1), .d (I x2)] [] (.d (I r)) [] := by
 unfold U2 at h
 refine co 36 Tryz.func213 λ C hC => ?_
 obtain ⟨y1, h2, h⟩ := Ad h
 refine ws Aew 30 [] [pc T5 (Tp x0 x1 x2 _ h2) [], pl pI y1.1.Ac] [] 0 [0] (yT y1 0 0) (Aji x0 0 0) hC [] ?_
 obtain ⟨w0, hm0, hret0, hnext0⟩ := As h
 clear h
 refine wc w0 (Al8) (Anx) ?_ λ z0 hs0 => ?_
 ·refine wb ?_
  refine Bm 20 rfl λ hl0 => ?_
  refine A8 (by kernel_rfl) (W0 x0) (yT y1) (Aji x0) w0 y1.1.Ac 0 hm0 rfl rfl (λ z0 hn0 => ?_) λ n0 a0 z0 w0b hi0 hx0 h hb0 hr0 => ?_
  ·clear hm0
   exact wx w0 (Al8) (Anx) Aew 26 [false] [] [] 0 [] z0 hC [pq (Ba hl0)] hn0
  ·unfold W0 at h
   obtain ⟨y3, h4, h⟩ := Ad h
   exact wx w0b (yT y1 (n0 + 1)) (Aji x0 (n0 + 1)) Aew 33 [true] [pt hx0 hl0, pr Bt h4] [] 0 [0] (w64 (z0 + y3.Rating)) hC [pq (A9 hi0 hl0)] (sI h).symm
 ·have h := hnext0 _ hs0
  replace h := sI h
  subst h
  exact wr Aew 23 [] [] [] 0 [] hC []
theorem Axw : EN 213 := en Tryz.func213
def I8 : List Nat := [0, 1, 2, 3, 4, 6, 7, 8, 9, 11, 12, 13, 22, 23, 24, 25, 26, 30, 31, 32, 33, 47]
def yY  (n0 : Nat) (z0 : Unit) : St := [(3, dO 0 0), (4, dO 1 0), (6, dI 0), (7, dB false), (8, dO 2 0), (23, .d (DS pI [2, 1, 0])), (24, dI ([2, 1, 0].length : Int)), (25, dI (cnt 0 n0))]
def Ajn (x0 : Aa) (x1 : Ab) (y1 : Ai × Bool) (n0 : Nat) (z0 : Unit) : List Res := [.box 29 (d29 x0), .box 36 (d36 x1), .box 84 (d84 y1.1)]
def Amd  (z0 : Unit) : St := [(6, dI 0), (7, dB false)]
def An2  (z0 : Unit) : List Res := []
def yX (x1 : Ab) (n0 : Nat) (a0 : Int) (n1 : Nat) (z1 : Unit) : St := [(3, dO 0 0), (4, dO 1 0), (6, dI 0), (7, dB false), (8, dO 2 0), (11, dI a0), (23, .d (DS pI [2, 1, 0])), (24, dI ([2, 1, 0].length : Int)), (25, dI (cnt 0 n0)), (30, .d (DS A6 x1.Ac)), (31, dI (ln x1.Ac)), (32, dI (cnt 0 n1))]
def Ajm (x0 : Aa) (x1 : Ab) (y1 : Ai × Bool) (n1 : Nat) (z1 : Unit) : List Res := [.box 29 (d29 x0), .box 36 (d36 x1), .box 84 (d84 y1.1)]
def Amc (n0 : Nat) (z1 : Unit) : St := [(3, dO 0 0), (4, dO 1 0), (6, dI 0), (7, dB false), (8, dO 2 0), (23, .d (DS pI [2, 1, 0])), (24, dI ([2, 1, 0].length : Int)), (25, dI (cnt 0 n0))]
def An1 (x0 : Aa) (x1 : Ab) (y1 : Ai × Bool) (z1 : Unit) : List Res := [.box 29 (d29 x0), .box 36 (d36 x1), .box 84 (d84 y1.1)]
theorem A8n (x0 : Aa) (x1 : Ab) (x2 : Int) (r : Int × Bool) (h : Akq x0 x1 x2 = some r) : CO 178 [.agg (d29 x0), .agg (d36 x1), .d (I x2)] [] (.tup [.d (I r.1), .d (Bo r.2)]) [] := by
 unfold Akq at h
 refine co 51 Tryz.func178 λ C hC => ?_
 obtain ⟨y1, h2, h⟩ := Ad h
 refine wn I8 28 [] [pc T5 (Tp x0 x1 x2 _ h2) []] [] 0 n3_ [3, 4, 6, 7, 8, 22] hC [] ?_
 rcases cB h with ⟨h3, h⟩ | ⟨h3, h⟩
 ·replace h := sI h
  subst h
  exact wr I8 24 [true] [] [] 0 [] hC [pq h3]
 ·refine ws I8 26 [false] [pl pI [2, 1, 0]] [] 0 n3_ (yY 0 ()) (Ajn x0 x1 y1 0 ()) hC [pq h3] ?_
  obtain ⟨w0, hm0, hret0, hnext0⟩ := As h
  clear h
  refine wc w0 (Amd) (An2) ?_ λ z0 hs0 => ?_
  ·refine wb ?_
   refine Bm 23 rfl λ hl0 => ?_
   refine A8 (by kernel_rfl) (W7 x0 x1 y1) (yY) (Ajn x0 x1 y1) w0 [2, 1, 0] () hm0 rfl rfl (λ z0 hn0 => ?_) λ n0 a0 z0 w0b hi0 hx0 h hb0 hr0 => ?_
   ·clear hm0
    exact wx w0 (Amd) (An2) I8 26 [false] [] [] 0 [] () hC [pq (Ba hl0)] hn0
   ·unfold W7 at h
    refine ws I8 32 [true] [pt hx0 hl0, pl A6 x1.Ac] [] 0 n3_ (yX x1 n0 a0 0 ()) (Ajm x0 x1 y1 0 ()) hC [pq (A9 hi0 hl0)] ?_
    obtain ⟨w1, hm1, hret1, hnext1⟩ := As h
    clear h
    refine wc w1 (Amc n0) (An1 x0 x1 y1) ?_ λ z1 hs1 => ?_
    ·refine wb ?_
     refine Bm 30 rfl λ hl1 => ?_
     refine A8 (by kernel_rfl) (W6 x0 x1 y1 a0) (yX x1 n0 a0) (Ajm x0 x1 y1) w1 x1.Ac () hm1 rfl rfl (λ z1 hn1 => ?_) λ n1 a1 z1 w1b hi1 hx1 h hb1 hr1 => ?_
     ·clear hm1
      exact wx w1 (Amc n0) (An1 x0 x1 y1) I8 26 [false] [] [] 0 n3_ () hC [pq (Ba hl1)] hn1
     ·unfold W6 at h
      obtain ⟨y4, h5, h⟩ := Ad h
      refine wn I8 32 [true] [pt hx1 hl1, pw A9u (λ hg => A8c x0 x1 y1.1 (cnt 0 n1) _ (A_ h5 hg)) []] [] 0 n3_ [3, 4, 6, 7, 8, 11, 12, 23, 24, 25, 30, 31, 32, 47] hC [pq (A9 hi1 hl1)] ?_
      rcases cB h with ⟨h6, h⟩ | ⟨h6, h⟩
      ·have hq := hret1 _ (hr1 _ (sI h).symm)
       replace hq := hret0 _ (hr0 _ (sI hq).symm)
       replace hq := sI hq
       subst hq
       exact wr I8 24 [true] [] [] 0 [] hC [pq h6]
      ·exact wx w1b (yX x1 n0 a0 (n1 + 1)) (Ajm x0 x1 y1 (n1 + 1)) I8 25 [false] [] [] 0 n3_ () hC [pq h6] (sI h).symm
    ·have h := hnext1 _ hs1
     exact wx w0b (yY (n0 + 1)) (Ajn x0 x1 y1 (n0 + 1)) I8 23 [] [] [] 0 n3_ () hC [] (sI h).symm
  ·have h := hnext0 _ hs0
   replace h := sI h
   subst h
   exact wr I8 23 [] [] [] 0 [] hC []
theorem A95 : EN 178 := en Tryz.func178
def Pa : List Nat := [0, 1, 4, 5, 7, 8, 9, 16]
def Sv (x0 : List B0) (n0 : Nat) (z0 : Unit) : St := [(0, .d (DS q63 x0)), (1, .d (.fn (.func 93) [] [])), (4, dI 0), (7, dI (ln x0)), (8, dI (cnt 0 n0))]
def Zl  (n0 : Nat) (z0 : Unit) : List Res := []
def Acq  (z0 : Unit) : St := [(4, dI 0)]
def Ad9  (z0 : Unit) : List Res := []
theorem A29 (x0 : List B0) (r : Int) (h : Akz x0 = some r) : CO 147 [.d (DS q63 x0), .d (.fn (.func 93) [] [])] [] (.d (I r)) [] := by
 unfold Akz at h
 refine co 19 Tryz.func147 λ C hC => ?_
 refine ws Pa 26 [] [pl q63 x0] [] 0 [] (Sv x0 0 ()) (Zl 0 ()) hC [] ?_
 obtain ⟨w0, hm0, hret0, hnext0⟩ := As h
 clear h
 refine wc w0 (Acq) (Ad9) ?_ λ z0 hs0 => ?_
 ·refine wb ?_
  refine Bm 0 rfl λ hl0 => ?_
  refine A8 (by kernel_rfl) Vl (Sv x0) (Zl) w0 x0 () hm0 rfl rfl (λ z0 hn0 => ?_) λ n0 a0 z0 w0b hi0 hx0 h hb0 hr0 => ?_
  ·clear hm0
   exact wx w0 (Acq) (Ad9) Pa 26 [false] [] [] 0 [] () hC [pq (Ba hl0)] hn0
  ·unfold Vl at h
   obtain ⟨y1, h2, h⟩ := Ad h
   refine wn Pa 32 [true] [pt hx0 hl0, pc e93 (k93 a0 _ h2) []] [] 0 [] [0, 1, 4, 5, 7, 8, 16] hC [pq (A9 hi0 hl0)] ?_
   rcases cB h with ⟨h3, h⟩ | ⟨h3, h⟩
   ·cases h
   ·exact wx w0b (Sv x0 (n0 + 1)) (Zl (n0 + 1)) Pa 25 [false] [] [] 0 [] () hC [pq h3] (sI h).symm
 ·have h := hnext0 _ hs0
  replace h := sI h
  subst h
  exact wr Pa 23 [] [] [] 0 [] hC []
theorem A43 : EN 147 := en Tryz.func147
theorem k47 (x0 : B0) (x1 : Int) (r : Int) (h : F47 x0 x1 = some r) : CO 47 [.agg (d63 x0), .d (I x1)] [] (.d (I r)) [] := by
 unfold F47 at h
 refine co 40 Tryz.func47 λ C hC => ?_
 obtain ⟨y1, h2, h⟩ := Ad h
 rcases cB h with ⟨h3, h⟩ | ⟨h3, h⟩
 ·cases h
 ·rcases cB h with ⟨h4, h⟩ | ⟨h4, h⟩
  ·cases h
  ·obtain ⟨u6, h5, h⟩ := Ad h
   obtain ⟨y7, h8, h⟩ := Ad h
   replace h := sI h
   subst h
   exact wr [0, 1, 2, 4, 5, 6, 7, 17, 24] 39 [false, false] [pc A_0 (A9i x0 (⟨x0.Max, 0⟩ : Fk) _ h2) [], ⟨.nz x0.Cost, O7 h5⟩, pc A_z (A9h (w64 (Int.tdiv (w64 (1000 * x1)) x0.Cost)) _ h8) []] [] 0 [] hC [pq h3, pq h4]
theorem e47 : EN 47 := en Tryz.func47
theorem A6k (x0 : Aj) (x1 : Aa) (r : Ab × Aj) (h : vG x0 x1 = some r) : CO 79 [.d (.o 0 0), .agg [I x1.An, .os 1, .os 2, .os 3, I x1.Phase, I x1.Aq]] (.box 90 (d90 x0) :: zs x1 []) (.agg [.os 4, .os 5, .os 6, .os 7]) (.box 90 (d90 r.2) :: zs x1 (zp r.1 [])) := by
 unfold vG at h
 refine co 16 Tryz.func79 λ C hC => ?_
 obtain ⟨y1, h2, h⟩ := Ad h
 obtain ⟨y3, h4, h⟩ := Ad h
 replace h := sI h
 subst h
 exact wr [0, 1, 3, 4, 5] 27 [] [⟨.flts [.box 36 [.p (.v (.slice none 0 0)), .p (.v (.slice none 0 0)), .p (.v (.slice none 0 0)), .p (.v (.slice none 0 0))]], trivial⟩, pc A5b (A3h x0 x1 _ h2) n4_, ⟨.call 131 [.agg [I x1.An, .os 0, .os 1, .os 2, I x1.Phase, I x1.Aq], .agg [.os 3, .os 4, .os 5, .os 6]] (zs x1 (zp y1.1 [])) (.tup [.agg [.os 7, .os 8, .os 9, .os 10], dI y3.2]) (zs x1 (zp y1.1 (zp y3.1 []))) [1, 2, 3, 7, 8, 9, 10], ⟨A_o, ((A86 x1 y1.1 _ h4).lend (by kernel_rfl) (by kernel_rfl) (by kernel_rfl) ⟨Be (λ _ => rfl), Be (λ _ => rfl), Be (λ _ => rfl), Be (λ _ => rfl), trivial⟩ (by kernel_rfl) (by kernel_rfl))⟩⟩, ⟨.flt 6 (.box 36 [.p (.v (.slice none 0 0)), .p (.v (.slice none 0 0)), .p (.v (.slice none 0 0)), .p (.v (.slice none 0 0))]) (.box 36 [.p (.v (.slice none 0 0)), .p (.v (.slice none 0 0)), .p (.v (.slice none 0 0)), .p (.v (.slice none 0 0))]), rfl⟩] [] 4 [0, 1, 2, 3, 11, 12, 13, 14] hC []
theorem A65 : EN 79 := en Tryz.func79
def qB : List Nat := [0, 1, 2, 3, 4, 5, 6, 7, 8, 9, 10, 20, 22, 23, 49]
theorem A77 (x0 : Aa) (x1 : Ab) (x2 : Ak) (r : Bool) (h : Akh x0 x1 x2 = some r) : CO 238 [.agg (d29 x0), .agg (d36 x1), .agg (Ot x2)] [] (.d (Bo r)) [] := by
 unfold Akh at h
 refine co 64 Tryz.func238 λ C hC => ?_
 obtain ⟨y1, h2, h⟩ := Ad h
 refine wn qB 28 [] [pc Ap5 (Apq x0 x1 x2.A _ h2) []] [] 0 n3_ [3, 4, 5, 6, 7, 20] hC [] ?_
 rcases cB h with ⟨h3, h⟩ | ⟨h3, h⟩
 ·replace h := sI h
  subst h
  exact wr qB 24 [true] [] [] 0 [] hC [pq h3]
 ·rcases cB h with ⟨h4, h⟩ | ⟨h4, h⟩
  ·obtain ⟨y5, h6, h⟩ := Ad h
   obtain ⟨y7, h8, h⟩ := Ad h
   obtain ⟨y9, h10, h⟩ := Ad h
   replace h := sI h
   subst h
   exact wr qB 34 [false, true] [pc Ap5 (Apq x0 x1 x2.B _ h6) [], pR A6 h8, pR A6 h10, ⟨.when [(!y5.2, false)] (.call 243 [.agg (d29 x0), .agg (T7 y7), .agg (T7 y9)] [] (dB (Akf x0 y7 y9)) [] []), λ hg => ⟨A3v, (A11 x0 y7 y9 _ rfl)⟩⟩] [] 0 [] hC [pq h3, pq h4]
  ·rcases cB h with ⟨h11, h⟩ | ⟨h11, h⟩
   ·obtain ⟨y12, h13, h⟩ := Ad h
    obtain ⟨y14, h15, h⟩ := Ad h
    replace h := sI h
    subst h
    exact wr qB 35 [false, false, true] [pr A6 h13, pr A6 h15, pc A3v (A11 x0 y12 y14 _ rfl) []] [] 0 [] hC [pq h3, pq h4, pq h11]
   ·replace h := sI h
    subst h
    exact wr qB 37 [false, false, false] [] [] 0 [] hC [pq h3, pq h4, pq h11]
theorem A9p : EN 238 := en Tryz.func238
def Nu : List Nat := [0, 1, 2, 3, 4, 5, 8, 9, 10, 11, 12, 13, 14, 15, 16, 17, 23, 44, 63, 76]
theorem A8k (x0 : Aa) (x1 : Ab) (x2 : Int) (x3 : Int) (r : Ab × Int) (h : Akn x0 x1 x2 x3 = some r) : CO 184 [.agg (d29 x0), .agg (d36 x1), .d (I x2), .d (I x3)] [] (.tup [.agg [.os 0, .os 1, .os 2, .os 3], .d (I r.2)]) (zp r.1 []) := by
 unfold Akn at h
 refine co 95 Tryz.func184 λ C hC => ?_
 obtain ⟨y1, h2, h⟩ := Ad h
 refine wn Nu 28 [] [pc e43 (k43 x0 x1 _ h2) []] [.ownb 2 0 4 1, .ownb 2 1 120 4, .ownb 2 2 3 1, .ownb 2 3 86 2] 0 n7_ [2, 3, 4, 5, 8, 9, 10, 23] hC [] ?_
 rcases cB h with ⟨h3, h⟩ | ⟨h3, h⟩
 ·replace h := sI h
  subst h
  exact wr Nu 24 [true] [] [.ownb 2 0 4 1, .ownb 2 1 120 4, .ownb 2 2 3 1, .ownb 2 3 86 2] 0 [7, 8, 9, 10] hC [pq h3]
 ·rcases cB h with ⟨h4, h⟩ | ⟨h4, h⟩
  ·replace h := sI h
   subst h
   exact wr Nu 29 [false, true] [pL_ [(decide (x2 < 0), false)] Bt x0.Ac] [.ownb 2 0 4 1, .ownb 2 1 120 4, .ownb 2 2 3 1, .ownb 2 3 86 2] 0 [7, 8, 9, 10] hC [pq h3, pq h4]
  ·obtain ⟨y5, h6, h⟩ := Ad h
   obtain ⟨y7, h8, h⟩ := Ad h
   refine wn Nu 33 [false, false] [pL_ [(decide (x2 < 0), false)] Bt x0.Ac, pc Ap5 (Apq x0 x1 x3 _ h6) [], pR A6 h8] [] 0 n7_ [2, 4, 5, 8, 9, 11, 63] hC [pq h3, pq h4] ?_
   rcases cB h with ⟨h9, h⟩ | ⟨h9, h⟩
   ·replace h := sI h
    subst h
    exact wr Nu 24 [true] [] [.ownb 2 0 4 1, .ownb 2 1 120 4, .ownb 2 2 3 1, .ownb 2 3 86 2] 0 [7, 8, 9, 10] hC [pq h9]
   ·obtain ⟨y10, h11, h⟩ := Ad h
    obtain ⟨y12, h13, h⟩ := Ad h
    refine wn Nu 32 [false] [pc Mw (Mp x1 _ h11) [], pc A37 (A2d x0 x1 x2 _ h13) []] [] 0 E7 [4, 5, 8, 9, 11, 13, 14, 15, 76] hC [pq h9] ?_
    rcases cB h with ⟨h14, h⟩ | ⟨h14, h⟩
    ·obtain ⟨y15, h16, h⟩ := Ad h
     obtain ⟨y17, h18, h⟩ := Ad h
     obtain ⟨y19, h20, h⟩ := Ad h
     replace h := sI h
     subst h
     exact wr Nu 29 [true] [pc T5 (Tp x0 x1 y12.1 _ h16) [], pr A6 h18, pc Ah8 (Ahd y10 y15.1.Ac y17 _ h20) [7, 8, 9, 10]] [] 0 [7, 8, 9, 10] hC [pq h14]
    ·obtain ⟨y21, h22, h⟩ := Ad h
     obtain ⟨y23, h24, h⟩ := Ad h
     replace h := sI h
     subst h
     exact wr Nu 27 [false] [pr A6 h22, pc Ah8 (Ahd y10 [x2] y21 _ h24) [7, 8, 9, 10]] [] 0 [7, 8, 9, 10] hC [pq h14]
theorem A92 : EN 184 := en Tryz.func184
theorem A2h (x0 : Ak) (x1 : Ax) (r : Bool × Ax) (h : U4 x0 x1 = some r) : CO 206 [.agg (Ot x0), .d (.o 0 0)] (.box 211 [.o 1 0] :: .box 235 (zb x1.Al [.os 2, .os 3, .os 4, .os 5, .os 6]) :: zp x1.Au [v6_ x1.acts]) (.d (Bo r.1)) (.box 211 [.o 1 0] :: .box 235 (zb r.2.Al [.os 2, .os 3, .os 4, .os 5, .os 6]) :: zp r.2.Au [v6_ r.2.acts]) := by
 unfold U4 at h
 refine co 21 Tryz.func206 λ C hC => ?_
 obtain ⟨y1, h2, h⟩ := Ad h
 replace h := sI h
 subst h
 exact wr n4_ 25 [] [pv Ap8 (λ hg => Apt x1.Al x1.Au x0.A _ (A_ h2 hg))] [] 7 n7_ hC []
theorem A4b : EN 206 := en Tryz.func206
theorem Atj (x0 : Ax) (x1 : Int) (r : Int) (h : Pr x0 x1 = some r) : CO 234 [.d (.ip [.v (.int .i64 x0.Al.An), .s (x0.Al.Ag.map Bi), .s (x0.Al.Ac.map Bt), .s (x0.Al.Ae.map q65), .v (.int .i64 x0.Al.Phase), .v (.int .i64 x0.Al.Aq), .s (x0.Au.Ah.map pB), .s (x0.Au.Ac.map A6), .s (x0.Au.Ar.map pI), .s (x0.Au.Ao.map q86), .s (x0.acts.map q49)]), .d (I x1)] [] (.d (I r)) [] := by
 unfold Pr at h
 refine co 27 Tryz.func234 λ C hC => ?_
 obtain ⟨y1, h2, h⟩ := Ad h
 obtain ⟨y3, h4, h⟩ := Ad h
 replace h := sI h
 subst h
 exact wr [0, 1, 4] 25 [] [pc Axv (Axd x0.Al x0.Au x1 _ h2) [], pc Axw (Axe x0.Al x0.Au x1 _ h4) []] [] 0 [] hC []
theorem Aud : EN 234 := en Tryz.func234
def Ll : List Nat := [0, 1, 2, 3, 4, 5, 6, 7, 8, 9, 10, 13, 14, 30, 33, 34, 35, 40, 61]
def Ajo (x0 : Aa) (x1 : Bf) (x2 : Ab) (x3 : Int) (z0 : Unit) : List Res := [.box 29 (d29 x0), .box 31 (d31 x1), .box 36 (d36 x2), .box 3 [I x3], .box 3 [I 0], .box 4 [Bo false], .non]
def Ant (x0 : Aa) (x1 : Bf) (x2 : Ab) (x3 : Int) (v175_0 : Int × Bool) : List Res := [.box 29 (d29 x0), .box 31 (d31 x1), .box 36 (d36 x2), .box 3 [I x3], .box 3 [I v175_0.1], .box 4 [Bo v175_0.2], .non]
theorem A8p (x0 : Aa) (x1 : Bf) (x2 : Ab) (x3 : Int) (r : Int × Bool) (h : Aks x0 x1 x2 x3 = some r) : CO 175 [.agg (d29 x0), .agg (d31 x1), .agg (d36 x2), .d (I x3)] [] (.tup [.d (I r.1), .d (Bo r.2)]) [] := by
 unfold Aks at h
 refine co 63 Tryz.func175 λ C hC => ?_
 obtain ⟨y1, h2, h⟩ := Ad h
 refine wn Ll 28 [] [pc T5 (Tp x0 x2 x3 _ h2) [], pc e59 (k59 x1 _ rfl) [], pL_ [(!(F59 x1), false)] pI y1.1.Ac] [] 0 n7_ [4, 5, 6, 7, 8, 9, 10, 30] hC [] ?_
 rcases cB h with ⟨h3, h⟩ | ⟨h3, h⟩
 ·replace h := sI h
  subst h
  exact wr Ll 24 [true] [] [] 0 [] hC [pq h3]
 ·refine ws Ll 27 [false] [pc A9v (A8d y1.1.Ac) []] [] 0 [0, 1, 2, 3, 4, 5, 7] [(4, dO 0 0), (5, dO 1 0), (6, dO 2 0), (7, dO 3 0), (8, dO 4 0), (9, dO 5 0), (33, .d (.fn (.func 236) [] [.o 6 0]))] [.box 29 (d29 x0), .box 31 (d31 x1), .box 36 (d36 x2), .box 3 [I x3], .box 3 [I 0], .box 4 [Bo false], .box 22 [DS pI y1.1.Ac]] hC [pq h3] ?_
  obtain ⟨w0, hm0, hret0, hnext0⟩ := As h
  clear h
  refine Ayh (by kernel_rfl) (t := 33) (d := 13) (p := 35) (gf := 236) (j := 6) (ty := 22) Wr (bw y1.1.Ac) (W8 x0 x1 x2 x3) (Ajo x0 x1 x2 x3) (Ant x0 x1 x2 x3) w0 () (λ a0 => dI a0.2) hm0 (A1e y1.1.Ac) (by kernel_rfl) (by kernel_rfl) (by kernel_rfl) (by kernel_rfl) (by kernel_rfl) [(4, dO 0 0), (5, dO 1 0), (6, dO 2 0), (7, dO 3 0), (8, dO 4 0), (9, dO 5 0)] (by kernel_rfl) (by kernel_rfl) (A7n (a := 34) (b := 35) (by kernel_rfl)) (A5t 34 35 (by kernel_rfl) (by decide) (by decide)) (by decide) rfl (Up.of_nil rfl) 7 (by kernel_rfl) (Nat.le_trans hC (Nat.le_of_ble_eq_true rfl)) (λ C2 z0 hh hup2 hs0 => ?_) (λ C2 v175_0 hh hup2 hr0 a w hsR => ?_) (λ l C' a0 z0 w0b hlen hdf h hkr => ?_)
  ·have hC : C2.h.length <= 0 := by rw [hh]; exact hC
   have h := hnext0 _ hs0
   replace h := sI h
   subst h
   exact Ans (bs := []) Hh Ll 24 [] [] [] [.cell 8 3, .cell 9 4] 0 [] rfl hC trivial trivial (by kernel_rfl) hup2
  ·have hC : C2.h.length <= 0 := by rw [hh]; exact hC
   have h := hret0 _ hr0
   replace h := sI h
   subst h
   exact hsR.retM [] [.cell 8 3, .cell 9 4] 0 [] rfl hC (by kernel_rfl) hup2
  ·have hC : C'.h.length <= 7 := hlen
   unfold W8 at h
   obtain ⟨y4, h5, h⟩ := Ad h
   obtain ⟨y6, h7, h⟩ := Ad h
   refine wn Ll 25 [] [pc Ap6 (Apr x0 a0.2 _ h5) [], pc Jy (Ju x2 2 y4 _ h7) []] [] 7 n7_ [4, 5, 6, 7, 8, 9, 13, 40] hC [] ?_
   rcases cB h with ⟨h8, h⟩ | ⟨h8, h⟩
   ·exact wx w0b (λ _ => []) (Ajo x0 x1 x2 x3) Ll 23 [true] [] [] 7 n7_ () hC [pq h8] (sI h).symm
   ·obtain ⟨y9, h10, h⟩ := Ad h
    obtain ⟨y11, h12, h⟩ := Ad h
    obtain ⟨y13, h14, h⟩ := Ad h
    refine wn Ll 27 [false] [pc Axw (Axe x0 x2 x3 _ h10) [], pr Bt h12, pc Axv (Axd x0 x2 x3 _ h14) []] [] 7 n7_ [8, 9, 13, 61] hC [pq h8] ?_
    rcases cB h with ⟨h15, h⟩ | ⟨h15, h⟩
    ·exact A1l (bs := [((Auw x1 y9 y11 y13), true)]) (Rr := (Ant x0 x1 x2 x3)) Hh Ll 24 [true] [] [] 7 n7_ (a0.2, true) hC trivial ⟨h15, trivial⟩ (by kernel_rfl) (sI h).symm
    ·exact wx w0b (λ _ => []) (Ajo x0 x1 x2 x3) Ll 24 [false] [] [] 7 n7_ () hC [pq h15] (sI h).symm
theorem A97 : EN 175 := en Tryz.func175
theorem A8o (x0 : Aa) (x1 : Bf) (x2 : Ab) (x3 : Int) (r : Bool) (h : Akr x0 x1 x2 x3 = some r) : CO 177 [.agg (d29 x0), .agg (d31 x1), .agg (d36 x2), .d (I x3)] [] (.d (Bo r)) [] := by
 unfold Akr at h
 refine co 32 Tryz.func177 λ C hC => ?_
 obtain ⟨y1, h2, h⟩ := Ad h
 obtain ⟨y3, h4, h⟩ := Ad h
 obtain ⟨y5, h6, h⟩ := Ad h
 replace h := sI h
 subst h
 exact wr [0, 1, 2, 3, 4, 5, 6, 8] 25 [] [pc e59 (k59 x1 _ rfl) [], pw Ap8 (λ hg => Apt x0 x2 x3 _ (A_ h2 hg)) [], pw Axv (λ hg => Axd x0 x2 x3 _ (A_ h4 hg)) [], pw Axw (λ hg => Axe x0 x2 x3 _ (A_ h6 hg)) []] [] 0 [] hC []
theorem A96 : EN 177 := en Tryz.func177
def Aal : List Nat := [0, 1, 2, 3, 4, 5, 8, 9, 10, 12, 19, 20, 25]
theorem A2x (x0 : Aa) (x1 : Ab) (x2 : Int) (x3 : Int) (r : (List Ap) × Bool) (h : Vh x0 x1 x2 x3 = some r) : CO 179 [.agg (d29 x0), .agg [.os 0, .os 1, .os 2, .os 3], .d (I x2), .d (I x3)] (zp x1 []) (.tup [.d (DS q49 r.1), .d (Bo r.2)]) (zp x1 []) := by
 unfold Vh at h
 refine co 49 Tryz.func179 λ C hC => ?_
 obtain ⟨y1, h2, h⟩ := Ad h
 rcases cB h with ⟨h3, h⟩ | ⟨h3, h⟩
 ·replace h := sI h
  subst h
  exact wr Aal 32 [true] [pr A6 h2, pn A6 h2] [] 4 n4_ hC [pq h3]
 ·rcases cB h with ⟨h4, h⟩ | ⟨h4, h⟩
  ·obtain ⟨y5, h6, h⟩ := Ad h
   obtain ⟨y7, h8, h⟩ := Ad h
   obtain ⟨y9, h10, h⟩ := Ad h
   replace h := sI h
   subst h
   exact wr Aal 39 [false, true] [pr A6 h2, pn A6 h2, pb Ap5 (Apq x0 x1 x2 _ h6), pb A37 (A2d x0 x1 y5.1 _ h8), pc Ap6 (Apr x0 x3 _ h10) []] [] 4 n4_ hC [pq h3, pq h4]
  ·replace h := sI h
   subst h
   exact wr Aal 37 [false, false] [pr A6 h2, pn A6 h2] [] 4 n4_ hC [pq h3, pq h4]
theorem A4r : EN 179 := en Tryz.func179
theorem A6f (x0 : List B0) (r : Bool) (h : Ara x0 = some r) : CO 92 [.d (DS q63 x0), .d (.fn (.func 93) [] [])] [] (.d (Bo r)) [] := by
 unfold Ara at h
 refine co 9 Tryz.func92 λ C hC => ?_
 obtain ⟨y1, h2, h⟩ := Ad h
 replace h := sI h
 subst h
 exact wr [0, 1, 4] 25 [] [pc A43 (A29 x0 _ h2) []] [] 0 [] hC []
theorem A60 : EN 92 := en Tryz.func92
theorem A74 (rec46 : Aa -> Ab -> Int -> Option Bool) (ih46 : ∀ (x0 : Aa) (x1 : Ab) (x2 : Int) (r : Bool), rec46 x0 x1 x2 = some r -> CO 46 [.agg (d29 x0), .agg (d36 x1), .d (I x2)] [] (.d (Bo r)) []) (x0 : Aa) (x1 : Ab) (x2 : Int) (r : Bool) (h : Ayo rec46 x0 x1 x2 = some r) : CO 46 [.agg (d29 x0), .agg (d36 x1), .d (I x2)] [] (.d (Bo r)) [] := by
 unfold Ayo at h
 refine co 53 Tryz.func46 λ C hC => ?_
 obtain ⟨y1, h2, h⟩ := Ad h
 obtain ⟨y3, h4, h⟩ := Ad h
 obtain ⟨y5, h6, h⟩ := Ad h
 obtain ⟨y7, h8, h⟩ := Ad h
 obtain ⟨y9, h10, h⟩ := Ad h
 refine wn [0, 1, 2, 3, 4, 6, 7, 8, 43] 28 [] [pc A5f (A3l x0 x1 x2 _ h2) [], pw Ap8 (λ hg => Apt x0 x1 y1.1 _ (A_ h4 hg)) [], pw Jy (λ hg => Ju x1 4 x2 _ (A_ h6 hg)) [], pR pI h8, pR q65 h10] [] 0 [0, 1] [2, 3, 4, 6, 43] hC [] ?_
 rcases cB h with ⟨h11, h⟩ | ⟨h11, h⟩
 ·cases h
 ·obtain ⟨y12, h13, h⟩ := Ad h
  obtain ⟨y14, h15, h⟩ := Ad h
  replace h := sI h
  subst h
  exact wr [0, 1, 2, 3, 4, 6, 7, 8, 43] 25 [false] [pr q65 h13, pc A5e (A3k rec46 ih46 y12.Needs x0 x1 _ h15) [0, 1]] [] 0 [] hC [pq h11]
theorem A73 (n : Nat) : ∀ (x0 : Aa) (x1 : Ab) (x2 : Int) (r : Bool), Ayn n x0 x1 x2 = some r -> CO 46 [.agg (d29 x0), .agg (d36 x1), .d (I x2)] [] (.d (Bo r)) [] := by
 induction n with
 | zero => intro x0 x1 x2 r h; cases h
 | succ n ih => intro x0 x1 x2 r h; exact A74 _ ih x0 x1 x2 r h
theorem k46 (x0 : Aa) (x1 : Ab) (x2 : Int) (r : Bool) (h : F46 x0 x1 x2 = some r) : CO 46 [.agg (d29 x0), .agg (d36 x1), .d (I x2)] [] (.d (Bo r)) [] := A73 1000 x0 x1 x2 r h
def qA : List Nat := [0, 1, 3, 4, 5, 6, 16]
def X7  (z0 : Sg4) : St := [(0, dO 0 0), (3, dO 4 0), (4, dO 5 0), (5, dO 6 0), (6, dI z0.1)]
def Abb (x1 : Aa) (y1 : Int × Aj) (y3 : Ab × Aj) (z0 : Sg4) : List Res := (.box 90 [DS pI z0.2.1, I z0.2.2.1] :: zs x1 (.box 29 [I x1.An, .os 1, .os 2, .os 3, I x1.Phase, I x1.Aq] :: .box 40 [I 0, .os 11, .os 12, .os 13, .os 14, .os 15, .os 16] :: .box 40 [I y1.1, .os 7, .os 8, .os 9, .os 10, .os 17, .os 18] :: zp y3.1 (ze [v5_ ([] : List Az), v1_ ([] : List Bg), v5_ (Dd z0), v1_ ([] : List Bg)])))
def Agh  (z0 : Sg4) : St := [(4, dO 4 0), (5, dO 5 0)]
def Ajb (x1 : Aa) (y1 : Int × Aj) (y3 : Ab × Aj) (z0 : Sg4) : List Res := (.box 90 [DS pI z0.2.1, I z0.2.2.1] :: zs x1 (.box 40 [I 0, .os 10, .os 11, .os 12, .os 13, .os 14, .os 15] :: .box 40 [I y1.1, .os 6, .os 7, .os 8, .os 9, .os 16, .os 17] :: zp y3.1 (ze [v5_ ([] : List Az), v1_ ([] : List Bg), v5_ (Dd z0), v1_ ([] : List Bg)])))
theorem A6q (x0 : Aj) (x1 : Aa) (r : A0 × Aj) (h : vW x0 x1 = some r) : CO 31 [.d (.o 0 0), .agg [I x1.An, .os 1, .os 2, .os 3, I x1.Phase, I x1.Aq]] (.box 90 (d90 x0) :: zs x1 []) (.agg [I r.1.Time, .os 4, .os 5, .os 6, .os 7, .os 8, .os 9]) (.box 90 (d90 r.2) :: zs x1 (zp r.1.Power [v5_ r.1.A5, v1_ r.1.A7])) := by
 unfold vW at h
 refine co 30 Tryz.func31 λ C hC => ?_
 obtain ⟨y1, h2, h⟩ := Ad h
 obtain ⟨y3, h4, h⟩ := Ad h
 refine ws qA 28 [] [⟨.flts [.box 40 [I 0, .p (.v (.slice none 0 0)), .p (.v (.slice none 0 0)), .p (.v (.slice none 0 0)), .p (.v (.slice none 0 0)), .p (.v (.slice none 0 0)), .p (.v (.slice none 0 0))]], trivial⟩, pc e78 (k78 x0 5 20 _ h2) [0], pc A65 (A6k y1.2 x1 _ h4) n4_, ⟨.flt 6 (.box 40 [I 0, .p (.v (.slice none 0 0)), .p (.v (.slice none 0 0)), .p (.v (.slice none 0 0)), .p (.v (.slice none 0 0)), .p (.v (.slice none 0 0)), .p (.v (.slice none 0 0))]) (.box 40 [I 0, .p (.v (.slice none 0 0)), .p (.v (.slice none 0 0)), .p (.v (.slice none 0 0)), .p (.v (.slice none 0 0)), .p (.v (.slice none 0 0)), .p (.v (.slice none 0 0))]), rfl⟩] [.ownb 5 1 4 1, .ownb 5 2 120 4, .ownb 5 3 3 1, .ownb 5 4 86 2, .ownb 5 5 130 2, .ownb 5 6 51 5, .ownb 6 5 130 2, .ownb 6 6 51 5] 4 A70 (X7 (0, y3.2.L, y3.2.At, ([] : List Az))) (Abb x1 y1 y3 (0, y3.2.L, y3.2.At, ([] : List Az))) hC [] ?_
 obtain ⟨w0, hm0, hret0, hnext0⟩ := As h
 clear h
 refine wc w0 (Agh) (Ajb x1 y1 y3) ?_ λ z0 hs0 => ?_
 ·refine wb ?_
  refine By (by kernel_rfl) (Rx x1) (X7) (Abb x1 y1 y3) w0 1152921504606846976 (0, y3.2.L, y3.2.At, ([] : List Az)) hm0 rfl rfl λ z0 w0b h hb0 hr0 => ?_
  unfold Rx at h
  rcases cB h with ⟨h5, h⟩ | ⟨h5, h⟩
  ·obtain ⟨y6, h7, h⟩ := Ad h
   obtain ⟨y8, h9, h⟩ := Ad h
   obtain ⟨y10, h11, h⟩ := Ad h
   exact wx w0b (X7) (Abb x1 y1 y3) qA 31 [true] [pc e78 (k78 (⟨z0.2.1, z0.2.2.1⟩ : Aj) (-1) 4 _ h7) [0], pc e78 (k78 y6.2 (-1) 4 _ h9) [0], pa B2 2 h11] [] 4 [0, 1, 2, 3, 4, 5, 6, 7, 8, 9, 10, 11, 12, 13, 14, 15, 16, 19, 18] (w64 (z0.1 + 1), y8.2.L, y8.2.At, y10) hC [pq h5] (sI h).symm
  ·exact wx w0 (Agh) (Ajb x1 y1 y3) qA 26 [false] [] [] 4 [0, 1, 2, 3, 5, 6, 7, 8, 9, 10, 11, 12, 13, 14, 15, 16, 17, 18] (z0.1, z0.2.1, z0.2.2.1, (Dd z0)) hC [pq h5] (hb0 _ (sI h).symm)
 ·have h := hnext0 _ hs0
  replace h := sI h
  subst h
  exact wr qA 23 [] [] [] 4 [0, 1, 2, 3, 6, 7, 8, 9, 16, 17] hC []
theorem A7b : EN 31 := en Tryz.func31
def Nt : List Nat := [0, 1, 2, 3, 4, 6, 7, 8, 9, 11, 15, 19, 29, 66]
theorem A8b (x0 : Aa) (x1 : Ab) (x2 : Int) (r : Int) (h : Akj x0 x1 x2 = some r) : CO 220 [.agg (d29 x0), .agg (d36 x1), .d (I x2)] [] (.d (I r)) [] := by
 unfold Akj at h
 refine co 67 Tryz.func220 λ C hC => ?_
 obtain ⟨y1, h2, h⟩ := Ad h
 refine wn Nt 29 [] [pc e43 (k43 x0 x1 _ h2) []] [] 0 [0, 1] [2, 3, 4, 6, 7, 15] hC [] ?_
 rcases cB h with ⟨h3, h⟩ | ⟨h3, h⟩
 ·replace h := sI h
  subst h
  exact wr Nt 24 [true] [] [] 0 [] hC [pq h3]
 ·rcases cB h with ⟨h4, h⟩ | ⟨h4, h⟩
  ·replace h := sI h
   subst h
   exact wr Nt 27 [false, true] [pL_ [(decide (x2 < 0), false)] Bi x0.Ag] [] 0 [] hC [pq h3, pq h4]
  ·obtain ⟨y5, h6, h⟩ := Ad h
   refine wn Nt 27 [false, false] [pL_ [(decide (x2 < 0), false)] Bi x0.Ag, pc A9q (A78 x0 x1 x2 _ h6) []] [] 0 [0, 1] [2, 3, 4, 6, 29] hC [pq h3, pq h4] ?_
   rcases cB h with ⟨h7, h⟩ | ⟨h7, h⟩
   ·replace h := sI h
    subst h
    exact wr Nt 24 [true] [] [] 0 [] hC [pq h7]
   ·obtain ⟨y8, h9, h⟩ := Ad h
    obtain ⟨y10, h11, h⟩ := Ad h
    obtain ⟨y12, h13, h⟩ := Ad h
    obtain ⟨y14, h15, h⟩ := Ad h
    refine wn Nt 33 [false] [pr Bi h9, pc T5 (Tp x0 x1 y8.A _ h11) [], pw Yv (λ hg => Yo y10.1.An y8.B _ (A_ h13 hg)) [], pw A9p (λ hg => A77 x0 x1 y8 _ (A_ h15 hg)) []] [] 0 [] [6, 66] hC [pq h7] ?_
    rcases cB h with ⟨h16, h⟩ | ⟨h16, h⟩
    ·replace h := sI h
     subst h
     exact wr Nt 24 [true] [] [] 0 [] hC [pq h16]
    ·replace h := sI h
     subst h
     exact wr Nt 25 [false] [] [] 0 [] hC [pq h16]
theorem A9t : EN 220 := en Tryz.func220
def Hj : List Nat := [0, 1, 4, 5, 6, 8, 13, 14, 15, 16, 32, 38, 39, 40, 41]
def Ng (x0 : Ax) (n0 : Nat) (z0 : Sg7) : St := [(0, dO 0 0), (1, .d (.fn (.func 206) [] [.o 6 0])), (4, dS 7), (13, .d (DS Bi x0.Al.Ag)), (14, dI (ln x0.Al.Ag)), (15, dI (cnt 0 n0))]
def Rj  (n0 : Nat) (z0 : Sg7) : List Res := [.box 235 [I z0.1, DS Bi z0.2.1, DS Bt z0.2.2.1, DS q65 (g3_ z0), I (g4_ z0), I (g5_ z0), .os 8, .os 9, .os 10, .os 11, .os 12], .non, .non, .non, .non, .non, .box 211 [.o 0 0], v0_ (g6_ z0), v2_ (g7_ z0), v4_ (g8_ z0), v0_ (g9_ z0), v3_ (Cj z0), v6_ (Fu z0)]
def Ach  (z0 : Sg7) : St := [(0, dO 0 0), (4, dS 7)]
def Ad0  (z0 : Sg7) : List Res := [.box 235 [I z0.1, DS Bi z0.2.1, DS Bt z0.2.2.1, DS q65 (g3_ z0), I (g4_ z0), I (g5_ z0), .os 8, .os 9, .os 10, .os 11, .os 12], .non, .non, .non, .non, .non, .box 211 [.o 0 0], v0_ (g6_ z0), v2_ (g7_ z0), v4_ (g8_ z0), v0_ (g9_ z0), v3_ (Cj z0), v6_ (Fu z0)]
def So (z0 : Sg7) (n1 : Nat) (z1 : Sg6) : St := [(0, dO 0 0), (38, dS 7), (39, dI (ln (g6_ z0))), (40, dI (cnt 0 n1))]
def Zf (z0 : Sg7) (n1 : Nat) (z1 : Sg6) : List Res := [.box 235 [I z1.1, DS Bi z1.2.1, DS Bt z1.2.2.1, DS q65 (g3_ z1), I (g4_ z1), I (g5_ z1), .os 8, .os 9, .os 10, .os 11, .os 12], .non, .non, .non, .non, .non, .box 211 [.o 0 0], v0_ (g6_ z0), v2_ (g6_ z1), v4_ (g7_ z1), v0_ (g8_ z1), v3_ (g9_ z1), v6_ (Dr z1)]
def Acg  (z1 : Sg6) : St := []
def Adz  (z1 : Sg6) : List Res := [.box 235 [I z1.1, DS Bi z1.2.1, DS Bt z1.2.2.1, DS q65 (g3_ z1), I (g4_ z1), I (g5_ z1), .os 7, .os 8, .os 9, .os 10, .os 11], .non, .non, .non, .non, .non, .box 211 [.o 0 0], v2_ (g6_ z1), v4_ (g7_ z1), v0_ (g8_ z1), v3_ (g9_ z1), v6_ (Dr z1)]
theorem A2k (x0 : Ax) (r : Ax) (h : U9 x0 = some r) : CO 204 [.d (.o 0 0), .d (.fn (.func 206) [] [.o 6 0])] (.box 235 (zb x0.Al [.os 1, .os 2, .os 3, .os 4, .os 5]) :: zp x0.Au [v6_ x0.acts, .box 211 [.o 0 0]]) (.tup []) (.box 235 (zb r.Al [.os 7, .os 8, .os 9, .os 10, .os 11]) :: .non :: .non :: .non :: .non :: .non :: .box 211 [.o 0 0] :: zp r.Au [v6_ r.acts]) := by
 unfold U9 at h
 refine co 48 Tryz.func204 λ C hC => ?_
 refine ws Hj 26 [] [pl Bi x0.Al.Ag] [.own 4 3 1, .mv 1, .mv 2, .mv 3, .mv 4, .mv 5] 7 Fm (Ng x0 0 (zt x0.Al (([] : List Int), zu x0.Au x0.acts))) (Rj 0 (zt x0.Al (([] : List Int), zu x0.Au x0.acts))) hC [] ?_
 obtain ⟨w0, hm0, hret0, hnext0⟩ := As h
 clear h
 refine wc w0 (Ach) (Ad0) ?_ λ z0 hs0 => ?_
 ·refine wb ?_
  refine Bm 13 rfl λ hl0 => ?_
  refine A8 (by kernel_rfl) Oa (Ng x0) (Rj) w0 x0.Al.Ag (zt x0.Al (([] : List Int), zu x0.Au x0.acts)) hm0 rfl rfl (λ z0 hn0 => ?_) λ n0 a0 z0 w0b hi0 hx0 h hb0 hr0 => ?_
  ·clear hm0
   exact wx w0 (Ach) (Ad0) Hj 26 [false] [] [] 7 Fm (z0.1, z0.2.1, z0.2.2.1, (g3_ z0), (g4_ z0), (g5_ z0), (g6_ z0), (g7_ z0), (g8_ z0), (g9_ z0), (Cj z0), (Fu z0)) hC [pq (Ba hl0)] hn0
  ·unfold Oa at h
   obtain ⟨y1, h2, h⟩ := Ad h
   obtain ⟨y3, h4, h⟩ := Ad h
   refine wn Hj 32 [true] [pt hx0 hl0, pr pB h2, pn pB h2, ⟨.whenR [(y1, true)] (.call 206 [.agg (Ot a0), dO 0 0] [.box 211 [.o 1 0], .box 235 [I z0.1, DS Bi z0.2.1, DS Bt z0.2.2.1, DS q65 (g3_ z0), I (g4_ z0), I (g5_ z0), .os 2, .os 3, .os 4, .os 5, .os 6], v2_ (g7_ z0), v4_ (g8_ z0), v0_ (g9_ z0), v3_ (Cj z0), v6_ (Fu z0)] (dB y3.1) (.box 211 [.o 1 0] :: .box 235 (zb y3.2.Al [.os 2, .os 3, .os 4, .os 5, .os 6]) :: zp y3.2.Au [v6_ y3.2.acts]) [6, 0, 8, 9, 10, 11, 12]), ⟨λ hg => ⟨A4b, (A2h a0 (⟨(⟨z0.1, z0.2.1, z0.2.2.1, (g3_ z0), (g4_ z0), (g5_ z0)⟩ : Aa), (⟨(g7_ z0), (g8_ z0), (g9_ z0), (Cj z0)⟩ : Ab), (Fu z0)⟩ : Ax) _ (A_ h4 hg))⟩, λ hg => by have e := Ht h4 hg; subst e; rfl⟩⟩] [] 7 Fm [0, 1, 4, 5, 13, 14, 15, 32] hC [pq (A9 hi0 hl0)] ?_
   rcases cB h with ⟨h5, h⟩ | ⟨h5, h⟩
   ·obtain ⟨y6, h7, h⟩ := Ad h
    exact wx w0b (Ng x0 (n0 + 1)) (Rj (n0 + 1)) Hj 25 [true] [pa pI 1 h7] [] 7 [0, 1, 2, 3, 4, 5, 6, 13, 8, 9, 10, 11, 12] (zt y3.2.Al (y6, zu y3.2.Au y3.2.acts)) hC [pq h5] (sI h).symm
   ·exact wx w0b (Ng x0 (n0 + 1)) (Rj (n0 + 1)) Hj 25 [false] [] [] 7 Fm (zt y3.2.Al ((g6_ z0), zu y3.2.Au y3.2.acts)) hC [pq h5] (sI h).symm
 ·have h := hnext0 _ hs0
  refine ws Hj 23 [] [pl pI (g6_ z0)] [] 7 Fm (So z0 0 (z0.1, z0.2.1, z0.2.2.1, (g3_ z0), (g4_ z0), (g5_ z0), (g7_ z0), (g8_ z0), (g9_ z0), (Cj z0), (Fu z0))) (Zf z0 0 (z0.1, z0.2.1, z0.2.2.1, (g3_ z0), (g4_ z0), (g5_ z0), (g7_ z0), (g8_ z0), (g9_ z0), (Cj z0), (Fu z0))) hC [] ?_
  obtain ⟨w1, hm1, hret1, hnext1⟩ := As h
  clear h
  refine wc w1 (Acg) (Adz) ?_ λ z1 hs1 => ?_
  ·refine wb ?_
   refine Cc 38 7 rfl rfl λ hl1 => ?_
   refine A8 (by kernel_rfl) U8 (So z0) (Zf z0) w1 (g6_ z0) (z0.1, z0.2.1, z0.2.2.1, (g3_ z0), (g4_ z0), (g5_ z0), (g7_ z0), (g8_ z0), (g9_ z0), (Cj z0), (Fu z0)) hm1 rfl rfl (λ z1 hn1 => ?_) λ n1 a1 z1 w1b hi1 hx1 h hb1 hr1 => ?_
   ·clear hm1
    exact wx w1 (Acg) (Adz) Hj 26 [false] [] [] 7 [0, 1, 2, 3, 4, 5, 6, 8, 9, 10, 11, 12] (z1.1, z1.2.1, z1.2.2.1, (g3_ z1), (g4_ z1), (g5_ z1), (g6_ z1), (g7_ z1), (g8_ z1), (g9_ z1), (Dr z1)) hC [pq (Ba hl1)] hn1
   ·unfold U8 at h
    obtain ⟨y8, h9, h⟩ := Ad h
    exact wx w1b (So z0 (n1 + 1)) (Zf z0 (n1 + 1)) Hj 33 [true] [pr pI (Bp hx1 hl1), pn pI (Bp hx1 hl1), pc Ah4 (Ag9 (⟨(⟨z1.1, z1.2.1, z1.2.2.1, (g3_ z1), (g4_ z1), (g5_ z1)⟩ : Aa), (⟨(g6_ z1), (g7_ z1), (g8_ z1), (g9_ z1)⟩ : Ab), (Dr z1)⟩ : Ax) a1 _ h9) [0, 8, 9, 10, 11, 12]] [] 7 [0, 1, 2, 3, 4, 5, 6, 7, 8, 9, 10, 11, 13] (zt y8.Al (zu y8.Au y8.acts)) hC [pq (A9 hi1 hl1)] (sI h).symm
  ·have h := hnext1 _ hs1
   replace h := sI h
   subst h
   exact wf Hj 20 [] [] [] 7 E7 hC []
theorem A4e : EN 204 := en Tryz.func204
def Ly : List Nat := [0, 1, 2, 7, 8, 9, 10, 11, 12, 38]
def Nc (x1 : List Int) (x2 : Int) (n0 : Nat) (z0 : (List Int) × (List Ap)) : St := [(0, dO 0 0), (2, dI x2), (9, dS 6), (10, dI (ln x1)), (11, dI (cnt 0 n0))]
def Rg (x0 : Ax) (x1 : List Int) (n0 : Nat) (z0 : (List Int) × (List Ap)) : List Res := [.box 235 (zb x0.Al [.os 7, .os 8, .os 9, .os 10, .os 11]), .non, .non, .non, .non, .non, v0_ x1, v2_ x0.Au.Ah, v4_ x0.Au.Ac, v0_ z0.1, v3_ x0.Au.Ao, v6_ z0.2]
def Acc  (z0 : (List Int) × (List Ap)) : St := []
def Adv (x0 : Ax) (x1 : List Int) (z0 : (List Int) × (List Ap)) : List Res := [.box 235 (zb x0.Al [.os 7, .os 8, .os 9, .os 10, .os 11]), .non, .non, .non, .non, .non, v0_ x1, v2_ x0.Au.Ah, v4_ x0.Au.Ac, v0_ z0.1, v3_ x0.Au.Ao, v6_ z0.2]
theorem A2f (x0 : Ax) (x1 : List Int) (x2 : Int) (r : Ax) (h : Pw x0 x1 x2 = some r) : CO 210 [.d (.o 0 0), .d (.os 6), .d (I x2)] (.box 235 (zb x0.Al [.os 1, .os 2, .os 3, .os 4, .os 5]) :: zp x0.Au [v6_ x0.acts, v0_ x1]) (.tup []) (.box 235 (zb r.Al [.os 7, .os 8, .os 9, .os 10, .os 11]) :: .non :: .non :: .non :: .non :: .non :: v0_ x1 :: zp r.Au [v6_ r.acts]) := by
 unfold Pw at h
 refine co 70 Tryz.func210 λ C hC => ?_
 refine ws Ly 23 [] [pl pI x1] [.mv 1, .mv 2, .mv 3, .mv 4, .mv 5] 7 E7 (Nc x1 x2 0 (x0.Au.Ar, x0.acts)) (Rg x0 x1 0 (x0.Au.Ar, x0.acts)) hC [] ?_
 obtain ⟨w0, hm0, hret0, hnext0⟩ := As h
 clear h
 refine wc w0 (Acc) (Adv x0 x1) ?_ λ z0 hs0 => ?_
 ·refine wb ?_
  refine Cc 9 6 rfl rfl λ hl0 => ?_
  refine A8 (by kernel_rfl) (N8 x0 x2) (Nc x1 x2) (Rg x0 x1) w0 x1 (x0.Au.Ar, x0.acts) hm0 rfl rfl (λ z0 hn0 => ?_) λ n0 a0 z0 w0b hi0 hx0 h hb0 hr0 => ?_
  ·clear hm0
   exact wx w0 (Acc) (Adv x0 x1) Ly 26 [false] [] [] 7 E7 (z0.1, z0.2) hC [pq (Ba hl0)] hn0
  ·unfold N8 at h
   obtain ⟨y1, h2, h⟩ := Ad h
   obtain ⟨y3, h4, h⟩ := Ad h
   obtain ⟨y5, h6, h⟩ := Ad h
   refine wn Ly 34 [true] [pr pI (Bp hx0 hl0), pn pI (Bp hx0 hl0), pb Aud (Atj (⟨x0.Al, (⟨x0.Au.Ah, x0.Au.Ac, z0.1, x0.Au.Ao⟩ : Ab), z0.2⟩ : Ax) x2 _ h2), pr pI h4, pn pI h4, pr q65 h6] [] 7 E7 [0, 2, 7, 8, 9, 10, 11, 38] hC [pq (A9 hi0 hl0)] ?_
   rcases cB h with ⟨h7, h⟩ | ⟨h7, h⟩
   ·obtain ⟨y8, h9, h⟩ := Ad h
    obtain ⟨y10, h11, h⟩ := Ad h
    obtain ⟨y12, h13, h⟩ := Ad h
    exact wx w0b (Nc x1 x2 (n0 + 1)) (Rg x0 x1 (n0 + 1)) Ly 27 [true] [pr pI h4, pn pI h4, pr pI h4, pu pI h4 h9, pr pI h11, pn pI h11, pa q49 3 h13] [] 7 [0, 1, 2, 3, 4, 5, 6, 7, 8, 9, 10, 12] (y8, y12) hC [pq h7] (sI h).symm
   ·exact wx w0b (Nc x1 x2 (n0 + 1)) (Rg x0 x1 (n0 + 1)) Ly 25 [false] [] [] 7 E7 (z0.1, z0.2) hC [pq h7] (sI h).symm
 ·have h := hnext0 _ hs0
  replace h := sI h
  subst h
  exact wf Ly 20 [] [] [] 7 E7 hC []
theorem A39 : EN 210 := en Tryz.func210
def Lx : List Nat := [0, 1, 2, 7, 8, 9, 10, 11, 28]
def Nb (x1 : List Int) (x2 : Int) (n0 : Nat) (z0 : Sg6) : St := [(0, dO 0 0), (2, dI x2), (8, dS 6), (9, dI (ln x1)), (10, dI (cnt 0 n0))]
def Rf (x1 : List Int) (n0 : Nat) (z0 : Sg6) : List Res := [.box 235 [I z0.1, DS Bi z0.2.1, DS Bt z0.2.2.1, DS q65 (g3_ z0), I (g4_ z0), I (g5_ z0), .os 7, .os 8, .os 9, .os 10, .os 11], .non, .non, .non, .non, .non, v0_ x1, v2_ (g6_ z0), v4_ (g7_ z0), v0_ (g8_ z0), v3_ (g9_ z0), v6_ (Dr z0)]
def Acb  (z0 : Sg6) : St := []
def Adu (x1 : List Int) (z0 : Sg6) : List Res := [.box 235 [I z0.1, DS Bi z0.2.1, DS Bt z0.2.2.1, DS q65 (g3_ z0), I (g4_ z0), I (g5_ z0), .os 7, .os 8, .os 9, .os 10, .os 11], .non, .non, .non, .non, .non, v0_ x1, v2_ (g6_ z0), v4_ (g7_ z0), v0_ (g8_ z0), v3_ (g9_ z0), v6_ (Dr z0)]
theorem A2e (x0 : Ax) (x1 : List Int) (x2 : Int) (r : Ax) (h : Pv x0 x1 x2 = some r) : CO 211 [.d (.o 0 0), .d (.os 6), .d (I x2)] (.box 235 (zb x0.Al [.os 1, .os 2, .os 3, .os 4, .os 5]) :: zp x0.Au [v6_ x0.acts, v0_ x1]) (.tup []) (.box 235 (zb r.Al [.os 7, .os 8, .os 9, .os 10, .os 11]) :: .non :: .non :: .non :: .non :: .non :: v0_ x1 :: zp r.Au [v6_ r.acts]) := by
 unfold Pv at h
 refine co 33 Tryz.func211 λ C hC => ?_
 refine ws Lx 23 [] [pl pI x1] [.mv 1, .mv 2, .mv 3, .mv 4, .mv 5] 7 E7 (Nb x1 x2 0 (zt x0.Al (zu x0.Au x0.acts))) (Rf x1 0 (zt x0.Al (zu x0.Au x0.acts))) hC [] ?_
 obtain ⟨w0, hm0, hret0, hnext0⟩ := As h
 clear h
 refine wc w0 (Acb) (Adu x1) ?_ λ z0 hs0 => ?_
 ·refine wb ?_
  refine Cc 8 6 rfl rfl λ hl0 => ?_
  refine A8 (by kernel_rfl) (N7 x2) (Nb x1 x2) (Rf x1) w0 x1 (zt x0.Al (zu x0.Au x0.acts)) hm0 rfl rfl (λ z0 hn0 => ?_) λ n0 a0 z0 w0b hi0 hx0 h hb0 hr0 => ?_
  ·clear hm0
   exact wx w0 (Acb) (Adu x1) Lx 26 [false] [] [] 7 E7 (z0.1, z0.2.1, z0.2.2.1, (g3_ z0), (g4_ z0), (g5_ z0), (g6_ z0), (g7_ z0), (g8_ z0), (g9_ z0), (Dr z0)) hC [pq (Ba hl0)] hn0
  ·unfold N7 at h
   obtain ⟨y1, h2, h⟩ := Ad h
   obtain ⟨y3, h4, h⟩ := Ad h
   refine wn Lx 32 [true] [pr pI (Bp hx0 hl0), pn pI (Bp hx0 hl0), pr pI h2, pn pI h2, pv Aud (λ hg => Atj (⟨(⟨z0.1, z0.2.1, z0.2.2.1, (g3_ z0), (g4_ z0), (g5_ z0)⟩ : Aa), (⟨(g6_ z0), (g7_ z0), (g8_ z0), (g9_ z0)⟩ : Ab), (Dr z0)⟩ : Ax) x2 _ (A_ h4 hg))] [] 7 Fm [0, 2, 7, 8, 9, 10, 28] hC [pq (A9 hi0 hl0)] ?_
   rcases cB h with ⟨h5, h⟩ | ⟨h5, h⟩
   ·obtain ⟨y6, h7, h⟩ := Ad h
    exact wx w0b (Nb x1 x2 (n0 + 1)) (Rf x1 (n0 + 1)) Lx 25 [true] [pc A4d (A2j (⟨(⟨z0.1, z0.2.1, z0.2.2.1, (g3_ z0), (g4_ z0), (g5_ z0)⟩ : Aa), (⟨(g6_ z0), (g7_ z0), (g8_ z0), (g9_ z0)⟩ : Ab), (Dr z0)⟩ : Ax) a0 _ h7) [0, 7, 8, 9, 10, 11, 12]] [] 7 [0, 1, 2, 3, 4, 5, 6, 13, 14, 15, 16, 17] (zt y6.1.Al (zu y6.1.Au y6.1.acts)) hC [pq h5] (sI h).symm
   ·exact wx w0b (Nb x1 x2 (n0 + 1)) (Rf x1 (n0 + 1)) Lx 25 [false] [] [] 7 E7 (z0.1, z0.2.1, z0.2.2.1, (g3_ z0), (g4_ z0), (g5_ z0), (g6_ z0), (g7_ z0), (g8_ z0), (g9_ z0), (Dr z0)) hC [pq h5] (sI h).symm
 ·have h := hnext0 _ hs0
  replace h := sI h
  subst h
  exact wf Lx 20 [] [] [] 7 E7 hC []
theorem A38 : EN 211 := en Tryz.func211
theorem k9 (x0 : Aj) (r : Ai3) (h : F9 x0 = some r) : CO 9 [.d (.o 0 0)] [.box 90 (d90 x0)] (.tup [.agg [I r.1.An, .os 1, .os 2, .os 3, I r.1.Phase, I r.1.Aq], .agg (d31 r.2.1), .agg [I r.2.2.1.Time, .os 4, .os 5, .os 6, .os 7, .os 8, .os 9]]) (.box 90 (d90 (Dd r)) :: zs r.1 (zp r.2.2.1.Power [v5_ r.2.2.1.A5, v1_ r.2.2.1.A7])) := by
 unfold F9 at h
 refine co 14 Tryz.func9 λ C hC => ?_
 obtain ⟨y1, h2, h⟩ := Ad h
 obtain ⟨y3, h4, h⟩ := Ad h
 obtain ⟨y5, h6, h⟩ := Ad h
 replace h := sI h
 subst h
 exact wr [0, 2, 3, 4, 5] 27 [] [pc e29 (k29 x0 _ h2) [0], pc e30 (k30 y1.2 _ h4) [0], pc A7b (A6q y3.2 y1.1 _ h6) [0, 4, 5, 6]] [] 1 [0, 4, 5, 6, 8, 9, 10, 11, 12, 13] hC []
theorem e9 : EN 9 := en Tryz.func9
def Apj : List Nat := [0, 1, 2, 3, 4, 6, 7, 8, 9, 15]
theorem A8m (x0 : Aa) (x1 : Ab) (x2 : Int) (r : Ab × Int) (h : Akp x0 x1 x2 = some r) : CO 182 [.agg (d29 x0), .agg (d36 x1), .d (I x2)] [] (.tup [.agg [.os 0, .os 1, .os 2, .os 3], .d (I r.2)]) (zp r.1 []) := by
 unfold Akp at h
 refine co 29 Tryz.func182 λ C hC => ?_
 obtain ⟨y1, h2, h⟩ := Ad h
 refine wn Apj 28 [] [pc A9t (A8b x0 x1 x2 _ h2) []] [.ownb 2 0 4 1, .ownb 2 1 120 4, .ownb 2 2 3 1, .ownb 2 3 86 2] 0 n7_ [2, 3, 4, 6, 7, 8, 15] hC [] ?_
 rcases cB h with ⟨h3, h⟩ | ⟨h3, h⟩
 ·replace h := sI h
  subst h
  exact wr Apj 24 [true] [] [.ownb 2 0 4 1, .ownb 2 1 120 4, .ownb 2 2 3 1, .ownb 2 3 86 2] 0 [7, 8, 9, 10] hC [pq h3]
 ·obtain ⟨y4, h5, h⟩ := Ad h
  obtain ⟨y6, h7, h⟩ := Ad h
  obtain ⟨y8, h9, h⟩ := Ad h
  obtain ⟨y10, h11, h⟩ := Ad h
  replace h := sI h
  subst h
  exact wr Apj 29 [false] [pc Mw (Mp x1 _ h5) [], pr pB h7, pu pB h7 h9, ⟨.call 57 [.agg (d29 x0), .agg [.os 0, .os 1, .os 2, .os 3]] [v2_ y8, v4_ y4.Ac, v0_ y4.Ar, v3_ y4.Ao] (.tup [.agg [.os 4, .os 5, .os 6, .os 7], dI y10.2]) (v2_ y8 :: v4_ y4.Ac :: v0_ y4.Ar :: v3_ y4.Ao :: zp y10.1 []) [7, 8, 9, 10], ⟨e57, ((k57 x0 (⟨y8, y4.Ac, y4.Ar, y4.Ao⟩ : Ab) _ h11).lend (by kernel_rfl) (by kernel_rfl) (by kernel_rfl) ⟨Be (λ _ => rfl), Be (λ _ => rfl), Be (λ _ => rfl), Be (λ _ => rfl), trivial⟩ (by kernel_rfl) (by kernel_rfl))⟩⟩] [] 0 [12, 13, 14, 15] hC [pq h3]
theorem A94 : EN 182 := en Tryz.func182
def Fd : List Nat := [0, 1, 2, 3, 4, 5, 6, 7, 8, 10, 11, 12, 13, 14, 15, 16, 17, 18, 19, 20, 21, 22, 27, 32, 59, 114, 123, 138]
def S9 (y6 : Int × Bool) (y13 : (List Ap) × Bool) (z0 : Int) : St := [(6, dO 4 0), (7, dO 5 0), (10, dO 6 0), (11, dO 7 0), (12, dO 8 0), (13, .d (DS q49 [])), (14, dI 0), (17, dI y6.1), (21, .d (DS q49 y13.1))]
def Uj (x0 : Aa) (x1 : Bf) (x2 : Ab) (x4 : Int) (x5 : Az) (y6 : Int × Bool) (z0 : Int) : List Res := (zp x2 [.box 29 (d29 x0), .box 31 (d31 x1), .box 3 [I x4], .box 130 [I z0, I (H7 x5.Low y6.2 x4)], .box 130 [I 0, I 0]])
theorem A3g (x0 : Aa) (x1 : Bf) (x2 : Ab) (x3 : Int) (x4 : Int) (x5 : Az) (r : Az × (List Ap) × Int) (h : Vq x0 x1 x2 x3 x4 x5 = some r) : CO 133 [.agg (d29 x0), .agg (d31 x1), .agg [.os 0, .os 1, .os 2, .os 3], .d (I x3), .d (I x4), .agg (Ax1 x5)] (zp x2 []) (.tup [.agg (Ax1 r.1), .d (DS q49 r.2.1), .d (I r.2.2)]) (zp x2 []) := by
 unfold Vq at h
 refine co 149 Tryz.func133 λ C hC => ?_
 obtain ⟨y1, h2, h⟩ := Ad h
 refine wn Fd 31 [] [pb e43 (k43 x0 x2 _ h2)] [] 4 Fo [3, 6, 7, 8, 10, 11, 12, 13, 14, 15, 16, 27] hC [] ?_
 rcases cB h with ⟨h3, h⟩ | ⟨h3, h⟩
 ·replace h := sI h
  subst h
  exact wr Fd 24 [true] [] [] 4 n4_ hC [pq h3]
 ·refine wn Fd 24 [false] [pc e59 (k59 x1 _ rfl) [], ⟨.when [((((!(F59 x1)) || (decide (x4 < 0))) || (decide (x4 > 2147483648))), false)] (.callB 174 [dI x5.High, .d (.ip [.v (.int .i64 x4)])] (dB (Ky x5.High x4)) [[]] 0 []), λ hg => Iu ⟨Aug, (Atm x5.High x4 _ rfl)⟩⟩, ⟨.when [(((((!(F59 x1)) || (decide (x4 < 0))) || (decide (x4 > 2147483648))) || (!(Ky x5.High x4))), false)] (.callB 174 [dI x5.Low, .d (.ip [.v (.int .i64 x4)])] (dB (Ky x5.Low x4)) [[]] 0 []), λ hg => Iu ⟨Aug, (Atm x5.Low x4 _ rfl)⟩⟩] [] 4 Fo [3, 6, 7, 8, 10, 11, 12, 13, 14, 32] hC [pq h3] ?_
  rcases cB h with ⟨h4, h⟩ | ⟨h4, h⟩
  ·replace h := sI h
   subst h
   exact wr Fd 24 [true] [] [] 4 n4_ hC [pq h4]
  ·rcases cB h with ⟨h5, h⟩ | ⟨h5, h⟩
   ·replace h := sI h
    subst h
    exact wr Fd 27 [false, true] [] [] 4 n4_ hC [pq h4, pq h5]
   ·obtain ⟨y6, h7, h⟩ := Ad h
    obtain ⟨y8, h9, h⟩ := Ad h
    obtain ⟨y10, h11, h⟩ := Ad h
    refine wn Fd 36 [false, false] [pb A97 (A8p x0 x1 x2 x3 _ h7), pb A96 (A8o x0 x1 x2 x3 _ h9), pc A4s (A2y x5.High y8 x4 _ rfl) [], pc A4s (A2y x5.Low y6.2 x4 _ rfl) [], pb A95 (A8n x0 x2 x3 _ h11)] [] 4 Fo [3, 6, 7, 8, 10, 11, 12, 13, 14, 17, 19, 114] hC [pq h4, pq h5] ?_
    rcases cB h with ⟨h12, h⟩ | ⟨h12, h⟩
    ·obtain ⟨y13, h14, h⟩ := Ad h
     refine wn Fd 27 [true] [pc A4r (A2x x0 x2 x3 y10.1 _ h14) n4_] [] 4 [0, 1, 2, 3, 4, 5, 7, 8, 9] [6, 7, 10, 11, 12, 13, 14, 17, 21, 123] hC [pq h12] ?_
     obtain ⟨w0, h, hret0, hnext0⟩ := As h
     refine wc w0 (S9 y6 y13) (Uj x0 x1 x2 x4 x5 y6) ?_ λ z0 hs0 => ?_
     ·unfold Vp at h
      rcases cB h with ⟨h15, h⟩ | ⟨h15, h⟩
      ·exact wx w0 (S9 y6 y13) (Uj x0 x1 x2 x4 x5 y6) Fd 23 [true] [] [] 4 n9_ (-1) hC [pq h15] (sI h).symm
      ·exact wx w0 (S9 y6 y13) (Uj x0 x1 x2 x4 x5 y6) Fd 23 [false] [] [] 4 n9_ (H7 x5.High y8 x4) hC [pq h15] (sI h).symm
     ·clear h; have h := hnext0 _ hs0
      replace h := sI h
      subst h
      exact wr Fd 23 [] [] [] 4 n4_ hC []
    ·rcases cB h with ⟨h16, h⟩ | ⟨h16, h⟩
     ·obtain ⟨y17, h18, h⟩ := Ad h
      replace h := sI h
      subst h
      exact wr Fd 31 [false, true] [pc Ap6 (Apr x0 y6.1 _ h18) []] [] 4 n4_ hC [pq h12, pq h16]
     ·replace h := sI h
      subst h
      exact wr Fd 30 [false, false] [] [] 4 n4_ hC [pq h12, pq h16]
theorem A5a : EN 133 := en Tryz.func133
theorem k42 (x0 : Fp) (r : Int) (h : F42 x0 = some r) : CO 42 [.agg (d57 x0)] [] (.d (I r)) [] := by
 unfold F42 at h
 refine co 37 Tryz.func42 λ C hC => ?_
 rcases cB h with ⟨h1, h⟩ | ⟨h1, h⟩
 ·cases h
 ·rcases cB h with ⟨h2, h⟩ | ⟨h2, h⟩
  ·cases h
  ·obtain ⟨y3, h4, h⟩ := Ad h
   rcases cB h with ⟨h5, h⟩ | ⟨h5, h⟩
   ·cases h
   ·replace h := sI h
    subst h
    exact wr [0, 1, 2, 3, 8, 33] 38 [false, false, false] [pl q63 x0.Cy, pc A60 (A6f x0.Cy _ h4) []] [] 0 [] hC [pq h1, pq h2, pq h5]
theorem e42 : EN 42 := en Tryz.func42
theorem A20 (x0 : Ax) (r : Ax) (h : Vi x0 = some r) : CO 172 [.d (.o 0 0)] (.box 235 (zb x0.Al [.os 1, .os 2, .os 3, .os 4, .os 5]) :: zp x0.Au [v6_ x0.acts]) (.tup []) (.box 235 (zb r.Al [.os 6, .os 7, .os 8, .os 9, .os 10]) :: .non :: .non :: .non :: .non :: .non :: zp r.Au [v6_ r.acts]) := by
 unfold Vi at h
 refine co 24 Tryz.func172 λ C hC => ?_
 obtain ⟨y1, h2, h⟩ := Ad h
 obtain ⟨y3, h4, h⟩ := Ad h
 obtain ⟨y5, h6, h⟩ := Ad h
 replace h := sI h
 subst h
 exact wf [0, 1] 27 [] [pc A4f (A2l x0 _ h2) n6_, pc A4e (A2k y1 _ h4) [0, 7, 8, 9, 10, 11, 6], ⟨.call 57 [.agg (d29 y3.Al), .agg [.os 0, .os 1, .os 2, .os 3]] (zp y3.Au []) (.tup [.agg [.os 4, .os 5, .os 6, .os 7], dI y5.2]) (zp y3.Au (zp y5.1 [])) [12, 13, 14, 15], ⟨e57, ((k57 y3.Al y3.Au _ h6).lend (by kernel_rfl) (by kernel_rfl) (by kernel_rfl) ⟨Be (λ _ => rfl), Be (λ _ => rfl), Be (λ _ => rfl), Be (λ _ => rfl), trivial⟩ (by kernel_rfl) (by kernel_rfl))⟩⟩] [] 6 [0, 1, 2, 3, 4, 5, 17, 18, 19, 20, 16] hC []
theorem A4u : EN 172 := en Tryz.func172
def L3 : List Nat := [0, 2, 4, 5, 19, 20, 21, 22, 32]
def Nj (y3 : (List Ai)) (n0 : Nat) (z0 : Sg6) : St := [(0, dO 0 0), (2, dS 6), (19, dS 7), (20, dI (ln y3)), (21, dI (cnt 0 n0))]
def Rm (y1 : (List Int)) (y3 : (List Ai)) (n0 : Nat) (z0 : Sg6) : List Res := [.box 235 [I z0.1, DS Bi z0.2.1, DS Bt z0.2.2.1, DS q65 (g3_ z0), I (g4_ z0), I (g5_ z0), .os 8, .os 9, .os 10, .os 11, .os 12], .non, .non, .non, .non, .non, v0_ y1, v8_ y3, v2_ (g6_ z0), v4_ (g7_ z0), v0_ (g8_ z0), v3_ (g9_ z0), v6_ (Dr z0)]
def Acm  (z0 : Sg6) : St := []
def Ad5  (z0 : Sg6) : List Res := [.box 235 [I z0.1, DS Bi z0.2.1, DS Bt z0.2.2.1, DS q65 (g3_ z0), I (g4_ z0), I (g5_ z0), .os 6, .os 7, .os 8, .os 9, .os 10], .non, .non, .non, .non, .non, v2_ (g6_ z0), v4_ (g7_ z0), v0_ (g8_ z0), v3_ (g9_ z0), v6_ (Dr z0)]
theorem A2z (x0 : Ax) (r : Ax) (h : Pz x0 = some r) : CO 173 [.d (.o 0 0)] (.box 235 (zb x0.Al [.os 1, .os 2, .os 3, .os 4, .os 5]) :: zp x0.Au [v6_ x0.acts]) (.tup []) (.box 235 (zb r.Al [.os 6, .os 7, .os 8, .os 9, .os 10]) :: .non :: .non :: .non :: .non :: .non :: zp r.Au [v6_ r.acts]) := by
 unfold Pz at h
 refine co 48 Tryz.func173 λ C hC => ?_
 obtain ⟨y1, h2, h⟩ := Ad h
 obtain ⟨y3, h4, h⟩ := Ad h
 refine ws L3 25 [] [pc A9w (A8e x0.Al _ h2) [], pc Azb (Ay7 x0.Al x0.Au _ h4) [1, 2, 3, 4], pl q84 y3] [.mv 1, .mv 2, .mv 3, .mv 4, .mv 5] 6 Fm (Nj y3 0 (zt x0.Al (zu x0.Au x0.acts))) (Rm y1 y3 0 (zt x0.Al (zu x0.Au x0.acts))) hC [] ?_
 obtain ⟨w0, hm0, hret0, hnext0⟩ := As h
 clear h
 refine wc w0 (Acm) (Ad5) ?_ λ z0 hs0 => ?_
 ·refine wb ?_
  refine Cc 19 7 rfl rfl λ hl0 => ?_
  refine A8 (by kernel_rfl) (Od y1) (Nj y3) (Rm y1 y3) w0 y3 (zt x0.Al (zu x0.Au x0.acts)) hm0 rfl rfl (λ z0 hn0 => ?_) λ n0 a0 z0 w0b hi0 hx0 h hb0 hr0 => ?_
  ·clear hm0
   exact wx w0 (Acm) (Ad5) L3 26 [false] [] [] 6 [0, 1, 2, 3, 4, 5, 8, 9, 10, 11, 12] (z0.1, z0.2.1, z0.2.2.1, (g3_ z0), (g4_ z0), (g5_ z0), (g6_ z0), (g7_ z0), (g8_ z0), (g9_ z0), (Dr z0)) hC [pq (Ba hl0)] hn0
  ·unfold Od at h
   obtain ⟨y5, h6, h⟩ := Ad h
   obtain ⟨y7, h8, h⟩ := Ad h
   refine wn L3 34 [true] [pr q84 (Bp hx0 hl0), pn q84 (Bp hx0 hl0), ⟨.call 168 [dS 0] [v0_ y1] (dS 1) [v0_ y1, v0_ y5] [6], ⟨A4x, ((A23 y1 _ h6).lend (by kernel_rfl) (by kernel_rfl) (by kernel_rfl) ⟨Be (λ _ => rfl), trivial⟩ (by kernel_rfl) (by kernel_rfl))⟩⟩, pc A4a (A2g y5 a0 _ h8) [14, 13], pl pI y7.2.Ac] [] 6 [0, 1, 2, 3, 4, 5, 6, 7, 8, 9, 10, 11, 12, 13, 15] [0, 2, 4, 5, 19, 20, 21, 32] hC [pq (A9 hi0 hl0)] ?_
   rcases cB h with ⟨h9, h⟩ | ⟨h9, h⟩
   ·obtain ⟨y10, h11, h⟩ := Ad h
    obtain ⟨y12, h13, h⟩ := Ad h
    obtain ⟨y14, h15, h⟩ := Ad h
    obtain ⟨y16, h17, h⟩ := Ad h
    exact wx w0b (Nj y3 (n0 + 1)) (Rm y1 y3 (n0 + 1)) L3 27 [true] [pr pI h11, pc A39 (A2f (⟨(⟨z0.1, z0.2.1, z0.2.2.1, (g3_ z0), (g4_ z0), (g5_ z0)⟩ : Aa), (⟨(g6_ z0), (g7_ z0), (g8_ z0), (g9_ z0)⟩ : Ab), (Dr z0)⟩ : Ax) y7.1 y10 _ h13) [0, 8, 9, 10, 11, 12, 14], pr pI h15, pc A38 (A2e y12 y7.1 y14 _ h17) [0, 15, 16, 17, 18, 19, 14]] [] 6 [0, 1, 2, 3, 4, 5, 6, 7, 20, 21, 22, 23, 24] (zt y16.Al (zu y16.Au y16.acts)) hC [pq h9] (sI h).symm
   ·exact wx w0b (Nj y3 (n0 + 1)) (Rm y1 y3 (n0 + 1)) L3 25 [false] [] [] 6 Fm (z0.1, z0.2.1, z0.2.2.1, (g3_ z0), (g4_ z0), (g5_ z0), (g6_ z0), (g7_ z0), (g8_ z0), (g9_ z0), (Dr z0)) hC [pq h9] (sI h).symm
 ·have h := hnext0 _ hs0
  replace h := sI h
  subst h
  exact wf L3 20 [] [] [] 6 Yi hC []
theorem A4t : EN 173 := en Tryz.func173
def Aam : List Nat := [0, 1, 2, 3, 4, 5, 6, 7, 8, 9, 10, 11, 12, 13, 17, 23, 30, 31, 32, 33, 48]
def Af5 (x0 : Fp) (n0 : Nat) (z0 : (List Int)) : St := [(4, dO 0 0), (5, dO 1 0), (6, .d (DS pI [])), (7, dI 0), (10, dS 2), (30, .d (DS q63 x0.Cy)), (31, dI (ln x0.Cy)), (32, dI (cnt 0 n0))]
def Aq6 (x1 : Aa) (x2 : Ab) (n0 : Nat) (z0 : (List Int)) : List Res := [.box 29 (d29 x1), .box 36 (d36 x2), v0_ z0]
def As6  (z0 : (List Int)) : St := [(6, .d (DS pI [])), (7, dI 0), (10, dS 0)]
def Awa  (z0 : (List Int)) : List Res := [v0_ z0]
theorem k15 (x0 : Fp) (x1 : Aa) (x2 : Ab) (r : (List Int) × Int) (h : F15 x0 x1 x2 = some r) : CO 15 [.agg (d57 x0), .agg (d29 x1), .agg (d36 x2)] [] (.tup [.d (.os 0), .d (I r.2)]) [v0_ r.1] := by
 unfold F15 at h
 refine co 61 Tryz.func15 λ C hC => ?_
 obtain ⟨y1, h2, h⟩ := Ad h
 rcases cB h with ⟨h3, h⟩ | ⟨h3, h⟩
 ·cases h
 ·obtain ⟨y4, h5, h⟩ := Ad h
  refine wn Aam 35 [false] [pc e42 (k42 x0 _ h2) [], pc e43 (k43 x1 x2 _ h5) []] [] 0 n3_ [3, 4, 5, 6, 7, 9, 23] hC [pq h3] ?_
  rcases cB h with ⟨h6, h⟩ | ⟨h6, h⟩
  ·cases h
  ·obtain ⟨y7, h8, h⟩ := Ad h
   refine ws Aam 28 [false] [pl q63 x0.Cy, ⟨.room ((ln x0.Cy) * (8 + 1)) (List.replicate (Int.toNat (ln x0.Cy)) (pI 0)) (y7.map pI), G7 h8⟩, pl q63 x0.Cy] [] 0 [1, 2, 3] (Af5 x0 0 y7) (Aq6 x1 x2 0 y7) hC [pq h6] ?_
   obtain ⟨w0, hm0, hret0, hnext0⟩ := As h
   clear h
   refine wc w0 (As6) (Awa) ?_ λ z0 hs0 => ?_
   ·refine wb ?_
    refine Bm 30 rfl λ hl0 => ?_
    refine A8 (by kernel_rfl) (Akw x1 x2) (Af5 x0) (Aq6 x1 x2) w0 x0.Cy y7 hm0 rfl rfl (λ z0 hn0 => ?_) λ n0 a0 z0 w0b hi0 hx0 h hb0 hr0 => ?_
    ·clear hm0
     exact wx w0 (As6) (Awa) Aam 26 [false] [] [] 0 [2] z0 hC [pq (Ba hl0)] hn0
    ·unfold Akw at h
     obtain ⟨y9, h10, h⟩ := Ad h
     obtain ⟨y11, h12, h⟩ := Ad h
     refine wn Aam 34 [true] [pt hx0 hl0, pc A69 (A6o x1.Ae (cnt 0 n0) _ h10) [3], pw e46 (λ hg => k46 x1 x2 y9.1 _ (A_ h12 hg)) []] [] 0 n5_ [4, 5, 6, 7, 10, 11, 12, 13, 30, 31, 32, 48] hC [pq (A9 hi0 hl0)] ?_
     rcases cB h with ⟨h13, h⟩ | ⟨h13, h⟩
     ·obtain ⟨y14, h15, h⟩ := Ad h
      obtain ⟨y16, h17, h⟩ := Ad h
      obtain ⟨y18, h19, h⟩ := Ad h
      obtain ⟨y20, h21, h⟩ := Ad h
      exact wx w0b (Af5 x0 (n0 + 1)) (Aq6 x1 x2 (n0 + 1)) Aam 25 [true] [pr pI h15, pc e47 (k47 a0 y14 _ h17) [], pr pI h19, pu pI h19 h21] [] 0 n3_ y20 hC [pq h13] (sI h).symm
     ·cases h
   ·have h := hnext0 _ hs0
    replace h := sI h
    subst h
    exact wr Aam 23 [] [] [] 0 [0] hC []
theorem e15 : EN 15 := en Tryz.func15
def Ir : List Nat := [0, 1, 3, 4, 6, 17, 36, 55, 76, 82, 88, 96]
theorem A3e (x0 : A3) (x1 : Ap) (r : Int × A3) (h : M8 x0 x1 = some r) : CO 135 [.d (.o 0 0), .agg (d49 x1)] (.box 186 (zb x0.Al [.os 1, .os 2, .os 3, .os 4, I x0.time]) :: zp x0.Au []) (.d (I r.1)) (.box 186 (zb r.2.Al [.os 5, .os 6, .os 7, .os 8, I r.2.time]) :: .non :: .non :: .non :: .non :: zp r.2.Au []) := by
 unfold M8 at h
 refine co 101 Tryz.func135 λ C hC => ?_
 rcases cB h with ⟨h1, h⟩ | ⟨h1, h⟩
 ·obtain ⟨y2, h3, h⟩ := Ad h
  replace h := sI h
  subst h
  exact wr Ir 34 [true] [⟨.call 182 [.agg (d29 x0.Al), .agg [.os 0, .os 1, .os 2, .os 3], dI x1.Unit] (zp x0.Au []) (.tup [.agg [.os 4, .os 5, .os 6, .os 7], dI y2.2]) (zp x0.Au (zp y2.1 [])) [1, 2, 3, 4], ⟨A94, ((A8m x0.Al x0.Au x1.Unit _ h3).lend (by kernel_rfl) (by kernel_rfl) (by kernel_rfl) ⟨Be (λ _ => rfl), Be (λ _ => rfl), Be (λ _ => rfl), Be (λ _ => rfl), trivial⟩ (by kernel_rfl) (by kernel_rfl))⟩⟩] [.frz 1, .frz 2, .frz 3, .frz 4] 5 [0, 1, 2, 3, 4, 6, 7, 8, 9] hC [pq h1]
 ·rcases cB h with ⟨h4, h⟩ | ⟨h4, h⟩
  ·obtain ⟨y5, h6, h⟩ := Ad h
   replace h := sI h
   subst h
   exact wr Ir 37 [false, true] [⟨.call 183 [.agg (d29 x0.Al), .agg [.os 0, .os 1, .os 2, .os 3], dI x1.Unit] (zp x0.Au []) (.tup [.agg [.os 4, .os 5, .os 6, .os 7], dI y5.2]) (zp x0.Au (zp y5.1 [])) [1, 2, 3, 4], ⟨A93, ((A8l x0.Al x0.Au x1.Unit _ h6).lend (by kernel_rfl) (by kernel_rfl) (by kernel_rfl) ⟨Be (λ _ => rfl), Be (λ _ => rfl), Be (λ _ => rfl), Be (λ _ => rfl), trivial⟩ (by kernel_rfl) (by kernel_rfl))⟩⟩] [.frz 1, .frz 2, .frz 3, .frz 4] 5 [0, 1, 2, 3, 4, 6, 7, 8, 9] hC [pq h1, pq h4]
  ·rcases cB h with ⟨h7, h⟩ | ⟨h7, h⟩
   ·obtain ⟨y8, h9, h⟩ := Ad h
    replace h := sI h
    subst h
    exact wr Ir 40 [false, false, true] [⟨.call 184 [.agg (d29 x0.Al), .agg [.os 0, .os 1, .os 2, .os 3], dI x1.Unit, dI x1.Value] (zp x0.Au []) (.tup [.agg [.os 4, .os 5, .os 6, .os 7], dI y8.2]) (zp x0.Au (zp y8.1 [])) [1, 2, 3, 4], ⟨A92, ((A8k x0.Al x0.Au x1.Unit x1.Value _ h9).lend (by kernel_rfl) (by kernel_rfl) (by kernel_rfl) ⟨Be (λ _ => rfl), Be (λ _ => rfl), Be (λ _ => rfl), Be (λ _ => rfl), trivial⟩ (by kernel_rfl) (by kernel_rfl))⟩⟩] [.frz 1, .frz 2, .frz 3, .frz 4] 5 [0, 1, 2, 3, 4, 6, 7, 8, 9] hC [pq h1, pq h4, pq h7]
   ·rcases cB h with ⟨h10, h⟩ | ⟨h10, h⟩
    ·obtain ⟨y11, h12, h⟩ := Ad h
     replace h := sI h
     subst h
     exact wr Ir 43 [false, false, false, true] [pc A4q (A2w x0 x1.Unit _ h12) n5_] [.mv 1, .mv 2, .mv 3, .mv 4] 5 [0, 1, 2, 3, 4, 6, 7, 8, 9] hC [pq h1, pq h4, pq h7, pq h10]
    ·rcases cB h with ⟨h13, h⟩ | ⟨h13, h⟩
     ·obtain ⟨y14, h15, h⟩ := Ad h
      replace h := sI h
      subst h
      exact wr Ir 46 [false, false, false, false, true] [pc A4p (A2v x0 x1.Unit _ h15) n5_] [.mv 1, .mv 2, .mv 3, .mv 4] 5 [0, 1, 2, 3, 4, 6, 7, 8, 9] hC [pq h1, pq h4, pq h7, pq h10, pq h13]
     ·rcases cB h with ⟨h16, h⟩ | ⟨h16, h⟩
      ·obtain ⟨y17, h18, h⟩ := Ad h
       replace h := sI h
       subst h
       exact wr Ir 49 [false, false, false, false, false, true] [pc A4o (A2u x0 x1.Unit x1.Value _ h18) n5_] [.mv 1, .mv 2, .mv 3, .mv 4] 5 [0, 1, 2, 3, 4, 6, 7, 8, 9] hC [pq h1, pq h4, pq h7, pq h10, pq h13, pq h16]
      ·rcases cB h with ⟨h19, h⟩ | ⟨h19, h⟩
       ·obtain ⟨y20, h21, h⟩ := Ad h
        replace h := sI h
        subst h
        exact wr Ir 52 [false, false, false, false, false, false, true] [pc A4n (A2t x0 _ h21) n5_] [] 5 [0, 1, 2, 3, 4, 6, 7, 8, 9] hC [pq h1, pq h4, pq h7, pq h10, pq h13, pq h16, pq h19]
       ·obtain ⟨y22, h23, h⟩ := Ad h
        replace h := sI h
        subst h
        exact wr Ir 52 [false, false, false, false, false, false, false] [pc A4m (A2s x0 (⟨x1.Value, x1.Unit⟩ : Am) (x1.Kind == 8) _ h23) n5_] [] 5 [0, 1, 2, 3, 4, 6, 7, 8, 9] hC [pq h1, pq h4, pq h7, pq h10, pq h13, pq h16, pq h19]
theorem A48 : EN 135 := en Tryz.func135
theorem A21 (x0 : Ax) (r : Ax) (h : yH x0 = some r) : CO 171 [.d (.o 0 0)] (.box 235 (zb x0.Al [.os 1, .os 2, .os 3, .os 4, .os 5]) :: zp x0.Au [v6_ x0.acts]) (.tup []) (.box 235 (zb r.Al [.os 6, .os 7, .os 8, .os 9, .os 10]) :: .non :: .non :: .non :: .non :: .non :: zp r.Au [v6_ r.acts]) := by
 unfold yH at h
 refine co 6 Tryz.func171 λ C hC => ?_
 obtain ⟨y1, h2, h⟩ := Ad h
 obtain ⟨y3, h4, h⟩ := Ad h
 replace h := sI h
 subst h
 exact wf [0] 23 [] [pc A4u (A20 x0 _ h2) n6_, pc A4t (A2z y1 _ h4) [0, 6, 7, 8, 9, 10]] [] 6 [0, 1, 2, 3, 4, 5, 11, 12, 13, 14, 15] hC []
theorem A4v : EN 171 := en Tryz.func171
def Yj : List Nat := [0, 1, 2, 3, 4, 5, 7, 8, 9, 10, 11, 12, 16, 21, 39, 55]
theorem k83 (x0 : Aa) (x1 : Ab) (x2 : Int) (x3 : Ap) (r : Ab × Int) (h : F83 x0 x1 x2 x3 = some r) : CO 83 [.agg (d29 x0), .agg (d36 x1), .d (I x2), .agg (d49 x3)] [] (.tup [.agg [.os 0, .os 1, .os 2, .os 3], .d (I r.2)]) (zp r.1 []) := by
 unfold F83 at h
 refine co 62 Tryz.func83 λ C hC => ?_
 obtain ⟨y1, h2, h⟩ := Ad h
 refine wn Yj 29 [] [pc e43 (k43 x0 x1 _ h2) []] [.ownb 3 0 4 1, .ownb 3 1 120 4, .ownb 3 2 3 1, .ownb 3 3 86 2] 0 n8_ [2, 4, 5, 7, 8, 9, 10, 16] hC [] ?_
 rcases cB h with ⟨h3, h⟩ | ⟨h3, h⟩
 ·replace h := sI h
  subst h
  exact wr Yj 24 [true] [] [.ownb 3 0 4 1, .ownb 3 1 120 4, .ownb 3 2 3 1, .ownb 3 3 86 2] 0 [8, 9, 10, 11] hC [pq h3]
 ·rcases cB h with ⟨h4, h⟩ | ⟨h4, h⟩
  ·replace h := sI h
   subst h
   exact wr Yj 27 [false, true] [] [.ownb 3 0 4 1, .ownb 3 1 120 4, .ownb 3 2 3 1, .ownb 3 3 86 2] 0 [8, 9, 10, 11] hC [pq h3, pq h4]
  ·obtain ⟨y5, h6, h⟩ := Ad h
   rcases cB h with ⟨h7, h⟩ | ⟨h7, h⟩
   ·replace h := sI h
    subst h
    exact wr Yj 30 [false, false, true] [pc A49 (A3f x0 x3 _ h6) []] [.ownb 3 0 4 1, .ownb 3 1 120 4, .ownb 3 2 3 1, .ownb 3 3 86 2] 0 [8, 9, 10, 11] hC [pq h3, pq h4, pq h7]
   ·obtain ⟨y8, h9, h⟩ := Ad h
    obtain ⟨y10, h11, h⟩ := Ad h
    refine wn Yj 37 [false, false, false] [pc A49 (A3f x0 x3 _ h6) [], pc Mw (Mp x1 _ h9) [], pc A48 (A3e (⟨x0, y8, x2⟩ : A3) x3 _ h11) [12, 8, 9, 10, 11]] [] 0 [3, 4, 5, 6, 7, 12, 13, 14, 15, 16] [8, 9, 11, 12, 55] hC [pq h3, pq h4, pq h7] ?_
    rcases cB h with ⟨h12, h⟩ | ⟨h12, h⟩
    ·replace h := sI h
     subst h
     exact wr Yj 24 [true] [] [.ownb 0 0 4 1, .ownb 0 1 120 4, .ownb 0 2 3 1, .ownb 0 3 86 2] 0 [10, 11, 12, 13] hC [pq h12]
    ·replace h := sI h
     subst h
     exact wr Yj 25 [false] [] [] 0 [6, 7, 8, 9] hC [pq h12]
theorem e83 : EN 83 := en Tryz.func83
def V9 : List Nat := [0, 1, 2, 3, 4, 6, 7, 8, 9, 10, 15]
theorem A22 (x0 : Aa) (x1 : Ab) (r : Ab × (List Ap) × Int) (h : yI x0 x1 = some r) : CO 170 [.agg (d29 x0), .agg (d36 x1), .d (.fn (.func 171) [] [])] [] (.tup [.agg [.os 0, .os 1, .os 2, .os 3], .d (.os 4), .d (I r.2.2)]) (zp r.1 [v6_ r.2.1]) := by
 unfold yI at h
 refine co 34 Tryz.func170 λ C hC => ?_
 obtain ⟨y1, h2, h⟩ := Ad h
 refine wn V9 28 [] [pc e43 (k43 x0 x1 _ h2) []] [.ownb 2 0 4 1, .ownb 2 1 120 4, .ownb 2 2 3 1, .ownb 2 3 86 2] 0 n7_ [2, 3, 4, 6, 7, 8, 9, 15] hC [] ?_
 rcases cB h with ⟨h3, h⟩ | ⟨h3, h⟩
 ·replace h := sI h
  subst h
  exact wr V9 24 [true] [] [.ownb 2 0 4 1, .ownb 2 1 120 4, .ownb 2 2 3 1, .ownb 2 3 86 2, .own 7 49 3] 0 [7, 8, 9, 10, 11] hC [pq h3]
 ·obtain ⟨y4, h5, h⟩ := Ad h
  refine wn V9 5 [false] [pc Mw (Mp x1 _ h5) []] [.ownb 11 10 49 3] 0 [2, 3, 4, 5, 6, 7, 8, 9, 10, 11, 12] [2, 6, 7, 8, 10] hC [pq h3] ?_
  obtain ⟨y6, h7, h⟩ := Ad h
  replace h := sI h
  subst h
  exact wr V9 24 [] [pc A4v (A21 (⟨x0, y4, ([] : List Ap)⟩ : Ax) _ h7) [9, 5, 6, 7, 8, 10]] [] 0 [11, 12, 13, 14, 15] hC []
theorem A4w : EN 170 := en Tryz.func170
theorem A89 (x0 : Aa) (x1 : Ab) (r : Ab × (List Ap) × Int) (h : Ak4 x0 x1 = some r) : CO 125 [.agg (d29 x0), .agg (d36 x1)] [] (.tup [.agg [.os 0, .os 1, .os 2, .os 3], .d (.os 4), .d (I r.2.2)]) (zp r.1 [v6_ r.2.1]) := by
 unfold Ak4 at h
 refine co 13 Tryz.func125 λ C hC => ?_
 obtain ⟨y1, h2, h⟩ := Ad h
 replace h := sI h
 subst h
 exact wr n7_ 25 [] [pc A4w (A22 x0 x1 _ h2) []] [] 0 [3, 4, 5, 6, 7] hC []
theorem A_r : EN 125 := en Tryz.func125
def Fz : List Nat := [0, 1, 3, 4, 5, 6, 7, 10, 32, 38, 52, 53, 54, 55, 63, 83]
def X_  (z0 : Int) : St := [(0, dO 0 0), (3, dO 9 0), (4, dO 10 0), (5, dI z0)]
def Y6 (x0 : A4) (x1 : Ap) (y1 : Ab × Int) (z0 : Int) : List Res := (.box 100 (I x0.Av.Time :: .os 1 :: .os 2 :: .os 3 :: .os 4 :: .os 5 :: .os 6 :: zb x0.Al [.os 7, .os 8]) :: zp x0.Av.Power (v5_ x0.Av.A5 :: v1_ x0.Av.A7 :: v1_ x0.events :: v7_ x0.states :: .box 49 (d49 x1) :: .box 36 [.os 11, .os 12, .os 13, .os 14] :: zp y1.1 []))
def Qe (y9 : Ab × (List Ap) × Int) (n1 : Nat) (z1 : Aa6) : St := [(0, dO 0 0), (4, dO 9 0), (6, dO 16 0), (52, dS 21), (53, dI (ln y9.2.1)), (54, dI (cnt 0 n1))]
def Wx (y1 : Ab × Int) (y9 : Ab × (List Ap) × Int) (n1 : Nat) (z1 : Aa6) : List Res := (.box 100 [I z1.1, .os 1, .os 2, .os 3, .os 4, .os 5, .os 6, I z1.2.1, DS Bi z1.2.2.1, DS Bt (g3_ z1), DS q65 (g4_ z1), I (g5_ z1), I (g6_ z1), .os 14, .os 15] :: v2_ (g7_ z1) :: v4_ (g8_ z1) :: v0_ (g9_ z1) :: v3_ (Cj z1) :: v5_ (Ep z1) :: v1_ (E9 z1) :: .non :: .non :: .box 36 [.os 10, .os 11, .os 12, .os 13] :: v2_ (E1 z1) :: v4_ y1.1.Ac :: v0_ (Wl z1) :: v3_ y1.1.Ao :: v1_ (K9 z1) :: v7_ (Ahk z1) :: .box 36 [.os 17, .os 18, .os 19, .os 20] :: zp y9.1 [v6_ y9.2.1])
def Agf  (z1 : Aa6) : St := [(0, dO 0 0), (4, dO 9 0), (6, dO 16 0)]
def Ai9 (y1 : Ab × Int) (y9 : Ab × (List Ap) × Int) (z1 : Aa6) : List Res := (.box 100 [I z1.1, .os 1, .os 2, .os 3, .os 4, .os 5, .os 6, I z1.2.1, DS Bi z1.2.2.1, DS Bt (g3_ z1), DS q65 (g4_ z1), I (g5_ z1), I (g6_ z1), .os 14, .os 15] :: v2_ (g7_ z1) :: v4_ (g8_ z1) :: v0_ (g9_ z1) :: v3_ (Cj z1) :: v5_ (Ep z1) :: v1_ (E9 z1) :: .non :: .non :: .box 36 [.os 10, .os 11, .os 12, .os 13] :: v2_ (E1 z1) :: v4_ y1.1.Ac :: v0_ (Wl z1) :: v3_ y1.1.Ao :: v1_ (K9 z1) :: v7_ (Ahk z1) :: .box 36 [.os 17, .os 18, .os 19, .os 20] :: zp y9.1 [])
set_option maxHeartbeats 4000000 in
theorem App (x0 : A4) (x1 : Ap) (r : A4) (h : Rv x0 x1 = some r) : CO 64 [.d (.o 0 0), .agg (d49 x1)] (.box 100 (I x0.Av.Time :: .os 1 :: .os 2 :: .os 3 :: .os 4 :: .os 5 :: .os 6 :: zb x0.Al [.os 7, .os 8]) :: zp x0.Av.Power [v5_ x0.Av.A5, v1_ x0.Av.A7, v1_ x0.events, v7_ x0.states]) (.tup []) (.box 100 (I r.Av.Time :: .os 9 :: .os 10 :: .os 11 :: .os 12 :: .os 5 :: .os 6 :: zb r.Al [.os 13, .os 14]) :: .non :: .non :: .non :: .non :: v5_ r.Av.A5 :: v1_ r.Av.A7 :: .non :: .non :: zp r.Av.Power [v1_ r.events, v7_ r.states]) := by
 unfold Rv at h
 refine co 92 Tryz.func64 λ C hC => ?_
 obtain ⟨y1, h2, h⟩ := Ad h
 refine wn Fz 28 [] [⟨.flts [.box 36 [.p (.v (.slice none 0 0)), .p (.v (.slice none 0 0)), .p (.v (.slice none 0 0)), .p (.v (.slice none 0 0))]], trivial⟩, ⟨.call 83 [.agg (d29 x0.Al), .agg [.os 0, .os 1, .os 2, .os 3], dI x0.Av.Time, .agg (d49 x1)] (zp x0.Av.Power []) (.tup [.agg [.os 4, .os 5, .os 6, .os 7], dI y1.2]) (zp x0.Av.Power (zp y1.1 [])) [1, 2, 3, 4], ⟨e83, ((k83 x0.Al x0.Av.Power x0.Av.Time x1 _ h2).lend (by kernel_rfl) (by kernel_rfl) (by kernel_rfl) ⟨Be (λ _ => rfl), Be (λ _ => rfl), Be (λ _ => rfl), Be (λ _ => rfl), trivial⟩ (by kernel_rfl) (by kernel_rfl))⟩⟩, ⟨.flt 10 (.box 36 [.p (.v (.slice none 0 0)), .p (.v (.slice none 0 0)), .p (.v (.slice none 0 0)), .p (.v (.slice none 0 0))]) (.box 36 [.p (.v (.slice none 0 0)), .p (.v (.slice none 0 0)), .p (.v (.slice none 0 0)), .p (.v (.slice none 0 0))]), rfl⟩] [] 9 Fy [0, 3, 4, 5, 32] hC [] ?_
 obtain ⟨w0, h, hret0, hnext0⟩ := As h
 refine wc w0 (X_) (Y6 x0 x1 y1) ?_ λ z0 hs0 => ?_
 ·unfold Zx at h
  rcases cB h with ⟨h3, h⟩ | ⟨h3, h⟩
  ·exact wx w0 (X_) (Y6 x0 x1 y1) Fz 23 [true] [] [] 9 Fy 1 hC [pq h3] (sI h).symm
  ·exact wx w0 (X_) (Y6 x0 x1 y1) Fz 23 [false] [] [] 9 Fy y1.2 hC [pq h3] (sI h).symm
 ·clear h; have h := hnext0 _ hs0
  obtain ⟨y4, h5, h⟩ := Ad h
  refine wn Fz 26 [] [pc Auj (Atp x0 x1 z0 _ h5) n9_] [] 9 [0, 1, 2, 3, 4, 5, 6, 7, 8, 10, 11, 12, 13, 14, 15] [0, 4, 38] hC [] ?_
  rcases cB h with ⟨h6, h⟩ | ⟨h6, h⟩
  ·replace h := sI h
   subst h
   exact wr Fz 22 [true] [] [.mv 1, .mv 2, .mv 3, .mv 4, .mv 8] 9 [0, 1, 2, 3, 4, 5, 6, 7, 8, 15, 16, 17, 18, 14, 19] hC [pq h6]
  ·obtain ⟨y7, h8, h⟩ := Ad h
   obtain ⟨y9, h10, h⟩ := Ad h
   refine ws Fz 30 [false] [pc Ae0 (Aez y4 y1.1 _ h8) [0, 1, 2, 3, 4, 5, 6, 14, 8, 10, 11, 12, 13], ⟨.flts [.box 36 [.p (.v (.slice none 0 0)), .p (.v (.slice none 0 0)), .p (.v (.slice none 0 0)), .p (.v (.slice none 0 0))]], trivial⟩, ⟨.call 125 [.agg (d29 y7.Al), .agg [.os 0, .os 1, .os 2, .os 3]] (zp y1.1 []) (.tup [.agg [.os 4, .os 5, .os 6, .os 7], dS 8, dI y9.2.2]) (zp y1.1 (zp y9.1 [v6_ y9.2.1])) [10, 11, 12, 13], ⟨A_r, ((A89 y7.Al y1.1 _ h10).lend (by kernel_rfl) (by kernel_rfl) (by kernel_rfl) ⟨Be (λ _ => rfl), Be (λ _ => rfl), Be (λ _ => rfl), Be (λ _ => rfl), Be (λ _ => rfl), trivial⟩ (by kernel_rfl) (by kernel_rfl))⟩⟩, ⟨.flt 16 (.box 36 [.p (.v (.slice none 0 0)), .p (.v (.slice none 0 0)), .p (.v (.slice none 0 0)), .p (.v (.slice none 0 0))]) (.box 36 [.p (.v (.slice none 0 0)), .p (.v (.slice none 0 0)), .p (.v (.slice none 0 0)), .p (.v (.slice none 0 0))]), rfl⟩, pl q49 y9.2.1] [] 9 A7y (Qe y9 0 (y7.Av.Time, zt y7.Al (zu y7.Av.Power (y7.Av.A5, y7.Av.A7, y1.1.Ah, y7.events, y7.states, y1.1.Ar)))) (Wx y1 y9 0 (y7.Av.Time, zt y7.Al (zu y7.Av.Power (y7.Av.A5, y7.Av.A7, y1.1.Ah, y7.events, y7.states, y1.1.Ar)))) hC [pq h6] ?_
   obtain ⟨w1, hm1, hret1, hnext1⟩ := As h
   clear h
   refine wc w1 (Agf) (Ai9 y1 y9) ?_ λ z1 hs1 => ?_
   ·refine wb ?_
    refine Cc 52 21 rfl rfl λ hl1 => ?_
    refine A8 (by kernel_rfl) (Ru y1) (Qe y9) (Wx y1 y9) w1 y9.2.1 (y7.Av.Time, zt y7.Al (zu y7.Av.Power (y7.Av.A5, y7.Av.A7, y1.1.Ah, y7.events, y7.states, y1.1.Ar))) hm1 rfl rfl (λ z1 hn1 => ?_) λ n1 a1 z1 w1b hi1 hx1 h hb1 hr1 => ?_
    ·clear hm1
     exact wx w1 (Agf) (Ai9 y1 y9) Fz 26 [false] [] [] 9 A7z (z1.1, z1.2.1, z1.2.2.1, (g3_ z1), (g4_ z1), (g5_ z1), (g6_ z1), (g7_ z1), (g8_ z1), (g9_ z1), (Cj z1), (Ep z1), (E9 z1), (E1 z1), (K9 z1), (Ahk z1), (Wl z1)) hC [pq (Ba hl1)] hn1
    ·unfold Ru at h
     obtain ⟨y11, h12, h⟩ := Ad h
     refine wn Fz 35 [true] [pr q49 (Bp hx1 hl1), pn q49 (Bp hx1 hl1), pc Auj (Atp (⟨(⟨z1.1, (⟨(g7_ z1), (g8_ z1), (g9_ z1), (Cj z1)⟩ : Ab), (Ep z1), (E9 z1)⟩ : A0), (⟨z1.2.1, z1.2.2.1, (g3_ z1), (g4_ z1), (g5_ z1), (g6_ z1)⟩ : Aa), (K9 z1), (Ahk z1)⟩ : A4) a1 0 _ h12) [0, 1, 2, 3, 4, 5, 6, 14, 15]] [] 9 [0, 1, 2, 3, 4, 5, 6, 7, 8, 9, 10, 11, 12, 13, 15, 16, 17, 18, 19, 20, 21, 22, 23] [0, 4, 6, 10, 52, 53, 54, 63] hC [pq (A9 hi1 hl1)] ?_
     rcases cB h with ⟨h13, h⟩ | ⟨h13, h⟩
     ·obtain ⟨y14, h15, h⟩ := Ad h
      obtain ⟨y16, h17, h⟩ := Ad h
      obtain ⟨y18, h19, h⟩ := Ad h
      exact wx w1b (Qe y9 (n1 + 1)) (Wx y1 y9 (n1 + 1)) Fz 26 [true] [pr pB h15, pu pB h15 h17, pc Ae0 (Aez y11 (⟨y16, y1.1.Ac, (Wl z1), y1.1.Ao⟩ : Ab) _ h19) [0, 1, 2, 3, 4, 5, 6, 22, 14, 10, 11, 12, 13]] [] 9 [0, 1, 2, 3, 4, 5, 6, 7, 8, 9, 10, 11, 12, 13, 22, 23, 15, 16, 17, 18, 19, 20] (y18.Av.Time, zt y18.Al (zu y18.Av.Power (y18.Av.A5, y18.Av.A7, y16, y18.events, y18.states, (Wl z1)))) hC [pq h13] (sI h).symm
     ·obtain ⟨y20, h21, h⟩ := Ad h
      obtain ⟨y22, h23, h⟩ := Ad h
      obtain ⟨y24, h25, h⟩ := Ad h
      exact wx w1b (Qe y9 (n1 + 1)) (Wx y1 y9 (n1 + 1)) Fz 26 [false] [pr pI h21, pu pI h21 h23, pc Ae0 (Aez y11 (⟨(E1 z1), y1.1.Ac, y22, y1.1.Ao⟩ : Ab) _ h25) [0, 1, 2, 3, 4, 5, 6, 22, 14, 10, 11, 12, 13]] [] 9 [0, 1, 2, 3, 4, 5, 6, 7, 8, 9, 10, 11, 12, 13, 22, 23, 15, 16, 17, 18, 19, 20] (y24.Av.Time, zt y24.Al (zu y24.Av.Power (y24.Av.A5, y24.Av.A7, (E1 z1), y24.events, y24.states, y22))) hC [pq h13] (sI h).symm
   ·have h := hnext1 _ hs1
    obtain ⟨y26, h27, h⟩ := Ad h
    refine wn Fz 24 [] [pb e60 (k60 (⟨(E1 z1), y1.1.Ac, (Wl z1), y1.1.Ao⟩ : Ab) y9.1 _ h27)] [] 9 [0, 1, 2, 3, 4, 5, 6, 7, 8, 14, 15, 16, 17, 18, 19, 20] [0, 6, 83] hC [] ?_
    rcases cB h with ⟨h28, h⟩ | ⟨h28, h⟩
    ·obtain ⟨y29, h30, h⟩ := Ad h
     replace h := sI h
     subst h
     exact wf Fz 23 [true] [pc Ae0 (Aez (⟨(⟨z1.1, (⟨(g7_ z1), (g8_ z1), (g9_ z1), (Cj z1)⟩ : Ab), (Ep z1), (E9 z1)⟩ : A0), (⟨z1.2.1, z1.2.2.1, (g3_ z1), (g4_ z1), (g5_ z1), (g6_ z1)⟩ : Aa), (K9 z1), (Ahk z1)⟩ : A4) y9.1 _ h30) [0, 1, 2, 3, 4, 5, 6, 9, 10, 12, 13, 14, 15]] [.frz 1, .frz 2, .frz 3, .frz 4] 9 [0, 1, 2, 3, 4, 5, 6, 7, 8, 12, 13, 14, 15, 9, 16] hC [pq h28]
    ·replace h := sI h
     subst h
     exact wf Fz 23 [false] [] [.frz 1, .frz 2, .frz 3, .frz 4] 9 [0, 1, 2, 3, 4, 5, 6, 7, 8, 12, 13, 14, 15, 9, 10] hC [pq h28]
theorem Ap4 : EN 64 := en Tryz.func64
def I7 : List Nat := [0, 1, 3, 4, 6, 7, 8, 9, 12, 28, 29, 30, 31, 55, 89, 90, 91, 92]
def Qd (y3 : (List Ai)) (n0 : Nat) (z0 : Aa5) : St := [(0, dO 0 0), (3, dO 9 0), (4, dS 10), (28, dS 11), (29, dI (ln y3)), (30, dI (cnt 0 n0))]
def Ww (x1 : Bf) (y3 : (List Ai)) (n0 : Nat) (z0 : Aa5) : List Res := [.box 100 [I z0.1, .os 12, .os 13, .os 14, .os 15, .os 16, .os 17, I z0.2.1, DS Bi z0.2.2.1, DS Bt (g3_ z0), DS q65 (g4_ z0), I (g5_ z0), I (g6_ z0), .os 18, .os 19], .non, .non, .non, .non, .non, .non, .non, .non, .box 31 (d31 x1), v5_ (g7_ z0), v8_ y3, v2_ (g8_ z0), v4_ (g9_ z0), v0_ (Cj z0), v3_ (Ep z0), v5_ (E9 z0), v1_ (E1 z0), v1_ (K9 z0), v7_ (Q4 z0)]
def Age  (z0 : Aa5) : St := [(0, dO 0 0), (4, dS 9)]
def Ai8  (z0 : Aa5) : List Res := [.box 100 [I z0.1, .os 10, .os 11, .os 12, .os 13, .os 14, .os 15, I z0.2.1, DS Bi z0.2.2.1, DS Bt (g3_ z0), DS q65 (g4_ z0), I (g5_ z0), I (g6_ z0), .os 16, .os 17], .non, .non, .non, .non, .non, .non, .non, .non, v5_ (g7_ z0), v2_ (g8_ z0), v4_ (g9_ z0), v0_ (Cj z0), v3_ (Ep z0), v5_ (E9 z0), v1_ (E1 z0), v1_ (K9 z0), v7_ (Q4 z0)]
def X6 (y3 : (List Ai)) (n0 : Nat) (y12 : Az × (List Ap) × Int) (n1 : Nat) (z1 : Ld) : St := [(0, dO 0 0), (3, dO 9 0), (4, dS 10), (28, dS 11), (29, dI (ln y3)), (30, dI (cnt 0 n0)), (89, .d (DS q49 y12.2.1)), (90, dI (ln y12.2.1)), (91, dI (cnt 0 n1))]
def Aba (x1 : Bf) (y3 : (List Ai)) (y16 : List Az) (n1 : Nat) (z1 : Ld) : List Res := [.box 100 [I z1.1, .os 12, .os 13, .os 14, .os 15, .os 16, .os 17, I z1.2.1, DS Bi z1.2.2.1, DS Bt (g3_ z1), DS q65 (g4_ z1), I (g5_ z1), I (g6_ z1), .os 18, .os 19], .non, .non, .non, .non, .non, .non, .non, .non, .box 31 (d31 x1), v5_ y16, v8_ y3, v2_ (g7_ z1), v4_ (g8_ z1), v0_ (g9_ z1), v3_ (Cj z1), v5_ (Ep z1), v1_ (E9 z1), v1_ (E1 z1), v7_ (J_ z1)]
def Agd (y3 : (List Ai)) (n0 : Nat) (z1 : Ld) : St := [(0, dO 0 0), (3, dO 9 0), (4, dS 10), (28, dS 11), (29, dI (ln y3)), (30, dI (cnt 0 n0))]
def Ai7 (x1 : Bf) (y3 : (List Ai)) (y16 : List Az) (z1 : Ld) : List Res := [.box 100 [I z1.1, .os 12, .os 13, .os 14, .os 15, .os 16, .os 17, I z1.2.1, DS Bi z1.2.2.1, DS Bt (g3_ z1), DS q65 (g4_ z1), I (g5_ z1), I (g6_ z1), .os 18, .os 19], .non, .non, .non, .non, .non, .non, .non, .non, .box 31 (d31 x1), v5_ y16, v8_ y3, v2_ (g7_ z1), v4_ (g8_ z1), v0_ (g9_ z1), v3_ (Cj z1), v5_ (Ep z1), v1_ (E9 z1), v1_ (E1 z1), v7_ (J_ z1)]
theorem A6h (x0 : A4) (x1 : Bf) (r : A4) (h : vD x0 x1 = some r) : CO 82 [.d (.o 0 0), .agg (d31 x1)] (.box 100 (I x0.Av.Time :: .os 1 :: .os 2 :: .os 3 :: .os 4 :: .os 5 :: .os 6 :: zb x0.Al [.os 7, .os 8]) :: zp x0.Av.Power [v5_ x0.Av.A5, v1_ x0.Av.A7, v1_ x0.events, v7_ x0.states]) (.tup []) (.box 100 (I r.Av.Time :: .os 9 :: .os 10 :: .os 11 :: .os 12 :: .os 13 :: .os 14 :: zb r.Al [.os 15, .os 16]) :: .non :: .non :: .non :: .non :: .non :: .non :: .non :: .non :: zp r.Av.Power [v5_ r.Av.A5, v1_ r.Av.A7, v1_ r.events, v7_ r.states]) := by
 unfold vD at h
 refine co 105 Tryz.func82 λ C hC => ?_
 obtain ⟨y1, h2, h⟩ := Ad h
 obtain ⟨y3, h4, h⟩ := Ad h
 refine ws I7 28 [] [pc e86 (k86 x0.Al.An _ h2) [], pc Azb (Ay7 x0.Al x0.Av.Power _ h4) [1, 2, 3, 4], pl q84 y3] [.mv 1, .mv 2, .mv 3, .mv 4, .mv 5, .mv 6, .mv 7, .mv 8] 9 Aad (Qd y3 0 (x0.Av.Time, zt x0.Al (y1, zu x0.Av.Power (x0.Av.A5, x0.Av.A7, x0.events, x0.states)))) (Ww x1 y3 0 (x0.Av.Time, zt x0.Al (y1, zu x0.Av.Power (x0.Av.A5, x0.Av.A7, x0.events, x0.states)))) hC [] ?_
 obtain ⟨w0, hm0, hret0, hnext0⟩ := As h
 clear h
 refine wc w0 (Age) (Ai8) ?_ λ z0 hs0 => ?_
 ·refine wb ?_
  refine Cc 28 11 rfl rfl λ hl0 => ?_
  refine A8 (by kernel_rfl) (Rt x1) (Qd y3) (Ww x1 y3) w0 y3 (x0.Av.Time, zt x0.Al (y1, zu x0.Av.Power (x0.Av.A5, x0.Av.A7, x0.events, x0.states))) hm0 rfl rfl (λ z0 hn0 => ?_) λ n0 a0 z0 w0b hi0 hx0 h hb0 hr0 => ?_
  ·clear hm0
   exact wx w0 (Age) (Ai8) I7 26 [false] [] [] 9 [0, 1, 2, 3, 4, 5, 6, 7, 8, 10, 12, 13, 14, 15, 16, 17, 18, 19] (z0.1, z0.2.1, z0.2.2.1, (g3_ z0), (g4_ z0), (g5_ z0), (g6_ z0), (g7_ z0), (g8_ z0), (g9_ z0), (Cj z0), (Ep z0), (E9 z0), (E1 z0), (K9 z0), (Q4 z0)) hC [pq (Ba hl0)] hn0
  ·unfold Rt at h
   obtain ⟨y5, h6, h⟩ := Ad h
   obtain ⟨y7, h8, h⟩ := Ad h
   refine wn I7 35 [true] [pr q84 (Bp hx0 hl0), pn q84 (Bp hx0 hl0), pr pI h6, pl pI a0.Ac, pv Ap8 (λ hg => Apt (⟨z0.2.1, z0.2.2.1, (g3_ z0), (g4_ z0), (g5_ z0), (g6_ z0)⟩ : Aa) (⟨(g8_ z0), (g9_ z0), (Cj z0), (Ep z0)⟩ : Ab) y5 _ (A_ h8 hg))] [] 9 Aad [0, 3, 4, 7, 28, 29, 30, 55] hC [pq (A9 hi0 hl0)] ?_
   rcases cB h with ⟨h9, h⟩ | ⟨h9, h⟩
   ·exact wx w0b (Qd y3 (n0 + 1)) (Ww x1 y3 (n0 + 1)) I7 24 [true] [] [] 9 Aad (z0.1, z0.2.1, z0.2.2.1, (g3_ z0), (g4_ z0), (g5_ z0), (g6_ z0), (g7_ z0), (g8_ z0), (g9_ z0), (Cj z0), (Ep z0), (E9 z0), (E1 z0), (K9 z0), (Q4 z0)) hC [pq h9] (sI h).symm
   ·obtain ⟨y10, h11, h⟩ := Ad h
    obtain ⟨y12, h13, h⟩ := Ad h
    obtain ⟨y14, h15, h⟩ := Ad h
    obtain ⟨y16, h17, h⟩ := Ad h
    refine ws I7 29 [false] [⟨.flts [.box 130 [I 0, I 0]], trivial⟩, pr B2 h11, pn B2 h11, pc A5a (A3g (⟨z0.2.1, z0.2.2.1, (g3_ z0), (g4_ z0), (g5_ z0), (g6_ z0)⟩ : Aa) x1 (⟨(g8_ z0), (g9_ z0), (Cj z0), (Ep z0)⟩ : Ab) y5 z0.1 y10 _ h13) [12, 13, 14, 15], ⟨.flt 20 (.box 130 [I 0, I 0]) (.box 130 [I 0, I 0]), rfl⟩, pr B2 h15, pu B2 h15 h17, pl q49 y12.2.1] [] 9 Aad (X6 y3 n0 y12 0 (z0.1, z0.2.1, z0.2.2.1, (g3_ z0), (g4_ z0), (g5_ z0), (g6_ z0), (g8_ z0), (g9_ z0), (Cj z0), (Ep z0), (E9 z0), (E1 z0), (K9 z0), (Q4 z0))) (Aba x1 y3 y16 0 (z0.1, z0.2.1, z0.2.2.1, (g3_ z0), (g4_ z0), (g5_ z0), (g6_ z0), (g8_ z0), (g9_ z0), (Cj z0), (Ep z0), (E9 z0), (E1 z0), (K9 z0), (Q4 z0))) hC [pq h9] ?_
    obtain ⟨w1, hm1, hret1, hnext1⟩ := As h
    clear h
    refine wc w1 (Agd y3 n0) (Ai7 x1 y3 y16) ?_ λ z1 hs1 => ?_
    ·refine wb ?_
     refine Bm 89 rfl λ hl1 => ?_
     refine A8 (by kernel_rfl) M4 (X6 y3 n0 y12) (Aba x1 y3 y16) w1 y12.2.1 (z0.1, z0.2.1, z0.2.2.1, (g3_ z0), (g4_ z0), (g5_ z0), (g6_ z0), (g8_ z0), (g9_ z0), (Cj z0), (Ep z0), (E9 z0), (E1 z0), (K9 z0), (Q4 z0)) hm1 rfl rfl (λ z1 hn1 => ?_) λ n1 a1 z1 w1b hi1 hx1 h hb1 hr1 => ?_
     ·clear hm1
      exact wx w1 (Agd y3 n0) (Ai7 x1 y3 y16) I7 26 [false] [] [] 9 Aad (z1.1, z1.2.1, z1.2.2.1, (g3_ z1), (g4_ z1), (g5_ z1), (g6_ z1), (g7_ z1), (g8_ z1), (g9_ z1), (Cj z1), (Ep z1), (E9 z1), (E1 z1), (J_ z1)) hC [pq (Ba hl1)] hn1
     ·unfold M4 at h
      obtain ⟨y18, h19, h⟩ := Ad h
      exact wx w1b (X6 y3 n0 y12 (n1 + 1)) (Aba x1 y3 y16 (n1 + 1)) I7 33 [true] [pt hx1 hl1, pc Ap4 (App (⟨(⟨z1.1, (⟨(g7_ z1), (g8_ z1), (g9_ z1), (Cj z1)⟩ : Ab), (Ep z1), (E9 z1)⟩ : A0), (⟨z1.2.1, z1.2.2.1, (g3_ z1), (g4_ z1), (g5_ z1), (g6_ z1)⟩ : Aa), (E1 z1), (J_ z1)⟩ : A4) a1 _ h19) [0, 12, 13, 14, 15, 16, 17, 18, 19]] [] 9 [0, 1, 2, 3, 4, 5, 6, 7, 8, 9, 10, 11, 21, 22, 23, 24, 16, 17, 25, 26] (y18.Av.Time, zt y18.Al (zu y18.Av.Power (y18.Av.A5, y18.Av.A7, y18.events, y18.states))) hC [pq (A9 hi1 hl1)] (sI h).symm
    ·have h := hnext1 _ hs1
     exact wx w0b (Qd y3 (n0 + 1)) (Ww x1 y3 (n0 + 1)) I7 23 [] [] [] 9 Aad (z1.1, z1.2.1, z1.2.2.1, (g3_ z1), (g4_ z1), (g5_ z1), (g6_ z1), y16, (g7_ z1), (g8_ z1), (g9_ z1), (Cj z1), (Ep z1), (E9 z1), (E1 z1), (J_ z1)) hC [] (sI h).symm
 ·have h := hnext0 _ hs0
  replace h := sI h
  subst h
  exact wf I7 21 [] [] [] 9 [0, 1, 2, 3, 4, 5, 6, 7, 8, 10, 11, 12, 13, 9, 15, 16, 17] hC []
theorem A62 : EN 82 := en Tryz.func82
def Aw6 : List Nat := [0, 1, 2, 3, 4, 5, 6, 7, 8, 9, 10, 16]
theorem k22 (x0 : Aa) (x1 : A0) (x2 : Ap) (r : A0 × (List Ab) × Int) (h : F22 x0 x1 x2 = some r) : CO 22 [.agg (d29 x0), .agg (d40 x1), .agg (d49 x2)] [] (.tup [.agg [I r.1.Time, .os 0, .os 1, .os 2, .os 3, .os 4, .os 5], .d (.os 6), .d (I r.2.2)]) (zp r.1.Power [v5_ r.1.A5, v1_ r.1.A7, v7_ r.2.1]) := by
 unfold F22 at h
 refine co 47 Tryz.func22 λ C hC => ?_
 obtain ⟨y1, h2, h⟩ := Ad h
 refine wn Aw6 28 [] [pc e43 (k43 x0 x1.Power _ h2) []] [.ownb 3 1 4 1, .ownb 3 2 120 4, .ownb 3 3 3 1, .ownb 3 4 86 2, .ownb 3 5 130 2, .ownb 3 6 51 5] 0 Fo [3, 4, 5, 6, 7, 8, 9, 16] hC [] ?_
 rcases cB h with ⟨h3, h⟩ | ⟨h3, h⟩
 ·replace h := sI h
  subst h
  exact wr Aw6 24 [true] [] [.ownb 3 1 4 1, .ownb 3 2 120 4, .ownb 3 3 3 1, .ownb 3 4 86 2, .ownb 3 5 130 2, .ownb 3 6 51 5, .own 7 36 4] 0 [10, 11, 12, 13, 14, 15, 16] hC [pq h3]
 ·obtain ⟨y4, h5, h⟩ := Ad h
  obtain ⟨y6, h7, h⟩ := Ad h
  obtain ⟨y8, h9, h⟩ := Ad h
  replace h := sI h
  subst h
  exact wr Aw6 31 [false] [pc e63 (k63 x0 x1 _ h5) [], pc Ap4 (App y4 x2 _ h7) [10, 11, 12, 13, 14, 15, 16, 17, 18], pa q51 5 h9] [] 0 [19, 20, 21, 22, 15, 25, 24] hC [pq h3]
theorem e22 : EN 22 := en Tryz.func22
def Aaj : List Nat := [0, 1, 2, 3, 4, 5, 6, 8, 9, 10, 11, 13, 14, 19, 23, 27, 38, 39, 40, 41]
def Af1 (x3 : List Ap) (n0 : Nat) (z0 : Ld) : St := [(4, dO 0 0), (5, dO 1 0), (8, .d (.p (.v (.pointer none)))), (9, dI 0), (11, dO 2 0), (38, .d (DS q49 x3)), (39, dI (ln x3)), (40, dI (cnt 0 n0))]
def Aq2 (x0 : Aa) (x1 : Bf) (n0 : Nat) (z0 : Ld) : List Res := [.box 29 (d29 x0), .box 31 (d31 x1), .box 100 [I z0.1, .os 3, .os 4, .os 5, .os 6, .os 7, .os 8, I z0.2.1, DS Bi z0.2.2.1, DS Bt (g3_ z0), DS q65 (g4_ z0), I (g5_ z0), I (g6_ z0), .os 9, .os 10], v2_ (g7_ z0), v4_ (g8_ z0), v0_ (g9_ z0), v3_ (Cj z0), v5_ (Ep z0), v1_ (E9 z0), v1_ (E1 z0), v7_ (J_ z0)]
def Asy  (z0 : Ld) : St := [(4, dO 0 0), (5, dO 1 0), (8, .d (.p (.v (.pointer none)))), (9, dI 0), (11, dO 2 0)]
def Av2 (x0 : Aa) (x1 : Bf) (z0 : Ld) : List Res := [.box 29 (d29 x0), .box 31 (d31 x1), .box 100 [I z0.1, .os 3, .os 4, .os 5, .os 6, .os 7, .os 8, I z0.2.1, DS Bi z0.2.2.1, DS Bt (g3_ z0), DS q65 (g4_ z0), I (g5_ z0), I (g6_ z0), .os 9, .os 10], v2_ (g7_ z0), v4_ (g8_ z0), v0_ (g9_ z0), v3_ (Cj z0), v5_ (Ep z0), v1_ (E9 z0), v1_ (E1 z0), v7_ (J_ z0)]
theorem k34 (x0 : Aa) (x1 : Bf) (x2 : A0) (x3 : List Ap) (r : A4 × Int) (h : F34 x0 x1 x2 x3 = some r) : CO 34 [.agg (d29 x0), .agg (d31 x1), .agg (d40 x2), .d (DS q49 x3)] [] (.tup [.d (.o 0 0), .d (I r.2)]) (.box 100 (I r.1.Av.Time :: .os 1 :: .os 2 :: .os 3 :: .os 4 :: .os 5 :: .os 6 :: zb r.1.Al [.os 7, .os 8]) :: zp r.1.Av.Power [v5_ r.1.Av.A5, v1_ r.1.Av.A7, v1_ r.1.events, v7_ r.1.states]) := by
 unfold F34 at h
 refine co 109 Tryz.func34 λ C hC => ?_
 obtain ⟨y1, h2, h⟩ := Ad h
 refine wn Aaj 29 [] [pc e21 (k21 x0 x1 x2 _ h2) []] [] 0 n3_ [3, 4, 5, 6, 8, 9, 10, 19] hC [] ?_
 rcases cB h with ⟨h3, h⟩ | ⟨h3, h⟩
 ·cases h
 ·rcases cB h with ⟨h4, h⟩ | ⟨h4, h⟩
  ·cases h
  ·rcases cB h with ⟨h5, h⟩ | ⟨h5, h⟩
   ·cases h
   ·obtain ⟨y6, h7, h⟩ := Ad h
    obtain ⟨y8, h9, h⟩ := Ad h
    refine ws Aaj 37 [false, false, false] [pl q49 x3, pc e63 (k63 x0 x2 _ h7) [], pc A64 (A6j y6 x2.Power _ h9) [3, 4, 5, 6, 7, 8, 9, 10, 11], pl q49 x3] [] 0 [0, 1, 3, 4, 5, 6, 7, 8, 9, 10, 12] (Af1 x3 0 (y8.Av.Time, zt y8.Al (zu y8.Av.Power (y8.Av.A5, y8.Av.A7, y8.events, y8.states)))) (Aq2 x0 x1 0 (y8.Av.Time, zt y8.Al (zu y8.Av.Power (y8.Av.A5, y8.Av.A7, y8.events, y8.states)))) hC [pq h3, pq h4, pq h5] ?_
    obtain ⟨w0, hm0, hret0, hnext0⟩ := As h
    clear h
    refine wc w0 (Asy) (Av2 x0 x1) ?_ λ z0 hs0 => ?_
    ·refine wb ?_
     refine Bm 38 rfl λ hl0 => ?_
     refine A8 (by kernel_rfl) Akc (Af1 x3) (Aq2 x0 x1) w0 x3 (y8.Av.Time, zt y8.Al (zu y8.Av.Power (y8.Av.A5, y8.Av.A7, y8.events, y8.states))) hm0 rfl rfl (λ z0 hn0 => ?_) λ n0 a0 z0 w0b hi0 hx0 h hb0 hr0 => ?_
     ·clear hm0
      exact wx w0 (Asy) (Av2 x0 x1) Aaj 26 [false] [] [] 0 Yi (z0.1, z0.2.1, z0.2.2.1, (g3_ z0), (g4_ z0), (g5_ z0), (g6_ z0), (g7_ z0), (g8_ z0), (g9_ z0), (Cj z0), (Ep z0), (E9 z0), (E1 z0), (J_ z0)) hC [pq (Ba hl0)] hn0
     ·unfold Akc at h
      obtain ⟨y10, h11, h⟩ := Ad h
      exact wx w0b (Af1 x3 (n0 + 1)) (Aq2 x0 x1 (n0 + 1)) Aaj 33 [true] [pt hx0 hl0, pc Ap4 (App (⟨(⟨z0.1, (⟨(g7_ z0), (g8_ z0), (g9_ z0), (Cj z0)⟩ : Ab), (Ep z0), (E9 z0)⟩ : A0), (⟨z0.2.1, z0.2.2.1, (g3_ z0), (g4_ z0), (g5_ z0), (g6_ z0)⟩ : Aa), (E1 z0), (J_ z0)⟩ : A4) a0 _ h11) [2, 3, 4, 5, 6, 7, 8, 9, 10]] [] 0 [0, 1, 2, 12, 13, 14, 15, 7, 8, 16, 17] (y10.Av.Time, zt y10.Al (zu y10.Av.Power (y10.Av.A5, y10.Av.A7, y10.events, y10.states))) hC [pq (A9 hi0 hl0)] (sI h).symm
    ·have h := hnext0 _ hs0
     obtain ⟨y12, h13, h⟩ := Ad h
     obtain ⟨y14, h15, h⟩ := Ad h
     obtain ⟨y16, h17, h⟩ := Ad h
     obtain ⟨y18, h19, h⟩ := Ad h
     refine wn Aaj 11 [] [pc A62 (A6h (⟨(⟨z0.1, (⟨(g7_ z0), (g8_ z0), (g9_ z0), (Cj z0)⟩ : Ab), (Ep z0), (E9 z0)⟩ : A0), (⟨z0.2.1, z0.2.2.1, (g3_ z0), (g4_ z0), (g5_ z0), (g6_ z0)⟩ : Aa), (E1 z0), (J_ z0)⟩ : A4) x1 _ h13) [2, 3, 4, 5, 6, 7, 8, 9, 10], ⟨.call 83 [.agg (d29 x0), .agg [.os 0, .os 1, .os 2, .os 3], dI y12.Av.Time, .agg [I 7, I 0, I 0]] (zp y12.Av.Power []) (.tup [.agg [.os 4, .os 5, .os 6, .os 7], dI y14.2]) (zp y12.Av.Power (zp y14.1 [])) [11, 12, 13, 14], ⟨e83, ((k83 x0 y12.Av.Power y12.Av.Time (⟨7, 0, 0⟩ : Ap) _ h15).lend (by kernel_rfl) (by kernel_rfl) (by kernel_rfl) ⟨Be (λ _ => rfl), Be (λ _ => rfl), Be (λ _ => rfl), Be (λ _ => rfl), trivial⟩ (by kernel_rfl) (by kernel_rfl))⟩⟩, pc A63 (A6i (⟨(⟨y12.Av.Time, y14.1, y12.Av.A5, y12.Av.A7⟩ : A0), y12.Al, y12.events, y12.states⟩ : A4) y14.1 _ h17) [2, 19, 20, 21, 22, 15, 16, 17, 18], pa q51 5 h19] [.frz 24] 0 [2, 15, 16, 17, 19, 20, 21, 22, 23] [8, 9, 11, 14] hC [] ?_
     obtain ⟨y21, h20, h⟩ := Ad h
     obtain ⟨y22, h23, h⟩ := Ad h
     replace h := sI h
     subst h
     exact wr Aaj 24 [] [pl q51 y18, ⟨.cut (y18.map q51) 5 (max 0 (w64 ((ln y18) - 200))) (ln (y18.map q51)) (y21.map q51), Alq q51 5 (λ _ => rfl) h20⟩, pc e84 (k84 y21 _ h23) []] [] 0 [0, 4, 5, 6, 7, 1, 9, 3, 8] hC []
theorem e34 : EN 34 := en Tryz.func34
def Aw7 : List Nat := [0, 1, 2, 3, 4, 5, 6, 8, 9, 10, 11, 12, 22]
theorem k11 (x0 : Aa) (x1 : Bf) (x2 : A0) (x3 : List Ap) (r : A0 × (List Bg) × Int) (h : F11 x0 x1 x2 x3 = some r) : CO 11 [.agg (d29 x0), .agg (d31 x1), .agg (d40 x2), .d (DS q49 x3)] [] (.tup [.agg [I r.1.Time, .os 0, .os 1, .os 2, .os 3, .os 4, .os 5], .d (.os 6), .d (I r.2.2)]) (zp r.1.Power [v5_ r.1.A5, v1_ r.1.A7, v1_ r.2.1]) := by
 unfold F11 at h
 refine co 33 Tryz.func11 λ C hC => ?_
 obtain ⟨y1, h2, h⟩ := Ad h
 refine wn Aw7 28 [] [pc e34 (k34 x0 x1 x2 x3 _ h2) []] [.ownb 3 1 4 1, .ownb 3 2 120 4, .ownb 3 3 3 1, .ownb 3 4 86 2, .ownb 3 5 130 2, .ownb 3 6 51 5] 0 [3, 4, 5, 6, 7, 8, 9, 10, 11, 12, 13, 14, 15, 16, 17, 18] [8, 9, 10, 11, 12, 22] hC [] ?_
 rcases cB h with ⟨h3, h⟩ | ⟨h3, h⟩
 ·replace h := sI h
  subst h
  exact wr Aw7 24 [true] [] [.ownb 0 1 4 1, .ownb 0 2 120 4, .ownb 0 3 3 1, .ownb 0 4 86 2, .ownb 0 5 130 2, .ownb 0 6 51 5, .own 9 51 5] 0 [16, 17, 18, 19, 20, 21, 22] hC [pq h3]
 ·replace h := sI h
  subst h
  exact wr Aw7 25 [false] [] [] 0 [2, 3, 4, 5, 6, 7, 8] hC [pq h3]
theorem e11 : EN 11 := en Tryz.func11
end Go.Proofs.YthgnbpdjncbkfaaGreat
