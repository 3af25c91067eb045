import Derived.Test.YthgnbpdjncbkfaaGreatM1
set_option linter.unusedVariables false
set_option maxHeartbeats 4000000
namespace Go.Proofs.YthgnbpdjncbkfaaGreat
open Go.SL
def Eb : List Nat := [0, 1, 2, 3, 4, 5, 6, 7, 8, 9, 10, 11, 12, 13, 14, 18, 25, 26, 27, 28, 47, 48, 49, 58, 80, 81, 82, 91]
def X_ (y4 : (List Int)) (n0 : Nat) (z0 : (List Ai)) : St := [(2, dO 4 0), (3, dO 5 0), (4, .d (DS q84 [])), (5, dS 6), (6, dS 7), (25, dS 6), (26, dI (ln y4)), (27, dI (cnt 0 n0))]
def Aao (x0 : Aa) (x1 : Ab) (y4 : (List Int)) (n0 : Nat) (z0 : (List Ai)) : List Res := (zp x1 [.box 29 (d29 x0), .box 36 [.os 0, .os 1, .os 2, .os 3], v0_ y4, .dsl 84 3 8, .gh 3 [(3, 1), (3, 1), (3, 1)] (z0.map q84) none])
def Agp  (z0 : (List Ai)) : St := [(2, dO 4 0), (3, dO 5 0), (4, .d (DS q84 [])), (5, dS 6), (6, dS 7)]
def Ajg (x0 : Aa) (x1 : Ab) (y4 : (List Int)) (z0 : (List Ai)) : List Res := (zp x1 [.box 29 (d29 x0), .box 36 [.os 0, .os 1, .os 2, .os 3], v0_ y4, .dsl 84 3 8, .gh 3 [(3, 1), (3, 1), (3, 1)] (z0.map q84) none])
def Qk (x0 : Aa) (z1 : Int × (List Ai)) : St := [(2, dO 4 0), (3, dO 5 0), (4, .d (DS q84 [])), (5, dS 6), (6, dS 7), (47, dI (ln x0.Ac)), (48, dI z1.1)]
def W8 (x0 : Aa) (x1 : Ab) (y4 : (List Int)) (z1 : Int × (List Ai)) : List Res := (zp x1 [.box 29 (d29 x0), .box 36 [.os 0, .os 1, .os 2, .os 3], v0_ y4, .dsl 84 3 8, .gh 3 [(3, 1), (3, 1), (3, 1)] (z1.2.map q84) none])
def Ago  (z1 : Int × (List Ai)) : St := [(2, dO 4 0), (3, dO 5 0), (4, .d (DS q84 [])), (5, dS 6), (6, dS 7)]
def Ajf (x0 : Aa) (x1 : Ab) (y4 : (List Int)) (z1 : Int × (List Ai)) : List Res := (zp x1 [.box 29 (d29 x0), .box 36 [.os 0, .os 1, .os 2, .os 3], v0_ y4, .dsl 84 3 8, .gh 3 [(3, 1), (3, 1), (3, 1)] (z1.2.map q84) none])
def Qj (x0 : Aa) (z2 : Int × (List Ai)) : St := [(2, dO 4 0), (3, dO 5 0), (4, .d (DS q84 [])), (5, dS 6), (6, dS 7), (80, dI (ln x0.Af)), (81, dI z2.1)]
def W7 (x0 : Aa) (x1 : Ab) (y4 : (List Int)) (z2 : Int × (List Ai)) : List Res := (zp x1 [.box 29 (d29 x0), .box 36 [.os 0, .os 1, .os 2, .os 3], v0_ y4, .dsl 84 3 8, .gh 3 [(3, 1), (3, 1), (3, 1)] (z2.2.map q84) none])
def Agn  (z2 : Int × (List Ai)) : St := [(4, .d (DS q84 [])), (6, dS 4)]
def Aje (x1 : Ab) (z2 : Int × (List Ai)) : List Res := (zp x1 [.dsl 84 3 5, .gh 3 [(3, 1), (3, 1), (3, 1)] (z2.2.map q84) none])
theorem A09 (x0 : Aa) (x1 : Ab) (r : (List Ai)) (h : Afo x0 x1 = some r) : CO 89 [.agg (d29 x0), .agg [.os 0, .os 1, .os 2, .os 3]] (zp x1 []) (.d (.os 4)) (zp x1 [v8_ r]) := by
 unfold Afo at h
 refine co 113 Tryz.func89 λ C hC => ?_
 obtain ⟨y1, h2, h⟩ := Ax h
 refine wn Eb 26 [] [pb e43 (k43 x0 x1 _ h2)] [] 4 n6_ [2, 3, 4, 18] hC [] ?_
 rcases cB h with ⟨h3, h⟩ | ⟨h3, h⟩
 ·replace h := sI h
  subst h
  exact wr Eb 24 [true] [] [.own 4 84 3] 4 [0, 1, 2, 3, 6] hC [pq h3]
 ·obtain ⟨y4, h5, y6, h7, h⟩ := Bc h
  refine ws Eb 30 [false] [⟨.call 142 [.agg (d29 x0), .agg [.os 0, .os 1, .os 2, .os 3]] (zp x1 []) (dS 4) (zp x1 [v0_ y4]) n4_, ⟨A7d, ((A5g x0 x1 _ h5).lend (by kernel_rfl) (by kernel_rfl) (by kernel_rfl) ⟨Ba (λ _ => rfl), trivial⟩ (by kernel_rfl) (by kernel_rfl))⟩⟩, ⟨.roomZ (x0.Al * (72 + 1)) (List.replicate (Int.toNat x0.Al) (q84 (⟨([] : List Int), ([] : List Int), ([] : List Int)⟩ : Ai))) (y6.map q84), Tr h7⟩, pl pI y4] [.deep 7 [(3, 1), (3, 1), (3, 1)]] 4 n9_ (X_ y4 0 y6) (Aao x0 x1 y4 0 y6) hC [pq h3] ?_
  obtain ⟨w0, hm0, hret0, hnext0⟩ := Ar h
  clear h
  refine wc w0 (Agp) (Ajg x0 x1 y4) ?_ λ z0 hs0 => ?_
  ·refine wb ?_
   refine Co 25 6 rfl rfl λ hl0 => ?_
   refine wl (X_ y4) (Aao x0 x1 y4) hm0 (λ z0 hn0 => ?_) λ n0 a0 z0 w0b hi0 hx0 h hb0 hr0 => ?_
   ·clear hm0
    exact wx w0 (Agp) (Ajg x0 x1 y4) Eb 26 [false] [] [] 4 n9_ _ hC [pq (Be hl0)] hn0
   ·unfold Akm at h
    obtain ⟨y8, h9, y10, h11, y12, h13, h⟩ := B0 h
    exact wx w0b (X_ y4 (n0 + 1)) (Aao x0 x1 y4 (n0 + 1)) Eb 33 [true] [pr pI (Bp hx0 hl0), pn pI (Bp hx0 hl0), pr q84 h9, pn q84 h9, ⟨.appD (z0.map q84) (Int.toNat a0) (q84 y8) 0 (y8.Al.map pI) ([cnt 0 n0].map pI) 1 (((y8.Al.map pI).length + ([cnt 0 n0].map pI).length) * (8 + 1)) (y10.map pI), I2 1 (λ _ => rfl) h9 rfl h11⟩, pr q84 h9, ⟨.updD (z0.map q84) (Int.toNat a0) (Int.toNat a0) (q84 y8) (q84 (⟨y10, y8.Ac, y8.Af⟩ : Ai)) (y12.map q84), Iw h9 h13⟩] [] 4 [0, 1, 2, 3, 4, 5, 6, 7, 12] _ hC [pq (A9 hi0 hl0)] (sI h).symm
  ·have h := hnext0 _ hs0
   refine ws Eb 24 [] [pl Br x0.Ac] [] 4 n9_ (Qk x0 (0, z0)) (W8 x0 x1 y4 (0, z0)) hC [] ?_
   obtain ⟨w1, hm1, hret1, hnext1⟩ := Ar h
   clear h
   refine wc w1 (Ago) (Ajf x0 x1 y4) ?_ λ z1 hs1 => ?_
   ·refine wb ?_
    refine ww (Qk x0) (W8 x0 x1 y4) hm1 λ z1 w1b h hb1 hr1 => ?_
    unfold Akl at h
    rcases cB h with ⟨h14, h⟩ | ⟨h14, h⟩
    ·obtain ⟨y15, h16, h⟩ := Ax h
     refine wn Eb 34 [true] [pb Azu (Azb x0 x1 z1.1 _ h16)] [] 4 n9_ [2, 3, 4, 5, 6, 9, 10, 47, 48, 58] hC [pq h14] ?_
     rcases cB h with ⟨h17, h⟩ | ⟨h17, h⟩
     ·obtain ⟨y18, h19, y20, h21, y22, h23, y24, h25, h⟩ := Cn h
      exact wx w1b (Qk x0) (W8 x0 x1 y4) Eb 25 [true] [pr pI h19, pn pI h19, pr pI h19, pn pI h19, pr q84 h21, pn q84 h21, ⟨.appD (z1.2.map q84) (Int.toNat y18) (q84 y20) 1 (y20.Ac.map pI) ([z1.1].map pI) 1 (((y20.Ac.map pI).length + ([z1.1].map pI).length) * (8 + 1)) (y22.map pI), I2 1 (λ _ => rfl) h21 rfl h23⟩, pr q84 h21, ⟨.updD (z1.2.map q84) (Int.toNat y18) (Int.toNat y18) (q84 y20) (q84 (⟨y20.Al, y22, y20.Af⟩ : Ai)) (y24.map q84), Iw h21 h25⟩] [] 4 [0, 1, 2, 3, 4, 5, 6, 7, 12] _ hC [pq h17] (sI h).symm
     ·exact wx w1b (Qk x0) (W8 x0 x1 y4) Eb 25 [false] [] [] 4 n9_ _ hC [pq h17] (sI h).symm
    ·exact wx w1 (Ago) (Ajf x0 x1 y4) Eb 26 [false] [] [] 4 n9_ (z1.1, z1.2) hC [pq h14] (hb1 _ (sI h).symm)
   ·have h := hnext1 _ hs1
    refine ws Eb 24 [] [pl q65 x0.Af] [] 4 n9_ (Qj x0 (0, z1.2)) (W7 x0 x1 y4 (0, z1.2)) hC [] ?_
    obtain ⟨w2, hm2, hret2, hnext2⟩ := Ar h
    clear h
    refine wc w2 (Agn) (Aje x1) ?_ λ z2 hs2 => ?_
    ·refine wb ?_
     refine ww (Qj x0) (W7 x0 x1 y4) hm2 λ z2 w2b h hb2 hr2 => ?_
     unfold Akk at h
     rcases cB h with ⟨h26, h⟩ | ⟨h26, h⟩
     ·obtain ⟨y27, h28, h⟩ := Ax h
      refine wn Eb 34 [true] [pb Azt (Aza x0 x1 z2.1 _ h28)] [] 4 n9_ [2, 3, 4, 5, 6, 12, 13, 80, 81, 91] hC [pq h26] ?_
      rcases cB h with ⟨h29, h⟩ | ⟨h29, h⟩
      ·obtain ⟨y30, h31, y32, h33, y34, h35, y36, h37, h⟩ := Cn h
       exact wx w2b (Qj x0) (W7 x0 x1 y4) Eb 25 [true] [pr pI h31, pn pI h31, pr pI h31, pn pI h31, pr q84 h33, pn q84 h33, ⟨.appD (z2.2.map q84) (Int.toNat y30) (q84 y32) 2 (y32.Af.map pI) ([z2.1].map pI) 1 (((y32.Af.map pI).length + ([z2.1].map pI).length) * (8 + 1)) (y34.map pI), I2 1 (λ _ => rfl) h33 rfl h35⟩, pr q84 h33, ⟨.updD (z2.2.map q84) (Int.toNat y30) (Int.toNat y30) (q84 y32) (q84 (⟨y32.Al, y32.Ac, y34⟩ : Ai)) (y36.map q84), Iw h33 h37⟩] [] 4 [0, 1, 2, 3, 4, 5, 6, 7, 12] _ hC [pq h29] (sI h).symm
      ·exact wx w2b (Qj x0) (W7 x0 x1 y4) Eb 25 [false] [] [] 4 n9_ _ hC [pq h29] (sI h).symm
     ·exact wx w2 (Agn) (Aje x1) Eb 26 [false] [] [] 4 [0, 1, 2, 3, 7, 8] (z2.1, z2.2) hC [pq h26] (hb2 _ (sI h).symm)
    ·have h := hnext2 _ hs2
     refine wn Eb 1 [] [] [.flat 4] 4 n5_ [4, 6] hC [] ?_
     obtain ⟨y38, h39, h⟩ := Ax h
     replace h := sI h
     subst h
     exact wr Eb 22 [] [pc Avx (Au3 z2.2 _ h39) [4]] [] 4 [0, 1, 2, 3, 5] hC []
theorem A1f : EN 89 := en Tryz.func89
def F4 : List Nat := [0, 1, 2, 3, 4, 5, 6, 7, 8, 9, 10, 11, 12, 13, 14, 15, 16, 17, 19, 30, 33, 34, 35, 39, 75, 87, 91, 102, 115]
def Age (x0 : Aa) (z0 : Int) : St := [(3, dO 0 0), (4, dO 1 0), (5, dO 2 0), (6, dB false), (33, dI (ln x0.Ac)), (34, dI z0)]
def Ash (x0 : Aa) (x1 : Ab) (x2 : Ab) (z0 : Int) : List Res := [.box 29 (d29 x0), .box 36 (d36 x1), .box 36 (d36 x2)]
def Aui  (z0 : Int) : St := [(6, dB false)]
def Axs  (z0 : Int) : List Res := []
def Mw (x0 : Aa) (z0 : Int) (z1 : Int) : St := [(3, dO 0 0), (4, dO 1 0), (5, dO 2 0), (6, dB false), (7, dI z0), (8, dI z1), (33, dI (ln x0.Ac)), (34, dI z0)]
def Rm (x0 : Aa) (x1 : Ab) (x2 : Ab) (z1 : Int) : List Res := [.box 29 (d29 x0), .box 36 (d36 x1), .box 36 (d36 x2)]
def Auh (x0 : Aa) (z0 : Int) (z1 : Int) : St := [(3, dO 0 0), (4, dO 1 0), (5, dO 2 0), (6, dB false), (33, dI (ln x0.Ac)), (34, dI z0)]
def Axr (x0 : Aa) (x1 : Ab) (x2 : Ab) (z1 : Int) : List Res := [.box 29 (d29 x0), .box 36 (d36 x1), .box 36 (d36 x2)]
theorem k20 (x0 : Aa) (x1 : Ab) (x2 : Ab) (r : Bool) (h : F20 x0 x1 x2 = some r) : CO 20 [.agg (d29 x0), .agg (d36 x1), .agg (d36 x2)] [] (.d (Bo r)) [] := by
 unfold F20 at h
 refine co 117 Tryz.func20 λ C hC => ?_
 obtain ⟨y1, h2, y3, h4, h⟩ := Bc h
 refine wn F4 26 [] [pc e53 (k53 x0 x1 _ h2) [], pw e53 (λ hg => k53 x0 x2 _ (Bb h4 hg)) []] [] 0 n3_ [3, 4, 5, 6, 30] hC [] ?_
 rcases cB h with ⟨h5, h⟩ | ⟨h5, h⟩
 ·replace h := sI h
  subst h
  exact wr F4 24 [true] [] [] 0 [] hC [pq h5]
 ·refine ws F4 26 [false] [pl Br x0.Ac] [] 0 n3_ (Age x0 0) (Ash x0 x1 x2 0) hC [pq h5] ?_
  obtain ⟨w0, hm0, hret0, hnext0⟩ := Ar h
  clear h
  refine wc w0 (Aui) (Axs) ?_ λ z0 hs0 => ?_
  ·refine wb ?_
   refine ww (Age x0) (Ash x0 x1 x2) hm0 λ z0 w0b h hb0 hr0 => ?_
   unfold Ale at h
   rcases cB h with ⟨h6, h⟩ | ⟨h6, h⟩
   ·refine ws F4 32 [true] [] [] 0 n3_ (Mw x0 z0 0) (Rm x0 x1 x2 0) hC [pq h6] ?_
    obtain ⟨w1, hm1, hret1, hnext1⟩ := Ar h
    clear h
    refine wc w1 (Auh x0 z0) (Axr x0 x1 x2) ?_ λ z1 hs1 => ?_
    ·refine wb ?_
     refine ww (Mw x0 z0) (Rm x0 x1 x2) hm1 λ z1 w1b h hb1 hr1 => ?_
     unfold Ald at h
     rcases cB h with ⟨h7, h⟩ | ⟨h7, h⟩
     ·obtain ⟨y8, h9, y10, h11, y12, h13, y14, h15, h⟩ := Cn h
      refine wn F4 39 [true] [pc e27 (k27 x0 x1 z0 _ h9) [], pc e27 (k27 x0 x1 z1 _ h11) [], pc e27 (k27 x0 x2 z0 _ h13) [], pc e27 (k27 x0 x2 z1 _ h15) []] [] 0 n3_ [3, 4, 5, 6, 7, 8, 9, 10, 11, 12, 13, 15, 33, 34, 75] hC [pq h7] ?_
      rcases cB h with ⟨h16, h⟩ | ⟨h16, h⟩
      ·exact wx w1b (Mw x0 z0) (Rm x0 x1 x2) F4 24 [true] [] [] 0 n3_ _ hC [pq h16] (sI h).symm
      ·obtain ⟨y17, h18, y19, h20, h⟩ := Bc h
       refine wn F4 28 [false] [pc e54 (k54 x0 x2 y12.1 _ h18) [], pb e55 (k55 y17.1.Al y14.1 _ h20)] [] 0 n3_ [3, 4, 5, 6, 7, 8, 9, 10, 11, 12, 33, 34, 87] hC [pq h16] ?_
       rcases cB h with ⟨h21, h⟩ | ⟨h21, h⟩
       ·exact wx w1b (Mw x0 z0) (Rm x0 x1 x2) F4 24 [true] [] [] 0 n3_ _ hC [pq h21] (sI h).symm
       ·rcases cB h with ⟨h22, h⟩ | ⟨h22, h⟩
        ·obtain ⟨y23, h24, y25, h26, h⟩ := Bc h
         refine wn F4 31 [false, true] [pc e54 (k54 x0 x1 y8.1 _ h24) [], pb e55 (k55 y23.1.Al y10.1 _ h26)] [] 0 n3_ [3, 4, 5, 6, 7, 8, 33, 34, 102] hC [pq h21, pq h22] ?_
         rcases cB h with ⟨h27, h⟩ | ⟨h27, h⟩
         ·exact wx w1b (Mw x0 z0) (Rm x0 x1 x2) F4 24 [true] [] [] 0 n3_ _ hC [pq h27] (sI h).symm
         ·obtain ⟨y28, h29, y30, h31, h⟩ := Bc h
          refine wn F4 25 [false] [pr A_ h29, pr A_ h31, pc e56 (k56 x0 y28 y30 _ rfl) []] [] 0 n3_ [3, 4, 5, 6, 7, 8, 33, 34, 115] hC [pq h27] ?_
          rcases cB h with ⟨h32, h⟩ | ⟨h32, h⟩
          ·have hq := hret1 _ (hr1 _ (sI h).symm)
           replace hq := hret0 _ (hr0 _ (sI hq).symm)
           replace hq := sI hq
           subst hq
           exact wr F4 24 [true] [] [] 0 [] hC [pq h32]
          ·exact wx w1b (Mw x0 z0) (Rm x0 x1 x2) F4 25 [false] [] [] 0 n3_ _ hC [pq h32] (sI h).symm
        ·obtain ⟨y33, h34, y35, h36, h⟩ := Bc h
         refine wn F4 30 [false, false] [pr A_ h34, pr A_ h36, pc e56 (k56 x0 y33 y35 _ rfl) []] [] 0 n3_ [3, 4, 5, 6, 7, 8, 33, 34, 115] hC [pq h21, pq h22] ?_
         rcases cB h with ⟨h37, h⟩ | ⟨h37, h⟩
         ·have hq := hret1 _ (hr1 _ (sI h).symm)
          replace hq := hret0 _ (hr0 _ (sI hq).symm)
          replace hq := sI hq
          subst hq
          exact wr F4 24 [true] [] [] 0 [] hC [pq h37]
         ·exact wx w1b (Mw x0 z0) (Rm x0 x1 x2) F4 25 [false] [] [] 0 n3_ _ hC [pq h37] (sI h).symm
     ·exact wx w1 (Auh x0 z0) (Axr x0 x1 x2) F4 26 [false] [] [] 0 n3_ z1 hC [pq h7] (hb1 _ (sI h).symm)
    ·have h := hnext1 _ hs1
     exact wx w0b (Age x0) (Ash x0 x1 x2) F4 23 [] [] [] 0 n3_ _ hC [] (sI h).symm
   ·exact wx w0 (Aui) (Axs) F4 26 [false] [] [] 0 [] z0 hC [pq h6] (hb0 _ (sI h).symm)
  ·have h := hnext0 _ hs0
   replace h := sI h
   subst h
   exact wr F4 23 [] [] [] 0 [] hC []
theorem e20 : EN 20 := en Tryz.func20
theorem k94 (x0 : By) (r : Bool) (h : F94 x0 = some r) : CO 94 [.agg (d63 x0)] [] (.d (Bo r)) [] := by
 unfold F94 at h
 refine co 38 Tryz.func94 λ C hC => ?_
 obtain ⟨y1, h2, h⟩ := Ax h
 replace h := sI h
 subst h
 exact wr n3_ 25 [] [pc Aim (Aht x0.Kind 1 3 _ rfl) [], ⟨.when [(Dq x0.Kind 1 3, true)] (.call 148 [dI x0.Station, dI 0, dI 1] [] (dB (Dq x0.Station 0 1)) [] []), λ hg => ⟨Aim, (Aht x0.Station 0 1 _ rfl)⟩⟩, ⟨.when [(((Dq x0.Kind 1 3) && (Dq x0.Station 0 1)), true)] (.call 148 [dI x0.Max, dI 0, dI 5000] [] (dB (Dq x0.Max 0 5000)) [] []), λ hg => ⟨Aim, (Aht x0.Max 0 5000 _ rfl)⟩⟩, ⟨.when [((((Dq x0.Kind 1 3) && (Dq x0.Station 0 1)) && (Dq x0.Max 0 5000)), true)] (.call 148 [dI x0.Rate, dI 0, dI 5000] [] (dB (Dq x0.Rate 0 5000)) [] []), λ hg => ⟨Aim, (Aht x0.Rate 0 5000 _ rfl)⟩⟩, ⟨.when [(((((Dq x0.Kind 1 3) && (Dq x0.Station 0 1)) && (Dq x0.Max 0 5000)) && (Dq x0.Rate 0 5000)), true)] (.call 148 [dI x0.Cost, dI 1, dI 100] [] (dB (Dq x0.Cost 1 100)) [] []), λ hg => ⟨Aim, (Aht x0.Cost 1 100 _ rfl)⟩⟩, pL_ [((((((Dq x0.Kind 1 3) && (Dq x0.Station 0 1)) && (Dq x0.Max 0 5000)) && (Dq x0.Rate 0 5000)) && (Dq x0.Cost 1 100)), true)] Yi x0.Hr, pw A7a (λ hg => A5d x0.Hr _ (Bb h2 hg)) []] [] 0 [] hC []
theorem e94 : EN 94 := en Tryz.func94
def Q0 : List Nat := [0, 1, 2, 3, 4, 5, 7, 9, 14, 15, 16, 17, 21, 22, 23, 24]
def yW (y3 : (List Ai)) (n0 : Nat) (z0 : (List Ae)) : St := [(3, dO 0 0), (4, dO 1 0), (5, dO 6 0), (14, dS 7), (15, dI (ln y3)), (16, dI (cnt 0 n0))]
def Akd (x1 : Ab) (y1 : Ab) (y3 : (List Ai)) (n0 : Nat) (z0 : (List Ae)) : List Res := (.box 36 (d36 x1) :: .box 36 [.os 8, .os 9, .os 10, .os 11] :: v2_ y1.Ag :: v5_ z0 :: v0_ y1.Aq :: v4_ y1.Ao :: .box 36 [.os 2, .os 3, .os 4, .os 5] :: v8_ y3 :: ze [])
def Anq  (z0 : (List Ae)) : St := [(4, dO 0 0), (5, dO 5 0)]
def Apj (y1 : Ab) (z0 : (List Ae)) : List Res := (.box 36 [.os 6, .os 7, .os 8, .os 9] :: v2_ y1.Ag :: v5_ z0 :: v0_ y1.Aq :: v4_ y1.Ao :: .box 36 [.os 1, .os 2, .os 3, .os 4] :: ze [])
def yV (y3 : (List Ai)) (n0 : Nat) (a0 : Ai) (n1 : Nat) (z1 : (List Ae)) : St := [(3, dO 0 0), (4, dO 1 0), (5, dO 6 0), (7, dO 12 0), (14, dS 7), (15, dI (ln y3)), (16, dI (cnt 0 n0)), (21, .d (DS pI a0.Ac)), (22, dI (ln a0.Ac)), (23, dI (cnt 0 n1))]
def Akc (x1 : Ab) (y1 : Ab) (y3 : (List Ai)) (a0 : Ai) (n1 : Nat) (z1 : (List Ae)) : List Res := (.box 36 (d36 x1) :: .box 36 [.os 8, .os 9, .os 10, .os 11] :: v2_ y1.Ag :: v5_ z1 :: v0_ y1.Aq :: v4_ y1.Ao :: .box 36 [.os 2, .os 3, .os 4, .os 5] :: v8_ y3 :: ze [.box 84 (d84 a0)])
def Anp (y3 : (List Ai)) (n0 : Nat) (z1 : (List Ae)) : St := [(3, dO 0 0), (4, dO 1 0), (5, dO 6 0), (14, dS 7), (15, dI (ln y3)), (16, dI (cnt 0 n0))]
def Api (x1 : Ab) (y1 : Ab) (y3 : (List Ai)) (z1 : (List Ae)) : List Res := (.box 36 (d36 x1) :: .box 36 [.os 8, .os 9, .os 10, .os 11] :: v2_ y1.Ag :: v5_ z1 :: v0_ y1.Aq :: v4_ y1.Ao :: .box 36 [.os 2, .os 3, .os 4, .os 5] :: v8_ y3 :: ze [])
theorem Baf (x0 : Aa) (x1 : Ab) (r : Ab) (h : As6 x0 x1 = some r) : CO 127 [.agg (d29 x0), .agg (d36 x1)] [] (.agg [.os 0, .os 1, .os 2, .os 3]) (zp r []) := by
 unfold As6 at h
 refine co 58 Tryz.func127 λ C hC => ?_
 obtain ⟨y1, h2, y3, h4, h⟩ := Bc h
 refine ws Q0 28 [] [pc e65 (k65 x1 _ h2) [], pc e25 (k25 x0 x1 _ h4) [], pl q84 y3] [.ownb 2 0 4 1, .ownb 2 1 120 4, .ownb 2 2 3 1, .ownb 2 3 86 2] 0 [1, 2, 3, 4, 5, 6, 7, 8, 9, 10, 11, 12] (yW y3 0 y1.Ac) (Akd x1 y1 y3 0 y1.Ac) hC [] ?_
 obtain ⟨w0, hm0, hret0, hnext0⟩ := Ar h
 clear h
 refine wc w0 (Anq) (Apj y1) ?_ λ z0 hs0 => ?_
 ·refine wb ?_
  refine Co 14 7 rfl rfl λ hl0 => ?_
  refine wl (yW y3) (Akd x1 y1 y3) hm0 (λ z0 hn0 => ?_) λ n0 a0 z0 w0b hi0 hx0 h hb0 hr0 => ?_
  ·clear hm0
   exact wx w0 (Anq) (Apj y1) Q0 26 [false] [] [] 0 [1, 2, 3, 4, 5, 6, 8, 9, 10, 11] _ hC [pq (Be hl0)] hn0
  ·unfold Abf at h
   refine ws Q0 32 [true] [pr q84 (Bp hx0 hl0), pn q84 (Bp hx0 hl0), pl pI a0.Ac] [] 0 Ij (yV y3 n0 a0 0 z0) (Akc x1 y1 y3 a0 0 z0) hC [pq (A9 hi0 hl0)] ?_
   obtain ⟨w1, hm1, hret1, hnext1⟩ := Ar h
   clear h
   refine wc w1 (Anp y3 n0) (Api x1 y1 y3) ?_ λ z1 hs1 => ?_
   ·refine wb ?_
    refine Bn 21 rfl λ hl1 => ?_
    refine wl (yV y3 n0 a0) (Akc x1 y1 y3 a0) hm1 (λ z1 hn1 => ?_) λ n1 a1 z1 w1b hi1 hx1 h hb1 hr1 => ?_
    ·clear hm1
     exact wx w1 (Anp y3 n0) (Api x1 y1 y3) Q0 26 [false] [] [] 0 Ft _ hC [pq (Be hl1)] hn1
    ·unfold Abe at h
     obtain ⟨y5, h6, y7, h8, y9, h10, y11, h12, h⟩ := Cn h
     obtain ⟨y13, h14, y15, h16, y17, h18, y19, h20, h⟩ := Cn h
     exact wx w1b (yV y3 n0 a0 (n1 + 1)) (Akc x1 y1 y3 a0 (n1 + 1)) Q0 33 [true] [pt hx1 hl1, pr pI h6, pr A_ h8, pr pI h10, pr A_ h12, pr A_ h14, pu A_ h14 h16, pr A_ h18, pu A_ h18 h20] [] 0 Ij _ hC [pq (A9 hi1 hl1)] (sI h).symm
   ·have h := hnext1 _ hs1
    exact wx w0b (yW y3 (n0 + 1)) (Akd x1 y1 y3 (n0 + 1)) Q0 23 [] [] [] 0 Ft _ hC [] (sI h).symm
 ·have h := hnext0 _ hs0
  replace h := sI h
  subst h
  exact wr Q0 23 [] [] [] 0 [1, 2, 3, 4] hC []
theorem Bbw : EN 127 := en Tryz.func127
def Tt : List Nat := [0, 1, 2, 3, 4, 5, 6, 7, 9, 14, 21, 22, 23, 24, 30]
def jN (y6 : (List Ai)) (n0 : Nat) (z0 : (List Ae)) : St := [(3, dO 0 0), (4, dO 1 0), (5, dI 0), (7, dO 10 0), (21, dS 11), (22, dI (ln y6)), (23, dI (cnt 0 n0))]
def Afg (x1 : Ab) (y4 : Ab) (y6 : (List Ai)) (n0 : Nat) (z0 : (List Ae)) : List Res := (.box 36 (d36 x1) :: .box 36 [.os 2, .os 3, .os 4, .os 5] :: ze [v2_ y4.Ag, v5_ z0, v0_ y4.Aq, v4_ y4.Ao, .box 36 [.os 6, .os 7, .os 8, .os 9], v8_ y6])
def Aty  (z0 : (List Ae)) : St := [(4, dO 0 0), (5, dI 0), (7, dO 9 0)]
def Aw8 (y4 : Ab) (z0 : (List Ae)) : List Res := (.box 36 [.os 1, .os 2, .os 3, .os 4] :: ze [v2_ y4.Ag, v5_ z0, v0_ y4.Aq, v4_ y4.Ao, .box 36 [.os 5, .os 6, .os 7, .os 8]])
theorem k57 (x0 : Aa) (x1 : Ab) (r : Ab × Int) (h : F57 x0 x1 = some r) : CO 57 [.agg (d29 x0), .agg (d36 x1)] [] (.tup [.agg [.os 0, .os 1, .os 2, .os 3], .d (I r.2)]) (zp r.1 []) := by
 unfold F57 at h
 refine co 45 Tryz.func57 λ C hC => ?_
 obtain ⟨y1, h2, h⟩ := Ax h
 refine wn Tt 28 [] [pc e43 (k43 x0 x1 _ h2) []] [.ownb 2 0 4 1, .ownb 2 1 120 4, .ownb 2 2 3 1, .ownb 2 3 86 2] 0 n7_ [2, 3, 4, 5, 6, 14] hC [] ?_
 rcases cB h with ⟨h3, h⟩ | ⟨h3, h⟩
 ·replace h := sI h
  subst h
  exact wr Tt 24 [true] [] [.ownb 2 0 4 1, .ownb 2 1 120 4, .ownb 2 2 3 1, .ownb 2 3 86 2] 0 [7, 8, 9, 10] hC [pq h3]
 ·obtain ⟨y4, h5, y6, h7, h⟩ := Bc h
  refine ws Tt 28 [false] [pc Lp (Ll x1 _ h5) [], pc e89 (k89 x0 x1 _ h7) [], pl q84 y6] [] 0 [1, 2, 3, 4, 5, 6, 7, 8, 9, 10, 11, 12] (jN y6 0 y4.Ac) (Afg x1 y4 y6 0 y4.Ac) hC [pq h3] ?_
  obtain ⟨w0, hm0, hret0, hnext0⟩ := Ar h
  clear h
  refine wc w0 (Aty) (Aw8 y4) ?_ λ z0 hs0 => ?_
  ·refine wb ?_
   refine Co 21 11 rfl rfl λ hl0 => ?_
   refine wl (jN y6) (Afg x1 y4 y6) hm0 (λ z0 hn0 => ?_) λ n0 a0 z0 w0b hi0 hx0 h hb0 hr0 => ?_
   ·clear hm0
    exact wx w0 (Aty) (Aw8 y4) Tt 26 [false] [] [] 0 [1, 2, 3, 4, 5, 6, 7, 8, 9, 10] _ hC [pq (Be hl0)] hn0
   ·unfold Aks at h
    refine wn Tt 32 [true] [pr q84 (Bp hx0 hl0), pn q84 (Bp hx0 hl0), pl pI a0.Ac] [] 0 Ij [3, 4, 5, 7, 9, 21, 22, 23, 30] hC [pq (A9 hi0 hl0)] ?_
    rcases cB h with ⟨h8, h⟩ | ⟨h8, h⟩
    ·obtain ⟨y9, h10, y11, h12, y13, h14, h⟩ := B0 h
     exact wx w0b (jN y6 (n0 + 1)) (Afg x1 y4 y6 (n0 + 1)) Tt 25 [true] [pr pI h10, pr A_ h12, pc Ain (Ahu (⟨y4.Ag, z0, y4.Aq, y4.Ao⟩ : Ab) a0.Ac y11 _ h14) [6, 7, 8, 9]] [] 0 Ft _ hC [pq h8] (sI h).symm
    ·exact wx w0b (jN y6 (n0 + 1)) (Afg x1 y4 y6 (n0 + 1)) Tt 25 [false] [] [] 0 Ft _ hC [pq h8] (sI h).symm
  ·have h := hnext0 _ hs0
   replace h := sI h
   subst h
   exact wr Tt 23 [] [] [] 0 [5, 6, 7, 8] hC []
theorem e57 : EN 57 := en Tryz.func57
def qC : List Nat := [0, 1, 2, 3, 4, 6, 7, 9, 30, 32, 33, 40]
theorem A_g (x0 : Aa) (x1 : Ab) (x2 : Int) (r : Bool) (h : Alb x0 x1 x2 = some r) : CO 237 [.agg (d29 x0), .agg (d36 x1), .d (I x2)] [] (.d (Bo r)) [] := by
 unfold Alb at h
 refine co 74 Tryz.func237 λ C hC => ?_
 obtain ⟨y1, h2, y3, h4, y5, h6, y7, h8, h⟩ := Cn h
 refine wn qC 28 [] [pr Bi h2, pr pB h4, pw Kj (λ hg => Kf x1 2 x2 _ (Bb h6 hg)) [], pw Kj (λ hg => Kf x1 3 y1.A _ (Bb h8 hg)) []] [] 0 n3_ [3, 4, 6, 7, 30] hC [] ?_
 rcases cB h with ⟨h9, h⟩ | ⟨h9, h⟩
 ·replace h := sI h
  subst h
  exact wr qC 24 [true] [] [] 0 [] hC [pq h9]
 ·rcases cB h with ⟨h10, h⟩ | ⟨h10, h⟩
  ·obtain ⟨y11, h12, h⟩ := Ax h
   replace h := sI h
   subst h
   exact wr qC 32 [false, true] [pc Kj (Kf x1 3 y1.B _ h12) []] [] 0 [] hC [pq h9, pq h10]
  ·rcases cB h with ⟨h13, h⟩ | ⟨h13, h⟩
   ·obtain ⟨y14, h15, y16, h17, h⟩ := Bc h
    replace h := sI h
    subst h
    exact wr qC 35 [false, false, true] [pc Kj (Kf x1 1 y1.B _ h15) [], pR A_ h17] [] 0 [] hC [pq h9, pq h10, pq h13]
   ·obtain ⟨y18, h19, y20, h21, h⟩ := Bc h
    replace h := sI h
    subst h
    exact wr qC 39 [false, false, false] [pc A7p (A5s x0 x1 y1.B _ h19) [], pc Kj (Kf x1 4 y1.B _ h21) []] [] 0 [] hC [pq h9, pq h10, pq h13]
theorem Bax : EN 237 := en Tryz.func237
def Wh : List Nat := [0, 1, 2, 3, 4, 6, 7, 9, 12, 13, 14, 15, 21]
def yP (x2 : Int) (y1 : (List Ai)) (n0 : Nat) (z0 : Unit) : St := [(2, dI x2), (6, dO 0 0), (7, dB false), (12, dS 1), (13, dI (ln y1)), (14, dI (cnt 0 n0))]
def Aj6 (y1 : (List Ai)) (n0 : Nat) (z0 : Unit) : List Res := [.box 84 [.os 2, .os 3, .os 4], v8_ y1, v0_ ([] : List Int), v0_ ([] : List Int), v0_ ([] : List Int)]
def Anf  (z0 : Unit) : St := [(6, dO 0 0), (7, dB false)]
def Ao8  (z0 : Unit) : List Res := [.box 84 [.os 1, .os 2, .os 3], v0_ ([] : List Int), v0_ ([] : List Int), v0_ ([] : List Int)]
theorem Ty (x0 : Aa) (x1 : Ab) (x2 : Int) (r : Ai × Bool) (h : Gs x0 x1 x2 = some r) : CO 156 [.agg (d29 x0), .agg (d36 x1), .d (I x2)] [] (.tup [.agg (d84 r.1), .d (Bo r.2)]) [] := by
 unfold Gs at h
 refine co 25 Tryz.func156 λ C hC => ?_
 obtain ⟨y1, h2, h⟩ := Ax h
 refine ws Wh 26 [] [pc e89 (k89 x0 x1 _ h2) [], pl q84 y1] [.ownb 2 0 3 1, .ownb 2 1 3 1, .ownb 2 2 3 1] 0 [2, 3, 4, 5, 6] (yP x2 y1 0 ()) (Aj6 y1 0 ()) hC [] ?_
 obtain ⟨w0, hm0, hret0, hnext0⟩ := Ar h
 clear h
 refine wc w0 (Anf) (Ao8) ?_ λ z0 hs0 => ?_
 ·refine wb ?_
  refine Co 12 1 rfl rfl λ hl0 => ?_
  refine wl (yP x2 y1) (Aj6 y1) hm0 (λ z0 hn0 => ?_) λ n0 a0 z0 w0b hi0 hx0 h hb0 hr0 => ?_
  ·clear hm0
   exact wx w0 (Anf) (Ao8) Wh 26 [false] [] [] 0 [0, 2, 3, 4] _ hC [pq (Be hl0)] hn0
  ·unfold Mu at h
   obtain ⟨y3, h4, h⟩ := Ax h
   refine wn Wh 32 [true] [pr q84 (Bp hx0 hl0), pn q84 (Bp hx0 hl0), pc Yy (Yq a0.Al x2 _ h4) []] [] 0 n6_ [2, 6, 7, 9, 12, 13, 14, 21] hC [pq (A9 hi0 hl0)] ?_
   rcases cB h with ⟨h5, h⟩ | ⟨h5, h⟩
   ·have hq := hret0 _ (hr0 _ (sI h).symm)
    replace hq := sI hq
    subst hq
    exact wr Wh 24 [true] [] [] 0 [] hC [pq h5]
   ·exact wx w0b (yP x2 y1 (n0 + 1)) (Aj6 y1 (n0 + 1)) Wh 25 [false] [] [] 0 n5_ _ hC [pq h5] (sI h).symm
 ·have h := hnext0 _ hs0
  replace h := sI h
  subst h
  exact wr Wh 23 [] [] [.ownb 0 0 3 1, .frz 4, .ownb 0 1 3 1, .frz 5, .ownb 0 2 3 1, .frz 6] 0 [] hC []
theorem Ue : EN 156 := en Tryz.func156
def Mm : List Nat := [0, 2, 3, 24, 25, 26, 66]
def N1 (y1 : Ab × Int) (z0 : Int × (List Ae)) : St := [(0, dO 0 0), (24, dI (ln y1.1.Ac)), (25, dI z0.1)]
def Ru (x0 : A2) (y1 : Ab × Int) (z0 : Int × (List Ae)) : List Res := (.box 186 (zb x0.Ak [.os 5, .os 6, .os 7, .os 8, I x0.time]) :: zp x0.Aw [v2_ y1.1.Ag, v5_ z0.2, v0_ y1.1.Aq, v4_ y1.1.Ao])
def Acf  (z0 : Int × (List Ae)) : St := []
def Ad3 (x0 : A2) (y1 : Ab × Int) (z0 : Int × (List Ae)) : List Res := (.box 186 (zb x0.Ak [.os 5, .os 6, .os 7, .os 8, I x0.time]) :: zp x0.Aw [v2_ y1.1.Ag, v5_ z0.2, v0_ y1.1.Aq, v4_ y1.1.Ao])
theorem A4y (x0 : A2) (r : A2) (h : Lg x0 = some r) : CO 188 [.d (.o 0 0)] (.box 186 (zb x0.Ak [.os 1, .os 2, .os 3, .os 4, I x0.time]) :: zp x0.Aw []) (.tup []) (.box 186 (zb r.Ak [.os 5, .os 6, .os 7, .os 8, I r.time]) :: .non :: .non :: .non :: .non :: zp r.Aw []) := by
 unfold Lg at h
 refine co 71 Tryz.func188 λ C hC => ?_
 obtain ⟨y1, h2, h⟩ := Ax h
 refine ws Mm 25 [] [⟨.call 222 [.agg (d29 x0.Ak), .agg [.os 0, .os 1, .os 2, .os 3]] (zp x0.Aw []) (.tup [.agg [.os 4, .os 5, .os 6, .os 7], dI y1.2]) (zp x0.Aw (zp y1.1 [])) [1, 2, 3, 4], ⟨Baz, ((A_i x0.Ak x0.Aw _ h2).lend (by kernel_rfl) (by kernel_rfl) (by kernel_rfl) ⟨Ba (λ _ => rfl), Ba (λ _ => rfl), Ba (λ _ => rfl), Ba (λ _ => rfl), trivial⟩ (by kernel_rfl) (by kernel_rfl))⟩⟩, pl A_ y1.1.Ac] [] 5 n9_ (N1 y1 (0, y1.1.Ac)) (Ru x0 y1 (0, y1.1.Ac)) hC [] ?_
 obtain ⟨w0, hm0, hret0, hnext0⟩ := Ar h
 clear h
 refine wc w0 (Acf) (Ad3 x0 y1) ?_ λ z0 hs0 => ?_
 ·refine wb ?_
  refine ww (N1 y1) (Ru x0 y1) hm0 λ z0 w0b h hb0 hr0 => ?_
  unfold Ot at h
  rcases cB h with ⟨h3, h⟩ | ⟨h3, h⟩
  ·obtain ⟨y4, h5, y6, h7, y8, h9, h⟩ := B0 h
   refine wn Mm 34 [true] [pr A_ h5, pn A_ h5, pv Ail (λ hg => Ahs (⟨x0.Ak, (⟨y1.1.Ag, z0.2, y1.1.Aq, y1.1.Ao⟩ : Ab), x0.time⟩ : A2) z0.1 _ (Bb h7 hg)), ⟨.when [(((y4.State == 1) && y6), true)] (.row (z0.2.map A_) (((Int.toNat z0.1) : Nat) : Int) (A_ y4)), λ hg => J9 h5⟩, pR Br h9] [] 5 n9_ [0, 3, 24, 25, 66] hC [pq h3] ?_
   rcases cB h with ⟨h10, h⟩ | ⟨h10, h⟩
   ·obtain ⟨y11, h12, h⟩ := Ax h
    exact wx w0b (N1 y1) (Ru x0 y1) Mm 25 [true] [pu A_ h5 h12] [] 5 n9_ _ hC [pq h10] (sI h).symm
   ·exact wx w0b (N1 y1) (Ru x0 y1) Mm 25 [false] [] [] 5 n9_ _ hC [pq h10] (sI h).symm
  ·exact wx w0 (Acf) (Ad3 x0 y1) Mm 26 [false] [] [] 5 n9_ (z0.1, z0.2) hC [pq h3] (hb0 _ (sI h).symm)
 ·have h := hnext0 _ hs0
  replace h := sI h
  subst h
  exact wf Mm 20 [] [] [.frz 1, .frz 2, .frz 3, .frz 4] 5 n9_ hC []
theorem A6v : EN 188 := en Tryz.func188
theorem k93 (x0 : By) (r : Bool) (h : F93 x0 = some r) : CO 93 [.agg (d63 x0)] [] (.d (Bo r)) [] := by
 unfold F93 at h
 refine co 6 Tryz.func93 λ C hC => ?_
 obtain ⟨y1, h2, h⟩ := Ax h
 replace h := sI h
 subst h
 exact wr n3_ 25 [] [pc e94 (k94 x0 _ h2) []] [] 0 [] hC []
theorem e93 : EN 93 := en Tryz.func93
theorem Bap (x0 : By) (x1 : Fr) (r : Int × Int) (h : A00 x0 x1 = some r) : CO 106 [.agg (d63 x0), .agg (d70 x1)] [] (.tup [.d (I r.1), .d (I r.2)]) [] := by
 unfold A00 at h
 refine co 31 Tryz.func106 λ C hC => ?_
 obtain ⟨y1, h2, h⟩ := Ax h
 refine wn [0, 1, 2, 3, 4, 5, 13] 26 [] [pc e94 (k94 x0 _ h2) [], ⟨.when [(!y1, false)] (.call 159 [.agg (d70 x1)] [] (dB (As3 x1)) [] []), λ hg => ⟨Bbm, (A_5 x1 _ rfl)⟩⟩] [] 0 [0, 1] [2, 3, 4, 5, 13] hC [] ?_
 rcases cB h with ⟨h3, h⟩ | ⟨h3, h⟩
 ·cases h
 ·obtain ⟨y4, h5, h⟩ := Ax h
  replace h := sI h
  subst h
  exact wr [0, 1, 2, 3, 4, 5, 13] 25 [false] [pc Bbl (A_4 (w64 ((w64 ((w64 (x1.X * x1.X)) + (w64 (x1.Y * x1.Y)))) * x0.Cost)) 1000 _ h5) []] [] 0 [] hC [pq h3]
theorem Bb6 : EN 106 := en Tryz.func106
theorem k39 (x0 : Aa) (x1 : Ab) (r : Bool) (h : F39 x0 x1 = some r) : CO 39 [.agg (d29 x0), .agg (d36 x1)] [] (.d (Bo r)) [] := by
 unfold F39 at h
 refine co 16 Tryz.func39 λ C hC => ?_
 obtain ⟨y1, h2, y3, h4, y5, h6, h⟩ := B0 h
 replace h := sI h
 subst h
 exact wr n5_ 25 [] [pc e43 (k43 x0 x1 _ h2) [], pw e89 (λ hg => k89 x0 x1 _ (Bb h4 hg)) [], pv A9d (λ hg => A8t y3 _ (Bb h6 hg))] [] 0 [] hC []
theorem e39 : EN 39 := en Tryz.func39
def Aqu : List Nat := [0, 1, 2, 3, 4, 5, 6, 11]
theorem Bae (x0 : Aa) (x1 : Ab) (r : Ab × Int) (h : Alu x0 x1 = some r) : CO 131 [.agg (d29 x0), .agg (d36 x1)] [] (.tup [.agg [.os 0, .os 1, .os 2, .os 3], .d (I r.2)]) (zp r.1 []) := by
 unfold Alu at h
 refine co 17 Tryz.func131 λ C hC => ?_
 obtain ⟨y1, h2, h⟩ := Ax h
 refine wn Aqu 28 [] [pc e53 (k53 x0 x1 _ h2) []] [.ownb 2 0 4 1, .ownb 2 1 120 4, .ownb 2 2 3 1, .ownb 2 3 86 2] 0 n7_ [2, 3, 4, 5, 6, 11] hC [] ?_
 rcases cB h with ⟨h3, h⟩ | ⟨h3, h⟩
 ·replace h := sI h
  subst h
  exact wr Aqu 24 [true] [] [.ownb 2 0 4 1, .ownb 2 1 120 4, .ownb 2 2 3 1, .ownb 2 3 86 2] 0 [7, 8, 9, 10] hC [pq h3]
 ·obtain ⟨y4, h5, h⟩ := Ax h
  replace h := sI h
  subst h
  exact wr Aqu 25 [false] [pc Bbw (Baf x0 x1 _ h5) []] [] 0 [7, 8, 9, 10] hC [pq h3]
theorem Bbv : EN 131 := en Tryz.func131
def Yo : List Nat := [0, 1, 2, 3, 4, 5, 6, 7, 8, 9, 18, 22, 36, 43]
theorem k21 (x0 : Aa) (x1 : Bd) (x2 : Az) (r : Int) (h : F21 x0 x1 x2 = some r) : CO 21 [.agg (d29 x0), .agg (d31 x1), .agg (d40 x2)] [] (.d (I r)) [] := by
 unfold F21 at h
 refine co 55 Tryz.func21 λ C hC => ?_
 obtain ⟨y1, h2, h⟩ := Ax h
 refine wn Yo 31 [] [pc e57 (k57 x0 x2.Power _ h2) []] [] 0 n9_ [3, 4, 5, 6, 7, 8, 9, 18] hC [] ?_
 rcases cB h with ⟨h3, h⟩ | ⟨h3, h⟩
 ·replace h := sI h
  subst h
  exact wr Yo 24 [true] [] [] 0 [] hC [pq h3]
 ·rcases cB h with ⟨h4, h⟩ | ⟨h4, h⟩
  ·replace h := sI h
   subst h
   exact wr Yo 27 [false, true] [pc e59 (k59 x1 _ rfl) []] [] 0 [] hC [pq h3, pq h4]
  ·rcases cB h with ⟨h5, h⟩ | ⟨h5, h⟩
   ·replace h := sI h
    subst h
    exact wr Yo 30 [false, false, true] [pc e59 (k59 x1 _ rfl) [], pl B2 x2.A5] [] 0 [] hC [pq h3, pq h4, pq h5]
   ·obtain ⟨y6, h7, y8, h9, h⟩ := Bc h
    refine wn Yo 30 [false, false, false] [pc e59 (k59 x1 _ rfl) [], pl B2 x2.A5, pb e60 (k60 x2.Power y1.1 _ h7), ⟨.whenR [(!y6, false)] (.call 61 [.d (DS B2 x2.A5), .d (.fn (.func 62) [] [.o 0 0])] [.box 126 [.fn (.func 58) [] [.o 1 0]], .box 40 (d40 x2)] (dB y8.1) [.box 126 [.fn (.func 58) [] [.o 1 0]], .box 40 (d40 y8.2)] [8, 2]), ⟨λ hg => ⟨A9i, (A8y x2.A5 x2 _ (Bb h9 hg))⟩, λ hg => by have e := H5 h9 hg; subst e; rfl⟩⟩] [] 0 [] [6, 43] hC [pq h3, pq h4, pq h5] ?_
    rcases cB h with ⟨h10, h⟩ | ⟨h10, h⟩
    ·replace h := sI h
     subst h
     exact wr Yo 24 [true] [] [] 0 [] hC [pq h10]
    ·replace h := sI h
     subst h
     exact wr Yo 26 [false] [] [] 0 [] hC [pq h10]
theorem e21 : EN 21 := en Tryz.func21
def Aqr : List Nat := [0, 1, 2, 3, 4, 6, 7, 8, 20]
theorem Aq0 (x0 : Aa) (x1 : Ab) (x2 : Int) (r : Int × Bool) (h : Pf x0 x1 x2 = some r) : CO 216 [.agg (d29 x0), .agg (d36 x1), .d (I x2)] [] (.tup [.d (I r.1), .d (Bo r.2)]) [] := by
 unfold Pf at h
 refine co 25 Tryz.func216 λ C hC => ?_
 obtain ⟨y1, h2, h⟩ := Ax h
 refine wn Aqr 28 [] [pc Ue (Ty x0 x1 x2 _ h2) [], pl pI y1.1.Ac] [] 0 [2] [6, 7, 8, 20] hC [] ?_
 rcases cB h with ⟨h3, h⟩ | ⟨h3, h⟩
 ·replace h := sI h
  subst h
  exact wr Aqr 24 [true] [] [] 0 [] hC [pq h3]
 ·obtain ⟨y4, h5, h⟩ := Ax h
  replace h := sI h
  subst h
  exact wr Aqr 25 [false] [pr pI h5] [] 0 [] hC [pq h3]
theorem Arf : EN 216 := en Tryz.func216
theorem Aq2 (x0 : Aa) (x1 : Ab) (x2 : Int) (r : Bool) (h : Vy x0 x1 x2 = some r) : CO 102 [.agg (d29 x0), .agg (d36 x1), .d (I x2)] [] (.d (Bo r)) [] := by
 unfold Vy at h
 refine co 20 Tryz.func102 λ C hC => ?_
 obtain ⟨y1, h2, h⟩ := Ax h
 replace h := sI h
 subst h
 exact wr [0, 1, 2, 3, 4, 6, 7] 27 [] [pc Ue (Ty x0 x1 x2 _ h2) [], pl pI y1.1.Ac] [] 0 [] hC []
theorem Arh : EN 102 := en Tryz.func102
def qE : List Nat := [0, 1, 2, 3, 4, 6, 7, 9, 11, 20, 21, 22, 23, 29]
def V2 (y1 : Ai × Bool) (n0 : Nat) (z0 : Int) : St := [(4, dO 0 0), (6, dI 0), (7, dO 1 0), (9, dI z0), (20, .d (DS pI y1.1.Af)), (21, dI (ln y1.1.Af)), (22, dI (cnt 0 n0))]
def uU (x1 : Ab) (y1 : Ai × Bool) (n0 : Nat) (z0 : Int) : List Res := [.box 36 (d36 x1), .box 84 (d84 y1.1)]
def Am1  (z0 : Int) : St := [(6, dI 0), (9, dI z0)]
def Aou  (z0 : Int) : List Res := []
theorem Ay7 (x0 : Aa) (x1 : Ab) (x2 : Int) (r : Int) (h : U8 x0 x1 x2 = some r) : CO 214 [.agg (d29 x0), .agg (d36 x1), .d (I x2)] [] (.d (I r)) [] := by
 unfold U8 at h
 refine co 39 Tryz.func214 λ C hC => ?_
 obtain ⟨y1, h2, h⟩ := Ax h
 refine ws qE 30 [] [pc Ue (Ty x0 x1 x2 _ h2) [], pl pI y1.1.Af] [] 0 [1, 2] (V2 y1 0 0) (uU x1 y1 0 0) hC [] ?_
 obtain ⟨w0, hm0, hret0, hnext0⟩ := Ar h
 clear h
 refine wc w0 (Am1) (Aou) ?_ λ z0 hs0 => ?_
 ·refine wb ?_
  refine Bn 20 rfl λ hl0 => ?_
  refine wl (V2 y1) (uU x1 y1) hm0 (λ z0 hn0 => ?_) λ n0 a0 z0 w0b hi0 hx0 h hb0 hr0 => ?_
  ·clear hm0
   exact wx w0 (Am1) (Aou) qE 26 [false] [] [] 0 [] _ hC [pq (Be hl0)] hn0
  ·unfold Xf at h
   rcases cB h with ⟨h3, h⟩ | ⟨h3, h⟩
   ·obtain ⟨y4, h5, h⟩ := Ax h
    exact wx w0b (V2 y1 (n0 + 1)) (uU x1 y1 (n0 + 1)) qE 36 [true, true] [pt hx0 hl0, pl pI y1.1.Ac, pr pI h5] [] 0 [0, 1] _ hC [pq (A9 hi0 hl0), pq h3] (sI h).symm
   ·exact wx w0b (V2 y1 (n0 + 1)) (uU x1 y1 (n0 + 1)) qE 36 [true, false] [pt hx0 hl0, pl pI y1.1.Ac] [] 0 [0, 1] _ hC [pq (A9 hi0 hl0), pq h3] (sI h).symm
 ·have h := hnext0 _ hs0
  replace h := sI h
  subst h
  exact wr qE 23 [] [] [] 0 [] hC []
theorem Azq : EN 214 := en Tryz.func214
def Ae3 : List Nat := [0, 1, 2, 3, 4, 6, 7, 9, 11, 20, 21, 22, 23]
def yD (y1 : Ai × Bool) (n0 : Nat) (z0 : Int) : St := [(3, dO 0 0), (6, dI 0), (9, dI z0), (20, .d (DS pI y1.1.Ac)), (21, dI (ln y1.1.Ac)), (22, dI (cnt 0 n0))]
def Ajt (x0 : Aa) (n0 : Nat) (z0 : Int) : List Res := [.box 29 (d29 x0)]
def Am2  (z0 : Int) : St := [(6, dI 0), (9, dI z0)]
def Aov  (z0 : Int) : List Res := []
theorem Ay8 (x0 : Aa) (x1 : Ab) (x2 : Int) (r : Int) (h : U9 x0 x1 x2 = some r) : CO 213 [.agg (d29 x0), .agg (d36 x1), .d (I x2)] [] (.d (I r)) [] := by
 unfold U9 at h
 refine co 36 Tryz.func213 λ C hC => ?_
 obtain ⟨y1, h2, h⟩ := Ax h
 refine ws Ae3 30 [] [pc Ue (Ty x0 x1 x2 _ h2) [], pl pI y1.1.Ac] [] 0 [0] (yD y1 0 0) (Ajt x0 0 0) hC [] ?_
 obtain ⟨w0, hm0, hret0, hnext0⟩ := Ar h
 clear h
 refine wc w0 (Am2) (Aov) ?_ λ z0 hs0 => ?_
 ·refine wb ?_
  refine Bn 20 rfl λ hl0 => ?_
  refine wl (yD y1) (Ajt x0) hm0 (λ z0 hn0 => ?_) λ n0 a0 z0 w0b hi0 hx0 h hb0 hr0 => ?_
  ·clear hm0
   exact wx w0 (Am2) (Aov) Ae3 26 [false] [] [] 0 [] _ hC [pq (Be hl0)] hn0
  ·unfold Aat at h
   obtain ⟨y3, h4, h⟩ := Ax h
   exact wx w0b (yD y1 (n0 + 1)) (Ajt x0 (n0 + 1)) Ae3 33 [true] [pt hx0 hl0, pr Br h4] [] 0 [0] _ hC [pq (A9 hi0 hl0)] (sI h).symm
 ·have h := hnext0 _ hs0
  replace h := sI h
  subst h
  exact wr Ae3 23 [] [] [] 0 [] hC []
theorem Azr : EN 213 := en Tryz.func213
def Jm : List Nat := [0, 1, 2, 3, 4, 6, 7, 8, 9, 11, 12, 13, 22, 23, 24, 25, 26, 30, 31, 32, 33, 47]
def yI  (n0 : Nat) (z0 : Unit) : St := [(3, dO 0 0), (4, dO 1 0), (6, dI 0), (7, dB false), (8, dO 2 0), (23, .d (DS pI [2, 1, 0])), (24, dI ([2, 1, 0].length : Int)), (25, dI (cnt 0 n0))]
def Ajy (x0 : Aa) (x1 : Ab) (y1 : Ai × Bool) (n0 : Nat) (z0 : Unit) : List Res := [.box 29 (d29 x0), .box 36 (d36 x1), .box 84 (d84 y1.1)]
def Am7  (z0 : Unit) : St := [(6, dI 0), (7, dB false)]
def Ao0  (z0 : Unit) : List Res := []
def yH (x1 : Ab) (n0 : Nat) (a0 : Int) (n1 : Nat) (z1 : Unit) : St := [(3, dO 0 0), (4, dO 1 0), (6, dI 0), (7, dB false), (8, dO 2 0), (11, dI a0), (23, .d (DS pI [2, 1, 0])), (24, dI ([2, 1, 0].length : Int)), (25, dI (cnt 0 n0)), (30, .d (DS A_ x1.Ac)), (31, dI (ln x1.Ac)), (32, dI (cnt 0 n1))]
def Ajx (x0 : Aa) (x1 : Ab) (y1 : Ai × Bool) (n1 : Nat) (z1 : Unit) : List Res := [.box 29 (d29 x0), .box 36 (d36 x1), .box 84 (d84 y1.1)]
def Am6 (n0 : Nat) (z1 : Unit) : St := [(3, dO 0 0), (4, dO 1 0), (6, dI 0), (7, dB false), (8, dO 2 0), (23, .d (DS pI [2, 1, 0])), (24, dI ([2, 1, 0].length : Int)), (25, dI (cnt 0 n0))]
def Aoz (x0 : Aa) (x1 : Ab) (y1 : Ai × Bool) (z1 : Unit) : List Res := [.box 29 (d29 x0), .box 36 (d36 x1), .box 84 (d84 y1.1)]
theorem A_v (x0 : Aa) (x1 : Ab) (x2 : Int) (r : Int × Bool) (h : Alj x0 x1 x2 = some r) : CO 178 [.agg (d29 x0), .agg (d36 x1), .d (I x2)] [] (.tup [.d (I r.1), .d (Bo r.2)]) [] := by
 unfold Alj at h
 refine co 51 Tryz.func178 λ C hC => ?_
 obtain ⟨y1, h2, h⟩ := Ax h
 refine wn Jm 28 [] [pc Ue (Ty x0 x1 x2 _ h2) []] [] 0 n3_ [3, 4, 6, 7, 8, 22] hC [] ?_
 rcases cB h with ⟨h3, h⟩ | ⟨h3, h⟩
 ·replace h := sI h
  subst h
  exact wr Jm 24 [true] [] [] 0 [] hC [pq h3]
 ·refine ws Jm 26 [false] [pl pI [2, 1, 0]] [] 0 n3_ (yI 0 ()) (Ajy x0 x1 y1 0 ()) hC [pq h3] ?_
  obtain ⟨w0, hm0, hret0, hnext0⟩ := Ar h
  clear h
  refine wc w0 (Am7) (Ao0) ?_ λ z0 hs0 => ?_
  ·refine wb ?_
   refine Bn 23 rfl λ hl0 => ?_
   refine wl (yI) (Ajy x0 x1 y1) hm0 (λ z0 hn0 => ?_) λ n0 a0 z0 w0b hi0 hx0 h hb0 hr0 => ?_
   ·clear hm0
    exact wx w0 (Am7) (Ao0) Jm 26 [false] [] [] 0 [] _ hC [pq (Be hl0)] hn0
   ·unfold Aax at h
    refine ws Jm 32 [true] [pt hx0 hl0, pl A_ x1.Ac] [] 0 n3_ (yH x1 n0 a0 0 ()) (Ajx x0 x1 y1 0 ()) hC [pq (A9 hi0 hl0)] ?_
    obtain ⟨w1, hm1, hret1, hnext1⟩ := Ar h
    clear h
    refine wc w1 (Am6 n0) (Aoz x0 x1 y1) ?_ λ z1 hs1 => ?_
    ·refine wb ?_
     refine Bn 30 rfl λ hl1 => ?_
     refine wl (yH x1 n0 a0) (Ajx x0 x1 y1) hm1 (λ z1 hn1 => ?_) λ n1 a1 z1 w1b hi1 hx1 h hb1 hr1 => ?_
     ·clear hm1
      exact wx w1 (Am6 n0) (Aoz x0 x1 y1) Jm 26 [false] [] [] 0 n3_ _ hC [pq (Be hl1)] hn1
     ·unfold Aaw at h
      obtain ⟨y4, h5, h⟩ := Ax h
      refine wn Jm 32 [true] [pt hx1 hl1, pw Ba1 (λ hg => A_k x0 x1 y1.1 (cnt 0 n1) _ (Bb h5 hg)) []] [] 0 n3_ [3, 4, 6, 7, 8, 11, 12, 23, 24, 25, 30, 31, 32, 47] hC [pq (A9 hi1 hl1)] ?_
      rcases cB h with ⟨h6, h⟩ | ⟨h6, h⟩
      ·have hq := hret1 _ (hr1 _ (sI h).symm)
       replace hq := hret0 _ (hr0 _ (sI hq).symm)
       replace hq := sI hq
       subst hq
       exact wr Jm 24 [true] [] [] 0 [] hC [pq h6]
      ·exact wx w1b (yH x1 n0 a0 (n1 + 1)) (Ajx x0 x1 y1 (n1 + 1)) Jm 25 [false] [] [] 0 n3_ _ hC [pq h6] (sI h).symm
    ·have h := hnext1 _ hs1
     exact wx w0b (yI (n0 + 1)) (Ajy x0 x1 y1 (n0 + 1)) Jm 23 [] [] [] 0 n3_ _ hC [] (sI h).symm
  ·have h := hnext0 _ hs0
   replace h := sI h
   subst h
   exact wr Jm 23 [] [] [] 0 [] hC []
theorem Bbc : EN 178 := en Tryz.func178
def Pu : List Nat := [0, 1, 4, 5, 7, 8, 9, 16]
def S3 (x0 : List By) (n0 : Nat) (z0 : Unit) : St := [(0, .d (DS q63 x0)), (1, .d (.fn (.func 93) [] [])), (4, dI 0), (7, dI (ln x0)), (8, dI (cnt 0 n0))]
def Zl  (n0 : Nat) (z0 : Unit) : List Res := []
def Ack  (z0 : Unit) : St := [(4, dI 0)]
def Ad8  (z0 : Unit) : List Res := []
theorem A5e (x0 : List By) (r : Int) (h : Alr x0 = some r) : CO 147 [.d (DS q63 x0), .d (.fn (.func 93) [] [])] [] (.d (I r)) [] := by
 unfold Alr at h
 refine co 19 Tryz.func147 λ C hC => ?_
 refine ws Pu 26 [] [pl q63 x0] [] 0 [] (S3 x0 0 ()) (Zl 0 ()) hC [] ?_
 obtain ⟨w0, hm0, hret0, hnext0⟩ := Ar h
 clear h
 refine wc w0 (Ack) (Ad8) ?_ λ z0 hs0 => ?_
 ·refine wb ?_
  refine Bn 0 rfl λ hl0 => ?_
  refine wl (S3 x0) (Zl) hm0 (λ z0 hn0 => ?_) λ n0 a0 z0 w0b hi0 hx0 h hb0 hr0 => ?_
  ·clear hm0
   exact wx w0 (Ack) (Ad8) Pu 26 [false] [] [] 0 [] _ hC [pq (Be hl0)] hn0
  ·unfold Aeq at h
   obtain ⟨y1, h2, h⟩ := Ax h
   refine wn Pu 32 [true] [pt hx0 hl0, pc e93 (k93 a0 _ h2) []] [] 0 [] [0, 1, 4, 5, 7, 8, 16] hC [pq (A9 hi0 hl0)] ?_
   rcases cB h with ⟨h3, h⟩ | ⟨h3, h⟩
   ·cases h
   ·exact wx w0b (S3 x0 (n0 + 1)) (Zl (n0 + 1)) Pu 25 [false] [] [] 0 [] _ hC [pq h3] (sI h).symm
 ·have h := hnext0 _ hs0
  replace h := sI h
  subst h
  exact wr Pu 23 [] [] [] 0 [] hC []
theorem A7b : EN 147 := en Tryz.func147
theorem k47 (x0 : By) (x1 : Int) (r : Int) (h : F47 x0 x1 = some r) : CO 47 [.agg (d63 x0), .d (I x1)] [] (.d (I r)) [] := by
 unfold F47 at h
 refine co 40 Tryz.func47 λ C hC => ?_
 obtain ⟨y1, h2, h⟩ := Ax h
 rcases cB h with ⟨h3, h⟩ | ⟨h3, h⟩
 ·cases h
 ·rcases cB h with ⟨h4, h⟩ | ⟨h4, h⟩
  ·cases h
  ·obtain ⟨u6, h5, y7, h8, h⟩ := Bc h
   replace h := sI h
   subst h
   exact wr [0, 1, 2, 4, 5, 6, 7, 17, 24] 39 [false, false] [pc Bb6 (Bap x0 (⟨x0.Max, 0⟩ : Fr) _ h2) [], ⟨.nz x0.Cost, Pp h5⟩, pc Bb5 (Bao (w64 (Int.tdiv (w64 (1000 * x1)) x0.Cost)) _ h8) []] [] 0 [] hC [pq h3, pq h4]
theorem e47 : EN 47 := en Tryz.func47
theorem A8v (x0 : Ah) (x1 : Aa) (r : Ab × Ah) (h : vC x0 x1 = some r) : CO 79 [.d (.o 0 0), .agg [I x1.Al, .os 1, .os 2, .os 3, I x1.Phase, I x1.An]] (.box 90 (d90 x0) :: zs x1 []) (.agg [.os 4, .os 5, .os 6, .os 7]) (.box 90 (d90 r.2) :: zs x1 (zp r.1 [])) := by
 unfold vC at h
 refine co 16 Tryz.func79 λ C hC => ?_
 obtain ⟨y1, h2, y3, h4, h⟩ := Bc h
 replace h := sI h
 subst h
 exact wr [0, 1, 3, 4, 5] 27 [] [⟨.flts [.box 36 [.p (.v (.slice none 0 0)), .p (.v (.slice none 0 0)), .p (.v (.slice none 0 0)), .p (.v (.slice none 0 0))]], trivial⟩, pc A7j (A5m x0 x1 _ h2) n4_, ⟨.call 131 [.agg [I x1.Al, .os 0, .os 1, .os 2, I x1.Phase, I x1.An], .agg [.os 3, .os 4, .os 5, .os 6]] (zs x1 (zp y1.1 [])) (.tup [.agg [.os 7, .os 8, .os 9, .os 10], dI y3.2]) (zs x1 (zp y1.1 (zp y3.1 []))) [1, 2, 3, 7, 8, 9, 10], ⟨Bbv, ((Bae x1 y1.1 _ h4).lend (by kernel_rfl) (by kernel_rfl) (by kernel_rfl) ⟨Ba (λ _ => rfl), Ba (λ _ => rfl), Ba (λ _ => rfl), Ba (λ _ => rfl), trivial⟩ (by kernel_rfl) (by kernel_rfl))⟩⟩, ⟨.flt 6 (.box 36 [.p (.v (.slice none 0 0)), .p (.v (.slice none 0 0)), .p (.v (.slice none 0 0)), .p (.v (.slice none 0 0))]) (.box 36 [.p (.v (.slice none 0 0)), .p (.v (.slice none 0 0)), .p (.v (.slice none 0 0)), .p (.v (.slice none 0 0))]), rfl⟩] [] 4 [0, 1, 2, 3, 11, 12, 13, 14] hC []
theorem A9f : EN 79 := en Tryz.func79
def qB : List Nat := [0, 1, 2, 3, 4, 5, 6, 7, 8, 9, 10, 20, 22, 23, 49]
theorem A_f (x0 : Aa) (x1 : Ab) (x2 : Aj) (r : Bool) (h : Km x0 x1 x2 = some r) : CO 238 [.agg (d29 x0), .agg (d36 x1), .agg (O9 x2)] [] (.d (Bo r)) [] := by
 unfold Km at h
 refine co 64 Tryz.func238 λ C hC => ?_
 obtain ⟨y1, h2, h⟩ := Ax h
 refine wn qB 28 [] [pc Arf (Aq0 x0 x1 x2.A _ h2) []] [] 0 n3_ [3, 4, 5, 6, 7, 20] hC [] ?_
 rcases cB h with ⟨h3, h⟩ | ⟨h3, h⟩
 ·replace h := sI h
  subst h
  exact wr qB 24 [true] [] [] 0 [] hC [pq h3]
 ·rcases cB h with ⟨h4, h⟩ | ⟨h4, h⟩
  ·obtain ⟨y5, h6, y7, h8, y9, h10, h⟩ := B0 h
   replace h := sI h
   subst h
   exact wr qB 34 [false, true] [pc Arf (Aq0 x0 x1 x2.B _ h6) [], pR A_ h8, pR A_ h10, ⟨.when [(!y5.2, false)] (.call 243 [.agg (d29 x0), .agg (O_ y7), .agg (O_ y9)] [] (dB (R7 x0 y7 y9)) [] []), λ hg => ⟨A53, (A36 x0 y7 y9 _ rfl)⟩⟩] [] 0 [] hC [pq h3, pq h4]
  ·rcases cB h with ⟨h11, h⟩ | ⟨h11, h⟩
   ·obtain ⟨y12, h13, y14, h15, h⟩ := Bc h
    replace h := sI h
    subst h
    exact wr qB 35 [false, false, true] [pr A_ h13, pr A_ h15, pc A53 (A36 x0 y12 y14 _ rfl) []] [] 0 [] hC [pq h3, pq h4, pq h11]
   ·replace h := sI h
    subst h
    exact wr qB 37 [false, false, false] [] [] 0 [] hC [pq h3, pq h4, pq h11]
theorem Baw : EN 238 := en Tryz.func238
def Oc : List Nat := [0, 1, 2, 3, 4, 5, 8, 9, 10, 11, 12, 13, 14, 15, 16, 17, 23, 44, 63, 76]
theorem A_s (x0 : Aa) (x1 : Ab) (x2 : Int) (x3 : Int) (r : Ab × Int) (h : Z3 x0 x1 x2 x3 = some r) : CO 184 [.agg (d29 x0), .agg (d36 x1), .d (I x2), .d (I x3)] [] (.tup [.agg [.os 0, .os 1, .os 2, .os 3], .d (I r.2)]) (zp r.1 []) := by
 unfold Z3 at h
 refine co 95 Tryz.func184 λ C hC => ?_
 obtain ⟨y1, h2, h⟩ := Ax h
 refine wn Oc 28 [] [pc e43 (k43 x0 x1 _ h2) []] [.ownb 2 0 4 1, .ownb 2 1 120 4, .ownb 2 2 3 1, .ownb 2 3 86 2] 0 n7_ [2, 3, 4, 5, 8, 9, 10, 23] hC [] ?_
 rcases cB h with ⟨h3, h⟩ | ⟨h3, h⟩
 ·replace h := sI h
  subst h
  exact wr Oc 24 [true] [] [.ownb 2 0 4 1, .ownb 2 1 120 4, .ownb 2 2 3 1, .ownb 2 3 86 2] 0 [7, 8, 9, 10] hC [pq h3]
 ·rcases cB h with ⟨h4, h⟩ | ⟨h4, h⟩
  ·replace h := sI h
   subst h
   exact wr Oc 29 [false, true] [pL_ [(decide (x2 < 0), false)] Br x0.Ac] [.ownb 2 0 4 1, .ownb 2 1 120 4, .ownb 2 2 3 1, .ownb 2 3 86 2] 0 [7, 8, 9, 10] hC [pq h3, pq h4]
  ·obtain ⟨y5, h6, y7, h8, h⟩ := Bc h
   refine wn Oc 33 [false, false] [pL_ [(decide (x2 < 0), false)] Br x0.Ac, pc Arf (Aq0 x0 x1 x3 _ h6) [], pR A_ h8] [] 0 n7_ [2, 4, 5, 8, 9, 11, 63] hC [pq h3, pq h4] ?_
   rcases cB h with ⟨h9, h⟩ | ⟨h9, h⟩
   ·replace h := sI h
    subst h
    exact wr Oc 24 [true] [] [.ownb 2 0 4 1, .ownb 2 1 120 4, .ownb 2 2 3 1, .ownb 2 3 86 2] 0 [7, 8, 9, 10] hC [pq h9]
   ·obtain ⟨y10, h11, y12, h13, h⟩ := Bc h
    refine wn Oc 32 [false] [pc Lp (Ll x1 _ h11) [], pc A6f (A4i x0 x1 x2 _ h13) []] [] 0 Ft [4, 5, 8, 9, 11, 13, 14, 15, 76] hC [pq h9] ?_
    rcases cB h with ⟨h14, h⟩ | ⟨h14, h⟩
    ·obtain ⟨y15, h16, y17, h18, y19, h20, h⟩ := B0 h
     replace h := sI h
     subst h
     exact wr Oc 29 [true] [pc Ue (Ty x0 x1 y12.1 _ h16) [], pr A_ h18, pc Ain (Ahu y10 y15.1.Ac y17 _ h20) [7, 8, 9, 10]] [] 0 [7, 8, 9, 10] hC [pq h14]
    ·obtain ⟨y21, h22, y23, h24, h⟩ := Bc h
     replace h := sI h
     subst h
     exact wr Oc 27 [false] [pr A_ h22, pc Ain (Ahu y10 [x2] y21 _ h24) [7, 8, 9, 10]] [] 0 [7, 8, 9, 10] hC [pq h14]
theorem Ba9 : EN 184 := en Tryz.func184
theorem A4m (x0 : Aj) (x1 : Ay) (r : Bool × Ay) (h : Vd x0 x1 = some r) : CO 206 [.agg (O9 x0), .d (.o 0 0)] (.box 211 [.o 1 0] :: .box 235 (zb x1.Ak [.os 2, .os 3, .os 4, .os 5, .os 6]) :: zp x1.Aw [v6_ x1.acts]) (.d (Bo r.1)) (.box 211 [.o 1 0] :: .box 235 (zb r.2.Ak [.os 2, .os 3, .os 4, .os 5, .os 6]) :: zp r.2.Aw [v6_ r.2.acts]) := by
 unfold Vd at h
 refine co 21 Tryz.func206 λ C hC => ?_
 obtain ⟨y1, h2, h⟩ := Ax h
 replace h := sI h
 subst h
 exact wr n4_ 25 [] [pv Arh (λ hg => Aq2 x1.Ak x1.Aw x0.A _ (Bb h2 hg))] [] 7 n7_ hC []
theorem A6j : EN 206 := en Tryz.func206
theorem Auz (x0 : Ay) (x1 : Int) (r : Int) (h : P9 x0 x1 = some r) : CO 234 [.d (.ip [.v (.int .i64 x0.Ak.Al), .s (x0.Ak.Ad.map Bi), .s (x0.Ak.Ac.map Br), .s (x0.Ak.Af.map q65), .v (.int .i64 x0.Ak.Phase), .v (.int .i64 x0.Ak.An), .s (x0.Aw.Ag.map pB), .s (x0.Aw.Ac.map A_), .s (x0.Aw.Aq.map pI), .s (x0.Aw.Ao.map q86), .s (x0.acts.map q49)]), .d (I x1)] [] (.d (I r)) [] := by
 unfold P9 at h
 refine co 27 Tryz.func234 λ C hC => ?_
 obtain ⟨y1, h2, y3, h4, h⟩ := Bc h
 replace h := sI h
 subst h
 exact wr [0, 1, 4] 25 [] [pc Azq (Ay7 x0.Ak x0.Aw x1 _ h2) [], pc Azr (Ay8 x0.Ak x0.Aw x1 _ h4) []] [] 0 [] hC []
theorem Avt : EN 234 := en Tryz.func234
def L4 : List Nat := [0, 1, 2, 3, 4, 5, 6, 7, 8, 9, 10, 13, 14, 30, 33, 34, 35, 40, 61]
def Ajz (x0 : Aa) (x1 : Bd) (x2 : Ab) (x3 : Int) (z0 : Unit) : List Res := [.box 29 (d29 x0), .box 31 (d31 x1), .box 36 (d36 x2), .box 3 [I x3], .box 3 [I 0], .box 4 [Bo false], .non]
def Aor (x0 : Aa) (x1 : Bd) (x2 : Ab) (x3 : Int) (v175_0 : Int × Bool) : List Res := [.box 29 (d29 x0), .box 31 (d31 x1), .box 36 (d36 x2), .box 3 [I x3], .box 3 [I v175_0.1], .box 4 [Bo v175_0.2], .non]
theorem A_x (x0 : Aa) (x1 : Bd) (x2 : Ab) (x3 : Int) (r : Int × Bool) (h : All x0 x1 x2 x3 = some r) : CO 175 [.agg (d29 x0), .agg (d31 x1), .agg (d36 x2), .d (I x3)] [] (.tup [.d (I r.1), .d (Bo r.2)]) [] := by
 unfold All at h
 refine co 63 Tryz.func175 λ C hC => ?_
 obtain ⟨y1, h2, h⟩ := Ax h
 refine wn L4 28 [] [pc Ue (Ty x0 x2 x3 _ h2) [], pc e59 (k59 x1 _ rfl) [], pL_ [(!(F59 x1), false)] pI y1.1.Ac] [] 0 n7_ [4, 5, 6, 7, 8, 9, 10, 30] hC [] ?_
 rcases cB h with ⟨h3, h⟩ | ⟨h3, h⟩
 ·replace h := sI h
  subst h
  exact wr L4 24 [true] [] [] 0 [] hC [pq h3]
 ·refine ws L4 27 [false] [pc Ba2 (A_l y1.1.Ac) []] [] 0 [0, 1, 2, 3, 4, 5, 7] [(4, dO 0 0), (5, dO 1 0), (6, dO 2 0), (7, dO 3 0), (8, dO 4 0), (9, dO 5 0), (33, .d (.fn (.func 236) [] [.o 6 0]))] [.box 29 (d29 x0), .box 31 (d31 x1), .box 36 (d36 x2), .box 3 [I x3], .box 3 [I 0], .box 4 [Bo false], .box 22 [DS pI y1.1.Ac]] hC [pq h3] ?_
  obtain ⟨w0, hm0, hret0, hnext0⟩ := Ar h
  clear h
  refine A0i (by kernel_rfl) (t := 33) (d := 13) (p := 35) (gf := 236) (j := 6) (ty := 22) Wz (bw y1.1.Ac) (Xh x0 x1 x2 x3) (Ajz x0 x1 x2 x3) (Aor x0 x1 x2 x3) w0 () (λ a0 => dI a0.2) hm0 (A3h y1.1.Ac) (by kernel_rfl) (by kernel_rfl) (by kernel_rfl) (by kernel_rfl) (by kernel_rfl) [(4, dO 0 0), (5, dO 1 0), (6, dO 2 0), (7, dO 3 0), (8, dO 4 0), (9, dO 5 0)] (by kernel_rfl) (by kernel_rfl) (A9u (a := 34) (b := 35) (by kernel_rfl)) (A71 34 35 (by kernel_rfl) (by decide) (by decide)) (by decide) rfl (Up.of_nil rfl) 7 (by kernel_rfl) (aA hC (bh rfl)) (λ C2 z0 hh hup2 hs0 => ?_) (λ C2 v175_0 hh hup2 hr0 a w hsR => ?_) (λ l C' a0 z0 w0b hlen hdf h hkr => ?_)
  ·have hC : C2.h.length <= 0 := by rw [hh]; exact hC
   have h := hnext0 _ hs0
   replace h := sI h
   subst h
   exact Aoq (bs := []) Hv L4 24 [] [] [] [.cell 8 3, .cell 9 4] 0 [] rfl hC trivial trivial (by kernel_rfl) hup2
  ·have hC : C2.h.length <= 0 := by rw [hh]; exact hC
   have h := hret0 _ hr0
   replace h := sI h
   subst h
   exact hsR.retM [] [.cell 8 3, .cell 9 4] 0 [] rfl hC (by kernel_rfl) hup2
  ·have hC : C'.h.length <= 7 := hlen
   unfold Xh at h
   obtain ⟨y4, h5, y6, h7, h⟩ := Bc h
   refine wn L4 25 [] [pc Arg (Aq1 x0 a0.2 _ h5) [], pc Kj (Kf x2 2 y4 _ h7) []] [] 7 n7_ [4, 5, 6, 7, 8, 9, 13, 40] hC [] ?_
   rcases cB h with ⟨h8, h⟩ | ⟨h8, h⟩
   ·exact wx w0b (λ _ => []) (Ajz x0 x1 x2 x3) L4 23 [true] [] [] 7 n7_ _ hC [pq h8] (sI h).symm
   ·obtain ⟨y9, h10, y11, h12, y13, h14, h⟩ := B0 h
    refine wn L4 27 [false] [pc Azr (Ay8 x0 x2 x3 _ h10) [], pr Br h12, pc Azq (Ay7 x0 x2 x3 _ h14) []] [] 7 n7_ [8, 9, 13, 61] hC [pq h8] ?_
    rcases cB h with ⟨h15, h⟩ | ⟨h15, h⟩
    ·exact A3q (bs := [((Awg x1 y9 y11 y13), true)]) (Rr := (Aor x0 x1 x2 x3)) Hv L4 24 [true] [] [] 7 n7_ (a0.2, true) hC trivial ⟨h15, trivial⟩ (by kernel_rfl) (sI h).symm
    ·exact wx w0b (λ _ => []) (Ajz x0 x1 x2 x3) L4 24 [false] [] [] 7 n7_ _ hC [pq h15] (sI h).symm
theorem Bbe : EN 175 := en Tryz.func175
theorem A_w (x0 : Aa) (x1 : Bd) (x2 : Ab) (x3 : Int) (r : Bool) (h : Alk x0 x1 x2 x3 = some r) : CO 177 [.agg (d29 x0), .agg (d31 x1), .agg (d36 x2), .d (I x3)] [] (.d (Bo r)) [] := by
 unfold Alk at h
 refine co 32 Tryz.func177 λ C hC => ?_
 obtain ⟨y1, h2, y3, h4, y5, h6, h⟩ := B0 h
 replace h := sI h
 subst h
 exact wr [0, 1, 2, 3, 4, 5, 6, 8] 25 [] [pc e59 (k59 x1 _ rfl) [], pw Arh (λ hg => Aq2 x0 x2 x3 _ (Bb h2 hg)) [], pw Azq (λ hg => Ay7 x0 x2 x3 _ (Bb h4 hg)) [], pw Azr (λ hg => Ay8 x0 x2 x3 _ (Bb h6 hg)) []] [] 0 [] hC []
theorem Bbd : EN 177 := en Tryz.func177
def zV : List Nat := [0, 1, 2, 3, 4, 5, 8, 9, 10, 12, 19, 20, 25]
theorem A42 (x0 : Aa) (x1 : Ab) (x2 : Int) (x3 : Int) (r : (List Ap) × Bool) (h : Vo x0 x1 x2 x3 = some r) : CO 179 [.agg (d29 x0), .agg [.os 0, .os 1, .os 2, .os 3], .d (I x2), .d (I x3)] (zp x1 []) (.tup [.d (DS q49 r.1), .d (Bo r.2)]) (zp x1 []) := by
 unfold Vo at h
 refine co 49 Tryz.func179 λ C hC => ?_
 obtain ⟨y1, h2, h⟩ := Ax h
 rcases cB h with ⟨h3, h⟩ | ⟨h3, h⟩
 ·replace h := sI h
  subst h
  exact wr zV 32 [true] [pr A_ h2, pn A_ h2] [] 4 n4_ hC [pq h3]
 ·rcases cB h with ⟨h4, h⟩ | ⟨h4, h⟩
  ·obtain ⟨y5, h6, y7, h8, y9, h10, h⟩ := B0 h
   replace h := sI h
   subst h
   exact wr zV 39 [false, true] [pr A_ h2, pn A_ h2, pb Arf (Aq0 x0 x1 x2 _ h6), pb A6f (A4i x0 x1 y5.1 _ h8), pc Arg (Aq1 x0 x3 _ h10) []] [] 4 n4_ hC [pq h3, pq h4]
  ·replace h := sI h
   subst h
   exact wr zV 37 [false, false] [pr A_ h2, pn A_ h2] [] 4 n4_ hC [pq h3, pq h4]
theorem A6z : EN 179 := en Tryz.func179
theorem A8s (x0 : List By) (r : Bool) (h : Asp x0 = some r) : CO 92 [.d (DS q63 x0), .d (.fn (.func 93) [] [])] [] (.d (Bo r)) [] := by
 unfold Asp at h
 refine co 9 Tryz.func92 λ C hC => ?_
 obtain ⟨y1, h2, h⟩ := Ax h
 replace h := sI h
 subst h
 exact wr [0, 1, 4] 25 [] [pc A7b (A5e x0 _ h2) []] [] 0 [] hC []
theorem A9c : EN 92 := en Tryz.func92
theorem A_c (rec46 : Aa -> Ab -> Int -> Option Bool) (ih46 : ∀ (x0 : Aa) (x1 : Ab) (x2 : Int) (r : Bool), rec46 x0 x1 x2 = some r -> CO 46 [.agg (d29 x0), .agg (d36 x1), .d (I x2)] [] (.d (Bo r)) []) (x0 : Aa) (x1 : Ab) (x2 : Int) (r : Bool) (h : A0r rec46 x0 x1 x2 = some r) : CO 46 [.agg (d29 x0), .agg (d36 x1), .d (I x2)] [] (.d (Bo r)) [] := by
 unfold A0r at h
 refine co 53 Tryz.func46 λ C hC => ?_
 obtain ⟨y1, h2, y3, h4, y5, h6, h⟩ := B0 h
 obtain ⟨y7, h8, y9, h10, h⟩ := Bc h
 refine wn [0, 1, 2, 3, 4, 6, 7, 8, 43] 28 [] [pc A7p (A5s x0 x1 x2 _ h2) [], pw Arh (λ hg => Aq2 x0 x1 y1.1 _ (Bb h4 hg)) [], pw Kj (λ hg => Kf x1 4 x2 _ (Bb h6 hg)) [], pR pI h8, pR q65 h10] [] 0 [0, 1] [2, 3, 4, 6, 43] hC [] ?_
 rcases cB h with ⟨h11, h⟩ | ⟨h11, h⟩
 ·cases h
 ·obtain ⟨y12, h13, y14, h15, h⟩ := Bc h
  replace h := sI h
  subst h
  exact wr [0, 1, 2, 3, 4, 6, 7, 8, 43] 25 [false] [pr q65 h13, pc A7o (A5r rec46 ih46 y12.Needs x0 x1 _ h15) [0, 1]] [] 0 [] hC [pq h11]
theorem A_b (n : Nat) : ∀ (x0 : Aa) (x1 : Ab) (x2 : Int) (r : Bool), A0q n x0 x1 x2 = some r -> CO 46 [.agg (d29 x0), .agg (d36 x1), .d (I x2)] [] (.d (Bo r)) [] := by
 induction n with
 | zero => intro x0 x1 x2 r h; cases h
 | succ n ih => intro x0 x1 x2 r h; exact A_c _ ih x0 x1 x2 r h
theorem k46 (x0 : Aa) (x1 : Ab) (x2 : Int) (r : Bool) (h : F46 x0 x1 x2 = some r) : CO 46 [.agg (d29 x0), .agg (d36 x1), .d (I x2)] [] (.d (Bo r)) [] := A_b 1000 x0 x1 x2 r h
def qA : List Nat := [0, 1, 3, 4, 5, 6, 16]
def Yc  (z0 : Sg5) : St := [(0, dO 0 0), (3, dO 4 0), (4, dO 5 0), (5, dO 6 0), (6, dI z0.1)]
def Aar (x1 : Aa) (y1 : Int × Ah) (y3 : Ab × Ah) (z0 : Sg5) : List Res := (.box 90 [DS pI z0.2.1, I z0.2.2.1] :: zs x1 (.box 29 [I x1.Al, .os 1, .os 2, .os 3, I x1.Phase, I x1.An] :: .box 40 [I 0, .os 11, .os 12, .os 13, .os 14, .os 15, .os 16] :: .box 40 [I y1.1, .os 7, .os 8, .os 9, .os 10, .os 17, .os 18] :: zp y3.1 (ze [v3_ ([] : List A0), v1_ ([] : List Bg), v3_ (Eo z0), v1_ ([] : List Bg)])))
def Agx  (z0 : Sg5) : St := [(4, dO 4 0), (5, dO 5 0)]
def Ajo (x1 : Aa) (y1 : Int × Ah) (y3 : Ab × Ah) (z0 : Sg5) : List Res := (.box 90 [DS pI z0.2.1, I z0.2.2.1] :: zs x1 (.box 40 [I 0, .os 10, .os 11, .os 12, .os 13, .os 14, .os 15] :: .box 40 [I y1.1, .os 6, .os 7, .os 8, .os 9, .os 16, .os 17] :: zp y3.1 (ze [v3_ ([] : List A0), v1_ ([] : List Bg), v3_ (Eo z0), v1_ ([] : List Bg)])))
theorem A82 (x0 : Ah) (x1 : Aa) (r : Az × Ah) (h : vG x0 x1 = some r) : CO 31 [.d (.o 0 0), .agg [I x1.Al, .os 1, .os 2, .os 3, I x1.Phase, I x1.An]] (.box 90 (d90 x0) :: zs x1 []) (.agg [I r.1.Time, .os 4, .os 5, .os 6, .os 7, .os 8, .os 9]) (.box 90 (d90 r.2) :: zs x1 (zp r.1.Power [v3_ r.1.A5, v1_ r.1.A6])) := by
 unfold vG at h
 refine co 30 Tryz.func31 λ C hC => ?_
 obtain ⟨y1, h2, y3, h4, h⟩ := Bc h
 refine ws qA 28 [] [⟨.flts [.box 40 [I 0, .p (.v (.slice none 0 0)), .p (.v (.slice none 0 0)), .p (.v (.slice none 0 0)), .p (.v (.slice none 0 0)), .p (.v (.slice none 0 0)), .p (.v (.slice none 0 0))]], trivial⟩, pc e78 (k78 x0 5 20 _ h2) [0], pc A9f (A8v y1.2 x1 _ h4) n4_, ⟨.flt 6 (.box 40 [I 0, .p (.v (.slice none 0 0)), .p (.v (.slice none 0 0)), .p (.v (.slice none 0 0)), .p (.v (.slice none 0 0)), .p (.v (.slice none 0 0)), .p (.v (.slice none 0 0))]) (.box 40 [I 0, .p (.v (.slice none 0 0)), .p (.v (.slice none 0 0)), .p (.v (.slice none 0 0)), .p (.v (.slice none 0 0)), .p (.v (.slice none 0 0)), .p (.v (.slice none 0 0))]), rfl⟩] [.ownb 5 1 4 1, .ownb 5 2 120 4, .ownb 5 3 3 1, .ownb 5 4 86 2, .ownb 5 5 130 2, .ownb 5 6 51 5, .ownb 6 5 130 2, .ownb 6 6 51 5] 4 A97 (Yc (0, y3.2.L, y3.2.At, ([] : List A0))) (Aar x1 y1 y3 (0, y3.2.L, y3.2.At, ([] : List A0))) hC [] ?_
 obtain ⟨w0, hm0, hret0, hnext0⟩ := Ar h
 clear h
 refine wc w0 (Agx) (Ajo x1 y1 y3) ?_ λ z0 hs0 => ?_
 ·refine wb ?_
  refine ww (Yc) (Aar x1 y1 y3) hm0 λ z0 w0b h hb0 hr0 => ?_
  unfold Zx at h
  rcases cB h with ⟨h5, h⟩ | ⟨h5, h⟩
  ·obtain ⟨y6, h7, y8, h9, y10, h11, h⟩ := B0 h
   exact wx w0b (Yc) (Aar x1 y1 y3) qA 31 [true] [pc e78 (k78 (⟨z0.2.1, z0.2.2.1⟩ : Ah) (-1) 4 _ h7) [0], pc e78 (k78 y6.2 (-1) 4 _ h9) [0], pa B2 2 h11] [] 4 [0, 1, 2, 3, 4, 5, 6, 7, 8, 9, 10, 11, 12, 13, 14, 15, 16, 19, 18] _ hC [pq h5] (sI h).symm
  ·exact wx w0 (Agx) (Ajo x1 y1 y3) qA 26 [false] [] [] 4 [0, 1, 2, 3, 5, 6, 7, 8, 9, 10, 11, 12, 13, 14, 15, 16, 17, 18] (z0.1, z0.2.1, z0.2.2.1, (Eo z0)) hC [pq h5] (hb0 _ (sI h).symm)
 ·have h := hnext0 _ hs0
  replace h := sI h
  subst h
  exact wr qA 23 [] [] [] 4 [0, 1, 2, 3, 6, 7, 8, 9, 16, 17] hC []
theorem A9m : EN 31 := en Tryz.func31
def Ob : List Nat := [0, 1, 2, 3, 4, 6, 7, 8, 9, 11, 15, 19, 29, 66]
theorem A_j (x0 : Aa) (x1 : Ab) (x2 : Int) (r : Int) (h : Zz x0 x1 x2 = some r) : CO 220 [.agg (d29 x0), .agg (d36 x1), .d (I x2)] [] (.d (I r)) [] := by
 unfold Zz at h
 refine co 67 Tryz.func220 λ C hC => ?_
 obtain ⟨y1, h2, h⟩ := Ax h
 refine wn Ob 29 [] [pc e43 (k43 x0 x1 _ h2) []] [] 0 [0, 1] [2, 3, 4, 6, 7, 15] hC [] ?_
 rcases cB h with ⟨h3, h⟩ | ⟨h3, h⟩
 ·replace h := sI h
  subst h
  exact wr Ob 24 [true] [] [] 0 [] hC [pq h3]
 ·rcases cB h with ⟨h4, h⟩ | ⟨h4, h⟩
  ·replace h := sI h
   subst h
   exact wr Ob 27 [false, true] [pL_ [(decide (x2 < 0), false)] Bi x0.Ad] [] 0 [] hC [pq h3, pq h4]
  ·obtain ⟨y5, h6, h⟩ := Ax h
   refine wn Ob 27 [false, false] [pL_ [(decide (x2 < 0), false)] Bi x0.Ad, pc Bax (A_g x0 x1 x2 _ h6) []] [] 0 [0, 1] [2, 3, 4, 6, 29] hC [pq h3, pq h4] ?_
   rcases cB h with ⟨h7, h⟩ | ⟨h7, h⟩
   ·replace h := sI h
    subst h
    exact wr Ob 24 [true] [] [] 0 [] hC [pq h7]
   ·obtain ⟨y8, h9, y10, h11, y12, h13, y14, h15, h⟩ := Cn h
    refine wn Ob 33 [false] [pr Bi h9, pc Ue (Ty x0 x1 y8.A _ h11) [], pw Yy (λ hg => Yq y10.1.Al y8.B _ (Bb h13 hg)) [], pw Baw (λ hg => A_f x0 x1 y8 _ (Bb h15 hg)) []] [] 0 [] [6, 66] hC [pq h7] ?_
    rcases cB h with ⟨h16, h⟩ | ⟨h16, h⟩
    ·replace h := sI h
     subst h
     exact wr Ob 24 [true] [] [] 0 [] hC [pq h16]
    ·replace h := sI h
     subst h
     exact wr Ob 25 [false] [] [] 0 [] hC [pq h16]
theorem Ba0 : EN 220 := en Tryz.func220
def Hx : List Nat := [0, 1, 4, 5, 6, 8, 13, 14, 15, 16, 32, 38, 39, 40, 41]
def Nz (x0 : Ay) (n0 : Nat) (z0 : Sg8) : St := [(0, dO 0 0), (1, .d (.fn (.func 206) [] [.o 6 0])), (4, dS 7), (13, .d (DS Bi x0.Ak.Ad)), (14, dI (ln x0.Ak.Ad)), (15, dI (cnt 0 n0))]
def Rs  (n0 : Nat) (z0 : Sg8) : List Res := [.box 235 [I z0.1, DS Bi z0.2.1, DS Br z0.2.2.1, DS q65 (g3_ z0), I (g4_ z0), I (g5_ z0), .os 8, .os 9, .os 10, .os 11, .os 12], .non, .non, .non, .non, .non, .box 211 [.o 0 0], v0_ (g6_ z0), v2_ (g7_ z0), v5_ (g8_ z0), v0_ (g9_ z0), v4_ (Da z0), v6_ (Iu z0)]
def Acb  (z0 : Sg8) : St := [(0, dO 0 0), (4, dS 7)]
def Adz  (z0 : Sg8) : List Res := [.box 235 [I z0.1, DS Bi z0.2.1, DS Br z0.2.2.1, DS q65 (g3_ z0), I (g4_ z0), I (g5_ z0), .os 8, .os 9, .os 10, .os 11, .os 12], .non, .non, .non, .non, .non, .box 211 [.o 0 0], v0_ (g6_ z0), v2_ (g7_ z0), v5_ (g8_ z0), v0_ (g9_ z0), v4_ (Da z0), v6_ (Iu z0)]
def Su (z0 : Sg8) (n1 : Nat) (z1 : Sg7) : St := [(0, dO 0 0), (38, dS 7), (39, dI (ln (g6_ z0))), (40, dI (cnt 0 n1))]
def Zf (z0 : Sg8) (n1 : Nat) (z1 : Sg7) : List Res := [.box 235 [I z1.1, DS Bi z1.2.1, DS Br z1.2.2.1, DS q65 (g3_ z1), I (g4_ z1), I (g5_ z1), .os 8, .os 9, .os 10, .os 11, .os 12], .non, .non, .non, .non, .non, .box 211 [.o 0 0], v0_ (g6_ z0), v2_ (g6_ z1), v5_ (g7_ z1), v0_ (g8_ z1), v4_ (g9_ z1), v6_ (Fx z1)]
def Aca  (z1 : Sg7) : St := []
def Ady  (z1 : Sg7) : List Res := [.box 235 [I z1.1, DS Bi z1.2.1, DS Br z1.2.2.1, DS q65 (g3_ z1), I (g4_ z1), I (g5_ z1), .os 7, .os 8, .os 9, .os 10, .os 11], .non, .non, .non, .non, .non, .box 211 [.o 0 0], v2_ (g6_ z1), v5_ (g7_ z1), v0_ (g8_ z1), v4_ (g9_ z1), v6_ (Fx z1)]
theorem A4p (x0 : Ay) (r : Ay) (h : Vi x0 = some r) : CO 204 [.d (.o 0 0), .d (.fn (.func 206) [] [.o 6 0])] (.box 235 (zb x0.Ak [.os 1, .os 2, .os 3, .os 4, .os 5]) :: zp x0.Aw [v6_ x0.acts, .box 211 [.o 0 0]]) (.tup []) (.box 235 (zb r.Ak [.os 7, .os 8, .os 9, .os 10, .os 11]) :: .non :: .non :: .non :: .non :: .non :: .box 211 [.o 0 0] :: zp r.Aw [v6_ r.acts]) := by
 unfold Vi at h
 refine co 48 Tryz.func204 λ C hC => ?_
 refine ws Hx 26 [] [pl Bi x0.Ak.Ad] [.own 4 3 1, .mv 1, .mv 2, .mv 3, .mv 4, .mv 5] 7 Ij (Nz x0 0 (zt x0.Ak (([] : List Int), zu x0.Aw x0.acts))) (Rs 0 (zt x0.Ak (([] : List Int), zu x0.Aw x0.acts))) hC [] ?_
 obtain ⟨w0, hm0, hret0, hnext0⟩ := Ar h
 clear h
 refine wc w0 (Acb) (Adz) ?_ λ z0 hs0 => ?_
 ·refine wb ?_
  refine Bn 13 rfl λ hl0 => ?_
  refine wl (Nz x0) (Rs) hm0 (λ z0 hn0 => ?_) λ n0 a0 z0 w0b hi0 hx0 h hb0 hr0 => ?_
  ·clear hm0
   exact wx w0 (Acb) (Adz) Hx 26 [false] [] [] 7 Ij _ hC [pq (Be hl0)] hn0
  ·unfold Vh at h
   obtain ⟨y1, h2, y3, h4, h⟩ := Bc h
   refine wn Hx 32 [true] [pt hx0 hl0, pr pB h2, pn pB h2, ⟨.whenR [(y1, true)] (.call 206 [.agg (O9 a0), dO 0 0] [.box 211 [.o 1 0], .box 235 [I z0.1, DS Bi z0.2.1, DS Br z0.2.2.1, DS q65 (g3_ z0), I (g4_ z0), I (g5_ z0), .os 2, .os 3, .os 4, .os 5, .os 6], v2_ (g7_ z0), v5_ (g8_ z0), v0_ (g9_ z0), v4_ (Da z0), v6_ (Iu z0)] (dB y3.1) (.box 211 [.o 1 0] :: .box 235 (zb y3.2.Ak [.os 2, .os 3, .os 4, .os 5, .os 6]) :: zp y3.2.Aw [v6_ y3.2.acts]) [6, 0, 8, 9, 10, 11, 12]), ⟨λ hg => ⟨A6j, (A4m a0 (⟨(⟨z0.1, z0.2.1, z0.2.2.1, (g3_ z0), (g4_ z0), (g5_ z0)⟩ : Aa), (⟨(g7_ z0), (g8_ z0), (g9_ z0), (Da z0)⟩ : Ab), (Iu z0)⟩ : Ay) _ (Bb h4 hg))⟩, λ hg => by have e := H5 h4 hg; subst e; rfl⟩⟩] [] 7 Ij [0, 1, 4, 5, 13, 14, 15, 32] hC [pq (A9 hi0 hl0)] ?_
   rcases cB h with ⟨h5, h⟩ | ⟨h5, h⟩
   ·obtain ⟨y6, h7, h⟩ := Ax h
    exact wx w0b (Nz x0 (n0 + 1)) (Rs (n0 + 1)) Hx 25 [true] [pa pI 1 h7] [] 7 [0, 1, 2, 3, 4, 5, 6, 13, 8, 9, 10, 11, 12] _ hC [pq h5] (sI h).symm
   ·exact wx w0b (Nz x0 (n0 + 1)) (Rs (n0 + 1)) Hx 25 [false] [] [] 7 Ij _ hC [pq h5] (sI h).symm
 ·have h := hnext0 _ hs0
  refine ws Hx 23 [] [pl pI (g6_ z0)] [] 7 Ij (Su z0 0 (z0.1, z0.2.1, z0.2.2.1, (g3_ z0), (g4_ z0), (g5_ z0), (g7_ z0), (g8_ z0), (g9_ z0), (Da z0), (Iu z0))) (Zf z0 0 (z0.1, z0.2.1, z0.2.2.1, (g3_ z0), (g4_ z0), (g5_ z0), (g7_ z0), (g8_ z0), (g9_ z0), (Da z0), (Iu z0))) hC [] ?_
  obtain ⟨w1, hm1, hret1, hnext1⟩ := Ar h
  clear h
  refine wc w1 (Aca) (Ady) ?_ λ z1 hs1 => ?_
  ·refine wb ?_
   refine Co 38 7 rfl rfl λ hl1 => ?_
   refine wl (Su z0) (Zf z0) hm1 (λ z1 hn1 => ?_) λ n1 a1 z1 w1b hi1 hx1 h hb1 hr1 => ?_
   ·clear hm1
    exact wx w1 (Aca) (Ady) Hx 26 [false] [] [] 7 [0, 1, 2, 3, 4, 5, 6, 8, 9, 10, 11, 12] _ hC [pq (Be hl1)] hn1
   ·unfold Aem at h
    obtain ⟨y8, h9, h⟩ := Ax h
    exact wx w1b (Su z0 (n1 + 1)) (Zf z0 (n1 + 1)) Hx 33 [true] [pr pI (Bp hx1 hl1), pn pI (Bp hx1 hl1), pc Aij (Ahq (⟨(⟨z1.1, z1.2.1, z1.2.2.1, (g3_ z1), (g4_ z1), (g5_ z1)⟩ : Aa), (⟨(g6_ z1), (g7_ z1), (g8_ z1), (g9_ z1)⟩ : Ab), (Fx z1)⟩ : Ay) a1 _ h9) [0, 8, 9, 10, 11, 12]] [] 7 [0, 1, 2, 3, 4, 5, 6, 7, 8, 9, 10, 11, 13] _ hC [pq (A9 hi1 hl1)] (sI h).symm
  ·have h := hnext1 _ hs1
   replace h := sI h
   subst h
   exact wf Hx 20 [] [] [] 7 Ft hC []
theorem A6m : EN 204 := en Tryz.func204
def Ml : List Nat := [0, 1, 2, 7, 8, 9, 10, 11, 12, 38]
def Nw (x1 : List Int) (x2 : Int) (n0 : Nat) (z0 : (List Int) × (List Ap)) : St := [(0, dO 0 0), (2, dI x2), (9, dS 6), (10, dI (ln x1)), (11, dI (cnt 0 n0))]
def Rl (x0 : Ay) (x1 : List Int) (n0 : Nat) (z0 : (List Int) × (List Ap)) : List Res := [.box 235 (zb x0.Ak [.os 7, .os 8, .os 9, .os 10, .os 11]), .non, .non, .non, .non, .non, v0_ x1, v2_ x0.Aw.Ag, v5_ x0.Aw.Ac, v0_ z0.1, v4_ x0.Aw.Ao, v6_ z0.2]
def Ab6  (z0 : (List Int) × (List Ap)) : St := []
def Adu (x0 : Ay) (x1 : List Int) (z0 : (List Int) × (List Ap)) : List Res := [.box 235 (zb x0.Ak [.os 7, .os 8, .os 9, .os 10, .os 11]), .non, .non, .non, .non, .non, v0_ x1, v2_ x0.Aw.Ag, v5_ x0.Aw.Ac, v0_ z0.1, v4_ x0.Aw.Ao, v6_ z0.2]
theorem A4k (x0 : Ay) (x1 : List Int) (x2 : Int) (r : Ay) (h : Qb x0 x1 x2 = some r) : CO 210 [.d (.o 0 0), .d (.os 6), .d (I x2)] (.box 235 (zb x0.Ak [.os 1, .os 2, .os 3, .os 4, .os 5]) :: zp x0.Aw [v6_ x0.acts, v0_ x1]) (.tup []) (.box 235 (zb r.Ak [.os 7, .os 8, .os 9, .os 10, .os 11]) :: .non :: .non :: .non :: .non :: .non :: v0_ x1 :: zp r.Aw [v6_ r.acts]) := by
 unfold Qb at h
 refine co 70 Tryz.func210 λ C hC => ?_
 refine ws Ml 23 [] [pl pI x1] [.mv 1, .mv 2, .mv 3, .mv 4, .mv 5] 7 Ft (Nw x1 x2 0 (x0.Aw.Aq, x0.acts)) (Rl x0 x1 0 (x0.Aw.Aq, x0.acts)) hC [] ?_
 obtain ⟨w0, hm0, hret0, hnext0⟩ := Ar h
 clear h
 refine wc w0 (Ab6) (Adu x0 x1) ?_ λ z0 hs0 => ?_
 ·refine wb ?_
  refine Co 9 6 rfl rfl λ hl0 => ?_
  refine wl (Nw x1 x2) (Rl x0 x1) hm0 (λ z0 hn0 => ?_) λ n0 a0 z0 w0b hi0 hx0 h hb0 hr0 => ?_
  ·clear hm0
   exact wx w0 (Ab6) (Adu x0 x1) Ml 26 [false] [] [] 7 Ft _ hC [pq (Be hl0)] hn0
  ·unfold Va at h
   obtain ⟨y1, h2, y3, h4, y5, h6, h⟩ := B0 h
   refine wn Ml 34 [true] [pr pI (Bp hx0 hl0), pn pI (Bp hx0 hl0), pb Avt (Auz (⟨x0.Ak, (⟨x0.Aw.Ag, x0.Aw.Ac, z0.1, x0.Aw.Ao⟩ : Ab), z0.2⟩ : Ay) x2 _ h2), pr pI h4, pn pI h4, pr q65 h6] [] 7 Ft [0, 2, 7, 8, 9, 10, 11, 38] hC [pq (A9 hi0 hl0)] ?_
   rcases cB h with ⟨h7, h⟩ | ⟨h7, h⟩
   ·obtain ⟨y8, h9, y10, h11, y12, h13, h⟩ := B0 h
    exact wx w0b (Nw x1 x2 (n0 + 1)) (Rl x0 x1 (n0 + 1)) Ml 27 [true] [pr pI h4, pn pI h4, pr pI h4, pu pI h4 h9, pr pI h11, pn pI h11, pa q49 3 h13] [] 7 [0, 1, 2, 3, 4, 5, 6, 7, 8, 9, 10, 12] _ hC [pq h7] (sI h).symm
   ·exact wx w0b (Nw x1 x2 (n0 + 1)) (Rl x0 x1 (n0 + 1)) Ml 25 [false] [] [] 7 Ft _ hC [pq h7] (sI h).symm
 ·have h := hnext0 _ hs0
  replace h := sI h
  subst h
  exact wf Ml 20 [] [] [] 7 Ft hC []
theorem A6h : EN 210 := en Tryz.func210
def Mk : List Nat := [0, 1, 2, 7, 8, 9, 10, 11, 28]
def Nv (x1 : List Int) (x2 : Int) (n0 : Nat) (z0 : Sg7) : St := [(0, dO 0 0), (2, dI x2), (8, dS 6), (9, dI (ln x1)), (10, dI (cnt 0 n0))]
def Rk (x1 : List Int) (n0 : Nat) (z0 : Sg7) : List Res := [.box 235 [I z0.1, DS Bi z0.2.1, DS Br z0.2.2.1, DS q65 (g3_ z0), I (g4_ z0), I (g5_ z0), .os 7, .os 8, .os 9, .os 10, .os 11], .non, .non, .non, .non, .non, v0_ x1, v2_ (g6_ z0), v5_ (g7_ z0), v0_ (g8_ z0), v4_ (g9_ z0), v6_ (Fx z0)]
def Ab5  (z0 : Sg7) : St := []
def Adt (x1 : List Int) (z0 : Sg7) : List Res := [.box 235 [I z0.1, DS Bi z0.2.1, DS Br z0.2.2.1, DS q65 (g3_ z0), I (g4_ z0), I (g5_ z0), .os 7, .os 8, .os 9, .os 10, .os 11], .non, .non, .non, .non, .non, v0_ x1, v2_ (g6_ z0), v5_ (g7_ z0), v0_ (g8_ z0), v4_ (g9_ z0), v6_ (Fx z0)]
theorem A4j (x0 : Ay) (x1 : List Int) (x2 : Int) (r : Ay) (h : Qa x0 x1 x2 = some r) : CO 211 [.d (.o 0 0), .d (.os 6), .d (I x2)] (.box 235 (zb x0.Ak [.os 1, .os 2, .os 3, .os 4, .os 5]) :: zp x0.Aw [v6_ x0.acts, v0_ x1]) (.tup []) (.box 235 (zb r.Ak [.os 7, .os 8, .os 9, .os 10, .os 11]) :: .non :: .non :: .non :: .non :: .non :: v0_ x1 :: zp r.Aw [v6_ r.acts]) := by
 unfold Qa at h
 refine co 33 Tryz.func211 λ C hC => ?_
 refine ws Mk 23 [] [pl pI x1] [.mv 1, .mv 2, .mv 3, .mv 4, .mv 5] 7 Ft (Nv x1 x2 0 (zt x0.Ak (zu x0.Aw x0.acts))) (Rk x1 0 (zt x0.Ak (zu x0.Aw x0.acts))) hC [] ?_
 obtain ⟨w0, hm0, hret0, hnext0⟩ := Ar h
 clear h
 refine wc w0 (Ab5) (Adt x1) ?_ λ z0 hs0 => ?_
 ·refine wb ?_
  refine Co 8 6 rfl rfl λ hl0 => ?_
  refine wl (Nv x1 x2) (Rk x1) hm0 (λ z0 hn0 => ?_) λ n0 a0 z0 w0b hi0 hx0 h hb0 hr0 => ?_
  ·clear hm0
   exact wx w0 (Ab5) (Adt x1) Mk 26 [false] [] [] 7 Ft _ hC [pq (Be hl0)] hn0
  ·unfold U_ at h
   obtain ⟨y1, h2, y3, h4, h⟩ := Bc h
   refine wn Mk 32 [true] [pr pI (Bp hx0 hl0), pn pI (Bp hx0 hl0), pr pI h2, pn pI h2, pv Avt (λ hg => Auz (⟨(⟨z0.1, z0.2.1, z0.2.2.1, (g3_ z0), (g4_ z0), (g5_ z0)⟩ : Aa), (⟨(g6_ z0), (g7_ z0), (g8_ z0), (g9_ z0)⟩ : Ab), (Fx z0)⟩ : Ay) x2 _ (Bb h4 hg))] [] 7 Ij [0, 2, 7, 8, 9, 10, 28] hC [pq (A9 hi0 hl0)] ?_
   rcases cB h with ⟨h5, h⟩ | ⟨h5, h⟩
   ·obtain ⟨y6, h7, h⟩ := Ax h
    exact wx w0b (Nv x1 x2 (n0 + 1)) (Rk x1 (n0 + 1)) Mk 25 [true] [pc A6l (A4o (⟨(⟨z0.1, z0.2.1, z0.2.2.1, (g3_ z0), (g4_ z0), (g5_ z0)⟩ : Aa), (⟨(g6_ z0), (g7_ z0), (g8_ z0), (g9_ z0)⟩ : Ab), (Fx z0)⟩ : Ay) a0 _ h7) [0, 7, 8, 9, 10, 11, 12]] [] 7 [0, 1, 2, 3, 4, 5, 6, 13, 14, 15, 16, 17] _ hC [pq h5] (sI h).symm
   ·exact wx w0b (Nv x1 x2 (n0 + 1)) (Rk x1 (n0 + 1)) Mk 25 [false] [] [] 7 Ft _ hC [pq h5] (sI h).symm
 ·have h := hnext0 _ hs0
  replace h := sI h
  subst h
  exact wf Mk 20 [] [] [] 7 Ft hC []
theorem A6g : EN 211 := en Tryz.func211
theorem k9 (x0 : Ah) (r : Y7) (h : F9 x0 = some r) : CO 9 [.d (.o 0 0)] [.box 90 (d90 x0)] (.tup [.agg [I r.1.Al, .os 1, .os 2, .os 3, I r.1.Phase, I r.1.An], .agg (d31 r.2.1), .agg [I r.2.2.1.Time, .os 4, .os 5, .os 6, .os 7, .os 8, .os 9]]) (.box 90 (d90 (Eo r)) :: zs r.1 (zp r.2.2.1.Power [v3_ r.2.2.1.A5, v1_ r.2.2.1.A6])) := by
 unfold F9 at h
 refine co 14 Tryz.func9 λ C hC => ?_
 obtain ⟨y1, h2, y3, h4, y5, h6, h⟩ := B0 h
 replace h := sI h
 subst h
 exact wr [0, 2, 3, 4, 5] 27 [] [pc e29 (k29 x0 _ h2) [0], pc e30 (k30 y1.2 _ h4) [0], pc A9m (A82 y3.2 y1.1 _ h6) [0, 4, 5, 6]] [] 1 [0, 4, 5, 6, 8, 9, 10, 11, 12, 13] hC []
theorem e9 : EN 9 := en Tryz.func9
def Aqs : List Nat := [0, 1, 2, 3, 4, 6, 7, 8, 9, 15]
theorem A_u (x0 : Aa) (x1 : Ab) (x2 : Int) (r : Ab × Int) (h : Z5 x0 x1 x2 = some r) : CO 182 [.agg (d29 x0), .agg (d36 x1), .d (I x2)] [] (.tup [.agg [.os 0, .os 1, .os 2, .os 3], .d (I r.2)]) (zp r.1 []) := by
 unfold Z5 at h
 refine co 29 Tryz.func182 λ C hC => ?_
 obtain ⟨y1, h2, h⟩ := Ax h
 refine wn Aqs 28 [] [pc Ba0 (A_j x0 x1 x2 _ h2) []] [.ownb 2 0 4 1, .ownb 2 1 120 4, .ownb 2 2 3 1, .ownb 2 3 86 2] 0 n7_ [2, 3, 4, 6, 7, 8, 15] hC [] ?_
 rcases cB h with ⟨h3, h⟩ | ⟨h3, h⟩
 ·replace h := sI h
  subst h
  exact wr Aqs 24 [true] [] [.ownb 2 0 4 1, .ownb 2 1 120 4, .ownb 2 2 3 1, .ownb 2 3 86 2] 0 [7, 8, 9, 10] hC [pq h3]
 ·obtain ⟨y4, h5, y6, h7, y8, h9, y10, h11, h⟩ := Cn h
  replace h := sI h
  subst h
  exact wr Aqs 29 [false] [pc Lp (Ll x1 _ h5) [], pr pB h7, pu pB h7 h9, ⟨.call 57 [.agg (d29 x0), .agg [.os 0, .os 1, .os 2, .os 3]] [v2_ y8, v5_ y4.Ac, v0_ y4.Aq, v4_ y4.Ao] (.tup [.agg [.os 4, .os 5, .os 6, .os 7], dI y10.2]) (v2_ y8 :: v5_ y4.Ac :: v0_ y4.Aq :: v4_ y4.Ao :: zp y10.1 []) [7, 8, 9, 10], ⟨e57, ((k57 x0 (⟨y8, y4.Ac, y4.Aq, y4.Ao⟩ : Ab) _ h11).lend (by kernel_rfl) (by kernel_rfl) (by kernel_rfl) ⟨Ba (λ _ => rfl), Ba (λ _ => rfl), Ba (λ _ => rfl), Ba (λ _ => rfl), trivial⟩ (by kernel_rfl) (by kernel_rfl))⟩⟩] [] 0 [12, 13, 14, 15] hC [pq h3]
theorem Bbb : EN 182 := en Tryz.func182
def Fi : List Nat := [0, 1, 2, 3, 4, 5, 6, 7, 8, 10, 11, 12, 13, 14, 15, 16, 17, 18, 19, 20, 21, 22, 27, 32, 59, 114, 123, 138]
def Te (y6 : Int × Bool) (y13 : (List Ap) × Bool) (z0 : Int) : St := [(6, dO 4 0), (7, dO 5 0), (10, dO 6 0), (11, dO 7 0), (12, dO 8 0), (13, .d (DS q49 [])), (14, dI 0), (17, dI y6.1), (21, .d (DS q49 y13.1))]
def Uw (x0 : Aa) (x1 : Bd) (x2 : Ab) (x4 : Int) (x5 : A0) (y6 : Int × Bool) (z0 : Int) : List Res := (zp x2 [.box 29 (d29 x0), .box 31 (d31 x1), .box 3 [I x4], .box 130 [I z0, I (I3 x5.Low y6.2 x4)], .box 130 [I 0, I 0]])
theorem A5l (x0 : Aa) (x1 : Bd) (x2 : Ab) (x3 : Int) (x4 : Int) (x5 : A0) (r : A0 × (List Ap) × Int) (h : Vu x0 x1 x2 x3 x4 x5 = some r) : CO 133 [.agg (d29 x0), .agg (d31 x1), .agg [.os 0, .os 1, .os 2, .os 3], .d (I x3), .d (I x4), .agg (Azy x5)] (zp x2 []) (.tup [.agg (Azy r.1), .d (DS q49 r.2.1), .d (I r.2.2)]) (zp x2 []) := by
 unfold Vu at h
 refine co 149 Tryz.func133 λ C hC => ?_
 obtain ⟨y1, h2, h⟩ := Ax h
 refine wn Fi 31 [] [pb e43 (k43 x0 x2 _ h2)] [] 4 G7 [3, 6, 7, 8, 10, 11, 12, 13, 14, 15, 16, 27] hC [] ?_
 rcases cB h with ⟨h3, h⟩ | ⟨h3, h⟩
 ·replace h := sI h
  subst h
  exact wr Fi 24 [true] [] [] 4 n4_ hC [pq h3]
 ·refine wn Fi 24 [false] [pc e59 (k59 x1 _ rfl) [], ⟨.when [((((!(F59 x1)) || (decide (x4 < 0))) || (decide (x4 > 2147483648))), false)] (.callB 174 [dI x5.High, .d (.ip [.v (.int .i64 x4)])] (dB (Lh x5.High x4)) [[]] 0 []), λ hg => Ja ⟨Avw, (Au2 x5.High x4 _ rfl)⟩⟩, ⟨.when [(((((!(F59 x1)) || (decide (x4 < 0))) || (decide (x4 > 2147483648))) || (!(Lh x5.High x4))), false)] (.callB 174 [dI x5.Low, .d (.ip [.v (.int .i64 x4)])] (dB (Lh x5.Low x4)) [[]] 0 []), λ hg => Ja ⟨Avw, (Au2 x5.Low x4 _ rfl)⟩⟩] [] 4 G7 [3, 6, 7, 8, 10, 11, 12, 13, 14, 32] hC [pq h3] ?_
  rcases cB h with ⟨h4, h⟩ | ⟨h4, h⟩
  ·replace h := sI h
   subst h
   exact wr Fi 24 [true] [] [] 4 n4_ hC [pq h4]
  ·rcases cB h with ⟨h5, h⟩ | ⟨h5, h⟩
   ·replace h := sI h
    subst h
    exact wr Fi 27 [false, true] [] [] 4 n4_ hC [pq h4, pq h5]
   ·obtain ⟨y6, h7, y8, h9, y10, h11, h⟩ := B0 h
    refine wn Fi 36 [false, false] [pb Bbe (A_x x0 x1 x2 x3 _ h7), pb Bbd (A_w x0 x1 x2 x3 _ h9), pc A60 (A43 x5.High y8 x4 _ rfl) [], pc A60 (A43 x5.Low y6.2 x4 _ rfl) [], pb Bbc (A_v x0 x2 x3 _ h11)] [] 4 G7 [3, 6, 7, 8, 10, 11, 12, 13, 14, 17, 19, 114] hC [pq h4, pq h5] ?_
    rcases cB h with ⟨h12, h⟩ | ⟨h12, h⟩
    ·obtain ⟨y13, h14, h⟩ := Ax h
     refine wn Fi 27 [true] [pc A6z (A42 x0 x2 x3 y10.1 _ h14) n4_] [] 4 [0, 1, 2, 3, 4, 5, 7, 8, 9] [6, 7, 10, 11, 12, 13, 14, 17, 21, 123] hC [pq h12] ?_
     obtain ⟨w0, h, hret0, hnext0⟩ := Ar h
     refine wc w0 (Te y6 y13) (Uw x0 x1 x2 x4 x5 y6) ?_ λ z0 hs0 => ?_
     ·unfold Vt at h
      rcases cB h with ⟨h15, h⟩ | ⟨h15, h⟩
      ·exact wx w0 (Te y6 y13) (Uw x0 x1 x2 x4 x5 y6) Fi 23 [true] [] [] 4 n9_ _ hC [pq h15] (sI h).symm
      ·exact wx w0 (Te y6 y13) (Uw x0 x1 x2 x4 x5 y6) Fi 23 [false] [] [] 4 n9_ _ hC [pq h15] (sI h).symm
     ·clear h; have h := hnext0 _ hs0
      replace h := sI h
      subst h
      exact wr Fi 23 [] [] [] 4 n4_ hC []
    ·rcases cB h with ⟨h16, h⟩ | ⟨h16, h⟩
     ·obtain ⟨y17, h18, h⟩ := Ax h
      replace h := sI h
      subst h
      exact wr Fi 31 [false, true] [pc Arg (Aq1 x0 y6.1 _ h18) []] [] 4 n4_ hC [pq h12, pq h16]
     ·replace h := sI h
      subst h
      exact wr Fi 30 [false, false] [] [] 4 n4_ hC [pq h12, pq h16]
theorem A7i : EN 133 := en Tryz.func133
theorem k42 (x0 : Fv) (r : Int) (h : F42 x0 = some r) : CO 42 [.agg (d57 x0)] [] (.d (I r)) [] := by
 unfold F42 at h
 refine co 37 Tryz.func42 λ C hC => ?_
 rcases cB h with ⟨h1, h⟩ | ⟨h1, h⟩
 ·cases h
 ·rcases cB h with ⟨h2, h⟩ | ⟨h2, h⟩
  ·cases h
  ·obtain ⟨y3, h4, h⟩ := Ax h
   rcases cB h with ⟨h5, h⟩ | ⟨h5, h⟩
   ·cases h
   ·replace h := sI h
    subst h
    exact wr [0, 1, 2, 3, 8, 33] 38 [false, false, false] [pl q63 x0.De, pc A9c (A8s x0.De _ h4) []] [] 0 [] hC [pq h1, pq h2, pq h5]
theorem e42 : EN 42 := en Tryz.func42
theorem A45 (x0 : Ay) (r : Ay) (h : Vq x0 = some r) : CO 172 [.d (.o 0 0)] (.box 235 (zb x0.Ak [.os 1, .os 2, .os 3, .os 4, .os 5]) :: zp x0.Aw [v6_ x0.acts]) (.tup []) (.box 235 (zb r.Ak [.os 6, .os 7, .os 8, .os 9, .os 10]) :: .non :: .non :: .non :: .non :: .non :: zp r.Aw [v6_ r.acts]) := by
 unfold Vq at h
 refine co 24 Tryz.func172 λ C hC => ?_
 obtain ⟨y1, h2, y3, h4, y5, h6, h⟩ := B0 h
 replace h := sI h
 subst h
 exact wf [0, 1] 27 [] [pc A6n (A4q x0 _ h2) n6_, pc A6m (A4p y1 _ h4) [0, 7, 8, 9, 10, 11, 6], ⟨.call 57 [.agg (d29 y3.Ak), .agg [.os 0, .os 1, .os 2, .os 3]] (zp y3.Aw []) (.tup [.agg [.os 4, .os 5, .os 6, .os 7], dI y5.2]) (zp y3.Aw (zp y5.1 [])) [12, 13, 14, 15], ⟨e57, ((k57 y3.Ak y3.Aw _ h6).lend (by kernel_rfl) (by kernel_rfl) (by kernel_rfl) ⟨Ba (λ _ => rfl), Ba (λ _ => rfl), Ba (λ _ => rfl), Ba (λ _ => rfl), trivial⟩ (by kernel_rfl) (by kernel_rfl))⟩⟩] [] 6 [0, 1, 2, 3, 4, 5, 17, 18, 19, 20, 16] hC []
theorem A62 : EN 172 := en Tryz.func172
def Mn : List Nat := [0, 2, 4, 5, 19, 20, 21, 22, 32]
def N2 (y3 : (List Ai)) (n0 : Nat) (z0 : Sg7) : St := [(0, dO 0 0), (2, dS 6), (19, dS 7), (20, dI (ln y3)), (21, dI (cnt 0 n0))]
def Rv (y1 : (List Int)) (y3 : (List Ai)) (n0 : Nat) (z0 : Sg7) : List Res := [.box 235 [I z0.1, DS Bi z0.2.1, DS Br z0.2.2.1, DS q65 (g3_ z0), I (g4_ z0), I (g5_ z0), .os 8, .os 9, .os 10, .os 11, .os 12], .non, .non, .non, .non, .non, v0_ y1, v8_ y3, v2_ (g6_ z0), v5_ (g7_ z0), v0_ (g8_ z0), v4_ (g9_ z0), v6_ (Fx z0)]
def Acg  (z0 : Sg7) : St := []
def Ad4  (z0 : Sg7) : List Res := [.box 235 [I z0.1, DS Bi z0.2.1, DS Br z0.2.2.1, DS q65 (g3_ z0), I (g4_ z0), I (g5_ z0), .os 6, .os 7, .os 8, .os 9, .os 10], .non, .non, .non, .non, .non, v2_ (g6_ z0), v5_ (g7_ z0), v0_ (g8_ z0), v4_ (g9_ z0), v6_ (Fx z0)]
theorem A44 (x0 : Ay) (r : Ay) (h : Qd x0 = some r) : CO 173 [.d (.o 0 0)] (.box 235 (zb x0.Ak [.os 1, .os 2, .os 3, .os 4, .os 5]) :: zp x0.Aw [v6_ x0.acts]) (.tup []) (.box 235 (zb r.Ak [.os 6, .os 7, .os 8, .os 9, .os 10]) :: .non :: .non :: .non :: .non :: .non :: zp r.Aw [v6_ r.acts]) := by
 unfold Qd at h
 refine co 48 Tryz.func173 λ C hC => ?_
 obtain ⟨y1, h2, y3, h4, h⟩ := Bc h
 refine ws Mn 25 [] [pc Ba3 (A_m x0.Ak _ h2) [], pc A1f (A09 x0.Ak x0.Aw _ h4) [1, 2, 3, 4], pl q84 y3] [.mv 1, .mv 2, .mv 3, .mv 4, .mv 5] 6 Ij (N2 y3 0 (zt x0.Ak (zu x0.Aw x0.acts))) (Rv y1 y3 0 (zt x0.Ak (zu x0.Aw x0.acts))) hC [] ?_
 obtain ⟨w0, hm0, hret0, hnext0⟩ := Ar h
 clear h
 refine wc w0 (Acg) (Ad4) ?_ λ z0 hs0 => ?_
 ·refine wb ?_
  refine Co 19 7 rfl rfl λ hl0 => ?_
  refine wl (N2 y3) (Rv y1 y3) hm0 (λ z0 hn0 => ?_) λ n0 a0 z0 w0b hi0 hx0 h hb0 hr0 => ?_
  ·clear hm0
   exact wx w0 (Acg) (Ad4) Mn 26 [false] [] [] 6 [0, 1, 2, 3, 4, 5, 8, 9, 10, 11, 12] _ hC [pq (Be hl0)] hn0
  ·unfold Vp at h
   obtain ⟨y5, h6, y7, h8, h⟩ := Bc h
   refine wn Mn 34 [true] [pr q84 (Bp hx0 hl0), pn q84 (Bp hx0 hl0), ⟨.call 168 [dS 0] [v0_ y1] (dS 1) [v0_ y1, v0_ y5] [6], ⟨A65, ((A48 y1 _ h6).lend (by kernel_rfl) (by kernel_rfl) (by kernel_rfl) ⟨Ba (λ _ => rfl), trivial⟩ (by kernel_rfl) (by kernel_rfl))⟩⟩, pc A6i (A4l y5 a0 _ h8) [14, 13], pl pI y7.2.Ac] [] 6 [0, 1, 2, 3, 4, 5, 6, 7, 8, 9, 10, 11, 12, 13, 15] [0, 2, 4, 5, 19, 20, 21, 32] hC [pq (A9 hi0 hl0)] ?_
   rcases cB h with ⟨h9, h⟩ | ⟨h9, h⟩
   ·obtain ⟨y10, h11, y12, h13, y14, h15, y16, h17, h⟩ := Cn h
    exact wx w0b (N2 y3 (n0 + 1)) (Rv y1 y3 (n0 + 1)) Mn 27 [true] [pr pI h11, pc A6h (A4k (⟨(⟨z0.1, z0.2.1, z0.2.2.1, (g3_ z0), (g4_ z0), (g5_ z0)⟩ : Aa), (⟨(g6_ z0), (g7_ z0), (g8_ z0), (g9_ z0)⟩ : Ab), (Fx z0)⟩ : Ay) y7.1 y10 _ h13) [0, 8, 9, 10, 11, 12, 14], pr pI h15, pc A6g (A4j y12 y7.1 y14 _ h17) [0, 15, 16, 17, 18, 19, 14]] [] 6 [0, 1, 2, 3, 4, 5, 6, 7, 20, 21, 22, 23, 24] _ hC [pq h9] (sI h).symm
   ·exact wx w0b (N2 y3 (n0 + 1)) (Rv y1 y3 (n0 + 1)) Mn 25 [false] [] [] 6 Ij _ hC [pq h9] (sI h).symm
 ·have h := hnext0 _ hs0
  replace h := sI h
  subst h
  exact wf Mn 20 [] [] [] 6 Aqp hC []
theorem A61 : EN 173 := en Tryz.func173
def zW : List Nat := [0, 1, 2, 3, 4, 5, 6, 7, 8, 9, 10, 11, 12, 13, 17, 23, 30, 31, 32, 33, 48]
def Agh (x0 : Fv) (n0 : Nat) (z0 : (List Int)) : St := [(4, dO 0 0), (5, dO 1 0), (6, .d (DS pI [])), (7, dI 0), (10, dS 2), (30, .d (DS q63 x0.De)), (31, dI (ln x0.De)), (32, dI (cnt 0 n0))]
def Ask (x1 : Aa) (x2 : Ab) (n0 : Nat) (z0 : (List Int)) : List Res := [.box 29 (d29 x1), .box 36 (d36 x2), v0_ z0]
def Aul  (z0 : (List Int)) : St := [(6, .d (DS pI [])), (7, dI 0), (10, dS 0)]
def Axv  (z0 : (List Int)) : List Res := [v0_ z0]
theorem k15 (x0 : Fv) (x1 : Aa) (x2 : Ab) (r : (List Int) × Int) (h : F15 x0 x1 x2 = some r) : CO 15 [.agg (d57 x0), .agg (d29 x1), .agg (d36 x2)] [] (.tup [.d (.os 0), .d (I r.2)]) [v0_ r.1] := by
 unfold F15 at h
 refine co 61 Tryz.func15 λ C hC => ?_
 obtain ⟨y1, h2, h⟩ := Ax h
 rcases cB h with ⟨h3, h⟩ | ⟨h3, h⟩
 ·cases h
 ·obtain ⟨y4, h5, h⟩ := Ax h
  refine wn zW 35 [false] [pc e42 (k42 x0 _ h2) [], pc e43 (k43 x1 x2 _ h5) []] [] 0 n3_ [3, 4, 5, 6, 7, 9, 23] hC [pq h3] ?_
  rcases cB h with ⟨h6, h⟩ | ⟨h6, h⟩
  ·cases h
  ·obtain ⟨y7, h8, h⟩ := Ax h
   refine ws zW 28 [false] [pl q63 x0.De, ⟨.room ((ln x0.De) * (8 + 1)) (List.replicate (Int.toNat (ln x0.De)) (pI 0)) (y7.map pI), Hi h8⟩, pl q63 x0.De] [] 0 [1, 2, 3] (Agh x0 0 y7) (Ask x1 x2 0 y7) hC [pq h6] ?_
   obtain ⟨w0, hm0, hret0, hnext0⟩ := Ar h
   clear h
   refine wc w0 (Aul) (Axv) ?_ λ z0 hs0 => ?_
   ·refine wb ?_
    refine Bn 30 rfl λ hl0 => ?_
    refine wl (Agh x0) (Ask x1 x2) hm0 (λ z0 hn0 => ?_) λ n0 a0 z0 w0b hi0 hx0 h hb0 hr0 => ?_
    ·clear hm0
     exact wx w0 (Aul) (Axv) zW 26 [false] [] [] 0 [2] _ hC [pq (Be hl0)] hn0
    ·unfold Ax5 at h
     obtain ⟨y9, h10, y11, h12, h⟩ := Bc h
     refine wn zW 34 [true] [pt hx0 hl0, pc A9k (A80 x1.Af (cnt 0 n0) _ h10) [3], pw e46 (λ hg => k46 x1 x2 y9.1 _ (Bb h12 hg)) []] [] 0 n5_ [4, 5, 6, 7, 10, 11, 12, 13, 30, 31, 32, 48] hC [pq (A9 hi0 hl0)] ?_
     rcases cB h with ⟨h13, h⟩ | ⟨h13, h⟩
     ·obtain ⟨y14, h15, y16, h17, y18, h19, y20, h21, h⟩ := Cn h
      exact wx w0b (Agh x0 (n0 + 1)) (Ask x1 x2 (n0 + 1)) zW 25 [true] [pr pI h15, pc e47 (k47 a0 y14 _ h17) [], pr pI h19, pu pI h19 h21] [] 0 n3_ _ hC [pq h13] (sI h).symm
     ·cases h
   ·have h := hnext0 _ hs0
    replace h := sI h
    subst h
    exact wr zW 23 [] [] [] 0 [0] hC []
theorem e15 : EN 15 := en Tryz.func15
def I9 : List Nat := [0, 1, 3, 4, 6, 17, 36, 55, 76, 82, 88, 96]
theorem A5j (x0 : A2) (x1 : Ap) (r : Int × A2) (h : Ip x0 x1 = some r) : CO 135 [.d (.o 0 0), .agg (d49 x1)] (.box 186 (zb x0.Ak [.os 1, .os 2, .os 3, .os 4, I x0.time]) :: zp x0.Aw []) (.d (I r.1)) (.box 186 (zb r.2.Ak [.os 5, .os 6, .os 7, .os 8, I r.2.time]) :: .non :: .non :: .non :: .non :: zp r.2.Aw []) := by
 unfold Ip at h
 refine co 101 Tryz.func135 λ C hC => ?_
 rcases cB h with ⟨h1, h⟩ | ⟨h1, h⟩
 ·obtain ⟨y2, h3, h⟩ := Ax h
  replace h := sI h
  subst h
  exact wr I9 34 [true] [⟨.call 182 [.agg (d29 x0.Ak), .agg [.os 0, .os 1, .os 2, .os 3], dI x1.Unit] (zp x0.Aw []) (.tup [.agg [.os 4, .os 5, .os 6, .os 7], dI y2.2]) (zp x0.Aw (zp y2.1 [])) [1, 2, 3, 4], ⟨Bbb, ((A_u x0.Ak x0.Aw x1.Unit _ h3).lend (by kernel_rfl) (by kernel_rfl) (by kernel_rfl) ⟨Ba (λ _ => rfl), Ba (λ _ => rfl), Ba (λ _ => rfl), Ba (λ _ => rfl), trivial⟩ (by kernel_rfl) (by kernel_rfl))⟩⟩] [.frz 1, .frz 2, .frz 3, .frz 4] 5 [0, 1, 2, 3, 4, 6, 7, 8, 9] hC [pq h1]
 ·rcases cB h with ⟨h4, h⟩ | ⟨h4, h⟩
  ·obtain ⟨y5, h6, h⟩ := Ax h
   replace h := sI h
   subst h
   exact wr I9 37 [false, true] [⟨.call 183 [.agg (d29 x0.Ak), .agg [.os 0, .os 1, .os 2, .os 3], dI x1.Unit] (zp x0.Aw []) (.tup [.agg [.os 4, .os 5, .os 6, .os 7], dI y5.2]) (zp x0.Aw (zp y5.1 [])) [1, 2, 3, 4], ⟨Bba, ((A_t x0.Ak x0.Aw x1.Unit _ h6).lend (by kernel_rfl) (by kernel_rfl) (by kernel_rfl) ⟨Ba (λ _ => rfl), Ba (λ _ => rfl), Ba (λ _ => rfl), Ba (λ _ => rfl), trivial⟩ (by kernel_rfl) (by kernel_rfl))⟩⟩] [.frz 1, .frz 2, .frz 3, .frz 4] 5 [0, 1, 2, 3, 4, 6, 7, 8, 9] hC [pq h1, pq h4]
  ·rcases cB h with ⟨h7, h⟩ | ⟨h7, h⟩
   ·obtain ⟨y8, h9, h⟩ := Ax h
    replace h := sI h
    subst h
    exact wr I9 40 [false, false, true] [⟨.call 184 [.agg (d29 x0.Ak), .agg [.os 0, .os 1, .os 2, .os 3], dI x1.Unit, dI x1.Value] (zp x0.Aw []) (.tup [.agg [.os 4, .os 5, .os 6, .os 7], dI y8.2]) (zp x0.Aw (zp y8.1 [])) [1, 2, 3, 4], ⟨Ba9, ((A_s x0.Ak x0.Aw x1.Unit x1.Value _ h9).lend (by kernel_rfl) (by kernel_rfl) (by kernel_rfl) ⟨Ba (λ _ => rfl), Ba (λ _ => rfl), Ba (λ _ => rfl), Ba (λ _ => rfl), trivial⟩ (by kernel_rfl) (by kernel_rfl))⟩⟩] [.frz 1, .frz 2, .frz 3, .frz 4] 5 [0, 1, 2, 3, 4, 6, 7, 8, 9] hC [pq h1, pq h4, pq h7]
   ·rcases cB h with ⟨h10, h⟩ | ⟨h10, h⟩
    ·obtain ⟨y11, h12, h⟩ := Ax h
     replace h := sI h
     subst h
     exact wr I9 43 [false, false, false, true] [pc A6y (A41 x0 x1.Unit _ h12) n5_] [.mv 1, .mv 2, .mv 3, .mv 4] 5 [0, 1, 2, 3, 4, 6, 7, 8, 9] hC [pq h1, pq h4, pq h7, pq h10]
    ·rcases cB h with ⟨h13, h⟩ | ⟨h13, h⟩
     ·obtain ⟨y14, h15, h⟩ := Ax h
      replace h := sI h
      subst h
      exact wr I9 46 [false, false, false, false, true] [pc A6x (A40 x0 x1.Unit _ h15) n5_] [.mv 1, .mv 2, .mv 3, .mv 4] 5 [0, 1, 2, 3, 4, 6, 7, 8, 9] hC [pq h1, pq h4, pq h7, pq h10, pq h13]
     ·rcases cB h with ⟨h16, h⟩ | ⟨h16, h⟩
      ·obtain ⟨y17, h18, h⟩ := Ax h
       replace h := sI h
       subst h
       exact wr I9 49 [false, false, false, false, false, true] [pc A6w (A4z x0 x1.Unit x1.Value _ h18) n5_] [.mv 1, .mv 2, .mv 3, .mv 4] 5 [0, 1, 2, 3, 4, 6, 7, 8, 9] hC [pq h1, pq h4, pq h7, pq h10, pq h13, pq h16]
      ·rcases cB h with ⟨h19, h⟩ | ⟨h19, h⟩
       ·obtain ⟨y20, h21, h⟩ := Ax h
        replace h := sI h
        subst h
        exact wr I9 52 [false, false, false, false, false, false, true] [pc A6v (A4y x0 _ h21) n5_] [] 5 [0, 1, 2, 3, 4, 6, 7, 8, 9] hC [pq h1, pq h4, pq h7, pq h10, pq h13, pq h16, pq h19]
       ·obtain ⟨y22, h23, h⟩ := Ax h
        replace h := sI h
        subst h
        exact wr I9 52 [false, false, false, false, false, false, false] [pc A6u (A4x x0 (⟨x1.Value, x1.Unit⟩ : Am) (x1.Kind == 8) _ h23) n5_] [] 5 [0, 1, 2, 3, 4, 6, 7, 8, 9] hC [pq h1, pq h4, pq h7, pq h10, pq h13, pq h16, pq h19]
theorem A7g : EN 135 := en Tryz.func135
theorem A46 (x0 : Ay) (r : Ay) (h : vT x0 = some r) : CO 171 [.d (.o 0 0)] (.box 235 (zb x0.Ak [.os 1, .os 2, .os 3, .os 4, .os 5]) :: zp x0.Aw [v6_ x0.acts]) (.tup []) (.box 235 (zb r.Ak [.os 6, .os 7, .os 8, .os 9, .os 10]) :: .non :: .non :: .non :: .non :: .non :: zp r.Aw [v6_ r.acts]) := by
 unfold vT at h
 refine co 6 Tryz.func171 λ C hC => ?_
 obtain ⟨y1, h2, y3, h4, h⟩ := Bc h
 replace h := sI h
 subst h
 exact wf [0] 23 [] [pc A62 (A45 x0 _ h2) n6_, pc A61 (A44 y1 _ h4) [0, 6, 7, 8, 9, 10]] [] 6 [0, 1, 2, 3, 4, 5, 11, 12, 13, 14, 15] hC []
theorem A63 : EN 171 := en Tryz.func171
def Ym : List Nat := [0, 1, 2, 3, 4, 5, 7, 8, 9, 10, 11, 12, 16, 21, 39, 55]
theorem k83 (x0 : Aa) (x1 : Ab) (x2 : Int) (x3 : Ap) (r : Ab × Int) (h : F83 x0 x1 x2 x3 = some r) : CO 83 [.agg (d29 x0), .agg (d36 x1), .d (I x2), .agg (d49 x3)] [] (.tup [.agg [.os 0, .os 1, .os 2, .os 3], .d (I r.2)]) (zp r.1 []) := by
 unfold F83 at h
 refine co 62 Tryz.func83 λ C hC => ?_
 obtain ⟨y1, h2, h⟩ := Ax h
 refine wn Ym 29 [] [pc e43 (k43 x0 x1 _ h2) []] [.ownb 3 0 4 1, .ownb 3 1 120 4, .ownb 3 2 3 1, .ownb 3 3 86 2] 0 n8_ [2, 4, 5, 7, 8, 9, 10, 16] hC [] ?_
 rcases cB h with ⟨h3, h⟩ | ⟨h3, h⟩
 ·replace h := sI h
  subst h
  exact wr Ym 24 [true] [] [.ownb 3 0 4 1, .ownb 3 1 120 4, .ownb 3 2 3 1, .ownb 3 3 86 2] 0 [8, 9, 10, 11] hC [pq h3]
 ·rcases cB h with ⟨h4, h⟩ | ⟨h4, h⟩
  ·replace h := sI h
   subst h
   exact wr Ym 27 [false, true] [] [.ownb 3 0 4 1, .ownb 3 1 120 4, .ownb 3 2 3 1, .ownb 3 3 86 2] 0 [8, 9, 10, 11] hC [pq h3, pq h4]
  ·obtain ⟨y5, h6, h⟩ := Ax h
   rcases cB h with ⟨h7, h⟩ | ⟨h7, h⟩
   ·replace h := sI h
    subst h
    exact wr Ym 30 [false, false, true] [pc A7h (A5k x0 x3 _ h6) []] [.ownb 3 0 4 1, .ownb 3 1 120 4, .ownb 3 2 3 1, .ownb 3 3 86 2] 0 [8, 9, 10, 11] hC [pq h3, pq h4, pq h7]
   ·obtain ⟨y8, h9, y10, h11, h⟩ := Bc h
    refine wn Ym 37 [false, false, false] [pc A7h (A5k x0 x3 _ h6) [], pc Lp (Ll x1 _ h9) [], pc A7g (A5j (⟨x0, y8, x2⟩ : A2) x3 _ h11) [12, 8, 9, 10, 11]] [] 0 [3, 4, 5, 6, 7, 12, 13, 14, 15, 16] [8, 9, 11, 12, 55] hC [pq h3, pq h4, pq h7] ?_
    rcases cB h with ⟨h12, h⟩ | ⟨h12, h⟩
    ·replace h := sI h
     subst h
     exact wr Ym 24 [true] [] [.ownb 0 0 4 1, .ownb 0 1 120 4, .ownb 0 2 3 1, .ownb 0 3 86 2] 0 [10, 11, 12, 13] hC [pq h12]
    ·replace h := sI h
     subst h
     exact wr Ym 25 [false] [] [] 0 [6, 7, 8, 9] hC [pq h12]
theorem e83 : EN 83 := en Tryz.func83
def Wf : List Nat := [0, 1, 2, 3, 4, 6, 7, 8, 9, 10, 15]
theorem A47 (x0 : Aa) (x1 : Ab) (r : Ab × (List Ap) × Int) (h : vU x0 x1 = some r) : CO 170 [.agg (d29 x0), .agg (d36 x1), .d (.fn (.func 171) [] [])] [] (.tup [.agg [.os 0, .os 1, .os 2, .os 3], .d (.os 4), .d (I r.2.2)]) (zp r.1 [v6_ r.2.1]) := by
 unfold vU at h
 refine co 34 Tryz.func170 λ C hC => ?_
 obtain ⟨y1, h2, h⟩ := Ax h
 refine wn Wf 28 [] [pc e43 (k43 x0 x1 _ h2) []] [.ownb 2 0 4 1, .ownb 2 1 120 4, .ownb 2 2 3 1, .ownb 2 3 86 2] 0 n7_ [2, 3, 4, 6, 7, 8, 9, 15] hC [] ?_
 rcases cB h with ⟨h3, h⟩ | ⟨h3, h⟩
 ·replace h := sI h
  subst h
  exact wr Wf 24 [true] [] [.ownb 2 0 4 1, .ownb 2 1 120 4, .ownb 2 2 3 1, .ownb 2 3 86 2, .own 7 49 3] 0 [7, 8, 9, 10, 11] hC [pq h3]
 ·obtain ⟨y4, h5, h⟩ := Ax h
  refine wn Wf 5 [false] [pc Lp (Ll x1 _ h5) []] [.ownb 11 10 49 3] 0 [2, 3, 4, 5, 6, 7, 8, 9, 10, 11, 12] [2, 6, 7, 8, 10] hC [pq h3] ?_
  obtain ⟨y6, h7, h⟩ := Ax h
  replace h := sI h
  subst h
  exact wr Wf 24 [] [pc A63 (A46 (⟨x0, y4, ([] : List Ap)⟩ : Ay) _ h7) [9, 5, 6, 7, 8, 10]] [] 0 [11, 12, 13, 14, 15] hC []
theorem A64 : EN 170 := en Tryz.func170
theorem Bag (x0 : Aa) (x1 : Ab) (r : Ab × (List Ap) × Int) (h : Alv x0 x1 = some r) : CO 125 [.agg (d29 x0), .agg (d36 x1)] [] (.tup [.agg [.os 0, .os 1, .os 2, .os 3], .d (.os 4), .d (I r.2.2)]) (zp r.1 [v6_ r.2.1]) := by
 unfold Alv at h
 refine co 13 Tryz.func125 λ C hC => ?_
 obtain ⟨y1, h2, h⟩ := Ax h
 replace h := sI h
 subst h
 exact wr n7_ 25 [] [pc A64 (A47 x0 x1 _ h2) []] [] 0 [3, 4, 5, 6, 7] hC []
theorem Bbx : EN 125 := en Tryz.func125
def F2 : List Nat := [0, 1, 3, 4, 5, 6, 7, 10, 32, 38, 52, 53, 54, 55, 63, 83]
def Yf  (z0 : Int) : St := [(0, dO 0 0), (3, dO 9 0), (4, dO 10 0), (5, dI z0)]
def Y8 (x0 : A1) (x1 : Ap) (y1 : Ab × Int) (z0 : Int) : List Res := (.box 100 (I x0.Av.Time :: .os 1 :: .os 2 :: .os 3 :: .os 4 :: .os 5 :: .os 6 :: zb x0.Ak [.os 7, .os 8]) :: zp x0.Av.Power (v3_ x0.Av.A5 :: v1_ x0.Av.A6 :: v1_ x0.events :: v7_ x0.states :: .box 49 (d49 x1) :: .box 36 [.os 11, .os 12, .os 13, .os 14] :: zp y1.1 []))
def Qm (y9 : Ab × (List Ap) × Int) (n1 : Nat) (z1 : Aal) : St := [(0, dO 0 0), (4, dO 9 0), (6, dO 16 0), (52, dS 21), (53, dI (ln y9.2.1)), (54, dI (cnt 0 n1))]
def W_ (y1 : Ab × Int) (y9 : Ab × (List Ap) × Int) (n1 : Nat) (z1 : Aal) : List Res := (.box 100 [I z1.1, .os 1, .os 2, .os 3, .os 4, .os 5, .os 6, I z1.2.1, DS Bi z1.2.2.1, DS Br (g3_ z1), DS q65 (g4_ z1), I (g5_ z1), I (g6_ z1), .os 14, .os 15] :: v2_ (g7_ z1) :: v5_ (g8_ z1) :: v0_ (g9_ z1) :: v4_ (Da z1) :: v3_ (Fu z1) :: v1_ (Gl z1) :: .non :: .non :: .box 36 [.os 10, .os 11, .os 12, .os 13] :: v2_ (Gk z1) :: v5_ y1.1.Ac :: v0_ (Ae6 z1) :: v4_ y1.1.Ao :: v1_ (T6 z1) :: v7_ (Aq6 z1) :: .box 36 [.os 17, .os 18, .os 19, .os 20] :: zp y9.1 [v6_ y9.2.1])
def Ags  (z1 : Aal) : St := [(0, dO 0 0), (4, dO 9 0), (6, dO 16 0)]
def Ajj (y1 : Ab × Int) (y9 : Ab × (List Ap) × Int) (z1 : Aal) : List Res := (.box 100 [I z1.1, .os 1, .os 2, .os 3, .os 4, .os 5, .os 6, I z1.2.1, DS Bi z1.2.2.1, DS Br (g3_ z1), DS q65 (g4_ z1), I (g5_ z1), I (g6_ z1), .os 14, .os 15] :: v2_ (g7_ z1) :: v5_ (g8_ z1) :: v0_ (g9_ z1) :: v4_ (Da z1) :: v3_ (Fu z1) :: v1_ (Gl z1) :: .non :: .non :: .box 36 [.os 10, .os 11, .os 12, .os 13] :: v2_ (Gk z1) :: v5_ y1.1.Ac :: v0_ (Ae6 z1) :: v4_ y1.1.Ao :: v1_ (T6 z1) :: v7_ (Aq6 z1) :: .box 36 [.os 17, .os 18, .os 19, .os 20] :: zp y9.1 [])
set_option maxHeartbeats 4000000 in
theorem Aqz (x0 : A1) (x1 : Ap) (r : A1) (h : R5 x0 x1 = some r) : CO 64 [.d (.o 0 0), .agg (d49 x1)] (.box 100 (I x0.Av.Time :: .os 1 :: .os 2 :: .os 3 :: .os 4 :: .os 5 :: .os 6 :: zb x0.Ak [.os 7, .os 8]) :: zp x0.Av.Power [v3_ x0.Av.A5, v1_ x0.Av.A6, v1_ x0.events, v7_ x0.states]) (.tup []) (.box 100 (I r.Av.Time :: .os 9 :: .os 10 :: .os 11 :: .os 12 :: .os 5 :: .os 6 :: zb r.Ak [.os 13, .os 14]) :: .non :: .non :: .non :: .non :: v3_ r.Av.A5 :: v1_ r.Av.A6 :: .non :: .non :: zp r.Av.Power [v1_ r.events, v7_ r.states]) := by
 unfold R5 at h
 refine co 92 Tryz.func64 λ C hC => ?_
 obtain ⟨y1, h2, h⟩ := Ax h
 refine wn F2 28 [] [⟨.flts [.box 36 [.p (.v (.slice none 0 0)), .p (.v (.slice none 0 0)), .p (.v (.slice none 0 0)), .p (.v (.slice none 0 0))]], trivial⟩, ⟨.call 83 [.agg (d29 x0.Ak), .agg [.os 0, .os 1, .os 2, .os 3], dI x0.Av.Time, .agg (d49 x1)] (zp x0.Av.Power []) (.tup [.agg [.os 4, .os 5, .os 6, .os 7], dI y1.2]) (zp x0.Av.Power (zp y1.1 [])) [1, 2, 3, 4], ⟨e83, ((k83 x0.Ak x0.Av.Power x0.Av.Time x1 _ h2).lend (by kernel_rfl) (by kernel_rfl) (by kernel_rfl) ⟨Ba (λ _ => rfl), Ba (λ _ => rfl), Ba (λ _ => rfl), Ba (λ _ => rfl), trivial⟩ (by kernel_rfl) (by kernel_rfl))⟩⟩, ⟨.flt 10 (.box 36 [.p (.v (.slice none 0 0)), .p (.v (.slice none 0 0)), .p (.v (.slice none 0 0)), .p (.v (.slice none 0 0))]) (.box 36 [.p (.v (.slice none 0 0)), .p (.v (.slice none 0 0)), .p (.v (.slice none 0 0)), .p (.v (.slice none 0 0))]), rfl⟩] [] 9 F1 [0, 3, 4, 5, 32] hC [] ?_
 obtain ⟨w0, h, hret0, hnext0⟩ := Ar h
 refine wc w0 (Yf) (Y8 x0 x1 y1) ?_ λ z0 hs0 => ?_
 ·unfold Zv at h
  rcases cB h with ⟨h3, h⟩ | ⟨h3, h⟩
  ·exact wx w0 (Yf) (Y8 x0 x1 y1) F2 23 [true] [] [] 9 F1 _ hC [pq h3] (sI h).symm
  ·exact wx w0 (Yf) (Y8 x0 x1 y1) F2 23 [false] [] [] 9 F1 _ hC [pq h3] (sI h).symm
 ·clear h; have h := hnext0 _ hs0
  obtain ⟨y4, h5, h⟩ := Ax h
  refine wn F2 26 [] [pc Avz (Au5 x0 x1 z0 _ h5) n9_] [] 9 [0, 1, 2, 3, 4, 5, 6, 7, 8, 10, 11, 12, 13, 14, 15] [0, 4, 38] hC [] ?_
  rcases cB h with ⟨h6, h⟩ | ⟨h6, h⟩
  ·replace h := sI h
   subst h
   exact wr F2 22 [true] [] [.mv 1, .mv 2, .mv 3, .mv 4, .mv 8] 9 [0, 1, 2, 3, 4, 5, 6, 7, 8, 15, 16, 17, 18, 14, 19] hC [pq h6]
  ·obtain ⟨y7, h8, y9, h10, h⟩ := Bc h
   refine ws F2 30 [false] [pc qZ (qN y4 y1.1 _ h8) [0, 1, 2, 3, 4, 5, 6, 14, 8, 10, 11, 12, 13], ⟨.flts [.box 36 [.p (.v (.slice none 0 0)), .p (.v (.slice none 0 0)), .p (.v (.slice none 0 0)), .p (.v (.slice none 0 0))]], trivial⟩, ⟨.call 125 [.agg (d29 y7.Ak), .agg [.os 0, .os 1, .os 2, .os 3]] (zp y1.1 []) (.tup [.agg [.os 4, .os 5, .os 6, .os 7], dS 8, dI y9.2.2]) (zp y1.1 (zp y9.1 [v6_ y9.2.1])) [10, 11, 12, 13], ⟨Bbx, ((Bag y7.Ak y1.1 _ h10).lend (by kernel_rfl) (by kernel_rfl) (by kernel_rfl) ⟨Ba (λ _ => rfl), Ba (λ _ => rfl), Ba (λ _ => rfl), Ba (λ _ => rfl), Ba (λ _ => rfl), trivial⟩ (by kernel_rfl) (by kernel_rfl))⟩⟩, ⟨.flt 16 (.box 36 [.p (.v (.slice none 0 0)), .p (.v (.slice none 0 0)), .p (.v (.slice none 0 0)), .p (.v (.slice none 0 0))]) (.box 36 [.p (.v (.slice none 0 0)), .p (.v (.slice none 0 0)), .p (.v (.slice none 0 0)), .p (.v (.slice none 0 0))]), rfl⟩, pl q49 y9.2.1] [] 9 A95 (Qm y9 0 (y7.Av.Time, zt y7.Ak (zu y7.Av.Power (y7.Av.A5, y7.Av.A6, y1.1.Ag, y7.events, y7.states, y1.1.Aq)))) (W_ y1 y9 0 (y7.Av.Time, zt y7.Ak (zu y7.Av.Power (y7.Av.A5, y7.Av.A6, y1.1.Ag, y7.events, y7.states, y1.1.Aq)))) hC [pq h6] ?_
   obtain ⟨w1, hm1, hret1, hnext1⟩ := Ar h
   clear h
   refine wc w1 (Ags) (Ajj y1 y9) ?_ λ z1 hs1 => ?_
   ·refine wb ?_
    refine Co 52 21 rfl rfl λ hl1 => ?_
    refine wl (Qm y9) (W_ y1 y9) hm1 (λ z1 hn1 => ?_) λ n1 a1 z1 w1b hi1 hx1 h hb1 hr1 => ?_
    ·clear hm1
     exact wx w1 (Ags) (Ajj y1 y9) F2 26 [false] [] [] 9 A96 _ hC [pq (Be hl1)] hn1
    ·unfold Zw at h
     obtain ⟨y11, h12, h⟩ := Ax h
     refine wn F2 35 [true] [pr q49 (Bp hx1 hl1), pn q49 (Bp hx1 hl1), pc Avz (Au5 (⟨(⟨z1.1, (⟨(g7_ z1), (g8_ z1), (g9_ z1), (Da z1)⟩ : Ab), (Fu z1), (Gl z1)⟩ : Az), (⟨z1.2.1, z1.2.2.1, (g3_ z1), (g4_ z1), (g5_ z1), (g6_ z1)⟩ : Aa), (T6 z1), (Aq6 z1)⟩ : A1) a1 0 _ h12) [0, 1, 2, 3, 4, 5, 6, 14, 15]] [] 9 [0, 1, 2, 3, 4, 5, 6, 7, 8, 9, 10, 11, 12, 13, 15, 16, 17, 18, 19, 20, 21, 22, 23] [0, 4, 6, 10, 52, 53, 54, 63] hC [pq (A9 hi1 hl1)] ?_
     rcases cB h with ⟨h13, h⟩ | ⟨h13, h⟩
     ·obtain ⟨y14, h15, y16, h17, y18, h19, h⟩ := B0 h
      exact wx w1b (Qm y9 (n1 + 1)) (W_ y1 y9 (n1 + 1)) F2 26 [true] [pr pB h15, pu pB h15 h17, pc qZ (qN y11 (⟨y16, y1.1.Ac, (Ae6 z1), y1.1.Ao⟩ : Ab) _ h19) [0, 1, 2, 3, 4, 5, 6, 22, 14, 10, 11, 12, 13]] [] 9 [0, 1, 2, 3, 4, 5, 6, 7, 8, 9, 10, 11, 12, 13, 22, 23, 15, 16, 17, 18, 19, 20] _ hC [pq h13] (sI h).symm
     ·obtain ⟨y20, h21, y22, h23, y24, h25, h⟩ := B0 h
      exact wx w1b (Qm y9 (n1 + 1)) (W_ y1 y9 (n1 + 1)) F2 26 [false] [pr pI h21, pu pI h21 h23, pc qZ (qN y11 (⟨(Gk z1), y1.1.Ac, y22, y1.1.Ao⟩ : Ab) _ h25) [0, 1, 2, 3, 4, 5, 6, 22, 14, 10, 11, 12, 13]] [] 9 [0, 1, 2, 3, 4, 5, 6, 7, 8, 9, 10, 11, 12, 13, 22, 23, 15, 16, 17, 18, 19, 20] _ hC [pq h13] (sI h).symm
   ·have h := hnext1 _ hs1
    obtain ⟨y26, h27, h⟩ := Ax h
    refine wn F2 24 [] [pb e60 (k60 (⟨(Gk z1), y1.1.Ac, (Ae6 z1), y1.1.Ao⟩ : Ab) y9.1 _ h27)] [] 9 [0, 1, 2, 3, 4, 5, 6, 7, 8, 14, 15, 16, 17, 18, 19, 20] [0, 6, 83] hC [] ?_
    rcases cB h with ⟨h28, h⟩ | ⟨h28, h⟩
    ·obtain ⟨y29, h30, h⟩ := Ax h
     replace h := sI h
     subst h
     exact wf F2 23 [true] [pc qZ (qN (⟨(⟨z1.1, (⟨(g7_ z1), (g8_ z1), (g9_ z1), (Da z1)⟩ : Ab), (Fu z1), (Gl z1)⟩ : Az), (⟨z1.2.1, z1.2.2.1, (g3_ z1), (g4_ z1), (g5_ z1), (g6_ z1)⟩ : Aa), (T6 z1), (Aq6 z1)⟩ : A1) y9.1 _ h30) [0, 1, 2, 3, 4, 5, 6, 9, 10, 12, 13, 14, 15]] [.frz 1, .frz 2, .frz 3, .frz 4] 9 [0, 1, 2, 3, 4, 5, 6, 7, 8, 12, 13, 14, 15, 9, 16] hC [pq h28]
    ·replace h := sI h
     subst h
     exact wf F2 23 [false] [] [.frz 1, .frz 2, .frz 3, .frz 4] 9 [0, 1, 2, 3, 4, 5, 6, 7, 8, 12, 13, 14, 15, 9, 10] hC [pq h28]
theorem Are : EN 64 := en Tryz.func64
def Jl : List Nat := [0, 1, 3, 4, 6, 7, 8, 9, 12, 28, 29, 30, 31, 55, 89, 90, 91, 92]
def Ql (y3 : (List Ai)) (n0 : Nat) (z0 : Aak) : St := [(0, dO 0 0), (3, dO 9 0), (4, dS 10), (28, dS 11), (29, dI (ln y3)), (30, dI (cnt 0 n0))]
def W9 (x1 : Bd) (y3 : (List Ai)) (n0 : Nat) (z0 : Aak) : List Res := [.box 100 [I z0.1, .os 12, .os 13, .os 14, .os 15, .os 16, .os 17, I z0.2.1, DS Bi z0.2.2.1, DS Br (g3_ z0), DS q65 (g4_ z0), I (g5_ z0), I (g6_ z0), .os 18, .os 19], .non, .non, .non, .non, .non, .non, .non, .non, .box 31 (d31 x1), v3_ (g7_ z0), v8_ y3, v2_ (g8_ z0), v5_ (g9_ z0), v0_ (Da z0), v4_ (Fu z0), v3_ (Gl z0), v1_ (Gk z0), v1_ (T6 z0), v7_ (Ae7 z0)]
def Agr  (z0 : Aak) : St := [(0, dO 0 0), (4, dS 9)]
def Aji  (z0 : Aak) : List Res := [.box 100 [I z0.1, .os 10, .os 11, .os 12, .os 13, .os 14, .os 15, I z0.2.1, DS Bi z0.2.2.1, DS Br (g3_ z0), DS q65 (g4_ z0), I (g5_ z0), I (g6_ z0), .os 16, .os 17], .non, .non, .non, .non, .non, .non, .non, .non, v3_ (g7_ z0), v2_ (g8_ z0), v5_ (g9_ z0), v0_ (Da z0), v4_ (Fu z0), v3_ (Gl z0), v1_ (Gk z0), v1_ (T6 z0), v7_ (Ae7 z0)]
def Ya (y3 : (List Ai)) (n0 : Nat) (y12 : A0 × (List Ap) × Int) (n1 : Nat) (z1 : G8) : St := [(0, dO 0 0), (3, dO 9 0), (4, dS 10), (28, dS 11), (29, dI (ln y3)), (30, dI (cnt 0 n0)), (89, .d (DS q49 y12.2.1)), (90, dI (ln y12.2.1)), (91, dI (cnt 0 n1))]
def Aap (x1 : Bd) (y3 : (List Ai)) (y16 : List A0) (n1 : Nat) (z1 : G8) : List Res := [.box 100 [I z1.1, .os 12, .os 13, .os 14, .os 15, .os 16, .os 17, I z1.2.1, DS Bi z1.2.2.1, DS Br (g3_ z1), DS q65 (g4_ z1), I (g5_ z1), I (g6_ z1), .os 18, .os 19], .non, .non, .non, .non, .non, .non, .non, .non, .box 31 (d31 x1), v3_ y16, v8_ y3, v2_ (g7_ z1), v5_ (g8_ z1), v0_ (g9_ z1), v4_ (Da z1), v3_ (Fu z1), v1_ (Gl z1), v1_ (Gk z1), v7_ (Jv z1)]
def Agq (y3 : (List Ai)) (n0 : Nat) (z1 : G8) : St := [(0, dO 0 0), (3, dO 9 0), (4, dS 10), (28, dS 11), (29, dI (ln y3)), (30, dI (cnt 0 n0))]
def Ajh (x1 : Bd) (y3 : (List Ai)) (y16 : List A0) (z1 : G8) : List Res := [.box 100 [I z1.1, .os 12, .os 13, .os 14, .os 15, .os 16, .os 17, I z1.2.1, DS Bi z1.2.2.1, DS Br (g3_ z1), DS q65 (g4_ z1), I (g5_ z1), I (g6_ z1), .os 18, .os 19], .non, .non, .non, .non, .non, .non, .non, .non, .box 31 (d31 x1), v3_ y16, v8_ y3, v2_ (g7_ z1), v5_ (g8_ z1), v0_ (g9_ z1), v4_ (Da z1), v3_ (Fu z1), v1_ (Gl z1), v1_ (Gk z1), v7_ (Jv z1)]
theorem A1a (x0 : A1) (x1 : Bd) (r : A1) (h : Xc x0 x1 = some r) : CO 82 [.d (.o 0 0), .agg (d31 x1)] (.box 100 (I x0.Av.Time :: .os 1 :: .os 2 :: .os 3 :: .os 4 :: .os 5 :: .os 6 :: zb x0.Ak [.os 7, .os 8]) :: zp x0.Av.Power [v3_ x0.Av.A5, v1_ x0.Av.A6, v1_ x0.events, v7_ x0.states]) (.tup []) (.box 100 (I r.Av.Time :: .os 9 :: .os 10 :: .os 11 :: .os 12 :: .os 13 :: .os 14 :: zb r.Ak [.os 15, .os 16]) :: .non :: .non :: .non :: .non :: .non :: .non :: .non :: .non :: zp r.Av.Power [v3_ r.Av.A5, v1_ r.Av.A6, v1_ r.events, v7_ r.states]) := by
 unfold Xc at h
 refine co 105 Tryz.func82 λ C hC => ?_
 obtain ⟨y1, h2, y3, h4, h⟩ := Bc h
 refine ws Jl 28 [] [pc e86 (k86 x0.Ak.Al _ h2) [], pc A1f (A09 x0.Ak x0.Av.Power _ h4) [1, 2, 3, 4], pl q84 y3] [.mv 1, .mv 2, .mv 3, .mv 4, .mv 5, .mv 6, .mv 7, .mv 8] 9 zN (Ql y3 0 (x0.Av.Time, zt x0.Ak (y1, zu x0.Av.Power (x0.Av.A5, x0.Av.A6, x0.events, x0.states)))) (W9 x1 y3 0 (x0.Av.Time, zt x0.Ak (y1, zu x0.Av.Power (x0.Av.A5, x0.Av.A6, x0.events, x0.states)))) hC [] ?_
 obtain ⟨w0, hm0, hret0, hnext0⟩ := Ar h
 clear h
 refine wc w0 (Agr) (Aji) ?_ λ z0 hs0 => ?_
 ·refine wb ?_
  refine Co 28 11 rfl rfl λ hl0 => ?_
  refine wl (Ql y3) (W9 x1 y3) hm0 (λ z0 hn0 => ?_) λ n0 a0 z0 w0b hi0 hx0 h hb0 hr0 => ?_
  ·clear hm0
   exact wx w0 (Agr) (Aji) Jl 26 [false] [] [] 9 [0, 1, 2, 3, 4, 5, 6, 7, 8, 10, 12, 13, 14, 15, 16, 17, 18, 19] _ hC [pq (Be hl0)] hn0
  ·unfold Zu at h
   obtain ⟨y5, h6, y7, h8, h⟩ := Bc h
   refine wn Jl 35 [true] [pr q84 (Bp hx0 hl0), pn q84 (Bp hx0 hl0), pr pI h6, pl pI a0.Ac, pv Arh (λ hg => Aq2 (⟨z0.2.1, z0.2.2.1, (g3_ z0), (g4_ z0), (g5_ z0), (g6_ z0)⟩ : Aa) (⟨(g8_ z0), (g9_ z0), (Da z0), (Fu z0)⟩ : Ab) y5 _ (Bb h8 hg))] [] 9 zN [0, 3, 4, 7, 28, 29, 30, 55] hC [pq (A9 hi0 hl0)] ?_
   rcases cB h with ⟨h9, h⟩ | ⟨h9, h⟩
   ·exact wx w0b (Ql y3 (n0 + 1)) (W9 x1 y3 (n0 + 1)) Jl 24 [true] [] [] 9 zN _ hC [pq h9] (sI h).symm
   ·obtain ⟨y10, h11, y12, h13, y14, h15, y16, h17, h⟩ := Cn h
    refine ws Jl 29 [false] [⟨.flts [.box 130 [I 0, I 0]], trivial⟩, pr B2 h11, pn B2 h11, pc A7i (A5l (⟨z0.2.1, z0.2.2.1, (g3_ z0), (g4_ z0), (g5_ z0), (g6_ z0)⟩ : Aa) x1 (⟨(g8_ z0), (g9_ z0), (Da z0), (Fu z0)⟩ : Ab) y5 z0.1 y10 _ h13) [12, 13, 14, 15], ⟨.flt 20 (.box 130 [I 0, I 0]) (.box 130 [I 0, I 0]), rfl⟩, pr B2 h15, pu B2 h15 h17, pl q49 y12.2.1] [] 9 zN (Ya y3 n0 y12 0 (z0.1, z0.2.1, z0.2.2.1, (g3_ z0), (g4_ z0), (g5_ z0), (g6_ z0), (g8_ z0), (g9_ z0), (Da z0), (Fu z0), (Gl z0), (Gk z0), (T6 z0), (Ae7 z0))) (Aap x1 y3 y16 0 (z0.1, z0.2.1, z0.2.2.1, (g3_ z0), (g4_ z0), (g5_ z0), (g6_ z0), (g8_ z0), (g9_ z0), (Da z0), (Fu z0), (Gl z0), (Gk z0), (T6 z0), (Ae7 z0))) hC [pq h9] ?_
    obtain ⟨w1, hm1, hret1, hnext1⟩ := Ar h
    clear h
    refine wc w1 (Agq y3 n0) (Ajh x1 y3 y16) ?_ λ z1 hs1 => ?_
    ·refine wb ?_
     refine Bn 89 rfl λ hl1 => ?_
     refine wl (Ya y3 n0 y12) (Aap x1 y3 y16) hm1 (λ z1 hn1 => ?_) λ n1 a1 z1 w1b hi1 hx1 h hb1 hr1 => ?_
     ·clear hm1
      exact wx w1 (Agq y3 n0) (Ajh x1 y3 y16) Jl 26 [false] [] [] 9 zN _ hC [pq (Be hl1)] hn1
     ·unfold Rz at h
      obtain ⟨y18, h19, h⟩ := Ax h
      exact wx w1b (Ya y3 n0 y12 (n1 + 1)) (Aap x1 y3 y16 (n1 + 1)) Jl 33 [true] [pt hx1 hl1, pc Are (Aqz (⟨(⟨z1.1, (⟨(g7_ z1), (g8_ z1), (g9_ z1), (Da z1)⟩ : Ab), (Fu z1), (Gl z1)⟩ : Az), (⟨z1.2.1, z1.2.2.1, (g3_ z1), (g4_ z1), (g5_ z1), (g6_ z1)⟩ : Aa), (Gk z1), (Jv z1)⟩ : A1) a1 _ h19) [0, 12, 13, 14, 15, 16, 17, 18, 19]] [] 9 [0, 1, 2, 3, 4, 5, 6, 7, 8, 9, 10, 11, 21, 22, 23, 24, 16, 17, 25, 26] _ hC [pq (A9 hi1 hl1)] (sI h).symm
    ·have h := hnext1 _ hs1
     exact wx w0b (Ql y3 (n0 + 1)) (W9 x1 y3 (n0 + 1)) Jl 23 [] [] [] 9 zN _ hC [] (sI h).symm
 ·have h := hnext0 _ hs0
  replace h := sI h
  subst h
  exact wf Jl 21 [] [] [] 9 [0, 1, 2, 3, 4, 5, 6, 7, 8, 10, 11, 12, 13, 9, 15, 16, 17] hC []
theorem A1g : EN 82 := en Tryz.func82
end Go.Proofs.YthgnbpdjncbkfaaGreat
