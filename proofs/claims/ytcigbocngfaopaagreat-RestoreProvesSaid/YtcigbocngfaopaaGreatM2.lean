import Derived.Test.YtcigbocngfaopaaGreatM1
set_option linter.unusedVariables false
set_option maxHeartbeats 4000000
namespace Go.Proofs.YtcigbocngfaopaaGreat
open Go.SL
def H6 : List Nat := [0, 1, 2, 3, 4, 5, 6, 7, 8, 9, 10, 11, 12, 17, 24, 25, 26, 38, 50, 51, 52, 53, 74]
def Uq (x0 : Aa) (z0 : Int × (List Bool) × (List An)) : St := [(2, dO 0 0), (3, dO 1 0), (4, dO 2 0), (5, .d (DS q47 [])), (6, dI 0), (8, dO 11 0), (9, dS 12), (24, dI (ln x0.Ad)), (25, dI z0.1)]
def uS (x0 : Aa) (x1 : Ab) (y4 : Ab) (z0 : Int × (List Bool) × (List An)) : List Res := (.box 29 (d29 x0) :: .box 34 (d34 x1) :: .box 34 [.os 3, .os 4, .os 5, .os 6] :: ze [v1_ z0.2.1, v4_ y4.Ac, v0_ y4.As, v3_ y4.Ak, .box 34 [.os 7, .os 8, .os 9, .os 10], v2_ z0.2.2])
def Alt  (z0 : Int × (List Bool) × (List An)) : St := [(2, dO 0 0), (4, dO 1 0), (5, .d (DS q47 [])), (6, dI 0), (8, dO 10 0), (9, dS 11)]
def Ao3 (x0 : Aa) (y4 : Ab) (z0 : Int × (List Bool) × (List An)) : List Res := (.box 29 (d29 x0) :: .box 34 [.os 2, .os 3, .os 4, .os 5] :: ze [v1_ z0.2.1, v4_ y4.Ac, v0_ y4.As, v3_ y4.Ak, .box 34 [.os 6, .os 7, .os 8, .os 9], v2_ z0.2.2])
def Uo (x0 : Aa) (n1 : Nat) (z1 : (List Bool) × (List An)) : St := [(2, dO 0 0), (4, dO 1 0), (5, .d (DS q47 [])), (6, dI 0), (8, dO 10 0), (9, dS 11), (50, .d (DS q49 x0.Ad)), (51, dI (ln x0.Ad)), (52, dI (cnt 0 n1))]
def uR (x0 : Aa) (y4 : Ab) (n1 : Nat) (z1 : (List Bool) × (List An)) : List Res := (.box 29 (d29 x0) :: .box 34 [.os 2, .os 3, .os 4, .os 5] :: ze [v1_ z1.1, v4_ y4.Ac, v0_ y4.As, v3_ y4.Ak, .box 34 [.os 6, .os 7, .os 8, .os 9], v2_ z1.2])
def Als  (z1 : (List Bool) × (List An)) : St := [(2, dO 0 0), (4, dO 1 0), (5, .d (DS q47 [])), (6, dI 0), (8, dO 10 0), (9, dS 11)]
def Ao2 (x0 : Aa) (y4 : Ab) (z1 : (List Bool) × (List An)) : List Res := (.box 29 (d29 x0) :: .box 34 [.os 2, .os 3, .os 4, .os 5] :: ze [v1_ z1.1, v4_ y4.Ac, v0_ y4.As, v3_ y4.Ak, .box 34 [.os 6, .os 7, .os 8, .os 9], v2_ z1.2])
theorem k66 (x0 : Aa) (x1 : Ab) (r : Ab × (List An) × Int) (h : F66 x0 x1 = some r) : CO 66 [.agg (d29 x0), .agg (d34 x1)] [] (.tup [.agg [.os 0, .os 1, .os 2, .os 3], .d (.os 4), .d (I r.2.2)]) (zp r.1 [v2_ r.2.1]) := by
 unfold F66 at h
 refine co 93 Tryz.func66 λ C hC => ?_
 obtain ⟨y1, h2, h⟩ := Au h
 refine wn H6 28 [] [pc e11 (k11 x0 x1 _ h2) []] [.ownb 2 0 4 1, .ownb 2 1 87 4, .ownb 2 2 3 1, .ownb 2 3 92 2] 0 n7_ [2, 3, 4, 5, 6, 7, 17] hC [] ?_
 rcases cB h with ⟨h3, h⟩ | ⟨h3, h⟩
 ·replace h := sI h
  subst h
  exact wr H6 24 [true] [] [.ownb 2 0 4 1, .ownb 2 1 87 4, .ownb 2 2 3 1, .ownb 2 3 92 2, .own 5 47 3] 0 [7, 8, 9, 10, 11] hC [pq h3]
 ·obtain ⟨y4, h5, h⟩ := Au h
  refine ws H6 30 [false] [pc Ars (Ard x1 _ h5) [], pl q49 x0.Ad] [.own 9 47 3] 0 Ej (Uq x0 (0, y4.Ah, ([] : List An))) (uS x0 x1 y4 (0, y4.Ah, ([] : List An))) hC [pq h3] ?_
  obtain ⟨w0, hm0, hret0, hnext0⟩ := Aq h
  clear h
  refine wc w0 (Alt) (Ao3 x0 y4) ?_ λ z0 hs0 => ?_
  ·refine wb ?_
   refine ww (Uq x0) (uS x0 x1 y4) hm0 λ z0 w0b h hb0 hr0 => ?_
   unfold Add at h
   rcases cB h with ⟨h6, h⟩ | ⟨h6, h⟩
   ·obtain ⟨y7, h8, y9, h10, h⟩ := A6 h
    refine wn H6 32 [true] [pr pB h8, pn pB h8, pw A0z (λ hg => Az9 x0 x1 z0.1 _ (A0 h10 hg)) []] [] 0 Ej [2, 3, 4, 5, 6, 8, 9, 10, 24, 25, 38] hC [pq h6] ?_
    rcases cB h with ⟨h11, h⟩ | ⟨h11, h⟩
    ·obtain ⟨y12, h13, y14, h15, h⟩ := A6 h
     exact wx w0b (Uq x0) (uS x0 x1 y4) H6 27 [true] [pr pB h8, pu pB h8 h13, pa q47 3 h15] [] 0 [0, 1, 2, 3, 4, 5, 6, 7, 8, 9, 10, 11, 13] _ hC [pq h11] (sI h).symm
    ·exact wx w0b (Uq x0) (uS x0 x1 y4) H6 25 [false] [] [] 0 Ej _ hC [pq h11] (sI h).symm
   ·exact wx w0 (Alt) (Ao3 x0 y4) H6 26 [false] [] [] 0 [0, 2, 3, 4, 5, 6, 7, 8, 9, 10, 11, 12] (z0.1, z0.2.1, z0.2.2) hC [pq h6] (hb0 _ (sI h).symm)
  ·have h := hnext0 _ hs0
   refine ws H6 24 [] [pl q49 x0.Ad] [] 0 Ek (Uo x0 0 (z0.2.1, z0.2.2)) (uR x0 y4 0 (z0.2.1, z0.2.2)) hC [] ?_
   obtain ⟨w1, hm1, hret1, hnext1⟩ := Aq h
   clear h
   refine wc w1 (Als) (Ao2 x0 y4) ?_ λ z1 hs1 => ?_
   ·refine wb ?_
    refine Bb 50 rfl λ hl1 => ?_
    refine wl (Uo x0) (uR x0 y4) hm1 (λ z1 hn1 => ?_) λ n1 a1 z1 w1b hi1 hx1 h hb1 hr1 => ?_
    ·clear hm1
     exact wx w1 (Als) (Ao2 x0 y4) H6 26 [false] [] [] 0 Ek _ hC [pq (A4 hl1)] hn1
    ·unfold Adc at h
     obtain ⟨y16, h17, y18, h19, h⟩ := A6 h
     refine wn H6 32 [true] [pt hx1 hl1, pR pB h17, pN pB h17, pv e14 (λ hg => k14 x0 (⟨z1.1, y4.Ac, y4.As, y4.Ak⟩ : Ab) a1.A _ (A0 h19 hg))] [] 0 Ek [2, 4, 5, 6, 8, 9, 11, 50, 51, 52, 74] hC [pq (A1 hi1 hl1)] ?_
     rcases cB h with ⟨h20, h⟩ | ⟨h20, h⟩
     ·obtain ⟨y21, h22, y23, h24, y25, h26, h⟩ := Bi h
      exact wx w1b (Uo x0 (n1 + 1)) (uR x0 y4 (n1 + 1)) H6 27 [true] [pr pB h22, pu pB h22 h24, pa q47 3 h26] [] 0 [0, 1, 2, 3, 4, 5, 6, 7, 8, 9, 10, 12] _ hC [pq h20] (sI h).symm
     ·exact wx w1b (Uo x0 (n1 + 1)) (uR x0 y4 (n1 + 1)) H6 25 [false] [] [] 0 Ek _ hC [pq h20] (sI h).symm
   ·have h := hnext1 _ hs1
    obtain ⟨y27, h28, h⟩ := Au h
    replace h := sI h
    subst h
    exact wr H6 25 [] [⟨.call 119 [.agg (d29 x0), .agg [.os 0, .os 1, .os 2, .os 3]] [v1_ z1.1, v4_ y4.Ac, v0_ y4.As, v3_ y4.Ak] (.tup [.agg [.os 4, .os 5, .os 6, .os 7], dI y27.2]) (v1_ z1.1 :: v4_ y4.Ac :: v0_ y4.As :: v3_ y4.Ak :: zp y27.1 []) [6, 7, 8, 9], ⟨A0y, ((Az8 x0 (⟨z1.1, y4.Ac, y4.As, y4.Ak⟩ : Ab) _ h28).lend (by kernel_rfl) (by kernel_rfl) (by kernel_rfl) ⟨A_ (λ _ => rfl), A_ (λ _ => rfl), A_ (λ _ => rfl), A_ (λ _ => rfl), trivial⟩ (by kernel_rfl) (by kernel_rfl))⟩⟩] [] 0 [12, 13, 14, 15, 11] hC []
theorem e66 : EN 66 := en Tryz.func66
theorem Av1 (x0 : Af) (x1 : A2) (r : Bool × A2) (h : Aeb x0 x1 = some r) : CO 122 [.agg (d49 x0), .d (.o 0 0)] (.box 112 [.o 1 0] :: .box 147 (zb x1.Am [.os 2, .os 3, .os 4, .os 5, .os 6]) :: zp x1.Ap [v2_ x1.acts]) (.d (Bo r.1)) (.box 112 [.o 1 0] :: .box 147 (zb r.2.Am [.os 2, .os 3, .os 4, .os 5, .os 6]) :: zp r.2.Ap [v2_ r.2.acts]) := by
 unfold Aeb at h
 refine co 21 Tryz.func122 λ C hC => ?_
 obtain ⟨y1, h2, h⟩ := Au h
 replace h := sI h
 subst h
 exact wr n4_ 25 [] [pv e58 (λ hg => k58 x1.Am x1.Ap x0.A _ (A0 h2 hg))] [] 7 n7_ hC []
theorem Aw4 : EN 122 := en Tryz.func122
def Aak : List Nat := [0, 1, 2, 3, 4, 5, 6, 8, 9, 10, 11, 37]
def yB (x0 : Aa) (n0 : Nat) (z0 : Unit) : St := [(2, dO 0 0), (3, dO 1 0), (4, dB false), (8, .d (DS q49 x0.Ad)), (9, dI (ln x0.Ad)), (10, dI (cnt 0 n0))]
def Aji (x0 : Aa) (x1 : Ab) (n0 : Nat) (z0 : Unit) : List Res := [.box 29 (d29 x0), .box 34 (d34 x1)]
def Al2  (z0 : Unit) : St := [(4, dB false)]
def Apc  (z0 : Unit) : List Res := []
theorem k33 (x0 : Aa) (x1 : Ab) (r : Bool) (h : F33 x0 x1 = some r) : CO 33 [.agg (d29 x0), .agg (d34 x1)] [] (.d (Bo r)) [] := by
 unfold F33 at h
 refine co 39 Tryz.func33 λ C hC => ?_
 refine ws Aak 26 [] [pl q49 x0.Ad] [] 0 [0, 1] (yB x0 0 ()) (Aji x0 x1 0 ()) hC [] ?_
 obtain ⟨w0, hm0, hret0, hnext0⟩ := Aq h
 clear h
 refine wc w0 (Al2) (Apc) ?_ λ z0 hs0 => ?_
 ·refine wb ?_
  refine Bb 8 rfl λ hl0 => ?_
  refine wl (yB x0) (Aji x0 x1) hm0 (λ z0 hn0 => ?_) λ n0 a0 z0 w0b hi0 hx0 h hb0 hr0 => ?_
  ·clear hm0
   exact wx w0 (Al2) (Apc) Aak 26 [false] [] [] 0 [] _ hC [pq (A4 hl0)] hn0
  ·unfold Aqe at h
   obtain ⟨y1, h2, y3, h4, y5, h6, h⟩ := Bi h
   refine wn Aak 32 [true] [pt hx0 hl0, pR pB h2, pw e76 (λ hg => k76 x1 2 (cnt 0 n0) _ (A0 h4 hg)) [], pw e58 (λ hg => k58 x0 x1 a0.A _ (A0 h6 hg)) []] [] 0 [0, 1] [2, 3, 4, 8, 9, 10, 37] hC [pq (A1 hi0 hl0)] ?_
   rcases cB h with ⟨h7, h⟩ | ⟨h7, h⟩
   ·cases h
   ·exact wx w0b (yB x0 (n0 + 1)) (Aji x0 x1 (n0 + 1)) Aak 25 [false] [] [] 0 [0, 1] _ hC [pq h7] (sI h).symm
 ·have h := hnext0 _ hs0
  replace h := sI h
  subst h
  exact wr Aak 23 [] [] [] 0 [] hC []
theorem e33 : EN 33 := en Tryz.func33
def X0 : List Nat := [0, 1, 2, 3, 4, 5, 6, 9, 10, 11, 12, 23]
def yE (y1 : (List Bool)) (n0 : Nat) (z0 : Unit) : St := [(2, dO 0 0), (3, dO 1 0), (4, dB false), (9, dS 2), (10, dI (ln y1)), (11, dI (cnt 0 n0))]
def Ajl (x0 : Aa) (x1 : Ab) (y1 : (List Bool)) (n0 : Nat) (z0 : Unit) : List Res := [.box 29 (d29 x0), .box 34 (d34 x1), v1_ y1]
def Al8  (z0 : Unit) : St := [(2, dO 0 0), (3, dO 1 0), (4, dB false)]
def Api (x0 : Aa) (x1 : Ab) (z0 : Unit) : List Res := [.box 29 (d29 x0), .box 34 (d34 x1)]
theorem k24 (x0 : Aa) (x1 : Ab) (r : Bool) (h : F24 x0 x1 = some r) : CO 24 [.agg (d29 x0), .agg (d34 x1)] [] (.d (Bo r)) [] := by
 unfold F24 at h
 refine co 29 Tryz.func24 λ C hC => ?_
 obtain ⟨y1, h2, h⟩ := Au h
 refine ws X0 26 [] [pc e23 (k23 x0 x1 _ h2) [], pl pB y1] [] 0 n3_ (yE y1 0 ()) (Ajl x0 x1 y1 0 ()) hC [] ?_
 obtain ⟨w0, hm0, hret0, hnext0⟩ := Aq h
 clear h
 refine wc w0 (Al8) (Api x0 x1) ?_ λ z0 hs0 => ?_
 ·refine wb ?_
  refine Bk 9 2 rfl rfl λ hl0 => ?_
  refine wl (yE y1) (Ajl x0 x1 y1) hm0 (λ z0 hn0 => ?_) λ n0 a0 z0 w0b hi0 hx0 h hb0 hr0 => ?_
  ·clear hm0
   exact wx w0 (Al8) (Api x0 x1) X0 26 [false] [] [] 0 [0, 1] _ hC [pq (A4 hl0)] hn0
  ·unfold Aqf at h
   obtain ⟨y3, h4, h⟩ := Au h
   refine wn X0 32 [true] [pr pB (A8 hx0 hl0), pn pB (A8 hx0 hl0), pw e58 (λ hg => k58 x0 x1 (cnt 0 n0) _ (A0 h4 hg)) []] [] 0 n3_ [2, 3, 4, 9, 10, 11, 23] hC [pq (A1 hi0 hl0)] ?_
   rcases cB h with ⟨h5, h⟩ | ⟨h5, h⟩
   ·have hq := hret0 _ (hr0 _ (sI h).symm)
    replace hq := sI hq
    subst hq
    exact wr X0 24 [true] [] [] 0 [] hC [pq h5]
   ·exact wx w0b (yE y1 (n0 + 1)) (Ajl x0 x1 y1 (n0 + 1)) X0 25 [false] [] [] 0 n3_ _ hC [pq h5] (sI h).symm
 ·have h := hnext0 _ hs0
  obtain ⟨y6, h7, h⟩ := Au h
  replace h := sI h
  subst h
  exact wr X0 23 [] [pc e44 (k44 x0 x1 _ h7) []] [] 0 [] hC []
theorem e24 : EN 24 := en Tryz.func24
theorem Q8 (x0 : Av) (x1 : Int) (r : Bool) (h : Lf x0 x1 = some r) : CO 82 [.d (.ip [.v (.int .i64 x0.Am.Ao), .s (x0.Am.Ad.map q49), .s (x0.Am.Ac.map q98), .s (x0.Am.Ai.map q90), .v (.int .i64 x0.Am.Phase), .v (.int .i64 x0.Am.Ar), .s (x0.Ap.Ah.map pB), .s (x0.Ap.Ac.map q87), .s (x0.Ap.As.map pI), .s (x0.Ap.Ak.map q92), .s (x0.goal.map pB), .s (x0.acts.map q47)]), .d (I x1)] [] (.d (Bo r)) [] := by
 unfold Lf at h
 refine co 15 Tryz.func82 λ C hC => ?_
 obtain ⟨y1, h2, h⟩ := Au h
 replace h := sI h
 subst h
 exact wr [0, 1, 4] 25 [] [pc e58 (k58 x0.Am x0.Ap x1 _ h2) []] [] 0 [] hC []
theorem Rf : EN 82 := en Tryz.func82
def Vd : List Nat := [0, 1, 2, 3, 4, 5, 6, 7, 8, 9, 10, 20, 22, 23, 49]
theorem Azv (x0 : Aa) (x1 : Ab) (x2 : Af) (r : Bool) (h : Ad1 x0 x1 x2 = some r) : CO 170 [.agg (d29 x0), .agg (d34 x1), .agg (d49 x2)] [] (.d (Bo r)) [] := by
 unfold Ad1 at h
 refine co 64 Tryz.func170 λ C hC => ?_
 obtain ⟨y1, h2, h⟩ := Au h
 refine wn Vd 28 [] [pc Arq (Arb x0 x1 x2.A _ h2) []] [] 0 n3_ [3, 4, 5, 6, 7, 20] hC [] ?_
 rcases cB h with ⟨h3, h⟩ | ⟨h3, h⟩
 ·replace h := sI h
  subst h
  exact wr Vd 24 [true] [] [] 0 [] hC [pq h3]
 ·rcases cB h with ⟨h4, h⟩ | ⟨h4, h⟩
  ·obtain ⟨y5, h6, y7, h8, y9, h10, h⟩ := Bi h
   replace h := sI h
   subst h
   exact wr Vd 34 [false, true] [pc Arq (Arb x0 x1 x2.B _ h6) [], pR q87 h8, pR q87 h10, ⟨.when [(!y5.2, false)] (.call 177 [.agg (d29 x0), .agg (d87 y7), .agg (d87 y9)] [] (dB (Adz x0 y7 y9)) [] []), λ hg => ⟨Awj, (Avg x0 y7 y9 _ rfl)⟩⟩] [] 0 [] hC [pq h3, pq h4]
  ·rcases cB h with ⟨h11, h⟩ | ⟨h11, h⟩
   ·obtain ⟨y12, h13, y14, h15, h⟩ := A6 h
    replace h := sI h
    subst h
    exact wr Vd 35 [false, false, true] [pr q87 h13, pr q87 h15, pc Awj (Avg x0 y12 y14 _ rfl) []] [] 0 [] hC [pq h3, pq h4, pq h11]
   ·replace h := sI h
    subst h
    exact wr Vd 37 [false, false, false] [] [] 0 [] hC [pq h3, pq h4, pq h11]
theorem A0l : EN 170 := en Tryz.func170
def K8 : List Nat := [0, 1, 2, 3, 4, 5, 8, 9, 10, 11, 12, 13, 14, 15, 16, 17, 23, 44, 63, 76]
theorem A0a (x0 : Aa) (x1 : Ab) (x2 : Int) (x3 : Int) (r : Ab × Int) (h : T_ x0 x1 x2 x3 = some r) : CO 111 [.agg (d29 x0), .agg (d34 x1), .d (I x2), .d (I x3)] [] (.tup [.agg [.os 0, .os 1, .os 2, .os 3], .d (I r.2)]) (zp r.1 []) := by
 unfold T_ at h
 refine co 95 Tryz.func111 λ C hC => ?_
 obtain ⟨y1, h2, h⟩ := Au h
 refine wn K8 28 [] [pc e44 (k44 x0 x1 _ h2) []] [.ownb 2 0 4 1, .ownb 2 1 87 4, .ownb 2 2 3 1, .ownb 2 3 92 2] 0 n7_ [2, 3, 4, 5, 8, 9, 10, 23] hC [] ?_
 rcases cB h with ⟨h3, h⟩ | ⟨h3, h⟩
 ·replace h := sI h
  subst h
  exact wr K8 24 [true] [] [.ownb 2 0 4 1, .ownb 2 1 87 4, .ownb 2 2 3 1, .ownb 2 3 92 2] 0 [7, 8, 9, 10] hC [pq h3]
 ·rcases cB h with ⟨h4, h⟩ | ⟨h4, h⟩
  ·replace h := sI h
   subst h
   exact wr K8 29 [false, true] [pL_ [(decide (x2 < 0), false)] q98 x0.Ac] [.ownb 2 0 4 1, .ownb 2 1 87 4, .ownb 2 2 3 1, .ownb 2 3 92 2] 0 [7, 8, 9, 10] hC [pq h3, pq h4]
  ·obtain ⟨y5, h6, y7, h8, h⟩ := A6 h
   refine wn K8 33 [false, false] [pL_ [(decide (x2 < 0), false)] q98 x0.Ac, pc Arq (Arb x0 x1 x3 _ h6) [], pR q87 h8] [] 0 n7_ [2, 4, 5, 8, 9, 11, 63] hC [pq h3, pq h4] ?_
   rcases cB h with ⟨h9, h⟩ | ⟨h9, h⟩
   ·replace h := sI h
    subst h
    exact wr K8 24 [true] [] [.ownb 2 0 4 1, .ownb 2 1 87 4, .ownb 2 2 3 1, .ownb 2 3 92 2] 0 [7, 8, 9, 10] hC [pq h9]
   ·obtain ⟨y10, h11, y12, h13, h⟩ := A6 h
    refine wn K8 32 [false] [pc e35 (k35 x1 _ h11) [], pc A0s (Az2 x0 x1 x2 _ h13) []] [] 0 Ek [4, 5, 8, 9, 11, 13, 14, 15, 76] hC [pq h9] ?_
    rcases cB h with ⟨h14, h⟩ | ⟨h14, h⟩
    ·obtain ⟨y15, h16, y17, h18, y19, h20, h⟩ := Bi h
     replace h := sI h
     subst h
     exact wr K8 29 [true] [pc Yd (X4 x0 x1 y12.1 _ h16) [], pr q87 h18, pc Abh (Aaq y10 y15.1.Ac y17 _ h20) [7, 8, 9, 10]] [] 0 [7, 8, 9, 10] hC [pq h14]
    ·obtain ⟨y21, h22, y23, h24, h⟩ := A6 h
     replace h := sI h
     subst h
     exact wr K8 27 [false] [pr q87 h22, pc Abh (Aaq y10 [x2] y21 _ h24) [7, 8, 9, 10]] [] 0 [7, 8, 9, 10] hC [pq h14]
theorem A00 : EN 111 := en Tryz.func111
def Aq5 : List Nat := [0, 1, 2, 3, 4, 5, 6, 7, 8, 9, 10, 20]
theorem k29 (x0 : Aa) (x1 : Ab) (r : Ab × (List An) × Int) (h : F29 x0 x1 = some r) : CO 29 [.agg (d29 x0), .agg (d34 x1)] [] (.tup [.agg [.os 0, .os 1, .os 2, .os 3], .d (.os 4), .d (I r.2.2)]) (zp r.1 [v2_ r.2.1]) := by
 unfold F29 at h
 refine co 34 Tryz.func29 λ C hC => ?_
 obtain ⟨y1, h2, h⟩ := Au h
 refine wn Aq5 28 [] [pc e66 (k66 x0 x1 _ h2) []] [.ownb 2 0 4 1, .ownb 2 1 87 4, .ownb 2 2 3 1, .ownb 2 3 92 2] 0 [0, 2, 3, 4, 5, 6, 7, 8, 9, 10, 11, 12] [2, 4, 5, 6, 7, 8, 9, 20] hC [] ?_
 rcases cB h with ⟨h3, h⟩ | ⟨h3, h⟩
 ·replace h := sI h
  subst h
  exact wr Aq5 24 [true] [] [.ownb 1 0 4 1, .ownb 1 1 87 4, .ownb 1 2 3 1, .ownb 1 3 92 2, .own 5 47 3] 0 [12, 13, 14, 15, 16] hC [pq h3]
 ·obtain ⟨y4, h5, y6, h7, h⟩ := A6 h
  replace h := sI h
  subst h
  exact wr Aq5 27 [false] [⟨.call 67 [.agg (d29 x0), .agg [.os 0, .os 1, .os 2, .os 3]] (zp y1.1 []) (.tup [.agg [.os 4, .os 5, .os 6, .os 7], dS 8, dI y4.2.2]) (zp y1.1 (zp y4.1 [v2_ y4.2.1])) [2, 3, 4, 5], ⟨e67, ((k67 x0 y1.1 _ h5).lend (by kernel_rfl) (by kernel_rfl) (by kernel_rfl) ⟨A_ (λ _ => rfl), A_ (λ _ => rfl), A_ (λ _ => rfl), A_ (λ _ => rfl), A_ (λ _ => rfl), trivial⟩ (by kernel_rfl) (by kernel_rfl))⟩⟩, pa q47 3 h7] [] 0 [12, 13, 14, 15, 17] hC [pq h3]
theorem e29 : EN 29 := en Tryz.func29
def G6 : List Nat := [0, 1, 4, 5, 6, 8, 13, 14, 15, 16, 32, 38, 39, 40, 41]
def Oz (x0 : A2) (n0 : Nat) (z0 : Sg8) : St := [(0, dO 0 0), (1, .d (.fn (.func 122) [] [.o 6 0])), (4, dS 7), (13, .d (DS q49 x0.Am.Ad)), (14, dI (ln x0.Am.Ad)), (15, dI (cnt 0 n0))]
def Tu  (n0 : Nat) (z0 : Sg8) : List Res := [.box 147 [I z0.1, DS q49 z0.2.1, DS q98 z0.2.2.1, DS q90 (g3_ z0), I (g4_ z0), I (g5_ z0), .os 8, .os 9, .os 10, .os 11, .os 12], .non, .non, .non, .non, .non, .box 112 [.o 0 0], v0_ ([] : List Int), v1_ (g6_ z0), v4_ (g7_ z0), v0_ (g8_ z0), v3_ (g9_ z0), v2_ (Ef z0)]
def Z1  (z0 : Sg8) : St := [(0, dO 0 0), (4, dS 7)]
def qC  (z0 : Sg8) : List Res := [.box 147 [I z0.1, DS q49 z0.2.1, DS q98 z0.2.2.1, DS q90 (g3_ z0), I (g4_ z0), I (g5_ z0), .os 8, .os 9, .os 10, .os 11, .os 12], .non, .non, .non, .non, .non, .box 112 [.o 0 0], v0_ ([] : List Int), v1_ (g6_ z0), v4_ (g7_ z0), v0_ (g8_ z0), v3_ (g9_ z0), v2_ (Ef z0)]
def Oy  (n1 : Nat) (z1 : Sg8) : St := [(0, dO 0 0), (38, dS 7), (39, dI (ln ([] : List Int))), (40, dI (cnt 0 n1))]
def Tt  (n1 : Nat) (z1 : Sg8) : List Res := [.box 147 [I z1.1, DS q49 z1.2.1, DS q98 z1.2.2.1, DS q90 (g3_ z1), I (g4_ z1), I (g5_ z1), .os 8, .os 9, .os 10, .os 11, .os 12], .non, .non, .non, .non, .non, .box 112 [.o 0 0], v0_ ([] : List Int), v1_ (g6_ z1), v4_ (g7_ z1), v0_ (g8_ z1), v3_ (g9_ z1), v2_ (Ef z1)]
def Z0  (z1 : Sg8) : St := []
def qB  (z1 : Sg8) : List Res := [.box 147 [I z1.1, DS q49 z1.2.1, DS q98 z1.2.2.1, DS q90 (g3_ z1), I (g4_ z1), I (g5_ z1), .os 7, .os 8, .os 9, .os 10, .os 11], .non, .non, .non, .non, .non, .box 112 [.o 0 0], v1_ (g6_ z1), v4_ (g7_ z1), v0_ (g8_ z1), v3_ (g9_ z1), v2_ (Ef z1)]
theorem Av3 (x0 : A2) (r : A2) (h : Aed x0 = some r) : CO 120 [.d (.o 0 0), .d (.fn (.func 122) [] [.o 6 0])] (.box 147 (zb x0.Am [.os 1, .os 2, .os 3, .os 4, .os 5]) :: zp x0.Ap [v2_ x0.acts, .box 112 [.o 0 0]]) (.tup []) (.box 147 (zb r.Am [.os 7, .os 8, .os 9, .os 10, .os 11]) :: .non :: .non :: .non :: .non :: .non :: .box 112 [.o 0 0] :: zp r.Ap [v2_ r.acts]) := by
 unfold Aed at h
 refine co 48 Tryz.func120 λ C hC => ?_
 refine ws G6 26 [] [pl q49 x0.Am.Ad] [.own 4 3 1, .mv 1, .mv 2, .mv 3, .mv 4, .mv 5] 7 Ej (Oz x0 0 (zt x0.Am (zu x0.Ap x0.acts))) (Tu 0 (zt x0.Am (zu x0.Ap x0.acts))) hC [] ?_
 obtain ⟨w0, hm0, hret0, hnext0⟩ := Aq h
 clear h
 refine wc w0 (Z1) (qC) ?_ λ z0 hs0 => ?_
 ·refine wb ?_
  refine Bb 13 rfl λ hl0 => ?_
  refine wl (Oz x0) (Tu) hm0 (λ z0 hn0 => ?_) λ n0 a0 z0 w0b hi0 hx0 h hb0 hr0 => ?_
  ·clear hm0
   exact wx w0 (Z1) (qC) G6 26 [false] [] [] 7 Ej _ hC [pq (A4 hl0)] hn0
  ·unfold qP at h
   obtain ⟨y1, h2, y3, h4, h⟩ := A6 h
   refine wn G6 32 [true] [pt hx0 hl0, pr pB h2, pn pB h2, ⟨.whenR [(y1, true)] (.call 122 [.agg (d49 a0), dO 0 0] [.box 112 [.o 1 0], .box 147 [I z0.1, DS q49 z0.2.1, DS q98 z0.2.2.1, DS q90 (g3_ z0), I (g4_ z0), I (g5_ z0), .os 2, .os 3, .os 4, .os 5, .os 6], v1_ (g6_ z0), v4_ (g7_ z0), v0_ (g8_ z0), v3_ (g9_ z0), v2_ (Ef z0)] (dB y3.1) (.box 112 [.o 1 0] :: .box 147 (zb y3.2.Am [.os 2, .os 3, .os 4, .os 5, .os 6]) :: zp y3.2.Ap [v2_ y3.2.acts]) [6, 0, 8, 9, 10, 11, 12]), ⟨λ hg => ⟨Aw4, (Av1 a0 (⟨(⟨z0.1, z0.2.1, z0.2.2.1, (g3_ z0), (g4_ z0), (g5_ z0)⟩ : Aa), (⟨(g6_ z0), (g7_ z0), (g8_ z0), (g9_ z0)⟩ : Ab), (Ef z0)⟩ : A2) _ (A0 h4 hg))⟩, λ hg => by have e := Hp h4 hg; subst e; rfl⟩⟩] [] 7 Ej [0, 1, 4, 5, 13, 14, 15, 32] hC [pq (A1 hi0 hl0)] ?_
   rcases cB h with ⟨h5, h⟩ | ⟨h5, h⟩
   ·cases h
   ·exact wx w0b (Oz x0 (n0 + 1)) (Tu (n0 + 1)) G6 25 [false] [] [] 7 Ej _ hC [pq h5] (sI h).symm
 ·have h := hnext0 _ hs0
  refine ws G6 23 [] [pl pI ([] : List Int)] [] 7 Ej (Oy 0 (z0.1, z0.2.1, z0.2.2.1, (g3_ z0), (g4_ z0), (g5_ z0), (g6_ z0), (g7_ z0), (g8_ z0), (g9_ z0), (Ef z0))) (Tt 0 (z0.1, z0.2.1, z0.2.2.1, (g3_ z0), (g4_ z0), (g5_ z0), (g6_ z0), (g7_ z0), (g8_ z0), (g9_ z0), (Ef z0))) hC [] ?_
  obtain ⟨w1, hm1, hret1, hnext1⟩ := Aq h
  clear h
  refine wc w1 (Z0) (qB) ?_ λ z1 hs1 => ?_
  ·refine wb ?_
   refine Bk 38 7 rfl rfl λ hl1 => ?_
   refine wl (Oy) (Tt) hm1 (λ z1 hn1 => ?_) λ n1 a1 z1 w1b hi1 hx1 h hb1 hr1 => ?_
   ·clear hm1
    exact wx w1 (Z0) (qB) G6 26 [false] [] [] 7 [0, 1, 2, 3, 4, 5, 6, 8, 9, 10, 11, 12] _ hC [pq (A4 hl1)] hn1
   ·unfold qO at h
    obtain ⟨y6, h7, h⟩ := Au h
    exact wx w1b (Oy (n1 + 1)) (Tt (n1 + 1)) G6 33 [true] [pr pI (A8 hx1 hl1), pn pI (A8 hx1 hl1), pc Ank (Amy (⟨(⟨z1.1, z1.2.1, z1.2.2.1, (g3_ z1), (g4_ z1), (g5_ z1)⟩ : Aa), (⟨(g6_ z1), (g7_ z1), (g8_ z1), (g9_ z1)⟩ : Ab), (Ef z1)⟩ : A2) a1 _ h7) [0, 8, 9, 10, 11, 12]] [] 7 [0, 1, 2, 3, 4, 5, 6, 7, 8, 9, 10, 11, 13] _ hC [pq (A1 hi1 hl1)] (sI h).symm
  ·have h := hnext1 _ hs1
   replace h := sI h
   subst h
   exact wf G6 20 [] [] [] 7 Ek hC []
theorem Aw6 : EN 120 := en Tryz.func120
def I2 : List Nat := [0, 2, 3, 4, 6, 11, 12, 13, 14, 46, 52, 53, 54, 55]
def Sm (x0 : Av) (n0 : Nat) (z0 : Unit) : St := [(0, dO 0 0), (2, dS 7), (11, .d (DS q49 x0.Am.Ad)), (12, dI (ln x0.Am.Ad)), (13, dI (cnt 0 n0))]
def Yt (x0 : Av) (n0 : Nat) (z0 : Unit) : List Res := (.box 80 (zb x0.Am [.os 8, .os 9, .os 10, .os 11, .os 12, .os 13]) :: .non :: .non :: .non :: .non :: .non :: .non :: v0_ ([] : List Int) :: zp x0.Ap [v1_ x0.goal, v2_ x0.acts])
def zA  (z0 : Unit) : St := [(0, dO 0 0), (2, dS 7)]
def Ab5 (x0 : Av) (z0 : Unit) : List Res := (.box 80 (zb x0.Am [.os 8, .os 9, .os 10, .os 11, .os 12, .os 13]) :: .non :: .non :: .non :: .non :: .non :: .non :: v0_ ([] : List Int) :: zp x0.Ap [v1_ x0.goal, v2_ x0.acts])
def Sl  (n1 : Nat) (z1 : Sg7) : St := [(0, dO 0 0), (52, dS 7), (53, dI (ln ([] : List Int))), (54, dI (cnt 0 n1))]
def Ys  (n1 : Nat) (z1 : Sg7) : List Res := [.box 80 [I z1.1, DS q49 z1.2.1, DS q98 z1.2.2.1, DS q90 (g3_ z1), I (g4_ z1), I (g5_ z1), .os 8, .os 9, .os 10, .os 11, .os 12, .os 13], .non, .non, .non, .non, .non, .non, v0_ ([] : List Int), v1_ (g6_ z1), v4_ (g7_ z1), v0_ (g8_ z1), v3_ (g9_ z1), v1_ (Da z1), v2_ (Es z1)]
def yZ  (z1 : Sg7) : St := []
def Ab4  (z1 : Sg7) : List Res := [.box 80 [I z1.1, DS q49 z1.2.1, DS q98 z1.2.2.1, DS q90 (g3_ z1), I (g4_ z1), I (g5_ z1), .os 7, .os 8, .os 9, .os 10, .os 11, .os 12], .non, .non, .non, .non, .non, .non, v1_ (g6_ z1), v4_ (g7_ z1), v0_ (g8_ z1), v3_ (g9_ z1), v1_ (Da z1), v2_ (Es z1)]
theorem Ayo (x0 : Av) (r : Av) (h : Akb x0 = some r) : CO 36 [.d (.o 0 0)] (.box 80 (zb x0.Am [.os 1, .os 2, .os 3, .os 4, .os 5, .os 6]) :: zp x0.Ap [v1_ x0.goal, v2_ x0.acts]) (.tup []) (.box 80 (zb r.Am [.os 7, .os 8, .os 9, .os 10, .os 11, .os 12]) :: .non :: .non :: .non :: .non :: .non :: .non :: zp r.Ap [v1_ r.goal, v2_ r.acts]) := by
 unfold Akb at h
 refine co 62 Tryz.func36 λ C hC => ?_
 refine ws I2 26 [] [pl q49 x0.Am.Ad] [.own 2 3 1, .mv 1, .mv 2, .mv 3, .mv 4, .mv 5, .mv 6] 7 Xv (Sm x0 0 ()) (Yt x0 0 ()) hC [] ?_
 obtain ⟨w0, hm0, hret0, hnext0⟩ := Aq h
 clear h
 refine wc w0 (zA) (Ab5 x0) ?_ λ z0 hs0 => ?_
 ·refine wb ?_
  refine Bb 11 rfl λ hl0 => ?_
  refine wl (Sm x0) (Yt x0) hm0 (λ z0 hn0 => ?_) λ n0 a0 z0 w0b hi0 hx0 h hb0 hr0 => ?_
  ·clear hm0
   exact wx w0 (zA) (Ab5 x0) I2 26 [false] [] [] 7 Xv _ hC [pq (A4 hl0)] hn0
  ·unfold Ads at h
   obtain ⟨y1, h2, y3, h4, y5, h6, h⟩ := Bi h
   refine wn I2 32 [true] [pt hx0 hl0, pR pB h2, pN pB h2, pv e76 (λ hg => k76 x0.Ap 2 (cnt 0 n0) _ (A0 h4 hg)), pv Rf (λ hg => Q8 x0 a0.A _ (A0 h6 hg))] [] 7 Xv [0, 2, 3, 11, 12, 13, 46] hC [pq (A1 hi0 hl0)] ?_
   rcases cB h with ⟨h7, h⟩ | ⟨h7, h⟩
   ·cases h
   ·exact wx w0b (Sm x0 (n0 + 1)) (Yt x0 (n0 + 1)) I2 25 [false] [] [] 7 Xv _ hC [pq h7] (sI h).symm
 ·have h := hnext0 _ hs0
  refine ws I2 23 [] [pl pI ([] : List Int)] [] 7 Xv (Sl 0 (zt x0.Am (zu x0.Ap (x0.goal, x0.acts)))) (Ys 0 (zt x0.Am (zu x0.Ap (x0.goal, x0.acts)))) hC [] ?_
  obtain ⟨w1, hm1, hret1, hnext1⟩ := Aq h
  clear h
  refine wc w1 (yZ) (Ab4) ?_ λ z1 hs1 => ?_
  ·refine wb ?_
   refine Bk 52 7 rfl rfl λ hl1 => ?_
   refine wl (Sl) (Ys) hm1 (λ z1 hn1 => ?_) λ n1 a1 z1 w1b hi1 hx1 h hb1 hr1 => ?_
   ·clear hm1
    exact wx w1 (yZ) (Ab4) I2 26 [false] [] [] 7 [0, 1, 2, 3, 4, 5, 6, 8, 9, 10, 11, 12, 13] _ hC [pq (A4 hl1)] hn1
   ·unfold Adr at h
    obtain ⟨y8, h9, h⟩ := Au h
    exact wx w1b (Sl (n1 + 1)) (Ys (n1 + 1)) I2 33 [true] [pr pI (A8 hx1 hl1), pn pI (A8 hx1 hl1), pc uF (uE (⟨(⟨z1.1, z1.2.1, z1.2.2.1, (g3_ z1), (g4_ z1), (g5_ z1)⟩ : Aa), (⟨(g6_ z1), (g7_ z1), (g8_ z1), (g9_ z1)⟩ : Ab), (Da z1), (Es z1)⟩ : Av) 2 a1 _ h9) [0, 8, 9, 10, 11, 12, 13]] [] 7 [0, 1, 2, 3, 4, 5, 6, 7, 8, 9, 10, 11, 12, 14] _ hC [pq (A1 hi1 hl1)] (sI h).symm
  ·have h := hnext1 _ hs1
   replace h := sI h
   subst h
   exact wf I2 20 [] [] [] 7 Ej hC []
theorem Ay4 : EN 36 := en Tryz.func36
def Pk : List Nat := [0, 2, 3, 4, 9, 10, 11, 12, 44, 46, 47, 71]
def Sk (x0 : Av) (n0 : Nat) (z0 : Sg9) : St := [(0, dO 0 0), (2, dI z0.1), (9, dS 8), (10, dI (ln x0.Ap.Ac)), (11, dI (cnt 0 n0))]
def Yr (x0 : Av) (n0 : Nat) (z0 : Sg9) : List Res := [.box 80 (zb x0.Am [.os 7, .os 8, .os 9, .os 10, .os 11, .os 12]), .non, .non, .non, .non, .non, .non, v1_ x0.Ap.Ah, v4_ z0.2.1, v0_ x0.Ap.As, v3_ x0.Ap.Ak, v1_ x0.goal, v2_ z0.2.2]
def yY  (z0 : Sg9) : St := [(0, dO 0 0), (2, dI z0.1)]
def Ab3 (x0 : Av) (z0 : Sg9) : List Res := [.box 80 (zb x0.Am [.os 7, .os 8, .os 9, .os 10, .os 11, .os 12]), .non, .non, .non, .non, .non, .non, v1_ x0.Ap.Ah, v4_ z0.2.1, v0_ x0.Ap.As, v3_ x0.Ap.Ak, v1_ x0.goal, v2_ z0.2.2]
theorem Ayn (x0 : Av) (r : Av) (h : Aka x0 = some r) : CO 37 [.d (.o 0 0)] (.box 80 (zb x0.Am [.os 1, .os 2, .os 3, .os 4, .os 5, .os 6]) :: zp x0.Ap [v1_ x0.goal, v2_ x0.acts]) (.tup []) (.box 80 (zb r.Am [.os 7, .os 8, .os 9, .os 10, .os 11, .os 12]) :: .non :: .non :: .non :: .non :: .non :: .non :: zp r.Ap [v1_ r.goal, v2_ r.acts]) := by
 unfold Aka at h
 refine co 105 Tryz.func37 λ C hC => ?_
 refine ws Pk 26 [] [pl q87 x0.Ap.Ac] [.mv 1, .mv 2, .mv 3, .mv 4, .mv 5, .mv 6] 7 Ej (Sk x0 0 (0, x0.Ap.Ac, x0.acts)) (Yr x0 0 (0, x0.Ap.Ac, x0.acts)) hC [] ?_
 obtain ⟨w0, hm0, hret0, hnext0⟩ := Aq h
 clear h
 refine wc w0 (yY) (Ab3 x0) ?_ λ z0 hs0 => ?_
 ·refine wb ?_
  refine Bk 9 8 rfl rfl λ hl0 => ?_
  refine wl (Sk x0) (Yr x0) hm0 (λ z0 hn0 => ?_) λ n0 a0 z0 w0b hi0 hx0 h hb0 hr0 => ?_
  ·clear hm0
   exact wx w0 (yY) (Ab3 x0) Pk 26 [false] [] [] 7 Ej _ hC [pq (A4 hl0)] hn0
  ·unfold Adq at h
   obtain ⟨y1, h2, y3, h4, y5, h6, h⟩ := Bi h
   obtain ⟨y7, h8, y9, h10, h⟩ := A6 h
   refine wn Pk 33 [true] [pr q87 h2, pn q87 h2, pb e55 (k55 x0.Am (⟨x0.Ap.Ah, z0.2.1, x0.Ap.As, x0.Ap.Ak⟩ : Ab) (cnt 0 n0) _ h4), pw e56 (λ hg => k56 x0.Am (cnt 0 n0) _ (A0 h6 hg)) [], pR q49 h8, pv Rf (λ hg => Q8 (⟨x0.Am, (⟨x0.Ap.Ah, z0.2.1, x0.Ap.As, x0.Ap.Ak⟩ : Ab), x0.goal, z0.2.2⟩ : Av) y7.A _ (A0 h10 hg))] [] 7 Xv [0, 2, 3, 4, 9, 10, 11, 44] hC [pq (A1 hi0 hl0)] ?_
   rcases cB h with ⟨h11, h⟩ | ⟨h11, h⟩
   ·cases h
   ·rcases cB h with ⟨h12, h⟩ | ⟨h12, h⟩
    ·obtain ⟨y13, h14, y15, h16, y17, h18, h⟩ := Bi h
     exact wx w0b (Sk x0 (n0 + 1)) (Yr x0 (n0 + 1)) Pk 37 [false, true] [pa q47 3 h14, pr q98 h16, pr q87 h2, pu q87 h2 h18] [] 7 [0, 1, 2, 3, 4, 5, 6, 7, 8, 9, 10, 11, 14] _ hC [pq h11, pq h12] (sI h).symm
    ·cases h
 ·have h := hnext0 _ hs0
  obtain ⟨y19, h20, y21, h22, h⟩ := A6 h
  replace h := sI h
  subst h
  exact wf Pk 21 [] [pc e83 (k83 [(⟨7, 0, 0⟩ : An)] z0.1 _ h20) [], pa q47 3 h22] [] 7 [0, 1, 2, 3, 4, 5, 6, 7, 8, 9, 10, 11, 14] hC []
theorem Ay3 : EN 37 := en Tryz.func37
def Hi : List Nat := [0, 2, 3, 4, 9, 10, 11, 18, 19, 20, 56]
def Sj (x0 : Av) (z0 : Gg) : St := [(0, dO 0 0), (9, dI x0.Am.Ao), (10, dI z0.1)]
def Yq  (z0 : Gg) : List Res := [.box 80 [I z0.2.1, DS q49 z0.2.2.1, DS q98 (g3_ z0), DS q90 (g4_ z0), I (g5_ z0), I (g6_ z0), .os 7, .os 8, .os 9, .os 10, .os 11, .os 12], .non, .non, .non, .non, .non, .non, v1_ (g7_ z0), v4_ (g8_ z0), v0_ (g9_ z0), v3_ (Da z0), v1_ (Lp z0), v2_ (Ip z0)]
def yX  (z0 : Gg) : St := []
def Ab2  (z0 : Gg) : List Res := [.box 80 [I z0.2.1, DS q49 z0.2.2.1, DS q98 (g3_ z0), DS q90 (g4_ z0), I (g5_ z0), I (g6_ z0), .os 7, .os 8, .os 9, .os 10, .os 11, .os 12], .non, .non, .non, .non, .non, .non, v1_ (g7_ z0), v4_ (g8_ z0), v0_ (g9_ z0), v3_ (Da z0), v1_ (Lp z0), v2_ (Ip z0)]
def Mu (x0 : Av) (z0 : Gg) (z1 : Gg) : St := [(0, dO 0 0), (2, dI z0.1), (9, dI x0.Am.Ao), (10, dI z0.1), (18, dI (ln (g3_ z0))), (19, dI z1.1)]
def Rj  (z1 : Gg) : List Res := [.box 80 [I z1.2.1, DS q49 z1.2.2.1, DS q98 (g3_ z1), DS q90 (g4_ z1), I (g5_ z1), I (g6_ z1), .os 7, .os 8, .os 9, .os 10, .os 11, .os 12], .non, .non, .non, .non, .non, .non, v1_ (g7_ z1), v4_ (g8_ z1), v0_ (g9_ z1), v3_ (Da z1), v1_ (Lp z1), v2_ (Ip z1)]
def yW (x0 : Av) (z0 : Gg) (z1 : Gg) : St := [(0, dO 0 0), (9, dI x0.Am.Ao), (10, dI z0.1)]
def Ab1  (z1 : Gg) : List Res := [.box 80 [I z1.2.1, DS q49 z1.2.2.1, DS q98 (g3_ z1), DS q90 (g4_ z1), I (g5_ z1), I (g6_ z1), .os 7, .os 8, .os 9, .os 10, .os 11, .os 12], .non, .non, .non, .non, .non, .non, v1_ (g7_ z1), v4_ (g8_ z1), v0_ (g9_ z1), v3_ (Da z1), v1_ (Lp z1), v2_ (Ip z1)]
theorem Aym (x0 : Av) (r : Av) (h : Aj9 x0 = some r) : CO 38 [.d (.o 0 0)] (.box 80 (zb x0.Am [.os 1, .os 2, .os 3, .os 4, .os 5, .os 6]) :: zp x0.Ap [v1_ x0.goal, v2_ x0.acts]) (.tup []) (.box 80 (zb r.Am [.os 7, .os 8, .os 9, .os 10, .os 11, .os 12]) :: .non :: .non :: .non :: .non :: .non :: .non :: zp r.Ap [v1_ r.goal, v2_ r.acts]) := by
 unfold Aj9 at h
 refine co 62 Tryz.func38 λ C hC => ?_
 refine ws Hi 23 [] [] [.mv 1, .mv 2, .mv 3, .mv 4, .mv 5, .mv 6] 7 Ej (Sj x0 (0, zt x0.Am (zu x0.Ap (x0.goal, x0.acts)))) (Yq (0, zt x0.Am (zu x0.Ap (x0.goal, x0.acts)))) hC [] ?_
 obtain ⟨w0, hm0, hret0, hnext0⟩ := Aq h
 clear h
 refine wc w0 (yX) (Ab2) ?_ λ z0 hs0 => ?_
 ·refine wb ?_
  refine ww (Sj x0) (Yq) hm0 λ z0 w0b h hb0 hr0 => ?_
  unfold Adp at h
  rcases cB h with ⟨h1, h⟩ | ⟨h1, h⟩
  ·refine ws Hi 32 [true] [pl q98 (g3_ z0)] [] 7 Ej (Mu x0 z0 (0, z0.2.1, z0.2.2.1, (g3_ z0), (g4_ z0), (g5_ z0), (g6_ z0), (g7_ z0), (g8_ z0), (g9_ z0), (Da z0), (Lp z0), (Ip z0))) (Rj (0, z0.2.1, z0.2.2.1, (g3_ z0), (g4_ z0), (g5_ z0), (g6_ z0), (g7_ z0), (g8_ z0), (g9_ z0), (Da z0), (Lp z0), (Ip z0))) hC [pq h1] ?_
   obtain ⟨w1, hm1, hret1, hnext1⟩ := Aq h
   clear h
   refine wc w1 (yW x0 z0) (Ab1) ?_ λ z1 hs1 => ?_
   ·refine wb ?_
    refine ww (Mu x0 z0) (Rj) hm1 λ z1 w1b h hb1 hr1 => ?_
    unfold Ado at h
    rcases cB h with ⟨h2, h⟩ | ⟨h2, h⟩
    ·obtain ⟨y3, h4, y5, h6, y7, h8, y9, h10, h⟩ := Cv h
     refine wn Hi 34 [true] [pc e56 (k56 (⟨z1.2.1, z1.2.2.1, (g3_ z1), (g4_ z1), (g5_ z1), (g6_ z1)⟩ : Aa) z1.1 _ h4) [], pr q49 h6, pv e55 (λ hg => k55 (⟨z1.2.1, z1.2.2.1, (g3_ z1), (g4_ z1), (g5_ z1), (g6_ z1)⟩ : Aa) (⟨(g7_ z1), (g8_ z1), (g9_ z1), (Da z1)⟩ : Ab) z1.1 _ (A0 h8 hg)), pv Rf (λ hg => Q8 (⟨(⟨z1.2.1, z1.2.2.1, (g3_ z1), (g4_ z1), (g5_ z1), (g6_ z1)⟩ : Aa), (⟨(g7_ z1), (g8_ z1), (g9_ z1), (Da z1)⟩ : Ab), (Lp z1), (Ip z1)⟩ : Av) z0.1 _ (A0 h10 hg))] [] 7 Ej [0, 2, 4, 9, 10, 18, 19, 56] hC [pq h2] ?_
     rcases cB h with ⟨h11, h⟩ | ⟨h11, h⟩
     ·obtain ⟨y12, h13, h⟩ := Au h
      exact wx w1b (Mu x0 z0) (Rj) Hi 25 [true] [pc uF (uE (⟨(⟨z1.2.1, z1.2.2.1, (g3_ z1), (g4_ z1), (g5_ z1), (g6_ z1)⟩ : Aa), (⟨(g7_ z1), (g8_ z1), (g9_ z1), (Da z1)⟩ : Ab), (Lp z1), (Ip z1)⟩ : Av) 1 y3 _ h13) [0, 7, 8, 9, 10, 11, 12]] [] 7 [0, 1, 2, 3, 4, 5, 6, 7, 8, 9, 10, 11, 13] _ hC [pq h11] (sI h).symm
     ·exact wx w1b (Mu x0 z0) (Rj) Hi 25 [false] [] [] 7 Ej _ hC [pq h11] (sI h).symm
    ·exact wx w1 (yW x0 z0) (Ab1) Hi 26 [false] [] [] 7 Ej (z1.1, z1.2.1, z1.2.2.1, (g3_ z1), (g4_ z1), (g5_ z1), (g6_ z1), (g7_ z1), (g8_ z1), (g9_ z1), (Da z1), (Lp z1), (Ip z1)) hC [pq h2] (hb1 _ (sI h).symm)
   ·have h := hnext1 _ hs1
    exact wx w0b (Sj x0) (Yq) Hi 23 [] [] [] 7 Ej _ hC [] (sI h).symm
  ·exact wx w0 (yX) (Ab2) Hi 26 [false] [] [] 7 Ej (z0.1, z0.2.1, z0.2.2.1, (g3_ z0), (g4_ z0), (g5_ z0), (g6_ z0), (g7_ z0), (g8_ z0), (g9_ z0), (Da z0), (Lp z0), (Ip z0)) hC [pq h1] (hb0 _ (sI h).symm)
 ·have h := hnext0 _ hs0
  replace h := sI h
  subst h
  exact wf Hi 20 [] [] [] 7 Ej hC []
theorem Ay2 : EN 38 := en Tryz.func38
def L6 : List Nat := [0, 2, 3, 4, 5, 10, 11, 12, 13, 63]
def Si (x0 : Av) (n0 : Nat) (z0 : Unit) : St := [(0, .d (.ip [.v (.int .i64 x0.Am.Ao), .s (x0.Am.Ad.map q49), .s (x0.Am.Ac.map q98), .s (x0.Am.Ai.map q90), .v (.int .i64 x0.Am.Phase), .v (.int .i64 x0.Am.Ar), .s (x0.Ap.Ah.map pB), .s (x0.Ap.Ac.map q87), .s (x0.Ap.As.map pI), .s (x0.Ap.Ak.map q92), .s (x0.goal.map pB), .s (x0.acts.map q47)])), (2, dI 0), (3, dB false), (10, .d (DS q49 x0.Am.Ad)), (11, dI (ln x0.Am.Ad)), (12, dI (cnt 0 n0))]
def Yp  (n0 : Nat) (z0 : Unit) : List Res := []
def yV  (z0 : Unit) : St := [(2, dI 0), (3, dB false)]
def Ab0  (z0 : Unit) : List Res := []
theorem Ayl (x0 : Av) (r : Int × Bool) (h : Aj8 x0 = some r) : CO 39 [.d (.ip [.v (.int .i64 x0.Am.Ao), .s (x0.Am.Ad.map q49), .s (x0.Am.Ac.map q98), .s (x0.Am.Ai.map q90), .v (.int .i64 x0.Am.Phase), .v (.int .i64 x0.Am.Ar), .s (x0.Ap.Ah.map pB), .s (x0.Ap.Ac.map q87), .s (x0.Ap.As.map pI), .s (x0.Ap.Ak.map q92), .s (x0.goal.map pB), .s (x0.acts.map q47)])] [] (.tup [.d (I r.1), .d (Bo r.2)]) [] := by
 unfold Aj8 at h
 refine co 66 Tryz.func39 λ C hC => ?_
 refine ws L6 26 [] [pl q49 x0.Am.Ad] [] 0 [] (Si x0 0 ()) (Yp 0 ()) hC [] ?_
 obtain ⟨w0, hm0, hret0, hnext0⟩ := Aq h
 clear h
 refine wc w0 (yV) (Ab0) ?_ λ z0 hs0 => ?_
 ·refine wb ?_
  refine Bb 10 rfl λ hl0 => ?_
  refine wl (Si x0) (Yp) hm0 (λ z0 hn0 => ?_) λ n0 a0 z0 w0b hi0 hx0 h hb0 hr0 => ?_
  ·clear hm0
   exact wx w0 (yV) (Ab0) L6 26 [false] [] [] 0 [] _ hC [pq (A4 hl0)] hn0
  ·unfold Adn at h
   obtain ⟨y1, h2, y3, h4, y5, h6, h⟩ := Bi h
   obtain ⟨y7, h8, y9, h10, h⟩ := A6 h
   refine wn L6 32 [true] [pt hx0 hl0, pR pB h2, pw e57 (λ hg => k57 x0.Am x0.Ap (cnt 0 n0) _ (A0 h4 hg)) [], pR pB h6, pw Rf (λ hg => Q8 x0 a0.A _ (A0 h8 hg)) [], pw Rf (λ hg => Q8 x0 a0.B _ (A0 h10 hg)) []] [] 0 [] [0, 2, 3, 4, 10, 11, 12, 63] hC [pq (A1 hi0 hl0)] ?_
   rcases cB h with ⟨h11, h⟩ | ⟨h11, h⟩
   ·have hq := hret0 _ (hr0 _ (sI h).symm)
    replace hq := sI hq
    subst hq
    exact wr L6 24 [true] [] [] 0 [] hC [pq h11]
   ·exact wx w0b (Si x0 (n0 + 1)) (Yp (n0 + 1)) L6 25 [false] [] [] 0 [] _ hC [pq h11] (sI h).symm
 ·have h := hnext0 _ hs0
  replace h := sI h
  subst h
  exact wr L6 23 [] [] [] 0 [] hC []
theorem Ay1 : EN 39 := en Tryz.func39
def Fg : List Nat := [0, 1, 3, 5, 6, 7, 13, 14, 15, 37, 42, 43, 44, 45, 77, 109]
def Yo  (z0 : Sg7) : List Res := [.box 80 [I z0.1, DS q49 z0.2.1, DS q98 z0.2.2.1, DS q90 (g3_ z0), I (g4_ z0), I (g5_ z0), .os 9, .os 10, .os 11, .os 12, .os 13, .os 14], .non, .non, .non, .non, .non, .non, .box 77 [.o 0 0], .non, v1_ (g6_ z0), v4_ (g7_ z0), v0_ (g8_ z0), v3_ (g9_ z0), v1_ (Da z0), v2_ (Es z0)]
def Sh (z0 : Sg7) (a0 : (Int × Int)) (n1 : Nat) (z1 : Sg7) : St := [(1, dO 7 0), (3, dI a0.2), (42, .d (DS q49 z0.2.1)), (43, dI (ln z0.2.1)), (44, dI (cnt 0 n1))]
def Yn  (n1 : Nat) (z1 : Sg7) : List Res := [.box 80 [I z1.1, DS q49 z1.2.1, DS q98 z1.2.2.1, DS q90 (g3_ z1), I (g4_ z1), I (g5_ z1), .os 9, .os 10, .os 11, .os 12, .os 13, .os 14], .non, .non, .non, .non, .non, .non, .box 77 [.o 0 0], .non, v1_ (g6_ z1), v4_ (g7_ z1), v0_ (g8_ z1), v3_ (g9_ z1), v1_ (Da z1), v2_ (Es z1)]
def M1  (z1 : Sg7) : St := []
def Nx  (z1 : Sg7) : List Res := [.box 80 [I z1.1, DS q49 z1.2.1, DS q98 z1.2.2.1, DS q90 (g3_ z1), I (g4_ z1), I (g5_ z1), .os 9, .os 10, .os 11, .os 12, .os 13, .os 14], .non, .non, .non, .non, .non, .non, .box 77 [.o 0 0], .non, v1_ (g6_ z1), v4_ (g7_ z1), v0_ (g8_ z1), v3_ (g9_ z1), v1_ (Da z1), v2_ (Es z1)]
theorem Ayk (x0 : Av) (r : Av) (h : Aj7 x0 = some r) : CO 41 [.d (.o 0 0)] (.box 80 (zb x0.Am [.os 1, .os 2, .os 3, .os 4, .os 5, .os 6]) :: zp x0.Ap [v1_ x0.goal, v2_ x0.acts]) (.tup []) (.box 80 (zb r.Am [.os 7, .os 8, .os 9, .os 10, .os 11, .os 12]) :: .non :: .non :: .non :: .non :: .non :: .non :: zp r.Ap [v1_ r.goal, v2_ r.acts]) := by
 unfold Aj7 at h
 refine co 114 Tryz.func41 λ C hC => ?_
 obtain ⟨y3, h4, h⟩ := Au h
 refine ws Fg 26 [] [⟨.call 85 [.agg (d29 x0.Am)] [] (.d (DS pI y3)) [.non] [], ⟨e85, (CallOk.frzAll [0] (show CO 85 [.agg (d29 x0.Am)] [] (dS 0) [v0_ y3] from (k85 x0.Am _ h4)) (by kernel_rfl))⟩⟩, pc e84 (k84 y3) []] [.mv 1, .mv 2, .mv 3, .mv 4, .mv 5, .mv 6] 7 [0, 1, 2, 3, 4, 5, 6, 7, 9, 10, 11, 12, 13, 14, 15] [(1, dO 7 0), (13, .d (.fn (.func 131) [] [.o 8 0]))] (.box 80 (zb x0.Am [.os 9, .os 10, .os 11, .os 12, .os 13, .os 14]) :: .non :: .non :: .non :: .non :: .non :: .non :: .box 77 [.o 0 0] :: .box 22 [DS pI y3] :: zp x0.Ap [v1_ x0.goal, v2_ x0.acts]) hC [] ?_
 obtain ⟨w0, hm0, hret0, hnext0⟩ := Aq h
 clear h
 refine Ar7 (by kernel_rfl) (t := 13) (d := 3) (p := 15) (gf := 131) (j := 8) (ty := 22) Ri (bw y3) T1 (Yo) (λ _ => []) w0 (zt x0.Am (zu x0.Ap (x0.goal, x0.acts))) (λ a0 => dI a0.2) hm0 (Auw y3) (by kernel_rfl) (by kernel_rfl) (by kernel_rfl) (by kernel_rfl) (by kernel_rfl) [(1, dO 7 0)] (by kernel_rfl) (by kernel_rfl) (Aze (a := 14) (b := 15) (by kernel_rfl)) (Axn 14 15 (by kernel_rfl) (by decide) (by decide)) (by decide) rfl (cR rfl) 9 (by kernel_rfl) (ay hC (bg rfl)) (λ C2 z0 hh hup2 hs0 => ?_) (λ C2 v41s1_0 hh hup2 hr0 a w hsR => ?_) (λ l C' a0 z0 w0b hlen hdf h hkr => ?_)
 ·have hC : C2.h.length <= 7 := by rw [hh]; exact hC
  have h := hnext0 _ hs0
  replace h := sI h
  subst h
  exact Agc (bs := []) Hh Fg 21 [] [] [] [] 7 [0, 1, 2, 3, 4, 5, 6, 9, 10, 11, 12, 13, 14] rfl hC trivial trivial (by kernel_rfl) (by kernel_rfl) hup2
 ·exact absurd (hret0 _ hr0) (by simp)
 ·have hC : C'.h.length <= 9 := hlen
  unfold T1 at h
  obtain ⟨y5, h6, y7, h8, h⟩ := A6 h
  refine wn Fg 27 [] [pb e86 (k86 (⟨z0.1, z0.2.1, z0.2.2.1, (g3_ z0), (g4_ z0), (g5_ z0)⟩ : Aa) (⟨(g6_ z0), (g7_ z0), (g8_ z0), (g9_ z0)⟩ : Ab) a0.2 _ h6), pv e76 (λ hg => k76 (⟨(g6_ z0), (g7_ z0), (g8_ z0), (g9_ z0)⟩ : Ab) 4 a0.2 _ (A0 h8 hg))] [] 9 C8 [1, 3, 37] hC [] ?_
  rcases cB h with ⟨h9, h⟩ | ⟨h9, h⟩
  ·exact wx w0b (λ _ => []) (Yo) Fg 23 [true] [] [] 9 C8 _ hC [pq h9] (sI h).symm
  ·refine ws Fg 25 [false] [pl q49 z0.2.1] [] 9 C8 (Sh z0 a0 0 (z0.1, z0.2.1, z0.2.2.1, (g3_ z0), (g4_ z0), (g5_ z0), (g6_ z0), (g7_ z0), (g8_ z0), (g9_ z0), (Da z0), (Es z0))) (Yn 0 (z0.1, z0.2.1, z0.2.2.1, (g3_ z0), (g4_ z0), (g5_ z0), (g6_ z0), (g7_ z0), (g8_ z0), (g9_ z0), (Da z0), (Es z0))) hC [pq h9] ?_
   obtain ⟨w1, hm1, hret1, hnext1⟩ := Aq h
   clear h
   refine wc w1 (M1) (Nx) ?_ λ z1 hs1 => ?_
   ·refine wb ?_
    refine Bb 42 rfl λ hl1 => ?_
    refine wl (Sh z0 a0) (Yn) hm1 (λ z1 hn1 => ?_) λ n1 a1 z1 w1b hi1 hx1 h hb1 hr1 => ?_
    ·clear hm1
     exact wx w1 (M1) (Nx) Fg 26 [false] [] [] 9 C8 _ hC [pq (A4 hl1)] hn1
    ·unfold Adm at h
     obtain ⟨y10, h11, y12, h13, h⟩ := A6 h
     refine wn Fg 33 [true] [pt hx1 hl1, pv e57 (λ hg => k57 (⟨z1.1, z1.2.1, z1.2.2.1, (g3_ z1), (g4_ z1), (g5_ z1)⟩ : Aa) (⟨(g6_ z1), (g7_ z1), (g8_ z1), (g9_ z1)⟩ : Ab) (cnt 0 n1) _ (A0 h11 hg)), pv Rf (λ hg => Q8 (⟨(⟨z1.1, z1.2.1, z1.2.2.1, (g3_ z1), (g4_ z1), (g5_ z1)⟩ : Aa), (⟨(g6_ z1), (g7_ z1), (g8_ z1), (g9_ z1)⟩ : Ab), (Da z1), (Es z1)⟩ : Av) a1.A _ (A0 h13 hg))] [] 9 G2 [1, 3, 6, 7, 42, 43, 44, 77] hC [pq (A1 hi1 hl1)] ?_
     rcases cB h with ⟨h14, h⟩ | ⟨h14, h⟩
     ·exact wx w1b (Sh z0 a0 (n1 + 1)) (Yn (n1 + 1)) Fg 24 [true] [] [] 9 C8 _ hC [pq h14] (sI h).symm
     ·obtain ⟨y15, h16, y17, h18, y19, h20, h⟩ := Bi h
      refine wn Fg 26 [false] [pb e87 (k87 (⟨z1.1, z1.2.1, z1.2.2.1, (g3_ z1), (g4_ z1), (g5_ z1)⟩ : Aa) (⟨(g6_ z1), (g7_ z1), (g8_ z1), (g9_ z1)⟩ : Ab) a1.A _ h16), pr pI h18, pn pI h18, pb e88 (k88 (⟨z1.1, z1.2.1, z1.2.2.1, (g3_ z1), (g4_ z1), (g5_ z1)⟩ : Aa) (⟨(g6_ z1), (g7_ z1), (g8_ z1), (g9_ z1)⟩ : Ab) a1.A _ h20)] [] 9 C8 [1, 3, 6, 42, 43, 44, 109] hC [pq h14] ?_
      rcases cB h with ⟨h21, h⟩ | ⟨h21, h⟩
      ·obtain ⟨y22, h23, h⟩ := Au h
       exact wx w1 (M1) (Nx) Fg 24 [true] [pc uF (uE (⟨(⟨z1.1, z1.2.1, z1.2.2.1, (g3_ z1), (g4_ z1), (g5_ z1)⟩ : Aa), (⟨(g6_ z1), (g7_ z1), (g8_ z1), (g9_ z1)⟩ : Ab), (Da z1), (Es z1)⟩ : Av) 1 (cnt 0 n1) _ h23) [0, 9, 10, 11, 12, 13, 14]] [] 9 [0, 1, 2, 3, 4, 5, 6, 7, 8, 9, 10, 11, 12, 13, 15] (zt y22.Am (zu y22.Ap (y22.goal, y22.acts))) hC [pq h21] (hb1 _ (sI h).symm)
      ·exact wx w1 (M1) (Nx) Fg 24 [false] [] [] 9 C8 (z1.1, z1.2.1, z1.2.2.1, (g3_ z1), (g4_ z1), (g5_ z1), (g6_ z1), (g7_ z1), (g8_ z1), (g9_ z1), (Da z1), (Es z1)) hC [pq h21] (hb1 _ (sI h).symm)
   ·have h := hnext1 _ hs1
    exact wx w0b (λ _ => []) (Yo) Fg 22 [] [] [] 9 C8 _ hC [] (sI h).symm
theorem Ay0 : EN 41 := en Tryz.func41
theorem k7 (x0 : Ag) (r : Aa × Ab × Ag) (h : F7 x0 = some r) : CO 7 [.d (.o 0 0)] [.box 70 (d70 x0)] (.tup [.agg [I r.1.Ao, .os 1, .os 2, .os 3, I r.1.Phase, I r.1.Ar], .agg [.os 4, .os 5, .os 6, .os 7]]) (.box 70 (d70 r.2.2) :: zs r.1 (zp r.2.1 [])) := by
 unfold F7 at h
 refine co 21 Tryz.func7 λ C hC => ?_
 obtain ⟨y1, h2, y3, h4, y5, h6, h⟩ := Bi h
 replace h := sI h
 subst h
 exact wr [0, 2, 3, 4, 5] 29 [] [pc e28 (k28 x0 _ h2) [0], ⟨.flts [.box 34 [.p (.v (.slice none 0 0)), .p (.v (.slice none 0 0)), .p (.v (.slice none 0 0)), .p (.v (.slice none 0 0))]], trivial⟩, pc Ay5 (Ayp y1.2 y1.1 _ h4) [0, 3, 4, 5], ⟨.call 29 [.agg [I y1.1.Ao, .os 0, .os 1, .os 2, I y1.1.Phase, I y1.1.Ar], .agg [.os 3, .os 4, .os 5, .os 6]] (zs y1.1 (zp y3.1 [])) (.tup [.agg [.os 7, .os 8, .os 9, .os 10], dS 11, dI y5.2.2]) (zs y1.1 (zp y3.1 (zp y5.1 [v2_ y5.2.1]))) [3, 4, 5, 8, 9, 10, 11], ⟨e29, ((k29 y1.1 y3.1 _ h6).lend (by kernel_rfl) (by kernel_rfl) (by kernel_rfl) ⟨A_ (λ _ => rfl), A_ (λ _ => rfl), A_ (λ _ => rfl), A_ (λ _ => rfl), A_ (λ _ => rfl), trivial⟩ (by kernel_rfl) (by kernel_rfl))⟩⟩, ⟨.flt 7 (.box 34 [.p (.v (.slice none 0 0)), .p (.v (.slice none 0 0)), .p (.v (.slice none 0 0)), .p (.v (.slice none 0 0))]) (.box 34 [.p (.v (.slice none 0 0)), .p (.v (.slice none 0 0)), .p (.v (.slice none 0 0)), .p (.v (.slice none 0 0))]), rfl⟩] [] 1 [0, 3, 4, 5, 12, 13, 14, 15] hC []
theorem e7 : EN 7 := en Tryz.func7
theorem Ayf (x0 : A2) (r : A2) (h : Ajz x0 = some r) : CO 70 [.d (.o 0 0)] (.box 147 (zb x0.Am [.os 1, .os 2, .os 3, .os 4, .os 5]) :: zp x0.Ap [v2_ x0.acts]) (.tup []) (.box 147 (zb r.Am [.os 6, .os 7, .os 8, .os 9, .os 10]) :: .non :: .non :: .non :: .non :: .non :: zp r.Ap [v2_ r.acts]) := by
 unfold Ajz at h
 refine co 24 Tryz.func70 λ C hC => ?_
 obtain ⟨y1, h2, y3, h4, y5, h6, h⟩ := Bi h
 replace h := sI h
 subst h
 exact wf [0, 1] 27 [] [pc Aw7 (Av4 x0 _ h2) n6_, pc Aw6 (Av3 y1 _ h4) [0, 7, 8, 9, 10, 11, 6], ⟨.call 123 [.agg (d29 y3.Am), .agg [.os 0, .os 1, .os 2, .os 3]] (zp y3.Ap []) (.tup [.agg [.os 4, .os 5, .os 6, .os 7], dI y5.2]) (zp y3.Ap (zp y5.1 [])) [12, 13, 14, 15], ⟨Aw3, ((Av0 y3.Am y3.Ap _ h6).lend (by kernel_rfl) (by kernel_rfl) (by kernel_rfl) ⟨A_ (λ _ => rfl), A_ (λ _ => rfl), A_ (λ _ => rfl), A_ (λ _ => rfl), trivial⟩ (by kernel_rfl) (by kernel_rfl))⟩⟩] [] 6 [0, 1, 2, 3, 4, 5, 17, 18, 19, 20, 16] hC []
theorem Ayv : EN 70 := en Tryz.func70
def K6 : List Nat := [0, 1, 2, 3, 4, 6, 7, 8, 9, 11, 15, 19, 29, 66]
theorem Az3 (x0 : Aa) (x1 : Ab) (x2 : Int) (r : Int) (h : T7 x0 x1 x2 = some r) : CO 142 [.agg (d29 x0), .agg (d34 x1), .d (I x2)] [] (.d (I r)) [] := by
 unfold T7 at h
 refine co 67 Tryz.func142 λ C hC => ?_
 obtain ⟨y1, h2, h⟩ := Au h
 refine wn K6 29 [] [pc e44 (k44 x0 x1 _ h2) []] [] 0 [0, 1] [2, 3, 4, 6, 7, 15] hC [] ?_
 rcases cB h with ⟨h3, h⟩ | ⟨h3, h⟩
 ·replace h := sI h
  subst h
  exact wr K6 24 [true] [] [] 0 [] hC [pq h3]
 ·rcases cB h with ⟨h4, h⟩ | ⟨h4, h⟩
  ·replace h := sI h
   subst h
   exact wr K6 27 [false, true] [pL_ [(decide (x2 < 0), false)] q49 x0.Ad] [] 0 [] hC [pq h3, pq h4]
  ·obtain ⟨y5, h6, h⟩ := Au h
   refine wn K6 27 [false, false] [pL_ [(decide (x2 < 0), false)] q49 x0.Ad, pc A0m (Azw x0 x1 x2 _ h6) []] [] 0 [0, 1] [2, 3, 4, 6, 29] hC [pq h3, pq h4] ?_
   rcases cB h with ⟨h7, h⟩ | ⟨h7, h⟩
   ·replace h := sI h
    subst h
    exact wr K6 24 [true] [] [] 0 [] hC [pq h7]
   ·obtain ⟨y8, h9, y10, h11, y12, h13, y14, h15, h⟩ := Cv h
    refine wn K6 33 [false] [pr q49 h9, pc Yd (X4 x0 x1 y8.A _ h11) [], pw e59 (λ hg => k59 y10.1.Ao y8.B _ (A0 h13 hg)) [], pw A0l (λ hg => Azv x0 x1 y8 _ (A0 h15 hg)) []] [] 0 [] [6, 66] hC [pq h7] ?_
    rcases cB h with ⟨h16, h⟩ | ⟨h16, h⟩
    ·replace h := sI h
     subst h
     exact wr K6 24 [true] [] [] 0 [] hC [pq h16]
    ·replace h := sI h
     subst h
     exact wr K6 25 [false] [] [] 0 [] hC [pq h16]
theorem A0t : EN 142 := en Tryz.func142
theorem Ayg (x0 : A2) (r : A2) (h : Aj0 x0 = some r) : CO 69 [.d (.o 0 0)] (.box 147 (zb x0.Am [.os 1, .os 2, .os 3, .os 4, .os 5]) :: zp x0.Ap [v2_ x0.acts]) (.tup []) (.box 147 (zb r.Am [.os 6, .os 7, .os 8, .os 9, .os 10]) :: .non :: .non :: .non :: .non :: .non :: zp r.Ap [v2_ r.acts]) := by
 unfold Aj0 at h
 refine co 6 Tryz.func69 λ C hC => ?_
 obtain ⟨y1, h2, y3, h4, h⟩ := A6 h
 replace h := sI h
 subst h
 exact wf [0] 23 [] [pc Ayv (Ayf x0 _ h2) n6_, pb Ayu (Aye y1 _ h4)] [] 6 Kd hC []
theorem Ayw : EN 69 := en Tryz.func69
def Ahy : List Nat := [0, 1, 2, 3, 4, 6, 7, 8, 9, 15]
theorem A0c (x0 : Aa) (x1 : Ab) (x2 : Int) (r : Ab × Int) (h : Qm x0 x1 x2 = some r) : CO 109 [.agg (d29 x0), .agg (d34 x1), .d (I x2)] [] (.tup [.agg [.os 0, .os 1, .os 2, .os 3], .d (I r.2)]) (zp r.1 []) := by
 unfold Qm at h
 refine co 29 Tryz.func109 λ C hC => ?_
 obtain ⟨y1, h2, h⟩ := Au h
 refine wn Ahy 28 [] [pc A0t (Az3 x0 x1 x2 _ h2) []] [.ownb 2 0 4 1, .ownb 2 1 87 4, .ownb 2 2 3 1, .ownb 2 3 92 2] 0 n7_ [2, 3, 4, 6, 7, 8, 15] hC [] ?_
 rcases cB h with ⟨h3, h⟩ | ⟨h3, h⟩
 ·replace h := sI h
  subst h
  exact wr Ahy 24 [true] [] [.ownb 2 0 4 1, .ownb 2 1 87 4, .ownb 2 2 3 1, .ownb 2 3 92 2] 0 [7, 8, 9, 10] hC [pq h3]
 ·obtain ⟨y4, h5, y6, h7, y8, h9, y10, h11, h⟩ := Cv h
  replace h := sI h
  subst h
  exact wr Ahy 29 [false] [pc e35 (k35 x1 _ h5) [], pr pB h7, pu pB h7 h9, ⟨.call 123 [.agg (d29 x0), .agg [.os 0, .os 1, .os 2, .os 3]] [v1_ y8, v4_ y4.Ac, v0_ y4.As, v3_ y4.Ak] (.tup [.agg [.os 4, .os 5, .os 6, .os 7], dI y10.2]) (v1_ y8 :: v4_ y4.Ac :: v0_ y4.As :: v3_ y4.Ak :: zp y10.1 []) [7, 8, 9, 10], ⟨Aw3, ((Av0 x0 (⟨y8, y4.Ac, y4.As, y4.Ak⟩ : Ab) _ h11).lend (by kernel_rfl) (by kernel_rfl) (by kernel_rfl) ⟨A_ (λ _ => rfl), A_ (λ _ => rfl), A_ (λ _ => rfl), A_ (λ _ => rfl), trivial⟩ (by kernel_rfl) (by kernel_rfl))⟩⟩] [] 0 [12, 13, 14, 15] hC [pq h3]
theorem A02 : EN 109 := en Tryz.func109
def Aaf : List Nat := [0, 1, 2, 3, 4, 6, 7, 8, 9, 10, 15]
theorem Ayh (x0 : Aa) (x1 : Ab) (r : Ab × (List An) × Int) (h : Aj1 x0 x1 = some r) : CO 68 [.agg (d29 x0), .agg (d34 x1), .d (.fn (.func 69) [] [])] [] (.tup [.agg [.os 0, .os 1, .os 2, .os 3], .d (.os 4), .d (I r.2.2)]) (zp r.1 [v2_ r.2.1]) := by
 unfold Aj1 at h
 refine co 34 Tryz.func68 λ C hC => ?_
 obtain ⟨y1, h2, h⟩ := Au h
 refine wn Aaf 28 [] [pc e44 (k44 x0 x1 _ h2) []] [.ownb 2 0 4 1, .ownb 2 1 87 4, .ownb 2 2 3 1, .ownb 2 3 92 2] 0 n7_ [2, 3, 4, 6, 7, 8, 9, 15] hC [] ?_
 rcases cB h with ⟨h3, h⟩ | ⟨h3, h⟩
 ·cases h
 ·obtain ⟨y4, h5, h⟩ := Au h
  refine wn Aaf 5 [false] [pc e35 (k35 x1 _ h5) []] [.ownb 11 10 47 3] 0 [2, 3, 4, 5, 6, 7, 8, 9, 10, 11, 12] [2, 6, 7, 8, 10] hC [pq h3] ?_
  obtain ⟨y6, h7, h⟩ := Au h
  replace h := sI h
  subst h
  exact wr Aaf 24 [] [pc Ayw (Ayg (⟨x0, y4, ([] : List An)⟩ : A2) _ h7) [9, 5, 6, 7, 8, 10]] [] 0 [11, 12, 13, 14, 15] hC []
theorem Ayx : EN 68 := en Tryz.func68
def I1 : List Nat := [0, 1, 3, 4, 6, 17, 36, 55, 76, 82, 88, 96]
theorem Ayi (x0 : Az) (x1 : An) (r : Int × Az) (h : N2 x0 x1 = some r) : CO 63 [.d (.o 0 0), .agg (d47 x1)] (.box 107 (zb x0.Am [.os 1, .os 2, .os 3, .os 4, I x0.time]) :: zp x0.Ap []) (.d (I r.1)) (.box 107 (zb r.2.Am [.os 5, .os 6, .os 7, .os 8, I r.2.time]) :: .non :: .non :: .non :: .non :: zp r.2.Ap []) := by
 unfold N2 at h
 refine co 101 Tryz.func63 λ C hC => ?_
 rcases cB h with ⟨h1, h⟩ | ⟨h1, h⟩
 ·obtain ⟨y2, h3, h⟩ := Au h
  replace h := sI h
  subst h
  exact wr I1 34 [true] [⟨.call 109 [.agg (d29 x0.Am), .agg [.os 0, .os 1, .os 2, .os 3], dI x1.Unit] (zp x0.Ap []) (.tup [.agg [.os 4, .os 5, .os 6, .os 7], dI y2.2]) (zp x0.Ap (zp y2.1 [])) [1, 2, 3, 4], ⟨A02, ((A0c x0.Am x0.Ap x1.Unit _ h3).lend (by kernel_rfl) (by kernel_rfl) (by kernel_rfl) ⟨A_ (λ _ => rfl), A_ (λ _ => rfl), A_ (λ _ => rfl), A_ (λ _ => rfl), trivial⟩ (by kernel_rfl) (by kernel_rfl))⟩⟩] [.frz 1, .frz 2, .frz 3, .frz 4] 5 [0, 1, 2, 3, 4, 6, 7, 8, 9] hC [pq h1]
 ·rcases cB h with ⟨h4, h⟩ | ⟨h4, h⟩
  ·obtain ⟨y5, h6, h⟩ := Au h
   replace h := sI h
   subst h
   exact wr I1 37 [false, true] [⟨.call 110 [.agg (d29 x0.Am), .agg [.os 0, .os 1, .os 2, .os 3], dI x1.Unit] (zp x0.Ap []) (.tup [.agg [.os 4, .os 5, .os 6, .os 7], dI y5.2]) (zp x0.Ap (zp y5.1 [])) [1, 2, 3, 4], ⟨A01, ((A0b x0.Am x0.Ap x1.Unit _ h6).lend (by kernel_rfl) (by kernel_rfl) (by kernel_rfl) ⟨A_ (λ _ => rfl), A_ (λ _ => rfl), A_ (λ _ => rfl), A_ (λ _ => rfl), trivial⟩ (by kernel_rfl) (by kernel_rfl))⟩⟩] [.frz 1, .frz 2, .frz 3, .frz 4] 5 [0, 1, 2, 3, 4, 6, 7, 8, 9] hC [pq h1, pq h4]
  ·rcases cB h with ⟨h7, h⟩ | ⟨h7, h⟩
   ·obtain ⟨y8, h9, h⟩ := Au h
    replace h := sI h
    subst h
    exact wr I1 40 [false, false, true] [⟨.call 111 [.agg (d29 x0.Am), .agg [.os 0, .os 1, .os 2, .os 3], dI x1.Unit, dI x1.Value] (zp x0.Ap []) (.tup [.agg [.os 4, .os 5, .os 6, .os 7], dI y8.2]) (zp x0.Ap (zp y8.1 [])) [1, 2, 3, 4], ⟨A00, ((A0a x0.Am x0.Ap x1.Unit x1.Value _ h9).lend (by kernel_rfl) (by kernel_rfl) (by kernel_rfl) ⟨A_ (λ _ => rfl), A_ (λ _ => rfl), A_ (λ _ => rfl), A_ (λ _ => rfl), trivial⟩ (by kernel_rfl) (by kernel_rfl))⟩⟩] [.frz 1, .frz 2, .frz 3, .frz 4] 5 [0, 1, 2, 3, 4, 6, 7, 8, 9] hC [pq h1, pq h4, pq h7]
   ·rcases cB h with ⟨h10, h⟩ | ⟨h10, h⟩
    ·obtain ⟨y11, h12, h⟩ := Au h
     replace h := sI h
     subst h
     exact wr I1 43 [false, false, false, true] [pc Axc (Av9 x0 x1.Unit _ h12) n5_] [.mv 1, .mv 2, .mv 3, .mv 4] 5 [0, 1, 2, 3, 4, 6, 7, 8, 9] hC [pq h1, pq h4, pq h7, pq h10]
    ·rcases cB h with ⟨h13, h⟩ | ⟨h13, h⟩
     ·obtain ⟨y14, h15, h⟩ := Au h
      replace h := sI h
      subst h
      exact wr I1 46 [false, false, false, false, true] [pc Axb (Av8 x0 x1.Unit _ h15) n5_] [.mv 1, .mv 2, .mv 3, .mv 4] 5 [0, 1, 2, 3, 4, 6, 7, 8, 9] hC [pq h1, pq h4, pq h7, pq h10, pq h13]
     ·rcases cB h with ⟨h16, h⟩ | ⟨h16, h⟩
      ·obtain ⟨y17, h18, h⟩ := Au h
       replace h := sI h
       subst h
       exact wr I1 49 [false, false, false, false, false, true] [pc Axa (Av7 x0 x1.Unit x1.Value _ h18) n5_] [.mv 1, .mv 2, .mv 3, .mv 4] 5 [0, 1, 2, 3, 4, 6, 7, 8, 9] hC [pq h1, pq h4, pq h7, pq h10, pq h13, pq h16]
      ·rcases cB h with ⟨h19, h⟩ | ⟨h19, h⟩
       ·obtain ⟨y20, h21, h⟩ := Au h
        replace h := sI h
        subst h
        exact wr I1 52 [false, false, false, false, false, false, true] [pc Aw9 (Av6 x0 _ h21) n5_] [] 5 [0, 1, 2, 3, 4, 6, 7, 8, 9] hC [pq h1, pq h4, pq h7, pq h10, pq h13, pq h16, pq h19]
       ·obtain ⟨y22, h23, h⟩ := Au h
        replace h := sI h
        subst h
        exact wr I1 52 [false, false, false, false, false, false, false] [pc Aw8 (Av5 x0 (⟨x1.Value, x1.Unit⟩ : Al) (x1.Kind == 8) _ h23) n5_] [] 5 [0, 1, 2, 3, 4, 6, 7, 8, 9] hC [pq h1, pq h4, pq h7, pq h10, pq h13, pq h16, pq h19]
theorem Ayy : EN 63 := en Tryz.func63
theorem k31 (x0 : Aa) (x1 : Ab) (r : Ab × (List An) × Int) (h : F31 x0 x1 = some r) : CO 31 [.agg (d29 x0), .agg (d34 x1)] [] (.tup [.agg [.os 0, .os 1, .os 2, .os 3], .d (.os 4), .d (I r.2.2)]) (zp r.1 [v2_ r.2.1]) := by
 unfold F31 at h
 refine co 13 Tryz.func31 λ C hC => ?_
 obtain ⟨y1, h2, h⟩ := Au h
 replace h := sI h
 subst h
 exact wr n7_ 25 [] [pc Ayx (Ayh x0 x1 _ h2) []] [] 0 [3, 4, 5, 6, 7] hC []
theorem e31 : EN 31 := en Tryz.func31
def S3 : List Nat := [0, 1, 2, 3, 4, 5, 7, 8, 9, 10, 11, 12, 16, 21, 39, 55]
theorem k27 (x0 : Aa) (x1 : Ab) (x2 : Int) (x3 : An) (r : Ab × Int) (h : F27 x0 x1 x2 x3 = some r) : CO 27 [.agg (d29 x0), .agg (d34 x1), .d (I x2), .agg (d47 x3)] [] (.tup [.agg [.os 0, .os 1, .os 2, .os 3], .d (I r.2)]) (zp r.1 []) := by
 unfold F27 at h
 refine co 62 Tryz.func27 λ C hC => ?_
 obtain ⟨y1, h2, h⟩ := Au h
 refine wn S3 29 [] [pc e44 (k44 x0 x1 _ h2) []] [.ownb 3 0 4 1, .ownb 3 1 87 4, .ownb 3 2 3 1, .ownb 3 3 92 2] 0 n8_ [2, 4, 5, 7, 8, 9, 10, 16] hC [] ?_
 rcases cB h with ⟨h3, h⟩ | ⟨h3, h⟩
 ·replace h := sI h
  subst h
  exact wr S3 24 [true] [] [.ownb 3 0 4 1, .ownb 3 1 87 4, .ownb 3 2 3 1, .ownb 3 3 92 2] 0 [8, 9, 10, 11] hC [pq h3]
 ·rcases cB h with ⟨h4, h⟩ | ⟨h4, h⟩
  ·replace h := sI h
   subst h
   exact wr S3 27 [false, true] [] [.ownb 3 0 4 1, .ownb 3 1 87 4, .ownb 3 2 3 1, .ownb 3 3 92 2] 0 [8, 9, 10, 11] hC [pq h3, pq h4]
  ·obtain ⟨y5, h6, h⟩ := Au h
   rcases cB h with ⟨h7, h⟩ | ⟨h7, h⟩
   ·replace h := sI h
    subst h
    exact wr S3 30 [false, false, true] [pc e62 (k62 x0 x3 _ h6) []] [.ownb 3 0 4 1, .ownb 3 1 87 4, .ownb 3 2 3 1, .ownb 3 3 92 2] 0 [8, 9, 10, 11] hC [pq h3, pq h4, pq h7]
   ·obtain ⟨y8, h9, y10, h11, h⟩ := A6 h
    refine wn S3 37 [false, false, false] [pc e62 (k62 x0 x3 _ h6) [], pc e35 (k35 x1 _ h9) [], pc Ayy (Ayi (⟨x0, y8, x2⟩ : Az) x3 _ h11) [12, 8, 9, 10, 11]] [] 0 [3, 4, 5, 6, 7, 12, 13, 14, 15, 16] [8, 9, 11, 12, 55] hC [pq h3, pq h4, pq h7] ?_
    rcases cB h with ⟨h12, h⟩ | ⟨h12, h⟩
    ·replace h := sI h
     subst h
     exact wr S3 24 [true] [] [.ownb 0 0 4 1, .ownb 0 1 87 4, .ownb 0 2 3 1, .ownb 0 3 92 2] 0 [10, 11, 12, 13] hC [pq h12]
    ·replace h := sI h
     subst h
     exact wr S3 25 [false] [] [] 0 [6, 7, 8, 9] hC [pq h12]
theorem e27 : EN 27 := en Tryz.func27
def lv8 : List Nat := [0, 1, 2, 3, 4, 5, 6, 8, 9, 10, 11, 19, 23, 33, 64]
def Agy  (z0 : Sg7) : St := [(4, .d (DS q47 [])), (5, dI 0), (9, dO 0 0)]
def Ar9  (z0 : Sg7) : List Res := [.box 80 [I z0.1, DS q49 z0.2.1, DS q98 z0.2.2.1, DS q90 (g3_ z0), I (g4_ z0), I (g5_ z0), .os 1, .os 2, .os 3, .os 4, .os 5, .os 6], v1_ (g6_ z0), v4_ (g7_ z0), v0_ (g8_ z0), v3_ (g9_ z0), v1_ (Da z0), v2_ (Es z0)]
def Ask  (z0 : Sg7) : St := [(4, .d (DS q47 [])), (5, dI 0), (9, dO 0 0)]
def Atj  (z0 : Sg7) : List Res := [.box 80 [I z0.1, DS q49 z0.2.1, DS q98 z0.2.2.1, DS q90 (g3_ z0), I (g4_ z0), I (g5_ z0), .os 1, .os 2, .os 3, .os 4, .os 5, .os 6], v1_ (g6_ z0), v4_ (g7_ z0), v0_ (g8_ z0), v3_ (g9_ z0), v1_ (Da z0), v2_ (Es z0)]
theorem k8 (x0 : Aa) (x1 : Ab) (r : (List An) × Int) (h : F8 x0 x1 = some r) : CO 8 [.agg (d29 x0), .agg (d34 x1)] [] (.tup [.d (.os 0), .d (I r.2)]) [v2_ r.1] := by
 unfold F8 at h
 refine co 74 Tryz.func8 λ C hC => ?_
 obtain ⟨y1, h2, h⟩ := Au h
 refine wn lv8 29 [] [pc e31 (k31 x0 x1 _ h2) []] [] 0 [0, 1, 2, 3, 4, 5, 7] [2, 3, 4, 5, 6, 8, 19] hC [] ?_
 rcases cB h with ⟨h3, h⟩ | ⟨h3, h⟩
 ·cases h
 ·obtain ⟨y4, h5, y6, h7, h⟩ := A6 h
  refine wn lv8 24 [false] [pb e32 (k32 x1 y1.1 _ h5), pw e33 (λ hg => k33 x0 x1 _ (A0 h7 hg)) []] [] 0 [0, 1] [2, 3, 4, 5, 23] hC [pq h3] ?_
  rcases cB h with ⟨h8, h⟩ | ⟨h8, h⟩
  ·cases h
  ·obtain ⟨y9, h10, y11, h12, y13, h14, h⟩ := Bi h
   refine wn lv8 24 [false] [pc e23 (k23 x0 x1 _ h10) [], pb e34 (k34 y9 true _ h12), pw e24 (λ hg => k24 x0 x1 _ (A0 h14 hg)) []] [] 0 [0, 1] [2, 3, 4, 5, 33] hC [pq h8] ?_
   rcases cB h with ⟨h15, h⟩ | ⟨h15, h⟩
   ·cases h
   ·obtain ⟨y16, h17, y18, h19, h⟩ := A6 h
    refine wn lv8 6 [false] [pc e35 (k35 x1 _ h17) [], pc e23 (k23 x0 x1 _ h19) []] [.ownb 7 11 47 3] 0 [2, 3, 4, 5, 6, 7, 8] [4, 5, 9] hC [pq h15] ?_
    obtain ⟨y20, h21, y22, h23, y24, h25, h⟩ := Bi h
    refine ws lv8 27 [] [pc Ay4 (Ayo (⟨x0, y16, y18, ([] : List An)⟩ : Av) _ h21) [5, 0, 1, 2, 3, 4, 6], pc Ay3 (Ayn y20 _ h23) [5, 7, 8, 9, 10, 11, 12], pc Ay2 (Aym y22 _ h25) [5, 13, 14, 15, 16, 17, 18]] [] 0 [5, 19, 20, 21, 22, 23, 24] (Agy (zt y24.Am (zu y24.Ap (y24.goal, y24.acts)))) (Ar9 (zt y24.Am (zu y24.Ap (y24.goal, y24.acts)))) hC [] ?_
    obtain ⟨w0, hm0, hret0, hnext0⟩ := Aq h
    clear h
    refine wc w0 (Ask) (Atj) ?_ λ z0 hs0 => ?_
    ·refine wb ?_
     refine ww (Agy) (Ar9) hm0 λ z0 w0b h hb0 hr0 => ?_
     unfold Ats at h
     obtain ⟨y26, h27, h⟩ := Au h
     refine wn lv8 27 [] [pb Ay1 (Ayl (⟨(⟨z0.1, z0.2.1, z0.2.2.1, (g3_ z0), (g4_ z0), (g5_ z0)⟩ : Aa), (⟨(g6_ z0), (g7_ z0), (g8_ z0), (g9_ z0)⟩ : Ab), (Da z0), (Es z0)⟩ : Av) _ h27)] [] 0 n7_ [4, 5, 9, 10, 64] hC [] ?_
     rcases cB h with ⟨h28, h⟩ | ⟨h28, h⟩
     ·exact wx w0 (Ask) (Atj) lv8 23 [true] [] [] 0 n7_ (z0.1, z0.2.1, z0.2.2.1, (g3_ z0), (g4_ z0), (g5_ z0), (g6_ z0), (g7_ z0), (g8_ z0), (g9_ z0), (Da z0), (Es z0)) hC [pq h28] (hb0 _ (sI h).symm)
     ·obtain ⟨y29, h30, h⟩ := Au h
      exact wx w0b (Agy) (Ar9) lv8 25 [false] [pc uF (uE (⟨(⟨z0.1, z0.2.1, z0.2.2.1, (g3_ z0), (g4_ z0), (g5_ z0)⟩ : Aa), (⟨(g6_ z0), (g7_ z0), (g8_ z0), (g9_ z0)⟩ : Ab), (Da z0), (Es z0)⟩ : Av) 1 y26.1 _ h30) n7_] [] 0 [0, 1, 2, 3, 4, 5, 7] _ hC [pq h28] (sI h).symm
    ·have h := hnext0 _ hs0
     obtain ⟨y31, h32, h⟩ := Au h
     replace h := sI h
     subst h
     exact wr lv8 25 [] [pc Ay0 (Ayk (⟨(⟨z0.1, z0.2.1, z0.2.2.1, (g3_ z0), (g4_ z0), (g5_ z0)⟩ : Aa), (⟨(g6_ z0), (g7_ z0), (g8_ z0), (g9_ z0)⟩ : Ab), (Da z0), (Es z0)⟩ : Av) _ h32) n7_] [] 0 [12] hC []
theorem e8 : EN 8 := en Tryz.func8
def S5 : List Nat := [0, 1, 2, 3, 4, 5, 8, 9, 10, 11, 12, 13, 14, 15, 16, 21, 26, 27, 28, 29, 42, 49]
def U2 (x3 : List An) (n0 : Nat) (z0 : Sg2) : St := [(2, dI z0.1), (3, .d (DS q47 x3)), (4, dO 0 0), (5, dO 1 0), (8, dO 2 0), (9, dI 0), (10, dI 0), (11, dI 0), (26, .d (DS q47 x3)), (27, dI (ln x3)), (28, dI (cnt 0 n0))]
def vD (x0 : Aa) (n0 : Nat) (z0 : Sg2) : List Res := (.box 29 (d29 x0) :: .box 34 [.os 7, .os 8, .os 9, .os 10] :: .box 34 [.os 3, .os 4, .os 5, .os 6] :: ze [v1_ z0.2.1, v4_ z0.2.2.1, v0_ (g3_ z0), v3_ (E8 z0)])
def Amo (x3 : List An) (z0 : Sg2) : St := [(2, dI z0.1), (3, .d (DS q47 x3)), (5, dO 0 0), (8, dO 1 0), (9, dI 0), (10, dI 0), (11, dI 0)]
def Apy  (z0 : Sg2) : List Res := (.box 34 [.os 6, .os 7, .os 8, .os 9] :: .box 34 [.os 2, .os 3, .os 4, .os 5] :: ze [v1_ z0.2.1, v4_ z0.2.2.1, v0_ (g3_ z0), v3_ (E8 z0)])
theorem k10 (x0 : Aa) (x1 : Ab) (x2 : Int) (x3 : List An) (r : Ab × Int × Int × Int) (h : F10 x0 x1 x2 x3 = some r) : CO 10 [.agg (d29 x0), .agg (d34 x1), .d (I x2), .d (DS q47 x3)] [] (.tup [.agg [.os 0, .os 1, .os 2, .os 3], .d (I r.2.1), .d (I r.2.2.1), .d (I (Cz r))]) (zp r.1 []) := by
 unfold F10 at h
 refine co 58 Tryz.func10 λ C hC => ?_
 obtain ⟨y1, h2, h⟩ := Au h
 refine wn S5 28 [] [pc e44 (k44 x0 x1 _ h2) []] [.ownb 2 0 4 1, .ownb 2 1 87 4, .ownb 2 2 3 1, .ownb 2 3 92 2] 0 n7_ [2, 3, 4, 5, 8, 9, 10, 11, 12, 21] hC [] ?_
 rcases cB h with ⟨h3, h⟩ | ⟨h3, h⟩
 ·cases h
 ·obtain ⟨y4, h5, h⟩ := Au h
  refine ws S5 28 [false] [pc e35 (k35 x1 _ h5) [], pl q47 x3] [] 0 Kd (U2 x3 0 (x2, y4.Ah, y4.Ac, y4.As, y4.Ak)) (vD x0 0 (x2, y4.Ah, y4.Ac, y4.As, y4.Ak)) hC [pq h3] ?_
  obtain ⟨w0, hm0, hret0, hnext0⟩ := Aq h
  clear h
  refine wc w0 (Amo x3) (Apy) ?_ λ z0 hs0 => ?_
  ·refine wb ?_
   refine Bb 26 rfl λ hl0 => ?_
   refine wl (U2 x3) (vD x0) hm0 (λ z0 hn0 => ?_) λ n0 a0 z0 w0b hi0 hx0 h hb0 hr0 => ?_
   ·clear hm0
    exact wx w0 (Amo x3) (Apy) S5 26 [false] [] [] 0 [1, 2, 3, 4, 5, 6, 7, 8, 9, 10] _ hC [pq (A4 hl0)] hn0
   ·unfold Aqg at h
    obtain ⟨y6, h7, h⟩ := Au h
    refine wn S5 35 [true] [pt hx0 hl0, ⟨.call 27 [.agg (d29 x0), .agg [.os 0, .os 1, .os 2, .os 3], dI z0.1, .agg (d47 a0)] [v1_ z0.2.1, v4_ z0.2.2.1, v0_ (g3_ z0), v3_ (E8 z0)] (.tup [.agg [.os 4, .os 5, .os 6, .os 7], dI y6.2]) (v1_ z0.2.1 :: v4_ z0.2.2.1 :: v0_ (g3_ z0) :: v3_ (E8 z0) :: zp y6.1 []) [7, 8, 9, 10], ⟨e27, ((k27 x0 (⟨z0.2.1, z0.2.2.1, (g3_ z0), (E8 z0)⟩ : Ab) z0.1 a0 _ h7).lend (by kernel_rfl) (by kernel_rfl) (by kernel_rfl) ⟨A_ (λ _ => rfl), A_ (λ _ => rfl), A_ (λ _ => rfl), A_ (λ _ => rfl), trivial⟩ (by kernel_rfl) (by kernel_rfl))⟩⟩] [] 0 Ahn [2, 3, 4, 5, 8, 9, 10, 11, 13, 14, 15, 16, 26, 27, 28, 42] hC [pq (A1 hi0 hl0)] ?_
    rcases cB h with ⟨h8, h⟩ | ⟨h8, h⟩
    ·cases h
    ·rcases cB h with ⟨h9, h⟩ | ⟨h9, h⟩
     ·exact wx w0b (U2 x3 (n0 + 1)) (vD x0 (n0 + 1)) S5 31 [false, true] [] [] 0 [0, 1, 2, 3, 4, 5, 6, 12, 13, 14, 15] _ hC [pq h8, pq h9] (sI h).symm
     ·exact wx w0b (U2 x3 (n0 + 1)) (vD x0 (n0 + 1)) S5 31 [false, false] [] [] 0 [0, 1, 2, 3, 4, 5, 6, 12, 13, 14, 15] _ hC [pq h8, pq h9] (sI h).symm
  ·have h := hnext0 _ hs0
   replace h := sI h
   subst h
   exact wr S5 23 [] [pl q47 x3] [] 0 [6, 7, 8, 9] hC []
theorem e10 : EN 10 := en Tryz.func10
theorem k9  (r : Bool) (h : F9  = some r) : CO 9 [] [] (.d (Bo r)) [] := by
 unfold F9 at h
 refine co 64 Tryz.func9 λ C hC => ?_
 obtain ⟨y1, h2, y3, h4, y5, h6, h⟩ := Bi h
 obtain ⟨y7, h8, y9, h10, h⟩ := A6 h
 replace h := sI h
 subst h
 exact wr n9_ 31 [] [pc e42 (k42  _ rfl) [], pc e8 (k8 F42.1 F42.2 _ h2) [], ⟨.call 10 [.agg (d29 F42.1), .agg (d34 F42.2), dI 7, dS 0] [v2_ y1.1] (.tup [.agg [.os 1, .os 2, .os 3, .os 4], dI y3.2.1, dI y3.2.2.1, dI (Cz y3)]) (v2_ y1.1 :: zp y3.1 []) [2], ⟨e10, ((k10 F42.1 F42.2 7 y1.1 _ h4).lend (by kernel_rfl) (by kernel_rfl) (by kernel_rfl) ⟨A_ (λ _ => rfl), A_ (λ _ => rfl), A_ (λ _ => rfl), A_ (λ _ => rfl), trivial⟩ (by kernel_rfl) (by kernel_rfl))⟩⟩, pv e43 (λ hg => k43 y1.1 [(⟨3, 0, 0⟩ : An), (⟨7, 0, 0⟩ : An), (⟨7, 0, 0⟩ : An), (⟨7, 0, 0⟩ : An), (⟨1, 1, 0⟩ : An), (⟨1, 0, 0⟩ : An)] _ (A0 h6 hg)), pv e24 (λ hg => k24 F42.1 y3.1 _ (A0 h8 hg)), pw e24 (λ hg => k24 F42.1 F42.2 _ (A0 h10 hg)) []] [] 0 [] hC []
theorem e9 : EN 9 := en Tryz.func9
def lv5 : List Nat := [0, 2, 3, 4, 5, 6, 7, 8, 9, 10, 11, 12, 13, 15, 16, 17, 19, 34, 37, 38, 39, 50, 53, 54, 55, 56, 61, 76, 77, 78, 79, 80, 96, 101, 102, 103, 104, 114, 123, 124, 125, 126, 127, 140]
def Ag1 (y3 : Aa × Ab × Ag) (z0 : Int) : St := [(2, dB false), (3, dO 0 0), (4, dO 8 0), (5, dO 9 0), (6, dS 10), (37, dI (ln y3.1.Ad)), (38, dI z0)]
def Asc (y3 : Aa × Ab × Ag) (y5 : (List Bool)) (z0 : Int) : List Res := (.box 70 (d70 y3.2.2) :: zs y3.1 (zp y3.2.1 [.box 29 [I y3.1.Ao, .os 1, .os 2, .os 3, I y3.1.Phase, I y3.1.Ar], .box 34 [.os 4, .os 5, .os 6, .os 7], v1_ y5]))
def Asp  (z0 : Int) : St := [(2, dB false), (3, dO 0 0), (4, dO 8 0), (5, dO 9 0), (6, dS 10)]
def Ato (y3 : Aa × Ab × Ag) (y5 : (List Bool)) (z0 : Int) : List Res := (.box 70 (d70 y3.2.2) :: zs y3.1 (zp y3.2.1 [.box 29 [I y3.1.Ao, .os 1, .os 2, .os 3, I y3.1.Phase, I y3.1.Ar], .box 34 [.os 4, .os 5, .os 6, .os 7], v1_ y5]))
def qZ (y5 : (List Bool)) (n1 : Nat) (z1 : (List Int)) : St := [(2, dB false), (3, dO 0 0), (4, dO 8 0), (5, dO 9 0), (6, dS 10), (8, dS 11), (53, dS 10), (54, dI (ln y5)), (55, dI (cnt 0 n1))]
def Ajc (y3 : Aa × Ab × Ag) (y5 : (List Bool)) (n1 : Nat) (z1 : (List Int)) : List Res := (.box 70 (d70 y3.2.2) :: zs y3.1 (zp y3.2.1 [.box 29 [I y3.1.Ao, .os 1, .os 2, .os 3, I y3.1.Phase, I y3.1.Ar], .box 34 [.os 4, .os 5, .os 6, .os 7], v1_ y5, v0_ z1]))
def Aso  (z1 : (List Int)) : St := [(2, dB false), (3, dO 0 0), (4, dO 8 0), (5, dO 9 0), (6, dS 10), (8, dS 11)]
def Atn (y3 : Aa × Ab × Ag) (y5 : (List Bool)) (z1 : (List Int)) : List Res := (.box 70 (d70 y3.2.2) :: zs y3.1 (zp y3.2.1 [.box 29 [I y3.1.Ao, .os 1, .os 2, .os 3, I y3.1.Phase, I y3.1.Ar], .box 34 [.os 4, .os 5, .os 6, .os 7], v1_ y5, v0_ z1]))
def Ag0 (y5 : (List Bool)) (n2 : Nat) (z2 : Unit) : St := [(2, dB false), (3, dO 0 0), (4, dO 8 0), (5, dO 9 0), (8, dS 11), (77, dS 10), (78, dI (ln y5)), (79, dI (cnt 0 n2))]
def Asb (y3 : Aa × Ab × Ag) (y5 : (List Bool)) (z1 : (List Int)) (n2 : Nat) (z2 : Unit) : List Res := (.box 70 (d70 y3.2.2) :: zs y3.1 (zp y3.2.1 [.box 29 [I y3.1.Ao, .os 1, .os 2, .os 3, I y3.1.Phase, I y3.1.Ar], .box 34 [.os 4, .os 5, .os 6, .os 7], v1_ y5, v0_ z1]))
def Asn  (z2 : Unit) : St := [(2, dB false), (3, dO 0 0), (4, dO 8 0), (5, dO 9 0), (8, dS 10)]
def Atm (y3 : Aa × Ab × Ag) (z1 : (List Int)) (z2 : Unit) : List Res := (.box 70 (d70 y3.2.2) :: zs y3.1 (zp y3.2.1 [.box 29 [I y3.1.Ao, .os 1, .os 2, .os 3, I y3.1.Phase, I y3.1.Ar], .box 34 [.os 4, .os 5, .os 6, .os 7], v0_ z1]))
def Ur (y27 : (List An) × Ag) (n3 : Nat) (z3 : Sg1) : St := [(2, dB false), (4, dO 7 0), (8, dS 8), (13, dO 9 0), (101, dS 10), (102, dI (ln y27.1)), (103, dI (cnt 0 n3))]
def Acf (y3 : Aa × Ab × Ag) (z1 : (List Int)) (y27 : (List An) × Ag) (n3 : Nat) (z3 : Sg1) : List Res := (zs y3.1 [v1_ z3.1, v4_ z3.2.1, v0_ z3.2.2.1, v3_ (Cz z3), .box 29 [I y3.1.Ao, .os 0, .os 1, .os 2, I y3.1.Phase, I y3.1.Ar], v0_ z1, .box 34 [.os 3, .os 4, .os 5, .os 6], v2_ y27.1])
def Asm  (z3 : Sg1) : St := [(2, dB false)]
def Atl  (z3 : Sg1) : List Res := []
def Agz (z1 : (List Int)) (y27 : (List An) × Ag) (n3 : Nat) (n4 : Nat) (z4 : Unit) : St := [(2, dB false), (4, dO 7 0), (8, dS 8), (13, dO 9 0), (16, dO 15 0), (101, dS 10), (102, dI (ln y27.1)), (103, dI (cnt 0 n3)), (124, dS 8), (125, dI (ln z1)), (126, dI (cnt 0 n4))]
def Asa (y3 : Aa × Ab × Ag) (z1 : (List Int)) (y27 : (List An) × Ag) (z3 : Sg1) (y30 : Ab × Int) (n4 : Nat) (z4 : Unit) : List Res := (zs y3.1 (v1_ z3.1 :: v4_ z3.2.1 :: v0_ z3.2.2.1 :: v3_ (Cz z3) :: .box 29 [I y3.1.Ao, .os 0, .os 1, .os 2, I y3.1.Phase, I y3.1.Ar] :: v0_ z1 :: .box 34 [.os 3, .os 4, .os 5, .os 6] :: v2_ y27.1 :: zp y30.1 [.box 34 [.os 11, .os 12, .os 13, .os 14]]))
def Asl (y27 : (List An) × Ag) (n3 : Nat) (z4 : Unit) : St := [(2, dB false), (4, dO 7 0), (8, dS 8), (13, dO 9 0), (16, dO 15 0), (101, dS 10), (102, dI (ln y27.1)), (103, dI (cnt 0 n3))]
def Atk (y3 : Aa × Ab × Ag) (z1 : (List Int)) (y27 : (List An) × Ag) (z3 : Sg1) (y30 : Ab × Int) (z4 : Unit) : List Res := (zs y3.1 (v1_ z3.1 :: v4_ z3.2.1 :: v0_ z3.2.2.1 :: v3_ (Cz z3) :: .box 29 [I y3.1.Ao, .os 0, .os 1, .os 2, I y3.1.Phase, I y3.1.Ar] :: v0_ z1 :: .box 34 [.os 3, .os 4, .os 5, .os 6] :: v2_ y27.1 :: zp y30.1 [.box 34 [.os 11, .os 12, .os 13, .os 14]]))
set_option maxHeartbeats 4000000 in
theorem k5 (x0 : List Int) (r : Bool) (h : F5 x0 = some r) : CO 5 [.d (DS pI x0)] [] (.d (Bo r)) [] := by
 unfold F5 at h
 refine co 145 Tryz.func5 λ C hC => ?_
 obtain ⟨y1, h2, y3, h4, y5, h6, h⟩ := Bi h
 refine wn lv5 32 [] [pc e6 (k6 x0 _ h2) [], pc e7 (k7 y1 _ h4) [0], ⟨.call 23 [.agg [I y3.1.Ao, .os 0, .os 1, .os 2, I y3.1.Phase, I y3.1.Ar], .agg [.os 3, .os 4, .os 5, .os 6]] (zs y3.1 (zp y3.2.1 [])) (dS 7) (zs y3.1 (zp y3.2.1 [v1_ y5])) [1, 2, 3, 4, 5, 6, 7], ⟨e23, ((k23 y3.1 y3.2.1 _ h6).lend (by kernel_rfl) (by kernel_rfl) (by kernel_rfl) ⟨A_ (λ _ => rfl), trivial⟩ (by kernel_rfl) (by kernel_rfl))⟩⟩, pl pB y5] [] 0 Kd [2, 3, 4, 5, 6, 34] hC [] ?_
 rcases cB h with ⟨h7, h⟩ | ⟨h7, h⟩
 ·replace h := sI h
  subst h
  exact wr lv5 24 [true] [] [] 0 [] hC [pq h7]
 ·refine ws lv5 26 [false] [pl q49 y3.1.Ad] [] 0 Kd (Ag1 y3 0) (Asc y3 y5 0) hC [pq h7] ?_
  obtain ⟨w0, hm0, hret0, hnext0⟩ := Aq h
  clear h
  refine wc w0 (Asp) (Ato y3 y5) ?_ λ z0 hs0 => ?_
  ·refine wb ?_
   refine ww (Ag1 y3) (Asc y3 y5) hm0 λ z0 w0b h hb0 hr0 => ?_
   unfold Aj6 at h
   rcases cB h with ⟨h8, h⟩ | ⟨h8, h⟩
   ·obtain ⟨y9, h10, y11, h12, h⟩ := A6 h
    refine wn lv5 32 [true] [pr pB h10, pn pB h10, pv e15 (λ hg => k15 y3.2.1 2 z0 _ (A0 h12 hg))] [] 0 Kd [2, 3, 4, 5, 6, 37, 38, 50] hC [pq h8] ?_
    rcases cB h with ⟨h13, h⟩ | ⟨h13, h⟩
    ·obtain ⟨y14, h15, h⟩ := Au h
     have hq := hret0 _ (hr0 _ (sI h).symm)
     replace hq := sI hq
     subst hq
     exact wr lv5 24 [true] [pc e9 (k9  _ h15) []] [] 0 [] hC [pq h13]
    ·exact wx w0b (Ag1 y3) (Asc y3 y5) lv5 25 [false] [] [] 0 Kd _ hC [pq h13] (sI h).symm
   ·exact wx w0 (Asp) (Ato y3 y5) lv5 26 [false] [] [] 0 Kd z0 hC [pq h8] (hb0 _ (sI h).symm)
  ·have h := hnext0 _ hs0
   refine ws lv5 26 [] [pl pB y5] [.own 8 3 1] 0 Ek (qZ y5 0 ([] : List Int)) (Ajc y3 y5 0 ([] : List Int)) hC [] ?_
   obtain ⟨w1, hm1, hret1, hnext1⟩ := Aq h
   clear h
   refine wc w1 (Aso) (Atn y3 y5) ?_ λ z1 hs1 => ?_
   ·refine wb ?_
    refine Bk 53 10 rfl rfl λ hl1 => ?_
    refine wl (qZ y5) (Ajc y3 y5) hm1 (λ z1 hn1 => ?_) λ n1 a1 z1 w1b hi1 hx1 h hb1 hr1 => ?_
    ·clear hm1
     exact wx w1 (Aso) (Atn y3 y5) lv5 26 [false] [] [] 0 Ek _ hC [pq (A4 hl1)] hn1
    ·unfold Aj5 at h
     rcases cB h with ⟨h16, h⟩ | ⟨h16, h⟩
     ·obtain ⟨y17, h18, h⟩ := Au h
      exact wx w1b (qZ y5 (n1 + 1)) (Ajc y3 y5 (n1 + 1)) lv5 36 [true, true] [pr pB (A8 hx1 hl1), pn pB (A8 hx1 hl1), pa pI 1 h18] [] 0 [0, 1, 2, 3, 4, 5, 6, 7, 8, 9, 10, 12] _ hC [pq (A1 hi1 hl1), pq h16] (sI h).symm
     ·exact wx w1b (qZ y5 (n1 + 1)) (Ajc y3 y5 (n1 + 1)) lv5 36 [true, false] [pr pB (A8 hx1 hl1), pn pB (A8 hx1 hl1)] [] 0 Ek _ hC [pq (A1 hi1 hl1), pq h16] (sI h).symm
   ·have h := hnext1 _ hs1
    obtain ⟨y19, h20, h⟩ := Au h
    refine wn lv5 24 [] [pl pI z1, pv e25 (λ hg => k25 y3.1 y3.2.1 z1 _ (A0 h20 hg))] [] 0 Ek [2, 3, 4, 5, 6, 8, 76] hC [] ?_
    rcases cB h with ⟨h21, h⟩ | ⟨h21, h⟩
    ·replace h := sI h
     subst h
     exact wr lv5 24 [true] [] [] 0 [] hC [pq h21]
    ·refine ws lv5 26 [false] [pl pB y5] [] 0 Ek (Ag0 y5 0 ()) (Asb y3 y5 z1 0 ()) hC [pq h21] ?_
     obtain ⟨w2, hm2, hret2, hnext2⟩ := Aq h
     clear h
     refine wc w2 (Asn) (Atm y3 z1) ?_ λ z2 hs2 => ?_
     ·refine wb ?_
      refine Bk 77 10 rfl rfl λ hl2 => ?_
      refine wl (Ag0 y5) (Asb y3 y5 z1) hm2 (λ z2 hn2 => ?_) λ n2 a2 z2 w2b hi2 hx2 h hb2 hr2 => ?_
      ·clear hm2
       exact wx w2 (Asn) (Atm y3 z1) lv5 26 [false] [] [] 0 [0, 1, 2, 3, 4, 5, 6, 7, 8, 9, 11] _ hC [pq (A4 hl2)] hn2
      ·unfold Aj4 at h
       obtain ⟨y22, h23, y24, h25, h⟩ := A6 h
       refine wn lv5 32 [true] [pr pB (A8 hx2 hl2), pn pB (A8 hx2 hl2), pv e25 (λ hg => k25 y3.1 y3.2.1 [cnt 0 n2] _ (A0 h23 hg)), pv e15 (λ hg => k15 y3.2.1 3 (cnt 0 n2) _ (A0 h25 hg))] [] 0 Ek [2, 3, 4, 5, 8, 77, 78, 79, 96] hC [pq (A1 hi2 hl2)] ?_
       rcases cB h with ⟨h26, h⟩ | ⟨h26, h⟩
       ·have hq := hret2 _ (hr2 _ (sI h).symm)
        replace hq := sI hq
        subst hq
        exact wr lv5 24 [true] [] [] 0 [] hC [pq h26]
       ·exact wx w2b (Ag0 y5 (n2 + 1)) (Asb y3 y5 z1 (n2 + 1)) lv5 25 [false] [] [] 0 Ek _ hC [pq h26] (sI h).symm
     ·have h := hnext2 _ hs2
      obtain ⟨y27, h28, h⟩ := Au h
      refine ws lv5 26 [] [pc Ay6 (Ayq y3.2.2 y3.1 10 _ h28) n4_, pl q47 y27.1] [] 0 [1, 2, 3, 4, 5, 6, 7, 8, 10, 11, 12] (Ur y27 0 (y3.2.1.Ah, y3.2.1.Ac, y3.2.1.As, y3.2.1.Ak)) (Acf y3 z1 y27 0 (y3.2.1.Ah, y3.2.1.Ac, y3.2.1.As, y3.2.1.Ak)) hC [] ?_
      obtain ⟨w3, hm3, hret3, hnext3⟩ := Aq h
      clear h
      refine wc w3 (Asm) (Atl) ?_ λ z3 hs3 => ?_
      ·refine wb ?_
       refine Bk 101 10 rfl rfl λ hl3 => ?_
       refine wl (Ur y27) (Acf y3 z1 y27) hm3 (λ z3 hn3 => ?_) λ n3 a3 z3 w3b hi3 hx3 h hb3 hr3 => ?_
       ·clear hm3
        exact wx w3 (Asm) (Atl) lv5 26 [false] [] [] 0 [] _ hC [pq (A4 hl3)] hn3
       ·unfold Aj3 at h
        rcases cB h with ⟨h29, h⟩ | ⟨h29, h⟩
        ·exact wx w3b (Ur y27 (n3 + 1)) (Acf y3 z1 y27 (n3 + 1)) lv5 36 [true, true] [pr q47 (A8 hx3 hl3), pn q47 (A8 hx3 hl3)] [] 0 Kd _ hC [pq (A1 hi3 hl3), pq h29] (sI h).symm
        ·obtain ⟨y30, h31, h⟩ := Au h
         refine wn lv5 40 [true, false] [pr q47 (A8 hx3 hl3), pn q47 (A8 hx3 hl3), ⟨.call 27 [.agg [I y3.1.Ao, .os 0, .os 1, .os 2, I y3.1.Phase, I y3.1.Ar], .agg [.os 3, .os 4, .os 5, .os 6], dI 10, .agg (d47 a3)] (zs y3.1 [v1_ z3.1, v4_ z3.2.1, v0_ z3.2.2.1, v3_ (Cz z3)]) (.tup [.agg [.os 7, .os 8, .os 9, .os 10], dI y30.2]) (zs y3.1 (v1_ z3.1 :: v4_ z3.2.1 :: v0_ z3.2.2.1 :: v3_ (Cz z3) :: zp y30.1 [])) n7_, ⟨e27, ((k27 y3.1 (⟨z3.1, z3.2.1, z3.2.2.1, (Cz z3)⟩ : Ab) 10 a3 _ h31).lend (by kernel_rfl) (by kernel_rfl) (by kernel_rfl) ⟨A_ (λ _ => rfl), A_ (λ _ => rfl), A_ (λ _ => rfl), A_ (λ _ => rfl), trivial⟩ (by kernel_rfl) (by kernel_rfl))⟩⟩] [] 0 [0, 1, 2, 3, 4, 5, 6, 7, 8, 9, 10, 12, 13, 14, 15, 16] [2, 4, 8, 13, 16, 101, 102, 103, 123] hC [pq (A1 hi3 hl3), pq h29] ?_
         rcases cB h with ⟨h32, h⟩ | ⟨h32, h⟩
         ·exact wx w3b (Ur y27 (n3 + 1)) (Acf y3 z1 y27 (n3 + 1)) lv5 24 [true] [] [] 0 Kd _ hC [pq h32] (sI h).symm
         ·refine ws lv5 26 [false] [pl pI z1] [] 0 G2 (Agz z1 y27 n3 0 ()) (Asa y3 z1 y27 z3 y30 0 ()) hC [pq h32] ?_
          obtain ⟨w4, hm4, hret4, hnext4⟩ := Aq h
          clear h
          refine wc w4 (Asl y27 n3) (Atk y3 z1 y27 z3 y30) ?_ λ z4 hs4 => ?_
          ·refine wb ?_
           refine Bk 124 8 rfl rfl λ hl4 => ?_
           refine wl (Agz z1 y27 n3) (Asa y3 z1 y27 z3 y30) hm4 (λ z4 hn4 => ?_) λ n4 a4 z4 w4b hi4 hx4 h hb4 hr4 => ?_
           ·clear hm4
            exact wx w4 (Asl y27 n3) (Atk y3 z1 y27 z3 y30) lv5 26 [false] [] [] 0 G2 _ hC [pq (A4 hl4)] hn4
           ·unfold Aj2 at h
            obtain ⟨y33, h34, y35, h36, h⟩ := A6 h
            refine wn lv5 32 [true] [pr pI (A8 hx4 hl4), pn pI (A8 hx4 hl4), pb e14 (k14 y3.1 y30.1 a4 _ h34), pv e14 (λ hg => k14 y3.1 (⟨z3.1, z3.2.1, z3.2.2.1, (Cz z3)⟩ : Ab) a4 _ (A0 h36 hg))] [] 0 G2 [2, 4, 8, 13, 16, 101, 102, 103, 124, 125, 126, 140] hC [pq (A1 hi4 hl4)] ?_
            rcases cB h with ⟨h37, h⟩ | ⟨h37, h⟩
            ·have hq := hret4 _ (hr4 _ (sI h).symm)
             replace hq := hret3 _ (hr3 _ (sI hq).symm)
             replace hq := sI hq
             subst hq
             exact wr lv5 24 [true] [] [] 0 [] hC [pq h37]
            ·exact wx w4b (Agz z1 y27 n3 (n4 + 1)) (Asa y3 z1 y27 z3 y30 (n4 + 1)) lv5 25 [false] [] [] 0 G2 _ hC [pq h37] (sI h).symm
          ·have h := hnext4 _ hs4
           exact wx w3b (Ur y27 (n3 + 1)) (Acf y3 z1 y27 (n3 + 1)) lv5 24 [] [] [] 0 [0, 1, 2, 11, 12, 13, 14, 7, 8, 9, 10] _ hC [] (sI h).symm
      ·have h := hnext3 _ hs3
       obtain ⟨y38, h39, h⟩ := Au h
       replace h := sI h
       subst h
       exact wr lv5 23 [] [pc e9 (k9  _ h39) []] [] 0 [] hC []
end Go.Proofs.YtcigbocngfaopaaGreat
