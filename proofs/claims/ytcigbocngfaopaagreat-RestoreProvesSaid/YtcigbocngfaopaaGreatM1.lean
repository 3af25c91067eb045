import Derived.Test.YtcigbocngfaopaaGreatM0
set_option linter.unusedVariables false
set_option maxHeartbeats 4000000
namespace Go.Proofs.YtcigbocngfaopaaGreat
open Go.SL
def C_ : List Nat := [0, 1, 2, 3, 4, 5, 7, 8, 9, 10, 11, 12, 13, 15, 19, 45, 47, 48, 49, 50, 74, 77, 78, 79, 80, 92, 97, 99, 100, 101, 102, 124, 128, 129, 130, 134, 135, 136, 137, 144, 149]
def yO (x1 : Ab) (n0 : Nat) (z0 : Unit) : St := [(2, dO 0 0), (3, dO 1 0), (4, dI 0), (47, .d (DS q87 x1.Ac)), (48, dI (ln x1.Ac)), (49, dI (cnt 0 n0))]
def Ajv (x0 : Aa) (x1 : Ab) (n0 : Nat) (z0 : Unit) : List Res := [.box 29 (d29 x0), .box 34 (d34 x1)]
def Amn  (z0 : Unit) : St := [(2, dO 0 0), (3, dO 1 0), (4, dI 0)]
def Apx (x0 : Aa) (x1 : Ab) (z0 : Unit) : List Res := [.box 29 (d29 x0), .box 34 (d34 x1)]
def yN (x1 : Ab) (n1 : Nat) (z1 : Unit) : St := [(2, dO 0 0), (3, dO 1 0), (4, dI 0), (77, .d (DS pI x1.As)), (78, dI (ln x1.As)), (79, dI (cnt 0 n1))]
def Aju (x0 : Aa) (x1 : Ab) (n1 : Nat) (z1 : Unit) : List Res := [.box 29 (d29 x0), .box 34 (d34 x1)]
def Amm  (z1 : Unit) : St := [(2, dO 0 0), (3, dO 1 0), (4, dI 0)]
def Apw (x0 : Aa) (x1 : Ab) (z1 : Unit) : List Res := [.box 29 (d29 x0), .box 34 (d34 x1)]
def yM (x1 : Ab) (n2 : Nat) (z2 : Unit) : St := [(2, dO 0 0), (3, dO 1 0), (4, dI 0), (99, .d (DS q92 x1.Ak)), (100, dI (ln x1.Ak)), (101, dI (cnt 0 n2))]
def Ajt (x0 : Aa) (x1 : Ab) (n2 : Nat) (z2 : Unit) : List Res := [.box 29 (d29 x0), .box 34 (d34 x1)]
def Aml  (z2 : Unit) : St := [(2, dO 0 0), (3, dO 1 0), (4, dI 0)]
def Apv (x0 : Aa) (x1 : Ab) (z2 : Unit) : List Res := [.box 29 (d29 x0), .box 34 (d34 x1)]
def yL (x0 : Aa) (z3 : Int) : St := [(2, dO 0 0), (3, dO 1 0), (4, dI 0), (128, dI (ln x0.Ai)), (129, dI z3)]
def Ajs (x0 : Aa) (x1 : Ab) (z3 : Int) : List Res := [.box 29 (d29 x0), .box 34 (d34 x1)]
def Amk  (z3 : Int) : St := [(4, dI 0)]
def Apu  (z3 : Int) : List Res := []
def U1 (x0 : Aa) (z3 : Int) (y14 : (List Int)) (n4 : Nat) (z4 : Int) : St := [(2, dO 0 0), (3, dO 1 0), (4, dI 0), (13, dI z4), (128, dI (ln x0.Ai)), (129, dI z3), (134, dS 2), (135, dI (ln y14)), (136, dI (cnt 0 n4))]
def vC (x0 : Aa) (x1 : Ab) (y14 : (List Int)) (n4 : Nat) (z4 : Int) : List Res := [.box 29 (d29 x0), .box 34 (d34 x1), v0_ y14]
def Amj (x0 : Aa) (z3 : Int) (z4 : Int) : St := [(2, dO 0 0), (3, dO 1 0), (4, dI 0), (13, dI z4), (128, dI (ln x0.Ai)), (129, dI z3)]
def Apt (x0 : Aa) (x1 : Ab) (z4 : Int) : List Res := [.box 29 (d29 x0), .box 34 (d34 x1)]
set_option maxHeartbeats 4000000 in
theorem k11 (x0 : Aa) (x1 : Ab) (r : Int) (h : F11 x0 x1 = some r) : CO 11 [.agg (d29 x0), .agg (d34 x1)] [] (.d (I r)) [] := by
 unfold F11 at h
 refine co 151 Tryz.func11 λ C hC => ?_
 obtain ⟨y1, h2, h⟩ := Au h
 rcases cB h with ⟨h3, h⟩ | ⟨h3, h⟩
 ·replace h := sI h
  subst h
  exact wr C_ 31 [true] [pc e45 (k45 x0 _ h2) []] [] 0 [] hC [pq h3]
 ·refine wn C_ 33 [false] [pc e45 (k45 x0 _ h2) [], pl pB x1.Ah, pl q49 x0.Ad, pL_ [(((ln x1.Ah) != (ln x0.Ad)), false)] q87 x1.Ac, pL_ [(((ln x1.Ah) != (ln x0.Ad)), false)] q98 x0.Ac, pL_ [((((ln x1.Ah) != (ln x0.Ad)) || ((ln x1.Ac) != (ln x0.Ac))), false)] pI x1.As, pL_ [((((ln x1.Ah) != (ln x0.Ad)) || ((ln x1.Ac) != (ln x0.Ac))), false)] q90 x0.Ai] [] 0 [0, 1] [2, 3, 4, 45] hC [pq h3] ?_
  rcases cB h with ⟨h4, h⟩ | ⟨h4, h⟩
  ·replace h := sI h
   subst h
   exact wr C_ 24 [true] [] [] 0 [] hC [pq h4]
  ·refine ws C_ 26 [false] [pl q87 x1.Ac] [] 0 [0, 1] (yO x1 0 ()) (Ajv x0 x1 0 ()) hC [pq h4] ?_
   obtain ⟨w0, hm0, hret0, hnext0⟩ := Aq h
   clear h
   refine wc w0 (Amn) (Apx x0 x1) ?_ λ z0 hs0 => ?_
   ·refine wb ?_
    refine Bb 47 rfl λ hl0 => ?_
    refine wl (yO x1) (Ajv x0 x1) hm0 (λ z0 hn0 => ?_) λ n0 a0 z0 w0b hi0 hx0 h hb0 hr0 => ?_
    ·clear hm0
     exact wx w0 (Amn) (Apx x0 x1) C_ 26 [false] [] [] 0 [0, 1] _ hC [pq (A4 hl0)] hn0
    ·unfold Aej at h
     refine wn C_ 32 [true] [pt hx0 hl0, pc e46 (k46 a0.State 0 3 _ rfl) [], ⟨.when [(!(F46 a0.State 0 3), false)] (.call 46 [dI a0.Since, dI 0, dI 2147483648] [] (dB (F46 a0.Since 0 2147483648)) [] []), λ hg => ⟨e46, (k46 a0.Since 0 2147483648 _ rfl)⟩⟩, ⟨.when [(((!(F46 a0.State 0 3)) || (!(F46 a0.Since 0 2147483648))), false)] (.call 46 [dI a0.Ar, dI 0, dI 6000] [] (dB (F46 a0.Ar 0 6000)) [] []), λ hg => ⟨e46, (k46 a0.Ar 0 6000 _ rfl)⟩⟩, ⟨.when [((((!(F46 a0.State 0 3)) || (!(F46 a0.Since 0 2147483648))) || (!(F46 a0.Ar 0 6000))), false)] (.call 46 [dI a0.Phase, dI 0, dI 3599] [] (dB (F46 a0.Phase 0 3599)) [] []), λ hg => ⟨e46, (k46 a0.Phase 0 3599 _ rfl)⟩⟩] [] 0 [0, 1] [2, 3, 4, 47, 48, 49, 74] hC [pq (A1 hi0 hl0)] ?_
     rcases cB h with ⟨h5, h⟩ | ⟨h5, h⟩
     ·have hq := hret0 _ (hr0 _ (sI h).symm)
      replace hq := sI hq
      subst hq
      exact wr C_ 24 [true] [] [] 0 [] hC [pq h5]
     ·exact wx w0b (yO x1 (n0 + 1)) (Ajv x0 x1 (n0 + 1)) C_ 25 [false] [] [] 0 [0, 1] _ hC [pq h5] (sI h).symm
   ·have h := hnext0 _ hs0
    refine ws C_ 24 [] [pl pI x1.As] [] 0 [0, 1] (yN x1 0 ()) (Aju x0 x1 0 ()) hC [] ?_
    obtain ⟨w1, hm1, hret1, hnext1⟩ := Aq h
    clear h
    refine wc w1 (Amm) (Apw x0 x1) ?_ λ z1 hs1 => ?_
    ·refine wb ?_
     refine Bb 77 rfl λ hl1 => ?_
     refine wl (yN x1) (Aju x0 x1) hm1 (λ z1 hn1 => ?_) λ n1 a1 z1 w1b hi1 hx1 h hb1 hr1 => ?_
     ·clear hm1
      exact wx w1 (Amm) (Apw x0 x1) C_ 26 [false] [] [] 0 [0, 1] _ hC [pq (A4 hl1)] hn1
     ·unfold Aei at h
      obtain ⟨y6, h7, h⟩ := Au h
      refine wn C_ 32 [true] [pt hx1 hl1, pr q90 h7, pc e46 (k46 a1 0 y6.Load _ rfl) []] [] 0 [0, 1] [2, 3, 4, 77, 78, 79, 92] hC [pq (A1 hi1 hl1)] ?_
      rcases cB h with ⟨h8, h⟩ | ⟨h8, h⟩
      ·have hq := hret1 _ (hr1 _ (sI h).symm)
       replace hq := sI hq
       subst hq
       exact wr C_ 24 [true] [] [] 0 [] hC [pq h8]
      ·exact wx w1b (yN x1 (n1 + 1)) (Aju x0 x1 (n1 + 1)) C_ 25 [false] [] [] 0 [0, 1] _ hC [pq h8] (sI h).symm
    ·have h := hnext1 _ hs1
     rcases cB h with ⟨h9, h⟩ | ⟨h9, h⟩
     ·replace h := sI h
      subst h
      exact wr C_ 27 [true] [pl q92 x1.Ak] [] 0 [] hC [pq h9]
     ·refine ws C_ 29 [false] [pl q92 x1.Ak, pl q92 x1.Ak] [] 0 [0, 1] (yM x1 0 ()) (Ajt x0 x1 0 ()) hC [pq h9] ?_
      obtain ⟨w2, hm2, hret2, hnext2⟩ := Aq h
      clear h
      refine wc w2 (Aml) (Apv x0 x1) ?_ λ z2 hs2 => ?_
      ·refine wb ?_
       refine Bb 99 rfl λ hl2 => ?_
       refine wl (yM x1) (Ajt x0 x1) hm2 (λ z2 hn2 => ?_) λ n2 a2 z2 w2b hi2 hx2 h hb2 hr2 => ?_
       ·clear hm2
        exact wx w2 (Aml) (Apv x0 x1) C_ 26 [false] [] [] 0 [0, 1] _ hC [pq (A4 hl2)] hn2
       ·unfold Aeh at h
        obtain ⟨y10, h11, h⟩ := Au h
        refine wn C_ 32 [true] [pt hx2 hl2, pc e47 (k47 x0 a2 _ rfl) [], pR q92 h11, ⟨.when [(!(F47 x0 a2), false), (decide ((cnt 0 n2) > 0), true)] (.call 48 [.agg (d92 y10), .agg (d92 a2)] [] (dB (F48 y10 a2)) [] []), λ hg => ⟨e48, (k48 y10 a2 _ rfl)⟩⟩] [] 0 [0, 1] [2, 3, 4, 99, 100, 101, 124] hC [pq (A1 hi2 hl2)] ?_
        rcases cB h with ⟨h12, h⟩ | ⟨h12, h⟩
        ·have hq := hret2 _ (hr2 _ (sI h).symm)
         replace hq := sI hq
         subst hq
         exact wr C_ 24 [true] [] [] 0 [] hC [pq h12]
        ·exact wx w2b (yM x1 (n2 + 1)) (Ajt x0 x1 (n2 + 1)) C_ 25 [false] [] [] 0 [0, 1] _ hC [pq h12] (sI h).symm
      ·have h := hnext2 _ hs2
       refine ws C_ 24 [] [pl q90 x0.Ai] [] 0 [0, 1] (yL x0 0) (Ajs x0 x1 0) hC [] ?_
       obtain ⟨w3, hm3, hret3, hnext3⟩ := Aq h
       clear h
       refine wc w3 (Amk) (Apu) ?_ λ z3 hs3 => ?_
       ·refine wb ?_
        refine ww (yL x0) (Ajs x0 x1) hm3 λ z3 w3b h hb3 hr3 => ?_
        unfold Aeg at h
        rcases cB h with ⟨h13, h⟩ | ⟨h13, h⟩
        ·obtain ⟨y14, h15, h⟩ := Au h
         refine ws C_ 35 [true] [pc e49 (k49 x0 3 z3 _ h15) [], pl pI y14] [] 0 n3_ (U1 x0 z3 y14 0 0) (vC x0 x1 y14 0 0) hC [pq h13] ?_
         obtain ⟨w4, hm4, hret4, hnext4⟩ := Aq h
         clear h
         refine wc w4 (Amj x0 z3) (Apt x0 x1) ?_ λ z4 hs4 => ?_
         ·refine wb ?_
          refine Bk 134 2 rfl rfl λ hl4 => ?_
          refine wl (U1 x0 z3 y14) (vC x0 x1 y14) hm4 (λ z4 hn4 => ?_) λ n4 a4 z4 w4b hi4 hx4 h hb4 hr4 => ?_
          ·clear hm4
           exact wx w4 (Amj x0 z3) (Apt x0 x1) C_ 26 [false] [] [] 0 [0, 1] _ hC [pq (A4 hl4)] hn4
          ·unfold Aef at h
           obtain ⟨y16, h17, h⟩ := Au h
           rcases cB h with ⟨h18, h⟩ | ⟨h18, h⟩
           ·exact wx w4b (U1 x0 z3 y14 (n4 + 1)) (vC x0 x1 y14 (n4 + 1)) C_ 36 [true, true] [pr pI (A8 hx4 hl4), pn pI (A8 hx4 hl4), pr pB h17] [] 0 n3_ _ hC [pq (A1 hi4 hl4), pq h18] (sI h).symm
           ·exact wx w4b (U1 x0 z3 y14 (n4 + 1)) (vC x0 x1 y14 (n4 + 1)) C_ 36 [true, false] [pr pI (A8 hx4 hl4), pn pI (A8 hx4 hl4), pr pB h17] [] 0 n3_ _ hC [pq (A1 hi4 hl4), pq h18] (sI h).symm
         ·have h := hnext4 _ hs4
          rcases cB h with ⟨h19, h⟩ | ⟨h19, h⟩
          ·have hq := hret3 _ (hr3 _ (sI h).symm)
           replace hq := sI hq
           subst hq
           exact wr C_ 26 [true] [] [] 0 [] hC [pq h19]
          ·exact wx w3b (yL x0) (Ajs x0 x1) C_ 27 [false] [] [] 0 [0, 1] _ hC [pq h19] (sI h).symm
        ·exact wx w3 (Amk) (Apu) C_ 26 [false] [] [] 0 [] z3 hC [pq h13] (hb3 _ (sI h).symm)
       ·have h := hnext3 _ hs3
        replace h := sI h
        subst h
        exact wr C_ 23 [] [] [] 0 [] hC []
theorem e11 : EN 11 := en Tryz.func11
def M9 : List Nat := [0, 1, 2, 3, 4, 5, 6, 9, 11, 15, 16, 17, 18, 25]
def yK  (z0 : Int × (List Int)) : St := [(1, dO 0 0), (2, .d (DS pI [])), (3, dS 1), (4, dI z0.1)]
def Ajr (x0 : Aa) (z0 : Int × (List Int)) : List Res := [.box 29 (d29 x0), v0_ z0.2]
def Ami  (z0 : Int × (List Int)) : St := [(2, .d (DS pI [])), (3, dS 0)]
def Aps  (z0 : Int × (List Int)) : List Res := [v0_ z0.2]
def U0 (x0 : Aa) (z0 : Int × (List Int)) (n1 : Nat) (z1 : (List Int)) : St := [(1, dO 0 0), (2, .d (DS pI [])), (3, dS 1), (4, dI z0.1), (15, .d (DS q90 x0.Ai)), (16, dI (ln x0.Ai)), (17, dI (cnt 0 n1))]
def vB (x0 : Aa) (n1 : Nat) (z1 : (List Int)) : List Res := [.box 29 (d29 x0), v0_ z1]
def Amh (z0 : Int × (List Int)) (z1 : (List Int)) : St := [(1, dO 0 0), (2, .d (DS pI [])), (3, dS 1), (4, dI z0.1)]
def Apr (x0 : Aa) (z1 : (List Int)) : List Res := [.box 29 (d29 x0), v0_ z1]
theorem k12 (x0 : Aa) (r : (List Int)) (h : F12 x0 = some r) : CO 12 [.agg (d29 x0)] [] (.d (.os 0)) [v0_ r] := by
 unfold F12 at h
 refine co 32 Tryz.func12 λ C hC => ?_
 obtain ⟨y1, h2, h⟩ := Au h
 rcases cB h with ⟨h3, h⟩ | ⟨h3, h⟩
 ·replace h := sI h
  subst h
  exact wr M9 29 [true] [pc e45 (k45 x0 _ h2) []] [.own 2 3 1] 0 [1] hC [pq h3]
 ·refine ws M9 33 [false] [pc e45 (k45 x0 _ h2) []] [.own 3 3 1] 0 [0, 1] (yK (0, ([] : List Int))) (Ajr x0 (0, ([] : List Int))) hC [pq h3] ?_
  obtain ⟨w0, hm0, hret0, hnext0⟩ := Aq h
  clear h
  refine wc w0 (Ami) (Aps) ?_ λ z0 hs0 => ?_
  ·refine wb ?_
   refine ww (yK) (Ajr x0) hm0 λ z0 w0b h hb0 hr0 => ?_
   unfold Ad8 at h
   rcases cB h with ⟨h4, h⟩ | ⟨h4, h⟩
   ·refine ws M9 30 [true] [pl q90 x0.Ai] [] 0 [0, 1] (U0 x0 z0 0 z0.2) (vB x0 0 z0.2) hC [pq h4] ?_
    obtain ⟨w1, hm1, hret1, hnext1⟩ := Aq h
    clear h
    refine wc w1 (Amh z0) (Apr x0) ?_ λ z1 hs1 => ?_
    ·refine wb ?_
     refine Bb 15 rfl λ hl1 => ?_
     refine wl (U0 x0 z0) (vB x0) hm1 (λ z1 hn1 => ?_) λ n1 a1 z1 w1b hi1 hx1 h hb1 hr1 => ?_
     ·clear hm1
      exact wx w1 (Amh z0) (Apr x0) M9 26 [false] [] [] 0 [0, 1] _ hC [pq (A4 hl1)] hn1
     ·unfold Ad7 at h
      rcases cB h with ⟨h5, h⟩ | ⟨h5, h⟩
      ·obtain ⟨y6, h7, h⟩ := Au h
       exact wx w1b (U0 x0 z0 (n1 + 1)) (vB x0 (n1 + 1)) M9 36 [true, true] [pt hx1 hl1, pa pI 1 h7] [] 0 [0, 3] _ hC [pq (A1 hi1 hl1), pq h5] (sI h).symm
      ·exact wx w1b (U0 x0 z0 (n1 + 1)) (vB x0 (n1 + 1)) M9 36 [true, false] [pt hx1 hl1] [] 0 [0, 1] _ hC [pq (A1 hi1 hl1), pq h5] (sI h).symm
    ·have h := hnext1 _ hs1
     exact wx w0b (yK) (Ajr x0) M9 23 [] [] [] 0 [0, 1] _ hC [] (sI h).symm
   ·exact wx w0 (Ami) (Aps) M9 26 [false] [] [] 0 [1] (z0.1, z0.2) hC [pq h4] (hb0 _ (sI h).symm)
  ·have h := hnext0 _ hs0
   replace h := sI h
   subst h
   exact wr M9 23 [] [] [] 0 [0] hC []
theorem e12 : EN 12 := en Tryz.func12
theorem k16 (x0 : Aa) (x1 : Int) (x2 : Int) (r : (List Int)) (h : F16 x0 x1 x2 = some r) : CO 16 [.agg (d29 x0), .d (I x1), .d (I x2)] [] (.d (.os 0)) [v0_ r] := by
 unfold F16 at h
 refine co 14 Tryz.func16 λ C hC => ?_
 obtain ⟨y1, h2, h⟩ := Au h
 rcases cB h with ⟨h3, h⟩ | ⟨h3, h⟩
 ·replace h := sI h
  subst h
  exact wr [0, 1, 2, 3, 6, 9] 29 [true] [pc e45 (k45 x0 _ h2) []] [.own 6 3 1] 0 [1] hC [pq h3]
 ·obtain ⟨y4, h5, h⟩ := Au h
  replace h := sI h
  subst h
  exact wr [0, 1, 2, 3, 6, 9] 30 [false] [pc e45 (k45 x0 _ h2) [], pc e49 (k49 x0 x1 x2 _ h5) []] [] 0 [1] hC [pq h3]
theorem e16 : EN 16 := en Tryz.func16
def H4 : List Nat := [0, 1, 2, 3, 4, 6, 16, 17, 18, 19, 28, 29, 44, 71]
def On (x0 : Aa) (n0 : Nat) (z0 : (List Int) × (List (List Int))) : St := [(1, dO 0 0), (2, dB false), (3, dS 1), (4, dS 2), (16, .d (DS q49 x0.Ad)), (17, dI (ln x0.Ad)), (18, dI (cnt 0 n0))]
def We (x0 : Aa) (n0 : Nat) (z0 : (List Int) × (List (List Int))) : List Res := [.box 29 (d29 x0), v0_ z0.1, .dsl 22 1 3, .gh 1 [(3, 1)] (z0.2.map (pL pI)) none]
def Ak0  (z0 : (List Int) × (List (List Int))) : St := [(2, dB false), (3, dS 0), (4, dS 1)]
def Aoa  (z0 : (List Int) × (List (List Int))) : List Res := [v0_ z0.1, .dsl 22 1 2, .gh 1 [(3, 1)] (z0.2.map (pL pI)) none]
theorem k99 (x0 : Aa) (r : Bool) (h : F99 x0 = some r) : CO 99 [.agg (d29 x0)] [] (.d (Bo r)) [] := by
 unfold F99 at h
 refine co 116 Tryz.func99 λ C hC => ?_
 obtain ⟨y1, h2, y3, h4, h⟩ := A6 h
 refine ws H4 28 [] [⟨.flts [v0_ y1, .zsl 22 1 (y3.map (pL pI))], trivial⟩, pl q98 x0.Ac, ⟨.fltm 1 (.room ((ln x0.Ac) * (8 + 1)) (List.replicate (Int.toNat (ln x0.Ac)) (pI 0)) (y1.map pI)) (v0_ y1) (v0_ y1), ⟨H3 h2, rfl⟩⟩, pl q90 x0.Ai, ⟨.fltm 2 (.roomZ ((ln x0.Ai) * (24 + 1)) (List.replicate (Int.toNat (ln x0.Ai)) ((pL pI) ([] : List Int))) (y3.map (pL pI))) (.zsl 22 1 (y3.map (pL pI))) (.zsl 22 1 (y3.map (pL pI))), ⟨Z_ h4, rfl⟩⟩, pl q49 x0.Ad] [.deep 2 [(3, 1)]] 0 n4_ (On x0 0 (y1, y3)) (We x0 0 (y1, y3)) hC [] ?_
 obtain ⟨w0, hm0, hret0, hnext0⟩ := Aq h
 clear h
 refine wc w0 (Ak0) (Aoa) ?_ λ z0 hs0 => ?_
 ·refine wb ?_
  refine Bb 16 rfl λ hl0 => ?_
  refine wl (On x0) (We x0) hm0 (λ z0 hn0 => ?_) λ n0 a0 z0 w0b hi0 hx0 h hb0 hr0 => ?_
  ·clear hm0
   exact wx w0 (Ak0) (Aoa) H4 26 [false] [] [] 0 [1, 2, 3] _ hC [pq (A4 hl0)] hn0
  ·unfold Acw at h
   refine wn H4 33 [true] [pt hx0 hl0, pc e93 (k93 a0.A 0 (w64 (x0.Ao - 1)) _ rfl) []] [] 0 n5_ [1, 2, 3, 4, 6, 16, 17, 18, 28] hC [pq (A1 hi0 hl0)] ?_
   rcases cB h with ⟨h5, h⟩ | ⟨h5, h⟩
   ·have hq := hret0 _ (hr0 _ (sI h).symm)
    replace hq := sI hq
    subst hq
    exact wr H4 24 [true] [] [] 0 [] hC [pq h5]
   ·refine wn H4 26 [false] [⟨.when [((a0.Kind == 1), true)] (.call 93 [dI a0.B, dI (w64 (a0.A + 1)), dI (w64 (x0.Ao - 1))] [] (dB (F93 a0.B (w64 (a0.A + 1)) (w64 (x0.Ao - 1)))) [] []), λ hg => ⟨e93, (k93 a0.B (w64 (a0.A + 1)) (w64 (x0.Ao - 1)) _ rfl)⟩⟩] [] 0 n5_ [1, 2, 3, 4, 6, 16, 17, 18, 29] hC [pq h5] ?_
    rcases cB h with ⟨h6, h⟩ | ⟨h6, h⟩
    ·exact wx w0b (On x0 (n0 + 1)) (We x0 (n0 + 1)) H4 26 [true] [] [] 0 n4_ _ hC [pq h6] (sI h).symm
    ·obtain ⟨y7, h8, h⟩ := Au h
     refine wn H4 24 [false] [pL_ [((a0.Kind == 2), true)] pI z0.1, ⟨.when [((a0.Kind == 2), true)] (.call 93 [dI a0.B, dI 0, dI (w64 ((ln z0.1) - 1))] [] (.d (Bo (F93 a0.B 0 (w64 ((ln z0.1) - 1))))) [] []), λ hg => ⟨e93, (k93 a0.B 0 (w64 ((ln z0.1) - 1)) _ rfl)⟩⟩, pR pI h8, pN pI h8] [] 0 n5_ [1, 2, 3, 4, 6, 16, 17, 18, 44] hC [pq h6] ?_
     rcases cB h with ⟨h9, h⟩ | ⟨h9, h⟩
     ·obtain ⟨y10, h11, y12, h13, h⟩ := A6 h
      exact wx w0b (On x0 (n0 + 1)) (We x0 (n0 + 1)) H4 26 [true] [pr pI h11, pn pI h11, pr pI h11, pu pI h11 h13] [] 0 n4_ _ hC [pq h9] (sI h).symm
     ·obtain ⟨y14, h15, y16, h17, h⟩ := A6 h
      refine wn H4 24 [false] [pL_ [((a0.Kind == 3), true)] (pL pI) z0.2, ⟨.when [((a0.Kind == 3), true)] (.call 93 [dI a0.B, dI 0, dI (w64 ((ln z0.2) - 1))] [] (.d (Bo (F93 a0.B 0 (w64 ((ln z0.2) - 1))))) [] []), λ hg => ⟨e93, (k93 a0.B 0 (w64 ((ln z0.2) - 1)) _ rfl)⟩⟩, pR (pL pI) h15, pN (pL pI) h15, ⟨.when [(((a0.Kind == 3) && (F93 a0.B 0 (w64 ((ln z0.2) - 1)))), true)] (.callB 59 [.d (DS pI y14), dI a0.A] (dB y16) (z0.2.map (pL pI)) (Int.toNat a0.B) ((pL pI) y14)), λ hg => Aq9 ⟨e59, (k59 y14 a0.A _ (A0 h17 hg))⟩ (A0 h15 hg)⟩] [] 0 n5_ [1, 2, 3, 4, 6, 16, 17, 18, 71] hC [pq h9] ?_
      rcases cB h with ⟨h18, h⟩ | ⟨h18, h⟩
      ·obtain ⟨y19, h20, y21, h22, y23, h24, h⟩ := Bi h
       exact wx w0b (On x0 (n0 + 1)) (We x0 (n0 + 1)) H4 26 [true] [pr (pL pI) h20, pn (pL pI) h20, ⟨.appD (z0.2.map (pL pI)) (Int.toNat a0.B) ((pL pI) y19) 0 (y19.map pI) ([a0.A].map pI) 1 (((y19.map pI).length + ([a0.A].map pI).length) * (8 + 1)) (y21.map pI), Nv 1 (λ _ => rfl) h20 rfl h22⟩, pr (pL pI) h20, ⟨.updD (z0.2.map (pL pI)) (Int.toNat a0.B) (Int.toNat a0.B) ((pL pI) y19) ((pL pI) y21) (y23.map (pL pI)), Mq h20 h24⟩] [] 0 [0, 1, 2, 8] _ hC [pq h18] (sI h).symm
      ·have hq := hret0 _ (hr0 _ (sI h).symm)
       replace hq := sI hq
       subst hq
       exact wr H4 24 [false] [] [] 0 [] hC [pq h18]
 ·have h := hnext0 _ hs0
  refine wn H4 1 [] [] [.flat 1] 0 [0, 1] [2, 3, 4] hC [] ?_
  obtain ⟨y27, h28, y29, h30, h⟩ := A6 h
  replace h := sI h
  subst h
  exact wr H4 22 [] [pb e59 (k59 z0.1 0 _ h28), pv Aww (λ hg => Avt z0.2 _ (A0 h30 hg))] [] 0 [] hC []
theorem e99 : EN 99 := en Tryz.func99
def J1 : List Nat := [0, 1, 4, 5, 7, 8, 9, 16]
def Ox (x0 : List Ae) (n0 : Nat) (z0 : Unit) : St := [(0, .d (DS q87 x0)), (1, .d (.fn (.func 91) [] [])), (4, dI 0), (7, dI (ln x0)), (8, dI (cnt 0 n0))]
def Ts  (n0 : Nat) (z0 : Unit) : List Res := []
def Zz  (z0 : Unit) : St := [(4, dI 0)]
def qA  (z0 : Unit) : List Res := []
theorem Avu (x0 : List Ae) (r : Int) (h : W8 x0 = some r) : CO 138 [.d (DS q87 x0), .d (.fn (.func 91) [] [])] [] (.d (I r)) [] := by
 unfold W8 at h
 refine co 19 Tryz.func138 λ C hC => ?_
 refine ws J1 26 [] [pl q87 x0] [] 0 [] (Ox x0 0 ()) (Ts 0 ()) hC [] ?_
 obtain ⟨w0, hm0, hret0, hnext0⟩ := Aq h
 clear h
 refine wc w0 (Zz) (qA) ?_ λ z0 hs0 => ?_
 ·refine wb ?_
  refine Bb 0 rfl λ hl0 => ?_
  refine wl (Ox x0) (Ts) hm0 (λ z0 hn0 => ?_) λ n0 a0 z0 w0b hi0 hx0 h hb0 hr0 => ?_
  ·clear hm0
   exact wx w0 (Zz) (qA) J1 26 [false] [] [] 0 [] _ hC [pq (A4 hl0)] hn0
  ·unfold qN at h
   refine wn J1 32 [true] [pt hx0 hl0, pc e91 (k91 a0 _ rfl) []] [] 0 [] [0, 1, 4, 5, 7, 8, 16] hC [pq (A1 hi0 hl0)] ?_
   rcases cB h with ⟨h1, h⟩ | ⟨h1, h⟩
   ·have hq := hret0 _ (hr0 _ (sI h).symm)
    replace hq := sI hq
    subst hq
    exact wr J1 24 [true] [] [] 0 [] hC [pq h1]
   ·exact wx w0b (Ox x0 (n0 + 1)) (Ts (n0 + 1)) J1 25 [false] [] [] 0 [] _ hC [pq h1] (sI h).symm
 ·have h := hnext0 _ hs0
  replace h := sI h
  subst h
  exact wr J1 23 [] [] [] 0 [] hC []
theorem Awx : EN 138 := en Tryz.func138
theorem k57 (x0 : Aa) (x1 : Ab) (x2 : Int) (r : Bool) (h : F57 x0 x1 x2 = some r) : CO 57 [.agg (d29 x0), .agg (d34 x1), .d (I x2)] [] (.d (Bo r)) [] := by
 unfold F57 at h
 refine co 36 Tryz.func57 λ C hC => ?_
 obtain ⟨y1, h2, y3, h4, y5, h6, y7, h8, h⟩ := Cv h
 replace h := sI h
 subst h
 exact wr [0, 1, 2, 3, 4, 6, 7] 27 [] [pr q49 h2, pc e76 (k76 x1 2 x2 _ h4) [], pw e76 (λ hg => k76 x1 3 y1.A _ (A0 h6 hg)) [], pw e76 (λ hg => k76 x1 3 y1.B _ (A0 h8 hg)) []] [] 0 [] hC []
theorem e57 : EN 57 := en Tryz.func57
theorem Vl (x0 : Int) (x1 : Int) (x2 : A2) (r : Bool × A2) (h : Mn x0 x1 x2 = some r) : CO 154 [.d (I x0), .d (I x1), .d (.o 0 0)] (.box 112 [.o 1 0] :: .box 147 (zb x2.Am [.os 2, .os 3, .os 4, .os 5, .os 6]) :: zp x2.Ap [v2_ x2.acts]) (.d (Bo r.1)) (.box 112 [.o 1 0] :: .box 147 (zb r.2.Am [.os 2, .os 3, .os 4, .os 5, .os 6]) :: zp r.2.Ap [v2_ r.2.acts]) := by
 unfold Mn at h
 refine co 13 Tryz.func154 λ C hC => ?_
 obtain ⟨y1, h2, h⟩ := Au h
 replace h := sI h
 subst h
 exact wr [0, 1, 2, 5] 25 [] [pb e76 (k76 x2.Ap x0 x1 _ h2)] [] 7 n7_ hC []
theorem Vx : EN 154 := en Tryz.func154
def Jz : List Nat := [0, 1, 4, 5, 7, 8, 9, 16]
def Ov (x0 : List Int) (n0 : Nat) (z0 : Unit) : St := [(0, dS 0), (1, .d (.fn (.func 126) [] [.o 1 0])), (4, dI 0), (7, dI (ln x0)), (8, dI (cnt 0 n0))]
def Tq (x0 : List Int) (x1c0 : Aj) (n0 : Nat) (z0 : Unit) : List Res := [v0_ x0, .box 62 (d62 x1c0)]
def Zv  (z0 : Unit) : St := [(4, dI 0)]
def jW (x0 : List Int) (x1c0 : Aj) (z0 : Unit) : List Res := [v0_ x0, .box 62 (d62 x1c0)]
theorem Avl (x0 : List Int) (x1c0 : Aj) (r : Int × Aj) (h : Ad3 x0 x1c0 = some r) : CO 159 [.d (.os 0), .d (.fn (.func 126) [] [.o 1 0])] [v0_ x0, .box 62 (d62 x1c0)] (.d (I r.1)) [v0_ x0, .box 62 (d62 r.2)] := by
 unfold Ad3 at h
 refine co 19 Tryz.func159 λ C hC => ?_
 refine ws Jz 26 [] [pl pI x0] [] 2 [0, 1] (Ov x0 0 ()) (Tq x0 x1c0 0 ()) hC [] ?_
 obtain ⟨w0, hm0, hret0, hnext0⟩ := Aq h
 clear h
 refine wc w0 (Zv) (jW x0 x1c0) ?_ λ z0 hs0 => ?_
 ·refine wb ?_
  refine Bk 0 0 rfl rfl λ hl0 => ?_
  refine wl (Ov x0) (Tq x0 x1c0) hm0 (λ z0 hn0 => ?_) λ n0 a0 z0 w0b hi0 hx0 h hb0 hr0 => ?_
  ·clear hm0
   exact wx w0 (Zv) (jW x0 x1c0) Jz 26 [false] [] [] 2 [0, 1] _ hC [pq (A4 hl0)] hn0
  ·unfold qM at h
   obtain ⟨y1, h2, h⟩ := Au h
   refine wn Jz 32 [true] [pr pI (A8 hx0 hl0), pn pI (A8 hx0 hl0), pb Aw1 (Avy a0 x1c0 _ h2)] [] 2 [0, 1] [0, 1, 4, 5, 7, 8, 16] hC [pq (A1 hi0 hl0)] ?_
   rcases cB h with ⟨h3, h⟩ | ⟨h3, h⟩
   ·have hq := hret0 _ (hr0 _ (sI h).symm)
    replace hq := sI hq
    subst hq
    exact wr Jz 24 [true] [] [] 2 [0, 1] hC [pq h3]
   ·exact wx w0b (Ov x0 (n0 + 1)) (Tq x0 x1c0 (n0 + 1)) Jz 25 [false] [] [] 2 [0, 1] _ hC [pq h3] (sI h).symm
 ·have h := hnext0 _ hs0
  replace h := sI h
  subst h
  exact wr Jz 23 [] [] [] 2 [0, 1] hC []
theorem Awo : EN 159 := en Tryz.func159
theorem Aap (x0 : Az) (x1 : Int) (r : Bool) (h : Hu x0 x1 = some r) : CO 146 [.d (.ip [.v (.int .i64 x0.Am.Ao), .s (x0.Am.Ad.map q49), .s (x0.Am.Ac.map q98), .s (x0.Am.Ai.map q90), .v (.int .i64 x0.Am.Phase), .v (.int .i64 x0.Am.Ar), .s (x0.Ap.Ah.map pB), .s (x0.Ap.Ac.map q87), .s (x0.Ap.As.map pI), .s (x0.Ap.Ak.map q92), .v (.int .i64 x0.time)]), .d (I x1)] [] (.d (Bo r)) [] := by
 unfold Hu at h
 refine co 19 Tryz.func146 λ C hC => ?_
 obtain ⟨y1, h2, y3, h4, h⟩ := A6 h
 replace h := sI h
 subst h
 exact wr [0, 1, 4] 25 [] [pc e56 (k56 x0.Am x1 _ h2) [], pr pB h4] [] 0 [] hC []
theorem Abg : EN 146 := en Tryz.func146
def E5 : List Nat := [0, 1, 3, 4, 5, 10, 11, 21, 31, 44, 59]
def Sw (y1 : Int × Ag) (z0 : Bool) : St := [(0, dO 0 0), (3, dO 4 0), (4, dO 5 0), (5, dO 6 0), (10, dI y1.1), (11, dB z0)]
def Tn (x1 : Aa) (y1 : Int × Ag) (z0 : Bool) : List Res := (.box 70 (d70 y1.2) :: zs x1 [.box 29 [I x1.Ao, .os 1, .os 2, .os 3, I x1.Phase, I x1.Ar], .box 47 [I 0, I 0, I 0], .box 47 [I y1.1, I 0, I 0]])
def Sv (y1 : Int × Ag) (z1 : Bool) : St := [(0, dO 0 0), (3, dO 4 0), (4, dO 5 0), (5, dO 6 0), (10, dI y1.1), (21, dB z1)]
def Tm (x1 : Aa) (y1 : Int × Ag) (z1 : Bool) : List Res := (.box 70 (d70 y1.2) :: zs x1 [.box 29 [I x1.Ao, .os 1, .os 2, .os 3, I x1.Phase, I x1.Ar], .box 47 [I 0, I 0, I 0], .box 47 [I y1.1, I 0, I 0]])
theorem Ayj (x0 : Ag) (x1 : Aa) (r : An × Ag) (h : Wp x0 x1 = some r) : CO 61 [.d (.o 0 0), .agg [I x1.Ao, .os 1, .os 2, .os 3, I x1.Phase, I x1.Ar]] (.box 70 (d70 x0) :: zs x1 []) (.agg (d47 r.1)) (.box 70 (d70 r.2) :: zs x1 []) := by
 unfold Wp at h
 refine co 69 Tryz.func61 λ C hC => ?_
 obtain ⟨y1, h2, h⟩ := Au h
 refine wn E5 32 [] [pc e64 (k64 x0 1 9 _ h2) [0]] [] 4 n7_ [0, 3, 4, 5, 10, 11] hC [] ?_
 obtain ⟨w0, h, hret0, hnext0⟩ := Aq h
 refine wc w0 (Sw y1) (Tn x1 y1) ?_ λ z0 hs0 => ?_
 ·unfold T0 at h
  rcases cB h with ⟨h3, h⟩ | ⟨h3, h⟩
  ·exact wx w0 (Sw y1) (Tn x1 y1) E5 23 [true] [] [] 4 n7_ _ hC [pq h3] (sI h).symm
  ·exact wx w0 (Sw y1) (Tn x1 y1) E5 23 [false] [] [] 4 n7_ _ hC [pq h3] (sI h).symm
 ·clear h; have h := hnext0 _ hs0
  rcases cB h with ⟨h4, h⟩ | ⟨h4, h⟩
  ·obtain ⟨y5, h6, h⟩ := Au h
   replace h := sI h
   subst h
   exact wr E5 26 [true] [pl q49 x1.Ad, pc e60 (k60 y1.2 (w64 ((ln x1.Ad) + 1)) _ h6) [0]] [] 4 n4_ hC [pq h4]
  ·refine wn E5 25 [false] [] [] 4 n7_ [0, 3, 4, 5, 10, 21] hC [pq h4] ?_
   obtain ⟨w1, h, hret1, hnext1⟩ := Aq h
   refine wc w1 (Sv y1) (Tm x1 y1) ?_ λ z1 hs1 => ?_
   ·unfold Tz at h
    rcases cB h with ⟨h7, h⟩ | ⟨h7, h⟩
    ·exact wx w1 (Sv y1) (Tm x1 y1) E5 23 [true] [] [] 4 n7_ _ hC [pq h7] (sI h).symm
    ·exact wx w1 (Sv y1) (Tm x1 y1) E5 23 [false] [] [] 4 n7_ _ hC [pq h7] (sI h).symm
   ·clear h; have h := hnext1 _ hs1
    rcases cB h with ⟨h8, h⟩ | ⟨h8, h⟩
    ·obtain ⟨y9, h10, h⟩ := Au h
     replace h := sI h
     subst h
     exact wr E5 26 [true] [pl q98 x1.Ac, pc e60 (k60 y1.2 (w64 ((ln x1.Ac) + 1)) _ h10) [0]] [] 4 n4_ hC [pq h8]
    ·rcases cB h with ⟨h11, h⟩ | ⟨h11, h⟩
     ·obtain ⟨y12, h13, y14, h15, h⟩ := A6 h
      replace h := sI h
      subst h
      exact wr E5 29 [false, true] [pl q90 x1.Ai, pc e60 (k60 y1.2 (w64 ((ln x1.Ai) + 1)) _ h13) [0], pc e65 (k65 y12.2 [0, 5, 20, 41] _ h15) [0]] [] 4 n4_ hC [pq h8, pq h11]
     ·rcases cB h with ⟨h16, h⟩ | ⟨h16, h⟩
      ·obtain ⟨y17, h18, y19, h20, h⟩ := A6 h
       replace h := sI h
       subst h
       exact wr E5 32 [false, false, true] [pl q98 x1.Ac, pc e60 (k60 y1.2 (w64 ((ln x1.Ac) + 1)) _ h18) [0], pc e60 (k60 y17.2 (w64 (x1.Ao + 1)) _ h20) [0]] [] 4 n4_ hC [pq h8, pq h11, pq h16]
      ·rcases cB h with ⟨h21, h⟩ | ⟨h21, h⟩
       ·obtain ⟨y22, h23, y24, h25, h⟩ := A6 h
        replace h := sI h
        subst h
        exact wr E5 38 [false, false, false, true, true] [pc e64 (k64 y1.2 1 4 _ h23) [0], pc e60 (k60 y22.2 4 _ h25) [0]] [] 4 n4_ hC [pq h8, pq h11, pq h16, pq h21, pq h21]
       ·rcases cB h with ⟨h26, h⟩ | ⟨h26, h⟩
        ·obtain ⟨y27, h28, y29, h30, h⟩ := A6 h
         replace h := sI h
         subst h
         exact wr E5 38 [false, false, false, false, true] [pc e64 (k64 y1.2 1 4 _ h28) [0], pc e60 (k60 y27.2 4 _ h30) [0]] [] 4 n4_ hC [pq h8, pq h11, pq h16, pq h21, pq h26]
        ·replace h := sI h
         subst h
         exact wr E5 38 [false, false, false, false, false] [] [] 4 n4_ hC [pq h8, pq h11, pq h16, pq h21, pq h26]
theorem Ayz : EN 61 := en Tryz.func61
def Aah : List Nat := [0, 1, 2, 3, 4, 6, 7, 8, 32, 43]
theorem k52 (x0 : Aa) (x1 : Ab) (x2 : Int) (r : Int × Bool) (h : F52 x0 x1 x2 = some r) : CO 52 [.agg (d29 x0), .agg (d34 x1), .d (I x2)] [] (.tup [.d (I r.1), .d (Bo r.2)]) [] := by
 unfold F52 at h
 refine co 50 Tryz.func52 λ C hC => ?_
 obtain ⟨y1, h2, y3, h4, h⟩ := A6 h
 refine wn Aah 26 [] [pc e11 (k11 x0 x1 _ h2) [], pL_ [(((y1 != 0) || (decide (x2 < 0))), false)] q98 x0.Ac, pR q87 h4] [] 0 [0, 1] [2, 3, 4, 6, 7, 32] hC [] ?_
 rcases cB h with ⟨h5, h⟩ | ⟨h5, h⟩
 ·replace h := sI h
  subst h
  exact wr Aah 24 [true] [] [] 0 [] hC [pq h5]
 ·obtain ⟨y6, h7, y8, h9, y10, h11, h⟩ := Bi h
  refine wn Aah 28 [false] [pc e49 (k49 x0 2 x2 _ h7) [], pr pI h9, pn pI h9, pr pB h11] [] 0 [0] [3, 6, 7, 8, 43] hC [pq h5] ?_
  rcases cB h with ⟨h12, h⟩ | ⟨h12, h⟩
  ·replace h := sI h
   subst h
   exact wr Aah 24 [true] [] [] 0 [] hC [pq h12]
  ·obtain ⟨y13, h14, h⟩ := Au h
   replace h := sI h
   subst h
   exact wr Aah 25 [false] [pr q49 h14] [] 0 [] hC [pq h12]
theorem e52 : EN 52 := en Tryz.func52
def S4 : List Nat := [0, 1, 2, 3, 4, 6, 7, 9, 24, 27, 28, 29, 30, 37]
def yJ (y4 : (List Int)) (n0 : Nat) (z0 : Unit) : St := [(3, dO 0 0), (4, dO 1 0), (6, dI 0), (7, dB false), (27, dS 2), (28, dI (ln y4)), (29, dI (cnt 0 n0))]
def Ajq (x0 : Aa) (x1 : Ab) (y4 : (List Int)) (n0 : Nat) (z0 : Unit) : List Res := [.box 29 (d29 x0), .box 34 (d34 x1), v0_ y4]
def Amg  (z0 : Unit) : St := [(6, dI 0), (7, dB false)]
def Apq  (z0 : Unit) : List Res := []
theorem k13 (x0 : Aa) (x1 : Ab) (x2 : Int) (r : Int × Bool) (h : F13 x0 x1 x2 = some r) : CO 13 [.agg (d29 x0), .agg (d34 x1), .d (I x2)] [] (.tup [.d (I r.1), .d (Bo r.2)]) [] := by
 unfold F13 at h
 refine co 45 Tryz.func13 λ C hC => ?_
 obtain ⟨y1, h2, h⟩ := Au h
 refine wn S4 26 [] [pc e11 (k11 x0 x1 _ h2) [], pL_ [(((y1 != 0) || (decide (x2 < 0))), false)] q90 x0.Ai] [] 0 [0, 1] [2, 3, 4, 6, 7, 24] hC [] ?_
 rcases cB h with ⟨h3, h⟩ | ⟨h3, h⟩
 ·replace h := sI h
  subst h
  exact wr S4 24 [true] [] [] 0 [] hC [pq h3]
 ·obtain ⟨y4, h5, h⟩ := Au h
  refine ws S4 26 [false] [pc e49 (k49 x0 3 x2 _ h5) [], pl pI y4] [] 0 n3_ (yJ y4 0 ()) (Ajq x0 x1 y4 0 ()) hC [pq h3] ?_
  obtain ⟨w0, hm0, hret0, hnext0⟩ := Aq h
  clear h
  refine wc w0 (Amg) (Apq) ?_ λ z0 hs0 => ?_
  ·refine wb ?_
   refine Bk 27 2 rfl rfl λ hl0 => ?_
   refine wl (yJ y4) (Ajq x0 x1 y4) hm0 (λ z0 hn0 => ?_) λ n0 a0 z0 w0b hi0 hx0 h hb0 hr0 => ?_
   ·clear hm0
    exact wx w0 (Amg) (Apq) S4 26 [false] [] [] 0 [] _ hC [pq (A4 hl0)] hn0
   ·unfold W7 at h
    obtain ⟨y6, h7, h⟩ := Au h
    rcases cB h with ⟨h8, h⟩ | ⟨h8, h⟩
    ·obtain ⟨y9, h10, h⟩ := Au h
     have hq := hret0 _ (hr0 _ (sI h).symm)
     replace hq := sI hq
     subst hq
     exact wr S4 35 [true, true] [pr pI (A8 hx0 hl0), pn pI (A8 hx0 hl0), pr pB h7, pr q49 h10] [] 0 [] hC [pq (A1 hi0 hl0), pq h8]
    ·exact wx w0b (yJ y4 (n0 + 1)) (Ajq x0 x1 y4 (n0 + 1)) S4 36 [true, false] [pr pI (A8 hx0 hl0), pn pI (A8 hx0 hl0), pr pB h7] [] 0 n3_ _ hC [pq (A1 hi0 hl0), pq h8] (sI h).symm
  ·have h := hnext0 _ hs0
   replace h := sI h
   subst h
   exact wr S4 23 [] [] [] 0 [] hC []
theorem e13 : EN 13 := en Tryz.func13
def Lm : List Nat := [0, 1, 2, 3, 5, 6, 7, 29, 43, 44, 45, 46, 56, 57, 58, 59, 71]
def vY (x0 : Aa) (n0 : Nat) (z0 : Bool) : St := [(1, dO 0 0), (2, dI 0), (3, dB z0), (43, .d (DS q98 x0.Ac)), (44, dI (ln x0.Ac)), (45, dI (cnt 0 n0))]
def Ajf (x0 : Aa) (n0 : Nat) (z0 : Bool) : List Res := [.box 29 (d29 x0)]
def Alw  (z0 : Bool) : St := [(1, dO 0 0), (2, dI 0), (3, dB z0)]
def Ao6 (x0 : Aa) (z0 : Bool) : List Res := [.box 29 (d29 x0)]
def vX (x0 : Aa) (n1 : Nat) (z1 : Bool) : St := [(2, dI 0), (3, dB z1), (56, .d (DS q90 x0.Ai)), (57, dI (ln x0.Ai)), (58, dI (cnt 0 n1))]
def Aje  (n1 : Nat) (z1 : Bool) : List Res := []
def Alv  (z1 : Bool) : St := [(2, dI 0), (3, dB z1)]
def Ao5  (z1 : Bool) : List Res := []
theorem k51 (x0 : Aa) (r : Int) (h : F51 x0 = some r) : CO 51 [.agg (d29 x0)] [] (.d (I r)) [] := by
 unfold F51 at h
 refine co 72 Tryz.func51 λ C hC => ?_
 refine wn Lm 26 [] [pc e93 (k93 x0.Ao 1 6 _ rfl) [], pL_ [(!(F93 x0.Ao 1 6), false)] q49 x0.Ad, pL_ [(((!(F93 x0.Ao 1 6)) || (decide ((ln x0.Ad) > 24))), false)] q98 x0.Ac, pL_ [((((!(F93 x0.Ao 1 6)) || (decide ((ln x0.Ad) > 24))) || (decide ((ln x0.Ac) > 8))), false)] q90 x0.Ai] [] 0 [0] [1, 2, 29] hC [] ?_
 rcases cB h with ⟨h1, h⟩ | ⟨h1, h⟩
 ·replace h := sI h
  subst h
  exact wr Lm 24 [true] [] [] 0 [] hC [pq h1]
 ·obtain ⟨y2, h3, h⟩ := Au h
  refine ws Lm 28 [false] [pc e99 (k99 x0 _ h3) [], ⟨.when [(y2, true)] (.call 93 [dI x0.Phase, dI 0, dI 1800] [] (dB (F93 x0.Phase 0 1800)) [] []), λ hg => ⟨e93, (k93 x0.Phase 0 1800 _ rfl)⟩⟩, ⟨.when [((y2 && (F93 x0.Phase 0 1800)), true)] (.call 93 [dI x0.Ar, dI 0, dI 6000] [] (dB (F93 x0.Ar 0 6000)) [] []), λ hg => ⟨e93, (k93 x0.Ar 0 6000 _ rfl)⟩⟩, pl q98 x0.Ac] [] 0 [0] (vY x0 0 ((y2 && (F93 x0.Phase 0 1800)) && (F93 x0.Ar 0 6000))) (Ajf x0 0 ((y2 && (F93 x0.Phase 0 1800)) && (F93 x0.Ar 0 6000))) hC [pq h1] ?_
  obtain ⟨w0, hm0, hret0, hnext0⟩ := Aq h
  clear h
  refine wc w0 (Alw) (Ao6 x0) ?_ λ z0 hs0 => ?_
  ·refine wb ?_
   refine Bb 43 rfl λ hl0 => ?_
   refine wl (vY x0) (Ajf x0) hm0 (λ z0 hn0 => ?_) λ n0 a0 z0 w0b hi0 hx0 h hb0 hr0 => ?_
   ·clear hm0
    exact wx w0 (Alw) (Ao6 x0) Lm 26 [false] [] [] 0 [0] _ hC [pq (A4 hl0)] hn0
   ·unfold Aqc at h
    exact wx w0b (vY x0 (n0 + 1)) (Ajf x0 (n0 + 1)) Lm 33 [true] [pt hx0 hl0, ⟨.when [(z0, true)] (.call 100 [.agg (d98 a0)] [] (dB (Zd a0)) [] []), λ hg => ⟨A06, (A0g a0 _ rfl)⟩⟩] [] 0 [0] _ hC [pq (A1 hi0 hl0)] (sI h).symm
  ·have h := hnext0 _ hs0
   refine ws Lm 24 [] [pl q90 x0.Ai] [] 0 [] (vX x0 0 z0) (Aje 0 z0) hC [] ?_
   obtain ⟨w1, hm1, hret1, hnext1⟩ := Aq h
   clear h
   refine wc w1 (Alv) (Ao5) ?_ λ z1 hs1 => ?_
   ·refine wb ?_
    refine Bb 56 rfl λ hl1 => ?_
    refine wl (vX x0) (Aje) hm1 (λ z1 hn1 => ?_) λ n1 a1 z1 w1b hi1 hx1 h hb1 hr1 => ?_
    ·clear hm1
     exact wx w1 (Alv) (Ao5) Lm 26 [false] [] [] 0 [] _ hC [pq (A4 hl1)] hn1
    ·unfold Adg at h
     obtain ⟨y4, h5, h⟩ := Au h
     exact wx w1b (vX x0 (n1 + 1)) (Aje (n1 + 1)) Lm 33 [true] [pt hx1 hl1, pw A05 (λ hg => A0f a1 (cnt 0 n1) _ (A0 h5 hg)) []] [] 0 [] _ hC [pq (A1 hi1 hl1)] (sI h).symm
   ·have h := hnext1 _ hs1
    rcases cB h with ⟨h6, h⟩ | ⟨h6, h⟩
    ·replace h := sI h
     subst h
     exact wr Lm 27 [true] [] [] 0 [] hC [pq h6]
    ·replace h := sI h
     subst h
     exact wr Lm 28 [false] [] [] 0 [] hC [pq h6]
theorem e51 : EN 51 := en Tryz.func51
theorem Ayd (x0 : List Ae) (r : Bool) (h : Rm x0 = some r) : CO 90 [.d (DS q87 x0), .d (.fn (.func 91) [] [])] [] (.d (Bo r)) [] := by
 unfold Rm at h
 refine co 9 Tryz.func90 λ C hC => ?_
 obtain ⟨y1, h2, h⟩ := Au h
 replace h := sI h
 subst h
 exact wr [0, 1, 4] 25 [] [pc Awx (Avu x0 _ h2) []] [] 0 [] hC []
theorem Ayt : EN 90 := en Tryz.func90
theorem k55 (x0 : Aa) (x1 : Ab) (x2 : Int) (r : Bool) (h : F55 x0 x1 x2 = some r) : CO 55 [.agg (d29 x0), .agg (d34 x1), .d (I x2)] [] (.d (Bo r)) [] := by
 unfold F55 at h
 refine co 28 Tryz.func55 λ C hC => ?_
 obtain ⟨y1, h2, y3, h4, y5, h6, y7, h8, h⟩ := Cv h
 replace h := sI h
 subst h
 exact wr [0, 1, 2, 3, 4, 6] 25 [] [pc e56 (k56 x0 x2 _ h2) [], pc e57 (k57 x0 x1 y1 _ h4) [], pw e76 (λ hg => k76 x1 1 x2 _ (A0 h6 hg)) [], pR q87 h8] [] 0 [] hC []
theorem e55 : EN 55 := en Tryz.func55
def L9 : List Nat := [0, 1, 2, 3, 4, 5, 7, 12, 20]
theorem Av2 (x0 : A2) (x1 : Af) (r : Bool × A2) (h : Aec x0 x1 = some r) : CO 121 [.d (.o 0 0), .agg (d49 x1)] (.box 147 (zb x0.Am [.os 1, .os 2, .os 3, .os 4, .os 5]) :: zp x0.Ap [v2_ x0.acts]) (.d (Bo r.1)) (.box 147 (zb r.2.Am [.os 1, .os 2, .os 3, .os 4, .os 5]) :: zp r.2.Ap [v2_ r.2.acts]) := by
 unfold Aec at h
 refine co 45 Tryz.func121 λ C hC => ?_
 obtain ⟨y1, h2, h⟩ := Au h
 refine wn L9 29 [] [pc Vx (Vl 3 x1.A x0 _ h2) [6, 0, 1, 2, 3, 4, 5]] [] 6 n8_ [2, 3, 4, 5, 7] hC [] ?_
 rcases cB h with ⟨h3, h⟩ | ⟨h3, h⟩
 ·replace h := sI h
  subst h
  exact wr L9 24 [true] [] [] 6 n6_ hC [pq h3]
 ·rcases cB h with ⟨h4, h⟩ | ⟨h4, h⟩
  ·obtain ⟨y5, h6, h⟩ := Au h
   replace h := sI h
   subst h
   exact wr L9 27 [false, true] [pc Vx (Vl 3 x1.B y1.2 _ h6) [6, 0, 1, 2, 3, 4, 5]] [] 6 n6_ hC [pq h3, pq h4]
  ·rcases cB h with ⟨h7, h⟩ | ⟨h7, h⟩
   ·obtain ⟨y8, h9, y10, h11, h⟩ := A6 h
    replace h := sI h
    subst h
    exact wr L9 30 [false, false, true] [pc Vx (Vl 1 x1.B y1.2 _ h9) [6, 0, 1, 2, 3, 4, 5], pR q87 h11, pN q87 h11] [] 6 n6_ hC [pq h3, pq h4, pq h7]
   ·obtain ⟨y12, h13, h⟩ := Au h
    replace h := sI h
    subst h
    exact wr L9 32 [false, false, false] [pc Vx (Vl 4 x1.B y1.2 _ h13) [6, 0, 1, 2, 3, 4, 5]] [] 6 n6_ hC [pq h3, pq h4, pq h7]
theorem Aw5 : EN 121 := en Tryz.func121
theorem Avz (x0 : List Int) (x1c0 : Aj) (r : (List Int) × Aj) (h : Aea x0 x1c0 = some r) : CO 125 [.d (.os 0), .d (.fn (.func 126) [] [.o 1 0])] [v0_ x0, .box 62 (d62 x1c0)] (.d (.os 2)) [.non, .box 62 (d62 r.2), v0_ r.1] := by
 unfold Aea at h
 refine co 42 Tryz.func125 λ C hC => ?_
 obtain ⟨y1, h2, h⟩ := Au h
 refine wn [0, 1, 4, 5, 6, 7, 12, 19, 29] 28 [] [pc Awo (Avl x0 x1c0 _ h2) [0, 1]] [] 2 [0, 1] [0, 1, 4, 5, 12] hC [] ?_
 rcases cB h with ⟨h3, h⟩ | ⟨h3, h⟩
 ·replace h := sI h
  subst h
  exact wr [0, 1, 4, 5, 6, 7, 12, 19, 29] 24 [true] [] [.mv 0] 2 n3_ hC [pq h3]
 ·cases h
theorem Aw2 : EN 125 := en Tryz.func125
theorem Av9 (x0 : Az) (x1 : Int) (r : Int × Az) (h : Ku x0 x1 = some r) : CO 112 [.d (.o 0 0), .d (I x1)] (.box 107 (zb x0.Am [.os 1, .os 2, .os 3, .os 4, I x0.time]) :: zp x0.Ap []) (.d (I r.1)) (.box 107 (zb r.2.Am [.os 1, .os 2, .os 3, .os 4, I r.2.time]) :: zp r.2.Ap []) := by
 unfold Ku at h
 refine co 53 Tryz.func112 λ C hC => ?_
 obtain ⟨y1, h2, y3, h4, h⟩ := A6 h
 refine wn [0, 1, 4, 5, 23, 43] 26 [] [pr q87 h2, pn q87 h2, pv e76 (λ hg => k76 x0.Ap 1 x1 _ (A0 h4 hg))] [] 5 n5_ [0, 1, 4, 23] hC [] ?_
 rcases cB h with ⟨h5, h⟩ | ⟨h5, h⟩
 ·replace h := sI h
  subst h
  exact wr [0, 1, 4, 5, 23, 43] 24 [true] [] [] 5 n5_ hC [pq h5]
 ·obtain ⟨y6, h7, y8, h9, h⟩ := A6 h
  refine wn [0, 1, 4, 5, 23, 43] 28 [false] [pr q98 h7, pv Abg (λ hg => Aap x0 x1 _ (A0 h9 hg))] [] 5 n6_ [0, 1, 4, 5, 43] hC [pq h5] ?_
  rcases cB h with ⟨h10, h⟩ | ⟨h10, h⟩
  ·obtain ⟨y11, h12, h⟩ := Au h
   replace h := sI h
   subst h
   exact wr [0, 1, 4, 5, 23, 43] 27 [true] [pr q87 h2, pu q87 h2 h12] [] 5 n5_ hC [pq h10]
  ·obtain ⟨y13, h14, h⟩ := Au h
   replace h := sI h
   subst h
   exact wr [0, 1, 4, 5, 23, 43] 27 [false] [pr q87 h2, pu q87 h2 h14] [] 5 n5_ hC [pq h10]
theorem Axc : EN 112 := en Tryz.func112
theorem Av8 (x0 : Az) (x1 : Int) (r : Int × Az) (h : Kt x0 x1 = some r) : CO 113 [.d (.o 0 0), .d (I x1)] (.box 107 (zb x0.Am [.os 1, .os 2, .os 3, .os 4, I x0.time]) :: zp x0.Ap []) (.d (I r.1)) (.box 107 (zb r.2.Am [.os 1, .os 2, .os 3, .os 4, I r.2.time]) :: zp r.2.Ap []) := by
 unfold Kt at h
 refine co 34 Tryz.func113 λ C hC => ?_
 obtain ⟨y1, h2, y3, h4, h⟩ := A6 h
 refine wn [0, 1, 4, 5, 30] 28 [] [pr q87 h2, pn q87 h2, ⟨.when [((y1.State != 1), true)] (.row (x0.Ap.Ac.map q87) (((Int.toNat x1) : Nat) : Int) (q87 y1)), λ hg => Hz h2⟩, pv Abg (λ hg => Aap x0 x1 _ (A0 h4 hg))] [] 5 n5_ [4, 5, 30] hC [] ?_
 rcases cB h with ⟨h5, h⟩ | ⟨h5, h⟩
 ·replace h := sI h
  subst h
  exact wr [0, 1, 4, 5, 30] 24 [true] [] [] 5 n5_ hC [pq h5]
 ·obtain ⟨y6, h7, h⟩ := Au h
  replace h := sI h
  subst h
  exact wr [0, 1, 4, 5, 30] 27 [false] [pu q87 h2 h7] [] 5 n5_ hC [pq h5]
theorem Axb : EN 113 := en Tryz.func113
def Vc : List Nat := [0, 1, 2, 4, 6, 7, 8, 14]
def Sr  (z0 : Int × (List Int) × Int × (List An)) : St := [(0, dO 0 0), (4, dO 4 0), (6, .d (DS q47 [])), (7, dS 5), (8, dI z0.1)]
def Yy (x1 : Aa) (z0 : Int × (List Int) × Int × (List An)) : List Res := (.box 70 [DS pI z0.2.1, I z0.2.2.1] :: zs x1 [.box 29 [I x1.Ao, .os 1, .os 2, .os 3, I x1.Phase, I x1.Ar], v2_ (Cz z0)])
def zK  (z0 : Int × (List Int) × Int × (List An)) : St := [(6, .d (DS q47 [])), (7, dS 4)]
def Ace (x1 : Aa) (z0 : Int × (List Int) × Int × (List An)) : List Res := (.box 70 [DS pI z0.2.1, I z0.2.2.1] :: zs x1 [v2_ (Cz z0)])
theorem Ayq (x0 : Ag) (x1 : Aa) (x2 : Int) (r : (List An) × Ag) (h : Wv x0 x1 x2 = some r) : CO 26 [.d (.o 0 0), .agg [I x1.Ao, .os 1, .os 2, .os 3, I x1.Phase, I x1.Ar], .d (I x2)] (.box 70 (d70 x0) :: zs x1 []) (.d (.os 4)) (.box 70 (d70 r.2) :: zs x1 [v2_ r.1]) := by
 unfold Wv at h
 refine co 24 Tryz.func26 λ C hC => ?_
 obtain ⟨y1, h2, h⟩ := Au h
 refine ws Vc 28 [] [pc e60 (k60 x0 (w64 (x2 + 1)) _ h2) [0]] [.own 7 47 3] 4 n6_ (Sr (y1.1, y1.2.L, y1.2.At, ([] : List An))) (Yy x1 (y1.1, y1.2.L, y1.2.At, ([] : List An))) hC [] ?_
 obtain ⟨w0, hm0, hret0, hnext0⟩ := Aq h
 clear h
 refine wc w0 (zK) (Ace x1) ?_ λ z0 hs0 => ?_
 ·refine wb ?_
  refine ww (Sr) (Yy x1) hm0 λ z0 w0b h hb0 hr0 => ?_
  unfold T2 at h
  rcases cB h with ⟨h3, h⟩ | ⟨h3, h⟩
  ·obtain ⟨y4, h5, y6, h7, h⟩ := A6 h
   exact wx w0b (Sr) (Yy x1) Vc 31 [true] [pc Ayz (Ayj (⟨z0.2.1, z0.2.2.1⟩ : Ag) x1 _ h5) n4_, pa q47 3 h7] [] 4 [0, 1, 2, 3, 4, 6] _ hC [pq h3] (sI h).symm
  ·exact wx w0 (zK) (Ace x1) Vc 26 [false] [] [] 4 [0, 1, 2, 3, 5] (z0.1, z0.2.1, z0.2.2.1, (Cz z0)) hC [pq h3] (hb0 _ (sI h).symm)
 ·have h := hnext0 _ hs0
  replace h := sI h
  subst h
  exact wr Vc 23 [] [] [] 4 n5_ hC []
theorem Ay6 : EN 26 := en Tryz.func26
def H8 : List Nat := [0, 1, 2, 3, 4, 6, 7, 8, 9, 10, 11, 12, 13, 14, 28, 37, 38, 39, 54, 64, 65, 66, 81]
def Ut (x0 : Aa) (z0 : Int × (List Int)) : St := [(3, dO 0 0), (4, dO 1 0), (6, dO 2 0), (7, dB false), (8, dO 7 0), (37, dI (ln x0.Ac)), (38, dI z0.1)]
def uU (x0 : Aa) (x1 : Ab) (y4 : (List Int)) (z0 : Int × (List Int)) : List Res := [.box 29 (d29 x0), .box 34 (d34 x1), .box 62 [.os 3, .os 4, .os 5], v0_ ([] : List Int), v0_ ([] : List Int), v0_ ([] : List Int), v0_ y4, .box 62 [.os 6, .os 8, .os 9], v0_ z0.2, v0_ ([] : List Int)]
def Aly  (z0 : Int × (List Int)) : St := [(3, dO 0 0), (4, dO 1 0), (6, dO 2 0), (7, dB false), (8, dO 7 0)]
def Ao8 (x0 : Aa) (x1 : Ab) (y4 : (List Int)) (z0 : Int × (List Int)) : List Res := [.box 29 (d29 x0), .box 34 (d34 x1), .box 62 [.os 3, .os 4, .os 5], v0_ ([] : List Int), v0_ ([] : List Int), v0_ ([] : List Int), v0_ y4, .box 62 [.os 6, .os 8, .os 9], v0_ z0.2, v0_ ([] : List Int)]
def Us (x0 : Aa) (z1 : Int × (List Int)) : St := [(3, dO 0 0), (4, dO 1 0), (6, dO 2 0), (7, dB false), (8, dO 7 0), (64, dI (ln x0.Ai)), (65, dI z1.1)]
def uT (x0 : Aa) (x1 : Ab) (y4 : (List Int)) (z0 : Int × (List Int)) (z1 : Int × (List Int)) : List Res := [.box 29 (d29 x0), .box 34 (d34 x1), .box 62 [.os 3, .os 4, .os 5], v0_ ([] : List Int), v0_ ([] : List Int), v0_ ([] : List Int), v0_ y4, .box 62 [.os 6, .os 8, .os 9], v0_ z0.2, v0_ z1.2]
def Alx  (z1 : Int × (List Int)) : St := [(6, dO 0 0), (7, dB false), (8, dO 5 0)]
def Ao7 (y4 : (List Int)) (z0 : Int × (List Int)) (z1 : Int × (List Int)) : List Res := [.box 62 [.os 1, .os 2, .os 3], v0_ ([] : List Int), v0_ ([] : List Int), v0_ ([] : List Int), v0_ y4, .box 62 [.os 4, .os 6, .os 7], v0_ z0.2, v0_ z1.2]
theorem k50 (x0 : Aa) (x1 : Ab) (x2 : Int) (r : Aj × Bool) (h : F50 x0 x1 x2 = some r) : CO 50 [.agg (d29 x0), .agg (d34 x1), .d (I x2)] [] (.tup [.agg [.os 0, .os 1, .os 2], .d (Bo r.2)]) [v0_ r.1.Ao, v0_ r.1.Ac, v0_ r.1.Ai] := by
 unfold F50 at h
 refine co 90 Tryz.func50 λ C hC => ?_
 obtain ⟨y1, h2, h⟩ := Au h
 refine wn H8 26 [] [pc e11 (k11 x0 x1 _ h2) []] [.ownb 2 0 3 1, .ownb 2 1 3 1, .ownb 2 2 3 1] 0 n6_ [2, 3, 4, 6, 7, 28] hC [] ?_
 rcases cB h with ⟨h3, h⟩ | ⟨h3, h⟩
 ·replace h := sI h
  subst h
  exact wr H8 24 [true] [] [.ownb 2 0 3 1, .ownb 2 1 3 1, .ownb 2 2 3 1] 0 [6, 7, 8] hC [pq h3]
 ·obtain ⟨y4, h5, h⟩ := Au h
  refine ws H8 28 [false] [pc e98 (k98 x0 x1 x2 _ h5) [], pl q98 x0.Ac] [.ownb 7 1 3 1, .ownb 7 2 3 1] 0 Hg (Ut x0 (0, ([] : List Int))) (uU x0 x1 y4 (0, ([] : List Int))) hC [pq h3] ?_
  obtain ⟨w0, hm0, hret0, hnext0⟩ := Aq h
  clear h
  refine wc w0 (Aly) (Ao8 x0 x1 y4) ?_ λ z0 hs0 => ?_
  ·refine wb ?_
   refine ww (Ut x0) (uU x0 x1 y4) hm0 λ z0 w0b h hb0 hr0 => ?_
   unfold Adi at h
   rcases cB h with ⟨h6, h⟩ | ⟨h6, h⟩
   ·obtain ⟨y7, h8, y9, h10, h⟩ := A6 h
    refine wn H8 34 [true] [pc e52 (k52 x0 x1 z0.1 _ h8) [], pv e53 (λ hg => k53 y4 y7.1 _ (A0 h10 hg))] [] 0 Hg [3, 4, 6, 7, 8, 9, 37, 38, 54] hC [pq h6] ?_
    rcases cB h with ⟨h11, h⟩ | ⟨h11, h⟩
    ·obtain ⟨y12, h13, h⟩ := Au h
     exact wx w0b (Ut x0) (uU x0 x1 y4) H8 25 [true] [pa pI 1 h13] [] 0 [0, 1, 2, 3, 4, 5, 6, 7, 10, 9] _ hC [pq h11] (sI h).symm
    ·exact wx w0b (Ut x0) (uU x0 x1 y4) H8 25 [false] [] [] 0 Hg _ hC [pq h11] (sI h).symm
   ·exact wx w0 (Aly) (Ao8 x0 x1 y4) H8 26 [false] [] [] 0 Hg (z0.1, z0.2) hC [pq h6] (hb0 _ (sI h).symm)
  ·have h := hnext0 _ hs0
   refine ws H8 24 [] [pl q90 x0.Ai] [] 0 Hg (Us x0 (0, ([] : List Int))) (uT x0 x1 y4 z0 (0, ([] : List Int))) hC [] ?_
   obtain ⟨w1, hm1, hret1, hnext1⟩ := Aq h
   clear h
   refine wc w1 (Alx) (Ao7 y4 z0) ?_ λ z1 hs1 => ?_
   ·refine wb ?_
    refine ww (Us x0) (uT x0 x1 y4 z0) hm1 λ z1 w1b h hb1 hr1 => ?_
    unfold Adh at h
    rcases cB h with ⟨h14, h⟩ | ⟨h14, h⟩
    ·obtain ⟨y15, h16, y17, h18, h⟩ := A6 h
     refine wn H8 34 [true] [pc e13 (k13 x0 x1 z1.1 _ h16) [], pv e53 (λ hg => k53 y4 y15.1 _ (A0 h18 hg))] [] 0 Hg [3, 4, 6, 7, 8, 12, 64, 65, 81] hC [pq h14] ?_
     rcases cB h with ⟨h19, h⟩ | ⟨h19, h⟩
     ·obtain ⟨y20, h21, h⟩ := Au h
      exact wx w1b (Us x0) (uT x0 x1 y4 z0) H8 25 [true] [pa pI 1 h21] [] 0 [0, 1, 2, 3, 4, 5, 6, 7, 8, 10] _ hC [pq h19] (sI h).symm
     ·exact wx w1b (Us x0) (uT x0 x1 y4 z0) H8 25 [false] [] [] 0 Hg _ hC [pq h19] (sI h).symm
    ·exact wx w1 (Alx) (Ao7 y4 z0) H8 26 [false] [] [] 0 [2, 3, 4, 5, 6, 7, 8, 9] (z1.1, z1.2) hC [pq h14] (hb1 _ (sI h).symm)
   ·have h := hnext1 _ hs1
    replace h := sI h
    subst h
    exact wr H8 23 [] [] [] 0 [4, 6, 7] hC []
theorem e50 : EN 50 := en Tryz.func50
def Pj : List Nat := [0, 1, 2, 3, 4, 5, 6, 7, 8, 12, 38, 50, 51, 52, 53, 77]
def vZ (x1 : Ab) (n0 : Nat) (z0 : Bool) : St := [(2, dO 0 0), (3, dO 1 0), (4, dI 0), (6, dB z0), (50, .d (DS pI x1.As)), (51, dI (ln x1.As)), (52, dI (cnt 0 n0))]
def Ajg (x0 : Aa) (x1 : Ab) (n0 : Nat) (z0 : Bool) : List Res := [.box 29 (d29 x0), .box 34 (d34 x1)]
def Al0  (z0 : Bool) : St := [(4, dI 0), (6, dB z0)]
def Apa  (z0 : Bool) : List Res := []
theorem k44 (x0 : Aa) (x1 : Ab) (r : Int) (h : F44 x0 x1 = some r) : CO 44 [.agg (d29 x0), .agg (d34 x1)] [] (.d (I r)) [] := by
 unfold F44 at h
 refine co 78 Tryz.func44 λ C hC => ?_
 obtain ⟨y1, h2, h⟩ := Au h
 rcases cB h with ⟨h3, h⟩ | ⟨h3, h⟩
 ·replace h := sI h
  subst h
  exact wr Pj 31 [true] [pc e51 (k51 x0 _ h2) []] [] 0 [] hC [pq h3]
 ·refine wn Pj 33 [false] [pc e51 (k51 x0 _ h2) [], pl pB x1.Ah, pl q49 x0.Ad, pL_ [(((ln x1.Ah) != (ln x0.Ad)), false)] q87 x1.Ac, pL_ [(((ln x1.Ah) != (ln x0.Ad)), false)] q98 x0.Ac, pL_ [((((ln x1.Ah) != (ln x0.Ad)) || ((ln x1.Ac) != (ln x0.Ac))), false)] pI x1.As, pL_ [((((ln x1.Ah) != (ln x0.Ad)) || ((ln x1.Ac) != (ln x0.Ac))), false)] q90 x0.Ai] [] 0 [0, 1] [2, 3, 4, 38] hC [pq h3] ?_
  rcases cB h with ⟨h4, h⟩ | ⟨h4, h⟩
  ·replace h := sI h
   subst h
   exact wr Pj 24 [true] [] [] 0 [] hC [pq h4]
  ·obtain ⟨y5, h6, y7, h8, h⟩ := A6 h
   refine ws Pj 28 [false] [pc e89 (k89 x0 x1.Ak _ h6) [], pw Ayt (λ hg => Ayd x1.Ac _ (A0 h8 hg)) [], pl pI x1.As] [] 0 [0, 1] (vZ x1 0 (y5 && (!y7))) (Ajg x0 x1 0 (y5 && (!y7))) hC [pq h4] ?_
   obtain ⟨w0, hm0, hret0, hnext0⟩ := Aq h
   clear h
   refine wc w0 (Al0) (Apa) ?_ λ z0 hs0 => ?_
   ·refine wb ?_
    refine Bb 50 rfl λ hl0 => ?_
    refine wl (vZ x1) (Ajg x0 x1) hm0 (λ z0 hn0 => ?_) λ n0 a0 z0 w0b hi0 hx0 h hb0 hr0 => ?_
    ·clear hm0
     exact wx w0 (Al0) (Apa) Pj 26 [false] [] [] 0 [] _ hC [pq (A4 hl0)] hn0
    ·unfold Adl at h
     obtain ⟨y9, h10, y11, h12, h⟩ := A6 h
     exact wx w0b (vZ x1 (n0 + 1)) (Ajg x0 x1 (n0 + 1)) Pj 33 [true] [pt hx0 hl0, pR q90 h10, ⟨.when [(z0, true)] (.call 93 [dI a0, dI 0, dI y9.Load] [] (dB (F93 a0 0 y9.Load)) [] []), λ hg => ⟨e93, (k93 a0 0 y9.Load _ rfl)⟩⟩, pw e94 (λ hg => k94 x0 x1 (cnt 0 n0) _ (A0 h12 hg)) []] [] 0 [0, 1] _ hC [pq (A1 hi0 hl0)] (sI h).symm
   ·have h := hnext0 _ hs0
    rcases cB h with ⟨h13, h⟩ | ⟨h13, h⟩
    ·replace h := sI h
     subst h
     exact wr Pj 27 [true] [] [] 0 [] hC [pq h13]
    ·replace h := sI h
     subst h
     exact wr Pj 28 [false] [] [] 0 [] hC [pq h13]
theorem e44 : EN 44 := en Tryz.func44
def G7 : List Nat := [0, 1, 4, 5, 6, 8, 13, 14, 15, 16, 32, 38, 39, 40, 41]
def O1 (x0 : A2) (n0 : Nat) (z0 : Sg8) : St := [(0, dO 0 0), (1, .d (.fn (.func 121) [.o 0 0] [])), (4, dS 6), (13, .d (DS q49 x0.Am.Ad)), (14, dI (ln x0.Am.Ad)), (15, dI (cnt 0 n0))]
def Tw  (n0 : Nat) (z0 : Sg8) : List Res := [.box 147 [I z0.1, DS q49 z0.2.1, DS q98 z0.2.2.1, DS q90 (g3_ z0), I (g4_ z0), I (g5_ z0), .os 7, .os 8, .os 9, .os 10, .os 11], .non, .non, .non, .non, .non, v0_ ([] : List Int), v1_ (g6_ z0), v4_ (g7_ z0), v0_ (g8_ z0), v3_ (g9_ z0), v2_ (Ef z0)]
def Z3  (z0 : Sg8) : St := [(0, dO 0 0), (4, dS 6)]
def qE  (z0 : Sg8) : List Res := [.box 147 [I z0.1, DS q49 z0.2.1, DS q98 z0.2.2.1, DS q90 (g3_ z0), I (g4_ z0), I (g5_ z0), .os 7, .os 8, .os 9, .os 10, .os 11], .non, .non, .non, .non, .non, v0_ ([] : List Int), v1_ (g6_ z0), v4_ (g7_ z0), v0_ (g8_ z0), v3_ (g9_ z0), v2_ (Ef z0)]
def O0  (n1 : Nat) (z1 : Sg8) : St := [(0, dO 0 0), (38, dS 6), (39, dI (ln ([] : List Int))), (40, dI (cnt 0 n1))]
def Tv  (n1 : Nat) (z1 : Sg8) : List Res := [.box 147 [I z1.1, DS q49 z1.2.1, DS q98 z1.2.2.1, DS q90 (g3_ z1), I (g4_ z1), I (g5_ z1), .os 7, .os 8, .os 9, .os 10, .os 11], .non, .non, .non, .non, .non, v0_ ([] : List Int), v1_ (g6_ z1), v4_ (g7_ z1), v0_ (g8_ z1), v3_ (g9_ z1), v2_ (Ef z1)]
def Z2  (z1 : Sg8) : St := []
def qD  (z1 : Sg8) : List Res := [.box 147 [I z1.1, DS q49 z1.2.1, DS q98 z1.2.2.1, DS q90 (g3_ z1), I (g4_ z1), I (g5_ z1), .os 6, .os 7, .os 8, .os 9, .os 10], .non, .non, .non, .non, .non, v1_ (g6_ z1), v4_ (g7_ z1), v0_ (g8_ z1), v3_ (g9_ z1), v2_ (Ef z1)]
theorem Av4 (x0 : A2) (r : A2) (h : Aee x0 = some r) : CO 120 [.d (.o 0 0), .d (.fn (.func 121) [.o 0 0] [])] (.box 147 (zb x0.Am [.os 1, .os 2, .os 3, .os 4, .os 5]) :: zp x0.Ap [v2_ x0.acts]) (.tup []) (.box 147 (zb r.Am [.os 6, .os 7, .os 8, .os 9, .os 10]) :: .non :: .non :: .non :: .non :: .non :: zp r.Ap [v2_ r.acts]) := by
 unfold Aee at h
 refine co 48 Tryz.func120 λ C hC => ?_
 refine ws G7 26 [] [pl q49 x0.Am.Ad] [.own 4 3 1, .mv 1, .mv 2, .mv 3, .mv 4, .mv 5] 6 Ek (O1 x0 0 (zt x0.Am (zu x0.Ap x0.acts))) (Tw 0 (zt x0.Am (zu x0.Ap x0.acts))) hC [] ?_
 obtain ⟨w0, hm0, hret0, hnext0⟩ := Aq h
 clear h
 refine wc w0 (Z3) (qE) ?_ λ z0 hs0 => ?_
 ·refine wb ?_
  refine Bb 13 rfl λ hl0 => ?_
  refine wl (O1 x0) (Tw) hm0 (λ z0 hn0 => ?_) λ n0 a0 z0 w0b hi0 hx0 h hb0 hr0 => ?_
  ·clear hm0
   exact wx w0 (Z3) (qE) G7 26 [false] [] [] 6 Ek _ hC [pq (A4 hl0)] hn0
  ·unfold qR at h
   obtain ⟨y1, h2, y3, h4, h⟩ := A6 h
   refine wn G7 32 [true] [pt hx0 hl0, pr pB h2, pn pB h2, ⟨.whenR [(y1, true)] (.call 121 [dO 0 0, .agg (d49 a0)] [.box 147 [I z0.1, DS q49 z0.2.1, DS q98 z0.2.2.1, DS q90 (g3_ z0), I (g4_ z0), I (g5_ z0), .os 1, .os 2, .os 3, .os 4, .os 5], v1_ (g6_ z0), v4_ (g7_ z0), v0_ (g8_ z0), v3_ (g9_ z0), v2_ (Ef z0)] (dB y3.1) (.box 147 (zb y3.2.Am [.os 1, .os 2, .os 3, .os 4, .os 5]) :: zp y3.2.Ap [v2_ y3.2.acts]) [0, 7, 8, 9, 10, 11]), ⟨λ hg => ⟨Aw5, (Av2 (⟨(⟨z0.1, z0.2.1, z0.2.2.1, (g3_ z0), (g4_ z0), (g5_ z0)⟩ : Aa), (⟨(g6_ z0), (g7_ z0), (g8_ z0), (g9_ z0)⟩ : Ab), (Ef z0)⟩ : A2) a0 _ (A0 h4 hg))⟩, λ hg => by have e := Hp h4 hg; subst e; rfl⟩⟩] [] 6 Ek [0, 1, 4, 5, 13, 14, 15, 32] hC [pq (A1 hi0 hl0)] ?_
   rcases cB h with ⟨h5, h⟩ | ⟨h5, h⟩
   ·cases h
   ·exact wx w0b (O1 x0 (n0 + 1)) (Tw (n0 + 1)) G7 25 [false] [] [] 6 Ek _ hC [pq h5] (sI h).symm
 ·have h := hnext0 _ hs0
  refine ws G7 23 [] [pl pI ([] : List Int)] [] 6 Ek (O0 0 (z0.1, z0.2.1, z0.2.2.1, (g3_ z0), (g4_ z0), (g5_ z0), (g6_ z0), (g7_ z0), (g8_ z0), (g9_ z0), (Ef z0))) (Tv 0 (z0.1, z0.2.1, z0.2.2.1, (g3_ z0), (g4_ z0), (g5_ z0), (g6_ z0), (g7_ z0), (g8_ z0), (g9_ z0), (Ef z0))) hC [] ?_
  obtain ⟨w1, hm1, hret1, hnext1⟩ := Aq h
  clear h
  refine wc w1 (Z2) (qD) ?_ λ z1 hs1 => ?_
  ·refine wb ?_
   refine Bk 38 6 rfl rfl λ hl1 => ?_
   refine wl (O0) (Tv) hm1 (λ z1 hn1 => ?_) λ n1 a1 z1 w1b hi1 hx1 h hb1 hr1 => ?_
   ·clear hm1
    exact wx w1 (Z2) (qD) G7 26 [false] [] [] 6 [0, 1, 2, 3, 4, 5, 7, 8, 9, 10, 11] _ hC [pq (A4 hl1)] hn1
   ·unfold qQ at h
    obtain ⟨y6, h7, h⟩ := Au h
    exact wx w1b (O0 (n1 + 1)) (Tv (n1 + 1)) G7 33 [true] [pr pI (A8 hx1 hl1), pn pI (A8 hx1 hl1), pc Ank (Amy (⟨(⟨z1.1, z1.2.1, z1.2.2.1, (g3_ z1), (g4_ z1), (g5_ z1)⟩ : Aa), (⟨(g6_ z1), (g7_ z1), (g8_ z1), (g9_ z1)⟩ : Ab), (Ef z1)⟩ : A2) a1 _ h7) [0, 7, 8, 9, 10, 11]] [] 6 [0, 1, 2, 3, 4, 5, 6, 7, 8, 9, 10, 12] _ hC [pq (A1 hi1 hl1)] (sI h).symm
  ·have h := hnext1 _ hs1
   replace h := sI h
   subst h
   exact wf G7 20 [] [] [] 6 Kd hC []
theorem Aw7 : EN 120 := en Tryz.func120
def Aq4 : List Nat := [0, 1, 2, 3, 4, 7, 10, 11, 12]
def Ako (x0 : Aa) (z0 : Unit) : St := [(1, dO 0 0), (2, .d (DS pI [])), (3, dS 1), (10, dI (ln x0.Ai)), (11, dI 0)]
def Atp (x0 : Aa) (z0 : Unit) : List Res := [.box 29 (d29 x0), v0_ ([] : List Int)]
def Alf  (z0 : Unit) : St := [(1, dO 0 0), (2, .d (DS pI [])), (3, dS 1)]
def Aop (x0 : Aa) (z0 : Unit) : List Res := [.box 29 (d29 x0), v0_ ([] : List Int)]
theorem k85 (x0 : Aa) (r : (List Int)) (h : F85 x0 = some r) : CO 85 [.agg (d29 x0)] [] (.d (.os 0)) [v0_ r] := by
 unfold F85 at h
 refine co 23 Tryz.func85 λ C hC => ?_
 obtain ⟨y1, h2, h⟩ := Au h
 rcases cB h with ⟨h3, h⟩ | ⟨h3, h⟩
 ·cases h
 ·refine ws Aq4 33 [false] [pc e51 (k51 x0 _ h2) [], pl q90 x0.Ai] [.own 3 3 1] 0 [0, 1] (Ako x0 ()) (Atp x0 ()) hC [pq h3] ?_
  obtain ⟨w0, hm0, hret0, hnext0⟩ := Aq h
  clear h
  refine wc w0 (Alf) (Aop x0) ?_ λ z0 hs0 => ?_
  ·refine wb ?_
   refine ww (Ako x0) (Atp x0) hm0 λ z0 w0b h hb0 hr0 => ?_
   unfold Ap3 at h
   rcases cB h with ⟨h4, h⟩ | ⟨h4, h⟩
   ·cases h
   ·exact wx w0 (Alf) (Aop x0) Aq4 26 [false] [] [] 0 [0, 1] () hC [pq h4] (hb0 _ (sI h).symm)
  ·have h := hnext0 _ hs0
   obtain ⟨y5, h6, h⟩ := Au h
   replace h := sI h
   subst h
   exact wr Aq4 25 [] [pc Aw0 (Avx ([] : List Int) x0 _ h6) [1, 0]] [] 0 [1] hC []
theorem e85 : EN 85 := en Tryz.func85
theorem k14 (x0 : Aa) (x1 : Ab) (x2 : Int) (r : Bool) (h : F14 x0 x1 x2 = some r) : CO 14 [.agg (d29 x0), .agg (d34 x1), .d (I x2)] [] (.d (Bo r)) [] := by
 unfold F14 at h
 refine co 23 Tryz.func14 λ C hC => ?_
 obtain ⟨y1, h2, h⟩ := Au h
 replace h := sI h
 subst h
 exact wr [0, 1, 2, 3, 4, 6, 7, 8] 27 [] [pc e50 (k50 x0 x1 x2 _ h2) [], pL_ [(y1.2, true)] pI y1.1.Ac] [] 0 [] hC []
theorem e14 : EN 14 := en Tryz.func14
def Kf : List Nat := [0, 1, 2, 3, 4, 5, 6, 7, 12, 16, 31]
def Uz  (z0 : Int × (List Aj)) : St := [(2, dO 0 0), (3, dO 1 0), (4, .d (DS q62 [])), (5, dS 2), (6, dI z0.1)]
def vA (x0 : Aa) (x1 : Ab) (z0 : Int × (List Aj)) : List Res := [.box 29 (d29 x0), .box 34 (d34 x1), v5_ z0.2]
def Amc  (z0 : Int × (List Aj)) : St := [(4, .d (DS q62 [])), (5, dS 0)]
def Apm  (z0 : Int × (List Aj)) : List Res := [v5_ z0.2]
theorem k21 (x0 : Aa) (x1 : Ab) (r : (List Aj)) (h : F21 x0 x1 = some r) : CO 21 [.agg (d29 x0), .agg (d34 x1)] [] (.d (.os 0)) [v5_ r] := by
 unfold F21 at h
 refine co 37 Tryz.func21 λ C hC => ?_
 obtain ⟨y1, h2, h⟩ := Au h
 refine wn Kf 26 [] [pc e11 (k11 x0 x1 _ h2) []] [] 0 [0, 1] [2, 3, 4, 12] hC [] ?_
 rcases cB h with ⟨h3, h⟩ | ⟨h3, h⟩
 ·replace h := sI h
  subst h
  exact wr Kf 24 [true] [] [.own 4 62 3] 0 [2] hC [pq h3]
 ·refine ws Kf 28 [false] [] [.own 5 62 3] 0 n3_ (Uz (0, ([] : List Aj))) (vA x0 x1 (0, ([] : List Aj))) hC [pq h3] ?_
  obtain ⟨w0, hm0, hret0, hnext0⟩ := Aq h
  clear h
  refine wc w0 (Amc) (Apm) ?_ λ z0 hs0 => ?_
  ·refine wb ?_
   refine ww (Uz) (vA x0 x1) hm0 λ z0 w0b h hb0 hr0 => ?_
   unfold Adx at h
   rcases cB h with ⟨h4, h⟩ | ⟨h4, h⟩
   ·obtain ⟨y5, h6, y7, h8, h⟩ := A6 h
    refine wn Kf 32 [true] [pc e50 (k50 x0 x1 z0.1 _ h6) [], pr pI h8, pn pI h8] [] 0 n7_ [2, 3, 4, 5, 6, 7, 31] hC [pq h4] ?_
    rcases cB h with ⟨h9, h⟩ | ⟨h9, h⟩
    ·refine wn Kf 1 [true] [] [.frz 3] 0 [0, 1, 2, 4, 5, 6] [2, 3, 4, 5, 6, 7] hC [pq h9] ?_
     refine wn Kf 0 [] [] [.frz 3] 0 [0, 1, 2, 4, 5] [2, 3, 4, 5, 6, 7] hC [] ?_
     refine wn Kf 0 [] [] [.frz 3] 0 [0, 1, 2, 4] [2, 3, 4, 5, 6, 7] hC [] ?_
     obtain ⟨y10, h11, h⟩ := Au h
     exact wx w0b (Uz) (vA x0 x1) Kf 24 [] [pa q62 3 h11] [] 0 [0, 1, 4] _ hC [] (sI h).symm
    ·exact wx w0b (Uz) (vA x0 x1) Kf 25 [false] [] [] 0 n3_ _ hC [pq h9] (sI h).symm
   ·exact wx w0 (Amc) (Apm) Kf 26 [false] [] [] 0 [2] (z0.1, z0.2) hC [pq h4] (hb0 _ (sI h).symm)
  ·have h := hnext0 _ hs0
   replace h := sI h
   subst h
   exact wr Kf 23 [] [] [] 0 [0] hC []
theorem e21 : EN 21 := en Tryz.func21
def X2 : List Nat := [0, 1, 2, 3, 4, 6, 7, 8, 9, 11, 26, 28, 29, 30, 31]
def yH (y1 : Aj × Bool) (n0 : Nat) (z0 : Int) : St := [(4, dO 0 0), (6, dI 0), (9, dI z0), (28, dS 1), (29, dI (ln y1.1.Ai)), (30, dI (cnt 0 n0))]
def Ajo (x1 : Ab) (y1 : Aj × Bool) (n0 : Nat) (z0 : Int) : List Res := [.box 34 (d34 x1), v0_ y1.1.Ai]
def Ame  (z0 : Int) : St := [(6, dI 0), (9, dI z0)]
def Apo  (z0 : Int) : List Res := []
theorem k17 (x0 : Aa) (x1 : Ab) (x2 : Int) (r : Int) (h : F17 x0 x1 x2 = some r) : CO 17 [.agg (d29 x0), .agg (d34 x1), .d (I x2)] [] (.d (I r)) [] := by
 unfold F17 at h
 refine co 43 Tryz.func17 λ C hC => ?_
 obtain ⟨y1, h2, h⟩ := Au h
 refine wn X2 28 [] [pc e50 (k50 x0 x1 x2 _ h2) [], pL_ [(!y1.2, false)] pI y1.1.Ac] [] 0 [1, 2, 3, 4, 5] [4, 6, 7, 26] hC [] ?_
 rcases cB h with ⟨h3, h⟩ | ⟨h3, h⟩
 ·replace h := sI h
  subst h
  exact wr X2 24 [true] [] [] 0 [] hC [pq h3]
 ·refine ws X2 28 [false] [pl pI y1.1.Ai] [] 0 [0, 3] (yH y1 0 0) (Ajo x1 y1 0 0) hC [pq h3] ?_
  obtain ⟨w0, hm0, hret0, hnext0⟩ := Aq h
  clear h
  refine wc w0 (Ame) (Apo) ?_ λ z0 hs0 => ?_
  ·refine wb ?_
   refine Bk 28 1 rfl rfl λ hl0 => ?_
   refine wl (yH y1) (Ajo x1 y1) hm0 (λ z0 hn0 => ?_) λ n0 a0 z0 w0b hi0 hx0 h hb0 hr0 => ?_
   ·clear hm0
    exact wx w0 (Ame) (Apo) X2 26 [false] [] [] 0 [] _ hC [pq (A4 hl0)] hn0
   ·unfold Wz at h
    obtain ⟨y4, h5, h⟩ := Au h
    exact wx w0b (yH y1 (n0 + 1)) (Ajo x1 y1 (n0 + 1)) X2 33 [true] [pr pI (A8 hx0 hl0), pn pI (A8 hx0 hl0), pr pI h5] [] 0 [0, 1] _ hC [pq (A1 hi0 hl0)] (sI h).symm
  ·have h := hnext0 _ hs0
   replace h := sI h
   subst h
   exact wr X2 23 [] [] [] 0 [] hC []
theorem e17 : EN 17 := en Tryz.func17
def Aht : List Nat := [0, 1, 2, 3, 4, 6, 7, 9, 11, 20, 21, 22, 23]
def yG (y1 : Aj × Bool) (n0 : Nat) (z0 : Int) : St := [(3, dO 0 0), (6, dI 0), (9, dI z0), (20, dS 1), (21, dI (ln y1.1.Ac)), (22, dI (cnt 0 n0))]
def Ajn (x0 : Aa) (y1 : Aj × Bool) (n0 : Nat) (z0 : Int) : List Res := [.box 29 (d29 x0), v0_ y1.1.Ac]
def Amd  (z0 : Int) : St := [(6, dI 0), (9, dI z0)]
def Apn  (z0 : Int) : List Res := []
theorem k18 (x0 : Aa) (x1 : Ab) (x2 : Int) (r : Int) (h : F18 x0 x1 x2 = some r) : CO 18 [.agg (d29 x0), .agg (d34 x1), .d (I x2)] [] (.d (I r)) [] := by
 unfold F18 at h
 refine co 36 Tryz.func18 λ C hC => ?_
 obtain ⟨y1, h2, h⟩ := Au h
 refine ws Aht 30 [] [pc e50 (k50 x0 x1 x2 _ h2) [], pl pI y1.1.Ac] [] 0 [0, 3] (yG y1 0 0) (Ajn x0 y1 0 0) hC [] ?_
 obtain ⟨w0, hm0, hret0, hnext0⟩ := Aq h
 clear h
 refine wc w0 (Amd) (Apn) ?_ λ z0 hs0 => ?_
 ·refine wb ?_
  refine Bk 20 1 rfl rfl λ hl0 => ?_
  refine wl (yG y1) (Ajn x0 y1) hm0 (λ z0 hn0 => ?_) λ n0 a0 z0 w0b hi0 hx0 h hb0 hr0 => ?_
  ·clear hm0
   exact wx w0 (Amd) (Apn) Aht 26 [false] [] [] 0 [] _ hC [pq (A4 hl0)] hn0
  ·unfold Ady at h
   obtain ⟨y3, h4, h⟩ := Au h
   exact wx w0b (yG y1 (n0 + 1)) (Ajn x0 y1 (n0 + 1)) Aht 33 [true] [pr pI (A8 hx0 hl0), pn pI (A8 hx0 hl0), pr q98 h4] [] 0 [0, 1] _ hC [pq (A1 hi0 hl0)] (sI h).symm
 ·have h := hnext0 _ hs0
  replace h := sI h
  subst h
  exact wr Aht 23 [] [] [] 0 [] hC []
theorem e18 : EN 18 := en Tryz.func18
def Gq : List Nat := [0, 1, 2, 3, 4, 5, 6, 7, 8, 9, 13, 19, 20, 21, 26, 39, 40, 41, 43, 44, 45, 46, 58]
def Uy (x0 : Aa) (z0 : Int × (List Bool)) : St := [(2, dO 0 0), (3, dO 1 0), (4, .d (DS pB [])), (5, dS 2), (19, dI (ln x0.Ac)), (20, dI z0.1)]
def uZ (x0 : Aa) (x1 : Ab) (z0 : Int × (List Bool)) : List Res := [.box 29 (d29 x0), .box 34 (d34 x1), v1_ z0.2]
def Amb  (z0 : Int × (List Bool)) : St := [(2, dO 0 0), (3, dO 1 0), (4, .d (DS pB [])), (5, dS 2)]
def Apl (x0 : Aa) (x1 : Ab) (z0 : Int × (List Bool)) : List Res := [.box 29 (d29 x0), .box 34 (d34 x1), v1_ z0.2]
def yF (x0 : Aa) (z1 : Int × (List Bool)) : St := [(2, dO 0 0), (3, dO 1 0), (4, .d (DS pB [])), (5, dS 2), (39, dI x0.Ao), (40, dI z1.1)]
def Ajm (x0 : Aa) (x1 : Ab) (z1 : Int × (List Bool)) : List Res := [.box 29 (d29 x0), .box 34 (d34 x1), v1_ z1.2]
def Ama  (z1 : Int × (List Bool)) : St := [(4, .d (DS pB [])), (5, dS 0)]
def Apk  (z1 : Int × (List Bool)) : List Res := [v1_ z1.2]
def Ux (x0 : Aa) (z1 : Int × (List Bool)) (n2 : Nat) (z2 : (List Bool)) : St := [(2, dO 0 0), (3, dO 1 0), (4, .d (DS pB [])), (5, dS 2), (39, dI x0.Ao), (40, dI z1.1), (43, .d (DS q49 x0.Ad)), (44, dI (ln x0.Ad)), (45, dI (cnt 0 n2))]
def uY (x0 : Aa) (x1 : Ab) (n2 : Nat) (z2 : (List Bool)) : List Res := [.box 29 (d29 x0), .box 34 (d34 x1), v1_ z2]
def Al9 (x0 : Aa) (z1 : Int × (List Bool)) (z2 : (List Bool)) : St := [(2, dO 0 0), (3, dO 1 0), (4, .d (DS pB [])), (5, dS 2), (39, dI x0.Ao), (40, dI z1.1)]
def Apj (x0 : Aa) (x1 : Ab) (z2 : (List Bool)) : List Res := [.box 29 (d29 x0), .box 34 (d34 x1), v1_ z2]
theorem k23 (x0 : Aa) (x1 : Ab) (r : (List Bool)) (h : F23 x0 x1 = some r) : CO 23 [.agg (d29 x0), .agg (d34 x1)] [] (.d (.os 0)) [v1_ r] := by
 unfold F23 at h
 refine co 84 Tryz.func23 λ C hC => ?_
 obtain ⟨y1, h2, h⟩ := Au h
 refine wn Gq 26 [] [pc e44 (k44 x0 x1 _ h2) []] [] 0 [0, 1] [2, 3, 4, 13] hC [] ?_
 rcases cB h with ⟨h3, h⟩ | ⟨h3, h⟩
 ·replace h := sI h
  subst h
  exact wr Gq 24 [true] [] [.own 4 4 1] 0 [2] hC [pq h3]
 ·obtain ⟨y4, h5, h⟩ := Au h
  refine ws Gq 28 [false] [⟨.room (x0.Ao * (1 + 1)) (List.replicate (Int.toNat x0.Ao) (pB false)) (y4.map pB), H3 h5⟩, pl q98 x0.Ac] [] 0 n3_ (Uy x0 (0, y4)) (uZ x0 x1 (0, y4)) hC [pq h3] ?_
  obtain ⟨w0, hm0, hret0, hnext0⟩ := Aq h
  clear h
  refine wc w0 (Amb) (Apl x0 x1) ?_ λ z0 hs0 => ?_
  ·refine wb ?_
   refine ww (Uy x0) (uZ x0 x1) hm0 λ z0 w0b h hb0 hr0 => ?_
   unfold Adw at h
   rcases cB h with ⟨h6, h⟩ | ⟨h6, h⟩
   ·obtain ⟨y7, h8, h⟩ := Au h
    refine wn Gq 32 [true] [pc e55 (k55 x0 x1 z0.1 _ h8) []] [] 0 n3_ [2, 3, 4, 5, 6, 19, 20, 26] hC [pq h6] ?_
    rcases cB h with ⟨h9, h⟩ | ⟨h9, h⟩
    ·obtain ⟨y10, h11, y12, h13, y14, h15, y16, h17, h⟩ := Cv h
     exact wx w0b (Uy x0) (uZ x0 x1) Gq 25 [true] [pc e56 (k56 x0 z0.1 _ h11) [], pr q49 h13, pr pB h15, pu pB h15 h17] [] 0 n3_ _ hC [pq h9] (sI h).symm
    ·exact wx w0b (Uy x0) (uZ x0 x1) Gq 25 [false] [] [] 0 n3_ _ hC [pq h9] (sI h).symm
   ·exact wx w0 (Amb) (Apl x0 x1) Gq 26 [false] [] [] 0 n3_ (z0.1, z0.2) hC [pq h6] (hb0 _ (sI h).symm)
  ·have h := hnext0 _ hs0
   refine ws Gq 24 [] [] [] 0 n3_ (yF x0 (0, z0.2)) (Ajm x0 x1 (0, z0.2)) hC [] ?_
   obtain ⟨w1, hm1, hret1, hnext1⟩ := Aq h
   clear h
   refine wc w1 (Ama) (Apk) ?_ λ z1 hs1 => ?_
   ·refine wb ?_
    refine ww (yF x0) (Ajm x0 x1) hm1 λ z1 w1b h hb1 hr1 => ?_
    unfold Adv at h
    rcases cB h with ⟨h18, h⟩ | ⟨h18, h⟩
    ·refine ws Gq 30 [true] [pl q49 x0.Ad] [] 0 n3_ (Ux x0 z1 0 z1.2) (uY x0 x1 0 z1.2) hC [pq h18] ?_
     obtain ⟨w2, hm2, hret2, hnext2⟩ := Aq h
     clear h
     refine wc w2 (Al9 x0 z1) (Apj x0 x1) ?_ λ z2 hs2 => ?_
     ·refine wb ?_
      refine Bb 43 rfl λ hl2 => ?_
      refine wl (Ux x0 z1) (uY x0 x1) hm2 (λ z2 hn2 => ?_) λ n2 a2 z2 w2b hi2 hx2 h hb2 hr2 => ?_
      ·clear hm2
       exact wx w2 (Al9 x0 z1) (Apj x0 x1) Gq 26 [false] [] [] 0 n3_ _ hC [pq (A4 hl2)] hn2
      ·unfold Wy at h
       obtain ⟨y19, h20, h⟩ := Au h
       refine wn Gq 32 [true] [pt hx2 hl2, pw e57 (λ hg => k57 x0 x1 (cnt 0 n2) _ (A0 h20 hg)) []] [] 0 n4_ [2, 3, 4, 5, 8, 39, 40, 43, 44, 45, 58] hC [pq (A1 hi2 hl2)] ?_
       rcases cB h with ⟨h21, h⟩ | ⟨h21, h⟩
       ·obtain ⟨y22, h23, y24, h25, y26, h27, h⟩ := Bi h
        obtain ⟨y28, h29, y30, h31, h⟩ := A6 h
        exact wx w2b (Ux x0 z1 (n2 + 1)) (uY x0 x1 (n2 + 1)) Gq 27 [true] [pr pB h23, pn pB h23, pR pB h25, pN pB h25, pr pB h23, pu pB h23 h27, pr pB h29, pu pB h29 h31] [] 0 n3_ _ hC [pq h21] (sI h).symm
       ·exact wx w2b (Ux x0 z1 (n2 + 1)) (uY x0 x1 (n2 + 1)) Gq 25 [false] [] [] 0 n3_ _ hC [pq h21] (sI h).symm
     ·have h := hnext2 _ hs2
      exact wx w1b (yF x0) (Ajm x0 x1) Gq 23 [] [] [] 0 n3_ _ hC [] (sI h).symm
    ·exact wx w1 (Ama) (Apk) Gq 26 [false] [] [] 0 [2] (z1.1, z1.2) hC [pq h18] (hb1 _ (sI h).symm)
   ·have h := hnext1 _ hs1
    replace h := sI h
    subst h
    exact wr Gq 23 [] [] [] 0 [0] hC []
theorem e23 : EN 23 := en Tryz.func23
def Er : List Nat := [0, 1, 2, 3, 4, 5, 6, 7, 8, 9, 10, 11, 12, 13, 14, 18, 25, 26, 27, 28, 47, 48, 49, 58, 80, 81, 82, 91]
def Xk (y4 : (List Int)) (n0 : Nat) (z0 : (List Aj)) : St := [(2, dO 0 0), (3, dO 1 0), (4, .d (DS q62 [])), (5, dS 2), (6, dS 3), (25, dS 2), (26, dI (ln y4)), (27, dI (cnt 0 n0))]
def Acq (x0 : Aa) (x1 : Ab) (y4 : (List Int)) (n0 : Nat) (z0 : (List Aj)) : List Res := [.box 29 (d29 x0), .box 34 (d34 x1), v0_ y4, .dsl 62 3 4, .gh 3 [(3, 1), (3, 1), (3, 1)] (z0.map q62) none]
def Afm  (z0 : (List Aj)) : St := [(2, dO 0 0), (3, dO 1 0), (4, .d (DS q62 [])), (5, dS 2), (6, dS 3)]
def Ago (x0 : Aa) (x1 : Ab) (y4 : (List Int)) (z0 : (List Aj)) : List Res := [.box 29 (d29 x0), .box 34 (d34 x1), v0_ y4, .dsl 62 3 4, .gh 3 [(3, 1), (3, 1), (3, 1)] (z0.map q62) none]
def Qr (x0 : Aa) (z1 : Int × (List Aj)) : St := [(2, dO 0 0), (3, dO 1 0), (4, .d (DS q62 [])), (5, dS 2), (6, dS 3), (47, dI (ln x0.Ac)), (48, dI z1.1)]
def Wk (x0 : Aa) (x1 : Ab) (y4 : (List Int)) (z1 : Int × (List Aj)) : List Res := [.box 29 (d29 x0), .box 34 (d34 x1), v0_ y4, .dsl 62 3 4, .gh 3 [(3, 1), (3, 1), (3, 1)] (z1.2.map q62) none]
def Afl  (z1 : Int × (List Aj)) : St := [(2, dO 0 0), (3, dO 1 0), (4, .d (DS q62 [])), (5, dS 2), (6, dS 3)]
def Agn (x0 : Aa) (x1 : Ab) (y4 : (List Int)) (z1 : Int × (List Aj)) : List Res := [.box 29 (d29 x0), .box 34 (d34 x1), v0_ y4, .dsl 62 3 4, .gh 3 [(3, 1), (3, 1), (3, 1)] (z1.2.map q62) none]
def Qq (x0 : Aa) (z2 : Int × (List Aj)) : St := [(2, dO 0 0), (3, dO 1 0), (4, .d (DS q62 [])), (5, dS 2), (6, dS 3), (80, dI (ln x0.Ai)), (81, dI z2.1)]
def Wj (x0 : Aa) (x1 : Ab) (y4 : (List Int)) (z2 : Int × (List Aj)) : List Res := [.box 29 (d29 x0), .box 34 (d34 x1), v0_ y4, .dsl 62 3 4, .gh 3 [(3, 1), (3, 1), (3, 1)] (z2.2.map q62) none]
def Afk  (z2 : Int × (List Aj)) : St := [(4, .d (DS q62 [])), (6, dS 0)]
def Agm  (z2 : Int × (List Aj)) : List Res := [.dsl 62 3 1, .gh 3 [(3, 1), (3, 1), (3, 1)] (z2.2.map q62) none]
theorem Arc (x0 : Aa) (x1 : Ab) (r : (List Aj)) (h : T8 x0 x1 = some r) : CO 124 [.agg (d29 x0), .agg (d34 x1)] [] (.d (.os 0)) [v5_ r] := by
 unfold T8 at h
 refine co 113 Tryz.func124 λ C hC => ?_
 obtain ⟨y1, h2, h⟩ := Au h
 refine wn Er 26 [] [pc e44 (k44 x0 x1 _ h2) []] [] 0 [0, 1] [2, 3, 4, 18] hC [] ?_
 rcases cB h with ⟨h3, h⟩ | ⟨h3, h⟩
 ·replace h := sI h
  subst h
  exact wr Er 24 [true] [] [.own 4 62 3] 0 [2] hC [pq h3]
 ·obtain ⟨y4, h5, y6, h7, h⟩ := A6 h
  refine ws Er 30 [false] [pc A0p (Azz x0 x1 _ h5) [], ⟨.roomZ (x0.Ao * (72 + 1)) (List.replicate (Int.toNat x0.Ao) (q62 (⟨([] : List Int), ([] : List Int), ([] : List Int)⟩ : Aj))) (y6.map q62), Z_ h7⟩, pl pI y4] [.deep 3 [(3, 1), (3, 1), (3, 1)]] 0 n5_ (Xk y4 0 y6) (Acq x0 x1 y4 0 y6) hC [pq h3] ?_
  obtain ⟨w0, hm0, hret0, hnext0⟩ := Aq h
  clear h
  refine wc w0 (Afm) (Ago x0 x1 y4) ?_ λ z0 hs0 => ?_
  ·refine wb ?_
   refine Bk 25 2 rfl rfl λ hl0 => ?_
   refine wl (Xk y4) (Acq x0 x1 y4) hm0 (λ z0 hn0 => ?_) λ n0 a0 z0 w0b hi0 hx0 h hb0 hr0 => ?_
   ·clear hm0
    exact wx w0 (Afm) (Ago x0 x1 y4) Er 26 [false] [] [] 0 n5_ _ hC [pq (A4 hl0)] hn0
   ·unfold Y9 at h
    obtain ⟨y8, h9, y10, h11, y12, h13, h⟩ := Bi h
    exact wx w0b (Xk y4 (n0 + 1)) (Acq x0 x1 y4 (n0 + 1)) Er 33 [true] [pr pI (A8 hx0 hl0), pn pI (A8 hx0 hl0), pr q62 h9, pn q62 h9, ⟨.appD (z0.map q62) (Int.toNat a0) (q62 y8) 0 (y8.Ao.map pI) ([cnt 0 n0].map pI) 1 (((y8.Ao.map pI).length + ([cnt 0 n0].map pI).length) * (8 + 1)) (y10.map pI), Nv 1 (λ _ => rfl) h9 rfl h11⟩, pr q62 h9, ⟨.updD (z0.map q62) (Int.toNat a0) (Int.toNat a0) (q62 y8) (q62 (⟨y10, y8.Ac, y8.Ai⟩ : Aj)) (y12.map q62), Mq h9 h13⟩] [] 0 [0, 1, 2, 3, 8] _ hC [pq (A1 hi0 hl0)] (sI h).symm
  ·have h := hnext0 _ hs0
   refine ws Er 24 [] [pl q98 x0.Ac] [] 0 n5_ (Qr x0 (0, z0)) (Wk x0 x1 y4 (0, z0)) hC [] ?_
   obtain ⟨w1, hm1, hret1, hnext1⟩ := Aq h
   clear h
   refine wc w1 (Afl) (Agn x0 x1 y4) ?_ λ z1 hs1 => ?_
   ·refine wb ?_
    refine ww (Qr x0) (Wk x0 x1 y4) hm1 λ z1 w1b h hb1 hr1 => ?_
    unfold Y8 at h
    rcases cB h with ⟨h14, h⟩ | ⟨h14, h⟩
    ·obtain ⟨y15, h16, h⟩ := Au h
     refine wn Er 34 [true] [pc Awr (Avo x0 x1 z1.1 _ h16) []] [] 0 n5_ [2, 3, 4, 5, 6, 9, 10, 47, 48, 58] hC [pq h14] ?_
     rcases cB h with ⟨h17, h⟩ | ⟨h17, h⟩
     ·obtain ⟨y18, h19, y20, h21, y22, h23, y24, h25, h⟩ := Cv h
      exact wx w1b (Qr x0) (Wk x0 x1 y4) Er 25 [true] [pr pI h19, pn pI h19, pr pI h19, pn pI h19, pr q62 h21, pn q62 h21, ⟨.appD (z1.2.map q62) (Int.toNat y18) (q62 y20) 1 (y20.Ac.map pI) ([z1.1].map pI) 1 (((y20.Ac.map pI).length + ([z1.1].map pI).length) * (8 + 1)) (y22.map pI), Nv 1 (λ _ => rfl) h21 rfl h23⟩, pr q62 h21, ⟨.updD (z1.2.map q62) (Int.toNat y18) (Int.toNat y18) (q62 y20) (q62 (⟨y20.Ao, y22, y20.Ai⟩ : Aj)) (y24.map q62), Mq h21 h25⟩] [] 0 [0, 1, 2, 3, 8] _ hC [pq h17] (sI h).symm
     ·exact wx w1b (Qr x0) (Wk x0 x1 y4) Er 25 [false] [] [] 0 n5_ _ hC [pq h17] (sI h).symm
    ·exact wx w1 (Afl) (Agn x0 x1 y4) Er 26 [false] [] [] 0 n5_ (z1.1, z1.2) hC [pq h14] (hb1 _ (sI h).symm)
   ·have h := hnext1 _ hs1
    refine ws Er 24 [] [pl q90 x0.Ai] [] 0 n5_ (Qq x0 (0, z1.2)) (Wj x0 x1 y4 (0, z1.2)) hC [] ?_
    obtain ⟨w2, hm2, hret2, hnext2⟩ := Aq h
    clear h
    refine wc w2 (Afk) (Agm) ?_ λ z2 hs2 => ?_
    ·refine wb ?_
     refine ww (Qq x0) (Wj x0 x1 y4) hm2 λ z2 w2b h hb2 hr2 => ?_
     unfold Y7 at h
     rcases cB h with ⟨h26, h⟩ | ⟨h26, h⟩
     ·obtain ⟨y27, h28, h⟩ := Au h
      refine wn Er 34 [true] [pc Awy (Avv x0 x1 z2.1 _ h28) []] [] 0 n5_ [2, 3, 4, 5, 6, 12, 13, 80, 81, 91] hC [pq h26] ?_
      rcases cB h with ⟨h29, h⟩ | ⟨h29, h⟩
      ·obtain ⟨y30, h31, y32, h33, y34, h35, y36, h37, h⟩ := Cv h
       exact wx w2b (Qq x0) (Wj x0 x1 y4) Er 25 [true] [pr pI h31, pn pI h31, pr pI h31, pn pI h31, pr q62 h33, pn q62 h33, ⟨.appD (z2.2.map q62) (Int.toNat y30) (q62 y32) 2 (y32.Ai.map pI) ([z2.1].map pI) 1 (((y32.Ai.map pI).length + ([z2.1].map pI).length) * (8 + 1)) (y34.map pI), Nv 1 (λ _ => rfl) h33 rfl h35⟩, pr q62 h33, ⟨.updD (z2.2.map q62) (Int.toNat y30) (Int.toNat y30) (q62 y32) (q62 (⟨y32.Ao, y32.Ac, y34⟩ : Aj)) (y36.map q62), Mq h33 h37⟩] [] 0 [0, 1, 2, 3, 8] _ hC [pq h29] (sI h).symm
      ·exact wx w2b (Qq x0) (Wj x0 x1 y4) Er 25 [false] [] [] 0 n5_ _ hC [pq h29] (sI h).symm
     ·exact wx w2 (Afk) (Agm) Er 26 [false] [] [] 0 [3, 4] (z2.1, z2.2) hC [pq h26] (hb2 _ (sI h).symm)
    ·have h := hnext2 _ hs2
     refine wn Er 1 [] [] [.flat 0] 0 [0] [4, 6] hC [] ?_
     obtain ⟨y38, h39, h⟩ := Au h
     replace h := sI h
     subst h
     exact wr Er 22 [] [pc Awq (Avn z2.2 _ h39) [0]] [] 0 [1] hC []
theorem Arr : EN 124 := en Tryz.func124
def Aq3 : List Nat := [0, 1, 2, 3, 4, 6, 7, 11]
theorem k86 (x0 : Aa) (x1 : Ab) (x2 : Int) (r : Int × Bool) (h : F86 x0 x1 x2 = some r) : CO 86 [.agg (d29 x0), .agg (d34 x1), .d (I x2)] [] (.tup [.d (I r.1), .d (Bo r.2)]) [] := by
 unfold F86 at h
 refine co 18 Tryz.func86 λ C hC => ?_
 obtain ⟨y1, h2, h⟩ := Au h
 refine wn Aq3 26 [] [pc e44 (k44 x0 x1 _ h2) []] [] 0 [0, 1] [2, 3, 4, 6, 7, 11] hC [] ?_
 rcases cB h with ⟨h3, h⟩ | ⟨h3, h⟩
 ·replace h := sI h
  subst h
  exact wr Aq3 24 [true] [] [] 0 [] hC [pq h3]
 ·obtain ⟨y4, h5, h⟩ := Au h
  replace h := sI h
  subst h
  exact wr Aq3 25 [false] [pc Awy (Avv x0 x1 x2 _ h5) []] [] 0 [] hC [pq h3]
theorem e86 : EN 86 := en Tryz.func86
def Q3 : List Nat := [0, 1, 2, 3, 4, 6, 7, 8, 9, 13, 18, 29]
theorem A0b (x0 : Aa) (x1 : Ab) (x2 : Int) (r : Ab × Int) (h : Ua x0 x1 x2 = some r) : CO 110 [.agg (d29 x0), .agg (d34 x1), .d (I x2)] [] (.tup [.agg [.os 0, .os 1, .os 2, .os 3], .d (I r.2)]) (zp r.1 []) := by
 unfold Ua at h
 refine co 49 Tryz.func110 λ C hC => ?_
 obtain ⟨y1, h2, h⟩ := Au h
 refine wn Q3 29 [] [pc e44 (k44 x0 x1 _ h2) []] [.ownb 2 0 4 1, .ownb 2 1 87 4, .ownb 2 2 3 1, .ownb 2 3 92 2] 0 n7_ [2, 3, 4, 6, 7, 8, 13] hC [] ?_
 rcases cB h with ⟨h3, h⟩ | ⟨h3, h⟩
 ·replace h := sI h
  subst h
  exact wr Q3 24 [true] [] [.ownb 2 0 4 1, .ownb 2 1 87 4, .ownb 2 2 3 1, .ownb 2 3 92 2] 0 [7, 8, 9, 10] hC [pq h3]
 ·rcases cB h with ⟨h4, h⟩ | ⟨h4, h⟩
  ·replace h := sI h
   subst h
   exact wr Q3 27 [false, true] [pL_ [(decide (x2 < 0), false)] q49 x0.Ad] [.ownb 2 0 4 1, .ownb 2 1 87 4, .ownb 2 2 3 1, .ownb 2 3 92 2] 0 [7, 8, 9, 10] hC [pq h3, pq h4]
  ·obtain ⟨y5, h6, y7, h8, h⟩ := A6 h
   refine wn Q3 27 [false, false] [pL_ [(decide (x2 < 0), false)] q49 x0.Ad, pr pB h6, pw e76 (λ hg => k76 x1 2 x2 _ (A0 h8 hg)) []] [] 0 [1, 2, 3, 4, 5, 6] [2, 4, 6, 7, 29] hC [pq h3, pq h4] ?_
   rcases cB h with ⟨h9, h⟩ | ⟨h9, h⟩
   ·replace h := sI h
    subst h
    exact wr Q3 24 [true] [] [.ownb 1 0 4 1, .ownb 1 1 87 4, .ownb 1 2 3 1, .ownb 1 3 92 2] 0 [6, 7, 8, 9] hC [pq h9]
   ·obtain ⟨y10, h11, y12, h13, y14, h15, h⟩ := Bi h
    replace h := sI h
    subst h
    exact wr Q3 30 [false] [pc e35 (k35 x1 _ h11) [], pr pB h13, pu pB h13 h15] [] 0 [6, 7, 8, 9] hC [pq h9]
theorem A01 : EN 110 := en Tryz.func110
def Ahv : List Nat := [0, 1, 2, 3, 4, 6, 7, 11]
theorem Az2 (x0 : Aa) (x1 : Ab) (x2 : Int) (r : Int × Bool) (h : Ad5 x0 x1 x2 = some r) : CO 144 [.agg (d29 x0), .agg (d34 x1), .d (I x2)] [] (.tup [.d (I r.1), .d (Bo r.2)]) [] := by
 unfold Ad5 at h
 refine co 18 Tryz.func144 λ C hC => ?_
 obtain ⟨y1, h2, h⟩ := Au h
 refine wn Ahv 26 [] [pc e44 (k44 x0 x1 _ h2) []] [] 0 [0, 1] [2, 3, 4, 6, 7, 11] hC [] ?_
 rcases cB h with ⟨h3, h⟩ | ⟨h3, h⟩
 ·replace h := sI h
  subst h
  exact wr Ahv 24 [true] [] [] 0 [] hC [pq h3]
 ·obtain ⟨y4, h5, h⟩ := Au h
  replace h := sI h
  subst h
  exact wr Ahv 25 [false] [pc Awr (Avo x0 x1 x2 _ h5) []] [] 0 [] hC [pq h3]
theorem A0s : EN 144 := en Tryz.func144
def M8 : List Nat := [0, 1, 2, 3, 4, 5, 6, 7, 8, 9, 14, 20, 21, 22, 23, 29]
def Qp (x1 : Ab) (n0 : Nat) (z0 : (List Ae)) : St := [(4, dO 0 0), (5, dI 0), (7, dO 9 0), (20, .d (DS q87 x1.Ac)), (21, dI (ln x1.Ac)), (22, dI (cnt 0 n0))]
def Wi (y4 : Ab) (n0 : Nat) (z0 : (List Ae)) : List Res := (.box 34 [.os 1, .os 2, .os 3, .os 4] :: ze [v1_ y4.Ah, v4_ z0, v0_ y4.As, v3_ y4.Ak, .box 34 [.os 5, .os 6, .os 7, .os 8]])
def Afi  (z0 : (List Ae)) : St := [(4, dO 0 0), (5, dI 0), (7, dO 9 0)]
def Agk (y4 : Ab) (z0 : (List Ae)) : List Res := (.box 34 [.os 1, .os 2, .os 3, .os 4] :: ze [v1_ y4.Ah, v4_ z0, v0_ y4.As, v3_ y4.Ak, .box 34 [.os 5, .os 6, .os 7, .os 8]])
theorem Az1 (x0 : Aa) (x1 : Ab) (r : Ab × Int) (h : T5 x0 x1 = some r) : CO 147 [.agg (d29 x0), .agg (d34 x1)] [] (.tup [.agg [.os 0, .os 1, .os 2, .os 3], .d (I r.2)]) (zp r.1 []) := by
 unfold T5 at h
 refine co 45 Tryz.func147 λ C hC => ?_
 obtain ⟨y1, h2, h⟩ := Au h
 refine wn M8 28 [] [pc e44 (k44 x0 x1 _ h2) []] [.ownb 2 0 4 1, .ownb 2 1 87 4, .ownb 2 2 3 1, .ownb 2 3 92 2] 0 [1, 2, 3, 4, 5, 6] [3, 4, 5, 6, 14] hC [] ?_
 rcases cB h with ⟨h3, h⟩ | ⟨h3, h⟩
 ·replace h := sI h
  subst h
  exact wr M8 24 [true] [] [.ownb 1 0 4 1, .ownb 1 1 87 4, .ownb 1 2 3 1, .ownb 1 3 92 2] 0 [6, 7, 8, 9] hC [pq h3]
 ·obtain ⟨y4, h5, h⟩ := Au h
  refine ws M8 28 [false] [pc e35 (k35 x1 _ h5) [], pl q87 x1.Ac] [] 0 [1, 2, 3, 4, 5, 6, 7, 8, 9, 10] (Qp x1 0 y4.Ac) (Wi y4 0 y4.Ac) hC [pq h3] ?_
  obtain ⟨w0, hm0, hret0, hnext0⟩ := Aq h
  clear h
  refine wc w0 (Afi) (Agk y4) ?_ λ z0 hs0 => ?_
  ·refine wb ?_
   refine Bb 20 rfl λ hl0 => ?_
   refine wl (Qp x1) (Wi y4) hm0 (λ z0 hn0 => ?_) λ n0 a0 z0 w0b hi0 hx0 h hb0 hr0 => ?_
   ·clear hm0
    exact wx w0 (Afi) (Agk y4) M8 26 [false] [] [] 0 Hg _ hC [pq (A4 hl0)] hn0
   ·unfold Rt at h
    rcases cB h with ⟨h6, h⟩ | ⟨h6, h⟩
    ·obtain ⟨y7, h8, y9, h10, h⟩ := A6 h
     exact wx w0b (Qp x1 (n0 + 1)) (Wi y4 (n0 + 1)) M8 36 [true, true] [pt hx0 hl0, pc Aie (Ah2 (w64 (a0.Phase + (w64 (36 * (w64 (a0.Ar - 5000)))))) _ rfl) [], pr q87 h8, pu q87 h8 h10] [] 0 Hg _ hC [pq (A1 hi0 hl0), pq h6] (sI h).symm
    ·exact wx w0b (Qp x1 (n0 + 1)) (Wi y4 (n0 + 1)) M8 36 [true, false] [pt hx0 hl0] [] 0 Hg _ hC [pq (A1 hi0 hl0), pq h6] (sI h).symm
  ·have h := hnext0 _ hs0
   replace h := sI h
   subst h
   exact wr M8 23 [] [] [] 0 [5, 6, 7, 8] hC []
theorem A0r : EN 147 := en Tryz.func147
def F_ : List Nat := [0, 1, 2, 3, 4, 6, 7, 8, 9, 10, 11, 20, 21, 22, 23, 24, 48, 51, 52, 53, 54, 63, 64, 73, 74, 87]
def yD (x2 : List Int) (n0 : Nat) (z0 : Unit) : St := [(2, .d (DS pI x2)), (3, dO 0 0), (4, dO 1 0), (6, dB false), (21, .d (DS pI x2)), (22, dI (ln x2)), (23, dI (cnt 0 n0))]
def Ajk (x0 : Aa) (x1 : Ab) (n0 : Nat) (z0 : Unit) : List Res := [.box 29 (d29 x0), .box 34 (d34 x1)]
def Al7 (x2 : List Int) (z0 : Unit) : St := [(2, .d (DS pI x2)), (3, dO 0 0), (4, dO 1 0), (6, dB false)]
def Aph (x0 : Aa) (x1 : Ab) (z0 : Unit) : List Res := [.box 29 (d29 x0), .box 34 (d34 x1)]
def Oq (x0 : Aa) (x2 : List Int) (n1 : Nat) (z1 : Unit) : St := [(2, .d (DS pI x2)), (3, dO 0 0), (4, dO 1 0), (6, dB false), (51, .d (DS q49 x0.Ad)), (52, dI (ln x0.Ad)), (53, dI (cnt 0 n1))]
def Wg (x0 : Aa) (x1 : Ab) (n1 : Nat) (z1 : Unit) : List Res := [.box 29 (d29 x0), .box 34 (d34 x1)]
def Al6  (z1 : Unit) : St := [(6, dB false)]
def Apg  (z1 : Unit) : List Res := []
theorem k25 (x0 : Aa) (x1 : Ab) (x2 : List Int) (r : Bool) (h : F25 x0 x1 x2 = some r) : CO 25 [.agg (d29 x0), .agg (d34 x1), .d (DS pI x2)] [] (.d (Bo r)) [] := by
 unfold F25 at h
 refine co 89 Tryz.func25 λ C hC => ?_
 obtain ⟨y1, h2, h⟩ := Au h
 refine wn F_ 26 [] [pc e44 (k44 x0 x1 _ h2) [], pL_ [((y1 != 0), false)] pI x2] [] 0 [0, 1] [2, 3, 4, 6, 20] hC [] ?_
 rcases cB h with ⟨h3, h⟩ | ⟨h3, h⟩
 ·replace h := sI h
  subst h
  exact wr F_ 24 [true] [] [] 0 [] hC [pq h3]
 ·refine ws F_ 26 [false] [pl pI x2] [] 0 [0, 1] (yD x2 0 ()) (Ajk x0 x1 0 ()) hC [pq h3] ?_
  obtain ⟨w0, hm0, hret0, hnext0⟩ := Aq h
  clear h
  refine wc w0 (Al7 x2) (Aph x0 x1) ?_ λ z0 hs0 => ?_
  ·refine wb ?_
   refine Bb 21 rfl λ hl0 => ?_
   refine wl (yD x2) (Ajk x0 x1) hm0 (λ z0 hn0 => ?_) λ n0 a0 z0 w0b hi0 hx0 h hb0 hr0 => ?_
   ·clear hm0
    exact wx w0 (Al7 x2) (Aph x0 x1) F_ 26 [false] [] [] 0 [0, 1] _ hC [pq (A4 hl0)] hn0
   ·unfold Wx at h
    obtain ⟨y4, h5, h⟩ := Au h
    refine wn F_ 32 [true] [pt hx0 hl0, pR pI h5] [] 0 [0, 1] [2, 3, 4, 6, 21, 22, 23, 48] hC [pq (A1 hi0 hl0)] ?_
    rcases cB h with ⟨h6, h⟩ | ⟨h6, h⟩
    ·have hq := hret0 _ (hr0 _ (sI h).symm)
     replace hq := sI hq
     subst hq
     exact wr F_ 24 [true] [] [] 0 [] hC [pq h6]
    ·exact wx w0b (yD x2 (n0 + 1)) (Ajk x0 x1 (n0 + 1)) F_ 25 [false] [] [] 0 [0, 1] _ hC [pq h6] (sI h).symm
  ·have h := hnext0 _ hs0
   refine ws F_ 24 [] [pl q49 x0.Ad] [] 0 [0, 1] (Oq x0 x2 0 ()) (Wg x0 x1 0 ()) hC [] ?_
   obtain ⟨w1, hm1, hret1, hnext1⟩ := Aq h
   clear h
   refine wc w1 (Al6) (Apg) ?_ λ z1 hs1 => ?_
   ·refine wb ?_
    refine Bb 51 rfl λ hl1 => ?_
    refine wl (Oq x0 x2) (Wg x0 x1) hm1 (λ z1 hn1 => ?_) λ n1 a1 z1 w1b hi1 hx1 h hb1 hr1 => ?_
    ·clear hm1
     exact wx w1 (Al6) (Apg) F_ 26 [false] [] [] 0 [] _ hC [pq (A4 hl1)] hn1
    ·unfold Ww at h
     obtain ⟨y7, h8, h⟩ := Au h
     rcases cB h with ⟨h9, h⟩ | ⟨h9, h⟩
     ·obtain ⟨y10, h11, h⟩ := Au h
      refine wn F_ 40 [true, true] [pt hx1 hl1, pc e59 (k59 x2 a1.A _ h8) [], pw e55 (λ hg => k55 x0 x1 a1.B _ (A0 h11 hg)) []] [] 0 [0, 1] [2, 3, 4, 6, 51, 52, 53, 73] hC [pq (A1 hi1 hl1), pq h9] ?_
      rcases cB h with ⟨h12, h⟩ | ⟨h12, h⟩
      ·have hq := hret1 _ (hr1 _ (sI h).symm)
       replace hq := sI hq
       subst hq
       exact wr F_ 24 [true] [] [] 0 [] hC [pq h12]
      ·exact wx w1b (Oq x0 x2 (n1 + 1)) (Wg x0 x1 (n1 + 1)) F_ 26 [false] [] [] 0 [0, 1] _ hC [pq h12] (sI h).symm
     ·rcases cB h with ⟨h13, h⟩ | ⟨h13, h⟩
      ·obtain ⟨y14, h15, y16, h17, h⟩ := A6 h
       refine wn F_ 43 [true, false, true] [pt hx1 hl1, pc e59 (k59 x2 a1.A _ h8) [], pc e57 (k57 x0 x1 (cnt 0 n1) _ h15) [], pw e59 (λ hg => k59 x2 a1.B _ (A0 h17 hg)) []] [] 0 [0, 1] [2, 3, 4, 6, 51, 52, 53, 87] hC [pq (A1 hi1 hl1), pq h9, pq h13] ?_
       rcases cB h with ⟨h18, h⟩ | ⟨h18, h⟩
       ·have hq := hret1 _ (hr1 _ (sI h).symm)
        replace hq := sI hq
        subst hq
        exact wr F_ 24 [true] [] [] 0 [] hC [pq h18]
       ·exact wx w1b (Oq x0 x2 (n1 + 1)) (Wg x0 x1 (n1 + 1)) F_ 26 [false] [] [] 0 [0, 1] _ hC [pq h18] (sI h).symm
      ·exact wx w1b (Oq x0 x2 (n1 + 1)) (Wg x0 x1 (n1 + 1)) F_ 45 [true, false, false] [pt hx1 hl1, pc e59 (k59 x2 a1.A _ h8) []] [] 0 [0, 1] _ hC [pq (A1 hi1 hl1), pq h9, pq h13] (sI h).symm
   ·have h := hnext1 _ hs1
    replace h := sI h
    subst h
    exact wr F_ 23 [] [] [] 0 [] hC []
theorem e25 : EN 25 := en Tryz.func25
def M7 : List Nat := [0, 1, 2, 3, 4, 5, 7, 9, 14, 15, 16, 17, 21, 22, 23, 24]
def Xi (y3 : (List Aj)) (n0 : Nat) (z0 : (List Ae)) : St := [(3, dO 0 0), (4, dO 1 0), (5, dO 6 0), (14, dS 7), (15, dI (ln y3)), (16, dI (cnt 0 n0))]
def Aco (x1 : Ab) (y1 : Ab) (y3 : (List Aj)) (n0 : Nat) (z0 : (List Ae)) : List Res := (.box 34 (d34 x1) :: .box 34 [.os 8, .os 9, .os 10, .os 11] :: v1_ y1.Ah :: v4_ z0 :: v0_ y1.As :: v3_ y1.Ak :: .box 34 [.os 2, .os 3, .os 4, .os 5] :: v5_ y3 :: ze [])
def Afh  (z0 : (List Ae)) : St := [(4, dO 0 0), (5, dO 5 0)]
def Agj (y1 : Ab) (z0 : (List Ae)) : List Res := (.box 34 [.os 6, .os 7, .os 8, .os 9] :: v1_ y1.Ah :: v4_ z0 :: v0_ y1.As :: v3_ y1.Ak :: .box 34 [.os 1, .os 2, .os 3, .os 4] :: ze [])
def Xh (y3 : (List Aj)) (n0 : Nat) (a0 : Aj) (n1 : Nat) (z1 : (List Ae)) : St := [(3, dO 0 0), (4, dO 1 0), (5, dO 6 0), (7, dO 12 0), (14, dS 7), (15, dI (ln y3)), (16, dI (cnt 0 n0)), (21, .d (DS pI a0.Ac)), (22, dI (ln a0.Ac)), (23, dI (cnt 0 n1))]
def Acn (x1 : Ab) (y1 : Ab) (y3 : (List Aj)) (a0 : Aj) (n1 : Nat) (z1 : (List Ae)) : List Res := (.box 34 (d34 x1) :: .box 34 [.os 8, .os 9, .os 10, .os 11] :: v1_ y1.Ah :: v4_ z1 :: v0_ y1.As :: v3_ y1.Ak :: .box 34 [.os 2, .os 3, .os 4, .os 5] :: v5_ y3 :: ze [.box 62 (d62 a0)])
def Afg (y3 : (List Aj)) (n0 : Nat) (z1 : (List Ae)) : St := [(3, dO 0 0), (4, dO 1 0), (5, dO 6 0), (14, dS 7), (15, dI (ln y3)), (16, dI (cnt 0 n0))]
def Agi (x1 : Ab) (y1 : Ab) (y3 : (List Aj)) (z1 : (List Ae)) : List Res := (.box 34 (d34 x1) :: .box 34 [.os 8, .os 9, .os 10, .os 11] :: v1_ y1.Ah :: v4_ z1 :: v0_ y1.As :: v3_ y1.Ak :: .box 34 [.os 2, .os 3, .os 4, .os 5] :: v5_ y3 :: ze [])
theorem Az0 (x0 : Aa) (x1 : Ab) (r : Ab) (h : Akg x0 x1 = some r) : CO 152 [.agg (d29 x0), .agg (d34 x1)] [] (.agg [.os 0, .os 1, .os 2, .os 3]) (zp r []) := by
 unfold Akg at h
 refine co 58 Tryz.func152 λ C hC => ?_
 obtain ⟨y1, h2, y3, h4, h⟩ := A6 h
 refine ws M7 28 [] [pc Ars (Ard x1 _ h2) [], pc e21 (k21 x0 x1 _ h4) [], pl q62 y3] [.ownb 2 0 4 1, .ownb 2 1 87 4, .ownb 2 2 3 1, .ownb 2 3 92 2] 0 [1, 2, 3, 4, 5, 6, 7, 8, 9, 10, 11, 12] (Xi y3 0 y1.Ac) (Aco x1 y1 y3 0 y1.Ac) hC [] ?_
 obtain ⟨w0, hm0, hret0, hnext0⟩ := Aq h
 clear h
 refine wc w0 (Afh) (Agj y1) ?_ λ z0 hs0 => ?_
 ·refine wb ?_
  refine Bk 14 7 rfl rfl λ hl0 => ?_
  refine wl (Xi y3) (Aco x1 y1 y3) hm0 (λ z0 hn0 => ?_) λ n0 a0 z0 w0b hi0 hx0 h hb0 hr0 => ?_
  ·clear hm0
   exact wx w0 (Afh) (Agj y1) M7 26 [false] [] [] 0 [1, 2, 3, 4, 5, 6, 8, 9, 10, 11] _ hC [pq (A4 hl0)] hn0
  ·unfold Y4 at h
   refine ws M7 32 [true] [pr q62 (A8 hx0 hl0), pn q62 (A8 hx0 hl0), pl pI a0.Ac] [] 0 Ej (Xh y3 n0 a0 0 z0) (Acn x1 y1 y3 a0 0 z0) hC [pq (A1 hi0 hl0)] ?_
   obtain ⟨w1, hm1, hret1, hnext1⟩ := Aq h
   clear h
   refine wc w1 (Afg y3 n0) (Agi x1 y1 y3) ?_ λ z1 hs1 => ?_
   ·refine wb ?_
    refine Bb 21 rfl λ hl1 => ?_
    refine wl (Xh y3 n0 a0) (Acn x1 y1 y3 a0) hm1 (λ z1 hn1 => ?_) λ n1 a1 z1 w1b hi1 hx1 h hb1 hr1 => ?_
    ·clear hm1
     exact wx w1 (Afg y3 n0) (Agi x1 y1 y3) M7 26 [false] [] [] 0 Ek _ hC [pq (A4 hl1)] hn1
    ·unfold Y3 at h
     obtain ⟨y5, h6, y7, h8, y9, h10, y11, h12, h⟩ := Cv h
     obtain ⟨y13, h14, y15, h16, y17, h18, y19, h20, h⟩ := Cv h
     exact wx w1b (Xh y3 n0 a0 (n1 + 1)) (Acn x1 y1 y3 a0 (n1 + 1)) M7 33 [true] [pt hx1 hl1, pr pI h6, pr q87 h8, pr pI h10, pr q87 h12, pr q87 h14, pu q87 h14 h16, pr q87 h18, pu q87 h18 h20] [] 0 Ej _ hC [pq (A1 hi1 hl1)] (sI h).symm
   ·have h := hnext1 _ hs1
    exact wx w0b (Xi y3 (n0 + 1)) (Aco x1 y1 y3 (n0 + 1)) M7 23 [] [] [] 0 Ek _ hC [] (sI h).symm
 ·have h := hnext0 _ hs0
  replace h := sI h
  subst h
  exact wr M7 23 [] [] [] 0 [1, 2, 3, 4] hC []
theorem A0q : EN 152 := en Tryz.func152
def Ev : List Nat := [0, 1, 2, 3, 4, 5, 6, 7, 8, 9, 10, 12, 13, 15, 16, 17, 19, 21, 26, 35, 36, 37, 38, 56, 57, 58, 59, 85, 120, 121, 122, 123, 142, 145, 146, 147, 148, 155]
def vV (y8 : (List Aj)) (n0 : Nat) (z0 : Sg0) : St := [(2, dO 0 0), (3, dO 1 0), (4, dO 2 0), (5, .d (DS q47 [])), (6, dI 0), (8, dO 11 0), (9, dS 14), (10, dS 12), (35, dS 13), (36, dI (ln y8)), (37, dI (cnt 0 n0))]
def Ajb (x0 : Aa) (x1 : Ab) (y4 : Ab) (y6 : (List Int)) (y8 : (List Aj)) (n0 : Nat) (z0 : Sg0) : List Res := (.box 29 (d29 x0) :: .box 34 (d34 x1) :: .box 34 [.os 3, .os 4, .os 5, .os 6] :: ze [v1_ z0.1, v4_ y4.Ac, v0_ z0.2.1, v3_ y4.Ak, .box 34 [.os 7, .os 8, .os 9, .os 10], v0_ y6, v5_ y8, v2_ z0.2.2])
def Alr  (z0 : Sg0) : St := [(4, dO 0 0), (5, .d (DS q47 [])), (6, dI 0), (8, dO 9 0), (9, dS 10)]
def Ao1 (y4 : Ab) (z0 : Sg0) : List Res := (.box 34 [.os 1, .os 2, .os 3, .os 4] :: ze [v1_ z0.1, v4_ y4.Ac, v0_ z0.2.1, v3_ y4.Ak, .box 34 [.os 5, .os 6, .os 7, .os 8], v2_ z0.2.2])
def Un (y6 : (List Int)) (y8 : (List Aj)) (n0 : Nat) (n1 : Nat) (z1 : Int × (List Int) × (List An)) : St := [(2, dO 0 0), (3, dO 1 0), (4, dO 2 0), (5, .d (DS q47 [])), (6, dI 0), (8, dO 11 0), (9, dS 14), (10, dS 12), (12, dO 15 0), (13, dI z1.1), (35, dS 13), (36, dI (ln y8)), (37, dI (cnt 0 n0)), (56, dS 12), (57, dI (ln y6)), (58, dI (cnt 0 n1))]
def uQ (x0 : Aa) (x1 : Ab) (y4 : Ab) (y6 : (List Int)) (y8 : (List Aj)) (z0 : Sg0) (a0 : Aj) (n1 : Nat) (z1 : Int × (List Int) × (List An)) : List Res := (.box 29 (d29 x0) :: .box 34 (d34 x1) :: .box 34 [.os 3, .os 4, .os 5, .os 6] :: ze [v1_ z0.1, v4_ y4.Ac, v0_ z1.2.1, v3_ y4.Ak, .box 34 [.os 7, .os 8, .os 9, .os 10], v0_ y6, v5_ y8, v2_ z1.2.2, .box 62 (d62 a0)])
def Alq (y8 : (List Aj)) (n0 : Nat) (z1 : Int × (List Int) × (List An)) : St := [(2, dO 0 0), (3, dO 1 0), (4, dO 2 0), (5, .d (DS q47 [])), (6, dI 0), (8, dO 11 0), (9, dS 14), (10, dS 12), (12, dO 15 0), (13, dI z1.1), (35, dS 13), (36, dI (ln y8)), (37, dI (cnt 0 n0))]
def Ao0 (x0 : Aa) (x1 : Ab) (y4 : Ab) (y6 : (List Int)) (y8 : (List Aj)) (z0 : Sg0) (a0 : Aj) (z1 : Int × (List Int) × (List An)) : List Res := (.box 29 (d29 x0) :: .box 34 (d34 x1) :: .box 34 [.os 3, .os 4, .os 5, .os 6] :: ze [v1_ z0.1, v4_ y4.Ac, v0_ z1.2.1, v3_ y4.Ak, .box 34 [.os 7, .os 8, .os 9, .os 10], v0_ y6, v5_ y8, v2_ z1.2.2, .box 62 (d62 a0)])
def Um (y6 : (List Int)) (y8 : (List Aj)) (n0 : Nat) (n2 : Nat) (z2 : Int × (List Bool) × (List An)) : St := [(2, dO 0 0), (3, dO 1 0), (4, dO 2 0), (5, .d (DS q47 [])), (6, dI 0), (8, dO 11 0), (9, dS 14), (10, dS 12), (12, dO 15 0), (13, dI z2.1), (35, dS 13), (36, dI (ln y8)), (37, dI (cnt 0 n0)), (120, dS 12), (121, dI (ln y6)), (122, dI (cnt 0 n2))]
def uP (x0 : Aa) (x1 : Ab) (y4 : Ab) (y6 : (List Int)) (y8 : (List Aj)) (a0 : Aj) (z1 : Int × (List Int) × (List An)) (n2 : Nat) (z2 : Int × (List Bool) × (List An)) : List Res := (.box 29 (d29 x0) :: .box 34 (d34 x1) :: .box 34 [.os 3, .os 4, .os 5, .os 6] :: ze [v1_ z2.2.1, v4_ y4.Ac, v0_ z1.2.1, v3_ y4.Ak, .box 34 [.os 7, .os 8, .os 9, .os 10], v0_ y6, v5_ y8, v2_ z2.2.2, .box 62 (d62 a0)])
def Alp (y8 : (List Aj)) (n0 : Nat) (z2 : Int × (List Bool) × (List An)) : St := [(2, dO 0 0), (3, dO 1 0), (4, dO 2 0), (5, .d (DS q47 [])), (6, dI 0), (8, dO 11 0), (9, dS 14), (10, dS 12), (35, dS 13), (36, dI (ln y8)), (37, dI (cnt 0 n0))]
def Aoz (x0 : Aa) (x1 : Ab) (y4 : Ab) (y6 : (List Int)) (y8 : (List Aj)) (z1 : Int × (List Int) × (List An)) (z2 : Int × (List Bool) × (List An)) : List Res := (.box 29 (d29 x0) :: .box 34 (d34 x1) :: .box 34 [.os 3, .os 4, .os 5, .os 6] :: ze [v1_ z2.2.1, v4_ y4.Ac, v0_ z1.2.1, v3_ y4.Ak, .box 34 [.os 7, .os 8, .os 9, .os 10], v0_ y6, v5_ y8, v2_ z2.2.2])
def Ul (y6 : (List Int)) (y8 : (List Aj)) (n0 : Nat) (z2 : Int × (List Bool) × (List An)) (n2 : Nat) (a2 : Int) (y38 : (List Int)) (n3 : Nat) (z3 : (List Bool) × (List An)) : St := [(2, dO 0 0), (3, dO 1 0), (4, dO 2 0), (5, .d (DS q47 [])), (6, dI 0), (8, dO 11 0), (9, dS 14), (10, dS 12), (12, dO 15 0), (13, dI z2.1), (19, dI a2), (35, dS 13), (36, dI (ln y8)), (37, dI (cnt 0 n0)), (120, dS 12), (121, dI (ln y6)), (122, dI (cnt 0 n2)), (145, dS 16), (146, dI (ln y38)), (147, dI (cnt 0 n3))]
def uO (x0 : Aa) (x1 : Ab) (y4 : Ab) (y6 : (List Int)) (y8 : (List Aj)) (a0 : Aj) (z1 : Int × (List Int) × (List An)) (y38 : (List Int)) (n3 : Nat) (z3 : (List Bool) × (List An)) : List Res := (.box 29 (d29 x0) :: .box 34 (d34 x1) :: .box 34 [.os 3, .os 4, .os 5, .os 6] :: ze [v1_ z3.1, v4_ y4.Ac, v0_ z1.2.1, v3_ y4.Ak, .box 34 [.os 7, .os 8, .os 9, .os 10], v0_ y6, v5_ y8, v2_ z3.2, .box 62 (d62 a0), v0_ y38])
def Alo (y6 : (List Int)) (y8 : (List Aj)) (n0 : Nat) (z2 : Int × (List Bool) × (List An)) (n2 : Nat) (a2 : Int) (z3 : (List Bool) × (List An)) : St := [(2, dO 0 0), (3, dO 1 0), (4, dO 2 0), (5, .d (DS q47 [])), (6, dI 0), (8, dO 11 0), (9, dS 14), (10, dS 12), (12, dO 15 0), (13, dI z2.1), (19, dI a2), (35, dS 13), (36, dI (ln y8)), (37, dI (cnt 0 n0)), (120, dS 12), (121, dI (ln y6)), (122, dI (cnt 0 n2))]
def Aoy (x0 : Aa) (x1 : Ab) (y4 : Ab) (y6 : (List Int)) (y8 : (List Aj)) (a0 : Aj) (z1 : Int × (List Int) × (List An)) (z3 : (List Bool) × (List An)) : List Res := (.box 29 (d29 x0) :: .box 34 (d34 x1) :: .box 34 [.os 3, .os 4, .os 5, .os 6] :: ze [v1_ z3.1, v4_ y4.Ac, v0_ z1.2.1, v3_ y4.Ak, .box 34 [.os 7, .os 8, .os 9, .os 10], v0_ y6, v5_ y8, v2_ z3.2, .box 62 (d62 a0)])
set_option maxHeartbeats 4000000 in
theorem k67 (x0 : Aa) (x1 : Ab) (r : Ab × (List An) × Int) (h : F67 x0 x1 = some r) : CO 67 [.agg (d29 x0), .agg (d34 x1)] [] (.tup [.agg [.os 0, .os 1, .os 2, .os 3], .d (.os 4), .d (I r.2.2)]) (zp r.1 [v2_ r.2.1]) := by
 unfold F67 at h
 refine co 177 Tryz.func67 λ C hC => ?_
 obtain ⟨y1, h2, h⟩ := Au h
 refine wn Ev 28 [] [pc e11 (k11 x0 x1 _ h2) []] [.ownb 2 0 4 1, .ownb 2 1 87 4, .ownb 2 2 3 1, .ownb 2 3 92 2] 0 n7_ [2, 3, 4, 5, 6, 7, 26] hC [] ?_
 rcases cB h with ⟨h3, h⟩ | ⟨h3, h⟩
 ·replace h := sI h
  subst h
  exact wr Ev 24 [true] [] [.ownb 2 0 4 1, .ownb 2 1 87 4, .ownb 2 2 3 1, .ownb 2 3 92 2, .own 5 47 3] 0 [7, 8, 9, 10, 11] hC [pq h3]
 ·obtain ⟨y4, h5, y6, h7, y8, h9, h⟩ := Bi h
  refine ws Ev 32 [false] [pc Ars (Ard x1 _ h5) [], pc e12 (k12 x0 _ h7) [], pc e21 (k21 x0 x1 _ h9) [], pl q62 y8] [.own 9 47 3] 0 C8 (vV y8 0 (y4.Ah, y4.As, ([] : List An))) (Ajb x0 x1 y4 y6 y8 0 (y4.Ah, y4.As, ([] : List An))) hC [pq h3] ?_
  obtain ⟨w0, hm0, hret0, hnext0⟩ := Aq h
  clear h
  refine wc w0 (Alr) (Ao1 y4) ?_ λ z0 hs0 => ?_
  ·refine wb ?_
   refine Bk 35 13 rfl rfl λ hl0 => ?_
   refine wl (vV y8) (Ajb x0 x1 y4 y6 y8) hm0 (λ z0 hn0 => ?_) λ n0 a0 z0 w0b hi0 hx0 h hb0 hr0 => ?_
   ·clear hm0
    exact wx w0 (Alr) (Ao1 y4) Ev 26 [false] [] [] 0 [2, 3, 4, 5, 6, 7, 8, 9, 10, 11, 14] _ hC [pq (A4 hl0)] hn0
   ·unfold Adb at h
    obtain ⟨y10, h11, y12, h13, y14, h15, y16, h17, h⟩ := Cv h
    refine ws Ev 35 [true] [pr q62 (A8 hx0 hl0), pn q62 (A8 hx0 hl0), pr pI h11, pc e17 (k17 x0 x1 y10 _ h13) [], pr pI h15, pc e18 (k18 x0 x1 y14 _ h17) [], pl pI y6] [] 0 G2 (Un y6 y8 n0 0 (w64 (y12 - y16), z0.2.1, z0.2.2)) (uQ x0 x1 y4 y6 y8 z0 a0 0 (w64 (y12 - y16), z0.2.1, z0.2.2)) hC [pq (A1 hi0 hl0)] ?_
    obtain ⟨w1, hm1, hret1, hnext1⟩ := Aq h
    clear h
    refine wc w1 (Alq y8 n0) (Ao0 x0 x1 y4 y6 y8 z0 a0) ?_ λ z1 hs1 => ?_
    ·refine wb ?_
     refine Bk 56 12 rfl rfl λ hl1 => ?_
     refine wl (Un y6 y8 n0) (uQ x0 x1 y4 y6 y8 z0 a0) hm1 (λ z1 hn1 => ?_) λ n1 a1 z1 w1b hi1 hx1 h hb1 hr1 => ?_
     ·clear hm1
      exact wx w1 (Alq y8 n0) (Ao0 x0 x1 y4 y6 y8 z0 a0) Ev 26 [false] [] [] 0 G2 _ hC [pq (A4 hl1)] hn1
     ·unfold Ada at h
      obtain ⟨y18, h19, y20, h21, y22, h23, h⟩ := Bi h
      refine wn Ev 35 [true] [pr pI (A8 hx1 hl1), pn pI (A8 hx1 hl1), pr q90 h19, pw e53 (λ hg => k53 a0.Ai a1 _ (A0 h21 hg)) [], pR pI h23, pN pI h23] [] 0 G2 [2, 3, 4, 5, 6, 8, 9, 10, 12, 13, 15, 16, 35, 36, 37, 56, 57, 58, 85] hC [pq (A1 hi1 hl1)] ?_
      rcases cB h with ⟨h24, h⟩ | ⟨h24, h⟩
      ·exact wx w1b (Un y6 y8 n0 (n1 + 1)) (uQ x0 x1 y4 y6 y8 z0 a0 (n1 + 1)) Ev 24 [true] [] [] 0 G2 _ hC [pq h24] (sI h).symm
      ·obtain ⟨y25, h26, y27, h28, y29, h30, y31, h32, h⟩ := Cv h
       exact wx w1b (Un y6 y8 n0 (n1 + 1)) (uQ x0 x1 y4 y6 y8 z0 a0 (n1 + 1)) Ev 30 [false] [pr pI h26, pn pI h26, pr pI h26, pn pI h26, pr pI h26, pu pI h26 h28, pr pI h30, pn pI h30, pa q47 3 h32] [] 0 [0, 1, 2, 3, 4, 5, 6, 7, 8, 9, 10, 11, 12, 13, 16, 15] _ hC [pq h24] (sI h).symm
    ·have h := hnext1 _ hs1
     refine ws Ev 23 [] [pl pI y6] [] 0 G2 (Um y6 y8 n0 0 (z1.1, z0.1, z1.2.2)) (uP x0 x1 y4 y6 y8 a0 z1 0 (z1.1, z0.1, z1.2.2)) hC [] ?_
     obtain ⟨w2, hm2, hret2, hnext2⟩ := Aq h
     clear h
     refine wc w2 (Alp y8 n0) (Aoz x0 x1 y4 y6 y8 z1) ?_ λ z2 hs2 => ?_
     ·refine wb ?_
      refine Bk 120 12 rfl rfl λ hl2 => ?_
      refine wl (Um y6 y8 n0) (uP x0 x1 y4 y6 y8 a0 z1) hm2 (λ z2 hn2 => ?_) λ n2 a2 z2 w2b hi2 hx2 h hb2 hr2 => ?_
      ·clear hm2
       exact wx w2 (Alp y8 n0) (Aoz x0 x1 y4 y6 y8 z1) Ev 26 [false] [] [] 0 C8 _ hC [pq (A4 hl2)] hn2
      ·unfold Ac9 at h
       obtain ⟨y33, h34, y35, h36, h⟩ := A6 h
       refine wn Ev 33 [true] [pr pI (A8 hx2 hl2), pn pI (A8 hx2 hl2), pw e53 (λ hg => k53 a0.Ai a2 _ (A0 h34 hg)) [], pR pI h36, pN pI h36] [] 0 G2 [2, 3, 4, 5, 6, 8, 9, 10, 12, 13, 19, 35, 36, 37, 120, 121, 122, 142] hC [pq (A1 hi2 hl2)] ?_
       rcases cB h with ⟨h37, h⟩ | ⟨h37, h⟩
       ·exact wx w2b (Um y6 y8 n0 (n2 + 1)) (uP x0 x1 y4 y6 y8 a0 z1 (n2 + 1)) Ev 24 [true] [] [] 0 G2 _ hC [pq h37] (sI h).symm
       ·obtain ⟨y38, h39, h⟩ := Au h
        refine ws Ev 26 [false] [pc e16 (k16 x0 3 a2 _ h39) [], pl pI y38] [] 0 Ahn (Ul y6 y8 n0 z2 n2 a2 y38 0 (z2.2.1, z2.2.2)) (uO x0 x1 y4 y6 y8 a0 z1 y38 0 (z2.2.1, z2.2.2)) hC [pq h37] ?_
        obtain ⟨w3, hm3, hret3, hnext3⟩ := Aq h
        clear h
        refine wc w3 (Alo y6 y8 n0 z2 n2 a2) (Aoy x0 x1 y4 y6 y8 a0 z1) ?_ λ z3 hs3 => ?_
        ·refine wb ?_
         refine Bk 145 16 rfl rfl λ hl3 => ?_
         refine wl (Ul y6 y8 n0 z2 n2 a2 y38) (uO x0 x1 y4 y6 y8 a0 z1 y38) hm3 (λ z3 hn3 => ?_) λ n3 a3 z3 w3b hi3 hx3 h hb3 hr3 => ?_
         ·clear hm3
          exact wx w3 (Alo y6 y8 n0 z2 n2 a2) (Aoy x0 x1 y4 y6 y8 a0 z1) Ev 26 [false] [] [] 0 G2 _ hC [pq (A4 hl3)] hn3
         ·unfold Ac8 at h
          obtain ⟨y40, h41, h⟩ := Au h
          refine wn Ev 32 [true] [pr pI (A8 hx3 hl3), pn pI (A8 hx3 hl3), pr pB h41, pn pB h41] [] 0 Ahn [2, 3, 4, 5, 6, 8, 9, 10, 12, 13, 19, 21, 35, 36, 37, 120, 121, 122, 145, 146, 147, 155] hC [pq (A1 hi3 hl3)] ?_
          rcases cB h with ⟨h42, h⟩ | ⟨h42, h⟩
          ·obtain ⟨y43, h44, y45, h46, h⟩ := A6 h
           exact wx w3b (Ul y6 y8 n0 z2 n2 a2 y38 (n3 + 1)) (uO x0 x1 y4 y6 y8 a0 z1 y38 (n3 + 1)) Ev 27 [true] [pr pB h41, pu pB h41 h44, pa q47 3 h46] [] 0 [0, 1, 2, 3, 4, 5, 6, 7, 8, 9, 10, 11, 12, 13, 17, 15, 16] _ hC [pq h42] (sI h).symm
          ·exact wx w3b (Ul y6 y8 n0 z2 n2 a2 y38 (n3 + 1)) (uO x0 x1 y4 y6 y8 a0 z1 y38 (n3 + 1)) Ev 25 [false] [] [] 0 Ahn _ hC [pq h42] (sI h).symm
        ·have h := hnext3 _ hs3
         obtain ⟨y47, h48, h⟩ := Au h
         exact wx w2b (Um y6 y8 n0 (n2 + 1)) (uP x0 x1 y4 y6 y8 a0 z1 (n2 + 1)) Ev 24 [] [pr pI h48, pn pI h48] [] 0 G2 _ hC [] (sI h).symm
     ·have h := hnext2 _ hs2
      exact wx w0b (vV y8 (n0 + 1)) (Ajb x0 x1 y4 y6 y8 (n0 + 1)) Ev 23 [] [] [] 0 C8 _ hC [] (sI h).symm
  ·have h := hnext0 _ hs0
   replace h := sI h
   subst h
   exact wr Ev 23 [] [] [] 0 [5, 6, 7, 8, 10] hC []
theorem e67 : EN 67 := en Tryz.func67
def Q4 : List Nat := [0, 1, 2, 3, 4, 6, 7, 9, 12, 13, 14, 15, 21]
def Xm (x2 : Int) (y1 : (List Aj)) (n0 : Nat) (z0 : Unit) : St := [(2, dI x2), (6, dO 0 0), (7, dB false), (12, dS 1), (13, dI (ln y1)), (14, dI (cnt 0 n0))]
def Acs (y1 : (List Aj)) (n0 : Nat) (z0 : Unit) : List Res := [.box 62 [.os 2, .os 3, .os 4], v5_ y1, v0_ ([] : List Int), v0_ ([] : List Int), v0_ ([] : List Int)]
def Afp  (z0 : Unit) : St := [(6, dO 0 0), (7, dB false)]
def Agr  (z0 : Unit) : List Res := [.box 62 [.os 1, .os 2, .os 3], v0_ ([] : List Int), v0_ ([] : List Int), v0_ ([] : List Int)]
theorem X4 (x0 : Aa) (x1 : Ab) (x2 : Int) (r : Aj × Bool) (h : Hv x0 x1 x2 = some r) : CO 105 [.agg (d29 x0), .agg (d34 x1), .d (I x2)] [] (.tup [.agg (d62 r.1), .d (Bo r.2)]) [] := by
 unfold Hv at h
 refine co 25 Tryz.func105 λ C hC => ?_
 obtain ⟨y1, h2, h⟩ := Au h
 refine ws Q4 26 [] [pc Arr (Arc x0 x1 _ h2) [], pl q62 y1] [.ownb 2 0 3 1, .ownb 2 1 3 1, .ownb 2 2 3 1] 0 [2, 3, 4, 5, 6] (Xm x2 y1 0 ()) (Acs y1 0 ()) hC [] ?_
 obtain ⟨w0, hm0, hret0, hnext0⟩ := Aq h
 clear h
 refine wc w0 (Afp) (Agr) ?_ λ z0 hs0 => ?_
 ·refine wb ?_
  refine Bk 12 1 rfl rfl λ hl0 => ?_
  refine wl (Xm x2 y1) (Acs y1) hm0 (λ z0 hn0 => ?_) λ n0 a0 z0 w0b hi0 hx0 h hb0 hr0 => ?_
  ·clear hm0
   exact wx w0 (Afp) (Agr) Q4 26 [false] [] [] 0 [0, 2, 3, 4] _ hC [pq (A4 hl0)] hn0
  ·unfold J4 at h
   obtain ⟨y3, h4, h⟩ := Au h
   refine wn Q4 32 [true] [pr q62 (A8 hx0 hl0), pn q62 (A8 hx0 hl0), pc e59 (k59 a0.Ao x2 _ h4) []] [] 0 n6_ [2, 6, 7, 9, 12, 13, 14, 21] hC [pq (A1 hi0 hl0)] ?_
   rcases cB h with ⟨h5, h⟩ | ⟨h5, h⟩
   ·have hq := hret0 _ (hr0 _ (sI h).symm)
    replace hq := sI hq
    subst hq
    exact wr Q4 24 [true] [] [] 0 [] hC [pq h5]
   ·exact wx w0b (Xm x2 y1 (n0 + 1)) (Acs y1 (n0 + 1)) Q4 25 [false] [] [] 0 n5_ _ hC [pq h5] (sI h).symm
 ·have h := hnext0 _ hs0
  replace h := sI h
  subst h
  exact wr Q4 23 [] [] [.ownb 0 0 3 1, .frz 4, .ownb 0 1 3 1, .frz 5, .ownb 0 2 3 1, .frz 6] 0 [] hC []
theorem Yd : EN 105 := en Tryz.func105
def K7 : List Nat := [0, 1, 2, 3, 4, 5, 6, 7, 9, 14, 21, 22, 23, 24, 30]
def Qt (y6 : (List Aj)) (n0 : Nat) (z0 : (List Ae)) : St := [(3, dO 0 0), (4, dO 1 0), (5, dI 0), (7, dO 10 0), (21, dS 11), (22, dI (ln y6)), (23, dI (cnt 0 n0))]
def Wl (x1 : Ab) (y4 : Ab) (y6 : (List Aj)) (n0 : Nat) (z0 : (List Ae)) : List Res := (.box 34 (d34 x1) :: .box 34 [.os 2, .os 3, .os 4, .os 5] :: ze [v1_ y4.Ah, v4_ z0, v0_ y4.As, v3_ y4.Ak, .box 34 [.os 6, .os 7, .os 8, .os 9], v5_ y6])
def Afn  (z0 : (List Ae)) : St := [(4, dO 0 0), (5, dI 0), (7, dO 9 0)]
def Agp (y4 : Ab) (z0 : (List Ae)) : List Res := (.box 34 [.os 1, .os 2, .os 3, .os 4] :: ze [v1_ y4.Ah, v4_ z0, v0_ y4.As, v3_ y4.Ak, .box 34 [.os 5, .os 6, .os 7, .os 8]])
theorem Av0 (x0 : Aa) (x1 : Ab) (r : Ab × Int) (h : Za x0 x1 = some r) : CO 123 [.agg (d29 x0), .agg (d34 x1)] [] (.tup [.agg [.os 0, .os 1, .os 2, .os 3], .d (I r.2)]) (zp r.1 []) := by
 unfold Za at h
 refine co 45 Tryz.func123 λ C hC => ?_
 obtain ⟨y1, h2, h⟩ := Au h
 refine wn K7 28 [] [pc e44 (k44 x0 x1 _ h2) []] [.ownb 2 0 4 1, .ownb 2 1 87 4, .ownb 2 2 3 1, .ownb 2 3 92 2] 0 n7_ [2, 3, 4, 5, 6, 14] hC [] ?_
 rcases cB h with ⟨h3, h⟩ | ⟨h3, h⟩
 ·replace h := sI h
  subst h
  exact wr K7 24 [true] [] [.ownb 2 0 4 1, .ownb 2 1 87 4, .ownb 2 2 3 1, .ownb 2 3 92 2] 0 [7, 8, 9, 10] hC [pq h3]
 ·obtain ⟨y4, h5, y6, h7, h⟩ := A6 h
  refine ws K7 28 [false] [pc e35 (k35 x1 _ h5) [], pc Arr (Arc x0 x1 _ h7) [], pl q62 y6] [] 0 [1, 2, 3, 4, 5, 6, 7, 8, 9, 10, 11, 12] (Qt y6 0 y4.Ac) (Wl x1 y4 y6 0 y4.Ac) hC [pq h3] ?_
  obtain ⟨w0, hm0, hret0, hnext0⟩ := Aq h
  clear h
  refine wc w0 (Afn) (Agp y4) ?_ λ z0 hs0 => ?_
  ·refine wb ?_
   refine Bk 21 11 rfl rfl λ hl0 => ?_
   refine wl (Qt y6) (Wl x1 y4 y6) hm0 (λ z0 hn0 => ?_) λ n0 a0 z0 w0b hi0 hx0 h hb0 hr0 => ?_
   ·clear hm0
    exact wx w0 (Afn) (Agp y4) K7 26 [false] [] [] 0 [1, 2, 3, 4, 5, 6, 7, 8, 9, 10] _ hC [pq (A4 hl0)] hn0
   ·unfold Y_ at h
    refine wn K7 32 [true] [pr q62 (A8 hx0 hl0), pn q62 (A8 hx0 hl0), pl pI a0.Ac] [] 0 Ej [3, 4, 5, 7, 9, 21, 22, 23, 30] hC [pq (A1 hi0 hl0)] ?_
    rcases cB h with ⟨h8, h⟩ | ⟨h8, h⟩
    ·obtain ⟨y9, h10, y11, h12, y13, h14, h⟩ := Bi h
     exact wx w0b (Qt y6 (n0 + 1)) (Wl x1 y4 y6 (n0 + 1)) K7 25 [true] [pr pI h10, pr q87 h12, pc Abh (Aaq (⟨y4.Ah, z0, y4.As, y4.Ak⟩ : Ab) a0.Ac y11 _ h14) [6, 7, 8, 9]] [] 0 Ek _ hC [pq h8] (sI h).symm
    ·exact wx w0b (Qt y6 (n0 + 1)) (Wl x1 y4 y6 (n0 + 1)) K7 25 [false] [] [] 0 Ek _ hC [pq h8] (sI h).symm
  ·have h := hnext0 _ hs0
   replace h := sI h
   subst h
   exact wr K7 23 [] [] [] 0 [5, 6, 7, 8] hC []
theorem Aw3 : EN 123 := en Tryz.func123
def Pi : List Nat := [0, 2, 4, 5, 19, 20, 21, 22, 32]
def Sg (x0 : A2) (y3 : (List Aj)) (n0 : Nat) (z0 : Unit) : St := [(0, .d (.ip [.v (.int .i64 x0.Am.Ao), .s (x0.Am.Ad.map q49), .s (x0.Am.Ac.map q98), .s (x0.Am.Ai.map q90), .v (.int .i64 x0.Am.Phase), .v (.int .i64 x0.Am.Ar), .s (x0.Ap.Ah.map pB), .s (x0.Ap.Ac.map q87), .s (x0.Ap.As.map pI), .s (x0.Ap.Ak.map q92), .s (x0.acts.map q47)])), (2, dS 0), (19, dS 1), (20, dI (ln y3)), (21, dI (cnt 0 n0))]
def Ym (y1 : (List Int)) (y3 : (List Aj)) (n0 : Nat) (z0 : Unit) : List Res := [v0_ y1, v5_ y3]
def yS  (z0 : Unit) : St := []
def Abx  (z0 : Unit) : List Res := []
theorem Aye (x0 : A2) (r : Unit) (h : Ajy x0 = some r) : CO 71 [.d (.ip [.v (.int .i64 x0.Am.Ao), .s (x0.Am.Ad.map q49), .s (x0.Am.Ac.map q98), .s (x0.Am.Ai.map q90), .v (.int .i64 x0.Am.Phase), .v (.int .i64 x0.Am.Ar), .s (x0.Ap.Ah.map pB), .s (x0.Ap.Ac.map q87), .s (x0.Ap.As.map pI), .s (x0.Ap.Ak.map q92), .s (x0.acts.map q47)])] [] (.tup []) [] := by
 unfold Ajy at h
 refine co 48 Tryz.func71 λ C hC => ?_
 obtain ⟨y1, h2, y3, h4, h⟩ := A6 h
 refine ws Pi 25 [] [pc e85 (k85 x0.Am _ h2) [], pc Arr (Arc x0.Am x0.Ap _ h4) [], pl q62 y3] [] 0 [0, 1] (Sg x0 y3 0 ()) (Ym y1 y3 0 ()) hC [] ?_
 obtain ⟨w0, hm0, hret0, hnext0⟩ := Aq h
 clear h
 refine wc w0 (yS) (Abx) ?_ λ z0 hs0 => ?_
 ·refine wb ?_
  refine Bk 19 1 rfl rfl λ hl0 => ?_
  refine wl (Sg x0 y3) (Ym y1 y3) hm0 (λ z0 hn0 => ?_) λ n0 a0 z0 w0b hi0 hx0 h hb0 hr0 => ?_
  ·clear hm0
   exact wx w0 (yS) (Abx) Pi 26 [false] [] [] 0 [] _ hC [pq (A4 hl0)] hn0
  ·unfold Ac7 at h
   obtain ⟨y5, h6, y7, h8, h⟩ := A6 h
   refine wn Pi 34 [true] [pr q62 (A8 hx0 hl0), pn q62 (A8 hx0 hl0), ⟨.call 80 [dS 0] [v0_ y1] (dS 1) [v0_ y1, v0_ y5] [0], ⟨e80, ((k80 y1 _ h6).lend (by kernel_rfl) (by kernel_rfl) (by kernel_rfl) ⟨A_ (λ _ => rfl), trivial⟩ (by kernel_rfl) (by kernel_rfl))⟩⟩, pc Aw2 (Avz y5 a0 _ h8) [3, 2], pl pI y7.2.Ac] [] 0 [0, 1, 2, 4] [0, 2, 4, 5, 19, 20, 21, 32] hC [pq (A1 hi0 hl0)] ?_
   rcases cB h with ⟨h9, h⟩ | ⟨h9, h⟩
   ·cases h
   ·exact wx w0b (Sg x0 y3 (n0 + 1)) (Ym y1 y3 (n0 + 1)) Pi 25 [false] [] [] 0 [0, 1] _ hC [pq h9] (sI h).symm
 ·have h := hnext0 _ hs0
  replace h := sI h
  subst h
  exact wf Pi 20 [] [] [] 0 [] hC []
theorem Ayu : EN 71 := en Tryz.func71
def Ve : List Nat := [0, 1, 2, 3, 4, 6, 7, 9, 30, 32, 33, 40]
theorem Azw (x0 : Aa) (x1 : Ab) (x2 : Int) (r : Bool) (h : T3 x0 x1 x2 = some r) : CO 169 [.agg (d29 x0), .agg (d34 x1), .d (I x2)] [] (.d (Bo r)) [] := by
 unfold T3 at h
 refine co 74 Tryz.func169 λ C hC => ?_
 obtain ⟨y1, h2, y3, h4, y5, h6, y7, h8, h⟩ := Cv h
 refine wn Ve 28 [] [pr q49 h2, pr pB h4, pw e76 (λ hg => k76 x1 2 x2 _ (A0 h6 hg)) [], pw e76 (λ hg => k76 x1 3 y1.A _ (A0 h8 hg)) []] [] 0 n3_ [3, 4, 6, 7, 30] hC [] ?_
 rcases cB h with ⟨h9, h⟩ | ⟨h9, h⟩
 ·replace h := sI h
  subst h
  exact wr Ve 24 [true] [] [] 0 [] hC [pq h9]
 ·rcases cB h with ⟨h10, h⟩ | ⟨h10, h⟩
  ·obtain ⟨y11, h12, h⟩ := Au h
   replace h := sI h
   subst h
   exact wr Ve 32 [false, true] [pc e76 (k76 x1 3 y1.B _ h12) []] [] 0 [] hC [pq h9, pq h10]
  ·rcases cB h with ⟨h13, h⟩ | ⟨h13, h⟩
   ·obtain ⟨y14, h15, y16, h17, h⟩ := A6 h
    replace h := sI h
    subst h
    exact wr Ve 35 [false, false, true] [pc e76 (k76 x1 1 y1.B _ h15) [], pR q87 h17] [] 0 [] hC [pq h9, pq h10, pq h13]
   ·obtain ⟨y18, h19, y20, h21, h⟩ := A6 h
    replace h := sI h
    subst h
    exact wr Ve 39 [false, false, false] [pc e86 (k86 x0 x1 y1.B _ h19) [], pc e76 (k76 x1 4 y1.B _ h21) []] [] 0 [] hC [pq h9, pq h10, pq h13]
theorem A0m : EN 169 := en Tryz.func169
def J2 : List Nat := [0, 2, 3, 24, 25, 26, 66]
def Kx (y1 : Ab × Int) (z0 : Int × (List Ae)) : St := [(0, dO 0 0), (24, dI (ln y1.1.Ac)), (25, dI z0.1)]
def N0 (x0 : Az) (y1 : Ab × Int) (z0 : Int × (List Ae)) : List Res := (.box 107 (zb x0.Am [.os 5, .os 6, .os 7, .os 8, I x0.time]) :: zp x0.Ap [v1_ y1.1.Ah, v4_ z0.2, v0_ y1.1.As, v3_ y1.1.Ak])
def Z4  (z0 : Int × (List Ae)) : St := []
def qF (x0 : Az) (y1 : Ab × Int) (z0 : Int × (List Ae)) : List Res := (.box 107 (zb x0.Am [.os 5, .os 6, .os 7, .os 8, I x0.time]) :: zp x0.Ap [v1_ y1.1.Ah, v4_ z0.2, v0_ y1.1.As, v3_ y1.1.Ak])
theorem Av6 (x0 : Az) (r : Az) (h : I9 x0 = some r) : CO 115 [.d (.o 0 0)] (.box 107 (zb x0.Am [.os 1, .os 2, .os 3, .os 4, I x0.time]) :: zp x0.Ap []) (.tup []) (.box 107 (zb r.Am [.os 5, .os 6, .os 7, .os 8, I r.time]) :: .non :: .non :: .non :: .non :: zp r.Ap []) := by
 unfold I9 at h
 refine co 71 Tryz.func115 λ C hC => ?_
 obtain ⟨y1, h2, h⟩ := Au h
 refine ws J2 25 [] [⟨.call 147 [.agg (d29 x0.Am), .agg [.os 0, .os 1, .os 2, .os 3]] (zp x0.Ap []) (.tup [.agg [.os 4, .os 5, .os 6, .os 7], dI y1.2]) (zp x0.Ap (zp y1.1 [])) [1, 2, 3, 4], ⟨A0r, ((Az1 x0.Am x0.Ap _ h2).lend (by kernel_rfl) (by kernel_rfl) (by kernel_rfl) ⟨A_ (λ _ => rfl), A_ (λ _ => rfl), A_ (λ _ => rfl), A_ (λ _ => rfl), trivial⟩ (by kernel_rfl) (by kernel_rfl))⟩⟩, pl q87 y1.1.Ac] [] 5 n9_ (Kx y1 (0, y1.1.Ac)) (N0 x0 y1 (0, y1.1.Ac)) hC [] ?_
 obtain ⟨w0, hm0, hret0, hnext0⟩ := Aq h
 clear h
 refine wc w0 (Z4) (qF x0 y1) ?_ λ z0 hs0 => ?_
 ·refine wb ?_
  refine ww (Kx y1) (N0 x0 y1) hm0 λ z0 w0b h hb0 hr0 => ?_
  unfold Lh at h
  rcases cB h with ⟨h3, h⟩ | ⟨h3, h⟩
  ·obtain ⟨y4, h5, y6, h7, y8, h9, h⟩ := Bi h
   refine wn J2 34 [true] [pr q87 h5, pn q87 h5, pv Abg (λ hg => Aap (⟨x0.Am, (⟨y1.1.Ah, z0.2, y1.1.As, y1.1.Ak⟩ : Ab), x0.time⟩ : Az) z0.1 _ (A0 h7 hg)), ⟨.when [(((y4.State == 1) && y6), true)] (.row (z0.2.map q87) (((Int.toNat z0.1) : Nat) : Int) (q87 y4)), λ hg => Hz h5⟩, pR q98 h9] [] 5 n9_ [0, 3, 24, 25, 66] hC [pq h3] ?_
   rcases cB h with ⟨h10, h⟩ | ⟨h10, h⟩
   ·obtain ⟨y11, h12, h⟩ := Au h
    exact wx w0b (Kx y1) (N0 x0 y1) J2 25 [true] [pu q87 h5 h12] [] 5 n9_ _ hC [pq h10] (sI h).symm
   ·exact wx w0b (Kx y1) (N0 x0 y1) J2 25 [false] [] [] 5 n9_ _ hC [pq h10] (sI h).symm
  ·exact wx w0 (Z4) (qF x0 y1) J2 26 [false] [] [] 5 n9_ (z0.1, z0.2) hC [pq h3] (hb0 _ (sI h).symm)
 ·have h := hnext0 _ hs0
  replace h := sI h
  subst h
  exact wf J2 20 [] [] [.frz 1, .frz 2, .frz 3, .frz 4] 5 n9_ hC []
theorem Aw9 : EN 115 := en Tryz.func115
def Ahx : List Nat := [0, 1, 2, 3, 4, 5, 6, 11]
theorem Az8 (x0 : Aa) (x1 : Ab) (r : Ab × Int) (h : Zb x0 x1 = some r) : CO 119 [.agg (d29 x0), .agg (d34 x1)] [] (.tup [.agg [.os 0, .os 1, .os 2, .os 3], .d (I r.2)]) (zp r.1 []) := by
 unfold Zb at h
 refine co 17 Tryz.func119 λ C hC => ?_
 obtain ⟨y1, h2, h⟩ := Au h
 refine wn Ahx 28 [] [pc e11 (k11 x0 x1 _ h2) []] [.ownb 2 0 4 1, .ownb 2 1 87 4, .ownb 2 2 3 1, .ownb 2 3 92 2] 0 n7_ [2, 3, 4, 5, 6, 11] hC [] ?_
 rcases cB h with ⟨h3, h⟩ | ⟨h3, h⟩
 ·replace h := sI h
  subst h
  exact wr Ahx 24 [true] [] [.ownb 2 0 4 1, .ownb 2 1 87 4, .ownb 2 2 3 1, .ownb 2 3 92 2] 0 [7, 8, 9, 10] hC [pq h3]
 ·obtain ⟨y4, h5, h⟩ := Au h
  replace h := sI h
  subst h
  exact wr Ahx 25 [false] [pc A0q (Az0 x0 x1 _ h5) []] [] 0 [7, 8, 9, 10] hC [pq h3]
theorem A0y : EN 119 := en Tryz.func119
theorem k58 (x0 : Aa) (x1 : Ab) (x2 : Int) (r : Bool) (h : F58 x0 x1 x2 = some r) : CO 58 [.agg (d29 x0), .agg (d34 x1), .d (I x2)] [] (.d (Bo r)) [] := by
 unfold F58 at h
 refine co 20 Tryz.func58 λ C hC => ?_
 obtain ⟨y1, h2, h⟩ := Au h
 replace h := sI h
 subst h
 exact wr [0, 1, 2, 3, 4, 6, 7] 27 [] [pc Yd (X4 x0 x1 x2 _ h2) [], pl pI y1.1.Ac] [] 0 [] hC []
theorem e58 : EN 58 := en Tryz.func58
def Aac : List Nat := [0, 1, 2, 3, 4, 6, 7, 9, 11, 20, 21, 22, 23, 29]
def Uk (y1 : Aj × Bool) (n0 : Nat) (z0 : Int) : St := [(4, dO 0 0), (6, dI 0), (7, dO 1 0), (9, dI z0), (20, .d (DS pI y1.1.Ai)), (21, dI (ln y1.1.Ai)), (22, dI (cnt 0 n0))]
def uN (x1 : Ab) (y1 : Aj × Bool) (n0 : Nat) (z0 : Int) : List Res := [.box 34 (d34 x1), .box 62 (d62 y1.1)]
def Ale  (z0 : Int) : St := [(6, dI 0), (9, dI z0)]
def Aoo  (z0 : Int) : List Res := []
theorem k87 (x0 : Aa) (x1 : Ab) (x2 : Int) (r : Int) (h : F87 x0 x1 x2 = some r) : CO 87 [.agg (d29 x0), .agg (d34 x1), .d (I x2)] [] (.d (I r)) [] := by
 unfold F87 at h
 refine co 39 Tryz.func87 λ C hC => ?_
 obtain ⟨y1, h2, h⟩ := Au h
 refine ws Aac 30 [] [pc Yd (X4 x0 x1 x2 _ h2) [], pl pI y1.1.Ai] [] 0 [1, 2] (Uk y1 0 0) (uN x1 y1 0 0) hC [] ?_
 obtain ⟨w0, hm0, hret0, hnext0⟩ := Aq h
 clear h
 refine wc w0 (Ale) (Aoo) ?_ λ z0 hs0 => ?_
 ·refine wb ?_
  refine Bb 20 rfl λ hl0 => ?_
  refine wl (Uk y1) (uN x1 y1) hm0 (λ z0 hn0 => ?_) λ n0 a0 z0 w0b hi0 hx0 h hb0 hr0 => ?_
  ·clear hm0
   exact wx w0 (Ale) (Aoo) Aac 26 [false] [] [] 0 [] _ hC [pq (A4 hl0)] hn0
  ·unfold Ap2 at h
   rcases cB h with ⟨h3, h⟩ | ⟨h3, h⟩
   ·obtain ⟨y4, h5, h⟩ := Au h
    exact wx w0b (Uk y1 (n0 + 1)) (uN x1 y1 (n0 + 1)) Aac 36 [true, true] [pt hx0 hl0, pl pI y1.1.Ac, pr pI h5] [] 0 [0, 1] _ hC [pq (A1 hi0 hl0), pq h3] (sI h).symm
   ·exact wx w0b (Uk y1 (n0 + 1)) (uN x1 y1 (n0 + 1)) Aac 36 [true, false] [pt hx0 hl0, pl pI y1.1.Ac] [] 0 [0, 1] _ hC [pq (A1 hi0 hl0), pq h3] (sI h).symm
 ·have h := hnext0 _ hs0
  replace h := sI h
  subst h
  exact wr Aac 23 [] [] [] 0 [] hC []
theorem e87 : EN 87 := en Tryz.func87
def Aho : List Nat := [0, 1, 2, 3, 4, 6, 7, 9, 11, 20, 21, 22, 23]
def vP (y1 : Aj × Bool) (n0 : Nat) (z0 : Int) : St := [(3, dO 0 0), (6, dI 0), (9, dI z0), (20, .d (DS pI y1.1.Ac)), (21, dI (ln y1.1.Ac)), (22, dI (cnt 0 n0))]
def Ai5 (x0 : Aa) (n0 : Nat) (z0 : Int) : List Res := [.box 29 (d29 x0)]
def Ald  (z0 : Int) : St := [(6, dI 0), (9, dI z0)]
def Aon  (z0 : Int) : List Res := []
theorem k88 (x0 : Aa) (x1 : Ab) (x2 : Int) (r : Int) (h : F88 x0 x1 x2 = some r) : CO 88 [.agg (d29 x0), .agg (d34 x1), .d (I x2)] [] (.d (I r)) [] := by
 unfold F88 at h
 refine co 36 Tryz.func88 λ C hC => ?_
 obtain ⟨y1, h2, h⟩ := Au h
 refine ws Aho 30 [] [pc Yd (X4 x0 x1 x2 _ h2) [], pl pI y1.1.Ac] [] 0 [0] (vP y1 0 0) (Ai5 x0 0 0) hC [] ?_
 obtain ⟨w0, hm0, hret0, hnext0⟩ := Aq h
 clear h
 refine wc w0 (Ald) (Aon) ?_ λ z0 hs0 => ?_
 ·refine wb ?_
  refine Bb 20 rfl λ hl0 => ?_
  refine wl (vP y1) (Ai5 x0) hm0 (λ z0 hn0 => ?_) λ n0 a0 z0 w0b hi0 hx0 h hb0 hr0 => ?_
  ·clear hm0
   exact wx w0 (Ald) (Aon) Aho 26 [false] [] [] 0 [] _ hC [pq (A4 hl0)] hn0
  ·unfold Ap1 at h
   obtain ⟨y3, h4, h⟩ := Au h
   exact wx w0b (vP y1 (n0 + 1)) (Ai5 x0 (n0 + 1)) Aho 33 [true] [pt hx0 hl0, pr q98 h4] [] 0 [0] _ hC [pq (A1 hi0 hl0)] (sI h).symm
 ·have h := hnext0 _ hs0
  replace h := sI h
  subst h
  exact wr Aho 23 [] [] [] 0 [] hC []
theorem e88 : EN 88 := en Tryz.func88
def Ahw : List Nat := [0, 1, 2, 3, 4, 6, 7, 8, 20]
theorem Arb (x0 : Aa) (x1 : Ab) (x2 : Int) (r : Int × Bool) (h : T6 x0 x1 x2 = some r) : CO 143 [.agg (d29 x0), .agg (d34 x1), .d (I x2)] [] (.tup [.d (I r.1), .d (Bo r.2)]) [] := by
 unfold T6 at h
 refine co 25 Tryz.func143 λ C hC => ?_
 obtain ⟨y1, h2, h⟩ := Au h
 refine wn Ahw 28 [] [pc Yd (X4 x0 x1 x2 _ h2) [], pl pI y1.1.Ac] [] 0 [2] [6, 7, 8, 20] hC [] ?_
 rcases cB h with ⟨h3, h⟩ | ⟨h3, h⟩
 ·replace h := sI h
  subst h
  exact wr Ahw 24 [true] [] [] 0 [] hC [pq h3]
 ·obtain ⟨y4, h5, h⟩ := Au h
  replace h := sI h
  subst h
  exact wr Ahw 25 [false] [pr pI h5] [] 0 [] hC [pq h3]
theorem Arq : EN 143 := en Tryz.func143
end Go.Proofs.YtcigbocngfaopaaGreat
