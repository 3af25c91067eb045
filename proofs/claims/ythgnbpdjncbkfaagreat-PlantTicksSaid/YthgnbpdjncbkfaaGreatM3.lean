import Derived.Test.YthgnbpdjncbkfaaGreatM2
set_option linter.unusedVariables false
namespace Go.Proofs.YthgnbpdjncbkfaaGreat
open Go.SL
theorem k13  (r : Bool) (h : F13  = some r) : CO 13 [] [] (.d (Bo r)) [] := by
 unfold F13 at h
 refine co 106 Tryz.func13 λ C hC => ?_
 obtain ⟨y1, h2, h⟩ := Ad h
 obtain ⟨y3, h4, h⟩ := Ad h
 obtain ⟨y5, h6, h⟩ := Ad h
 obtain ⟨y7, h8, h⟩ := Ad h
 obtain ⟨y9, h10, h⟩ := Ad h
 obtain ⟨y11, h12, h⟩ := Ad h
 obtain ⟨y13, h14, h⟩ := Ad h
 obtain ⟨y15, h16, h⟩ := Ad h
 replace h := sI h
 subst h
 exact wr [0, 1, 2, 3, 4, 6, 7, 8, 9, 10, 11] 35 [] [pc e35 (k35  _ rfl) [], pc e36 (k36 F35.1 F35.2 _ h2) [], ⟨.call 11 [.agg (d29 F35.1), .agg (d31 F35.2), .agg [I y1.1.Time, .os 0, .os 1, .os 2, .os 3, .os 4, .os 5], .d (DS q49 [(⟨3, 0, 0⟩ : Ap), (⟨3, 1, 0⟩ : Ap), (⟨1, 0, 0⟩ : Ap), (⟨1, 1, 0⟩ : Ap), (⟨1, 2, 0⟩ : Ap)])] (zp y1.1.Power [v5_ y1.1.A5, v1_ y1.1.A7]) (.tup [.agg [I y3.1.Time, .os 6, .os 7, .os 8, .os 9, .os 10, .os 11], dS 12, dI y3.2.2]) (zp y1.1.Power (v5_ y1.1.A5 :: v1_ y1.1.A7 :: zp y3.1.Power [v5_ y3.1.A5, v1_ y3.1.A7, v1_ y3.2.1])) [2, 3, 4, 5, 6, 7], ⟨e11, ((k11 F35.1 F35.2 y1.1 [(⟨3, 0, 0⟩ : Ap), (⟨3, 1, 0⟩ : Ap), (⟨1, 0, 0⟩ : Ap), (⟨1, 1, 0⟩ : Ap), (⟨1, 2, 0⟩ : Ap)] _ h4).lend (by kernel_rfl) (by kernel_rfl) (by kernel_rfl) ⟨Be (λ _ => rfl), Be (λ _ => rfl), Be (λ _ => rfl), Be (λ _ => rfl), Be (λ _ => rfl), Be (λ _ => rfl), Be (λ _ => rfl), trivial⟩ (by kernel_rfl) (by kernel_rfl))⟩⟩, ⟨.call 11 [.agg (d29 F35.1), .agg (d31 F35.2), .agg [I y3.1.Time, .os 0, .os 1, .os 2, .os 3, .os 4, .os 5], .d (DS q49 [(⟨8, 1, 1⟩ : Ap)])] (zp y3.1.Power [v5_ y3.1.A5, v1_ y3.1.A7]) (.tup [.agg [I y5.1.Time, .os 6, .os 7, .os 8, .os 9, .os 10, .os 11], dS 12, dI y5.2.2]) (zp y3.1.Power (v5_ y3.1.A5 :: v1_ y3.1.A7 :: zp y5.1.Power [v5_ y5.1.A5, v1_ y5.1.A7, v1_ y5.2.1])) [9, 10, 11, 12, 13, 14], ⟨e11, ((k11 F35.1 F35.2 y3.1 [(⟨8, 1, 1⟩ : Ap)] _ h6).lend (by kernel_rfl) (by kernel_rfl) (by kernel_rfl) ⟨Be (λ _ => rfl), Be (λ _ => rfl), Be (λ _ => rfl), Be (λ _ => rfl), Be (λ _ => rfl), Be (λ _ => rfl), Be (λ _ => rfl), trivial⟩ (by kernel_rfl) (by kernel_rfl))⟩⟩, ⟨.call 15 [.agg [I 0, I 1, DS q63 [(⟨2, 0, 1000, 0, 1, ([] : List C6)⟩ : B0)]], .agg (d29 F35.1), .agg [.os 0, .os 1, .os 2, .os 3]] (zp y5.1.Power []) (.tup [dS 4, dI y7.2]) (zp y5.1.Power [v0_ y7.1]) [16, 17, 18, 19], ⟨e15, ((k15 (⟨0, 1, [(⟨2, 0, 1000, 0, 1, ([] : List C6)⟩ : B0)]⟩ : Fp) F35.1 y5.1.Power _ h8).lend (by kernel_rfl) (by kernel_rfl) (by kernel_rfl) ⟨Be (λ _ => rfl), trivial⟩ (by kernel_rfl) (by kernel_rfl))⟩⟩, pL_ [((((((y1.2 == 0) && (y3.2.2 == 0)) && (y5.2.2 == 0)) && (y7.2 == 0)) && (y5.1.Time == 2)), true)] q51 y5.2.1, pv e37 (λ hg => k37 y5.1.Power.Ah [true, false, true] _ (A_ h10 hg)), pv e38 (λ hg => k38 y5.1.Power.Ar [50] _ (A_ h12 hg)), pv e38 (λ hg => k38 y7.1 [223] _ (A_ h14 hg)), pv e39 (λ hg => k39 F35.1 y5.1.Power _ (A_ h16 hg))] [] 0 [] hC []
theorem e13 : EN 13 := en Tryz.func13
def lv6 : List Nat := [0, 2, 3, 4, 5, 6, 7, 8, 9, 10, 11, 12, 14, 15, 17, 18, 19, 42, 43, 44, 45, 66]
def Aoy (y5 : (List Ap) × Aj) (y7 : A0 × (List Bg) × Int) (n0 : Nat) (z0 : Sg8) : St := [(2, dB false), (4, dO 0 0), (6, dO 1 0), (8, dO 10 0), (9, dS 9), (10, dI y7.2.2), (11, dO 11 0), (12, dI z0.1), (42, dS 2), (43, dI (ln y5.1)), (44, dI (cnt 0 n0))]
def Ayj (y3 : Ai3) (y5 : (List Ap) × Aj) (y7 : A0 × (List Bg) × Int) (n0 : Nat) (z0 : Sg8) : List Res := (.box 29 (d29 y3.1) :: .box 40 (d40 y3.2.2.1) :: v6_ y5.1 :: zp y7.1.Power [v5_ y7.1.A5, v1_ y7.1.A7, v1_ y7.2.1, .box 40 [I y7.1.Time, .os 3, .os 4, .os 5, .os 6, .os 7, .os 8], .box 40 [I z0.2.1, DS pB z0.2.2.1, DS A6 (g3_ z0), DS pI (g4_ z0), DS q86 (g5_ z0), DS B2 (g6_ z0), DS q51 (Ys z0)]])
def Ay1 (y7 : A0 × (List Bg) × Int) (z0 : Sg8) : St := [(2, dB false), (4, dO 0 0), (6, dO 1 0), (8, dO 9 0), (9, dS 8), (10, dI y7.2.2), (11, dO 10 0), (12, dI z0.1)]
def Az1 (y3 : Ai3) (y7 : A0 × (List Bg) × Int) (z0 : Sg8) : List Res := (.box 29 (d29 y3.1) :: .box 40 (d40 y3.2.2.1) :: zp y7.1.Power [v5_ y7.1.A5, v1_ y7.1.A7, v1_ y7.2.1, .box 40 [I y7.1.Time, .os 2, .os 3, .os 4, .os 5, .os 6, .os 7], .box 40 [I z0.2.1, DS pB z0.2.2.1, DS A6 (g3_ z0), DS pI (g4_ z0), DS q86 (g5_ z0), DS B2 (g6_ z0), DS q51 (Ys z0)]])
theorem k6 (x0 : List Int) (r : Bool) (h : F6 x0 = some r) : CO 6 [.d (DS pI x0)] [] (.d (Bo r)) [] := by
 unfold F6 at h
 refine co 117 Tryz.func6 λ C hC => ?_
 obtain ⟨y1, h2, h⟩ := Ad h
 obtain ⟨y3, h4, h⟩ := Ad h
 obtain ⟨y5, h6, h⟩ := Ad h
 obtain ⟨y7, h8, h⟩ := Ad h
 refine ws lv6 40 [] [pc e8 (k8 x0 _ h2) [], pc e9 (k9 y1 _ h4) [0], pc A7c (A6r (Dd y3) y3.1 5 _ h6) n4_, ⟨.call 11 [.agg [I y3.1.An, .os 0, .os 1, .os 2, I y3.1.Phase, I y3.1.Aq], .agg [I y3.2.1.Start, I y3.2.1.Stop, I 600], .agg [I y3.2.2.1.Time, .os 3, .os 4, .os 5, .os 6, .os 7, .os 8], dS 9] (zs y3.1 (zp y3.2.2.1.Power [v5_ y3.2.2.1.A5, v1_ y3.2.2.1.A7, v6_ y5.1])) (.tup [.agg [I y7.1.Time, .os 10, .os 11, .os 12, .os 13, .os 14, .os 15], dS 16, dI y7.2.2]) (zs y3.1 (zp y3.2.2.1.Power (v5_ y3.2.2.1.A5 :: v1_ y3.2.2.1.A7 :: v6_ y5.1 :: zp y7.1.Power [v5_ y7.1.A5, v1_ y7.1.A7, v1_ y7.2.1]))) [1, 2, 3, 4, 5, 6, 7, 8, 9, 13], ⟨e11, ((k11 y3.1 (⟨y3.2.1.Start, y3.2.1.Stop, 600⟩ : Bf) y3.2.2.1 y5.1 _ h8).lend (by kernel_rfl) (by kernel_rfl) (by kernel_rfl) ⟨Be (λ _ => rfl), Be (λ _ => rfl), Be (λ _ => rfl), Be (λ _ => rfl), Be (λ _ => rfl), Be (λ _ => rfl), Be (λ _ => rfl), trivial⟩ (by kernel_rfl) (by kernel_rfl))⟩⟩, pl q49 y5.1] [.frz 1, .frz 2, .frz 3, .frz 4, .frz 5, .frz 6, .frz 7, .frz 8, .frz 9] 0 [10, 12, 13, 14, 15, 16, 17, 18, 19, 20, 21, 22] (Aoy y5 y7 0 (0, y3.2.2.1.Time, zu y3.2.2.1.Power (y3.2.2.1.A5, y3.2.2.1.A7))) (Ayj y3 y5 y7 0 (0, y3.2.2.1.Time, zu y3.2.2.1.Power (y3.2.2.1.A5, y3.2.2.1.A7))) hC [] ?_
 obtain ⟨w0, hm0, hret0, hnext0⟩ := As h
 clear h
 refine wc w0 (Ay1 y7) (Az1 y3 y7) ?_ λ z0 hs0 => ?_
 ·refine wb ?_
  refine Cc 42 2 rfl rfl λ hl0 => ?_
  refine A8 (by kernel_rfl) (Afi y3) (Aoy y5 y7) (Ayj y3 y5 y7) w0 y5.1 (0, y3.2.2.1.Time, zu y3.2.2.1.Power (y3.2.2.1.A5, y3.2.2.1.A7)) hm0 rfl rfl (λ z0 hn0 => ?_) λ n0 a0 z0 w0b hi0 hx0 h hb0 hr0 => ?_
  ·clear hm0
   exact wx w0 (Ay1 y7) (Az1 y3 y7) lv6 26 [false] [] [] 0 [0, 1, 3, 4, 5, 6, 7, 8, 9, 10, 11] (z0.1, z0.2.1, z0.2.2.1, (g3_ z0), (g4_ z0), (g5_ z0), (g6_ z0), (Ys z0)) hC [pq (Ba hl0)] hn0
  ·unfold Afi at h
   obtain ⟨y9, h10, h⟩ := Ad h
   refine wn lv6 35 [true] [pr q49 (Bp hx0 hl0), pn q49 (Bp hx0 hl0), pc e22 (k22 y3.1 (⟨z0.2.1, (⟨z0.2.2.1, (g3_ z0), (g4_ z0), (g5_ z0)⟩ : Ab), (g6_ z0), (Ys z0)⟩ : A0) a0 _ h10) [], pL_ [((y9.2.2 != 0), false)] q51 y9.1.A7, pL_ [((y9.2.2 != 0), false)] q51 (Ys z0)] [] 0 [0, 1, 2, 3, 4, 5, 6, 7, 8, 9, 10, 11, 13, 14, 15, 16, 17, 18, 20] [2, 4, 6, 8, 9, 10, 11, 12, 15, 42, 43, 44, 66] hC [pq (A9 hi0 hl0)] ?_
   rcases cB h with ⟨h11, h⟩ | ⟨h11, h⟩
   ·have hq := hret0 _ (hr0 _ (sI h).symm)
    replace hq := sI hq
    subst hq
    exact wr lv6 24 [true] [] [] 0 [] hC [pq h11]
   ·exact wx w0b (Aoy y5 y7 (n0 + 1)) (Ayj y3 y5 y7 (n0 + 1)) lv6 28 [false] [pl q51 y9.1.A7, pl q51 (Ys z0)] [.frz 12, .frz 13, .frz 14, .frz 15, .frz 16, .frz 17] 0 E7 (w64 (z0.1 + (w64 ((ln y9.1.A7) - (ln (Ys z0))))), y9.1.Time, zu y9.1.Power (y9.1.A5, y9.1.A7)) hC [pq h11] (sI h).symm
 ·have h := hnext0 _ hs0
  obtain ⟨y12, h13, h⟩ := Ad h
  obtain ⟨y14, h15, h⟩ := Ad h
  obtain ⟨y16, h17, h⟩ := Ad h
  replace h := sI h
  subst h
  exact wr lv6 25 [] [pc e23 (k23 y3.1 (⟨z0.2.2.1, (g3_ z0), (g4_ z0), (g5_ z0)⟩ : Ab) y3.2.2.1.Time (⟨7, 0, 0⟩ : Ap) _ h13) [], pv e19 (λ hg => k19 y7.1.Power y12.1 _ (A_ h15 hg)), pL_ [((((y7.2.2 == 0) && (y12.2 == 0)) && y14), true)] q51 y7.2.1, pw e13 (λ hg => k13  _ (A_ h17 hg)) []] [] 0 [] hC []
end Go.Proofs.YthgnbpdjncbkfaaGreat
