import Derived.Test.YthgnbpdjncbkfaaGreatM0
set_option linter.unusedVariables false
set_option maxHeartbeats 4000000
namespace Go.Proofs.YthgnbpdjncbkfaaGreat
open Go.SL
def Qg : List Nat := [0, 1, 4, 5, 6, 7, 8, 10, 26, 37]
def Ani (x0 : List A3) (x1 : Int) (z0 : Unit) : St := [(0, .d (DS Ce x0)), (1, dI x1), (4, .d (DS Ce []))]
def Apa  (z0 : Unit) : List Res := []
def Anh (x0 : List A3) (x1 : Int) (z1 : Unit) : St := [(0, .d (DS Ce x0)), (4, .d (DS Ce [])), (6, .d (.p (.v (.int .u64 ((Jn (IntKind.wrap .u64 (ln x0)) (IntKind.wrap .u64 x1)).2)))))]
def Ao9  (z1 : Unit) : List Res := []
def Amr (x0 : List A3) (y3 : List A3) (z2 : Unit) : St := [(4, .d (DS Ce [])), (7, dS 0), (8, dI ((Nat.min x0.length y3.length) : Int))]
def Ayn (x0 : List A3) (y3 : List A3) (z2 : Unit) : List Res := [v5_ (Jl y3 0 y3.length x0)]
def Ang  (z2 : Unit) : St := [(4, .d (DS Ce [])), (7, dS 0)]
def Ao8 (x0 : List A3) (y3 : List A3) (z2 : Unit) : List Res := [v5_ (Jl y3 0 y3.length x0)]
theorem Baz (x0 : List A3) (x1 : Int) (r : (List A3)) (h : A1r x0 x1 = some r) : CO 139 [.d (DS Ce x0), .d (I x1)] [] (.d (.os 0)) [v5_ r] := by
 unfold A1r at h
 refine co 48 Tryz.func139 λ C hC => ?_
 refine wn Qg 26 [] [] [] 0 [] [0, 1, 4, 10] hC [] ?_
 obtain ⟨w0, h, hret0, hnext0⟩ := Ap h
 refine wc w0 (Ani x0 x1) (Apa) ?_ λ z0 hs0 => ?_
 ·unfold Apv at h
  rcases cB h with ⟨h1, h⟩ | ⟨h1, h⟩
  ·cases h
  ·exact wx w0 (Ani x0 x1) (Apa) Qg 23 [false] [] [] 0 [] _ hC [pq h1] (sI h).symm
 ·clear h; have h := hnext0 _ hs0
  refine wn Qg 26 [] [pl Ce x0, pc A74 (A58 (IntKind.wrap .u64 (ln x0)) (IntKind.wrap .u64 x1) _ rfl) []] [] 0 [] [0, 4, 6, 26] hC [] ?_
  obtain ⟨w1, h, hret1, hnext1⟩ := Ap h
  refine wc w1 (Anh x0 x1) (Ao9) ?_ λ z1 hs1 => ?_
  ·unfold Apu at h
   rcases cB h with ⟨h2, h⟩ | ⟨h2, h⟩
   ·cases h
   ·exact wx w1 (Anh x0 x1) (Ao9) Qg 23 [false] [] [] 0 [] _ hC [pq h2] (sI h).symm
  ·clear h; have h := hnext1 _ hs1
   obtain ⟨y3, h4, h⟩ := Av h
   refine ws Qg 26 [] [⟨.room ((w64 ((Jn (IntKind.wrap .u64 (ln x0)) (IntKind.wrap .u64 x1)).2)) * (16 + 1)) (List.replicate (Int.toNat (w64 ((Jn (IntKind.wrap .u64 (ln x0)) (IntKind.wrap .u64 x1)).2))) (Ce (⟨0, 0⟩ : A3))) (y3.map Ce), Hh h4⟩, ⟨.cpy (x0.map Ce) 2 ((y3.map Ce).length) (Nat.min x0.length y3.length) ((y3.map Ce).take 0 ++ ((x0.map Ce).take (Nat.min x0.length y3.length) ++ (y3.map Ce).drop (0 + (Nat.min x0.length y3.length)))) ((Jl y3 0 y3.length x0).map Ce), yP Ce 2 (λ _ => rfl) rfl (by simp)⟩] [] 0 [0] (Amr x0 y3 ()) (Ayn x0 y3 ()) hC [] ?_
   obtain ⟨w2, hm2, hret2, hnext2⟩ := Ap h
   clear h
   refine wc w2 (Ang) (Ao8 x0 y3) ?_ λ z2 hs2 => ?_
   ·refine wb ?_
    refine ww (Amr x0 y3) (Ayn x0 y3) hm2 λ z2 w2b h hb2 hr2 => ?_
    unfold Apw at h
    rcases cB h with ⟨h5, h⟩ | ⟨h5, h⟩
    ·cases h
    ·exact wx w2 (Ang) (Ao8 x0 y3) Qg 26 [false] [pl Ce (Jl y3 0 y3.length x0)] [] 0 [0] () hC [pq h5] (hb2 _ (sI h).symm)
   ·have h := hnext2 _ hs2
    replace h := sI h
    subst h
    exact wr Qg 23 [] [] [] 0 [0] hC []
theorem Bcg : EN 139 := en Tryz.func139
def S4 : List Nat := [0, 1, 4, 5, 6, 7, 8, 10, 26, 37]
def Atz (x0 : List Ah) (x1 : Int) (z0 : Unit) : St := [(0, .d (DS A_ x0)), (1, dI x1), (4, .d (DS A_ []))]
def Axi  (z0 : Unit) : List Res := []
def Aty (x0 : List Ah) (x1 : Int) (z1 : Unit) : St := [(0, .d (DS A_ x0)), (4, .d (DS A_ [])), (6, .d (.p (.v (.int .u64 ((Jn (IntKind.wrap .u64 (ln x0)) (IntKind.wrap .u64 x1)).2)))))]
def Axh  (z1 : Unit) : List Res := []
def Ae2  (z2 : Int × (List Ah)) : St := [(4, .d (DS A_ [])), (7, dS 0), (8, dI z2.1)]
def Ars  (z2 : Int × (List Ah)) : List Res := [v4_ z2.2]
def Atx  (z2 : Int × (List Ah)) : St := [(4, .d (DS A_ [])), (7, dS 0)]
def Axg  (z2 : Int × (List Ah)) : List Res := [v4_ z2.2]
theorem k87 (x0 : List Ah) (x1 : Int) (r : (List Ah)) (h : F87 x0 x1 = some r) : CO 87 [.d (DS A_ x0), .d (I x1)] [] (.d (.os 0)) [v4_ r] := by
 unfold F87 at h
 refine co 48 Tryz.func87 λ C hC => ?_
 refine wn S4 26 [] [] [] 0 [] [0, 1, 4, 10] hC [] ?_
 obtain ⟨w0, h, hret0, hnext0⟩ := Ap h
 refine wc w0 (Atz x0 x1) (Axi) ?_ λ z0 hs0 => ?_
 ·unfold Ayr at h
  rcases cB h with ⟨h1, h⟩ | ⟨h1, h⟩
  ·cases h
  ·exact wx w0 (Atz x0 x1) (Axi) S4 23 [false] [] [] 0 [] _ hC [pq h1] (sI h).symm
 ·clear h; have h := hnext0 _ hs0
  refine wn S4 26 [] [pl A_ x0, pc A74 (A58 (IntKind.wrap .u64 (ln x0)) (IntKind.wrap .u64 x1) _ rfl) []] [] 0 [] [0, 4, 6, 26] hC [] ?_
  obtain ⟨w1, h, hret1, hnext1⟩ := Ap h
  refine wc w1 (Aty x0 x1) (Axh) ?_ λ z1 hs1 => ?_
  ·unfold Ayq at h
   rcases cB h with ⟨h2, h⟩ | ⟨h2, h⟩
   ·cases h
   ·exact wx w1 (Aty x0 x1) (Axh) S4 23 [false] [] [] 0 [] _ hC [pq h2] (sI h).symm
  ·clear h; have h := hnext1 _ hs1
   obtain ⟨y3, h4, h⟩ := Av h
   refine ws S4 26 [] [⟨.room ((w64 ((Jn (IntKind.wrap .u64 (ln x0)) (IntKind.wrap .u64 x1)).2)) * (32 + 1)) (List.replicate (Int.toNat (w64 ((Jn (IntKind.wrap .u64 (ln x0)) (IntKind.wrap .u64 x1)).2))) (A_ (⟨0, 0, 0, 0⟩ : Ah))) (y3.map A_), Hh h4⟩, ⟨.cpy (x0.map A_) 4 ((y3.map A_).length) (Nat.min x0.length y3.length) ((y3.map A_).take 0 ++ ((x0.map A_).take (Nat.min x0.length y3.length) ++ (y3.map A_).drop (0 + (Nat.min x0.length y3.length)))) ((Jl y3 0 y3.length x0).map A_), yP A_ 4 (λ _ => rfl) rfl (by simp)⟩] [] 0 [0] (Ae2 (((Nat.min x0.length y3.length) : Int), (Jl y3 0 y3.length x0))) (Ars (((Nat.min x0.length y3.length) : Int), (Jl y3 0 y3.length x0))) hC [] ?_
   obtain ⟨w2, hm2, hret2, hnext2⟩ := Ap h
   clear h
   refine wc w2 (Atx) (Axg) ?_ λ z2 hs2 => ?_
   ·refine wb ?_
    refine ww (Ae2) (Ars) hm2 λ z2 w2b h hb2 hr2 => ?_
    unfold Ays at h
    rcases cB h with ⟨h5, h⟩ | ⟨h5, h⟩
    ·obtain ⟨u7, h6, u9, h8, h⟩ := A8 h
     exact wx w2b (Ae2) (Ars) S4 29 [true] [pl A_ z2.2, ⟨.bnd (z2.2.map A_).length z2.1 (((z2.2.map A_).length : Nat) : Int) (ln z2.2), Fs (by simp) (by simp) h6⟩, ⟨.bnd (z2.2.map A_).length 0 z2.1 z2.1, Fs (by simp) rfl h8⟩, ⟨.cpy (((z2.2.map A_).drop 0).take ((Int.toNat z2.1) - 0)) 4 ((Int.toNat (ln z2.2)) - (Int.toNat z2.1)) (Nat.min ((z2.2.drop 0).take ((Int.toNat z2.1) - 0)).length ((Int.toNat (ln z2.2)) - (Int.toNat z2.1))) ((z2.2.map A_).take (Int.toNat z2.1) ++ ((((z2.2.map A_).drop 0).take ((Int.toNat z2.1) - 0)).take (Nat.min ((z2.2.drop 0).take ((Int.toNat z2.1) - 0)).length ((Int.toNat (ln z2.2)) - (Int.toNat z2.1))) ++ (z2.2.map A_).drop ((Int.toNat z2.1) + (Nat.min ((z2.2.drop 0).take ((Int.toNat z2.1) - 0)).length ((Int.toNat (ln z2.2)) - (Int.toNat z2.1)))))) ((Jl z2.2 (Int.toNat z2.1) ((Int.toNat (ln z2.2)) - (Int.toNat z2.1)) ((z2.2.drop 0).take ((Int.toNat z2.1) - 0))).map A_), yP A_ 4 (λ _ => rfl) (Agj _ _ _ _) rfl⟩] [] 0 [0] _ hC [pq h5] (sI h).symm
    ·exact wx w2 (Atx) (Axg) S4 26 [false] [pl A_ z2.2] [] 0 [0] (z2.1, z2.2) hC [pq h5] (hb2 _ (sI h).symm)
   ·have h := hnext2 _ hs2
    replace h := sI h
    subst h
    exact wr S4 23 [] [] [] 0 [0] hC []
theorem e87 : EN 87 := en Tryz.func87
def O4 : List Nat := [0, 1, 4, 5, 7, 8, 9, 16]
def Sk (x0 : List A3) (n0 : Nat) (z0 : Sg1) : St := [(0, .d (DS Ce x0)), (1, .d (.fn (.func 62) [] [.o 0 0])), (4, dI 0), (7, dI (ln x0)), (8, dI (cnt 0 n0))]
def Yt  (n0 : Nat) (z0 : Sg1) : List Res := [.box 126 [.fn (.func 58) [] [.o 1 0]], .box 40 [I z0.1, DS pB z0.2.1, DS A_ z0.2.2.1, DS pI (g3_ z0), DS q86 (g4_ z0), DS Ce (g5_ z0), DS q51 (Ob z0)]]
def Abu  (z0 : Sg1) : St := [(4, dI 0)]
def Adf  (z0 : Sg1) : List Res := [.box 126 [.fn (.func 58) [] [.o 1 0]], .box 40 [I z0.1, DS pB z0.2.1, DS A_ z0.2.2.1, DS pI (g3_ z0), DS q86 (g4_ z0), DS Ce (g5_ z0), DS q51 (Ob z0)]]
theorem A6f (x0 : List A3) (x1c0c0 : A0) (r : Int × A0) (h : Alo x0 x1c0c0 = some r) : CO 122 [.d (DS Ce x0), .d (.fn (.func 62) [] [.o 0 0])] [.box 126 [.fn (.func 58) [] [.o 1 0]], .box 40 (d40 x1c0c0)] (.d (I r.1)) [.box 126 [.fn (.func 58) [] [.o 1 0]], .box 40 (d40 r.2)] := by
 unfold Alo at h
 refine co 19 Tryz.func122 λ C hC => ?_
 refine ws O4 26 [] [pl Ce x0] [] 2 [0, 1] (Sk x0 0 (x1c0c0.Time, zu x1c0c0.Power (x1c0c0.A6, x1c0c0.Bc))) (Yt 0 (x1c0c0.Time, zu x1c0c0.Power (x1c0c0.A6, x1c0c0.Bc))) hC [] ?_
 obtain ⟨w0, hm0, hret0, hnext0⟩ := Ap h
 clear h
 refine wc w0 (Abu) (Adf) ?_ λ z0 hs0 => ?_
 ·refine wb ?_
  refine Bp 0 rfl λ hl0 => ?_
  refine wl (Sk x0) (Yt) hm0 (λ z0 hn0 => ?_) λ n0 a0 z0 w0b hi0 hx0 h hb0 hr0 => ?_
  ·clear hm0
   exact wx w0 (Abu) (Adf) O4 26 [false] [] [] 2 [0, 1] _ hC [pq (A7 hl0)] hn0
  ·unfold Ads at h
   refine wn O4 32 [true] [pt hx0 hl0, pc A95 (A9n a0 (⟨z0.1, (⟨z0.2.1, z0.2.2.1, (g3_ z0), (g4_ z0)⟩ : Ab), (g5_ z0), (Ob z0)⟩ : A0) _ rfl) [0, 1]] [] 2 [0, 1] [0, 1, 4, 5, 7, 8, 16] hC [pq (A5 hi0 hl0)] ?_
   rcases cB h with ⟨h1, h⟩ | ⟨h1, h⟩
   ·cases h
   ·exact wx w0b (Sk x0 (n0 + 1)) (Yt (n0 + 1)) O4 25 [false] [] [] 2 [0, 1] _ hC [pq h1] (sI h).symm
 ·have h := hnext0 _ hs0
  replace h := sI h
  subst h
  exact wr O4 23 [] [] [] 2 [0, 1] hC []
theorem A8b : EN 122 := en Tryz.func122
theorem A9k (x0 : A4) (x1 : Ab) (r : A4) (h : Asq x0 x1 = some r) : CO 81 [.d (.o 0 0), .agg (d36 x1)] (.box 100 (I x0.Ay.Time :: .os 1 :: .os 2 :: .os 3 :: .os 4 :: .os 5 :: .os 6 :: zb x0.Am [.os 7, .os 8]) :: zp x0.Ay.Power [v5_ x0.Ay.A6, v1_ x0.Ay.Bc, v1_ x0.events, v8_ x0.states]) (.tup []) (.box 100 (I r.Ay.Time :: .os 1 :: .os 2 :: .os 3 :: .os 4 :: .os 5 :: .os 6 :: zb r.Am [.os 7, .os 9]) :: zp r.Ay.Power [v5_ r.Ay.A6, v1_ r.Ay.Bc, v1_ r.events, .non, v8_ r.states]) := by
 unfold Asq at h
 refine co 15 Tryz.func81 λ C hC => ?_
 obtain ⟨y3, h4, y5, h6, h⟩ := A8 h
 replace h := sI h
 subst h
 exact wf [0, 1, 3] 23 [] [⟨.call 116 [.agg (d36 x1)] [] (.agg (d36 y3)) [.non, .non, .non, .non] [], ⟨K6, (CallOk.frzAll n4_ (show CO 116 [.agg (d36 x1)] [] (.agg [.os 0, .os 1, .os 2, .os 3]) (zp y3 []) from (K4 x1 _ h4)) (by kernel_rfl))⟩⟩, pa q36 4 h6] [] 9 [0, 1, 2, 3, 4, 5, 6, 7, 8, 14] hC []
theorem A92 : EN 81 := en Tryz.func81
theorem A5s (x0 : Aa) (x1 : Int) (r : Int) (h : As5 x0 x1 = some r) : CO 180 [.agg (d29 x0), .d (I x1)] [] (.d (I r)) [] := by
 unfold As5 at h
 refine co 9 Tryz.func180 λ C hC => ?_
 obtain ⟨y1, h2, h⟩ := Av h
 replace h := sI h
 subst h
 exact wr n5_ 25 [] [pc A63 (A47 x0.Ae x1 _ h2) [1]] [] 0 [] hC []
theorem A7o : EN 180 := en Tryz.func180
theorem A9j (x0 : A4) (x1 : Ab) (r : A4) (h : Asp x0 x1 = some r) : CO 81 [.d (.o 0 0), .agg [.os 1, .os 2, .os 3, .os 4]] (.box 100 (I x0.Ay.Time :: .os 1 :: .os 2 :: .os 3 :: .os 4 :: .os 5 :: .os 6 :: zb x0.Am [.os 7, .os 8]) :: zp x0.Ay.Power [v5_ x0.Ay.A6, v1_ x0.Ay.Bc, v1_ x0.events, v8_ x0.states]) (.tup []) (.box 100 (I r.Ay.Time :: .os 1 :: .os 2 :: .os 3 :: .os 4 :: .os 5 :: .os 6 :: zb r.Am [.os 7, .os 9]) :: zp r.Ay.Power [v5_ r.Ay.A6, v1_ r.Ay.Bc, v1_ r.events, .non, v8_ r.states]) := by
 unfold Asp at h
 refine co 15 Tryz.func81 λ C hC => ?_
 obtain ⟨y3, h4, y5, h6, h⟩ := A8 h
 replace h := sI h
 subst h
 exact wf [0, 1, 3] 23 [] [⟨.call 116 [.agg [.os 0, .os 1, .os 2, .os 3]] (zp x0.Ay.Power []) (.agg (d36 y3)) (zp x0.Ay.Power [.non, .non, .non, .non]) [1, 2, 3, 4], ⟨K6, (CallOk.frzAll [4, 5, 6, 7] (show CO 116 [.agg [.os 0, .os 1, .os 2, .os 3]] (zp x0.Ay.Power []) (.agg [.os 4, .os 5, .os 6, .os 7]) (zp x0.Ay.Power (zp y3 [])) from ((K4 x0.Ay.Power _ h4).lend (by kernel_rfl) (by kernel_rfl) (by kernel_rfl) ⟨Ba (λ _ => rfl), Ba (λ _ => rfl), Ba (λ _ => rfl), Ba (λ _ => rfl), trivial⟩ (by kernel_rfl) (by kernel_rfl))) (by kernel_rfl))⟩⟩, pa q36 4 h6] [] 9 [0, 1, 2, 3, 4, 5, 6, 7, 8, 14] hC []
theorem A91 : EN 81 := en Tryz.func81
theorem Bay (x0 : Dh) (r : Bool) (h : A1p x0 = r) : CO 151 [.agg (Arb x0)] [] (.d (Bo r)) [] := by
 unfold A1p at h
 refine co 19 Tryz.func151 λ C hC => ?_
 subst h
 exact wr n4_ 27 [] [pc A7e (A5i x0.From _ rfl) [], ⟨.when [(Ur x0.From, true)] (.call 197 [dI x0.To] [] (dB (Ur x0.To)) [] []), λ hg => ⟨A7e, (A5i x0.To _ rfl)⟩⟩, ⟨.when [(((Ur x0.From) && (Ur x0.To)), true)] (.call 198 [.agg (Arb x0)] [] (dI (As3 x0)) [] []), λ hg => ⟨Bbw, (Baf x0 _ rfl)⟩⟩] [] 0 [] hC []
theorem Bcf : EN 151 := en Tryz.func151
def Lw : List Nat := [0, 1, 4, 5, 7, 8, 9, 16]
def Sa (x0 : List Int) (n0 : Nat) (z0 : Unit) : St := [(0, .d (DS pI x0)), (1, .d (.fn (.func 105) [] [.o 0 0, .o 1 0])), (4, dI 0), (7, dI (ln x0)), (8, dI (cnt 0 n0))]
def Yj (x1c0 : Aa) (x1c1 : Ab) (n0 : Nat) (z0 : Unit) : List Res := [.box 29 (d29 x1c0), .box 36 (d36 x1c1)]
def Abh  (z0 : Unit) : St := [(4, dI 0)]
def Ac2 (x1c0 : Aa) (x1c1 : Ab) (z0 : Unit) : List Res := [.box 29 (d29 x1c0), .box 36 (d36 x1c1)]
theorem A5z (rec46 : Aa -> Ab -> Int -> Option Bool) (ih46 : ∀ (x0 : Aa) (x1 : Ab) (x2 : Int) (r : Bool), rec46 x0 x1 x2 = some r -> CO 46 [.agg (d29 x0), .agg (d36 x1), .d (I x2)] [] (.d (Bo r)) []) (x0 : List Int) (x1c0 : Aa) (x1c1 : Ab) (r : Int × Aa × Ab) (h : Ale rec46 x0 x1c0 x1c1 = some r) : CO 158 [.d (DS pI x0), .d (.fn (.func 105) [] [.o 0 0, .o 1 0])] [.box 29 (d29 x1c0), .box 36 (d36 x1c1)] (.d (I r.1)) [.box 29 (d29 r.2.1), .box 36 (d36 r.2.2)] := by
 unfold Ale at h
 refine co 19 Tryz.func158 λ C hC => ?_
 refine ws Lw 26 [] [pl pI x0] [] 2 [0, 1] (Sa x0 0 ()) (Yj x1c0 x1c1 0 ()) hC [] ?_
 obtain ⟨w0, hm0, hret0, hnext0⟩ := Ap h
 clear h
 refine wc w0 (Abh) (Ac2 x1c0 x1c1) ?_ λ z0 hs0 => ?_
 ·refine wb ?_
  refine Bp 0 rfl λ hl0 => ?_
  refine wl (Sa x0) (Yj x1c0 x1c1) hm0 (λ z0 hn0 => ?_) λ n0 a0 z0 w0b hi0 hx0 h hb0 hr0 => ?_
  ·clear hm0
   exact wx w0 (Abh) (Ac2 x1c0 x1c1) Lw 26 [false] [] [] 2 [0, 1] _ hC [pq (A7 hl0)] hn0
  ·unfold Adn at h
   obtain ⟨y1, h2, h⟩ := Av h
   refine wn Lw 32 [true] [pt hx0 hl0, pb A8c (A6g rec46 ih46 a0 x1c0 x1c1 _ h2)] [] 2 [0, 1] [0, 1, 4, 5, 7, 8, 16] hC [pq (A5 hi0 hl0)] ?_
   rcases cB h with ⟨h3, h⟩ | ⟨h3, h⟩
   ·have hq := hret0 _ (hr0 _ (sI h).symm)
    replace hq := sI hq
    subst hq
    exact wr Lw 24 [true] [] [] 2 [0, 1] hC [pq h3]
   ·exact wx w0b (Sa x0 (n0 + 1)) (Yj x1c0 x1c1 (n0 + 1)) Lw 25 [false] [] [] 2 [0, 1] _ hC [pq h3] (sI h).symm
 ·have h := hnext0 _ hs0
  replace h := sI h
  subst h
  exact wr Lw 23 [] [] [] 2 [0, 1] hC []
theorem A7v : EN 158 := en Tryz.func158
theorem A5h (x0 : Int) (x1 : Int) (r : Int × Int) (h : Ak4 x0 x1 = some r) : CO 201 [.d (I x0), .d (I x1), .d (.fn (.func 202) [] [])] [] (.tup [.d (I r.1), .d (I r.2)]) [] := by
 unfold Ak4 at h
 refine co 26 Tryz.func201 λ C hC => ?_
 rcases cB h with ⟨h1, h⟩ | ⟨h1, h⟩
 ·cases h
 ·obtain ⟨y2, h3, h⟩ := Av h
  replace h := sI h
  subst h
  exact wr [0, 1, 2, 6, 7, 21] 30 [false] [pc Bbu (Bad x0 x1 _ h3) []] [] 0 [] hC [pq h1]
theorem A7d : EN 201 := en Tryz.func201
theorem A9h (x0 : List Af) (r : Bool) (h : Asn x0 = some r) : CO 88 [.d (DS q84 x0), .d (.fn (.func 90) [] [])] [] (.d (Bo r)) [] := by
 unfold Asn at h
 refine co 9 Tryz.func88 λ C hC => ?_
 obtain ⟨y1, h2, h⟩ := Av h
 replace h := sI h
 subst h
 exact wr [0, 1, 4] 25 [] [pc A73 (A57 x0 _ h2) []] [] 0 [] hC []
theorem A9z : EN 88 := en Tryz.func88
def Gb : List Nat := [0, 2, 3, 4, 5, 6, 7, 8, 9, 10, 11, 24, 29, 47, 60, 96, 121, 155]
def Zn  (z0 : Sg2) : St := [(0, dO 0 0), (2, dO 1 0), (3, dO 2 0), (4, dI z0.1)]
def Aer (y1 : Int × Ai) (y3 : Int × Ai) (y5 : Int × Ai) (z0 : Sg2) : List Res := [.box 90 [DS pI z0.2.1, I z0.2.2.1], .box 29 [I 0, .os 3, .os 4, .os 5, I 0, I 0], .box 29 [I y1.1, .os 6, .os 7, .os 8, I y3.1, I y5.1], v9_ ([] : List Aj), Ib ([] : List Bf), Ia ([] : List A1), v9_ (Ej z0), Ib ([] : List Bf), Ia ([] : List A1)]
def Aur  (z0 : Sg2) : St := [(0, dO 0 0), (2, dO 1 0), (3, dO 2 0)]
def Aya (y1 : Int × Ai) (y3 : Int × Ai) (y5 : Int × Ai) (z0 : Sg2) : List Res := [.box 90 [DS pI z0.2.1, I z0.2.2.1], .box 29 [I 0, .os 3, .os 4, .os 5, I 0, I 0], .box 29 [I y1.1, .os 6, .os 7, .os 8, I y3.1, I y5.1], v9_ ([] : List Aj), Ib ([] : List Bf), Ia ([] : List A1), v9_ (Ej z0), Ib ([] : List Bf), Ia ([] : List A1)]
def Aga  (z1 : (List Aj)) : St := [(0, dO 0 0), (2, dO 1 0), (3, dO 2 0)]
def Aiz (y1 : Int × Ai) (y3 : Int × Ai) (y5 : Int × Ai) (y15 : Int × Ai) (z1 : (List Aj)) : List Res := [.box 90 (d90 y15.2), .box 29 [I 0, .os 3, .os 4, .os 5, I 0, I 0], .box 29 [I y1.1, .os 6, .os 7, .os 8, I y3.1, I y5.1], v9_ ([] : List Aj), Ib ([] : List Bf), Ia ([] : List A1), v9_ z1, Ib ([] : List Bf), Ia ([] : List A1)]
def Afl  (z2 : Sg4) : St := [(0, dO 0 0), (2, dO 1 0), (3, dO 2 0), (5, dI z2.1)]
def Asb (y1 : Int × Ai) (y3 : Int × Ai) (y5 : Int × Ai) (z2 : Sg4) : List Res := [.box 90 [DS pI z2.2.1, I z2.2.2.1], .box 29 [I 0, .os 3, .os 4, .os 5, I 0, I 0], .box 29 [I y1.1, .os 6, .os 7, .os 8, I y3.1, I y5.1], v9_ ([] : List Aj), Ib ([] : List Bf), Ia ([] : List A1), v9_ (g3_ z2), Ib (Is z2), Ia ([] : List A1)]
def Auq  (z2 : Sg4) : St := [(0, dO 0 0), (2, dO 1 0), (3, dO 2 0)]
def Ax9 (y1 : Int × Ai) (y3 : Int × Ai) (y5 : Int × Ai) (z2 : Sg4) : List Res := [.box 90 [DS pI z2.2.1, I z2.2.2.1], .box 29 [I 0, .os 3, .os 4, .os 5, I 0, I 0], .box 29 [I y1.1, .os 6, .os 7, .os 8, I y3.1, I y5.1], v9_ ([] : List Aj), Ib ([] : List Bf), Ia ([] : List A1), v9_ (g3_ z2), Ib (Is z2), Ia ([] : List A1)]
def Zm  (z3 : Sg3) : St := [(0, dO 0 0), (2, dO 1 0), (3, dO 2 0), (7, dI z3.1)]
def Aeq (y1 : Int × Ai) (y3 : Int × Ai) (y5 : Int × Ai) (z2 : Sg4) (z3 : Sg3) : List Res := [.box 90 [DS pI z3.2.1, I z3.2.2.1], .box 29 [I 0, .os 3, .os 4, .os 5, I 0, I 0], .box 29 [I y1.1, .os 6, .os 7, .os 8, I y3.1, I y5.1], v9_ ([] : List Aj), Ib ([] : List Bf), Ia ([] : List A1), v9_ (g3_ z3), Ib (Is z2), Ia (Is z3)]
def Aup  (z3 : Sg3) : St := [(2, dO 1 0), (3, dO 2 0)]
def Ax8 (y1 : Int × Ai) (y3 : Int × Ai) (y5 : Int × Ai) (z2 : Sg4) (z3 : Sg3) : List Res := [.box 90 [DS pI z3.2.1, I z3.2.2.1], .box 29 [I 0, .os 3, .os 4, .os 5, I 0, I 0], .box 29 [I y1.1, .os 6, .os 7, .os 8, I y3.1, I y5.1], v9_ ([] : List Aj), Ib ([] : List Bf), Ia ([] : List A1), v9_ (g3_ z3), Ib (Is z2), Ia (Is z3)]
def Af9 (z3 : Sg3) (z4 : (List Aj)) : St := [(0, dO 0 0), (2, dO 1 0), (3, dO 2 0), (7, dI z3.1), (8, dI (ln (Is z3)))]
def Aiy (y1 : Int × Ai) (y3 : Int × Ai) (y5 : Int × Ai) (z2 : Sg4) (z3 : Sg3) (y42 : Int × Ai) (z4 : (List Aj)) : List Res := [.box 90 (d90 y42.2), .box 29 [I 0, .os 3, .os 4, .os 5, I 0, I 0], .box 29 [I y1.1, .os 8, .os 6, .os 7, I y3.1, I y5.1], v9_ ([] : List Aj), Ib ([] : List Bf), Ia ([] : List A1), Ib (Is z2), Ia (Is z3), v9_ z4]
set_option maxHeartbeats 4000000 in
theorem k29 (x0 : Ai) (r : Aa × Ai) (h : F29 x0 = some r) : CO 29 [.d (.o 0 0)] [.box 90 (d90 x0)] (.agg [I r.1.Aq, .os 1, .os 2, .os 3, I r.1.Phase, I r.1.Ar]) (.box 90 (d90 r.2) :: zs r.1 []) := by
 unfold F29 at h
 refine co 168 Tryz.func29 λ C hC => ?_
 obtain ⟨y1, h2, y3, h4, y5, h6, h⟩ := By h
 refine ws Gb 28 [] [pc e78 (k78 x0 1 4 _ h2) [0], pc e40 (k40 y1.2 [0, 50, 200, 1800] _ h4) [0], pc e40 (k40 y3.2 [0, 10, 50] _ h6) [0]] [.ownb 1 1 147 3, .ownb 1 2 139 3, .ownb 1 3 65 5, .ownb 2 1 147 3, .ownb 2 2 139 3, .ownb 2 3 65 5] 1 n9_ (Zn (1, y5.2.L, y5.2.At, ([] : List Aj))) (Aer y1 y3 y5 (1, y5.2.L, y5.2.At, ([] : List Aj))) hC [] ?_
 obtain ⟨w0, hm0, hret0, hnext0⟩ := Ap h
 clear h
 refine wc w0 (Aur) (Aya y1 y3 y5) ?_ λ z0 hs0 => ?_
 ·refine wb ?_
  refine ww (Zn) (Aer y1 y3 y5) hm0 λ z0 w0b h hb0 hr0 => ?_
  unfold qX at h
  rcases cB h with ⟨h7, h⟩ | ⟨h7, h⟩
  ·obtain ⟨y8, h9, h⟩ := Av h
   rcases cB h with ⟨h10, h⟩ | ⟨h10, h⟩
   ·obtain ⟨y11, h12, y13, h14, h⟩ := A8 h
    exact wx w0b (Zn) (Aer y1 y3 y5) Gb 34 [true, true] [pc e32 (k32 (⟨z0.2.1, z0.2.2.1⟩ : Ai) 6 _ h9) [0], pc e32 (k32 y8.2 z0.1 _ h12) [0], pa Bg 3 h14] [] 1 [0, 1, 2, 3, 4, 5, 9, 7, 8] _ hC [pq h7, pq h10] (sI h).symm
   ·exact wx w0b (Zn) (Aer y1 y3 y5) Gb 34 [true, false] [pc e32 (k32 (⟨z0.2.1, z0.2.2.1⟩ : Ai) 6 _ h9) [0]] [] 1 n9_ _ hC [pq h7, pq h10] (sI h).symm
  ·exact wx w0 (Aur) (Aya y1 y3 y5) Gb 26 [false] [] [] 1 n9_ (z0.1, z0.2.1, z0.2.2.1, (Ej z0)) hC [pq h7] (hb0 _ (sI h).symm)
 ·have h := hnext0 _ hs0
  obtain ⟨y15, h16, h⟩ := Av h
  refine wn Gb 24 [] [⟨.whenR [(decide (y1.1 > 2), true)] (.call 32 [dO 0 0, dI 2] [.box 90 [DS pI z0.2.1, I z0.2.2.1]] (dI y15.1) [.box 90 (d90 y15.2)] [0]), ⟨λ hg => ⟨e32, (k32 (⟨z0.2.1, z0.2.2.1⟩ : Ai) 2 _ (A9 h16 hg))⟩, λ hg => by have e := H4 h16 hg; subst e; rfl⟩⟩] [] 1 n9_ [0, 2, 3, 47] hC [] ?_
  obtain ⟨w1, h, hret1, hnext1⟩ := Ap h
  refine wc w1 (Aga) (Aiz y1 y3 y5 y15) ?_ λ z1 hs1 => ?_
  ·unfold Akm at h
   rcases cB h with ⟨h17, h⟩ | ⟨h17, h⟩
   ·obtain ⟨y18, h19, h⟩ := Av h
    exact wx w1 (Aga) (Aiz y1 y3 y5 y15) Gb 23 [true] [pa Bg 3 h19] [] 1 [0, 1, 2, 3, 4, 5, 9, 7, 8] _ hC [pq h17] (sI h).symm
   ·exact wx w1 (Aga) (Aiz y1 y3 y5 y15) Gb 23 [false] [] [] 1 n9_ _ hC [pq h17] (sI h).symm
  ·clear h; have h := hnext1 _ hs1
   obtain ⟨y20, h21, h⟩ := Av h
   refine ws Gb 24 [] [pc e32 (k32 y15.2 5 _ h21) [0]] [] 1 n9_ (Afl (y20.1, y20.2.L, y20.2.At, z1, ([] : List Bf))) (Asb y1 y3 y5 (y20.1, y20.2.L, y20.2.At, z1, ([] : List Bf))) hC [] ?_
   obtain ⟨w2, hm2, hret2, hnext2⟩ := Ap h
   clear h
   refine wc w2 (Auq) (Ax9 y1 y3 y5) ?_ λ z2 hs2 => ?_
   ·refine wb ?_
    refine ww (Afl) (Asb y1 y3 y5) hm2 λ z2 w2b h hb2 hr2 => ?_
    unfold qW at h
    rcases cB h with ⟨h22, h⟩ | ⟨h22, h⟩
    ·obtain ⟨y23, h24, y25, h26, y27, h28, y29, h30, h⟩ := Cy h
     obtain ⟨y31, h32, y33, h34, h⟩ := A8 h
     exact wx w2b (Afl) (Asb y1 y3 y5) Gb 35 [true] [pc e32 (k32 (⟨z2.2.1, z2.2.2.1⟩ : Ai) y1.1 _ h24) [0], pl Bu (Is z2), pa Bg 3 h26, pc e40 (k40 y23.2 [10, 50, 100] _ h28) [0], pc e40 (k40 y27.2 [0, 5, y27.1] _ h30) [0], pc e40 (k40 y29.2 [0, 1, 3] _ h32) [0], pa Bu 3 h34] [] 1 [0, 1, 2, 3, 4, 5, 9, 10, 8] _ hC [pq h22] (sI h).symm
    ·exact wx w2 (Auq) (Ax9 y1 y3 y5) Gb 26 [false] [] [] 1 n9_ (z2.1, z2.2.1, z2.2.2.1, (g3_ z2), (Is z2)) hC [pq h22] (hb2 _ (sI h).symm)
   ·have h := hnext2 _ hs2
    obtain ⟨y35, h36, h⟩ := Av h
    refine ws Gb 24 [] [pc e32 (k32 (⟨z2.2.1, z2.2.2.1⟩ : Ai) 6 _ h36) [0]] [] 1 n9_ (Zm (y35.1, y35.2.L, y35.2.At, (g3_ z2), ([] : List A1))) (Aeq y1 y3 y5 z2 (y35.1, y35.2.L, y35.2.At, (g3_ z2), ([] : List A1))) hC [] ?_
    obtain ⟨w3, hm3, hret3, hnext3⟩ := Ap h
    clear h
    refine wc w3 (Aup) (Ax8 y1 y3 y5 z2) ?_ λ z3 hs3 => ?_
    ·refine wb ?_
     refine ww (Zm) (Aeq y1 y3 y5 z2) hm3 λ z3 w3b h hb3 hr3 => ?_
     unfold qV at h
     rcases cB h with ⟨h37, h⟩ | ⟨h37, h⟩
     ·obtain ⟨y38, h39, y40, h41, y42, h43, h⟩ := By h
      refine wn Gb 37 [true] [pl q65 (Is z3), pc e32 (k32 (⟨z3.2.1, z3.2.2.1⟩ : Ai) y1.1 _ h39) [0], pa Bg 3 h41, ⟨.whenR [(decide (y1.1 > 1), true)] (.call 32 [dO 0 0, dI 4] [.box 90 (d90 y38.2)] (dI y42.1) [.box 90 (d90 y42.2)] [0]), ⟨λ hg => ⟨e32, (k32 y38.2 4 _ (A9 h43 hg))⟩, λ hg => by have e := H4 h43 hg; subst e; rfl⟩⟩] [] 1 [0, 1, 2, 3, 4, 5, 7, 8, 9] [0, 2, 3, 7, 8, 9, 121] hC [pq h37] ?_
      obtain ⟨w4, h, hret4, hnext4⟩ := Ap h
      refine wc w4 (Af9 z3) (Aiy y1 y3 y5 z2 z3 y42) ?_ λ z4 hs4 => ?_
      ·unfold Akl at h
       rcases cB h with ⟨h44, h⟩ | ⟨h44, h⟩
       ·obtain ⟨u46, h45, y47, h48, h⟩ := A8 h
        exact wx w4 (Af9 z3) (Aiy y1 y3 y5 z2 z3 y42) Gb 23 [true] [⟨.nz y1.1, Oy h45⟩, pa Bg 3 h48] [] 1 [0, 1, 2, 3, 4, 5, 6, 7, 9] _ hC [pq h44] (sI h).symm
       ·exact wx w4 (Af9 z3) (Aiy y1 y3 y5 z2 z3 y42) Gb 23 [false] [] [] 1 n9_ _ hC [pq h44] (sI h).symm
      ·clear h; have h := hnext4 _ hs4
       obtain ⟨y49, h50, y51, h52, y53, h54, h⟩ := By h
       obtain ⟨y55, h56, y57, h58, h⟩ := A8 h
       refine wn Gb 28 [] [pc e40 (k40 y42.2 [0, 5, 20, 40] _ h50) [0], ⟨.nz 2, Ox rfl⟩, pc e40 (k40 y49.2 [0, w64 (Int.tdiv y49.1 2), y49.1] _ h52) [0], pc e32 (k32 y51.2 3 _ h54) [0], pc e78 (k78 y53.2 (-1) 2 _ h56) [0], ⟨.whenR [(decide ((ln (Is z3)) > 0), true)] (.call 32 [dO 0 0, dI 4] [.box 90 (d90 y55.2)] (dI y57.1) [.box 90 (d90 y57.2)] [0]), ⟨λ hg => ⟨e32, (k32 y55.2 4 _ (A9 h58 hg))⟩, λ hg => by have e := H4 h58 hg; subst e; rfl⟩⟩] [.ownb 9 4 3 1] 1 Sz [0, 2, 3, 7, 8, 11, 155] hC [] ?_
       rcases cB h with ⟨h59, h⟩ | ⟨h59, h⟩
       ·obtain ⟨y60, h61, y62, h63, h⟩ := A8 h
        exact wx w3b (Zm) (Aeq y1 y3 y5 z2) Gb 26 [true] [pc e32 (k32 y57.2 (ln (Is z3)) _ h61) [0], pa q65 5 h63] [] 1 [0, 1, 2, 3, 4, 5, 8, 6, 11] _ hC [pq h59] (sI h).symm
       ·refine wn Gb 2 [false] [] [.frz 10] 1 Es [0, 2, 3, 7, 11] hC [pq h59] ?_
        obtain ⟨y64, h65, h⟩ := Av h
        exact wx w3b (Zm) (Aeq y1 y3 y5 z2) Gb 24 [] [pa q65 5 h65] [] 1 [0, 1, 2, 3, 4, 5, 8, 6, 10] _ hC [] (sI h).symm
     ·exact wx w3 (Aup) (Ax8 y1 y3 y5 z2) Gb 26 [false] [] [] 1 n9_ (z3.1, z3.2.1, z3.2.2.1, (g3_ z3), (Is z3)) hC [pq h37] (hb3 _ (sI h).symm)
    ·have h := hnext3 _ hs3
     replace h := sI h
     subst h
     exact wr Gb 23 [] [] [] 1 [0, 6, 7, 8] hC []
theorem e29 : EN 29 := en Tryz.func29
theorem k30 (x0 : Ai) (r : Bk × Ai) (h : F30 x0 = some r) : CO 30 [.d (.o 0 0)] [.box 90 (d90 x0)] (.agg (d31 r.1)) [.box 90 (d90 r.2)] := by
 unfold F30 at h
 refine co 13 Tryz.func30 λ C hC => ?_
 obtain ⟨y1, h2, y3, h4, y5, h6, h⟩ := By h
 replace h := sI h
 subst h
 exact wr [0, 2] 25 [] [pc e40 (k40 x0 [60, 80, 100] _ h2) [0], pc e40 (k40 y1.2 [1, 30, 50] _ h4) [0], pc e40 (k40 y3.2 [0, 1, 3] _ h6) [0]] [] 1 [0] hC []
theorem e30 : EN 30 := en Tryz.func30
def Ck : List Nat := [0, 1, 3, 4, 5, 6, 7, 8, 9, 11, 12, 13, 16, 17, 18, 30, 31, 32, 35, 36, 37, 38, 57, 67, 68, 69, 89, 90, 91, 92, 114, 119, 126]
def Sj (x1 : Aa) (z0 : Int × (List Int) × Int × (List Bool)) : St := [(0, dO 0 0), (3, dO 4 0), (4, dO 5 0), (5, dO 6 0), (16, dI (ln x1.Ae)), (17, dI z0.1)]
def Ys (x1 : Aa) (z0 : Int × (List Int) × Int × (List Bool)) : List Res := (.box 90 [DS pI z0.2.1, I z0.2.2.1] :: zs x1 (.box 29 [I x1.Aq, .os 1, .os 2, .os 3, I x1.Phase, I x1.Ar] :: .box 36 [.os 7, .os 8, .os 9, .os 10] :: .box 36 [.os 11, .os 12, .os 13, .os 14] :: ze [v2_ (Ej z0), v4_ ([] : List Ah), v0_ ([] : List Int), v3_ ([] : List Al)]))
def Abt  (z0 : Int × (List Int) × Int × (List Bool)) : St := [(0, dO 0 0), (3, dO 4 0), (4, dO 5 0), (5, dO 6 0)]
def Ade (x1 : Aa) (z0 : Int × (List Int) × Int × (List Bool)) : List Res := (.box 90 [DS pI z0.2.1, I z0.2.2.1] :: zs x1 (.box 29 [I x1.Aq, .os 1, .os 2, .os 3, I x1.Phase, I x1.Ar] :: .box 36 [.os 7, .os 8, .os 9, .os 10] :: .box 36 [.os 11, .os 12, .os 13, .os 14] :: ze [v2_ (Ej z0), v4_ ([] : List Ah), v0_ ([] : List Int), v3_ ([] : List Al)]))
def Si (x1 : Aa) (z1 : Int × (List Bool)) : St := [(0, dO 0 0), (3, dO 4 0), (4, dO 5 0), (5, dO 6 0), (30, dI (ln x1.Ad)), (31, dI z1.1)]
def Yr (x1 : Aa) (z0 : Int × (List Int) × Int × (List Bool)) (z1 : Int × (List Bool)) : List Res := (.box 90 [DS pI z0.2.1, I z0.2.2.1] :: zs x1 (.box 29 [I x1.Aq, .os 1, .os 2, .os 3, I x1.Phase, I x1.Ar] :: .box 36 [.os 7, .os 8, .os 9, .os 10] :: .box 36 [.os 11, .os 12, .os 13, .os 14] :: ze [v2_ z1.2, v4_ ([] : List Ah), v0_ ([] : List Int), v3_ ([] : List Al)]))
def Abs  (z1 : Int × (List Bool)) : St := [(0, dO 0 0), (3, dO 4 0), (4, dO 5 0), (5, dO 6 0)]
def Add (x1 : Aa) (z0 : Int × (List Int) × Int × (List Bool)) (z1 : Int × (List Bool)) : List Res := (.box 90 [DS pI z0.2.1, I z0.2.2.1] :: zs x1 (.box 29 [I x1.Aq, .os 1, .os 2, .os 3, I x1.Phase, I x1.Ar] :: .box 36 [.os 7, .os 8, .os 9, .os 10] :: .box 36 [.os 11, .os 12, .os 13, .os 14] :: ze [v2_ z1.2, v4_ ([] : List Ah), v0_ ([] : List Int), v3_ ([] : List Al)]))
def Na (x1 : Aa) (z1 : Int × (List Bool)) (n2 : Nat) (z2 : Bool × (List Bool)) : St := [(0, dO 0 0), (3, dO 4 0), (4, dO 5 0), (5, dO 6 0), (6, dI z1.1), (7, dB z2.1), (30, dI (ln x1.Ad)), (31, dI z1.1), (35, dS 1), (36, dI (ln x1.Ae)), (37, dI (cnt 0 n2))]
def Re (x1 : Aa) (z0 : Int × (List Int) × Int × (List Bool)) (n2 : Nat) (z2 : Bool × (List Bool)) : List Res := (.box 90 [DS pI z0.2.1, I z0.2.2.1] :: zs x1 (.box 29 [I x1.Aq, .os 1, .os 2, .os 3, I x1.Phase, I x1.Ar] :: .box 36 [.os 7, .os 8, .os 9, .os 10] :: .box 36 [.os 11, .os 12, .os 13, .os 14] :: ze [v2_ z2.2, v4_ ([] : List Ah), v0_ ([] : List Int), v3_ ([] : List Al)]))
def Abr (x1 : Aa) (z1 : Int × (List Bool)) (z2 : Bool × (List Bool)) : St := [(0, dO 0 0), (3, dO 4 0), (4, dO 5 0), (5, dO 6 0), (30, dI (ln x1.Ad)), (31, dI z1.1)]
def Adc (x1 : Aa) (z0 : Int × (List Int) × Int × (List Bool)) (z2 : Bool × (List Bool)) : List Res := (.box 90 [DS pI z0.2.1, I z0.2.2.1] :: zs x1 (.box 29 [I x1.Aq, .os 1, .os 2, .os 3, I x1.Phase, I x1.Ar] :: .box 36 [.os 7, .os 8, .os 9, .os 10] :: .box 36 [.os 11, .os 12, .os 13, .os 14] :: ze [v2_ z2.2, v4_ ([] : List Ah), v0_ ([] : List Int), v3_ ([] : List Al)]))
def Sh (x1 : Aa) (z3 : Sg6) : St := [(0, dO 0 0), (3, dO 4 0), (4, dO 5 0), (5, dO 6 0), (67, dI (ln x1.Ac)), (68, dI z3.1)]
def Yq (x1 : Aa) (z1 : Int × (List Bool)) (z3 : Sg6) : List Res := (.box 90 [DS pI z3.2.1, I z3.2.2.1] :: zs x1 (.box 29 [I x1.Aq, .os 1, .os 2, .os 3, I x1.Phase, I x1.Ar] :: .box 36 [.os 7, .os 8, .os 9, .os 10] :: .box 36 [.os 11, .os 12, .os 13, .os 14] :: ze [v2_ z1.2, v4_ (Ej z3), v0_ ([] : List Int), v3_ ([] : List Al)]))
def Abq  (z3 : Sg6) : St := [(0, dO 0 0), (3, dO 4 0), (4, dO 5 0), (5, dO 6 0)]
def Adb (x1 : Aa) (z1 : Int × (List Bool)) (z3 : Sg6) : List Res := (.box 90 [DS pI z3.2.1, I z3.2.2.1] :: zs x1 (.box 29 [I x1.Aq, .os 1, .os 2, .os 3, I x1.Phase, I x1.Ar] :: .box 36 [.os 7, .os 8, .os 9, .os 10] :: .box 36 [.os 11, .os 12, .os 13, .os 14] :: ze [v2_ z1.2, v4_ (Ej z3), v0_ ([] : List Int), v3_ ([] : List Al)]))
def Sg (x1 : Aa) (n4 : Nat) (z4 : (List Int) × Int × (List Int)) : St := [(0, dO 0 0), (3, dO 4 0), (4, dO 5 0), (5, dO 6 0), (89, dS 3), (90, dI (ln x1.Ad)), (91, dI (cnt 0 n4))]
def Yp (x1 : Aa) (z1 : Int × (List Bool)) (z3 : Sg6) (n4 : Nat) (z4 : (List Int) × Int × (List Int)) : List Res := (.box 90 [DS pI z4.1, I z4.2.1] :: zs x1 (.box 29 [I x1.Aq, .os 1, .os 2, .os 3, I x1.Phase, I x1.Ar] :: .box 36 [.os 7, .os 8, .os 9, .os 10] :: .box 36 [.os 11, .os 12, .os 13, .os 14] :: ze [v2_ z1.2, v4_ (Ej z3), v0_ z4.2.2, v3_ ([] : List Al)]))
def Abp  (z4 : (List Int) × Int × (List Int)) : St := [(0, dO 0 0), (3, dO 4 0), (4, dO 5 0), (5, dO 6 0)]
def Ada (x1 : Aa) (z1 : Int × (List Bool)) (z3 : Sg6) (z4 : (List Int) × Int × (List Int)) : List Res := (.box 90 [DS pI z4.1, I z4.2.1] :: zs x1 (.box 29 [I x1.Aq, .os 1, .os 2, .os 3, I x1.Phase, I x1.Ar] :: .box 36 [.os 7, .os 8, .os 9, .os 10] :: .box 36 [.os 11, .os 12, .os 13, .os 14] :: ze [v2_ z1.2, v4_ (Ej z3), v0_ z4.2.2, v3_ ([] : List Al)]))
def Kk  (z5 : Int × (List Int) × Int × (List Al)) : St := [(0, dO 0 0), (3, dO 4 0), (4, dO 5 0), (5, dO 6 0), (12, dI z5.1)]
def Mt (x1 : Aa) (z1 : Int × (List Bool)) (z3 : Sg6) (z4 : (List Int) × Int × (List Int)) (z5 : Int × (List Int) × Int × (List Al)) : List Res := (.box 90 [DS pI z5.2.1, I z5.2.2.1] :: zs x1 (.box 29 [I x1.Aq, .os 1, .os 2, .os 3, I x1.Phase, I x1.Ar] :: .box 36 [.os 7, .os 8, .os 9, .os 10] :: .box 36 [.os 11, .os 12, .os 13, .os 14] :: ze [v2_ z1.2, v4_ (Ej z3), v0_ z4.2.2, v3_ (Ej z5)]))
def Abo  (z5 : Int × (List Int) × Int × (List Al)) : St := [(4, dO 4 0), (5, dO 5 0)]
def Ac9 (x1 : Aa) (z1 : Int × (List Bool)) (z3 : Sg6) (z4 : (List Int) × Int × (List Int)) (z5 : Int × (List Int) × Int × (List Al)) : List Res := (.box 90 [DS pI z5.2.1, I z5.2.2.1] :: zs x1 (.box 36 [.os 6, .os 7, .os 8, .os 9] :: .box 36 [.os 10, .os 11, .os 12, .os 13] :: ze [v2_ z1.2, v4_ (Ej z3), v0_ z4.2.2, v3_ (Ej z5)]))
set_option maxHeartbeats 4000000 in
theorem A6c (x0 : Ai) (x1 : Aa) (r : Ab × Ai) (h : U3 x0 x1 = some r) : CO 132 [.d (.o 0 0), .agg [I x1.Aq, .os 1, .os 2, .os 3, I x1.Phase, I x1.Ar]] (.box 90 (d90 x0) :: zs x1 []) (.agg [.os 4, .os 5, .os 6, .os 7]) (.box 90 (d90 r.2) :: zs x1 (zp r.1 [])) := by
 unfold U3 at h
 refine co 134 Tryz.func132 λ C hC => ?_
 refine ws Ck 28 [] [pl Bg x1.Ae] [.ownb 5 0 4 1, .ownb 5 1 120 4, .ownb 5 2 3 1, .ownb 5 3 86 2, .ownb 6 0 4 1, .ownb 6 1 120 4, .ownb 6 2 3 1, .ownb 6 3 86 2] 4 F6 (Sj x1 (0, x0.L, x0.At, ([] : List Bool))) (Ys x1 (0, x0.L, x0.At, ([] : List Bool))) hC [] ?_
 obtain ⟨w0, hm0, hret0, hnext0⟩ := Ap h
 clear h
 refine wc w0 (Abt) (Ade x1) ?_ λ z0 hs0 => ?_
 ·refine wb ?_
  refine ww (Sj x1) (Ys x1) hm0 λ z0 w0b h hb0 hr0 => ?_
  unfold N4 at h
  rcases cB h with ⟨h1, h⟩ | ⟨h1, h⟩
  ·obtain ⟨y2, h3, y4, h5, h⟩ := A8 h
   exact wx w0b (Sj x1) (Ys x1) Ck 31 [true] [pc e32 (k32 (⟨z0.2.1, z0.2.2.1⟩ : Ai) 2 _ h3) [0], pa pB 1 h5] [] 4 [0, 1, 2, 3, 4, 5, 6, 7, 8, 9, 10, 15, 12, 13, 14] _ hC [pq h1] (sI h).symm
  ·exact wx w0 (Abt) (Ade x1) Ck 26 [false] [] [] 4 F6 (z0.1, z0.2.1, z0.2.2.1, (Ej z0)) hC [pq h1] (hb0 _ (sI h).symm)
 ·have h := hnext0 _ hs0
  refine ws Ck 24 [] [pl q65 x1.Ad] [] 4 F6 (Si x1 (0, (Ej z0))) (Yr x1 z0 (0, (Ej z0))) hC [] ?_
  obtain ⟨w1, hm1, hret1, hnext1⟩ := Ap h
  clear h
  refine wc w1 (Abs) (Add x1 z0) ?_ λ z1 hs1 => ?_
  ·refine wb ?_
   refine ww (Si x1) (Yr x1 z0) hm1 λ z1 w1b h hb1 hr1 => ?_
   unfold N3 at h
   rcases cB h with ⟨h6, h⟩ | ⟨h6, h⟩
   ·refine ws Ck 34 [true] [pl Bg x1.Ae] [] 4 F6 (Na x1 z1 0 (true, z1.2)) (Re x1 z0 0 (true, z1.2)) hC [pq h6] ?_
    obtain ⟨w2, hm2, hret2, hnext2⟩ := Ap h
    clear h
    refine wc w2 (Abr x1 z1) (Adc x1 z0) ?_ λ z2 hs2 => ?_
    ·refine wb ?_
     refine B3 35 1 rfl rfl λ hl2 => ?_
     refine wl (Na x1 z1) (Re x1 z0) hm2 (λ z2 hn2 => ?_) λ n2 a2 z2 w2b hi2 hx2 h hb2 hr2 => ?_
     ·clear hm2
      exact wx w2 (Abr x1 z1) (Adc x1 z0) Ck 26 [false] [] [] 4 F6 _ hC [pq (A7 hl2)] hn2
     ·unfold N2 at h
      obtain ⟨y7, h8, h⟩ := Av h
      refine wn Ck 32 [true] [pr Bg (Be hx2 hl2), pn Bg (Be hx2 hl2), pR pB h8, pN pB h8] [] 4 F6 [0, 3, 4, 5, 6, 7, 8, 30, 31, 35, 36, 37, 57] hC [pq (A5 hi2 hl2)] ?_
      rcases cB h with ⟨h9, h⟩ | ⟨h9, h⟩
      ·obtain ⟨y10, h11, y12, h13, h⟩ := A8 h
       exact wx w2b (Na x1 z1 (n2 + 1)) (Re x1 z0 (n2 + 1)) Ck 27 [true] [pr pB h11, pu pB h11 h13] [] 4 F6 _ hC [pq h9] (sI h).symm
      ·exact wx w2b (Na x1 z1 (n2 + 1)) (Re x1 z0 (n2 + 1)) Ck 25 [false] [] [] 4 F6 _ hC [pq h9] (sI h).symm
    ·have h := hnext2 _ hs2
     exact wx w1b (Si x1) (Yr x1 z0) Ck 23 [] [] [] 4 F6 _ hC [] (sI h).symm
   ·exact wx w1 (Abs) (Add x1 z0) Ck 26 [false] [] [] 4 F6 (z1.1, z1.2) hC [pq h6] (hb1 _ (sI h).symm)
  ·have h := hnext1 _ hs1
   refine ws Ck 24 [] [pl Bu x1.Ac] [] 4 F6 (Sh x1 (0, z0.2.1, z0.2.2.1, ([] : List Ah))) (Yq x1 z1 (0, z0.2.1, z0.2.2.1, ([] : List Ah))) hC [] ?_
   obtain ⟨w3, hm3, hret3, hnext3⟩ := Ap h
   clear h
   refine wc w3 (Abq) (Adb x1 z1) ?_ λ z3 hs3 => ?_
   ·refine wb ?_
    refine ww (Sh x1) (Yq x1 z1) hm3 λ z3 w3b h hb3 hr3 => ?_
    unfold N1 at h
    rcases cB h with ⟨h14, h⟩ | ⟨h14, h⟩
    ·obtain ⟨y15, h16, y17, h18, y19, h20, h⟩ := By h
     obtain ⟨y21, h22, y23, h24, h⟩ := A8 h
     exact wx w3b (Sh x1) (Yq x1 z1) Ck 31 [true] [pc e40 (k40 (⟨z3.2.1, z3.2.2.1⟩ : Ai) [0, 1, 2, 2, 2, 3] _ h16) [0], pc e32 (k32 y15.2 5 _ h18) [0], pc e40 (k40 y17.2 [5000, 5000, 5005, 4950] _ h20) [0], pc e40 (k40 y19.2 [0, 0, 40, 1800, 3590] _ h22) [0], pa A_ 4 h24] [] 4 [0, 1, 2, 3, 4, 5, 6, 7, 8, 9, 10, 11, 15, 13, 14] _ hC [pq h14] (sI h).symm
    ·exact wx w3 (Abq) (Adb x1 z1) Ck 26 [false] [] [] 4 F6 (z3.1, z3.2.1, z3.2.2.1, (Ej z3)) hC [pq h14] (hb3 _ (sI h).symm)
   ·have h := hnext3 _ hs3
    refine ws Ck 24 [] [pl q65 x1.Ad] [] 4 F6 (Sg x1 0 (z3.2.1, z3.2.2.1, ([] : List Int))) (Yp x1 z1 z3 0 (z3.2.1, z3.2.2.1, ([] : List Int))) hC [] ?_
    obtain ⟨w4, hm4, hret4, hnext4⟩ := Ap h
    clear h
    refine wc w4 (Abp) (Ada x1 z1 z3) ?_ λ z4 hs4 => ?_
    ·refine wb ?_
     refine B3 89 3 rfl rfl λ hl4 => ?_
     refine wl (Sg x1) (Yp x1 z1 z3) hm4 (λ z4 hn4 => ?_) λ n4 a4 z4 w4b hi4 hx4 h hb4 hr4 => ?_
     ·clear hm4
      exact wx w4 (Abp) (Ada x1 z1 z3) Ck 26 [false] [] [] 4 F6 _ hC [pq (A7 hl4)] hn4
     ·unfold N0 at h
      obtain ⟨y25, h26, y27, h28, h⟩ := A8 h
      exact wx w4b (Sg x1 (n4 + 1)) (Yp x1 z1 z3 (n4 + 1)) Ck 33 [true] [pr q65 (Be hx4 hl4), pn q65 (Be hx4 hl4), ⟨.nz 3, Ox rfl⟩, pc e40 (k40 (⟨z4.1, z4.2.1⟩ : Ai) [a4.Load, a4.Load, a4.Least, w64 (Int.tdiv a4.Load 3)] _ h26) [0], pa pI 1 h28] [] 4 [0, 1, 2, 3, 4, 5, 6, 7, 8, 9, 10, 11, 12, 16, 14] _ hC [pq (A5 hi4 hl4)] (sI h).symm
    ·have h := hnext4 _ hs4
     refine ws Ck 24 [] [] [] 4 F6 (Kk (1, z4.1, z4.2.1, ([] : List Al))) (Mt x1 z1 z3 z4 (1, z4.1, z4.2.1, ([] : List Al))) hC [] ?_
     obtain ⟨w5, hm5, hret5, hnext5⟩ := Ap h
     clear h
     refine wc w5 (Abo) (Ac9 x1 z1 z3 z4) ?_ λ z5 hs5 => ?_
     ·refine wb ?_
      refine ww (Kk) (Mt x1 z1 z3 z4) hm5 λ z5 w5b h hb5 hr5 => ?_
      unfold Nz at h
      rcases cB h with ⟨h29, h⟩ | ⟨h29, h⟩
      ·obtain ⟨y30, h31, h⟩ := Av h
       rcases cB h with ⟨h32, h⟩ | ⟨h32, h⟩
       ·obtain ⟨y33, h34, h⟩ := Av h
        refine wn Ck 35 [true, true] [pc e32 (k32 (⟨z5.2.1, z5.2.2.1⟩ : Ai) 5 _ h31) [0], pc e32 (k32 y30.2 4 _ h34) [0], pb e71 (k71 x1 (⟨z5.1, y33.1⟩ : Al) _ rfl)] [] 4 Xn [0, 3, 4, 5, 12, 13, 126] hC [pq h29, pq h32] ?_
        rcases cB h with ⟨h35, h⟩ | ⟨h35, h⟩
        ·obtain ⟨y36, h37, h⟩ := Av h
         exact wx w5b (Kk) (Mt x1 z1 z3 z4) Ck 25 [true] [pa q86 2 h37] [] 4 [0, 1, 2, 3, 4, 5, 6, 7, 8, 9, 10, 11, 12, 13, 16] _ hC [pq h35] (sI h).symm
        ·exact wx w5b (Kk) (Mt x1 z1 z3 z4) Ck 25 [false] [] [] 4 F6 _ hC [pq h35] (sI h).symm
       ·exact wx w5b (Kk) (Mt x1 z1 z3 z4) Ck 34 [true, false] [pc e32 (k32 (⟨z5.2.1, z5.2.2.1⟩ : Ai) 5 _ h31) [0]] [] 4 F6 _ hC [pq h29, pq h32] (sI h).symm
      ·exact wx w5 (Abo) (Ac9 x1 z1 z3 z4) Ck 26 [false] [] [] 4 [0, 1, 2, 3, 5, 6, 7, 8, 9, 10, 11, 12, 13, 14] (z5.1, z5.2.1, z5.2.2.1, (Ej z5)) hC [pq h29] (hb5 _ (sI h).symm)
     ·have h := hnext5 _ hs5
      replace h := sI h
      subst h
      exact wr Ck 23 [] [] [] 4 [0, 1, 2, 3, 10, 11, 12, 13] hC []
theorem A78 : EN 132 := en Tryz.func132
def D1 : List Nat := [0, 1, 2, 3, 4, 5, 7, 8, 9, 10, 11, 12, 13, 15, 19, 45, 47, 48, 49, 50, 74, 77, 78, 79, 80, 92, 97, 99, 100, 101, 102, 124, 128, 129, 130, 134, 135, 136, 137, 144, 149]
def Afc (x1 : Ab) (n0 : Nat) (z0 : Unit) : St := [(2, dO 0 0), (3, dO 1 0), (4, dI 0), (47, .d (DS A_ x1.Ac)), (48, dI (ln x1.Ac)), (49, dI (cnt 0 n0))]
def Ar3 (x0 : Aa) (x1 : Ab) (n0 : Nat) (z0 : Unit) : List Res := [.box 29 (d29 x0), .box 36 (d36 x1)]
def Auh  (z0 : Unit) : St := [(2, dO 0 0), (3, dO 1 0), (4, dI 0)]
def Ax0 (x0 : Aa) (x1 : Ab) (z0 : Unit) : List Res := [.box 29 (d29 x0), .box 36 (d36 x1)]
def Afb (x1 : Ab) (n1 : Nat) (z1 : Unit) : St := [(2, dO 0 0), (3, dO 1 0), (4, dI 0), (77, .d (DS pI x1.Ak)), (78, dI (ln x1.Ak)), (79, dI (cnt 0 n1))]
def Ar2 (x0 : Aa) (x1 : Ab) (n1 : Nat) (z1 : Unit) : List Res := [.box 29 (d29 x0), .box 36 (d36 x1)]
def Aug  (z1 : Unit) : St := [(2, dO 0 0), (3, dO 1 0), (4, dI 0)]
def Axz (x0 : Aa) (x1 : Ab) (z1 : Unit) : List Res := [.box 29 (d29 x0), .box 36 (d36 x1)]
def Afa (x1 : Ab) (n2 : Nat) (z2 : Unit) : St := [(2, dO 0 0), (3, dO 1 0), (4, dI 0), (99, .d (DS q86 x1.Ao)), (100, dI (ln x1.Ao)), (101, dI (cnt 0 n2))]
def Ar1 (x0 : Aa) (x1 : Ab) (n2 : Nat) (z2 : Unit) : List Res := [.box 29 (d29 x0), .box 36 (d36 x1)]
def Auf  (z2 : Unit) : St := [(2, dO 0 0), (3, dO 1 0), (4, dI 0)]
def Axy (x0 : Aa) (x1 : Ab) (z2 : Unit) : List Res := [.box 29 (d29 x0), .box 36 (d36 x1)]
def Ae9 (x0 : Aa) (z3 : Int) : St := [(2, dO 0 0), (3, dO 1 0), (4, dI 0), (128, dI (ln x0.Ad)), (129, dI z3)]
def Ar0 (x0 : Aa) (x1 : Ab) (z3 : Int) : List Res := [.box 29 (d29 x0), .box 36 (d36 x1)]
def Aue  (z3 : Int) : St := [(4, dI 0)]
def Axx  (z3 : Int) : List Res := []
def Zl (x0 : Aa) (z3 : Int) (y14 : (List Int)) (n4 : Nat) (z4 : Int) : St := [(2, dO 0 0), (3, dO 1 0), (4, dI 0), (13, dI z4), (128, dI (ln x0.Ad)), (129, dI z3), (134, dS 2), (135, dI (ln y14)), (136, dI (cnt 0 n4))]
def Aep (x0 : Aa) (x1 : Ab) (y14 : (List Int)) (n4 : Nat) (z4 : Int) : List Res := [.box 29 (d29 x0), .box 36 (d36 x1), v0_ y14]
def Aud (x0 : Aa) (z3 : Int) (z4 : Int) : St := [(2, dO 0 0), (3, dO 1 0), (4, dI 0), (13, dI z4), (128, dI (ln x0.Ad)), (129, dI z3)]
def Axw (x0 : Aa) (x1 : Ab) (z4 : Int) : List Res := [.box 29 (d29 x0), .box 36 (d36 x1)]
set_option maxHeartbeats 4000000 in
theorem k53 (x0 : Aa) (x1 : Ab) (r : Int) (h : F53 x0 x1 = some r) : CO 53 [.agg (d29 x0), .agg (d36 x1)] [] (.d (I r)) [] := by
 unfold F53 at h
 refine co 151 Tryz.func53 λ C hC => ?_
 obtain ⟨y1, h2, h⟩ := Av h
 rcases cB h with ⟨h3, h⟩ | ⟨h3, h⟩
 ·replace h := sI h
  subst h
  exact wr D1 31 [true] [pc Aq7 (Aqt x0 _ h2) []] [] 0 [] hC [pq h3]
 ·refine wn D1 33 [false] [pc Aq7 (Aqt x0 _ h2) [], pl pB x1.Ag, pl Bg x0.Ae, pL_ [(((ln x1.Ag) != (ln x0.Ae)), false)] A_ x1.Ac, pL_ [(((ln x1.Ag) != (ln x0.Ae)), false)] Bu x0.Ac, pL_ [((((ln x1.Ag) != (ln x0.Ae)) || ((ln x1.Ac) != (ln x0.Ac))), false)] pI x1.Ak, pL_ [((((ln x1.Ag) != (ln x0.Ae)) || ((ln x1.Ac) != (ln x0.Ac))), false)] q65 x0.Ad] [] 0 [0, 1] [2, 3, 4, 45] hC [pq h3] ?_
  rcases cB h with ⟨h4, h⟩ | ⟨h4, h⟩
  ·replace h := sI h
   subst h
   exact wr D1 24 [true] [] [] 0 [] hC [pq h4]
  ·refine ws D1 26 [false] [pl A_ x1.Ac] [] 0 [0, 1] (Afc x1 0 ()) (Ar3 x0 x1 0 ()) hC [pq h4] ?_
   obtain ⟨w0, hm0, hret0, hnext0⟩ := Ap h
   clear h
   refine wc w0 (Auh) (Ax0 x0 x1) ?_ λ z0 hs0 => ?_
   ·refine wb ?_
    refine Bp 47 rfl λ hl0 => ?_
    refine wl (Afc x1) (Ar3 x0 x1) hm0 (λ z0 hn0 => ?_) λ n0 a0 z0 w0b hi0 hx0 h hb0 hr0 => ?_
    ·clear hm0
     exact wx w0 (Auh) (Ax0 x0 x1) D1 26 [false] [] [] 0 [0, 1] _ hC [pq (A7 hl0)] hn0
    ·unfold Akg at h
     refine wn D1 32 [true] [pt hx0 hl0, pc Fo (Fl a0.State 0 3 _ rfl) [], ⟨.when [(!(B7 a0.State 0 3), false)] (.call 112 [dI a0.Since, dI 0, dI 2147483648] [] (dB (B7 a0.Since 0 2147483648)) [] []), λ hg => ⟨Fo, (Fl a0.Since 0 2147483648 _ rfl)⟩⟩, ⟨.when [(((!(B7 a0.State 0 3)) || (!(B7 a0.Since 0 2147483648))), false)] (.call 112 [dI a0.Ar, dI 0, dI 6000] [] (dB (B7 a0.Ar 0 6000)) [] []), λ hg => ⟨Fo, (Fl a0.Ar 0 6000 _ rfl)⟩⟩, ⟨.when [((((!(B7 a0.State 0 3)) || (!(B7 a0.Since 0 2147483648))) || (!(B7 a0.Ar 0 6000))), false)] (.call 112 [dI a0.Phase, dI 0, dI 3599] [] (dB (B7 a0.Phase 0 3599)) [] []), λ hg => ⟨Fo, (Fl a0.Phase 0 3599 _ rfl)⟩⟩] [] 0 [0, 1] [2, 3, 4, 47, 48, 49, 74] hC [pq (A5 hi0 hl0)] ?_
     rcases cB h with ⟨h5, h⟩ | ⟨h5, h⟩
     ·have hq := hret0 _ (hr0 _ (sI h).symm)
      replace hq := sI hq
      subst hq
      exact wr D1 24 [true] [] [] 0 [] hC [pq h5]
     ·exact wx w0b (Afc x1 (n0 + 1)) (Ar3 x0 x1 (n0 + 1)) D1 25 [false] [] [] 0 [0, 1] _ hC [pq h5] (sI h).symm
   ·have h := hnext0 _ hs0
    refine ws D1 24 [] [pl pI x1.Ak] [] 0 [0, 1] (Afb x1 0 ()) (Ar2 x0 x1 0 ()) hC [] ?_
    obtain ⟨w1, hm1, hret1, hnext1⟩ := Ap h
    clear h
    refine wc w1 (Aug) (Axz x0 x1) ?_ λ z1 hs1 => ?_
    ·refine wb ?_
     refine Bp 77 rfl λ hl1 => ?_
     refine wl (Afb x1) (Ar2 x0 x1) hm1 (λ z1 hn1 => ?_) λ n1 a1 z1 w1b hi1 hx1 h hb1 hr1 => ?_
     ·clear hm1
      exact wx w1 (Aug) (Axz x0 x1) D1 26 [false] [] [] 0 [0, 1] _ hC [pq (A7 hl1)] hn1
     ·unfold Akf at h
      obtain ⟨y6, h7, h⟩ := Av h
      refine wn D1 32 [true] [pt hx1 hl1, pr q65 h7, pc Fo (Fl a1 0 y6.Load _ rfl) []] [] 0 [0, 1] [2, 3, 4, 77, 78, 79, 92] hC [pq (A5 hi1 hl1)] ?_
      rcases cB h with ⟨h8, h⟩ | ⟨h8, h⟩
      ·have hq := hret1 _ (hr1 _ (sI h).symm)
       replace hq := sI hq
       subst hq
       exact wr D1 24 [true] [] [] 0 [] hC [pq h8]
      ·exact wx w1b (Afb x1 (n1 + 1)) (Ar2 x0 x1 (n1 + 1)) D1 25 [false] [] [] 0 [0, 1] _ hC [pq h8] (sI h).symm
    ·have h := hnext1 _ hs1
     rcases cB h with ⟨h9, h⟩ | ⟨h9, h⟩
     ·replace h := sI h
      subst h
      exact wr D1 27 [true] [pl q86 x1.Ao] [] 0 [] hC [pq h9]
     ·refine ws D1 29 [false] [pl q86 x1.Ao, pl q86 x1.Ao] [] 0 [0, 1] (Afa x1 0 ()) (Ar1 x0 x1 0 ()) hC [pq h9] ?_
      obtain ⟨w2, hm2, hret2, hnext2⟩ := Ap h
      clear h
      refine wc w2 (Auf) (Axy x0 x1) ?_ λ z2 hs2 => ?_
      ·refine wb ?_
       refine Bp 99 rfl λ hl2 => ?_
       refine wl (Afa x1) (Ar1 x0 x1) hm2 (λ z2 hn2 => ?_) λ n2 a2 z2 w2b hi2 hx2 h hb2 hr2 => ?_
       ·clear hm2
        exact wx w2 (Auf) (Axy x0 x1) D1 26 [false] [] [] 0 [0, 1] _ hC [pq (A7 hl2)] hn2
       ·unfold Ake at h
        obtain ⟨y10, h11, h⟩ := Av h
        refine wn D1 32 [true] [pt hx2 hl2, pc e71 (k71 x0 a2 _ rfl) [], pR q86 h11, ⟨.when [(!(F71 x0 a2), false), (decide ((cnt 0 n2) > 0), true)] (.call 113 [.agg (d86 y10), .agg (d86 a2)] [] (dB (Aai y10 a2)) [] []), λ hg => ⟨Bcs, (Bbb y10 a2 _ rfl)⟩⟩] [] 0 [0, 1] [2, 3, 4, 99, 100, 101, 124] hC [pq (A5 hi2 hl2)] ?_
        rcases cB h with ⟨h12, h⟩ | ⟨h12, h⟩
        ·have hq := hret2 _ (hr2 _ (sI h).symm)
         replace hq := sI hq
         subst hq
         exact wr D1 24 [true] [] [] 0 [] hC [pq h12]
        ·exact wx w2b (Afa x1 (n2 + 1)) (Ar1 x0 x1 (n2 + 1)) D1 25 [false] [] [] 0 [0, 1] _ hC [pq h12] (sI h).symm
      ·have h := hnext2 _ hs2
       refine ws D1 24 [] [pl q65 x0.Ad] [] 0 [0, 1] (Ae9 x0 0) (Ar0 x0 x1 0) hC [] ?_
       obtain ⟨w3, hm3, hret3, hnext3⟩ := Ap h
       clear h
       refine wc w3 (Aue) (Axx) ?_ λ z3 hs3 => ?_
       ·refine wb ?_
        refine ww (Ae9 x0) (Ar0 x0 x1) hm3 λ z3 w3b h hb3 hr3 => ?_
        unfold Akd at h
        rcases cB h with ⟨h13, h⟩ | ⟨h13, h⟩
        ·obtain ⟨y14, h15, h⟩ := Av h
         refine ws D1 35 [true] [pc e77 (k77 x0 3 z3 _ h15) [], pl pI y14] [] 0 n3_ (Zl x0 z3 y14 0 0) (Aep x0 x1 y14 0 0) hC [pq h13] ?_
         obtain ⟨w4, hm4, hret4, hnext4⟩ := Ap h
         clear h
         refine wc w4 (Aud x0 z3) (Axw x0 x1) ?_ λ z4 hs4 => ?_
         ·refine wb ?_
          refine B3 134 2 rfl rfl λ hl4 => ?_
          refine wl (Zl x0 z3 y14) (Aep x0 x1 y14) hm4 (λ z4 hn4 => ?_) λ n4 a4 z4 w4b hi4 hx4 h hb4 hr4 => ?_
          ·clear hm4
           exact wx w4 (Aud x0 z3) (Axw x0 x1) D1 26 [false] [] [] 0 [0, 1] _ hC [pq (A7 hl4)] hn4
          ·unfold Akc at h
           obtain ⟨y16, h17, h⟩ := Av h
           rcases cB h with ⟨h18, h⟩ | ⟨h18, h⟩
           ·exact wx w4b (Zl x0 z3 y14 (n4 + 1)) (Aep x0 x1 y14 (n4 + 1)) D1 36 [true, true] [pr pI (Be hx4 hl4), pn pI (Be hx4 hl4), pr pB h17] [] 0 n3_ _ hC [pq (A5 hi4 hl4), pq h18] (sI h).symm
           ·exact wx w4b (Zl x0 z3 y14 (n4 + 1)) (Aep x0 x1 y14 (n4 + 1)) D1 36 [true, false] [pr pI (Be hx4 hl4), pn pI (Be hx4 hl4), pr pB h17] [] 0 n3_ _ hC [pq (A5 hi4 hl4), pq h18] (sI h).symm
         ·have h := hnext4 _ hs4
          rcases cB h with ⟨h19, h⟩ | ⟨h19, h⟩
          ·have hq := hret3 _ (hr3 _ (sI h).symm)
           replace hq := sI hq
           subst hq
           exact wr D1 26 [true] [] [] 0 [] hC [pq h19]
          ·exact wx w3b (Ae9 x0) (Ar0 x0 x1) D1 27 [false] [] [] 0 [0, 1] _ hC [pq h19] (sI h).symm
        ·exact wx w3 (Aue) (Axx) D1 26 [false] [] [] 0 [] z3 hC [pq h13] (hb3 _ (sI h).symm)
       ·have h := hnext3 _ hs3
        replace h := sI h
        subst h
        exact wr D1 23 [] [] [] 0 [] hC []
theorem e53 : EN 53 := en Tryz.func53
def Ga : List Nat := [0, 1, 3, 4, 5, 10, 11, 21, 31, 44, 59]
def Xg (y1 : Int × Ai) (z0 : Bool) : St := [(0, dO 0 0), (3, dO 4 0), (4, dO 5 0), (5, dO 6 0), (10, dI y1.1), (11, dB z0)]
def X9 (x1 : Aa) (y1 : Int × Ai) (z0 : Bool) : List Res := (.box 90 (d90 y1.2) :: zs x1 [.box 29 [I x1.Aq, .os 1, .os 2, .os 3, I x1.Phase, I x1.Ar], .box 49 [I 0, I 0, I 0], .box 49 [I y1.1, I 0, I 0]])
def Xf (y1 : Int × Ai) (z1 : Bool) : St := [(0, dO 0 0), (3, dO 4 0), (4, dO 5 0), (5, dO 6 0), (10, dI y1.1), (21, dB z1)]
def X8 (x1 : Aa) (y1 : Int × Ai) (z1 : Bool) : List Res := (.box 90 (d90 y1.2) :: zs x1 [.box 29 [I x1.Aq, .os 1, .os 2, .os 3, I x1.Phase, I x1.Ar], .box 49 [I 0, I 0, I 0], .box 49 [I y1.1, I 0, I 0]])
theorem A9r (x0 : Ai) (x1 : Aa) (r : An × Ai) (h : qT x0 x1 = some r) : CO 33 [.d (.o 0 0), .agg [I x1.Aq, .os 1, .os 2, .os 3, I x1.Phase, I x1.Ar]] (.box 90 (d90 x0) :: zs x1 []) (.agg (d49 r.1)) (.box 90 (d90 r.2) :: zs x1 []) := by
 unfold qT at h
 refine co 69 Tryz.func33 λ C hC => ?_
 obtain ⟨y1, h2, h⟩ := Av h
 refine wn Ga 32 [] [pc e78 (k78 x0 1 9 _ h2) [0]] [] 4 n7_ [0, 3, 4, 5, 10, 11] hC [] ?_
 obtain ⟨w0, h, hret0, hnext0⟩ := Ap h
 refine wc w0 (Xg y1) (X9 x1 y1) ?_ λ z0 hs0 => ?_
 ·unfold Yy at h
  rcases cB h with ⟨h3, h⟩ | ⟨h3, h⟩
  ·exact wx w0 (Xg y1) (X9 x1 y1) Ga 23 [true] [] [] 4 n7_ _ hC [pq h3] (sI h).symm
  ·exact wx w0 (Xg y1) (X9 x1 y1) Ga 23 [false] [] [] 4 n7_ _ hC [pq h3] (sI h).symm
 ·clear h; have h := hnext0 _ hs0
  rcases cB h with ⟨h4, h⟩ | ⟨h4, h⟩
  ·obtain ⟨y5, h6, h⟩ := Av h
   replace h := sI h
   subst h
   exact wr Ga 26 [true] [pl Bg x1.Ae, pc e32 (k32 y1.2 (w64 ((ln x1.Ae) + 1)) _ h6) [0]] [] 4 n4_ hC [pq h4]
  ·refine wn Ga 25 [false] [] [] 4 n7_ [0, 3, 4, 5, 10, 21] hC [pq h4] ?_
   obtain ⟨w1, h, hret1, hnext1⟩ := Ap h
   refine wc w1 (Xf y1) (X8 x1 y1) ?_ λ z1 hs1 => ?_
   ·unfold Yx at h
    rcases cB h with ⟨h7, h⟩ | ⟨h7, h⟩
    ·exact wx w1 (Xf y1) (X8 x1 y1) Ga 23 [true] [] [] 4 n7_ _ hC [pq h7] (sI h).symm
    ·exact wx w1 (Xf y1) (X8 x1 y1) Ga 23 [false] [] [] 4 n7_ _ hC [pq h7] (sI h).symm
   ·clear h; have h := hnext1 _ hs1
    rcases cB h with ⟨h8, h⟩ | ⟨h8, h⟩
    ·obtain ⟨y9, h10, h⟩ := Av h
     replace h := sI h
     subst h
     exact wr Ga 26 [true] [pl Bu x1.Ac, pc e32 (k32 y1.2 (w64 ((ln x1.Ac) + 1)) _ h10) [0]] [] 4 n4_ hC [pq h8]
    ·rcases cB h with ⟨h11, h⟩ | ⟨h11, h⟩
     ·obtain ⟨y12, h13, y14, h15, h⟩ := A8 h
      replace h := sI h
      subst h
      exact wr Ga 29 [false, true] [pl q65 x1.Ad, pc e32 (k32 y1.2 (w64 ((ln x1.Ad) + 1)) _ h13) [0], pc e40 (k40 y12.2 [0, 5, 20, 41] _ h15) [0]] [] 4 n4_ hC [pq h8, pq h11]
     ·rcases cB h with ⟨h16, h⟩ | ⟨h16, h⟩
      ·obtain ⟨y17, h18, y19, h20, h⟩ := A8 h
       replace h := sI h
       subst h
       exact wr Ga 32 [false, false, true] [pl Bu x1.Ac, pc e32 (k32 y1.2 (w64 ((ln x1.Ac) + 1)) _ h18) [0], pc e32 (k32 y17.2 (w64 (x1.Aq + 1)) _ h20) [0]] [] 4 n4_ hC [pq h8, pq h11, pq h16]
      ·rcases cB h with ⟨h21, h⟩ | ⟨h21, h⟩
       ·obtain ⟨y22, h23, y24, h25, h⟩ := A8 h
        replace h := sI h
        subst h
        exact wr Ga 38 [false, false, false, true, true] [pc e78 (k78 y1.2 1 4 _ h23) [0], pc e32 (k32 y22.2 4 _ h25) [0]] [] 4 n4_ hC [pq h8, pq h11, pq h16, pq h21, pq h21]
       ·rcases cB h with ⟨h26, h⟩ | ⟨h26, h⟩
        ·obtain ⟨y27, h28, y29, h30, h⟩ := A8 h
         replace h := sI h
         subst h
         exact wr Ga 38 [false, false, false, false, true] [pc e78 (k78 y1.2 1 4 _ h28) [0], pc e32 (k32 y27.2 4 _ h30) [0]] [] 4 n4_ hC [pq h8, pq h11, pq h16, pq h21, pq h26]
        ·replace h := sI h
         subst h
         exact wr Ga 38 [false, false, false, false, false] [] [] 4 n4_ hC [pq h8, pq h11, pq h16, pq h21, pq h26]
theorem A99 : EN 33 := en Tryz.func33
def H1 : List Nat := [0, 1, 2, 3, 4, 6, 16, 17, 18, 19, 28, 29, 44, 71]
def Ol (x0 : Aa) (n0 : Nat) (z0 : (List Int) × (List (List Int))) : St := [(1, dO 0 0), (2, dB false), (3, dS 1), (4, dS 2), (16, .d (DS Bg x0.Ae)), (17, dI (ln x0.Ae)), (18, dI (cnt 0 n0))]
def T2 (x0 : Aa) (n0 : Nat) (z0 : (List Int) × (List (List Int))) : List Res := [.box 29 (d29 x0), v0_ z0.1, .dsl 22 1 3, .gh 1 [(3, 1)] (z0.2.map (pL pI)) none]
def Ank  (z0 : (List Int) × (List (List Int))) : St := [(2, dB false), (3, dS 0), (4, dS 1)]
def Apc  (z0 : (List Int) × (List (List Int))) : List Res := [v0_ z0.1, .dsl 22 1 2, .gh 1 [(3, 1)] (z0.2.map (pL pI)) none]
theorem Ba2 (x0 : Aa) (r : Bool) (h : Ali x0 = some r) : CO 136 [.agg (d29 x0)] [] (.d (Bo r)) [] := by
 unfold Ali at h
 refine co 116 Tryz.func136 λ C hC => ?_
 obtain ⟨y1, h2, y3, h4, h⟩ := A8 h
 refine ws H1 28 [] [⟨.flts [v0_ y1, .zsl 22 1 (y3.map (pL pI))], trivial⟩, pl Bu x0.Ac, ⟨.fltm 1 (.room ((ln x0.Ac) * (8 + 1)) (List.replicate (Int.toNat (ln x0.Ac)) (pI 0)) (y1.map pI)) (v0_ y1) (v0_ y1), ⟨Hh h2, rfl⟩⟩, pl q65 x0.Ad, ⟨.fltm 2 (.roomZ ((ln x0.Ad) * (24 + 1)) (List.replicate (Int.toNat (ln x0.Ad)) ((pL pI) ([] : List Int))) (y3.map (pL pI))) (.zsl 22 1 (y3.map (pL pI))) (.zsl 22 1 (y3.map (pL pI))), ⟨S3 h4, rfl⟩⟩, pl Bg x0.Ae] [.deep 2 [(3, 1)]] 0 n4_ (Ol x0 0 (y1, y3)) (T2 x0 0 (y1, y3)) hC [] ?_
 obtain ⟨w0, hm0, hret0, hnext0⟩ := Ap h
 clear h
 refine wc w0 (Ank) (Apc) ?_ λ z0 hs0 => ?_
 ·refine wb ?_
  refine Bp 16 rfl λ hl0 => ?_
  refine wl (Ol x0) (T2 x0) hm0 (λ z0 hn0 => ?_) λ n0 a0 z0 w0b hi0 hx0 h hb0 hr0 => ?_
  ·clear hm0
   exact wx w0 (Ank) (Apc) H1 26 [false] [] [] 0 [1, 2, 3] _ hC [pq (A7 hl0)] hn0
  ·unfold zW at h
   refine wn H1 33 [true] [pt hx0 hl0, pc e99 (k99 a0.A 0 (w64 (x0.Aq - 1)) _ rfl) []] [] 0 n5_ [1, 2, 3, 4, 6, 16, 17, 18, 28] hC [pq (A5 hi0 hl0)] ?_
   rcases cB h with ⟨h5, h⟩ | ⟨h5, h⟩
   ·have hq := hret0 _ (hr0 _ (sI h).symm)
    replace hq := sI hq
    subst hq
    exact wr H1 24 [true] [] [] 0 [] hC [pq h5]
   ·refine wn H1 26 [false] [⟨.when [((a0.Kind == 1), true)] (.call 99 [dI a0.B, dI (w64 (a0.A + 1)), dI (w64 (x0.Aq - 1))] [] (dB (F99 a0.B (w64 (a0.A + 1)) (w64 (x0.Aq - 1)))) [] []), λ hg => ⟨e99, (k99 a0.B (w64 (a0.A + 1)) (w64 (x0.Aq - 1)) _ rfl)⟩⟩] [] 0 n5_ [1, 2, 3, 4, 6, 16, 17, 18, 29] hC [pq h5] ?_
    rcases cB h with ⟨h6, h⟩ | ⟨h6, h⟩
    ·exact wx w0b (Ol x0 (n0 + 1)) (T2 x0 (n0 + 1)) H1 26 [true] [] [] 0 n4_ _ hC [pq h6] (sI h).symm
    ·obtain ⟨y7, h8, h⟩ := Av h
     refine wn H1 24 [false] [pL_ [((a0.Kind == 2), true)] pI z0.1, ⟨.when [((a0.Kind == 2), true)] (.call 99 [dI a0.B, dI 0, dI (w64 ((ln z0.1) - 1))] [] (.d (Bo (F99 a0.B 0 (w64 ((ln z0.1) - 1))))) [] []), λ hg => ⟨e99, (k99 a0.B 0 (w64 ((ln z0.1) - 1)) _ rfl)⟩⟩, pR pI h8, pN pI h8] [] 0 n5_ [1, 2, 3, 4, 6, 16, 17, 18, 44] hC [pq h6] ?_
     rcases cB h with ⟨h9, h⟩ | ⟨h9, h⟩
     ·obtain ⟨y10, h11, y12, h13, h⟩ := A8 h
      exact wx w0b (Ol x0 (n0 + 1)) (T2 x0 (n0 + 1)) H1 26 [true] [pr pI h11, pn pI h11, pr pI h11, pu pI h11 h13] [] 0 n4_ _ hC [pq h9] (sI h).symm
     ·obtain ⟨y14, h15, y16, h17, h⟩ := A8 h
      refine wn H1 24 [false] [pL_ [((a0.Kind == 3), true)] (pL pI) z0.2, ⟨.when [((a0.Kind == 3), true)] (.call 99 [dI a0.B, dI 0, dI (w64 ((ln z0.2) - 1))] [] (.d (Bo (F99 a0.B 0 (w64 ((ln z0.2) - 1))))) [] []), λ hg => ⟨e99, (k99 a0.B 0 (w64 ((ln z0.2) - 1)) _ rfl)⟩⟩, pR (pL pI) h15, pN (pL pI) h15, ⟨.when [(((a0.Kind == 3) && (F99 a0.B 0 (w64 ((ln z0.2) - 1)))), true)] (.callB 190 [.d (DS pI y14), dI a0.A] (dB y16) (z0.2.map (pL pI)) (Int.toNat a0.B) ((pL pI) y14)), λ hg => Azq ⟨Xx, (Xr y14 a0.A _ (A9 h17 hg))⟩ (A9 h15 hg)⟩] [] 0 n5_ [1, 2, 3, 4, 6, 16, 17, 18, 71] hC [pq h9] ?_
      rcases cB h with ⟨h18, h⟩ | ⟨h18, h⟩
      ·obtain ⟨y19, h20, y21, h22, y23, h24, h⟩ := By h
       exact wx w0b (Ol x0 (n0 + 1)) (T2 x0 (n0 + 1)) H1 26 [true] [pr (pL pI) h20, pn (pL pI) h20, ⟨.appD (z0.2.map (pL pI)) (Int.toNat a0.B) ((pL pI) y19) 0 (y19.map pI) ([a0.A].map pI) 1 (((y19.map pI).length + ([a0.A].map pI).length) * (8 + 1)) (y21.map pI), Ix 1 (λ _ => rfl) h20 rfl h22⟩, pr (pL pI) h20, ⟨.updD (z0.2.map (pL pI)) (Int.toNat a0.B) (Int.toNat a0.B) ((pL pI) y19) ((pL pI) y21) (y23.map (pL pI)), Iq h20 h24⟩] [] 0 [0, 1, 2, 8] _ hC [pq h18] (sI h).symm
      ·have hq := hret0 _ (hr0 _ (sI h).symm)
       replace hq := sI hq
       subst hq
       exact wr H1 24 [false] [] [] 0 [] hC [pq h18]
 ·have h := hnext0 _ hs0
  refine wn H1 1 [] [] [.flat 1] 0 [0, 1] [2, 3, 4] hC [] ?_
  obtain ⟨y27, h28, y29, h30, h⟩ := A8 h
  replace h := sI h
  subst h
  exact wr H1 22 [] [pb Xx (Xr z0.1 0 _ h28), pv A7i (λ hg => A5m z0.2 _ (A9 h30 hg))] [] 0 [] hC []
theorem Bcj : EN 136 := en Tryz.func136
def Ly : List Nat := [0, 1, 4, 5, 7, 8, 9, 16]
def Sc (x0 : List Ah) (n0 : Nat) (z0 : Unit) : St := [(0, .d (DS A_ x0)), (1, .d (.fn (.func 97) [] [])), (4, dI 0), (7, dI (ln x0)), (8, dI (cnt 0 n0))]
def Yl  (n0 : Nat) (z0 : Unit) : List Res := []
def Abj  (z0 : Unit) : St := [(4, dI 0)]
def Ac4  (z0 : Unit) : List Res := []
theorem A51 (x0 : List Ah) (r : Int) (h : uG x0 = some r) : CO 155 [.d (DS A_ x0), .d (.fn (.func 97) [] [])] [] (.d (I r)) [] := by
 unfold uG at h
 refine co 19 Tryz.func155 λ C hC => ?_
 refine ws Ly 26 [] [pl A_ x0] [] 0 [] (Sc x0 0 ()) (Yl 0 ()) hC [] ?_
 obtain ⟨w0, hm0, hret0, hnext0⟩ := Ap h
 clear h
 refine wc w0 (Abj) (Ac4) ?_ λ z0 hs0 => ?_
 ·refine wb ?_
  refine Bp 0 rfl λ hl0 => ?_
  refine wl (Sc x0) (Yl) hm0 (λ z0 hn0 => ?_) λ n0 a0 z0 w0b hi0 hx0 h hb0 hr0 => ?_
  ·clear hm0
   exact wx w0 (Abj) (Ac4) Ly 26 [false] [] [] 0 [] _ hC [pq (A7 hl0)] hn0
  ·unfold Ado at h
   refine wn Ly 32 [true] [pt hx0 hl0, pc e97 (k97 a0 _ rfl) []] [] 0 [] [0, 1, 4, 5, 7, 8, 16] hC [pq (A5 hi0 hl0)] ?_
   rcases cB h with ⟨h1, h⟩ | ⟨h1, h⟩
   ·have hq := hret0 _ (hr0 _ (sI h).symm)
    replace hq := sI hq
    subst hq
    exact wr Ly 24 [true] [] [] 0 [] hC [pq h1]
   ·exact wx w0b (Sc x0 (n0 + 1)) (Yl (n0 + 1)) Ly 25 [false] [] [] 0 [] _ hC [pq h1] (sI h).symm
 ·have h := hnext0 _ hs0
  replace h := sI h
  subst h
  exact wr Ly 23 [] [] [] 0 [] hC []
theorem A7x : EN 155 := en Tryz.func155
theorem Ag6 (x0 : A2) (x1 : Int) (r : Bool) (h : Mw x0 x1 = some r) : CO 221 [.d (.ip [.v (.int .i64 x0.Am.Aq), .s (x0.Am.Ae.map Bg), .s (x0.Am.Ac.map Bu), .s (x0.Am.Ad.map q65), .v (.int .i64 x0.Am.Phase), .v (.int .i64 x0.Am.Ar), .s (x0.Au.Ag.map pB), .s (x0.Au.Ac.map A_), .s (x0.Au.Ak.map pI), .s (x0.Au.Ao.map q86), .v (.int .i64 x0.time)]), .d (I x1)] [] (.d (Bo r)) [] := by
 unfold Mw at h
 refine co 19 Tryz.func221 λ C hC => ?_
 obtain ⟨y1, h2, y3, h4, h⟩ := A8 h
 replace h := sI h
 subst h
 exact wr [0, 1, 4] 25 [] [pc Bbj (A_2 x0.Am x1 _ h2) [], pr pB h4] [] 0 [] hC []
theorem Ah0 : EN 221 := en Tryz.func221
theorem jC (x0 : Int) (x1 : Int) (x2 : Ax) (r : Bool × Ax) (h : Kz x0 x1 x2 = some r) : CO 231 [.d (I x0), .d (I x1), .d (.o 0 0)] (.box 211 [.o 1 0] :: .box 235 (zb x2.Am [.os 2, .os 3, .os 4, .os 5, .os 6]) :: zp x2.Au [v6_ x2.acts]) (.d (Bo r.1)) (.box 211 [.o 1 0] :: .box 235 (zb r.2.Am [.os 2, .os 3, .os 4, .os 5, .os 6]) :: zp r.2.Au [v6_ r.2.acts]) := by
 unfold Kz at h
 refine co 13 Tryz.func231 λ C hC => ?_
 obtain ⟨y1, h2, h⟩ := Av h
 replace h := sI h
 subst h
 exact wr [0, 1, 2, 5] 25 [] [pb J5 (J2 x2.Au x0 x1 _ h2)] [] 7 n7_ hC []
theorem jN : EN 231 := en Tryz.func231
def Iy : List Nat := [0, 1, 2, 3, 8, 9, 14, 34]
def Rx (x1 : Int) (x2 : Int) (z0 : Int × (List Int)) : St := [(0, dS 0), (1, dI x1), (2, dI x2), (3, .d (.fn (.func 233) [] [.o 1 0])), (8, dI z0.1)]
def Ya (x3c0 : Aa) (z0 : Int × (List Int)) : List Res := [v0_ z0.2, .box 29 (d29 x3c0)]
def Aay  (z0 : Int × (List Int)) : St := []
def Aci (x3c0 : Aa) (z0 : Int × (List Int)) : List Res := [v0_ z0.2, .box 29 (d29 x3c0)]
def Rw (x1 : Int) (x2 : Int) (z0 : Int × (List Int)) (z1 : Int × (List Int)) : St := [(0, dS 0), (1, dI x1), (2, dI x2), (3, .d (.fn (.func 233) [] [.o 1 0])), (8, dI z0.1), (9, dI z1.1)]
def X_ (x3c0 : Aa) (z1 : Int × (List Int)) : List Res := [v0_ z1.2, .box 29 (d29 x3c0)]
def Aax (x1 : Int) (x2 : Int) (z0 : Int × (List Int)) (z1 : Int × (List Int)) : St := [(0, dS 0), (1, dI x1), (2, dI x2), (3, .d (.fn (.func 233) [] [.o 1 0])), (8, dI z0.1)]
def Ach (x3c0 : Aa) (z1 : Int × (List Int)) : List Res := [v0_ z1.2, .box 29 (d29 x3c0)]
theorem Avg (x0 : List Int) (x1 : Int) (x2 : Int) (x3c0 : Aa) (r : (List Int) × Aa) (h : T5 x0 x1 x2 x3c0 = some r) : CO 246 [.d (.os 0), .d (I x1), .d (I x2), .d (.fn (.func 233) [] [.o 1 0])] [v0_ x0, .box 29 (d29 x3c0)] (.tup []) [v0_ r.1, .box 29 (d29 r.2)] := by
 unfold T5 at h
 refine co 53 Tryz.func246 λ C hC => ?_
 refine ws Iy 23 [] [] [] 2 [0, 1] (Rx x1 x2 (w64 (x1 + 1), x0)) (Ya x3c0 (w64 (x1 + 1), x0)) hC [] ?_
 obtain ⟨w0, hm0, hret0, hnext0⟩ := Ap h
 clear h
 refine wc w0 (Aay) (Aci x3c0) ?_ λ z0 hs0 => ?_
 ·refine wb ?_
  refine ww (Rx x1 x2) (Ya x3c0) hm0 λ z0 w0b h hb0 hr0 => ?_
  unfold T4 at h
  rcases cB h with ⟨h1, h⟩ | ⟨h1, h⟩
  ·refine ws Iy 30 [true] [] [] 2 [0, 1] (Rw x1 x2 z0 (z0.1, z0.2)) (X_ x3c0 (z0.1, z0.2)) hC [pq h1] ?_
   obtain ⟨w1, hm1, hret1, hnext1⟩ := Ap h
   clear h
   refine wc w1 (Aax x1 x2 z0) (Ach x3c0) ?_ λ z1 hs1 => ?_
   ·refine wb ?_
    refine ww (Rw x1 x2 z0) (X_ x3c0) hm1 λ z1 w1b h hb1 hr1 => ?_
    unfold Nu at h
    obtain ⟨y8, h9, y10, h11, y12, h13, h⟩ := By h
    refine wn Iy 24 [] [pR pI h9, pN pI h9, pR pI h11, pN pI h11, pv A6w (λ hg => A40 y8 y10 x3c0 _ (A9 h13 hg))] [] 2 [0, 1] [0, 1, 2, 3, 8, 9, 34] hC [] ?_
    rcases cB h with ⟨h14, h⟩ | ⟨h14, h⟩
    ·obtain ⟨y15, h16, y17, h18, y19, h20, h⟩ := By h
     obtain ⟨y21, h22, y23, h24, h⟩ := A8 h
     exact wx w1b (Rw x1 x2 z0) (X_ x3c0) Iy 28 [true] [pr pI h16, pn pI h16, pr pI h18, pn pI h18, pr pI h18, pu pI h18 h20, pr pI h22, pu pI h22 h24] [] 2 [0, 1] _ hC [pq h14] (sI h).symm
    ·exact wx w1 (Aax x1 x2 z0) (Ach x3c0) Iy 23 [false] [] [] 2 [0, 1] (z1.1, z1.2) hC [pq h14] (hb1 _ (sI h).symm)
   ·have h := hnext1 _ hs1
    exact wx w0b (Rx x1 x2) (Ya x3c0) Iy 23 [] [] [] 2 [0, 1] _ hC [] (sI h).symm
  ·exact wx w0 (Aay) (Aci x3c0) Iy 26 [false] [] [] 2 [0, 1] (z0.1, z0.2) hC [pq h1] (hb0 _ (sI h).symm)
 ·have h := hnext0 _ hs0
  replace h := sI h
  subst h
  exact wf Iy 20 [] [] [] 2 [0, 1] hC []
theorem Av9 : EN 246 := en Tryz.func246
def Lx : List Nat := [0, 1, 4, 5, 7, 8, 9, 16]
def Sb (x0 : List Int) (n0 : Nat) (z0 : Unit) : St := [(0, dS 0), (1, .d (.fn (.func 209) [] [.o 1 0])), (4, dI 0), (7, dI (ln x0)), (8, dI (cnt 0 n0))]
def Yk (x0 : List Int) (x1c0 : Af) (n0 : Nat) (z0 : Unit) : List Res := [v0_ x0, .box 84 (d84 x1c0)]
def Abi  (z0 : Unit) : St := [(4, dI 0)]
def Ac3 (x0 : List Int) (x1c0 : Af) (z0 : Unit) : List Res := [v0_ x0, .box 84 (d84 x1c0)]
theorem A50 (x0 : List Int) (x1c0 : Af) (r : Int × Af) (h : uF x0 x1c0 = some r) : CO 158 [.d (.os 0), .d (.fn (.func 209) [] [.o 1 0])] [v0_ x0, .box 84 (d84 x1c0)] (.d (I r.1)) [v0_ x0, .box 84 (d84 r.2)] := by
 unfold uF at h
 refine co 19 Tryz.func158 λ C hC => ?_
 refine ws Lx 26 [] [pl pI x0] [] 2 [0, 1] (Sb x0 0 ()) (Yk x0 x1c0 0 ()) hC [] ?_
 obtain ⟨w0, hm0, hret0, hnext0⟩ := Ap h
 clear h
 refine wc w0 (Abi) (Ac3 x0 x1c0) ?_ λ z0 hs0 => ?_
 ·refine wb ?_
  refine B3 0 0 rfl rfl λ hl0 => ?_
  refine wl (Sb x0) (Yk x0 x1c0) hm0 (λ z0 hn0 => ?_) λ n0 a0 z0 w0b hi0 hx0 h hb0 hr0 => ?_
  ·clear hm0
   exact wx w0 (Abi) (Ac3 x0 x1c0) Lx 26 [false] [] [] 2 [0, 1] _ hC [pq (A7 hl0)] hn0
  ·unfold Ny at h
   obtain ⟨y1, h2, h⟩ := Av h
   refine wn Lx 32 [true] [pr pI (Be hx0 hl0), pn pI (Be hx0 hl0), pb Awc (Avj a0 x1c0 _ h2)] [] 2 [0, 1] [0, 1, 4, 5, 7, 8, 16] hC [pq (A5 hi0 hl0)] ?_
   rcases cB h with ⟨h3, h⟩ | ⟨h3, h⟩
   ·have hq := hret0 _ (hr0 _ (sI h).symm)
    replace hq := sI hq
    subst hq
    exact wr Lx 24 [true] [] [] 2 [0, 1] hC [pq h3]
   ·exact wx w0b (Sb x0 (n0 + 1)) (Yk x0 x1c0 (n0 + 1)) Lx 25 [false] [] [] 2 [0, 1] _ hC [pq h3] (sI h).symm
 ·have h := hnext0 _ hs0
  replace h := sI h
  subst h
  exact wr Lx 23 [] [] [] 2 [0, 1] hC []
theorem A7w : EN 158 := en Tryz.func158
def Qd : List Nat := [0, 1, 2, 3, 4, 5, 6, 9, 11, 15, 16, 17, 18, 25]
def Ae7  (z0 : Int × (List Int)) : St := [(1, dO 0 0), (2, .d (DS pI [])), (3, dS 1), (4, dI z0.1)]
def Ary (x0 : Aa) (z0 : Int × (List Int)) : List Res := [.box 29 (d29 x0), v0_ z0.2]
def At6  (z0 : Int × (List Int)) : St := [(2, .d (DS pI [])), (3, dS 0)]
def Axp  (z0 : Int × (List Int)) : List Res := [v0_ z0.2]
def Zf (x0 : Aa) (z0 : Int × (List Int)) (n1 : Nat) (z1 : (List Int)) : St := [(1, dO 0 0), (2, .d (DS pI [])), (3, dS 1), (4, dI z0.1), (15, .d (DS q65 x0.Ad)), (16, dI (ln x0.Ad)), (17, dI (cnt 0 n1))]
def Aej (x0 : Aa) (n1 : Nat) (z1 : (List Int)) : List Res := [.box 29 (d29 x0), v0_ z1]
def At5 (z0 : Int × (List Int)) (z1 : (List Int)) : St := [(1, dO 0 0), (2, .d (DS pI [])), (3, dS 1), (4, dI z0.1)]
def Axo (x0 : Aa) (z1 : (List Int)) : List Res := [.box 29 (d29 x0), v0_ z1]
theorem k74 (x0 : Aa) (r : (List Int)) (h : F74 x0 = some r) : CO 74 [.agg (d29 x0)] [] (.d (.os 0)) [v0_ r] := by
 unfold F74 at h
 refine co 32 Tryz.func74 λ C hC => ?_
 obtain ⟨y1, h2, h⟩ := Av h
 rcases cB h with ⟨h3, h⟩ | ⟨h3, h⟩
 ·replace h := sI h
  subst h
  exact wr Qd 29 [true] [pc Aq7 (Aqt x0 _ h2) []] [.own 2 3 1] 0 [1] hC [pq h3]
 ·refine ws Qd 33 [false] [pc Aq7 (Aqt x0 _ h2) []] [.own 3 3 1] 0 [0, 1] (Ae7 (0, ([] : List Int))) (Ary x0 (0, ([] : List Int))) hC [pq h3] ?_
  obtain ⟨w0, hm0, hret0, hnext0⟩ := Ap h
  clear h
  refine wc w0 (At6) (Axp) ?_ λ z0 hs0 => ?_
  ·refine wb ?_
   refine ww (Ae7) (Ary x0) hm0 λ z0 w0b h hb0 hr0 => ?_
   unfold Aj6 at h
   rcases cB h with ⟨h4, h⟩ | ⟨h4, h⟩
   ·refine ws Qd 30 [true] [pl q65 x0.Ad] [] 0 [0, 1] (Zf x0 z0 0 z0.2) (Aej x0 0 z0.2) hC [pq h4] ?_
    obtain ⟨w1, hm1, hret1, hnext1⟩ := Ap h
    clear h
    refine wc w1 (At5 z0) (Axo x0) ?_ λ z1 hs1 => ?_
    ·refine wb ?_
     refine Bp 15 rfl λ hl1 => ?_
     refine wl (Zf x0 z0) (Aej x0) hm1 (λ z1 hn1 => ?_) λ n1 a1 z1 w1b hi1 hx1 h hb1 hr1 => ?_
     ·clear hm1
      exact wx w1 (At5 z0) (Axo x0) Qd 26 [false] [] [] 0 [0, 1] _ hC [pq (A7 hl1)] hn1
     ·unfold Aj5 at h
      rcases cB h with ⟨h5, h⟩ | ⟨h5, h⟩
      ·obtain ⟨y6, h7, h⟩ := Av h
       exact wx w1b (Zf x0 z0 (n1 + 1)) (Aej x0 (n1 + 1)) Qd 36 [true, true] [pt hx1 hl1, pa pI 1 h7] [] 0 [0, 3] _ hC [pq (A5 hi1 hl1), pq h5] (sI h).symm
      ·exact wx w1b (Zf x0 z0 (n1 + 1)) (Aej x0 (n1 + 1)) Qd 36 [true, false] [pt hx1 hl1] [] 0 [0, 1] _ hC [pq (A5 hi1 hl1), pq h5] (sI h).symm
    ·have h := hnext1 _ hs1
     exact wx w0b (Ae7) (Ary x0) Qd 23 [] [] [] 0 [0, 1] _ hC [] (sI h).symm
   ·exact wx w0 (At6) (Axp) Qd 26 [false] [] [] 0 [1] (z0.1, z0.2) hC [pq h4] (hb0 _ (sI h).symm)
  ·have h := hnext0 _ hs0
   replace h := sI h
   subst h
   exact wr Qd 23 [] [] [] 0 [0] hC []
theorem e74 : EN 74 := en Tryz.func74
theorem k86 (x0 : Int) (r : (List A3)) (h : F86 x0 = some r) : CO 86 [.d (I x0)] [] (.d (.os 0)) [v5_ r] := by
 unfold F86 at h
 refine co 7 Tryz.func86 λ C hC => ?_
 obtain ⟨y1, h2, h⟩ := Av h
 replace h := sI h
 subst h
 exact wr [0, 2] 25 [] [pc Bcg (Baz [(⟨(-1), (-1)⟩ : A3)] x0 _ h2) []] [] 0 [0] hC []
theorem e86 : EN 86 := en Tryz.func86
theorem A9o (x0 : List A3) (x1c0c0 : A0) (r : Bool × A0) (h : Asw x0 x1c0c0 = some r) : CO 61 [.d (DS Ce x0), .d (.fn (.func 62) [] [.o 0 0])] [.box 126 [.fn (.func 58) [] [.o 1 0]], .box 40 (d40 x1c0c0)] (.d (Bo r.1)) [.box 126 [.fn (.func 58) [] [.o 1 0]], .box 40 (d40 r.2)] := by
 unfold Asw at h
 refine co 9 Tryz.func61 λ C hC => ?_
 obtain ⟨y1, h2, h⟩ := Av h
 replace h := sI h
 subst h
 exact wr [0, 1, 4] 25 [] [pc A8b (A6f x0 x1c0c0 _ h2) [0, 1]] [] 2 [0, 1] hC []
theorem A96 : EN 61 := en Tryz.func61
theorem A_9 (x0 : Aa) (x1 : Ab) (x2 : Af) (x3 : Int) (r : Bool) (h : A1h x0 x1 x2 x3 = some r) : CO 215 [.agg (d29 x0), .agg (d36 x1), .agg (d84 x2), .d (I x3)] [] (.d (Bo r)) [] := by
 unfold A1h at h
 refine co 58 Tryz.func215 λ C hC => ?_
 obtain ⟨y1, h2, y3, h4, y5, h6, y7, h8, h⟩ := Cy h
 obtain ⟨y9, h10, y11, h12, y13, h14, y15, h16, h⟩ := Cy h
 replace h := sI h
 subst h
 exact wr [0, 1, 2, 3, 4, 5, 6, 8, 9, 10, 11] 31 [] [pc A7o (A5s x0 x3 _ h2) [], pr Bg h4, pc J5 (J2 x1 1 x3 _ h6) [], pw J5 (λ hg => J2 x1 2 y1 _ (A9 h8 hg)) [], pw J5 (λ hg => J2 x1 3 y3.A _ (A9 h10 hg)) [], pw Xx (λ hg => Xr x2.Aq y3.A _ (A9 h12 hg)) [], pw Xx (λ hg => Xr x2.Ac x3 _ (A9 h14 hg)) [], pR A_ h16] [] 0 [] hC []
theorem Bbq : EN 215 := en Tryz.func215
theorem A52 (x0 : Dh) (r : Bool) (h : A1q x0 = r) : CO 150 [.agg (Arb x0)] [] (.d (Bo r)) [] := by
 unfold A1q at h
 refine co 6 Tryz.func150 λ C hC => ?_
 subst h
 exact wr n3_ 25 [] [pc Bcf (Bay x0 _ rfl) []] [] 0 [] hC []
theorem A7y : EN 150 := en Tryz.func150
theorem A6h (rec46 : Aa -> Ab -> Int -> Option Bool) (ih46 : ∀ (x0 : Aa) (x1 : Ab) (x2 : Int) (r : Bool), rec46 x0 x1 x2 = some r -> CO 46 [.agg (d29 x0), .agg (d36 x1), .d (I x2)] [] (.d (Bo r)) []) (x0 : List Int) (x1c0 : Aa) (x1c1 : Ab) (r : Bool × Aa × Ab) (h : Alv rec46 x0 x1c0 x1c1 = some r) : CO 104 [.d (DS pI x0), .d (.fn (.func 105) [] [.o 0 0, .o 1 0])] [.box 29 (d29 x1c0), .box 36 (d36 x1c1)] (.d (Bo r.1)) [.box 29 (d29 r.2.1), .box 36 (d36 r.2.2)] := by
 unfold Alv at h
 refine co 9 Tryz.func104 λ C hC => ?_
 obtain ⟨y1, h2, h⟩ := Av h
 replace h := sI h
 subst h
 exact wr [0, 1, 4] 25 [] [pc A7v (A5z rec46 ih46 x0 x1c0 x1c1 _ h2) [0, 1]] [] 2 [0, 1] hC []
theorem A8d : EN 104 := en Tryz.func104
theorem Bat (x0 : Int) (x1 : Int) (r : Int × Int) (h : A1o x0 x1 = some r) : CO 160 [.d (I x0), .d (I x1)] [] (.tup [.d (I r.1), .d (I r.2)]) [] := by
 unfold A1o at h
 refine co 11 Tryz.func160 λ C hC => ?_
 obtain ⟨y1, h2, h⟩ := Av h
 replace h := sI h
 subst h
 exact wr [0, 1, 4, 5] 25 [] [pc A7d (A5h x0 x1 _ h2) []] [] 0 [] hC []
theorem Bca : EN 160 := en Tryz.func160
def Agy : List Nat := [0, 1, 2, 3, 4, 6, 7, 8, 32, 43]
theorem k27 (x0 : Aa) (x1 : Ab) (x2 : Int) (r : Int × Bool) (h : F27 x0 x1 x2 = some r) : CO 27 [.agg (d29 x0), .agg (d36 x1), .d (I x2)] [] (.tup [.d (I r.1), .d (Bo r.2)]) [] := by
 unfold F27 at h
 refine co 50 Tryz.func27 λ C hC => ?_
 obtain ⟨y1, h2, y3, h4, h⟩ := A8 h
 refine wn Agy 26 [] [pc e53 (k53 x0 x1 _ h2) [], pL_ [(((y1 != 0) || (decide (x2 < 0))), false)] Bu x0.Ac, pR A_ h4] [] 0 [0, 1] [2, 3, 4, 6, 7, 32] hC [] ?_
 rcases cB h with ⟨h5, h⟩ | ⟨h5, h⟩
 ·replace h := sI h
  subst h
  exact wr Agy 24 [true] [] [] 0 [] hC [pq h5]
 ·obtain ⟨y6, h7, y8, h9, y10, h11, h⟩ := By h
  refine wn Agy 28 [false] [pc e77 (k77 x0 2 x2 _ h7) [], pr pI h9, pn pI h9, pr pB h11] [] 0 [0] [3, 6, 7, 8, 43] hC [pq h5] ?_
  rcases cB h with ⟨h12, h⟩ | ⟨h12, h⟩
  ·replace h := sI h
   subst h
   exact wr Agy 24 [true] [] [] 0 [] hC [pq h12]
  ·obtain ⟨y13, h14, h⟩ := Av h
   replace h := sI h
   subst h
   exact wr Agy 25 [false] [pr Bg h14] [] 0 [] hC [pq h12]
theorem e27 : EN 27 := en Tryz.func27
def Xp : List Nat := [0, 1, 2, 3, 4, 6, 7, 9, 24, 27, 28, 29, 30, 37]
def Afe (y4 : (List Int)) (n0 : Nat) (z0 : Unit) : St := [(3, dO 0 0), (4, dO 1 0), (6, dI 0), (7, dB false), (27, dS 2), (28, dI (ln y4)), (29, dI (cnt 0 n0))]
def Ar5 (x0 : Aa) (x1 : Ab) (y4 : (List Int)) (n0 : Nat) (z0 : Unit) : List Res := [.box 29 (d29 x0), .box 36 (d36 x1), v0_ y4]
def Auj  (z0 : Unit) : St := [(6, dI 0), (7, dB false)]
def Ax2  (z0 : Unit) : List Res := []
theorem k48 (x0 : Aa) (x1 : Ab) (x2 : Int) (r : Int × Bool) (h : F48 x0 x1 x2 = some r) : CO 48 [.agg (d29 x0), .agg (d36 x1), .d (I x2)] [] (.tup [.d (I r.1), .d (Bo r.2)]) [] := by
 unfold F48 at h
 refine co 45 Tryz.func48 λ C hC => ?_
 obtain ⟨y1, h2, h⟩ := Av h
 refine wn Xp 26 [] [pc e53 (k53 x0 x1 _ h2) [], pL_ [(((y1 != 0) || (decide (x2 < 0))), false)] q65 x0.Ad] [] 0 [0, 1] [2, 3, 4, 6, 7, 24] hC [] ?_
 rcases cB h with ⟨h3, h⟩ | ⟨h3, h⟩
 ·replace h := sI h
  subst h
  exact wr Xp 24 [true] [] [] 0 [] hC [pq h3]
 ·obtain ⟨y4, h5, h⟩ := Av h
  refine ws Xp 26 [false] [pc e77 (k77 x0 3 x2 _ h5) [], pl pI y4] [] 0 n3_ (Afe y4 0 ()) (Ar5 x0 x1 y4 0 ()) hC [pq h3] ?_
  obtain ⟨w0, hm0, hret0, hnext0⟩ := Ap h
  clear h
  refine wc w0 (Auj) (Ax2) ?_ λ z0 hs0 => ?_
  ·refine wb ?_
   refine B3 27 2 rfl rfl λ hl0 => ?_
   refine wl (Afe y4) (Ar5 x0 x1 y4) hm0 (λ z0 hn0 => ?_) λ n0 a0 z0 w0b hi0 hx0 h hb0 hr0 => ?_
   ·clear hm0
    exact wx w0 (Auj) (Ax2) Xp 26 [false] [] [] 0 [] _ hC [pq (A7 hl0)] hn0
   ·unfold qS at h
    obtain ⟨y6, h7, h⟩ := Av h
    rcases cB h with ⟨h8, h⟩ | ⟨h8, h⟩
    ·obtain ⟨y9, h10, h⟩ := Av h
     have hq := hret0 _ (hr0 _ (sI h).symm)
     replace hq := sI hq
     subst hq
     exact wr Xp 35 [true, true] [pr pI (Be hx0 hl0), pn pI (Be hx0 hl0), pr pB h7, pr Bg h10] [] 0 [] hC [pq (A5 hi0 hl0), pq h8]
    ·exact wx w0b (Afe y4 (n0 + 1)) (Ar5 x0 x1 y4 (n0 + 1)) Xp 36 [true, false] [pr pI (Be hx0 hl0), pn pI (Be hx0 hl0), pr pB h7] [] 0 n3_ _ hC [pq (A5 hi0 hl0), pq h8] (sI h).symm
  ·have h := hnext0 _ hs0
   replace h := sI h
   subst h
   exact wr Xp 23 [] [] [] 0 [] hC []
theorem e48 : EN 48 := en Tryz.func48
def Z_ : List Nat := [0, 1, 2, 4, 6, 7, 8, 14]
def Xb  (z0 : Int × (List Int) × Int × (List An)) : St := [(0, dO 0 0), (4, dO 4 0), (6, .d (DS q49 [])), (7, dS 5), (8, dI z0.1)]
def zE (x1 : Aa) (z0 : Int × (List Int) × Int × (List An)) : List Res := (.box 90 [DS pI z0.2.1, I z0.2.2.1] :: zs x1 [.box 29 [I x1.Aq, .os 1, .os 2, .os 3, I x1.Phase, I x1.Ar], v6_ (Ej z0)])
def Agc  (z0 : Int × (List Int) × Int × (List An)) : St := [(6, .d (DS q49 [])), (7, dS 4)]
def Ai1 (x1 : Aa) (z0 : Int × (List Int) × Int × (List An)) : List Res := (.box 90 [DS pI z0.2.1, I z0.2.2.1] :: zs x1 [v6_ (Ej z0)])
theorem A9u (x0 : Ai) (x1 : Aa) (x2 : Int) (r : (List An) × Ai) (h : uH x0 x1 x2 = some r) : CO 10 [.d (.o 0 0), .agg [I x1.Aq, .os 1, .os 2, .os 3, I x1.Phase, I x1.Ar], .d (I x2)] (.box 90 (d90 x0) :: zs x1 []) (.d (.os 4)) (.box 90 (d90 r.2) :: zs x1 [v6_ r.1]) := by
 unfold uH at h
 refine co 24 Tryz.func10 λ C hC => ?_
 obtain ⟨y1, h2, h⟩ := Av h
 refine ws Z_ 28 [] [pc e32 (k32 x0 (w64 (x2 + 1)) _ h2) [0]] [.own 7 49 3] 4 n6_ (Xb (y1.1, y1.2.L, y1.2.At, ([] : List An))) (zE x1 (y1.1, y1.2.L, y1.2.At, ([] : List An))) hC [] ?_
 obtain ⟨w0, hm0, hret0, hnext0⟩ := Ap h
 clear h
 refine wc w0 (Agc) (Ai1 x1) ?_ λ z0 hs0 => ?_
 ·refine wb ?_
  refine ww (Xb) (zE x1) hm0 λ z0 w0b h hb0 hr0 => ?_
  unfold Y7 at h
  rcases cB h with ⟨h3, h⟩ | ⟨h3, h⟩
  ·obtain ⟨y4, h5, y6, h7, h⟩ := A8 h
   exact wx w0b (Xb) (zE x1) Z_ 31 [true] [pc A99 (A9r (⟨z0.2.1, z0.2.2.1⟩ : Ai) x1 _ h5) n4_, pa q49 3 h7] [] 4 [0, 1, 2, 3, 4, 6] _ hC [pq h3] (sI h).symm
  ·exact wx w0 (Agc) (Ai1 x1) Z_ 26 [false] [] [] 4 [0, 1, 2, 3, 5] (z0.1, z0.2.1, z0.2.2.1, (Ej z0)) hC [pq h3] (hb0 _ (sI h).symm)
 ·have h := hnext0 _ hs0
  replace h := sI h
  subst h
  exact wr Z_ 23 [] [] [] 4 n5_ hC []
theorem A_c : EN 10 := en Tryz.func10
def N9 : List Nat := [0, 1, 2, 3, 5, 6, 7, 29, 43, 44, 45, 46, 56, 57, 58, 59, 71]
def Ae4 (x0 : Aa) (n0 : Nat) (z0 : Bool) : St := [(1, dO 0 0), (2, dI 0), (3, dB z0), (43, .d (DS Bu x0.Ac)), (44, dI (ln x0.Ac)), (45, dI (cnt 0 n0))]
def Aru (x0 : Aa) (n0 : Nat) (z0 : Bool) : List Res := [.box 29 (d29 x0)]
def At1  (z0 : Bool) : St := [(1, dO 0 0), (2, dI 0), (3, dB z0)]
def Axk (x0 : Aa) (z0 : Bool) : List Res := [.box 29 (d29 x0)]
def Ae3 (x0 : Aa) (n1 : Nat) (z1 : Bool) : St := [(2, dI 0), (3, dB z1), (56, .d (DS q65 x0.Ad)), (57, dI (ln x0.Ad)), (58, dI (cnt 0 n1))]
def Art  (n1 : Nat) (z1 : Bool) : List Res := []
def At0  (z1 : Bool) : St := [(2, dI 0), (3, dB z1)]
def Axj  (z1 : Bool) : List Res := []
theorem k85 (x0 : Aa) (r : Int) (h : F85 x0 = some r) : CO 85 [.agg (d29 x0)] [] (.d (I r)) [] := by
 unfold F85 at h
 refine co 72 Tryz.func85 λ C hC => ?_
 refine wn N9 26 [] [pc e99 (k99 x0.Aq 1 6 _ rfl) [], pL_ [(!(F99 x0.Aq 1 6), false)] Bg x0.Ae, pL_ [(((!(F99 x0.Aq 1 6)) || (decide ((ln x0.Ae) > 24))), false)] Bu x0.Ac, pL_ [((((!(F99 x0.Aq 1 6)) || (decide ((ln x0.Ae) > 24))) || (decide ((ln x0.Ac) > 8))), false)] q65 x0.Ad] [] 0 [0] [1, 2, 29] hC [] ?_
 rcases cB h with ⟨h1, h⟩ | ⟨h1, h⟩
 ·replace h := sI h
  subst h
  exact wr N9 24 [true] [] [] 0 [] hC [pq h1]
 ·obtain ⟨y2, h3, h⟩ := Av h
  refine ws N9 28 [false] [pc Bcj (Ba2 x0 _ h3) [], ⟨.when [(y2, true)] (.call 99 [dI x0.Phase, dI 0, dI 1800] [] (dB (F99 x0.Phase 0 1800)) [] []), λ hg => ⟨e99, (k99 x0.Phase 0 1800 _ rfl)⟩⟩, ⟨.when [((y2 && (F99 x0.Phase 0 1800)), true)] (.call 99 [dI x0.Ar, dI 0, dI 6000] [] (dB (F99 x0.Ar 0 6000)) [] []), λ hg => ⟨e99, (k99 x0.Ar 0 6000 _ rfl)⟩⟩, pl Bu x0.Ac] [] 0 [0] (Ae4 x0 0 ((y2 && (F99 x0.Phase 0 1800)) && (F99 x0.Ar 0 6000))) (Aru x0 0 ((y2 && (F99 x0.Phase 0 1800)) && (F99 x0.Ar 0 6000))) hC [pq h1] ?_
  obtain ⟨w0, hm0, hret0, hnext0⟩ := Ap h
  clear h
  refine wc w0 (At1) (Axk x0) ?_ λ z0 hs0 => ?_
  ·refine wb ?_
   refine Bp 43 rfl λ hl0 => ?_
   refine wl (Ae4 x0) (Aru x0) hm0 (λ z0 hn0 => ?_) λ n0 a0 z0 w0b hi0 hx0 h hb0 hr0 => ?_
   ·clear hm0
    exact wx w0 (At1) (Axk x0) N9 26 [false] [] [] 0 [0] _ hC [pq (A7 hl0)] hn0
   ·unfold Ayt at h
    exact wx w0b (Ae4 x0 (n0 + 1)) (Aru x0 (n0 + 1)) N9 33 [true] [pt hx0 hl0, ⟨.when [(z0, true)] (.call 137 [.agg (A8f a0)] [] (dB (zV a0)) [] []), λ hg => ⟨Bci, (Ba1 a0 _ rfl)⟩⟩] [] 0 [0] _ hC [pq (A5 hi0 hl0)] (sI h).symm
  ·have h := hnext0 _ hs0
   refine ws N9 24 [] [pl q65 x0.Ad] [] 0 [] (Ae3 x0 0 z0) (Art 0 z0) hC [] ?_
   obtain ⟨w1, hm1, hret1, hnext1⟩ := Ap h
   clear h
   refine wc w1 (At0) (Axj) ?_ λ z1 hs1 => ?_
   ·refine wb ?_
    refine Bp 56 rfl λ hl1 => ?_
    refine wl (Ae3 x0) (Art) hm1 (λ z1 hn1 => ?_) λ n1 a1 z1 w1b hi1 hx1 h hb1 hr1 => ?_
    ·clear hm1
     exact wx w1 (At0) (Axj) N9 26 [false] [] [] 0 [] _ hC [pq (A7 hl1)] hn1
    ·unfold Aj0 at h
     obtain ⟨y4, h5, h⟩ := Av h
     exact wx w1b (Ae3 x0 (n1 + 1)) (Art (n1 + 1)) N9 33 [true] [pt hx1 hl1, pw Bch (λ hg => Ba0 a1 (cnt 0 n1) _ (A9 h5 hg)) []] [] 0 [] _ hC [pq (A5 hi1 hl1)] (sI h).symm
   ·have h := hnext1 _ hs1
    rcases cB h with ⟨h6, h⟩ | ⟨h6, h⟩
    ·replace h := sI h
     subst h
     exact wr N9 27 [true] [] [] 0 [] hC [pq h6]
    ·replace h := sI h
     subst h
     exact wr N9 28 [false] [] [] 0 [] hC [pq h6]
theorem e85 : EN 85 := en Tryz.func85
theorem A9f (x0 : List Ah) (r : Bool) (h : We x0 = some r) : CO 96 [.d (DS A_ x0), .d (.fn (.func 97) [] [])] [] (.d (Bo r)) [] := by
 unfold We at h
 refine co 9 Tryz.func96 λ C hC => ?_
 obtain ⟨y1, h2, h⟩ := Av h
 replace h := sI h
 subst h
 exact wr [0, 1, 4] 25 [] [pc A7x (A51 x0 _ h2) []] [] 0 [] hC []
theorem A9x : EN 96 := en Tryz.func96
theorem A5r (x0 : A2) (x1 : Int) (r : Int × A2) (h : Ux x0 x1 = some r) : CO 185 [.d (.o 0 0), .d (I x1)] (.box 186 (zb x0.Am [.os 1, .os 2, .os 3, .os 4, I x0.time]) :: zp x0.Au []) (.d (I r.1)) (.box 186 (zb r.2.Am [.os 1, .os 2, .os 3, .os 4, I r.2.time]) :: zp r.2.Au []) := by
 unfold Ux at h
 refine co 53 Tryz.func185 λ C hC => ?_
 obtain ⟨y1, h2, y3, h4, h⟩ := A8 h
 refine wn [0, 1, 4, 5, 23, 43] 26 [] [pr A_ h2, pn A_ h2, pv J5 (λ hg => J2 x0.Au 1 x1 _ (A9 h4 hg))] [] 5 n5_ [0, 1, 4, 23] hC [] ?_
 rcases cB h with ⟨h5, h⟩ | ⟨h5, h⟩
 ·replace h := sI h
  subst h
  exact wr [0, 1, 4, 5, 23, 43] 24 [true] [] [] 5 n5_ hC [pq h5]
 ·obtain ⟨y6, h7, y8, h9, h⟩ := A8 h
  refine wn [0, 1, 4, 5, 23, 43] 28 [false] [pr Bu h7, pv Ah0 (λ hg => Ag6 x0 x1 _ (A9 h9 hg))] [] 5 n6_ [0, 1, 4, 5, 43] hC [pq h5] ?_
  rcases cB h with ⟨h10, h⟩ | ⟨h10, h⟩
  ·obtain ⟨y11, h12, h⟩ := Av h
   replace h := sI h
   subst h
   exact wr [0, 1, 4, 5, 23, 43] 27 [true] [pr A_ h2, pu A_ h2 h12] [] 5 n5_ hC [pq h10]
  ·obtain ⟨y13, h14, h⟩ := Av h
   replace h := sI h
   subst h
   exact wr [0, 1, 4, 5, 23, 43] 27 [false] [pr A_ h2, pu A_ h2 h14] [] 5 n5_ hC [pq h10]
theorem A7n : EN 185 := en Tryz.func185
theorem A5q (x0 : A2) (x1 : Int) (r : Int × A2) (h : Uw x0 x1 = some r) : CO 186 [.d (.o 0 0), .d (I x1)] (.box 186 (zb x0.Am [.os 1, .os 2, .os 3, .os 4, I x0.time]) :: zp x0.Au []) (.d (I r.1)) (.box 186 (zb r.2.Am [.os 1, .os 2, .os 3, .os 4, I r.2.time]) :: zp r.2.Au []) := by
 unfold Uw at h
 refine co 34 Tryz.func186 λ C hC => ?_
 obtain ⟨y1, h2, y3, h4, h⟩ := A8 h
 refine wn [0, 1, 4, 5, 30] 28 [] [pr A_ h2, pn A_ h2, ⟨.when [((y1.State != 1), true)] (.row (x0.Au.Ac.map A_) (((Int.toNat x1) : Nat) : Int) (A_ y1)), λ hg => Js h2⟩, pv Ah0 (λ hg => Ag6 x0 x1 _ (A9 h4 hg))] [] 5 n5_ [4, 5, 30] hC [] ?_
 rcases cB h with ⟨h5, h⟩ | ⟨h5, h⟩
 ·replace h := sI h
  subst h
  exact wr [0, 1, 4, 5, 30] 24 [true] [] [] 5 n5_ hC [pq h5]
 ·obtain ⟨y6, h7, h⟩ := Av h
  replace h := sI h
  subst h
  exact wr [0, 1, 4, 5, 30] 27 [false] [pu A_ h2 h7] [] 5 n5_ hC [pq h5]
theorem A7m : EN 186 := en Tryz.func186
def O0 : List Nat := [0, 1, 2, 3, 4, 5, 7, 12, 20]
theorem A5d (x0 : Ax) (x1 : Aj) (r : Bool × Ax) (h : Uj x0 x1 = some r) : CO 205 [.d (.o 0 0), .agg (Oc x1)] (.box 235 (zb x0.Am [.os 1, .os 2, .os 3, .os 4, .os 5]) :: zp x0.Au [v6_ x0.acts]) (.d (Bo r.1)) (.box 235 (zb r.2.Am [.os 1, .os 2, .os 3, .os 4, .os 5]) :: zp r.2.Au [v6_ r.2.acts]) := by
 unfold Uj at h
 refine co 45 Tryz.func205 λ C hC => ?_
 obtain ⟨y1, h2, h⟩ := Av h
 refine wn O0 29 [] [pc jN (jC 3 x1.A x0 _ h2) [6, 0, 1, 2, 3, 4, 5]] [] 6 n8_ [2, 3, 4, 5, 7] hC [] ?_
 rcases cB h with ⟨h3, h⟩ | ⟨h3, h⟩
 ·replace h := sI h
  subst h
  exact wr O0 24 [true] [] [] 6 n6_ hC [pq h3]
 ·rcases cB h with ⟨h4, h⟩ | ⟨h4, h⟩
  ·obtain ⟨y5, h6, h⟩ := Av h
   replace h := sI h
   subst h
   exact wr O0 27 [false, true] [pc jN (jC 3 x1.B y1.2 _ h6) [6, 0, 1, 2, 3, 4, 5]] [] 6 n6_ hC [pq h3, pq h4]
  ·rcases cB h with ⟨h7, h⟩ | ⟨h7, h⟩
   ·obtain ⟨y8, h9, y10, h11, h⟩ := A8 h
    replace h := sI h
    subst h
    exact wr O0 30 [false, false, true] [pc jN (jC 1 x1.B y1.2 _ h9) [6, 0, 1, 2, 3, 4, 5], pR A_ h11, pN A_ h11] [] 6 n6_ hC [pq h3, pq h4, pq h7]
   ·obtain ⟨y12, h13, h⟩ := Av h
    replace h := sI h
    subst h
    exact wr O0 32 [false, false, false] [pc jN (jC 4 x1.B y1.2 _ h13) [6, 0, 1, 2, 3, 4, 5]] [] 6 n6_ hC [pq h3, pq h4, pq h7]
theorem A69 : EN 205 := en Tryz.func205
def Lo : List Nat := [0, 1, 2, 6, 7, 8, 9, 13, 30, 35, 54]
def Ry (x1 : Int) (z0 : Sg9) : St := [(0, dS 0), (1, dI x1), (2, .d (.fn (.func 233) [] [.o 1 0])), (6, dI 20), (7, dI z0.1), (8, dI z0.2.1)]
def Yb  (z0 : Sg9) : List Res := [v0_ z0.2.2.1, .box 29 [I (g3_ z0), DS Bg (g4_ z0), DS Bu (g5_ z0), DS q65 (g6_ z0), I (g7_ z0), I (Ahd z0)]]
def Aa0 (x1 : Int) (z0 : Sg9) : St := [(0, dS 0), (1, dI x1), (2, .d (.fn (.func 233) [] [.o 1 0])), (6, dI 20), (7, dI z0.1), (8, dI z0.2.1)]
def Ack  (z0 : Sg9) : List Res := [v0_ z0.2.2.1, .box 29 [I (g3_ z0), DS Bg (g4_ z0), DS Bu (g5_ z0), DS q65 (g6_ z0), I (g7_ z0), I (Ahd z0)]]
def Aar (x1 : Int) (z0 : Sg9) (z1 : Unit) : St := [(0, dS 0), (1, dI x1), (2, .d (.fn (.func 233) [] [.o 1 0])), (6, dI 20), (7, dI z0.1), (8, dI z0.2.1)]
def Ai2 (y4 : (List Int) × Aa) (z1 : Unit) : List Res := [v0_ y4.1, .box 29 (d29 y4.2)]
def Aaz  (z1 : Unit) : St := []
def Acj (y4 : (List Int) × Aa) (z1 : Unit) : List Res := [v0_ y4.1, .box 29 (d29 y4.2)]
def A_o (x1 : Int) (z2 : Unit) : St := [(0, dS 0), (1, dI x1), (2, .d (.fn (.func 233) [] [.o 1 0])), (6, dI 20), (7, dI 0), (8, dI 40)]
def Bcw (y4 : (List Int) × Aa) (z2 : Unit) : List Res := [v0_ y4.1, .box 29 (d29 y4.2)]
def A_p (x1 : Int) (z2 : Unit) : St := [(0, dS 0), (1, dI x1), (2, .d (.fn (.func 233) [] [.o 1 0])), (6, dI 20), (7, dI 0), (8, dI 40)]
def A_q (y4 : (List Int) × Aa) (z2 : Unit) : List Res := [v0_ y4.1, .box 29 (d29 y4.2)]
theorem A4y (x0 : List Int) (x1 : Int) (x2c0 : Aa) (r : (List Int) × Aa) (h : qZ x0 x1 x2c0 = some r) : CO 242 [.d (.os 0), .d (I x1), .d (.fn (.func 233) [] [.o 1 0])] [v0_ x0, .box 29 (d29 x2c0)] (.tup []) [v0_ r.1, .box 29 (d29 r.2)] := by
 unfold qZ at h
 refine co 63 Tryz.func242 λ C hC => ?_
 refine ws Lo 26 [] [] [] 2 [0, 1] (Ry x1 (0, 20, x0, x2c0.Aq, x2c0.Ae, x2c0.Ac, x2c0.Ad, x2c0.Phase, x2c0.Ar)) (Yb (0, 20, x0, x2c0.Aq, x2c0.Ae, x2c0.Ac, x2c0.Ad, x2c0.Phase, x2c0.Ar)) hC [] ?_
 obtain ⟨w0, hm0, hret0, hnext0⟩ := Ap h
 clear h
 refine wc w0 (Aa0 x1) (Ack) ?_ λ z0 hs0 => ?_
 ·refine wb ?_
  refine ww (Ry x1) (Yb) hm0 λ z0 w0b h hb0 hr0 => ?_
  unfold T7 at h
  rcases cB h with ⟨h1, h⟩ | ⟨h1, h⟩
  ·obtain ⟨y2, h3, h⟩ := Av h
   exact wx w0b (Ry x1) (Yb) Lo 33 [true] [pc Av9 (Avg z0.2.2.1 z0.1 z0.2.1 (⟨(g3_ z0), (g4_ z0), (g5_ z0), (g6_ z0), (g7_ z0), (Ahd z0)⟩ : Aa) _ h3) [0, 1]] [] 2 [0, 1] _ hC [pq h1] (sI h).symm
  ·exact wx w0 (Aa0 x1) (Ack) Lo 26 [false] [] [] 2 [0, 1] (z0.1, z0.2.1, z0.2.2.1, (g3_ z0), (g4_ z0), (g5_ z0), (g6_ z0), (g7_ z0), (Ahd z0)) hC [pq h1] (hb0 _ (sI h).symm)
 ·have h := hnext0 _ hs0
  obtain ⟨y4, h5, h⟩ := Av h
  refine ws Lo 23 [] [pc Av9 (Avg z0.2.2.1 z0.1 x1 (⟨(g3_ z0), (g4_ z0), (g5_ z0), (g6_ z0), (g7_ z0), (Ahd z0)⟩ : Aa) _ h5) [0, 1]] [] 2 [0, 1] (Aar x1 z0 ()) (Ai2 y4 ()) hC [] ?_
  obtain ⟨w1, hm1, hret1, hnext1⟩ := Ap h
  clear h
  refine wc w1 (Aaz) (Acj y4) ?_ λ z1 hs1 => ?_
  ·refine wb ?_
   refine ww (Aar x1 z0) (Ai2 y4) hm1 λ z1 w1b h hb1 hr1 => ?_
   unfold T6 at h
   rcases cB h with ⟨h6, h⟩ | ⟨h6, h⟩
   ·cases h
   ·exact wx w1 (Aaz) (Acj y4) Lo 26 [false] [] [] 2 [0, 1] () hC [pq h6] (hb1 _ (sI h).symm)
  ·have h := hnext1 _ hs1
   replace h := sI h
   subst h
   exact wf Lo 20 [] [] [] 2 [0, 1] hC []
theorem A6u : EN 242 := en Tryz.func242
def Jz : List Nat := [0, 1, 2, 3, 4, 6, 7, 8, 9, 10, 11, 12, 13, 14, 28, 37, 38, 39, 54, 64, 65, 66, 81]
def Zk (x0 : Aa) (z0 : Int × (List Int)) : St := [(3, dO 0 0), (4, dO 1 0), (6, dO 2 0), (7, dB false), (8, dO 7 0), (37, dI (ln x0.Ac)), (38, dI z0.1)]
def Aeo (x0 : Aa) (x1 : Ab) (y4 : (List Int)) (z0 : Int × (List Int)) : List Res := [.box 29 (d29 x0), .box 36 (d36 x1), .box 84 [.os 3, .os 4, .os 5], v0_ ([] : List Int), v0_ ([] : List Int), v0_ ([] : List Int), v0_ y4, .box 84 [.os 6, .os 8, .os 9], v0_ z0.2, v0_ ([] : List Int)]
def Auc  (z0 : Int × (List Int)) : St := [(3, dO 0 0), (4, dO 1 0), (6, dO 2 0), (7, dB false), (8, dO 7 0)]
def Axv (x0 : Aa) (x1 : Ab) (y4 : (List Int)) (z0 : Int × (List Int)) : List Res := [.box 29 (d29 x0), .box 36 (d36 x1), .box 84 [.os 3, .os 4, .os 5], v0_ ([] : List Int), v0_ ([] : List Int), v0_ ([] : List Int), v0_ y4, .box 84 [.os 6, .os 8, .os 9], v0_ z0.2, v0_ ([] : List Int)]
def Zj (x0 : Aa) (z1 : Int × (List Int)) : St := [(3, dO 0 0), (4, dO 1 0), (6, dO 2 0), (7, dB false), (8, dO 7 0), (64, dI (ln x0.Ad)), (65, dI z1.1)]
def Aen (x0 : Aa) (x1 : Ab) (y4 : (List Int)) (z0 : Int × (List Int)) (z1 : Int × (List Int)) : List Res := [.box 29 (d29 x0), .box 36 (d36 x1), .box 84 [.os 3, .os 4, .os 5], v0_ ([] : List Int), v0_ ([] : List Int), v0_ ([] : List Int), v0_ y4, .box 84 [.os 6, .os 8, .os 9], v0_ z0.2, v0_ z1.2]
def Aub  (z1 : Int × (List Int)) : St := [(6, dO 0 0), (7, dB false), (8, dO 5 0)]
def Axu (y4 : (List Int)) (z0 : Int × (List Int)) (z1 : Int × (List Int)) : List Res := [.box 84 [.os 1, .os 2, .os 3], v0_ ([] : List Int), v0_ ([] : List Int), v0_ ([] : List Int), v0_ y4, .box 84 [.os 4, .os 6, .os 7], v0_ z0.2, v0_ z1.2]
theorem k54 (x0 : Aa) (x1 : Ab) (x2 : Int) (r : Af × Bool) (h : F54 x0 x1 x2 = some r) : CO 54 [.agg (d29 x0), .agg (d36 x1), .d (I x2)] [] (.tup [.agg [.os 0, .os 1, .os 2], .d (Bo r.2)]) [v0_ r.1.Aq, v0_ r.1.Ac, v0_ r.1.Ad] := by
 unfold F54 at h
 refine co 90 Tryz.func54 λ C hC => ?_
 obtain ⟨y1, h2, h⟩ := Av h
 refine wn Jz 26 [] [pc e53 (k53 x0 x1 _ h2) []] [.ownb 2 0 3 1, .ownb 2 1 3 1, .ownb 2 2 3 1] 0 n6_ [2, 3, 4, 6, 7, 28] hC [] ?_
 rcases cB h with ⟨h3, h⟩ | ⟨h3, h⟩
 ·replace h := sI h
  subst h
  exact wr Jz 24 [true] [] [.ownb 2 0 3 1, .ownb 2 1 3 1, .ownb 2 2 3 1] 0 [6, 7, 8] hC [pq h3]
 ·obtain ⟨y4, h5, h⟩ := Av h
  refine ws Jz 28 [false] [pc Bcr (Bba x0 x1 x2 _ h5) [], pl Bu x0.Ac] [.ownb 7 1 3 1, .ownb 7 2 3 1] 0 Es (Zk x0 (0, ([] : List Int))) (Aeo x0 x1 y4 (0, ([] : List Int))) hC [pq h3] ?_
  obtain ⟨w0, hm0, hret0, hnext0⟩ := Ap h
  clear h
  refine wc w0 (Auc) (Axv x0 x1 y4) ?_ λ z0 hs0 => ?_
  ·refine wb ?_
   refine ww (Zk x0) (Aeo x0 x1 y4) hm0 λ z0 w0b h hb0 hr0 => ?_
   unfold Akb at h
   rcases cB h with ⟨h6, h⟩ | ⟨h6, h⟩
   ·obtain ⟨y7, h8, y9, h10, h⟩ := A8 h
    refine wn Jz 34 [true] [pc e27 (k27 x0 x1 z0.1 _ h8) [], pv e55 (λ hg => k55 y4 y7.1 _ (A9 h10 hg))] [] 0 Es [3, 4, 6, 7, 8, 9, 37, 38, 54] hC [pq h6] ?_
    rcases cB h with ⟨h11, h⟩ | ⟨h11, h⟩
    ·obtain ⟨y12, h13, h⟩ := Av h
     exact wx w0b (Zk x0) (Aeo x0 x1 y4) Jz 25 [true] [pa pI 1 h13] [] 0 [0, 1, 2, 3, 4, 5, 6, 7, 10, 9] _ hC [pq h11] (sI h).symm
    ·exact wx w0b (Zk x0) (Aeo x0 x1 y4) Jz 25 [false] [] [] 0 Es _ hC [pq h11] (sI h).symm
   ·exact wx w0 (Auc) (Axv x0 x1 y4) Jz 26 [false] [] [] 0 Es (z0.1, z0.2) hC [pq h6] (hb0 _ (sI h).symm)
  ·have h := hnext0 _ hs0
   refine ws Jz 24 [] [pl q65 x0.Ad] [] 0 Es (Zj x0 (0, ([] : List Int))) (Aen x0 x1 y4 z0 (0, ([] : List Int))) hC [] ?_
   obtain ⟨w1, hm1, hret1, hnext1⟩ := Ap h
   clear h
   refine wc w1 (Aub) (Axu y4 z0) ?_ λ z1 hs1 => ?_
   ·refine wb ?_
    refine ww (Zj x0) (Aen x0 x1 y4 z0) hm1 λ z1 w1b h hb1 hr1 => ?_
    unfold Aka at h
    rcases cB h with ⟨h14, h⟩ | ⟨h14, h⟩
    ·obtain ⟨y15, h16, y17, h18, h⟩ := A8 h
     refine wn Jz 34 [true] [pc e48 (k48 x0 x1 z1.1 _ h16) [], pv e55 (λ hg => k55 y4 y15.1 _ (A9 h18 hg))] [] 0 Es [3, 4, 6, 7, 8, 12, 64, 65, 81] hC [pq h14] ?_
     rcases cB h with ⟨h19, h⟩ | ⟨h19, h⟩
     ·obtain ⟨y20, h21, h⟩ := Av h
      exact wx w1b (Zj x0) (Aen x0 x1 y4 z0) Jz 25 [true] [pa pI 1 h21] [] 0 [0, 1, 2, 3, 4, 5, 6, 7, 8, 10] _ hC [pq h19] (sI h).symm
     ·exact wx w1b (Zj x0) (Aen x0 x1 y4 z0) Jz 25 [false] [] [] 0 Es _ hC [pq h19] (sI h).symm
    ·exact wx w1 (Aub) (Axu y4 z0) Jz 26 [false] [] [] 0 [2, 3, 4, 5, 6, 7, 8, 9] (z1.1, z1.2) hC [pq h14] (hb1 _ (sI h).symm)
   ·have h := hnext1 _ hs1
    replace h := sI h
    subst h
    exact wr Jz 23 [] [] [] 0 [4, 6, 7] hC []
theorem e54 : EN 54 := en Tryz.func54
def Iz : List Nat := [0, 1, 4, 5, 6, 7, 12, 19, 29]
def M4  (z0 : Int × Int × (List Int)) : St := [(0, dS 0), (1, .d (.fn (.func 209) [] [.o 1 0])), (4, .d (DS pI [])), (5, dI z0.1), (6, dI z0.2.1)]
def Q7 (y1 : Int × Af) (z0 : Int × Int × (List Int)) : List Res := [v0_ z0.2.2, .box 84 (d84 y1.2)]
def Aa7  (z0 : Int × Int × (List Int)) : St := [(0, dS 0), (4, .d (DS pI [])), (5, dI z0.1)]
def Acr (y1 : Int × Af) (z0 : Int × Int × (List Int)) : List Res := [v0_ z0.2.2, .box 84 (d84 y1.2)]
theorem A5b (x0 : List Int) (x1c0 : Af) (r : (List Int) × Af) (h : Uh x0 x1c0 = some r) : CO 208 [.d (.os 0), .d (.fn (.func 209) [] [.o 1 0])] [.sl 3 1 (x0.map pI), .box 84 (d84 x1c0)] (.d (.os 2)) [.non, .box 84 (d84 r.2), .sl 3 1 (r.1.map pI)] := by
 unfold Uh at h
 refine co 42 Tryz.func208 λ C hC => ?_
 obtain ⟨y1, h2, h⟩ := Av h
 refine wn Iz 28 [] [pc A7w (A50 x0 x1c0 _ h2) [0, 1]] [] 2 [0, 1] [0, 1, 4, 5, 12] hC [] ?_
 rcases cB h with ⟨h3, h⟩ | ⟨h3, h⟩
 ·replace h := sI h
  subst h
  exact wr Iz 24 [true] [] [.mv 0] 2 n3_ hC [pq h3]
 ·refine ws Iz 26 [false] [] [] 2 [0, 1] (M4 (y1.1, w64 (y1.1 + 1), x0)) (Q7 y1 (y1.1, w64 (y1.1 + 1), x0)) hC [pq h3] ?_
  obtain ⟨w0, hm0, hret0, hnext0⟩ := Ap h
  clear h
  refine wc w0 (Aa7) (Acr y1) ?_ λ z0 hs0 => ?_
  ·refine wb ?_
   refine ww (M4) (Q7 y1) hm0 λ z0 w0b h hb0 hr0 => ?_
   unfold Ug at h
   rcases cB h with ⟨h4, h⟩ | ⟨h4, h⟩
   ·obtain ⟨y5, h6, y7, h8, h⟩ := A8 h
    refine wn Iz 32 [true] [pl pI z0.2.2, pr pI h6, pn pI h6, pb Awc (Avj y5 y1.2 _ h8)] [] 2 [0, 1] [0, 1, 4, 5, 6, 7, 29] hC [pq h4] ?_
    rcases cB h with ⟨h9, h⟩ | ⟨h9, h⟩
    ·obtain ⟨y10, h11, y12, h13, h⟩ := A8 h
     exact wx w0b (M4) (Q7 y1) Iz 27 [true] [pr pI h11, pu pI h11 h13] [] 2 [0, 1] _ hC [pq h9] (sI h).symm
    ·exact wx w0b (M4) (Q7 y1) Iz 25 [false] [] [] 2 [0, 1] _ hC [pq h9] (sI h).symm
   ·exact wx w0 (Aa7) (Acr y1) Iz 26 [false] [pl pI z0.2.2] [] 2 [0, 1] (z0.1, z0.2.1, z0.2.2) hC [pq h4] (hb0 _ (sI h).symm)
  ·have h := hnext0 _ hs0
   obtain ⟨u15, h14, u17, h16, h⟩ := A8 h
   replace h := sI h
   subst h
   (rw [List.map_take]; exact qF (bs := []) Il Iz 25 [] [.bnd (z0.2.2.map pI).length z0.1 (((z0.2.2.map pI).length : Nat) : Int) (ln z0.2.2), .eqr ((z0.2.2.map pI).take (Int.toNat z0.1) ++ (List.replicate ((Int.toNat (ln z0.2.2)) - (Int.toNat z0.1)) (pI 0) ++ (z0.2.2.map pI).drop ((Int.toNat z0.1) + ((Int.toNat (ln z0.2.2)) - (Int.toNat z0.1))))) ((Gn z0.2.2 (Int.toNat z0.1) ((Int.toNat (ln z0.2.2)) - (Int.toNat z0.1)) 0).map pI), .bnd ((Gn z0.2.2 (Int.toNat z0.1) ((Int.toNat (ln z0.2.2)) - (Int.toNat z0.1)) 0).map pI).length 0 z0.1 z0.1] [.trunc 4] [.tmp 4] 2 n3_ rfl hC ⟨Fs (by simp) (by simp) h14, yS pI rfl, Fs (by simp) rfl h16, trivial⟩ trivial (by kernel_rfl))
theorem A67 : EN 208 := en Tryz.func208
def O1 : List Nat := [0, 1, 4, 5, 7, 8, 9, 16]
def R_ (x0 : List Dh) (n0 : Nat) (z0 : Unit) : St := [(0, .d (DS Xi x0)), (1, .d (.fn (.func 150) [] [])), (4, dI 0), (7, dI (ln x0)), (8, dI (cnt 0 n0))]
def Yi  (n0 : Nat) (z0 : Unit) : List Res := []
def Abe  (z0 : Unit) : St := [(4, dI 0)]
def Acz  (z0 : Unit) : List Res := []
theorem A5j (x0 : List Dh) (r : Int) (h : Ak7 x0 = some r) : CO 196 [.d (DS Xi x0), .d (.fn (.func 150) [] [])] [] (.d (I r)) [] := by
 unfold Ak7 at h
 refine co 19 Tryz.func196 λ C hC => ?_
 refine ws O1 26 [] [pl Xi x0] [] 0 [] (R_ x0 0 ()) (Yi 0 ()) hC [] ?_
 obtain ⟨w0, hm0, hret0, hnext0⟩ := Ap h
 clear h
 refine wc w0 (Abe) (Acz) ?_ λ z0 hs0 => ?_
 ·refine wb ?_
  refine Bp 0 rfl λ hl0 => ?_
  refine wl (R_ x0) (Yi) hm0 (λ z0 hn0 => ?_) λ n0 a0 z0 w0b hi0 hx0 h hb0 hr0 => ?_
  ·clear hm0
   exact wx w0 (Abe) (Acz) O1 26 [false] [] [] 0 [] _ hC [pq (A7 hl0)] hn0
  ·unfold Adm at h
   rcases cB h with ⟨h1, h⟩ | ⟨h1, h⟩
   ·have hq := hret0 _ (hr0 _ (sI h).symm)
    replace hq := sI hq
    subst hq
    exact wr O1 35 [true, true] [pt hx0 hl0, pc A7y (A52 a0 _ rfl) []] [] 0 [] hC [pq (A5 hi0 hl0), pq h1]
   ·exact wx w0b (R_ x0 (n0 + 1)) (Yi (n0 + 1)) O1 36 [true, false] [pt hx0 hl0, pc A7y (A52 a0 _ rfl) []] [] 0 [] _ hC [pq (A5 hi0 hl0), pq h1] (sI h).symm
 ·have h := hnext0 _ hs0
  replace h := sI h
  subst h
  exact wr O1 23 [] [] [] 0 [] hC []
theorem A7f : EN 196 := en Tryz.func196
def S7 : List Nat := [0, 1, 2, 3, 4, 5, 6, 7, 8, 12, 38, 50, 51, 52, 53, 77]
def Afg (x1 : Ab) (n0 : Nat) (z0 : Bool) : St := [(2, dO 0 0), (3, dO 1 0), (4, dI 0), (6, dB z0), (50, .d (DS pI x1.Ak)), (51, dI (ln x1.Ak)), (52, dI (cnt 0 n0))]
def Ar6 (x0 : Aa) (x1 : Ab) (n0 : Nat) (z0 : Bool) : List Res := [.box 29 (d29 x0), .box 36 (d36 x1)]
def Auk  (z0 : Bool) : St := [(4, dI 0), (6, dB z0)]
def Ax3  (z0 : Bool) : List Res := []
theorem k43 (x0 : Aa) (x1 : Ab) (r : Int) (h : F43 x0 x1 = some r) : CO 43 [.agg (d29 x0), .agg (d36 x1)] [] (.d (I r)) [] := by
 unfold F43 at h
 refine co 78 Tryz.func43 λ C hC => ?_
 obtain ⟨y1, h2, h⟩ := Av h
 rcases cB h with ⟨h3, h⟩ | ⟨h3, h⟩
 ·replace h := sI h
  subst h
  exact wr S7 31 [true] [pc e85 (k85 x0 _ h2) []] [] 0 [] hC [pq h3]
 ·refine wn S7 33 [false] [pc e85 (k85 x0 _ h2) [], pl pB x1.Ag, pl Bg x0.Ae, pL_ [(((ln x1.Ag) != (ln x0.Ae)), false)] A_ x1.Ac, pL_ [(((ln x1.Ag) != (ln x0.Ae)), false)] Bu x0.Ac, pL_ [((((ln x1.Ag) != (ln x0.Ae)) || ((ln x1.Ac) != (ln x0.Ac))), false)] pI x1.Ak, pL_ [((((ln x1.Ag) != (ln x0.Ae)) || ((ln x1.Ac) != (ln x0.Ac))), false)] q65 x0.Ad] [] 0 [0, 1] [2, 3, 4, 38] hC [pq h3] ?_
  rcases cB h with ⟨h4, h⟩ | ⟨h4, h⟩
  ·replace h := sI h
   subst h
   exact wr S7 24 [true] [] [] 0 [] hC [pq h4]
  ·obtain ⟨y5, h6, y7, h8, h⟩ := A8 h
   refine ws S7 28 [false] [pc e95 (k95 x0 x1.Ao _ h6) [], pw A9x (λ hg => A9f x1.Ac _ (A9 h8 hg)) [], pl pI x1.Ak] [] 0 [0, 1] (Afg x1 0 (y5 && (!y7))) (Ar6 x0 x1 0 (y5 && (!y7))) hC [pq h4] ?_
   obtain ⟨w0, hm0, hret0, hnext0⟩ := Ap h
   clear h
   refine wc w0 (Auk) (Ax3) ?_ λ z0 hs0 => ?_
   ·refine wb ?_
    refine Bp 50 rfl λ hl0 => ?_
    refine wl (Afg x1) (Ar6 x0 x1) hm0 (λ z0 hn0 => ?_) λ n0 a0 z0 w0b hi0 hx0 h hb0 hr0 => ?_
    ·clear hm0
     exact wx w0 (Auk) (Ax3) S7 26 [false] [] [] 0 [] _ hC [pq (A7 hl0)] hn0
    ·unfold Aki at h
     obtain ⟨y9, h10, y11, h12, h⟩ := A8 h
     exact wx w0b (Afg x1 (n0 + 1)) (Ar6 x0 x1 (n0 + 1)) S7 33 [true] [pt hx0 hl0, pR q65 h10, ⟨.when [(z0, true)] (.call 99 [dI a0, dI 0, dI y9.Load] [] (dB (F99 a0 0 y9.Load)) [] []), λ hg => ⟨e99, (k99 a0 0 y9.Load _ rfl)⟩⟩, pw Bcv (λ hg => Bbe x0 x1 (cnt 0 n0) _ (A9 h12 hg)) []] [] 0 [0, 1] _ hC [pq (A5 hi0 hl0)] (sI h).symm
   ·have h := hnext0 _ hs0
    rcases cB h with ⟨h13, h⟩ | ⟨h13, h⟩
    ·replace h := sI h
     subst h
     exact wr S7 27 [true] [] [] 0 [] hC [pq h13]
    ·replace h := sI h
     subst h
     exact wr S7 28 [false] [] [] 0 [] hC [pq h13]
theorem e43 : EN 43 := en Tryz.func43
def H0 : List Nat := [0, 1, 4, 5, 6, 8, 13, 14, 15, 16, 32, 38, 39, 40, 41]
def M7 (x0 : Ax) (n0 : Nat) (z0 : Sg8) : St := [(0, dO 0 0), (1, .d (.fn (.func 205) [.o 0 0] [])), (4, dS 6), (13, .d (DS Bg x0.Am.Ae)), (14, dI (ln x0.Am.Ae)), (15, dI (cnt 0 n0))]
def Q_  (n0 : Nat) (z0 : Sg8) : List Res := [.box 235 [I z0.1, DS Bg z0.2.1, DS Bu z0.2.2.1, DS q65 (g3_ z0), I (g4_ z0), I (g5_ z0), .os 7, .os 8, .os 9, .os 10, .os 11], .non, .non, .non, .non, .non, v0_ (g6_ z0), v2_ (g7_ z0), v4_ (g8_ z0), v0_ (g9_ z0), v3_ (Dx z0), v6_ (Im z0)]
def Abd  (z0 : Sg8) : St := [(0, dO 0 0), (4, dS 6)]
def Acy  (z0 : Sg8) : List Res := [.box 235 [I z0.1, DS Bg z0.2.1, DS Bu z0.2.2.1, DS q65 (g3_ z0), I (g4_ z0), I (g5_ z0), .os 7, .os 8, .os 9, .os 10, .os 11], .non, .non, .non, .non, .non, v0_ (g6_ z0), v2_ (g7_ z0), v4_ (g8_ z0), v0_ (g9_ z0), v3_ (Dx z0), v6_ (Im z0)]
def R9 (z0 : Sg8) (n1 : Nat) (z1 : Sg7) : St := [(0, dO 0 0), (38, dS 6), (39, dI (ln (g6_ z0))), (40, dI (cnt 0 n1))]
def Yh (z0 : Sg8) (n1 : Nat) (z1 : Sg7) : List Res := [.box 235 [I z1.1, DS Bg z1.2.1, DS Bu z1.2.2.1, DS q65 (g3_ z1), I (g4_ z1), I (g5_ z1), .os 7, .os 8, .os 9, .os 10, .os 11], .non, .non, .non, .non, .non, v0_ (g6_ z0), v2_ (g6_ z1), v4_ (g7_ z1), v0_ (g8_ z1), v3_ (g9_ z1), v6_ (F3 z1)]
def Abc  (z1 : Sg7) : St := []
def Acx  (z1 : Sg7) : List Res := [.box 235 [I z1.1, DS Bg z1.2.1, DS Bu z1.2.2.1, DS q65 (g3_ z1), I (g4_ z1), I (g5_ z1), .os 6, .os 7, .os 8, .os 9, .os 10], .non, .non, .non, .non, .non, v2_ (g6_ z1), v4_ (g7_ z1), v0_ (g8_ z1), v3_ (g9_ z1), v6_ (F3 z1)]
theorem A5g (x0 : Ax) (r : Ax) (h : Uq x0 = some r) : CO 204 [.d (.o 0 0), .d (.fn (.func 205) [.o 0 0] [])] (.box 235 (zb x0.Am [.os 1, .os 2, .os 3, .os 4, .os 5]) :: zp x0.Au [v6_ x0.acts]) (.tup []) (.box 235 (zb r.Am [.os 6, .os 7, .os 8, .os 9, .os 10]) :: .non :: .non :: .non :: .non :: .non :: zp r.Au [v6_ r.acts]) := by
 unfold Uq at h
 refine co 48 Tryz.func204 λ C hC => ?_
 refine ws H0 26 [] [pl Bg x0.Am.Ae] [.own 4 3 1, .mv 1, .mv 2, .mv 3, .mv 4, .mv 5] 6 Er (M7 x0 0 (zt x0.Am (([] : List Int), zu x0.Au x0.acts))) (Q_ 0 (zt x0.Am (([] : List Int), zu x0.Au x0.acts))) hC [] ?_
 obtain ⟨w0, hm0, hret0, hnext0⟩ := Ap h
 clear h
 refine wc w0 (Abd) (Acy) ?_ λ z0 hs0 => ?_
 ·refine wb ?_
  refine Bp 13 rfl λ hl0 => ?_
  refine wl (M7 x0) (Q_) hm0 (λ z0 hn0 => ?_) λ n0 a0 z0 w0b hi0 hx0 h hb0 hr0 => ?_
  ·clear hm0
   exact wx w0 (Abd) (Acy) H0 26 [false] [] [] 6 Er _ hC [pq (A7 hl0)] hn0
  ·unfold Uo at h
   obtain ⟨y1, h2, y3, h4, h⟩ := A8 h
   refine wn H0 32 [true] [pt hx0 hl0, pr pB h2, pn pB h2, ⟨.whenR [(y1, true)] (.call 205 [dO 0 0, .agg (Oc a0)] [.box 235 [I z0.1, DS Bg z0.2.1, DS Bu z0.2.2.1, DS q65 (g3_ z0), I (g4_ z0), I (g5_ z0), .os 1, .os 2, .os 3, .os 4, .os 5], v2_ (g7_ z0), v4_ (g8_ z0), v0_ (g9_ z0), v3_ (Dx z0), v6_ (Im z0)] (dB y3.1) (.box 235 (zb y3.2.Am [.os 1, .os 2, .os 3, .os 4, .os 5]) :: zp y3.2.Au [v6_ y3.2.acts]) [0, 7, 8, 9, 10, 11]), ⟨λ hg => ⟨A69, (A5d (⟨(⟨z0.1, z0.2.1, z0.2.2.1, (g3_ z0), (g4_ z0), (g5_ z0)⟩ : Aa), (⟨(g7_ z0), (g8_ z0), (g9_ z0), (Dx z0)⟩ : Ab), (Im z0)⟩ : Ax) a0 _ (A9 h4 hg))⟩, λ hg => by have e := H4 h4 hg; subst e; rfl⟩⟩] [] 6 Er [0, 1, 4, 5, 13, 14, 15, 32] hC [pq (A5 hi0 hl0)] ?_
   rcases cB h with ⟨h5, h⟩ | ⟨h5, h⟩
   ·obtain ⟨y6, h7, h⟩ := Av h
    exact wx w0b (M7 x0 (n0 + 1)) (Q_ (n0 + 1)) H0 25 [true] [pa pI 1 h7] [] 6 [0, 1, 2, 3, 4, 5, 12, 7, 8, 9, 10, 11] _ hC [pq h5] (sI h).symm
   ·exact wx w0b (M7 x0 (n0 + 1)) (Q_ (n0 + 1)) H0 25 [false] [] [] 6 Er _ hC [pq h5] (sI h).symm
 ·have h := hnext0 _ hs0
  refine ws H0 23 [] [pl pI (g6_ z0)] [] 6 Er (R9 z0 0 (z0.1, z0.2.1, z0.2.2.1, (g3_ z0), (g4_ z0), (g5_ z0), (g7_ z0), (g8_ z0), (g9_ z0), (Dx z0), (Im z0))) (Yh z0 0 (z0.1, z0.2.1, z0.2.2.1, (g3_ z0), (g4_ z0), (g5_ z0), (g7_ z0), (g8_ z0), (g9_ z0), (Dx z0), (Im z0))) hC [] ?_
  obtain ⟨w1, hm1, hret1, hnext1⟩ := Ap h
  clear h
  refine wc w1 (Abc) (Acx) ?_ λ z1 hs1 => ?_
  ·refine wb ?_
   refine B3 38 6 rfl rfl λ hl1 => ?_
   refine wl (R9 z0) (Yh z0) hm1 (λ z1 hn1 => ?_) λ n1 a1 z1 w1b hi1 hx1 h hb1 hr1 => ?_
   ·clear hm1
    exact wx w1 (Abc) (Acx) H0 26 [false] [] [] 6 [0, 1, 2, 3, 4, 5, 7, 8, 9, 10, 11] _ hC [pq (A7 hl1)] hn1
   ·unfold Nw at h
    obtain ⟨y8, h9, h⟩ := Av h
    exact wx w1b (R9 z0 (n1 + 1)) (Yh z0 (n1 + 1)) H0 33 [true] [pr pI (Be hx1 hl1), pn pI (Be hx1 hl1), pc Ahy (Ag4 (⟨(⟨z1.1, z1.2.1, z1.2.2.1, (g3_ z1), (g4_ z1), (g5_ z1)⟩ : Aa), (⟨(g6_ z1), (g7_ z1), (g8_ z1), (g9_ z1)⟩ : Ab), (F3 z1)⟩ : Ax) a1 _ h9) [0, 7, 8, 9, 10, 11]] [] 6 [0, 1, 2, 3, 4, 5, 6, 7, 8, 9, 10, 12] _ hC [pq (A5 hi1 hl1)] (sI h).symm
  ·have h := hnext1 _ hs1
   replace h := sI h
   subst h
   exact wf H0 20 [] [] [] 6 Sz hC []
theorem A7c : EN 204 := en Tryz.func204
theorem A41 (x0 : List Int) (x1c0 : Aa) (r : (List Int) × Aa) (h : T9 x0 x1c0 = some r) : CO 232 [.d (.os 0), .d (.fn (.func 233) [] [.o 1 0])] [v0_ x0, .box 29 (d29 x1c0)] (.tup []) [v0_ r.1, .box 29 (d29 r.2)] := by
 unfold T9 at h
 refine co 9 Tryz.func232 λ C hC => ?_
 obtain ⟨y1, h2, h⟩ := Av h
 replace h := sI h
 subst h
 exact wf [0, 1] 21 [] [pl pI x0, pc A6u (A4y x0 (ln x0) x1c0 _ h2) [0, 1]] [] 2 [0, 1] hC []
theorem A6x : EN 232 := en Tryz.func232
def Agx : List Nat := [0, 1, 2, 3, 4, 5, 6, 7, 9, 12, 17, 41, 42, 43, 44]
def Afj (x0 : Aa) (n0 : Nat) (z0 : (List Int)) : St := [(4, dO 0 0), (5, dI 0), (7, dO 8 0), (41, .d (DS q65 x0.Ad)), (42, dI (ln x0.Ad)), (43, dI (cnt 0 n0))]
def Ar9 (y5 : (List A3)) (y7 : List Bool) (y9 : (List Ah)) (n0 : Nat) (z0 : (List Int)) : List Res := (.box 40 [I 0, .os 1, .os 2, .os 3, .os 4, .os 5, .os 6] :: ze [v5_ ([] : List A3), v1_ ([] : List Bl), v5_ y5, .box 40 [I 0, .os 9, .os 10, .os 11, .os 12, .os 7, .os 13], v2_ y7, v4_ y9, v0_ z0, v3_ ([] : List Al), v1_ ([] : List Bl)])
def Aun  (z0 : (List Int)) : St := [(4, dO 0 0), (5, dI 0), (7, dO 8 0)]
def Ax6 (y5 : (List A3)) (y7 : List Bool) (y9 : (List Ah)) (z0 : (List Int)) : List Res := (.box 40 [I 0, .os 1, .os 2, .os 3, .os 4, .os 5, .os 6] :: ze [v5_ ([] : List A3), v1_ ([] : List Bl), v5_ y5, .box 40 [I 0, .os 9, .os 10, .os 11, .os 12, .os 7, .os 13], v2_ y7, v4_ y9, v0_ z0, v3_ ([] : List Al), v1_ ([] : List Bl)])
theorem k36 (x0 : Aa) (x1 : Bk) (r : A0 × Int) (h : F36 x0 x1 = some r) : CO 36 [.agg (d29 x0), .agg (d31 x1)] [] (.tup [.agg [I r.1.Time, .os 0, .os 1, .os 2, .os 3, .os 4, .os 5], .d (I r.2)]) (zp r.1.Power [v5_ r.1.A6, v1_ r.1.Bc]) := by
 unfold F36 at h
 refine co 58 Tryz.func36 λ C hC => ?_
 obtain ⟨y1, h2, h⟩ := Av h
 rcases cB h with ⟨h3, h⟩ | ⟨h3, h⟩
 ·cases h
 ·refine wn Agx 32 [false] [pc e85 (k85 x0 _ h2) [], pc e59 (k59 x1 _ rfl) []] [.ownb 2 1 4 1, .ownb 2 2 120 4, .ownb 2 3 3 1, .ownb 2 4 86 2, .ownb 2 5 130 2, .ownb 2 6 51 5] 0 [0, 2, 3, 4, 5, 6, 7, 8] [2, 4, 5, 17] hC [pq h3] ?_
  rcases cB h with ⟨h4, h⟩ | ⟨h4, h⟩
  ·cases h
  ·obtain ⟨y5, h6, y7, h8, y9, h10, h⟩ := By h
   refine ws Agx 33 [false] [pc e86 (k86 x0.Aq _ h6) [], pl Bg x0.Ae, ⟨.room ((ln x0.Ae) * (1 + 1)) (List.replicate (Int.toNat (ln x0.Ae)) (pB false)) (y7.map pB), Hh h8⟩, pl Bu x0.Ac, pc e87 (k87 [(⟨0, 0, 5000, 0⟩ : Ah)] (ln x0.Ac) _ h10) [], pl q65 x0.Ad] [.ownb 9 3 3 1, .ownb 9 4 86 2, .ownb 9 6 51 5] 0 [1, 2, 3, 4, 5, 6, 7, 8, 9, 10, 11, 12, 13, 14] (Afj x0 0 ([] : List Int)) (Ar9 y5 y7 y9 0 ([] : List Int)) hC [pq h4] ?_
   obtain ⟨w0, hm0, hret0, hnext0⟩ := Ap h
   clear h
   refine wc w0 (Aun) (Ax6 y5 y7 y9) ?_ λ z0 hs0 => ?_
   ·refine wb ?_
    refine Bp 41 rfl λ hl0 => ?_
    refine wl (Afj x0) (Ar9 y5 y7 y9) hm0 (λ z0 hn0 => ?_) λ n0 a0 z0 w0b hi0 hx0 h hb0 hr0 => ?_
    ·clear hm0
     exact wx w0 (Aun) (Ax6 y5 y7 y9) Agx 26 [false] [] [] 0 A_y _ hC [pq (A7 hl0)] hn0
    ·unfold Ayu at h
     obtain ⟨y11, h12, h⟩ := Av h
     exact wx w0b (Afj x0 (n0 + 1)) (Ar9 y5 y7 y9 (n0 + 1)) Agx 33 [true] [pt hx0 hl0, pa pI 1 h12] [] 0 [0, 1, 2, 3, 4, 5, 6, 7, 8, 9, 10, 15, 12, 13] _ hC [pq (A5 hi0 hl0)] (sI h).symm
   ·have h := hnext0 _ hs0
    replace h := sI h
    subst h
    exact wr Agx 23 [] [] [] 0 [9, 10, 11, 12, 7, 13] hC []
theorem e36 : EN 36 := en Tryz.func36
theorem A53 (x0 : List Dh) (r : Bool) (h : Alf x0 = some r) : CO 149 [.d (DS Xi x0), .d (.fn (.func 150) [] [])] [] (.d (Bo r)) [] := by
 unfold Alf at h
 refine co 9 Tryz.func149 λ C hC => ?_
 obtain ⟨y1, h2, h⟩ := Av h
 replace h := sI h
 subst h
 exact wr [0, 1, 4] 25 [] [pc A7f (A5j x0 _ h2) []] [] 0 [] hC []
theorem A7z : EN 149 := en Tryz.func149
def Md : List Nat := [0, 1, 2, 3, 4, 5, 6, 7, 12, 16, 31]
def Zo  (z0 : Int × (List Af)) : St := [(2, dO 0 0), (3, dO 1 0), (4, .d (DS q84 [])), (5, dS 2), (6, dI z0.1)]
def Aes (x0 : Aa) (x1 : Ab) (z0 : Int × (List Af)) : List Res := [.box 29 (d29 x0), .box 36 (d36 x1), v7_ z0.2]
def Aus  (z0 : Int × (List Af)) : St := [(4, .d (DS q84 [])), (5, dS 0)]
def Ayb  (z0 : Int × (List Af)) : List Res := [v7_ z0.2]
theorem k25 (x0 : Aa) (x1 : Ab) (r : (List Af)) (h : F25 x0 x1 = some r) : CO 25 [.agg (d29 x0), .agg (d36 x1)] [] (.d (.os 0)) [v7_ r] := by
 unfold F25 at h
 refine co 37 Tryz.func25 λ C hC => ?_
 obtain ⟨y1, h2, h⟩ := Av h
 refine wn Md 26 [] [pc e53 (k53 x0 x1 _ h2) []] [] 0 [0, 1] [2, 3, 4, 12] hC [] ?_
 rcases cB h with ⟨h3, h⟩ | ⟨h3, h⟩
 ·replace h := sI h
  subst h
  exact wr Md 24 [true] [] [.own 4 84 3] 0 [2] hC [pq h3]
 ·refine ws Md 28 [false] [] [.own 5 84 3] 0 n3_ (Zo (0, ([] : List Af))) (Aes x0 x1 (0, ([] : List Af))) hC [pq h3] ?_
  obtain ⟨w0, hm0, hret0, hnext0⟩ := Ap h
  clear h
  refine wc w0 (Aus) (Ayb) ?_ λ z0 hs0 => ?_
  ·refine wb ?_
   refine ww (Zo) (Aes x0 x1) hm0 λ z0 w0b h hb0 hr0 => ?_
   unfold Ako at h
   rcases cB h with ⟨h4, h⟩ | ⟨h4, h⟩
   ·obtain ⟨y5, h6, y7, h8, h⟩ := A8 h
    refine wn Md 32 [true] [pc e54 (k54 x0 x1 z0.1 _ h6) [], pr pI h8, pn pI h8] [] 0 n7_ [2, 3, 4, 5, 6, 7, 31] hC [pq h4] ?_
    rcases cB h with ⟨h9, h⟩ | ⟨h9, h⟩
    ·refine wn Md 1 [true] [] [.frz 3] 0 [0, 1, 2, 4, 5, 6] [2, 3, 4, 5, 6, 7] hC [pq h9] ?_
     refine wn Md 0 [] [] [.frz 3] 0 [0, 1, 2, 4, 5] [2, 3, 4, 5, 6, 7] hC [] ?_
     refine wn Md 0 [] [] [.frz 3] 0 [0, 1, 2, 4] [2, 3, 4, 5, 6, 7] hC [] ?_
     obtain ⟨y10, h11, h⟩ := Av h
     exact wx w0b (Zo) (Aes x0 x1) Md 24 [] [pa q84 3 h11] [] 0 [0, 1, 4] _ hC [] (sI h).symm
    ·exact wx w0b (Zo) (Aes x0 x1) Md 25 [false] [] [] 0 n3_ _ hC [pq h9] (sI h).symm
   ·exact wx w0 (Aus) (Ayb) Md 26 [false] [] [] 0 [2] (z0.1, z0.2) hC [pq h4] (hb0 _ (sI h).symm)
  ·have h := hnext0 _ hs0
   replace h := sI h
   subst h
   exact wr Md 23 [] [] [] 0 [0] hC []
theorem e25 : EN 25 := en Tryz.func25
def Aqq : List Nat := [0, 1, 2, 3, 4, 6, 7, 11]
theorem A6i (x0 : Aa) (x1 : Ab) (x2 : Int) (r : Int × Bool) (h : Alw x0 x1 x2 = some r) : CO 101 [.agg (d29 x0), .agg (d36 x1), .d (I x2)] [] (.tup [.d (I r.1), .d (Bo r.2)]) [] := by
 unfold Alw at h
 refine co 18 Tryz.func101 λ C hC => ?_
 obtain ⟨y1, h2, h⟩ := Av h
 refine wn Aqq 26 [] [pc e43 (k43 x0 x1 _ h2) []] [] 0 [0, 1] [2, 3, 4, 6, 7, 11] hC [] ?_
 rcases cB h with ⟨h3, h⟩ | ⟨h3, h⟩
 ·replace h := sI h
  subst h
  exact wr Aqq 24 [true] [] [] 0 [] hC [pq h3]
 ·obtain ⟨y4, h5, h⟩ := Av h
  replace h := sI h
  subst h
  exact wr Aqq 25 [false] [pc A0e (Azw x0 x1 x2 _ h5) []] [] 0 [] hC [pq h3]
theorem A8e : EN 101 := en Tryz.func101
def Hi : List Nat := [0, 1, 2, 3, 4, 5, 6, 7, 8, 9, 10, 11, 12, 13, 14, 18, 25, 26, 27, 28, 47, 48, 49, 58, 80, 81, 82, 91]
def Ae1 (y4 : (List Int)) (n0 : Nat) (z0 : (List Af)) : St := [(2, dO 0 0), (3, dO 1 0), (4, .d (DS q84 [])), (5, dS 2), (6, dS 3), (25, dS 2), (26, dI (ln y4)), (27, dI (cnt 0 n0))]
def Arr (x0 : Aa) (x1 : Ab) (y4 : (List Int)) (n0 : Nat) (z0 : (List Af)) : List Res := [.box 29 (d29 x0), .box 36 (d36 x1), v0_ y4, .dsl 84 3 4, .gh 3 [(3, 1), (3, 1), (3, 1)] (z0.map q84) none]
def Atw  (z0 : (List Af)) : St := [(2, dO 0 0), (3, dO 1 0), (4, .d (DS q84 [])), (5, dS 2), (6, dS 3)]
def Axf (x0 : Aa) (x1 : Ab) (y4 : (List Int)) (z0 : (List Af)) : List Res := [.box 29 (d29 x0), .box 36 (d36 x1), v0_ y4, .dsl 84 3 4, .gh 3 [(3, 1), (3, 1), (3, 1)] (z0.map q84) none]
def Zd (x0 : Aa) (z1 : Int × (List Af)) : St := [(2, dO 0 0), (3, dO 1 0), (4, .d (DS q84 [])), (5, dS 2), (6, dS 3), (47, dI (ln x0.Ac)), (48, dI z1.1)]
def Aeh (x0 : Aa) (x1 : Ab) (y4 : (List Int)) (z1 : Int × (List Af)) : List Res := [.box 29 (d29 x0), .box 36 (d36 x1), v0_ y4, .dsl 84 3 4, .gh 3 [(3, 1), (3, 1), (3, 1)] (z1.2.map q84) none]
def Atv  (z1 : Int × (List Af)) : St := [(2, dO 0 0), (3, dO 1 0), (4, .d (DS q84 [])), (5, dS 2), (6, dS 3)]
def Axe (x0 : Aa) (x1 : Ab) (y4 : (List Int)) (z1 : Int × (List Af)) : List Res := [.box 29 (d29 x0), .box 36 (d36 x1), v0_ y4, .dsl 84 3 4, .gh 3 [(3, 1), (3, 1), (3, 1)] (z1.2.map q84) none]
def Zc (x0 : Aa) (z2 : Int × (List Af)) : St := [(2, dO 0 0), (3, dO 1 0), (4, .d (DS q84 [])), (5, dS 2), (6, dS 3), (80, dI (ln x0.Ad)), (81, dI z2.1)]
def Aeg (x0 : Aa) (x1 : Ab) (y4 : (List Int)) (z2 : Int × (List Af)) : List Res := [.box 29 (d29 x0), .box 36 (d36 x1), v0_ y4, .dsl 84 3 4, .gh 3 [(3, 1), (3, 1), (3, 1)] (z2.2.map q84) none]
def Atu  (z2 : Int × (List Af)) : St := [(4, .d (DS q84 [])), (6, dS 0)]
def Axd  (z2 : Int × (List Af)) : List Res := [.dsl 84 3 1, .gh 3 [(3, 1), (3, 1), (3, 1)] (z2.2.map q84) none]
theorem k89 (x0 : Aa) (x1 : Ab) (r : (List Af)) (h : F89 x0 x1 = some r) : CO 89 [.agg (d29 x0), .agg (d36 x1)] [] (.d (.os 0)) [v7_ r] := by
 unfold F89 at h
 refine co 113 Tryz.func89 λ C hC => ?_
 obtain ⟨y1, h2, h⟩ := Av h
 refine wn Hi 26 [] [pc e43 (k43 x0 x1 _ h2) []] [] 0 [0, 1] [2, 3, 4, 18] hC [] ?_
 rcases cB h with ⟨h3, h⟩ | ⟨h3, h⟩
 ·replace h := sI h
  subst h
  exact wr Hi 24 [true] [] [.own 4 84 3] 0 [2] hC [pq h3]
 ·obtain ⟨y4, h5, y6, h7, h⟩ := A8 h
  refine ws Hi 30 [false] [pc A72 (A56 x0 x1 _ h5) [], ⟨.roomZ (x0.Aq * (72 + 1)) (List.replicate (Int.toNat x0.Aq) (q84 (⟨([] : List Int), ([] : List Int), ([] : List Int)⟩ : Af))) (y6.map q84), S3 h7⟩, pl pI y4] [.deep 3 [(3, 1), (3, 1), (3, 1)]] 0 n5_ (Ae1 y4 0 y6) (Arr x0 x1 y4 0 y6) hC [pq h3] ?_
  obtain ⟨w0, hm0, hret0, hnext0⟩ := Ap h
  clear h
  refine wc w0 (Atw) (Axf x0 x1 y4) ?_ λ z0 hs0 => ?_
  ·refine wb ?_
   refine B3 25 2 rfl rfl λ hl0 => ?_
   refine wl (Ae1 y4) (Arr x0 x1 y4) hm0 (λ z0 hn0 => ?_) λ n0 a0 z0 w0b hi0 hx0 h hb0 hr0 => ?_
   ·clear hm0
    exact wx w0 (Atw) (Axf x0 x1 y4) Hi 26 [false] [] [] 0 n5_ _ hC [pq (A7 hl0)] hn0
   ·unfold Ajz at h
    obtain ⟨y8, h9, y10, h11, y12, h13, h⟩ := By h
    exact wx w0b (Ae1 y4 (n0 + 1)) (Arr x0 x1 y4 (n0 + 1)) Hi 33 [true] [pr pI (Be hx0 hl0), pn pI (Be hx0 hl0), pr q84 h9, pn q84 h9, ⟨.appD (z0.map q84) (Int.toNat a0) (q84 y8) 0 (y8.Aq.map pI) ([cnt 0 n0].map pI) 1 (((y8.Aq.map pI).length + ([cnt 0 n0].map pI).length) * (8 + 1)) (y10.map pI), Ix 1 (λ _ => rfl) h9 rfl h11⟩, pr q84 h9, ⟨.updD (z0.map q84) (Int.toNat a0) (Int.toNat a0) (q84 y8) (q84 (⟨y10, y8.Ac, y8.Ad⟩ : Af)) (y12.map q84), Iq h9 h13⟩] [] 0 [0, 1, 2, 3, 8] _ hC [pq (A5 hi0 hl0)] (sI h).symm
  ·have h := hnext0 _ hs0
   refine ws Hi 24 [] [pl Bu x0.Ac] [] 0 n5_ (Zd x0 (0, z0)) (Aeh x0 x1 y4 (0, z0)) hC [] ?_
   obtain ⟨w1, hm1, hret1, hnext1⟩ := Ap h
   clear h
   refine wc w1 (Atv) (Axe x0 x1 y4) ?_ λ z1 hs1 => ?_
   ·refine wb ?_
    refine ww (Zd x0) (Aeh x0 x1 y4) hm1 λ z1 w1b h hb1 hr1 => ?_
    unfold Ajy at h
    rcases cB h with ⟨h14, h⟩ | ⟨h14, h⟩
    ·obtain ⟨y15, h16, h⟩ := Av h
     refine wn Hi 34 [true] [pc A0f (Azx x0 x1 z1.1 _ h16) []] [] 0 n5_ [2, 3, 4, 5, 6, 9, 10, 47, 48, 58] hC [pq h14] ?_
     rcases cB h with ⟨h17, h⟩ | ⟨h17, h⟩
     ·obtain ⟨y18, h19, y20, h21, y22, h23, y24, h25, h⟩ := Cy h
      exact wx w1b (Zd x0) (Aeh x0 x1 y4) Hi 25 [true] [pr pI h19, pn pI h19, pr pI h19, pn pI h19, pr q84 h21, pn q84 h21, ⟨.appD (z1.2.map q84) (Int.toNat y18) (q84 y20) 1 (y20.Ac.map pI) ([z1.1].map pI) 1 (((y20.Ac.map pI).length + ([z1.1].map pI).length) * (8 + 1)) (y22.map pI), Ix 1 (λ _ => rfl) h21 rfl h23⟩, pr q84 h21, ⟨.updD (z1.2.map q84) (Int.toNat y18) (Int.toNat y18) (q84 y20) (q84 (⟨y20.Aq, y22, y20.Ad⟩ : Af)) (y24.map q84), Iq h21 h25⟩] [] 0 [0, 1, 2, 3, 8] _ hC [pq h17] (sI h).symm
     ·exact wx w1b (Zd x0) (Aeh x0 x1 y4) Hi 25 [false] [] [] 0 n5_ _ hC [pq h17] (sI h).symm
    ·exact wx w1 (Atv) (Axe x0 x1 y4) Hi 26 [false] [] [] 0 n5_ (z1.1, z1.2) hC [pq h14] (hb1 _ (sI h).symm)
   ·have h := hnext1 _ hs1
    refine ws Hi 24 [] [pl q65 x0.Ad] [] 0 n5_ (Zc x0 (0, z1.2)) (Aeg x0 x1 y4 (0, z1.2)) hC [] ?_
    obtain ⟨w2, hm2, hret2, hnext2⟩ := Ap h
    clear h
    refine wc w2 (Atu) (Axd) ?_ λ z2 hs2 => ?_
    ·refine wb ?_
     refine ww (Zc x0) (Aeg x0 x1 y4) hm2 λ z2 w2b h hb2 hr2 => ?_
     unfold Ajx at h
     rcases cB h with ⟨h26, h⟩ | ⟨h26, h⟩
     ·obtain ⟨y27, h28, h⟩ := Av h
      refine wn Hi 34 [true] [pc A0e (Azw x0 x1 z2.1 _ h28) []] [] 0 n5_ [2, 3, 4, 5, 6, 12, 13, 80, 81, 91] hC [pq h26] ?_
      rcases cB h with ⟨h29, h⟩ | ⟨h29, h⟩
      ·obtain ⟨y30, h31, y32, h33, y34, h35, y36, h37, h⟩ := Cy h
       exact wx w2b (Zc x0) (Aeg x0 x1 y4) Hi 25 [true] [pr pI h31, pn pI h31, pr pI h31, pn pI h31, pr q84 h33, pn q84 h33, ⟨.appD (z2.2.map q84) (Int.toNat y30) (q84 y32) 2 (y32.Ad.map pI) ([z2.1].map pI) 1 (((y32.Ad.map pI).length + ([z2.1].map pI).length) * (8 + 1)) (y34.map pI), Ix 1 (λ _ => rfl) h33 rfl h35⟩, pr q84 h33, ⟨.updD (z2.2.map q84) (Int.toNat y30) (Int.toNat y30) (q84 y32) (q84 (⟨y32.Aq, y32.Ac, y34⟩ : Af)) (y36.map q84), Iq h33 h37⟩] [] 0 [0, 1, 2, 3, 8] _ hC [pq h29] (sI h).symm
      ·exact wx w2b (Zc x0) (Aeg x0 x1 y4) Hi 25 [false] [] [] 0 n5_ _ hC [pq h29] (sI h).symm
     ·exact wx w2 (Atu) (Axd) Hi 26 [false] [] [] 0 [3, 4] (z2.1, z2.2) hC [pq h26] (hb2 _ (sI h).symm)
    ·have h := hnext2 _ hs2
     refine wn Hi 1 [] [] [.flat 0] 0 [0] [4, 6] hC [] ?_
     obtain ⟨y38, h39, h⟩ := Av h
     replace h := sI h
     subst h
     exact wr Hi 22 [] [pc Awe (Avl z2.2 _ h39) [0]] [] 0 [1] hC []
theorem e89 : EN 89 := en Tryz.func89
def Vm : List Nat := [0, 1, 2, 3, 4, 6, 7, 8, 9, 13, 18, 29]
theorem Bai (x0 : Aa) (x1 : Ab) (x2 : Int) (r : Ab × Int) (h : Ak9 x0 x1 x2 = some r) : CO 183 [.agg (d29 x0), .agg (d36 x1), .d (I x2)] [] (.tup [.agg [.os 0, .os 1, .os 2, .os 3], .d (I r.2)]) (zp r.1 []) := by
 unfold Ak9 at h
 refine co 49 Tryz.func183 λ C hC => ?_
 obtain ⟨y1, h2, h⟩ := Av h
 refine wn Vm 29 [] [pc e43 (k43 x0 x1 _ h2) []] [.ownb 2 0 4 1, .ownb 2 1 120 4, .ownb 2 2 3 1, .ownb 2 3 86 2] 0 n7_ [2, 3, 4, 6, 7, 8, 13] hC [] ?_
 rcases cB h with ⟨h3, h⟩ | ⟨h3, h⟩
 ·replace h := sI h
  subst h
  exact wr Vm 24 [true] [] [.ownb 2 0 4 1, .ownb 2 1 120 4, .ownb 2 2 3 1, .ownb 2 3 86 2] 0 [7, 8, 9, 10] hC [pq h3]
 ·rcases cB h with ⟨h4, h⟩ | ⟨h4, h⟩
  ·replace h := sI h
   subst h
   exact wr Vm 27 [false, true] [pL_ [(decide (x2 < 0), false)] Bg x0.Ae] [.ownb 2 0 4 1, .ownb 2 1 120 4, .ownb 2 2 3 1, .ownb 2 3 86 2] 0 [7, 8, 9, 10] hC [pq h3, pq h4]
  ·obtain ⟨y5, h6, y7, h8, h⟩ := A8 h
   refine wn Vm 27 [false, false] [pL_ [(decide (x2 < 0), false)] Bg x0.Ae, pr pB h6, pw J5 (λ hg => J2 x1 2 x2 _ (A9 h8 hg)) []] [] 0 [1, 2, 3, 4, 5, 6] [2, 4, 6, 7, 29] hC [pq h3, pq h4] ?_
   rcases cB h with ⟨h9, h⟩ | ⟨h9, h⟩
   ·replace h := sI h
    subst h
    exact wr Vm 24 [true] [] [.ownb 1 0 4 1, .ownb 1 1 120 4, .ownb 1 2 3 1, .ownb 1 3 86 2] 0 [6, 7, 8, 9] hC [pq h9]
   ·obtain ⟨y10, h11, y12, h13, y14, h15, h⟩ := By h
    replace h := sI h
    subst h
    exact wr Vm 30 [false] [pc K6 (K4 x1 _ h11) [], pr pB h13, pu pB h13 h15] [] 0 [6, 7, 8, 9] hC [pq h9]
theorem Bbz : EN 183 := en Tryz.func183
def Aql : List Nat := [0, 1, 2, 3, 4, 6, 7, 11]
theorem A_8 (x0 : Aa) (x1 : Ab) (x2 : Int) (r : Int × Bool) (h : As1 x0 x1 x2 = some r) : CO 217 [.agg (d29 x0), .agg (d36 x1), .d (I x2)] [] (.tup [.d (I r.1), .d (Bo r.2)]) [] := by
 unfold As1 at h
 refine co 18 Tryz.func217 λ C hC => ?_
 obtain ⟨y1, h2, h⟩ := Av h
 refine wn Aql 26 [] [pc e43 (k43 x0 x1 _ h2) []] [] 0 [0, 1] [2, 3, 4, 6, 7, 11] hC [] ?_
 rcases cB h with ⟨h3, h⟩ | ⟨h3, h⟩
 ·replace h := sI h
  subst h
  exact wr Aql 24 [true] [] [] 0 [] hC [pq h3]
 ·obtain ⟨y4, h5, h⟩ := Av h
  replace h := sI h
  subst h
  exact wr Aql 25 [false] [pc A0f (Azx x0 x1 x2 _ h5) []] [] 0 [] hC [pq h3]
theorem Bbp : EN 217 := en Tryz.func217
def Qe : List Nat := [0, 1, 2, 3, 4, 5, 6, 7, 8, 9, 14, 20, 21, 22, 23, 29]
def U8 (x1 : Ab) (n0 : Nat) (z0 : (List Ah)) : St := [(4, dO 0 0), (5, dI 0), (7, dO 9 0), (20, .d (DS A_ x1.Ac)), (21, dI (ln x1.Ac)), (22, dI (cnt 0 n0))]
def qG (y4 : Ab) (n0 : Nat) (z0 : (List Ah)) : List Res := (.box 36 [.os 1, .os 2, .os 3, .os 4] :: ze [v2_ y4.Ag, v4_ z0, v0_ y4.Ak, v3_ y4.Ao, .box 36 [.os 5, .os 6, .os 7, .os 8]])
def Amw  (z0 : (List Ah)) : St := [(4, dO 0 0), (5, dI 0), (7, dO 9 0)]
def Aoo (y4 : Ab) (z0 : (List Ah)) : List Res := (.box 36 [.os 1, .os 2, .os 3, .os 4] :: ze [v2_ y4.Ag, v4_ z0, v0_ y4.Ak, v3_ y4.Ao, .box 36 [.os 5, .os 6, .os 7, .os 8]])
theorem A_6 (x0 : Aa) (x1 : Ab) (r : Ab × Int) (h : Ak0 x0 x1 = some r) : CO 222 [.agg (d29 x0), .agg (d36 x1)] [] (.tup [.agg [.os 0, .os 1, .os 2, .os 3], .d (I r.2)]) (zp r.1 []) := by
 unfold Ak0 at h
 refine co 45 Tryz.func222 λ C hC => ?_
 obtain ⟨y1, h2, h⟩ := Av h
 refine wn Qe 28 [] [pc e43 (k43 x0 x1 _ h2) []] [.ownb 2 0 4 1, .ownb 2 1 120 4, .ownb 2 2 3 1, .ownb 2 3 86 2] 0 [1, 2, 3, 4, 5, 6] [3, 4, 5, 6, 14] hC [] ?_
 rcases cB h with ⟨h3, h⟩ | ⟨h3, h⟩
 ·replace h := sI h
  subst h
  exact wr Qe 24 [true] [] [.ownb 1 0 4 1, .ownb 1 1 120 4, .ownb 1 2 3 1, .ownb 1 3 86 2] 0 [6, 7, 8, 9] hC [pq h3]
 ·obtain ⟨y4, h5, h⟩ := Av h
  refine ws Qe 28 [false] [pc K6 (K4 x1 _ h5) [], pl A_ x1.Ac] [] 0 [1, 2, 3, 4, 5, 6, 7, 8, 9, 10] (U8 x1 0 y4.Ac) (qG y4 0 y4.Ac) hC [pq h3] ?_
  obtain ⟨w0, hm0, hret0, hnext0⟩ := Ap h
  clear h
  refine wc w0 (Amw) (Aoo y4) ?_ λ z0 hs0 => ?_
  ·refine wb ?_
   refine Bp 20 rfl λ hl0 => ?_
   refine wl (U8 x1) (qG y4) hm0 (λ z0 hn0 => ?_) λ n0 a0 z0 w0b hi0 hx0 h hb0 hr0 => ?_
   ·clear hm0
    exact wx w0 (Amw) (Aoo y4) Qe 26 [false] [] [] 0 Es _ hC [pq (A7 hl0)] hn0
   ·unfold zF at h
    rcases cB h with ⟨h6, h⟩ | ⟨h6, h⟩
    ·obtain ⟨y7, h8, y9, h10, h⟩ := A8 h
     exact wx w0b (U8 x1 (n0 + 1)) (qG y4 (n0 + 1)) Qe 36 [true, true] [pt hx0 hl0, pc Ahz (Ag5 (w64 (a0.Phase + (w64 (36 * (w64 (a0.Ar - 5000)))))) _ rfl) [], pr A_ h8, pu A_ h8 h10] [] 0 Es _ hC [pq (A5 hi0 hl0), pq h6] (sI h).symm
    ·exact wx w0b (U8 x1 (n0 + 1)) (qG y4 (n0 + 1)) Qe 36 [true, false] [pt hx0 hl0] [] 0 Es _ hC [pq (A5 hi0 hl0), pq h6] (sI h).symm
  ·have h := hnext0 _ hs0
   replace h := sI h
   subst h
   exact wr Qe 23 [] [] [] 0 [5, 6, 7, 8] hC []
theorem Bbn : EN 222 := en Tryz.func222
def Z4 : List Nat := [0, 1, 2, 3, 4, 7, 10, 11, 12]
def uO (x0 : Aa) (z0 : Int × (List Int)) : St := [(1, dO 0 0), (2, .d (DS pI [])), (3, dS 1), (10, dI (ln x0.Ad)), (11, dI z0.1)]
def Ai5 (x0 : Aa) (z0 : Int × (List Int)) : List Res := [.box 29 (d29 x0), v0_ z0.2]
def Amz  (z0 : Int × (List Int)) : St := [(1, dO 0 0), (2, .d (DS pI [])), (3, dS 1)]
def Aor (x0 : Aa) (z0 : Int × (List Int)) : List Res := [.box 29 (d29 x0), v0_ z0.2]
theorem Bab (x0 : Aa) (r : (List Int)) (h : Y1 x0 = some r) : CO 207 [.agg (d29 x0)] [] (.d (.os 0)) [v0_ r] := by
 unfold Y1 at h
 refine co 23 Tryz.func207 λ C hC => ?_
 obtain ⟨y1, h2, h⟩ := Av h
 rcases cB h with ⟨h3, h⟩ | ⟨h3, h⟩
 ·replace h := sI h
  subst h
  exact wr Z4 29 [true] [pc e85 (k85 x0 _ h2) []] [.own 2 3 1] 0 [1] hC [pq h3]
 ·refine ws Z4 33 [false] [pc e85 (k85 x0 _ h2) [], pl q65 x0.Ad] [.own 3 3 1] 0 [0, 1] (uO x0 (0, ([] : List Int))) (Ai5 x0 (0, ([] : List Int))) hC [pq h3] ?_
  obtain ⟨w0, hm0, hret0, hnext0⟩ := Ap h
  clear h
  refine wc w0 (Amz) (Aor x0) ?_ λ z0 hs0 => ?_
  ·refine wb ?_
   refine ww (uO x0) (Ai5 x0) hm0 λ z0 w0b h hb0 hr0 => ?_
   unfold zH at h
   rcases cB h with ⟨h4, h⟩ | ⟨h4, h⟩
   ·obtain ⟨y5, h6, h⟩ := Av h
    exact wx w0b (uO x0) (Ai5 x0) Z4 33 [true] [pa pI 1 h6] [] 0 [0, 2] _ hC [pq h4] (sI h).symm
   ·exact wx w0 (Amz) (Aor x0) Z4 26 [false] [] [] 0 [0, 1] (z0.1, z0.2) hC [pq h4] (hb0 _ (sI h).symm)
  ·have h := hnext0 _ hs0
   obtain ⟨y7, h8, h⟩ := Av h
   replace h := sI h
   subst h
   exact wr Z4 25 [] [pc A6x (A41 z0.2 x0 _ h8) [1, 0]] [] 0 [1] hC []
theorem Bbs : EN 207 := en Tryz.func207
end Go.Proofs.YthgnbpdjncbkfaaGreat
