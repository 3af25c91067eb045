import Derived.Test.YthgnbpdjncbkfaaGreatM0
set_option linter.unusedVariables false
namespace Go.Proofs.YthgnbpdjncbkfaaGreat
open Go.SL
theorem A39 (x0 : Int) (x1 : Int) (x2 : Aa) (r : Int) (h : vM x0 x1 x2 = some r) : CO 233 [.d (I x0), .d (I x1), .d (.ip [.v (.int .i64 x2.Al), .s (x2.Ad.map Bi), .s (x2.Ac.map Br), .s (x2.Af.map q65), .v (.int .i64 x2.Phase), .v (.int .i64 x2.An)])] [] (.d (I r)) [] := by
 unfold vM at h
 refine co 19 Tryz.func233 λ C hC => ?_
 obtain ⟨y1, h2, y3, h4, h⟩ := Bc h
 replace h := sI h
 subst h
 exact wr [0, 1, 2, 5] 25 [] [pr q65 h2, pr q65 h4, pc Azs (Ay9 y1.B4 y3.B4 _ rfl) []] [] 0 [] hC []
theorem A56 : EN 233 := en Tryz.func233
theorem Au1 (x0 : Int) (x1 : Ai) (r : Bool) (h : Qc x0 x1 = some r) : CO 209 [.d (I x0), .d (.ip [.s (x1.Al.map pI), .s (x1.Ac.map pI), .s (x1.Af.map pI)])] [] (.d (Bo r)) [] := by
 unfold Qc at h
 refine co 9 Tryz.func209 λ C hC => ?_
 obtain ⟨y1, h2, h⟩ := Ax h
 replace h := sI h
 subst h
 exact wr [0, 1, 3] 25 [] [pc Yy (Yq x1.Af x0 _ h2) []] [] 0 [] hC []
theorem Avv : EN 209 := en Tryz.func209
def Od : List Nat := [0, 1, 4, 5, 6, 7, 8, 10, 26, 37]
def Anm (x0 : List A0) (x1 : Int) (z0 : Unit) : St := [(0, .d (DS B2 x0)), (1, dI x1), (4, .d (DS B2 []))]
def Apf  (z0 : Unit) : List Res := []
def Anl (x0 : List A0) (x1 : Int) (z1 : Unit) : St := [(0, .d (DS B2 x0)), (4, .d (DS B2 [])), (6, .d (.p (.v (.int .u64 ((J2 (IntKind.wrap .u64 (ln x0)) (IntKind.wrap .u64 x1)).2)))))]
def Ape  (z1 : Unit) : List Res := []
def yT  (z2 : Int × (List A0)) : St := [(4, .d (DS B2 [])), (7, dS 0), (8, dI z2.1)]
def Aka  (z2 : Int × (List A0)) : List Res := [v3_ z2.2]
def Ank  (z2 : Int × (List A0)) : St := [(4, .d (DS B2 [])), (7, dS 0)]
def Apd  (z2 : Int × (List A0)) : List Res := [v3_ z2.2]
theorem Baa (x0 : List A0) (x1 : Int) (r : (List A0)) (h : A0y x0 x1 = some r) : CO 139 [.d (DS B2 x0), .d (I x1)] [] (.d (.os 0)) [v3_ r] := by
 unfold A0y at h
 refine co 48 Tryz.func139 λ C hC => ?_
 refine wn Od 26 [] [] [] 0 [] [0, 1, 4, 10] hC [] ?_
 obtain ⟨w0, h, hret0, hnext0⟩ := Ar h
 refine wc w0 (Anm x0 x1) (Apf) ?_ λ z0 hs0 => ?_
 ·unfold Apx at h
  rcases cB h with ⟨h1, h⟩ | ⟨h1, h⟩
  ·cases h
  ·exact wx w0 (Anm x0 x1) (Apf) Od 23 [false] [] [] 0 [] _ hC [pq h1] (sI h).symm
 ·clear h; have h := hnext0 _ hs0
  refine wn Od 26 [] [pl B2 x0, pc A7f (A5i (IntKind.wrap .u64 (ln x0)) (IntKind.wrap .u64 x1) _ rfl) []] [] 0 [] [0, 4, 6, 26] hC [] ?_
  obtain ⟨w1, h, hret1, hnext1⟩ := Ar h
  refine wc w1 (Anl x0 x1) (Ape) ?_ λ z1 hs1 => ?_
  ·unfold Apw at h
   rcases cB h with ⟨h2, h⟩ | ⟨h2, h⟩
   ·cases h
   ·exact wx w1 (Anl x0 x1) (Ape) Od 23 [false] [] [] 0 [] _ hC [pq h2] (sI h).symm
  ·clear h; have h := hnext1 _ hs1
   obtain ⟨y3, h4, h⟩ := Ax h
   refine ws Od 26 [] [⟨.room ((w64 ((J2 (IntKind.wrap .u64 (ln x0)) (IntKind.wrap .u64 x1)).2)) * (16 + 1)) (List.replicate (Int.toNat (w64 ((J2 (IntKind.wrap .u64 (ln x0)) (IntKind.wrap .u64 x1)).2))) (B2 (⟨0, 0⟩ : A0))) (y3.map B2), Hi h4⟩, ⟨.cpy (x0.map B2) 2 ((y3.map B2).length) (Nat.min x0.length y3.length) ((y3.map B2).take 0 ++ ((x0.map B2).take (Nat.min x0.length y3.length) ++ (y3.map B2).drop (0 + (Nat.min x0.length y3.length)))) ((Jy y3 0 y3.length x0).map B2), Ww B2 2 (λ _ => rfl) rfl (by simp)⟩] [] 0 [0] (yT (((Nat.min x0.length y3.length) : Int), (Jy y3 0 y3.length x0))) (Aka (((Nat.min x0.length y3.length) : Int), (Jy y3 0 y3.length x0))) hC [] ?_
   obtain ⟨w2, hm2, hret2, hnext2⟩ := Ar h
   clear h
   refine wc w2 (Ank) (Apd) ?_ λ z2 hs2 => ?_
   ·refine wb ?_
    refine ww (yT) (Aka) hm2 λ z2 w2b h hb2 hr2 => ?_
    unfold Apy at h
    rcases cB h with ⟨h5, h⟩ | ⟨h5, h⟩
    ·obtain ⟨u7, h6, u9, h8, h⟩ := Bc h
     exact wx w2b (yT) (Aka) Od 29 [true] [pl B2 z2.2, ⟨.bnd (z2.2.map B2).length z2.1 (((z2.2.map B2).length : Nat) : Int) (ln z2.2), Ei (by simp) (by simp) h6⟩, ⟨.bnd (z2.2.map B2).length 0 z2.1 z2.1, Ei (by simp) rfl h8⟩, ⟨.cpy (((z2.2.map B2).drop 0).take ((Int.toNat z2.1) - 0)) 2 ((Int.toNat (ln z2.2)) - (Int.toNat z2.1)) (Nat.min ((z2.2.drop 0).take ((Int.toNat z2.1) - 0)).length ((Int.toNat (ln z2.2)) - (Int.toNat z2.1))) ((z2.2.map B2).take (Int.toNat z2.1) ++ ((((z2.2.map B2).drop 0).take ((Int.toNat z2.1) - 0)).take (Nat.min ((z2.2.drop 0).take ((Int.toNat z2.1) - 0)).length ((Int.toNat (ln z2.2)) - (Int.toNat z2.1))) ++ (z2.2.map B2).drop ((Int.toNat z2.1) + (Nat.min ((z2.2.drop 0).take ((Int.toNat z2.1) - 0)).length ((Int.toNat (ln z2.2)) - (Int.toNat z2.1)))))) ((Jy z2.2 (Int.toNat z2.1) ((Int.toNat (ln z2.2)) - (Int.toNat z2.1)) ((z2.2.drop 0).take ((Int.toNat z2.1) - 0))).map B2), Ww B2 2 (λ _ => rfl) (Yj _ _ _ _) rfl⟩] [] 0 [0] _ hC [pq h5] (sI h).symm
    ·exact wx w2 (Ank) (Apd) Od 26 [false] [pl B2 z2.2] [] 0 [0] (z2.1, z2.2) hC [pq h5] (hb2 _ (sI h).symm)
   ·have h := hnext2 _ hs2
    replace h := sI h
    subst h
    exact wr Od 23 [] [] [] 0 [0] hC []
theorem Bbr : EN 139 := en Tryz.func139
theorem Aq1 (x0 : Aa) (x1 : Int) (r : Int) (h : Vn x0 x1 = some r) : CO 180 [.agg (d29 x0), .d (I x1)] [] (.d (I r)) [] := by
 unfold Vn at h
 refine co 9 Tryz.func180 λ C hC => ?_
 obtain ⟨y1, h2, h⟩ := Ax h
 replace h := sI h
 subst h
 exact wr n5_ 25 [] [pc A6d (A4g x0.Ad x1 _ h2) [1]] [] 0 [] hC []
theorem Arg : EN 180 := en Tryz.func180
theorem A1b (x0 : A1) (x1 : Ab) (r : A1) (h : Xd x0 x1 = some r) : CO 81 [.d (.o 0 0), .agg [.os 1, .os 2, .os 3, .os 4]] (.box 100 (I x0.Av.Time :: .os 1 :: .os 2 :: .os 3 :: .os 4 :: .os 5 :: .os 6 :: zb x0.Ak [.os 7, .os 8]) :: zp x0.Av.Power [v3_ x0.Av.A5, v1_ x0.Av.A6, v1_ x0.events, v7_ x0.states]) (.tup []) (.box 100 (I r.Av.Time :: .os 1 :: .os 2 :: .os 3 :: .os 4 :: .os 5 :: .os 6 :: zb r.Ak [.os 7, .os 9]) :: zp r.Av.Power [v3_ r.Av.A5, v1_ r.Av.A6, v1_ r.events, .non, v7_ r.states]) := by
 unfold Xd at h
 refine co 15 Tryz.func81 λ C hC => ?_
 obtain ⟨y3, h4, y5, h6, h⟩ := Bc h
 replace h := sI h
 subst h
 exact wf [0, 1, 3] 23 [] [⟨.call 116 [.agg [.os 0, .os 1, .os 2, .os 3]] (zp x0.Av.Power []) (.agg (d36 y3)) (zp x0.Av.Power [.non, .non, .non, .non]) [1, 2, 3, 4], ⟨Lp, (CallOk.frzAll [4, 5, 6, 7] (show CO 116 [.agg [.os 0, .os 1, .os 2, .os 3]] (zp x0.Av.Power []) (.agg [.os 4, .os 5, .os 6, .os 7]) (zp x0.Av.Power (zp y3 [])) from ((Ll x0.Av.Power _ h4).lend (by kernel_rfl) (by kernel_rfl) (by kernel_rfl) ⟨Ba (λ _ => rfl), Ba (λ _ => rfl), Ba (λ _ => rfl), Ba (λ _ => rfl), trivial⟩ (by kernel_rfl) (by kernel_rfl))) (by kernel_rfl))⟩⟩, pa q36 4 h6] [] 9 [0, 1, 2, 3, 4, 5, 6, 7, 8, 14] hC []
theorem A1h : EN 81 := en Tryz.func81
theorem A8w (x0 : Aa) (x1 : Az) (r : A1) (h : Asr x0 x1 = some r) : CO 63 [.agg (d29 x0), .agg [I x1.Time, .os 0, .os 1, .os 2, .os 3, .os 4, .os 5]] (zp x1.Power [v3_ x1.A5, v1_ x1.A6]) (.d (.o 6 0)) (zp x1.Power (v3_ x1.A5 :: v1_ x1.A6 :: .box 100 (I r.Av.Time :: .os 7 :: .os 8 :: .os 9 :: .os 10 :: .os 11 :: .os 12 :: zb r.Ak [.os 13, .os 14]) :: zp r.Av.Power [v3_ r.Av.A5, v1_ r.Av.A6, v1_ r.events, v7_ r.states])) := by
 unfold Asr at h
 refine co 21 Tryz.func63 λ C hC => ?_
 obtain ⟨y1, h2, y3, h4, y5, h6, h⟩ := B0 h
 replace h := sI h
 subst h
 exact wr n5_ 27 [] [⟨.call 116 [.agg [.os 0, .os 1, .os 2, .os 3]] (zp x1.Power []) (.agg [.os 4, .os 5, .os 6, .os 7]) (zp x1.Power (zp y1 [])) n4_, ⟨Lp, ((Ll x1.Power _ h2).lend (by kernel_rfl) (by kernel_rfl) (by kernel_rfl) ⟨Ba (λ _ => rfl), Ba (λ _ => rfl), Ba (λ _ => rfl), Ba (λ _ => rfl), trivial⟩ (by kernel_rfl) (by kernel_rfl))⟩⟩, ⟨.call 123 [dS 0] [v3_ x1.A5] (dS 1) [v3_ x1.A5, v3_ y3] [4], ⟨A7k, ((A5n x1.A5 _ h4).lend (by kernel_rfl) (by kernel_rfl) (by kernel_rfl) ⟨Ba (λ _ => rfl), trivial⟩ (by kernel_rfl) (by kernel_rfl))⟩⟩, ⟨.call 84 [dS 0] [v1_ x1.A6] (dS 1) [v1_ x1.A6, v1_ y5] [5], ⟨e84, ((k84 x1.A6 _ h6).lend (by kernel_rfl) (by kernel_rfl) (by kernel_rfl) ⟨Ba (λ _ => rfl), trivial⟩ (by kernel_rfl) (by kernel_rfl))⟩⟩] [.ownb 14 13 51 5, .ownb 14 14 36 4] 6 [0, 1, 2, 3, 4, 5, 14, 8, 9, 10, 11, 12, 13, 15, 16] hC []
theorem A9g : EN 63 := en Tryz.func63
def Ay0 : List Nat := [0, 1, 2, 3, 4, 5, 6, 8, 9, 10, 15, 16, 17, 24]
theorem k56 (x0 : Aa) (x1 : Ae) (x2 : Ae) (r : Bool) (h : F56 x0 x1 x2 = r) : CO 56 [.agg (d29 x0), .agg (O_ x1), .agg (O_ x2)] [] (.d (Bo r)) [] := by
 unfold F56 at h
 refine co 60 Tryz.func56 λ C hC => ?_
 rcases cB h with ⟨h1, h⟩ | ⟨h1, h⟩
 ·subst h
  exact wr Ay0 42 [true, true, true, true] [] [] 0 [] hC [⟨(true, true), rfl⟩, pq h1]
 ·rcases cB h with ⟨h2, h⟩ | ⟨h2, h⟩
  ·subst h
   exact wr Ay0 58 [true, true, true, false, true, true] [] [] 0 [] hC [⟨(true, true), rfl⟩, pq h1, ⟨(true, true), rfl⟩, pq h2]
  ·subst h
   exact wr Ay0 69 [true, true, true, false, true, false, false] [pc Bb2 (Bal x1.Phase x2.Phase _ rfl) []] [] 0 [] hC [⟨(true, true), rfl⟩, pq h1, ⟨(true, true), rfl⟩, pq h2, ⟨(false, false), rfl⟩]
theorem e56 : EN 56 := en Tryz.func56
def Ts : List Nat := [0, 1, 4, 5, 6, 7, 8, 10, 26, 37]
def Atu (x0 : List Ae) (x1 : Int) (z0 : Unit) : St := [(0, .d (DS A_ x0)), (1, dI x1), (4, .d (DS A_ []))]
def Aw4  (z0 : Unit) : List Res := []
def Att (x0 : List Ae) (x1 : Int) (z1 : Unit) : St := [(0, .d (DS A_ x0)), (4, .d (DS A_ [])), (6, .d (.p (.v (.int .u64 ((J2 (IntKind.wrap .u64 (ln x0)) (IntKind.wrap .u64 x1)).2)))))]
def Aw3  (z1 : Unit) : List Res := []
def Afy  (z2 : Int × (List Ae)) : St := [(4, .d (DS A_ [])), (7, dS 0), (8, dI z2.1)]
def Ar2  (z2 : Int × (List Ae)) : List Res := [v5_ z2.2]
def Ats  (z2 : Int × (List Ae)) : St := [(4, .d (DS A_ [])), (7, dS 0)]
def Aw2  (z2 : Int × (List Ae)) : List Res := [v5_ z2.2]
theorem k87 (x0 : List Ae) (x1 : Int) (r : (List Ae)) (h : F87 x0 x1 = some r) : CO 87 [.d (DS A_ x0), .d (I x1)] [] (.d (.os 0)) [v5_ r] := by
 unfold F87 at h
 refine co 48 Tryz.func87 λ C hC => ?_
 refine wn Ts 26 [] [] [] 0 [] [0, 1, 4, 10] hC [] ?_
 obtain ⟨w0, h, hret0, hnext0⟩ := Ar h
 refine wc w0 (Atu x0 x1) (Aw4) ?_ λ z0 hs0 => ?_
 ·unfold Ax0 at h
  rcases cB h with ⟨h1, h⟩ | ⟨h1, h⟩
  ·cases h
  ·exact wx w0 (Atu x0 x1) (Aw4) Ts 23 [false] [] [] 0 [] _ hC [pq h1] (sI h).symm
 ·clear h; have h := hnext0 _ hs0
  refine wn Ts 26 [] [pl A_ x0, pc A7f (A5i (IntKind.wrap .u64 (ln x0)) (IntKind.wrap .u64 x1) _ rfl) []] [] 0 [] [0, 4, 6, 26] hC [] ?_
  obtain ⟨w1, h, hret1, hnext1⟩ := Ar h
  refine wc w1 (Att x0 x1) (Aw3) ?_ λ z1 hs1 => ?_
  ·unfold Axz at h
   rcases cB h with ⟨h2, h⟩ | ⟨h2, h⟩
   ·cases h
   ·exact wx w1 (Att x0 x1) (Aw3) Ts 23 [false] [] [] 0 [] _ hC [pq h2] (sI h).symm
  ·clear h; have h := hnext1 _ hs1
   obtain ⟨y3, h4, h⟩ := Ax h
   refine ws Ts 26 [] [⟨.room ((w64 ((J2 (IntKind.wrap .u64 (ln x0)) (IntKind.wrap .u64 x1)).2)) * (32 + 1)) (List.replicate (Int.toNat (w64 ((J2 (IntKind.wrap .u64 (ln x0)) (IntKind.wrap .u64 x1)).2))) (A_ (⟨0, 0, 0, 0⟩ : Ae))) (y3.map A_), Hi h4⟩, ⟨.cpy (x0.map A_) 4 ((y3.map A_).length) (Nat.min x0.length y3.length) ((y3.map A_).take 0 ++ ((x0.map A_).take (Nat.min x0.length y3.length) ++ (y3.map A_).drop (0 + (Nat.min x0.length y3.length)))) ((Jy y3 0 y3.length x0).map A_), Ww A_ 4 (λ _ => rfl) rfl (by simp)⟩] [] 0 [0] (Afy (((Nat.min x0.length y3.length) : Int), (Jy y3 0 y3.length x0))) (Ar2 (((Nat.min x0.length y3.length) : Int), (Jy y3 0 y3.length x0))) hC [] ?_
   obtain ⟨w2, hm2, hret2, hnext2⟩ := Ar h
   clear h
   refine wc w2 (Ats) (Aw2) ?_ λ z2 hs2 => ?_
   ·refine wb ?_
    refine ww (Afy) (Ar2) hm2 λ z2 w2b h hb2 hr2 => ?_
    unfold Ax1 at h
    rcases cB h with ⟨h5, h⟩ | ⟨h5, h⟩
    ·obtain ⟨u7, h6, u9, h8, h⟩ := Bc h
     exact wx w2b (Afy) (Ar2) Ts 29 [true] [pl A_ z2.2, ⟨.bnd (z2.2.map A_).length z2.1 (((z2.2.map A_).length : Nat) : Int) (ln z2.2), Ei (by simp) (by simp) h6⟩, ⟨.bnd (z2.2.map A_).length 0 z2.1 z2.1, Ei (by simp) rfl h8⟩, ⟨.cpy (((z2.2.map A_).drop 0).take ((Int.toNat z2.1) - 0)) 4 ((Int.toNat (ln z2.2)) - (Int.toNat z2.1)) (Nat.min ((z2.2.drop 0).take ((Int.toNat z2.1) - 0)).length ((Int.toNat (ln z2.2)) - (Int.toNat z2.1))) ((z2.2.map A_).take (Int.toNat z2.1) ++ ((((z2.2.map A_).drop 0).take ((Int.toNat z2.1) - 0)).take (Nat.min ((z2.2.drop 0).take ((Int.toNat z2.1) - 0)).length ((Int.toNat (ln z2.2)) - (Int.toNat z2.1))) ++ (z2.2.map A_).drop ((Int.toNat z2.1) + (Nat.min ((z2.2.drop 0).take ((Int.toNat z2.1) - 0)).length ((Int.toNat (ln z2.2)) - (Int.toNat z2.1)))))) ((Jy z2.2 (Int.toNat z2.1) ((Int.toNat (ln z2.2)) - (Int.toNat z2.1)) ((z2.2.drop 0).take ((Int.toNat z2.1) - 0))).map A_), Ww A_ 4 (λ _ => rfl) (Yj _ _ _ _) rfl⟩] [] 0 [0] _ hC [pq h5] (sI h).symm
    ·exact wx w2 (Ats) (Aw2) Ts 26 [false] [pl A_ z2.2] [] 0 [0] (z2.1, z2.2) hC [pq h5] (hb2 _ (sI h).symm)
   ·have h := hnext2 _ hs2
    replace h := sI h
    subst h
    exact wr Ts 23 [] [] [] 0 [0] hC []
theorem e87 : EN 87 := en Tryz.func87
theorem A_9 (x0 : Df) (r : Bool) (h : A0w x0 = r) : CO 151 [.agg (Ark x0)] [] (.d (Bo r)) [] := by
 unfold A0w at h
 refine co 19 Tryz.func151 λ C hC => ?_
 subst h
 exact wr n4_ 27 [] [pc A6p (A4s x0.From _ rfl) [], ⟨.when [(Vl x0.From, true)] (.call 197 [dI x0.To] [] (dB (Vl x0.To)) [] []), λ hg => ⟨A6p, (A4s x0.To _ rfl)⟩⟩, ⟨.when [(((Vl x0.From) && (Vl x0.To)), true)] (.call 198 [.agg (Ark x0)] [] (dI (Asy x0)) [] []), λ hg => ⟨Ba7, (A_q x0 _ rfl)⟩⟩] [] 0 [] hC []
theorem Bbq : EN 151 := en Tryz.func151
def Mo : List Nat := [0, 1, 4, 5, 7, 8, 9, 16]
def Sx (x0 : List Int) (n0 : Nat) (z0 : Unit) : St := [(0, .d (DS pI x0)), (1, .d (.fn (.func 105) [] [.o 0 0, .o 1 0])), (4, dI 0), (7, dI (ln x0)), (8, dI (cnt 0 n0))]
def Zi (x1c0 : Aa) (x1c1 : Ab) (n0 : Nat) (z0 : Unit) : List Res := [.box 29 (d29 x1c0), .box 36 (d36 x1c1)]
def Ach  (z0 : Unit) : St := [(4, dI 0)]
def Ad5 (x1c0 : Aa) (x1c1 : Ab) (z0 : Unit) : List Res := [.box 29 (d29 x1c0), .box 36 (d36 x1c1)]
theorem A49 (rec46 : Aa -> Ab -> Int -> Option Bool) (ih46 : ∀ (x0 : Aa) (x1 : Ab) (x2 : Int) (r : Bool), rec46 x0 x1 x2 = some r -> CO 46 [.agg (d29 x0), .agg (d36 x1), .d (I x2)] [] (.d (Bo r)) []) (x0 : List Int) (x1c0 : Aa) (x1c1 : Ab) (r : Int × Aa × Ab) (h : Alp rec46 x0 x1c0 x1c1 = some r) : CO 158 [.d (DS pI x0), .d (.fn (.func 105) [] [.o 0 0, .o 1 0])] [.box 29 (d29 x1c0), .box 36 (d36 x1c1)] (.d (I r.1)) [.box 29 (d29 r.2.1), .box 36 (d36 r.2.2)] := by
 unfold Alp at h
 refine co 19 Tryz.func158 λ C hC => ?_
 refine ws Mo 26 [] [pl pI x0] [] 2 [0, 1] (Sx x0 0 ()) (Zi x1c0 x1c1 0 ()) hC [] ?_
 obtain ⟨w0, hm0, hret0, hnext0⟩ := Ar h
 clear h
 refine wc w0 (Ach) (Ad5 x1c0 x1c1) ?_ λ z0 hs0 => ?_
 ·refine wb ?_
  refine Bn 0 rfl λ hl0 => ?_
  refine wl (Sx x0) (Zi x1c0 x1c1) hm0 (λ z0 hn0 => ?_) λ n0 a0 z0 w0b hi0 hx0 h hb0 hr0 => ?_
  ·clear hm0
   exact wx w0 (Ach) (Ad5 x1c0 x1c1) Mo 26 [false] [] [] 2 [0, 1] _ hC [pq (Be hl0)] hn0
  ·unfold Aeo at h
   obtain ⟨y1, h2, h⟩ := Ax h
   refine wn Mo 32 [true] [pt hx0 hl0, pb A7n (A5q rec46 ih46 a0 x1c0 x1c1 _ h2)] [] 2 [0, 1] [0, 1, 4, 5, 7, 8, 16] hC [pq (A9 hi0 hl0)] ?_
   rcases cB h with ⟨h3, h⟩ | ⟨h3, h⟩
   ·have hq := hret0 _ (hr0 _ (sI h).symm)
    replace hq := sI hq
    subst hq
    exact wr Mo 24 [true] [] [] 2 [0, 1] hC [pq h3]
   ·exact wx w0b (Sx x0 (n0 + 1)) (Zi x1c0 x1c1 (n0 + 1)) Mo 25 [false] [] [] 2 [0, 1] _ hC [pq h3] (sI h).symm
 ·have h := hnext0 _ hs0
  replace h := sI h
  subst h
  exact wr Mo 23 [] [] [] 2 [0, 1] hC []
theorem A66 : EN 158 := en Tryz.func158
theorem A4r (x0 : Int) (x1 : Int) (r : Int × Int) (h : Alf x0 x1 = some r) : CO 201 [.d (I x0), .d (I x1), .d (.fn (.func 202) [] [])] [] (.tup [.d (I r.1), .d (I r.2)]) [] := by
 unfold Alf at h
 refine co 26 Tryz.func201 λ C hC => ?_
 rcases cB h with ⟨h1, h⟩ | ⟨h1, h⟩
 ·cases h
 ·obtain ⟨y2, h3, h⟩ := Ax h
  replace h := sI h
  subst h
  exact wr [0, 1, 2, 6, 7, 21] 30 [false] [pc Ba5 (A_o x0 x1 _ h3) []] [] 0 [] hC [pq h1]
theorem A6o : EN 201 := en Tryz.func201
theorem A8t (x0 : List Ai) (r : Bool) (h : Asq x0 = some r) : CO 88 [.d (DS q84 x0), .d (.fn (.func 90) [] [])] [] (.d (Bo r)) [] := by
 unfold Asq at h
 refine co 9 Tryz.func88 λ C hC => ?_
 obtain ⟨y1, h2, h⟩ := Ax h
 replace h := sI h
 subst h
 exact wr [0, 1, 4] 25 [] [pc A7e (A5h x0 _ h2) []] [] 0 [] hC []
theorem A9d : EN 88 := en Tryz.func88
def F3 : List Nat := [0, 2, 3, 4, 5, 6, 7, 8, 9, 10, 11, 24, 29, 47, 60, 96, 121, 155]
def jS  (z0 : Sg2) : St := [(0, dO 0 0), (2, dO 1 0), (3, dO 2 0), (4, dI z0.1)]
def Afl (y1 : Int × Ah) (y3 : Int × Ah) (y5 : Int × Ah) (z0 : Sg2) : List Res := [.box 90 [DS pI z0.2.1, I z0.2.2.1], .box 29 [I 0, .os 3, .os 4, .os 5, I 0, I 0], .box 29 [I y1.1, .os 6, .os 7, .os 8, I y3.1, I y5.1], v9_ ([] : List Aj), Ig ([] : List Bh), Ie ([] : List A3), v9_ (Eo z0), Ig ([] : List Bh), Ie ([] : List A3)]
def Auf  (z0 : Sg2) : St := [(0, dO 0 0), (2, dO 1 0), (3, dO 2 0)]
def Axp (y1 : Int × Ah) (y3 : Int × Ah) (y5 : Int × Ah) (z0 : Sg2) : List Res := [.box 90 [DS pI z0.2.1, I z0.2.2.1], .box 29 [I 0, .os 3, .os 4, .os 5, I 0, I 0], .box 29 [I y1.1, .os 6, .os 7, .os 8, I y3.1, I y5.1], v9_ ([] : List Aj), Ig ([] : List Bh), Ie ([] : List A3), v9_ (Eo z0), Ig ([] : List Bh), Ie ([] : List A3)]
def Agz  (z1 : (List Aj)) : St := [(0, dO 0 0), (2, dO 1 0), (3, dO 2 0)]
def Ajq (y1 : Int × Ah) (y3 : Int × Ah) (y5 : Int × Ah) (y15 : Int × Ah) (z1 : (List Aj)) : List Res := [.box 90 (d90 y15.2), .box 29 [I 0, .os 3, .os 4, .os 5, I 0, I 0], .box 29 [I y1.1, .os 6, .os 7, .os 8, I y3.1, I y5.1], v9_ ([] : List Aj), Ig ([] : List Bh), Ie ([] : List A3), v9_ z1, Ig ([] : List Bh), Ie ([] : List A3)]
def Agd  (z2 : Sg4) : St := [(0, dO 0 0), (2, dO 1 0), (3, dO 2 0), (5, dI z2.1)]
def Asg (y1 : Int × Ah) (y3 : Int × Ah) (y5 : Int × Ah) (z2 : Sg4) : List Res := [.box 90 [DS pI z2.2.1, I z2.2.2.1], .box 29 [I 0, .os 3, .os 4, .os 5, I 0, I 0], .box 29 [I y1.1, .os 6, .os 7, .os 8, I y3.1, I y5.1], v9_ ([] : List Aj), Ig ([] : List Bh), Ie ([] : List A3), v9_ (g3_ z2), Ig (I0 z2), Ie ([] : List A3)]
def Aue  (z2 : Sg4) : St := [(0, dO 0 0), (2, dO 1 0), (3, dO 2 0)]
def Axo (y1 : Int × Ah) (y3 : Int × Ah) (y5 : Int × Ah) (z2 : Sg4) : List Res := [.box 90 [DS pI z2.2.1, I z2.2.2.1], .box 29 [I 0, .os 3, .os 4, .os 5, I 0, I 0], .box 29 [I y1.1, .os 6, .os 7, .os 8, I y3.1, I y5.1], v9_ ([] : List Aj), Ig ([] : List Bh), Ie ([] : List A3), v9_ (g3_ z2), Ig (I0 z2), Ie ([] : List A3)]
def jR  (z3 : Sg3) : St := [(0, dO 0 0), (2, dO 1 0), (3, dO 2 0), (7, dI z3.1)]
def Afk (y1 : Int × Ah) (y3 : Int × Ah) (y5 : Int × Ah) (z2 : Sg4) (z3 : Sg3) : List Res := [.box 90 [DS pI z3.2.1, I z3.2.2.1], .box 29 [I 0, .os 3, .os 4, .os 5, I 0, I 0], .box 29 [I y1.1, .os 6, .os 7, .os 8, I y3.1, I y5.1], v9_ ([] : List Aj), Ig ([] : List Bh), Ie ([] : List A3), v9_ (g3_ z3), Ig (I0 z2), Ie (I0 z3)]
def Aud  (z3 : Sg3) : St := [(2, dO 1 0), (3, dO 2 0)]
def Axn (y1 : Int × Ah) (y3 : Int × Ah) (y5 : Int × Ah) (z2 : Sg4) (z3 : Sg3) : List Res := [.box 90 [DS pI z3.2.1, I z3.2.2.1], .box 29 [I 0, .os 3, .os 4, .os 5, I 0, I 0], .box 29 [I y1.1, .os 6, .os 7, .os 8, I y3.1, I y5.1], v9_ ([] : List Aj), Ig ([] : List Bh), Ie ([] : List A3), v9_ (g3_ z3), Ig (I0 z2), Ie (I0 z3)]
def Agy (z3 : Sg3) (z4 : (List Aj)) : St := [(0, dO 0 0), (2, dO 1 0), (3, dO 2 0), (7, dI z3.1), (8, dI (ln (I0 z3)))]
def Ajp (y1 : Int × Ah) (y3 : Int × Ah) (y5 : Int × Ah) (z2 : Sg4) (z3 : Sg3) (y42 : Int × Ah) (z4 : (List Aj)) : List Res := [.box 90 (d90 y42.2), .box 29 [I 0, .os 3, .os 4, .os 5, I 0, I 0], .box 29 [I y1.1, .os 8, .os 6, .os 7, I y3.1, I y5.1], v9_ ([] : List Aj), Ig ([] : List Bh), Ie ([] : List A3), Ig (I0 z2), Ie (I0 z3), v9_ z4]
set_option maxHeartbeats 4000000 in
theorem k29 (x0 : Ah) (r : Aa × Ah) (h : F29 x0 = some r) : CO 29 [.d (.o 0 0)] [.box 90 (d90 x0)] (.agg [I r.1.Al, .os 1, .os 2, .os 3, I r.1.Phase, I r.1.An]) (.box 90 (d90 r.2) :: zs r.1 []) := by
 unfold F29 at h
 refine co 168 Tryz.func29 λ C hC => ?_
 obtain ⟨y1, h2, y3, h4, y5, h6, h⟩ := B0 h
 refine ws F3 28 [] [pc e78 (k78 x0 1 4 _ h2) [0], pc e40 (k40 y1.2 [0, 50, 200, 1800] _ h4) [0], pc e40 (k40 y3.2 [0, 10, 50] _ h6) [0]] [.ownb 1 1 147 3, .ownb 1 2 139 3, .ownb 1 3 65 5, .ownb 2 1 147 3, .ownb 2 2 139 3, .ownb 2 3 65 5] 1 n9_ (jS (1, y5.2.L, y5.2.At, ([] : List Aj))) (Afl y1 y3 y5 (1, y5.2.L, y5.2.At, ([] : List Aj))) hC [] ?_
 obtain ⟨w0, hm0, hret0, hnext0⟩ := Ar h
 clear h
 refine wc w0 (Auf) (Axp y1 y3 y5) ?_ λ z0 hs0 => ?_
 ·refine wb ?_
  refine ww (jS) (Afl y1 y3 y5) hm0 λ z0 w0b h hb0 hr0 => ?_
  unfold vJ at h
  rcases cB h with ⟨h7, h⟩ | ⟨h7, h⟩
  ·obtain ⟨y8, h9, h⟩ := Ax h
   rcases cB h with ⟨h10, h⟩ | ⟨h10, h⟩
   ·obtain ⟨y11, h12, y13, h14, h⟩ := Bc h
    exact wx w0b (jS) (Afl y1 y3 y5) F3 34 [true, true] [pc e32 (k32 (⟨z0.2.1, z0.2.2.1⟩ : Ah) 6 _ h9) [0], pc e32 (k32 y8.2 z0.1 _ h12) [0], pa Bi 3 h14] [] 1 [0, 1, 2, 3, 4, 5, 9, 7, 8] _ hC [pq h7, pq h10] (sI h).symm
   ·exact wx w0b (jS) (Afl y1 y3 y5) F3 34 [true, false] [pc e32 (k32 (⟨z0.2.1, z0.2.2.1⟩ : Ah) 6 _ h9) [0]] [] 1 n9_ _ hC [pq h7, pq h10] (sI h).symm
  ·exact wx w0 (Auf) (Axp y1 y3 y5) F3 26 [false] [] [] 1 n9_ (z0.1, z0.2.1, z0.2.2.1, (Eo z0)) hC [pq h7] (hb0 _ (sI h).symm)
 ·have h := hnext0 _ hs0
  obtain ⟨y15, h16, h⟩ := Ax h
  refine wn F3 24 [] [⟨.whenR [(decide (y1.1 > 2), true)] (.call 32 [dO 0 0, dI 2] [.box 90 [DS pI z0.2.1, I z0.2.2.1]] (dI y15.1) [.box 90 (d90 y15.2)] [0]), ⟨λ hg => ⟨e32, (k32 (⟨z0.2.1, z0.2.2.1⟩ : Ah) 2 _ (Bb h16 hg))⟩, λ hg => by have e := H5 h16 hg; subst e; rfl⟩⟩] [] 1 n9_ [0, 2, 3, 47] hC [] ?_
  obtain ⟨w1, h, hret1, hnext1⟩ := Ar h
  refine wc w1 (Agz) (Ajq y1 y3 y5 y15) ?_ λ z1 hs1 => ?_
  ·unfold Ak8 at h
   rcases cB h with ⟨h17, h⟩ | ⟨h17, h⟩
   ·obtain ⟨y18, h19, h⟩ := Ax h
    exact wx w1 (Agz) (Ajq y1 y3 y5 y15) F3 23 [true] [pa Bi 3 h19] [] 1 [0, 1, 2, 3, 4, 5, 9, 7, 8] _ hC [pq h17] (sI h).symm
   ·exact wx w1 (Agz) (Ajq y1 y3 y5 y15) F3 23 [false] [] [] 1 n9_ _ hC [pq h17] (sI h).symm
  ·clear h; have h := hnext1 _ hs1
   obtain ⟨y20, h21, h⟩ := Ax h
   refine ws F3 24 [] [pc e32 (k32 y15.2 5 _ h21) [0]] [] 1 n9_ (Agd (y20.1, y20.2.L, y20.2.At, z1, ([] : List Bh))) (Asg y1 y3 y5 (y20.1, y20.2.L, y20.2.At, z1, ([] : List Bh))) hC [] ?_
   obtain ⟨w2, hm2, hret2, hnext2⟩ := Ar h
   clear h
   refine wc w2 (Aue) (Axo y1 y3 y5) ?_ λ z2 hs2 => ?_
   ·refine wb ?_
    refine ww (Agd) (Asg y1 y3 y5) hm2 λ z2 w2b h hb2 hr2 => ?_
    unfold vI at h
    rcases cB h with ⟨h22, h⟩ | ⟨h22, h⟩
    ·obtain ⟨y23, h24, y25, h26, y27, h28, y29, h30, h⟩ := Cn h
     obtain ⟨y31, h32, y33, h34, h⟩ := Bc h
     exact wx w2b (Agd) (Asg y1 y3 y5) F3 35 [true] [pc e32 (k32 (⟨z2.2.1, z2.2.2.1⟩ : Ah) y1.1 _ h24) [0], pl Br (I0 z2), pa Bi 3 h26, pc e40 (k40 y23.2 [10, 50, 100] _ h28) [0], pc e40 (k40 y27.2 [0, 5, y27.1] _ h30) [0], pc e40 (k40 y29.2 [0, 1, 3] _ h32) [0], pa Br 3 h34] [] 1 [0, 1, 2, 3, 4, 5, 9, 10, 8] _ hC [pq h22] (sI h).symm
    ·exact wx w2 (Aue) (Axo y1 y3 y5) F3 26 [false] [] [] 1 n9_ (z2.1, z2.2.1, z2.2.2.1, (g3_ z2), (I0 z2)) hC [pq h22] (hb2 _ (sI h).symm)
   ·have h := hnext2 _ hs2
    obtain ⟨y35, h36, h⟩ := Ax h
    refine ws F3 24 [] [pc e32 (k32 (⟨z2.2.1, z2.2.2.1⟩ : Ah) 6 _ h36) [0]] [] 1 n9_ (jR (y35.1, y35.2.L, y35.2.At, (g3_ z2), ([] : List A3))) (Afk y1 y3 y5 z2 (y35.1, y35.2.L, y35.2.At, (g3_ z2), ([] : List A3))) hC [] ?_
    obtain ⟨w3, hm3, hret3, hnext3⟩ := Ar h
    clear h
    refine wc w3 (Aud) (Axn y1 y3 y5 z2) ?_ λ z3 hs3 => ?_
    ·refine wb ?_
     refine ww (jR) (Afk y1 y3 y5 z2) hm3 λ z3 w3b h hb3 hr3 => ?_
     unfold vH at h
     rcases cB h with ⟨h37, h⟩ | ⟨h37, h⟩
     ·obtain ⟨y38, h39, y40, h41, y42, h43, h⟩ := B0 h
      refine wn F3 37 [true] [pl q65 (I0 z3), pc e32 (k32 (⟨z3.2.1, z3.2.2.1⟩ : Ah) y1.1 _ h39) [0], pa Bi 3 h41, ⟨.whenR [(decide (y1.1 > 1), true)] (.call 32 [dO 0 0, dI 4] [.box 90 (d90 y38.2)] (dI y42.1) [.box 90 (d90 y42.2)] [0]), ⟨λ hg => ⟨e32, (k32 y38.2 4 _ (Bb h43 hg))⟩, λ hg => by have e := H5 h43 hg; subst e; rfl⟩⟩] [] 1 [0, 1, 2, 3, 4, 5, 7, 8, 9] [0, 2, 3, 7, 8, 9, 121] hC [pq h37] ?_
      obtain ⟨w4, h, hret4, hnext4⟩ := Ar h
      refine wc w4 (Agy z3) (Ajp y1 y3 y5 z2 z3 y42) ?_ λ z4 hs4 => ?_
      ·unfold Ak7 at h
       rcases cB h with ⟨h44, h⟩ | ⟨h44, h⟩
       ·obtain ⟨u46, h45, y47, h48, h⟩ := Bc h
        exact wx w4 (Agy z3) (Ajp y1 y3 y5 z2 z3 y42) F3 23 [true] [⟨.nz y1.1, Pp h45⟩, pa Bi 3 h48] [] 1 [0, 1, 2, 3, 4, 5, 6, 7, 9] _ hC [pq h44] (sI h).symm
       ·exact wx w4 (Agy z3) (Ajp y1 y3 y5 z2 z3 y42) F3 23 [false] [] [] 1 n9_ _ hC [pq h44] (sI h).symm
      ·clear h; have h := hnext4 _ hs4
       obtain ⟨y49, h50, y51, h52, y53, h54, h⟩ := B0 h
       obtain ⟨y55, h56, y57, h58, h⟩ := Bc h
       refine wn F3 28 [] [pc e40 (k40 y42.2 [0, 5, 20, 40] _ h50) [0], ⟨.nz 2, K7 rfl⟩, pc e40 (k40 y49.2 [0, w64 (Int.tdiv y49.1 2), y49.1] _ h52) [0], pc e32 (k32 y51.2 3 _ h54) [0], pc e78 (k78 y53.2 (-1) 2 _ h56) [0], ⟨.whenR [(decide ((ln (I0 z3)) > 0), true)] (.call 32 [dO 0 0, dI 4] [.box 90 (d90 y55.2)] (dI y57.1) [.box 90 (d90 y57.2)] [0]), ⟨λ hg => ⟨e32, (k32 y55.2 4 _ (Bb h58 hg))⟩, λ hg => by have e := H5 h58 hg; subst e; rfl⟩⟩] [.ownb 9 4 3 1] 1 Aqp [0, 2, 3, 7, 8, 11, 155] hC [] ?_
       rcases cB h with ⟨h59, h⟩ | ⟨h59, h⟩
       ·obtain ⟨y60, h61, y62, h63, h⟩ := Bc h
        exact wx w3b (jR) (Afk y1 y3 y5 z2) F3 26 [true] [pc e32 (k32 y57.2 (ln (I0 z3)) _ h61) [0], pa q65 5 h63] [] 1 [0, 1, 2, 3, 4, 5, 8, 6, 11] _ hC [pq h59] (sI h).symm
       ·refine wn F3 2 [false] [] [.frz 10] 1 G7 [0, 2, 3, 7, 11] hC [pq h59] ?_
        obtain ⟨y64, h65, h⟩ := Ax h
        exact wx w3b (jR) (Afk y1 y3 y5 z2) F3 24 [] [pa q65 5 h65] [] 1 [0, 1, 2, 3, 4, 5, 8, 6, 10] _ hC [] (sI h).symm
     ·exact wx w3 (Aud) (Axn y1 y3 y5 z2) F3 26 [false] [] [] 1 n9_ (z3.1, z3.2.1, z3.2.2.1, (g3_ z3), (I0 z3)) hC [pq h37] (hb3 _ (sI h).symm)
    ·have h := hnext3 _ hs3
     replace h := sI h
     subst h
     exact wr F3 23 [] [] [] 1 [0, 6, 7, 8] hC []
theorem e29 : EN 29 := en Tryz.func29
theorem k30 (x0 : Ah) (r : Bd × Ah) (h : F30 x0 = some r) : CO 30 [.d (.o 0 0)] [.box 90 (d90 x0)] (.agg (d31 r.1)) [.box 90 (d90 r.2)] := by
 unfold F30 at h
 refine co 13 Tryz.func30 λ C hC => ?_
 obtain ⟨y1, h2, y3, h4, y5, h6, h⟩ := B0 h
 replace h := sI h
 subst h
 exact wr [0, 2] 25 [] [pc e40 (k40 x0 [60, 80, 100] _ h2) [0], pc e40 (k40 y1.2 [1, 30, 50] _ h4) [0], pc e40 (k40 y3.2 [0, 1, 3] _ h6) [0]] [] 1 [0] hC []
theorem e30 : EN 30 := en Tryz.func30
def Ch : List Nat := [0, 1, 3, 4, 5, 6, 7, 8, 9, 11, 12, 13, 16, 17, 18, 30, 31, 32, 35, 36, 37, 38, 57, 67, 68, 69, 89, 90, 91, 92, 114, 119, 126]
def S9 (x1 : Aa) (z0 : Int × (List Int) × Int × (List Bool)) : St := [(0, dO 0 0), (3, dO 4 0), (4, dO 5 0), (5, dO 6 0), (16, dI (ln x1.Ad)), (17, dI z0.1)]
def Zr (x1 : Aa) (z0 : Int × (List Int) × Int × (List Bool)) : List Res := (.box 90 [DS pI z0.2.1, I z0.2.2.1] :: zs x1 (.box 29 [I x1.Al, .os 1, .os 2, .os 3, I x1.Phase, I x1.An] :: .box 36 [.os 7, .os 8, .os 9, .os 10] :: .box 36 [.os 11, .os 12, .os 13, .os 14] :: ze [v2_ (Eo z0), v5_ ([] : List Ae), v0_ ([] : List Int), v4_ ([] : List Am)]))
def Acu  (z0 : Int × (List Int) × Int × (List Bool)) : St := [(0, dO 0 0), (3, dO 4 0), (4, dO 5 0), (5, dO 6 0)]
def Aeh (x1 : Aa) (z0 : Int × (List Int) × Int × (List Bool)) : List Res := (.box 90 [DS pI z0.2.1, I z0.2.2.1] :: zs x1 (.box 29 [I x1.Al, .os 1, .os 2, .os 3, I x1.Phase, I x1.An] :: .box 36 [.os 7, .os 8, .os 9, .os 10] :: .box 36 [.os 11, .os 12, .os 13, .os 14] :: ze [v2_ (Eo z0), v5_ ([] : List Ae), v0_ ([] : List Int), v4_ ([] : List Am)]))
def S8 (x1 : Aa) (z1 : Int × (List Bool)) : St := [(0, dO 0 0), (3, dO 4 0), (4, dO 5 0), (5, dO 6 0), (30, dI (ln x1.Af)), (31, dI z1.1)]
def Zq (x1 : Aa) (z0 : Int × (List Int) × Int × (List Bool)) (z1 : Int × (List Bool)) : List Res := (.box 90 [DS pI z0.2.1, I z0.2.2.1] :: zs x1 (.box 29 [I x1.Al, .os 1, .os 2, .os 3, I x1.Phase, I x1.An] :: .box 36 [.os 7, .os 8, .os 9, .os 10] :: .box 36 [.os 11, .os 12, .os 13, .os 14] :: ze [v2_ z1.2, v5_ ([] : List Ae), v0_ ([] : List Int), v4_ ([] : List Am)]))
def Acs  (z1 : Int × (List Bool)) : St := [(0, dO 0 0), (3, dO 4 0), (4, dO 5 0), (5, dO 6 0)]
def Aeg (x1 : Aa) (z0 : Int × (List Int) × Int × (List Bool)) (z1 : Int × (List Bool)) : List Res := (.box 90 [DS pI z0.2.1, I z0.2.2.1] :: zs x1 (.box 29 [I x1.Al, .os 1, .os 2, .os 3, I x1.Phase, I x1.An] :: .box 36 [.os 7, .os 8, .os 9, .os 10] :: .box 36 [.os 11, .os 12, .os 13, .os 14] :: ze [v2_ z1.2, v5_ ([] : List Ae), v0_ ([] : List Int), v4_ ([] : List Am)]))
def N4 (x1 : Aa) (z1 : Int × (List Bool)) (n2 : Nat) (z2 : Bool × (List Bool)) : St := [(0, dO 0 0), (3, dO 4 0), (4, dO 5 0), (5, dO 6 0), (6, dI z1.1), (7, dB z2.1), (30, dI (ln x1.Af)), (31, dI z1.1), (35, dS 1), (36, dI (ln x1.Ad)), (37, dI (cnt 0 n2))]
def Rx (x1 : Aa) (z0 : Int × (List Int) × Int × (List Bool)) (n2 : Nat) (z2 : Bool × (List Bool)) : List Res := (.box 90 [DS pI z0.2.1, I z0.2.2.1] :: zs x1 (.box 29 [I x1.Al, .os 1, .os 2, .os 3, I x1.Phase, I x1.An] :: .box 36 [.os 7, .os 8, .os 9, .os 10] :: .box 36 [.os 11, .os 12, .os 13, .os 14] :: ze [v2_ z2.2, v5_ ([] : List Ae), v0_ ([] : List Int), v4_ ([] : List Am)]))
def Acr (x1 : Aa) (z1 : Int × (List Bool)) (z2 : Bool × (List Bool)) : St := [(0, dO 0 0), (3, dO 4 0), (4, dO 5 0), (5, dO 6 0), (30, dI (ln x1.Af)), (31, dI z1.1)]
def Aef (x1 : Aa) (z0 : Int × (List Int) × Int × (List Bool)) (z2 : Bool × (List Bool)) : List Res := (.box 90 [DS pI z0.2.1, I z0.2.2.1] :: zs x1 (.box 29 [I x1.Al, .os 1, .os 2, .os 3, I x1.Phase, I x1.An] :: .box 36 [.os 7, .os 8, .os 9, .os 10] :: .box 36 [.os 11, .os 12, .os 13, .os 14] :: ze [v2_ z2.2, v5_ ([] : List Ae), v0_ ([] : List Int), v4_ ([] : List Am)]))
def S7 (x1 : Aa) (z3 : Sg6) : St := [(0, dO 0 0), (3, dO 4 0), (4, dO 5 0), (5, dO 6 0), (67, dI (ln x1.Ac)), (68, dI z3.1)]
def Zp (x1 : Aa) (z1 : Int × (List Bool)) (z3 : Sg6) : List Res := (.box 90 [DS pI z3.2.1, I z3.2.2.1] :: zs x1 (.box 29 [I x1.Al, .os 1, .os 2, .os 3, I x1.Phase, I x1.An] :: .box 36 [.os 7, .os 8, .os 9, .os 10] :: .box 36 [.os 11, .os 12, .os 13, .os 14] :: ze [v2_ z1.2, v5_ (Eo z3), v0_ ([] : List Int), v4_ ([] : List Am)]))
def Acq  (z3 : Sg6) : St := [(0, dO 0 0), (3, dO 4 0), (4, dO 5 0), (5, dO 6 0)]
def Aee (x1 : Aa) (z1 : Int × (List Bool)) (z3 : Sg6) : List Res := (.box 90 [DS pI z3.2.1, I z3.2.2.1] :: zs x1 (.box 29 [I x1.Al, .os 1, .os 2, .os 3, I x1.Phase, I x1.An] :: .box 36 [.os 7, .os 8, .os 9, .os 10] :: .box 36 [.os 11, .os 12, .os 13, .os 14] :: ze [v2_ z1.2, v5_ (Eo z3), v0_ ([] : List Int), v4_ ([] : List Am)]))
def S6 (x1 : Aa) (n4 : Nat) (z4 : (List Int) × Int × (List Int)) : St := [(0, dO 0 0), (3, dO 4 0), (4, dO 5 0), (5, dO 6 0), (89, dS 3), (90, dI (ln x1.Af)), (91, dI (cnt 0 n4))]
def Zo (x1 : Aa) (z1 : Int × (List Bool)) (z3 : Sg6) (n4 : Nat) (z4 : (List Int) × Int × (List Int)) : List Res := (.box 90 [DS pI z4.1, I z4.2.1] :: zs x1 (.box 29 [I x1.Al, .os 1, .os 2, .os 3, I x1.Phase, I x1.An] :: .box 36 [.os 7, .os 8, .os 9, .os 10] :: .box 36 [.os 11, .os 12, .os 13, .os 14] :: ze [v2_ z1.2, v5_ (Eo z3), v0_ z4.2.2, v4_ ([] : List Am)]))
def Acp  (z4 : (List Int) × Int × (List Int)) : St := [(0, dO 0 0), (3, dO 4 0), (4, dO 5 0), (5, dO 6 0)]
def Aed (x1 : Aa) (z1 : Int × (List Bool)) (z3 : Sg6) (z4 : (List Int) × Int × (List Int)) : List Res := (.box 90 [DS pI z4.1, I z4.2.1] :: zs x1 (.box 29 [I x1.Al, .os 1, .os 2, .os 3, I x1.Phase, I x1.An] :: .box 36 [.os 7, .os 8, .os 9, .os 10] :: .box 36 [.os 11, .os 12, .os 13, .os 14] :: ze [v2_ z1.2, v5_ (Eo z3), v0_ z4.2.2, v4_ ([] : List Am)]))
def K1  (z5 : Int × (List Int) × Int × (List Am)) : St := [(0, dO 0 0), (3, dO 4 0), (4, dO 5 0), (5, dO 6 0), (12, dI z5.1)]
def Nl (x1 : Aa) (z1 : Int × (List Bool)) (z3 : Sg6) (z4 : (List Int) × Int × (List Int)) (z5 : Int × (List Int) × Int × (List Am)) : List Res := (.box 90 [DS pI z5.2.1, I z5.2.2.1] :: zs x1 (.box 29 [I x1.Al, .os 1, .os 2, .os 3, I x1.Phase, I x1.An] :: .box 36 [.os 7, .os 8, .os 9, .os 10] :: .box 36 [.os 11, .os 12, .os 13, .os 14] :: ze [v2_ z1.2, v5_ (Eo z3), v0_ z4.2.2, v4_ (Eo z5)]))
def Aco  (z5 : Int × (List Int) × Int × (List Am)) : St := [(4, dO 4 0), (5, dO 5 0)]
def Aec (x1 : Aa) (z1 : Int × (List Bool)) (z3 : Sg6) (z4 : (List Int) × Int × (List Int)) (z5 : Int × (List Int) × Int × (List Am)) : List Res := (.box 90 [DS pI z5.2.1, I z5.2.2.1] :: zs x1 (.box 36 [.os 6, .os 7, .os 8, .os 9] :: .box 36 [.os 10, .os 11, .os 12, .os 13] :: ze [v2_ z1.2, v5_ (Eo z3), v0_ z4.2.2, v4_ (Eo z5)]))
set_option maxHeartbeats 4000000 in
theorem A5m (x0 : Ah) (x1 : Aa) (r : Ab × Ah) (h : Vv x0 x1 = some r) : CO 132 [.d (.o 0 0), .agg [I x1.Al, .os 1, .os 2, .os 3, I x1.Phase, I x1.An]] (.box 90 (d90 x0) :: zs x1 []) (.agg [.os 4, .os 5, .os 6, .os 7]) (.box 90 (d90 r.2) :: zs x1 (zp r.1 [])) := by
 unfold Vv at h
 refine co 134 Tryz.func132 λ C hC => ?_
 refine ws Ch 28 [] [pl Bi x1.Ad] [.ownb 5 0 4 1, .ownb 5 1 120 4, .ownb 5 2 3 1, .ownb 5 3 86 2, .ownb 6 0 4 1, .ownb 6 1 120 4, .ownb 6 2 3 1, .ownb 6 3 86 2] 4 F1 (S9 x1 (0, x0.L, x0.At, ([] : List Bool))) (Zr x1 (0, x0.L, x0.At, ([] : List Bool))) hC [] ?_
 obtain ⟨w0, hm0, hret0, hnext0⟩ := Ar h
 clear h
 refine wc w0 (Acu) (Aeh x1) ?_ λ z0 hs0 => ?_
 ·refine wb ?_
  refine ww (S9 x1) (Zr x1) hm0 λ z0 w0b h hb0 hr0 => ?_
  unfold O0 at h
  rcases cB h with ⟨h1, h⟩ | ⟨h1, h⟩
  ·obtain ⟨y2, h3, y4, h5, h⟩ := Bc h
   exact wx w0b (S9 x1) (Zr x1) Ch 31 [true] [pc e32 (k32 (⟨z0.2.1, z0.2.2.1⟩ : Ah) 2 _ h3) [0], pa pB 1 h5] [] 4 [0, 1, 2, 3, 4, 5, 6, 7, 8, 9, 10, 15, 12, 13, 14] _ hC [pq h1] (sI h).symm
  ·exact wx w0 (Acu) (Aeh x1) Ch 26 [false] [] [] 4 F1 (z0.1, z0.2.1, z0.2.2.1, (Eo z0)) hC [pq h1] (hb0 _ (sI h).symm)
 ·have h := hnext0 _ hs0
  refine ws Ch 24 [] [pl q65 x1.Af] [] 4 F1 (S8 x1 (0, (Eo z0))) (Zq x1 z0 (0, (Eo z0))) hC [] ?_
  obtain ⟨w1, hm1, hret1, hnext1⟩ := Ar h
  clear h
  refine wc w1 (Acs) (Aeg x1 z0) ?_ λ z1 hs1 => ?_
  ·refine wb ?_
   refine ww (S8 x1) (Zq x1 z0) hm1 λ z1 w1b h hb1 hr1 => ?_
   unfold Oz at h
   rcases cB h with ⟨h6, h⟩ | ⟨h6, h⟩
   ·refine ws Ch 34 [true] [pl Bi x1.Ad] [] 4 F1 (N4 x1 z1 0 (true, z1.2)) (Rx x1 z0 0 (true, z1.2)) hC [pq h6] ?_
    obtain ⟨w2, hm2, hret2, hnext2⟩ := Ar h
    clear h
    refine wc w2 (Acr x1 z1) (Aef x1 z0) ?_ λ z2 hs2 => ?_
    ·refine wb ?_
     refine Co 35 1 rfl rfl λ hl2 => ?_
     refine wl (N4 x1 z1) (Rx x1 z0) hm2 (λ z2 hn2 => ?_) λ n2 a2 z2 w2b hi2 hx2 h hb2 hr2 => ?_
     ·clear hm2
      exact wx w2 (Acr x1 z1) (Aef x1 z0) Ch 26 [false] [] [] 4 F1 _ hC [pq (Be hl2)] hn2
     ·unfold Oy at h
      obtain ⟨y7, h8, h⟩ := Ax h
      refine wn Ch 32 [true] [pr Bi (Bp hx2 hl2), pn Bi (Bp hx2 hl2), pR pB h8, pN pB h8] [] 4 F1 [0, 3, 4, 5, 6, 7, 8, 30, 31, 35, 36, 37, 57] hC [pq (A9 hi2 hl2)] ?_
      rcases cB h with ⟨h9, h⟩ | ⟨h9, h⟩
      ·obtain ⟨y10, h11, y12, h13, h⟩ := Bc h
       exact wx w2b (N4 x1 z1 (n2 + 1)) (Rx x1 z0 (n2 + 1)) Ch 27 [true] [pr pB h11, pu pB h11 h13] [] 4 F1 _ hC [pq h9] (sI h).symm
      ·exact wx w2b (N4 x1 z1 (n2 + 1)) (Rx x1 z0 (n2 + 1)) Ch 25 [false] [] [] 4 F1 _ hC [pq h9] (sI h).symm
    ·have h := hnext2 _ hs2
     exact wx w1b (S8 x1) (Zq x1 z0) Ch 23 [] [] [] 4 F1 _ hC [] (sI h).symm
   ·exact wx w1 (Acs) (Aeg x1 z0) Ch 26 [false] [] [] 4 F1 (z1.1, z1.2) hC [pq h6] (hb1 _ (sI h).symm)
  ·have h := hnext1 _ hs1
   refine ws Ch 24 [] [pl Br x1.Ac] [] 4 F1 (S7 x1 (0, z0.2.1, z0.2.2.1, ([] : List Ae))) (Zp x1 z1 (0, z0.2.1, z0.2.2.1, ([] : List Ae))) hC [] ?_
   obtain ⟨w3, hm3, hret3, hnext3⟩ := Ar h
   clear h
   refine wc w3 (Acq) (Aee x1 z1) ?_ λ z3 hs3 => ?_
   ·refine wb ?_
    refine ww (S7 x1) (Zp x1 z1) hm3 λ z3 w3b h hb3 hr3 => ?_
    unfold Ox at h
    rcases cB h with ⟨h14, h⟩ | ⟨h14, h⟩
    ·obtain ⟨y15, h16, y17, h18, y19, h20, h⟩ := B0 h
     obtain ⟨y21, h22, y23, h24, h⟩ := Bc h
     exact wx w3b (S7 x1) (Zp x1 z1) Ch 31 [true] [pc e40 (k40 (⟨z3.2.1, z3.2.2.1⟩ : Ah) [0, 1, 2, 2, 2, 3] _ h16) [0], pc e32 (k32 y15.2 5 _ h18) [0], pc e40 (k40 y17.2 [5000, 5000, 5005, 4950] _ h20) [0], pc e40 (k40 y19.2 [0, 0, 40, 1800, 3590] _ h22) [0], pa A_ 4 h24] [] 4 [0, 1, 2, 3, 4, 5, 6, 7, 8, 9, 10, 11, 15, 13, 14] _ hC [pq h14] (sI h).symm
    ·exact wx w3 (Acq) (Aee x1 z1) Ch 26 [false] [] [] 4 F1 (z3.1, z3.2.1, z3.2.2.1, (Eo z3)) hC [pq h14] (hb3 _ (sI h).symm)
   ·have h := hnext3 _ hs3
    refine ws Ch 24 [] [pl q65 x1.Af] [] 4 F1 (S6 x1 0 (z3.2.1, z3.2.2.1, ([] : List Int))) (Zo x1 z1 z3 0 (z3.2.1, z3.2.2.1, ([] : List Int))) hC [] ?_
    obtain ⟨w4, hm4, hret4, hnext4⟩ := Ar h
    clear h
    refine wc w4 (Acp) (Aed x1 z1 z3) ?_ λ z4 hs4 => ?_
    ·refine wb ?_
     refine Co 89 3 rfl rfl λ hl4 => ?_
     refine wl (S6 x1) (Zo x1 z1 z3) hm4 (λ z4 hn4 => ?_) λ n4 a4 z4 w4b hi4 hx4 h hb4 hr4 => ?_
     ·clear hm4
      exact wx w4 (Acp) (Aed x1 z1 z3) Ch 26 [false] [] [] 4 F1 _ hC [pq (Be hl4)] hn4
     ·unfold Ow at h
      obtain ⟨y25, h26, y27, h28, h⟩ := Bc h
      exact wx w4b (S6 x1 (n4 + 1)) (Zo x1 z1 z3 (n4 + 1)) Ch 33 [true] [pr q65 (Bp hx4 hl4), pn q65 (Bp hx4 hl4), ⟨.nz 3, K7 rfl⟩, pc e40 (k40 (⟨z4.1, z4.2.1⟩ : Ah) [a4.Load, a4.Load, a4.Least, w64 (Int.tdiv a4.Load 3)] _ h26) [0], pa pI 1 h28] [] 4 [0, 1, 2, 3, 4, 5, 6, 7, 8, 9, 10, 11, 12, 16, 14] _ hC [pq (A9 hi4 hl4)] (sI h).symm
    ·have h := hnext4 _ hs4
     refine ws Ch 24 [] [] [] 4 F1 (K1 (1, z4.1, z4.2.1, ([] : List Am))) (Nl x1 z1 z3 z4 (1, z4.1, z4.2.1, ([] : List Am))) hC [] ?_
     obtain ⟨w5, hm5, hret5, hnext5⟩ := Ar h
     clear h
     refine wc w5 (Aco) (Aec x1 z1 z3 z4) ?_ λ z5 hs5 => ?_
     ·refine wb ?_
      refine ww (K1) (Nl x1 z1 z3 z4) hm5 λ z5 w5b h hb5 hr5 => ?_
      unfold Ov at h
      rcases cB h with ⟨h29, h⟩ | ⟨h29, h⟩
      ·obtain ⟨y30, h31, h⟩ := Ax h
       rcases cB h with ⟨h32, h⟩ | ⟨h32, h⟩
       ·obtain ⟨y33, h34, h⟩ := Ax h
        refine wn Ch 35 [true, true] [pc e32 (k32 (⟨z5.2.1, z5.2.2.1⟩ : Ah) 5 _ h31) [0], pc e32 (k32 y30.2 4 _ h34) [0], pb e71 (k71 x1 (⟨z5.1, y33.1⟩ : Am) _ rfl)] [] 4 A99 [0, 3, 4, 5, 12, 13, 126] hC [pq h29, pq h32] ?_
        rcases cB h with ⟨h35, h⟩ | ⟨h35, h⟩
        ·obtain ⟨y36, h37, h⟩ := Ax h
         exact wx w5b (K1) (Nl x1 z1 z3 z4) Ch 25 [true] [pa q86 2 h37] [] 4 [0, 1, 2, 3, 4, 5, 6, 7, 8, 9, 10, 11, 12, 13, 16] _ hC [pq h35] (sI h).symm
        ·exact wx w5b (K1) (Nl x1 z1 z3 z4) Ch 25 [false] [] [] 4 F1 _ hC [pq h35] (sI h).symm
       ·exact wx w5b (K1) (Nl x1 z1 z3 z4) Ch 34 [true, false] [pc e32 (k32 (⟨z5.2.1, z5.2.2.1⟩ : Ah) 5 _ h31) [0]] [] 4 F1 _ hC [pq h29, pq h32] (sI h).symm
      ·exact wx w5 (Aco) (Aec x1 z1 z3 z4) Ch 26 [false] [] [] 4 [0, 1, 2, 3, 5, 6, 7, 8, 9, 10, 11, 12, 13, 14] (z5.1, z5.2.1, z5.2.2.1, (Eo z5)) hC [pq h29] (hb5 _ (sI h).symm)
     ·have h := hnext5 _ hs5
      replace h := sI h
      subst h
      exact wr Ch 23 [] [] [] 4 [0, 1, 2, 3, 10, 11, 12, 13] hC []
theorem A7j : EN 132 := en Tryz.func132
def D1 : List Nat := [0, 1, 2, 3, 4, 5, 7, 8, 9, 10, 11, 12, 13, 15, 19, 45, 47, 48, 49, 50, 74, 77, 78, 79, 80, 92, 97, 99, 100, 101, 102, 124, 128, 129, 130, 134, 135, 136, 137, 144, 149]
def Af5 (x1 : Ab) (n0 : Nat) (z0 : Unit) : St := [(2, dO 0 0), (3, dO 1 0), (4, dI 0), (47, .d (DS A_ x1.Ac)), (48, dI (ln x1.Ac)), (49, dI (cnt 0 n0))]
def Ar9 (x0 : Aa) (x1 : Ab) (n0 : Nat) (z0 : Unit) : List Res := [.box 29 (d29 x0), .box 36 (d36 x1)]
def At6  (z0 : Unit) : St := [(2, dO 0 0), (3, dO 1 0), (4, dI 0)]
def Axg (x0 : Aa) (x1 : Ab) (z0 : Unit) : List Res := [.box 29 (d29 x0), .box 36 (d36 x1)]
def Af4 (x1 : Ab) (n1 : Nat) (z1 : Unit) : St := [(2, dO 0 0), (3, dO 1 0), (4, dI 0), (77, .d (DS pI x1.Aq)), (78, dI (ln x1.Aq)), (79, dI (cnt 0 n1))]
def Ar8 (x0 : Aa) (x1 : Ab) (n1 : Nat) (z1 : Unit) : List Res := [.box 29 (d29 x0), .box 36 (d36 x1)]
def At5  (z1 : Unit) : St := [(2, dO 0 0), (3, dO 1 0), (4, dI 0)]
def Axf (x0 : Aa) (x1 : Ab) (z1 : Unit) : List Res := [.box 29 (d29 x0), .box 36 (d36 x1)]
def Af3 (x1 : Ab) (n2 : Nat) (z2 : Unit) : St := [(2, dO 0 0), (3, dO 1 0), (4, dI 0), (99, .d (DS q86 x1.Ao)), (100, dI (ln x1.Ao)), (101, dI (cnt 0 n2))]
def Ar7 (x0 : Aa) (x1 : Ab) (n2 : Nat) (z2 : Unit) : List Res := [.box 29 (d29 x0), .box 36 (d36 x1)]
def At4  (z2 : Unit) : St := [(2, dO 0 0), (3, dO 1 0), (4, dI 0)]
def Axe (x0 : Aa) (x1 : Ab) (z2 : Unit) : List Res := [.box 29 (d29 x0), .box 36 (d36 x1)]
def Af2 (x0 : Aa) (z3 : Int) : St := [(2, dO 0 0), (3, dO 1 0), (4, dI 0), (128, dI (ln x0.Af)), (129, dI z3)]
def Ar6 (x0 : Aa) (x1 : Ab) (z3 : Int) : List Res := [.box 29 (d29 x0), .box 36 (d36 x1)]
def At3  (z3 : Int) : St := [(4, dI 0)]
def Axd  (z3 : Int) : List Res := []
def jQ (x0 : Aa) (z3 : Int) (y14 : (List Int)) (n4 : Nat) (z4 : Int) : St := [(2, dO 0 0), (3, dO 1 0), (4, dI 0), (13, dI z4), (128, dI (ln x0.Af)), (129, dI z3), (134, dS 2), (135, dI (ln y14)), (136, dI (cnt 0 n4))]
def Afj (x0 : Aa) (x1 : Ab) (y14 : (List Int)) (n4 : Nat) (z4 : Int) : List Res := [.box 29 (d29 x0), .box 36 (d36 x1), v0_ y14]
def At2 (x0 : Aa) (z3 : Int) (z4 : Int) : St := [(2, dO 0 0), (3, dO 1 0), (4, dI 0), (13, dI z4), (128, dI (ln x0.Af)), (129, dI z3)]
def Axc (x0 : Aa) (x1 : Ab) (z4 : Int) : List Res := [.box 29 (d29 x0), .box 36 (d36 x1)]
set_option maxHeartbeats 4000000 in
theorem k53 (x0 : Aa) (x1 : Ab) (r : Int) (h : F53 x0 x1 = some r) : CO 53 [.agg (d29 x0), .agg (d36 x1)] [] (.d (I r)) [] := by
 unfold F53 at h
 refine co 151 Tryz.func53 λ C hC => ?_
 obtain ⟨y1, h2, h⟩ := Ax h
 rcases cB h with ⟨h3, h⟩ | ⟨h3, h⟩
 ·replace h := sI h
  subst h
  exact wr D1 31 [true] [pc A7m (A5p x0 _ h2) []] [] 0 [] hC [pq h3]
 ·refine wn D1 33 [false] [pc A7m (A5p x0 _ h2) [], pl pB x1.Ag, pl Bi x0.Ad, pL_ [(((ln x1.Ag) != (ln x0.Ad)), false)] A_ x1.Ac, pL_ [(((ln x1.Ag) != (ln x0.Ad)), false)] Br x0.Ac, pL_ [((((ln x1.Ag) != (ln x0.Ad)) || ((ln x1.Ac) != (ln x0.Ac))), false)] pI x1.Aq, pL_ [((((ln x1.Ag) != (ln x0.Ad)) || ((ln x1.Ac) != (ln x0.Ac))), false)] q65 x0.Af] [] 0 [0, 1] [2, 3, 4, 45] hC [pq h3] ?_
  rcases cB h with ⟨h4, h⟩ | ⟨h4, h⟩
  ·replace h := sI h
   subst h
   exact wr D1 24 [true] [] [] 0 [] hC [pq h4]
  ·refine ws D1 26 [false] [pl A_ x1.Ac] [] 0 [0, 1] (Af5 x1 0 ()) (Ar9 x0 x1 0 ()) hC [pq h4] ?_
   obtain ⟨w0, hm0, hret0, hnext0⟩ := Ar h
   clear h
   refine wc w0 (At6) (Axg x0 x1) ?_ λ z0 hs0 => ?_
   ·refine wb ?_
    refine Bn 47 rfl λ hl0 => ?_
    refine wl (Af5 x1) (Ar9 x0 x1) hm0 (λ z0 hn0 => ?_) λ n0 a0 z0 w0b hi0 hx0 h hb0 hr0 => ?_
    ·clear hm0
     exact wx w0 (At6) (Axg x0 x1) D1 26 [false] [] [] 0 [0, 1] _ hC [pq (Be hl0)] hn0
    ·unfold Akz at h
     refine wn D1 32 [true] [pt hx0 hl0, pc Fg (Fe a0.State 0 3 _ rfl) [], ⟨.when [(!(B5 a0.State 0 3), false)] (.call 112 [dI a0.Since, dI 0, dI 2147483648] [] (dB (B5 a0.Since 0 2147483648)) [] []), λ hg => ⟨Fg, (Fe a0.Since 0 2147483648 _ rfl)⟩⟩, ⟨.when [(((!(B5 a0.State 0 3)) || (!(B5 a0.Since 0 2147483648))), false)] (.call 112 [dI a0.An, dI 0, dI 6000] [] (dB (B5 a0.An 0 6000)) [] []), λ hg => ⟨Fg, (Fe a0.An 0 6000 _ rfl)⟩⟩, ⟨.when [((((!(B5 a0.State 0 3)) || (!(B5 a0.Since 0 2147483648))) || (!(B5 a0.An 0 6000))), false)] (.call 112 [dI a0.Phase, dI 0, dI 3599] [] (dB (B5 a0.Phase 0 3599)) [] []), λ hg => ⟨Fg, (Fe a0.Phase 0 3599 _ rfl)⟩⟩] [] 0 [0, 1] [2, 3, 4, 47, 48, 49, 74] hC [pq (A9 hi0 hl0)] ?_
     rcases cB h with ⟨h5, h⟩ | ⟨h5, h⟩
     ·have hq := hret0 _ (hr0 _ (sI h).symm)
      replace hq := sI hq
      subst hq
      exact wr D1 24 [true] [] [] 0 [] hC [pq h5]
     ·exact wx w0b (Af5 x1 (n0 + 1)) (Ar9 x0 x1 (n0 + 1)) D1 25 [false] [] [] 0 [0, 1] _ hC [pq h5] (sI h).symm
   ·have h := hnext0 _ hs0
    refine ws D1 24 [] [pl pI x1.Aq] [] 0 [0, 1] (Af4 x1 0 ()) (Ar8 x0 x1 0 ()) hC [] ?_
    obtain ⟨w1, hm1, hret1, hnext1⟩ := Ar h
    clear h
    refine wc w1 (At5) (Axf x0 x1) ?_ λ z1 hs1 => ?_
    ·refine wb ?_
     refine Bn 77 rfl λ hl1 => ?_
     refine wl (Af4 x1) (Ar8 x0 x1) hm1 (λ z1 hn1 => ?_) λ n1 a1 z1 w1b hi1 hx1 h hb1 hr1 => ?_
     ·clear hm1
      exact wx w1 (At5) (Axf x0 x1) D1 26 [false] [] [] 0 [0, 1] _ hC [pq (Be hl1)] hn1
     ·unfold Aky at h
      obtain ⟨y6, h7, h⟩ := Ax h
      refine wn D1 32 [true] [pt hx1 hl1, pr q65 h7, pc Fg (Fe a1 0 y6.Load _ rfl) []] [] 0 [0, 1] [2, 3, 4, 77, 78, 79, 92] hC [pq (A9 hi1 hl1)] ?_
      rcases cB h with ⟨h8, h⟩ | ⟨h8, h⟩
      ·have hq := hret1 _ (hr1 _ (sI h).symm)
       replace hq := sI hq
       subst hq
       exact wr D1 24 [true] [] [] 0 [] hC [pq h8]
      ·exact wx w1b (Af4 x1 (n1 + 1)) (Ar8 x0 x1 (n1 + 1)) D1 25 [false] [] [] 0 [0, 1] _ hC [pq h8] (sI h).symm
    ·have h := hnext1 _ hs1
     rcases cB h with ⟨h9, h⟩ | ⟨h9, h⟩
     ·replace h := sI h
      subst h
      exact wr D1 27 [true] [pl q86 x1.Ao] [] 0 [] hC [pq h9]
     ·refine ws D1 29 [false] [pl q86 x1.Ao, pl q86 x1.Ao] [] 0 [0, 1] (Af3 x1 0 ()) (Ar7 x0 x1 0 ()) hC [pq h9] ?_
      obtain ⟨w2, hm2, hret2, hnext2⟩ := Ar h
      clear h
      refine wc w2 (At4) (Axe x0 x1) ?_ λ z2 hs2 => ?_
      ·refine wb ?_
       refine Bn 99 rfl λ hl2 => ?_
       refine wl (Af3 x1) (Ar7 x0 x1) hm2 (λ z2 hn2 => ?_) λ n2 a2 z2 w2b hi2 hx2 h hb2 hr2 => ?_
       ·clear hm2
        exact wx w2 (At4) (Axe x0 x1) D1 26 [false] [] [] 0 [0, 1] _ hC [pq (Be hl2)] hn2
       ·unfold Akx at h
        obtain ⟨y10, h11, h⟩ := Ax h
        refine wn D1 32 [true] [pt hx2 hl2, pc e71 (k71 x0 a2 _ rfl) [], pR q86 h11, ⟨.when [(!(F71 x0 a2), false), (decide ((cnt 0 n2) > 0), true)] (.call 113 [.agg (d86 y10), .agg (d86 a2)] [] (dB (Abj y10 a2)) [] []), λ hg => ⟨Bb4, (Ban y10 a2 _ rfl)⟩⟩] [] 0 [0, 1] [2, 3, 4, 99, 100, 101, 124] hC [pq (A9 hi2 hl2)] ?_
        rcases cB h with ⟨h12, h⟩ | ⟨h12, h⟩
        ·have hq := hret2 _ (hr2 _ (sI h).symm)
         replace hq := sI hq
         subst hq
         exact wr D1 24 [true] [] [] 0 [] hC [pq h12]
        ·exact wx w2b (Af3 x1 (n2 + 1)) (Ar7 x0 x1 (n2 + 1)) D1 25 [false] [] [] 0 [0, 1] _ hC [pq h12] (sI h).symm
      ·have h := hnext2 _ hs2
       refine ws D1 24 [] [pl q65 x0.Af] [] 0 [0, 1] (Af2 x0 0) (Ar6 x0 x1 0) hC [] ?_
       obtain ⟨w3, hm3, hret3, hnext3⟩ := Ar h
       clear h
       refine wc w3 (At3) (Axd) ?_ λ z3 hs3 => ?_
       ·refine wb ?_
        refine ww (Af2 x0) (Ar6 x0 x1) hm3 λ z3 w3b h hb3 hr3 => ?_
        unfold Akw at h
        rcases cB h with ⟨h13, h⟩ | ⟨h13, h⟩
        ·obtain ⟨y14, h15, h⟩ := Ax h
         refine ws D1 35 [true] [pc e77 (k77 x0 3 z3 _ h15) [], pl pI y14] [] 0 n3_ (jQ x0 z3 y14 0 0) (Afj x0 x1 y14 0 0) hC [pq h13] ?_
         obtain ⟨w4, hm4, hret4, hnext4⟩ := Ar h
         clear h
         refine wc w4 (At2 x0 z3) (Axc x0 x1) ?_ λ z4 hs4 => ?_
         ·refine wb ?_
          refine Co 134 2 rfl rfl λ hl4 => ?_
          refine wl (jQ x0 z3 y14) (Afj x0 x1 y14) hm4 (λ z4 hn4 => ?_) λ n4 a4 z4 w4b hi4 hx4 h hb4 hr4 => ?_
          ·clear hm4
           exact wx w4 (At2 x0 z3) (Axc x0 x1) D1 26 [false] [] [] 0 [0, 1] _ hC [pq (Be hl4)] hn4
          ·unfold Akv at h
           obtain ⟨y16, h17, h⟩ := Ax h
           rcases cB h with ⟨h18, h⟩ | ⟨h18, h⟩
           ·exact wx w4b (jQ x0 z3 y14 (n4 + 1)) (Afj x0 x1 y14 (n4 + 1)) D1 36 [true, true] [pr pI (Bp hx4 hl4), pn pI (Bp hx4 hl4), pr pB h17] [] 0 n3_ _ hC [pq (A9 hi4 hl4), pq h18] (sI h).symm
           ·exact wx w4b (jQ x0 z3 y14 (n4 + 1)) (Afj x0 x1 y14 (n4 + 1)) D1 36 [true, false] [pr pI (Bp hx4 hl4), pn pI (Bp hx4 hl4), pr pB h17] [] 0 n3_ _ hC [pq (A9 hi4 hl4), pq h18] (sI h).symm
         ·have h := hnext4 _ hs4
          rcases cB h with ⟨h19, h⟩ | ⟨h19, h⟩
          ·have hq := hret3 _ (hr3 _ (sI h).symm)
           replace hq := sI hq
           subst hq
           exact wr D1 26 [true] [] [] 0 [] hC [pq h19]
          ·exact wx w3b (Af2 x0) (Ar6 x0 x1) D1 27 [false] [] [] 0 [0, 1] _ hC [pq h19] (sI h).symm
        ·exact wx w3 (At3) (Axd) D1 26 [false] [] [] 0 [] z3 hC [pq h13] (hb3 _ (sI h).symm)
       ·have h := hnext3 _ hs3
        replace h := sI h
        subst h
        exact wr D1 23 [] [] [] 0 [] hC []
theorem e53 : EN 53 := en Tryz.func53
def Hz : List Nat := [0, 1, 2, 3, 4, 6, 16, 17, 18, 19, 28, 29, 44, 71]
def Ph (x0 : Aa) (n0 : Nat) (z0 : (List Int) × (List (List Int))) : St := [(1, dO 0 0), (2, dB false), (3, dS 1), (4, dS 2), (16, .d (DS Bi x0.Ad)), (17, dI (ln x0.Ad)), (18, dI (cnt 0 n0))]
def Uy (x0 : Aa) (n0 : Nat) (z0 : (List Int) × (List (List Int))) : List Res := [.box 29 (d29 x0), v0_ z0.1, .dsl 22 1 3, .gh 1 [(3, 1)] (z0.2.map (pL pI)) none]
def Ano  (z0 : (List Int) × (List (List Int))) : St := [(2, dB false), (3, dS 0), (4, dS 1)]
def Aph  (z0 : (List Int) × (List (List Int))) : List Res := [v0_ z0.1, .dsl 22 1 2, .gh 1 [(3, 1)] (z0.2.map (pL pI)) none]
theorem Bad (x0 : Aa) (r : Bool) (h : Alt x0 = some r) : CO 136 [.agg (d29 x0)] [] (.d (Bo r)) [] := by
 unfold Alt at h
 refine co 116 Tryz.func136 λ C hC => ?_
 obtain ⟨y1, h2, y3, h4, h⟩ := Bc h
 refine ws Hz 28 [] [⟨.flts [v0_ y1, .zsl 22 1 (y3.map (pL pI))], trivial⟩, pl Br x0.Ac, ⟨.fltm 1 (.room ((ln x0.Ac) * (8 + 1)) (List.replicate (Int.toNat (ln x0.Ac)) (pI 0)) (y1.map pI)) (v0_ y1) (v0_ y1), ⟨Hi h2, rfl⟩⟩, pl q65 x0.Af, ⟨.fltm 2 (.roomZ ((ln x0.Af) * (24 + 1)) (List.replicate (Int.toNat (ln x0.Af)) ((pL pI) ([] : List Int))) (y3.map (pL pI))) (.zsl 22 1 (y3.map (pL pI))) (.zsl 22 1 (y3.map (pL pI))), ⟨Tr h4, rfl⟩⟩, pl Bi x0.Ad] [.deep 2 [(3, 1)]] 0 n4_ (Ph x0 0 (y1, y3)) (Uy x0 0 (y1, y3)) hC [] ?_
 obtain ⟨w0, hm0, hret0, hnext0⟩ := Ar h
 clear h
 refine wc w0 (Ano) (Aph) ?_ λ z0 hs0 => ?_
 ·refine wb ?_
  refine Bn 16 rfl λ hl0 => ?_
  refine wl (Ph x0) (Uy x0) hm0 (λ z0 hn0 => ?_) λ n0 a0 z0 w0b hi0 hx0 h hb0 hr0 => ?_
  ·clear hm0
   exact wx w0 (Ano) (Aph) Hz 26 [false] [] [] 0 [1, 2, 3] _ hC [pq (Be hl0)] hn0
  ·unfold Aba at h
   refine wn Hz 33 [true] [pt hx0 hl0, pc e99 (k99 a0.A 0 (w64 (x0.Al - 1)) _ rfl) []] [] 0 n5_ [1, 2, 3, 4, 6, 16, 17, 18, 28] hC [pq (A9 hi0 hl0)] ?_
   rcases cB h with ⟨h5, h⟩ | ⟨h5, h⟩
   ·have hq := hret0 _ (hr0 _ (sI h).symm)
    replace hq := sI hq
    subst hq
    exact wr Hz 24 [true] [] [] 0 [] hC [pq h5]
   ·refine wn Hz 26 [false] [⟨.when [((a0.Kind == 1), true)] (.call 99 [dI a0.B, dI (w64 (a0.A + 1)), dI (w64 (x0.Al - 1))] [] (dB (F99 a0.B (w64 (a0.A + 1)) (w64 (x0.Al - 1)))) [] []), λ hg => ⟨e99, (k99 a0.B (w64 (a0.A + 1)) (w64 (x0.Al - 1)) _ rfl)⟩⟩] [] 0 n5_ [1, 2, 3, 4, 6, 16, 17, 18, 29] hC [pq h5] ?_
    rcases cB h with ⟨h6, h⟩ | ⟨h6, h⟩
    ·exact wx w0b (Ph x0 (n0 + 1)) (Uy x0 (n0 + 1)) Hz 26 [true] [] [] 0 n4_ _ hC [pq h6] (sI h).symm
    ·obtain ⟨y7, h8, h⟩ := Ax h
     refine wn Hz 24 [false] [pL_ [((a0.Kind == 2), true)] pI z0.1, ⟨.when [((a0.Kind == 2), true)] (.call 99 [dI a0.B, dI 0, dI (w64 ((ln z0.1) - 1))] [] (.d (Bo (F99 a0.B 0 (w64 ((ln z0.1) - 1))))) [] []), λ hg => ⟨e99, (k99 a0.B 0 (w64 ((ln z0.1) - 1)) _ rfl)⟩⟩, pR pI h8, pN pI h8] [] 0 n5_ [1, 2, 3, 4, 6, 16, 17, 18, 44] hC [pq h6] ?_
     rcases cB h with ⟨h9, h⟩ | ⟨h9, h⟩
     ·obtain ⟨y10, h11, y12, h13, h⟩ := Bc h
      exact wx w0b (Ph x0 (n0 + 1)) (Uy x0 (n0 + 1)) Hz 26 [true] [pr pI h11, pn pI h11, pr pI h11, pu pI h11 h13] [] 0 n4_ _ hC [pq h9] (sI h).symm
     ·obtain ⟨y14, h15, y16, h17, h⟩ := Bc h
      refine wn Hz 24 [false] [pL_ [((a0.Kind == 3), true)] (pL pI) z0.2, ⟨.when [((a0.Kind == 3), true)] (.call 99 [dI a0.B, dI 0, dI (w64 ((ln z0.2) - 1))] [] (.d (Bo (F99 a0.B 0 (w64 ((ln z0.2) - 1))))) [] []), λ hg => ⟨e99, (k99 a0.B 0 (w64 ((ln z0.2) - 1)) _ rfl)⟩⟩, pR (pL pI) h15, pN (pL pI) h15, ⟨.when [(((a0.Kind == 3) && (F99 a0.B 0 (w64 ((ln z0.2) - 1)))), true)] (.callB 190 [.d (DS pI y14), dI a0.A] (dB y16) (z0.2.map (pL pI)) (Int.toNat a0.B) ((pL pI) y14)), λ hg => Ay4 ⟨Yy, (Yq y14 a0.A _ (Bb h17 hg))⟩ (Bb h15 hg)⟩] [] 0 n5_ [1, 2, 3, 4, 6, 16, 17, 18, 71] hC [pq h9] ?_
      rcases cB h with ⟨h18, h⟩ | ⟨h18, h⟩
      ·obtain ⟨y19, h20, y21, h22, y23, h24, h⟩ := B0 h
       exact wx w0b (Ph x0 (n0 + 1)) (Uy x0 (n0 + 1)) Hz 26 [true] [pr (pL pI) h20, pn (pL pI) h20, ⟨.appD (z0.2.map (pL pI)) (Int.toNat a0.B) ((pL pI) y19) 0 (y19.map pI) ([a0.A].map pI) 1 (((y19.map pI).length + ([a0.A].map pI).length) * (8 + 1)) (y21.map pI), I2 1 (λ _ => rfl) h20 rfl h22⟩, pr (pL pI) h20, ⟨.updD (z0.2.map (pL pI)) (Int.toNat a0.B) (Int.toNat a0.B) ((pL pI) y19) ((pL pI) y21) (y23.map (pL pI)), Iw h20 h24⟩] [] 0 [0, 1, 2, 8] _ hC [pq h18] (sI h).symm
      ·have hq := hret0 _ (hr0 _ (sI h).symm)
       replace hq := sI hq
       subst hq
       exact wr Hz 24 [false] [] [] 0 [] hC [pq h18]
 ·have h := hnext0 _ hs0
  refine wn Hz 1 [] [] [.flat 1] 0 [0, 1] [2, 3, 4] hC [] ?_
  obtain ⟨y27, h28, y29, h30, h⟩ := Bc h
  replace h := sI h
  subst h
  exact wr Hz 22 [] [pb Yy (Yq z0.1 0 _ h28), pv A6t (λ hg => A4w z0.2 _ (Bb h30 hg))] [] 0 [] hC []
theorem Bbu : EN 136 := en Tryz.func136
def Mq : List Nat := [0, 1, 4, 5, 7, 8, 9, 16]
def Sz (x0 : List Ae) (n0 : Nat) (z0 : Unit) : St := [(0, .d (DS A_ x0)), (1, .d (.fn (.func 97) [] [])), (4, dI 0), (7, dI (ln x0)), (8, dI (cnt 0 n0))]
def Zk  (n0 : Nat) (z0 : Unit) : List Res := []
def Acj  (z0 : Unit) : St := [(4, dI 0)]
def Ad7  (z0 : Unit) : List Res := []
theorem A5b (x0 : List Ae) (r : Int) (h : vW x0 = some r) : CO 155 [.d (DS A_ x0), .d (.fn (.func 97) [] [])] [] (.d (I r)) [] := by
 unfold vW at h
 refine co 19 Tryz.func155 λ C hC => ?_
 refine ws Mq 26 [] [pl A_ x0] [] 0 [] (Sz x0 0 ()) (Zk 0 ()) hC [] ?_
 obtain ⟨w0, hm0, hret0, hnext0⟩ := Ar h
 clear h
 refine wc w0 (Acj) (Ad7) ?_ λ z0 hs0 => ?_
 ·refine wb ?_
  refine Bn 0 rfl λ hl0 => ?_
  refine wl (Sz x0) (Zk) hm0 (λ z0 hn0 => ?_) λ n0 a0 z0 w0b hi0 hx0 h hb0 hr0 => ?_
  ·clear hm0
   exact wx w0 (Acj) (Ad7) Mq 26 [false] [] [] 0 [] _ hC [pq (Be hl0)] hn0
  ·unfold Aep at h
   refine wn Mq 32 [true] [pt hx0 hl0, pc e97 (k97 a0 _ rfl) []] [] 0 [] [0, 1, 4, 5, 7, 8, 16] hC [pq (A9 hi0 hl0)] ?_
   rcases cB h with ⟨h1, h⟩ | ⟨h1, h⟩
   ·have hq := hret0 _ (hr0 _ (sI h).symm)
    replace hq := sI hq
    subst hq
    exact wr Mq 24 [true] [] [] 0 [] hC [pq h1]
   ·exact wx w0b (Sz x0 (n0 + 1)) (Zk (n0 + 1)) Mq 25 [false] [] [] 0 [] _ hC [pq h1] (sI h).symm
 ·have h := hnext0 _ hs0
  replace h := sI h
  subst h
  exact wr Mq 23 [] [] [] 0 [] hC []
theorem A68 : EN 155 := en Tryz.func155
theorem A8y (x0 : List A0) (x1c0c0 : Az) (r : Bool × Az) (h : vD x0 x1c0c0 = some r) : CO 61 [.d (DS B2 x0), .d (.fn (.func 62) [] [.o 0 0])] [.box 126 [.fn (.func 58) [] [.o 1 0]], .box 40 (d40 x1c0c0)] (.d (Bo r.1)) [.box 126 [.fn (.func 58) [] [.o 1 0]], .box 40 (d40 r.2)] := by
 unfold vD at h
 refine co 9 Tryz.func61 λ C hC => ?_
 obtain ⟨y1, h2, h⟩ := Ax h
 replace h := sI h
 subst h
 exact wr [0, 1, 4] 25 [] [pc A7l (A5o x0 x1c0c0 _ h2) [0, 1]] [] 2 [0, 1] hC []
theorem A9i : EN 61 := en Tryz.func61
theorem Ahs (x0 : A2) (x1 : Int) (r : Bool) (h : Io x0 x1 = some r) : CO 221 [.d (.ip [.v (.int .i64 x0.Ak.Al), .s (x0.Ak.Ad.map Bi), .s (x0.Ak.Ac.map Br), .s (x0.Ak.Af.map q65), .v (.int .i64 x0.Ak.Phase), .v (.int .i64 x0.Ak.An), .s (x0.Aw.Ag.map pB), .s (x0.Aw.Ac.map A_), .s (x0.Aw.Aq.map pI), .s (x0.Aw.Ao.map q86), .v (.int .i64 x0.time)]), .d (I x1)] [] (.d (Bo r)) [] := by
 unfold Io at h
 refine co 19 Tryz.func221 λ C hC => ?_
 obtain ⟨y1, h2, y3, h4, h⟩ := Bc h
 replace h := sI h
 subst h
 exact wr [0, 1, 4] 25 [] [pc Bav (A_e x0.Ak x1 _ h2) [], pr pB h4] [] 0 [] hC []
theorem Ail : EN 221 := en Tryz.func221
theorem qO (x0 : Int) (x1 : Int) (x2 : Ay) (r : Bool × Ay) (h : Lf x0 x1 x2 = some r) : CO 231 [.d (I x0), .d (I x1), .d (.o 0 0)] (.box 211 [.o 1 0] :: .box 235 (zb x2.Ak [.os 2, .os 3, .os 4, .os 5, .os 6]) :: zp x2.Aw [v6_ x2.acts]) (.d (Bo r.1)) (.box 211 [.o 1 0] :: .box 235 (zb r.2.Ak [.os 2, .os 3, .os 4, .os 5, .os 6]) :: zp r.2.Aw [v6_ r.2.acts]) := by
 unfold Lf at h
 refine co 13 Tryz.func231 λ C hC => ?_
 obtain ⟨y1, h2, h⟩ := Ax h
 replace h := sI h
 subst h
 exact wr [0, 1, 2, 5] 25 [] [pb Kj (Kf x2.Aw x0 x1 _ h2)] [] 7 n7_ hC []
theorem uA : EN 231 := en Tryz.func231
def I7 : List Nat := [0, 1, 2, 3, 8, 9, 14, 34]
def Sn (x1 : Int) (x2 : Int) (z0 : Int × (List Int)) : St := [(0, dS 0), (1, dI x1), (2, dI x2), (3, .d (.fn (.func 233) [] [.o 1 0])), (8, dI z0.1)]
def Y_ (x3c0 : Aa) (z0 : Int × (List Int)) : List Res := [v0_ z0.2, .box 29 (d29 x3c0)]
def Aby  (z0 : Int × (List Int)) : St := []
def Adm (x3c0 : Aa) (z0 : Int × (List Int)) : List Res := [v0_ z0.2, .box 29 (d29 x3c0)]
def Sm (x1 : Int) (x2 : Int) (z0 : Int × (List Int)) (z1 : Int × (List Int)) : St := [(0, dS 0), (1, dI x1), (2, dI x2), (3, .d (.fn (.func 233) [] [.o 1 0])), (8, dI z0.1), (9, dI z1.1)]
def Y9 (x3c0 : Aa) (z1 : Int × (List Int)) : List Res := [v0_ z1.2, .box 29 (d29 x3c0)]
def Abx (x1 : Int) (x2 : Int) (z0 : Int × (List Int)) (z1 : Int × (List Int)) : St := [(0, dS 0), (1, dI x1), (2, dI x2), (3, .d (.fn (.func 233) [] [.o 1 0])), (8, dI z0.1)]
def Adl (x3c0 : Aa) (z1 : Int × (List Int)) : List Res := [v0_ z1.2, .box 29 (d29 x3c0)]
theorem Auy (x0 : List Int) (x1 : Int) (x2 : Int) (x3c0 : Aa) (r : (List Int) × Aa) (h : U1 x0 x1 x2 x3c0 = some r) : CO 246 [.d (.os 0), .d (I x1), .d (I x2), .d (.fn (.func 233) [] [.o 1 0])] [v0_ x0, .box 29 (d29 x3c0)] (.tup []) [v0_ r.1, .box 29 (d29 r.2)] := by
 unfold U1 at h
 refine co 53 Tryz.func246 λ C hC => ?_
 refine ws I7 23 [] [] [] 2 [0, 1] (Sn x1 x2 (w64 (x1 + 1), x0)) (Y_ x3c0 (w64 (x1 + 1), x0)) hC [] ?_
 obtain ⟨w0, hm0, hret0, hnext0⟩ := Ar h
 clear h
 refine wc w0 (Aby) (Adm x3c0) ?_ λ z0 hs0 => ?_
 ·refine wb ?_
  refine ww (Sn x1 x2) (Y_ x3c0) hm0 λ z0 w0b h hb0 hr0 => ?_
  unfold U0 at h
  rcases cB h with ⟨h1, h⟩ | ⟨h1, h⟩
  ·refine ws I7 30 [true] [] [] 2 [0, 1] (Sm x1 x2 z0 (z0.1, z0.2)) (Y9 x3c0 (z0.1, z0.2)) hC [pq h1] ?_
   obtain ⟨w1, hm1, hret1, hnext1⟩ := Ar h
   clear h
   refine wc w1 (Abx x1 x2 z0) (Adl x3c0) ?_ λ z1 hs1 => ?_
   ·refine wb ?_
    refine ww (Sm x1 x2 z0) (Y9 x3c0) hm1 λ z1 w1b h hb1 hr1 => ?_
    unfold Ol at h
    obtain ⟨y8, h9, y10, h11, y12, h13, h⟩ := B0 h
    refine wn I7 24 [] [pR pI h9, pN pI h9, pR pI h11, pN pI h11, pv A56 (λ hg => A39 y8 y10 x3c0 _ (Bb h13 hg))] [] 2 [0, 1] [0, 1, 2, 3, 8, 9, 34] hC [] ?_
    rcases cB h with ⟨h14, h⟩ | ⟨h14, h⟩
    ·obtain ⟨y15, h16, y17, h18, y19, h20, h⟩ := B0 h
     obtain ⟨y21, h22, y23, h24, h⟩ := Bc h
     exact wx w1b (Sm x1 x2 z0) (Y9 x3c0) I7 28 [true] [pr pI h16, pn pI h16, pr pI h18, pn pI h18, pr pI h18, pu pI h18 h20, pr pI h22, pu pI h22 h24] [] 2 [0, 1] _ hC [pq h14] (sI h).symm
    ·exact wx w1 (Abx x1 x2 z0) (Adl x3c0) I7 23 [false] [] [] 2 [0, 1] (z1.1, z1.2) hC [pq h14] (hb1 _ (sI h).symm)
   ·have h := hnext1 _ hs1
    exact wx w0b (Sn x1 x2) (Y_ x3c0) I7 23 [] [] [] 2 [0, 1] _ hC [] (sI h).symm
  ·exact wx w0 (Aby) (Adm x3c0) I7 26 [false] [] [] 2 [0, 1] (z0.1, z0.2) hC [pq h1] (hb0 _ (sI h).symm)
 ·have h := hnext0 _ hs0
  replace h := sI h
  subst h
  exact wf I7 20 [] [] [] 2 [0, 1] hC []
theorem Avs : EN 246 := en Tryz.func246
def Mp : List Nat := [0, 1, 4, 5, 7, 8, 9, 16]
def Sy (x0 : List Int) (n0 : Nat) (z0 : Unit) : St := [(0, dS 0), (1, .d (.fn (.func 209) [] [.o 1 0])), (4, dI 0), (7, dI (ln x0)), (8, dI (cnt 0 n0))]
def Zj (x0 : List Int) (x1c0 : Ai) (n0 : Nat) (z0 : Unit) : List Res := [v0_ x0, .box 84 (d84 x1c0)]
def Aci  (z0 : Unit) : St := [(4, dI 0)]
def Ad6 (x0 : List Int) (x1c0 : Ai) (z0 : Unit) : List Res := [v0_ x0, .box 84 (d84 x1c0)]
theorem A5a (x0 : List Int) (x1c0 : Ai) (r : Int × Ai) (h : vV x0 x1c0 = some r) : CO 158 [.d (.os 0), .d (.fn (.func 209) [] [.o 1 0])] [v0_ x0, .box 84 (d84 x1c0)] (.d (I r.1)) [v0_ x0, .box 84 (d84 r.2)] := by
 unfold vV at h
 refine co 19 Tryz.func158 λ C hC => ?_
 refine ws Mp 26 [] [pl pI x0] [] 2 [0, 1] (Sy x0 0 ()) (Zj x0 x1c0 0 ()) hC [] ?_
 obtain ⟨w0, hm0, hret0, hnext0⟩ := Ar h
 clear h
 refine wc w0 (Aci) (Ad6 x0 x1c0) ?_ λ z0 hs0 => ?_
 ·refine wb ?_
  refine Co 0 0 rfl rfl λ hl0 => ?_
  refine wl (Sy x0) (Zj x0 x1c0) hm0 (λ z0 hn0 => ?_) λ n0 a0 z0 w0b hi0 hx0 h hb0 hr0 => ?_
  ·clear hm0
   exact wx w0 (Aci) (Ad6 x0 x1c0) Mp 26 [false] [] [] 2 [0, 1] _ hC [pq (Be hl0)] hn0
  ·unfold Ou at h
   obtain ⟨y1, h2, h⟩ := Ax h
   refine wn Mp 32 [true] [pr pI (Bp hx0 hl0), pn pI (Bp hx0 hl0), pb Avv (Au1 a0 x1c0 _ h2)] [] 2 [0, 1] [0, 1, 4, 5, 7, 8, 16] hC [pq (A9 hi0 hl0)] ?_
   rcases cB h with ⟨h3, h⟩ | ⟨h3, h⟩
   ·have hq := hret0 _ (hr0 _ (sI h).symm)
    replace hq := sI hq
    subst hq
    exact wr Mp 24 [true] [] [] 2 [0, 1] hC [pq h3]
   ·exact wx w0b (Sy x0 (n0 + 1)) (Zj x0 x1c0 (n0 + 1)) Mp 25 [false] [] [] 2 [0, 1] _ hC [pq h3] (sI h).symm
 ·have h := hnext0 _ hs0
  replace h := sI h
  subst h
  exact wr Mp 23 [] [] [] 2 [0, 1] hC []
theorem A67 : EN 158 := en Tryz.func158
theorem k86 (x0 : Int) (r : (List A0)) (h : F86 x0 = some r) : CO 86 [.d (I x0)] [] (.d (.os 0)) [v3_ r] := by
 unfold F86 at h
 refine co 7 Tryz.func86 λ C hC => ?_
 obtain ⟨y1, h2, h⟩ := Ax h
 replace h := sI h
 subst h
 exact wr [0, 2] 25 [] [pc Bbr (Baa [(⟨(-1), (-1)⟩ : A0)] x0 _ h2) []] [] 0 [0] hC []
theorem e86 : EN 86 := en Tryz.func86
theorem A_k (x0 : Aa) (x1 : Ab) (x2 : Ai) (x3 : Int) (r : Bool) (h : Alc x0 x1 x2 x3 = some r) : CO 215 [.agg (d29 x0), .agg (d36 x1), .agg (d84 x2), .d (I x3)] [] (.d (Bo r)) [] := by
 unfold Alc at h
 refine co 58 Tryz.func215 λ C hC => ?_
 obtain ⟨y1, h2, y3, h4, y5, h6, y7, h8, h⟩ := Cn h
 obtain ⟨y9, h10, y11, h12, y13, h14, y15, h16, h⟩ := Cn h
 replace h := sI h
 subst h
 exact wr [0, 1, 2, 3, 4, 5, 6, 8, 9, 10, 11] 31 [] [pc Arg (Aq1 x0 x3 _ h2) [], pr Bi h4, pc Kj (Kf x1 1 x3 _ h6) [], pw Kj (λ hg => Kf x1 2 y1 _ (Bb h8 hg)) [], pw Kj (λ hg => Kf x1 3 y3.A _ (Bb h10 hg)) [], pw Yy (λ hg => Yq x2.Al y3.A _ (Bb h12 hg)) [], pw Yy (λ hg => Yq x2.Ac x3 _ (Bb h14 hg)) [], pR A_ h16] [] 0 [] hC []
theorem Ba1 : EN 215 := en Tryz.func215
def Kd : List Nat := [0, 1, 3, 4, 5, 10, 11, 21, 31, 44, 59]
def Agw (y1 : Int × Ah) (z0 : Bool) : St := [(0, dO 0 0), (3, dO 1 0), (4, dO 2 0), (5, dO 3 0), (10, dI y1.1), (11, dB z0)]
def Ajn (x1 : Aa) (y1 : Int × Ah) (z0 : Bool) : List Res := [.box 90 (d90 y1.2), .box 29 (d29 x1), .box 49 [I 0, I 0, I 0], .box 49 [I y1.1, I 0, I 0]]
def Agv (y1 : Int × Ah) (z1 : Bool) : St := [(0, dO 0 0), (3, dO 1 0), (4, dO 2 0), (5, dO 3 0), (10, dI y1.1), (21, dB z1)]
def Ajm (x1 : Aa) (y1 : Int × Ah) (z1 : Bool) : List Res := [.box 90 (d90 y1.2), .box 29 (d29 x1), .box 49 [I 0, I 0, I 0], .box 49 [I y1.1, I 0, I 0]]
theorem k33 (x0 : Ah) (x1 : Aa) (r : Ap × Ah) (h : F33 x0 x1 = some r) : CO 33 [.d (.o 0 0), .agg (d29 x1)] [.box 90 (d90 x0)] (.agg (d49 r.1)) [.box 90 (d90 r.2)] := by
 unfold F33 at h
 refine co 69 Tryz.func33 λ C hC => ?_
 obtain ⟨y1, h2, h⟩ := Ax h
 refine wn Kd 32 [] [pc e78 (k78 x0 1 9 _ h2) [0]] [] 1 n4_ [0, 3, 4, 5, 10, 11] hC [] ?_
 obtain ⟨w0, h, hret0, hnext0⟩ := Ar h
 refine wc w0 (Agw y1) (Ajn x1 y1) ?_ λ z0 hs0 => ?_
 ·unfold Ak6 at h
  rcases cB h with ⟨h3, h⟩ | ⟨h3, h⟩
  ·exact wx w0 (Agw y1) (Ajn x1 y1) Kd 23 [true] [] [] 1 n4_ _ hC [pq h3] (sI h).symm
  ·exact wx w0 (Agw y1) (Ajn x1 y1) Kd 23 [false] [] [] 1 n4_ _ hC [pq h3] (sI h).symm
 ·clear h; have h := hnext0 _ hs0
  rcases cB h with ⟨h4, h⟩ | ⟨h4, h⟩
  ·obtain ⟨y5, h6, h⟩ := Ax h
   replace h := sI h
   subst h
   exact wr Kd 26 [true] [pl Bi x1.Ad, pc e32 (k32 y1.2 (w64 ((ln x1.Ad) + 1)) _ h6) [0]] [] 1 [0] hC [pq h4]
  ·refine wn Kd 25 [false] [] [] 1 n4_ [0, 3, 4, 5, 10, 21] hC [pq h4] ?_
   obtain ⟨w1, h, hret1, hnext1⟩ := Ar h
   refine wc w1 (Agv y1) (Ajm x1 y1) ?_ λ z1 hs1 => ?_
   ·unfold Ak5 at h
    rcases cB h with ⟨h7, h⟩ | ⟨h7, h⟩
    ·exact wx w1 (Agv y1) (Ajm x1 y1) Kd 23 [true] [] [] 1 n4_ _ hC [pq h7] (sI h).symm
    ·exact wx w1 (Agv y1) (Ajm x1 y1) Kd 23 [false] [] [] 1 n4_ _ hC [pq h7] (sI h).symm
   ·clear h; have h := hnext1 _ hs1
    rcases cB h with ⟨h8, h⟩ | ⟨h8, h⟩
    ·obtain ⟨y9, h10, h⟩ := Ax h
     replace h := sI h
     subst h
     exact wr Kd 26 [true] [pl Br x1.Ac, pc e32 (k32 y1.2 (w64 ((ln x1.Ac) + 1)) _ h10) [0]] [] 1 [0] hC [pq h8]
    ·rcases cB h with ⟨h11, h⟩ | ⟨h11, h⟩
     ·obtain ⟨y12, h13, y14, h15, h⟩ := Bc h
      replace h := sI h
      subst h
      exact wr Kd 29 [false, true] [pl q65 x1.Af, pc e32 (k32 y1.2 (w64 ((ln x1.Af) + 1)) _ h13) [0], pc e40 (k40 y12.2 [0, 5, 20, 41] _ h15) [0]] [] 1 [0] hC [pq h8, pq h11]
     ·rcases cB h with ⟨h16, h⟩ | ⟨h16, h⟩
      ·obtain ⟨y17, h18, y19, h20, h⟩ := Bc h
       replace h := sI h
       subst h
       exact wr Kd 32 [false, false, true] [pl Br x1.Ac, pc e32 (k32 y1.2 (w64 ((ln x1.Ac) + 1)) _ h18) [0], pc e32 (k32 y17.2 (w64 (x1.Al + 1)) _ h20) [0]] [] 1 [0] hC [pq h8, pq h11, pq h16]
      ·rcases cB h with ⟨h21, h⟩ | ⟨h21, h⟩
       ·obtain ⟨y22, h23, y24, h25, h⟩ := Bc h
        replace h := sI h
        subst h
        exact wr Kd 38 [false, false, false, true, true] [pc e78 (k78 y1.2 1 4 _ h23) [0], pc e32 (k32 y22.2 4 _ h25) [0]] [] 1 [0] hC [pq h8, pq h11, pq h16, pq h21, pq h21]
       ·rcases cB h with ⟨h26, h⟩ | ⟨h26, h⟩
        ·obtain ⟨y27, h28, y29, h30, h⟩ := Bc h
         replace h := sI h
         subst h
         exact wr Kd 38 [false, false, false, false, true] [pc e78 (k78 y1.2 1 4 _ h28) [0], pc e32 (k32 y27.2 4 _ h30) [0]] [] 1 [0] hC [pq h8, pq h11, pq h16, pq h21, pq h26]
        ·replace h := sI h
         subst h
         exact wr Kd 38 [false, false, false, false, false] [] [] 1 [0] hC [pq h8, pq h11, pq h16, pq h21, pq h26]
theorem e33 : EN 33 := en Tryz.func33
theorem A5c (x0 : Df) (r : Bool) (h : A0x x0 = r) : CO 150 [.agg (Ark x0)] [] (.d (Bo r)) [] := by
 unfold A0x at h
 refine co 6 Tryz.func150 λ C hC => ?_
 subst h
 exact wr n3_ 25 [] [pc Bbq (A_9 x0 _ rfl) []] [] 0 [] hC []
theorem A69 : EN 150 := en Tryz.func150
theorem A5r (rec46 : Aa -> Ab -> Int -> Option Bool) (ih46 : ∀ (x0 : Aa) (x1 : Ab) (x2 : Int) (r : Bool), rec46 x0 x1 x2 = some r -> CO 46 [.agg (d29 x0), .agg (d36 x1), .d (I x2)] [] (.d (Bo r)) []) (x0 : List Int) (x1c0 : Aa) (x1c1 : Ab) (r : Bool × Aa × Ab) (h : Al1 rec46 x0 x1c0 x1c1 = some r) : CO 104 [.d (DS pI x0), .d (.fn (.func 105) [] [.o 0 0, .o 1 0])] [.box 29 (d29 x1c0), .box 36 (d36 x1c1)] (.d (Bo r.1)) [.box 29 (d29 r.2.1), .box 36 (d36 r.2.2)] := by
 unfold Al1 at h
 refine co 9 Tryz.func104 λ C hC => ?_
 obtain ⟨y1, h2, h⟩ := Ax h
 replace h := sI h
 subst h
 exact wr [0, 1, 4] 25 [] [pc A66 (A49 rec46 ih46 x0 x1c0 x1c1 _ h2) [0, 1]] [] 2 [0, 1] hC []
theorem A7o : EN 104 := en Tryz.func104
theorem A_4 (x0 : Int) (x1 : Int) (r : Int × Int) (h : A0v x0 x1 = some r) : CO 160 [.d (I x0), .d (I x1)] [] (.tup [.d (I r.1), .d (I r.2)]) [] := by
 unfold A0v at h
 refine co 11 Tryz.func160 λ C hC => ?_
 obtain ⟨y1, h2, h⟩ := Ax h
 replace h := sI h
 subst h
 exact wr [0, 1, 4, 5] 25 [] [pc A6o (A4r x0 x1 _ h2) []] [] 0 [] hC []
theorem Bbl : EN 160 := en Tryz.func160
def Ahk : List Nat := [0, 1, 2, 3, 4, 6, 7, 8, 32, 43]
theorem k27 (x0 : Aa) (x1 : Ab) (x2 : Int) (r : Int × Bool) (h : F27 x0 x1 x2 = some r) : CO 27 [.agg (d29 x0), .agg (d36 x1), .d (I x2)] [] (.tup [.d (I r.1), .d (Bo r.2)]) [] := by
 unfold F27 at h
 refine co 50 Tryz.func27 λ C hC => ?_
 obtain ⟨y1, h2, y3, h4, h⟩ := Bc h
 refine wn Ahk 26 [] [pc e53 (k53 x0 x1 _ h2) [], pL_ [(((y1 != 0) || (decide (x2 < 0))), false)] Br x0.Ac, pR A_ h4] [] 0 [0, 1] [2, 3, 4, 6, 7, 32] hC [] ?_
 rcases cB h with ⟨h5, h⟩ | ⟨h5, h⟩
 ·replace h := sI h
  subst h
  exact wr Ahk 24 [true] [] [] 0 [] hC [pq h5]
 ·obtain ⟨y6, h7, y8, h9, y10, h11, h⟩ := B0 h
  refine wn Ahk 28 [false] [pc e77 (k77 x0 2 x2 _ h7) [], pr pI h9, pn pI h9, pr pB h11] [] 0 [0] [3, 6, 7, 8, 43] hC [pq h5] ?_
  rcases cB h with ⟨h12, h⟩ | ⟨h12, h⟩
  ·replace h := sI h
   subst h
   exact wr Ahk 24 [true] [] [] 0 [] hC [pq h12]
  ·obtain ⟨y13, h14, h⟩ := Ax h
   replace h := sI h
   subst h
   exact wr Ahk 25 [false] [pr Bi h14] [] 0 [] hC [pq h12]
theorem e27 : EN 27 := en Tryz.func27
def Yn : List Nat := [0, 1, 2, 3, 4, 6, 7, 9, 24, 27, 28, 29, 30, 37]
def Af6 (y4 : (List Int)) (n0 : Nat) (z0 : Unit) : St := [(3, dO 0 0), (4, dO 1 0), (6, dI 0), (7, dB false), (27, dS 2), (28, dI (ln y4)), (29, dI (cnt 0 n0))]
def Asa (x0 : Aa) (x1 : Ab) (y4 : (List Int)) (n0 : Nat) (z0 : Unit) : List Res := [.box 29 (d29 x0), .box 36 (d36 x1), v0_ y4]
def At7  (z0 : Unit) : St := [(6, dI 0), (7, dB false)]
def Axh  (z0 : Unit) : List Res := []
theorem k48 (x0 : Aa) (x1 : Ab) (x2 : Int) (r : Int × Bool) (h : F48 x0 x1 x2 = some r) : CO 48 [.agg (d29 x0), .agg (d36 x1), .d (I x2)] [] (.tup [.d (I r.1), .d (Bo r.2)]) [] := by
 unfold F48 at h
 refine co 45 Tryz.func48 λ C hC => ?_
 obtain ⟨y1, h2, h⟩ := Ax h
 refine wn Yn 26 [] [pc e53 (k53 x0 x1 _ h2) [], pL_ [(((y1 != 0) || (decide (x2 < 0))), false)] q65 x0.Af] [] 0 [0, 1] [2, 3, 4, 6, 7, 24] hC [] ?_
 rcases cB h with ⟨h3, h⟩ | ⟨h3, h⟩
 ·replace h := sI h
  subst h
  exact wr Yn 24 [true] [] [] 0 [] hC [pq h3]
 ·obtain ⟨y4, h5, h⟩ := Ax h
  refine ws Yn 26 [false] [pc e77 (k77 x0 3 x2 _ h5) [], pl pI y4] [] 0 n3_ (Af6 y4 0 ()) (Asa x0 x1 y4 0 ()) hC [pq h3] ?_
  obtain ⟨w0, hm0, hret0, hnext0⟩ := Ar h
  clear h
  refine wc w0 (At7) (Axh) ?_ λ z0 hs0 => ?_
  ·refine wb ?_
   refine Co 27 2 rfl rfl λ hl0 => ?_
   refine wl (Af6 y4) (Asa x0 x1 y4) hm0 (λ z0 hn0 => ?_) λ n0 a0 z0 w0b hi0 hx0 h hb0 hr0 => ?_
   ·clear hm0
    exact wx w0 (At7) (Axh) Yn 26 [false] [] [] 0 [] _ hC [pq (Be hl0)] hn0
   ·unfold vF at h
    obtain ⟨y6, h7, h⟩ := Ax h
    rcases cB h with ⟨h8, h⟩ | ⟨h8, h⟩
    ·obtain ⟨y9, h10, h⟩ := Ax h
     have hq := hret0 _ (hr0 _ (sI h).symm)
     replace hq := sI hq
     subst hq
     exact wr Yn 35 [true, true] [pr pI (Bp hx0 hl0), pn pI (Bp hx0 hl0), pr pB h7, pr Bi h10] [] 0 [] hC [pq (A9 hi0 hl0), pq h8]
    ·exact wx w0b (Af6 y4 (n0 + 1)) (Asa x0 x1 y4 (n0 + 1)) Yn 36 [true, false] [pr pI (Bp hx0 hl0), pn pI (Bp hx0 hl0), pr pB h7] [] 0 n3_ _ hC [pq (A9 hi0 hl0), pq h8] (sI h).symm
  ·have h := hnext0 _ hs0
   replace h := sI h
   subst h
   exact wr Yn 23 [] [] [] 0 [] hC []
theorem e48 : EN 48 := en Tryz.func48
def O4 : List Nat := [0, 1, 2, 3, 5, 6, 7, 29, 43, 44, 45, 46, 56, 57, 58, 59, 71]
def Af0 (x0 : Aa) (n0 : Nat) (z0 : Bool) : St := [(1, dO 0 0), (2, dI 0), (3, dB z0), (43, .d (DS Br x0.Ac)), (44, dI (ln x0.Ac)), (45, dI (cnt 0 n0))]
def Ar4 (x0 : Aa) (n0 : Nat) (z0 : Bool) : List Res := [.box 29 (d29 x0)]
def Atw  (z0 : Bool) : St := [(1, dO 0 0), (2, dI 0), (3, dB z0)]
def Aw6 (x0 : Aa) (z0 : Bool) : List Res := [.box 29 (d29 x0)]
def Afz (x0 : Aa) (n1 : Nat) (z1 : Bool) : St := [(2, dI 0), (3, dB z1), (56, .d (DS q65 x0.Af)), (57, dI (ln x0.Af)), (58, dI (cnt 0 n1))]
def Ar3  (n1 : Nat) (z1 : Bool) : List Res := []
def Atv  (z1 : Bool) : St := [(2, dI 0), (3, dB z1)]
def Aw5  (z1 : Bool) : List Res := []
theorem k85 (x0 : Aa) (r : Int) (h : F85 x0 = some r) : CO 85 [.agg (d29 x0)] [] (.d (I r)) [] := by
 unfold F85 at h
 refine co 72 Tryz.func85 λ C hC => ?_
 refine wn O4 26 [] [pc e99 (k99 x0.Al 1 6 _ rfl) [], pL_ [(!(F99 x0.Al 1 6), false)] Bi x0.Ad, pL_ [(((!(F99 x0.Al 1 6)) || (decide ((ln x0.Ad) > 24))), false)] Br x0.Ac, pL_ [((((!(F99 x0.Al 1 6)) || (decide ((ln x0.Ad) > 24))) || (decide ((ln x0.Ac) > 8))), false)] q65 x0.Af] [] 0 [0] [1, 2, 29] hC [] ?_
 rcases cB h with ⟨h1, h⟩ | ⟨h1, h⟩
 ·replace h := sI h
  subst h
  exact wr O4 24 [true] [] [] 0 [] hC [pq h1]
 ·obtain ⟨y2, h3, h⟩ := Ax h
  refine ws O4 28 [false] [pc Bbu (Bad x0 _ h3) [], ⟨.when [(y2, true)] (.call 99 [dI x0.Phase, dI 0, dI 1800] [] (dB (F99 x0.Phase 0 1800)) [] []), λ hg => ⟨e99, (k99 x0.Phase 0 1800 _ rfl)⟩⟩, ⟨.when [((y2 && (F99 x0.Phase 0 1800)), true)] (.call 99 [dI x0.An, dI 0, dI 6000] [] (dB (F99 x0.An 0 6000)) [] []), λ hg => ⟨e99, (k99 x0.An 0 6000 _ rfl)⟩⟩, pl Br x0.Ac] [] 0 [0] (Af0 x0 0 ((y2 && (F99 x0.Phase 0 1800)) && (F99 x0.An 0 6000))) (Ar4 x0 0 ((y2 && (F99 x0.Phase 0 1800)) && (F99 x0.An 0 6000))) hC [pq h1] ?_
  obtain ⟨w0, hm0, hret0, hnext0⟩ := Ar h
  clear h
  refine wc w0 (Atw) (Aw6 x0) ?_ λ z0 hs0 => ?_
  ·refine wb ?_
   refine Bn 43 rfl λ hl0 => ?_
   refine wl (Af0 x0) (Ar4 x0) hm0 (λ z0 hn0 => ?_) λ n0 a0 z0 w0b hi0 hx0 h hb0 hr0 => ?_
   ·clear hm0
    exact wx w0 (Atw) (Aw6 x0) O4 26 [false] [] [] 0 [0] _ hC [pq (Be hl0)] hn0
   ·unfold Ax2 at h
    exact wx w0b (Af0 x0 (n0 + 1)) (Ar4 x0 (n0 + 1)) O4 33 [true] [pt hx0 hl0, ⟨.when [(z0, true)] (.call 137 [.agg (A7q a0)] [] (dB (Aa9 a0)) [] []), λ hg => ⟨Bbt, (Bac a0 _ rfl)⟩⟩] [] 0 [0] _ hC [pq (A9 hi0 hl0)] (sI h).symm
  ·have h := hnext0 _ hs0
   refine ws O4 24 [] [pl q65 x0.Af] [] 0 [] (Afz x0 0 z0) (Ar3 0 z0) hC [] ?_
   obtain ⟨w1, hm1, hret1, hnext1⟩ := Ar h
   clear h
   refine wc w1 (Atv) (Aw5) ?_ λ z1 hs1 => ?_
   ·refine wb ?_
    refine Bn 56 rfl λ hl1 => ?_
    refine wl (Afz x0) (Ar3) hm1 (λ z1 hn1 => ?_) λ n1 a1 z1 w1b hi1 hx1 h hb1 hr1 => ?_
    ·clear hm1
     exact wx w1 (Atv) (Aw5) O4 26 [false] [] [] 0 [] _ hC [pq (Be hl1)] hn1
    ·unfold Akq at h
     obtain ⟨y4, h5, h⟩ := Ax h
     exact wx w1b (Afz x0 (n1 + 1)) (Ar3 (n1 + 1)) O4 33 [true] [pt hx1 hl1, pw Bbs (λ hg => Bab a1 (cnt 0 n1) _ (Bb h5 hg)) []] [] 0 [] _ hC [pq (A9 hi1 hl1)] (sI h).symm
   ·have h := hnext1 _ hs1
    rcases cB h with ⟨h6, h⟩ | ⟨h6, h⟩
    ·replace h := sI h
     subst h
     exact wr O4 27 [true] [] [] 0 [] hC [pq h6]
    ·replace h := sI h
     subst h
     exact wr O4 28 [false] [] [] 0 [] hC [pq h6]
theorem e85 : EN 85 := en Tryz.func85
theorem A8r (x0 : List Ae) (r : Bool) (h : Xb x0 = some r) : CO 96 [.d (DS A_ x0), .d (.fn (.func 97) [] [])] [] (.d (Bo r)) [] := by
 unfold Xb at h
 refine co 9 Tryz.func96 λ C hC => ?_
 obtain ⟨y1, h2, h⟩ := Ax h
 replace h := sI h
 subst h
 exact wr [0, 1, 4] 25 [] [pc A68 (A5b x0 _ h2) []] [] 0 [] hC []
theorem A9b : EN 96 := en Tryz.func96
theorem A41 (x0 : A2) (x1 : Int) (r : Int × A2) (h : Ns x0 x1 = some r) : CO 185 [.d (.o 0 0), .d (I x1)] (.box 186 (zb x0.Ak [.os 1, .os 2, .os 3, .os 4, I x0.time]) :: zp x0.Aw []) (.d (I r.1)) (.box 186 (zb r.2.Ak [.os 1, .os 2, .os 3, .os 4, I r.2.time]) :: zp r.2.Aw []) := by
 unfold Ns at h
 refine co 53 Tryz.func185 λ C hC => ?_
 obtain ⟨y1, h2, y3, h4, h⟩ := Bc h
 refine wn [0, 1, 4, 5, 23, 43] 26 [] [pr A_ h2, pn A_ h2, pv Kj (λ hg => Kf x0.Aw 1 x1 _ (Bb h4 hg))] [] 5 n5_ [0, 1, 4, 23] hC [] ?_
 rcases cB h with ⟨h5, h⟩ | ⟨h5, h⟩
 ·replace h := sI h
  subst h
  exact wr [0, 1, 4, 5, 23, 43] 24 [true] [] [] 5 n5_ hC [pq h5]
 ·obtain ⟨y6, h7, y8, h9, h⟩ := Bc h
  refine wn [0, 1, 4, 5, 23, 43] 28 [false] [pr Br h7, pv Ail (λ hg => Ahs x0 x1 _ (Bb h9 hg))] [] 5 n6_ [0, 1, 4, 5, 43] hC [pq h5] ?_
  rcases cB h with ⟨h10, h⟩ | ⟨h10, h⟩
  ·obtain ⟨y11, h12, h⟩ := Ax h
   replace h := sI h
   subst h
   exact wr [0, 1, 4, 5, 23, 43] 27 [true] [pr A_ h2, pu A_ h2 h12] [] 5 n5_ hC [pq h10]
  ·obtain ⟨y13, h14, h⟩ := Ax h
   replace h := sI h
   subst h
   exact wr [0, 1, 4, 5, 23, 43] 27 [false] [pr A_ h2, pu A_ h2 h14] [] 5 n5_ hC [pq h10]
theorem A6y : EN 185 := en Tryz.func185
theorem A40 (x0 : A2) (x1 : Int) (r : Int × A2) (h : Nr x0 x1 = some r) : CO 186 [.d (.o 0 0), .d (I x1)] (.box 186 (zb x0.Ak [.os 1, .os 2, .os 3, .os 4, I x0.time]) :: zp x0.Aw []) (.d (I r.1)) (.box 186 (zb r.2.Ak [.os 1, .os 2, .os 3, .os 4, I r.2.time]) :: zp r.2.Aw []) := by
 unfold Nr at h
 refine co 34 Tryz.func186 λ C hC => ?_
 obtain ⟨y1, h2, y3, h4, h⟩ := Bc h
 refine wn [0, 1, 4, 5, 30] 28 [] [pr A_ h2, pn A_ h2, ⟨.when [((y1.State != 1), true)] (.row (x0.Aw.Ac.map A_) (((Int.toNat x1) : Nat) : Int) (A_ y1)), λ hg => J9 h2⟩, pv Ail (λ hg => Ahs x0 x1 _ (Bb h4 hg))] [] 5 n5_ [4, 5, 30] hC [] ?_
 rcases cB h with ⟨h5, h⟩ | ⟨h5, h⟩
 ·replace h := sI h
  subst h
  exact wr [0, 1, 4, 5, 30] 24 [true] [] [] 5 n5_ hC [pq h5]
 ·obtain ⟨y6, h7, h⟩ := Ax h
  replace h := sI h
  subst h
  exact wr [0, 1, 4, 5, 30] 27 [false] [pu A_ h2 h7] [] 5 n5_ hC [pq h5]
theorem A6x : EN 186 := en Tryz.func186
def Ps : List Nat := [0, 1, 2, 3, 4, 5, 7, 12, 20]
theorem A4n (x0 : Ay) (x1 : Aj) (r : Bool × Ay) (h : Ve x0 x1 = some r) : CO 205 [.d (.o 0 0), .agg (O9 x1)] (.box 235 (zb x0.Ak [.os 1, .os 2, .os 3, .os 4, .os 5]) :: zp x0.Aw [v6_ x0.acts]) (.d (Bo r.1)) (.box 235 (zb r.2.Ak [.os 1, .os 2, .os 3, .os 4, .os 5]) :: zp r.2.Aw [v6_ r.2.acts]) := by
 unfold Ve at h
 refine co 45 Tryz.func205 λ C hC => ?_
 obtain ⟨y1, h2, h⟩ := Ax h
 refine wn Ps 29 [] [pc uA (qO 3 x1.A x0 _ h2) [6, 0, 1, 2, 3, 4, 5]] [] 6 n8_ [2, 3, 4, 5, 7] hC [] ?_
 rcases cB h with ⟨h3, h⟩ | ⟨h3, h⟩
 ·replace h := sI h
  subst h
  exact wr Ps 24 [true] [] [] 6 n6_ hC [pq h3]
 ·rcases cB h with ⟨h4, h⟩ | ⟨h4, h⟩
  ·obtain ⟨y5, h6, h⟩ := Ax h
   replace h := sI h
   subst h
   exact wr Ps 27 [false, true] [pc uA (qO 3 x1.B y1.2 _ h6) [6, 0, 1, 2, 3, 4, 5]] [] 6 n6_ hC [pq h3, pq h4]
  ·rcases cB h with ⟨h7, h⟩ | ⟨h7, h⟩
   ·obtain ⟨y8, h9, y10, h11, h⟩ := Bc h
    replace h := sI h
    subst h
    exact wr Ps 30 [false, false, true] [pc uA (qO 1 x1.B y1.2 _ h9) [6, 0, 1, 2, 3, 4, 5], pR A_ h11, pN A_ h11] [] 6 n6_ hC [pq h3, pq h4, pq h7]
   ·obtain ⟨y12, h13, h⟩ := Ax h
    replace h := sI h
    subst h
    exact wr Ps 32 [false, false, false] [pc uA (qO 4 x1.B y1.2 _ h13) [6, 0, 1, 2, 3, 4, 5]] [] 6 n6_ hC [pq h3, pq h4, pq h7]
theorem A6k : EN 205 := en Tryz.func205
def Mg : List Nat := [0, 1, 2, 6, 7, 8, 9, 13, 30, 35, 54]
def So (x1 : Int) (z0 : Sg9) : St := [(0, dS 0), (1, dI x1), (2, .d (.fn (.func 233) [] [.o 1 0])), (6, dI 20), (7, dI z0.1), (8, dI z0.2.1)]
def Za  (z0 : Sg9) : List Res := [v0_ z0.2.2.1, .box 29 [I (g3_ z0), DS Bi (g4_ z0), DS Br (g5_ z0), DS q65 (g6_ z0), I (g7_ z0), I (Ah0 z0)]]
def Ab0 (x1 : Int) (z0 : Sg9) : St := [(0, dS 0), (1, dI x1), (2, .d (.fn (.func 233) [] [.o 1 0])), (6, dI 20), (7, dI z0.1), (8, dI z0.2.1)]
def Ado  (z0 : Sg9) : List Res := [v0_ z0.2.2.1, .box 29 [I (g3_ z0), DS Bi (g4_ z0), DS Br (g5_ z0), DS q65 (g6_ z0), I (g7_ z0), I (Ah0 z0)]]
def Abr (x1 : Int) (z0 : Sg9) (z1 : Unit) : St := [(0, dS 0), (1, dI x1), (2, .d (.fn (.func 233) [] [.o 1 0])), (6, dI 20), (7, dI z0.1), (8, dI z0.2.1)]
def Ajr (y4 : (List Int) × Aa) (z1 : Unit) : List Res := [v0_ y4.1, .box 29 (d29 y4.2)]
def Abz  (z1 : Unit) : St := []
def Adn (y4 : (List Int) × Aa) (z1 : Unit) : List Res := [v0_ y4.1, .box 29 (d29 y4.2)]
def A9x (x1 : Int) (z2 : Unit) : St := [(0, dS 0), (1, dI x1), (2, .d (.fn (.func 233) [] [.o 1 0])), (6, dI 20), (7, dI 0), (8, dI 40)]
def Bcb (y4 : (List Int) × Aa) (z2 : Unit) : List Res := [v0_ y4.1, .box 29 (d29 y4.2)]
def A9y (x1 : Int) (z2 : Unit) : St := [(0, dS 0), (1, dI x1), (2, .d (.fn (.func 233) [] [.o 1 0])), (6, dI 20), (7, dI 0), (8, dI 40)]
def A9z (y4 : (List Int) × Aa) (z2 : Unit) : List Res := [v0_ y4.1, .box 29 (d29 y4.2)]
theorem A37 (x0 : List Int) (x1 : Int) (x2c0 : Aa) (r : (List Int) × Aa) (h : vL x0 x1 x2c0 = some r) : CO 242 [.d (.os 0), .d (I x1), .d (.fn (.func 233) [] [.o 1 0])] [v0_ x0, .box 29 (d29 x2c0)] (.tup []) [v0_ r.1, .box 29 (d29 r.2)] := by
 unfold vL at h
 refine co 63 Tryz.func242 λ C hC => ?_
 refine ws Mg 26 [] [] [] 2 [0, 1] (So x1 (0, 20, x0, x2c0.Al, x2c0.Ad, x2c0.Ac, x2c0.Af, x2c0.Phase, x2c0.An)) (Za (0, 20, x0, x2c0.Al, x2c0.Ad, x2c0.Ac, x2c0.Af, x2c0.Phase, x2c0.An)) hC [] ?_
 obtain ⟨w0, hm0, hret0, hnext0⟩ := Ar h
 clear h
 refine wc w0 (Ab0 x1) (Ado) ?_ λ z0 hs0 => ?_
 ·refine wb ?_
  refine ww (So x1) (Za) hm0 λ z0 w0b h hb0 hr0 => ?_
  unfold U3 at h
  rcases cB h with ⟨h1, h⟩ | ⟨h1, h⟩
  ·obtain ⟨y2, h3, h⟩ := Ax h
   exact wx w0b (So x1) (Za) Mg 33 [true] [pc Avs (Auy z0.2.2.1 z0.1 z0.2.1 (⟨(g3_ z0), (g4_ z0), (g5_ z0), (g6_ z0), (g7_ z0), (Ah0 z0)⟩ : Aa) _ h3) [0, 1]] [] 2 [0, 1] _ hC [pq h1] (sI h).symm
  ·exact wx w0 (Ab0 x1) (Ado) Mg 26 [false] [] [] 2 [0, 1] (z0.1, z0.2.1, z0.2.2.1, (g3_ z0), (g4_ z0), (g5_ z0), (g6_ z0), (g7_ z0), (Ah0 z0)) hC [pq h1] (hb0 _ (sI h).symm)
 ·have h := hnext0 _ hs0
  obtain ⟨y4, h5, h⟩ := Ax h
  refine ws Mg 23 [] [pc Avs (Auy z0.2.2.1 z0.1 x1 (⟨(g3_ z0), (g4_ z0), (g5_ z0), (g6_ z0), (g7_ z0), (Ah0 z0)⟩ : Aa) _ h5) [0, 1]] [] 2 [0, 1] (Abr x1 z0 ()) (Ajr y4 ()) hC [] ?_
  obtain ⟨w1, hm1, hret1, hnext1⟩ := Ar h
  clear h
  refine wc w1 (Abz) (Adn y4) ?_ λ z1 hs1 => ?_
  ·refine wb ?_
   refine ww (Abr x1 z0) (Ajr y4) hm1 λ z1 w1b h hb1 hr1 => ?_
   unfold U2 at h
   rcases cB h with ⟨h6, h⟩ | ⟨h6, h⟩
   ·cases h
   ·exact wx w1 (Abz) (Adn y4) Mg 26 [false] [] [] 2 [0, 1] () hC [pq h6] (hb1 _ (sI h).symm)
  ·have h := hnext1 _ hs1
   replace h := sI h
   subst h
   exact wf Mg 20 [] [] [] 2 [0, 1] hC []
theorem A54 : EN 242 := en Tryz.func242
def Kc : List Nat := [0, 1, 2, 3, 4, 6, 7, 8, 9, 10, 11, 12, 13, 14, 28, 37, 38, 39, 54, 64, 65, 66, 81]
def jP (x0 : Aa) (z0 : Int × (List Int)) : St := [(3, dO 0 0), (4, dO 1 0), (6, dO 2 0), (7, dB false), (8, dO 7 0), (37, dI (ln x0.Ac)), (38, dI z0.1)]
def Afi (x0 : Aa) (x1 : Ab) (y4 : (List Int)) (z0 : Int × (List Int)) : List Res := [.box 29 (d29 x0), .box 36 (d36 x1), .box 84 [.os 3, .os 4, .os 5], v0_ ([] : List Int), v0_ ([] : List Int), v0_ ([] : List Int), v0_ y4, .box 84 [.os 6, .os 8, .os 9], v0_ z0.2, v0_ ([] : List Int)]
def At1  (z0 : Int × (List Int)) : St := [(3, dO 0 0), (4, dO 1 0), (6, dO 2 0), (7, dB false), (8, dO 7 0)]
def Axb (x0 : Aa) (x1 : Ab) (y4 : (List Int)) (z0 : Int × (List Int)) : List Res := [.box 29 (d29 x0), .box 36 (d36 x1), .box 84 [.os 3, .os 4, .os 5], v0_ ([] : List Int), v0_ ([] : List Int), v0_ ([] : List Int), v0_ y4, .box 84 [.os 6, .os 8, .os 9], v0_ z0.2, v0_ ([] : List Int)]
def jO (x0 : Aa) (z1 : Int × (List Int)) : St := [(3, dO 0 0), (4, dO 1 0), (6, dO 2 0), (7, dB false), (8, dO 7 0), (64, dI (ln x0.Af)), (65, dI z1.1)]
def Afh (x0 : Aa) (x1 : Ab) (y4 : (List Int)) (z0 : Int × (List Int)) (z1 : Int × (List Int)) : List Res := [.box 29 (d29 x0), .box 36 (d36 x1), .box 84 [.os 3, .os 4, .os 5], v0_ ([] : List Int), v0_ ([] : List Int), v0_ ([] : List Int), v0_ y4, .box 84 [.os 6, .os 8, .os 9], v0_ z0.2, v0_ z1.2]
def At0  (z1 : Int × (List Int)) : St := [(6, dO 0 0), (7, dB false), (8, dO 5 0)]
def Axa (y4 : (List Int)) (z0 : Int × (List Int)) (z1 : Int × (List Int)) : List Res := [.box 84 [.os 1, .os 2, .os 3], v0_ ([] : List Int), v0_ ([] : List Int), v0_ ([] : List Int), v0_ y4, .box 84 [.os 4, .os 6, .os 7], v0_ z0.2, v0_ z1.2]
theorem k54 (x0 : Aa) (x1 : Ab) (x2 : Int) (r : Ai × Bool) (h : F54 x0 x1 x2 = some r) : CO 54 [.agg (d29 x0), .agg (d36 x1), .d (I x2)] [] (.tup [.agg [.os 0, .os 1, .os 2], .d (Bo r.2)]) [v0_ r.1.Al, v0_ r.1.Ac, v0_ r.1.Af] := by
 unfold F54 at h
 refine co 90 Tryz.func54 λ C hC => ?_
 obtain ⟨y1, h2, h⟩ := Ax h
 refine wn Kc 26 [] [pc e53 (k53 x0 x1 _ h2) []] [.ownb 2 0 3 1, .ownb 2 1 3 1, .ownb 2 2 3 1] 0 n6_ [2, 3, 4, 6, 7, 28] hC [] ?_
 rcases cB h with ⟨h3, h⟩ | ⟨h3, h⟩
 ·replace h := sI h
  subst h
  exact wr Kc 24 [true] [] [.ownb 2 0 3 1, .ownb 2 1 3 1, .ownb 2 2 3 1] 0 [6, 7, 8] hC [pq h3]
 ·obtain ⟨y4, h5, h⟩ := Ax h
  refine ws Kc 28 [false] [pc Bb3 (Bam x0 x1 x2 _ h5) [], pl Br x0.Ac] [.ownb 7 1 3 1, .ownb 7 2 3 1] 0 G7 (jP x0 (0, ([] : List Int))) (Afi x0 x1 y4 (0, ([] : List Int))) hC [pq h3] ?_
  obtain ⟨w0, hm0, hret0, hnext0⟩ := Ar h
  clear h
  refine wc w0 (At1) (Axb x0 x1 y4) ?_ λ z0 hs0 => ?_
  ·refine wb ?_
   refine ww (jP x0) (Afi x0 x1 y4) hm0 λ z0 w0b h hb0 hr0 => ?_
   unfold Aku at h
   rcases cB h with ⟨h6, h⟩ | ⟨h6, h⟩
   ·obtain ⟨y7, h8, y9, h10, h⟩ := Bc h
    refine wn Kc 34 [true] [pc e27 (k27 x0 x1 z0.1 _ h8) [], pv e55 (λ hg => k55 y4 y7.1 _ (Bb h10 hg))] [] 0 G7 [3, 4, 6, 7, 8, 9, 37, 38, 54] hC [pq h6] ?_
    rcases cB h with ⟨h11, h⟩ | ⟨h11, h⟩
    ·obtain ⟨y12, h13, h⟩ := Ax h
     exact wx w0b (jP x0) (Afi x0 x1 y4) Kc 25 [true] [pa pI 1 h13] [] 0 [0, 1, 2, 3, 4, 5, 6, 7, 10, 9] _ hC [pq h11] (sI h).symm
    ·exact wx w0b (jP x0) (Afi x0 x1 y4) Kc 25 [false] [] [] 0 G7 _ hC [pq h11] (sI h).symm
   ·exact wx w0 (At1) (Axb x0 x1 y4) Kc 26 [false] [] [] 0 G7 (z0.1, z0.2) hC [pq h6] (hb0 _ (sI h).symm)
  ·have h := hnext0 _ hs0
   refine ws Kc 24 [] [pl q65 x0.Af] [] 0 G7 (jO x0 (0, ([] : List Int))) (Afh x0 x1 y4 z0 (0, ([] : List Int))) hC [] ?_
   obtain ⟨w1, hm1, hret1, hnext1⟩ := Ar h
   clear h
   refine wc w1 (At0) (Axa y4 z0) ?_ λ z1 hs1 => ?_
   ·refine wb ?_
    refine ww (jO x0) (Afh x0 x1 y4 z0) hm1 λ z1 w1b h hb1 hr1 => ?_
    unfold Akt at h
    rcases cB h with ⟨h14, h⟩ | ⟨h14, h⟩
    ·obtain ⟨y15, h16, y17, h18, h⟩ := Bc h
     refine wn Kc 34 [true] [pc e48 (k48 x0 x1 z1.1 _ h16) [], pv e55 (λ hg => k55 y4 y15.1 _ (Bb h18 hg))] [] 0 G7 [3, 4, 6, 7, 8, 12, 64, 65, 81] hC [pq h14] ?_
     rcases cB h with ⟨h19, h⟩ | ⟨h19, h⟩
     ·obtain ⟨y20, h21, h⟩ := Ax h
      exact wx w1b (jO x0) (Afh x0 x1 y4 z0) Kc 25 [true] [pa pI 1 h21] [] 0 [0, 1, 2, 3, 4, 5, 6, 7, 8, 10] _ hC [pq h19] (sI h).symm
     ·exact wx w1b (jO x0) (Afh x0 x1 y4 z0) Kc 25 [false] [] [] 0 G7 _ hC [pq h19] (sI h).symm
    ·exact wx w1 (At0) (Axa y4 z0) Kc 26 [false] [] [] 0 [2, 3, 4, 5, 6, 7, 8, 9] (z1.1, z1.2) hC [pq h14] (hb1 _ (sI h).symm)
   ·have h := hnext1 _ hs1
    replace h := sI h
    subst h
    exact wr Kc 23 [] [] [] 0 [4, 6, 7] hC []
theorem e54 : EN 54 := en Tryz.func54
def I8 : List Nat := [0, 1, 4, 5, 6, 7, 12, 19, 29]
def Nx  (z0 : Int × Int × (List Int)) : St := [(0, dS 0), (1, .d (.fn (.func 209) [] [.o 1 0])), (4, .d (DS pI [])), (5, dI z0.1), (6, dI z0.2.1)]
def Rn (y1 : Int × Ai) (z0 : Int × Int × (List Int)) : List Res := [v0_ z0.2.2, .box 84 (d84 y1.2)]
def Ab7  (z0 : Int × Int × (List Int)) : St := [(0, dS 0), (4, .d (DS pI [])), (5, dI z0.1)]
def Adv (y1 : Int × Ai) (z0 : Int × Int × (List Int)) : List Res := [v0_ z0.2.2, .box 84 (d84 y1.2)]
theorem A4l (x0 : List Int) (x1c0 : Ai) (r : (List Int) × Ai) (h : Vc x0 x1c0 = some r) : CO 208 [.d (.os 0), .d (.fn (.func 209) [] [.o 1 0])] [.sl 3 1 (x0.map pI), .box 84 (d84 x1c0)] (.d (.os 2)) [.non, .box 84 (d84 r.2), .sl 3 1 (r.1.map pI)] := by
 unfold Vc at h
 refine co 42 Tryz.func208 λ C hC => ?_
 obtain ⟨y1, h2, h⟩ := Ax h
 refine wn I8 28 [] [pc A67 (A5a x0 x1c0 _ h2) [0, 1]] [] 2 [0, 1] [0, 1, 4, 5, 12] hC [] ?_
 rcases cB h with ⟨h3, h⟩ | ⟨h3, h⟩
 ·replace h := sI h
  subst h
  exact wr I8 24 [true] [] [.mv 0] 2 n3_ hC [pq h3]
 ·refine ws I8 26 [false] [] [] 2 [0, 1] (Nx (y1.1, w64 (y1.1 + 1), x0)) (Rn y1 (y1.1, w64 (y1.1 + 1), x0)) hC [pq h3] ?_
  obtain ⟨w0, hm0, hret0, hnext0⟩ := Ar h
  clear h
  refine wc w0 (Ab7) (Adv y1) ?_ λ z0 hs0 => ?_
  ·refine wb ?_
   refine ww (Nx) (Rn y1) hm0 λ z0 w0b h hb0 hr0 => ?_
   unfold Vb at h
   rcases cB h with ⟨h4, h⟩ | ⟨h4, h⟩
   ·obtain ⟨y5, h6, y7, h8, h⟩ := Bc h
    refine wn I8 32 [true] [pl pI z0.2.2, pr pI h6, pn pI h6, pb Avv (Au1 y5 y1.2 _ h8)] [] 2 [0, 1] [0, 1, 4, 5, 6, 7, 29] hC [pq h4] ?_
    rcases cB h with ⟨h9, h⟩ | ⟨h9, h⟩
    ·obtain ⟨y10, h11, y12, h13, h⟩ := Bc h
     exact wx w0b (Nx) (Rn y1) I8 27 [true] [pr pI h11, pu pI h11 h13] [] 2 [0, 1] _ hC [pq h9] (sI h).symm
    ·exact wx w0b (Nx) (Rn y1) I8 25 [false] [] [] 2 [0, 1] _ hC [pq h9] (sI h).symm
   ·exact wx w0 (Ab7) (Adv y1) I8 26 [false] [pl pI z0.2.2] [] 2 [0, 1] (z0.1, z0.2.1, z0.2.2) hC [pq h4] (hb0 _ (sI h).symm)
  ·have h := hnext0 _ hs0
   obtain ⟨u15, h14, u17, h16, h⟩ := Bc h
   replace h := sI h
   subst h
   (rw [List.map_take]; exact uS (bs := []) Hv I8 25 [] [.bnd (z0.2.2.map pI).length z0.1 (((z0.2.2.map pI).length : Nat) : Int) (ln z0.2.2), .eqr ((z0.2.2.map pI).take (Int.toNat z0.1) ++ (List.replicate ((Int.toNat (ln z0.2.2)) - (Int.toNat z0.1)) (pI 0) ++ (z0.2.2.map pI).drop ((Int.toNat z0.1) + ((Int.toNat (ln z0.2.2)) - (Int.toNat z0.1))))) ((Gn z0.2.2 (Int.toNat z0.1) ((Int.toNat (ln z0.2.2)) - (Int.toNat z0.1)) 0).map pI), .bnd ((Gn z0.2.2 (Int.toNat z0.1) ((Int.toNat (ln z0.2.2)) - (Int.toNat z0.1)) 0).map pI).length 0 z0.1 z0.1] [.trunc 4] [.tmp 4] 2 n3_ rfl hC ⟨Ei (by simp) (by simp) h14, Aai pI rfl, Ei (by simp) rfl h16, trivial⟩ trivial (by kernel_rfl))
theorem A6i : EN 208 := en Tryz.func208
def Aqw : List Nat := [0, 1, 2, 4, 6, 7, 8, 14]
def Agi  (z0 : Int × (List Int) × Int × (List Ap)) : St := [(0, dO 0 0), (4, dO 1 0), (6, .d (DS q49 [])), (7, dS 2), (8, dI z0.1)]
def Asl (x1 : Aa) (z0 : Int × (List Int) × Int × (List Ap)) : List Res := [.box 90 [DS pI z0.2.1, I z0.2.2.1], .box 29 (d29 x1), v6_ (Eo z0)]
def Aum  (z0 : Int × (List Int) × Int × (List Ap)) : St := [(6, .d (DS q49 [])), (7, dS 1)]
def Axw  (z0 : Int × (List Int) × Int × (List Ap)) : List Res := [.box 90 [DS pI z0.2.1, I z0.2.2.1], v6_ (Eo z0)]
theorem k10 (x0 : Ah) (x1 : Aa) (x2 : Int) (r : (List Ap) × Ah) (h : F10 x0 x1 x2 = some r) : CO 10 [.d (.o 0 0), .agg (d29 x1), .d (I x2)] [.box 90 (d90 x0)] (.d (.os 1)) [.box 90 (d90 r.2), v6_ r.1] := by
 unfold F10 at h
 refine co 24 Tryz.func10 λ C hC => ?_
 obtain ⟨y1, h2, h⟩ := Ax h
 refine ws Aqw 28 [] [pc e32 (k32 x0 (w64 (x2 + 1)) _ h2) [0]] [.own 7 49 3] 1 n3_ (Agi (y1.1, y1.2.L, y1.2.At, ([] : List Ap))) (Asl x1 (y1.1, y1.2.L, y1.2.At, ([] : List Ap))) hC [] ?_
 obtain ⟨w0, hm0, hret0, hnext0⟩ := Ar h
 clear h
 refine wc w0 (Aum) (Axw) ?_ λ z0 hs0 => ?_
 ·refine wb ?_
  refine ww (Agi) (Asl x1) hm0 λ z0 w0b h hb0 hr0 => ?_
  unfold Alz at h
  rcases cB h with ⟨h3, h⟩ | ⟨h3, h⟩
  ·obtain ⟨y4, h5, y6, h7, h⟩ := Bc h
   exact wx w0b (Agi) (Asl x1) Aqw 31 [true] [pc e33 (k33 (⟨z0.2.1, z0.2.2.1⟩ : Ah) x1 _ h5) [0], pa q49 3 h7] [] 1 [0, 1, 3] _ hC [pq h3] (sI h).symm
  ·exact wx w0 (Aum) (Axw) Aqw 26 [false] [] [] 1 [0, 2] (z0.1, z0.2.1, z0.2.2.1, (Eo z0)) hC [pq h3] (hb0 _ (sI h).symm)
 ·have h := hnext0 _ hs0
  replace h := sI h
  subst h
  exact wr Aqw 23 [] [] [] 1 [0, 1] hC []
theorem e10 : EN 10 := en Tryz.func10
def Pt : List Nat := [0, 1, 4, 5, 7, 8, 9, 16]
def Sw (x0 : List Df) (n0 : Nat) (z0 : Unit) : St := [(0, .d (DS Yi x0)), (1, .d (.fn (.func 150) [] [])), (4, dI 0), (7, dI (ln x0)), (8, dI (cnt 0 n0))]
def Zh  (n0 : Nat) (z0 : Unit) : List Res := []
def Ace  (z0 : Unit) : St := [(4, dI 0)]
def Ad2  (z0 : Unit) : List Res := []
theorem A4t (x0 : List Df) (r : Int) (h : Ali x0 = some r) : CO 196 [.d (DS Yi x0), .d (.fn (.func 150) [] [])] [] (.d (I r)) [] := by
 unfold Ali at h
 refine co 19 Tryz.func196 λ C hC => ?_
 refine ws Pt 26 [] [pl Yi x0] [] 0 [] (Sw x0 0 ()) (Zh 0 ()) hC [] ?_
 obtain ⟨w0, hm0, hret0, hnext0⟩ := Ar h
 clear h
 refine wc w0 (Ace) (Ad2) ?_ λ z0 hs0 => ?_
 ·refine wb ?_
  refine Bn 0 rfl λ hl0 => ?_
  refine wl (Sw x0) (Zh) hm0 (λ z0 hn0 => ?_) λ n0 a0 z0 w0b hi0 hx0 h hb0 hr0 => ?_
  ·clear hm0
   exact wx w0 (Ace) (Ad2) Pt 26 [false] [] [] 0 [] _ hC [pq (Be hl0)] hn0
  ·unfold Aen at h
   rcases cB h with ⟨h1, h⟩ | ⟨h1, h⟩
   ·have hq := hret0 _ (hr0 _ (sI h).symm)
    replace hq := sI hq
    subst hq
    exact wr Pt 35 [true, true] [pt hx0 hl0, pc A69 (A5c a0 _ rfl) []] [] 0 [] hC [pq (A9 hi0 hl0), pq h1]
   ·exact wx w0b (Sw x0 (n0 + 1)) (Zh (n0 + 1)) Pt 36 [true, false] [pt hx0 hl0, pc A69 (A5c a0 _ rfl) []] [] 0 [] _ hC [pq (A9 hi0 hl0), pq h1] (sI h).symm
 ·have h := hnext0 _ hs0
  replace h := sI h
  subst h
  exact wr Pt 23 [] [] [] 0 [] hC []
theorem A6q : EN 196 := en Tryz.func196
def Tv : List Nat := [0, 1, 2, 3, 4, 5, 6, 7, 8, 12, 38, 50, 51, 52, 53, 77]
def Af8 (x1 : Ab) (n0 : Nat) (z0 : Bool) : St := [(2, dO 0 0), (3, dO 1 0), (4, dI 0), (6, dB z0), (50, .d (DS pI x1.Aq)), (51, dI (ln x1.Aq)), (52, dI (cnt 0 n0))]
def Asb (x0 : Aa) (x1 : Ab) (n0 : Nat) (z0 : Bool) : List Res := [.box 29 (d29 x0), .box 36 (d36 x1)]
def At8  (z0 : Bool) : St := [(4, dI 0), (6, dB z0)]
def Axi  (z0 : Bool) : List Res := []
theorem k43 (x0 : Aa) (x1 : Ab) (r : Int) (h : F43 x0 x1 = some r) : CO 43 [.agg (d29 x0), .agg (d36 x1)] [] (.d (I r)) [] := by
 unfold F43 at h
 refine co 78 Tryz.func43 λ C hC => ?_
 obtain ⟨y1, h2, h⟩ := Ax h
 rcases cB h with ⟨h3, h⟩ | ⟨h3, h⟩
 ·replace h := sI h
  subst h
  exact wr Tv 31 [true] [pc e85 (k85 x0 _ h2) []] [] 0 [] hC [pq h3]
 ·refine wn Tv 33 [false] [pc e85 (k85 x0 _ h2) [], pl pB x1.Ag, pl Bi x0.Ad, pL_ [(((ln x1.Ag) != (ln x0.Ad)), false)] A_ x1.Ac, pL_ [(((ln x1.Ag) != (ln x0.Ad)), false)] Br x0.Ac, pL_ [((((ln x1.Ag) != (ln x0.Ad)) || ((ln x1.Ac) != (ln x0.Ac))), false)] pI x1.Aq, pL_ [((((ln x1.Ag) != (ln x0.Ad)) || ((ln x1.Ac) != (ln x0.Ac))), false)] q65 x0.Af] [] 0 [0, 1] [2, 3, 4, 38] hC [pq h3] ?_
  rcases cB h with ⟨h4, h⟩ | ⟨h4, h⟩
  ·replace h := sI h
   subst h
   exact wr Tv 24 [true] [] [] 0 [] hC [pq h4]
  ·obtain ⟨y5, h6, y7, h8, h⟩ := Bc h
   refine ws Tv 28 [false] [pc e95 (k95 x0 x1.Ao _ h6) [], pw A9b (λ hg => A8r x1.Ac _ (Bb h8 hg)) [], pl pI x1.Aq] [] 0 [0, 1] (Af8 x1 0 (y5 && (!y7))) (Asb x0 x1 0 (y5 && (!y7))) hC [pq h4] ?_
   obtain ⟨w0, hm0, hret0, hnext0⟩ := Ar h
   clear h
   refine wc w0 (At8) (Axi) ?_ λ z0 hs0 => ?_
   ·refine wb ?_
    refine Bn 50 rfl λ hl0 => ?_
    refine wl (Af8 x1) (Asb x0 x1) hm0 (λ z0 hn0 => ?_) λ n0 a0 z0 w0b hi0 hx0 h hb0 hr0 => ?_
    ·clear hm0
     exact wx w0 (At8) (Axi) Tv 26 [false] [] [] 0 [] _ hC [pq (Be hl0)] hn0
    ·unfold Ak1 at h
     obtain ⟨y9, h10, y11, h12, h⟩ := Bc h
     exact wx w0b (Af8 x1 (n0 + 1)) (Asb x0 x1 (n0 + 1)) Tv 33 [true] [pt hx0 hl0, pR q65 h10, ⟨.when [(z0, true)] (.call 99 [dI a0, dI 0, dI y9.Load] [] (dB (F99 a0 0 y9.Load)) [] []), λ hg => ⟨e99, (k99 a0 0 y9.Load _ rfl)⟩⟩, pw Bb7 (λ hg => Baq x0 x1 (cnt 0 n0) _ (Bb h12 hg)) []] [] 0 [0, 1] _ hC [pq (A9 hi0 hl0)] (sI h).symm
   ·have h := hnext0 _ hs0
    rcases cB h with ⟨h13, h⟩ | ⟨h13, h⟩
    ·replace h := sI h
     subst h
     exact wr Tv 27 [true] [] [] 0 [] hC [pq h13]
    ·replace h := sI h
     subst h
     exact wr Tv 28 [false] [] [] 0 [] hC [pq h13]
theorem e43 : EN 43 := en Tryz.func43
def Hy : List Nat := [0, 1, 4, 5, 6, 8, 13, 14, 15, 16, 32, 38, 39, 40, 41]
def N0 (x0 : Ay) (n0 : Nat) (z0 : Sg8) : St := [(0, dO 0 0), (1, .d (.fn (.func 205) [.o 0 0] [])), (4, dS 6), (13, .d (DS Bi x0.Ak.Ad)), (14, dI (ln x0.Ak.Ad)), (15, dI (cnt 0 n0))]
def Rt  (n0 : Nat) (z0 : Sg8) : List Res := [.box 235 [I z0.1, DS Bi z0.2.1, DS Br z0.2.2.1, DS q65 (g3_ z0), I (g4_ z0), I (g5_ z0), .os 7, .os 8, .os 9, .os 10, .os 11], .non, .non, .non, .non, .non, v0_ (g6_ z0), v2_ (g7_ z0), v5_ (g8_ z0), v0_ (g9_ z0), v4_ (Da z0), v6_ (Iu z0)]
def Acd  (z0 : Sg8) : St := [(0, dO 0 0), (4, dS 6)]
def Ad1  (z0 : Sg8) : List Res := [.box 235 [I z0.1, DS Bi z0.2.1, DS Br z0.2.2.1, DS q65 (g3_ z0), I (g4_ z0), I (g5_ z0), .os 7, .os 8, .os 9, .os 10, .os 11], .non, .non, .non, .non, .non, v0_ (g6_ z0), v2_ (g7_ z0), v5_ (g8_ z0), v0_ (g9_ z0), v4_ (Da z0), v6_ (Iu z0)]
def Sv (z0 : Sg8) (n1 : Nat) (z1 : Sg7) : St := [(0, dO 0 0), (38, dS 6), (39, dI (ln (g6_ z0))), (40, dI (cnt 0 n1))]
def Zg (z0 : Sg8) (n1 : Nat) (z1 : Sg7) : List Res := [.box 235 [I z1.1, DS Bi z1.2.1, DS Br z1.2.2.1, DS q65 (g3_ z1), I (g4_ z1), I (g5_ z1), .os 7, .os 8, .os 9, .os 10, .os 11], .non, .non, .non, .non, .non, v0_ (g6_ z0), v2_ (g6_ z1), v5_ (g7_ z1), v0_ (g8_ z1), v4_ (g9_ z1), v6_ (Fx z1)]
def Acc  (z1 : Sg7) : St := []
def Ad0  (z1 : Sg7) : List Res := [.box 235 [I z1.1, DS Bi z1.2.1, DS Br z1.2.2.1, DS q65 (g3_ z1), I (g4_ z1), I (g5_ z1), .os 6, .os 7, .os 8, .os 9, .os 10], .non, .non, .non, .non, .non, v2_ (g6_ z1), v5_ (g7_ z1), v0_ (g8_ z1), v4_ (g9_ z1), v6_ (Fx z1)]
theorem A4q (x0 : Ay) (r : Ay) (h : Vk x0 = some r) : CO 204 [.d (.o 0 0), .d (.fn (.func 205) [.o 0 0] [])] (.box 235 (zb x0.Ak [.os 1, .os 2, .os 3, .os 4, .os 5]) :: zp x0.Aw [v6_ x0.acts]) (.tup []) (.box 235 (zb r.Ak [.os 6, .os 7, .os 8, .os 9, .os 10]) :: .non :: .non :: .non :: .non :: .non :: zp r.Aw [v6_ r.acts]) := by
 unfold Vk at h
 refine co 48 Tryz.func204 λ C hC => ?_
 refine ws Hy 26 [] [pl Bi x0.Ak.Ad] [.own 4 3 1, .mv 1, .mv 2, .mv 3, .mv 4, .mv 5] 6 Ft (N0 x0 0 (zt x0.Ak (([] : List Int), zu x0.Aw x0.acts))) (Rt 0 (zt x0.Ak (([] : List Int), zu x0.Aw x0.acts))) hC [] ?_
 obtain ⟨w0, hm0, hret0, hnext0⟩ := Ar h
 clear h
 refine wc w0 (Acd) (Ad1) ?_ λ z0 hs0 => ?_
 ·refine wb ?_
  refine Bn 13 rfl λ hl0 => ?_
  refine wl (N0 x0) (Rt) hm0 (λ z0 hn0 => ?_) λ n0 a0 z0 w0b hi0 hx0 h hb0 hr0 => ?_
  ·clear hm0
   exact wx w0 (Acd) (Ad1) Hy 26 [false] [] [] 6 Ft _ hC [pq (Be hl0)] hn0
  ·unfold Vj at h
   obtain ⟨y1, h2, y3, h4, h⟩ := Bc h
   refine wn Hy 32 [true] [pt hx0 hl0, pr pB h2, pn pB h2, ⟨.whenR [(y1, true)] (.call 205 [dO 0 0, .agg (O9 a0)] [.box 235 [I z0.1, DS Bi z0.2.1, DS Br z0.2.2.1, DS q65 (g3_ z0), I (g4_ z0), I (g5_ z0), .os 1, .os 2, .os 3, .os 4, .os 5], v2_ (g7_ z0), v5_ (g8_ z0), v0_ (g9_ z0), v4_ (Da z0), v6_ (Iu z0)] (dB y3.1) (.box 235 (zb y3.2.Ak [.os 1, .os 2, .os 3, .os 4, .os 5]) :: zp y3.2.Aw [v6_ y3.2.acts]) [0, 7, 8, 9, 10, 11]), ⟨λ hg => ⟨A6k, (A4n (⟨(⟨z0.1, z0.2.1, z0.2.2.1, (g3_ z0), (g4_ z0), (g5_ z0)⟩ : Aa), (⟨(g7_ z0), (g8_ z0), (g9_ z0), (Da z0)⟩ : Ab), (Iu z0)⟩ : Ay) a0 _ (Bb h4 hg))⟩, λ hg => by have e := H5 h4 hg; subst e; rfl⟩⟩] [] 6 Ft [0, 1, 4, 5, 13, 14, 15, 32] hC [pq (A9 hi0 hl0)] ?_
   rcases cB h with ⟨h5, h⟩ | ⟨h5, h⟩
   ·obtain ⟨y6, h7, h⟩ := Ax h
    exact wx w0b (N0 x0 (n0 + 1)) (Rt (n0 + 1)) Hy 25 [true] [pa pI 1 h7] [] 6 [0, 1, 2, 3, 4, 5, 12, 7, 8, 9, 10, 11] _ hC [pq h5] (sI h).symm
   ·exact wx w0b (N0 x0 (n0 + 1)) (Rt (n0 + 1)) Hy 25 [false] [] [] 6 Ft _ hC [pq h5] (sI h).symm
 ·have h := hnext0 _ hs0
  refine ws Hy 23 [] [pl pI (g6_ z0)] [] 6 Ft (Sv z0 0 (z0.1, z0.2.1, z0.2.2.1, (g3_ z0), (g4_ z0), (g5_ z0), (g7_ z0), (g8_ z0), (g9_ z0), (Da z0), (Iu z0))) (Zg z0 0 (z0.1, z0.2.1, z0.2.2.1, (g3_ z0), (g4_ z0), (g5_ z0), (g7_ z0), (g8_ z0), (g9_ z0), (Da z0), (Iu z0))) hC [] ?_
  obtain ⟨w1, hm1, hret1, hnext1⟩ := Ar h
  clear h
  refine wc w1 (Acc) (Ad0) ?_ λ z1 hs1 => ?_
  ·refine wb ?_
   refine Co 38 6 rfl rfl λ hl1 => ?_
   refine wl (Sv z0) (Zg z0) hm1 (λ z1 hn1 => ?_) λ n1 a1 z1 w1b hi1 hx1 h hb1 hr1 => ?_
   ·clear hm1
    exact wx w1 (Acc) (Ad0) Hy 26 [false] [] [] 6 [0, 1, 2, 3, 4, 5, 7, 8, 9, 10, 11] _ hC [pq (Be hl1)] hn1
   ·unfold Oo at h
    obtain ⟨y8, h9, h⟩ := Ax h
    exact wx w1b (Sv z0 (n1 + 1)) (Zg z0 (n1 + 1)) Hy 33 [true] [pr pI (Bp hx1 hl1), pn pI (Bp hx1 hl1), pc Aij (Ahq (⟨(⟨z1.1, z1.2.1, z1.2.2.1, (g3_ z1), (g4_ z1), (g5_ z1)⟩ : Aa), (⟨(g6_ z1), (g7_ z1), (g8_ z1), (g9_ z1)⟩ : Ab), (Fx z1)⟩ : Ay) a1 _ h9) [0, 7, 8, 9, 10, 11]] [] 6 [0, 1, 2, 3, 4, 5, 6, 7, 8, 9, 10, 12] _ hC [pq (A9 hi1 hl1)] (sI h).symm
  ·have h := hnext1 _ hs1
   replace h := sI h
   subst h
   exact wf Hy 20 [] [] [] 6 Aqp hC []
theorem A6n : EN 204 := en Tryz.func204
theorem A4a (x0 : List Int) (x1c0 : Aa) (r : (List Int) × Aa) (h : vN x0 x1c0 = some r) : CO 232 [.d (.os 0), .d (.fn (.func 233) [] [.o 1 0])] [v0_ x0, .box 29 (d29 x1c0)] (.tup []) [v0_ r.1, .box 29 (d29 r.2)] := by
 unfold vN at h
 refine co 9 Tryz.func232 λ C hC => ?_
 obtain ⟨y1, h2, h⟩ := Ax h
 replace h := sI h
 subst h
 exact wf [0, 1] 21 [] [pl pI x0, pc A54 (A37 x0 (ln x0) x1c0 _ h2) [0, 1]] [] 2 [0, 1] hC []
theorem A57 : EN 232 := en Tryz.func232
def Ahj : List Nat := [0, 1, 2, 3, 4, 5, 6, 7, 9, 12, 17, 41, 42, 43, 44]
def Agb (x0 : Aa) (n0 : Nat) (z0 : (List Int)) : St := [(4, dO 0 0), (5, dI 0), (7, dO 8 0), (41, .d (DS q65 x0.Af)), (42, dI (ln x0.Af)), (43, dI (cnt 0 n0))]
def Ase (y5 : (List A0)) (y7 : List Bool) (y9 : (List Ae)) (n0 : Nat) (z0 : (List Int)) : List Res := (.box 40 [I 0, .os 1, .os 2, .os 3, .os 4, .os 5, .os 6] :: ze [v3_ ([] : List A0), v1_ ([] : List Bg), v3_ y5, .box 40 [I 0, .os 9, .os 10, .os 11, .os 12, .os 7, .os 13], v2_ y7, v5_ y9, v0_ z0, v4_ ([] : List Am), v1_ ([] : List Bg)])
def Aub  (z0 : (List Int)) : St := [(4, dO 0 0), (5, dI 0), (7, dO 8 0)]
def Axl (y5 : (List A0)) (y7 : List Bool) (y9 : (List Ae)) (z0 : (List Int)) : List Res := (.box 40 [I 0, .os 1, .os 2, .os 3, .os 4, .os 5, .os 6] :: ze [v3_ ([] : List A0), v1_ ([] : List Bg), v3_ y5, .box 40 [I 0, .os 9, .os 10, .os 11, .os 12, .os 7, .os 13], v2_ y7, v5_ y9, v0_ z0, v4_ ([] : List Am), v1_ ([] : List Bg)])
theorem k36 (x0 : Aa) (x1 : Bd) (r : Az × Int) (h : F36 x0 x1 = some r) : CO 36 [.agg (d29 x0), .agg (d31 x1)] [] (.tup [.agg [I r.1.Time, .os 0, .os 1, .os 2, .os 3, .os 4, .os 5], .d (I r.2)]) (zp r.1.Power [v3_ r.1.A5, v1_ r.1.A6]) := by
 unfold F36 at h
 refine co 58 Tryz.func36 λ C hC => ?_
 obtain ⟨y1, h2, h⟩ := Ax h
 rcases cB h with ⟨h3, h⟩ | ⟨h3, h⟩
 ·cases h
 ·refine wn Ahj 32 [false] [pc e85 (k85 x0 _ h2) [], pc e59 (k59 x1 _ rfl) []] [.ownb 2 1 4 1, .ownb 2 2 120 4, .ownb 2 3 3 1, .ownb 2 4 86 2, .ownb 2 5 130 2, .ownb 2 6 51 5] 0 [0, 2, 3, 4, 5, 6, 7, 8] [2, 4, 5, 17] hC [pq h3] ?_
  rcases cB h with ⟨h4, h⟩ | ⟨h4, h⟩
  ·cases h
  ·obtain ⟨y5, h6, y7, h8, y9, h10, h⟩ := B0 h
   refine ws Ahj 33 [false] [pc e86 (k86 x0.Al _ h6) [], pl Bi x0.Ad, ⟨.room ((ln x0.Ad) * (1 + 1)) (List.replicate (Int.toNat (ln x0.Ad)) (pB false)) (y7.map pB), Hi h8⟩, pl Br x0.Ac, pc e87 (k87 [(⟨0, 0, 5000, 0⟩ : Ae)] (ln x0.Ac) _ h10) [], pl q65 x0.Af] [.ownb 9 3 3 1, .ownb 9 4 86 2, .ownb 9 6 51 5] 0 [1, 2, 3, 4, 5, 6, 7, 8, 9, 10, 11, 12, 13, 14] (Agb x0 0 ([] : List Int)) (Ase y5 y7 y9 0 ([] : List Int)) hC [pq h4] ?_
   obtain ⟨w0, hm0, hret0, hnext0⟩ := Ar h
   clear h
   refine wc w0 (Aub) (Axl y5 y7 y9) ?_ λ z0 hs0 => ?_
   ·refine wb ?_
    refine Bn 41 rfl λ hl0 => ?_
    refine wl (Agb x0) (Ase y5 y7 y9) hm0 (λ z0 hn0 => ?_) λ n0 a0 z0 w0b hi0 hx0 h hb0 hr0 => ?_
    ·clear hm0
     exact wx w0 (Aub) (Axl y5 y7 y9) Ahj 26 [false] [] [] 0 A_a _ hC [pq (Be hl0)] hn0
    ·unfold Ax3 at h
     obtain ⟨y11, h12, h⟩ := Ax h
     exact wx w0b (Agb x0 (n0 + 1)) (Ase y5 y7 y9 (n0 + 1)) Ahj 33 [true] [pt hx0 hl0, pa pI 1 h12] [] 0 [0, 1, 2, 3, 4, 5, 6, 7, 8, 9, 10, 15, 12, 13] _ hC [pq (A9 hi0 hl0)] (sI h).symm
   ·have h := hnext0 _ hs0
    replace h := sI h
    subst h
    exact wr Ahj 23 [] [] [] 0 [9, 10, 11, 12, 7, 13] hC []
theorem e36 : EN 36 := en Tryz.func36
theorem A5d (x0 : List Df) (r : Bool) (h : Alq x0 = some r) : CO 149 [.d (DS Yi x0), .d (.fn (.func 150) [] [])] [] (.d (Bo r)) [] := by
 unfold Alq at h
 refine co 9 Tryz.func149 λ C hC => ?_
 obtain ⟨y1, h2, h⟩ := Ax h
 replace h := sI h
 subst h
 exact wr [0, 1, 4] 25 [] [pc A6q (A4t x0 _ h2) []] [] 0 [] hC []
theorem A7a : EN 149 := en Tryz.func149
def M4 : List Nat := [0, 1, 2, 3, 4, 5, 6, 7, 12, 16, 31]
def jT  (z0 : Int × (List Ai)) : St := [(2, dO 0 0), (3, dO 1 0), (4, .d (DS q84 [])), (5, dS 2), (6, dI z0.1)]
def Afm (x0 : Aa) (x1 : Ab) (z0 : Int × (List Ai)) : List Res := [.box 29 (d29 x0), .box 36 (d36 x1), v8_ z0.2]
def Aug  (z0 : Int × (List Ai)) : St := [(4, .d (DS q84 [])), (5, dS 0)]
def Axq  (z0 : Int × (List Ai)) : List Res := [v8_ z0.2]
theorem k25 (x0 : Aa) (x1 : Ab) (r : (List Ai)) (h : F25 x0 x1 = some r) : CO 25 [.agg (d29 x0), .agg (d36 x1)] [] (.d (.os 0)) [v8_ r] := by
 unfold F25 at h
 refine co 37 Tryz.func25 λ C hC => ?_
 obtain ⟨y1, h2, h⟩ := Ax h
 refine wn M4 26 [] [pc e53 (k53 x0 x1 _ h2) []] [] 0 [0, 1] [2, 3, 4, 12] hC [] ?_
 rcases cB h with ⟨h3, h⟩ | ⟨h3, h⟩
 ·replace h := sI h
  subst h
  exact wr M4 24 [true] [] [.own 4 84 3] 0 [2] hC [pq h3]
 ·refine ws M4 28 [false] [] [.own 5 84 3] 0 n3_ (jT (0, ([] : List Ai))) (Afm x0 x1 (0, ([] : List Ai))) hC [pq h3] ?_
  obtain ⟨w0, hm0, hret0, hnext0⟩ := Ar h
  clear h
  refine wc w0 (Aug) (Axq) ?_ λ z0 hs0 => ?_
  ·refine wb ?_
   refine ww (jT) (Afm x0 x1) hm0 λ z0 w0b h hb0 hr0 => ?_
   unfold Ak9 at h
   rcases cB h with ⟨h4, h⟩ | ⟨h4, h⟩
   ·obtain ⟨y5, h6, y7, h8, h⟩ := Bc h
    refine wn M4 32 [true] [pc e54 (k54 x0 x1 z0.1 _ h6) [], pr pI h8, pn pI h8] [] 0 n7_ [2, 3, 4, 5, 6, 7, 31] hC [pq h4] ?_
    rcases cB h with ⟨h9, h⟩ | ⟨h9, h⟩
    ·refine wn M4 1 [true] [] [.frz 3] 0 [0, 1, 2, 4, 5, 6] [2, 3, 4, 5, 6, 7] hC [pq h9] ?_
     refine wn M4 0 [] [] [.frz 3] 0 [0, 1, 2, 4, 5] [2, 3, 4, 5, 6, 7] hC [] ?_
     refine wn M4 0 [] [] [.frz 3] 0 [0, 1, 2, 4] [2, 3, 4, 5, 6, 7] hC [] ?_
     obtain ⟨y10, h11, h⟩ := Ax h
     exact wx w0b (jT) (Afm x0 x1) M4 24 [] [pa q84 3 h11] [] 0 [0, 1, 4] _ hC [] (sI h).symm
    ·exact wx w0b (jT) (Afm x0 x1) M4 25 [false] [] [] 0 n3_ _ hC [pq h9] (sI h).symm
   ·exact wx w0 (Aug) (Axq) M4 26 [false] [] [] 0 [2] (z0.1, z0.2) hC [pq h4] (hb0 _ (sI h).symm)
  ·have h := hnext0 _ hs0
   replace h := sI h
   subst h
   exact wr M4 23 [] [] [] 0 [0] hC []
theorem e25 : EN 25 := en Tryz.func25
def Hj : List Nat := [0, 1, 2, 3, 4, 5, 6, 7, 8, 9, 10, 11, 12, 13, 14, 18, 25, 26, 27, 28, 47, 48, 49, 58, 80, 81, 82, 91]
def Afx (y4 : (List Int)) (n0 : Nat) (z0 : (List Ai)) : St := [(2, dO 0 0), (3, dO 1 0), (4, .d (DS q84 [])), (5, dS 2), (6, dS 3), (25, dS 2), (26, dI (ln y4)), (27, dI (cnt 0 n0))]
def Ar1 (x0 : Aa) (x1 : Ab) (y4 : (List Int)) (n0 : Nat) (z0 : (List Ai)) : List Res := [.box 29 (d29 x0), .box 36 (d36 x1), v0_ y4, .dsl 84 3 4, .gh 3 [(3, 1), (3, 1), (3, 1)] (z0.map q84) none]
def Atr  (z0 : (List Ai)) : St := [(2, dO 0 0), (3, dO 1 0), (4, .d (DS q84 [])), (5, dS 2), (6, dS 3)]
def Aw1 (x0 : Aa) (x1 : Ab) (y4 : (List Int)) (z0 : (List Ai)) : List Res := [.box 29 (d29 x0), .box 36 (d36 x1), v0_ y4, .dsl 84 3 4, .gh 3 [(3, 1), (3, 1), (3, 1)] (z0.map q84) none]
def jL (x0 : Aa) (z1 : Int × (List Ai)) : St := [(2, dO 0 0), (3, dO 1 0), (4, .d (DS q84 [])), (5, dS 2), (6, dS 3), (47, dI (ln x0.Ac)), (48, dI z1.1)]
def Afe (x0 : Aa) (x1 : Ab) (y4 : (List Int)) (z1 : Int × (List Ai)) : List Res := [.box 29 (d29 x0), .box 36 (d36 x1), v0_ y4, .dsl 84 3 4, .gh 3 [(3, 1), (3, 1), (3, 1)] (z1.2.map q84) none]
def Atq  (z1 : Int × (List Ai)) : St := [(2, dO 0 0), (3, dO 1 0), (4, .d (DS q84 [])), (5, dS 2), (6, dS 3)]
def Aw0 (x0 : Aa) (x1 : Ab) (y4 : (List Int)) (z1 : Int × (List Ai)) : List Res := [.box 29 (d29 x0), .box 36 (d36 x1), v0_ y4, .dsl 84 3 4, .gh 3 [(3, 1), (3, 1), (3, 1)] (z1.2.map q84) none]
def jK (x0 : Aa) (z2 : Int × (List Ai)) : St := [(2, dO 0 0), (3, dO 1 0), (4, .d (DS q84 [])), (5, dS 2), (6, dS 3), (80, dI (ln x0.Af)), (81, dI z2.1)]
def Afd (x0 : Aa) (x1 : Ab) (y4 : (List Int)) (z2 : Int × (List Ai)) : List Res := [.box 29 (d29 x0), .box 36 (d36 x1), v0_ y4, .dsl 84 3 4, .gh 3 [(3, 1), (3, 1), (3, 1)] (z2.2.map q84) none]
def Atp  (z2 : Int × (List Ai)) : St := [(4, .d (DS q84 [])), (6, dS 0)]
def Awz  (z2 : Int × (List Ai)) : List Res := [.dsl 84 3 1, .gh 3 [(3, 1), (3, 1), (3, 1)] (z2.2.map q84) none]
theorem k89 (x0 : Aa) (x1 : Ab) (r : (List Ai)) (h : F89 x0 x1 = some r) : CO 89 [.agg (d29 x0), .agg (d36 x1)] [] (.d (.os 0)) [v8_ r] := by
 unfold F89 at h
 refine co 113 Tryz.func89 λ C hC => ?_
 obtain ⟨y1, h2, h⟩ := Ax h
 refine wn Hj 26 [] [pc e43 (k43 x0 x1 _ h2) []] [] 0 [0, 1] [2, 3, 4, 18] hC [] ?_
 rcases cB h with ⟨h3, h⟩ | ⟨h3, h⟩
 ·replace h := sI h
  subst h
  exact wr Hj 24 [true] [] [.own 4 84 3] 0 [2] hC [pq h3]
 ·obtain ⟨y4, h5, y6, h7, h⟩ := Bc h
  refine ws Hj 30 [false] [pc A7d (A5g x0 x1 _ h5) [], ⟨.roomZ (x0.Al * (72 + 1)) (List.replicate (Int.toNat x0.Al) (q84 (⟨([] : List Int), ([] : List Int), ([] : List Int)⟩ : Ai))) (y6.map q84), Tr h7⟩, pl pI y4] [.deep 3 [(3, 1), (3, 1), (3, 1)]] 0 n5_ (Afx y4 0 y6) (Ar1 x0 x1 y4 0 y6) hC [pq h3] ?_
  obtain ⟨w0, hm0, hret0, hnext0⟩ := Ar h
  clear h
  refine wc w0 (Atr) (Aw1 x0 x1 y4) ?_ λ z0 hs0 => ?_
  ·refine wb ?_
   refine Co 25 2 rfl rfl λ hl0 => ?_
   refine wl (Afx y4) (Ar1 x0 x1 y4) hm0 (λ z0 hn0 => ?_) λ n0 a0 z0 w0b hi0 hx0 h hb0 hr0 => ?_
   ·clear hm0
    exact wx w0 (Atr) (Aw1 x0 x1 y4) Hj 26 [false] [] [] 0 n5_ _ hC [pq (Be hl0)] hn0
   ·unfold Akp at h
    obtain ⟨y8, h9, y10, h11, y12, h13, h⟩ := B0 h
    exact wx w0b (Afx y4 (n0 + 1)) (Ar1 x0 x1 y4 (n0 + 1)) Hj 33 [true] [pr pI (Bp hx0 hl0), pn pI (Bp hx0 hl0), pr q84 h9, pn q84 h9, ⟨.appD (z0.map q84) (Int.toNat a0) (q84 y8) 0 (y8.Al.map pI) ([cnt 0 n0].map pI) 1 (((y8.Al.map pI).length + ([cnt 0 n0].map pI).length) * (8 + 1)) (y10.map pI), I2 1 (λ _ => rfl) h9 rfl h11⟩, pr q84 h9, ⟨.updD (z0.map q84) (Int.toNat a0) (Int.toNat a0) (q84 y8) (q84 (⟨y10, y8.Ac, y8.Af⟩ : Ai)) (y12.map q84), Iw h9 h13⟩] [] 0 [0, 1, 2, 3, 8] _ hC [pq (A9 hi0 hl0)] (sI h).symm
  ·have h := hnext0 _ hs0
   refine ws Hj 24 [] [pl Br x0.Ac] [] 0 n5_ (jL x0 (0, z0)) (Afe x0 x1 y4 (0, z0)) hC [] ?_
   obtain ⟨w1, hm1, hret1, hnext1⟩ := Ar h
   clear h
   refine wc w1 (Atq) (Aw0 x0 x1 y4) ?_ λ z1 hs1 => ?_
   ·refine wb ?_
    refine ww (jL x0) (Afe x0 x1 y4) hm1 λ z1 w1b h hb1 hr1 => ?_
    unfold Ako at h
    rcases cB h with ⟨h14, h⟩ | ⟨h14, h⟩
    ·obtain ⟨y15, h16, h⟩ := Ax h
     refine wn Hj 34 [true] [pc Azu (Azb x0 x1 z1.1 _ h16) []] [] 0 n5_ [2, 3, 4, 5, 6, 9, 10, 47, 48, 58] hC [pq h14] ?_
     rcases cB h with ⟨h17, h⟩ | ⟨h17, h⟩
     ·obtain ⟨y18, h19, y20, h21, y22, h23, y24, h25, h⟩ := Cn h
      exact wx w1b (jL x0) (Afe x0 x1 y4) Hj 25 [true] [pr pI h19, pn pI h19, pr pI h19, pn pI h19, pr q84 h21, pn q84 h21, ⟨.appD (z1.2.map q84) (Int.toNat y18) (q84 y20) 1 (y20.Ac.map pI) ([z1.1].map pI) 1 (((y20.Ac.map pI).length + ([z1.1].map pI).length) * (8 + 1)) (y22.map pI), I2 1 (λ _ => rfl) h21 rfl h23⟩, pr q84 h21, ⟨.updD (z1.2.map q84) (Int.toNat y18) (Int.toNat y18) (q84 y20) (q84 (⟨y20.Al, y22, y20.Af⟩ : Ai)) (y24.map q84), Iw h21 h25⟩] [] 0 [0, 1, 2, 3, 8] _ hC [pq h17] (sI h).symm
     ·exact wx w1b (jL x0) (Afe x0 x1 y4) Hj 25 [false] [] [] 0 n5_ _ hC [pq h17] (sI h).symm
    ·exact wx w1 (Atq) (Aw0 x0 x1 y4) Hj 26 [false] [] [] 0 n5_ (z1.1, z1.2) hC [pq h14] (hb1 _ (sI h).symm)
   ·have h := hnext1 _ hs1
    refine ws Hj 24 [] [pl q65 x0.Af] [] 0 n5_ (jK x0 (0, z1.2)) (Afd x0 x1 y4 (0, z1.2)) hC [] ?_
    obtain ⟨w2, hm2, hret2, hnext2⟩ := Ar h
    clear h
    refine wc w2 (Atp) (Awz) ?_ λ z2 hs2 => ?_
    ·refine wb ?_
     refine ww (jK x0) (Afd x0 x1 y4) hm2 λ z2 w2b h hb2 hr2 => ?_
     unfold Akn at h
     rcases cB h with ⟨h26, h⟩ | ⟨h26, h⟩
     ·obtain ⟨y27, h28, h⟩ := Ax h
      refine wn Hj 34 [true] [pc Azt (Aza x0 x1 z2.1 _ h28) []] [] 0 n5_ [2, 3, 4, 5, 6, 12, 13, 80, 81, 91] hC [pq h26] ?_
      rcases cB h with ⟨h29, h⟩ | ⟨h29, h⟩
      ·obtain ⟨y30, h31, y32, h33, y34, h35, y36, h37, h⟩ := Cn h
       exact wx w2b (jK x0) (Afd x0 x1 y4) Hj 25 [true] [pr pI h31, pn pI h31, pr pI h31, pn pI h31, pr q84 h33, pn q84 h33, ⟨.appD (z2.2.map q84) (Int.toNat y30) (q84 y32) 2 (y32.Af.map pI) ([z2.1].map pI) 1 (((y32.Af.map pI).length + ([z2.1].map pI).length) * (8 + 1)) (y34.map pI), I2 1 (λ _ => rfl) h33 rfl h35⟩, pr q84 h33, ⟨.updD (z2.2.map q84) (Int.toNat y30) (Int.toNat y30) (q84 y32) (q84 (⟨y32.Al, y32.Ac, y34⟩ : Ai)) (y36.map q84), Iw h33 h37⟩] [] 0 [0, 1, 2, 3, 8] _ hC [pq h29] (sI h).symm
      ·exact wx w2b (jK x0) (Afd x0 x1 y4) Hj 25 [false] [] [] 0 n5_ _ hC [pq h29] (sI h).symm
     ·exact wx w2 (Atp) (Awz) Hj 26 [false] [] [] 0 [3, 4] (z2.1, z2.2) hC [pq h26] (hb2 _ (sI h).symm)
    ·have h := hnext2 _ hs2
     refine wn Hj 1 [] [] [.flat 0] 0 [0] [4, 6] hC [] ?_
     obtain ⟨y38, h39, h⟩ := Ax h
     replace h := sI h
     subst h
     exact wr Hj 22 [] [pc Avx (Au3 z2.2 _ h39) [0]] [] 0 [1] hC []
theorem e89 : EN 89 := en Tryz.func89
def Aqv : List Nat := [0, 1, 2, 3, 4, 6, 7, 11]
theorem A5s (x0 : Aa) (x1 : Ab) (x2 : Int) (r : Int × Bool) (h : Al2 x0 x1 x2 = some r) : CO 101 [.agg (d29 x0), .agg (d36 x1), .d (I x2)] [] (.tup [.d (I r.1), .d (Bo r.2)]) [] := by
 unfold Al2 at h
 refine co 18 Tryz.func101 λ C hC => ?_
 obtain ⟨y1, h2, h⟩ := Ax h
 refine wn Aqv 26 [] [pc e43 (k43 x0 x1 _ h2) []] [] 0 [0, 1] [2, 3, 4, 6, 7, 11] hC [] ?_
 rcases cB h with ⟨h3, h⟩ | ⟨h3, h⟩
 ·replace h := sI h
  subst h
  exact wr Aqv 24 [true] [] [] 0 [] hC [pq h3]
 ·obtain ⟨y4, h5, h⟩ := Ax h
  replace h := sI h
  subst h
  exact wr Aqv 25 [false] [pc Azt (Aza x0 x1 x2 _ h5) []] [] 0 [] hC [pq h3]
theorem A7p : EN 101 := en Tryz.func101
def We : List Nat := [0, 1, 2, 3, 4, 6, 7, 8, 9, 13, 18, 29]
theorem A_t (x0 : Aa) (x1 : Ab) (x2 : Int) (r : Ab × Int) (h : Z4 x0 x1 x2 = some r) : CO 183 [.agg (d29 x0), .agg (d36 x1), .d (I x2)] [] (.tup [.agg [.os 0, .os 1, .os 2, .os 3], .d (I r.2)]) (zp r.1 []) := by
 unfold Z4 at h
 refine co 49 Tryz.func183 λ C hC => ?_
 obtain ⟨y1, h2, h⟩ := Ax h
 refine wn We 29 [] [pc e43 (k43 x0 x1 _ h2) []] [.ownb 2 0 4 1, .ownb 2 1 120 4, .ownb 2 2 3 1, .ownb 2 3 86 2] 0 n7_ [2, 3, 4, 6, 7, 8, 13] hC [] ?_
 rcases cB h with ⟨h3, h⟩ | ⟨h3, h⟩
 ·replace h := sI h
  subst h
  exact wr We 24 [true] [] [.ownb 2 0 4 1, .ownb 2 1 120 4, .ownb 2 2 3 1, .ownb 2 3 86 2] 0 [7, 8, 9, 10] hC [pq h3]
 ·rcases cB h with ⟨h4, h⟩ | ⟨h4, h⟩
  ·replace h := sI h
   subst h
   exact wr We 27 [false, true] [pL_ [(decide (x2 < 0), false)] Bi x0.Ad] [.ownb 2 0 4 1, .ownb 2 1 120 4, .ownb 2 2 3 1, .ownb 2 3 86 2] 0 [7, 8, 9, 10] hC [pq h3, pq h4]
  ·obtain ⟨y5, h6, y7, h8, h⟩ := Bc h
   refine wn We 27 [false, false] [pL_ [(decide (x2 < 0), false)] Bi x0.Ad, pr pB h6, pw Kj (λ hg => Kf x1 2 x2 _ (Bb h8 hg)) []] [] 0 [1, 2, 3, 4, 5, 6] [2, 4, 6, 7, 29] hC [pq h3, pq h4] ?_
   rcases cB h with ⟨h9, h⟩ | ⟨h9, h⟩
   ·replace h := sI h
    subst h
    exact wr We 24 [true] [] [.ownb 1 0 4 1, .ownb 1 1 120 4, .ownb 1 2 3 1, .ownb 1 3 86 2] 0 [6, 7, 8, 9] hC [pq h9]
   ·obtain ⟨y10, h11, y12, h13, y14, h15, h⟩ := B0 h
    replace h := sI h
    subst h
    exact wr We 30 [false] [pc Lp (Ll x1 _ h11) [], pr pB h13, pu pB h13 h15] [] 0 [6, 7, 8, 9] hC [pq h9]
theorem Bba : EN 183 := en Tryz.func183
def Aqq : List Nat := [0, 1, 2, 3, 4, 6, 7, 11]
theorem A4i (x0 : Aa) (x1 : Ab) (x2 : Int) (r : Int × Bool) (h : Z0 x0 x1 x2 = some r) : CO 217 [.agg (d29 x0), .agg (d36 x1), .d (I x2)] [] (.tup [.d (I r.1), .d (Bo r.2)]) [] := by
 unfold Z0 at h
 refine co 18 Tryz.func217 λ C hC => ?_
 obtain ⟨y1, h2, h⟩ := Ax h
 refine wn Aqq 26 [] [pc e43 (k43 x0 x1 _ h2) []] [] 0 [0, 1] [2, 3, 4, 6, 7, 11] hC [] ?_
 rcases cB h with ⟨h3, h⟩ | ⟨h3, h⟩
 ·replace h := sI h
  subst h
  exact wr Aqq 24 [true] [] [] 0 [] hC [pq h3]
 ·obtain ⟨y4, h5, h⟩ := Ax h
  replace h := sI h
  subst h
  exact wr Aqq 25 [false] [pc Azu (Azb x0 x1 x2 _ h5) []] [] 0 [] hC [pq h3]
theorem A6f : EN 217 := en Tryz.func217
def Qz : List Nat := [0, 1, 2, 3, 4, 5, 6, 7, 8, 9, 14, 20, 21, 22, 23, 29]
def V1 (x1 : Ab) (n0 : Nat) (z0 : (List Ae)) : St := [(4, dO 0 0), (5, dI 0), (7, dO 9 0), (20, .d (DS A_ x1.Ac)), (21, dI (ln x1.Ac)), (22, dI (cnt 0 n0))]
def uT (y4 : Ab) (n0 : Nat) (z0 : (List Ae)) : List Res := (.box 36 [.os 1, .os 2, .os 3, .os 4] :: ze [v2_ y4.Ag, v5_ z0, v0_ y4.Aq, v4_ y4.Ao, .box 36 [.os 5, .os 6, .os 7, .os 8]])
def Am0  (z0 : (List Ae)) : St := [(4, dO 0 0), (5, dI 0), (7, dO 9 0)]
def Aot (y4 : Ab) (z0 : (List Ae)) : List Res := (.box 36 [.os 1, .os 2, .os 3, .os 4] :: ze [v2_ y4.Ag, v5_ z0, v0_ y4.Aq, v4_ y4.Ao, .box 36 [.os 5, .os 6, .os 7, .os 8]])
theorem A_i (x0 : Aa) (x1 : Ab) (r : Ab × Int) (h : Zy x0 x1 = some r) : CO 222 [.agg (d29 x0), .agg (d36 x1)] [] (.tup [.agg [.os 0, .os 1, .os 2, .os 3], .d (I r.2)]) (zp r.1 []) := by
 unfold Zy at h
 refine co 45 Tryz.func222 λ C hC => ?_
 obtain ⟨y1, h2, h⟩ := Ax h
 refine wn Qz 28 [] [pc e43 (k43 x0 x1 _ h2) []] [.ownb 2 0 4 1, .ownb 2 1 120 4, .ownb 2 2 3 1, .ownb 2 3 86 2] 0 [1, 2, 3, 4, 5, 6] [3, 4, 5, 6, 14] hC [] ?_
 rcases cB h with ⟨h3, h⟩ | ⟨h3, h⟩
 ·replace h := sI h
  subst h
  exact wr Qz 24 [true] [] [.ownb 1 0 4 1, .ownb 1 1 120 4, .ownb 1 2 3 1, .ownb 1 3 86 2] 0 [6, 7, 8, 9] hC [pq h3]
 ·obtain ⟨y4, h5, h⟩ := Ax h
  refine ws Qz 28 [false] [pc Lp (Ll x1 _ h5) [], pl A_ x1.Ac] [] 0 [1, 2, 3, 4, 5, 6, 7, 8, 9, 10] (V1 x1 0 y4.Ac) (uT y4 0 y4.Ac) hC [pq h3] ?_
  obtain ⟨w0, hm0, hret0, hnext0⟩ := Ar h
  clear h
  refine wc w0 (Am0) (Aot y4) ?_ λ z0 hs0 => ?_
  ·refine wb ?_
   refine Bn 20 rfl λ hl0 => ?_
   refine wl (V1 x1) (uT y4) hm0 (λ z0 hn0 => ?_) λ n0 a0 z0 w0b hi0 hx0 h hb0 hr0 => ?_
   ·clear hm0
    exact wx w0 (Am0) (Aot y4) Qz 26 [false] [] [] 0 G7 _ hC [pq (Be hl0)] hn0
   ·unfold Xe at h
    rcases cB h with ⟨h6, h⟩ | ⟨h6, h⟩
    ·obtain ⟨y7, h8, y9, h10, h⟩ := Bc h
     exact wx w0b (V1 x1 (n0 + 1)) (uT y4 (n0 + 1)) Qz 36 [true, true] [pt hx0 hl0, pc Aik (Ahr (w64 (a0.Phase + (w64 (36 * (w64 (a0.An - 5000)))))) _ rfl) [], pr A_ h8, pu A_ h8 h10] [] 0 G7 _ hC [pq (A9 hi0 hl0), pq h6] (sI h).symm
    ·exact wx w0b (V1 x1 (n0 + 1)) (uT y4 (n0 + 1)) Qz 36 [true, false] [pt hx0 hl0] [] 0 G7 _ hC [pq (A9 hi0 hl0), pq h6] (sI h).symm
  ·have h := hnext0 _ hs0
   replace h := sI h
   subst h
   exact wr Qz 23 [] [] [] 0 [5, 6, 7, 8] hC []
theorem Baz : EN 222 := en Tryz.func222
def qF : List Nat := [0, 1, 2, 3, 4, 7, 10, 11, 12]
def yE (x0 : Aa) (z0 : Int × (List Int)) : St := [(1, dO 0 0), (2, .d (DS pI [])), (3, dS 1), (10, dI (ln x0.Af)), (11, dI z0.1)]
def Aju (x0 : Aa) (z0 : Int × (List Int)) : List Res := [.box 29 (d29 x0), v0_ z0.2]
def Am3  (z0 : Int × (List Int)) : St := [(1, dO 0 0), (2, .d (DS pI [])), (3, dS 1)]
def Aow (x0 : Aa) (z0 : Int × (List Int)) : List Res := [.box 29 (d29 x0), v0_ z0.2]
theorem A_m (x0 : Aa) (r : (List Int)) (h : Z1 x0 = some r) : CO 207 [.agg (d29 x0)] [] (.d (.os 0)) [v0_ r] := by
 unfold Z1 at h
 refine co 23 Tryz.func207 λ C hC => ?_
 obtain ⟨y1, h2, h⟩ := Ax h
 rcases cB h with ⟨h3, h⟩ | ⟨h3, h⟩
 ·replace h := sI h
  subst h
  exact wr qF 29 [true] [pc e85 (k85 x0 _ h2) []] [.own 2 3 1] 0 [1] hC [pq h3]
 ·refine ws qF 33 [false] [pc e85 (k85 x0 _ h2) [], pl q65 x0.Af] [.own 3 3 1] 0 [0, 1] (yE x0 (0, ([] : List Int))) (Aju x0 (0, ([] : List Int))) hC [pq h3] ?_
  obtain ⟨w0, hm0, hret0, hnext0⟩ := Ar h
  clear h
  refine wc w0 (Am3) (Aow x0) ?_ λ z0 hs0 => ?_
  ·refine wb ?_
   refine ww (yE x0) (Aju x0) hm0 λ z0 w0b h hb0 hr0 => ?_
   unfold Aau at h
   rcases cB h with ⟨h4, h⟩ | ⟨h4, h⟩
   ·obtain ⟨y5, h6, h⟩ := Ax h
    exact wx w0b (yE x0) (Aju x0) qF 33 [true] [pa pI 1 h6] [] 0 [0, 2] _ hC [pq h4] (sI h).symm
   ·exact wx w0 (Am3) (Aow x0) qF 26 [false] [] [] 0 [0, 1] (z0.1, z0.2) hC [pq h4] (hb0 _ (sI h).symm)
  ·have h := hnext0 _ hs0
   obtain ⟨y7, h8, h⟩ := Ax h
   replace h := sI h
   subst h
   exact wr qF 25 [] [pc A57 (A4a z0.2 x0 _ h8) [1, 0]] [] 0 [1] hC []
theorem Ba3 : EN 207 := en Tryz.func207
end Go.Proofs.YthgnbpdjncbkfaaGreat
