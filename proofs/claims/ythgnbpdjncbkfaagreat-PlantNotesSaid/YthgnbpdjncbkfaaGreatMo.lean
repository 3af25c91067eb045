import Derived.Test.YthgnbpdjncbkfaaGreatTy
set_option linter.unusedVariables false
namespace Go.Proofs.YthgnbpdjncbkfaaGreat
open Go.SL
abbrev Sg0 := Int × (List Bool) × (List Ag) × (List Int) × (List An) × (List Az) × (List A9)
abbrev Sg1 := Int × (List Int) × Int × (List Ak)
abbrev Sg2 := Int × (List Int) × Int × (List Ak) × (List A1)
abbrev Sg3 := Int × (List Int) × Int × (List Ak) × (List Bg)
abbrev Sg4 := Int × (List Int) × Int × (List Az)
abbrev Sg5 := Int × (List Int) × Int × (List Ag)
abbrev Sg6 := Int × (List Ak) × (List Bg) × (List A1) × Int × Int × (List Bool) × (List Ag) × (List Int) × (List An) × (List Ao)
abbrev Sg7 := Int × (List Ak) × (List Bg) × (List A1) × Int × Int × (List Int) × (List Bool) × (List Ag) × (List Int) × (List An) × (List Ao)
abbrev Sg8 := Int × Int × (List Int) × Int × (List Ak) × (List Bg) × (List A1) × Int × Int
abbrev Sg9 := Int × Int × (List Ak) × (List Bg) × (List A1) × Int × Int × (List Bool) × (List Ag) × (List Int) × (List An) × (List Az) × (List A9) × (List Bool) × (List A9) × (List Ab) × (List Int)
abbrev Ld := Int × Int × (List Ak) × (List Bg) × (List A1) × Int × Int × (List Bool) × (List Ag) × (List Int) × (List An) × (List Az) × (List A9) × (List A9) × (List Ab)
abbrev Aay := Int × Int × (List Ak) × (List Bg) × (List A1) × Int × Int × (List Az) × (List Bool) × (List Ag) × (List Int) × (List An) × (List Az) × (List A9) × (List A9) × (List Ab)
abbrev Ai1 := Aa × Bh × A0 × Ai
def F8 (x0 : List Int) : Option Ai :=
 (cutI x0 0 (min (x0.length : Int) 600)).bind λ y2 => some (⟨y2, 0⟩ : Ai)
def F80 (x0 : Int) (x1 : Int) : Option Int :=
 bif decide (x1 < 1) then some 0 else (nzI x1).bind λ u3 => (nzI x1).bind λ u5 => some (Int.tmod (w64 ((Int.tmod x0 x1) + x1)) x1)
def F32 (x0 : Ai) (x1 : Int) : Option (Int × Ai) :=
 bif decide (x0.At >= (x0.L.length : Int)) then some (0, x0) else (getI x0.L (w64 ((w64 (x0.At + 1)) - 1))).bind λ y2 => (F80 y2 x1).bind λ y4 => some (y4, (⟨x0.L, w64 (x0.At + 1)⟩ : Ai))
def F78 (x0 : Ai) (x1 : Int) (x2 : Int) : Option (Int × Ai) :=
 (F32 x0 (w64 ((w64 (x2 - x1)) + 1))).bind λ y1 => some (w64 (x1 + y1.1), y1.2)
def F40 (x0 : Ai) (x1 : List Int) : Option (Int × Ai) :=
 (F32 x0 (x1.length : Int)).bind λ y1 => (getI x1 y1.1).bind λ y3 => some (y3, y1.2)
def Ut (y1 : Int × Ai) (z0 : Sg1) : Option (Ctl (Sg1) Unit) :=
 bif decide (z0.1 < y1.1) then (F32 (⟨z0.2.1, z0.2.2.1⟩ : Ai) 6).bind λ y8 => bif decide (y8.1 < 5) then (F32 y8.2 z0.1).bind λ y11 => (appI 25 z0.2.2.2 [(⟨1, y11.1, z0.1⟩ : Ak)]).bind λ y13 => some (.next (w64 (z0.1 + 1), y11.2.L, y11.2.At, y13)) else some (.next (w64 (z0.1 + 1), y8.2.L, y8.2.At, z0.2.2.2)) else some (.brk (z0.1, z0.2.1, z0.2.2.1, z0.2.2.2))
def Akd (y1 : Int × Ai) (z0 : Sg1) (y15 : Int × Ai) : Option (Ctl ((List Ak)) Unit) :=
 bif ((decide (y1.1 > 2)) && (y15.1 == 1)) then (appI 25 z0.2.2.2 [(⟨1, 0, w64 (y1.1 - 1)⟩ : Ak)]).bind λ y18 => some (.next y18) else some (.next z0.2.2.2)
def Us (y1 : Int × Ai) (z2 : Sg3) : Option (Ctl (Sg3) Unit) :=
 bif decide (z2.1 > 0) then (F32 (⟨z2.2.1, z2.2.2.1⟩ : Ai) y1.1).bind λ y23 => (appI 25 z2.2.2.2.1 [(⟨2, y23.1, (z2.2.2.2.2.length : Int)⟩ : Ak)]).bind λ y25 => (F40 y23.2 [10, 50, 100]).bind λ y27 => (F40 y27.2 [0, 5, y27.1]).bind λ y29 => (F40 y29.2 [0, 1, 3]).bind λ y31 => (appI 25 z2.2.2.2.2 [(⟨y27.1, y29.1, y31.1⟩ : Bg)]).bind λ y33 => some (.next (w64 (z2.1 - 1), y31.2.L, y31.2.At, y25, y33)) else some (.brk (z2.1, z2.2.1, z2.2.2.1, z2.2.2.2.1, z2.2.2.2.2))
def Akc (y1 : Int × Ai) (z3 : Sg2) (y38 : Int × Ai) (y40 : List Ak) (y42 : Int × Ai) : Option (Ctl ((List Ak)) Unit) :=
 bif ((decide (y1.1 > 1)) && (y42.1 == 3)) then (nzI y1.1).bind λ u46 => (appI 25 y40 [(⟨3, Int.tmod (w64 (y38.1 + 1)) y1.1, (z3.2.2.2.2.length : Int)⟩ : Ak)]).bind λ y47 => some (.next y47) else some (.next y40)
def Aqn (z3 : Sg2) (y57 : Int × Ai) : Bool := ((decide ((z3.2.2.2.2.length : Int) > 0)) && (y57.1 == 3))
def Ur (y1 : Int × Ai) (z3 : Sg2) : Option (Ctl (Sg2) Unit) :=
 bif decide (z3.1 > 0) then (F32 (⟨z3.2.1, z3.2.2.1⟩ : Ai) y1.1).bind λ y38 => (appI 25 z3.2.2.2.1 [(⟨3, y38.1, (z3.2.2.2.2.length : Int)⟩ : Ak)]).bind λ y40 => (A3 [(decide (y1.1 > 1), true)] (F32 y38.2 4) (default, y38.2)).bind λ y42 => andThen (Akc y1 z3 y38 y40 y42) (λ _ => none) λ z4 => (F40 y42.2 [0, 5, 20, 40]).bind λ y49 => (F40 y49.2 [0, w64 (Int.tdiv y49.1 2), y49.1]).bind λ y51 => (F32 y51.2 3).bind λ y53 => (F78 y53.2 (-1) 2).bind λ y55 => (A3 [(decide ((z3.2.2.2.2.length : Int) > 0), true)] (F32 y55.2 4) (default, y55.2)).bind λ y57 => bif (Aqn z3 y57) then (F32 y57.2 (z3.2.2.2.2.length : Int)).bind λ y60 => (appI 57 z3.2.2.2.2 [(⟨y49.1, y51.1, y53.1, y55.1, [y60.1]⟩ : A1)]).bind λ y62 => some (.next (w64 (z3.1 - 1), y60.2.L, y60.2.At, z4, y62)) else (appI 57 z3.2.2.2.2 [(⟨y49.1, y51.1, y53.1, y55.1, ([] : List Int)⟩ : A1)]).bind λ y64 => some (.next (w64 (z3.1 - 1), y57.2.L, y57.2.At, z4, y64)) else some (.brk (z3.1, z3.2.1, z3.2.2.1, z3.2.2.2.1, z3.2.2.2.2))
def F29 (x0 : Ai) : Option (Aa × Ai) :=
 (F78 x0 1 4).bind λ y1 => (F40 y1.2 [0, 50, 200, 1800]).bind λ y3 => (F40 y3.2 [0, 10, 50]).bind λ y5 => andThen (whileN (Ut y1) 1152921504606846976 (1, y5.2.L, y5.2.At, ([] : List Ak))) (λ _ => none) λ z0 => (A3 [(decide (y1.1 > 2), true)] (F32 (⟨z0.2.1, z0.2.2.1⟩ : Ai) 2) (default, (⟨z0.2.1, z0.2.2.1⟩ : Ai))).bind λ y15 => andThen (Akd y1 z0 y15) (λ _ => none) λ z1 => (F32 y15.2 5).bind λ y20 => andThen (whileN (Us y1) 1152921504606846976 (y20.1, y20.2.L, y20.2.At, z1, ([] : List Bg))) (λ _ => none) λ z2 => (F32 (⟨z2.2.1, z2.2.2.1⟩ : Ai) 6).bind λ y35 => andThen (whileN (Ur y1) 1152921504606846976 (y35.1, y35.2.L, y35.2.At, z2.2.2.2.1, ([] : List A1))) (λ _ => none) λ z3 => some ((⟨y1.1, z3.2.2.2.1, z2.2.2.2.2, z3.2.2.2.2, y3.1, y5.1⟩ : Aa), (⟨z3.2.1, z3.2.2.1⟩ : Ai))
def F30 (x0 : Ai) : Option (Bh × Ai) :=
 (F40 x0 [60, 80, 100]).bind λ y1 => (F40 y1.2 [1, 30, 50]).bind λ y3 => (F40 y3.2 [0, 1, 3]).bind λ y5 => some ((⟨y1.1, y3.1, y5.1⟩ : Bh), y5.2)
def B5 (x0 : Int) (x1 : Int) (x2 : Int) : Bool :=
 ((decide (x0 >= x1)) && (decide (x0 <= x2)))
def F71 (x0 : Aa) (x1 : An) : Bool :=
 bif (x1.Kind == 1) then B5 x1.Number 0 (w64 ((x0.Ac.length : Int) - 1)) else bif (x1.Kind == 2) then B5 x1.Number 0 (w64 ((x0.Af.length : Int) - 1)) else bif (x1.Kind == 3) then B5 x1.Number 0 (w64 (x0.Am - 1)) else bif (x1.Kind == 4) then B5 x1.Number 0 (w64 ((x0.Ae.length : Int) - 1)) else false
def Aiv (x1 : Aa) (z0 : Int × (List Int) × Int × (List Bool)) : Bool := decide (z0.1 < (x1.Af.length : Int))
def K6 (x1 : Aa) (z0 : Int × (List Int) × Int × (List Bool)) : Option (Ctl (Int × (List Int) × Int × (List Bool)) Unit) :=
 bif (Aiv x1 z0) then (F32 (⟨z0.2.1, z0.2.2.1⟩ : Ai) 2).bind λ y2 => (appI 2 z0.2.2.2 [(y2.1 == 1)]).bind λ y4 => some (.next (w64 (z0.1 + 1), y2.2.L, y2.2.At, y4)) else some (.brk (z0.1, z0.2.1, z0.2.2.1, z0.2.2.2))
def Aiu (x1 : Aa) (z1 : Int × (List Bool)) : Bool := decide (z1.1 < (x1.Ae.length : Int))
def Uc (z1 : Int × (List Bool)) (a2 : Ak) (y7 : Bool) : Bool := (((a2.Kind == 3) && (a2.B == z1.1)) && y7)
def K4 (z1 : Int × (List Bool)) (n2 : Nat) (a2 : Ak) (z2 : Bool × (List Bool)) : Option (Ctl (Bool × (List Bool)) Unit) :=
 (A3 [(((a2.Kind == 3) && (a2.B == z1.1)), true)] (getI z2.2 (cnt 0 n2)) default).bind λ y7 => bif (Uc z1 a2 y7) then (getI z2.2 (cnt 0 n2)).bind λ y10 => (setI z2.2 (cnt 0 n2) z2.1).bind λ y12 => some (.next (false, y12)) else some (.next (z2.1, z2.2))
def K5 (x1 : Aa) (z1 : Int × (List Bool)) : Option (Ctl (Int × (List Bool)) Unit) :=
 bif (Aiu x1 z1) then andThen (foldI (K4 z1) x1.Af 0 (true, z1.2)) (λ _ => none) λ z2 => some (.next (w64 (z1.1 + 1), z2.2)) else some (.brk (z1.1, z1.2))
def Adb (x1 : Aa) (z3 : Sg5) : Bool := decide (z3.1 < (x1.Ac.length : Int))
def K3 (x1 : Aa) (z3 : Sg5) : Option (Ctl (Sg5) Unit) :=
 bif (Adb x1 z3) then (F40 (⟨z3.2.1, z3.2.2.1⟩ : Ai) [0, 1, 2, 2, 2, 3]).bind λ y15 => (F32 y15.2 5).bind λ y17 => (F40 y17.2 [5000, 5000, 5005, 4950]).bind λ y19 => (F40 y19.2 [0, 0, 40, 1800, 3590]).bind λ y21 => (appI 33 z3.2.2.2 [(⟨y15.1, y17.1, y19.1, y21.1⟩ : Ag)]).bind λ y23 => some (.next (w64 (z3.1 + 1), y21.2.L, y21.2.At, y23)) else some (.brk (z3.1, z3.2.1, z3.2.2.1, z3.2.2.2))
def K2 (n4 : Nat) (a4 : A1) (z4 : (List Int) × Int × (List Int)) : Option (Ctl ((List Int) × Int × (List Int)) Unit) :=
 (F40 (⟨z4.1, z4.2.1⟩ : Ai) [a4.Load, a4.Load, a4.Least, w64 (Int.tdiv a4.Load 3)]).bind λ y25 => (appI 9 z4.2.2 [y25.1]).bind λ y27 => some (.next (y25.2.L, y25.2.At, y27))
def K1 (x1 : Aa) (z5 : Int × (List Int) × Int × (List An)) : Option (Ctl (Int × (List Int) × Int × (List An)) Unit) :=
 bif decide (z5.1 <= 4) then (F32 (⟨z5.2.1, z5.2.2.1⟩ : Ai) 5).bind λ y30 => bif (y30.1 == 4) then (F32 y30.2 4).bind λ y33 => bif F71 x1 (⟨z5.1, y33.1⟩ : An) then (appI 17 z5.2.2.2 [(⟨z5.1, y33.1⟩ : An)]).bind λ y36 => some (.next (w64 (z5.1 + 1), y33.2.L, y33.2.At, y36)) else some (.next (w64 (z5.1 + 1), y33.2.L, y33.2.At, z5.2.2.2)) else some (.next (w64 (z5.1 + 1), y30.2.L, y30.2.At, z5.2.2.2)) else some (.brk (z5.1, z5.2.1, z5.2.2.1, z5.2.2.2))
def Vp (x0 : Ai) (x1 : Aa) : Option (Ab × Ai) :=
 andThen (whileN (K6 x1) 1152921504606846976 (0, x0.L, x0.At, ([] : List Bool))) (λ _ => none) λ z0 => andThen (whileN (K5 x1) 1152921504606846976 (0, z0.2.2.2)) (λ _ => none) λ z1 => andThen (whileN (K3 x1) 1152921504606846976 (0, z0.2.1, z0.2.2.1, ([] : List Ag))) (λ _ => none) λ z3 => andThen (foldI K2 x1.Ae 0 (z3.2.1, z3.2.2.1, ([] : List Int))) (λ _ => none) λ z4 => andThen (whileN (K1 x1) 7 (1, z4.1, z4.2.1, ([] : List An))) (λ _ => none) λ z5 => some ((⟨z1.2, z3.2.2.2, z4.2.2, z5.2.2.2⟩ : Ab), (⟨z5.2.1, z5.2.2.1⟩ : Ai))
def Lm (x1 : Int) (x2 : Int) (a0 : Ak) : Bool := ((a0.Kind == x1) && ((a0.B == x2) || ((x1 == 1) && (a0.A == x2))))
def vH (x1 : Int) (x2 : Int) (n0 : Nat) (a0 : Ak) (z0 : (List Int)) : Option (Ctl ((List Int)) Unit) :=
 bif (Lm x1 x2 a0) then (appI 9 z0 [cnt 0 n0]).bind λ y2 => some (.next y2) else some (.next z0)
def F77 (x0 : Aa) (x1 : Int) (x2 : Int) : Option ((List Int)) :=
 andThen (foldI (vH x1 x2) x0.Af 0 ([] : List Int)) (λ _ => none) λ z0 => some z0
def Auw (x0 : Aa) (a0 : Ak) : Bool := !(B5 a0.B (w64 (a0.A + 1)) (w64 (x0.Am - 1)))
def Aio (x0 : Aa) (a0 : Ak) : Bool := !(B5 a0.B 0 (w64 ((x0.Ac.length : Int) - 1)))
def Ain (x0 : Aa) (a0 : Ak) : Bool := !(B5 a0.B 0 (w64 ((x0.Ae.length : Int) - 1)))
def Aim (a0 : Ak) (a1 : Ak) : Bool := ((a1.Kind == a0.Kind) && ((a1.A == a0.A) && ((a1.B == a0.B) && true)))
def P2 (a0 : Ak) (n1 : Nat) (a1 : Ak) (z1 : Unit) : Option (Ctl Unit Bool) :=
 bif (Aim a0 a1) then some (.ret false) else some (.next ())
def Xb (x0 : Aa) (n0 : Nat) (a0 : Ak) (z0 : Unit) : Option (Ctl Unit Bool) :=
 bif !(B5 a0.A 0 (w64 (x0.Am - 1))) then some (.ret false) else bif (a0.Kind == 1) then bif (Auw x0 a0) then some (.ret false) else some (.next ()) else bif (a0.Kind == 2) then bif (Aio x0 a0) then some (.ret false) else some (.next ()) else bif (a0.Kind == 3) then bif (Ain x0 a0) then some (.ret false) else (cutI x0.Af 0 (cnt 0 n0)).bind λ y9 => andThen (foldI (P2 a0) y9 0 ()) (λ v => some (.ret v)) λ z1 => some (.next ()) else some (.ret false)
def Anq (x0 : Aa) (z2 : Int) : Bool := decide (z2 < (x0.Ac.length : Int))
def Xa (x0 : Aa) (z2 : Int) : Option (Ctl Int Bool) :=
 bif (Anq x0 z2) then (F77 x0 2 z2).bind λ y12 => bif ((y12.length : Int) != 1) then some (.ret false) else some (.next (w64 (z2 + 1))) else some (.brk z2)
def Anp (x0 : Aa) (z3 : Int) : Bool := decide (z3 < (x0.Ae.length : Int))
def W_ (x0 : Aa) (z3 : Int) : Option (Ctl Int Bool) :=
 bif (Anp x0 z3) then (F77 x0 3 z3).bind λ y16 => bif decide ((y16.length : Int) < 1) then some (.ret false) else some (.next (w64 (z3 + 1))) else some (.brk z3)
def Aks (x0 : Aa) : Option Bool :=
 andThen (foldI (Xb x0) x0.Af 0 ()) some λ z0 => andThen (whileN (Xa x0) 1152921504606846976 0) some λ z2 => andThen (whileN (W_ x0) 1152921504606846976 0) some λ z3 => some true
def Ail (a0 : Bg) : Bool := (((!(B5 a0.Rating 1 50000)) || (!(B5 a0.Least 0 a0.Rating))) || (!(B5 a0.Start 0 600)))
def W9 (n0 : Nat) (a0 : Bg) (z0 : Unit) : Option (Ctl Unit Bool) :=
 bif (Ail a0) then some (.ret false) else some (.next ())
def Akr (x0 : Aa) : Option Bool :=
 andThen (foldI W9 x0.Ac 0 ()) some λ z0 => some true
def Aik (a0 : A1) : Bool := (((((!(B5 a0.Load 0 50000)) || (!(B5 a0.Least 0 a0.Load))) || (!(B5 a0.Bp 0 15))) || (!(B5 a0.Thruster (-1) 7))) || (decide ((a0.Needs.length : Int) > 4)))
def Aij (n0 : Nat) (n1 : Nat) (a1 : Int) (y2 : Int) : Bool := ((!(B5 a1 0 (w64 ((cnt 0 n0) - 1)))) || ((decide ((cnt 0 n1) > 0)) && (decide (y2 >= a1))))
def W7 (n0 : Nat) (a0 : A1) (n1 : Nat) (a1 : Int) (z1 : Unit) : Option (Ctl Unit Bool) :=
 (A3 [(!(B5 a1 0 (w64 ((cnt 0 n0) - 1))), false), (decide ((cnt 0 n1) > 0), true)] (getI a0.Needs (w64 ((cnt 0 n1) - 1))) default).bind λ y2 => bif (Aij n0 n1 a1 y2) then some (.ret false) else some (.next ())
def W8 (n0 : Nat) (a0 : A1) (z0 : Unit) : Option (Ctl Unit Bool) :=
 bif (Aik a0) then some (.ret false) else andThen (foldI (W7 n0 a0) a0.Needs 0 ()) (λ v => some (.ret v)) λ z1 => some (.next ())
def Akq (x0 : Aa) : Option Bool :=
 andThen (foldI W8 x0.Ae 0 ()) some λ z0 => some true
def uM (x0 : Aa) : Bool := (((((decide (x0.Am < 1)) || (decide (x0.Am > 6))) || (decide ((x0.Af.length : Int) > 24))) || (decide ((x0.Ac.length : Int) > 8))) || (decide ((x0.Ae.length : Int) > 16)))
def uL (x0 : Aa) (y2 : Bool) (y4 : Bool) (y6 : Bool) : Bool := (((((((!y2) || (!y4)) || (!y6)) || (decide (x0.Phase < 0))) || (decide (x0.Phase > 1800))) || (decide (x0.Ap < 0))) || (decide (x0.Ap > 6000)))
def Ak3 (x0 : Aa) : Option Int :=
 bif (uM x0) then some 2 else (Aks x0).bind λ y2 => (A3 [(!y2, false)] (Akr x0) default).bind λ y4 => (A3 [(((!y2) || (!y4)), false)] (Akq x0) default).bind λ y6 => bif (uL x0 y2 y4 y6) then some 14 else some 0
def Abh (x0 : An) (x1 : An) : Bool :=
 ((decide (x0.Kind < x1.Kind)) || ((x0.Kind == x1.Kind) && (decide (x0.Number < x1.Number))))
def Aql (x0 : Aa) (x1 : Ab) : Bool := ((((x1.Ah.length : Int) != (x0.Af.length : Int)) || ((x1.Ac.length : Int) != (x0.Ac.length : Int))) || ((x1.As.length : Int) != (x0.Ae.length : Int)))
def Aqk (a0 : Ag) : Bool := ((((!(B5 a0.State 0 3)) || (!(B5 a0.Since 0 2147483648))) || (!(B5 a0.Ap 0 6000))) || (!(B5 a0.Phase 0 3599)))
def vQ (n0 : Nat) (a0 : Ag) (z0 : Unit) : Option (Ctl Unit Int) :=
 bif (Aqk a0) then some (.ret 11) else some (.next ())
def vP (x0 : Aa) (n1 : Nat) (a1 : Int) (z1 : Unit) : Option (Ctl Unit Int) :=
 (getI x0.Ae (cnt 0 n1)).bind λ y6 => bif !(B5 a1 0 y6.Load) then some (.ret 11) else some (.next ())
def Aqj (x0 : Aa) (n2 : Nat) (a2 : An) (y10 : An) : Bool := ((!(F71 x0 a2)) || ((decide ((cnt 0 n2) > 0)) && (!(Abh y10 a2))))
def vO (x0 : Aa) (x1 : Ab) (n2 : Nat) (a2 : An) (z2 : Unit) : Option (Ctl Unit Int) :=
 (A3 [(!(F71 x0 a2), false), (decide ((cnt 0 n2) > 0), true)] (getI x1.Aq (w64 ((cnt 0 n2) - 1))) default).bind λ y10 => bif (Aqj x0 n2 a2 y10) then some (.ret 11) else some (.next ())
def Aza (x0 : Aa) (z3 : Int) : Bool := decide (z3 < (x0.Ae.length : Int))
def vM (x1 : Ab) (n4 : Nat) (a4 : Int) (z4 : Int) : Option (Ctl Int Unit) :=
 (getI x1.Ah a4).bind λ y16 => bif y16 then some (.next (w64 (z4 + 1))) else some (.next z4)
def vN (x0 : Aa) (x1 : Ab) (z3 : Int) : Option (Ctl Int Int) :=
 bif (Aza x0 z3) then (F77 x0 3 z3).bind λ y14 => andThen (foldI (vM x1) y14 0 0) (λ _ => none) λ z4 => bif decide (z4 > 1) then some (.ret 11) else some (.next (w64 (z3 + 1))) else some (.brk z3)
def F53 (x0 : Aa) (x1 : Ab) : Option Int :=
 (Ak3 x0).bind λ y1 => bif (y1 != 0) then some y1 else bif (Aql x0 x1) then some 8 else andThen (foldI vQ x1.Ac 0 ()) some λ z0 => andThen (foldI (vP x0) x1.As 0 ()) some λ z1 => bif decide ((x1.Aq.length : Int) > 32) then some 11 else andThen (foldI (vO x0 x1) x1.Aq 0 ()) some λ z2 => andThen (whileN (vN x0 x1) 1152921504606846976 0) some λ z3 => some 0
def F65 (x0 : Ab) : Option Ab :=
 (appI 2 ([] : List Bool) x0.Ah).bind λ y1 => (appI 33 ([] : List Ag) x0.Ac).bind λ y3 => (appI 9 ([] : List Int) x0.As).bind λ y5 => (appI 17 ([] : List An) x0.Aq).bind λ y7 => some (⟨y1, y3, y5, y7⟩ : Ab)
def Pk (a1 : Ak) (y7 : Bool) (y9 : Bool) (y11 : Bool) : Bool := (((a1.Kind == 1) && y7) && (y9 || y11))
def Xi (x1 : Ab) (n1 : Nat) (a1 : Ak) (z1 : (List Bool)) : Option (Ctl ((List Bool)) Unit) :=
 (A3 [((a1.Kind == 1), true)] (getI x1.Ah (cnt 0 n1)) default).bind λ y7 => (A3 [(((a1.Kind == 1) && y7), true)] (getI z1 a1.A) default).bind λ y9 => (A3 [(((a1.Kind == 1) && y7), true), (y9, false)] (getI z1 a1.B) default).bind λ y11 => bif (Pk a1 y7 y9 y11) then (getI z1 a1.A).bind λ y14 => (setI z1 a1.A true).bind λ y16 => (getI y16 a1.B).bind λ y18 => (setI y16 a1.B true).bind λ y20 => some (.next y20) else some (.next z1)
def Xj (x0 : Aa) (x1 : Ab) (n0 : Nat) (a0 : Bool) (z0 : (List Bool)) : Option (Ctl ((List Bool)) Unit) :=
 andThen (foldI (Xi x1) x0.Af 0 z0) (λ _ => none) λ z1 => some (.next z1)
def Xh (n2 : Nat) (a2 : Bool) (z2 : (List Int)) : Option (Ctl ((List Int)) Unit) :=
 bif a2 then (appI 9 z2 [cnt 0 n2]).bind λ y23 => some (.next y23) else some (.next z2)
def Ak2 (x0 : Aa) (x1 : Ab) (x2 : Int) : Option ((List Int)) :=
 (mkI 2 x0.Am false).bind λ y1 => (getI y1 x2).bind λ y3 => (setI y1 x2 true).bind λ y5 => andThen (foldI (Xj x0 x1) y5 0 y5) (λ _ => none) λ z0 => andThen (foldI Xh z0 0 ([] : List Int)) (λ _ => none) λ z2 => some z2
def uI (x0 : Aa) (x2 : Int) (y1 : Int) (y3 : Ag) : Bool := ((((y1 != 0) || (decide (x2 < 0))) || (decide (x2 >= (x0.Ac.length : Int)))) || (y3.State != 2))
def F27 (x0 : Aa) (x1 : Ab) (x2 : Int) : Option (Int × Bool) :=
 (F53 x0 x1).bind λ y1 => (A3 [((((y1 != 0) || (decide (x2 < 0))) || (decide (x2 >= (x0.Ac.length : Int)))), false)] (getI x1.Ac x2) default).bind λ y3 => bif (uI x0 x2 y1 y3) then some (0, false) else (F77 x0 2 x2).bind λ y6 => (getI y6 0).bind λ y8 => (getI x1.Ah y8).bind λ y10 => bif !y10 then some (0, false) else (getI x0.Af y8).bind λ y13 => some (y13.A, true)
def Uo (x1 : Int) (n0 : Nat) (a0 : Int) (z0 : Unit) : Option (Ctl Unit Bool) :=
 bif (a0 == x1) then some (.ret true) else some (.next ())
def F55 (x0 : List Int) (x1 : Int) : Option Bool :=
 andThen (foldI (Uo x1) x0 0 ()) some λ z0 => some false
def Aqm (x0 : Aa) (x2 : Int) (y1 : Int) : Bool := (((y1 != 0) || (decide (x2 < 0))) || (decide (x2 >= (x0.Ae.length : Int))))
def Uq (x0 : Aa) (x1 : Ab) (n0 : Nat) (a0 : Int) (z0 : Unit) : Option (Ctl Unit (Int × Bool)) :=
 (getI x1.Ah a0).bind λ y6 => bif y6 then (getI x0.Af a0).bind λ y9 => some (.ret (y9.A, true)) else some (.next ())
def F48 (x0 : Aa) (x1 : Ab) (x2 : Int) : Option (Int × Bool) :=
 (F53 x0 x1).bind λ y1 => bif (Aqm x0 x2 y1) then some (0, false) else (F77 x0 3 x2).bind λ y4 => andThen (foldI (Uq x0 x1) y4 0 ()) some λ z0 => some (0, false)
def Aqi (x0 : Aa) (x2 : Int) (y1 : Int) : Bool := (((y1 != 0) || (decide (x2 < 0))) || (decide (x2 >= x0.Am)))
def Ay9 (x0 : Aa) (z0 : Int × (List Int)) : Bool := decide (z0.1 < (x0.Ac.length : Int))
def vL (x0 : Aa) (x1 : Ab) (y4 : (List Int)) (z0 : Int × (List Int)) : Option (Ctl (Int × (List Int)) Unit) :=
 bif (Ay9 x0 z0) then (F27 x0 x1 z0.1).bind λ y7 => (A3 [(y7.2, true)] (F55 y4 y7.1) default).bind λ y9 => bif (y7.2 && y9) then (appI 9 z0.2 [z0.1]).bind λ y12 => some (.next (w64 (z0.1 + 1), y12)) else some (.next (w64 (z0.1 + 1), z0.2)) else some (.brk (z0.1, z0.2))
def Ay8 (x0 : Aa) (z1 : Int × (List Int)) : Bool := decide (z1.1 < (x0.Ae.length : Int))
def vK (x0 : Aa) (x1 : Ab) (y4 : (List Int)) (z1 : Int × (List Int)) : Option (Ctl (Int × (List Int)) Unit) :=
 bif (Ay8 x0 z1) then (F48 x0 x1 z1.1).bind λ y15 => (A3 [(y15.2, true)] (F55 y4 y15.1) default).bind λ y17 => bif (y15.2 && y17) then (appI 9 z1.2 [z1.1]).bind λ y20 => some (.next (w64 (z1.1 + 1), y20)) else some (.next (w64 (z1.1 + 1), z1.2)) else some (.brk (z1.1, z1.2))
def F54 (x0 : Aa) (x1 : Ab) (x2 : Int) : Option (Aj × Bool) :=
 (F53 x0 x1).bind λ y1 => bif (Aqi x0 x2 y1) then some ((⟨([] : List Int), ([] : List Int), ([] : List Int)⟩ : Aj), false) else (Ak2 x0 x1 x2).bind λ y4 => andThen (whileN (vL x0 x1 y4) 1152921504606846976 (0, ([] : List Int))) (λ _ => none) λ z0 => andThen (whileN (vK x0 x1 y4) 1152921504606846976 (0, ([] : List Int))) (λ _ => none) λ z1 => some ((⟨y4, z0.2, z1.2⟩ : Aj), true)
def vV (x0 : Aa) (x1 : Ab) (z0 : Int × (List Aj)) : Option (Ctl (Int × (List Aj)) Unit) :=
 bif decide (z0.1 < x0.Am) then (F54 x0 x1 z0.1).bind λ y5 => (getI y5.1.Am 0).bind λ y7 => bif (y7 == z0.1) then (appI 73 z0.2 [y5.1]).bind λ y10 => some (.next (w64 (z0.1 + 1), y10)) else some (.next (w64 (z0.1 + 1), z0.2)) else some (.brk (z0.1, z0.2))
def F25 (x0 : Aa) (x1 : Ab) : Option ((List Aj)) :=
 (F53 x0 x1).bind λ y1 => bif (y1 != 0) then some ([] : List Aj) else andThen (whileN (vV x0 x1) 1152921504606846976 (0, ([] : List Aj))) (λ _ => none) λ z0 => some z0.2
def Xf (x1 : Ab) (a0 : Aj) (n1 : Nat) (a1 : Int) (z1 : (List Ag)) : Option (Ctl ((List Ag)) Unit) :=
 (getI a0.Ac 0).bind λ y5 => (getI x1.Ac y5).bind λ y7 => (getI a0.Ac 0).bind λ y9 => (getI x1.Ac y9).bind λ y11 => (getI z1 a1).bind λ y13 => (setI z1 a1 (⟨y13.State, y13.Since, y7.Ap, y13.Phase⟩ : Ag)).bind λ y15 => (getI y15 a1).bind λ y17 => (setI y15 a1 (⟨y17.State, y17.Since, y17.Ap, y11.Phase⟩ : Ag)).bind λ y19 => some (.next y19)
def Xg (x1 : Ab) (n0 : Nat) (a0 : Aj) (z0 : (List Ag)) : Option (Ctl ((List Ag)) Unit) :=
 andThen (foldI (Xf x1 a0) a0.Ac 0 z0) (λ _ => none) λ z1 => some (.next z1)
def Art (x0 : Aa) (x1 : Ab) : Option Ab :=
 (F65 x1).bind λ y1 => (F25 x0 x1).bind λ y3 => andThen (foldI (Xg x1) y3 0 y1.Ac) (λ _ => none) λ z0 => some (⟨y1.Ah, z0, y1.As, y1.Aq⟩ : Ab)
def Ak0 (x0 : Aa) (x1 : Ab) : Option (Ab × Int) :=
 (F53 x0 x1).bind λ y1 => bif (y1 != 0) then some ((⟨([] : List Bool), ([] : List Ag), ([] : List Int), ([] : List An)⟩ : Ab), y1) else (Art x0 x1).bind λ y4 => some (y4, 0)
def vG (x0 : Ai) (x1 : Aa) : Option (Ab × Ai) :=
 (Vp x0 x1).bind λ y1 => (Ak0 x1 y1.1).bind λ y3 => some (y3.1, y1.2)
def Rz (x1 : Aa) (z0 : Sg4) : Option (Ctl (Sg4) Unit) :=
 bif decide (z0.1 < x1.Am) then (F78 (⟨z0.2.1, z0.2.2.1⟩ : Ai) (-1) 4).bind λ y6 => (F78 y6.2 (-1) 4).bind λ y8 => (appI 17 z0.2.2.2 [(⟨y6.1, y8.1⟩ : Az)]).bind λ y10 => some (.next (w64 (z0.1 + 1), y8.2.L, y8.2.At, y10)) else some (.brk (z0.1, z0.2.1, z0.2.2.1, z0.2.2.2))
def vU (x0 : Ai) (x1 : Aa) : Option (A0 × Ai) :=
 (F78 x0 5 20).bind λ y1 => (vG y1.2 x1).bind λ y3 => andThen (whileN (Rz x1) 1152921504606846976 (0, y3.2.L, y3.2.At, ([] : List Az))) (λ _ => none) λ z0 => some ((⟨y1.1, y3.1, z0.2.2.2, ([] : List A9)⟩ : A0), (⟨z0.2.1, z0.2.2.1⟩ : Ai))
def F9 (x0 : Ai) : Option (Ai1) :=
 (F29 x0).bind λ y1 => (F30 y1.2).bind λ y3 => (vU y3.2 y1.1).bind λ y5 => some (y1.1, y3.1, y5.1, y5.2)
def Zw (y1 : Int × Ai) : Option (Ctl Bool Unit) :=
 bif (y1.1 == 1) then some (.next (y1.1 == 1)) else some (.next (y1.1 == 2))
def Zv (y1 : Int × Ai) : Option (Ctl Bool Unit) :=
 bif (y1.1 == 3) then some (.next (y1.1 == 3)) else some (.next (y1.1 == 4))
def vT (x0 : Ai) (x1 : Aa) : Option (Ao × Ai) :=
 (F78 x0 1 9).bind λ y1 => andThen (Zw y1) (λ _ => none) λ z0 => bif z0 then (F32 y1.2 (w64 ((x1.Af.length : Int) + 1))).bind λ y5 => some ((⟨y1.1, y5.1, 0⟩ : Ao), y5.2) else andThen (Zv y1) (λ _ => none) λ z1 => bif z1 then (F32 y1.2 (w64 ((x1.Ac.length : Int) + 1))).bind λ y9 => some ((⟨y1.1, y9.1, 0⟩ : Ao), y9.2) else bif (y1.1 == 5) then (F32 y1.2 (w64 ((x1.Ae.length : Int) + 1))).bind λ y12 => (F40 y12.2 [0, 5, 20, 41]).bind λ y14 => some ((⟨y1.1, y12.1, y14.1⟩ : Ao), y14.2) else bif (y1.1 == 6) then (F32 y1.2 (w64 ((x1.Ac.length : Int) + 1))).bind λ y17 => (F32 y17.2 (w64 (x1.Am + 1))).bind λ y19 => some ((⟨y1.1, y17.1, y19.1⟩ : Ao), y19.2) else bif (y1.1 == 8) then (F78 y1.2 1 4).bind λ y22 => (F32 y22.2 4).bind λ y24 => some ((⟨y1.1, y24.1, y22.1⟩ : Ao), y24.2) else bif (y1.1 == 9) then (F78 y1.2 1 4).bind λ y27 => (F32 y27.2 4).bind λ y29 => some ((⟨y1.1, y29.1, y27.1⟩ : Ao), y29.2) else some ((⟨y1.1, 0, 0⟩ : Ao), y1.2)
def R5 (x1 : Aa) (z0 : Int × (List Int) × Int × (List Ao)) : Option (Ctl (Int × (List Int) × Int × (List Ao)) Unit) :=
 bif decide (z0.1 > 0) then (vT (⟨z0.2.1, z0.2.2.1⟩ : Ai) x1).bind λ y4 => (appI 25 z0.2.2.2 [y4.1]).bind λ y6 => some (.next (w64 (z0.1 - 1), y4.2.L, y4.2.At, y6)) else some (.brk (z0.1, z0.2.1, z0.2.2.1, z0.2.2.2))
def yG (x0 : Ai) (x1 : Aa) (x2 : Int) : Option ((List Ao) × Ai) :=
 (F32 x0 (w64 (x2 + 1))).bind λ y1 => andThen (whileN (R5 x1) 1152921504606846976 (y1.1, y1.2.L, y1.2.At, ([] : List Ao))) (λ _ => none) λ z0 => some (z0.2.2.2, (⟨z0.2.1, z0.2.2.1⟩ : Ai))
def F99 (x0 : Int) (x1 : Int) (x2 : Int) : Bool :=
 ((decide (x0 >= x1)) && (decide (x0 <= x2)))
def Aa5 (x1 : Int) (n0 : Nat) (a0 : Int) (z0 : Unit) : Option (Ctl Unit Int) :=
 bif (x1 == a0) then some (.ret (cnt 0 n0)) else some (.next ())
def Arl (x0 : List Int) (x1 : Int) : Option Int :=
 andThen (foldI (Aa5 x1) x0 0 ()) some λ z0 => some (-1)
def M3 (x0 : List Int) (x1 : Int) : Option Bool :=
 (Arl x0 x1).bind λ y1 => some (decide (y1 >= 0))
def Ayh (x0 : List Int) : Bool :=
 ((x0.length : Int) == 0)
def Ux (n0 : Nat) (a0 : List Int) (z0 : Unit) : Option (Ctl Unit Int) :=
 bif Ayh a0 then some (.ret (cnt 0 n0)) else some (.next ())
def vX (x0 : List (List Int)) : Option Int :=
 andThen (foldI Ux x0 0 ()) some λ z0 => some (-1)
def Vd (x0 : List (List Int)) : Option Bool :=
 (vX x0).bind λ y1 => some (decide (y1 >= 0))
def uK (x0 : Aa) (a0 : Ak) : Bool := ((a0.Kind == 1) && (F99 a0.B (w64 (a0.A + 1)) (w64 (x0.Am - 1))))
def uJ (z0 : (List Int) × (List (List Int))) (a0 : Ak) (y7 : Int) : Bool := (((a0.Kind == 2) && (F99 a0.B 0 (w64 ((z0.1.length : Int) - 1)))) && (y7 == 0))
def Air (z0 : (List Int) × (List (List Int))) (a0 : Ak) (y16 : Bool) : Bool := (((a0.Kind == 3) && (F99 a0.B 0 (w64 ((z0.2.length : Int) - 1)))) && (!y16))
def Xe (x0 : Aa) (n0 : Nat) (a0 : Ak) (z0 : (List Int) × (List (List Int))) : Option (Ctl ((List Int) × (List (List Int))) Bool) :=
 bif !(F99 a0.A 0 (w64 (x0.Am - 1))) then some (.ret false) else bif (uK x0 a0) then some (.next (z0.1, z0.2)) else (A3 [(((a0.Kind == 2) && (F99 a0.B 0 (w64 ((z0.1.length : Int) - 1)))), true)] (getI z0.1 a0.B) default).bind λ y7 => bif (uJ z0 a0 y7) then (getI z0.1 a0.B).bind λ y10 => (setI z0.1 a0.B (w64 (y10 + 1))).bind λ y12 => some (.next (y12, z0.2)) else (A3 [(((a0.Kind == 3) && (F99 a0.B 0 (w64 ((z0.2.length : Int) - 1)))), true)] (getI z0.2 a0.B) default).bind λ y14 => (A3 [(((a0.Kind == 3) && (F99 a0.B 0 (w64 ((z0.2.length : Int) - 1)))), true)] (M3 y14 a0.A) default).bind λ y16 => bif (Air z0 a0 y16) then (getI z0.2 a0.B).bind λ y19 => (appI 9 y19 [a0.A]).bind λ y21 => (setI z0.2 a0.B y21).bind λ y23 => some (.next (z0.1, y23)) else some (.ret false)
def Akz (x0 : Aa) : Option Bool :=
 (mkI 9 (x0.Ac.length : Int) 0).bind λ y1 => (mkI 25 (x0.Ae.length : Int) ([] : List Int)).bind λ y3 => andThen (foldI (Xe x0) x0.Af 0 (y1, y3)) some λ z0 => (M3 z0.1 0).bind λ y27 => (A3 [(!y27, true)] (Vd z0.2) default).bind λ y29 => some ((!y27) && (!y29))
def Z5 (x0 : Bg) : Bool :=
 (((F99 x0.Rating 1 50000) && (F99 x0.Least 0 x0.Rating)) && (F99 x0.Start 0 600))
def Aiq (x1 : Int) (n0 : Nat) (a0 : Int) (y1 : Int) : Bool := ((!(F99 a0 0 (w64 (x1 - 1)))) || ((decide ((cnt 0 n0) > 0)) && (decide (y1 >= a0))))
def P6 (x0 : A1) (x1 : Int) (n0 : Nat) (a0 : Int) (z0 : Unit) : Option (Ctl Unit Bool) :=
 (A3 [(!(F99 a0 0 (w64 (x1 - 1))), false), (decide ((cnt 0 n0) > 0), true)] (getI x0.Needs (w64 ((cnt 0 n0) - 1))) default).bind λ y1 => bif (Aiq x1 n0 a0 y1) then some (.ret false) else some (.next ())
def Abd (x0 : A1) (x1 : Int) : Option Bool :=
 andThen (foldI (P6 x0 x1) x0.Needs 0 ()) some λ z0 => some (((((F99 x0.Load 0 50000) && (F99 x0.Least 0 x0.Load)) && (F99 x0.Bp 0 15)) && (F99 x0.Thruster (-1) 7)) && (decide ((x0.Needs.length : Int) <= 4)))
def Aqf (x0 : Aa) : Bool := ((((!(F99 x0.Am 1 6)) || (decide ((x0.Af.length : Int) > 24))) || (decide ((x0.Ac.length : Int) > 8))) || (decide ((x0.Ae.length : Int) > 16)))
def Aj7 (n0 : Nat) (a0 : Bg) (z0 : Bool) : Option (Ctl Bool Unit) :=
 some (.next (z0 && (Z5 a0)))
def vC (n1 : Nat) (a1 : A1) (z1 : Bool) : Option (Ctl Bool Unit) :=
 (A3 [(z1, true)] (Abd a1 (cnt 0 n1)) default).bind λ y4 => some (.next (z1 && y4))
def F85 (x0 : Aa) : Option Int :=
 bif (Aqf x0) then some 2 else (Akz x0).bind λ y2 => andThen (foldI Aj7 x0.Ac 0 ((y2 && (F99 x0.Phase 0 1800)) && (F99 x0.Ap 0 6000))) (λ _ => none) λ z0 => andThen (foldI vC x0.Ae 0 z0) (λ _ => none) λ z1 => bif !z1 then some 14 else some 0
def Le (x0 : Aa) (x1 : Int) : Int :=
 bif (x1 == 1) then (x0.Ac.length : Int) else bif (x1 == 2) then (x0.Af.length : Int) else bif (x1 == 3) then x0.Am else bif (x1 == 4) then (x0.Ae.length : Int) else 0
def Zy (x0 : Int) : Bool :=
 (x0 != x0)
def J4 (x0 : Int) (x1 : Int) : Int :=
 bif Zy x0 then bif Zy x1 then 0 else (-1) else bif Zy x1 then 1 else bif decide (x0 < x1) then (-1) else bif decide (x0 > x1) then 1 else 0
def P3 (n0 : Nat) (a0 : Int) (z0 : Unit) : Option (Ctl Unit Int) :=
 bif (a0 != 0) then some (.ret a0) else some (.next ())
def Aa9 (x0 : List Int) : Option Int :=
 andThen (foldI P3 x0 0 ()) some λ z0 => some 0
def Aqe (x0 : Aa) (n0 : Nat) (a0 : An) (y5 : Int) : Bool := ((!(F99 a0.Number 0 (w64 ((Le x0 a0.Kind) - 1)))) || ((decide ((cnt 0 n0) > 0)) && (decide (y5 >= 0))))
def Un (x0 : Aa) (x1 : List An) (n0 : Nat) (a0 : An) (z0 : Unit) : Option (Ctl Unit Bool) :=
 (A3 [(!(F99 a0.Number 0 (w64 ((Le x0 a0.Kind) - 1))), false), (decide ((cnt 0 n0) > 0), true)] (getI x1 (w64 ((cnt 0 n0) - 1))) default).bind λ y1 => (A3 [(!(F99 a0.Number 0 (w64 ((Le x0 a0.Kind) - 1))), false), (decide ((cnt 0 n0) > 0), true)] (getI x1 (w64 ((cnt 0 n0) - 1))) default).bind λ y3 => (A3 [(!(F99 a0.Number 0 (w64 ((Le x0 a0.Kind) - 1))), false), (decide ((cnt 0 n0) > 0), true)] (Aa9 [J4 y1.Kind a0.Kind, J4 y3.Number a0.Number]) default).bind λ y5 => bif (Aqe x0 n0 a0 y5) then some (.ret false) else some (.next ())
def F95 (x0 : Aa) (x1 : List An) : Option Bool :=
 andThen (foldI (Un x0 x1) x1 0 ()) some λ z0 => some (decide ((x1.length : Int) <= 32))
def F98 (x0 : Ag) : Bool :=
 ((((F99 x0.State 0 3) && (F99 x0.Since 0 2147483648)) && (F99 x0.Ap 0 6000)) && (F99 x0.Phase 0 3599))
def F97 (x0 : Ag) : Bool :=
 !(F98 x0)
def Vi (n0 : Nat) (a0 : Ag) (z0 : Unit) : Option (Ctl Unit Int) :=
 bif F97 a0 then some (.ret (cnt 0 n0)) else some (.next ())
def yD (x0 : List Ag) : Option Int :=
 andThen (foldI Vi x0 0 ()) some λ z0 => some (-1)
def Wv (x0 : List Ag) : Option Bool :=
 (yD x0).bind λ y1 => some (decide (y1 >= 0))
def Auz (x2 : Int) (a0 : Ak) (y1 : Bool) : Bool := (((a0.Kind == 3) && (a0.B == x2)) && y1)
def Xk (x1 : Ab) (x2 : Int) (n0 : Nat) (a0 : Ak) (z0 : Int) : Option (Ctl Int Unit) :=
 (A3 [(((a0.Kind == 3) && (a0.B == x2)), true)] (getI x1.Ah (cnt 0 n0)) default).bind λ y1 => bif (Auz x2 a0 y1) then some (.next (w64 (z0 + 1))) else some (.next z0)
def Ak7 (x0 : Aa) (x1 : Ab) (x2 : Int) : Option Int :=
 andThen (foldI (Xk x1 x2) x0.Af 0 0) (λ _ => none) λ z0 => some z0
def Aew (x0 : Aa) (x1 : Ab) : Bool := ((((x1.Ah.length : Int) != (x0.Af.length : Int)) || ((x1.Ac.length : Int) != (x0.Ac.length : Int))) || ((x1.As.length : Int) != (x0.Ae.length : Int)))
def vR (x0 : Aa) (x1 : Ab) (n0 : Nat) (a0 : Int) (z0 : Bool) : Option (Ctl Bool Unit) :=
 (A3 [(z0, true)] (getI x0.Ae (cnt 0 n0)) default).bind λ y9 => (A3 [((z0 && (F99 a0 0 y9.Load)), true)] (Ak7 x0 x1 (cnt 0 n0)) default).bind λ y11 => some (.next ((z0 && (F99 a0 0 y9.Load)) && (decide (y11 <= 1))))
def F43 (x0 : Aa) (x1 : Ab) : Option Int :=
 (F85 x0).bind λ y1 => bif (y1 != 0) then some y1 else bif (Aew x0 x1) then some 8 else (F95 x0 x1.Aq).bind λ y5 => (A3 [(y5, true)] (Wv x1.Ac) default).bind λ y7 => andThen (foldI (vR x0 x1) x1.As 0 (y5 && (!y7))) (λ _ => none) λ z0 => bif !z0 then some 11 else some 0
def Arr (x0 : List Bool) : Option (List Bool) := appI 2 [] x0
def Arq (x0 : List Ag) : Option (List Ag) := appI 33 [] x0
def Z2 (x0 : List Int) : Option (List Int) := appI 9 [] x0
def Arp (x0 : List An) : Option (List An) := appI 17 [] x0
def Il (x0 : Ab) : Option Ab :=
 (Arr x0.Ah).bind λ y1 => (Arq x0.Ac).bind λ y3 => (Z2 x0.As).bind λ y5 => (Arp x0.Aq).bind λ y7 => some (⟨y1, y3, y5, y7⟩ : Ab)
def Xd (n0 : Nat) (a0 : Int) (z0 : (List Int)) : Option (Ctl ((List Int)) Unit) :=
 (getI z0 (cnt 0 n0)).bind λ y3 => (setI z0 (cnt 0 n0) (cnt 0 n0)).bind λ y5 => some (.next y5)
def P5 (x1 : Ab) (n2 : Nat) (a2 : Ak) (z2 : (List Int)) : Option (Ctl ((List Int)) Unit) :=
 (A3 [((a2.Kind == 1), true)] (getI x1.Ah (cnt 0 n2)) default).bind λ y7 => bif ((a2.Kind == 1) && y7) then (getI z2 a2.A).bind λ y10 => (getI z2 a2.B).bind λ y12 => (setI z2 a2.A (min y10 y12)).bind λ y14 => (getI y14 a2.B).bind λ y16 => (setI y14 a2.B (min y10 y12)).bind λ y18 => some (.next y18) else some (.next z2)
def Xc (x0 : Aa) (x1 : Ab) (n1 : Nat) (a1 : Int) (z1 : (List Int)) : Option (Ctl ((List Int)) Unit) :=
 andThen (foldI (P5 x1) x0.Af 0 z1) (λ _ => none) λ z2 => some (.next z2)
def Abb (x0 : Aa) (x1 : Ab) : Option ((List Int)) :=
 (mkI 9 x0.Am 0).bind λ y1 => andThen (foldI Xd y1 0 y1) (λ _ => none) λ z0 => andThen (foldI (Xc x0 x1) z0 0 z0) (λ _ => none) λ z1 => some z1
def Aut (x2 : Int) (x3 : Int) (a0 : Ak) (y1 : Bool) : Bool := (((a0.Kind == x2) && (a0.B == x3)) && y1)
def P0 (x1 : Ab) (x2 : Int) (x3 : Int) (n0 : Nat) (a0 : Ak) (z0 : Unit) : Option (Ctl Unit (Int × Bool)) :=
 (A3 [(((a0.Kind == x2) && (a0.B == x3)), true)] (getI x1.Ah (cnt 0 n0)) default).bind λ y1 => bif (Aut x2 x3 a0 y1) then some (.ret (a0.A, true)) else some (.next ())
def Aa8 (x0 : Aa) (x1 : Ab) (x2 : Int) (x3 : Int) : Option (Int × Bool) :=
 andThen (foldI (P0 x1 x2 x3) x0.Af 0 ()) some λ z0 => some (0, false)
def Ub (x1 : Ab) (x2 : Int) (y1 : Ag) : Bool := ((!(F99 x2 0 (w64 ((x1.Ac.length : Int) - 1)))) || (y1.State != 2))
def Z4 (x0 : Aa) (x1 : Ab) (x2 : Int) : Option (Int × Bool) :=
 (A3 [(!(F99 x2 0 (w64 ((x1.Ac.length : Int) - 1))), false)] (getI x1.Ac x2) default).bind λ y1 => bif (Ub x1 x2 y1) then some (0, false) else (Aa8 x0 x1 2 x2).bind λ y4 => some (y4.1, y4.2)
def Z3 (x0 : Aa) (x1 : Ab) (x2 : Int) : Option (Int × Bool) :=
 (Aa8 x0 x1 3 x2).bind λ y1 => some (y1.1, y1.2)
def Aba (x0 : Aj) : Bool :=
 ((x0.Am.length : Int) == 0)
def Vl (n0 : Nat) (a0 : Aj) (z0 : Unit) : Option (Ctl Unit Int) :=
 bif Aba a0 then some (.ret (cnt 0 n0)) else some (.next ())
def Vm (x0 : List Aj) : Option Int :=
 andThen (foldI Vl x0 0 ()) some λ z0 => some (-1)
def Aip (z0 : Int × Int × (List Aj)) : Bool := decide (z0.2.1 < (z0.2.2.length : Int))
def Of (z0 : Int × Int × (List Aj)) : Option (Ctl (Int × Int × (List Aj)) Unit) :=
 bif (Aip z0) then (getI z0.2.2 z0.2.1).bind λ y5 => bif !(Aba y5) then (getI z0.2.2 z0.1).bind λ y8 => (setI z0.2.2 z0.1 y5).bind λ y10 => some (.next (w64 (z0.1 + 1), w64 (z0.2.1 + 1), y10)) else some (.next (z0.1, w64 (z0.2.1 + 1), z0.2.2)) else some (.brk (z0.1, z0.2.1, z0.2.2))
def P4 (x0 : List Aj) : Option ((List Aj)) :=
 (Vm x0).bind λ y1 => bif (y1 == (-1)) then some x0 else andThen (whileN Of 1152921504606846976 (y1, w64 (y1 + 1), x0)) (λ _ => none) λ z0 => (bndI z0.2.2.length z0.1 (z0.2.2.length : Int)).bind λ u13 => (bndI (Gj z0.2.2 (Int.toNat z0.1) ((Int.toNat (z0.2.2.length : Int)) - (Int.toNat z0.1)) (⟨([] : List Int), ([] : List Int), ([] : List Int)⟩ : Aj)).length 0 z0.1).bind λ u15 => some ((Gj z0.2.2 (Int.toNat z0.1) ((Int.toNat (z0.2.2.length : Int)) - (Int.toNat z0.1)) (⟨([] : List Int), ([] : List Int), ([] : List Int)⟩ : Aj)).take ((Int.toNat z0.1) - 0))
def vB (n0 : Nat) (a0 : Int) (z0 : (List Aj)) : Option (Ctl ((List Aj)) Unit) :=
 (getI z0 a0).bind λ y8 => (appI 9 y8.Am [cnt 0 n0]).bind λ y10 => (setI z0 a0 (⟨y10, y8.Ac, y8.Ae⟩ : Aj)).bind λ y12 => some (.next y12)
def Ay7 (x0 : Aa) (z1 : Int × (List Aj)) : Bool := decide (z1.1 < (x0.Ac.length : Int))
def vA (x0 : Aa) (x1 : Ab) (y4 : (List Int)) (z1 : Int × (List Aj)) : Option (Ctl (Int × (List Aj)) Unit) :=
 bif (Ay7 x0 z1) then (Z4 x0 x1 z1.1).bind λ y15 => bif y15.2 then (getI y4 y15.1).bind λ y18 => (getI z1.2 y18).bind λ y20 => (appI 9 y20.Ac [z1.1]).bind λ y22 => (setI z1.2 y18 (⟨y20.Am, y22, y20.Ae⟩ : Aj)).bind λ y24 => some (.next (w64 (z1.1 + 1), y24)) else some (.next (w64 (z1.1 + 1), z1.2)) else some (.brk (z1.1, z1.2))
def Ay6 (x0 : Aa) (z2 : Int × (List Aj)) : Bool := decide (z2.1 < (x0.Ae.length : Int))
def uZ (x0 : Aa) (x1 : Ab) (y4 : (List Int)) (z2 : Int × (List Aj)) : Option (Ctl (Int × (List Aj)) Unit) :=
 bif (Ay6 x0 z2) then (Z3 x0 x1 z2.1).bind λ y27 => bif y27.2 then (getI y4 y27.1).bind λ y30 => (getI z2.2 y30).bind λ y32 => (appI 9 y32.Ae [z2.1]).bind λ y34 => (setI z2.2 y30 (⟨y32.Am, y32.Ac, y34⟩ : Aj)).bind λ y36 => some (.next (w64 (z2.1 + 1), y36)) else some (.next (w64 (z2.1 + 1), z2.2)) else some (.brk (z2.1, z2.2))
def F89 (x0 : Aa) (x1 : Ab) : Option ((List Aj)) :=
 (F43 x0 x1).bind λ y1 => bif (y1 != 0) then some ([] : List Aj) else (Abb x0 x1).bind λ y4 => (mkI 73 x0.Am (⟨([] : List Int), ([] : List Int), ([] : List Int)⟩ : Aj)).bind λ y6 => andThen (foldI vB y4 0 y6) (λ _ => none) λ z0 => andThen (whileN (vA x0 x1 y4) 1152921504606846976 (0, z0)) (λ _ => none) λ z1 => andThen (whileN (uZ x0 x1 y4) 1152921504606846976 (0, z1.2)) (λ _ => none) λ z2 => (P4 z2.2).bind λ y38 => some y38
def Oh (x2 : Ag) (n0 : Nat) (a0 : Int) (z0 : (List Ag)) : Option (Ctl ((List Ag)) Unit) :=
 (getI z0 a0).bind λ y1 => (setI z0 a0 (⟨y1.State, y1.Since, x2.Ap, y1.Phase⟩ : Ag)).bind λ y3 => (getI y3 a0).bind λ y5 => (setI y3 a0 (⟨y5.State, y5.Since, y5.Ap, x2.Phase⟩ : Ag)).bind λ y7 => some (.next y7)
def M7 (x0 : Ab) (x1 : List Int) (x2 : Ag) : Option ((List Ag)) :=
 andThen (foldI (Oh x2) x1 0 x0.Ac) (λ _ => none) λ z0 => some z0
def Aqh (a0 : Aj) : Bool := decide ((a0.Ac.length : Int) > 0)
def vJ (x1 : Ab) (y4 : Ab) (n0 : Nat) (a0 : Aj) (z0 : (List Ag)) : Option (Ctl ((List Ag)) Unit) :=
 bif (Aqh a0) then (getI a0.Ac 0).bind λ y9 => (getI x1.Ac y9).bind λ y11 => (M7 (⟨y4.Ah, z0, y4.As, y4.Aq⟩ : Ab) a0.Ac y11).bind λ y13 => some (.next y13) else some (.next z0)
def F57 (x0 : Aa) (x1 : Ab) : Option (Ab × Int) :=
 (F43 x0 x1).bind λ y1 => bif (y1 != 0) then some ((⟨([] : List Bool), ([] : List Ag), ([] : List Int), ([] : List An)⟩ : Ab), y1) else (Il x1).bind λ y4 => (F89 x0 x1).bind λ y6 => andThen (foldI (vJ x1 y4) y6 0 y4.Ac) (λ _ => none) λ z0 => some ((⟨y4.Ah, z0, y4.As, y4.Aq⟩ : Ab), 0)
def F59 (x0 : Bh) : Bool :=
 ((((((decide (x0.Stop >= 1)) && (decide (x0.Stop <= 99))) && (decide (x0.Start > x0.Stop))) && (decide (x0.Start <= 100))) && (decide (x0.Delay >= 0))) && (decide (x0.Delay <= 600)))
def Qa (x1 : List Bool) (n0 : Nat) (a0 : Bool) (z0 : Unit) : Option (Ctl Unit Bool) :=
 (getI x1 (cnt 0 n0)).bind λ y2 => bif !(a0 == y2) then some (.ret false) else some (.next ())
def Z9 (x0 : List Bool) (x1 : List Bool) : Option Bool :=
 bif ((x0.length : Int) != (x1.length : Int)) then some false else andThen (foldI (Qa x1) x0 0 ()) some λ z0 => some true
def Auy (a0 : Ag) (y2 : Ag) : Bool := !((a0.State == y2.State) && ((a0.Since == y2.Since) && ((a0.Ap == y2.Ap) && ((a0.Phase == y2.Phase) && true))))
def P_ (x1 : List Ag) (n0 : Nat) (a0 : Ag) (z0 : Unit) : Option (Ctl Unit Bool) :=
 (getI x1 (cnt 0 n0)).bind λ y2 => bif (Auy a0 y2) then some (.ret false) else some (.next ())
def Z8 (x0 : List Ag) (x1 : List Ag) : Option Bool :=
 bif ((x0.length : Int) != (x1.length : Int)) then some false else andThen (foldI (P_ x1) x0 0 ()) some λ z0 => some true
def P9 (x1 : List Int) (n0 : Nat) (a0 : Int) (z0 : Unit) : Option (Ctl Unit Bool) :=
 (getI x1 (cnt 0 n0)).bind λ y2 => bif (a0 != y2) then some (.ret false) else some (.next ())
def Z7 (x0 : List Int) (x1 : List Int) : Option Bool :=
 bif ((x0.length : Int) != (x1.length : Int)) then some false else andThen (foldI (P9 x1) x0 0 ()) some λ z0 => some true
def Aux (a0 : An) (y2 : An) : Bool := !((a0.Kind == y2.Kind) && ((a0.Number == y2.Number) && true))
def P8 (x1 : List An) (n0 : Nat) (a0 : An) (z0 : Unit) : Option (Ctl Unit Bool) :=
 (getI x1 (cnt 0 n0)).bind λ y2 => bif (Aux a0 y2) then some (.ret false) else some (.next ())
def Z6 (x0 : List An) (x1 : List An) : Option Bool :=
 bif ((x0.length : Int) != (x1.length : Int)) then some false else andThen (foldI (P8 x1) x0 0 ()) some λ z0 => some true
def F60 (x0 : Ab) (x1 : Ab) : Option Bool :=
 (Z9 x0.Ah x1.Ah).bind λ y1 => (A3 [(y1, true)] (Z8 x0.Ac x1.Ac) default).bind λ y3 => (A3 [((y1 && y3), true)] (Z7 x0.As x1.As) default).bind λ y5 => (A3 [(((y1 && y3) && y5), true)] (Z6 x0.Aq x1.Aq) default).bind λ y7 => some (((y1 && y3) && y5) && y7)
def Ry (x0 : Int) (x1 : A0) : Bool :=
 ((decide (x0 >= (-1))) && (decide (x0 <= x1.Time)))
def Cv (x0 : Az) (x1c0 : A0) : Bool × A0 :=
 (((!(Ry x0.High x1c0)) || (!(Ry x0.Low x1c0))), x1c0)
def Yz (z0 : Sg0) (a0 : Az) : Bool := (Cv a0 (⟨z0.1, (⟨z0.2.1, z0.2.2.1, z0.2.2.2.1, z0.2.2.2.2.1⟩ : Ab), z0.2.2.2.2.2.1, z0.2.2.2.2.2.2⟩ : A0)).1
def Og (n0 : Nat) (a0 : Az) (z0 : Sg0) : Option (Ctl (Sg0) (Int × A0)) :=
 bif (Yz z0 a0) then some (.ret (cnt 0 n0, (⟨((Cv a0 (⟨z0.1, (⟨z0.2.1, z0.2.2.1, z0.2.2.2.1, z0.2.2.2.2.1⟩ : Ab), z0.2.2.2.2.2.1, z0.2.2.2.2.2.2⟩ : A0)).2).Time, (((Cv a0 (⟨z0.1, (⟨z0.2.1, z0.2.2.1, z0.2.2.2.1, z0.2.2.2.2.1⟩ : Ab), z0.2.2.2.2.2.1, z0.2.2.2.2.2.2⟩ : A0)).2).Power), ((Cv a0 (⟨z0.1, (⟨z0.2.1, z0.2.2.1, z0.2.2.2.1, z0.2.2.2.2.1⟩ : Ab), z0.2.2.2.2.2.1, z0.2.2.2.2.2.2⟩ : A0)).2).A5, ((Cv a0 (⟨z0.1, (⟨z0.2.1, z0.2.2.1, z0.2.2.2.1, z0.2.2.2.2.1⟩ : Ab), z0.2.2.2.2.2.1, z0.2.2.2.2.2.2⟩ : A0)).2).A4⟩ : A0))) else some (.next (((Cv a0 (⟨z0.1, (⟨z0.2.1, z0.2.2.1, z0.2.2.2.1, z0.2.2.2.2.1⟩ : Ab), z0.2.2.2.2.2.1, z0.2.2.2.2.2.2⟩ : A0)).2).Time, (((Cv a0 (⟨z0.1, (⟨z0.2.1, z0.2.2.1, z0.2.2.2.1, z0.2.2.2.2.1⟩ : Ab), z0.2.2.2.2.2.1, z0.2.2.2.2.2.2⟩ : A0)).2).Power).Ah, (((Cv a0 (⟨z0.1, (⟨z0.2.1, z0.2.2.1, z0.2.2.2.1, z0.2.2.2.2.1⟩ : Ab), z0.2.2.2.2.2.1, z0.2.2.2.2.2.2⟩ : A0)).2).Power).Ac, (((Cv a0 (⟨z0.1, (⟨z0.2.1, z0.2.2.1, z0.2.2.2.1, z0.2.2.2.2.1⟩ : Ab), z0.2.2.2.2.2.1, z0.2.2.2.2.2.2⟩ : A0)).2).Power).As, (((Cv a0 (⟨z0.1, (⟨z0.2.1, z0.2.2.1, z0.2.2.2.1, z0.2.2.2.2.1⟩ : Ab), z0.2.2.2.2.2.1, z0.2.2.2.2.2.2⟩ : A0)).2).Power).Aq, ((Cv a0 (⟨z0.1, (⟨z0.2.1, z0.2.2.1, z0.2.2.2.1, z0.2.2.2.2.1⟩ : Ab), z0.2.2.2.2.2.1, z0.2.2.2.2.2.2⟩ : A0)).2).A5, ((Cv a0 (⟨z0.1, (⟨z0.2.1, z0.2.2.1, z0.2.2.2.1, z0.2.2.2.2.1⟩ : Ab), z0.2.2.2.2.2.1, z0.2.2.2.2.2.2⟩ : A0)).2).A4))
def yF (x0 : List Az) (x1c0c0 : A0) : Option (Int × A0) :=
 andThen (foldI Og x0 0 (x1c0c0.Time, x1c0c0.Power.Ah, x1c0c0.Power.Ac, x1c0c0.Power.As, x1c0c0.Power.Aq, x1c0c0.A5, x1c0c0.A4)) some λ z0 => some ((-1), (⟨z0.1, (⟨z0.2.1, z0.2.2.1, z0.2.2.2.1, z0.2.2.2.2.1⟩ : Ab), z0.2.2.2.2.2.1, z0.2.2.2.2.2.2⟩ : A0))
def vI (x0 : List Az) (x1c0c0 : A0) : Option (Bool × A0) :=
 (yF x0 x1c0c0).bind λ y1 => some (decide (y1.1 >= 0), y1.2)
def Azc (x1 : Bh) (x2 : A0) : Bool := (((!(F59 x1)) || (decide (x2.Time < 0))) || (decide (x2.Time > 2147483648)))
def F21 (x0 : Aa) (x1 : Bh) (x2 : A0) : Option Int :=
 (F57 x0 x2.Power).bind λ y1 => bif (y1.2 != 0) then some y1.2 else bif (Azc x1 x2) then some 1 else bif ((x2.A5.length : Int) != x0.Am) then some 8 else (F60 x2.Power y1.1).bind λ y6 => (A3 [(!y6, false)] (vI x2.A5 x2) (default, x2)).bind λ y8 => bif ((!y6) || y8.1) then some 11 else some 0
def Aru (x0 : List Az) : Option (List Az) := appI 17 [] x0
def F84 (x0 : List A9) : Option (List A9) := appI 41 [] x0
def F63 (x0 : Aa) (x1 : A0) : Option A6 :=
 (Il x1.Power).bind λ y1 => (Aru x1.A5).bind λ y3 => (F84 x1.A4).bind λ y5 => some (⟨(⟨x1.Time, y1, y3, y5⟩ : A0), x0, ([] : List A9), ([] : List Ab)⟩ : A6)
def vF (x0 : A6) (x1 : Ab) : Option A6 :=
 (Il x1).bind λ y3 => (appI 97 x0.states [y3]).bind λ y5 => some (⟨x0.Av, x0.Al, x0.events, y5⟩ : A6)
def J2 (x0 : Aa) (x1 : Int) (x2 : Int) : Bool :=
 bif (x1 == 1) then ((decide (x2 >= 0)) && (decide (x2 < (x0.Ac.length : Int)))) else bif (x1 == 2) then ((decide (x2 >= 0)) && (decide (x2 < (x0.Af.length : Int)))) else bif (x1 == 3) then ((decide (x2 >= 0)) && (decide (x2 < x0.Am))) else bif (x1 == 4) then ((decide (x2 >= 0)) && (decide (x2 < (x0.Ae.length : Int)))) else ((decide (x2 >= 0)) && (decide (x2 < 0)))
def Abf (x1 : Ao) : Option (Ctl Bool Unit) :=
 bif (x1.Kind == 1) then some (.next (x1.Kind == 1)) else some (.next (x1.Kind == 2))
def Abe (x1 : Ao) : Option (Ctl Bool Unit) :=
 bif (x1.Kind == 3) then some (.next (x1.Kind == 3)) else some (.next (x1.Kind == 4))
def Abg (x0 : Aa) (x1 : Ao) : Option Bool :=
 andThen (Abf x1) (λ _ => none) λ z0 => bif z0 then some (J2 x0 2 x1.Unit) else andThen (Abe x1) (λ _ => none) λ z1 => bif z1 then some (J2 x0 1 x1.Unit) else bif (x1.Kind == 5) then some (J2 x0 4 x1.Unit) else bif (x1.Kind == 6) then some ((J2 x0 1 x1.Unit) && (J2 x0 3 x1.Value)) else bif (x1.Kind == 8) then some (J2 x0 x1.Value x1.Unit) else bif (x1.Kind == 9) then some (J2 x0 x1.Value x1.Unit) else some true
def A4w (x1 : An) (a0 : An) : Bool := ((x1.Kind == a0.Kind) && ((x1.Number == a0.Number) && true))
def Aa7 (x1 : An) (n0 : Nat) (a0 : An) (z0 : Unit) : Option (Ctl Unit Int) :=
 bif (A4w x1 a0) then some (.ret (cnt 0 n0)) else some (.next ())
def Arm (x0 : List An) (x1 : An) : Option Int :=
 andThen (foldI (Aa7 x1) x0 0 ()) some λ z0 => some (-1)
def Ars (x0 : List An) (x1 : An) : Option Bool :=
 (Arm x0 x1).bind λ y1 => some (decide (y1 >= 0))
def Hr (x0 : Ab) (x1 : Int) (x2 : Int) : Option Bool :=
 (Ars x0.Aq (⟨x1, x2⟩ : An)).bind λ y1 => some y1
def Ak6 (x0 : Aa) (x1 : Ab) (x2 : Int) : Option (Int × Bool) :=
 (F43 x0 x1).bind λ y1 => bif (y1 != 0) then some (0, false) else (Z3 x0 x1 x2).bind λ y4 => some (y4.1, y4.2)
def Akh (x0 : Aa) (x1 : Ab) (x2 : Int) : Option Bool :=
 (getI x0.Af x2).bind λ y1 => (getI x1.Ah x2).bind λ y3 => (A3 [(y3, false)] (Hr x1 2 x2) default).bind λ y5 => (A3 [((y3 || y5), false)] (Hr x1 3 y1.A) default).bind λ y7 => bif ((y3 || y5) || y7) then some false else bif (y1.Kind == 1) then (Hr x1 3 y1.B).bind λ y11 => some (!y11) else bif (y1.Kind == 2) then (Hr x1 1 y1.B).bind λ y14 => (A3 [(!y14, true)] (getI x1.Ac y1.B) default).bind λ y16 => some ((!y14) && (y16.State == 2)) else (Ak6 x0 x1 y1.B).bind λ y18 => (Hr x1 4 y1.B).bind λ y20 => some ((!y20) && (!y18.2))
def J3 (x2 : Int) (n0 : Nat) (a0 : Aj) (z0 : Unit) : Option (Ctl Unit (Aj × Bool)) :=
 (M3 a0.Am x2).bind λ y3 => bif y3 then some (.ret (a0, true)) else some (.next ())
def Gm (x0 : Aa) (x1 : Ab) (x2 : Int) : Option (Aj × Bool) :=
 (F89 x0 x1).bind λ y1 => andThen (foldI (J3 x2) y1 0 ()) some λ z0 => some ((⟨([] : List Int), ([] : List Int), ([] : List Int)⟩ : Aj), false)
def U1 (x0 : Aa) (x1 : Ab) (x2 : Int) : Option (Int × Bool) :=
 (Gm x0 x1 x2).bind λ y1 => bif ((y1.1.Ac.length : Int) == 0) then some (0, false) else (getI y1.1.Ac 0).bind λ y4 => some (y4, true)
def Fq (x0 : Int) : Int :=
 bif decide ((Int.tmod x0 3600) < 0) then w64 ((Int.tmod x0 3600) + 3600) else Int.tmod x0 3600
def Auq (x0 : Int) (x1 : Int) : Bool := decide ((Fq (w64 ((Fq x1) - (Fq x0)))) > 1800)
def Ark (x0 : Int) (x1 : Int) : Int :=
 bif (Auq x0 x1) then w64 ((Fq (w64 ((Fq x1) - (Fq x0)))) - 3600) else Fq (w64 ((Fq x1) - (Fq x0)))
def A4v (x1 : Ag) (x2 : Ag) : Bool := ((decide ((min x1.Ap x2.Ap) < 0)) || (decide ((max x1.Ap x2.Ap) > 6000)))
def Ake (x0 : Aa) (x1 : Ag) (x2 : Ag) : Bool :=
 bif (A4v x1 x2) then false else ((decide ((max (w64 (x1.Ap - x2.Ap)) (w64 (x2.Ap - x1.Ap))) <= x0.Ap)) && (decide ((max (Ark x1.Phase x2.Phase) (w64 (0 - Ark x1.Phase x2.Phase))) <= x0.Phase)))
def Akg (x0 : Aa) (x1 : Ab) (x2 : Ak) : Option Bool :=
 (U1 x0 x1 x2.A).bind λ y1 => bif !y1.2 then some true else bif (x2.Kind == 1) then (U1 x0 x1 x2.B).bind λ y5 => (A3 [(!y5.2, false)] (getI x1.Ac y1.1) default).bind λ y7 => (A3 [(!y5.2, false)] (getI x1.Ac y5.1) default).bind λ y9 => some ((!y5.2) || (Ake x0 y7 y9)) else bif (x2.Kind == 2) then (getI x1.Ac y1.1).bind λ y12 => (getI x1.Ac x2.B).bind λ y14 => some (Ake x0 y12 y14) else some true
def Aur (x0 : Aa) (x2 : Int) : Bool := ((decide (x2 < 0)) || (decide (x2 >= (x0.Af.length : Int))))
def Akj (x0 : Aa) (x1 : Ab) (x2 : Int) : Option Int :=
 (F43 x0 x1).bind λ y1 => bif (y1 != 0) then some y1 else bif (Aur x0 x2) then some 10 else (Akh x0 x1 x2).bind λ y5 => bif !y5 then some 11 else (getI x0.Af x2).bind λ y8 => (Gm x0 x1 y8.A).bind λ y10 => (A3 [((y8.Kind == 1), true)] (M3 y10.1.Am y8.B) default).bind λ y12 => (A3 [(!((y8.Kind == 1) && y12), true)] (Akg x0 x1 y8) default).bind λ y14 => bif ((!((y8.Kind == 1) && y12)) && (!y14)) then some 12 else some 0
def Z1 (x0 : Aa) (x1 : Ab) (x2 : Int) : Option (Ab × Int) :=
 (Akj x0 x1 x2).bind λ y1 => bif (y1 != 0) then some ((⟨([] : List Bool), ([] : List Ag), ([] : List Int), ([] : List An)⟩ : Ab), y1) else (Il x1).bind λ y4 => (getI y4.Ah x2).bind λ y6 => (setI y4.Ah x2 true).bind λ y8 => (F57 x0 (⟨y8, y4.Ac, y4.As, y4.Aq⟩ : Ab)).bind λ y10 => some (y10.1, y10.2)
def Aih (x0 : Aa) (x2 : Int) : Bool := ((decide (x2 < 0)) || (decide (x2 >= (x0.Af.length : Int))))
def Z0 (x0 : Aa) (x1 : Ab) (x2 : Int) : Option (Ab × Int) :=
 (F43 x0 x1).bind λ y1 => bif (y1 != 0) then some ((⟨([] : List Bool), ([] : List Ag), ([] : List Int), ([] : List An)⟩ : Ab), y1) else bif (Aih x0 x2) then some ((⟨([] : List Bool), ([] : List Ag), ([] : List Int), ([] : List An)⟩ : Ab), 10) else (getI x1.Ah x2).bind λ y5 => (A3 [(!y5, false)] (Hr x1 2 x2) default).bind λ y7 => bif ((!y5) || y7) then some ((⟨([] : List Bool), ([] : List Ag), ([] : List Int), ([] : List An)⟩ : Ab), 11) else (Il x1).bind λ y10 => (getI y10.Ah x2).bind λ y12 => (setI y10.Ah x2 false).bind λ y14 => some ((⟨y14, y10.Ac, y10.As, y10.Aq⟩ : Ab), 0)
def Aa6 (x0 : Aa) (x1 : Ab) (x2 : Int) : Option (Int × Bool) :=
 (F43 x0 x1).bind λ y1 => bif (y1 != 0) then some (0, false) else (Z4 x0 x1 x2).bind λ y4 => some (y4.1, y4.2)
def Auu (x0 : Aa) (x2 : Int) (x3 : Int) : Bool := ((((decide (x2 < 0)) || (decide (x2 >= (x0.Ac.length : Int)))) || (decide (x3 < 0))) || (decide (x3 >= x0.Am)))
def Zz (x0 : Aa) (x1 : Ab) (x2 : Int) (x3 : Int) : Option (Ab × Int) :=
 (F43 x0 x1).bind λ y1 => bif (y1 != 0) then some ((⟨([] : List Bool), ([] : List Ag), ([] : List Int), ([] : List An)⟩ : Ab), y1) else bif (Auu x0 x2 x3) then some ((⟨([] : List Bool), ([] : List Ag), ([] : List Int), ([] : List An)⟩ : Ab), 10) else (U1 x0 x1 x3).bind λ y5 => (A3 [(!y5.2, false)] (getI x1.Ac x2) default).bind λ y7 => bif ((!y5.2) || (y7.State != 2)) then some ((⟨([] : List Bool), ([] : List Ag), ([] : List Int), ([] : List An)⟩ : Ab), 11) else (Il x1).bind λ y10 => (Aa6 x0 x1 x2).bind λ y12 => bif y12.2 then (Gm x0 x1 y12.1).bind λ y15 => (getI x1.Ac y5.1).bind λ y17 => (M7 y10 y15.1.Ac y17).bind λ y19 => some ((⟨y10.Ah, y19, y10.As, y10.Aq⟩ : Ab), 0) else (getI x1.Ac y5.1).bind λ y21 => (M7 y10 [x2] y21).bind λ y23 => some ((⟨y10.Ah, y23, y10.As, y10.Aq⟩ : Ab), 0)
def Uv (x0 : Ak) (x1 : Int) : Bool :=
 ((x0.Kind == 2) && (x0.B == x1))
def Kw (x1c0 : Int) (n0 : Nat) (a0 : Ak) (z0 : Unit) : Option (Ctl Unit (Int × Int)) :=
 bif Uv a0 x1c0 then some (.ret (cnt 0 n0, x1c0)) else some (.next ())
def vZ (x0 : List Ak) (x1c0 : Int) : Option (Int × Int) :=
 andThen (foldI (Kw x1c0) x0 0 ()) some λ z0 => some ((-1), x1c0)
def Akf (x0 : Aa) (x1 : Int) : Option Int :=
 (vZ x0.Af x1).bind λ y1 => some y1.1
def M2 (x0 : A2) (x1 : Int) : Option Bool :=
 (Akf x0.Al x1).bind λ y1 => (getI x0.Ar.Ah y1).bind λ y3 => some (!y3)
def M6 (x0 : A2) (x1 : Int) : Option (Int × A2) :=
 (getI x0.Ar.Ac x1).bind λ y1 => (A3 [((y1.State != 0), false)] (Hr x0.Ar 1 x1) default).bind λ y3 => bif ((y1.State != 0) || y3) then some (11, x0) else (getI x0.Al.Ac x1).bind λ y6 => (A3 [((y6.Start == 0), true)] (M2 x0 x1) default).bind λ y8 => bif ((y6.Start == 0) && y8) then (setI x0.Ar.Ac x1 (⟨2, x0.time, 5000, 0⟩ : Ag)).bind λ y11 => some (0, (⟨x0.Al, (⟨x0.Ar.Ah, y11, x0.Ar.As, x0.Ar.Aq⟩ : Ab), x0.time⟩ : A2)) else (setI x0.Ar.Ac x1 (⟨1, x0.time, 5000, 0⟩ : Ag)).bind λ y13 => some (0, (⟨x0.Al, (⟨x0.Ar.Ah, y13, x0.Ar.As, x0.Ar.Aq⟩ : Ab), x0.time⟩ : A2))
def Aig (y1 : Ag) (y3 : Bool) : Bool := (((y1.State != 1) && (y1.State != 2)) || (!y3))
def M5 (x0 : A2) (x1 : Int) : Option (Int × A2) :=
 (getI x0.Ar.Ac x1).bind λ y1 => (A3 [(((y1.State != 1) && (y1.State != 2)), false)] (M2 x0 x1) default).bind λ y3 => bif (Aig y1 y3) then some (11, x0) else (setI x0.Ar.Ac x1 (⟨0, y1.Since, y1.Ap, y1.Phase⟩ : Ag)).bind λ y6 => some (0, (⟨x0.Al, (⟨x0.Ar.Ah, y6, x0.Ar.As, x0.Ar.Aq⟩ : Ab), x0.time⟩ : A2))
def Aif (x2 : Int) (y1 : A1) : Bool := ((decide (x2 < 0)) || (decide (x2 > y1.Load)))
def M4 (x0 : A2) (x1 : Int) (x2 : Int) : Option (Int × A2) :=
 (A3 [(decide (x2 < 0), false)] (getI x0.Al.Ae x1) default).bind λ y1 => bif (Aif x2 y1) then some (1, x0) else (getI x0.Ar.As x1).bind λ y4 => (setI x0.Ar.As x1 x2).bind λ y6 => some (0, (⟨x0.Al, (⟨x0.Ar.Ah, x0.Ar.Ac, y6, x0.Ar.Aq⟩ : Ab), x0.time⟩ : A2))
def Wx (n0 : Nat) (a0 : Ag) (z0 : (List Ag)) : Option (Ctl ((List Ag)) Unit) :=
 bif (a0.State == 2) then (getI z0 (cnt 0 n0)).bind λ y7 => (setI z0 (cnt 0 n0) (⟨y7.State, y7.Since, y7.Ap, Fq (w64 (a0.Phase + (w64 (36 * (w64 (a0.Ap - 5000))))))⟩ : Ag)).bind λ y9 => some (.next y9) else some (.next z0)
def Aki (x0 : Aa) (x1 : Ab) : Option (Ab × Int) :=
 (F43 x0 x1).bind λ y1 => bif (y1 != 0) then some ((⟨([] : List Bool), ([] : List Ag), ([] : List Int), ([] : List An)⟩ : Ab), y1) else (Il x1).bind λ y4 => andThen (foldI Wx x1.Ac 0 y4.Ac) (λ _ => none) λ z0 => some ((⟨y4.Ah, z0, y4.As, y4.Aq⟩ : Ab), 0)
def Aie (y1 : Ab × Int) (z0 : Int × (List Ag)) : Bool := decide (z0.1 < (y1.1.Ac.length : Int))
def Aid (x0 : A2) (y4 : Ag) (y6 : Bool) (y8 : Bg) : Bool := (((y4.State == 1) && y6) && (decide ((w64 (y4.Since + y8.Start)) <= (w64 (x0.time + 1)))))
def Od (x0 : A2) (y1 : Ab × Int) (z0 : Int × (List Ag)) : Option (Ctl (Int × (List Ag)) Unit) :=
 bif (Aie y1 z0) then (getI z0.2 z0.1).bind λ y4 => (A3 [((y4.State == 1), true)] (M2 (⟨x0.Al, (⟨y1.1.Ah, z0.2, y1.1.As, y1.1.Aq⟩ : Ab), x0.time⟩ : A2) z0.1) default).bind λ y6 => (A3 [(((y4.State == 1) && y6), true)] (getI x0.Al.Ac z0.1) default).bind λ y8 => bif (Aid x0 y4 y6 y8) then (setI z0.2 z0.1 (⟨2, y4.Since, y4.Ap, y4.Phase⟩ : Ag)).bind λ y11 => some (.next (w64 (z0.1 + 1), y11)) else some (.next (w64 (z0.1 + 1), z0.2)) else some (.brk (z0.1, z0.2))
def Ky (x0 : A2) : Option A2 :=
 (Aki x0.Al x0.Ar).bind λ y1 => andThen (whileN (Od x0 y1) 1152921504606846976 (0, y1.1.Ac)) (λ _ => none) λ z0 => some (⟨x0.Al, (⟨y1.1.Ah, z0.2, y1.1.As, y1.1.Aq⟩ : Ab), x0.time⟩ : A2)
def Ox (x0 : An) (x1 : An) : Int :=
 bif (x0.Kind != x1.Kind) then w64 (x0.Kind - x1.Kind) else w64 (x0.Number - x1.Number)
def N6 (x0 : List An) (x1 : An) (z0 : Int × Int) : Option (Ctl (Int × Int) Unit) :=
 bif decide (z0.1 < z0.2) then (getI x0 (w64 (Fw .u64 (IntKind.wrap .u64 (w64 (z0.1 + z0.2))) 1))).bind λ y2 => bif decide ((Ox y2 x1) < 0) then some (.next (w64 ((w64 (Fw .u64 (IntKind.wrap .u64 (w64 (z0.1 + z0.2))) 1)) + 1), z0.2)) else some (.next (z0.1, w64 (Fw .u64 (IntKind.wrap .u64 (w64 (z0.1 + z0.2))) 1))) else some (.brk (z0.1, z0.2))
def Uz (x0 : List An) (x1 : An) : Option (Int × Bool) :=
 andThen (whileN (N6 x0 x1) 1152921504606846976 (0, (x0.length : Int))) (λ _ => none) λ z0 => (A3 [(decide (z0.1 < (x0.length : Int)), true)] (getI x0 z0.1) default).bind λ y5 => some (z0.1, ((decide (z0.1 < (x0.length : Int))) && ((Ox y5 x1) == 0)))
def Pv (x0 : List An) (x1 : Int) (x2 : List An) : Option ((List An)) :=
 (bndI x0.length x1 (x0.length : Int)).bind λ u2 => bif ((x2.length : Int) == 0) then some x0 else bif (x1 == (x0.length : Int)) then (appI 17 x0 x2).bind λ y5 => some y5 else insI 17 x0 x1 x2
def Uy (x0 : List An) (x1 : Int) (x2 : Int) : Option ((List An)) :=
 (bnd3I x0.length x1 x2 (x0.length : Int)).bind λ u2 => bif (x1 == x2) then some x0 else (bndI x0.length 0 x1).bind λ u5 => (bndI x0.length x2 (x0.length : Int)).bind λ u7 => (appPI x0 ((Int.toNat x1) - 0) ((x0.drop (Int.toNat x2)).take ((Int.toNat (x0.length : Int)) - (Int.toNat x2)))).bind λ y8 => (bndI (y8.length - 0) (((((Int.toNat x1) - 0) + ((x0.drop (Int.toNat x2)).take ((Int.toNat (x0.length : Int)) - (Int.toNat x2))).length) : Nat) : Int) (x0.length : Int)).bind λ u11 => some ((Gj y8 (0 + (Int.toNat (((((Int.toNat x1) - 0) + ((x0.drop (Int.toNat x2)).take ((Int.toNat (x0.length : Int)) - (Int.toNat x2))).length) : Nat) : Int))) ((Int.toNat (x0.length : Int)) - (Int.toNat (((((Int.toNat x1) - 0) + ((x0.drop (Int.toNat x2)).take ((Int.toNat (x0.length : Int)) - (Int.toNat x2))).length) : Nat) : Int))) (⟨0, 0⟩ : An)).take (((Int.toNat x1) - 0) + ((x0.drop (Int.toNat x2)).take ((Int.toNat (x0.length : Int)) - (Int.toNat x2))).length))
def Mu (x0 : A2) (x2 : Bool) : Bool := (x2 && (decide ((x0.Ar.Aq.length : Int) >= 32)))
def Oc (x0 : A2) (x1 : An) (x2 : Bool) (y1 : Int × Bool) : Option (Ctl ((List An)) Unit) :=
 bif x2 then (Pv x0.Ar.Aq y1.1 [x1]).bind λ y6 => some (.next y6) else (Uy x0.Ar.Aq y1.1 (w64 (y1.1 + 1))).bind λ y8 => some (.next y8)
def Gb (x0 : A2) (x1 : An) (x2 : Bool) : Option (Int × A2) :=
 (Uz x0.Ar.Aq x1).bind λ y1 => bif (y1.2 == x2) then some (11, x0) else bif (Mu x0 x2) then some (2, x0) else andThen (Oc x0 x1 x2 y1) (λ _ => none) λ z0 => bif (x1.Kind == 1) then (getI x0.Ar.Ac x1.Number).bind λ y11 => (setI x0.Ar.Ac x1.Number (⟨0, y11.Since, y11.Ap, y11.Phase⟩ : Ag)).bind λ y13 => bif x2 then (getI y13 x1.Number).bind λ y16 => (setI y13 x1.Number (⟨3, y16.Since, y16.Ap, y16.Phase⟩ : Ag)).bind λ y18 => some (0, (⟨x0.Al, (⟨x0.Ar.Ah, y18, x0.Ar.As, z0⟩ : Ab), x0.time⟩ : A2)) else some (0, (⟨x0.Al, (⟨x0.Ar.Ah, y13, x0.Ar.As, z0⟩ : Ab), x0.time⟩ : A2)) else some (0, (⟨x0.Al, (⟨x0.Ar.Ah, x0.Ar.Ac, x0.Ar.As, z0⟩ : Ab), x0.time⟩ : A2))
def Ji (x0 : A2) (x1 : Ao) : Option (Int × A2) :=
 bif (x1.Kind == 1) then (Z1 x0.Al x0.Ar x1.Unit).bind λ y2 => some (y2.2, (⟨x0.Al, y2.1, x0.time⟩ : A2)) else bif (x1.Kind == 2) then (Z0 x0.Al x0.Ar x1.Unit).bind λ y5 => some (y5.2, (⟨x0.Al, y5.1, x0.time⟩ : A2)) else bif (x1.Kind == 6) then (Zz x0.Al x0.Ar x1.Unit x1.Value).bind λ y8 => some (y8.2, (⟨x0.Al, y8.1, x0.time⟩ : A2)) else bif (x1.Kind == 3) then (M6 x0 x1.Unit).bind λ y11 => some (y11.1, y11.2) else bif (x1.Kind == 4) then (M5 x0 x1.Unit).bind λ y14 => some (y14.1, y14.2) else bif (x1.Kind == 5) then (M4 x0 x1.Unit x1.Value).bind λ y17 => some (y17.1, y17.2) else bif (x1.Kind == 7) then (Ky x0).bind λ y20 => some (0, y20) else (Gb x0 (⟨x1.Value, x1.Unit⟩ : An) (x1.Kind == 8)).bind λ y22 => some (y22.1, y22.2)
def Aqg (x2 : Int) (x3 : Ao) : Bool := ((((decide (x2 < 0)) || (decide (x2 > 2147483648))) || (decide (x3.Kind < 1))) || (decide (x3.Kind > 9)))
def F83 (x0 : Aa) (x1 : Ab) (x2 : Int) (x3 : Ao) : Option (Ab × Int) :=
 (F43 x0 x1).bind λ y1 => bif (y1 != 0) then some ((⟨([] : List Bool), ([] : List Ag), ([] : List Int), ([] : List An)⟩ : Ab), y1) else bif (Aqg x2 x3) then some ((⟨([] : List Bool), ([] : List Ag), ([] : List Int), ([] : List An)⟩ : Ab), 1) else (Abg x0 x3).bind λ y5 => bif !y5 then some ((⟨([] : List Bool), ([] : List Ag), ([] : List Int), ([] : List An)⟩ : Ab), 10) else (Il x1).bind λ y8 => (Ji (⟨x0, y8, x2⟩ : A2) x3).bind λ y10 => bif (y10.1 != 0) then some ((⟨([] : List Bool), ([] : List Ag), ([] : List Int), ([] : List An)⟩ : Ab), y10.1) else some (y10.2.Ar, 0)
def P7 (x0 : A6) (x1 : Ao) (x2 : Int) : Option A6 :=
 (appI 41 x0.events [(⟨x0.Av.Time, x1, x2⟩ : A9)]).bind λ y1 => some (⟨x0.Av, x0.Al, y1, x0.states⟩ : A6)
def N2 (x0 : A6) (x1 : Ab) : Option A6 :=
 (Il x1).bind λ y3 => (appI 97 x0.states [y3]).bind λ y5 => some (⟨x0.Av, x0.Al, x0.events, y5⟩ : A6)
def Ku (x0 : Int) (x1 : Int) (x2 : Ay) : Option (Bool × Ay) :=
 (Hr x2.Ar x0 x1).bind λ y1 => some (y1, x2)
def U6 (x0 : Ay) (x1 : Ak) : Option (Bool × Ay) :=
 (Ku 3 x1.A x0).bind λ y1 => bif y1.1 then some (true, y1.2) else bif (x1.Kind == 1) then (Ku 3 x1.B y1.2).bind λ y5 => some (y5.1, y5.2) else bif (x1.Kind == 2) then (Ku 1 x1.B y1.2).bind λ y8 => (A3 [(y8.1, false)] (getI y8.2.Ar.Ac x1.B) default).bind λ y10 => some ((y8.1 || (y10.State != 2)), y8.2) else (Ku 4 x1.B y1.2).bind λ y12 => some (y12.1, y12.2)
def M1 (x0 : Ay) (x1 : Int) : Option Ay :=
 (getI x0.Ar.Ah x1).bind λ y1 => (setI x0.Ar.Ah x1 false).bind λ y3 => (appI 25 x0.acts [(⟨2, x1, 0⟩ : Ao)]).bind λ y5 => some (⟨x0.Al, (⟨y3, x0.Ar.Ac, x0.Ar.As, x0.Ar.Aq⟩ : Ab), y5⟩ : Ay)
def Ob (n0 : Nat) (a0 : Ak) (z0 : Sg7) : Option (Ctl (Sg7) Unit) :=
 (getI z0.2.2.2.2.2.2.2.1 (cnt 0 n0)).bind λ y1 => (A3 [(y1, true)] (U6 (⟨(⟨z0.1, z0.2.1, z0.2.2.1, z0.2.2.2.1, z0.2.2.2.2.1, z0.2.2.2.2.2.1⟩ : Aa), (⟨z0.2.2.2.2.2.2.2.1, z0.2.2.2.2.2.2.2.2.1, z0.2.2.2.2.2.2.2.2.2.1, z0.2.2.2.2.2.2.2.2.2.2.1⟩ : Ab), z0.2.2.2.2.2.2.2.2.2.2.2⟩ : Ay) a0) (default, (⟨(⟨z0.1, z0.2.1, z0.2.2.1, z0.2.2.2.1, z0.2.2.2.2.1, z0.2.2.2.2.2.1⟩ : Aa), (⟨z0.2.2.2.2.2.2.2.1, z0.2.2.2.2.2.2.2.2.1, z0.2.2.2.2.2.2.2.2.2.1, z0.2.2.2.2.2.2.2.2.2.2.1⟩ : Ab), z0.2.2.2.2.2.2.2.2.2.2.2⟩ : Ay))).bind λ y3 => bif (y1 && y3.1) then (appI 9 z0.2.2.2.2.2.2.1 [cnt 0 n0]).bind λ y6 => some (.next (y3.2.Al.Am, y3.2.Al.Af, y3.2.Al.Ac, y3.2.Al.Ae, y3.2.Al.Phase, y3.2.Al.Ap, y6, y3.2.Ar.Ah, y3.2.Ar.Ac, y3.2.Ar.As, y3.2.Ar.Aq, y3.2.acts)) else some (.next (y3.2.Al.Am, y3.2.Al.Af, y3.2.Al.Ac, y3.2.Al.Ae, y3.2.Al.Phase, y3.2.Al.Ap, z0.2.2.2.2.2.2.1, y3.2.Ar.Ah, y3.2.Ar.Ac, y3.2.Ar.As, y3.2.Ar.Aq, y3.2.acts))
def Kx (n1 : Nat) (a1 : Int) (z1 : Sg6) : Option (Ctl (Sg6) Unit) :=
 (M1 (⟨(⟨z1.1, z1.2.1, z1.2.2.1, z1.2.2.2.1, z1.2.2.2.2.1, z1.2.2.2.2.2.1⟩ : Aa), (⟨z1.2.2.2.2.2.2.1, z1.2.2.2.2.2.2.2.1, z1.2.2.2.2.2.2.2.2.1, z1.2.2.2.2.2.2.2.2.2.1⟩ : Ab), z1.2.2.2.2.2.2.2.2.2.2⟩ : Ay) a1).bind λ y8 => some (.next (y8.Al.Am, y8.Al.Af, y8.Al.Ac, y8.Al.Ae, y8.Al.Phase, y8.Al.Ap, y8.Ar.Ah, y8.Ar.Ac, y8.Ar.As, y8.Ar.Aq, y8.acts))
def Va (x0 : Ay) : Option Ay :=
 andThen (foldI Ob x0.Al.Af 0 (x0.Al.Am, x0.Al.Af, x0.Al.Ac, x0.Al.Ae, x0.Al.Phase, x0.Al.Ap, ([] : List Int), x0.Ar.Ah, x0.Ar.Ac, x0.Ar.As, x0.Ar.Aq, x0.acts)) (λ _ => none) λ z0 => andThen (foldI Kx z0.2.2.2.2.2.2.1 0 (z0.1, z0.2.1, z0.2.2.1, z0.2.2.2.1, z0.2.2.2.2.1, z0.2.2.2.2.2.1, z0.2.2.2.2.2.2.2.1, z0.2.2.2.2.2.2.2.2.1, z0.2.2.2.2.2.2.2.2.2.1, z0.2.2.2.2.2.2.2.2.2.2.1, z0.2.2.2.2.2.2.2.2.2.2.2)) (λ _ => none) λ z1 => some (⟨(⟨z1.1, z1.2.1, z1.2.2.1, z1.2.2.2.1, z1.2.2.2.2.1, z1.2.2.2.2.2.1⟩ : Aa), (⟨z1.2.2.2.2.2.2.1, z1.2.2.2.2.2.2.2.1, z1.2.2.2.2.2.2.2.2.1, z1.2.2.2.2.2.2.2.2.2.1⟩ : Ab), z1.2.2.2.2.2.2.2.2.2.2⟩ : Ay)
def Vq (x0 : Aa) (x1 : Ab) (x2 : Int) : Option Bool :=
 (Gm x0 x1 x2).bind λ y1 => some (decide ((y1.1.Ac.length : Int) > 0))
def U5 (x0 : Ak) (x1 : Ay) : Option (Bool × Ay) :=
 (A3 [((x0.Kind == 3), true)] (Vq x1.Al x1.Ar x0.A) default).bind λ y1 => some (((x0.Kind == 3) && (!y1)), x1)
def Oa (n0 : Nat) (a0 : Ak) (z0 : Sg7) : Option (Ctl (Sg7) Unit) :=
 (getI z0.2.2.2.2.2.2.2.1 (cnt 0 n0)).bind λ y1 => (A3 [(y1, true)] (U5 a0 (⟨(⟨z0.1, z0.2.1, z0.2.2.1, z0.2.2.2.1, z0.2.2.2.2.1, z0.2.2.2.2.2.1⟩ : Aa), (⟨z0.2.2.2.2.2.2.2.1, z0.2.2.2.2.2.2.2.2.1, z0.2.2.2.2.2.2.2.2.2.1, z0.2.2.2.2.2.2.2.2.2.2.1⟩ : Ab), z0.2.2.2.2.2.2.2.2.2.2.2⟩ : Ay)) (default, (⟨(⟨z0.1, z0.2.1, z0.2.2.1, z0.2.2.2.1, z0.2.2.2.2.1, z0.2.2.2.2.2.1⟩ : Aa), (⟨z0.2.2.2.2.2.2.2.1, z0.2.2.2.2.2.2.2.2.1, z0.2.2.2.2.2.2.2.2.2.1, z0.2.2.2.2.2.2.2.2.2.2.1⟩ : Ab), z0.2.2.2.2.2.2.2.2.2.2.2⟩ : Ay))).bind λ y3 => bif (y1 && y3.1) then (appI 9 z0.2.2.2.2.2.2.1 [cnt 0 n0]).bind λ y6 => some (.next (y3.2.Al.Am, y3.2.Al.Af, y3.2.Al.Ac, y3.2.Al.Ae, y3.2.Al.Phase, y3.2.Al.Ap, y6, y3.2.Ar.Ah, y3.2.Ar.Ac, y3.2.Ar.As, y3.2.Ar.Aq, y3.2.acts)) else some (.next (y3.2.Al.Am, y3.2.Al.Af, y3.2.Al.Ac, y3.2.Al.Ae, y3.2.Al.Phase, y3.2.Al.Ap, z0.2.2.2.2.2.2.1, y3.2.Ar.Ah, y3.2.Ar.Ac, y3.2.Ar.As, y3.2.Ar.Aq, y3.2.acts))
def U9 (n1 : Nat) (a1 : Int) (z1 : Sg6) : Option (Ctl (Sg6) Unit) :=
 (M1 (⟨(⟨z1.1, z1.2.1, z1.2.2.1, z1.2.2.2.1, z1.2.2.2.2.1, z1.2.2.2.2.2.1⟩ : Aa), (⟨z1.2.2.2.2.2.2.1, z1.2.2.2.2.2.2.2.1, z1.2.2.2.2.2.2.2.2.1, z1.2.2.2.2.2.2.2.2.2.1⟩ : Ab), z1.2.2.2.2.2.2.2.2.2.2⟩ : Ay) a1).bind λ y8 => some (.next (y8.Al.Am, y8.Al.Af, y8.Al.Ac, y8.Al.Ae, y8.Al.Phase, y8.Al.Ap, y8.Ar.Ah, y8.Ar.Ac, y8.Ar.As, y8.Ar.Aq, y8.acts))
def U_ (x0 : Ay) : Option Ay :=
 andThen (foldI Oa x0.Al.Af 0 (x0.Al.Am, x0.Al.Af, x0.Al.Ac, x0.Al.Ae, x0.Al.Phase, x0.Al.Ap, ([] : List Int), x0.Ar.Ah, x0.Ar.Ac, x0.Ar.As, x0.Ar.Aq, x0.acts)) (λ _ => none) λ z0 => andThen (foldI U9 z0.2.2.2.2.2.2.1 0 (z0.1, z0.2.1, z0.2.2.1, z0.2.2.2.1, z0.2.2.2.2.1, z0.2.2.2.2.2.1, z0.2.2.2.2.2.2.2.1, z0.2.2.2.2.2.2.2.2.1, z0.2.2.2.2.2.2.2.2.2.1, z0.2.2.2.2.2.2.2.2.2.2.1, z0.2.2.2.2.2.2.2.2.2.2.2)) (λ _ => none) λ z1 => some (⟨(⟨z1.1, z1.2.1, z1.2.2.1, z1.2.2.2.1, z1.2.2.2.2.1, z1.2.2.2.2.2.1⟩ : Aa), (⟨z1.2.2.2.2.2.2.1, z1.2.2.2.2.2.2.2.1, z1.2.2.2.2.2.2.2.2.1, z1.2.2.2.2.2.2.2.2.2.1⟩ : Ab), z1.2.2.2.2.2.2.2.2.2.2⟩ : Ay)
def Vg (x0 : Ay) : Option Ay :=
 (Va x0).bind λ y1 => (U_ y1).bind λ y3 => (F57 y3.Al y3.Ar).bind λ y5 => some (⟨y3.Al, y5.1, y3.acts⟩ : Ay)
def M0 (x0 : Int) (x1 : Int) (x2 : Aa) : Option Int :=
 (getI x2.Ae x0).bind λ y1 => (getI x2.Ae x1).bind λ y3 => some (J4 y1.Bp y3.Bp)
def Rc (x1 : Int) (z1 : Int × (List Int)) (y12 : Int) : Bool := ((decide (z1.1 > x1)) && (decide (y12 < 0)))
def Kt (x1 : Int) (x3c0 : Aa) (z1 : Int × (List Int)) : Option (Ctl (Int × (List Int)) Unit) :=
 (A3 [(decide (z1.1 > x1), true)] (getI z1.2 z1.1) default).bind λ y8 => (A3 [(decide (z1.1 > x1), true)] (getI z1.2 (w64 (z1.1 - 1))) default).bind λ y10 => (A3 [(decide (z1.1 > x1), true)] (M0 y8 y10 x3c0) default).bind λ y12 => bif (Rc x1 z1 y12) then (getI z1.2 (w64 (z1.1 - 1))).bind λ y15 => (getI z1.2 z1.1).bind λ y17 => (setI z1.2 z1.1 y15).bind λ y19 => (getI y19 (w64 (z1.1 - 1))).bind λ y21 => (setI y19 (w64 (z1.1 - 1)) y17).bind λ y23 => some (.next (w64 (z1.1 - 1), y23)) else some (.brk (z1.1, z1.2))
def N3 (x1 : Int) (x2 : Int) (x3c0 : Aa) (z0 : Int × (List Int)) : Option (Ctl (Int × (List Int)) Unit) :=
 bif decide (z0.1 < x2) then andThen (whileN (Kt x1 x3c0) 1152921504606846976 (z0.1, z0.2)) (λ _ => none) λ z1 => some (.next (w64 (z0.1 + 1), z1.2)) else some (.brk (z0.1, z0.2))
def Uu (x0 : List Int) (x1 : Int) (x2 : Int) (x3c0 : Aa) : Option ((List Int) × Aa) :=
 andThen (whileN (N3 x1 x2 x3c0) 1152921504606846976 (w64 (x1 + 1), x0)) (λ _ => none) λ z0 => some (z0.2, x3c0)
def N5 (x1 : Int) (z0 : Sg8) : Option (Ctl (Sg8) Unit) :=
 bif decide (z0.2.1 <= x1) then (Uu z0.2.2.1 z0.1 z0.2.1 (⟨z0.2.2.2.1, z0.2.2.2.2.1, z0.2.2.2.2.2.1, z0.2.2.2.2.2.2.1, z0.2.2.2.2.2.2.2.1, z0.2.2.2.2.2.2.2.2⟩ : Aa)).bind λ y2 => some (.next (z0.2.1, w64 (z0.2.1 + 20), y2.1, y2.2.Am, y2.2.Af, y2.2.Ac, y2.2.Ae, y2.2.Phase, y2.2.Ap)) else some (.brk (z0.1, z0.2.1, z0.2.2.1, z0.2.2.2.1, z0.2.2.2.2.1, z0.2.2.2.2.2.1, z0.2.2.2.2.2.2.1, z0.2.2.2.2.2.2.2.1, z0.2.2.2.2.2.2.2.2))
def A6z (x1 : Int) (z2 : Unit) : Option (Ctl Unit Unit) :=
 bif decide (40 <= x1) then none else some (.brk ())
def N4 (x1 : Int) (z1 : Unit) : Option (Ctl Unit Unit) :=
 bif decide (20 < x1) then none else some (.brk ())
def vW (x0 : List Int) (x1 : Int) (x2c0 : Aa) : Option ((List Int) × Aa) :=
 andThen (whileN (N5 x1) 1152921504606846976 (0, 20, x0, x2c0.Am, x2c0.Af, x2c0.Ac, x2c0.Ae, x2c0.Phase, x2c0.Ap)) (λ _ => none) λ z0 => (Uu z0.2.2.1 z0.1 x1 (⟨z0.2.2.2.1, z0.2.2.2.2.1, z0.2.2.2.2.2.1, z0.2.2.2.2.2.2.1, z0.2.2.2.2.2.2.2.1, z0.2.2.2.2.2.2.2.2⟩ : Aa)).bind λ y4 => andThen (whileN (N4 x1) 1152921504606846976 ()) (λ _ => none) λ z1 => some (y4.1, y4.2)
def Uw (x0 : List Int) (x1c0 : Aa) : Option ((List Int) × Aa) :=
 (vW x0 (x0.length : Int) x1c0).bind λ y1 => some (y1.1, y1.2)
def Aus (x0 : Aa) (z0 : Int × (List Int)) : Bool := decide (z0.1 < (x0.Ae.length : Int))
def Wz (x0 : Aa) (z0 : Int × (List Int)) : Option (Ctl (Int × (List Int)) Unit) :=
 bif (Aus x0 z0) then (appI 9 z0.2 [z0.1]).bind λ y5 => some (.next (w64 (z0.1 + 1), y5)) else some (.brk (z0.1, z0.2))
def Zx (x0 : Aa) : Option ((List Int)) :=
 (F85 x0).bind λ y1 => bif (y1 != 0) then some ([] : List Int) else andThen (whileN (Wz x0) 1152921504606846976 (0, ([] : List Int))) (λ _ => none) λ z0 => (Uw z0.2 x0).bind λ y7 => some y7.1
def Pz (x0 : Int) (x1 : Aj) : Option Bool :=
 (M3 x1.Ae x0).bind λ y1 => some (!y1)
def K0 (x1c0 : Aj) (n0 : Nat) (a0 : Int) (z0 : Unit) : Option (Ctl Unit (Int × Aj)) :=
 (Pz a0 x1c0).bind λ y1 => bif y1 then some (.ret (cnt 0 n0, x1c0)) else some (.next ())
def yC (x0 : List Int) (x1c0 : Aj) : Option (Int × Aj) :=
 andThen (foldI (K0 x1c0) x0 0 ()) some λ z0 => some ((-1), x1c0)
def Aic (z0 : Int × Int × (List Int)) : Bool := decide (z0.2.1 < (z0.2.2.length : Int))
def N9 (y1 : Int × Aj) (z0 : Int × Int × (List Int)) : Option (Ctl (Int × Int × (List Int)) Unit) :=
 bif (Aic z0) then (getI z0.2.2 z0.2.1).bind λ y5 => (Pz y5 y1.2).bind λ y7 => bif !y7 then (getI z0.2.2 z0.1).bind λ y10 => (setI z0.2.2 z0.1 y5).bind λ y12 => some (.next (w64 (z0.1 + 1), w64 (z0.2.1 + 1), y12)) else some (.next (z0.1, w64 (z0.2.1 + 1), z0.2.2)) else some (.brk (z0.1, z0.2.1, z0.2.2))
def U4 (x0 : List Int) (x1c0 : Aj) : Option ((List Int) × Aj) :=
 (yC x0 x1c0).bind λ y1 => bif (y1.1 == (-1)) then some (x0, y1.2) else andThen (whileN (N9 y1) 1152921504606846976 (y1.1, w64 (y1.1 + 1), x0)) (λ _ => none) λ z0 => (bndI z0.2.2.length z0.1 (z0.2.2.length : Int)).bind λ u15 => (bndI (Gj z0.2.2 (Int.toNat z0.1) ((Int.toNat (z0.2.2.length : Int)) - (Int.toNat z0.1)) 0).length 0 z0.1).bind λ u17 => some (((Gj z0.2.2 (Int.toNat z0.1) ((Int.toNat (z0.2.2.length : Int)) - (Int.toNat z0.1)) 0).take ((Int.toNat z0.1) - 0)), y1.2)
def Pw (x1 : Ab) (y1 : Aj × Bool) (n0 : Nat) (a0 : Int) (z0 : Int) : Option (Ctl Int Unit) :=
 bif decide ((y1.1.Ac.length : Int) > 0) then (getI x1.As a0).bind λ y4 => some (.next (w64 (z0 + y4))) else some (.next z0)
def U2 (x0 : Aa) (x1 : Ab) (x2 : Int) : Option Int :=
 (Gm x0 x1 x2).bind λ y1 => andThen (foldI (Pw x1 y1) y1.1.Ae 0 0) (λ _ => none) λ z0 => some z0
def Wy (x0 : Aa) (n0 : Nat) (a0 : Int) (z0 : Int) : Option (Ctl Int Unit) :=
 (getI x0.Ac a0).bind λ y3 => some (.next (w64 (z0 + y3.Rating)))
def U3 (x0 : Aa) (x1 : Ab) (x2 : Int) : Option Int :=
 (Gm x0 x1 x2).bind λ y1 => andThen (foldI (Wy x0) y1.1.Ac 0 0) (λ _ => none) λ z0 => some z0
def Pu (x0 : Ay) (x1 : Int) : Option Int :=
 (U2 x0.Al x0.Ar x1).bind λ y1 => (U3 x0.Al x0.Ar x1).bind λ y3 => some (max 0 (w64 (y1 - y3)))
def Zs (n0 : Nat) (a0 : Int) (z0 : (List Aj)) : Option (Ctl ((List Aj)) Unit) :=
 (getI z0 a0).bind λ y8 => (appI 9 y8.Am [cnt 0 n0]).bind λ y10 => (setI z0 a0 (⟨y10, y8.Ac, y8.Ae⟩ : Aj)).bind λ y12 => some (.next y12)
def A0q (x0 : Aa) (z1 : Int × (List Aj)) : Bool := decide (z1.1 < (x0.Ac.length : Int))
def Zr (x0 : Aa) (x1 : Ab) (y4 : (List Int)) (z1 : Int × (List Aj)) : Option (Ctl (Int × (List Aj)) Unit) :=
 bif (A0q x0 z1) then (Z4 x0 x1 z1.1).bind λ y15 => bif y15.2 then (getI y4 y15.1).bind λ y18 => (getI z1.2 y18).bind λ y20 => (appI 9 y20.Ac [z1.1]).bind λ y22 => (setI z1.2 y18 (⟨y20.Am, y22, y20.Ae⟩ : Aj)).bind λ y24 => some (.next (w64 (z1.1 + 1), y24)) else some (.next (w64 (z1.1 + 1), z1.2)) else some (.brk (z1.1, z1.2))
def A0p (x0 : Aa) (z2 : Int × (List Aj)) : Bool := decide (z2.1 < (x0.Ae.length : Int))
def Zq (x0 : Aa) (x1 : Ab) (y4 : (List Int)) (z2 : Int × (List Aj)) : Option (Ctl (Int × (List Aj)) Unit) :=
 bif (A0p x0 z2) then (Z3 x0 x1 z2.1).bind λ y27 => bif y27.2 then (getI y4 y27.1).bind λ y30 => (getI z2.2 y30).bind λ y32 => (appI 9 y32.Ae [z2.1]).bind λ y34 => (setI z2.2 y30 (⟨y32.Am, y32.Ac, y34⟩ : Aj)).bind λ y36 => some (.next (w64 (z2.1 + 1), y36)) else some (.next (w64 (z2.1 + 1), z2.2)) else some (.brk (z2.1, z2.2))
def Afb (x0 : Aa) (x1 : Ab) : Option ((List Aj)) :=
 (F43 x0 x1).bind λ y1 => bif (y1 != 0) then some ([] : List Aj) else (Abb x0 x1).bind λ y4 => (mkI 73 x0.Am (⟨([] : List Int), ([] : List Int), ([] : List Int)⟩ : Aj)).bind λ y6 => andThen (foldI Zs y4 0 y6) (λ _ => none) λ z0 => andThen (whileN (Zr x0 x1 y4) 1152921504606846976 (0, z0)) (λ _ => none) λ z1 => andThen (whileN (Zq x0 x1 y4) 1152921504606846976 (0, z1.2)) (λ _ => none) λ z2 => (P4 z2.2).bind λ y38 => some y38
def Re (y1 : Int) (y3 : Int) (y5 : A1) : Bool := decide ((min y1 (w64 (y3 - y5.Least))) > 0)
def N8 (x0 : Ay) (x2 : Int) (n0 : Nat) (a0 : Int) (z0 : (List Int) × (List Ao)) : Option (Ctl ((List Int) × (List Ao)) Unit) :=
 (Pu (⟨x0.Al, (⟨x0.Ar.Ah, x0.Ar.Ac, z0.1, x0.Ar.Aq⟩ : Ab), z0.2⟩ : Ay) x2).bind λ y1 => (getI z0.1 a0).bind λ y3 => (getI x0.Al.Ae a0).bind λ y5 => bif (Re y1 y3 y5) then (setI z0.1 a0 (w64 (y3 - (min y1 (w64 (y3 - y5.Least)))))).bind λ y8 => (getI y8 a0).bind λ y10 => (appI 25 z0.2 [(⟨5, a0, y10⟩ : Ao)]).bind λ y12 => some (.next (y8, y12)) else some (.next (z0.1, z0.2))
def Py (x0 : Ay) (x1 : List Int) (x2 : Int) : Option Ay :=
 andThen (foldI (N8 x0 x2) x1 0 (x0.Ar.As, x0.acts)) (λ _ => none) λ z0 => some (⟨x0.Al, (⟨x0.Ar.Ah, x0.Ar.Ac, z0.1, x0.Ar.Aq⟩ : Ab), z0.2⟩ : Ay)
def Pt (x0 : Ak) (x1 : Int) : Bool :=
 ((x0.Kind == 3) && (x0.B == x1))
def N_ (x0 : Ay) (x1c0 : Int) (n0 : Nat) (a0 : Ak) (z0 : (List Int)) : Option (Ctl ((List Int)) Unit) :=
 (getI x0.Ar.Ah (cnt 0 n0)).bind λ y1 => bif (y1 && (Pt a0 x1c0)) then (appI 9 z0 [cnt 0 n0]).bind λ y4 => some (.next y4) else some (.next z0)
def U7 (n1 : Nat) (a1 : Int) (z1 : Sg6) : Option (Ctl (Sg6) Unit) :=
 (M1 (⟨(⟨z1.1, z1.2.1, z1.2.2.1, z1.2.2.2.1, z1.2.2.2.2.1, z1.2.2.2.2.2.1⟩ : Aa), (⟨z1.2.2.2.2.2.2.1, z1.2.2.2.2.2.2.2.1, z1.2.2.2.2.2.2.2.2.1, z1.2.2.2.2.2.2.2.2.2.1⟩ : Ab), z1.2.2.2.2.2.2.2.2.2.2⟩ : Ay) a1).bind λ y6 => some (.next (y6.Al.Am, y6.Al.Af, y6.Al.Ac, y6.Al.Ae, y6.Al.Phase, y6.Al.Ap, y6.Ar.Ah, y6.Ar.Ac, y6.Ar.As, y6.Ar.Aq, y6.acts))
def U8 (x0 : Ay) (x1c0 : Int) : Option (Ay × Int) :=
 andThen (foldI (N_ x0 x1c0) x0.Al.Af 0 ([] : List Int)) (λ _ => none) λ z0 => andThen (foldI U7 z0 0 (x0.Al.Am, x0.Al.Af, x0.Al.Ac, x0.Al.Ae, x0.Al.Phase, x0.Al.Ap, x0.Ar.Ah, x0.Ar.Ac, x0.Ar.As, x0.Ar.Aq, x0.acts)) (λ _ => none) λ z1 => some ((⟨(⟨z1.1, z1.2.1, z1.2.2.1, z1.2.2.2.1, z1.2.2.2.2.1, z1.2.2.2.2.2.1⟩ : Aa), (⟨z1.2.2.2.2.2.2.1, z1.2.2.2.2.2.2.2.1, z1.2.2.2.2.2.2.2.2.1, z1.2.2.2.2.2.2.2.2.2.1⟩ : Ab), z1.2.2.2.2.2.2.2.2.2.2⟩ : Ay), x1c0)
def N7 (x2 : Int) (n0 : Nat) (a0 : Int) (z0 : Sg6) : Option (Ctl (Sg6) Unit) :=
 (getI z0.2.2.2.2.2.2.2.2.1 a0).bind λ y1 => (A3 [(decide (y1 > 0), true)] (Pu (⟨(⟨z0.1, z0.2.1, z0.2.2.1, z0.2.2.2.1, z0.2.2.2.2.1, z0.2.2.2.2.2.1⟩ : Aa), (⟨z0.2.2.2.2.2.2.1, z0.2.2.2.2.2.2.2.1, z0.2.2.2.2.2.2.2.2.1, z0.2.2.2.2.2.2.2.2.2.1⟩ : Ab), z0.2.2.2.2.2.2.2.2.2.2⟩ : Ay) x2) default).bind λ y3 => bif ((decide (y1 > 0)) && (decide (y3 > 0))) then (U8 (⟨(⟨z0.1, z0.2.1, z0.2.2.1, z0.2.2.2.1, z0.2.2.2.2.1, z0.2.2.2.2.2.1⟩ : Aa), (⟨z0.2.2.2.2.2.2.1, z0.2.2.2.2.2.2.2.1, z0.2.2.2.2.2.2.2.2.1, z0.2.2.2.2.2.2.2.2.2.1⟩ : Ab), z0.2.2.2.2.2.2.2.2.2.2⟩ : Ay) a0).bind λ y6 => some (.next (y6.1.Al.Am, y6.1.Al.Af, y6.1.Al.Ac, y6.1.Al.Ae, y6.1.Al.Phase, y6.1.Al.Ap, y6.1.Ar.Ah, y6.1.Ar.Ac, y6.1.Ar.As, y6.1.Ar.Aq, y6.1.acts)) else some (.next (z0.1, z0.2.1, z0.2.2.1, z0.2.2.2.1, z0.2.2.2.2.1, z0.2.2.2.2.2.1, z0.2.2.2.2.2.2.1, z0.2.2.2.2.2.2.2.1, z0.2.2.2.2.2.2.2.2.1, z0.2.2.2.2.2.2.2.2.2.1, z0.2.2.2.2.2.2.2.2.2.2))
def Px (x0 : Ay) (x1 : List Int) (x2 : Int) : Option Ay :=
 andThen (foldI (N7 x2) x1 0 (x0.Al.Am, x0.Al.Af, x0.Al.Ac, x0.Al.Ae, x0.Al.Phase, x0.Al.Ap, x0.Ar.Ah, x0.Ar.Ac, x0.Ar.As, x0.Ar.Aq, x0.acts)) (λ _ => none) λ z0 => some (⟨(⟨z0.1, z0.2.1, z0.2.2.1, z0.2.2.2.1, z0.2.2.2.2.1, z0.2.2.2.2.2.1⟩ : Aa), (⟨z0.2.2.2.2.2.2.1, z0.2.2.2.2.2.2.2.1, z0.2.2.2.2.2.2.2.2.1, z0.2.2.2.2.2.2.2.2.2.1⟩ : Ab), z0.2.2.2.2.2.2.2.2.2.2⟩ : Ay)
def Oe (y1 : (List Int)) (n0 : Nat) (a0 : Aj) (z0 : Sg6) : Option (Ctl (Sg6) Unit) :=
 (Z2 y1).bind λ y5 => (U4 y5 a0).bind λ y7 => bif decide ((y7.2.Ac.length : Int) > 0) then (getI y7.2.Am 0).bind λ y10 => (Py (⟨(⟨z0.1, z0.2.1, z0.2.2.1, z0.2.2.2.1, z0.2.2.2.2.1, z0.2.2.2.2.2.1⟩ : Aa), (⟨z0.2.2.2.2.2.2.1, z0.2.2.2.2.2.2.2.1, z0.2.2.2.2.2.2.2.2.1, z0.2.2.2.2.2.2.2.2.2.1⟩ : Ab), z0.2.2.2.2.2.2.2.2.2.2⟩ : Ay) y7.1 y10).bind λ y12 => (getI y7.2.Am 0).bind λ y14 => (Px y12 y7.1 y14).bind λ y16 => some (.next (y16.Al.Am, y16.Al.Af, y16.Al.Ac, y16.Al.Ae, y16.Al.Phase, y16.Al.Ap, y16.Ar.Ah, y16.Ar.Ac, y16.Ar.As, y16.Ar.Aq, y16.acts)) else some (.next (z0.1, z0.2.1, z0.2.2.1, z0.2.2.2.1, z0.2.2.2.2.1, z0.2.2.2.2.2.1, z0.2.2.2.2.2.2.1, z0.2.2.2.2.2.2.2.1, z0.2.2.2.2.2.2.2.2.1, z0.2.2.2.2.2.2.2.2.2.1, z0.2.2.2.2.2.2.2.2.2.2))
def P1 (x0 : Ay) : Option Ay :=
 (Zx x0.Al).bind λ y1 => (Afb x0.Al x0.Ar).bind λ y3 => andThen (foldI (Oe y1) y3 0 (x0.Al.Am, x0.Al.Af, x0.Al.Ac, x0.Al.Ae, x0.Al.Phase, x0.Al.Ap, x0.Ar.Ah, x0.Ar.Ac, x0.Ar.As, x0.Ar.Aq, x0.acts)) (λ _ => none) λ z0 => some (⟨(⟨z0.1, z0.2.1, z0.2.2.1, z0.2.2.2.1, z0.2.2.2.2.1, z0.2.2.2.2.2.1⟩ : Aa), (⟨z0.2.2.2.2.2.2.1, z0.2.2.2.2.2.2.2.1, z0.2.2.2.2.2.2.2.2.1, z0.2.2.2.2.2.2.2.2.2.1⟩ : Ab), z0.2.2.2.2.2.2.2.2.2.2⟩ : Ay)
def yA (x0 : Ay) : Option Ay :=
 (Vg x0).bind λ y1 => (P1 y1).bind λ y3 => some y3
def yB (x0 : Aa) (x1 : Ab) : Option (Ab × (List Ao) × Int) :=
 (F43 x0 x1).bind λ y1 => bif (y1 != 0) then some ((⟨([] : List Bool), ([] : List Ag), ([] : List Int), ([] : List An)⟩ : Ab), ([] : List Ao), y1) else (Il x1).bind λ y4 => (yA (⟨x0, y4, ([] : List Ao)⟩ : Ay)).bind λ y6 => some (y6.Ar, y6.acts, 0)
def Ak1 (x0 : Aa) (x1 : Ab) : Option (Ab × (List Ao) × Int) :=
 (yB x0 x1).bind λ y1 => some (y1.1, y1.2.1, y1.2.2)
def Zt (x1 : Ao) (y1 : Ab × Int) : Option (Ctl Int Unit) :=
 bif (x1.Kind == 7) then some (.next 1) else some (.next y1.2)
def Rx (y1 : Ab × Int) (n1 : Nat) (a1 : Ao) (z1 : Sg9) : Option (Ctl (Sg9) Unit) :=
 (P7 (⟨(⟨z1.1, (⟨z1.2.2.2.2.2.2.2.1, z1.2.2.2.2.2.2.2.2.1, z1.2.2.2.2.2.2.2.2.2.1, z1.2.2.2.2.2.2.2.2.2.2.1⟩ : Ab), z1.2.2.2.2.2.2.2.2.2.2.2.1, z1.2.2.2.2.2.2.2.2.2.2.2.2.1⟩ : A0), (⟨z1.2.1, z1.2.2.1, z1.2.2.2.1, z1.2.2.2.2.1, z1.2.2.2.2.2.1, z1.2.2.2.2.2.2.1⟩ : Aa), z1.2.2.2.2.2.2.2.2.2.2.2.2.2.2.1, z1.2.2.2.2.2.2.2.2.2.2.2.2.2.2.2.1⟩ : A6) a1 0).bind λ y11 => bif (a1.Kind == 2) then (getI z1.2.2.2.2.2.2.2.2.2.2.2.2.2.1 a1.Unit).bind λ y14 => (setI z1.2.2.2.2.2.2.2.2.2.2.2.2.2.1 a1.Unit false).bind λ y16 => (N2 y11 (⟨y16, y1.1.Ac, z1.2.2.2.2.2.2.2.2.2.2.2.2.2.2.2.2, y1.1.Aq⟩ : Ab)).bind λ y18 => some (.next (y18.Av.Time, y18.Al.Am, y18.Al.Af, y18.Al.Ac, y18.Al.Ae, y18.Al.Phase, y18.Al.Ap, y18.Av.Power.Ah, y18.Av.Power.Ac, y18.Av.Power.As, y18.Av.Power.Aq, y18.Av.A5, y18.Av.A4, y16, y18.events, y18.states, z1.2.2.2.2.2.2.2.2.2.2.2.2.2.2.2.2)) else (getI z1.2.2.2.2.2.2.2.2.2.2.2.2.2.2.2.2 a1.Unit).bind λ y20 => (setI z1.2.2.2.2.2.2.2.2.2.2.2.2.2.2.2.2 a1.Unit a1.Value).bind λ y22 => (N2 y11 (⟨z1.2.2.2.2.2.2.2.2.2.2.2.2.2.1, y1.1.Ac, y22, y1.1.Aq⟩ : Ab)).bind λ y24 => some (.next (y24.Av.Time, y24.Al.Am, y24.Al.Af, y24.Al.Ac, y24.Al.Ae, y24.Al.Phase, y24.Al.Ap, y24.Av.Power.Ah, y24.Av.Power.Ac, y24.Av.Power.As, y24.Av.Power.Aq, y24.Av.A5, y24.Av.A4, z1.2.2.2.2.2.2.2.2.2.2.2.2.2.1, y24.events, y24.states, y22))
def Ww (x0 : A6) (x1 : Ao) : Option A6 :=
 (F83 x0.Al x0.Av.Power x0.Av.Time x1).bind λ y1 => andThen (Zt x1 y1) (λ _ => none) λ z0 => (P7 x0 x1 z0).bind λ y4 => bif (z0 != 0) then some y4 else (N2 y4 y1.1).bind λ y7 => (Ak1 y7.Al y1.1).bind λ y9 => andThen (foldI (Rx y1) y9.2.1 0 (y7.Av.Time, y7.Al.Am, y7.Al.Af, y7.Al.Ac, y7.Al.Ae, y7.Al.Phase, y7.Al.Ap, y7.Av.Power.Ah, y7.Av.Power.Ac, y7.Av.Power.As, y7.Av.Power.Aq, y7.Av.A5, y7.Av.A4, y1.1.Ah, y7.events, y7.states, y1.1.As)) (λ _ => none) λ z1 => (F60 (⟨z1.2.2.2.2.2.2.2.2.2.2.2.2.2.1, y1.1.Ac, z1.2.2.2.2.2.2.2.2.2.2.2.2.2.2.2.2, y1.1.Aq⟩ : Ab) y9.1).bind λ y26 => bif !y26 then (N2 (⟨(⟨z1.1, (⟨z1.2.2.2.2.2.2.2.1, z1.2.2.2.2.2.2.2.2.1, z1.2.2.2.2.2.2.2.2.2.1, z1.2.2.2.2.2.2.2.2.2.2.1⟩ : Ab), z1.2.2.2.2.2.2.2.2.2.2.2.1, z1.2.2.2.2.2.2.2.2.2.2.2.2.1⟩ : A0), (⟨z1.2.1, z1.2.2.1, z1.2.2.2.1, z1.2.2.2.2.1, z1.2.2.2.2.2.1, z1.2.2.2.2.2.2.1⟩ : Aa), z1.2.2.2.2.2.2.2.2.2.2.2.2.2.2.1, z1.2.2.2.2.2.2.2.2.2.2.2.2.2.2.2.1⟩ : A6) y9.1).bind λ y29 => some (⟨(⟨y29.Av.Time, y9.1, y29.Av.A5, y29.Av.A4⟩ : A0), y29.Al, y29.events, y29.states⟩ : A6) else some (⟨(⟨z1.1, y9.1, z1.2.2.2.2.2.2.2.2.2.2.2.1, z1.2.2.2.2.2.2.2.2.2.2.2.2.1⟩ : A0), (⟨z1.2.1, z1.2.2.1, z1.2.2.2.1, z1.2.2.2.2.1, z1.2.2.2.2.2.1, z1.2.2.2.2.2.2.1⟩ : Aa), z1.2.2.2.2.2.2.2.2.2.2.2.2.2.2.1, z1.2.2.2.2.2.2.2.2.2.2.2.2.2.2.2.1⟩ : A6)
def Aro (x0 : Int) (x1 : Int) : Int × Int :=
 (IntKind.wrap .u64 ((IntKind.wrap .u64 ((IntKind.wrap .u64 ((Fw .u64 x0 32) * (Fw .u64 x1 32))) + (Fw .u64 (IntKind.wrap .u64 ((IntKind.wrap .u64 ((Fw .u64 x0 32) * (Ov .u64 x1 4294967295))) + (Fw .u64 (IntKind.wrap .u64 ((Ov .u64 x0 4294967295) * (Ov .u64 x1 4294967295))) 32))) 32))) + (Fw .u64 (IntKind.wrap .u64 ((Ov .u64 (IntKind.wrap .u64 ((IntKind.wrap .u64 ((Fw .u64 x0 32) * (Ov .u64 x1 4294967295))) + (Fw .u64 (IntKind.wrap .u64 ((Ov .u64 x0 4294967295) * (Ov .u64 x1 4294967295))) 32))) 4294967295) + (IntKind.wrap .u64 ((Ov .u64 x0 4294967295) * (Fw .u64 x1 32))))) 32)), IntKind.wrap .u64 (x0 * x1))
def Gd (x0 : Int) (x1 : Int) : Int × Int :=
 ((Aro x0 x1).1, (Aro x0 x1).2)
def Aoz (x1 : Int) : Option (Ctl Unit Unit) :=
 bif decide (x1 < 0) then none else some (.next ())
def A4y (x0 : List Az) (x1 : Int) : Bool := ((decide (((Gd (IntKind.wrap .u64 (x0.length : Int)) (IntKind.wrap .u64 x1)).1) > 0)) || (decide (((Gd (IntKind.wrap .u64 (x0.length : Int)) (IntKind.wrap .u64 x1)).2) > 9223372036854775807)))
def Aoy (x0 : List Az) (x1 : Int) : Option (Ctl Unit Unit) :=
 bif (A4y x0 x1) then none else some (.next ())
def A4x (z2 : Int × (List Az)) : Bool := decide (z2.1 < (z2.2.length : Int))
def Abc (z2 : Int × (List Az)) : Option (Ctl (Int × (List Az)) Unit) :=
 bif (A4x z2) then (bndI z2.2.length z2.1 (z2.2.length : Int)).bind λ u7 => (bndI z2.2.length 0 z2.1).bind λ u9 => some (.next (w64 (z2.1 + ((Nat.min ((z2.2.drop 0).take ((Int.toNat z2.1) - 0)).length ((Int.toNat (z2.2.length : Int)) - (Int.toNat z2.1))) : Int)), (G6 z2.2 (Int.toNat z2.1) ((Int.toNat (z2.2.length : Int)) - (Int.toNat z2.1)) ((z2.2.drop 0).take ((Int.toNat z2.1) - 0))))) else some (.brk (z2.1, z2.2))
def Ayl (x0 : List Az) (x1 : Int) : Option ((List Az)) :=
 andThen (Aoz x1) (λ _ => none) λ z0 => andThen (Aoy x0 x1) (λ _ => none) λ z1 => (mkI 17 (w64 ((Gd (IntKind.wrap .u64 (x0.length : Int)) (IntKind.wrap .u64 x1)).2)) (⟨0, 0⟩ : Az)).bind λ y3 => andThen (whileN Abc 1152921504606846976 (((Nat.min x0.length y3.length) : Int), (G6 y3 0 y3.length x0))) (λ _ => none) λ z2 => some z2.2
def F86 (x0 : Int) : Option ((List Az)) :=
 (Ayl [(⟨(-1), (-1)⟩ : Az)] x0).bind λ y1 => some y1
def Kz (x0 : Int) (x1 : Int) : Bool :=
 ((decide (x0 >= (-1))) && (decide (x0 <= x1)))
def U0 (x0 : Ak) (x1 : Int) : Bool :=
 ((x0.Kind == 2) && (x0.B == x1))
def Kv (x1c0 : Int) (n0 : Nat) (a0 : Ak) (z0 : Unit) : Option (Ctl Unit (Int × Int)) :=
 bif U0 a0 x1c0 then some (.ret (cnt 0 n0, x1c0)) else some (.next ())
def vY (x0 : List Ak) (x1c0 : Int) : Option (Int × Int) :=
 andThen (foldI (Kv x1c0) x0 0 ()) some λ z0 => some ((-1), x1c0)
def Ve (x0 : Aa) (x1 : Int) : Option Int :=
 (vY x0.Af x1).bind λ y1 => some y1.1
def Auv (x1 : Bh) (y1 : Aj × Bool) : Bool := ((!(F59 x1)) || (decide ((y1.1.Ac.length : Int) < 2)))
def Aii (x1 : Bh) (y9 : Int) (y11 : Bg) (y13 : Int) : Bool := decide ((w64 (100 * y13)) <= (w64 (x1.Stop * (w64 (y9 - y11.Rating)))))
def W6 (x0 : Aa) (x1 : Bh) (x2 : Ab) (x3 : Int) (a0 : Int × Int) (z0 : Unit) : Option (Ctl Unit (Int × Bool)) :=
 (Ve x0 a0.2).bind λ y4 => (Hr x2 2 y4).bind λ y6 => bif y6 then some (.next ()) else (U3 x0 x2 x3).bind λ y9 => (getI x0.Ac a0.2).bind λ y11 => (U2 x0 x2 x3).bind λ y13 => bif (Aii x1 y9 y11 y13) then some (.ret (a0.2, true)) else some (.next ())
def Akp (x0 : Aa) (x1 : Bh) (x2 : Ab) (x3 : Int) : Option (Int × Bool) :=
 (Gm x0 x2 x3).bind λ y1 => bif (Auv x1 y1) then some (0, false) else andThen (foldE (W6 x0 x1 x2 x3) (bw y1.1.Ac) ()) (λ v175_0 => some (v175_0.1, v175_0.2)) λ z0 => some (0, false)
def Ako (x0 : Aa) (x1 : Bh) (x2 : Ab) (x3 : Int) : Option Bool :=
 (A3 [(F59 x1, true)] (Vq x0 x2 x3) default).bind λ y1 => (A3 [(((F59 x1) && y1), true)] (U2 x0 x2 x3) default).bind λ y3 => (A3 [(((F59 x1) && y1), true)] (U3 x0 x2 x3) default).bind λ y5 => some (((F59 x1) && y1) && (decide ((w64 (100 * y3)) > (w64 (x1.Start * y5)))))
def Gc (x0 : Int) (x1 : Bool) (x2 : Int) : Int :=
 bif !x1 then (-1) else bif (x0 == (-1)) then x2 else x0
def Akk (x0 : Aa) (x1 : Ab) (x2 : Aj) (x3 : Int) : Option Bool :=
 (Ve x0 x3).bind λ y1 => (getI x0.Af y1).bind λ y3 => (Hr x1 1 x3).bind λ y5 => (A3 [(y5, false)] (Hr x1 2 y1) default).bind λ y7 => (A3 [((y5 || y7), false)] (Hr x1 3 y3.A) default).bind λ y9 => (A3 [(!((y5 || y7) || y9), true)] (M3 x2.Am y3.A) default).bind λ y11 => (A3 [(((!((y5 || y7) || y9)) && y11), true)] (M3 x2.Ac x3) default).bind λ y13 => (A3 [((((!((y5 || y7) || y9)) && y11) && (!y13)), true)] (getI x1.Ac x3) default).bind λ y15 => some ((((!((y5 || y7) || y9)) && y11) && (!y13)) && (y15.State != 3))
def W0 (x0 : Aa) (x1 : Ab) (y1 : Aj × Bool) (a0 : Int) (n1 : Nat) (a1 : Ag) (z1 : Unit) : Option (Ctl Unit (Int × Bool)) :=
 (A3 [((a1.State == a0), true)] (Akk x0 x1 y1.1 (cnt 0 n1)) default).bind λ y4 => bif ((a1.State == a0) && y4) then some (.ret (cnt 0 n1, true)) else some (.next ())
def W5 (x0 : Aa) (x1 : Ab) (y1 : Aj × Bool) (n0 : Nat) (a0 : Int) (z0 : Unit) : Option (Ctl Unit (Int × Bool)) :=
 andThen (foldI (W0 x0 x1 y1 a0) x1.Ac 0 ()) (λ v => some (.ret v)) λ z1 => some (.next ())
def Akn (x0 : Aa) (x1 : Ab) (x2 : Int) : Option (Int × Bool) :=
 (Gm x0 x1 x2).bind λ y1 => bif !y1.2 then some (0, false) else andThen (foldI (W5 x0 x1 y1) [2, 1, 0] 0 ()) some λ z0 => some (0, false)
def Vf (x0 : Aa) (x1 : Ab) (x2 : Int) (x3 : Int) : Option ((List Ao) × Bool) :=
 (getI x1.Ac x3).bind λ y1 => bif (y1.State == 0) then some ([(⟨3, x3, 0⟩ : Ao)], false) else bif (y1.State == 2) then (U1 x0 x1 x2).bind λ y5 => (Aa6 x0 x1 y5.1).bind λ y7 => (Ve x0 x3).bind λ y9 => some ([(⟨6, x3, y7.1⟩ : Ao), (⟨1, y9, 0⟩ : Ao)], true) else some ([], false)
def Yy (x1 : Bh) (x4 : Int) (x5 : Az) : Bool := (((((!(F59 x1)) || (decide (x4 < 0))) || (decide (x4 > 2147483648))) || (!(Kz x5.High x4))) || (!(Kz x5.Low x4)))
def Ait (x0 : Aa) (x3 : Int) : Bool := ((decide (x3 < 0)) || (decide (x3 >= x0.Am)))
def Yx (x1 : Bh) (x4 : Int) (x5 : Az) (y8 : Bool) (y10 : Int × Bool) : Bool := ((y10.2 && ((Gc x5.High y8 x4) != (-1))) && (decide ((w64 (x4 - (Gc x5.High y8 x4))) >= x1.Delay)))
def Vn (x4 : Int) (x5 : Az) (y8 : Bool) (y13 : (List Ao) × Bool) : Option (Ctl Int Unit) :=
 bif y13.2 then some (.next (-1)) else some (.next (Gc x5.High y8 x4))
def Ais (x1 : Bh) (x4 : Int) (x5 : Az) (y6 : Int × Bool) : Bool := (((Gc x5.Low y6.2 x4) != (-1)) && (decide ((w64 (x4 - (Gc x5.Low y6.2 x4))) >= x1.Delay)))
def Vo (x0 : Aa) (x1 : Bh) (x2 : Ab) (x3 : Int) (x4 : Int) (x5 : Az) : Option (Az × (List Ao) × Int) :=
 (F43 x0 x2).bind λ y1 => bif (y1 != 0) then some ((⟨0, 0⟩ : Az), [], y1) else bif (Yy x1 x4 x5) then some ((⟨0, 0⟩ : Az), [], 1) else bif (Ait x0 x3) then some ((⟨0, 0⟩ : Az), [], 10) else (Akp x0 x1 x2 x3).bind λ y6 => (Ako x0 x1 x2 x3).bind λ y8 => (Akn x0 x2 x3).bind λ y10 => bif (Yx x1 x4 x5 y8 y10) then (Vf x0 x2 x3 y10.1).bind λ y13 => andThen (Vn x4 x5 y8 y13) (λ _ => none) λ z0 => some ((⟨z0, Gc x5.Low y6.2 x4⟩ : Az), y13.1, 0) else bif (Ais x1 x4 x5 y6) then (Ve x0 y6.1).bind λ y17 => some ((⟨Gc x5.High y8 x4, (-1)⟩ : Az), [(⟨2, y17, 0⟩ : Ao), (⟨4, y6.1, 0⟩ : Ao)], 0) else some ((⟨Gc x5.High y8 x4, Gc x5.Low y6.2 x4⟩ : Az), [], 0)
def Ano (a0 : Aj) (y7 : Bool) : Bool := (((a0.Ac.length : Int) == 0) || (!y7))
def Mz (n1 : Nat) (a1 : Ao) (z1 : Ld) : Option (Ctl (Ld) Unit) :=
 (Ww (⟨(⟨z1.1, (⟨z1.2.2.2.2.2.2.2.1, z1.2.2.2.2.2.2.2.2.1, z1.2.2.2.2.2.2.2.2.2.1, z1.2.2.2.2.2.2.2.2.2.2.1⟩ : Ab), z1.2.2.2.2.2.2.2.2.2.2.2.1, z1.2.2.2.2.2.2.2.2.2.2.2.2.1⟩ : A0), (⟨z1.2.1, z1.2.2.1, z1.2.2.2.1, z1.2.2.2.2.1, z1.2.2.2.2.2.1, z1.2.2.2.2.2.2.1⟩ : Aa), z1.2.2.2.2.2.2.2.2.2.2.2.2.2.1, z1.2.2.2.2.2.2.2.2.2.2.2.2.2.2⟩ : A6) a1).bind λ y18 => some (.next (y18.Av.Time, y18.Al.Am, y18.Al.Af, y18.Al.Ac, y18.Al.Ae, y18.Al.Phase, y18.Al.Ap, y18.Av.Power.Ah, y18.Av.Power.Ac, y18.Av.Power.As, y18.Av.Power.Aq, y18.Av.A5, y18.Av.A4, y18.events, y18.states))
def Rw (x1 : Bh) (n0 : Nat) (a0 : Aj) (z0 : Aay) : Option (Ctl (Aay) Unit) :=
 (getI a0.Am 0).bind λ y5 => (A3 [(((a0.Ac.length : Int) == 0), false)] (Vq (⟨z0.2.1, z0.2.2.1, z0.2.2.2.1, z0.2.2.2.2.1, z0.2.2.2.2.2.1, z0.2.2.2.2.2.2.1⟩ : Aa) (⟨z0.2.2.2.2.2.2.2.2.1, z0.2.2.2.2.2.2.2.2.2.1, z0.2.2.2.2.2.2.2.2.2.2.1, z0.2.2.2.2.2.2.2.2.2.2.2.1⟩ : Ab) y5) default).bind λ y7 => bif (Ano a0 y7) then some (.next (z0.1, z0.2.1, z0.2.2.1, z0.2.2.2.1, z0.2.2.2.2.1, z0.2.2.2.2.2.1, z0.2.2.2.2.2.2.1, z0.2.2.2.2.2.2.2.1, z0.2.2.2.2.2.2.2.2.1, z0.2.2.2.2.2.2.2.2.2.1, z0.2.2.2.2.2.2.2.2.2.2.1, z0.2.2.2.2.2.2.2.2.2.2.2.1, z0.2.2.2.2.2.2.2.2.2.2.2.2.1, z0.2.2.2.2.2.2.2.2.2.2.2.2.2.1, z0.2.2.2.2.2.2.2.2.2.2.2.2.2.2.1, z0.2.2.2.2.2.2.2.2.2.2.2.2.2.2.2)) else (getI z0.2.2.2.2.2.2.2.2.2.2.2.2.1 y5).bind λ y10 => (Vo (⟨z0.2.1, z0.2.2.1, z0.2.2.2.1, z0.2.2.2.2.1, z0.2.2.2.2.2.1, z0.2.2.2.2.2.2.1⟩ : Aa) x1 (⟨z0.2.2.2.2.2.2.2.2.1, z0.2.2.2.2.2.2.2.2.2.1, z0.2.2.2.2.2.2.2.2.2.2.1, z0.2.2.2.2.2.2.2.2.2.2.2.1⟩ : Ab) y5 z0.1 y10).bind λ y12 => (getI z0.2.2.2.2.2.2.2.1 y5).bind λ y14 => (setI z0.2.2.2.2.2.2.2.1 y5 y12.1).bind λ y16 => andThen (foldI Mz y12.2.1 0 (z0.1, z0.2.1, z0.2.2.1, z0.2.2.2.1, z0.2.2.2.2.1, z0.2.2.2.2.2.1, z0.2.2.2.2.2.2.1, z0.2.2.2.2.2.2.2.2.1, z0.2.2.2.2.2.2.2.2.2.1, z0.2.2.2.2.2.2.2.2.2.2.1, z0.2.2.2.2.2.2.2.2.2.2.2.1, z0.2.2.2.2.2.2.2.2.2.2.2.2.1, z0.2.2.2.2.2.2.2.2.2.2.2.2.2.1, z0.2.2.2.2.2.2.2.2.2.2.2.2.2.2.1, z0.2.2.2.2.2.2.2.2.2.2.2.2.2.2.2)) (λ _ => none) λ z1 => some (.next (z1.1, z1.2.1, z1.2.2.1, z1.2.2.2.1, z1.2.2.2.2.1, z1.2.2.2.2.2.1, z1.2.2.2.2.2.2.1, y16, z1.2.2.2.2.2.2.2.1, z1.2.2.2.2.2.2.2.2.1, z1.2.2.2.2.2.2.2.2.2.1, z1.2.2.2.2.2.2.2.2.2.2.1, z1.2.2.2.2.2.2.2.2.2.2.2.1, z1.2.2.2.2.2.2.2.2.2.2.2.2.1, z1.2.2.2.2.2.2.2.2.2.2.2.2.2.1, z1.2.2.2.2.2.2.2.2.2.2.2.2.2.2))
def vD (x0 : A6) (x1 : Bh) : Option A6 :=
 (F86 x0.Al.Am).bind λ y1 => (Afb x0.Al x0.Av.Power).bind λ y3 => andThen (foldI (Rw x1) y3 0 (x0.Av.Time, x0.Al.Am, x0.Al.Af, x0.Al.Ac, x0.Al.Ae, x0.Al.Phase, x0.Al.Ap, y1, x0.Av.Power.Ah, x0.Av.Power.Ac, x0.Av.Power.As, x0.Av.Power.Aq, x0.Av.A5, x0.Av.A4, x0.events, x0.states)) (λ _ => none) λ z0 => some (⟨(⟨z0.1, (⟨z0.2.2.2.2.2.2.2.2.1, z0.2.2.2.2.2.2.2.2.2.1, z0.2.2.2.2.2.2.2.2.2.2.1, z0.2.2.2.2.2.2.2.2.2.2.2.1⟩ : Ab), z0.2.2.2.2.2.2.2.1, z0.2.2.2.2.2.2.2.2.2.2.2.2.2.1⟩ : A0), (⟨z0.2.1, z0.2.2.1, z0.2.2.2.1, z0.2.2.2.2.1, z0.2.2.2.2.2.1, z0.2.2.2.2.2.2.1⟩ : Aa), z0.2.2.2.2.2.2.2.2.2.2.2.2.2.2.1, z0.2.2.2.2.2.2.2.2.2.2.2.2.2.2.2⟩ : A6)
def vE (x0 : A6) (x1 : Ab) : Option A6 :=
 (Il x0.Av.Power).bind λ y3 => (appI 97 x0.states [y3]).bind λ y5 => some (⟨x0.Av, x0.Al, x0.events, y5⟩ : A6)
def Akb (n0 : Nat) (a0 : Ao) (z0 : Ld) : Option (Ctl (Ld) Unit) :=
 (Ww (⟨(⟨z0.1, (⟨z0.2.2.2.2.2.2.2.1, z0.2.2.2.2.2.2.2.2.1, z0.2.2.2.2.2.2.2.2.2.1, z0.2.2.2.2.2.2.2.2.2.2.1⟩ : Ab), z0.2.2.2.2.2.2.2.2.2.2.2.1, z0.2.2.2.2.2.2.2.2.2.2.2.2.1⟩ : A0), (⟨z0.2.1, z0.2.2.1, z0.2.2.2.1, z0.2.2.2.2.1, z0.2.2.2.2.2.1, z0.2.2.2.2.2.2.1⟩ : Aa), z0.2.2.2.2.2.2.2.2.2.2.2.2.2.1, z0.2.2.2.2.2.2.2.2.2.2.2.2.2.2⟩ : A6) a0).bind λ y10 => some (.next (y10.Av.Time, y10.Al.Am, y10.Al.Af, y10.Al.Ac, y10.Al.Ae, y10.Al.Phase, y10.Al.Ap, y10.Av.Power.Ah, y10.Av.Power.Ac, y10.Av.Power.As, y10.Av.Power.Aq, y10.Av.A5, y10.Av.A4, y10.events, y10.states))
def F34 (x0 : Aa) (x1 : Bh) (x2 : A0) (x3 : List Ao) : Option (A6 × Int) :=
 (F21 x0 x1 x2).bind λ y1 => bif (y1 != 0) then none else bif decide ((x3.length : Int) > 200) then none else bif (x2.Time == 2147483648) then none else (F63 x0 x2).bind λ y6 => (vF y6 x2.Power).bind λ y8 => andThen (foldI Akb x3 0 (y8.Av.Time, y8.Al.Am, y8.Al.Af, y8.Al.Ac, y8.Al.Ae, y8.Al.Phase, y8.Al.Ap, y8.Av.Power.Ah, y8.Av.Power.Ac, y8.Av.Power.As, y8.Av.Power.Aq, y8.Av.A5, y8.Av.A4, y8.events, y8.states)) (λ _ => none) λ z0 => (vD (⟨(⟨z0.1, (⟨z0.2.2.2.2.2.2.2.1, z0.2.2.2.2.2.2.2.2.1, z0.2.2.2.2.2.2.2.2.2.1, z0.2.2.2.2.2.2.2.2.2.2.1⟩ : Ab), z0.2.2.2.2.2.2.2.2.2.2.2.1, z0.2.2.2.2.2.2.2.2.2.2.2.2.1⟩ : A0), (⟨z0.2.1, z0.2.2.1, z0.2.2.2.1, z0.2.2.2.2.1, z0.2.2.2.2.2.1, z0.2.2.2.2.2.2.1⟩ : Aa), z0.2.2.2.2.2.2.2.2.2.2.2.2.2.1, z0.2.2.2.2.2.2.2.2.2.2.2.2.2.2⟩ : A6) x1).bind λ y12 => (F83 x0 y12.Av.Power y12.Av.Time (⟨7, 0, 0⟩ : Ao)).bind λ y14 => (vE (⟨(⟨y12.Av.Time, y14.1, y12.Av.A5, y12.Av.A4⟩ : A0), y12.Al, y12.events, y12.states⟩ : A6) y14.1).bind λ y16 => (appI 41 y16.Av.A4 y16.events).bind λ y18 => (cutI y18 (max 0 (w64 ((y18.length : Int) - 200))) (y18.length : Int)).bind λ y21 => (F84 y21).bind λ y22 => some ((⟨(⟨w64 (y16.Av.Time + 1), y16.Av.Power, y16.Av.A5, y22⟩ : A0), y16.Al, y16.events, y16.states⟩ : A6), 0)
def F11 (x0 : Aa) (x1 : Bh) (x2 : A0) (x3 : List Ao) : Option (A0 × (List A9) × Int) :=
 (F34 x0 x1 x2 x3).bind λ y1 => bif (y1.2 != 0) then some ((⟨0, (⟨([] : List Bool), ([] : List Ag), ([] : List Int), ([] : List An)⟩ : Ab), ([] : List Az), ([] : List A9)⟩ : A0), ([] : List A9), y1.2) else some (y1.1.Av, y1.1.events, 0)
def Azd (a0 : A9) (y2 : A9) : Bool := !((a0.Time == y2.Time) && (((a0.Act.Kind == y2.Act.Kind) && ((a0.Act.Unit == y2.Act.Unit) && ((a0.Act.Value == y2.Act.Value) && true))) && ((a0.Err == y2.Err) && true)))
def yE (x1 : List A9) (n0 : Nat) (a0 : A9) (z0 : Unit) : Option (Ctl Unit Bool) :=
 (getI x1 (cnt 0 n0)).bind λ y2 => bif (Azd a0 y2) then some (.ret false) else some (.next ())
def F12 (x0 : List A9) (x1 : List A9) : Option Bool :=
 bif ((x0.length : Int) != (x1.length : Int)) then some false else andThen (foldI (yE x1) x0 0 ()) some λ z0 => some true
def F35  : Aa × Bh :=
 ((⟨1, [(⟨2, 0, 0⟩ : Ak), (⟨2, 0, 1⟩ : Ak), (⟨3, 0, 0⟩ : Ak)], [(⟨50, 0, 0⟩ : Bg), (⟨50, 0, 0⟩ : Bg)], [(⟨80, 10, 0, 0, ([] : List Int)⟩ : A1)], 50, 0⟩ : Aa), (⟨100, 1, 5⟩ : Bh))
def Av3 (x1 : Int) : Option (Ctl Unit Unit) :=
 bif decide (x1 < 0) then none else some (.next ())
def A6r (x0 : List Ag) (x1 : Int) : Bool := ((decide (((Gd (IntKind.wrap .u64 (x0.length : Int)) (IntKind.wrap .u64 x1)).1) > 0)) || (decide (((Gd (IntKind.wrap .u64 (x0.length : Int)) (IntKind.wrap .u64 x1)).2) > 9223372036854775807)))
def Av2 (x0 : List Ag) (x1 : Int) : Option (Ctl Unit Unit) :=
 bif (A6r x0 x1) then none else some (.next ())
def A6q (z2 : Int × (List Ag)) : Bool := decide (z2.1 < (z2.2.length : Int))
def Aj6 (z2 : Int × (List Ag)) : Option (Ctl (Int × (List Ag)) Unit) :=
 bif (A6q z2) then (bndI z2.2.length z2.1 (z2.2.length : Int)).bind λ u7 => (bndI z2.2.length 0 z2.1).bind λ u9 => some (.next (w64 (z2.1 + ((Nat.min ((z2.2.drop 0).take ((Int.toNat z2.1) - 0)).length ((Int.toNat (z2.2.length : Int)) - (Int.toNat z2.1))) : Int)), (G6 z2.2 (Int.toNat z2.1) ((Int.toNat (z2.2.length : Int)) - (Int.toNat z2.1)) ((z2.2.drop 0).take ((Int.toNat z2.1) - 0))))) else some (.brk (z2.1, z2.2))
def F87 (x0 : List Ag) (x1 : Int) : Option ((List Ag)) :=
 andThen (Av3 x1) (λ _ => none) λ z0 => andThen (Av2 x0 x1) (λ _ => none) λ z1 => (mkI 33 (w64 ((Gd (IntKind.wrap .u64 (x0.length : Int)) (IntKind.wrap .u64 x1)).2)) (⟨0, 0, 0, 0⟩ : Ag)).bind λ y3 => andThen (whileN Aj6 1152921504606846976 (((Nat.min x0.length y3.length) : Int), (G6 y3 0 y3.length x0))) (λ _ => none) λ z2 => some z2.2
def Aka (n0 : Nat) (a0 : A1) (z0 : (List Int)) : Option (Ctl ((List Int)) Unit) :=
 (appI 9 z0 [a0.Load]).bind λ y11 => some (.next y11)
def F36 (x0 : Aa) (x1 : Bh) : Option (A0 × Int) :=
 (F85 x0).bind λ y1 => bif (y1 != 0) then none else bif !(F59 x1) then none else (F86 x0.Am).bind λ y5 => (mkI 2 (x0.Af.length : Int) false).bind λ y7 => (F87 [(⟨0, 0, 5000, 0⟩ : Ag)] (x0.Ac.length : Int)).bind λ y9 => andThen (foldI Aka x0.Ae 0 ([] : List Int)) (λ _ => none) λ z0 => some ((⟨0, (⟨y7, y9, z0, ([] : List An)⟩ : Ab), y5, ([] : List A9)⟩ : A0), 0)
def Dm (x0 : Int) (x1 : Int) (x2 : Int) : Bool :=
 ((decide (x0 >= x1)) && (decide (x0 <= x2)))
def Vb (x0 : Int) : Bool :=
 ((decide (x0 >= 0)) && (decide (x0 < 3600)))
def Arn (x0 : Dc) : Int :=
 Fq (w64 (x0.To - x0.From))
def Ayj (x0 : Dc) : Bool :=
 (((Vb x0.From) && (Vb x0.To)) && (decide ((Arn x0) < 1800)))
def Ayk (x0 : Dc) : Bool :=
 !(Ayj x0)
def Vc (n0 : Nat) (a0 : Dc) (z0 : Unit) : Option (Ctl Unit Int) :=
 bif Ayk a0 then some (.ret (cnt 0 n0)) else some (.next ())
def Akm (x0 : List Dc) : Option Int :=
 andThen (foldI Vc x0 0 ()) some λ z0 => some (-1)
def Akw (x0 : List Dc) : Option Bool :=
 (Akm x0).bind λ y1 => some (decide (y1 >= 0))
def F94 (x0 : Bz) : Option Bool :=
 (A3 [(((((((Dm x0.Kind 1 3) && (Dm x0.Station 0 1)) && (Dm x0.Max 0 5000)) && (Dm x0.Rate 0 5000)) && (Dm x0.Cost 1 100)) && (decide ((x0.Hq.length : Int) <= 4))), true)] (Akw x0.Hq) default).bind λ y1 => some (((((((Dm x0.Kind 1 3) && (Dm x0.Station 0 1)) && (Dm x0.Max 0 5000)) && (Dm x0.Rate 0 5000)) && (Dm x0.Cost 1 100)) && (decide ((x0.Hq.length : Int) <= 4))) && (!y1))
def F93 (x0 : Bz) : Option Bool :=
 (F94 x0).bind λ y1 => some (!y1)
def Vj (n0 : Nat) (a0 : Bz) (z0 : Unit) : Option (Ctl Unit Unit) :=
 (F93 a0).bind λ y1 => bif y1 then none else some (.next ())
def Akx (x0 : List Bz) : Option Int :=
 andThen (foldI Vj x0 0 ()) (λ _ => none) λ z0 => some (-1)
def Arh (x0 : List Bz) : Option Bool :=
 (Akx x0).bind λ y1 => some (decide (y1 >= 0))
def A6s (x0 : Fp) : Bool := (((decide ((min x0.Bow x0.Stern) < 0)) || (decide ((max x0.Bow x0.Stern) > 200))) || ((x0.Bow == 0) && (x0.Stern == 0)))
def F42 (x0 : Fp) : Option Int :=
 bif decide ((x0.Cn.length : Int) > 8) then none else bif (A6s x0) then none else (Arh x0.Cn).bind λ y3 => bif y3 then none else some 0
def Afc (x0 : A1) (x1 : Int) : Bool :=
 (x0.Thruster == x1)
def Zu (x1c0 : Int) (n0 : Nat) (a0 : A1) (z0 : Unit) : Option (Ctl Unit (Int × Int)) :=
 bif Afc a0 x1c0 then some (.ret (cnt 0 n0, x1c0)) else none
def Arj (x0 : List A1) (x1c0 : Int) : Option (Int × Int) :=
 andThen (foldI (Zu x1c0) x0 0 ()) some λ z0 => some ((-1), x1c0)
def Ak4 (rec46 : Aa -> Ab -> Int -> Option Bool) (x0 : Int) (x1 : Aa) (x2 : Ab) : Option Bool :=
 (rec46 x1 x2 x0).bind λ y1 => some (!y1)
def Vh (x1c0 : Aa) (x1c1 : Ab) (rec46 : Aa -> Ab -> Int -> Option Bool) (n0 : Nat) (a0 : Int) (z0 : Unit) : Option (Ctl Unit (Int × Aa × Ab)) :=
 (Ak4 rec46 a0 x1c0 x1c1).bind λ y1 => bif y1 then some (.ret (cnt 0 n0, x1c0, x1c1)) else some (.next ())
def Akv (rec46 : Aa -> Ab -> Int -> Option Bool) (x0 : List Int) (x1c0 : Aa) (x1c1 : Ab) : Option (Int × Aa × Ab) :=
 andThen (foldI (Vh x1c0 x1c1 rec46) x0 0 ()) some λ z0 => some ((-1), x1c0, x1c1)
def Ak5 (rec46 : Aa -> Ab -> Int -> Option Bool) (x0 : List Int) (x1c0 : Aa) (x1c1 : Ab) : Option (Bool × Aa × Ab) :=
 (Akv rec46 x0 x1c0 x1c1).bind λ y1 => some (decide (y1.1 >= 0), y1.2.1, y1.2.2)
def Azb (y1 : Int × Bool) (y3 : Bool) (y5 : Bool) (y7 : Int) (y9 : A1) : Bool := ((((!y1.2) || (!y3)) || y5) || (decide (y7 < y9.Least)))
def Aye (rec46 : Aa -> Ab -> Int -> Option Bool) (x0 : Aa) (x1 : Ab) (x2 : Int) : Option Bool :=
 (Ak6 x0 x1 x2).bind λ y1 => (A3 [(!y1.2, false)] (Vq x0 x1 y1.1) default).bind λ y3 => (A3 [(((!y1.2) || (!y3)), false)] (Hr x1 4 x2) default).bind λ y5 => (A3 [((((!y1.2) || (!y3)) || y5), false)] (getI x1.As x2) default).bind λ y7 => (A3 [((((!y1.2) || (!y3)) || y5), false)] (getI x0.Ae x2) default).bind λ y9 => bif (Azb y1 y3 y5 y7 y9) then none else (getI x0.Ae x2).bind λ y12 => (Ak5 rec46 y12.Needs x0 x1).bind λ y14 => some (!y14.1)
def Ayd : Nat -> Aa -> Ab -> Int -> Option Bool
 | 0 => λ _ _ _ => none
 | n + 1 => Aye (Ayd n)
def F46 (x0 : Aa) (x1 : Ab) (x2 : Int) : Option Bool := Ayd 1000 x0 x1 x2
def Aku (x0 : Fk) : Bool :=
 ((decide ((max x0.X x0.Y) <= 5000)) && (decide ((min x0.X x0.Y) >= (-5000))))
def Ayf (x0 : Int) (x1 : Int) : Option Int :=
 (nzI x1).bind λ u2 => (nzI x1).bind λ u4 => bif decide ((Int.tmod x0 x1) < 0) then none else some (w64 (Int.tdiv x0 x1))
def Ayg (x0 : Int) (x1 : Int) : Option Int :=
 (Ayf (w64 (0 - x0)) x1).bind λ y1 => some (w64 (0 - y1))
def Axx (x0 : Int) (x1 : Int) : Bool := ((((decide (x0 < (-1000000000000000000))) || (decide (x0 > 1000000000000000000))) || (decide (x1 < 1))) || (decide (x1 > 1000000000)))
def Akl (x0 : Int) (x1 : Int) : Option (Int × Int) :=
 bif (Axx x0 x1) then none else (Ayg x0 x1).bind λ y2 => some (y2, 0)
def Ayi (x0 : Int) (x1 : Int) : Option (Int × Int) :=
 (Akl x0 x1).bind λ y1 => some (y1.1, y1.2)
def Ayn (x0 : Bz) (x1 : Fk) : Option (Int × Int) :=
 (F94 x0).bind λ y1 => bif ((!y1) || (!(Aku x1))) then none else (Ayi (w64 ((w64 ((w64 (x1.X * x1.X)) + (w64 (x1.Y * x1.Y)))) * x0.Cost)) 1000).bind λ y4 => some (y4.1, y4.2)
def A40 (x0 : Int) : Bool := ((decide (x0 < 0)) || (decide (x0 > 1000000000000000000)))
def A4z (x0 : Int) (z0 : Int × Int) : Bool := decide ((w64 ((w64 (Int.tdiv (w64 ((w64 (z0.1 + z0.2)) + 1)) 2)) * (w64 (Int.tdiv (w64 ((w64 (z0.1 + z0.2)) + 1)) 2)))) <= x0)
def Abi (x0 : Int) (z0 : Int × Int) : Option (Ctl (Int × Int) Unit) :=
 bif decide (z0.1 < z0.2) then bif (A4z x0 z0) then some (.next (w64 (Int.tdiv (w64 ((w64 (z0.1 + z0.2)) + 1)) 2), z0.2)) else some (.next (z0.1, w64 ((w64 (Int.tdiv (w64 ((w64 (z0.1 + z0.2)) + 1)) 2)) - 1))) else some (.brk (z0.1, z0.2))
def Aym (x0 : Int) : Option (Int × Int) :=
 bif (A40 x0) then none else andThen (whileN (Abi x0) 1152921504606846976 (0, 1000000000)) (λ _ => none) λ z0 => some (z0.1, 0)
def F47 (x0 : Bz) (x1 : Int) : Option Int :=
 (Ayn x0 (⟨x0.Max, 0⟩ : Fk)).bind λ y1 => bif ((y1.2 != 0) || (decide (x1 < 0))) then none else bif decide (x1 >= y1.1) then none else (nzI x0.Cost).bind λ u6 => (Aym (w64 (Int.tdiv (w64 (1000 * x1)) x0.Cost))).bind λ y7 => some y7.1
def Akt (x1 : Aa) (x2 : Ab) (n0 : Nat) (a0 : Bz) (z0 : (List Int)) : Option (Ctl ((List Int)) Unit) :=
 (Arj x1.Ae (cnt 0 n0)).bind λ y9 => (A3 [(decide (y9.1 >= 0), true)] (F46 x1 x2 y9.1) default).bind λ y11 => bif ((decide (y9.1 >= 0)) && y11) then (getI x2.As y9.1).bind λ y14 => (F47 a0 y14).bind λ y16 => (getI z0 y9.2).bind λ y18 => (setI z0 y9.2 y16).bind λ y20 => some (.next y20) else none
def F15 (x0 : Fp) (x1 : Aa) (x2 : Ab) : Option ((List Int) × Int) :=
 (F42 x0).bind λ y1 => bif (y1 != 0) then none else (F43 x1 x2).bind λ y4 => bif (y4 != 0) then none else (mkI 9 (x0.Cn.length : Int) 0).bind λ y7 => andThen (foldI (Akt x1 x2) x0.Cn 0 y7) (λ _ => none) λ z0 => some (z0, 0)
def Aj9 (x1 : List Bool) (n0 : Nat) (a0 : Bool) (z0 : Unit) : Option (Ctl Unit Unit) :=
 (getI x1 (cnt 0 n0)).bind λ y2 => bif !(a0 == y2) then none else some (.next ())
def F37 (x0 : List Bool) (x1 : List Bool) : Option Bool :=
 bif ((x0.length : Int) != (x1.length : Int)) then none else andThen (foldI (Aj9 x1) x0 0 ()) (λ _ => none) λ z0 => some true
def Aj8 (x1 : List Int) (n0 : Nat) (a0 : Int) (z0 : Unit) : Option (Ctl Unit Unit) :=
 (getI x1 (cnt 0 n0)).bind λ y2 => bif (a0 != y2) then none else some (.next ())
def F38 (x0 : List Int) (x1 : List Int) : Option Bool :=
 bif ((x0.length : Int) != (x1.length : Int)) then none else andThen (foldI (Aj8 x1) x0 0 ()) (λ _ => none) λ z0 => some true
def F90 (x0 : Aj) : Bool :=
 decide ((x0.Ac.length : Int) > 0)
def Vk (n0 : Nat) (a0 : Aj) (z0 : Unit) : Option (Ctl Unit Int) :=
 bif F90 a0 then some (.ret (cnt 0 n0)) else some (.next ())
def Aky (x0 : List Aj) : Option Int :=
 andThen (foldI Vk x0 0 ()) some λ z0 => some (-1)
def Ari (x0 : List Aj) : Option Bool :=
 (Aky x0).bind λ y1 => some (decide (y1 >= 0))
def F39 (x0 : Aa) (x1 : Ab) : Option Bool :=
 (F43 x0 x1).bind λ y1 => (A3 [((y1 == 0), true)] (F89 x0 x1) default).bind λ y3 => (A3 [((y1 == 0), true)] (Ari y3) default).bind λ y5 => some ((y1 == 0) && (!y5))
def F13  : Option Bool :=
 (F36 F35.1 F35.2).bind λ y1 => (F11 F35.1 F35.2 y1.1 [(⟨3, 0, 0⟩ : Ao), (⟨3, 1, 0⟩ : Ao), (⟨1, 0, 0⟩ : Ao), (⟨1, 1, 0⟩ : Ao), (⟨1, 2, 0⟩ : Ao)]).bind λ y3 => (F11 F35.1 F35.2 y3.1 [(⟨8, 1, 1⟩ : Ao)]).bind λ y5 => (F15 (⟨0, 1, [(⟨2, 0, 1000, 0, 1, ([] : List Dc)⟩ : Bz)]⟩ : Fp) F35.1 y5.1.Power).bind λ y7 => (A3 [(((((((y1.2 == 0) && (y3.2.2 == 0)) && (y5.2.2 == 0)) && (y7.2 == 0)) && (y5.1.Time == 2)) && ((y5.2.1.length : Int) == 3)), true)] (F37 y5.1.Power.Ah [true, false, true]) default).bind λ y9 => (A3 [((((((((y1.2 == 0) && (y3.2.2 == 0)) && (y5.2.2 == 0)) && (y7.2 == 0)) && (y5.1.Time == 2)) && ((y5.2.1.length : Int) == 3)) && y9), true)] (F38 y5.1.Power.As [50]) default).bind λ y11 => (A3 [(((((((((y1.2 == 0) && (y3.2.2 == 0)) && (y5.2.2 == 0)) && (y7.2 == 0)) && (y5.1.Time == 2)) && ((y5.2.1.length : Int) == 3)) && y9) && y11), true)] (F38 y7.1 [223]) default).bind λ y13 => (A3 [((((((((((y1.2 == 0) && (y3.2.2 == 0)) && (y5.2.2 == 0)) && (y7.2 == 0)) && (y5.1.Time == 2)) && ((y5.2.1.length : Int) == 3)) && y9) && y11) && y13), true)] (F39 F35.1 y5.1.Power) default).bind λ y15 => some ((((((((((y1.2 == 0) && (y3.2.2 == 0)) && (y5.2.2 == 0)) && (y7.2 == 0)) && (y5.1.Time == 2)) && ((y5.2.1.length : Int) == 3)) && y9) && y11) && y13) && (!y15))
def Aaw (y5 : (List Ao) × Ai) (z0 : Int) (a0 : A9) (y11 : Ao) : Bool := ((decide (z0 < (y5.1.length : Int))) && ((a0.Act.Kind == y11.Kind) && ((a0.Act.Unit == y11.Unit) && ((a0.Act.Value == y11.Value) && true))))
def vS (y3 : Ai1) (y5 : (List Ao) × Ai) (n0 : Nat) (a0 : A9) (z0 : Int) : Option (Ctl Int Bool) :=
 bif (a0.Time != y3.2.2.1.Time) then some (.ret false) else (A3 [(decide (z0 < (y5.1.length : Int)), true)] (getI y5.1 z0) default).bind λ y11 => bif (Aaw y5 z0 a0 y11) then some (.next (w64 (z0 + 1))) else some (.next z0)
def F3 (x0 : List Int) : Option Bool :=
 (F8 x0).bind λ y1 => (F9 y1).bind λ y3 => (yG y3.2.2.2 y3.1 5).bind λ y5 => (F11 y3.1 y3.2.1 y3.2.2.1 y5.1).bind λ y7 => bif (y7.2.2 != 0) then some false else andThen (foldI (vS y3 y5) y7.2.1 0 0) some λ z0 => (A3 [(((z0 == (y5.1.length : Int)) && (decide ((y7.1.A4.length : Int) >= (y7.2.1.length : Int)))), true)] (cutI y7.1.A4 (w64 ((y7.1.A4.length : Int) - (y7.2.1.length : Int))) (y7.1.A4.length : Int)) default).bind λ y15 => (A3 [(((z0 == (y5.1.length : Int)) && (decide ((y7.1.A4.length : Int) >= (y7.2.1.length : Int)))), true)] (F12 y15 y7.2.1) default).bind λ y16 => (A3 [(((((z0 == (y5.1.length : Int)) && (decide ((y7.1.A4.length : Int) >= (y7.2.1.length : Int)))) && y16) && ((y7.1.A5.length : Int) == y3.1.Am)), true)] (F13) default).bind λ y18 => some (((((z0 == (y5.1.length : Int)) && (decide ((y7.1.A4.length : Int) >= (y7.2.1.length : Int)))) && y16) && ((y7.1.A5.length : Int) == y3.1.Am)) && y18)
end Go.Proofs.YthgnbpdjncbkfaaGreat
