import Derived.Test.YthgnbpdjncbkfaaGreatTy
set_option linter.unusedVariables false
namespace Go.Proofs.YthgnbpdjncbkfaaGreat
open Go.SL
abbrev Sg0 := Int × (List Bool) × (List Af) × (List Int) × (List Am) × (List Az) × (List Bg)
abbrev Sg1 := Int × (List Int) × Int × (List Ak)
abbrev Sg2 := Int × (List Int) × Int × (List Ak) × (List A1)
abbrev Sg3 := Int × (List Int) × Int × (List Ak) × (List Bh)
abbrev Sg4 := Int × (List Int) × Int × (List Az)
abbrev Sg5 := Int × (List Int) × Int × (List Af)
abbrev Sg6 := Int × (List Ak) × (List Bh) × (List A1) × Int × Int × (List Bool) × (List Af) × (List Int) × (List Am) × (List Ap)
abbrev Sg7 := Int × (List Ak) × (List Bh) × (List A1) × Int × Int × (List Int) × (List Bool) × (List Af) × (List Int) × (List Am) × (List Ap)
abbrev Sg8 := Int × Int × (List Bool) × (List Af) × (List Int) × (List Am) × (List Az) × (List Bg)
abbrev Sg9 := Int × Int × (List Int) × Int × (List Ak) × (List Bh) × (List A1) × Int × Int
abbrev Aa6 := Int × Int × (List Ak) × (List Bh) × (List A1) × Int × Int × (List Bool) × (List Af) × (List Int) × (List Am) × (List Az) × (List Bg) × (List Bool) × (List Bg) × (List Ab) × (List Int)
abbrev Ld := Int × Int × (List Ak) × (List Bh) × (List A1) × Int × Int × (List Bool) × (List Af) × (List Int) × (List Am) × (List Az) × (List Bg) × (List Bg) × (List Ab)
abbrev Aa5 := Int × Int × (List Ak) × (List Bh) × (List A1) × Int × Int × (List Az) × (List Bool) × (List Af) × (List Int) × (List Am) × (List Az) × (List Bg) × (List Bg) × (List Ab)
abbrev Ai3 := Aa × Bf × A0 × Aj
def F8 (x0 : List Int) : Option Aj :=
 (cutI x0 0 (min (x0.length : Int) 600)).bind λ y2 => some (⟨y2, 0⟩ : Aj)
def F80 (x0 : Int) (x1 : Int) : Option Int :=
 bif decide (x1 < 1) then some 0 else (nzI x1).bind λ u3 => (nzI x1).bind λ u5 => some (Int.tmod (w64 ((Int.tmod x0 x1) + x1)) x1)
def F32 (x0 : Aj) (x1 : Int) : Option (Int × Aj) :=
 bif decide (x0.At >= (x0.L.length : Int)) then some (0, x0) else (getI x0.L (w64 ((w64 (x0.At + 1)) - 1))).bind λ y2 => (F80 y2 x1).bind λ y4 => some (y4, (⟨x0.L, w64 (x0.At + 1)⟩ : Aj))
def F78 (x0 : Aj) (x1 : Int) (x2 : Int) : Option (Int × Aj) :=
 (F32 x0 (w64 ((w64 (x2 - x1)) + 1))).bind λ y1 => some (w64 (x1 + y1.1), y1.2)
def F40 (x0 : Aj) (x1 : List Int) : Option (Int × Aj) :=
 (F32 x0 (x1.length : Int)).bind λ y1 => (getI x1 y1.1).bind λ y3 => some (y3, y1.2)
def Ut (y1 : Int × Aj) (z0 : Sg1) : Option (Ctl (Sg1) Unit) :=
 bif decide (z0.1 < y1.1) then (F32 (⟨z0.2.1, z0.2.2.1⟩ : Aj) 6).bind λ y8 => bif decide (y8.1 < 5) then (F32 y8.2 z0.1).bind λ y11 => (appI 25 z0.2.2.2 [(⟨1, y11.1, z0.1⟩ : Ak)]).bind λ y13 => some (.next (w64 (z0.1 + 1), y11.2.L, y11.2.At, y13)) else some (.next (w64 (z0.1 + 1), y8.2.L, y8.2.At, z0.2.2.2)) else some (.brk (z0.1, z0.2.1, z0.2.2.1, z0.2.2.2))
def Ake (y1 : Int × Aj) (z0 : Sg1) (y15 : Int × Aj) : Option (Ctl ((List Ak)) Unit) :=
 bif ((decide (y1.1 > 2)) && (y15.1 == 1)) then (appI 25 z0.2.2.2 [(⟨1, 0, w64 (y1.1 - 1)⟩ : Ak)]).bind λ y18 => some (.next y18) else some (.next z0.2.2.2)
def Us (y1 : Int × Aj) (z2 : Sg3) : Option (Ctl (Sg3) Unit) :=
 bif decide (z2.1 > 0) then (F32 (⟨z2.2.1, z2.2.2.1⟩ : Aj) y1.1).bind λ y23 => (appI 25 z2.2.2.2.1 [(⟨2, y23.1, (z2.2.2.2.2.length : Int)⟩ : Ak)]).bind λ y25 => (F40 y23.2 [10, 50, 100]).bind λ y27 => (F40 y27.2 [0, 5, y27.1]).bind λ y29 => (F40 y29.2 [0, 1, 3]).bind λ y31 => (appI 25 z2.2.2.2.2 [(⟨y27.1, y29.1, y31.1⟩ : Bh)]).bind λ y33 => some (.next (w64 (z2.1 - 1), y31.2.L, y31.2.At, y25, y33)) else some (.brk (z2.1, z2.2.1, z2.2.2.1, z2.2.2.2.1, z2.2.2.2.2))
def Akd (y1 : Int × Aj) (z3 : Sg2) (y38 : Int × Aj) (y40 : List Ak) (y42 : Int × Aj) : Option (Ctl ((List Ak)) Unit) :=
 bif ((decide (y1.1 > 1)) && (y42.1 == 3)) then (nzI y1.1).bind λ u46 => (appI 25 y40 [(⟨3, Int.tmod (w64 (y38.1 + 1)) y1.1, (z3.2.2.2.2.length : Int)⟩ : Ak)]).bind λ y47 => some (.next y47) else some (.next y40)
def Azs (z3 : Sg2) (y57 : Int × Aj) : Bool := ((decide ((z3.2.2.2.2.length : Int) > 0)) && (y57.1 == 3))
def Ur (y1 : Int × Aj) (z3 : Sg2) : Option (Ctl (Sg2) Unit) :=
 bif decide (z3.1 > 0) then (F32 (⟨z3.2.1, z3.2.2.1⟩ : Aj) y1.1).bind λ y38 => (appI 25 z3.2.2.2.1 [(⟨3, y38.1, (z3.2.2.2.2.length : Int)⟩ : Ak)]).bind λ y40 => (A2 [(decide (y1.1 > 1), true)] (F32 y38.2 4) (default, y38.2)).bind λ y42 => andThen (Akd y1 z3 y38 y40 y42) (λ _ => none) λ z4 => (F40 y42.2 [0, 5, 20, 40]).bind λ y49 => (F40 y49.2 [0, w64 (Int.tdiv y49.1 2), y49.1]).bind λ y51 => (F32 y51.2 3).bind λ y53 => (F78 y53.2 (-1) 2).bind λ y55 => (A2 [(decide ((z3.2.2.2.2.length : Int) > 0), true)] (F32 y55.2 4) (default, y55.2)).bind λ y57 => bif (Azs z3 y57) then (F32 y57.2 (z3.2.2.2.2.length : Int)).bind λ y60 => (appI 57 z3.2.2.2.2 [(⟨y49.1, y51.1, y53.1, y55.1, [y60.1]⟩ : A1)]).bind λ y62 => some (.next (w64 (z3.1 - 1), y60.2.L, y60.2.At, z4, y62)) else (appI 57 z3.2.2.2.2 [(⟨y49.1, y51.1, y53.1, y55.1, ([] : List Int)⟩ : A1)]).bind λ y64 => some (.next (w64 (z3.1 - 1), y57.2.L, y57.2.At, z4, y64)) else some (.brk (z3.1, z3.2.1, z3.2.2.1, z3.2.2.2.1, z3.2.2.2.2))
def F29 (x0 : Aj) : Option (Aa × Aj) :=
 (F78 x0 1 4).bind λ y1 => (F40 y1.2 [0, 50, 200, 1800]).bind λ y3 => (F40 y3.2 [0, 10, 50]).bind λ y5 => andThen (whileN (Ut y1) 1152921504606846976 (1, y5.2.L, y5.2.At, ([] : List Ak))) (λ _ => none) λ z0 => (A2 [(decide (y1.1 > 2), true)] (F32 (⟨z0.2.1, z0.2.2.1⟩ : Aj) 2) (default, (⟨z0.2.1, z0.2.2.1⟩ : Aj))).bind λ y15 => andThen (Ake y1 z0 y15) (λ _ => none) λ z1 => (F32 y15.2 5).bind λ y20 => andThen (whileN (Us y1) 1152921504606846976 (y20.1, y20.2.L, y20.2.At, z1, ([] : List Bh))) (λ _ => none) λ z2 => (F32 (⟨z2.2.1, z2.2.2.1⟩ : Aj) 6).bind λ y35 => andThen (whileN (Ur y1) 1152921504606846976 (y35.1, y35.2.L, y35.2.At, z2.2.2.2.1, ([] : List A1))) (λ _ => none) λ z3 => some ((⟨y1.1, z3.2.2.2.1, z2.2.2.2.2, z3.2.2.2.2, y3.1, y5.1⟩ : Aa), (⟨z3.2.1, z3.2.2.1⟩ : Aj))
def F30 (x0 : Aj) : Option (Bf × Aj) :=
 (F40 x0 [60, 80, 100]).bind λ y1 => (F40 y1.2 [1, 30, 50]).bind λ y3 => (F40 y3.2 [0, 1, 3]).bind λ y5 => some ((⟨y1.1, y3.1, y5.1⟩ : Bf), y5.2)
def B4 (x0 : Int) (x1 : Int) (x2 : Int) : Bool :=
 ((decide (x0 >= x1)) && (decide (x0 <= x2)))
def F71 (x0 : Aa) (x1 : Am) : Bool :=
 bif (x1.Kind == 1) then B4 x1.Number 0 (w64 ((x0.Ac.length : Int) - 1)) else bif (x1.Kind == 2) then B4 x1.Number 0 (w64 ((x0.Ag.length : Int) - 1)) else bif (x1.Kind == 3) then B4 x1.Number 0 (w64 (x0.An - 1)) else bif (x1.Kind == 4) then B4 x1.Number 0 (w64 ((x0.Ae.length : Int) - 1)) else false
def Ait (x1 : Aa) (z0 : Int × (List Int) × Int × (List Bool)) : Bool := decide (z0.1 < (x1.Ag.length : Int))
def K5 (x1 : Aa) (z0 : Int × (List Int) × Int × (List Bool)) : Option (Ctl (Int × (List Int) × Int × (List Bool)) Unit) :=
 bif (Ait x1 z0) then (F32 (⟨z0.2.1, z0.2.2.1⟩ : Aj) 2).bind λ y2 => (appI 2 z0.2.2.2 [(y2.1 == 1)]).bind λ y4 => some (.next (w64 (z0.1 + 1), y2.2.L, y2.2.At, y4)) else some (.brk (z0.1, z0.2.1, z0.2.2.1, z0.2.2.2))
def Ais (x1 : Aa) (z1 : Int × (List Bool)) : Bool := decide (z1.1 < (x1.Ae.length : Int))
def Adi (z1 : Int × (List Bool)) (a2 : Ak) (y7 : Bool) : Bool := (((a2.Kind == 3) && (a2.B == z1.1)) && y7)
def K3 (z1 : Int × (List Bool)) (n2 : Nat) (a2 : Ak) (z2 : Bool × (List Bool)) : Option (Ctl (Bool × (List Bool)) Unit) :=
 (A2 [(((a2.Kind == 3) && (a2.B == z1.1)), true)] (getI z2.2 (cnt 0 n2)) default).bind λ y7 => bif (Adi z1 a2 y7) then (getI z2.2 (cnt 0 n2)).bind λ y10 => (setI z2.2 (cnt 0 n2) z2.1).bind λ y12 => some (.next (false, y12)) else some (.next (z2.1, z2.2))
def K4 (x1 : Aa) (z1 : Int × (List Bool)) : Option (Ctl (Int × (List Bool)) Unit) :=
 bif (Ais x1 z1) then andThen (foldI (K3 z1) x1.Ag 0 (true, z1.2)) (λ _ => none) λ z2 => some (.next (w64 (z1.1 + 1), z2.2)) else some (.brk (z1.1, z1.2))
def Adh (x1 : Aa) (z3 : Sg5) : Bool := decide (z3.1 < (x1.Ac.length : Int))
def K2 (x1 : Aa) (z3 : Sg5) : Option (Ctl (Sg5) Unit) :=
 bif (Adh x1 z3) then (F40 (⟨z3.2.1, z3.2.2.1⟩ : Aj) [0, 1, 2, 2, 2, 3]).bind λ y15 => (F32 y15.2 5).bind λ y17 => (F40 y17.2 [5000, 5000, 5005, 4950]).bind λ y19 => (F40 y19.2 [0, 0, 40, 1800, 3590]).bind λ y21 => (appI 33 z3.2.2.2 [(⟨y15.1, y17.1, y19.1, y21.1⟩ : Af)]).bind λ y23 => some (.next (w64 (z3.1 + 1), y21.2.L, y21.2.At, y23)) else some (.brk (z3.1, z3.2.1, z3.2.2.1, z3.2.2.2))
def K1 (n4 : Nat) (a4 : A1) (z4 : (List Int) × Int × (List Int)) : Option (Ctl ((List Int) × Int × (List Int)) Unit) :=
 (F40 (⟨z4.1, z4.2.1⟩ : Aj) [a4.Load, a4.Load, a4.Least, w64 (Int.tdiv a4.Load 3)]).bind λ y25 => (appI 9 z4.2.2 [y25.1]).bind λ y27 => some (.next (y25.2.L, y25.2.At, y27))
def K0 (x1 : Aa) (z5 : Int × (List Int) × Int × (List Am)) : Option (Ctl (Int × (List Int) × Int × (List Am)) Unit) :=
 bif decide (z5.1 <= 4) then (F32 (⟨z5.2.1, z5.2.2.1⟩ : Aj) 5).bind λ y30 => bif (y30.1 == 4) then (F32 y30.2 4).bind λ y33 => bif F71 x1 (⟨z5.1, y33.1⟩ : Am) then (appI 17 z5.2.2.2 [(⟨z5.1, y33.1⟩ : Am)]).bind λ y36 => some (.next (w64 (z5.1 + 1), y33.2.L, y33.2.At, y36)) else some (.next (w64 (z5.1 + 1), y33.2.L, y33.2.At, z5.2.2.2)) else some (.next (w64 (z5.1 + 1), y30.2.L, y30.2.At, z5.2.2.2)) else some (.brk (z5.1, z5.2.1, z5.2.2.1, z5.2.2.2))
def Vr (x0 : Aj) (x1 : Aa) : Option (Ab × Aj) :=
 andThen (whileN (K5 x1) 1152921504606846976 (0, x0.L, x0.At, ([] : List Bool))) (λ _ => none) λ z0 => andThen (whileN (K4 x1) 1152921504606846976 (0, z0.2.2.2)) (λ _ => none) λ z1 => andThen (whileN (K2 x1) 1152921504606846976 (0, z0.2.1, z0.2.2.1, ([] : List Af))) (λ _ => none) λ z3 => andThen (foldI K1 x1.Ae 0 (z3.2.1, z3.2.2.1, ([] : List Int))) (λ _ => none) λ z4 => andThen (whileN (K0 x1) 7 (1, z4.1, z4.2.1, ([] : List Am))) (λ _ => none) λ z5 => some ((⟨z1.2, z3.2.2.2, z4.2.2, z5.2.2.2⟩ : Ab), (⟨z5.2.1, z5.2.2.1⟩ : Aj))
def Hy (x1 : Int) (x2 : Int) (a0 : Ak) : Bool := ((a0.Kind == x1) && ((a0.B == x2) || ((x1 == 1) && (a0.A == x2))))
def vH (x1 : Int) (x2 : Int) (n0 : Nat) (a0 : Ak) (z0 : (List Int)) : Option (Ctl ((List Int)) Unit) :=
 bif (Hy x1 x2 a0) then (appI 9 z0 [cnt 0 n0]).bind λ y2 => some (.next y2) else some (.next z0)
def F77 (x0 : Aa) (x1 : Int) (x2 : Int) : Option ((List Int)) :=
 andThen (foldI (vH x1 x2) x0.Ag 0 ([] : List Int)) (λ _ => none) λ z0 => some z0
def Au2 (x0 : Aa) (a0 : Ak) : Bool := !(B4 a0.B (w64 (a0.A + 1)) (w64 (x0.An - 1)))
def Au1 (x0 : Aa) (a0 : Ak) : Bool := !(B4 a0.B 0 (w64 ((x0.Ac.length : Int) - 1)))
def Au0 (x0 : Aa) (a0 : Ak) : Bool := !(B4 a0.B 0 (w64 ((x0.Ae.length : Int) - 1)))
def Aik (a0 : Ak) (a1 : Ak) : Bool := ((a1.Kind == a0.Kind) && ((a1.A == a0.A) && ((a1.B == a0.B) && true)))
def P0 (a0 : Ak) (n1 : Nat) (a1 : Ak) (z1 : Unit) : Option (Ctl Unit Bool) :=
 bif (Aik a0 a1) then some (.ret false) else some (.next ())
def Xd (x0 : Aa) (n0 : Nat) (a0 : Ak) (z0 : Unit) : Option (Ctl Unit Bool) :=
 bif !(B4 a0.A 0 (w64 (x0.An - 1))) then some (.ret false) else bif (a0.Kind == 1) then bif (Au2 x0 a0) then some (.ret false) else some (.next ()) else bif (a0.Kind == 2) then bif (Au1 x0 a0) then some (.ret false) else some (.next ()) else bif (a0.Kind == 3) then bif (Au0 x0 a0) then some (.ret false) else (cutI x0.Ag 0 (cnt 0 n0)).bind λ y9 => andThen (foldI (P0 a0) y9 0 ()) (λ v => some (.ret v)) λ z1 => some (.next ()) else some (.ret false)
def Ano (x0 : Aa) (z2 : Int) : Bool := decide (z2 < (x0.Ac.length : Int))
def Xc (x0 : Aa) (z2 : Int) : Option (Ctl Int Bool) :=
 bif (Ano x0 z2) then (F77 x0 2 z2).bind λ y12 => bif ((y12.length : Int) != 1) then some (.ret false) else some (.next (w64 (z2 + 1))) else some (.brk z2)
def Ann (x0 : Aa) (z3 : Int) : Bool := decide (z3 < (x0.Ae.length : Int))
def Xb (x0 : Aa) (z3 : Int) : Option (Ctl Int Bool) :=
 bif (Ann x0 z3) then (F77 x0 3 z3).bind λ y16 => bif decide ((y16.length : Int) < 1) then some (.ret false) else some (.next (w64 (z3 + 1))) else some (.brk z3)
def Akv (x0 : Aa) : Option Bool :=
 andThen (foldI (Xd x0) x0.Ag 0 ()) some λ z0 => andThen (whileN (Xc x0) 1152921504606846976 0) some λ z2 => andThen (whileN (Xb x0) 1152921504606846976 0) some λ z3 => some true
def Auz (a0 : Bh) : Bool := (((!(B4 a0.Rating 1 50000)) || (!(B4 a0.Least 0 a0.Rating))) || (!(B4 a0.Start 0 600)))
def Xa (n0 : Nat) (a0 : Bh) (z0 : Unit) : Option (Ctl Unit Bool) :=
 bif (Auz a0) then some (.ret false) else some (.next ())
def Aku (x0 : Aa) : Option Bool :=
 andThen (foldI Xa x0.Ac 0 ()) some λ z0 => some true
def Auy (a0 : A1) : Bool := (((((!(B4 a0.Load 0 50000)) || (!(B4 a0.Least 0 a0.Load))) || (!(B4 a0.Bn 0 15))) || (!(B4 a0.Thruster (-1) 7))) || (decide ((a0.Needs.length : Int) > 4)))
def Aux (n0 : Nat) (n1 : Nat) (a1 : Int) (y2 : Int) : Bool := ((!(B4 a1 0 (w64 ((cnt 0 n0) - 1)))) || ((decide ((cnt 0 n1) > 0)) && (decide (y2 >= a1))))
def W9 (n0 : Nat) (a0 : A1) (n1 : Nat) (a1 : Int) (z1 : Unit) : Option (Ctl Unit Bool) :=
 (A2 [(!(B4 a1 0 (w64 ((cnt 0 n0) - 1))), false), (decide ((cnt 0 n1) > 0), true)] (getI a0.Needs (w64 ((cnt 0 n1) - 1))) default).bind λ y2 => bif (Aux n0 n1 a1 y2) then some (.ret false) else some (.next ())
def W_ (n0 : Nat) (a0 : A1) (z0 : Unit) : Option (Ctl Unit Bool) :=
 bif (Auy a0) then some (.ret false) else andThen (foldI (W9 n0 a0) a0.Needs 0 ()) (λ v => some (.ret v)) λ z1 => some (.next ())
def Akt (x0 : Aa) : Option Bool :=
 andThen (foldI W_ x0.Ae 0 ()) some λ z0 => some true
def Aiw (x0 : Aa) : Bool := (((((decide (x0.An < 1)) || (decide (x0.An > 6))) || (decide ((x0.Ag.length : Int) > 24))) || (decide ((x0.Ac.length : Int) > 8))) || (decide ((x0.Ae.length : Int) > 16)))
def Aiv (x0 : Aa) (y2 : Bool) (y4 : Bool) (y6 : Bool) : Bool := (((((((!y2) || (!y4)) || (!y6)) || (decide (x0.Phase < 0))) || (decide (x0.Phase > 1800))) || (decide (x0.Aq < 0))) || (decide (x0.Aq > 6000)))
def Abp (x0 : Aa) : Option Int :=
 bif (Aiw x0) then some 2 else (Akv x0).bind λ y2 => (A2 [(!y2, false)] (Aku x0) default).bind λ y4 => (A2 [(((!y2) || (!y4)), false)] (Akt x0) default).bind λ y6 => bif (Aiv x0 y2 y4 y6) then some 14 else some 0
def Abo (x0 : Am) (x1 : Am) : Bool :=
 ((decide (x0.Kind < x1.Kind)) || ((x0.Kind == x1.Kind) && (decide (x0.Number < x1.Number))))
def Azq (x0 : Aa) (x1 : Ab) : Bool := ((((x1.Ah.length : Int) != (x0.Ag.length : Int)) || ((x1.Ac.length : Int) != (x0.Ac.length : Int))) || ((x1.Ar.length : Int) != (x0.Ae.length : Int)))
def Azp (a0 : Af) : Bool := ((((!(B4 a0.State 0 3)) || (!(B4 a0.Since 0 2147483648))) || (!(B4 a0.Aq 0 6000))) || (!(B4 a0.Phase 0 3599)))
def vR (n0 : Nat) (a0 : Af) (z0 : Unit) : Option (Ctl Unit Int) :=
 bif (Azp a0) then some (.ret 11) else some (.next ())
def vQ (x0 : Aa) (n1 : Nat) (a1 : Int) (z1 : Unit) : Option (Ctl Unit Int) :=
 (getI x0.Ae (cnt 0 n1)).bind λ y6 => bif !(B4 a1 0 y6.Load) then some (.ret 11) else some (.next ())
def Azo (x0 : Aa) (n2 : Nat) (a2 : Am) (y10 : Am) : Bool := ((!(F71 x0 a2)) || ((decide ((cnt 0 n2) > 0)) && (!(Abo y10 a2))))
def vP (x0 : Aa) (x1 : Ab) (n2 : Nat) (a2 : Am) (z2 : Unit) : Option (Ctl Unit Int) :=
 (A2 [(!(F71 x0 a2), false), (decide ((cnt 0 n2) > 0), true)] (getI x1.Ao (w64 ((cnt 0 n2) - 1))) default).bind λ y10 => bif (Azo x0 n2 a2 y10) then some (.ret 11) else some (.next ())
def Azn (x0 : Aa) (z3 : Int) : Bool := decide (z3 < (x0.Ae.length : Int))
def vN (x1 : Ab) (n4 : Nat) (a4 : Int) (z4 : Int) : Option (Ctl Int Unit) :=
 (getI x1.Ah a4).bind λ y16 => bif y16 then some (.next (w64 (z4 + 1))) else some (.next z4)
def vO (x0 : Aa) (x1 : Ab) (z3 : Int) : Option (Ctl Int Int) :=
 bif (Azn x0 z3) then (F77 x0 3 z3).bind λ y14 => andThen (foldI (vN x1) y14 0 0) (λ _ => none) λ z4 => bif decide (z4 > 1) then some (.ret 11) else some (.next (w64 (z3 + 1))) else some (.brk z3)
def F53 (x0 : Aa) (x1 : Ab) : Option Int :=
 (Abp x0).bind λ y1 => bif (y1 != 0) then some y1 else bif (Azq x0 x1) then some 8 else andThen (foldI vR x1.Ac 0 ()) some λ z0 => andThen (foldI (vQ x0) x1.Ar 0 ()) some λ z1 => bif decide ((x1.Ao.length : Int) > 32) then some 11 else andThen (foldI (vP x0 x1) x1.Ao 0 ()) some λ z2 => andThen (whileN (vO x0 x1) 1152921504606846976 0) some λ z3 => some 0
def F65 (x0 : Ab) : Option Ab :=
 (appI 2 ([] : List Bool) x0.Ah).bind λ y1 => (appI 33 ([] : List Af) x0.Ac).bind λ y3 => (appI 9 ([] : List Int) x0.Ar).bind λ y5 => (appI 17 ([] : List Am) x0.Ao).bind λ y7 => some (⟨y1, y3, y5, y7⟩ : Ab)
def Ub (a1 : Ak) (y7 : Bool) (y9 : Bool) (y11 : Bool) : Bool := (((a1.Kind == 1) && y7) && (y9 || y11))
def Xk (x1 : Ab) (n1 : Nat) (a1 : Ak) (z1 : (List Bool)) : Option (Ctl ((List Bool)) Unit) :=
 (A2 [((a1.Kind == 1), true)] (getI x1.Ah (cnt 0 n1)) default).bind λ y7 => (A2 [(((a1.Kind == 1) && y7), true)] (getI z1 a1.A) default).bind λ y9 => (A2 [(((a1.Kind == 1) && y7), true), (y9, false)] (getI z1 a1.B) default).bind λ y11 => bif (Ub a1 y7 y9 y11) then (getI z1 a1.A).bind λ y14 => (setI z1 a1.A true).bind λ y16 => (getI y16 a1.B).bind λ y18 => (setI y16 a1.B true).bind λ y20 => some (.next y20) else some (.next z1)
def Xl (x0 : Aa) (x1 : Ab) (n0 : Nat) (a0 : Bool) (z0 : (List Bool)) : Option (Ctl ((List Bool)) Unit) :=
 andThen (foldI (Xk x1) x0.Ag 0 z0) (λ _ => none) λ z1 => some (.next z1)
def Xj (n2 : Nat) (a2 : Bool) (z2 : (List Int)) : Option (Ctl ((List Int)) Unit) :=
 bif a2 then (appI 9 z2 [cnt 0 n2]).bind λ y23 => some (.next y23) else some (.next z2)
def Ak5 (x0 : Aa) (x1 : Ab) (x2 : Int) : Option ((List Int)) :=
 (mkI 2 x0.An false).bind λ y1 => (getI y1 x2).bind λ y3 => (setI y1 x2 true).bind λ y5 => andThen (foldI (Xl x0 x1) y5 0 y5) (λ _ => none) λ z0 => andThen (foldI Xj z0 0 ([] : List Int)) (λ _ => none) λ z2 => some z2
def Ae1 (x0 : Aa) (x2 : Int) (y1 : Int) (y3 : Af) : Bool := ((((y1 != 0) || (decide (x2 < 0))) || (decide (x2 >= (x0.Ac.length : Int)))) || (y3.State != 2))
def F27 (x0 : Aa) (x1 : Ab) (x2 : Int) : Option (Int × Bool) :=
 (F53 x0 x1).bind λ y1 => (A2 [((((y1 != 0) || (decide (x2 < 0))) || (decide (x2 >= (x0.Ac.length : Int)))), false)] (getI x1.Ac x2) default).bind λ y3 => bif (Ae1 x0 x2 y1 y3) then some (0, false) else (F77 x0 2 x2).bind λ y6 => (getI y6 0).bind λ y8 => (getI x1.Ah y8).bind λ y10 => bif !y10 then some (0, false) else (getI x0.Ag y8).bind λ y13 => some (y13.A, true)
def Uo (x1 : Int) (n0 : Nat) (a0 : Int) (z0 : Unit) : Option (Ctl Unit Bool) :=
 bif (a0 == x1) then some (.ret true) else some (.next ())
def F55 (x0 : List Int) (x1 : Int) : Option Bool :=
 andThen (foldI (Uo x1) x0 0 ()) some λ z0 => some false
def Azr (x0 : Aa) (x2 : Int) (y1 : Int) : Bool := (((y1 != 0) || (decide (x2 < 0))) || (decide (x2 >= (x0.Ae.length : Int))))
def Uq (x0 : Aa) (x1 : Ab) (n0 : Nat) (a0 : Int) (z0 : Unit) : Option (Ctl Unit (Int × Bool)) :=
 (getI x1.Ah a0).bind λ y6 => bif y6 then (getI x0.Ag a0).bind λ y9 => some (.ret (y9.A, true)) else some (.next ())
def F48 (x0 : Aa) (x1 : Ab) (x2 : Int) : Option (Int × Bool) :=
 (F53 x0 x1).bind λ y1 => bif (Azr x0 x2 y1) then some (0, false) else (F77 x0 3 x2).bind λ y4 => andThen (foldI (Uq x0 x1) y4 0 ()) some λ z0 => some (0, false)
def Azm (x0 : Aa) (x2 : Int) (y1 : Int) : Bool := (((y1 != 0) || (decide (x2 < 0))) || (decide (x2 >= x0.An)))
def Azl (x0 : Aa) (z0 : Int × (List Int)) : Bool := decide (z0.1 < (x0.Ac.length : Int))
def vM (x0 : Aa) (x1 : Ab) (y4 : (List Int)) (z0 : Int × (List Int)) : Option (Ctl (Int × (List Int)) Unit) :=
 bif (Azl x0 z0) then (F27 x0 x1 z0.1).bind λ y7 => (A2 [(y7.2, true)] (F55 y4 y7.1) default).bind λ y9 => bif (y7.2 && y9) then (appI 9 z0.2 [z0.1]).bind λ y12 => some (.next (w64 (z0.1 + 1), y12)) else some (.next (w64 (z0.1 + 1), z0.2)) else some (.brk (z0.1, z0.2))
def Azk (x0 : Aa) (z1 : Int × (List Int)) : Bool := decide (z1.1 < (x0.Ae.length : Int))
def vL (x0 : Aa) (x1 : Ab) (y4 : (List Int)) (z1 : Int × (List Int)) : Option (Ctl (Int × (List Int)) Unit) :=
 bif (Azk x0 z1) then (F48 x0 x1 z1.1).bind λ y15 => (A2 [(y15.2, true)] (F55 y4 y15.1) default).bind λ y17 => bif (y15.2 && y17) then (appI 9 z1.2 [z1.1]).bind λ y20 => some (.next (w64 (z1.1 + 1), y20)) else some (.next (w64 (z1.1 + 1), z1.2)) else some (.brk (z1.1, z1.2))
def F54 (x0 : Aa) (x1 : Ab) (x2 : Int) : Option (Ai × Bool) :=
 (F53 x0 x1).bind λ y1 => bif (Azm x0 x2 y1) then some ((⟨([] : List Int), ([] : List Int), ([] : List Int)⟩ : Ai), false) else (Ak5 x0 x1 x2).bind λ y4 => andThen (whileN (vM x0 x1 y4) 1152921504606846976 (0, ([] : List Int))) (λ _ => none) λ z0 => andThen (whileN (vL x0 x1 y4) 1152921504606846976 (0, ([] : List Int))) (λ _ => none) λ z1 => some ((⟨y4, z0.2, z1.2⟩ : Ai), true)
def vX (x0 : Aa) (x1 : Ab) (z0 : Int × (List Ai)) : Option (Ctl (Int × (List Ai)) Unit) :=
 bif decide (z0.1 < x0.An) then (F54 x0 x1 z0.1).bind λ y5 => (getI y5.1.An 0).bind λ y7 => bif (y7 == z0.1) then (appI 73 z0.2 [y5.1]).bind λ y10 => some (.next (w64 (z0.1 + 1), y10)) else some (.next (w64 (z0.1 + 1), z0.2)) else some (.brk (z0.1, z0.2))
def F25 (x0 : Aa) (x1 : Ab) : Option ((List Ai)) :=
 (F53 x0 x1).bind λ y1 => bif (y1 != 0) then some ([] : List Ai) else andThen (whileN (vX x0 x1) 1152921504606846976 (0, ([] : List Ai))) (λ _ => none) λ z0 => some z0.2
def Xh (x1 : Ab) (a0 : Ai) (n1 : Nat) (a1 : Int) (z1 : (List Af)) : Option (Ctl ((List Af)) Unit) :=
 (getI a0.Ac 0).bind λ y5 => (getI x1.Ac y5).bind λ y7 => (getI a0.Ac 0).bind λ y9 => (getI x1.Ac y9).bind λ y11 => (getI z1 a1).bind λ y13 => (setI z1 a1 (⟨y13.State, y13.Since, y7.Aq, y13.Phase⟩ : Af)).bind λ y15 => (getI y15 a1).bind λ y17 => (setI y15 a1 (⟨y17.State, y17.Since, y17.Aq, y11.Phase⟩ : Af)).bind λ y19 => some (.next y19)
def Xi (x1 : Ab) (n0 : Nat) (a0 : Ai) (z0 : (List Af)) : Option (Ctl ((List Af)) Unit) :=
 andThen (foldI (Xh x1 a0) a0.Ac 0 z0) (λ _ => none) λ z1 => some (.next z1)
def Arp (x0 : Aa) (x1 : Ab) : Option Ab :=
 (F65 x1).bind λ y1 => (F25 x0 x1).bind λ y3 => andThen (foldI (Xi x1) y3 0 y1.Ac) (λ _ => none) λ z0 => some (⟨y1.Ah, z0, y1.Ar, y1.Ao⟩ : Ab)
def Ak2 (x0 : Aa) (x1 : Ab) : Option (Ab × Int) :=
 (F53 x0 x1).bind λ y1 => bif (y1 != 0) then some ((⟨([] : List Bool), ([] : List Af), ([] : List Int), ([] : List Am)⟩ : Ab), y1) else (Arp x0 x1).bind λ y4 => some (y4, 0)
def vG (x0 : Aj) (x1 : Aa) : Option (Ab × Aj) :=
 (Vr x0 x1).bind λ y1 => (Ak2 x1 y1.1).bind λ y3 => some (y3.1, y1.2)
def Rx (x1 : Aa) (z0 : Sg4) : Option (Ctl (Sg4) Unit) :=
 bif decide (z0.1 < x1.An) then (F78 (⟨z0.2.1, z0.2.2.1⟩ : Aj) (-1) 4).bind λ y6 => (F78 y6.2 (-1) 4).bind λ y8 => (appI 17 z0.2.2.2 [(⟨y6.1, y8.1⟩ : Az)]).bind λ y10 => some (.next (w64 (z0.1 + 1), y8.2.L, y8.2.At, y10)) else some (.brk (z0.1, z0.2.1, z0.2.2.1, z0.2.2.2))
def vW (x0 : Aj) (x1 : Aa) : Option (A0 × Aj) :=
 (F78 x0 5 20).bind λ y1 => (vG y1.2 x1).bind λ y3 => andThen (whileN (Rx x1) 1152921504606846976 (0, y3.2.L, y3.2.At, ([] : List Az))) (λ _ => none) λ z0 => some ((⟨y1.1, y3.1, z0.2.2.2, ([] : List Bg)⟩ : A0), (⟨z0.2.1, z0.2.2.1⟩ : Aj))
def F9 (x0 : Aj) : Option (Ai3) :=
 (F29 x0).bind λ y1 => (F30 y1.2).bind λ y3 => (vW y3.2 y1.1).bind λ y5 => some (y1.1, y3.1, y5.1, y5.2)
def Z0 (y1 : Int × Aj) : Option (Ctl Bool Unit) :=
 bif (y1.1 == 1) then some (.next (y1.1 == 1)) else some (.next (y1.1 == 2))
def Zz (y1 : Int × Aj) : Option (Ctl Bool Unit) :=
 bif (y1.1 == 3) then some (.next (y1.1 == 3)) else some (.next (y1.1 == 4))
def vV (x0 : Aj) (x1 : Aa) : Option (Ap × Aj) :=
 (F78 x0 1 9).bind λ y1 => andThen (Z0 y1) (λ _ => none) λ z0 => bif z0 then (F32 y1.2 (w64 ((x1.Ag.length : Int) + 1))).bind λ y5 => some ((⟨y1.1, y5.1, 0⟩ : Ap), y5.2) else andThen (Zz y1) (λ _ => none) λ z1 => bif z1 then (F32 y1.2 (w64 ((x1.Ac.length : Int) + 1))).bind λ y9 => some ((⟨y1.1, y9.1, 0⟩ : Ap), y9.2) else bif (y1.1 == 5) then (F32 y1.2 (w64 ((x1.Ae.length : Int) + 1))).bind λ y12 => (F40 y12.2 [0, 5, 20, 41]).bind λ y14 => some ((⟨y1.1, y12.1, y14.1⟩ : Ap), y14.2) else bif (y1.1 == 6) then (F32 y1.2 (w64 ((x1.Ac.length : Int) + 1))).bind λ y17 => (F32 y17.2 (w64 (x1.An + 1))).bind λ y19 => some ((⟨y1.1, y17.1, y19.1⟩ : Ap), y19.2) else bif (y1.1 == 8) then (F78 y1.2 1 4).bind λ y22 => (F32 y22.2 4).bind λ y24 => some ((⟨y1.1, y24.1, y22.1⟩ : Ap), y24.2) else bif (y1.1 == 9) then (F78 y1.2 1 4).bind λ y27 => (F32 y27.2 4).bind λ y29 => some ((⟨y1.1, y29.1, y27.1⟩ : Ap), y29.2) else some ((⟨y1.1, 0, 0⟩ : Ap), y1.2)
def Rz (x1 : Aa) (z0 : Int × (List Int) × Int × (List Ap)) : Option (Ctl (Int × (List Int) × Int × (List Ap)) Unit) :=
 bif decide (z0.1 > 0) then (vV (⟨z0.2.1, z0.2.2.1⟩ : Aj) x1).bind λ y4 => (appI 25 z0.2.2.2 [y4.1]).bind λ y6 => some (.next (w64 (z0.1 - 1), y4.2.L, y4.2.At, y6)) else some (.brk (z0.1, z0.2.1, z0.2.2.1, z0.2.2.2))
def yM (x0 : Aj) (x1 : Aa) (x2 : Int) : Option ((List Ap) × Aj) :=
 (F32 x0 (w64 (x2 + 1))).bind λ y1 => andThen (whileN (Rz x1) 1152921504606846976 (y1.1, y1.2.L, y1.2.At, ([] : List Ap))) (λ _ => none) λ z0 => some (z0.2.2.2, (⟨z0.2.1, z0.2.2.1⟩ : Aj))
def F99 (x0 : Int) (x1 : Int) (x2 : Int) : Bool :=
 ((decide (x0 >= x1)) && (decide (x0 <= x2)))
def Abd (x1 : Int) (n0 : Nat) (a0 : Int) (z0 : Unit) : Option (Ctl Unit Int) :=
 bif (x1 == a0) then some (.ret (cnt 0 n0)) else some (.next ())
def Arf (x0 : List Int) (x1 : Int) : Option Int :=
 andThen (foldI (Abd x1) x0 0 ()) some λ z0 => some (-1)
def M7 (x0 : List Int) (x1 : Int) : Option Bool :=
 (Arf x0 x1).bind λ y1 => some (decide (y1 >= 0))
def Ayr (x0 : List Int) : Bool :=
 ((x0.length : Int) == 0)
def Ux (n0 : Nat) (a0 : List Int) (z0 : Unit) : Option (Ctl Unit Int) :=
 bif Ayr a0 then some (.ret (cnt 0 n0)) else some (.next ())
def yB (x0 : List (List Int)) : Option Int :=
 andThen (foldI Ux x0 0 ()) some λ z0 => some (-1)
def Vc (x0 : List (List Int)) : Option Bool :=
 (yB x0).bind λ y1 => some (decide (y1 >= 0))
def Ain (x0 : Aa) (a0 : Ak) : Bool := ((a0.Kind == 1) && (F99 a0.B (w64 (a0.A + 1)) (w64 (x0.An - 1))))
def Aim (z0 : (List Int) × (List (List Int))) (a0 : Ak) (y7 : Int) : Bool := (((a0.Kind == 2) && (F99 a0.B 0 (w64 ((z0.1.length : Int) - 1)))) && (y7 == 0))
def Au4 (z0 : (List Int) × (List (List Int))) (a0 : Ak) (y16 : Bool) : Bool := (((a0.Kind == 3) && (F99 a0.B 0 (w64 ((z0.2.length : Int) - 1)))) && (!y16))
def Xg (x0 : Aa) (n0 : Nat) (a0 : Ak) (z0 : (List Int) × (List (List Int))) : Option (Ctl ((List Int) × (List (List Int))) Bool) :=
 bif !(F99 a0.A 0 (w64 (x0.An - 1))) then some (.ret false) else bif (Ain x0 a0) then some (.next (z0.1, z0.2)) else (A2 [(((a0.Kind == 2) && (F99 a0.B 0 (w64 ((z0.1.length : Int) - 1)))), true)] (getI z0.1 a0.B) default).bind λ y7 => bif (Aim z0 a0 y7) then (getI z0.1 a0.B).bind λ y10 => (setI z0.1 a0.B (w64 (y10 + 1))).bind λ y12 => some (.next (y12, z0.2)) else (A2 [(((a0.Kind == 3) && (F99 a0.B 0 (w64 ((z0.2.length : Int) - 1)))), true)] (getI z0.2 a0.B) default).bind λ y14 => (A2 [(((a0.Kind == 3) && (F99 a0.B 0 (w64 ((z0.2.length : Int) - 1)))), true)] (M7 y14 a0.A) default).bind λ y16 => bif (Au4 z0 a0 y16) then (getI z0.2 a0.B).bind λ y19 => (appI 9 y19 [a0.A]).bind λ y21 => (setI z0.2 a0.B y21).bind λ y23 => some (.next (z0.1, y23)) else some (.ret false)
def Ak1 (x0 : Aa) : Option Bool :=
 (mkI 9 (x0.Ac.length : Int) 0).bind λ y1 => (mkI 25 (x0.Ae.length : Int) ([] : List Int)).bind λ y3 => andThen (foldI (Xg x0) x0.Ag 0 (y1, y3)) some λ z0 => (M7 z0.1 0).bind λ y27 => (A2 [(!y27, true)] (Vc z0.2) default).bind λ y29 => some ((!y27) && (!y29))
def Z7 (x0 : Bh) : Bool :=
 (((F99 x0.Rating 1 50000) && (F99 x0.Least 0 x0.Rating)) && (F99 x0.Start 0 600))
def Au3 (x1 : Int) (n0 : Nat) (a0 : Int) (y1 : Int) : Bool := ((!(F99 a0 0 (w64 (x1 - 1)))) || ((decide ((cnt 0 n0) > 0)) && (decide (y1 >= a0))))
def P4 (x0 : A1) (x1 : Int) (n0 : Nat) (a0 : Int) (z0 : Unit) : Option (Ctl Unit Bool) :=
 (A2 [(!(F99 a0 0 (w64 (x1 - 1))), false), (decide ((cnt 0 n0) > 0), true)] (getI x0.Needs (w64 ((cnt 0 n0) - 1))) default).bind λ y1 => bif (Au3 x1 n0 a0 y1) then some (.ret false) else some (.next ())
def Abk (x0 : A1) (x1 : Int) : Option Bool :=
 andThen (foldI (P4 x0 x1) x0.Needs 0 ()) some λ z0 => some (((((F99 x0.Load 0 50000) && (F99 x0.Least 0 x0.Load)) && (F99 x0.Bn 0 15)) && (F99 x0.Thruster (-1) 7)) && (decide ((x0.Needs.length : Int) <= 4)))
def Azi (x0 : Aa) : Bool := ((((!(F99 x0.An 1 6)) || (decide ((x0.Ag.length : Int) > 24))) || (decide ((x0.Ac.length : Int) > 8))) || (decide ((x0.Ae.length : Int) > 16)))
def Aka (n0 : Nat) (a0 : Bh) (z0 : Bool) : Option (Ctl Bool Unit) :=
 some (.next (z0 && (Z7 a0)))
def vC (n1 : Nat) (a1 : A1) (z1 : Bool) : Option (Ctl Bool Unit) :=
 (A2 [(z1, true)] (Abk a1 (cnt 0 n1)) default).bind λ y4 => some (.next (z1 && y4))
def F85 (x0 : Aa) : Option Int :=
 bif (Azi x0) then some 2 else (Ak1 x0).bind λ y2 => andThen (foldI Aka x0.Ac 0 ((y2 && (F99 x0.Phase 0 1800)) && (F99 x0.Aq 0 6000))) (λ _ => none) λ z0 => andThen (foldI vC x0.Ae 0 z0) (λ _ => none) λ z1 => bif !z1 then some 14 else some 0
def Le (x0 : Aa) (x1 : Int) : Int :=
 bif (x1 == 1) then (x0.Ac.length : Int) else bif (x1 == 2) then (x0.Ag.length : Int) else bif (x1 == 3) then x0.An else bif (x1 == 4) then (x0.Ae.length : Int) else 0
def Z3 (x0 : Int) : Bool :=
 (x0 != x0)
def J2 (x0 : Int) (x1 : Int) : Int :=
 bif Z3 x0 then bif Z3 x1 then 0 else (-1) else bif Z3 x1 then 1 else bif decide (x0 < x1) then (-1) else bif decide (x0 > x1) then 1 else 0
def P1 (n0 : Nat) (a0 : Int) (z0 : Unit) : Option (Ctl Unit Int) :=
 bif (a0 != 0) then some (.ret a0) else some (.next ())
def Abh (x0 : List Int) : Option Int :=
 andThen (foldI P1 x0 0 ()) some λ z0 => some 0
def Azf (x0 : Aa) (n0 : Nat) (a0 : Am) (y5 : Int) : Bool := ((!(F99 a0.Number 0 (w64 ((Le x0 a0.Kind) - 1)))) || ((decide ((cnt 0 n0) > 0)) && (decide (y5 >= 0))))
def Un (x0 : Aa) (x1 : List Am) (n0 : Nat) (a0 : Am) (z0 : Unit) : Option (Ctl Unit Bool) :=
 (A2 [(!(F99 a0.Number 0 (w64 ((Le x0 a0.Kind) - 1))), false), (decide ((cnt 0 n0) > 0), true)] (getI x1 (w64 ((cnt 0 n0) - 1))) default).bind λ y1 => (A2 [(!(F99 a0.Number 0 (w64 ((Le x0 a0.Kind) - 1))), false), (decide ((cnt 0 n0) > 0), true)] (getI x1 (w64 ((cnt 0 n0) - 1))) default).bind λ y3 => (A2 [(!(F99 a0.Number 0 (w64 ((Le x0 a0.Kind) - 1))), false), (decide ((cnt 0 n0) > 0), true)] (Abh [J2 y1.Kind a0.Kind, J2 y3.Number a0.Number]) default).bind λ y5 => bif (Azf x0 n0 a0 y5) then some (.ret false) else some (.next ())
def F95 (x0 : Aa) (x1 : List Am) : Option Bool :=
 andThen (foldI (Un x0 x1) x1 0 ()) some λ z0 => some (decide ((x1.length : Int) <= 32))
def F98 (x0 : Af) : Bool :=
 ((((F99 x0.State 0 3) && (F99 x0.Since 0 2147483648)) && (F99 x0.Aq 0 6000)) && (F99 x0.Phase 0 3599))
def F97 (x0 : Af) : Bool :=
 !(F98 x0)
def Vk (n0 : Nat) (a0 : Af) (z0 : Unit) : Option (Ctl Unit Int) :=
 bif F97 a0 then some (.ret (cnt 0 n0)) else some (.next ())
def yK (x0 : List Af) : Option Int :=
 andThen (foldI Vk x0 0 ()) some λ z0 => some (-1)
def Wz (x0 : List Af) : Option Bool :=
 (yK x0).bind λ y1 => some (decide (y1 >= 0))
def Au7 (x2 : Int) (a0 : Ak) (y1 : Bool) : Bool := (((a0.Kind == 3) && (a0.B == x2)) && y1)
def Xm (x1 : Ab) (x2 : Int) (n0 : Nat) (a0 : Ak) (z0 : Int) : Option (Ctl Int Unit) :=
 (A2 [(((a0.Kind == 3) && (a0.B == x2)), true)] (getI x1.Ah (cnt 0 n0)) default).bind λ y1 => bif (Au7 x2 a0 y1) then some (.next (w64 (z0 + 1))) else some (.next z0)
def Ak9 (x0 : Aa) (x1 : Ab) (x2 : Int) : Option Int :=
 andThen (foldI (Xm x1 x2) x0.Ag 0 0) (λ _ => none) λ z0 => some z0
def Aqf (x0 : Aa) (x1 : Ab) : Bool := ((((x1.Ah.length : Int) != (x0.Ag.length : Int)) || ((x1.Ac.length : Int) != (x0.Ac.length : Int))) || ((x1.Ar.length : Int) != (x0.Ae.length : Int)))
def vS (x0 : Aa) (x1 : Ab) (n0 : Nat) (a0 : Int) (z0 : Bool) : Option (Ctl Bool Unit) :=
 (A2 [(z0, true)] (getI x0.Ae (cnt 0 n0)) default).bind λ y9 => (A2 [((z0 && (F99 a0 0 y9.Load)), true)] (Ak9 x0 x1 (cnt 0 n0)) default).bind λ y11 => some (.next ((z0 && (F99 a0 0 y9.Load)) && (decide (y11 <= 1))))
def F43 (x0 : Aa) (x1 : Ab) : Option Int :=
 (F85 x0).bind λ y1 => bif (y1 != 0) then some y1 else bif (Aqf x0 x1) then some 8 else (F95 x0 x1.Ao).bind λ y5 => (A2 [(y5, true)] (Wz x1.Ac) default).bind λ y7 => andThen (foldI (vS x0 x1) x1.Ar 0 (y5 && (!y7))) (λ _ => none) λ z0 => bif !z0 then some 11 else some 0
def Arl (x0 : List Bool) : Option (List Bool) := appI 2 [] x0
def Ark (x0 : List Af) : Option (List Af) := appI 33 [] x0
def Z4 (x0 : List Int) : Option (List Int) := appI 9 [] x0
def Arj (x0 : List Am) : Option (List Am) := appI 17 [] x0
def Io (x0 : Ab) : Option Ab :=
 (Arl x0.Ah).bind λ y1 => (Ark x0.Ac).bind λ y3 => (Z4 x0.Ar).bind λ y5 => (Arj x0.Ao).bind λ y7 => some (⟨y1, y3, y5, y7⟩ : Ab)
def Xf (n0 : Nat) (a0 : Int) (z0 : (List Int)) : Option (Ctl ((List Int)) Unit) :=
 (getI z0 (cnt 0 n0)).bind λ y3 => (setI z0 (cnt 0 n0) (cnt 0 n0)).bind λ y5 => some (.next y5)
def P3 (x1 : Ab) (n2 : Nat) (a2 : Ak) (z2 : (List Int)) : Option (Ctl ((List Int)) Unit) :=
 (A2 [((a2.Kind == 1), true)] (getI x1.Ah (cnt 0 n2)) default).bind λ y7 => bif ((a2.Kind == 1) && y7) then (getI z2 a2.A).bind λ y10 => (getI z2 a2.B).bind λ y12 => (setI z2 a2.A (min y10 y12)).bind λ y14 => (getI y14 a2.B).bind λ y16 => (setI y14 a2.B (min y10 y12)).bind λ y18 => some (.next y18) else some (.next z2)
def Xe (x0 : Aa) (x1 : Ab) (n1 : Nat) (a1 : Int) (z1 : (List Int)) : Option (Ctl ((List Int)) Unit) :=
 andThen (foldI (P3 x1) x0.Ag 0 z1) (λ _ => none) λ z2 => some (.next z2)
def Abi (x0 : Aa) (x1 : Ab) : Option ((List Int)) :=
 (mkI 9 x0.An 0).bind λ y1 => andThen (foldI Xf y1 0 y1) (λ _ => none) λ z0 => andThen (foldI (Xe x0 x1) z0 0 z0) (λ _ => none) λ z1 => some z1
def Aut (x2 : Int) (x3 : Int) (a0 : Ak) (y1 : Bool) : Bool := (((a0.Kind == x2) && (a0.B == x3)) && y1)
def Py (x1 : Ab) (x2 : Int) (x3 : Int) (n0 : Nat) (a0 : Ak) (z0 : Unit) : Option (Ctl Unit (Int × Bool)) :=
 (A2 [(((a0.Kind == x2) && (a0.B == x3)), true)] (getI x1.Ah (cnt 0 n0)) default).bind λ y1 => bif (Aut x2 x3 a0 y1) then some (.ret (a0.A, true)) else some (.next ())
def Abg (x0 : Aa) (x1 : Ab) (x2 : Int) (x3 : Int) : Option (Int × Bool) :=
 andThen (foldI (Py x1 x2 x3) x0.Ag 0 ()) some λ z0 => some (0, false)
def uM (x1 : Ab) (x2 : Int) (y1 : Af) : Bool := ((!(F99 x2 0 (w64 ((x1.Ac.length : Int) - 1)))) || (y1.State != 2))
def Z6 (x0 : Aa) (x1 : Ab) (x2 : Int) : Option (Int × Bool) :=
 (A2 [(!(F99 x2 0 (w64 ((x1.Ac.length : Int) - 1))), false)] (getI x1.Ac x2) default).bind λ y1 => bif (uM x1 x2 y1) then some (0, false) else (Abg x0 x1 2 x2).bind λ y4 => some (y4.1, y4.2)
def Z5 (x0 : Aa) (x1 : Ab) (x2 : Int) : Option (Int × Bool) :=
 (Abg x0 x1 3 x2).bind λ y1 => some (y1.1, y1.2)
def Aro (x0 : Ai) : Bool :=
 ((x0.An.length : Int) == 0)
def Vn (n0 : Nat) (a0 : Ai) (z0 : Unit) : Option (Ctl Unit Int) :=
 bif Aro a0 then some (.ret (cnt 0 n0)) else some (.next ())
def Vo (x0 : List Ai) : Option Int :=
 andThen (foldI Vn x0 0 ()) some λ z0 => some (-1)
def Ail (z0 : Int × Int × (List Ai)) : Bool := decide (z0.2.1 < (z0.2.2.length : Int))
def Oe (z0 : Int × Int × (List Ai)) : Option (Ctl (Int × Int × (List Ai)) Unit) :=
 bif (Ail z0) then (getI z0.2.2 z0.2.1).bind λ y5 => bif !(Aro y5) then (getI z0.2.2 z0.1).bind λ y8 => (setI z0.2.2 z0.1 y5).bind λ y10 => some (.next (w64 (z0.1 + 1), w64 (z0.2.1 + 1), y10)) else some (.next (z0.1, w64 (z0.2.1 + 1), z0.2.2)) else some (.brk (z0.1, z0.2.1, z0.2.2))
def P2 (x0 : List Ai) : Option ((List Ai)) :=
 (Vo x0).bind λ y1 => bif (y1 == (-1)) then some x0 else andThen (whileN Oe 1152921504606846976 (y1, w64 (y1 + 1), x0)) (λ _ => none) λ z0 => (bndI z0.2.2.length z0.1 (z0.2.2.length : Int)).bind λ u13 => (bndI (Ge z0.2.2 (Int.toNat z0.1) ((Int.toNat (z0.2.2.length : Int)) - (Int.toNat z0.1)) (⟨([] : List Int), ([] : List Int), ([] : List Int)⟩ : Ai)).length 0 z0.1).bind λ u15 => some ((Ge z0.2.2 (Int.toNat z0.1) ((Int.toNat (z0.2.2.length : Int)) - (Int.toNat z0.1)) (⟨([] : List Int), ([] : List Int), ([] : List Int)⟩ : Ai)).take ((Int.toNat z0.1) - 0))
def vB (n0 : Nat) (a0 : Int) (z0 : (List Ai)) : Option (Ctl ((List Ai)) Unit) :=
 (getI z0 a0).bind λ y8 => (appI 9 y8.An [cnt 0 n0]).bind λ y10 => (setI z0 a0 (⟨y10, y8.Ac, y8.Ae⟩ : Ai)).bind λ y12 => some (.next y12)
def Azh (x0 : Aa) (z1 : Int × (List Ai)) : Bool := decide (z1.1 < (x0.Ac.length : Int))
def vA (x0 : Aa) (x1 : Ab) (y4 : (List Int)) (z1 : Int × (List Ai)) : Option (Ctl (Int × (List Ai)) Unit) :=
 bif (Azh x0 z1) then (Z6 x0 x1 z1.1).bind λ y15 => bif y15.2 then (getI y4 y15.1).bind λ y18 => (getI z1.2 y18).bind λ y20 => (appI 9 y20.Ac [z1.1]).bind λ y22 => (setI z1.2 y18 (⟨y20.An, y22, y20.Ae⟩ : Ai)).bind λ y24 => some (.next (w64 (z1.1 + 1), y24)) else some (.next (w64 (z1.1 + 1), z1.2)) else some (.brk (z1.1, z1.2))
def Azg (x0 : Aa) (z2 : Int × (List Ai)) : Bool := decide (z2.1 < (x0.Ae.length : Int))
def uZ (x0 : Aa) (x1 : Ab) (y4 : (List Int)) (z2 : Int × (List Ai)) : Option (Ctl (Int × (List Ai)) Unit) :=
 bif (Azg x0 z2) then (Z5 x0 x1 z2.1).bind λ y27 => bif y27.2 then (getI y4 y27.1).bind λ y30 => (getI z2.2 y30).bind λ y32 => (appI 9 y32.Ae [z2.1]).bind λ y34 => (setI z2.2 y30 (⟨y32.An, y32.Ac, y34⟩ : Ai)).bind λ y36 => some (.next (w64 (z2.1 + 1), y36)) else some (.next (w64 (z2.1 + 1), z2.2)) else some (.brk (z2.1, z2.2))
def F89 (x0 : Aa) (x1 : Ab) : Option ((List Ai)) :=
 (F43 x0 x1).bind λ y1 => bif (y1 != 0) then some ([] : List Ai) else (Abi x0 x1).bind λ y4 => (mkI 73 x0.An (⟨([] : List Int), ([] : List Int), ([] : List Int)⟩ : Ai)).bind λ y6 => andThen (foldI vB y4 0 y6) (λ _ => none) λ z0 => andThen (whileN (vA x0 x1 y4) 1152921504606846976 (0, z0)) (λ _ => none) λ z1 => andThen (whileN (uZ x0 x1 y4) 1152921504606846976 (0, z1.2)) (λ _ => none) λ z2 => (P2 z2.2).bind λ y38 => some y38
def Og (x2 : Af) (n0 : Nat) (a0 : Int) (z0 : (List Af)) : Option (Ctl ((List Af)) Unit) :=
 (getI z0 a0).bind λ y1 => (setI z0 a0 (⟨y1.State, y1.Since, x2.Aq, y1.Phase⟩ : Af)).bind λ y3 => (getI y3 a0).bind λ y5 => (setI y3 a0 (⟨y5.State, y5.Since, y5.Aq, x2.Phase⟩ : Af)).bind λ y7 => some (.next y7)
def M9 (x0 : Ab) (x1 : List Int) (x2 : Af) : Option ((List Af)) :=
 andThen (foldI (Og x2) x1 0 x0.Ac) (λ _ => none) λ z0 => some z0
def Azj (a0 : Ai) : Bool := decide ((a0.Ac.length : Int) > 0)
def vK (x1 : Ab) (y4 : Ab) (n0 : Nat) (a0 : Ai) (z0 : (List Af)) : Option (Ctl ((List Af)) Unit) :=
 bif (Azj a0) then (getI a0.Ac 0).bind λ y9 => (getI x1.Ac y9).bind λ y11 => (M9 (⟨y4.Ah, z0, y4.Ar, y4.Ao⟩ : Ab) a0.Ac y11).bind λ y13 => some (.next y13) else some (.next z0)
def F57 (x0 : Aa) (x1 : Ab) : Option (Ab × Int) :=
 (F43 x0 x1).bind λ y1 => bif (y1 != 0) then some ((⟨([] : List Bool), ([] : List Af), ([] : List Int), ([] : List Am)⟩ : Ab), y1) else (Io x1).bind λ y4 => (F89 x0 x1).bind λ y6 => andThen (foldI (vK x1 y4) y6 0 y4.Ac) (λ _ => none) λ z0 => some ((⟨y4.Ah, z0, y4.Ar, y4.Ao⟩ : Ab), 0)
def F59 (x0 : Bf) : Bool :=
 ((((((decide (x0.Stop >= 1)) && (decide (x0.Stop <= 99))) && (decide (x0.Start > x0.Stop))) && (decide (x0.Start <= 100))) && (decide (x0.Delay >= 0))) && (decide (x0.Delay <= 600)))
def P9 (x1 : List Bool) (n0 : Nat) (a0 : Bool) (z0 : Unit) : Option (Ctl Unit Bool) :=
 (getI x1 (cnt 0 n0)).bind λ y2 => bif !(a0 == y2) then some (.ret false) else some (.next ())
def jA (x0 : List Bool) (x1 : List Bool) : Option Bool :=
 bif ((x0.length : Int) != (x1.length : Int)) then some false else andThen (foldI (P9 x1) x0 0 ()) some λ z0 => some true
def Au6 (a0 : Af) (y2 : Af) : Bool := !((a0.State == y2.State) && ((a0.Since == y2.Since) && ((a0.Aq == y2.Aq) && ((a0.Phase == y2.Phase) && true))))
def P8 (x1 : List Af) (n0 : Nat) (a0 : Af) (z0 : Unit) : Option (Ctl Unit Bool) :=
 (getI x1 (cnt 0 n0)).bind λ y2 => bif (Au6 a0 y2) then some (.ret false) else some (.next ())
def Z_ (x0 : List Af) (x1 : List Af) : Option Bool :=
 bif ((x0.length : Int) != (x1.length : Int)) then some false else andThen (foldI (P8 x1) x0 0 ()) some λ z0 => some true
def P7 (x1 : List Int) (n0 : Nat) (a0 : Int) (z0 : Unit) : Option (Ctl Unit Bool) :=
 (getI x1 (cnt 0 n0)).bind λ y2 => bif (a0 != y2) then some (.ret false) else some (.next ())
def Z9 (x0 : List Int) (x1 : List Int) : Option Bool :=
 bif ((x0.length : Int) != (x1.length : Int)) then some false else andThen (foldI (P7 x1) x0 0 ()) some λ z0 => some true
def Au5 (a0 : Am) (y2 : Am) : Bool := !((a0.Kind == y2.Kind) && ((a0.Number == y2.Number) && true))
def P6 (x1 : List Am) (n0 : Nat) (a0 : Am) (z0 : Unit) : Option (Ctl Unit Bool) :=
 (getI x1 (cnt 0 n0)).bind λ y2 => bif (Au5 a0 y2) then some (.ret false) else some (.next ())
def Z8 (x0 : List Am) (x1 : List Am) : Option Bool :=
 bif ((x0.length : Int) != (x1.length : Int)) then some false else andThen (foldI (P6 x1) x0 0 ()) some λ z0 => some true
def F60 (x0 : Ab) (x1 : Ab) : Option Bool :=
 (jA x0.Ah x1.Ah).bind λ y1 => (A2 [(y1, true)] (Z_ x0.Ac x1.Ac) default).bind λ y3 => (A2 [((y1 && y3), true)] (Z9 x0.Ar x1.Ar) default).bind λ y5 => (A2 [(((y1 && y3) && y5), true)] (Z8 x0.Ao x1.Ao) default).bind λ y7 => some (((y1 && y3) && y5) && y7)
def Rw (x0 : Int) (x1 : A0) : Bool :=
 ((decide (x0 >= (-1))) && (decide (x0 <= x1.Time)))
def Dv (x0 : Az) (x1c0 : A0) : Bool × A0 :=
 (((!(Rw x0.High x1c0)) || (!(Rw x0.Low x1c0))), x1c0)
def Aiu (z0 : Sg0) (a0 : Az) : Bool := (Dv a0 (⟨z0.1, (⟨z0.2.1, z0.2.2.1, z0.2.2.2.1, z0.2.2.2.2.1⟩ : Ab), z0.2.2.2.2.2.1, z0.2.2.2.2.2.2⟩ : A0)).1
def Of (n0 : Nat) (a0 : Az) (z0 : Sg0) : Option (Ctl (Sg0) (Int × A0)) :=
 bif (Aiu z0 a0) then some (.ret (cnt 0 n0, (⟨((Dv a0 (⟨z0.1, (⟨z0.2.1, z0.2.2.1, z0.2.2.2.1, z0.2.2.2.2.1⟩ : Ab), z0.2.2.2.2.2.1, z0.2.2.2.2.2.2⟩ : A0)).2).Time, (((Dv a0 (⟨z0.1, (⟨z0.2.1, z0.2.2.1, z0.2.2.2.1, z0.2.2.2.2.1⟩ : Ab), z0.2.2.2.2.2.1, z0.2.2.2.2.2.2⟩ : A0)).2).Power), ((Dv a0 (⟨z0.1, (⟨z0.2.1, z0.2.2.1, z0.2.2.2.1, z0.2.2.2.2.1⟩ : Ab), z0.2.2.2.2.2.1, z0.2.2.2.2.2.2⟩ : A0)).2).A5, ((Dv a0 (⟨z0.1, (⟨z0.2.1, z0.2.2.1, z0.2.2.2.1, z0.2.2.2.2.1⟩ : Ab), z0.2.2.2.2.2.1, z0.2.2.2.2.2.2⟩ : A0)).2).A7⟩ : A0))) else some (.next (((Dv a0 (⟨z0.1, (⟨z0.2.1, z0.2.2.1, z0.2.2.2.1, z0.2.2.2.2.1⟩ : Ab), z0.2.2.2.2.2.1, z0.2.2.2.2.2.2⟩ : A0)).2).Time, (((Dv a0 (⟨z0.1, (⟨z0.2.1, z0.2.2.1, z0.2.2.2.1, z0.2.2.2.2.1⟩ : Ab), z0.2.2.2.2.2.1, z0.2.2.2.2.2.2⟩ : A0)).2).Power).Ah, (((Dv a0 (⟨z0.1, (⟨z0.2.1, z0.2.2.1, z0.2.2.2.1, z0.2.2.2.2.1⟩ : Ab), z0.2.2.2.2.2.1, z0.2.2.2.2.2.2⟩ : A0)).2).Power).Ac, (((Dv a0 (⟨z0.1, (⟨z0.2.1, z0.2.2.1, z0.2.2.2.1, z0.2.2.2.2.1⟩ : Ab), z0.2.2.2.2.2.1, z0.2.2.2.2.2.2⟩ : A0)).2).Power).Ar, (((Dv a0 (⟨z0.1, (⟨z0.2.1, z0.2.2.1, z0.2.2.2.1, z0.2.2.2.2.1⟩ : Ab), z0.2.2.2.2.2.1, z0.2.2.2.2.2.2⟩ : A0)).2).Power).Ao, ((Dv a0 (⟨z0.1, (⟨z0.2.1, z0.2.2.1, z0.2.2.2.1, z0.2.2.2.2.1⟩ : Ab), z0.2.2.2.2.2.1, z0.2.2.2.2.2.2⟩ : A0)).2).A5, ((Dv a0 (⟨z0.1, (⟨z0.2.1, z0.2.2.1, z0.2.2.2.1, z0.2.2.2.2.1⟩ : Ab), z0.2.2.2.2.2.1, z0.2.2.2.2.2.2⟩ : A0)).2).A7))
def yL (x0 : List Az) (x1c0c0 : A0) : Option (Int × A0) :=
 andThen (foldI Of x0 0 (x1c0c0.Time, x1c0c0.Power.Ah, x1c0c0.Power.Ac, x1c0c0.Power.Ar, x1c0c0.Power.Ao, x1c0c0.A5, x1c0c0.A7)) some λ z0 => some ((-1), (⟨z0.1, (⟨z0.2.1, z0.2.2.1, z0.2.2.2.1, z0.2.2.2.2.1⟩ : Ab), z0.2.2.2.2.2.1, z0.2.2.2.2.2.2⟩ : A0))
def vJ (x0 : List Az) (x1c0c0 : A0) : Option (Bool × A0) :=
 (yL x0 x1c0c0).bind λ y1 => some (decide (y1.1 >= 0), y1.2)
def Azu (x1 : Bf) (x2 : A0) : Bool := (((!(F59 x1)) || (decide (x2.Time < 0))) || (decide (x2.Time > 2147483648)))
def F21 (x0 : Aa) (x1 : Bf) (x2 : A0) : Option Int :=
 (F57 x0 x2.Power).bind λ y1 => bif (y1.2 != 0) then some y1.2 else bif (Azu x1 x2) then some 1 else bif ((x2.A5.length : Int) != x0.An) then some 8 else (F60 x2.Power y1.1).bind λ y6 => (A2 [(!y6, false)] (vJ x2.A5 x2) (default, x2)).bind λ y8 => bif ((!y6) || y8.1) then some 11 else some 0
def Arq (x0 : List Az) : Option (List Az) := appI 17 [] x0
def F84 (x0 : List Bg) : Option (List Bg) := appI 41 [] x0
def F63 (x0 : Aa) (x1 : A0) : Option A4 :=
 (Io x1.Power).bind λ y1 => (Arq x1.A5).bind λ y3 => (F84 x1.A7).bind λ y5 => some (⟨(⟨x1.Time, y1, y3, y5⟩ : A0), x0, ([] : List Bg), ([] : List Ab)⟩ : A4)
def vF (x0 : A4) (x1 : Ab) : Option A4 :=
 (Io x1).bind λ y3 => (appI 97 x0.states [y3]).bind λ y5 => some (⟨x0.Av, x0.Al, x0.events, y5⟩ : A4)
def J0 (x0 : Aa) (x1 : Int) (x2 : Int) : Bool :=
 bif (x1 == 1) then ((decide (x2 >= 0)) && (decide (x2 < (x0.Ac.length : Int)))) else bif (x1 == 2) then ((decide (x2 >= 0)) && (decide (x2 < (x0.Ag.length : Int)))) else bif (x1 == 3) then ((decide (x2 >= 0)) && (decide (x2 < x0.An))) else bif (x1 == 4) then ((decide (x2 >= 0)) && (decide (x2 < (x0.Ae.length : Int)))) else ((decide (x2 >= 0)) && (decide (x2 < 0)))
def Abm (x1 : Ap) : Option (Ctl Bool Unit) :=
 bif (x1.Kind == 1) then some (.next (x1.Kind == 1)) else some (.next (x1.Kind == 2))
def Abl (x1 : Ap) : Option (Ctl Bool Unit) :=
 bif (x1.Kind == 3) then some (.next (x1.Kind == 3)) else some (.next (x1.Kind == 4))
def Abn (x0 : Aa) (x1 : Ap) : Option Bool :=
 andThen (Abm x1) (λ _ => none) λ z0 => bif z0 then some (J0 x0 2 x1.Unit) else andThen (Abl x1) (λ _ => none) λ z1 => bif z1 then some (J0 x0 1 x1.Unit) else bif (x1.Kind == 5) then some (J0 x0 4 x1.Unit) else bif (x1.Kind == 6) then some ((J0 x0 1 x1.Unit) && (J0 x0 3 x1.Value)) else bif (x1.Kind == 8) then some (J0 x0 x1.Value x1.Unit) else bif (x1.Kind == 9) then some (J0 x0 x1.Value x1.Unit) else some true
def A5m (x1 : Am) (a0 : Am) : Bool := ((x1.Kind == a0.Kind) && ((x1.Number == a0.Number) && true))
def Abf (x1 : Am) (n0 : Nat) (a0 : Am) (z0 : Unit) : Option (Ctl Unit Int) :=
 bif (A5m x1 a0) then some (.ret (cnt 0 n0)) else some (.next ())
def Arg (x0 : List Am) (x1 : Am) : Option Int :=
 andThen (foldI (Abf x1) x0 0 ()) some λ z0 => some (-1)
def Arn (x0 : List Am) (x1 : Am) : Option Bool :=
 (Arg x0 x1).bind λ y1 => some (decide (y1 >= 0))
def Hf (x0 : Ab) (x1 : Int) (x2 : Int) : Option Bool :=
 (Arn x0.Ao (⟨x1, x2⟩ : Am)).bind λ y1 => some y1
def Ak8 (x0 : Aa) (x1 : Ab) (x2 : Int) : Option (Int × Bool) :=
 (F43 x0 x1).bind λ y1 => bif (y1 != 0) then some (0, false) else (Z5 x0 x1 x2).bind λ y4 => some (y4.1, y4.2)
def Aki (x0 : Aa) (x1 : Ab) (x2 : Int) : Option Bool :=
 (getI x0.Ag x2).bind λ y1 => (getI x1.Ah x2).bind λ y3 => (A2 [(y3, false)] (Hf x1 2 x2) default).bind λ y5 => (A2 [((y3 || y5), false)] (Hf x1 3 y1.A) default).bind λ y7 => bif ((y3 || y5) || y7) then some false else bif (y1.Kind == 1) then (Hf x1 3 y1.B).bind λ y11 => some (!y11) else bif (y1.Kind == 2) then (Hf x1 1 y1.B).bind λ y14 => (A2 [(!y14, true)] (getI x1.Ac y1.B) default).bind λ y16 => some ((!y14) && (y16.State == 2)) else (Ak8 x0 x1 y1.B).bind λ y18 => (Hf x1 4 y1.B).bind λ y20 => some ((!y20) && (!y18.2))
def J1 (x2 : Int) (n0 : Nat) (a0 : Ai) (z0 : Unit) : Option (Ctl Unit (Ai × Bool)) :=
 (M7 a0.An x2).bind λ y3 => bif y3 then some (.ret (a0, true)) else some (.next ())
def Gh (x0 : Aa) (x1 : Ab) (x2 : Int) : Option (Ai × Bool) :=
 (F89 x0 x1).bind λ y1 => andThen (foldI (J1 x2) y1 0 ()) some λ z0 => some ((⟨([] : List Int), ([] : List Int), ([] : List Int)⟩ : Ai), false)
def U0 (x0 : Aa) (x1 : Ab) (x2 : Int) : Option (Int × Bool) :=
 (Gh x0 x1 x2).bind λ y1 => bif ((y1.1.Ac.length : Int) == 0) then some (0, false) else (getI y1.1.Ac 0).bind λ y4 => some (y4, true)
def Fq (x0 : Int) : Int :=
 bif decide ((Int.tmod x0 3600) < 0) then w64 ((Int.tmod x0 3600) + 3600) else Int.tmod x0 3600
def A5k (x0 : Int) (x1 : Int) : Bool := decide ((Fq (w64 ((Fq x1) - (Fq x0)))) > 1800)
def Are (x0 : Int) (x1 : Int) : Int :=
 bif (A5k x0 x1) then w64 ((Fq (w64 ((Fq x1) - (Fq x0)))) - 3600) else Fq (w64 ((Fq x1) - (Fq x0)))
def A5l (x1 : Af) (x2 : Af) : Bool := ((decide ((min x1.Aq x2.Aq) < 0)) || (decide ((max x1.Aq x2.Aq) > 6000)))
def Akf (x0 : Aa) (x1 : Af) (x2 : Af) : Bool :=
 bif (A5l x1 x2) then false else ((decide ((max (w64 (x1.Aq - x2.Aq)) (w64 (x2.Aq - x1.Aq))) <= x0.Aq)) && (decide ((max (Are x1.Phase x2.Phase) (w64 (0 - Are x1.Phase x2.Phase))) <= x0.Phase)))
def Akh (x0 : Aa) (x1 : Ab) (x2 : Ak) : Option Bool :=
 (U0 x0 x1 x2.A).bind λ y1 => bif !y1.2 then some true else bif (x2.Kind == 1) then (U0 x0 x1 x2.B).bind λ y5 => (A2 [(!y5.2, false)] (getI x1.Ac y1.1) default).bind λ y7 => (A2 [(!y5.2, false)] (getI x1.Ac y5.1) default).bind λ y9 => some ((!y5.2) || (Akf x0 y7 y9)) else bif (x2.Kind == 2) then (getI x1.Ac y1.1).bind λ y12 => (getI x1.Ac x2.B).bind λ y14 => some (Akf x0 y12 y14) else some true
def Auq (x0 : Aa) (x2 : Int) : Bool := ((decide (x2 < 0)) || (decide (x2 >= (x0.Ag.length : Int))))
def Akj (x0 : Aa) (x1 : Ab) (x2 : Int) : Option Int :=
 (F43 x0 x1).bind λ y1 => bif (y1 != 0) then some y1 else bif (Auq x0 x2) then some 10 else (Aki x0 x1 x2).bind λ y5 => bif !y5 then some 11 else (getI x0.Ag x2).bind λ y8 => (Gh x0 x1 y8.A).bind λ y10 => (A2 [((y8.Kind == 1), true)] (M7 y10.1.An y8.B) default).bind λ y12 => (A2 [(!((y8.Kind == 1) && y12), true)] (Akh x0 x1 y8) default).bind λ y14 => bif ((!((y8.Kind == 1) && y12)) && (!y14)) then some 12 else some 0
def Akp (x0 : Aa) (x1 : Ab) (x2 : Int) : Option (Ab × Int) :=
 (Akj x0 x1 x2).bind λ y1 => bif (y1 != 0) then some ((⟨([] : List Bool), ([] : List Af), ([] : List Int), ([] : List Am)⟩ : Ab), y1) else (Io x1).bind λ y4 => (getI y4.Ah x2).bind λ y6 => (setI y4.Ah x2 true).bind λ y8 => (F57 x0 (⟨y8, y4.Ac, y4.Ar, y4.Ao⟩ : Ab)).bind λ y10 => some (y10.1, y10.2)
def Auv (x0 : Aa) (x2 : Int) : Bool := ((decide (x2 < 0)) || (decide (x2 >= (x0.Ag.length : Int))))
def Ako (x0 : Aa) (x1 : Ab) (x2 : Int) : Option (Ab × Int) :=
 (F43 x0 x1).bind λ y1 => bif (y1 != 0) then some ((⟨([] : List Bool), ([] : List Af), ([] : List Int), ([] : List Am)⟩ : Ab), y1) else bif (Auv x0 x2) then some ((⟨([] : List Bool), ([] : List Af), ([] : List Int), ([] : List Am)⟩ : Ab), 10) else (getI x1.Ah x2).bind λ y5 => (A2 [(!y5, false)] (Hf x1 2 x2) default).bind λ y7 => bif ((!y5) || y7) then some ((⟨([] : List Bool), ([] : List Af), ([] : List Int), ([] : List Am)⟩ : Ab), 11) else (Io x1).bind λ y10 => (getI y10.Ah x2).bind λ y12 => (setI y10.Ah x2 false).bind λ y14 => some ((⟨y14, y10.Ac, y10.Ar, y10.Ao⟩ : Ab), 0)
def Abe (x0 : Aa) (x1 : Ab) (x2 : Int) : Option (Int × Bool) :=
 (F43 x0 x1).bind λ y1 => bif (y1 != 0) then some (0, false) else (Z6 x0 x1 x2).bind λ y4 => some (y4.1, y4.2)
def Auu (x0 : Aa) (x2 : Int) (x3 : Int) : Bool := ((((decide (x2 < 0)) || (decide (x2 >= (x0.Ac.length : Int)))) || (decide (x3 < 0))) || (decide (x3 >= x0.An)))
def Akn (x0 : Aa) (x1 : Ab) (x2 : Int) (x3 : Int) : Option (Ab × Int) :=
 (F43 x0 x1).bind λ y1 => bif (y1 != 0) then some ((⟨([] : List Bool), ([] : List Af), ([] : List Int), ([] : List Am)⟩ : Ab), y1) else bif (Auu x0 x2 x3) then some ((⟨([] : List Bool), ([] : List Af), ([] : List Int), ([] : List Am)⟩ : Ab), 10) else (U0 x0 x1 x3).bind λ y5 => (A2 [(!y5.2, false)] (getI x1.Ac x2) default).bind λ y7 => bif ((!y5.2) || (y7.State != 2)) then some ((⟨([] : List Bool), ([] : List Af), ([] : List Int), ([] : List Am)⟩ : Ab), 11) else (Io x1).bind λ y10 => (Abe x0 x1 x2).bind λ y12 => bif y12.2 then (Gh x0 x1 y12.1).bind λ y15 => (getI x1.Ac y5.1).bind λ y17 => (M9 y10 y15.1.Ac y17).bind λ y19 => some ((⟨y10.Ah, y19, y10.Ar, y10.Ao⟩ : Ab), 0) else (getI x1.Ac y5.1).bind λ y21 => (M9 y10 [x2] y21).bind λ y23 => some ((⟨y10.Ah, y23, y10.Ar, y10.Ao⟩ : Ab), 0)
def vY (x0 : Ak) (x1 : Int) : Bool :=
 ((x0.Kind == 2) && (x0.B == x1))
def Ku (x1c0 : Int) (n0 : Nat) (a0 : Ak) (z0 : Unit) : Option (Ctl Unit (Int × Int)) :=
 bif vY a0 x1c0 then some (.ret (cnt 0 n0, x1c0)) else some (.next ())
def yE (x0 : List Ak) (x1c0 : Int) : Option (Int × Int) :=
 andThen (foldI (Ku x1c0) x0 0 ()) some λ z0 => some ((-1), x1c0)
def Akg (x0 : Aa) (x1 : Int) : Option Int :=
 (yE x0.Ag x1).bind λ y1 => some y1.1
def Ji (x0 : A3) (x1 : Int) : Option Bool :=
 (Akg x0.Al x1).bind λ y1 => (getI x0.Au.Ah y1).bind λ y3 => some (!y3)
def Vf (x0 : A3) (x1 : Int) : Option (Int × A3) :=
 (getI x0.Au.Ac x1).bind λ y1 => (A2 [((y1.State != 0), false)] (Hf x0.Au 1 x1) default).bind λ y3 => bif ((y1.State != 0) || y3) then some (11, x0) else (getI x0.Al.Ac x1).bind λ y6 => (A2 [((y6.Start == 0), true)] (Ji x0 x1) default).bind λ y8 => bif ((y6.Start == 0) && y8) then (setI x0.Au.Ac x1 (⟨2, x0.time, 5000, 0⟩ : Af)).bind λ y11 => some (0, (⟨x0.Al, (⟨x0.Au.Ah, y11, x0.Au.Ar, x0.Au.Ao⟩ : Ab), x0.time⟩ : A3)) else (setI x0.Au.Ac x1 (⟨1, x0.time, 5000, 0⟩ : Af)).bind λ y13 => some (0, (⟨x0.Al, (⟨x0.Au.Ah, y13, x0.Au.Ar, x0.Au.Ao⟩ : Ab), x0.time⟩ : A3))
def Ax7 (y1 : Af) (y3 : Bool) : Bool := (((y1.State != 1) && (y1.State != 2)) || (!y3))
def Ve (x0 : A3) (x1 : Int) : Option (Int × A3) :=
 (getI x0.Au.Ac x1).bind λ y1 => (A2 [(((y1.State != 1) && (y1.State != 2)), false)] (Ji x0 x1) default).bind λ y3 => bif (Ax7 y1 y3) then some (11, x0) else (setI x0.Au.Ac x1 (⟨0, y1.Since, y1.Aq, y1.Phase⟩ : Af)).bind λ y6 => some (0, (⟨x0.Al, (⟨x0.Au.Ah, y6, x0.Au.Ar, x0.Au.Ao⟩ : Ab), x0.time⟩ : A3))
def Aij (x2 : Int) (y1 : A1) : Bool := ((decide (x2 < 0)) || (decide (x2 > y1.Load)))
def Vd (x0 : A3) (x1 : Int) (x2 : Int) : Option (Int × A3) :=
 (A2 [(decide (x2 < 0), false)] (getI x0.Al.Ae x1) default).bind λ y1 => bif (Aij x2 y1) then some (1, x0) else (getI x0.Au.Ar x1).bind λ y4 => (setI x0.Au.Ar x1 x2).bind λ y6 => some (0, (⟨x0.Al, (⟨x0.Au.Ah, x0.Au.Ac, y6, x0.Au.Ao⟩ : Ab), x0.time⟩ : A3))
def Pt (n0 : Nat) (a0 : Af) (z0 : (List Af)) : Option (Ctl ((List Af)) Unit) :=
 bif (a0.State == 2) then (getI z0 (cnt 0 n0)).bind λ y7 => (setI z0 (cnt 0 n0) (⟨y7.State, y7.Since, y7.Aq, Fq (w64 (a0.Phase + (w64 (36 * (w64 (a0.Aq - 5000))))))⟩ : Af)).bind λ y9 => some (.next y9) else some (.next z0)
def Z1 (x0 : Aa) (x1 : Ab) : Option (Ab × Int) :=
 (F43 x0 x1).bind λ y1 => bif (y1 != 0) then some ((⟨([] : List Bool), ([] : List Af), ([] : List Int), ([] : List Am)⟩ : Ab), y1) else (Io x1).bind λ y4 => andThen (foldI Pt x1.Ac 0 y4.Ac) (λ _ => none) λ z0 => some ((⟨y4.Ah, z0, y4.Ar, y4.Ao⟩ : Ab), 0)
def Y3 (y1 : Ab × Int) (z0 : Int × (List Af)) : Bool := decide (z0.1 < (y1.1.Ac.length : Int))
def Mz (x0 : A3) (y4 : Af) (y6 : Bool) (y8 : Bh) : Bool := (((y4.State == 1) && y6) && (decide ((w64 (y4.Since + y8.Start)) <= (w64 (x0.time + 1)))))
def Kw (x0 : A3) (y1 : Ab × Int) (z0 : Int × (List Af)) : Option (Ctl (Int × (List Af)) Unit) :=
 bif (Y3 y1 z0) then (getI z0.2 z0.1).bind λ y4 => (A2 [((y4.State == 1), true)] (Ji (⟨x0.Al, (⟨y1.1.Ah, z0.2, y1.1.Ar, y1.1.Ao⟩ : Ab), x0.time⟩ : A3) z0.1) default).bind λ y6 => (A2 [(((y4.State == 1) && y6), true)] (getI x0.Al.Ac z0.1) default).bind λ y8 => bif (Mz x0 y4 y6 y8) then (setI z0.2 z0.1 (⟨2, y4.Since, y4.Aq, y4.Phase⟩ : Af)).bind λ y11 => some (.next (w64 (z0.1 + 1), y11)) else some (.next (w64 (z0.1 + 1), z0.2)) else some (.brk (z0.1, z0.2))
def Kx (x0 : A3) : Option A3 :=
 (Z1 x0.Al x0.Au).bind λ y1 => andThen (whileN (Kw x0 y1) 1152921504606846976 (0, y1.1.Ac)) (λ _ => none) λ z0 => some (⟨x0.Al, (⟨y1.1.Ah, z0.2, y1.1.Ar, y1.1.Ao⟩ : Ab), x0.time⟩ : A3)
def Ry (x0 : Am) (x1 : Am) : Int :=
 bif (x0.Kind != x1.Kind) then w64 (x0.Kind - x1.Kind) else w64 (x0.Number - x1.Number)
def N6 (x0 : List Am) (x1 : Am) (z0 : Int × Int) : Option (Ctl (Int × Int) Unit) :=
 bif decide (z0.1 < z0.2) then (getI x0 (w64 (Gb .u64 (IntKind.wrap .u64 (w64 (z0.1 + z0.2))) 1))).bind λ y2 => bif decide ((Ry y2 x1) < 0) then some (.next (w64 ((w64 (Gb .u64 (IntKind.wrap .u64 (w64 (z0.1 + z0.2))) 1)) + 1), z0.2)) else some (.next (z0.1, w64 (Gb .u64 (IntKind.wrap .u64 (w64 (z0.1 + z0.2))) 1))) else some (.brk (z0.1, z0.2))
def Uz (x0 : List Am) (x1 : Am) : Option (Int × Bool) :=
 andThen (whileN (N6 x0 x1) 1152921504606846976 (0, (x0.length : Int))) (λ _ => none) λ z0 => (A2 [(decide (z0.1 < (x0.length : Int)), true)] (getI x0 z0.1) default).bind λ y5 => some (z0.1, ((decide (z0.1 < (x0.length : Int))) && ((Ry y5 x1) == 0)))
def Ps (x0 : List Am) (x1 : Int) (x2 : List Am) : Option ((List Am)) :=
 (bndI x0.length x1 (x0.length : Int)).bind λ u2 => bif ((x2.length : Int) == 0) then some x0 else bif (x1 == (x0.length : Int)) then (appI 17 x0 x2).bind λ y5 => some y5 else insI 17 x0 x1 x2
def Uy (x0 : List Am) (x1 : Int) (x2 : Int) : Option ((List Am)) :=
 (bnd3I x0.length x1 x2 (x0.length : Int)).bind λ u2 => bif (x1 == x2) then some x0 else (bndI x0.length 0 x1).bind λ u5 => (bndI x0.length x2 (x0.length : Int)).bind λ u7 => (appPI x0 ((Int.toNat x1) - 0) ((x0.drop (Int.toNat x2)).take ((Int.toNat (x0.length : Int)) - (Int.toNat x2)))).bind λ y8 => (bndI (y8.length - 0) (((((Int.toNat x1) - 0) + ((x0.drop (Int.toNat x2)).take ((Int.toNat (x0.length : Int)) - (Int.toNat x2))).length) : Nat) : Int) (x0.length : Int)).bind λ u11 => some ((Ge y8 (0 + (Int.toNat (((((Int.toNat x1) - 0) + ((x0.drop (Int.toNat x2)).take ((Int.toNat (x0.length : Int)) - (Int.toNat x2))).length) : Nat) : Int))) ((Int.toNat (x0.length : Int)) - (Int.toNat (((((Int.toNat x1) - 0) + ((x0.drop (Int.toNat x2)).take ((Int.toNat (x0.length : Int)) - (Int.toNat x2))).length) : Nat) : Int))) (⟨0, 0⟩ : Am)).take (((Int.toNat x1) - 0) + ((x0.drop (Int.toNat x2)).take ((Int.toNat (x0.length : Int)) - (Int.toNat x2))).length))
def Ra (x0 : A3) (x2 : Bool) : Bool := (x2 && (decide ((x0.Au.Ao.length : Int) >= 32)))
def Oc (x0 : A3) (x1 : Am) (x2 : Bool) (y1 : Int × Bool) : Option (Ctl ((List Am)) Unit) :=
 bif x2 then (Ps x0.Au.Ao y1.1 [x1]).bind λ y6 => some (.next y6) else (Uy x0.Au.Ao y1.1 (w64 (y1.1 + 1))).bind λ y8 => some (.next y8)
def He (x0 : A3) (x1 : Am) (x2 : Bool) : Option (Int × A3) :=
 (Uz x0.Au.Ao x1).bind λ y1 => bif (y1.2 == x2) then some (11, x0) else bif (Ra x0 x2) then some (2, x0) else andThen (Oc x0 x1 x2 y1) (λ _ => none) λ z0 => bif (x1.Kind == 1) then (getI x0.Au.Ac x1.Number).bind λ y11 => (setI x0.Au.Ac x1.Number (⟨0, y11.Since, y11.Aq, y11.Phase⟩ : Af)).bind λ y13 => bif x2 then (getI y13 x1.Number).bind λ y16 => (setI y13 x1.Number (⟨3, y16.Since, y16.Aq, y16.Phase⟩ : Af)).bind λ y18 => some (0, (⟨x0.Al, (⟨x0.Au.Ah, y18, x0.Au.Ar, z0⟩ : Ab), x0.time⟩ : A3)) else some (0, (⟨x0.Al, (⟨x0.Au.Ah, y13, x0.Au.Ar, z0⟩ : Ab), x0.time⟩ : A3)) else some (0, (⟨x0.Al, (⟨x0.Au.Ah, x0.Au.Ac, x0.Au.Ar, z0⟩ : Ab), x0.time⟩ : A3))
def M8 (x0 : A3) (x1 : Ap) : Option (Int × A3) :=
 bif (x1.Kind == 1) then (Akp x0.Al x0.Au x1.Unit).bind λ y2 => some (y2.2, (⟨x0.Al, y2.1, x0.time⟩ : A3)) else bif (x1.Kind == 2) then (Ako x0.Al x0.Au x1.Unit).bind λ y5 => some (y5.2, (⟨x0.Al, y5.1, x0.time⟩ : A3)) else bif (x1.Kind == 6) then (Akn x0.Al x0.Au x1.Unit x1.Value).bind λ y8 => some (y8.2, (⟨x0.Al, y8.1, x0.time⟩ : A3)) else bif (x1.Kind == 3) then (Vf x0 x1.Unit).bind λ y11 => some (y11.1, y11.2) else bif (x1.Kind == 4) then (Ve x0 x1.Unit).bind λ y14 => some (y14.1, y14.2) else bif (x1.Kind == 5) then (Vd x0 x1.Unit x1.Value).bind λ y17 => some (y17.1, y17.2) else bif (x1.Kind == 7) then (Kx x0).bind λ y20 => some (0, y20) else (He x0 (⟨x1.Value, x1.Unit⟩ : Am) (x1.Kind == 8)).bind λ y22 => some (y22.1, y22.2)
def Aqe (x2 : Int) (x3 : Ap) : Bool := ((((decide (x2 < 0)) || (decide (x2 > 2147483648))) || (decide (x3.Kind < 1))) || (decide (x3.Kind > 9)))
def F83 (x0 : Aa) (x1 : Ab) (x2 : Int) (x3 : Ap) : Option (Ab × Int) :=
 (F43 x0 x1).bind λ y1 => bif (y1 != 0) then some ((⟨([] : List Bool), ([] : List Af), ([] : List Int), ([] : List Am)⟩ : Ab), y1) else bif (Aqe x2 x3) then some ((⟨([] : List Bool), ([] : List Af), ([] : List Int), ([] : List Am)⟩ : Ab), 1) else (Abn x0 x3).bind λ y5 => bif !y5 then some ((⟨([] : List Bool), ([] : List Af), ([] : List Int), ([] : List Am)⟩ : Ab), 10) else (Io x1).bind λ y8 => (M8 (⟨x0, y8, x2⟩ : A3) x3).bind λ y10 => bif (y10.1 != 0) then some ((⟨([] : List Bool), ([] : List Af), ([] : List Int), ([] : List Am)⟩ : Ab), y10.1) else some (y10.2.Au, 0)
def P5 (x0 : A4) (x1 : Ap) (x2 : Int) : Option A4 :=
 (appI 41 x0.events [(⟨x0.Av.Time, x1, x2⟩ : Bg)]).bind λ y1 => some (⟨x0.Av, x0.Al, y1, x0.states⟩ : A4)
def N2 (x0 : A4) (x1 : Ab) : Option A4 :=
 (Io x1).bind λ y3 => (appI 97 x0.states [y3]).bind λ y5 => some (⟨x0.Av, x0.Al, x0.events, y5⟩ : A4)
def Ks (x0 : Int) (x1 : Int) (x2 : Ax) : Option (Bool × Ax) :=
 (Hf x2.Au x0 x1).bind λ y1 => some (y1, x2)
def U5 (x0 : Ax) (x1 : Ak) : Option (Bool × Ax) :=
 (Ks 3 x1.A x0).bind λ y1 => bif y1.1 then some (true, y1.2) else bif (x1.Kind == 1) then (Ks 3 x1.B y1.2).bind λ y5 => some (y5.1, y5.2) else bif (x1.Kind == 2) then (Ks 1 x1.B y1.2).bind λ y8 => (A2 [(y8.1, false)] (getI y8.2.Au.Ac x1.B) default).bind λ y10 => some ((y8.1 || (y10.State != 2)), y8.2) else (Ks 4 x1.B y1.2).bind λ y12 => some (y12.1, y12.2)
def M6 (x0 : Ax) (x1 : Int) : Option Ax :=
 (getI x0.Au.Ah x1).bind λ y1 => (setI x0.Au.Ah x1 false).bind λ y3 => (appI 25 x0.acts [(⟨2, x1, 0⟩ : Ap)]).bind λ y5 => some (⟨x0.Al, (⟨y3, x0.Au.Ac, x0.Au.Ar, x0.Au.Ao⟩ : Ab), y5⟩ : Ax)
def Ob (n0 : Nat) (a0 : Ak) (z0 : Sg7) : Option (Ctl (Sg7) Unit) :=
 (getI z0.2.2.2.2.2.2.2.1 (cnt 0 n0)).bind λ y1 => (A2 [(y1, true)] (U5 (⟨(⟨z0.1, z0.2.1, z0.2.2.1, z0.2.2.2.1, z0.2.2.2.2.1, z0.2.2.2.2.2.1⟩ : Aa), (⟨z0.2.2.2.2.2.2.2.1, z0.2.2.2.2.2.2.2.2.1, z0.2.2.2.2.2.2.2.2.2.1, z0.2.2.2.2.2.2.2.2.2.2.1⟩ : Ab), z0.2.2.2.2.2.2.2.2.2.2.2⟩ : Ax) a0) (default, (⟨(⟨z0.1, z0.2.1, z0.2.2.1, z0.2.2.2.1, z0.2.2.2.2.1, z0.2.2.2.2.2.1⟩ : Aa), (⟨z0.2.2.2.2.2.2.2.1, z0.2.2.2.2.2.2.2.2.1, z0.2.2.2.2.2.2.2.2.2.1, z0.2.2.2.2.2.2.2.2.2.2.1⟩ : Ab), z0.2.2.2.2.2.2.2.2.2.2.2⟩ : Ax))).bind λ y3 => bif (y1 && y3.1) then (appI 9 z0.2.2.2.2.2.2.1 [cnt 0 n0]).bind λ y6 => some (.next (y3.2.Al.An, y3.2.Al.Ag, y3.2.Al.Ac, y3.2.Al.Ae, y3.2.Al.Phase, y3.2.Al.Aq, y6, y3.2.Au.Ah, y3.2.Au.Ac, y3.2.Au.Ar, y3.2.Au.Ao, y3.2.acts)) else some (.next (y3.2.Al.An, y3.2.Al.Ag, y3.2.Al.Ac, y3.2.Al.Ae, y3.2.Al.Phase, y3.2.Al.Aq, z0.2.2.2.2.2.2.1, y3.2.Au.Ah, y3.2.Au.Ac, y3.2.Au.Ar, y3.2.Au.Ao, y3.2.acts))
def Kv (n1 : Nat) (a1 : Int) (z1 : Sg6) : Option (Ctl (Sg6) Unit) :=
 (M6 (⟨(⟨z1.1, z1.2.1, z1.2.2.1, z1.2.2.2.1, z1.2.2.2.2.1, z1.2.2.2.2.2.1⟩ : Aa), (⟨z1.2.2.2.2.2.2.1, z1.2.2.2.2.2.2.2.1, z1.2.2.2.2.2.2.2.2.1, z1.2.2.2.2.2.2.2.2.2.1⟩ : Ab), z1.2.2.2.2.2.2.2.2.2.2⟩ : Ax) a1).bind λ y8 => some (.next (y8.Al.An, y8.Al.Ag, y8.Al.Ac, y8.Al.Ae, y8.Al.Phase, y8.Al.Aq, y8.Au.Ah, y8.Au.Ac, y8.Au.Ar, y8.Au.Ao, y8.acts))
def U_ (x0 : Ax) : Option Ax :=
 andThen (foldI Ob x0.Al.Ag 0 (x0.Al.An, x0.Al.Ag, x0.Al.Ac, x0.Al.Ae, x0.Al.Phase, x0.Al.Aq, ([] : List Int), x0.Au.Ah, x0.Au.Ac, x0.Au.Ar, x0.Au.Ao, x0.acts)) (λ _ => none) λ z0 => andThen (foldI Kv z0.2.2.2.2.2.2.1 0 (z0.1, z0.2.1, z0.2.2.1, z0.2.2.2.1, z0.2.2.2.2.1, z0.2.2.2.2.2.1, z0.2.2.2.2.2.2.2.1, z0.2.2.2.2.2.2.2.2.1, z0.2.2.2.2.2.2.2.2.2.1, z0.2.2.2.2.2.2.2.2.2.2.1, z0.2.2.2.2.2.2.2.2.2.2.2)) (λ _ => none) λ z1 => some (⟨(⟨z1.1, z1.2.1, z1.2.2.1, z1.2.2.2.1, z1.2.2.2.2.1, z1.2.2.2.2.2.1⟩ : Aa), (⟨z1.2.2.2.2.2.2.1, z1.2.2.2.2.2.2.2.1, z1.2.2.2.2.2.2.2.2.1, z1.2.2.2.2.2.2.2.2.2.1⟩ : Ab), z1.2.2.2.2.2.2.2.2.2.2⟩ : Ax)
def Vs (x0 : Aa) (x1 : Ab) (x2 : Int) : Option Bool :=
 (Gh x0 x1 x2).bind λ y1 => some (decide ((y1.1.Ac.length : Int) > 0))
def U4 (x0 : Ak) (x1 : Ax) : Option (Bool × Ax) :=
 (A2 [((x0.Kind == 3), true)] (Vs x1.Al x1.Au x0.A) default).bind λ y1 => some (((x0.Kind == 3) && (!y1)), x1)
def Oa (n0 : Nat) (a0 : Ak) (z0 : Sg7) : Option (Ctl (Sg7) Unit) :=
 (getI z0.2.2.2.2.2.2.2.1 (cnt 0 n0)).bind λ y1 => (A2 [(y1, true)] (U4 a0 (⟨(⟨z0.1, z0.2.1, z0.2.2.1, z0.2.2.2.1, z0.2.2.2.2.1, z0.2.2.2.2.2.1⟩ : Aa), (⟨z0.2.2.2.2.2.2.2.1, z0.2.2.2.2.2.2.2.2.1, z0.2.2.2.2.2.2.2.2.2.1, z0.2.2.2.2.2.2.2.2.2.2.1⟩ : Ab), z0.2.2.2.2.2.2.2.2.2.2.2⟩ : Ax)) (default, (⟨(⟨z0.1, z0.2.1, z0.2.2.1, z0.2.2.2.1, z0.2.2.2.2.1, z0.2.2.2.2.2.1⟩ : Aa), (⟨z0.2.2.2.2.2.2.2.1, z0.2.2.2.2.2.2.2.2.1, z0.2.2.2.2.2.2.2.2.2.1, z0.2.2.2.2.2.2.2.2.2.2.1⟩ : Ab), z0.2.2.2.2.2.2.2.2.2.2.2⟩ : Ax))).bind λ y3 => bif (y1 && y3.1) then (appI 9 z0.2.2.2.2.2.2.1 [cnt 0 n0]).bind λ y6 => some (.next (y3.2.Al.An, y3.2.Al.Ag, y3.2.Al.Ac, y3.2.Al.Ae, y3.2.Al.Phase, y3.2.Al.Aq, y6, y3.2.Au.Ah, y3.2.Au.Ac, y3.2.Au.Ar, y3.2.Au.Ao, y3.2.acts)) else some (.next (y3.2.Al.An, y3.2.Al.Ag, y3.2.Al.Ac, y3.2.Al.Ae, y3.2.Al.Phase, y3.2.Al.Aq, z0.2.2.2.2.2.2.1, y3.2.Au.Ah, y3.2.Au.Ac, y3.2.Au.Ar, y3.2.Au.Ao, y3.2.acts))
def U8 (n1 : Nat) (a1 : Int) (z1 : Sg6) : Option (Ctl (Sg6) Unit) :=
 (M6 (⟨(⟨z1.1, z1.2.1, z1.2.2.1, z1.2.2.2.1, z1.2.2.2.2.1, z1.2.2.2.2.2.1⟩ : Aa), (⟨z1.2.2.2.2.2.2.1, z1.2.2.2.2.2.2.2.1, z1.2.2.2.2.2.2.2.2.1, z1.2.2.2.2.2.2.2.2.2.1⟩ : Ab), z1.2.2.2.2.2.2.2.2.2.2⟩ : Ax) a1).bind λ y8 => some (.next (y8.Al.An, y8.Al.Ag, y8.Al.Ac, y8.Al.Ae, y8.Al.Phase, y8.Al.Aq, y8.Au.Ah, y8.Au.Ac, y8.Au.Ar, y8.Au.Ao, y8.acts))
def U9 (x0 : Ax) : Option Ax :=
 andThen (foldI Oa x0.Al.Ag 0 (x0.Al.An, x0.Al.Ag, x0.Al.Ac, x0.Al.Ae, x0.Al.Phase, x0.Al.Aq, ([] : List Int), x0.Au.Ah, x0.Au.Ac, x0.Au.Ar, x0.Au.Ao, x0.acts)) (λ _ => none) λ z0 => andThen (foldI U8 z0.2.2.2.2.2.2.1 0 (z0.1, z0.2.1, z0.2.2.1, z0.2.2.2.1, z0.2.2.2.2.1, z0.2.2.2.2.2.1, z0.2.2.2.2.2.2.2.1, z0.2.2.2.2.2.2.2.2.1, z0.2.2.2.2.2.2.2.2.2.1, z0.2.2.2.2.2.2.2.2.2.2.1, z0.2.2.2.2.2.2.2.2.2.2.2)) (λ _ => none) λ z1 => some (⟨(⟨z1.1, z1.2.1, z1.2.2.1, z1.2.2.2.1, z1.2.2.2.2.1, z1.2.2.2.2.2.1⟩ : Aa), (⟨z1.2.2.2.2.2.2.1, z1.2.2.2.2.2.2.2.1, z1.2.2.2.2.2.2.2.2.1, z1.2.2.2.2.2.2.2.2.2.1⟩ : Ab), z1.2.2.2.2.2.2.2.2.2.2⟩ : Ax)
def Vi (x0 : Ax) : Option Ax :=
 (U_ x0).bind λ y1 => (U9 y1).bind λ y3 => (F57 y3.Al y3.Au).bind λ y5 => some (⟨y3.Al, y5.1, y3.acts⟩ : Ax)
def M5 (x0 : Int) (x1 : Int) (x2 : Aa) : Option Int :=
 (getI x2.Ae x0).bind λ y1 => (getI x2.Ae x1).bind λ y3 => some (J2 y1.Bn y3.Bn)
def Y1 (x1 : Int) (z1 : Int × (List Int)) (y12 : Int) : Bool := ((decide (z1.1 > x1)) && (decide (y12 < 0)))
def Kr (x1 : Int) (x3c0 : Aa) (z1 : Int × (List Int)) : Option (Ctl (Int × (List Int)) Unit) :=
 (A2 [(decide (z1.1 > x1), true)] (getI z1.2 z1.1) default).bind λ y8 => (A2 [(decide (z1.1 > x1), true)] (getI z1.2 (w64 (z1.1 - 1))) default).bind λ y10 => (A2 [(decide (z1.1 > x1), true)] (M5 y8 y10 x3c0) default).bind λ y12 => bif (Y1 x1 z1 y12) then (getI z1.2 (w64 (z1.1 - 1))).bind λ y15 => (getI z1.2 z1.1).bind λ y17 => (setI z1.2 z1.1 y15).bind λ y19 => (getI y19 (w64 (z1.1 - 1))).bind λ y21 => (setI y19 (w64 (z1.1 - 1)) y17).bind λ y23 => some (.next (w64 (z1.1 - 1), y23)) else some (.brk (z1.1, z1.2))
def N3 (x1 : Int) (x2 : Int) (x3c0 : Aa) (z0 : Int × (List Int)) : Option (Ctl (Int × (List Int)) Unit) :=
 bif decide (z0.1 < x2) then andThen (whileN (Kr x1 x3c0) 1152921504606846976 (z0.1, z0.2)) (λ _ => none) λ z1 => some (.next (w64 (z0.1 + 1), z1.2)) else some (.brk (z0.1, z0.2))
def Uu (x0 : List Int) (x1 : Int) (x2 : Int) (x3c0 : Aa) : Option ((List Int) × Aa) :=
 andThen (whileN (N3 x1 x2 x3c0) 1152921504606846976 (w64 (x1 + 1), x0)) (λ _ => none) λ z0 => some (z0.2, x3c0)
def N5 (x1 : Int) (z0 : Sg9) : Option (Ctl (Sg9) Unit) :=
 bif decide (z0.2.1 <= x1) then (Uu z0.2.2.1 z0.1 z0.2.1 (⟨z0.2.2.2.1, z0.2.2.2.2.1, z0.2.2.2.2.2.1, z0.2.2.2.2.2.2.1, z0.2.2.2.2.2.2.2.1, z0.2.2.2.2.2.2.2.2⟩ : Aa)).bind λ y2 => some (.next (z0.2.1, w64 (z0.2.1 + 20), y2.1, y2.2.An, y2.2.Ag, y2.2.Ac, y2.2.Ae, y2.2.Phase, y2.2.Aq)) else some (.brk (z0.1, z0.2.1, z0.2.2.1, z0.2.2.2.1, z0.2.2.2.2.1, z0.2.2.2.2.2.1, z0.2.2.2.2.2.2.1, z0.2.2.2.2.2.2.2.1, z0.2.2.2.2.2.2.2.2))
def A7u (x1 : Int) (z2 : Unit) : Option (Ctl Unit Unit) :=
 bif decide (40 <= x1) then none else some (.brk ())
def N4 (x1 : Int) (z1 : Unit) : Option (Ctl Unit Unit) :=
 bif decide (20 < x1) then none else some (.brk ())
def vZ (x0 : List Int) (x1 : Int) (x2c0 : Aa) : Option ((List Int) × Aa) :=
 andThen (whileN (N5 x1) 1152921504606846976 (0, 20, x0, x2c0.An, x2c0.Ag, x2c0.Ac, x2c0.Ae, x2c0.Phase, x2c0.Aq)) (λ _ => none) λ z0 => (Uu z0.2.2.1 z0.1 x1 (⟨z0.2.2.2.1, z0.2.2.2.2.1, z0.2.2.2.2.2.1, z0.2.2.2.2.2.2.1, z0.2.2.2.2.2.2.2.1, z0.2.2.2.2.2.2.2.2⟩ : Aa)).bind λ y4 => andThen (whileN (N4 x1) 1152921504606846976 ()) (λ _ => none) λ z1 => some (y4.1, y4.2)
def Uw (x0 : List Int) (x1c0 : Aa) : Option ((List Int) × Aa) :=
 (vZ x0 (x0.length : Int) x1c0).bind λ y1 => some (y1.1, y1.2)
def Aur (x0 : Aa) (z0 : Int × (List Int)) : Bool := decide (z0.1 < (x0.Ae.length : Int))
def W5 (x0 : Aa) (z0 : Int × (List Int)) : Option (Ctl (Int × (List Int)) Unit) :=
 bif (Aur x0 z0) then (appI 9 z0.2 [z0.1]).bind λ y5 => some (.next (w64 (z0.1 + 1), y5)) else some (.brk (z0.1, z0.2))
def Z2 (x0 : Aa) : Option ((List Int)) :=
 (F85 x0).bind λ y1 => bif (y1 != 0) then some ([] : List Int) else andThen (whileN (W5 x0) 1152921504606846976 (0, ([] : List Int))) (λ _ => none) λ z0 => (Uw z0.2 x0).bind λ y7 => some y7.1
def Px (x0 : Int) (x1 : Ai) : Option Bool :=
 (M7 x1.Ae x0).bind λ y1 => some (!y1)
def Kz (x1c0 : Ai) (n0 : Nat) (a0 : Int) (z0 : Unit) : Option (Ctl Unit (Int × Ai)) :=
 (Px a0 x1c0).bind λ y1 => bif y1 then some (.ret (cnt 0 n0, x1c0)) else some (.next ())
def yJ (x0 : List Int) (x1c0 : Ai) : Option (Int × Ai) :=
 andThen (foldI (Kz x1c0) x0 0 ()) some λ z0 => some ((-1), x1c0)
def Aii (z0 : Int × Int × (List Int)) : Bool := decide (z0.2.1 < (z0.2.2.length : Int))
def N9 (y1 : Int × Ai) (z0 : Int × Int × (List Int)) : Option (Ctl (Int × Int × (List Int)) Unit) :=
 bif (Aii z0) then (getI z0.2.2 z0.2.1).bind λ y5 => (Px y5 y1.2).bind λ y7 => bif !y7 then (getI z0.2.2 z0.1).bind λ y10 => (setI z0.2.2 z0.1 y5).bind λ y12 => some (.next (w64 (z0.1 + 1), w64 (z0.2.1 + 1), y12)) else some (.next (z0.1, w64 (z0.2.1 + 1), z0.2.2)) else some (.brk (z0.1, z0.2.1, z0.2.2))
def U3 (x0 : List Int) (x1c0 : Ai) : Option ((List Int) × Ai) :=
 (yJ x0 x1c0).bind λ y1 => bif (y1.1 == (-1)) then some (x0, y1.2) else andThen (whileN (N9 y1) 1152921504606846976 (y1.1, w64 (y1.1 + 1), x0)) (λ _ => none) λ z0 => (bndI z0.2.2.length z0.1 (z0.2.2.length : Int)).bind λ u15 => (bndI (Ge z0.2.2 (Int.toNat z0.1) ((Int.toNat (z0.2.2.length : Int)) - (Int.toNat z0.1)) 0).length 0 z0.1).bind λ u17 => some (((Ge z0.2.2 (Int.toNat z0.1) ((Int.toNat (z0.2.2.length : Int)) - (Int.toNat z0.1)) 0).take ((Int.toNat z0.1) - 0)), y1.2)
def Pu (x1 : Ab) (y1 : Ai × Bool) (n0 : Nat) (a0 : Int) (z0 : Int) : Option (Ctl Int Unit) :=
 bif decide ((y1.1.Ac.length : Int) > 0) then (getI x1.Ar a0).bind λ y4 => some (.next (w64 (z0 + y4))) else some (.next z0)
def U1 (x0 : Aa) (x1 : Ab) (x2 : Int) : Option Int :=
 (Gh x0 x1 x2).bind λ y1 => andThen (foldI (Pu x1 y1) y1.1.Ae 0 0) (λ _ => none) λ z0 => some z0
def W0 (x0 : Aa) (n0 : Nat) (a0 : Int) (z0 : Int) : Option (Ctl Int Unit) :=
 (getI x0.Ac a0).bind λ y3 => some (.next (w64 (z0 + y3.Rating)))
def U2 (x0 : Aa) (x1 : Ab) (x2 : Int) : Option Int :=
 (Gh x0 x1 x2).bind λ y1 => andThen (foldI (W0 x0) y1.1.Ac 0 0) (λ _ => none) λ z0 => some z0
def Pr (x0 : Ax) (x1 : Int) : Option Int :=
 (U1 x0.Al x0.Au x1).bind λ y1 => (U2 x0.Al x0.Au x1).bind λ y3 => some (max 0 (w64 (y1 - y3)))
def Zw (n0 : Nat) (a0 : Int) (z0 : (List Ai)) : Option (Ctl ((List Ai)) Unit) :=
 (getI z0 a0).bind λ y8 => (appI 9 y8.An [cnt 0 n0]).bind λ y10 => (setI z0 a0 (⟨y10, y8.Ac, y8.Ae⟩ : Ai)).bind λ y12 => some (.next y12)
def A1c (x0 : Aa) (z1 : Int × (List Ai)) : Bool := decide (z1.1 < (x0.Ac.length : Int))
def Zv (x0 : Aa) (x1 : Ab) (y4 : (List Int)) (z1 : Int × (List Ai)) : Option (Ctl (Int × (List Ai)) Unit) :=
 bif (A1c x0 z1) then (Z6 x0 x1 z1.1).bind λ y15 => bif y15.2 then (getI y4 y15.1).bind λ y18 => (getI z1.2 y18).bind λ y20 => (appI 9 y20.Ac [z1.1]).bind λ y22 => (setI z1.2 y18 (⟨y20.An, y22, y20.Ae⟩ : Ai)).bind λ y24 => some (.next (w64 (z1.1 + 1), y24)) else some (.next (w64 (z1.1 + 1), z1.2)) else some (.brk (z1.1, z1.2))
def A1b (x0 : Aa) (z2 : Int × (List Ai)) : Bool := decide (z2.1 < (x0.Ae.length : Int))
def Zu (x0 : Aa) (x1 : Ab) (y4 : (List Int)) (z2 : Int × (List Ai)) : Option (Ctl (Int × (List Ai)) Unit) :=
 bif (A1b x0 z2) then (Z5 x0 x1 z2.1).bind λ y27 => bif y27.2 then (getI y4 y27.1).bind λ y30 => (getI z2.2 y30).bind λ y32 => (appI 9 y32.Ae [z2.1]).bind λ y34 => (setI z2.2 y30 (⟨y32.An, y32.Ac, y34⟩ : Ai)).bind λ y36 => some (.next (w64 (z2.1 + 1), y36)) else some (.next (w64 (z2.1 + 1), z2.2)) else some (.brk (z2.1, z2.2))
def Afh (x0 : Aa) (x1 : Ab) : Option ((List Ai)) :=
 (F43 x0 x1).bind λ y1 => bif (y1 != 0) then some ([] : List Ai) else (Abi x0 x1).bind λ y4 => (mkI 73 x0.An (⟨([] : List Int), ([] : List Int), ([] : List Int)⟩ : Ai)).bind λ y6 => andThen (foldI Zw y4 0 y6) (λ _ => none) λ z0 => andThen (whileN (Zv x0 x1 y4) 1152921504606846976 (0, z0)) (λ _ => none) λ z1 => andThen (whileN (Zu x0 x1 y4) 1152921504606846976 (0, z1.2)) (λ _ => none) λ z2 => (P2 z2.2).bind λ y38 => some y38
def Y2 (y1 : Int) (y3 : Int) (y5 : A1) : Bool := decide ((min y1 (w64 (y3 - y5.Least))) > 0)
def N8 (x0 : Ax) (x2 : Int) (n0 : Nat) (a0 : Int) (z0 : (List Int) × (List Ap)) : Option (Ctl ((List Int) × (List Ap)) Unit) :=
 (Pr (⟨x0.Al, (⟨x0.Au.Ah, x0.Au.Ac, z0.1, x0.Au.Ao⟩ : Ab), z0.2⟩ : Ax) x2).bind λ y1 => (getI z0.1 a0).bind λ y3 => (getI x0.Al.Ae a0).bind λ y5 => bif (Y2 y1 y3 y5) then (setI z0.1 a0 (w64 (y3 - (min y1 (w64 (y3 - y5.Least)))))).bind λ y8 => (getI y8 a0).bind λ y10 => (appI 25 z0.2 [(⟨5, a0, y10⟩ : Ap)]).bind λ y12 => some (.next (y8, y12)) else some (.next (z0.1, z0.2))
def Pw (x0 : Ax) (x1 : List Int) (x2 : Int) : Option Ax :=
 andThen (foldI (N8 x0 x2) x1 0 (x0.Au.Ar, x0.acts)) (λ _ => none) λ z0 => some (⟨x0.Al, (⟨x0.Au.Ah, x0.Au.Ac, z0.1, x0.Au.Ao⟩ : Ab), z0.2⟩ : Ax)
def Uv (x0 : Ak) (x1 : Int) : Bool :=
 ((x0.Kind == 3) && (x0.B == x1))
def N_ (x0 : Ax) (x1c0 : Int) (n0 : Nat) (a0 : Ak) (z0 : (List Int)) : Option (Ctl ((List Int)) Unit) :=
 (getI x0.Au.Ah (cnt 0 n0)).bind λ y1 => bif (y1 && (Uv a0 x1c0)) then (appI 9 z0 [cnt 0 n0]).bind λ y4 => some (.next y4) else some (.next z0)
def U6 (n1 : Nat) (a1 : Int) (z1 : Sg6) : Option (Ctl (Sg6) Unit) :=
 (M6 (⟨(⟨z1.1, z1.2.1, z1.2.2.1, z1.2.2.2.1, z1.2.2.2.2.1, z1.2.2.2.2.2.1⟩ : Aa), (⟨z1.2.2.2.2.2.2.1, z1.2.2.2.2.2.2.2.1, z1.2.2.2.2.2.2.2.2.1, z1.2.2.2.2.2.2.2.2.2.1⟩ : Ab), z1.2.2.2.2.2.2.2.2.2.2⟩ : Ax) a1).bind λ y6 => some (.next (y6.Al.An, y6.Al.Ag, y6.Al.Ac, y6.Al.Ae, y6.Al.Phase, y6.Al.Aq, y6.Au.Ah, y6.Au.Ac, y6.Au.Ar, y6.Au.Ao, y6.acts))
def U7 (x0 : Ax) (x1c0 : Int) : Option (Ax × Int) :=
 andThen (foldI (N_ x0 x1c0) x0.Al.Ag 0 ([] : List Int)) (λ _ => none) λ z0 => andThen (foldI U6 z0 0 (x0.Al.An, x0.Al.Ag, x0.Al.Ac, x0.Al.Ae, x0.Al.Phase, x0.Al.Aq, x0.Au.Ah, x0.Au.Ac, x0.Au.Ar, x0.Au.Ao, x0.acts)) (λ _ => none) λ z1 => some ((⟨(⟨z1.1, z1.2.1, z1.2.2.1, z1.2.2.2.1, z1.2.2.2.2.1, z1.2.2.2.2.2.1⟩ : Aa), (⟨z1.2.2.2.2.2.2.1, z1.2.2.2.2.2.2.2.1, z1.2.2.2.2.2.2.2.2.1, z1.2.2.2.2.2.2.2.2.2.1⟩ : Ab), z1.2.2.2.2.2.2.2.2.2.2⟩ : Ax), x1c0)
def N7 (x2 : Int) (n0 : Nat) (a0 : Int) (z0 : Sg6) : Option (Ctl (Sg6) Unit) :=
 (getI z0.2.2.2.2.2.2.2.2.1 a0).bind λ y1 => (A2 [(decide (y1 > 0), true)] (Pr (⟨(⟨z0.1, z0.2.1, z0.2.2.1, z0.2.2.2.1, z0.2.2.2.2.1, z0.2.2.2.2.2.1⟩ : Aa), (⟨z0.2.2.2.2.2.2.1, z0.2.2.2.2.2.2.2.1, z0.2.2.2.2.2.2.2.2.1, z0.2.2.2.2.2.2.2.2.2.1⟩ : Ab), z0.2.2.2.2.2.2.2.2.2.2⟩ : Ax) x2) default).bind λ y3 => bif ((decide (y1 > 0)) && (decide (y3 > 0))) then (U7 (⟨(⟨z0.1, z0.2.1, z0.2.2.1, z0.2.2.2.1, z0.2.2.2.2.1, z0.2.2.2.2.2.1⟩ : Aa), (⟨z0.2.2.2.2.2.2.1, z0.2.2.2.2.2.2.2.1, z0.2.2.2.2.2.2.2.2.1, z0.2.2.2.2.2.2.2.2.2.1⟩ : Ab), z0.2.2.2.2.2.2.2.2.2.2⟩ : Ax) a0).bind λ y6 => some (.next (y6.1.Al.An, y6.1.Al.Ag, y6.1.Al.Ac, y6.1.Al.Ae, y6.1.Al.Phase, y6.1.Al.Aq, y6.1.Au.Ah, y6.1.Au.Ac, y6.1.Au.Ar, y6.1.Au.Ao, y6.1.acts)) else some (.next (z0.1, z0.2.1, z0.2.2.1, z0.2.2.2.1, z0.2.2.2.2.1, z0.2.2.2.2.2.1, z0.2.2.2.2.2.2.1, z0.2.2.2.2.2.2.2.1, z0.2.2.2.2.2.2.2.2.1, z0.2.2.2.2.2.2.2.2.2.1, z0.2.2.2.2.2.2.2.2.2.2))
def Pv (x0 : Ax) (x1 : List Int) (x2 : Int) : Option Ax :=
 andThen (foldI (N7 x2) x1 0 (x0.Al.An, x0.Al.Ag, x0.Al.Ac, x0.Al.Ae, x0.Al.Phase, x0.Al.Aq, x0.Au.Ah, x0.Au.Ac, x0.Au.Ar, x0.Au.Ao, x0.acts)) (λ _ => none) λ z0 => some (⟨(⟨z0.1, z0.2.1, z0.2.2.1, z0.2.2.2.1, z0.2.2.2.2.1, z0.2.2.2.2.2.1⟩ : Aa), (⟨z0.2.2.2.2.2.2.1, z0.2.2.2.2.2.2.2.1, z0.2.2.2.2.2.2.2.2.1, z0.2.2.2.2.2.2.2.2.2.1⟩ : Ab), z0.2.2.2.2.2.2.2.2.2.2⟩ : Ax)
def Od (y1 : (List Int)) (n0 : Nat) (a0 : Ai) (z0 : Sg6) : Option (Ctl (Sg6) Unit) :=
 (Z4 y1).bind λ y5 => (U3 y5 a0).bind λ y7 => bif decide ((y7.2.Ac.length : Int) > 0) then (getI y7.2.An 0).bind λ y10 => (Pw (⟨(⟨z0.1, z0.2.1, z0.2.2.1, z0.2.2.2.1, z0.2.2.2.2.1, z0.2.2.2.2.2.1⟩ : Aa), (⟨z0.2.2.2.2.2.2.1, z0.2.2.2.2.2.2.2.1, z0.2.2.2.2.2.2.2.2.1, z0.2.2.2.2.2.2.2.2.2.1⟩ : Ab), z0.2.2.2.2.2.2.2.2.2.2⟩ : Ax) y7.1 y10).bind λ y12 => (getI y7.2.An 0).bind λ y14 => (Pv y12 y7.1 y14).bind λ y16 => some (.next (y16.Al.An, y16.Al.Ag, y16.Al.Ac, y16.Al.Ae, y16.Al.Phase, y16.Al.Aq, y16.Au.Ah, y16.Au.Ac, y16.Au.Ar, y16.Au.Ao, y16.acts)) else some (.next (z0.1, z0.2.1, z0.2.2.1, z0.2.2.2.1, z0.2.2.2.2.1, z0.2.2.2.2.2.1, z0.2.2.2.2.2.2.1, z0.2.2.2.2.2.2.2.1, z0.2.2.2.2.2.2.2.2.1, z0.2.2.2.2.2.2.2.2.2.1, z0.2.2.2.2.2.2.2.2.2.2))
def Pz (x0 : Ax) : Option Ax :=
 (Z2 x0.Al).bind λ y1 => (Afh x0.Al x0.Au).bind λ y3 => andThen (foldI (Od y1) y3 0 (x0.Al.An, x0.Al.Ag, x0.Al.Ac, x0.Al.Ae, x0.Al.Phase, x0.Al.Aq, x0.Au.Ah, x0.Au.Ac, x0.Au.Ar, x0.Au.Ao, x0.acts)) (λ _ => none) λ z0 => some (⟨(⟨z0.1, z0.2.1, z0.2.2.1, z0.2.2.2.1, z0.2.2.2.2.1, z0.2.2.2.2.2.1⟩ : Aa), (⟨z0.2.2.2.2.2.2.1, z0.2.2.2.2.2.2.2.1, z0.2.2.2.2.2.2.2.2.1, z0.2.2.2.2.2.2.2.2.2.1⟩ : Ab), z0.2.2.2.2.2.2.2.2.2.2⟩ : Ax)
def yH (x0 : Ax) : Option Ax :=
 (Vi x0).bind λ y1 => (Pz y1).bind λ y3 => some y3
def yI (x0 : Aa) (x1 : Ab) : Option (Ab × (List Ap) × Int) :=
 (F43 x0 x1).bind λ y1 => bif (y1 != 0) then some ((⟨([] : List Bool), ([] : List Af), ([] : List Int), ([] : List Am)⟩ : Ab), ([] : List Ap), y1) else (Io x1).bind λ y4 => (yH (⟨x0, y4, ([] : List Ap)⟩ : Ax)).bind λ y6 => some (y6.Au, y6.acts, 0)
def Ak4 (x0 : Aa) (x1 : Ab) : Option (Ab × (List Ap) × Int) :=
 (yI x0 x1).bind λ y1 => some (y1.1, y1.2.1, y1.2.2)
def Zx (x1 : Ap) (y1 : Ab × Int) : Option (Ctl Int Unit) :=
 bif (x1.Kind == 7) then some (.next 1) else some (.next y1.2)
def Ru (y1 : Ab × Int) (n1 : Nat) (a1 : Ap) (z1 : Aa6) : Option (Ctl (Aa6) Unit) :=
 (P5 (⟨(⟨z1.1, (⟨z1.2.2.2.2.2.2.2.1, z1.2.2.2.2.2.2.2.2.1, z1.2.2.2.2.2.2.2.2.2.1, z1.2.2.2.2.2.2.2.2.2.2.1⟩ : Ab), z1.2.2.2.2.2.2.2.2.2.2.2.1, z1.2.2.2.2.2.2.2.2.2.2.2.2.1⟩ : A0), (⟨z1.2.1, z1.2.2.1, z1.2.2.2.1, z1.2.2.2.2.1, z1.2.2.2.2.2.1, z1.2.2.2.2.2.2.1⟩ : Aa), z1.2.2.2.2.2.2.2.2.2.2.2.2.2.2.1, z1.2.2.2.2.2.2.2.2.2.2.2.2.2.2.2.1⟩ : A4) a1 0).bind λ y11 => bif (a1.Kind == 2) then (getI z1.2.2.2.2.2.2.2.2.2.2.2.2.2.1 a1.Unit).bind λ y14 => (setI z1.2.2.2.2.2.2.2.2.2.2.2.2.2.1 a1.Unit false).bind λ y16 => (N2 y11 (⟨y16, y1.1.Ac, z1.2.2.2.2.2.2.2.2.2.2.2.2.2.2.2.2, y1.1.Ao⟩ : Ab)).bind λ y18 => some (.next (y18.Av.Time, y18.Al.An, y18.Al.Ag, y18.Al.Ac, y18.Al.Ae, y18.Al.Phase, y18.Al.Aq, y18.Av.Power.Ah, y18.Av.Power.Ac, y18.Av.Power.Ar, y18.Av.Power.Ao, y18.Av.A5, y18.Av.A7, y16, y18.events, y18.states, z1.2.2.2.2.2.2.2.2.2.2.2.2.2.2.2.2)) else (getI z1.2.2.2.2.2.2.2.2.2.2.2.2.2.2.2.2 a1.Unit).bind λ y20 => (setI z1.2.2.2.2.2.2.2.2.2.2.2.2.2.2.2.2 a1.Unit a1.Value).bind λ y22 => (N2 y11 (⟨z1.2.2.2.2.2.2.2.2.2.2.2.2.2.1, y1.1.Ac, y22, y1.1.Ao⟩ : Ab)).bind λ y24 => some (.next (y24.Av.Time, y24.Al.An, y24.Al.Ag, y24.Al.Ac, y24.Al.Ae, y24.Al.Phase, y24.Al.Aq, y24.Av.Power.Ah, y24.Av.Power.Ac, y24.Av.Power.Ar, y24.Av.Power.Ao, y24.Av.A5, y24.Av.A7, z1.2.2.2.2.2.2.2.2.2.2.2.2.2.1, y24.events, y24.states, y22))
def Rv (x0 : A4) (x1 : Ap) : Option A4 :=
 (F83 x0.Al x0.Av.Power x0.Av.Time x1).bind λ y1 => andThen (Zx x1 y1) (λ _ => none) λ z0 => (P5 x0 x1 z0).bind λ y4 => bif (z0 != 0) then some y4 else (N2 y4 y1.1).bind λ y7 => (Ak4 y7.Al y1.1).bind λ y9 => andThen (foldI (Ru y1) y9.2.1 0 (y7.Av.Time, y7.Al.An, y7.Al.Ag, y7.Al.Ac, y7.Al.Ae, y7.Al.Phase, y7.Al.Aq, y7.Av.Power.Ah, y7.Av.Power.Ac, y7.Av.Power.Ar, y7.Av.Power.Ao, y7.Av.A5, y7.Av.A7, y1.1.Ah, y7.events, y7.states, y1.1.Ar)) (λ _ => none) λ z1 => (F60 (⟨z1.2.2.2.2.2.2.2.2.2.2.2.2.2.1, y1.1.Ac, z1.2.2.2.2.2.2.2.2.2.2.2.2.2.2.2.2, y1.1.Ao⟩ : Ab) y9.1).bind λ y26 => bif !y26 then (N2 (⟨(⟨z1.1, (⟨z1.2.2.2.2.2.2.2.1, z1.2.2.2.2.2.2.2.2.1, z1.2.2.2.2.2.2.2.2.2.1, z1.2.2.2.2.2.2.2.2.2.2.1⟩ : Ab), z1.2.2.2.2.2.2.2.2.2.2.2.1, z1.2.2.2.2.2.2.2.2.2.2.2.2.1⟩ : A0), (⟨z1.2.1, z1.2.2.1, z1.2.2.2.1, z1.2.2.2.2.1, z1.2.2.2.2.2.1, z1.2.2.2.2.2.2.1⟩ : Aa), z1.2.2.2.2.2.2.2.2.2.2.2.2.2.2.1, z1.2.2.2.2.2.2.2.2.2.2.2.2.2.2.2.1⟩ : A4) y9.1).bind λ y29 => some (⟨(⟨y29.Av.Time, y9.1, y29.Av.A5, y29.Av.A7⟩ : A0), y29.Al, y29.events, y29.states⟩ : A4) else some (⟨(⟨z1.1, y9.1, z1.2.2.2.2.2.2.2.2.2.2.2.1, z1.2.2.2.2.2.2.2.2.2.2.2.2.1⟩ : A0), (⟨z1.2.1, z1.2.2.1, z1.2.2.2.1, z1.2.2.2.2.1, z1.2.2.2.2.2.1, z1.2.2.2.2.2.2.1⟩ : Aa), z1.2.2.2.2.2.2.2.2.2.2.2.2.2.2.1, z1.2.2.2.2.2.2.2.2.2.2.2.2.2.2.2.1⟩ : A4)
def Ari (x0 : Int) (x1 : Int) : Int × Int :=
 (IntKind.wrap .u64 ((IntKind.wrap .u64 ((IntKind.wrap .u64 ((Gb .u64 x0 32) * (Gb .u64 x1 32))) + (Gb .u64 (IntKind.wrap .u64 ((IntKind.wrap .u64 ((Gb .u64 x0 32) * (Ow .u64 x1 4294967295))) + (Gb .u64 (IntKind.wrap .u64 ((Ow .u64 x0 4294967295) * (Ow .u64 x1 4294967295))) 32))) 32))) + (Gb .u64 (IntKind.wrap .u64 ((Ow .u64 (IntKind.wrap .u64 ((IntKind.wrap .u64 ((Gb .u64 x0 32) * (Ow .u64 x1 4294967295))) + (Gb .u64 (IntKind.wrap .u64 ((Ow .u64 x0 4294967295) * (Ow .u64 x1 4294967295))) 32))) 4294967295) + (IntKind.wrap .u64 ((Ow .u64 x0 4294967295) * (Gb .u64 x1 32))))) 32)), IntKind.wrap .u64 (x0 * x1))
def Jj (x0 : Int) (x1 : Int) : Int × Int :=
 ((Ari x0 x1).1, (Ari x0 x1).2)
def Aox (x1 : Int) : Option (Ctl Unit Unit) :=
 bif decide (x1 < 0) then none else some (.next ())
def A5p (x0 : List Az) (x1 : Int) : Bool := ((decide (((Jj (IntKind.wrap .u64 (x0.length : Int)) (IntKind.wrap .u64 x1)).1) > 0)) || (decide (((Jj (IntKind.wrap .u64 (x0.length : Int)) (IntKind.wrap .u64 x1)).2) > 9223372036854775807)))
def Aow (x0 : List Az) (x1 : Int) : Option (Ctl Unit Unit) :=
 bif (A5p x0 x1) then none else some (.next ())
def A5o (z2 : Int × (List Az)) : Bool := decide (z2.1 < (z2.2.length : Int))
def Abj (z2 : Int × (List Az)) : Option (Ctl (Int × (List Az)) Unit) :=
 bif (A5o z2) then (bndI z2.2.length z2.1 (z2.2.length : Int)).bind λ u7 => (bndI z2.2.length 0 z2.1).bind λ u9 => some (.next (w64 (z2.1 + ((Nat.min ((z2.2.drop 0).take ((Int.toNat z2.1) - 0)).length ((Int.toNat (z2.2.length : Int)) - (Int.toNat z2.1))) : Int)), (Gy z2.2 (Int.toNat z2.1) ((Int.toNat (z2.2.length : Int)) - (Int.toNat z2.1)) ((z2.2.drop 0).take ((Int.toNat z2.1) - 0))))) else some (.brk (z2.1, z2.2))
def Ayv (x0 : List Az) (x1 : Int) : Option ((List Az)) :=
 andThen (Aox x1) (λ _ => none) λ z0 => andThen (Aow x0 x1) (λ _ => none) λ z1 => (mkI 17 (w64 ((Jj (IntKind.wrap .u64 (x0.length : Int)) (IntKind.wrap .u64 x1)).2)) (⟨0, 0⟩ : Az)).bind λ y3 => andThen (whileN Abj 1152921504606846976 (((Nat.min x0.length y3.length) : Int), (Gy y3 0 y3.length x0))) (λ _ => none) λ z2 => some z2.2
def F86 (x0 : Int) : Option ((List Az)) :=
 (Ayv [(⟨(-1), (-1)⟩ : Az)] x0).bind λ y1 => some y1
def Ky (x0 : Int) (x1 : Int) : Bool :=
 ((decide (x0 >= (-1))) && (decide (x0 <= x1)))
def yC (x0 : Ak) (x1 : Int) : Bool :=
 ((x0.Kind == 2) && (x0.B == x1))
def Kt (x1c0 : Int) (n0 : Nat) (a0 : Ak) (z0 : Unit) : Option (Ctl Unit (Int × Int)) :=
 bif yC a0 x1c0 then some (.ret (cnt 0 n0, x1c0)) else some (.next ())
def yD (x0 : List Ak) (x1c0 : Int) : Option (Int × Int) :=
 andThen (foldI (Kt x1c0) x0 0 ()) some λ z0 => some ((-1), x1c0)
def Vg (x0 : Aa) (x1 : Int) : Option Int :=
 (yD x0.Ag x1).bind λ y1 => some y1.1
def A5n (x1 : Bf) (y1 : Ai × Bool) : Bool := ((!(F59 x1)) || (decide ((y1.1.Ac.length : Int) < 2)))
def Auw (x1 : Bf) (y9 : Int) (y11 : Bh) (y13 : Int) : Bool := decide ((w64 (100 * y13)) <= (w64 (x1.Stop * (w64 (y9 - y11.Rating)))))
def W8 (x0 : Aa) (x1 : Bf) (x2 : Ab) (x3 : Int) (a0 : Int × Int) (z0 : Unit) : Option (Ctl Unit (Int × Bool)) :=
 (Vg x0 a0.2).bind λ y4 => (Hf x2 2 y4).bind λ y6 => bif y6 then some (.next ()) else (U2 x0 x2 x3).bind λ y9 => (getI x0.Ac a0.2).bind λ y11 => (U1 x0 x2 x3).bind λ y13 => bif (Auw x1 y9 y11 y13) then some (.ret (a0.2, true)) else some (.next ())
def Aks (x0 : Aa) (x1 : Bf) (x2 : Ab) (x3 : Int) : Option (Int × Bool) :=
 (Gh x0 x2 x3).bind λ y1 => bif (A5n x1 y1) then some (0, false) else andThen (foldE (W8 x0 x1 x2 x3) (bw y1.1.Ac) ()) (λ v175_0 => some (v175_0.1, v175_0.2)) λ z0 => some (0, false)
def Akr (x0 : Aa) (x1 : Bf) (x2 : Ab) (x3 : Int) : Option Bool :=
 (A2 [(F59 x1, true)] (Vs x0 x2 x3) default).bind λ y1 => (A2 [(((F59 x1) && y1), true)] (U1 x0 x2 x3) default).bind λ y3 => (A2 [(((F59 x1) && y1), true)] (U2 x0 x2 x3) default).bind λ y5 => some (((F59 x1) && y1) && (decide ((w64 (100 * y3)) > (w64 (x1.Start * y5)))))
def H7 (x0 : Int) (x1 : Bool) (x2 : Int) : Int :=
 bif !x1 then (-1) else bif (x0 == (-1)) then x2 else x0
def Akk (x0 : Aa) (x1 : Ab) (x2 : Ai) (x3 : Int) : Option Bool :=
 (Vg x0 x3).bind λ y1 => (getI x0.Ag y1).bind λ y3 => (Hf x1 1 x3).bind λ y5 => (A2 [(y5, false)] (Hf x1 2 y1) default).bind λ y7 => (A2 [((y5 || y7), false)] (Hf x1 3 y3.A) default).bind λ y9 => (A2 [(!((y5 || y7) || y9), true)] (M7 x2.An y3.A) default).bind λ y11 => (A2 [(((!((y5 || y7) || y9)) && y11), true)] (M7 x2.Ac x3) default).bind λ y13 => (A2 [((((!((y5 || y7) || y9)) && y11) && (!y13)), true)] (getI x1.Ac x3) default).bind λ y15 => some ((((!((y5 || y7) || y9)) && y11) && (!y13)) && (y15.State != 3))
def W6 (x0 : Aa) (x1 : Ab) (y1 : Ai × Bool) (a0 : Int) (n1 : Nat) (a1 : Af) (z1 : Unit) : Option (Ctl Unit (Int × Bool)) :=
 (A2 [((a1.State == a0), true)] (Akk x0 x1 y1.1 (cnt 0 n1)) default).bind λ y4 => bif ((a1.State == a0) && y4) then some (.ret (cnt 0 n1, true)) else some (.next ())
def W7 (x0 : Aa) (x1 : Ab) (y1 : Ai × Bool) (n0 : Nat) (a0 : Int) (z0 : Unit) : Option (Ctl Unit (Int × Bool)) :=
 andThen (foldI (W6 x0 x1 y1 a0) x1.Ac 0 ()) (λ v => some (.ret v)) λ z1 => some (.next ())
def Akq (x0 : Aa) (x1 : Ab) (x2 : Int) : Option (Int × Bool) :=
 (Gh x0 x1 x2).bind λ y1 => bif !y1.2 then some (0, false) else andThen (foldI (W7 x0 x1 y1) [2, 1, 0] 0 ()) some λ z0 => some (0, false)
def Vh (x0 : Aa) (x1 : Ab) (x2 : Int) (x3 : Int) : Option ((List Ap) × Bool) :=
 (getI x1.Ac x3).bind λ y1 => bif (y1.State == 0) then some ([(⟨3, x3, 0⟩ : Ap)], false) else bif (y1.State == 2) then (U0 x0 x1 x2).bind λ y5 => (Abe x0 x1 y5.1).bind λ y7 => (Vg x0 x3).bind λ y9 => some ([(⟨6, x3, y7.1⟩ : Ap), (⟨1, y9, 0⟩ : Ap)], true) else some ([], false)
def Air (x1 : Bf) (x4 : Int) (x5 : Az) : Bool := (((((!(F59 x1)) || (decide (x4 < 0))) || (decide (x4 > 2147483648))) || (!(Ky x5.High x4))) || (!(Ky x5.Low x4)))
def Aiq (x0 : Aa) (x3 : Int) : Bool := ((decide (x3 < 0)) || (decide (x3 >= x0.An)))
def Aip (x1 : Bf) (x4 : Int) (x5 : Az) (y8 : Bool) (y10 : Int × Bool) : Bool := ((y10.2 && ((H7 x5.High y8 x4) != (-1))) && (decide ((w64 (x4 - (H7 x5.High y8 x4))) >= x1.Delay)))
def Vp (x4 : Int) (x5 : Az) (y8 : Bool) (y13 : (List Ap) × Bool) : Option (Ctl Int Unit) :=
 bif y13.2 then some (.next (-1)) else some (.next (H7 x5.High y8 x4))
def Aio (x1 : Bf) (x4 : Int) (x5 : Az) (y6 : Int × Bool) : Bool := (((H7 x5.Low y6.2 x4) != (-1)) && (decide ((w64 (x4 - (H7 x5.Low y6.2 x4))) >= x1.Delay)))
def Vq (x0 : Aa) (x1 : Bf) (x2 : Ab) (x3 : Int) (x4 : Int) (x5 : Az) : Option (Az × (List Ap) × Int) :=
 (F43 x0 x2).bind λ y1 => bif (y1 != 0) then some ((⟨0, 0⟩ : Az), [], y1) else bif (Air x1 x4 x5) then some ((⟨0, 0⟩ : Az), [], 1) else bif (Aiq x0 x3) then some ((⟨0, 0⟩ : Az), [], 10) else (Aks x0 x1 x2 x3).bind λ y6 => (Akr x0 x1 x2 x3).bind λ y8 => (Akq x0 x2 x3).bind λ y10 => bif (Aip x1 x4 x5 y8 y10) then (Vh x0 x2 x3 y10.1).bind λ y13 => andThen (Vp x4 x5 y8 y13) (λ _ => none) λ z0 => some ((⟨z0, H7 x5.Low y6.2 x4⟩ : Az), y13.1, 0) else bif (Aio x1 x4 x5 y6) then (Vg x0 y6.1).bind λ y17 => some ((⟨H7 x5.High y8 x4, (-1)⟩ : Az), [(⟨2, y17, 0⟩ : Ap), (⟨4, y6.1, 0⟩ : Ap)], 0) else some ((⟨H7 x5.High y8 x4, H7 x5.Low y6.2 x4⟩ : Az), [], 0)
def A1d (a0 : Ai) (y7 : Bool) : Bool := (((a0.Ac.length : Int) == 0) || (!y7))
def M4 (n1 : Nat) (a1 : Ap) (z1 : Ld) : Option (Ctl (Ld) Unit) :=
 (Rv (⟨(⟨z1.1, (⟨z1.2.2.2.2.2.2.2.1, z1.2.2.2.2.2.2.2.2.1, z1.2.2.2.2.2.2.2.2.2.1, z1.2.2.2.2.2.2.2.2.2.2.1⟩ : Ab), z1.2.2.2.2.2.2.2.2.2.2.2.1, z1.2.2.2.2.2.2.2.2.2.2.2.2.1⟩ : A0), (⟨z1.2.1, z1.2.2.1, z1.2.2.2.1, z1.2.2.2.2.1, z1.2.2.2.2.2.1, z1.2.2.2.2.2.2.1⟩ : Aa), z1.2.2.2.2.2.2.2.2.2.2.2.2.2.1, z1.2.2.2.2.2.2.2.2.2.2.2.2.2.2⟩ : A4) a1).bind λ y18 => some (.next (y18.Av.Time, y18.Al.An, y18.Al.Ag, y18.Al.Ac, y18.Al.Ae, y18.Al.Phase, y18.Al.Aq, y18.Av.Power.Ah, y18.Av.Power.Ac, y18.Av.Power.Ar, y18.Av.Power.Ao, y18.Av.A5, y18.Av.A7, y18.events, y18.states))
def Rt (x1 : Bf) (n0 : Nat) (a0 : Ai) (z0 : Aa5) : Option (Ctl (Aa5) Unit) :=
 (getI a0.An 0).bind λ y5 => (A2 [(((a0.Ac.length : Int) == 0), false)] (Vs (⟨z0.2.1, z0.2.2.1, z0.2.2.2.1, z0.2.2.2.2.1, z0.2.2.2.2.2.1, z0.2.2.2.2.2.2.1⟩ : Aa) (⟨z0.2.2.2.2.2.2.2.2.1, z0.2.2.2.2.2.2.2.2.2.1, z0.2.2.2.2.2.2.2.2.2.2.1, z0.2.2.2.2.2.2.2.2.2.2.2.1⟩ : Ab) y5) default).bind λ y7 => bif (A1d a0 y7) then some (.next (z0.1, z0.2.1, z0.2.2.1, z0.2.2.2.1, z0.2.2.2.2.1, z0.2.2.2.2.2.1, z0.2.2.2.2.2.2.1, z0.2.2.2.2.2.2.2.1, z0.2.2.2.2.2.2.2.2.1, z0.2.2.2.2.2.2.2.2.2.1, z0.2.2.2.2.2.2.2.2.2.2.1, z0.2.2.2.2.2.2.2.2.2.2.2.1, z0.2.2.2.2.2.2.2.2.2.2.2.2.1, z0.2.2.2.2.2.2.2.2.2.2.2.2.2.1, z0.2.2.2.2.2.2.2.2.2.2.2.2.2.2.1, z0.2.2.2.2.2.2.2.2.2.2.2.2.2.2.2)) else (getI z0.2.2.2.2.2.2.2.2.2.2.2.2.1 y5).bind λ y10 => (Vq (⟨z0.2.1, z0.2.2.1, z0.2.2.2.1, z0.2.2.2.2.1, z0.2.2.2.2.2.1, z0.2.2.2.2.2.2.1⟩ : Aa) x1 (⟨z0.2.2.2.2.2.2.2.2.1, z0.2.2.2.2.2.2.2.2.2.1, z0.2.2.2.2.2.2.2.2.2.2.1, z0.2.2.2.2.2.2.2.2.2.2.2.1⟩ : Ab) y5 z0.1 y10).bind λ y12 => (getI z0.2.2.2.2.2.2.2.1 y5).bind λ y14 => (setI z0.2.2.2.2.2.2.2.1 y5 y12.1).bind λ y16 => andThen (foldI M4 y12.2.1 0 (z0.1, z0.2.1, z0.2.2.1, z0.2.2.2.1, z0.2.2.2.2.1, z0.2.2.2.2.2.1, z0.2.2.2.2.2.2.1, z0.2.2.2.2.2.2.2.2.1, z0.2.2.2.2.2.2.2.2.2.1, z0.2.2.2.2.2.2.2.2.2.2.1, z0.2.2.2.2.2.2.2.2.2.2.2.1, z0.2.2.2.2.2.2.2.2.2.2.2.2.1, z0.2.2.2.2.2.2.2.2.2.2.2.2.2.1, z0.2.2.2.2.2.2.2.2.2.2.2.2.2.2.1, z0.2.2.2.2.2.2.2.2.2.2.2.2.2.2.2)) (λ _ => none) λ z1 => some (.next (z1.1, z1.2.1, z1.2.2.1, z1.2.2.2.1, z1.2.2.2.2.1, z1.2.2.2.2.2.1, z1.2.2.2.2.2.2.1, y16, z1.2.2.2.2.2.2.2.1, z1.2.2.2.2.2.2.2.2.1, z1.2.2.2.2.2.2.2.2.2.1, z1.2.2.2.2.2.2.2.2.2.2.1, z1.2.2.2.2.2.2.2.2.2.2.2.1, z1.2.2.2.2.2.2.2.2.2.2.2.2.1, z1.2.2.2.2.2.2.2.2.2.2.2.2.2.1, z1.2.2.2.2.2.2.2.2.2.2.2.2.2.2))
def vD (x0 : A4) (x1 : Bf) : Option A4 :=
 (F86 x0.Al.An).bind λ y1 => (Afh x0.Al x0.Av.Power).bind λ y3 => andThen (foldI (Rt x1) y3 0 (x0.Av.Time, x0.Al.An, x0.Al.Ag, x0.Al.Ac, x0.Al.Ae, x0.Al.Phase, x0.Al.Aq, y1, x0.Av.Power.Ah, x0.Av.Power.Ac, x0.Av.Power.Ar, x0.Av.Power.Ao, x0.Av.A5, x0.Av.A7, x0.events, x0.states)) (λ _ => none) λ z0 => some (⟨(⟨z0.1, (⟨z0.2.2.2.2.2.2.2.2.1, z0.2.2.2.2.2.2.2.2.2.1, z0.2.2.2.2.2.2.2.2.2.2.1, z0.2.2.2.2.2.2.2.2.2.2.2.1⟩ : Ab), z0.2.2.2.2.2.2.2.1, z0.2.2.2.2.2.2.2.2.2.2.2.2.2.1⟩ : A0), (⟨z0.2.1, z0.2.2.1, z0.2.2.2.1, z0.2.2.2.2.1, z0.2.2.2.2.2.1, z0.2.2.2.2.2.2.1⟩ : Aa), z0.2.2.2.2.2.2.2.2.2.2.2.2.2.2.1, z0.2.2.2.2.2.2.2.2.2.2.2.2.2.2.2⟩ : A4)
def vE (x0 : A4) (x1 : Ab) : Option A4 :=
 (Io x0.Av.Power).bind λ y3 => (appI 97 x0.states [y3]).bind λ y5 => some (⟨x0.Av, x0.Al, x0.events, y5⟩ : A4)
def Akc (n0 : Nat) (a0 : Ap) (z0 : Ld) : Option (Ctl (Ld) Unit) :=
 (Rv (⟨(⟨z0.1, (⟨z0.2.2.2.2.2.2.2.1, z0.2.2.2.2.2.2.2.2.1, z0.2.2.2.2.2.2.2.2.2.1, z0.2.2.2.2.2.2.2.2.2.2.1⟩ : Ab), z0.2.2.2.2.2.2.2.2.2.2.2.1, z0.2.2.2.2.2.2.2.2.2.2.2.2.1⟩ : A0), (⟨z0.2.1, z0.2.2.1, z0.2.2.2.1, z0.2.2.2.2.1, z0.2.2.2.2.2.1, z0.2.2.2.2.2.2.1⟩ : Aa), z0.2.2.2.2.2.2.2.2.2.2.2.2.2.1, z0.2.2.2.2.2.2.2.2.2.2.2.2.2.2⟩ : A4) a0).bind λ y10 => some (.next (y10.Av.Time, y10.Al.An, y10.Al.Ag, y10.Al.Ac, y10.Al.Ae, y10.Al.Phase, y10.Al.Aq, y10.Av.Power.Ah, y10.Av.Power.Ac, y10.Av.Power.Ar, y10.Av.Power.Ao, y10.Av.A5, y10.Av.A7, y10.events, y10.states))
def F34 (x0 : Aa) (x1 : Bf) (x2 : A0) (x3 : List Ap) : Option (A4 × Int) :=
 (F21 x0 x1 x2).bind λ y1 => bif (y1 != 0) then none else bif decide ((x3.length : Int) > 200) then none else bif (x2.Time == 2147483648) then none else (F63 x0 x2).bind λ y6 => (vF y6 x2.Power).bind λ y8 => andThen (foldI Akc x3 0 (y8.Av.Time, y8.Al.An, y8.Al.Ag, y8.Al.Ac, y8.Al.Ae, y8.Al.Phase, y8.Al.Aq, y8.Av.Power.Ah, y8.Av.Power.Ac, y8.Av.Power.Ar, y8.Av.Power.Ao, y8.Av.A5, y8.Av.A7, y8.events, y8.states)) (λ _ => none) λ z0 => (vD (⟨(⟨z0.1, (⟨z0.2.2.2.2.2.2.2.1, z0.2.2.2.2.2.2.2.2.1, z0.2.2.2.2.2.2.2.2.2.1, z0.2.2.2.2.2.2.2.2.2.2.1⟩ : Ab), z0.2.2.2.2.2.2.2.2.2.2.2.1, z0.2.2.2.2.2.2.2.2.2.2.2.2.1⟩ : A0), (⟨z0.2.1, z0.2.2.1, z0.2.2.2.1, z0.2.2.2.2.1, z0.2.2.2.2.2.1, z0.2.2.2.2.2.2.1⟩ : Aa), z0.2.2.2.2.2.2.2.2.2.2.2.2.2.1, z0.2.2.2.2.2.2.2.2.2.2.2.2.2.2⟩ : A4) x1).bind λ y12 => (F83 x0 y12.Av.Power y12.Av.Time (⟨7, 0, 0⟩ : Ap)).bind λ y14 => (vE (⟨(⟨y12.Av.Time, y14.1, y12.Av.A5, y12.Av.A7⟩ : A0), y12.Al, y12.events, y12.states⟩ : A4) y14.1).bind λ y16 => (appI 41 y16.Av.A7 y16.events).bind λ y18 => (cutI y18 (max 0 (w64 ((y18.length : Int) - 200))) (y18.length : Int)).bind λ y21 => (F84 y21).bind λ y22 => some ((⟨(⟨w64 (y16.Av.Time + 1), y16.Av.Power, y16.Av.A5, y22⟩ : A0), y16.Al, y16.events, y16.states⟩ : A4), 0)
def F11 (x0 : Aa) (x1 : Bf) (x2 : A0) (x3 : List Ap) : Option (A0 × (List Bg) × Int) :=
 (F34 x0 x1 x2 x3).bind λ y1 => bif (y1.2 != 0) then some ((⟨0, (⟨([] : List Bool), ([] : List Af), ([] : List Int), ([] : List Am)⟩ : Ab), ([] : List Az), ([] : List Bg)⟩ : A0), ([] : List Bg), y1.2) else some (y1.1.Av, y1.1.events, 0)
def F22 (x0 : Aa) (x1 : A0) (x2 : Ap) : Option (A0 × (List Ab) × Int) :=
 (F43 x0 x1.Power).bind λ y1 => bif (y1 != 0) then some ((⟨0, (⟨([] : List Bool), ([] : List Af), ([] : List Int), ([] : List Am)⟩ : Ab), ([] : List Az), ([] : List Bg)⟩ : A0), ([] : List Ab), y1) else (F63 x0 x1).bind λ y4 => (Rv y4 x2).bind λ y6 => (appI 41 y6.Av.A7 y6.events).bind λ y8 => some ((⟨y6.Av.Time, y6.Av.Power, y6.Av.A5, y8⟩ : A0), y6.states, 0)
def F69 (x0 : Aa) (x1 : Int) (x2 : Int) : Option ((List Int)) :=
 (Abp x0).bind λ y1 => bif (y1 != 0) then some ([] : List Int) else (F77 x0 x1 x2).bind λ y4 => some y4
def Ak3 (x0 : Int) : Int :=
 Int.tmod (w64 ((Int.tmod x0 3600) + 3600)) 3600
def vI (n0 : Nat) (a0 : Af) (z0 : (List Af)) : Option (Ctl ((List Af)) Unit) :=
 (getI z0 (cnt 0 n0)).bind λ y6 => bif (y6.State == 2) then (setI z0 (cnt 0 n0) (⟨y6.State, y6.Since, y6.Aq, Ak3 (w64 (y6.Phase + (w64 (36 * (w64 (y6.Aq - 5000))))))⟩ : Af)).bind λ y9 => some (.next y9) else some (.next z0)
def F70 (x0 : Aa) (x1 : Ab) : Option (Ab × Int) :=
 (F53 x0 x1).bind λ y1 => bif (y1 != 0) then some ((⟨([] : List Bool), ([] : List Af), ([] : List Int), ([] : List Am)⟩ : Ab), y1) else (F65 x1).bind λ y4 => andThen (foldI vI y4.Ac 0 y4.Ac) (λ _ => none) λ z0 => some ((⟨y4.Ah, z0, y4.Ar, y4.Ao⟩ : Ab), 0)
def Azt (x2 : Int) (x3 : Ap) : Bool := ((((decide (x2 < 0)) || (decide (x2 > 2147483648))) || (decide (x3.Kind < 1))) || (decide (x3.Kind > 9)))
def Awf (x3 : Ap) : Option (Ctl Bool Unit) :=
 bif (x3.Kind == 3) then some (.next (x3.Kind == 3)) else some (.next (x3.Kind == 4))
def A7m (x0 : Aa) (x3 : Ap) : Bool := ((decide (x3.Unit < 0)) || (decide (x3.Unit >= (x0.Ac.length : Int))))
def A7l (y13 : Af) (y20 : Bool) : Bool := (((y13.State != 1) && (y13.State != 2)) || y20)
def A7k (x0 : Aa) (x3 : Ap) : Bool := ((decide (x3.Unit < 0)) || (decide (x3.Unit >= (x0.Ae.length : Int))))
def A7j (x3 : Ap) (y29 : A1) : Bool := ((decide (x3.Value < 0)) || (decide (x3.Value > y29.Load)))
def uL (x2 : Int) (y39 : Af) (y45 : Bool) (y47 : Bh) : Bool := (((y39.State == 1) && (!y45)) && (decide ((w64 (y39.Since + y47.Start)) <= (w64 (x2 + 1)))))
def yA (x0 : Aa) (x2 : Int) (y37 : Ab × Int) (n1 : Nat) (a1 : Af) (z1 : (List Af)) : Option (Ctl ((List Af)) Unit) :=
 (getI z1 (cnt 0 n1)).bind λ y39 => (A2 [((y39.State == 1), true)] (F69 x0 2 (cnt 0 n1)) default).bind λ y41 => (A2 [((y39.State == 1), true)] (getI y41 0) default).bind λ y43 => (A2 [((y39.State == 1), true)] (getI y37.1.Ah y43) default).bind λ y45 => (A2 [(((y39.State == 1) && (!y45)), true)] (getI x0.Ac (cnt 0 n1)) default).bind λ y47 => bif (uL x2 y39 y45 y47) then (setI z1 (cnt 0 n1) (⟨2, y39.Since, y39.Aq, y39.Phase⟩ : Af)).bind λ y50 => some (.next y50) else some (.next z1)
def A7i (x0 : Aa) (x3 : Ap) : Bool := !(F71 x0 (⟨x3.Value, x3.Unit⟩ : Am))
def F23 (x0 : Aa) (x1 : Ab) (x2 : Int) (x3 : Ap) : Option (Ab × Int) :=
 (F53 x0 x1).bind λ y1 => bif (y1 != 0) then some ((⟨([] : List Bool), ([] : List Af), ([] : List Int), ([] : List Am)⟩ : Ab), y1) else bif (Azt x2 x3) then some ((⟨([] : List Bool), ([] : List Af), ([] : List Int), ([] : List Am)⟩ : Ab), 1) else (F65 x1).bind λ y5 => bif (x3.Kind == 1) then none else bif (x3.Kind == 2) then none else bif (x3.Kind == 6) then none else andThen (Awf x3) (λ _ => none) λ z0 => bif z0 then bif (A7m x0 x3) then some ((⟨([] : List Bool), ([] : List Af), ([] : List Int), ([] : List Am)⟩ : Ab), 10) else (getI x1.Ac x3.Unit).bind λ y13 => (F69 x0 2 x3.Unit).bind λ y15 => (getI y15 0).bind λ y17 => bif (x3.Kind == 3) then none else (A2 [(((y13.State != 1) && (y13.State != 2)), false)] (getI x1.Ah y17) default).bind λ y20 => bif (A7l y13 y20) then some ((⟨([] : List Bool), ([] : List Af), ([] : List Int), ([] : List Am)⟩ : Ab), 11) else (getI y5.Ac x3.Unit).bind λ y23 => (setI y5.Ac x3.Unit (⟨0, y23.Since, y23.Aq, y23.Phase⟩ : Af)).bind λ y25 => some ((⟨y5.Ah, y25, y5.Ar, y5.Ao⟩ : Ab), 0) else bif (x3.Kind == 5) then bif (A7k x0 x3) then some ((⟨([] : List Bool), ([] : List Af), ([] : List Int), ([] : List Am)⟩ : Ab), 10) else (A2 [(decide (x3.Value < 0), false)] (getI x0.Ae x3.Unit) default).bind λ y29 => bif (A7j x3 y29) then some ((⟨([] : List Bool), ([] : List Af), ([] : List Int), ([] : List Am)⟩ : Ab), 1) else (getI y5.Ar x3.Unit).bind λ y32 => (setI y5.Ar x3.Unit x3.Value).bind λ y34 => some ((⟨y5.Ah, y5.Ac, y34, y5.Ao⟩ : Ab), 0) else bif (x3.Kind == 7) then (F70 x0 x1).bind λ y37 => andThen (foldI (yA x0 x2 y37) y37.1.Ac 0 y37.1.Ac) (λ _ => none) λ z1 => some ((⟨y37.1.Ah, z1, y37.1.Ar, y37.1.Ao⟩ : Ab), 0) else bif (A7i x0 x3) then some ((⟨([] : List Bool), ([] : List Af), ([] : List Int), ([] : List Am)⟩ : Ab), 10) else none
def vU (x1 : List Bool) (n0 : Nat) (a0 : Bool) (z0 : Unit) : Option (Ctl Unit Bool) :=
 (getI x1 (cnt 0 n0)).bind λ y2 => bif !(a0 == y2) then some (.ret false) else some (.next ())
def F37 (x0 : List Bool) (x1 : List Bool) : Option Bool :=
 bif ((x0.length : Int) != (x1.length : Int)) then some false else andThen (foldI (vU x1) x0 0 ()) some λ z0 => some true
def vT (x1 : List Int) (n0 : Nat) (a0 : Int) (z0 : Unit) : Option (Ctl Unit Bool) :=
 (getI x1 (cnt 0 n0)).bind λ y2 => bif (a0 != y2) then some (.ret false) else some (.next ())
def F38 (x0 : List Int) (x1 : List Int) : Option Bool :=
 bif ((x0.length : Int) != (x1.length : Int)) then some false else andThen (foldI (vT x1) x0 0 ()) some λ z0 => some true
def Azy (x0 : Ab) (x1 : Ab) (y1 : Bool) (y3 : Bool) : Bool := ((((!y1) || (!y3)) || ((x0.Ac.length : Int) != (x1.Ac.length : Int))) || ((x0.Ao.length : Int) != (x1.Ao.length : Int)))
def Azx (x0 : Ab) (z0 : Int) : Bool := decide (z0 < (x0.Ac.length : Int))
def Azw (y7 : Af) (y9 : Af) : Bool := !((y7.State == y9.State) && ((y7.Since == y9.Since) && ((y7.Aq == y9.Aq) && ((y7.Phase == y9.Phase) && true))))
def yG (x0 : Ab) (x1 : Ab) (z0 : Int) : Option (Ctl Int Bool) :=
 bif (Azx x0 z0) then (getI x0.Ac z0).bind λ y7 => (getI x1.Ac z0).bind λ y9 => bif (Azw y7 y9) then some (.ret false) else some (.next (w64 (z0 + 1))) else some (.brk z0)
def Azv (x0 : Ab) (z1 : Int) : Bool := decide (z1 < (x0.Ao.length : Int))
def Aus (y13 : Am) (y15 : Am) : Bool := !((y13.Kind == y15.Kind) && ((y13.Number == y15.Number) && true))
def yF (x0 : Ab) (x1 : Ab) (z1 : Int) : Option (Ctl Int Bool) :=
 bif (Azv x0 z1) then (getI x0.Ao z1).bind λ y13 => (getI x1.Ao z1).bind λ y15 => bif (Aus y13 y15) then some (.ret false) else some (.next (w64 (z1 + 1))) else some (.brk z1)
def F19 (x0 : Ab) (x1 : Ab) : Option Bool :=
 (F37 x0.Ah x1.Ah).bind λ y1 => (A2 [(!y1, false)] (F38 x0.Ar x1.Ar) default).bind λ y3 => bif (Azy x0 x1 y1 y3) then some false else andThen (whileN (yG x0 x1) 1152921504606846976 0) some λ z0 => andThen (whileN (yF x0 x1) 1152921504606846976 0) some λ z1 => some true
def F35  : Aa × Bf :=
 ((⟨1, [(⟨2, 0, 0⟩ : Ak), (⟨2, 0, 1⟩ : Ak), (⟨3, 0, 0⟩ : Ak)], [(⟨50, 0, 0⟩ : Bh), (⟨50, 0, 0⟩ : Bh)], [(⟨80, 10, 0, 0, ([] : List Int)⟩ : A1)], 50, 0⟩ : Aa), (⟨100, 1, 5⟩ : Bf))
def Awe (x1 : Int) : Option (Ctl Unit Unit) :=
 bif decide (x1 < 0) then none else some (.next ())
def A7f (x0 : List Af) (x1 : Int) : Bool := ((decide (((Jj (IntKind.wrap .u64 (x0.length : Int)) (IntKind.wrap .u64 x1)).1) > 0)) || (decide (((Jj (IntKind.wrap .u64 (x0.length : Int)) (IntKind.wrap .u64 x1)).2) > 9223372036854775807)))
def Awd (x0 : List Af) (x1 : Int) : Option (Ctl Unit Unit) :=
 bif (A7f x0 x1) then none else some (.next ())
def A7e (z2 : Int × (List Af)) : Bool := decide (z2.1 < (z2.2.length : Int))
def Aj9 (z2 : Int × (List Af)) : Option (Ctl (Int × (List Af)) Unit) :=
 bif (A7e z2) then (bndI z2.2.length z2.1 (z2.2.length : Int)).bind λ u7 => (bndI z2.2.length 0 z2.1).bind λ u9 => some (.next (w64 (z2.1 + ((Nat.min ((z2.2.drop 0).take ((Int.toNat z2.1) - 0)).length ((Int.toNat (z2.2.length : Int)) - (Int.toNat z2.1))) : Int)), (Gy z2.2 (Int.toNat z2.1) ((Int.toNat (z2.2.length : Int)) - (Int.toNat z2.1)) ((z2.2.drop 0).take ((Int.toNat z2.1) - 0))))) else some (.brk (z2.1, z2.2))
def F87 (x0 : List Af) (x1 : Int) : Option ((List Af)) :=
 andThen (Awe x1) (λ _ => none) λ z0 => andThen (Awd x0 x1) (λ _ => none) λ z1 => (mkI 33 (w64 ((Jj (IntKind.wrap .u64 (x0.length : Int)) (IntKind.wrap .u64 x1)).2)) (⟨0, 0, 0, 0⟩ : Af)).bind λ y3 => andThen (whileN Aj9 1152921504606846976 (((Nat.min x0.length y3.length) : Int), (Gy y3 0 y3.length x0))) (λ _ => none) λ z2 => some z2.2
def Akb (n0 : Nat) (a0 : A1) (z0 : (List Int)) : Option (Ctl ((List Int)) Unit) :=
 (appI 9 z0 [a0.Load]).bind λ y11 => some (.next y11)
def F36 (x0 : Aa) (x1 : Bf) : Option (A0 × Int) :=
 (F85 x0).bind λ y1 => bif (y1 != 0) then none else bif !(F59 x1) then none else (F86 x0.An).bind λ y5 => (mkI 2 (x0.Ag.length : Int) false).bind λ y7 => (F87 [(⟨0, 0, 5000, 0⟩ : Af)] (x0.Ac.length : Int)).bind λ y9 => andThen (foldI Akb x0.Ae 0 ([] : List Int)) (λ _ => none) λ z0 => some ((⟨0, (⟨y7, y9, z0, ([] : List Am)⟩ : Ab), y5, ([] : List Bg)⟩ : A0), 0)
def Dh (x0 : Int) (x1 : Int) (x2 : Int) : Bool :=
 ((decide (x0 >= x1)) && (decide (x0 <= x2)))
def Va (x0 : Int) : Bool :=
 ((decide (x0 >= 0)) && (decide (x0 < 3600)))
def Arh (x0 : C6) : Int :=
 Fq (w64 (x0.To - x0.From))
def Ayt (x0 : C6) : Bool :=
 (((Va x0.From) && (Va x0.To)) && (decide ((Arh x0) < 1800)))
def Ayu (x0 : C6) : Bool :=
 !(Ayt x0)
def Vb (n0 : Nat) (a0 : C6) (z0 : Unit) : Option (Ctl Unit Int) :=
 bif Ayu a0 then some (.ret (cnt 0 n0)) else some (.next ())
def Akm (x0 : List C6) : Option Int :=
 andThen (foldI Vb x0 0 ()) some λ z0 => some (-1)
def Aky (x0 : List C6) : Option Bool :=
 (Akm x0).bind λ y1 => some (decide (y1 >= 0))
def F94 (x0 : B0) : Option Bool :=
 (A2 [(((((((Dh x0.Kind 1 3) && (Dh x0.Station 0 1)) && (Dh x0.Max 0 5000)) && (Dh x0.Rate 0 5000)) && (Dh x0.Cost 1 100)) && (decide ((x0.Hd.length : Int) <= 4))), true)] (Aky x0.Hd) default).bind λ y1 => some (((((((Dh x0.Kind 1 3) && (Dh x0.Station 0 1)) && (Dh x0.Max 0 5000)) && (Dh x0.Rate 0 5000)) && (Dh x0.Cost 1 100)) && (decide ((x0.Hd.length : Int) <= 4))) && (!y1))
def F93 (x0 : B0) : Option Bool :=
 (F94 x0).bind λ y1 => some (!y1)
def Vl (n0 : Nat) (a0 : B0) (z0 : Unit) : Option (Ctl Unit Unit) :=
 (F93 a0).bind λ y1 => bif y1 then none else some (.next ())
def Akz (x0 : List B0) : Option Int :=
 andThen (foldI Vl x0 0 ()) (λ _ => none) λ z0 => some (-1)
def Ara (x0 : List B0) : Option Bool :=
 (Akz x0).bind λ y1 => some (decide (y1 >= 0))
def A7h (x0 : Fp) : Bool := (((decide ((min x0.Bow x0.Stern) < 0)) || (decide ((max x0.Bow x0.Stern) > 200))) || ((x0.Bow == 0) && (x0.Stern == 0)))
def F42 (x0 : Fp) : Option Int :=
 bif decide ((x0.Cy.length : Int) > 8) then none else bif (A7h x0) then none else (Ara x0.Cy).bind λ y3 => bif y3 then none else some 0
def Arc (x0 : A1) (x1 : Int) : Bool :=
 (x0.Thruster == x1)
def Zy (x1c0 : Int) (n0 : Nat) (a0 : A1) (z0 : Unit) : Option (Ctl Unit (Int × Int)) :=
 bif Arc a0 x1c0 then some (.ret (cnt 0 n0, x1c0)) else none
def Ard (x0 : List A1) (x1c0 : Int) : Option (Int × Int) :=
 andThen (foldI (Zy x1c0) x0 0 ()) some λ z0 => some ((-1), x1c0)
def Ak6 (rec46 : Aa -> Ab -> Int -> Option Bool) (x0 : Int) (x1 : Aa) (x2 : Ab) : Option Bool :=
 (rec46 x1 x2 x0).bind λ y1 => some (!y1)
def Vj (x1c0 : Aa) (x1c1 : Ab) (rec46 : Aa -> Ab -> Int -> Option Bool) (n0 : Nat) (a0 : Int) (z0 : Unit) : Option (Ctl Unit (Int × Aa × Ab)) :=
 (Ak6 rec46 a0 x1c0 x1c1).bind λ y1 => bif y1 then some (.ret (cnt 0 n0, x1c0, x1c1)) else some (.next ())
def Akx (rec46 : Aa -> Ab -> Int -> Option Bool) (x0 : List Int) (x1c0 : Aa) (x1c1 : Ab) : Option (Int × Aa × Ab) :=
 andThen (foldI (Vj x1c0 x1c1 rec46) x0 0 ()) some λ z0 => some ((-1), x1c0, x1c1)
def Ak7 (rec46 : Aa -> Ab -> Int -> Option Bool) (x0 : List Int) (x1c0 : Aa) (x1c1 : Ab) : Option (Bool × Aa × Ab) :=
 (Akx rec46 x0 x1c0 x1c1).bind λ y1 => some (decide (y1.1 >= 0), y1.2.1, y1.2.2)
def A7g (y1 : Int × Bool) (y3 : Bool) (y5 : Bool) (y7 : Int) (y9 : A1) : Bool := ((((!y1.2) || (!y3)) || y5) || (decide (y7 < y9.Least)))
def Ayo (rec46 : Aa -> Ab -> Int -> Option Bool) (x0 : Aa) (x1 : Ab) (x2 : Int) : Option Bool :=
 (Ak8 x0 x1 x2).bind λ y1 => (A2 [(!y1.2, false)] (Vs x0 x1 y1.1) default).bind λ y3 => (A2 [(((!y1.2) || (!y3)), false)] (Hf x1 4 x2) default).bind λ y5 => (A2 [((((!y1.2) || (!y3)) || y5), false)] (getI x1.Ar x2) default).bind λ y7 => (A2 [((((!y1.2) || (!y3)) || y5), false)] (getI x0.Ae x2) default).bind λ y9 => bif (A7g y1 y3 y5 y7 y9) then none else (getI x0.Ae x2).bind λ y12 => (Ak7 rec46 y12.Needs x0 x1).bind λ y14 => some (!y14.1)
def Ayn : Nat -> Aa -> Ab -> Int -> Option Bool
 | 0 => λ _ _ _ => none
 | n + 1 => Ayo (Ayn n)
def F46 (x0 : Aa) (x1 : Ab) (x2 : Int) : Option Bool := Ayn 1000 x0 x1 x2
def Arm (x0 : Fk) : Bool :=
 ((decide ((max x0.X x0.Y) <= 5000)) && (decide ((min x0.X x0.Y) >= (-5000))))
def Ayp (x0 : Int) (x1 : Int) : Option Int :=
 (nzI x1).bind λ u2 => (nzI x1).bind λ u4 => bif decide ((Int.tmod x0 x1) < 0) then none else some (w64 (Int.tdiv x0 x1))
def Ayq (x0 : Int) (x1 : Int) : Option Int :=
 (Ayp (w64 (0 - x0)) x1).bind λ y1 => some (w64 (0 - y1))
def Ax6 (x0 : Int) (x1 : Int) : Bool := ((((decide (x0 < (-1000000000000000000))) || (decide (x0 > 1000000000000000000))) || (decide (x1 < 1))) || (decide (x1 > 1000000000)))
def Akl (x0 : Int) (x1 : Int) : Option (Int × Int) :=
 bif (Ax6 x0 x1) then none else (Ayq x0 x1).bind λ y2 => some (y2, 0)
def Ays (x0 : Int) (x1 : Int) : Option (Int × Int) :=
 (Akl x0 x1).bind λ y1 => some (y1.1, y1.2)
def Ayx (x0 : B0) (x1 : Fk) : Option (Int × Int) :=
 (F94 x0).bind λ y1 => bif ((!y1) || (!(Arm x1))) then none else (Ays (w64 ((w64 ((w64 (x1.X * x1.X)) + (w64 (x1.Y * x1.Y)))) * x0.Cost)) 1000).bind λ y4 => some (y4.1, y4.2)
def A5r (x0 : Int) : Bool := ((decide (x0 < 0)) || (decide (x0 > 1000000000000000000)))
def A5q (x0 : Int) (z0 : Int × Int) : Bool := decide ((w64 ((w64 (Int.tdiv (w64 ((w64 (z0.1 + z0.2)) + 1)) 2)) * (w64 (Int.tdiv (w64 ((w64 (z0.1 + z0.2)) + 1)) 2)))) <= x0)
def Abq (x0 : Int) (z0 : Int × Int) : Option (Ctl (Int × Int) Unit) :=
 bif decide (z0.1 < z0.2) then bif (A5q x0 z0) then some (.next (w64 (Int.tdiv (w64 ((w64 (z0.1 + z0.2)) + 1)) 2), z0.2)) else some (.next (z0.1, w64 ((w64 (Int.tdiv (w64 ((w64 (z0.1 + z0.2)) + 1)) 2)) - 1))) else some (.brk (z0.1, z0.2))
def Ayw (x0 : Int) : Option (Int × Int) :=
 bif (A5r x0) then none else andThen (whileN (Abq x0) 1152921504606846976 (0, 1000000000)) (λ _ => none) λ z0 => some (z0.1, 0)
def F47 (x0 : B0) (x1 : Int) : Option Int :=
 (Ayx x0 (⟨x0.Max, 0⟩ : Fk)).bind λ y1 => bif ((y1.2 != 0) || (decide (x1 < 0))) then none else bif decide (x1 >= y1.1) then none else (nzI x0.Cost).bind λ u6 => (Ayw (w64 (Int.tdiv (w64 (1000 * x1)) x0.Cost))).bind λ y7 => some y7.1
def Akw (x1 : Aa) (x2 : Ab) (n0 : Nat) (a0 : B0) (z0 : (List Int)) : Option (Ctl ((List Int)) Unit) :=
 (Ard x1.Ae (cnt 0 n0)).bind λ y9 => (A2 [(decide (y9.1 >= 0), true)] (F46 x1 x2 y9.1) default).bind λ y11 => bif ((decide (y9.1 >= 0)) && y11) then (getI x2.Ar y9.1).bind λ y14 => (F47 a0 y14).bind λ y16 => (getI z0 y9.2).bind λ y18 => (setI z0 y9.2 y16).bind λ y20 => some (.next y20) else none
def F15 (x0 : Fp) (x1 : Aa) (x2 : Ab) : Option ((List Int) × Int) :=
 (F42 x0).bind λ y1 => bif (y1 != 0) then none else (F43 x1 x2).bind λ y4 => bif (y4 != 0) then none else (mkI 9 (x0.Cy.length : Int) 0).bind λ y7 => andThen (foldI (Akw x1 x2) x0.Cy 0 y7) (λ _ => none) λ z0 => some (z0, 0)
def F90 (x0 : Ai) : Bool :=
 decide ((x0.Ac.length : Int) > 0)
def Vm (n0 : Nat) (a0 : Ai) (z0 : Unit) : Option (Ctl Unit Int) :=
 bif F90 a0 then some (.ret (cnt 0 n0)) else some (.next ())
def Ak0 (x0 : List Ai) : Option Int :=
 andThen (foldI Vm x0 0 ()) some λ z0 => some (-1)
def Arb (x0 : List Ai) : Option Bool :=
 (Ak0 x0).bind λ y1 => some (decide (y1 >= 0))
def F39 (x0 : Aa) (x1 : Ab) : Option Bool :=
 (F43 x0 x1).bind λ y1 => (A2 [((y1 == 0), true)] (F89 x0 x1) default).bind λ y3 => (A2 [((y1 == 0), true)] (Arb y3) default).bind λ y5 => some ((y1 == 0) && (!y5))
def F13  : Option Bool :=
 (F36 F35.1 F35.2).bind λ y1 => (F11 F35.1 F35.2 y1.1 [(⟨3, 0, 0⟩ : Ap), (⟨3, 1, 0⟩ : Ap), (⟨1, 0, 0⟩ : Ap), (⟨1, 1, 0⟩ : Ap), (⟨1, 2, 0⟩ : Ap)]).bind λ y3 => (F11 F35.1 F35.2 y3.1 [(⟨8, 1, 1⟩ : Ap)]).bind λ y5 => (F15 (⟨0, 1, [(⟨2, 0, 1000, 0, 1, ([] : List C6)⟩ : B0)]⟩ : Fp) F35.1 y5.1.Power).bind λ y7 => (A2 [(((((((y1.2 == 0) && (y3.2.2 == 0)) && (y5.2.2 == 0)) && (y7.2 == 0)) && (y5.1.Time == 2)) && ((y5.2.1.length : Int) == 3)), true)] (F37 y5.1.Power.Ah [true, false, true]) default).bind λ y9 => (A2 [((((((((y1.2 == 0) && (y3.2.2 == 0)) && (y5.2.2 == 0)) && (y7.2 == 0)) && (y5.1.Time == 2)) && ((y5.2.1.length : Int) == 3)) && y9), true)] (F38 y5.1.Power.Ar [50]) default).bind λ y11 => (A2 [(((((((((y1.2 == 0) && (y3.2.2 == 0)) && (y5.2.2 == 0)) && (y7.2 == 0)) && (y5.1.Time == 2)) && ((y5.2.1.length : Int) == 3)) && y9) && y11), true)] (F38 y7.1 [223]) default).bind λ y13 => (A2 [((((((((((y1.2 == 0) && (y3.2.2 == 0)) && (y5.2.2 == 0)) && (y7.2 == 0)) && (y5.1.Time == 2)) && ((y5.2.1.length : Int) == 3)) && y9) && y11) && y13), true)] (F39 F35.1 y5.1.Power) default).bind λ y15 => some ((((((((((y1.2 == 0) && (y3.2.2 == 0)) && (y5.2.2 == 0)) && (y7.2 == 0)) && (y5.1.Time == 2)) && ((y5.2.1.length : Int) == 3)) && y9) && y11) && y13) && (!y15))
def A5j (z0 : Sg8) (y9 : A0 × (List Ab) × Int) : Bool := ((y9.2.2 != 0) || (decide ((y9.1.A7.length : Int) <= (z0.2.2.2.2.2.2.2.length : Int))))
def Afi (y3 : Ai3) (n0 : Nat) (a0 : Ap) (z0 : Sg8) : Option (Ctl (Sg8) Bool) :=
 (F22 y3.1 (⟨z0.2.1, (⟨z0.2.2.1, z0.2.2.2.1, z0.2.2.2.2.1, z0.2.2.2.2.2.1⟩ : Ab), z0.2.2.2.2.2.2.1, z0.2.2.2.2.2.2.2⟩ : A0) a0).bind λ y9 => bif (A5j z0 y9) then some (.ret false) else some (.next (w64 (z0.1 + (w64 ((y9.1.A7.length : Int) - (z0.2.2.2.2.2.2.2.length : Int)))), y9.1.Time, y9.1.Power.Ah, y9.1.Power.Ac, y9.1.Power.Ar, y9.1.Power.Ao, y9.1.A5, y9.1.A7))
def F6 (x0 : List Int) : Option Bool :=
 (F8 x0).bind λ y1 => (F9 y1).bind λ y3 => (yM y3.2.2.2 y3.1 5).bind λ y5 => (F11 y3.1 (⟨y3.2.1.Start, y3.2.1.Stop, 600⟩ : Bf) y3.2.2.1 y5.1).bind λ y7 => andThen (foldI (Afi y3) y5.1 0 (0, y3.2.2.1.Time, y3.2.2.1.Power.Ah, y3.2.2.1.Power.Ac, y3.2.2.1.Power.Ar, y3.2.2.1.Power.Ao, y3.2.2.1.A5, y3.2.2.1.A7)) some λ z0 => (F23 y3.1 (⟨z0.2.2.1, z0.2.2.2.1, z0.2.2.2.2.1, z0.2.2.2.2.2.1⟩ : Ab) y3.2.2.1.Time (⟨7, 0, 0⟩ : Ap)).bind λ y12 => (A2 [(((y7.2.2 == 0) && (y12.2 == 0)), true)] (F19 y7.1.Power y12.1) default).bind λ y14 => (A2 [((((((y7.2.2 == 0) && (y12.2 == 0)) && y14) && ((y7.2.1.length : Int) == z0.1)) && (y7.1.Time == (w64 (y3.2.2.1.Time + 1)))), true)] (F13) default).bind λ y16 => some ((((((y7.2.2 == 0) && (y12.2 == 0)) && y14) && ((y7.2.1.length : Int) == z0.1)) && (y7.1.Time == (w64 (y3.2.2.1.Time + 1)))) && y16)
end Go.Proofs.YthgnbpdjncbkfaaGreat
