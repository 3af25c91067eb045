import Derived.Test.YthgnbpdjncbkfaaGreatTy
set_option linter.unusedVariables false
namespace Go.Proofs.YthgnbpdjncbkfaaGreat
open Go.SL
abbrev Sg0 := (List Bool) × (List Ah) × (List Int) × (List Al) × (List A3) × (List Bl) × Int
abbrev Sg1 := Int × (List Bool) × (List Ah) × (List Int) × (List Al) × (List A3) × (List Bl)
abbrev Sg2 := Int × (List Int) × Int × (List Aj)
abbrev Sg3 := Int × (List Int) × Int × (List Aj) × (List A1)
abbrev Sg4 := Int × (List Int) × Int × (List Aj) × (List Bf)
abbrev Sg5 := Int × (List Int) × Int × (List A3)
abbrev Sg6 := Int × (List Int) × Int × (List Ah)
abbrev Sg7 := Int × (List Aj) × (List Bf) × (List A1) × Int × Int × (List Bool) × (List Ah) × (List Int) × (List Al) × (List An)
abbrev Sg8 := Int × (List Aj) × (List Bf) × (List A1) × Int × Int × (List Int) × (List Bool) × (List Ah) × (List Int) × (List Al) × (List An)
abbrev Sg9 := Int × Int × (List Int) × Int × (List Aj) × (List Bf) × (List A1) × Int × Int
abbrev yW := Int × Int × (List Aj) × (List Bf) × (List A1) × Int × Int × (List Bool) × (List Ah) × (List Int) × (List Al) × (List A3) × (List Bl) × (List Bool) × (List Bl) × (List Ab) × (List Int)
abbrev K_ := Int × Int × (List Aj) × (List Bf) × (List A1) × Int × Int × (List Bool) × (List Ah) × (List Int) × (List Al) × (List A3) × (List Bl) × (List Bl) × (List Ab)
abbrev yV := Int × Int × (List Aj) × (List Bf) × (List A1) × Int × Int × (List A3) × (List Bool) × (List Ah) × (List Int) × (List Al) × (List A3) × (List Bl) × (List Bl) × (List Ab)
abbrev K9 := Aa × Bk × A0 × Ai
def F8 (x0 : List Int) : Option Ai :=
 (cutI x0 0 (min (x0.length : Int) 600)).bind λ y2 => some (⟨y2, 0⟩ : Ai)
def F80 (x0 : Int) (x1 : Int) : Option Int :=
 bif decide (x1 < 1) then some 0 else (nzI x1).bind λ u3 => (nzI x1).bind λ u5 => some (Int.tmod (w64 ((Int.tmod x0 x1) + x1)) x1)
def F32 (x0 : Ai) (x1 : Int) : Option (Int × Ai) :=
 bif decide (x0.At >= (x0.L.length : Int)) then some (0, x0) else (getI x0.L (w64 ((w64 (x0.At + 1)) - 1))).bind λ y2 => (F80 y2 x1).bind λ y4 => some (y4, (⟨x0.L, w64 (x0.At + 1)⟩ : Ai))
def F78 (x0 : Ai) (x1 : Int) (x2 : Int) : Option (Int × Ai) :=
 (F32 x0 (w64 ((w64 (x2 - x1)) + 1))).bind λ y1 => some (w64 (x1 + y1.1), y1.2)
def F40 (x0 : Ai) (x1 : List Int) : Option (Int × Ai) :=
 (F32 x0 (x1.length : Int)).bind λ y1 => (getI x1 y1.1).bind λ y3 => some (y3, y1.2)
def qX (y1 : Int × Ai) (z0 : Sg2) : Option (Ctl (Sg2) Unit) :=
 bif decide (z0.1 < y1.1) then (F32 (⟨z0.2.1, z0.2.2.1⟩ : Ai) 6).bind λ y8 => bif decide (y8.1 < 5) then (F32 y8.2 z0.1).bind λ y11 => (appI 25 z0.2.2.2 [(⟨1, y11.1, z0.1⟩ : Aj)]).bind λ y13 => some (.next (w64 (z0.1 + 1), y11.2.L, y11.2.At, y13)) else some (.next (w64 (z0.1 + 1), y8.2.L, y8.2.At, z0.2.2.2)) else some (.brk (z0.1, z0.2.1, z0.2.2.1, z0.2.2.2))
def Akm (y1 : Int × Ai) (z0 : Sg2) (y15 : Int × Ai) : Option (Ctl ((List Aj)) Unit) :=
 bif ((decide (y1.1 > 2)) && (y15.1 == 1)) then (appI 25 z0.2.2.2 [(⟨1, 0, w64 (y1.1 - 1)⟩ : Aj)]).bind λ y18 => some (.next y18) else some (.next z0.2.2.2)
def qW (y1 : Int × Ai) (z2 : Sg4) : Option (Ctl (Sg4) Unit) :=
 bif decide (z2.1 > 0) then (F32 (⟨z2.2.1, z2.2.2.1⟩ : Ai) y1.1).bind λ y23 => (appI 25 z2.2.2.2.1 [(⟨2, y23.1, (z2.2.2.2.2.length : Int)⟩ : Aj)]).bind λ y25 => (F40 y23.2 [10, 50, 100]).bind λ y27 => (F40 y27.2 [0, 5, y27.1]).bind λ y29 => (F40 y29.2 [0, 1, 3]).bind λ y31 => (appI 25 z2.2.2.2.2 [(⟨y27.1, y29.1, y31.1⟩ : Bf)]).bind λ y33 => some (.next (w64 (z2.1 - 1), y31.2.L, y31.2.At, y25, y33)) else some (.brk (z2.1, z2.2.1, z2.2.2.1, z2.2.2.2.1, z2.2.2.2.2))
def Akl (y1 : Int × Ai) (z3 : Sg3) (y38 : Int × Ai) (y40 : List Aj) (y42 : Int × Ai) : Option (Ctl ((List Aj)) Unit) :=
 bif ((decide (y1.1 > 1)) && (y42.1 == 3)) then (nzI y1.1).bind λ u46 => (appI 25 y40 [(⟨3, Int.tmod (w64 (y38.1 + 1)) y1.1, (z3.2.2.2.2.length : Int)⟩ : Aj)]).bind λ y47 => some (.next y47) else some (.next y40)
def A2t (z3 : Sg3) (y57 : Int × Ai) : Bool := ((decide ((z3.2.2.2.2.length : Int) > 0)) && (y57.1 == 3))
def qV (y1 : Int × Ai) (z3 : Sg3) : Option (Ctl (Sg3) Unit) :=
 bif decide (z3.1 > 0) then (F32 (⟨z3.2.1, z3.2.2.1⟩ : Ai) y1.1).bind λ y38 => (appI 25 z3.2.2.2.1 [(⟨3, y38.1, (z3.2.2.2.2.length : Int)⟩ : Aj)]).bind λ y40 => (Az [(decide (y1.1 > 1), true)] (F32 y38.2 4) (default, y38.2)).bind λ y42 => andThen (Akl y1 z3 y38 y40 y42) (λ _ => none) λ z4 => (F40 y42.2 [0, 5, 20, 40]).bind λ y49 => (F40 y49.2 [0, w64 (Int.tdiv y49.1 2), y49.1]).bind λ y51 => (F32 y51.2 3).bind λ y53 => (F78 y53.2 (-1) 2).bind λ y55 => (Az [(decide ((z3.2.2.2.2.length : Int) > 0), true)] (F32 y55.2 4) (default, y55.2)).bind λ y57 => bif (A2t z3 y57) then (F32 y57.2 (z3.2.2.2.2.length : Int)).bind λ y60 => (appI 57 z3.2.2.2.2 [(⟨y49.1, y51.1, y53.1, y55.1, [y60.1]⟩ : A1)]).bind λ y62 => some (.next (w64 (z3.1 - 1), y60.2.L, y60.2.At, z4, y62)) else (appI 57 z3.2.2.2.2 [(⟨y49.1, y51.1, y53.1, y55.1, ([] : List Int)⟩ : A1)]).bind λ y64 => some (.next (w64 (z3.1 - 1), y57.2.L, y57.2.At, z4, y64)) else some (.brk (z3.1, z3.2.1, z3.2.2.1, z3.2.2.2.1, z3.2.2.2.2))
def F29 (x0 : Ai) : Option (Aa × Ai) :=
 (F78 x0 1 4).bind λ y1 => (F40 y1.2 [0, 50, 200, 1800]).bind λ y3 => (F40 y3.2 [0, 10, 50]).bind λ y5 => andThen (whileN (qX y1) 1152921504606846976 (1, y5.2.L, y5.2.At, ([] : List Aj))) (λ _ => none) λ z0 => (Az [(decide (y1.1 > 2), true)] (F32 (⟨z0.2.1, z0.2.2.1⟩ : Ai) 2) (default, (⟨z0.2.1, z0.2.2.1⟩ : Ai))).bind λ y15 => andThen (Akm y1 z0 y15) (λ _ => none) λ z1 => (F32 y15.2 5).bind λ y20 => andThen (whileN (qW y1) 1152921504606846976 (y20.1, y20.2.L, y20.2.At, z1, ([] : List Bf))) (λ _ => none) λ z2 => (F32 (⟨z2.2.1, z2.2.2.1⟩ : Ai) 6).bind λ y35 => andThen (whileN (qV y1) 1152921504606846976 (y35.1, y35.2.L, y35.2.At, z2.2.2.2.1, ([] : List A1))) (λ _ => none) λ z3 => some ((⟨y1.1, z3.2.2.2.1, z2.2.2.2.2, z3.2.2.2.2, y3.1, y5.1⟩ : Aa), (⟨z3.2.1, z3.2.2.1⟩ : Ai))
def F30 (x0 : Ai) : Option (Bk × Ai) :=
 (F40 x0 [60, 80, 100]).bind λ y1 => (F40 y1.2 [1, 30, 50]).bind λ y3 => (F40 y3.2 [0, 1, 3]).bind λ y5 => some ((⟨y1.1, y3.1, y5.1⟩ : Bk), y5.2)
def B7 (x0 : Int) (x1 : Int) (x2 : Int) : Bool :=
 ((decide (x0 >= x1)) && (decide (x0 <= x2)))
def F71 (x0 : Aa) (x1 : Al) : Bool :=
 bif (x1.Kind == 1) then B7 x1.Number 0 (w64 ((x0.Ac.length : Int) - 1)) else bif (x1.Kind == 2) then B7 x1.Number 0 (w64 ((x0.Ae.length : Int) - 1)) else bif (x1.Kind == 3) then B7 x1.Number 0 (w64 (x0.Aq - 1)) else bif (x1.Kind == 4) then B7 x1.Number 0 (w64 ((x0.Ad.length : Int) - 1)) else false
def Aih (x1 : Aa) (z0 : Int × (List Int) × Int × (List Bool)) : Bool := decide (z0.1 < (x1.Ae.length : Int))
def N4 (x1 : Aa) (z0 : Int × (List Int) × Int × (List Bool)) : Option (Ctl (Int × (List Int) × Int × (List Bool)) Unit) :=
 bif (Aih x1 z0) then (F32 (⟨z0.2.1, z0.2.2.1⟩ : Ai) 2).bind λ y2 => (appI 2 z0.2.2.2 [(y2.1 == 1)]).bind λ y4 => some (.next (w64 (z0.1 + 1), y2.2.L, y2.2.At, y4)) else some (.brk (z0.1, z0.2.1, z0.2.2.1, z0.2.2.2))
def Aig (x1 : Aa) (z1 : Int × (List Bool)) : Bool := decide (z1.1 < (x1.Ad.length : Int))
def Ace (z1 : Int × (List Bool)) (a2 : Aj) (y7 : Bool) : Bool := (((a2.Kind == 3) && (a2.B == z1.1)) && y7)
def N2 (z1 : Int × (List Bool)) (n2 : Nat) (a2 : Aj) (z2 : Bool × (List Bool)) : Option (Ctl (Bool × (List Bool)) Unit) :=
 (Az [(((a2.Kind == 3) && (a2.B == z1.1)), true)] (getI z2.2 (cnt 0 n2)) default).bind λ y7 => bif (Ace z1 a2 y7) then (getI z2.2 (cnt 0 n2)).bind λ y10 => (setI z2.2 (cnt 0 n2) z2.1).bind λ y12 => some (.next (false, y12)) else some (.next (z2.1, z2.2))
def N3 (x1 : Aa) (z1 : Int × (List Bool)) : Option (Ctl (Int × (List Bool)) Unit) :=
 bif (Aig x1 z1) then andThen (foldI (N2 z1) x1.Ae 0 (true, z1.2)) (λ _ => none) λ z2 => some (.next (w64 (z1.1 + 1), z2.2)) else some (.brk (z1.1, z1.2))
def Acd (x1 : Aa) (z3 : Sg6) : Bool := decide (z3.1 < (x1.Ac.length : Int))
def N1 (x1 : Aa) (z3 : Sg6) : Option (Ctl (Sg6) Unit) :=
 bif (Acd x1 z3) then (F40 (⟨z3.2.1, z3.2.2.1⟩ : Ai) [0, 1, 2, 2, 2, 3]).bind λ y15 => (F32 y15.2 5).bind λ y17 => (F40 y17.2 [5000, 5000, 5005, 4950]).bind λ y19 => (F40 y19.2 [0, 0, 40, 1800, 3590]).bind λ y21 => (appI 33 z3.2.2.2 [(⟨y15.1, y17.1, y19.1, y21.1⟩ : Ah)]).bind λ y23 => some (.next (w64 (z3.1 + 1), y21.2.L, y21.2.At, y23)) else some (.brk (z3.1, z3.2.1, z3.2.2.1, z3.2.2.2))
def N0 (n4 : Nat) (a4 : A1) (z4 : (List Int) × Int × (List Int)) : Option (Ctl ((List Int) × Int × (List Int)) Unit) :=
 (F40 (⟨z4.1, z4.2.1⟩ : Ai) [a4.Load, a4.Load, a4.Least, w64 (Int.tdiv a4.Load 3)]).bind λ y25 => (appI 9 z4.2.2 [y25.1]).bind λ y27 => some (.next (y25.2.L, y25.2.At, y27))
def Nz (x1 : Aa) (z5 : Int × (List Int) × Int × (List Al)) : Option (Ctl (Int × (List Int) × Int × (List Al)) Unit) :=
 bif decide (z5.1 <= 4) then (F32 (⟨z5.2.1, z5.2.2.1⟩ : Ai) 5).bind λ y30 => bif (y30.1 == 4) then (F32 y30.2 4).bind λ y33 => bif F71 x1 (⟨z5.1, y33.1⟩ : Al) then (appI 17 z5.2.2.2 [(⟨z5.1, y33.1⟩ : Al)]).bind λ y36 => some (.next (w64 (z5.1 + 1), y33.2.L, y33.2.At, y36)) else some (.next (w64 (z5.1 + 1), y33.2.L, y33.2.At, z5.2.2.2)) else some (.next (w64 (z5.1 + 1), y30.2.L, y30.2.At, z5.2.2.2)) else some (.brk (z5.1, z5.2.1, z5.2.2.1, z5.2.2.2))
def U3 (x0 : Ai) (x1 : Aa) : Option (Ab × Ai) :=
 andThen (whileN (N4 x1) 1152921504606846976 (0, x0.L, x0.At, ([] : List Bool))) (λ _ => none) λ z0 => andThen (whileN (N3 x1) 1152921504606846976 (0, z0.2.2.2)) (λ _ => none) λ z1 => andThen (whileN (N1 x1) 1152921504606846976 (0, z0.2.1, z0.2.2.1, ([] : List Ah))) (λ _ => none) λ z3 => andThen (foldI N0 x1.Ad 0 (z3.2.1, z3.2.2.1, ([] : List Int))) (λ _ => none) λ z4 => andThen (whileN (Nz x1) 7 (1, z4.1, z4.2.1, ([] : List Al))) (λ _ => none) λ z5 => some ((⟨z1.2, z3.2.2.2, z4.2.2, z5.2.2.2⟩ : Ab), (⟨z5.2.1, z5.2.2.1⟩ : Ai))
def Li (x1 : Int) (x2 : Int) (a0 : Aj) : Bool := ((a0.Kind == x1) && ((a0.B == x2) || ((x1 == 1) && (a0.A == x2))))
def Aj3 (x1 : Int) (x2 : Int) (n0 : Nat) (a0 : Aj) (z0 : (List Int)) : Option (Ctl ((List Int)) Unit) :=
 bif (Li x1 x2 a0) then (appI 9 z0 [cnt 0 n0]).bind λ y2 => some (.next y2) else some (.next z0)
def F77 (x0 : Aa) (x1 : Int) (x2 : Int) : Option ((List Int)) :=
 andThen (foldI (Aj3 x1 x2) x0.Ae 0 ([] : List Int)) (λ _ => none) λ z0 => some z0
def Aw2 (x0 : Aa) (a0 : Aj) : Bool := !(B7 a0.B (w64 (a0.A + 1)) (w64 (x0.Aq - 1)))
def Aw1 (x0 : Aa) (a0 : Aj) : Bool := !(B7 a0.B 0 (w64 ((x0.Ac.length : Int) - 1)))
def Aw0 (x0 : Aa) (a0 : Aj) : Bool := !(B7 a0.B 0 (w64 ((x0.Ad.length : Int) - 1)))
def Aic (a0 : Aj) (a1 : Aj) : Bool := ((a1.Kind == a0.Kind) && ((a1.A == a0.A) && ((a1.B == a0.B) && true)))
def Wj (a0 : Aj) (n1 : Nat) (a1 : Aj) (z1 : Unit) : Option (Ctl Unit Bool) :=
 bif (Aic a0 a1) then some (.ret false) else some (.next ())
def zP (x0 : Aa) (n0 : Nat) (a0 : Aj) (z0 : Unit) : Option (Ctl Unit Bool) :=
 bif !(B7 a0.A 0 (w64 (x0.Aq - 1))) then some (.ret false) else bif (a0.Kind == 1) then bif (Aw2 x0 a0) then some (.ret false) else some (.next ()) else bif (a0.Kind == 2) then bif (Aw1 x0 a0) then some (.ret false) else some (.next ()) else bif (a0.Kind == 3) then bif (Aw0 x0 a0) then some (.ret false) else (cutI x0.Ae 0 (cnt 0 n0)).bind λ y9 => andThen (foldI (Wj a0) y9 0 ()) (λ v => some (.ret v)) λ z1 => some (.next ()) else some (.ret false)
def Aof (x0 : Aa) (z2 : Int) : Bool := decide (z2 < (x0.Ac.length : Int))
def zO (x0 : Aa) (z2 : Int) : Option (Ctl Int Bool) :=
 bif (Aof x0 z2) then (F77 x0 2 z2).bind λ y12 => bif ((y12.length : Int) != 1) then some (.ret false) else some (.next (w64 (z2 + 1))) else some (.brk z2)
def Aoe (x0 : Aa) (z3 : Int) : Bool := decide (z3 < (x0.Ad.length : Int))
def zN (x0 : Aa) (z3 : Int) : Option (Ctl Int Bool) :=
 bif (Aoe x0 z3) then (F77 x0 3 z3).bind λ y16 => bif decide ((y16.length : Int) < 1) then some (.ret false) else some (.next (w64 (z3 + 1))) else some (.brk z3)
def Ald (x0 : Aa) : Option Bool :=
 andThen (foldI (zP x0) x0.Ae 0 ()) some λ z0 => andThen (whileN (zO x0) 1152921504606846976 0) some λ z2 => andThen (whileN (zN x0) 1152921504606846976 0) some λ z3 => some true
def Awz (a0 : Bf) : Bool := (((!(B7 a0.Rating 1 50000)) || (!(B7 a0.Least 0 a0.Rating))) || (!(B7 a0.Start 0 600)))
def zM (n0 : Nat) (a0 : Bf) (z0 : Unit) : Option (Ctl Unit Bool) :=
 bif (Awz a0) then some (.ret false) else some (.next ())
def Alc (x0 : Aa) : Option Bool :=
 andThen (foldI zM x0.Ac 0 ()) some λ z0 => some true
def Awy (a0 : A1) : Bool := (((((!(B7 a0.Load 0 50000)) || (!(B7 a0.Least 0 a0.Load))) || (!(B7 a0.Bn 0 15))) || (!(B7 a0.Thruster (-1) 7))) || (decide ((a0.Needs.length : Int) > 4)))
def Awx (n0 : Nat) (n1 : Nat) (a1 : Int) (y2 : Int) : Bool := ((!(B7 a1 0 (w64 ((cnt 0 n0) - 1)))) || ((decide ((cnt 0 n1) > 0)) && (decide (y2 >= a1))))
def zK (n0 : Nat) (a0 : A1) (n1 : Nat) (a1 : Int) (z1 : Unit) : Option (Ctl Unit Bool) :=
 (Az [(!(B7 a1 0 (w64 ((cnt 0 n0) - 1))), false), (decide ((cnt 0 n1) > 0), true)] (getI a0.Needs (w64 ((cnt 0 n1) - 1))) default).bind λ y2 => bif (Awx n0 n1 a1 y2) then some (.ret false) else some (.next ())
def zL (n0 : Nat) (a0 : A1) (z0 : Unit) : Option (Ctl Unit Bool) :=
 bif (Awy a0) then some (.ret false) else andThen (foldI (zK n0 a0) a0.Needs 0 ()) (λ v => some (.ret v)) λ z1 => some (.next ())
def Alb (x0 : Aa) : Option Bool :=
 andThen (foldI zL x0.Ad 0 ()) some λ z0 => some true
def Aij (x0 : Aa) : Bool := (((((decide (x0.Aq < 1)) || (decide (x0.Aq > 6))) || (decide ((x0.Ae.length : Int) > 24))) || (decide ((x0.Ac.length : Int) > 8))) || (decide ((x0.Ad.length : Int) > 16)))
def Aii (x0 : Aa) (y2 : Bool) (y4 : Bool) (y6 : Bool) : Bool := (((((((!y2) || (!y4)) || (!y6)) || (decide (x0.Phase < 0))) || (decide (x0.Phase > 1800))) || (decide (x0.Ar < 0))) || (decide (x0.Ar > 6000)))
def Aaj (x0 : Aa) : Option Int :=
 bif (Aij x0) then some 2 else (Ald x0).bind λ y2 => (Az [(!y2, false)] (Alc x0) default).bind λ y4 => (Az [(((!y2) || (!y4)), false)] (Alb x0) default).bind λ y6 => bif (Aii x0 y2 y4 y6) then some 14 else some 0
def Aai (x0 : Al) (x1 : Al) : Bool :=
 ((decide (x0.Kind < x1.Kind)) || ((x0.Kind == x1.Kind) && (decide (x0.Number < x1.Number))))
def A2q (x0 : Aa) (x1 : Ab) : Bool := ((((x1.Ag.length : Int) != (x0.Ae.length : Int)) || ((x1.Ac.length : Int) != (x0.Ac.length : Int))) || ((x1.Ak.length : Int) != (x0.Ad.length : Int)))
def A2p (a0 : Ah) : Bool := ((((!(B7 a0.State 0 3)) || (!(B7 a0.Since 0 2147483648))) || (!(B7 a0.Ar 0 6000))) || (!(B7 a0.Phase 0 3599)))
def Akg (n0 : Nat) (a0 : Ah) (z0 : Unit) : Option (Ctl Unit Int) :=
 bif (A2p a0) then some (.ret 11) else some (.next ())
def Akf (x0 : Aa) (n1 : Nat) (a1 : Int) (z1 : Unit) : Option (Ctl Unit Int) :=
 (getI x0.Ad (cnt 0 n1)).bind λ y6 => bif !(B7 a1 0 y6.Load) then some (.ret 11) else some (.next ())
def A2o (x0 : Aa) (n2 : Nat) (a2 : Al) (y10 : Al) : Bool := ((!(F71 x0 a2)) || ((decide ((cnt 0 n2) > 0)) && (!(Aai y10 a2))))
def Ake (x0 : Aa) (x1 : Ab) (n2 : Nat) (a2 : Al) (z2 : Unit) : Option (Ctl Unit Int) :=
 (Az [(!(F71 x0 a2), false), (decide ((cnt 0 n2) > 0), true)] (getI x1.Ao (w64 ((cnt 0 n2) - 1))) default).bind λ y10 => bif (A2o x0 n2 a2 y10) then some (.ret 11) else some (.next ())
def A2n (x0 : Aa) (z3 : Int) : Bool := decide (z3 < (x0.Ad.length : Int))
def Akc (x1 : Ab) (n4 : Nat) (a4 : Int) (z4 : Int) : Option (Ctl Int Unit) :=
 (getI x1.Ag a4).bind λ y16 => bif y16 then some (.next (w64 (z4 + 1))) else some (.next z4)
def Akd (x0 : Aa) (x1 : Ab) (z3 : Int) : Option (Ctl Int Int) :=
 bif (A2n x0 z3) then (F77 x0 3 z3).bind λ y14 => andThen (foldI (Akc x1) y14 0 0) (λ _ => none) λ z4 => bif decide (z4 > 1) then some (.ret 11) else some (.next (w64 (z3 + 1))) else some (.brk z3)
def F53 (x0 : Aa) (x1 : Ab) : Option Int :=
 (Aaj x0).bind λ y1 => bif (y1 != 0) then some y1 else bif (A2q x0 x1) then some 8 else andThen (foldI Akg x1.Ac 0 ()) some λ z0 => andThen (foldI (Akf x0) x1.Ak 0 ()) some λ z1 => bif decide ((x1.Ao.length : Int) > 32) then some 11 else andThen (foldI (Ake x0 x1) x1.Ao 0 ()) some λ z2 => andThen (whileN (Akd x0 x1) 1152921504606846976 0) some λ z3 => some 0
def F65 (x0 : Ab) : Option Ab :=
 (appI 2 ([] : List Bool) x0.Ag).bind λ y1 => (appI 33 ([] : List Ah) x0.Ac).bind λ y3 => (appI 9 ([] : List Int) x0.Ak).bind λ y5 => (appI 17 ([] : List Al) x0.Ao).bind λ y7 => some (⟨y1, y3, y5, y7⟩ : Ab)
def Tu (a1 : Aj) (y7 : Bool) (y9 : Bool) (y11 : Bool) : Bool := (((a1.Kind == 1) && y7) && (y9 || y11))
def Aag (x1 : Ab) (n1 : Nat) (a1 : Aj) (z1 : (List Bool)) : Option (Ctl ((List Bool)) Unit) :=
 (Az [((a1.Kind == 1), true)] (getI x1.Ag (cnt 0 n1)) default).bind λ y7 => (Az [(((a1.Kind == 1) && y7), true)] (getI z1 a1.A) default).bind λ y9 => (Az [(((a1.Kind == 1) && y7), true), (y9, false)] (getI z1 a1.B) default).bind λ y11 => bif (Tu a1 y7 y9 y11) then (getI z1 a1.A).bind λ y14 => (setI z1 a1.A true).bind λ y16 => (getI y16 a1.B).bind λ y18 => (setI y16 a1.B true).bind λ y20 => some (.next y20) else some (.next z1)
def Aah (x0 : Aa) (x1 : Ab) (n0 : Nat) (a0 : Bool) (z0 : (List Bool)) : Option (Ctl ((List Bool)) Unit) :=
 andThen (foldI (Aag x1) x0.Ae 0 z0) (λ _ => none) λ z1 => some (.next z1)
def Aaf (n2 : Nat) (a2 : Bool) (z2 : (List Int)) : Option (Ctl ((List Int)) Unit) :=
 bif a2 then (appI 9 z2 [cnt 0 n2]).bind λ y23 => some (.next y23) else some (.next z2)
def Alt (x0 : Aa) (x1 : Ab) (x2 : Int) : Option ((List Int)) :=
 (mkI 2 x0.Aq false).bind λ y1 => (getI y1 x2).bind λ y3 => (setI y1 x2 true).bind λ y5 => andThen (foldI (Aah x0 x1) y5 0 y5) (λ _ => none) λ z0 => andThen (foldI Aaf z0 0 ([] : List Int)) (λ _ => none) λ z2 => some z2
def Aed (x0 : Aa) (x2 : Int) (y1 : Int) (y3 : Ah) : Bool := ((((y1 != 0) || (decide (x2 < 0))) || (decide (x2 >= (x0.Ac.length : Int)))) || (y3.State != 2))
def F27 (x0 : Aa) (x1 : Ab) (x2 : Int) : Option (Int × Bool) :=
 (F53 x0 x1).bind λ y1 => (Az [((((y1 != 0) || (decide (x2 < 0))) || (decide (x2 >= (x0.Ac.length : Int)))), false)] (getI x1.Ac x2) default).bind λ y3 => bif (Aed x0 x2 y1 y3) then some (0, false) else (F77 x0 2 x2).bind λ y6 => (getI y6 0).bind λ y8 => (getI x1.Ag y8).bind λ y10 => bif !y10 then some (0, false) else (getI x0.Ae y8).bind λ y13 => some (y13.A, true)
def qQ (x1 : Int) (n0 : Nat) (a0 : Int) (z0 : Unit) : Option (Ctl Unit Bool) :=
 bif (a0 == x1) then some (.ret true) else some (.next ())
def F55 (x0 : List Int) (x1 : Int) : Option Bool :=
 andThen (foldI (qQ x1) x0 0 ()) some λ z0 => some false
def A2s (x0 : Aa) (x2 : Int) (y1 : Int) : Bool := (((y1 != 0) || (decide (x2 < 0))) || (decide (x2 >= (x0.Ad.length : Int))))
def qS (x0 : Aa) (x1 : Ab) (n0 : Nat) (a0 : Int) (z0 : Unit) : Option (Ctl Unit (Int × Bool)) :=
 (getI x1.Ag a0).bind λ y6 => bif y6 then (getI x0.Ae a0).bind λ y9 => some (.ret (y9.A, true)) else some (.next ())
def F48 (x0 : Aa) (x1 : Ab) (x2 : Int) : Option (Int × Bool) :=
 (F53 x0 x1).bind λ y1 => bif (A2s x0 x2 y1) then some (0, false) else (F77 x0 3 x2).bind λ y4 => andThen (foldI (qS x0 x1) y4 0 ()) some λ z0 => some (0, false)
def A2m (x0 : Aa) (x2 : Int) (y1 : Int) : Bool := (((y1 != 0) || (decide (x2 < 0))) || (decide (x2 >= x0.Aq)))
def A2l (x0 : Aa) (z0 : Int × (List Int)) : Bool := decide (z0.1 < (x0.Ac.length : Int))
def Akb (x0 : Aa) (x1 : Ab) (y4 : (List Int)) (z0 : Int × (List Int)) : Option (Ctl (Int × (List Int)) Unit) :=
 bif (A2l x0 z0) then (F27 x0 x1 z0.1).bind λ y7 => (Az [(y7.2, true)] (F55 y4 y7.1) default).bind λ y9 => bif (y7.2 && y9) then (appI 9 z0.2 [z0.1]).bind λ y12 => some (.next (w64 (z0.1 + 1), y12)) else some (.next (w64 (z0.1 + 1), z0.2)) else some (.brk (z0.1, z0.2))
def A2k (x0 : Aa) (z1 : Int × (List Int)) : Bool := decide (z1.1 < (x0.Ad.length : Int))
def Aka (x0 : Aa) (x1 : Ab) (y4 : (List Int)) (z1 : Int × (List Int)) : Option (Ctl (Int × (List Int)) Unit) :=
 bif (A2k x0 z1) then (F48 x0 x1 z1.1).bind λ y15 => (Az [(y15.2, true)] (F55 y4 y15.1) default).bind λ y17 => bif (y15.2 && y17) then (appI 9 z1.2 [z1.1]).bind λ y20 => some (.next (w64 (z1.1 + 1), y20)) else some (.next (w64 (z1.1 + 1), z1.2)) else some (.brk (z1.1, z1.2))
def F54 (x0 : Aa) (x1 : Ab) (x2 : Int) : Option (Af × Bool) :=
 (F53 x0 x1).bind λ y1 => bif (A2m x0 x2 y1) then some ((⟨([] : List Int), ([] : List Int), ([] : List Int)⟩ : Af), false) else (Alt x0 x1 x2).bind λ y4 => andThen (whileN (Akb x0 x1 y4) 1152921504606846976 (0, ([] : List Int))) (λ _ => none) λ z0 => andThen (whileN (Aka x0 x1 y4) 1152921504606846976 (0, ([] : List Int))) (λ _ => none) λ z1 => some ((⟨y4, z0.2, z1.2⟩ : Af), true)
def Ako (x0 : Aa) (x1 : Ab) (z0 : Int × (List Af)) : Option (Ctl (Int × (List Af)) Unit) :=
 bif decide (z0.1 < x0.Aq) then (F54 x0 x1 z0.1).bind λ y5 => (getI y5.1.Aq 0).bind λ y7 => bif (y7 == z0.1) then (appI 73 z0.2 [y5.1]).bind λ y10 => some (.next (w64 (z0.1 + 1), y10)) else some (.next (w64 (z0.1 + 1), z0.2)) else some (.brk (z0.1, z0.2))
def F25 (x0 : Aa) (x1 : Ab) : Option ((List Af)) :=
 (F53 x0 x1).bind λ y1 => bif (y1 != 0) then some ([] : List Af) else andThen (whileN (Ako x0 x1) 1152921504606846976 (0, ([] : List Af))) (λ _ => none) λ z0 => some z0.2
def zZ (x1 : Ab) (a0 : Af) (n1 : Nat) (a1 : Int) (z1 : (List Ah)) : Option (Ctl ((List Ah)) Unit) :=
 (getI a0.Ac 0).bind λ y5 => (getI x1.Ac y5).bind λ y7 => (getI a0.Ac 0).bind λ y9 => (getI x1.Ac y9).bind λ y11 => (getI z1 a1).bind λ y13 => (setI z1 a1 (⟨y13.State, y13.Since, y7.Ar, y13.Phase⟩ : Ah)).bind λ y15 => (getI y15 a1).bind λ y17 => (setI y15 a1 (⟨y17.State, y17.Since, y17.Ar, y11.Phase⟩ : Ah)).bind λ y19 => some (.next y19)
def Aaa (x1 : Ab) (n0 : Nat) (a0 : Af) (z0 : (List Ah)) : Option (Ctl ((List Ah)) Unit) :=
 andThen (foldI (zZ x1 a0) a0.Ac 0 z0) (λ _ => none) λ z1 => some (.next z1)
def Atd (x0 : Aa) (x1 : Ab) : Option Ab :=
 (F65 x1).bind λ y1 => (F25 x0 x1).bind λ y3 => andThen (foldI (Aaa x1) y3 0 y1.Ac) (λ _ => none) λ z0 => some (⟨y1.Ag, z0, y1.Ak, y1.Ao⟩ : Ab)
def Y6 (x0 : Aa) (x1 : Ab) : Option (Ab × Int) :=
 (F53 x0 x1).bind λ y1 => bif (y1 != 0) then some ((⟨([] : List Bool), ([] : List Ah), ([] : List Int), ([] : List Al)⟩ : Ab), y1) else (Atd x0 x1).bind λ y4 => some (y4, 0)
def qO (x0 : Ai) (x1 : Aa) : Option (Ab × Ai) :=
 (U3 x0 x1).bind λ y1 => (Y6 x1 y1.1).bind λ y3 => some (y3.1, y1.2)
def Yz (x1 : Aa) (z0 : Sg5) : Option (Ctl (Sg5) Unit) :=
 bif decide (z0.1 < x1.Aq) then (F78 (⟨z0.2.1, z0.2.2.1⟩ : Ai) (-1) 4).bind λ y6 => (F78 y6.2 (-1) 4).bind λ y8 => (appI 17 z0.2.2.2 [(⟨y6.1, y8.1⟩ : A3)]).bind λ y10 => some (.next (w64 (z0.1 + 1), y8.2.L, y8.2.At, y10)) else some (.brk (z0.1, z0.2.1, z0.2.2.1, z0.2.2.2))
def qU (x0 : Ai) (x1 : Aa) : Option (A0 × Ai) :=
 (F78 x0 5 20).bind λ y1 => (qO y1.2 x1).bind λ y3 => andThen (whileN (Yz x1) 1152921504606846976 (0, y3.2.L, y3.2.At, ([] : List A3))) (λ _ => none) λ z0 => some ((⟨y1.1, y3.1, z0.2.2.2, ([] : List Bl)⟩ : A0), (⟨z0.2.1, z0.2.2.1⟩ : Ai))
def F9 (x0 : Ai) : Option (K9) :=
 (F29 x0).bind λ y1 => (F30 y1.2).bind λ y3 => (qU y3.2 y1.1).bind λ y5 => some (y1.1, y3.1, y5.1, y5.2)
def Yy (y1 : Int × Ai) : Option (Ctl Bool Unit) :=
 bif (y1.1 == 1) then some (.next (y1.1 == 1)) else some (.next (y1.1 == 2))
def Yx (y1 : Int × Ai) : Option (Ctl Bool Unit) :=
 bif (y1.1 == 3) then some (.next (y1.1 == 3)) else some (.next (y1.1 == 4))
def qT (x0 : Ai) (x1 : Aa) : Option (An × Ai) :=
 (F78 x0 1 9).bind λ y1 => andThen (Yy y1) (λ _ => none) λ z0 => bif z0 then (F32 y1.2 (w64 ((x1.Ae.length : Int) + 1))).bind λ y5 => some ((⟨y1.1, y5.1, 0⟩ : An), y5.2) else andThen (Yx y1) (λ _ => none) λ z1 => bif z1 then (F32 y1.2 (w64 ((x1.Ac.length : Int) + 1))).bind λ y9 => some ((⟨y1.1, y9.1, 0⟩ : An), y9.2) else bif (y1.1 == 5) then (F32 y1.2 (w64 ((x1.Ad.length : Int) + 1))).bind λ y12 => (F40 y12.2 [0, 5, 20, 41]).bind λ y14 => some ((⟨y1.1, y12.1, y14.1⟩ : An), y14.2) else bif (y1.1 == 6) then (F32 y1.2 (w64 ((x1.Ac.length : Int) + 1))).bind λ y17 => (F32 y17.2 (w64 (x1.Aq + 1))).bind λ y19 => some ((⟨y1.1, y17.1, y19.1⟩ : An), y19.2) else bif (y1.1 == 8) then (F78 y1.2 1 4).bind λ y22 => (F32 y22.2 4).bind λ y24 => some ((⟨y1.1, y24.1, y22.1⟩ : An), y24.2) else bif (y1.1 == 9) then (F78 y1.2 1 4).bind λ y27 => (F32 y27.2 4).bind λ y29 => some ((⟨y1.1, y29.1, y27.1⟩ : An), y29.2) else some ((⟨y1.1, 0, 0⟩ : An), y1.2)
def Y7 (x1 : Aa) (z0 : Int × (List Int) × Int × (List An)) : Option (Ctl (Int × (List Int) × Int × (List An)) Unit) :=
 bif decide (z0.1 > 0) then (qT (⟨z0.2.1, z0.2.2.1⟩ : Ai) x1).bind λ y4 => (appI 25 z0.2.2.2 [y4.1]).bind λ y6 => some (.next (w64 (z0.1 - 1), y4.2.L, y4.2.At, y6)) else some (.brk (z0.1, z0.2.1, z0.2.2.1, z0.2.2.2))
def uH (x0 : Ai) (x1 : Aa) (x2 : Int) : Option ((List An) × Ai) :=
 (F32 x0 (w64 (x2 + 1))).bind λ y1 => andThen (whileN (Y7 x1) 1152921504606846976 (y1.1, y1.2.L, y1.2.At, ([] : List An))) (λ _ => none) λ z0 => some (z0.2.2.2, (⟨z0.2.1, z0.2.2.1⟩ : Ai))
def F99 (x0 : Int) (x1 : Int) (x2 : Int) : Bool :=
 ((decide (x0 >= x1)) && (decide (x0 <= x2)))
def Apq (x1 : Int) (n0 : Nat) (a0 : Int) (z0 : Unit) : Option (Ctl Unit Int) :=
 bif (x1 == a0) then some (.ret (cnt 0 n0)) else some (.next ())
def As0 (x0 : List Int) (x1 : Int) : Option Int :=
 andThen (foldI (Apq x1) x0 0 ()) some λ z0 => some (-1)
def Mx (x0 : List Int) (x1 : Int) : Option Bool :=
 (As0 x0 x1).bind λ y1 => some (decide (y1 >= 0))
def A1k (x0 : List Int) : Bool :=
 ((x0.length : Int) == 0)
def Adh (n0 : Nat) (a0 : List Int) (z0 : Unit) : Option (Ctl Unit Int) :=
 bif A1k a0 then some (.ret (cnt 0 n0)) else some (.next ())
def uB (x0 : List (List Int)) : Option Int :=
 andThen (foldI Adh x0 0 ()) some λ z0 => some (-1)
def Us (x0 : List (List Int)) : Option Bool :=
 (uB x0).bind λ y1 => some (decide (y1 >= 0))
def Aif (x0 : Aa) (a0 : Aj) : Bool := ((a0.Kind == 1) && (F99 a0.B (w64 (a0.A + 1)) (w64 (x0.Aq - 1))))
def Aie (z0 : (List Int) × (List (List Int))) (a0 : Aj) (y7 : Int) : Bool := (((a0.Kind == 2) && (F99 a0.B 0 (w64 ((z0.1.length : Int) - 1)))) && (y7 == 0))
def Aw4 (z0 : (List Int) × (List (List Int))) (a0 : Aj) (y16 : Bool) : Bool := (((a0.Kind == 3) && (F99 a0.B 0 (w64 ((z0.2.length : Int) - 1)))) && (!y16))
def zW (x0 : Aa) (n0 : Nat) (a0 : Aj) (z0 : (List Int) × (List (List Int))) : Option (Ctl ((List Int) × (List (List Int))) Bool) :=
 bif !(F99 a0.A 0 (w64 (x0.Aq - 1))) then some (.ret false) else bif (Aif x0 a0) then some (.next (z0.1, z0.2)) else (Az [(((a0.Kind == 2) && (F99 a0.B 0 (w64 ((z0.1.length : Int) - 1)))), true)] (getI z0.1 a0.B) default).bind λ y7 => bif (Aie z0 a0 y7) then (getI z0.1 a0.B).bind λ y10 => (setI z0.1 a0.B (w64 (y10 + 1))).bind λ y12 => some (.next (y12, z0.2)) else (Az [(((a0.Kind == 3) && (F99 a0.B 0 (w64 ((z0.2.length : Int) - 1)))), true)] (getI z0.2 a0.B) default).bind λ y14 => (Az [(((a0.Kind == 3) && (F99 a0.B 0 (w64 ((z0.2.length : Int) - 1)))), true)] (Mx y14 a0.A) default).bind λ y16 => bif (Aw4 z0 a0 y16) then (getI z0.2 a0.B).bind λ y19 => (appI 9 y19 [a0.A]).bind λ y21 => (setI z0.2 a0.B y21).bind λ y23 => some (.next (z0.1, y23)) else some (.ret false)
def Ali (x0 : Aa) : Option Bool :=
 (mkI 9 (x0.Ac.length : Int) 0).bind λ y1 => (mkI 25 (x0.Ad.length : Int) ([] : List Int)).bind λ y3 => andThen (foldI (zW x0) x0.Ae 0 (y1, y3)) some λ z0 => (Mx z0.1 0).bind λ y27 => (Az [(!y27, true)] (Us z0.2) default).bind λ y29 => some ((!y27) && (!y29))
def zV (x0 : Bf) : Bool :=
 (((F99 x0.Rating 1 50000) && (F99 x0.Least 0 x0.Rating)) && (F99 x0.Start 0 600))
def Aw3 (x1 : Int) (n0 : Nat) (a0 : Int) (y1 : Int) : Bool := ((!(F99 a0 0 (w64 (x1 - 1)))) || ((decide ((cnt 0 n0) > 0)) && (decide (y1 >= a0))))
def Wm (x0 : A1) (x1 : Int) (n0 : Nat) (a0 : Int) (z0 : Unit) : Option (Ctl Unit Bool) :=
 (Az [(!(F99 a0 0 (w64 (x1 - 1))), false), (decide ((cnt 0 n0) > 0), true)] (getI x0.Needs (w64 ((cnt 0 n0) - 1))) default).bind λ y1 => bif (Aw3 x1 n0 a0 y1) then some (.ret false) else some (.next ())
def zU (x0 : A1) (x1 : Int) : Option Bool :=
 andThen (foldI (Wm x0 x1) x0.Needs 0 ()) some λ z0 => some (((((F99 x0.Load 0 50000) && (F99 x0.Least 0 x0.Load)) && (F99 x0.Bn 0 15)) && (F99 x0.Thruster (-1) 7)) && (decide ((x0.Needs.length : Int) <= 4)))
def A2g (x0 : Aa) : Bool := ((((!(F99 x0.Aq 1 6)) || (decide ((x0.Ae.length : Int) > 24))) || (decide ((x0.Ac.length : Int) > 8))) || (decide ((x0.Ad.length : Int) > 16)))
def Ayt (n0 : Nat) (a0 : Bf) (z0 : Bool) : Option (Ctl Bool Unit) :=
 some (.next (z0 && (zV a0)))
def Aj0 (n1 : Nat) (a1 : A1) (z1 : Bool) : Option (Ctl Bool Unit) :=
 (Az [(z1, true)] (zU a1 (cnt 0 n1)) default).bind λ y4 => some (.next (z1 && y4))
def F85 (x0 : Aa) : Option Int :=
 bif (A2g x0) then some 2 else (Ali x0).bind λ y2 => andThen (foldI Ayt x0.Ac 0 ((y2 && (F99 x0.Phase 0 1800)) && (F99 x0.Ar 0 6000))) (λ _ => none) λ z0 => andThen (foldI Aj0 x0.Ad 0 z0) (λ _ => none) λ z1 => bif !z1 then some 14 else some 0
def La (x0 : Aa) (x1 : Int) : Int :=
 bif (x1 == 1) then (x0.Ac.length : Int) else bif (x1 == 2) then (x0.Ae.length : Int) else bif (x1 == 3) then x0.Aq else bif (x1 == 4) then (x0.Ad.length : Int) else 0
def Y2 (x0 : Int) : Bool :=
 (x0 != x0)
def J9 (x0 : Int) (x1 : Int) : Int :=
 bif Y2 x0 then bif Y2 x1 then 0 else (-1) else bif Y2 x1 then 1 else bif decide (x0 < x1) then (-1) else bif decide (x0 > x1) then 1 else 0
def Wk (n0 : Nat) (a0 : Int) (z0 : Unit) : Option (Ctl Unit Int) :=
 bif (a0 != 0) then some (.ret a0) else some (.next ())
def zQ (x0 : List Int) : Option Int :=
 andThen (foldI Wk x0 0 ()) some λ z0 => some 0
def A2d (x0 : Aa) (n0 : Nat) (a0 : Al) (y5 : Int) : Bool := ((!(F99 a0.Number 0 (w64 ((La x0 a0.Kind) - 1)))) || ((decide ((cnt 0 n0) > 0)) && (decide (y5 >= 0))))
def qN (x0 : Aa) (x1 : List Al) (n0 : Nat) (a0 : Al) (z0 : Unit) : Option (Ctl Unit Bool) :=
 (Az [(!(F99 a0.Number 0 (w64 ((La x0 a0.Kind) - 1))), false), (decide ((cnt 0 n0) > 0), true)] (getI x1 (w64 ((cnt 0 n0) - 1))) default).bind λ y1 => (Az [(!(F99 a0.Number 0 (w64 ((La x0 a0.Kind) - 1))), false), (decide ((cnt 0 n0) > 0), true)] (getI x1 (w64 ((cnt 0 n0) - 1))) default).bind λ y3 => (Az [(!(F99 a0.Number 0 (w64 ((La x0 a0.Kind) - 1))), false), (decide ((cnt 0 n0) > 0), true)] (zQ [J9 y1.Kind a0.Kind, J9 y3.Number a0.Number]) default).bind λ y5 => bif (A2d x0 n0 a0 y5) then some (.ret false) else some (.next ())
def F95 (x0 : Aa) (x1 : List Al) : Option Bool :=
 andThen (foldI (qN x0 x1) x1 0 ()) some λ z0 => some (decide ((x1.length : Int) <= 32))
def F98 (x0 : Ah) : Bool :=
 ((((F99 x0.State 0 3) && (F99 x0.Since 0 2147483648)) && (F99 x0.Ar 0 6000)) && (F99 x0.Phase 0 3599))
def F97 (x0 : Ah) : Bool :=
 !(F98 x0)
def Ado (n0 : Nat) (a0 : Ah) (z0 : Unit) : Option (Ctl Unit Int) :=
 bif F97 a0 then some (.ret (cnt 0 n0)) else some (.next ())
def uG (x0 : List Ah) : Option Int :=
 andThen (foldI Ado x0 0 ()) some λ z0 => some (-1)
def We (x0 : List Ah) : Option Bool :=
 (uG x0).bind λ y1 => some (decide (y1 >= 0))
def Aw5 (x2 : Int) (a0 : Aj) (y1 : Bool) : Bool := (((a0.Kind == 3) && (a0.B == x2)) && y1)
def Aak (x1 : Ab) (x2 : Int) (n0 : Nat) (a0 : Aj) (z0 : Int) : Option (Ctl Int Unit) :=
 (Az [(((a0.Kind == 3) && (a0.B == x2)), true)] (getI x1.Ag (cnt 0 n0)) default).bind λ y1 => bif (Aw5 x2 a0 y1) then some (.next (w64 (z0 + 1))) else some (.next z0)
def Alx (x0 : Aa) (x1 : Ab) (x2 : Int) : Option Int :=
 andThen (foldI (Aak x1 x2) x0.Ae 0 0) (λ _ => none) λ z0 => some z0
def Arg (x0 : Aa) (x1 : Ab) : Bool := ((((x1.Ag.length : Int) != (x0.Ae.length : Int)) || ((x1.Ac.length : Int) != (x0.Ac.length : Int))) || ((x1.Ak.length : Int) != (x0.Ad.length : Int)))
def Aki (x0 : Aa) (x1 : Ab) (n0 : Nat) (a0 : Int) (z0 : Bool) : Option (Ctl Bool Unit) :=
 (Az [(z0, true)] (getI x0.Ad (cnt 0 n0)) default).bind λ y9 => (Az [((z0 && (F99 a0 0 y9.Load)), true)] (Alx x0 x1 (cnt 0 n0)) default).bind λ y11 => some (.next ((z0 && (F99 a0 0 y9.Load)) && (decide (y11 <= 1))))
def F43 (x0 : Aa) (x1 : Ab) : Option Int :=
 (F85 x0).bind λ y1 => bif (y1 != 0) then some y1 else bif (Arg x0 x1) then some 8 else (F95 x0 x1.Ao).bind λ y5 => (Az [(y5, true)] (We x1.Ac) default).bind λ y7 => andThen (foldI (Aki x0 x1) x1.Ak 0 (y5 && (!y7))) (λ _ => none) λ z0 => bif !z0 then some 11 else some 0
def As9 (x0 : List Bool) : Option (List Bool) := appI 2 [] x0
def As8 (x0 : List Ah) : Option (List Ah) := appI 33 [] x0
def Y3 (x0 : List Int) : Option (List Int) := appI 9 [] x0
def As7 (x0 : List Al) : Option (List Al) := appI 17 [] x0
def Ij (x0 : Ab) : Option Ab :=
 (As9 x0.Ag).bind λ y1 => (As8 x0.Ac).bind λ y3 => (Y3 x0.Ak).bind λ y5 => (As7 x0.Ao).bind λ y7 => some (⟨y1, y3, y5, y7⟩ : Ab)
def Aln (x0 : List A3) : Option (List A3) := appI 17 [] x0
def F84 (x0 : List Bl) : Option (List Bl) := appI 41 [] x0
def F63 (x0 : Aa) (x1 : A0) : Option A4 :=
 (Ij x1.Power).bind λ y1 => (Aln x1.A6).bind λ y3 => (F84 x1.Bc).bind λ y5 => some (⟨(⟨x1.Time, y1, y3, y5⟩ : A0), x0, ([] : List Bl), ([] : List Ab)⟩ : A4)
def J8 (x0 : Aa) (x1 : Int) (x2 : Int) : Bool :=
 bif (x1 == 1) then ((decide (x2 >= 0)) && (decide (x2 < (x0.Ac.length : Int)))) else bif (x1 == 2) then ((decide (x2 >= 0)) && (decide (x2 < (x0.Ae.length : Int)))) else bif (x1 == 3) then ((decide (x2 >= 0)) && (decide (x2 < x0.Aq))) else bif (x1 == 4) then ((decide (x2 >= 0)) && (decide (x2 < (x0.Ad.length : Int)))) else ((decide (x2 >= 0)) && (decide (x2 < 0)))
def zY (x1 : An) : Option (Ctl Bool Unit) :=
 bif (x1.Kind == 1) then some (.next (x1.Kind == 1)) else some (.next (x1.Kind == 2))
def zX (x1 : An) : Option (Ctl Bool Unit) :=
 bif (x1.Kind == 3) then some (.next (x1.Kind == 3)) else some (.next (x1.Kind == 4))
def Alj (x0 : Aa) (x1 : An) : Option Bool :=
 andThen (zY x1) (λ _ => none) λ z0 => bif z0 then some (J8 x0 2 x1.Unit) else andThen (zX x1) (λ _ => none) λ z1 => bif z1 then some (J8 x0 1 x1.Unit) else bif (x1.Kind == 5) then some (J8 x0 4 x1.Unit) else bif (x1.Kind == 6) then some ((J8 x0 1 x1.Unit) && (J8 x0 3 x1.Value)) else bif (x1.Kind == 8) then some (J8 x0 x1.Value x1.Unit) else bif (x1.Kind == 9) then some (J8 x0 x1.Value x1.Unit) else some true
def A8m (x1 : Al) (a0 : Al) : Bool := ((x1.Kind == a0.Kind) && ((x1.Number == a0.Number) && true))
def Apr (x1 : Al) (n0 : Nat) (a0 : Al) (z0 : Unit) : Option (Ctl Unit Int) :=
 bif (A8m x1 a0) then some (.ret (cnt 0 n0)) else some (.next ())
def As2 (x0 : List Al) (x1 : Al) : Option Int :=
 andThen (foldI (Apr x1) x0 0 ()) some λ z0 => some (-1)
def Atb (x0 : List Al) (x1 : Al) : Option Bool :=
 (As2 x0 x1).bind λ y1 => some (decide (y1 >= 0))
def Hw (x0 : Ab) (x1 : Int) (x2 : Int) : Option Bool :=
 (Atb x0.Ao (⟨x1, x2⟩ : Al)).bind λ y1 => some y1
def Awu (x2 : Int) (x3 : Int) (a0 : Aj) (y1 : Bool) : Bool := (((a0.Kind == x2) && (a0.B == x3)) && y1)
def Wi (x1 : Ab) (x2 : Int) (x3 : Int) (n0 : Nat) (a0 : Aj) (z0 : Unit) : Option (Ctl Unit (Int × Bool)) :=
 (Az [(((a0.Kind == x2) && (a0.B == x3)), true)] (getI x1.Ag (cnt 0 n0)) default).bind λ y1 => bif (Awu x2 x3 a0 y1) then some (.ret (a0.A, true)) else some (.next ())
def zI (x0 : Aa) (x1 : Ab) (x2 : Int) (x3 : Int) : Option (Int × Bool) :=
 andThen (foldI (Wi x1 x2 x3) x0.Ae 0 ()) some λ z0 => some (0, false)
def Y4 (x0 : Aa) (x1 : Ab) (x2 : Int) : Option (Int × Bool) :=
 (zI x0 x1 3 x2).bind λ y1 => some (y1.1, y1.2)
def Alw (x0 : Aa) (x1 : Ab) (x2 : Int) : Option (Int × Bool) :=
 (F43 x0 x1).bind λ y1 => bif (y1 != 0) then some (0, false) else (Y4 x0 x1 x2).bind λ y4 => some (y4.1, y4.2)
def Akz (x0 : Aa) (x1 : Ab) (x2 : Int) : Option Bool :=
 (getI x0.Ae x2).bind λ y1 => (getI x1.Ag x2).bind λ y3 => (Az [(y3, false)] (Hw x1 2 x2) default).bind λ y5 => (Az [((y3 || y5), false)] (Hw x1 3 y1.A) default).bind λ y7 => bif ((y3 || y5) || y7) then some false else bif (y1.Kind == 1) then (Hw x1 3 y1.B).bind λ y11 => some (!y11) else bif (y1.Kind == 2) then (Hw x1 1 y1.B).bind λ y14 => (Az [(!y14, true)] (getI x1.Ac y1.B) default).bind λ y16 => some ((!y14) && (y16.State == 2)) else (Alw x0 x1 y1.B).bind λ y18 => (Hw x1 4 y1.B).bind λ y20 => some ((!y20) && (!y18.2))
def zS (n0 : Nat) (a0 : Int) (z0 : (List Int)) : Option (Ctl ((List Int)) Unit) :=
 (getI z0 (cnt 0 n0)).bind λ y3 => (setI z0 (cnt 0 n0) (cnt 0 n0)).bind λ y5 => some (.next y5)
def Wl (x1 : Ab) (n2 : Nat) (a2 : Aj) (z2 : (List Int)) : Option (Ctl ((List Int)) Unit) :=
 (Az [((a2.Kind == 1), true)] (getI x1.Ag (cnt 0 n2)) default).bind λ y7 => bif ((a2.Kind == 1) && y7) then (getI z2 a2.A).bind λ y10 => (getI z2 a2.B).bind λ y12 => (setI z2 a2.A (min y10 y12)).bind λ y14 => (getI y14 a2.B).bind λ y16 => (setI y14 a2.B (min y10 y12)).bind λ y18 => some (.next y18) else some (.next z2)
def zR (x0 : Aa) (x1 : Ab) (n1 : Nat) (a1 : Int) (z1 : (List Int)) : Option (Ctl ((List Int)) Unit) :=
 andThen (foldI (Wl x1) x0.Ae 0 z1) (λ _ => none) λ z2 => some (.next z2)
def zT (x0 : Aa) (x1 : Ab) : Option ((List Int)) :=
 (mkI 9 x0.Aq 0).bind λ y1 => andThen (foldI zS y1 0 y1) (λ _ => none) λ z0 => andThen (foldI (zR x0 x1) z0 0 z0) (λ _ => none) λ z1 => some z1
def qA (x1 : Ab) (x2 : Int) (y1 : Ah) : Bool := ((!(F99 x2 0 (w64 ((x1.Ac.length : Int) - 1)))) || (y1.State != 2))
def Y5 (x0 : Aa) (x1 : Ab) (x2 : Int) : Option (Int × Bool) :=
 (Az [(!(F99 x2 0 (w64 ((x1.Ac.length : Int) - 1))), false)] (getI x1.Ac x2) default).bind λ y1 => bif (qA x1 x2 y1) then some (0, false) else (zI x0 x1 2 x2).bind λ y4 => some (y4.1, y4.2)
def Atc (x0 : Af) : Bool :=
 ((x0.Aq.length : Int) == 0)
def Adr (n0 : Nat) (a0 : Af) (z0 : Unit) : Option (Ctl Unit Int) :=
 bif Atc a0 then some (.ret (cnt 0 n0)) else some (.next ())
def U1 (x0 : List Af) : Option Int :=
 andThen (foldI Adr x0 0 ()) some λ z0 => some (-1)
def Aid (z0 : Int × Int × (List Af)) : Bool := decide (z0.2.1 < (z0.2.2.length : Int))
def U0 (z0 : Int × Int × (List Af)) : Option (Ctl (Int × Int × (List Af)) Unit) :=
 bif (Aid z0) then (getI z0.2.2 z0.2.1).bind λ y5 => bif !(Atc y5) then (getI z0.2.2 z0.1).bind λ y8 => (setI z0.2.2 z0.1 y5).bind λ y10 => some (.next (w64 (z0.1 + 1), w64 (z0.2.1 + 1), y10)) else some (.next (z0.1, w64 (z0.2.1 + 1), z0.2.2)) else some (.brk (z0.1, z0.2.1, z0.2.2))
def Pv (x0 : List Af) : Option ((List Af)) :=
 (U1 x0).bind λ y1 => bif (y1 == (-1)) then some x0 else andThen (whileN U0 1152921504606846976 (y1, w64 (y1 + 1), x0)) (λ _ => none) λ z0 => (bndI z0.2.2.length z0.1 (z0.2.2.length : Int)).bind λ u13 => (bndI (Gn z0.2.2 (Int.toNat z0.1) ((Int.toNat (z0.2.2.length : Int)) - (Int.toNat z0.1)) (⟨([] : List Int), ([] : List Int), ([] : List Int)⟩ : Af)).length 0 z0.1).bind λ u15 => some ((Gn z0.2.2 (Int.toNat z0.1) ((Int.toNat (z0.2.2.length : Int)) - (Int.toNat z0.1)) (⟨([] : List Int), ([] : List Int), ([] : List Int)⟩ : Af)).take ((Int.toNat z0.1) - 0))
def Ajz (n0 : Nat) (a0 : Int) (z0 : (List Af)) : Option (Ctl ((List Af)) Unit) :=
 (getI z0 a0).bind λ y8 => (appI 9 y8.Aq [cnt 0 n0]).bind λ y10 => (setI z0 a0 (⟨y10, y8.Ac, y8.Ad⟩ : Af)).bind λ y12 => some (.next y12)
def A2f (x0 : Aa) (z1 : Int × (List Af)) : Bool := decide (z1.1 < (x0.Ac.length : Int))
def Ajy (x0 : Aa) (x1 : Ab) (y4 : (List Int)) (z1 : Int × (List Af)) : Option (Ctl (Int × (List Af)) Unit) :=
 bif (A2f x0 z1) then (Y5 x0 x1 z1.1).bind λ y15 => bif y15.2 then (getI y4 y15.1).bind λ y18 => (getI z1.2 y18).bind λ y20 => (appI 9 y20.Ac [z1.1]).bind λ y22 => (setI z1.2 y18 (⟨y20.Aq, y22, y20.Ad⟩ : Af)).bind λ y24 => some (.next (w64 (z1.1 + 1), y24)) else some (.next (w64 (z1.1 + 1), z1.2)) else some (.brk (z1.1, z1.2))
def A2e (x0 : Aa) (z2 : Int × (List Af)) : Bool := decide (z2.1 < (x0.Ad.length : Int))
def Ajx (x0 : Aa) (x1 : Ab) (y4 : (List Int)) (z2 : Int × (List Af)) : Option (Ctl (Int × (List Af)) Unit) :=
 bif (A2e x0 z2) then (Y4 x0 x1 z2.1).bind λ y27 => bif y27.2 then (getI y4 y27.1).bind λ y30 => (getI z2.2 y30).bind λ y32 => (appI 9 y32.Ad [z2.1]).bind λ y34 => (setI z2.2 y30 (⟨y32.Aq, y32.Ac, y34⟩ : Af)).bind λ y36 => some (.next (w64 (z2.1 + 1), y36)) else some (.next (w64 (z2.1 + 1), z2.2)) else some (.brk (z2.1, z2.2))
def F89 (x0 : Aa) (x1 : Ab) : Option ((List Af)) :=
 (F43 x0 x1).bind λ y1 => bif (y1 != 0) then some ([] : List Af) else (zT x0 x1).bind λ y4 => (mkI 73 x0.Aq (⟨([] : List Int), ([] : List Int), ([] : List Int)⟩ : Af)).bind λ y6 => andThen (foldI Ajz y4 0 y6) (λ _ => none) λ z0 => andThen (whileN (Ajy x0 x1 y4) 1152921504606846976 (0, z0)) (λ _ => none) λ z1 => andThen (whileN (Ajx x0 x1 y4) 1152921504606846976 (0, z1.2)) (λ _ => none) λ z2 => (Pv z2.2).bind λ y38 => some y38
def L3 (x2 : Int) (n0 : Nat) (a0 : Af) (z0 : Unit) : Option (Ctl Unit (Af × Bool)) :=
 (Mx a0.Aq x2).bind λ y3 => bif y3 then some (.ret (a0, true)) else some (.next ())
def G9 (x0 : Aa) (x1 : Ab) (x2 : Int) : Option (Af × Bool) :=
 (F89 x0 x1).bind λ y1 => andThen (foldI (L3 x2) y1 0 ()) some λ z0 => some ((⟨([] : List Int), ([] : List Int), ([] : List Int)⟩ : Af), false)
def Y0 (x0 : Aa) (x1 : Ab) (x2 : Int) : Option (Int × Bool) :=
 (G9 x0 x1 x2).bind λ y1 => bif ((y1.1.Ac.length : Int) == 0) then some (0, false) else (getI y1.1.Ac 0).bind λ y4 => some (y4, true)
def G8 (x0 : Int) : Int :=
 bif decide ((Int.tmod x0 3600) < 0) then w64 ((Int.tmod x0 3600) + 3600) else Int.tmod x0 3600
def A8k (x0 : Int) (x1 : Int) : Bool := decide ((G8 (w64 ((G8 x1) - (G8 x0)))) > 1800)
def Asz (x0 : Int) (x1 : Int) : Int :=
 bif (A8k x0 x1) then w64 ((G8 (w64 ((G8 x1) - (G8 x0)))) - 3600) else G8 (w64 ((G8 x1) - (G8 x0)))
def A8l (x1 : Ah) (x2 : Ah) : Bool := ((decide ((min x1.Ar x2.Ar) < 0)) || (decide ((max x1.Ar x2.Ar) > 6000)))
def Akw (x0 : Aa) (x1 : Ah) (x2 : Ah) : Bool :=
 bif (A8l x1 x2) then false else ((decide ((max (w64 (x1.Ar - x2.Ar)) (w64 (x2.Ar - x1.Ar))) <= x0.Ar)) && (decide ((max (Asz x1.Phase x2.Phase) (w64 (0 - Asz x1.Phase x2.Phase))) <= x0.Phase)))
def Aky (x0 : Aa) (x1 : Ab) (x2 : Aj) : Option Bool :=
 (Y0 x0 x1 x2.A).bind λ y1 => bif !y1.2 then some true else bif (x2.Kind == 1) then (Y0 x0 x1 x2.B).bind λ y5 => (Az [(!y5.2, false)] (getI x1.Ac y1.1) default).bind λ y7 => (Az [(!y5.2, false)] (getI x1.Ac y5.1) default).bind λ y9 => some ((!y5.2) || (Akw x0 y7 y9)) else bif (x2.Kind == 2) then (getI x1.Ac y1.1).bind λ y12 => (getI x1.Ac x2.B).bind λ y14 => some (Akw x0 y12 y14) else some true
def Awr (x0 : Aa) (x2 : Int) : Bool := ((decide (x2 < 0)) || (decide (x2 >= (x0.Ae.length : Int))))
def Ak1 (x0 : Aa) (x1 : Ab) (x2 : Int) : Option Int :=
 (F43 x0 x1).bind λ y1 => bif (y1 != 0) then some y1 else bif (Awr x0 x2) then some 10 else (Akz x0 x1 x2).bind λ y5 => bif !y5 then some 11 else (getI x0.Ae x2).bind λ y8 => (G9 x0 x1 y8.A).bind λ y10 => (Az [((y8.Kind == 1), true)] (Mx y10.1.Aq y8.B) default).bind λ y12 => (Az [(!((y8.Kind == 1) && y12), true)] (Aky x0 x1 y8) default).bind λ y14 => bif ((!((y8.Kind == 1) && y12)) && (!y14)) then some 12 else some 0
def U4 (x2 : Ah) (n0 : Nat) (a0 : Int) (z0 : (List Ah)) : Option (Ctl ((List Ah)) Unit) :=
 (getI z0 a0).bind λ y1 => (setI z0 a0 (⟨y1.State, y1.Since, x2.Ar, y1.Phase⟩ : Ah)).bind λ y3 => (getI y3 a0).bind λ y5 => (setI y3 a0 (⟨y5.State, y5.Since, y5.Ar, x2.Phase⟩ : Ah)).bind λ y7 => some (.next y7)
def Mz (x0 : Ab) (x1 : List Int) (x2 : Ah) : Option ((List Ah)) :=
 andThen (foldI (U4 x2) x1 0 x0.Ac) (λ _ => none) λ z0 => some z0
def A2j (a0 : Af) : Bool := decide ((a0.Ac.length : Int) > 0)
def Aj9 (x1 : Ab) (y4 : Ab) (n0 : Nat) (a0 : Af) (z0 : (List Ah)) : Option (Ctl ((List Ah)) Unit) :=
 bif (A2j a0) then (getI a0.Ac 0).bind λ y9 => (getI x1.Ac y9).bind λ y11 => (Mz (⟨y4.Ag, z0, y4.Ak, y4.Ao⟩ : Ab) a0.Ac y11).bind λ y13 => some (.next y13) else some (.next z0)
def F57 (x0 : Aa) (x1 : Ab) : Option (Ab × Int) :=
 (F43 x0 x1).bind λ y1 => bif (y1 != 0) then some ((⟨([] : List Bool), ([] : List Ah), ([] : List Int), ([] : List Al)⟩ : Ab), y1) else (Ij x1).bind λ y4 => (F89 x0 x1).bind λ y6 => andThen (foldI (Aj9 x1 y4) y6 0 y4.Ac) (λ _ => none) λ z0 => some ((⟨y4.Ag, z0, y4.Ak, y4.Ao⟩ : Ab), 0)
def Ala (x0 : Aa) (x1 : Ab) (x2 : Int) : Option (Ab × Int) :=
 (Ak1 x0 x1 x2).bind λ y1 => bif (y1 != 0) then some ((⟨([] : List Bool), ([] : List Ah), ([] : List Int), ([] : List Al)⟩ : Ab), y1) else (Ij x1).bind λ y4 => (getI y4.Ag x2).bind λ y6 => (setI y4.Ag x2 true).bind λ y8 => (F57 x0 (⟨y8, y4.Ac, y4.Ak, y4.Ao⟩ : Ab)).bind λ y10 => some (y10.1, y10.2)
def Aww (x0 : Aa) (x2 : Int) : Bool := ((decide (x2 < 0)) || (decide (x2 >= (x0.Ae.length : Int))))
def Ak9 (x0 : Aa) (x1 : Ab) (x2 : Int) : Option (Ab × Int) :=
 (F43 x0 x1).bind λ y1 => bif (y1 != 0) then some ((⟨([] : List Bool), ([] : List Ah), ([] : List Int), ([] : List Al)⟩ : Ab), y1) else bif (Aww x0 x2) then some ((⟨([] : List Bool), ([] : List Ah), ([] : List Int), ([] : List Al)⟩ : Ab), 10) else (getI x1.Ag x2).bind λ y5 => (Az [(!y5, false)] (Hw x1 2 x2) default).bind λ y7 => bif ((!y5) || y7) then some ((⟨([] : List Bool), ([] : List Ah), ([] : List Int), ([] : List Al)⟩ : Ab), 11) else (Ij x1).bind λ y10 => (getI y10.Ag x2).bind λ y12 => (setI y10.Ag x2 false).bind λ y14 => some ((⟨y14, y10.Ac, y10.Ak, y10.Ao⟩ : Ab), 0)
def As1 (x0 : Aa) (x1 : Ab) (x2 : Int) : Option (Int × Bool) :=
 (F43 x0 x1).bind λ y1 => bif (y1 != 0) then some (0, false) else (Y5 x0 x1 x2).bind λ y4 => some (y4.1, y4.2)
def Awv (x0 : Aa) (x2 : Int) (x3 : Int) : Bool := ((((decide (x2 < 0)) || (decide (x2 >= (x0.Ac.length : Int)))) || (decide (x3 < 0))) || (decide (x3 >= x0.Aq)))
def Ak8 (x0 : Aa) (x1 : Ab) (x2 : Int) (x3 : Int) : Option (Ab × Int) :=
 (F43 x0 x1).bind λ y1 => bif (y1 != 0) then some ((⟨([] : List Bool), ([] : List Ah), ([] : List Int), ([] : List Al)⟩ : Ab), y1) else bif (Awv x0 x2 x3) then some ((⟨([] : List Bool), ([] : List Ah), ([] : List Int), ([] : List Al)⟩ : Ab), 10) else (Y0 x0 x1 x3).bind λ y5 => (Az [(!y5.2, false)] (getI x1.Ac x2) default).bind λ y7 => bif ((!y5.2) || (y7.State != 2)) then some ((⟨([] : List Bool), ([] : List Ah), ([] : List Int), ([] : List Al)⟩ : Ab), 11) else (Ij x1).bind λ y10 => (As1 x0 x1 x2).bind λ y12 => bif y12.2 then (G9 x0 x1 y12.1).bind λ y15 => (getI x1.Ac y5.1).bind λ y17 => (Mz y10 y15.1.Ac y17).bind λ y19 => some ((⟨y10.Ag, y19, y10.Ak, y10.Ao⟩ : Ab), 0) else (getI x1.Ac y5.1).bind λ y21 => (Mz y10 [x2] y21).bind λ y23 => some ((⟨y10.Ag, y23, y10.Ak, y10.Ao⟩ : Ab), 0)
def qY (x0 : Aj) (x1 : Int) : Bool :=
 ((x0.Kind == 2) && (x0.B == x1))
def Nv (x1c0 : Int) (n0 : Nat) (a0 : Aj) (z0 : Unit) : Option (Ctl Unit (Int × Int)) :=
 bif qY a0 x1c0 then some (.ret (cnt 0 n0, x1c0)) else some (.next ())
def uC (x0 : List Aj) (x1c0 : Int) : Option (Int × Int) :=
 andThen (foldI (Nv x1c0) x0 0 ()) some λ z0 => some ((-1), x1c0)
def Akx (x0 : Aa) (x1 : Int) : Option Int :=
 (uC x0.Ae x1).bind λ y1 => some y1.1
def Mw (x0 : A2) (x1 : Int) : Option Bool :=
 (Akx x0.Am x1).bind λ y1 => (getI x0.Au.Ag y1).bind λ y3 => some (!y3)
def Ux (x0 : A2) (x1 : Int) : Option (Int × A2) :=
 (getI x0.Au.Ac x1).bind λ y1 => (Az [((y1.State != 0), false)] (Hw x0.Au 1 x1) default).bind λ y3 => bif ((y1.State != 0) || y3) then some (11, x0) else (getI x0.Am.Ac x1).bind λ y6 => (Az [((y6.Start == 0), true)] (Mw x0 x1) default).bind λ y8 => bif ((y6.Start == 0) && y8) then (setI x0.Au.Ac x1 (⟨2, x0.time, 5000, 0⟩ : Ah)).bind λ y11 => some (0, (⟨x0.Am, (⟨x0.Au.Ag, y11, x0.Au.Ak, x0.Au.Ao⟩ : Ab), x0.time⟩ : A2)) else (setI x0.Au.Ac x1 (⟨1, x0.time, 5000, 0⟩ : Ah)).bind λ y13 => some (0, (⟨x0.Am, (⟨x0.Au.Ag, y13, x0.Au.Ak, x0.Au.Ao⟩ : Ab), x0.time⟩ : A2))
def A0o (y1 : Ah) (y3 : Bool) : Bool := (((y1.State != 1) && (y1.State != 2)) || (!y3))
def Uw (x0 : A2) (x1 : Int) : Option (Int × A2) :=
 (getI x0.Au.Ac x1).bind λ y1 => (Az [(((y1.State != 1) && (y1.State != 2)), false)] (Mw x0 x1) default).bind λ y3 => bif (A0o y1 y3) then some (11, x0) else (setI x0.Au.Ac x1 (⟨0, y1.Since, y1.Ar, y1.Phase⟩ : Ah)).bind λ y6 => some (0, (⟨x0.Am, (⟨x0.Au.Ag, y6, x0.Au.Ak, x0.Au.Ao⟩ : Ab), x0.time⟩ : A2))
def Aib (x2 : Int) (y1 : A1) : Bool := ((decide (x2 < 0)) || (decide (x2 > y1.Load)))
def Uv (x0 : A2) (x1 : Int) (x2 : Int) : Option (Int × A2) :=
 (Az [(decide (x2 < 0), false)] (getI x0.Am.Ad x1) default).bind λ y1 => bif (Aib x2 y1) then some (1, x0) else (getI x0.Au.Ak x1).bind λ y4 => (setI x0.Au.Ak x1 x2).bind λ y6 => some (0, (⟨x0.Am, (⟨x0.Au.Ag, x0.Au.Ac, y6, x0.Au.Ao⟩ : Ab), x0.time⟩ : A2))
def zF (n0 : Nat) (a0 : Ah) (z0 : (List Ah)) : Option (Ctl ((List Ah)) Unit) :=
 bif (a0.State == 2) then (getI z0 (cnt 0 n0)).bind λ y7 => (setI z0 (cnt 0 n0) (⟨y7.State, y7.Since, y7.Ar, G8 (w64 (a0.Phase + (w64 (36 * (w64 (a0.Ar - 5000))))))⟩ : Ah)).bind λ y9 => some (.next y9) else some (.next z0)
def Ak0 (x0 : Aa) (x1 : Ab) : Option (Ab × Int) :=
 (F43 x0 x1).bind λ y1 => bif (y1 != 0) then some ((⟨([] : List Bool), ([] : List Ah), ([] : List Int), ([] : List Al)⟩ : Ab), y1) else (Ij x1).bind λ y4 => andThen (foldI zF x1.Ac 0 y4.Ac) (λ _ => none) λ z0 => some ((⟨y4.Ag, z0, y4.Ak, y4.Ao⟩ : Ab), 0)
def Aia (y1 : Ab × Int) (z0 : Int × (List Ah)) : Bool := decide (z0.1 < (y1.1.Ac.length : Int))
def A0n (x0 : A2) (y4 : Ah) (y6 : Bool) (y8 : Bf) : Bool := (((y4.State == 1) && y6) && (decide ((w64 (y4.Since + y8.Start)) <= (w64 (x0.time + 1)))))
def Ut (x0 : A2) (y1 : Ab × Int) (z0 : Int × (List Ah)) : Option (Ctl (Int × (List Ah)) Unit) :=
 bif (Aia y1 z0) then (getI z0.2 z0.1).bind λ y4 => (Az [((y4.State == 1), true)] (Mw (⟨x0.Am, (⟨y1.1.Ag, z0.2, y1.1.Ak, y1.1.Ao⟩ : Ab), x0.time⟩ : A2) z0.1) default).bind λ y6 => (Az [(((y4.State == 1) && y6), true)] (getI x0.Am.Ac z0.1) default).bind λ y8 => bif (A0n x0 y4 y6 y8) then (setI z0.2 z0.1 (⟨2, y4.Since, y4.Ar, y4.Phase⟩ : Ah)).bind λ y11 => some (.next (w64 (z0.1 + 1), y11)) else some (.next (w64 (z0.1 + 1), z0.2)) else some (.brk (z0.1, z0.2))
def Uu (x0 : A2) : Option A2 :=
 (Ak0 x0.Am x0.Au).bind λ y1 => andThen (whileN (Ut x0 y1) 1152921504606846976 (0, y1.1.Ac)) (λ _ => none) λ z0 => some (⟨x0.Am, (⟨y1.1.Ag, z0.2, y1.1.Ak, y1.1.Ao⟩ : Ab), x0.time⟩ : A2)
def Rh (x0 : Al) (x1 : Al) : Int :=
 bif (x0.Kind != x1.Kind) then w64 (x0.Kind - x1.Kind) else w64 (x0.Number - x1.Number)
def Ua (x0 : List Al) (x1 : Al) (z0 : Int × Int) : Option (Ctl (Int × Int) Unit) :=
 bif decide (z0.1 < z0.2) then (getI x0 (w64 (Hf .u64 (IntKind.wrap .u64 (w64 (z0.1 + z0.2))) 1))).bind λ y2 => bif decide ((Rh y2 x1) < 0) then some (.next (w64 ((w64 (Hf .u64 (IntKind.wrap .u64 (w64 (z0.1 + z0.2))) 1)) + 1), z0.2)) else some (.next (z0.1, w64 (Hf .u64 (IntKind.wrap .u64 (w64 (z0.1 + z0.2))) 1))) else some (.brk (z0.1, z0.2))
def Ub (x0 : List Al) (x1 : Al) : Option (Int × Bool) :=
 andThen (whileN (Ua x0 x1) 1152921504606846976 (0, (x0.length : Int))) (λ _ => none) λ z0 => (Az [(decide (z0.1 < (x0.length : Int)), true)] (getI x0 z0.1) default).bind λ y5 => some (z0.1, ((decide (z0.1 < (x0.length : Int))) && ((Rh y5 x1) == 0)))
def Pq (x0 : List Al) (x1 : Int) (x2 : List Al) : Option ((List Al)) :=
 (bndI x0.length x1 (x0.length : Int)).bind λ u2 => bif ((x2.length : Int) == 0) then some x0 else bif (x1 == (x0.length : Int)) then (appI 17 x0 x2).bind λ y5 => some y5 else insI 17 x0 x1 x2
def T_ (x0 : List Al) (x1 : Int) (x2 : Int) : Option ((List Al)) :=
 (bnd3I x0.length x1 x2 (x0.length : Int)).bind λ u2 => bif (x1 == x2) then some x0 else (bndI x0.length 0 x1).bind λ u5 => (bndI x0.length x2 (x0.length : Int)).bind λ u7 => (appPI x0 ((Int.toNat x1) - 0) ((x0.drop (Int.toNat x2)).take ((Int.toNat (x0.length : Int)) - (Int.toNat x2)))).bind λ y8 => (bndI (y8.length - 0) (((((Int.toNat x1) - 0) + ((x0.drop (Int.toNat x2)).take ((Int.toNat (x0.length : Int)) - (Int.toNat x2))).length) : Nat) : Int) (x0.length : Int)).bind λ u11 => some ((Gn y8 (0 + (Int.toNat (((((Int.toNat x1) - 0) + ((x0.drop (Int.toNat x2)).take ((Int.toNat (x0.length : Int)) - (Int.toNat x2))).length) : Nat) : Int))) ((Int.toNat (x0.length : Int)) - (Int.toNat (((((Int.toNat x1) - 0) + ((x0.drop (Int.toNat x2)).take ((Int.toNat (x0.length : Int)) - (Int.toNat x2))).length) : Nat) : Int))) (⟨0, 0⟩ : Al)).take (((Int.toNat x1) - 0) + ((x0.drop (Int.toNat x2)).take ((Int.toNat (x0.length : Int)) - (Int.toNat x2))).length))
def Q0 (x0 : A2) (x2 : Bool) : Bool := (x2 && (decide ((x0.Au.Ao.length : Int) >= 32)))
def Nx (x0 : A2) (x1 : Al) (x2 : Bool) (y1 : Int × Bool) : Option (Ctl ((List Al)) Unit) :=
 bif x2 then (Pq x0.Au.Ao y1.1 [x1]).bind λ y6 => some (.next y6) else (T_ x0.Au.Ao y1.1 (w64 (y1.1 + 1))).bind λ y8 => some (.next y8)
def Hv (x0 : A2) (x1 : Al) (x2 : Bool) : Option (Int × A2) :=
 (Ub x0.Au.Ao x1).bind λ y1 => bif (y1.2 == x2) then some (11, x0) else bif (Q0 x0 x2) then some (2, x0) else andThen (Nx x0 x1 x2 y1) (λ _ => none) λ z0 => bif (x1.Kind == 1) then (getI x0.Au.Ac x1.Number).bind λ y11 => (setI x0.Au.Ac x1.Number (⟨0, y11.Since, y11.Ar, y11.Phase⟩ : Ah)).bind λ y13 => bif x2 then (getI y13 x1.Number).bind λ y16 => (setI y13 x1.Number (⟨3, y16.Since, y16.Ar, y16.Phase⟩ : Ah)).bind λ y18 => some (0, (⟨x0.Am, (⟨x0.Au.Ag, y18, x0.Au.Ak, z0⟩ : Ab), x0.time⟩ : A2)) else some (0, (⟨x0.Am, (⟨x0.Au.Ag, y13, x0.Au.Ak, z0⟩ : Ab), x0.time⟩ : A2)) else some (0, (⟨x0.Am, (⟨x0.Au.Ag, x0.Au.Ac, x0.Au.Ak, z0⟩ : Ab), x0.time⟩ : A2))
def U2 (x0 : A2) (x1 : An) : Option (Int × A2) :=
 bif (x1.Kind == 1) then (Ala x0.Am x0.Au x1.Unit).bind λ y2 => some (y2.2, (⟨x0.Am, y2.1, x0.time⟩ : A2)) else bif (x1.Kind == 2) then (Ak9 x0.Am x0.Au x1.Unit).bind λ y5 => some (y5.2, (⟨x0.Am, y5.1, x0.time⟩ : A2)) else bif (x1.Kind == 6) then (Ak8 x0.Am x0.Au x1.Unit x1.Value).bind λ y8 => some (y8.2, (⟨x0.Am, y8.1, x0.time⟩ : A2)) else bif (x1.Kind == 3) then (Ux x0 x1.Unit).bind λ y11 => some (y11.1, y11.2) else bif (x1.Kind == 4) then (Uw x0 x1.Unit).bind λ y14 => some (y14.1, y14.2) else bif (x1.Kind == 5) then (Uv x0 x1.Unit x1.Value).bind λ y17 => some (y17.1, y17.2) else bif (x1.Kind == 7) then (Uu x0).bind λ y20 => some (0, y20) else (Hv x0 (⟨x1.Value, x1.Unit⟩ : Al) (x1.Kind == 8)).bind λ y22 => some (y22.1, y22.2)
def A2h (x2 : Int) (x3 : An) : Bool := ((((decide (x2 < 0)) || (decide (x2 > 2147483648))) || (decide (x3.Kind < 1))) || (decide (x3.Kind > 9)))
def F83 (x0 : Aa) (x1 : Ab) (x2 : Int) (x3 : An) : Option (Ab × Int) :=
 (F43 x0 x1).bind λ y1 => bif (y1 != 0) then some ((⟨([] : List Bool), ([] : List Ah), ([] : List Int), ([] : List Al)⟩ : Ab), y1) else bif (A2h x2 x3) then some ((⟨([] : List Bool), ([] : List Ah), ([] : List Int), ([] : List Al)⟩ : Ab), 1) else (Alj x0 x3).bind λ y5 => bif !y5 then some ((⟨([] : List Bool), ([] : List Ah), ([] : List Int), ([] : List Al)⟩ : Ab), 10) else (Ij x1).bind λ y8 => (U2 (⟨x0, y8, x2⟩ : A2) x3).bind λ y10 => bif (y10.1 != 0) then some ((⟨([] : List Bool), ([] : List Ah), ([] : List Int), ([] : List Al)⟩ : Ab), y10.1) else some (y10.2.Au, 0)
def Pw (x0 : A4) (x1 : An) (x2 : Int) : Option A4 :=
 (appI 41 x0.events [(⟨x0.Ay.Time, x1, x2⟩ : Bl)]).bind λ y1 => some (⟨x0.Ay, x0.Am, y1, x0.states⟩ : A4)
def Nt (x0 : A4) (x1 : Ab) : Option A4 :=
 (Ij x1).bind λ y3 => (appI 97 x0.states [y3]).bind λ y5 => some (⟨x0.Ay, x0.Am, x0.events, y5⟩ : A4)
def Kz (x0 : Int) (x1 : Int) (x2 : Ax) : Option (Bool × Ax) :=
 (Hw x2.Au x0 x1).bind λ y1 => some (y1, x2)
def Uj (x0 : Ax) (x1 : Aj) : Option (Bool × Ax) :=
 (Kz 3 x1.A x0).bind λ y1 => bif y1.1 then some (true, y1.2) else bif (x1.Kind == 1) then (Kz 3 x1.B y1.2).bind λ y5 => some (y5.1, y5.2) else bif (x1.Kind == 2) then (Kz 1 x1.B y1.2).bind λ y8 => (Az [(y8.1, false)] (getI y8.2.Au.Ac x1.B) default).bind λ y10 => some ((y8.1 || (y10.State != 2)), y8.2) else (Kz 4 x1.B y1.2).bind λ y12 => some (y12.1, y12.2)
def Mv (x0 : Ax) (x1 : Int) : Option Ax :=
 (getI x0.Au.Ag x1).bind λ y1 => (setI x0.Au.Ag x1 false).bind λ y3 => (appI 25 x0.acts [(⟨2, x1, 0⟩ : An)]).bind λ y5 => some (⟨x0.Am, (⟨y3, x0.Au.Ac, x0.Au.Ak, x0.Au.Ao⟩ : Ab), y5⟩ : Ax)
def Uo (n0 : Nat) (a0 : Aj) (z0 : Sg8) : Option (Ctl (Sg8) Unit) :=
 (getI z0.2.2.2.2.2.2.2.1 (cnt 0 n0)).bind λ y1 => (Az [(y1, true)] (Uj (⟨(⟨z0.1, z0.2.1, z0.2.2.1, z0.2.2.2.1, z0.2.2.2.2.1, z0.2.2.2.2.2.1⟩ : Aa), (⟨z0.2.2.2.2.2.2.2.1, z0.2.2.2.2.2.2.2.2.1, z0.2.2.2.2.2.2.2.2.2.1, z0.2.2.2.2.2.2.2.2.2.2.1⟩ : Ab), z0.2.2.2.2.2.2.2.2.2.2.2⟩ : Ax) a0) (default, (⟨(⟨z0.1, z0.2.1, z0.2.2.1, z0.2.2.2.1, z0.2.2.2.2.1, z0.2.2.2.2.2.1⟩ : Aa), (⟨z0.2.2.2.2.2.2.2.1, z0.2.2.2.2.2.2.2.2.1, z0.2.2.2.2.2.2.2.2.2.1, z0.2.2.2.2.2.2.2.2.2.2.1⟩ : Ab), z0.2.2.2.2.2.2.2.2.2.2.2⟩ : Ax))).bind λ y3 => bif (y1 && y3.1) then (appI 9 z0.2.2.2.2.2.2.1 [cnt 0 n0]).bind λ y6 => some (.next (y3.2.Am.Aq, y3.2.Am.Ae, y3.2.Am.Ac, y3.2.Am.Ad, y3.2.Am.Phase, y3.2.Am.Ar, y6, y3.2.Au.Ag, y3.2.Au.Ac, y3.2.Au.Ak, y3.2.Au.Ao, y3.2.acts)) else some (.next (y3.2.Am.Aq, y3.2.Am.Ae, y3.2.Am.Ac, y3.2.Am.Ad, y3.2.Am.Phase, y3.2.Am.Ar, z0.2.2.2.2.2.2.1, y3.2.Au.Ag, y3.2.Au.Ac, y3.2.Au.Ak, y3.2.Au.Ao, y3.2.acts))
def Nw (n1 : Nat) (a1 : Int) (z1 : Sg7) : Option (Ctl (Sg7) Unit) :=
 (Mv (⟨(⟨z1.1, z1.2.1, z1.2.2.1, z1.2.2.2.1, z1.2.2.2.2.1, z1.2.2.2.2.2.1⟩ : Aa), (⟨z1.2.2.2.2.2.2.1, z1.2.2.2.2.2.2.2.1, z1.2.2.2.2.2.2.2.2.1, z1.2.2.2.2.2.2.2.2.2.1⟩ : Ab), z1.2.2.2.2.2.2.2.2.2.2⟩ : Ax) a1).bind λ y8 => some (.next (y8.Am.Aq, y8.Am.Ae, y8.Am.Ac, y8.Am.Ad, y8.Am.Phase, y8.Am.Ar, y8.Au.Ag, y8.Au.Ac, y8.Au.Ak, y8.Au.Ao, y8.acts))
def Uq (x0 : Ax) : Option Ax :=
 andThen (foldI Uo x0.Am.Ae 0 (x0.Am.Aq, x0.Am.Ae, x0.Am.Ac, x0.Am.Ad, x0.Am.Phase, x0.Am.Ar, ([] : List Int), x0.Au.Ag, x0.Au.Ac, x0.Au.Ak, x0.Au.Ao, x0.acts)) (λ _ => none) λ z0 => andThen (foldI Nw z0.2.2.2.2.2.2.1 0 (z0.1, z0.2.1, z0.2.2.1, z0.2.2.2.1, z0.2.2.2.2.1, z0.2.2.2.2.2.1, z0.2.2.2.2.2.2.2.1, z0.2.2.2.2.2.2.2.2.1, z0.2.2.2.2.2.2.2.2.2.1, z0.2.2.2.2.2.2.2.2.2.2.1, z0.2.2.2.2.2.2.2.2.2.2.2)) (λ _ => none) λ z1 => some (⟨(⟨z1.1, z1.2.1, z1.2.2.1, z1.2.2.2.1, z1.2.2.2.2.1, z1.2.2.2.2.2.1⟩ : Aa), (⟨z1.2.2.2.2.2.2.1, z1.2.2.2.2.2.2.2.1, z1.2.2.2.2.2.2.2.2.1, z1.2.2.2.2.2.2.2.2.2.1⟩ : Ab), z1.2.2.2.2.2.2.2.2.2.2⟩ : Ax)
def U5 (x0 : Aa) (x1 : Ab) (x2 : Int) : Option Bool :=
 (G9 x0 x1 x2).bind λ y1 => some (decide ((y1.1.Ac.length : Int) > 0))
def Ui (x0 : Aj) (x1 : Ax) : Option (Bool × Ax) :=
 (Az [((x0.Kind == 3), true)] (U5 x1.Am x1.Au x0.A) default).bind λ y1 => some (((x0.Kind == 3) && (!y1)), x1)
def Um (n0 : Nat) (a0 : Aj) (z0 : Sg8) : Option (Ctl (Sg8) Unit) :=
 (getI z0.2.2.2.2.2.2.2.1 (cnt 0 n0)).bind λ y1 => (Az [(y1, true)] (Ui a0 (⟨(⟨z0.1, z0.2.1, z0.2.2.1, z0.2.2.2.1, z0.2.2.2.2.1, z0.2.2.2.2.2.1⟩ : Aa), (⟨z0.2.2.2.2.2.2.2.1, z0.2.2.2.2.2.2.2.2.1, z0.2.2.2.2.2.2.2.2.2.1, z0.2.2.2.2.2.2.2.2.2.2.1⟩ : Ab), z0.2.2.2.2.2.2.2.2.2.2.2⟩ : Ax)) (default, (⟨(⟨z0.1, z0.2.1, z0.2.2.1, z0.2.2.2.1, z0.2.2.2.2.1, z0.2.2.2.2.2.1⟩ : Aa), (⟨z0.2.2.2.2.2.2.2.1, z0.2.2.2.2.2.2.2.2.1, z0.2.2.2.2.2.2.2.2.2.1, z0.2.2.2.2.2.2.2.2.2.2.1⟩ : Ab), z0.2.2.2.2.2.2.2.2.2.2.2⟩ : Ax))).bind λ y3 => bif (y1 && y3.1) then (appI 9 z0.2.2.2.2.2.2.1 [cnt 0 n0]).bind λ y6 => some (.next (y3.2.Am.Aq, y3.2.Am.Ae, y3.2.Am.Ac, y3.2.Am.Ad, y3.2.Am.Phase, y3.2.Am.Ar, y6, y3.2.Au.Ag, y3.2.Au.Ac, y3.2.Au.Ak, y3.2.Au.Ao, y3.2.acts)) else some (.next (y3.2.Am.Aq, y3.2.Am.Ae, y3.2.Am.Ac, y3.2.Am.Ad, y3.2.Am.Phase, y3.2.Am.Ar, z0.2.2.2.2.2.2.1, y3.2.Au.Ag, y3.2.Au.Ac, y3.2.Au.Ak, y3.2.Au.Ao, y3.2.acts))
def Adl (n1 : Nat) (a1 : Int) (z1 : Sg7) : Option (Ctl (Sg7) Unit) :=
 (Mv (⟨(⟨z1.1, z1.2.1, z1.2.2.1, z1.2.2.2.1, z1.2.2.2.2.1, z1.2.2.2.2.2.1⟩ : Aa), (⟨z1.2.2.2.2.2.2.1, z1.2.2.2.2.2.2.2.1, z1.2.2.2.2.2.2.2.2.1, z1.2.2.2.2.2.2.2.2.2.1⟩ : Ab), z1.2.2.2.2.2.2.2.2.2.2⟩ : Ax) a1).bind λ y8 => some (.next (y8.Am.Aq, y8.Am.Ae, y8.Am.Ac, y8.Am.Ad, y8.Am.Phase, y8.Am.Ar, y8.Au.Ag, y8.Au.Ac, y8.Au.Ak, y8.Au.Ao, y8.acts))
def Un (x0 : Ax) : Option Ax :=
 andThen (foldI Um x0.Am.Ae 0 (x0.Am.Aq, x0.Am.Ae, x0.Am.Ac, x0.Am.Ad, x0.Am.Phase, x0.Am.Ar, ([] : List Int), x0.Au.Ag, x0.Au.Ac, x0.Au.Ak, x0.Au.Ao, x0.acts)) (λ _ => none) λ z0 => andThen (foldI Adl z0.2.2.2.2.2.2.1 0 (z0.1, z0.2.1, z0.2.2.1, z0.2.2.2.1, z0.2.2.2.2.1, z0.2.2.2.2.2.1, z0.2.2.2.2.2.2.2.1, z0.2.2.2.2.2.2.2.2.1, z0.2.2.2.2.2.2.2.2.2.1, z0.2.2.2.2.2.2.2.2.2.2.1, z0.2.2.2.2.2.2.2.2.2.2.2)) (λ _ => none) λ z1 => some (⟨(⟨z1.1, z1.2.1, z1.2.2.1, z1.2.2.2.1, z1.2.2.2.2.1, z1.2.2.2.2.2.1⟩ : Aa), (⟨z1.2.2.2.2.2.2.1, z1.2.2.2.2.2.2.2.1, z1.2.2.2.2.2.2.2.2.1, z1.2.2.2.2.2.2.2.2.2.1⟩ : Ab), z1.2.2.2.2.2.2.2.2.2.2⟩ : Ax)
def Uz (x0 : Ax) : Option Ax :=
 (Uq x0).bind λ y1 => (Un y1).bind λ y3 => (F57 y3.Am y3.Au).bind λ y5 => some (⟨y3.Am, y5.1, y3.acts⟩ : Ax)
def Mu (x0 : Int) (x1 : Int) (x2 : Aa) : Option Int :=
 (getI x2.Ad x0).bind λ y1 => (getI x2.Ad x1).bind λ y3 => some (J9 y1.Bn y3.Bn)
def X4 (x1 : Int) (z1 : Int × (List Int)) (y12 : Int) : Bool := ((decide (z1.1 > x1)) && (decide (y12 < 0)))
def Nu (x1 : Int) (x3c0 : Aa) (z1 : Int × (List Int)) : Option (Ctl (Int × (List Int)) Unit) :=
 (Az [(decide (z1.1 > x1), true)] (getI z1.2 z1.1) default).bind λ y8 => (Az [(decide (z1.1 > x1), true)] (getI z1.2 (w64 (z1.1 - 1))) default).bind λ y10 => (Az [(decide (z1.1 > x1), true)] (Mu y8 y10 x3c0) default).bind λ y12 => bif (X4 x1 z1 y12) then (getI z1.2 (w64 (z1.1 - 1))).bind λ y15 => (getI z1.2 z1.1).bind λ y17 => (setI z1.2 z1.1 y15).bind λ y19 => (getI y19 (w64 (z1.1 - 1))).bind λ y21 => (setI y19 (w64 (z1.1 - 1)) y17).bind λ y23 => some (.next (w64 (z1.1 - 1), y23)) else some (.brk (z1.1, z1.2))
def T4 (x1 : Int) (x2 : Int) (x3c0 : Aa) (z0 : Int × (List Int)) : Option (Ctl (Int × (List Int)) Unit) :=
 bif decide (z0.1 < x2) then andThen (whileN (Nu x1 x3c0) 1152921504606846976 (z0.1, z0.2)) (λ _ => none) λ z1 => some (.next (w64 (z0.1 + 1), z1.2)) else some (.brk (z0.1, z0.2))
def T5 (x0 : List Int) (x1 : Int) (x2 : Int) (x3c0 : Aa) : Option ((List Int) × Aa) :=
 andThen (whileN (T4 x1 x2 x3c0) 1152921504606846976 (w64 (x1 + 1), x0)) (λ _ => none) λ z0 => some (z0.2, x3c0)
def T7 (x1 : Int) (z0 : Sg9) : Option (Ctl (Sg9) Unit) :=
 bif decide (z0.2.1 <= x1) then (T5 z0.2.2.1 z0.1 z0.2.1 (⟨z0.2.2.2.1, z0.2.2.2.2.1, z0.2.2.2.2.2.1, z0.2.2.2.2.2.2.1, z0.2.2.2.2.2.2.2.1, z0.2.2.2.2.2.2.2.2⟩ : Aa)).bind λ y2 => some (.next (z0.2.1, w64 (z0.2.1 + 20), y2.1, y2.2.Aq, y2.2.Ae, y2.2.Ac, y2.2.Ad, y2.2.Phase, y2.2.Ar)) else some (.brk (z0.1, z0.2.1, z0.2.2.1, z0.2.2.2.1, z0.2.2.2.2.1, z0.2.2.2.2.2.1, z0.2.2.2.2.2.2.1, z0.2.2.2.2.2.2.2.1, z0.2.2.2.2.2.2.2.2))
def A_r (x1 : Int) (z2 : Unit) : Option (Ctl Unit Unit) :=
 bif decide (40 <= x1) then none else some (.brk ())
def T6 (x1 : Int) (z1 : Unit) : Option (Ctl Unit Unit) :=
 bif decide (20 < x1) then none else some (.brk ())
def qZ (x0 : List Int) (x1 : Int) (x2c0 : Aa) : Option ((List Int) × Aa) :=
 andThen (whileN (T7 x1) 1152921504606846976 (0, 20, x0, x2c0.Aq, x2c0.Ae, x2c0.Ac, x2c0.Ad, x2c0.Phase, x2c0.Ar)) (λ _ => none) λ z0 => (T5 z0.2.2.1 z0.1 x1 (⟨z0.2.2.2.1, z0.2.2.2.2.1, z0.2.2.2.2.2.1, z0.2.2.2.2.2.2.1, z0.2.2.2.2.2.2.2.1, z0.2.2.2.2.2.2.2.2⟩ : Aa)).bind λ y4 => andThen (whileN (T6 x1) 1152921504606846976 ()) (λ _ => none) λ z1 => some (y4.1, y4.2)
def T9 (x0 : List Int) (x1c0 : Aa) : Option ((List Int) × Aa) :=
 (qZ x0 (x0.length : Int) x1c0).bind λ y1 => some (y1.1, y1.2)
def Aws (x0 : Aa) (z0 : Int × (List Int)) : Bool := decide (z0.1 < (x0.Ad.length : Int))
def zH (x0 : Aa) (z0 : Int × (List Int)) : Option (Ctl (Int × (List Int)) Unit) :=
 bif (Aws x0 z0) then (appI 9 z0.2 [z0.1]).bind λ y5 => some (.next (w64 (z0.1 + 1), y5)) else some (.brk (z0.1, z0.2))
def Y1 (x0 : Aa) : Option ((List Int)) :=
 (F85 x0).bind λ y1 => bif (y1 != 0) then some ([] : List Int) else andThen (whileN (zH x0) 1152921504606846976 (0, ([] : List Int))) (λ _ => none) λ z0 => (T9 z0.2 x0).bind λ y7 => some y7.1
def Pt (x0 : Int) (x1 : Af) : Option Bool :=
 (Mx x1.Ad x0).bind λ y1 => some (!y1)
def Ny (x1c0 : Af) (n0 : Nat) (a0 : Int) (z0 : Unit) : Option (Ctl Unit (Int × Af)) :=
 (Pt a0 x1c0).bind λ y1 => bif y1 then some (.ret (cnt 0 n0, x1c0)) else some (.next ())
def uF (x0 : List Int) (x1c0 : Af) : Option (Int × Af) :=
 andThen (foldI (Ny x1c0) x0 0 ()) some λ z0 => some ((-1), x1c0)
def Ah9 (z0 : Int × Int × (List Int)) : Bool := decide (z0.2.1 < (z0.2.2.length : Int))
def Ug (y1 : Int × Af) (z0 : Int × Int × (List Int)) : Option (Ctl (Int × Int × (List Int)) Unit) :=
 bif (Ah9 z0) then (getI z0.2.2 z0.2.1).bind λ y5 => (Pt y5 y1.2).bind λ y7 => bif !y7 then (getI z0.2.2 z0.1).bind λ y10 => (setI z0.2.2 z0.1 y5).bind λ y12 => some (.next (w64 (z0.1 + 1), w64 (z0.2.1 + 1), y12)) else some (.next (z0.1, w64 (z0.2.1 + 1), z0.2.2)) else some (.brk (z0.1, z0.2.1, z0.2.2))
def Uh (x0 : List Int) (x1c0 : Af) : Option ((List Int) × Af) :=
 (uF x0 x1c0).bind λ y1 => bif (y1.1 == (-1)) then some (x0, y1.2) else andThen (whileN (Ug y1) 1152921504606846976 (y1.1, w64 (y1.1 + 1), x0)) (λ _ => none) λ z0 => (bndI z0.2.2.length z0.1 (z0.2.2.length : Int)).bind λ u15 => (bndI (Gn z0.2.2 (Int.toNat z0.1) ((Int.toNat (z0.2.2.length : Int)) - (Int.toNat z0.1)) 0).length 0 z0.1).bind λ u17 => some (((Gn z0.2.2 (Int.toNat z0.1) ((Int.toNat (z0.2.2.length : Int)) - (Int.toNat z0.1)) 0).take ((Int.toNat z0.1) - 0)), y1.2)
def Wh (x1 : Ab) (y1 : Af × Bool) (n0 : Nat) (a0 : Int) (z0 : Int) : Option (Ctl Int Unit) :=
 bif decide ((y1.1.Ac.length : Int) > 0) then (getI x1.Ak a0).bind λ y4 => some (.next (w64 (z0 + y4))) else some (.next z0)
def Uc (x0 : Aa) (x1 : Ab) (x2 : Int) : Option Int :=
 (G9 x0 x1 x2).bind λ y1 => andThen (foldI (Wh x1 y1) y1.1.Ad 0 0) (λ _ => none) λ z0 => some z0
def zG (x0 : Aa) (n0 : Nat) (a0 : Int) (z0 : Int) : Option (Ctl Int Unit) :=
 (getI x0.Ac a0).bind λ y3 => some (.next (w64 (z0 + y3.Rating)))
def Ud (x0 : Aa) (x1 : Ab) (x2 : Int) : Option Int :=
 (G9 x0 x1 x2).bind λ y1 => andThen (foldI (zG x0) y1.1.Ac 0 0) (λ _ => none) λ z0 => some z0
def Pp (x0 : Ax) (x1 : Int) : Option Int :=
 (Uc x0.Am x0.Au x1).bind λ y1 => (Ud x0.Am x0.Au x1).bind λ y3 => some (max 0 (w64 (y1 - y3)))
def Ajw (n0 : Nat) (a0 : Int) (z0 : (List Af)) : Option (Ctl ((List Af)) Unit) :=
 (getI z0 a0).bind λ y8 => (appI 9 y8.Aq [cnt 0 n0]).bind λ y10 => (setI z0 a0 (⟨y10, y8.Ac, y8.Ad⟩ : Af)).bind λ y12 => some (.next y12)
def A4b (x0 : Aa) (z1 : Int × (List Af)) : Bool := decide (z1.1 < (x0.Ac.length : Int))
def Ajv (x0 : Aa) (x1 : Ab) (y4 : (List Int)) (z1 : Int × (List Af)) : Option (Ctl (Int × (List Af)) Unit) :=
 bif (A4b x0 z1) then (Y5 x0 x1 z1.1).bind λ y15 => bif y15.2 then (getI y4 y15.1).bind λ y18 => (getI z1.2 y18).bind λ y20 => (appI 9 y20.Ac [z1.1]).bind λ y22 => (setI z1.2 y18 (⟨y20.Aq, y22, y20.Ad⟩ : Af)).bind λ y24 => some (.next (w64 (z1.1 + 1), y24)) else some (.next (w64 (z1.1 + 1), z1.2)) else some (.brk (z1.1, z1.2))
def A4a (x0 : Aa) (z2 : Int × (List Af)) : Bool := decide (z2.1 < (x0.Ad.length : Int))
def Aju (x0 : Aa) (x1 : Ab) (y4 : (List Int)) (z2 : Int × (List Af)) : Option (Ctl (Int × (List Af)) Unit) :=
 bif (A4a x0 z2) then (Y4 x0 x1 z2.1).bind λ y27 => bif y27.2 then (getI y4 y27.1).bind λ y30 => (getI z2.2 y30).bind λ y32 => (appI 9 y32.Ad [z2.1]).bind λ y34 => (setI z2.2 y30 (⟨y32.Aq, y32.Ac, y34⟩ : Af)).bind λ y36 => some (.next (w64 (z2.1 + 1), y36)) else some (.next (w64 (z2.1 + 1), z2.2)) else some (.brk (z2.1, z2.2))
def Aew (x0 : Aa) (x1 : Ab) : Option ((List Af)) :=
 (F43 x0 x1).bind λ y1 => bif (y1 != 0) then some ([] : List Af) else (zT x0 x1).bind λ y4 => (mkI 73 x0.Aq (⟨([] : List Int), ([] : List Int), ([] : List Int)⟩ : Af)).bind λ y6 => andThen (foldI Ajw y4 0 y6) (λ _ => none) λ z0 => andThen (whileN (Ajv x0 x1 y4) 1152921504606846976 (0, z0)) (λ _ => none) λ z1 => andThen (whileN (Aju x0 x1 y4) 1152921504606846976 (0, z1.2)) (λ _ => none) λ z2 => (Pv z2.2).bind λ y38 => some y38
def X5 (y1 : Int) (y3 : Int) (y5 : A1) : Bool := decide ((min y1 (w64 (y3 - y5.Least))) > 0)
def Uf (x0 : Ax) (x2 : Int) (n0 : Nat) (a0 : Int) (z0 : (List Int) × (List An)) : Option (Ctl ((List Int) × (List An)) Unit) :=
 (Pp (⟨x0.Am, (⟨x0.Au.Ag, x0.Au.Ac, z0.1, x0.Au.Ao⟩ : Ab), z0.2⟩ : Ax) x2).bind λ y1 => (getI z0.1 a0).bind λ y3 => (getI x0.Am.Ad a0).bind λ y5 => bif (X5 y1 y3 y5) then (setI z0.1 a0 (w64 (y3 - (min y1 (w64 (y3 - y5.Least)))))).bind λ y8 => (getI y8 a0).bind λ y10 => (appI 25 z0.2 [(⟨5, a0, y10⟩ : An)]).bind λ y12 => some (.next (y8, y12)) else some (.next (z0.1, z0.2))
def Ps (x0 : Ax) (x1 : List Int) (x2 : Int) : Option Ax :=
 andThen (foldI (Uf x0 x2) x1 0 (x0.Au.Ak, x0.acts)) (λ _ => none) λ z0 => some (⟨x0.Am, (⟨x0.Au.Ag, x0.Au.Ac, z0.1, x0.Au.Ao⟩ : Ab), z0.2⟩ : Ax)
def T8 (x0 : Aj) (x1 : Int) : Bool :=
 ((x0.Kind == 3) && (x0.B == x1))
def Uk (x0 : Ax) (x1c0 : Int) (n0 : Nat) (a0 : Aj) (z0 : (List Int)) : Option (Ctl ((List Int)) Unit) :=
 (getI x0.Au.Ag (cnt 0 n0)).bind λ y1 => bif (y1 && (T8 a0 x1c0)) then (appI 9 z0 [cnt 0 n0]).bind λ y4 => some (.next y4) else some (.next z0)
def Adk (n1 : Nat) (a1 : Int) (z1 : Sg7) : Option (Ctl (Sg7) Unit) :=
 (Mv (⟨(⟨z1.1, z1.2.1, z1.2.2.1, z1.2.2.2.1, z1.2.2.2.2.1, z1.2.2.2.2.2.1⟩ : Aa), (⟨z1.2.2.2.2.2.2.1, z1.2.2.2.2.2.2.2.1, z1.2.2.2.2.2.2.2.2.1, z1.2.2.2.2.2.2.2.2.2.1⟩ : Ab), z1.2.2.2.2.2.2.2.2.2.2⟩ : Ax) a1).bind λ y6 => some (.next (y6.Am.Aq, y6.Am.Ae, y6.Am.Ac, y6.Am.Ad, y6.Am.Phase, y6.Am.Ar, y6.Au.Ag, y6.Au.Ac, y6.Au.Ak, y6.Au.Ao, y6.acts))
def Ul (x0 : Ax) (x1c0 : Int) : Option (Ax × Int) :=
 andThen (foldI (Uk x0 x1c0) x0.Am.Ae 0 ([] : List Int)) (λ _ => none) λ z0 => andThen (foldI Adk z0 0 (x0.Am.Aq, x0.Am.Ae, x0.Am.Ac, x0.Am.Ad, x0.Am.Phase, x0.Am.Ar, x0.Au.Ag, x0.Au.Ac, x0.Au.Ak, x0.Au.Ao, x0.acts)) (λ _ => none) λ z1 => some ((⟨(⟨z1.1, z1.2.1, z1.2.2.1, z1.2.2.2.1, z1.2.2.2.2.1, z1.2.2.2.2.2.1⟩ : Aa), (⟨z1.2.2.2.2.2.2.1, z1.2.2.2.2.2.2.2.1, z1.2.2.2.2.2.2.2.2.1, z1.2.2.2.2.2.2.2.2.2.1⟩ : Ab), z1.2.2.2.2.2.2.2.2.2.2⟩ : Ax), x1c0)
def Ue (x2 : Int) (n0 : Nat) (a0 : Int) (z0 : Sg7) : Option (Ctl (Sg7) Unit) :=
 (getI z0.2.2.2.2.2.2.2.2.1 a0).bind λ y1 => (Az [(decide (y1 > 0), true)] (Pp (⟨(⟨z0.1, z0.2.1, z0.2.2.1, z0.2.2.2.1, z0.2.2.2.2.1, z0.2.2.2.2.2.1⟩ : Aa), (⟨z0.2.2.2.2.2.2.1, z0.2.2.2.2.2.2.2.1, z0.2.2.2.2.2.2.2.2.1, z0.2.2.2.2.2.2.2.2.2.1⟩ : Ab), z0.2.2.2.2.2.2.2.2.2.2⟩ : Ax) x2) default).bind λ y3 => bif ((decide (y1 > 0)) && (decide (y3 > 0))) then (Ul (⟨(⟨z0.1, z0.2.1, z0.2.2.1, z0.2.2.2.1, z0.2.2.2.2.1, z0.2.2.2.2.2.1⟩ : Aa), (⟨z0.2.2.2.2.2.2.1, z0.2.2.2.2.2.2.2.1, z0.2.2.2.2.2.2.2.2.1, z0.2.2.2.2.2.2.2.2.2.1⟩ : Ab), z0.2.2.2.2.2.2.2.2.2.2⟩ : Ax) a0).bind λ y6 => some (.next (y6.1.Am.Aq, y6.1.Am.Ae, y6.1.Am.Ac, y6.1.Am.Ad, y6.1.Am.Phase, y6.1.Am.Ar, y6.1.Au.Ag, y6.1.Au.Ac, y6.1.Au.Ak, y6.1.Au.Ao, y6.1.acts)) else some (.next (z0.1, z0.2.1, z0.2.2.1, z0.2.2.2.1, z0.2.2.2.2.1, z0.2.2.2.2.2.1, z0.2.2.2.2.2.2.1, z0.2.2.2.2.2.2.2.1, z0.2.2.2.2.2.2.2.2.1, z0.2.2.2.2.2.2.2.2.2.1, z0.2.2.2.2.2.2.2.2.2.2))
def Pr (x0 : Ax) (x1 : List Int) (x2 : Int) : Option Ax :=
 andThen (foldI (Ue x2) x1 0 (x0.Am.Aq, x0.Am.Ae, x0.Am.Ac, x0.Am.Ad, x0.Am.Phase, x0.Am.Ar, x0.Au.Ag, x0.Au.Ac, x0.Au.Ak, x0.Au.Ao, x0.acts)) (λ _ => none) λ z0 => some (⟨(⟨z0.1, z0.2.1, z0.2.2.1, z0.2.2.2.1, z0.2.2.2.2.1, z0.2.2.2.2.2.1⟩ : Aa), (⟨z0.2.2.2.2.2.2.1, z0.2.2.2.2.2.2.2.1, z0.2.2.2.2.2.2.2.2.1, z0.2.2.2.2.2.2.2.2.2.1⟩ : Ab), z0.2.2.2.2.2.2.2.2.2.2⟩ : Ax)
def Uy (y1 : (List Int)) (n0 : Nat) (a0 : Af) (z0 : Sg7) : Option (Ctl (Sg7) Unit) :=
 (Y3 y1).bind λ y5 => (Uh y5 a0).bind λ y7 => bif decide ((y7.2.Ac.length : Int) > 0) then (getI y7.2.Aq 0).bind λ y10 => (Ps (⟨(⟨z0.1, z0.2.1, z0.2.2.1, z0.2.2.2.1, z0.2.2.2.2.1, z0.2.2.2.2.2.1⟩ : Aa), (⟨z0.2.2.2.2.2.2.1, z0.2.2.2.2.2.2.2.1, z0.2.2.2.2.2.2.2.2.1, z0.2.2.2.2.2.2.2.2.2.1⟩ : Ab), z0.2.2.2.2.2.2.2.2.2.2⟩ : Ax) y7.1 y10).bind λ y12 => (getI y7.2.Aq 0).bind λ y14 => (Pr y12 y7.1 y14).bind λ y16 => some (.next (y16.Am.Aq, y16.Am.Ae, y16.Am.Ac, y16.Am.Ad, y16.Am.Phase, y16.Am.Ar, y16.Au.Ag, y16.Au.Ac, y16.Au.Ak, y16.Au.Ao, y16.acts)) else some (.next (z0.1, z0.2.1, z0.2.2.1, z0.2.2.2.1, z0.2.2.2.2.1, z0.2.2.2.2.2.1, z0.2.2.2.2.2.2.1, z0.2.2.2.2.2.2.2.1, z0.2.2.2.2.2.2.2.2.1, z0.2.2.2.2.2.2.2.2.2.1, z0.2.2.2.2.2.2.2.2.2.2))
def Pu (x0 : Ax) : Option Ax :=
 (Y1 x0.Am).bind λ y1 => (Aew x0.Am x0.Au).bind λ y3 => andThen (foldI (Uy y1) y3 0 (x0.Am.Aq, x0.Am.Ae, x0.Am.Ac, x0.Am.Ad, x0.Am.Phase, x0.Am.Ar, x0.Au.Ag, x0.Au.Ac, x0.Au.Ak, x0.Au.Ao, x0.acts)) (λ _ => none) λ z0 => some (⟨(⟨z0.1, z0.2.1, z0.2.2.1, z0.2.2.2.1, z0.2.2.2.2.1, z0.2.2.2.2.2.1⟩ : Aa), (⟨z0.2.2.2.2.2.2.1, z0.2.2.2.2.2.2.2.1, z0.2.2.2.2.2.2.2.2.1, z0.2.2.2.2.2.2.2.2.2.1⟩ : Ab), z0.2.2.2.2.2.2.2.2.2.2⟩ : Ax)
def uD (x0 : Ax) : Option Ax :=
 (Uz x0).bind λ y1 => (Pu y1).bind λ y3 => some y3
def uE (x0 : Aa) (x1 : Ab) : Option (Ab × (List An) × Int) :=
 (F43 x0 x1).bind λ y1 => bif (y1 != 0) then some ((⟨([] : List Bool), ([] : List Ah), ([] : List Int), ([] : List Al)⟩ : Ab), ([] : List An), y1) else (Ij x1).bind λ y4 => (uD (⟨x0, y4, ([] : List An)⟩ : Ax)).bind λ y6 => some (y6.Au, y6.acts, 0)
def Alm (x0 : Aa) (x1 : Ab) : Option (Ab × (List An) × Int) :=
 (uE x0 x1).bind λ y1 => some (y1.1, y1.2.1, y1.2.2)
def Aae (x1 : List Bool) (n0 : Nat) (a0 : Bool) (z0 : Unit) : Option (Ctl Unit Bool) :=
 (getI x1 (cnt 0 n0)).bind λ y2 => bif !(a0 == y2) then some (.ret false) else some (.next ())
def Als (x0 : List Bool) (x1 : List Bool) : Option Bool :=
 bif ((x0.length : Int) != (x1.length : Int)) then some false else andThen (foldI (Aae x1) x0 0 ()) some λ z0 => some true
def A8s (a0 : Ah) (y2 : Ah) : Bool := !((a0.State == y2.State) && ((a0.Since == y2.Since) && ((a0.Ar == y2.Ar) && ((a0.Phase == y2.Phase) && true))))
def Aad (x1 : List Ah) (n0 : Nat) (a0 : Ah) (z0 : Unit) : Option (Ctl Unit Bool) :=
 (getI x1 (cnt 0 n0)).bind λ y2 => bif (A8s a0 y2) then some (.ret false) else some (.next ())
def Alr (x0 : List Ah) (x1 : List Ah) : Option Bool :=
 bif ((x0.length : Int) != (x1.length : Int)) then some false else andThen (foldI (Aad x1) x0 0 ()) some λ z0 => some true
def Aac (x1 : List Int) (n0 : Nat) (a0 : Int) (z0 : Unit) : Option (Ctl Unit Bool) :=
 (getI x1 (cnt 0 n0)).bind λ y2 => bif (a0 != y2) then some (.ret false) else some (.next ())
def Alq (x0 : List Int) (x1 : List Int) : Option Bool :=
 bif ((x0.length : Int) != (x1.length : Int)) then some false else andThen (foldI (Aac x1) x0 0 ()) some λ z0 => some true
def A8r (a0 : Al) (y2 : Al) : Bool := !((a0.Kind == y2.Kind) && ((a0.Number == y2.Number) && true))
def Aab (x1 : List Al) (n0 : Nat) (a0 : Al) (z0 : Unit) : Option (Ctl Unit Bool) :=
 (getI x1 (cnt 0 n0)).bind λ y2 => bif (A8r a0 y2) then some (.ret false) else some (.next ())
def Alp (x0 : List Al) (x1 : List Al) : Option Bool :=
 bif ((x0.length : Int) != (x1.length : Int)) then some false else andThen (foldI (Aab x1) x0 0 ()) some λ z0 => some true
def F60 (x0 : Ab) (x1 : Ab) : Option Bool :=
 (Als x0.Ag x1.Ag).bind λ y1 => (Az [(y1, true)] (Alr x0.Ac x1.Ac) default).bind λ y3 => (Az [((y1 && y3), true)] (Alq x0.Ak x1.Ak) default).bind λ y5 => (Az [(((y1 && y3) && y5), true)] (Alp x0.Ao x1.Ao) default).bind λ y7 => some (((y1 && y3) && y5) && y7)
def Yv (x1 : An) (y1 : Ab × Int) : Option (Ctl Int Unit) :=
 bif (x1.Kind == 7) then some (.next 1) else some (.next y1.2)
def Yw (y1 : Ab × Int) (n1 : Nat) (a1 : An) (z1 : yW) : Option (Ctl (yW) Unit) :=
 (Pw (⟨(⟨z1.1, (⟨z1.2.2.2.2.2.2.2.1, z1.2.2.2.2.2.2.2.2.1, z1.2.2.2.2.2.2.2.2.2.1, z1.2.2.2.2.2.2.2.2.2.2.1⟩ : Ab), z1.2.2.2.2.2.2.2.2.2.2.2.1, z1.2.2.2.2.2.2.2.2.2.2.2.2.1⟩ : A0), (⟨z1.2.1, z1.2.2.1, z1.2.2.2.1, z1.2.2.2.2.1, z1.2.2.2.2.2.1, z1.2.2.2.2.2.2.1⟩ : Aa), z1.2.2.2.2.2.2.2.2.2.2.2.2.2.2.1, z1.2.2.2.2.2.2.2.2.2.2.2.2.2.2.2.1⟩ : A4) a1 0).bind λ y11 => bif (a1.Kind == 2) then (getI z1.2.2.2.2.2.2.2.2.2.2.2.2.2.1 a1.Unit).bind λ y14 => (setI z1.2.2.2.2.2.2.2.2.2.2.2.2.2.1 a1.Unit false).bind λ y16 => (Nt y11 (⟨y16, y1.1.Ac, z1.2.2.2.2.2.2.2.2.2.2.2.2.2.2.2.2, y1.1.Ao⟩ : Ab)).bind λ y18 => some (.next (y18.Ay.Time, y18.Am.Aq, y18.Am.Ae, y18.Am.Ac, y18.Am.Ad, y18.Am.Phase, y18.Am.Ar, y18.Ay.Power.Ag, y18.Ay.Power.Ac, y18.Ay.Power.Ak, y18.Ay.Power.Ao, y18.Ay.A6, y18.Ay.Bc, y16, y18.events, y18.states, z1.2.2.2.2.2.2.2.2.2.2.2.2.2.2.2.2)) else (getI z1.2.2.2.2.2.2.2.2.2.2.2.2.2.2.2.2 a1.Unit).bind λ y20 => (setI z1.2.2.2.2.2.2.2.2.2.2.2.2.2.2.2.2 a1.Unit a1.Value).bind λ y22 => (Nt y11 (⟨z1.2.2.2.2.2.2.2.2.2.2.2.2.2.1, y1.1.Ac, y22, y1.1.Ao⟩ : Ab)).bind λ y24 => some (.next (y24.Ay.Time, y24.Am.Aq, y24.Am.Ae, y24.Am.Ac, y24.Am.Ad, y24.Am.Phase, y24.Am.Ar, y24.Ay.Power.Ag, y24.Ay.Power.Ac, y24.Ay.Power.Ak, y24.Ay.Power.Ao, y24.Ay.A6, y24.Ay.Bc, z1.2.2.2.2.2.2.2.2.2.2.2.2.2.1, y24.events, y24.states, y22))
def Rg (x0 : A4) (x1 : An) : Option A4 :=
 (F83 x0.Am x0.Ay.Power x0.Ay.Time x1).bind λ y1 => andThen (Yv x1 y1) (λ _ => none) λ z0 => (Pw x0 x1 z0).bind λ y4 => bif (z0 != 0) then some y4 else (Nt y4 y1.1).bind λ y7 => (Alm y7.Am y1.1).bind λ y9 => andThen (foldI (Yw y1) y9.2.1 0 (y7.Ay.Time, y7.Am.Aq, y7.Am.Ae, y7.Am.Ac, y7.Am.Ad, y7.Am.Phase, y7.Am.Ar, y7.Ay.Power.Ag, y7.Ay.Power.Ac, y7.Ay.Power.Ak, y7.Ay.Power.Ao, y7.Ay.A6, y7.Ay.Bc, y1.1.Ag, y7.events, y7.states, y1.1.Ak)) (λ _ => none) λ z1 => (F60 (⟨z1.2.2.2.2.2.2.2.2.2.2.2.2.2.1, y1.1.Ac, z1.2.2.2.2.2.2.2.2.2.2.2.2.2.2.2.2, y1.1.Ao⟩ : Ab) y9.1).bind λ y26 => bif !y26 then (Nt (⟨(⟨z1.1, (⟨z1.2.2.2.2.2.2.2.1, z1.2.2.2.2.2.2.2.2.1, z1.2.2.2.2.2.2.2.2.2.1, z1.2.2.2.2.2.2.2.2.2.2.1⟩ : Ab), z1.2.2.2.2.2.2.2.2.2.2.2.1, z1.2.2.2.2.2.2.2.2.2.2.2.2.1⟩ : A0), (⟨z1.2.1, z1.2.2.1, z1.2.2.2.1, z1.2.2.2.2.1, z1.2.2.2.2.2.1, z1.2.2.2.2.2.2.1⟩ : Aa), z1.2.2.2.2.2.2.2.2.2.2.2.2.2.2.1, z1.2.2.2.2.2.2.2.2.2.2.2.2.2.2.2.1⟩ : A4) y9.1).bind λ y29 => some (⟨(⟨y29.Ay.Time, y9.1, y29.Ay.A6, y29.Ay.Bc⟩ : A0), y29.Am, y29.events, y29.states⟩ : A4) else some (⟨(⟨z1.1, y9.1, z1.2.2.2.2.2.2.2.2.2.2.2.1, z1.2.2.2.2.2.2.2.2.2.2.2.2.1⟩ : A0), (⟨z1.2.1, z1.2.2.1, z1.2.2.2.1, z1.2.2.2.2.1, z1.2.2.2.2.2.1, z1.2.2.2.2.2.2.1⟩ : Aa), z1.2.2.2.2.2.2.2.2.2.2.2.2.2.2.1, z1.2.2.2.2.2.2.2.2.2.2.2.2.2.2.2.1⟩ : A4)
def Asv (x0 : Aa) (x1 : A0) : Option A4 :=
 (Ij x1.Power).bind λ y1 => (Aln x1.A6).bind λ y3 => (F84 x1.Bc).bind λ y5 => some (⟨(⟨x1.Time, y1, y3, y5⟩ : A0), x0, ([] : List Bl), ([] : List Ab)⟩ : A4)
def uA (x0 : Aa) (x1 : A0) (x2 : An) : Option (A0 × (List Ab) × Int) :=
 (F43 x0 x1.Power).bind λ y1 => bif (y1 != 0) then some ((⟨0, (⟨([] : List Bool), ([] : List Ah), ([] : List Int), ([] : List Al)⟩ : Ab), ([] : List A3), ([] : List Bl)⟩ : A0), ([] : List Ab), y1) else (Asv x0 x1).bind λ y4 => (Rg y4 x2).bind λ y6 => (appI 41 y6.Ay.Bc y6.events).bind λ y8 => some ((⟨y6.Ay.Time, y6.Ay.Power, y6.Ay.A6, y8⟩ : A0), y6.states, 0)
def Akk (x1 : List Bool) (n0 : Nat) (a0 : Bool) (z0 : Unit) : Option (Ctl Unit Bool) :=
 (getI x1 (cnt 0 n0)).bind λ y2 => bif !(a0 == y2) then some (.ret false) else some (.next ())
def F37 (x0 : List Bool) (x1 : List Bool) : Option Bool :=
 bif ((x0.length : Int) != (x1.length : Int)) then some false else andThen (foldI (Akk x1) x0 0 ()) some λ z0 => some true
def Akj (x1 : List Int) (n0 : Nat) (a0 : Int) (z0 : Unit) : Option (Ctl Unit Bool) :=
 (getI x1 (cnt 0 n0)).bind λ y2 => bif (a0 != y2) then some (.ret false) else some (.next ())
def F38 (x0 : List Int) (x1 : List Int) : Option Bool :=
 bif ((x0.length : Int) != (x1.length : Int)) then some false else andThen (foldI (Akj x1) x0 0 ()) some λ z0 => some true
def A2z (x0 : Ab) (x1 : Ab) (y1 : Bool) (y3 : Bool) : Bool := ((((!y1) || (!y3)) || ((x0.Ac.length : Int) != (x1.Ac.length : Int))) || ((x0.Ao.length : Int) != (x1.Ao.length : Int)))
def A2y (x0 : Ab) (z0 : Int) : Bool := decide (z0 < (x0.Ac.length : Int))
def A2x (y7 : Ah) (y9 : Ah) : Bool := !((y7.State == y9.State) && ((y7.Since == y9.Since) && ((y7.Ar == y9.Ar) && ((y7.Phase == y9.Phase) && true))))
def Ak6 (x0 : Ab) (x1 : Ab) (z0 : Int) : Option (Ctl Int Bool) :=
 bif (A2y x0 z0) then (getI x0.Ac z0).bind λ y7 => (getI x1.Ac z0).bind λ y9 => bif (A2x y7 y9) then some (.ret false) else some (.next (w64 (z0 + 1))) else some (.brk z0)
def A2w (x0 : Ab) (z1 : Int) : Bool := decide (z1 < (x0.Ao.length : Int))
def Awt (y13 : Al) (y15 : Al) : Bool := !((y13.Kind == y15.Kind) && ((y13.Number == y15.Number) && true))
def Ak5 (x0 : Ab) (x1 : Ab) (z1 : Int) : Option (Ctl Int Bool) :=
 bif (A2w x0 z1) then (getI x0.Ao z1).bind λ y13 => (getI x1.Ao z1).bind λ y15 => bif (Awt y13 y15) then some (.ret false) else some (.next (w64 (z1 + 1))) else some (.brk z1)
def F19 (x0 : Ab) (x1 : Ab) : Option Bool :=
 (F37 x0.Ag x1.Ag).bind λ y1 => (Az [(!y1, false)] (F38 x0.Ak x1.Ak) default).bind λ y3 => bif (A2z x0 x1 y1 y3) then some false else andThen (whileN (Ak6 x0 x1) 1152921504606846976 0) some λ z0 => andThen (whileN (Ak5 x0 x1) 1152921504606846976 0) some λ z1 => some true
def A2r (x1 : Int) (x2 : Int) (a0 : Al) : Bool := ((a0.Kind == x1) && (a0.Number == x2))
def qR (x1 : Int) (x2 : Int) (n0 : Nat) (a0 : Al) (z0 : Unit) : Option (Ctl Unit Bool) :=
 bif (A2r x1 x2 a0) then some (.ret true) else some (.next ())
def F49 (x0 : Ab) (x1 : Int) (x2 : Int) : Option Bool :=
 andThen (foldI (qR x1 x2) x0.Ao 0 ()) some λ z0 => some false
def All (x0 : Aa) (x1 : Ab) (x2 : Int) : Option Bool :=
 (getI x0.Ae x2).bind λ y1 => (F49 x1 3 y1.A).bind λ y3 => bif y3 then some true else bif (y1.Kind == 1) then (F49 x1 3 y1.B).bind λ y7 => some y7 else bif (y1.Kind == 2) then (F49 x1 1 y1.B).bind λ y10 => (Az [(y10, false)] (getI x1.Ac y1.B) default).bind λ y12 => some (y10 || (y12.State != 2)) else (F49 x1 4 y1.B).bind λ y14 => some y14
def F28 (x0 : Aa) (x1 : Ab) (x2 : Int) : Option Bool :=
 (F54 x0 x1 x2).bind λ y1 => some (y1.2 && (decide ((y1.1.Ac.length : Int) > 0)))
def A2i (x0 : Aa) (z0 : Int × (List Bool) × (List An)) : Bool := decide (z0.1 < (x0.Ae.length : Int))
def Aj8 (x0 : Aa) (x1 : Ab) (z0 : Int × (List Bool) × (List An)) : Option (Ctl (Int × (List Bool) × (List An)) Unit) :=
 bif (A2i x0 z0) then (getI z0.2.1 z0.1).bind λ y7 => (Az [(y7, true)] (All x0 x1 z0.1) default).bind λ y9 => bif (y7 && y9) then (setI z0.2.1 z0.1 false).bind λ y12 => (appI 25 z0.2.2 [(⟨2, z0.1, 0⟩ : An)]).bind λ y14 => some (.next (w64 (z0.1 + 1), y12, y14)) else some (.next (w64 (z0.1 + 1), z0.2.1, z0.2.2)) else some (.brk (z0.1, z0.2.1, z0.2.2))
def Aj7 (x0 : Aa) (y4 : Ab) (n1 : Nat) (a1 : Aj) (z1 : (List Bool) × (List An)) : Option (Ctl ((List Bool) × (List An)) Unit) :=
 (Az [((a1.Kind == 3), true)] (getI z1.1 (cnt 0 n1)) default).bind λ y16 => (Az [(((a1.Kind == 3) && y16), true)] (F28 x0 (⟨z1.1, y4.Ac, y4.Ak, y4.Ao⟩ : Ab) a1.A) default).bind λ y18 => bif (((a1.Kind == 3) && y16) && (!y18)) then (getI z1.1 (cnt 0 n1)).bind λ y21 => (setI z1.1 (cnt 0 n1) false).bind λ y23 => (appI 25 z1.2 [(⟨2, cnt 0 n1, 0⟩ : An)]).bind λ y25 => some (.next (y23, y25)) else some (.next (z1.1, z1.2))
def F73 (x0 : Aa) (x1 : Ab) : Option (Ab × (List An) × Int) :=
 (F53 x0 x1).bind λ y1 => bif (y1 != 0) then some ((⟨([] : List Bool), ([] : List Ah), ([] : List Int), ([] : List Al)⟩ : Ab), ([] : List An), y1) else (F65 x1).bind λ y4 => andThen (whileN (Aj8 x0 x1) 1152921504606846976 (0, y4.Ag, ([] : List An))) (λ _ => none) λ z0 => andThen (foldI (Aj7 x0 y4) x0.Ae 0 (z0.2.1, z0.2.2)) (λ _ => none) λ z1 => (Y6 x0 (⟨z1.1, y4.Ac, y4.Ak, y4.Ao⟩ : Ab)).bind λ y27 => some (y27.1, z1.2, 0)
def jZ (y1 : Af × Bool) : Bool := ((!y1.2) || ((y1.1.Ac.length : Int) == 0))
def qP (x1 : Ab) (n0 : Nat) (a0 : Int) (z0 : Int) : Option (Ctl Int Unit) :=
 (getI x1.Ak a0).bind λ y4 => some (.next (w64 (z0 + y4)))
def F75 (x0 : Aa) (x1 : Ab) (x2 : Int) : Option Int :=
 (F54 x0 x1 x2).bind λ y1 => bif (jZ y1) then some 0 else andThen (foldI (qP x1) y1.1.Ad 0 0) (λ _ => none) λ z0 => some z0
def Aj4 (x0 : Aa) (n0 : Nat) (a0 : Int) (z0 : Int) : Option (Ctl Int Unit) :=
 (getI x0.Ac a0).bind λ y3 => some (.next (w64 (z0 + y3.Rating)))
def F76 (x0 : Aa) (x1 : Ab) (x2 : Int) : Option Int :=
 (F54 x0 x1 x2).bind λ y1 => andThen (foldI (Aj4 x0) y1.1.Ac 0 0) (λ _ => none) λ z0 => some z0
def F26 (x0 : Aa) (x1 : Ab) (x2 : Int) : Option Bool :=
 (F75 x0 x1 x2).bind λ y1 => (F76 x0 x1 x2).bind λ y3 => some (decide (y1 > y3))
def Aj5 (z0 : Int × (List Int)) (n1 : Nat) (a1 : A1) (z1 : (List Int)) : Option (Ctl ((List Int)) Unit) :=
 bif (a1.Bn == z0.1) then (appI 9 z1 [cnt 0 n1]).bind λ y6 => some (.next y6) else some (.next z1)
def Aj6 (x0 : Aa) (z0 : Int × (List Int)) : Option (Ctl (Int × (List Int)) Unit) :=
 bif decide (z0.1 <= 15) then andThen (foldI (Aj5 z0) x0.Ad 0 z0.2) (λ _ => none) λ z1 => some (.next (w64 (z0.1 + 1), z1)) else some (.brk (z0.1, z0.2))
def F74 (x0 : Aa) : Option ((List Int)) :=
 (Aaj x0).bind λ y1 => bif (y1 != 0) then some ([] : List Int) else andThen (whileN (Aj6 x0) 18 (0, ([] : List Int))) (λ _ => none) λ z0 => some z0.2
def Akn (x0 : Aa) (x1 : Ab) (z0 : Int × (List Af)) : Option (Ctl (Int × (List Af)) Unit) :=
 bif decide (z0.1 < x0.Aq) then (F54 x0 x1 z0.1).bind λ y5 => (getI y5.1.Aq 0).bind λ y7 => bif (y7 == z0.1) then (appI 73 z0.2 [y5.1]).bind λ y10 => some (.next (w64 (z0.1 + 1), y10)) else some (.next (w64 (z0.1 + 1), z0.2)) else some (.brk (z0.1, z0.2))
def Wg (x0 : Aa) (x1 : Ab) : Option ((List Af)) :=
 (F53 x0 x1).bind λ y1 => bif (y1 != 0) then some ([] : List Af) else andThen (whileN (Akn x0 x1) 1152921504606846976 (0, ([] : List Af))) (λ _ => none) λ z0 => some z0.2
def A2v (x2 : Ab) (z0 : Int) : Bool := decide (z0 < (x2.Ag.length : Int))
def Akv (x2 : Ab) (y1 : Ab × (List An) × Int) (z0 : Int) : Option (Ctl Int Bool) :=
 bif (A2v x2 z0) then (getI x2.Ag z0).bind λ y12 => (Az [(y12, true)] (getI y1.1.Ag z0) default).bind λ y14 => bif (y12 && (!y14)) then some (.ret false) else some (.next (w64 (z0 + 1))) else some (.brk z0)
def A2u (x2 : Ab) (z1 : Int) : Bool := decide (z1 < (x2.Ak.length : Int))
def Aku (x2 : Ab) (y1 : Ab × (List An) × Int) (z1 : Int) : Option (Ctl Int Bool) :=
 bif (A2u x2 z1) then (getI x2.Ak z1).bind λ y18 => (getI y1.1.Ak z1).bind λ y20 => bif decide (y18 > y20) then some (.ret false) else some (.next (w64 (z1 + 1))) else some (.brk z1)
def Akt (x0 : Aa) (x2 : Ab) (n2 : Nat) (a2 : Af) (z2 : Unit) : Option (Ctl Unit Bool) :=
 (getI a2.Aq 0).bind λ y25 => (F26 x0 x2 y25).bind λ y27 => bif y27 then some (.ret false) else some (.next ())
def Akr (a3 : Af) (n4 : Nat) (a4 : Int) (z4 : (List Int)) : Option (Ctl ((List Int)) Unit) :=
 (F55 a3.Ad a4).bind λ y34 => bif y34 then (appI 9 z4 [a4]).bind λ y37 => some (.next y37) else some (.next z4)
def Awq (n5 : Nat) (n6 : Nat) (y46 : Int × Bool) (y48 : Int) (y50 : A1) : Bool := (((decide ((cnt 0 n6) < (cnt 0 n5))) && y46.2) && (decide (y48 > y50.Least)))
def Awp (n5 : Nat) (y39 : Int × Bool) (n6 : Nat) (y46 : Int × Bool) (y53 : Int) : Bool := ((((decide ((cnt 0 n6) < (cnt 0 n5))) && (!y39.2)) && y46.2) && (decide (y53 > 0)))
def Akp (x0 : Aa) (x2 : Ab) (n5 : Nat) (y39 : Int × Bool) (n6 : Nat) (a6 : Int) (z6 : Unit) : Option (Ctl Unit Bool) :=
 (F48 x0 x2 a6).bind λ y46 => (Az [(((decide ((cnt 0 n6) < (cnt 0 n5))) && y46.2), true)] (getI x2.Ak a6) default).bind λ y48 => (Az [(((decide ((cnt 0 n6) < (cnt 0 n5))) && y46.2), true)] (getI x0.Ad a6) default).bind λ y50 => bif (Awq n5 n6 y46 y48 y50) then some (.ret false) else (Az [((((decide ((cnt 0 n6) < (cnt 0 n5))) && (!y39.2)) && y46.2), true)] (getI x2.Ak a6) default).bind λ y53 => bif (Awp n5 y39 n6 y46 y53) then some (.ret false) else some (.next ())
def Akq (x0 : Aa) (x2 : Ab) (y1 : Ab × (List An) × Int) (z4 : (List Int)) (n5 : Nat) (a5 : Int) (z5 : Unit) : Option (Ctl Unit Bool) :=
 (F48 x0 x2 a5).bind λ y39 => (Az [(y39.2, true)] (getI x2.Ak a5) default).bind λ y41 => (Az [(y39.2, true)] (getI y1.1.Ak a5) default).bind λ y43 => bif (y39.2 && (y41 == y43)) then some (.next ()) else andThen (foldI (Akp x0 x2 n5 y39) z4 0 ()) (λ v => some (.ret v)) λ z6 => some (.next ())
def Aks (x0 : Aa) (x2 : Ab) (y1 : Ab × (List An) × Int) (y30 : (List Int)) (n3 : Nat) (a3 : Af) (z3 : Unit) : Option (Ctl Unit Bool) :=
 andThen (foldI (Akr a3) y30 0 ([] : List Int)) (λ _ => none) λ z4 => andThen (foldI (Akq x0 x2 y1 z4) z4 0 ()) (λ v => some (.ret v)) λ z5 => some (.next ())
def F24 (x0 : Aa) (x1 : Ab) (x2 : Ab) : Option Bool :=
 (F73 x0 x1).bind λ y1 => (Az [((y1.2.2 != 0), false)] (F53 x0 x2) default).bind λ y3 => bif ((y1.2.2 != 0) || (y3 != 0)) then some false else (F65 x2).bind λ y6 => (F19 (⟨y1.1.Ag, y6.Ac, y1.1.Ak, y6.Ao⟩ : Ab) y1.1).bind λ y8 => bif !y8 then some false else andThen (whileN (Akv x2 y1) 1152921504606846976 0) some λ z0 => andThen (whileN (Aku x2 y1) 1152921504606846976 0) some λ z1 => (F25 x0 x2).bind λ y23 => andThen (foldI (Akt x0 x2) y23 0 ()) some λ z2 => (F74 x0).bind λ y30 => (Wg x0 y1.1).bind λ y32 => andThen (foldI (Aks x0 x2 y1 y30) y32 0 ()) some λ z3 => some true
def F35  : Aa × Bk :=
 ((⟨1, [(⟨2, 0, 0⟩ : Aj), (⟨2, 0, 1⟩ : Aj), (⟨3, 0, 0⟩ : Aj)], [(⟨50, 0, 0⟩ : Bf), (⟨50, 0, 0⟩ : Bf)], [(⟨80, 10, 0, 0, ([] : List Int)⟩ : A1)], 50, 0⟩ : Aa), (⟨100, 1, 5⟩ : Bk))
def F59 (x0 : Bk) : Bool :=
 ((((((decide (x0.Stop >= 1)) && (decide (x0.Stop <= 99))) && (decide (x0.Start > x0.Stop))) && (decide (x0.Start <= 100))) && (decide (x0.Delay >= 0))) && (decide (x0.Delay <= 600)))
def As4 (x0 : Int) (x1 : Int) : Int × Int :=
 (IntKind.wrap .u64 ((IntKind.wrap .u64 ((IntKind.wrap .u64 ((Hf .u64 x0 32) * (Hf .u64 x1 32))) + (Hf .u64 (IntKind.wrap .u64 ((IntKind.wrap .u64 ((Hf .u64 x0 32) * (Of .u64 x1 4294967295))) + (Hf .u64 (IntKind.wrap .u64 ((Of .u64 x0 4294967295) * (Of .u64 x1 4294967295))) 32))) 32))) + (Hf .u64 (IntKind.wrap .u64 ((Of .u64 (IntKind.wrap .u64 ((IntKind.wrap .u64 ((Hf .u64 x0 32) * (Of .u64 x1 4294967295))) + (Hf .u64 (IntKind.wrap .u64 ((Of .u64 x0 4294967295) * (Of .u64 x1 4294967295))) 32))) 4294967295) + (IntKind.wrap .u64 ((Of .u64 x0 4294967295) * (Hf .u64 x1 32))))) 32)), IntKind.wrap .u64 (x0 * x1))
def Jn (x0 : Int) (x1 : Int) : Int × Int :=
 ((As4 x0 x1).1, (As4 x0 x1).2)
def Apv (x1 : Int) : Option (Ctl Unit Unit) :=
 bif decide (x1 < 0) then none else some (.next ())
def A8q (x0 : List A3) (x1 : Int) : Bool := ((decide (((Jn (IntKind.wrap .u64 (x0.length : Int)) (IntKind.wrap .u64 x1)).1) > 0)) || (decide (((Jn (IntKind.wrap .u64 (x0.length : Int)) (IntKind.wrap .u64 x1)).2) > 9223372036854775807)))
def Apu (x0 : List A3) (x1 : Int) : Option (Ctl Unit Unit) :=
 bif (A8q x0 x1) then none else some (.next ())
def A8p (x0 : List A3) (y3 : List A3) : Bool := decide (((Nat.min x0.length y3.length) : Int) < ((Jl y3 0 y3.length x0).length : Int))
def Apw (x0 : List A3) (y3 : List A3) (z2 : Unit) : Option (Ctl Unit Unit) :=
 bif (A8p x0 y3) then none else some (.brk ())
def A1r (x0 : List A3) (x1 : Int) : Option ((List A3)) :=
 andThen (Apv x1) (λ _ => none) λ z0 => andThen (Apu x0 x1) (λ _ => none) λ z1 => (mkI 17 (w64 ((Jn (IntKind.wrap .u64 (x0.length : Int)) (IntKind.wrap .u64 x1)).2)) (⟨0, 0⟩ : A3)).bind λ y3 => andThen (whileN (Apw x0 y3) 1152921504606846976 ()) (λ _ => none) λ z2 => some (Jl y3 0 y3.length x0)
def F86 (x0 : Int) : Option ((List A3)) :=
 (A1r [(⟨(-1), (-1)⟩ : A3)] x0).bind λ y1 => some y1
def Ayr (x1 : Int) : Option (Ctl Unit Unit) :=
 bif decide (x1 < 0) then none else some (.next ())
def A_g (x0 : List Ah) (x1 : Int) : Bool := ((decide (((Jn (IntKind.wrap .u64 (x0.length : Int)) (IntKind.wrap .u64 x1)).1) > 0)) || (decide (((Jn (IntKind.wrap .u64 (x0.length : Int)) (IntKind.wrap .u64 x1)).2) > 9223372036854775807)))
def Ayq (x0 : List Ah) (x1 : Int) : Option (Ctl Unit Unit) :=
 bif (A_g x0 x1) then none else some (.next ())
def A_f (z2 : Int × (List Ah)) : Bool := decide (z2.1 < (z2.2.length : Int))
def Ays (z2 : Int × (List Ah)) : Option (Ctl (Int × (List Ah)) Unit) :=
 bif (A_f z2) then (bndI z2.2.length z2.1 (z2.2.length : Int)).bind λ u7 => (bndI z2.2.length 0 z2.1).bind λ u9 => some (.next (w64 (z2.1 + ((Nat.min ((z2.2.drop 0).take ((Int.toNat z2.1) - 0)).length ((Int.toNat (z2.2.length : Int)) - (Int.toNat z2.1))) : Int)), (Jl z2.2 (Int.toNat z2.1) ((Int.toNat (z2.2.length : Int)) - (Int.toNat z2.1)) ((z2.2.drop 0).take ((Int.toNat z2.1) - 0))))) else some (.brk (z2.1, z2.2))
def F87 (x0 : List Ah) (x1 : Int) : Option ((List Ah)) :=
 andThen (Ayr x1) (λ _ => none) λ z0 => andThen (Ayq x0 x1) (λ _ => none) λ z1 => (mkI 33 (w64 ((Jn (IntKind.wrap .u64 (x0.length : Int)) (IntKind.wrap .u64 x1)).2)) (⟨0, 0, 0, 0⟩ : Ah)).bind λ y3 => andThen (whileN Ays 1152921504606846976 (((Nat.min x0.length y3.length) : Int), (Jl y3 0 y3.length x0))) (λ _ => none) λ z2 => some z2.2
def Ayu (n0 : Nat) (a0 : A1) (z0 : (List Int)) : Option (Ctl ((List Int)) Unit) :=
 (appI 9 z0 [a0.Load]).bind λ y11 => some (.next y11)
def F36 (x0 : Aa) (x1 : Bk) : Option (A0 × Int) :=
 (F85 x0).bind λ y1 => bif (y1 != 0) then none else bif !(F59 x1) then none else (F86 x0.Aq).bind λ y5 => (mkI 2 (x0.Ae.length : Int) false).bind λ y7 => (F87 [(⟨0, 0, 5000, 0⟩ : Ah)] (x0.Ac.length : Int)).bind λ y9 => andThen (foldI Ayu x0.Ad 0 ([] : List Int)) (λ _ => none) λ z0 => some ((⟨0, (⟨y7, y9, z0, ([] : List Al)⟩ : Ab), y5, ([] : List Bl)⟩ : A0), 0)
def Wf (x0 : Int) (x1 : A0) : Bool :=
 ((decide (x0 >= (-1))) && (decide (x0 <= x1.Time)))
def Ki (x0 : A3) (x1c0 : A0) : Bool × A0 :=
 (((!(Wf x0.High x1c0)) || (!(Wf x0.Low x1c0))), x1c0)
def A0t (z0 : Sg1) (a0 : A3) : Bool := (Ki a0 (⟨z0.1, (⟨z0.2.1, z0.2.2.1, z0.2.2.2.1, z0.2.2.2.2.1⟩ : Ab), z0.2.2.2.2.2.1, z0.2.2.2.2.2.2⟩ : A0)).1
def Ads (n0 : Nat) (a0 : A3) (z0 : Sg1) : Option (Ctl (Sg1) Unit) :=
 bif (A0t z0 a0) then none else some (.next (((Ki a0 (⟨z0.1, (⟨z0.2.1, z0.2.2.1, z0.2.2.2.1, z0.2.2.2.2.1⟩ : Ab), z0.2.2.2.2.2.1, z0.2.2.2.2.2.2⟩ : A0)).2).Time, (((Ki a0 (⟨z0.1, (⟨z0.2.1, z0.2.2.1, z0.2.2.2.1, z0.2.2.2.2.1⟩ : Ab), z0.2.2.2.2.2.1, z0.2.2.2.2.2.2⟩ : A0)).2).Power).Ag, (((Ki a0 (⟨z0.1, (⟨z0.2.1, z0.2.2.1, z0.2.2.2.1, z0.2.2.2.2.1⟩ : Ab), z0.2.2.2.2.2.1, z0.2.2.2.2.2.2⟩ : A0)).2).Power).Ac, (((Ki a0 (⟨z0.1, (⟨z0.2.1, z0.2.2.1, z0.2.2.2.1, z0.2.2.2.2.1⟩ : Ab), z0.2.2.2.2.2.1, z0.2.2.2.2.2.2⟩ : A0)).2).Power).Ak, (((Ki a0 (⟨z0.1, (⟨z0.2.1, z0.2.2.1, z0.2.2.2.1, z0.2.2.2.2.1⟩ : Ab), z0.2.2.2.2.2.1, z0.2.2.2.2.2.2⟩ : A0)).2).Power).Ao, ((Ki a0 (⟨z0.1, (⟨z0.2.1, z0.2.2.1, z0.2.2.2.1, z0.2.2.2.2.1⟩ : Ab), z0.2.2.2.2.2.1, z0.2.2.2.2.2.2⟩ : A0)).2).A6, ((Ki a0 (⟨z0.1, (⟨z0.2.1, z0.2.2.1, z0.2.2.2.1, z0.2.2.2.2.1⟩ : Ab), z0.2.2.2.2.2.1, z0.2.2.2.2.2.2⟩ : A0)).2).Bc))
def Alo (x0 : List A3) (x1c0c0 : A0) : Option (Int × A0) :=
 andThen (foldI Ads x0 0 (x1c0c0.Time, x1c0c0.Power.Ag, x1c0c0.Power.Ac, x1c0c0.Power.Ak, x1c0c0.Power.Ao, x1c0c0.A6, x1c0c0.Bc)) (λ _ => none) λ z0 => some ((-1), (⟨z0.1, (⟨z0.2.1, z0.2.2.1, z0.2.2.2.1, z0.2.2.2.2.1⟩ : Ab), z0.2.2.2.2.2.1, z0.2.2.2.2.2.2⟩ : A0))
def Asw (x0 : List A3) (x1c0c0 : A0) : Option (Bool × A0) :=
 (Alo x0 x1c0c0).bind λ y1 => some (decide (y1.1 >= 0), y1.2)
def A_j (x1 : Bk) (x2 : A0) : Bool := (((!(F59 x1)) || (decide (x2.Time < 0))) || (decide (x2.Time > 2147483648)))
def F21 (x0 : Aa) (x1 : Bk) (x2 : A0) : Option Int :=
 (F57 x0 x2.Power).bind λ y1 => bif (y1.2 != 0) then none else bif (A_j x1 x2) then none else bif ((x2.A6.length : Int) != x0.Aq) then none else (F60 x2.Power y1.1).bind λ y6 => (Az [(!y6, false)] (Asw x2.A6 x2) (default, x2)).bind λ y8 => bif ((!y6) || y8.1) then none else some 0
def Asq (x0 : A4) (x1 : Ab) : Option A4 :=
 (Ij x1).bind λ y3 => (appI 97 x0.states [y3]).bind λ y5 => some (⟨x0.Ay, x0.Am, x0.events, y5⟩ : A4)
def My (x0 : Int) (x1 : Int) : Bool :=
 ((decide (x0 >= (-1))) && (decide (x0 <= x1)))
def Ak2 (x0 : Aj) (x1 : Int) : Bool :=
 ((x0.Kind == 2) && (x0.B == x1))
def Adi (x1c0 : Int) (n0 : Nat) (a0 : Aj) (z0 : Unit) : Option (Ctl Unit (Int × Int)) :=
 bif Ak2 a0 x1c0 then some (.ret (cnt 0 n0, x1c0)) else some (.next ())
def Ak3 (x0 : List Aj) (x1c0 : Int) : Option (Int × Int) :=
 andThen (foldI (Adi x1c0) x0 0 ()) some λ z0 => some ((-1), x1c0)
def As5 (x0 : Aa) (x1 : Int) : Option Int :=
 (Ak3 x0.Ae x1).bind λ y1 => some y1.1
def A8o (x1 : Bk) (y1 : Af × Bool) : Bool := ((!(F59 x1)) || (decide ((y1.1.Ac.length : Int) < 2)))
def A8n (x1 : Bk) (y9 : Int) (y11 : Bf) (y13 : Int) : Bool := decide ((w64 (100 * y13)) <= (w64 (x1.Stop * (w64 (y9 - y11.Rating)))))
def zJ (x0 : Aa) (x1 : Bk) (x2 : Ab) (x3 : Int) (a0 : Int × Int) (z0 : Unit) : Option (Ctl Unit Unit) :=
 (As5 x0 a0.2).bind λ y4 => (Hw x2 2 y4).bind λ y6 => bif y6 then none else (Ud x0 x2 x3).bind λ y9 => (getI x0.Ac a0.2).bind λ y11 => (Uc x0 x2 x3).bind λ y13 => bif (A8n x1 y9 y11 y13) then none else some (.next ())
def A1n (x0 : Aa) (x1 : Bk) (x2 : Ab) (x3 : Int) : Option (Int × Bool) :=
 (G9 x0 x2 x3).bind λ y1 => bif (A8o x1 y1) then some (0, false) else andThen (V0 (zJ x0 x1 x2 x3) (bw y1.1.Ac) ()) (λ _ => none) λ z0 => some (0, false)
def A1m (x0 : Aa) (x1 : Bk) (x2 : Ab) (x3 : Int) : Option Bool :=
 (Az [(F59 x1, true)] (U5 x0 x2 x3) default).bind λ y1 => (Az [(((F59 x1) && y1), true)] (Uc x0 x2 x3) default).bind λ y3 => (Az [(((F59 x1) && y1), true)] (Ud x0 x2 x3) default).bind λ y5 => some (((F59 x1) && y1) && (decide ((w64 (100 * y3)) > (w64 (x1.Start * y5)))))
def As6 (x0 : Int) (x1 : Bool) (x2 : Int) : Option Int :=
 bif !x1 then some (-1) else none
def A1h (x0 : Aa) (x1 : Ab) (x2 : Af) (x3 : Int) : Option Bool :=
 (As5 x0 x3).bind λ y1 => (getI x0.Ae y1).bind λ y3 => (Hw x1 1 x3).bind λ y5 => (Az [(y5, false)] (Hw x1 2 y1) default).bind λ y7 => (Az [((y5 || y7), false)] (Hw x1 3 y3.A) default).bind λ y9 => (Az [(!((y5 || y7) || y9), true)] (Mx x2.Aq y3.A) default).bind λ y11 => (Az [(((!((y5 || y7) || y9)) && y11), true)] (Mx x2.Ac x3) default).bind λ y13 => (Az [((((!((y5 || y7) || y9)) && y11) && (!y13)), true)] (getI x1.Ac x3) default).bind λ y15 => some ((((!((y5 || y7) || y9)) && y11) && (!y13)) && (y15.State != 3))
def Aps (x0 : Aa) (x1 : Ab) (y1 : Af × Bool) (a0 : Int) (n1 : Nat) (a1 : Ah) (z1 : Unit) : Option (Ctl Unit Unit) :=
 (Az [((a1.State == a0), true)] (A1h x0 x1 y1.1 (cnt 0 n1)) default).bind λ y4 => bif ((a1.State == a0) && y4) then none else some (.next ())
def Apt (x0 : Aa) (x1 : Ab) (y1 : Af × Bool) (n0 : Nat) (a0 : Int) (z0 : Unit) : Option (Ctl Unit Unit) :=
 andThen (foldI (Aps x0 x1 y1 a0) x1.Ac 0 ()) (λ _ => none) λ z1 => some (.next ())
def A1l (x0 : Aa) (x1 : Ab) (x2 : Int) : Option (Int × Bool) :=
 (G9 x0 x1 x2).bind λ y1 => bif !y1.2 then none else andThen (foldI (Apt x0 x1 y1) [2, 1, 0] 0 ()) (λ _ => none) λ z0 => some (0, false)
def A0s (x1 : Bk) (x4 : Int) (x5 : A3) : Bool := (((((!(F59 x1)) || (decide (x4 < 0))) || (decide (x4 > 2147483648))) || (!(My x5.High x4))) || (!(My x5.Low x4)))
def A0r (x0 : Aa) (x3 : Int) : Bool := ((decide (x3 < 0)) || (decide (x3 >= x0.Aq)))
def A0q (x1 : Bk) (x4 : Int) (y10 : Int) (y14 : Int × Bool) : Bool := ((y14.2 && (y10 != (-1))) && (decide ((w64 (x4 - y10)) >= x1.Delay)))
def A0p (x1 : Bk) (x4 : Int) (y12 : Int) : Bool := ((y12 != (-1)) && (decide ((w64 (x4 - y12)) >= x1.Delay)))
def Alk (x0 : Aa) (x1 : Bk) (x2 : Ab) (x3 : Int) (x4 : Int) (x5 : A3) : Option (A3 × (List An) × Int) :=
 (F43 x0 x2).bind λ y1 => bif (y1 != 0) then none else bif (A0s x1 x4 x5) then none else bif (A0r x0 x3) then none else (A1n x0 x1 x2 x3).bind λ y6 => (A1m x0 x1 x2 x3).bind λ y8 => (As6 x5.High y8 x4).bind λ y10 => (As6 x5.Low y6.2 x4).bind λ y12 => (A1l x0 x2 x3).bind λ y14 => bif (A0q x1 x4 y10 y14) then none else bif (A0p x1 x4 y12) then none else some ((⟨y10, y12⟩ : A3), [], 0)
def A4c (a0 : Af) (y7 : Bool) : Bool := (((a0.Ac.length : Int) == 0) || (!y7))
def Aj1 (n1 : Nat) (a1 : An) (z1 : K_) : Option (Ctl (K_) Unit) :=
 (Rg (⟨(⟨z1.1, (⟨z1.2.2.2.2.2.2.2.1, z1.2.2.2.2.2.2.2.2.1, z1.2.2.2.2.2.2.2.2.2.1, z1.2.2.2.2.2.2.2.2.2.2.1⟩ : Ab), z1.2.2.2.2.2.2.2.2.2.2.2.1, z1.2.2.2.2.2.2.2.2.2.2.2.2.1⟩ : A0), (⟨z1.2.1, z1.2.2.1, z1.2.2.2.1, z1.2.2.2.2.1, z1.2.2.2.2.2.1, z1.2.2.2.2.2.2.1⟩ : Aa), z1.2.2.2.2.2.2.2.2.2.2.2.2.2.1, z1.2.2.2.2.2.2.2.2.2.2.2.2.2.2⟩ : A4) a1).bind λ y18 => some (.next (y18.Ay.Time, y18.Am.Aq, y18.Am.Ae, y18.Am.Ac, y18.Am.Ad, y18.Am.Phase, y18.Am.Ar, y18.Ay.Power.Ag, y18.Ay.Power.Ac, y18.Ay.Power.Ak, y18.Ay.Power.Ao, y18.Ay.A6, y18.Ay.Bc, y18.events, y18.states))
def Aj2 (x1 : Bk) (n0 : Nat) (a0 : Af) (z0 : yV) : Option (Ctl (yV) Unit) :=
 (getI a0.Aq 0).bind λ y5 => (Az [(((a0.Ac.length : Int) == 0), false)] (U5 (⟨z0.2.1, z0.2.2.1, z0.2.2.2.1, z0.2.2.2.2.1, z0.2.2.2.2.2.1, z0.2.2.2.2.2.2.1⟩ : Aa) (⟨z0.2.2.2.2.2.2.2.2.1, z0.2.2.2.2.2.2.2.2.2.1, z0.2.2.2.2.2.2.2.2.2.2.1, z0.2.2.2.2.2.2.2.2.2.2.2.1⟩ : Ab) y5) default).bind λ y7 => bif (A4c a0 y7) then none else (getI z0.2.2.2.2.2.2.2.2.2.2.2.2.1 y5).bind λ y10 => (Alk (⟨z0.2.1, z0.2.2.1, z0.2.2.2.1, z0.2.2.2.2.1, z0.2.2.2.2.2.1, z0.2.2.2.2.2.2.1⟩ : Aa) x1 (⟨z0.2.2.2.2.2.2.2.2.1, z0.2.2.2.2.2.2.2.2.2.1, z0.2.2.2.2.2.2.2.2.2.2.1, z0.2.2.2.2.2.2.2.2.2.2.2.1⟩ : Ab) y5 z0.1 y10).bind λ y12 => (getI z0.2.2.2.2.2.2.2.1 y5).bind λ y14 => (setI z0.2.2.2.2.2.2.2.1 y5 y12.1).bind λ y16 => andThen (foldI Aj1 y12.2.1 0 (z0.1, z0.2.1, z0.2.2.1, z0.2.2.2.1, z0.2.2.2.2.1, z0.2.2.2.2.2.1, z0.2.2.2.2.2.2.1, z0.2.2.2.2.2.2.2.2.1, z0.2.2.2.2.2.2.2.2.2.1, z0.2.2.2.2.2.2.2.2.2.2.1, z0.2.2.2.2.2.2.2.2.2.2.2.1, z0.2.2.2.2.2.2.2.2.2.2.2.2.1, z0.2.2.2.2.2.2.2.2.2.2.2.2.2.1, z0.2.2.2.2.2.2.2.2.2.2.2.2.2.2.1, z0.2.2.2.2.2.2.2.2.2.2.2.2.2.2.2)) (λ _ => none) λ z1 => some (.next (z1.1, z1.2.1, z1.2.2.1, z1.2.2.2.1, z1.2.2.2.2.1, z1.2.2.2.2.2.1, z1.2.2.2.2.2.2.1, y16, z1.2.2.2.2.2.2.2.1, z1.2.2.2.2.2.2.2.2.1, z1.2.2.2.2.2.2.2.2.2.1, z1.2.2.2.2.2.2.2.2.2.2.1, z1.2.2.2.2.2.2.2.2.2.2.2.1, z1.2.2.2.2.2.2.2.2.2.2.2.2.1, z1.2.2.2.2.2.2.2.2.2.2.2.2.2.1, z1.2.2.2.2.2.2.2.2.2.2.2.2.2.2))
def Aso (x0 : A4) (x1 : Bk) : Option A4 :=
 (F86 x0.Am.Aq).bind λ y1 => (Aew x0.Am x0.Ay.Power).bind λ y3 => andThen (foldI (Aj2 x1) y3 0 (x0.Ay.Time, x0.Am.Aq, x0.Am.Ae, x0.Am.Ac, x0.Am.Ad, x0.Am.Phase, x0.Am.Ar, y1, x0.Ay.Power.Ag, x0.Ay.Power.Ac, x0.Ay.Power.Ak, x0.Ay.Power.Ao, x0.Ay.A6, x0.Ay.Bc, x0.events, x0.states)) (λ _ => none) λ z0 => some (⟨(⟨z0.1, (⟨z0.2.2.2.2.2.2.2.2.1, z0.2.2.2.2.2.2.2.2.2.1, z0.2.2.2.2.2.2.2.2.2.2.1, z0.2.2.2.2.2.2.2.2.2.2.2.1⟩ : Ab), z0.2.2.2.2.2.2.2.1, z0.2.2.2.2.2.2.2.2.2.2.2.2.2.1⟩ : A0), (⟨z0.2.1, z0.2.2.1, z0.2.2.2.1, z0.2.2.2.2.1, z0.2.2.2.2.2.1, z0.2.2.2.2.2.2.1⟩ : Aa), z0.2.2.2.2.2.2.2.2.2.2.2.2.2.2.1, z0.2.2.2.2.2.2.2.2.2.2.2.2.2.2.2⟩ : A4)
def Asp (x0 : A4) (x1 : Ab) : Option A4 :=
 (Ij x0.Ay.Power).bind λ y3 => (appI 97 x0.states [y3]).bind λ y5 => some (⟨x0.Ay, x0.Am, x0.events, y5⟩ : A4)
def Ayv (n0 : Nat) (a0 : An) (z0 : K_) : Option (Ctl (K_) Unit) :=
 (Rg (⟨(⟨z0.1, (⟨z0.2.2.2.2.2.2.2.1, z0.2.2.2.2.2.2.2.2.1, z0.2.2.2.2.2.2.2.2.2.1, z0.2.2.2.2.2.2.2.2.2.2.1⟩ : Ab), z0.2.2.2.2.2.2.2.2.2.2.2.1, z0.2.2.2.2.2.2.2.2.2.2.2.2.1⟩ : A0), (⟨z0.2.1, z0.2.2.1, z0.2.2.2.1, z0.2.2.2.2.1, z0.2.2.2.2.2.1, z0.2.2.2.2.2.2.1⟩ : Aa), z0.2.2.2.2.2.2.2.2.2.2.2.2.2.1, z0.2.2.2.2.2.2.2.2.2.2.2.2.2.2⟩ : A4) a0).bind λ y10 => some (.next (y10.Ay.Time, y10.Am.Aq, y10.Am.Ae, y10.Am.Ac, y10.Am.Ad, y10.Am.Phase, y10.Am.Ar, y10.Ay.Power.Ag, y10.Ay.Power.Ac, y10.Ay.Power.Ak, y10.Ay.Power.Ao, y10.Ay.A6, y10.Ay.Bc, y10.events, y10.states))
def F34 (x0 : Aa) (x1 : Bk) (x2 : A0) (x3 : List An) : Option (A4 × Int) :=
 (F21 x0 x1 x2).bind λ y1 => bif (y1 != 0) then none else bif decide ((x3.length : Int) > 200) then none else bif (x2.Time == 2147483648) then none else (F63 x0 x2).bind λ y6 => (Asq y6 x2.Power).bind λ y8 => andThen (foldI Ayv x3 0 (y8.Ay.Time, y8.Am.Aq, y8.Am.Ae, y8.Am.Ac, y8.Am.Ad, y8.Am.Phase, y8.Am.Ar, y8.Ay.Power.Ag, y8.Ay.Power.Ac, y8.Ay.Power.Ak, y8.Ay.Power.Ao, y8.Ay.A6, y8.Ay.Bc, y8.events, y8.states)) (λ _ => none) λ z0 => (Aso (⟨(⟨z0.1, (⟨z0.2.2.2.2.2.2.2.1, z0.2.2.2.2.2.2.2.2.1, z0.2.2.2.2.2.2.2.2.2.1, z0.2.2.2.2.2.2.2.2.2.2.1⟩ : Ab), z0.2.2.2.2.2.2.2.2.2.2.2.1, z0.2.2.2.2.2.2.2.2.2.2.2.2.1⟩ : A0), (⟨z0.2.1, z0.2.2.1, z0.2.2.2.1, z0.2.2.2.2.1, z0.2.2.2.2.2.1, z0.2.2.2.2.2.2.1⟩ : Aa), z0.2.2.2.2.2.2.2.2.2.2.2.2.2.1, z0.2.2.2.2.2.2.2.2.2.2.2.2.2.2⟩ : A4) x1).bind λ y12 => (F83 x0 y12.Ay.Power y12.Ay.Time (⟨7, 0, 0⟩ : An)).bind λ y14 => (Asp (⟨(⟨y12.Ay.Time, y14.1, y12.Ay.A6, y12.Ay.Bc⟩ : A0), y12.Am, y12.events, y12.states⟩ : A4) y14.1).bind λ y16 => (appI 41 y16.Ay.Bc y16.events).bind λ y18 => (cutI y18 (max 0 (w64 ((y18.length : Int) - 200))) (y18.length : Int)).bind λ y21 => (F84 y21).bind λ y22 => some ((⟨(⟨w64 (y16.Ay.Time + 1), y16.Ay.Power, y16.Ay.A6, y22⟩ : A0), y16.Am, y16.events, y16.states⟩ : A4), 0)
def F11 (x0 : Aa) (x1 : Bk) (x2 : A0) (x3 : List An) : Option (A0 × (List Bl) × Int) :=
 (F34 x0 x1 x2 x3).bind λ y1 => bif (y1.2 != 0) then none else some (y1.1.Ay, y1.1.events, 0)
def Dn (x0 : Int) (x1 : Int) (x2 : Int) : Bool :=
 ((decide (x0 >= x1)) && (decide (x0 <= x2)))
def Ur (x0 : Int) : Bool :=
 ((decide (x0 >= 0)) && (decide (x0 < 3600)))
def As3 (x0 : Dh) : Int :=
 G8 (w64 (x0.To - x0.From))
def A1p (x0 : Dh) : Bool :=
 (((Ur x0.From) && (Ur x0.To)) && (decide ((As3 x0) < 1800)))
def A1q (x0 : Dh) : Bool :=
 !(A1p x0)
def Adm (n0 : Nat) (a0 : Dh) (z0 : Unit) : Option (Ctl Unit Int) :=
 bif A1q a0 then some (.ret (cnt 0 n0)) else some (.next ())
def Ak7 (x0 : List Dh) : Option Int :=
 andThen (foldI Adm x0 0 ()) some λ z0 => some (-1)
def Alf (x0 : List Dh) : Option Bool :=
 (Ak7 x0).bind λ y1 => some (decide (y1 >= 0))
def F94 (x0 : Bz) : Option Bool :=
 (Az [(((((((Dn x0.Kind 1 3) && (Dn x0.Station 0 1)) && (Dn x0.Max 0 5000)) && (Dn x0.Rate 0 5000)) && (Dn x0.Cost 1 100)) && (decide ((x0.Hu.length : Int) <= 4))), true)] (Alf x0.Hu) default).bind λ y1 => some (((((((Dn x0.Kind 1 3) && (Dn x0.Station 0 1)) && (Dn x0.Max 0 5000)) && (Dn x0.Rate 0 5000)) && (Dn x0.Cost 1 100)) && (decide ((x0.Hu.length : Int) <= 4))) && (!y1))
def F93 (x0 : Bz) : Option Bool :=
 (F94 x0).bind λ y1 => some (!y1)
def Adp (n0 : Nat) (a0 : Bz) (z0 : Unit) : Option (Ctl Unit Unit) :=
 (F93 a0).bind λ y1 => bif y1 then none else some (.next ())
def Alg (x0 : List Bz) : Option Int :=
 andThen (foldI Adp x0 0 ()) (λ _ => none) λ z0 => some (-1)
def Asm (x0 : List Bz) : Option Bool :=
 (Alg x0).bind λ y1 => some (decide (y1 >= 0))
def A_i (x0 : F1) : Bool := (((decide ((min x0.Bow x0.Stern) < 0)) || (decide ((max x0.Bow x0.Stern) > 200))) || ((x0.Bow == 0) && (x0.Stern == 0)))
def F42 (x0 : F1) : Option Int :=
 bif decide ((x0.De.length : Int) > 8) then none else bif (A_i x0) then none else (Asm x0.De).bind λ y3 => bif y3 then none else some 0
def Asx (x0 : A1) (x1 : Int) : Bool :=
 (x0.Thruster == x1)
def Akh (x1c0 : Int) (n0 : Nat) (a0 : A1) (z0 : Unit) : Option (Ctl Unit (Int × Int)) :=
 bif Asx a0 x1c0 then some (.ret (cnt 0 n0, x1c0)) else none
def Asy (x0 : List A1) (x1c0 : Int) : Option (Int × Int) :=
 andThen (foldI (Akh x1c0) x0 0 ()) some λ z0 => some ((-1), x1c0)
def Alu (rec46 : Aa -> Ab -> Int -> Option Bool) (x0 : Int) (x1 : Aa) (x2 : Ab) : Option Bool :=
 (rec46 x1 x2 x0).bind λ y1 => some (!y1)
def Adn (x1c0 : Aa) (x1c1 : Ab) (rec46 : Aa -> Ab -> Int -> Option Bool) (n0 : Nat) (a0 : Int) (z0 : Unit) : Option (Ctl Unit (Int × Aa × Ab)) :=
 (Alu rec46 a0 x1c0 x1c1).bind λ y1 => bif y1 then some (.ret (cnt 0 n0, x1c0, x1c1)) else some (.next ())
def Ale (rec46 : Aa -> Ab -> Int -> Option Bool) (x0 : List Int) (x1c0 : Aa) (x1c1 : Ab) : Option (Int × Aa × Ab) :=
 andThen (foldI (Adn x1c0 x1c1 rec46) x0 0 ()) some λ z0 => some ((-1), x1c0, x1c1)
def Alv (rec46 : Aa -> Ab -> Int -> Option Bool) (x0 : List Int) (x1c0 : Aa) (x1c1 : Ab) : Option (Bool × Aa × Ab) :=
 (Ale rec46 x0 x1c0 x1c1).bind λ y1 => some (decide (y1.1 >= 0), y1.2.1, y1.2.2)
def A_h (y1 : Int × Bool) (y3 : Bool) (y5 : Bool) (y7 : Int) (y9 : A1) : Bool := ((((!y1.2) || (!y3)) || y5) || (decide (y7 < y9.Least)))
def A1g (rec46 : Aa -> Ab -> Int -> Option Bool) (x0 : Aa) (x1 : Ab) (x2 : Int) : Option Bool :=
 (Alw x0 x1 x2).bind λ y1 => (Az [(!y1.2, false)] (U5 x0 x1 y1.1) default).bind λ y3 => (Az [(((!y1.2) || (!y3)), false)] (Hw x1 4 x2) default).bind λ y5 => (Az [((((!y1.2) || (!y3)) || y5), false)] (getI x1.Ak x2) default).bind λ y7 => (Az [((((!y1.2) || (!y3)) || y5), false)] (getI x0.Ad x2) default).bind λ y9 => bif (A_h y1 y3 y5 y7 y9) then none else (getI x0.Ad x2).bind λ y12 => (Alv rec46 y12.Needs x0 x1).bind λ y14 => some (!y14.1)
def A1f : Nat -> Aa -> Ab -> Int -> Option Bool
 | 0 => λ _ _ _ => none
 | n + 1 => A1g (A1f n)
def F46 (x0 : Aa) (x1 : Ab) (x2 : Int) : Option Bool := A1f 1000 x0 x1 x2
def Ata (x0 : Fx) : Bool :=
 ((decide ((max x0.X x0.Y) <= 5000)) && (decide ((min x0.X x0.Y) >= (-5000))))
def A1i (x0 : Int) (x1 : Int) : Option Int :=
 (nzI x1).bind λ u2 => (nzI x1).bind λ u4 => bif decide ((Int.tmod x0 x1) < 0) then none else some (w64 (Int.tdiv x0 x1))
def A1j (x0 : Int) (x1 : Int) : Option Int :=
 (A1i (w64 (0 - x0)) x1).bind λ y1 => some (w64 (0 - y1))
def A0m (x0 : Int) (x1 : Int) : Bool := ((((decide (x0 < (-1000000000000000000))) || (decide (x0 > 1000000000000000000))) || (decide (x1 < 1))) || (decide (x1 > 1000000000)))
def Ak4 (x0 : Int) (x1 : Int) : Option (Int × Int) :=
 bif (A0m x0 x1) then none else (A1j x0 x1).bind λ y2 => some (y2, 0)
def A1o (x0 : Int) (x1 : Int) : Option (Int × Int) :=
 (Ak4 x0 x1).bind λ y1 => some (y1.1, y1.2)
def A1t (x0 : Bz) (x1 : Fx) : Option (Int × Int) :=
 (F94 x0).bind λ y1 => bif ((!y1) || (!(Ata x1))) then none else (A1o (w64 ((w64 ((w64 (x1.X * x1.X)) + (w64 (x1.Y * x1.Y)))) * x0.Cost)) 1000).bind λ y4 => some (y4.1, y4.2)
def A8u (x0 : Int) : Bool := ((decide (x0 < 0)) || (decide (x0 > 1000000000000000000)))
def A8t (x0 : Int) (z0 : Int × Int) : Bool := decide ((w64 ((w64 (Int.tdiv (w64 ((w64 (z0.1 + z0.2)) + 1)) 2)) * (w64 (Int.tdiv (w64 ((w64 (z0.1 + z0.2)) + 1)) 2)))) <= x0)
def Apx (x0 : Int) (z0 : Int × Int) : Option (Ctl (Int × Int) Unit) :=
 bif decide (z0.1 < z0.2) then bif (A8t x0 z0) then some (.next (w64 (Int.tdiv (w64 ((w64 (z0.1 + z0.2)) + 1)) 2), z0.2)) else some (.next (z0.1, w64 ((w64 (Int.tdiv (w64 ((w64 (z0.1 + z0.2)) + 1)) 2)) - 1))) else some (.brk (z0.1, z0.2))
def A1s (x0 : Int) : Option (Int × Int) :=
 bif (A8u x0) then none else andThen (whileN (Apx x0) 1152921504606846976 (0, 1000000000)) (λ _ => none) λ z0 => some (z0.1, 0)
def F47 (x0 : Bz) (x1 : Int) : Option Int :=
 (A1t x0 (⟨x0.Max, 0⟩ : Fx)).bind λ y1 => bif ((y1.2 != 0) || (decide (x1 < 0))) then none else bif decide (x1 >= y1.1) then none else (nzI x0.Cost).bind λ u6 => (A1s (w64 (Int.tdiv (w64 (1000 * x1)) x0.Cost))).bind λ y7 => some y7.1
def Ayw (x1 : Aa) (x2 : Ab) (n0 : Nat) (a0 : Bz) (z0 : (List Int)) : Option (Ctl ((List Int)) Unit) :=
 (Asy x1.Ad (cnt 0 n0)).bind λ y9 => (Az [(decide (y9.1 >= 0), true)] (F46 x1 x2 y9.1) default).bind λ y11 => bif ((decide (y9.1 >= 0)) && y11) then (getI x2.Ak y9.1).bind λ y14 => (F47 a0 y14).bind λ y16 => (getI z0 y9.2).bind λ y18 => (setI z0 y9.2 y16).bind λ y20 => some (.next y20) else none
def F15 (x0 : F1) (x1 : Aa) (x2 : Ab) : Option ((List Int) × Int) :=
 (F42 x0).bind λ y1 => bif (y1 != 0) then none else (F43 x1 x2).bind λ y4 => bif (y4 != 0) then none else (mkI 9 (x0.De.length : Int) 0).bind λ y7 => andThen (foldI (Ayw x1 x2) x0.De 0 y7) (λ _ => none) λ z0 => some (z0, 0)
def F90 (x0 : Af) : Bool :=
 decide ((x0.Ac.length : Int) > 0)
def Adq (n0 : Nat) (a0 : Af) (z0 : Unit) : Option (Ctl Unit Int) :=
 bif F90 a0 then some (.ret (cnt 0 n0)) else some (.next ())
def Alh (x0 : List Af) : Option Int :=
 andThen (foldI Adq x0 0 ()) some λ z0 => some (-1)
def Asn (x0 : List Af) : Option Bool :=
 (Alh x0).bind λ y1 => some (decide (y1 >= 0))
def F39 (x0 : Aa) (x1 : Ab) : Option Bool :=
 (F43 x0 x1).bind λ y1 => (Az [((y1 == 0), true)] (F89 x0 x1) default).bind λ y3 => (Az [((y1 == 0), true)] (Asn y3) default).bind λ y5 => some ((y1 == 0) && (!y5))
def F13  : Option Bool :=
 (F36 F35.1 F35.2).bind λ y1 => (F11 F35.1 F35.2 y1.1 [(⟨3, 0, 0⟩ : An), (⟨3, 1, 0⟩ : An), (⟨1, 0, 0⟩ : An), (⟨1, 1, 0⟩ : An), (⟨1, 2, 0⟩ : An)]).bind λ y3 => (F11 F35.1 F35.2 y3.1 [(⟨8, 1, 1⟩ : An)]).bind λ y5 => (F15 (⟨0, 1, [(⟨2, 0, 1000, 0, 1, ([] : List Dh)⟩ : Bz)]⟩ : F1) F35.1 y5.1.Power).bind λ y7 => (Az [(((((((y1.2 == 0) && (y3.2.2 == 0)) && (y5.2.2 == 0)) && (y7.2 == 0)) && (y5.1.Time == 2)) && ((y5.2.1.length : Int) == 3)), true)] (F37 y5.1.Power.Ag [true, false, true]) default).bind λ y9 => (Az [((((((((y1.2 == 0) && (y3.2.2 == 0)) && (y5.2.2 == 0)) && (y7.2 == 0)) && (y5.1.Time == 2)) && ((y5.2.1.length : Int) == 3)) && y9), true)] (F38 y5.1.Power.Ak [50]) default).bind λ y11 => (Az [(((((((((y1.2 == 0) && (y3.2.2 == 0)) && (y5.2.2 == 0)) && (y7.2 == 0)) && (y5.1.Time == 2)) && ((y5.2.1.length : Int) == 3)) && y9) && y11), true)] (F38 y7.1 [223]) default).bind λ y13 => (Az [((((((((((y1.2 == 0) && (y3.2.2 == 0)) && (y5.2.2 == 0)) && (y7.2 == 0)) && (y5.1.Time == 2)) && ((y5.2.1.length : Int) == 3)) && y9) && y11) && y13), true)] (F39 F35.1 y5.1.Power) default).bind λ y15 => some ((((((((((y1.2 == 0) && (y3.2.2 == 0)) && (y5.2.2 == 0)) && (y7.2 == 0)) && (y5.1.Time == 2)) && ((y5.2.1.length : Int) == 3)) && y9) && y11) && y13) && (!y15))
def A8j (z0 : Sg0) (y7 : A0 × (List Ab) × Int) : Bool := ((y7.2.2 != 0) || (decide ((y7.1.Bc.length : Int) <= (z0.2.2.2.2.2.1.length : Int))))
def Ast (y3 : K9) (y7 : A0 × (List Ab) × Int) (n1 : Nat) (a1 : Af) (z1 : Unit) : Option (Ctl Unit Bool) :=
 (getI a1.Aq 0).bind λ y27 => (F26 y3.1 y7.1.Power y27).bind λ y29 => bif y29 then some (.ret false) else some (.next ())
def Asr (y3 : K9) (y7 : A0 × (List Ab) × Int) (a2 : Al) : Option (Ctl Unit Bool) :=
 bif (a2.Kind == 1) then (F27 y3.1 y7.1.Power a2.Number).bind λ y33 => bif y33.2 then some (.ret false) else some (.next ()) else some (.next ())
def Ass (y3 : K9) (y7 : A0 × (List Ab) × Int) (n2 : Nat) (a2 : Al) (z2 : Unit) : Option (Ctl Unit Bool) :=
 andThen (Asr y3 y7 a2) (λ v => some (.ret v)) λ z3 => (Az [((a2.Kind == 3), true)] (F28 y3.1 y7.1.Power a2.Number) default).bind λ y36 => bif ((a2.Kind == 3) && y36) then some (.ret false) else some (.next ())
def Asu (y3 : K9) (n0 : Nat) (a0 : An) (z0 : Sg0) : Option (Ctl (Sg0) Bool) :=
 (uA y3.1 (⟨z0.2.2.2.2.2.2, (⟨z0.1, z0.2.1, z0.2.2.1, z0.2.2.2.1⟩ : Ab), z0.2.2.2.2.1, z0.2.2.2.2.2.1⟩ : A0) a0).bind λ y7 => bif (A8j z0 y7) then some (.ret false) else bif ((y7.2.1.length : Int) == 0) then (F19 (⟨z0.1, z0.2.1, z0.2.2.1, z0.2.2.2.1⟩ : Ab) y7.1.Power).bind λ y11 => (Az [(!y11, false)] (getI y7.1.Bc (w64 ((y7.1.Bc.length : Int) - 1))) default).bind λ y13 => bif ((!y11) || (y13.Err == 0)) then some (.ret false) else some (.next (y7.1.Power.Ag, y7.1.Power.Ac, y7.1.Power.Ak, y7.1.Power.Ao, y7.1.A6, y7.1.Bc, y7.1.Time)) else (getI y7.2.1 0).bind λ y16 => (F24 y3.1 y16 y7.1.Power).bind λ y18 => (Az [(!y18, false)] (getI y7.2.1 (w64 ((y7.2.1.length : Int) - 1))) default).bind λ y20 => (Az [(!y18, false)] (F19 y20 y7.1.Power) default).bind λ y22 => bif ((!y18) || (!y22)) then some (.ret false) else (Wg y3.1 y7.1.Power).bind λ y25 => andThen (foldI (Ast y3 y7) y25 0 ()) (λ v => some (.ret v)) λ z1 => andThen (foldI (Ass y3 y7) y7.1.Power.Ao 0 ()) (λ v => some (.ret v)) λ z2 => some (.next (y7.1.Power.Ag, y7.1.Power.Ac, y7.1.Power.Ak, y7.1.Power.Ao, y7.1.A6, y7.1.Bc, y7.1.Time))
def F7 (x0 : List Int) : Option Bool :=
 (F8 x0).bind λ y1 => (F9 y1).bind λ y3 => (uH y3.2.2.2 y3.1 6).bind λ y5 => andThen (foldI (Asu y3) y5.1 0 (y3.2.2.1.Power.Ag, y3.2.2.1.Power.Ac, y3.2.2.1.Power.Ak, y3.2.2.1.Power.Ao, y3.2.2.1.A6, y3.2.2.1.Bc, y3.2.2.1.Time)) some λ z0 => (F13).bind λ y39 => some y39
end Go.Proofs.YthgnbpdjncbkfaaGreat
