import Derived.Test.YtcigbocngfaopaaGreatTy
set_option linter.unusedVariables false
namespace Go.Proofs.YtcigbocngfaopaaGreat
open Go.SL
abbrev Sg0 := (List Bool) × (List Int) × (List An)
abbrev Sg1 := (List Bool) × (List Ae) × (List Int) × (List Al)
abbrev Sg2 := Int × (List Bool) × (List Ae) × (List Int) × (List Al)
abbrev Sg3 := Int × (List Int) × Int × (List Af)
abbrev Sg4 := Int × (List Int) × Int × (List Af) × (List A3)
abbrev Sg5 := Int × (List Int) × Int × (List Af) × (List A9)
abbrev Sg6 := Int × (List Int) × Int × (List Ae)
abbrev Sg7 := Int × (List Af) × (List A9) × (List A3) × Int × Int × (List Bool) × (List Ae) × (List Int) × (List Al) × (List Bool) × (List An)
abbrev Sg8 := Int × (List Af) × (List A9) × (List A3) × Int × Int × (List Bool) × (List Ae) × (List Int) × (List Al) × (List An)
abbrev Sg9 := Int × (List Ae) × (List An)
abbrev Gg := Int × Int × (List Af) × (List A9) × (List A3) × Int × Int × (List Bool) × (List Ae) × (List Int) × (List Al) × (List Bool) × (List An)
def F6 (x0 : List Int) : Option Ag :=
 (cutI x0 0 (min (x0.length : Int) 600)).bind λ y2 => some (⟨y2, 0⟩ : Ag)
def Ael (x0 : Int) (x1 : Int) : Option Int :=
 bif decide (x1 < 1) then some 0 else (nzI x1).bind λ u3 => (nzI x1).bind λ u5 => some (Int.tmod (w64 ((Int.tmod x0 x1) + x1)) x1)
def F60 (x0 : Ag) (x1 : Int) : Option (Int × Ag) :=
 bif decide (x0.At >= (x0.L.length : Int)) then some (0, x0) else (getI x0.L (w64 ((w64 (x0.At + 1)) - 1))).bind λ y2 => (Ael y2 x1).bind λ y4 => some (y4, (⟨x0.L, w64 (x0.At + 1)⟩ : Ag))
def F64 (x0 : Ag) (x1 : Int) (x2 : Int) : Option (Int × Ag) :=
 (F60 x0 (w64 ((w64 (x2 - x1)) + 1))).bind λ y1 => some (w64 (x1 + y1.1), y1.2)
def F65 (x0 : Ag) (x1 : List Int) : Option (Int × Ag) :=
 (F60 x0 (x1.length : Int)).bind λ y1 => (getI x1 y1.1).bind λ y3 => some (y3, y1.2)
def Wu (y1 : Int × Ag) (z0 : Sg3) : Option (Ctl (Sg3) Unit) :=
 bif decide (z0.1 < y1.1) then (F60 (⟨z0.2.1, z0.2.2.1⟩ : Ag) 6).bind λ y8 => bif decide (y8.1 < 5) then (F60 y8.2 z0.1).bind λ y11 => (appI 25 z0.2.2.2 [(⟨1, y11.1, z0.1⟩ : Af)]).bind λ y13 => some (.next (w64 (z0.1 + 1), y11.2.L, y11.2.At, y13)) else some (.next (w64 (z0.1 + 1), y8.2.L, y8.2.At, z0.2.2.2)) else some (.brk (z0.1, z0.2.1, z0.2.2.1, z0.2.2.2))
def Adu (y1 : Int × Ag) (z0 : Sg3) (y15 : Int × Ag) : Option (Ctl ((List Af)) Unit) :=
 bif ((decide (y1.1 > 2)) && (y15.1 == 1)) then (appI 25 z0.2.2.2 [(⟨1, 0, w64 (y1.1 - 1)⟩ : Af)]).bind λ y18 => some (.next y18) else some (.next z0.2.2.2)
def Wt (y1 : Int × Ag) (z2 : Sg5) : Option (Ctl (Sg5) Unit) :=
 bif decide (z2.1 > 0) then (F60 (⟨z2.2.1, z2.2.2.1⟩ : Ag) y1.1).bind λ y23 => (appI 25 z2.2.2.2.1 [(⟨2, y23.1, (z2.2.2.2.2.length : Int)⟩ : Af)]).bind λ y25 => (F65 y23.2 [10, 50, 100]).bind λ y27 => (F65 y27.2 [0, 5, y27.1]).bind λ y29 => (F65 y29.2 [0, 1, 3]).bind λ y31 => (appI 25 z2.2.2.2.2 [(⟨y27.1, y29.1, y31.1⟩ : A9)]).bind λ y33 => some (.next (w64 (z2.1 - 1), y31.2.L, y31.2.At, y25, y33)) else some (.brk (z2.1, z2.2.1, z2.2.2.1, z2.2.2.2.1, z2.2.2.2.2))
def Adt (y1 : Int × Ag) (z3 : Sg4) (y38 : Int × Ag) (y40 : List Af) (y42 : Int × Ag) : Option (Ctl ((List Af)) Unit) :=
 bif ((decide (y1.1 > 1)) && (y42.1 == 3)) then (nzI y1.1).bind λ u46 => (appI 25 y40 [(⟨3, Int.tmod (w64 (y38.1 + 1)) y1.1, (z3.2.2.2.2.length : Int)⟩ : Af)]).bind λ y47 => some (.next y47) else some (.next y40)
def Ata (z3 : Sg4) (y57 : Int × Ag) : Bool := ((decide ((z3.2.2.2.2.length : Int) > 0)) && (y57.1 == 3))
def Ws (y1 : Int × Ag) (z3 : Sg4) : Option (Ctl (Sg4) Unit) :=
 bif decide (z3.1 > 0) then (F60 (⟨z3.2.1, z3.2.2.1⟩ : Ag) y1.1).bind λ y38 => (appI 25 z3.2.2.2.1 [(⟨3, y38.1, (z3.2.2.2.2.length : Int)⟩ : Af)]).bind λ y40 => (Ax [(decide (y1.1 > 1), true)] (F60 y38.2 4) (default, y38.2)).bind λ y42 => andThen (Adt y1 z3 y38 y40 y42) (λ _ => none) λ z4 => (F65 y42.2 [0, 5, 20, 40]).bind λ y49 => (F65 y49.2 [0, w64 (Int.tdiv y49.1 2), y49.1]).bind λ y51 => (F60 y51.2 3).bind λ y53 => (F64 y53.2 (-1) 2).bind λ y55 => (Ax [(decide ((z3.2.2.2.2.length : Int) > 0), true)] (F60 y55.2 4) (default, y55.2)).bind λ y57 => bif (Ata z3 y57) then (F60 y57.2 (z3.2.2.2.2.length : Int)).bind λ y60 => (appI 57 z3.2.2.2.2 [(⟨y49.1, y51.1, y53.1, y55.1, [y60.1]⟩ : A3)]).bind λ y62 => some (.next (w64 (z3.1 - 1), y60.2.L, y60.2.At, z4, y62)) else (appI 57 z3.2.2.2.2 [(⟨y49.1, y51.1, y53.1, y55.1, ([] : List Int)⟩ : A3)]).bind λ y64 => some (.next (w64 (z3.1 - 1), y57.2.L, y57.2.At, z4, y64)) else some (.brk (z3.1, z3.2.1, z3.2.2.1, z3.2.2.2.1, z3.2.2.2.2))
def F28 (x0 : Ag) : Option (Aa × Ag) :=
 (F64 x0 1 4).bind λ y1 => (F65 y1.2 [0, 50, 200, 1800]).bind λ y3 => (F65 y3.2 [0, 10, 50]).bind λ y5 => andThen (whileN (Wu y1) 1152921504606846976 (1, y5.2.L, y5.2.At, ([] : List Af))) (λ _ => none) λ z0 => (Ax [(decide (y1.1 > 2), true)] (F60 (⟨z0.2.1, z0.2.2.1⟩ : Ag) 2) (default, (⟨z0.2.1, z0.2.2.1⟩ : Ag))).bind λ y15 => andThen (Adu y1 z0 y15) (λ _ => none) λ z1 => (F60 y15.2 5).bind λ y20 => andThen (whileN (Wt y1) 1152921504606846976 (y20.1, y20.2.L, y20.2.At, z1, ([] : List A9))) (λ _ => none) λ z2 => (F60 (⟨z2.2.1, z2.2.2.1⟩ : Ag) 6).bind λ y35 => andThen (whileN (Ws y1) 1152921504606846976 (y35.1, y35.2.L, y35.2.At, z2.2.2.2.1, ([] : List A3))) (λ _ => none) λ z3 => some ((⟨y1.1, z3.2.2.2.1, z2.2.2.2.2, z3.2.2.2.2, y3.1, y5.1⟩ : Aa), (⟨z3.2.1, z3.2.2.1⟩ : Ag))
def F46 (x0 : Int) (x1 : Int) (x2 : Int) : Bool :=
 ((decide (x0 >= x1)) && (decide (x0 <= x2)))
def F47 (x0 : Aa) (x1 : Al) : Bool :=
 bif (x1.Kind == 1) then F46 x1.Number 0 (w64 ((x0.Ac.length : Int) - 1)) else bif (x1.Kind == 2) then F46 x1.Number 0 (w64 ((x0.Ad.length : Int) - 1)) else bif (x1.Kind == 3) then F46 x1.Number 0 (w64 (x0.Ao - 1)) else bif (x1.Kind == 4) then F46 x1.Number 0 (w64 ((x0.Ai.length : Int) - 1)) else false
def Af7 (x1 : Aa) (z0 : Int × (List Int) × Int × (List Bool)) : Bool := decide (z0.1 < (x1.Ad.length : Int))
def N8 (x1 : Aa) (z0 : Int × (List Int) × Int × (List Bool)) : Option (Ctl (Int × (List Int) × Int × (List Bool)) Unit) :=
 bif (Af7 x1 z0) then (F60 (⟨z0.2.1, z0.2.2.1⟩ : Ag) 2).bind λ y2 => (appI 2 z0.2.2.2 [(y2.1 == 1)]).bind λ y4 => some (.next (w64 (z0.1 + 1), y2.2.L, y2.2.At, y4)) else some (.brk (z0.1, z0.2.1, z0.2.2.1, z0.2.2.2))
def Af6 (x1 : Aa) (z1 : Int × (List Bool)) : Bool := decide (z1.1 < (x1.Ai.length : Int))
def Abn (z1 : Int × (List Bool)) (a2 : Af) (y7 : Bool) : Bool := (((a2.Kind == 3) && (a2.B == z1.1)) && y7)
def N6 (z1 : Int × (List Bool)) (n2 : Nat) (a2 : Af) (z2 : Bool × (List Bool)) : Option (Ctl (Bool × (List Bool)) Unit) :=
 (Ax [(((a2.Kind == 3) && (a2.B == z1.1)), true)] (getI z2.2 (cnt 0 n2)) default).bind λ y7 => bif (Abn z1 a2 y7) then (getI z2.2 (cnt 0 n2)).bind λ y10 => (setI z2.2 (cnt 0 n2) z2.1).bind λ y12 => some (.next (false, y12)) else some (.next (z2.1, z2.2))
def N7 (x1 : Aa) (z1 : Int × (List Bool)) : Option (Ctl (Int × (List Bool)) Unit) :=
 bif (Af6 x1 z1) then andThen (foldI (N6 z1) x1.Ad 0 (true, z1.2)) (λ _ => none) λ z2 => some (.next (w64 (z1.1 + 1), z2.2)) else some (.brk (z1.1, z1.2))
def Abm (x1 : Aa) (z3 : Sg6) : Bool := decide (z3.1 < (x1.Ac.length : Int))
def N5 (x1 : Aa) (z3 : Sg6) : Option (Ctl (Sg6) Unit) :=
 bif (Abm x1 z3) then (F65 (⟨z3.2.1, z3.2.2.1⟩ : Ag) [0, 1, 2, 2, 2, 3]).bind λ y15 => (F60 y15.2 5).bind λ y17 => (F65 y17.2 [5000, 5000, 5005, 4950]).bind λ y19 => (F65 y19.2 [0, 0, 40, 1800, 3590]).bind λ y21 => (appI 33 z3.2.2.2 [(⟨y15.1, y17.1, y19.1, y21.1⟩ : Ae)]).bind λ y23 => some (.next (w64 (z3.1 + 1), y21.2.L, y21.2.At, y23)) else some (.brk (z3.1, z3.2.1, z3.2.2.1, z3.2.2.2))
def N4 (n4 : Nat) (a4 : A3) (z4 : (List Int) × Int × (List Int)) : Option (Ctl ((List Int) × Int × (List Int)) Unit) :=
 (F65 (⟨z4.1, z4.2.1⟩ : Ag) [a4.Load, a4.Load, a4.Least, w64 (Int.tdiv a4.Load 3)]).bind λ y25 => (appI 9 z4.2.2 [y25.1]).bind λ y27 => some (.next (y25.2.L, y25.2.At, y27))
def N3 (x1 : Aa) (z5 : Int × (List Int) × Int × (List Al)) : Option (Ctl (Int × (List Int) × Int × (List Al)) Unit) :=
 bif decide (z5.1 <= 4) then (F60 (⟨z5.2.1, z5.2.2.1⟩ : Ag) 5).bind λ y30 => bif (y30.1 == 4) then (F60 y30.2 4).bind λ y33 => bif F47 x1 (⟨z5.1, y33.1⟩ : Al) then (appI 17 z5.2.2.2 [(⟨z5.1, y33.1⟩ : Al)]).bind λ y36 => some (.next (w64 (z5.1 + 1), y33.2.L, y33.2.At, y36)) else some (.next (w64 (z5.1 + 1), y33.2.L, y33.2.At, z5.2.2.2)) else some (.next (w64 (z5.1 + 1), y30.2.L, y30.2.At, z5.2.2.2)) else some (.brk (z5.1, z5.2.1, z5.2.2.1, z5.2.2.2))
def Wr (x0 : Ag) (x1 : Aa) : Option (Ab × Ag) :=
 andThen (whileN (N8 x1) 1152921504606846976 (0, x0.L, x0.At, ([] : List Bool))) (λ _ => none) λ z0 => andThen (whileN (N7 x1) 1152921504606846976 (0, z0.2.2.2)) (λ _ => none) λ z1 => andThen (whileN (N5 x1) 1152921504606846976 (0, z0.2.1, z0.2.2.1, ([] : List Ae))) (λ _ => none) λ z3 => andThen (foldI N4 x1.Ai 0 (z3.2.1, z3.2.2.1, ([] : List Int))) (λ _ => none) λ z4 => andThen (whileN (N3 x1) 7 (1, z4.1, z4.2.1, ([] : List Al))) (λ _ => none) λ z5 => some ((⟨z1.2, z3.2.2.2, z4.2.2, z5.2.2.2⟩ : Ab), (⟨z5.2.1, z5.2.2.1⟩ : Ag))
def Hr (x1 : Int) (x2 : Int) (a0 : Af) : Bool := ((a0.Kind == x1) && ((a0.B == x2) || ((x1 == 1) && (a0.A == x2))))
def Adk (x1 : Int) (x2 : Int) (n0 : Nat) (a0 : Af) (z0 : (List Int)) : Option (Ctl ((List Int)) Unit) :=
 bif (Hr x1 x2 a0) then (appI 9 z0 [cnt 0 n0]).bind λ y2 => some (.next y2) else some (.next z0)
def F49 (x0 : Aa) (x1 : Int) (x2 : Int) : Option ((List Int)) :=
 andThen (foldI (Adk x1 x2) x0.Ad 0 ([] : List Int)) (λ _ => none) λ z0 => some z0
def As2 (x0 : Aa) (a0 : Af) : Bool := !(F46 a0.B (w64 (a0.A + 1)) (w64 (x0.Ao - 1)))
def As1 (x0 : Aa) (a0 : Af) : Bool := !(F46 a0.B 0 (w64 ((x0.Ac.length : Int) - 1)))
def As0 (x0 : Aa) (a0 : Af) : Bool := !(F46 a0.B 0 (w64 ((x0.Ai.length : Int) - 1)))
def Aim (a0 : Af) (a1 : Af) : Bool := ((a1.Kind == a0.Kind) && ((a1.A == a0.A) && ((a1.B == a0.B) && true)))
def Wn (a0 : Af) (n1 : Nat) (a1 : Af) (z1 : Unit) : Option (Ctl Unit Bool) :=
 bif (Aim a0 a1) then some (.ret false) else some (.next ())
def Ac5 (x0 : Aa) (n0 : Nat) (a0 : Af) (z0 : Unit) : Option (Ctl Unit Bool) :=
 bif !(F46 a0.A 0 (w64 (x0.Ao - 1))) then some (.ret false) else bif (a0.Kind == 1) then bif (As2 x0 a0) then some (.ret false) else some (.next ()) else bif (a0.Kind == 2) then bif (As1 x0 a0) then some (.ret false) else some (.next ()) else bif (a0.Kind == 3) then bif (As0 x0 a0) then some (.ret false) else (cutI x0.Ad 0 (cnt 0 n0)).bind λ y9 => andThen (foldI (Wn a0) y9 0 ()) (λ v => some (.ret v)) λ z1 => some (.next ()) else some (.ret false)
def Anw (x0 : Aa) (z2 : Int) : Bool := decide (z2 < (x0.Ac.length : Int))
def Ac4 (x0 : Aa) (z2 : Int) : Option (Ctl Int Bool) :=
 bif (Anw x0 z2) then (F49 x0 2 z2).bind λ y12 => bif ((y12.length : Int) != 1) then some (.ret false) else some (.next (w64 (z2 + 1))) else some (.brk z2)
def Anv (x0 : Aa) (z3 : Int) : Bool := decide (z3 < (x0.Ai.length : Int))
def Ac3 (x0 : Aa) (z3 : Int) : Option (Ctl Int Bool) :=
 bif (Anv x0 z3) then (F49 x0 3 z3).bind λ y16 => bif decide ((y16.length : Int) < 1) then some (.ret false) else some (.next (w64 (z3 + 1))) else some (.brk z3)
def F95 (x0 : Aa) : Option Bool :=
 andThen (foldI (Ac5 x0) x0.Ad 0 ()) some λ z0 => andThen (whileN (Ac4 x0) 1152921504606846976 0) some λ z2 => andThen (whileN (Ac3 x0) 1152921504606846976 0) some λ z3 => some true
def Asz (a0 : A9) : Bool := (((!(F46 a0.Rating 1 50000)) || (!(F46 a0.Least 0 a0.Rating))) || (!(F46 a0.Start 0 600)))
def Ac2 (n0 : Nat) (a0 : A9) (z0 : Unit) : Option (Ctl Unit Bool) :=
 bif (Asz a0) then some (.ret false) else some (.next ())
def F96 (x0 : Aa) : Option Bool :=
 andThen (foldI Ac2 x0.Ac 0 ()) some λ z0 => some true
def Asy (a0 : A3) : Bool := (((((!(F46 a0.Load 0 50000)) || (!(F46 a0.Least 0 a0.Load))) || (!(F46 a0.Bn 0 15))) || (!(F46 a0.Thruster (-1) 7))) || (decide ((a0.Needs.length : Int) > 4)))
def Asx (n0 : Nat) (n1 : Nat) (a1 : Int) (y2 : Int) : Bool := ((!(F46 a1 0 (w64 ((cnt 0 n0) - 1)))) || ((decide ((cnt 0 n1) > 0)) && (decide (y2 >= a1))))
def Ac0 (n0 : Nat) (a0 : A3) (n1 : Nat) (a1 : Int) (z1 : Unit) : Option (Ctl Unit Bool) :=
 (Ax [(!(F46 a1 0 (w64 ((cnt 0 n0) - 1))), false), (decide ((cnt 0 n1) > 0), true)] (getI a0.Needs (w64 ((cnt 0 n1) - 1))) default).bind λ y2 => bif (Asx n0 n1 a1 y2) then some (.ret false) else some (.next ())
def Ac1 (n0 : Nat) (a0 : A3) (z0 : Unit) : Option (Ctl Unit Bool) :=
 bif (Asy a0) then some (.ret false) else andThen (foldI (Ac0 n0 a0) a0.Needs 0 ()) (λ v => some (.ret v)) λ z1 => some (.next ())
def F97 (x0 : Aa) : Option Bool :=
 andThen (foldI Ac1 x0.Ai 0 ()) some λ z0 => some true
def Aio (x0 : Aa) : Bool := (((((decide (x0.Ao < 1)) || (decide (x0.Ao > 6))) || (decide ((x0.Ad.length : Int) > 24))) || (decide ((x0.Ac.length : Int) > 8))) || (decide ((x0.Ai.length : Int) > 16)))
def Ain (x0 : Aa) (y2 : Bool) (y4 : Bool) (y6 : Bool) : Bool := (((((((!y2) || (!y4)) || (!y6)) || (decide (x0.Phase < 0))) || (decide (x0.Phase > 1800))) || (decide (x0.Ar < 0))) || (decide (x0.Ar > 6000)))
def F45 (x0 : Aa) : Option Int :=
 bif (Aio x0) then some 2 else (F95 x0).bind λ y2 => (Ax [(!y2, false)] (F96 x0) default).bind λ y4 => (Ax [(((!y2) || (!y4)), false)] (F97 x0) default).bind λ y6 => bif (Ain x0 y2 y4 y6) then some 14 else some 0
def F48 (x0 : Al) (x1 : Al) : Bool :=
 ((decide (x0.Kind < x1.Kind)) || ((x0.Kind == x1.Kind) && (decide (x0.Number < x1.Number))))
def Ath (x0 : Aa) (x1 : Ab) : Bool := ((((x1.Ah.length : Int) != (x0.Ad.length : Int)) || ((x1.Ac.length : Int) != (x0.Ac.length : Int))) || ((x1.As.length : Int) != (x0.Ai.length : Int)))
def Atg (a0 : Ae) : Bool := ((((!(F46 a0.State 0 3)) || (!(F46 a0.Since 0 2147483648))) || (!(F46 a0.Ar 0 6000))) || (!(F46 a0.Phase 0 3599)))
def Aej (n0 : Nat) (a0 : Ae) (z0 : Unit) : Option (Ctl Unit Int) :=
 bif (Atg a0) then some (.ret 11) else some (.next ())
def Aei (x0 : Aa) (n1 : Nat) (a1 : Int) (z1 : Unit) : Option (Ctl Unit Int) :=
 (getI x0.Ai (cnt 0 n1)).bind λ y6 => bif !(F46 a1 0 y6.Load) then some (.ret 11) else some (.next ())
def Atf (x0 : Aa) (n2 : Nat) (a2 : Al) (y10 : Al) : Bool := ((!(F47 x0 a2)) || ((decide ((cnt 0 n2) > 0)) && (!(F48 y10 a2))))
def Aeh (x0 : Aa) (x1 : Ab) (n2 : Nat) (a2 : Al) (z2 : Unit) : Option (Ctl Unit Int) :=
 (Ax [(!(F47 x0 a2), false), (decide ((cnt 0 n2) > 0), true)] (getI x1.Ak (w64 ((cnt 0 n2) - 1))) default).bind λ y10 => bif (Atf x0 n2 a2 y10) then some (.ret 11) else some (.next ())
def Ate (x0 : Aa) (z3 : Int) : Bool := decide (z3 < (x0.Ai.length : Int))
def Aef (x1 : Ab) (n4 : Nat) (a4 : Int) (z4 : Int) : Option (Ctl Int Unit) :=
 (getI x1.Ah a4).bind λ y16 => bif y16 then some (.next (w64 (z4 + 1))) else some (.next z4)
def Aeg (x0 : Aa) (x1 : Ab) (z3 : Int) : Option (Ctl Int Int) :=
 bif (Ate x0 z3) then (F49 x0 3 z3).bind λ y14 => andThen (foldI (Aef x1) y14 0 0) (λ _ => none) λ z4 => bif decide (z4 > 1) then some (.ret 11) else some (.next (w64 (z3 + 1))) else some (.brk z3)
def F11 (x0 : Aa) (x1 : Ab) : Option Int :=
 (F45 x0).bind λ y1 => bif (y1 != 0) then some y1 else bif (Ath x0 x1) then some 8 else andThen (foldI Aej x1.Ac 0 ()) some λ z0 => andThen (foldI (Aei x0) x1.As 0 ()) some λ z1 => bif decide ((x1.Ak.length : Int) > 32) then some 11 else andThen (foldI (Aeh x0 x1) x1.Ak 0 ()) some λ z2 => andThen (whileN (Aeg x0 x1) 1152921504606846976 0) some λ z3 => some 0
def T9 (x0 : Ab) : Option Ab :=
 (appI 2 ([] : List Bool) x0.Ah).bind λ y1 => (appI 33 ([] : List Ae) x0.Ac).bind λ y3 => (appI 9 ([] : List Int) x0.As).bind λ y5 => (appI 17 ([] : List Al) x0.Ak).bind λ y7 => some (⟨y1, y3, y5, y7⟩ : Ab)
def Atc (x1 : Int) (x2 : Int) (a0 : Al) : Bool := ((a0.Kind == x1) && (a0.Number == x2))
def W5 (x1 : Int) (x2 : Int) (n0 : Nat) (a0 : Al) (z0 : Unit) : Option (Ctl Unit Bool) :=
 bif (Atc x1 x2 a0) then some (.ret true) else some (.next ())
def F15 (x0 : Ab) (x1 : Int) (x2 : Int) : Option Bool :=
 andThen (foldI (W5 x1 x2) x0.Ak 0 ()) some λ z0 => some false
def Aek (x0 : Aa) (x1 : Ab) (x2 : Int) : Option Bool :=
 (getI x0.Ad x2).bind λ y1 => (F15 x1 3 y1.A).bind λ y3 => bif y3 then some true else bif (y1.Kind == 1) then (F15 x1 3 y1.B).bind λ y7 => some y7 else bif (y1.Kind == 2) then (F15 x1 1 y1.B).bind λ y10 => (Ax [(y10, false)] (getI x1.Ac y1.B) default).bind λ y12 => some (y10 || (y12.State != 2)) else (F15 x1 4 y1.B).bind λ y14 => some y14
def V7 (a1 : Af) (y7 : Bool) (y9 : Bool) (y11 : Bool) : Bool := (((a1.Kind == 1) && y7) && (y9 || y11))
def Acy (x1 : Ab) (n1 : Nat) (a1 : Af) (z1 : (List Bool)) : Option (Ctl ((List Bool)) Unit) :=
 (Ax [((a1.Kind == 1), true)] (getI x1.Ah (cnt 0 n1)) default).bind λ y7 => (Ax [(((a1.Kind == 1) && y7), true)] (getI z1 a1.A) default).bind λ y9 => (Ax [(((a1.Kind == 1) && y7), true), (y9, false)] (getI z1 a1.B) default).bind λ y11 => bif (V7 a1 y7 y9 y11) then (getI z1 a1.A).bind λ y14 => (setI z1 a1.A true).bind λ y16 => (getI y16 a1.B).bind λ y18 => (setI y16 a1.B true).bind λ y20 => some (.next y20) else some (.next z1)
def Acz (x0 : Aa) (x1 : Ab) (n0 : Nat) (a0 : Bool) (z0 : (List Bool)) : Option (Ctl ((List Bool)) Unit) :=
 andThen (foldI (Acy x1) x0.Ad 0 z0) (λ _ => none) λ z1 => some (.next z1)
def Acx (n2 : Nat) (a2 : Bool) (z2 : (List Int)) : Option (Ctl ((List Int)) Unit) :=
 bif a2 then (appI 9 z2 [cnt 0 n2]).bind λ y23 => some (.next y23) else some (.next z2)
def F98 (x0 : Aa) (x1 : Ab) (x2 : Int) : Option ((List Int)) :=
 (mkI 2 x0.Ao false).bind λ y1 => (getI y1 x2).bind λ y3 => (setI y1 x2 true).bind λ y5 => andThen (foldI (Acz x0 x1) y5 0 y5) (λ _ => none) λ z0 => andThen (foldI Acx z0 0 ([] : List Int)) (λ _ => none) λ z2 => some z2
def uG (x0 : Aa) (x2 : Int) (y1 : Int) (y3 : Ae) : Bool := ((((y1 != 0) || (decide (x2 < 0))) || (decide (x2 >= (x0.Ac.length : Int)))) || (y3.State != 2))
def F52 (x0 : Aa) (x1 : Ab) (x2 : Int) : Option (Int × Bool) :=
 (F11 x0 x1).bind λ y1 => (Ax [((((y1 != 0) || (decide (x2 < 0))) || (decide (x2 >= (x0.Ac.length : Int)))), false)] (getI x1.Ac x2) default).bind λ y3 => bif (uG x0 x2 y1 y3) then some (0, false) else (F49 x0 2 x2).bind λ y6 => (getI y6 0).bind λ y8 => (getI x1.Ah y8).bind λ y10 => bif !y10 then some (0, false) else (getI x0.Ad y8).bind λ y13 => some (y13.A, true)
def Wq (x1 : Int) (n0 : Nat) (a0 : Int) (z0 : Unit) : Option (Ctl Unit Bool) :=
 bif (a0 == x1) then some (.ret true) else some (.next ())
def F53 (x0 : List Int) (x1 : Int) : Option Bool :=
 andThen (foldI (Wq x1) x0 0 ()) some λ z0 => some false
def Atd (x0 : Aa) (x2 : Int) (y1 : Int) : Bool := (((y1 != 0) || (decide (x2 < 0))) || (decide (x2 >= (x0.Ai.length : Int))))
def W7 (x0 : Aa) (x1 : Ab) (n0 : Nat) (a0 : Int) (z0 : Unit) : Option (Ctl Unit (Int × Bool)) :=
 (getI x1.Ah a0).bind λ y6 => bif y6 then (getI x0.Ad a0).bind λ y9 => some (.ret (y9.A, true)) else some (.next ())
def F13 (x0 : Aa) (x1 : Ab) (x2 : Int) : Option (Int × Bool) :=
 (F11 x0 x1).bind λ y1 => bif (Atd x0 x2 y1) then some (0, false) else (F49 x0 3 x2).bind λ y4 => andThen (foldI (W7 x0 x1) y4 0 ()) some λ z0 => some (0, false)
def As9 (x0 : Aa) (x2 : Int) (y1 : Int) : Bool := (((y1 != 0) || (decide (x2 < 0))) || (decide (x2 >= x0.Ao)))
def As8 (x0 : Aa) (z0 : Int × (List Int)) : Bool := decide (z0.1 < (x0.Ac.length : Int))
def Adi (x0 : Aa) (x1 : Ab) (y4 : (List Int)) (z0 : Int × (List Int)) : Option (Ctl (Int × (List Int)) Unit) :=
 bif (As8 x0 z0) then (F52 x0 x1 z0.1).bind λ y7 => (Ax [(y7.2, true)] (F53 y4 y7.1) default).bind λ y9 => bif (y7.2 && y9) then (appI 9 z0.2 [z0.1]).bind λ y12 => some (.next (w64 (z0.1 + 1), y12)) else some (.next (w64 (z0.1 + 1), z0.2)) else some (.brk (z0.1, z0.2))
def As7 (x0 : Aa) (z1 : Int × (List Int)) : Bool := decide (z1.1 < (x0.Ai.length : Int))
def Adh (x0 : Aa) (x1 : Ab) (y4 : (List Int)) (z1 : Int × (List Int)) : Option (Ctl (Int × (List Int)) Unit) :=
 bif (As7 x0 z1) then (F13 x0 x1 z1.1).bind λ y15 => (Ax [(y15.2, true)] (F53 y4 y15.1) default).bind λ y17 => bif (y15.2 && y17) then (appI 9 z1.2 [z1.1]).bind λ y20 => some (.next (w64 (z1.1 + 1), y20)) else some (.next (w64 (z1.1 + 1), z1.2)) else some (.brk (z1.1, z1.2))
def F50 (x0 : Aa) (x1 : Ab) (x2 : Int) : Option (Aj × Bool) :=
 (F11 x0 x1).bind λ y1 => bif (As9 x0 x2 y1) then some ((⟨([] : List Int), ([] : List Int), ([] : List Int)⟩ : Aj), false) else (F98 x0 x1 x2).bind λ y4 => andThen (whileN (Adi x0 x1 y4) 1152921504606846976 (0, ([] : List Int))) (λ _ => none) λ z0 => andThen (whileN (Adh x0 x1 y4) 1152921504606846976 (0, ([] : List Int))) (λ _ => none) λ z1 => some ((⟨y4, z0.2, z1.2⟩ : Aj), true)
def F14 (x0 : Aa) (x1 : Ab) (x2 : Int) : Option Bool :=
 (F50 x0 x1 x2).bind λ y1 => some (y1.2 && (decide ((y1.1.Ac.length : Int) > 0)))
def Adx (x0 : Aa) (x1 : Ab) (z0 : Int × (List Aj)) : Option (Ctl (Int × (List Aj)) Unit) :=
 bif decide (z0.1 < x0.Ao) then (F50 x0 x1 z0.1).bind λ y5 => (getI y5.1.Ao 0).bind λ y7 => bif (y7 == z0.1) then (appI 73 z0.2 [y5.1]).bind λ y10 => some (.next (w64 (z0.1 + 1), y10)) else some (.next (w64 (z0.1 + 1), z0.2)) else some (.brk (z0.1, z0.2))
def F21 (x0 : Aa) (x1 : Ab) : Option ((List Aj)) :=
 (F11 x0 x1).bind λ y1 => bif (y1 != 0) then some ([] : List Aj) else andThen (whileN (Adx x0 x1) 1152921504606846976 (0, ([] : List Aj))) (λ _ => none) λ z0 => some z0.2
def Y3 (x1 : Ab) (a0 : Aj) (n1 : Nat) (a1 : Int) (z1 : (List Ae)) : Option (Ctl ((List Ae)) Unit) :=
 (getI a0.Ac 0).bind λ y5 => (getI x1.Ac y5).bind λ y7 => (getI a0.Ac 0).bind λ y9 => (getI x1.Ac y9).bind λ y11 => (getI z1 a1).bind λ y13 => (setI z1 a1 (⟨y13.State, y13.Since, y7.Ar, y13.Phase⟩ : Ae)).bind λ y15 => (getI y15 a1).bind λ y17 => (setI y15 a1 (⟨y17.State, y17.Since, y17.Ar, y11.Phase⟩ : Ae)).bind λ y19 => some (.next y19)
def Y4 (x1 : Ab) (n0 : Nat) (a0 : Aj) (z0 : (List Ae)) : Option (Ctl ((List Ae)) Unit) :=
 andThen (foldI (Y3 x1 a0) a0.Ac 0 z0) (λ _ => none) λ z1 => some (.next z1)
def Akg (x0 : Aa) (x1 : Ab) : Option Ab :=
 (T9 x1).bind λ y1 => (F21 x0 x1).bind λ y3 => andThen (foldI (Y4 x1) y3 0 y1.Ac) (λ _ => none) λ z0 => some (⟨y1.Ah, z0, y1.As, y1.Ak⟩ : Ab)
def Zb (x0 : Aa) (x1 : Ab) : Option (Ab × Int) :=
 (F11 x0 x1).bind λ y1 => bif (y1 != 0) then some ((⟨([] : List Bool), ([] : List Ae), ([] : List Int), ([] : List Al)⟩ : Ab), y1) else (Akg x0 x1).bind λ y4 => some (y4, 0)
def As5 (x0 : Aa) (z0 : Int × (List Bool) × (List An)) : Bool := decide (z0.1 < (x0.Ad.length : Int))
def Add (x0 : Aa) (x1 : Ab) (z0 : Int × (List Bool) × (List An)) : Option (Ctl (Int × (List Bool) × (List An)) Unit) :=
 bif (As5 x0 z0) then (getI z0.2.1 z0.1).bind λ y7 => (Ax [(y7, true)] (Aek x0 x1 z0.1) default).bind λ y9 => bif (y7 && y9) then (setI z0.2.1 z0.1 false).bind λ y12 => (appI 25 z0.2.2 [(⟨2, z0.1, 0⟩ : An)]).bind λ y14 => some (.next (w64 (z0.1 + 1), y12, y14)) else some (.next (w64 (z0.1 + 1), z0.2.1, z0.2.2)) else some (.brk (z0.1, z0.2.1, z0.2.2))
def Adc (x0 : Aa) (y4 : Ab) (n1 : Nat) (a1 : Af) (z1 : (List Bool) × (List An)) : Option (Ctl ((List Bool) × (List An)) Unit) :=
 (Ax [((a1.Kind == 3), true)] (getI z1.1 (cnt 0 n1)) default).bind λ y16 => (Ax [(((a1.Kind == 3) && y16), true)] (F14 x0 (⟨z1.1, y4.Ac, y4.As, y4.Ak⟩ : Ab) a1.A) default).bind λ y18 => bif (((a1.Kind == 3) && y16) && (!y18)) then (getI z1.1 (cnt 0 n1)).bind λ y21 => (setI z1.1 (cnt 0 n1) false).bind λ y23 => (appI 25 z1.2 [(⟨2, cnt 0 n1, 0⟩ : An)]).bind λ y25 => some (.next (y23, y25)) else some (.next (z1.1, z1.2))
def F66 (x0 : Aa) (x1 : Ab) : Option (Ab × (List An) × Int) :=
 (F11 x0 x1).bind λ y1 => bif (y1 != 0) then some ((⟨([] : List Bool), ([] : List Ae), ([] : List Int), ([] : List Al)⟩ : Ab), ([] : List An), y1) else (T9 x1).bind λ y4 => andThen (whileN (Add x0 x1) 1152921504606846976 (0, y4.Ah, ([] : List An))) (λ _ => none) λ z0 => andThen (foldI (Adc x0 y4) x0.Ad 0 (z0.2.1, z0.2.2)) (λ _ => none) λ z1 => (Zb x0 (⟨z1.1, y4.Ac, y4.As, y4.Ak⟩ : Ab)).bind λ y27 => some (y27.1, z1.2, 0)
def Ad7 (z0 : Int × (List Int)) (n1 : Nat) (a1 : A3) (z1 : (List Int)) : Option (Ctl ((List Int)) Unit) :=
 bif (a1.Bn == z0.1) then (appI 9 z1 [cnt 0 n1]).bind λ y6 => some (.next y6) else some (.next z1)
def Ad8 (x0 : Aa) (z0 : Int × (List Int)) : Option (Ctl (Int × (List Int)) Unit) :=
 bif decide (z0.1 <= 15) then andThen (foldI (Ad7 z0) x0.Ai 0 z0.2) (λ _ => none) λ z1 => some (.next (w64 (z0.1 + 1), z1)) else some (.brk (z0.1, z0.2))
def F12 (x0 : Aa) : Option ((List Int)) :=
 (F45 x0).bind λ y1 => bif (y1 != 0) then some ([] : List Int) else andThen (whileN (Ad8 x0) 18 (0, ([] : List Int))) (λ _ => none) λ z0 => some z0.2
def V9 (y1 : Aj × Bool) : Bool := ((!y1.2) || ((y1.1.Ac.length : Int) == 0))
def Wz (x1 : Ab) (n0 : Nat) (a0 : Int) (z0 : Int) : Option (Ctl Int Unit) :=
 (getI x1.As a0).bind λ y4 => some (.next (w64 (z0 + y4)))
def F17 (x0 : Aa) (x1 : Ab) (x2 : Int) : Option Int :=
 (F50 x0 x1 x2).bind λ y1 => bif (V9 y1) then some 0 else andThen (foldI (Wz x1) y1.1.Ai 0 0) (λ _ => none) λ z0 => some z0
def Ady (x0 : Aa) (n0 : Nat) (a0 : Int) (z0 : Int) : Option (Ctl Int Unit) :=
 (getI x0.Ac a0).bind λ y3 => some (.next (w64 (z0 + y3.Rating)))
def F18 (x0 : Aa) (x1 : Ab) (x2 : Int) : Option Int :=
 (F50 x0 x1 x2).bind λ y1 => andThen (foldI (Ady x0) y1.1.Ac 0 0) (λ _ => none) λ z0 => some z0
def F16 (x0 : Aa) (x1 : Int) (x2 : Int) : Option ((List Int)) :=
 (F45 x0).bind λ y1 => bif (y1 != 0) then some ([] : List Int) else (F49 x0 x1 x2).bind λ y4 => some y4
def V8 (z1 : Int × (List Int) × (List An)) (y18 : A3) (y20 : Bool) (y22 : Int) : Bool := (((decide (z1.1 <= 0)) || (!y20)) || (decide (y22 <= y18.Least)))
def Ada (x0 : Aa) (a0 : Aj) (n1 : Nat) (a1 : Int) (z1 : Int × (List Int) × (List An)) : Option (Ctl (Int × (List Int) × (List An)) Unit) :=
 (getI x0.Ai a1).bind λ y18 => (Ax [(decide (z1.1 <= 0), false)] (F53 a0.Ai a1) default).bind λ y20 => (Ax [(((decide (z1.1 <= 0)) || (!y20)), false)] (getI z1.2.1 a1) default).bind λ y22 => bif (V8 z1 y18 y20 y22) then some (.next (z1.1, z1.2.1, z1.2.2)) else (getI z1.2.1 a1).bind λ y25 => (setI z1.2.1 a1 (w64 (y25 - (min z1.1 (w64 (y25 - y18.Least)))))).bind λ y27 => (getI y27 a1).bind λ y29 => (appI 25 z1.2.2 [(⟨5, a1, y29⟩ : An)]).bind λ y31 => some (.next (w64 (z1.1 - (min z1.1 (w64 (y25 - y18.Least)))), y27, y31))
def Axh (z2 : Int × (List Bool) × (List An)) (y33 : Bool) (y35 : Int) : Bool := (((decide (z2.1 <= 0)) || (!y33)) || (y35 == 0))
def Ac8 (n3 : Nat) (a3 : Int) (z3 : (List Bool) × (List An)) : Option (Ctl ((List Bool) × (List An)) Unit) :=
 (getI z3.1 a3).bind λ y40 => bif y40 then (setI z3.1 a3 false).bind λ y43 => (appI 25 z3.2 [(⟨2, a3, 0⟩ : An)]).bind λ y45 => some (.next (y43, y45)) else some (.next (z3.1, z3.2))
def Ac9 (x0 : Aa) (a0 : Aj) (z1 : Int × (List Int) × (List An)) (n2 : Nat) (a2 : Int) (z2 : Int × (List Bool) × (List An)) : Option (Ctl (Int × (List Bool) × (List An)) Unit) :=
 (Ax [(decide (z2.1 <= 0), false)] (F53 a0.Ai a2) default).bind λ y33 => (Ax [(((decide (z2.1 <= 0)) || (!y33)), false)] (getI z1.2.1 a2) default).bind λ y35 => bif (Axh z2 y33 y35) then some (.next (z2.1, z2.2.1, z2.2.2)) else (F16 x0 3 a2).bind λ y38 => andThen (foldI Ac8 y38 0 (z2.2.1, z2.2.2)) (λ _ => none) λ z3 => (getI z1.2.1 a2).bind λ y47 => some (.next (w64 (z2.1 - y47), z3.1, z3.2))
def Adb (x0 : Aa) (x1 : Ab) (y6 : (List Int)) (n0 : Nat) (a0 : Aj) (z0 : Sg0) : Option (Ctl (Sg0) Unit) :=
 (getI a0.Ao 0).bind λ y10 => (F17 x0 x1 y10).bind λ y12 => (getI a0.Ao 0).bind λ y14 => (F18 x0 x1 y14).bind λ y16 => andThen (foldI (Ada x0 a0) y6 0 (w64 (y12 - y16), z0.2.1, z0.2.2)) (λ _ => none) λ z1 => andThen (foldI (Ac9 x0 a0 z1) y6 0 (z1.1, z0.1, z1.2.2)) (λ _ => none) λ z2 => some (.next (z2.2.1, z1.2.1, z2.2.2))
def F67 (x0 : Aa) (x1 : Ab) : Option (Ab × (List An) × Int) :=
 (F11 x0 x1).bind λ y1 => bif (y1 != 0) then some ((⟨([] : List Bool), ([] : List Ae), ([] : List Int), ([] : List Al)⟩ : Ab), ([] : List An), y1) else (T9 x1).bind λ y4 => (F12 x0).bind λ y6 => (F21 x0 x1).bind λ y8 => andThen (foldI (Adb x0 x1 y6) y8 0 (y4.Ah, y4.As, ([] : List An))) (λ _ => none) λ z0 => some ((⟨z0.1, y4.Ac, z0.2.1, y4.Ak⟩ : Ab), z0.2.2, 0)
def F29 (x0 : Aa) (x1 : Ab) : Option (Ab × (List An) × Int) :=
 (F66 x0 x1).bind λ y1 => bif (y1.2.2 != 0) then some ((⟨([] : List Bool), ([] : List Ae), ([] : List Int), ([] : List Al)⟩ : Ab), ([] : List An), y1.2.2) else (F67 x0 y1.1).bind λ y4 => (appI 25 y1.2.1 y4.2.1).bind λ y6 => some (y4.1, y6, 0)
def F7 (x0 : Ag) : Option (Aa × Ab × Ag) :=
 (F28 x0).bind λ y1 => (Wr y1.2 y1.1).bind λ y3 => (F29 y1.1 y3.1).bind λ y5 => some (y1.1, y5.1, y3.2)
def F93 (x0 : Int) (x1 : Int) (x2 : Int) : Bool :=
 ((decide (x0 >= x1)) && (decide (x0 <= x2)))
def Agu (x1 : Int) (n0 : Nat) (a0 : Int) (z0 : Unit) : Option (Ctl Unit Int) :=
 bif (x1 == a0) then some (.ret (cnt 0 n0)) else some (.next ())
def Aki (x0 : List Int) (x1 : Int) : Option Int :=
 andThen (foldI (Agu x1) x0 0 ()) some λ z0 => some (-1)
def F59 (x0 : List Int) (x1 : Int) : Option Bool :=
 (Aki x0 x1).bind λ y1 => some (decide (y1 >= 0))
def Asf (x0 : List Int) : Bool :=
 ((x0.length : Int) == 0)
def qJ (n0 : Nat) (a0 : List Int) (z0 : Unit) : Option (Ctl Unit Int) :=
 bif Asf a0 then some (.ret (cnt 0 n0)) else some (.next ())
def W0 (x0 : List (List Int)) : Option Int :=
 andThen (foldI qJ x0 0 ()) some λ z0 => some (-1)
def Qk (x0 : List (List Int)) : Option Bool :=
 (W0 x0).bind λ y1 => some (decide (y1 >= 0))
def Ail (x0 : Aa) (a0 : Af) : Bool := ((a0.Kind == 1) && (F93 a0.B (w64 (a0.A + 1)) (w64 (x0.Ao - 1))))
def Aik (z0 : (List Int) × (List (List Int))) (a0 : Af) (y7 : Int) : Bool := (((a0.Kind == 2) && (F93 a0.B 0 (w64 ((z0.1.length : Int) - 1)))) && (y7 == 0))
def Asw (z0 : (List Int) × (List (List Int))) (a0 : Af) (y16 : Bool) : Bool := (((a0.Kind == 3) && (F93 a0.B 0 (w64 ((z0.2.length : Int) - 1)))) && (!y16))
def Acw (x0 : Aa) (n0 : Nat) (a0 : Af) (z0 : (List Int) × (List (List Int))) : Option (Ctl ((List Int) × (List (List Int))) Bool) :=
 bif !(F93 a0.A 0 (w64 (x0.Ao - 1))) then some (.ret false) else bif (Ail x0 a0) then some (.next (z0.1, z0.2)) else (Ax [(((a0.Kind == 2) && (F93 a0.B 0 (w64 ((z0.1.length : Int) - 1)))), true)] (getI z0.1 a0.B) default).bind λ y7 => bif (Aik z0 a0 y7) then (getI z0.1 a0.B).bind λ y10 => (setI z0.1 a0.B (w64 (y10 + 1))).bind λ y12 => some (.next (y12, z0.2)) else (Ax [(((a0.Kind == 3) && (F93 a0.B 0 (w64 ((z0.2.length : Int) - 1)))), true)] (getI z0.2 a0.B) default).bind λ y14 => (Ax [(((a0.Kind == 3) && (F93 a0.B 0 (w64 ((z0.2.length : Int) - 1)))), true)] (F59 y14 a0.A) default).bind λ y16 => bif (Asw z0 a0 y16) then (getI z0.2 a0.B).bind λ y19 => (appI 9 y19 [a0.A]).bind λ y21 => (setI z0.2 a0.B y21).bind λ y23 => some (.next (z0.1, y23)) else some (.ret false)
def F99 (x0 : Aa) : Option Bool :=
 (mkI 9 (x0.Ac.length : Int) 0).bind λ y1 => (mkI 25 (x0.Ai.length : Int) ([] : List Int)).bind λ y3 => andThen (foldI (Acw x0) x0.Ad 0 (y1, y3)) some λ z0 => (F59 z0.1 0).bind λ y27 => (Ax [(!y27, true)] (Qk z0.2) default).bind λ y29 => some ((!y27) && (!y29))
def Zd (x0 : A9) : Bool :=
 (((F93 x0.Rating 1 50000) && (F93 x0.Least 0 x0.Rating)) && (F93 x0.Start 0 600))
def An2 (x1 : Int) (n0 : Nat) (a0 : Int) (y1 : Int) : Bool := ((!(F93 a0 0 (w64 (x1 - 1)))) || ((decide ((cnt 0 n0) > 0)) && (decide (y1 >= a0))))
def Rv (x0 : A3) (x1 : Int) (n0 : Nat) (a0 : Int) (z0 : Unit) : Option (Ctl Unit Bool) :=
 (Ax [(!(F93 a0 0 (w64 (x1 - 1))), false), (decide ((cnt 0 n0) > 0), true)] (getI x0.Needs (w64 ((cnt 0 n0) - 1))) default).bind λ y1 => bif (An2 x1 n0 a0 y1) then some (.ret false) else some (.next ())
def Zc (x0 : A3) (x1 : Int) : Option Bool :=
 andThen (foldI (Rv x0 x1) x0.Needs 0 ()) some λ z0 => some (((((F93 x0.Load 0 50000) && (F93 x0.Least 0 x0.Load)) && (F93 x0.Bn 0 15)) && (F93 x0.Thruster (-1) 7)) && (decide ((x0.Needs.length : Int) <= 4)))
def As6 (x0 : Aa) : Bool := ((((!(F93 x0.Ao 1 6)) || (decide ((x0.Ad.length : Int) > 24))) || (decide ((x0.Ac.length : Int) > 8))) || (decide ((x0.Ai.length : Int) > 16)))
def Aqc (n0 : Nat) (a0 : A9) (z0 : Bool) : Option (Ctl Bool Unit) :=
 some (.next (z0 && (Zd a0)))
def Adg (n1 : Nat) (a1 : A3) (z1 : Bool) : Option (Ctl Bool Unit) :=
 (Ax [(z1, true)] (Zc a1 (cnt 0 n1)) default).bind λ y4 => some (.next (z1 && y4))
def F51 (x0 : Aa) : Option Int :=
 bif (As6 x0) then some 2 else (F99 x0).bind λ y2 => andThen (foldI Aqc x0.Ac 0 ((y2 && (F93 x0.Phase 0 1800)) && (F93 x0.Ar 0 6000))) (λ _ => none) λ z0 => andThen (foldI Adg x0.Ai 0 z0) (λ _ => none) λ z1 => bif !z1 then some 14 else some 0
def Jh (x0 : Aa) (x1 : Int) : Int :=
 bif (x1 == 1) then (x0.Ac.length : Int) else bif (x1 == 2) then (x0.Ad.length : Int) else bif (x1 == 3) then x0.Ao else bif (x1 == 4) then (x0.Ai.length : Int) else 0
def T4 (x0 : Int) : Bool :=
 (x0 != x0)
def Ji (x0 : Int) (x1 : Int) : Int :=
 bif T4 x0 then bif T4 x1 then 0 else (-1) else bif T4 x1 then 1 else bif decide (x0 < x1) then (-1) else bif decide (x0 > x1) then 1 else 0
def Ru (n0 : Nat) (a0 : Int) (z0 : Unit) : Option (Ctl Unit Int) :=
 bif (a0 != 0) then some (.ret a0) else some (.next ())
def Y5 (x0 : List Int) : Option Int :=
 andThen (foldI Ru x0 0 ()) some λ z0 => some 0
def As4 (x0 : Aa) (n0 : Nat) (a0 : Al) (y5 : Int) : Bool := ((!(F93 a0.Number 0 (w64 ((Jh x0 a0.Kind) - 1)))) || ((decide ((cnt 0 n0) > 0)) && (decide (y5 >= 0))))
def Wo (x0 : Aa) (x1 : List Al) (n0 : Nat) (a0 : Al) (z0 : Unit) : Option (Ctl Unit Bool) :=
 (Ax [(!(F93 a0.Number 0 (w64 ((Jh x0 a0.Kind) - 1))), false), (decide ((cnt 0 n0) > 0), true)] (getI x1 (w64 ((cnt 0 n0) - 1))) default).bind λ y1 => (Ax [(!(F93 a0.Number 0 (w64 ((Jh x0 a0.Kind) - 1))), false), (decide ((cnt 0 n0) > 0), true)] (getI x1 (w64 ((cnt 0 n0) - 1))) default).bind λ y3 => (Ax [(!(F93 a0.Number 0 (w64 ((Jh x0 a0.Kind) - 1))), false), (decide ((cnt 0 n0) > 0), true)] (Y5 [Ji y1.Kind a0.Kind, Ji y3.Number a0.Number]) default).bind λ y5 => bif (As4 x0 n0 a0 y5) then some (.ret false) else some (.next ())
def F89 (x0 : Aa) (x1 : List Al) : Option Bool :=
 andThen (foldI (Wo x0 x1) x1 0 ()) some λ z0 => some (decide ((x1.length : Int) <= 32))
def F92 (x0 : Ae) : Bool :=
 ((((F93 x0.State 0 3) && (F93 x0.Since 0 2147483648)) && (F93 x0.Ar 0 6000)) && (F93 x0.Phase 0 3599))
def F91 (x0 : Ae) : Bool :=
 !(F92 x0)
def qN (n0 : Nat) (a0 : Ae) (z0 : Unit) : Option (Ctl Unit Int) :=
 bif F91 a0 then some (.ret (cnt 0 n0)) else some (.next ())
def W8 (x0 : List Ae) : Option Int :=
 andThen (foldI qN x0 0 ()) some λ z0 => some (-1)
def Rm (x0 : List Ae) : Option Bool :=
 (W8 x0).bind λ y1 => some (decide (y1 >= 0))
def As3 (x2 : Int) (a0 : Af) (y1 : Bool) : Bool := (((a0.Kind == 3) && (a0.B == x2)) && y1)
def Ac6 (x1 : Ab) (x2 : Int) (n0 : Nat) (a0 : Af) (z0 : Int) : Option (Ctl Int Unit) :=
 (Ax [(((a0.Kind == 3) && (a0.B == x2)), true)] (getI x1.Ah (cnt 0 n0)) default).bind λ y1 => bif (As3 x2 a0 y1) then some (.next (w64 (z0 + 1))) else some (.next z0)
def F94 (x0 : Aa) (x1 : Ab) (x2 : Int) : Option Int :=
 andThen (foldI (Ac6 x1 x2) x0.Ad 0 0) (λ _ => none) λ z0 => some z0
def Aip (x0 : Aa) (x1 : Ab) : Bool := ((((x1.Ah.length : Int) != (x0.Ad.length : Int)) || ((x1.Ac.length : Int) != (x0.Ac.length : Int))) || ((x1.As.length : Int) != (x0.Ai.length : Int)))
def Adl (x0 : Aa) (x1 : Ab) (n0 : Nat) (a0 : Int) (z0 : Bool) : Option (Ctl Bool Unit) :=
 (Ax [(z0, true)] (getI x0.Ai (cnt 0 n0)) default).bind λ y9 => (Ax [((z0 && (F93 a0 0 y9.Load)), true)] (F94 x0 x1 (cnt 0 n0)) default).bind λ y11 => some (.next ((z0 && (F93 a0 0 y9.Load)) && (decide (y11 <= 1))))
def F44 (x0 : Aa) (x1 : Ab) : Option Int :=
 (F51 x0).bind λ y1 => bif (y1 != 0) then some y1 else bif (Aip x0 x1) then some 8 else (F89 x0 x1.Ak).bind λ y5 => (Ax [(y5, true)] (Rm x1.Ac) default).bind λ y7 => andThen (foldI (Adl x0 x1) x1.As 0 (y5 && (!y7))) (λ _ => none) λ z0 => bif !z0 then some 11 else some 0
def W9 (x0 : Af) (x1 : Int) : Bool :=
 ((x0.Kind == 2) && (x0.B == x1))
def Li (x1c0 : Int) (n0 : Nat) (a0 : Af) (z0 : Unit) : Option (Ctl Unit (Int × Int)) :=
 bif W9 a0 x1c0 then some (.ret (cnt 0 n0, x1c0)) else some (.next ())
def W_ (x0 : List Af) (x1c0 : Int) : Option (Int × Int) :=
 andThen (foldI (Li x1c0) x0 0 ()) some λ z0 => some ((-1), x1c0)
def F56 (x0 : Aa) (x1 : Int) : Option Int :=
 (W_ x0.Ad x1).bind λ y1 => some y1.1
def Axm (x1 : Al) (a0 : Al) : Bool := ((x1.Kind == a0.Kind) && ((x1.Number == a0.Number) && true))
def Agt (x1 : Al) (n0 : Nat) (a0 : Al) (z0 : Unit) : Option (Ctl Unit Int) :=
 bif (Axm x1 a0) then some (.ret (cnt 0 n0)) else some (.next ())
def Ake (x0 : List Al) (x1 : Al) : Option Int :=
 andThen (foldI (Agt x1) x0 0 ()) some λ z0 => some (-1)
def Akh (x0 : List Al) (x1 : Al) : Option Bool :=
 (Ake x0 x1).bind λ y1 => some (decide (y1 >= 0))
def F76 (x0 : Ab) (x1 : Int) (x2 : Int) : Option Bool :=
 (Akh x0.Ak (⟨x1, x2⟩ : Al)).bind λ y1 => some y1
def F57 (x0 : Aa) (x1 : Ab) (x2 : Int) : Option Bool :=
 (getI x0.Ad x2).bind λ y1 => (F76 x1 2 x2).bind λ y3 => (Ax [(!y3, true)] (F76 x1 3 y1.A) default).bind λ y5 => (Ax [(((!y3) && (!y5)), true), ((y1.Kind != 1), false)] (F76 x1 3 y1.B) default).bind λ y7 => some (((!y3) && (!y5)) && ((y1.Kind != 1) || (!y7)))
def F55 (x0 : Aa) (x1 : Ab) (x2 : Int) : Option Bool :=
 (F56 x0 x2).bind λ y1 => (F57 x0 x1 y1).bind λ y3 => (Ax [(y3, true)] (F76 x1 1 x2) default).bind λ y5 => (Ax [((y3 && (!y5)), true)] (getI x1.Ac x2) default).bind λ y7 => some ((y3 && (!y5)) && (y7.State != 3))
def Atb (x0 : Aa) (z0 : Int × (List Bool)) : Bool := decide (z0.1 < (x0.Ac.length : Int))
def Adw (x0 : Aa) (x1 : Ab) (z0 : Int × (List Bool)) : Option (Ctl (Int × (List Bool)) Unit) :=
 bif (Atb x0 z0) then (F55 x0 x1 z0.1).bind λ y7 => bif y7 then (F56 x0 z0.1).bind λ y10 => (getI x0.Ad y10).bind λ y12 => (getI z0.2 y12.A).bind λ y14 => (setI z0.2 y12.A true).bind λ y16 => some (.next (w64 (z0.1 + 1), y16)) else some (.next (w64 (z0.1 + 1), z0.2)) else some (.brk (z0.1, z0.2))
def Wy (x0 : Aa) (x1 : Ab) (n2 : Nat) (a2 : Af) (z2 : (List Bool)) : Option (Ctl ((List Bool)) Unit) :=
 (Ax [((a2.Kind == 1), true)] (F57 x0 x1 (cnt 0 n2)) default).bind λ y19 => bif ((a2.Kind == 1) && y19) then (getI z2 a2.A).bind λ y22 => (Ax [(y22, false)] (getI z2 a2.B) default).bind λ y24 => (setI z2 a2.A (y22 || y24)).bind λ y26 => (getI y26 a2.B).bind λ y28 => (setI y26 a2.B (y22 || y24)).bind λ y30 => some (.next y30) else some (.next z2)
def Adv (x0 : Aa) (x1 : Ab) (z1 : Int × (List Bool)) : Option (Ctl (Int × (List Bool)) Unit) :=
 bif decide (z1.1 < x0.Ao) then andThen (foldI (Wy x0 x1) x0.Ad 0 z1.2) (λ _ => none) λ z2 => some (.next (w64 (z1.1 + 1), z2)) else some (.brk (z1.1, z1.2))
def F23 (x0 : Aa) (x1 : Ab) : Option ((List Bool)) :=
 (F44 x0 x1).bind λ y1 => bif (y1 != 0) then some ([] : List Bool) else (mkI 2 x0.Ao false).bind λ y4 => andThen (whileN (Adw x0 x1) 1152921504606846976 (0, y4)) (λ _ => none) λ z0 => andThen (whileN (Adv x0 x1) 1152921504606846976 (0, z0.2)) (λ _ => none) λ z1 => some z1.2
def F42  : Aa × Ab :=
 ((⟨2, [(⟨1, 0, 1⟩ : Af), (⟨2, 1, 0⟩ : Af)], [(⟨100, 0, 3⟩ : A9)], ([] : List A3), 0, 0⟩ : Aa), (⟨[false, false], [(⟨0, 0, 5000, 0⟩ : Ae)], ([] : List Int), ([] : List Al)⟩ : Ab))
def F78 (x0 : List Bool) : Option (List Bool) := appI 2 [] x0
def F79 (x0 : List Ae) : Option (List Ae) := appI 33 [] x0
def F80 (x0 : List Int) : Option (List Int) := appI 9 [] x0
def F81 (x0 : List Al) : Option (List Al) := appI 17 [] x0
def F35 (x0 : Ab) : Option Ab :=
 (F78 x0.Ah).bind λ y1 => (F79 x0.Ac).bind λ y3 => (F80 x0.As).bind λ y5 => (F81 x0.Ak).bind λ y7 => some (⟨y1, y3, y5, y7⟩ : Ab)
def Mn (x0 : Int) (x1 : Int) (x2 : A2) : Option (Bool × A2) :=
 (F76 x2.Ap x0 x1).bind λ y1 => some (y1, x2)
def Aec (x0 : A2) (x1 : Af) : Option (Bool × A2) :=
 (Mn 3 x1.A x0).bind λ y1 => bif y1.1 then some (true, y1.2) else bif (x1.Kind == 1) then (Mn 3 x1.B y1.2).bind λ y5 => some (y5.1, y5.2) else bif (x1.Kind == 2) then (Mn 1 x1.B y1.2).bind λ y8 => (Ax [(y8.1, false)] (getI y8.2.Ap.Ac x1.B) default).bind λ y10 => some ((y8.1 || (y10.State != 2)), y8.2) else (Mn 4 x1.B y1.2).bind λ y12 => some (y12.1, y12.2)
def W6 (x0 : A2) (x1 : Int) : Option A2 :=
 (getI x0.Ap.Ah x1).bind λ y1 => (setI x0.Ap.Ah x1 false).bind λ y3 => (appI 25 x0.acts [(⟨2, x1, 0⟩ : An)]).bind λ y5 => some (⟨x0.Am, (⟨y3, x0.Ap.Ac, x0.Ap.As, x0.Ap.Ak⟩ : Ab), y5⟩ : A2)
def qR (n0 : Nat) (a0 : Af) (z0 : Sg8) : Option (Ctl (Sg8) Unit) :=
 (getI z0.2.2.2.2.2.2.1 (cnt 0 n0)).bind λ y1 => (Ax [(y1, true)] (Aec (⟨(⟨z0.1, z0.2.1, z0.2.2.1, z0.2.2.2.1, z0.2.2.2.2.1, z0.2.2.2.2.2.1⟩ : Aa), (⟨z0.2.2.2.2.2.2.1, z0.2.2.2.2.2.2.2.1, z0.2.2.2.2.2.2.2.2.1, z0.2.2.2.2.2.2.2.2.2.1⟩ : Ab), z0.2.2.2.2.2.2.2.2.2.2⟩ : A2) a0) (default, (⟨(⟨z0.1, z0.2.1, z0.2.2.1, z0.2.2.2.1, z0.2.2.2.2.1, z0.2.2.2.2.2.1⟩ : Aa), (⟨z0.2.2.2.2.2.2.1, z0.2.2.2.2.2.2.2.1, z0.2.2.2.2.2.2.2.2.1, z0.2.2.2.2.2.2.2.2.2.1⟩ : Ab), z0.2.2.2.2.2.2.2.2.2.2⟩ : A2))).bind λ y3 => bif (y1 && y3.1) then none else some (.next (y3.2.Am.Ao, y3.2.Am.Ad, y3.2.Am.Ac, y3.2.Am.Ai, y3.2.Am.Phase, y3.2.Am.Ar, y3.2.Ap.Ah, y3.2.Ap.Ac, y3.2.Ap.As, y3.2.Ap.Ak, y3.2.acts))
def qQ (n1 : Nat) (a1 : Int) (z1 : Sg8) : Option (Ctl (Sg8) Unit) :=
 (W6 (⟨(⟨z1.1, z1.2.1, z1.2.2.1, z1.2.2.2.1, z1.2.2.2.2.1, z1.2.2.2.2.2.1⟩ : Aa), (⟨z1.2.2.2.2.2.2.1, z1.2.2.2.2.2.2.2.1, z1.2.2.2.2.2.2.2.2.1, z1.2.2.2.2.2.2.2.2.2.1⟩ : Ab), z1.2.2.2.2.2.2.2.2.2.2⟩ : A2) a1).bind λ y6 => some (.next (y6.Am.Ao, y6.Am.Ad, y6.Am.Ac, y6.Am.Ai, y6.Am.Phase, y6.Am.Ar, y6.Ap.Ah, y6.Ap.Ac, y6.Ap.As, y6.Ap.Ak, y6.acts))
def Aee (x0 : A2) : Option A2 :=
 andThen (foldI qR x0.Am.Ad 0 (x0.Am.Ao, x0.Am.Ad, x0.Am.Ac, x0.Am.Ai, x0.Am.Phase, x0.Am.Ar, x0.Ap.Ah, x0.Ap.Ac, x0.Ap.As, x0.Ap.Ak, x0.acts)) (λ _ => none) λ z0 => andThen (foldI qQ ([] : List Int) 0 (z0.1, z0.2.1, z0.2.2.1, z0.2.2.2.1, z0.2.2.2.2.1, z0.2.2.2.2.2.1, z0.2.2.2.2.2.2.1, z0.2.2.2.2.2.2.2.1, z0.2.2.2.2.2.2.2.2.1, z0.2.2.2.2.2.2.2.2.2.1, z0.2.2.2.2.2.2.2.2.2.2)) (λ _ => none) λ z1 => some (⟨(⟨z1.1, z1.2.1, z1.2.2.1, z1.2.2.2.1, z1.2.2.2.2.1, z1.2.2.2.2.2.1⟩ : Aa), (⟨z1.2.2.2.2.2.2.1, z1.2.2.2.2.2.2.2.1, z1.2.2.2.2.2.2.2.2.1, z1.2.2.2.2.2.2.2.2.2.1⟩ : Ab), z1.2.2.2.2.2.2.2.2.2.2⟩ : A2)
def Y2 (n0 : Nat) (a0 : Int) (z0 : (List Int)) : Option (Ctl ((List Int)) Unit) :=
 (getI z0 (cnt 0 n0)).bind λ y3 => (setI z0 (cnt 0 n0) (cnt 0 n0)).bind λ y5 => some (.next y5)
def Rs (x1 : Ab) (n2 : Nat) (a2 : Af) (z2 : (List Int)) : Option (Ctl ((List Int)) Unit) :=
 (Ax [((a2.Kind == 1), true)] (getI x1.Ah (cnt 0 n2)) default).bind λ y7 => bif ((a2.Kind == 1) && y7) then (getI z2 a2.A).bind λ y10 => (getI z2 a2.B).bind λ y12 => (setI z2 a2.A (min y10 y12)).bind λ y14 => (getI y14 a2.B).bind λ y16 => (setI y14 a2.B (min y10 y12)).bind λ y18 => some (.next y18) else some (.next z2)
def Y1 (x0 : Aa) (x1 : Ab) (n1 : Nat) (a1 : Int) (z1 : (List Int)) : Option (Ctl ((List Int)) Unit) :=
 andThen (foldI (Rs x1) x0.Ad 0 z1) (λ _ => none) λ z2 => some (.next z2)
def Ad4 (x0 : Aa) (x1 : Ab) : Option ((List Int)) :=
 (mkI 9 x0.Ao 0).bind λ y1 => andThen (foldI Y2 y1 0 y1) (λ _ => none) λ z0 => andThen (foldI (Y1 x0 x1) z0 0 z0) (λ _ => none) λ z1 => some z1
def Anx (x2 : Int) (x3 : Int) (a0 : Af) (y1 : Bool) : Bool := (((a0.Kind == x2) && (a0.B == x3)) && y1)
def Ro (x1 : Ab) (x2 : Int) (x3 : Int) (n0 : Nat) (a0 : Af) (z0 : Unit) : Option (Ctl Unit (Int × Bool)) :=
 (Ax [(((a0.Kind == x2) && (a0.B == x3)), true)] (getI x1.Ah (cnt 0 n0)) default).bind λ y1 => bif (Anx x2 x3 a0 y1) then some (.ret (a0.A, true)) else some (.next ())
def Yz (x0 : Aa) (x1 : Ab) (x2 : Int) (x3 : Int) : Option (Int × Bool) :=
 andThen (foldI (Ro x1 x2 x3) x0.Ad 0 ()) some λ z0 => some (0, false)
def V_ (x1 : Ab) (x2 : Int) (y1 : Ae) : Bool := ((!(F93 x2 0 (w64 ((x1.Ac.length : Int) - 1)))) || (y1.State != 2))
def Y0 (x0 : Aa) (x1 : Ab) (x2 : Int) : Option (Int × Bool) :=
 (Ax [(!(F93 x2 0 (w64 ((x1.Ac.length : Int) - 1))), false)] (getI x1.Ac x2) default).bind λ y1 => bif (V_ x1 x2 y1) then some (0, false) else (Yz x0 x1 2 x2).bind λ y4 => some (y4.1, y4.2)
def Y6 (x0 : Aa) (x1 : Ab) (x2 : Int) : Option (Int × Bool) :=
 (Yz x0 x1 3 x2).bind λ y1 => some (y1.1, y1.2)
def Akf (x0 : Aj) : Bool :=
 ((x0.Ao.length : Int) == 0)
def qI (n0 : Nat) (a0 : Aj) (z0 : Unit) : Option (Ctl Unit Int) :=
 bif Akf a0 then some (.ret (cnt 0 n0)) else some (.next ())
def Qd (x0 : List Aj) : Option Int :=
 andThen (foldI qI x0 0 ()) some λ z0 => some (-1)
def Abo (z0 : Int × Int × (List Aj)) : Bool := decide (z0.2.1 < (z0.2.2.length : Int))
def Qe (z0 : Int × Int × (List Aj)) : Option (Ctl (Int × Int × (List Aj)) Unit) :=
 bif (Abo z0) then (getI z0.2.2 z0.2.1).bind λ y5 => bif !(Akf y5) then (getI z0.2.2 z0.1).bind λ y8 => (setI z0.2.2 z0.1 y5).bind λ y10 => some (.next (w64 (z0.1 + 1), w64 (z0.2.1 + 1), y10)) else some (.next (z0.1, w64 (z0.2.1 + 1), z0.2.2)) else some (.brk (z0.1, z0.2.1, z0.2.2))
def Qf (x0 : List Aj) : Option ((List Aj)) :=
 (Qd x0).bind λ y1 => bif (y1 == (-1)) then some x0 else andThen (whileN Qe 1152921504606846976 (y1, w64 (y1 + 1), x0)) (λ _ => none) λ z0 => (bndI z0.2.2.length z0.1 (z0.2.2.length : Int)).bind λ u13 => (bndI (Jf z0.2.2 (Int.toNat z0.1) ((Int.toNat (z0.2.2.length : Int)) - (Int.toNat z0.1)) (⟨([] : List Int), ([] : List Int), ([] : List Int)⟩ : Aj)).length 0 z0.1).bind λ u15 => some ((Jf z0.2.2 (Int.toNat z0.1) ((Int.toNat (z0.2.2.length : Int)) - (Int.toNat z0.1)) (⟨([] : List Int), ([] : List Int), ([] : List Int)⟩ : Aj)).take ((Int.toNat z0.1) - 0))
def Y9 (n0 : Nat) (a0 : Int) (z0 : (List Aj)) : Option (Ctl ((List Aj)) Unit) :=
 (getI z0 a0).bind λ y8 => (appI 9 y8.Ao [cnt 0 n0]).bind λ y10 => (setI z0 a0 (⟨y10, y8.Ac, y8.Ai⟩ : Aj)).bind λ y12 => some (.next y12)
def Anz (x0 : Aa) (z1 : Int × (List Aj)) : Bool := decide (z1.1 < (x0.Ac.length : Int))
def Y8 (x0 : Aa) (x1 : Ab) (y4 : (List Int)) (z1 : Int × (List Aj)) : Option (Ctl (Int × (List Aj)) Unit) :=
 bif (Anz x0 z1) then (Y0 x0 x1 z1.1).bind λ y15 => bif y15.2 then (getI y4 y15.1).bind λ y18 => (getI z1.2 y18).bind λ y20 => (appI 9 y20.Ac [z1.1]).bind λ y22 => (setI z1.2 y18 (⟨y20.Ao, y22, y20.Ai⟩ : Aj)).bind λ y24 => some (.next (w64 (z1.1 + 1), y24)) else some (.next (w64 (z1.1 + 1), z1.2)) else some (.brk (z1.1, z1.2))
def Any (x0 : Aa) (z2 : Int × (List Aj)) : Bool := decide (z2.1 < (x0.Ai.length : Int))
def Y7 (x0 : Aa) (x1 : Ab) (y4 : (List Int)) (z2 : Int × (List Aj)) : Option (Ctl (Int × (List Aj)) Unit) :=
 bif (Any x0 z2) then (Y6 x0 x1 z2.1).bind λ y27 => bif y27.2 then (getI y4 y27.1).bind λ y30 => (getI z2.2 y30).bind λ y32 => (appI 9 y32.Ai [z2.1]).bind λ y34 => (setI z2.2 y30 (⟨y32.Ao, y32.Ac, y34⟩ : Aj)).bind λ y36 => some (.next (w64 (z2.1 + 1), y36)) else some (.next (w64 (z2.1 + 1), z2.2)) else some (.brk (z2.1, z2.2))
def T8 (x0 : Aa) (x1 : Ab) : Option ((List Aj)) :=
 (F44 x0 x1).bind λ y1 => bif (y1 != 0) then some ([] : List Aj) else (Ad4 x0 x1).bind λ y4 => (mkI 73 x0.Ao (⟨([] : List Int), ([] : List Int), ([] : List Int)⟩ : Aj)).bind λ y6 => andThen (foldI Y9 y4 0 y6) (λ _ => none) λ z0 => andThen (whileN (Y8 x0 x1 y4) 1152921504606846976 (0, z0)) (λ _ => none) λ z1 => andThen (whileN (Y7 x0 x1 y4) 1152921504606846976 (0, z1.2)) (λ _ => none) λ z2 => (Qf z2.2).bind λ y38 => some y38
def J4 (x2 : Int) (n0 : Nat) (a0 : Aj) (z0 : Unit) : Option (Ctl Unit (Aj × Bool)) :=
 (F59 a0.Ao x2).bind λ y3 => bif y3 then some (.ret (a0, true)) else some (.next ())
def Hv (x0 : Aa) (x1 : Ab) (x2 : Int) : Option (Aj × Bool) :=
 (T8 x0 x1).bind λ y1 => andThen (foldI (J4 x2) y1 0 ()) some λ z0 => some ((⟨([] : List Int), ([] : List Int), ([] : List Int)⟩ : Aj), false)
def F58 (x0 : Aa) (x1 : Ab) (x2 : Int) : Option Bool :=
 (Hv x0 x1 x2).bind λ y1 => some (decide ((y1.1.Ac.length : Int) > 0))
def Aeb (x0 : Af) (x1 : A2) : Option (Bool × A2) :=
 (Ax [((x0.Kind == 3), true)] (F58 x1.Am x1.Ap x0.A) default).bind λ y1 => some (((x0.Kind == 3) && (!y1)), x1)
def qP (n0 : Nat) (a0 : Af) (z0 : Sg8) : Option (Ctl (Sg8) Unit) :=
 (getI z0.2.2.2.2.2.2.1 (cnt 0 n0)).bind λ y1 => (Ax [(y1, true)] (Aeb a0 (⟨(⟨z0.1, z0.2.1, z0.2.2.1, z0.2.2.2.1, z0.2.2.2.2.1, z0.2.2.2.2.2.1⟩ : Aa), (⟨z0.2.2.2.2.2.2.1, z0.2.2.2.2.2.2.2.1, z0.2.2.2.2.2.2.2.2.1, z0.2.2.2.2.2.2.2.2.2.1⟩ : Ab), z0.2.2.2.2.2.2.2.2.2.2⟩ : A2)) (default, (⟨(⟨z0.1, z0.2.1, z0.2.2.1, z0.2.2.2.1, z0.2.2.2.2.1, z0.2.2.2.2.2.1⟩ : Aa), (⟨z0.2.2.2.2.2.2.1, z0.2.2.2.2.2.2.2.1, z0.2.2.2.2.2.2.2.2.1, z0.2.2.2.2.2.2.2.2.2.1⟩ : Ab), z0.2.2.2.2.2.2.2.2.2.2⟩ : A2))).bind λ y3 => bif (y1 && y3.1) then none else some (.next (y3.2.Am.Ao, y3.2.Am.Ad, y3.2.Am.Ac, y3.2.Am.Ai, y3.2.Am.Phase, y3.2.Am.Ar, y3.2.Ap.Ah, y3.2.Ap.Ac, y3.2.Ap.As, y3.2.Ap.Ak, y3.2.acts))
def qO (n1 : Nat) (a1 : Int) (z1 : Sg8) : Option (Ctl (Sg8) Unit) :=
 (W6 (⟨(⟨z1.1, z1.2.1, z1.2.2.1, z1.2.2.2.1, z1.2.2.2.2.1, z1.2.2.2.2.2.1⟩ : Aa), (⟨z1.2.2.2.2.2.2.1, z1.2.2.2.2.2.2.2.1, z1.2.2.2.2.2.2.2.2.1, z1.2.2.2.2.2.2.2.2.2.1⟩ : Ab), z1.2.2.2.2.2.2.2.2.2.2⟩ : A2) a1).bind λ y6 => some (.next (y6.Am.Ao, y6.Am.Ad, y6.Am.Ac, y6.Am.Ai, y6.Am.Phase, y6.Am.Ar, y6.Ap.Ah, y6.Ap.Ac, y6.Ap.As, y6.Ap.Ak, y6.acts))
def Aed (x0 : A2) : Option A2 :=
 andThen (foldI qP x0.Am.Ad 0 (x0.Am.Ao, x0.Am.Ad, x0.Am.Ac, x0.Am.Ai, x0.Am.Phase, x0.Am.Ar, x0.Ap.Ah, x0.Ap.Ac, x0.Ap.As, x0.Ap.Ak, x0.acts)) (λ _ => none) λ z0 => andThen (foldI qO ([] : List Int) 0 (z0.1, z0.2.1, z0.2.2.1, z0.2.2.2.1, z0.2.2.2.2.1, z0.2.2.2.2.2.1, z0.2.2.2.2.2.2.1, z0.2.2.2.2.2.2.2.1, z0.2.2.2.2.2.2.2.2.1, z0.2.2.2.2.2.2.2.2.2.1, z0.2.2.2.2.2.2.2.2.2.2)) (λ _ => none) λ z1 => some (⟨(⟨z1.1, z1.2.1, z1.2.2.1, z1.2.2.2.1, z1.2.2.2.2.1, z1.2.2.2.2.2.1⟩ : Aa), (⟨z1.2.2.2.2.2.2.1, z1.2.2.2.2.2.2.2.1, z1.2.2.2.2.2.2.2.2.1, z1.2.2.2.2.2.2.2.2.2.1⟩ : Ab), z1.2.2.2.2.2.2.2.2.2.2⟩ : A2)
def Qj (x2 : Ae) (n0 : Nat) (a0 : Int) (z0 : (List Ae)) : Option (Ctl ((List Ae)) Unit) :=
 (getI z0 a0).bind λ y1 => (setI z0 a0 (⟨y1.State, y1.Since, x2.Ar, y1.Phase⟩ : Ae)).bind λ y3 => (getI y3 a0).bind λ y5 => (setI y3 a0 (⟨y5.State, y5.Since, y5.Ar, x2.Phase⟩ : Ae)).bind λ y7 => some (.next y7)
def Kr (x0 : Ab) (x1 : List Int) (x2 : Ae) : Option ((List Ae)) :=
 andThen (foldI (Qj x2) x1 0 x0.Ac) (λ _ => none) λ z0 => some z0
def An0 (a0 : Aj) : Bool := decide ((a0.Ac.length : Int) > 0)
def Y_ (x1 : Ab) (y4 : Ab) (n0 : Nat) (a0 : Aj) (z0 : (List Ae)) : Option (Ctl ((List Ae)) Unit) :=
 bif (An0 a0) then (getI a0.Ac 0).bind λ y9 => (getI x1.Ac y9).bind λ y11 => (Kr (⟨y4.Ah, z0, y4.As, y4.Ak⟩ : Ab) a0.Ac y11).bind λ y13 => some (.next y13) else some (.next z0)
def Za (x0 : Aa) (x1 : Ab) : Option (Ab × Int) :=
 (F44 x0 x1).bind λ y1 => bif (y1 != 0) then some ((⟨([] : List Bool), ([] : List Ae), ([] : List Int), ([] : List Al)⟩ : Ab), y1) else (F35 x1).bind λ y4 => (T8 x0 x1).bind λ y6 => andThen (foldI (Y_ x1 y4) y6 0 y4.Ac) (λ _ => none) λ z0 => some ((⟨y4.Ah, z0, y4.As, y4.Ak⟩ : Ab), 0)
def Ajz (x0 : A2) : Option A2 :=
 (Aee x0).bind λ y1 => (Aed y1).bind λ y3 => (Za y3.Am y3.Ap).bind λ y5 => some (⟨y3.Am, y5.1, y3.acts⟩ : A2)
def qH (x1 : Int) (x2 : Int) (z0 : Unit) : Option (Ctl Unit Unit) :=
 bif decide ((w64 (x1 + 1)) < x2) then none else some (.brk ())
def Ad0 (x0 : List Int) (x1 : Int) (x2 : Int) (x3c0 : Aa) : Option Unit :=
 andThen (whileN (qH x1 x2) 1152921504606846976 ()) (λ _ => none) λ z0 => some ()
def qL (x1 : Int) (z0 : Unit) : Option (Ctl Unit Unit) :=
 bif decide (20 <= x1) then none else some (.brk ())
def qK (x1 : Int) (z1 : Unit) : Option (Ctl Unit Unit) :=
 bif decide (20 < x1) then none else some (.brk ())
def Ad2 (x0 : List Int) (x1 : Int) (x2c0 : Aa) : Option Aa :=
 andThen (whileN (qL x1) 1152921504606846976 ()) (λ _ => none) λ z0 => (Ad0 x0 0 x1 x2c0).bind λ y2 => andThen (whileN (qK x1) 1152921504606846976 ()) (λ _ => none) λ z1 => some x2c0
def Ad6 (x0 : List Int) (x1c0 : Aa) : Option Aa :=
 (Ad2 x0 (x0.length : Int) x1c0).bind λ y1 => some y1
def Ap3 (x0 : Aa) (z0 : Unit) : Option (Ctl Unit Unit) :=
 bif decide (0 < (x0.Ai.length : Int)) then none else some (.brk ())
def F85 (x0 : Aa) : Option ((List Int)) :=
 (F51 x0).bind λ y1 => bif (y1 != 0) then none else andThen (whileN (Ap3 x0) 1152921504606846976 ()) (λ _ => none) λ z0 => (Ad6 ([] : List Int) x0).bind λ y5 => some ([] : List Int)
def Ad9 (x0 : Int) (x1 : Aj) : Option Bool :=
 (F59 x1.Ai x0).bind λ y1 => some (!y1)
def qM (x1c0 : Aj) (n0 : Nat) (a0 : Int) (z0 : Unit) : Option (Ctl Unit (Int × Aj)) :=
 (Ad9 a0 x1c0).bind λ y1 => bif y1 then some (.ret (cnt 0 n0, x1c0)) else some (.next ())
def Ad3 (x0 : List Int) (x1c0 : Aj) : Option (Int × Aj) :=
 andThen (foldI (qM x1c0) x0 0 ()) some λ z0 => some ((-1), x1c0)
def Aea (x0 : List Int) (x1c0 : Aj) : Option ((List Int) × Aj) :=
 (Ad3 x0 x1c0).bind λ y1 => bif (y1.1 == (-1)) then some (x0, y1.2) else none
def Ac7 (y1 : (List Int)) (n0 : Nat) (a0 : Aj) (z0 : Unit) : Option (Ctl Unit Unit) :=
 (F80 y1).bind λ y5 => (Aea y5 a0).bind λ y7 => bif decide ((y7.2.Ac.length : Int) > 0) then none else some (.next ())
def Ajy (x0 : A2) : Option Unit :=
 (F85 x0.Am).bind λ y1 => (T8 x0.Am x0.Ap).bind λ y3 => andThen (foldI (Ac7 y1) y3 0 ()) (λ _ => none) λ z0 => some ()
def Aj0 (x0 : A2) : Option A2 :=
 (Ajz x0).bind λ y1 => (Ajy y1).bind λ y3 => some y1
def Aj1 (x0 : Aa) (x1 : Ab) : Option (Ab × (List An) × Int) :=
 (F44 x0 x1).bind λ y1 => bif (y1 != 0) then none else (F35 x1).bind λ y4 => (Aj0 (⟨x0, y4, ([] : List An)⟩ : A2)).bind λ y6 => some (y6.Ap, y6.acts, 0)
def F31 (x0 : Aa) (x1 : Ab) : Option (Ab × (List An) × Int) :=
 (Aj1 x0 x1).bind λ y1 => some (y1.1, y1.2.1, y1.2.2)
def Aqb (x1 : List Bool) (n0 : Nat) (a0 : Bool) (z0 : Unit) : Option (Ctl Unit Unit) :=
 (getI x1 (cnt 0 n0)).bind λ y2 => bif !(a0 == y2) then none else some (.next ())
def F72 (x0 : List Bool) (x1 : List Bool) : Option Bool :=
 bif ((x0.length : Int) != (x1.length : Int)) then none else andThen (foldI (Aqb x1) x0 0 ()) (λ _ => none) λ z0 => some true
def Azb (a0 : Ae) (y2 : Ae) : Bool := !((a0.State == y2.State) && ((a0.Since == y2.Since) && ((a0.Ar == y2.Ar) && ((a0.Phase == y2.Phase) && true))))
def Aqa (x1 : List Ae) (n0 : Nat) (a0 : Ae) (z0 : Unit) : Option (Ctl Unit Unit) :=
 (getI x1 (cnt 0 n0)).bind λ y2 => bif (Azb a0 y2) then none else some (.next ())
def F73 (x0 : List Ae) (x1 : List Ae) : Option Bool :=
 bif ((x0.length : Int) != (x1.length : Int)) then none else andThen (foldI (Aqa x1) x0 0 ()) (λ _ => none) λ z0 => some true
def Ap9 (x1 : List Int) (n0 : Nat) (a0 : Int) (z0 : Unit) : Option (Ctl Unit Bool) :=
 (getI x1 (cnt 0 n0)).bind λ y2 => bif (a0 != y2) then some (.ret false) else some (.next ())
def F74 (x0 : List Int) (x1 : List Int) : Option Bool :=
 bif ((x0.length : Int) != (x1.length : Int)) then none else andThen (foldI (Ap9 x1) x0 0 ()) some λ z0 => some true
def Aza (a0 : Al) (y2 : Al) : Bool := !((a0.Kind == y2.Kind) && ((a0.Number == y2.Number) && true))
def Ap8 (x1 : List Al) (n0 : Nat) (a0 : Al) (z0 : Unit) : Option (Ctl Unit Bool) :=
 (getI x1 (cnt 0 n0)).bind λ y2 => bif (Aza a0 y2) then some (.ret false) else some (.next ())
def F75 (x0 : List Al) (x1 : List Al) : Option Bool :=
 bif ((x0.length : Int) != (x1.length : Int)) then none else andThen (foldI (Ap8 x1) x0 0 ()) some λ z0 => some true
def F32 (x0 : Ab) (x1 : Ab) : Option Bool :=
 (F72 x0.Ah x1.Ah).bind λ y1 => (Ax [(y1, true)] (F73 x0.Ac x1.Ac) default).bind λ y3 => (Ax [((y1 && y3), true)] (F74 x0.As x1.As) default).bind λ y5 => (Ax [(((y1 && y3) && y5), true)] (F75 x0.Ak x1.Ak) default).bind λ y7 => some (((y1 && y3) && y5) && y7)
def Azd (a0 : Af) (y1 : Bool) (y3 : Bool) (y5 : Bool) : Bool := ((((a0.Kind == 1) && y1) && y3) && (!y5))
def Aqe (x0 : Aa) (x1 : Ab) (n0 : Nat) (a0 : Af) (z0 : Unit) : Option (Ctl Unit Unit) :=
 (Ax [((a0.Kind == 1), true)] (getI x1.Ah (cnt 0 n0)) default).bind λ y1 => (Ax [(((a0.Kind == 1) && y1), true)] (F76 x1 2 (cnt 0 n0)) default).bind λ y3 => (Ax [((((a0.Kind == 1) && y1) && y3), true)] (F58 x0 x1 a0.A) default).bind λ y5 => bif (Azd a0 y1 y3 y5) then none else some (.next ())
def F33 (x0 : Aa) (x1 : Ab) : Option Bool :=
 andThen (foldI (Aqe x0 x1) x0.Ad 0 ()) (λ _ => none) λ z0 => some false
def Ap7 (x1 : Bool) (n0 : Nat) (a0 : Bool) (z0 : Unit) : Option (Ctl Unit Int) :=
 bif (x1 == a0) then some (.ret (cnt 0 n0)) else none
def F77 (x0 : List Bool) (x1 : Bool) : Option Int :=
 andThen (foldI (Ap7 x1) x0 0 ()) some λ z0 => some (-1)
def F34 (x0 : List Bool) (x1 : Bool) : Option Bool :=
 (F77 x0 x1).bind λ y1 => some (decide (y1 >= 0))
def Aqf (x0 : Aa) (x1 : Ab) (n0 : Nat) (a0 : Bool) (z0 : Unit) : Option (Ctl Unit Bool) :=
 (Ax [(a0, true)] (F58 x0 x1 (cnt 0 n0)) default).bind λ y3 => bif (a0 && (!y3)) then some (.ret false) else some (.next ())
def F24 (x0 : Aa) (x1 : Ab) : Option Bool :=
 (F23 x0 x1).bind λ y1 => andThen (foldI (Aqf x0 x1) y1 0 ()) some λ z0 => (F44 x0 x1).bind λ y6 => some (y6 == 0)
def Lf (x0 : Av) (x1 : Int) : Option Bool :=
 (F58 x0.Am x0.Ap x1).bind λ y1 => some y1
def Rn (x0 : Av) (x1 : Int) (x2 : Int) : Option Av :=
 (appI 25 x0.acts [(⟨x1, x2, 0⟩ : An)]).bind λ y1 => (getI x0.Ap.Ah x2).bind λ y3 => (setI x0.Ap.Ah x2 (x1 == 1)).bind λ y5 => some (⟨x0.Am, (⟨y5, x0.Ap.Ac, x0.Ap.As, x0.Ap.Ak⟩ : Ab), x0.goal, y1⟩ : Av)
def Auv (a0 : Af) (y1 : Bool) (y3 : Bool) (y5 : Bool) : Bool := ((((a0.Kind != 2) && y1) && (!y3)) && (!y5))
def Ads (x0 : Av) (n0 : Nat) (a0 : Af) (z0 : Unit) : Option (Ctl Unit Unit) :=
 (Ax [((a0.Kind != 2), true)] (getI x0.Ap.Ah (cnt 0 n0)) default).bind λ y1 => (Ax [(((a0.Kind != 2) && y1), true)] (F76 x0.Ap 2 (cnt 0 n0)) default).bind λ y3 => (Ax [((((a0.Kind != 2) && y1) && (!y3)), true)] (Lf x0 a0.A) default).bind λ y5 => bif (Auv a0 y1 y3 y5) then none else some (.next ())
def Adr (n1 : Nat) (a1 : Int) (z1 : Sg7) : Option (Ctl (Sg7) Unit) :=
 (Rn (⟨(⟨z1.1, z1.2.1, z1.2.2.1, z1.2.2.2.1, z1.2.2.2.2.1, z1.2.2.2.2.2.1⟩ : Aa), (⟨z1.2.2.2.2.2.2.1, z1.2.2.2.2.2.2.2.1, z1.2.2.2.2.2.2.2.2.1, z1.2.2.2.2.2.2.2.2.2.1⟩ : Ab), z1.2.2.2.2.2.2.2.2.2.2.1, z1.2.2.2.2.2.2.2.2.2.2.2⟩ : Av) 2 a1).bind λ y8 => some (.next (y8.Am.Ao, y8.Am.Ad, y8.Am.Ac, y8.Am.Ai, y8.Am.Phase, y8.Am.Ar, y8.Ap.Ah, y8.Ap.Ac, y8.Ap.As, y8.Ap.Ak, y8.goal, y8.acts))
def Akb (x0 : Av) : Option Av :=
 andThen (foldI (Ads x0) x0.Am.Ad 0 ()) (λ _ => none) λ z0 => andThen (foldI Adr ([] : List Int) 0 (x0.Am.Ao, x0.Am.Ad, x0.Am.Ac, x0.Am.Ai, x0.Am.Phase, x0.Am.Ar, x0.Ap.Ah, x0.Ap.Ac, x0.Ap.As, x0.Ap.Ak, x0.goal, x0.acts)) (λ _ => none) λ z1 => some (⟨(⟨z1.1, z1.2.1, z1.2.2.1, z1.2.2.2.1, z1.2.2.2.2.1, z1.2.2.2.2.2.1⟩ : Aa), (⟨z1.2.2.2.2.2.2.1, z1.2.2.2.2.2.2.2.1, z1.2.2.2.2.2.2.2.2.1, z1.2.2.2.2.2.2.2.2.2.1⟩ : Ab), z1.2.2.2.2.2.2.2.2.2.2.1, z1.2.2.2.2.2.2.2.2.2.2.2⟩ : Av)
def Akd (x0 : Int) (x1 : Int) : Int × Int :=
 (IntKind.wrap .u64 ((IntKind.wrap .u64 ((IntKind.wrap .u64 ((F0 .u64 x0 32) * (F0 .u64 x1 32))) + (F0 .u64 (IntKind.wrap .u64 ((IntKind.wrap .u64 ((F0 .u64 x0 32) * (Lt .u64 x1 4294967295))) + (F0 .u64 (IntKind.wrap .u64 ((Lt .u64 x0 4294967295) * (Lt .u64 x1 4294967295))) 32))) 32))) + (F0 .u64 (IntKind.wrap .u64 ((Lt .u64 (IntKind.wrap .u64 ((IntKind.wrap .u64 ((F0 .u64 x0 32) * (Lt .u64 x1 4294967295))) + (F0 .u64 (IntKind.wrap .u64 ((Lt .u64 x0 4294967295) * (Lt .u64 x1 4294967295))) 32))) 4294967295) + (IntKind.wrap .u64 ((Lt .u64 x0 4294967295) * (F0 .u64 x1 32))))) 32)), IntKind.wrap .u64 (x0 * x1))
def Ql (x0 : Int) (x1 : Int) : Int × Int :=
 ((Akd x0 x1).1, (Akd x0 x1).2)
def Ap5 (x1 : Int) : Option (Ctl Unit Unit) :=
 bif decide (x1 < 0) then none else some (.next ())
def Ay9 (x0 : List An) (x1 : Int) : Bool := ((decide (((Ql (IntKind.wrap .u64 (x0.length : Int)) (IntKind.wrap .u64 x1)).1) > 0)) || (decide (((Ql (IntKind.wrap .u64 (x0.length : Int)) (IntKind.wrap .u64 x1)).2) > 9223372036854775807)))
def Ap4 (x0 : List An) (x1 : Int) : Option (Ctl Unit Unit) :=
 bif (Ay9 x0 x1) then none else some (.next ())
def Ay8 (z2 : Int × (List An)) : Bool := decide (z2.1 < (z2.2.length : Int))
def Ap6 (z2 : Int × (List An)) : Option (Ctl (Int × (List An)) Unit) :=
 bif (Ay8 z2) then (bndI z2.2.length z2.1 (z2.2.length : Int)).bind λ u7 => (bndI z2.2.length 0 z2.1).bind λ u9 => some (.next (w64 (z2.1 + ((Nat.min ((z2.2.drop 0).take ((Int.toNat z2.1) - 0)).length ((Int.toNat (z2.2.length : Int)) - (Int.toNat z2.1))) : Int)), (P3 z2.2 (Int.toNat z2.1) ((Int.toNat (z2.2.length : Int)) - (Int.toNat z2.1)) ((z2.2.drop 0).take ((Int.toNat z2.1) - 0))))) else some (.brk (z2.1, z2.2))
def F83 (x0 : List An) (x1 : Int) : Option ((List An)) :=
 andThen (Ap5 x1) (λ _ => none) λ z0 => andThen (Ap4 x0 x1) (λ _ => none) λ z1 => (mkI 25 (w64 ((Ql (IntKind.wrap .u64 (x0.length : Int)) (IntKind.wrap .u64 x1)).2)) (⟨0, 0, 0⟩ : An)).bind λ y3 => andThen (whileN Ap6 1152921504606846976 (((Nat.min x0.length y3.length) : Int), (P3 y3 0 y3.length x0))) (λ _ => none) λ z2 => some z2.2
def Adq (x0 : Av) (n0 : Nat) (a0 : Ae) (z0 : Sg9) : Option (Ctl (Sg9) Unit) :=
 (getI z0.2.1 (cnt 0 n0)).bind λ y1 => (F55 x0.Am (⟨x0.Ap.Ah, z0.2.1, x0.Ap.As, x0.Ap.Ak⟩ : Ab) (cnt 0 n0)).bind λ y3 => (Ax [(!y3, false)] (F56 x0.Am (cnt 0 n0)) default).bind λ y5 => (Ax [(!y3, false)] (getI x0.Am.Ad y5) default).bind λ y7 => (Ax [(!y3, false)] (Lf (⟨x0.Am, (⟨x0.Ap.Ah, z0.2.1, x0.Ap.As, x0.Ap.Ak⟩ : Ab), x0.goal, z0.2.2⟩ : Av) y7.A) default).bind λ y9 => bif ((!y3) || y9) then none else bif (y1.State == 0) then (appI 25 z0.2.2 [(⟨3, cnt 0 n0, 0⟩ : An)]).bind λ y13 => (getI x0.Am.Ac (cnt 0 n0)).bind λ y15 => (setI z0.2.1 (cnt 0 n0) (⟨2, y1.Since, y1.Ar, y1.Phase⟩ : Ae)).bind λ y17 => some (.next (max z0.1 y15.Start, y17, y13)) else none
def Aka (x0 : Av) : Option Av :=
 andThen (foldI (Adq x0) x0.Ap.Ac 0 (0, x0.Ap.Ac, x0.acts)) (λ _ => none) λ z0 => (F83 [(⟨7, 0, 0⟩ : An)] z0.1).bind λ y19 => (appI 25 z0.2.2 y19).bind λ y21 => some (⟨x0.Am, (⟨x0.Ap.Ah, z0.2.1, x0.Ap.As, x0.Ap.Ak⟩ : Ab), x0.goal, y21⟩ : Av)
def Auu (z0 : Gg) (z1 : Gg) : Bool := decide (z1.1 < (z0.2.2.2.1.length : Int))
def Ado (z0 : Gg) (z1 : Gg) : Option (Ctl (Gg) Unit) :=
 bif (Auu z0 z1) then (F56 (⟨z1.2.1, z1.2.2.1, z1.2.2.2.1, z1.2.2.2.2.1, z1.2.2.2.2.2.1, z1.2.2.2.2.2.2.1⟩ : Aa) z1.1).bind λ y3 => (getI z1.2.2.1 y3).bind λ y5 => (Ax [((y5.A == z0.1), true)] (F55 (⟨z1.2.1, z1.2.2.1, z1.2.2.2.1, z1.2.2.2.2.1, z1.2.2.2.2.2.1, z1.2.2.2.2.2.2.1⟩ : Aa) (⟨z1.2.2.2.2.2.2.2.1, z1.2.2.2.2.2.2.2.2.1, z1.2.2.2.2.2.2.2.2.2.1, z1.2.2.2.2.2.2.2.2.2.2.1⟩ : Ab) z1.1) default).bind λ y7 => (Ax [(((y5.A == z0.1) && y7), true)] (Lf (⟨(⟨z1.2.1, z1.2.2.1, z1.2.2.2.1, z1.2.2.2.2.1, z1.2.2.2.2.2.1, z1.2.2.2.2.2.2.1⟩ : Aa), (⟨z1.2.2.2.2.2.2.2.1, z1.2.2.2.2.2.2.2.2.1, z1.2.2.2.2.2.2.2.2.2.1, z1.2.2.2.2.2.2.2.2.2.2.1⟩ : Ab), z1.2.2.2.2.2.2.2.2.2.2.2.1, z1.2.2.2.2.2.2.2.2.2.2.2.2⟩ : Av) z0.1) default).bind λ y9 => bif (((y5.A == z0.1) && y7) && (!y9)) then (Rn (⟨(⟨z1.2.1, z1.2.2.1, z1.2.2.2.1, z1.2.2.2.2.1, z1.2.2.2.2.2.1, z1.2.2.2.2.2.2.1⟩ : Aa), (⟨z1.2.2.2.2.2.2.2.1, z1.2.2.2.2.2.2.2.2.1, z1.2.2.2.2.2.2.2.2.2.1, z1.2.2.2.2.2.2.2.2.2.2.1⟩ : Ab), z1.2.2.2.2.2.2.2.2.2.2.2.1, z1.2.2.2.2.2.2.2.2.2.2.2.2⟩ : Av) 1 y3).bind λ y12 => some (.next (w64 (z1.1 + 1), y12.Am.Ao, y12.Am.Ad, y12.Am.Ac, y12.Am.Ai, y12.Am.Phase, y12.Am.Ar, y12.Ap.Ah, y12.Ap.Ac, y12.Ap.As, y12.Ap.Ak, y12.goal, y12.acts)) else some (.next (w64 (z1.1 + 1), z1.2.1, z1.2.2.1, z1.2.2.2.1, z1.2.2.2.2.1, z1.2.2.2.2.2.1, z1.2.2.2.2.2.2.1, z1.2.2.2.2.2.2.2.1, z1.2.2.2.2.2.2.2.2.1, z1.2.2.2.2.2.2.2.2.2.1, z1.2.2.2.2.2.2.2.2.2.2.1, z1.2.2.2.2.2.2.2.2.2.2.2.1, z1.2.2.2.2.2.2.2.2.2.2.2.2)) else some (.brk (z1.1, z1.2.1, z1.2.2.1, z1.2.2.2.1, z1.2.2.2.2.1, z1.2.2.2.2.2.1, z1.2.2.2.2.2.2.1, z1.2.2.2.2.2.2.2.1, z1.2.2.2.2.2.2.2.2.1, z1.2.2.2.2.2.2.2.2.2.1, z1.2.2.2.2.2.2.2.2.2.2.1, z1.2.2.2.2.2.2.2.2.2.2.2.1, z1.2.2.2.2.2.2.2.2.2.2.2.2))
def Adp (x0 : Av) (z0 : Gg) : Option (Ctl (Gg) Unit) :=
 bif decide (z0.1 < x0.Am.Ao) then andThen (whileN (Ado z0) 1152921504606846976 (0, z0.2.1, z0.2.2.1, z0.2.2.2.1, z0.2.2.2.2.1, z0.2.2.2.2.2.1, z0.2.2.2.2.2.2.1, z0.2.2.2.2.2.2.2.1, z0.2.2.2.2.2.2.2.2.1, z0.2.2.2.2.2.2.2.2.2.1, z0.2.2.2.2.2.2.2.2.2.2.1, z0.2.2.2.2.2.2.2.2.2.2.2.1, z0.2.2.2.2.2.2.2.2.2.2.2.2)) (λ _ => none) λ z1 => some (.next (w64 (z0.1 + 1), z1.2.1, z1.2.2.1, z1.2.2.2.1, z1.2.2.2.2.1, z1.2.2.2.2.2.1, z1.2.2.2.2.2.2.1, z1.2.2.2.2.2.2.2.1, z1.2.2.2.2.2.2.2.2.1, z1.2.2.2.2.2.2.2.2.2.1, z1.2.2.2.2.2.2.2.2.2.2.1, z1.2.2.2.2.2.2.2.2.2.2.2.1, z1.2.2.2.2.2.2.2.2.2.2.2.2)) else some (.brk (z0.1, z0.2.1, z0.2.2.1, z0.2.2.2.1, z0.2.2.2.2.1, z0.2.2.2.2.2.1, z0.2.2.2.2.2.2.1, z0.2.2.2.2.2.2.2.1, z0.2.2.2.2.2.2.2.2.1, z0.2.2.2.2.2.2.2.2.2.1, z0.2.2.2.2.2.2.2.2.2.2.1, z0.2.2.2.2.2.2.2.2.2.2.2.1, z0.2.2.2.2.2.2.2.2.2.2.2.2))
def Aj9 (x0 : Av) : Option Av :=
 andThen (whileN (Adp x0) 1152921504606846976 (0, x0.Am.Ao, x0.Am.Ad, x0.Am.Ac, x0.Am.Ai, x0.Am.Phase, x0.Am.Ar, x0.Ap.Ah, x0.Ap.Ac, x0.Ap.As, x0.Ap.Ak, x0.goal, x0.acts)) (λ _ => none) λ z0 => some (⟨(⟨z0.2.1, z0.2.2.1, z0.2.2.2.1, z0.2.2.2.2.1, z0.2.2.2.2.2.1, z0.2.2.2.2.2.2.1⟩ : Aa), (⟨z0.2.2.2.2.2.2.2.1, z0.2.2.2.2.2.2.2.2.1, z0.2.2.2.2.2.2.2.2.2.1, z0.2.2.2.2.2.2.2.2.2.2.1⟩ : Ab), z0.2.2.2.2.2.2.2.2.2.2.2.1, z0.2.2.2.2.2.2.2.2.2.2.2.2⟩ : Av)
def Aut (a0 : Af) (y1 : Bool) (y3 : Bool) (y5 : Bool) (y7 : Bool) (y9 : Bool) : Bool := (((((a0.Kind == 1) && (!y1)) && y3) && y5) && (!(y7 == y9)))
def Adn (x0 : Av) (n0 : Nat) (a0 : Af) (z0 : Unit) : Option (Ctl Unit (Int × Bool)) :=
 (Ax [((a0.Kind == 1), true)] (getI x0.Ap.Ah (cnt 0 n0)) default).bind λ y1 => (Ax [(((a0.Kind == 1) && (!y1)), true)] (F57 x0.Am x0.Ap (cnt 0 n0)) default).bind λ y3 => (Ax [((((a0.Kind == 1) && (!y1)) && y3), true)] (getI x0.goal a0.A) default).bind λ y5 => (Ax [(((((a0.Kind == 1) && (!y1)) && y3) && y5), true)] (Lf x0 a0.A) default).bind λ y7 => (Ax [(((((a0.Kind == 1) && (!y1)) && y3) && y5), true)] (Lf x0 a0.B) default).bind λ y9 => bif (Aut a0 y1 y3 y5 y7 y9) then some (.ret (cnt 0 n0, true)) else some (.next ())
def Aj8 (x0 : Av) : Option (Int × Bool) :=
 andThen (foldI (Adn x0) x0.Am.Ad 0 ()) some λ z0 => some (0, false)
def F86 (x0 : Aa) (x1 : Ab) (x2 : Int) : Option (Int × Bool) :=
 (F44 x0 x1).bind λ y1 => bif (y1 != 0) then some (0, false) else (Y6 x0 x1 x2).bind λ y4 => some (y4.1, y4.2)
def Ap2 (x1 : Ab) (y1 : Aj × Bool) (n0 : Nat) (a0 : Int) (z0 : Int) : Option (Ctl Int Unit) :=
 bif decide ((y1.1.Ac.length : Int) > 0) then (getI x1.As a0).bind λ y4 => some (.next (w64 (z0 + y4))) else some (.next z0)
def F87 (x0 : Aa) (x1 : Ab) (x2 : Int) : Option Int :=
 (Hv x0 x1 x2).bind λ y1 => andThen (foldI (Ap2 x1 y1) y1.1.Ai 0 0) (λ _ => none) λ z0 => some z0
def Ap1 (x0 : Aa) (n0 : Nat) (a0 : Int) (z0 : Int) : Option (Ctl Int Unit) :=
 (getI x0.Ac a0).bind λ y3 => some (.next (w64 (z0 + y3.Rating)))
def F88 (x0 : Aa) (x1 : Ab) (x2 : Int) : Option Int :=
 (Hv x0 x1 x2).bind λ y1 => andThen (foldI (Ap1 x0) y1.1.Ac 0 0) (λ _ => none) λ z0 => some z0
def Aus (a0 : (Int × Int)) (a1 : Af) (y10 : Bool) (y12 : Bool) : Bool := ((((a1.Kind != 3) || (a1.B != a0.2)) || (!y10)) || (!y12))
def Adm (a0 : (Int × Int)) (n1 : Nat) (a1 : Af) (z1 : Sg7) : Option (Ctl (Sg7) Unit) :=
 (Ax [(((a1.Kind != 3) || (a1.B != a0.2)), false)] (F57 (⟨z1.1, z1.2.1, z1.2.2.1, z1.2.2.2.1, z1.2.2.2.2.1, z1.2.2.2.2.2.1⟩ : Aa) (⟨z1.2.2.2.2.2.2.1, z1.2.2.2.2.2.2.2.1, z1.2.2.2.2.2.2.2.2.1, z1.2.2.2.2.2.2.2.2.2.1⟩ : Ab) (cnt 0 n1)) default).bind λ y10 => (Ax [((((a1.Kind != 3) || (a1.B != a0.2)) || (!y10)), false)] (Lf (⟨(⟨z1.1, z1.2.1, z1.2.2.1, z1.2.2.2.1, z1.2.2.2.2.1, z1.2.2.2.2.2.1⟩ : Aa), (⟨z1.2.2.2.2.2.2.1, z1.2.2.2.2.2.2.2.1, z1.2.2.2.2.2.2.2.2.1, z1.2.2.2.2.2.2.2.2.2.1⟩ : Ab), z1.2.2.2.2.2.2.2.2.2.2.1, z1.2.2.2.2.2.2.2.2.2.2.2⟩ : Av) a1.A) default).bind λ y12 => bif (Aus a0 a1 y10 y12) then some (.next (z1.1, z1.2.1, z1.2.2.1, z1.2.2.2.1, z1.2.2.2.2.1, z1.2.2.2.2.2.1, z1.2.2.2.2.2.2.1, z1.2.2.2.2.2.2.2.1, z1.2.2.2.2.2.2.2.2.1, z1.2.2.2.2.2.2.2.2.2.1, z1.2.2.2.2.2.2.2.2.2.2.1, z1.2.2.2.2.2.2.2.2.2.2.2)) else (F87 (⟨z1.1, z1.2.1, z1.2.2.1, z1.2.2.2.1, z1.2.2.2.2.1, z1.2.2.2.2.2.1⟩ : Aa) (⟨z1.2.2.2.2.2.2.1, z1.2.2.2.2.2.2.2.1, z1.2.2.2.2.2.2.2.2.1, z1.2.2.2.2.2.2.2.2.2.1⟩ : Ab) a1.A).bind λ y15 => (getI z1.2.2.2.2.2.2.2.2.1 a0.2).bind λ y17 => (F88 (⟨z1.1, z1.2.1, z1.2.2.1, z1.2.2.2.1, z1.2.2.2.2.1, z1.2.2.2.2.2.1⟩ : Aa) (⟨z1.2.2.2.2.2.2.1, z1.2.2.2.2.2.2.2.1, z1.2.2.2.2.2.2.2.2.1, z1.2.2.2.2.2.2.2.2.2.1⟩ : Ab) a1.A).bind λ y19 => bif decide ((w64 (y15 + y17)) <= y19) then (Rn (⟨(⟨z1.1, z1.2.1, z1.2.2.1, z1.2.2.2.1, z1.2.2.2.2.1, z1.2.2.2.2.2.1⟩ : Aa), (⟨z1.2.2.2.2.2.2.1, z1.2.2.2.2.2.2.2.1, z1.2.2.2.2.2.2.2.2.1, z1.2.2.2.2.2.2.2.2.2.1⟩ : Ab), z1.2.2.2.2.2.2.2.2.2.2.1, z1.2.2.2.2.2.2.2.2.2.2.2⟩ : Av) 1 (cnt 0 n1)).bind λ y22 => some (.brk (y22.Am.Ao, y22.Am.Ad, y22.Am.Ac, y22.Am.Ai, y22.Am.Phase, y22.Am.Ar, y22.Ap.Ah, y22.Ap.Ac, y22.Ap.As, y22.Ap.Ak, y22.goal, y22.acts)) else some (.brk (z1.1, z1.2.1, z1.2.2.1, z1.2.2.2.1, z1.2.2.2.2.1, z1.2.2.2.2.2.1, z1.2.2.2.2.2.2.1, z1.2.2.2.2.2.2.2.1, z1.2.2.2.2.2.2.2.2.1, z1.2.2.2.2.2.2.2.2.2.1, z1.2.2.2.2.2.2.2.2.2.2.1, z1.2.2.2.2.2.2.2.2.2.2.2))
def T1 (a0 : Int × Int) (z0 : Sg7) : Option (Ctl (Sg7) Unit) :=
 (F86 (⟨z0.1, z0.2.1, z0.2.2.1, z0.2.2.2.1, z0.2.2.2.2.1, z0.2.2.2.2.2.1⟩ : Aa) (⟨z0.2.2.2.2.2.2.1, z0.2.2.2.2.2.2.2.1, z0.2.2.2.2.2.2.2.2.1, z0.2.2.2.2.2.2.2.2.2.1⟩ : Ab) a0.2).bind λ y5 => (Ax [(y5.2, false)] (F76 (⟨z0.2.2.2.2.2.2.1, z0.2.2.2.2.2.2.2.1, z0.2.2.2.2.2.2.2.2.1, z0.2.2.2.2.2.2.2.2.2.1⟩ : Ab) 4 a0.2) default).bind λ y7 => bif (y5.2 || y7) then some (.next (z0.1, z0.2.1, z0.2.2.1, z0.2.2.2.1, z0.2.2.2.2.1, z0.2.2.2.2.2.1, z0.2.2.2.2.2.2.1, z0.2.2.2.2.2.2.2.1, z0.2.2.2.2.2.2.2.2.1, z0.2.2.2.2.2.2.2.2.2.1, z0.2.2.2.2.2.2.2.2.2.2.1, z0.2.2.2.2.2.2.2.2.2.2.2)) else andThen (foldI (Adm a0) z0.2.1 0 (z0.1, z0.2.1, z0.2.2.1, z0.2.2.2.1, z0.2.2.2.2.1, z0.2.2.2.2.2.1, z0.2.2.2.2.2.2.1, z0.2.2.2.2.2.2.2.1, z0.2.2.2.2.2.2.2.2.1, z0.2.2.2.2.2.2.2.2.2.1, z0.2.2.2.2.2.2.2.2.2.2.1, z0.2.2.2.2.2.2.2.2.2.2.2)) (λ _ => none) λ z1 => some (.next (z1.1, z1.2.1, z1.2.2.1, z1.2.2.2.1, z1.2.2.2.2.1, z1.2.2.2.2.2.1, z1.2.2.2.2.2.2.1, z1.2.2.2.2.2.2.2.1, z1.2.2.2.2.2.2.2.2.1, z1.2.2.2.2.2.2.2.2.2.1, z1.2.2.2.2.2.2.2.2.2.2.1, z1.2.2.2.2.2.2.2.2.2.2.2))
def Aj7 (x0 : Av) : Option Av :=
 (F85 x0.Am).bind λ y3 => andThen (Rb T1 (bw y3) (x0.Am.Ao, x0.Am.Ad, x0.Am.Ac, x0.Am.Ai, x0.Am.Phase, x0.Am.Ar, x0.Ap.Ah, x0.Ap.Ac, x0.Ap.As, x0.Ap.Ak, x0.goal, x0.acts)) (λ _ => none) λ z0 => some (⟨(⟨z0.1, z0.2.1, z0.2.2.1, z0.2.2.2.1, z0.2.2.2.2.1, z0.2.2.2.2.2.1⟩ : Aa), (⟨z0.2.2.2.2.2.2.1, z0.2.2.2.2.2.2.2.1, z0.2.2.2.2.2.2.2.2.1, z0.2.2.2.2.2.2.2.2.2.1⟩ : Ab), z0.2.2.2.2.2.2.2.2.2.2.1, z0.2.2.2.2.2.2.2.2.2.2.2⟩ : Av)
def Ats (z0 : Sg7) : Option (Ctl (Sg7) Unit) :=
 (Aj8 (⟨(⟨z0.1, z0.2.1, z0.2.2.1, z0.2.2.2.1, z0.2.2.2.2.1, z0.2.2.2.2.2.1⟩ : Aa), (⟨z0.2.2.2.2.2.2.1, z0.2.2.2.2.2.2.2.1, z0.2.2.2.2.2.2.2.2.1, z0.2.2.2.2.2.2.2.2.2.1⟩ : Ab), z0.2.2.2.2.2.2.2.2.2.2.1, z0.2.2.2.2.2.2.2.2.2.2.2⟩ : Av)).bind λ y26 => bif !y26.2 then some (.brk (z0.1, z0.2.1, z0.2.2.1, z0.2.2.2.1, z0.2.2.2.2.1, z0.2.2.2.2.2.1, z0.2.2.2.2.2.2.1, z0.2.2.2.2.2.2.2.1, z0.2.2.2.2.2.2.2.2.1, z0.2.2.2.2.2.2.2.2.2.1, z0.2.2.2.2.2.2.2.2.2.2.1, z0.2.2.2.2.2.2.2.2.2.2.2)) else (Rn (⟨(⟨z0.1, z0.2.1, z0.2.2.1, z0.2.2.2.1, z0.2.2.2.2.1, z0.2.2.2.2.2.1⟩ : Aa), (⟨z0.2.2.2.2.2.2.1, z0.2.2.2.2.2.2.2.1, z0.2.2.2.2.2.2.2.2.1, z0.2.2.2.2.2.2.2.2.2.1⟩ : Ab), z0.2.2.2.2.2.2.2.2.2.2.1, z0.2.2.2.2.2.2.2.2.2.2.2⟩ : Av) 1 y26.1).bind λ y29 => some (.next (y29.Am.Ao, y29.Am.Ad, y29.Am.Ac, y29.Am.Ai, y29.Am.Phase, y29.Am.Ar, y29.Ap.Ah, y29.Ap.Ac, y29.Ap.As, y29.Ap.Ak, y29.goal, y29.acts))
def F8 (x0 : Aa) (x1 : Ab) : Option ((List An) × Int) :=
 (F31 x0 x1).bind λ y1 => bif (y1.2.2 != 0) then none else (F32 x1 y1.1).bind λ y4 => (Ax [(!y4, false)] (F33 x0 x1) default).bind λ y6 => bif ((!y4) || y6) then none else (F23 x0 x1).bind λ y9 => (F34 y9 true).bind λ y11 => (Ax [(!y11, false)] (F24 x0 x1) default).bind λ y13 => bif ((!y11) || y13) then none else (F35 x1).bind λ y16 => (F23 x0 x1).bind λ y18 => (Akb (⟨x0, y16, y18, ([] : List An)⟩ : Av)).bind λ y20 => (Aka y20).bind λ y22 => (Aj9 y22).bind λ y24 => andThen (whileN Ats 1152921504606846976 (y24.Am.Ao, y24.Am.Ad, y24.Am.Ac, y24.Am.Ai, y24.Am.Phase, y24.Am.Ar, y24.Ap.Ah, y24.Ap.Ac, y24.Ap.As, y24.Ap.Ak, y24.goal, y24.acts)) (λ _ => none) λ z0 => (Aj7 (⟨(⟨z0.1, z0.2.1, z0.2.2.1, z0.2.2.2.1, z0.2.2.2.2.1, z0.2.2.2.2.2.1⟩ : Aa), (⟨z0.2.2.2.2.2.2.1, z0.2.2.2.2.2.2.2.1, z0.2.2.2.2.2.2.2.2.1, z0.2.2.2.2.2.2.2.2.2.1⟩ : Ab), z0.2.2.2.2.2.2.2.2.2.2.1, z0.2.2.2.2.2.2.2.2.2.2.2⟩ : Av)).bind λ y31 => some (y31.acts, 0)
def Ih (x0 : Aa) (x1 : Int) (x2 : Int) : Bool :=
 bif (x1 == 1) then ((decide (x2 >= 0)) && (decide (x2 < (x0.Ac.length : Int)))) else bif (x1 == 2) then ((decide (x2 >= 0)) && (decide (x2 < (x0.Ad.length : Int)))) else bif (x1 == 3) then ((decide (x2 >= 0)) && (decide (x2 < x0.Ao))) else bif (x1 == 4) then ((decide (x2 >= 0)) && (decide (x2 < (x0.Ai.length : Int)))) else ((decide (x2 >= 0)) && (decide (x2 < 0)))
def Adf (x1 : An) : Option (Ctl Bool Unit) :=
 bif (x1.Kind == 1) then some (.next (x1.Kind == 1)) else some (.next (x1.Kind == 2))
def Ade (x1 : An) : Option (Ctl Bool Unit) :=
 bif (x1.Kind == 3) then some (.next (x1.Kind == 3)) else some (.next (x1.Kind == 4))
def F62 (x0 : Aa) (x1 : An) : Option Bool :=
 andThen (Adf x1) (λ _ => none) λ z0 => bif z0 then some (Ih x0 2 x1.Unit) else andThen (Ade x1) (λ _ => none) λ z1 => bif z1 then some (Ih x0 1 x1.Unit) else bif (x1.Kind == 5) then some (Ih x0 4 x1.Unit) else bif (x1.Kind == 6) then some ((Ih x0 1 x1.Unit) && (Ih x0 3 x1.Value)) else bif (x1.Kind == 8) then some (Ih x0 x1.Value x1.Unit) else bif (x1.Kind == 9) then some (Ih x0 x1.Value x1.Unit) else some true
def T3 (x0 : Aa) (x1 : Ab) (x2 : Int) : Option Bool :=
 (getI x0.Ad x2).bind λ y1 => (getI x1.Ah x2).bind λ y3 => (Ax [(y3, false)] (F76 x1 2 x2) default).bind λ y5 => (Ax [((y3 || y5), false)] (F76 x1 3 y1.A) default).bind λ y7 => bif ((y3 || y5) || y7) then some false else bif (y1.Kind == 1) then (F76 x1 3 y1.B).bind λ y11 => some (!y11) else bif (y1.Kind == 2) then (F76 x1 1 y1.B).bind λ y14 => (Ax [(!y14, true)] (getI x1.Ac y1.B) default).bind λ y16 => some ((!y14) && (y16.State == 2)) else (F86 x0 x1 y1.B).bind λ y18 => (F76 x1 4 y1.B).bind λ y20 => some ((!y20) && (!y18.2))
def T6 (x0 : Aa) (x1 : Ab) (x2 : Int) : Option (Int × Bool) :=
 (Hv x0 x1 x2).bind λ y1 => bif ((y1.1.Ac.length : Int) == 0) then some (0, false) else (getI y1.1.Ac 0).bind λ y4 => some (y4, true)
def Ft (x0 : Int) : Int :=
 bif decide ((Int.tmod x0 3600) < 0) then w64 ((Int.tmod x0 3600) + 3600) else Int.tmod x0 3600
def Axk (x0 : Int) (x1 : Int) : Bool := decide ((Ft (w64 ((Ft x1) - (Ft x0)))) > 1800)
def Akc (x0 : Int) (x1 : Int) : Int :=
 bif (Axk x0 x1) then w64 ((Ft (w64 ((Ft x1) - (Ft x0)))) - 3600) else Ft (w64 ((Ft x1) - (Ft x0)))
def Axl (x1 : Ae) (x2 : Ae) : Bool := ((decide ((min x1.Ar x2.Ar) < 0)) || (decide ((max x1.Ar x2.Ar) > 6000)))
def Adz (x0 : Aa) (x1 : Ae) (x2 : Ae) : Bool :=
 bif (Axl x1 x2) then false else ((decide ((max (w64 (x1.Ar - x2.Ar)) (w64 (x2.Ar - x1.Ar))) <= x0.Ar)) && (decide ((max (Akc x1.Phase x2.Phase) (w64 (0 - Akc x1.Phase x2.Phase))) <= x0.Phase)))
def Ad1 (x0 : Aa) (x1 : Ab) (x2 : Af) : Option Bool :=
 (T6 x0 x1 x2.A).bind λ y1 => bif !y1.2 then some true else bif (x2.Kind == 1) then (T6 x0 x1 x2.B).bind λ y5 => (Ax [(!y5.2, false)] (getI x1.Ac y1.1) default).bind λ y7 => (Ax [(!y5.2, false)] (getI x1.Ac y5.1) default).bind λ y9 => some ((!y5.2) || (Adz x0 y7 y9)) else bif (x2.Kind == 2) then (getI x1.Ac y1.1).bind λ y12 => (getI x1.Ac x2.B).bind λ y14 => some (Adz x0 y12 y14) else some true
def Abp (x0 : Aa) (x2 : Int) : Bool := ((decide (x2 < 0)) || (decide (x2 >= (x0.Ad.length : Int))))
def T7 (x0 : Aa) (x1 : Ab) (x2 : Int) : Option Int :=
 (F44 x0 x1).bind λ y1 => bif (y1 != 0) then some y1 else bif (Abp x0 x2) then some 10 else (T3 x0 x1 x2).bind λ y5 => bif !y5 then some 11 else (getI x0.Ad x2).bind λ y8 => (Hv x0 x1 y8.A).bind λ y10 => (Ax [((y8.Kind == 1), true)] (F59 y10.1.Ao y8.B) default).bind λ y12 => (Ax [(!((y8.Kind == 1) && y12), true)] (Ad1 x0 x1 y8) default).bind λ y14 => bif ((!((y8.Kind == 1) && y12)) && (!y14)) then some 12 else some 0
def Qm (x0 : Aa) (x1 : Ab) (x2 : Int) : Option (Ab × Int) :=
 (T7 x0 x1 x2).bind λ y1 => bif (y1 != 0) then some ((⟨([] : List Bool), ([] : List Ae), ([] : List Int), ([] : List Al)⟩ : Ab), y1) else (F35 x1).bind λ y4 => (getI y4.Ah x2).bind λ y6 => (setI y4.Ah x2 true).bind λ y8 => (Za x0 (⟨y8, y4.Ac, y4.As, y4.Ak⟩ : Ab)).bind λ y10 => some (y10.1, y10.2)
def An1 (x0 : Aa) (x2 : Int) : Bool := ((decide (x2 < 0)) || (decide (x2 >= (x0.Ad.length : Int))))
def Ua (x0 : Aa) (x1 : Ab) (x2 : Int) : Option (Ab × Int) :=
 (F44 x0 x1).bind λ y1 => bif (y1 != 0) then some ((⟨([] : List Bool), ([] : List Ae), ([] : List Int), ([] : List Al)⟩ : Ab), y1) else bif (An1 x0 x2) then some ((⟨([] : List Bool), ([] : List Ae), ([] : List Int), ([] : List Al)⟩ : Ab), 10) else (getI x1.Ah x2).bind λ y5 => (Ax [(!y5, false)] (F76 x1 2 x2) default).bind λ y7 => bif ((!y5) || y7) then some ((⟨([] : List Bool), ([] : List Ae), ([] : List Int), ([] : List Al)⟩ : Ab), 11) else (F35 x1).bind λ y10 => (getI y10.Ah x2).bind λ y12 => (setI y10.Ah x2 false).bind λ y14 => some ((⟨y14, y10.Ac, y10.As, y10.Ak⟩ : Ab), 0)
def Ad5 (x0 : Aa) (x1 : Ab) (x2 : Int) : Option (Int × Bool) :=
 (F44 x0 x1).bind λ y1 => bif (y1 != 0) then some (0, false) else (Y0 x0 x1 x2).bind λ y4 => some (y4.1, y4.2)
def Abr (x0 : Aa) (x2 : Int) (x3 : Int) : Bool := ((((decide (x2 < 0)) || (decide (x2 >= (x0.Ac.length : Int)))) || (decide (x3 < 0))) || (decide (x3 >= x0.Ao)))
def T_ (x0 : Aa) (x1 : Ab) (x2 : Int) (x3 : Int) : Option (Ab × Int) :=
 (F44 x0 x1).bind λ y1 => bif (y1 != 0) then some ((⟨([] : List Bool), ([] : List Ae), ([] : List Int), ([] : List Al)⟩ : Ab), y1) else bif (Abr x0 x2 x3) then some ((⟨([] : List Bool), ([] : List Ae), ([] : List Int), ([] : List Al)⟩ : Ab), 10) else (T6 x0 x1 x3).bind λ y5 => (Ax [(!y5.2, false)] (getI x1.Ac x2) default).bind λ y7 => bif ((!y5.2) || (y7.State != 2)) then some ((⟨([] : List Bool), ([] : List Ae), ([] : List Int), ([] : List Al)⟩ : Ab), 11) else (F35 x1).bind λ y10 => (Ad5 x0 x1 x2).bind λ y12 => bif y12.2 then (Hv x0 x1 y12.1).bind λ y15 => (getI x1.Ac y5.1).bind λ y17 => (Kr y10 y15.1.Ac y17).bind λ y19 => some ((⟨y10.Ah, y19, y10.As, y10.Ak⟩ : Ab), 0) else (getI x1.Ac y5.1).bind λ y21 => (Kr y10 [x2] y21).bind λ y23 => some ((⟨y10.Ah, y23, y10.As, y10.Ak⟩ : Ab), 0)
def Hu (x0 : Az) (x1 : Int) : Option Bool :=
 (F56 x0.Am x1).bind λ y1 => (getI x0.Ap.Ah y1).bind λ y3 => some (!y3)
def Ku (x0 : Az) (x1 : Int) : Option (Int × Az) :=
 (getI x0.Ap.Ac x1).bind λ y1 => (Ax [((y1.State != 0), false)] (F76 x0.Ap 1 x1) default).bind λ y3 => bif ((y1.State != 0) || y3) then some (11, x0) else (getI x0.Am.Ac x1).bind λ y6 => (Ax [((y6.Start == 0), true)] (Hu x0 x1) default).bind λ y8 => bif ((y6.Start == 0) && y8) then (setI x0.Ap.Ac x1 (⟨2, x0.time, 5000, 0⟩ : Ae)).bind λ y11 => some (0, (⟨x0.Am, (⟨x0.Ap.Ah, y11, x0.Ap.As, x0.Ap.Ak⟩ : Ab), x0.time⟩ : Az)) else (setI x0.Ap.Ac x1 (⟨1, x0.time, 5000, 0⟩ : Ae)).bind λ y13 => some (0, (⟨x0.Am, (⟨x0.Ap.Ah, y13, x0.Ap.As, x0.Ap.Ak⟩ : Ab), x0.time⟩ : Az))
def Tk (y1 : Ae) (y3 : Bool) : Bool := (((y1.State != 1) && (y1.State != 2)) || (!y3))
def Kt (x0 : Az) (x1 : Int) : Option (Int × Az) :=
 (getI x0.Ap.Ac x1).bind λ y1 => (Ax [(((y1.State != 1) && (y1.State != 2)), false)] (Hu x0 x1) default).bind λ y3 => bif (Tk y1 y3) then some (11, x0) else (setI x0.Ap.Ac x1 (⟨0, y1.Since, y1.Ar, y1.Phase⟩ : Ae)).bind λ y6 => some (0, (⟨x0.Am, (⟨x0.Ap.Ah, y6, x0.Ap.As, x0.Ap.Ak⟩ : Ab), x0.time⟩ : Az))
def Abq (x2 : Int) (y1 : A3) : Bool := ((decide (x2 < 0)) || (decide (x2 > y1.Load)))
def Ks (x0 : Az) (x1 : Int) (x2 : Int) : Option (Int × Az) :=
 (Ax [(decide (x2 < 0), false)] (getI x0.Am.Ai x1) default).bind λ y1 => bif (Abq x2 y1) then some (1, x0) else (getI x0.Ap.As x1).bind λ y4 => (setI x0.Ap.As x1 x2).bind λ y6 => some (0, (⟨x0.Am, (⟨x0.Ap.Ah, x0.Ap.Ac, y6, x0.Ap.Ak⟩ : Ab), x0.time⟩ : Az))
def Rt (n0 : Nat) (a0 : Ae) (z0 : (List Ae)) : Option (Ctl ((List Ae)) Unit) :=
 bif (a0.State == 2) then (getI z0 (cnt 0 n0)).bind λ y7 => (setI z0 (cnt 0 n0) (⟨y7.State, y7.Since, y7.Ar, Ft (w64 (a0.Phase + (w64 (36 * (w64 (a0.Ar - 5000))))))⟩ : Ae)).bind λ y9 => some (.next y9) else some (.next z0)
def T5 (x0 : Aa) (x1 : Ab) : Option (Ab × Int) :=
 (F44 x0 x1).bind λ y1 => bif (y1 != 0) then some ((⟨([] : List Bool), ([] : List Ae), ([] : List Int), ([] : List Al)⟩ : Ab), y1) else (F35 x1).bind λ y4 => andThen (foldI Rt x1.Ac 0 y4.Ac) (λ _ => none) λ z0 => some ((⟨y4.Ah, z0, y4.As, y4.Ak⟩ : Ab), 0)
def Tj (y1 : Ab × Int) (z0 : Int × (List Ae)) : Bool := decide (z0.1 < (y1.1.Ac.length : Int))
def Kn (x0 : Az) (y4 : Ae) (y6 : Bool) (y8 : A9) : Bool := (((y4.State == 1) && y6) && (decide ((w64 (y4.Since + y8.Start)) <= (w64 (x0.time + 1)))))
def Lh (x0 : Az) (y1 : Ab × Int) (z0 : Int × (List Ae)) : Option (Ctl (Int × (List Ae)) Unit) :=
 bif (Tj y1 z0) then (getI z0.2 z0.1).bind λ y4 => (Ax [((y4.State == 1), true)] (Hu (⟨x0.Am, (⟨y1.1.Ah, z0.2, y1.1.As, y1.1.Ak⟩ : Ab), x0.time⟩ : Az) z0.1) default).bind λ y6 => (Ax [(((y4.State == 1) && y6), true)] (getI x0.Am.Ac z0.1) default).bind λ y8 => bif (Kn x0 y4 y6 y8) then (setI z0.2 z0.1 (⟨2, y4.Since, y4.Ar, y4.Phase⟩ : Ae)).bind λ y11 => some (.next (w64 (z0.1 + 1), y11)) else some (.next (w64 (z0.1 + 1), z0.2)) else some (.brk (z0.1, z0.2))
def I9 (x0 : Az) : Option Az :=
 (T5 x0.Am x0.Ap).bind λ y1 => andThen (whileN (Lh x0 y1) 1152921504606846976 (0, y1.1.Ac)) (λ _ => none) λ z0 => some (⟨x0.Am, (⟨y1.1.Ah, z0.2, y1.1.As, y1.1.Ak⟩ : Ab), x0.time⟩ : Az)
def N9 (x0 : Al) (x1 : Al) : Int :=
 bif (x0.Kind != x1.Kind) then w64 (x0.Kind - x1.Kind) else w64 (x0.Number - x1.Number)
def Qh (x0 : List Al) (x1 : Al) (z0 : Int × Int) : Option (Ctl (Int × Int) Unit) :=
 bif decide (z0.1 < z0.2) then (getI x0 (w64 (F0 .u64 (IntKind.wrap .u64 (w64 (z0.1 + z0.2))) 1))).bind λ y2 => bif decide ((N9 y2 x1) < 0) then some (.next (w64 ((w64 (F0 .u64 (IntKind.wrap .u64 (w64 (z0.1 + z0.2))) 1)) + 1), z0.2)) else some (.next (z0.1, w64 (F0 .u64 (IntKind.wrap .u64 (w64 (z0.1 + z0.2))) 1))) else some (.brk (z0.1, z0.2))
def Qi (x0 : List Al) (x1 : Al) : Option (Int × Bool) :=
 andThen (whileN (Qh x0 x1) 1152921504606846976 (0, (x0.length : Int))) (λ _ => none) λ z0 => (Ax [(decide (z0.1 < (x0.length : Int)), true)] (getI x0 z0.1) default).bind λ y5 => some (z0.1, ((decide (z0.1 < (x0.length : Int))) && ((N9 y5 x1) == 0)))
def Mo (x0 : List Al) (x1 : Int) (x2 : List Al) : Option ((List Al)) :=
 (bndI x0.length x1 (x0.length : Int)).bind λ u2 => bif ((x2.length : Int) == 0) then some x0 else bif (x1 == (x0.length : Int)) then (appI 17 x0 x2).bind λ y5 => some y5 else insI 17 x0 x1 x2
def Qg (x0 : List Al) (x1 : Int) (x2 : Int) : Option ((List Al)) :=
 (bnd3I x0.length x1 x2 (x0.length : Int)).bind λ u2 => bif (x1 == x2) then some x0 else (bndI x0.length 0 x1).bind λ u5 => (bndI x0.length x2 (x0.length : Int)).bind λ u7 => (appPI x0 ((Int.toNat x1) - 0) ((x0.drop (Int.toNat x2)).take ((Int.toNat (x0.length : Int)) - (Int.toNat x2)))).bind λ y8 => (bndI (y8.length - 0) (((((Int.toNat x1) - 0) + ((x0.drop (Int.toNat x2)).take ((Int.toNat (x0.length : Int)) - (Int.toNat x2))).length) : Nat) : Int) (x0.length : Int)).bind λ u11 => some ((Jf y8 (0 + (Int.toNat (((((Int.toNat x1) - 0) + ((x0.drop (Int.toNat x2)).take ((Int.toNat (x0.length : Int)) - (Int.toNat x2))).length) : Nat) : Int))) ((Int.toNat (x0.length : Int)) - (Int.toNat (((((Int.toNat x1) - 0) + ((x0.drop (Int.toNat x2)).take ((Int.toNat (x0.length : Int)) - (Int.toNat x2))).length) : Nat) : Int))) (⟨0, 0⟩ : Al)).take (((Int.toNat x1) - 0) + ((x0.drop (Int.toNat x2)).take ((Int.toNat (x0.length : Int)) - (Int.toNat x2))).length))
def Nt (x0 : Az) (x2 : Bool) : Bool := (x2 && (decide ((x0.Ap.Ak.length : Int) >= 32)))
def Lg (x0 : Az) (x1 : Al) (x2 : Bool) (y1 : Int × Bool) : Option (Ctl ((List Al)) Unit) :=
 bif x2 then (Mo x0.Ap.Ak y1.1 [x1]).bind λ y6 => some (.next y6) else (Qg x0.Ap.Ak y1.1 (w64 (y1.1 + 1))).bind λ y8 => some (.next y8)
def Gh (x0 : Az) (x1 : Al) (x2 : Bool) : Option (Int × Az) :=
 (Qi x0.Ap.Ak x1).bind λ y1 => bif (y1.2 == x2) then some (11, x0) else bif (Nt x0 x2) then some (2, x0) else andThen (Lg x0 x1 x2 y1) (λ _ => none) λ z0 => bif (x1.Kind == 1) then (getI x0.Ap.Ac x1.Number).bind λ y11 => (setI x0.Ap.Ac x1.Number (⟨0, y11.Since, y11.Ar, y11.Phase⟩ : Ae)).bind λ y13 => bif x2 then (getI y13 x1.Number).bind λ y16 => (setI y13 x1.Number (⟨3, y16.Since, y16.Ar, y16.Phase⟩ : Ae)).bind λ y18 => some (0, (⟨x0.Am, (⟨x0.Ap.Ah, y18, x0.Ap.As, z0⟩ : Ab), x0.time⟩ : Az)) else some (0, (⟨x0.Am, (⟨x0.Ap.Ah, y13, x0.Ap.As, z0⟩ : Ab), x0.time⟩ : Az)) else some (0, (⟨x0.Am, (⟨x0.Ap.Ah, x0.Ap.Ac, x0.Ap.As, z0⟩ : Ab), x0.time⟩ : Az))
def N2 (x0 : Az) (x1 : An) : Option (Int × Az) :=
 bif (x1.Kind == 1) then (Qm x0.Am x0.Ap x1.Unit).bind λ y2 => some (y2.2, (⟨x0.Am, y2.1, x0.time⟩ : Az)) else bif (x1.Kind == 2) then (Ua x0.Am x0.Ap x1.Unit).bind λ y5 => some (y5.2, (⟨x0.Am, y5.1, x0.time⟩ : Az)) else bif (x1.Kind == 6) then (T_ x0.Am x0.Ap x1.Unit x1.Value).bind λ y8 => some (y8.2, (⟨x0.Am, y8.1, x0.time⟩ : Az)) else bif (x1.Kind == 3) then (Ku x0 x1.Unit).bind λ y11 => some (y11.1, y11.2) else bif (x1.Kind == 4) then (Kt x0 x1.Unit).bind λ y14 => some (y14.1, y14.2) else bif (x1.Kind == 5) then (Ks x0 x1.Unit x1.Value).bind λ y17 => some (y17.1, y17.2) else bif (x1.Kind == 7) then (I9 x0).bind λ y20 => some (0, y20) else (Gh x0 (⟨x1.Value, x1.Unit⟩ : Al) (x1.Kind == 8)).bind λ y22 => some (y22.1, y22.2)
def uH (x2 : Int) (x3 : An) : Bool := ((((decide (x2 < 0)) || (decide (x2 > 2147483648))) || (decide (x3.Kind < 1))) || (decide (x3.Kind > 9)))
def F27 (x0 : Aa) (x1 : Ab) (x2 : Int) (x3 : An) : Option (Ab × Int) :=
 (F44 x0 x1).bind λ y1 => bif (y1 != 0) then some ((⟨([] : List Bool), ([] : List Ae), ([] : List Int), ([] : List Al)⟩ : Ab), y1) else bif (uH x2 x3) then some ((⟨([] : List Bool), ([] : List Ae), ([] : List Int), ([] : List Al)⟩ : Ab), 1) else (F62 x0 x3).bind λ y5 => bif !y5 then some ((⟨([] : List Bool), ([] : List Ae), ([] : List Int), ([] : List Al)⟩ : Ab), 10) else (F35 x1).bind λ y8 => (N2 (⟨x0, y8, x2⟩ : Az) x3).bind λ y10 => bif (y10.1 != 0) then some ((⟨([] : List Bool), ([] : List Ae), ([] : List Int), ([] : List Al)⟩ : Ab), y10.1) else some (y10.2.Ap, 0)
def Aqg (x0 : Aa) (n0 : Nat) (a0 : An) (z0 : Sg2) : Option (Ctl (Sg2) Unit) :=
 (F27 x0 (⟨z0.2.1, z0.2.2.1, z0.2.2.2.1, z0.2.2.2.2⟩ : Ab) z0.1 a0).bind λ y6 => bif (y6.2 != 0) then none else bif (a0.Kind == 7) then some (.next (w64 (z0.1 + 1), y6.1.Ah, y6.1.Ac, y6.1.As, y6.1.Ak)) else some (.next (z0.1, y6.1.Ah, y6.1.Ac, y6.1.As, y6.1.Ak))
def F10 (x0 : Aa) (x1 : Ab) (x2 : Int) (x3 : List An) : Option (Ab × Int × Int × Int) :=
 (F44 x0 x1).bind λ y1 => bif (y1 != 0) then none else (F35 x1).bind λ y4 => andThen (foldI (Aqg x0) x3 0 (x2, y4.Ah, y4.Ac, y4.As, y4.Ak)) (λ _ => none) λ z0 => some ((⟨z0.2.1, z0.2.2.1, z0.2.2.2.1, z0.2.2.2.2⟩ : Ab), z0.1, (x3.length : Int), 0)
def Azc (a0 : An) (y2 : An) : Bool := !((a0.Kind == y2.Kind) && ((a0.Unit == y2.Unit) && ((a0.Value == y2.Value) && true)))
def Aqd (x1 : List An) (n0 : Nat) (a0 : An) (z0 : Unit) : Option (Ctl Unit Unit) :=
 (getI x1 (cnt 0 n0)).bind λ y2 => bif (Azc a0 y2) then none else some (.next ())
def F43 (x0 : List An) (x1 : List An) : Option Bool :=
 bif ((x0.length : Int) != (x1.length : Int)) then none else andThen (foldI (Aqd x1) x0 0 ()) (λ _ => none) λ z0 => some true
def F9  : Option Bool :=
 (F8 F42.1 F42.2).bind λ y1 => (F10 F42.1 F42.2 7 y1.1).bind λ y3 => (Ax [((y1.2 == 0), true)] (F43 y1.1 [(⟨3, 0, 0⟩ : An), (⟨7, 0, 0⟩ : An), (⟨7, 0, 0⟩ : An), (⟨7, 0, 0⟩ : An), (⟨1, 1, 0⟩ : An), (⟨1, 0, 0⟩ : An)]) default).bind λ y5 => (Ax [((((((y1.2 == 0) && y5) && (y3.2.2.2 == 0)) && (y3.2.1 == 10)) && (y3.2.2.1 == 6)), true)] (F24 F42.1 y3.1) default).bind λ y7 => (Ax [(((((((y1.2 == 0) && y5) && (y3.2.2.2 == 0)) && (y3.2.1 == 10)) && (y3.2.2.1 == 6)) && y7), true)] (F24 F42.1 F42.2) default).bind λ y9 => some (((((((y1.2 == 0) && y5) && (y3.2.2.2 == 0)) && (y3.2.1 == 10)) && (y3.2.2.1 == 6)) && y7) && (!y9))
def Aiq (x0 : Aa) (n0 : Nat) (a0 : Int) (y4 : Int) : Bool := (((decide (a0 < 0)) || (decide (a0 >= x0.Ao))) || ((decide ((cnt 0 n0) > 0)) && (decide (y4 >= a0))))
def Wx (x0 : Aa) (x2 : List Int) (n0 : Nat) (a0 : Int) (z0 : Unit) : Option (Ctl Unit Bool) :=
 (Ax [(((decide (a0 < 0)) || (decide (a0 >= x0.Ao))), false), (decide ((cnt 0 n0) > 0), true)] (getI x2 (w64 ((cnt 0 n0) - 1))) default).bind λ y4 => bif (Aiq x0 n0 a0 y4) then some (.ret false) else some (.next ())
def Ww (x0 : Aa) (x1 : Ab) (x2 : List Int) (n1 : Nat) (a1 : Af) (z1 : Unit) : Option (Ctl Unit Bool) :=
 (F59 x2 a1.A).bind λ y7 => bif (a1.Kind == 2) then (Ax [(y7, true)] (F55 x0 x1 a1.B) default).bind λ y10 => bif (y7 && y10) then some (.ret false) else some (.next ()) else bif (a1.Kind == 1) then (F57 x0 x1 (cnt 0 n1)).bind λ y14 => (Ax [(y14, true)] (F59 x2 a1.B) default).bind λ y16 => bif (y14 && (!(y7 == y16))) then some (.ret false) else some (.next ()) else some (.next ())
def F25 (x0 : Aa) (x1 : Ab) (x2 : List Int) : Option Bool :=
 (F44 x0 x1).bind λ y1 => bif ((y1 != 0) || ((x2.length : Int) == 0)) then some false else andThen (foldI (Wx x0 x2) x2 0 ()) some λ z0 => andThen (foldI (Ww x0 x1 x2) x0.Ad 0 ()) some λ z1 => some true
def T0 (y1 : Int × Ag) : Option (Ctl Bool Unit) :=
 bif (y1.1 == 1) then some (.next (y1.1 == 1)) else some (.next (y1.1 == 2))
def Tz (y1 : Int × Ag) : Option (Ctl Bool Unit) :=
 bif (y1.1 == 3) then some (.next (y1.1 == 3)) else some (.next (y1.1 == 4))
def Wp (x0 : Ag) (x1 : Aa) : Option (An × Ag) :=
 (F64 x0 1 9).bind λ y1 => andThen (T0 y1) (λ _ => none) λ z0 => bif z0 then (F60 y1.2 (w64 ((x1.Ad.length : Int) + 1))).bind λ y5 => some ((⟨y1.1, y5.1, 0⟩ : An), y5.2) else andThen (Tz y1) (λ _ => none) λ z1 => bif z1 then (F60 y1.2 (w64 ((x1.Ac.length : Int) + 1))).bind λ y9 => some ((⟨y1.1, y9.1, 0⟩ : An), y9.2) else bif (y1.1 == 5) then (F60 y1.2 (w64 ((x1.Ai.length : Int) + 1))).bind λ y12 => (F65 y12.2 [0, 5, 20, 41]).bind λ y14 => some ((⟨y1.1, y12.1, y14.1⟩ : An), y14.2) else bif (y1.1 == 6) then (F60 y1.2 (w64 ((x1.Ac.length : Int) + 1))).bind λ y17 => (F60 y17.2 (w64 (x1.Ao + 1))).bind λ y19 => some ((⟨y1.1, y17.1, y19.1⟩ : An), y19.2) else bif (y1.1 == 8) then (F64 y1.2 1 4).bind λ y22 => (F60 y22.2 4).bind λ y24 => some ((⟨y1.1, y24.1, y22.1⟩ : An), y24.2) else bif (y1.1 == 9) then (F64 y1.2 1 4).bind λ y27 => (F60 y27.2 4).bind λ y29 => some ((⟨y1.1, y29.1, y27.1⟩ : An), y29.2) else some ((⟨y1.1, 0, 0⟩ : An), y1.2)
def T2 (x1 : Aa) (z0 : Int × (List Int) × Int × (List An)) : Option (Ctl (Int × (List Int) × Int × (List An)) Unit) :=
 bif decide (z0.1 > 0) then (Wp (⟨z0.2.1, z0.2.2.1⟩ : Ag) x1).bind λ y4 => (appI 25 z0.2.2.2 [y4.1]).bind λ y6 => some (.next (w64 (z0.1 - 1), y4.2.L, y4.2.At, y6)) else some (.brk (z0.1, z0.2.1, z0.2.2.1, z0.2.2.2))
def Wv (x0 : Ag) (x1 : Aa) (x2 : Int) : Option ((List An) × Ag) :=
 (F60 x0 (w64 (x2 + 1))).bind λ y1 => andThen (whileN (T2 x1) 1152921504606846976 (y1.1, y1.2.L, y1.2.At, ([] : List An))) (λ _ => none) λ z0 => some (z0.2.2.2, (⟨z0.2.1, z0.2.2.1⟩ : Ag))
def Axj (y3 : Aa × Ab × Ag) (z0 : Int) : Bool := decide (z0 < (y3.1.Ad.length : Int))
def Aj6 (y3 : Aa × Ab × Ag) (z0 : Int) : Option (Ctl Int Bool) :=
 bif (Axj y3 z0) then (getI y3.2.1.Ah z0).bind λ y9 => (Ax [(y9, true)] (F15 y3.2.1 2 z0) default).bind λ y11 => bif (y9 && y11) then (F9).bind λ y14 => some (.ret y14) else some (.next (w64 (z0 + 1))) else some (.brk z0)
def Aj5 (n1 : Nat) (a1 : Bool) (z1 : (List Int)) : Option (Ctl ((List Int)) Unit) :=
 bif !a1 then (appI 9 z1 [cnt 0 n1]).bind λ y17 => some (.next y17) else some (.next z1)
def Axi (z1 : (List Int)) (y19 : Bool) : Bool := ((decide ((z1.length : Int) > 0)) && (!y19))
def Aj4 (y3 : Aa × Ab × Ag) (n2 : Nat) (a2 : Bool) (z2 : Unit) : Option (Ctl Unit Bool) :=
 (Ax [(a2, true)] (F25 y3.1 y3.2.1 [cnt 0 n2]) default).bind λ y22 => (Ax [(a2, true), (y22, false)] (F15 y3.2.1 3 (cnt 0 n2)) default).bind λ y24 => bif (a2 && (y22 || y24)) then some (.ret false) else some (.next ())
def Aj2 (y3 : Aa × Ab × Ag) (z3 : Sg1) (y30 : Ab × Int) (n4 : Nat) (a4 : Int) (z4 : Unit) : Option (Ctl Unit Bool) :=
 (F14 y3.1 y30.1 a4).bind λ y33 => (Ax [(y33, true)] (F14 y3.1 (⟨z3.1, z3.2.1, z3.2.2.1, z3.2.2.2⟩ : Ab) a4) default).bind λ y35 => bif (y33 && (!y35)) then some (.ret false) else some (.next ())
def Aj3 (y3 : Aa × Ab × Ag) (z1 : (List Int)) (n3 : Nat) (a3 : An) (z3 : Sg1) : Option (Ctl (Sg1) Bool) :=
 bif ((a3.Kind == 8) || (a3.Kind == 9)) then some (.next (z3.1, z3.2.1, z3.2.2.1, z3.2.2.2)) else (F27 y3.1 (⟨z3.1, z3.2.1, z3.2.2.1, z3.2.2.2⟩ : Ab) 10 a3).bind λ y30 => bif (y30.2 != 0) then some (.next (z3.1, z3.2.1, z3.2.2.1, z3.2.2.2)) else andThen (foldI (Aj2 y3 z3 y30) z1 0 ()) (λ v => some (.ret v)) λ z4 => some (.next (y30.1.Ah, y30.1.Ac, y30.1.As, y30.1.Ak))
def F5 (x0 : List Int) : Option Bool :=
 (F6 x0).bind λ y1 => (F7 y1).bind λ y3 => (F23 y3.1 y3.2.1).bind λ y5 => bif ((y5.length : Int) != y3.1.Ao) then some false else andThen (whileN (Aj6 y3) 1152921504606846976 0) some λ z0 => andThen (foldI Aj5 y5 0 ([] : List Int)) (λ _ => none) λ z1 => (Ax [(decide ((z1.length : Int) > 0), true)] (F25 y3.1 y3.2.1 z1) default).bind λ y19 => bif (Axi z1 y19) then some false else andThen (foldI (Aj4 y3) y5 0 ()) some λ z2 => (Wv y3.2.2 y3.1 10).bind λ y27 => andThen (foldI (Aj3 y3 z1) y27.1 0 (y3.2.1.Ah, y3.2.1.Ac, y3.2.1.As, y3.2.1.Ak)) some λ z3 => (F9).bind λ y38 => some y38
end Go.Proofs.YtcigbocngfaopaaGreat
