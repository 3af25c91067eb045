import Derived.Test.YthgnbpdjncbkfaaGreatTy
set_option linter.unusedVariables false
namespace Go.Proofs.YthgnbpdjncbkfaaGreat
open Go.SL
abbrev Sg0 := Int × (List Bool) × (List Ae) × (List Int) × (List Am) × (List A0) × (List Bg)
abbrev Sg1 := Int × (List Int) × Int × (List Bool) × (List Ae) × (List Int) × (List Am) × (List A0) × (List Bg) × Int
abbrev Sg2 := Int × (List Int) × Int × (List Aj)
abbrev Sg3 := Int × (List Int) × Int × (List Aj) × (List A3)
abbrev Sg4 := Int × (List Int) × Int × (List Aj) × (List Bh)
abbrev Sg5 := Int × (List Int) × Int × (List A0)
abbrev Sg6 := Int × (List Int) × Int × (List Ae)
abbrev Sg7 := Int × (List Aj) × (List Bh) × (List A3) × Int × Int × (List Bool) × (List Ae) × (List Int) × (List Am) × (List Ap)
abbrev Sg8 := Int × (List Aj) × (List Bh) × (List A3) × Int × Int × (List Int) × (List Bool) × (List Ae) × (List Int) × (List Am) × (List Ap)
abbrev Sg9 := Int × Int × (List Int) × Int × (List Aj) × (List Bh) × (List A3) × Int × Int
abbrev Aal := Int × Int × (List Aj) × (List Bh) × (List A3) × Int × Int × (List Bool) × (List Ae) × (List Int) × (List Am) × (List A0) × (List Bg) × (List Bool) × (List Bg) × (List Ab) × (List Int)
abbrev G8 := Int × Int × (List Aj) × (List Bh) × (List A3) × Int × Int × (List Bool) × (List Ae) × (List Int) × (List Am) × (List A0) × (List Bg) × (List Bg) × (List Ab)
abbrev Aak := Int × Int × (List Aj) × (List Bh) × (List A3) × Int × Int × (List A0) × (List Bool) × (List Ae) × (List Int) × (List Am) × (List A0) × (List Bg) × (List Bg) × (List Ab)
abbrev Y7 := Aa × Bd × Az × Ah
def F8 (x0 : List Int) : Option Ah :=
 (cutI x0 0 (min (x0.length : Int) 600)).bind λ y2 => some (⟨y2, 0⟩ : Ah)
def F80 (x0 : Int) (x1 : Int) : Option Int :=
 bif decide (x1 < 1) then some 0 else (nzI x1).bind λ u3 => (nzI x1).bind λ u5 => some (Int.tmod (w64 ((Int.tmod x0 x1) + x1)) x1)
def F32 (x0 : Ah) (x1 : Int) : Option (Int × Ah) :=
 bif decide (x0.At >= (x0.L.length : Int)) then some (0, x0) else (getI x0.L (w64 ((w64 (x0.At + 1)) - 1))).bind λ y2 => (F80 y2 x1).bind λ y4 => some (y4, (⟨x0.L, w64 (x0.At + 1)⟩ : Ah))
def F78 (x0 : Ah) (x1 : Int) (x2 : Int) : Option (Int × Ah) :=
 (F32 x0 (w64 ((w64 (x2 - x1)) + 1))).bind λ y1 => some (w64 (x1 + y1.1), y1.2)
def F40 (x0 : Ah) (x1 : List Int) : Option (Int × Ah) :=
 (F32 x0 (x1.length : Int)).bind λ y1 => (getI x1 y1.1).bind λ y3 => some (y3, y1.2)
def vJ (y1 : Int × Ah) (z0 : Sg2) : Option (Ctl (Sg2) Unit) :=
 bif decide (z0.1 < y1.1) then (F32 (⟨z0.2.1, z0.2.2.1⟩ : Ah) 6).bind λ y8 => bif decide (y8.1 < 5) then (F32 y8.2 z0.1).bind λ y11 => (appI 25 z0.2.2.2 [(⟨1, y11.1, z0.1⟩ : Aj)]).bind λ y13 => some (.next (w64 (z0.1 + 1), y11.2.L, y11.2.At, y13)) else some (.next (w64 (z0.1 + 1), y8.2.L, y8.2.At, z0.2.2.2)) else some (.brk (z0.1, z0.2.1, z0.2.2.1, z0.2.2.2))
def Ak8 (y1 : Int × Ah) (z0 : Sg2) (y15 : Int × Ah) : Option (Ctl ((List Aj)) Unit) :=
 bif ((decide (y1.1 > 2)) && (y15.1 == 1)) then (appI 25 z0.2.2.2 [(⟨1, 0, w64 (y1.1 - 1)⟩ : Aj)]).bind λ y18 => some (.next y18) else some (.next z0.2.2.2)
def vI (y1 : Int × Ah) (z2 : Sg4) : Option (Ctl (Sg4) Unit) :=
 bif decide (z2.1 > 0) then (F32 (⟨z2.2.1, z2.2.2.1⟩ : Ah) y1.1).bind λ y23 => (appI 25 z2.2.2.2.1 [(⟨2, y23.1, (z2.2.2.2.2.length : Int)⟩ : Aj)]).bind λ y25 => (F40 y23.2 [10, 50, 100]).bind λ y27 => (F40 y27.2 [0, 5, y27.1]).bind λ y29 => (F40 y29.2 [0, 1, 3]).bind λ y31 => (appI 25 z2.2.2.2.2 [(⟨y27.1, y29.1, y31.1⟩ : Bh)]).bind λ y33 => some (.next (w64 (z2.1 - 1), y31.2.L, y31.2.At, y25, y33)) else some (.brk (z2.1, z2.2.1, z2.2.2.1, z2.2.2.2.1, z2.2.2.2.2))
def Ak7 (y1 : Int × Ah) (z3 : Sg3) (y38 : Int × Ah) (y40 : List Aj) (y42 : Int × Ah) : Option (Ctl ((List Aj)) Unit) :=
 bif ((decide (y1.1 > 1)) && (y42.1 == 3)) then (nzI y1.1).bind λ u46 => (appI 25 y40 [(⟨3, Int.tmod (w64 (y38.1 + 1)) y1.1, (z3.2.2.2.2.length : Int)⟩ : Aj)]).bind λ y47 => some (.next y47) else some (.next y40)
def A1x (z3 : Sg3) (y57 : Int × Ah) : Bool := ((decide ((z3.2.2.2.2.length : Int) > 0)) && (y57.1 == 3))
def vH (y1 : Int × Ah) (z3 : Sg3) : Option (Ctl (Sg3) Unit) :=
 bif decide (z3.1 > 0) then (F32 (⟨z3.2.1, z3.2.2.1⟩ : Ah) y1.1).bind λ y38 => (appI 25 z3.2.2.2.1 [(⟨3, y38.1, (z3.2.2.2.2.length : Int)⟩ : Aj)]).bind λ y40 => (A4 [(decide (y1.1 > 1), true)] (F32 y38.2 4) (default, y38.2)).bind λ y42 => andThen (Ak7 y1 z3 y38 y40 y42) (λ _ => none) λ z4 => (F40 y42.2 [0, 5, 20, 40]).bind λ y49 => (F40 y49.2 [0, w64 (Int.tdiv y49.1 2), y49.1]).bind λ y51 => (F32 y51.2 3).bind λ y53 => (F78 y53.2 (-1) 2).bind λ y55 => (A4 [(decide ((z3.2.2.2.2.length : Int) > 0), true)] (F32 y55.2 4) (default, y55.2)).bind λ y57 => bif (A1x z3 y57) then (F32 y57.2 (z3.2.2.2.2.length : Int)).bind λ y60 => (appI 57 z3.2.2.2.2 [(⟨y49.1, y51.1, y53.1, y55.1, [y60.1]⟩ : A3)]).bind λ y62 => some (.next (w64 (z3.1 - 1), y60.2.L, y60.2.At, z4, y62)) else (appI 57 z3.2.2.2.2 [(⟨y49.1, y51.1, y53.1, y55.1, ([] : List Int)⟩ : A3)]).bind λ y64 => some (.next (w64 (z3.1 - 1), y57.2.L, y57.2.At, z4, y64)) else some (.brk (z3.1, z3.2.1, z3.2.2.1, z3.2.2.2.1, z3.2.2.2.2))
def F29 (x0 : Ah) : Option (Aa × Ah) :=
 (F78 x0 1 4).bind λ y1 => (F40 y1.2 [0, 50, 200, 1800]).bind λ y3 => (F40 y3.2 [0, 10, 50]).bind λ y5 => andThen (whileN (vJ y1) 1152921504606846976 (1, y5.2.L, y5.2.At, ([] : List Aj))) (λ _ => none) λ z0 => (A4 [(decide (y1.1 > 2), true)] (F32 (⟨z0.2.1, z0.2.2.1⟩ : Ah) 2) (default, (⟨z0.2.1, z0.2.2.1⟩ : Ah))).bind λ y15 => andThen (Ak8 y1 z0 y15) (λ _ => none) λ z1 => (F32 y15.2 5).bind λ y20 => andThen (whileN (vI y1) 1152921504606846976 (y20.1, y20.2.L, y20.2.At, z1, ([] : List Bh))) (λ _ => none) λ z2 => (F32 (⟨z2.2.1, z2.2.2.1⟩ : Ah) 6).bind λ y35 => andThen (whileN (vH y1) 1152921504606846976 (y35.1, y35.2.L, y35.2.At, z2.2.2.2.1, ([] : List A3))) (λ _ => none) λ z3 => some ((⟨y1.1, z3.2.2.2.1, z2.2.2.2.2, z3.2.2.2.2, y3.1, y5.1⟩ : Aa), (⟨z3.2.1, z3.2.2.1⟩ : Ah))
def F30 (x0 : Ah) : Option (Bd × Ah) :=
 (F40 x0 [60, 80, 100]).bind λ y1 => (F40 y1.2 [1, 30, 50]).bind λ y3 => (F40 y3.2 [0, 1, 3]).bind λ y5 => some ((⟨y1.1, y3.1, y5.1⟩ : Bd), y5.2)
def B5 (x0 : Int) (x1 : Int) (x2 : Int) : Bool :=
 ((decide (x0 >= x1)) && (decide (x0 <= x2)))
def F71 (x0 : Aa) (x1 : Am) : Bool :=
 bif (x1.Kind == 1) then B5 x1.Number 0 (w64 ((x0.Ac.length : Int) - 1)) else bif (x1.Kind == 2) then B5 x1.Number 0 (w64 ((x0.Ad.length : Int) - 1)) else bif (x1.Kind == 3) then B5 x1.Number 0 (w64 (x0.Al - 1)) else bif (x1.Kind == 4) then B5 x1.Number 0 (w64 ((x0.Af.length : Int) - 1)) else false
def Ai5 (x1 : Aa) (z0 : Int × (List Int) × Int × (List Bool)) : Bool := decide (z0.1 < (x1.Ad.length : Int))
def O0 (x1 : Aa) (z0 : Int × (List Int) × Int × (List Bool)) : Option (Ctl (Int × (List Int) × Int × (List Bool)) Unit) :=
 bif (Ai5 x1 z0) then (F32 (⟨z0.2.1, z0.2.2.1⟩ : Ah) 2).bind λ y2 => (appI 2 z0.2.2.2 [(y2.1 == 1)]).bind λ y4 => some (.next (w64 (z0.1 + 1), y2.2.L, y2.2.At, y4)) else some (.brk (z0.1, z0.2.1, z0.2.2.1, z0.2.2.2))
def Ai4 (x1 : Aa) (z1 : Int × (List Bool)) : Bool := decide (z1.1 < (x1.Af.length : Int))
def Adf (z1 : Int × (List Bool)) (a2 : Aj) (y7 : Bool) : Bool := (((a2.Kind == 3) && (a2.B == z1.1)) && y7)
def Oy (z1 : Int × (List Bool)) (n2 : Nat) (a2 : Aj) (z2 : Bool × (List Bool)) : Option (Ctl (Bool × (List Bool)) Unit) :=
 (A4 [(((a2.Kind == 3) && (a2.B == z1.1)), true)] (getI z2.2 (cnt 0 n2)) default).bind λ y7 => bif (Adf z1 a2 y7) then (getI z2.2 (cnt 0 n2)).bind λ y10 => (setI z2.2 (cnt 0 n2) z2.1).bind λ y12 => some (.next (false, y12)) else some (.next (z2.1, z2.2))
def Oz (x1 : Aa) (z1 : Int × (List Bool)) : Option (Ctl (Int × (List Bool)) Unit) :=
 bif (Ai4 x1 z1) then andThen (foldI (Oy z1) x1.Ad 0 (true, z1.2)) (λ _ => none) λ z2 => some (.next (w64 (z1.1 + 1), z2.2)) else some (.brk (z1.1, z1.2))
def Ade (x1 : Aa) (z3 : Sg6) : Bool := decide (z3.1 < (x1.Ac.length : Int))
def Ox (x1 : Aa) (z3 : Sg6) : Option (Ctl (Sg6) Unit) :=
 bif (Ade x1 z3) then (F40 (⟨z3.2.1, z3.2.2.1⟩ : Ah) [0, 1, 2, 2, 2, 3]).bind λ y15 => (F32 y15.2 5).bind λ y17 => (F40 y17.2 [5000, 5000, 5005, 4950]).bind λ y19 => (F40 y19.2 [0, 0, 40, 1800, 3590]).bind λ y21 => (appI 33 z3.2.2.2 [(⟨y15.1, y17.1, y19.1, y21.1⟩ : Ae)]).bind λ y23 => some (.next (w64 (z3.1 + 1), y21.2.L, y21.2.At, y23)) else some (.brk (z3.1, z3.2.1, z3.2.2.1, z3.2.2.2))
def Ow (n4 : Nat) (a4 : A3) (z4 : (List Int) × Int × (List Int)) : Option (Ctl ((List Int) × Int × (List Int)) Unit) :=
 (F40 (⟨z4.1, z4.2.1⟩ : Ah) [a4.Load, a4.Load, a4.Least, w64 (Int.tdiv a4.Load 3)]).bind λ y25 => (appI 9 z4.2.2 [y25.1]).bind λ y27 => some (.next (y25.2.L, y25.2.At, y27))
def Ov (x1 : Aa) (z5 : Int × (List Int) × Int × (List Am)) : Option (Ctl (Int × (List Int) × Int × (List Am)) Unit) :=
 bif decide (z5.1 <= 4) then (F32 (⟨z5.2.1, z5.2.2.1⟩ : Ah) 5).bind λ y30 => bif (y30.1 == 4) then (F32 y30.2 4).bind λ y33 => bif F71 x1 (⟨z5.1, y33.1⟩ : Am) then (appI 17 z5.2.2.2 [(⟨z5.1, y33.1⟩ : Am)]).bind λ y36 => some (.next (w64 (z5.1 + 1), y33.2.L, y33.2.At, y36)) else some (.next (w64 (z5.1 + 1), y33.2.L, y33.2.At, z5.2.2.2)) else some (.next (w64 (z5.1 + 1), y30.2.L, y30.2.At, z5.2.2.2)) else some (.brk (z5.1, z5.2.1, z5.2.2.1, z5.2.2.2))
def Vv (x0 : Ah) (x1 : Aa) : Option (Ab × Ah) :=
 andThen (whileN (O0 x1) 1152921504606846976 (0, x0.L, x0.At, ([] : List Bool))) (λ _ => none) λ z0 => andThen (whileN (Oz x1) 1152921504606846976 (0, z0.2.2.2)) (λ _ => none) λ z1 => andThen (whileN (Ox x1) 1152921504606846976 (0, z0.2.1, z0.2.2.1, ([] : List Ae))) (λ _ => none) λ z3 => andThen (foldI Ow x1.Af 0 (z3.2.1, z3.2.2.1, ([] : List Int))) (λ _ => none) λ z4 => andThen (whileN (Ov x1) 7 (1, z4.1, z4.2.1, ([] : List Am))) (λ _ => none) λ z5 => some ((⟨z1.2, z3.2.2.2, z4.2.2, z5.2.2.2⟩ : Ab), (⟨z5.2.1, z5.2.2.1⟩ : Ah))
def L8 (x1 : Int) (x2 : Int) (a0 : Aj) : Bool := ((a0.Kind == x1) && ((a0.B == x2) || ((x1 == 1) && (a0.A == x2))))
def Akr (x1 : Int) (x2 : Int) (n0 : Nat) (a0 : Aj) (z0 : (List Int)) : Option (Ctl ((List Int)) Unit) :=
 bif (L8 x1 x2 a0) then (appI 9 z0 [cnt 0 n0]).bind λ y2 => some (.next y2) else some (.next z0)
def F77 (x0 : Aa) (x1 : Int) (x2 : Int) : Option ((List Int)) :=
 andThen (foldI (Akr x1 x2) x0.Ad 0 ([] : List Int)) (λ _ => none) λ z0 => some z0
def Awm (x0 : Aa) (a0 : Aj) : Bool := !(B5 a0.B (w64 (a0.A + 1)) (w64 (x0.Al - 1)))
def Awl (x0 : Aa) (a0 : Aj) : Bool := !(B5 a0.B 0 (w64 ((x0.Ac.length : Int) - 1)))
def Awk (x0 : Aa) (a0 : Aj) : Bool := !(B5 a0.B 0 (w64 ((x0.Af.length : Int) - 1)))
def Aiw (a0 : Aj) (a1 : Aj) : Bool := ((a1.Kind == a0.Kind) && ((a1.A == a0.A) && ((a1.B == a0.B) && true)))
def Xi (a0 : Aj) (n1 : Nat) (a1 : Aj) (z1 : Unit) : Option (Ctl Unit Bool) :=
 bif (Aiw a0 a1) then some (.ret false) else some (.next ())
def Aa3 (x0 : Aa) (n0 : Nat) (a0 : Aj) (z0 : Unit) : Option (Ctl Unit Bool) :=
 bif !(B5 a0.A 0 (w64 (x0.Al - 1))) then some (.ret false) else bif (a0.Kind == 1) then bif (Awm x0 a0) then some (.ret false) else some (.next ()) else bif (a0.Kind == 2) then bif (Awl x0 a0) then some (.ret false) else some (.next ()) else bif (a0.Kind == 3) then bif (Awk x0 a0) then some (.ret false) else (cutI x0.Ad 0 (cnt 0 n0)).bind λ y9 => andThen (foldI (Xi a0) y9 0 ()) (λ v => some (.ret v)) λ z1 => some (.next ()) else some (.ret false)
def Aon (x0 : Aa) (z2 : Int) : Bool := decide (z2 < (x0.Ac.length : Int))
def Aa2 (x0 : Aa) (z2 : Int) : Option (Ctl Int Bool) :=
 bif (Aon x0 z2) then (F77 x0 2 z2).bind λ y12 => bif ((y12.length : Int) != 1) then some (.ret false) else some (.next (w64 (z2 + 1))) else some (.brk z2)
def Aom (x0 : Aa) (z3 : Int) : Bool := decide (z3 < (x0.Af.length : Int))
def Aa1 (x0 : Aa) (z3 : Int) : Option (Ctl Int Bool) :=
 bif (Aom x0 z3) then (F77 x0 3 z3).bind λ y16 => bif decide ((y16.length : Int) < 1) then some (.ret false) else some (.next (w64 (z3 + 1))) else some (.brk z3)
def Alo (x0 : Aa) : Option Bool :=
 andThen (foldI (Aa3 x0) x0.Ad 0 ()) some λ z0 => andThen (whileN (Aa2 x0) 1152921504606846976 0) some λ z2 => andThen (whileN (Aa1 x0) 1152921504606846976 0) some λ z3 => some true
def Awj (a0 : Bh) : Bool := (((!(B5 a0.Rating 1 50000)) || (!(B5 a0.Least 0 a0.Rating))) || (!(B5 a0.Start 0 600)))
def Aa0 (n0 : Nat) (a0 : Bh) (z0 : Unit) : Option (Ctl Unit Bool) :=
 bif (Awj a0) then some (.ret false) else some (.next ())
def Aln (x0 : Aa) : Option Bool :=
 andThen (foldI Aa0 x0.Ac 0 ()) some λ z0 => some true
def Awi (a0 : A3) : Bool := (((((!(B5 a0.Load 0 50000)) || (!(B5 a0.Least 0 a0.Load))) || (!(B5 a0.B4 0 15))) || (!(B5 a0.Thruster (-1) 7))) || (decide ((a0.Needs.length : Int) > 4)))
def Awh (n0 : Nat) (n1 : Nat) (a1 : Int) (y2 : Int) : Bool := ((!(B5 a1 0 (w64 ((cnt 0 n0) - 1)))) || ((decide ((cnt 0 n1) > 0)) && (decide (y2 >= a1))))
def Aay (n0 : Nat) (a0 : A3) (n1 : Nat) (a1 : Int) (z1 : Unit) : Option (Ctl Unit Bool) :=
 (A4 [(!(B5 a1 0 (w64 ((cnt 0 n0) - 1))), false), (decide ((cnt 0 n1) > 0), true)] (getI a0.Needs (w64 ((cnt 0 n1) - 1))) default).bind λ y2 => bif (Awh n0 n1 a1 y2) then some (.ret false) else some (.next ())
def Aaz (n0 : Nat) (a0 : A3) (z0 : Unit) : Option (Ctl Unit Bool) :=
 bif (Awi a0) then some (.ret false) else andThen (foldI (Aay n0 a0) a0.Needs 0 ()) (λ v => some (.ret v)) λ z1 => some (.next ())
def Alm (x0 : Aa) : Option Bool :=
 andThen (foldI Aaz x0.Af 0 ()) some λ z0 => some true
def Ai8 (x0 : Aa) : Bool := (((((decide (x0.Al < 1)) || (decide (x0.Al > 6))) || (decide ((x0.Ad.length : Int) > 24))) || (decide ((x0.Ac.length : Int) > 8))) || (decide ((x0.Af.length : Int) > 16)))
def Ai7 (x0 : Aa) (y2 : Bool) (y4 : Bool) (y6 : Bool) : Bool := (((((((!y2) || (!y4)) || (!y6)) || (decide (x0.Phase < 0))) || (decide (x0.Phase > 1800))) || (decide (x0.An < 0))) || (decide (x0.An > 6000)))
def Aly (x0 : Aa) : Option Int :=
 bif (Ai8 x0) then some 2 else (Alo x0).bind λ y2 => (A4 [(!y2, false)] (Aln x0) default).bind λ y4 => (A4 [(((!y2) || (!y4)), false)] (Alm x0) default).bind λ y6 => bif (Ai7 x0 y2 y4 y6) then some 14 else some 0
def Abj (x0 : Am) (x1 : Am) : Bool :=
 ((decide (x0.Kind < x1.Kind)) || ((x0.Kind == x1.Kind) && (decide (x0.Number < x1.Number))))
def A1v (x0 : Aa) (x1 : Ab) : Bool := ((((x1.Ag.length : Int) != (x0.Ad.length : Int)) || ((x1.Ac.length : Int) != (x0.Ac.length : Int))) || ((x1.Aq.length : Int) != (x0.Af.length : Int)))
def A1u (a0 : Ae) : Bool := ((((!(B5 a0.State 0 3)) || (!(B5 a0.Since 0 2147483648))) || (!(B5 a0.An 0 6000))) || (!(B5 a0.Phase 0 3599)))
def Akz (n0 : Nat) (a0 : Ae) (z0 : Unit) : Option (Ctl Unit Int) :=
 bif (A1u a0) then some (.ret 11) else some (.next ())
def Aky (x0 : Aa) (n1 : Nat) (a1 : Int) (z1 : Unit) : Option (Ctl Unit Int) :=
 (getI x0.Af (cnt 0 n1)).bind λ y6 => bif !(B5 a1 0 y6.Load) then some (.ret 11) else some (.next ())
def A1t (x0 : Aa) (n2 : Nat) (a2 : Am) (y10 : Am) : Bool := ((!(F71 x0 a2)) || ((decide ((cnt 0 n2) > 0)) && (!(Abj y10 a2))))
def Akx (x0 : Aa) (x1 : Ab) (n2 : Nat) (a2 : Am) (z2 : Unit) : Option (Ctl Unit Int) :=
 (A4 [(!(F71 x0 a2), false), (decide ((cnt 0 n2) > 0), true)] (getI x1.Ao (w64 ((cnt 0 n2) - 1))) default).bind λ y10 => bif (A1t x0 n2 a2 y10) then some (.ret 11) else some (.next ())
def A1s (x0 : Aa) (z3 : Int) : Bool := decide (z3 < (x0.Af.length : Int))
def Akv (x1 : Ab) (n4 : Nat) (a4 : Int) (z4 : Int) : Option (Ctl Int Unit) :=
 (getI x1.Ag a4).bind λ y16 => bif y16 then some (.next (w64 (z4 + 1))) else some (.next z4)
def Akw (x0 : Aa) (x1 : Ab) (z3 : Int) : Option (Ctl Int Int) :=
 bif (A1s x0 z3) then (F77 x0 3 z3).bind λ y14 => andThen (foldI (Akv x1) y14 0 0) (λ _ => none) λ z4 => bif decide (z4 > 1) then some (.ret 11) else some (.next (w64 (z3 + 1))) else some (.brk z3)
def F53 (x0 : Aa) (x1 : Ab) : Option Int :=
 (Aly x0).bind λ y1 => bif (y1 != 0) then some y1 else bif (A1v x0 x1) then some 8 else andThen (foldI Akz x1.Ac 0 ()) some λ z0 => andThen (foldI (Aky x0) x1.Aq 0 ()) some λ z1 => bif decide ((x1.Ao.length : Int) > 32) then some 11 else andThen (foldI (Akx x0 x1) x1.Ao 0 ()) some λ z2 => andThen (whileN (Akw x0 x1) 1152921504606846976 0) some λ z3 => some 0
def F65 (x0 : Ab) : Option Ab :=
 (appI 2 ([] : List Bool) x0.Ag).bind λ y1 => (appI 33 ([] : List Ae) x0.Ac).bind λ y3 => (appI 9 ([] : List Int) x0.Aq).bind λ y5 => (appI 17 ([] : List Am) x0.Ao).bind λ y7 => some (⟨y1, y3, y5, y7⟩ : Ab)
def Ul (a1 : Aj) (y7 : Bool) (y9 : Bool) (y11 : Bool) : Bool := (((a1.Kind == 1) && y7) && (y9 || y11))
def Abh (x1 : Ab) (n1 : Nat) (a1 : Aj) (z1 : (List Bool)) : Option (Ctl ((List Bool)) Unit) :=
 (A4 [((a1.Kind == 1), true)] (getI x1.Ag (cnt 0 n1)) default).bind λ y7 => (A4 [(((a1.Kind == 1) && y7), true)] (getI z1 a1.A) default).bind λ y9 => (A4 [(((a1.Kind == 1) && y7), true), (y9, false)] (getI z1 a1.B) default).bind λ y11 => bif (Ul a1 y7 y9 y11) then (getI z1 a1.A).bind λ y14 => (setI z1 a1.A true).bind λ y16 => (getI y16 a1.B).bind λ y18 => (setI y16 a1.B true).bind λ y20 => some (.next y20) else some (.next z1)
def Abi (x0 : Aa) (x1 : Ab) (n0 : Nat) (a0 : Bool) (z0 : (List Bool)) : Option (Ctl ((List Bool)) Unit) :=
 andThen (foldI (Abh x1) x0.Ad 0 z0) (λ _ => none) λ z1 => some (.next z1)
def Abg (n2 : Nat) (a2 : Bool) (z2 : (List Int)) : Option (Ctl ((List Int)) Unit) :=
 bif a2 then (appI 9 z2 [cnt 0 n2]).bind λ y23 => some (.next y23) else some (.next z2)
def Alx (x0 : Aa) (x1 : Ab) (x2 : Int) : Option ((List Int)) :=
 (mkI 2 x0.Al false).bind λ y1 => (getI y1 x2).bind λ y3 => (setI y1 x2 true).bind λ y5 => andThen (foldI (Abi x0 x1) y5 0 y5) (λ _ => none) λ z0 => andThen (foldI Abg z0 0 ([] : List Int)) (λ _ => none) λ z2 => some z2
def Afa (x0 : Aa) (x2 : Int) (y1 : Int) (y3 : Ae) : Bool := ((((y1 != 0) || (decide (x2 < 0))) || (decide (x2 >= (x0.Ac.length : Int)))) || (y3.State != 2))
def F27 (x0 : Aa) (x1 : Ab) (x2 : Int) : Option (Int × Bool) :=
 (F53 x0 x1).bind λ y1 => (A4 [((((y1 != 0) || (decide (x2 < 0))) || (decide (x2 >= (x0.Ac.length : Int)))), false)] (getI x1.Ac x2) default).bind λ y3 => bif (Afa x0 x2 y1 y3) then some (0, false) else (F77 x0 2 x2).bind λ y6 => (getI y6 0).bind λ y8 => (getI x1.Ag y8).bind λ y10 => bif !y10 then some (0, false) else (getI x0.Ad y8).bind λ y13 => some (y13.A, true)
def vE (x1 : Int) (n0 : Nat) (a0 : Int) (z0 : Unit) : Option (Ctl Unit Bool) :=
 bif (a0 == x1) then some (.ret true) else some (.next ())
def F55 (x0 : List Int) (x1 : Int) : Option Bool :=
 andThen (foldI (vE x1) x0 0 ()) some λ z0 => some false
def A1w (x0 : Aa) (x2 : Int) (y1 : Int) : Bool := (((y1 != 0) || (decide (x2 < 0))) || (decide (x2 >= (x0.Af.length : Int))))
def vF (x0 : Aa) (x1 : Ab) (n0 : Nat) (a0 : Int) (z0 : Unit) : Option (Ctl Unit (Int × Bool)) :=
 (getI x1.Ag a0).bind λ y6 => bif y6 then (getI x0.Ad a0).bind λ y9 => some (.ret (y9.A, true)) else some (.next ())
def F48 (x0 : Aa) (x1 : Ab) (x2 : Int) : Option (Int × Bool) :=
 (F53 x0 x1).bind λ y1 => bif (A1w x0 x2 y1) then some (0, false) else (F77 x0 3 x2).bind λ y4 => andThen (foldI (vF x0 x1) y4 0 ()) some λ z0 => some (0, false)
def A1r (x0 : Aa) (x2 : Int) (y1 : Int) : Bool := (((y1 != 0) || (decide (x2 < 0))) || (decide (x2 >= x0.Al)))
def A1q (x0 : Aa) (z0 : Int × (List Int)) : Bool := decide (z0.1 < (x0.Ac.length : Int))
def Aku (x0 : Aa) (x1 : Ab) (y4 : (List Int)) (z0 : Int × (List Int)) : Option (Ctl (Int × (List Int)) Unit) :=
 bif (A1q x0 z0) then (F27 x0 x1 z0.1).bind λ y7 => (A4 [(y7.2, true)] (F55 y4 y7.1) default).bind λ y9 => bif (y7.2 && y9) then (appI 9 z0.2 [z0.1]).bind λ y12 => some (.next (w64 (z0.1 + 1), y12)) else some (.next (w64 (z0.1 + 1), z0.2)) else some (.brk (z0.1, z0.2))
def A1p (x0 : Aa) (z1 : Int × (List Int)) : Bool := decide (z1.1 < (x0.Af.length : Int))
def Akt (x0 : Aa) (x1 : Ab) (y4 : (List Int)) (z1 : Int × (List Int)) : Option (Ctl (Int × (List Int)) Unit) :=
 bif (A1p x0 z1) then (F48 x0 x1 z1.1).bind λ y15 => (A4 [(y15.2, true)] (F55 y4 y15.1) default).bind λ y17 => bif (y15.2 && y17) then (appI 9 z1.2 [z1.1]).bind λ y20 => some (.next (w64 (z1.1 + 1), y20)) else some (.next (w64 (z1.1 + 1), z1.2)) else some (.brk (z1.1, z1.2))
def F54 (x0 : Aa) (x1 : Ab) (x2 : Int) : Option (Ai × Bool) :=
 (F53 x0 x1).bind λ y1 => bif (A1r x0 x2 y1) then some ((⟨([] : List Int), ([] : List Int), ([] : List Int)⟩ : Ai), false) else (Alx x0 x1 x2).bind λ y4 => andThen (whileN (Aku x0 x1 y4) 1152921504606846976 (0, ([] : List Int))) (λ _ => none) λ z0 => andThen (whileN (Akt x0 x1 y4) 1152921504606846976 (0, ([] : List Int))) (λ _ => none) λ z1 => some ((⟨y4, z0.2, z1.2⟩ : Ai), true)
def Ak9 (x0 : Aa) (x1 : Ab) (z0 : Int × (List Ai)) : Option (Ctl (Int × (List Ai)) Unit) :=
 bif decide (z0.1 < x0.Al) then (F54 x0 x1 z0.1).bind λ y5 => (getI y5.1.Al 0).bind λ y7 => bif (y7 == z0.1) then (appI 73 z0.2 [y5.1]).bind λ y10 => some (.next (w64 (z0.1 + 1), y10)) else some (.next (w64 (z0.1 + 1), z0.2)) else some (.brk (z0.1, z0.2))
def F25 (x0 : Aa) (x1 : Ab) : Option ((List Ai)) :=
 (F53 x0 x1).bind λ y1 => bif (y1 != 0) then some ([] : List Ai) else andThen (whileN (Ak9 x0 x1) 1152921504606846976 (0, ([] : List Ai))) (λ _ => none) λ z0 => some z0.2
def Abe (x1 : Ab) (a0 : Ai) (n1 : Nat) (a1 : Int) (z1 : (List Ae)) : Option (Ctl ((List Ae)) Unit) :=
 (getI a0.Ac 0).bind λ y5 => (getI x1.Ac y5).bind λ y7 => (getI a0.Ac 0).bind λ y9 => (getI x1.Ac y9).bind λ y11 => (getI z1 a1).bind λ y13 => (setI z1 a1 (⟨y13.State, y13.Since, y7.An, y13.Phase⟩ : Ae)).bind λ y15 => (getI y15 a1).bind λ y17 => (setI y15 a1 (⟨y17.State, y17.Since, y17.An, y11.Phase⟩ : Ae)).bind λ y19 => some (.next y19)
def Abf (x1 : Ab) (n0 : Nat) (a0 : Ai) (z0 : (List Ae)) : Option (Ctl ((List Ae)) Unit) :=
 andThen (foldI (Abe x1 a0) a0.Ac 0 z0) (λ _ => none) λ z1 => some (.next z1)
def As6 (x0 : Aa) (x1 : Ab) : Option Ab :=
 (F65 x1).bind λ y1 => (F25 x0 x1).bind λ y3 => andThen (foldI (Abf x1) y3 0 y1.Ac) (λ _ => none) λ z0 => some (⟨y1.Ag, z0, y1.Aq, y1.Ao⟩ : Ab)
def Alu (x0 : Aa) (x1 : Ab) : Option (Ab × Int) :=
 (F53 x0 x1).bind λ y1 => bif (y1 != 0) then some ((⟨([] : List Bool), ([] : List Ae), ([] : List Int), ([] : List Am)⟩ : Ab), y1) else (As6 x0 x1).bind λ y4 => some (y4, 0)
def vC (x0 : Ah) (x1 : Aa) : Option (Ab × Ah) :=
 (Vv x0 x1).bind λ y1 => (Alu x1 y1.1).bind λ y3 => some (y3.1, y1.2)
def Zx (x1 : Aa) (z0 : Sg5) : Option (Ctl (Sg5) Unit) :=
 bif decide (z0.1 < x1.Al) then (F78 (⟨z0.2.1, z0.2.2.1⟩ : Ah) (-1) 4).bind λ y6 => (F78 y6.2 (-1) 4).bind λ y8 => (appI 17 z0.2.2.2 [(⟨y6.1, y8.1⟩ : A0)]).bind λ y10 => some (.next (w64 (z0.1 + 1), y8.2.L, y8.2.At, y10)) else some (.brk (z0.1, z0.2.1, z0.2.2.1, z0.2.2.2))
def vG (x0 : Ah) (x1 : Aa) : Option (Az × Ah) :=
 (F78 x0 5 20).bind λ y1 => (vC y1.2 x1).bind λ y3 => andThen (whileN (Zx x1) 1152921504606846976 (0, y3.2.L, y3.2.At, ([] : List A0))) (λ _ => none) λ z0 => some ((⟨y1.1, y3.1, z0.2.2.2, ([] : List Bg)⟩ : Az), (⟨z0.2.1, z0.2.2.1⟩ : Ah))
def F9 (x0 : Ah) : Option (Y7) :=
 (F29 x0).bind λ y1 => (F30 y1.2).bind λ y3 => (vG y3.2 y1.1).bind λ y5 => some (y1.1, y3.1, y5.1, y5.2)
def F99 (x0 : Int) (x1 : Int) (x2 : Int) : Bool :=
 ((decide (x0 >= x1)) && (decide (x0 <= x2)))
def Apu (x1 : Int) (n0 : Nat) (a0 : Int) (z0 : Unit) : Option (Ctl Unit Int) :=
 bif (x1 == a0) then some (.ret (cnt 0 n0)) else some (.next ())
def Asw (x0 : List Int) (x1 : Int) : Option Int :=
 andThen (foldI (Apu x1) x0 0 ()) some λ z0 => some (-1)
def Np (x0 : List Int) (x1 : Int) : Option Bool :=
 (Asw x0 x1).bind λ y1 => some (decide (y1 >= 0))
def A0u (x0 : List Int) : Bool :=
 ((x0.length : Int) == 0)
def Aek (n0 : Nat) (a0 : List Int) (z0 : Unit) : Option (Ctl Unit Int) :=
 bif A0u a0 then some (.ret (cnt 0 n0)) else some (.next ())
def vO (x0 : List (List Int)) : Option Int :=
 andThen (foldI Aek x0 0 ()) some λ z0 => some (-1)
def Vm (x0 : List (List Int)) : Option Bool :=
 (vO x0).bind λ y1 => some (decide (y1 >= 0))
def Aiz (x0 : Aa) (a0 : Aj) : Bool := ((a0.Kind == 1) && (F99 a0.B (w64 (a0.A + 1)) (w64 (x0.Al - 1))))
def Aiy (z0 : (List Int) × (List (List Int))) (a0 : Aj) (y7 : Int) : Bool := (((a0.Kind == 2) && (F99 a0.B 0 (w64 ((z0.1.length : Int) - 1)))) && (y7 == 0))
def Awo (z0 : (List Int) × (List (List Int))) (a0 : Aj) (y16 : Bool) : Bool := (((a0.Kind == 3) && (F99 a0.B 0 (w64 ((z0.2.length : Int) - 1)))) && (!y16))
def Aba (x0 : Aa) (n0 : Nat) (a0 : Aj) (z0 : (List Int) × (List (List Int))) : Option (Ctl ((List Int) × (List (List Int))) Bool) :=
 bif !(F99 a0.A 0 (w64 (x0.Al - 1))) then some (.ret false) else bif (Aiz x0 a0) then some (.next (z0.1, z0.2)) else (A4 [(((a0.Kind == 2) && (F99 a0.B 0 (w64 ((z0.1.length : Int) - 1)))), true)] (getI z0.1 a0.B) default).bind λ y7 => bif (Aiy z0 a0 y7) then (getI z0.1 a0.B).bind λ y10 => (setI z0.1 a0.B (w64 (y10 + 1))).bind λ y12 => some (.next (y12, z0.2)) else (A4 [(((a0.Kind == 3) && (F99 a0.B 0 (w64 ((z0.2.length : Int) - 1)))), true)] (getI z0.2 a0.B) default).bind λ y14 => (A4 [(((a0.Kind == 3) && (F99 a0.B 0 (w64 ((z0.2.length : Int) - 1)))), true)] (Np y14 a0.A) default).bind λ y16 => bif (Awo z0 a0 y16) then (getI z0.2 a0.B).bind λ y19 => (appI 9 y19 [a0.A]).bind λ y21 => (setI z0.2 a0.B y21).bind λ y23 => some (.next (z0.1, y23)) else some (.ret false)
def Alt (x0 : Aa) : Option Bool :=
 (mkI 9 (x0.Ac.length : Int) 0).bind λ y1 => (mkI 25 (x0.Af.length : Int) ([] : List Int)).bind λ y3 => andThen (foldI (Aba x0) x0.Ad 0 (y1, y3)) some λ z0 => (Np z0.1 0).bind λ y27 => (A4 [(!y27, true)] (Vm z0.2) default).bind λ y29 => some ((!y27) && (!y29))
def Aa9 (x0 : Bh) : Bool :=
 (((F99 x0.Rating 1 50000) && (F99 x0.Least 0 x0.Rating)) && (F99 x0.Start 0 600))
def Awn (x1 : Int) (n0 : Nat) (a0 : Int) (y1 : Int) : Bool := ((!(F99 a0 0 (w64 (x1 - 1)))) || ((decide ((cnt 0 n0) > 0)) && (decide (y1 >= a0))))
def Xl (x0 : A3) (x1 : Int) (n0 : Nat) (a0 : Int) (z0 : Unit) : Option (Ctl Unit Bool) :=
 (A4 [(!(F99 a0 0 (w64 (x1 - 1))), false), (decide ((cnt 0 n0) > 0), true)] (getI x0.Needs (w64 ((cnt 0 n0) - 1))) default).bind λ y1 => bif (Awn x1 n0 a0 y1) then some (.ret false) else some (.next ())
def Aa8 (x0 : A3) (x1 : Int) : Option Bool :=
 andThen (foldI (Xl x0 x1) x0.Needs 0 ()) some λ z0 => some (((((F99 x0.Load 0 50000) && (F99 x0.Least 0 x0.Load)) && (F99 x0.B4 0 15)) && (F99 x0.Thruster (-1) 7)) && (decide ((x0.Needs.length : Int) <= 4)))
def A1n (x0 : Aa) : Bool := ((((!(F99 x0.Al 1 6)) || (decide ((x0.Ad.length : Int) > 24))) || (decide ((x0.Ac.length : Int) > 8))) || (decide ((x0.Af.length : Int) > 16)))
def Ax2 (n0 : Nat) (a0 : Bh) (z0 : Bool) : Option (Ctl Bool Unit) :=
 some (.next (z0 && (Aa9 a0)))
def Akq (n1 : Nat) (a1 : A3) (z1 : Bool) : Option (Ctl Bool Unit) :=
 (A4 [(z1, true)] (Aa8 a1 (cnt 0 n1)) default).bind λ y4 => some (.next (z1 && y4))
def F85 (x0 : Aa) : Option Int :=
 bif (A1n x0) then some 2 else (Alt x0).bind λ y2 => andThen (foldI Ax2 x0.Ac 0 ((y2 && (F99 x0.Phase 0 1800)) && (F99 x0.An 0 6000))) (λ _ => none) λ z0 => andThen (foldI Akq x0.Af 0 z0) (λ _ => none) λ z1 => bif !z1 then some 14 else some 0
def Lt (x0 : Aa) (x1 : Int) : Int :=
 bif (x1 == 1) then (x0.Ac.length : Int) else bif (x1 == 2) then (x0.Ad.length : Int) else bif (x1 == 3) then x0.Al else bif (x1 == 4) then (x0.Af.length : Int) else 0
def Z2 (x0 : Int) : Bool :=
 (x0 != x0)
def Ko (x0 : Int) (x1 : Int) : Int :=
 bif Z2 x0 then bif Z2 x1 then 0 else (-1) else bif Z2 x1 then 1 else bif decide (x0 < x1) then (-1) else bif decide (x0 > x1) then 1 else 0
def Xj (n0 : Nat) (a0 : Int) (z0 : Unit) : Option (Ctl Unit Int) :=
 bif (a0 != 0) then some (.ret a0) else some (.next ())
def Aa4 (x0 : List Int) : Option Int :=
 andThen (foldI Xj x0 0 ()) some λ z0 => some 0
def A1k (x0 : Aa) (n0 : Nat) (a0 : Am) (y5 : Int) : Bool := ((!(F99 a0.Number 0 (w64 ((Lt x0 a0.Kind) - 1)))) || ((decide ((cnt 0 n0) > 0)) && (decide (y5 >= 0))))
def vA (x0 : Aa) (x1 : List Am) (n0 : Nat) (a0 : Am) (z0 : Unit) : Option (Ctl Unit Bool) :=
 (A4 [(!(F99 a0.Number 0 (w64 ((Lt x0 a0.Kind) - 1))), false), (decide ((cnt 0 n0) > 0), true)] (getI x1 (w64 ((cnt 0 n0) - 1))) default).bind λ y1 => (A4 [(!(F99 a0.Number 0 (w64 ((Lt x0 a0.Kind) - 1))), false), (decide ((cnt 0 n0) > 0), true)] (getI x1 (w64 ((cnt 0 n0) - 1))) default).bind λ y3 => (A4 [(!(F99 a0.Number 0 (w64 ((Lt x0 a0.Kind) - 1))), false), (decide ((cnt 0 n0) > 0), true)] (Aa4 [Ko y1.Kind a0.Kind, Ko y3.Number a0.Number]) default).bind λ y5 => bif (A1k x0 n0 a0 y5) then some (.ret false) else some (.next ())
def F95 (x0 : Aa) (x1 : List Am) : Option Bool :=
 andThen (foldI (vA x0 x1) x1 0 ()) some λ z0 => some (decide ((x1.length : Int) <= 32))
def F98 (x0 : Ae) : Bool :=
 ((((F99 x0.State 0 3) && (F99 x0.Since 0 2147483648)) && (F99 x0.An 0 6000)) && (F99 x0.Phase 0 3599))
def F97 (x0 : Ae) : Bool :=
 !(F98 x0)
def Aep (n0 : Nat) (a0 : Ae) (z0 : Unit) : Option (Ctl Unit Int) :=
 bif F97 a0 then some (.ret (cnt 0 n0)) else some (.next ())
def vW (x0 : List Ae) : Option Int :=
 andThen (foldI Aep x0 0 ()) some λ z0 => some (-1)
def Xb (x0 : List Ae) : Option Bool :=
 (vW x0).bind λ y1 => some (decide (y1 >= 0))
def Aws (x2 : Int) (a0 : Aj) (y1 : Bool) : Bool := (((a0.Kind == 3) && (a0.B == x2)) && y1)
def Abk (x1 : Ab) (x2 : Int) (n0 : Nat) (a0 : Aj) (z0 : Int) : Option (Ctl Int Unit) :=
 (A4 [(((a0.Kind == 3) && (a0.B == x2)), true)] (getI x1.Ag (cnt 0 n0)) default).bind λ y1 => bif (Aws x2 a0 y1) then some (.next (w64 (z0 + 1))) else some (.next z0)
def Al3 (x0 : Aa) (x1 : Ab) (x2 : Int) : Option Int :=
 andThen (foldI (Abk x1 x2) x0.Ad 0 0) (λ _ => none) λ z0 => some z0
def Arq (x0 : Aa) (x1 : Ab) : Bool := ((((x1.Ag.length : Int) != (x0.Ad.length : Int)) || ((x1.Ac.length : Int) != (x0.Ac.length : Int))) || ((x1.Aq.length : Int) != (x0.Af.length : Int)))
def Ak1 (x0 : Aa) (x1 : Ab) (n0 : Nat) (a0 : Int) (z0 : Bool) : Option (Ctl Bool Unit) :=
 (A4 [(z0, true)] (getI x0.Af (cnt 0 n0)) default).bind λ y9 => (A4 [((z0 && (F99 a0 0 y9.Load)), true)] (Al3 x0 x1 (cnt 0 n0)) default).bind λ y11 => some (.next ((z0 && (F99 a0 0 y9.Load)) && (decide (y11 <= 1))))
def F43 (x0 : Aa) (x1 : Ab) : Option Int :=
 (F85 x0).bind λ y1 => bif (y1 != 0) then some y1 else bif (Arq x0 x1) then some 8 else (F95 x0 x1.Ao).bind λ y5 => (A4 [(y5, true)] (Xb x1.Ac) default).bind λ y7 => andThen (foldI (Ak1 x0 x1) x1.Aq 0 (y5 && (!y7))) (λ _ => none) λ z0 => bif !z0 then some 11 else some 0
def As2 (x0 : List Bool) : Option (List Bool) := appI 2 [] x0
def As1 (x0 : List Ae) : Option (List Ae) := appI 33 [] x0
def Z6 (x0 : List Int) : Option (List Int) := appI 9 [] x0
def As0 (x0 : List Am) : Option (List Am) := appI 17 [] x0
def Il (x0 : Ab) : Option Ab :=
 (As2 x0.Ag).bind λ y1 => (As1 x0.Ac).bind λ y3 => (Z6 x0.Aq).bind λ y5 => (As0 x0.Ao).bind λ y7 => some (⟨y1, y3, y5, y7⟩ : Ab)
def Aa6 (n0 : Nat) (a0 : Int) (z0 : (List Int)) : Option (Ctl ((List Int)) Unit) :=
 (getI z0 (cnt 0 n0)).bind λ y3 => (setI z0 (cnt 0 n0) (cnt 0 n0)).bind λ y5 => some (.next y5)
def Xk (x1 : Ab) (n2 : Nat) (a2 : Aj) (z2 : (List Int)) : Option (Ctl ((List Int)) Unit) :=
 (A4 [((a2.Kind == 1), true)] (getI x1.Ag (cnt 0 n2)) default).bind λ y7 => bif ((a2.Kind == 1) && y7) then (getI z2 a2.A).bind λ y10 => (getI z2 a2.B).bind λ y12 => (setI z2 a2.A (min y10 y12)).bind λ y14 => (getI y14 a2.B).bind λ y16 => (setI y14 a2.B (min y10 y12)).bind λ y18 => some (.next y18) else some (.next z2)
def Aa5 (x0 : Aa) (x1 : Ab) (n1 : Nat) (a1 : Int) (z1 : (List Int)) : Option (Ctl ((List Int)) Unit) :=
 andThen (foldI (Xk x1) x0.Ad 0 z1) (λ _ => none) λ z2 => some (.next z2)
def Aa7 (x0 : Aa) (x1 : Ab) : Option ((List Int)) :=
 (mkI 9 x0.Al 0).bind λ y1 => andThen (foldI Aa6 y1 0 y1) (λ _ => none) λ z0 => andThen (foldI (Aa5 x0 x1) z0 0 z0) (λ _ => none) λ z1 => some z1
def Awe (x2 : Int) (x3 : Int) (a0 : Aj) (y1 : Bool) : Bool := (((a0.Kind == x2) && (a0.B == x3)) && y1)
def Xg (x1 : Ab) (x2 : Int) (x3 : Int) (n0 : Nat) (a0 : Aj) (z0 : Unit) : Option (Ctl Unit (Int × Bool)) :=
 (A4 [(((a0.Kind == x2) && (a0.B == x3)), true)] (getI x1.Ag (cnt 0 n0)) default).bind λ y1 => bif (Awe x2 x3 a0 y1) then some (.ret (a0.A, true)) else some (.next ())
def Aav (x0 : Aa) (x1 : Ab) (x2 : Int) (x3 : Int) : Option (Int × Bool) :=
 andThen (foldI (Xg x1 x2 x3) x0.Ad 0 ()) some λ z0 => some (0, false)
def uN (x1 : Ab) (x2 : Int) (y1 : Ae) : Bool := ((!(F99 x2 0 (w64 ((x1.Ac.length : Int) - 1)))) || (y1.State != 2))
def Z8 (x0 : Aa) (x1 : Ab) (x2 : Int) : Option (Int × Bool) :=
 (A4 [(!(F99 x2 0 (w64 ((x1.Ac.length : Int) - 1))), false)] (getI x1.Ac x2) default).bind λ y1 => bif (uN x1 x2 y1) then some (0, false) else (Aav x0 x1 2 x2).bind λ y4 => some (y4.1, y4.2)
def Z7 (x0 : Aa) (x1 : Ab) (x2 : Int) : Option (Int × Bool) :=
 (Aav x0 x1 3 x2).bind λ y1 => some (y1.1, y1.2)
def As5 (x0 : Ai) : Bool :=
 ((x0.Al.length : Int) == 0)
def Aes (n0 : Nat) (a0 : Ai) (z0 : Unit) : Option (Ctl Unit Int) :=
 bif As5 a0 then some (.ret (cnt 0 n0)) else some (.next ())
def Vs (x0 : List Ai) : Option Int :=
 andThen (foldI Aes x0 0 ()) some λ z0 => some (-1)
def Aix (z0 : Int × Int × (List Ai)) : Bool := decide (z0.2.1 < (z0.2.2.length : Int))
def Vr (z0 : Int × Int × (List Ai)) : Option (Ctl (Int × Int × (List Ai)) Unit) :=
 bif (Aix z0) then (getI z0.2.2 z0.2.1).bind λ y5 => bif !(As5 y5) then (getI z0.2.2 z0.1).bind λ y8 => (setI z0.2.2 z0.1 y5).bind λ y10 => some (.next (w64 (z0.1 + 1), w64 (z0.2.1 + 1), y10)) else some (.next (z0.1, w64 (z0.2.1 + 1), z0.2.2)) else some (.brk (z0.1, z0.2.1, z0.2.2))
def Qe (x0 : List Ai) : Option ((List Ai)) :=
 (Vs x0).bind λ y1 => bif (y1 == (-1)) then some x0 else andThen (whileN Vr 1152921504606846976 (y1, w64 (y1 + 1), x0)) (λ _ => none) λ z0 => (bndI z0.2.2.length z0.1 (z0.2.2.length : Int)).bind λ u13 => (bndI (Gn z0.2.2 (Int.toNat z0.1) ((Int.toNat (z0.2.2.length : Int)) - (Int.toNat z0.1)) (⟨([] : List Int), ([] : List Int), ([] : List Int)⟩ : Ai)).length 0 z0.1).bind λ u15 => some ((Gn z0.2.2 (Int.toNat z0.1) ((Int.toNat (z0.2.2.length : Int)) - (Int.toNat z0.1)) (⟨([] : List Int), ([] : List Int), ([] : List Int)⟩ : Ai)).take ((Int.toNat z0.1) - 0))
def Akp (n0 : Nat) (a0 : Int) (z0 : (List Ai)) : Option (Ctl ((List Ai)) Unit) :=
 (getI z0 a0).bind λ y8 => (appI 9 y8.Al [cnt 0 n0]).bind λ y10 => (setI z0 a0 (⟨y10, y8.Ac, y8.Af⟩ : Ai)).bind λ y12 => some (.next y12)
def A1m (x0 : Aa) (z1 : Int × (List Ai)) : Bool := decide (z1.1 < (x0.Ac.length : Int))
def Ako (x0 : Aa) (x1 : Ab) (y4 : (List Int)) (z1 : Int × (List Ai)) : Option (Ctl (Int × (List Ai)) Unit) :=
 bif (A1m x0 z1) then (Z8 x0 x1 z1.1).bind λ y15 => bif y15.2 then (getI y4 y15.1).bind λ y18 => (getI z1.2 y18).bind λ y20 => (appI 9 y20.Ac [z1.1]).bind λ y22 => (setI z1.2 y18 (⟨y20.Al, y22, y20.Af⟩ : Ai)).bind λ y24 => some (.next (w64 (z1.1 + 1), y24)) else some (.next (w64 (z1.1 + 1), z1.2)) else some (.brk (z1.1, z1.2))
def A1l (x0 : Aa) (z2 : Int × (List Ai)) : Bool := decide (z2.1 < (x0.Af.length : Int))
def Akn (x0 : Aa) (x1 : Ab) (y4 : (List Int)) (z2 : Int × (List Ai)) : Option (Ctl (Int × (List Ai)) Unit) :=
 bif (A1l x0 z2) then (Z7 x0 x1 z2.1).bind λ y27 => bif y27.2 then (getI y4 y27.1).bind λ y30 => (getI z2.2 y30).bind λ y32 => (appI 9 y32.Af [z2.1]).bind λ y34 => (setI z2.2 y30 (⟨y32.Al, y32.Ac, y34⟩ : Ai)).bind λ y36 => some (.next (w64 (z2.1 + 1), y36)) else some (.next (w64 (z2.1 + 1), z2.2)) else some (.brk (z2.1, z2.2))
def F89 (x0 : Aa) (x1 : Ab) : Option ((List Ai)) :=
 (F43 x0 x1).bind λ y1 => bif (y1 != 0) then some ([] : List Ai) else (Aa7 x0 x1).bind λ y4 => (mkI 73 x0.Al (⟨([] : List Int), ([] : List Int), ([] : List Int)⟩ : Ai)).bind λ y6 => andThen (foldI Akp y4 0 y6) (λ _ => none) λ z0 => andThen (whileN (Ako x0 x1 y4) 1152921504606846976 (0, z0)) (λ _ => none) λ z1 => andThen (whileN (Akn x0 x1 y4) 1152921504606846976 (0, z1.2)) (λ _ => none) λ z2 => (Qe z2.2).bind λ y38 => some y38
def Vx (x2 : Ae) (n0 : Nat) (a0 : Int) (z0 : (List Ae)) : Option (Ctl ((List Ae)) Unit) :=
 (getI z0 a0).bind λ y1 => (setI z0 a0 (⟨y1.State, y1.Since, x2.An, y1.Phase⟩ : Ae)).bind λ y3 => (getI y3 a0).bind λ y5 => (setI y3 a0 (⟨y5.State, y5.Since, y5.An, x2.Phase⟩ : Ae)).bind λ y7 => some (.next y7)
def Nt (x0 : Ab) (x1 : List Int) (x2 : Ae) : Option ((List Ae)) :=
 andThen (foldI (Vx x2) x1 0 x0.Ac) (λ _ => none) λ z0 => some z0
def A1o (a0 : Ai) : Bool := decide ((a0.Ac.length : Int) > 0)
def Aks (x1 : Ab) (y4 : Ab) (n0 : Nat) (a0 : Ai) (z0 : (List Ae)) : Option (Ctl ((List Ae)) Unit) :=
 bif (A1o a0) then (getI a0.Ac 0).bind λ y9 => (getI x1.Ac y9).bind λ y11 => (Nt (⟨y4.Ag, z0, y4.Aq, y4.Ao⟩ : Ab) a0.Ac y11).bind λ y13 => some (.next y13) else some (.next z0)
def F57 (x0 : Aa) (x1 : Ab) : Option (Ab × Int) :=
 (F43 x0 x1).bind λ y1 => bif (y1 != 0) then some ((⟨([] : List Bool), ([] : List Ae), ([] : List Int), ([] : List Am)⟩ : Ab), y1) else (Il x1).bind λ y4 => (F89 x0 x1).bind λ y6 => andThen (foldI (Aks x1 y4) y6 0 y4.Ac) (λ _ => none) λ z0 => some ((⟨y4.Ag, z0, y4.Aq, y4.Ao⟩ : Ab), 0)
def F59 (x0 : Bd) : Bool :=
 ((((((decide (x0.Stop >= 1)) && (decide (x0.Stop <= 99))) && (decide (x0.Start > x0.Stop))) && (decide (x0.Start <= 100))) && (decide (x0.Delay >= 0))) && (decide (x0.Delay <= 600)))
def Xp (x1 : List Bool) (n0 : Nat) (a0 : Bool) (z0 : Unit) : Option (Ctl Unit Bool) :=
 (getI x1 (cnt 0 n0)).bind λ y2 => bif !(a0 == y2) then some (.ret false) else some (.next ())
def jB (x0 : List Bool) (x1 : List Bool) : Option Bool :=
 bif ((x0.length : Int) != (x1.length : Int)) then some false else andThen (foldI (Xp x1) x0 0 ()) some λ z0 => some true
def Awq (a0 : Ae) (y2 : Ae) : Bool := !((a0.State == y2.State) && ((a0.Since == y2.Since) && ((a0.An == y2.An) && ((a0.Phase == y2.Phase) && true))))
def Xo (x1 : List Ae) (n0 : Nat) (a0 : Ae) (z0 : Unit) : Option (Ctl Unit Bool) :=
 (getI x1 (cnt 0 n0)).bind λ y2 => bif (Awq a0 y2) then some (.ret false) else some (.next ())
def jA (x0 : List Ae) (x1 : List Ae) : Option Bool :=
 bif ((x0.length : Int) != (x1.length : Int)) then some false else andThen (foldI (Xo x1) x0 0 ()) some λ z0 => some true
def Xn (x1 : List Int) (n0 : Nat) (a0 : Int) (z0 : Unit) : Option (Ctl Unit Bool) :=
 (getI x1 (cnt 0 n0)).bind λ y2 => bif (a0 != y2) then some (.ret false) else some (.next ())
def Z_ (x0 : List Int) (x1 : List Int) : Option Bool :=
 bif ((x0.length : Int) != (x1.length : Int)) then some false else andThen (foldI (Xn x1) x0 0 ()) some λ z0 => some true
def Awp (a0 : Am) (y2 : Am) : Bool := !((a0.Kind == y2.Kind) && ((a0.Number == y2.Number) && true))
def Xm (x1 : List Am) (n0 : Nat) (a0 : Am) (z0 : Unit) : Option (Ctl Unit Bool) :=
 (getI x1 (cnt 0 n0)).bind λ y2 => bif (Awp a0 y2) then some (.ret false) else some (.next ())
def Z9 (x0 : List Am) (x1 : List Am) : Option Bool :=
 bif ((x0.length : Int) != (x1.length : Int)) then some false else andThen (foldI (Xm x1) x0 0 ()) some λ z0 => some true
def F60 (x0 : Ab) (x1 : Ab) : Option Bool :=
 (jB x0.Ag x1.Ag).bind λ y1 => (A4 [(y1, true)] (jA x0.Ac x1.Ac) default).bind λ y3 => (A4 [((y1 && y3), true)] (Z_ x0.Aq x1.Aq) default).bind λ y5 => (A4 [(((y1 && y3) && y5), true)] (Z9 x0.Ao x1.Ao) default).bind λ y7 => some (((y1 && y3) && y5) && y7)
def R6 (x0 : Int) (x1 : Az) : Bool :=
 ((decide (x0 >= (-1))) && (decide (x0 <= x1.Time)))
def Gr (x0 : A0) (x1c0 : Az) : Bool × Az :=
 (((!(R6 x0.High x1c0)) || (!(R6 x0.Low x1c0))), x1c0)
def Ai6 (z0 : Sg0) (a0 : A0) : Bool := (Gr a0 (⟨z0.1, (⟨z0.2.1, z0.2.2.1, z0.2.2.2.1, z0.2.2.2.2.1⟩ : Ab), z0.2.2.2.2.2.1, z0.2.2.2.2.2.2⟩ : Az)).1
def Vw (n0 : Nat) (a0 : A0) (z0 : Sg0) : Option (Ctl (Sg0) (Int × Az)) :=
 bif (Ai6 z0 a0) then some (.ret (cnt 0 n0, (⟨((Gr a0 (⟨z0.1, (⟨z0.2.1, z0.2.2.1, z0.2.2.2.1, z0.2.2.2.2.1⟩ : Ab), z0.2.2.2.2.2.1, z0.2.2.2.2.2.2⟩ : Az)).2).Time, (((Gr a0 (⟨z0.1, (⟨z0.2.1, z0.2.2.1, z0.2.2.2.1, z0.2.2.2.2.1⟩ : Ab), z0.2.2.2.2.2.1, z0.2.2.2.2.2.2⟩ : Az)).2).Power), ((Gr a0 (⟨z0.1, (⟨z0.2.1, z0.2.2.1, z0.2.2.2.1, z0.2.2.2.2.1⟩ : Ab), z0.2.2.2.2.2.1, z0.2.2.2.2.2.2⟩ : Az)).2).A5, ((Gr a0 (⟨z0.1, (⟨z0.2.1, z0.2.2.1, z0.2.2.2.1, z0.2.2.2.2.1⟩ : Ab), z0.2.2.2.2.2.1, z0.2.2.2.2.2.2⟩ : Az)).2).A6⟩ : Az))) else some (.next (((Gr a0 (⟨z0.1, (⟨z0.2.1, z0.2.2.1, z0.2.2.2.1, z0.2.2.2.2.1⟩ : Ab), z0.2.2.2.2.2.1, z0.2.2.2.2.2.2⟩ : Az)).2).Time, (((Gr a0 (⟨z0.1, (⟨z0.2.1, z0.2.2.1, z0.2.2.2.1, z0.2.2.2.2.1⟩ : Ab), z0.2.2.2.2.2.1, z0.2.2.2.2.2.2⟩ : Az)).2).Power).Ag, (((Gr a0 (⟨z0.1, (⟨z0.2.1, z0.2.2.1, z0.2.2.2.1, z0.2.2.2.2.1⟩ : Ab), z0.2.2.2.2.2.1, z0.2.2.2.2.2.2⟩ : Az)).2).Power).Ac, (((Gr a0 (⟨z0.1, (⟨z0.2.1, z0.2.2.1, z0.2.2.2.1, z0.2.2.2.2.1⟩ : Ab), z0.2.2.2.2.2.1, z0.2.2.2.2.2.2⟩ : Az)).2).Power).Aq, (((Gr a0 (⟨z0.1, (⟨z0.2.1, z0.2.2.1, z0.2.2.2.1, z0.2.2.2.2.1⟩ : Ab), z0.2.2.2.2.2.1, z0.2.2.2.2.2.2⟩ : Az)).2).Power).Ao, ((Gr a0 (⟨z0.1, (⟨z0.2.1, z0.2.2.1, z0.2.2.2.1, z0.2.2.2.2.1⟩ : Ab), z0.2.2.2.2.2.1, z0.2.2.2.2.2.2⟩ : Az)).2).A5, ((Gr a0 (⟨z0.1, (⟨z0.2.1, z0.2.2.1, z0.2.2.2.1, z0.2.2.2.2.1⟩ : Ab), z0.2.2.2.2.2.1, z0.2.2.2.2.2.2⟩ : Az)).2).A6))
def vX (x0 : List A0) (x1c0c0 : Az) : Option (Int × Az) :=
 andThen (foldI Vw x0 0 (x1c0c0.Time, x1c0c0.Power.Ag, x1c0c0.Power.Ac, x1c0c0.Power.Aq, x1c0c0.Power.Ao, x1c0c0.A5, x1c0c0.A6)) some λ z0 => some ((-1), (⟨z0.1, (⟨z0.2.1, z0.2.2.1, z0.2.2.2.1, z0.2.2.2.2.1⟩ : Ab), z0.2.2.2.2.2.1, z0.2.2.2.2.2.2⟩ : Az))
def vD (x0 : List A0) (x1c0c0 : Az) : Option (Bool × Az) :=
 (vX x0 x1c0c0).bind λ y1 => some (decide (y1.1 >= 0), y1.2)
def A1y (x1 : Bd) (x2 : Az) : Bool := (((!(F59 x1)) || (decide (x2.Time < 0))) || (decide (x2.Time > 2147483648)))
def F21 (x0 : Aa) (x1 : Bd) (x2 : Az) : Option Int :=
 (F57 x0 x2.Power).bind λ y1 => bif (y1.2 != 0) then some y1.2 else bif (A1y x1 x2) then some 1 else bif ((x2.A5.length : Int) != x0.Al) then some 8 else (F60 x2.Power y1.1).bind λ y6 => (A4 [(!y6, false)] (vD x2.A5 x2) (default, x2)).bind λ y8 => bif ((!y6) || y8.1) then some 11 else some 0
def Alw (x0 : List A0) : Option (List A0) := appI 17 [] x0
def F84 (x0 : List Bg) : Option (List Bg) := appI 41 [] x0
def F63 (x0 : Aa) (x1 : Az) : Option A1 :=
 (Il x1.Power).bind λ y1 => (Alw x1.A5).bind λ y3 => (F84 x1.A6).bind λ y5 => some (⟨(⟨x1.Time, y1, y3, y5⟩ : Az), x0, ([] : List Bg), ([] : List Ab)⟩ : A1)
def vB (x0 : A1) (x1 : Ab) : Option A1 :=
 (Il x1).bind λ y3 => (appI 97 x0.states [y3]).bind λ y5 => some (⟨x0.Av, x0.Ak, x0.events, y5⟩ : A1)
def Kn (x0 : Aa) (x1 : Int) (x2 : Int) : Bool :=
 bif (x1 == 1) then ((decide (x2 >= 0)) && (decide (x2 < (x0.Ac.length : Int)))) else bif (x1 == 2) then ((decide (x2 >= 0)) && (decide (x2 < (x0.Ad.length : Int)))) else bif (x1 == 3) then ((decide (x2 >= 0)) && (decide (x2 < x0.Al))) else bif (x1 == 4) then ((decide (x2 >= 0)) && (decide (x2 < (x0.Af.length : Int)))) else ((decide (x2 >= 0)) && (decide (x2 < 0)))
def Abc (x1 : Ap) : Option (Ctl Bool Unit) :=
 bif (x1.Kind == 1) then some (.next (x1.Kind == 1)) else some (.next (x1.Kind == 2))
def Abb (x1 : Ap) : Option (Ctl Bool Unit) :=
 bif (x1.Kind == 3) then some (.next (x1.Kind == 3)) else some (.next (x1.Kind == 4))
def Abd (x0 : Aa) (x1 : Ap) : Option Bool :=
 andThen (Abc x1) (λ _ => none) λ z0 => bif z0 then some (Kn x0 2 x1.Unit) else andThen (Abb x1) (λ _ => none) λ z1 => bif z1 then some (Kn x0 1 x1.Unit) else bif (x1.Kind == 5) then some (Kn x0 4 x1.Unit) else bif (x1.Kind == 6) then some ((Kn x0 1 x1.Unit) && (Kn x0 3 x1.Value)) else bif (x1.Kind == 8) then some (Kn x0 x1.Value x1.Unit) else bif (x1.Kind == 9) then some (Kn x0 x1.Value x1.Unit) else some true
def A7u (x1 : Am) (a0 : Am) : Bool := ((x1.Kind == a0.Kind) && ((x1.Number == a0.Number) && true))
def Apv (x1 : Am) (n0 : Nat) (a0 : Am) (z0 : Unit) : Option (Ctl Unit Int) :=
 bif (A7u x1 a0) then some (.ret (cnt 0 n0)) else some (.next ())
def Asx (x0 : List Am) (x1 : Am) : Option Int :=
 andThen (foldI (Apv x1) x0 0 ()) some λ z0 => some (-1)
def As4 (x0 : List Am) (x1 : Am) : Option Bool :=
 (Asx x0 x1).bind λ y1 => some (decide (y1 >= 0))
def Hs (x0 : Ab) (x1 : Int) (x2 : Int) : Option Bool :=
 (As4 x0.Ao (⟨x1, x2⟩ : Am)).bind λ y1 => some y1
def Al2 (x0 : Aa) (x1 : Ab) (x2 : Int) : Option (Int × Bool) :=
 (F43 x0 x1).bind λ y1 => bif (y1 != 0) then some (0, false) else (Z7 x0 x1 x2).bind λ y4 => some (y4.1, y4.2)
def Alb (x0 : Aa) (x1 : Ab) (x2 : Int) : Option Bool :=
 (getI x0.Ad x2).bind λ y1 => (getI x1.Ag x2).bind λ y3 => (A4 [(y3, false)] (Hs x1 2 x2) default).bind λ y5 => (A4 [((y3 || y5), false)] (Hs x1 3 y1.A) default).bind λ y7 => bif ((y3 || y5) || y7) then some false else bif (y1.Kind == 1) then (Hs x1 3 y1.B).bind λ y11 => some (!y11) else bif (y1.Kind == 2) then (Hs x1 1 y1.B).bind λ y14 => (A4 [(!y14, true)] (getI x1.Ac y1.B) default).bind λ y16 => some ((!y14) && (y16.State == 2)) else (Al2 x0 x1 y1.B).bind λ y18 => (Hs x1 4 y1.B).bind λ y20 => some ((!y20) && (!y18.2))
def Mu (x2 : Int) (n0 : Nat) (a0 : Ai) (z0 : Unit) : Option (Ctl Unit (Ai × Bool)) :=
 (Np a0.Al x2).bind λ y3 => bif y3 then some (.ret (a0, true)) else some (.next ())
def Gs (x0 : Aa) (x1 : Ab) (x2 : Int) : Option (Ai × Bool) :=
 (F89 x0 x1).bind λ y1 => andThen (foldI (Mu x2) y1 0 ()) some λ z0 => some ((⟨([] : List Int), ([] : List Int), ([] : List Int)⟩ : Ai), false)
def Pf (x0 : Aa) (x1 : Ab) (x2 : Int) : Option (Int × Bool) :=
 (Gs x0 x1 x2).bind λ y1 => bif ((y1.1.Ac.length : Int) == 0) then some (0, false) else (getI y1.1.Ac 0).bind λ y4 => some (y4, true)
def Eg (x0 : Int) : Int :=
 bif decide ((Int.tmod x0 3600) < 0) then w64 ((Int.tmod x0 3600) + 3600) else Int.tmod x0 3600
def Awa (x0 : Int) (x1 : Int) : Bool := decide ((Eg (w64 ((Eg x1) - (Eg x0)))) > 1800)
def Aas (x0 : Int) (x1 : Int) : Int :=
 bif (Awa x0 x1) then w64 ((Eg (w64 ((Eg x1) - (Eg x0)))) - 3600) else Eg (w64 ((Eg x1) - (Eg x0)))
def Awb (x1 : Ae) (x2 : Ae) : Bool := ((decide ((min x1.An x2.An) < 0)) || (decide ((max x1.An x2.An) > 6000)))
def R7 (x0 : Aa) (x1 : Ae) (x2 : Ae) : Bool :=
 bif (Awb x1 x2) then false else ((decide ((max (w64 (x1.An - x2.An)) (w64 (x2.An - x1.An))) <= x0.An)) && (decide ((max (Aas x1.Phase x2.Phase) (w64 (0 - Aas x1.Phase x2.Phase))) <= x0.Phase)))
def Km (x0 : Aa) (x1 : Ab) (x2 : Aj) : Option Bool :=
 (Pf x0 x1 x2.A).bind λ y1 => bif !y1.2 then some true else bif (x2.Kind == 1) then (Pf x0 x1 x2.B).bind λ y5 => (A4 [(!y5.2, false)] (getI x1.Ac y1.1) default).bind λ y7 => (A4 [(!y5.2, false)] (getI x1.Ac y5.1) default).bind λ y9 => some ((!y5.2) || (R7 x0 y7 y9)) else bif (x2.Kind == 2) then (getI x1.Ac y1.1).bind λ y12 => (getI x1.Ac x2.B).bind λ y14 => some (R7 x0 y12 y14) else some true
def uM (x0 : Aa) (x2 : Int) : Bool := ((decide (x2 < 0)) || (decide (x2 >= (x0.Ad.length : Int))))
def Zz (x0 : Aa) (x1 : Ab) (x2 : Int) : Option Int :=
 (F43 x0 x1).bind λ y1 => bif (y1 != 0) then some y1 else bif (uM x0 x2) then some 10 else (Alb x0 x1 x2).bind λ y5 => bif !y5 then some 11 else (getI x0.Ad x2).bind λ y8 => (Gs x0 x1 y8.A).bind λ y10 => (A4 [((y8.Kind == 1), true)] (Np y10.1.Al y8.B) default).bind λ y12 => (A4 [(!((y8.Kind == 1) && y12), true)] (Km x0 x1 y8) default).bind λ y14 => bif ((!((y8.Kind == 1) && y12)) && (!y14)) then some 12 else some 0
def Z5 (x0 : Aa) (x1 : Ab) (x2 : Int) : Option (Ab × Int) :=
 (Zz x0 x1 x2).bind λ y1 => bif (y1 != 0) then some ((⟨([] : List Bool), ([] : List Ae), ([] : List Int), ([] : List Am)⟩ : Ab), y1) else (Il x1).bind λ y4 => (getI y4.Ag x2).bind λ y6 => (setI y4.Ag x2 true).bind λ y8 => (F57 x0 (⟨y8, y4.Ac, y4.Aq, y4.Ao⟩ : Ab)).bind λ y10 => some (y10.1, y10.2)
def Awf (x0 : Aa) (x2 : Int) : Bool := ((decide (x2 < 0)) || (decide (x2 >= (x0.Ad.length : Int))))
def Z4 (x0 : Aa) (x1 : Ab) (x2 : Int) : Option (Ab × Int) :=
 (F43 x0 x1).bind λ y1 => bif (y1 != 0) then some ((⟨([] : List Bool), ([] : List Ae), ([] : List Int), ([] : List Am)⟩ : Ab), y1) else bif (Awf x0 x2) then some ((⟨([] : List Bool), ([] : List Ae), ([] : List Int), ([] : List Am)⟩ : Ab), 10) else (getI x1.Ag x2).bind λ y5 => (A4 [(!y5, false)] (Hs x1 2 x2) default).bind λ y7 => bif ((!y5) || y7) then some ((⟨([] : List Bool), ([] : List Ae), ([] : List Int), ([] : List Am)⟩ : Ab), 11) else (Il x1).bind λ y10 => (getI y10.Ag x2).bind λ y12 => (setI y10.Ag x2 false).bind λ y14 => some ((⟨y14, y10.Ac, y10.Aq, y10.Ao⟩ : Ab), 0)
def Z0 (x0 : Aa) (x1 : Ab) (x2 : Int) : Option (Int × Bool) :=
 (F43 x0 x1).bind λ y1 => bif (y1 != 0) then some (0, false) else (Z8 x0 x1 x2).bind λ y4 => some (y4.1, y4.2)
def Aiv (x0 : Aa) (x2 : Int) (x3 : Int) : Bool := ((((decide (x2 < 0)) || (decide (x2 >= (x0.Ac.length : Int)))) || (decide (x3 < 0))) || (decide (x3 >= x0.Al)))
def Z3 (x0 : Aa) (x1 : Ab) (x2 : Int) (x3 : Int) : Option (Ab × Int) :=
 (F43 x0 x1).bind λ y1 => bif (y1 != 0) then some ((⟨([] : List Bool), ([] : List Ae), ([] : List Int), ([] : List Am)⟩ : Ab), y1) else bif (Aiv x0 x2 x3) then some ((⟨([] : List Bool), ([] : List Ae), ([] : List Int), ([] : List Am)⟩ : Ab), 10) else (Pf x0 x1 x3).bind λ y5 => (A4 [(!y5.2, false)] (getI x1.Ac x2) default).bind λ y7 => bif ((!y5.2) || (y7.State != 2)) then some ((⟨([] : List Bool), ([] : List Ae), ([] : List Int), ([] : List Am)⟩ : Ab), 11) else (Il x1).bind λ y10 => (Z0 x0 x1 x2).bind λ y12 => bif y12.2 then (Gs x0 x1 y12.1).bind λ y15 => (getI x1.Ac y5.1).bind λ y17 => (Nt y10 y15.1.Ac y17).bind λ y19 => some ((⟨y10.Ag, y19, y10.Aq, y10.Ao⟩ : Ab), 0) else (getI x1.Ac y5.1).bind λ y21 => (Nt y10 [x2] y21).bind λ y23 => some ((⟨y10.Ag, y23, y10.Aq, y10.Ao⟩ : Ab), 0)
def vK (x0 : Aj) (x1 : Int) : Bool :=
 ((x0.Kind == 2) && (x0.B == x1))
def On (x1c0 : Int) (n0 : Nat) (a0 : Aj) (z0 : Unit) : Option (Ctl Unit (Int × Int)) :=
 bif vK a0 x1c0 then some (.ret (cnt 0 n0, x1c0)) else some (.next ())
def vR (x0 : List Aj) (x1c0 : Int) : Option (Int × Int) :=
 andThen (foldI (On x1c0) x0 0 ()) some λ z0 => some ((-1), x1c0)
def Ala (x0 : Aa) (x1 : Int) : Option Int :=
 (vR x0.Ad x1).bind λ y1 => some y1.1
def Io (x0 : A2) (x1 : Int) : Option Bool :=
 (Ala x0.Ak x1).bind λ y1 => (getI x0.Aw.Ag y1).bind λ y3 => some (!y3)
def Ns (x0 : A2) (x1 : Int) : Option (Int × A2) :=
 (getI x0.Aw.Ac x1).bind λ y1 => (A4 [((y1.State != 0), false)] (Hs x0.Aw 1 x1) default).bind λ y3 => bif ((y1.State != 0) || y3) then some (11, x0) else (getI x0.Ak.Ac x1).bind λ y6 => (A4 [((y6.Start == 0), true)] (Io x0 x1) default).bind λ y8 => bif ((y6.Start == 0) && y8) then (setI x0.Aw.Ac x1 (⟨2, x0.time, 5000, 0⟩ : Ae)).bind λ y11 => some (0, (⟨x0.Ak, (⟨x0.Aw.Ag, y11, x0.Aw.Aq, x0.Aw.Ao⟩ : Ab), x0.time⟩ : A2)) else (setI x0.Aw.Ac x1 (⟨1, x0.time, 5000, 0⟩ : Ae)).bind λ y13 => some (0, (⟨x0.Ak, (⟨x0.Aw.Ag, y13, x0.Aw.Aq, x0.Aw.Ao⟩ : Ab), x0.time⟩ : A2))
def Az6 (y1 : Ae) (y3 : Bool) : Bool := (((y1.State != 1) && (y1.State != 2)) || (!y3))
def Nr (x0 : A2) (x1 : Int) : Option (Int × A2) :=
 (getI x0.Aw.Ac x1).bind λ y1 => (A4 [(((y1.State != 1) && (y1.State != 2)), false)] (Io x0 x1) default).bind λ y3 => bif (Az6 y1 y3) then some (11, x0) else (setI x0.Aw.Ac x1 (⟨0, y1.Since, y1.An, y1.Phase⟩ : Ae)).bind λ y6 => some (0, (⟨x0.Ak, (⟨x0.Aw.Ag, y6, x0.Aw.Aq, x0.Aw.Ao⟩ : Ab), x0.time⟩ : A2))
def Aiu (x2 : Int) (y1 : A3) : Bool := ((decide (x2 < 0)) || (decide (x2 > y1.Load)))
def Nq (x0 : A2) (x1 : Int) (x2 : Int) : Option (Int × A2) :=
 (A4 [(decide (x2 < 0), false)] (getI x0.Ak.Af x1) default).bind λ y1 => bif (Aiu x2 y1) then some (1, x0) else (getI x0.Aw.Aq x1).bind λ y4 => (setI x0.Aw.Aq x1 x2).bind λ y6 => some (0, (⟨x0.Ak, (⟨x0.Aw.Ag, x0.Aw.Ac, y6, x0.Aw.Ao⟩ : Ab), x0.time⟩ : A2))
def Xe (n0 : Nat) (a0 : Ae) (z0 : (List Ae)) : Option (Ctl ((List Ae)) Unit) :=
 bif (a0.State == 2) then (getI z0 (cnt 0 n0)).bind λ y7 => (setI z0 (cnt 0 n0) (⟨y7.State, y7.Since, y7.An, Eg (w64 (a0.Phase + (w64 (36 * (w64 (a0.An - 5000))))))⟩ : Ae)).bind λ y9 => some (.next y9) else some (.next z0)
def Zy (x0 : Aa) (x1 : Ab) : Option (Ab × Int) :=
 (F43 x0 x1).bind λ y1 => bif (y1 != 0) then some ((⟨([] : List Bool), ([] : List Ae), ([] : List Int), ([] : List Am)⟩ : Ab), y1) else (Il x1).bind λ y4 => andThen (foldI Xe x1.Ac 0 y4.Ac) (λ _ => none) λ z0 => some ((⟨y4.Ag, z0, y4.Aq, y4.Ao⟩ : Ab), 0)
def Y4 (y1 : Ab × Int) (z0 : Int × (List Ae)) : Bool := decide (z0.1 < (y1.1.Ac.length : Int))
def Nh (x0 : A2) (y4 : Ae) (y6 : Bool) (y8 : Bh) : Bool := (((y4.State == 1) && y6) && (decide ((w64 (y4.Since + y8.Start)) <= (w64 (x0.time + 1)))))
def Ot (x0 : A2) (y1 : Ab × Int) (z0 : Int × (List Ae)) : Option (Ctl (Int × (List Ae)) Unit) :=
 bif (Y4 y1 z0) then (getI z0.2 z0.1).bind λ y4 => (A4 [((y4.State == 1), true)] (Io (⟨x0.Ak, (⟨y1.1.Ag, z0.2, y1.1.Aq, y1.1.Ao⟩ : Ab), x0.time⟩ : A2) z0.1) default).bind λ y6 => (A4 [(((y4.State == 1) && y6), true)] (getI x0.Ak.Ac z0.1) default).bind λ y8 => bif (Nh x0 y4 y6 y8) then (setI z0.2 z0.1 (⟨2, y4.Since, y4.An, y4.Phase⟩ : Ae)).bind λ y11 => some (.next (w64 (z0.1 + 1), y11)) else some (.next (w64 (z0.1 + 1), z0.2)) else some (.brk (z0.1, z0.2))
def Lg (x0 : A2) : Option A2 :=
 (Zy x0.Ak x0.Aw).bind λ y1 => andThen (whileN (Ot x0 y1) 1152921504606846976 (0, y1.1.Ac)) (λ _ => none) λ z0 => some (⟨x0.Ak, (⟨y1.1.Ag, z0.2, y1.1.Aq, y1.1.Ao⟩ : Ab), x0.time⟩ : A2)
def R8 (x0 : Am) (x1 : Am) : Int :=
 bif (x0.Kind != x1.Kind) then w64 (x0.Kind - x1.Kind) else w64 (x0.Number - x1.Number)
def U6 (x0 : List Am) (x1 : Am) (z0 : Int × Int) : Option (Ctl (Int × Int) Unit) :=
 bif decide (z0.1 < z0.2) then (getI x0 (w64 (He .u64 (IntKind.wrap .u64 (w64 (z0.1 + z0.2))) 1))).bind λ y2 => bif decide ((R8 y2 x1) < 0) then some (.next (w64 ((w64 (He .u64 (IntKind.wrap .u64 (w64 (z0.1 + z0.2))) 1)) + 1), z0.2)) else some (.next (z0.1, w64 (He .u64 (IntKind.wrap .u64 (w64 (z0.1 + z0.2))) 1))) else some (.brk (z0.1, z0.2))
def U7 (x0 : List Am) (x1 : Am) : Option (Int × Bool) :=
 andThen (whileN (U6 x0 x1) 1152921504606846976 (0, (x0.length : Int))) (λ _ => none) λ z0 => (A4 [(decide (z0.1 < (x0.length : Int)), true)] (getI x0 z0.1) default).bind λ y5 => some (z0.1, ((decide (z0.1 < (x0.length : Int))) && ((R8 y5 x1) == 0)))
def P_ (x0 : List Am) (x1 : Int) (x2 : List Am) : Option ((List Am)) :=
 (bndI x0.length x1 (x0.length : Int)).bind λ u2 => bif ((x2.length : Int) == 0) then some x0 else bif (x1 == (x0.length : Int)) then (appI 17 x0 x2).bind λ y5 => some y5 else insI 17 x0 x1 x2
def U5 (x0 : List Am) (x1 : Int) (x2 : Int) : Option ((List Am)) :=
 (bnd3I x0.length x1 x2 (x0.length : Int)).bind λ u2 => bif (x1 == x2) then some x0 else (bndI x0.length 0 x1).bind λ u5 => (bndI x0.length x2 (x0.length : Int)).bind λ u7 => (appPI x0 ((Int.toNat x1) - 0) ((x0.drop (Int.toNat x2)).take ((Int.toNat (x0.length : Int)) - (Int.toNat x2)))).bind λ y8 => (bndI (y8.length - 0) (((((Int.toNat x1) - 0) + ((x0.drop (Int.toNat x2)).take ((Int.toNat (x0.length : Int)) - (Int.toNat x2))).length) : Nat) : Int) (x0.length : Int)).bind λ u11 => some ((Gn y8 (0 + (Int.toNat (((((Int.toNat x1) - 0) + ((x0.drop (Int.toNat x2)).take ((Int.toNat (x0.length : Int)) - (Int.toNat x2))).length) : Nat) : Int))) ((Int.toNat (x0.length : Int)) - (Int.toNat (((((Int.toNat x1) - 0) + ((x0.drop (Int.toNat x2)).take ((Int.toNat (x0.length : Int)) - (Int.toNat x2))).length) : Nat) : Int))) (⟨0, 0⟩ : Am)).take (((Int.toNat x1) - 0) + ((x0.drop (Int.toNat x2)).take ((Int.toNat (x0.length : Int)) - (Int.toNat x2))).length))
def Re (x0 : A2) (x2 : Bool) : Bool := (x2 && (decide ((x0.Aw.Ao.length : Int) >= 32)))
def Oq (x0 : A2) (x1 : Am) (x2 : Bool) (y1 : Int × Bool) : Option (Ctl ((List Am)) Unit) :=
 bif x2 then (P_ x0.Aw.Ao y1.1 [x1]).bind λ y6 => some (.next y6) else (U5 x0.Aw.Ao y1.1 (w64 (y1.1 + 1))).bind λ y8 => some (.next y8)
def Gc (x0 : A2) (x1 : Am) (x2 : Bool) : Option (Int × A2) :=
 (U7 x0.Aw.Ao x1).bind λ y1 => bif (y1.2 == x2) then some (11, x0) else bif (Re x0 x2) then some (2, x0) else andThen (Oq x0 x1 x2 y1) (λ _ => none) λ z0 => bif (x1.Kind == 1) then (getI x0.Aw.Ac x1.Number).bind λ y11 => (setI x0.Aw.Ac x1.Number (⟨0, y11.Since, y11.An, y11.Phase⟩ : Ae)).bind λ y13 => bif x2 then (getI y13 x1.Number).bind λ y16 => (setI y13 x1.Number (⟨3, y16.Since, y16.An, y16.Phase⟩ : Ae)).bind λ y18 => some (0, (⟨x0.Ak, (⟨x0.Aw.Ag, y18, x0.Aw.Aq, z0⟩ : Ab), x0.time⟩ : A2)) else some (0, (⟨x0.Ak, (⟨x0.Aw.Ag, y13, x0.Aw.Aq, z0⟩ : Ab), x0.time⟩ : A2)) else some (0, (⟨x0.Ak, (⟨x0.Aw.Ag, x0.Aw.Ac, x0.Aw.Aq, z0⟩ : Ab), x0.time⟩ : A2))
def Ip (x0 : A2) (x1 : Ap) : Option (Int × A2) :=
 bif (x1.Kind == 1) then (Z5 x0.Ak x0.Aw x1.Unit).bind λ y2 => some (y2.2, (⟨x0.Ak, y2.1, x0.time⟩ : A2)) else bif (x1.Kind == 2) then (Z4 x0.Ak x0.Aw x1.Unit).bind λ y5 => some (y5.2, (⟨x0.Ak, y5.1, x0.time⟩ : A2)) else bif (x1.Kind == 6) then (Z3 x0.Ak x0.Aw x1.Unit x1.Value).bind λ y8 => some (y8.2, (⟨x0.Ak, y8.1, x0.time⟩ : A2)) else bif (x1.Kind == 3) then (Ns x0 x1.Unit).bind λ y11 => some (y11.1, y11.2) else bif (x1.Kind == 4) then (Nr x0 x1.Unit).bind λ y14 => some (y14.1, y14.2) else bif (x1.Kind == 5) then (Nq x0 x1.Unit x1.Value).bind λ y17 => some (y17.1, y17.2) else bif (x1.Kind == 7) then (Lg x0).bind λ y20 => some (0, y20) else (Gc x0 (⟨x1.Value, x1.Unit⟩ : Am) (x1.Kind == 8)).bind λ y22 => some (y22.1, y22.2)
def Arp (x2 : Int) (x3 : Ap) : Bool := ((((decide (x2 < 0)) || (decide (x2 > 2147483648))) || (decide (x3.Kind < 1))) || (decide (x3.Kind > 9)))
def F83 (x0 : Aa) (x1 : Ab) (x2 : Int) (x3 : Ap) : Option (Ab × Int) :=
 (F43 x0 x1).bind λ y1 => bif (y1 != 0) then some ((⟨([] : List Bool), ([] : List Ae), ([] : List Int), ([] : List Am)⟩ : Ab), y1) else bif (Arp x2 x3) then some ((⟨([] : List Bool), ([] : List Ae), ([] : List Int), ([] : List Am)⟩ : Ab), 1) else (Abd x0 x3).bind λ y5 => bif !y5 then some ((⟨([] : List Bool), ([] : List Ae), ([] : List Int), ([] : List Am)⟩ : Ab), 10) else (Il x1).bind λ y8 => (Ip (⟨x0, y8, x2⟩ : A2) x3).bind λ y10 => bif (y10.1 != 0) then some ((⟨([] : List Bool), ([] : List Ae), ([] : List Int), ([] : List Am)⟩ : Ab), y10.1) else some (y10.2.Aw, 0)
def Qf (x0 : A1) (x1 : Ap) (x2 : Int) : Option A1 :=
 (appI 41 x0.events [(⟨x0.Av.Time, x1, x2⟩ : Bg)]).bind λ y1 => some (⟨x0.Av, x0.Ak, y1, x0.states⟩ : A1)
def Md (x0 : A1) (x1 : Ab) : Option A1 :=
 (Il x1).bind λ y3 => (appI 97 x0.states [y3]).bind λ y5 => some (⟨x0.Av, x0.Ak, x0.events, y5⟩ : A1)
def Lf (x0 : Int) (x1 : Int) (x2 : Ay) : Option (Bool × Ay) :=
 (Hs x2.Aw x0 x1).bind λ y1 => some (y1, x2)
def Ve (x0 : Ay) (x1 : Aj) : Option (Bool × Ay) :=
 (Lf 3 x1.A x0).bind λ y1 => bif y1.1 then some (true, y1.2) else bif (x1.Kind == 1) then (Lf 3 x1.B y1.2).bind λ y5 => some (y5.1, y5.2) else bif (x1.Kind == 2) then (Lf 1 x1.B y1.2).bind λ y8 => (A4 [(y8.1, false)] (getI y8.2.Aw.Ac x1.B) default).bind λ y10 => some ((y8.1 || (y10.State != 2)), y8.2) else (Lf 4 x1.B y1.2).bind λ y12 => some (y12.1, y12.2)
def Nn (x0 : Ay) (x1 : Int) : Option Ay :=
 (getI x0.Aw.Ag x1).bind λ y1 => (setI x0.Aw.Ag x1 false).bind λ y3 => (appI 25 x0.acts [(⟨2, x1, 0⟩ : Ap)]).bind λ y5 => some (⟨x0.Ak, (⟨y3, x0.Aw.Ac, x0.Aw.Aq, x0.Aw.Ao⟩ : Ab), y5⟩ : Ay)
def Vj (n0 : Nat) (a0 : Aj) (z0 : Sg8) : Option (Ctl (Sg8) Unit) :=
 (getI z0.2.2.2.2.2.2.2.1 (cnt 0 n0)).bind λ y1 => (A4 [(y1, true)] (Ve (⟨(⟨z0.1, z0.2.1, z0.2.2.1, z0.2.2.2.1, z0.2.2.2.2.1, z0.2.2.2.2.2.1⟩ : Aa), (⟨z0.2.2.2.2.2.2.2.1, z0.2.2.2.2.2.2.2.2.1, z0.2.2.2.2.2.2.2.2.2.1, z0.2.2.2.2.2.2.2.2.2.2.1⟩ : Ab), z0.2.2.2.2.2.2.2.2.2.2.2⟩ : Ay) a0) (default, (⟨(⟨z0.1, z0.2.1, z0.2.2.1, z0.2.2.2.1, z0.2.2.2.2.1, z0.2.2.2.2.2.1⟩ : Aa), (⟨z0.2.2.2.2.2.2.2.1, z0.2.2.2.2.2.2.2.2.1, z0.2.2.2.2.2.2.2.2.2.1, z0.2.2.2.2.2.2.2.2.2.2.1⟩ : Ab), z0.2.2.2.2.2.2.2.2.2.2.2⟩ : Ay))).bind λ y3 => bif (y1 && y3.1) then (appI 9 z0.2.2.2.2.2.2.1 [cnt 0 n0]).bind λ y6 => some (.next (y3.2.Ak.Al, y3.2.Ak.Ad, y3.2.Ak.Ac, y3.2.Ak.Af, y3.2.Ak.Phase, y3.2.Ak.An, y6, y3.2.Aw.Ag, y3.2.Aw.Ac, y3.2.Aw.Aq, y3.2.Aw.Ao, y3.2.acts)) else some (.next (y3.2.Ak.Al, y3.2.Ak.Ad, y3.2.Ak.Ac, y3.2.Ak.Af, y3.2.Ak.Phase, y3.2.Ak.An, z0.2.2.2.2.2.2.1, y3.2.Aw.Ag, y3.2.Aw.Ac, y3.2.Aw.Aq, y3.2.Aw.Ao, y3.2.acts))
def Oo (n1 : Nat) (a1 : Int) (z1 : Sg7) : Option (Ctl (Sg7) Unit) :=
 (Nn (⟨(⟨z1.1, z1.2.1, z1.2.2.1, z1.2.2.2.1, z1.2.2.2.2.1, z1.2.2.2.2.2.1⟩ : Aa), (⟨z1.2.2.2.2.2.2.1, z1.2.2.2.2.2.2.2.1, z1.2.2.2.2.2.2.2.2.1, z1.2.2.2.2.2.2.2.2.2.1⟩ : Ab), z1.2.2.2.2.2.2.2.2.2.2⟩ : Ay) a1).bind λ y8 => some (.next (y8.Ak.Al, y8.Ak.Ad, y8.Ak.Ac, y8.Ak.Af, y8.Ak.Phase, y8.Ak.An, y8.Aw.Ag, y8.Aw.Ac, y8.Aw.Aq, y8.Aw.Ao, y8.acts))
def Vk (x0 : Ay) : Option Ay :=
 andThen (foldI Vj x0.Ak.Ad 0 (x0.Ak.Al, x0.Ak.Ad, x0.Ak.Ac, x0.Ak.Af, x0.Ak.Phase, x0.Ak.An, ([] : List Int), x0.Aw.Ag, x0.Aw.Ac, x0.Aw.Aq, x0.Aw.Ao, x0.acts)) (λ _ => none) λ z0 => andThen (foldI Oo z0.2.2.2.2.2.2.1 0 (z0.1, z0.2.1, z0.2.2.1, z0.2.2.2.1, z0.2.2.2.2.1, z0.2.2.2.2.2.1, z0.2.2.2.2.2.2.2.1, z0.2.2.2.2.2.2.2.2.1, z0.2.2.2.2.2.2.2.2.2.1, z0.2.2.2.2.2.2.2.2.2.2.1, z0.2.2.2.2.2.2.2.2.2.2.2)) (λ _ => none) λ z1 => some (⟨(⟨z1.1, z1.2.1, z1.2.2.1, z1.2.2.2.1, z1.2.2.2.2.1, z1.2.2.2.2.2.1⟩ : Aa), (⟨z1.2.2.2.2.2.2.1, z1.2.2.2.2.2.2.2.1, z1.2.2.2.2.2.2.2.2.1, z1.2.2.2.2.2.2.2.2.2.1⟩ : Ab), z1.2.2.2.2.2.2.2.2.2.2⟩ : Ay)
def Vy (x0 : Aa) (x1 : Ab) (x2 : Int) : Option Bool :=
 (Gs x0 x1 x2).bind λ y1 => some (decide ((y1.1.Ac.length : Int) > 0))
def Vd (x0 : Aj) (x1 : Ay) : Option (Bool × Ay) :=
 (A4 [((x0.Kind == 3), true)] (Vy x1.Ak x1.Aw x0.A) default).bind λ y1 => some (((x0.Kind == 3) && (!y1)), x1)
def Vh (n0 : Nat) (a0 : Aj) (z0 : Sg8) : Option (Ctl (Sg8) Unit) :=
 (getI z0.2.2.2.2.2.2.2.1 (cnt 0 n0)).bind λ y1 => (A4 [(y1, true)] (Vd a0 (⟨(⟨z0.1, z0.2.1, z0.2.2.1, z0.2.2.2.1, z0.2.2.2.2.1, z0.2.2.2.2.2.1⟩ : Aa), (⟨z0.2.2.2.2.2.2.2.1, z0.2.2.2.2.2.2.2.2.1, z0.2.2.2.2.2.2.2.2.2.1, z0.2.2.2.2.2.2.2.2.2.2.1⟩ : Ab), z0.2.2.2.2.2.2.2.2.2.2.2⟩ : Ay)) (default, (⟨(⟨z0.1, z0.2.1, z0.2.2.1, z0.2.2.2.1, z0.2.2.2.2.1, z0.2.2.2.2.2.1⟩ : Aa), (⟨z0.2.2.2.2.2.2.2.1, z0.2.2.2.2.2.2.2.2.1, z0.2.2.2.2.2.2.2.2.2.1, z0.2.2.2.2.2.2.2.2.2.2.1⟩ : Ab), z0.2.2.2.2.2.2.2.2.2.2.2⟩ : Ay))).bind λ y3 => bif (y1 && y3.1) then (appI 9 z0.2.2.2.2.2.2.1 [cnt 0 n0]).bind λ y6 => some (.next (y3.2.Ak.Al, y3.2.Ak.Ad, y3.2.Ak.Ac, y3.2.Ak.Af, y3.2.Ak.Phase, y3.2.Ak.An, y6, y3.2.Aw.Ag, y3.2.Aw.Ac, y3.2.Aw.Aq, y3.2.Aw.Ao, y3.2.acts)) else some (.next (y3.2.Ak.Al, y3.2.Ak.Ad, y3.2.Ak.Ac, y3.2.Ak.Af, y3.2.Ak.Phase, y3.2.Ak.An, z0.2.2.2.2.2.2.1, y3.2.Aw.Ag, y3.2.Aw.Ac, y3.2.Aw.Aq, y3.2.Aw.Ao, y3.2.acts))
def Aem (n1 : Nat) (a1 : Int) (z1 : Sg7) : Option (Ctl (Sg7) Unit) :=
 (Nn (⟨(⟨z1.1, z1.2.1, z1.2.2.1, z1.2.2.2.1, z1.2.2.2.2.1, z1.2.2.2.2.2.1⟩ : Aa), (⟨z1.2.2.2.2.2.2.1, z1.2.2.2.2.2.2.2.1, z1.2.2.2.2.2.2.2.2.1, z1.2.2.2.2.2.2.2.2.2.1⟩ : Ab), z1.2.2.2.2.2.2.2.2.2.2⟩ : Ay) a1).bind λ y8 => some (.next (y8.Ak.Al, y8.Ak.Ad, y8.Ak.Ac, y8.Ak.Af, y8.Ak.Phase, y8.Ak.An, y8.Aw.Ag, y8.Aw.Ac, y8.Aw.Aq, y8.Aw.Ao, y8.acts))
def Vi (x0 : Ay) : Option Ay :=
 andThen (foldI Vh x0.Ak.Ad 0 (x0.Ak.Al, x0.Ak.Ad, x0.Ak.Ac, x0.Ak.Af, x0.Ak.Phase, x0.Ak.An, ([] : List Int), x0.Aw.Ag, x0.Aw.Ac, x0.Aw.Aq, x0.Aw.Ao, x0.acts)) (λ _ => none) λ z0 => andThen (foldI Aem z0.2.2.2.2.2.2.1 0 (z0.1, z0.2.1, z0.2.2.1, z0.2.2.2.1, z0.2.2.2.2.1, z0.2.2.2.2.2.1, z0.2.2.2.2.2.2.2.1, z0.2.2.2.2.2.2.2.2.1, z0.2.2.2.2.2.2.2.2.2.1, z0.2.2.2.2.2.2.2.2.2.2.1, z0.2.2.2.2.2.2.2.2.2.2.2)) (λ _ => none) λ z1 => some (⟨(⟨z1.1, z1.2.1, z1.2.2.1, z1.2.2.2.1, z1.2.2.2.2.1, z1.2.2.2.2.2.1⟩ : Aa), (⟨z1.2.2.2.2.2.2.1, z1.2.2.2.2.2.2.2.1, z1.2.2.2.2.2.2.2.2.1, z1.2.2.2.2.2.2.2.2.2.1⟩ : Ab), z1.2.2.2.2.2.2.2.2.2.2⟩ : Ay)
def Vq (x0 : Ay) : Option Ay :=
 (Vk x0).bind λ y1 => (Vi y1).bind λ y3 => (F57 y3.Ak y3.Aw).bind λ y5 => some (⟨y3.Ak, y5.1, y3.acts⟩ : Ay)
def vM (x0 : Int) (x1 : Int) (x2 : Aa) : Option Int :=
 (getI x2.Af x0).bind λ y1 => (getI x2.Af x1).bind λ y3 => some (Ko y1.B4 y3.B4)
def Az4 (x1 : Int) (z1 : Int × (List Int)) (y12 : Int) : Bool := ((decide (z1.1 > x1)) && (decide (y12 < 0)))
def Ol (x1 : Int) (x3c0 : Aa) (z1 : Int × (List Int)) : Option (Ctl (Int × (List Int)) Unit) :=
 (A4 [(decide (z1.1 > x1), true)] (getI z1.2 z1.1) default).bind λ y8 => (A4 [(decide (z1.1 > x1), true)] (getI z1.2 (w64 (z1.1 - 1))) default).bind λ y10 => (A4 [(decide (z1.1 > x1), true)] (vM y8 y10 x3c0) default).bind λ y12 => bif (Az4 x1 z1 y12) then (getI z1.2 (w64 (z1.1 - 1))).bind λ y15 => (getI z1.2 z1.1).bind λ y17 => (setI z1.2 z1.1 y15).bind λ y19 => (getI y19 (w64 (z1.1 - 1))).bind λ y21 => (setI y19 (w64 (z1.1 - 1)) y17).bind λ y23 => some (.next (w64 (z1.1 - 1), y23)) else some (.brk (z1.1, z1.2))
def U0 (x1 : Int) (x2 : Int) (x3c0 : Aa) (z0 : Int × (List Int)) : Option (Ctl (Int × (List Int)) Unit) :=
 bif decide (z0.1 < x2) then andThen (whileN (Ol x1 x3c0) 1152921504606846976 (z0.1, z0.2)) (λ _ => none) λ z1 => some (.next (w64 (z0.1 + 1), z1.2)) else some (.brk (z0.1, z0.2))
def U1 (x0 : List Int) (x1 : Int) (x2 : Int) (x3c0 : Aa) : Option ((List Int) × Aa) :=
 andThen (whileN (U0 x1 x2 x3c0) 1152921504606846976 (w64 (x1 + 1), x0)) (λ _ => none) λ z0 => some (z0.2, x3c0)
def U3 (x1 : Int) (z0 : Sg9) : Option (Ctl (Sg9) Unit) :=
 bif decide (z0.2.1 <= x1) then (U1 z0.2.2.1 z0.1 z0.2.1 (⟨z0.2.2.2.1, z0.2.2.2.2.1, z0.2.2.2.2.2.1, z0.2.2.2.2.2.2.1, z0.2.2.2.2.2.2.2.1, z0.2.2.2.2.2.2.2.2⟩ : Aa)).bind λ y2 => some (.next (z0.2.1, w64 (z0.2.1 + 20), y2.1, y2.2.Al, y2.2.Ad, y2.2.Ac, y2.2.Af, y2.2.Phase, y2.2.An)) else some (.brk (z0.1, z0.2.1, z0.2.2.1, z0.2.2.2.1, z0.2.2.2.2.1, z0.2.2.2.2.2.1, z0.2.2.2.2.2.2.1, z0.2.2.2.2.2.2.2.1, z0.2.2.2.2.2.2.2.2))
def A90 (x1 : Int) (z2 : Unit) : Option (Ctl Unit Unit) :=
 bif decide (40 <= x1) then none else some (.brk ())
def U2 (x1 : Int) (z1 : Unit) : Option (Ctl Unit Unit) :=
 bif decide (20 < x1) then none else some (.brk ())
def vL (x0 : List Int) (x1 : Int) (x2c0 : Aa) : Option ((List Int) × Aa) :=
 andThen (whileN (U3 x1) 1152921504606846976 (0, 20, x0, x2c0.Al, x2c0.Ad, x2c0.Ac, x2c0.Af, x2c0.Phase, x2c0.An)) (λ _ => none) λ z0 => (U1 z0.2.2.1 z0.1 x1 (⟨z0.2.2.2.1, z0.2.2.2.2.1, z0.2.2.2.2.2.1, z0.2.2.2.2.2.2.1, z0.2.2.2.2.2.2.2.1, z0.2.2.2.2.2.2.2.2⟩ : Aa)).bind λ y4 => andThen (whileN (U2 x1) 1152921504606846976 ()) (λ _ => none) λ z1 => some (y4.1, y4.2)
def vN (x0 : List Int) (x1c0 : Aa) : Option ((List Int) × Aa) :=
 (vL x0 (x0.length : Int) x1c0).bind λ y1 => some (y1.1, y1.2)
def Awc (x0 : Aa) (z0 : Int × (List Int)) : Bool := decide (z0.1 < (x0.Af.length : Int))
def Aau (x0 : Aa) (z0 : Int × (List Int)) : Option (Ctl (Int × (List Int)) Unit) :=
 bif (Awc x0 z0) then (appI 9 z0.2 [z0.1]).bind λ y5 => some (.next (w64 (z0.1 + 1), y5)) else some (.brk (z0.1, z0.2))
def Z1 (x0 : Aa) : Option ((List Int)) :=
 (F85 x0).bind λ y1 => bif (y1 != 0) then some ([] : List Int) else andThen (whileN (Aau x0) 1152921504606846976 (0, ([] : List Int))) (λ _ => none) λ z0 => (vN z0.2 x0).bind λ y7 => some y7.1
def Qc (x0 : Int) (x1 : Ai) : Option Bool :=
 (Np x1.Af x0).bind λ y1 => some (!y1)
def Ou (x1c0 : Ai) (n0 : Nat) (a0 : Int) (z0 : Unit) : Option (Ctl Unit (Int × Ai)) :=
 (Qc a0 x1c0).bind λ y1 => bif y1 then some (.ret (cnt 0 n0, x1c0)) else some (.next ())
def vV (x0 : List Int) (x1c0 : Ai) : Option (Int × Ai) :=
 andThen (foldI (Ou x1c0) x0 0 ()) some λ z0 => some ((-1), x1c0)
def Ait (z0 : Int × Int × (List Int)) : Bool := decide (z0.2.1 < (z0.2.2.length : Int))
def Vb (y1 : Int × Ai) (z0 : Int × Int × (List Int)) : Option (Ctl (Int × Int × (List Int)) Unit) :=
 bif (Ait z0) then (getI z0.2.2 z0.2.1).bind λ y5 => (Qc y5 y1.2).bind λ y7 => bif !y7 then (getI z0.2.2 z0.1).bind λ y10 => (setI z0.2.2 z0.1 y5).bind λ y12 => some (.next (w64 (z0.1 + 1), w64 (z0.2.1 + 1), y12)) else some (.next (z0.1, w64 (z0.2.1 + 1), z0.2.2)) else some (.brk (z0.1, z0.2.1, z0.2.2))
def Vc (x0 : List Int) (x1c0 : Ai) : Option ((List Int) × Ai) :=
 (vV x0 x1c0).bind λ y1 => bif (y1.1 == (-1)) then some (x0, y1.2) else andThen (whileN (Vb y1) 1152921504606846976 (y1.1, w64 (y1.1 + 1), x0)) (λ _ => none) λ z0 => (bndI z0.2.2.length z0.1 (z0.2.2.length : Int)).bind λ u15 => (bndI (Gn z0.2.2 (Int.toNat z0.1) ((Int.toNat (z0.2.2.length : Int)) - (Int.toNat z0.1)) 0).length 0 z0.1).bind λ u17 => some (((Gn z0.2.2 (Int.toNat z0.1) ((Int.toNat (z0.2.2.length : Int)) - (Int.toNat z0.1)) 0).take ((Int.toNat z0.1) - 0)), y1.2)
def Xf (x1 : Ab) (y1 : Ai × Bool) (n0 : Nat) (a0 : Int) (z0 : Int) : Option (Ctl Int Unit) :=
 bif decide ((y1.1.Ac.length : Int) > 0) then (getI x1.Aq a0).bind λ y4 => some (.next (w64 (z0 + y4))) else some (.next z0)
def U8 (x0 : Aa) (x1 : Ab) (x2 : Int) : Option Int :=
 (Gs x0 x1 x2).bind λ y1 => andThen (foldI (Xf x1 y1) y1.1.Af 0 0) (λ _ => none) λ z0 => some z0
def Aat (x0 : Aa) (n0 : Nat) (a0 : Int) (z0 : Int) : Option (Ctl Int Unit) :=
 (getI x0.Ac a0).bind λ y3 => some (.next (w64 (z0 + y3.Rating)))
def U9 (x0 : Aa) (x1 : Ab) (x2 : Int) : Option Int :=
 (Gs x0 x1 x2).bind λ y1 => andThen (foldI (Aat x0) y1.1.Ac 0 0) (λ _ => none) λ z0 => some z0
def P9 (x0 : Ay) (x1 : Int) : Option Int :=
 (U8 x0.Ak x0.Aw x1).bind λ y1 => (U9 x0.Ak x0.Aw x1).bind λ y3 => some (max 0 (w64 (y1 - y3)))
def Akm (n0 : Nat) (a0 : Int) (z0 : (List Ai)) : Option (Ctl ((List Ai)) Unit) :=
 (getI z0 a0).bind λ y8 => (appI 9 y8.Al [cnt 0 n0]).bind λ y10 => (setI z0 a0 (⟨y10, y8.Ac, y8.Af⟩ : Ai)).bind λ y12 => some (.next y12)
def A3f (x0 : Aa) (z1 : Int × (List Ai)) : Bool := decide (z1.1 < (x0.Ac.length : Int))
def Akl (x0 : Aa) (x1 : Ab) (y4 : (List Int)) (z1 : Int × (List Ai)) : Option (Ctl (Int × (List Ai)) Unit) :=
 bif (A3f x0 z1) then (Z8 x0 x1 z1.1).bind λ y15 => bif y15.2 then (getI y4 y15.1).bind λ y18 => (getI z1.2 y18).bind λ y20 => (appI 9 y20.Ac [z1.1]).bind λ y22 => (setI z1.2 y18 (⟨y20.Al, y22, y20.Af⟩ : Ai)).bind λ y24 => some (.next (w64 (z1.1 + 1), y24)) else some (.next (w64 (z1.1 + 1), z1.2)) else some (.brk (z1.1, z1.2))
def A3e (x0 : Aa) (z2 : Int × (List Ai)) : Bool := decide (z2.1 < (x0.Af.length : Int))
def Akk (x0 : Aa) (x1 : Ab) (y4 : (List Int)) (z2 : Int × (List Ai)) : Option (Ctl (Int × (List Ai)) Unit) :=
 bif (A3e x0 z2) then (Z7 x0 x1 z2.1).bind λ y27 => bif y27.2 then (getI y4 y27.1).bind λ y30 => (getI z2.2 y30).bind λ y32 => (appI 9 y32.Af [z2.1]).bind λ y34 => (setI z2.2 y30 (⟨y32.Al, y32.Ac, y34⟩ : Ai)).bind λ y36 => some (.next (w64 (z2.1 + 1), y36)) else some (.next (w64 (z2.1 + 1), z2.2)) else some (.brk (z2.1, z2.2))
def Afo (x0 : Aa) (x1 : Ab) : Option ((List Ai)) :=
 (F43 x0 x1).bind λ y1 => bif (y1 != 0) then some ([] : List Ai) else (Aa7 x0 x1).bind λ y4 => (mkI 73 x0.Al (⟨([] : List Int), ([] : List Int), ([] : List Int)⟩ : Ai)).bind λ y6 => andThen (foldI Akm y4 0 y6) (λ _ => none) λ z0 => andThen (whileN (Akl x0 x1 y4) 1152921504606846976 (0, z0)) (λ _ => none) λ z1 => andThen (whileN (Akk x0 x1 y4) 1152921504606846976 (0, z1.2)) (λ _ => none) λ z2 => (Qe z2.2).bind λ y38 => some y38
def Y3 (y1 : Int) (y3 : Int) (y5 : A3) : Bool := decide ((min y1 (w64 (y3 - y5.Least))) > 0)
def Va (x0 : Ay) (x2 : Int) (n0 : Nat) (a0 : Int) (z0 : (List Int) × (List Ap)) : Option (Ctl ((List Int) × (List Ap)) Unit) :=
 (P9 (⟨x0.Ak, (⟨x0.Aw.Ag, x0.Aw.Ac, z0.1, x0.Aw.Ao⟩ : Ab), z0.2⟩ : Ay) x2).bind λ y1 => (getI z0.1 a0).bind λ y3 => (getI x0.Ak.Af a0).bind λ y5 => bif (Y3 y1 y3 y5) then (setI z0.1 a0 (w64 (y3 - (min y1 (w64 (y3 - y5.Least)))))).bind λ y8 => (getI y8 a0).bind λ y10 => (appI 25 z0.2 [(⟨5, a0, y10⟩ : Ap)]).bind λ y12 => some (.next (y8, y12)) else some (.next (z0.1, z0.2))
def Qb (x0 : Ay) (x1 : List Int) (x2 : Int) : Option Ay :=
 andThen (foldI (Va x0 x2) x1 0 (x0.Aw.Aq, x0.acts)) (λ _ => none) λ z0 => some (⟨x0.Ak, (⟨x0.Aw.Ag, x0.Aw.Ac, z0.1, x0.Aw.Ao⟩ : Ab), z0.2⟩ : Ay)
def U4 (x0 : Aj) (x1 : Int) : Bool :=
 ((x0.Kind == 3) && (x0.B == x1))
def Vf (x0 : Ay) (x1c0 : Int) (n0 : Nat) (a0 : Aj) (z0 : (List Int)) : Option (Ctl ((List Int)) Unit) :=
 (getI x0.Aw.Ag (cnt 0 n0)).bind λ y1 => bif (y1 && (U4 a0 x1c0)) then (appI 9 z0 [cnt 0 n0]).bind λ y4 => some (.next y4) else some (.next z0)
def Ael (n1 : Nat) (a1 : Int) (z1 : Sg7) : Option (Ctl (Sg7) Unit) :=
 (Nn (⟨(⟨z1.1, z1.2.1, z1.2.2.1, z1.2.2.2.1, z1.2.2.2.2.1, z1.2.2.2.2.2.1⟩ : Aa), (⟨z1.2.2.2.2.2.2.1, z1.2.2.2.2.2.2.2.1, z1.2.2.2.2.2.2.2.2.1, z1.2.2.2.2.2.2.2.2.2.1⟩ : Ab), z1.2.2.2.2.2.2.2.2.2.2⟩ : Ay) a1).bind λ y6 => some (.next (y6.Ak.Al, y6.Ak.Ad, y6.Ak.Ac, y6.Ak.Af, y6.Ak.Phase, y6.Ak.An, y6.Aw.Ag, y6.Aw.Ac, y6.Aw.Aq, y6.Aw.Ao, y6.acts))
def Vg (x0 : Ay) (x1c0 : Int) : Option (Ay × Int) :=
 andThen (foldI (Vf x0 x1c0) x0.Ak.Ad 0 ([] : List Int)) (λ _ => none) λ z0 => andThen (foldI Ael z0 0 (x0.Ak.Al, x0.Ak.Ad, x0.Ak.Ac, x0.Ak.Af, x0.Ak.Phase, x0.Ak.An, x0.Aw.Ag, x0.Aw.Ac, x0.Aw.Aq, x0.Aw.Ao, x0.acts)) (λ _ => none) λ z1 => some ((⟨(⟨z1.1, z1.2.1, z1.2.2.1, z1.2.2.2.1, z1.2.2.2.2.1, z1.2.2.2.2.2.1⟩ : Aa), (⟨z1.2.2.2.2.2.2.1, z1.2.2.2.2.2.2.2.1, z1.2.2.2.2.2.2.2.2.1, z1.2.2.2.2.2.2.2.2.2.1⟩ : Ab), z1.2.2.2.2.2.2.2.2.2.2⟩ : Ay), x1c0)
def U_ (x2 : Int) (n0 : Nat) (a0 : Int) (z0 : Sg7) : Option (Ctl (Sg7) Unit) :=
 (getI z0.2.2.2.2.2.2.2.2.1 a0).bind λ y1 => (A4 [(decide (y1 > 0), true)] (P9 (⟨(⟨z0.1, z0.2.1, z0.2.2.1, z0.2.2.2.1, z0.2.2.2.2.1, z0.2.2.2.2.2.1⟩ : Aa), (⟨z0.2.2.2.2.2.2.1, z0.2.2.2.2.2.2.2.1, z0.2.2.2.2.2.2.2.2.1, z0.2.2.2.2.2.2.2.2.2.1⟩ : Ab), z0.2.2.2.2.2.2.2.2.2.2⟩ : Ay) x2) default).bind λ y3 => bif ((decide (y1 > 0)) && (decide (y3 > 0))) then (Vg (⟨(⟨z0.1, z0.2.1, z0.2.2.1, z0.2.2.2.1, z0.2.2.2.2.1, z0.2.2.2.2.2.1⟩ : Aa), (⟨z0.2.2.2.2.2.2.1, z0.2.2.2.2.2.2.2.1, z0.2.2.2.2.2.2.2.2.1, z0.2.2.2.2.2.2.2.2.2.1⟩ : Ab), z0.2.2.2.2.2.2.2.2.2.2⟩ : Ay) a0).bind λ y6 => some (.next (y6.1.Ak.Al, y6.1.Ak.Ad, y6.1.Ak.Ac, y6.1.Ak.Af, y6.1.Ak.Phase, y6.1.Ak.An, y6.1.Aw.Ag, y6.1.Aw.Ac, y6.1.Aw.Aq, y6.1.Aw.Ao, y6.1.acts)) else some (.next (z0.1, z0.2.1, z0.2.2.1, z0.2.2.2.1, z0.2.2.2.2.1, z0.2.2.2.2.2.1, z0.2.2.2.2.2.2.1, z0.2.2.2.2.2.2.2.1, z0.2.2.2.2.2.2.2.2.1, z0.2.2.2.2.2.2.2.2.2.1, z0.2.2.2.2.2.2.2.2.2.2))
def Qa (x0 : Ay) (x1 : List Int) (x2 : Int) : Option Ay :=
 andThen (foldI (U_ x2) x1 0 (x0.Ak.Al, x0.Ak.Ad, x0.Ak.Ac, x0.Ak.Af, x0.Ak.Phase, x0.Ak.An, x0.Aw.Ag, x0.Aw.Ac, x0.Aw.Aq, x0.Aw.Ao, x0.acts)) (λ _ => none) λ z0 => some (⟨(⟨z0.1, z0.2.1, z0.2.2.1, z0.2.2.2.1, z0.2.2.2.2.1, z0.2.2.2.2.2.1⟩ : Aa), (⟨z0.2.2.2.2.2.2.1, z0.2.2.2.2.2.2.2.1, z0.2.2.2.2.2.2.2.2.1, z0.2.2.2.2.2.2.2.2.2.1⟩ : Ab), z0.2.2.2.2.2.2.2.2.2.2⟩ : Ay)
def Vp (y1 : (List Int)) (n0 : Nat) (a0 : Ai) (z0 : Sg7) : Option (Ctl (Sg7) Unit) :=
 (Z6 y1).bind λ y5 => (Vc y5 a0).bind λ y7 => bif decide ((y7.2.Ac.length : Int) > 0) then (getI y7.2.Al 0).bind λ y10 => (Qb (⟨(⟨z0.1, z0.2.1, z0.2.2.1, z0.2.2.2.1, z0.2.2.2.2.1, z0.2.2.2.2.2.1⟩ : Aa), (⟨z0.2.2.2.2.2.2.1, z0.2.2.2.2.2.2.2.1, z0.2.2.2.2.2.2.2.2.1, z0.2.2.2.2.2.2.2.2.2.1⟩ : Ab), z0.2.2.2.2.2.2.2.2.2.2⟩ : Ay) y7.1 y10).bind λ y12 => (getI y7.2.Al 0).bind λ y14 => (Qa y12 y7.1 y14).bind λ y16 => some (.next (y16.Ak.Al, y16.Ak.Ad, y16.Ak.Ac, y16.Ak.Af, y16.Ak.Phase, y16.Ak.An, y16.Aw.Ag, y16.Aw.Ac, y16.Aw.Aq, y16.Aw.Ao, y16.acts)) else some (.next (z0.1, z0.2.1, z0.2.2.1, z0.2.2.2.1, z0.2.2.2.2.1, z0.2.2.2.2.2.1, z0.2.2.2.2.2.2.1, z0.2.2.2.2.2.2.2.1, z0.2.2.2.2.2.2.2.2.1, z0.2.2.2.2.2.2.2.2.2.1, z0.2.2.2.2.2.2.2.2.2.2))
def Qd (x0 : Ay) : Option Ay :=
 (Z1 x0.Ak).bind λ y1 => (Afo x0.Ak x0.Aw).bind λ y3 => andThen (foldI (Vp y1) y3 0 (x0.Ak.Al, x0.Ak.Ad, x0.Ak.Ac, x0.Ak.Af, x0.Ak.Phase, x0.Ak.An, x0.Aw.Ag, x0.Aw.Ac, x0.Aw.Aq, x0.Aw.Ao, x0.acts)) (λ _ => none) λ z0 => some (⟨(⟨z0.1, z0.2.1, z0.2.2.1, z0.2.2.2.1, z0.2.2.2.2.1, z0.2.2.2.2.2.1⟩ : Aa), (⟨z0.2.2.2.2.2.2.1, z0.2.2.2.2.2.2.2.1, z0.2.2.2.2.2.2.2.2.1, z0.2.2.2.2.2.2.2.2.2.1⟩ : Ab), z0.2.2.2.2.2.2.2.2.2.2⟩ : Ay)
def vT (x0 : Ay) : Option Ay :=
 (Vq x0).bind λ y1 => (Qd y1).bind λ y3 => some y3
def vU (x0 : Aa) (x1 : Ab) : Option (Ab × (List Ap) × Int) :=
 (F43 x0 x1).bind λ y1 => bif (y1 != 0) then some ((⟨([] : List Bool), ([] : List Ae), ([] : List Int), ([] : List Am)⟩ : Ab), ([] : List Ap), y1) else (Il x1).bind λ y4 => (vT (⟨x0, y4, ([] : List Ap)⟩ : Ay)).bind λ y6 => some (y6.Aw, y6.acts, 0)
def Alv (x0 : Aa) (x1 : Ab) : Option (Ab × (List Ap) × Int) :=
 (vU x0 x1).bind λ y1 => some (y1.1, y1.2.1, y1.2.2)
def Zv (x1 : Ap) (y1 : Ab × Int) : Option (Ctl Int Unit) :=
 bif (x1.Kind == 7) then some (.next 1) else some (.next y1.2)
def Zw (y1 : Ab × Int) (n1 : Nat) (a1 : Ap) (z1 : Aal) : Option (Ctl (Aal) Unit) :=
 (Qf (⟨(⟨z1.1, (⟨z1.2.2.2.2.2.2.2.1, z1.2.2.2.2.2.2.2.2.1, z1.2.2.2.2.2.2.2.2.2.1, z1.2.2.2.2.2.2.2.2.2.2.1⟩ : Ab), z1.2.2.2.2.2.2.2.2.2.2.2.1, z1.2.2.2.2.2.2.2.2.2.2.2.2.1⟩ : Az), (⟨z1.2.1, z1.2.2.1, z1.2.2.2.1, z1.2.2.2.2.1, z1.2.2.2.2.2.1, z1.2.2.2.2.2.2.1⟩ : Aa), z1.2.2.2.2.2.2.2.2.2.2.2.2.2.2.1, z1.2.2.2.2.2.2.2.2.2.2.2.2.2.2.2.1⟩ : A1) a1 0).bind λ y11 => bif (a1.Kind == 2) then (getI z1.2.2.2.2.2.2.2.2.2.2.2.2.2.1 a1.Unit).bind λ y14 => (setI z1.2.2.2.2.2.2.2.2.2.2.2.2.2.1 a1.Unit false).bind λ y16 => (Md y11 (⟨y16, y1.1.Ac, z1.2.2.2.2.2.2.2.2.2.2.2.2.2.2.2.2, y1.1.Ao⟩ : Ab)).bind λ y18 => some (.next (y18.Av.Time, y18.Ak.Al, y18.Ak.Ad, y18.Ak.Ac, y18.Ak.Af, y18.Ak.Phase, y18.Ak.An, y18.Av.Power.Ag, y18.Av.Power.Ac, y18.Av.Power.Aq, y18.Av.Power.Ao, y18.Av.A5, y18.Av.A6, y16, y18.events, y18.states, z1.2.2.2.2.2.2.2.2.2.2.2.2.2.2.2.2)) else (getI z1.2.2.2.2.2.2.2.2.2.2.2.2.2.2.2.2 a1.Unit).bind λ y20 => (setI z1.2.2.2.2.2.2.2.2.2.2.2.2.2.2.2.2 a1.Unit a1.Value).bind λ y22 => (Md y11 (⟨z1.2.2.2.2.2.2.2.2.2.2.2.2.2.1, y1.1.Ac, y22, y1.1.Ao⟩ : Ab)).bind λ y24 => some (.next (y24.Av.Time, y24.Ak.Al, y24.Ak.Ad, y24.Ak.Ac, y24.Ak.Af, y24.Ak.Phase, y24.Ak.An, y24.Av.Power.Ag, y24.Av.Power.Ac, y24.Av.Power.Aq, y24.Av.Power.Ao, y24.Av.A5, y24.Av.A6, z1.2.2.2.2.2.2.2.2.2.2.2.2.2.1, y24.events, y24.states, y22))
def R5 (x0 : A1) (x1 : Ap) : Option A1 :=
 (F83 x0.Ak x0.Av.Power x0.Av.Time x1).bind λ y1 => andThen (Zv x1 y1) (λ _ => none) λ z0 => (Qf x0 x1 z0).bind λ y4 => bif (z0 != 0) then some y4 else (Md y4 y1.1).bind λ y7 => (Alv y7.Ak y1.1).bind λ y9 => andThen (foldI (Zw y1) y9.2.1 0 (y7.Av.Time, y7.Ak.Al, y7.Ak.Ad, y7.Ak.Ac, y7.Ak.Af, y7.Ak.Phase, y7.Ak.An, y7.Av.Power.Ag, y7.Av.Power.Ac, y7.Av.Power.Aq, y7.Av.Power.Ao, y7.Av.A5, y7.Av.A6, y1.1.Ag, y7.events, y7.states, y1.1.Aq)) (λ _ => none) λ z1 => (F60 (⟨z1.2.2.2.2.2.2.2.2.2.2.2.2.2.1, y1.1.Ac, z1.2.2.2.2.2.2.2.2.2.2.2.2.2.2.2.2, y1.1.Ao⟩ : Ab) y9.1).bind λ y26 => bif !y26 then (Md (⟨(⟨z1.1, (⟨z1.2.2.2.2.2.2.2.1, z1.2.2.2.2.2.2.2.2.1, z1.2.2.2.2.2.2.2.2.2.1, z1.2.2.2.2.2.2.2.2.2.2.1⟩ : Ab), z1.2.2.2.2.2.2.2.2.2.2.2.1, z1.2.2.2.2.2.2.2.2.2.2.2.2.1⟩ : Az), (⟨z1.2.1, z1.2.2.1, z1.2.2.2.1, z1.2.2.2.2.1, z1.2.2.2.2.2.1, z1.2.2.2.2.2.2.1⟩ : Aa), z1.2.2.2.2.2.2.2.2.2.2.2.2.2.2.1, z1.2.2.2.2.2.2.2.2.2.2.2.2.2.2.2.1⟩ : A1) y9.1).bind λ y29 => some (⟨(⟨y29.Av.Time, y9.1, y29.Av.A5, y29.Av.A6⟩ : Az), y29.Ak, y29.events, y29.states⟩ : A1) else some (⟨(⟨z1.1, y9.1, z1.2.2.2.2.2.2.2.2.2.2.2.1, z1.2.2.2.2.2.2.2.2.2.2.2.2.1⟩ : Az), (⟨z1.2.1, z1.2.2.1, z1.2.2.2.1, z1.2.2.2.2.1, z1.2.2.2.2.2.1, z1.2.2.2.2.2.2.1⟩ : Aa), z1.2.2.2.2.2.2.2.2.2.2.2.2.2.2.1, z1.2.2.2.2.2.2.2.2.2.2.2.2.2.2.2.1⟩ : A1)
def Asz (x0 : Int) (x1 : Int) : Int × Int :=
 (IntKind.wrap .u64 ((IntKind.wrap .u64 ((IntKind.wrap .u64 ((He .u64 x0 32) * (He .u64 x1 32))) + (He .u64 (IntKind.wrap .u64 ((IntKind.wrap .u64 ((He .u64 x0 32) * (Pc .u64 x1 4294967295))) + (He .u64 (IntKind.wrap .u64 ((Pc .u64 x0 4294967295) * (Pc .u64 x1 4294967295))) 32))) 32))) + (He .u64 (IntKind.wrap .u64 ((Pc .u64 (IntKind.wrap .u64 ((IntKind.wrap .u64 ((He .u64 x0 32) * (Pc .u64 x1 4294967295))) + (He .u64 (IntKind.wrap .u64 ((Pc .u64 x0 4294967295) * (Pc .u64 x1 4294967295))) 32))) 4294967295) + (IntKind.wrap .u64 ((Pc .u64 x0 4294967295) * (He .u64 x1 32))))) 32)), IntKind.wrap .u64 (x0 * x1))
def J2 (x0 : Int) (x1 : Int) : Int × Int :=
 ((Asz x0 x1).1, (Asz x0 x1).2)
def Apx (x1 : Int) : Option (Ctl Unit Unit) :=
 bif decide (x1 < 0) then none else some (.next ())
def A7x (x0 : List A0) (x1 : Int) : Bool := ((decide (((J2 (IntKind.wrap .u64 (x0.length : Int)) (IntKind.wrap .u64 x1)).1) > 0)) || (decide (((J2 (IntKind.wrap .u64 (x0.length : Int)) (IntKind.wrap .u64 x1)).2) > 9223372036854775807)))
def Apw (x0 : List A0) (x1 : Int) : Option (Ctl Unit Unit) :=
 bif (A7x x0 x1) then none else some (.next ())
def A7w (z2 : Int × (List A0)) : Bool := decide (z2.1 < (z2.2.length : Int))
def Apy (z2 : Int × (List A0)) : Option (Ctl (Int × (List A0)) Unit) :=
 bif (A7w z2) then (bndI z2.2.length z2.1 (z2.2.length : Int)).bind λ u7 => (bndI z2.2.length 0 z2.1).bind λ u9 => some (.next (w64 (z2.1 + ((Nat.min ((z2.2.drop 0).take ((Int.toNat z2.1) - 0)).length ((Int.toNat (z2.2.length : Int)) - (Int.toNat z2.1))) : Int)), (Jy z2.2 (Int.toNat z2.1) ((Int.toNat (z2.2.length : Int)) - (Int.toNat z2.1)) ((z2.2.drop 0).take ((Int.toNat z2.1) - 0))))) else some (.brk (z2.1, z2.2))
def A0y (x0 : List A0) (x1 : Int) : Option ((List A0)) :=
 andThen (Apx x1) (λ _ => none) λ z0 => andThen (Apw x0 x1) (λ _ => none) λ z1 => (mkI 17 (w64 ((J2 (IntKind.wrap .u64 (x0.length : Int)) (IntKind.wrap .u64 x1)).2)) (⟨0, 0⟩ : A0)).bind λ y3 => andThen (whileN Apy 1152921504606846976 (((Nat.min x0.length y3.length) : Int), (Jy y3 0 y3.length x0))) (λ _ => none) λ z2 => some z2.2
def F86 (x0 : Int) : Option ((List A0)) :=
 (A0y [(⟨(-1), (-1)⟩ : A0)] x0).bind λ y1 => some y1
def Lh (x0 : Int) (x1 : Int) : Bool :=
 ((decide (x0 >= (-1))) && (decide (x0 <= x1)))
def vP (x0 : Aj) (x1 : Int) : Bool :=
 ((x0.Kind == 2) && (x0.B == x1))
def Om (x1c0 : Int) (n0 : Nat) (a0 : Aj) (z0 : Unit) : Option (Ctl Unit (Int × Int)) :=
 bif vP a0 x1c0 then some (.ret (cnt 0 n0, x1c0)) else some (.next ())
def vQ (x0 : List Aj) (x1c0 : Int) : Option (Int × Int) :=
 andThen (foldI (Om x1c0) x0 0 ()) some λ z0 => some ((-1), x1c0)
def Vn (x0 : Aa) (x1 : Int) : Option Int :=
 (vQ x0.Ad x1).bind λ y1 => some y1.1
def A7v (x1 : Bd) (y1 : Ai × Bool) : Bool := ((!(F59 x1)) || (decide ((y1.1.Ac.length : Int) < 2)))
def Awg (x1 : Bd) (y9 : Int) (y11 : Bh) (y13 : Int) : Bool := decide ((w64 (100 * y13)) <= (w64 (x1.Stop * (w64 (y9 - y11.Rating)))))
def Xh (x0 : Aa) (x1 : Bd) (x2 : Ab) (x3 : Int) (a0 : Int × Int) (z0 : Unit) : Option (Ctl Unit (Int × Bool)) :=
 (Vn x0 a0.2).bind λ y4 => (Hs x2 2 y4).bind λ y6 => bif y6 then some (.next ()) else (U9 x0 x2 x3).bind λ y9 => (getI x0.Ac a0.2).bind λ y11 => (U8 x0 x2 x3).bind λ y13 => bif (Awg x1 y9 y11 y13) then some (.ret (a0.2, true)) else some (.next ())
def All (x0 : Aa) (x1 : Bd) (x2 : Ab) (x3 : Int) : Option (Int × Bool) :=
 (Gs x0 x2 x3).bind λ y1 => bif (A7v x1 y1) then some (0, false) else andThen (foldE (Xh x0 x1 x2 x3) (bw y1.1.Ac) ()) (λ v175_0 => some (v175_0.1, v175_0.2)) λ z0 => some (0, false)
def Alk (x0 : Aa) (x1 : Bd) (x2 : Ab) (x3 : Int) : Option Bool :=
 (A4 [(F59 x1, true)] (Vy x0 x2 x3) default).bind λ y1 => (A4 [(((F59 x1) && y1), true)] (U8 x0 x2 x3) default).bind λ y3 => (A4 [(((F59 x1) && y1), true)] (U9 x0 x2 x3) default).bind λ y5 => some (((F59 x1) && y1) && (decide ((w64 (100 * y3)) > (w64 (x1.Start * y5)))))
def I3 (x0 : Int) (x1 : Bool) (x2 : Int) : Int :=
 bif !x1 then (-1) else bif (x0 == (-1)) then x2 else x0
def Alc (x0 : Aa) (x1 : Ab) (x2 : Ai) (x3 : Int) : Option Bool :=
 (Vn x0 x3).bind λ y1 => (getI x0.Ad y1).bind λ y3 => (Hs x1 1 x3).bind λ y5 => (A4 [(y5, false)] (Hs x1 2 y1) default).bind λ y7 => (A4 [((y5 || y7), false)] (Hs x1 3 y3.A) default).bind λ y9 => (A4 [(!((y5 || y7) || y9), true)] (Np x2.Al y3.A) default).bind λ y11 => (A4 [(((!((y5 || y7) || y9)) && y11), true)] (Np x2.Ac x3) default).bind λ y13 => (A4 [((((!((y5 || y7) || y9)) && y11) && (!y13)), true)] (getI x1.Ac x3) default).bind λ y15 => some ((((!((y5 || y7) || y9)) && y11) && (!y13)) && (y15.State != 3))
def Aaw (x0 : Aa) (x1 : Ab) (y1 : Ai × Bool) (a0 : Int) (n1 : Nat) (a1 : Ae) (z1 : Unit) : Option (Ctl Unit (Int × Bool)) :=
 (A4 [((a1.State == a0), true)] (Alc x0 x1 y1.1 (cnt 0 n1)) default).bind λ y4 => bif ((a1.State == a0) && y4) then some (.ret (cnt 0 n1, true)) else some (.next ())
def Aax (x0 : Aa) (x1 : Ab) (y1 : Ai × Bool) (n0 : Nat) (a0 : Int) (z0 : Unit) : Option (Ctl Unit (Int × Bool)) :=
 andThen (foldI (Aaw x0 x1 y1 a0) x1.Ac 0 ()) (λ v => some (.ret v)) λ z1 => some (.next ())
def Alj (x0 : Aa) (x1 : Ab) (x2 : Int) : Option (Int × Bool) :=
 (Gs x0 x1 x2).bind λ y1 => bif !y1.2 then some (0, false) else andThen (foldI (Aax x0 x1 y1) [2, 1, 0] 0 ()) some λ z0 => some (0, false)
def Vo (x0 : Aa) (x1 : Ab) (x2 : Int) (x3 : Int) : Option ((List Ap) × Bool) :=
 (getI x1.Ac x3).bind λ y1 => bif (y1.State == 0) then some ([(⟨3, x3, 0⟩ : Ap)], false) else bif (y1.State == 2) then (Pf x0 x1 x2).bind λ y5 => (Z0 x0 x1 y5.1).bind λ y7 => (Vn x0 x3).bind λ y9 => some ([(⟨6, x3, y7.1⟩ : Ap), (⟨1, y9, 0⟩ : Ap)], true) else some ([], false)
def Ai3 (x1 : Bd) (x4 : Int) (x5 : A0) : Bool := (((((!(F59 x1)) || (decide (x4 < 0))) || (decide (x4 > 2147483648))) || (!(Lh x5.High x4))) || (!(Lh x5.Low x4)))
def Ai2 (x0 : Aa) (x3 : Int) : Bool := ((decide (x3 < 0)) || (decide (x3 >= x0.Al)))
def Ai1 (x1 : Bd) (x4 : Int) (x5 : A0) (y8 : Bool) (y10 : Int × Bool) : Bool := ((y10.2 && ((I3 x5.High y8 x4) != (-1))) && (decide ((w64 (x4 - (I3 x5.High y8 x4))) >= x1.Delay)))
def Vt (x4 : Int) (x5 : A0) (y8 : Bool) (y13 : (List Ap) × Bool) : Option (Ctl Int Unit) :=
 bif y13.2 then some (.next (-1)) else some (.next (I3 x5.High y8 x4))
def Ai0 (x1 : Bd) (x4 : Int) (x5 : A0) (y6 : Int × Bool) : Bool := (((I3 x5.Low y6.2 x4) != (-1)) && (decide ((w64 (x4 - (I3 x5.Low y6.2 x4))) >= x1.Delay)))
def Vu (x0 : Aa) (x1 : Bd) (x2 : Ab) (x3 : Int) (x4 : Int) (x5 : A0) : Option (A0 × (List Ap) × Int) :=
 (F43 x0 x2).bind λ y1 => bif (y1 != 0) then some ((⟨0, 0⟩ : A0), [], y1) else bif (Ai3 x1 x4 x5) then some ((⟨0, 0⟩ : A0), [], 1) else bif (Ai2 x0 x3) then some ((⟨0, 0⟩ : A0), [], 10) else (All x0 x1 x2 x3).bind λ y6 => (Alk x0 x1 x2 x3).bind λ y8 => (Alj x0 x2 x3).bind λ y10 => bif (Ai1 x1 x4 x5 y8 y10) then (Vo x0 x2 x3 y10.1).bind λ y13 => andThen (Vt x4 x5 y8 y13) (λ _ => none) λ z0 => some ((⟨z0, I3 x5.Low y6.2 x4⟩ : A0), y13.1, 0) else bif (Ai0 x1 x4 x5 y6) then (Vn x0 y6.1).bind λ y17 => some ((⟨I3 x5.High y8 x4, (-1)⟩ : A0), [(⟨2, y17, 0⟩ : Ap), (⟨4, y6.1, 0⟩ : Ap)], 0) else some ((⟨I3 x5.High y8 x4, I3 x5.Low y6.2 x4⟩ : A0), [], 0)
def A3g (a0 : Ai) (y7 : Bool) : Bool := (((a0.Ac.length : Int) == 0) || (!y7))
def Rz (n1 : Nat) (a1 : Ap) (z1 : G8) : Option (Ctl (G8) Unit) :=
 (R5 (⟨(⟨z1.1, (⟨z1.2.2.2.2.2.2.2.1, z1.2.2.2.2.2.2.2.2.1, z1.2.2.2.2.2.2.2.2.2.1, z1.2.2.2.2.2.2.2.2.2.2.1⟩ : Ab), z1.2.2.2.2.2.2.2.2.2.2.2.1, z1.2.2.2.2.2.2.2.2.2.2.2.2.1⟩ : Az), (⟨z1.2.1, z1.2.2.1, z1.2.2.2.1, z1.2.2.2.2.1, z1.2.2.2.2.2.1, z1.2.2.2.2.2.2.1⟩ : Aa), z1.2.2.2.2.2.2.2.2.2.2.2.2.2.1, z1.2.2.2.2.2.2.2.2.2.2.2.2.2.2⟩ : A1) a1).bind λ y18 => some (.next (y18.Av.Time, y18.Ak.Al, y18.Ak.Ad, y18.Ak.Ac, y18.Ak.Af, y18.Ak.Phase, y18.Ak.An, y18.Av.Power.Ag, y18.Av.Power.Ac, y18.Av.Power.Aq, y18.Av.Power.Ao, y18.Av.A5, y18.Av.A6, y18.events, y18.states))
def Zu (x1 : Bd) (n0 : Nat) (a0 : Ai) (z0 : Aak) : Option (Ctl (Aak) Unit) :=
 (getI a0.Al 0).bind λ y5 => (A4 [(((a0.Ac.length : Int) == 0), false)] (Vy (⟨z0.2.1, z0.2.2.1, z0.2.2.2.1, z0.2.2.2.2.1, z0.2.2.2.2.2.1, z0.2.2.2.2.2.2.1⟩ : Aa) (⟨z0.2.2.2.2.2.2.2.2.1, z0.2.2.2.2.2.2.2.2.2.1, z0.2.2.2.2.2.2.2.2.2.2.1, z0.2.2.2.2.2.2.2.2.2.2.2.1⟩ : Ab) y5) default).bind λ y7 => bif (A3g a0 y7) then some (.next (z0.1, z0.2.1, z0.2.2.1, z0.2.2.2.1, z0.2.2.2.2.1, z0.2.2.2.2.2.1, z0.2.2.2.2.2.2.1, z0.2.2.2.2.2.2.2.1, z0.2.2.2.2.2.2.2.2.1, z0.2.2.2.2.2.2.2.2.2.1, z0.2.2.2.2.2.2.2.2.2.2.1, z0.2.2.2.2.2.2.2.2.2.2.2.1, z0.2.2.2.2.2.2.2.2.2.2.2.2.1, z0.2.2.2.2.2.2.2.2.2.2.2.2.2.1, z0.2.2.2.2.2.2.2.2.2.2.2.2.2.2.1, z0.2.2.2.2.2.2.2.2.2.2.2.2.2.2.2)) else (getI z0.2.2.2.2.2.2.2.2.2.2.2.2.1 y5).bind λ y10 => (Vu (⟨z0.2.1, z0.2.2.1, z0.2.2.2.1, z0.2.2.2.2.1, z0.2.2.2.2.2.1, z0.2.2.2.2.2.2.1⟩ : Aa) x1 (⟨z0.2.2.2.2.2.2.2.2.1, z0.2.2.2.2.2.2.2.2.2.1, z0.2.2.2.2.2.2.2.2.2.2.1, z0.2.2.2.2.2.2.2.2.2.2.2.1⟩ : Ab) y5 z0.1 y10).bind λ y12 => (getI z0.2.2.2.2.2.2.2.1 y5).bind λ y14 => (setI z0.2.2.2.2.2.2.2.1 y5 y12.1).bind λ y16 => andThen (foldI Rz y12.2.1 0 (z0.1, z0.2.1, z0.2.2.1, z0.2.2.2.1, z0.2.2.2.2.1, z0.2.2.2.2.2.1, z0.2.2.2.2.2.2.1, z0.2.2.2.2.2.2.2.2.1, z0.2.2.2.2.2.2.2.2.2.1, z0.2.2.2.2.2.2.2.2.2.2.1, z0.2.2.2.2.2.2.2.2.2.2.2.1, z0.2.2.2.2.2.2.2.2.2.2.2.2.1, z0.2.2.2.2.2.2.2.2.2.2.2.2.2.1, z0.2.2.2.2.2.2.2.2.2.2.2.2.2.2.1, z0.2.2.2.2.2.2.2.2.2.2.2.2.2.2.2)) (λ _ => none) λ z1 => some (.next (z1.1, z1.2.1, z1.2.2.1, z1.2.2.2.1, z1.2.2.2.2.1, z1.2.2.2.2.2.1, z1.2.2.2.2.2.2.1, y16, z1.2.2.2.2.2.2.2.1, z1.2.2.2.2.2.2.2.2.1, z1.2.2.2.2.2.2.2.2.2.1, z1.2.2.2.2.2.2.2.2.2.2.1, z1.2.2.2.2.2.2.2.2.2.2.2.1, z1.2.2.2.2.2.2.2.2.2.2.2.2.1, z1.2.2.2.2.2.2.2.2.2.2.2.2.2.1, z1.2.2.2.2.2.2.2.2.2.2.2.2.2.2))
def Xc (x0 : A1) (x1 : Bd) : Option A1 :=
 (F86 x0.Ak.Al).bind λ y1 => (Afo x0.Ak x0.Av.Power).bind λ y3 => andThen (foldI (Zu x1) y3 0 (x0.Av.Time, x0.Ak.Al, x0.Ak.Ad, x0.Ak.Ac, x0.Ak.Af, x0.Ak.Phase, x0.Ak.An, y1, x0.Av.Power.Ag, x0.Av.Power.Ac, x0.Av.Power.Aq, x0.Av.Power.Ao, x0.Av.A5, x0.Av.A6, x0.events, x0.states)) (λ _ => none) λ z0 => some (⟨(⟨z0.1, (⟨z0.2.2.2.2.2.2.2.2.1, z0.2.2.2.2.2.2.2.2.2.1, z0.2.2.2.2.2.2.2.2.2.2.1, z0.2.2.2.2.2.2.2.2.2.2.2.1⟩ : Ab), z0.2.2.2.2.2.2.2.1, z0.2.2.2.2.2.2.2.2.2.2.2.2.2.1⟩ : Az), (⟨z0.2.1, z0.2.2.1, z0.2.2.2.1, z0.2.2.2.2.1, z0.2.2.2.2.2.1, z0.2.2.2.2.2.2.1⟩ : Aa), z0.2.2.2.2.2.2.2.2.2.2.2.2.2.2.1, z0.2.2.2.2.2.2.2.2.2.2.2.2.2.2.2⟩ : A1)
def Xd (x0 : A1) (x1 : Ab) : Option A1 :=
 (Il x0.Av.Power).bind λ y3 => (appI 97 x0.states [y3]).bind λ y5 => some (⟨x0.Av, x0.Ak, x0.events, y5⟩ : A1)
def Ax4 (n0 : Nat) (a0 : Ap) (z0 : G8) : Option (Ctl (G8) Unit) :=
 (R5 (⟨(⟨z0.1, (⟨z0.2.2.2.2.2.2.2.1, z0.2.2.2.2.2.2.2.2.1, z0.2.2.2.2.2.2.2.2.2.1, z0.2.2.2.2.2.2.2.2.2.2.1⟩ : Ab), z0.2.2.2.2.2.2.2.2.2.2.2.1, z0.2.2.2.2.2.2.2.2.2.2.2.2.1⟩ : Az), (⟨z0.2.1, z0.2.2.1, z0.2.2.2.1, z0.2.2.2.2.1, z0.2.2.2.2.2.1, z0.2.2.2.2.2.2.1⟩ : Aa), z0.2.2.2.2.2.2.2.2.2.2.2.2.2.1, z0.2.2.2.2.2.2.2.2.2.2.2.2.2.2⟩ : A1) a0).bind λ y10 => some (.next (y10.Av.Time, y10.Ak.Al, y10.Ak.Ad, y10.Ak.Ac, y10.Ak.Af, y10.Ak.Phase, y10.Ak.An, y10.Av.Power.Ag, y10.Av.Power.Ac, y10.Av.Power.Aq, y10.Av.Power.Ao, y10.Av.A5, y10.Av.A6, y10.events, y10.states))
def F34 (x0 : Aa) (x1 : Bd) (x2 : Az) (x3 : List Ap) : Option (A1 × Int) :=
 (F21 x0 x1 x2).bind λ y1 => bif (y1 != 0) then none else bif decide ((x3.length : Int) > 200) then none else bif (x2.Time == 2147483648) then none else (F63 x0 x2).bind λ y6 => (vB y6 x2.Power).bind λ y8 => andThen (foldI Ax4 x3 0 (y8.Av.Time, y8.Ak.Al, y8.Ak.Ad, y8.Ak.Ac, y8.Ak.Af, y8.Ak.Phase, y8.Ak.An, y8.Av.Power.Ag, y8.Av.Power.Ac, y8.Av.Power.Aq, y8.Av.Power.Ao, y8.Av.A5, y8.Av.A6, y8.events, y8.states)) (λ _ => none) λ z0 => (Xc (⟨(⟨z0.1, (⟨z0.2.2.2.2.2.2.2.1, z0.2.2.2.2.2.2.2.2.1, z0.2.2.2.2.2.2.2.2.2.1, z0.2.2.2.2.2.2.2.2.2.2.1⟩ : Ab), z0.2.2.2.2.2.2.2.2.2.2.2.1, z0.2.2.2.2.2.2.2.2.2.2.2.2.1⟩ : Az), (⟨z0.2.1, z0.2.2.1, z0.2.2.2.1, z0.2.2.2.2.1, z0.2.2.2.2.2.1, z0.2.2.2.2.2.2.1⟩ : Aa), z0.2.2.2.2.2.2.2.2.2.2.2.2.2.1, z0.2.2.2.2.2.2.2.2.2.2.2.2.2.2⟩ : A1) x1).bind λ y12 => (F83 x0 y12.Av.Power y12.Av.Time (⟨7, 0, 0⟩ : Ap)).bind λ y14 => (Xd (⟨(⟨y12.Av.Time, y14.1, y12.Av.A5, y12.Av.A6⟩ : Az), y12.Ak, y12.events, y12.states⟩ : A1) y14.1).bind λ y16 => (appI 41 y16.Av.A6 y16.events).bind λ y18 => (cutI y18 (max 0 (w64 ((y18.length : Int) - 200))) (y18.length : Int)).bind λ y21 => (F84 y21).bind λ y22 => some ((⟨(⟨w64 (y16.Av.Time + 1), y16.Av.Power, y16.Av.A5, y22⟩ : Az), y16.Ak, y16.events, y16.states⟩ : A1), 0)
def Asr (x0 : Aa) (x1 : Az) : Option A1 :=
 (Il x1.Power).bind λ y1 => (Alw x1.A5).bind λ y3 => (F84 x1.A6).bind λ y5 => some (⟨(⟨x1.Time, y1, y3, y5⟩ : Az), x0, ([] : List Bg), ([] : List Ab)⟩ : A1)
def Ak4 (n0 : Nat) (a0 : Ap) (z0 : G8) : Option (Ctl (G8) Unit) :=
 (R5 (⟨(⟨z0.1, (⟨z0.2.2.2.2.2.2.2.1, z0.2.2.2.2.2.2.2.2.1, z0.2.2.2.2.2.2.2.2.2.1, z0.2.2.2.2.2.2.2.2.2.2.1⟩ : Ab), z0.2.2.2.2.2.2.2.2.2.2.2.1, z0.2.2.2.2.2.2.2.2.2.2.2.2.1⟩ : Az), (⟨z0.2.1, z0.2.2.1, z0.2.2.2.1, z0.2.2.2.2.1, z0.2.2.2.2.2.1, z0.2.2.2.2.2.2.1⟩ : Aa), z0.2.2.2.2.2.2.2.2.2.2.2.2.2.1, z0.2.2.2.2.2.2.2.2.2.2.2.2.2.2⟩ : A1) a0).bind λ y10 => some (.next (y10.Av.Time, y10.Ak.Al, y10.Ak.Ad, y10.Ak.Ac, y10.Ak.Af, y10.Ak.Phase, y10.Ak.An, y10.Av.Power.Ag, y10.Av.Power.Ac, y10.Av.Power.Aq, y10.Av.Power.Ao, y10.Av.A5, y10.Av.A6, y10.events, y10.states))
def Afp (x0 : Aa) (x1 : Bd) (x2 : Az) (x3 : List Ap) : Option (A1 × Int) :=
 (F21 x0 x1 x2).bind λ y1 => bif (y1 != 0) then none else bif decide ((x3.length : Int) > 200) then none else bif (x2.Time == 2147483648) then none else (Asr x0 x2).bind λ y6 => (Md y6 x2.Power).bind λ y8 => andThen (foldI Ak4 x3 0 (y8.Av.Time, y8.Ak.Al, y8.Ak.Ad, y8.Ak.Ac, y8.Ak.Af, y8.Ak.Phase, y8.Ak.An, y8.Av.Power.Ag, y8.Av.Power.Ac, y8.Av.Power.Aq, y8.Av.Power.Ao, y8.Av.A5, y8.Av.A6, y8.events, y8.states)) (λ _ => none) λ z0 => (Xc (⟨(⟨z0.1, (⟨z0.2.2.2.2.2.2.2.1, z0.2.2.2.2.2.2.2.2.1, z0.2.2.2.2.2.2.2.2.2.1, z0.2.2.2.2.2.2.2.2.2.2.1⟩ : Ab), z0.2.2.2.2.2.2.2.2.2.2.2.1, z0.2.2.2.2.2.2.2.2.2.2.2.2.1⟩ : Az), (⟨z0.2.1, z0.2.2.1, z0.2.2.2.1, z0.2.2.2.2.1, z0.2.2.2.2.2.1, z0.2.2.2.2.2.2.1⟩ : Aa), z0.2.2.2.2.2.2.2.2.2.2.2.2.2.1, z0.2.2.2.2.2.2.2.2.2.2.2.2.2.2⟩ : A1) x1).bind λ y12 => (F83 x0 y12.Av.Power y12.Av.Time (⟨7, 0, 0⟩ : Ap)).bind λ y14 => (Xd (⟨(⟨y12.Av.Time, y14.1, y12.Av.A5, y12.Av.A6⟩ : Az), y12.Ak, y12.events, y12.states⟩ : A1) y14.1).bind λ y16 => (appI 41 y16.Av.A6 y16.events).bind λ y18 => (cutI y18 (max 0 (w64 ((y18.length : Int) - 200))) (y18.length : Int)).bind λ y21 => (F84 y21).bind λ y22 => some ((⟨(⟨w64 (y16.Av.Time + 1), y16.Av.Power, y16.Av.A5, y22⟩ : Az), y16.Ak, y16.events, y16.states⟩ : A1), 0)
def vS (x0 : Aa) (x1 : Bd) (x2 : Az) (x3 : List Ap) : Option ((List Ab) × Int) :=
 (Afp x0 x1 x2 x3).bind λ y1 => bif (y1.2 != 0) then some (([] : List Ab), y1.2) else some (y1.1.states, 0)
def F11 (x0 : Aa) (x1 : Bd) (x2 : Az) (x3 : List Ap) : Option (Az × (List Bg) × Int) :=
 (F34 x0 x1 x2 x3).bind λ y1 => bif (y1.2 != 0) then some ((⟨0, (⟨([] : List Bool), ([] : List Ae), ([] : List Int), ([] : List Am)⟩ : Ab), ([] : List A0), ([] : List Bg)⟩ : Az), ([] : List Bg), y1.2) else some (y1.1.Av, y1.1.events, 0)
def Ak3 (x1 : List Bool) (n0 : Nat) (a0 : Bool) (z0 : Unit) : Option (Ctl Unit Bool) :=
 (getI x1 (cnt 0 n0)).bind λ y2 => bif !(a0 == y2) then some (.ret false) else some (.next ())
def F37 (x0 : List Bool) (x1 : List Bool) : Option Bool :=
 bif ((x0.length : Int) != (x1.length : Int)) then some false else andThen (foldI (Ak3 x1) x0 0 ()) some λ z0 => some true
def Ak2 (x1 : List Int) (n0 : Nat) (a0 : Int) (z0 : Unit) : Option (Ctl Unit Bool) :=
 (getI x1 (cnt 0 n0)).bind λ y2 => bif (a0 != y2) then some (.ret false) else some (.next ())
def F38 (x0 : List Int) (x1 : List Int) : Option Bool :=
 bif ((x0.length : Int) != (x1.length : Int)) then some false else andThen (foldI (Ak2 x1) x0 0 ()) some λ z0 => some true
def A13 (x0 : Ab) (x1 : Ab) (y1 : Bool) (y3 : Bool) : Bool := ((((!y1) || (!y3)) || ((x0.Ac.length : Int) != (x1.Ac.length : Int))) || ((x0.Ao.length : Int) != (x1.Ao.length : Int)))
def A12 (x0 : Ab) (z0 : Int) : Bool := decide (z0 < (x0.Ac.length : Int))
def A11 (y7 : Ae) (y9 : Ae) : Bool := !((y7.State == y9.State) && ((y7.Since == y9.Since) && ((y7.An == y9.An) && ((y7.Phase == y9.Phase) && true))))
def Alh (x0 : Ab) (x1 : Ab) (z0 : Int) : Option (Ctl Int Bool) :=
 bif (A12 x0 z0) then (getI x0.Ac z0).bind λ y7 => (getI x1.Ac z0).bind λ y9 => bif (A11 y7 y9) then some (.ret false) else some (.next (w64 (z0 + 1))) else some (.brk z0)
def A10 (x0 : Ab) (z1 : Int) : Bool := decide (z1 < (x0.Ao.length : Int))
def Awd (y13 : Am) (y15 : Am) : Bool := !((y13.Kind == y15.Kind) && ((y13.Number == y15.Number) && true))
def Alg (x0 : Ab) (x1 : Ab) (z1 : Int) : Option (Ctl Int Bool) :=
 bif (A10 x0 z1) then (getI x0.Ao z1).bind λ y13 => (getI x1.Ao z1).bind λ y15 => bif (Awd y13 y15) then some (.ret false) else some (.next (w64 (z1 + 1))) else some (.brk z1)
def F19 (x0 : Ab) (x1 : Ab) : Option Bool :=
 (F37 x0.Ag x1.Ag).bind λ y1 => (A4 [(!y1, false)] (F38 x0.Aq x1.Aq) default).bind λ y3 => bif (A13 x0 x1 y1 y3) then some false else andThen (whileN (Alh x0 x1) 1152921504606846976 0) some λ z0 => andThen (whileN (Alg x0 x1) 1152921504606846976 0) some λ z1 => some true
def I4 (x0 : Int) : Int :=
 Int.tmod (w64 ((Int.tmod x0 3600) + 3600)) 3600
def Awr (x0 : Int) (x1 : Int) : Bool := decide ((I4 (w64 ((I4 x1) - (I4 x0)))) > 1800)
def jC (x0 : Int) (x1 : Int) : Int :=
 bif (Awr x0 x1) then w64 ((I4 (w64 ((I4 x1) - (I4 x0)))) - 3600) else I4 (w64 ((I4 x1) - (I4 x0)))
def Ae9 (x1 : Ae) : Bool := ((decide (x1.An < 0)) || (decide (x1.An > 6000)))
def Ae8 (x2 : Ae) : Bool := ((decide (x2.An < 0)) || (decide (x2.An > 6000)))
def F56 (x0 : Aa) (x1 : Ae) (x2 : Ae) : Bool :=
 bif (Ae9 x1) then false else bif (Ae8 x2) then false else ((((decide ((w64 (x1.An - x2.An)) >= (w64 (0 - x0.An)))) && (decide ((w64 (x1.An - x2.An)) <= x0.An))) && (decide ((jC x1.Phase x2.Phase) >= (w64 (0 - x0.Phase))))) && (decide ((jC x1.Phase x2.Phase) <= x0.Phase)))
def A1z (x0 : Aa) (z0 : Int) : Bool := decide (z0 < (x0.Ac.length : Int))
def Ald (x0 : Aa) (x1 : Ab) (x2 : Ab) (z0 : Int) (z1 : Int) : Option (Ctl Int Bool) :=
 bif decide (z1 < z0) then (F27 x0 x1 z0).bind λ y8 => (F27 x0 x1 z1).bind λ y10 => (F27 x0 x2 z0).bind λ y12 => (F27 x0 x2 z1).bind λ y14 => bif ((!y12.2) || (!y14.2)) then some (.next (w64 (z1 + 1))) else (F54 x0 x2 y12.1).bind λ y17 => (F55 y17.1.Al y14.1).bind λ y19 => bif !y19 then some (.next (w64 (z1 + 1))) else bif (y8.2 && y10.2) then (F54 x0 x1 y8.1).bind λ y23 => (F55 y23.1.Al y10.1).bind λ y25 => bif y25 then some (.next (w64 (z1 + 1))) else (getI x1.Ac z0).bind λ y28 => (getI x1.Ac z1).bind λ y30 => bif !(F56 x0 y28 y30) then some (.ret true) else some (.next (w64 (z1 + 1))) else (getI x1.Ac z0).bind λ y33 => (getI x1.Ac z1).bind λ y35 => bif !(F56 x0 y33 y35) then some (.ret true) else some (.next (w64 (z1 + 1))) else some (.brk z1)
def Ale (x0 : Aa) (x1 : Ab) (x2 : Ab) (z0 : Int) : Option (Ctl Int Bool) :=
 bif (A1z x0 z0) then andThen (whileN (Ald x0 x1 x2 z0) 1152921504606846976 0) (λ v => some (.ret v)) λ z1 => some (.next (w64 (z0 + 1))) else some (.brk z0)
def F20 (x0 : Aa) (x1 : Ab) (x2 : Ab) : Option Bool :=
 (F53 x0 x1).bind λ y1 => (A4 [((y1 != 0), false)] (F53 x0 x2) default).bind λ y3 => bif ((y1 != 0) || (y3 != 0)) then some false else andThen (whileN (Ale x0 x1 x2) 1152921504606846976 0) some λ z0 => some false
def Ak6 (y1 : Int × Ah) : Option (Ctl Bool Unit) :=
 bif (y1.1 == 1) then some (.next (y1.1 == 1)) else some (.next (y1.1 == 2))
def Ak5 (y1 : Int × Ah) : Option (Ctl Bool Unit) :=
 bif (y1.1 == 3) then some (.next (y1.1 == 3)) else some (.next (y1.1 == 4))
def F33 (x0 : Ah) (x1 : Aa) : Option (Ap × Ah) :=
 (F78 x0 1 9).bind λ y1 => andThen (Ak6 y1) (λ _ => none) λ z0 => bif z0 then (F32 y1.2 (w64 ((x1.Ad.length : Int) + 1))).bind λ y5 => some ((⟨y1.1, y5.1, 0⟩ : Ap), y5.2) else andThen (Ak5 y1) (λ _ => none) λ z1 => bif z1 then (F32 y1.2 (w64 ((x1.Ac.length : Int) + 1))).bind λ y9 => some ((⟨y1.1, y9.1, 0⟩ : Ap), y9.2) else bif (y1.1 == 5) then (F32 y1.2 (w64 ((x1.Af.length : Int) + 1))).bind λ y12 => (F40 y12.2 [0, 5, 20, 41]).bind λ y14 => some ((⟨y1.1, y12.1, y14.1⟩ : Ap), y14.2) else bif (y1.1 == 6) then (F32 y1.2 (w64 ((x1.Ac.length : Int) + 1))).bind λ y17 => (F32 y17.2 (w64 (x1.Al + 1))).bind λ y19 => some ((⟨y1.1, y17.1, y19.1⟩ : Ap), y19.2) else bif (y1.1 == 8) then (F78 y1.2 1 4).bind λ y22 => (F32 y22.2 4).bind λ y24 => some ((⟨y1.1, y24.1, y22.1⟩ : Ap), y24.2) else bif (y1.1 == 9) then (F78 y1.2 1 4).bind λ y27 => (F32 y27.2 4).bind λ y29 => some ((⟨y1.1, y29.1, y27.1⟩ : Ap), y29.2) else some ((⟨y1.1, 0, 0⟩ : Ap), y1.2)
def Alz (x1 : Aa) (z0 : Int × (List Int) × Int × (List Ap)) : Option (Ctl (Int × (List Int) × Int × (List Ap)) Unit) :=
 bif decide (z0.1 > 0) then (F33 (⟨z0.2.1, z0.2.2.1⟩ : Ah) x1).bind λ y4 => (appI 25 z0.2.2.2 [y4.1]).bind λ y6 => some (.next (w64 (z0.1 - 1), y4.2.L, y4.2.At, y6)) else some (.brk (z0.1, z0.2.1, z0.2.2.1, z0.2.2.2))
def F10 (x0 : Ah) (x1 : Aa) (x2 : Int) : Option ((List Ap) × Ah) :=
 (F32 x0 (w64 (x2 + 1))).bind λ y1 => andThen (whileN (Alz x1) 1152921504606846976 (y1.1, y1.2.L, y1.2.At, ([] : List Ap))) (λ _ => none) λ z0 => some (z0.2.2.2, (⟨z0.2.1, z0.2.2.1⟩ : Ah))
def F35  : Aa × Bd :=
 ((⟨1, [(⟨2, 0, 0⟩ : Aj), (⟨2, 0, 1⟩ : Aj), (⟨3, 0, 0⟩ : Aj)], [(⟨50, 0, 0⟩ : Bh), (⟨50, 0, 0⟩ : Bh)], [(⟨80, 10, 0, 0, ([] : List Int)⟩ : A3)], 50, 0⟩ : Aa), (⟨100, 1, 5⟩ : Bd))
def Ax0 (x1 : Int) : Option (Ctl Unit Unit) :=
 bif decide (x1 < 0) then none else some (.next ())
def A9r (x0 : List Ae) (x1 : Int) : Bool := ((decide (((J2 (IntKind.wrap .u64 (x0.length : Int)) (IntKind.wrap .u64 x1)).1) > 0)) || (decide (((J2 (IntKind.wrap .u64 (x0.length : Int)) (IntKind.wrap .u64 x1)).2) > 9223372036854775807)))
def Axz (x0 : List Ae) (x1 : Int) : Option (Ctl Unit Unit) :=
 bif (A9r x0 x1) then none else some (.next ())
def A9q (z2 : Int × (List Ae)) : Bool := decide (z2.1 < (z2.2.length : Int))
def Ax1 (z2 : Int × (List Ae)) : Option (Ctl (Int × (List Ae)) Unit) :=
 bif (A9q z2) then (bndI z2.2.length z2.1 (z2.2.length : Int)).bind λ u7 => (bndI z2.2.length 0 z2.1).bind λ u9 => some (.next (w64 (z2.1 + ((Nat.min ((z2.2.drop 0).take ((Int.toNat z2.1) - 0)).length ((Int.toNat (z2.2.length : Int)) - (Int.toNat z2.1))) : Int)), (Jy z2.2 (Int.toNat z2.1) ((Int.toNat (z2.2.length : Int)) - (Int.toNat z2.1)) ((z2.2.drop 0).take ((Int.toNat z2.1) - 0))))) else some (.brk (z2.1, z2.2))
def F87 (x0 : List Ae) (x1 : Int) : Option ((List Ae)) :=
 andThen (Ax0 x1) (λ _ => none) λ z0 => andThen (Axz x0 x1) (λ _ => none) λ z1 => (mkI 33 (w64 ((J2 (IntKind.wrap .u64 (x0.length : Int)) (IntKind.wrap .u64 x1)).2)) (⟨0, 0, 0, 0⟩ : Ae)).bind λ y3 => andThen (whileN Ax1 1152921504606846976 (((Nat.min x0.length y3.length) : Int), (Jy y3 0 y3.length x0))) (λ _ => none) λ z2 => some z2.2
def Ax3 (n0 : Nat) (a0 : A3) (z0 : (List Int)) : Option (Ctl ((List Int)) Unit) :=
 (appI 9 z0 [a0.Load]).bind λ y11 => some (.next y11)
def F36 (x0 : Aa) (x1 : Bd) : Option (Az × Int) :=
 (F85 x0).bind λ y1 => bif (y1 != 0) then none else bif !(F59 x1) then none else (F86 x0.Al).bind λ y5 => (mkI 2 (x0.Ad.length : Int) false).bind λ y7 => (F87 [(⟨0, 0, 5000, 0⟩ : Ae)] (x0.Ac.length : Int)).bind λ y9 => andThen (foldI Ax3 x0.Af 0 ([] : List Int)) (λ _ => none) λ z0 => some ((⟨0, (⟨y7, y9, z0, ([] : List Am)⟩ : Ab), y5, ([] : List Bg)⟩ : Az), 0)
def Dq (x0 : Int) (x1 : Int) (x2 : Int) : Bool :=
 ((decide (x0 >= x1)) && (decide (x0 <= x2)))
def Vl (x0 : Int) : Bool :=
 ((decide (x0 >= 0)) && (decide (x0 < 3600)))
def Asy (x0 : Df) : Int :=
 Eg (w64 (x0.To - x0.From))
def A0w (x0 : Df) : Bool :=
 (((Vl x0.From) && (Vl x0.To)) && (decide ((Asy x0) < 1800)))
def A0x (x0 : Df) : Bool :=
 !(A0w x0)
def Aen (n0 : Nat) (a0 : Df) (z0 : Unit) : Option (Ctl Unit Int) :=
 bif A0x a0 then some (.ret (cnt 0 n0)) else some (.next ())
def Ali (x0 : List Df) : Option Int :=
 andThen (foldI Aen x0 0 ()) some λ z0 => some (-1)
def Alq (x0 : List Df) : Option Bool :=
 (Ali x0).bind λ y1 => some (decide (y1 >= 0))
def F94 (x0 : By) : Option Bool :=
 (A4 [(((((((Dq x0.Kind 1 3) && (Dq x0.Station 0 1)) && (Dq x0.Max 0 5000)) && (Dq x0.Rate 0 5000)) && (Dq x0.Cost 1 100)) && (decide ((x0.Hr.length : Int) <= 4))), true)] (Alq x0.Hr) default).bind λ y1 => some (((((((Dq x0.Kind 1 3) && (Dq x0.Station 0 1)) && (Dq x0.Max 0 5000)) && (Dq x0.Rate 0 5000)) && (Dq x0.Cost 1 100)) && (decide ((x0.Hr.length : Int) <= 4))) && (!y1))
def F93 (x0 : By) : Option Bool :=
 (F94 x0).bind λ y1 => some (!y1)
def Aeq (n0 : Nat) (a0 : By) (z0 : Unit) : Option (Ctl Unit Unit) :=
 (F93 a0).bind λ y1 => bif y1 then none else some (.next ())
def Alr (x0 : List By) : Option Int :=
 andThen (foldI Aeq x0 0 ()) (λ _ => none) λ z0 => some (-1)
def Asp (x0 : List By) : Option Bool :=
 (Alr x0).bind λ y1 => some (decide (y1 >= 0))
def A9t (x0 : Fv) : Bool := (((decide ((min x0.Bow x0.Stern) < 0)) || (decide ((max x0.Bow x0.Stern) > 200))) || ((x0.Bow == 0) && (x0.Stern == 0)))
def F42 (x0 : Fv) : Option Int :=
 bif decide ((x0.De.length : Int) > 8) then none else bif (A9t x0) then none else (Asp x0.De).bind λ y3 => bif y3 then none else some 0
def Asu (x0 : A3) (x1 : Int) : Bool :=
 (x0.Thruster == x1)
def Ak0 (x1c0 : Int) (n0 : Nat) (a0 : A3) (z0 : Unit) : Option (Ctl Unit (Int × Int)) :=
 bif Asu a0 x1c0 then some (.ret (cnt 0 n0, x1c0)) else none
def Asv (x0 : List A3) (x1c0 : Int) : Option (Int × Int) :=
 andThen (foldI (Ak0 x1c0) x0 0 ()) some λ z0 => some ((-1), x1c0)
def Al0 (rec46 : Aa -> Ab -> Int -> Option Bool) (x0 : Int) (x1 : Aa) (x2 : Ab) : Option Bool :=
 (rec46 x1 x2 x0).bind λ y1 => some (!y1)
def Aeo (x1c0 : Aa) (x1c1 : Ab) (rec46 : Aa -> Ab -> Int -> Option Bool) (n0 : Nat) (a0 : Int) (z0 : Unit) : Option (Ctl Unit (Int × Aa × Ab)) :=
 (Al0 rec46 a0 x1c0 x1c1).bind λ y1 => bif y1 then some (.ret (cnt 0 n0, x1c0, x1c1)) else some (.next ())
def Alp (rec46 : Aa -> Ab -> Int -> Option Bool) (x0 : List Int) (x1c0 : Aa) (x1c1 : Ab) : Option (Int × Aa × Ab) :=
 andThen (foldI (Aeo x1c0 x1c1 rec46) x0 0 ()) some λ z0 => some ((-1), x1c0, x1c1)
def Al1 (rec46 : Aa -> Ab -> Int -> Option Bool) (x0 : List Int) (x1c0 : Aa) (x1c1 : Ab) : Option (Bool × Aa × Ab) :=
 (Alp rec46 x0 x1c0 x1c1).bind λ y1 => some (decide (y1.1 >= 0), y1.2.1, y1.2.2)
def A9s (y1 : Int × Bool) (y3 : Bool) (y5 : Bool) (y7 : Int) (y9 : A3) : Bool := ((((!y1.2) || (!y3)) || y5) || (decide (y7 < y9.Least)))
def A0r (rec46 : Aa -> Ab -> Int -> Option Bool) (x0 : Aa) (x1 : Ab) (x2 : Int) : Option Bool :=
 (Al2 x0 x1 x2).bind λ y1 => (A4 [(!y1.2, false)] (Vy x0 x1 y1.1) default).bind λ y3 => (A4 [(((!y1.2) || (!y3)), false)] (Hs x1 4 x2) default).bind λ y5 => (A4 [((((!y1.2) || (!y3)) || y5), false)] (getI x1.Aq x2) default).bind λ y7 => (A4 [((((!y1.2) || (!y3)) || y5), false)] (getI x0.Af x2) default).bind λ y9 => bif (A9s y1 y3 y5 y7 y9) then none else (getI x0.Af x2).bind λ y12 => (Al1 rec46 y12.Needs x0 x1).bind λ y14 => some (!y14.1)
def A0q : Nat -> Aa -> Ab -> Int -> Option Bool
 | 0 => λ _ _ _ => none
 | n + 1 => A0r (A0q n)
def F46 (x0 : Aa) (x1 : Ab) (x2 : Int) : Option Bool := A0q 1000 x0 x1 x2
def As3 (x0 : Fr) : Bool :=
 ((decide ((max x0.X x0.Y) <= 5000)) && (decide ((min x0.X x0.Y) >= (-5000))))
def A0s (x0 : Int) (x1 : Int) : Option Int :=
 (nzI x1).bind λ u2 => (nzI x1).bind λ u4 => bif decide ((Int.tmod x0 x1) < 0) then none else some (w64 (Int.tdiv x0 x1))
def A0t (x0 : Int) (x1 : Int) : Option Int :=
 (A0s (w64 (0 - x0)) x1).bind λ y1 => some (w64 (0 - y1))
def Az5 (x0 : Int) (x1 : Int) : Bool := ((((decide (x0 < (-1000000000000000000))) || (decide (x0 > 1000000000000000000))) || (decide (x1 < 1))) || (decide (x1 > 1000000000)))
def Alf (x0 : Int) (x1 : Int) : Option (Int × Int) :=
 bif (Az5 x0 x1) then none else (A0t x0 x1).bind λ y2 => some (y2, 0)
def A0v (x0 : Int) (x1 : Int) : Option (Int × Int) :=
 (Alf x0 x1).bind λ y1 => some (y1.1, y1.2)
def A00 (x0 : By) (x1 : Fr) : Option (Int × Int) :=
 (F94 x0).bind λ y1 => bif ((!y1) || (!(As3 x1))) then none else (A0v (w64 ((w64 ((w64 (x1.X * x1.X)) + (w64 (x1.Y * x1.Y)))) * x0.Cost)) 1000).bind λ y4 => some (y4.1, y4.2)
def A7z (x0 : Int) : Bool := ((decide (x0 < 0)) || (decide (x0 > 1000000000000000000)))
def A7y (x0 : Int) (z0 : Int × Int) : Bool := decide ((w64 ((w64 (Int.tdiv (w64 ((w64 (z0.1 + z0.2)) + 1)) 2)) * (w64 (Int.tdiv (w64 ((w64 (z0.1 + z0.2)) + 1)) 2)))) <= x0)
def Apz (x0 : Int) (z0 : Int × Int) : Option (Ctl (Int × Int) Unit) :=
 bif decide (z0.1 < z0.2) then bif (A7y x0 z0) then some (.next (w64 (Int.tdiv (w64 ((w64 (z0.1 + z0.2)) + 1)) 2), z0.2)) else some (.next (z0.1, w64 ((w64 (Int.tdiv (w64 ((w64 (z0.1 + z0.2)) + 1)) 2)) - 1))) else some (.brk (z0.1, z0.2))
def A0z (x0 : Int) : Option (Int × Int) :=
 bif (A7z x0) then none else andThen (whileN (Apz x0) 1152921504606846976 (0, 1000000000)) (λ _ => none) λ z0 => some (z0.1, 0)
def F47 (x0 : By) (x1 : Int) : Option Int :=
 (A00 x0 (⟨x0.Max, 0⟩ : Fr)).bind λ y1 => bif ((y1.2 != 0) || (decide (x1 < 0))) then none else bif decide (x1 >= y1.1) then none else (nzI x0.Cost).bind λ u6 => (A0z (w64 (Int.tdiv (w64 (1000 * x1)) x0.Cost))).bind λ y7 => some y7.1
def Ax5 (x1 : Aa) (x2 : Ab) (n0 : Nat) (a0 : By) (z0 : (List Int)) : Option (Ctl ((List Int)) Unit) :=
 (Asv x1.Af (cnt 0 n0)).bind λ y9 => (A4 [(decide (y9.1 >= 0), true)] (F46 x1 x2 y9.1) default).bind λ y11 => bif ((decide (y9.1 >= 0)) && y11) then (getI x2.Aq y9.1).bind λ y14 => (F47 a0 y14).bind λ y16 => (getI z0 y9.2).bind λ y18 => (setI z0 y9.2 y16).bind λ y20 => some (.next y20) else none
def F15 (x0 : Fv) (x1 : Aa) (x2 : Ab) : Option ((List Int) × Int) :=
 (F42 x0).bind λ y1 => bif (y1 != 0) then none else (F43 x1 x2).bind λ y4 => bif (y4 != 0) then none else (mkI 9 (x0.De.length : Int) 0).bind λ y7 => andThen (foldI (Ax5 x1 x2) x0.De 0 y7) (λ _ => none) λ z0 => some (z0, 0)
def F90 (x0 : Ai) : Bool :=
 decide ((x0.Ac.length : Int) > 0)
def Aer (n0 : Nat) (a0 : Ai) (z0 : Unit) : Option (Ctl Unit Int) :=
 bif F90 a0 then some (.ret (cnt 0 n0)) else some (.next ())
def Als (x0 : List Ai) : Option Int :=
 andThen (foldI Aer x0 0 ()) some λ z0 => some (-1)
def Asq (x0 : List Ai) : Option Bool :=
 (Als x0).bind λ y1 => some (decide (y1 >= 0))
def F39 (x0 : Aa) (x1 : Ab) : Option Bool :=
 (F43 x0 x1).bind λ y1 => (A4 [((y1 == 0), true)] (F89 x0 x1) default).bind λ y3 => (A4 [((y1 == 0), true)] (Asq y3) default).bind λ y5 => some ((y1 == 0) && (!y5))
def F13  : Option Bool :=
 (F36 F35.1 F35.2).bind λ y1 => (F11 F35.1 F35.2 y1.1 [(⟨3, 0, 0⟩ : Ap), (⟨3, 1, 0⟩ : Ap), (⟨1, 0, 0⟩ : Ap), (⟨1, 1, 0⟩ : Ap), (⟨1, 2, 0⟩ : Ap)]).bind λ y3 => (F11 F35.1 F35.2 y3.1 [(⟨8, 1, 1⟩ : Ap)]).bind λ y5 => (F15 (⟨0, 1, [(⟨2, 0, 1000, 0, 1, ([] : List Df)⟩ : By)]⟩ : Fv) F35.1 y5.1.Power).bind λ y7 => (A4 [(((((((y1.2 == 0) && (y3.2.2 == 0)) && (y5.2.2 == 0)) && (y7.2 == 0)) && (y5.1.Time == 2)) && ((y5.2.1.length : Int) == 3)), true)] (F37 y5.1.Power.Ag [true, false, true]) default).bind λ y9 => (A4 [((((((((y1.2 == 0) && (y3.2.2 == 0)) && (y5.2.2 == 0)) && (y7.2 == 0)) && (y5.1.Time == 2)) && ((y5.2.1.length : Int) == 3)) && y9), true)] (F38 y5.1.Power.Aq [50]) default).bind λ y11 => (A4 [(((((((((y1.2 == 0) && (y3.2.2 == 0)) && (y5.2.2 == 0)) && (y7.2 == 0)) && (y5.1.Time == 2)) && ((y5.2.1.length : Int) == 3)) && y9) && y11), true)] (F38 y7.1 [223]) default).bind λ y13 => (A4 [((((((((((y1.2 == 0) && (y3.2.2 == 0)) && (y5.2.2 == 0)) && (y7.2 == 0)) && (y5.1.Time == 2)) && ((y5.2.1.length : Int) == 3)) && y9) && y11) && y13), true)] (F39 F35.1 y5.1.Power) default).bind λ y15 => some ((((((((((y1.2 == 0) && (y3.2.2 == 0)) && (y5.2.2 == 0)) && (y7.2 == 0)) && (y5.1.Time == 2)) && ((y5.2.1.length : Int) == 3)) && y9) && y11) && y13) && (!y15))
def A7t (y8 : (List Ab) × Int) (y10 : Az × (List Bg) × Int) (y14 : Bool) (y18 : Bool) : Bool := (((((y8.2 != 0) || (y10.2.2 != 0)) || (decide ((y8.1.length : Int) < 2))) || (!y14)) || (!y18))
def Ass (y3 : Y7) (y8 : (List Ab) × Int) (z1 : Int) : Option (Ctl Int Bool) :=
 bif decide (z1 < (y8.1.length : Int)) then (getI y8.1 (w64 (z1 - 1))).bind λ y22 => (getI y8.1 z1).bind λ y24 => (F20 y3.1 y22 y24).bind λ y26 => bif y26 then some (.ret false) else some (.next (w64 (z1 + 1))) else some (.brk z1)
def A7s (z0 : Sg1) (y10 : Az × (List Bg) × Int) (y29 : Int) : Bool := ((y29 != 0) || (y10.1.Time != (w64 (z0.2.2.2.2.2.2.2.2.2 + 1))))
def Ast (y3 : Y7) (z0 : Sg1) : Option (Ctl (Sg1) Bool) :=
 bif decide (z0.1 < 4) then (F10 (⟨z0.2.1, z0.2.2.1⟩ : Ah) y3.1 4).bind λ y6 => (vS y3.1 y3.2.1 (⟨z0.2.2.2.2.2.2.2.2.2, (⟨z0.2.2.2.1, z0.2.2.2.2.1, z0.2.2.2.2.2.1, z0.2.2.2.2.2.2.1⟩ : Ab), z0.2.2.2.2.2.2.2.1, z0.2.2.2.2.2.2.2.2.1⟩ : Az) y6.1).bind λ y8 => (F11 y3.1 y3.2.1 (⟨z0.2.2.2.2.2.2.2.2.2, (⟨z0.2.2.2.1, z0.2.2.2.2.1, z0.2.2.2.2.2.1, z0.2.2.2.2.2.2.1⟩ : Ab), z0.2.2.2.2.2.2.2.1, z0.2.2.2.2.2.2.2.2.1⟩ : Az) y6.1).bind λ y10 => (A4 [((((y8.2 != 0) || (y10.2.2 != 0)) || (decide ((y8.1.length : Int) < 2))), false)] (getI y8.1 0) default).bind λ y12 => (A4 [((((y8.2 != 0) || (y10.2.2 != 0)) || (decide ((y8.1.length : Int) < 2))), false)] (F19 y12 (⟨z0.2.2.2.1, z0.2.2.2.2.1, z0.2.2.2.2.2.1, z0.2.2.2.2.2.2.1⟩ : Ab)) default).bind λ y14 => (A4 [(((((y8.2 != 0) || (y10.2.2 != 0)) || (decide ((y8.1.length : Int) < 2))) || (!y14)), false)] (getI y8.1 (w64 ((y8.1.length : Int) - 1))) default).bind λ y16 => (A4 [(((((y8.2 != 0) || (y10.2.2 != 0)) || (decide ((y8.1.length : Int) < 2))) || (!y14)), false)] (F19 y16 y10.1.Power) default).bind λ y18 => bif (A7t y8 y10 y14 y18) then some (.ret false) else andThen (whileN (Ass y3 y8) 1152921504606846976 1) (λ v => some (.ret v)) λ z1 => (F21 y3.1 y3.2.1 y10.1).bind λ y29 => bif (A7s z0 y10 y29) then some (.ret false) else some (.next (w64 (z0.1 + 1), y6.2.L, y6.2.At, y10.1.Power.Ag, y10.1.Power.Ac, y10.1.Power.Aq, y10.1.Power.Ao, y10.1.A5, y10.1.A6, y10.1.Time)) else some (.brk (z0.1, z0.2.1, z0.2.2.1, z0.2.2.2.1, z0.2.2.2.2.1, z0.2.2.2.2.2.1, z0.2.2.2.2.2.2.1, z0.2.2.2.2.2.2.2.1, z0.2.2.2.2.2.2.2.2.1, z0.2.2.2.2.2.2.2.2.2))
def F5 (x0 : List Int) : Option Bool :=
 (F8 x0).bind λ y1 => (F9 y1).bind λ y3 => andThen (whileN (Ast y3) 7 (0, y3.2.2.2.L, y3.2.2.2.At, y3.2.2.1.Power.Ag, y3.2.2.1.Power.Ac, y3.2.2.1.Power.Aq, y3.2.2.1.Power.Ao, y3.2.2.1.A5, y3.2.2.1.A6, y3.2.2.1.Time)) some λ z0 => (F13).bind λ y32 => some y32
end Go.Proofs.YthgnbpdjncbkfaaGreat
