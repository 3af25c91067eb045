import Derived.Test.YtkngbnedbgndoaaGreatTy
set_option linter.unusedVariables false
namespace Go.Proofs.YtkngbnedbgndoaaGreat
open Go.SL
abbrev Sg0 := Int × (List Bool) × (List api_Running) × (List Int) × (List api_Part)
abbrev Sg1 := Int × (List Int) × Int × (List api_Breaker)
abbrev Sg2 := Int × (List Int) × Int × (List api_Breaker) × (List api_Consumer)
abbrev Sg3 := Int × (List Int) × Int × (List api_Breaker) × (List api_Source)
abbrev Sg4 := Int × (List Int) × Int × (List api_Running)
abbrev Sg5 := Int × (List api_Breaker) × (List api_Source) × (List api_Consumer) × Int × Int × (List Bool) × (List api_Running) × (List Int) × (List api_Part) × (List Bool) × (List api_Act)
abbrev Sg6 := Int × (List api_Breaker) × (List api_Source) × (List api_Consumer) × Int × Int × (List Bool) × (List api_Running) × (List Int) × (List api_Part) × (List api_Act)
abbrev Sg7 := Int × (List api_Running) × (List api_Act)
abbrev Sg8 := Int × Int × (List api_Breaker) × (List api_Source) × (List api_Consumer) × Int × Int × (List Bool) × (List api_Running) × (List Int) × (List api_Part) × (List Bool) × (List api_Act)
def F15 (x0 : List Int) : Option dynposmake_Src :=
 (cutI x0 0 (min (x0.length : Int) 600)).bind fun y2 => some (⟨y2, 0⟩ : dynposmake_Src)
def F127 (x0 : Int) (x1 : Int) : Option Int :=
 bif decide (x1 < 1) then some 0 else (nzI x1).bind fun u3 => (nzI x1).bind fun u5 => some (Int.tmod (w64 ((Int.tmod x0 x1) + x1)) x1)
def F63 (x0 : dynposmake_Src) (x1 : Int) : Option (Int × dynposmake_Src) :=
 bif decide (x0.At ≥ (x0.L.length : Int)) then some (0, x0) else (getI x0.L (w64 ((w64 (x0.At + 1)) - 1))).bind fun y2 => (F127 y2 x1).bind fun y4 => some (y4, (⟨x0.L, w64 (x0.At + 1)⟩ : dynposmake_Src))
def F61 (x0 : dynposmake_Src) (x1 : Int) (x2 : Int) : Option (Int × dynposmake_Src) :=
 (F63 x0 (w64 ((w64 (x2 - x1)) + 1))).bind fun y1 => some (w64 (x1 + y1.1), y1.2)
def F62 (x0 : dynposmake_Src) (x1 : List Int) : Option (Int × dynposmake_Src) :=
 (F63 x0 (x1.length : Int)).bind fun y1 => (getI x1 y1.1).bind fun y3 => some (y3, y1.2)
def F16_l0 (y1 : Int × dynposmake_Src) (z0 : Sg1) : Option (Ctl (Sg1) Unit) :=
 bif decide (z0.1 < y1.1) then (F63 (⟨z0.2.1, z0.2.2.1⟩ : dynposmake_Src) 6).bind fun y8 => bif decide (y8.1 < 5) then (F63 y8.2 z0.1).bind fun y11 => (appI 25 z0.2.2.2 [(⟨1, y11.1, z0.1⟩ : api_Breaker)]).bind fun y13 => some (.next (w64 (z0.1 + 1), y11.2.L, y11.2.At, y13)) else some (.next (w64 (z0.1 + 1), y8.2.L, y8.2.At, z0.2.2.2)) else some (.brk (z0.1, z0.2.1, z0.2.2.1, z0.2.2.2))
def F16_m1 (y1 : Int × dynposmake_Src) (z0 : Sg1) (y15 : Int × dynposmake_Src) : Option (Ctl ((List api_Breaker)) Unit) :=
 bif ((decide (y1.1 > 2)) && (y15.1 == 1)) then (appI 25 z0.2.2.2 [(⟨1, 0, w64 (y1.1 - 1)⟩ : api_Breaker)]).bind fun y18 => some (.next y18) else some (.next z0.2.2.2)
def F16_l2 (y1 : Int × dynposmake_Src) (z2 : Sg3) : Option (Ctl (Sg3) Unit) :=
 bif decide (z2.1 > 0) then (F63 (⟨z2.2.1, z2.2.2.1⟩ : dynposmake_Src) y1.1).bind fun y23 => (appI 25 z2.2.2.2.1 [(⟨2, y23.1, (z2.2.2.2.2.length : Int)⟩ : api_Breaker)]).bind fun y25 => (F62 y23.2 [10, 50, 100]).bind fun y27 => (F62 y27.2 [0, 5, y27.1]).bind fun y29 => (F62 y29.2 [0, 1, 3]).bind fun y31 => (appI 25 z2.2.2.2.2 [(⟨y27.1, y29.1, y31.1⟩ : api_Source)]).bind fun y33 => some (.next (w64 (z2.1 - 1), y31.2.L, y31.2.At, y25, y33)) else some (.brk (z2.1, z2.2.1, z2.2.2.1, z2.2.2.2.1, z2.2.2.2.2))
def F16_m4 (y1 : Int × dynposmake_Src) (z3 : Sg2) (y38 : Int × dynposmake_Src) (y40 : List api_Breaker) (y42 : Int × dynposmake_Src) : Option (Ctl ((List api_Breaker)) Unit) :=
 bif ((decide (y1.1 > 1)) && (y42.1 == 3)) then (nzI y1.1).bind fun u46 => (appI 25 y40 [(⟨3, Int.tmod (w64 (y38.1 + 1)) y1.1, (z3.2.2.2.2.length : Int)⟩ : api_Breaker)]).bind fun y47 => some (.next y47) else some (.next y40)
def c16_2 (z3 : Sg2) (y57 : Int × dynposmake_Src) : Bool := ((decide ((z3.2.2.2.2.length : Int) > 0)) && (y57.1 == 3))
def F16_l3 (y1 : Int × dynposmake_Src) (z3 : Sg2) : Option (Ctl (Sg2) Unit) :=
 bif decide (z3.1 > 0) then (F63 (⟨z3.2.1, z3.2.2.1⟩ : dynposmake_Src) y1.1).bind fun y38 => (appI 25 z3.2.2.2.1 [(⟨3, y38.1, (z3.2.2.2.2.length : Int)⟩ : api_Breaker)]).bind fun y40 => (guardO [(decide (y1.1 > 1), true)] (F63 y38.2 4) (default, y38.2)).bind fun y42 => andThen (F16_m4 y1 z3 y38 y40 y42) (fun _ => none) fun z4 => (F62 y42.2 [0, 5, 20, 40]).bind fun y49 => (F62 y49.2 [0, w64 (Int.tdiv y49.1 2), y49.1]).bind fun y51 => (F63 y51.2 3).bind fun y53 => (F61 y53.2 (-1) 2).bind fun y55 => (guardO [(decide ((z3.2.2.2.2.length : Int) > 0), true)] (F63 y55.2 4) (default, y55.2)).bind fun y57 => bif (c16_2 z3 y57) then (F63 y57.2 (z3.2.2.2.2.length : Int)).bind fun y60 => (appI 57 z3.2.2.2.2 [(⟨y49.1, y51.1, y53.1, y55.1, [y60.1]⟩ : api_Consumer)]).bind fun y62 => some (.next (w64 (z3.1 - 1), y60.2.L, y60.2.At, z4, y62)) else (appI 57 z3.2.2.2.2 [(⟨y49.1, y51.1, y53.1, y55.1, ([] : List Int)⟩ : api_Consumer)]).bind fun y64 => some (.next (w64 (z3.1 - 1), y57.2.L, y57.2.At, z4, y64)) else some (.brk (z3.1, z3.2.1, z3.2.2.1, z3.2.2.2.1, z3.2.2.2.2))
def F16 (x0 : dynposmake_Src) : Option (api_Board × dynposmake_Src) :=
 (F61 x0 1 4).bind fun y1 => (F62 y1.2 [0, 50, 200, 1800]).bind fun y3 => (F62 y3.2 [0, 10, 50]).bind fun y5 => andThen (whileN (F16_l0 y1) 1152921504606846976 (1, y5.2.L, y5.2.At, ([] : List api_Breaker))) (fun _ => none) fun z0 => (guardO [(decide (y1.1 > 2), true)] (F63 (⟨z0.2.1, z0.2.2.1⟩ : dynposmake_Src) 2) (default, (⟨z0.2.1, z0.2.2.1⟩ : dynposmake_Src))).bind fun y15 => andThen (F16_m1 y1 z0 y15) (fun _ => none) fun z1 => (F63 y15.2 5).bind fun y20 => andThen (whileN (F16_l2 y1) 1152921504606846976 (y20.1, y20.2.L, y20.2.At, z1, ([] : List api_Source))) (fun _ => none) fun z2 => (F63 (⟨z2.2.1, z2.2.2.1⟩ : dynposmake_Src) 6).bind fun y35 => andThen (whileN (F16_l3 y1) 1152921504606846976 (y35.1, y35.2.L, y35.2.At, z2.2.2.2.1, ([] : List api_Consumer))) (fun _ => none) fun z3 => some ((⟨y1.1, z3.2.2.2.1, z2.2.2.2.2, z3.2.2.2.2, y3.1, y5.1⟩ : api_Board), (⟨z3.2.1, z3.2.2.1⟩ : dynposmake_Src))
def F77 (x0 : Int) (x1 : Int) (x2 : Int) : Bool :=
 ((decide (x0 ≥ x1)) && (decide (x0 ≤ x2)))
def F64 (x0 : api_Board) (x1 : api_Part) : Bool :=
 bif (x1.Kind == 1) then F77 x1.Number 0 (w64 ((x0.Sources.length : Int) - 1)) else bif (x1.Kind == 2) then F77 x1.Number 0 (w64 ((x0.Breakers.length : Int) - 1)) else bif (x1.Kind == 3) then F77 x1.Number 0 (w64 (x0.Buses - 1)) else bif (x1.Kind == 4) then F77 x1.Number 0 (w64 ((x0.Consumers.length : Int) - 1)) else false
def c17s1_1 (x1 : api_Board) (z0 : Int × (List Int) × Int × (List Bool)) : Bool := decide (z0.1 < (x1.Breakers.length : Int))
def F17s1_l0 (x1 : api_Board) (z0 : Int × (List Int) × Int × (List Bool)) : Option (Ctl (Int × (List Int) × Int × (List Bool)) Unit) :=
 bif (c17s1_1 x1 z0) then (F63 (⟨z0.2.1, z0.2.2.1⟩ : dynposmake_Src) 2).bind fun y2 => (appI 2 z0.2.2.2 [(y2.1 == 1)]).bind fun y4 => some (.next (w64 (z0.1 + 1), y2.2.L, y2.2.At, y4)) else some (.brk (z0.1, z0.2.1, z0.2.2.1, z0.2.2.2))
def c17s1_9 (x1 : api_Board) (z1 : Int × (List Bool)) : Bool := decide (z1.1 < (x1.Consumers.length : Int))
def c17s1_12 (z1 : Int × (List Bool)) (a2 : api_Breaker) (y7 : Bool) : Bool := (((a2.Kind == 3) && (a2.B == z1.1)) && y7)
def F17s1_l2 (z1 : Int × (List Bool)) (n2 : Nat) (a2 : api_Breaker) (z2 : Bool × (List Bool)) : Option (Ctl (Bool × (List Bool)) Unit) :=
 (guardO [(((a2.Kind == 3) && (a2.B == z1.1)), true)] (getI z2.2 (cnt 0 n2)) default).bind fun y7 => bif (c17s1_12 z1 a2 y7) then (getI z2.2 (cnt 0 n2)).bind fun y10 => (setI z2.2 (cnt 0 n2) z2.1).bind fun y12 => some (.next (false, y12)) else some (.next (z2.1, z2.2))
def F17s1_l1 (x1 : api_Board) (z1 : Int × (List Bool)) : Option (Ctl (Int × (List Bool)) Unit) :=
 bif (c17s1_9 x1 z1) then andThen (foldI (F17s1_l2 z1) x1.Breakers 0 (true, z1.2)) (fun _ => none) fun z2 => some (.next (w64 (z1.1 + 1), z2.2)) else some (.brk (z1.1, z1.2))
def c17s1_14 (x1 : api_Board) (z3 : Sg4) : Bool := decide (z3.1 < (x1.Sources.length : Int))
def F17s1_l3 (x1 : api_Board) (z3 : Sg4) : Option (Ctl (Sg4) Unit) :=
 bif (c17s1_14 x1 z3) then (F62 (⟨z3.2.1, z3.2.2.1⟩ : dynposmake_Src) [0, 1, 2, 2, 2, 3]).bind fun y15 => (F63 y15.2 5).bind fun y17 => (F62 y17.2 [5000, 5000, 5005, 4950]).bind fun y19 => (F62 y19.2 [0, 0, 40, 1800, 3590]).bind fun y21 => (appI 33 z3.2.2.2 [(⟨y15.1, y17.1, y19.1, y21.1⟩ : api_Running)]).bind fun y23 => some (.next (w64 (z3.1 + 1), y21.2.L, y21.2.At, y23)) else some (.brk (z3.1, z3.2.1, z3.2.2.1, z3.2.2.2))
def F17s1_l4 (n4 : Nat) (a4 : api_Consumer) (z4 : (List Int) × Int × (List Int)) : Option (Ctl ((List Int) × Int × (List Int)) Unit) :=
 (F62 (⟨z4.1, z4.2.1⟩ : dynposmake_Src) [a4.Load, a4.Load, a4.Least, w64 (Int.tdiv a4.Load 3)]).bind fun y25 => (appI 9 z4.2.2 [y25.1]).bind fun y27 => some (.next (y25.2.L, y25.2.At, y27))
def F17s1_l5 (x1 : api_Board) (z5 : Int × (List Int) × Int × (List api_Part)) : Option (Ctl (Int × (List Int) × Int × (List api_Part)) Unit) :=
 bif decide (z5.1 ≤ 4) then (F63 (⟨z5.2.1, z5.2.2.1⟩ : dynposmake_Src) 5).bind fun y30 => bif (y30.1 == 4) then (F63 y30.2 4).bind fun y33 => bif F64 x1 (⟨z5.1, y33.1⟩ : api_Part) then (appI 17 z5.2.2.2 [(⟨z5.1, y33.1⟩ : api_Part)]).bind fun y36 => some (.next (w64 (z5.1 + 1), y33.2.L, y33.2.At, y36)) else some (.next (w64 (z5.1 + 1), y33.2.L, y33.2.At, z5.2.2.2)) else some (.next (w64 (z5.1 + 1), y30.2.L, y30.2.At, z5.2.2.2)) else some (.brk (z5.1, z5.2.1, z5.2.2.1, z5.2.2.2))
def F17s1 (x0 : dynposmake_Src) (x1 : api_Board) : Option (api_Power × dynposmake_Src) :=
 andThen (whileN (F17s1_l0 x1) 1152921504606846976 (0, x0.L, x0.At, ([] : List Bool))) (fun _ => none) fun z0 => andThen (whileN (F17s1_l1 x1) 1152921504606846976 (0, z0.2.2.2)) (fun _ => none) fun z1 => andThen (whileN (F17s1_l3 x1) 1152921504606846976 (0, z0.2.1, z0.2.2.1, ([] : List api_Running))) (fun _ => none) fun z3 => andThen (foldI F17s1_l4 x1.Consumers 0 (z3.2.1, z3.2.2.1, ([] : List Int))) (fun _ => none) fun z4 => andThen (whileN (F17s1_l5 x1) 7 (1, z4.1, z4.2.1, ([] : List api_Part))) (fun _ => none) fun z5 => some ((⟨z1.2, z3.2.2.2, z4.2.2, z5.2.2.2⟩ : api_Power), (⟨z5.2.1, z5.2.2.1⟩ : dynposmake_Src))
def c79_2 (x1 : Int) (x2 : Int) (a0 : api_Breaker) : Bool := ((a0.Kind == x1) && ((a0.B == x2) || ((x1 == 1) && (a0.A == x2))))
def F79_l0 (x1 : Int) (x2 : Int) (n0 : Nat) (a0 : api_Breaker) (z0 : (List Int)) : Option (Ctl ((List Int)) Unit) :=
 bif (c79_2 x1 x2 a0) then (appI 9 z0 [cnt 0 n0]).bind fun y2 => some (.next y2) else some (.next z0)
def F79 (x0 : api_Board) (x1 : Int) (x2 : Int) : Option ((List Int)) :=
 andThen (foldI (F79_l0 x1 x2) x0.Breakers 0 ([] : List Int)) (fun _ => none) fun z0 => some z0
def c151_5 (x0 : api_Board) (a0 : api_Breaker) : Bool := !(F77 a0.B (w64 (a0.A + 1)) (w64 (x0.Buses - 1)))
def c151_6 (x0 : api_Board) (a0 : api_Breaker) : Bool := !(F77 a0.B 0 (w64 ((x0.Sources.length : Int) - 1)))
def c151_7 (x0 : api_Board) (a0 : api_Breaker) : Bool := !(F77 a0.B 0 (w64 ((x0.Consumers.length : Int) - 1)))
def c151_9 (a0 : api_Breaker) (a1 : api_Breaker) : Bool := ((a1.Kind == a0.Kind) && ((a1.A == a0.A) && ((a1.B == a0.B) && true)))
def F151_l1 (a0 : api_Breaker) (n1 : Nat) (a1 : api_Breaker) (z1 : Unit) : Option (Ctl Unit Bool) :=
 bif (c151_9 a0 a1) then some (.ret false) else some (.next ())
def F151_l0 (x0 : api_Board) (n0 : Nat) (a0 : api_Breaker) (z0 : Unit) : Option (Ctl Unit Bool) :=
 bif !(F77 a0.A 0 (w64 (x0.Buses - 1))) then some (.ret false) else bif (a0.Kind == 1) then bif (c151_5 x0 a0) then some (.ret false) else some (.next ()) else bif (a0.Kind == 2) then bif (c151_6 x0 a0) then some (.ret false) else some (.next ()) else bif (a0.Kind == 3) then bif (c151_7 x0 a0) then some (.ret false) else (cutI x0.Breakers 0 (cnt 0 n0)).bind fun y9 => andThen (foldI (F151_l1 a0) y9 0 ()) (fun v => some (.ret v)) fun z1 => some (.next ()) else some (.ret false)
def c151_11 (x0 : api_Board) (z2 : Int) : Bool := decide (z2 < (x0.Sources.length : Int))
def F151_l2 (x0 : api_Board) (z2 : Int) : Option (Ctl Int Bool) :=
 bif (c151_11 x0 z2) then (F79 x0 2 z2).bind fun y12 => bif ((y12.length : Int) != 1) then some (.ret false) else some (.next (w64 (z2 + 1))) else some (.brk z2)
def c151_13 (x0 : api_Board) (z3 : Int) : Bool := decide (z3 < (x0.Consumers.length : Int))
def F151_l3 (x0 : api_Board) (z3 : Int) : Option (Ctl Int Bool) :=
 bif (c151_13 x0 z3) then (F79 x0 3 z3).bind fun y16 => bif decide ((y16.length : Int) < 1) then some (.ret false) else some (.next (w64 (z3 + 1))) else some (.brk z3)
def F151 (x0 : api_Board) : Option Bool :=
 andThen (foldI (F151_l0 x0) x0.Breakers 0 ()) some fun z0 => andThen (whileN (F151_l2 x0) 1152921504606846976 0) some fun z2 => andThen (whileN (F151_l3 x0) 1152921504606846976 0) some fun z3 => some true
def c152_1 (a0 : api_Source) : Bool := (((!(F77 a0.Rating 1 50000)) || (!(F77 a0.Least 0 a0.Rating))) || (!(F77 a0.Start 0 600)))
def F152_l0 (n0 : Nat) (a0 : api_Source) (z0 : Unit) : Option (Ctl Unit Bool) :=
 bif (c152_1 a0) then some (.ret false) else some (.next ())
def F152 (x0 : api_Board) : Option Bool :=
 andThen (foldI F152_l0 x0.Sources 0 ()) some fun z0 => some true
def c153_3 (a0 : api_Consumer) : Bool := (((((!(F77 a0.Load 0 50000)) || (!(F77 a0.Least 0 a0.Load))) || (!(F77 a0.Preference 0 15))) || (!(F77 a0.Thruster (-1) 7))) || (decide ((a0.Needs.length : Int) > 4)))
def c153_5 (n0 : Nat) (n1 : Nat) (a1 : Int) (y2 : Int) : Bool := ((!(F77 a1 0 (w64 ((cnt 0 n0) - 1)))) || ((decide ((cnt 0 n1) > 0)) && (decide (y2 ≥ a1))))
def F153_l1 (n0 : Nat) (a0 : api_Consumer) (n1 : Nat) (a1 : Int) (z1 : Unit) : Option (Ctl Unit Bool) :=
 (guardO [(!(F77 a1 0 (w64 ((cnt 0 n0) - 1))), false), (decide ((cnt 0 n1) > 0), true)] (getI a0.Needs (w64 ((cnt 0 n1) - 1))) default).bind fun y2 => bif (c153_5 n0 n1 a1 y2) then some (.ret false) else some (.next ())
def F153_l0 (n0 : Nat) (a0 : api_Consumer) (z0 : Unit) : Option (Ctl Unit Bool) :=
 bif (c153_3 a0) then some (.ret false) else andThen (foldI (F153_l1 n0 a0) a0.Needs 0 ()) (fun v => some (.ret v)) fun z1 => some (.next ())
def F153 (x0 : api_Board) : Option Bool :=
 andThen (foldI F153_l0 x0.Consumers 0 ()) some fun z0 => some true
def c76_0 (x0 : api_Board) : Bool := (((((decide (x0.Buses < 1)) || (decide (x0.Buses > 6))) || (decide ((x0.Breakers.length : Int) > 24))) || (decide ((x0.Sources.length : Int) > 8))) || (decide ((x0.Consumers.length : Int) > 16)))
def c76_1 (x0 : api_Board) (y2 : Bool) (y4 : Bool) (y6 : Bool) : Bool := (((((((!y2) || (!y4)) || (!y6)) || (decide (x0.Phase < 0))) || (decide (x0.Phase > 1800))) || (decide (x0.Frequency < 0))) || (decide (x0.Frequency > 6000)))
def F76 (x0 : api_Board) : Option Int :=
 bif (c76_0 x0) then some 2 else (F151 x0).bind fun y2 => (guardO [(!y2, false)] (F152 x0) default).bind fun y4 => (guardO [(((!y2) || (!y4)), false)] (F153 x0) default).bind fun y6 => bif (c76_1 x0 y2 y4 y6) then some 14 else some 0
def F78 (x0 : api_Part) (x1 : api_Part) : Bool :=
 ((decide (x0.Kind < x1.Kind)) || ((x0.Kind == x1.Kind) && (decide (x0.Number < x1.Number))))
def c27_0 (x0 : api_Board) (x1 : api_Power) : Bool := ((((x1.Closed.length : Int) != (x0.Breakers.length : Int)) || ((x1.Sources.length : Int) != (x0.Sources.length : Int))) || ((x1.Limits.length : Int) != (x0.Consumers.length : Int)))
def c27_2 (a0 : api_Running) : Bool := ((((!(F77 a0.State 0 3)) || (!(F77 a0.Since 0 2147483648))) || (!(F77 a0.Frequency 0 6000))) || (!(F77 a0.Phase 0 3599)))
def F27_l0 (n0 : Nat) (a0 : api_Running) (z0 : Unit) : Option (Ctl Unit Int) :=
 bif (c27_2 a0) then some (.ret 11) else some (.next ())
def F27_l1 (x0 : api_Board) (n1 : Nat) (a1 : Int) (z1 : Unit) : Option (Ctl Unit Int) :=
 (getI x0.Consumers (cnt 0 n1)).bind fun y6 => bif !(F77 a1 0 y6.Load) then some (.ret 11) else some (.next ())
def c27_4 (x0 : api_Board) (n2 : Nat) (a2 : api_Part) (y10 : api_Part) : Bool := ((!(F64 x0 a2)) || ((decide ((cnt 0 n2) > 0)) && (!(F78 y10 a2))))
def F27_l2 (x0 : api_Board) (x1 : api_Power) (n2 : Nat) (a2 : api_Part) (z2 : Unit) : Option (Ctl Unit Int) :=
 (guardO [(!(F64 x0 a2), false), (decide ((cnt 0 n2) > 0), true)] (getI x1.Broken (w64 ((cnt 0 n2) - 1))) default).bind fun y10 => bif (c27_4 x0 n2 a2 y10) then some (.ret 11) else some (.next ())
def c27_6 (x0 : api_Board) (z3 : Int) : Bool := decide (z3 < (x0.Consumers.length : Int))
def F27_l4 (x1 : api_Power) (n4 : Nat) (a4 : Int) (z4 : Int) : Option (Ctl Int Unit) :=
 (getI x1.Closed a4).bind fun y16 => bif y16 then some (.next (w64 (z4 + 1))) else some (.next z4)
def F27_l3 (x0 : api_Board) (x1 : api_Power) (z3 : Int) : Option (Ctl Int Int) :=
 bif (c27_6 x0 z3) then (F79 x0 3 z3).bind fun y14 => andThen (foldI (F27_l4 x1) y14 0 0) (fun _ => none) fun z4 => bif decide (z4 > 1) then some (.ret 11) else some (.next (w64 (z3 + 1))) else some (.brk z3)
def F27 (x0 : api_Board) (x1 : api_Power) : Option Int :=
 (F76 x0).bind fun y1 => bif (y1 != 0) then some y1 else bif (c27_0 x0 x1) then some 8 else andThen (foldI F27_l0 x1.Sources 0 ()) some fun z0 => andThen (foldI (F27_l1 x0) x1.Limits 0 ()) some fun z1 => bif decide ((x1.Broken.length : Int) > 32) then some 11 else andThen (foldI (F27_l2 x0 x1) x1.Broken 0 ()) some fun z2 => andThen (whileN (F27_l3 x0 x1) 1152921504606846976 0) some fun z3 => some 0
def F20 (x0 : api_Power) : Option api_Power :=
 (appI 2 ([] : List Bool) x0.Closed).bind fun y1 => (appI 33 ([] : List api_Running) x0.Sources).bind fun y3 => (appI 9 ([] : List Int) x0.Limits).bind fun y5 => (appI 17 ([] : List api_Part) x0.Broken).bind fun y7 => some (⟨y1, y3, y5, y7⟩ : api_Power)
def c171_8 (a1 : api_Breaker) (y7 : Bool) (y9 : Bool) (y11 : Bool) : Bool := (((a1.Kind == 1) && y7) && (y9 || y11))
def F171_l1 (x1 : api_Power) (n1 : Nat) (a1 : api_Breaker) (z1 : (List Bool)) : Option (Ctl ((List Bool)) Unit) :=
 (guardO [((a1.Kind == 1), true)] (getI x1.Closed (cnt 0 n1)) default).bind fun y7 => (guardO [(((a1.Kind == 1) && y7), true)] (getI z1 a1.A) default).bind fun y9 => (guardO [(((a1.Kind == 1) && y7), true), (y9, false)] (getI z1 a1.B) default).bind fun y11 => bif (c171_8 a1 y7 y9 y11) then (getI z1 a1.A).bind fun y14 => (setI z1 a1.A true).bind fun y16 => (getI y16 a1.B).bind fun y18 => (setI y16 a1.B true).bind fun y20 => some (.next y20) else some (.next z1)
def F171_l0 (x0 : api_Board) (x1 : api_Power) (n0 : Nat) (a0 : Bool) (z0 : (List Bool)) : Option (Ctl ((List Bool)) Unit) :=
 andThen (foldI (F171_l1 x1) x0.Breakers 0 z0) (fun _ => none) fun z1 => some (.next z1)
def F171_l2 (n2 : Nat) (a2 : Bool) (z2 : (List Int)) : Option (Ctl ((List Int)) Unit) :=
 bif a2 then (appI 9 z2 [cnt 0 n2]).bind fun y23 => some (.next y23) else some (.next z2)
def F171 (x0 : api_Board) (x1 : api_Power) (x2 : Int) : Option ((List Int)) :=
 (mkI 2 x0.Buses false).bind fun y1 => (getI y1 x2).bind fun y3 => (setI y1 x2 true).bind fun y5 => andThen (foldI (F171_l0 x0 x1) y5 0 y5) (fun _ => none) fun z0 => andThen (foldI F171_l2 z0 0 ([] : List Int)) (fun _ => none) fun z2 => some z2
def c60_0 (x0 : api_Board) (x2 : Int) (y1 : Int) (y3 : api_Running) : Bool := ((((y1 != 0) || (decide (x2 < 0))) || (decide (x2 ≥ (x0.Sources.length : Int)))) || (y3.State != 2))
def F60 (x0 : api_Board) (x1 : api_Power) (x2 : Int) : Option (Int × Bool) :=
 (F27 x0 x1).bind fun y1 => (guardO [((((y1 != 0) || (decide (x2 < 0))) || (decide (x2 ≥ (x0.Sources.length : Int)))), false)] (getI x1.Sources x2) default).bind fun y3 => bif (c60_0 x0 x2 y1 y3) then some (0, false) else (F79 x0 2 x2).bind fun y6 => (getI y6 0).bind fun y8 => (getI x1.Closed y8).bind fun y10 => bif !y10 then some (0, false) else (getI x0.Breakers y8).bind fun y13 => some (y13.A, true)
def F93_l0 (x1 : Int) (n0 : Nat) (a0 : Int) (z0 : Unit) : Option (Ctl Unit Bool) :=
 bif (a0 == x1) then some (.ret true) else some (.next ())
def F93 (x0 : List Int) (x1 : Int) : Option Bool :=
 andThen (foldI (F93_l0 x1) x0 0 ()) some fun z0 => some false
def c32_0 (x0 : api_Board) (x2 : Int) (y1 : Int) : Bool := (((y1 != 0) || (decide (x2 < 0))) || (decide (x2 ≥ (x0.Consumers.length : Int))))
def F32_l0 (x0 : api_Board) (x1 : api_Power) (n0 : Nat) (a0 : Int) (z0 : Unit) : Option (Ctl Unit (Int × Bool)) :=
 (getI x1.Closed a0).bind fun y6 => bif y6 then (getI x0.Breakers a0).bind fun y9 => some (.ret (y9.A, true)) else some (.next ())
def F32 (x0 : api_Board) (x1 : api_Power) (x2 : Int) : Option (Int × Bool) :=
 (F27 x0 x1).bind fun y1 => bif (c32_0 x0 x2 y1) then some (0, false) else (F79 x0 3 x2).bind fun y4 => andThen (foldI (F32_l0 x0 x1) y4 0 ()) some fun z0 => some (0, false)
def c91_0 (x0 : api_Board) (x2 : Int) (y1 : Int) : Bool := (((y1 != 0) || (decide (x2 < 0))) || (decide (x2 ≥ x0.Buses)))
def c91_2 (x0 : api_Board) (z0 : Int × (List Int)) : Bool := decide (z0.1 < (x0.Sources.length : Int))
def F91_l0 (x0 : api_Board) (x1 : api_Power) (y4 : (List Int)) (z0 : Int × (List Int)) : Option (Ctl (Int × (List Int)) Unit) :=
 bif (c91_2 x0 z0) then (F60 x0 x1 z0.1).bind fun y7 => (guardO [(y7.2, true)] (F93 y4 y7.1) default).bind fun y9 => bif (y7.2 && y9) then (appI 9 z0.2 [z0.1]).bind fun y12 => some (.next (w64 (z0.1 + 1), y12)) else some (.next (w64 (z0.1 + 1), z0.2)) else some (.brk (z0.1, z0.2))
def c91_4 (x0 : api_Board) (z1 : Int × (List Int)) : Bool := decide (z1.1 < (x0.Consumers.length : Int))
def F91_l1 (x0 : api_Board) (x1 : api_Power) (y4 : (List Int)) (z1 : Int × (List Int)) : Option (Ctl (Int × (List Int)) Unit) :=
 bif (c91_4 x0 z1) then (F32 x0 x1 z1.1).bind fun y15 => (guardO [(y15.2, true)] (F93 y4 y15.1) default).bind fun y17 => bif (y15.2 && y17) then (appI 9 z1.2 [z1.1]).bind fun y20 => some (.next (w64 (z1.1 + 1), y20)) else some (.next (w64 (z1.1 + 1), z1.2)) else some (.brk (z1.1, z1.2))
def F91 (x0 : api_Board) (x1 : api_Power) (x2 : Int) : Option (api_Island × Bool) :=
 (F27 x0 x1).bind fun y1 => bif (c91_0 x0 x2 y1) then some ((⟨([] : List Int), ([] : List Int), ([] : List Int)⟩ : api_Island), false) else (F171 x0 x1 x2).bind fun y4 => andThen (whileN (F91_l0 x0 x1 y4) 1152921504606846976 (0, ([] : List Int))) (fun _ => none) fun z0 => andThen (whileN (F91_l1 x0 x1 y4) 1152921504606846976 (0, ([] : List Int))) (fun _ => none) fun z1 => some ((⟨y4, z0.2, z1.2⟩ : api_Island), true)
def F40_l0 (x0 : api_Board) (x1 : api_Power) (z0 : Int × (List api_Island)) : Option (Ctl (Int × (List api_Island)) Unit) :=
 bif decide (z0.1 < x0.Buses) then (F91 x0 x1 z0.1).bind fun y5 => (getI y5.1.Buses 0).bind fun y7 => bif (y7 == z0.1) then (appI 73 z0.2 [y5.1]).bind fun y10 => some (.next (w64 (z0.1 + 1), y10)) else some (.next (w64 (z0.1 + 1), z0.2)) else some (.brk (z0.1, z0.2))
def F40 (x0 : api_Board) (x1 : api_Power) : Option ((List api_Island)) :=
 (F27 x0 x1).bind fun y1 => bif (y1 != 0) then some ([] : List api_Island) else andThen (whileN (F40_l0 x0 x1) 1152921504606846976 (0, ([] : List api_Island))) (fun _ => none) fun z0 => some z0.2
def F150_l1 (x1 : api_Power) (a0 : api_Island) (n1 : Nat) (a1 : Int) (z1 : (List api_Running)) : Option (Ctl ((List api_Running)) Unit) :=
 (getI a0.Sources 0).bind fun y5 => (getI x1.Sources y5).bind fun y7 => (getI a0.Sources 0).bind fun y9 => (getI x1.Sources y9).bind fun y11 => (getI z1 a1).bind fun y13 => (setI z1 a1 (⟨y13.State, y13.Since, y7.Frequency, y13.Phase⟩ : api_Running)).bind fun y15 => (getI y15 a1).bind fun y17 => (setI y15 a1 (⟨y17.State, y17.Since, y17.Frequency, y11.Phase⟩ : api_Running)).bind fun y19 => some (.next y19)
def F150_l0 (x1 : api_Power) (n0 : Nat) (a0 : api_Island) (z0 : (List api_Running)) : Option (Ctl ((List api_Running)) Unit) :=
 andThen (foldI (F150_l1 x1 a0) a0.Sources 0 z0) (fun _ => none) fun z1 => some (.next z1)
def F150 (x0 : api_Board) (x1 : api_Power) : Option api_Power :=
 (F20 x1).bind fun y1 => (F40 x0 x1).bind fun y3 => andThen (foldI (F150_l0 x1) y3 0 y1.Sources) (fun _ => none) fun z0 => some (⟨y1.Closed, z0, y1.Limits, y1.Broken⟩ : api_Power)
def F73 (x0 : api_Board) (x1 : api_Power) : Option (api_Power × Int) :=
 (F27 x0 x1).bind fun y1 => bif (y1 != 0) then some ((⟨([] : List Bool), ([] : List api_Running), ([] : List Int), ([] : List api_Part)⟩ : api_Power), y1) else (F150 x0 x1).bind fun y4 => some (y4, 0)
def F23s1 (x0 : dynposmake_Src) (x1 : api_Board) : Option (api_Power × dynposmake_Src) :=
 (F17s1 x0 x1).bind fun y1 => (F73 x1 y1.1).bind fun y3 => some (y3.1, y1.2)
def F74s1_m0 (y1 : Int × dynposmake_Src) : Option (Ctl Bool Unit) :=
 bif (y1.1 == 1) then some (.next (y1.1 == 1)) else some (.next (y1.1 == 2))
def F74s1_m1 (y1 : Int × dynposmake_Src) : Option (Ctl Bool Unit) :=
 bif (y1.1 == 3) then some (.next (y1.1 == 3)) else some (.next (y1.1 == 4))
def F74s1 (x0 : dynposmake_Src) (x1 : api_Board) : Option (api_Act × dynposmake_Src) :=
 (F61 x0 1 9).bind fun y1 => andThen (F74s1_m0 y1) (fun _ => none) fun z0 => bif z0 then (F63 y1.2 (w64 ((x1.Breakers.length : Int) + 1))).bind fun y5 => some ((⟨y1.1, y5.1, 0⟩ : api_Act), y5.2) else andThen (F74s1_m1 y1) (fun _ => none) fun z1 => bif z1 then (F63 y1.2 (w64 ((x1.Sources.length : Int) + 1))).bind fun y9 => some ((⟨y1.1, y9.1, 0⟩ : api_Act), y9.2) else bif (y1.1 == 5) then (F63 y1.2 (w64 ((x1.Consumers.length : Int) + 1))).bind fun y12 => (F62 y12.2 [0, 5, 20, 41]).bind fun y14 => some ((⟨y1.1, y12.1, y14.1⟩ : api_Act), y14.2) else bif (y1.1 == 6) then (F63 y1.2 (w64 ((x1.Sources.length : Int) + 1))).bind fun y17 => (F63 y17.2 (w64 (x1.Buses + 1))).bind fun y19 => some ((⟨y1.1, y17.1, y19.1⟩ : api_Act), y19.2) else bif (y1.1 == 8) then (F61 y1.2 1 4).bind fun y22 => (F63 y22.2 4).bind fun y24 => some ((⟨y1.1, y24.1, y22.1⟩ : api_Act), y24.2) else bif (y1.1 == 9) then (F61 y1.2 1 4).bind fun y27 => (F63 y27.2 4).bind fun y29 => some ((⟨y1.1, y29.1, y27.1⟩ : api_Act), y29.2) else some ((⟨y1.1, 0, 0⟩ : api_Act), y1.2)
def F24s1_l0 (x1 : api_Board) (z0 : Int × (List Int) × Int × (List api_Act)) : Option (Ctl (Int × (List Int) × Int × (List api_Act)) Unit) :=
 bif decide (z0.1 > 0) then (F74s1 (⟨z0.2.1, z0.2.2.1⟩ : dynposmake_Src) x1).bind fun y4 => (appI 25 z0.2.2.2 [y4.1]).bind fun y6 => some (.next (w64 (z0.1 - 1), y4.2.L, y4.2.At, y6)) else some (.brk (z0.1, z0.2.1, z0.2.2.1, z0.2.2.2))
def F24s1 (x0 : dynposmake_Src) (x1 : api_Board) (x2 : Int) : Option ((List api_Act) × dynposmake_Src) :=
 (F63 x0 (w64 (x2 + 1))).bind fun y1 => andThen (whileN (F24s1_l0 x1) 1152921504606846976 (y1.1, y1.2.L, y1.2.At, ([] : List api_Act))) (fun _ => none) fun z0 => some (z0.2.2.2, (⟨z0.2.1, z0.2.2.1⟩ : dynposmake_Src))
def F132 (x0 : Int) (x1 : Int) (x2 : Int) : Bool :=
 ((decide (x0 ≥ x1)) && (decide (x0 ≤ x2)))
def F177_l0 (x1 : Int) (n0 : Nat) (a0 : Int) (z0 : Unit) : Option (Ctl Unit Int) :=
 bif (x1 == a0) then some (.ret (cnt 0 n0)) else some (.next ())
def F177 (x0 : List Int) (x1 : Int) : Option Int :=
 andThen (foldI (F177_l0 x1) x0 0 ()) some fun z0 => some (-1)
def F96 (x0 : List Int) (x1 : Int) : Option Bool :=
 (F177 x0 x1).bind fun y1 => some (decide (y1 ≥ 0))
def F233 (x0 : List Int) : Bool :=
 ((x0.length : Int) == 0)
def F260s0_l0 (n0 : Nat) (a0 : List Int) (z0 : Unit) : Option (Ctl Unit Int) :=
 bif F233 a0 then some (.ret (cnt 0 n0)) else some (.next ())
def F260s0 (x0 : List (List Int)) : Option Int :=
 andThen (foldI F260s0_l0 x0 0 ()) some fun z0 => some (-1)
def F232s0 (x0 : List (List Int)) : Option Bool :=
 (F260s0 x0).bind fun y1 => some (decide (y1 ≥ 0))
def c172_6 (x0 : api_Board) (a0 : api_Breaker) : Bool := ((a0.Kind == 1) && (F132 a0.B (w64 (a0.A + 1)) (w64 (x0.Buses - 1))))
def c172_7 (z0 : (List Int) × (List (List Int))) (a0 : api_Breaker) (y7 : Int) : Bool := (((a0.Kind == 2) && (F132 a0.B 0 (w64 ((z0.1.length : Int) - 1)))) && (y7 == 0))
def c172_8 (z0 : (List Int) × (List (List Int))) (a0 : api_Breaker) (y16 : Bool) : Bool := (((a0.Kind == 3) && (F132 a0.B 0 (w64 ((z0.2.length : Int) - 1)))) && (!y16))
def F172_l0 (x0 : api_Board) (n0 : Nat) (a0 : api_Breaker) (z0 : (List Int) × (List (List Int))) : Option (Ctl ((List Int) × (List (List Int))) Bool) :=
 bif !(F132 a0.A 0 (w64 (x0.Buses - 1))) then some (.ret false) else bif (c172_6 x0 a0) then some (.next (z0.1, z0.2)) else (guardO [(((a0.Kind == 2) && (F132 a0.B 0 (w64 ((z0.1.length : Int) - 1)))), true)] (getI z0.1 a0.B) default).bind fun y7 => bif (c172_7 z0 a0 y7) then (getI z0.1 a0.B).bind fun y10 => (setI z0.1 a0.B (w64 (y10 + 1))).bind fun y12 => some (.next (y12, z0.2)) else (guardO [(((a0.Kind == 3) && (F132 a0.B 0 (w64 ((z0.2.length : Int) - 1)))), true)] (getI z0.2 a0.B) default).bind fun y14 => (guardO [(((a0.Kind == 3) && (F132 a0.B 0 (w64 ((z0.2.length : Int) - 1)))), true)] (F96 y14 a0.A) default).bind fun y16 => bif (c172_8 z0 a0 y16) then (getI z0.2 a0.B).bind fun y19 => (appI 9 y19 [a0.A]).bind fun y21 => (setI z0.2 a0.B y21).bind fun y23 => some (.next (z0.1, y23)) else some (.ret false)
def F172 (x0 : api_Board) : Option Bool :=
 (mkI 9 (x0.Sources.length : Int) 0).bind fun y1 => (mkI 25 (x0.Consumers.length : Int) ([] : List Int)).bind fun y3 => andThen (foldI (F172_l0 x0) x0.Breakers 0 (y1, y3)) some fun z0 => (F96 z0.1 0).bind fun y27 => (guardO [(!y27, true)] (F232s0 z0.2) default).bind fun y29 => some ((!y27) && (!y29))
def F173 (x0 : api_Source) : Bool :=
 (((F132 x0.Rating 1 50000) && (F132 x0.Least 0 x0.Rating)) && (F132 x0.Start 0 600))
def c174_1 (x1 : Int) (n0 : Nat) (a0 : Int) (y1 : Int) : Bool := ((!(F132 a0 0 (w64 (x1 - 1)))) || ((decide ((cnt 0 n0) > 0)) && (decide (y1 ≥ a0))))
def F174_l0 (x0 : api_Consumer) (x1 : Int) (n0 : Nat) (a0 : Int) (z0 : Unit) : Option (Ctl Unit Bool) :=
 (guardO [(!(F132 a0 0 (w64 (x1 - 1))), false), (decide ((cnt 0 n0) > 0), true)] (getI x0.Needs (w64 ((cnt 0 n0) - 1))) default).bind fun y1 => bif (c174_1 x1 n0 a0 y1) then some (.ret false) else some (.next ())
def F174 (x0 : api_Consumer) (x1 : Int) : Option Bool :=
 andThen (foldI (F174_l0 x0 x1) x0.Needs 0 ()) some fun z0 => some (((((F132 x0.Load 0 50000) && (F132 x0.Least 0 x0.Load)) && (F132 x0.Preference 0 15)) && (F132 x0.Thruster (-1) 7)) && (decide ((x0.Needs.length : Int) ≤ 4)))
def c92_0 (x0 : api_Board) : Bool := ((((!(F132 x0.Buses 1 6)) || (decide ((x0.Breakers.length : Int) > 24))) || (decide ((x0.Sources.length : Int) > 8))) || (decide ((x0.Consumers.length : Int) > 16)))
def F92_l0 (n0 : Nat) (a0 : api_Source) (z0 : Bool) : Option (Ctl Bool Unit) :=
 some (.next (z0 && (F173 a0)))
def F92_l1 (n1 : Nat) (a1 : api_Consumer) (z1 : Bool) : Option (Ctl Bool Unit) :=
 (guardO [(z1, true)] (F174 a1 (cnt 0 n1)) default).bind fun y4 => some (.next (z1 && y4))
def F92 (x0 : api_Board) : Option Int :=
 bif (c92_0 x0) then some 2 else (F172 x0).bind fun y2 => andThen (foldI F92_l0 x0.Sources 0 ((y2 && (F132 x0.Phase 0 1800)) && (F132 x0.Frequency 0 6000))) (fun _ => none) fun z0 => andThen (foldI F92_l1 x0.Consumers 0 z0) (fun _ => none) fun z1 => bif !z1 then some 14 else some 0
def F208 (x0 : api_Board) (x1 : Int) : Int :=
 bif (x1 == 1) then (x0.Sources.length : Int) else bif (x1 == 2) then (x0.Breakers.length : Int) else bif (x1 == 3) then x0.Buses else bif (x1 == 4) then (x0.Consumers.length : Int) else 0
def F248 (x0 : Int) : Bool :=
 (x0 != x0)
def F210 (x0 : Int) (x1 : Int) : Int :=
 bif F248 x0 then bif F248 x1 then 0 else (-1) else bif F248 x1 then 1 else bif decide (x0 < x1) then (-1) else bif decide (x0 > x1) then 1 else 0
def F209_l0 (n0 : Nat) (a0 : Int) (z0 : Unit) : Option (Ctl Unit Int) :=
 bif (a0 != 0) then some (.ret a0) else some (.next ())
def F209 (x0 : List Int) : Option Int :=
 andThen (foldI F209_l0 x0 0 ()) some fun z0 => some 0
def c128_1 (x0 : api_Board) (n0 : Nat) (a0 : api_Part) (y5 : Int) : Bool := ((!(F132 a0.Number 0 (w64 ((F208 x0 a0.Kind) - 1)))) || ((decide ((cnt 0 n0) > 0)) && (decide (y5 ≥ 0))))
def F128_l0 (x0 : api_Board) (x1 : List api_Part) (n0 : Nat) (a0 : api_Part) (z0 : Unit) : Option (Ctl Unit Bool) :=
 (guardO [(!(F132 a0.Number 0 (w64 ((F208 x0 a0.Kind) - 1))), false), (decide ((cnt 0 n0) > 0), true)] (getI x1 (w64 ((cnt 0 n0) - 1))) default).bind fun y1 => (guardO [(!(F132 a0.Number 0 (w64 ((F208 x0 a0.Kind) - 1))), false), (decide ((cnt 0 n0) > 0), true)] (getI x1 (w64 ((cnt 0 n0) - 1))) default).bind fun y3 => (guardO [(!(F132 a0.Number 0 (w64 ((F208 x0 a0.Kind) - 1))), false), (decide ((cnt 0 n0) > 0), true)] (F209 [F210 y1.Kind a0.Kind, F210 y3.Number a0.Number]) default).bind fun y5 => bif (c128_1 x0 n0 a0 y5) then some (.ret false) else some (.next ())
def F128 (x0 : api_Board) (x1 : List api_Part) : Option Bool :=
 andThen (foldI (F128_l0 x0 x1) x1 0 ()) some fun z0 => some (decide ((x1.length : Int) ≤ 32))
def F131 (x0 : api_Running) : Bool :=
 ((((F132 x0.State 0 3) && (F132 x0.Since 0 2147483648)) && (F132 x0.Frequency 0 6000)) && (F132 x0.Phase 0 3599))
def F130 (x0 : api_Running) : Bool :=
 !(F131 x0)
def F211s0_l0 (n0 : Nat) (a0 : api_Running) (z0 : Unit) : Option (Ctl Unit Int) :=
 bif F130 a0 then some (.ret (cnt 0 n0)) else some (.next ())
def F211s0 (x0 : List api_Running) : Option Int :=
 andThen (foldI F211s0_l0 x0 0 ()) some fun z0 => some (-1)
def F129s0 (x0 : List api_Running) : Option Bool :=
 (F211s0 x0).bind fun y1 => some (decide (y1 ≥ 0))
def c133_2 (x2 : Int) (a0 : api_Breaker) (y1 : Bool) : Bool := (((a0.Kind == 3) && (a0.B == x2)) && y1)
def F133_l0 (x1 : api_Power) (x2 : Int) (n0 : Nat) (a0 : api_Breaker) (z0 : Int) : Option (Ctl Int Unit) :=
 (guardO [(((a0.Kind == 3) && (a0.B == x2)), true)] (getI x1.Closed (cnt 0 n0)) default).bind fun y1 => bif (c133_2 x2 a0 y1) then some (.next (w64 (z0 + 1))) else some (.next z0)
def F133 (x0 : api_Board) (x1 : api_Power) (x2 : Int) : Option Int :=
 andThen (foldI (F133_l0 x1 x2) x0.Breakers 0 0) (fun _ => none) fun z0 => some z0
def c65_0 (x0 : api_Board) (x1 : api_Power) : Bool := ((((x1.Closed.length : Int) != (x0.Breakers.length : Int)) || ((x1.Sources.length : Int) != (x0.Sources.length : Int))) || ((x1.Limits.length : Int) != (x0.Consumers.length : Int)))
def F65_l0 (x0 : api_Board) (x1 : api_Power) (n0 : Nat) (a0 : Int) (z0 : Bool) : Option (Ctl Bool Unit) :=
 (guardO [(z0, true)] (getI x0.Consumers (cnt 0 n0)) default).bind fun y9 => (guardO [((z0 && (F132 a0 0 y9.Load)), true)] (F133 x0 x1 (cnt 0 n0)) default).bind fun y11 => some (.next ((z0 && (F132 a0 0 y9.Load)) && (decide (y11 ≤ 1))))
def F65 (x0 : api_Board) (x1 : api_Power) : Option Int :=
 (F92 x0).bind fun y1 => bif (y1 != 0) then some y1 else bif (c65_0 x0 x1) then some 8 else (F128 x0 x1.Broken).bind fun y5 => (guardO [(y5, true)] (F129s0 x1.Sources) default).bind fun y7 => andThen (foldI (F65_l0 x0 x1) x1.Limits 0 (y5 && (!y7))) (fun _ => none) fun z0 => bif !z0 then some 11 else some 0
def F138 (x0 : List Bool) : Option (List Bool) := appI 2 [] x0
def F139 (x0 : List api_Running) : Option (List api_Running) := appI 33 [] x0
def F140 (x0 : List Int) : Option (List Int) := appI 9 [] x0
def F141 (x0 : List api_Part) : Option (List api_Part) := appI 17 [] x0
def F70 (x0 : api_Power) : Option api_Power :=
 (F138 x0.Closed).bind fun y1 => (F139 x0.Sources).bind fun y3 => (F140 x0.Limits).bind fun y5 => (F141 x0.Broken).bind fun y7 => some (⟨y1, y3, y5, y7⟩ : api_Power)
def F137 (x0 : api_Board) (x1 : Int) (x2 : Int) : Bool :=
 bif (x1 == 1) then ((decide (x2 ≥ 0)) && (decide (x2 < (x0.Sources.length : Int)))) else bif (x1 == 2) then ((decide (x2 ≥ 0)) && (decide (x2 < (x0.Breakers.length : Int)))) else bif (x1 == 3) then ((decide (x2 ≥ 0)) && (decide (x2 < x0.Buses))) else bif (x1 == 4) then ((decide (x2 ≥ 0)) && (decide (x2 < (x0.Consumers.length : Int)))) else ((decide (x2 ≥ 0)) && (decide (x2 < 0)))
def F69_m0 (x1 : api_Act) : Option (Ctl Bool Unit) :=
 bif (x1.Kind == 1) then some (.next (x1.Kind == 1)) else some (.next (x1.Kind == 2))
def F69_m1 (x1 : api_Act) : Option (Ctl Bool Unit) :=
 bif (x1.Kind == 3) then some (.next (x1.Kind == 3)) else some (.next (x1.Kind == 4))
def F69 (x0 : api_Board) (x1 : api_Act) : Option Bool :=
 andThen (F69_m0 x1) (fun _ => none) fun z0 => bif z0 then some (F137 x0 2 x1.Unit) else andThen (F69_m1 x1) (fun _ => none) fun z1 => bif z1 then some (F137 x0 1 x1.Unit) else bif (x1.Kind == 5) then some (F137 x0 4 x1.Unit) else bif (x1.Kind == 6) then some ((F137 x0 1 x1.Unit) && (F137 x0 3 x1.Value)) else bif (x1.Kind == 8) then some (F137 x0 x1.Value x1.Unit) else bif (x1.Kind == 9) then some (F137 x0 x1.Value x1.Unit) else some true
def c249_1 (x1 : api_Part) (a0 : api_Part) : Bool := ((x1.Kind == a0.Kind) && ((x1.Number == a0.Number) && true))
def F249_l0 (x1 : api_Part) (n0 : Nat) (a0 : api_Part) (z0 : Unit) : Option (Ctl Unit Int) :=
 bif (c249_1 x1 a0) then some (.ret (cnt 0 n0)) else some (.next ())
def F249 (x0 : List api_Part) (x1 : api_Part) : Option Int :=
 andThen (foldI (F249_l0 x1) x0 0 ()) some fun z0 => some (-1)
def F212 (x0 : List api_Part) (x1 : api_Part) : Option Bool :=
 (F249 x0 x1).bind fun y1 => some (decide (y1 ≥ 0))
def F134 (x0 : api_Power) (x1 : Int) (x2 : Int) : Option Bool :=
 (F212 x0.Broken (⟨x1, x2⟩ : api_Part)).bind fun y1 => some y1
def c237_1 (x2 : Int) (x3 : Int) (a0 : api_Breaker) (y1 : Bool) : Bool := (((a0.Kind == x2) && (a0.B == x3)) && y1)
def F237_l0 (x1 : api_Power) (x2 : Int) (x3 : Int) (n0 : Nat) (a0 : api_Breaker) (z0 : Unit) : Option (Ctl Unit (Int × Bool)) :=
 (guardO [(((a0.Kind == x2) && (a0.B == x3)), true)] (getI x1.Closed (cnt 0 n0)) default).bind fun y1 => bif (c237_1 x2 x3 a0 y1) then some (.ret (a0.A, true)) else some (.next ())
def F237 (x0 : api_Board) (x1 : api_Power) (x2 : Int) (x3 : Int) : Option (Int × Bool) :=
 andThen (foldI (F237_l0 x1 x2 x3) x0.Breakers 0 ()) some fun z0 => some (0, false)
def F188 (x0 : api_Board) (x1 : api_Power) (x2 : Int) : Option (Int × Bool) :=
 (F237 x0 x1 3 x2).bind fun y1 => some (y1.1, y1.2)
def F168 (x0 : api_Board) (x1 : api_Power) (x2 : Int) : Option (Int × Bool) :=
 (F65 x0 x1).bind fun y1 => bif (y1 != 0) then some (0, false) else (F188 x0 x1 x2).bind fun y4 => some (y4.1, y4.2)
def F250 (x0 : api_Board) (x1 : api_Power) (x2 : Int) : Option Bool :=
 (getI x0.Breakers x2).bind fun y1 => (getI x1.Closed x2).bind fun y3 => (guardO [(y3, false)] (F134 x1 2 x2) default).bind fun y5 => (guardO [((y3 || y5), false)] (F134 x1 3 y1.A) default).bind fun y7 => bif ((y3 || y5) || y7) then some false else bif (y1.Kind == 1) then (F134 x1 3 y1.B).bind fun y11 => some (!y11) else bif (y1.Kind == 2) then (F134 x1 1 y1.B).bind fun y14 => (guardO [(!y14, true)] (getI x1.Sources y1.B) default).bind fun y16 => some ((!y14) && (y16.State == 2)) else (F168 x0 x1 y1.B).bind fun y18 => (F134 x1 4 y1.B).bind fun y20 => some ((!y20) && (!y18.2))
def F186_l0 (n0 : Nat) (a0 : Int) (z0 : (List Int)) : Option (Ctl ((List Int)) Unit) :=
 (getI z0 (cnt 0 n0)).bind fun y3 => (setI z0 (cnt 0 n0) (cnt 0 n0)).bind fun y5 => some (.next y5)
def F186_l2 (x1 : api_Power) (n2 : Nat) (a2 : api_Breaker) (z2 : (List Int)) : Option (Ctl ((List Int)) Unit) :=
 (guardO [((a2.Kind == 1), true)] (getI x1.Closed (cnt 0 n2)) default).bind fun y7 => bif ((a2.Kind == 1) && y7) then (getI z2 a2.A).bind fun y10 => (getI z2 a2.B).bind fun y12 => (setI z2 a2.A (min y10 y12)).bind fun y14 => (getI y14 a2.B).bind fun y16 => (setI y14 a2.B (min y10 y12)).bind fun y18 => some (.next y18) else some (.next z2)
def F186_l1 (x0 : api_Board) (x1 : api_Power) (n1 : Nat) (a1 : Int) (z1 : (List Int)) : Option (Ctl ((List Int)) Unit) :=
 andThen (foldI (F186_l2 x1) x0.Breakers 0 z1) (fun _ => none) fun z2 => some (.next z2)
def F186 (x0 : api_Board) (x1 : api_Power) : Option ((List Int)) :=
 (mkI 9 x0.Buses 0).bind fun y1 => andThen (foldI F186_l0 y1 0 y1) (fun _ => none) fun z0 => andThen (foldI (F186_l1 x0 x1) z0 0 z0) (fun _ => none) fun z1 => some z1
def c187_0 (x1 : api_Power) (x2 : Int) (y1 : api_Running) : Bool := ((!(F132 x2 0 (w64 ((x1.Sources.length : Int) - 1)))) || (y1.State != 2))
def F187 (x0 : api_Board) (x1 : api_Power) (x2 : Int) : Option (Int × Bool) :=
 (guardO [(!(F132 x2 0 (w64 ((x1.Sources.length : Int) - 1))), false)] (getI x1.Sources x2) default).bind fun y1 => bif (c187_0 x1 x2 y1) then some (0, false) else (F237 x0 x1 2 x2).bind fun y4 => some (y4.1, y4.2)
def F190 (x0 : api_Island) : Bool :=
 ((x0.Buses.length : Int) == 0)
def F185s0_l0 (n0 : Nat) (a0 : api_Island) (z0 : Unit) : Option (Ctl Unit Int) :=
 bif F190 a0 then some (.ret (cnt 0 n0)) else some (.next ())
def F185s0 (x0 : List api_Island) : Option Int :=
 andThen (foldI F185s0_l0 x0 0 ()) some fun z0 => some (-1)
def c189s1_2 (z0 : Int × Int × (List api_Island)) : Bool := decide (z0.2.1 < (z0.2.2.length : Int))
def F189s1_l0 (z0 : Int × Int × (List api_Island)) : Option (Ctl (Int × Int × (List api_Island)) Unit) :=
 bif (c189s1_2 z0) then (getI z0.2.2 z0.2.1).bind fun y5 => bif !(F190 y5) then (getI z0.2.2 z0.1).bind fun y8 => (setI z0.2.2 z0.1 y5).bind fun y10 => some (.next (w64 (z0.1 + 1), w64 (z0.2.1 + 1), y10)) else some (.next (z0.1, w64 (z0.2.1 + 1), z0.2.2)) else some (.brk (z0.1, z0.2.1, z0.2.2))
def F189s1 (x0 : List api_Island) : Option ((List api_Island)) :=
 (F185s0 x0).bind fun y1 => bif (y1 == (-1)) then some x0 else andThen (whileN F189s1_l0 1152921504606846976 (y1, w64 (y1 + 1), x0)) (fun _ => none) fun z0 => (bndI z0.2.2.length z0.1 (z0.2.2.length : Int)).bind fun u13 => (bndI (clrI z0.2.2 (Int.toNat z0.1) ((Int.toNat (z0.2.2.length : Int)) - (Int.toNat z0.1)) (⟨([] : List Int), ([] : List Int), ([] : List Int)⟩ : api_Island)).length 0 z0.1).bind fun u15 => some ((clrI z0.2.2 (Int.toNat z0.1) ((Int.toNat (z0.2.2.length : Int)) - (Int.toNat z0.1)) (⟨([] : List Int), ([] : List Int), ([] : List Int)⟩ : api_Island)).take ((Int.toNat z0.1) - 0))
def F106_l0 (n0 : Nat) (a0 : Int) (z0 : (List api_Island)) : Option (Ctl ((List api_Island)) Unit) :=
 (getI z0 a0).bind fun y8 => (appI 9 y8.Buses [cnt 0 n0]).bind fun y10 => (setI z0 a0 (⟨y10, y8.Sources, y8.Consumers⟩ : api_Island)).bind fun y12 => some (.next y12)
def c106_1 (x0 : api_Board) (z1 : Int × (List api_Island)) : Bool := decide (z1.1 < (x0.Sources.length : Int))
def F106_l1 (x0 : api_Board) (x1 : api_Power) (y4 : (List Int)) (z1 : Int × (List api_Island)) : Option (Ctl (Int × (List api_Island)) Unit) :=
 bif (c106_1 x0 z1) then (F187 x0 x1 z1.1).bind fun y15 => bif y15.2 then (getI y4 y15.1).bind fun y18 => (getI z1.2 y18).bind fun y20 => (appI 9 y20.Sources [z1.1]).bind fun y22 => (setI z1.2 y18 (⟨y20.Buses, y22, y20.Consumers⟩ : api_Island)).bind fun y24 => some (.next (w64 (z1.1 + 1), y24)) else some (.next (w64 (z1.1 + 1), z1.2)) else some (.brk (z1.1, z1.2))
def c106_3 (x0 : api_Board) (z2 : Int × (List api_Island)) : Bool := decide (z2.1 < (x0.Consumers.length : Int))
def F106_l2 (x0 : api_Board) (x1 : api_Power) (y4 : (List Int)) (z2 : Int × (List api_Island)) : Option (Ctl (Int × (List api_Island)) Unit) :=
 bif (c106_3 x0 z2) then (F188 x0 x1 z2.1).bind fun y27 => bif y27.2 then (getI y4 y27.1).bind fun y30 => (getI z2.2 y30).bind fun y32 => (appI 9 y32.Consumers [z2.1]).bind fun y34 => (setI z2.2 y30 (⟨y32.Buses, y32.Sources, y34⟩ : api_Island)).bind fun y36 => some (.next (w64 (z2.1 + 1), y36)) else some (.next (w64 (z2.1 + 1), z2.2)) else some (.brk (z2.1, z2.2))
def F106 (x0 : api_Board) (x1 : api_Power) : Option ((List api_Island)) :=
 (F65 x0 x1).bind fun y1 => bif (y1 != 0) then some ([] : List api_Island) else (F186 x0 x1).bind fun y4 => (mkI 73 x0.Buses (⟨([] : List Int), ([] : List Int), ([] : List Int)⟩ : api_Island)).bind fun y6 => andThen (foldI F106_l0 y4 0 y6) (fun _ => none) fun z0 => andThen (whileN (F106_l1 x0 x1 y4) 1152921504606846976 (0, z0)) (fun _ => none) fun z1 => andThen (whileN (F106_l2 x0 x1 y4) 1152921504606846976 (0, z1.2)) (fun _ => none) fun z2 => (F189s1 z2.2).bind fun y38 => some y38
def F176_l0 (x2 : Int) (n0 : Nat) (a0 : api_Island) (z0 : Unit) : Option (Ctl Unit (api_Island × Bool)) :=
 (F96 a0.Buses x2).bind fun y3 => bif y3 then some (.ret (a0, true)) else some (.next ())
def F176 (x0 : api_Board) (x1 : api_Power) (x2 : Int) : Option (api_Island × Bool) :=
 (F106 x0 x1).bind fun y1 => andThen (foldI (F176_l0 x2) y1 0 ()) some fun z0 => some ((⟨([] : List Int), ([] : List Int), ([] : List Int)⟩ : api_Island), false)
def F214 (x0 : api_Board) (x1 : api_Power) (x2 : Int) : Option (Int × Bool) :=
 (F176 x0 x1 x2).bind fun y1 => bif ((y1.1.Sources.length : Int) == 0) then some (0, false) else (getI y1.1.Sources 0).bind fun y4 => some (y4, true)
def F252 (x0 : Int) : Int :=
 bif decide ((Int.tmod x0 3600) < 0) then w64 ((Int.tmod x0 3600) + 3600) else Int.tmod x0 3600
def c280_0 (x0 : Int) (x1 : Int) : Bool := decide ((F252 (w64 ((F252 x1) - (F252 x0)))) > 1800)
def F280 (x0 : Int) (x1 : Int) : Int :=
 bif (c280_0 x0 x1) then w64 ((F252 (w64 ((F252 x1) - (F252 x0)))) - 3600) else F252 (w64 ((F252 x1) - (F252 x0)))
def c274_0 (x1 : api_Running) (x2 : api_Running) : Bool := ((decide ((min x1.Frequency x2.Frequency) < 0)) || (decide ((max x1.Frequency x2.Frequency) > 6000)))
def F274 (x0 : api_Board) (x1 : api_Running) (x2 : api_Running) : Bool :=
 bif (c274_0 x1 x2) then false else ((decide ((max (w64 (x1.Frequency - x2.Frequency)) (w64 (x2.Frequency - x1.Frequency))) ≤ x0.Frequency)) && (decide ((max (F280 x1.Phase x2.Phase) (w64 (0 - F280 x1.Phase x2.Phase))) ≤ x0.Phase)))
def F251 (x0 : api_Board) (x1 : api_Power) (x2 : api_Breaker) : Option Bool :=
 (F214 x0 x1 x2.A).bind fun y1 => bif !y1.2 then some true else bif (x2.Kind == 1) then (F214 x0 x1 x2.B).bind fun y5 => (guardO [(!y5.2, false)] (getI x1.Sources y1.1) default).bind fun y7 => (guardO [(!y5.2, false)] (getI x1.Sources y5.1) default).bind fun y9 => some ((!y5.2) || (F274 x0 y7 y9)) else bif (x2.Kind == 2) then (getI x1.Sources y1.1).bind fun y12 => (getI x1.Sources x2.B).bind fun y14 => some (F274 x0 y12 y14) else some true
def c213_0 (x0 : api_Board) (x2 : Int) : Bool := ((decide (x2 < 0)) || (decide (x2 ≥ (x0.Breakers.length : Int))))
def F213 (x0 : api_Board) (x1 : api_Power) (x2 : Int) : Option Int :=
 (F65 x0 x1).bind fun y1 => bif (y1 != 0) then some y1 else bif (c213_0 x0 x2) then some 10 else (F250 x0 x1 x2).bind fun y5 => bif !y5 then some 11 else (getI x0.Breakers x2).bind fun y8 => (F176 x0 x1 y8.A).bind fun y10 => (guardO [((y8.Kind == 1), true)] (F96 y10.1.Buses y8.B) default).bind fun y12 => (guardO [(!((y8.Kind == 1) && y12), true)] (F251 x0 x1 y8) default).bind fun y14 => bif ((!((y8.Kind == 1) && y12)) && (!y14)) then some 12 else some 0
def F183s0_l0 (x2 : api_Running) (n0 : Nat) (a0 : Int) (z0 : (List api_Running)) : Option (Ctl ((List api_Running)) Unit) :=
 (getI z0 a0).bind fun y1 => (setI z0 a0 (⟨y1.State, y1.Since, x2.Frequency, y1.Phase⟩ : api_Running)).bind fun y3 => (getI y3 a0).bind fun y5 => (setI y3 a0 (⟨y5.State, y5.Since, y5.Frequency, x2.Phase⟩ : api_Running)).bind fun y7 => some (.next y7)
def F183s0 (x0 : api_Power) (x1 : List Int) (x2 : api_Running) : Option ((List api_Running)) :=
 andThen (foldI (F183s0_l0 x2) x1 0 x0.Sources) (fun _ => none) fun z0 => some z0
def c101_2 (a0 : api_Island) : Bool := decide ((a0.Sources.length : Int) > 0)
def F101_l0 (x1 : api_Power) (y4 : api_Power) (n0 : Nat) (a0 : api_Island) (z0 : (List api_Running)) : Option (Ctl ((List api_Running)) Unit) :=
 bif (c101_2 a0) then (getI a0.Sources 0).bind fun y9 => (getI x1.Sources y9).bind fun y11 => (F183s0 (⟨y4.Closed, z0, y4.Limits, y4.Broken⟩ : api_Power) a0.Sources y11).bind fun y13 => some (.next y13) else some (.next z0)
def F101 (x0 : api_Board) (x1 : api_Power) : Option (api_Power × Int) :=
 (F65 x0 x1).bind fun y1 => bif (y1 != 0) then some ((⟨([] : List Bool), ([] : List api_Running), ([] : List Int), ([] : List api_Part)⟩ : api_Power), y1) else (F70 x1).bind fun y4 => (F106 x0 x1).bind fun y6 => andThen (foldI (F101_l0 x1 y4) y6 0 y4.Sources) (fun _ => none) fun z0 => some ((⟨y4.Closed, z0, y4.Limits, y4.Broken⟩ : api_Power), 0)
def F142 (x0 : api_Board) (x1 : api_Power) (x2 : Int) : Option (api_Power × Int) :=
 (F213 x0 x1 x2).bind fun y1 => bif (y1 != 0) then some ((⟨([] : List Bool), ([] : List api_Running), ([] : List Int), ([] : List api_Part)⟩ : api_Power), y1) else (F70 x1).bind fun y4 => (getI y4.Closed x2).bind fun y6 => (setI y4.Closed x2 true).bind fun y8 => (F101 x0 (⟨y8, y4.Sources, y4.Limits, y4.Broken⟩ : api_Power)).bind fun y10 => some (y10.1, y10.2)
def c143_0 (x0 : api_Board) (x2 : Int) : Bool := ((decide (x2 < 0)) || (decide (x2 ≥ (x0.Breakers.length : Int))))
def F143 (x0 : api_Board) (x1 : api_Power) (x2 : Int) : Option (api_Power × Int) :=
 (F65 x0 x1).bind fun y1 => bif (y1 != 0) then some ((⟨([] : List Bool), ([] : List api_Running), ([] : List Int), ([] : List api_Part)⟩ : api_Power), y1) else bif (c143_0 x0 x2) then some ((⟨([] : List Bool), ([] : List api_Running), ([] : List Int), ([] : List api_Part)⟩ : api_Power), 10) else (getI x1.Closed x2).bind fun y5 => (guardO [(!y5, false)] (F134 x1 2 x2) default).bind fun y7 => bif ((!y5) || y7) then some ((⟨([] : List Bool), ([] : List api_Running), ([] : List Int), ([] : List api_Part)⟩ : api_Power), 11) else (F70 x1).bind fun y10 => (getI y10.Closed x2).bind fun y12 => (setI y10.Closed x2 false).bind fun y14 => some ((⟨y14, y10.Sources, y10.Limits, y10.Broken⟩ : api_Power), 0)
def F215 (x0 : api_Board) (x1 : api_Power) (x2 : Int) : Option (Int × Bool) :=
 (F65 x0 x1).bind fun y1 => bif (y1 != 0) then some (0, false) else (F187 x0 x1 x2).bind fun y4 => some (y4.1, y4.2)
def c144_0 (x0 : api_Board) (x2 : Int) (x3 : Int) : Bool := ((((decide (x2 < 0)) || (decide (x2 ≥ (x0.Sources.length : Int)))) || (decide (x3 < 0))) || (decide (x3 ≥ x0.Buses)))
def F144 (x0 : api_Board) (x1 : api_Power) (x2 : Int) (x3 : Int) : Option (api_Power × Int) :=
 (F65 x0 x1).bind fun y1 => bif (y1 != 0) then some ((⟨([] : List Bool), ([] : List api_Running), ([] : List Int), ([] : List api_Part)⟩ : api_Power), y1) else bif (c144_0 x0 x2 x3) then some ((⟨([] : List Bool), ([] : List api_Running), ([] : List Int), ([] : List api_Part)⟩ : api_Power), 10) else (F214 x0 x1 x3).bind fun y5 => (guardO [(!y5.2, false)] (getI x1.Sources x2) default).bind fun y7 => bif ((!y5.2) || (y7.State != 2)) then some ((⟨([] : List Bool), ([] : List api_Running), ([] : List Int), ([] : List api_Part)⟩ : api_Power), 11) else (F70 x1).bind fun y10 => (F215 x0 x1 x2).bind fun y12 => bif y12.2 then (F176 x0 x1 y12.1).bind fun y15 => (getI x1.Sources y5.1).bind fun y17 => (F183s0 y10 y15.1.Sources y17).bind fun y19 => some ((⟨y10.Closed, y19, y10.Limits, y10.Broken⟩ : api_Power), 0) else (getI x1.Sources y5.1).bind fun y21 => (F183s0 y10 [x2] y21).bind fun y23 => some ((⟨y10.Closed, y23, y10.Limits, y10.Broken⟩ : api_Power), 0)
def F136s0 (x0 : api_Breaker) (x1 : Int) : Bool :=
 ((x0.Kind == 2) && (x0.B == x1))
def F135s1_l0 (x1c0 : Int) (n0 : Nat) (a0 : api_Breaker) (z0 : Unit) : Option (Ctl Unit (Int × Int)) :=
 bif F136s0 a0 x1c0 then some (.ret (cnt 0 n0, x1c0)) else some (.next ())
def F135s1 (x0 : List api_Breaker) (x1c0 : Int) : Option (Int × Int) :=
 andThen (foldI (F135s1_l0 x1c0) x0 0 ()) some fun z0 => some ((-1), x1c0)
def F67 (x0 : api_Board) (x1 : Int) : Option Int :=
 (F135s1 x0.Breakers x1).bind fun y1 => some y1.1
def F216s0 (x0 : restore_worker) (x1 : Int) : Option Bool :=
 (F67 x0.board x1).bind fun y1 => (getI x0.power.Closed y1).bind fun y3 => some (!y3)
def F145s1 (x0 : restore_worker) (x1 : Int) : Option (Int × restore_worker) :=
 (getI x0.power.Sources x1).bind fun y1 => (guardO [((y1.State != 0), false)] (F134 x0.power 1 x1) default).bind fun y3 => bif ((y1.State != 0) || y3) then some (11, x0) else (getI x0.board.Sources x1).bind fun y6 => (guardO [((y6.Start == 0), true)] (F216s0 x0 x1) default).bind fun y8 => bif ((y6.Start == 0) && y8) then (setI x0.power.Sources x1 (⟨2, x0.time, 5000, 0⟩ : api_Running)).bind fun y11 => some (0, (⟨x0.board, (⟨x0.power.Closed, y11, x0.power.Limits, x0.power.Broken⟩ : api_Power), x0.time⟩ : restore_worker)) else (setI x0.power.Sources x1 (⟨1, x0.time, 5000, 0⟩ : api_Running)).bind fun y13 => some (0, (⟨x0.board, (⟨x0.power.Closed, y13, x0.power.Limits, x0.power.Broken⟩ : api_Power), x0.time⟩ : restore_worker))
def c146s1_0 (y1 : api_Running) (y3 : Bool) : Bool := (((y1.State != 1) && (y1.State != 2)) || (!y3))
def F146s1 (x0 : restore_worker) (x1 : Int) : Option (Int × restore_worker) :=
 (getI x0.power.Sources x1).bind fun y1 => (guardO [(((y1.State != 1) && (y1.State != 2)), false)] (F216s0 x0 x1) default).bind fun y3 => bif (c146s1_0 y1 y3) then some (11, x0) else (setI x0.power.Sources x1 (⟨0, y1.Since, y1.Frequency, y1.Phase⟩ : api_Running)).bind fun y6 => some (0, (⟨x0.board, (⟨x0.power.Closed, y6, x0.power.Limits, x0.power.Broken⟩ : api_Power), x0.time⟩ : restore_worker))
def c147s1_0 (x2 : Int) (y1 : api_Consumer) : Bool := ((decide (x2 < 0)) || (decide (x2 > y1.Load)))
def F147s1 (x0 : restore_worker) (x1 : Int) (x2 : Int) : Option (Int × restore_worker) :=
 (guardO [(decide (x2 < 0), false)] (getI x0.board.Consumers x1) default).bind fun y1 => bif (c147s1_0 x2 y1) then some (1, x0) else (getI x0.power.Limits x1).bind fun y4 => (setI x0.power.Limits x1 x2).bind fun y6 => some (0, (⟨x0.board, (⟨x0.power.Closed, x0.power.Sources, y6, x0.power.Broken⟩ : api_Power), x0.time⟩ : restore_worker))
def F217_l0 (n0 : Nat) (a0 : api_Running) (z0 : (List api_Running)) : Option (Ctl ((List api_Running)) Unit) :=
 bif (a0.State == 2) then (getI z0 (cnt 0 n0)).bind fun y7 => (setI z0 (cnt 0 n0) (⟨y7.State, y7.Since, y7.Frequency, F252 (w64 (a0.Phase + (w64 (36 * (w64 (a0.Frequency - 5000))))))⟩ : api_Running)).bind fun y9 => some (.next y9) else some (.next z0)
def F217 (x0 : api_Board) (x1 : api_Power) : Option (api_Power × Int) :=
 (F65 x0 x1).bind fun y1 => bif (y1 != 0) then some ((⟨([] : List Bool), ([] : List api_Running), ([] : List Int), ([] : List api_Part)⟩ : api_Power), y1) else (F70 x1).bind fun y4 => andThen (foldI F217_l0 x1.Sources 0 y4.Sources) (fun _ => none) fun z0 => some ((⟨y4.Closed, z0, y4.Limits, y4.Broken⟩ : api_Power), 0)
def c148s1_3 (y1 : api_Power × Int) (z0 : Int × (List api_Running)) : Bool := decide (z0.1 < (y1.1.Sources.length : Int))
def c148s1_4 (x0 : restore_worker) (y4 : api_Running) (y6 : Bool) (y8 : api_Source) : Bool := (((y4.State == 1) && y6) && (decide ((w64 (y4.Since + y8.Start)) ≤ (w64 (x0.time + 1)))))
def F148s1_l0 (x0 : restore_worker) (y1 : api_Power × Int) (z0 : Int × (List api_Running)) : Option (Ctl (Int × (List api_Running)) Unit) :=
 bif (c148s1_3 y1 z0) then (getI z0.2 z0.1).bind fun y4 => (guardO [((y4.State == 1), true)] (F216s0 (⟨x0.board, (⟨y1.1.Closed, z0.2, y1.1.Limits, y1.1.Broken⟩ : api_Power), x0.time⟩ : restore_worker) z0.1) default).bind fun y6 => (guardO [(((y4.State == 1) && y6), true)] (getI x0.board.Sources z0.1) default).bind fun y8 => bif (c148s1_4 x0 y4 y6 y8) then (setI z0.2 z0.1 (⟨2, y4.Since, y4.Frequency, y4.Phase⟩ : api_Running)).bind fun y11 => some (.next (w64 (z0.1 + 1), y11)) else some (.next (w64 (z0.1 + 1), z0.2)) else some (.brk (z0.1, z0.2))
def F148s1 (x0 : restore_worker) : Option restore_worker :=
 (F217 x0.board x0.power).bind fun y1 => andThen (whileN (F148s1_l0 x0 y1) 1152921504606846976 (0, y1.1.Sources)) (fun _ => none) fun z0 => some (⟨x0.board, (⟨y1.1.Closed, z0.2, y1.1.Limits, y1.1.Broken⟩ : api_Power), x0.time⟩ : restore_worker)
def F219 (x0 : api_Part) (x1 : api_Part) : Int :=
 bif (x0.Kind != x1.Kind) then w64 (x0.Kind - x1.Kind) else w64 (x0.Number - x1.Number)
def F218s0_l0 (x0 : List api_Part) (x1 : api_Part) (z0 : Int × Int) : Option (Ctl (Int × Int) Unit) :=
 bif decide (z0.1 < z0.2) then (getI x0 (w64 (shrI .u64 (IntKind.wrap .u64 (w64 (z0.1 + z0.2))) 1))).bind fun y2 => bif decide ((F219 y2 x1) < 0) then some (.next (w64 ((w64 (shrI .u64 (IntKind.wrap .u64 (w64 (z0.1 + z0.2))) 1)) + 1), z0.2)) else some (.next (z0.1, w64 (shrI .u64 (IntKind.wrap .u64 (w64 (z0.1 + z0.2))) 1))) else some (.brk (z0.1, z0.2))
def F218s0 (x0 : List api_Part) (x1 : api_Part) : Option (Int × Bool) :=
 andThen (whileN (F218s0_l0 x0 x1) 1152921504606846976 (0, (x0.length : Int))) (fun _ => none) fun z0 => (guardO [(decide (z0.1 < (x0.length : Int)), true)] (getI x0 z0.1) default).bind fun y5 => some (z0.1, ((decide (z0.1 < (x0.length : Int))) && ((F219 y5 x1) == 0)))
def F220s0 (x0 : List api_Part) (x1 : Int) (x2 : List api_Part) : Option ((List api_Part)) :=
 (bndI x0.length x1 (x0.length : Int)).bind fun u2 => bif ((x2.length : Int) == 0) then some x0 else bif (x1 == (x0.length : Int)) then (appI 17 x0 x2).bind fun y5 => some y5 else insI 17 x0 x1 x2
def F221s0 (x0 : List api_Part) (x1 : Int) (x2 : Int) : Option ((List api_Part)) :=
 (bnd3I x0.length x1 x2 (x0.length : Int)).bind fun u2 => bif (x1 == x2) then some x0 else (bndI x0.length 0 x1).bind fun u5 => (bndI x0.length x2 (x0.length : Int)).bind fun u7 => (appPI x0 ((Int.toNat x1) - 0) ((x0.drop (Int.toNat x2)).take ((Int.toNat (x0.length : Int)) - (Int.toNat x2)))).bind fun y8 => (bndI (y8.length - 0) (((((Int.toNat x1) - 0) + ((x0.drop (Int.toNat x2)).take ((Int.toNat (x0.length : Int)) - (Int.toNat x2))).length) : Nat) : Int) (x0.length : Int)).bind fun u11 => some ((clrI y8 (0 + (Int.toNat (((((Int.toNat x1) - 0) + ((x0.drop (Int.toNat x2)).take ((Int.toNat (x0.length : Int)) - (Int.toNat x2))).length) : Nat) : Int))) ((Int.toNat (x0.length : Int)) - (Int.toNat (((((Int.toNat x1) - 0) + ((x0.drop (Int.toNat x2)).take ((Int.toNat (x0.length : Int)) - (Int.toNat x2))).length) : Nat) : Int))) (⟨0, 0⟩ : api_Part)).take (((Int.toNat x1) - 0) + ((x0.drop (Int.toNat x2)).take ((Int.toNat (x0.length : Int)) - (Int.toNat x2))).length))
def c149s1_0 (x0 : restore_worker) (x2 : Bool) : Bool := (x2 && (decide ((x0.power.Broken.length : Int) ≥ 32)))
def F149s1_m0 (x0 : restore_worker) (x1 : api_Part) (x2 : Bool) (y1 : Int × Bool) : Option (Ctl ((List api_Part)) Unit) :=
 bif x2 then (F220s0 x0.power.Broken y1.1 [x1]).bind fun y6 => some (.next y6) else (F221s0 x0.power.Broken y1.1 (w64 (y1.1 + 1))).bind fun y8 => some (.next y8)
def F149s1 (x0 : restore_worker) (x1 : api_Part) (x2 : Bool) : Option (Int × restore_worker) :=
 (F218s0 x0.power.Broken x1).bind fun y1 => bif (y1.2 == x2) then some (11, x0) else bif (c149s1_0 x0 x2) then some (2, x0) else andThen (F149s1_m0 x0 x1 x2 y1) (fun _ => none) fun z0 => bif (x1.Kind == 1) then (getI x0.power.Sources x1.Number).bind fun y11 => (setI x0.power.Sources x1.Number (⟨0, y11.Since, y11.Frequency, y11.Phase⟩ : api_Running)).bind fun y13 => bif x2 then (getI y13 x1.Number).bind fun y16 => (setI y13 x1.Number (⟨3, y16.Since, y16.Frequency, y16.Phase⟩ : api_Running)).bind fun y18 => some (0, (⟨x0.board, (⟨x0.power.Closed, y18, x0.power.Limits, z0⟩ : api_Power), x0.time⟩ : restore_worker)) else some (0, (⟨x0.board, (⟨x0.power.Closed, y13, x0.power.Limits, z0⟩ : api_Power), x0.time⟩ : restore_worker)) else some (0, (⟨x0.board, (⟨x0.power.Closed, x0.power.Sources, x0.power.Limits, z0⟩ : api_Power), x0.time⟩ : restore_worker))
def F71s1 (x0 : restore_worker) (x1 : api_Act) : Option (Int × restore_worker) :=
 bif (x1.Kind == 1) then (F142 x0.board x0.power x1.Unit).bind fun y2 => some (y2.2, (⟨x0.board, y2.1, x0.time⟩ : restore_worker)) else bif (x1.Kind == 2) then (F143 x0.board x0.power x1.Unit).bind fun y5 => some (y5.2, (⟨x0.board, y5.1, x0.time⟩ : restore_worker)) else bif (x1.Kind == 6) then (F144 x0.board x0.power x1.Unit x1.Value).bind fun y8 => some (y8.2, (⟨x0.board, y8.1, x0.time⟩ : restore_worker)) else bif (x1.Kind == 3) then (F145s1 x0 x1.Unit).bind fun y11 => some (y11.1, y11.2) else bif (x1.Kind == 4) then (F146s1 x0 x1.Unit).bind fun y14 => some (y14.1, y14.2) else bif (x1.Kind == 5) then (F147s1 x0 x1.Unit x1.Value).bind fun y17 => some (y17.1, y17.2) else bif (x1.Kind == 7) then (F148s1 x0).bind fun y20 => some (0, y20) else (F149s1 x0 (⟨x1.Value, x1.Unit⟩ : api_Part) (x1.Kind == 8)).bind fun y22 => some (y22.1, y22.2)
def c19_0 (x2 : Int) (x3 : api_Act) : Bool := ((((decide (x2 < 0)) || (decide (x2 > 2147483648))) || (decide (x3.Kind < 1))) || (decide (x3.Kind > 9)))
def F19 (x0 : api_Board) (x1 : api_Power) (x2 : Int) (x3 : api_Act) : Option (api_Power × Int) :=
 (F65 x0 x1).bind fun y1 => bif (y1 != 0) then some ((⟨([] : List Bool), ([] : List api_Running), ([] : List Int), ([] : List api_Part)⟩ : api_Power), y1) else bif (c19_0 x2 x3) then some ((⟨([] : List Bool), ([] : List api_Running), ([] : List Int), ([] : List api_Part)⟩ : api_Power), 1) else (F69 x0 x3).bind fun y5 => bif !y5 then some ((⟨([] : List Bool), ([] : List api_Running), ([] : List Int), ([] : List api_Part)⟩ : api_Power), 10) else (F70 x1).bind fun y8 => (F71s1 (⟨x0, y8, x2⟩ : restore_worker) x3).bind fun y10 => bif (y10.1 != 0) then some ((⟨([] : List Bool), ([] : List api_Running), ([] : List Int), ([] : List api_Part)⟩ : api_Power), y10.1) else some (y10.2.power, 0)
def F25_l0 (x0 : api_Board) (n0 : Nat) (a0 : api_Act) (z0 : Sg0) : Option (Ctl (Sg0) (api_Power × Int × Int × Int)) :=
 (F19 x0 (⟨z0.2.1, z0.2.2.1, z0.2.2.2.1, z0.2.2.2.2⟩ : api_Power) z0.1 a0).bind fun y6 => bif (y6.2 != 0) then some (.ret ((⟨z0.2.1, z0.2.2.1, z0.2.2.2.1, z0.2.2.2.2⟩ : api_Power), z0.1, cnt 0 n0, y6.2)) else bif (a0.Kind == 7) then some (.next (w64 (z0.1 + 1), y6.1.Closed, y6.1.Sources, y6.1.Limits, y6.1.Broken)) else some (.next (z0.1, y6.1.Closed, y6.1.Sources, y6.1.Limits, y6.1.Broken))
def F25 (x0 : api_Board) (x1 : api_Power) (x2 : Int) (x3 : List api_Act) : Option (api_Power × Int × Int × Int) :=
 (F65 x0 x1).bind fun y1 => bif (y1 != 0) then some ((⟨([] : List Bool), ([] : List api_Running), ([] : List Int), ([] : List api_Part)⟩ : api_Power), 0, 0, y1) else (F70 x1).bind fun y4 => andThen (foldI (F25_l0 x0) x3 0 (x2, y4.Closed, y4.Sources, y4.Limits, y4.Broken)) some fun z0 => some ((⟨z0.2.1, z0.2.2.1, z0.2.2.2.1, z0.2.2.2.2⟩ : api_Power), z0.1, (x3.length : Int), 0)
def F21_l0 (x1 : List Bool) (n0 : Nat) (a0 : Bool) (z0 : Unit) : Option (Ctl Unit Bool) :=
 (getI x1 (cnt 0 n0)).bind fun y2 => bif !(a0 == y2) then some (.ret false) else some (.next ())
def F21 (x0 : List Bool) (x1 : List Bool) : Option Bool :=
 bif ((x0.length : Int) != (x1.length : Int)) then some false else andThen (foldI (F21_l0 x1) x0 0 ()) some fun z0 => some true
def F75_l0 (x1 : List Int) (n0 : Nat) (a0 : Int) (z0 : Unit) : Option (Ctl Unit Bool) :=
 (getI x1 (cnt 0 n0)).bind fun y2 => bif (a0 != y2) then some (.ret false) else some (.next ())
def F75 (x0 : List Int) (x1 : List Int) : Option Bool :=
 bif ((x0.length : Int) != (x1.length : Int)) then some false else andThen (foldI (F75_l0 x1) x0 0 ()) some fun z0 => some true
def c26_0 (x0 : api_Power) (x1 : api_Power) (y1 : Bool) (y3 : Bool) : Bool := ((((!y1) || (!y3)) || ((x0.Sources.length : Int) != (x1.Sources.length : Int))) || ((x0.Broken.length : Int) != (x1.Broken.length : Int)))
def c26_4 (x0 : api_Power) (z0 : Int) : Bool := decide (z0 < (x0.Sources.length : Int))
def c26_5 (y7 : api_Running) (y9 : api_Running) : Bool := !((y7.State == y9.State) && ((y7.Since == y9.Since) && ((y7.Frequency == y9.Frequency) && ((y7.Phase == y9.Phase) && true))))
def F26_l0 (x0 : api_Power) (x1 : api_Power) (z0 : Int) : Option (Ctl Int Bool) :=
 bif (c26_4 x0 z0) then (getI x0.Sources z0).bind fun y7 => (getI x1.Sources z0).bind fun y9 => bif (c26_5 y7 y9) then some (.ret false) else some (.next (w64 (z0 + 1))) else some (.brk z0)
def c26_9 (x0 : api_Power) (z1 : Int) : Bool := decide (z1 < (x0.Broken.length : Int))
def c26_10 (y13 : api_Part) (y15 : api_Part) : Bool := !((y13.Kind == y15.Kind) && ((y13.Number == y15.Number) && true))
def F26_l1 (x0 : api_Power) (x1 : api_Power) (z1 : Int) : Option (Ctl Int Bool) :=
 bif (c26_9 x0 z1) then (getI x0.Broken z1).bind fun y13 => (getI x1.Broken z1).bind fun y15 => bif (c26_10 y13 y15) then some (.ret false) else some (.next (w64 (z1 + 1))) else some (.brk z1)
def F26 (x0 : api_Power) (x1 : api_Power) : Option Bool :=
 (F21 x0.Closed x1.Closed).bind fun y1 => (guardO [(!y1, false)] (F75 x0.Limits x1.Limits) default).bind fun y3 => bif (c26_0 x0 x1 y1 y3) then some false else andThen (whileN (F26_l0 x0 x1) 1152921504606846976 0) some fun z0 => andThen (whileN (F26_l1 x0 x1) 1152921504606846976 0) some fun z1 => some true
def F28  : api_Board × api_Power :=
 ((⟨2, [(⟨1, 0, 1⟩ : api_Breaker), (⟨2, 1, 0⟩ : api_Breaker)], [(⟨100, 0, 3⟩ : api_Source)], ([] : List api_Consumer), 0, 0⟩ : api_Board), (⟨[false, false], [(⟨0, 0, 5000, 0⟩ : api_Running)], ([] : List Int), ([] : List api_Part)⟩ : api_Power))
def F256s0 (x0 : Int) (x1 : Int) (x2 : shed_relief) : Option (Bool × shed_relief) :=
 (F134 x2.power x0 x1).bind fun y1 => some (y1, x2)
def F223s1 (x0 : shed_relief) (x1 : api_Breaker) : Option (Bool × shed_relief) :=
 (F256s0 3 x1.A x0).bind fun y1 => bif y1.1 then some (true, y1.2) else bif (x1.Kind == 1) then (F256s0 3 x1.B y1.2).bind fun y5 => some (y5.1, y5.2) else bif (x1.Kind == 2) then (F256s0 1 x1.B y1.2).bind fun y8 => (guardO [(y8.1, false)] (getI y8.2.power.Sources x1.B) default).bind fun y10 => some ((y8.1 || (y10.State != 2)), y8.2) else (F256s0 4 x1.B y1.2).bind fun y12 => some (y12.1, y12.2)
def F255s1 (x0 : shed_relief) (x1 : Int) : Option shed_relief :=
 (getI x0.power.Closed x1).bind fun y1 => (setI x0.power.Closed x1 false).bind fun y3 => (appI 25 x0.acts [(⟨2, x1, 0⟩ : api_Act)]).bind fun y5 => some (⟨x0.board, (⟨y3, x0.power.Sources, x0.power.Limits, x0.power.Broken⟩ : api_Power), y5⟩ : shed_relief)
def F222s1_l0 (n0 : Nat) (a0 : api_Breaker) (z0 : Sg6) : Option (Ctl (Sg6) Unit) :=
 (getI z0.2.2.2.2.2.2.1 (cnt 0 n0)).bind fun y1 => (guardO [(y1, true)] (F223s1 (⟨(⟨z0.1, z0.2.1, z0.2.2.1, z0.2.2.2.1, z0.2.2.2.2.1, z0.2.2.2.2.2.1⟩ : api_Board), (⟨z0.2.2.2.2.2.2.1, z0.2.2.2.2.2.2.2.1, z0.2.2.2.2.2.2.2.2.1, z0.2.2.2.2.2.2.2.2.2.1⟩ : api_Power), z0.2.2.2.2.2.2.2.2.2.2⟩ : shed_relief) a0) (default, (⟨(⟨z0.1, z0.2.1, z0.2.2.1, z0.2.2.2.1, z0.2.2.2.2.1, z0.2.2.2.2.2.1⟩ : api_Board), (⟨z0.2.2.2.2.2.2.1, z0.2.2.2.2.2.2.2.1, z0.2.2.2.2.2.2.2.2.1, z0.2.2.2.2.2.2.2.2.2.1⟩ : api_Power), z0.2.2.2.2.2.2.2.2.2.2⟩ : shed_relief))).bind fun y3 => bif (y1 && y3.1) then none else some (.next (y3.2.board.Buses, y3.2.board.Breakers, y3.2.board.Sources, y3.2.board.Consumers, y3.2.board.Phase, y3.2.board.Frequency, y3.2.power.Closed, y3.2.power.Sources, y3.2.power.Limits, y3.2.power.Broken, y3.2.acts))
def F222s1_l1 (n1 : Nat) (a1 : Int) (z1 : Sg6) : Option (Ctl (Sg6) Unit) :=
 (F255s1 (⟨(⟨z1.1, z1.2.1, z1.2.2.1, z1.2.2.2.1, z1.2.2.2.2.1, z1.2.2.2.2.2.1⟩ : api_Board), (⟨z1.2.2.2.2.2.2.1, z1.2.2.2.2.2.2.2.1, z1.2.2.2.2.2.2.2.2.1, z1.2.2.2.2.2.2.2.2.2.1⟩ : api_Power), z1.2.2.2.2.2.2.2.2.2.2⟩ : shed_relief) a1).bind fun y6 => some (.next (y6.board.Buses, y6.board.Breakers, y6.board.Sources, y6.board.Consumers, y6.board.Phase, y6.board.Frequency, y6.power.Closed, y6.power.Sources, y6.power.Limits, y6.power.Broken, y6.acts))
def F222s1 (x0 : shed_relief) : Option shed_relief :=
 andThen (foldI F222s1_l0 x0.board.Breakers 0 (x0.board.Buses, x0.board.Breakers, x0.board.Sources, x0.board.Consumers, x0.board.Phase, x0.board.Frequency, x0.power.Closed, x0.power.Sources, x0.power.Limits, x0.power.Broken, x0.acts)) (fun _ => none) fun z0 => andThen (foldI F222s1_l1 ([] : List Int) 0 (z0.1, z0.2.1, z0.2.2.1, z0.2.2.2.1, z0.2.2.2.2.1, z0.2.2.2.2.2.1, z0.2.2.2.2.2.2.1, z0.2.2.2.2.2.2.2.1, z0.2.2.2.2.2.2.2.2.1, z0.2.2.2.2.2.2.2.2.2.1, z0.2.2.2.2.2.2.2.2.2.2)) (fun _ => none) fun z1 => some (⟨(⟨z1.1, z1.2.1, z1.2.2.1, z1.2.2.2.1, z1.2.2.2.2.1, z1.2.2.2.2.2.1⟩ : api_Board), (⟨z1.2.2.2.2.2.2.1, z1.2.2.2.2.2.2.2.1, z1.2.2.2.2.2.2.2.2.1, z1.2.2.2.2.2.2.2.2.2.1⟩ : api_Power), z1.2.2.2.2.2.2.2.2.2.2⟩ : shed_relief)
def F95 (x0 : api_Board) (x1 : api_Power) (x2 : Int) : Option Bool :=
 (F176 x0 x1 x2).bind fun y1 => some (decide ((y1.1.Sources.length : Int) > 0))
def F224s0 (x0 : api_Breaker) (x1 : shed_relief) : Option (Bool × shed_relief) :=
 (guardO [((x0.Kind == 3), true)] (F95 x1.board x1.power x0.A) default).bind fun y1 => some (((x0.Kind == 3) && (!y1)), x1)
def F222s2_l0 (n0 : Nat) (a0 : api_Breaker) (z0 : Sg6) : Option (Ctl (Sg6) Unit) :=
 (getI z0.2.2.2.2.2.2.1 (cnt 0 n0)).bind fun y1 => (guardO [(y1, true)] (F224s0 a0 (⟨(⟨z0.1, z0.2.1, z0.2.2.1, z0.2.2.2.1, z0.2.2.2.2.1, z0.2.2.2.2.2.1⟩ : api_Board), (⟨z0.2.2.2.2.2.2.1, z0.2.2.2.2.2.2.2.1, z0.2.2.2.2.2.2.2.2.1, z0.2.2.2.2.2.2.2.2.2.1⟩ : api_Power), z0.2.2.2.2.2.2.2.2.2.2⟩ : shed_relief)) (default, (⟨(⟨z0.1, z0.2.1, z0.2.2.1, z0.2.2.2.1, z0.2.2.2.2.1, z0.2.2.2.2.2.1⟩ : api_Board), (⟨z0.2.2.2.2.2.2.1, z0.2.2.2.2.2.2.2.1, z0.2.2.2.2.2.2.2.2.1, z0.2.2.2.2.2.2.2.2.2.1⟩ : api_Power), z0.2.2.2.2.2.2.2.2.2.2⟩ : shed_relief))).bind fun y3 => bif (y1 && y3.1) then none else some (.next (y3.2.board.Buses, y3.2.board.Breakers, y3.2.board.Sources, y3.2.board.Consumers, y3.2.board.Phase, y3.2.board.Frequency, y3.2.power.Closed, y3.2.power.Sources, y3.2.power.Limits, y3.2.power.Broken, y3.2.acts))
def F222s2_l1 (n1 : Nat) (a1 : Int) (z1 : Sg6) : Option (Ctl (Sg6) Unit) :=
 (F255s1 (⟨(⟨z1.1, z1.2.1, z1.2.2.1, z1.2.2.2.1, z1.2.2.2.2.1, z1.2.2.2.2.2.1⟩ : api_Board), (⟨z1.2.2.2.2.2.2.1, z1.2.2.2.2.2.2.2.1, z1.2.2.2.2.2.2.2.2.1, z1.2.2.2.2.2.2.2.2.2.1⟩ : api_Power), z1.2.2.2.2.2.2.2.2.2.2⟩ : shed_relief) a1).bind fun y6 => some (.next (y6.board.Buses, y6.board.Breakers, y6.board.Sources, y6.board.Consumers, y6.board.Phase, y6.board.Frequency, y6.power.Closed, y6.power.Sources, y6.power.Limits, y6.power.Broken, y6.acts))
def F222s2 (x0 : shed_relief) : Option shed_relief :=
 andThen (foldI F222s2_l0 x0.board.Breakers 0 (x0.board.Buses, x0.board.Breakers, x0.board.Sources, x0.board.Consumers, x0.board.Phase, x0.board.Frequency, x0.power.Closed, x0.power.Sources, x0.power.Limits, x0.power.Broken, x0.acts)) (fun _ => none) fun z0 => andThen (foldI F222s2_l1 ([] : List Int) 0 (z0.1, z0.2.1, z0.2.2.1, z0.2.2.2.1, z0.2.2.2.2.1, z0.2.2.2.2.2.1, z0.2.2.2.2.2.2.1, z0.2.2.2.2.2.2.2.1, z0.2.2.2.2.2.2.2.2.1, z0.2.2.2.2.2.2.2.2.2.1, z0.2.2.2.2.2.2.2.2.2.2)) (fun _ => none) fun z1 => some (⟨(⟨z1.1, z1.2.1, z1.2.2.1, z1.2.2.2.1, z1.2.2.2.2.1, z1.2.2.2.2.2.1⟩ : api_Board), (⟨z1.2.2.2.2.2.2.1, z1.2.2.2.2.2.2.2.1, z1.2.2.2.2.2.2.2.2.1, z1.2.2.2.2.2.2.2.2.2.1⟩ : api_Power), z1.2.2.2.2.2.2.2.2.2.2⟩ : shed_relief)
def F157s1 (x0 : shed_relief) : Option shed_relief :=
 (F222s1 x0).bind fun y1 => (F222s2 y1).bind fun y3 => (F101 y3.board y3.power).bind fun y5 => some (⟨y3.board, y5.1, y3.acts⟩ : shed_relief)
def F276s0_l0 (x1 : Int) (x2 : Int) (z0 : Unit) : Option (Ctl Unit Unit) :=
 bif decide ((w64 (x1 + 1)) < x2) then none else some (.brk ())
def F276s0 (x0 : List Int) (x1 : Int) (x2 : Int) (x3c0 : api_Board) : Option Unit :=
 andThen (whileN (F276s0_l0 x1 x2) 1152921504606846976 ()) (fun _ => none) fun z0 => some ()
def F259s1_l0 (x1 : Int) (z0 : Unit) : Option (Ctl Unit Unit) :=
 bif decide (20 ≤ x1) then none else some (.brk ())
def F259s1_l1 (x1 : Int) (z1 : Unit) : Option (Ctl Unit Unit) :=
 bif decide (20 < x1) then none else some (.brk ())
def F259s1 (x0 : List Int) (x1 : Int) (x2c0 : api_Board) : Option api_Board :=
 andThen (whileN (F259s1_l0 x1) 1152921504606846976 ()) (fun _ => none) fun z0 => (F276s0 x0 0 x1 x2c0).bind fun y2 => andThen (whileN (F259s1_l1 x1) 1152921504606846976 ()) (fun _ => none) fun z1 => some x2c0
def F230s1 (x0 : List Int) (x1c0 : api_Board) : Option api_Board :=
 (F259s1 x0 (x0.length : Int) x1c0).bind fun y1 => some y1
def F167_l0 (x0 : api_Board) (z0 : Unit) : Option (Ctl Unit Unit) :=
 bif decide (0 < (x0.Consumers.length : Int)) then none else some (.brk ())
def F167 (x0 : api_Board) : Option ((List Int)) :=
 (F92 x0).bind fun y1 => bif (y1 != 0) then none else andThen (whileN (F167_l0 x0) 1152921504606846976 ()) (fun _ => none) fun z0 => (F230s1 ([] : List Int) x0).bind fun y5 => some ([] : List Int)
def F226s0 (x0 : Int) (x1 : api_Island) : Option Bool :=
 (F96 x1.Consumers x0).bind fun y1 => some (!y1)
def F243s1_l0 (x1c0 : api_Island) (n0 : Nat) (a0 : Int) (z0 : Unit) : Option (Ctl Unit (Int × api_Island)) :=
 (F226s0 a0 x1c0).bind fun y1 => bif y1 then some (.ret (cnt 0 n0, x1c0)) else some (.next ())
def F243s1 (x0 : List Int) (x1c0 : api_Island) : Option (Int × api_Island) :=
 andThen (foldI (F243s1_l0 x1c0) x0 0 ()) some fun z0 => some ((-1), x1c0)
def F225s1 (x0 : List Int) (x1c0 : api_Island) : Option ((List Int) × api_Island) :=
 (F243s1 x0 x1c0).bind fun y1 => bif (y1.1 == (-1)) then some (x0, y1.2) else none
def F158s0_l0 (y1 : (List Int)) (n0 : Nat) (a0 : api_Island) (z0 : Unit) : Option (Ctl Unit Unit) :=
 (F140 y1).bind fun y5 => (F225s1 y5 a0).bind fun y7 => bif decide ((y7.2.Sources.length : Int) > 0) then none else some (.next ())
def F158s0 (x0 : shed_relief) : Option Unit :=
 (F167 x0.board).bind fun y1 => (F106 x0.board x0.power).bind fun y3 => andThen (foldI (F158s0_l0 y1) y3 0 ()) (fun _ => none) fun z0 => some ()
def F156s1 (x0 : shed_relief) : Option shed_relief :=
 (F157s1 x0).bind fun y1 => (F158s0 y1).bind fun y3 => some y1
def F155s0 (x0 : api_Board) (x1 : api_Power) : Option (api_Power × (List api_Act) × Int) :=
 (F65 x0 x1).bind fun y1 => bif (y1 != 0) then none else (F70 x1).bind fun y4 => (F156s1 (⟨x0, y4, ([] : List api_Act)⟩ : shed_relief)).bind fun y6 => some (y6.power, y6.acts, 0)
def F81 (x0 : api_Board) (x1 : api_Power) : Option (api_Power × (List api_Act) × Int) :=
 (F155s0 x0 x1).bind fun y1 => some (y1.1, y1.2.1, y1.2.2)
def F159_l0 (x1 : List Bool) (n0 : Nat) (a0 : Bool) (z0 : Unit) : Option (Ctl Unit Unit) :=
 (getI x1 (cnt 0 n0)).bind fun y2 => bif !(a0 == y2) then none else some (.next ())
def F159 (x0 : List Bool) (x1 : List Bool) : Option Bool :=
 bif ((x0.length : Int) != (x1.length : Int)) then none else andThen (foldI (F159_l0 x1) x0 0 ()) (fun _ => none) fun z0 => some true
def c160_1 (a0 : api_Running) (y2 : api_Running) : Bool := !((a0.State == y2.State) && ((a0.Since == y2.Since) && ((a0.Frequency == y2.Frequency) && ((a0.Phase == y2.Phase) && true))))
def F160_l0 (x1 : List api_Running) (n0 : Nat) (a0 : api_Running) (z0 : Unit) : Option (Ctl Unit Unit) :=
 (getI x1 (cnt 0 n0)).bind fun y2 => bif (c160_1 a0 y2) then none else some (.next ())
def F160 (x0 : List api_Running) (x1 : List api_Running) : Option Bool :=
 bif ((x0.length : Int) != (x1.length : Int)) then none else andThen (foldI (F160_l0 x1) x0 0 ()) (fun _ => none) fun z0 => some true
def F161_l0 (x1 : List Int) (n0 : Nat) (a0 : Int) (z0 : Unit) : Option (Ctl Unit Bool) :=
 (getI x1 (cnt 0 n0)).bind fun y2 => bif (a0 != y2) then some (.ret false) else some (.next ())
def F161 (x0 : List Int) (x1 : List Int) : Option Bool :=
 bif ((x0.length : Int) != (x1.length : Int)) then none else andThen (foldI (F161_l0 x1) x0 0 ()) some fun z0 => some true
def c162_1 (a0 : api_Part) (y2 : api_Part) : Bool := !((a0.Kind == y2.Kind) && ((a0.Number == y2.Number) && true))
def F162_l0 (x1 : List api_Part) (n0 : Nat) (a0 : api_Part) (z0 : Unit) : Option (Ctl Unit Bool) :=
 (getI x1 (cnt 0 n0)).bind fun y2 => bif (c162_1 a0 y2) then some (.ret false) else some (.next ())
def F162 (x0 : List api_Part) (x1 : List api_Part) : Option Bool :=
 bif ((x0.length : Int) != (x1.length : Int)) then none else andThen (foldI (F162_l0 x1) x0 0 ()) some fun z0 => some true
def F82 (x0 : api_Power) (x1 : api_Power) : Option Bool :=
 (F159 x0.Closed x1.Closed).bind fun y1 => (guardO [(y1, true)] (F160 x0.Sources x1.Sources) default).bind fun y3 => (guardO [((y1 && y3), true)] (F161 x0.Limits x1.Limits) default).bind fun y5 => (guardO [(((y1 && y3) && y5), true)] (F162 x0.Broken x1.Broken) default).bind fun y7 => some (((y1 && y3) && y5) && y7)
def c83_1 (a0 : api_Breaker) (y1 : Bool) (y3 : Bool) (y5 : Bool) : Bool := ((((a0.Kind == 1) && y1) && y3) && (!y5))
def F83_l0 (x0 : api_Board) (x1 : api_Power) (n0 : Nat) (a0 : api_Breaker) (z0 : Unit) : Option (Ctl Unit Unit) :=
 (guardO [((a0.Kind == 1), true)] (getI x1.Closed (cnt 0 n0)) default).bind fun y1 => (guardO [(((a0.Kind == 1) && y1), true)] (F134 x1 2 (cnt 0 n0)) default).bind fun y3 => (guardO [((((a0.Kind == 1) && y1) && y3), true)] (F95 x0 x1 a0.A) default).bind fun y5 => bif (c83_1 a0 y1 y3 y5) then none else some (.next ())
def F83 (x0 : api_Board) (x1 : api_Power) : Option Bool :=
 andThen (foldI (F83_l0 x0 x1) x0.Breakers 0 ()) (fun _ => none) fun z0 => some false
def F68 (x0 : api_Board) (x1 : api_Power) (x2 : Int) : Option Bool :=
 (getI x0.Breakers x2).bind fun y1 => (F134 x1 2 x2).bind fun y3 => (guardO [(!y3, true)] (F134 x1 3 y1.A) default).bind fun y5 => (guardO [(((!y3) && (!y5)), true), ((y1.Kind != 1), false)] (F134 x1 3 y1.B) default).bind fun y7 => some (((!y3) && (!y5)) && ((y1.Kind != 1) || (!y7)))
def F66 (x0 : api_Board) (x1 : api_Power) (x2 : Int) : Option Bool :=
 (F67 x0 x2).bind fun y1 => (F68 x0 x1 y1).bind fun y3 => (guardO [(y3, true)] (F134 x1 1 x2) default).bind fun y5 => (guardO [((y3 && (!y5)), true)] (getI x1.Sources x2) default).bind fun y7 => some ((y3 && (!y5)) && (y7.State != 3))
def c18_1 (x0 : api_Board) (z0 : Int × (List Bool)) : Bool := decide (z0.1 < (x0.Sources.length : Int))
def F18_l0 (x0 : api_Board) (x1 : api_Power) (z0 : Int × (List Bool)) : Option (Ctl (Int × (List Bool)) Unit) :=
 bif (c18_1 x0 z0) then (F66 x0 x1 z0.1).bind fun y7 => bif y7 then (F67 x0 z0.1).bind fun y10 => (getI x0.Breakers y10).bind fun y12 => (getI z0.2 y12.A).bind fun y14 => (setI z0.2 y12.A true).bind fun y16 => some (.next (w64 (z0.1 + 1), y16)) else none else some (.brk (z0.1, z0.2))
def F18_l2 (x0 : api_Board) (x1 : api_Power) (n2 : Nat) (a2 : api_Breaker) (z2 : (List Bool)) : Option (Ctl ((List Bool)) Unit) :=
 (guardO [((a2.Kind == 1), true)] (F68 x0 x1 (cnt 0 n2)) default).bind fun y19 => bif ((a2.Kind == 1) && y19) then (getI z2 a2.A).bind fun y22 => (guardO [(y22, false)] (getI z2 a2.B) default).bind fun y24 => (setI z2 a2.A (y22 || y24)).bind fun y26 => (getI y26 a2.B).bind fun y28 => (setI y26 a2.B (y22 || y24)).bind fun y30 => some (.next y30) else some (.next z2)
def F18_l1 (x0 : api_Board) (x1 : api_Power) (z1 : Int × (List Bool)) : Option (Ctl (Int × (List Bool)) Unit) :=
 bif decide (z1.1 < x0.Buses) then andThen (foldI (F18_l2 x0 x1) x0.Breakers 0 z1.2) (fun _ => none) fun z2 => some (.next (w64 (z1.1 + 1), z2)) else some (.brk (z1.1, z1.2))
def F18 (x0 : api_Board) (x1 : api_Power) : Option ((List Bool)) :=
 (F65 x0 x1).bind fun y1 => bif (y1 != 0) then none else (mkI 2 x0.Buses false).bind fun y4 => andThen (whileN (F18_l0 x0 x1) 1152921504606846976 (0, y4)) (fun _ => none) fun z0 => andThen (whileN (F18_l1 x0 x1) 1152921504606846976 (0, z0.2)) (fun _ => none) fun z1 => some z1.2
def F163_l0 (x1 : Bool) (n0 : Nat) (a0 : Bool) (z0 : Unit) : Option (Ctl Unit Int) :=
 bif (x1 == a0) then some (.ret (cnt 0 n0)) else none
def F163 (x0 : List Bool) (x1 : Bool) : Option Int :=
 andThen (foldI (F163_l0 x1) x0 0 ()) some fun z0 => some (-1)
def F84 (x0 : List Bool) (x1 : Bool) : Option Bool :=
 (F163 x0 x1).bind fun y1 => some (decide (y1 ≥ 0))
def F42_l0 (x0 : api_Board) (x1 : api_Power) (n0 : Nat) (a0 : Bool) (z0 : Unit) : Option (Ctl Unit Bool) :=
 (guardO [(a0, true)] (F95 x0 x1 (cnt 0 n0)) default).bind fun y3 => bif (a0 && (!y3)) then some (.ret false) else some (.next ())
def F42 (x0 : api_Board) (x1 : api_Power) : Option Bool :=
 (F18 x0 x1).bind fun y1 => andThen (foldI (F42_l0 x0 x1) y1 0 ()) some fun z0 => (F65 x0 x1).bind fun y6 => some (y6 == 0)
def F164s0 (x0 : restore_planner) (x1 : Int) : Option Bool :=
 (F95 x0.board x0.power x1).bind fun y1 => some y1
def F89s1 (x0 : restore_planner) (x1 : Int) (x2 : Int) : Option restore_planner :=
 (appI 25 x0.acts [(⟨x1, x2, 0⟩ : api_Act)]).bind fun y1 => (getI x0.power.Closed x2).bind fun y3 => (setI x0.power.Closed x2 (x1 == 1)).bind fun y5 => some (⟨x0.board, (⟨y5, x0.power.Sources, x0.power.Limits, x0.power.Broken⟩ : api_Power), x0.goal, y1⟩ : restore_planner)
def c85s1_1 (a0 : api_Breaker) (y1 : Bool) (y3 : Bool) (y5 : Bool) : Bool := ((((a0.Kind != 2) && y1) && (!y3)) && (!y5))
def F85s1_l0 (x0 : restore_planner) (n0 : Nat) (a0 : api_Breaker) (z0 : Unit) : Option (Ctl Unit Unit) :=
 (guardO [((a0.Kind != 2), true)] (getI x0.power.Closed (cnt 0 n0)) default).bind fun y1 => (guardO [(((a0.Kind != 2) && y1), true)] (F134 x0.power 2 (cnt 0 n0)) default).bind fun y3 => (guardO [((((a0.Kind != 2) && y1) && (!y3)), true)] (F164s0 x0 a0.A) default).bind fun y5 => bif (c85s1_1 a0 y1 y3 y5) then none else some (.next ())
def F85s1_l1 (n1 : Nat) (a1 : Int) (z1 : Sg5) : Option (Ctl (Sg5) Unit) :=
 (F89s1 (⟨(⟨z1.1, z1.2.1, z1.2.2.1, z1.2.2.2.1, z1.2.2.2.2.1, z1.2.2.2.2.2.1⟩ : api_Board), (⟨z1.2.2.2.2.2.2.1, z1.2.2.2.2.2.2.2.1, z1.2.2.2.2.2.2.2.2.1, z1.2.2.2.2.2.2.2.2.2.1⟩ : api_Power), z1.2.2.2.2.2.2.2.2.2.2.1, z1.2.2.2.2.2.2.2.2.2.2.2⟩ : restore_planner) 2 a1).bind fun y8 => some (.next (y8.board.Buses, y8.board.Breakers, y8.board.Sources, y8.board.Consumers, y8.board.Phase, y8.board.Frequency, y8.power.Closed, y8.power.Sources, y8.power.Limits, y8.power.Broken, y8.goal, y8.acts))
def F85s1 (x0 : restore_planner) : Option restore_planner :=
 andThen (foldI (F85s1_l0 x0) x0.board.Breakers 0 ()) (fun _ => none) fun z0 => andThen (foldI F85s1_l1 ([] : List Int) 0 (x0.board.Buses, x0.board.Breakers, x0.board.Sources, x0.board.Consumers, x0.board.Phase, x0.board.Frequency, x0.power.Closed, x0.power.Sources, x0.power.Limits, x0.power.Broken, x0.goal, x0.acts)) (fun _ => none) fun z1 => some (⟨(⟨z1.1, z1.2.1, z1.2.2.1, z1.2.2.2.1, z1.2.2.2.2.1, z1.2.2.2.2.2.1⟩ : api_Board), (⟨z1.2.2.2.2.2.2.1, z1.2.2.2.2.2.2.2.1, z1.2.2.2.2.2.2.2.2.1, z1.2.2.2.2.2.2.2.2.2.1⟩ : api_Power), z1.2.2.2.2.2.2.2.2.2.2.1, z1.2.2.2.2.2.2.2.2.2.2.2⟩ : restore_planner)
def F235 (x0 : Int) (x1 : Int) : Int × Int :=
 (IntKind.wrap .u64 ((IntKind.wrap .u64 ((IntKind.wrap .u64 ((shrI .u64 x0 32) * (shrI .u64 x1 32))) + (shrI .u64 (IntKind.wrap .u64 ((IntKind.wrap .u64 ((shrI .u64 x0 32) * (andI .u64 x1 4294967295))) + (shrI .u64 (IntKind.wrap .u64 ((andI .u64 x0 4294967295) * (andI .u64 x1 4294967295))) 32))) 32))) + (shrI .u64 (IntKind.wrap .u64 ((andI .u64 (IntKind.wrap .u64 ((IntKind.wrap .u64 ((shrI .u64 x0 32) * (andI .u64 x1 4294967295))) + (shrI .u64 (IntKind.wrap .u64 ((andI .u64 x0 4294967295) * (andI .u64 x1 4294967295))) 32))) 4294967295) + (IntKind.wrap .u64 ((andI .u64 x0 4294967295) * (shrI .u64 x1 32))))) 32)), IntKind.wrap .u64 (x0 * x1))
def F179 (x0 : Int) (x1 : Int) : Int × Int :=
 ((F235 x0 x1).1, (F235 x0 x1).2)
def F165_m0 (x1 : Int) : Option (Ctl Unit Unit) :=
 bif decide (x1 < 0) then none else some (.next ())
def c165_0 (x0 : List api_Act) (x1 : Int) : Bool := ((decide (((F179 (IntKind.wrap .u64 (x0.length : Int)) (IntKind.wrap .u64 x1)).1) > 0)) || (decide (((F179 (IntKind.wrap .u64 (x0.length : Int)) (IntKind.wrap .u64 x1)).2) > 9223372036854775807)))
def F165_m1 (x0 : List api_Act) (x1 : Int) : Option (Ctl Unit Unit) :=
 bif (c165_0 x0 x1) then none else some (.next ())
def c165_3 (z2 : Int × (List api_Act)) : Bool := decide (z2.1 < (z2.2.length : Int))
def F165_l2 (z2 : Int × (List api_Act)) : Option (Ctl (Int × (List api_Act)) Unit) :=
 bif (c165_3 z2) then (bndI z2.2.length z2.1 (z2.2.length : Int)).bind fun u7 => (bndI z2.2.length 0 z2.1).bind fun u9 => some (.next (w64 (z2.1 + ((Nat.min ((z2.2.drop 0).take ((Int.toNat z2.1) - 0)).length ((Int.toNat (z2.2.length : Int)) - (Int.toNat z2.1))) : Int)), (cpyI z2.2 (Int.toNat z2.1) ((Int.toNat (z2.2.length : Int)) - (Int.toNat z2.1)) ((z2.2.drop 0).take ((Int.toNat z2.1) - 0))))) else some (.brk (z2.1, z2.2))
def F165 (x0 : List api_Act) (x1 : Int) : Option ((List api_Act)) :=
 andThen (F165_m0 x1) (fun _ => none) fun z0 => andThen (F165_m1 x0 x1) (fun _ => none) fun z1 => (mkI 25 (w64 ((F179 (IntKind.wrap .u64 (x0.length : Int)) (IntKind.wrap .u64 x1)).2)) (⟨0, 0, 0⟩ : api_Act)).bind fun y3 => andThen (whileN F165_l2 1152921504606846976 (((Nat.min x0.length y3.length) : Int), (cpyI y3 0 y3.length x0))) (fun _ => none) fun z2 => some z2.2
def F86s1_l0 (x0 : restore_planner) (n0 : Nat) (a0 : api_Running) (z0 : Sg7) : Option (Ctl (Sg7) Unit) :=
 (getI z0.2.1 (cnt 0 n0)).bind fun y1 => (F66 x0.board (⟨x0.power.Closed, z0.2.1, x0.power.Limits, x0.power.Broken⟩ : api_Power) (cnt 0 n0)).bind fun y3 => (guardO [(!y3, false)] (F67 x0.board (cnt 0 n0)) default).bind fun y5 => (guardO [(!y3, false)] (getI x0.board.Breakers y5) default).bind fun y7 => (guardO [(!y3, false)] (F164s0 (⟨x0.board, (⟨x0.power.Closed, z0.2.1, x0.power.Limits, x0.power.Broken⟩ : api_Power), x0.goal, z0.2.2⟩ : restore_planner) y7.A) default).bind fun y9 => bif ((!y3) || y9) then none else bif (y1.State == 0) then (appI 25 z0.2.2 [(⟨3, cnt 0 n0, 0⟩ : api_Act)]).bind fun y13 => (getI x0.board.Sources (cnt 0 n0)).bind fun y15 => (setI z0.2.1 (cnt 0 n0) (⟨2, y1.Since, y1.Frequency, y1.Phase⟩ : api_Running)).bind fun y17 => some (.next (max z0.1 y15.Start, y17, y13)) else none
def F86s1 (x0 : restore_planner) : Option restore_planner :=
 andThen (foldI (F86s1_l0 x0) x0.power.Sources 0 (0, x0.power.Sources, x0.acts)) (fun _ => none) fun z0 => (F165 [(⟨7, 0, 0⟩ : api_Act)] z0.1).bind fun y19 => (appI 25 z0.2.2 y19).bind fun y21 => some (⟨x0.board, (⟨x0.power.Closed, z0.2.1, x0.power.Limits, x0.power.Broken⟩ : api_Power), x0.goal, y21⟩ : restore_planner)
def c87s1_8 (z0 : Sg8) (z1 : Sg8) : Bool := decide (z1.1 < (z0.2.2.2.1.length : Int))
def F87s1_l1 (z0 : Sg8) (z1 : Sg8) : Option (Ctl (Sg8) Unit) :=
 bif (c87s1_8 z0 z1) then (F67 (⟨z1.2.1, z1.2.2.1, z1.2.2.2.1, z1.2.2.2.2.1, z1.2.2.2.2.2.1, z1.2.2.2.2.2.2.1⟩ : api_Board) z1.1).bind fun y3 => (getI z1.2.2.1 y3).bind fun y5 => (guardO [((y5.A == z0.1), true)] (F66 (⟨z1.2.1, z1.2.2.1, z1.2.2.2.1, z1.2.2.2.2.1, z1.2.2.2.2.2.1, z1.2.2.2.2.2.2.1⟩ : api_Board) (⟨z1.2.2.2.2.2.2.2.1, z1.2.2.2.2.2.2.2.2.1, z1.2.2.2.2.2.2.2.2.2.1, z1.2.2.2.2.2.2.2.2.2.2.1⟩ : api_Power) z1.1) default).bind fun y7 => (guardO [(((y5.A == z0.1) && y7), true)] (F164s0 (⟨(⟨z1.2.1, z1.2.2.1, z1.2.2.2.1, z1.2.2.2.2.1, z1.2.2.2.2.2.1, z1.2.2.2.2.2.2.1⟩ : api_Board), (⟨z1.2.2.2.2.2.2.2.1, z1.2.2.2.2.2.2.2.2.1, z1.2.2.2.2.2.2.2.2.2.1, z1.2.2.2.2.2.2.2.2.2.2.1⟩ : api_Power), z1.2.2.2.2.2.2.2.2.2.2.2.1, z1.2.2.2.2.2.2.2.2.2.2.2.2⟩ : restore_planner) z0.1) default).bind fun y9 => bif (((y5.A == z0.1) && y7) && (!y9)) then (F89s1 (⟨(⟨z1.2.1, z1.2.2.1, z1.2.2.2.1, z1.2.2.2.2.1, z1.2.2.2.2.2.1, z1.2.2.2.2.2.2.1⟩ : api_Board), (⟨z1.2.2.2.2.2.2.2.1, z1.2.2.2.2.2.2.2.2.1, z1.2.2.2.2.2.2.2.2.2.1, z1.2.2.2.2.2.2.2.2.2.2.1⟩ : api_Power), z1.2.2.2.2.2.2.2.2.2.2.2.1, z1.2.2.2.2.2.2.2.2.2.2.2.2⟩ : restore_planner) 1 y3).bind fun y12 => some (.next (w64 (z1.1 + 1), y12.board.Buses, y12.board.Breakers, y12.board.Sources, y12.board.Consumers, y12.board.Phase, y12.board.Frequency, y12.power.Closed, y12.power.Sources, y12.power.Limits, y12.power.Broken, y12.goal, y12.acts)) else some (.next (w64 (z1.1 + 1), z1.2.1, z1.2.2.1, z1.2.2.2.1, z1.2.2.2.2.1, z1.2.2.2.2.2.1, z1.2.2.2.2.2.2.1, z1.2.2.2.2.2.2.2.1, z1.2.2.2.2.2.2.2.2.1, z1.2.2.2.2.2.2.2.2.2.1, z1.2.2.2.2.2.2.2.2.2.2.1, z1.2.2.2.2.2.2.2.2.2.2.2.1, z1.2.2.2.2.2.2.2.2.2.2.2.2)) else some (.brk (z1.1, z1.2.1, z1.2.2.1, z1.2.2.2.1, z1.2.2.2.2.1, z1.2.2.2.2.2.1, z1.2.2.2.2.2.2.1, z1.2.2.2.2.2.2.2.1, z1.2.2.2.2.2.2.2.2.1, z1.2.2.2.2.2.2.2.2.2.1, z1.2.2.2.2.2.2.2.2.2.2.1, z1.2.2.2.2.2.2.2.2.2.2.2.1, z1.2.2.2.2.2.2.2.2.2.2.2.2))
def F87s1_l0 (x0 : restore_planner) (z0 : Sg8) : Option (Ctl (Sg8) Unit) :=
 bif decide (z0.1 < x0.board.Buses) then andThen (whileN (F87s1_l1 z0) 1152921504606846976 (0, z0.2.1, z0.2.2.1, z0.2.2.2.1, z0.2.2.2.2.1, z0.2.2.2.2.2.1, z0.2.2.2.2.2.2.1, z0.2.2.2.2.2.2.2.1, z0.2.2.2.2.2.2.2.2.1, z0.2.2.2.2.2.2.2.2.2.1, z0.2.2.2.2.2.2.2.2.2.2.1, z0.2.2.2.2.2.2.2.2.2.2.2.1, z0.2.2.2.2.2.2.2.2.2.2.2.2)) (fun _ => none) fun z1 => some (.next (w64 (z0.1 + 1), z1.2.1, z1.2.2.1, z1.2.2.2.1, z1.2.2.2.2.1, z1.2.2.2.2.2.1, z1.2.2.2.2.2.2.1, z1.2.2.2.2.2.2.2.1, z1.2.2.2.2.2.2.2.2.1, z1.2.2.2.2.2.2.2.2.2.1, z1.2.2.2.2.2.2.2.2.2.2.1, z1.2.2.2.2.2.2.2.2.2.2.2.1, z1.2.2.2.2.2.2.2.2.2.2.2.2)) else some (.brk (z0.1, z0.2.1, z0.2.2.1, z0.2.2.2.1, z0.2.2.2.2.1, z0.2.2.2.2.2.1, z0.2.2.2.2.2.2.1, z0.2.2.2.2.2.2.2.1, z0.2.2.2.2.2.2.2.2.1, z0.2.2.2.2.2.2.2.2.2.1, z0.2.2.2.2.2.2.2.2.2.2.1, z0.2.2.2.2.2.2.2.2.2.2.2.1, z0.2.2.2.2.2.2.2.2.2.2.2.2))
def F87s1 (x0 : restore_planner) : Option restore_planner :=
 andThen (whileN (F87s1_l0 x0) 1152921504606846976 (0, x0.board.Buses, x0.board.Breakers, x0.board.Sources, x0.board.Consumers, x0.board.Phase, x0.board.Frequency, x0.power.Closed, x0.power.Sources, x0.power.Limits, x0.power.Broken, x0.goal, x0.acts)) (fun _ => none) fun z0 => some (⟨(⟨z0.2.1, z0.2.2.1, z0.2.2.2.1, z0.2.2.2.2.1, z0.2.2.2.2.2.1, z0.2.2.2.2.2.2.1⟩ : api_Board), (⟨z0.2.2.2.2.2.2.2.1, z0.2.2.2.2.2.2.2.2.1, z0.2.2.2.2.2.2.2.2.2.1, z0.2.2.2.2.2.2.2.2.2.2.1⟩ : api_Power), z0.2.2.2.2.2.2.2.2.2.2.2.1, z0.2.2.2.2.2.2.2.2.2.2.2.2⟩ : restore_planner)
def c88s0_1 (a0 : api_Breaker) (y1 : Bool) (y3 : Bool) (y5 : Bool) (y7 : Bool) (y9 : Bool) : Bool := (((((a0.Kind == 1) && (!y1)) && y3) && y5) && (!(y7 == y9)))
def F88s0_l0 (x0 : restore_planner) (n0 : Nat) (a0 : api_Breaker) (z0 : Unit) : Option (Ctl Unit (Int × Bool)) :=
 (guardO [((a0.Kind == 1), true)] (getI x0.power.Closed (cnt 0 n0)) default).bind fun y1 => (guardO [(((a0.Kind == 1) && (!y1)), true)] (F68 x0.board x0.power (cnt 0 n0)) default).bind fun y3 => (guardO [((((a0.Kind == 1) && (!y1)) && y3), true)] (getI x0.goal a0.A) default).bind fun y5 => (guardO [(((((a0.Kind == 1) && (!y1)) && y3) && y5), true)] (F164s0 x0 a0.A) default).bind fun y7 => (guardO [(((((a0.Kind == 1) && (!y1)) && y3) && y5), true)] (F164s0 x0 a0.B) default).bind fun y9 => bif (c88s0_1 a0 y1 y3 y5 y7 y9) then some (.ret (cnt 0 n0, true)) else some (.next ())
def F88s0 (x0 : restore_planner) : Option (Int × Bool) :=
 andThen (foldI (F88s0_l0 x0) x0.board.Breakers 0 ()) some fun z0 => some (0, false)
def F169_l0 (x1 : api_Power) (y1 : api_Island × Bool) (n0 : Nat) (a0 : Int) (z0 : Int) : Option (Ctl Int Unit) :=
 bif decide ((y1.1.Sources.length : Int) > 0) then (getI x1.Limits a0).bind fun y4 => some (.next (w64 (z0 + y4))) else some (.next z0)
def F169 (x0 : api_Board) (x1 : api_Power) (x2 : Int) : Option Int :=
 (F176 x0 x1 x2).bind fun y1 => andThen (foldI (F169_l0 x1 y1) y1.1.Consumers 0 0) (fun _ => none) fun z0 => some z0
def F170_l0 (x0 : api_Board) (n0 : Nat) (a0 : Int) (z0 : Int) : Option (Ctl Int Unit) :=
 (getI x0.Sources a0).bind fun y3 => some (.next (w64 (z0 + y3.Rating)))
def F170 (x0 : api_Board) (x1 : api_Power) (x2 : Int) : Option Int :=
 (F176 x0 x1 x2).bind fun y1 => andThen (foldI (F170_l0 x0) y1.1.Sources 0 0) (fun _ => none) fun z0 => some z0
def c90s1_2 (a0 : (Int × Int)) (a1 : api_Breaker) (y10 : Bool) (y12 : Bool) : Bool := ((((a1.Kind != 3) || (a1.B != a0.2)) || (!y10)) || (!y12))
def F90s1_l1 (a0 : (Int × Int)) (n1 : Nat) (a1 : api_Breaker) (z1 : Sg5) : Option (Ctl (Sg5) Unit) :=
 (guardO [(((a1.Kind != 3) || (a1.B != a0.2)), false)] (F68 (⟨z1.1, z1.2.1, z1.2.2.1, z1.2.2.2.1, z1.2.2.2.2.1, z1.2.2.2.2.2.1⟩ : api_Board) (⟨z1.2.2.2.2.2.2.1, z1.2.2.2.2.2.2.2.1, z1.2.2.2.2.2.2.2.2.1, z1.2.2.2.2.2.2.2.2.2.1⟩ : api_Power) (cnt 0 n1)) default).bind fun y10 => (guardO [((((a1.Kind != 3) || (a1.B != a0.2)) || (!y10)), false)] (F164s0 (⟨(⟨z1.1, z1.2.1, z1.2.2.1, z1.2.2.2.1, z1.2.2.2.2.1, z1.2.2.2.2.2.1⟩ : api_Board), (⟨z1.2.2.2.2.2.2.1, z1.2.2.2.2.2.2.2.1, z1.2.2.2.2.2.2.2.2.1, z1.2.2.2.2.2.2.2.2.2.1⟩ : api_Power), z1.2.2.2.2.2.2.2.2.2.2.1, z1.2.2.2.2.2.2.2.2.2.2.2⟩ : restore_planner) a1.A) default).bind fun y12 => bif (c90s1_2 a0 a1 y10 y12) then some (.next (z1.1, z1.2.1, z1.2.2.1, z1.2.2.2.1, z1.2.2.2.2.1, z1.2.2.2.2.2.1, z1.2.2.2.2.2.2.1, z1.2.2.2.2.2.2.2.1, z1.2.2.2.2.2.2.2.2.1, z1.2.2.2.2.2.2.2.2.2.1, z1.2.2.2.2.2.2.2.2.2.2.1, z1.2.2.2.2.2.2.2.2.2.2.2)) else (F169 (⟨z1.1, z1.2.1, z1.2.2.1, z1.2.2.2.1, z1.2.2.2.2.1, z1.2.2.2.2.2.1⟩ : api_Board) (⟨z1.2.2.2.2.2.2.1, z1.2.2.2.2.2.2.2.1, z1.2.2.2.2.2.2.2.2.1, z1.2.2.2.2.2.2.2.2.2.1⟩ : api_Power) a1.A).bind fun y15 => (getI z1.2.2.2.2.2.2.2.2.1 a0.2).bind fun y17 => (F170 (⟨z1.1, z1.2.1, z1.2.2.1, z1.2.2.2.1, z1.2.2.2.2.1, z1.2.2.2.2.2.1⟩ : api_Board) (⟨z1.2.2.2.2.2.2.1, z1.2.2.2.2.2.2.2.1, z1.2.2.2.2.2.2.2.2.1, z1.2.2.2.2.2.2.2.2.2.1⟩ : api_Power) a1.A).bind fun y19 => bif decide ((w64 (y15 + y17)) ≤ y19) then (F89s1 (⟨(⟨z1.1, z1.2.1, z1.2.2.1, z1.2.2.2.1, z1.2.2.2.2.1, z1.2.2.2.2.2.1⟩ : api_Board), (⟨z1.2.2.2.2.2.2.1, z1.2.2.2.2.2.2.2.1, z1.2.2.2.2.2.2.2.2.1, z1.2.2.2.2.2.2.2.2.2.1⟩ : api_Power), z1.2.2.2.2.2.2.2.2.2.2.1, z1.2.2.2.2.2.2.2.2.2.2.2⟩ : restore_planner) 1 (cnt 0 n1)).bind fun y22 => some (.brk (y22.board.Buses, y22.board.Breakers, y22.board.Sources, y22.board.Consumers, y22.board.Phase, y22.board.Frequency, y22.power.Closed, y22.power.Sources, y22.power.Limits, y22.power.Broken, y22.goal, y22.acts)) else some (.brk (z1.1, z1.2.1, z1.2.2.1, z1.2.2.2.1, z1.2.2.2.2.1, z1.2.2.2.2.2.1, z1.2.2.2.2.2.2.1, z1.2.2.2.2.2.2.2.1, z1.2.2.2.2.2.2.2.2.1, z1.2.2.2.2.2.2.2.2.2.1, z1.2.2.2.2.2.2.2.2.2.2.1, z1.2.2.2.2.2.2.2.2.2.2.2))
def F90s1_l0 (a0 : Int × Int) (z0 : Sg5) : Option (Ctl (Sg5) Unit) :=
 (F168 (⟨z0.1, z0.2.1, z0.2.2.1, z0.2.2.2.1, z0.2.2.2.2.1, z0.2.2.2.2.2.1⟩ : api_Board) (⟨z0.2.2.2.2.2.2.1, z0.2.2.2.2.2.2.2.1, z0.2.2.2.2.2.2.2.2.1, z0.2.2.2.2.2.2.2.2.2.1⟩ : api_Power) a0.2).bind fun y5 => (guardO [(y5.2, false)] (F134 (⟨z0.2.2.2.2.2.2.1, z0.2.2.2.2.2.2.2.1, z0.2.2.2.2.2.2.2.2.1, z0.2.2.2.2.2.2.2.2.2.1⟩ : api_Power) 4 a0.2) default).bind fun y7 => bif (y5.2 || y7) then some (.next (z0.1, z0.2.1, z0.2.2.1, z0.2.2.2.1, z0.2.2.2.2.1, z0.2.2.2.2.2.1, z0.2.2.2.2.2.2.1, z0.2.2.2.2.2.2.2.1, z0.2.2.2.2.2.2.2.2.1, z0.2.2.2.2.2.2.2.2.2.1, z0.2.2.2.2.2.2.2.2.2.2.1, z0.2.2.2.2.2.2.2.2.2.2.2)) else andThen (foldI (F90s1_l1 a0) z0.2.1 0 (z0.1, z0.2.1, z0.2.2.1, z0.2.2.2.1, z0.2.2.2.2.1, z0.2.2.2.2.2.1, z0.2.2.2.2.2.2.1, z0.2.2.2.2.2.2.2.1, z0.2.2.2.2.2.2.2.2.1, z0.2.2.2.2.2.2.2.2.2.1, z0.2.2.2.2.2.2.2.2.2.2.1, z0.2.2.2.2.2.2.2.2.2.2.2)) (fun _ => none) fun z1 => some (.next (z1.1, z1.2.1, z1.2.2.1, z1.2.2.2.1, z1.2.2.2.2.1, z1.2.2.2.2.2.1, z1.2.2.2.2.2.2.1, z1.2.2.2.2.2.2.2.1, z1.2.2.2.2.2.2.2.2.1, z1.2.2.2.2.2.2.2.2.2.1, z1.2.2.2.2.2.2.2.2.2.2.1, z1.2.2.2.2.2.2.2.2.2.2.2))
def F90s1 (x0 : restore_planner) : Option restore_planner :=
 (F167 x0.board).bind fun y3 => andThen (foldE F90s1_l0 (bw y3) (x0.board.Buses, x0.board.Breakers, x0.board.Sources, x0.board.Consumers, x0.board.Phase, x0.board.Frequency, x0.power.Closed, x0.power.Sources, x0.power.Limits, x0.power.Broken, x0.goal, x0.acts)) (fun _ => none) fun z0 => some (⟨(⟨z0.1, z0.2.1, z0.2.2.1, z0.2.2.2.1, z0.2.2.2.2.1, z0.2.2.2.2.2.1⟩ : api_Board), (⟨z0.2.2.2.2.2.2.1, z0.2.2.2.2.2.2.2.1, z0.2.2.2.2.2.2.2.2.1, z0.2.2.2.2.2.2.2.2.2.1⟩ : api_Power), z0.2.2.2.2.2.2.2.2.2.2.1, z0.2.2.2.2.2.2.2.2.2.2.2⟩ : restore_planner)
def F30_l0 (z0 : Sg5) : Option (Ctl (Sg5) Unit) :=
 (F88s0 (⟨(⟨z0.1, z0.2.1, z0.2.2.1, z0.2.2.2.1, z0.2.2.2.2.1, z0.2.2.2.2.2.1⟩ : api_Board), (⟨z0.2.2.2.2.2.2.1, z0.2.2.2.2.2.2.2.1, z0.2.2.2.2.2.2.2.2.1, z0.2.2.2.2.2.2.2.2.2.1⟩ : api_Power), z0.2.2.2.2.2.2.2.2.2.2.1, z0.2.2.2.2.2.2.2.2.2.2.2⟩ : restore_planner)).bind fun y26 => bif !y26.2 then some (.brk (z0.1, z0.2.1, z0.2.2.1, z0.2.2.2.1, z0.2.2.2.2.1, z0.2.2.2.2.2.1, z0.2.2.2.2.2.2.1, z0.2.2.2.2.2.2.2.1, z0.2.2.2.2.2.2.2.2.1, z0.2.2.2.2.2.2.2.2.2.1, z0.2.2.2.2.2.2.2.2.2.2.1, z0.2.2.2.2.2.2.2.2.2.2.2)) else (F89s1 (⟨(⟨z0.1, z0.2.1, z0.2.2.1, z0.2.2.2.1, z0.2.2.2.2.1, z0.2.2.2.2.2.1⟩ : api_Board), (⟨z0.2.2.2.2.2.2.1, z0.2.2.2.2.2.2.2.1, z0.2.2.2.2.2.2.2.2.1, z0.2.2.2.2.2.2.2.2.2.1⟩ : api_Power), z0.2.2.2.2.2.2.2.2.2.2.1, z0.2.2.2.2.2.2.2.2.2.2.2⟩ : restore_planner) 1 y26.1).bind fun y29 => some (.next (y29.board.Buses, y29.board.Breakers, y29.board.Sources, y29.board.Consumers, y29.board.Phase, y29.board.Frequency, y29.power.Closed, y29.power.Sources, y29.power.Limits, y29.power.Broken, y29.goal, y29.acts))
def F30 (x0 : api_Board) (x1 : api_Power) : Option ((List api_Act) × Int) :=
 (F81 x0 x1).bind fun y1 => bif (y1.2.2 != 0) then none else (F82 x1 y1.1).bind fun y4 => (guardO [(!y4, false)] (F83 x0 x1) default).bind fun y6 => bif ((!y4) || y6) then none else (F18 x0 x1).bind fun y9 => (F84 y9 true).bind fun y11 => (guardO [(!y11, false)] (F42 x0 x1) default).bind fun y13 => bif ((!y11) || y13) then none else (F70 x1).bind fun y16 => (F18 x0 x1).bind fun y18 => (F85s1 (⟨x0, y16, y18, ([] : List api_Act)⟩ : restore_planner)).bind fun y20 => (F86s1 y20).bind fun y22 => (F87s1 y22).bind fun y24 => andThen (whileN F30_l0 1152921504606846976 (y24.board.Buses, y24.board.Breakers, y24.board.Sources, y24.board.Consumers, y24.board.Phase, y24.board.Frequency, y24.power.Closed, y24.power.Sources, y24.power.Limits, y24.power.Broken, y24.goal, y24.acts)) (fun _ => none) fun z0 => (F90s1 (⟨(⟨z0.1, z0.2.1, z0.2.2.1, z0.2.2.2.1, z0.2.2.2.2.1, z0.2.2.2.2.2.1⟩ : api_Board), (⟨z0.2.2.2.2.2.2.1, z0.2.2.2.2.2.2.2.1, z0.2.2.2.2.2.2.2.2.1, z0.2.2.2.2.2.2.2.2.2.1⟩ : api_Power), z0.2.2.2.2.2.2.2.2.2.2.1, z0.2.2.2.2.2.2.2.2.2.2.2⟩ : restore_planner)).bind fun y31 => some (y31.acts, 0)
def c72_1 (a0 : api_Act) (y2 : api_Act) : Bool := !((a0.Kind == y2.Kind) && ((a0.Unit == y2.Unit) && ((a0.Value == y2.Value) && true)))
def F72_l0 (x1 : List api_Act) (n0 : Nat) (a0 : api_Act) (z0 : Unit) : Option (Ctl Unit Unit) :=
 (getI x1 (cnt 0 n0)).bind fun y2 => bif (c72_1 a0 y2) then none else some (.next ())
def F72 (x0 : List api_Act) (x1 : List api_Act) : Option Bool :=
 bif ((x0.length : Int) != (x1.length : Int)) then none else andThen (foldI (F72_l0 x1) x0 0 ()) (fun _ => none) fun z0 => some true
def F22  : Option Bool :=
 (F30 F28.1 F28.2).bind fun y1 => (F25 F28.1 F28.2 7 y1.1).bind fun y3 => (guardO [((y1.2 == 0), true)] (F72 y1.1 [(⟨3, 0, 0⟩ : api_Act), (⟨7, 0, 0⟩ : api_Act), (⟨7, 0, 0⟩ : api_Act), (⟨7, 0, 0⟩ : api_Act), (⟨1, 1, 0⟩ : api_Act), (⟨1, 0, 0⟩ : api_Act)]) default).bind fun y5 => (guardO [((((((y1.2 == 0) && y5) && (y3.2.2.2 == 0)) && (y3.2.1 == 10)) && (y3.2.2.1 == 6)), true)] (F42 F28.1 y3.1) default).bind fun y7 => (guardO [(((((((y1.2 == 0) && y5) && (y3.2.2.2 == 0)) && (y3.2.1 == 10)) && (y3.2.2.1 == 6)) && y7), true)] (F42 F28.1 F28.2) default).bind fun y9 => some (((((((y1.2 == 0) && y5) && (y3.2.2.2 == 0)) && (y3.2.1 == 10)) && (y3.2.2.1 == 6)) && y7) && (!y9))
def F4_l0 (y3 : api_Board × dynposmake_Src) (y9 : api_Power × Int × Int × Int) (n0 : Nat) (a0 : api_Act) (z0 : Sg0) : Option (Ctl (Sg0) Bool) :=
 (F19 y3.1 (⟨z0.2.1, z0.2.2.1, z0.2.2.2.1, z0.2.2.2.2⟩ : api_Power) z0.1 a0).bind fun y11 => bif (y11.2 != 0) then (guardO [((((y9.2.2.1 == (cnt 0 n0)) && (y9.2.2.2 == y11.2)) && (y9.2.1 == z0.1)), true)] (F26 y9.1 (⟨z0.2.1, z0.2.2.1, z0.2.2.2.1, z0.2.2.2.2⟩ : api_Power)) default).bind fun y14 => (guardO [((((((y9.2.2.1 == (cnt 0 n0)) && (y9.2.2.2 == y11.2)) && (y9.2.1 == z0.1)) && y14) && ((w64 ((w64 ((w64 ((y11.1.Closed.length : Int) + (y11.1.Sources.length : Int))) + (y11.1.Limits.length : Int))) + (y11.1.Broken.length : Int))) == 0)), true)] (F22) default).bind fun y16 => some (.ret ((((((y9.2.2.1 == (cnt 0 n0)) && (y9.2.2.2 == y11.2)) && (y9.2.1 == z0.1)) && y14) && ((w64 ((w64 ((w64 ((y11.1.Closed.length : Int) + (y11.1.Sources.length : Int))) + (y11.1.Limits.length : Int))) + (y11.1.Broken.length : Int))) == 0)) && y16)) else (F27 y3.1 y11.1).bind fun y18 => bif (y18 != 0) then some (.ret false) else bif (a0.Kind == 7) then some (.next (w64 (z0.1 + 1), y11.1.Closed, y11.1.Sources, y11.1.Limits, y11.1.Broken)) else some (.next (z0.1, y11.1.Closed, y11.1.Sources, y11.1.Limits, y11.1.Broken))
def F4 (x0 : List Int) : Option Bool :=
 (F15 x0).bind fun y1 => (F16 y1).bind fun y3 => (F23s1 y3.2 y3.1).bind fun y5 => (F24s1 y5.2 y3.1 8).bind fun y7 => (F25 y3.1 y5.1 10 y7.1).bind fun y9 => andThen (foldI (F4_l0 y3 y9) y7.1 0 (10, y5.1.Closed, y5.1.Sources, y5.1.Limits, y5.1.Broken)) some fun z0 => (guardO [((((y9.2.2.1 == (y7.1.length : Int)) && (y9.2.2.2 == 0)) && (y9.2.1 == z0.1)), true)] (F26 y9.1 (⟨z0.2.1, z0.2.2.1, z0.2.2.2.1, z0.2.2.2.2⟩ : api_Power)) default).bind fun y22 => (guardO [(((((y9.2.2.1 == (y7.1.length : Int)) && (y9.2.2.2 == 0)) && (y9.2.1 == z0.1)) && y22), true)] (F22) default).bind fun y24 => some (((((y9.2.2.1 == (y7.1.length : Int)) && (y9.2.2.2 == 0)) && (y9.2.1 == z0.1)) && y22) && y24)
end Go.Proofs.YtkngbnedbgndoaaGreat
