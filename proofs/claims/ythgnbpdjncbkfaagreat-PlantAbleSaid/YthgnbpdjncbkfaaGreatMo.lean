import Derived.Test.YthgnbpdjncbkfaaGreatTy
set_option linter.unusedVariables false
namespace Go.Proofs.YthgnbpdjncbkfaaGreat
open Go.SL
abbrev Sg0 := Int × (List Bool) × (List api_Running) × (List Int) × (List api_Part) × (List api_Roster) × (List api_Event)
abbrev Sg1 := Int × (List Int) × Int × (List api_Breaker)
abbrev Sg2 := Int × (List Int) × Int × (List api_Breaker) × (List api_Consumer)
abbrev Sg3 := Int × (List Int) × Int × (List api_Breaker) × (List api_Source)
abbrev Sg4 := Int × (List Int) × Int × (List api_Roster)
abbrev Sg5 := Int × (List Int) × Int × (List api_Running)
abbrev Sg6 := Int × (List Int) × Int × (List api_Thruster)
abbrev Sg7 := Int × (List api_Breaker) × (List api_Source) × (List api_Consumer) × Int × Int × (List Bool) × (List api_Running) × (List Int) × (List api_Part) × (List api_Act)
abbrev Sg8 := Int × (List api_Breaker) × (List api_Source) × (List api_Consumer) × Int × Int × (List Int) × (List Bool) × (List api_Running) × (List Int) × (List api_Part) × (List api_Act)
abbrev Sg9 := Int × Int × (List api_Breaker) × (List api_Source) × (List api_Consumer) × Int × Int × (List Bool) × (List api_Running) × (List Int) × (List api_Part) × (List api_Roster) × (List api_Event) × (List Bool) × (List api_Event) × (List api_Power) × (List Int)
abbrev Sg10 := Int × Int × (List api_Breaker) × (List api_Source) × (List api_Consumer) × Int × Int × (List Bool) × (List api_Running) × (List Int) × (List api_Part) × (List api_Roster) × (List api_Event) × (List api_Event) × (List api_Power)
abbrev Sg11 := Int × Int × (List api_Breaker) × (List api_Source) × (List api_Consumer) × Int × Int × (List api_Roster) × (List Bool) × (List api_Running) × (List Int) × (List api_Part) × (List api_Roster) × (List api_Event) × (List api_Event) × (List api_Power)
abbrev Sg12 := api_Board × api_Table × api_Plant × dynposmake_Src
def F8 (x0 : List Int) : Option dynposmake_Src :=
 (cutI x0 0 (min (x0.length : Int) 600)).bind fun y2 => some (⟨y2, 0⟩ : dynposmake_Src)
def F80 (x0 : Int) (x1 : Int) : Option Int :=
 bif decide (x1 < 1) then some 0 else (nzI x1).bind fun u3 => (nzI x1).bind fun u5 => some (Int.tmod (w64 ((Int.tmod x0 x1) + x1)) x1)
def F32 (x0 : dynposmake_Src) (x1 : Int) : Option (Int × dynposmake_Src) :=
 bif decide (x0.At >= (x0.L.length : Int)) then some (0, x0) else (getI x0.L (w64 ((w64 (x0.At + 1)) - 1))).bind fun y2 => (F80 y2 x1).bind fun y4 => some (y4, (⟨x0.L, w64 (x0.At + 1)⟩ : dynposmake_Src))
def F78 (x0 : dynposmake_Src) (x1 : Int) (x2 : Int) : Option (Int × dynposmake_Src) :=
 (F32 x0 (w64 ((w64 (x2 - x1)) + 1))).bind fun y1 => some (w64 (x1 + y1.1), y1.2)
def F40 (x0 : dynposmake_Src) (x1 : List Int) : Option (Int × dynposmake_Src) :=
 (F32 x0 (x1.length : Int)).bind fun y1 => (getI x1 y1.1).bind fun y3 => some (y3, y1.2)
def F29_l0 (y1 : Int × dynposmake_Src) (z0 : Sg1) : Option (Ctl (Sg1) Unit) :=
 bif decide (z0.1 < y1.1) then (F32 (⟨z0.2.1, z0.2.2.1⟩ : dynposmake_Src) 6).bind fun y8 => bif decide (y8.1 < 5) then (F32 y8.2 z0.1).bind fun y11 => (appI 25 z0.2.2.2 [(⟨1, y11.1, z0.1⟩ : api_Breaker)]).bind fun y13 => some (.next (w64 (z0.1 + 1), y11.2.L, y11.2.At, y13)) else some (.next (w64 (z0.1 + 1), y8.2.L, y8.2.At, z0.2.2.2)) else some (.brk (z0.1, z0.2.1, z0.2.2.1, z0.2.2.2))
def F29_m1 (y1 : Int × dynposmake_Src) (z0 : Sg1) (y15 : Int × dynposmake_Src) : Option (Ctl ((List api_Breaker)) Unit) :=
 bif ((decide (y1.1 > 2)) && (y15.1 == 1)) then (appI 25 z0.2.2.2 [(⟨1, 0, w64 (y1.1 - 1)⟩ : api_Breaker)]).bind fun y18 => some (.next y18) else some (.next z0.2.2.2)
def F29_l2 (y1 : Int × dynposmake_Src) (z2 : Sg3) : Option (Ctl (Sg3) Unit) :=
 bif decide (z2.1 > 0) then (F32 (⟨z2.2.1, z2.2.2.1⟩ : dynposmake_Src) y1.1).bind fun y23 => (appI 25 z2.2.2.2.1 [(⟨2, y23.1, (z2.2.2.2.2.length : Int)⟩ : api_Breaker)]).bind fun y25 => (F40 y23.2 [10, 50, 100]).bind fun y27 => (F40 y27.2 [0, 5, y27.1]).bind fun y29 => (F40 y29.2 [0, 1, 3]).bind fun y31 => (appI 25 z2.2.2.2.2 [(⟨y27.1, y29.1, y31.1⟩ : api_Source)]).bind fun y33 => some (.next (w64 (z2.1 - 1), y31.2.L, y31.2.At, y25, y33)) else some (.brk (z2.1, z2.2.1, z2.2.2.1, z2.2.2.2.1, z2.2.2.2.2))
def F29_m4 (y1 : Int × dynposmake_Src) (z3 : Sg2) (y38 : Int × dynposmake_Src) (y40 : List api_Breaker) (y42 : Int × dynposmake_Src) : Option (Ctl ((List api_Breaker)) Unit) :=
 bif ((decide (y1.1 > 1)) && (y42.1 == 3)) then (nzI y1.1).bind fun u46 => (appI 25 y40 [(⟨3, Int.tmod (w64 (y38.1 + 1)) y1.1, (z3.2.2.2.2.length : Int)⟩ : api_Breaker)]).bind fun y47 => some (.next y47) else some (.next y40)
def c29_2 (z3 : Sg2) (y57 : Int × dynposmake_Src) : Bool := ((decide ((z3.2.2.2.2.length : Int) > 0)) && (y57.1 == 3))
def F29_l3 (y1 : Int × dynposmake_Src) (z3 : Sg2) : Option (Ctl (Sg2) Unit) :=
 bif decide (z3.1 > 0) then (F32 (⟨z3.2.1, z3.2.2.1⟩ : dynposmake_Src) y1.1).bind fun y38 => (appI 25 z3.2.2.2.1 [(⟨3, y38.1, (z3.2.2.2.2.length : Int)⟩ : api_Breaker)]).bind fun y40 => (guardO [(decide (y1.1 > 1), true)] (F32 y38.2 4) (default, y38.2)).bind fun y42 => andThen (F29_m4 y1 z3 y38 y40 y42) (fun _ => none) fun z4 => (F40 y42.2 [0, 5, 20, 40]).bind fun y49 => (F40 y49.2 [0, w64 (Int.tdiv y49.1 2), y49.1]).bind fun y51 => (F32 y51.2 3).bind fun y53 => (F78 y53.2 (-1) 2).bind fun y55 => (guardO [(decide ((z3.2.2.2.2.length : Int) > 0), true)] (F32 y55.2 4) (default, y55.2)).bind fun y57 => bif (c29_2 z3 y57) then (F32 y57.2 (z3.2.2.2.2.length : Int)).bind fun y60 => (appI 57 z3.2.2.2.2 [(⟨y49.1, y51.1, y53.1, y55.1, [y60.1]⟩ : api_Consumer)]).bind fun y62 => some (.next (w64 (z3.1 - 1), y60.2.L, y60.2.At, z4, y62)) else (appI 57 z3.2.2.2.2 [(⟨y49.1, y51.1, y53.1, y55.1, ([] : List Int)⟩ : api_Consumer)]).bind fun y64 => some (.next (w64 (z3.1 - 1), y57.2.L, y57.2.At, z4, y64)) else some (.brk (z3.1, z3.2.1, z3.2.2.1, z3.2.2.2.1, z3.2.2.2.2))
def F29 (x0 : dynposmake_Src) : Option (api_Board × dynposmake_Src) :=
 (F78 x0 1 4).bind fun y1 => (F40 y1.2 [0, 50, 200, 1800]).bind fun y3 => (F40 y3.2 [0, 10, 50]).bind fun y5 => andThen (whileN (F29_l0 y1) 1152921504606846976 (1, y5.2.L, y5.2.At, ([] : List api_Breaker))) (fun _ => none) fun z0 => (guardO [(decide (y1.1 > 2), true)] (F32 (⟨z0.2.1, z0.2.2.1⟩ : dynposmake_Src) 2) (default, (⟨z0.2.1, z0.2.2.1⟩ : dynposmake_Src))).bind fun y15 => andThen (F29_m1 y1 z0 y15) (fun _ => none) fun z1 => (F32 y15.2 5).bind fun y20 => andThen (whileN (F29_l2 y1) 1152921504606846976 (y20.1, y20.2.L, y20.2.At, z1, ([] : List api_Source))) (fun _ => none) fun z2 => (F32 (⟨z2.2.1, z2.2.2.1⟩ : dynposmake_Src) 6).bind fun y35 => andThen (whileN (F29_l3 y1) 1152921504606846976 (y35.1, y35.2.L, y35.2.At, z2.2.2.2.1, ([] : List api_Consumer))) (fun _ => none) fun z3 => some ((⟨y1.1, z3.2.2.2.1, z2.2.2.2.2, z3.2.2.2.2, y3.1, y5.1⟩ : api_Board), (⟨z3.2.1, z3.2.2.1⟩ : dynposmake_Src))
def F30 (x0 : dynposmake_Src) : Option (api_Table × dynposmake_Src) :=
 (F40 x0 [60, 80, 100]).bind fun y1 => (F40 y1.2 [1, 30, 50]).bind fun y3 => (F40 y3.2 [0, 1, 3]).bind fun y5 => some ((⟨y1.1, y3.1, y5.1⟩ : api_Table), y5.2)
def F112 (x0 : Int) (x1 : Int) (x2 : Int) : Bool :=
 ((decide (x0 >= x1)) && (decide (x0 <= x2)))
def F71 (x0 : api_Board) (x1 : api_Part) : Bool :=
 bif (x1.Kind == 1) then F112 x1.Number 0 (w64 ((x0.Sources.length : Int) - 1)) else bif (x1.Kind == 2) then F112 x1.Number 0 (w64 ((x0.Breakers.length : Int) - 1)) else bif (x1.Kind == 3) then F112 x1.Number 0 (w64 (x0.Buses - 1)) else bif (x1.Kind == 4) then F112 x1.Number 0 (w64 ((x0.Consumers.length : Int) - 1)) else false
def c132s1_1 (x1 : api_Board) (z0 : Int × (List Int) × Int × (List Bool)) : Bool := decide (z0.1 < (x1.Breakers.length : Int))
def F132s1_l0 (x1 : api_Board) (z0 : Int × (List Int) × Int × (List Bool)) : Option (Ctl (Int × (List Int) × Int × (List Bool)) Unit) :=
 bif (c132s1_1 x1 z0) then (F32 (⟨z0.2.1, z0.2.2.1⟩ : dynposmake_Src) 2).bind fun y2 => (appI 2 z0.2.2.2 [(y2.1 == 1)]).bind fun y4 => some (.next (w64 (z0.1 + 1), y2.2.L, y2.2.At, y4)) else some (.brk (z0.1, z0.2.1, z0.2.2.1, z0.2.2.2))
def c132s1_9 (x1 : api_Board) (z1 : Int × (List Bool)) : Bool := decide (z1.1 < (x1.Consumers.length : Int))
def c132s1_12 (z1 : Int × (List Bool)) (a2 : api_Breaker) (y7 : Bool) : Bool := (((a2.Kind == 3) && (a2.B == z1.1)) && y7)
def F132s1_l2 (z1 : Int × (List Bool)) (n2 : Nat) (a2 : api_Breaker) (z2 : Bool × (List Bool)) : Option (Ctl (Bool × (List Bool)) Unit) :=
 (guardO [(((a2.Kind == 3) && (a2.B == z1.1)), true)] (getI z2.2 (cnt 0 n2)) default).bind fun y7 => bif (c132s1_12 z1 a2 y7) then (getI z2.2 (cnt 0 n2)).bind fun y10 => (setI z2.2 (cnt 0 n2) z2.1).bind fun y12 => some (.next (false, y12)) else some (.next (z2.1, z2.2))
def F132s1_l1 (x1 : api_Board) (z1 : Int × (List Bool)) : Option (Ctl (Int × (List Bool)) Unit) :=
 bif (c132s1_9 x1 z1) then andThen (fI (F132s1_l2 z1) x1.Breakers 0 (true, z1.2)) (fun _ => none) fun z2 => some (.next (w64 (z1.1 + 1), z2.2)) else some (.brk (z1.1, z1.2))
def c132s1_14 (x1 : api_Board) (z3 : Sg5) : Bool := decide (z3.1 < (x1.Sources.length : Int))
def F132s1_l3 (x1 : api_Board) (z3 : Sg5) : Option (Ctl (Sg5) Unit) :=
 bif (c132s1_14 x1 z3) then (F40 (⟨z3.2.1, z3.2.2.1⟩ : dynposmake_Src) [0, 1, 2, 2, 2, 3]).bind fun y15 => (F32 y15.2 5).bind fun y17 => (F40 y17.2 [5000, 5000, 5005, 4950]).bind fun y19 => (F40 y19.2 [0, 0, 40, 1800, 3590]).bind fun y21 => (appI 33 z3.2.2.2 [(⟨y15.1, y17.1, y19.1, y21.1⟩ : api_Running)]).bind fun y23 => some (.next (w64 (z3.1 + 1), y21.2.L, y21.2.At, y23)) else some (.brk (z3.1, z3.2.1, z3.2.2.1, z3.2.2.2))
def F132s1_l4 (n4 : Nat) (a4 : api_Consumer) (z4 : (List Int) × Int × (List Int)) : Option (Ctl ((List Int) × Int × (List Int)) Unit) :=
 (F40 (⟨z4.1, z4.2.1⟩ : dynposmake_Src) [a4.Load, a4.Load, a4.Least, w64 (Int.tdiv a4.Load 3)]).bind fun y25 => (appI 9 z4.2.2 [y25.1]).bind fun y27 => some (.next (y25.2.L, y25.2.At, y27))
def F132s1_l5 (x1 : api_Board) (z5 : Int × (List Int) × Int × (List api_Part)) : Option (Ctl (Int × (List Int) × Int × (List api_Part)) Unit) :=
 bif decide (z5.1 <= 4) then (F32 (⟨z5.2.1, z5.2.2.1⟩ : dynposmake_Src) 5).bind fun y30 => bif (y30.1 == 4) then (F32 y30.2 4).bind fun y33 => bif F71 x1 (⟨z5.1, y33.1⟩ : api_Part) then (appI 17 z5.2.2.2 [(⟨z5.1, y33.1⟩ : api_Part)]).bind fun y36 => some (.next (w64 (z5.1 + 1), y33.2.L, y33.2.At, y36)) else some (.next (w64 (z5.1 + 1), y33.2.L, y33.2.At, z5.2.2.2)) else some (.next (w64 (z5.1 + 1), y30.2.L, y30.2.At, z5.2.2.2)) else some (.brk (z5.1, z5.2.1, z5.2.2.1, z5.2.2.2))
def F132s1 (x0 : dynposmake_Src) (x1 : api_Board) : Option (api_Power × dynposmake_Src) :=
 andThen (whileN (F132s1_l0 x1) 1152921504606846976 (0, x0.L, x0.At, ([] : List Bool))) (fun _ => none) fun z0 => andThen (whileN (F132s1_l1 x1) 1152921504606846976 (0, z0.2.2.2)) (fun _ => none) fun z1 => andThen (whileN (F132s1_l3 x1) 1152921504606846976 (0, z0.2.1, z0.2.2.1, ([] : List api_Running))) (fun _ => none) fun z3 => andThen (fI F132s1_l4 x1.Consumers 0 (z3.2.1, z3.2.2.1, ([] : List Int))) (fun _ => none) fun z4 => andThen (whileN (F132s1_l5 x1) 7 (1, z4.1, z4.2.1, ([] : List api_Part))) (fun _ => none) fun z5 => some ((⟨z1.2, z3.2.2.2, z4.2.2, z5.2.2.2⟩ : api_Power), (⟨z5.2.1, z5.2.2.1⟩ : dynposmake_Src))
def c77_2 (x1 : Int) (x2 : Int) (a0 : api_Breaker) : Bool := ((a0.Kind == x1) && ((a0.B == x2) || ((x1 == 1) && (a0.A == x2))))
def F77_l0 (x1 : Int) (x2 : Int) (n0 : Nat) (a0 : api_Breaker) (z0 : (List Int)) : Option (Ctl ((List Int)) Unit) :=
 bif (c77_2 x1 x2 a0) then (appI 9 z0 [cnt 0 n0]).bind fun y2 => some (.next y2) else some (.next z0)
def F77 (x0 : api_Board) (x1 : Int) (x2 : Int) : Option ((List Int)) :=
 andThen (fI (F77_l0 x1 x2) x0.Breakers 0 ([] : List Int)) (fun _ => none) fun z0 => some z0
def c163_5 (x0 : api_Board) (a0 : api_Breaker) : Bool := !(F112 a0.B (w64 (a0.A + 1)) (w64 (x0.Buses - 1)))
def c163_6 (x0 : api_Board) (a0 : api_Breaker) : Bool := !(F112 a0.B 0 (w64 ((x0.Sources.length : Int) - 1)))
def c163_7 (x0 : api_Board) (a0 : api_Breaker) : Bool := !(F112 a0.B 0 (w64 ((x0.Consumers.length : Int) - 1)))
def c163_9 (a0 : api_Breaker) (a1 : api_Breaker) : Bool := ((a1.Kind == a0.Kind) && ((a1.A == a0.A) && ((a1.B == a0.B) && true)))
def F163_l1 (a0 : api_Breaker) (n1 : Nat) (a1 : api_Breaker) (z1 : Unit) : Option (Ctl Unit Bool) :=
 bif (c163_9 a0 a1) then some (.ret false) else some (.next ())
def F163_l0 (x0 : api_Board) (n0 : Nat) (a0 : api_Breaker) (z0 : Unit) : Option (Ctl Unit Bool) :=
 bif !(F112 a0.A 0 (w64 (x0.Buses - 1))) then some (.ret false) else bif (a0.Kind == 1) then bif (c163_5 x0 a0) then some (.ret false) else some (.next ()) else bif (a0.Kind == 2) then bif (c163_6 x0 a0) then some (.ret false) else some (.next ()) else bif (a0.Kind == 3) then bif (c163_7 x0 a0) then some (.ret false) else (cutI x0.Breakers 0 (cnt 0 n0)).bind fun y9 => andThen (fI (F163_l1 a0) y9 0 ()) (fun v => some (.ret v)) fun z1 => some (.next ()) else some (.ret false)
def c163_11 (x0 : api_Board) (z2 : Int) : Bool := decide (z2 < (x0.Sources.length : Int))
def F163_l2 (x0 : api_Board) (z2 : Int) : Option (Ctl Int Bool) :=
 bif (c163_11 x0 z2) then (F77 x0 2 z2).bind fun y12 => bif ((y12.length : Int) != 1) then some (.ret false) else some (.next (w64 (z2 + 1))) else some (.brk z2)
def c163_13 (x0 : api_Board) (z3 : Int) : Bool := decide (z3 < (x0.Consumers.length : Int))
def F163_l3 (x0 : api_Board) (z3 : Int) : Option (Ctl Int Bool) :=
 bif (c163_13 x0 z3) then (F77 x0 3 z3).bind fun y16 => bif decide ((y16.length : Int) < 1) then some (.ret false) else some (.next (w64 (z3 + 1))) else some (.brk z3)
def F163 (x0 : api_Board) : Option Bool :=
 andThen (fI (F163_l0 x0) x0.Breakers 0 ()) some fun z0 => andThen (whileN (F163_l2 x0) 1152921504606846976 0) some fun z2 => andThen (whileN (F163_l3 x0) 1152921504606846976 0) some fun z3 => some true
def c164_1 (a0 : api_Source) : Bool := (((!(F112 a0.Rating 1 50000)) || (!(F112 a0.Least 0 a0.Rating))) || (!(F112 a0.Start 0 600)))
def F164_l0 (n0 : Nat) (a0 : api_Source) (z0 : Unit) : Option (Ctl Unit Bool) :=
 bif (c164_1 a0) then some (.ret false) else some (.next ())
def F164 (x0 : api_Board) : Option Bool :=
 andThen (fI F164_l0 x0.Sources 0 ()) some fun z0 => some true
def c165_3 (a0 : api_Consumer) : Bool := (((((!(F112 a0.Load 0 50000)) || (!(F112 a0.Least 0 a0.Load))) || (!(F112 a0.Preference 0 15))) || (!(F112 a0.Thruster (-1) 7))) || (decide ((a0.Needs.length : Int) > 4)))
def c165_5 (n0 : Nat) (n1 : Nat) (a1 : Int) (y2 : Int) : Bool := ((!(F112 a1 0 (w64 ((cnt 0 n0) - 1)))) || ((decide ((cnt 0 n1) > 0)) && (decide (y2 >= a1))))
def F165_l1 (n0 : Nat) (a0 : api_Consumer) (n1 : Nat) (a1 : Int) (z1 : Unit) : Option (Ctl Unit Bool) :=
 (guardO [(!(F112 a1 0 (w64 ((cnt 0 n0) - 1))), false), (decide ((cnt 0 n1) > 0), true)] (getI a0.Needs (w64 ((cnt 0 n1) - 1))) default).bind fun y2 => bif (c165_5 n0 n1 a1 y2) then some (.ret false) else some (.next ())
def F165_l0 (n0 : Nat) (a0 : api_Consumer) (z0 : Unit) : Option (Ctl Unit Bool) :=
 bif (c165_3 a0) then some (.ret false) else andThen (fI (F165_l1 n0 a0) a0.Needs 0 ()) (fun v => some (.ret v)) fun z1 => some (.next ())
def F165 (x0 : api_Board) : Option Bool :=
 andThen (fI F165_l0 x0.Consumers 0 ()) some fun z0 => some true
def c111_0 (x0 : api_Board) : Bool := (((((decide (x0.Buses < 1)) || (decide (x0.Buses > 6))) || (decide ((x0.Breakers.length : Int) > 24))) || (decide ((x0.Sources.length : Int) > 8))) || (decide ((x0.Consumers.length : Int) > 16)))
def c111_1 (x0 : api_Board) (y2 : Bool) (y4 : Bool) (y6 : Bool) : Bool := (((((((!y2) || (!y4)) || (!y6)) || (decide (x0.Phase < 0))) || (decide (x0.Phase > 1800))) || (decide (x0.Frequency < 0))) || (decide (x0.Frequency > 6000)))
def F111 (x0 : api_Board) : Option Int :=
 bif (c111_0 x0) then some 2 else (F163 x0).bind fun y2 => (guardO [(!y2, false)] (F164 x0) default).bind fun y4 => (guardO [(((!y2) || (!y4)), false)] (F165 x0) default).bind fun y6 => bif (c111_1 x0 y2 y4 y6) then some 14 else some 0
def F113 (x0 : api_Part) (x1 : api_Part) : Bool :=
 ((decide (x0.Kind < x1.Kind)) || ((x0.Kind == x1.Kind) && (decide (x0.Number < x1.Number))))
def c53_0 (x0 : api_Board) (x1 : api_Power) : Bool := ((((x1.Closed.length : Int) != (x0.Breakers.length : Int)) || ((x1.Sources.length : Int) != (x0.Sources.length : Int))) || ((x1.Limits.length : Int) != (x0.Consumers.length : Int)))
def c53_2 (a0 : api_Running) : Bool := ((((!(F112 a0.State 0 3)) || (!(F112 a0.Since 0 2147483648))) || (!(F112 a0.Frequency 0 6000))) || (!(F112 a0.Phase 0 3599)))
def F53_l0 (n0 : Nat) (a0 : api_Running) (z0 : Unit) : Option (Ctl Unit Int) :=
 bif (c53_2 a0) then some (.ret 11) else some (.next ())
def F53_l1 (x0 : api_Board) (n1 : Nat) (a1 : Int) (z1 : Unit) : Option (Ctl Unit Int) :=
 (getI x0.Consumers (cnt 0 n1)).bind fun y6 => bif !(F112 a1 0 y6.Load) then some (.ret 11) else some (.next ())
def c53_4 (x0 : api_Board) (n2 : Nat) (a2 : api_Part) (y10 : api_Part) : Bool := ((!(F71 x0 a2)) || ((decide ((cnt 0 n2) > 0)) && (!(F113 y10 a2))))
def F53_l2 (x0 : api_Board) (x1 : api_Power) (n2 : Nat) (a2 : api_Part) (z2 : Unit) : Option (Ctl Unit Int) :=
 (guardO [(!(F71 x0 a2), false), (decide ((cnt 0 n2) > 0), true)] (getI x1.Broken (w64 ((cnt 0 n2) - 1))) default).bind fun y10 => bif (c53_4 x0 n2 a2 y10) then some (.ret 11) else some (.next ())
def c53_6 (x0 : api_Board) (z3 : Int) : Bool := decide (z3 < (x0.Consumers.length : Int))
def F53_l4 (x1 : api_Power) (n4 : Nat) (a4 : Int) (z4 : Int) : Option (Ctl Int Unit) :=
 (getI x1.Closed a4).bind fun y16 => bif y16 then some (.next (w64 (z4 + 1))) else some (.next z4)
def F53_l3 (x0 : api_Board) (x1 : api_Power) (z3 : Int) : Option (Ctl Int Int) :=
 bif (c53_6 x0 z3) then (F77 x0 3 z3).bind fun y14 => andThen (fI (F53_l4 x1) y14 0 0) (fun _ => none) fun z4 => bif decide (z4 > 1) then some (.ret 11) else some (.next (w64 (z3 + 1))) else some (.brk z3)
def F53 (x0 : api_Board) (x1 : api_Power) : Option Int :=
 (F111 x0).bind fun y1 => bif (y1 != 0) then some y1 else bif (c53_0 x0 x1) then some 8 else andThen (fI F53_l0 x1.Sources 0 ()) some fun z0 => andThen (fI (F53_l1 x0) x1.Limits 0 ()) some fun z1 => bif decide ((x1.Broken.length : Int) > 32) then some 11 else andThen (fI (F53_l2 x0 x1) x1.Broken 0 ()) some fun z2 => andThen (whileN (F53_l3 x0 x1) 1152921504606846976 0) some fun z3 => some 0
def F65 (x0 : api_Power) : Option api_Power :=
 (appI 2 ([] : List Bool) x0.Closed).bind fun y1 => (appI 33 ([] : List api_Running) x0.Sources).bind fun y3 => (appI 9 ([] : List Int) x0.Limits).bind fun y5 => (appI 17 ([] : List api_Part) x0.Broken).bind fun y7 => some (⟨y1, y3, y5, y7⟩ : api_Power)
def c114_8 (a1 : api_Breaker) (y7 : Bool) (y9 : Bool) (y11 : Bool) : Bool := (((a1.Kind == 1) && y7) && (y9 || y11))
def F114_l1 (x1 : api_Power) (n1 : Nat) (a1 : api_Breaker) (z1 : (List Bool)) : Option (Ctl ((List Bool)) Unit) :=
 (guardO [((a1.Kind == 1), true)] (getI x1.Closed (cnt 0 n1)) default).bind fun y7 => (guardO [(((a1.Kind == 1) && y7), true)] (getI z1 a1.A) default).bind fun y9 => (guardO [(((a1.Kind == 1) && y7), true), (y9, false)] (getI z1 a1.B) default).bind fun y11 => bif (c114_8 a1 y7 y9 y11) then (getI z1 a1.A).bind fun y14 => (setI z1 a1.A true).bind fun y16 => (getI y16 a1.B).bind fun y18 => (setI y16 a1.B true).bind fun y20 => some (.next y20) else some (.next z1)
def F114_l0 (x0 : api_Board) (x1 : api_Power) (n0 : Nat) (a0 : Bool) (z0 : (List Bool)) : Option (Ctl ((List Bool)) Unit) :=
 andThen (fI (F114_l1 x1) x0.Breakers 0 z0) (fun _ => none) fun z1 => some (.next z1)
def F114_l2 (n2 : Nat) (a2 : Bool) (z2 : (List Int)) : Option (Ctl ((List Int)) Unit) :=
 bif a2 then (appI 9 z2 [cnt 0 n2]).bind fun y23 => some (.next y23) else some (.next z2)
def F114 (x0 : api_Board) (x1 : api_Power) (x2 : Int) : Option ((List Int)) :=
 (mkI 2 x0.Buses false).bind fun y1 => (getI y1 x2).bind fun y3 => (setI y1 x2 true).bind fun y5 => andThen (fI (F114_l0 x0 x1) y5 0 y5) (fun _ => none) fun z0 => andThen (fI F114_l2 z0 0 ([] : List Int)) (fun _ => none) fun z2 => some z2
def c27_0 (x0 : api_Board) (x2 : Int) (y1 : Int) (y3 : api_Running) : Bool := ((((y1 != 0) || (decide (x2 < 0))) || (decide (x2 >= (x0.Sources.length : Int)))) || (y3.State != 2))
def F27 (x0 : api_Board) (x1 : api_Power) (x2 : Int) : Option (Int × Bool) :=
 (F53 x0 x1).bind fun y1 => (guardO [((((y1 != 0) || (decide (x2 < 0))) || (decide (x2 >= (x0.Sources.length : Int)))), false)] (getI x1.Sources x2) default).bind fun y3 => bif (c27_0 x0 x2 y1 y3) then some (0, false) else (F77 x0 2 x2).bind fun y6 => (getI y6 0).bind fun y8 => (getI x1.Closed y8).bind fun y10 => bif !y10 then some (0, false) else (getI x0.Breakers y8).bind fun y13 => some (y13.A, true)
def F55_l0 (x1 : Int) (n0 : Nat) (a0 : Int) (z0 : Unit) : Option (Ctl Unit Bool) :=
 bif (a0 == x1) then some (.ret true) else some (.next ())
def F55 (x0 : List Int) (x1 : Int) : Option Bool :=
 andThen (fI (F55_l0 x1) x0 0 ()) some fun z0 => some false
def c48_0 (x0 : api_Board) (x2 : Int) (y1 : Int) : Bool := (((y1 != 0) || (decide (x2 < 0))) || (decide (x2 >= (x0.Consumers.length : Int))))
def F48_l0 (x0 : api_Board) (x1 : api_Power) (n0 : Nat) (a0 : Int) (z0 : Unit) : Option (Ctl Unit (Int × Bool)) :=
 (getI x1.Closed a0).bind fun y6 => bif y6 then (getI x0.Breakers a0).bind fun y9 => some (.ret (y9.A, true)) else some (.next ())
def F48 (x0 : api_Board) (x1 : api_Power) (x2 : Int) : Option (Int × Bool) :=
 (F53 x0 x1).bind fun y1 => bif (c48_0 x0 x2 y1) then some (0, false) else (F77 x0 3 x2).bind fun y4 => andThen (fI (F48_l0 x0 x1) y4 0 ()) some fun z0 => some (0, false)
def c54_0 (x0 : api_Board) (x2 : Int) (y1 : Int) : Bool := (((y1 != 0) || (decide (x2 < 0))) || (decide (x2 >= x0.Buses)))
def c54_2 (x0 : api_Board) (z0 : Int × (List Int)) : Bool := decide (z0.1 < (x0.Sources.length : Int))
def F54_l0 (x0 : api_Board) (x1 : api_Power) (y4 : (List Int)) (z0 : Int × (List Int)) : Option (Ctl (Int × (List Int)) Unit) :=
 bif (c54_2 x0 z0) then (F27 x0 x1 z0.1).bind fun y7 => (guardO [(y7.2, true)] (F55 y4 y7.1) default).bind fun y9 => bif (y7.2 && y9) then (appI 9 z0.2 [z0.1]).bind fun y12 => some (.next (w64 (z0.1 + 1), y12)) else some (.next (w64 (z0.1 + 1), z0.2)) else some (.brk (z0.1, z0.2))
def c54_4 (x0 : api_Board) (z1 : Int × (List Int)) : Bool := decide (z1.1 < (x0.Consumers.length : Int))
def F54_l1 (x0 : api_Board) (x1 : api_Power) (y4 : (List Int)) (z1 : Int × (List Int)) : Option (Ctl (Int × (List Int)) Unit) :=
 bif (c54_4 x0 z1) then (F48 x0 x1 z1.1).bind fun y15 => (guardO [(y15.2, true)] (F55 y4 y15.1) default).bind fun y17 => bif (y15.2 && y17) then (appI 9 z1.2 [z1.1]).bind fun y20 => some (.next (w64 (z1.1 + 1), y20)) else some (.next (w64 (z1.1 + 1), z1.2)) else some (.brk (z1.1, z1.2))
def F54 (x0 : api_Board) (x1 : api_Power) (x2 : Int) : Option (api_Island × Bool) :=
 (F53 x0 x1).bind fun y1 => bif (c54_0 x0 x2 y1) then some ((⟨([] : List Int), ([] : List Int), ([] : List Int)⟩ : api_Island), false) else (F114 x0 x1 x2).bind fun y4 => andThen (whileN (F54_l0 x0 x1 y4) 1152921504606846976 (0, ([] : List Int))) (fun _ => none) fun z0 => andThen (whileN (F54_l1 x0 x1 y4) 1152921504606846976 (0, ([] : List Int))) (fun _ => none) fun z1 => some ((⟨y4, z0.2, z1.2⟩ : api_Island), true)
def F25_l0 (x0 : api_Board) (x1 : api_Power) (z0 : Int × (List api_Island)) : Option (Ctl (Int × (List api_Island)) Unit) :=
 bif decide (z0.1 < x0.Buses) then (F54 x0 x1 z0.1).bind fun y5 => (getI y5.1.Buses 0).bind fun y7 => bif (y7 == z0.1) then (appI 73 z0.2 [y5.1]).bind fun y10 => some (.next (w64 (z0.1 + 1), y10)) else some (.next (w64 (z0.1 + 1), z0.2)) else some (.brk (z0.1, z0.2))
def F25 (x0 : api_Board) (x1 : api_Power) : Option ((List api_Island)) :=
 (F53 x0 x1).bind fun y1 => bif (y1 != 0) then some ([] : List api_Island) else andThen (whileN (F25_l0 x0 x1) 1152921504606846976 (0, ([] : List api_Island))) (fun _ => none) fun z0 => some z0.2
def F127_l1 (x1 : api_Power) (a0 : api_Island) (n1 : Nat) (a1 : Int) (z1 : (List api_Running)) : Option (Ctl ((List api_Running)) Unit) :=
 (getI a0.Sources 0).bind fun y5 => (getI x1.Sources y5).bind fun y7 => (getI a0.Sources 0).bind fun y9 => (getI x1.Sources y9).bind fun y11 => (getI z1 a1).bind fun y13 => (setI z1 a1 (⟨y13.State, y13.Since, y7.Frequency, y13.Phase⟩ : api_Running)).bind fun y15 => (getI y15 a1).bind fun y17 => (setI y15 a1 (⟨y17.State, y17.Since, y17.Frequency, y11.Phase⟩ : api_Running)).bind fun y19 => some (.next y19)
def F127_l0 (x1 : api_Power) (n0 : Nat) (a0 : api_Island) (z0 : (List api_Running)) : Option (Ctl ((List api_Running)) Unit) :=
 andThen (fI (F127_l1 x1 a0) a0.Sources 0 z0) (fun _ => none) fun z1 => some (.next z1)
def F127 (x0 : api_Board) (x1 : api_Power) : Option api_Power :=
 (F65 x1).bind fun y1 => (F25 x0 x1).bind fun y3 => andThen (fI (F127_l0 x1) y3 0 y1.Sources) (fun _ => none) fun z0 => some (⟨y1.Closed, z0, y1.Limits, y1.Broken⟩ : api_Power)
def F131 (x0 : api_Board) (x1 : api_Power) : Option (api_Power × Int) :=
 (F53 x0 x1).bind fun y1 => bif (y1 != 0) then some ((⟨([] : List Bool), ([] : List api_Running), ([] : List Int), ([] : List api_Part)⟩ : api_Power), y1) else (F127 x0 x1).bind fun y4 => some (y4, 0)
def F79s1 (x0 : dynposmake_Src) (x1 : api_Board) : Option (api_Power × dynposmake_Src) :=
 (F132s1 x0 x1).bind fun y1 => (F131 x1 y1.1).bind fun y3 => some (y3.1, y1.2)
def F31s1_l0 (x1 : api_Board) (z0 : Sg4) : Option (Ctl (Sg4) Unit) :=
 bif decide (z0.1 < x1.Buses) then (F78 (⟨z0.2.1, z0.2.2.1⟩ : dynposmake_Src) (-1) 4).bind fun y6 => (F78 y6.2 (-1) 4).bind fun y8 => (appI 17 z0.2.2.2 [(⟨y6.1, y8.1⟩ : api_Roster)]).bind fun y10 => some (.next (w64 (z0.1 + 1), y8.2.L, y8.2.At, y10)) else some (.brk (z0.1, z0.2.1, z0.2.2.1, z0.2.2.2))
def F31s1 (x0 : dynposmake_Src) (x1 : api_Board) : Option (api_Plant × dynposmake_Src) :=
 (F78 x0 5 20).bind fun y1 => (F79s1 y1.2 x1).bind fun y3 => andThen (whileN (F31s1_l0 x1) 1152921504606846976 (0, y3.2.L, y3.2.At, ([] : List api_Roster))) (fun _ => none) fun z0 => some ((⟨y1.1, y3.1, z0.2.2.2, ([] : List api_Event)⟩ : api_Plant), (⟨z0.2.1, z0.2.2.1⟩ : dynposmake_Src))
def F9 (x0 : dynposmake_Src) : Option (Sg12) :=
 (F29 x0).bind fun y1 => (F30 y1.2).bind fun y3 => (F31s1 y3.2 y1.1).bind fun y5 => some (y1.1, y3.1, y5.1, y5.2)
def F91 (x0 : dynposmake_Src) : Option (api_Arc × dynposmake_Src) :=
 (F40 x0 [0, 450, 800, 1350, 1800, 2600, 3500]).bind fun y1 => (F40 y1.2 [0, 100, 300, 900, 1799]).bind fun y3 => some ((⟨y1.1, Int.tmod (w64 (y1.1 + y3.1)) 3600⟩ : api_Arc), y3.2)
def F41_l0 (z0 : Int × (List Int) × Int × (List api_Arc)) : Option (Ctl (Int × (List Int) × Int × (List api_Arc)) Unit) :=
 bif decide (z0.1 > 0) then (F91 (⟨z0.2.1, z0.2.2.1⟩ : dynposmake_Src)).bind fun y14 => (appI 17 z0.2.2.2 [y14.1]).bind fun y16 => some (.next (w64 (z0.1 - 1), y14.2.L, y14.2.At, y16)) else some (.brk (z0.1, z0.2.1, z0.2.2.1, z0.2.2.2))
def F41 (x0 : dynposmake_Src) : Option (api_Thruster × dynposmake_Src) :=
 (F78 x0 1 3).bind fun y1 => (F32 y1.2 2).bind fun y3 => (F40 y3.2 [0, 1, 7, 20, 40]).bind fun y5 => (F40 y5.2 [0, 1, 5, 50]).bind fun y7 => (F40 y7.2 [1, 2, 3, 100]).bind fun y9 => (F32 y9.2 3).bind fun y11 => andThen (whileN F41_l0 1152921504606846976 (y11.1, y11.2.L, y11.2.At, ([] : List api_Arc))) (fun _ => none) fun z0 => some ((⟨y1.1, y3.1, y5.1, y7.1, y9.1, z0.2.2.2⟩ : api_Thruster), (⟨z0.2.1, z0.2.2.1⟩ : dynposmake_Src))
def F14_l0 (z0 : Sg6) : Option (Ctl (Sg6) Unit) :=
 bif decide (z0.1 > 0) then (F41 (⟨z0.2.1, z0.2.2.1⟩ : dynposmake_Src)).bind fun y10 => (appI 65 z0.2.2.2 [y10.1]).bind fun y12 => some (.next (w64 (z0.1 - 1), y10.2.L, y10.2.At, y12)) else some (.brk (z0.1, z0.2.1, z0.2.2.1, z0.2.2.2))
def F14 (x0 : dynposmake_Src) (x1 : Int) : Option (api_Ship × dynposmake_Src) :=
 (F40 x0 [0, 1, 30, 60]).bind fun y1 => (F40 y1.2 [1, 25, 40]).bind fun y3 => (F32 y3.2 (w64 (x1 + 1))).bind fun y5 => andThen (whileN F14_l0 1152921504606846976 (y5.1, y5.2.L, y5.2.At, ([] : List api_Thruster))) (fun _ => none) fun z0 => some ((⟨y1.1, y3.1, z0.2.2.2⟩ : api_Ship), (⟨z0.2.1, z0.2.2.1⟩ : dynposmake_Src))
def F148 (x0 : Int) (x1 : Int) (x2 : Int) : Bool :=
 ((decide (x0 >= x1)) && (decide (x0 <= x2)))
def F197 (x0 : Int) : Bool :=
 ((decide (x0 >= 0)) && (decide (x0 < 3600)))
def F229 (x0 : Int) : Int :=
 bif decide ((Int.tmod x0 3600) < 0) then w64 ((Int.tmod x0 3600) + 3600) else Int.tmod x0 3600
def F198 (x0 : api_Arc) : Int :=
 F229 (w64 (x0.To - x0.From))
def F151 (x0 : api_Arc) : Bool :=
 (((F197 x0.From) && (F197 x0.To)) && (decide ((F198 x0) < 1800)))
def F150 (x0 : api_Arc) : Bool :=
 !(F151 x0)
def F196s0_l0 (n0 : Nat) (a0 : api_Arc) (z0 : Unit) : Option (Ctl Unit Int) :=
 bif F150 a0 then some (.ret (cnt 0 n0)) else some (.next ())
def F196s0 (x0 : List api_Arc) : Option Int :=
 andThen (fI F196s0_l0 x0 0 ()) some fun z0 => some (-1)
def F149s0 (x0 : List api_Arc) : Option Bool :=
 (F196s0 x0).bind fun y1 => some (decide (y1 >= 0))
def F94 (x0 : api_Thruster) : Option Bool :=
 (guardO [(((((((F148 x0.Kind 1 3) && (F148 x0.Station 0 1)) && (F148 x0.Max 0 5000)) && (F148 x0.Rate 0 5000)) && (F148 x0.Cost 1 100)) && (decide ((x0.Forbidden.length : Int) <= 4))), true)] (F149s0 x0.Forbidden) default).bind fun y1 => some (((((((F148 x0.Kind 1 3) && (F148 x0.Station 0 1)) && (F148 x0.Max 0 5000)) && (F148 x0.Rate 0 5000)) && (F148 x0.Cost 1 100)) && (decide ((x0.Forbidden.length : Int) <= 4))) && (!y1))
def F93 (x0 : api_Thruster) : Option Bool :=
 (F94 x0).bind fun y1 => some (!y1)
def F147s0_l0 (n0 : Nat) (a0 : api_Thruster) (z0 : Unit) : Option (Ctl Unit Int) :=
 (F93 a0).bind fun y1 => bif y1 then some (.ret (cnt 0 n0)) else some (.next ())
def F147s0 (x0 : List api_Thruster) : Option Int :=
 andThen (fI F147s0_l0 x0 0 ()) some fun z0 => some (-1)
def F92s0 (x0 : List api_Thruster) : Option Bool :=
 (F147s0 x0).bind fun y1 => some (decide (y1 >= 0))
def c42_0 (x0 : api_Ship) : Bool := (((decide ((min x0.Bow x0.Stern) < 0)) || (decide ((max x0.Bow x0.Stern) > 200))) || ((x0.Bow == 0) && (x0.Stern == 0)))
def F42 (x0 : api_Ship) : Option Int :=
 bif decide ((x0.Thrusters.length : Int) > 8) then some 2 else bif (c42_0 x0) then some 1 else (F92s0 x0.Thrusters).bind fun y3 => bif y3 then some 14 else some 0
def F99 (x0 : Int) (x1 : Int) (x2 : Int) : Bool :=
 ((decide (x0 >= x1)) && (decide (x0 <= x2)))
def F227_l0 (x1 : Int) (n0 : Nat) (a0 : Int) (z0 : Unit) : Option (Ctl Unit Int) :=
 bif (x1 == a0) then some (.ret (cnt 0 n0)) else some (.next ())
def F227 (x0 : List Int) (x1 : Int) : Option Int :=
 andThen (fI (F227_l0 x1) x0 0 ()) some fun z0 => some (-1)
def F190 (x0 : List Int) (x1 : Int) : Option Bool :=
 (F227 x0 x1).bind fun y1 => some (decide (y1 >= 0))
def F192 (x0 : List Int) : Bool :=
 ((x0.length : Int) == 0)
def F228s0_l0 (n0 : Nat) (a0 : List Int) (z0 : Unit) : Option (Ctl Unit Int) :=
 bif F192 a0 then some (.ret (cnt 0 n0)) else some (.next ())
def F228s0 (x0 : List (List Int)) : Option Int :=
 andThen (fI F228s0_l0 x0 0 ()) some fun z0 => some (-1)
def F191s0 (x0 : List (List Int)) : Option Bool :=
 (F228s0 x0).bind fun y1 => some (decide (y1 >= 0))
def c136_6 (x0 : api_Board) (a0 : api_Breaker) : Bool := ((a0.Kind == 1) && (F99 a0.B (w64 (a0.A + 1)) (w64 (x0.Buses - 1))))
def c136_7 (z0 : (List Int) × (List (List Int))) (a0 : api_Breaker) (y7 : Int) : Bool := (((a0.Kind == 2) && (F99 a0.B 0 (w64 ((z0.1.length : Int) - 1)))) && (y7 == 0))
def c136_8 (z0 : (List Int) × (List (List Int))) (a0 : api_Breaker) (y16 : Bool) : Bool := (((a0.Kind == 3) && (F99 a0.B 0 (w64 ((z0.2.length : Int) - 1)))) && (!y16))
def F136_l0 (x0 : api_Board) (n0 : Nat) (a0 : api_Breaker) (z0 : (List Int) × (List (List Int))) : Option (Ctl ((List Int) × (List (List Int))) Bool) :=
 bif !(F99 a0.A 0 (w64 (x0.Buses - 1))) then some (.ret false) else bif (c136_6 x0 a0) then some (.next (z0.1, z0.2)) else (guardO [(((a0.Kind == 2) && (F99 a0.B 0 (w64 ((z0.1.length : Int) - 1)))), true)] (getI z0.1 a0.B) default).bind fun y7 => bif (c136_7 z0 a0 y7) then (getI z0.1 a0.B).bind fun y10 => (setI z0.1 a0.B (w64 (y10 + 1))).bind fun y12 => some (.next (y12, z0.2)) else (guardO [(((a0.Kind == 3) && (F99 a0.B 0 (w64 ((z0.2.length : Int) - 1)))), true)] (getI z0.2 a0.B) default).bind fun y14 => (guardO [(((a0.Kind == 3) && (F99 a0.B 0 (w64 ((z0.2.length : Int) - 1)))), true)] (F190 y14 a0.A) default).bind fun y16 => bif (c136_8 z0 a0 y16) then (getI z0.2 a0.B).bind fun y19 => (appI 9 y19 [a0.A]).bind fun y21 => (setI z0.2 a0.B y21).bind fun y23 => some (.next (z0.1, y23)) else some (.ret false)
def F136 (x0 : api_Board) : Option Bool :=
 (mkI 9 (x0.Sources.length : Int) 0).bind fun y1 => (mkI 25 (x0.Consumers.length : Int) ([] : List Int)).bind fun y3 => andThen (fI (F136_l0 x0) x0.Breakers 0 (y1, y3)) some fun z0 => (F190 z0.1 0).bind fun y27 => (guardO [(!y27, true)] (F191s0 z0.2) default).bind fun y29 => some ((!y27) && (!y29))
def F137 (x0 : api_Source) : Bool :=
 (((F99 x0.Rating 1 50000) && (F99 x0.Least 0 x0.Rating)) && (F99 x0.Start 0 600))
def c138_1 (x1 : Int) (n0 : Nat) (a0 : Int) (y1 : Int) : Bool := ((!(F99 a0 0 (w64 (x1 - 1)))) || ((decide ((cnt 0 n0) > 0)) && (decide (y1 >= a0))))
def F138_l0 (x0 : api_Consumer) (x1 : Int) (n0 : Nat) (a0 : Int) (z0 : Unit) : Option (Ctl Unit Bool) :=
 (guardO [(!(F99 a0 0 (w64 (x1 - 1))), false), (decide ((cnt 0 n0) > 0), true)] (getI x0.Needs (w64 ((cnt 0 n0) - 1))) default).bind fun y1 => bif (c138_1 x1 n0 a0 y1) then some (.ret false) else some (.next ())
def F138 (x0 : api_Consumer) (x1 : Int) : Option Bool :=
 andThen (fI (F138_l0 x0 x1) x0.Needs 0 ()) some fun z0 => some (((((F99 x0.Load 0 50000) && (F99 x0.Least 0 x0.Load)) && (F99 x0.Preference 0 15)) && (F99 x0.Thruster (-1) 7)) && (decide ((x0.Needs.length : Int) <= 4)))
def c85_0 (x0 : api_Board) : Bool := ((((!(F99 x0.Buses 1 6)) || (decide ((x0.Breakers.length : Int) > 24))) || (decide ((x0.Sources.length : Int) > 8))) || (decide ((x0.Consumers.length : Int) > 16)))
def F85_l0 (n0 : Nat) (a0 : api_Source) (z0 : Bool) : Option (Ctl Bool Unit) :=
 some (.next (z0 && (F137 a0)))
def F85_l1 (n1 : Nat) (a1 : api_Consumer) (z1 : Bool) : Option (Ctl Bool Unit) :=
 (guardO [(z1, true)] (F138 a1 (cnt 0 n1)) default).bind fun y4 => some (.next (z1 && y4))
def F85 (x0 : api_Board) : Option Int :=
 bif (c85_0 x0) then some 2 else (F136 x0).bind fun y2 => andThen (fI F85_l0 x0.Sources 0 ((y2 && (F99 x0.Phase 0 1800)) && (F99 x0.Frequency 0 6000))) (fun _ => none) fun z0 => andThen (fI F85_l1 x0.Consumers 0 z0) (fun _ => none) fun z1 => bif !z1 then some 14 else some 0
def F152 (x0 : api_Board) (x1 : Int) : Int :=
 bif (x1 == 1) then (x0.Sources.length : Int) else bif (x1 == 2) then (x0.Breakers.length : Int) else bif (x1 == 3) then x0.Buses else bif (x1 == 4) then (x0.Consumers.length : Int) else 0
def F199 (x0 : Int) : Bool :=
 (x0 != x0)
def F154 (x0 : Int) (x1 : Int) : Int :=
 bif F199 x0 then bif F199 x1 then 0 else (-1) else bif F199 x1 then 1 else bif decide (x0 < x1) then (-1) else bif decide (x0 > x1) then 1 else 0
def F153_l0 (n0 : Nat) (a0 : Int) (z0 : Unit) : Option (Ctl Unit Int) :=
 bif (a0 != 0) then some (.ret a0) else some (.next ())
def F153 (x0 : List Int) : Option Int :=
 andThen (fI F153_l0 x0 0 ()) some fun z0 => some 0
def c95_1 (x0 : api_Board) (n0 : Nat) (a0 : api_Part) (y5 : Int) : Bool := ((!(F99 a0.Number 0 (w64 ((F152 x0 a0.Kind) - 1)))) || ((decide ((cnt 0 n0) > 0)) && (decide (y5 >= 0))))
def F95_l0 (x0 : api_Board) (x1 : List api_Part) (n0 : Nat) (a0 : api_Part) (z0 : Unit) : Option (Ctl Unit Bool) :=
 (guardO [(!(F99 a0.Number 0 (w64 ((F152 x0 a0.Kind) - 1))), false), (decide ((cnt 0 n0) > 0), true)] (getI x1 (w64 ((cnt 0 n0) - 1))) default).bind fun y1 => (guardO [(!(F99 a0.Number 0 (w64 ((F152 x0 a0.Kind) - 1))), false), (decide ((cnt 0 n0) > 0), true)] (getI x1 (w64 ((cnt 0 n0) - 1))) default).bind fun y3 => (guardO [(!(F99 a0.Number 0 (w64 ((F152 x0 a0.Kind) - 1))), false), (decide ((cnt 0 n0) > 0), true)] (F153 [F154 y1.Kind a0.Kind, F154 y3.Number a0.Number]) default).bind fun y5 => bif (c95_1 x0 n0 a0 y5) then some (.ret false) else some (.next ())
def F95 (x0 : api_Board) (x1 : List api_Part) : Option Bool :=
 andThen (fI (F95_l0 x0 x1) x1 0 ()) some fun z0 => some (decide ((x1.length : Int) <= 32))
def F98 (x0 : api_Running) : Bool :=
 ((((F99 x0.State 0 3) && (F99 x0.Since 0 2147483648)) && (F99 x0.Frequency 0 6000)) && (F99 x0.Phase 0 3599))
def F97 (x0 : api_Running) : Bool :=
 !(F98 x0)
def F155s0_l0 (n0 : Nat) (a0 : api_Running) (z0 : Unit) : Option (Ctl Unit Int) :=
 bif F97 a0 then some (.ret (cnt 0 n0)) else some (.next ())
def F155s0 (x0 : List api_Running) : Option Int :=
 andThen (fI F155s0_l0 x0 0 ()) some fun z0 => some (-1)
def F96s0 (x0 : List api_Running) : Option Bool :=
 (F155s0 x0).bind fun y1 => some (decide (y1 >= 0))
def c100_2 (x2 : Int) (a0 : api_Breaker) (y1 : Bool) : Bool := (((a0.Kind == 3) && (a0.B == x2)) && y1)
def F100_l0 (x1 : api_Power) (x2 : Int) (n0 : Nat) (a0 : api_Breaker) (z0 : Int) : Option (Ctl Int Unit) :=
 (guardO [(((a0.Kind == 3) && (a0.B == x2)), true)] (getI x1.Closed (cnt 0 n0)) default).bind fun y1 => bif (c100_2 x2 a0 y1) then some (.next (w64 (z0 + 1))) else some (.next z0)
def F100 (x0 : api_Board) (x1 : api_Power) (x2 : Int) : Option Int :=
 andThen (fI (F100_l0 x1 x2) x0.Breakers 0 0) (fun _ => none) fun z0 => some z0
def c43_0 (x0 : api_Board) (x1 : api_Power) : Bool := ((((x1.Closed.length : Int) != (x0.Breakers.length : Int)) || ((x1.Sources.length : Int) != (x0.Sources.length : Int))) || ((x1.Limits.length : Int) != (x0.Consumers.length : Int)))
def F43_l0 (x0 : api_Board) (x1 : api_Power) (n0 : Nat) (a0 : Int) (z0 : Bool) : Option (Ctl Bool Unit) :=
 (guardO [(z0, true)] (getI x0.Consumers (cnt 0 n0)) default).bind fun y9 => (guardO [((z0 && (F99 a0 0 y9.Load)), true)] (F100 x0 x1 (cnt 0 n0)) default).bind fun y11 => some (.next ((z0 && (F99 a0 0 y9.Load)) && (decide (y11 <= 1))))
def F43 (x0 : api_Board) (x1 : api_Power) : Option Int :=
 (F85 x0).bind fun y1 => bif (y1 != 0) then some y1 else bif (c43_0 x0 x1) then some 8 else (F95 x0 x1.Broken).bind fun y5 => (guardO [(y5, true)] (F96s0 x1.Sources) default).bind fun y7 => andThen (fI (F43_l0 x0 x1) x1.Limits 0 (y5 && (!y7))) (fun _ => none) fun z0 => bif !z0 then some 11 else some 0
def F45s0 (x0 : api_Consumer) (x1 : Int) : Bool :=
 (x0.Thruster == x1)
def F44s1_l0 (x1c0 : Int) (n0 : Nat) (a0 : api_Consumer) (z0 : Unit) : Option (Ctl Unit (Int × Int)) :=
 bif F45s0 a0 x1c0 then some (.ret (cnt 0 n0, x1c0)) else some (.next ())
def F44s1 (x0 : List api_Consumer) (x1c0 : Int) : Option (Int × Int) :=
 andThen (fI (F44s1_l0 x1c0) x0 0 ()) some fun z0 => some ((-1), x1c0)
def c195_1 (x2 : Int) (x3 : Int) (a0 : api_Breaker) (y1 : Bool) : Bool := (((a0.Kind == x2) && (a0.B == x3)) && y1)
def F195_l0 (x1 : api_Power) (x2 : Int) (x3 : Int) (n0 : Nat) (a0 : api_Breaker) (z0 : Unit) : Option (Ctl Unit (Int × Bool)) :=
 (guardO [(((a0.Kind == x2) && (a0.B == x3)), true)] (getI x1.Closed (cnt 0 n0)) default).bind fun y1 => bif (c195_1 x2 x3 a0 y1) then some (.ret (a0.A, true)) else some (.next ())
def F195 (x0 : api_Board) (x1 : api_Power) (x2 : Int) (x3 : Int) : Option (Int × Bool) :=
 andThen (fI (F195_l0 x1 x2 x3) x0.Breakers 0 ()) some fun z0 => some (0, false)
def F144 (x0 : api_Board) (x1 : api_Power) (x2 : Int) : Option (Int × Bool) :=
 (F195 x0 x1 3 x2).bind fun y1 => some (y1.1, y1.2)
def F101 (x0 : api_Board) (x1 : api_Power) (x2 : Int) : Option (Int × Bool) :=
 (F43 x0 x1).bind fun y1 => bif (y1 != 0) then some (0, false) else (F144 x0 x1 x2).bind fun y4 => some (y4.1, y4.2)
def F142_l0 (n0 : Nat) (a0 : Int) (z0 : (List Int)) : Option (Ctl ((List Int)) Unit) :=
 (getI z0 (cnt 0 n0)).bind fun y3 => (setI z0 (cnt 0 n0) (cnt 0 n0)).bind fun y5 => some (.next y5)
def F142_l2 (x1 : api_Power) (n2 : Nat) (a2 : api_Breaker) (z2 : (List Int)) : Option (Ctl ((List Int)) Unit) :=
 (guardO [((a2.Kind == 1), true)] (getI x1.Closed (cnt 0 n2)) default).bind fun y7 => bif ((a2.Kind == 1) && y7) then (getI z2 a2.A).bind fun y10 => (getI z2 a2.B).bind fun y12 => (setI z2 a2.A (min y10 y12)).bind fun y14 => (getI y14 a2.B).bind fun y16 => (setI y14 a2.B (min y10 y12)).bind fun y18 => some (.next y18) else some (.next z2)
def F142_l1 (x0 : api_Board) (x1 : api_Power) (n1 : Nat) (a1 : Int) (z1 : (List Int)) : Option (Ctl ((List Int)) Unit) :=
 andThen (fI (F142_l2 x1) x0.Breakers 0 z1) (fun _ => none) fun z2 => some (.next z2)
def F142 (x0 : api_Board) (x1 : api_Power) : Option ((List Int)) :=
 (mkI 9 x0.Buses 0).bind fun y1 => andThen (fI F142_l0 y1 0 y1) (fun _ => none) fun z0 => andThen (fI (F142_l1 x0 x1) z0 0 z0) (fun _ => none) fun z1 => some z1
def c143_0 (x1 : api_Power) (x2 : Int) (y1 : api_Running) : Bool := ((!(F99 x2 0 (w64 ((x1.Sources.length : Int) - 1)))) || (y1.State != 2))
def F143 (x0 : api_Board) (x1 : api_Power) (x2 : Int) : Option (Int × Bool) :=
 (guardO [(!(F99 x2 0 (w64 ((x1.Sources.length : Int) - 1))), false)] (getI x1.Sources x2) default).bind fun y1 => bif (c143_0 x1 x2 y1) then some (0, false) else (F195 x0 x1 2 x2).bind fun y4 => some (y4.1, y4.2)
def F146 (x0 : api_Island) : Bool :=
 ((x0.Buses.length : Int) == 0)
def F141s0_l0 (n0 : Nat) (a0 : api_Island) (z0 : Unit) : Option (Ctl Unit Int) :=
 bif F146 a0 then some (.ret (cnt 0 n0)) else some (.next ())
def F141s0 (x0 : List api_Island) : Option Int :=
 andThen (fI F141s0_l0 x0 0 ()) some fun z0 => some (-1)
def c145s1_2 (z0 : Int × Int × (List api_Island)) : Bool := decide (z0.2.1 < (z0.2.2.length : Int))
def F145s1_l0 (z0 : Int × Int × (List api_Island)) : Option (Ctl (Int × Int × (List api_Island)) Unit) :=
 bif (c145s1_2 z0) then (getI z0.2.2 z0.2.1).bind fun y5 => bif !(F146 y5) then (getI z0.2.2 z0.1).bind fun y8 => (setI z0.2.2 z0.1 y5).bind fun y10 => some (.next (w64 (z0.1 + 1), w64 (z0.2.1 + 1), y10)) else some (.next (z0.1, w64 (z0.2.1 + 1), z0.2.2)) else some (.brk (z0.1, z0.2.1, z0.2.2))
def F145s1 (x0 : List api_Island) : Option ((List api_Island)) :=
 (F141s0 x0).bind fun y1 => bif (y1 == (-1)) then some x0 else andThen (whileN F145s1_l0 1152921504606846976 (y1, w64 (y1 + 1), x0)) (fun _ => none) fun z0 => (bndI z0.2.2.length z0.1 (z0.2.2.length : Int)).bind fun u13 => (bndI (clrI z0.2.2 (Int.toNat z0.1) ((Int.toNat (z0.2.2.length : Int)) - (Int.toNat z0.1)) (⟨([] : List Int), ([] : List Int), ([] : List Int)⟩ : api_Island)).length 0 z0.1).bind fun u15 => some ((clrI z0.2.2 (Int.toNat z0.1) ((Int.toNat (z0.2.2.length : Int)) - (Int.toNat z0.1)) (⟨([] : List Int), ([] : List Int), ([] : List Int)⟩ : api_Island)).take ((Int.toNat z0.1) - 0))
def F89_l0 (n0 : Nat) (a0 : Int) (z0 : (List api_Island)) : Option (Ctl ((List api_Island)) Unit) :=
 (getI z0 a0).bind fun y8 => (appI 9 y8.Buses [cnt 0 n0]).bind fun y10 => (setI z0 a0 (⟨y10, y8.Sources, y8.Consumers⟩ : api_Island)).bind fun y12 => some (.next y12)
def c89_1 (x0 : api_Board) (z1 : Int × (List api_Island)) : Bool := decide (z1.1 < (x0.Sources.length : Int))
def F89_l1 (x0 : api_Board) (x1 : api_Power) (y4 : (List Int)) (z1 : Int × (List api_Island)) : Option (Ctl (Int × (List api_Island)) Unit) :=
 bif (c89_1 x0 z1) then (F143 x0 x1 z1.1).bind fun y15 => bif y15.2 then (getI y4 y15.1).bind fun y18 => (getI z1.2 y18).bind fun y20 => (appI 9 y20.Sources [z1.1]).bind fun y22 => (setI z1.2 y18 (⟨y20.Buses, y22, y20.Consumers⟩ : api_Island)).bind fun y24 => some (.next (w64 (z1.1 + 1), y24)) else some (.next (w64 (z1.1 + 1), z1.2)) else some (.brk (z1.1, z1.2))
def c89_3 (x0 : api_Board) (z2 : Int × (List api_Island)) : Bool := decide (z2.1 < (x0.Consumers.length : Int))
def F89_l2 (x0 : api_Board) (x1 : api_Power) (y4 : (List Int)) (z2 : Int × (List api_Island)) : Option (Ctl (Int × (List api_Island)) Unit) :=
 bif (c89_3 x0 z2) then (F144 x0 x1 z2.1).bind fun y27 => bif y27.2 then (getI y4 y27.1).bind fun y30 => (getI z2.2 y30).bind fun y32 => (appI 9 y32.Consumers [z2.1]).bind fun y34 => (setI z2.2 y30 (⟨y32.Buses, y32.Sources, y34⟩ : api_Island)).bind fun y36 => some (.next (w64 (z2.1 + 1), y36)) else some (.next (w64 (z2.1 + 1), z2.2)) else some (.brk (z2.1, z2.2))
def F89 (x0 : api_Board) (x1 : api_Power) : Option ((List api_Island)) :=
 (F43 x0 x1).bind fun y1 => bif (y1 != 0) then some ([] : List api_Island) else (F142 x0 x1).bind fun y4 => (mkI 73 x0.Buses (⟨([] : List Int), ([] : List Int), ([] : List Int)⟩ : api_Island)).bind fun y6 => andThen (fI F89_l0 y4 0 y6) (fun _ => none) fun z0 => andThen (whileN (F89_l1 x0 x1 y4) 1152921504606846976 (0, z0)) (fun _ => none) fun z1 => andThen (whileN (F89_l2 x0 x1 y4) 1152921504606846976 (0, z1.2)) (fun _ => none) fun z2 => (F145s1 z2.2).bind fun y38 => some y38
def F156_l0 (x2 : Int) (n0 : Nat) (a0 : api_Island) (z0 : Unit) : Option (Ctl Unit (api_Island × Bool)) :=
 (F190 a0.Buses x2).bind fun y3 => bif y3 then some (.ret (a0, true)) else some (.next ())
def F156 (x0 : api_Board) (x1 : api_Power) (x2 : Int) : Option (api_Island × Bool) :=
 (F89 x0 x1).bind fun y1 => andThen (fI (F156_l0 x2) y1 0 ()) some fun z0 => some ((⟨([] : List Int), ([] : List Int), ([] : List Int)⟩ : api_Island), false)
def F102 (x0 : api_Board) (x1 : api_Power) (x2 : Int) : Option Bool :=
 (F156 x0 x1 x2).bind fun y1 => some (decide ((y1.1.Sources.length : Int) > 0))
def c200_1 (x1 : api_Part) (a0 : api_Part) : Bool := ((x1.Kind == a0.Kind) && ((x1.Number == a0.Number) && true))
def F200_l0 (x1 : api_Part) (n0 : Nat) (a0 : api_Part) (z0 : Unit) : Option (Ctl Unit Int) :=
 bif (c200_1 x1 a0) then some (.ret (cnt 0 n0)) else some (.next ())
def F200 (x0 : List api_Part) (x1 : api_Part) : Option Int :=
 andThen (fI (F200_l0 x1) x0 0 ()) some fun z0 => some (-1)
def F157 (x0 : List api_Part) (x1 : api_Part) : Option Bool :=
 (F200 x0 x1).bind fun y1 => some (decide (y1 >= 0))
def F103 (x0 : api_Power) (x1 : Int) (x2 : Int) : Option Bool :=
 (F157 x0.Broken (⟨x1, x2⟩ : api_Part)).bind fun y1 => some y1
def F105s0 (rec46 : api_Board -> api_Power -> Int -> Option Bool) (x0 : Int) (x1 : api_Board) (x2 : api_Power) : Option Bool :=
 (rec46 x1 x2 x0).bind fun y1 => some (!y1)
def F158s1_l0 (x1c0 : api_Board) (x1c1 : api_Power) (rec46 : api_Board -> api_Power -> Int -> Option Bool) (n0 : Nat) (a0 : Int) (z0 : Unit) : Option (Ctl Unit (Int × api_Board × api_Power)) :=
 (F105s0 rec46 a0 x1c0 x1c1).bind fun y1 => bif y1 then some (.ret (cnt 0 n0, x1c0, x1c1)) else some (.next ())
def F158s1 (rec46 : api_Board -> api_Power -> Int -> Option Bool) (x0 : List Int) (x1c0 : api_Board) (x1c1 : api_Power) : Option (Int × api_Board × api_Power) :=
 andThen (fI (F158s1_l0 x1c0 x1c1 rec46) x0 0 ()) some fun z0 => some ((-1), x1c0, x1c1)
def F104s1 (rec46 : api_Board -> api_Power -> Int -> Option Bool) (x0 : List Int) (x1c0 : api_Board) (x1c1 : api_Power) : Option (Bool × api_Board × api_Power) :=
 (F158s1 rec46 x0 x1c0 x1c1).bind fun y1 => some (decide (y1.1 >= 0), y1.2.1, y1.2.2)
def c46_0 (y1 : Int × Bool) (y3 : Bool) (y5 : Bool) (y7 : Int) (y9 : api_Consumer) : Bool := ((((!y1.2) || (!y3)) || y5) || (decide (y7 < y9.Least)))
def F46b (rec46 : api_Board -> api_Power -> Int -> Option Bool) (x0 : api_Board) (x1 : api_Power) (x2 : Int) : Option Bool :=
 (F101 x0 x1 x2).bind fun y1 => (guardO [(!y1.2, false)] (F102 x0 x1 y1.1) default).bind fun y3 => (guardO [(((!y1.2) || (!y3)), false)] (F103 x1 4 x2) default).bind fun y5 => (guardO [((((!y1.2) || (!y3)) || y5), false)] (getI x1.Limits x2) default).bind fun y7 => (guardO [((((!y1.2) || (!y3)) || y5), false)] (getI x0.Consumers x2) default).bind fun y9 => bif (c46_0 y1 y3 y5 y7 y9) then some false else (getI x0.Consumers x2).bind fun y12 => (F104s1 rec46 y12.Needs x0 x1).bind fun y14 => some (!y14.1)
def F46f : Nat -> api_Board -> api_Power -> Int -> Option Bool
 | 0 => fun _ _ _ => none
 | n + 1 => F46b (F46f n)
def F46 (x0 : api_Board) (x1 : api_Power) (x2 : Int) : Option Bool := F46f 1000 x0 x1 x2
def F159 (x0 : api_Thrust) : Bool :=
 ((decide ((max x0.X x0.Y) <= 5000)) && (decide ((min x0.X x0.Y) >= (-5000))))
def F203 (x0 : Int) (x1 : Int) : Option Int :=
 (nzI x1).bind fun u2 => (nzI x1).bind fun u4 => bif decide ((Int.tmod x0 x1) < 0) then some (w64 ((w64 (Int.tdiv x0 x1)) - 1)) else some (w64 (Int.tdiv x0 x1))
def F202 (x0 : Int) (x1 : Int) : Option Int :=
 (F203 (w64 (0 - x0)) x1).bind fun y1 => some (w64 (0 - y1))
def c201s0_0 (x0 : Int) (x1 : Int) : Bool := ((((decide (x0 < (-1000000000000000000))) || (decide (x0 > 1000000000000000000))) || (decide (x1 < 1))) || (decide (x1 > 1000000000)))
def F201s0 (x0 : Int) (x1 : Int) : Option (Int × Int) :=
 bif (c201s0_0 x0 x1) then some (0, 1) else (F202 x0 x1).bind fun y2 => some (y2, 0)
def F160 (x0 : Int) (x1 : Int) : Option (Int × Int) :=
 (F201s0 x0 x1).bind fun y1 => some (y1.1, y1.2)
def F106 (x0 : api_Thruster) (x1 : api_Thrust) : Option (Int × Int) :=
 (F94 x0).bind fun y1 => bif ((!y1) || (!(F159 x1))) then some (0, 1) else (F160 (w64 ((w64 ((w64 (x1.X * x1.X)) + (w64 (x1.Y * x1.Y)))) * x0.Cost)) 1000).bind fun y4 => some (y4.1, y4.2)
def c107_0 (x0 : Int) : Bool := ((decide (x0 < 0)) || (decide (x0 > 1000000000000000000)))
def c107_3 (x0 : Int) (z0 : Int × Int) : Bool := decide ((w64 ((w64 (Int.tdiv (w64 ((w64 (z0.1 + z0.2)) + 1)) 2)) * (w64 (Int.tdiv (w64 ((w64 (z0.1 + z0.2)) + 1)) 2)))) <= x0)
def F107_l0 (x0 : Int) (z0 : Int × Int) : Option (Ctl (Int × Int) Unit) :=
 bif decide (z0.1 < z0.2) then bif (c107_3 x0 z0) then some (.next (w64 (Int.tdiv (w64 ((w64 (z0.1 + z0.2)) + 1)) 2), z0.2)) else some (.next (z0.1, w64 ((w64 (Int.tdiv (w64 ((w64 (z0.1 + z0.2)) + 1)) 2)) - 1))) else some (.brk (z0.1, z0.2))
def F107 (x0 : Int) : Option (Int × Int) :=
 bif (c107_0 x0) then some (0, 1) else andThen (whileN (F107_l0 x0) 1152921504606846976 (0, 1000000000)) (fun _ => none) fun z0 => some (z0.1, 0)
def F47 (x0 : api_Thruster) (x1 : Int) : Option Int :=
 (F106 x0 (⟨x0.Max, 0⟩ : api_Thrust)).bind fun y1 => bif ((y1.2 != 0) || (decide (x1 < 0))) then some 0 else bif decide (x1 >= y1.1) then some x0.Max else (nzI x0.Cost).bind fun u6 => (F107 (w64 (Int.tdiv (w64 (1000 * x1)) x0.Cost))).bind fun y7 => some y7.1
def F15_l0 (x1 : api_Board) (x2 : api_Power) (n0 : Nat) (a0 : api_Thruster) (z0 : (List Int)) : Option (Ctl ((List Int)) Unit) :=
 (F44s1 x1.Consumers (cnt 0 n0)).bind fun y9 => (guardO [(decide (y9.1 >= 0), true)] (F46 x1 x2 y9.1) default).bind fun y11 => bif ((decide (y9.1 >= 0)) && y11) then (getI x2.Limits y9.1).bind fun y14 => (F47 a0 y14).bind fun y16 => (getI z0 y9.2).bind fun y18 => (setI z0 y9.2 y16).bind fun y20 => some (.next y20) else some (.next z0)
def F15 (x0 : api_Ship) (x1 : api_Board) (x2 : api_Power) : Option ((List Int) × Int) :=
 (F42 x0).bind fun y1 => bif (y1 != 0) then some (([] : List Int), y1) else (F43 x1 x2).bind fun y4 => bif (y4 != 0) then some (([] : List Int), y4) else (mkI 9 (x0.Thrusters.length : Int) 0).bind fun y7 => andThen (fI (F15_l0 x1 x2) x0.Thrusters 0 y7) (fun _ => none) fun z0 => some (z0, 0)
def F28 (x0 : api_Board) (x1 : api_Power) (x2 : Int) : Option Bool :=
 (F54 x0 x1 x2).bind fun y1 => some (y1.2 && (decide ((y1.1.Sources.length : Int) > 0)))
def c49_1 (x1 : Int) (x2 : Int) (a0 : api_Part) : Bool := ((a0.Kind == x1) && (a0.Number == x2))
def F49_l0 (x1 : Int) (x2 : Int) (n0 : Nat) (a0 : api_Part) (z0 : Unit) : Option (Ctl Unit Bool) :=
 bif (c49_1 x1 x2 a0) then some (.ret true) else some (.next ())
def F49 (x0 : api_Power) (x1 : Int) (x2 : Int) : Option Bool :=
 andThen (fI (F49_l0 x1 x2) x0.Broken 0 ()) some fun z0 => some false
def c16_0 (y1 : Int × Bool) (y3 : Bool) (y5 : Bool) (y7 : Int) (y9 : api_Consumer) : Bool := ((((!y1.2) || (!y3)) || y5) || (decide (y7 < y9.Least)))
def F16_l0 (x0 : api_Board) (x1 : api_Power) (rec16 : api_Board -> api_Power -> Int -> Option Bool) (n0 : Nat) (a0 : Int) (z0 : Unit) : Option (Ctl Unit Bool) :=
 (rec16 x0 x1 a0).bind fun y14 => bif !y14 then some (.ret false) else some (.next ())
def F16b (rec16 : api_Board -> api_Power -> Int -> Option Bool) (x0 : api_Board) (x1 : api_Power) (x2 : Int) : Option Bool :=
 (F48 x0 x1 x2).bind fun y1 => (guardO [(!y1.2, false)] (F28 x0 x1 y1.1) default).bind fun y3 => (guardO [(((!y1.2) || (!y3)), false)] (F49 x1 4 x2) default).bind fun y5 => (guardO [((((!y1.2) || (!y3)) || y5), false)] (getI x1.Limits x2) default).bind fun y7 => (guardO [((((!y1.2) || (!y3)) || y5), false)] (getI x0.Consumers x2) default).bind fun y9 => bif (c16_0 y1 y3 y5 y7 y9) then some false else (getI x0.Consumers x2).bind fun y12 => andThen (fI (F16_l0 x0 x1 rec16) y12.Needs 0 ()) some fun z0 => some true
def F16f : Nat -> api_Board -> api_Power -> Int -> Option Bool
 | 0 => fun _ _ _ => none
 | n + 1 => F16b (F16f n)
def F16 (x0 : api_Board) (x1 : api_Power) (x2 : Int) : Option Bool := F16f 1000 x0 x1 x2
def F129 (x0 : Int) : Int :=
 Int.tmod (w64 ((Int.tmod x0 3600) + 3600)) 3600
def F161 (x0 : api_Arc) : Int :=
 F129 (w64 (x0.To - x0.From))
def F108 (x0 : api_Arc) : Bool :=
 (((((decide (x0.From >= 0)) && (decide (x0.From < 3600))) && (decide (x0.To >= 0))) && (decide (x0.To < 3600))) && (decide ((F161 x0) <= 1799)))
def c50_0 (x0 : api_Thruster) : Bool := (((((((((((decide (x0.Kind < 1)) || (decide (x0.Kind > 3))) || (decide (x0.Station < 0))) || (decide (x0.Station > 1))) || (decide (x0.Max < 0))) || (decide (x0.Max > 5000))) || (decide (x0.Rate < 0))) || (decide (x0.Rate > 5000))) || (decide (x0.Cost < 1))) || (decide (x0.Cost > 100))) || (decide ((x0.Forbidden.length : Int) > 4)))
def F50_l0 (n0 : Nat) (a0 : api_Arc) (z0 : Unit) : Option (Ctl Unit Bool) :=
 bif !(F108 a0) then some (.ret false) else some (.next ())
def F50 (x0 : api_Thruster) : Option Bool :=
 bif (c50_0 x0) then some false else andThen (fI F50_l0 x0.Forbidden 0 ()) some fun z0 => some true
def F51 (x0 : api_Thrust) : Bool :=
 ((((decide (x0.X >= (-5000))) && (decide (x0.X <= 5000))) && (decide (x0.Y >= (-5000)))) && (decide (x0.Y <= 5000)))
def F162 (x0 : Int) (x1 : Int) : Bool :=
 ((decide (x0 >= (w64 (0 - x1)))) && (decide (x0 <= x1)))
def F109 (x0 : Int) (x1 : Int) : Bool :=
 (((F162 x0 1000000000000000000) && (decide (x1 >= 1))) && (decide (x1 <= 1000000000)))
def F110 (x0 : Int) (x1 : Int) : Option Int :=
 (nzI x1).bind fun u2 => (nzI x1).bind fun u4 => bif decide ((Int.tmod x0 x1) < 0) then some (w64 ((w64 (Int.tdiv x0 x1)) - 1)) else some (w64 (Int.tdiv x0 x1))
def F52 (x0 : Int) (x1 : Int) : Option (Int × Int) :=
 bif !(F109 x0 x1) then some (0, 1) else (F110 (w64 (0 - x0)) x1).bind fun y2 => some (w64 (0 - y2), 0)
def F17 (x0 : api_Thruster) (x1 : api_Thrust) : Option (Int × Int) :=
 (F50 x0).bind fun y1 => bif ((!y1) || (!(F51 x1))) then some (0, 1) else (F52 (w64 ((w64 ((w64 (x1.X * x1.X)) + (w64 (x1.Y * x1.Y)))) * x0.Cost)) 1000).bind fun y4 => some (y4.1, y4.2)
def F35  : api_Board × api_Table :=
 ((⟨1, [(⟨2, 0, 0⟩ : api_Breaker), (⟨2, 0, 1⟩ : api_Breaker), (⟨3, 0, 0⟩ : api_Breaker)], [(⟨50, 0, 0⟩ : api_Source), (⟨50, 0, 0⟩ : api_Source)], [(⟨80, 10, 0, 0, ([] : List Int)⟩ : api_Consumer)], 50, 0⟩ : api_Board), (⟨100, 1, 5⟩ : api_Table))
def F59 (x0 : api_Table) : Bool :=
 ((((((decide (x0.Stop >= 1)) && (decide (x0.Stop <= 99))) && (decide (x0.Start > x0.Stop))) && (decide (x0.Start <= 100))) && (decide (x0.Delay >= 0))) && (decide (x0.Delay <= 600)))
def F194 (x0 : Int) (x1 : Int) : Int × Int :=
 (IntKind.wrap .u64 ((IntKind.wrap .u64 ((IntKind.wrap .u64 ((shrI .u64 x0 32) * (shrI .u64 x1 32))) + (shrI .u64 (IntKind.wrap .u64 ((IntKind.wrap .u64 ((shrI .u64 x0 32) * (andI .u64 x1 4294967295))) + (shrI .u64 (IntKind.wrap .u64 ((andI .u64 x0 4294967295) * (andI .u64 x1 4294967295))) 32))) 32))) + (shrI .u64 (IntKind.wrap .u64 ((andI .u64 (IntKind.wrap .u64 ((IntKind.wrap .u64 ((shrI .u64 x0 32) * (andI .u64 x1 4294967295))) + (shrI .u64 (IntKind.wrap .u64 ((andI .u64 x0 4294967295) * (andI .u64 x1 4294967295))) 32))) 4294967295) + (IntKind.wrap .u64 ((andI .u64 x0 4294967295) * (shrI .u64 x1 32))))) 32)), IntKind.wrap .u64 (x0 * x1))
def F140 (x0 : Int) (x1 : Int) : Int × Int :=
 ((F194 x0 x1).1, (F194 x0 x1).2)
def F139_m0 (x1 : Int) : Option (Ctl Unit Unit) :=
 bif decide (x1 < 0) then none else some (.next ())
def c139_0 (x0 : List api_Roster) (x1 : Int) : Bool := ((decide (((F140 (IntKind.wrap .u64 (x0.length : Int)) (IntKind.wrap .u64 x1)).1) > 0)) || (decide (((F140 (IntKind.wrap .u64 (x0.length : Int)) (IntKind.wrap .u64 x1)).2) > 9223372036854775807)))
def F139_m1 (x0 : List api_Roster) (x1 : Int) : Option (Ctl Unit Unit) :=
 bif (c139_0 x0 x1) then none else some (.next ())
def c139_2 (x0 : List api_Roster) (y3 : List api_Roster) : Bool := decide (((Nat.min x0.length y3.length) : Int) < ((cpyI y3 0 y3.length x0).length : Int))
def F139_l2 (x0 : List api_Roster) (y3 : List api_Roster) (z2 : Unit) : Option (Ctl Unit Unit) :=
 bif (c139_2 x0 y3) then none else some (.brk ())
def F139 (x0 : List api_Roster) (x1 : Int) : Option ((List api_Roster)) :=
 andThen (F139_m0 x1) (fun _ => none) fun z0 => andThen (F139_m1 x0 x1) (fun _ => none) fun z1 => (mkI 17 (w64 ((F140 (IntKind.wrap .u64 (x0.length : Int)) (IntKind.wrap .u64 x1)).2)) (⟨0, 0⟩ : api_Roster)).bind fun y3 => andThen (whileN (F139_l2 x0 y3) 1152921504606846976 ()) (fun _ => none) fun z2 => some (cpyI y3 0 y3.length x0)
def F86 (x0 : Int) : Option ((List api_Roster)) :=
 (F139 [(⟨(-1), (-1)⟩ : api_Roster)] x0).bind fun y1 => some y1
def F87_m0 (x1 : Int) : Option (Ctl Unit Unit) :=
 bif decide (x1 < 0) then none else some (.next ())
def c87_0 (x0 : List api_Running) (x1 : Int) : Bool := ((decide (((F140 (IntKind.wrap .u64 (x0.length : Int)) (IntKind.wrap .u64 x1)).1) > 0)) || (decide (((F140 (IntKind.wrap .u64 (x0.length : Int)) (IntKind.wrap .u64 x1)).2) > 9223372036854775807)))
def F87_m1 (x0 : List api_Running) (x1 : Int) : Option (Ctl Unit Unit) :=
 bif (c87_0 x0 x1) then none else some (.next ())
def c87_3 (z2 : Int × (List api_Running)) : Bool := decide (z2.1 < (z2.2.length : Int))
def F87_l2 (z2 : Int × (List api_Running)) : Option (Ctl (Int × (List api_Running)) Unit) :=
 bif (c87_3 z2) then (bndI z2.2.length z2.1 (z2.2.length : Int)).bind fun u7 => (bndI z2.2.length 0 z2.1).bind fun u9 => some (.next (w64 (z2.1 + ((Nat.min ((z2.2.drop 0).take ((Int.toNat z2.1) - 0)).length ((Int.toNat (z2.2.length : Int)) - (Int.toNat z2.1))) : Int)), (cpyI z2.2 (Int.toNat z2.1) ((Int.toNat (z2.2.length : Int)) - (Int.toNat z2.1)) ((z2.2.drop 0).take ((Int.toNat z2.1) - 0))))) else some (.brk (z2.1, z2.2))
def F87 (x0 : List api_Running) (x1 : Int) : Option ((List api_Running)) :=
 andThen (F87_m0 x1) (fun _ => none) fun z0 => andThen (F87_m1 x0 x1) (fun _ => none) fun z1 => (mkI 33 (w64 ((F140 (IntKind.wrap .u64 (x0.length : Int)) (IntKind.wrap .u64 x1)).2)) (⟨0, 0, 0, 0⟩ : api_Running)).bind fun y3 => andThen (whileN F87_l2 1152921504606846976 (((Nat.min x0.length y3.length) : Int), (cpyI y3 0 y3.length x0))) (fun _ => none) fun z2 => some z2.2
def F36_l0 (n0 : Nat) (a0 : api_Consumer) (z0 : (List Int)) : Option (Ctl ((List Int)) Unit) :=
 (appI 9 z0 [a0.Load]).bind fun y11 => some (.next y11)
def F36 (x0 : api_Board) (x1 : api_Table) : Option (api_Plant × Int) :=
 (F85 x0).bind fun y1 => bif (y1 != 0) then none else bif !(F59 x1) then none else (F86 x0.Buses).bind fun y5 => (mkI 2 (x0.Breakers.length : Int) false).bind fun y7 => (F87 [(⟨0, 0, 5000, 0⟩ : api_Running)] (x0.Sources.length : Int)).bind fun y9 => andThen (fI F36_l0 x0.Consumers 0 ([] : List Int)) (fun _ => none) fun z0 => some ((⟨0, (⟨y7, y9, z0, ([] : List api_Part)⟩ : api_Power), y5, ([] : List api_Event)⟩ : api_Plant), 0)
def F166 (x0 : List Bool) : Option (List Bool) := appI 2 [] x0
def F167 (x0 : List api_Running) : Option (List api_Running) := appI 33 [] x0
def F168 (x0 : List Int) : Option (List Int) := appI 9 [] x0
def F169 (x0 : List api_Part) : Option (List api_Part) := appI 17 [] x0
def F116 (x0 : api_Power) : Option api_Power :=
 (F166 x0.Closed).bind fun y1 => (F167 x0.Sources).bind fun y3 => (F168 x0.Limits).bind fun y5 => (F169 x0.Broken).bind fun y7 => some (⟨y1, y3, y5, y7⟩ : api_Power)
def F117s0_l0 (x2 : api_Running) (n0 : Nat) (a0 : Int) (z0 : (List api_Running)) : Option (Ctl ((List api_Running)) Unit) :=
 (getI z0 a0).bind fun y1 => (setI z0 a0 (⟨y1.State, y1.Since, x2.Frequency, y1.Phase⟩ : api_Running)).bind fun y3 => (getI y3 a0).bind fun y5 => (setI y3 a0 (⟨y5.State, y5.Since, y5.Frequency, x2.Phase⟩ : api_Running)).bind fun y7 => some (.next y7)
def F117s0 (x0 : api_Power) (x1 : List Int) (x2 : api_Running) : Option ((List api_Running)) :=
 andThen (fI (F117s0_l0 x2) x1 0 x0.Sources) (fun _ => none) fun z0 => some z0
def c57_2 (a0 : api_Island) : Bool := decide ((a0.Sources.length : Int) > 0)
def F57_l0 (x1 : api_Power) (y4 : api_Power) (n0 : Nat) (a0 : api_Island) (z0 : (List api_Running)) : Option (Ctl ((List api_Running)) Unit) :=
 bif (c57_2 a0) then (getI a0.Sources 0).bind fun y9 => (getI x1.Sources y9).bind fun y11 => (F117s0 (⟨y4.Closed, z0, y4.Limits, y4.Broken⟩ : api_Power) a0.Sources y11).bind fun y13 => some (.next y13) else some (.next z0)
def F57 (x0 : api_Board) (x1 : api_Power) : Option (api_Power × Int) :=
 (F43 x0 x1).bind fun y1 => bif (y1 != 0) then none else (F116 x1).bind fun y4 => (F89 x0 x1).bind fun y6 => andThen (fI (F57_l0 x1 y4) y6 0 y4.Sources) (fun _ => none) fun z0 => some ((⟨y4.Closed, z0, y4.Limits, y4.Broken⟩ : api_Power), 0)
def F118_l0 (x1 : List Bool) (n0 : Nat) (a0 : Bool) (z0 : Unit) : Option (Ctl Unit Unit) :=
 (getI x1 (cnt 0 n0)).bind fun y2 => bif !(a0 == y2) then none else some (.next ())
def F118 (x0 : List Bool) (x1 : List Bool) : Option Bool :=
 bif ((x0.length : Int) != (x1.length : Int)) then none else andThen (fI (F118_l0 x1) x0 0 ()) (fun _ => none) fun z0 => some true
def c119_1 (a0 : api_Running) (y2 : api_Running) : Bool := !((a0.State == y2.State) && ((a0.Since == y2.Since) && ((a0.Frequency == y2.Frequency) && ((a0.Phase == y2.Phase) && true))))
def F119_l0 (x1 : List api_Running) (n0 : Nat) (a0 : api_Running) (z0 : Unit) : Option (Ctl Unit Unit) :=
 (getI x1 (cnt 0 n0)).bind fun y2 => bif (c119_1 a0 y2) then none else some (.next ())
def F119 (x0 : List api_Running) (x1 : List api_Running) : Option Bool :=
 bif ((x0.length : Int) != (x1.length : Int)) then none else andThen (fI (F119_l0 x1) x0 0 ()) (fun _ => none) fun z0 => some true
def F120_l0 (x1 : List Int) (n0 : Nat) (a0 : Int) (z0 : Unit) : Option (Ctl Unit Unit) :=
 (getI x1 (cnt 0 n0)).bind fun y2 => bif (a0 != y2) then none else some (.next ())
def F120 (x0 : List Int) (x1 : List Int) : Option Bool :=
 bif ((x0.length : Int) != (x1.length : Int)) then none else andThen (fI (F120_l0 x1) x0 0 ()) (fun _ => none) fun z0 => some true
def c121_1 (a0 : api_Part) (y2 : api_Part) : Bool := !((a0.Kind == y2.Kind) && ((a0.Number == y2.Number) && true))
def F121_l0 (x1 : List api_Part) (n0 : Nat) (a0 : api_Part) (z0 : Unit) : Option (Ctl Unit Unit) :=
 (getI x1 (cnt 0 n0)).bind fun y2 => bif (c121_1 a0 y2) then none else some (.next ())
def F121 (x0 : List api_Part) (x1 : List api_Part) : Option Bool :=
 bif ((x0.length : Int) != (x1.length : Int)) then none else andThen (fI (F121_l0 x1) x0 0 ()) (fun _ => none) fun z0 => some true
def F60 (x0 : api_Power) (x1 : api_Power) : Option Bool :=
 (F118 x0.Closed x1.Closed).bind fun y1 => (guardO [(y1, true)] (F119 x0.Sources x1.Sources) default).bind fun y3 => (guardO [((y1 && y3), true)] (F120 x0.Limits x1.Limits) default).bind fun y5 => (guardO [(((y1 && y3) && y5), true)] (F121 x0.Broken x1.Broken) default).bind fun y7 => some (((y1 && y3) && y5) && y7)
def F58s0 (x0 : Int) (x1 : api_Plant) : Bool :=
 ((decide (x0 >= (-1))) && (decide (x0 <= x1.Time)))
def F62s0 (x0 : api_Roster) (x1c0 : api_Plant) : Bool × api_Plant :=
 (((!(F58s0 x0.High x1c0)) || (!(F58s0 x0.Low x1c0))), x1c0)
def c122s0_1 (z0 : Sg0) (a0 : api_Roster) : Bool := (F62s0 a0 (⟨z0.1, (⟨z0.2.1, z0.2.2.1, z0.2.2.2.1, z0.2.2.2.2.1⟩ : api_Power), z0.2.2.2.2.2.1, z0.2.2.2.2.2.2⟩ : api_Plant)).1
def F122s0_l0 (n0 : Nat) (a0 : api_Roster) (z0 : Sg0) : Option (Ctl (Sg0) Unit) :=
 bif (c122s0_1 z0 a0) then none else some (.next (((F62s0 a0 (⟨z0.1, (⟨z0.2.1, z0.2.2.1, z0.2.2.2.1, z0.2.2.2.2.1⟩ : api_Power), z0.2.2.2.2.2.1, z0.2.2.2.2.2.2⟩ : api_Plant)).2).Time, (((F62s0 a0 (⟨z0.1, (⟨z0.2.1, z0.2.2.1, z0.2.2.2.1, z0.2.2.2.2.1⟩ : api_Power), z0.2.2.2.2.2.1, z0.2.2.2.2.2.2⟩ : api_Plant)).2).Power).Closed, (((F62s0 a0 (⟨z0.1, (⟨z0.2.1, z0.2.2.1, z0.2.2.2.1, z0.2.2.2.2.1⟩ : api_Power), z0.2.2.2.2.2.1, z0.2.2.2.2.2.2⟩ : api_Plant)).2).Power).Sources, (((F62s0 a0 (⟨z0.1, (⟨z0.2.1, z0.2.2.1, z0.2.2.2.1, z0.2.2.2.2.1⟩ : api_Power), z0.2.2.2.2.2.1, z0.2.2.2.2.2.2⟩ : api_Plant)).2).Power).Limits, (((F62s0 a0 (⟨z0.1, (⟨z0.2.1, z0.2.2.1, z0.2.2.2.1, z0.2.2.2.2.1⟩ : api_Power), z0.2.2.2.2.2.1, z0.2.2.2.2.2.2⟩ : api_Plant)).2).Power).Broken, ((F62s0 a0 (⟨z0.1, (⟨z0.2.1, z0.2.2.1, z0.2.2.2.1, z0.2.2.2.2.1⟩ : api_Power), z0.2.2.2.2.2.1, z0.2.2.2.2.2.2⟩ : api_Plant)).2).Rosters, ((F62s0 a0 (⟨z0.1, (⟨z0.2.1, z0.2.2.1, z0.2.2.2.1, z0.2.2.2.2.1⟩ : api_Power), z0.2.2.2.2.2.1, z0.2.2.2.2.2.2⟩ : api_Plant)).2).Events))
def F122s0 (x0 : List api_Roster) (x1c0c0 : api_Plant) : Option (Int × api_Plant) :=
 andThen (fI F122s0_l0 x0 0 (x1c0c0.Time, x1c0c0.Power.Closed, x1c0c0.Power.Sources, x1c0c0.Power.Limits, x1c0c0.Power.Broken, x1c0c0.Rosters, x1c0c0.Events)) (fun _ => none) fun z0 => some ((-1), (⟨z0.1, (⟨z0.2.1, z0.2.2.1, z0.2.2.2.1, z0.2.2.2.2.1⟩ : api_Power), z0.2.2.2.2.2.1, z0.2.2.2.2.2.2⟩ : api_Plant))
def F61s0 (x0 : List api_Roster) (x1c0c0 : api_Plant) : Option (Bool × api_Plant) :=
 (F122s0 x0 x1c0c0).bind fun y1 => some (decide (y1.1 >= 0), y1.2)
def c21_0 (x1 : api_Table) (x2 : api_Plant) : Bool := (((!(F59 x1)) || (decide (x2.Time < 0))) || (decide (x2.Time > 2147483648)))
def F21 (x0 : api_Board) (x1 : api_Table) (x2 : api_Plant) : Option Int :=
 (F57 x0 x2.Power).bind fun y1 => bif (y1.2 != 0) then none else bif (c21_0 x1 x2) then none else bif ((x2.Rosters.length : Int) != x0.Buses) then none else (F60 x2.Power y1.1).bind fun y6 => (guardO [(!y6, false)] (F61s0 x2.Rosters x2) (default, x2)).bind fun y8 => bif ((!y6) || y8.1) then none else some 0
def F123 (x0 : List api_Roster) : Option (List api_Roster) := appI 17 [] x0
def F84 (x0 : List api_Event) : Option (List api_Event) := appI 41 [] x0
def F63 (x0 : api_Board) (x1 : api_Plant) : Option plant_runner :=
 (F116 x1.Power).bind fun y1 => (F123 x1.Rosters).bind fun y3 => (F84 x1.Events).bind fun y5 => some (⟨(⟨x1.Time, y1, y3, y5⟩ : api_Plant), x0, ([] : List api_Event), ([] : List api_Power)⟩ : plant_runner)
def F81s1 (x0 : plant_runner) (x1 : api_Power) : Option plant_runner :=
 (F116 x1).bind fun y3 => (appI 97 x0.states [y3]).bind fun y5 => some (⟨x0.Plant, x0.board, x0.events, y5⟩ : plant_runner)
def F181 (x0 : api_Board) (x1 : Int) (x2 : Int) : Option Bool :=
 bif (x1 == 1) then some ((decide (x2 >= 0)) && (decide (x2 < (x0.Sources.length : Int)))) else bif (x1 == 2) then some ((decide (x2 >= 0)) && (decide (x2 < (x0.Breakers.length : Int)))) else none
def F134_m0 (x1 : api_Act) : Option (Ctl Bool Unit) :=
 bif (x1.Kind == 1) then some (.next (x1.Kind == 1)) else some (.next (x1.Kind == 2))
def F134_m1 (x1 : api_Act) : Option (Ctl Bool Unit) :=
 bif (x1.Kind == 3) then some (.next (x1.Kind == 3)) else some (.next (x1.Kind == 4))
def F134 (x0 : api_Board) (x1 : api_Act) : Option Bool :=
 andThen (F134_m0 x1) (fun _ => none) fun z0 => bif z0 then (F181 x0 2 x1.Unit).bind fun y3 => some y3 else andThen (F134_m1 x1) (fun _ => none) fun z1 => bif z1 then (F181 x0 1 x1.Unit).bind fun y7 => some y7 else bif (x1.Kind == 5) then none else bif (x1.Kind == 6) then none else bif (x1.Kind == 8) then (F181 x0 x1.Value x1.Unit).bind fun y12 => some y12 else bif (x1.Kind == 9) then (F181 x0 x1.Value x1.Unit).bind fun y15 => some y15 else some true
def F237 (x0 : api_Board) (x1 : api_Power) (x2 : Int) : Option Bool :=
 (getI x0.Breakers x2).bind fun y1 => (getI x1.Closed x2).bind fun y3 => (guardO [(y3, false)] (F103 x1 2 x2) default).bind fun y5 => (guardO [((y3 || y5), false)] (F103 x1 3 y1.A) default).bind fun y7 => bif ((y3 || y5) || y7) then none else bif (y1.Kind == 1) then none else bif (y1.Kind == 2) then (F103 x1 1 y1.B).bind fun y12 => (guardO [(!y12, true)] (getI x1.Sources y1.B) default).bind fun y14 => some ((!y12) && (y14.State == 2)) else (F101 x0 x1 y1.B).bind fun y16 => (F103 x1 4 y1.B).bind fun y18 => some ((!y18) && (!y16.2))
def F216 (x0 : api_Board) (x1 : api_Power) (x2 : Int) : Option (Int × Bool) :=
 (F156 x0 x1 x2).bind fun y1 => bif ((y1.1.Sources.length : Int) == 0) then some (0, false) else (getI y1.1.Sources 0).bind fun y4 => some (y4, true)
def c248_0 (x0 : Int) (x1 : Int) : Bool := decide ((F229 (w64 ((F229 x1) - (F229 x0)))) > 1800)
def F248 (x0 : Int) (x1 : Int) : Option Int :=
 bif (c248_0 x0 x1) then none else some (F229 (w64 ((F229 x1) - (F229 x0))))
def c243_0 (x1 : api_Running) (x2 : api_Running) : Bool := ((decide ((min x1.Frequency x2.Frequency) < 0)) || (decide ((max x1.Frequency x2.Frequency) > 6000)))
def F243 (x0 : api_Board) (x1 : api_Running) (x2 : api_Running) : Option Bool :=
 bif (c243_0 x1 x2) then none else (F248 x1.Phase x2.Phase).bind fun y2 => some ((decide ((max (w64 (x1.Frequency - x2.Frequency)) (w64 (x2.Frequency - x1.Frequency))) <= x0.Frequency)) && (decide ((max y2 (w64 (0 - y2))) <= x0.Phase)))
def F238 (x0 : api_Board) (x1 : api_Power) (x2 : api_Breaker) : Option Bool :=
 (F216 x0 x1 x2.A).bind fun y1 => bif !y1.2 then some true else bif (x2.Kind == 1) then none else bif (x2.Kind == 2) then (getI x1.Sources y1.1).bind fun y6 => (getI x1.Sources x2.B).bind fun y8 => (F243 x0 y6 y8).bind fun y10 => some y10 else some true
def c220_0 (x0 : api_Board) (x2 : Int) : Bool := ((decide (x2 < 0)) || (decide (x2 >= (x0.Breakers.length : Int))))
def F220 (x0 : api_Board) (x1 : api_Power) (x2 : Int) : Option Int :=
 (F43 x0 x1).bind fun y1 => bif (y1 != 0) then none else bif (c220_0 x0 x2) then none else (F237 x0 x1 x2).bind fun y5 => bif !y5 then none else (getI x0.Breakers x2).bind fun y8 => (F156 x0 x1 y8.A).bind fun y10 => (guardO [((y8.Kind == 1), true)] (F190 y10.1.Buses y8.B) default).bind fun y12 => (guardO [(!((y8.Kind == 1) && y12), true)] (F238 x0 x1 y8) default).bind fun y14 => bif ((!((y8.Kind == 1) && y12)) && (!y14)) then none else some 0
def F182 (x0 : api_Board) (x1 : api_Power) (x2 : Int) : Option (api_Power × Int) :=
 (F220 x0 x1 x2).bind fun y1 => bif (y1 != 0) then none else (F116 x1).bind fun y4 => (getI y4.Closed x2).bind fun y6 => (setI y4.Closed x2 true).bind fun y8 => (F57 x0 (⟨y8, y4.Sources, y4.Limits, y4.Broken⟩ : api_Power)).bind fun y10 => some (y10.1, y10.2)
def F244s0 (x0 : api_Breaker) (x1 : Int) : Bool :=
 ((x0.Kind == 2) && (x0.B == x1))
def F218s1_l0 (x1c0 : Int) (n0 : Nat) (a0 : api_Breaker) (z0 : Unit) : Option (Ctl Unit (Int × Int)) :=
 bif F244s0 a0 x1c0 then some (.ret (cnt 0 n0, x1c0)) else some (.next ())
def F218s1 (x0 : List api_Breaker) (x1c0 : Int) : Option (Int × Int) :=
 andThen (fI (F218s1_l0 x1c0) x0 0 ()) some fun z0 => some ((-1), x1c0)
def F239 (x0 : api_Board) (x1 : Int) : Option Int :=
 (F218s1 x0.Breakers x1).bind fun y1 => some y1.1
def F221s0 (x0 : restore_worker) (x1 : Int) : Option Bool :=
 (F239 x0.board x1).bind fun y1 => (getI x0.power.Closed y1).bind fun y3 => some (!y3)
def F185s1 (x0 : restore_worker) (x1 : Int) : Option (Int × restore_worker) :=
 (getI x0.power.Sources x1).bind fun y1 => (guardO [((y1.State != 0), false)] (F103 x0.power 1 x1) default).bind fun y3 => bif ((y1.State != 0) || y3) then none else (getI x0.board.Sources x1).bind fun y6 => (guardO [((y6.Start == 0), true)] (F221s0 x0 x1) default).bind fun y8 => bif ((y6.Start == 0) && y8) then (setI x0.power.Sources x1 (⟨2, x0.time, 5000, 0⟩ : api_Running)).bind fun y11 => some (0, (⟨x0.board, (⟨x0.power.Closed, y11, x0.power.Limits, x0.power.Broken⟩ : api_Power), x0.time⟩ : restore_worker)) else none
def F222_l0 (n0 : Nat) (a0 : api_Running) (z0 : (List api_Running)) : Option (Ctl ((List api_Running)) Unit) :=
 bif (a0.State == 2) then (getI z0 (cnt 0 n0)).bind fun y7 => (setI z0 (cnt 0 n0) (⟨y7.State, y7.Since, y7.Frequency, F229 (w64 (a0.Phase + (w64 (36 * (w64 (a0.Frequency - 5000))))))⟩ : api_Running)).bind fun y9 => some (.next y9) else some (.next z0)
def F222 (x0 : api_Board) (x1 : api_Power) : Option (api_Power × Int) :=
 (F43 x0 x1).bind fun y1 => bif (y1 != 0) then none else (F116 x1).bind fun y4 => andThen (fI F222_l0 x1.Sources 0 y4.Sources) (fun _ => none) fun z0 => some ((⟨y4.Closed, z0, y4.Limits, y4.Broken⟩ : api_Power), 0)
def c188s1_3 (y1 : api_Power × Int) (z0 : Int) : Bool := decide (z0 < (y1.1.Sources.length : Int))
def c188s1_4 (x0 : restore_worker) (y4 : api_Running) (y6 : Bool) (y8 : api_Source) : Bool := (((y4.State == 1) && y6) && (decide ((w64 (y4.Since + y8.Start)) <= (w64 (x0.time + 1)))))
def F188s1_l0 (x0 : restore_worker) (y1 : api_Power × Int) (z0 : Int) : Option (Ctl Int Unit) :=
 bif (c188s1_3 y1 z0) then (getI y1.1.Sources z0).bind fun y4 => (guardO [((y4.State == 1), true)] (F221s0 (⟨x0.board, y1.1, x0.time⟩ : restore_worker) z0) default).bind fun y6 => (guardO [(((y4.State == 1) && y6), true)] (getI x0.board.Sources z0) default).bind fun y8 => bif (c188s1_4 x0 y4 y6 y8) then none else some (.next (w64 (z0 + 1))) else some (.brk z0)
def F188s1 (x0 : restore_worker) : Option restore_worker :=
 (F222 x0.board x0.power).bind fun y1 => andThen (whileN (F188s1_l0 x0 y1) 1152921504606846976 0) (fun _ => none) fun z0 => some (⟨x0.board, y1.1, x0.time⟩ : restore_worker)
def F224 (x0 : api_Part) (x1 : api_Part) : Int :=
 bif (x0.Kind != x1.Kind) then w64 (x0.Kind - x1.Kind) else w64 (x0.Number - x1.Number)
def F223s0_l0 (x0 : List api_Part) (z0 : Unit) : Option (Ctl Unit Unit) :=
 bif decide (0 < (x0.length : Int)) then none else some (.brk ())
def F223s0 (x0 : List api_Part) (x1 : api_Part) : Option (Int × Bool) :=
 andThen (whileN (F223s0_l0 x0) 1152921504606846976 ()) (fun _ => none) fun z0 => (guardO [(decide (0 < (x0.length : Int)), true)] (getI x0 0) default).bind fun y2 => some (0, ((decide (0 < (x0.length : Int))) && ((F224 y2 x1) == 0)))
def F225s0 (x0 : List api_Part) (x1 : Int) (x2 : List api_Part) : Option ((List api_Part)) :=
 (bndI x0.length x1 (x0.length : Int)).bind fun u2 => bif ((x2.length : Int) == 0) then none else bif (x1 == (x0.length : Int)) then (appI 17 x0 x2).bind fun y5 => some y5 else none
def c189s1_0 (x0 : restore_worker) (x2 : Bool) : Bool := (x2 && (decide ((x0.power.Broken.length : Int) >= 32)))
def F189s1_m0 (x0 : restore_worker) (x1 : api_Part) (x2 : Bool) (y1 : Int × Bool) : Option (Ctl ((List api_Part)) Unit) :=
 bif x2 then (F225s0 x0.power.Broken y1.1 [x1]).bind fun y6 => some (.next y6) else none
def F189s1 (x0 : restore_worker) (x1 : api_Part) (x2 : Bool) : Option (Int × restore_worker) :=
 (F223s0 x0.power.Broken x1).bind fun y1 => bif (y1.2 == x2) then none else bif (c189s1_0 x0 x2) then none else andThen (F189s1_m0 x0 x1 x2 y1) (fun _ => none) fun z0 => bif (x1.Kind == 1) then (getI x0.power.Sources x1.Number).bind fun y9 => (setI x0.power.Sources x1.Number (⟨0, y9.Since, y9.Frequency, y9.Phase⟩ : api_Running)).bind fun y11 => bif x2 then (getI y11 x1.Number).bind fun y14 => (setI y11 x1.Number (⟨3, y14.Since, y14.Frequency, y14.Phase⟩ : api_Running)).bind fun y16 => some (0, (⟨x0.board, (⟨x0.power.Closed, y16, x0.power.Limits, z0⟩ : api_Power), x0.time⟩ : restore_worker)) else none else none
def F135s1 (x0 : restore_worker) (x1 : api_Act) : Option (Int × restore_worker) :=
 bif (x1.Kind == 1) then (F182 x0.board x0.power x1.Unit).bind fun y2 => some (y2.2, (⟨x0.board, y2.1, x0.time⟩ : restore_worker)) else bif (x1.Kind == 2) then none else bif (x1.Kind == 6) then none else bif (x1.Kind == 3) then (F185s1 x0 x1.Unit).bind fun y7 => some (y7.1, y7.2) else bif (x1.Kind == 4) then none else bif (x1.Kind == 5) then none else bif (x1.Kind == 7) then (F188s1 x0).bind fun y12 => some (0, y12) else (F189s1 x0 (⟨x1.Value, x1.Unit⟩ : api_Part) (x1.Kind == 8)).bind fun y14 => some (y14.1, y14.2)
def c83_0 (x2 : Int) (x3 : api_Act) : Bool := ((((decide (x2 < 0)) || (decide (x2 > 2147483648))) || (decide (x3.Kind < 1))) || (decide (x3.Kind > 9)))
def F83 (x0 : api_Board) (x1 : api_Power) (x2 : Int) (x3 : api_Act) : Option (api_Power × Int) :=
 (F43 x0 x1).bind fun y1 => bif (y1 != 0) then none else bif (c83_0 x2 x3) then none else (F134 x0 x3).bind fun y5 => bif !y5 then none else (F116 x1).bind fun y8 => (F135s1 (⟨x0, y8, x2⟩ : restore_worker) x3).bind fun y10 => bif (y10.1 != 0) then none else some (y10.2.power, 0)
def F124s1 (x0 : plant_runner) (x1 : api_Act) (x2 : Int) : Option plant_runner :=
 (appI 41 x0.events [(⟨x0.Plant.Time, x1, x2⟩ : api_Event)]).bind fun y1 => some (⟨x0.Plant, x0.board, y1, x0.states⟩ : plant_runner)
def F81s2 (x0 : plant_runner) (x1 : api_Power) : Option plant_runner :=
 (F116 x1).bind fun y3 => (appI 97 x0.states [y3]).bind fun y5 => some (⟨x0.Plant, x0.board, x0.events, y5⟩ : plant_runner)
def F231s0 (x0 : Int) (x1 : Int) (x2 : shed_relief) : Option (Bool × shed_relief) :=
 (F103 x2.power x0 x1).bind fun y1 => some (y1, x2)
def F205s1 (x0 : shed_relief) (x1 : api_Breaker) : Option (Bool × shed_relief) :=
 (F231s0 3 x1.A x0).bind fun y1 => bif y1.1 then none else bif (x1.Kind == 1) then none else bif (x1.Kind == 2) then (F231s0 1 x1.B y1.2).bind fun y6 => (guardO [(y6.1, false)] (getI y6.2.power.Sources x1.B) default).bind fun y8 => some ((y6.1 || (y8.State != 2)), y6.2) else (F231s0 4 x1.B y1.2).bind fun y10 => some (y10.1, y10.2)
def F230s1 (x0 : shed_relief) (x1 : Int) : Option shed_relief :=
 (getI x0.power.Closed x1).bind fun y1 => (setI x0.power.Closed x1 false).bind fun y3 => (appI 25 x0.acts [(⟨2, x1, 0⟩ : api_Act)]).bind fun y5 => some (⟨x0.board, (⟨y3, x0.power.Sources, x0.power.Limits, x0.power.Broken⟩ : api_Power), y5⟩ : shed_relief)
def F204s1_l0 (n0 : Nat) (a0 : api_Breaker) (z0 : Sg8) : Option (Ctl (Sg8) Unit) :=
 (getI z0.2.2.2.2.2.2.2.1 (cnt 0 n0)).bind fun y1 => (guardO [(y1, true)] (F205s1 (⟨(⟨z0.1, z0.2.1, z0.2.2.1, z0.2.2.2.1, z0.2.2.2.2.1, z0.2.2.2.2.2.1⟩ : api_Board), (⟨z0.2.2.2.2.2.2.2.1, z0.2.2.2.2.2.2.2.2.1, z0.2.2.2.2.2.2.2.2.2.1, z0.2.2.2.2.2.2.2.2.2.2.1⟩ : api_Power), z0.2.2.2.2.2.2.2.2.2.2.2⟩ : shed_relief) a0) (default, (⟨(⟨z0.1, z0.2.1, z0.2.2.1, z0.2.2.2.1, z0.2.2.2.2.1, z0.2.2.2.2.2.1⟩ : api_Board), (⟨z0.2.2.2.2.2.2.2.1, z0.2.2.2.2.2.2.2.2.1, z0.2.2.2.2.2.2.2.2.2.1, z0.2.2.2.2.2.2.2.2.2.2.1⟩ : api_Power), z0.2.2.2.2.2.2.2.2.2.2.2⟩ : shed_relief))).bind fun y3 => bif (y1 && y3.1) then (appI 9 z0.2.2.2.2.2.2.1 [cnt 0 n0]).bind fun y6 => some (.next (y3.2.board.Buses, y3.2.board.Breakers, y3.2.board.Sources, y3.2.board.Consumers, y3.2.board.Phase, y3.2.board.Frequency, y6, y3.2.power.Closed, y3.2.power.Sources, y3.2.power.Limits, y3.2.power.Broken, y3.2.acts)) else some (.next (y3.2.board.Buses, y3.2.board.Breakers, y3.2.board.Sources, y3.2.board.Consumers, y3.2.board.Phase, y3.2.board.Frequency, z0.2.2.2.2.2.2.1, y3.2.power.Closed, y3.2.power.Sources, y3.2.power.Limits, y3.2.power.Broken, y3.2.acts))
def F204s1_l1 (n1 : Nat) (a1 : Int) (z1 : Sg7) : Option (Ctl (Sg7) Unit) :=
 (F230s1 (⟨(⟨z1.1, z1.2.1, z1.2.2.1, z1.2.2.2.1, z1.2.2.2.2.1, z1.2.2.2.2.2.1⟩ : api_Board), (⟨z1.2.2.2.2.2.2.1, z1.2.2.2.2.2.2.2.1, z1.2.2.2.2.2.2.2.2.1, z1.2.2.2.2.2.2.2.2.2.1⟩ : api_Power), z1.2.2.2.2.2.2.2.2.2.2⟩ : shed_relief) a1).bind fun y8 => some (.next (y8.board.Buses, y8.board.Breakers, y8.board.Sources, y8.board.Consumers, y8.board.Phase, y8.board.Frequency, y8.power.Closed, y8.power.Sources, y8.power.Limits, y8.power.Broken, y8.acts))
def F204s1 (x0 : shed_relief) : Option shed_relief :=
 andThen (fI F204s1_l0 x0.board.Breakers 0 (x0.board.Buses, x0.board.Breakers, x0.board.Sources, x0.board.Consumers, x0.board.Phase, x0.board.Frequency, ([] : List Int), x0.power.Closed, x0.power.Sources, x0.power.Limits, x0.power.Broken, x0.acts)) (fun _ => none) fun z0 => andThen (fI F204s1_l1 z0.2.2.2.2.2.2.1 0 (z0.1, z0.2.1, z0.2.2.1, z0.2.2.2.1, z0.2.2.2.2.1, z0.2.2.2.2.2.1, z0.2.2.2.2.2.2.2.1, z0.2.2.2.2.2.2.2.2.1, z0.2.2.2.2.2.2.2.2.2.1, z0.2.2.2.2.2.2.2.2.2.2.1, z0.2.2.2.2.2.2.2.2.2.2.2)) (fun _ => none) fun z1 => some (⟨(⟨z1.1, z1.2.1, z1.2.2.1, z1.2.2.2.1, z1.2.2.2.2.1, z1.2.2.2.2.2.1⟩ : api_Board), (⟨z1.2.2.2.2.2.2.1, z1.2.2.2.2.2.2.2.1, z1.2.2.2.2.2.2.2.2.1, z1.2.2.2.2.2.2.2.2.2.1⟩ : api_Power), z1.2.2.2.2.2.2.2.2.2.2⟩ : shed_relief)
def F206s0 (x0 : api_Breaker) (x1 : shed_relief) : Option (Bool × shed_relief) :=
 (guardO [((x0.Kind == 3), true)] (F102 x1.board x1.power x0.A) default).bind fun y1 => some (((x0.Kind == 3) && (!y1)), x1)
def F204s2_l0 (n0 : Nat) (a0 : api_Breaker) (z0 : Sg8) : Option (Ctl (Sg8) Unit) :=
 (getI z0.2.2.2.2.2.2.2.1 (cnt 0 n0)).bind fun y1 => (guardO [(y1, true)] (F206s0 a0 (⟨(⟨z0.1, z0.2.1, z0.2.2.1, z0.2.2.2.1, z0.2.2.2.2.1, z0.2.2.2.2.2.1⟩ : api_Board), (⟨z0.2.2.2.2.2.2.2.1, z0.2.2.2.2.2.2.2.2.1, z0.2.2.2.2.2.2.2.2.2.1, z0.2.2.2.2.2.2.2.2.2.2.1⟩ : api_Power), z0.2.2.2.2.2.2.2.2.2.2.2⟩ : shed_relief)) (default, (⟨(⟨z0.1, z0.2.1, z0.2.2.1, z0.2.2.2.1, z0.2.2.2.2.1, z0.2.2.2.2.2.1⟩ : api_Board), (⟨z0.2.2.2.2.2.2.2.1, z0.2.2.2.2.2.2.2.2.1, z0.2.2.2.2.2.2.2.2.2.1, z0.2.2.2.2.2.2.2.2.2.2.1⟩ : api_Power), z0.2.2.2.2.2.2.2.2.2.2.2⟩ : shed_relief))).bind fun y3 => bif (y1 && y3.1) then (appI 9 z0.2.2.2.2.2.2.1 [cnt 0 n0]).bind fun y6 => some (.next (y3.2.board.Buses, y3.2.board.Breakers, y3.2.board.Sources, y3.2.board.Consumers, y3.2.board.Phase, y3.2.board.Frequency, y6, y3.2.power.Closed, y3.2.power.Sources, y3.2.power.Limits, y3.2.power.Broken, y3.2.acts)) else some (.next (y3.2.board.Buses, y3.2.board.Breakers, y3.2.board.Sources, y3.2.board.Consumers, y3.2.board.Phase, y3.2.board.Frequency, z0.2.2.2.2.2.2.1, y3.2.power.Closed, y3.2.power.Sources, y3.2.power.Limits, y3.2.power.Broken, y3.2.acts))
def F204s2_l1 (n1 : Nat) (a1 : Int) (z1 : Sg7) : Option (Ctl (Sg7) Unit) :=
 (F230s1 (⟨(⟨z1.1, z1.2.1, z1.2.2.1, z1.2.2.2.1, z1.2.2.2.2.1, z1.2.2.2.2.2.1⟩ : api_Board), (⟨z1.2.2.2.2.2.2.1, z1.2.2.2.2.2.2.2.1, z1.2.2.2.2.2.2.2.2.1, z1.2.2.2.2.2.2.2.2.2.1⟩ : api_Power), z1.2.2.2.2.2.2.2.2.2.2⟩ : shed_relief) a1).bind fun y8 => some (.next (y8.board.Buses, y8.board.Breakers, y8.board.Sources, y8.board.Consumers, y8.board.Phase, y8.board.Frequency, y8.power.Closed, y8.power.Sources, y8.power.Limits, y8.power.Broken, y8.acts))
def F204s2 (x0 : shed_relief) : Option shed_relief :=
 andThen (fI F204s2_l0 x0.board.Breakers 0 (x0.board.Buses, x0.board.Breakers, x0.board.Sources, x0.board.Consumers, x0.board.Phase, x0.board.Frequency, ([] : List Int), x0.power.Closed, x0.power.Sources, x0.power.Limits, x0.power.Broken, x0.acts)) (fun _ => none) fun z0 => andThen (fI F204s2_l1 z0.2.2.2.2.2.2.1 0 (z0.1, z0.2.1, z0.2.2.1, z0.2.2.2.1, z0.2.2.2.2.1, z0.2.2.2.2.2.1, z0.2.2.2.2.2.2.2.1, z0.2.2.2.2.2.2.2.2.1, z0.2.2.2.2.2.2.2.2.2.1, z0.2.2.2.2.2.2.2.2.2.2.1, z0.2.2.2.2.2.2.2.2.2.2.2)) (fun _ => none) fun z1 => some (⟨(⟨z1.1, z1.2.1, z1.2.2.1, z1.2.2.2.1, z1.2.2.2.2.1, z1.2.2.2.2.2.1⟩ : api_Board), (⟨z1.2.2.2.2.2.2.1, z1.2.2.2.2.2.2.2.1, z1.2.2.2.2.2.2.2.2.1, z1.2.2.2.2.2.2.2.2.2.1⟩ : api_Power), z1.2.2.2.2.2.2.2.2.2.2⟩ : shed_relief)
def F172s1 (x0 : shed_relief) : Option shed_relief :=
 (F204s1 x0).bind fun y1 => (F204s2 y1).bind fun y3 => (F57 y3.board y3.power).bind fun y5 => some (⟨y3.board, y5.1, y3.acts⟩ : shed_relief)
def F246s0_l0 (x1 : Int) (x2 : Int) (z0 : Unit) : Option (Ctl Unit Unit) :=
 bif decide ((w64 (x1 + 1)) < x2) then none else some (.brk ())
def F246s0 (x0 : List Int) (x1 : Int) (x2 : Int) (x3c0 : api_Board) : Option Unit :=
 andThen (whileN (F246s0_l0 x1 x2) 1152921504606846976 ()) (fun _ => none) fun z0 => some ()
def F242s1_l0 (x1 : Int) (z0 : Unit) : Option (Ctl Unit Unit) :=
 bif decide (20 <= x1) then none else some (.brk ())
def F242s1_l1 (x1 : Int) (z1 : Unit) : Option (Ctl Unit Unit) :=
 bif decide (20 < x1) then none else some (.brk ())
def F242s1 (x0 : List Int) (x1 : Int) (x2c0 : api_Board) : Option api_Board :=
 andThen (whileN (F242s1_l0 x1) 1152921504606846976 ()) (fun _ => none) fun z0 => (F246s0 x0 0 x1 x2c0).bind fun y2 => andThen (whileN (F242s1_l1 x1) 1152921504606846976 ()) (fun _ => none) fun z1 => some x2c0
def F232s1 (x0 : List Int) (x1c0 : api_Board) : Option api_Board :=
 (F242s1 x0 (x0.length : Int) x1c0).bind fun y1 => some y1
def c207_1 (x0 : api_Board) (z0 : Int × (List Int)) : Bool := decide (z0.1 < (x0.Consumers.length : Int))
def F207_l0 (x0 : api_Board) (z0 : Int × (List Int)) : Option (Ctl (Int × (List Int)) Unit) :=
 bif (c207_1 x0 z0) then (appI 9 z0.2 [z0.1]).bind fun y5 => some (.next (w64 (z0.1 + 1), y5)) else some (.brk (z0.1, z0.2))
def F207 (x0 : api_Board) : Option ((List Int)) :=
 (F85 x0).bind fun y1 => bif (y1 != 0) then none else andThen (whileN (F207_l0 x0) 1152921504606846976 (0, ([] : List Int))) (fun _ => none) fun z0 => (F232s1 z0.2 x0).bind fun y7 => some z0.2
def F209s0 (x0 : Int) (x1 : api_Island) : Option Bool :=
 (F190 x1.Consumers x0).bind fun y1 => some (!y1)
def F158s3_l0 (x1c0 : api_Island) (n0 : Nat) (a0 : Int) (z0 : Unit) : Option (Ctl Unit (Int × api_Island)) :=
 (F209s0 a0 x1c0).bind fun y1 => bif y1 then some (.ret (cnt 0 n0, x1c0)) else some (.next ())
def F158s3 (x0 : List Int) (x1c0 : api_Island) : Option (Int × api_Island) :=
 andThen (fI (F158s3_l0 x1c0) x0 0 ()) some fun z0 => some ((-1), x1c0)
def c208s1_1 (x0 : List Int) (y1 : Int × api_Island) : Bool := decide ((w64 (y1.1 + 1)) < (x0.length : Int))
def F208s1_l0 (x0 : List Int) (y1 : Int × api_Island) (z0 : Unit) : Option (Ctl Unit Unit) :=
 bif (c208s1_1 x0 y1) then none else some (.brk ())
def F208s1 (x0 : List Int) (x1c0 : api_Island) : Option ((List Int) × api_Island) :=
 (F158s3 x0 x1c0).bind fun y1 => bif (y1.1 == (-1)) then some (x0, y1.2) else andThen (whileN (F208s1_l0 x0 y1) 1152921504606846976 ()) (fun _ => none) fun z0 => (bndI x0.length y1.1 (x0.length : Int)).bind fun u6 => (bndI (clrI x0 (Int.toNat y1.1) ((Int.toNat (x0.length : Int)) - (Int.toNat y1.1)) 0).length 0 y1.1).bind fun u8 => some (((clrI x0 (Int.toNat y1.1) ((Int.toNat (x0.length : Int)) - (Int.toNat y1.1)) 0).take ((Int.toNat y1.1) - 0)), y1.2)
def F214_l0 (x1 : api_Power) (y1 : api_Island × Bool) (n0 : Nat) (a0 : Int) (z0 : Int) : Option (Ctl Int Unit) :=
 bif decide ((y1.1.Sources.length : Int) > 0) then (getI x1.Limits a0).bind fun y4 => some (.next (w64 (z0 + y4))) else none
def F214 (x0 : api_Board) (x1 : api_Power) (x2 : Int) : Option Int :=
 (F156 x0 x1 x2).bind fun y1 => andThen (fI (F214_l0 x1 y1) y1.1.Consumers 0 0) (fun _ => none) fun z0 => some z0
def F213_l0 (x0 : api_Board) (n0 : Nat) (a0 : Int) (z0 : Int) : Option (Ctl Int Unit) :=
 (getI x0.Sources a0).bind fun y3 => some (.next (w64 (z0 + y3.Rating)))
def F213 (x0 : api_Board) (x1 : api_Power) (x2 : Int) : Option Int :=
 (F156 x0 x1 x2).bind fun y1 => andThen (fI (F213_l0 x0) y1.1.Sources 0 0) (fun _ => none) fun z0 => some z0
def F234s0 (x0 : shed_relief) (x1 : Int) : Option Int :=
 (F214 x0.board x0.power x1).bind fun y1 => (F213 x0.board x0.power x1).bind fun y3 => some (max 0 (w64 (y1 - y3)))
def F89s0_l0 (n0 : Nat) (a0 : Int) (z0 : (List api_Island)) : Option (Ctl ((List api_Island)) Unit) :=
 (getI z0 a0).bind fun y8 => (appI 9 y8.Buses [cnt 0 n0]).bind fun y10 => (setI z0 a0 (⟨y10, y8.Sources, y8.Consumers⟩ : api_Island)).bind fun y12 => some (.next y12)
def c89s0_1 (x0 : api_Board) (z1 : Int × (List api_Island)) : Bool := decide (z1.1 < (x0.Sources.length : Int))
def F89s0_l1 (x0 : api_Board) (x1 : api_Power) (y4 : (List Int)) (z1 : Int × (List api_Island)) : Option (Ctl (Int × (List api_Island)) Unit) :=
 bif (c89s0_1 x0 z1) then (F143 x0 x1 z1.1).bind fun y15 => bif y15.2 then (getI y4 y15.1).bind fun y18 => (getI z1.2 y18).bind fun y20 => (appI 9 y20.Sources [z1.1]).bind fun y22 => (setI z1.2 y18 (⟨y20.Buses, y22, y20.Consumers⟩ : api_Island)).bind fun y24 => some (.next (w64 (z1.1 + 1), y24)) else some (.next (w64 (z1.1 + 1), z1.2)) else some (.brk (z1.1, z1.2))
def c89s0_3 (x0 : api_Board) (z2 : Int × (List api_Island)) : Bool := decide (z2.1 < (x0.Consumers.length : Int))
def F89s0_l2 (x0 : api_Board) (x1 : api_Power) (y4 : (List Int)) (z2 : Int × (List api_Island)) : Option (Ctl (Int × (List api_Island)) Unit) :=
 bif (c89s0_3 x0 z2) then (F144 x0 x1 z2.1).bind fun y27 => bif y27.2 then (getI y4 y27.1).bind fun y30 => (getI z2.2 y30).bind fun y32 => (appI 9 y32.Consumers [z2.1]).bind fun y34 => (setI z2.2 y30 (⟨y32.Buses, y32.Sources, y34⟩ : api_Island)).bind fun y36 => some (.next (w64 (z2.1 + 1), y36)) else some (.next (w64 (z2.1 + 1), z2.2)) else some (.brk (z2.1, z2.2))
def F89s0 (x0 : api_Board) (x1 : api_Power) : Option ((List api_Island)) :=
 (F43 x0 x1).bind fun y1 => bif (y1 != 0) then some ([] : List api_Island) else (F142 x0 x1).bind fun y4 => (mkI 73 x0.Buses (⟨([] : List Int), ([] : List Int), ([] : List Int)⟩ : api_Island)).bind fun y6 => andThen (fI F89s0_l0 y4 0 y6) (fun _ => none) fun z0 => andThen (whileN (F89s0_l1 x0 x1 y4) 1152921504606846976 (0, z0)) (fun _ => none) fun z1 => andThen (whileN (F89s0_l2 x0 x1 y4) 1152921504606846976 (0, z1.2)) (fun _ => none) fun z2 => (F145s1 z2.2).bind fun y38 => some y38
def c210s2_2 (y1 : Int) (y3 : Int) (y5 : api_Consumer) : Bool := decide ((min y1 (w64 (y3 - y5.Least))) > 0)
def F210s2_l0 (x0 : shed_relief) (x2 : Int) (n0 : Nat) (a0 : Int) (z0 : (List Int) × (List api_Act)) : Option (Ctl ((List Int) × (List api_Act)) Unit) :=
 (F234s0 (⟨x0.board, (⟨x0.power.Closed, x0.power.Sources, z0.1, x0.power.Broken⟩ : api_Power), z0.2⟩ : shed_relief) x2).bind fun y1 => (getI z0.1 a0).bind fun y3 => (getI x0.board.Consumers a0).bind fun y5 => bif (c210s2_2 y1 y3 y5) then (setI z0.1 a0 (w64 (y3 - (min y1 (w64 (y3 - y5.Least)))))).bind fun y8 => (getI y8 a0).bind fun y10 => (appI 25 z0.2 [(⟨5, a0, y10⟩ : api_Act)]).bind fun y12 => some (.next (y8, y12)) else some (.next (z0.1, z0.2))
def F210s2 (x0 : shed_relief) (x1 : List Int) (x2 : Int) : Option shed_relief :=
 andThen (fI (F210s2_l0 x0 x2) x1 0 (x0.power.Limits, x0.acts)) (fun _ => none) fun z0 => some (⟨x0.board, (⟨x0.power.Closed, x0.power.Sources, z0.1, x0.power.Broken⟩ : api_Power), z0.2⟩ : shed_relief)
def F211s0_l0 (x0 : shed_relief) (x2 : Int) (n0 : Nat) (a0 : Int) (z0 : Unit) : Option (Ctl Unit Unit) :=
 (getI x0.power.Limits a0).bind fun y1 => (guardO [(decide (y1 > 0), true)] (F234s0 x0 x2) default).bind fun y3 => bif ((decide (y1 > 0)) && (decide (y3 > 0))) then none else some (.next ())
def F211s0 (x0 : shed_relief) (x1 : List Int) (x2 : Int) : Option Unit :=
 andThen (fI (F211s0_l0 x0 x2) x1 0 ()) (fun _ => none) fun z0 => some ()
def F173s1_l0 (y1 : (List Int)) (n0 : Nat) (a0 : api_Island) (z0 : Sg7) : Option (Ctl (Sg7) Unit) :=
 (F168 y1).bind fun y5 => (F208s1 y5 a0).bind fun y7 => bif decide ((y7.2.Sources.length : Int) > 0) then (getI y7.2.Buses 0).bind fun y10 => (F210s2 (⟨(⟨z0.1, z0.2.1, z0.2.2.1, z0.2.2.2.1, z0.2.2.2.2.1, z0.2.2.2.2.2.1⟩ : api_Board), (⟨z0.2.2.2.2.2.2.1, z0.2.2.2.2.2.2.2.1, z0.2.2.2.2.2.2.2.2.1, z0.2.2.2.2.2.2.2.2.2.1⟩ : api_Power), z0.2.2.2.2.2.2.2.2.2.2⟩ : shed_relief) y7.1 y10).bind fun y12 => (getI y7.2.Buses 0).bind fun y14 => (F211s0 y12 y7.1 y14).bind fun y16 => some (.next (y12.board.Buses, y12.board.Breakers, y12.board.Sources, y12.board.Consumers, y12.board.Phase, y12.board.Frequency, y12.power.Closed, y12.power.Sources, y12.power.Limits, y12.power.Broken, y12.acts)) else some (.next (z0.1, z0.2.1, z0.2.2.1, z0.2.2.2.1, z0.2.2.2.2.1, z0.2.2.2.2.2.1, z0.2.2.2.2.2.2.1, z0.2.2.2.2.2.2.2.1, z0.2.2.2.2.2.2.2.2.1, z0.2.2.2.2.2.2.2.2.2.1, z0.2.2.2.2.2.2.2.2.2.2))
def F173s1 (x0 : shed_relief) : Option shed_relief :=
 (F207 x0.board).bind fun y1 => (F89s0 x0.board x0.power).bind fun y3 => andThen (fI (F173s1_l0 y1) y3 0 (x0.board.Buses, x0.board.Breakers, x0.board.Sources, x0.board.Consumers, x0.board.Phase, x0.board.Frequency, x0.power.Closed, x0.power.Sources, x0.power.Limits, x0.power.Broken, x0.acts)) (fun _ => none) fun z0 => some (⟨(⟨z0.1, z0.2.1, z0.2.2.1, z0.2.2.2.1, z0.2.2.2.2.1, z0.2.2.2.2.2.1⟩ : api_Board), (⟨z0.2.2.2.2.2.2.1, z0.2.2.2.2.2.2.2.1, z0.2.2.2.2.2.2.2.2.1, z0.2.2.2.2.2.2.2.2.2.1⟩ : api_Power), z0.2.2.2.2.2.2.2.2.2.2⟩ : shed_relief)
def F171s1 (x0 : shed_relief) : Option shed_relief :=
 (F172s1 x0).bind fun y1 => (F173s1 y1).bind fun y3 => some y3
def F170s0 (x0 : api_Board) (x1 : api_Power) : Option (api_Power × (List api_Act) × Int) :=
 (F43 x0 x1).bind fun y1 => bif (y1 != 0) then none else (F116 x1).bind fun y4 => (F171s1 (⟨x0, y4, ([] : List api_Act)⟩ : shed_relief)).bind fun y6 => some (y6.power, y6.acts, 0)
def F125 (x0 : api_Board) (x1 : api_Power) : Option (api_Power × (List api_Act) × Int) :=
 (F170s0 x0 x1).bind fun y1 => some (y1.1, y1.2.1, y1.2.2)
def F64s1_m0 (x1 : api_Act) : Option (Ctl Unit Unit) :=
 bif (x1.Kind == 7) then none else some (.next ())
def F64s1_l1 (y1 : api_Power × Int) (n1 : Nat) (a1 : api_Act) (z1 : Sg9) : Option (Ctl (Sg9) Unit) :=
 (F124s1 (⟨(⟨z1.1, (⟨z1.2.2.2.2.2.2.2.1, z1.2.2.2.2.2.2.2.2.1, z1.2.2.2.2.2.2.2.2.2.1, z1.2.2.2.2.2.2.2.2.2.2.1⟩ : api_Power), z1.2.2.2.2.2.2.2.2.2.2.2.1, z1.2.2.2.2.2.2.2.2.2.2.2.2.1⟩ : api_Plant), (⟨z1.2.1, z1.2.2.1, z1.2.2.2.1, z1.2.2.2.2.1, z1.2.2.2.2.2.1, z1.2.2.2.2.2.2.1⟩ : api_Board), z1.2.2.2.2.2.2.2.2.2.2.2.2.2.2.1, z1.2.2.2.2.2.2.2.2.2.2.2.2.2.2.2.1⟩ : plant_runner) a1 0).bind fun y11 => bif (a1.Kind == 2) then (getI z1.2.2.2.2.2.2.2.2.2.2.2.2.2.1 a1.Unit).bind fun y14 => (setI z1.2.2.2.2.2.2.2.2.2.2.2.2.2.1 a1.Unit false).bind fun y16 => (F81s2 y11 (⟨y16, y1.1.Sources, z1.2.2.2.2.2.2.2.2.2.2.2.2.2.2.2.2, y1.1.Broken⟩ : api_Power)).bind fun y18 => some (.next (y18.Plant.Time, y18.board.Buses, y18.board.Breakers, y18.board.Sources, y18.board.Consumers, y18.board.Phase, y18.board.Frequency, y18.Plant.Power.Closed, y18.Plant.Power.Sources, y18.Plant.Power.Limits, y18.Plant.Power.Broken, y18.Plant.Rosters, y18.Plant.Events, y16, y18.events, y18.states, z1.2.2.2.2.2.2.2.2.2.2.2.2.2.2.2.2)) else (getI z1.2.2.2.2.2.2.2.2.2.2.2.2.2.2.2.2 a1.Unit).bind fun y20 => (setI z1.2.2.2.2.2.2.2.2.2.2.2.2.2.2.2.2 a1.Unit a1.Value).bind fun y22 => (F81s2 y11 (⟨z1.2.2.2.2.2.2.2.2.2.2.2.2.2.1, y1.1.Sources, y22, y1.1.Broken⟩ : api_Power)).bind fun y24 => some (.next (y24.Plant.Time, y24.board.Buses, y24.board.Breakers, y24.board.Sources, y24.board.Consumers, y24.board.Phase, y24.board.Frequency, y24.Plant.Power.Closed, y24.Plant.Power.Sources, y24.Plant.Power.Limits, y24.Plant.Power.Broken, y24.Plant.Rosters, y24.Plant.Events, z1.2.2.2.2.2.2.2.2.2.2.2.2.2.1, y24.events, y24.states, y22))
def F64s1 (x0 : plant_runner) (x1 : api_Act) : Option plant_runner :=
 (F83 x0.board x0.Plant.Power x0.Plant.Time x1).bind fun y1 => andThen (F64s1_m0 x1) (fun _ => none) fun z0 => (F124s1 x0 x1 y1.2).bind fun y4 => bif (y1.2 != 0) then none else (F81s2 y4 y1.1).bind fun y7 => (F125 y7.board y1.1).bind fun y9 => andThen (fI (F64s1_l1 y1) y9.2.1 0 (y7.Plant.Time, y7.board.Buses, y7.board.Breakers, y7.board.Sources, y7.board.Consumers, y7.board.Phase, y7.board.Frequency, y7.Plant.Power.Closed, y7.Plant.Power.Sources, y7.Plant.Power.Limits, y7.Plant.Power.Broken, y7.Plant.Rosters, y7.Plant.Events, y1.1.Closed, y7.events, y7.states, y1.1.Limits)) (fun _ => none) fun z1 => (F60 (⟨z1.2.2.2.2.2.2.2.2.2.2.2.2.2.1, y1.1.Sources, z1.2.2.2.2.2.2.2.2.2.2.2.2.2.2.2.2, y1.1.Broken⟩ : api_Power) y9.1).bind fun y26 => bif !y26 then none else some (⟨(⟨z1.1, y9.1, z1.2.2.2.2.2.2.2.2.2.2.2.1, z1.2.2.2.2.2.2.2.2.2.2.2.2.1⟩ : api_Plant), (⟨z1.2.1, z1.2.2.1, z1.2.2.2.1, z1.2.2.2.2.1, z1.2.2.2.2.2.1, z1.2.2.2.2.2.2.1⟩ : api_Board), z1.2.2.2.2.2.2.2.2.2.2.2.2.2.2.1, z1.2.2.2.2.2.2.2.2.2.2.2.2.2.2.2.1⟩ : plant_runner)
def F174s0 (x0 : Int) (x1 : Int) : Bool :=
 ((decide (x0 >= (-1))) && (decide (x0 <= x1)))
def F219s0 (x0 : api_Breaker) (x1 : Int) : Bool :=
 ((x0.Kind == 2) && (x0.B == x1))
def F218s3_l0 (x1c0 : Int) (n0 : Nat) (a0 : api_Breaker) (z0 : Unit) : Option (Ctl Unit (Int × Int)) :=
 bif F219s0 a0 x1c0 then some (.ret (cnt 0 n0, x1c0)) else some (.next ())
def F218s3 (x0 : List api_Breaker) (x1c0 : Int) : Option (Int × Int) :=
 andThen (fI (F218s3_l0 x1c0) x0 0 ()) some fun z0 => some ((-1), x1c0)
def F180 (x0 : api_Board) (x1 : Int) : Option Int :=
 (F218s3 x0.Breakers x1).bind fun y1 => some y1.1
def c175_0 (x1 : api_Table) (y1 : api_Island × Bool) : Bool := ((!(F59 x1)) || (decide ((y1.1.Sources.length : Int) < 2)))
def c175_1 (x1 : api_Table) (y9 : Int) (y11 : api_Source) (y13 : Int) : Bool := decide ((w64 (100 * y13)) <= (w64 (x1.Stop * (w64 (y9 - y11.Rating)))))
def F175_l0 (x0 : api_Board) (x1 : api_Table) (x2 : api_Power) (x3 : Int) (a0 : Int × Int) (z0 : Unit) : Option (Ctl Unit Unit) :=
 (F180 x0 a0.2).bind fun y4 => (F103 x2 2 y4).bind fun y6 => bif y6 then none else (F213 x0 x2 x3).bind fun y9 => (getI x0.Sources a0.2).bind fun y11 => (F214 x0 x2 x3).bind fun y13 => bif (c175_1 x1 y9 y11 y13) then none else some (.next ())
def F175 (x0 : api_Board) (x1 : api_Table) (x2 : api_Power) (x3 : Int) : Option (Int × Bool) :=
 (F156 x0 x2 x3).bind fun y1 => bif (c175_0 x1 y1) then some (0, false) else andThen (foldE (F175_l0 x0 x1 x2 x3) (bw y1.1.Sources) ()) (fun _ => none) fun z0 => some (0, false)
def F177 (x0 : api_Board) (x1 : api_Table) (x2 : api_Power) (x3 : Int) : Option Bool :=
 (guardO [(F59 x1, true)] (F102 x0 x2 x3) default).bind fun y1 => (guardO [(((F59 x1) && y1), true)] (F214 x0 x2 x3) default).bind fun y3 => (guardO [(((F59 x1) && y1), true)] (F213 x0 x2 x3) default).bind fun y5 => some (((F59 x1) && y1) && (decide ((w64 (100 * y3)) > (w64 (x1.Start * y5)))))
def F176 (x0 : Int) (x1 : Bool) (x2 : Int) : Option Int :=
 bif !x1 then some (-1) else none
def F215 (x0 : api_Board) (x1 : api_Power) (x2 : api_Island) (x3 : Int) : Option Bool :=
 (F180 x0 x3).bind fun y1 => (getI x0.Breakers y1).bind fun y3 => (F103 x1 1 x3).bind fun y5 => (guardO [(y5, false)] (F103 x1 2 y1) default).bind fun y7 => (guardO [((y5 || y7), false)] (F103 x1 3 y3.A) default).bind fun y9 => (guardO [(!((y5 || y7) || y9), true)] (F190 x2.Buses y3.A) default).bind fun y11 => (guardO [(((!((y5 || y7) || y9)) && y11), true)] (F190 x2.Sources x3) default).bind fun y13 => (guardO [((((!((y5 || y7) || y9)) && y11) && (!y13)), true)] (getI x1.Sources x3) default).bind fun y15 => some ((((!((y5 || y7) || y9)) && y11) && (!y13)) && (y15.State != 3))
def F178_l1 (x0 : api_Board) (x1 : api_Power) (y1 : api_Island × Bool) (a0 : Int) (n1 : Nat) (a1 : api_Running) (z1 : Unit) : Option (Ctl Unit Unit) :=
 (guardO [((a1.State == a0), true)] (F215 x0 x1 y1.1 (cnt 0 n1)) default).bind fun y4 => bif ((a1.State == a0) && y4) then none else some (.next ())
def F178_l0 (x0 : api_Board) (x1 : api_Power) (y1 : api_Island × Bool) (n0 : Nat) (a0 : Int) (z0 : Unit) : Option (Ctl Unit Unit) :=
 andThen (fI (F178_l1 x0 x1 y1 a0) x1.Sources 0 ()) (fun _ => none) fun z1 => some (.next ())
def F178 (x0 : api_Board) (x1 : api_Power) (x2 : Int) : Option (Int × Bool) :=
 (F156 x0 x1 x2).bind fun y1 => bif !y1.2 then none else andThen (fI (F178_l0 x0 x1 y1) [2, 1, 0] 0 ()) (fun _ => none) fun z0 => some (0, false)
def c133s0_0 (x1 : api_Table) (x4 : Int) (x5 : api_Roster) : Bool := (((((!(F59 x1)) || (decide (x4 < 0))) || (decide (x4 > 2147483648))) || (!(F174s0 x5.High x4))) || (!(F174s0 x5.Low x4)))
def c133s0_1 (x0 : api_Board) (x3 : Int) : Bool := ((decide (x3 < 0)) || (decide (x3 >= x0.Buses)))
def c133s0_2 (x1 : api_Table) (x4 : Int) (y10 : Int) (y14 : Int × Bool) : Bool := ((y14.2 && (y10 != (-1))) && (decide ((w64 (x4 - y10)) >= x1.Delay)))
def c133s0_3 (x1 : api_Table) (x4 : Int) (y12 : Int) : Bool := ((y12 != (-1)) && (decide ((w64 (x4 - y12)) >= x1.Delay)))
def F133s0 (x0 : api_Board) (x1 : api_Table) (x2 : api_Power) (x3 : Int) (x4 : Int) (x5 : api_Roster) : Option (api_Roster × (List api_Act) × Int) :=
 (F43 x0 x2).bind fun y1 => bif (y1 != 0) then none else bif (c133s0_0 x1 x4 x5) then none else bif (c133s0_1 x0 x3) then none else (F175 x0 x1 x2 x3).bind fun y6 => (F177 x0 x1 x2 x3).bind fun y8 => (F176 x5.High y8 x4).bind fun y10 => (F176 x5.Low y6.2 x4).bind fun y12 => (F178 x0 x2 x3).bind fun y14 => bif (c133s0_2 x1 x4 y10 y14) then none else bif (c133s0_3 x1 x4 y12) then none else some ((⟨y10, y12⟩ : api_Roster), [], 0)
def c82s1_2 (a0 : api_Island) (y7 : Bool) : Bool := (((a0.Sources.length : Int) == 0) || (!y7))
def F82s1_l1 (n1 : Nat) (a1 : api_Act) (z1 : Sg10) : Option (Ctl (Sg10) Unit) :=
 (F64s1 (⟨(⟨z1.1, (⟨z1.2.2.2.2.2.2.2.1, z1.2.2.2.2.2.2.2.2.1, z1.2.2.2.2.2.2.2.2.2.1, z1.2.2.2.2.2.2.2.2.2.2.1⟩ : api_Power), z1.2.2.2.2.2.2.2.2.2.2.2.1, z1.2.2.2.2.2.2.2.2.2.2.2.2.1⟩ : api_Plant), (⟨z1.2.1, z1.2.2.1, z1.2.2.2.1, z1.2.2.2.2.1, z1.2.2.2.2.2.1, z1.2.2.2.2.2.2.1⟩ : api_Board), z1.2.2.2.2.2.2.2.2.2.2.2.2.2.1, z1.2.2.2.2.2.2.2.2.2.2.2.2.2.2⟩ : plant_runner) a1).bind fun y18 => some (.next (y18.Plant.Time, y18.board.Buses, y18.board.Breakers, y18.board.Sources, y18.board.Consumers, y18.board.Phase, y18.board.Frequency, y18.Plant.Power.Closed, y18.Plant.Power.Sources, y18.Plant.Power.Limits, y18.Plant.Power.Broken, y18.Plant.Rosters, y18.Plant.Events, y18.events, y18.states))
def F82s1_l0 (x1 : api_Table) (n0 : Nat) (a0 : api_Island) (z0 : Sg11) : Option (Ctl (Sg11) Unit) :=
 (getI a0.Buses 0).bind fun y5 => (guardO [(((a0.Sources.length : Int) == 0), false)] (F102 (⟨z0.2.1, z0.2.2.1, z0.2.2.2.1, z0.2.2.2.2.1, z0.2.2.2.2.2.1, z0.2.2.2.2.2.2.1⟩ : api_Board) (⟨z0.2.2.2.2.2.2.2.2.1, z0.2.2.2.2.2.2.2.2.2.1, z0.2.2.2.2.2.2.2.2.2.2.1, z0.2.2.2.2.2.2.2.2.2.2.2.1⟩ : api_Power) y5) default).bind fun y7 => bif (c82s1_2 a0 y7) then none else (getI z0.2.2.2.2.2.2.2.2.2.2.2.2.1 y5).bind fun y10 => (F133s0 (⟨z0.2.1, z0.2.2.1, z0.2.2.2.1, z0.2.2.2.2.1, z0.2.2.2.2.2.1, z0.2.2.2.2.2.2.1⟩ : api_Board) x1 (⟨z0.2.2.2.2.2.2.2.2.1, z0.2.2.2.2.2.2.2.2.2.1, z0.2.2.2.2.2.2.2.2.2.2.1, z0.2.2.2.2.2.2.2.2.2.2.2.1⟩ : api_Power) y5 z0.1 y10).bind fun y12 => (getI z0.2.2.2.2.2.2.2.1 y5).bind fun y14 => (setI z0.2.2.2.2.2.2.2.1 y5 y12.1).bind fun y16 => andThen (fI F82s1_l1 y12.2.1 0 (z0.1, z0.2.1, z0.2.2.1, z0.2.2.2.1, z0.2.2.2.2.1, z0.2.2.2.2.2.1, z0.2.2.2.2.2.2.1, z0.2.2.2.2.2.2.2.2.1, z0.2.2.2.2.2.2.2.2.2.1, z0.2.2.2.2.2.2.2.2.2.2.1, z0.2.2.2.2.2.2.2.2.2.2.2.1, z0.2.2.2.2.2.2.2.2.2.2.2.2.1, z0.2.2.2.2.2.2.2.2.2.2.2.2.2.1, z0.2.2.2.2.2.2.2.2.2.2.2.2.2.2.1, z0.2.2.2.2.2.2.2.2.2.2.2.2.2.2.2)) (fun _ => none) fun z1 => some (.next (z1.1, z1.2.1, z1.2.2.1, z1.2.2.2.1, z1.2.2.2.2.1, z1.2.2.2.2.2.1, z1.2.2.2.2.2.2.1, y16, z1.2.2.2.2.2.2.2.1, z1.2.2.2.2.2.2.2.2.1, z1.2.2.2.2.2.2.2.2.2.1, z1.2.2.2.2.2.2.2.2.2.2.1, z1.2.2.2.2.2.2.2.2.2.2.2.1, z1.2.2.2.2.2.2.2.2.2.2.2.2.1, z1.2.2.2.2.2.2.2.2.2.2.2.2.2.1, z1.2.2.2.2.2.2.2.2.2.2.2.2.2.2))
def F82s1 (x0 : plant_runner) (x1 : api_Table) : Option plant_runner :=
 (F86 x0.board.Buses).bind fun y1 => (F89s0 x0.board x0.Plant.Power).bind fun y3 => andThen (fI (F82s1_l0 x1) y3 0 (x0.Plant.Time, x0.board.Buses, x0.board.Breakers, x0.board.Sources, x0.board.Consumers, x0.board.Phase, x0.board.Frequency, y1, x0.Plant.Power.Closed, x0.Plant.Power.Sources, x0.Plant.Power.Limits, x0.Plant.Power.Broken, x0.Plant.Rosters, x0.Plant.Events, x0.events, x0.states)) (fun _ => none) fun z0 => some (⟨(⟨z0.1, (⟨z0.2.2.2.2.2.2.2.2.1, z0.2.2.2.2.2.2.2.2.2.1, z0.2.2.2.2.2.2.2.2.2.2.1, z0.2.2.2.2.2.2.2.2.2.2.2.1⟩ : api_Power), z0.2.2.2.2.2.2.2.1, z0.2.2.2.2.2.2.2.2.2.2.2.2.2.1⟩ : api_Plant), (⟨z0.2.1, z0.2.2.1, z0.2.2.2.1, z0.2.2.2.2.1, z0.2.2.2.2.2.1, z0.2.2.2.2.2.2.1⟩ : api_Board), z0.2.2.2.2.2.2.2.2.2.2.2.2.2.2.1, z0.2.2.2.2.2.2.2.2.2.2.2.2.2.2.2⟩ : plant_runner)
def F81s3 (x0 : plant_runner) (x1 : api_Power) : Option plant_runner :=
 (F116 x0.Plant.Power).bind fun y3 => (appI 97 x0.states [y3]).bind fun y5 => some (⟨x0.Plant, x0.board, x0.events, y5⟩ : plant_runner)
def F34_l0 (n0 : Nat) (a0 : api_Act) (z0 : Sg10) : Option (Ctl (Sg10) Unit) :=
 (F64s1 (⟨(⟨z0.1, (⟨z0.2.2.2.2.2.2.2.1, z0.2.2.2.2.2.2.2.2.1, z0.2.2.2.2.2.2.2.2.2.1, z0.2.2.2.2.2.2.2.2.2.2.1⟩ : api_Power), z0.2.2.2.2.2.2.2.2.2.2.2.1, z0.2.2.2.2.2.2.2.2.2.2.2.2.1⟩ : api_Plant), (⟨z0.2.1, z0.2.2.1, z0.2.2.2.1, z0.2.2.2.2.1, z0.2.2.2.2.2.1, z0.2.2.2.2.2.2.1⟩ : api_Board), z0.2.2.2.2.2.2.2.2.2.2.2.2.2.1, z0.2.2.2.2.2.2.2.2.2.2.2.2.2.2⟩ : plant_runner) a0).bind fun y10 => some (.next (y10.Plant.Time, y10.board.Buses, y10.board.Breakers, y10.board.Sources, y10.board.Consumers, y10.board.Phase, y10.board.Frequency, y10.Plant.Power.Closed, y10.Plant.Power.Sources, y10.Plant.Power.Limits, y10.Plant.Power.Broken, y10.Plant.Rosters, y10.Plant.Events, y10.events, y10.states))
def F34 (x0 : api_Board) (x1 : api_Table) (x2 : api_Plant) (x3 : List api_Act) : Option (plant_runner × Int) :=
 (F21 x0 x1 x2).bind fun y1 => bif (y1 != 0) then none else bif decide ((x3.length : Int) > 200) then none else bif (x2.Time == 2147483648) then none else (F63 x0 x2).bind fun y6 => (F81s1 y6 x2.Power).bind fun y8 => andThen (fI F34_l0 x3 0 (y8.Plant.Time, y8.board.Buses, y8.board.Breakers, y8.board.Sources, y8.board.Consumers, y8.board.Phase, y8.board.Frequency, y8.Plant.Power.Closed, y8.Plant.Power.Sources, y8.Plant.Power.Limits, y8.Plant.Power.Broken, y8.Plant.Rosters, y8.Plant.Events, y8.events, y8.states)) (fun _ => none) fun z0 => (F82s1 (⟨(⟨z0.1, (⟨z0.2.2.2.2.2.2.2.1, z0.2.2.2.2.2.2.2.2.1, z0.2.2.2.2.2.2.2.2.2.1, z0.2.2.2.2.2.2.2.2.2.2.1⟩ : api_Power), z0.2.2.2.2.2.2.2.2.2.2.2.1, z0.2.2.2.2.2.2.2.2.2.2.2.2.1⟩ : api_Plant), (⟨z0.2.1, z0.2.2.1, z0.2.2.2.1, z0.2.2.2.2.1, z0.2.2.2.2.2.1, z0.2.2.2.2.2.2.1⟩ : api_Board), z0.2.2.2.2.2.2.2.2.2.2.2.2.2.1, z0.2.2.2.2.2.2.2.2.2.2.2.2.2.2⟩ : plant_runner) x1).bind fun y12 => (F83 x0 y12.Plant.Power y12.Plant.Time (⟨7, 0, 0⟩ : api_Act)).bind fun y14 => (F81s3 (⟨(⟨y12.Plant.Time, y14.1, y12.Plant.Rosters, y12.Plant.Events⟩ : api_Plant), y12.board, y12.events, y12.states⟩ : plant_runner) y14.1).bind fun y16 => (appI 41 y16.Plant.Events y16.events).bind fun y18 => (cutI y18 (max 0 (w64 ((y18.length : Int) - 200))) (y18.length : Int)).bind fun y21 => (F84 y21).bind fun y22 => some ((⟨(⟨w64 (y16.Plant.Time + 1), y16.Plant.Power, y16.Plant.Rosters, y22⟩ : api_Plant), y16.board, y16.events, y16.states⟩ : plant_runner), 0)
def F11 (x0 : api_Board) (x1 : api_Table) (x2 : api_Plant) (x3 : List api_Act) : Option (api_Plant × (List api_Event) × Int) :=
 (F34 x0 x1 x2 x3).bind fun y1 => bif (y1.2 != 0) then none else some (y1.1.Plant, y1.1.events, 0)
def F37_l0 (x1 : List Bool) (n0 : Nat) (a0 : Bool) (z0 : Unit) : Option (Ctl Unit Unit) :=
 (getI x1 (cnt 0 n0)).bind fun y2 => bif !(a0 == y2) then none else some (.next ())
def F37 (x0 : List Bool) (x1 : List Bool) : Option Bool :=
 bif ((x0.length : Int) != (x1.length : Int)) then none else andThen (fI (F37_l0 x1) x0 0 ()) (fun _ => none) fun z0 => some true
def F38_l0 (x1 : List Int) (n0 : Nat) (a0 : Int) (z0 : Unit) : Option (Ctl Unit Unit) :=
 (getI x1 (cnt 0 n0)).bind fun y2 => bif (a0 != y2) then none else some (.next ())
def F38 (x0 : List Int) (x1 : List Int) : Option Bool :=
 bif ((x0.length : Int) != (x1.length : Int)) then none else andThen (fI (F38_l0 x1) x0 0 ()) (fun _ => none) fun z0 => some true
def F90 (x0 : api_Island) : Bool :=
 decide ((x0.Sources.length : Int) > 0)
def F141s1_l0 (n0 : Nat) (a0 : api_Island) (z0 : Unit) : Option (Ctl Unit Int) :=
 bif F90 a0 then some (.ret (cnt 0 n0)) else some (.next ())
def F141s1 (x0 : List api_Island) : Option Int :=
 andThen (fI F141s1_l0 x0 0 ()) some fun z0 => some (-1)
def F88s0 (x0 : List api_Island) : Option Bool :=
 (F141s1 x0).bind fun y1 => some (decide (y1 >= 0))
def F39 (x0 : api_Board) (x1 : api_Power) : Option Bool :=
 (F43 x0 x1).bind fun y1 => (guardO [((y1 == 0), true)] (F89 x0 x1) default).bind fun y3 => (guardO [((y1 == 0), true)] (F88s0 y3) default).bind fun y5 => some ((y1 == 0) && (!y5))
def F13  : Option Bool :=
 (F36 F35.1 F35.2).bind fun y1 => (F11 F35.1 F35.2 y1.1 [(⟨3, 0, 0⟩ : api_Act), (⟨3, 1, 0⟩ : api_Act), (⟨1, 0, 0⟩ : api_Act), (⟨1, 1, 0⟩ : api_Act), (⟨1, 2, 0⟩ : api_Act)]).bind fun y3 => (F11 F35.1 F35.2 y3.1 [(⟨8, 1, 1⟩ : api_Act)]).bind fun y5 => (F15 (⟨0, 1, [(⟨2, 0, 1000, 0, 1, ([] : List api_Arc)⟩ : api_Thruster)]⟩ : api_Ship) F35.1 y5.1.Power).bind fun y7 => (guardO [(((((((y1.2 == 0) && (y3.2.2 == 0)) && (y5.2.2 == 0)) && (y7.2 == 0)) && (y5.1.Time == 2)) && ((y5.2.1.length : Int) == 3)), true)] (F37 y5.1.Power.Closed [true, false, true]) default).bind fun y9 => (guardO [((((((((y1.2 == 0) && (y3.2.2 == 0)) && (y5.2.2 == 0)) && (y7.2 == 0)) && (y5.1.Time == 2)) && ((y5.2.1.length : Int) == 3)) && y9), true)] (F38 y5.1.Power.Limits [50]) default).bind fun y11 => (guardO [(((((((((y1.2 == 0) && (y3.2.2 == 0)) && (y5.2.2 == 0)) && (y7.2 == 0)) && (y5.1.Time == 2)) && ((y5.2.1.length : Int) == 3)) && y9) && y11), true)] (F38 y7.1 [223]) default).bind fun y13 => (guardO [((((((((((y1.2 == 0) && (y3.2.2 == 0)) && (y5.2.2 == 0)) && (y7.2 == 0)) && (y5.1.Time == 2)) && ((y5.2.1.length : Int) == 3)) && y9) && y11) && y13), true)] (F39 F35.1 y5.1.Power) default).bind fun y15 => some ((((((((((y1.2 == 0) && (y3.2.2 == 0)) && (y5.2.2 == 0)) && (y7.2 == 0)) && (y5.1.Time == 2)) && ((y5.2.1.length : Int) == 3)) && y9) && y11) && y13) && (!y15))
def c4_0 (y5 : api_Ship × dynposmake_Src) (y7 : (List Int) × Int) : Bool := ((y7.2 != 0) || ((y7.1.length : Int) != (y5.1.Thrusters.length : Int)))
def c4_2 (a0 : api_Thruster) (y10 : Int) : Bool := ((decide (y10 < 0)) || (decide (y10 > a0.Max)))
def F4_l1 (y3 : Sg12) (n0 : Nat) (a0 : api_Thruster) (y10 : Int) (n1 : Nat) (a1 : api_Consumer) (z1 : Bool) : Option (Ctl Bool Bool) :=
 bif (a1.Thruster != (cnt 0 n0)) then some (.next z1) else (F16 y3.1 y3.2.2.1.Power (cnt 0 n1)).bind fun y14 => (F17 a0 (⟨y10, 0⟩ : api_Thrust)).bind fun y16 => (guardO [((y16.2 != 0), false)] (getI y3.2.2.1.Power.Limits (cnt 0 n1)) default).bind fun y18 => bif ((y16.2 != 0) || (decide (y16.1 > y18))) then some (.ret false) else some (.brk y14)
def F4_l0 (y3 : Sg12) (y7 : (List Int) × Int) (n0 : Nat) (a0 : api_Thruster) (z0 : Unit) : Option (Ctl Unit Bool) :=
 (getI y7.1 (cnt 0 n0)).bind fun y10 => bif (c4_2 a0 y10) then some (.ret false) else andThen (fI (F4_l1 y3 n0 a0 y10) y3.1.Consumers 0 false) (fun v => some (.ret v)) fun z1 => bif ((!z1) && (y10 != 0)) then some (.ret false) else some (.next ())
def F4 (x0 : List Int) : Option Bool :=
 (F8 x0).bind fun y1 => (F9 y1).bind fun y3 => (F14 y3.2.2.2 4).bind fun y5 => (F15 y5.1 y3.1 y3.2.2.1.Power).bind fun y7 => bif (c4_0 y5 y7) then some false else andThen (fI (F4_l0 y3 y7) y5.1.Thrusters 0 ()) some fun z0 => (F13).bind fun y22 => some y22
end Go.Proofs.YthgnbpdjncbkfaaGreat
