import Derived.Test.YtakbldjmgfcipaaDoorTy
set_option linter.unusedVariables false
namespace Go.Proofs.YtakbldjmgfcipaaDoor
open Go.SL
def c36_0 (x0 : ByteArray) : Bool := ((decide ((x0.size : Int) < 1)) || (decide ((x0.size : Int) > 12)))
def c36_2 (i36_0 : Nat) (x36_0 : Int) : Bool := ((!((decide (x36_0 ≥ 97)) && (decide (x36_0 ≤ 122)))) && (((cnt 0 i36_0) == 0) || ((x36_0 != 45) && ((decide (x36_0 < 48)) || (decide (x36_0 > 57))))))
def F36_l0 (i36_0 : Nat) (x36_0 : Int) (s36_0 : Unit) : Option (Ctl Unit Bool) :=
  bif (c36_2 i36_0 x36_0) then some (.ret false) else some (.next ())
/-- dynpos/design.Word -/
def F36 (x0 : ByteArray) : Option Bool :=
  bif (c36_0 x0) then some false else (bytesO x0).bind fun y2 => andThen (foldI F36_l0 y2 0 ()) some fun s36_0 => some true
/-- dynpos/operation.among -/
def F31 (x0 : Int) (x1 : Int) (x2 : Int) : Bool :=
  ((decide (x0 ≥ x1)) && (decide (x0 ≤ x2)))
/-- dynpos/operation.level -/
def F34 (x0 : Int) : Bool :=
  F31 x0 1 3
/-- dynpos/frame.Valid -/
def F43 (x0 : api_Point) : Bool :=
  ((decide ((max x0.X x0.Y) ≤ 100000000)) && (decide ((min x0.X x0.Y) ≥ (-100000000))))
def c37_0 (x0 : api_Circle) : Bool := ((((!(F43 x0.Place)) || (decide (x0.Yellow < 0))) || (decide (x0.Yellow > x0.Red))) || (decide (x0.Red > 1000000)))
/-- dynpos/circle.Check -/
def F37 (x0 : api_Circle) : Int :=
  bif (c37_0 x0) then 65 else 0
def c22_0 (x0 : api_Operation) (y1 : Bool) : Bool := (((!y1) || (!(F34 x0.Class))) || (!(F31 x0.Drift 0 1000)))
/-- dynpos/operation.Check -/
def F22 (x0 : api_Operation) : Option Int :=
  (F36 x0.Name).bind fun y1 => bif (c22_0 x0 y1) then some 66 else some (F37 x0.Circle)
/-- dynpos/operation.state -/
def F42 (x0 : Int) : Bool :=
  F31 x0 0 5
/-- dynpos/operation.zone -/
def F35 (x0 : Int) : Bool :=
  F31 x0 1 3
def c30_0 (x1 : Int) (x2 : Int) (x3 : Int) : Bool := (((!(F42 x1)) || (!(F34 x2))) || (!(F35 x3)))
/-- dynpos/operation.check -/
def F30 (x0 : api_Operation) (x1 : Int) (x2 : Int) (x3 : Int) : Option Int :=
  (F22 x0).bind fun y1 => bif (y1 != 0) then some y1 else bif (c30_0 x1 x2 x3) then some 1 else some 0
/-- dynpos/operation.fit -/
def F32 (x0 : api_Operation) (x1 : Int) (x2 : Int) : Bool :=
  ((decide (x1 ≥ x0.Class)) && (x2 == 1))
def F15_m0 (x1 : Int) : Option (Ctl Bool Unit) :=
  bif (x1 == 2) then some (.next (x1 == 2)) else some (.next (x1 == 3))
/-- dynpos/operation.Next -/
def F15 (x0 : api_Operation) (x1 : Int) (x2 : Int) (x3 : Int) (x4 : Bool) : Option (Int × Int) :=
  (F30 x0 x1 x2 x3).bind fun y1 => bif (y1 != 0) then some (0, y1) else bif (x1 == 1) then bif !(F32 x0 x2 x3) then some (0, 0) else some (x1, 0) else andThen (F15_m0 x1) (fun _ => none) fun s15_0 => bif s15_0 then bif ((x3 == 3) || (x2 == 1)) then some (4, 0) else bif F32 x0 x2 x3 then some (2, 0) else some (3, 0) else bif (x1 == 4) then bif x4 then some (5, 0) else some (x1, 0) else some (x1, 0)
/-- dynpos/operation.Ask -/
def F14 (x0 : api_Operation) (x1 : Int) (x2 : Int) (x3 : Int) (x4 : Int) : Option (Int × Int) :=
  (F30 x0 x1 x2 x3).bind fun y1 => bif (y1 != 0) then some (0, y1) else bif !(F31 x4 0 4) then some (0, 1) else bif (x4 == 0) then some (x1, 0) else bif ((1 != x4) || (0 != x1)) then bif ((2 != x4) || (1 != x1)) then bif ((3 != x4) || (1 != x1)) then bif ((3 != x4) || (2 != x1)) then bif ((3 != x4) || (3 != x1)) then bif ((4 != x4) || (5 != x1)) then some (0, 66) else some (0, 0) else some (4, 0) else some (4, 0) else some (0, 0) else bif decide (x2 < x0.Class) then some (0, 64) else bif (x3 != 1) then some (0, 65) else some (2, 0) else bif decide (x2 < x0.Class) then some (0, 64) else bif (x3 != 1) then some (0, 65) else some (1, 0)
/-- dynpos/dynposlaw30.sane -/
def F9  : Option Bool :=
  (F15 (⟨⟨#[100, 114, 105, 108, 108]⟩, 3, (⟨(⟨0, 0⟩ : api_Point), 0, 0⟩ : api_Circle), 0⟩ : api_Operation) 2 2 1 false).bind fun y1 => (F15 (⟨⟨#[100, 114, 105, 108, 108]⟩, 3, (⟨(⟨0, 0⟩ : api_Point), 0, 0⟩ : api_Circle), 0⟩ : api_Operation) 2 1 1 false).bind fun y3 => (F14 (⟨⟨#[100, 114, 105, 108, 108]⟩, 3, (⟨(⟨0, 0⟩ : api_Point), 0, 0⟩ : api_Circle), 0⟩ : api_Operation) 0 2 1 1).bind fun y5 => some (((((y1.2 == 0) && (y3.2 == 0)) && (y1.1 == 3)) && (y3.1 == 4)) && (y5.2 == 64))
/-- dynpos/dynposmake.New -/
def F10 (x0 : List Int) : Option dynposmake_Src :=
  (cutI x0 0 (min (x0.length : Int) 600)).bind fun y2 => some (⟨y2, 0⟩ : dynposmake_Src)
/-- dynpos/dynposmake.Mod -/
def F33 (x0 : Int) (x1 : Int) : Option Int :=
  bif decide (x1 < 1) then some 0 else (nzI x1).bind fun u3 => (nzI x1).bind fun u5 => some (Int.tmod (w64 ((Int.tmod x0 x1) + x1)) x1)
/-- (*dynpos/dynposmake.Src).N -/
def F16 (x0 : dynposmake_Src) (x1 : Int) : Option (Int × dynposmake_Src) :=
  bif decide (x0.At ≥ (x0.L.length : Int)) then some (0, x0) else (getI x0.L (w64 ((w64 (x0.At + 1)) - 1))).bind fun y2 => (F33 y2 x1).bind fun y4 => some (y4, (⟨x0.L, w64 (x0.At + 1)⟩ : dynposmake_Src))
/-- (*dynpos/dynposmake.Src).Text -/
def F28 (x0 : dynposmake_Src) (x1 : List ByteArray) : Option (ByteArray × dynposmake_Src) :=
  (F16 x0 (x1.length : Int)).bind fun y1 => (getI x1 y1.1).bind fun y3 => some (y3, y1.2)
/-- (*dynpos/dynposmake.Src).Range -/
def F13 (x0 : dynposmake_Src) (x1 : Int) (x2 : Int) : Option (Int × dynposmake_Src) :=
  (F16 x0 (w64 ((w64 (x2 - x1)) + 1))).bind fun y1 => some (w64 (x1 + y1.1), y1.2)
/-- (*dynpos/dynposmake.Src).Pick -/
def F12 (x0 : dynposmake_Src) (x1 : List Int) : Option (Int × dynposmake_Src) :=
  (F16 x0 (x1.length : Int)).bind fun y1 => (getI x1 y1.1).bind fun y3 => some (y3, y1.2)
/-- (*dynpos/dynposmake.Src).Circle -/
def F29 (x0 : dynposmake_Src) : Option (api_Circle × dynposmake_Src) :=
  (F12 x0 [0, 300, 500, 2000]).bind fun y1 => (F12 y1.2 [0, 0, 200]).bind fun y3 => (F12 y3.2 [0, 0, (-100)]).bind fun y5 => (F12 y5.2 [0, 500, 3000]).bind fun y7 => some ((⟨(⟨y3.1, y5.1⟩ : api_Point), y1.1, w64 (y1.1 + y7.1)⟩ : api_Circle), y7.2)
/-- (*dynpos/dynposmake.Src).Operation -/
def F11 (x0 : dynposmake_Src) : Option (api_Operation × dynposmake_Src) :=
  (F28 x0 [⟨#[100, 114, 105, 108, 108]⟩, ⟨#[100, 105, 118, 101]⟩, ⟨#[97, 45, 49]⟩]).bind fun y1 => (F13 y1.2 1 3).bind fun y3 => (F29 y3.2).bind fun y5 => (F12 y5.2 [0, 10, 50, 1000]).bind fun y7 => some ((⟨y1.1, y3.1, y5.1, y7.1⟩ : api_Operation), y7.2)
def F3_m1 (s3_0 : Int × Int × (List Int) × Int) (y17 : Int × Int) : Option (Ctl Int Unit) :=
  bif (y17.2 == 0) then some (.next y17.1) else some (.next s3_0.1)
def c3_2 (s3_1 : Int) (y22 : Int × Int) : Bool := (((y22.2 != 0) || ((y22.1 != 4) && (y22.1 != 5))) || ((s3_1 == 5) && (y22.1 != s3_1)))
def F3_l0 (y6 : api_Operation × dynposmake_Src) (s3_0 : Int × Int × (List Int) × Int) : Option (Ctl (Int × Int × (List Int) × Int) Bool) :=
  bif decide (s3_0.2.1 < 12) then (F12 (⟨s3_0.2.2.1, s3_0.2.2.2⟩ : dynposmake_Src) [0, 1, 2, 3]).bind fun y11 => (F13 y11.2 1 3).bind fun y13 => (F13 y13.2 1 3).bind fun y15 => (F14 y6.1 s3_0.1 y13.1 y15.1 y11.1).bind fun y17 => andThen (F3_m1 s3_0 y17) (fun _ => none) fun s3_1 => (F16 y15.2 3).bind fun y20 => (F15 y6.1 s3_1 y13.1 y15.1 (y20.1 == 2)).bind fun y22 => bif (c3_2 s3_1 y22) then some (.ret false) else some (.next (y22.1, w64 (s3_0.2.1 + 1), y20.2.L, y20.2.At)) else some (.brk (s3_0.1, s3_0.2.1, s3_0.2.2.1, s3_0.2.2.2))
/-- dynpos/dynposlaw30.OperationLeaves -/
def F3 (x0 : List Int) : Option Bool :=
  bif decide ((x0.length : Int) > 600) then (F9).bind fun y2 => some y2 else (F10 x0).bind fun y4 => (F11 y4).bind fun y6 => (F12 y6.2 [4, 5]).bind fun y8 => andThen (whileN (F3_l0 y6) 15 (y8.1, 0, y8.2.L, y8.2.At)) some fun s3_0 => (F9).bind fun y25 => some y25
def c4_0 (y8 : Int × dynposmake_Src) (y10 : Int × dynposmake_Src) (y12 : Int × Int) : Bool := ((y12.2 != 0) || (!((y12.1 == 4) == ((y8.1 == 1) || (y10.1 == 3)))))
def c4_1 (y8 : Int × dynposmake_Src) (y10 : Int × dynposmake_Src) (y18 : Int × Int) : Bool := ((y18.2 != 0) || (!((y18.1 == 4) == ((y8.1 == 1) || (y10.1 == 3)))))
/-- dynpos/dynposlaw30.OperationRed -/
def F4 (x0 : List Int) : Option Bool :=
  bif decide ((x0.length : Int) > 600) then (F9).bind fun y2 => some y2 else (F10 x0).bind fun y4 => (F11 y4).bind fun y6 => (F13 y6.2 1 3).bind fun y8 => (F13 y8.2 1 3).bind fun y10 => (F15 y6.1 2 y8.1 y10.1 false).bind fun y12 => bif (c4_0 y8 y10 y12) then some false else (F14 y6.1 2 y8.1 y10.1 3).bind fun y15 => bif ((y15.2 != 0) || (y15.1 != 4)) then some false else (F15 y6.1 3 y8.1 y10.1 false).bind fun y18 => bif (c4_1 y8 y10 y18) then some false else (F14 y6.1 3 y8.1 y10.1 3).bind fun y21 => bif ((y21.2 != 0) || (y21.1 != 4)) then some false else (F9).bind fun y24 => some y24
/-- dynpos/dynposlaw30.OperationBetter -/
def F5 (x0 : List Int) : Option Bool :=
  bif decide ((x0.length : Int) > 600) then (F9).bind fun y2 => some y2 else (F10 x0).bind fun y4 => (F11 y4).bind fun y6 => (F13 y6.2 2 3).bind fun y8 => (F13 y8.2 1 3).bind fun y10 => (F13 y10.2 1 3).bind fun y12 => (F15 y6.1 y8.1 y10.1 y12.1 false).bind fun y14 => (F16 y12.2 3).bind fun y16 => (F16 y16.2 3).bind fun y18 => (F15 y6.1 y8.1 (min 3 (w64 (y10.1 + y16.1))) (max 1 (w64 (y12.1 - y18.1))) false).bind fun y20 => (guardO [((((y14.2 == 0) && (y20.2 == 0)) && (decide (y20.1 ≤ y14.1))), true)] (F9) default).bind fun y22 => some ((((y14.2 == 0) && (y20.2 == 0)) && (decide (y20.1 ≤ y14.1))) && y22)
/-- dynpos/operation.Fit -/
def F17 (x0 : api_Operation) (x1 : Int) (x2 : Int) : Option Bool :=
  (F22 x0).bind fun y1 => some ((((y1 == 0) && (F34 x1)) && (F35 x2)) && (F32 x0 x1 x2))
def F6_m1 (y6 : api_Operation × dynposmake_Src) (s6_0 : Int × Int × (List Int) × Int) (y9 : Int × dynposmake_Src) (y11 : Int × dynposmake_Src) (y13 : Int × dynposmake_Src) (y15 : Int × Int) : Option (Ctl Int Bool) :=
  bif (y15.2 == 0) then (guardO [(((y9.1 == 1) || (y9.1 == 2)), true)] (F17 y6.1 y11.1 y13.1) default).bind fun y18 => bif (((y9.1 == 1) || (y9.1 == 2)) && (!y18)) then some (.ret false) else some (.next y15.1) else some (.next s6_0.1)
def c6_2 (y11 : Int × dynposmake_Src) (y13 : Int × dynposmake_Src) (y23 : Int × Int) (y25 : Bool) : Bool := (((y23.2 != 0) || (((y23.1 == 2) || (y23.1 == 1)) && (!y25))) || ((y23.1 == 3) && ((y11.1 == 1) || (y13.1 == 3))))
def F6_l0 (y6 : api_Operation × dynposmake_Src) (s6_0 : Int × Int × (List Int) × Int) : Option (Ctl (Int × Int × (List Int) × Int) Bool) :=
  bif decide (s6_0.2.1 < 16) then (F16 (⟨s6_0.2.2.1, s6_0.2.2.2⟩ : dynposmake_Src) 5).bind fun y9 => (F13 y9.2 1 3).bind fun y11 => (F13 y11.2 1 3).bind fun y13 => (F14 y6.1 s6_0.1 y11.1 y13.1 y9.1).bind fun y15 => andThen (F6_m1 y6 s6_0 y9 y11 y13 y15) (fun v => some (.ret v)) fun s6_1 => (F16 y13.2 2).bind fun y21 => (F15 y6.1 s6_1 y11.1 y13.1 (y21.1 == 1)).bind fun y23 => (guardO [((y23.2 != 0), false), (((y23.1 == 2) || (y23.1 == 1)), true)] (F17 y6.1 y11.1 y13.1) default).bind fun y25 => bif (c6_2 y11 y13 y23 y25) then some (.ret false) else some (.next (y23.1, w64 (s6_0.2.1 + 1), y21.2.L, y21.2.At)) else some (.brk (s6_0.1, s6_0.2.1, s6_0.2.2.1, s6_0.2.2.2))
/-- dynpos/dynposlaw30.OperationFits -/
def F6 (x0 : List Int) : Option Bool :=
  bif decide ((x0.length : Int) > 600) then (F9).bind fun y2 => some y2 else (F10 x0).bind fun y4 => (F11 y4).bind fun y6 => andThen (whileN (F6_l0 y6) 19 (0, 0, y6.2.L, y6.2.At)) some fun s6_0 => (F9).bind fun y28 => some y28
def F18_l0 (s18_0 : Int × (List Int) × Int × (List Int) × (List Int)) : Option (Ctl (Int × (List Int) × Int × (List Int) × (List Int)) Unit) :=
  bif decide (s18_0.1 > 0) then (F12 (⟨s18_0.2.1, s18_0.2.2.1⟩ : dynposmake_Src) [3, 3, 2, 1]).bind fun y4 => (appI 9 s18_0.2.2.2.1 [y4.1]).bind fun y6 => (F12 y4.2 [1, 1, 1, 2, 3]).bind fun y8 => (appI 9 s18_0.2.2.2.2 [y8.1]).bind fun y10 => some (.next (w64 (s18_0.1 - 1), y8.2.L, y8.2.At, y6, y10)) else some (.brk (s18_0.1, s18_0.2.1, s18_0.2.2.1, s18_0.2.2.2.1, s18_0.2.2.2.2))
/-- dynpos/dynposlaw30.zones -/
def F18 (x0 : dynposmake_Src) (x1 : Int) : Option ((List Int) × (List Int) × dynposmake_Src) :=
  (F16 x0 (w64 (x1 + 1))).bind fun y1 => andThen (whileN F18_l0 1152921504606846976 (y1.1, y1.2.L, y1.2.At, ([] : List Int), ([] : List Int))) (fun _ => none) fun s18_0 => some (s18_0.2.2.2.1, s18_0.2.2.2.2, (⟨s18_0.2.1, s18_0.2.2.1⟩ : dynposmake_Src))
def F19_l0 (x0 : api_Operation) (x3 : List Int) (i19_0 : Nat) (x19_0 : Int) (s19_0 : Int × (List Int)) : Option (Ctl (Int × (List Int)) ((List Int) × Int)) :=
  (getI x3 (cnt 0 i19_0)).bind fun y3 => (F15 x0 s19_0.1 x19_0 y3 false).bind fun y5 => bif (y5.2 != 0) then some (.ret ([], y5.2)) else (appI 9 s19_0.2 [y5.1]).bind fun y8 => some (.next (y5.1, y8))
/-- dynpos/operation.Run -/
def F19 (x0 : api_Operation) (x1 : Int) (x2 : List Int) (x3 : List Int) : Option ((List Int) × Int) :=
  bif ((x2.length : Int) != (x3.length : Int)) then some ([], 8) else bif decide ((x2.length : Int) > 400) then some ([], 2) else andThen (foldI (F19_l0 x0 x3) x2 0 (x1, ([] : List Int))) some fun s19_0 => some (s19_0.2, 0)
def F20o1_l0 (x1 : List Int) (i20o1_0 : Nat) (x20o1_0 : Int) (s20o1_0 : Unit) : Option (Ctl Unit (Bool × (List Int))) :=
  (getI x1 (cnt 0 i20o1_0)).bind fun y2 => bif (x20o1_0 != y2) then some (.ret (false, x1)) else some (.next ())
/-- dynpos/dynposref01.Ints -/
def F20o1 (x0 : List Int) (x1 : List Int) : Option (Bool × (List Int)) :=
  bif ((x0.length : Int) != (x1.length : Int)) then some (false, x1) else andThen (foldI (F20o1_l0 x1) x0 0 ()) some fun s20o1_0 => some (true, x1)
def c7_0 (y10 : (List Int) × (List Int) × dynposmake_Src) (y12 : (List Int) × Int) : Bool := ((y12.2 != 0) || ((y12.1.length : Int) != (y10.1.length : Int)))
def c7_1 (x1 : Int) (y10 : (List Int) × (List Int) × dynposmake_Src) (y21 : (List Int) × Int) : Bool := ((y21.1.length : Int) != (Int.tmod (w64 x1) (w64 ((y10.1.length : Int) + 1))))
def c7_2 (x1 : Int) (y10 : (List Int) × (List Int) × dynposmake_Src) : Bool := decide ((Int.tmod (w64 x1) (w64 ((y10.1.length : Int) + 1))) > 0)
/-- dynpos/dynposlaw30.OperationRuns -/
def F7 (x0 : List Int) (x1 : Int) : Option Bool :=
  bif decide ((x0.length : Int) > 600) then (F9).bind fun y2 => some y2 else (F10 x0).bind fun y4 => (F11 y4).bind fun y6 => (F16 y6.2 6).bind fun y8 => (F18 y8.2 20).bind fun y10 => (F19 y6.1 y8.1 y10.1 y10.2.1).bind fun y12 => bif (c7_0 y10 y12) then some false else (nzI (w64 ((y10.1.length : Int) + 1))).bind fun u16 => (cutI y10.1 0 (Int.tmod (w64 x1) (w64 ((y10.1.length : Int) + 1)))).bind fun y18 => (cutI y10.2.1 0 (Int.tmod (w64 x1) (w64 ((y10.1.length : Int) + 1)))).bind fun y20 => (F19 y6.1 y8.1 y18 y20).bind fun y21 => bif (c7_1 x1 y10 y21) then some false else bif (c7_2 x1 y10) then (getI y21.1 (w64 ((Int.tmod (w64 x1) (w64 ((y10.1.length : Int) + 1))) - 1))).bind fun y25 => (cutI y10.1 (Int.tmod (w64 x1) (w64 ((y10.1.length : Int) + 1))) (y10.1.length : Int)).bind fun y28 => (cutI y10.2.1 (Int.tmod (w64 x1) (w64 ((y10.1.length : Int) + 1))) (y10.2.1.length : Int)).bind fun y30 => (F19 y6.1 y25 y28 y30).bind fun y31 => (guardO [(((y21.2 == 0) && (y31.2 == 0)), true)] (appI 9 ([] : List Int) y21.1) default).bind fun y33 => (guardO [(((y21.2 == 0) && (y31.2 == 0)), true)] (appI 9 y33 y31.1) default).bind fun y35 => (guardO [(((y21.2 == 0) && (y31.2 == 0)), true)] (F20o1 y12.1 y35) (default, y35)).bind fun y37 => (guardO [((((y21.2 == 0) && (y31.2 == 0)) && y37.1), true)] (F9) default).bind fun y39 => some ((((y21.2 == 0) && (y31.2 == 0)) && y37.1) && y39) else (cutI y10.1 (Int.tmod (w64 x1) (w64 ((y10.1.length : Int) + 1))) (y10.1.length : Int)).bind fun y42 => (cutI y10.2.1 (Int.tmod (w64 x1) (w64 ((y10.1.length : Int) + 1))) (y10.2.1.length : Int)).bind fun y44 => (F19 y6.1 y8.1 y42 y44).bind fun y45 => (guardO [(((y21.2 == 0) && (y45.2 == 0)), true)] (appI 9 ([] : List Int) y21.1) default).bind fun y47 => (guardO [(((y21.2 == 0) && (y45.2 == 0)), true)] (appI 9 y47 y45.1) default).bind fun y49 => (guardO [(((y21.2 == 0) && (y45.2 == 0)), true)] (F20o1 y12.1 y49) (default, y49)).bind fun y51 => (guardO [((((y21.2 == 0) && (y45.2 == 0)) && y51.1), true)] (F9) default).bind fun y53 => some ((((y21.2 == 0) && (y45.2 == 0)) && y51.1) && y53)
/-- (*dynpos/dynposmake.Src).BentOperation -/
def F21 (x0 : dynposmake_Src) (x1 : api_Operation) : Option (api_Operation × dynposmake_Src) :=
  (F16 x0 4).bind fun y1 => bif (y1.1 == 0) then (F28 y1.2 [⟨#[]⟩, ⟨#[65]⟩, ⟨#[97, 32, 98]⟩, ⟨#[116, 104, 105, 114, 116, 101, 101, 110, 45, 98, 121, 116, 101]⟩]).bind fun y4 => some ((⟨y4.1, x1.Class, x1.Circle, x1.Drift⟩ : api_Operation), y4.2) else bif (y1.1 == 1) then (F12 y1.2 [0, 4, (-1)]).bind fun y7 => some ((⟨x1.Name, y7.1, x1.Circle, x1.Drift⟩ : api_Operation), y7.2) else bif (y1.1 == 2) then (F12 y1.2 [(-1), 1001]).bind fun y10 => some ((⟨x1.Name, x1.Class, x1.Circle, y10.1⟩ : api_Operation), y10.2) else (F12 y1.2 [(-1), w64 (x1.Circle.Red + 1), 1000001]).bind fun y12 => some ((⟨x1.Name, x1.Class, (⟨x1.Circle.Place, y12.1, x1.Circle.Red⟩ : api_Circle), x1.Drift⟩ : api_Operation), y12.2)
def c38_0 (x0 : ByteArray) (y1 : UInt8) (y3 : UInt8) : Bool := (((((x0.size : Int) == 0) || (decide ((x0.size : Int) > 12))) || (decide ((y1.toNat : Int) < 97))) || (decide ((y3.toNat : Int) > 122)))
def c38_3 (y7 : UInt8) (y9 : UInt8) (y11 : UInt8) (y13 : UInt8) (y15 : UInt8) : Bool := !((((decide ((y7.toNat : Int) ≥ 97)) && (decide ((y9.toNat : Int) ≤ 122))) || ((decide ((y11.toNat : Int) ≥ 48)) && (decide ((y13.toNat : Int) ≤ 57)))) || ((y15.toNat : Int) == 45))
def F38_l0 (x0 : ByteArray) (s38_0 : Int) : Option (Ctl Int Bool) :=
  bif decide (s38_0 < (x0.size : Int)) then (byteI x0 s38_0).bind fun y7 => (guardO [(decide ((y7.toNat : Int) ≥ 97), true)] (byteI x0 s38_0) default).bind fun y9 => (guardO [(((decide ((y7.toNat : Int) ≥ 97)) && (decide ((y9.toNat : Int) ≤ 122))), false)] (byteI x0 s38_0) default).bind fun y11 => (guardO [(((decide ((y7.toNat : Int) ≥ 97)) && (decide ((y9.toNat : Int) ≤ 122))), false), (decide ((y11.toNat : Int) ≥ 48), true)] (byteI x0 s38_0) default).bind fun y13 => (guardO [((((decide ((y7.toNat : Int) ≥ 97)) && (decide ((y9.toNat : Int) ≤ 122))) || ((decide ((y11.toNat : Int) ≥ 48)) && (decide ((y13.toNat : Int) ≤ 57)))), false)] (byteI x0 s38_0) default).bind fun y15 => bif (c38_3 y7 y9 y11 y13 y15) then some (.ret false) else some (.next (w64 (s38_0 + 1))) else some (.brk s38_0)
/-- dynpos/dynposref26.Word -/
def F38 (x0 : ByteArray) : Option Bool :=
  (guardO [((((x0.size : Int) == 0) || (decide ((x0.size : Int) > 12))), false)] (byteI x0 0) default).bind fun y1 => (guardO [(((((x0.size : Int) == 0) || (decide ((x0.size : Int) > 12))) || (decide ((y1.toNat : Int) < 97))), false)] (byteI x0 0) default).bind fun y3 => bif (c38_0 x0 y1 y3) then some false else andThen (whileN (F38_l0 x0) 1152921504606846976 0) some fun s38_0 => some true
/-- dynpos/dynposref30.in -/
def F39 (x0 : Int) (x1 : Int) (x2 : Int) : Bool :=
  ((decide (x0 ≥ x1)) && (decide (x0 ≤ x2)))
/-- dynpos/dynposref03.Valid -/
def F44 (x0 : api_Point) : Bool :=
  ((((decide (x0.X ≥ (-100000000))) && (decide (x0.X ≤ 100000000))) && (decide (x0.Y ≥ (-100000000)))) && (decide (x0.Y ≤ 100000000)))
def c40_0 (x0 : api_Circle) : Bool := ((((!(F44 x0.Place)) || (decide (x0.Yellow < 0))) || (decide (x0.Yellow > x0.Red))) || (decide (x0.Red > 1000000)))
/-- dynpos/dynposref29.Check -/
def F40 (x0 : api_Circle) : Int :=
  bif (c40_0 x0) then 65 else 0
def c23_0 (x0 : api_Operation) (y1 : Bool) : Bool := (((!y1) || (!(F39 x0.Class 1 3))) || (!(F39 x0.Drift 0 1000)))
/-- dynpos/dynposref30.Check -/
def F23 (x0 : api_Operation) : Option Int :=
  (F38 x0.Name).bind fun y1 => bif (c23_0 x0 y1) then some 66 else some (F40 x0.Circle)
/-- dynpos/dynposref30.right -/
def F41 (x0 : Int) (x1 : Int) : Bool :=
  ((F39 x0 1 3) && (F39 x1 1 3))
/-- dynpos/dynposref30.Fit -/
def F26 (x0 : api_Operation) (x1 : Int) (x2 : Int) : Option Bool :=
  (F23 x0).bind fun y1 => some ((((y1 == 0) && (F41 x1 x2)) && (decide (x1 ≥ x0.Class))) && (x2 == 1))
def F24_m0 (x1 : Int) : Option (Ctl Bool Unit) :=
  bif (x1 == 2) then some (.next (x1 == 2)) else some (.next (x1 == 3))
/-- dynpos/dynposref30.Next -/
def F24 (x0 : api_Operation) (x1 : Int) (x2 : Int) (x3 : Int) (x4 : Bool) : Option (Int × Int) :=
  (F23 x0).bind fun y1 => bif (y1 != 0) then some (0, y1) else bif ((!(F39 x1 0 5)) || (!(F41 x2 x3))) then some (0, 1) else bif (x1 == 1) then (F26 x0 x2 x3).bind fun y6 => bif !y6 then some (0, 0) else some (x1, 0) else andThen (F24_m0 x1) (fun _ => none) fun s24_0 => bif s24_0 then bif ((x3 == 3) || (x2 == 1)) then some (4, 0) else (F26 x0 x2 x3).bind fun y12 => bif y12 then some (2, 0) else some (3, 0) else bif (x1 == 4) then bif x4 then some (5, 0) else some (x1, 0) else some (x1, 0)
def c25_0 (x1 : Int) (x2 : Int) (x3 : Int) (x4 : Int) : Bool := (((!(F39 x1 0 5)) || (!(F41 x2 x3))) || (!(F39 x4 0 4)))
def F25_m0 (x1 : Int) (x4 : Int) : Option (Ctl Int Unit) :=
  bif (x4 == 0) then some (.next x1) else bif (x4 == 1) then bif (x1 == 0) then some (.next 1) else some (.next (-1)) else bif (x4 == 2) then bif (x1 == 1) then some (.next 2) else some (.next (-1)) else bif (x4 == 3) then bif (x1 == 1) then bif ((x1 == 2) || (x1 == 3)) then some (.next 4) else some (.next 0) else bif ((x1 == 2) || (x1 == 3)) then some (.next 4) else some (.next (-1)) else bif (x4 == 4) then bif (x1 == 5) then some (.next 0) else some (.next (-1)) else some (.next (-1))
/-- dynpos/dynposref30.Ask -/
def F25 (x0 : api_Operation) (x1 : Int) (x2 : Int) (x3 : Int) (x4 : Int) : Option (Int × Int) :=
  (F23 x0).bind fun y1 => bif (y1 != 0) then some (0, y1) else bif (c25_0 x1 x2 x3 x4) then some (0, 1) else andThen (F25_m0 x1 x4) (fun _ => none) fun s25_0 => bif decide (s25_0 < 0) then some (0, 66) else bif ((x4 == 1) || (x4 == 2)) then bif decide (x2 < x0.Class) then some (0, 64) else bif (x3 != 1) then some (0, 65) else some (s25_0, 0) else some (s25_0, 0)
def F27_l0 (x0 : api_Operation) (x3 : List Int) (i27_0 : Nat) (x27_0 : Int) (s27_0 : Int × (List Int)) : Option (Ctl (Int × (List Int)) ((List Int) × Int)) :=
  (getI x3 (cnt 0 i27_0)).bind fun y3 => (F24 x0 s27_0.1 x27_0 y3 false).bind fun y5 => bif (y5.2 != 0) then some (.ret ([], y5.2)) else (appI 9 s27_0.2 [y5.1]).bind fun y8 => some (.next (y5.1, y8))
/-- dynpos/dynposref30.Run -/
def F27 (x0 : api_Operation) (x1 : Int) (x2 : List Int) (x3 : List Int) : Option ((List Int) × Int) :=
  bif ((x2.length : Int) != (x3.length : Int)) then some ([], 8) else bif decide ((x2.length : Int) > 400) then some ([], 2) else andThen (foldI (F27_l0 x0 x3) x2 0 (x1, ([] : List Int))) some fun s27_0 => some (s27_0.2, 0)
def F20_l0 (x1 : List Int) (i20_0 : Nat) (x20_0 : Int) (s20_0 : Unit) : Option (Ctl Unit Bool) :=
  (getI x1 (cnt 0 i20_0)).bind fun y2 => bif (x20_0 != y2) then some (.ret false) else some (.next ())
/-- dynpos/dynposref01.Ints -/
def F20 (x0 : List Int) (x1 : List Int) : Option Bool :=
  bif ((x0.length : Int) != (x1.length : Int)) then some false else andThen (foldI (F20_l0 x1) x0 0 ()) some fun s20_0 => some true
def c8_0 (x0 : List Int) (x1 : api_Operation) (x7 : List Int) (x8 : List Int) : Bool := ((((decide ((x0.length : Int) > 600)) || (decide ((x1.Name.size : Int) > 40))) || (decide ((x7.length : Int) > 450))) || (decide ((x8.length : Int) > 450)))
def c8_1 (y31 : Int × Int) (y33 : Int × Int) (y35 : Int × Int) (y37 : Int × Int) (y39 : Bool) (y41 : Bool) : Bool := (((((y31.1 != y33.1) || (y31.2 != y33.2)) || (y35.1 != y37.1)) || (y35.2 != y37.2)) || (!(y39 == y41)))
def c8_2 (y44 : Int × Int) (y46 : Int × Int) (y48 : Int × Int) (y50 : Int × Int) (y52 : Bool) (y54 : Bool) : Bool := (((((y44.1 != y46.1) || (y44.2 != y46.2)) || (y48.1 != y50.1)) || (y48.2 != y50.2)) || (!(y52 == y54)))
def c8_3 (y57 : Int × Int) (y59 : Int × Int) (y61 : Int × Int) (y63 : Int × Int) (y65 : Bool) (y67 : Bool) : Bool := (((((y57.1 != y59.1) || (y57.2 != y59.2)) || (y61.1 != y63.1)) || (y61.2 != y63.2)) || (!(y65 == y67)))
def c8_4 (y120 : Int × Int) (y122 : Int × Int) (y124 : Int × Int) (y126 : Int × Int) (y128 : Bool) (y130 : Bool) : Bool := (((((y120.1 != y122.1) || (y120.2 != y122.2)) || (y124.1 != y126.1)) || (y124.2 != y126.2)) || (!(y128 == y130)))
def c8_5 (y133 : Int × Int) (y135 : Int × Int) (y137 : Int × Int) (y139 : Int × Int) (y141 : Bool) (y143 : Bool) : Bool := (((((y133.1 != y135.1) || (y133.2 != y135.2)) || (y137.1 != y139.1)) || (y137.2 != y139.2)) || (!(y141 == y143)))
def c8_6 (y146 : Int × Int) (y148 : Int × Int) (y150 : Int × Int) (y152 : Int × Int) (y154 : Bool) (y156 : Bool) : Bool := (((((y146.1 != y148.1) || (y146.2 != y148.2)) || (y150.1 != y152.1)) || (y150.2 != y152.2)) || (!(y154 == y156)))
def c8_7 (y209 : Int × Int) (y211 : Int × Int) (y213 : Int × Int) (y215 : Int × Int) (y217 : Bool) (y219 : Bool) : Bool := (((((y209.1 != y211.1) || (y209.2 != y211.2)) || (y213.1 != y215.1)) || (y213.2 != y215.2)) || (!(y217 == y219)))
def c8_8 (y222 : Int × Int) (y224 : Int × Int) (y226 : Int × Int) (y228 : Int × Int) (y230 : Bool) (y232 : Bool) : Bool := (((((y222.1 != y224.1) || (y222.2 != y224.2)) || (y226.1 != y228.1)) || (y226.2 != y228.2)) || (!(y230 == y232)))
def c8_9 (y235 : Int × Int) (y237 : Int × Int) (y239 : Int × Int) (y241 : Int × Int) (y243 : Bool) (y245 : Bool) : Bool := (((((y235.1 != y237.1) || (y235.2 != y237.2)) || (y239.1 != y241.1)) || (y239.2 != y241.2)) || (!(y243 == y245)))
/-- dynpos/dynposlaw30.OperationExact -/
def F8 (x0 : List Int) (x1 : api_Operation) (x2 : Int) (x3 : Int) (x4 : Int) (x5 : Int) (x6 : Bool) (x7 : List Int) (x8 : List Int) : Option Bool :=
  bif (c8_0 x0 x1 x7 x8) then (F9).bind fun y2 => some y2 else (F10 x0).bind fun y4 => (F11 y4).bind fun y6 => (F21 y6.2 y6.1).bind fun y8 => (F22 y6.1).bind fun y10 => (F23 y6.1).bind fun y12 => bif (y10 != y12) then some false else (F16 y8.2 6).bind fun y15 => (F13 y15.2 1 3).bind fun y17 => (F13 y17.2 1 3).bind fun y19 => (F16 y19.2 5).bind fun y21 => (F13 y21.2 (-1) 6).bind fun y23 => (F13 y23.2 0 4).bind fun y25 => (F13 y25.2 0 4).bind fun y27 => (F13 y27.2 (-1) 5).bind fun y29 => (F15 y6.1 x2 x3 x4 x6).bind fun y31 => (F24 y6.1 x2 x3 x4 x6).bind fun y33 => (F14 y6.1 x2 x3 x4 x5).bind fun y35 => (F25 y6.1 x2 x3 x4 x5).bind fun y37 => (guardO [(((((y31.1 != y33.1) || (y31.2 != y33.2)) || (y35.1 != y37.1)) || (y35.2 != y37.2)), false)] (F17 y6.1 x3 x4) default).bind fun y39 => (guardO [(((((y31.1 != y33.1) || (y31.2 != y33.2)) || (y35.1 != y37.1)) || (y35.2 != y37.2)), false)] (F26 y6.1 x3 x4) default).bind fun y41 => bif (c8_1 y31 y33 y35 y37 y39 y41) then some false else (F15 y6.1 y15.1 y17.1 y19.1 x6).bind fun y44 => (F24 y6.1 y15.1 y17.1 y19.1 x6).bind fun y46 => (F14 y6.1 y15.1 y17.1 y19.1 y21.1).bind fun y48 => (F25 y6.1 y15.1 y17.1 y19.1 y21.1).bind fun y50 => (guardO [(((((y44.1 != y46.1) || (y44.2 != y46.2)) || (y48.1 != y50.1)) || (y48.2 != y50.2)), false)] (F17 y6.1 y17.1 y19.1) default).bind fun y52 => (guardO [(((((y44.1 != y46.1) || (y44.2 != y46.2)) || (y48.1 != y50.1)) || (y48.2 != y50.2)), false)] (F26 y6.1 y17.1 y19.1) default).bind fun y54 => bif (c8_2 y44 y46 y48 y50 y52 y54) then some false else (F15 y6.1 y23.1 y25.1 y27.1 x6).bind fun y57 => (F24 y6.1 y23.1 y25.1 y27.1 x6).bind fun y59 => (F14 y6.1 y23.1 y25.1 y27.1 y29.1).bind fun y61 => (F25 y6.1 y23.1 y25.1 y27.1 y29.1).bind fun y63 => (guardO [(((((y57.1 != y59.1) || (y57.2 != y59.2)) || (y61.1 != y63.1)) || (y61.2 != y63.2)), false)] (F17 y6.1 y25.1 y27.1) default).bind fun y65 => (guardO [(((((y57.1 != y59.1) || (y57.2 != y59.2)) || (y61.1 != y63.1)) || (y61.2 != y63.2)), false)] (F26 y6.1 y25.1 y27.1) default).bind fun y67 => bif (c8_3 y57 y59 y61 y63 y65 y67) then some false else (F18 y29.2 12).bind fun y70 => (F16 y70.2.2 6).bind fun y72 => (F19 y6.1 y72.1 x7 x8).bind fun y74 => (F27 y6.1 y72.1 x7 x8).bind fun y76 => (guardO [((y74.2 != y76.2), false)] (F20 y74.1 y76.1) default).bind fun y78 => bif ((y74.2 != y76.2) || (!y78)) then some false else (F16 y72.2 6).bind fun y81 => (F19 y6.1 y81.1 y70.1 y70.2.1).bind fun y83 => (F27 y6.1 y81.1 y70.1 y70.2.1).bind fun y85 => (guardO [((y83.2 != y85.2), false)] (F20 y83.1 y85.1) default).bind fun y87 => bif ((y83.2 != y85.2) || (!y87)) then some false else (F16 y81.2 6).bind fun y90 => (F19 y6.1 y90.1 y70.1 x8).bind fun y92 => (F27 y6.1 y90.1 y70.1 x8).bind fun y94 => (guardO [((y92.2 != y94.2), false)] (F20 y92.1 y94.1) default).bind fun y96 => bif ((y92.2 != y94.2) || (!y96)) then some false else (F22 y8.1).bind fun y99 => (F23 y8.1).bind fun y101 => bif (y99 != y101) then some false else (F16 y90.2 6).bind fun y104 => (F13 y104.2 1 3).bind fun y106 => (F13 y106.2 1 3).bind fun y108 => (F16 y108.2 5).bind fun y110 => (F13 y110.2 (-1) 6).bind fun y112 => (F13 y112.2 0 4).bind fun y114 => (F13 y114.2 0 4).bind fun y116 => (F13 y116.2 (-1) 5).bind fun y118 => (F15 y8.1 x2 x3 x4 x6).bind fun y120 => (F24 y8.1 x2 x3 x4 x6).bind fun y122 => (F14 y8.1 x2 x3 x4 x5).bind fun y124 => (F25 y8.1 x2 x3 x4 x5).bind fun y126 => (guardO [(((((y120.1 != y122.1) || (y120.2 != y122.2)) || (y124.1 != y126.1)) || (y124.2 != y126.2)), false)] (F17 y8.1 x3 x4) default).bind fun y128 => (guardO [(((((y120.1 != y122.1) || (y120.2 != y122.2)) || (y124.1 != y126.1)) || (y124.2 != y126.2)), false)] (F26 y8.1 x3 x4) default).bind fun y130 => bif (c8_4 y120 y122 y124 y126 y128 y130) then some false else (F15 y8.1 y104.1 y106.1 y108.1 x6).bind fun y133 => (F24 y8.1 y104.1 y106.1 y108.1 x6).bind fun y135 => (F14 y8.1 y104.1 y106.1 y108.1 y110.1).bind fun y137 => (F25 y8.1 y104.1 y106.1 y108.1 y110.1).bind fun y139 => (guardO [(((((y133.1 != y135.1) || (y133.2 != y135.2)) || (y137.1 != y139.1)) || (y137.2 != y139.2)), false)] (F17 y8.1 y106.1 y108.1) default).bind fun y141 => (guardO [(((((y133.1 != y135.1) || (y133.2 != y135.2)) || (y137.1 != y139.1)) || (y137.2 != y139.2)), false)] (F26 y8.1 y106.1 y108.1) default).bind fun y143 => bif (c8_5 y133 y135 y137 y139 y141 y143) then some false else (F15 y8.1 y112.1 y114.1 y116.1 x6).bind fun y146 => (F24 y8.1 y112.1 y114.1 y116.1 x6).bind fun y148 => (F14 y8.1 y112.1 y114.1 y116.1 y118.1).bind fun y150 => (F25 y8.1 y112.1 y114.1 y116.1 y118.1).bind fun y152 => (guardO [(((((y146.1 != y148.1) || (y146.2 != y148.2)) || (y150.1 != y152.1)) || (y150.2 != y152.2)), false)] (F17 y8.1 y114.1 y116.1) default).bind fun y154 => (guardO [(((((y146.1 != y148.1) || (y146.2 != y148.2)) || (y150.1 != y152.1)) || (y150.2 != y152.2)), false)] (F26 y8.1 y114.1 y116.1) default).bind fun y156 => bif (c8_6 y146 y148 y150 y152 y154 y156) then some false else (F18 y118.2 12).bind fun y159 => (F16 y159.2.2 6).bind fun y161 => (F19 y8.1 y161.1 x7 x8).bind fun y163 => (F27 y8.1 y161.1 x7 x8).bind fun y165 => (guardO [((y163.2 != y165.2), false)] (F20 y163.1 y165.1) default).bind fun y167 => bif ((y163.2 != y165.2) || (!y167)) then some false else (F16 y161.2 6).bind fun y170 => (F19 y8.1 y170.1 y159.1 y159.2.1).bind fun y172 => (F27 y8.1 y170.1 y159.1 y159.2.1).bind fun y174 => (guardO [((y172.2 != y174.2), false)] (F20 y172.1 y174.1) default).bind fun y176 => bif ((y172.2 != y174.2) || (!y176)) then some false else (F16 y170.2 6).bind fun y179 => (F19 y8.1 y179.1 y159.1 x8).bind fun y181 => (F27 y8.1 y179.1 y159.1 x8).bind fun y183 => (guardO [((y181.2 != y183.2), false)] (F20 y181.1 y183.1) default).bind fun y185 => bif ((y181.2 != y183.2) || (!y185)) then some false else (F22 x1).bind fun y188 => (F23 x1).bind fun y190 => bif (y188 != y190) then some false else (F16 y179.2 6).bind fun y193 => (F13 y193.2 1 3).bind fun y195 => (F13 y195.2 1 3).bind fun y197 => (F16 y197.2 5).bind fun y199 => (F13 y199.2 (-1) 6).bind fun y201 => (F13 y201.2 0 4).bind fun y203 => (F13 y203.2 0 4).bind fun y205 => (F13 y205.2 (-1) 5).bind fun y207 => (F15 x1 x2 x3 x4 x6).bind fun y209 => (F24 x1 x2 x3 x4 x6).bind fun y211 => (F14 x1 x2 x3 x4 x5).bind fun y213 => (F25 x1 x2 x3 x4 x5).bind fun y215 => (guardO [(((((y209.1 != y211.1) || (y209.2 != y211.2)) || (y213.1 != y215.1)) || (y213.2 != y215.2)), false)] (F17 x1 x3 x4) default).bind fun y217 => (guardO [(((((y209.1 != y211.1) || (y209.2 != y211.2)) || (y213.1 != y215.1)) || (y213.2 != y215.2)), false)] (F26 x1 x3 x4) default).bind fun y219 => bif (c8_7 y209 y211 y213 y215 y217 y219) then some false else (F15 x1 y193.1 y195.1 y197.1 x6).bind fun y222 => (F24 x1 y193.1 y195.1 y197.1 x6).bind fun y224 => (F14 x1 y193.1 y195.1 y197.1 y199.1).bind fun y226 => (F25 x1 y193.1 y195.1 y197.1 y199.1).bind fun y228 => (guardO [(((((y222.1 != y224.1) || (y222.2 != y224.2)) || (y226.1 != y228.1)) || (y226.2 != y228.2)), false)] (F17 x1 y195.1 y197.1) default).bind fun y230 => (guardO [(((((y222.1 != y224.1) || (y222.2 != y224.2)) || (y226.1 != y228.1)) || (y226.2 != y228.2)), false)] (F26 x1 y195.1 y197.1) default).bind fun y232 => bif (c8_8 y222 y224 y226 y228 y230 y232) then some false else (F15 x1 y201.1 y203.1 y205.1 x6).bind fun y235 => (F24 x1 y201.1 y203.1 y205.1 x6).bind fun y237 => (F14 x1 y201.1 y203.1 y205.1 y207.1).bind fun y239 => (F25 x1 y201.1 y203.1 y205.1 y207.1).bind fun y241 => (guardO [(((((y235.1 != y237.1) || (y235.2 != y237.2)) || (y239.1 != y241.1)) || (y239.2 != y241.2)), false)] (F17 x1 y203.1 y205.1) default).bind fun y243 => (guardO [(((((y235.1 != y237.1) || (y235.2 != y237.2)) || (y239.1 != y241.1)) || (y239.2 != y241.2)), false)] (F26 x1 y203.1 y205.1) default).bind fun y245 => bif (c8_9 y235 y237 y239 y241 y243 y245) then some false else (F18 y207.2 12).bind fun y248 => (F16 y248.2.2 6).bind fun y250 => (F19 x1 y250.1 x7 x8).bind fun y252 => (F27 x1 y250.1 x7 x8).bind fun y254 => (guardO [((y252.2 != y254.2), false)] (F20 y252.1 y254.1) default).bind fun y256 => bif ((y252.2 != y254.2) || (!y256)) then some false else (F16 y250.2 6).bind fun y259 => (F19 x1 y259.1 y248.1 y248.2.1).bind fun y261 => (F27 x1 y259.1 y248.1 y248.2.1).bind fun y263 => (guardO [((y261.2 != y263.2), false)] (F20 y261.1 y263.1) default).bind fun y265 => bif ((y261.2 != y263.2) || (!y265)) then some false else (F16 y259.2 6).bind fun y268 => (F19 x1 y268.1 y248.1 x8).bind fun y270 => (F27 x1 y268.1 y248.1 x8).bind fun y272 => (guardO [((y270.2 != y272.2), false)] (F20 y270.1 y272.1) default).bind fun y274 => bif ((y270.2 != y272.2) || (!y274)) then some false else (F9).bind fun y277 => some y277
end Go.Proofs.YtakbldjmgfcipaaDoor
