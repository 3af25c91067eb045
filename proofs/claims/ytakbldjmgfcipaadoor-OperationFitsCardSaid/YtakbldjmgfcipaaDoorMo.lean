import Derived.Test.YtakbldjmgfcipaaDoorTy
set_option linter.unusedVariables false
namespace Go.Proofs.YtakbldjmgfcipaaDoor
open Go.SL
def c36_0 (x0 : ByteArray) : Bool := ((decide ((x0.size : Int) < 1)) || (decide ((x0.size : Int) > 12)))
def c36_2 (i36_0 : Nat) (x36_0 : Int) : Bool := ((!((decide (x36_0 ≥ 97)) && (decide (x36_0 ≤ 122)))) && (((cnt 0 i36_0) == 0) || ((x36_0 != 45) && ((decide (x36_0 < 48)) || (decide (x36_0 > 57))))))
def F36_l0 (i36_0 : Nat) (x36_0 : Int) (s36_0 : Unit) : Option (Ctl Unit Bool) :=
  bif (c36_2 i36_0 x36_0) then some (.ret false) else some (.next ())
/-- dynpos/design.Word -/
def F36 (x0 : ByteArray) : Option Bool :=
  bif (c36_0 x0) then some false else (bytesO x0).bind fun y2 => andThen (foldI F36_l0 y2 0 ()) some fun s36_0 => some true
/-- dynpos/operation.among -/
def F31 (x0 : Int) (x1 : Int) (x2 : Int) : Bool :=
  ((decide (x0 ≥ x1)) && (decide (x0 ≤ x2)))
/-- dynpos/operation.level -/
def F34 (x0 : Int) : Bool :=
  F31 x0 1 3
/-- dynpos/frame.Valid -/
def F43 (x0 : api_Point) : Bool :=
  ((decide ((max x0.X x0.Y) ≤ 100000000)) && (decide ((min x0.X x0.Y) ≥ (-100000000))))
def c37_0 (x0 : api_Circle) : Bool := ((((!(F43 x0.Place)) || (decide (x0.Yellow < 0))) || (decide (x0.Yellow > x0.Red))) || (decide (x0.Red > 1000000)))
/-- dynpos/circle.Check -/
def F37 (x0 : api_Circle) : Int :=
  bif (c37_0 x0) then 65 else 0
def c22_0 (x0 : api_Operation) (y1 : Bool) : Bool := (((!y1) || (!(F34 x0.Class))) || (!(F31 x0.Drift 0 1000)))
/-- dynpos/operation.Check -/
def F22 (x0 : api_Operation) : Option Int :=
  (F36 x0.Name).bind fun y1 => bif (c22_0 x0 y1) then some 66 else some (F37 x0.Circle)
/-- dynpos/operation.state -/
def F42 (x0 : Int) : Bool :=
  F31 x0 0 5
/-- dynpos/operation.zone -/
def F35 (x0 : Int) : Bool :=
  F31 x0 1 3
def c30_0 (x1 : Int) (x2 : Int) (x3 : Int) : Bool := (((!(F42 x1)) || (!(F34 x2))) || (!(F35 x3)))
/-- dynpos/operation.check -/
def F30 (x0 : api_Operation) (x1 : Int) (x2 : Int) (x3 : Int) : Option Int :=
  (F22 x0).bind fun y1 => bif (y1 != 0) then some y1 else bif (c30_0 x1 x2 x3) then some 1 else some 0
/-- dynpos/operation.fit -/
def F32 (x0 : api_Operation) (x1 : Int) (x2 : Int) : Bool :=
  ((decide (x1 ≥ x0.Class)) && (x2 == 1))
def F15_m0 (x1 : Int) : Option (Ctl Bool Unit) :=
  bif (x1 == 2) then some (.next (x1 == 2)) else some (.next (x1 == 3))
/-- dynpos/operation.Next -/
def F15 (x0 : api_Operation) (x1 : Int) (x2 : Int) (x3 : Int) (x4 : Bool) : Option (Int × Int) :=
  (F30 x0 x1 x2 x3).bind fun y1 => bif (y1 != 0) then some (0, y1) else bif (x1 == 1) then bif !(F32 x0 x2 x3) then some (0, 0) else some (x1, 0) else andThen (F15_m0 x1) (fun _ => none) fun s15_0 => bif s15_0 then bif ((x3 == 3) || (x2 == 1)) then some (4, 0) else bif F32 x0 x2 x3 then some (2, 0) else some (3, 0) else bif (x1 == 4) then bif x4 then some (5, 0) else some (x1, 0) else some (x1, 0)
/-- dynpos/operation.Ask -/
def F14 (x0 : api_Operation) (x1 : Int) (x2 : Int) (x3 : Int) (x4 : Int) : Option (Int × Int) :=
  (F30 x0 x1 x2 x3).bind fun y1 => bif (y1 != 0) then some (0, y1) else bif !(F31 x4 0 4) then some (0, 1) else bif (x4 == 0) then some (x1, 0) else bif ((1 != x4) || (0 != x1)) then bif ((2 != x4) || (1 != x1)) then bif ((3 != x4) || (1 != x1)) then bif ((3 != x4) || (2 != x1)) then bif ((3 != x4) || (3 != x1)) then bif ((4 != x4) || (5 != x1)) then some (0, 66) else some (0, 0) else some (4, 0) else some (4, 0) else some (0, 0) else bif decide (x2 < x0.Class) then some (0, 64) else bif (x3 != 1) then some (0, 65) else some (2, 0) else bif decide (x2 < x0.Class) then some (0, 64) else bif (x3 != 1) then some (0, 65) else some (1, 0)
/-- dynpos/dynposlaw30.sane -/
def F9  : Option Bool :=
  (F15 (⟨⟨#[100, 114, 105, 108, 108]⟩, 3, (⟨(⟨0, 0⟩ : api_Point), 0, 0⟩ : api_Circle), 0⟩ : api_Operation) 2 2 1 false).bind fun y1 => (F15 (⟨⟨#[100, 114, 105, 108, 108]⟩, 3, (⟨(⟨0, 0⟩ : api_Point), 0, 0⟩ : api_Circle), 0⟩ : api_Operation) 2 1 1 false).bind fun y3 => (F14 (⟨⟨#[100, 114, 105, 108, 108]⟩, 3, (⟨(⟨0, 0⟩ : api_Point), 0, 0⟩ : api_Circle), 0⟩ : api_Operation) 0 2 1 1).bind fun y5 => some (((((y1.2 == 0) && (y3.2 == 0)) && (y1.1 == 3)) && (y3.1 == 4)) && (y5.2 == 64))
/-- dynpos/dynposmake.New -/
def F10 (x0 : List Int) : Option dynposmake_Src :=
  (cutI x0 0 (min (x0.length : Int) 600)).bind fun y2 => some (⟨y2, 0⟩ : dynposmake_Src)
/-- dynpos/dynposmake.Mod -/
def F33 (x0 : Int) (x1 : Int) : Option Int :=
  bif decide (x1 < 1) then some 0 else (nzI x1).bind fun u3 => (nzI x1).bind fun u5 => some (Int.tmod (w64 ((Int.tmod x0 x1) + x1)) x1)
/-- (*dynpos/dynposmake.Src).N -/
def F16 (x0 : dynposmake_Src) (x1 : Int) : Option (Int × dynposmake_Src) :=
  bif decide (x0.At ≥ (x0.L.length : Int)) then some (0, x0) else (getI x0.L (w64 ((w64 (x0.At + 1)) - 1))).bind fun y2 => (F33 y2 x1).bind fun y4 => some (y4, (⟨x0.L, w64 (x0.At + 1)⟩ : dynposmake_Src))
/-- (*dynpos/dynposmake.Src).Text -/
def F28 (x0 : dynposmake_Src) (x1 : List ByteArray) : Option (ByteArray × dynposmake_Src) :=
  (F16 x0 (x1.length : Int)).bind fun y1 => (getI x1 y1.1).bind fun y3 => some (y3, y1.2)
/-- (*dynpos/dynposmake.Src).Range -/
def F13 (x0 : dynposmake_Src) (x1 : Int) (x2 : Int) : Option (Int × dynposmake_Src) :=
  (F16 x0 (w64 ((w64 (x2 - x1)) + 1))).bind fun y1 => some (w64 (x1 + y1.1), y1.2)
/-- (*dynpos/dynposmake.Src).Pick -/
def F12 (x0 : dynposmake_Src) (x1 : List Int) : Option (Int × dynposmake_Src) :=
  (F16 x0 (x1.length : Int)).bind fun y1 => (getI x1 y1.1).bind fun y3 => some (y3, y1.2)
/-- (*dynpos/dynposmake.Src).Circle -/
def F29 (x0 : dynposmake_Src) : Option (api_Circle × dynposmake_Src) :=
  (F12 x0 [0, 300, 500, 2000]).bind fun y1 => (F12 y1.2 [0, 0, 200]).bind fun y3 => (F12 y3.2 [0, 0, (-100)]).bind fun y5 => (F12 y5.2 [0, 500, 3000]).bind fun y7 => some ((⟨(⟨y3.1, y5.1⟩ : api_Point), y1.1, w64 (y1.1 + y7.1)⟩ : api_Circle), y7.2)
/-- (*dynpos/dynposmake.Src).Operation -/
def F11 (x0 : dynposmake_Src) : Option (api_Operation × dynposmake_Src) :=
  (F28 x0 [⟨#[100, 114, 105, 108, 108]⟩, ⟨#[100, 105, 118, 101]⟩, ⟨#[97, 45, 49]⟩]).bind fun y1 => (F13 y1.2 1 3).bind fun y3 => (F29 y3.2).bind fun y5 => (F12 y5.2 [0, 10, 50, 1000]).bind fun y7 => some ((⟨y1.1, y3.1, y5.1, y7.1⟩ : api_Operation), y7.2)
def F3_m1 (s3_0 : Int × Int × (List Int) × Int) (y17 : Int × Int) : Option (Ctl Int Unit) :=
  bif (y17.2 == 0) then some (.next y17.1) else some (.next s3_0.1)
def c3_2 (s3_1 : Int) (y22 : Int × Int) : Bool := (((y22.2 != 0) || ((y22.1 != 4) && (y22.1 != 5))) || ((s3_1 == 5) && (y22.1 != s3_1)))
def F3_l0 (y6 : api_Operation × dynposmake_Src) (s3_0 : Int × Int × (List Int) × Int) : Option (Ctl (Int × Int × (List Int) × Int) Bool) :=
  bif decide (s3_0.2.1 < 12) then (F12 (⟨s3_0.2.2.1, s3_0.2.2.2⟩ : dynposmake_Src) [0, 1, 2, 3]).bind fun y11 => (F13 y11.2 1 3).bind fun y13 => (F13 y13.2 1 3).bind fun y15 => (F14 y6.1 s3_0.1 y13.1 y15.1 y11.1).bind fun y17 => andThen (F3_m1 s3_0 y17) (fun _ => none) fun s3_1 => (F16 y15.2 3).bind fun y20 => (F15 y6.1 s3_1 y13.1 y15.1 (y20.1 == 2)).bind fun y22 => bif (c3_2 s3_1 y22) then some (.ret false) else some (.next (y22.1, w64 (s3_0.2.1 + 1), y20.2.L, y20.2.At)) else some (.brk (s3_0.1, s3_0.2.1, s3_0.2.2.1, s3_0.2.2.2))
/-- dynpos/dynposlaw30.OperationLeaves -/
def F3 (x0 : List Int) : Option Bool :=
  bif decide ((x0.length : Int) > 600) then (F9).bind fun y2 => some y2 else (F10 x0).bind fun y4 => (F11 y4).bind fun y6 => (F12 y6.2 [4, 5]).bind fun y8 => andThen (whileN (F3_l0 y6) 15 (y8.1, 0, y8.2.L, y8.2.At)) some fun s3_0 => (F9).bind fun y25 => some y25
def c4_0 (y8 : Int × dynposmake_Src) (y10 : Int × dynposmake_Src) (y12 : Int × Int) : Bool := ((y12.2 != 0) || (!((y12.1 == 4) == ((y8.1 == 1) || (y10.1 == 3)))))
def c4_1 (y8 : Int × dynposmake_Src) (y10 : Int × dynposmake_Src) (y18 : Int × Int) : Bool := ((y18.2 != 0) || (!((y18.1 == 4) == ((y8.1 == 1) || (y10.1 == 3)))))
/-- dynpos/dynposlaw30.OperationRed -/
def F4 (x0 : List Int) : Option Bool :=
  bif decide ((x0.length : Int) > 600) then (F9).bind fun y2 => some y2 else (F10 x0).bind fun y4 => (F11 y4).bind fun y6 => (F13 y6.2 1 3).bind fun y8 => (F13 y8.2 1 3).bind fun y10 => (F15 y6.1 2 y8.1 y10.1 false).bind fun y12 => bif (c4_0 y8 y10 y12) then some false else (F14 y6.1 2 y8.1 y10.1 3).bind fun y15 => bif ((y15.2 != 0) || (y15.1 != 4)) then some false else (F15 y6.1 3 y8.1 y10.1 false).bind fun y18 => bif (c4_1 y8 y10 y18) then some false else (F14 y6.1 3 y8.1 y10.1 3).bind fun y21 => bif ((y21.2 != 0) || (y21.1 != 4)) then some false else (F9).bind fun y24 => some y24
/-- dynpos/dynposlaw30.OperationBetter -/
def F5 (x0 : List Int) : Option Bool :=
  bif decide ((x0.length : Int) > 600) then (F9).bind fun y2 => some y2 else (F10 x0).bind fun y4 => (F11 y4).bind fun y6 => (F13 y6.2 2 3).bind fun y8 => (F13 y8.2 1 3).bind fun y10 => (F13 y10.2 1 3).bind fun y12 => (F15 y6.1 y8.1 y10.1 y12.1 false).bind fun y14 => (F16 y12.2 3).bind fun y16 => (F16 y16.2 3).bind fun y18 => (F15 y6.1 y8.1 (min 3 (w64 (y10.1 + y16.1))) (max 1 (w64 (y12.1 - y18.1))) false).bind fun y20 => (guardO [((((y14.2 == 0) && (y20.2 == 0)) && (decide (y20.1 ≤ y14.1))), true)] (F9) default).bind fun y22 => some ((((y14.2 == 0) && (y20.2 == 0)) && (decide (y20.1 ≤ y14.1))) && y22)
/-- dynpos/operation.Fit -/
def F17 (x0 : api_Operation) (x1 : Int) (x2 : Int) : Option Bool :=
  (F22 x0).bind fun y1 => some ((((y1 == 0) && (F34 x1)) && (F35 x2)) && (F32 x0 x1 x2))
def F6_m1 (y6 : api_Operation × dynposmake_Src) (s6_0 : Int × Int × (List Int) × Int) (y9 : Int × dynposmake_Src) (y11 : Int × dynposmake_Src) (y13 : Int × dynposmake_Src) (y15 : Int × Int) : Option (Ctl Int Bool) :=
  bif (y15.2 == 0) then (guardO [(((y9.1 == 1) || (y9.1 == 2)), true)] (F17 y6.1 y11.1 y13.1) default).bind fun y18 => bif (((y9.1 == 1) || (y9.1 == 2)) && (!y18)) then some (.ret false) else some (.next y15.1) else some (.next s6_0.1)
def c6_2 (y11 : Int × dynposmake_Src) (y13 : Int × dynposmake_Src) (y23 : Int × Int) (y25 : Bool) : Bool := (((y23.2 != 0) || (((y23.1 == 2) || (y23.1 == 1)) && (!y25))) || ((y23.1 == 3) && ((y11.1 == 1) || (y13.1 == 3))))
def F6_l0 (y6 : api_Operation × dynposmake_Src) (s6_0 : Int × Int × (List Int) × Int) : Option (Ctl (Int × Int × (List Int) × Int) Bool) :=
  bif decide (s6_0.2.1 < 16) then (F16 (⟨s6_0.2.2.1, s6_0.2.2.2⟩ : dynposmake_Src) 5).bind fun y9 => (F13 y9.2 1 3).bind fun y11 => (F13 y11.2 1 3).bind fun y13 => (F14 y6.1 s6_0.1 y11.1 y13.1 y9.1).bind fun y15 => andThen (F6_m1 y6 s6_0 y9 y11 y13 y15) (fun v => some (.ret v)) fun s6_1 => (F16 y13.2 2).bind fun y21 => (F15 y6.1 s6_1 y11.1 y13.1 (y21.1 == 1)).bind fun y23 => (guardO [((y23.2 != 0), false), (((y23.1 == 2) || (y23.1 == 1)), true)] (F17 y6.1 y11.1 y13.1) default).bind fun y25 => bif (c6_2 y11 y13 y23 y25) then some (.ret false) else some (.next (y23.1, w64 (s6_0.2.1 + 1), y21.2.L, y21.2.At)) else some (.brk (s6_0.1, s6_0.2.1, s6_0.2.2.1, s6_0.2.2.2))
/-- dynpos/dynposlaw30.OperationFits -/
def F6 (x0 : List Int) : Option Bool :=
  bif decide ((x0.length : Int) > 600) then (F9).bind fun y2 => some y2 else (F10 x0).bind fun y4 => (F11 y4).bind fun y6 => andThen (whileN (F6_l0 y6) 19 (0, 0, y6.2.L, y6.2.At)) some fun s6_0 => (F9).bind fun y28 => some y28
end Go.Proofs.YtakbldjmgfcipaaDoor
