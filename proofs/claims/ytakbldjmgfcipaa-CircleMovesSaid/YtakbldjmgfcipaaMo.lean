import Derived.Test.YtakbldjmgfcipaaTy
set_option linter.unusedVariables false
namespace Go.Proofs.Ytakbldjmgfcipaa
open Go.SL
/-- dynpos/frame.Valid -/
def F29 (x0 : api_Point) : Bool :=
  ((decide ((max x0.X x0.Y) ≤ 100000000)) && (decide ((min x0.X x0.Y) ≥ (-100000000))))
def c12_0 (x0 : api_Circle) : Bool := ((((!(F29 x0.Place)) || (decide (x0.Yellow < 0))) || (decide (x0.Yellow > x0.Red))) || (decide (x0.Red > 1000000)))
/-- dynpos/circle.Check -/
def F12 (x0 : api_Circle) : Int :=
  bif (c12_0 x0) then 65 else 0
/-- dynpos/circle.usable -/
def F38 (x0 : api_Estimate) : Bool :=
  ((((x0.State != 0) && (F29 x0.Point)) && (decide (x0.Bound ≥ 0))) && (decide (x0.Bound ≤ 200000000)))
/-- dynpos/circle.apart -/
def F40 (x0 : Int) (x1 : Int) : Int :=
  max (w64 (x0 - x1)) (w64 (x1 - x0))
def F39_l0 (i39_0 : Nat) (x39_0 : Int) (s39_0 : Int) : Option (Ctl Int Unit) :=
  some (.next (w64 (s39_0 + (w64 (x39_0 * x39_0)))))
/-- dynpos/circle.squares -/
def F39 (x0 : List Int) : Option Int :=
  andThen (foldI F39_l0 x0 0 0) (fun _ => none) fun s39_0 => some s39_0
/-- dynpos/circle.square -/
def F31 (x0 : api_Circle) (x1 : api_Estimate) (x2 : Int) : Option Int :=
  bif (((F12 x0) != 0) || (!(F38 x1))) then some (-1) else (F39 [max 0 (w64 ((F40 x1.Point.X x0.Place.X) + x2)), max 0 (w64 ((F40 x1.Point.Y x0.Place.Y) + x2))]).bind fun y2 => some y2
/-- dynpos/circle.Far -/
def F15 (x0 : api_Circle) (x1 : api_Estimate) : Option Int :=
  (F31 x0 x1 x1.Bound).bind fun y1 => some y1
/-- dynpos/circle.known -/
def F34 (x0 : api_Circle) (x1 : api_Estimate) : Option Bool :=
  (F15 x0 x1).bind fun y1 => some (decide (y1 ≥ 0))
def c35_0 (x1 : Int) (y1 : Int) : Bool := ((decide (x1 < 0)) || (decide (x1 > y1)))
/-- dynpos/circle.zone -/
def F35 (x0 : api_Circle) (x1 : Int) : Option Int :=
  (guardO [(decide (x1 < 0), false)] (F39 [x0.Red]) default).bind fun y1 => bif (c35_0 x1 y1) then some 3 else (F39 [x0.Yellow]).bind fun y4 => bif decide (x1 > y4) then some 2 else some 1
/-- dynpos/circle.Worst -/
def F19 (x0 : api_Circle) (x1 : api_Estimate) : Option Int :=
  (F34 x0 x1).bind fun y1 => bif !y1 then some 3 else (F15 x0 x1).bind fun y4 => (F35 x0 y4).bind fun y6 => some y6
/-- dynpos/circle.Close -/
def F17 (x0 : api_Circle) (x1 : api_Estimate) : Option Int :=
  (F31 x0 x1 (w64 (0 - x1.Bound))).bind fun y1 => some y1
/-- dynpos/circle.Best -/
def F21 (x0 : api_Circle) (x1 : api_Estimate) : Option Int :=
  (F34 x0 x1).bind fun y1 => bif !y1 then some 3 else (F17 x0 x1).bind fun y4 => (F35 x0 y4).bind fun y6 => some y6
def c24_0 (x2 : Int) (y1 : Int) : Bool := (((decide (x2 < 0)) || (decide (x2 > 1000))) || (y1 == 3))
def F24_l0 (x0 : api_Circle) (x1 : api_Estimate) (x2 : Int) (s24_0 : Int × Int) : Option (Ctl (Int × Int) Unit) :=
  bif decide (s24_0.1 < 400) then (F19 x0 (⟨x1.Point, w64 (s24_0.2 + x2), x1.Time, x1.State⟩ : api_Estimate)).bind fun y5 => bif (y5 == 3) then some (.brk (s24_0.1, s24_0.2)) else some (.next (w64 (s24_0.1 + 1), w64 (s24_0.2 + x2))) else some (.brk (s24_0.1, s24_0.2))
/-- dynpos/circle.Left -/
def F24 (x0 : api_Circle) (x1 : api_Estimate) (x2 : Int) : Option Int :=
  (guardO [(((decide (x2 < 0)) || (decide (x2 > 1000))), false)] (F19 x0 x1) default).bind fun y1 => bif (c24_0 x2 y1) then some (-1) else andThen (whileN (F24_l0 x0 x1 x2) 403 (0, x1.Bound)) (fun _ => none) fun s24_0 => some s24_0.1
/-- dynpos/dynposlaw29.sane -/
def F9  : Option Bool :=
  (F19 (⟨(⟨0, 0⟩ : api_Point), 500, 1000⟩ : api_Circle) (⟨(⟨300, 400⟩ : api_Point), 0, 0, 1⟩ : api_Estimate)).bind fun y1 => (guardO [((y1 == 1), true)] (F21 (⟨(⟨0, 0⟩ : api_Point), 500, 1000⟩ : api_Circle) (⟨(⟨300, 400⟩ : api_Point), 0, 0, 1⟩ : api_Estimate)) default).bind fun y3 => (guardO [(((y1 == 1) && (y3 == 1)), true)] (F19 (⟨(⟨0, 0⟩ : api_Point), 500, 1000⟩ : api_Circle) (⟨(⟨300, 400⟩ : api_Point), 100, 0, 1⟩ : api_Estimate)) default).bind fun y5 => (guardO [((((y1 == 1) && (y3 == 1)) && (y5 == 2)), true)] (F24 (⟨(⟨0, 0⟩ : api_Point), 500, 1000⟩ : api_Circle) (⟨(⟨300, 400⟩ : api_Point), 100, 0, 1⟩ : api_Estimate) 50) default).bind fun y7 => (guardO [(((((y1 == 1) && (y3 == 1)) && (y5 == 2)) && (y7 == 5)), true)] (F19 (⟨(⟨0, 0⟩ : api_Point), 500, 1000⟩ : api_Circle) (⟨(⟨0, 0⟩ : api_Point), 0, 0, 0⟩ : api_Estimate)) default).bind fun y9 => some (((((y1 == 1) && (y3 == 1)) && (y5 == 2)) && (y7 == 5)) && (y9 == 3))
/-- dynpos/dynposmake.New -/
def F10 (x0 : List Int) : Option dynposmake_Src :=
  (cutI x0 0 (min (x0.length : Int) 600)).bind fun y2 => some (⟨y2, 0⟩ : dynposmake_Src)
/-- dynpos/dynposmake.Mod -/
def F27 (x0 : Int) (x1 : Int) : Option Int :=
  bif decide (x1 < 1) then some 0 else (nzI x1).bind fun u3 => (nzI x1).bind fun u5 => some (Int.tmod (w64 ((Int.tmod x0 x1) + x1)) x1)
/-- (*dynpos/dynposmake.Src).N -/
def F28 (x0 : dynposmake_Src) (x1 : Int) : Option (Int × dynposmake_Src) :=
  bif decide (x0.At ≥ (x0.L.length : Int)) then some (0, x0) else (getI x0.L (w64 ((w64 (x0.At + 1)) - 1))).bind fun y2 => (F27 y2 x1).bind fun y4 => some (y4, (⟨x0.L, w64 (x0.At + 1)⟩ : dynposmake_Src))
/-- (*dynpos/dynposmake.Src).Pick -/
def F23 (x0 : dynposmake_Src) (x1 : List Int) : Option (Int × dynposmake_Src) :=
  (F28 x0 (x1.length : Int)).bind fun y1 => (getI x1 y1.1).bind fun y3 => some (y3, y1.2)
/-- (*dynpos/dynposmake.Src).Circle -/
def F11 (x0 : dynposmake_Src) : Option (api_Circle × dynposmake_Src) :=
  (F23 x0 [0, 300, 500, 2000]).bind fun y1 => (F23 y1.2 [0, 0, 200]).bind fun y3 => (F23 y3.2 [0, 0, (-100)]).bind fun y5 => (F23 y5.2 [0, 500, 3000]).bind fun y7 => some ((⟨(⟨y3.1, y5.1⟩ : api_Point), y1.1, w64 (y1.1 + y7.1)⟩ : api_Circle), y7.2)
/-- dynpos/dynposref03.Valid -/
def F30 (x0 : api_Point) : Bool :=
  ((((decide (x0.X ≥ (-100000000))) && (decide (x0.X ≤ 100000000))) && (decide (x0.Y ≥ (-100000000)))) && (decide (x0.Y ≤ 100000000)))
def c13_0 (x0 : api_Circle) : Bool := ((((!(F30 x0.Place)) || (decide (x0.Yellow < 0))) || (decide (x0.Yellow > x0.Red))) || (decide (x0.Red > 1000000)))
/-- dynpos/dynposref29.Check -/
def F13 (x0 : api_Circle) : Int :=
  bif (c13_0 x0) then 65 else 0
/-- (*dynpos/dynposmake.Src).Estimate -/
def F14 (x0 : dynposmake_Src) (x1 : Int) : Option (api_Estimate × dynposmake_Src) :=
  (F23 x0 [0, 300, (-700), 5000]).bind fun y1 => (F23 y1.2 [0, 400, (-100)]).bind fun y3 => (F23 y3.2 [0, 10, 100, 900]).bind fun y5 => (F23 y5.2 [1, 1, 2, 0]).bind fun y7 => some ((⟨(⟨y1.1, y3.1⟩ : api_Point), y5.1, x1, y7.1⟩ : api_Estimate), y7.2)
/-- dynpos/dynposref29.usable -/
def F32 (x0 : api_Estimate) : Bool :=
  ((((x0.State != 0) && (F30 x0.Point)) && (decide (x0.Bound ≥ 0))) && (decide (x0.Bound ≤ 200000000)))
/-- dynpos/dynposref29.size -/
def F33 (x0 : Int) : Int :=
  bif decide (x0 < 0) then w64 (0 - x0) else x0
/-- dynpos/dynposref29.Far -/
def F16 (x0 : api_Circle) (x1 : api_Estimate) : Int :=
  bif (((F13 x0) != 0) || (!(F32 x1))) then (-1) else w64 ((w64 ((w64 ((F33 (w64 (x1.Point.X - x0.Place.X))) + x1.Bound)) * (w64 ((F33 (w64 (x1.Point.X - x0.Place.X))) + x1.Bound)))) + (w64 ((w64 ((F33 (w64 (x1.Point.Y - x0.Place.Y))) + x1.Bound)) * (w64 ((F33 (w64 (x1.Point.Y - x0.Place.Y))) + x1.Bound)))))
/-- dynpos/dynposref29.Close -/
def F18 (x0 : api_Circle) (x1 : api_Estimate) : Int :=
  bif (((F13 x0) != 0) || (!(F32 x1))) then (-1) else w64 ((w64 ((max 0 (w64 ((F33 (w64 (x1.Point.X - x0.Place.X))) - x1.Bound))) * (max 0 (w64 ((F33 (w64 (x1.Point.X - x0.Place.X))) - x1.Bound))))) + (w64 ((max 0 (w64 ((F33 (w64 (x1.Point.Y - x0.Place.Y))) - x1.Bound))) * (max 0 (w64 ((F33 (w64 (x1.Point.Y - x0.Place.Y))) - x1.Bound))))))
def c36_0 (x0 : api_Circle) (x1 : Int) : Bool := ((decide (x1 < 0)) || (decide (x1 > (w64 (x0.Red * x0.Red)))))
def c36_1 (x0 : api_Circle) (x1 : Int) : Bool := decide (x1 > (w64 (x0.Yellow * x0.Yellow)))
/-- dynpos/dynposref29.zone -/
def F36 (x0 : api_Circle) (x1 : Int) : Int :=
  bif (c36_0 x0 x1) then 3 else bif (c36_1 x0 x1) then 2 else 1
/-- dynpos/dynposref29.Worst -/
def F20 (x0 : api_Circle) (x1 : api_Estimate) : Int :=
  bif decide ((F16 x0 x1) < 0) then 3 else F36 x0 (F16 x0 x1)
/-- dynpos/dynposref29.Best -/
def F22 (x0 : api_Circle) (x1 : api_Estimate) : Int :=
  bif decide ((F18 x0 x1) < 0) then 3 else F36 x0 (F18 x0 x1)
def c25_0 (x2 : Int) : Bool := ((decide (x2 < 0)) || (decide (x2 > 1000)))
def c25_3 (x0 : api_Circle) (x1 : api_Estimate) (x2 : Int) (s25_0 : Int × Int) : Bool := ((F20 x0 (⟨x1.Point, w64 (x1.Bound + (w64 (s25_0.2 * x2))), x1.Time, x1.State⟩ : api_Estimate)) == 3)
def F25_l0 (x0 : api_Circle) (x1 : api_Estimate) (x2 : Int) (s25_0 : Int × Int) : Option (Ctl (Int × Int) Unit) :=
  bif decide (s25_0.2 ≤ 400) then bif (c25_3 x0 x1 x2 s25_0) then some (.brk (s25_0.1, s25_0.2)) else some (.next (s25_0.2, w64 (s25_0.2 + 1))) else some (.brk (s25_0.1, s25_0.2))
/-- dynpos/dynposref29.Left -/
def F25 (x0 : api_Circle) (x1 : api_Estimate) (x2 : Int) : Option Int :=
  bif (c25_0 x2) then some (-1) else andThen (whileN (F25_l0 x0 x1 x2) 403 ((-1), 0)) (fun _ => none) fun s25_0 => some s25_0.1
def c3_0 (y6 : api_Circle × dynposmake_Src) (y9 : api_Estimate × dynposmake_Src) (y11 : Int) (y13 : Int) (y15 : Int) (y17 : Int) : Bool := ((((y11 != (F16 y6.1 y9.1)) || (y13 != (F18 y6.1 y9.1))) || (y15 != (F20 y6.1 y9.1))) || (y17 != (F22 y6.1 y9.1)))
def c3_1 (x2 : api_Estimate) (y6 : api_Circle × dynposmake_Src) (y32 : Int) (y34 : Int) (y36 : Int) (y38 : Int) : Bool := ((((y32 != (F16 y6.1 x2)) || (y34 != (F18 y6.1 x2))) || (y36 != (F20 y6.1 x2))) || (y38 != (F22 y6.1 x2)))
def c3_2 (x1 : api_Circle) (y54 : api_Estimate × dynposmake_Src) (y56 : Int) (y58 : Int) (y60 : Int) (y62 : Int) : Bool := ((((y56 != (F16 x1 y54.1)) || (y58 != (F18 x1 y54.1))) || (y60 != (F20 x1 y54.1))) || (y62 != (F22 x1 y54.1)))
def c3_3 (x1 : api_Circle) (x2 : api_Estimate) (y77 : Int) (y79 : Int) (y81 : Int) (y83 : Int) : Bool := ((((y77 != (F16 x1 x2)) || (y79 != (F18 x1 x2))) || (y81 != (F20 x1 x2))) || (y83 != (F22 x1 x2)))
/-- dynpos/dynposlaw29.CircleExact -/
def F3 (x0 : List Int) (x1 : api_Circle) (x2 : api_Estimate) (x3 : Int) : Option Bool :=
  bif decide ((x0.length : Int) > 600) then (F9).bind fun y2 => some y2 else (F10 x0).bind fun y4 => (F11 y4).bind fun y6 => bif ((F12 y6.1) != (F13 y6.1)) then some false else (F14 y6.2 3).bind fun y9 => (F15 y6.1 y9.1).bind fun y11 => (guardO [((y11 != (F16 y6.1 y9.1)), false)] (F17 y6.1 y9.1) default).bind fun y13 => (guardO [(((y11 != (F16 y6.1 y9.1)) || (y13 != (F18 y6.1 y9.1))), false)] (F19 y6.1 y9.1) default).bind fun y15 => (guardO [((((y11 != (F16 y6.1 y9.1)) || (y13 != (F18 y6.1 y9.1))) || (y15 != (F20 y6.1 y9.1))), false)] (F21 y6.1 y9.1) default).bind fun y17 => bif (c3_0 y6 y9 y11 y13 y15 y17) then some false else (F23 y9.2 [0, 10, 300, 1000]).bind fun y20 => (F24 y6.1 y9.1 x3).bind fun y22 => (F25 y6.1 y9.1 x3).bind fun y24 => bif (y22 != y24) then some false else (F24 y6.1 y9.1 y20.1).bind fun y27 => (F25 y6.1 y9.1 y20.1).bind fun y29 => bif (y27 != y29) then some false else (F15 y6.1 x2).bind fun y32 => (guardO [((y32 != (F16 y6.1 x2)), false)] (F17 y6.1 x2) default).bind fun y34 => (guardO [(((y32 != (F16 y6.1 x2)) || (y34 != (F18 y6.1 x2))), false)] (F19 y6.1 x2) default).bind fun y36 => (guardO [((((y32 != (F16 y6.1 x2)) || (y34 != (F18 y6.1 x2))) || (y36 != (F20 y6.1 x2))), false)] (F21 y6.1 x2) default).bind fun y38 => bif (c3_1 x2 y6 y32 y34 y36 y38) then some false else (F23 y20.2 [0, 10, 300, 1000]).bind fun y41 => (F24 y6.1 x2 x3).bind fun y43 => (F25 y6.1 x2 x3).bind fun y45 => bif (y43 != y45) then some false else (F24 y6.1 x2 y41.1).bind fun y48 => (F25 y6.1 x2 y41.1).bind fun y50 => bif (y48 != y50) then some false else bif ((F12 x1) != (F13 x1)) then some false else (F14 y41.2 3).bind fun y54 => (F15 x1 y54.1).bind fun y56 => (guardO [((y56 != (F16 x1 y54.1)), false)] (F17 x1 y54.1) default).bind fun y58 => (guardO [(((y56 != (F16 x1 y54.1)) || (y58 != (F18 x1 y54.1))), false)] (F19 x1 y54.1) default).bind fun y60 => (guardO [((((y56 != (F16 x1 y54.1)) || (y58 != (F18 x1 y54.1))) || (y60 != (F20 x1 y54.1))), false)] (F21 x1 y54.1) default).bind fun y62 => bif (c3_2 x1 y54 y56 y58 y60 y62) then some false else (F23 y54.2 [0, 10, 300, 1000]).bind fun y65 => (F24 x1 y54.1 x3).bind fun y67 => (F25 x1 y54.1 x3).bind fun y69 => bif (y67 != y69) then some false else (F24 x1 y54.1 y65.1).bind fun y72 => (F25 x1 y54.1 y65.1).bind fun y74 => bif (y72 != y74) then some false else (F15 x1 x2).bind fun y77 => (guardO [((y77 != (F16 x1 x2)), false)] (F17 x1 x2) default).bind fun y79 => (guardO [(((y77 != (F16 x1 x2)) || (y79 != (F18 x1 x2))), false)] (F19 x1 x2) default).bind fun y81 => (guardO [((((y77 != (F16 x1 x2)) || (y79 != (F18 x1 x2))) || (y81 != (F20 x1 x2))), false)] (F21 x1 x2) default).bind fun y83 => bif (c3_3 x1 x2 y77 y79 y81 y83) then some false else (F23 y65.2 [0, 10, 300, 1000]).bind fun y86 => (F24 x1 x2 x3).bind fun y88 => (F25 x1 x2 x3).bind fun y90 => bif (y88 != y90) then some false else (F24 x1 x2 y86.1).bind fun y93 => (F25 x1 x2 y86.1).bind fun y95 => bif (y93 != y95) then some false else (F9).bind fun y98 => some y98
/-- (*dynpos/dynposmake.Src).Range -/
def F37 (x0 : dynposmake_Src) (x1 : Int) (x2 : Int) : Option (Int × dynposmake_Src) :=
  (F28 x0 (w64 ((w64 (x2 - x1)) + 1))).bind fun y1 => some (w64 (x1 + y1.1), y1.2)
/-- dynpos/dynposlaw29.known -/
def F26 (x0 : dynposmake_Src) : Option (api_Estimate × dynposmake_Src) :=
  (F14 x0 0).bind fun y1 => (F37 y1.2 1 2).bind fun y3 => some ((⟨y1.1.Point, y1.1.Bound, y1.1.Time, y3.1⟩ : api_Estimate), y3.2)
/-- dynpos/dynposlaw29.CircleCovers -/
def F4 (x0 : List Int) (x1 : Int) (x2 : Int) : Option Bool :=
  bif decide ((x0.length : Int) > 600) then (F9).bind fun y2 => some y2 else (F10 x0).bind fun y4 => (F11 y4).bind fun y6 => (F26 y6.2).bind fun y8 => (F27 x1 (w64 ((w64 (2 * y8.1.Bound)) + 1))).bind fun y10 => (F27 x2 (w64 ((w64 (2 * y8.1.Bound)) + 1))).bind fun y12 => (F19 y6.1 (⟨(⟨w64 (y8.1.Point.X + (w64 (y10 - y8.1.Bound))), w64 (y8.1.Point.Y + (w64 (y12 - y8.1.Bound)))⟩ : api_Point), 0, y8.1.Time, y8.1.State⟩ : api_Estimate)).bind fun y14 => (F21 y6.1 (⟨(⟨w64 (y8.1.Point.X + (w64 (y10 - y8.1.Bound))), w64 (y8.1.Point.Y + (w64 (y12 - y8.1.Bound)))⟩ : api_Point), 0, y8.1.Time, y8.1.State⟩ : api_Estimate)).bind fun y16 => (guardO [((y14 == y16), true)] (F21 y6.1 y8.1) default).bind fun y18 => (guardO [(((y14 == y16) && (decide (y14 ≥ y18))), true)] (F19 y6.1 y8.1) default).bind fun y20 => (guardO [((((y14 == y16) && (decide (y14 ≥ y18))) && (decide (y14 ≤ y20))), true)] (F9) default).bind fun y22 => some ((((y14 == y16) && (decide (y14 ≥ y18))) && (decide (y14 ≤ y20))) && y22)
/-- dynpos/dynposlaw29.CircleGrows -/
def F5 (x0 : List Int) (x1 : Int) : Option Bool :=
  bif decide ((x0.length : Int) > 600) then (F9).bind fun y2 => some y2 else (F10 x0).bind fun y4 => (F11 y4).bind fun y6 => (F26 y6.2).bind fun y8 => (F28 y8.2 500).bind fun y10 => (F28 y10.2 500).bind fun y12 => (F19 y6.1 (⟨y8.1.Point, w64 (y8.1.Bound + (w64 x1)), y8.1.Time, y8.1.State⟩ : api_Estimate)).bind fun y14 => (F19 y6.1 y8.1).bind fun y16 => (guardO [(decide (y14 ≥ y16), true)] (F21 y6.1 (⟨y8.1.Point, w64 (y8.1.Bound + (w64 x1)), y8.1.Time, y8.1.State⟩ : api_Estimate)) default).bind fun y18 => (guardO [(decide (y14 ≥ y16), true)] (F21 y6.1 y8.1) default).bind fun y20 => (guardO [(((decide (y14 ≥ y16)) && (decide (y18 ≤ y20))), true)] (F21 y6.1 y8.1) default).bind fun y22 => (guardO [(((decide (y14 ≥ y16)) && (decide (y18 ≤ y20))), true)] (F19 y6.1 y8.1) default).bind fun y24 => (guardO [((((decide (y14 ≥ y16)) && (decide (y18 ≤ y20))) && (decide (y22 ≤ y24))), true)] (F19 (⟨y6.1.Place, min (w64 (y6.1.Red + y10.1)) (w64 (y6.1.Yellow + y12.1)), w64 (y6.1.Red + y10.1)⟩ : api_Circle) y8.1) default).bind fun y26 => (guardO [((((decide (y14 ≥ y16)) && (decide (y18 ≤ y20))) && (decide (y22 ≤ y24))), true)] (F19 y6.1 y8.1) default).bind fun y28 => (guardO [(((((decide (y14 ≥ y16)) && (decide (y18 ≤ y20))) && (decide (y22 ≤ y24))) && (decide (y26 ≤ y28))), true)] (F9) default).bind fun y30 => some (((((decide (y14 ≥ y16)) && (decide (y18 ≤ y20))) && (decide (y22 ≤ y24))) && (decide (y26 ≤ y28))) && y30)
/-- dynpos/dynposlaw29.CircleLeft -/
def F6 (x0 : List Int) (x1 : Int) : Option Bool :=
  bif decide ((x0.length : Int) > 600) then (F9).bind fun y2 => some y2 else (F10 x0).bind fun y4 => (F11 y4).bind fun y6 => (F26 y6.2).bind fun y8 => (F24 y6.1 y8.1 (Int.tmod (w64 x1) 1001)).bind fun y10 => bif decide (y10 < 0) then (F19 y6.1 y8.1).bind fun y13 => (guardO [((y13 == 3), true)] (F9) default).bind fun y15 => some ((y13 == 3) && y15) else (F19 y6.1 (⟨y8.1.Point, w64 (y8.1.Bound + (w64 (y10 * (Int.tmod (w64 x1) 1001)))), y8.1.Time, y8.1.State⟩ : api_Estimate)).bind fun y17 => bif (y17 == 3) then some false else (guardO [((y10 == 400), false)] (F19 y6.1 (⟨y8.1.Point, w64 ((w64 (y8.1.Bound + (w64 (y10 * (Int.tmod (w64 x1) 1001))))) + (Int.tmod (w64 x1) 1001)), y8.1.Time, y8.1.State⟩ : api_Estimate)) default).bind fun y20 => (guardO [((((y10 == 400) || (y20 == 3)) && ((decide ((Int.tmod (w64 x1) 1001) > 0)) || (y10 == 400))), true)] (F9) default).bind fun y22 => some ((((y10 == 400) || (y20 == 3)) && ((decide ((Int.tmod (w64 x1) 1001) > 0)) || (y10 == 400))) && y22)
/-- dynpos/dynposlaw29.CircleMoves -/
def F7 (x0 : List Int) (x1 : Int) (x2 : Int) : Option Bool :=
  bif decide ((x0.length : Int) > 600) then (F9).bind fun y2 => some y2 else (F10 x0).bind fun y4 => (F11 y4).bind fun y6 => (F26 y6.2).bind fun y8 => (F15 y6.1 y8.1).bind fun y10 => (F15 (⟨(⟨w64 (y6.1.Place.X + (w64 x1)), w64 (y6.1.Place.Y + (w64 x2))⟩ : api_Point), y6.1.Yellow, y6.1.Red⟩ : api_Circle) (⟨(⟨w64 (y8.1.Point.X + (w64 x1)), w64 (y8.1.Point.Y + (w64 x2))⟩ : api_Point), y8.1.Bound, y8.1.Time, y8.1.State⟩ : api_Estimate)).bind fun y12 => (guardO [((y10 == y12), true)] (F17 y6.1 y8.1) default).bind fun y14 => (guardO [((y10 == y12), true)] (F17 (⟨(⟨w64 (y6.1.Place.X + (w64 x1)), w64 (y6.1.Place.Y + (w64 x2))⟩ : api_Point), y6.1.Yellow, y6.1.Red⟩ : api_Circle) (⟨(⟨w64 (y8.1.Point.X + (w64 x1)), w64 (y8.1.Point.Y + (w64 x2))⟩ : api_Point), y8.1.Bound, y8.1.Time, y8.1.State⟩ : api_Estimate)) default).bind fun y16 => (guardO [(((y10 == y12) && (y14 == y16)), true)] (F15 y6.1 y8.1) default).bind fun y18 => (guardO [(((y10 == y12) && (y14 == y16)), true)] (F15 (⟨(⟨w64 (0 - y6.1.Place.X), y6.1.Place.Y⟩ : api_Point), y6.1.Yellow, y6.1.Red⟩ : api_Circle) (⟨(⟨w64 (0 - y8.1.Point.X), y8.1.Point.Y⟩ : api_Point), y8.1.Bound, y8.1.Time, y8.1.State⟩ : api_Estimate)) default).bind fun y20 => (guardO [((((y10 == y12) && (y14 == y16)) && (y18 == y20)), true)] (F19 y6.1 y8.1) default).bind fun y22 => (guardO [((((y10 == y12) && (y14 == y16)) && (y18 == y20)), true)] (F19 (⟨(⟨w64 (0 - y6.1.Place.X), y6.1.Place.Y⟩ : api_Point), y6.1.Yellow, y6.1.Red⟩ : api_Circle) (⟨(⟨w64 (0 - y8.1.Point.X), y8.1.Point.Y⟩ : api_Point), y8.1.Bound, y8.1.Time, y8.1.State⟩ : api_Estimate)) default).bind fun y24 => (guardO [(((((y10 == y12) && (y14 == y16)) && (y18 == y20)) && (y22 == y24)), true)] (F9) default).bind fun y26 => some (((((y10 == y12) && (y14 == y16)) && (y18 == y20)) && (y22 == y24)) && y26)
/-- dynpos/dynposlaw29.CircleNowhere -/
def F8 (x0 : List Int) : Option Bool :=
  bif decide ((x0.length : Int) > 600) then (F9).bind fun y2 => some y2 else (F10 x0).bind fun y4 => (F11 y4).bind fun y6 => (F14 y6.2 0).bind fun y8 => (F19 y6.1 (⟨y8.1.Point, y8.1.Bound, y8.1.Time, 0⟩ : api_Estimate)).bind fun y10 => (guardO [((y10 == 3), true)] (F21 y6.1 (⟨y8.1.Point, y8.1.Bound, y8.1.Time, 0⟩ : api_Estimate)) default).bind fun y12 => (guardO [(((y10 == 3) && (y12 == 3)), true)] (F15 y6.1 (⟨y8.1.Point, y8.1.Bound, y8.1.Time, 0⟩ : api_Estimate)) default).bind fun y14 => (guardO [((((y10 == 3) && (y12 == 3)) && (y14 == (-1))), true)] (F28 y8.2 100) (default, y8.2)).bind fun y16 => (guardO [((((y10 == 3) && (y12 == 3)) && (y14 == (-1))), true)] (F24 y6.1 (⟨y8.1.Point, y8.1.Bound, y8.1.Time, 0⟩ : api_Estimate) y16.1) default).bind fun y18 => (guardO [(((((y10 == 3) && (y12 == 3)) && (y14 == (-1))) && (y18 == (-1))), true)] (F9) default).bind fun y20 => some (((((y10 == 3) && (y12 == 3)) && (y14 == (-1))) && (y18 == (-1))) && y20)
end Go.Proofs.Ytakbldjmgfcipaa
