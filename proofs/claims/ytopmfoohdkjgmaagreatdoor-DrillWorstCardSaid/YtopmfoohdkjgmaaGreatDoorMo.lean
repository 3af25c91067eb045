import Derived.Test.YtopmfoohdkjgmaaGreatDoorTy
set_option linter.unusedVariables false
namespace Go.Proofs.YtopmfoohdkjgmaaGreatDoor
open Go.SL
/-- dynpos/dynposlaw42.sane -/
def F4 : Option Bool := some true
/-- dynpos/dynposmake.New -/
def F5 (x0 : List Int) : Option dynposmake_Src :=
  (cutI x0 0 (min (x0.length : Int) 600)).bind fun y2 => some (⟨y2, 0⟩ : dynposmake_Src)
/-- dynpos/dynposmake.Mod -/
def F13 (x0 : Int) (x1 : Int) : Option Int :=
  bif decide (x1 < 1) then some 0 else (nzI x1).bind fun u3 => (nzI x1).bind fun u5 => some (Int.tmod (w64 ((Int.tmod x0 x1) + x1)) x1)
/-- (*dynpos/dynposmake.Src).N -/
def F6 (x0 : dynposmake_Src) (x1 : Int) : Option (Int × dynposmake_Src) :=
  bif decide (x0.At ≥ (x0.L.length : Int)) then some (0, x0) else (getI x0.L (w64 ((w64 (x0.At + 1)) - 1))).bind fun y2 => (F13 y2 x1).bind fun y4 => some (y4, (⟨x0.L, w64 (x0.At + 1)⟩ : dynposmake_Src))
/-- (*dynpos/dynposmake.Src).Range -/
def F7 (x0 : dynposmake_Src) (x1 : Int) (x2 : Int) : Option (Int × dynposmake_Src) :=
  (F6 x0 (w64 ((w64 (x2 - x1)) + 1))).bind fun y1 => some (w64 (x1 + y1.1), y1.2)
def F15_l0 (x1 : Int) (n0 : Nat) (a0 : Int) (z0 : Unit) : Option (Ctl Unit Int) :=
  bif (x1 == a0) then some (.ret (cnt 0 n0)) else some (.next ())
/-- slices.Index[[]int,int] -/
def F15 (x0 : List Int) (x1 : Int) : Option Int :=
  andThen (foldI (F15_l0 x1) x0 0 ()) some fun z0 => some (-1)
def F14_m0 (x0 : List Int) : Option (Ctl Unit Unit) :=
  bif decide ((x0.length : Int) < 1) then none else some (.next ())
def F14_l1 (x0 : List Int) (z1 : Int × Int) : Option (Ctl (Int × Int) Unit) :=
  bif decide (z1.2 < (x0.length : Int)) then (getI x0 z1.2).bind fun y5 => some (.next (min z1.1 y5, w64 (z1.2 + 1))) else some (.brk (z1.1, z1.2))
/-- slices.Min[[]int,int] -/
def F14 (x0 : List Int) : Option Int :=
  andThen (F14_m0 x0) (fun _ => none) fun z0 => (getI x0 0).bind fun y2 => andThen (whileN (F14_l1 x0) 1152921504606846976 (y2, 1)) (fun _ => none) fun z1 => some z1.1
/-- dynpos/drill.Worst -/
def F8 (x0 : List Int) : Option Int :=
  bif ((x0.length : Int) == 0) then some 0 else (F15 x0 3).bind fun y2 => (cutI x0 (max 0 y2) (x0.length : Int)).bind fun y5 => (F14 y5).bind fun y6 => some y6
def F9_l0 (x1 : Int) (n0 : Nat) (a0 : Int) (z0 : Unit) : Option (Ctl Unit Bool) :=
  bif (a0 == x1) then some (.ret true) else some (.next ())
/-- dynpos/dynposref01.Has -/
def F9 (x0 : List Int) (x1 : Int) : Option Bool :=
  andThen (foldI (F9_l0 x1) x0 0 ()) some fun z0 => some false
def F3_l0 (z0 : Int × (List Int) × Int × (List Int)) : Option (Ctl (Int × (List Int) × Int × (List Int)) Unit) :=
  bif decide (z0.1 > 0) then (F7 (⟨z0.2.1, z0.2.2.1⟩ : dynposmake_Src) 1 3).bind fun y9 => (appI 9 z0.2.2.2 [y9.1]).bind fun y11 => some (.next (w64 (z0.1 - 1), y9.2.L, y9.2.At, y11)) else some (.brk (z0.1, z0.2.1, z0.2.2.1, z0.2.2.2))
def c3_1 (y13 : Int) (z1 : Bool) (a1 : Int) : Bool := ((z1 || (a1 == 3)) && (decide (a1 < y13)))
def F3_l1 (y13 : Int) (n1 : Nat) (a1 : Int) (z1 : Bool) : Option (Ctl Bool Bool) :=
  bif (c3_1 y13 z1 a1) then some (.ret false) else some (.next (z1 || (a1 == 3)))
/-- dynpos/dynposlaw42.DrillWorst -/
def F3 (x0 : List Int) : Option Bool :=
  bif decide ((x0.length : Int) > 600) then (F4).bind fun y2 => some y2 else (F5 x0).bind fun y4 => (F6 y4 12).bind fun y6 => andThen (whileN F3_l0 1152921504606846976 (w64 (1 + y6.1), y6.2.L, y6.2.At, ([] : List Int))) (fun _ => none) fun z0 => (F8 z0.2.2.2).bind fun y13 => andThen (foldI (F3_l1 y13) z0.2.2.2 0 false) some fun z1 => (F9 z0.2.2.2 y13).bind fun y16 => (guardO [(y16, true), (!z1, false)] (appI 9 ([] : List Int) z0.2.2.2) default).bind fun y18 => (guardO [(y16, true), (!z1, false)] (F7 (⟨z0.2.1, z0.2.2.1⟩ : dynposmake_Src) 1 3) (default, (⟨z0.2.1, z0.2.2.1⟩ : dynposmake_Src))).bind fun y20 => (guardO [(y16, true), (!z1, false)] (appI 9 y18 [y20.1]) default).bind fun y22 => (guardO [(y16, true), (!z1, false)] (F8 y22) default).bind fun y24 => (guardO [((y16 && ((!z1) || (decide (y24 ≤ y13)))), true)] (F4) default).bind fun y26 => some ((y16 && ((!z1) || (decide (y24 ≤ y13)))) && y26)
end Go.Proofs.YtopmfoohdkjgmaaGreatDoor
