import Derived.Test.YtkngbnedbgndoaaGreatTy
set_option linter.unusedVariables false
namespace Go.Proofs.YtkngbnedbgndoaaGreat
open Go.SL
abbrev Sg0 := (List Int) × Int × (List api_Breaker) × (List api_Source) × (List api_Consumer) × Int × Int
abbrev Sg1 := Int × (List Bool) × (List api_Running) × (List Int) × (List api_Part)
abbrev Sg2 := Int × (List Int) × Int × (List api_Breaker) × (List api_Source) × (List api_Consumer) × Int × Int × Int
abbrev Sg3 := Int × (List api_Breaker) × (List api_Source) × (List api_Consumer) × Int × Int × (List Bool) × (List api_Running) × (List Int) × (List api_Part) × (List Bool) × (List api_Act)
abbrev Sg4 := Int × (List api_Breaker) × (List api_Source) × (List api_Consumer) × Int × Int × (List Bool) × (List api_Running) × (List Int) × (List api_Part) × (List api_Act)
abbrev Sg5 := Int × (List api_Breaker) × (List api_Source) × (List api_Consumer) × Int × Int × (List Int) × (List Bool) × (List api_Running) × (List Int) × (List api_Part) × (List api_Act)
abbrev Sg6 := Int × (List api_Running) × (List api_Act)
abbrev Sg7 := Int × Int × (List Int) × Int × (List api_Breaker) × (List api_Source) × (List api_Consumer) × Int × Int
abbrev Sg8 := Int × Int × (List api_Breaker) × (List api_Source) × (List api_Consumer) × Int × Int × (List Bool) × (List api_Running) × (List Int) × (List api_Part) × (List Bool) × (List api_Act)
abbrev Sg9 := Int × Int × Int × (List Int) × Int × (List api_Breaker) × (List api_Source) × (List api_Consumer) × Int × Int
/-- dynpos/dynposlaw20.two -/
def F28  : api_Board × api_Power :=
  ((⟨2, [(⟨1, 0, 1⟩ : api_Breaker), (⟨2, 1, 0⟩ : api_Breaker)], [(⟨100, 0, 3⟩ : api_Source)], ([] : List api_Consumer), 0, 0⟩ : api_Board), (⟨[false, false], [(⟨0, 0, 5000, 0⟩ : api_Running)], ([] : List Int), ([] : List api_Part)⟩ : api_Power))
/-- dynpos/board.in -/
def F132 (x0 : Int) (x1 : Int) (x2 : Int) : Bool :=
  ((decide (x0 ≥ x1)) && (decide (x0 ≤ x2)))
def F177_l0 (x1 : Int) (i177_0 : Nat) (x177_0 : Int) (s177_0 : Unit) : Option (Ctl Unit Int) :=
  bif (x1 == x177_0) then some (.ret (cnt 0 i177_0)) else some (.next ())
/-- slices.Index[[]int,int] -/
def F177 (x0 : List Int) (x1 : Int) : Option Int :=
  andThen (foldI (F177_l0 x1) x0 0 ()) some fun s177_0 => some (-1)
/-- slices.Contains[[]int,int] -/
def F96 (x0 : List Int) (x1 : Int) : Option Bool :=
  (F177 x0 x1).bind fun y1 => some (decide (y1 ≥ 0))
/-- dynpos/board.breakers$1 -/
def F233 (x0 : List Int) : Bool :=
  ((x0.length : Int) == 0)
def F260s0_l0 (i260s0_0 : Nat) (x260s0_0 : List Int) (s260s0_0 : Unit) : Option (Ctl Unit Int) :=
  bif F233 x260s0_0 then some (.ret (cnt 0 i260s0_0)) else some (.next ())
/-- slices.IndexFunc[[][]int,[]int] -/
def F260s0 (x0 : List (List Int)) : Option Int :=
  andThen (foldI F260s0_l0 x0 0 ()) some fun s260s0_0 => some (-1)
/-- slices.ContainsFunc[[][]int,[]int] -/
def F232s0 (x0 : List (List Int)) : Option Bool :=
  (F260s0 x0).bind fun y1 => some (decide (y1 ≥ 0))
def c172_6 (x0 : api_Board) (x172_0 : api_Breaker) : Bool := ((x172_0.Kind == 1) && (F132 x172_0.B (w64 (x172_0.A + 1)) (w64 (x0.Buses - 1))))
def c172_7 (s172_0 : (List Int) × (List (List Int))) (x172_0 : api_Breaker) (y7 : Int) : Bool := (((x172_0.Kind == 2) && (F132 x172_0.B 0 (w64 ((s172_0.1.length : Int) - 1)))) && (y7 == 0))
def c172_8 (s172_0 : (List Int) × (List (List Int))) (x172_0 : api_Breaker) (y16 : Bool) : Bool := (((x172_0.Kind == 3) && (F132 x172_0.B 0 (w64 ((s172_0.2.length : Int) - 1)))) && (!y16))
def F172_l0 (x0 : api_Board) (i172_0 : Nat) (x172_0 : api_Breaker) (s172_0 : (List Int) × (List (List Int))) : Option (Ctl ((List Int) × (List (List Int))) Bool) :=
  bif !(F132 x172_0.A 0 (w64 (x0.Buses - 1))) then some (.ret false) else bif (c172_6 x0 x172_0) then some (.next (s172_0.1, s172_0.2)) else (guardO [(((x172_0.Kind == 2) && (F132 x172_0.B 0 (w64 ((s172_0.1.length : Int) - 1)))), true)] (getI s172_0.1 x172_0.B) default).bind fun y7 => bif (c172_7 s172_0 x172_0 y7) then (getI s172_0.1 x172_0.B).bind fun y10 => (setI s172_0.1 x172_0.B (w64 (y10 + 1))).bind fun y12 => some (.next (y12, s172_0.2)) else (guardO [(((x172_0.Kind == 3) && (F132 x172_0.B 0 (w64 ((s172_0.2.length : Int) - 1)))), true)] (getI s172_0.2 x172_0.B) default).bind fun y14 => (guardO [(((x172_0.Kind == 3) && (F132 x172_0.B 0 (w64 ((s172_0.2.length : Int) - 1)))), true)] (F96 y14 x172_0.A) default).bind fun y16 => bif (c172_8 s172_0 x172_0 y16) then (getI s172_0.2 x172_0.B).bind fun y19 => (appI 9 y19 [x172_0.A]).bind fun y21 => (setI s172_0.2 x172_0.B y21).bind fun y23 => some (.next (s172_0.1, y23)) else some (.ret false)
/-- dynpos/board.breakers -/
def F172 (x0 : api_Board) : Option Bool :=
  (mkI 9 (x0.Sources.length : Int) 0).bind fun y1 => (mkI 25 (x0.Consumers.length : Int) ([] : List Int)).bind fun y3 => andThen (foldI (F172_l0 x0) x0.Breakers 0 (y1, y3)) some fun s172_0 => (F96 s172_0.1 0).bind fun y27 => (guardO [(!y27, true)] (F232s0 s172_0.2) default).bind fun y29 => some ((!y27) && (!y29))
/-- dynpos/board.source -/
def F173 (x0 : api_Source) : Bool :=
  (((F132 x0.Rating 1 50000) && (F132 x0.Least 0 x0.Rating)) && (F132 x0.Start 0 600))
def c174_1 (x1 : Int) (i174_0 : Nat) (x174_0 : Int) (y1 : Int) : Bool := ((!(F132 x174_0 0 (w64 (x1 - 1)))) || ((decide ((cnt 0 i174_0) > 0)) && (decide (y1 ≥ x174_0))))
def F174_l0 (x0 : api_Consumer) (x1 : Int) (i174_0 : Nat) (x174_0 : Int) (s174_0 : Unit) : Option (Ctl Unit Bool) :=
  (guardO [(!(F132 x174_0 0 (w64 (x1 - 1))), false), (decide ((cnt 0 i174_0) > 0), true)] (getI x0.Needs (w64 ((cnt 0 i174_0) - 1))) default).bind fun y1 => bif (c174_1 x1 i174_0 x174_0 y1) then some (.ret false) else some (.next ())
/-- dynpos/board.consumer -/
def F174 (x0 : api_Consumer) (x1 : Int) : Option Bool :=
  andThen (foldI (F174_l0 x0 x1) x0.Needs 0 ()) some fun s174_0 => some (((((F132 x0.Load 0 50000) && (F132 x0.Least 0 x0.Load)) && (F132 x0.Preference 0 15)) && (F132 x0.Thruster (-1) 7)) && (decide ((x0.Needs.length : Int) ≤ 4)))
def c92_0 (x0 : api_Board) : Bool := ((((!(F132 x0.Buses 1 6)) || (decide ((x0.Breakers.length : Int) > 24))) || (decide ((x0.Sources.length : Int) > 8))) || (decide ((x0.Consumers.length : Int) > 16)))
def F92_l0 (i92_0 : Nat) (x92_0 : api_Source) (s92_0 : Bool) : Option (Ctl Bool Unit) :=
  some (.next (s92_0 && (F173 x92_0)))
def F92_l1 (i92_1 : Nat) (x92_1 : api_Consumer) (s92_1 : Bool) : Option (Ctl Bool Unit) :=
  (guardO [(s92_1, true)] (F174 x92_1 (cnt 0 i92_1)) default).bind fun y4 => some (.next (s92_1 && y4))
/-- dynpos/board.Check -/
def F92 (x0 : api_Board) : Option Int :=
  bif (c92_0 x0) then some 2 else (F172 x0).bind fun y2 => andThen (foldI F92_l0 x0.Sources 0 ((y2 && (F132 x0.Phase 0 1800)) && (F132 x0.Frequency 0 6000))) (fun _ => none) fun s92_0 => andThen (foldI F92_l1 x0.Consumers 0 s92_0) (fun _ => none) fun s92_1 => bif !s92_1 then some 14 else some 0
/-- dynpos/board.size -/
def F208 (x0 : api_Board) (x1 : Int) : Int :=
  bif (x1 == 1) then (x0.Sources.length : Int) else bif (x1 == 2) then (x0.Breakers.length : Int) else bif (x1 == 3) then x0.Buses else bif (x1 == 4) then (x0.Consumers.length : Int) else 0
/-- cmp.isNaN[int] -/
def F248 (x0 : Int) : Bool :=
  (x0 != x0)
/-- cmp.Compare[int] -/
def F210 (x0 : Int) (x1 : Int) : Int :=
  bif F248 x0 then bif F248 x1 then 0 else (-1) else bif F248 x1 then 1 else bif decide (x0 < x1) then (-1) else bif decide (x0 > x1) then 1 else 0
def F209_l0 (i209_0 : Nat) (x209_0 : Int) (s209_0 : Unit) : Option (Ctl Unit Int) :=
  bif (x209_0 != 0) then some (.ret x209_0) else some (.next ())
/-- cmp.Or[int] -/
def F209 (x0 : List Int) : Option Int :=
  andThen (foldI F209_l0 x0 0 ()) some fun s209_0 => some 0
def c128_1 (x0 : api_Board) (i128_0 : Nat) (x128_0 : api_Part) (y5 : Int) : Bool := ((!(F132 x128_0.Number 0 (w64 ((F208 x0 x128_0.Kind) - 1)))) || ((decide ((cnt 0 i128_0) > 0)) && (decide (y5 ≥ 0))))
def F128_l0 (x0 : api_Board) (x1 : List api_Part) (i128_0 : Nat) (x128_0 : api_Part) (s128_0 : Unit) : Option (Ctl Unit Bool) :=
  (guardO [(!(F132 x128_0.Number 0 (w64 ((F208 x0 x128_0.Kind) - 1))), false), (decide ((cnt 0 i128_0) > 0), true)] (getI x1 (w64 ((cnt 0 i128_0) - 1))) default).bind fun y1 => (guardO [(!(F132 x128_0.Number 0 (w64 ((F208 x0 x128_0.Kind) - 1))), false), (decide ((cnt 0 i128_0) > 0), true)] (getI x1 (w64 ((cnt 0 i128_0) - 1))) default).bind fun y3 => (guardO [(!(F132 x128_0.Number 0 (w64 ((F208 x0 x128_0.Kind) - 1))), false), (decide ((cnt 0 i128_0) > 0), true)] (F209 [F210 y1.Kind x128_0.Kind, F210 y3.Number x128_0.Number]) default).bind fun y5 => bif (c128_1 x0 i128_0 x128_0 y5) then some (.ret false) else some (.next ())
/-- dynpos/board.broken -/
def F128 (x0 : api_Board) (x1 : List api_Part) : Option Bool :=
  andThen (foldI (F128_l0 x0 x1) x1 0 ()) some fun s128_0 => some (decide ((x1.length : Int) ≤ 32))
/-- dynpos/board.running -/
def F131 (x0 : api_Running) : Bool :=
  ((((F132 x0.State 0 3) && (F132 x0.Since 0 2147483648)) && (F132 x0.Frequency 0 6000)) && (F132 x0.Phase 0 3599))
/-- dynpos/board.State$1 -/
def F130 (x0 : api_Running) : Bool :=
  !(F131 x0)
def F211s0_l0 (i211s0_0 : Nat) (x211s0_0 : api_Running) (s211s0_0 : Unit) : Option (Ctl Unit Int) :=
  bif F130 x211s0_0 then some (.ret (cnt 0 i211s0_0)) else some (.next ())
/-- slices.IndexFunc[[]dynpos/api.Running,dynpos/api.Running] -/
def F211s0 (x0 : List api_Running) : Option Int :=
  andThen (foldI F211s0_l0 x0 0 ()) some fun s211s0_0 => some (-1)
/-- slices.ContainsFunc[[]dynpos/api.Running,dynpos/api.Running] -/
def F129s0 (x0 : List api_Running) : Option Bool :=
  (F211s0 x0).bind fun y1 => some (decide (y1 ≥ 0))
def c133_2 (x2 : Int) (x133_0 : api_Breaker) (y1 : Bool) : Bool := (((x133_0.Kind == 3) && (x133_0.B == x2)) && y1)
def F133_l0 (x1 : api_Power) (x2 : Int) (i133_0 : Nat) (x133_0 : api_Breaker) (s133_0 : Int) : Option (Ctl Int Unit) :=
  (guardO [(((x133_0.Kind == 3) && (x133_0.B == x2)), true)] (getI x1.Closed (cnt 0 i133_0)) default).bind fun y1 => bif (c133_2 x2 x133_0 y1) then some (.next (w64 (s133_0 + 1))) else some (.next s133_0)
/-- dynpos/board.closed -/
def F133 (x0 : api_Board) (x1 : api_Power) (x2 : Int) : Option Int :=
  andThen (foldI (F133_l0 x1 x2) x0.Breakers 0 0) (fun _ => none) fun s133_0 => some s133_0
def c65_0 (x0 : api_Board) (x1 : api_Power) : Bool := ((((x1.Closed.length : Int) != (x0.Breakers.length : Int)) || ((x1.Sources.length : Int) != (x0.Sources.length : Int))) || ((x1.Limits.length : Int) != (x0.Consumers.length : Int)))
def F65_l0 (x0 : api_Board) (x1 : api_Power) (i65_0 : Nat) (x65_0 : Int) (s65_0 : Bool) : Option (Ctl Bool Unit) :=
  (guardO [(s65_0, true)] (getI x0.Consumers (cnt 0 i65_0)) default).bind fun y9 => (guardO [((s65_0 && (F132 x65_0 0 y9.Load)), true)] (F133 x0 x1 (cnt 0 i65_0)) default).bind fun y11 => some (.next ((s65_0 && (F132 x65_0 0 y9.Load)) && (decide (y11 ≤ 1))))
/-- dynpos/board.State -/
def F65 (x0 : api_Board) (x1 : api_Power) : Option Int :=
  (F92 x0).bind fun y1 => bif (y1 != 0) then some y1 else bif (c65_0 x0 x1) then some 8 else (F128 x0 x1.Broken).bind fun y5 => (guardO [(y5, true)] (F129s0 x1.Sources) default).bind fun y7 => andThen (foldI (F65_l0 x0 x1) x1.Limits 0 (y5 && (!y7))) (fun _ => none) fun s65_0 => bif !s65_0 then some 11 else some 0
/-- dynpos/restore.part -/
def F137 (x0 : api_Board) (x1 : Int) (x2 : Int) : Bool :=
  bif (x1 == 1) then ((decide (x2 ≥ 0)) && (decide (x2 < (x0.Sources.length : Int)))) else bif (x1 == 2) then ((decide (x2 ≥ 0)) && (decide (x2 < (x0.Breakers.length : Int)))) else bif (x1 == 3) then ((decide (x2 ≥ 0)) && (decide (x2 < x0.Buses))) else bif (x1 == 4) then ((decide (x2 ≥ 0)) && (decide (x2 < (x0.Consumers.length : Int)))) else ((decide (x2 ≥ 0)) && (decide (x2 < 0)))
def F69_m0 (x1 : api_Act) : Option (Ctl Bool Unit) :=
  bif (x1.Kind == 1) then some (.next (x1.Kind == 1)) else some (.next (x1.Kind == 2))
def F69_m1 (x1 : api_Act) : Option (Ctl Bool Unit) :=
  bif (x1.Kind == 3) then some (.next (x1.Kind == 3)) else some (.next (x1.Kind == 4))
/-- dynpos/restore.known -/
def F69 (x0 : api_Board) (x1 : api_Act) : Option Bool :=
  andThen (F69_m0 x1) (fun _ => none) fun s69_0 => bif s69_0 then some (F137 x0 2 x1.Unit) else andThen (F69_m1 x1) (fun _ => none) fun s69_1 => bif s69_1 then some (F137 x0 1 x1.Unit) else bif (x1.Kind == 5) then some (F137 x0 4 x1.Unit) else bif (x1.Kind == 6) then some ((F137 x0 1 x1.Unit) && (F137 x0 3 x1.Value)) else bif (x1.Kind == 8) then some (F137 x0 x1.Value x1.Unit) else bif (x1.Kind == 9) then some (F137 x0 x1.Value x1.Unit) else some true
/-- slices.Clone[[]bool,bool] -/
def F138 (x0 : List Bool) : Option (List Bool) := appI 2 [] x0
/-- slices.Clone[[]dynpos/api.Running,dynpos/api.Running] -/
def F139 (x0 : List api_Running) : Option (List api_Running) := appI 33 [] x0
/-- slices.Clone[[]int,int] -/
def F140 (x0 : List Int) : Option (List Int) := appI 9 [] x0
/-- slices.Clone[[]dynpos/api.Part,dynpos/api.Part] -/
def F141 (x0 : List api_Part) : Option (List api_Part) := appI 17 [] x0
/-- dynpos/states.Clone -/
def F70 (x0 : api_Power) : Option api_Power :=
  (F138 x0.Closed).bind fun y1 => (F139 x0.Sources).bind fun y3 => (F140 x0.Limits).bind fun y5 => (F141 x0.Broken).bind fun y7 => some (⟨y1, y3, y5, y7⟩ : api_Power)
def c249_1 (x1 : api_Part) (x249_0 : api_Part) : Bool := ((x1.Kind == x249_0.Kind) && ((x1.Number == x249_0.Number) && true))
def F249_l0 (x1 : api_Part) (i249_0 : Nat) (x249_0 : api_Part) (s249_0 : Unit) : Option (Ctl Unit Int) :=
  bif (c249_1 x1 x249_0) then some (.ret (cnt 0 i249_0)) else some (.next ())
/-- slices.Index[[]dynpos/api.Part,dynpos/api.Part] -/
def F249 (x0 : List api_Part) (x1 : api_Part) : Option Int :=
  andThen (foldI (F249_l0 x1) x0 0 ()) some fun s249_0 => some (-1)
/-- slices.Contains[[]dynpos/api.Part,dynpos/api.Part] -/
def F212 (x0 : List api_Part) (x1 : api_Part) : Option Bool :=
  (F249 x0 x1).bind fun y1 => some (decide (y1 ≥ 0))
/-- dynpos/board.Broken -/
def F134 (x0 : api_Power) (x1 : Int) (x2 : Int) : Option Bool :=
  (F212 x0.Broken (⟨x1, x2⟩ : api_Part)).bind fun y1 => some y1
def c237_1 (x2 : Int) (x3 : Int) (x237_0 : api_Breaker) (y1 : Bool) : Bool := (((x237_0.Kind == x2) && (x237_0.B == x3)) && y1)
def F237_l0 (x1 : api_Power) (x2 : Int) (x3 : Int) (i237_0 : Nat) (x237_0 : api_Breaker) (s237_0 : Unit) : Option (Ctl Unit (Int × Bool)) :=
  (guardO [(((x237_0.Kind == x2) && (x237_0.B == x3)), true)] (getI x1.Closed (cnt 0 i237_0)) default).bind fun y1 => bif (c237_1 x2 x3 x237_0 y1) then some (.ret (x237_0.A, true)) else some (.next ())
/-- dynpos/board.led -/
def F237 (x0 : api_Board) (x1 : api_Power) (x2 : Int) (x3 : Int) : Option (Int × Bool) :=
  andThen (foldI (F237_l0 x1 x2 x3) x0.Breakers 0 ()) some fun s237_0 => some (0, false)
/-- dynpos/board.fed -/
def F188 (x0 : api_Board) (x1 : api_Power) (x2 : Int) : Option (Int × Bool) :=
  (F237 x0 x1 3 x2).bind fun y1 => some (y1.1, y1.2)
/-- dynpos/board.Fed -/
def F168 (x0 : api_Board) (x1 : api_Power) (x2 : Int) : Option (Int × Bool) :=
  (F65 x0 x1).bind fun y1 => bif (y1 != 0) then some (0, false) else (F188 x0 x1 x2).bind fun y4 => some (y4.1, y4.2)
/-- dynpos/sync.sound -/
def F250 (x0 : api_Board) (x1 : api_Power) (x2 : Int) : Option Bool :=
  (getI x0.Breakers x2).bind fun y1 => (getI x1.Closed x2).bind fun y3 => (guardO [(y3, false)] (F134 x1 2 x2) default).bind fun y5 => (guardO [((y3 || y5), false)] (F134 x1 3 y1.A) default).bind fun y7 => bif ((y3 || y5) || y7) then some false else bif (y1.Kind == 1) then (F134 x1 3 y1.B).bind fun y11 => some (!y11) else bif (y1.Kind == 2) then (F134 x1 1 y1.B).bind fun y14 => (guardO [(!y14, true)] (getI x1.Sources y1.B) default).bind fun y16 => some ((!y14) && (y16.State == 2)) else (F168 x0 x1 y1.B).bind fun y18 => (F134 x1 4 y1.B).bind fun y20 => some ((!y20) && (!y18.2))
def F186_l0 (i186_0 : Nat) (x186_0 : Int) (s186_0 : (List Int)) : Option (Ctl ((List Int)) Unit) :=
  (getI s186_0 (cnt 0 i186_0)).bind fun y3 => (setI s186_0 (cnt 0 i186_0) (cnt 0 i186_0)).bind fun y5 => some (.next y5)
def F186_l2 (x1 : api_Power) (i186_2 : Nat) (x186_2 : api_Breaker) (s186_2 : (List Int)) : Option (Ctl ((List Int)) Unit) :=
  (guardO [((x186_2.Kind == 1), true)] (getI x1.Closed (cnt 0 i186_2)) default).bind fun y7 => bif ((x186_2.Kind == 1) && y7) then (getI s186_2 x186_2.A).bind fun y10 => (getI s186_2 x186_2.B).bind fun y12 => (setI s186_2 x186_2.A (min y10 y12)).bind fun y14 => (getI y14 x186_2.B).bind fun y16 => (setI y14 x186_2.B (min y10 y12)).bind fun y18 => some (.next y18) else some (.next s186_2)
def F186_l1 (x0 : api_Board) (x1 : api_Power) (i186_1 : Nat) (x186_1 : Int) (s186_1 : (List Int)) : Option (Ctl ((List Int)) Unit) :=
  andThen (foldI (F186_l2 x1) x0.Breakers 0 s186_1) (fun _ => none) fun s186_2 => some (.next s186_2)
/-- dynpos/board.groups -/
def F186 (x0 : api_Board) (x1 : api_Power) : Option ((List Int)) :=
  (mkI 9 x0.Buses 0).bind fun y1 => andThen (foldI F186_l0 y1 0 y1) (fun _ => none) fun s186_0 => andThen (foldI (F186_l1 x0 x1) s186_0 0 s186_0) (fun _ => none) fun s186_1 => some s186_1
def c187_0 (x1 : api_Power) (x2 : Int) (y1 : api_Running) : Bool := ((!(F132 x2 0 (w64 ((x1.Sources.length : Int) - 1)))) || (y1.State != 2))
/-- dynpos/board.connected -/
def F187 (x0 : api_Board) (x1 : api_Power) (x2 : Int) : Option (Int × Bool) :=
  (guardO [(!(F132 x2 0 (w64 ((x1.Sources.length : Int) - 1))), false)] (getI x1.Sources x2) default).bind fun y1 => bif (c187_0 x1 x2 y1) then some (0, false) else (F237 x0 x1 2 x2).bind fun y4 => some (y4.1, y4.2)
/-- dynpos/board.Islands$1 -/
def F190 (x0 : api_Island) : Bool :=
  ((x0.Buses.length : Int) == 0)
def F185s0_l0 (i185s0_0 : Nat) (x185s0_0 : api_Island) (s185s0_0 : Unit) : Option (Ctl Unit Int) :=
  bif F190 x185s0_0 then some (.ret (cnt 0 i185s0_0)) else some (.next ())
/-- slices.IndexFunc[[]dynpos/api.Island,dynpos/api.Island] -/
def F185s0 (x0 : List api_Island) : Option Int :=
  andThen (foldI F185s0_l0 x0 0 ()) some fun s185s0_0 => some (-1)
def c189s1_2 (s189s1_0 : Int × Int × (List api_Island)) : Bool := decide (s189s1_0.2.1 < (s189s1_0.2.2.length : Int))
def F189s1_l0 (s189s1_0 : Int × Int × (List api_Island)) : Option (Ctl (Int × Int × (List api_Island)) Unit) :=
  bif (c189s1_2 s189s1_0) then (getI s189s1_0.2.2 s189s1_0.2.1).bind fun y5 => bif !(F190 y5) then (getI s189s1_0.2.2 s189s1_0.1).bind fun y8 => (setI s189s1_0.2.2 s189s1_0.1 y5).bind fun y10 => some (.next (w64 (s189s1_0.1 + 1), w64 (s189s1_0.2.1 + 1), y10)) else some (.next (s189s1_0.1, w64 (s189s1_0.2.1 + 1), s189s1_0.2.2)) else some (.brk (s189s1_0.1, s189s1_0.2.1, s189s1_0.2.2))
/-- slices.DeleteFunc[[]dynpos/api.Island,dynpos/api.Island] -/
def F189s1 (x0 : List api_Island) : Option ((List api_Island)) :=
  (F185s0 x0).bind fun y1 => bif (y1 == (-1)) then some x0 else andThen (whileN F189s1_l0 1152921504606846976 (y1, w64 (y1 + 1), x0)) (fun _ => none) fun s189s1_0 => (bndI s189s1_0.2.2.length s189s1_0.1 (s189s1_0.2.2.length : Int)).bind fun u13 => (bndI (clrI s189s1_0.2.2 (Int.toNat s189s1_0.1) ((Int.toNat (s189s1_0.2.2.length : Int)) - (Int.toNat s189s1_0.1)) (⟨([] : List Int), ([] : List Int), ([] : List Int)⟩ : api_Island)).length 0 s189s1_0.1).bind fun u15 => some ((clrI s189s1_0.2.2 (Int.toNat s189s1_0.1) ((Int.toNat (s189s1_0.2.2.length : Int)) - (Int.toNat s189s1_0.1)) (⟨([] : List Int), ([] : List Int), ([] : List Int)⟩ : api_Island)).take ((Int.toNat s189s1_0.1) - 0))
def F106_l0 (i106_0 : Nat) (x106_0 : Int) (s106_0 : (List api_Island)) : Option (Ctl ((List api_Island)) Unit) :=
  (getI s106_0 x106_0).bind fun y8 => (appI 9 y8.Buses [cnt 0 i106_0]).bind fun y10 => (setI s106_0 x106_0 (⟨y10, y8.Sources, y8.Consumers⟩ : api_Island)).bind fun y12 => some (.next y12)
def c106_1 (x0 : api_Board) (s106_1 : Int × (List api_Island)) : Bool := decide (s106_1.1 < (x0.Sources.length : Int))
def F106_l1 (x0 : api_Board) (x1 : api_Power) (y4 : (List Int)) (s106_1 : Int × (List api_Island)) : Option (Ctl (Int × (List api_Island)) Unit) :=
  bif (c106_1 x0 s106_1) then (F187 x0 x1 s106_1.1).bind fun y15 => bif y15.2 then (getI y4 y15.1).bind fun y18 => (getI s106_1.2 y18).bind fun y20 => (appI 9 y20.Sources [s106_1.1]).bind fun y22 => (setI s106_1.2 y18 (⟨y20.Buses, y22, y20.Consumers⟩ : api_Island)).bind fun y24 => some (.next (w64 (s106_1.1 + 1), y24)) else some (.next (w64 (s106_1.1 + 1), s106_1.2)) else some (.brk (s106_1.1, s106_1.2))
def c106_3 (x0 : api_Board) (s106_2 : Int × (List api_Island)) : Bool := decide (s106_2.1 < (x0.Consumers.length : Int))
def F106_l2 (x0 : api_Board) (x1 : api_Power) (y4 : (List Int)) (s106_2 : Int × (List api_Island)) : Option (Ctl (Int × (List api_Island)) Unit) :=
  bif (c106_3 x0 s106_2) then (F188 x0 x1 s106_2.1).bind fun y27 => bif y27.2 then (getI y4 y27.1).bind fun y30 => (getI s106_2.2 y30).bind fun y32 => (appI 9 y32.Consumers [s106_2.1]).bind fun y34 => (setI s106_2.2 y30 (⟨y32.Buses, y32.Sources, y34⟩ : api_Island)).bind fun y36 => some (.next (w64 (s106_2.1 + 1), y36)) else some (.next (w64 (s106_2.1 + 1), s106_2.2)) else some (.brk (s106_2.1, s106_2.2))
/-- dynpos/board.Islands -/
def F106 (x0 : api_Board) (x1 : api_Power) : Option ((List api_Island)) :=
  (F65 x0 x1).bind fun y1 => bif (y1 != 0) then some ([] : List api_Island) else (F186 x0 x1).bind fun y4 => (mkI 73 x0.Buses (⟨([] : List Int), ([] : List Int), ([] : List Int)⟩ : api_Island)).bind fun y6 => andThen (foldI F106_l0 y4 0 y6) (fun _ => none) fun s106_0 => andThen (whileN (F106_l1 x0 x1 y4) 1152921504606846976 (0, s106_0)) (fun _ => none) fun s106_1 => andThen (whileN (F106_l2 x0 x1 y4) 1152921504606846976 (0, s106_1.2)) (fun _ => none) fun s106_2 => (F189s1 s106_2.2).bind fun y38 => some y38
def F176_l0 (x2 : Int) (i176_0 : Nat) (x176_0 : api_Island) (s176_0 : Unit) : Option (Ctl Unit (api_Island × Bool)) :=
  (F96 x176_0.Buses x2).bind fun y3 => bif y3 then some (.ret (x176_0, true)) else some (.next ())
/-- dynpos/board.Of -/
def F176 (x0 : api_Board) (x1 : api_Power) (x2 : Int) : Option (api_Island × Bool) :=
  (F106 x0 x1).bind fun y1 => andThen (foldI (F176_l0 x2) y1 0 ()) some fun s176_0 => some ((⟨([] : List Int), ([] : List Int), ([] : List Int)⟩ : api_Island), false)
/-- dynpos/sync.Leader -/
def F214 (x0 : api_Board) (x1 : api_Power) (x2 : Int) : Option (Int × Bool) :=
  (F176 x0 x1 x2).bind fun y1 => bif ((y1.1.Sources.length : Int) == 0) then some (0, false) else (getI y1.1.Sources 0).bind fun y4 => some (y4, true)
/-- dynpos/angle.Norm -/
def F252 (x0 : Int) : Int :=
  bif decide ((Int.tmod x0 3600) < 0) then w64 ((Int.tmod x0 3600) + 3600) else Int.tmod x0 3600
def c280_0 (x0 : Int) (x1 : Int) : Bool := decide ((F252 (w64 ((F252 x1) - (F252 x0)))) > 1800)
/-- dynpos/angle.Diff -/
def F280 (x0 : Int) (x1 : Int) : Int :=
  bif (c280_0 x0 x1) then w64 ((F252 (w64 ((F252 x1) - (F252 x0)))) - 3600) else F252 (w64 ((F252 x1) - (F252 x0)))
def c274_0 (x1 : api_Running) (x2 : api_Running) : Bool := ((decide ((min x1.Frequency x2.Frequency) < 0)) || (decide ((max x1.Frequency x2.Frequency) > 6000)))
/-- dynpos/sync.Agree -/
def F274 (x0 : api_Board) (x1 : api_Running) (x2 : api_Running) : Bool :=
  bif (c274_0 x1 x2) then false else ((decide ((max (w64 (x1.Frequency - x2.Frequency)) (w64 (x2.Frequency - x1.Frequency))) ≤ x0.Frequency)) && (decide ((max (F280 x1.Phase x2.Phase) (w64 (0 - F280 x1.Phase x2.Phase))) ≤ x0.Phase)))
/-- dynpos/sync.synchronous -/
def F251 (x0 : api_Board) (x1 : api_Power) (x2 : api_Breaker) : Option Bool :=
  (F214 x0 x1 x2.A).bind fun y1 => bif !y1.2 then some true else bif (x2.Kind == 1) then (F214 x0 x1 x2.B).bind fun y5 => (guardO [(!y5.2, false)] (getI x1.Sources y1.1) default).bind fun y7 => (guardO [(!y5.2, false)] (getI x1.Sources y5.1) default).bind fun y9 => some ((!y5.2) || (F274 x0 y7 y9)) else bif (x2.Kind == 2) then (getI x1.Sources y1.1).bind fun y12 => (getI x1.Sources x2.B).bind fun y14 => some (F274 x0 y12 y14) else some true
def c213_0 (x0 : api_Board) (x2 : Int) : Bool := ((decide (x2 < 0)) || (decide (x2 ≥ (x0.Breakers.length : Int))))
/-- dynpos/sync.May -/
def F213 (x0 : api_Board) (x1 : api_Power) (x2 : Int) : Option Int :=
  (F65 x0 x1).bind fun y1 => bif (y1 != 0) then some y1 else bif (c213_0 x0 x2) then some 10 else (F250 x0 x1 x2).bind fun y5 => bif !y5 then some 11 else (getI x0.Breakers x2).bind fun y8 => (F176 x0 x1 y8.A).bind fun y10 => (guardO [((y8.Kind == 1), true)] (F96 y10.1.Buses y8.B) default).bind fun y12 => (guardO [(!((y8.Kind == 1) && y12), true)] (F251 x0 x1 y8) default).bind fun y14 => bif ((!((y8.Kind == 1) && y12)) && (!y14)) then some 12 else some 0
def F183s0_l0 (x2 : api_Running) (i183s0_0 : Nat) (x183s0_0 : Int) (s183s0_0 : (List api_Running)) : Option (Ctl ((List api_Running)) Unit) :=
  (getI s183s0_0 x183s0_0).bind fun y1 => (setI s183s0_0 x183s0_0 (⟨y1.State, y1.Since, x2.Frequency, y1.Phase⟩ : api_Running)).bind fun y3 => (getI y3 x183s0_0).bind fun y5 => (setI y3 x183s0_0 (⟨y5.State, y5.Since, y5.Frequency, x2.Phase⟩ : api_Running)).bind fun y7 => some (.next y7)
/-- dynpos/sync.set -/
def F183s0 (x0 : api_Power) (x1 : List Int) (x2 : api_Running) : Option ((List api_Running)) :=
  andThen (foldI (F183s0_l0 x2) x1 0 x0.Sources) (fun _ => none) fun s183s0_0 => some s183s0_0
def c101_2 (x101_0 : api_Island) : Bool := decide ((x101_0.Sources.length : Int) > 0)
def F101_l0 (x1 : api_Power) (y4 : api_Power) (i101_0 : Nat) (x101_0 : api_Island) (s101_0 : (List api_Running)) : Option (Ctl ((List api_Running)) Unit) :=
  bif (c101_2 x101_0) then (getI x101_0.Sources 0).bind fun y9 => (getI x1.Sources y9).bind fun y11 => (F183s0 (⟨y4.Closed, s101_0, y4.Limits, y4.Broken⟩ : api_Power) x101_0.Sources y11).bind fun y13 => some (.next y13) else some (.next s101_0)
/-- dynpos/sync.Follow -/
def F101 (x0 : api_Board) (x1 : api_Power) : Option (api_Power × Int) :=
  (F65 x0 x1).bind fun y1 => bif (y1 != 0) then some ((⟨([] : List Bool), ([] : List api_Running), ([] : List Int), ([] : List api_Part)⟩ : api_Power), y1) else (F70 x1).bind fun y4 => (F106 x0 x1).bind fun y6 => andThen (foldI (F101_l0 x1 y4) y6 0 y4.Sources) (fun _ => none) fun s101_0 => some ((⟨y4.Closed, s101_0, y4.Limits, y4.Broken⟩ : api_Power), 0)
/-- dynpos/sync.Close -/
def F142 (x0 : api_Board) (x1 : api_Power) (x2 : Int) : Option (api_Power × Int) :=
  (F213 x0 x1 x2).bind fun y1 => bif (y1 != 0) then some ((⟨([] : List Bool), ([] : List api_Running), ([] : List Int), ([] : List api_Part)⟩ : api_Power), y1) else (F70 x1).bind fun y4 => (getI y4.Closed x2).bind fun y6 => (setI y4.Closed x2 true).bind fun y8 => (F101 x0 (⟨y8, y4.Sources, y4.Limits, y4.Broken⟩ : api_Power)).bind fun y10 => some (y10.1, y10.2)
def c143_0 (x0 : api_Board) (x2 : Int) : Bool := ((decide (x2 < 0)) || (decide (x2 ≥ (x0.Breakers.length : Int))))
/-- dynpos/sync.Open -/
def F143 (x0 : api_Board) (x1 : api_Power) (x2 : Int) : Option (api_Power × Int) :=
  (F65 x0 x1).bind fun y1 => bif (y1 != 0) then some ((⟨([] : List Bool), ([] : List api_Running), ([] : List Int), ([] : List api_Part)⟩ : api_Power), y1) else bif (c143_0 x0 x2) then some ((⟨([] : List Bool), ([] : List api_Running), ([] : List Int), ([] : List api_Part)⟩ : api_Power), 10) else (getI x1.Closed x2).bind fun y5 => (guardO [(!y5, false)] (F134 x1 2 x2) default).bind fun y7 => bif ((!y5) || y7) then some ((⟨([] : List Bool), ([] : List api_Running), ([] : List Int), ([] : List api_Part)⟩ : api_Power), 11) else (F70 x1).bind fun y10 => (getI y10.Closed x2).bind fun y12 => (setI y10.Closed x2 false).bind fun y14 => some ((⟨y14, y10.Sources, y10.Limits, y10.Broken⟩ : api_Power), 0)
/-- dynpos/board.Connected -/
def F215 (x0 : api_Board) (x1 : api_Power) (x2 : Int) : Option (Int × Bool) :=
  (F65 x0 x1).bind fun y1 => bif (y1 != 0) then some (0, false) else (F187 x0 x1 x2).bind fun y4 => some (y4.1, y4.2)
def c144_0 (x0 : api_Board) (x2 : Int) (x3 : Int) : Bool := ((((decide (x2 < 0)) || (decide (x2 ≥ (x0.Sources.length : Int)))) || (decide (x3 < 0))) || (decide (x3 ≥ x0.Buses)))
/-- dynpos/sync.Match -/
def F144 (x0 : api_Board) (x1 : api_Power) (x2 : Int) (x3 : Int) : Option (api_Power × Int) :=
  (F65 x0 x1).bind fun y1 => bif (y1 != 0) then some ((⟨([] : List Bool), ([] : List api_Running), ([] : List Int), ([] : List api_Part)⟩ : api_Power), y1) else bif (c144_0 x0 x2 x3) then some ((⟨([] : List Bool), ([] : List api_Running), ([] : List Int), ([] : List api_Part)⟩ : api_Power), 10) else (F214 x0 x1 x3).bind fun y5 => (guardO [(!y5.2, false)] (getI x1.Sources x2) default).bind fun y7 => bif ((!y5.2) || (y7.State != 2)) then some ((⟨([] : List Bool), ([] : List api_Running), ([] : List Int), ([] : List api_Part)⟩ : api_Power), 11) else (F70 x1).bind fun y10 => (F215 x0 x1 x2).bind fun y12 => bif y12.2 then (F176 x0 x1 y12.1).bind fun y15 => (getI x1.Sources y5.1).bind fun y17 => (F183s0 y10 y15.1.Sources y17).bind fun y19 => some ((⟨y10.Closed, y19, y10.Limits, y10.Broken⟩ : api_Power), 0) else (getI x1.Sources y5.1).bind fun y21 => (F183s0 y10 [x2] y21).bind fun y23 => some ((⟨y10.Closed, y23, y10.Limits, y10.Broken⟩ : api_Power), 0)
/-- dynpos/restore.breaker$1 -/
def F136s0 (x0 : api_Breaker) (x1 : Int) : Bool :=
  ((x0.Kind == 2) && (x0.B == x1))
def F135s1_l0 (x1c0 : Int) (i135s1_0 : Nat) (x135s1_0 : api_Breaker) (s135s1_0 : Unit) : Option (Ctl Unit (Int × Int)) :=
  bif F136s0 x135s1_0 x1c0 then some (.ret (cnt 0 i135s1_0, x1c0)) else some (.next ())
/-- slices.IndexFunc[[]dynpos/api.Breaker,dynpos/api.Breaker] -/
def F135s1 (x0 : List api_Breaker) (x1c0 : Int) : Option (Int × Int) :=
  andThen (foldI (F135s1_l0 x1c0) x0 0 ()) some fun s135s1_0 => some ((-1), x1c0)
/-- dynpos/restore.breaker -/
def F67 (x0 : api_Board) (x1 : Int) : Option Int :=
  (F135s1 x0.Breakers x1).bind fun y1 => some y1.1
/-- (*dynpos/restore.worker).open -/
def F216s0 (x0 : restore_worker) (x1 : Int) : Option Bool :=
  (F67 x0.board x1).bind fun y1 => (getI x0.power.Closed y1).bind fun y3 => some (!y3)
/-- (*dynpos/restore.worker).start -/
def F145s1 (x0 : restore_worker) (x1 : Int) : Option (Int × restore_worker) :=
  (getI x0.power.Sources x1).bind fun y1 => (guardO [((y1.State != 0), false)] (F134 x0.power 1 x1) default).bind fun y3 => bif ((y1.State != 0) || y3) then some (11, x0) else (getI x0.board.Sources x1).bind fun y6 => (guardO [((y6.Start == 0), true)] (F216s0 x0 x1) default).bind fun y8 => bif ((y6.Start == 0) && y8) then (setI x0.power.Sources x1 (⟨2, x0.time, 5000, 0⟩ : api_Running)).bind fun y11 => some (0, (⟨x0.board, (⟨x0.power.Closed, y11, x0.power.Limits, x0.power.Broken⟩ : api_Power), x0.time⟩ : restore_worker)) else (setI x0.power.Sources x1 (⟨1, x0.time, 5000, 0⟩ : api_Running)).bind fun y13 => some (0, (⟨x0.board, (⟨x0.power.Closed, y13, x0.power.Limits, x0.power.Broken⟩ : api_Power), x0.time⟩ : restore_worker))
def c146s1_0 (y1 : api_Running) (y3 : Bool) : Bool := (((y1.State != 1) && (y1.State != 2)) || (!y3))
/-- (*dynpos/restore.worker).stop -/
def F146s1 (x0 : restore_worker) (x1 : Int) : Option (Int × restore_worker) :=
  (getI x0.power.Sources x1).bind fun y1 => (guardO [(((y1.State != 1) && (y1.State != 2)), false)] (F216s0 x0 x1) default).bind fun y3 => bif (c146s1_0 y1 y3) then some (11, x0) else (setI x0.power.Sources x1 (⟨0, y1.Since, y1.Frequency, y1.Phase⟩ : api_Running)).bind fun y6 => some (0, (⟨x0.board, (⟨x0.power.Closed, y6, x0.power.Limits, x0.power.Broken⟩ : api_Power), x0.time⟩ : restore_worker))
def c147s1_0 (x2 : Int) (y1 : api_Consumer) : Bool := ((decide (x2 < 0)) || (decide (x2 > y1.Load)))
/-- (*dynpos/restore.worker).limit -/
def F147s1 (x0 : restore_worker) (x1 : Int) (x2 : Int) : Option (Int × restore_worker) :=
  (guardO [(decide (x2 < 0), false)] (getI x0.board.Consumers x1) default).bind fun y1 => bif (c147s1_0 x2 y1) then some (1, x0) else (getI x0.power.Limits x1).bind fun y4 => (setI x0.power.Limits x1 x2).bind fun y6 => some (0, (⟨x0.board, (⟨x0.power.Closed, x0.power.Sources, y6, x0.power.Broken⟩ : api_Power), x0.time⟩ : restore_worker))
def F217_l0 (i217_0 : Nat) (x217_0 : api_Running) (s217_0 : (List api_Running)) : Option (Ctl ((List api_Running)) Unit) :=
  bif (x217_0.State == 2) then (getI s217_0 (cnt 0 i217_0)).bind fun y7 => (setI s217_0 (cnt 0 i217_0) (⟨y7.State, y7.Since, y7.Frequency, F252 (w64 (x217_0.Phase + (w64 (36 * (w64 (x217_0.Frequency - 5000))))))⟩ : api_Running)).bind fun y9 => some (.next y9) else some (.next s217_0)
/-- dynpos/sync.Turn -/
def F217 (x0 : api_Board) (x1 : api_Power) : Option (api_Power × Int) :=
  (F65 x0 x1).bind fun y1 => bif (y1 != 0) then some ((⟨([] : List Bool), ([] : List api_Running), ([] : List Int), ([] : List api_Part)⟩ : api_Power), y1) else (F70 x1).bind fun y4 => andThen (foldI F217_l0 x1.Sources 0 y4.Sources) (fun _ => none) fun s217_0 => some ((⟨y4.Closed, s217_0, y4.Limits, y4.Broken⟩ : api_Power), 0)
def c148s1_3 (y1 : api_Power × Int) (s148s1_0 : Int × (List api_Running)) : Bool := decide (s148s1_0.1 < (y1.1.Sources.length : Int))
def c148s1_4 (x0 : restore_worker) (y4 : api_Running) (y6 : Bool) (y8 : api_Source) : Bool := (((y4.State == 1) && y6) && (decide ((w64 (y4.Since + y8.Start)) ≤ (w64 (x0.time + 1)))))
def F148s1_l0 (x0 : restore_worker) (y1 : api_Power × Int) (s148s1_0 : Int × (List api_Running)) : Option (Ctl (Int × (List api_Running)) Unit) :=
  bif (c148s1_3 y1 s148s1_0) then (getI s148s1_0.2 s148s1_0.1).bind fun y4 => (guardO [((y4.State == 1), true)] (F216s0 (⟨x0.board, (⟨y1.1.Closed, s148s1_0.2, y1.1.Limits, y1.1.Broken⟩ : api_Power), x0.time⟩ : restore_worker) s148s1_0.1) default).bind fun y6 => (guardO [(((y4.State == 1) && y6), true)] (getI x0.board.Sources s148s1_0.1) default).bind fun y8 => bif (c148s1_4 x0 y4 y6 y8) then (setI s148s1_0.2 s148s1_0.1 (⟨2, y4.Since, y4.Frequency, y4.Phase⟩ : api_Running)).bind fun y11 => some (.next (w64 (s148s1_0.1 + 1), y11)) else some (.next (w64 (s148s1_0.1 + 1), s148s1_0.2)) else some (.brk (s148s1_0.1, s148s1_0.2))
/-- (*dynpos/restore.worker).wait -/
def F148s1 (x0 : restore_worker) : Option restore_worker :=
  (F217 x0.board x0.power).bind fun y1 => andThen (whileN (F148s1_l0 x0 y1) 1152921504606846976 (0, y1.1.Sources)) (fun _ => none) fun s148s1_0 => some (⟨x0.board, (⟨y1.1.Closed, s148s1_0.2, y1.1.Limits, y1.1.Broken⟩ : api_Power), x0.time⟩ : restore_worker)
/-- dynpos/restore.before -/
def F219 (x0 : api_Part) (x1 : api_Part) : Int :=
  bif (x0.Kind != x1.Kind) then w64 (x0.Kind - x1.Kind) else w64 (x0.Number - x1.Number)
def F218s0_l0 (x0 : List api_Part) (x1 : api_Part) (s218s0_0 : Int × Int) : Option (Ctl (Int × Int) Unit) :=
  bif decide (s218s0_0.1 < s218s0_0.2) then (getI x0 (w64 (shrI .u64 (IntKind.wrap .u64 (w64 (s218s0_0.1 + s218s0_0.2))) 1))).bind fun y2 => bif decide ((F219 y2 x1) < 0) then some (.next (w64 ((w64 (shrI .u64 (IntKind.wrap .u64 (w64 (s218s0_0.1 + s218s0_0.2))) 1)) + 1), s218s0_0.2)) else some (.next (s218s0_0.1, w64 (shrI .u64 (IntKind.wrap .u64 (w64 (s218s0_0.1 + s218s0_0.2))) 1))) else some (.brk (s218s0_0.1, s218s0_0.2))
/-- slices.BinarySearchFunc[[]dynpos/api.Part,dynpos/api.Part,dynpos/api.Part] -/
def F218s0 (x0 : List api_Part) (x1 : api_Part) : Option (Int × Bool) :=
  andThen (whileN (F218s0_l0 x0 x1) 1152921504606846976 (0, (x0.length : Int))) (fun _ => none) fun s218s0_0 => (guardO [(decide (s218s0_0.1 < (x0.length : Int)), true)] (getI x0 s218s0_0.1) default).bind fun y5 => some (s218s0_0.1, ((decide (s218s0_0.1 < (x0.length : Int))) && ((F219 y5 x1) == 0)))
/-- slices.Insert[[]dynpos/api.Part,dynpos/api.Part] -/
def F220s0 (x0 : List api_Part) (x1 : Int) (x2 : List api_Part) : Option ((List api_Part)) :=
  (bndI x0.length x1 (x0.length : Int)).bind fun u2 => bif ((x2.length : Int) == 0) then some x0 else bif (x1 == (x0.length : Int)) then (appI 17 x0 x2).bind fun y5 => some y5 else none
/-- slices.Delete[[]dynpos/api.Part,dynpos/api.Part] -/
def F221s0 (x0 : List api_Part) (x1 : Int) (x2 : Int) : Option ((List api_Part)) :=
  (bnd3I x0.length x1 x2 (x0.length : Int)).bind fun u2 => bif (x1 == x2) then some x0 else (bndI x0.length 0 x1).bind fun u5 => (bndI x0.length x2 (x0.length : Int)).bind fun u7 => (appPI x0 ((Int.toNat x1) - 0) ((x0.drop (Int.toNat x2)).take ((Int.toNat (x0.length : Int)) - (Int.toNat x2)))).bind fun y8 => (bndI (y8.length - 0) (((((Int.toNat x1) - 0) + ((x0.drop (Int.toNat x2)).take ((Int.toNat (x0.length : Int)) - (Int.toNat x2))).length) : Nat) : Int) (x0.length : Int)).bind fun u11 => some ((clrI y8 (0 + (Int.toNat (((((Int.toNat x1) - 0) + ((x0.drop (Int.toNat x2)).take ((Int.toNat (x0.length : Int)) - (Int.toNat x2))).length) : Nat) : Int))) ((Int.toNat (x0.length : Int)) - (Int.toNat (((((Int.toNat x1) - 0) + ((x0.drop (Int.toNat x2)).take ((Int.toNat (x0.length : Int)) - (Int.toNat x2))).length) : Nat) : Int))) (⟨0, 0⟩ : api_Part)).take (((Int.toNat x1) - 0) + ((x0.drop (Int.toNat x2)).take ((Int.toNat (x0.length : Int)) - (Int.toNat x2))).length))
def c149s1_0 (x0 : restore_worker) (x2 : Bool) : Bool := (x2 && (decide ((x0.power.Broken.length : Int) ≥ 32)))
def F149s1_m0 (x0 : restore_worker) (x1 : api_Part) (x2 : Bool) (y1 : Int × Bool) : Option (Ctl ((List api_Part)) Unit) :=
  bif x2 then (F220s0 x0.power.Broken y1.1 [x1]).bind fun y6 => some (.next y6) else (F221s0 x0.power.Broken y1.1 (w64 (y1.1 + 1))).bind fun y8 => some (.next y8)
/-- (*dynpos/restore.worker).fail -/
def F149s1 (x0 : restore_worker) (x1 : api_Part) (x2 : Bool) : Option (Int × restore_worker) :=
  (F218s0 x0.power.Broken x1).bind fun y1 => bif (y1.2 == x2) then some (11, x0) else bif (c149s1_0 x0 x2) then some (2, x0) else andThen (F149s1_m0 x0 x1 x2 y1) (fun _ => none) fun s149s1_0 => bif (x1.Kind == 1) then (getI x0.power.Sources x1.Number).bind fun y11 => (setI x0.power.Sources x1.Number (⟨0, y11.Since, y11.Frequency, y11.Phase⟩ : api_Running)).bind fun y13 => bif x2 then (getI y13 x1.Number).bind fun y16 => (setI y13 x1.Number (⟨3, y16.Since, y16.Frequency, y16.Phase⟩ : api_Running)).bind fun y18 => some (0, (⟨x0.board, (⟨x0.power.Closed, y18, x0.power.Limits, s149s1_0⟩ : api_Power), x0.time⟩ : restore_worker)) else some (0, (⟨x0.board, (⟨x0.power.Closed, y13, x0.power.Limits, s149s1_0⟩ : api_Power), x0.time⟩ : restore_worker)) else some (0, (⟨x0.board, (⟨x0.power.Closed, x0.power.Sources, x0.power.Limits, s149s1_0⟩ : api_Power), x0.time⟩ : restore_worker))
/-- (*dynpos/restore.worker).do -/
def F71s1 (x0 : restore_worker) (x1 : api_Act) : Option (Int × restore_worker) :=
  bif (x1.Kind == 1) then (F142 x0.board x0.power x1.Unit).bind fun y2 => some (y2.2, (⟨x0.board, y2.1, x0.time⟩ : restore_worker)) else bif (x1.Kind == 2) then (F143 x0.board x0.power x1.Unit).bind fun y5 => some (y5.2, (⟨x0.board, y5.1, x0.time⟩ : restore_worker)) else bif (x1.Kind == 6) then (F144 x0.board x0.power x1.Unit x1.Value).bind fun y8 => some (y8.2, (⟨x0.board, y8.1, x0.time⟩ : restore_worker)) else bif (x1.Kind == 3) then (F145s1 x0 x1.Unit).bind fun y11 => some (y11.1, y11.2) else bif (x1.Kind == 4) then (F146s1 x0 x1.Unit).bind fun y14 => some (y14.1, y14.2) else bif (x1.Kind == 5) then (F147s1 x0 x1.Unit x1.Value).bind fun y17 => some (y17.1, y17.2) else bif (x1.Kind == 7) then (F148s1 x0).bind fun y20 => some (0, y20) else (F149s1 x0 (⟨x1.Value, x1.Unit⟩ : api_Part) (x1.Kind == 8)).bind fun y22 => some (y22.1, y22.2)
def c19_0 (x2 : Int) (x3 : api_Act) : Bool := ((((decide (x2 < 0)) || (decide (x2 > 2147483648))) || (decide (x3.Kind < 1))) || (decide (x3.Kind > 9)))
/-- dynpos/restore.Act -/
def F19 (x0 : api_Board) (x1 : api_Power) (x2 : Int) (x3 : api_Act) : Option (api_Power × Int) :=
  (F65 x0 x1).bind fun y1 => bif (y1 != 0) then some ((⟨([] : List Bool), ([] : List api_Running), ([] : List Int), ([] : List api_Part)⟩ : api_Power), y1) else bif (c19_0 x2 x3) then some ((⟨([] : List Bool), ([] : List api_Running), ([] : List Int), ([] : List api_Part)⟩ : api_Power), 1) else (F69 x0 x3).bind fun y5 => bif !y5 then some ((⟨([] : List Bool), ([] : List api_Running), ([] : List Int), ([] : List api_Part)⟩ : api_Power), 10) else (F70 x1).bind fun y8 => (F71s1 (⟨x0, y8, x2⟩ : restore_worker) x3).bind fun y10 => bif (y10.1 != 0) then some ((⟨([] : List Bool), ([] : List api_Running), ([] : List Int), ([] : List api_Part)⟩ : api_Power), y10.1) else some (y10.2.power, 0)
/-- (*dynpos/shed.relief).dangerous$1 -/
def F256s0 (x0 : Int) (x1 : Int) (x2 : shed_relief) : Option (Bool × shed_relief) :=
  (F134 x2.power x0 x1).bind fun y1 => some (y1, x2)
/-- (*dynpos/shed.relief).dangerous -/
def F223s1 (x0 : shed_relief) (x1 : api_Breaker) : Option (Bool × shed_relief) :=
  (F256s0 3 x1.A x0).bind fun y1 => bif y1.1 then some (true, y1.2) else bif (x1.Kind == 1) then (F256s0 3 x1.B y1.2).bind fun y5 => some (y5.1, y5.2) else bif (x1.Kind == 2) then (F256s0 1 x1.B y1.2).bind fun y8 => (guardO [(y8.1, false)] (getI y8.2.power.Sources x1.B) default).bind fun y10 => some ((y8.1 || (y10.State != 2)), y8.2) else (F256s0 4 x1.B y1.2).bind fun y12 => some (y12.1, y12.2)
/-- (*dynpos/shed.relief).open -/
def F255s1 (x0 : shed_relief) (x1 : Int) : Option shed_relief :=
  (getI x0.power.Closed x1).bind fun y1 => (setI x0.power.Closed x1 false).bind fun y3 => (appI 25 x0.acts [(⟨2, x1, 0⟩ : api_Act)]).bind fun y5 => some (⟨x0.board, (⟨y3, x0.power.Sources, x0.power.Limits, x0.power.Broken⟩ : api_Power), y5⟩ : shed_relief)
def F222s1_l0 (i222s1_0 : Nat) (x222s1_0 : api_Breaker) (s222s1_0 : Sg5) : Option (Ctl (Sg5) Unit) :=
  (getI s222s1_0.2.2.2.2.2.2.2.1 (cnt 0 i222s1_0)).bind fun y1 => (guardO [(y1, true)] (F223s1 (⟨(⟨s222s1_0.1, s222s1_0.2.1, s222s1_0.2.2.1, s222s1_0.2.2.2.1, s222s1_0.2.2.2.2.1, s222s1_0.2.2.2.2.2.1⟩ : api_Board), (⟨s222s1_0.2.2.2.2.2.2.2.1, s222s1_0.2.2.2.2.2.2.2.2.1, s222s1_0.2.2.2.2.2.2.2.2.2.1, s222s1_0.2.2.2.2.2.2.2.2.2.2.1⟩ : api_Power), s222s1_0.2.2.2.2.2.2.2.2.2.2.2⟩ : shed_relief) x222s1_0) (default, (⟨(⟨s222s1_0.1, s222s1_0.2.1, s222s1_0.2.2.1, s222s1_0.2.2.2.1, s222s1_0.2.2.2.2.1, s222s1_0.2.2.2.2.2.1⟩ : api_Board), (⟨s222s1_0.2.2.2.2.2.2.2.1, s222s1_0.2.2.2.2.2.2.2.2.1, s222s1_0.2.2.2.2.2.2.2.2.2.1, s222s1_0.2.2.2.2.2.2.2.2.2.2.1⟩ : api_Power), s222s1_0.2.2.2.2.2.2.2.2.2.2.2⟩ : shed_relief))).bind fun y3 => bif (y1 && y3.1) then (appI 9 s222s1_0.2.2.2.2.2.2.1 [cnt 0 i222s1_0]).bind fun y6 => some (.next (y3.2.board.Buses, y3.2.board.Breakers, y3.2.board.Sources, y3.2.board.Consumers, y3.2.board.Phase, y3.2.board.Frequency, y6, y3.2.power.Closed, y3.2.power.Sources, y3.2.power.Limits, y3.2.power.Broken, y3.2.acts)) else some (.next (y3.2.board.Buses, y3.2.board.Breakers, y3.2.board.Sources, y3.2.board.Consumers, y3.2.board.Phase, y3.2.board.Frequency, s222s1_0.2.2.2.2.2.2.1, y3.2.power.Closed, y3.2.power.Sources, y3.2.power.Limits, y3.2.power.Broken, y3.2.acts))
def F222s1_l1 (i222s1_1 : Nat) (x222s1_1 : Int) (s222s1_1 : Sg4) : Option (Ctl (Sg4) Unit) :=
  (F255s1 (⟨(⟨s222s1_1.1, s222s1_1.2.1, s222s1_1.2.2.1, s222s1_1.2.2.2.1, s222s1_1.2.2.2.2.1, s222s1_1.2.2.2.2.2.1⟩ : api_Board), (⟨s222s1_1.2.2.2.2.2.2.1, s222s1_1.2.2.2.2.2.2.2.1, s222s1_1.2.2.2.2.2.2.2.2.1, s222s1_1.2.2.2.2.2.2.2.2.2.1⟩ : api_Power), s222s1_1.2.2.2.2.2.2.2.2.2.2⟩ : shed_relief) x222s1_1).bind fun y8 => some (.next (y8.board.Buses, y8.board.Breakers, y8.board.Sources, y8.board.Consumers, y8.board.Phase, y8.board.Frequency, y8.power.Closed, y8.power.Sources, y8.power.Limits, y8.power.Broken, y8.acts))
/-- (*dynpos/shed.relief).sweep -/
def F222s1 (x0 : shed_relief) : Option shed_relief :=
  andThen (foldI F222s1_l0 x0.board.Breakers 0 (x0.board.Buses, x0.board.Breakers, x0.board.Sources, x0.board.Consumers, x0.board.Phase, x0.board.Frequency, ([] : List Int), x0.power.Closed, x0.power.Sources, x0.power.Limits, x0.power.Broken, x0.acts)) (fun _ => none) fun s222s1_0 => andThen (foldI F222s1_l1 s222s1_0.2.2.2.2.2.2.1 0 (s222s1_0.1, s222s1_0.2.1, s222s1_0.2.2.1, s222s1_0.2.2.2.1, s222s1_0.2.2.2.2.1, s222s1_0.2.2.2.2.2.1, s222s1_0.2.2.2.2.2.2.2.1, s222s1_0.2.2.2.2.2.2.2.2.1, s222s1_0.2.2.2.2.2.2.2.2.2.1, s222s1_0.2.2.2.2.2.2.2.2.2.2.1, s222s1_0.2.2.2.2.2.2.2.2.2.2.2)) (fun _ => none) fun s222s1_1 => some (⟨(⟨s222s1_1.1, s222s1_1.2.1, s222s1_1.2.2.1, s222s1_1.2.2.2.1, s222s1_1.2.2.2.2.1, s222s1_1.2.2.2.2.2.1⟩ : api_Board), (⟨s222s1_1.2.2.2.2.2.2.1, s222s1_1.2.2.2.2.2.2.2.1, s222s1_1.2.2.2.2.2.2.2.2.1, s222s1_1.2.2.2.2.2.2.2.2.2.1⟩ : api_Power), s222s1_1.2.2.2.2.2.2.2.2.2.2⟩ : shed_relief)
/-- dynpos/board.Live -/
def F95 (x0 : api_Board) (x1 : api_Power) (x2 : Int) : Option Bool :=
  (F176 x0 x1 x2).bind fun y1 => some (decide ((y1.1.Sources.length : Int) > 0))
/-- (*dynpos/shed.relief).clear$1 -/
def F224s0 (x0 : api_Breaker) (x1 : shed_relief) : Option (Bool × shed_relief) :=
  (guardO [((x0.Kind == 3), true)] (F95 x1.board x1.power x0.A) default).bind fun y1 => some (((x0.Kind == 3) && (!y1)), x1)
def F222s2_l0 (i222s2_0 : Nat) (x222s2_0 : api_Breaker) (s222s2_0 : Sg5) : Option (Ctl (Sg5) Unit) :=
  (getI s222s2_0.2.2.2.2.2.2.2.1 (cnt 0 i222s2_0)).bind fun y1 => (guardO [(y1, true)] (F224s0 x222s2_0 (⟨(⟨s222s2_0.1, s222s2_0.2.1, s222s2_0.2.2.1, s222s2_0.2.2.2.1, s222s2_0.2.2.2.2.1, s222s2_0.2.2.2.2.2.1⟩ : api_Board), (⟨s222s2_0.2.2.2.2.2.2.2.1, s222s2_0.2.2.2.2.2.2.2.2.1, s222s2_0.2.2.2.2.2.2.2.2.2.1, s222s2_0.2.2.2.2.2.2.2.2.2.2.1⟩ : api_Power), s222s2_0.2.2.2.2.2.2.2.2.2.2.2⟩ : shed_relief)) (default, (⟨(⟨s222s2_0.1, s222s2_0.2.1, s222s2_0.2.2.1, s222s2_0.2.2.2.1, s222s2_0.2.2.2.2.1, s222s2_0.2.2.2.2.2.1⟩ : api_Board), (⟨s222s2_0.2.2.2.2.2.2.2.1, s222s2_0.2.2.2.2.2.2.2.2.1, s222s2_0.2.2.2.2.2.2.2.2.2.1, s222s2_0.2.2.2.2.2.2.2.2.2.2.1⟩ : api_Power), s222s2_0.2.2.2.2.2.2.2.2.2.2.2⟩ : shed_relief))).bind fun y3 => bif (y1 && y3.1) then (appI 9 s222s2_0.2.2.2.2.2.2.1 [cnt 0 i222s2_0]).bind fun y6 => some (.next (y3.2.board.Buses, y3.2.board.Breakers, y3.2.board.Sources, y3.2.board.Consumers, y3.2.board.Phase, y3.2.board.Frequency, y6, y3.2.power.Closed, y3.2.power.Sources, y3.2.power.Limits, y3.2.power.Broken, y3.2.acts)) else some (.next (y3.2.board.Buses, y3.2.board.Breakers, y3.2.board.Sources, y3.2.board.Consumers, y3.2.board.Phase, y3.2.board.Frequency, s222s2_0.2.2.2.2.2.2.1, y3.2.power.Closed, y3.2.power.Sources, y3.2.power.Limits, y3.2.power.Broken, y3.2.acts))
def F222s2_l1 (i222s2_1 : Nat) (x222s2_1 : Int) (s222s2_1 : Sg4) : Option (Ctl (Sg4) Unit) :=
  (F255s1 (⟨(⟨s222s2_1.1, s222s2_1.2.1, s222s2_1.2.2.1, s222s2_1.2.2.2.1, s222s2_1.2.2.2.2.1, s222s2_1.2.2.2.2.2.1⟩ : api_Board), (⟨s222s2_1.2.2.2.2.2.2.1, s222s2_1.2.2.2.2.2.2.2.1, s222s2_1.2.2.2.2.2.2.2.2.1, s222s2_1.2.2.2.2.2.2.2.2.2.1⟩ : api_Power), s222s2_1.2.2.2.2.2.2.2.2.2.2⟩ : shed_relief) x222s2_1).bind fun y8 => some (.next (y8.board.Buses, y8.board.Breakers, y8.board.Sources, y8.board.Consumers, y8.board.Phase, y8.board.Frequency, y8.power.Closed, y8.power.Sources, y8.power.Limits, y8.power.Broken, y8.acts))
/-- (*dynpos/shed.relief).sweep -/
def F222s2 (x0 : shed_relief) : Option shed_relief :=
  andThen (foldI F222s2_l0 x0.board.Breakers 0 (x0.board.Buses, x0.board.Breakers, x0.board.Sources, x0.board.Consumers, x0.board.Phase, x0.board.Frequency, ([] : List Int), x0.power.Closed, x0.power.Sources, x0.power.Limits, x0.power.Broken, x0.acts)) (fun _ => none) fun s222s2_0 => andThen (foldI F222s2_l1 s222s2_0.2.2.2.2.2.2.1 0 (s222s2_0.1, s222s2_0.2.1, s222s2_0.2.2.1, s222s2_0.2.2.2.1, s222s2_0.2.2.2.2.1, s222s2_0.2.2.2.2.2.1, s222s2_0.2.2.2.2.2.2.2.1, s222s2_0.2.2.2.2.2.2.2.2.1, s222s2_0.2.2.2.2.2.2.2.2.2.1, s222s2_0.2.2.2.2.2.2.2.2.2.2.1, s222s2_0.2.2.2.2.2.2.2.2.2.2.2)) (fun _ => none) fun s222s2_1 => some (⟨(⟨s222s2_1.1, s222s2_1.2.1, s222s2_1.2.2.1, s222s2_1.2.2.2.1, s222s2_1.2.2.2.2.1, s222s2_1.2.2.2.2.2.1⟩ : api_Board), (⟨s222s2_1.2.2.2.2.2.2.1, s222s2_1.2.2.2.2.2.2.2.1, s222s2_1.2.2.2.2.2.2.2.2.1, s222s2_1.2.2.2.2.2.2.2.2.2.1⟩ : api_Power), s222s2_1.2.2.2.2.2.2.2.2.2.2⟩ : shed_relief)
/-- (*dynpos/shed.relief).clear -/
def F157s1 (x0 : shed_relief) : Option shed_relief :=
  (F222s1 x0).bind fun y1 => (F222s2 y1).bind fun y3 => (F101 y3.board y3.power).bind fun y5 => some (⟨y3.board, y5.1, y3.acts⟩ : shed_relief)
/-- dynpos/shed.Order$1 -/
def F231s0 (x0 : Int) (x1 : Int) (x2 : api_Board) : Option Int :=
  (getI x2.Consumers x0).bind fun y1 => (getI x2.Consumers x1).bind fun y3 => some (F210 y1.Preference y3.Preference)
def c276s1_8 (x1 : Int) (s276s1_1 : Int × (List Int)) (y12 : Int) : Bool := ((decide (s276s1_1.1 > x1)) && (decide (y12 < 0)))
def F276s1_l1 (x1 : Int) (x3c0 : api_Board) (s276s1_1 : Int × (List Int)) : Option (Ctl (Int × (List Int)) Unit) :=
  (guardO [(decide (s276s1_1.1 > x1), true)] (getI s276s1_1.2 s276s1_1.1) default).bind fun y8 => (guardO [(decide (s276s1_1.1 > x1), true)] (getI s276s1_1.2 (w64 (s276s1_1.1 - 1))) default).bind fun y10 => (guardO [(decide (s276s1_1.1 > x1), true)] (F231s0 y8 y10 x3c0) default).bind fun y12 => bif (c276s1_8 x1 s276s1_1 y12) then (getI s276s1_1.2 (w64 (s276s1_1.1 - 1))).bind fun y15 => (getI s276s1_1.2 s276s1_1.1).bind fun y17 => (setI s276s1_1.2 s276s1_1.1 y15).bind fun y19 => (getI y19 (w64 (s276s1_1.1 - 1))).bind fun y21 => (setI y19 (w64 (s276s1_1.1 - 1)) y17).bind fun y23 => some (.next (w64 (s276s1_1.1 - 1), y23)) else some (.brk (s276s1_1.1, s276s1_1.2))
def F276s1_l0 (x1 : Int) (x2 : Int) (x3c0 : api_Board) (s276s1_0 : Int × (List Int)) : Option (Ctl (Int × (List Int)) Unit) :=
  bif decide (s276s1_0.1 < x2) then andThen (whileN (F276s1_l1 x1 x3c0) 1152921504606846976 (s276s1_0.1, s276s1_0.2)) (fun _ => none) fun s276s1_1 => some (.next (w64 (s276s1_0.1 + 1), s276s1_1.2)) else some (.brk (s276s1_0.1, s276s1_0.2))
/-- slices.insertionSortCmpFunc[int] -/
def F276s1 (x0 : List Int) (x1 : Int) (x2 : Int) (x3c0 : api_Board) : Option ((List Int) × api_Board) :=
  andThen (whileN (F276s1_l0 x1 x2 x3c0) 1152921504606846976 (w64 (x1 + 1), x0)) (fun _ => none) fun s276s1_0 => some (s276s1_0.2, x3c0)
def F283s1_l0 (x1 : Int) (x2 : Int) (x3 : Int) (s283s1_0 : Int × (List Int)) : Option (Ctl (Int × (List Int)) Unit) :=
  bif decide (s283s1_0.1 < x3) then (getI s283s1_0.2 (w64 (x2 + s283s1_0.1))).bind fun y2 => (getI s283s1_0.2 (w64 (x1 + s283s1_0.1))).bind fun y4 => (setI s283s1_0.2 (w64 (x1 + s283s1_0.1)) y2).bind fun y6 => (getI y6 (w64 (x2 + s283s1_0.1))).bind fun y8 => (setI y6 (w64 (x2 + s283s1_0.1)) y4).bind fun y10 => some (.next (w64 (s283s1_0.1 + 1), y10)) else some (.brk (s283s1_0.1, s283s1_0.2))
/-- slices.swapRangeCmpFunc[int] -/
def F283s1 (x0 : List Int) (x1 : Int) (x2 : Int) (x3 : Int) (x4c0 : api_Board) : Option ((List Int) × api_Board) :=
  andThen (whileN (F283s1_l0 x1 x2 x3) 1152921504606846976 (0, x0)) (fun _ => none) fun s283s1_0 => some (s283s1_0.2, x4c0)
def c282s1_2 (s282s1_0 : Sg2) : Bool := decide (s282s1_0.1 > s282s1_0.2.2.2.2.2.2.2.2)
def F282s1_l0 (x2 : Int) (s282s1_0 : Sg2) : Option (Ctl (Sg2) Unit) :=
  bif (s282s1_0.1 != s282s1_0.2.2.2.2.2.2.2.2) then bif (c282s1_2 s282s1_0) then (F283s1 s282s1_0.2.1 (w64 (x2 - s282s1_0.1)) x2 s282s1_0.2.2.2.2.2.2.2.2 (⟨s282s1_0.2.2.1, s282s1_0.2.2.2.1, s282s1_0.2.2.2.2.1, s282s1_0.2.2.2.2.2.1, s282s1_0.2.2.2.2.2.2.1, s282s1_0.2.2.2.2.2.2.2.1⟩ : api_Board)).bind fun y3 => some (.next (w64 (s282s1_0.1 - s282s1_0.2.2.2.2.2.2.2.2), y3.1, y3.2.Buses, y3.2.Breakers, y3.2.Sources, y3.2.Consumers, y3.2.Phase, y3.2.Frequency, s282s1_0.2.2.2.2.2.2.2.2)) else (F283s1 s282s1_0.2.1 (w64 (x2 - s282s1_0.1)) (w64 ((w64 (x2 + s282s1_0.2.2.2.2.2.2.2.2)) - s282s1_0.1)) s282s1_0.1 (⟨s282s1_0.2.2.1, s282s1_0.2.2.2.1, s282s1_0.2.2.2.2.1, s282s1_0.2.2.2.2.2.1, s282s1_0.2.2.2.2.2.2.1, s282s1_0.2.2.2.2.2.2.2.1⟩ : api_Board)).bind fun y5 => some (.next (s282s1_0.1, y5.1, y5.2.Buses, y5.2.Breakers, y5.2.Sources, y5.2.Consumers, y5.2.Phase, y5.2.Frequency, w64 (s282s1_0.2.2.2.2.2.2.2.2 - s282s1_0.1))) else some (.brk (s282s1_0.1, s282s1_0.2.1, s282s1_0.2.2.1, s282s1_0.2.2.2.1, s282s1_0.2.2.2.2.1, s282s1_0.2.2.2.2.2.1, s282s1_0.2.2.2.2.2.2.1, s282s1_0.2.2.2.2.2.2.2.1, s282s1_0.2.2.2.2.2.2.2.2))
/-- slices.rotateCmpFunc[int] -/
def F282s1 (x0 : List Int) (x1 : Int) (x2 : Int) (x3 : Int) (x4c0 : api_Board) : Option ((List Int) × api_Board) :=
  andThen (whileN (F282s1_l0 x2) 1152921504606846976 (w64 (x2 - x1), x0, x4c0.Buses, x4c0.Breakers, x4c0.Sources, x4c0.Consumers, x4c0.Phase, x4c0.Frequency, w64 (x3 - x2))) (fun _ => none) fun s282s1_0 => (F283s1 s282s1_0.2.1 (w64 (x2 - s282s1_0.1)) x2 s282s1_0.1 (⟨s282s1_0.2.2.1, s282s1_0.2.2.2.1, s282s1_0.2.2.2.2.1, s282s1_0.2.2.2.2.2.1, s282s1_0.2.2.2.2.2.2.1, s282s1_0.2.2.2.2.2.2.2.1⟩ : api_Board)).bind fun y7 => some (y7.1, y7.2)
def F277s1_l0 (x0 : List Int) (x1 : Int) (x4c0 : api_Board) (s277s1_0 : Int × Int) : Option (Ctl (Int × Int) Unit) :=
  bif decide (s277s1_0.1 < s277s1_0.2) then (getI x0 (w64 (shrI .u64 (IntKind.wrap .u64 (w64 (s277s1_0.1 + s277s1_0.2))) 1))).bind fun y3 => (getI x0 x1).bind fun y5 => (F231s0 y3 y5 x4c0).bind fun y7 => bif decide (y7 < 0) then some (.next (w64 ((w64 (shrI .u64 (IntKind.wrap .u64 (w64 (s277s1_0.1 + s277s1_0.2))) 1)) + 1), s277s1_0.2)) else some (.next (s277s1_0.1, w64 (shrI .u64 (IntKind.wrap .u64 (w64 (s277s1_0.1 + s277s1_0.2))) 1))) else some (.brk (s277s1_0.1, s277s1_0.2))
def c277s1_1 (s277s1_0 : Int × Int) (s277s1_1 : Int × (List Int)) : Bool := decide (s277s1_1.1 < (w64 (s277s1_0.1 - 1)))
def F277s1_l1 (s277s1_0 : Int × Int) (s277s1_1 : Int × (List Int)) : Option (Ctl (Int × (List Int)) Unit) :=
  bif (c277s1_1 s277s1_0 s277s1_1) then (getI s277s1_1.2 (w64 (s277s1_1.1 + 1))).bind fun y11 => (getI s277s1_1.2 s277s1_1.1).bind fun y13 => (setI s277s1_1.2 s277s1_1.1 y11).bind fun y15 => (getI y15 (w64 (s277s1_1.1 + 1))).bind fun y17 => (setI y15 (w64 (s277s1_1.1 + 1)) y13).bind fun y19 => some (.next (w64 (s277s1_1.1 + 1), y19)) else some (.brk (s277s1_1.1, s277s1_1.2))
def F277s1_l2 (x0 : List Int) (x2 : Int) (x4c0 : api_Board) (s277s1_2 : Int × Int) : Option (Ctl (Int × Int) Unit) :=
  bif decide (s277s1_2.1 < s277s1_2.2) then (getI x0 x2).bind fun y23 => (getI x0 (w64 (shrI .u64 (IntKind.wrap .u64 (w64 (s277s1_2.1 + s277s1_2.2))) 1))).bind fun y25 => (F231s0 y23 y25 x4c0).bind fun y27 => bif !(decide (y27 < 0)) then some (.next (w64 ((w64 (shrI .u64 (IntKind.wrap .u64 (w64 (s277s1_2.1 + s277s1_2.2))) 1)) + 1), s277s1_2.2)) else some (.next (s277s1_2.1, w64 (shrI .u64 (IntKind.wrap .u64 (w64 (s277s1_2.1 + s277s1_2.2))) 1))) else some (.brk (s277s1_2.1, s277s1_2.2))
def F277s1_l3 (s277s1_2 : Int × Int) (s277s1_3 : Int × (List Int)) : Option (Ctl (Int × (List Int)) Unit) :=
  bif decide (s277s1_3.1 > s277s1_2.1) then (getI s277s1_3.2 (w64 (s277s1_3.1 - 1))).bind fun y31 => (getI s277s1_3.2 s277s1_3.1).bind fun y33 => (setI s277s1_3.2 s277s1_3.1 y31).bind fun y35 => (getI y35 (w64 (s277s1_3.1 - 1))).bind fun y37 => (setI y35 (w64 (s277s1_3.1 - 1)) y33).bind fun y39 => some (.next (w64 (s277s1_3.1 - 1), y39)) else some (.brk (s277s1_3.1, s277s1_3.2))
def c277s1_2 (x1 : Int) (x2 : Int) (x3 : Int) : Bool := decide (x2 > (w64 (shrI .u64 (IntKind.wrap .u64 (w64 (x1 + x3))) 1)))
def F277s1_m4 (x1 : Int) (x2 : Int) (x3 : Int) : Option (Ctl (Int × Int) Unit) :=
  bif (c277s1_2 x1 x2 x3) then some (.next (w64 ((w64 ((w64 (shrI .u64 (IntKind.wrap .u64 (w64 (x1 + x3))) 1)) + x2)) - x3), w64 (shrI .u64 (IntKind.wrap .u64 (w64 (x1 + x3))) 1))) else some (.next (x1, x2))
def F277s1_l5 (x0 : List Int) (x1 : Int) (x2 : Int) (x3 : Int) (x4c0 : api_Board) (s277s1_5 : Int × Int) : Option (Ctl (Int × Int) Unit) :=
  bif decide (s277s1_5.1 < s277s1_5.2) then (getI x0 (w64 ((w64 ((w64 ((w64 (shrI .u64 (IntKind.wrap .u64 (w64 (x1 + x3))) 1)) + x2)) - 1)) - (w64 (shrI .u64 (IntKind.wrap .u64 (w64 (s277s1_5.1 + s277s1_5.2))) 1))))).bind fun y43 => (getI x0 (w64 (shrI .u64 (IntKind.wrap .u64 (w64 (s277s1_5.1 + s277s1_5.2))) 1))).bind fun y45 => (F231s0 y43 y45 x4c0).bind fun y47 => bif !(decide (y47 < 0)) then some (.next (w64 ((w64 (shrI .u64 (IntKind.wrap .u64 (w64 (s277s1_5.1 + s277s1_5.2))) 1)) + 1), s277s1_5.2)) else some (.next (s277s1_5.1, w64 (shrI .u64 (IntKind.wrap .u64 (w64 (s277s1_5.1 + s277s1_5.2))) 1))) else some (.brk (s277s1_5.1, s277s1_5.2))
def c277s1_3 (x1 : Int) (x2 : Int) (x3 : Int) (s277s1_5 : Int × Int) : Bool := ((decide (s277s1_5.1 < x2)) && (decide (x2 < (w64 ((w64 ((w64 (shrI .u64 (IntKind.wrap .u64 (w64 (x1 + x3))) 1)) + x2)) - s277s1_5.1)))))
def F277s1_m6 (x0 : List Int) (x1 : Int) (x2 : Int) (x3 : Int) (x4c0 : api_Board) (s277s1_5 : Int × Int) : Option (Ctl (Sg0) Unit) :=
  bif (c277s1_3 x1 x2 x3 s277s1_5) then (F282s1 x0 s277s1_5.1 x2 (w64 ((w64 ((w64 (shrI .u64 (IntKind.wrap .u64 (w64 (x1 + x3))) 1)) + x2)) - s277s1_5.1)) x4c0).bind fun y51 => some (.next (y51.1, y51.2.Buses, y51.2.Breakers, y51.2.Sources, y51.2.Consumers, y51.2.Phase, y51.2.Frequency)) else some (.next (x0, x4c0.Buses, x4c0.Breakers, x4c0.Sources, x4c0.Consumers, x4c0.Phase, x4c0.Frequency))
def c277s1_4 (x1 : Int) (x3 : Int) (s277s1_5 : Int × Int) : Bool := ((decide (x1 < s277s1_5.1)) && (decide (s277s1_5.1 < (w64 (shrI .u64 (IntKind.wrap .u64 (w64 (x1 + x3))) 1)))))
def c277s1_5 (x1 : Int) (x2 : Int) (x3 : Int) (s277s1_5 : Int × Int) : Bool := ((decide ((w64 (shrI .u64 (IntKind.wrap .u64 (w64 (x1 + x3))) 1)) < (w64 ((w64 ((w64 (shrI .u64 (IntKind.wrap .u64 (w64 (x1 + x3))) 1)) + x2)) - s277s1_5.1)))) && (decide ((w64 ((w64 ((w64 (shrI .u64 (IntKind.wrap .u64 (w64 (x1 + x3))) 1)) + x2)) - s277s1_5.1)) < x3)))
/-- slices.symMergeCmpFunc[int] -/
def F277s1 (x0 : List Int) (x1 : Int) (x2 : Int) (x3 : Int) (x4c0 : api_Board) : Option ((List Int) × api_Board) :=
  bif ((w64 (x2 - x1)) == 1) then andThen (whileN (F277s1_l0 x0 x1 x4c0) 1152921504606846976 (x2, x3)) (fun _ => none) fun s277s1_0 => andThen (whileN (F277s1_l1 s277s1_0) 1152921504606846976 (x1, x0)) (fun _ => none) fun s277s1_1 => some (s277s1_1.2, x4c0) else bif ((w64 (x3 - x2)) == 1) then andThen (whileN (F277s1_l2 x0 x2 x4c0) 1152921504606846976 (x1, x2)) (fun _ => none) fun s277s1_2 => andThen (whileN (F277s1_l3 s277s1_2) 1152921504606846976 (x2, x0)) (fun _ => none) fun s277s1_3 => some (s277s1_3.2, x4c0) else andThen (F277s1_m4 x1 x2 x3) (fun _ => none) fun s277s1_4 => andThen (whileN (F277s1_l5 x0 x1 x2 x3 x4c0) 1152921504606846976 (s277s1_4.1, s277s1_4.2)) (fun _ => none) fun s277s1_5 => andThen (F277s1_m6 x0 x1 x2 x3 x4c0 s277s1_5) (fun _ => none) fun s277s1_6 => bif (c277s1_4 x1 x3 s277s1_5) then none else bif (c277s1_5 x1 x2 x3 s277s1_5) then none else some (s277s1_6.1, (⟨s277s1_6.2.1, s277s1_6.2.2.1, s277s1_6.2.2.2.1, s277s1_6.2.2.2.2.1, s277s1_6.2.2.2.2.2.1, s277s1_6.2.2.2.2.2.2⟩ : api_Board))
def F259s1_l0 (x1 : Int) (s259s1_0 : Sg7) : Option (Ctl (Sg7) Unit) :=
  bif decide (s259s1_0.2.1 ≤ x1) then (F276s1 s259s1_0.2.2.1 s259s1_0.1 s259s1_0.2.1 (⟨s259s1_0.2.2.2.1, s259s1_0.2.2.2.2.1, s259s1_0.2.2.2.2.2.1, s259s1_0.2.2.2.2.2.2.1, s259s1_0.2.2.2.2.2.2.2.1, s259s1_0.2.2.2.2.2.2.2.2⟩ : api_Board)).bind fun y2 => some (.next (s259s1_0.2.1, w64 (s259s1_0.2.1 + 20), y2.1, y2.2.Buses, y2.2.Breakers, y2.2.Sources, y2.2.Consumers, y2.2.Phase, y2.2.Frequency)) else some (.brk (s259s1_0.1, s259s1_0.2.1, s259s1_0.2.2.1, s259s1_0.2.2.2.1, s259s1_0.2.2.2.2.1, s259s1_0.2.2.2.2.2.1, s259s1_0.2.2.2.2.2.2.1, s259s1_0.2.2.2.2.2.2.2.1, s259s1_0.2.2.2.2.2.2.2.2))
def F259s1_l2 (x1 : Int) (s259s1_1 : Sg9) (s259s1_2 : Sg7) : Option (Ctl (Sg7) Unit) :=
  bif decide (s259s1_2.2.1 ≤ x1) then (F277s1 s259s1_2.2.2.1 s259s1_2.1 (w64 (s259s1_2.1 + s259s1_1.1)) s259s1_2.2.1 (⟨s259s1_2.2.2.2.1, s259s1_2.2.2.2.2.1, s259s1_2.2.2.2.2.2.1, s259s1_2.2.2.2.2.2.2.1, s259s1_2.2.2.2.2.2.2.2.1, s259s1_2.2.2.2.2.2.2.2.2⟩ : api_Board)).bind fun y8 => some (.next (s259s1_2.2.1, w64 (s259s1_2.2.1 + (w64 (2 * s259s1_1.1))), y8.1, y8.2.Buses, y8.2.Breakers, y8.2.Sources, y8.2.Consumers, y8.2.Phase, y8.2.Frequency)) else some (.brk (s259s1_2.1, s259s1_2.2.1, s259s1_2.2.2.1, s259s1_2.2.2.2.1, s259s1_2.2.2.2.2.1, s259s1_2.2.2.2.2.2.1, s259s1_2.2.2.2.2.2.2.1, s259s1_2.2.2.2.2.2.2.2.1, s259s1_2.2.2.2.2.2.2.2.2))
def c259s1_1 (x1 : Int) (s259s1_1 : Sg9) (s259s1_2 : Sg7) : Bool := decide ((w64 (s259s1_2.1 + s259s1_1.1)) < x1)
def F259s1_l1 (x1 : Int) (s259s1_1 : Sg9) : Option (Ctl (Sg9) Unit) :=
  bif decide (s259s1_1.1 < x1) then andThen (whileN (F259s1_l2 x1 s259s1_1) 1152921504606846976 (0, w64 (2 * s259s1_1.1), s259s1_1.2.2.2.1, s259s1_1.2.2.2.2.1, s259s1_1.2.2.2.2.2.1, s259s1_1.2.2.2.2.2.2.1, s259s1_1.2.2.2.2.2.2.2.1, s259s1_1.2.2.2.2.2.2.2.2.1, s259s1_1.2.2.2.2.2.2.2.2.2)) (fun _ => none) fun s259s1_2 => bif (c259s1_1 x1 s259s1_1 s259s1_2) then (F277s1 s259s1_2.2.2.1 s259s1_2.1 (w64 (s259s1_2.1 + s259s1_1.1)) x1 (⟨s259s1_2.2.2.2.1, s259s1_2.2.2.2.2.1, s259s1_2.2.2.2.2.2.1, s259s1_2.2.2.2.2.2.2.1, s259s1_2.2.2.2.2.2.2.2.1, s259s1_2.2.2.2.2.2.2.2.2⟩ : api_Board)).bind fun y11 => some (.next (w64 (s259s1_1.1 * 2), s259s1_2.1, s259s1_2.2.1, y11.1, y11.2.Buses, y11.2.Breakers, y11.2.Sources, y11.2.Consumers, y11.2.Phase, y11.2.Frequency)) else some (.next (w64 (s259s1_1.1 * 2), s259s1_2.1, s259s1_2.2.1, s259s1_2.2.2.1, s259s1_2.2.2.2.1, s259s1_2.2.2.2.2.1, s259s1_2.2.2.2.2.2.1, s259s1_2.2.2.2.2.2.2.1, s259s1_2.2.2.2.2.2.2.2.1, s259s1_2.2.2.2.2.2.2.2.2)) else some (.brk (s259s1_1.1, s259s1_1.2.1, s259s1_1.2.2.1, s259s1_1.2.2.2.1, s259s1_1.2.2.2.2.1, s259s1_1.2.2.2.2.2.1, s259s1_1.2.2.2.2.2.2.1, s259s1_1.2.2.2.2.2.2.2.1, s259s1_1.2.2.2.2.2.2.2.2.1, s259s1_1.2.2.2.2.2.2.2.2.2))
/-- slices.stableCmpFunc[int] -/
def F259s1 (x0 : List Int) (x1 : Int) (x2c0 : api_Board) : Option ((List Int) × api_Board) :=
  andThen (whileN (F259s1_l0 x1) 1152921504606846976 (0, 20, x0, x2c0.Buses, x2c0.Breakers, x2c0.Sources, x2c0.Consumers, x2c0.Phase, x2c0.Frequency)) (fun _ => none) fun s259s1_0 => (F276s1 s259s1_0.2.2.1 s259s1_0.1 x1 (⟨s259s1_0.2.2.2.1, s259s1_0.2.2.2.2.1, s259s1_0.2.2.2.2.2.1, s259s1_0.2.2.2.2.2.2.1, s259s1_0.2.2.2.2.2.2.2.1, s259s1_0.2.2.2.2.2.2.2.2⟩ : api_Board)).bind fun y4 => andThen (whileN (F259s1_l1 x1) 1152921504606846976 (20, s259s1_0.1, s259s1_0.2.1, y4.1, y4.2.Buses, y4.2.Breakers, y4.2.Sources, y4.2.Consumers, y4.2.Phase, y4.2.Frequency)) (fun _ => none) fun s259s1_1 => some (s259s1_1.2.2.2.1, (⟨s259s1_1.2.2.2.2.1, s259s1_1.2.2.2.2.2.1, s259s1_1.2.2.2.2.2.2.1, s259s1_1.2.2.2.2.2.2.2.1, s259s1_1.2.2.2.2.2.2.2.2.1, s259s1_1.2.2.2.2.2.2.2.2.2⟩ : api_Board))
/-- slices.SortStableFunc[[]int,int] -/
def F230s1 (x0 : List Int) (x1c0 : api_Board) : Option ((List Int) × api_Board) :=
  (F259s1 x0 (x0.length : Int) x1c0).bind fun y1 => some (y1.1, y1.2)
def c167_1 (x0 : api_Board) (s167_0 : Int × (List Int)) : Bool := decide (s167_0.1 < (x0.Consumers.length : Int))
def F167_l0 (x0 : api_Board) (s167_0 : Int × (List Int)) : Option (Ctl (Int × (List Int)) Unit) :=
  bif (c167_1 x0 s167_0) then (appI 9 s167_0.2 [s167_0.1]).bind fun y5 => some (.next (w64 (s167_0.1 + 1), y5)) else some (.brk (s167_0.1, s167_0.2))
/-- dynpos/shed.Order -/
def F167 (x0 : api_Board) : Option ((List Int)) :=
  (F92 x0).bind fun y1 => bif (y1 != 0) then some ([] : List Int) else andThen (whileN (F167_l0 x0) 1152921504606846976 (0, ([] : List Int))) (fun _ => none) fun s167_0 => (F230s1 s167_0.2 x0).bind fun y7 => some y7.1
/-- (*dynpos/shed.relief).shed$1 -/
def F226s0 (x0 : Int) (x1 : api_Island) : Option Bool :=
  (F96 x1.Consumers x0).bind fun y1 => some (!y1)
def F243s1_l0 (x1c0 : api_Island) (i243s1_0 : Nat) (x243s1_0 : Int) (s243s1_0 : Unit) : Option (Ctl Unit (Int × api_Island)) :=
  (F226s0 x243s1_0 x1c0).bind fun y1 => bif y1 then some (.ret (cnt 0 i243s1_0, x1c0)) else some (.next ())
/-- slices.IndexFunc[[]int,int] -/
def F243s1 (x0 : List Int) (x1c0 : api_Island) : Option (Int × api_Island) :=
  andThen (foldI (F243s1_l0 x1c0) x0 0 ()) some fun s243s1_0 => some ((-1), x1c0)
def c225s1_2 (s225s1_0 : Int × Int × (List Int)) : Bool := decide (s225s1_0.2.1 < (s225s1_0.2.2.length : Int))
def F225s1_l0 (y1 : Int × api_Island) (s225s1_0 : Int × Int × (List Int)) : Option (Ctl (Int × Int × (List Int)) Unit) :=
  bif (c225s1_2 s225s1_0) then (getI s225s1_0.2.2 s225s1_0.2.1).bind fun y5 => (F226s0 y5 y1.2).bind fun y7 => bif !y7 then (getI s225s1_0.2.2 s225s1_0.1).bind fun y10 => (setI s225s1_0.2.2 s225s1_0.1 y5).bind fun y12 => some (.next (w64 (s225s1_0.1 + 1), w64 (s225s1_0.2.1 + 1), y12)) else some (.next (s225s1_0.1, w64 (s225s1_0.2.1 + 1), s225s1_0.2.2)) else some (.brk (s225s1_0.1, s225s1_0.2.1, s225s1_0.2.2))
/-- slices.DeleteFunc[[]int,int] -/
def F225s1 (x0 : List Int) (x1c0 : api_Island) : Option ((List Int) × api_Island) :=
  (F243s1 x0 x1c0).bind fun y1 => bif (y1.1 == (-1)) then some (x0, y1.2) else andThen (whileN (F225s1_l0 y1) 1152921504606846976 (y1.1, w64 (y1.1 + 1), x0)) (fun _ => none) fun s225s1_0 => (bndI s225s1_0.2.2.length s225s1_0.1 (s225s1_0.2.2.length : Int)).bind fun u15 => (bndI (clrI s225s1_0.2.2 (Int.toNat s225s1_0.1) ((Int.toNat (s225s1_0.2.2.length : Int)) - (Int.toNat s225s1_0.1)) 0).length 0 s225s1_0.1).bind fun u17 => some (((clrI s225s1_0.2.2 (Int.toNat s225s1_0.1) ((Int.toNat (s225s1_0.2.2.length : Int)) - (Int.toNat s225s1_0.1)) 0).take ((Int.toNat s225s1_0.1) - 0)), y1.2)
def F169_l0 (x1 : api_Power) (y1 : api_Island × Bool) (i169_0 : Nat) (x169_0 : Int) (s169_0 : Int) : Option (Ctl Int Unit) :=
  bif decide ((y1.1.Sources.length : Int) > 0) then (getI x1.Limits x169_0).bind fun y4 => some (.next (w64 (s169_0 + y4))) else some (.next s169_0)
/-- dynpos/balance.Load -/
def F169 (x0 : api_Board) (x1 : api_Power) (x2 : Int) : Option Int :=
  (F176 x0 x1 x2).bind fun y1 => andThen (foldI (F169_l0 x1 y1) y1.1.Consumers 0 0) (fun _ => none) fun s169_0 => some s169_0
def F170_l0 (x0 : api_Board) (i170_0 : Nat) (x170_0 : Int) (s170_0 : Int) : Option (Ctl Int Unit) :=
  (getI x0.Sources x170_0).bind fun y3 => some (.next (w64 (s170_0 + y3.Rating)))
/-- dynpos/balance.Rating -/
def F170 (x0 : api_Board) (x1 : api_Power) (x2 : Int) : Option Int :=
  (F176 x0 x1 x2).bind fun y1 => andThen (foldI (F170_l0 x0) y1.1.Sources 0 0) (fun _ => none) fun s170_0 => some s170_0
/-- (*dynpos/shed.relief).excess -/
def F257s0 (x0 : shed_relief) (x1 : Int) : Option Int :=
  (F169 x0.board x0.power x1).bind fun y1 => (F170 x0.board x0.power x1).bind fun y3 => some (max 0 (w64 (y1 - y3)))
def F106s0_l0 (i106s0_0 : Nat) (x106s0_0 : Int) (s106s0_0 : (List api_Island)) : Option (Ctl ((List api_Island)) Unit) :=
  (getI s106s0_0 x106s0_0).bind fun y8 => (appI 9 y8.Buses [cnt 0 i106s0_0]).bind fun y10 => (setI s106s0_0 x106s0_0 (⟨y10, y8.Sources, y8.Consumers⟩ : api_Island)).bind fun y12 => some (.next y12)
def c106s0_1 (x0 : api_Board) (s106s0_1 : Int × (List api_Island)) : Bool := decide (s106s0_1.1 < (x0.Sources.length : Int))
def F106s0_l1 (x0 : api_Board) (x1 : api_Power) (y4 : (List Int)) (s106s0_1 : Int × (List api_Island)) : Option (Ctl (Int × (List api_Island)) Unit) :=
  bif (c106s0_1 x0 s106s0_1) then (F187 x0 x1 s106s0_1.1).bind fun y15 => bif y15.2 then (getI y4 y15.1).bind fun y18 => (getI s106s0_1.2 y18).bind fun y20 => (appI 9 y20.Sources [s106s0_1.1]).bind fun y22 => (setI s106s0_1.2 y18 (⟨y20.Buses, y22, y20.Consumers⟩ : api_Island)).bind fun y24 => some (.next (w64 (s106s0_1.1 + 1), y24)) else some (.next (w64 (s106s0_1.1 + 1), s106s0_1.2)) else some (.brk (s106s0_1.1, s106s0_1.2))
def c106s0_3 (x0 : api_Board) (s106s0_2 : Int × (List api_Island)) : Bool := decide (s106s0_2.1 < (x0.Consumers.length : Int))
def F106s0_l2 (x0 : api_Board) (x1 : api_Power) (y4 : (List Int)) (s106s0_2 : Int × (List api_Island)) : Option (Ctl (Int × (List api_Island)) Unit) :=
  bif (c106s0_3 x0 s106s0_2) then (F188 x0 x1 s106s0_2.1).bind fun y27 => bif y27.2 then (getI y4 y27.1).bind fun y30 => (getI s106s0_2.2 y30).bind fun y32 => (appI 9 y32.Consumers [s106s0_2.1]).bind fun y34 => (setI s106s0_2.2 y30 (⟨y32.Buses, y32.Sources, y34⟩ : api_Island)).bind fun y36 => some (.next (w64 (s106s0_2.1 + 1), y36)) else some (.next (w64 (s106s0_2.1 + 1), s106s0_2.2)) else some (.brk (s106s0_2.1, s106s0_2.2))
/-- dynpos/board.Islands -/
def F106s0 (x0 : api_Board) (x1 : api_Power) : Option ((List api_Island)) :=
  (F65 x0 x1).bind fun y1 => bif (y1 != 0) then some ([] : List api_Island) else (F186 x0 x1).bind fun y4 => (mkI 73 x0.Buses (⟨([] : List Int), ([] : List Int), ([] : List Int)⟩ : api_Island)).bind fun y6 => andThen (foldI F106s0_l0 y4 0 y6) (fun _ => none) fun s106s0_0 => andThen (whileN (F106s0_l1 x0 x1 y4) 1152921504606846976 (0, s106s0_0)) (fun _ => none) fun s106s0_1 => andThen (whileN (F106s0_l2 x0 x1 y4) 1152921504606846976 (0, s106s0_1.2)) (fun _ => none) fun s106s0_2 => (F189s1 s106s0_2.2).bind fun y38 => some y38
def c227s2_2 (y1 : Int) (y3 : Int) (y5 : api_Consumer) : Bool := decide ((min y1 (w64 (y3 - y5.Least))) > 0)
def F227s2_l0 (x0 : shed_relief) (x2 : Int) (i227s2_0 : Nat) (x227s2_0 : Int) (s227s2_0 : (List Int) × (List api_Act)) : Option (Ctl ((List Int) × (List api_Act)) Unit) :=
  (F257s0 (⟨x0.board, (⟨x0.power.Closed, x0.power.Sources, s227s2_0.1, x0.power.Broken⟩ : api_Power), s227s2_0.2⟩ : shed_relief) x2).bind fun y1 => (getI s227s2_0.1 x227s2_0).bind fun y3 => (getI x0.board.Consumers x227s2_0).bind fun y5 => bif (c227s2_2 y1 y3 y5) then (setI s227s2_0.1 x227s2_0 (w64 (y3 - (min y1 (w64 (y3 - y5.Least)))))).bind fun y8 => (getI y8 x227s2_0).bind fun y10 => (appI 25 s227s2_0.2 [(⟨5, x227s2_0, y10⟩ : api_Act)]).bind fun y12 => some (.next (y8, y12)) else some (.next (s227s2_0.1, s227s2_0.2))
/-- (*dynpos/shed.relief).lower -/
def F227s2 (x0 : shed_relief) (x1 : List Int) (x2 : Int) : Option shed_relief :=
  andThen (foldI (F227s2_l0 x0 x2) x1 0 (x0.power.Limits, x0.acts)) (fun _ => none) fun s227s2_0 => some (⟨x0.board, (⟨x0.power.Closed, x0.power.Sources, s227s2_0.1, x0.power.Broken⟩ : api_Power), s227s2_0.2⟩ : shed_relief)
/-- (*dynpos/shed.relief).trip$1 -/
def F258s0 (x0 : api_Breaker) (x1 : Int) : Bool :=
  ((x0.Kind == 3) && (x0.B == x1))
def F222s5_l0 (x0 : shed_relief) (x1c0 : Int) (i222s5_0 : Nat) (x222s5_0 : api_Breaker) (s222s5_0 : (List Int)) : Option (Ctl ((List Int)) Unit) :=
  (getI x0.power.Closed (cnt 0 i222s5_0)).bind fun y1 => bif (y1 && (F258s0 x222s5_0 x1c0)) then (appI 9 s222s5_0 [cnt 0 i222s5_0]).bind fun y4 => some (.next y4) else some (.next s222s5_0)
def F222s5_l1 (i222s5_1 : Nat) (x222s5_1 : Int) (s222s5_1 : Sg4) : Option (Ctl (Sg4) Unit) :=
  (F255s1 (⟨(⟨s222s5_1.1, s222s5_1.2.1, s222s5_1.2.2.1, s222s5_1.2.2.2.1, s222s5_1.2.2.2.2.1, s222s5_1.2.2.2.2.2.1⟩ : api_Board), (⟨s222s5_1.2.2.2.2.2.2.1, s222s5_1.2.2.2.2.2.2.2.1, s222s5_1.2.2.2.2.2.2.2.2.1, s222s5_1.2.2.2.2.2.2.2.2.2.1⟩ : api_Power), s222s5_1.2.2.2.2.2.2.2.2.2.2⟩ : shed_relief) x222s5_1).bind fun y6 => some (.next (y6.board.Buses, y6.board.Breakers, y6.board.Sources, y6.board.Consumers, y6.board.Phase, y6.board.Frequency, y6.power.Closed, y6.power.Sources, y6.power.Limits, y6.power.Broken, y6.acts))
/-- (*dynpos/shed.relief).sweep -/
def F222s5 (x0 : shed_relief) (x1c0 : Int) : Option (shed_relief × Int) :=
  andThen (foldI (F222s5_l0 x0 x1c0) x0.board.Breakers 0 ([] : List Int)) (fun _ => none) fun s222s5_0 => andThen (foldI F222s5_l1 s222s5_0 0 (x0.board.Buses, x0.board.Breakers, x0.board.Sources, x0.board.Consumers, x0.board.Phase, x0.board.Frequency, x0.power.Closed, x0.power.Sources, x0.power.Limits, x0.power.Broken, x0.acts)) (fun _ => none) fun s222s5_1 => some ((⟨(⟨s222s5_1.1, s222s5_1.2.1, s222s5_1.2.2.1, s222s5_1.2.2.2.1, s222s5_1.2.2.2.2.1, s222s5_1.2.2.2.2.2.1⟩ : api_Board), (⟨s222s5_1.2.2.2.2.2.2.1, s222s5_1.2.2.2.2.2.2.2.1, s222s5_1.2.2.2.2.2.2.2.2.1, s222s5_1.2.2.2.2.2.2.2.2.2.1⟩ : api_Power), s222s5_1.2.2.2.2.2.2.2.2.2.2⟩ : shed_relief), x1c0)
def F228s1_l0 (x2 : Int) (i228s1_0 : Nat) (x228s1_0 : Int) (s228s1_0 : Sg4) : Option (Ctl (Sg4) Unit) :=
  (getI s228s1_0.2.2.2.2.2.2.2.2.1 x228s1_0).bind fun y1 => (guardO [(decide (y1 > 0), true)] (F257s0 (⟨(⟨s228s1_0.1, s228s1_0.2.1, s228s1_0.2.2.1, s228s1_0.2.2.2.1, s228s1_0.2.2.2.2.1, s228s1_0.2.2.2.2.2.1⟩ : api_Board), (⟨s228s1_0.2.2.2.2.2.2.1, s228s1_0.2.2.2.2.2.2.2.1, s228s1_0.2.2.2.2.2.2.2.2.1, s228s1_0.2.2.2.2.2.2.2.2.2.1⟩ : api_Power), s228s1_0.2.2.2.2.2.2.2.2.2.2⟩ : shed_relief) x2) default).bind fun y3 => bif ((decide (y1 > 0)) && (decide (y3 > 0))) then (F222s5 (⟨(⟨s228s1_0.1, s228s1_0.2.1, s228s1_0.2.2.1, s228s1_0.2.2.2.1, s228s1_0.2.2.2.2.1, s228s1_0.2.2.2.2.2.1⟩ : api_Board), (⟨s228s1_0.2.2.2.2.2.2.1, s228s1_0.2.2.2.2.2.2.2.1, s228s1_0.2.2.2.2.2.2.2.2.1, s228s1_0.2.2.2.2.2.2.2.2.2.1⟩ : api_Power), s228s1_0.2.2.2.2.2.2.2.2.2.2⟩ : shed_relief) x228s1_0).bind fun y6 => some (.next (y6.1.board.Buses, y6.1.board.Breakers, y6.1.board.Sources, y6.1.board.Consumers, y6.1.board.Phase, y6.1.board.Frequency, y6.1.power.Closed, y6.1.power.Sources, y6.1.power.Limits, y6.1.power.Broken, y6.1.acts)) else some (.next (s228s1_0.1, s228s1_0.2.1, s228s1_0.2.2.1, s228s1_0.2.2.2.1, s228s1_0.2.2.2.2.1, s228s1_0.2.2.2.2.2.1, s228s1_0.2.2.2.2.2.2.1, s228s1_0.2.2.2.2.2.2.2.1, s228s1_0.2.2.2.2.2.2.2.2.1, s228s1_0.2.2.2.2.2.2.2.2.2.1, s228s1_0.2.2.2.2.2.2.2.2.2.2))
/-- (*dynpos/shed.relief).trip -/
def F228s1 (x0 : shed_relief) (x1 : List Int) (x2 : Int) : Option shed_relief :=
  andThen (foldI (F228s1_l0 x2) x1 0 (x0.board.Buses, x0.board.Breakers, x0.board.Sources, x0.board.Consumers, x0.board.Phase, x0.board.Frequency, x0.power.Closed, x0.power.Sources, x0.power.Limits, x0.power.Broken, x0.acts)) (fun _ => none) fun s228s1_0 => some (⟨(⟨s228s1_0.1, s228s1_0.2.1, s228s1_0.2.2.1, s228s1_0.2.2.2.1, s228s1_0.2.2.2.2.1, s228s1_0.2.2.2.2.2.1⟩ : api_Board), (⟨s228s1_0.2.2.2.2.2.2.1, s228s1_0.2.2.2.2.2.2.2.1, s228s1_0.2.2.2.2.2.2.2.2.1, s228s1_0.2.2.2.2.2.2.2.2.2.1⟩ : api_Power), s228s1_0.2.2.2.2.2.2.2.2.2.2⟩ : shed_relief)
def F158s1_l0 (y1 : (List Int)) (i158s1_0 : Nat) (x158s1_0 : api_Island) (s158s1_0 : Sg4) : Option (Ctl (Sg4) Unit) :=
  (F140 y1).bind fun y5 => (F225s1 y5 x158s1_0).bind fun y7 => bif decide ((y7.2.Sources.length : Int) > 0) then (getI y7.2.Buses 0).bind fun y10 => (F227s2 (⟨(⟨s158s1_0.1, s158s1_0.2.1, s158s1_0.2.2.1, s158s1_0.2.2.2.1, s158s1_0.2.2.2.2.1, s158s1_0.2.2.2.2.2.1⟩ : api_Board), (⟨s158s1_0.2.2.2.2.2.2.1, s158s1_0.2.2.2.2.2.2.2.1, s158s1_0.2.2.2.2.2.2.2.2.1, s158s1_0.2.2.2.2.2.2.2.2.2.1⟩ : api_Power), s158s1_0.2.2.2.2.2.2.2.2.2.2⟩ : shed_relief) y7.1 y10).bind fun y12 => (getI y7.2.Buses 0).bind fun y14 => (F228s1 y12 y7.1 y14).bind fun y16 => some (.next (y16.board.Buses, y16.board.Breakers, y16.board.Sources, y16.board.Consumers, y16.board.Phase, y16.board.Frequency, y16.power.Closed, y16.power.Sources, y16.power.Limits, y16.power.Broken, y16.acts)) else some (.next (s158s1_0.1, s158s1_0.2.1, s158s1_0.2.2.1, s158s1_0.2.2.2.1, s158s1_0.2.2.2.2.1, s158s1_0.2.2.2.2.2.1, s158s1_0.2.2.2.2.2.2.1, s158s1_0.2.2.2.2.2.2.2.1, s158s1_0.2.2.2.2.2.2.2.2.1, s158s1_0.2.2.2.2.2.2.2.2.2.1, s158s1_0.2.2.2.2.2.2.2.2.2.2))
/-- (*dynpos/shed.relief).shed -/
def F158s1 (x0 : shed_relief) : Option shed_relief :=
  (F167 x0.board).bind fun y1 => (F106s0 x0.board x0.power).bind fun y3 => andThen (foldI (F158s1_l0 y1) y3 0 (x0.board.Buses, x0.board.Breakers, x0.board.Sources, x0.board.Consumers, x0.board.Phase, x0.board.Frequency, x0.power.Closed, x0.power.Sources, x0.power.Limits, x0.power.Broken, x0.acts)) (fun _ => none) fun s158s1_0 => some (⟨(⟨s158s1_0.1, s158s1_0.2.1, s158s1_0.2.2.1, s158s1_0.2.2.2.1, s158s1_0.2.2.2.2.1, s158s1_0.2.2.2.2.2.1⟩ : api_Board), (⟨s158s1_0.2.2.2.2.2.2.1, s158s1_0.2.2.2.2.2.2.2.1, s158s1_0.2.2.2.2.2.2.2.2.1, s158s1_0.2.2.2.2.2.2.2.2.2.1⟩ : api_Power), s158s1_0.2.2.2.2.2.2.2.2.2.2⟩ : shed_relief)
/-- dynpos/shed.Protect$1 -/
def F156s1 (x0 : shed_relief) : Option shed_relief :=
  (F157s1 x0).bind fun y1 => (F158s1 y1).bind fun y3 => some y3
/-- dynpos/shed.relieve -/
def F155s0 (x0 : api_Board) (x1 : api_Power) : Option (api_Power × (List api_Act) × Int) :=
  (F65 x0 x1).bind fun y1 => bif (y1 != 0) then some ((⟨([] : List Bool), ([] : List api_Running), ([] : List Int), ([] : List api_Part)⟩ : api_Power), ([] : List api_Act), y1) else (F70 x1).bind fun y4 => (F156s1 (⟨x0, y4, ([] : List api_Act)⟩ : shed_relief)).bind fun y6 => some (y6.power, y6.acts, 0)
/-- dynpos/shed.Protect -/
def F81 (x0 : api_Board) (x1 : api_Power) : Option (api_Power × (List api_Act) × Int) :=
  (F155s0 x0 x1).bind fun y1 => some (y1.1, y1.2.1, y1.2.2)
def F159_l0 (x1 : List Bool) (i159_0 : Nat) (x159_0 : Bool) (s159_0 : Unit) : Option (Ctl Unit Bool) :=
  (getI x1 (cnt 0 i159_0)).bind fun y2 => bif !(x159_0 == y2) then some (.ret false) else some (.next ())
/-- slices.Equal[[]bool,bool] -/
def F159 (x0 : List Bool) (x1 : List Bool) : Option Bool :=
  bif ((x0.length : Int) != (x1.length : Int)) then some false else andThen (foldI (F159_l0 x1) x0 0 ()) some fun s159_0 => some true
def c160_1 (x160_0 : api_Running) (y2 : api_Running) : Bool := !((x160_0.State == y2.State) && ((x160_0.Since == y2.Since) && ((x160_0.Frequency == y2.Frequency) && ((x160_0.Phase == y2.Phase) && true))))
def F160_l0 (x1 : List api_Running) (i160_0 : Nat) (x160_0 : api_Running) (s160_0 : Unit) : Option (Ctl Unit Bool) :=
  (getI x1 (cnt 0 i160_0)).bind fun y2 => bif (c160_1 x160_0 y2) then some (.ret false) else some (.next ())
/-- slices.Equal[[]dynpos/api.Running,dynpos/api.Running] -/
def F160 (x0 : List api_Running) (x1 : List api_Running) : Option Bool :=
  bif ((x0.length : Int) != (x1.length : Int)) then some false else andThen (foldI (F160_l0 x1) x0 0 ()) some fun s160_0 => some true
def F161_l0 (x1 : List Int) (i161_0 : Nat) (x161_0 : Int) (s161_0 : Unit) : Option (Ctl Unit Bool) :=
  (getI x1 (cnt 0 i161_0)).bind fun y2 => bif (x161_0 != y2) then some (.ret false) else some (.next ())
/-- slices.Equal[[]int,int] -/
def F161 (x0 : List Int) (x1 : List Int) : Option Bool :=
  bif ((x0.length : Int) != (x1.length : Int)) then some false else andThen (foldI (F161_l0 x1) x0 0 ()) some fun s161_0 => some true
def c162_1 (x162_0 : api_Part) (y2 : api_Part) : Bool := !((x162_0.Kind == y2.Kind) && ((x162_0.Number == y2.Number) && true))
def F162_l0 (x1 : List api_Part) (i162_0 : Nat) (x162_0 : api_Part) (s162_0 : Unit) : Option (Ctl Unit Bool) :=
  (getI x1 (cnt 0 i162_0)).bind fun y2 => bif (c162_1 x162_0 y2) then some (.ret false) else some (.next ())
/-- slices.Equal[[]dynpos/api.Part,dynpos/api.Part] -/
def F162 (x0 : List api_Part) (x1 : List api_Part) : Option Bool :=
  bif ((x0.length : Int) != (x1.length : Int)) then some false else andThen (foldI (F162_l0 x1) x0 0 ()) some fun s162_0 => some true
/-- dynpos/states.Same -/
def F82 (x0 : api_Power) (x1 : api_Power) : Option Bool :=
  (F159 x0.Closed x1.Closed).bind fun y1 => (guardO [(y1, true)] (F160 x0.Sources x1.Sources) default).bind fun y3 => (guardO [((y1 && y3), true)] (F161 x0.Limits x1.Limits) default).bind fun y5 => (guardO [(((y1 && y3) && y5), true)] (F162 x0.Broken x1.Broken) default).bind fun y7 => some (((y1 && y3) && y5) && y7)
def c83_1 (x83_0 : api_Breaker) (y1 : Bool) (y3 : Bool) (y5 : Bool) : Bool := ((((x83_0.Kind == 1) && y1) && y3) && (!y5))
def F83_l0 (x0 : api_Board) (x1 : api_Power) (i83_0 : Nat) (x83_0 : api_Breaker) (s83_0 : Unit) : Option (Ctl Unit Bool) :=
  (guardO [((x83_0.Kind == 1), true)] (getI x1.Closed (cnt 0 i83_0)) default).bind fun y1 => (guardO [(((x83_0.Kind == 1) && y1), true)] (F134 x1 2 (cnt 0 i83_0)) default).bind fun y3 => (guardO [((((x83_0.Kind == 1) && y1) && y3), true)] (F95 x0 x1 x83_0.A) default).bind fun y5 => bif (c83_1 x83_0 y1 y3 y5) then some (.ret true) else some (.next ())
/-- dynpos/restore.stuck -/
def F83 (x0 : api_Board) (x1 : api_Power) : Option Bool :=
  andThen (foldI (F83_l0 x0 x1) x0.Breakers 0 ()) some fun s83_0 => some false
/-- dynpos/restore.sound -/
def F68 (x0 : api_Board) (x1 : api_Power) (x2 : Int) : Option Bool :=
  (getI x0.Breakers x2).bind fun y1 => (F134 x1 2 x2).bind fun y3 => (guardO [(!y3, true)] (F134 x1 3 y1.A) default).bind fun y5 => (guardO [(((!y3) && (!y5)), true), ((y1.Kind != 1), false)] (F134 x1 3 y1.B) default).bind fun y7 => some (((!y3) && (!y5)) && ((y1.Kind != 1) || (!y7)))
/-- dynpos/restore.usable -/
def F66 (x0 : api_Board) (x1 : api_Power) (x2 : Int) : Option Bool :=
  (F67 x0 x2).bind fun y1 => (F68 x0 x1 y1).bind fun y3 => (guardO [(y3, true)] (F134 x1 1 x2) default).bind fun y5 => (guardO [((y3 && (!y5)), true)] (getI x1.Sources x2) default).bind fun y7 => some ((y3 && (!y5)) && (y7.State != 3))
def c18_1 (x0 : api_Board) (s18_0 : Int × (List Bool)) : Bool := decide (s18_0.1 < (x0.Sources.length : Int))
def F18_l0 (x0 : api_Board) (x1 : api_Power) (s18_0 : Int × (List Bool)) : Option (Ctl (Int × (List Bool)) Unit) :=
  bif (c18_1 x0 s18_0) then (F66 x0 x1 s18_0.1).bind fun y7 => bif y7 then (F67 x0 s18_0.1).bind fun y10 => (getI x0.Breakers y10).bind fun y12 => (getI s18_0.2 y12.A).bind fun y14 => (setI s18_0.2 y12.A true).bind fun y16 => some (.next (w64 (s18_0.1 + 1), y16)) else some (.next (w64 (s18_0.1 + 1), s18_0.2)) else some (.brk (s18_0.1, s18_0.2))
def F18_l2 (x0 : api_Board) (x1 : api_Power) (i18_2 : Nat) (x18_2 : api_Breaker) (s18_2 : (List Bool)) : Option (Ctl ((List Bool)) Unit) :=
  (guardO [((x18_2.Kind == 1), true)] (F68 x0 x1 (cnt 0 i18_2)) default).bind fun y19 => bif ((x18_2.Kind == 1) && y19) then (getI s18_2 x18_2.A).bind fun y22 => (guardO [(y22, false)] (getI s18_2 x18_2.B) default).bind fun y24 => (setI s18_2 x18_2.A (y22 || y24)).bind fun y26 => (getI y26 x18_2.B).bind fun y28 => (setI y26 x18_2.B (y22 || y24)).bind fun y30 => some (.next y30) else some (.next s18_2)
def F18_l1 (x0 : api_Board) (x1 : api_Power) (s18_1 : Int × (List Bool)) : Option (Ctl (Int × (List Bool)) Unit) :=
  bif decide (s18_1.1 < x0.Buses) then andThen (foldI (F18_l2 x0 x1) x0.Breakers 0 s18_1.2) (fun _ => none) fun s18_2 => some (.next (w64 (s18_1.1 + 1), s18_2)) else some (.brk (s18_1.1, s18_1.2))
/-- dynpos/restore.Goal -/
def F18 (x0 : api_Board) (x1 : api_Power) : Option ((List Bool)) :=
  (F65 x0 x1).bind fun y1 => bif (y1 != 0) then some ([] : List Bool) else (mkI 2 x0.Buses false).bind fun y4 => andThen (whileN (F18_l0 x0 x1) 1152921504606846976 (0, y4)) (fun _ => none) fun s18_0 => andThen (whileN (F18_l1 x0 x1) 1152921504606846976 (0, s18_0.2)) (fun _ => none) fun s18_1 => some s18_1.2
def F163_l0 (x1 : Bool) (i163_0 : Nat) (x163_0 : Bool) (s163_0 : Unit) : Option (Ctl Unit Int) :=
  bif (x1 == x163_0) then some (.ret (cnt 0 i163_0)) else some (.next ())
/-- slices.Index[[]bool,bool] -/
def F163 (x0 : List Bool) (x1 : Bool) : Option Int :=
  andThen (foldI (F163_l0 x1) x0 0 ()) some fun s163_0 => some (-1)
/-- slices.Contains[[]bool,bool] -/
def F84 (x0 : List Bool) (x1 : Bool) : Option Bool :=
  (F163 x0 x1).bind fun y1 => some (decide (y1 ≥ 0))
def F42_l0 (x0 : api_Board) (x1 : api_Power) (i42_0 : Nat) (x42_0 : Bool) (s42_0 : Unit) : Option (Ctl Unit Bool) :=
  (guardO [(x42_0, true)] (F95 x0 x1 (cnt 0 i42_0)) default).bind fun y3 => bif (x42_0 && (!y3)) then some (.ret false) else some (.next ())
/-- dynpos/restore.Restored -/
def F42 (x0 : api_Board) (x1 : api_Power) : Option Bool :=
  (F18 x0 x1).bind fun y1 => andThen (foldI (F42_l0 x0 x1) y1 0 ()) some fun s42_0 => (F65 x0 x1).bind fun y6 => some (y6 == 0)
/-- (*dynpos/restore.planner).live -/
def F164s0 (x0 : restore_planner) (x1 : Int) : Option Bool :=
  (F95 x0.board x0.power x1).bind fun y1 => some y1
/-- (*dynpos/restore.planner).add -/
def F89s1 (x0 : restore_planner) (x1 : Int) (x2 : Int) : Option restore_planner :=
  (appI 25 x0.acts [(⟨x1, x2, 0⟩ : api_Act)]).bind fun y1 => (getI x0.power.Closed x2).bind fun y3 => (setI x0.power.Closed x2 (x1 == 1)).bind fun y5 => some (⟨x0.board, (⟨y5, x0.power.Sources, x0.power.Limits, x0.power.Broken⟩ : api_Power), x0.goal, y1⟩ : restore_planner)
def c85s1_2 (x85s1_0 : api_Breaker) (y1 : Bool) (y3 : Bool) (y5 : Bool) : Bool := ((((x85s1_0.Kind != 2) && y1) && (!y3)) && (!y5))
def F85s1_l0 (x0 : restore_planner) (i85s1_0 : Nat) (x85s1_0 : api_Breaker) (s85s1_0 : (List Int)) : Option (Ctl ((List Int)) Unit) :=
  (guardO [((x85s1_0.Kind != 2), true)] (getI x0.power.Closed (cnt 0 i85s1_0)) default).bind fun y1 => (guardO [(((x85s1_0.Kind != 2) && y1), true)] (F134 x0.power 2 (cnt 0 i85s1_0)) default).bind fun y3 => (guardO [((((x85s1_0.Kind != 2) && y1) && (!y3)), true)] (F164s0 x0 x85s1_0.A) default).bind fun y5 => bif (c85s1_2 x85s1_0 y1 y3 y5) then (appI 9 s85s1_0 [cnt 0 i85s1_0]).bind fun y8 => some (.next y8) else some (.next s85s1_0)
def F85s1_l1 (i85s1_1 : Nat) (x85s1_1 : Int) (s85s1_1 : Sg3) : Option (Ctl (Sg3) Unit) :=
  (F89s1 (⟨(⟨s85s1_1.1, s85s1_1.2.1, s85s1_1.2.2.1, s85s1_1.2.2.2.1, s85s1_1.2.2.2.2.1, s85s1_1.2.2.2.2.2.1⟩ : api_Board), (⟨s85s1_1.2.2.2.2.2.2.1, s85s1_1.2.2.2.2.2.2.2.1, s85s1_1.2.2.2.2.2.2.2.2.1, s85s1_1.2.2.2.2.2.2.2.2.2.1⟩ : api_Power), s85s1_1.2.2.2.2.2.2.2.2.2.2.1, s85s1_1.2.2.2.2.2.2.2.2.2.2.2⟩ : restore_planner) 2 x85s1_1).bind fun y10 => some (.next (y10.board.Buses, y10.board.Breakers, y10.board.Sources, y10.board.Consumers, y10.board.Phase, y10.board.Frequency, y10.power.Closed, y10.power.Sources, y10.power.Limits, y10.power.Broken, y10.goal, y10.acts))
/-- (*dynpos/restore.planner).separate -/
def F85s1 (x0 : restore_planner) : Option restore_planner :=
  andThen (foldI (F85s1_l0 x0) x0.board.Breakers 0 ([] : List Int)) (fun _ => none) fun s85s1_0 => andThen (foldI F85s1_l1 s85s1_0 0 (x0.board.Buses, x0.board.Breakers, x0.board.Sources, x0.board.Consumers, x0.board.Phase, x0.board.Frequency, x0.power.Closed, x0.power.Sources, x0.power.Limits, x0.power.Broken, x0.goal, x0.acts)) (fun _ => none) fun s85s1_1 => some (⟨(⟨s85s1_1.1, s85s1_1.2.1, s85s1_1.2.2.1, s85s1_1.2.2.2.1, s85s1_1.2.2.2.2.1, s85s1_1.2.2.2.2.2.1⟩ : api_Board), (⟨s85s1_1.2.2.2.2.2.2.1, s85s1_1.2.2.2.2.2.2.2.1, s85s1_1.2.2.2.2.2.2.2.2.1, s85s1_1.2.2.2.2.2.2.2.2.2.1⟩ : api_Power), s85s1_1.2.2.2.2.2.2.2.2.2.2.1, s85s1_1.2.2.2.2.2.2.2.2.2.2.2⟩ : restore_planner)
/-- math/bits.Mul64 -/
def F235 (x0 : Int) (x1 : Int) : Int × Int :=
  (IntKind.wrap .u64 ((IntKind.wrap .u64 ((IntKind.wrap .u64 ((shrI .u64 x0 32) * (shrI .u64 x1 32))) + (shrI .u64 (IntKind.wrap .u64 ((IntKind.wrap .u64 ((shrI .u64 x0 32) * (andI .u64 x1 4294967295))) + (shrI .u64 (IntKind.wrap .u64 ((andI .u64 x0 4294967295) * (andI .u64 x1 4294967295))) 32))) 32))) + (shrI .u64 (IntKind.wrap .u64 ((andI .u64 (IntKind.wrap .u64 ((IntKind.wrap .u64 ((shrI .u64 x0 32) * (andI .u64 x1 4294967295))) + (shrI .u64 (IntKind.wrap .u64 ((andI .u64 x0 4294967295) * (andI .u64 x1 4294967295))) 32))) 4294967295) + (IntKind.wrap .u64 ((andI .u64 x0 4294967295) * (shrI .u64 x1 32))))) 32)), IntKind.wrap .u64 (x0 * x1))
/-- math/bits.Mul -/
def F179 (x0 : Int) (x1 : Int) : Int × Int :=
  ((F235 x0 x1).1, (F235 x0 x1).2)
def F165_m0 (x1 : Int) : Option (Ctl Unit Unit) :=
  bif decide (x1 < 0) then none else some (.next ())
def c165_0 (x0 : List api_Act) (x1 : Int) : Bool := ((decide (((F179 (IntKind.wrap .u64 (x0.length : Int)) (IntKind.wrap .u64 x1)).1) > 0)) || (decide (((F179 (IntKind.wrap .u64 (x0.length : Int)) (IntKind.wrap .u64 x1)).2) > 9223372036854775807)))
def F165_m1 (x0 : List api_Act) (x1 : Int) : Option (Ctl Unit Unit) :=
  bif (c165_0 x0 x1) then none else some (.next ())
def c165_3 (s165_2 : Int × (List api_Act)) : Bool := decide (s165_2.1 < (s165_2.2.length : Int))
def F165_l2 (s165_2 : Int × (List api_Act)) : Option (Ctl (Int × (List api_Act)) Unit) :=
  bif (c165_3 s165_2) then (bndI s165_2.2.length s165_2.1 (s165_2.2.length : Int)).bind fun u7 => (bndI s165_2.2.length 0 s165_2.1).bind fun u9 => some (.next (w64 (s165_2.1 + ((Nat.min ((s165_2.2.drop 0).take ((Int.toNat s165_2.1) - 0)).length ((Int.toNat (s165_2.2.length : Int)) - (Int.toNat s165_2.1))) : Int)), (cpyI s165_2.2 (Int.toNat s165_2.1) ((Int.toNat (s165_2.2.length : Int)) - (Int.toNat s165_2.1)) ((s165_2.2.drop 0).take ((Int.toNat s165_2.1) - 0))))) else some (.brk (s165_2.1, s165_2.2))
/-- slices.Repeat[[]dynpos/api.Act,dynpos/api.Act] -/
def F165 (x0 : List api_Act) (x1 : Int) : Option ((List api_Act)) :=
  andThen (F165_m0 x1) (fun _ => none) fun s165_0 => andThen (F165_m1 x0 x1) (fun _ => none) fun s165_1 => (mkI 25 (w64 ((F179 (IntKind.wrap .u64 (x0.length : Int)) (IntKind.wrap .u64 x1)).2)) (⟨0, 0, 0⟩ : api_Act)).bind fun y3 => andThen (whileN F165_l2 1152921504606846976 (((Nat.min x0.length y3.length) : Int), (cpyI y3 0 y3.length x0))) (fun _ => none) fun s165_2 => some s165_2.2
def F86s1_l0 (x0 : restore_planner) (i86s1_0 : Nat) (x86s1_0 : api_Running) (s86s1_0 : Sg6) : Option (Ctl (Sg6) Unit) :=
  (getI s86s1_0.2.1 (cnt 0 i86s1_0)).bind fun y1 => (F66 x0.board (⟨x0.power.Closed, s86s1_0.2.1, x0.power.Limits, x0.power.Broken⟩ : api_Power) (cnt 0 i86s1_0)).bind fun y3 => (guardO [(!y3, false)] (F67 x0.board (cnt 0 i86s1_0)) default).bind fun y5 => (guardO [(!y3, false)] (getI x0.board.Breakers y5) default).bind fun y7 => (guardO [(!y3, false)] (F164s0 (⟨x0.board, (⟨x0.power.Closed, s86s1_0.2.1, x0.power.Limits, x0.power.Broken⟩ : api_Power), x0.goal, s86s1_0.2.2⟩ : restore_planner) y7.A) default).bind fun y9 => bif ((!y3) || y9) then some (.next (s86s1_0.1, s86s1_0.2.1, s86s1_0.2.2)) else bif (y1.State == 0) then (appI 25 s86s1_0.2.2 [(⟨3, cnt 0 i86s1_0, 0⟩ : api_Act)]).bind fun y13 => (getI x0.board.Sources (cnt 0 i86s1_0)).bind fun y15 => (setI s86s1_0.2.1 (cnt 0 i86s1_0) (⟨2, y1.Since, y1.Frequency, y1.Phase⟩ : api_Running)).bind fun y17 => some (.next (max s86s1_0.1 y15.Start, y17, y13)) else bif (y1.State == 1) then (getI x0.board.Sources (cnt 0 i86s1_0)).bind fun y20 => (setI s86s1_0.2.1 (cnt 0 i86s1_0) (⟨2, y1.Since, y1.Frequency, y1.Phase⟩ : api_Running)).bind fun y22 => some (.next (max (max s86s1_0.1 y20.Start) 1, y22, s86s1_0.2.2)) else (setI s86s1_0.2.1 (cnt 0 i86s1_0) (⟨2, y1.Since, y1.Frequency, y1.Phase⟩ : api_Running)).bind fun y24 => some (.next (s86s1_0.1, y24, s86s1_0.2.2))
/-- (*dynpos/restore.planner).start -/
def F86s1 (x0 : restore_planner) : Option restore_planner :=
  andThen (foldI (F86s1_l0 x0) x0.power.Sources 0 (0, x0.power.Sources, x0.acts)) (fun _ => none) fun s86s1_0 => (F165 [(⟨7, 0, 0⟩ : api_Act)] s86s1_0.1).bind fun y26 => (appI 25 s86s1_0.2.2 y26).bind fun y28 => some (⟨x0.board, (⟨x0.power.Closed, s86s1_0.2.1, x0.power.Limits, x0.power.Broken⟩ : api_Power), x0.goal, y28⟩ : restore_planner)
def c87s1_8 (s87s1_0 : Sg8) (s87s1_1 : Sg8) : Bool := decide (s87s1_1.1 < (s87s1_0.2.2.2.1.length : Int))
def F87s1_l1 (s87s1_0 : Sg8) (s87s1_1 : Sg8) : Option (Ctl (Sg8) Unit) :=
  bif (c87s1_8 s87s1_0 s87s1_1) then (F67 (⟨s87s1_1.2.1, s87s1_1.2.2.1, s87s1_1.2.2.2.1, s87s1_1.2.2.2.2.1, s87s1_1.2.2.2.2.2.1, s87s1_1.2.2.2.2.2.2.1⟩ : api_Board) s87s1_1.1).bind fun y3 => (getI s87s1_1.2.2.1 y3).bind fun y5 => (guardO [((y5.A == s87s1_0.1), true)] (F66 (⟨s87s1_1.2.1, s87s1_1.2.2.1, s87s1_1.2.2.2.1, s87s1_1.2.2.2.2.1, s87s1_1.2.2.2.2.2.1, s87s1_1.2.2.2.2.2.2.1⟩ : api_Board) (⟨s87s1_1.2.2.2.2.2.2.2.1, s87s1_1.2.2.2.2.2.2.2.2.1, s87s1_1.2.2.2.2.2.2.2.2.2.1, s87s1_1.2.2.2.2.2.2.2.2.2.2.1⟩ : api_Power) s87s1_1.1) default).bind fun y7 => (guardO [(((y5.A == s87s1_0.1) && y7), true)] (F164s0 (⟨(⟨s87s1_1.2.1, s87s1_1.2.2.1, s87s1_1.2.2.2.1, s87s1_1.2.2.2.2.1, s87s1_1.2.2.2.2.2.1, s87s1_1.2.2.2.2.2.2.1⟩ : api_Board), (⟨s87s1_1.2.2.2.2.2.2.2.1, s87s1_1.2.2.2.2.2.2.2.2.1, s87s1_1.2.2.2.2.2.2.2.2.2.1, s87s1_1.2.2.2.2.2.2.2.2.2.2.1⟩ : api_Power), s87s1_1.2.2.2.2.2.2.2.2.2.2.2.1, s87s1_1.2.2.2.2.2.2.2.2.2.2.2.2⟩ : restore_planner) s87s1_0.1) default).bind fun y9 => bif (((y5.A == s87s1_0.1) && y7) && (!y9)) then (F89s1 (⟨(⟨s87s1_1.2.1, s87s1_1.2.2.1, s87s1_1.2.2.2.1, s87s1_1.2.2.2.2.1, s87s1_1.2.2.2.2.2.1, s87s1_1.2.2.2.2.2.2.1⟩ : api_Board), (⟨s87s1_1.2.2.2.2.2.2.2.1, s87s1_1.2.2.2.2.2.2.2.2.1, s87s1_1.2.2.2.2.2.2.2.2.2.1, s87s1_1.2.2.2.2.2.2.2.2.2.2.1⟩ : api_Power), s87s1_1.2.2.2.2.2.2.2.2.2.2.2.1, s87s1_1.2.2.2.2.2.2.2.2.2.2.2.2⟩ : restore_planner) 1 y3).bind fun y12 => some (.next (w64 (s87s1_1.1 + 1), y12.board.Buses, y12.board.Breakers, y12.board.Sources, y12.board.Consumers, y12.board.Phase, y12.board.Frequency, y12.power.Closed, y12.power.Sources, y12.power.Limits, y12.power.Broken, y12.goal, y12.acts)) else some (.next (w64 (s87s1_1.1 + 1), s87s1_1.2.1, s87s1_1.2.2.1, s87s1_1.2.2.2.1, s87s1_1.2.2.2.2.1, s87s1_1.2.2.2.2.2.1, s87s1_1.2.2.2.2.2.2.1, s87s1_1.2.2.2.2.2.2.2.1, s87s1_1.2.2.2.2.2.2.2.2.1, s87s1_1.2.2.2.2.2.2.2.2.2.1, s87s1_1.2.2.2.2.2.2.2.2.2.2.1, s87s1_1.2.2.2.2.2.2.2.2.2.2.2.1, s87s1_1.2.2.2.2.2.2.2.2.2.2.2.2)) else some (.brk (s87s1_1.1, s87s1_1.2.1, s87s1_1.2.2.1, s87s1_1.2.2.2.1, s87s1_1.2.2.2.2.1, s87s1_1.2.2.2.2.2.1, s87s1_1.2.2.2.2.2.2.1, s87s1_1.2.2.2.2.2.2.2.1, s87s1_1.2.2.2.2.2.2.2.2.1, s87s1_1.2.2.2.2.2.2.2.2.2.1, s87s1_1.2.2.2.2.2.2.2.2.2.2.1, s87s1_1.2.2.2.2.2.2.2.2.2.2.2.1, s87s1_1.2.2.2.2.2.2.2.2.2.2.2.2))
def F87s1_l0 (x0 : restore_planner) (s87s1_0 : Sg8) : Option (Ctl (Sg8) Unit) :=
  bif decide (s87s1_0.1 < x0.board.Buses) then andThen (whileN (F87s1_l1 s87s1_0) 1152921504606846976 (0, s87s1_0.2.1, s87s1_0.2.2.1, s87s1_0.2.2.2.1, s87s1_0.2.2.2.2.1, s87s1_0.2.2.2.2.2.1, s87s1_0.2.2.2.2.2.2.1, s87s1_0.2.2.2.2.2.2.2.1, s87s1_0.2.2.2.2.2.2.2.2.1, s87s1_0.2.2.2.2.2.2.2.2.2.1, s87s1_0.2.2.2.2.2.2.2.2.2.2.1, s87s1_0.2.2.2.2.2.2.2.2.2.2.2.1, s87s1_0.2.2.2.2.2.2.2.2.2.2.2.2)) (fun _ => none) fun s87s1_1 => some (.next (w64 (s87s1_0.1 + 1), s87s1_1.2.1, s87s1_1.2.2.1, s87s1_1.2.2.2.1, s87s1_1.2.2.2.2.1, s87s1_1.2.2.2.2.2.1, s87s1_1.2.2.2.2.2.2.1, s87s1_1.2.2.2.2.2.2.2.1, s87s1_1.2.2.2.2.2.2.2.2.1, s87s1_1.2.2.2.2.2.2.2.2.2.1, s87s1_1.2.2.2.2.2.2.2.2.2.2.1, s87s1_1.2.2.2.2.2.2.2.2.2.2.2.1, s87s1_1.2.2.2.2.2.2.2.2.2.2.2.2)) else some (.brk (s87s1_0.1, s87s1_0.2.1, s87s1_0.2.2.1, s87s1_0.2.2.2.1, s87s1_0.2.2.2.2.1, s87s1_0.2.2.2.2.2.1, s87s1_0.2.2.2.2.2.2.1, s87s1_0.2.2.2.2.2.2.2.1, s87s1_0.2.2.2.2.2.2.2.2.1, s87s1_0.2.2.2.2.2.2.2.2.2.1, s87s1_0.2.2.2.2.2.2.2.2.2.2.1, s87s1_0.2.2.2.2.2.2.2.2.2.2.2.1, s87s1_0.2.2.2.2.2.2.2.2.2.2.2.2))
/-- (*dynpos/restore.planner).connect -/
def F87s1 (x0 : restore_planner) : Option restore_planner :=
  andThen (whileN (F87s1_l0 x0) 1152921504606846976 (0, x0.board.Buses, x0.board.Breakers, x0.board.Sources, x0.board.Consumers, x0.board.Phase, x0.board.Frequency, x0.power.Closed, x0.power.Sources, x0.power.Limits, x0.power.Broken, x0.goal, x0.acts)) (fun _ => none) fun s87s1_0 => some (⟨(⟨s87s1_0.2.1, s87s1_0.2.2.1, s87s1_0.2.2.2.1, s87s1_0.2.2.2.2.1, s87s1_0.2.2.2.2.2.1, s87s1_0.2.2.2.2.2.2.1⟩ : api_Board), (⟨s87s1_0.2.2.2.2.2.2.2.1, s87s1_0.2.2.2.2.2.2.2.2.1, s87s1_0.2.2.2.2.2.2.2.2.2.1, s87s1_0.2.2.2.2.2.2.2.2.2.2.1⟩ : api_Power), s87s1_0.2.2.2.2.2.2.2.2.2.2.2.1, s87s1_0.2.2.2.2.2.2.2.2.2.2.2.2⟩ : restore_planner)
def c88s0_1 (x88s0_0 : api_Breaker) (y1 : Bool) (y3 : Bool) (y5 : Bool) (y7 : Bool) (y9 : Bool) : Bool := (((((x88s0_0.Kind == 1) && (!y1)) && y3) && y5) && (!(y7 == y9)))
def F88s0_l0 (x0 : restore_planner) (i88s0_0 : Nat) (x88s0_0 : api_Breaker) (s88s0_0 : Unit) : Option (Ctl Unit (Int × Bool)) :=
  (guardO [((x88s0_0.Kind == 1), true)] (getI x0.power.Closed (cnt 0 i88s0_0)) default).bind fun y1 => (guardO [(((x88s0_0.Kind == 1) && (!y1)), true)] (F68 x0.board x0.power (cnt 0 i88s0_0)) default).bind fun y3 => (guardO [((((x88s0_0.Kind == 1) && (!y1)) && y3), true)] (getI x0.goal x88s0_0.A) default).bind fun y5 => (guardO [(((((x88s0_0.Kind == 1) && (!y1)) && y3) && y5), true)] (F164s0 x0 x88s0_0.A) default).bind fun y7 => (guardO [(((((x88s0_0.Kind == 1) && (!y1)) && y3) && y5), true)] (F164s0 x0 x88s0_0.B) default).bind fun y9 => bif (c88s0_1 x88s0_0 y1 y3 y5 y7 y9) then some (.ret (cnt 0 i88s0_0, true)) else some (.next ())
/-- (*dynpos/restore.planner).tie -/
def F88s0 (x0 : restore_planner) : Option (Int × Bool) :=
  andThen (foldI (F88s0_l0 x0) x0.board.Breakers 0 ()) some fun s88s0_0 => some (0, false)

def c90s1_2 (x90s1_0 : (Int × Int)) (x90s1_1 : api_Breaker) (y10 : Bool) (y12 : Bool) : Bool := ((((x90s1_1.Kind != 3) || (x90s1_1.B != x90s1_0.2)) || (!y10)) || (!y12))
def F90s1_l1 (x90s1_0 : (Int × Int)) (i90s1_1 : Nat) (x90s1_1 : api_Breaker) (s90s1_1 : Sg3) : Option (Ctl (Sg3) Unit) :=
  (guardO [(((x90s1_1.Kind != 3) || (x90s1_1.B != x90s1_0.2)), false)] (F68 (⟨s90s1_1.1, s90s1_1.2.1, s90s1_1.2.2.1, s90s1_1.2.2.2.1, s90s1_1.2.2.2.2.1, s90s1_1.2.2.2.2.2.1⟩ : api_Board) (⟨s90s1_1.2.2.2.2.2.2.1, s90s1_1.2.2.2.2.2.2.2.1, s90s1_1.2.2.2.2.2.2.2.2.1, s90s1_1.2.2.2.2.2.2.2.2.2.1⟩ : api_Power) (cnt 0 i90s1_1)) default).bind fun y10 => (guardO [((((x90s1_1.Kind != 3) || (x90s1_1.B != x90s1_0.2)) || (!y10)), false)] (F164s0 (⟨(⟨s90s1_1.1, s90s1_1.2.1, s90s1_1.2.2.1, s90s1_1.2.2.2.1, s90s1_1.2.2.2.2.1, s90s1_1.2.2.2.2.2.1⟩ : api_Board), (⟨s90s1_1.2.2.2.2.2.2.1, s90s1_1.2.2.2.2.2.2.2.1, s90s1_1.2.2.2.2.2.2.2.2.1, s90s1_1.2.2.2.2.2.2.2.2.2.1⟩ : api_Power), s90s1_1.2.2.2.2.2.2.2.2.2.2.1, s90s1_1.2.2.2.2.2.2.2.2.2.2.2⟩ : restore_planner) x90s1_1.A) default).bind fun y12 => bif (c90s1_2 x90s1_0 x90s1_1 y10 y12) then some (.next (s90s1_1.1, s90s1_1.2.1, s90s1_1.2.2.1, s90s1_1.2.2.2.1, s90s1_1.2.2.2.2.1, s90s1_1.2.2.2.2.2.1, s90s1_1.2.2.2.2.2.2.1, s90s1_1.2.2.2.2.2.2.2.1, s90s1_1.2.2.2.2.2.2.2.2.1, s90s1_1.2.2.2.2.2.2.2.2.2.1, s90s1_1.2.2.2.2.2.2.2.2.2.2.1, s90s1_1.2.2.2.2.2.2.2.2.2.2.2)) else (F169 (⟨s90s1_1.1, s90s1_1.2.1, s90s1_1.2.2.1, s90s1_1.2.2.2.1, s90s1_1.2.2.2.2.1, s90s1_1.2.2.2.2.2.1⟩ : api_Board) (⟨s90s1_1.2.2.2.2.2.2.1, s90s1_1.2.2.2.2.2.2.2.1, s90s1_1.2.2.2.2.2.2.2.2.1, s90s1_1.2.2.2.2.2.2.2.2.2.1⟩ : api_Power) x90s1_1.A).bind fun y15 => (getI s90s1_1.2.2.2.2.2.2.2.2.1 x90s1_0.2).bind fun y17 => (F170 (⟨s90s1_1.1, s90s1_1.2.1, s90s1_1.2.2.1, s90s1_1.2.2.2.1, s90s1_1.2.2.2.2.1, s90s1_1.2.2.2.2.2.1⟩ : api_Board) (⟨s90s1_1.2.2.2.2.2.2.1, s90s1_1.2.2.2.2.2.2.2.1, s90s1_1.2.2.2.2.2.2.2.2.1, s90s1_1.2.2.2.2.2.2.2.2.2.1⟩ : api_Power) x90s1_1.A).bind fun y19 => bif decide ((w64 (y15 + y17)) ≤ y19) then (F89s1 (⟨(⟨s90s1_1.1, s90s1_1.2.1, s90s1_1.2.2.1, s90s1_1.2.2.2.1, s90s1_1.2.2.2.2.1, s90s1_1.2.2.2.2.2.1⟩ : api_Board), (⟨s90s1_1.2.2.2.2.2.2.1, s90s1_1.2.2.2.2.2.2.2.1, s90s1_1.2.2.2.2.2.2.2.2.1, s90s1_1.2.2.2.2.2.2.2.2.2.1⟩ : api_Power), s90s1_1.2.2.2.2.2.2.2.2.2.2.1, s90s1_1.2.2.2.2.2.2.2.2.2.2.2⟩ : restore_planner) 1 (cnt 0 i90s1_1)).bind fun y22 => some (.brk (y22.board.Buses, y22.board.Breakers, y22.board.Sources, y22.board.Consumers, y22.board.Phase, y22.board.Frequency, y22.power.Closed, y22.power.Sources, y22.power.Limits, y22.power.Broken, y22.goal, y22.acts)) else some (.brk (s90s1_1.1, s90s1_1.2.1, s90s1_1.2.2.1, s90s1_1.2.2.2.1, s90s1_1.2.2.2.2.1, s90s1_1.2.2.2.2.2.1, s90s1_1.2.2.2.2.2.2.1, s90s1_1.2.2.2.2.2.2.2.1, s90s1_1.2.2.2.2.2.2.2.2.1, s90s1_1.2.2.2.2.2.2.2.2.2.1, s90s1_1.2.2.2.2.2.2.2.2.2.2.1, s90s1_1.2.2.2.2.2.2.2.2.2.2.2))
def F90s1_l0 (x90s1_0 : Int × Int) (s90s1_0 : Sg3) : Option (Ctl (Sg3) Unit) :=
  (F168 (⟨s90s1_0.1, s90s1_0.2.1, s90s1_0.2.2.1, s90s1_0.2.2.2.1, s90s1_0.2.2.2.2.1, s90s1_0.2.2.2.2.2.1⟩ : api_Board) (⟨s90s1_0.2.2.2.2.2.2.1, s90s1_0.2.2.2.2.2.2.2.1, s90s1_0.2.2.2.2.2.2.2.2.1, s90s1_0.2.2.2.2.2.2.2.2.2.1⟩ : api_Power) x90s1_0.2).bind fun y5 => (guardO [(y5.2, false)] (F134 (⟨s90s1_0.2.2.2.2.2.2.1, s90s1_0.2.2.2.2.2.2.2.1, s90s1_0.2.2.2.2.2.2.2.2.1, s90s1_0.2.2.2.2.2.2.2.2.2.1⟩ : api_Power) 4 x90s1_0.2) default).bind fun y7 => bif (y5.2 || y7) then some (.next (s90s1_0.1, s90s1_0.2.1, s90s1_0.2.2.1, s90s1_0.2.2.2.1, s90s1_0.2.2.2.2.1, s90s1_0.2.2.2.2.2.1, s90s1_0.2.2.2.2.2.2.1, s90s1_0.2.2.2.2.2.2.2.1, s90s1_0.2.2.2.2.2.2.2.2.1, s90s1_0.2.2.2.2.2.2.2.2.2.1, s90s1_0.2.2.2.2.2.2.2.2.2.2.1, s90s1_0.2.2.2.2.2.2.2.2.2.2.2)) else andThen (foldI (F90s1_l1 x90s1_0) s90s1_0.2.1 0 (s90s1_0.1, s90s1_0.2.1, s90s1_0.2.2.1, s90s1_0.2.2.2.1, s90s1_0.2.2.2.2.1, s90s1_0.2.2.2.2.2.1, s90s1_0.2.2.2.2.2.2.1, s90s1_0.2.2.2.2.2.2.2.1, s90s1_0.2.2.2.2.2.2.2.2.1, s90s1_0.2.2.2.2.2.2.2.2.2.1, s90s1_0.2.2.2.2.2.2.2.2.2.2.1, s90s1_0.2.2.2.2.2.2.2.2.2.2.2)) (fun _ => none) fun s90s1_1 => some (.next (s90s1_1.1, s90s1_1.2.1, s90s1_1.2.2.1, s90s1_1.2.2.2.1, s90s1_1.2.2.2.2.1, s90s1_1.2.2.2.2.2.1, s90s1_1.2.2.2.2.2.2.1, s90s1_1.2.2.2.2.2.2.2.1, s90s1_1.2.2.2.2.2.2.2.2.1, s90s1_1.2.2.2.2.2.2.2.2.2.1, s90s1_1.2.2.2.2.2.2.2.2.2.2.1, s90s1_1.2.2.2.2.2.2.2.2.2.2.2))
/-- (*dynpos/restore.planner).serve -/
def F90s1 (x0 : restore_planner) : Option restore_planner :=
  (F167 x0.board).bind fun y3 => andThen (foldE F90s1_l0 (bw y3) (x0.board.Buses, x0.board.Breakers, x0.board.Sources, x0.board.Consumers, x0.board.Phase, x0.board.Frequency, x0.power.Closed, x0.power.Sources, x0.power.Limits, x0.power.Broken, x0.goal, x0.acts)) (fun _ => none) fun s90s1_0 => some (⟨(⟨s90s1_0.1, s90s1_0.2.1, s90s1_0.2.2.1, s90s1_0.2.2.2.1, s90s1_0.2.2.2.2.1, s90s1_0.2.2.2.2.2.1⟩ : api_Board), (⟨s90s1_0.2.2.2.2.2.2.1, s90s1_0.2.2.2.2.2.2.2.1, s90s1_0.2.2.2.2.2.2.2.2.1, s90s1_0.2.2.2.2.2.2.2.2.2.1⟩ : api_Power), s90s1_0.2.2.2.2.2.2.2.2.2.2.1, s90s1_0.2.2.2.2.2.2.2.2.2.2.2⟩ : restore_planner)
def F30_l0 (s30_0 : Sg3) : Option (Ctl (Sg3) Unit) :=
  (F88s0 (⟨(⟨s30_0.1, s30_0.2.1, s30_0.2.2.1, s30_0.2.2.2.1, s30_0.2.2.2.2.1, s30_0.2.2.2.2.2.1⟩ : api_Board), (⟨s30_0.2.2.2.2.2.2.1, s30_0.2.2.2.2.2.2.2.1, s30_0.2.2.2.2.2.2.2.2.1, s30_0.2.2.2.2.2.2.2.2.2.1⟩ : api_Power), s30_0.2.2.2.2.2.2.2.2.2.2.1, s30_0.2.2.2.2.2.2.2.2.2.2.2⟩ : restore_planner)).bind fun y26 => bif !y26.2 then some (.brk (s30_0.1, s30_0.2.1, s30_0.2.2.1, s30_0.2.2.2.1, s30_0.2.2.2.2.1, s30_0.2.2.2.2.2.1, s30_0.2.2.2.2.2.2.1, s30_0.2.2.2.2.2.2.2.1, s30_0.2.2.2.2.2.2.2.2.1, s30_0.2.2.2.2.2.2.2.2.2.1, s30_0.2.2.2.2.2.2.2.2.2.2.1, s30_0.2.2.2.2.2.2.2.2.2.2.2)) else (F89s1 (⟨(⟨s30_0.1, s30_0.2.1, s30_0.2.2.1, s30_0.2.2.2.1, s30_0.2.2.2.2.1, s30_0.2.2.2.2.2.1⟩ : api_Board), (⟨s30_0.2.2.2.2.2.2.1, s30_0.2.2.2.2.2.2.2.1, s30_0.2.2.2.2.2.2.2.2.1, s30_0.2.2.2.2.2.2.2.2.2.1⟩ : api_Power), s30_0.2.2.2.2.2.2.2.2.2.2.1, s30_0.2.2.2.2.2.2.2.2.2.2.2⟩ : restore_planner) 1 y26.1).bind fun y29 => some (.next (y29.board.Buses, y29.board.Breakers, y29.board.Sources, y29.board.Consumers, y29.board.Phase, y29.board.Frequency, y29.power.Closed, y29.power.Sources, y29.power.Limits, y29.power.Broken, y29.goal, y29.acts))
/-- dynpos/restore.Plan -/
def F30 (x0 : api_Board) (x1 : api_Power) : Option ((List api_Act) × Int) :=
  (F81 x0 x1).bind fun y1 => bif (y1.2.2 != 0) then some (([] : List api_Act), y1.2.2) else (F82 x1 y1.1).bind fun y4 => (guardO [(!y4, false)] (F83 x0 x1) default).bind fun y6 => bif ((!y4) || y6) then some (([] : List api_Act), 11) else (F18 x0 x1).bind fun y9 => (F84 y9 true).bind fun y11 => (guardO [(!y11, false)] (F42 x0 x1) default).bind fun y13 => bif ((!y11) || y13) then some (([] : List api_Act), 9) else (F70 x1).bind fun y16 => (F18 x0 x1).bind fun y18 => (F85s1 (⟨x0, y16, y18, ([] : List api_Act)⟩ : restore_planner)).bind fun y20 => (F86s1 y20).bind fun y22 => (F87s1 y22).bind fun y24 => andThen (whileN F30_l0 1152921504606846976 (y24.board.Buses, y24.board.Breakers, y24.board.Sources, y24.board.Consumers, y24.board.Phase, y24.board.Frequency, y24.power.Closed, y24.power.Sources, y24.power.Limits, y24.power.Broken, y24.goal, y24.acts)) (fun _ => none) fun s30_0 => (F90s1 (⟨(⟨s30_0.1, s30_0.2.1, s30_0.2.2.1, s30_0.2.2.2.1, s30_0.2.2.2.2.1, s30_0.2.2.2.2.2.1⟩ : api_Board), (⟨s30_0.2.2.2.2.2.2.1, s30_0.2.2.2.2.2.2.2.1, s30_0.2.2.2.2.2.2.2.2.1, s30_0.2.2.2.2.2.2.2.2.2.1⟩ : api_Power), s30_0.2.2.2.2.2.2.2.2.2.2.1, s30_0.2.2.2.2.2.2.2.2.2.2.2⟩ : restore_planner)).bind fun y31 => some (y31.acts, 0)
def F25_l0 (x0 : api_Board) (i25_0 : Nat) (x25_0 : api_Act) (s25_0 : Sg1) : Option (Ctl (Sg1) (api_Power × Int × Int × Int)) :=
  (F19 x0 (⟨s25_0.2.1, s25_0.2.2.1, s25_0.2.2.2.1, s25_0.2.2.2.2⟩ : api_Power) s25_0.1 x25_0).bind fun y6 => bif (y6.2 != 0) then some (.ret ((⟨s25_0.2.1, s25_0.2.2.1, s25_0.2.2.2.1, s25_0.2.2.2.2⟩ : api_Power), s25_0.1, cnt 0 i25_0, y6.2)) else bif (x25_0.Kind == 7) then some (.next (w64 (s25_0.1 + 1), y6.1.Closed, y6.1.Sources, y6.1.Limits, y6.1.Broken)) else some (.next (s25_0.1, y6.1.Closed, y6.1.Sources, y6.1.Limits, y6.1.Broken))
/-- dynpos/restore.Run -/
def F25 (x0 : api_Board) (x1 : api_Power) (x2 : Int) (x3 : List api_Act) : Option (api_Power × Int × Int × Int) :=
  (F65 x0 x1).bind fun y1 => bif (y1 != 0) then some ((⟨([] : List Bool), ([] : List api_Running), ([] : List Int), ([] : List api_Part)⟩ : api_Power), 0, 0, y1) else (F70 x1).bind fun y4 => andThen (foldI (F25_l0 x0) x3 0 (x2, y4.Closed, y4.Sources, y4.Limits, y4.Broken)) some fun s25_0 => some ((⟨s25_0.2.1, s25_0.2.2.1, s25_0.2.2.2.1, s25_0.2.2.2.2⟩ : api_Power), s25_0.1, (x3.length : Int), 0)
def c72_1 (x72_0 : api_Act) (y2 : api_Act) : Bool := !((x72_0.Kind == y2.Kind) && ((x72_0.Unit == y2.Unit) && ((x72_0.Value == y2.Value) && true)))
def F72_l0 (x1 : List api_Act) (i72_0 : Nat) (x72_0 : api_Act) (s72_0 : Unit) : Option (Ctl Unit Bool) :=
  (getI x1 (cnt 0 i72_0)).bind fun y2 => bif (c72_1 x72_0 y2) then some (.ret false) else some (.next ())
/-- dynpos/dynposref18.Acts -/
def F72 (x0 : List api_Act) (x1 : List api_Act) : Option Bool :=
  bif ((x0.length : Int) != (x1.length : Int)) then some false else andThen (foldI (F72_l0 x1) x0 0 ()) some fun s72_0 => some true
/-- dynpos/dynposlaw20.sane -/
def F22  : Option Bool :=
  (F30 F28.1 F28.2).bind fun y1 => (F25 F28.1 F28.2 7 y1.1).bind fun y3 => (guardO [((y1.2 == 0), true)] (F72 y1.1 [(⟨3, 0, 0⟩ : api_Act), (⟨7, 0, 0⟩ : api_Act), (⟨7, 0, 0⟩ : api_Act), (⟨7, 0, 0⟩ : api_Act), (⟨1, 1, 0⟩ : api_Act), (⟨1, 0, 0⟩ : api_Act)]) default).bind fun y5 => (guardO [((((((y1.2 == 0) && y5) && (y3.2.2.2 == 0)) && (y3.2.1 == 10)) && (y3.2.2.1 == 6)), true)] (F42 F28.1 y3.1) default).bind fun y7 => (guardO [(((((((y1.2 == 0) && y5) && (y3.2.2.2 == 0)) && (y3.2.1 == 10)) && (y3.2.2.1 == 6)) && y7), true)] (F42 F28.1 F28.2) default).bind fun y9 => some (((((((y1.2 == 0) && y5) && (y3.2.2.2 == 0)) && (y3.2.1 == 10)) && (y3.2.2.1 == 6)) && y7) && (!y9))
def c5_0 (y1 : api_Power × Int) : Bool := ((y1.2 != 0) || ((y1.1.Sources.length : Int) != 1))
def c5_5 (x0 : Int) (s5_0 : Sg1) (y5 : api_Running) : Bool := !((y5.State == 2) == (decide (s5_0.1 ≥ (Int.tmod (w64 x0) 12))))
def c5_6 (y8 : api_Power × Int) : Bool := ((y8.2 != 0) || ((y8.1.Sources.length : Int) != 1))
def F5_l0 (x0 : Int) (s5_0 : Sg1) : Option (Ctl (Sg1) Bool) :=
  bif decide (s5_0.1 < 12) then (getI s5_0.2.2.1 0).bind fun y5 => bif (c5_5 x0 s5_0 y5) then some (.ret false) else (F19 (⟨F28.1.Buses, F28.1.Breakers, [(⟨100, 0, Int.tmod (w64 x0) 12⟩ : api_Source)], F28.1.Consumers, F28.1.Phase, F28.1.Frequency⟩ : api_Board) (⟨s5_0.2.1, s5_0.2.2.1, s5_0.2.2.2.1, s5_0.2.2.2.2⟩ : api_Power) (w64 (50 + s5_0.1)) (⟨7, 0, 0⟩ : api_Act)).bind fun y8 => bif (c5_6 y8) then some (.ret false) else some (.next (w64 (s5_0.1 + 1), y8.1.Closed, y8.1.Sources, y8.1.Limits, y8.1.Broken)) else some (.brk (s5_0.1, s5_0.2.1, s5_0.2.2.1, s5_0.2.2.2.1, s5_0.2.2.2.2))
/-- dynpos/dynposlaw20.RestoreStarts -/
def F5 (x0 : Int) : Option Bool :=
  (F19 (⟨F28.1.Buses, F28.1.Breakers, [(⟨100, 0, Int.tmod (w64 x0) 12⟩ : api_Source)], F28.1.Consumers, F28.1.Phase, F28.1.Frequency⟩ : api_Board) F28.2 50 (⟨3, 0, 0⟩ : api_Act)).bind fun y1 => bif (c5_0 y1) then some false else andThen (whileN (F5_l0 x0) 15 (0, y1.1.Closed, y1.1.Sources, y1.1.Limits, y1.1.Broken)) some fun s5_0 => (F19 (⟨F28.1.Buses, F28.1.Breakers, [(⟨100, 0, Int.tmod (w64 x0) 12⟩ : api_Source)], F28.1.Consumers, F28.1.Phase, F28.1.Frequency⟩ : api_Board) (⟨s5_0.2.1, s5_0.2.2.1, s5_0.2.2.2.1, s5_0.2.2.2.2⟩ : api_Power) 70 (⟨3, 0, 0⟩ : api_Act)).bind fun y11 => (F19 (⟨F28.1.Buses, F28.1.Breakers, [(⟨100, 0, Int.tmod (w64 x0) 12⟩ : api_Source)], F28.1.Consumers, F28.1.Phase, F28.1.Frequency⟩ : api_Board) (⟨s5_0.2.1, s5_0.2.2.1, s5_0.2.2.2.1, s5_0.2.2.2.2⟩ : api_Power) 70 (⟨4, 0, 0⟩ : api_Act)).bind fun y13 => (guardO [((((y11.2 == 11) && (y13.2 == 0)) && ((y13.1.Sources.length : Int) == 1)), true)] (getI y13.1.Sources 0) default).bind fun y15 => (guardO [(((((y11.2 == 11) && (y13.2 == 0)) && ((y13.1.Sources.length : Int) == 1)) && (y15.State == 0)), true)] (F22) default).bind fun y17 => some (((((y11.2 == 11) && (y13.2 == 0)) && ((y13.1.Sources.length : Int) == 1)) && (y15.State == 0)) && y17)
end Go.Proofs.YtkngbnedbgndoaaGreat
