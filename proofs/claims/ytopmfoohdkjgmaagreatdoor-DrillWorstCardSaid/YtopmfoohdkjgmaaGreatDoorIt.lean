/-
  strconv.Itoa of small numbers, strings.Join: the shelf's contracts, laid at this program (by lay-shelf.mjs and lay-plain.mjs).
-/
import Derived.Shelf.Strings.OnBuilder
import Derived.Shelf.Strconv.Itoa3
import Derived.Test.YtopmfoohdkjgmaaGreatDoorProg
namespace Go.Proofs
open Go.Shelf
def Tryz.lays156_ren : Go.Shelf.Ren := ⟨fun | 156 => 295 | 165 => 411 | 166 => 412 | 169 => 413 | 240 => 485 | 241 => 486 | 276 => 537 | 277 => 538 | n => n, fun | 31 => 257 | 9 => 9 | 3 => 3 | 4 => 4 | 0 => 0 | 20 => 20 | 72 => 560 | 76 => 563 | 70 => 558 | 37 => 427 | 75 => 562 | 127 => 621 | 164 => 656 | 5 => 5 | 80 => 565 | n => n, fun | n => n⟩
theorem Tryz.lays156 : Go.Proofs.Lays.n156 Tryz.prog Tryz.lays156_ren := {
  mixed := by kernel_rfl
  f156 := Tryz.func295.trans (congrArg some (by kernel_rfl))
  f165 := Tryz.func411.trans (congrArg some (by kernel_rfl))
  f166 := Tryz.func412.trans (congrArg some (by kernel_rfl))
  f169 := Tryz.func413.trans (congrArg some (by kernel_rfl))
  f240 := Tryz.func485.trans (congrArg some (by kernel_rfl))
  f241 := Tryz.func486.trans (congrArg some (by kernel_rfl))
  f276 := Tryz.func537.trans (congrArg some (by kernel_rfl))
  f277 := Tryz.func538.trans (congrArg some (by kernel_rfl))
  t0 := Tryz.underlying0
  a0 := Tryz.isAgg0
  z0 := Tryz.sizeOf0
  v0 := Tryz.zeroValue0
  t3 := Tryz.underlying3
  a3 := Tryz.isAgg3
  z3 := Tryz.sizeOf3
  v3 := Tryz.zeroValue3
  t4 := Tryz.underlying4
  a4 := Tryz.isAgg4
  z4 := Tryz.sizeOf4
  v4 := Tryz.zeroValue4
  t9 := Tryz.underlying9
  a9 := Tryz.isAgg9
  z9 := Tryz.sizeOf9
  v9 := Tryz.zeroValue9
  t20 := Tryz.underlying20
  a20 := Tryz.isAgg20
  z20 := Tryz.sizeOf20
  v20 := Tryz.zeroValue20
  t31 := Tryz.underlying257
  a31 := Tryz.isAgg257
  z31 := Tryz.sizeOf257
  v31 := Tryz.zeroValue257
  t37 := Tryz.underlying427
  a37 := Tryz.isAgg427
  z37 := Tryz.sizeOf427
  v37 := Tryz.zeroValue427
  t70 := Tryz.underlying558
  a70 := Tryz.isAgg558
  z70 := Tryz.sizeOf558
  v70 := Tryz.zeroValue558
  t72 := Tryz.underlying560
  a72 := Tryz.isAgg560
  z72 := Tryz.sizeOf560
  v72 := Tryz.zeroValue560
  t75 := Tryz.underlying562
  a75 := Tryz.isAgg562
  z75 := Tryz.sizeOf562
  v75 := Tryz.zeroValue562
  t76 := Tryz.underlying563
  a76 := Tryz.isAgg563
  z76 := Tryz.sizeOf563
  v76 := Tryz.zeroValue563
  t127 := Tryz.underlying621
  a127 := Tryz.isAgg621
  z127 := Tryz.sizeOf621
  v127 := Tryz.zeroValue621
  t164 := Tryz.underlying656
  a164 := Tryz.isAgg656
  z164 := Tryz.sizeOf656
  v164 := Tryz.zeroValue656 }
theorem Tryz.Builder_Extra_156 : Builder.Extra Tryz.prog Tryz.lays156_ren := {
  sizeBuilder := by kernel_rfl
  liesBuilder := by kernel_rfl
  t5 := Tryz.underlying5
  a5 := Tryz.isAgg5
  z5 := Tryz.sizeOf5
  v5 := Tryz.zeroValue5
  infoByte := by kernel_rfl
  cellsByte := by kernel_rfl
  sizeByte := by kernel_rfl
  neB5 := by decide }
open Go.RowKit in
/-- strings.Join: "Join concatenates the elements of its first argument to create a single string. The separator string sep is placed between elements in the resulting string.": HOWEVER MANY ELEMENTS. Below the heap's end the world is as it was. (LAID: no walk: one application.) -/
theorem Tryz.strings_Join (bk o c : Nat) (xs : List ByteArray) (sep : ByteArray) (w : World) (hcells : ∀ (j : Nat) x, xs[j]? = some x → w.cell? ⟨bk, o + j, none⟩ = some (.string x)) (hbk : bk < w.heap.size) (hN : xs.length ≤ 140737488355328) (hcap : xs.length ≤ c) (hlen : (Lib.join (xs.map (·.data.toList)) sep.data.toList).length ≤ 140737488355328) :
    Calls Tryz.prog 295 #[.slice (some ⟨bk, o, none⟩) xs.length c, .string sep] w fun e w' => e = .returned (.string ⟨(Lib.join (xs.map (·.data.toList)) sep.data.toList).toArray⟩) ∧ Below w.heap.size w w' := Any.strings_Join Tryz.lays156 Tryz.Builder_Extra_156 bk o c xs sep w hcells hbk hN hcap hlen
def Tryz.lays171_ren : Go.Shelf.Ren := ⟨fun | 171 => 294 | 243 => 410 | 246 => 484 | 283 => 533 | 284 => 534 | 285 => 535 | 286 => 536 | 129 => 504 | 317 => 568 | 318 => 569 | 319 => 570 | 320 => 512 | 337 => 550 | 338 => 551 | n => n, fun | 3 => 3 | 9 => 9 | 2 => 2 | 4 => 4 | 171 => 652 | 0 => 0 | 53 => 55 | 37 => 427 | 5 => 5 | 173 => 654 | 212 => 679 | 51 => 553 | 20 => 20 | 213 => 680 | 46 => 449 | 232 => 685 | 233 => 686 | n => n, fun | 17 => 1 | 18 => 3 | 19 => 4 | n => n⟩
theorem Tryz.lays171 : Go.Proofs.Lays.n171 Tryz.prog Tryz.lays171_ren := {
  mixed := by kernel_rfl
  f129 := Tryz.func504.trans (congrArg some (by kernel_rfl))
  f171 := Tryz.func294.trans (congrArg some (by kernel_rfl))
  f243 := Tryz.func410.trans (congrArg some (by kernel_rfl))
  f246 := Tryz.func484.trans (congrArg some (by kernel_rfl))
  f283 := Tryz.func533.trans (congrArg some (by kernel_rfl))
  f284 := Tryz.func534.trans (congrArg some (by kernel_rfl))
  f285 := Tryz.func535.trans (congrArg some (by kernel_rfl))
  f286 := Tryz.func536.trans (congrArg some (by kernel_rfl))
  f317 := Tryz.func568.trans (congrArg some (by kernel_rfl))
  f318 := Tryz.func569.trans (congrArg some (by kernel_rfl))
  f319 := Tryz.func570.trans (congrArg some (by kernel_rfl))
  f320 := Tryz.func512.trans (congrArg some (by kernel_rfl))
  f337 := Tryz.func550.trans (congrArg some (by kernel_rfl))
  f338 := Tryz.func551.trans (congrArg some (by kernel_rfl))
  t0 := Tryz.underlying0
  a0 := Tryz.isAgg0
  z0 := Tryz.sizeOf0
  v0 := Tryz.zeroValue0
  t2 := Tryz.underlying2
  a2 := Tryz.isAgg2
  z2 := Tryz.sizeOf2
  v2 := Tryz.zeroValue2
  t3 := Tryz.underlying3
  a3 := Tryz.isAgg3
  z3 := Tryz.sizeOf3
  v3 := Tryz.zeroValue3
  t4 := Tryz.underlying4
  a4 := Tryz.isAgg4
  z4 := Tryz.sizeOf4
  v4 := Tryz.zeroValue4
  t5 := Tryz.underlying5
  a5 := Tryz.isAgg5
  z5 := Tryz.sizeOf5
  v5 := Tryz.zeroValue5
  t9 := Tryz.underlying9
  a9 := Tryz.isAgg9
  z9 := Tryz.sizeOf9
  v9 := Tryz.zeroValue9
  t20 := Tryz.underlying20
  a20 := Tryz.isAgg20
  z20 := Tryz.sizeOf20
  v20 := Tryz.zeroValue20
  t37 := Tryz.underlying427
  a37 := Tryz.isAgg427
  z37 := Tryz.sizeOf427
  v37 := Tryz.zeroValue427
  t46 := Tryz.underlying449
  a46 := Tryz.isAgg449
  z46 := Tryz.sizeOf449
  v46 := Tryz.zeroValue449
  t51 := Tryz.underlying553
  a51 := Tryz.isAgg553
  z51 := Tryz.sizeOf553
  v51 := Tryz.zeroValue553
  t53 := Tryz.underlying55
  a53 := Tryz.isAgg55
  z53 := Tryz.sizeOf55
  v53 := Tryz.zeroValue55
  t171 := Tryz.underlying652
  a171 := Tryz.isAgg652
  z171 := Tryz.sizeOf652
  v171 := Tryz.zeroValue652
  t173 := Tryz.underlying654
  a173 := Tryz.isAgg654
  z173 := Tryz.sizeOf654
  v173 := Tryz.zeroValue654
  t212 := Tryz.underlying679
  a212 := Tryz.isAgg679
  z212 := Tryz.sizeOf679
  v212 := Tryz.zeroValue679
  t213 := Tryz.underlying680
  a213 := Tryz.isAgg680
  z213 := Tryz.sizeOf680
  t232 := Tryz.underlying685
  a232 := Tryz.isAgg685
  z232 := Tryz.sizeOf685
  v232 := Tryz.zeroValue685
  t233 := Tryz.underlying686
  a233 := Tryz.isAgg686
  z233 := Tryz.sizeOf686
  v233 := Tryz.zeroValue686
  g17 := by kernel_rfl
  g18 := by kernel_rfl
  g19 := by kernel_rfl }
open Go.RowKit Go.Sort Go.Lib in
/-- THE ROAD WITHOUT THE TABLE: 0 <= i < 100: NO PREMISE ON THE WORLD, AND THE WORLD IS AS IT WAS: a row that keeps its argument in that range need list no table ('laid = []'). (LAID: no walk: one application.) -/
theorem Tryz.strconv_Itoa_small (i : Nat) (hi : i < 100) (w : World) :
    Calls Tryz.prog 294 #[.int .i64 i] w fun e w' => e = .returned (.string ⟨(Lib.decDigits i).toArray⟩) ∧ w' = w := Any.strconv_Itoa_small Tryz.lays171 i hi w
end Go.Proofs
