/-
  Which functions the law comes to, reckoned by a table of who names whom.
-/
import Derived.Test.YtopmfoohdkjgmaaGreatDoorProg
import Derived.Test.YtopmfoohdkjgmaaGreatDoorRows
import Derived.JoinedOf
import Derived.SevenTiedAt
import Derived.Test.YtopmfoohdkjgmaaGreatDoorCards
namespace Go.SL
/-- who is named by function f, by the table -/
def lookT (T : List (List (List Nat))) (f : Nat) : List Nat := ((T[f / 38]?.getD [])[f % 38]?).getD []
def clM (T : List (List (List Nat))) : Nat → List Nat → List Nat → Nat → List Nat
  | 0, _, seen, _ => seen.reverse
  | _, [], seen, _ => seen.reverse
  | n + 1, f :: todo, seen, m => bif m.testBit f then clM T n todo seen m else clM T n (lookT T f ++ todo) (f :: seen) (m ||| 1 <<< f)
theorem clM_eq {P : Program} {T : List (List (List Nat))} (hT : ∀ f : Nat, (P.funcs[f]?).elim [] P.leadsTo = lookT T f) : ∀ (n : Nat) (todo seen : List Nat) (m : Nat), (∀ f, m.testBit f = seen.contains f) → P.closureVia n todo seen = clM T n todo seen m
  | 0, _, _, _, _ => by simp only [Program.closureVia, clM]
  | n + 1, [], _, _, _ => by simp only [Program.closureVia, clM]
  | n + 1, f :: todo, seen, m, h => by
    simp only [Program.closureVia, clM, h f]
    cases e : seen.contains f with
    | true => simp only [if_true, cond_true]; exact clM_eq hT n todo seen m h
    | false =>
      simp only [Bool.false_eq_true, if_false, cond_false, hT]
      refine clM_eq hT n _ _ _ fun g => ?_
      rw [Nat.testBit_or, h g, Nat.one_shiftLeft, Nat.testBit_two_pow, List.contains_cons, Bool.or_comm]
      by_cases e2 : f = g
      · subst e2; simp
      · rw [decide_eq_false e2, beq_eq_false_iff_ne.2 (Ne.symm e2)]
/-- the table's rows, chunk by chunk -/
def rowsOk (P : Program) : List Func → List (List Nat) → Prop := fun l r => l.map P.leadsTo = r
theorem look_of {P : Program} : ∀ {T : List (List (List Nat))} {l : List Func}, (∀ (i : Nat) r, T[i]? = some r → ((l.drop (38 * i)).take 38).map P.leadsTo = r) → l.length ≤ 38 * T.length → ∀ f : Nat, (l[f]?).elim [] P.leadsTo = lookT T f := by
  intro T l h hl f
  have hf : f = 38 * (f / 38) + f % 38 := by omega
  have hm : f % 38 < 38 := Nat.mod_lt _ (by decide)
  unfold lookT
  cases e : T[f / 38]? with
  | none =>
    have := List.getElem?_eq_none_iff.1 e
    rw [List.getElem?_eq_none (by omega)]; rfl
  | some r =>
    have h1 := h _ _ e
    simp only [Option.getD_some]
    rw [← h1, List.getElem?_map, List.getElem?_take, if_pos hm, List.getElem?_drop, ← hf]
    cases l[f]? <;> rfl
theorem sum_of {P : Program} : ∀ {T : List (List (List Nat))} {l : List Func}, (∀ (i : Nat) r, T[i]? = some r → ((l.drop (38 * i)).take 38).map P.leadsTo = r) → l.length ≤ 38 * T.length → (l.map fun g => (P.leadsTo g).length + 1) = T.flatten.map fun r => r.length + 1
  | [], l, _, hl => by
    have : l = [] := List.eq_nil_of_length_eq_zero (by simpa using hl)
    subst this; rfl
  | r :: T, l, h, hl => by
    have h0 := h 0 r rfl
    rw [Nat.mul_zero, List.drop_zero] at h0
    have ih := sum_of (T := T) (l := l.drop 38) (fun i r hi => by
      have := h (i + 1) r hi
      rw [List.drop_drop, show 38 + 38 * i = 38 * (i + 1) from by omega]; exact this) (by simp only [List.length_drop, List.length_cons] at *; omega)
    rw [List.flatten_cons, List.map_append, ← ih, ← h0, List.map_map]
    conv => lhs; rw [← List.take_append_drop 38 l, List.map_append]
    rfl
theorem goes_none {P : Program} (h : P.funcs.toList.any Func.goes = false) (f : FuncId) : P.goes f = false := by
  have hg : ∀ g : Nat, (P.funcs[g]?).any Func.goes = false := fun g => by
    cases e : P.funcs[g]? with
    | none => rfl
    | some fn =>
      have hm : fn ∈ P.funcs.toList := Array.mem_toList_iff.2 (Array.mem_of_getElem? e)
      rw [List.any_eq_false] at h
      simpa using h fn hm
  have h2 : P.funcs.any Func.goes = false := by rw [← Array.any_toList]; exact h
  unfold Program.goes
  rw [h2, Bool.and_false, Bool.or_false, List.any_eq_false]
  intro g _
  simp [hg g]
theorem goes_any {o : Option FuncId} {q : FuncId → Bool} (h : ∀ f, q f = false) : o.any q = false := by
  cases o with
  | none => rfl
  | some f => exact h f
theorem goes_by {P : Program} {c : OpenClaim} (hs : c.start = .entering) (h : P.funcs.toList.any Func.goes = false) : false = c.goesBy P := by
  unfold OpenClaim.goesBy Program.goesAt Program.goesFrom
  rw [hs, goes_any (goes_none h)]; rfl
end Go.SL
namespace Go.Proofs.YtopmfoohdkjgmaaGreatDoor
open Go Go.SL
def lt0 : List (List Nat) := [[], [], [1], [4, 5, 6, 7, 8, 9, 7, 8, 4], [11, 10, 12, 8, 8, 8], [], [13], [6], [15, 14], [], [16, 17, 18, 19], [5, 20], [], [], [], [], [21, 22, 23], [24, 25, 26], [16], [27, 28, 29, 30, 31, 32, 33, 34], [35, 6, 36, 6, 36, 36, 37, 38], [39, 40, 42, 44, 46, 47, 49, 51, 53, 55, 57, 58, 60, 61, 62, 63], [64, 65, 67, 66], [68, 68, 68], [21, 69, 70, 71, 71, 71, 72], [73, 74, 75, 77, 76, 78, 79, 77, 80, 81, 82, 83, 84, 85], [86, 79, 87], [21, 88, 23, 61], [89, 91, 90], [92, 93, 95, 94], [96, 97, 98, 99], [95, 101, 100], [102, 103, 104, 105, 107, 106, 102, 95, 108], [110, 95, 109, 95, 111], [112, 113, 72], [114, 115, 116, 117, 118, 119, 36, 120, 121, 7, 7, 122, 7, 123, 37, 38], [6], [6]]
theorem ltOk0 : ((Tryz.prog.funcs.toList.drop 0).take 38).map Tryz.prog.leadsTo = lt0 := by kernel_rfl
def lt1 : List (List Nat) := [[6, 6, 6, 124], [], [41], [125], [43], [126, 127], [45], [129, 130, 129, 129, 131, 132], [], [48], [133, 134, 135], [50], [136, 137], [52], [], [54], [139, 140, 141, 142], [56], [139], [], [59], [], [], [], [143], [144], [145, 146], [149, 150, 148], [], [151], [152], [45, 39, 153, 154], [], [], [155, 156, 157, 112, 158, 160, 159], [161, 162], [165, 166, 167, 168], [169, 170]]
theorem ltOk1 : ((Tryz.prog.funcs.toList.drop 38).take 38).map Tryz.prog.leadsTo = lt1 := by kernel_rfl
def lt2 : List (List Nat) := [[171], [86, 172, 173, 174], [77, 170, 86], [175, 176, 177, 178], [169, 179, 84], [172, 173, 179, 180], [173, 172, 179, 84], [174, 179, 179], [], [182, 181, 183, 169, 174, 179, 184, 185, 84], [45, 186, 187, 188, 129, 190], [86, 191, 79, 192], [21, 193, 194, 195, 196, 197, 95, 198, 95, 199, 200, 201], [202, 203, 204, 203, 206, 205, 207, 93], [208], [209], [210], [211], [212, 213, 214, 215, 216, 217], [], [41, 23, 152, 218, 218, 218], [219, 220, 222], [193, 48, 223, 207, 93, 224, 225, 226, 227], [228, 230, 229, 230, 229, 231, 229, 232, 233], [198, 234, 235, 236], [214, 237, 238, 239], [], [240, 241, 215, 215, 242], [243, 245, 244], [246, 141], [246, 247, 247], [248, 249], [56, 242], [250, 251, 252, 253, 255, 254], [256, 210], [250, 257], [158], [258, 259, 210, 92, 260, 261]]
theorem ltOk2 : ((Tryz.prog.funcs.toList.drop 76).take 38).map Tryz.prog.leadsTo = lt2 := by kernel_rfl
def lt3 : List (List Nat) := [[262, 262, 262, 36, 36, 36, 36], [36, 36, 6, 263], [7, 36, 36, 6, 6, 6, 6, 6, 36, 36, 36, 6, 6, 6, 36, 36, 6, 7, 6, 6], [36, 36, 36], [6, 264], [36, 36, 36, 36, 36, 36, 36, 36, 36], [265, 7, 266, 36], [6, 36, 7, 123], [36], [6], [267], [268], [269], [128], [270, 270, 270, 270, 270, 271, 272], [], [129, 129, 129, 129, 215, 215, 274, 275], [129, 129, 129], [129, 129, 129, 129, 129], [63, 276, 278, 150], [93, 93, 279, 280], [281, 282, 139, 283, 63, 278, 150], [284], [138], [285, 285, 285, 285], [], [141], [], [60], [], [], [286], [147], [277], [], [287, 287], [149, 149, 148], [288]]
theorem ltOk3 : ((Tryz.prog.funcs.toList.drop 114).take 38).map Tryz.prog.leadsTo = lt3 := by kernel_rfl
def lt4 : List (List Nat) := [[], [289], [290], [291, 156, 160, 159], [292, 293], [], [177], [], [294, 294, 294, 295], [86, 79], [163, 164], [297, 296, 298, 296, 299], [182, 300, 177, 302, 301, 303, 304], [], [], [], [], [211], [305], [], [173, 174, 169], [307, 306], [169, 169, 169], [], [], [], [], [170], [290], [308], [45, 310, 309], [86, 311], [305], [305], [312, 129, 149, 149, 148], [313], [189], [129, 129, 129, 129]]
theorem ltOk4 : ((Tryz.prog.funcs.toList.drop 152).take 38).map Tryz.prog.leadsTo = lt4 := by kernel_rfl
def lt5 : List (List Nat) := [[], [314, 314, 314, 314, 314, 314], [315, 316, 317, 318, 319, 320, 321, 322], [299, 323, 39, 74, 325, 324], [133, 63, 326], [327, 328], [95, 60], [52, 293, 60, 329], [234], [330, 331, 332, 330, 330], [102, 95, 333], [155, 95, 334, 334, 334], [], [223, 335, 150, 336], [277], [144], [], [48, 203, 178, 335, 150], [193, 337, 338, 339, 340, 87, 338, 341], [], [203, 207], [342], [50, 50, 343, 343, 60, 345, 344], [346, 347, 348], [50, 343, 349, 350], [15], [351, 352, 352, 353, 354, 354, 356, 355], [], [125, 68, 152, 359, 358, 357], [52, 197, 60, 60, 329, 329, 360, 360, 361, 362, 362, 362, 363, 363, 361, 363], [221], [], [43, 43, 364, 364, 354, 364], [365], [86, 337, 339], [43, 86, 366, 143, 367, 368], [369, 341, 175, 176, 177, 178], [177]]
theorem ltOk5 : ((Tryz.prog.funcs.toList.drop 190).take 38).map Tryz.prog.leadsTo = lt5 := by kernel_rfl
def lt6 : List (List Nat) := [[370, 364], [371, 221, 372, 373, 373, 374], [375, 376, 377], [378, 376, 379], [43, 43, 380], [], [], [], [], [381], [237, 382], [], [56, 333, 384, 383], [], [385], [245], [386, 386], [387], [54, 388, 140, 389], [], [390], [], [199, 253], [331, 332, 391, 392], [391, 393], [], [394], [], [86, 300, 395, 396], [391, 393], [95, 71], [221], [93], [397, 398, 399, 400, 400, 95, 71], [401, 401, 401], [7, 6, 36, 36, 36, 6, 402], [6, 36, 36, 36], [6]]
theorem ltOk6 : ((Tryz.prog.funcs.toList.drop 228).take 38).map Tryz.prog.leadsTo = lt6 := by kernel_rfl
def lt7 : List (List Nat) := [[36, 36, 36, 36], [], [293], [], [], [403], [273], [404, 405], [406], [], [277], [], [], [], [150, 150, 148], [], [93], [407], [], [], [], [], [], [290], [408, 409], [], [], [], [410], [411, 412, 412, 412, 413], [414], [415], [170], [86, 79, 300, 416], [86, 417, 418, 311, 419, 420], [421], [215], [422]]
theorem ltOk7 : ((Tryz.prog.funcs.toList.drop 266).take 38).map Tryz.prog.leadsTo = lt7 := by kernel_rfl
def lt8 : List (List Nat) := [[422, 423, 296], [300, 215], [], [], [], [424], [149], [425], [], [], [], [426, 79, 299], [86, 169, 79], [86, 427, 79, 428, 305, 416], [169, 429], [429], [], [430, 429], [431, 432, 433, 434], [], [435], [], [], [436], [293], [], [], [330], [330], [56, 385, 437], [95, 438], [440, 439], [], [79, 369, 341], [79], [87, 441, 338, 73, 441, 338, 74, 338], [153, 300, 170, 442, 339], []]
theorem ltOk8 : ((Tryz.prog.funcs.toList.drop 304).take 38).map Tryz.prog.leadsTo = lt8 := by kernel_rfl
def lt9 : List (List Nat) := [[], [], [443], [], [], [138, 444, 445, 446, 446, 447], [138, 285, 445], [448, 444, 217], [449, 450, 451, 452, 167], [356, 60, 352], [], [453, 454], [453, 456], [457], [], [458], [357], [], [60, 60, 329, 459, 460, 357, 357], [359], [221], [357], [461, 383], [], [], [183, 170, 169, 462, 383], [463, 464], [], [43, 43, 364, 364, 465, 364], [466], [453, 455], [372, 221], [], [128, 468, 467], [470], [], [128, 471, 467], []]
theorem ltOk9 : ((Tryz.prog.funcs.toList.drop 342).take 38).map Tryz.prog.leadsTo = lt9 := by kernel_rfl
def lt10 : List (List Nat) := [[], [98, 472], [473], [421], [], [474, 383], [], [142, 475, 476, 476, 386], [141], [141], [], [477, 478], [479, 480], [], [], [481], [], [482], [440, 483], [], [], [36], [36, 36], [], [], [359], [], [], [], [], [484], [485, 486], [485], [], [], [169], [], []]
theorem ltOk10 : ((Tryz.prog.funcs.toList.drop 380).take 38).map Tryz.prog.leadsTo = lt10 := by kernel_rfl
def lt11 : List (List Nat) := [[129, 425], [481], [], [], [184, 185], [], [487, 487, 488, 488], [], [86, 489, 305, 215, 490], [305], [86, 418], [173], [86, 79, 359], [], [], [491, 492], [], [], [], [], [493, 155, 494], [495, 496, 497, 498, 499, 500, 501, 502, 439, 439], [503, 504], [], [505, 86, 39, 506, 508, 507, 507, 509, 510, 511], [], [285, 446, 60, 285], [444, 444, 285], [], [446, 446, 355], [], [355], [512, 513, 514], [440, 515], [149, 149, 516, 148], [], [455], []]
theorem ltOk11 : ((Tryz.prog.funcs.toList.drop 418).take 38).map Tryz.prog.leadsTo = lt11 := by kernel_rfl
def lt12 : List (List Nat) := [[455], [517], [], [359, 354], [359, 459], [], [367], [128, 380, 353], [], [518], [], [], [469], [519, 271], [], [469], [521], [522], [], [60], [], [], [149], [], [523], [], [], [524, 525, 526, 527, 528, 529, 530, 531, 532, 483, 483], [533, 534, 535, 536], [537], [538], [], [539, 488, 488], [169, 169, 169, 169, 183, 169], [427, 427, 540, 540], [], [541], [292]]
theorem ltOk12 : ((Tryz.prog.funcs.toList.drop 456).take 38).map Tryz.prog.leadsTo = lt12 := by kernel_rfl
def lt13 : List (List Nat) := [[542], [], [543, 543], [544, 545], [546, 546, 546, 547], [], [], [], [], [], [], [], [305, 39, 181, 511, 169, 185, 184], [], [39, 170, 184, 185], [305, 548], [427, 428, 511], [549, 306], [550, 551], [449], [552, 398, 399], [553, 554, 555, 556, 557, 558, 559, 560, 515, 515], [149], [60], [], [520], [273, 561, 562, 460, 459, 562], [563, 99], [210, 93, 381], [564, 564, 564], [530], [565, 565], [544, 545], [566, 566, 566, 567], [], [530, 530, 530], [287, 287], [530, 530]]
theorem ltOk13 : ((Tryz.prog.funcs.toList.drop 494).take 38).map Tryz.prog.leadsTo = lt13 := by kernel_rfl
def lt14 : List (List Nat) := [[530, 530, 530, 530], [], [504, 568, 569], [], [570, 512], [], [], [571, 571, 571], [572], [573, 573, 573], [574], [], [440], [], [547], [575, 575, 575], [511, 169, 169, 169, 215, 215], [], [], [], [], [], [576, 576], [544, 545], [577, 577, 577, 578], [], [], [], [], [], [561, 460, 459], [579, 580, 581, 222], [], [530, 530], [567], [582, 582, 582], [], []]
theorem ltOk14 : ((Tryz.prog.funcs.toList.drop 532).take 38).map Tryz.prog.leadsTo = lt14 := by kernel_rfl
def lt15 : List (List Nat) := [[], [], [359, 359, 359], [], [], [], [], [578], [583, 583, 583], [293], [], [], [530], [], [], [], [], [], [], [], [], [], [], [], [], [], [], [], [], [], [], [], [], [], [], [], [], []]
theorem ltOk15 : ((Tryz.prog.funcs.toList.drop 570).take 38).map Tryz.prog.leadsTo = lt15 := by kernel_rfl
def ltT : List (List (List Nat)) := [lt0, lt1, lt2, lt3, lt4, lt5, lt6, lt7, lt8, lt9, lt10, lt11, lt12, lt13, lt14, lt15]
theorem ltLen : Tryz.prog.funcs.toList.length ≤ 38 * ltT.length := by
  have h : Nat.ble Tryz.prog.funcs.toList.length (38 * ltT.length) = true := by kernel_rfl
  exact Nat.le_of_ble_eq_true h
theorem ltRow : ∀ (i : Nat) r, ltT[i]? = some r → ((Tryz.prog.funcs.toList.drop (38 * i)).take 38).map Tryz.prog.leadsTo = r := by
  intro i r h
  unfold ltT at h
  rcases i with _ | i
  · cases h; exact ltOk0
  rcases i with _ | i
  · cases h; exact ltOk1
  rcases i with _ | i
  · cases h; exact ltOk2
  rcases i with _ | i
  · cases h; exact ltOk3
  rcases i with _ | i
  · cases h; exact ltOk4
  rcases i with _ | i
  · cases h; exact ltOk5
  rcases i with _ | i
  · cases h; exact ltOk6
  rcases i with _ | i
  · cases h; exact ltOk7
  rcases i with _ | i
  · cases h; exact ltOk8
  rcases i with _ | i
  · cases h; exact ltOk9
  rcases i with _ | i
  · cases h; exact ltOk10
  rcases i with _ | i
  · cases h; exact ltOk11
  rcases i with _ | i
  · cases h; exact ltOk12
  rcases i with _ | i
  · cases h; exact ltOk13
  rcases i with _ | i
  · cases h; exact ltOk14
  rcases i with _ | i
  · cases h; exact ltOk15
  cases h
theorem ltLook (f : Nat) : (Tryz.prog.funcs[f]?).elim [] Tryz.prog.leadsTo = lookT ltT f := by
  rw [← Array.getElem?_toList]; exact look_of ltRow ltLen f
def clC : List Nat := [3, 4, 11, 5, 20, 35, 114, 262, 401, 36, 6, 13, 115, 263, 7, 402, 116, 117, 118, 264, 119, 120, 265, 266, 121, 123, 122, 37, 38, 124, 267, 10, 16, 21, 39, 40, 41, 125, 268, 293, 42, 43, 126, 269, 127, 128, 270, 271, 403, 272, 273, 404, 405, 359, 44, 45, 129, 130, 215, 15, 274, 406, 275, 131, 132, 46, 47, 48, 133, 63, 144, 276, 277, 278, 150, 149, 287, 148, 134, 93, 211, 342, 279, 280, 135, 281, 282, 139, 283, 407, 49, 50, 136, 284, 137, 138, 285, 51, 52, 53, 54, 140, 141, 142, 60, 55, 56, 57, 58, 59, 61, 62, 143, 22, 64, 145, 286, 146, 147, 65, 67, 151, 288, 66, 23, 68, 152, 17, 24, 69, 153, 289, 290, 408, 409, 154, 70, 71, 72, 155, 291, 156, 292, 160, 294, 410, 484, 533, 534, 504, 568, 569, 535, 536, 570, 512, 550, 551, 295, 411, 485, 537, 486, 538, 412, 413, 159, 157, 112, 158, 177, 25, 73, 161, 86, 186, 312, 187, 313, 188, 189, 190, 79, 175, 176, 178, 162, 163, 297, 415, 169, 296, 414, 298, 170, 305, 300, 417, 418, 425, 311, 419, 481, 420, 299, 416, 164, 182, 310, 309, 424, 487, 488, 539, 571, 302, 301, 421, 303, 422, 184, 185, 304, 423, 74, 165, 166, 167, 168, 75, 77, 172, 173, 307, 306, 174, 76, 171, 78, 80, 179, 84, 81, 180, 82, 83, 85, 181, 308, 183, 26, 87, 191, 314, 192, 315, 426, 489, 490, 427, 540, 572, 316, 317, 428, 318, 429, 319, 320, 321, 430, 322, 431, 432, 433, 491, 492, 541, 573, 434, 18, 19, 27, 88, 193, 323, 325, 324, 435, 194, 326, 195, 327, 436, 328, 196, 95, 197, 329, 198, 234, 199, 330, 331, 332, 200, 102, 333, 385, 474, 383, 437, 201, 334, 438, 493, 494, 542, 574, 28, 89, 202, 203, 223, 365, 335, 440, 503, 439, 495, 496, 543, 497, 544, 545, 498, 546, 547, 575, 499, 500, 501, 502, 336, 204, 206, 205, 207, 91, 209, 90, 208, 337, 369, 341, 338, 339, 441, 340, 442, 505, 506, 511, 549, 508, 507, 509, 548, 510, 29, 92, 210, 94, 212, 343, 345, 344, 443, 213, 346, 347, 444, 446, 445, 447, 355, 457, 517, 348, 214, 349, 448, 217, 350, 449, 450, 513, 514, 552, 398, 483, 524, 530, 525, 565, 526, 527, 566, 567, 582, 528, 529, 531, 532, 399, 451, 515, 553, 554, 576, 555, 556, 577, 578, 583, 557, 558, 559, 560, 452, 516, 216, 351, 356, 352, 353, 453, 454, 455, 354, 456, 30, 96, 218, 358, 357, 458, 97, 219, 360, 459, 460, 361, 362, 221, 363, 220, 222, 364, 461, 98, 224, 225, 366, 367, 462, 368, 463, 380, 464, 226, 227, 99, 228, 370, 465, 518, 230, 375, 468, 469, 519, 520, 561, 562, 467, 376, 470, 377, 229, 371, 466, 372, 373, 374, 231, 378, 471, 379, 232, 233, 31, 101, 237, 381, 472, 521, 563, 579, 580, 581, 238, 382, 473, 522, 239, 100, 235, 236, 32, 103, 240, 384, 241, 242, 104, 243, 245, 387, 475, 476, 386, 244, 105, 246, 388, 389, 107, 248, 390, 249, 106, 247, 108, 33, 110, 256, 395, 396, 109, 250, 253, 251, 391, 477, 478, 392, 479, 480, 523, 564, 252, 393, 255, 254, 394, 111, 257, 34, 113, 258, 259, 260, 261, 397, 482, 400, 12, 8, 14, 9]
theorem clFuel : (ltT.flatten.map fun r => r.length + 1).sum = 1795 := by kernel_rfl
theorem clRun : clM ltT (1 + 1795) [3] [] 0 = clC := by kernel_rfl
theorem closure_eq : Tryz.prog.closure 3 = clC := by
  unfold Program.closure
  rw [sum_of ltRow ltLen, clFuel, clM_eq ltLook _ _ _ 0 (fun f => by simp), ← clRun]
namespace drillWorst
theorem own : ownKnob Tryz.prog.godebug = none := by kernel_rfl
theorem lo0 : (List.range' 0 100).all (rowFine Tryz.prog) = true := by kernel_rfl
theorem lo1 : (List.range' 100 100).all (rowFine Tryz.prog) = true := by kernel_rfl
theorem lo2 : (List.range' 200 100).all (rowFine Tryz.prog) = true := by kernel_rfl
theorem lo3 : (List.range' 300 100).all (rowFine Tryz.prog) = true := by kernel_rfl
theorem lo4 : (List.range' 400 100).all (rowFine Tryz.prog) = true := by kernel_rfl
theorem lo5 : (List.range' 500 100).all (rowFine Tryz.prog) = true := by kernel_rfl
theorem lo6 : (List.range' 600 100).all (rowFine Tryz.prog) = true := by kernel_rfl
theorem lo7 : (List.range' 700 5).all (rowFine Tryz.prog) = true := by kernel_rfl
theorem loR : List.range Tryz.prog.types.size = List.range' 0 100 ++ List.range' 100 100 ++ List.range' 200 100 ++ List.range' 300 100 ++ List.range' 400 100 ++ List.range' 500 100 ++ List.range' 600 100 ++ List.range' 700 5 := by kernel_rfl
theorem loG : Tryz.prog.globals.all (fun g => decide (g.type < Tryz.prog.types.size)) = true := by kernel_rfl
theorem loF : Tryz.prog.funcs.all (fun f => f.params.all fun t => decide (t < Tryz.prog.types.size)) = true := by kernel_rfl
theorem laidOut : laidOutB Tryz.prog = true := by
  unfold laidOutB
  rw [loG, loF, loR, List.all_append, List.all_append, List.all_append, List.all_append, List.all_append, List.all_append, List.all_append, lo0, lo1, lo2, lo3, lo4, lo5, lo6, lo7]; rfl
theorem unf : Tryz.prog.unfollowed 3 = true := by
  unfold Program.unfollowed
  rw [closure_eq]
  kernel_rfl
theorem j0 : (Rows.drillWorstRow.wf (OpenSpec.ofChange Rows.drillWorstSpec)) = true := by kernel_rfl
theorem j1 : (laidOutB Tryz.prog) = true := laidOut
theorem j2 : (mapsRowed Tryz.prog) = true := by kernel_rfl
theorem j3 : (Tryz.f3.params.all (Tryz.prog.readableRec ·)) = true := by kernel_rfl
theorem j4 : (namedTie Tryz.prog Rows.drillWorstRow.named Rows.drillWorstSpec.vars) = true := by kernel_rfl
theorem j5 : ((Rows.drillWorstRow.stops == [])) = true := by kernel_rfl
theorem j6 : ((Tryz.prog.stops == [])) = true := by kernel_rfl
theorem j7 : ((Rows.drillWorstRow.knobs == [])) = true := by kernel_rfl
theorem j8 : ((Tryz.prog.stopKnobs == [])) = true := by kernel_rfl
theorem j9 : ((Rows.drillWorstRow.inPlace == Tryz.prog.inPlace 3)) = true := by
  unfold Program.inPlace
  rw [closure_eq]
  kernel_rfl
theorem j10 : ((Rows.drillWorstRow.unfollowed == Tryz.prog.unfollowed 3)) = true := by rw [unf]; kernel_rfl
theorem j11 : ((Rows.drillWorstRow.recurses == Tryz.prog.recurses 3)) = true := by
  unfold Program.recurses
  rw [unf, Bool.true_or]; kernel_rfl
theorem j12 : ((Rows.drillWorstRow.named == Tryz.prog.varsNamed 3)) = true := by
  unfold Program.varsNamed
  rw [closure_eq]
  kernel_rfl
theorem j13 : ((Rows.drillWorstRow.maps == (Tryz.f3.params.toList ++ Rows.drillWorstSpec.plain.varTypes Tryz.prog).any (Tryz.prog.mapsRec ·))) = true := by kernel_rfl
theorem j14 : ((Rows.drillWorstRow.ifaces == (Tryz.f3.params.toList ++ Rows.drillWorstSpec.plain.varTypes Tryz.prog).any (Tryz.prog.ifacesRec ·))) = true := by kernel_rfl
theorem j15 : ((Rows.drillWorstRow.mapsOut == Tryz.prog.mapsAmong Tryz.f3.resultTypes.toList)) = true := by kernel_rfl
theorem j16 : ((Rows.drillWorstRow.loops == (Tryz.f3.params.toList ++ Rows.drillWorstSpec.plain.varTypes Tryz.prog).any (Tryz.prog.loopsFrom ·))) = true := by kernel_rfl
theorem j17 : ((Rows.drillWorstRow.wideKeys == (Tryz.f3.params.toList ++ Rows.drillWorstSpec.plain.varTypes Tryz.prog ++ Tryz.f3.resultTypes.toList).any (Tryz.prog.wideKeysFrom ·))) = true := by kernel_rfl
theorem j18 : (Rows.drillWorstSpec.vars.all (Tryz.prog.varReadable ·)) = true := by kernel_rfl
theorem j19 : (Tryz.f3.resultTypes.all (fun t => Tryz.prog.readableRec t && decide (t < Tryz.prog.types.size))) = true := by kernel_rfl
theorem j20 : ((Rows.drillWorstRow.ifacesOut == Tryz.f3.resultTypes.toList.any (Tryz.prog.ifacesRec ·))) = true := by kernel_rfl
theorem j21 : ((Rows.drillWorstRow.loopsOut == Tryz.f3.resultTypes.toList.any (Tryz.prog.loopsFrom ·))) = true := by kernel_rfl
theorem j22 : ((Rows.drillWorstRow.plainKeys == Tryz.prog.plainKeys)) = true := by kernel_rfl
theorem j23 : (Rows.drillWorstRow.shortTexts.isNone) = true := by kernel_rfl
theorem j24 : (Tryz.prog.stopsHeard) = true := by kernel_rfl
theorem j25 : (Tryz.prog.mayEnter) = true := by kernel_rfl
theorem j26 : ((Rows.drillWorstRow.lifted == Tryz.prog.liftsFinal)) = true := by kernel_rfl
theorem j27 : ((Tryz.prog.make == some Rows.drillWorstRow.make)) = true := by kernel_rfl
theorem j28 : ((Rows.drillWorstRow.kinds == (if Rows.drillWorstRow.domain.isEmpty then [] else Tryz.f3.params.toList.map fun t => match Tryz.prog.underlying t with | some (.int k) => some k | _ => none))) = true := by kernel_rfl
theorem j29 : ((Rows.drillWorstRow.pinned == Rows.drillWorstRow.pinnedBy)) = true := by kernel_rfl
theorem j30 : ((Rows.drillWorstRow.veiled == (Tryz.f3.params.toList ++ Rows.drillWorstSpec.plain.varTypes Tryz.prog ++ Tryz.f3.resultTypes.toList).any (Tryz.prog.veiledRec ·))) = true := by kernel_rfl
theorem j31 : (Rows.drillWorstRow.veiledFits Tryz.prog Tryz.f3.params.toList (Tryz.f3.params.toList ++ Rows.drillWorstSpec.plain.varTypes Tryz.prog ++ Tryz.f3.resultTypes.toList)) = true := by kernel_rfl
theorem c1 : Rows.drillWorstRow.wfByText (OpenSpec.ofChange Rows.drillWorstSpec) = true := by kernel_rfl
theorem c2 : Tryz.pinned.checked.prog.mainIs = some (true, "ba6039fff54b345d69880fa59524c62e75d2f007d4cb0dd8f8a47e92a563a41d".toList) := by kernel_rfl
theorem c0 : Tryz.prog.funcs.toList.any Func.goes = false := by kernel_rfl
theorem c3 : false = Rows.drillWorstRow.goesBy Tryz.pinned.checked.prog := goes_by (P := Tryz.prog) rfl c0
end drillWorst
end Go.Proofs.YtopmfoohdkjgmaaGreatDoor
