/-
  The logic, twenty-second part: small lemmas and names for printed texts.
-/
import Derived.Test.YtopmfoohdkjgmaaGreatDoorSlU
namespace Go.SL
abbrev I (n : Int) : D := .p (.v (.int .i64 n))
abbrev Bo (b : Bool) : D := .p (.v (.bool b))
abbrev w64 (n : Int) : Int := IntKind.i64.wrap n
abbrev DS {α : Type} (f : α → List Pd) (x : List α) : D := .p (.s (x.map f))
/-- a function as data -/
def pF (n : Nat) : List Pd := [.v (.func (.func n) #[] #[])]
theorem fnv_get {P : Program} {e k : Nat} (h : Nat.beq e k = true) : Cl.ok P (.fnv (.func (.func e) #[] #[]) k) := by
  have := Nat.eq_of_beq_eq_true h
  subst this; rfl
def pI (n : Int) : List Pd := [.v (.int .i64 n)]
def pK (k : IntKind) (n : Int) : List Pd := [.v (.int k n)]
def pB (b : Bool) : List Pd := [.v (.bool b)]
def pS (s : ByteArray) : List Pd := [.v (.string s)]
def pL {α : Type} (f : α → List Pd) (l : List α) : List Pd := [.s (l.map f)]

theorem condT {α : Type} {c : Bool} {x y r : α} (hc : c = true) (h : (bif c then x else y) = r) : x = r := by subst hc; exact h
theorem condF {α : Type} {c : Bool} {x y r : α} (hc : c = false) (h : (bif c then x else y) = r) : y = r := by subst hc; exact h
theorem boolC (b : Bool) : b = true ∨ b = false := by cases b <;> simp
def allEqB : List (Bool × Bool) → Bool
  | [] => true
  | (a, b) :: r => (a == b) && allEqB r
theorem allEqB_of : ∀ {l : List (Bool × Bool)}, AllEq l → allEqB l = true
  | [], _ => rfl
  | (a, b) :: r, h => by
    obtain ⟨h1, h2⟩ := h
    subst h1
    simp [allEqB, allEqB_of h2]
theorem allEqB_to : ∀ {l : List (Bool × Bool)}, allEqB l = true → AllEq l
  | [], _ => trivial
  | (a, b) :: r, h => by
    simp only [allEqB, Bool.and_eq_true, beq_iff_eq] at h
    exact ⟨h.1, allEqB_to h.2⟩
/-- what is done under a guard -/
def guardO {α : Type} (l : List (Bool × Bool)) (x : Option α) (d : α) : Option α := bif allEqB l then x else some d
theorem guardO_not {α : Type} {l : List (Bool × Bool)} {x : Option α} {d v : α} (h : guardO l x d = some v) (hg : ¬ AllEq l) : v = d := by
  unfold guardO at h
  cases hb : allEqB l with
  | true => exact absurd (allEqB_to hb) hg
  | false => rw [hb] at h; simpa using h.symm
theorem guardO_get {α : Type} {l : List (Bool × Bool)} {x : Option α} {d v : α} (h : guardO l x d = some v) (hg : AllEq l) : x = some v := by
  unfold guardO at h
  rw [allEqB_of hg] at h
  exact h

def getI {α : Type} (l : List α) (n : Int) : Option α := bif decide (0 ≤ n) then l[n.toNat]? else none
def setI {α : Type} (l : List α) (n : Int) (x : α) : Option (List α) := bif decide (0 ≤ n) && decide (n < l.length) then some (l.set n.toNat x) else none
/-- a new slice: B bytes an element -/
def mkI {α : Type} (B : Nat) (n : Int) (d : α) : Option (List α) := bif decide (0 ≤ n) && decide (n * B ≤ 140737488355328) then some (List.replicate n.toNat d) else none
def cutI {α : Type} (l : List α) (lo hi : Int) : Option (List α) := bif decide (0 ≤ lo) && (decide (lo ≤ hi) && decide (hi ≤ l.length)) then some ((l.take hi.toNat).drop lo.toNat) else none
def nzI (n : Int) : Option Unit := bif n == 0 then none else some ()

def bytesO (s : ByteArray) : Option (List Int) := bif decide ((s.size : Int) ≤ 140737488355328) then some (bytesI s) else none
def strO (l : List Int) : Option ByteArray := bif bytesI ⟨(l.map fun n => UInt8.ofNat n.toNat).toArray⟩ == l then some ⟨(l.map fun n => UInt8.ofNat n.toNat).toArray⟩ else none
def byteI (s : ByteArray) (n : Int) : Option UInt8 := bif decide (0 ≤ n) then s.data[n.toNat]? else none
/-- append, where there is room: B bytes an element -/
def appI {α : Type} (B : Nat) (l m : List α) : Option (List α) := bif decide ((l.length + m.length) * B ≤ 140737488355328) then some (l ++ m) else none

section
variable {P : Program} {α : Type}
theorem bytes_get {s : ByteArray} {y : List Int} (h : bytesO s = some y) : Cl.ok P (.room (s.size : Int) (bytesP s) (y.map (pK .u8))) := by
  unfold bytesO at h
  cases hd : decide ((s.size : Int) ≤ 140737488355328) with
  | false => rw [hd] at h; cases h
  | true =>
    rw [hd] at h
    simp only [cond_true, Option.some.injEq] at h
    subst h
    exact ⟨by omega, of_decide_eq_true hd, rfl⟩
theorem bytesZ_get {s : ByteArray} {y : List Int} (h : bytesO s = some y) : Cl.ok P (.roomZ (s.size : Int) (bytesP s) (y.map (pK .u8))) := bytes_get (P := P) h
theorem strb_get {l : List Int} {y : ByteArray} (h : strO l = some y) : Cl.ok P (.strb (l.map (pK .u8)) y) := by
  unfold strO at h
  cases hd : (bytesI ⟨(l.map fun n => UInt8.ofNat n.toNat).toArray⟩ == l) with
  | false => rw [hd] at h; cases h
  | true =>
    rw [hd] at h
    simp only [cond_true, Option.some.injEq] at h
    subst h
    have e := eq_of_beq hd
    show l.map (pK .u8) = _
    conv => lhs; rw [← e]
    unfold bytesI
    rw [List.map_map]; rfl
theorem byte_get {s : ByteArray} {n : Int} {y : UInt8} (h : byteI s n = some y) : Cl.ok P (.byte s n y) := by
  unfold byteI at h
  cases hd : decide (0 ≤ n) with
  | false => rw [hd] at h; cases h
  | true =>
    rw [hd] at h
    exact ⟨of_decide_eq_true hd, h⟩
theorem app_get (enc : α → List Pd) (size : Nat) (hs : ∀ x, (enc x).length = size) {B : Nat} {l m y : List α} (h : appI (B + 1) l m = some y) : Cl.ok P (.app (l.map enc) (m.map enc) size (((l.map enc).length + (m.map enc).length) * (B + 1)) (y.map enc)) := by
  unfold appI at h
  cases hd : decide ((l.length + m.length) * (B + 1) ≤ 140737488355328) with
  | false => rw [hd] at h; cases h
  | true =>
    rw [hd] at h
    simp only [cond_true, Option.some.injEq] at h
    subst h
    refine ⟨by rw [List.length_map, List.length_map]; exact of_decide_eq_true hd, fun r hr => ?_, by rw [List.map_append]⟩
    obtain ⟨x, _, rfl⟩ := List.mem_map.1 hr
    exact hs x
theorem app_get0 (enc : α → List Pd) (size : Nat) (hs : ∀ x, (enc x).length = size) {B : Nat} {m y : List α} (h : appI (B + 1) [] m = some y) : Cl.ok P (.app [] (m.map enc) size ((m.map enc).length * (B + 1)) (y.map enc)) := by
  have := app_get (P := P) enc size hs h
  simpa using this
theorem appS_get (enc : α → List Pd) (size : Nat) (hs : ∀ x, (enc x).length = size) {B : Nat} {l m y : List α} {src : List (List Pd)} (hsrc : src = m.map enc) (h : appI (B + 1) l m = some y) : Cl.ok P (.app (l.map enc) src size (((l.map enc).length + src.length) * (B + 1)) (y.map enc)) := by
  subst hsrc
  exact app_get enc size hs h
theorem appT_get (enc : α → List Pd) (size : Nat) (hs : ∀ x, (enc x).length = size) {B n : Nat} {l m y : List α} {src : List (List Pd)} (hsrc : src = m.map enc) (h : appI (B + 1) (l.take n) m = some y) : Cl.ok P (.app ((l.map enc).take n) src size ((((l.map enc).take n).length + src.length) * (B + 1)) (y.map enc)) := by
  subst hsrc
  rw [← List.map_take]
  exact app_get enc size hs h
theorem row_get {l : List α} {enc : α → List Pd} {n : Int} {x : α} (h : getI l n = some x) : Cl.ok P (.row (l.map enc) n (enc x)) := by
  unfold getI at h
  cases hd : decide (0 ≤ n) with
  | false => rw [hd] at h; cases h
  | true =>
    rw [hd] at h
    simp only [cond_true] at h
    exact ⟨of_decide_eq_true hd, by rw [List.getElem?_map, h]; rfl⟩
theorem idx_get {l : List α} {enc : α → List Pd} {n : Int} {x : α} (h : getI l n = some x) : Cl.ok P (.idx (l.map enc) n (enc x)) := by
  unfold getI at h
  cases hd : decide (0 ≤ n) with
  | false => rw [hd] at h; cases h
  | true =>
    rw [hd] at h
    simp only [cond_true] at h
    exact ⟨of_decide_eq_true hd, by rw [List.getElem?_map, h]; rfl⟩
theorem nz_get {n : Int} {u : Unit} (h : nzI n = some u) : Cl.ok P (.nz n) := by
  unfold nzI at h
  show n ≠ 0
  intro e; subst e; cases h
theorem nz_lit {n : Int} (h : (n == 0) = false) : Cl.ok P (.nz n) := by
  show n ≠ 0
  intro e; subst e; cases h
theorem row_getN {l : List α} {enc : α → List Pd} {n : Int} {x : α} (h : getI l n = some x) : Cl.ok P (.row (l.map enc) ((n.toNat : Nat) : Int) (enc x)) := by
  obtain ⟨h0, h1⟩ := (row_get (P := P) (enc := enc) h : 0 ≤ n ∧ (l.map enc)[n.toNat]? = some (enc x))
  exact ⟨Int.natCast_nonneg _, by rw [Int.toNat_natCast]; exact h1⟩
theorem upd_get {l y : List α} {enc : α → List Pd} {n : Int} {x x' : α} (hx : getI l n = some x) (h : setI l n x' = some y) : Cl.ok P (.upd (l.map enc) n.toNat (enc x) (enc x') (y.map enc)) := by
  obtain ⟨h0, h1⟩ := (row_get (P := P) (enc := enc) hx : 0 ≤ n ∧ (l.map enc)[n.toNat]? = some (enc x))
  refine ⟨h1, ?_⟩
  unfold setI at h
  cases hd : (decide (0 ≤ n) && decide (n < l.length)) with
  | false => rw [hd] at h; cases h
  | true =>
    rw [hd] at h
    simp at h; subst h
    rw [List.map_set]
theorem make_get {enc : α → List Pd} {B : Nat} {n : Int} {d : α} {y : List α} (h : mkI (B + 1) n d = some y) : Cl.ok P (.room (n * (B + 1)) (List.replicate n.toNat (enc d)) (y.map enc)) := by
  unfold mkI at h
  cases hd : (decide (0 ≤ n) && decide (n * ((B + 1 : Nat) : Int) ≤ 140737488355328)) with
  | false => rw [hd] at h; cases h
  | true =>
    rw [hd] at h
    simp at h; subst h
    simp only [Bool.and_eq_true, decide_eq_true_eq] at hd
    refine ⟨Int.mul_nonneg hd.1 (by omega), by have := hd.2; simpa using this, by simp⟩
theorem len_map (l : List α) (enc : α → List Pd) : Cl.ok P (.len ((l.map enc).length : Int) (l.length : Int)) := by
  show ((l.map enc).length : Int) = l.length
  rw [List.length_map]
theorem cut_get (enc : α → List Pd) (size : Nat) (hs : ∀ x, (enc x).length = size) {l y : List α} {lo hi : Int} (h : cutI l lo hi = some y) : Cl.ok P (.cut (l.map enc) size lo hi (y.map enc)) := by
  unfold cutI at h
  cases hd : (decide (0 ≤ lo) && (decide (lo ≤ hi) && decide (hi ≤ l.length))) with
  | false => rw [hd] at h; cases h
  | true =>
    rw [hd] at h
    simp only [cond_true, Option.some.injEq] at h
    simp only [Bool.and_eq_true, decide_eq_true_eq] at hd
    subst h
    refine ⟨hd.1, hd.2.1, by rw [List.length_map]; exact hd.2.2, fun r hr => ?_, by rw [← List.map_take, ← List.map_drop]⟩
    obtain ⟨x, _, rfl⟩ := List.mem_map.1 hr
    exact hs x
theorem cut_get_len (enc : α → List Pd) (size : Nat) (hs : ∀ x, (enc x).length = size) {l y : List α} {lo : Int} (h : cutI l lo (l.length : Int) = some y) : Cl.ok P (.cut (l.map enc) size lo ((l.map enc).length : Int) (y.map enc)) := by
  have : ((l.map enc).length : Int) = l.length := by rw [List.length_map]
  rw [this]; exact cut_get enc size hs h
theorem part_map (l : List α) (enc : α → List Pd) (lo n : Nat) : ((l.map enc).drop lo).take n = ((l.drop lo).take n).map enc := by simp
/-- the bounds of a part -/
def bndI (k : Nat) (lo hi : Int) : Option Unit := bif decide (0 ≤ lo) && (decide (lo ≤ hi) && decide (hi ≤ k)) then some () else none
theorem bnd_get {k : Nat} {lo hi : Int} {u : Unit} {k' : Nat} {hi' : Int} (hk : k' = k) (hh : hi' = hi) (h : bndI k lo hi = some u) : Cl.ok P (.bnd k' lo hi' hi) := by
  subst hk; subst hh
  unfold bndI at h
  cases hd : decide (0 ≤ lo) && (decide (lo ≤ hi') && decide (hi' ≤ k')) with
  | false => rw [hd] at h; cases h
  | true => simp at hd; exact ⟨hd.1, hd.2.1, hd.2.2, rfl⟩
def bnd3I (k : Nat) (lo hi mx : Int) : Option Unit := bif decide (0 ≤ lo) && (decide (lo ≤ hi) && (decide (hi ≤ mx) && decide (mx ≤ k))) then some () else none
theorem bnd3_get {k : Nat} {lo hi mx : Int} {u : Unit} {k' : Nat} (hk : k' = k) (h : bnd3I k lo hi mx = some u) : Cl.ok P (.bnd3 k' lo hi mx) := by
  subst hk
  unfold bnd3I at h
  cases hd : decide (0 ≤ lo) && (decide (lo ≤ hi) && (decide (hi ≤ mx) && decide (mx ≤ k'))) with
  | false => rw [hd] at h; cases h
  | true => simp at hd; exact ⟨hd.1, hd.2.1, hd.2.2.1, hd.2.2.2⟩
/-- append onto a beginning, in place -/
def appPI {α : Type} (l : List α) (n : Nat) (m : List α) : Option (List α) := bif decide (n + m.length ≤ l.length) then some (l.take n ++ (m ++ l.drop (n + m.length))) else none
theorem appP_get (enc : α → List Pd) (size : Nat) (hs : ∀ x, (enc x).length = size) {l m y : List α} {n : Nat} {src : List (List Pd)} (hsrc : src = m.map enc) (h : appPI l n m = some y) :
    Cl.ok P (.appP (l.map enc) src size n (n + m.length) ((l.map enc).take n ++ (src ++ (l.map enc).drop (n + src.length))) (y.map enc)) := by
  subst hsrc
  unfold appPI at h
  cases hd : decide (n + m.length ≤ l.length) with
  | false => rw [hd] at h; cases h
  | true =>
    rw [hd] at h
    simp only [cond_true, Option.some.injEq] at h
    subst h
    simp only [decide_eq_true_eq] at hd
    refine ⟨⟨by simp, by simpa using hd⟩, fun x hx => ?_, by simp⟩
    obtain ⟨z, _, rfl⟩ := List.mem_map.1 hx
    exact hs z
/-- an insertion: B bytes an element -/
def insI {α : Type} (B : Nat) (l : List α) (i : Int) (m : List α) : Option (List α) := bif decide ((l.length + m.length) * B ≤ 140737488355328) then some (l.take i.toNat ++ (m ++ l.drop i.toNat)) else none
/-- zeros in a part -/
def clrI {α : Type} (l : List α) (lo n : Nat) (d : α) : List α := l.take lo ++ (List.replicate n d ++ l.drop (lo + n))
theorem clr_get (enc : α → List Pd) {l : List α} {lo n n' : Nat} {d : α} (hn : n' = n) : Cl.ok P (.eqr ((l.map enc).take lo ++ (List.replicate n' (enc d) ++ (l.map enc).drop (lo + n'))) ((clrI l lo n d).map enc)) := by
  subst hn
  show _ = _
  simp [clrI]
/-- a copy into a part -/
def cpyI {α : Type} (l : List α) (lo n : Nat) (m : List α) : List α := l.take lo ++ (m.take (Nat.min m.length n) ++ l.drop (lo + Nat.min m.length n))
theorem cpy_get (enc : α → List Pd) (size : Nat) (hs : ∀ x, (enc x).length = size) {l m : List α} {lo n n' : Nat} {src : List (List Pd)} (hsrc : src = m.map enc) (hn : n' = n) :
    Cl.ok P (.cpy src size n' (Nat.min m.length n) ((l.map enc).take lo ++ (src.take (Nat.min m.length n) ++ (l.map enc).drop (lo + Nat.min m.length n))) ((cpyI l lo n m).map enc)) := by
  subst hsrc; subst hn
  refine ⟨by simp, fun x hx => ?_, by simp [cpyI]⟩
  obtain ⟨z, _, rfl⟩ := List.mem_map.1 hx
  exact hs z
theorem makez_get {enc : α → List Pd} {B : Nat} {n : Int} {d : α} {y : List α} (h : mkI (B + 1) n d = some y) : Cl.ok P (.roomZ (n * (B + 1)) (List.replicate n.toNat (enc d)) (y.map enc)) := make_get (P := P) (enc := enc) h
theorem appD_get {β : Type} {enc : α → List Pd} {enc2 : β → List Pd} (size : Nat) (hs : ∀ x, (enc2 x).length = size) {B : Nat} {l : List α} {i : Int} {x : α} {off : Nat} {a m y : List β} (hx : getI l i = some x) (ho : (enc x)[off]? = some (.s (a.map enc2))) (h : appI (B + 1) a m = some y) :
    Cl.ok P (.appD (l.map enc) i.toNat (enc x) off (a.map enc2) (m.map enc2) size (((a.map enc2).length + (m.map enc2).length) * (B + 1)) (y.map enc2)) := by
  obtain ⟨_, h1⟩ := row_getN (P := P) (enc := enc) hx
  simp only [Int.toNat_natCast] at h1
  exact ⟨⟨h1, ho⟩, app_get (P := P) enc2 size hs h⟩
theorem updD_get {l y : List α} {enc : α → List Pd} {n : Int} {x x' : α} (hx : getI l n = some x) (h : setI l n x' = some y) : Cl.ok P (.updD (l.map enc) n.toNat n.toNat (enc x) (enc x') (y.map enc)) :=
  ⟨rfl, upd_get (P := P) (enc := enc) hx h⟩
theorem lend_get {l : List α} {enc : α → List Pd} {n : Int} {x : α} {f : FuncId} {args : List AV} {res : AV} (h : Enters P f ∧ CallOk P f args [] res []) (hx : getI l n = some x) : Cl.ok P (.callB f args res (l.map enc) n.toNat (enc x)) := by
  obtain ⟨_, h1⟩ := row_getN (P := P) (enc := enc) hx
  simp only [Int.toNat_natCast] at h1
  exact ⟨h, h1⟩
theorem lend0_get {f : FuncId} {args : List AV} {res : AV} (h : Enters P f ∧ CallOk P f args [] res []) : Cl.ok P (.callB f args res [[]] 0 []) := ⟨h, rfl⟩
theorem row_cnt {l : List α} {enc : α → List Pd} {i : Nat} {x : α} (hx : l[i]? = some x) (hl : (l.map enc).length ≤ maxLen) : Cl.ok P (.row (l.map enc) (cnt 0 i) (enc x)) := by
  have hi : i < l.length := (List.getElem?_eq_some_iff.1 hx).1
  rw [List.length_map] at hl
  have hm : maxLen = 9223372036854775807 := rfl
  rw [cnt_eq (by omega) (by omega)]
  refine ⟨by omega, ?_⟩
  have : ((0 : Int) + (i : Int)).toNat = i := by omega
  rw [this, List.getElem?_map, hx]; rfl
theorem get_cnt {l : List α} {enc : α → List Pd} {i : Nat} {x : α} (hx : l[i]? = some x) (hl : (l.map enc).length ≤ maxLen) : getI l (cnt 0 i) = some x := by
  have hi : i < l.length := (List.getElem?_eq_some_iff.1 hx).1
  rw [List.length_map] at hl
  have hm : maxLen = 9223372036854775807 := rfl
  rw [cnt_eq (by omega) (by omega)]
  unfold getI
  have h1 : decide ((0 : Int) ≤ 0 + (i : Int)) = true := decide_eq_true (by omega)
  have h2 : ((0 : Int) + (i : Int)).toNat = i := by omega
  rw [h1, h2]; exact hx
theorem cnt_lt {l : List α} {enc : α → List Pd} {i : Nat} (hi : i < l.length) (hl : (l.map enc).length ≤ maxLen) : decide (cnt 0 i < (l.length : Int)) = true := by
  rw [List.length_map] at hl
  have hm : maxLen = 9223372036854775807 := rfl
  rw [cnt_eq (by omega) (by omega)]
  exact decide_eq_true (by omega)
theorem cnt_end {l : List α} {enc : α → List Pd} (hl : (l.map enc).length ≤ maxLen) : decide (cnt 0 l.length < (l.length : Int)) = false := by
  rw [List.length_map] at hl
  have hm : maxLen = 9223372036854775807 := rfl
  rw [cnt_eq (by omega) (by omega)]
  exact decide_eq_false (by omega)
end

/-- the pairs that come when k rounds are over -/
def bwUpto (zs : List Int) (k : Nat) : List (Int × Int) := (List.range k).map fun j => (((zs.length - 1 - j : Nat) : Int), (zs[zs.length - 1 - j]?.getD 0))
/-- a list backward, with its indexes -/
def bw (zs : List Int) : List (Int × Int) := bwUpto zs zs.length
/-- behind a loop -/
def andThen {σ τ ρ : Type} (c : Option (Ctl σ τ)) (g : τ → Option ρ) (f : σ → Option ρ) : Option ρ :=
  match c with
  | some (.ret v) => g v
  | some (.next s) => f s
  | some (.brk s) => f s
  | none => none
theorem andThen_inv {σ τ ρ : Type} {c : Option (Ctl σ τ)} {g : τ → Option ρ} {f : σ → Option ρ} {r : ρ} (h : andThen c g f = some r) : ∃ k, c = some k ∧ (∀ v, k = .ret v → g v = some r) ∧ (∀ s, k = .next s → f s = some r) := by
  unfold andThen at h
  split at h
  · exact ⟨_, rfl, fun v e => by cases e; exact h, fun s e => by cases e⟩
  · exact ⟨_, rfl, fun v e => (by cases e), fun s e => by cases e; exact h⟩
  · exact ⟨_, rfl, fun v e => (by cases e), fun s e => by cases e⟩
  · cases h
end Go.SL
