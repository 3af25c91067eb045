/-
  A small logic over the kit's 'Calls': what a value reads as (pure data, own boxes, own slices), and how that is kept while the world grows. No program in sight.
-/
import Derived.WalkKit
import Derived.ProofKit
import Derived.OpenShut
namespace Go.SL

/-- pure data: what one cell of memory that is not written any more reads as -/
inductive Pd where
  | v (x : Value)
  | s (rows : List (List Pd))
  deriving Inhabited

theorem add_block (a : Addr) (n : Nat) : (a.add n).block = a.block := by unfold Addr.add; split <;> rfl
theorem add_zero' (a : Addr) : a.add 0 = a := by simp [Addr.add]
theorem add_add (a : Addr) (i j : Nat) : (a.add i).add j = a.add (i + j) := by
  unfold Addr.add
  grind
theorem add_mk (b o n : Nat) : (⟨b, o, none⟩ : Addr).add n = ⟨b, o + n, none⟩ := by
  unfold Addr.add; split <;> simp_all

inductive RdP (S : Nat → Prop) (w : World) : Value → Pd → Prop
  | v (x : Value) (h : x.oneCell' = true) : RdP S w x (.v x)
  | s (a : Option Addr) (ad : Addr) (cap size : Nat) (rows : List (List Pd)) (xs : Nat → Nat → Value)
      (hc : rows.length ≤ cap) (hm : cap ≤ maxLen) (hz : a = none → cap = 0)
      (hsz : ∀ row, row ∈ rows → row.length = size)
      (hx : ∀ (i : Nat) row, rows[i]? = some row → ∀ (j : Nat) d, row[j]? = some d → a = some ad ∧ S ad.block ∧ w.cell? (ad.add (i * size + j)) = some (xs i j))
      (hr : ∀ (i : Nat) row, rows[i]? = some row → ∀ (j : Nat) d, row[j]? = some d → RdP S w (xs i j) d) :
      RdP S w (.slice a rows.length cap) (.s rows)

section
variable {S S' : Nat → Prop} {w w' : World}

theorem cell_same {ad : Addr} {n : Nat} (hw : w'.heap[ad.block]? = w.heap[ad.block]?) : w'.cell? (ad.add n) = w.cell? (ad.add n) :=
  World.cell?_of_block (by rw [add_block]; exact hw)

theorem RdP.mono {x : Value} {d : Pd} (h : RdP S w x d) (hS : ∀ b, S b → S' b) (hw : ∀ b, S b → w'.heap[b]? = w.heap[b]?) : RdP S' w' x d := by
  induction h with
  | v x h => exact .v x h
  | s a ad cap size rows xs hc hm hz hsz hx hr ih =>
    refine .s a ad cap size rows xs hc hm hz hsz (fun i row hi j d hj => ?_) (fun i row hi j d hj => ih i row hi j d hj)
    obtain ⟨h1, h2, h3⟩ := hx i row hi j d hj
    exact ⟨h1, hS _ h2, by rw [cell_same (hw _ h2)]; exact h3⟩

theorem RdP.one {x : Value} {d : Pd} (h : RdP S w x d) : x.oneCell' = true := by
  cases h with
  | v x h => exact h
  | s => rfl

/-- the cells from an address on read so -/
def CellsP (S : Nat → Prop) (w : World) (ad : Addr) (ds : List Pd) : Prop :=
  ∀ (j : Nat) d, ds[j]? = some d → ∃ x, S ad.block ∧ w.cell? (ad.add j) = some x ∧ RdP S w x d

theorem CellsP.mono {ad : Addr} {ds : List Pd} (h : CellsP S w ad ds) (hS : ∀ b, S b → S' b) (hw : ∀ b, S b → w'.heap[b]? = w.heap[b]?) : CellsP S' w' ad ds := by
  intro j d hj
  obtain ⟨x, h1, h2, h3⟩ := h j d hj
  exact ⟨x, hS _ h1, by rw [cell_same (hw _ h1)]; exact h2, h3.mono hS hw⟩

theorem CellsP.drop {ad : Addr} {ds : List Pd} (h : CellsP S w ad ds) (k : Nat) : CellsP S w (ad.add k) (ds.drop k) := by
  intro j d hj
  rw [List.getElem?_drop] at hj
  obtain ⟨x, h1, h2, h3⟩ := h _ d hj
  exact ⟨x, by rw [add_block]; exact h1, by rw [add_add]; exact h2, h3⟩

theorem CellsP.take {ad : Addr} {ds : List Pd} (h : CellsP S w ad ds) (k : Nat) : CellsP S w ad (ds.take k) := by
  intro j d hj
  rw [List.getElem?_take] at hj
  split at hj
  · exact h _ d hj
  · cases hj

/-- a row of a slice -/
theorem RdP.row {a : Option Addr} {n cap : Nat} {rows : List (List Pd)} (h : RdP S w (.slice a n cap) (.s rows)) {i : Nat} {row : List Pd} (hi : rows[i]? = some row) :
    i < n ∧ (row ≠ [] → ∃ ad, a = some ad ∧ CellsP S w (ad.add (i * row.length)) row) := by
  cases h with
  | s _ ad _ size _ xs hc hm hz hsz hx hr =>
    have hs : row.length = size := hsz row (List.mem_of_getElem? hi)
    refine ⟨(List.getElem?_eq_some_iff.1 hi).1, fun hne => ?_⟩
    obtain ⟨d0, h0⟩ : ∃ d, row[0]? = some d := by
      cases row with
      | nil => exact absurd rfl hne
      | cons d l => exact ⟨d, rfl⟩
    refine ⟨ad, (hx i row hi 0 d0 h0).1, fun j d hj => ?_⟩
    obtain ⟨_, h2, h3⟩ := hx i row hi j d hj
    exact ⟨xs i j, by rw [add_block]; exact h2, by rw [add_add, hs]; exact h3, hr i row hi j d hj⟩

theorem RdP.slice_form {x : Value} {rows : List (List Pd)} (h : RdP S w x (.s rows)) : ∃ a cap, x = .slice a rows.length cap ∧ rows.length ≤ cap ∧ cap ≤ maxLen := by
  cases h with
  | s a ad cap size rows xs hc hm => exact ⟨a, cap, rfl, hc, hm⟩

theorem RdP.v_form {x y : Value} (h : RdP S w x (.v y)) : x = y := by
  cases h; rfl
end

/-- what one cell, or a one-cell temporary, reads as -/
inductive D where
  | p (x : Pd)
  | o (i off : Nat)
  | os (i : Nat)
  | oe (i k size off : Nat)
  | osb (i lo n size : Nat)
  | oi (i g k size off : Nat)
  | ip (cells : List Pd)
  | fn (f : Fn) (first caps : List D)
  | any
  | nq (rows : List (List Pd))
  | fb (f : Fn) (bag : List Pd)
  deriving Inhabited

inductive Rd (S : Nat → Prop) (w : World) (ρ : List Value) : Value → D → Prop
  | p {x : Value} {d : Pd} (h : RdP S w x d) : Rd S w ρ x (.p d)
  | o {i b off : Nat} (h : ρ[i]? = some (.pointer (some ⟨b, 0, none⟩))) : Rd S w ρ (.pointer (some ⟨b, off, none⟩)) (.o i off)
  | os {i : Nat} {v : Value} (h : ρ[i]? = some v) (h1 : v.oneCell' = true) : Rd S w ρ v (.os i)
  | oe {i k size off b o len cap : Nat} (h : ρ[i]? = some (.slice (some ⟨b, o, none⟩) len cap)) : Rd S w ρ (.pointer (some ⟨b, o + k * size + off, none⟩)) (.oe i k size off)
  | osb {i lo n size q : Nat} {a : Option Addr} {len cap : Nat} (h : ρ[i]? = some (.slice a len cap)) (hl : lo + n ≤ len) (hc : lo ≤ cap) (hq : q ≤ lo * size) (hq2 : lo < cap → q = lo * size) : Rd S w ρ (.slice (a.map (·.add q)) n (cap - lo)) (.osb i lo n size)
  | oi {i g k size off : Nat} {f : Fn} {xs cs : Array Value} {v : Value} (h : ρ[g]? = some (.func f xs cs)) (hx : xs[k * size + off]? = some v) (h1 : v.oneCell' = true) : Rd S w ρ v (.oi i g k size off)
  | ip {ad : Addr} {ds : List Pd} (h : CellsP S w ad ds) : Rd S w ρ (.pointer (some ad)) (.ip ds)
  | fn {f : Fn} {xs cs : List Value} {first caps : List D} (hl : xs.length = first.length) (hm : cs.length = caps.length)
      (hx : ∀ (j : Nat) x d, xs[j]? = some x → first[j]? = some d → Rd S w ρ x d) (hc : ∀ (j : Nat) x d, cs[j]? = some x → caps[j]? = some d → Rd S w ρ x d) :
      Rd S w ρ (.func f xs.toArray cs.toArray) (.fn f first caps)
  | any {v : Value} (h1 : v.oneCell' = true) : Rd S w ρ v .any
  | nq {b : Bool} {rows : List (List Pd)} (h : b = true → rows = []) : Rd S w ρ (.bool b) (.nq rows)
  | fb {f : Fn} {vs : List Value} {ps : List Pd} (hl : vs.length = ps.length) (h : ∀ (j : Nat) x d, vs[j]? = some x → ps[j]? = some d → RdP S w x d) : Rd S w ρ (.func f #[.agg vs.toArray] #[]) (.fb f ps)

def Pre (ρ ρ' : List Value) : Prop := ∀ (i : Nat) v, ρ[i]? = some v → ρ'[i]? = some v
theorem Pre.refl (ρ : List Value) : Pre ρ ρ := fun _ _ h => h
theorem Pre.append (ρ l : List Value) : Pre ρ (ρ ++ l) := fun i v h => by
  grind
theorem Pre.trans {a b c : List Value} (h : Pre a b) (k : Pre b c) : Pre a c := fun i v e => k i v (h i v e)

/-- the same, but for places that are not born yet -/
def PreA (ρ ρ' : List Value) : Prop := ∀ (i : Nat) v, ρ[i]? = some v → v.oneCell' = true → ρ'[i]? = some v
theorem Pre.a {a b : List Value} (h : Pre a b) : PreA a b := fun i v e _ => h i v e

section
variable {S S' : Nat → Prop} {w w' : World} {ρ ρ' : List Value}
theorem Rd.monoA {x : Value} {d : D} (h : Rd S w ρ x d) (hS : ∀ b, S b → S' b) (hw : ∀ b, S b → w'.heap[b]? = w.heap[b]?) (hρ : PreA ρ ρ') : Rd S' w' ρ' x d := by
  induction h with
  | p h => exact .p (h.mono hS hw)
  | o h => exact .o (hρ _ _ h rfl)
  | os h h1 => exact .os (hρ _ _ h h1) h1
  | oe h => exact .oe (hρ _ _ h rfl)
  | osb h hl hc hq hq2 => exact .osb (hρ _ _ h rfl) hl hc hq hq2
  | any h1 => exact .any h1
  | nq h => exact .nq h
  | oi h hx h1 => exact .oi (hρ _ _ h rfl) hx h1
  | ip h => exact .ip (h.mono hS hw)
  | fn hl hm _ _ ih1 ih2 => exact .fn hl hm ih1 ih2
  | fb hl h => exact .fb hl fun j x d h1 h2 => (h j x d h1 h2).mono hS hw
theorem Rd.mono {x : Value} {d : D} (h : Rd S w ρ x d) (hS : ∀ b, S b → S' b) (hw : ∀ b, S b → w'.heap[b]? = w.heap[b]?) (hρ : Pre ρ ρ') : Rd S' w' ρ' x d := h.monoA hS hw hρ.a
theorem Rd.one {x : Value} {d : D} (h : Rd S w ρ x d) : x.oneCell' = true := by
  cases h with
  | p h => exact h.one
  | os h h1 => exact h1
  | oi h hx h1 => exact h1
  | any h1 => exact h1
  | _ => rfl
end

/-- two lists, element by element -/
def All2 {α β : Type} (R : α → β → Prop) : List α → List β → Prop
  | [], [] => True
  | x :: xs, d :: ds => R x d ∧ All2 R xs ds
  | _, _ => False

section
variable {α β : Type} {R R' : α → β → Prop}
theorem All2.length : ∀ {xs : List α} {ds : List β}, All2 R xs ds → xs.length = ds.length
  | [], [], _ => rfl
  | _ :: _, _ :: _, h => by simp [All2.length h.2]
  | [], _ :: _, h => h.elim
  | _ :: _, [], h => h.elim
theorem All2.mono (hm : ∀ x d, R x d → R' x d) : ∀ {xs : List α} {ds : List β}, All2 R xs ds → All2 R' xs ds
  | [], [], _ => trivial
  | _ :: _, _ :: _, h => ⟨hm _ _ h.1, All2.mono hm h.2⟩
  | [], _ :: _, h => h.elim
  | _ :: _, [], h => h.elim
theorem All2.get : ∀ {xs : List α} {ds : List β}, All2 R xs ds → ∀ {j : Nat} {d : β}, ds[j]? = some d → ∃ x, xs[j]? = some x ∧ R x d
  | [], [], _, j, d, hj => by simp at hj
  | x :: xs, d' :: ds, h, 0, d, hj => by grind [All2]
  | x :: xs, d' :: ds, h, j + 1, d, hj => by simp at hj ⊢; exact All2.get h.2 hj
  | [], _ :: _, h, _, _, _ => h.elim
  | _ :: _, [], h, _, _, _ => h.elim
theorem All2.of_get : ∀ {xs : List α} {ds : List β}, xs.length = ds.length → (∀ (j : Nat) x d, xs[j]? = some x → ds[j]? = some d → R x d) → All2 R xs ds
  | [], [], _, _ => trivial
  | x :: xs, d :: ds, hl, h => ⟨h 0 x d rfl rfl, All2.of_get (by simpa using hl) (fun j x' d' hx hd => h (j + 1) x' d' (by simpa using hx) (by simpa using hd))⟩
  | [], _ :: _, hl, _ => by simp at hl
  | _ :: _, [], hl, _ => by simp at hl
theorem All2.both {xs : List α} {ds : List β} (h : All2 R xs ds) {j : Nat} {x : α} {d : β} (hx : xs[j]? = some x) (hd : ds[j]? = some d) : R x d := by
  obtain ⟨x', h1, h2⟩ := h.get hd
  rw [hx] at h1; cases h1; exact h2
theorem All2.append {xs xs' : List α} {ds ds' : List β} (h : All2 R xs ds) (h' : All2 R xs' ds') : All2 R (xs ++ xs') (ds ++ ds') := by
  induction xs generalizing ds with
  | nil => grind [All2]
  | cons x xs ih => cases ds with
    | nil => exact h.elim
    | cons d ds => exact ⟨h.1, ih h.2⟩
theorem All2.take {xs : List α} {ds : List β} (h : All2 R xs ds) (k : Nat) : All2 R (xs.take k) (ds.take k) := by
  grind [All2.of_get, All2.length, All2.both]
theorem All2.drop {xs : List α} {ds : List β} (h : All2 R xs ds) (k : Nat) : All2 R (xs.drop k) (ds.drop k) := by
  grind [All2.of_get, All2.length, All2.both]
theorem All2.set {xs : List α} {ds : List β} (h : All2 R xs ds) (k : Nat) {x : α} {d : β} (hR : R x d) : All2 R (xs.set k x) (ds.set k d) := by
  grind [All2.of_get, All2.length, All2.both]
theorem All2.map_right {γ : Type} {f : γ → β} {R2 : α → γ → Prop} {xs : List α} {ds : List γ} (h : All2 R2 xs ds) (hm : ∀ x d, R2 x d → R x (f d)) : All2 R xs (ds.map f) := by
  grind [All2.of_get, All2.length, All2.both]
end

/-- what a temporary reads as -/
inductive AV where
  | d (x : D)
  | agg (ds : List D)
  | tup (l : List AV)
  deriving Inhabited

inductive RdA (S : Nat → Prop) (w : World) (ρ : List Value) : Value → AV → Prop
  | d {x : Value} {y : D} (h : Rd S w ρ x y) : RdA S w ρ x (.d y)
  | agg {vs : List Value} {ds : List D} (h : All2 (Rd S w ρ) vs ds) : RdA S w ρ (.agg vs.toArray) (.agg ds)
  | tup {vs : List Value} {l : List AV} (hl : vs.length = l.length) (h : ∀ (j : Nat) x a, vs[j]? = some x → l[j]? = some a → RdA S w ρ x a) : RdA S w ρ (.tuple vs.toArray) (.tup l)

section
variable {S S' : Nat → Prop} {w w' : World} {ρ ρ' : List Value}
theorem RdA.monoA {x : Value} {d : AV} (h : RdA S w ρ x d) (hS : ∀ b, S b → S' b) (hw : ∀ b, S b → w'.heap[b]? = w.heap[b]?) (hρ : PreA ρ ρ') : RdA S' w' ρ' x d := by
  induction h with
  | d h => exact .d (h.monoA hS hw hρ)
  | agg h => exact .agg (h.mono fun _ _ h => h.monoA hS hw hρ)
  | tup hl _ ih => exact .tup hl ih
theorem RdA.mono {x : Value} {d : AV} (h : RdA S w ρ x d) (hS : ∀ b, S b → S' b) (hw : ∀ b, S b → w'.heap[b]? = w.heap[b]?) (hρ : Pre ρ ρ') : RdA S' w' ρ' x d := h.monoA hS hw hρ.a
theorem RdA.d_inv {x : Value} {y : D} (h : RdA S w ρ x (.d y)) : Rd S w ρ x y := by cases h; assumption
theorem RdA.agg_inv {x : Value} {ds : List D} (h : RdA S w ρ x (.agg ds)) : ∃ vs : List Value, x = .agg vs.toArray ∧ All2 (Rd S w ρ) vs ds := by
  cases h with | agg h => exact ⟨_, rfl, h⟩
theorem RdA.exact_inv {x y : Value} (h : RdA S w ρ x (.d (.p (.v y)))) : x = y := by
  cases h with | d h => cases h with | p h => exact h.v_form
end

/-- what belongs to the running function alone -/
inductive Res where
  | box (t : TypeId) (cells : List D)
  | sl (e : TypeId) (size : Nat) (rows : List (List Pd))
  | zsl (e : TypeId) (size : Nat) (rows : List (List Pd))
  | dsl (e : TypeId) (size : Nat) (g : Nat)
  | gh (size : Nat) (tys : List (TypeId × Nat)) (rows : List (List Pd)) (hole : Option (Nat × Nat))
  | non
  | vec (e : TypeId) (size : Nat) (cells : List D)
  deriving Inhabited

/-- the types whose rows may be marked by a conversion (typed anew for each seat) -/
def markT : TypeId → Bool := (fun t => Nat.beq t 5)
/-- a row of variables that may be written -/
def Blk (w : World) (b : Nat) (vs : Array Value) (e : TypeId) : Prop := ∃ fr : Nat × Nat, w.heap[b]? = some (.cells vs e fr) ∧ (fr.1 = fr.2 ∨ vs.size ≤ fr.1) ∧ (markT e = false → fr = (0, 0))
theorem Blk.of {w : World} {b : Nat} {vs : Array Value} {e : TypeId} (h : w.heap[b]? = some (.cells vs e (0, 0))) : Blk w b vs e := ⟨_, h, .inl rfl, fun _ => rfl⟩
theorem Blk.zero {w : World} {b : Nat} {vs : Array Value} {e : TypeId} (h : Blk w b vs e) (hm : markT e = false) : w.heap[b]? = some (.cells vs e (0, 0)) := by
  obtain ⟨fr, h1, _, h3⟩ := h
  rw [h1, h3 hm]
theorem Blk.mono {w w' : World} {b : Nat} {vs : Array Value} {e : TypeId} (h : Blk w b vs e) (hf : w'.heap[b]? = w.heap[b]?) : Blk w' b vs e := by
  obtain ⟨fr, h1, h2⟩ := h
  exact ⟨fr, by rw [hf]; exact h1, h2⟩
/-- a slice that is ours: its block, its rows -/
def slOk (S : Nat → Prop) (w : World) (e : TypeId) (size : Nat) (rows : List (List Pd)) (h : Value) : Prop :=
  (h = .slice none 0 0 ∧ rows = []) ∨
    ∃ b o cap vs, h = .slice (some ⟨b, o, none⟩) rows.length cap ∧ Blk w b vs e ∧ rows.length ≤ cap ∧ cap ≤ maxLen ∧ o + cap * size ≤ vs.size ∧
      (∀ row, row ∈ rows → row.length = size) ∧
      ∀ (i : Nat) row, rows[i]? = some row → ∀ (j : Nat) d, row[j]? = some d → ∃ x, vs[o + i * size + j]? = some x ∧ RdP S w x d
def noSlice : Value → Prop
  | .slice (some _) _ _ => False
  | _ => True
/-- fresh zeros: every slice in them is the exact nil -/
def zCell (x : Value) : Pd → Prop
  | .v y => x = y ∧ y.oneCell' = true ∧ noSlice y
  | .s r => x = .slice none 0 0 ∧ r = []
def zOk (w : World) (e : TypeId) (size : Nat) (rows : List (List Pd)) (h : Value) : Prop :=
  (h = .slice none 0 0 ∧ rows = []) ∨
    ∃ b o cap vs, h = .slice (some ⟨b, o, none⟩) rows.length cap ∧ w.heap[b]? = some (.cells vs e (0, 0)) ∧ rows.length ≤ cap ∧ cap ≤ maxLen ∧ o + cap * size ≤ vs.size ∧
      (∀ row, row ∈ rows → row.length = size) ∧
      ∀ (i : Nat) row, rows[i]? = some row → ∀ (j : Nat) d, row[j]? = some d → ∃ x, vs[o + i * size + j]? = some x ∧ zCell x d
def isHole (size : Nat) (hole : Option (Nat × Nat)) (k : Nat) : Prop := ∃ p, hole = some p ∧ k = p.1 * size + p.2
/-- the cells of a slice whose inner slices are ours: what they read as -/
def gCell (S : Nat → Prop) (w : World) (tys : List (TypeId × Nat)) (j : Nat) (hl : Prop) (x : Value) : Pd → Prop
  | .v y => x = y ∧ y.oneCell' = true ∧ noSlice y
  | .s r => x.oneCell' = true ∧ (¬ hl → ∃ e s, tys[j]? = some (e, s) ∧ slOk S w e s r x)
def gOk (S : Nat → Prop) (w : World) (size : Nat) (tys : List (TypeId × Nat)) (rows : List (List Pd)) (hole : Option (Nat × Nat)) (xs : Array Value) : Prop :=
  (∀ row, row ∈ rows → row.length = size) ∧ xs.size = rows.length * size ∧
  (∀ (i : Nat) row, rows[i]? = some row → ∀ (j : Nat) d, row[j]? = some d → ∃ x, xs[i * size + j]? = some x ∧ gCell S w tys j (isHole size hole (i * size + j)) x d) ∧
  ∀ (k1 k2 : Nat) a1 n1 c1 a2 n2 c2, k1 ≠ k2 → ¬ isHole size hole k1 → ¬ isHole size hole k2 → xs[k1]? = some (.slice (some a1) n1 c1) → xs[k2]? = some (.slice (some a2) n2 c2) → a1.block ≠ a2.block

/-- a slice of ours whose cells may lead to things of ours -/
def vOk (S : Nat → Prop) (w : World) (ρ : List Value) (e size : Nat) (cells : List D) (h : Value) : Prop :=
  ∃ b o len cap vs, h = .slice (some ⟨b, o, none⟩) len cap ∧ Blk w b vs e ∧ (cells.length = len * size ∧ 0 < size ∧ len ≤ cap ∧ cap ≤ maxLen ∧ o + cap * size ≤ vs.size) ∧
    All2 (Rd S w ρ) ((vs.toList.drop o).take (len * size)) cells
def Res.ok0 (S : Nat → Prop) (w : World) (ρ : List Value) (h : Value) : Res → Prop
  | .box t cells => ∃ b vs, h = .pointer (some ⟨b, 0, none⟩) ∧ w.heap[b]? = some (.cells vs t (0, 0)) ∧ All2 (Rd S w ρ) vs.toList cells
  | .sl e size rows => slOk S w e size rows h
  | .zsl e size rows => zOk w e size rows h
  | .dsl e size g => ∃ f xs cs, ρ[g]? = some (.func f xs cs) ∧ ((h = .slice none 0 0 ∧ xs.size = 0) ∨
      ∃ b o len cap vs, h = .slice (some ⟨b, o, none⟩) len cap ∧ w.heap[b]? = some (.cells vs e (0, 0)) ∧ len ≤ cap ∧ cap ≤ maxLen ∧ o + cap * size ≤ vs.size ∧ xs.size = len * size ∧
        ∀ (k : Nat) x, xs[k]? = some x → vs[o + k]? = some x)
  | .gh size tys rows hole => ∃ f xs cs, h = .func f xs cs ∧ gOk S w size tys rows hole xs
  | .non => True
  | .vec e size cells => vOk S w ρ e size cells h

/-- it is so, or it is not born yet -/
def Res.ok (S : Nat → Prop) (w : World) (ρ : List Value) (h : Value) (r : Res) : Prop := h.oneCell' = false ∨ r.ok0 S w ρ h
theorem Res.ok.live {S : Nat → Prop} {w : World} {ρ : List Value} {h : Value} {r : Res} (k : r.ok S w ρ h) (h1 : h.oneCell' = true) : r.ok0 S w ρ h := by
  grind [Res.ok]

def slFoot (h : Value) (b : Nat) : Prop := match h with
  | .slice (some a) _ _ => a.block = b
  | _ => False
def Res.foot (h : Value) (r : Res) (b : Nat) : Prop := match r with
  | .box .. => match h with
    | .pointer (some a) => a.block = b
    | _ => False
  | .sl .. => match h with
    | .slice (some a) _ _ => a.block = b
    | _ => False
  | .zsl .. => slFoot h b
  | .dsl .. => slFoot h b
  | .gh size _ _ hole => match h with
    | .func _ xs _ => ∃ (k : Nat) (x : Value), xs[k]? = some x ∧ ¬ isHole size hole k ∧ slFoot x b
    | _ => False
  | .non => False
  | .vec .. => slFoot h b

section
variable {S S' : Nat → Prop} {w w' : World} {ρ ρ' : List Value}
theorem Res.foot_dead {r : Res} {h : Value} (hd : h.oneCell' = false) (b : Nat) : ¬ r.foot h b := by
  intro hf
  cases h <;> first | (cases r <;> exact hf) | cases hd
theorem slOk.mono {e size : Nat} {rows : List (List Pd)} {h : Value} (k : slOk S w e size rows h) (hS : ∀ b, S b → S' b) (hw : ∀ b, S b → w'.heap[b]? = w.heap[b]?)
    (hf : ∀ b, slFoot h b → w'.heap[b]? = w.heap[b]?) : slOk S' w' e size rows h := by
  rcases k with h0 | ⟨b, o, cap, vs, rfl, hb, h1, h2, h3, h4, h5⟩
  · exact .inl h0
  · refine .inr ⟨b, o, cap, vs, rfl, hb.mono (hf b rfl), h1, h2, h3, h4, fun i row hi j d hj => ?_⟩
    obtain ⟨x, hx, hr⟩ := h5 i row hi j d hj
    exact ⟨x, hx, hr.mono hS hw⟩
theorem gOk.mono {size : Nat} {tys : List (TypeId × Nat)} {rows : List (List Pd)} {hole : Option (Nat × Nat)} {xs : Array Value} (k : gOk S w size tys rows hole xs) (hS : ∀ b, S b → S' b) (hw : ∀ b, S b → w'.heap[b]? = w.heap[b]?)
    (hf : ∀ b, (∃ (k : Nat) (x : Value), xs[k]? = some x ∧ ¬ isHole size hole k ∧ slFoot x b) → w'.heap[b]? = w.heap[b]?) : gOk S' w' size tys rows hole xs := by
  obtain ⟨k1, k2, k3, k4⟩ := k
  refine ⟨k1, k2, fun i row hi j d hj => ?_, k4⟩
  obtain ⟨x, hx, hg⟩ := k3 i row hi j d hj
  refine ⟨x, hx, ?_⟩
  cases d with
  | v y => exact hg
  | s r =>
    refine ⟨hg.1, fun hn => ?_⟩
    obtain ⟨e, s, h1, h2⟩ := hg.2 hn
    exact ⟨e, s, h1, h2.mono hS hw fun b hb => hf b ⟨_, x, hx, hn, hb⟩⟩
theorem vOk.monoA {e size : Nat} {cells : List D} {h : Value} (k : vOk S w ρ e size cells h) (hS : ∀ b, S b → S' b) (hw : ∀ b, S b → w'.heap[b]? = w.heap[b]?) (hρ : PreA ρ ρ')
    (hf : ∀ b, slFoot h b → w'.heap[b]? = w.heap[b]?) : vOk S' w' ρ' e size cells h := by
  obtain ⟨b, o, len, cap, vs, rfl, hb, hk, hc⟩ := k
  exact ⟨b, o, len, cap, vs, rfl, hb.mono (hf b rfl), hk, hc.mono fun _ _ h => h.monoA hS hw hρ⟩
theorem Res.ok0.monoA {r : Res} {h : Value} (k : r.ok0 S w ρ h) (hS : ∀ b, S b → S' b) (hw : ∀ b, S b → w'.heap[b]? = w.heap[b]?) (hρ : PreA ρ ρ')
    (hf : ∀ b, r.foot h b → w'.heap[b]? = w.heap[b]?) : r.ok0 S' w' ρ' h := by
  cases r with
  | box t cells =>
    obtain ⟨b, vs, rfl, hb, hc⟩ := k
    exact ⟨b, vs, rfl, by rw [hf b rfl]; exact hb, hc.mono fun _ _ h => h.monoA hS hw hρ⟩
  | sl e size rows => exact slOk.mono k hS hw fun b hb => hf b hb
  | zsl e size rows =>
    rcases k with h0 | ⟨b, o, cap, vs, rfl, hb, h1⟩
    · exact .inl h0
    · exact .inr ⟨b, o, cap, vs, rfl, by rw [hf b rfl]; exact hb, h1⟩
  | dsl e size g =>
    obtain ⟨f, xs, cs, hg, k⟩ := k
    refine ⟨f, xs, cs, hρ _ _ hg rfl, ?_⟩
    rcases k with h0 | ⟨b, o, len, cap, vs, rfl, hb, h1⟩
    · exact .inl h0
    · exact .inr ⟨b, o, len, cap, vs, rfl, by rw [hf b rfl]; exact hb, h1⟩
  | gh size tys rows hole =>
    obtain ⟨f, xs, cs, rfl, k⟩ := k
    exact ⟨f, xs, cs, rfl, k.mono hS hw fun b hb => hf b hb⟩
  | non => trivial
  | vec e size cells => exact vOk.monoA k hS hw hρ hf
theorem Res.ok.monoA {r : Res} {h : Value} (k : r.ok S w ρ h) (hS : ∀ b, S b → S' b) (hw : ∀ b, S b → w'.heap[b]? = w.heap[b]?) (hρ : PreA ρ ρ')
    (hf : ∀ b, r.foot h b → w'.heap[b]? = w.heap[b]?) : r.ok S' w' ρ' h := k.imp id fun k => k.monoA hS hw hρ hf
theorem Res.ok.mono {r : Res} {h : Value} (k : r.ok S w ρ h) (hS : ∀ b, S b → S' b) (hw : ∀ b, S b → w'.heap[b]? = w.heap[b]?) (hρ : Pre ρ ρ')
    (hf : ∀ b, r.foot h b → w'.heap[b]? = w.heap[b]?) : r.ok S' w' ρ' h := k.monoA hS hw hρ.a hf
end

/-- where a function began: the world, what may be read for ever, which blocks it may write -/
structure Ctx where
  w : World
  S : Nat → Prop
  F : Nat → Prop
  h : List Value
  df : List Deferred

/-- package variables that are never written: what their cells read as (typed anew for each seat) -/
def globTab : Nat → Option (List Pd) := (fun g => match g with | 4 => some (([0, 1, 56, 2, 57, 49, 28, 3, 61, 58, 42, 50, 38, 29, 17, 4, 62, 47, 59, 36, 45, 43, 51, 22, 53, 39, 33, 30, 24, 18, 12, 5, 63, 55, 48, 27, 60, 41, 37, 16, 46, 35, 44, 21, 52, 32, 23, 11, 54, 26, 40, 15, 34, 20, 31, 10, 25, 14, 19, 9, 13, 8, 7, 6] : List Int).map fun i => Pd.v (.int .u8 i)) | _ => none)
/-- package variables that hold an error each (typed anew for each seat) -/
def globIf : Nat → Bool := (fun _ => false)
def GlOk (S : Nat → Prop) (w : World) : Prop := (∀ (g : Nat) cells, globTab g = some cells → CellsP S w ⟨g, 0, none⟩ cells ∧ S g ∧ ∃ vs t fr, w.heap[g]? = some (.cells vs t fr) ∧ vs.size = cells.length) ∧
  ∀ g, globIf g = true → S g ∧ ∃ u p t fr, w.heap[g]? = some (.cells #[.iface u p] t fr)
theorem GlOk.mono {S S' : Nat → Prop} {w w' : World} (h : GlOk S w) (hS : ∀ b, S b → S' b) (hw : ∀ b, S b → w'.heap[b]? = w.heap[b]?) : GlOk S' w' := ⟨fun g cells hg => by
  obtain ⟨h1, h2, h3⟩ := h.1 g cells hg
  exact ⟨h1.mono hS hw, hS _ h2, by rw [hw _ h2]; exact h3⟩, fun g hg => by
  obtain ⟨h1, h2⟩ := h.2 g hg
  grind⟩
/-- marks that a range over a function has left among the deferred calls -/
def MarkOk (C : Ctx) : Prop := ∀ d, d ∈ C.df → ∃ D, d = { target := .collected D, args := #[] } ∧ D < C.w.heap.size ∧ ¬ C.F D ∧ ¬ C.S D ∧ C.w.heap[D]? = some (.deferred (some []))
def CtxOk (C : Ctx) : Prop := GlOk C.S C.w ∧ (∀ b, C.S b → b < C.w.heap.size ∧ ¬ C.F b) ∧ MarkOk C

/-- are the draws counted? (typed anew for each seat) -/
def drw : Bool := false
/-- the same tape; the draws go on -/
def Tp (w w' : World) : Prop := w'.tape = w.tape ∧ (drw = true → w.drawn ≤ w'.drawn)
theorem Tp.trans {a b c : World} (h : Tp b c) (k : Tp a b) : Tp a c := ⟨h.1.trans k.1, fun e => Nat.le_trans (k.2 e) (h.2 e)⟩
structure Inv (C : Ctx) (S : Nat → Prop) (w : World) (ρ : List Value) (R : List Res) : Prop where
  len : ρ.length = R.length
  ok : ∀ (i : Nat) r h, R[i]? = some r → ρ[i]? = some h → r.ok S w ρ h
  dis : ∀ (i j : Nat) r r' h h' b, i ≠ j → R[i]? = some r → R[j]? = some r' → ρ[i]? = some h → ρ[j]? = some h' → r.foot h b → r'.foot h' b → False
  own : ∀ (i : Nat) r h b, R[i]? = some r → ρ[i]? = some h → r.foot h b → ¬ S b ∧ b < w.heap.size ∧ (C.F b ∨ C.w.heap.size ≤ b)
  sub : ∀ b, C.S b → S b
  sup : ∀ b, S b → b < w.heap.size ∧ (C.S b ∨ C.F b ∨ C.w.heap.size ≤ b)
  frm : ∀ b, b < C.w.heap.size → ¬ C.F b → w.heap[b]? = C.w.heap[b]?
  size : C.w.heap.size ≤ w.heap.size
  os : w.os = C.w.os
  tape : Tp C.w w
  output : w.output = C.w.output
  pre : Pre C.h ρ
  gl : CtxOk C

/-- the blocks of what is handed to a function -/
def feet (ρ : List Value) (R : List Res) (b : Nat) : Prop := ∃ (i : Nat) (r : Res) (h : Value), R[i]? = some r ∧ ρ[i]? = some h ∧ r.foot h b

/-- what holds when a function is called -/
structure Start (S : Nat → Prop) (w : World) (ρ : List Value) (R : List Res) : Prop where
  len : ρ.length = R.length
  ok : ∀ (i : Nat) r h, R[i]? = some r → ρ[i]? = some h → r.ok S w ρ h
  dis : ∀ (i j : Nat) r r' h h' b, i ≠ j → R[i]? = some r → R[j]? = some r' → ρ[i]? = some h → ρ[j]? = some h' → r.foot h b → r'.foot h' b → False
  own : ∀ (i : Nat) r h b, R[i]? = some r → ρ[i]? = some h → r.foot h b → ¬ S b ∧ b < w.heap.size
  sup : ∀ b, S b → b < w.heap.size
  gl : GlOk S w

theorem Start.inv {S : Nat → Prop} {w : World} {ρ : List Value} {R : List Res} (h : Start S w ρ R) : Inv ⟨w, S, feet ρ R, ρ, []⟩ S w ρ R where
  len := h.len
  ok := h.ok
  dis := h.dis
  own i r v b h1 h2 h3 := ⟨(h.own i r v b h1 h2 h3).1, (h.own i r v b h1 h2 h3).2, .inl ⟨i, r, v, h1, h2, h3⟩⟩
  sub _ h := h
  sup b hb := ⟨h.sup b hb, .inl hb⟩
  frm _ _ _ := rfl
  size := Nat.le_refl _
  os := rfl
  tape := ⟨rfl, fun _ => Nat.le_refl _⟩
  output := rfl
  pre := Pre.refl _
  gl := ⟨h.gl, fun b hb => ⟨h.sup b hb, fun ⟨i, r, v, h1, h2, h3⟩ => (h.own i r v b h1 h2 h3).1 hb⟩, fun d hd => by cases hd⟩

/-- THE CONTRACT of a call at these arguments: it returns 'res', its own things are then 'R2'. -/
def CallOk (P : Program) (f : FuncId) (args : List AV) (R : List Res) (res : AV) (R2 : List Res) : Prop :=
  ∀ (S : Nat → Prop) (w : World) (ρ : List Value) (vs : List Value), Start S w ρ R → All2 (RdA S w ρ) vs args →
    Calls P f vs.toArray w fun e w' => ∃ v S' ρ', e = .returned v ∧ RdA S' w' ρ' v res ∧ Inv ⟨w, S, feet ρ R, ρ, []⟩ S' w' ρ' R2

section
variable {C : Ctx} {S S' : Nat → Prop} {w w' : World} {ρ ρ' : List Value} {R R2 : List Res}

/-- the world grows; nothing that was is written -/
theorem Inv.grow (h : Inv C S w ρ R) (hS : ∀ b, S b → S' b) (hnew : ∀ b, S' b → S b ∨ w.heap.size ≤ b ∧ b < w'.heap.size) (hw : ∀ b, b < w.heap.size → w'.heap[b]? = w.heap[b]?)
    (hsz : w.heap.size ≤ w'.heap.size) (ho : w'.os = w.os) (ht : Tp w w') (hp : w'.output = w.output) : Inv C S' w' ρ R where
  len := h.len
  ok i r v h1 h2 := (h.ok i r v h1 h2).mono hS (fun b hb => hw b (h.sup b hb).1) (Pre.refl _) (fun b hb => hw b (h.own i r v b h1 h2 hb).2.1)
  dis := h.dis
  own i r v b h1 h2 h3 := by
    obtain ⟨k1, k2, k3⟩ := h.own i r v b h1 h2 h3
    grind
  sub b hb := hS b (h.sub b hb)
  sup b hb := by
    rcases hnew b hb with hb | hb
    · obtain ⟨k1, k2⟩ := h.sup b hb
      grind
    · exact ⟨hb.2, .inr (.inr (Nat.le_trans h.size hb.1))⟩
  frm b hb hf := (hw b (Nat.lt_of_lt_of_le hb h.size)).trans (h.frm b hb hf)
  size := Nat.le_trans h.size hsz
  os := ho.trans h.os
  tape := ht.trans h.tape
  output := hp.trans h.output
  pre := h.pre
  gl := h.gl

theorem Inv.glOk (h : Inv C S w ρ R) : GlOk S w := h.gl.1.mono h.sub fun b hb => h.frm b (h.gl.2.1 b hb).1 (h.gl.2.1 b hb).2
end
end Go.SL
