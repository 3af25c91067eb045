/-
  The logic, twenty-fourth part: package tables: what a row's list says of them.
-/
import Derived.Test.YtakbldjmgfcipaaDoorSlW
import Derived.LaidLaws
namespace Go.SL
open Go.ChangeShapes Go.WideShapes Go.ChangeAt Go.RowKit

section
variable {P : Program} {W : World}

/-- this datum is read from these cells alone -/
def Fixes (P : Program) (t : TypeId) (d : DataW Unit) (cs : List Value) : Prop :=
  ∀ (w : World) (base : Nat) (sp : Nat → Bool) (held : Bool) (fuel : Nat) (cs' : List Value) (p : List MemPlace), DataW.trod (fun _ => ()) P w base sp held fuel t cs' = some (d, p) → cs' = cs

theorem Fixes.int {t : TypeId} {k : IntKind} {n : Int} (ht : P.underlying t = some (.int k)) : Fixes P t (.lit (.int k n)) [.int k n] := by
  intro w base sp held fuel cs p h
  cases fuel with
  | zero => simp [DataW.trod] at h
  | succ m =>
    unfold DataW.trod at h
    rw [ht] at h
    split at h <;> simp_all
theorem Fixes.bool {t : TypeId} {b : Bool} (ht : P.underlying t = some .bool) : Fixes P t (.lit (.bool b)) [.bool b] := by
  intro w base sp held fuel cs p h
  cases fuel with
  | zero => simp [DataW.trod] at h
  | succ m =>
    unfold DataW.trod at h
    rw [ht] at h
    split at h <;> simp_all

/-- the parts from a place on: each part's place, size, type, datum, cells -/
def FixesL (P : Program) : List (Nat × TypeId) → Nat → List (DataW Unit) → List Value → Prop
  | [], _, [], cs => cs = []
  | (o, t) :: r, off, d :: ds, cs => o = off ∧ ∃ c1 c2, cs = c1 ++ c2 ∧ c1.length = P.cellsOf t ∧ Fixes P t d c1 ∧ FixesL P r (off + P.cellsOf t) ds c2
  | _, _, _, _ => False

theorem fixesL_ok {w : World} {base : Nat} {sp : Nat → Bool} {held : Bool} {m : Nat} {cs' : List Value} : ∀ {ps : List (Nat × TypeId)} {off : Nat} {ds : List (DataW Unit)} {cs : List Value}, FixesL P ps off ds cs → cs'.length = off + (ps.map fun x => P.cellsOf x.2).sum →
    (∀ (i : Nat) x d, ps[i]? = some x → ds[i]? = some d → ∃ p, DataW.trod (fun _ => ()) P w base sp held m x.2 ((cs'.drop x.1).take (P.cellsOf x.2)) = some (d, p)) → cs'.drop off = cs
  | [], off, [], cs, h, hl, _ => by
    simp at hl
    have h : cs = [] := h
    rw [h, List.drop_of_length_le (by omega)]
  | [], _, _ :: _, _, h, _, _ => h.elim
  | _ :: _, _, [], _, h, _, _ => h.elim
  | (o, t) :: r, off, d :: ds, cs, h, hl, hx => by
    obtain ⟨rfl, c1, c2, rfl, h1, h2, h3⟩ := h
    obtain ⟨p, hp⟩ := hx 0 (o, t) d rfl rfl
    have e1 := h2 w base sp held m _ p hp
    simp only [List.map_cons, List.sum_cons] at hl
    have e2 := fixesL_ok h3 (by omega) fun i x d hi hd => hx (i + 1) x d (by simpa using hi) (by simpa using hd)
    have : cs'.drop o = (cs'.drop o).take (P.cellsOf t) ++ cs'.drop (o + P.cellsOf t) := by
      rw [← List.drop_drop, List.take_append_drop]
    rw [this, e2]
    have e1' : (cs'.drop o).take (P.cellsOf t) = c1 := e1
    rw [e1']

theorem Fixes.struct {t : TypeId} {fs : Array Field} {ds : List (DataW Unit)} {cs : List Value} (ht : P.underlying t = some (.struct fs)) (hc : P.cellsOf t = ((fs.toList.map fun f => (f.offset, f.type)).map fun x => P.cellsOf x.2).sum)
    (h : FixesL P (fs.toList.map fun f => (f.offset, f.type)) 0 ds cs) : Fixes P t (.agg ds) cs := by
  intro w base sp held fuel cs' p hx
  obtain ⟨xs, n, _, hd, hl, _, hf⟩ := DataW.trod_struct ht hx
  have hds : ds = xs.map (·.1) := by
    have := congrArg Prod.fst hd
    simpa using this
  have := fixesL_ok (P := P) (w := w) (base := base) (sp := sp) (held := held) (m := n) (cs' := cs') h (by rw [hl, hc]; simp) fun i x d hi hdi => by
    rw [List.getElem?_map] at hi
    obtain ⟨f, h1, rfl⟩ := mapE hi
    rw [hds, List.getElem?_map] at hdi
    obtain ⟨y, h2, rfl⟩ := mapE hdi
    have h3 := hf i f (by simpa using h1)
    rw [h2] at h3
    exact ⟨y.2, by rw [h3]⟩
  simpa using this

theorem Fixes.array {t e : TypeId} {n : Nat} {ds : List (DataW Unit)} {cs : List Value} (ht : P.underlying t = some (.array n e)) (hc : P.cellsOf t = n * P.cellsOf e)
    (h : FixesL P ((List.range n).map fun i => (i * P.cellsOf e, e)) 0 ds cs) : Fixes P t (.agg ds) cs := by
  intro w base sp held fuel cs' p hx
  obtain ⟨xs, m, _, hd, hl, _, hf⟩ := DataW.trod_array ht hx
  have hds : ds = xs.map (·.1) := by
    have := congrArg Prod.fst hd
    simpa using this
  have hsum : ((((List.range n).map fun i => (i * P.cellsOf e, e)).map fun (x : Nat × TypeId) => P.cellsOf x.2)).sum = n * P.cellsOf e := by
    rw [List.map_map]
    have : (List.range n).map ((fun (x : Nat × TypeId) => P.cellsOf x.2) ∘ fun i => (i * P.cellsOf e, e)) = List.replicate n (P.cellsOf e) := by
      refine List.ext_getElem (by simp) fun i h1 h2 => by simp
    rw [this]; simp
  have := fixesL_ok (P := P) (w := w) (base := base) (sp := sp) (held := held) (m := m) (cs' := cs') h (by rw [hl, hc, hsum]; simp) fun i x d hi hdi => by
    rw [List.getElem?_map] at hi
    obtain ⟨j, h1, rfl⟩ := mapE hi
    have hin : i < n := by
      have := (List.getElem?_eq_some_iff.1 h1).1
      simpa using this
    rw [List.getElem?_range hin] at h1
    obtain rfl := Option.some.inj h1
    rw [hds, List.getElem?_map] at hdi
    obtain ⟨y, h2, rfl⟩ := mapE hdi
    have h3 := hf i hin
    rw [h2] at h3
    exact ⟨y.2, by rw [h3]⟩
  simpa using this

/-- the first variable of a row's list holds these cells -/
theorem laid_head {n : String} {d : DataW Unit} {rest : List (String × DataW Unit)} {g : Nat} {t : TypeId} {cs : List Value} (hg : P.globalNamed n = some g) (ht : (P.globals[g]?).map (·.type) = some t) (hf : Fixes P t d cs)
    (h : laidMet P ((n, d) :: rest) W) : ∀ (j : Nat) v, cs[j]? = some v → W.cell? ⟨g, j, none⟩ = some v := by
  obtain ⟨ps, hv, _⟩ := h
  obtain ⟨g', t', cs', fuel, p, q, h1, h2, h3, h4, _, _⟩ := hv
  rw [hg] at h1; obtain rfl := Option.some.inj h1
  rw [ht] at h2; obtain rfl := Option.some.inj h2
  have := hf _ _ _ _ _ _ _ h4
  intro j v hj
  rw [World.var?_cell hg h3 j, ← hj, ← this]
  simp

/-- cells that are plain values -/
theorem cellsP_of {g : Nat} {cs : List Value} (h1 : ∀ (j : Nat) v, cs[j]? = some v → W.cell? ⟨g, j, none⟩ = some v) (hone : ∀ v, v ∈ cs → v.oneCell' = true) : CellsP (old W) W ⟨g, 0, none⟩ (cs.map Pd.v) := by
  intro j d hj
  rw [List.getElem?_map] at hj
  obtain ⟨v, hv, rfl⟩ := mapE hj
  have hc := h1 j v hv
  refine ⟨v, ?_, by rw [add_mk, Nat.zero_add]; exact hc, .v v (hone v (List.mem_of_getElem? hv))⟩
  have := cell_old hc
  exact this
end
end Go.SL
