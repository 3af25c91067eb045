/-
  The logic, twenty-third part: what comes in reads as data, and what a law owes.
-/
import Derived.Test.YtopmfoohdkjgmaaGreatDoorSlV
import Derived.Carry
import Derived.ChangeArms
import Derived.ChangeOld
import Derived.JoinedCond
namespace Go.SL
open Go.ChangeShapes Go.WideShapes Go.ChangeAt Go.RowKit

section
variable {P : Program} {W : World}

/-- all that is there may be read -/
def old (W : World) (b : Nat) : Prop := b < W.heap.size

/-- values of this type read so -/
def Reads (P : Program) (W : World) (t : TypeId) {α : Type} (E : α → List Pd) (ok : α → Prop) : Prop :=
  ∀ (H : Type) (enc : TypeId × Value → H) (base : Nat) (sp : Nat → Bool) (held : Bool) (fuel : Nat) (cs : List Value) (x : DataW H × List MemPlace),
    DataW.trod enc P W base sp held fuel t cs = some x → ∃ a, ok a ∧ All2 (RdP (old W) W) cs (E a)

theorem Reads.int {t : TypeId} {k : IntKind} (ht : P.underlying t = some (.int k)) : Reads P W t (pK k) (fun n => (Lit.int k n).wf = true) := by
  intro H enc base sp held fuel cs x h
  cases fuel with
  | zero => simp [DataW.trod] at h
  | succ m =>
    unfold DataW.trod at h
    rw [ht] at h
    split at h <;> simp_all
    obtain ⟨⟨rfl, hw⟩, _⟩ := h
    exact ⟨_, hw, .v _ rfl, trivial⟩
theorem Reads.i64 {t : TypeId} (ht : P.underlying t = some (.int .i64)) : Reads P W t pI (fun n => (Lit.int .i64 n).wf = true) := Reads.int ht
theorem Reads.bool {t : TypeId} (ht : P.underlying t = some .bool) : Reads P W t pB (fun _ => True) := by
  intro H enc base sp held fuel cs x h
  cases fuel with
  | zero => simp [DataW.trod] at h
  | succ m =>
    unfold DataW.trod at h
    rw [ht] at h
    split at h <;> try (simp at h; done)
    all_goals first | exact ⟨_, trivial, .v _ rfl, trivial⟩ | (simp_all; done)
theorem Reads.string {t : TypeId} (ht : P.underlying t = some .string) : Reads P W t pS (fun s => s.size ≤ maxLen) := by
  intro H enc base sp held fuel cs x h
  cases fuel with
  | zero => simp [DataW.trod] at h
  | succ m =>
    unfold DataW.trod at h
    rw [ht] at h
    split at h <;> simp_all
    exact ⟨_, h.1, .v _ rfl, trivial⟩

theorem Reads.map {t : TypeId} {α β : Type} {E : α → List Pd} {ok : α → Prop} (h : Reads P W t E ok) (E' : β → List Pd) (ok' : β → Prop) (g : α → β) (hE : ∀ a, E a = E' (g a)) (ho : ∀ a, ok a → ok' (g a)) : Reads P W t E' ok' := by
  intro H enc base sp held fuel cs x hx
  obtain ⟨a, h1, h2⟩ := h H enc base sp held fuel cs x hx
  exact ⟨g a, ho a h1, by rw [← hE]; exact h2⟩

theorem cell_old {a : Addr} {v : Value} (h : W.cell? a = some v) : old W a.block := by
  show a.block < W.heap.size
  unfold World.cell? at h
  cases hb : W.heap[a.block]? with
  | none => rw [hb] at h; simp at h
  | some o => exact (Array.getElem?_eq_some_iff.1 hb).1

theorem list_choose {α β : Type} {Q : α → β → Prop} {l : List α} (h : ∀ a, a ∈ l → ∃ b, Q a b) : ∃ m : List β, All2 Q l m := by
  induction l with
  | nil => exact ⟨[], trivial⟩
  | cons a l ih =>
    obtain ⟨b, hb⟩ := h a List.mem_cons_self
    obtain ⟨m, hm⟩ := ih fun a ha => h a (List.mem_cons_of_mem _ ha)
    exact ⟨b :: m, hb, hm⟩

theorem Reads.slice {t e : TypeId} {size : Nat} {α : Type} {E : α → List Pd} {ok : α → Prop} (ht : P.underlying t = some (.slice e)) (hc : P.cellsOf e = size) (hE : ∀ a, (E a).length = size) (h : Reads P W e E ok) :
    Reads P W t (pL E) (fun l => (∀ a, a ∈ l → ok a) ∧ l.length ≤ maxLen) := by
  intro H enc base sp held fuel cs x hx
  rcases DataW.trod_slice ht hx with ⟨rfl, _⟩ | ⟨a, len, cap, elems, rest, n, _, rfl, _, hb, hl, hm, hlen, hel, _, _⟩
  · refine ⟨[], ⟨by simp, Nat.zero_le _⟩, ?_, trivial⟩
    exact .s none ⟨0, 0, none⟩ 0 0 [] (fun _ _ => undef) (Nat.le_refl _) (Nat.zero_le _) (fun _ => rfl) (by simp) (by simp) (by simp)
  · have key : ∀ i, i < len → ∃ (z : α) (ws : List Value), ok z ∧ All2 (RdP (old W) W) ws (E z) ∧ ∀ j, j < size → W.cell? (a.add (i * size + j)) = ws[j]? := by
      intro i hi
      have h1 := hel i hi
      have h2 : i < elems.length := by omega
      rw [List.getElem?_eq_getElem h2, hc] at h1
      obtain ⟨ws, h3, h4⟩ := bindE h1
      obtain ⟨_, h5, h6⟩ := World.cells?_some h3
      obtain ⟨z, h7, h8⟩ := h H enc base sp held n ws _ h4
      refine ⟨z, ws, h7, h8, fun j hj => ?_⟩
      have := h6 j hj
      rwa [add_add] at this
    obtain ⟨m, hm2⟩ := list_choose (l := List.range len) (Q := fun i (q : α × List Value) => ok q.1 ∧ All2 (RdP (old W) W) q.2 (E q.1) ∧ ∀ j, j < size → W.cell? (a.add (i * size + j)) = q.2[j]?) fun i hi => by
      obtain ⟨z, ws, q⟩ := key i (List.mem_range.1 hi)
      exact ⟨(z, ws), q⟩
    have hml : m.length = len := by rw [← hm2.length]; simp
    have hget : ∀ (i : Nat) q, m[i]? = some q → ok q.1 ∧ All2 (RdP (old W) W) q.2 (E q.1) ∧ ∀ j, j < size → W.cell? (a.add (i * size + j)) = q.2[j]? := by
      intro i q hq
      have hi : i < len := by rw [← hml]; exact (List.getElem?_eq_some_iff.1 hq).1
      exact hm2.both (x := i) (by rw [List.getElem?_range hi]) hq
    refine ⟨m.map (·.1), ⟨fun z hz => ?_, by rw [List.length_map, hml]; omega⟩, ?_, trivial⟩
    · obtain ⟨q, hq, rfl⟩ := List.mem_map.1 hz
      obtain ⟨i, hi⟩ := List.getElem?_of_mem hq
      exact (hget i q hi).1
    · have hrow : ∀ (i : Nat) row, ((m.map (·.1)).map E)[i]? = some row → ∃ q, m[i]? = some q ∧ row = E q.1 := by
        intro i row hr
        rw [List.getElem?_map, List.getElem?_map] at hr
        obtain ⟨z, h1, rfl⟩ := mapE hr
        obtain ⟨q, h2, rfl⟩ := mapE h1
        exact ⟨q, h2, rfl⟩
      have hcell : ∀ (i : Nat) row, ((m.map (·.1)).map E)[i]? = some row → ∀ (j : Nat) d, row[j]? = some d → ∃ v, W.cell? (a.add (i * size + j)) = some v ∧ RdP (old W) W v d := by
        intro i row hr j d hd
        obtain ⟨q, h1, rfl⟩ := hrow i row hr
        obtain ⟨_, h3, h4⟩ := hget i q h1
        obtain ⟨v, h5, h6⟩ := h3.get hd
        have hj : j < size := by rw [← hE q.1]; exact (List.getElem?_eq_some_iff.1 hd).1
        exact ⟨v, by rw [h4 j hj, h5], h6⟩
      have hlen' : ((m.map (·.1)).map E).length = len := by simp [hml]
      have := RdP.s (S := old W) (w := W) (some a) a cap size ((m.map (·.1)).map E) (fun i j => (W.cell? (a.add (i * size + j))).getD undef) (by rw [hlen']; exact hl) hm (fun h => by cases h)
        (fun row hr => by obtain ⟨z, _, rfl⟩ := List.mem_map.1 hr; exact hE z)
        (fun i row hr j d hd => by
          obtain ⟨v, h1, h2⟩ := hcell i row hr j d hd
          have := cell_old h1
          rw [add_block] at this
          exact ⟨rfl, this, by rw [h1]; rfl⟩)
        (fun i row hr j d hd => by
          obtain ⟨v, h1, h2⟩ := hcell i row hr j d hd
          rw [h1]; exact h2)
      rw [hlen'] at this
      exact this

/-- the fields from a place on -/
def ReadsF (P : Program) (W : World) (fs : List Field) (off : Nat) {α : Type} (E : α → List Pd) (ok : α → Prop) : Prop :=
  ∀ (H : Type) (enc : TypeId × Value → H) (base : Nat) (sp : Nat → Bool) (held : Bool) (m : Nat) (cs : List Value) (xs : List (DataW H × List MemPlace)), cs.length = off + (fs.map fun f => P.cellsOf f.type).sum →
    (fs.mapM fun f => DataW.trod enc P W base sp held m f.type ((cs.drop f.offset).take (P.cellsOf f.type))) = some xs → ∃ a, ok a ∧ All2 (RdP (old W) W) (cs.drop off) (E a)

theorem ReadsF.nil {off : Nat} : ReadsF P W [] off (fun _ : Unit => []) (fun _ => True) := by
  intro H enc base sp held m cs xs hl _
  simp at hl
  exact ⟨(), trivial, by rw [List.drop_of_length_le (by omega)]; trivial⟩
theorem ReadsF.cons {f : Field} {fs : List Field} {off size : Nat} {α β : Type} {E : α → List Pd} {ok : α → Prop} {E' : β → List Pd} {ok' : β → Prop} (ho : f.offset = off) (hs : P.cellsOf f.type = size) (h1 : Reads P W f.type E ok) (h2 : ReadsF P W fs (off + size) E' ok') :
    ReadsF P W (f :: fs) off (fun (x : α × β) => E x.1 ++ E' x.2) (fun x => ok x.1 ∧ ok' x.2) := by
  intro H enc base sp held m cs xs hl hx
  simp only [List.mapM_cons, Option.bind_eq_bind] at hx
  obtain ⟨y, h3, hx⟩ := bindE hx
  obtain ⟨ys, h4, hx⟩ := bindE hx
  obtain ⟨a, ha, hra⟩ := h1 H enc base sp held m _ _ h3
  simp only [List.map_cons, List.sum_cons, hs] at hl
  obtain ⟨b, hb, hrb⟩ := h2 H enc base sp held m cs ys (by omega) h4
  refine ⟨(a, b), ⟨ha, hb⟩, ?_⟩
  rw [ho, hs] at hra
  have : cs.drop off = (cs.drop off).take size ++ cs.drop (off + size) := by
    rw [← List.drop_drop, List.take_append_drop]
  rw [this]
  exact hra.append hrb

theorem Reads.struct {t : TypeId} {fs : Array Field} {α : Type} {E : α → List Pd} {ok : α → Prop} (ht : P.underlying t = some (.struct fs)) (hc : P.cellsOf t = (fs.toList.map fun f => P.cellsOf f.type).sum) (h : ReadsF P W fs.toList 0 E ok) : Reads P W t E ok := by
  intro H enc base sp held fuel cs x hx
  cases fuel with
  | zero => simp [DataW.trod] at hx
  | succ m =>
    unfold DataW.trod at hx
    rw [ht] at hx
    simp only at hx
    split at hx
    · rename_i hl
      obtain ⟨xs, h1, _⟩ := mapE hx
      obtain ⟨a, h2, h3⟩ := h H enc base sp held m cs xs (by rw [hl, hc]; simp) h1
      exact ⟨a, h2, by simpa using h3⟩
    · cases hx

/-- a parameter that is one cell -/
theorem Reads.one {H : Type} {enc : TypeId × Value → H} {t : TypeId} {α : Type} {E : α → List Pd} {ok : α → Prop} (h : Reads P W t E ok) (hE : ∀ a, (E a).length = 1) {v : Value} {d : DataW H} {p : List MemPlace} {base : Nat} {sp : Nat → Bool} {held : Bool}
    (hv : v.oneCell' = true) (hd : DataW.Trod enc P W base sp held t v d p) : ∃ a, ok a ∧ RdA (old W) W [] v (.d (.p ((E a).headD default))) := by
  obtain ⟨fuel, hf⟩ := hd
  obtain ⟨a, h1, h2⟩ := h H enc base sp held fuel _ _ hf
  refine ⟨a, h1, .d (.p ?_)⟩
  have := hE a
  match hea : E a, this with
  | [e], _ =>
    rw [hea] at h2
    have hc : v.cells.toList = [v] := by
      cases v <;> first | rfl | (simp [Value.oneCell'] at hv)
    rw [hc] at h2
    exact h2.1
/-- a parameter that is a struct -/
theorem Reads.agg {H : Type} {enc : TypeId × Value → H} {t : TypeId} {α : Type} {E : α → List Pd} {ok : α → Prop} (h : Reads P W t E ok) {cs : Array Value} {d : DataW H} {p : List MemPlace} {base : Nat} {sp : Nat → Bool} {held : Bool}
    (hd : DataW.Trod enc P W base sp held t (.agg cs) d p) : ∃ a, ok a ∧ RdA (old W) W [] (.agg cs) (.agg ((E a).map D.p)) := by
  obtain ⟨fuel, hf⟩ := hd
  obtain ⟨a, h1, h2⟩ := h H enc base sp held fuel _ _ hf
  refine ⟨a, h1, ?_⟩
  have hc : (Value.agg cs).cells.toList = cs.toList := rfl
  rw [hc] at h2
  have := RdA.agg (S := old W) (w := W) (ρ := []) (vs := cs.toList) (ds := (E a).map D.p) (h2.map_right fun _ _ h => .p h)
  simpa using this

/-! ### what a law owes -/
theorem trodAll_below {H : Type} {enc : TypeId × Value → H} (hl : laidOutB P = true) {W W' : World} (hb : Below W.heap.size W W') : ∀ {ts : List TypeId} {vs : List Value} {ds : List (DataW H)} {ps : List MemPlace}, (ts.all fun t => P.readableRec t && decide (t < P.types.size)) = true →
    DataW.TrodAll enc P W 0 (fun _ => true) true ts vs ds ps → DataW.TrodAll enc P W' 0 (fun b => decide (b < W.heap.size)) true ts vs ds ps
  | [], vs, ds, ps, _, h => by
    obtain ⟨rfl, rfl, rfl⟩ := trodAll_nil h
    exact trodAll_mk0
  | t :: ts, vs, ds, ps, ht, h => by
    obtain ⟨v, vs', d, ds', p, q, rfl, rfl, rfl, h1, h2⟩ := trodAll_cons h
    simp only [List.all_cons, Bool.and_eq_true, decide_eq_true_eq] at ht
    have lt : ∀ x ∈ p, x.block < W.heap.size := by obtain ⟨m, hm⟩ := h1; exact DataW.trod_lt m _ _ _ hm
    exact trodAll_cons_mk (Below.trod hl ht.1.1 ht.1.2 h1 hb lt) (trodAll_below hl hb ht.2 h2)

/-- from a contract: the call answers true, nothing that was is written -/
theorem CallOk.law {f : FuncId} {vs : List Value} {args : List AV} (h : CallOk P f args [] (.d (Bo true)) []) (hg : GlOk (old W) W) (hv : All2 (RdA (old W) W []) vs args) :
    Calls P f vs.toArray W fun e w' => e = .returned (.bool true) ∧ Below W.heap.size W w' := by
  have hst : Start (old W) W [] [] := ⟨rfl, fun i r h hr => by simp at hr, fun i j r r' h h' b _ hr => by simp at hr, fun i r h b hr => by simp at hr, fun b hb => hb, hg⟩
  refine Calls.mono (h (old W) W [] vs hst hv) fun e w' hp => ?_
  obtain ⟨v, S', ρ', rfl, hr, hI⟩ := hp
  refine ⟨by rw [hr.exact_inv], ?_⟩
  exact ⟨hI.os, hI.tape.1, hI.output, hI.size, fun b hb => hI.frm b hb fun ⟨i, r, h, h1, _⟩ => by simp at h1⟩
end
end Go.SL
