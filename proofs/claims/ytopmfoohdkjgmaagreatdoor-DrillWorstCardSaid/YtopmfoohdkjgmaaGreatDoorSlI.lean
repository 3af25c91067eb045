/-
  The logic, ninth part: the evaluator is right for the operations that make or write things of our own, and for calls.
-/
import Derived.Test.YtopmfoohdkjgmaaGreatDoorSlH
namespace Go.SL

section
variable {P : Program} {C : Ctx} {S S' : Nat → Prop} {w w' : World} {ρ ρ' : List Value} {R : List Res} {L : List Ent} {cur : Path} {a : Act}

theorem halloc_old (w : World) (o : Obj) (b : Nat) (h : b < w.heap.size) : (w.alloc o).heap[b]? = w.heap[b]? := Go.RowKit.Below.heap_alloc w o b h
theorem halloc_new (w : World) (o : Obj) : (w.alloc o).heap[w.heap.size]? = some o := Go.heap_alloc_new w o

/-- what an operation leaves -/
structure After (C : Ctx) (S : Nat → Prop) (w : World) (ρ : List Value) (R2 : List Res) (v : Value) (av : AV) (S' : Nat → Prop) (w' : World) (ρ' : List Value) : Prop where
  inv : Inv C S' w' ρ' R2
  sub : ∀ b, S b → S' b
  same : ∀ b, S b → w'.heap[b]? = w.heap[b]?
  pre : Pre ρ ρ'
  rd : RdA S' w' ρ' v av

theorem Inv.newBox (hI : Inv C S w ρ R) {t : TypeId} {vs : Array Value} {cells : List D} (hc : All2 (Rd S w ρ) vs.toList cells) :
    After C S w ρ (R ++ [.box t cells]) (.pointer (some ⟨w.heap.size, 0, none⟩)) (.d (.o R.length 0)) S (w.alloc (.cells vs t)) (ρ ++ [.pointer (some ⟨w.heap.size, 0, none⟩)]) := by
  have hw : ∀ b, S b → (w.alloc (.cells vs t)).heap[b]? = w.heap[b]? := fun b hb => halloc_old _ _ _ (hI.sup b hb).1
  refine ⟨hI.push _ _ (fun b hb => halloc_old _ _ _ hb) (by simp) rfl ⟨rfl, fun _ => by first | exact Nat.le_refl _ | exact Nat.le_succ _⟩ rfl ?_ ?_, fun _ h => h, hw, Pre.append _ _, .d (.o ?_)⟩
  · exact .inr ⟨_, vs, rfl, halloc_new _ _, hc.mono fun _ _ h => h.mono (fun _ h => h) hw (Pre.append _ _)⟩
  · intro b hb
    simp [Res.foot] at hb; subst hb
    simp
  · rw [← hI.len]; simp

theorem Inv.newVec (hI : Inv C S w ρ R) {t : TypeId} {vs : Array Value} {cells : List D} {n size : Nat} (hc : All2 (Rd S w ρ) vs.toList cells) (hn : cells.length = n * (size + 1)) (hm : n ≤ maxLen) :
    After C S w ρ (R ++ [.vec t (size + 1) cells]) (.slice (some ⟨w.heap.size, 0, none⟩) n n) (.d (.os R.length)) S (w.alloc (.cells vs t)) (ρ ++ [.slice (some ⟨w.heap.size, 0, none⟩) n n]) := by
  have hl := hc.length
  have hw : ∀ b, S b → (w.alloc (.cells vs t)).heap[b]? = w.heap[b]? := fun b hb => halloc_old _ _ _ (hI.sup b hb).1
  refine ⟨hI.push _ _ (fun b hb => halloc_old _ _ _ hb) (by simp) rfl ⟨rfl, fun _ => by first | exact Nat.le_refl _ | exact Nat.le_succ _⟩ rfl ?_ ?_, fun _ h => h, hw, Pre.append _ _, .d (.os ?_ rfl)⟩
  · refine .inr ⟨_, 0, n, n, vs, rfl, .of (halloc_new _ _), ⟨hn, Nat.succ_pos _, Nat.le_refl _, hm, by simp at hl; omega⟩, ?_⟩
    rw [List.drop_zero, List.take_of_length_le (by rw [hl, hn]; exact Nat.le_refl _)]
    exact hc.mono fun _ _ h => h.mono (fun _ h => h) hw (Pre.append _ _)
  · intro b hb
    simp [Res.foot, slFoot] at hb; subst hb
    simp
  · rw [← hI.len]; simp

theorem run_storeCells_blk (g o : Nat) (t : TypeId) : ∀ (vs : List Value) (i : Nat) (cur : Array Value) (w : World), Blk w g cur t → o + i + vs.length ≤ cur.size → (∀ v ∈ vs, v.oneCell' = true) →
    (storeCells ⟨g, o, none⟩ vs i).run P w = .ok () (w.setRow g (cur.toList.take (o + i) ++ vs ++ cur.toList.drop (o + i + vs.length)).toArray)
  | [], i, cur, w, ⟨fz, hg, _⟩, _, _ => by
    simp only [storeCells, List.append_nil, List.length_nil, Nat.add_zero, List.take_append_drop, Array.toArray_toList]
    rw [setRow_self w g cur t fz hg]
    rfl
  | v :: rest, i, cur, w, ⟨fz, hg, hfz, hfm⟩, hl, h1 => by
    have hi : o + i < cur.size := by simp at hl; omega
    have hadd : (⟨g, o, none⟩ : Addr).add i = ⟨g, o + i, none⟩ := by unfold Addr.add; split <;> simp_all
    have hcell : w.cell? ⟨g, o + i, none⟩ = some cur[o + i] := by simp [World.cell?, hg, hi]
    have hfro : w.frozen? ⟨g, o + i, none⟩ = false := by
      obtain ⟨lo, hi'⟩ := fz
      simp only [World.frozen?, hg, Bool.and_eq_false_iff, decide_eq_false_iff_not]
      simp only at hfz
      omega
    have hst : (store ((⟨g, o, none⟩ : Addr).add i) v).run P w = .ok () (w.setRow g (cur.setIfInBounds (o + i) v)) := by
      rw [hadd, run_store P w _ v _ (h1 v (by simp)), hcell]
      simp [hfro, setCell_eq_setRow w g (o + i) cur t fz v hg]
    have ih := run_storeCells_blk g o t rest (i + 1) (cur.setIfInBounds (o + i) v) (w.setRow g (cur.setIfInBounds (o + i) v)) (Blk.put ⟨fz, hg, hfz, hfm⟩ (by simp)) (by simp at hl ⊢; omega) (fun x hx => h1 x (by simp [hx]))
    simp only [storeCells, Sem.run_bind, hst, Result.andThen_ok, ih, setRow_setRow]
    congr 3
    have e := list_seg_step cur.toList (o + i) v rest (by simp at hl ⊢; omega)
    simpa [Array.toList_setIfInBounds, Nat.add_assoc] using e
theorem run_storeCells' {g o : Nat} {t : TypeId} {vs : List Value} {cur : Array Value} (h : Blk w g cur t) (hl : o + vs.length ≤ cur.size) (h1 : ∀ v, v ∈ vs → v.oneCell' = true) :
    (storeCells ⟨g, o, none⟩ vs).run P w = .ok () (w.setRow g (cur.toList.take o ++ vs ++ cur.toList.drop (o + vs.length)).toArray) := by
  have := run_storeCells_blk (P := P) g o t vs 0 cur w h (by simpa using hl) h1
  simpa using this

theorem mem_one {vs : List Value} {ds : List D} (h : All2 (Rd S w ρ) vs ds) : ∀ v, v ∈ vs → v.oneCell' = true := by
  induction vs generalizing ds with
  | nil => simp
  | cons x xs ih => cases ds with
    | nil => exact h.elim
    | cons d ds =>
      intro v hv
      rcases List.mem_cons.1 hv with rfl | hv
      · exact h.1.one
      · exact ih h.2 v hv

theorem run_storeVar' {t : TypeId} {v : Value} {n g o : Nat} {u : TypeId} {cur : Array Value} (hn : tySize P t = some n) (hv : v.cells.size = n) (h : Blk w g cur u) (hl : o + n ≤ cur.size)
    (h1 : ∀ x, x ∈ v.cells.toList → x.oneCell' = true) :
    (storeVar t ⟨g, o, none⟩ v).run P w = .ok () (w.setRow g (cur.toList.take o ++ v.cells.toList ++ cur.toList.drop (o + v.cells.toList.length)).toArray) := by
  have := run_storeCells' (P := P) (w := w) (g := g) (o := o) (t := u) (vs := v.cells.toList) (cur := cur) h (by simpa [hv] using hl) h1
  simp only [storeVar, Sem.run_bind, run_sizeOf' hn, Result.andThen_ok]
  rw [if_neg (by simpa using hv)]
  exact this

theorem Inv.store (hI : Inv C S w ρ R) {i off n b : Nat} {t u : TypeId} {cells ds : List D} {v : Value} (hi : R[i]? = some (.box u cells)) (hρ : ρ[i]? = some (.pointer (some ⟨b, 0, none⟩)))
    (hv : All2 (Rd S w ρ) v.cells.toList ds) (hn : tySize P t = some n) (hl : ds.length = n) (ho : off + n ≤ cells.length) :
    ∃ w', (storeVar t ⟨b, off, none⟩ v).run P w = .ok () w' ∧ Inv C S w' ρ (R.set i (.box u (splice cells off ds))) ∧ (∀ k, S k → w'.heap[k]? = w.heap[k]?) := by
  obtain ⟨vs, h1, h2⟩ := box_cells hI hi hρ
  have hsz : v.cells.size = n := by have := hv.length; simpa [hl] using this
  have hcl : vs.size = cells.length := by have := h2.length; simpa using this
  refine ⟨_, run_storeVar' hn hsz (.of h1) (by omega) (mem_one hv), ?_, ?_⟩
  · have hS : ∀ k, k ≠ b → (w.setRow b (vs.toList.take off ++ v.cells.toList ++ vs.toList.drop (off + v.cells.toList.length)).toArray).heap[k]? = w.heap[k]? := fun k hk => heap_setRow_other _ _ _ _ hk
    have ob := hI.own i _ _ b hi hρ rfl
    refine hI.put hi hρ (b := b) rfl (fun k hk => by simp [Res.foot] at hk; exact hk.symm) hS (by simp) rfl ⟨rfl, fun _ => by first | exact Nat.le_refl _ | exact Nat.le_succ _⟩ rfl ?_
    refine .inr ⟨b, _, rfl, heap_setRow_same _ _ _ _ _ _ h1, ?_⟩
    have hm : ∀ x d, Rd S w ρ x d → Rd S (w.setRow b (vs.toList.take off ++ v.cells.toList ++ vs.toList.drop (off + v.cells.toList.length)).toArray) ρ x d := fun x d h =>
      h.mono (fun _ h => h) (fun k hk => hS k (fun e => ob.1 (e ▸ hk))) (Pre.refl _)
    unfold splice
    have hd : All2 (Rd S w ρ) (vs.toList.drop (off + v.cells.toList.length)) (cells.drop (off + ds.length)) := by
      rw [hv.length]
      exact h2.drop _
    have := ((h2.take off).append (hv.append hd)).mono hm
    simpa using this
  · intro k hk
    exact heap_setRow_other _ _ _ _ (fun e => (hI.own i _ _ b hi hρ rfl).1 (e ▸ hk))

/-! ### lending -/
/-- what may be read, with all that is ours -/
def lentS (S : Nat → Prop) (ρ : List Value) (R : List Res) (b : Nat) : Prop := S b ∨ feet ρ R b

theorem Inv.rho (hI : Inv C S w ρ R) {i : Nat} {r : Res} (h : R[i]? = some r) : ∃ v, ρ[i]? = some v := by
  have hl : i < ρ.length := by rw [hI.len]; exact (List.getElem?_eq_some_iff.1 h).1
  exact ⟨_, List.getElem?_eq_getElem hl⟩

theorem chunks_length {α : Type} (size : Nat) : ∀ (n : Nat) (l : List α), (chunks size n l).length = n
  | 0, _ => rfl
  | n + 1, l => by simp [chunks, chunks_length size n]
theorem chunks_get {α : Type} (size : Nat) : ∀ (n : Nat) (l : List α) (i : Nat) (row : List α), (chunks size n l)[i]? = some row → row = (l.drop (i * size)).take size
  | 0, _, _, _, h => by simp [chunks] at h
  | n + 1, l, 0, row, h => by simp [chunks] at h; simp [h]
  | n + 1, l, i + 1, row, h => by
    simp only [chunks, List.getElem?_cons_succ] at h
    have := chunks_get size n (l.drop size) i row h
    rw [this, List.drop_drop]
    congr 2
    rw [Nat.add_mul]; omega
theorem chunks_mem {α : Type} (size : Nat) : ∀ (n : Nat) (l : List α), l.length = n * size → ∀ row, row ∈ chunks size n l → row.length = size
  | 0, _, _, row, h => by simp [chunks] at h
  | n + 1, l, hl, row, h => by
    simp only [chunks, List.mem_cons] at h
    rw [Nat.add_mul] at hl
    rcases h with rfl | h
    · simp; omega
    · exact chunks_mem size n (l.drop size) (by simp; omega) row h

theorem vOk.rows {T : Nat → Prop} {e size : Nat} {cells : List D} {ps : List Pd} {v : Value} (k : vOk S w ρ e size cells v) (hp : ∀ xs, All2 (Rd S w ρ) xs cells → All2 (RdP T w) xs ps) :
    slOk T w e size (chunks size (cells.length / size) ps) v := by
  obtain ⟨b, o, len, cap, vs, rfl, hb, ⟨h1, h2, h3, h4, h5⟩, hc⟩ := k
  have hl : cells.length / size = len := by rw [h1, Nat.mul_div_cancel _ h2]
  have hq := hp _ hc
  have hpl : ps.length = len * size := by rw [← hq.length, hc.length, h1]
  rw [hl]
  refine .inr ⟨b, o, cap, vs, by rw [chunks_length], hb, by rw [chunks_length]; exact h3, h4, h5, chunks_mem size len _ hpl, fun i row hi j d hj => ?_⟩
  have := chunks_get size len _ i row hi
  subst this
  rw [List.getElem?_take] at hj
  split at hj
  · rw [List.getElem?_drop] at hj
    obtain ⟨x, hx, hr⟩ := hq.get hj
    refine ⟨x, ?_, hr⟩
    rw [List.getElem?_take] at hx
    split at hx
    · rw [List.getElem?_drop] at hx
      rw [Nat.add_assoc]
      simpa using hx
    · cases hx
  · cases hj
theorem viewP0_ok (hI : Inv C S w ρ R) {v : Value} {d : D} {x : Pd} (h : Rd S w ρ v d) (e : viewP0 R d = some x) : RdP (lentS S ρ R) w v x := by
  unfold viewP0 at e
  split at e
  · simp at e; subst e
    cases h with | p h => exact h.mono (fun _ h => .inl h) (fun _ _ => rfl)
  · rename_i i
    split at e
    · rename_i t size rows hi
      simp at e; subst e
      cases h with
      | os h h1 =>
        have hk := Res.ok0.frozen ((hI.ok i _ v hi h).live h1)
        refine hk.mono (fun b hb => ?_) (fun _ _ => rfl)
        rcases hb with hb | hb
        · exact .inl hb
        · exact .inr ⟨i, _, v, hi, h, hb⟩
    · rename_i t size rows hi
      simp at e; subst e
      cases h with
      | os h h1 =>
        have hk := zOk.frozen (S := S) ((hI.ok i _ v hi h).live h1)
        refine hk.mono (fun b hb => ?_) (fun _ _ => rfl)
        rcases hb with hb | hb
        · exact .inl hb
        · exact .inr ⟨i, _, v, hi, h, hb⟩
    · cases e
  · cases e

theorem viewPs0_ok (hI : Inv C S w ρ R) : ∀ {vs : List Value} {ds : List D} {ps : List Pd}, All2 (Rd S w ρ) vs ds → viewPs0 R ds = some ps → All2 (RdP (lentS S ρ R) w) vs ps
  | [], [], ps, _, e => by simp [viewPs0] at e; subst e; trivial
  | v :: vs, d :: ds, ps, h, e => by
    simp only [viewPs0] at e
    split at e
    · rename_i x l e1 e2
      simp at e; subst e
      exact ⟨viewP0_ok hI h.1 e1, viewPs0_ok hI h.2 e2⟩
    · cases e
  | [], _ :: _, _, h, _ => h.elim
  | _ :: _, [], _, h, _ => h.elim
theorem viewPd_ok (hI : Inv C S w ρ R) {v : Value} {d : D} {x : Pd} (h : Rd S w ρ v d) (e : viewPd R d = some x) : RdP (lentS S ρ R) w v x := by
  unfold viewPd at e
  split at e
  · simp at e; subst e
    cases h with | p h => exact h.mono (fun _ h => .inl h) (fun _ _ => rfl)
  · rename_i i
    split at e
    · rename_i t size rows hi
      simp at e; subst e
      cases h with
      | os h h1 =>
        have hk := Res.ok0.frozen ((hI.ok i _ v hi h).live h1)
        refine hk.mono (fun b hb => ?_) (fun _ _ => rfl)
        rcases hb with hb | hb
        · exact .inl hb
        · exact .inr ⟨i, _, v, hi, h, hb⟩
    · rename_i t size rows hi
      simp at e; subst e
      cases h with
      | os h h1 =>
        have hk := zOk.frozen (S := S) ((hI.ok i _ v hi h).live h1)
        refine hk.mono (fun b hb => ?_) (fun _ _ => rfl)
        rcases hb with hb | hb
        · exact .inl hb
        · exact .inr ⟨i, _, v, hi, h, hb⟩
    · rename_i t size cells hi
      obtain ⟨ps, h2, rfl⟩ := mapE e
      cases h with
      | os h h1 =>
        have k : vOk S w ρ t size cells v := (hI.ok i _ v hi h).live h1
        have hk := Res.ok0.frozen (ρ := ρ) (e := t) (vOk.rows k (T := lentS S ρ R) fun xs hx => viewPs0_ok hI hx h2)
        refine hk.mono (fun b hb => ?_) (fun _ _ => rfl)
        rcases hb with hb | hb
        · exact hb
        · exact .inr ⟨i, _, v, hi, h, by revert hb; cases v <;> simp [Res.foot, slFoot]⟩
    · cases e
  · cases e

theorem viewPds_ok (hI : Inv C S w ρ R) : ∀ {vs : List Value} {ds : List D} {ps : List Pd}, All2 (Rd S w ρ) vs ds → viewPds R ds = some ps → All2 (RdP (lentS S ρ R) w) vs ps
  | [], [], ps, _, e => by simp [viewPds] at e; subst e; trivial
  | v :: vs, d :: ds, ps, h, e => by
    simp only [viewPds] at e
    split at e
    · rename_i x l e1 e2
      simp at e; subst e
      exact ⟨viewPd_ok hI h.1 e1, viewPds_ok hI h.2 e2⟩
    · cases e
  | [], _ :: _, _, h, _ => h.elim
  | _ :: _, [], _, h, _ => h.elim

theorem Dview_L {rw : List Pd} {ds es : List D} (h : D.viewL R rw ds = some es) : es.length = ds.length ∧ ∀ (j : Nat) e, es[j]? = some e → ∃ d, ds[j]? = some d ∧ d.view R rw = some e := by
  induction ds generalizing es with
  | nil => simp [D.viewL] at h; subst h; simp
  | cons d ds ih =>
    simp only [D.viewL] at h
    split at h
    · rename_i d' r' h1 h2
      simp at h; subst h
      obtain ⟨g1, g2⟩ := ih h2
      refine ⟨by simp [g1], fun j e hj => ?_⟩
      cases j with
      | zero => simp at hj; subst hj; exact ⟨d, rfl, h1⟩
      | succ j => simp at hj ⊢; exact g2 j e hj
    · cases h

/-- what must be known of the elements that are lent -/
def RwOk (R : List Res) (rw : List Pd) (l : List (Nat × Nat)) : Prop := ∀ g k s tys rows, (g, k) ∈ l → R[g]? = some (.gh s tys rows none) → rows[k]? = some rw
theorem ois_sub {d : D} : ∀ {l : List D}, d ∈ l → ∀ p, p ∈ d.ois → p ∈ D.oisL l
  | [], h, _, _ => by cases h
  | a :: r, h, p, hp => by
    simp only [D.oisL]
    rcases List.mem_cons.1 h with rfl | h
    · exact List.mem_append_left _ hp
    · exact List.mem_append_right _ (ois_sub h p hp)
theorem oisL_sub {d : AV} : ∀ {l : List AV}, d ∈ l → ∀ p, p ∈ d.ois → p ∈ oisL l
  | [], h, _, _ => by cases h
  | a :: r, h, p, hp => by
    simp only [oisL]
    rcases List.mem_cons.1 h with rfl | h
    · exact List.mem_append_left _ hp
    · exact List.mem_append_right _ (oisL_sub h p hp)
theorem Dview_ok (hI : Inv C S w ρ R) {rw : List Pd} {v : Value} {d : D} (h : Rd S w ρ v d) : ∀ e, RwOk R rw d.ois → d.view R rw = some e → Rd (lentS S ρ R) w [] v e := by
  have hS : ∀ b, S b → lentS S ρ R b := fun _ h => .inl h
  induction h with
  | p h => intro e _ he; simp [D.view] at he; subst he; exact .p (h.mono hS fun _ _ => rfl)
  | ip h => intro e _ he; simp [D.view] at he; subst he; exact .ip (h.mono hS fun _ _ => rfl)
  | @os i v h h1 =>
    intro e _ he
    have this : ∀ x, viewPd R (.os i) = some x → RdP (lentS S ρ R) w v x := fun x hx => viewPd_ok (d := .os i) hI (.os h h1) hx
    simp only [D.view] at he
    split at he
    · rename_i t size rows hi
      simp at he; subst he
      exact .p (this _ (by simp [viewPd, hi]))
    · rename_i t size rows hi
      simp at he; subst he
      exact .p (this _ (by simp [viewPd, hi]))
    · rename_i t size cells hi
      obtain ⟨x, h2, rfl⟩ := mapE he
      exact .p (this _ (by simp only [viewPd, hi]; exact h2))
    · cases he
  | @o i b off h =>
    intro e _ he
    simp only [D.view] at he
    split at he
    · rename_i t cells hi
      split at he
      · rename_i ps hp
        simp at he; subst he
        rcases (hI.ok i _ _ hi h).live rfl with ⟨b', vs, e1, hb, hc⟩
        cases e1
        have hv := viewPds_ok hI hc hp
        refine .ip fun j d hj => ?_
        rw [List.getElem?_drop] at hj
        obtain ⟨x, hx, hr⟩ := hv.get hj
        refine ⟨x, .inr ⟨i, _, _, hi, h, rfl⟩, ?_, hr⟩
        rw [add_mk, cell_blk hb]
        simpa using hx
      · cases he
    · cases he
  | oe h => intro e _ he; simp [D.view] at he
  | any h1 => intro e _ he; simp [D.view] at he; subst he; exact .any h1
  | nq h => intro e _ he; simp [D.view] at he; subst he; exact .nq h
  | @osb i lo n size q a len cap h hl hc hq hq2 =>
    intro e _ he
    simp only [D.view] at he
    split at he
    · rename_i t s rows hi
      cases hb : Nat.beq s size with
      | false => rw [hb] at he; simp at he
      | true =>
        rw [hb] at he
        simp at he; subst he
        have := Nat.eq_of_beq_eq_true hb
        subst this
        have hk := (hI.ok i _ _ hi h).live rfl
        have hz : ∀ row, row ∈ rows → row.length = s := by
          rcases hk with ⟨_, h0⟩ | ⟨b, o, cp, vs, _, _, _, _, _, h0, _⟩
          · subst h0; simp
          · exact h0
        have hF := (Res.ok0.frozen (ρ := ρ) hk).mono (S' := lentS S ρ R) (fun b hb => by
          rcases hb with hb | hb
          · exact .inl hb
          · exact .inr ⟨i, _, _, hi, h, hb⟩) (fun _ _ => rfl)
        have hc := RdP.cut hF (l := lo) (h := lo + n) (by omega) hl hz
        rw [show (lo + n) - lo = n from by omega, List.drop_take, show (lo + n) - lo = n from by omega] at hc
        by_cases hlc : lo < cap
        · rw [if_neg (by omega)] at hc
          rw [hq2 hlc]
          exact .p hc
        · have hlc : cap = lo := by omega
          subst hlc
          rw [if_pos rfl] at hc
          have hn0 : n = 0 := by
            obtain ⟨_, _, hsf, hle, _⟩ := hF.slice_form
            cases hsf; omega
          subst hn0
          simp only [List.take_zero]
          exact .p (.s _ ⟨0, 0, none⟩ _ 0 [] (fun _ _ => undef) (Nat.zero_le _) (by simp) (fun _ => by simp) (by simp) (by simp) (by simp))
    · cases he
  | @oi i g k size off f xs cs v h hx h1 =>
    intro e hrw he
    simp only [D.view] at he
    split at he
    · rename_i s tys rows hg
      cases hb : (Nat.beq s size && Nat.blt off s) with
      | false => rw [hb] at he; simp at he
      | true =>
        rw [hb] at he
        simp only [cond_true] at he
        simp only [Bool.and_eq_true] at hb
        have := Nat.eq_of_beq_eq_true hb.1
        subst this
        split at he
        · rename_i r hr
          simp at he; subst he
          have hrow := hrw g k s tys rows (by simp [D.ois]) hg
          obtain ⟨f', xs', cs', e1, k1, k2, k3, k4⟩ := (hI.ok g _ _ hg h).live rfl
          cases e1
          obtain ⟨x, hx', _, hg2⟩ := k3 k rw hrow off _ hr
          rw [hx] at hx'; cases hx'
          have hno : ¬ isHole s none (k * s + off) := by rintro ⟨p, hp, _⟩; cases hp
          obtain ⟨e2, s2, _, hsl⟩ := hg2 hno
          have hF := Res.ok0.frozen (ρ := ρ) (show (Res.sl e2 s2 r).ok0 S w ρ v from hsl)
          refine .p (hF.mono (fun b hb => ?_) (fun _ _ => rfl))
          rcases hb with hb | hb
          · exact .inl hb
          · exact .inr ⟨g, _, _, hg, h, ⟨_, v, hx, hno, hb⟩⟩
        · cases he
    · cases he
  | fb hl h => intro e _ he; simp [D.view] at he; subst he; exact .fb hl fun j x d h1 h2 => (h j x d h1 h2).mono hS fun _ _ => rfl
  | fn hl hm hx hc ih1 ih2 =>
    intro e hrw he
    simp only [D.view] at he
    split at he
    · rename_i a' b' h1 h2
      simp at he; subst he
      obtain ⟨g1, g2⟩ := Dview_L h1
      obtain ⟨g3, g4⟩ := Dview_L h2
      refine .fn (by rw [hl, g1]) (by rw [hm, g3]) (fun j x d hxj hd => ?_) (fun j x d hxj hd => ?_)
      · obtain ⟨d0, k1, k2⟩ := g2 j d hd
        exact ih1 j x d0 hxj k1 d (fun g k s tys rows hm => hrw g k s tys rows (by simp only [D.ois]; exact List.mem_append_left _ (ois_sub (List.mem_of_getElem? k1) _ hm))) k2
      · obtain ⟨d0, k1, k2⟩ := g4 j d hd
        exact ih2 j x d0 hxj k1 d (fun g k s tys rows hm => hrw g k s tys rows (by simp only [D.ois]; exact List.mem_append_right _ (ois_sub (List.mem_of_getElem? k1) _ hm))) k2
    · cases he

theorem AVview_ok (hI : Inv C S w ρ R) {rw : List Pd} {v : Value} {x y : AV} (h : RdA S w ρ v x) (hrw : RwOk R rw x.ois) (e : x.view R rw = some y) : RdA (lentS S ρ R) w [] v y := by
  cases h with
  | d h =>
    simp only [AV.view] at e
    split at e
    · rename_i d' hd
      simp at e; subst e
      exact .d (Dview_ok hI h _ hrw hd)
    · cases e
  | agg h =>
    simp only [AV.view] at e
    split at e
    · rename_i es hes
      simp at e; subst e
      obtain ⟨g1, g2⟩ := Dview_L hes
      refine .agg (All2.of_get (by rw [h.length, g1]) fun j x d hx hd => ?_)
      obtain ⟨d0, k1, k2⟩ := g2 j d hd
      exact Dview_ok hI (h.both hx k1) d (fun g k s tys rows hm => hrw g k s tys rows (ois_sub (List.mem_of_getElem? k1) _ hm)) k2
    · cases e
  | tup => simp [AV.view] at e

theorem AVviewL_ok (hI : Inv C S w ρ R) {rw : List Pd} : ∀ {vs : List Value} {xs ys : List AV}, All2 (RdA S w ρ) vs xs → RwOk R rw (oisL xs) → AV.viewL R rw xs = some ys → All2 (RdA (lentS S ρ R) w []) vs ys
  | [], [], ys, _, _, e => by simp [AV.viewL] at e; subst e; trivial
  | v :: vs, d :: ds, ys, h, hrw, e => by
    simp only [AV.viewL] at e
    split at e
    · rename_i x l e1 e2
      simp at e; subst e
      exact ⟨AVview_ok hI h.1 (fun g k s tys rows hm => hrw g k s tys rows (by simp only [oisL]; exact List.mem_append_left _ hm)) e1, AVviewL_ok hI h.2 (fun g k s tys rows hm => hrw g k s tys rows (by simp only [oisL]; exact List.mem_append_right _ hm)) e2⟩
    · cases e
  | [], _ :: _, _, h, _, _ => h.elim
  | _ :: _, [], _, h, _, _ => h.elim

theorem dnorm_ois {d : D} : d.norm.ois = d.ois := by unfold D.norm; split <;> rfl
theorem dnormL_ois : ∀ {l : List D}, D.oisL (l.map D.norm) = D.oisL l
  | [] => rfl
  | d :: r => by simp only [List.map_cons, D.oisL, dnorm_ois, dnormL_ois]
theorem norm_ois {x : AV} : x.norm.ois = x.ois := by
  cases x with
  | d x => exact dnorm_ois
  | agg l => exact dnormL_ois
  | tup l => rfl
theorem normL_ois : ∀ {l : List AV}, oisL (l.map AV.norm) = oisL l
  | [] => rfl
  | d :: r => by simp only [List.map_cons, oisL, norm_ois, normL_ois]

theorem Rd.flat {v : Value} {d : D} (h : Rd S w ρ v d) (e : d.flat = true) : Rd S' w' ρ' v d := by
  unfold D.flat at e
  split at e
  · cases h with | p h => cases h with | v _ h => exact .p (.v _ h)
  · cases e
theorem flatL_get : ∀ {l : List AV}, AV.flatL l = true → ∀ {j : Nat} {a : AV}, l[j]? = some a → a.flat = true
  | [], _, j, a, h => by simp at h
  | x :: l, e, j, a, h => by
    simp only [AV.flatL, Bool.and_eq_true] at e
    cases j with
    | zero => simp at h; subst h; exact e.1
    | succ j => simp at h; exact flatL_get e.2 h
theorem RdA.flat {v : Value} {x : AV} (h : RdA S w ρ v x) : x.flat = true → RdA S' w' ρ' v x := by
  induction h with
  | d h => intro e; simp only [AV.flat] at e; exact .d (h.flat e)
  | agg h =>
    intro e
    simp only [AV.flat, List.all_eq_true] at e
    exact .agg (All2.of_get h.length fun j x d hx hd => (h.both hx hd).flat (e d (List.mem_of_getElem? hd)))
  | tup hl _ ih =>
    intro e
    simp only [AV.flat] at e
    exact .tup hl fun j x a hx ha => ih j x a hx ha (flatL_get e ha)

theorem nrm_ok {f : FuncId} {vs : List Value} {args : List AV} (h : All2 (RdA S w ρ) vs args) : All2 (RdA S w ρ) vs (nrm f args) := by
  unfold nrm
  cases rawF f with
  | true => exact h
  | false => exact h.map_right fun _ _ h => h.norm
theorem evCall_ok (hI : Inv C S w ρ R) {args : List AV} {vs : List Value} (hv : All2 (RdA S w ρ) vs args) {f : FuncId} {c : Cl} {out : Out} (h : evCall R args f c = some out)
    (hk : ∀ x, out.c = some x → x.ok P) :
    Enters P f ∧ Calls P f vs.toArray w fun e w' => ∃ v S' ρ', e = .returned v ∧ After C S w ρ out.R v out.v S' w' ρ' := by
  unfold evCall at h
  split at h
  · rename_i f' q1 res q2 q3 rw'
    cases hb : (Nat.beq f f' && res.flat) with
    | false => rw [hb] at h; simp at h
    | true =>
      rw [hb] at h
      simp only [cond_true] at h
      simp only [Bool.and_eq_true] at hb
      obtain ⟨args', rw2, rows, kk, e1, hrw, rfl⟩ : ∃ args' rw2 rows kk, AV.viewL R rw2 (args.map AV.norm) = some args' ∧ (rows[kk]? = some rw2 → RwOk R rw2 (oisL (args.map AV.norm))) ∧ out = ⟨res, R, some (.callB f args' res rows kk rw2)⟩ := by
        split at h
        · rename_i hois
          split at h
          · rename_i args' e1
            simp at h; subst h
            refine ⟨args', [], [[]], 0, e1, fun _ g k s tys rows hm => ?_, rfl⟩
            rw [normL_ois, hois] at hm
            cases hm
          · cases h
        · rename_i g k hois
          split at h
          · rename_i s tys rows args' hg e1
            simp at h; subst h
            refine ⟨args', rw', rows, k, e1, fun hr g' k' s' tys' rows' hm hg' => ?_, rfl⟩
            rw [normL_ois, hois] at hm
            simp at hm
            obtain ⟨rfl, rfl⟩ := hm
            rw [hg] at hg'; cases hg'
            exact hr
          · cases h
        · cases h
      · obtain ⟨⟨hent, hcall⟩, hrw0⟩ := hk _ rfl
        refine ⟨hent, ?_⟩
        have hnorm : All2 (RdA S w ρ) vs (args.map AV.norm) := hv.map_right fun _ _ h => h.norm
        have hst : Start (lentS S ρ R) w [] [] := ⟨rfl, by simp, by simp, by simp, fun b hb => by
          rcases hb with hb | ⟨i, r, h, h1, h2, h3⟩
          · exact (hI.sup b hb).1
          · exact (hI.own i r h b h1 h2 h3).2.1, hI.glOk.mono (fun _ h => .inl h) fun _ _ => rfl⟩
        refine (hcall _ w [] vs hst (AVviewL_ok hI hnorm (hrw hrw0) e1)).mono fun e w' hp => ?_
        obtain ⟨v, S', ρq, he, hr, hq⟩ := hp
        have hno : ∀ b, ¬ feet [] [] b := by rintro b ⟨i, r, h, h1, _⟩; simp at h1
        have hsame : ∀ b, b < w.heap.size → w'.heap[b]? = w.heap[b]? := fun b hb => hq.frm b hb (hno b)
        exact ⟨v, S, ρ, he, hI.grow (fun _ h => h) (fun _ h => .inl h) hsame hq.size hq.os hq.tape hq.output, fun _ h => h, fun b hb => hsame b (hI.sup b hb).1, Pre.refl _, hr.flat hb.2⟩
  · rename_i f' q1 q2 res R2 pi
    cases hb : (Nat.beq f f' && noDup pi && Nat.ble pi.length R2.length) with
    | false => rw [hb] at h; simp at h
    | true =>
      rw [hb] at h
      simp only [cond_true] at h
      simp only [Bool.and_eq_true] at hb
      obtain ⟨⟨hb1, hb2⟩, hb3⟩ := hb
      have hlen := Nat.le_of_ble_eq_true hb3
      split at h
      · rename_i args' Rp e1 e2
        split at h
        · rename_i Rp' res' R2' e3 e4 e5
          simp at h; subst h
          obtain ⟨hent, hcall⟩ := hk _ rfl
          refine ⟨hent, ?_⟩
          obtain ⟨st, hid, _⟩ := hI.start hb2 e2 e3
          have hargs : All2 (RdA S w (hands ρ pi)) vs args' := by
            obtain ⟨g1, g2⟩ := avRenL_get e1
            have hn := nrm_ok (f := f) hv
            refine All2.of_get (by rw [hn.length, g1]) fun j x d hx hd => ?_
            obtain ⟨d0, k1, k2⟩ := g2 j d hd
            exact (hn.both hx k1).ren hid d k2
          refine (hcall S w (hands ρ pi) vs st hargs).mono fun e w' hp => ?_
          obtain ⟨v, S', ρq, he, hr, hq⟩ := hp
          obtain ⟨b1, b2, b3, b4, b5⟩ := hI.back hb2 e2 e3 hq hlen e5
          exact ⟨v, S', _, he, b1, b2, b3, b4, hr.ren b5 _ e4⟩
        · cases h
      · cases h
  · cases h

/-! ### making slices -/
theorem dPs_ok : ∀ {ds : List D} {ps : List Pd} {vs : List Value}, dPs ds = some ps → All2 (Rd S w ρ) vs ds → All2 (RdP S w) vs ps
  | [], ps, vs, h, hv => by simp [dPs] at h; subst h; cases vs with | nil => trivial | cons => exact hv.elim
  | d :: r, ps, vs, h, hv => by
    simp only [dPs] at h
    split at h
    · rename_i x l h1 h2
      simp at h; subst h
      cases vs with
      | nil => exact hv.elim
      | cons v vs =>
        refine ⟨?_, dPs_ok h2 hv.2⟩
        unfold dP at h1
        split at h1
        · simp at h1; subst h1; exact hv.1.p_inv
        · rename_i f
          simp at h1; subst h1
          have hfn := hv.1
          cases hfn with
          | @fn _ xs cs _ _ hl hm hx hc =>
            have e1 : xs = [] := List.eq_nil_of_length_eq_zero (by simpa using hl)
            have e2 : cs = [] := List.eq_nil_of_length_eq_zero (by simpa using hm)
            subst e1; subst e2
            exact .v _ rfl
        · cases h1
    · cases h

/-- cells in a new block read as rows -/
theorem sl_new {e size n cap : Nat} {cs : Array Value} {ps : List Pd} (hp : All2 (RdP S w) cs.toList ps) (hl : cs.size = cap * size) (hn : n ≤ cap) (hm : cap ≤ maxLen) (hb : ∀ b, S b → b < w.heap.size) :
    (Res.sl e size (chunks size n (ps.take (n * size)))).ok0 S (w.alloc (.cells cs e)) (ρ ++ [.slice (some ⟨w.heap.size, 0, none⟩) n cap]) (.slice (some ⟨w.heap.size, 0, none⟩) n cap) := by
  have hpl : ps.length = cap * size := by rw [← hp.length]; simpa using hl
  have hle : n * size ≤ cap * size := Nat.mul_le_mul_right _ hn
  refine .inr ⟨w.heap.size, 0, cap, cs, by rw [chunks_length], .of (halloc_new _ _), by rw [chunks_length]; exact hn, hm, by omega, chunks_mem size n _ (by simp; omega), fun i row hi j d hj => ?_⟩
  have := chunks_get size n _ i row hi
  subst this
  rw [List.getElem?_take] at hj
  split at hj
  · rw [List.getElem?_drop, List.getElem?_take] at hj
    split at hj
    · obtain ⟨x, hx, hr⟩ := hp.get hj
      refine ⟨x, by simpa [Nat.zero_add] using hx, hr.mono (fun _ h => h) fun b h => halloc_old _ _ _ (hb b h)⟩
    · cases hj
  · cases hj

theorem Inv.newSl (hI : Inv C S w ρ R) {e size n cap : Nat} {cs : Array Value} {ps : List Pd} (hp : All2 (RdP S w) cs.toList ps) (hl : cs.size = cap * size) (hn : n ≤ cap) (hm : cap ≤ maxLen) :
    After C S w ρ (R ++ [.sl e size (chunks size n (ps.take (n * size)))]) (.slice (some ⟨w.heap.size, 0, none⟩) n cap) (.d (.os R.length)) S (w.alloc (.cells cs e)) (ρ ++ [.slice (some ⟨w.heap.size, 0, none⟩) n cap]) := by
  have hw : ∀ b, S b → (w.alloc (.cells cs e)).heap[b]? = w.heap[b]? := fun b hb => halloc_old _ _ _ (hI.sup b hb).1
  refine ⟨hI.push _ _ (fun b hb => halloc_old _ _ _ hb) (by simp) rfl ⟨rfl, fun _ => by first | exact Nat.le_refl _ | exact Nat.le_succ _⟩ rfl (.inr (sl_new hp hl hn hm fun b hb => (hI.sup b hb).1)) ?_, fun _ h => h, hw, Pre.append _ _, .d (.os ?_ rfl)⟩
  · intro b hb
    simp [Res.foot] at hb; subst hb
    simp
  · rw [← hI.len]; simp

/-- the same, read for ever -/
theorem Inv.newImm (hI : Inv C S w ρ R) {e size n : Nat} {cs : Array Value} {ps : List Pd} (hp : All2 (RdP S w) cs.toList ps) (hl : cs.size = n * size) (hm : n ≤ maxLen) :
    After C S w ρ R (.slice (some ⟨w.heap.size, 0, none⟩) n n) (.d (.p (.s (chunks size n ps)))) (fun b => S b ∨ b = w.heap.size) (w.alloc (.cells cs e)) ρ := by
  have hpl : ps.length = n * size := by rw [← hp.length]; simpa using hl
  have hw : ∀ b, S b → (w.alloc (.cells cs e)).heap[b]? = w.heap[b]? := fun b hb => halloc_old _ _ _ (hI.sup b hb).1
  have hok := sl_new (e := e) (ρ := ρ) (n := n) (cap := n) hp hl (Nat.le_refl _) hm (fun b hb => (hI.sup b hb).1)
  have htake : ps.take (n * size) = ps := List.take_of_length_le (by omega)
  rw [htake] at hok
  have hfr := Res.ok0.frozen hok
  refine ⟨hI.grow (fun _ h => .inl h) (fun b hb => ?_) (fun b hb => halloc_old _ _ _ hb) (by simp) rfl ⟨rfl, fun _ => by first | exact Nat.le_refl _ | exact Nat.le_succ _⟩ rfl, fun _ h => .inl h, hw, Pre.refl _, .d (.p (hfr.mono (fun b hb => ?_) fun _ _ => rfl))⟩
  · rcases hb with hb | hb
    · exact .inl hb
    · subst hb; exact .inr ⟨Nat.le_refl _, by simp⟩
  · rcases hb with hb | hb
    · exact .inl hb
    · simp [Res.foot] at hb; exact .inr hb.symm
end
end Go.SL
