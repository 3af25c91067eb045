/-
  The logic, ninth part: the evaluator is right for the operations that make or write things of our own, and for calls.
-/
import Derived.Test.YtakbldjmgfcipaaDoorSlH
namespace Go.SL

section
variable {P : Program} {C : Ctx} {S S' : Nat → Prop} {w w' : World} {ρ ρ' : List Value} {R : List Res} {L : List Ent} {cur : Path} {a : Act}

theorem halloc_old (w : World) (o : Obj) (b : Nat) (h : b < w.heap.size) : (w.alloc o).heap[b]? = w.heap[b]? := Go.RowKit.Below.heap_alloc w o b h
theorem halloc_new (w : World) (o : Obj) : (w.alloc o).heap[w.heap.size]? = some o := Go.heap_alloc_new w o

/-- what an operation leaves -/
structure After (C : Ctx) (S : Nat → Prop) (w : World) (ρ : List Value) (R2 : List Res) (v : Value) (av : AV) (S' : Nat → Prop) (w' : World) (ρ' : List Value) : Prop where
  inv : Inv C S' w' ρ' R2
  sub : ∀ b, S b → S' b
  same : ∀ b, S b → w'.heap[b]? = w.heap[b]?
  pre : Pre ρ ρ'
  rd : RdA S' w' ρ' v av

theorem Inv.newBox (hI : Inv C S w ρ R) {t : TypeId} {vs : Array Value} {cells : List D} (hc : All2 (Rd S w ρ) vs.toList cells) :
    After C S w ρ (R ++ [.box t cells]) (.pointer (some ⟨w.heap.size, 0, none⟩)) (.d (.o R.length 0)) S (w.alloc (.cells vs t)) (ρ ++ [.pointer (some ⟨w.heap.size, 0, none⟩)]) := by
  have hw : ∀ b, S b → (w.alloc (.cells vs t)).heap[b]? = w.heap[b]? := fun b hb => halloc_old _ _ _ (hI.sup b hb).1
  refine ⟨hI.push _ _ (fun b hb => halloc_old _ _ _ hb) (by simp) rfl rfl rfl ?_ ?_, fun _ h => h, hw, Pre.append _ _, .d (.o ?_)⟩
  · exact .inr ⟨_, vs, rfl, halloc_new _ _, hc.mono fun _ _ h => h.mono (fun _ h => h) hw (Pre.append _ _)⟩
  · intro b hb
    simp [Res.foot] at hb; subst hb
    simp
  · rw [← hI.len]; simp

theorem run_storeCells' {g o : Nat} {t : TypeId} {vs : List Value} {cur : Array Value} (h : w.heap[g]? = some (.cells cur t (0, 0))) (hl : o + vs.length ≤ cur.size) (h1 : ∀ v, v ∈ vs → v.oneCell' = true) :
    (storeCells ⟨g, o, none⟩ vs).run P w = .ok () (w.setRow g (cur.toList.take o ++ vs ++ cur.toList.drop (o + vs.length)).toArray) := by
  have := run_storeCells_at P g o t vs 0 cur w h (by simpa using hl) h1
  simpa using this

theorem mem_one {vs : List Value} {ds : List D} (h : All2 (Rd S w ρ) vs ds) : ∀ v, v ∈ vs → v.oneCell' = true := by
  induction vs generalizing ds with
  | nil => simp
  | cons x xs ih => cases ds with
    | nil => exact h.elim
    | cons d ds =>
      intro v hv
      rcases List.mem_cons.1 hv with rfl | hv
      · exact h.1.one
      · exact ih h.2 v hv

theorem run_storeVar' {t : TypeId} {v : Value} {n g o : Nat} {u : TypeId} {cur : Array Value} (hn : tySize P t = some n) (hv : v.cells.size = n) (h : w.heap[g]? = some (.cells cur u (0, 0))) (hl : o + n ≤ cur.size)
    (h1 : ∀ x, x ∈ v.cells.toList → x.oneCell' = true) :
    (storeVar t ⟨g, o, none⟩ v).run P w = .ok () (w.setRow g (cur.toList.take o ++ v.cells.toList ++ cur.toList.drop (o + v.cells.toList.length)).toArray) := by
  have := run_storeCells' (P := P) (w := w) (g := g) (o := o) (t := u) (vs := v.cells.toList) (cur := cur) h (by simpa [hv] using hl) h1
  simp only [storeVar, Sem.run_bind, run_sizeOf' hn, Result.andThen_ok]
  rw [if_neg (by simpa using hv)]
  exact this

theorem Inv.store (hI : Inv C S w ρ R) {i off n b : Nat} {t u : TypeId} {cells ds : List D} {v : Value} (hi : R[i]? = some (.box u cells)) (hρ : ρ[i]? = some (.pointer (some ⟨b, 0, none⟩)))
    (hv : All2 (Rd S w ρ) v.cells.toList ds) (hn : tySize P t = some n) (hl : ds.length = n) (ho : off + n ≤ cells.length) :
    ∃ w', (storeVar t ⟨b, off, none⟩ v).run P w = .ok () w' ∧ Inv C S w' ρ (R.set i (.box u (splice cells off ds))) ∧ (∀ k, S k → w'.heap[k]? = w.heap[k]?) := by
  obtain ⟨vs, h1, h2⟩ := box_cells hI hi hρ
  have hsz : v.cells.size = n := by have := hv.length; simpa [hl] using this
  have hcl : vs.size = cells.length := by have := h2.length; simpa using this
  refine ⟨_, run_storeVar' hn hsz h1 (by omega) (mem_one hv), ?_, ?_⟩
  · have hS : ∀ k, k ≠ b → (w.setRow b (vs.toList.take off ++ v.cells.toList ++ vs.toList.drop (off + v.cells.toList.length)).toArray).heap[k]? = w.heap[k]? := fun k hk => heap_setRow_other _ _ _ _ hk
    have ob := hI.own i _ _ b hi hρ rfl
    refine hI.put hi hρ (b := b) rfl (fun k hk => by simp [Res.foot] at hk; exact hk.symm) hS (by simp) rfl rfl rfl ?_
    refine .inr ⟨b, _, rfl, heap_setRow_same _ _ _ _ _ _ h1, ?_⟩
    have hm : ∀ x d, Rd S w ρ x d → Rd S (w.setRow b (vs.toList.take off ++ v.cells.toList ++ vs.toList.drop (off + v.cells.toList.length)).toArray) ρ x d := fun x d h =>
      h.mono (fun _ h => h) (fun k hk => hS k (fun e => ob.1 (e ▸ hk))) (Pre.refl _)
    unfold splice
    have hd : All2 (Rd S w ρ) (vs.toList.drop (off + v.cells.toList.length)) (cells.drop (off + ds.length)) := by
      rw [hv.length]
      exact h2.drop _
    have := ((h2.take off).append (hv.append hd)).mono hm
    simpa using this
  · intro k hk
    exact heap_setRow_other _ _ _ _ (fun e => (hI.own i _ _ b hi hρ rfl).1 (e ▸ hk))

theorem evCall_ok (hI : Inv C S w ρ R) {args : List AV} {vs : List Value} (hv : All2 (RdA S w ρ) vs args) {f : FuncId} {c : Cl} {out : Out} (h : evCall R args f c = some out)
    (hk : ∀ x, out.c = some x → x.ok P) :
    Enters P f ∧ Calls P f vs.toArray w fun e w' => ∃ v S' ρ', e = .returned v ∧ After C S w ρ out.R v out.v S' w' ρ' := by
  unfold evCall at h
  split at h
  · rename_i f' q1 q2 res R2 pi
    cases hb : (Nat.beq f f' && noDup pi && Nat.ble pi.length R2.length) with
    | false => rw [hb] at h; simp at h
    | true =>
      rw [hb] at h
      simp only [cond_true] at h
      simp only [Bool.and_eq_true] at hb
      obtain ⟨⟨hb1, hb2⟩, hb3⟩ := hb
      have hlen := Nat.le_of_ble_eq_true hb3
      split at h
      · rename_i args' Rp e1 e2
        split at h
        · rename_i Rp' res' R2' e3 e4 e5
          simp at h; subst h
          obtain ⟨hent, hcall⟩ := hk _ rfl
          refine ⟨hent, ?_⟩
          obtain ⟨st, hid, _⟩ := hI.start hb2 e2 e3
          have hargs : All2 (RdA S w (hands ρ pi)) vs args' := by
            obtain ⟨g1, g2⟩ := avRenL_get e1
            refine All2.of_get (by rw [hv.length, g1]; simp) fun j x d hx hd => ?_
            obtain ⟨d0, k1, k2⟩ := g2 j d hd
            rw [List.getElem?_map] at k1
            obtain ⟨d1, k3, k4⟩ := mapE k1
            subst k4
            exact ((hv.both hx k3).norm).ren hid d k2
          refine (hcall S w (hands ρ pi) vs st hargs).mono fun e w' hp => ?_
          obtain ⟨v, S', ρq, he, hr, hq⟩ := hp
          obtain ⟨b1, b2, b3, b4, b5⟩ := hI.back hb2 e2 e3 hq hlen e5
          exact ⟨v, S', _, he, b1, b2, b3, b4, hr.ren b5 _ e4⟩
        · cases h
      · cases h
  · cases h

/-! ### making slices -/
theorem dPs_ok : ∀ {ds : List D} {ps : List Pd} {vs : List Value}, dPs ds = some ps → All2 (Rd S w ρ) vs ds → All2 (RdP S w) vs ps
  | [], ps, vs, h, hv => by simp [dPs] at h; subst h; cases vs with | nil => trivial | cons => exact hv.elim
  | d :: r, ps, vs, h, hv => by
    simp only [dPs] at h
    split at h
    · rename_i x l h1 h2
      simp at h; subst h
      cases vs with
      | nil => exact hv.elim
      | cons v vs =>
        refine ⟨?_, dPs_ok h2 hv.2⟩
        unfold dP at h1
        split at h1
        · simp at h1; subst h1; exact hv.1.p_inv
        · cases h1
    · cases h

theorem chunks_length {α : Type} (size : Nat) : ∀ (n : Nat) (l : List α), (chunks size n l).length = n
  | 0, _ => rfl
  | n + 1, l => by simp [chunks, chunks_length size n]
theorem chunks_get {α : Type} (size : Nat) : ∀ (n : Nat) (l : List α) (i : Nat) (row : List α), (chunks size n l)[i]? = some row → row = (l.drop (i * size)).take size
  | 0, _, _, _, h => by simp [chunks] at h
  | n + 1, l, 0, row, h => by simp [chunks] at h; simp [h]
  | n + 1, l, i + 1, row, h => by
    simp only [chunks, List.getElem?_cons_succ] at h
    have := chunks_get size n (l.drop size) i row h
    rw [this, List.drop_drop]
    congr 2
    rw [Nat.add_mul]; omega
theorem chunks_mem {α : Type} (size : Nat) : ∀ (n : Nat) (l : List α), l.length = n * size → ∀ row, row ∈ chunks size n l → row.length = size
  | 0, _, _, row, h => by simp [chunks] at h
  | n + 1, l, hl, row, h => by
    simp only [chunks, List.mem_cons] at h
    rw [Nat.add_mul] at hl
    rcases h with rfl | h
    · simp; omega
    · exact chunks_mem size n (l.drop size) (by simp; omega) row h

/-- cells in a new block read as rows -/
theorem sl_new {e size n cap : Nat} {cs : Array Value} {ps : List Pd} (hp : All2 (RdP S w) cs.toList ps) (hl : cs.size = cap * size) (hn : n ≤ cap) (hm : cap ≤ maxLen) (hb : ∀ b, S b → b < w.heap.size) :
    (Res.sl e size (chunks size n (ps.take (n * size)))).ok0 S (w.alloc (.cells cs e)) (ρ ++ [.slice (some ⟨w.heap.size, 0, none⟩) n cap]) (.slice (some ⟨w.heap.size, 0, none⟩) n cap) := by
  have hpl : ps.length = cap * size := by rw [← hp.length]; simpa using hl
  have hle : n * size ≤ cap * size := Nat.mul_le_mul_right _ hn
  refine .inr ⟨w.heap.size, 0, cap, cs, by rw [chunks_length], halloc_new _ _, by rw [chunks_length]; exact hn, hm, by omega, chunks_mem size n _ (by simp; omega), fun i row hi j d hj => ?_⟩
  have := chunks_get size n _ i row hi
  subst this
  rw [List.getElem?_take] at hj
  split at hj
  · rw [List.getElem?_drop, List.getElem?_take] at hj
    split at hj
    · obtain ⟨x, hx, hr⟩ := hp.get hj
      refine ⟨x, by simpa [Nat.zero_add] using hx, hr.mono (fun _ h => h) fun b h => halloc_old _ _ _ (hb b h)⟩
    · cases hj
  · cases hj

theorem Inv.newSl (hI : Inv C S w ρ R) {e size n cap : Nat} {cs : Array Value} {ps : List Pd} (hp : All2 (RdP S w) cs.toList ps) (hl : cs.size = cap * size) (hn : n ≤ cap) (hm : cap ≤ maxLen) :
    After C S w ρ (R ++ [.sl e size (chunks size n (ps.take (n * size)))]) (.slice (some ⟨w.heap.size, 0, none⟩) n cap) (.d (.os R.length)) S (w.alloc (.cells cs e)) (ρ ++ [.slice (some ⟨w.heap.size, 0, none⟩) n cap]) := by
  have hw : ∀ b, S b → (w.alloc (.cells cs e)).heap[b]? = w.heap[b]? := fun b hb => halloc_old _ _ _ (hI.sup b hb).1
  refine ⟨hI.push _ _ (fun b hb => halloc_old _ _ _ hb) (by simp) rfl rfl rfl (.inr (sl_new hp hl hn hm fun b hb => (hI.sup b hb).1)) ?_, fun _ h => h, hw, Pre.append _ _, .d (.os ?_ rfl)⟩
  · intro b hb
    simp [Res.foot] at hb; subst hb
    simp
  · rw [← hI.len]; simp

/-- the same, read for ever -/
theorem Inv.newImm (hI : Inv C S w ρ R) {e size n : Nat} {cs : Array Value} {ps : List Pd} (hp : All2 (RdP S w) cs.toList ps) (hl : cs.size = n * size) (hm : n ≤ maxLen) :
    After C S w ρ R (.slice (some ⟨w.heap.size, 0, none⟩) n n) (.d (.p (.s (chunks size n ps)))) (fun b => S b ∨ b = w.heap.size) (w.alloc (.cells cs e)) ρ := by
  have hpl : ps.length = n * size := by rw [← hp.length]; simpa using hl
  have hw : ∀ b, S b → (w.alloc (.cells cs e)).heap[b]? = w.heap[b]? := fun b hb => halloc_old _ _ _ (hI.sup b hb).1
  have hok := sl_new (e := e) (ρ := ρ) (n := n) (cap := n) hp hl (Nat.le_refl _) hm (fun b hb => (hI.sup b hb).1)
  have htake : ps.take (n * size) = ps := List.take_of_length_le (by omega)
  rw [htake] at hok
  have hfr := Res.ok0.frozen hok
  refine ⟨hI.grow (fun _ h => .inl h) (fun b hb => ?_) (fun b hb => halloc_old _ _ _ hb) (by simp) rfl rfl rfl, fun _ h => .inl h, hw, Pre.refl _, .d (.p (hfr.mono (fun b hb => ?_) fun _ _ => rfl))⟩
  · rcases hb with hb | hb
    · exact .inl hb
    · subst hb; exact .inr ⟨Nat.le_refl _, by simp⟩
  · rcases hb with hb | hb
    · exact .inl hb
    · simp [Res.foot] at hb; exact .inr hb.symm
end
end Go.SL
