/-
  The logic, second part: how the invariant is kept by a new box, a store into a box, a new own slice, a frozen thing.
-/
import Derived.Test.YtopmfoohdkjgmaaGreatDoorSlA
namespace Go.SL

theorem heap_setRow_same (w : World) (g : Nat) (cs old : Array Value) (t : TypeId) (fr : Nat × Nat) (h : w.heap[g]? = some (.cells old t fr)) :
    (w.setRow g cs).heap[g]? = some (.cells cs t fr) := by
  simp [World.setRow, Array.getElem?_modify, h]
theorem heap_setRow_other (w : World) (g k : Nat) (cs : Array Value) (h : k ≠ g) : (w.setRow g cs).heap[k]? = w.heap[k]? := by
  simp [World.setRow, Array.getElem?_modify, Ne.symm h]

/-- a block of cells reads so -/
theorem cell_blk {w : World} {b : Nat} {cs : Array Value} {t : TypeId} {fr : Nat × Nat} (h : w.heap[b]? = some (.cells cs t fr)) (j : Nat) : w.cell? ⟨b, j, none⟩ = cs[j]? :=
  cell_of_row w b j cs t fr h
theorem Blk.cell {w : World} {b : Nat} {cs : Array Value} {t : TypeId} (h : Blk w b cs t) (j : Nat) : w.cell? ⟨b, j, none⟩ = cs[j]? := by
  obtain ⟨fr, h1, _⟩ := h
  exact cell_blk h1 j
theorem Blk.put {w : World} {b : Nat} {cs old : Array Value} {t : TypeId} (h : Blk w b old t) (hs : cs.size = old.size) : Blk (w.setRow b cs) b cs t := by
  obtain ⟨fr, h1, h2⟩ := h
  exact ⟨fr, heap_setRow_same _ _ _ _ _ _ h1, h2.1.imp id (fun h => by omega), h2.2⟩

section
variable {C : Ctx} {S S' : Nat → Prop} {w w' : World} {ρ ρ' : List Value} {R R2 : List Res}

theorem get_snoc {α : Type} {l : List α} {x y : α} {i : Nat} (h : (l ++ [x])[i]? = some y) : l[i]? = some y ∨ i = l.length ∧ y = x := by
  grind

/-- one thing more, in new blocks -/
theorem Inv.push (h : Inv C S w ρ R) (r : Res) (v : Value) (hw : ∀ b, b < w.heap.size → w'.heap[b]? = w.heap[b]?) (hsz : w.heap.size ≤ w'.heap.size)
    (ho : w'.os = w.os) (ht : Tp w w') (hp : w'.output = w.output) (hok : r.ok S w' (ρ ++ [v]) v)
    (hf : ∀ b, r.foot v b → w.heap.size ≤ b ∧ b < w'.heap.size) : Inv C S w' (ρ ++ [v]) (R ++ [r]) where
  len := by simp [h.len]
  ok i r' v' h1 h2 := by
    rcases get_snoc h1 with h1 | ⟨rfl, rfl⟩
    · rcases get_snoc h2 with h2 | ⟨rfl, rfl⟩
      · exact (h.ok i r' v' h1 h2).mono (fun _ h => h) (fun b hb => hw b (h.sup b hb).1) (Pre.append _ _) (fun b hb => hw b (h.own i r' v' b h1 h2 hb).2.1)
      · have := (List.getElem?_eq_some_iff.1 h1).1; rw [h.len] at this; omega
    · rcases get_snoc h2 with h2 | ⟨_, rfl⟩
      · have := (List.getElem?_eq_some_iff.1 h2).1; rw [h.len] at this; omega
      · exact hok
  dis i j r1 r2 v1 v2 b hij h1 h2 h3 h4 h5 h6 := by
    have key : ∀ (i : Nat) r1 v1, (R ++ [r])[i]? = some r1 → (ρ ++ [v])[i]? = some v1 → r1.foot v1 b → (R[i]? = some r1 ∧ ρ[i]? = some v1 ∧ b < w.heap.size) ∨ (i = R.length ∧ w.heap.size ≤ b) := by
      intro i r1 v1 h1 h3 h5
      rcases get_snoc h1 with h1 | ⟨rfl, rfl⟩
      · rcases get_snoc h3 with h3 | ⟨rfl, rfl⟩
        · exact .inl ⟨h1, h3, (h.own i r1 v1 b h1 h3 h5).2.1⟩
        · have := (List.getElem?_eq_some_iff.1 h1).1; rw [h.len] at this; omega
      · rcases get_snoc h3 with h3 | ⟨_, rfl⟩
        · have := (List.getElem?_eq_some_iff.1 h3).1; rw [h.len] at this; omega
        · exact .inr ⟨rfl, (hf b h5).1⟩
    rcases key i r1 v1 h1 h3 h5 with ⟨a1, a2, a3⟩ | ⟨a1, a2⟩
    · rcases key j r2 v2 h2 h4 h6 with ⟨b1, b2, b3⟩ | ⟨b1, b2⟩
      · exact h.dis i j r1 r2 v1 v2 b hij a1 b1 a2 b2 h5 h6
      · omega
    grind
  own i r' v' b h1 h2 h3 := by
    rcases get_snoc h1 with h1 | ⟨rfl, rfl⟩
    · rcases get_snoc h2 with h2 | ⟨rfl, rfl⟩
      · obtain ⟨k1, k2, k3⟩ := h.own i r' v' b h1 h2 h3
        exact ⟨k1, Nat.lt_of_lt_of_le k2 hsz, k3⟩
      · have := (List.getElem?_eq_some_iff.1 h1).1; rw [h.len] at this; omega
    · rcases get_snoc h2 with h2 | ⟨_, rfl⟩
      · have := (List.getElem?_eq_some_iff.1 h2).1; rw [h.len] at this; omega
      · obtain ⟨k1, k2⟩ := hf b h3
        exact ⟨fun hb => by have := (h.sup b hb).1; omega, k2, .inr (Nat.le_trans h.size k1)⟩
  sub := h.sub
  sup b hb := ⟨Nat.lt_of_lt_of_le (h.sup b hb).1 hsz, (h.sup b hb).2⟩
  frm b hb hf := (hw b (Nat.lt_of_lt_of_le hb h.size)).trans (h.frm b hb hf)
  size := Nat.le_trans h.size hsz
  os := ho.trans h.os
  tape := ht.trans h.tape
  output := hp.trans h.output
  pre := h.pre.trans (Pre.append _ _)
  gl := h.gl

/-- a thing is written: its own block alone turns -/
theorem Inv.put (h : Inv C S w ρ R) {i : Nat} {r r' : Res} {v : Value} (hi : R[i]? = some r) (hv : ρ[i]? = some v) {b : Nat} (hb : r.foot v b) (hb' : ∀ k, r'.foot v k → k = b)
    (hw : ∀ k, k ≠ b → w'.heap[k]? = w.heap[k]?) (hsz : w'.heap.size = w.heap.size) (ho : w'.os = w.os) (ht : Tp w w') (hp : w'.output = w.output)
    (hok : r'.ok S w' ρ v) : Inv C S w' ρ (R.set i r') := by
  obtain ⟨o1, o2, o3⟩ := h.own i r v b hi hv hb
  have hS : ∀ k, S k → w'.heap[k]? = w.heap[k]? := fun k hk => hw k (fun e => o1 (e ▸ hk))
  have key : ∀ (j : Nat) r1 v1, (R.set i r')[j]? = some r1 → ρ[j]? = some v1 → (j = i ∧ r1 = r' ∧ v1 = v) ∨ (j ≠ i ∧ R[j]? = some r1) := by
    grind
  refine ⟨by simp [h.len], ?_, ?_, ?_, h.sub, ?_, ?_, by rw [hsz]; exact h.size, ho.trans h.os, ht.trans h.tape, hp.trans h.output, h.pre, h.gl⟩
  · intro j r1 v1 h1 h2
    rcases key j r1 v1 h1 h2 with ⟨rfl, rfl, rfl⟩ | ⟨hj, h1⟩
    · exact hok
    · refine (h.ok j r1 v1 h1 h2).mono (fun _ h => h) hS (Pre.refl _) (fun k hk => hw k (fun e => ?_))
      subst e
      exact h.dis j i r1 r v1 v k hj h1 hi h2 hv hk hb
  · intro j k r1 r2 v1 v2 c hjk h1 h2 h3 h4 h5 h6
    rcases key j r1 v1 h1 h3 with ⟨ej, er, ev⟩ | ⟨hj, g1⟩
    · rcases key k r2 v2 h2 h4 with ⟨ek, er2, ev2⟩ | ⟨hk, g2⟩
      · exact hjk (ej.trans ek.symm)
      · subst er; subst ev
        exact h.dis i k r r2 v1 v2 c (Ne.symm hk) hi g2 hv h4 (by rw [hb' c h5]; exact hb) h6
    · rcases key k r2 v2 h2 h4 with ⟨ek, er2, ev2⟩ | ⟨hk, g2⟩
      · subst er2; subst ev2
        exact h.dis j i r1 r v1 v2 c hj g1 hi h3 hv h5 (by rw [hb' c h6]; exact hb)
      · exact h.dis j k r1 r2 v1 v2 c hjk g1 g2 h3 h4 h5 h6
  · intro j r1 v1 c h1 h2 h3
    rcases key j r1 v1 h1 h2 with ⟨rfl, rfl, rfl⟩ | ⟨hj, h1⟩
    · grind
    · rw [hsz]
      exact h.own j r1 v1 c h1 h2 h3
  · intro c hc
    rw [hsz]
    exact h.sup c hc
  · intro c hc hf
    refine (hw c (fun e => ?_)).trans (h.frm c hc hf)
    subst e
    rcases o3 with o3 | o3
    · exact hf o3
    · omega

/-- a thing is given up: what it was is read for ever -/
theorem Inv.freeze (h : Inv C S w ρ R) {i : Nat} {r : Res} {v : Value} (hi : R[i]? = some r) (hv : ρ[i]? = some v) :
    Inv C (fun b => S b ∨ r.foot v b) w ρ (R.set i .non) := by
  have key : ∀ (j : Nat) r1, (R.set i .non)[j]? = some r1 → r1 = .non ∨ (j ≠ i ∧ R[j]? = some r1) := by
    grind
  refine ⟨by simp [h.len], ?_, ?_, ?_, fun b hb => .inl (h.sub b hb), ?_, h.frm, h.size, h.os, h.tape, h.output, h.pre, h.gl⟩
  · intro j r1 v1 h1 h2
    rcases key j r1 h1 with rfl | ⟨hj, h1⟩
    · exact .inr trivial
    · exact (h.ok j r1 v1 h1 h2).mono (fun _ h => .inl h) (fun _ _ => rfl) (Pre.refl _) (fun _ _ => rfl)
  · intro j k r1 r2 v1 v2 c hjk h1 h2 h3 h4 h5 h6
    rcases key j r1 h1 with rfl | ⟨hj, h1⟩
    · simp [Res.foot] at h5
    · rcases key k r2 h2 with rfl | ⟨hk, h2⟩
      · simp [Res.foot] at h6
      · exact h.dis j k r1 r2 v1 v2 c hjk h1 h2 h3 h4 h5 h6
  · intro j r1 v1 c h1 h2 h3
    rcases key j r1 h1 with rfl | ⟨hj, h1⟩
    · simp [Res.foot] at h3
    · obtain ⟨k1, k2, k3⟩ := h.own j r1 v1 c h1 h2 h3
      refine ⟨fun hc => ?_, k2, k3⟩
      rcases hc with hc | hc
      · exact k1 hc
      · exact h.dis j i r1 r v1 v c hj h1 hi h2 hv h3 hc
  · intro c hc
    rcases hc with hc | hc
    · obtain ⟨k1, k2⟩ := h.sup c hc
      exact ⟨k1, k2.imp id (fun k => k)⟩
    · obtain ⟨k1, k2, k3⟩ := h.own i r v c hi hv hc
      exact ⟨k2, .inr k3⟩

/-- a frozen own slice reads as its rows -/
theorem Res.ok0.frozen {e size : Nat} {rows : List (List Pd)} {v : Value} (h : (Res.sl e size rows).ok0 S w ρ v) :
    RdP (fun b => S b ∨ (Res.sl e size rows).foot v b) w v (.s rows) := by
  rcases h with ⟨rfl, rfl⟩ | ⟨b, o, cap, vs, rfl, hb, h1, h2, h3, h4, h5⟩
  · exact .s none ⟨0, 0, none⟩ 0 0 [] (fun _ _ => undef) (Nat.le_refl _) (by simp [maxLen]) (fun _ => rfl) (by simp) (by simp) (by simp)
  · refine .s (some ⟨b, o, none⟩) ⟨b, o, none⟩ cap size rows (fun i j => vs.getD (o + i * size + j) undef) h1 h2 (by simp) h4 (fun i row hi j d hj => ?_) (fun i row hi j d hj => ?_)
    · obtain ⟨x, hx, _⟩ := h5 i row hi j d hj
      refine ⟨rfl, .inr rfl, ?_⟩
      rw [add_mk, hb.cell, ← Nat.add_assoc, hx]
      simp [Array.getD_eq_getD_getElem?, hx]
    · obtain ⟨x, hx, hr⟩ := h5 i row hi j d hj
      rw [Array.getD_eq_getD_getElem?, hx]
      exact hr.mono (fun _ h => .inl h) (fun _ _ => rfl)
/-- fresh zeros are read as they are -/
theorem zOk.frozen {e size : Nat} {rows : List (List Pd)} {v : Value} (h : zOk w e size rows v) : RdP (fun b => S b ∨ slFoot v b) w v (.s rows) := by
  rcases h with ⟨rfl, rfl⟩ | ⟨b, o, cap, vs, rfl, hb, h1, h2, h3, h4, h5⟩
  · exact .s none ⟨0, 0, none⟩ 0 0 [] (fun _ _ => undef) (Nat.le_refl _) (by simp [maxLen]) (fun _ => rfl) (by simp) (by simp) (by simp)
  · refine .s (some ⟨b, o, none⟩) ⟨b, o, none⟩ cap size rows (fun i j => vs.getD (o + i * size + j) undef) h1 h2 (by simp) h4 (fun i row hi j d hj => ?_) (fun i row hi j d hj => ?_)
    · obtain ⟨x, hx, _⟩ := h5 i row hi j d hj
      refine ⟨rfl, .inr rfl, ?_⟩
      rw [add_mk, cell_blk hb, ← Nat.add_assoc, hx]
      simp [Array.getD_eq_getD_getElem?, hx]
    · obtain ⟨x, hx, hr⟩ := h5 i row hi j d hj
      rw [Array.getD_eq_getD_getElem?, hx]
      cases d with
      | v y => obtain ⟨rfl, g, _⟩ := hr; exact .v _ g
      | s r =>
        obtain ⟨rfl, rfl⟩ := hr
        exact .s none ⟨0, 0, none⟩ 0 0 [] (fun _ _ => undef) (Nat.le_refl _) (by simp [maxLen]) (fun _ => rfl) (by simp) (by simp) (by simp)
end
end Go.SL
