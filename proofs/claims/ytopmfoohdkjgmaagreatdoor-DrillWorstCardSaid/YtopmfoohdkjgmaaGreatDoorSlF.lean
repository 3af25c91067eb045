/-
  The logic, sixth part: the evaluator is right for every operation that writes nothing.
-/
import Derived.Test.YtopmfoohdkjgmaaGreatDoorSlE
namespace Go.SL

section
variable {P : Program} {C : Ctx} {S : Nat → Prop} {w : World} {ρ : List Value} {R : List Res} {L : List Ent} {cur : Path} {a : Act}

theorem bindE {α β : Type} {x : Option α} {f : α → Option β} {y : β} (h : x.bind f = some y) : ∃ z, x = some z ∧ f z = some y := by
  cases x with
  | none => cases h
  | some z => exact ⟨z, rfl, h⟩
theorem mapE {α β : Type} {x : Option α} {f : α → β} {y : β} (h : x.map f = some y) : ∃ z, x = some z ∧ f z = y := by
  cases x with
  | none => cases h
  | some z => exact ⟨z, rfl, by simpa using h⟩

theorem evPick_ok (hL : SlotsOk S w ρ a L) (hp : pt a cur) {k x y : Operand} {v : AV} (h : evPick L cur k x y = some v) :
    ∃ b, a.eval k = .bool b ∧ RdA S w ρ (if b then a.eval x else a.eval y) v := by
  unfold evPick at h
  split at h
  · rename_i t
    split at h
    · rename_i b hb
      have hk := look_bool hL hp hb
      refine ⟨b, hk, ?_⟩
      have hslot : a.tmps[t]? = some (.bool b) := by
        simp only [Act.eval, Array.getD_eq_getD_getElem?] at hk
        cases hs : a.tmps[t]? with
        | none => rw [hs] at hk; simp [undef] at hk
        | some z => rw [hs] at hk; simp at hk; rw [hk]
      cases hx : isTrueC x with
      | true =>
        rw [hx] at h
        simp only [cond_true] at h
        have hxe : a.eval x = .bool true := by
          unfold isTrueC at hx
          split at hx
          · subst hx; rfl
          · cases hx
        split at h
        · rename_i z hz
          simp at h; subst h
          cases b with
          | true => simp [hxe]; exact ofV_ok rfl
          | false =>
            have hp' : pt a (cur ++ [(t, false)]) := by
              intro g hg
              rcases List.mem_append.1 hg with hg | hg
              · exact hp g hg
              · simp at hg; subst hg; exact hslot
            have := look_bool hL hp' hz
            simp [this]; exact ofV_ok rfl
        · cases h
      | false =>
        rw [hx] at h
        simp only [cond_false] at h
        cases hy : isFalseC y with
        | false => rw [hy] at h; simp at h
        | true =>
          rw [hy] at h
          simp only [cond_true] at h
          have hye : a.eval y = .bool false := by
            unfold isFalseC at hy
            split at hy
            · rename_i q; cases q <;> simp at hy ⊢; rfl
            · cases hy
          split at h
          · rename_i z hz
            simp at h; subst h
            cases b with
            | false => simp [hye]; exact ofV_ok rfl
            | true =>
              have hp' : pt a (cur ++ [(t, true)]) := by
                intro g hg
                rcases List.mem_append.1 hg with hg | hg
                · exact hp g hg
                · simp at hg; subst hg; exact hslot
              have := look_bool hL hp' hz
              simp [this]; exact ofV_ok rfl
          · cases h
    · cases h
  · cases h

/-! ### build -/
theorem fill_ok (places : Nat → Option (Nat × Nat)) (pl : List (Nat × Nat)) (hpl : ∀ (i : Nat) x, pl[i]? = some x → places i = some x) :
    ∀ (ps : List (Nat × Value)) (qs : List (Nat × List D)) (cs : Array Value) (ds out : List D),
      All2 (fun (p : Nat × Value) (q : Nat × List D) => p.1 = q.1 ∧ All2 (Rd S w ρ) p.2.cells.toList q.2) ps qs → All2 (Rd S w ρ) cs.toList ds → fillD pl ds qs = some out →
      ∃ r, Instr.fill places cs ps = some r ∧ All2 (Rd S w ρ) r.toList out
  | [], [], cs, ds, out, _, h2, h3 => by simp [fillD] at h3; subst h3; exact ⟨cs, rfl, h2⟩
  | [], _ :: _, _, _, _, h1, _, _ => h1.elim
  | _ :: _, [], _, _, _, h1, _, _ => h1.elim
  | (i, v) :: ps, (j, es) :: qs, cs, ds, out, h1, h2, h3 => by
    obtain ⟨⟨e, hv⟩, h1⟩ := h1
    simp only at e; subst e
    simp only [fillD] at h3
    split at h3
    · rename_i off size hp
      cases hb : (Nat.beq es.length size && Nat.ble (off + es.length) ds.length) with
      | false => rw [hb] at h3; simp at h3
      | true =>
        rw [hb] at h3
        simp only [cond_true] at h3
        rw [Bool.and_eq_true] at hb
        have hl1 : es.length = size := Nat.eq_of_beq_eq_true hb.1
        have hl2 : off + es.length ≤ ds.length := Nat.le_of_ble_eq_true hb.2
        have hcs : cs.size = ds.length := by have := h2.length; simpa using this
        have hvl : v.cells.size = es.length := by have := hv.length; simpa using this
        have step : ∀ (l : List Value) (k : Nat) (cs : Array Value), off + k + l.length ≤ cs.size →
            ((l.zipIdx k).foldl (fun cs (x : Value × Nat) => cs.setIfInBounds (off + x.2) x.1) cs).toList = cs.toList.take (off + k) ++ (l ++ cs.toList.drop (off + k + l.length)) := by
          intro l
          induction l with
          | nil => intro k cs _; simp
          | cons x l ih =>
            intro k cs hk
            simp only [List.zipIdx_cons, List.foldl_cons]
            simp only [List.length_cons] at hk
            rw [ih (k + 1) _ (by simp; omega)]
            have hlt : off + k < cs.toList.length := by simp; omega
            rw [Array.toList_setIfInBounds]
            rw [show off + (k + 1) = off + k + 1 from by omega]
            rw [List.take_succ_eq_append_getElem (by simpa using hlt)]
            rw [List.take_set_of_le (Nat.le_refl _)]
            rw [List.drop_set_of_lt (by omega)]
            simp only [List.getElem_set_self, List.append_assoc, List.cons_append, List.nil_append, List.length_cons]
            congr 4
            omega
        have hz := step v.cells.toList 0 cs (by simp; omega)
        simp only [Nat.add_zero] at hz
        obtain ⟨r, hr1, hr2⟩ := fill_ok places pl hpl ps qs ((v.cells.zipIdx).foldl (fun cs (x : Value × Nat) => cs.setIfInBounds (off + x.2) x.1) cs) (splice ds off es) out h1 (by
          have e : (v.cells.zipIdx).foldl (fun cs (x : Value × Nat) => cs.setIfInBounds (off + x.2) x.1) cs = (v.cells.toList.zipIdx).foldl (fun cs (x : Value × Nat) => cs.setIfInBounds (off + x.2) x.1) cs := by
            rw [← Array.foldl_toList, Array.toList_zipIdx]
          rw [e, hz]
          unfold splice
          refine (h2.take off).append (hv.append ?_)
          have hl : v.cells.toList.length = es.length := hv.length
          rw [hl]
          exact h2.drop _) h3
        refine ⟨r, ?_, hr2⟩
        simp only [Instr.fill, hpl _ _ hp]
        rw [if_neg (by simp [hvl, hl1, hcs]; omega)]
        exact hr1
    · cases h3

theorem lookParts_ok (hL : SlotsOk S w ρ a L) (hp : pt a cur) : ∀ {l : List (Nat × Operand)} {qs : List (Nat × List D)}, lookParts L cur l = some qs →
    All2 (fun (p : Nat × Value) (q : Nat × List D) => p.1 = q.1 ∧ All2 (Rd S w ρ) p.2.cells.toList q.2) (l.map fun x => (x.1, a.eval x.2)) qs
  | [], qs, h => by simp [lookParts] at h; subst h; trivial
  | (i, x) :: r, qs, h => by
    simp only [lookParts] at h
    split at h
    · rename_i v l h1 h2
      simp at h; subst h
      obtain ⟨av, ha, hc⟩ := bindE h1
      exact ⟨⟨rfl, avCells_ok (look_ok hL hp ha) hc⟩, lookParts_ok hL hp h2⟩
    · cases h

theorem placesOf_ok : ∀ {l : List Field} {pl : List (Nat × Nat)}, placesOf P l = some pl →
    (l.mapM fun f => do pure (f.offset, ← sizeOf f.type) : Sem (List (Nat × Nat))).run P w = .ok pl w
  | [], pl, h => by simp [placesOf] at h; subst h; simp
  | f :: r, pl, h => by
    simp only [placesOf] at h
    split at h
    · rename_i n l h1 h2
      simp at h; subst h
      have ih := placesOf_ok h2
      simp only [List.mapM_cons, Sem.run_bind, Sem.run_pure, run_sizeOf' h1, Result.andThen_ok]
      rw [ih]
      simp
    · cases h

theorem run_mapM_arr {α β : Type} (f : α → Sem β) (xs : Array α) : (xs.mapM f : Sem (Array β)).run P w = ((xs.toList.mapM f : Sem (List β)).run P w).andThen fun l w' => .ok l.toArray w' := by
  rw [Array.mapM_eq_mapM_toList]
  simp

theorem run_build_struct {t : TypeId} {fields : Array Field} {z : Value} {pl : List (Nat × Nat)} {parts : Array (Nat × Value)} {r : Array Value} (hz : tyZero P t = some z) (hu : P.underlying t = some (.struct fields))
    (hpl : placesOf P fields.toList = some pl) (hf : Instr.fill (fun (x : Nat) => pl[x]?) z.cells parts.toList = some r) : (Instr.build t parts).run P w = .ok (.agg r) w := by
  have := placesOf_ok (P := P) (w := w) hpl
  simp only [Instr.build, Sem.run_bind, run_zeroValue' hz, run_underlying hu, Result.andThen_ok, run_mapM_arr, this]
  have e : (fun (x : Nat) => (pl.toArray)[x]?) = (fun (x : Nat) => pl[x]?) := by funext x; simp
  simp only [e, hf]
  rfl

theorem run_build_array {t e : TypeId} {n s : Nat} {z : Value} {parts : Array (Nat × Value)} {r : Array Value} (hz : tyZero P t = some z) (hu : P.underlying t = some (.array n e)) (hs : tySize P e = some s)
    (hf : Instr.fill (fun i => some (i * s, s)) z.cells parts.toList = some r) : (Instr.build t parts).run P w = .ok (.agg r) w := by
  simp only [Instr.build, Sem.run_bind, run_zeroValue' hz, run_underlying hu, Result.andThen_ok, run_sizeOf' hs, hf]
  rfl
end
end Go.SL
