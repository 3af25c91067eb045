/-
  The logic, tenth part: slices that are made, appended to; every operation.
-/
import Derived.Test.YtopmfoohdkjgmaaGreatDoorSlI
namespace Go.SL

section
variable {P : Program} {C : Ctx} {S S' : Nat → Prop} {w w' : World} {ρ ρ' : List Value} {R : List Res} {L : List Ent} {cur : Path} {a : Act}

theorem repeatL_length {α : Type} (n : Nat) (l : List α) : (repeatL n l).length = n * l.length := by
  induction n with
  | zero => simp [repeatL]
  | succ n ih => simp [repeatL, ih, Nat.add_mul]; omega
theorem all2_repeat {α β : Type} {Q : α → β → Prop} {xs : List α} {ds : List β} (h : All2 Q xs ds) (n : Nat) : All2 Q (repeatL n xs) (repeatL n ds) := by
  induction n with
  | zero => trivial
  | succ n ih => exact h.append ih
theorem repeat_range (zs : Array Value) (n : Nat) : ((Array.range (n * zs.size)).map (fun i => zs[i % zs.size]!)).toList = repeatL n zs.toList := by
  rw [Array.toList_map, Array.toList_range]
  induction n with
  | zero => simp [repeatL]
  | succ n ih =>
    have e : (n + 1) * zs.size = zs.size + n * zs.size := by rw [Nat.add_mul]; omega
    rw [e, List.range_add, List.map_append, List.map_map]
    simp only [repeatL]
    congr 1
    · apply List.ext_getElem?
      intro i
      rw [List.getElem?_map]
      by_cases hi : i < zs.size
      · rw [List.getElem?_range hi]
        simp [Nat.mod_eq_of_lt hi, hi]
      · rw [List.getElem?_eq_none (by simp; omega), List.getElem?_eq_none (by simp; omega)]; rfl
    · rw [← ih]
      apply List.map_congr_left
      intro i _
      simp [Nat.add_mod_left]

theorem dPs_length : ∀ {ds : List D} {ps : List Pd}, dPs ds = some ps → ps.length = ds.length
  | [], ps, h => by simp [dPs] at h; subst h; rfl
  | d :: r, ps, h => by
    simp only [dPs] at h
    split at h
    · rename_i x l h1 h2
      simp at h; subst h
      simp [dPs_length h2]
    · cases h

theorem dsOf_length : ∀ {l : List Value} {ds : List D}, dsOf l = some ds → ds.length = l.length := fun h => (dsOf_ok (S := fun _ => False) (w := default) (ρ := []) h).length.symm

/-- a literal slice: its cells -/
theorem run_buildSlice {t e : TypeId} {size len : Nat} {z : Value} {zs out : List D} {ps : List (Nat × List D)} {vs : List (Nat × Value)} (hu : P.underlying t = some (.slice e)) (hs : tySize P e = some (size + 1)) (hz : tyZero P e = some z)
    (hd : dsOf z.cells.toList = some zs) (hzl : zs.length = size + 1) (hle : len * (size + 1) ≤ 16777216)
    (hp : All2 (fun (p : Nat × Value) (q : Nat × List D) => p.1 = q.1 ∧ All2 (Rd S w ρ) p.2.cells.toList q.2) vs ps)
    (hf : fillD ((List.range len).map fun i => (i * (size + 1), size + 1)) (repeatL len zs) ps = some out) (hin : ∀ q, q ∈ vs → q.1 < len) :
    ∃ cs : Array Value, (Instr.buildSlice t len vs.toArray).run P w = .ok (.slice (some ⟨w.heap.size, 0, none⟩) len len) (w.alloc (.cells cs e)) ∧ All2 (Rd S w ρ) cs.toList out := by
  have hzs : z.cells.size = size + 1 := by have := dsOf_length hd; rw [hzl] at this; simpa using this.symm
  have hbase : All2 (Rd S w ρ) ((Array.range (len * (size + 1))).map (fun i => z.cells[i % z.cells.size]!)).toList (repeatL len zs) := by
    rw [← hzs, repeat_range z.cells]
    exact all2_repeat (dsOf_ok hd) len
  obtain ⟨r, hr1, hr2⟩ := fill_ok (fun (i : Nat) => ((List.range len).map fun i => (i * (size + 1), size + 1))[i]?) _ (fun _ _ h => h) vs ps _ _ out hp hbase hf
  have hfill : ∀ (vs : List (Nat × Value)) (cs : Array Value), (∀ q, q ∈ vs → q.1 < len) → Instr.fill (fun i => some (i * (size + 1), size + 1)) cs vs = Instr.fill (fun (i : Nat) => ((List.range len).map fun i => (i * (size + 1), size + 1))[i]?) cs vs := by
    intro vs
    induction vs with
    | nil => intro cs _; rfl
    | cons q vs ih =>
      intro cs hq
      have h1 := hq q List.mem_cons_self
      have e : ((List.range len).map fun i => (i * (size + 1), size + 1))[q.1]? = some (q.1 * (size + 1), size + 1) := by simp [h1]
      simp only [Instr.fill]
      rw [e]
      dsimp only
      by_cases hc : (decide (q.2.cells.size ≠ size + 1) || decide (q.1 * (size + 1) + q.2.cells.size > cs.size)) = true
      · rw [if_pos hc, if_pos hc]
      · rw [if_neg hc, if_neg hc]
        exact ih _ (fun q h => hq q (List.mem_cons_of_mem _ h))
  refine ⟨r, ?_, hr2⟩
  have hle' : ¬ (len * (size + 1) > 2 ^ 24) := by simp; omega
  simp only [Instr.buildSlice, Sem.run_bind, run_underlying hu, Result.andThen_ok, run_sizeOf' hs]
  rw [if_neg hle']
  by_cases h0 : len * (size + 1) = 0
  · rw [if_pos h0]
    simp only [Sem.run_bind, Sem.run_pure, Result.andThen_ok]
    have hcs : (Array.range (len * (size + 1))).map (fun i => (#[] : Array Value)[i % (#[] : Array Value).size]!) = (Array.range (len * (size + 1))).map (fun i => z.cells[i % z.cells.size]!) := by simp [h0]
    rw [hcs, hfill vs _ hin, hr1]
    simp [newRow]
  · rw [if_neg h0]
    simp only [Sem.run_bind, Sem.run_pure, Result.andThen_ok, run_zeroValue' hz]
    rw [hfill vs _ hin, hr1]
    simp [newRow]

theorem fillD_in {n : Nat} {pl : List (Nat × Nat)} (hpl : pl.length = n) : ∀ {ds : List D} {ps : List (Nat × List D)} {out : List D}, fillD pl ds ps = some out → ∀ q, q ∈ ps → q.1 < n
  | _, [], _, _, q, hq => by cases hq
  | ds, (i, es) :: ps, out, h, q, hq => by
    simp only [fillD] at h
    split at h
    · rename_i off size hp
      have hi : i < n := by rw [← hpl]; exact (List.getElem?_eq_some_iff.1 hp).1
      cases hb : (Nat.beq es.length size && Nat.ble (off + es.length) ds.length) with
      | false => rw [hb] at h; simp at h
      | true =>
        rw [hb] at h
        simp only [cond_true] at h
        rcases List.mem_cons.1 hq with rfl | hq
        · exact hi
        · exact fillD_in hpl h q hq
    · cases h

theorem fillD_length {pl : List (Nat × Nat)} : ∀ {ds : List D} {ps : List (Nat × List D)} {out : List D}, fillD pl ds ps = some out → out.length = ds.length
  | _, [], _, h => by simp [fillD] at h; rw [h]
  | ds, (i, es) :: ps, out, h => by
    simp only [fillD] at h
    split at h
    · rename_i off size hp
      cases hb : (Nat.beq es.length size && Nat.ble (off + es.length) ds.length) with
      | false => rw [hb] at h; simp at h
      | true =>
        rw [hb] at h
        simp only [cond_true] at h
        simp only [Bool.and_eq_true] at hb
        have := Nat.le_of_ble_eq_true hb.2
        rw [fillD_length h]
        simp [splice]; omega
    · cases h

theorem RdP.nz {x : Value} {d : Pd} (h : RdP S w x d) : RdP S w x d.nz := by
  unfold Pd.nz
  split
  · have := h.v_form
    subst this
    exact .s none ⟨0, 0, none⟩ 0 0 [] (fun _ _ => undef) (Nat.le_refl _) (by simp [maxLen]) (fun _ => rfl) (by simp) (by simp) (by simp)
  · exact h
theorem RdP.nzL {xs : List Value} {ds : List Pd} (h : All2 (RdP S w) xs ds) : All2 (RdP S w) xs (ds.map Pd.nz) := h.map_right fun _ _ h => h.nz

theorem evBuildSlice_ok (hI : Inv C S w ρ R) {c : Cl} {t : TypeId} {len : Nat} {ps : List (Nat × List D)} {vs : List (Nat × Value)} {out : Out}
    (hp : All2 (fun (p : Nat × Value) (q : Nat × List D) => p.1 = q.1 ∧ All2 (Rd S w ρ) p.2.cells.toList q.2) vs ps) (h : evBuildSlice P R c t len ps = some out) :
    (isOwn c = false → out.R = R) ∧ ∃ v w' S' ρ', (Instr.buildSlice t len vs.toArray).run P w = .ok v w' ∧ After C S w ρ out.R v out.v S' w' ρ' := by
  unfold evBuildSlice at h
  split at h
  · rename_i e hu
    split at h
    · rename_i size zs hs hz
      obtain ⟨z, hz1, hz2⟩ := bindE hz
      cases hb : (Nat.beq zs.length (size + 1) && Nat.ble (len * (size + 1)) 16777216) with
      | false => rw [hb] at h; simp at h
      | true =>
        rw [hb] at h
        simp only [cond_true] at h
        simp only [Bool.and_eq_true] at hb
        have hzl := Nat.eq_of_beq_eq_true hb.1
        have hle := Nat.le_of_ble_eq_true hb.2
        split at h
        · rename_i pd he
          obtain ⟨ds, hf, hd⟩ := bindE he
          have hin : ∀ q, q ∈ vs → q.1 < len := by
            intro q hq
            obtain ⟨j, hj, hjq⟩ := List.getElem_of_mem hq
            have hjl : j < ps.length := by rw [← hp.length]; exact hj
            have := hp.both (List.getElem?_eq_getElem hj) (List.getElem?_eq_getElem hjl)
            rw [hjq] at this
            rw [this.1]
            exact fillD_in (by simp) hf _ (List.getElem_mem hjl)
          obtain ⟨cs, hrun, hcs⟩ := run_buildSlice hu hs hz1 hz2 hzl hle hp hf hin
          have hpd := RdP.nzL (dPs_ok hd hcs)
          have hcl : cs.size = len * (size + 1) := by
            have h1 := hcs.length
            have h2 := fillD_length hf
            rw [repeatL_length, hzl] at h2
            simpa [h2] using h1
          have hmax : len ≤ maxLen := by
            have : len ≤ len * (size + 1) := Nat.le_mul_of_pos_right _ (by omega)
            simp [maxLen]; omega
          cases ho : isOwn c with
          | true =>
            rw [ho] at h
            simp at h; subst h
            refine ⟨by simp, _, _, S, ρ ++ [.slice (some ⟨w.heap.size, 0, none⟩) len len], hrun, ?_⟩
            have := hI.newSl (e := e) (n := len) (cap := len) hpd hcl (Nat.le_refl _) hmax
            have htake : (pd.map Pd.nz).take (len * (size + 1)) = pd.map Pd.nz := List.take_of_length_le (by have := hpd.length; simp at this ⊢; omega)
            rw [htake] at this
            exact this
          | false =>
            rw [ho] at h
            simp at h; subst h
            exact ⟨fun _ => rfl, _, _, _, ρ, hrun, hI.newImm hpd hcl hmax⟩
        · cases hq : isOwn c with
          | false => rw [hq] at h; simp at h
          | true =>
            rw [hq] at h
            simp only [cond_true] at h
            obtain ⟨ds, hf, rfl⟩ := mapE h
            have hin : ∀ q, q ∈ vs → q.1 < len := by
              intro q hq
              obtain ⟨j, hj, hjq⟩ := List.getElem_of_mem hq
              have hjl : j < ps.length := by rw [← hp.length]; exact hj
              have := hp.both (List.getElem?_eq_getElem hj) (List.getElem?_eq_getElem hjl)
              rw [hjq] at this
              rw [this.1]
              exact fillD_in (by simp) hf _ (List.getElem_mem hjl)
            obtain ⟨cs, hrun, hcs⟩ := run_buildSlice hu hs hz1 hz2 hzl hle hp hf hin
            have hdl : ds.length = len * (size + 1) := by
              have h2 := fillD_length hf
              rw [repeatL_length, hzl] at h2
              simpa using h2
            have : len ≤ len * (size + 1) := Nat.le_mul_of_pos_right _ (by omega)
            refine ⟨by simp, _, _, S, ρ ++ [.slice (some ⟨w.heap.size, 0, none⟩) len len], hrun, ?_⟩
            exact hI.newVec hcs hdl (by simp [maxLen]; omega)
    · cases h
  · cases h
end
end Go.SL
