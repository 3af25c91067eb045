/-
  The logic, fifth part: the evaluator is right for the operations that write nothing, case by case.
-/
import Derived.Test.YtopmfoohdkjgmaaGreatDoorSlD
namespace Go.SL

section
variable {P : Program} {C : Ctx} {S : Nat → Prop} {w : World} {ρ : List Value} {R : List Res} {L : List Ent} {cur : Path} {a : Act}

/-- what a pure operation comes to -/
def PureOk (P : Program) (S : Nat → Prop) (w : World) (ρ : List Value) (a : Act) (o : Oper) (v : AV) : Prop :=
  ∃ x, (execOp a.eval o).run P w = .ok (.value x) w ∧ RdA S w ρ x v

theorem pureOk_of {o : Oper} {v : AV} {x : Value} (h : (execOp a.eval o).run P w = .ok (.value x) w) (hr : RdA S w ρ x v) : PureOk P S w ρ a o v := ⟨x, h, hr⟩

theorem bin_ok {op : BinOp} {x y z : Value} (h : bin op x y = some z) (t : TypeId) (u v : Operand) :
    (do eqGuard op t u v x y; binOp op t x y : Sem Value).run P w = .ok z w ∧ z.oneCell' = true := by
  unfold bin at h
  split at h <;> first
    | (cases h; done)
    | (split at h
       · rename_i hk; subst hk; simp at h; subst h
         exact ⟨by simp [eqGuard, binOp, Op.intArith, Op.intCmp, Op.intBits, andI, orI, xorI], rfl⟩
       · cases h)
    | (rename_i n; simp at h; subst h
       exact ⟨by simp [eqGuard, binOp, Op.shift, shrI, shlI]; omega, rfl⟩)
    | (simp at h; subst h
       exact ⟨by simp [eqGuard, binOp, Op.stringOp], rfl⟩)

theorem run_equalIn_bool (t : TypeId) (ht : P.underlying t = some .bool) (a b : Bool) (d : Nat) : (Op.equalIn (d + 1) t (.bool a) (.bool b)).run P w = .ok (a == b) w := by
  simp [Op.equalIn, run_underlying ht]
theorem run_equal_bool (t : TypeId) (ht : P.underlying t = some .bool) (a b : Bool) : (Op.equal t (.bool a) (.bool b)).run P w = .ok (a == b) w :=
  run_equalIn_bool t ht a b 9999

theorem binB_ok {op : BinOp} {x y z : Value} (h : binB op x y = some z) (t : TypeId) (ht : P.underlying t = some .bool) (u v : Operand) :
    (do eqGuard op t u v x y; binOp op t x y : Sem Value).run P w = .ok z w ∧ z.oneCell' = true := by
  unfold binB at h
  split at h
  · simp at h; subst h
    refine ⟨?_, rfl⟩
    simp only [eqGuard, binOp, Sem.run_bind, run_equal_bool t ht, Result.andThen_ok]
    rfl
  · simp at h; subst h
    refine ⟨?_, rfl⟩
    simp only [eqGuard, binOp, Sem.run_bind, run_equal_bool t ht, Result.andThen_ok]
    rfl
  · cases h

theorem binD_ok {op : BinOp} {x y z : Value} {n : Int} (h : binD op x y = some (z, n)) (hn : n ≠ 0) (t : TypeId) (u v : Operand) :
    (do eqGuard op t u v x y; binOp op t x y : Sem Value).run P w = .ok z w ∧ z.oneCell' = true := by
  unfold binD at h
  split at h <;> first
    | (cases h; done)
    | (split at h
       · rename_i hk; subst hk; simp at h; obtain ⟨rfl, rfl⟩ := h
         exact ⟨by simp [eqGuard, binOp, Op.intDiv, hn], rfl⟩
       · cases h)
    | (rename_i a b
       simp only [Option.some.injEq, Prod.mk.injEq] at h
       obtain ⟨rfl, rfl⟩ := h
       have hb : ¬ (((a.size + b.size : Nat) : Int) > IntKind.i64.max) := by
         have e : IntKind.i64.max = 9223372036854775807 := by decide
         rw [e]
         unfold catI at hn
         cases hd : decide (((a.size + b.size : Nat) : Int) ≤ 9223372036854775807) with
         | true => have := of_decide_eq_true hd; omega
         | false => rw [hd] at hn; exact absurd rfl hn
       exact ⟨by simp only [eqGuard, binOp, Op.stringOp, if_neg hb, Sem.run_bind, Sem.run_pure]; rfl, rfl⟩)

theorem un_ok {op : UnOp} {x z : Value} (h : un op x = some z) : (Op.unary op x).run P w = .ok z w ∧ z.oneCell' = true := by
  unfold un at h
  split at h <;> first
    | (cases h; done)
    | (simp at h; subst h; exact ⟨by simp [Op.unary, Op.intArith], rfl⟩)

theorem maxI_ok : ∀ {l : List Value} {m n : Int}, maxI m l = some n → (l.foldlM Builtin.max2 (.int .i64 m) : Sem Value).run P w = .ok (.int .i64 n) w
  | [], m, n, h => by simp [maxI] at h; subst h; simp
  | x :: r, m, n, h => by
    simp only [maxI] at h
    split at h
    · rename_i y
      have := maxI_ok h
      have e : (if y > m then y else m) = max m y := by rw [Int.max_def]; split <;> split <;> omega
      simp only [List.foldlM_cons, Builtin.max2, e]
      simpa using this
    · cases h
theorem minI_ok : ∀ {l : List Value} {m n : Int}, minI m l = some n → (l.foldlM Builtin.min2 (.int .i64 m) : Sem Value).run P w = .ok (.int .i64 n) w
  | [], m, n, h => by simp [minI] at h; subst h; simp
  | x :: r, m, n, h => by
    simp only [minI] at h
    split at h
    · rename_i y
      have := minI_ok h
      have e : (if y < m then y else m) = min m y := by rw [Int.min_def]; split <;> split <;> omega
      simp only [List.foldlM_cons, Builtin.min2, e]
      simpa using this
    · cases h
theorem exactAll_ok {l : List AV} {xs vs : List Value} (h : exactAll l = some xs) (hv : All2 (RdA S w ρ) vs l) : vs = xs := by
  induction l generalizing xs vs with
  | nil => cases vs with
    | nil => simp [exactAll] at h; exact h.symm ▸ rfl
    | cons => exact hv.elim
  | cons y l ih => cases vs with
    | nil => exact hv.elim
    | cons v vs =>
      simp only [exactAll] at h
      split at h
      · rename_i x xs' h1 h2
        simp at h; subst h
        have : v = x := by
          unfold exactV at h1
          split at h1
          · simp at h1; subst h1; exact hv.1.exact_inv
          · cases h1
        rw [this, ih h2 hv.2]
      · cases h

theorem deep_form (hI : Inv C S w ρ R) {i g e s : Nat} {tys : List (TypeId × Nat)} {rows : List (List Pd)} {hole : Option (Nat × Nat)} {h : Value} (hi : R[i]? = some (.dsl e s g)) (hg : R[g]? = some (.gh s tys rows hole))
    (hρ : ρ[i]? = some h) (h1 : h.oneCell' = true) (hs : 0 < s) : ∃ f xs cs, ρ[g]? = some (.func f xs cs) ∧ gOk S w s tys rows hole xs ∧
      ((h = .slice none 0 0 ∧ rows = []) ∨ ∃ b o cap vs, h = .slice (some ⟨b, o, none⟩) rows.length cap ∧ w.heap[b]? = some (.cells vs e (0, 0)) ∧ rows.length ≤ cap ∧ cap ≤ maxLen ∧ o + cap * s ≤ vs.size ∧
        ∀ (k : Nat) x, xs[k]? = some x → vs[o + k]? = some x) := by
  obtain ⟨f, xs, cs, k1, k2⟩ := (hI.ok i _ h hi hρ).live h1
  obtain ⟨f', xs', cs', k3, k4⟩ := (hI.ok g _ _ hg k1).live rfl
  cases k3
  have hsz := k4.2.1
  refine ⟨f, xs, cs, k1, k4, ?_⟩
  rcases k2 with ⟨k2, k5⟩ | ⟨b, o, len, cap, vs, k2, k5, k6, k7, k8, k9, k10⟩
  · refine .inl ⟨k2, ?_⟩
    rw [k5] at hsz
    have : rows.length = 0 := by
      rcases Nat.eq_zero_or_pos rows.length with h | h
      · exact h
      · have := Nat.mul_pos h hs; omega
    exact List.eq_nil_of_length_eq_zero this
  · have : len = rows.length := by
      rw [k9] at hsz
      exact Nat.eq_of_mul_eq_mul_right hs hsz
    subst this
    exact .inr ⟨b, o, cap, vs, k2, k5, k6, k7, k8, k10⟩

theorem evLenS_ok (hI : Inv C S w ρ R) {vs : List Value} {l : List AV} (hr : All2 (RdA S w ρ) vs l) {n : Int} (h : evLenS R l = some n) :
    ∃ (b : Option Addr) (k c : Nat), vs = [.slice b k c] ∧ n = k := by
  have one : ∀ {av : AV}, All2 (RdA S w ρ) vs [av] → ∃ x, vs = [x] ∧ RdA S w ρ x av := by
    intro av h
    match vs, h with
    | [x], h => exact ⟨x, rfl, h.1⟩
    | [], h => exact h.elim
    | _ :: _ :: _, h => exact h.2.elim
  unfold evLenS at h
  split at h
  · simp at h; subst h
    obtain ⟨x, rfl, hx⟩ := one hr
    cases hx.d_inv with
    | p h =>
      obtain ⟨b, c, rfl, _⟩ := h.slice_form
      exact ⟨b, _, c, rfl, rfl⟩
  · simp at h; subst h
    obtain ⟨x, rfl, hx⟩ := one hr
    rw [hx.exact_inv]
    exact ⟨none, 0, _, rfl, rfl⟩
  · rename_i i
    split at h
    · rename_i e size rows hi
      simp at h; subst h
      obtain ⟨x, rfl, hx⟩ := one hr
      cases hx.d_inv with
      | os hρ h1 =>
        rcases (hI.ok i _ x hi hρ).live h1 with ⟨rfl, rfl⟩ | ⟨b, o, cap, vs, rfl, _⟩
        · exact ⟨none, 0, 0, rfl, rfl⟩
        · exact ⟨_, _, _, rfl, rfl⟩
    · rename_i e s g hi
      split at h
      · rename_i s2 tys rows hole hg
        cases hb : (Nat.beq s s2 && Nat.blt 0 s) with
        | false => rw [hb] at h; simp at h
        | true =>
          rw [hb] at h
          simp at h; subst h
          simp only [Bool.and_eq_true] at hb
          have := Nat.eq_of_beq_eq_true hb.1
          subst this
          obtain ⟨x, rfl, hx⟩ := one hr
          cases hx.d_inv with
          | os hρ h1 =>
            obtain ⟨_, _, _, _, _, k⟩ := deep_form hI hi hg hρ h1 (by have := hb.2; simpa [Nat.blt_eq] using this)
            rcases k with ⟨rfl, rfl⟩ | ⟨b, o, cap, vs, rfl, _⟩
            · exact ⟨none, 0, 0, rfl, rfl⟩
            · exact ⟨_, _, _, rfl, rfl⟩
      · cases h
    · rename_i e s cells hi
      simp only [Option.some.injEq] at h; subst h
      obtain ⟨x, rfl, hx⟩ := one hr
      cases hx.d_inv with
      | os hρ h1 =>
        obtain ⟨b, o, len, cap, vs, rfl, _, ⟨h2, h3, _⟩, _⟩ := (hI.ok i _ x hi hρ).live h1
        exact ⟨_, _, _, rfl, by rw [h2, Nat.mul_div_cancel _ h3]⟩
    · cases h
  · simp at h; subst h
    obtain ⟨x, rfl, hx⟩ := one hr
    cases hx.d_inv with
    | osb _ _ _ _ _ => exact ⟨_, _, _, rfl, rfl⟩
  · cases h
theorem evLenT_ok {vs : List Value} {l : List AV} (hr : All2 (RdA S w ρ) vs l) {n : Int} (h : evLenT l = some n) : ∃ s : ByteArray, vs = [.string s] ∧ n = s.size := by
  unfold evLenT at h
  split at h
  · simp at h; subst h
    match vs, hr with
    | [x], hr => rw [hr.1.exact_inv]; exact ⟨_, rfl, rfl⟩
    | [], hr => exact hr.elim
    | _ :: _ :: _, hr => exact hr.2.elim
  · cases h

theorem fieldOf_ok {s : TypeId} {f k : Nat} {ft : TypeId} (h : fieldOf P s f = some (k, ft)) :
    ∃ fields x, P.underlying s = some (.struct fields) ∧ fields[f]? = some x ∧ x.offset = k ∧ x.type = ft := by
  unfold fieldOf at h
  split at h
  · rename_i fields hu
    split at h
    · rename_i x hx
      simp at h
      exact ⟨fields, x, hu, hx, h.1, h.2⟩
    · cases h
  · cases h

theorem run_fieldAt {s : TypeId} {f k : Nat} {ft : TypeId} {ad : Addr} {n : Nat} (h : fieldOf P s f = some (k, ft)) (hn : tySize P ft = some (n + 1)) :
    (Instr.fieldAt s (.pointer (some ad)) f).run P w = .ok (.pointer (some (ad.add k))) w := by
  obtain ⟨fields, x, hu, hx, rfl, rfl⟩ := fieldOf_ok h
  simp [Instr.fieldAt, run_underlying hu, hx, Instr.sureAddr, fieldPlace, run_sizeOf' hn]

theorem box_cells (hI : Inv C S w ρ R) {i : Nat} {t : TypeId} {cells : List D} (hi : R[i]? = some (.box t cells)) {b : Nat} (hb : ρ[i]? = some (.pointer (some ⟨b, 0, none⟩))) :
    ∃ vs, w.heap[b]? = some (.cells vs t (0, 0)) ∧ All2 (Rd S w ρ) vs.toList cells := by
  obtain ⟨b', vs, he, h1, h2⟩ := (hI.ok i _ _ hi hb).live rfl
  cases he
  exact ⟨vs, h1, h2⟩

theorem box_read (hI : Inv C S w ρ R) {i : Nat} {t : TypeId} {cells : List D} (hi : R[i]? = some (.box t cells)) {b : Nat} (hb : ρ[i]? = some (.pointer (some ⟨b, 0, none⟩)))
    (off n : Nat) (j : Nat) (d : D) (hd : ((cells.drop off).take n)[j]? = some d) : ∃ x, w.cell? ((⟨b, off, none⟩ : Addr).add j) = some x ∧ Rd S w ρ x d := by
  obtain ⟨vs, h1, h2⟩ := box_cells hI hi hb
  rw [List.getElem?_take] at hd
  split at hd
  · rw [List.getElem?_drop] at hd
    obtain ⟨x, hx, hR⟩ := h2.get hd
    refine ⟨x, ?_, hR⟩
    rw [add_mk, cell_blk h1]
    simpa using hx
  · cases hd

theorem part_ok {t : TypeId} {vs : List Value} {ds : List D} (hv : All2 (Rd S w ρ) vs ds) {k n : Nat} (hn : tySize P t = some n) {av : AV} (h : memAV P t ((ds.drop k).take n) = some av) :
    ∃ x, (part t vs.toArray k).run P w = .ok x w ∧ RdA S w ρ x av := by
  unfold memAV at h
  cases hu : P.underlying t with
  | none => simp [tyAgg, hu] at h
  | some td =>
    have ha : tyAgg P t = some (isAggD td) := by simp [tyAgg, hu]
    rw [ha, hn] at h
    cases hb : isAggD td with
    | true =>
      simp only [hb] at h
      cases hl : Nat.beq ((ds.drop k).take n).length n with
      | false => rw [hl] at h; simp at h
      | true =>
        rw [hl] at h; simp at h; subst h
        have := (hv.drop k).take n
        refine ⟨.agg ((vs.drop k).take n).toArray, ?_, .agg this⟩
        simp [part, run_isAgg hu, hb, run_sizeOf' hn]
    | false =>
      rw [hb] at h
      split at h
      · simp_all
      · rename_i hs
        cases hs
        split at h
        · rename_i d hd
          simp at h; subst h
          have hk : ds[k]? = some d := by
            have : ((ds.drop k).take 1)[0]? = some d := by rw [hd]; rfl
            rw [List.getElem?_take] at this
            simpa using this
          obtain ⟨x, hx, hR⟩ := hv.get hk
          refine ⟨x, ?_, .d hR⟩
          simp [part, run_isAgg hu, hb, hx]
        · cases h
      · cases h
end
end Go.SL
