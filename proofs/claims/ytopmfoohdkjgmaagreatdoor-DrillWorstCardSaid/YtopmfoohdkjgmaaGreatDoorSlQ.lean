/-
  The logic, seventeenth part: a region that draws its order: whatever order its edges allow.
-/
import Derived.Test.YtopmfoohdkjgmaaGreatDoorSlP
namespace Go.SL

section
variable {P : Program} {C : Ctx} {S S' : Nat → Prop} {w w' : World} {ρ ρ' : List Value} {R R' : List Res} {L L' : List Ent} {a : Act}

/-- what is known of a record -/
structure RecOk (P : Program) (n : Nat) (ops : Array Oper) (r : Rec) : Prop where
  op : ops[r.i]? = some r.o
  guard : guardPath ops r.need r.o = some r.cur
  cs : conds r.need r.cur = some r.cs
  ev : r.fl = none → evOp P r.need r.cur r.Rin r.c r.o = some r.out
  flo : ∀ i, r.fl = some i → evFlt P r.need r.cur r.Rin r.c i r.o = some r.out
  dst : ∀ d, r.o.dst = some d → d < n ∧ r.cur.all (fun g => !(Nat.beq g.1 d)) = true
  nodst : r.o.dst = none → r.cur.isEmpty = true
  ok : ∀ x, r.out.c = some x → (wrapCl r.cur r.r r.cs x).ok P
  gb : guardB r.need r.cur r.r r.c r.o = true
  eff : r.eff = (r.fl.isNone && !quietOp r.c r.o)

def nextL (L : List Ent) (r : Rec) : List Ent := match r.o.dst with | some d => putE L d r.cur r.out.v | none => L

/-- the records follow each other -/
def Chain (P : Program) (n : Nat) (ops : Array Oper) : List Ent → List Res → List Rec → List Ent → List Res → Prop
  | L, R, [], L', R' => L = L' ∧ R = R'
  | L, R, r :: rs, L', R' => RecOk P n ops r ∧ r.Rin = R ∧ (∀ e, e ∈ r.need → e ∈ L) ∧ Chain P n ops (nextL L r) r.out.R rs L' R'

theorem needOf_sub : ∀ {ts : List Nat} {e : Ent}, e ∈ needOf L ts → e ∈ L
  | [], e, h => by simp [needOf] at h
  | t :: ts, e, h => by
    simp only [needOf] at h
    split at h
    · rename_i x hx
      rcases List.mem_cons.1 h with rfl | h
      · exact (getE_mem hx).1
      · rcases List.mem_append.1 h with h | h
        · rw [List.mem_filterMap] at h
          obtain ⟨g, _, hg⟩ := h
          exact (getE_mem hg).1
        · exact needOf_sub h
    · exact needOf_sub h

theorem allEq_nil : AllEq [] := trivial

theorem recs_chain {n : Nat} {ops : Array Oper} : ∀ {is : List Nat} {L : List Ent} {R : List Res} {cls : List Cl} {rs : List Rec} {L' : List Ent} {R' : List Res} {ks : List Cl},
    recs P n ops is L R cls = some (rs, L', R', ks) → AllOk P ks → Chain P n ops L R rs L' R' ∧ rs.map (·.i) = is
  | [], L, R, cls, rs, L', R', ks, h, _ => by
    simp [recs] at h
    obtain ⟨rfl, rfl, rfl, rfl⟩ := h
    exact ⟨⟨rfl, rfl⟩, rfl⟩
  | i :: is, L, R, cls, rs, L', R', ks, h, hok => by
    simp only [recs] at h
    split at h
    · cases h
    · rename_i o ho
      split at h
      · cases h
      · rename_i cur hcur
        split at h
        · rename_i out cs e1 e2
          cases hb : (dstOk n o cur && guardB (needOf L (slotsOf ops o)) cur (isR (cls.headD .nop)) (strip (cls.headD .nop)) o) with
          | false => rw [hb] at h; simp at h
          | true =>
            rw [hb] at h
            simp only [Bool.and_eq_true] at hb
            obtain ⟨hb, hgb⟩ := hb
            unfold dstOk at hb
            simp only [cond_true] at h
            have hev1 : fltOf o (strip (cls.headD .nop)) = none → evOp P (needOf L (slotsOf ops o)) cur R (strip (cls.headD .nop)) o = some out := by
              intro hf
              unfold evAny at e1
              rw [hf] at e1
              exact e1
            have hev2 : ∀ j, fltOf o (strip (cls.headD .nop)) = some j → evFlt P (needOf L (slotsOf ops o)) cur R (strip (cls.headD .nop)) j o = some out := by
              intro j hf
              unfold evAny at e1
              rw [hf] at e1
              exact e1
            have hdst : ∀ d, o.dst = some d → d < n ∧ cur.all (fun g => !(Nat.beq g.1 d)) = true := by
              intro d hd
              rw [hd] at hb
              simp only [Bool.and_eq_true] at hb
              exact ⟨by have := hb.1; simpa [Nat.blt_eq] using this, hb.2⟩
            have hnod : o.dst = none → cur.isEmpty = true := by
              intro hd
              rw [hd] at hb
              exact hb
            split at h
            · rename_i x hx
              split at h
              · rename_i rs2 L2 R2 ks2 e3
                simp only [Option.some.injEq, Prod.mk.injEq] at h
                obtain ⟨rfl, rfl, rfl, rfl⟩ := h
                obtain ⟨g1, g2⟩ := recs_chain e3 hok.2
                exact ⟨⟨⟨ho, hcur, e2, hev1, hev2, hdst, hnod, fun y hy => (by rw [hx] at hy; cases hy; exact hok.1), hgb, rfl⟩, rfl, fun e he => needOf_sub he, g1⟩, by simp [g2]⟩
              · cases h
            · rename_i hx
              split at h
              · rename_i rs2 L2 R2 ks2 e3
                simp only [Option.some.injEq, Prod.mk.injEq] at h
                obtain ⟨rfl, rfl, rfl, rfl⟩ := h
                obtain ⟨g1, g2⟩ := recs_chain e3 hok
                exact ⟨⟨⟨ho, hcur, e2, hev1, hev2, hdst, hnod, fun y hy => (by rw [hx] at hy; cases hy), hgb, rfl⟩, rfl, fun e he => needOf_sub he, g1⟩, by simp [g2]⟩
              · cases h
        · cases h

theorem evFlt_spec {L : List Ent} {cur : Path} {c : Cl} {i : Nat} {o : Oper} {out : Out} (h : evFlt P L cur R c i o = some out) :
    (∃ t z cells r', o.op = .alloc t ∧ tyZero P t = some z ∧ dsOf z.cells.toList = some cells ∧ R[i]? = some r' ∧ out = ⟨.d (.o i 0), R, some (.flt i (.box t cells) r')⟩) ∨
    (∃ t l c0 o1 r1 r' c1, o.op = .makeSlice t l l ∧ R[i]? = some r' ∧ evMake P [] c0 t ((look L cur l).bind exactV) = some o1 ∧ o1.R = [r1] ∧ o1.c = some c1 ∧ out = ⟨.d (.os i), R, some (.fltm i c1 r1 r')⟩) := by
  unfold evFlt at h
  split at h
  · rename_i t l k ht
    split at h
    · rename_i i0 c0 q1 q2 r' e1
      split at h
      · rename_i o1 hs e2
        have hlk : l = k := by
          unfold sameOpd at hs
          split at hs
          · rw [Nat.eq_of_beq_eq_true hs]
          · rw [eq_of_beq hs]
          · cases hs
        subst hlk
        split at h
        · rename_i r1 c1 e3 e4
          simp only [Option.some.injEq] at h
          exact .inr ⟨t, l, c0, o1, r1, r', c1, ht, e1, e2, e3, e4, h.symm⟩
        · cases h
      · cases h
    · cases h
  · rename_i t ht
    split at h
    · rename_i cells r' e1 e2
      simp at h
      cases hz : tyZero P t with
      | none => rw [hz] at e1; simp at e1
      | some z => rw [hz] at e1; exact .inl ⟨t, z, cells, r', ht, hz, e1, e2, h.symm⟩
    · cases h
  · cases h

/-! ### own things along any order -/
def curR (X : Nat → Bool) : List Res → List Rec → List Res
  | R, [] => R
  | R, r :: rs => bif r.eff && X r.i then curR X r.out.R rs else curR X R rs

theorem chain_quiet {n : Nat} {ops : Array Oper} {r : Rec} (h : RecOk P n ops r) (he : r.eff = false) : r.out.R = r.Rin := by
  have := h.eff
  rw [he] at this
  cases hf : r.fl with
  | none =>
    rw [hf] at this
    exact (quiet_frame (R' := r.Rin) (by simpa using this.symm) (fun _ _ => rfl) (h.ev hf)).1
  | some i =>
    rcases evFlt_spec (h.flo i hf) with ⟨t, z, cells, r', _, _, _, _, e⟩ | ⟨t, l, c0, o1, r1, r', c1, _, _, _, _, _, e⟩ <;>
    rw [e]

def PC (X : Nat → Bool) (rs : List Rec) : Prop := ∀ r q, r ∈ rs → q ∈ rs → r.eff = true → q.eff = true → r.i < q.i → X q.i = true → X r.i = true
def Sorted (rs : List Rec) : Prop := rs.Pairwise fun r q => r.i < q.i

theorem PC.tail {X : Nat → Bool} {r : Rec} {rs : List Rec} (h : PC X (r :: rs)) : PC X rs :=
  fun a b ha hb => h a b (List.mem_cons_of_mem _ ha) (List.mem_cons_of_mem _ hb)

theorem curR_none {X : Nat → Bool} : ∀ {rs : List Rec} {R : List Res}, (∀ r, r ∈ rs → r.eff = true → X r.i = false) → curR X R rs = R
  | [], R, _ => rfl
  | r :: rs, R, h => by
    have ih := curR_none (R := R) (fun q hq => h q (List.mem_cons_of_mem _ hq))
    simp only [curR]
    cases he : r.eff with
    | false => simpa using ih
    | true => rw [h r List.mem_cons_self he]; simpa using ih

theorem later_none {X : Nat → Bool} {r : Rec} {rs : List Rec} (hp : PC X (r :: rs)) (hs : Sorted (r :: rs)) (he : r.eff = true) (hx : X r.i = false) : ∀ q, q ∈ rs → q.eff = true → X q.i = false := by
  intro q hq hqe
  cases hxq : X q.i with
  | false => rfl
  | true =>
    have := hp r q List.mem_cons_self (List.mem_cons_of_mem _ hq) he hqe ((List.pairwise_cons.1 hs).1 q hq) hxq
    rw [hx] at this; cases this

theorem writes_eq {r r' : Rec} (h1 : r.o = r'.o) (h2 : r.need = r'.need) (h3 : r.cur = r'.cur) (h4 : r.c = r'.c) (h5 : r.Rin = r'.Rin) : writes r = writes r' := by
  unfold writes; rw [h1, h2, h3, h4, h5]

theorem rec_frame {n : Nat} {ops : Array Oper} {r : Rec} (h : RecOk P n ops r) {i : Nat} (hw : i ∉ writes r) (hl : i < r.Rin.length) : r.out.R[i]? = r.Rin[i]? := by
  cases hf : r.fl with
  | none =>
    exact eff_frame (cs := r.cs) (h.ev hf) hl (fun hm => hw (by
      have e : writes ⟨0, r.o, r.need, r.cur, r.cs, r.c, r.Rin, r.out, true, false, none⟩ = writes r := writes_eq rfl rfl rfl rfl rfl
      rw [← e]; exact hm))
  | some j =>
    rcases evFlt_spec (h.flo j hf) with ⟨t, z, cells, r', _, _, _, _, e⟩ | ⟨t, l, c0, o1, r1, r', c1, _, _, _, _, _, e⟩ <;>
    rw [e]

theorem curR_keep {n : Nat} {ops : Array Oper} {X : Nat → Bool} {i : Nat} : ∀ {rs : List Rec} {L : List Ent} {R : List Res}, Chain P n ops L R rs L' R' → Sorted rs → PC X rs →
    (∀ r, r ∈ rs → r.eff = true → X r.i = true → i ∉ writes r ∧ i < r.Rin.length) → (curR X R rs)[i]? = R[i]?
  | [], L, R, _, _, _, _ => rfl
  | r :: rs, L, R, hc, hs, hp, h => by
    obtain ⟨hr, hR, _, hc'⟩ := hc
    simp only [curR]
    cases he : r.eff with
    | false =>
      have hq := chain_quiet hr he
      rw [hq, hR] at hc'
      simpa using curR_keep hc' (List.pairwise_cons.1 hs).2 hp.tail (fun q hq => h q (List.mem_cons_of_mem _ hq))
    | true =>
      cases hx : X r.i with
      | false =>
        simp only [Bool.and_false, cond_false]
        rw [curR_none (later_none hp hs he hx)]
      | true =>
        simp only [Bool.and_self, cond_true]
        rw [curR_keep hc' (List.pairwise_cons.1 hs).2 hp.tail (fun q hq => h q (List.mem_cons_of_mem _ hq))]
        obtain ⟨g1, g2⟩ := h r List.mem_cons_self he hx
        rw [rec_frame hr g1 g2, hR]

theorem curR_get {n : Nat} {ops : Array Oper} {X Y : Nat → Bool} {i : Nat} : ∀ {rs : List Rec} {L : List Ent} {R : List Res}, Chain P n ops L R rs L' R' → Sorted rs → PC X rs → PC Y rs →
    (∀ r, r ∈ rs → r.eff = true → X r.i ≠ Y r.i → i ∉ writes r ∧ i < r.Rin.length) → (curR X R rs)[i]? = (curR Y R rs)[i]?
  | [], L, R, _, _, _, _, _ => rfl
  | r :: rs, L, R, hc, hs, hp, hq, h => by
    obtain ⟨hr, hR, _, hc'⟩ := hc
    have hs' := (List.pairwise_cons.1 hs).2
    simp only [curR]
    cases he : r.eff with
    | false =>
      have hq' := chain_quiet hr he
      rw [hq', hR] at hc'
      simpa using curR_get hc' hs' hp.tail hq.tail (fun q hq => h q (List.mem_cons_of_mem _ hq))
    | true =>
      cases hx : X r.i with
      | false =>
        cases hy : Y r.i with
        | false =>
          simp only [Bool.and_false, cond_false]
          rw [curR_none (later_none hp hs he hx), curR_none (later_none hq hs he hy)]
        | true =>
          simp only [Bool.and_false, cond_false, Bool.and_self, cond_true]
          have hl := later_none hp hs he hx
          rw [curR_none hl, curR_keep hc' hs' hq.tail fun q hq2 hqe hqy => h q (List.mem_cons_of_mem _ hq2) hqe (by rw [hl q hq2 hqe, hqy]; simp)]
          obtain ⟨g1, g2⟩ := h r List.mem_cons_self he (by rw [hx, hy]; simp)
          rw [rec_frame hr g1 g2, hR]
      | true =>
        cases hy : Y r.i with
        | true =>
          simp only [Bool.and_self, cond_true]
          exact curR_get hc' hs' hp.tail hq.tail (fun q hq => h q (List.mem_cons_of_mem _ hq))
        | false =>
          simp only [Bool.and_false, cond_false, Bool.and_self, cond_true]
          have hl := later_none hq hs he hy
          rw [curR_none hl, curR_keep hc' hs' hp.tail fun q hq2 hqe hqx => h q (List.mem_cons_of_mem _ hq2) hqe (by rw [hl q hq2 hqe, hqx]; simp)]
          obtain ⟨g1, g2⟩ := h r List.mem_cons_self he (by rw [hx, hy]; simp)
          rw [rec_frame hr g1 g2, hR]

theorem curR_congr {X Y : Nat → Bool} : ∀ {rs : List Rec} {R : List Res}, (∀ r, r ∈ rs → r.eff = true → X r.i = Y r.i) → curR X R rs = curR Y R rs
  | [], _, _ => rfl
  | r :: rs, R, h => by
    simp only [curR]
    cases he : r.eff with
    | false => simpa using curR_congr (fun q hq => h q (List.mem_cons_of_mem _ hq))
    | true =>
      rw [h r List.mem_cons_self he]
      cases Y r.i <;> simpa using curR_congr (fun q hq => h q (List.mem_cons_of_mem _ hq))

/-- the own things right ahead of a record -/
theorem curR_at {n : Nat} {ops : Array Oper} {q : Rec} : ∀ {rs : List Rec} {L : List Ent} {R : List Res}, Chain P n ops L R rs L' R' → Sorted rs → q ∈ rs → curR (fun i => Nat.blt i q.i) R rs = q.Rin
  | [], L, R, _, _, h => by cases h
  | r :: rs, L, R, hc, hs, hq => by
    obtain ⟨hr, hR, _, hc'⟩ := hc
    have hs' := (List.pairwise_cons.1 hs).2
    have hlt := (List.pairwise_cons.1 hs).1
    rcases List.mem_cons.1 hq with rfl | hq
    · rw [hR]
      refine curR_none fun x hx _ => ?_
      rcases List.mem_cons.1 hx with rfl | hx
      · cases hb : Nat.blt x.i x.i with
        | false => rfl
        | true => rw [Nat.blt_eq] at hb; omega
      · have := hlt x hx
        cases hb : Nat.blt x.i q.i with
        | false => rfl
        | true => rw [Nat.blt_eq] at hb; omega
    · have h1 : Nat.blt r.i q.i = true := by rw [Nat.blt_eq]; exact hlt q hq
      simp only [curR, h1, Bool.and_true]
      cases he : r.eff with
      | false =>
        have hq' := chain_quiet hr he
        rw [hq', hR] at hc'
        exact curR_at hc' hs' hq
      | true => exact curR_at hc' hs' hq
theorem curR_behind {n : Nat} {ops : Array Oper} {q : Rec} : ∀ {rs : List Rec} {L : List Ent} {R : List Res}, Chain P n ops L R rs L' R' → Sorted rs → q ∈ rs → curR (fun i => Nat.ble i q.i) R rs = q.out.R
  | [], L, R, _, _, h => by cases h
  | r :: rs, L, R, hc, hs, hq => by
    obtain ⟨hr, hR, _, hc'⟩ := hc
    have hs' := (List.pairwise_cons.1 hs).2
    have hlt := (List.pairwise_cons.1 hs).1
    rcases List.mem_cons.1 hq with rfl | hq
    · have h1 : Nat.ble q.i q.i = true := by simp
      have hno : ∀ x, x ∈ rs → x.eff = true → Nat.ble x.i q.i = false := by
        intro x hx _
        have := hlt x hx
        cases hb : Nat.ble x.i q.i with
        | false => rfl
        | true => have := Nat.le_of_ble_eq_true hb; omega
      simp only [curR, h1, Bool.and_true]
      cases he : q.eff with
      | false => simp only [cond_false]; rw [curR_none hno, chain_quiet hr he, hR]
      | true => simp only [cond_true]; rw [curR_none hno]
    · have h1 : Nat.ble r.i q.i = true := by have := hlt q hq; exact Nat.ble_eq_true_of_le (by omega)
      simp only [curR, h1, Bool.and_true]
      cases he : r.eff with
      | false =>
        have hq' := chain_quiet hr he
        rw [hq', hR] at hc'
        exact curR_behind hc' hs' hq
      | true => exact curR_behind hc' hs' hq
theorem curR_all {n : Nat} {ops : Array Oper} {X : Nat → Bool} : ∀ {rs : List Rec} {L : List Ent} {R : List Res}, Chain P n ops L R rs L' R' → (∀ r, r ∈ rs → X r.i = true) → curR X R rs = R'
  | [], L, R, hc, _ => hc.2
  | r :: rs, L, R, hc, h => by
    obtain ⟨hr, hR, _, hc'⟩ := hc
    simp only [curR, h r List.mem_cons_self, Bool.and_true]
    cases he : r.eff with
    | false =>
      have hq' := chain_quiet hr he
      rw [hq', hR] at hc'
      exact curR_all hc' (fun q hq => h q (List.mem_cons_of_mem _ hq))
    | true => exact curR_all hc' (fun q hq => h q (List.mem_cons_of_mem _ hq))

theorem chain_rec {n : Nat} {ops : Array Oper} {q : Rec} : ∀ {rs : List Rec} {L : List Ent} {R : List Res}, Chain P n ops L R rs L' R' → q ∈ rs → RecOk P n ops q
  | [], L, R, _, h => by cases h
  | r :: rs, L, R, hc, hq => by
    rcases List.mem_cons.1 hq with rfl | hq
    · exact hc.1
    · exact chain_rec hc.2.2.2 hq

/-! ### temporaries along any order -/
def NotKill (q : Rec) (e : Ent) : Prop := ∀ d, q.o.dst = some d → d ≠ e.t ∧ ∀ g, g ∈ e.p → g.1 ≠ d

/-- entries that stand when just these have been carried out -/
def EntIn (rs : List Rec) (L0 : List Ent) (X : Nat → Bool) (e : Ent) : Prop :=
  (e ∈ L0 ∧ ∀ q, q ∈ rs → X q.i = true → NotKill q e) ∨
  (∃ r, r ∈ rs ∧ X r.i = true ∧ r.o.dst = some e.t ∧ e.p = r.cur ∧ e.v = r.out.v ∧ ∀ q, q ∈ rs → r.i < q.i → X q.i = true → NotKill q e)

/-- where an entry of a later list comes from -/
theorem chain_from {n : Nat} {ops : Array Oper} : ∀ {rs : List Rec} {L : List Ent} {R : List Res}, Chain P n ops L R rs L' R' → Sorted rs → ∀ e, e ∈ L' →
    (e ∈ L ∧ ∀ q, q ∈ rs → NotKill q e) ∨ (∃ r, r ∈ rs ∧ r.o.dst = some e.t ∧ e.p = r.cur ∧ e.v = r.out.v ∧ ∀ q, q ∈ rs → r.i < q.i → NotKill q e)
  | [], L, R, hc, _, e, he => by
    have := hc.1; subst this
    exact .inl ⟨he, fun q hq => by cases hq⟩
  | r :: rs, L, R, hc, hs, e, he => by
    obtain ⟨hr, hR, _, hc'⟩ := hc
    have hs' := (List.pairwise_cons.1 hs).2
    have hlt := (List.pairwise_cons.1 hs).1
    rcases chain_from hc' hs' e he with ⟨h1, h2⟩ | ⟨x, h1, h2, h3, h4, h5⟩
    · unfold nextL at h1
      cases hd : r.o.dst with
      | none =>
        rw [hd] at h1
        refine .inl ⟨h1, fun q hq => ?_⟩
        rcases List.mem_cons.1 hq with rfl | hq
        · intro d hd'; rw [hd] at hd'; cases hd'
        · exact h2 q hq
      | some d =>
        rw [hd] at h1
        unfold putE at h1
        rcases List.mem_cons.1 h1 with rfl | h1
        · refine .inr ⟨r, List.mem_cons_self, hd, rfl, rfl, fun q hq hlt' => ?_⟩
          rcases List.mem_cons.1 hq with rfl | hq
          · omega
          · exact h2 q hq
        · rw [List.mem_filter] at h1
          obtain ⟨h1, hf⟩ := h1
          simp only [Bool.and_eq_true] at hf
          refine .inl ⟨h1, fun q hq => ?_⟩
          rcases List.mem_cons.1 hq with rfl | hq
          · intro d' hd'
            rw [hd] at hd'; cases hd'
            refine ⟨fun e' => ?_, fun g hg e' => ?_⟩
            · subst e'; simp at hf
            · have := (List.all_eq_true.1 hf.2) g hg
              subst e'; simp at this
          · exact h2 q hq
    · refine .inr ⟨x, List.mem_cons_of_mem _ h1, h2, h3, h4, fun q hq hlt' => ?_⟩
      rcases List.mem_cons.1 hq with rfl | hq
      · have := hlt x h1; omega
      · exact h5 q hq hlt'
theorem chain_need {n : Nat} {ops : Array Oper} {q : Rec} : ∀ {rs : List Rec} {L : List Ent} {R : List Res}, Chain P n ops L R rs L' R' → Sorted rs → q ∈ rs → ∀ e, e ∈ q.need →
    (e ∈ L ∧ ∀ x, x ∈ rs → x.i < q.i → NotKill x e) ∨ (∃ r, r ∈ rs ∧ r.i < q.i ∧ r.o.dst = some e.t ∧ e.p = r.cur ∧ e.v = r.out.v ∧ ∀ x, x ∈ rs → r.i < x.i → x.i < q.i → NotKill x e)
  | [], L, R, _, _, h, _, _ => by cases h
  | r :: rs, L, R, hc, hs, hq, e, he => by
    obtain ⟨hr, hR, hn, hc'⟩ := hc
    have hs' := (List.pairwise_cons.1 hs).2
    have hlt := (List.pairwise_cons.1 hs).1
    rcases List.mem_cons.1 hq with rfl | hq
    · refine .inl ⟨hn e he, fun x hx hlt' => ?_⟩
      rcases List.mem_cons.1 hx with rfl | hx
      · omega
      · have := hlt x hx; omega
    · rcases chain_need hc' hs' hq e he with ⟨h1, h2⟩ | ⟨x, h1, h1', h2, h3, h4, h5⟩
      · unfold nextL at h1
        cases hd : r.o.dst with
        | none =>
          rw [hd] at h1
          refine .inl ⟨h1, fun q' hq' hl => ?_⟩
          rcases List.mem_cons.1 hq' with rfl | hq'
          · intro d hd'; rw [hd] at hd'; cases hd'
          · exact h2 q' hq' hl
        | some d =>
          rw [hd] at h1
          unfold putE at h1
          rcases List.mem_cons.1 h1 with rfl | h1
          · refine .inr ⟨r, List.mem_cons_self, hlt q hq, hd, rfl, rfl, fun q' hq' hlt' hl => ?_⟩
            rcases List.mem_cons.1 hq' with rfl | hq'
            · omega
            · exact h2 q' hq' hl
          · rw [List.mem_filter] at h1
            obtain ⟨h1, hf⟩ := h1
            simp only [Bool.and_eq_true] at hf
            refine .inl ⟨h1, fun q' hq' hl => ?_⟩
            rcases List.mem_cons.1 hq' with rfl | hq'
            · intro d' hd'
              rw [hd] at hd'; cases hd'
              refine ⟨fun e' => ?_, fun g hg e' => ?_⟩
              · subst e'; simp at hf
              · have := (List.all_eq_true.1 hf.2) g hg
                subst e'; simp at this
            · exact h2 q' hq' hl
      · refine .inr ⟨x, List.mem_cons_of_mem _ h1, h1', h2, h3, h4, fun q' hq' hlt' hl => ?_⟩
        rcases List.mem_cons.1 hq' with rfl | hq'
        · have := hlt x h1; omega
        · exact h5 q' hq' hlt' hl
end
end Go.SL
