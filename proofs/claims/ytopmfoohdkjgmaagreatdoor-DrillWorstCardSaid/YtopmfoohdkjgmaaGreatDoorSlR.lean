/-
  The logic, eighteenth part: whatever order.
-/
import Derived.Test.YtopmfoohdkjgmaaGreatDoorSlQ
namespace Go.SL

section
variable {P : Program} {C : Ctx} {S S' : Nat → Prop} {w w' : World} {ρ ρ' : List Value} {R R' R0 : List Res} {L L' L0 : List Ent} {a : Act} {n : Nat} {ops : Array Oper} {rs : List Rec}

def Closed (ops : Array Oper) (X : Nat → Bool) : Prop := ∀ j o, X j = true → ops[j]? = some o → ∀ e, e ∈ o.after → Region.binds .any e = true → X e.on = true

theorem clos_length : ∀ N, (clos ops N).length = N
  | 0 => rfl
  | N + 1 => by simp [clos, clos_length N]

theorem memM_testBit {m i : Nat} (h : memM m i = true) : m.testBit i = true := by
  have h1 : (m >>> i) &&& 1 = 1 := Nat.eq_of_beq_eq_true h
  unfold Nat.testBit
  rw [Nat.and_comm, h1]; rfl

theorem orE_ok {l : List Nat} {i : Nat} : ∀ {es : List Edge} {m : Nat}, (orE l es m).testBit i = true → m.testBit i = true ∨ ∃ e, e ∈ es ∧ Region.binds .any e = true ∧ (e.on = i ∨ ∃ m', l[e.on]? = some m' ∧ m'.testBit i = true)
  | [], m, h => .inl h
  | e :: r, m, h => by
    simp only [orE] at h
    rcases orE_ok h with h | ⟨e', h1, h2⟩
    · cases hb : (Region.binds .any e && Nat.blt e.on l.length) with
      | false => rw [hb] at h; exact .inl h
      | true =>
        rw [hb] at h
        simp only [cond_true] at h
        simp only [Bool.and_eq_true] at hb
        have h' : (m ||| ((1 <<< e.on) ||| (l[e.on]?).getD 0)).testBit i = true := h
        simp only [Nat.testBit_or, Bool.or_eq_true] at h'
        rcases h' with h' | h' | h'
        · exact .inl h'
        · refine .inr ⟨e, List.mem_cons_self, hb.1, .inl ?_⟩
          rw [Nat.testBit_shiftLeft] at h'
          simp only [Bool.and_eq_true, decide_eq_true_eq] at h'
          rcases Nat.lt_or_ge e.on i with hlt | hge
          · have := Nat.testBit_one_eq_true_iff_self_eq_zero.1 h'.2
            omega
          · omega
        grind
    grind

theorem clos_ok {X : Nat → Bool} (hX : Closed ops X) (N : Nat) : ∀ {j i : Nat} {m : Nat}, (clos ops N)[j]? = some m → m.testBit i = true → X j = true → X i = true := by
  induction N with
  | zero => intro j i l h _ _; simp [clos] at h
  | succ N ih =>
    intro j i m h hi hj
    simp only [clos] at h
    rcases get_snoc h with h | ⟨e, h⟩
    · exact ih h hi hj
    · rw [clos_length] at e
      subst e
      cases ho : ops[j]? with
      | none => rw [ho] at h; subst h; simp at hi
      | some o =>
        rw [ho] at h
        simp only at h
        subst h
        rcases orE_ok hi with hi | ⟨e, he, hb, hi⟩
        · simp at hi
        · have hon := hX j o hj ho e (Array.mem_toList_iff.1 he) hb
          grind

theorem before_ok {X : Nat → Bool} (hX : Closed ops X) {i j : Nat} (h : memM (((clos ops ops.size)[j]?).getD 0) i = true) (hj : X j = true) : X i = true := by
  have h := memM_testBit h
  grind [clos_ok]

structure AnyOk (ops : Array Oper) (L0 : List Ent) (rs : List Rec) : Prop where
  flat : ∀ e, e ∈ L0 → e.p = []
  back : ∀ r, r ∈ rs → ∀ e, e ∈ r.o.after → Region.binds .any e = true → e.on < r.i
  pair : ∀ r q, r ∈ rs → q ∈ rs → r.i < q.i → memM (((clos ops ops.size)[q.i]?).getD 0) r.i = true ∨ pairOk r q = true

theorem anyOk_spec (h : anyOk ops L0 rs = true) : AnyOk ops L0 rs := by
  unfold anyOk at h
  simp only [Bool.and_eq_true, List.all_eq_true] at h
  obtain ⟨⟨h1, h2⟩, h3⟩ := h
  refine ⟨fun e he => by simpa using h1 e he, fun r hr e he hb => ?_, fun r q hr hq hlt => ?_⟩
  · have := h2 r hr
    rw [Array.all_eq_true_iff_forall_mem] at this
    have := this e he
    rw [hb] at this
    simpa [Nat.blt_eq] using this
  · have := h3 r hr q hq
    simp only [Bool.or_eq_true] at this
    rcases this with h | h | h
    · have := Nat.le_of_ble_eq_true h; omega
    · exact .inl h
    · exact .inr h

theorem clear_spec {need : List Ent} {d : Nat} (h : clear need d = true) : ∀ e, e ∈ need → d ≠ e.t ∧ ∀ g, g ∈ e.p → g.1 ≠ d := by
  intro e he
  unfold clear at h
  have := (List.all_eq_true.1 h) e he
  simp only [Bool.and_eq_true] at this
  refine ⟨fun e' => ?_, fun g hg e' => ?_⟩
  · subst e'; simp at this
  · have h2 := (List.all_eq_true.1 this.2) g hg
    subst e'; simp at h2

structure PairOk (r q : Rec) : Prop where
  eff : r.eff = false ∨ q.eff = false
  d1 : ∀ d, r.o.dst = some d → (∀ e, e ∈ q.need → d ≠ e.t ∧ ∀ g, g ∈ e.p → g.1 ≠ d) ∧ (∀ g, g ∈ q.cur → g.1 ≠ d) ∧ q.o.dst ≠ some d
  d2 : ∀ d, q.o.dst = some d → ∀ e, e ∈ r.need → d ≠ e.t ∧ ∀ g, g ∈ e.p → g.1 ≠ d
  e1 : r.eff = true → ∀ i, i ∈ touchR q → i ∉ writes r ∧ i < r.Rin.length
  e2 : q.eff = true → ∀ i, i ∈ touchR r → i ∉ writes q ∧ i < q.Rin.length

theorem pairOk_spec {r q : Rec} (h : pairOk r q = true) : PairOk r q := by
  unfold pairOk at h
  simp only [Bool.and_eq_true] at h
  obtain ⟨⟨⟨⟨h1, h2⟩, h3⟩, h4⟩, h5⟩ := h
  refine ⟨?_, fun d hd => ?_, fun d hd => ?_, fun he i hi => ?_, fun he i hi => ?_⟩
  · simpa using h1
  · rw [hd] at h2
    simp only [Bool.and_eq_true] at h2
    obtain ⟨⟨g1, g2⟩, g3⟩ := h2
    refine ⟨clear_spec g1, fun g hg e => ?_, fun e => ?_⟩
    · simp only [Bool.not_eq_true'] at g2
      have := (List.any_eq_false.1 g2) g hg
      subst e; simp at this
    · rw [e] at g3; simp at g3
  · rw [hd] at h3
    exact clear_spec h3
  · rw [he] at h4
    simp only [Bool.not_true, Bool.false_or] at h4
    have := (List.all_eq_true.1 h4) i hi
    simp only [Bool.and_eq_true, Bool.not_eq_true'] at this
    refine ⟨fun hm => ?_, by have := this.2; simpa [Nat.blt_eq] using this⟩
    rw [← memN_iff] at hm
    rw [hm] at this; simp at this
  · rw [he] at h5
    simp only [Bool.not_true, Bool.false_or] at h5
    have := (List.all_eq_true.1 h5) i hi
    simp only [Bool.and_eq_true, Bool.not_eq_true'] at this
    refine ⟨fun hm => ?_, by have := this.2; simpa [Nat.blt_eq] using this⟩
    rw [← memN_iff] at hm
    rw [hm] at this; simp at this

/-- the state when just these have been carried out -/
def J (n : Nat) (C : Ctx) (L0 : List Ent) (R0 : List Res) (rs : List Rec) (X : Nat → Bool) (a : Act) (w : World) : Prop :=
  a.defers = C.df ∧ a.tmps.size = n ∧ ∃ S ρ, Inv C S w ρ (curR X R0 rs) ∧ (∀ e, EntIn rs L0 X e → EntOk S w ρ a e) ∧
    ∀ r i, r ∈ rs → r.fl = some i → X r.i = false → ∃ h, ρ[i]? = some h ∧ h.oneCell' = false

/-- the floating boxes' numbers: each its own, behind all that was handed in -/
structure FlOk (C : Ctx) (rs : List Rec) : Prop where
  inj : ∀ r q i, r ∈ rs → q ∈ rs → r.fl = some i → q.fl = some i → r = q
  low : ∀ r i, r ∈ rs → r.fl = some i → C.h.length ≤ i

theorem flIdx_mem {r : Rec} {i : Nat} : ∀ {rs : List Rec}, r ∈ rs → r.fl = some i → i ∈ flIdx rs
  | [], h, _ => by cases h
  | x :: rs, h, hf => by
    rcases List.mem_cons.1 h with rfl | h
    · simp [flIdx, hf]
    · have := flIdx_mem h hf
      unfold flIdx
      grind
theorem idxOf_notin {l : List Nat} {i : Nat} (h : (idxOf l i).isNone = true) : i ∉ l := by
  induction l with
  | nil => simp
  | cons a r ih =>
    simp only [idxOf] at h
    cases hb : Nat.beq a i with
    | true => rw [hb] at h; simp at h
    | false =>
      rw [hb] at h
      simp only [cond_false] at h
      intro hm
      rcases List.mem_cons.1 hm with rfl | hm
      · simp at hb
      grind
theorem flIdx_inj : ∀ {rs : List Rec}, noDup (flIdx rs) = true → ∀ r q i, r ∈ rs → q ∈ rs → r.fl = some i → q.fl = some i → r = q
  | [], _, r, q, i, h, _, _, _ => by cases h
  | x :: rs, hn, r, q, i, hr, hq, h1, h2 => by
    cases hx : x.fl with
    | none =>
      simp only [flIdx, hx] at hn
      rcases List.mem_cons.1 hr with rfl | hr
      · rw [hx] at h1; cases h1
      · rcases List.mem_cons.1 hq with rfl | hq
        · rw [hx] at h2; cases h2
        · exact flIdx_inj hn r q i hr hq h1 h2
    | some j =>
      simp only [flIdx, hx, noDup, Bool.and_eq_true] at hn
      have hnot := idxOf_notin hn.1
      rcases List.mem_cons.1 hr with e1 | hr2
      · rcases List.mem_cons.1 hq with e2 | hq2
        · rw [e1, e2]
        · rw [e1, hx] at h1; cases h1
          exact absurd (flIdx_mem hq2 h2) hnot
      · rcases List.mem_cons.1 hq with e2 | hq2
        · rw [e2, hx] at h2; cases h2
          exact absurd (flIdx_mem hr2 h1) hnot
        · exact flIdx_inj hn.2 r q i hr2 hq2 h1 h2

/-- a thing is born whose place was kept -/
theorem Inv.birth (h : Inv C S w ρ R) {i : Nat} {r : Res} {v d : Value} (hi : R[i]? = some r) (hd : ρ[i]? = some d) (hdd : d.oneCell' = false) (hC : C.h.length ≤ i)
    (hw : ∀ b, b < w.heap.size → w'.heap[b]? = w.heap[b]?) (hsz : w.heap.size ≤ w'.heap.size) (ho : w'.os = w.os) (ht : Tp w w') (hp : w'.output = w.output)
    (hok : r.ok S w' (ρ.set i v) v) (hf : ∀ b, r.foot v b → w.heap.size ≤ b ∧ b < w'.heap.size) : Inv C S w' (ρ.set i v) R ∧ PreA ρ (ρ.set i v) := by
  have hil : i < ρ.length := (List.getElem?_eq_some_iff.1 hd).1
  have hpre : PreA ρ (ρ.set i v) := by
    intro j x hj hx
    grind
  have key : ∀ (j : Nat) x, (ρ.set i v)[j]? = some x → (j = i ∧ x = v) ∨ (j ≠ i ∧ ρ[j]? = some x) := by
    grind
  refine ⟨⟨by simp [h.len], fun j r1 v1 h1 h2 => ?_, fun j k r1 r2 v1 v2 b hjk h1 h2 h3 h4 h5 h6 => ?_, fun j r1 v1 b h1 h2 h3 => ?_, h.sub, fun b hb => ⟨Nat.lt_of_lt_of_le (h.sup b hb).1 hsz, (h.sup b hb).2⟩, fun b hb hf => (hw b (Nat.lt_of_lt_of_le hb h.size)).trans (h.frm b hb hf), Nat.le_trans h.size hsz, ho.trans h.os, ht.trans h.tape, hp.trans h.output, fun j x hj => ?_, h.gl⟩, hpre⟩
  · rcases key j v1 h2 with ⟨rfl, rfl⟩ | ⟨hj, h2⟩
    · rw [hi] at h1; cases h1; exact hok
    · exact (h.ok j r1 v1 h1 h2).monoA (fun _ h => h) (fun b hb => hw b (h.sup b hb).1) hpre (fun b hb => hw b (h.own j r1 v1 b h1 h2 hb).2.1)
  · rcases key j v1 h3 with ⟨rfl, rfl⟩ | ⟨hj, h3'⟩
    · rcases key k v2 h4 with ⟨rfl, _⟩ | ⟨hk, h4'⟩
      · exact hjk rfl
      · rw [hi] at h1; cases h1
        have := (hf b h5).1
        have := (h.own k r2 v2 b h2 h4' h6).2.1
        omega
    · rcases key k v2 h4 with ⟨rfl, rfl⟩ | ⟨hk, h4'⟩
      · rw [hi] at h2; cases h2
        have := (hf b h6).1
        have := (h.own j r1 v1 b h1 h3' h5).2.1
        omega
      · exact h.dis j k r1 r2 v1 v2 b hjk h1 h2 h3' h4' h5 h6
  · rcases key j v1 h2 with ⟨rfl, rfl⟩ | ⟨hj, h2⟩
    · rw [hi] at h1; cases h1
      obtain ⟨g1, g2⟩ := hf b h3
      exact ⟨fun hb => by have := (h.sup b hb).1; omega, g2, .inr (Nat.le_trans h.size g1)⟩
    · obtain ⟨g1, g2, g3⟩ := h.own j r1 v1 b h1 h2 h3
      exact ⟨g1, Nat.lt_of_lt_of_le g2 hsz, g3⟩
  · have hjl : j < C.h.length := (List.getElem?_eq_some_iff.1 hj).1
    rw [List.getElem?_set_ne (by omega)]
    exact h.pre j x hj

theorem entOk_put {d : Nat} {v : Value} {e : Ent} (h : EntOk S w ρ a e) (hS : ∀ b, S b → S' b) (hw : ∀ b, S b → w'.heap[b]? = w.heap[b]?) (hρ : PreA ρ ρ') (h1 : d ≠ e.t) (h2 : ∀ g, g ∈ e.p → g.1 ≠ d) : EntOk S' w' ρ' (a.put (some d) v) e := by
  have hp : e.p.all (fun g => !(Nat.beq g.1 d)) = true := by
    rw [List.all_eq_true]
    intro g hg
    cases hb : Nat.beq g.1 d with
    | false => rfl
    | true => exact absurd (Nat.eq_of_beq_eq_true hb) (h2 g hg)
  refine ⟨fun hpt => ?_, fun hpt => ?_⟩
  · obtain ⟨x, hx, hr⟩ := h.1 ((pt_put hp).1 hpt)
    exact ⟨x, by rw [put_get h1]; exact hx, hr.monoA hS hw hρ⟩
  · rw [put_get h1]; exact h.2 fun k => hpt ((pt_put hp).2 k)

/-- one operation more -/
theorem any_step (hch : Chain P n ops L0 R0 rs L' R') (hs : Sorted rs) (hany : AnyOk ops L0 rs) (hfl : FlOk C rs) {X X' : Nat → Bool} (hX : Closed ops X) {q : Rec} (hq : q ∈ rs) (hqX : X q.i = false)
    (hready : ∀ e, e ∈ q.o.after → Region.binds .any e = true → X e.on = true) (hX' : ∀ j, X' j = (X j || decide (j = q.i))) (hJ : J n C L0 R0 rs X a w)
    {K : Act → World → Prop} (hK : ∀ a' w', J n C L0 R0 rs X' a' w' → K a' w') : wpOp0 P ops q.i K a w := by
  obtain ⟨hdef, hsize, S, ρ, hI, hE, hD⟩ := hJ
  have hrec := chain_rec hch hq
  have hXc' : Closed ops X' := by
    intro j o hj ho e he hb
    rw [hX'] at hj ⊢
    simp only [Bool.or_eq_true, decide_eq_true_eq] at hj ⊢
    rcases hj with hj | rfl
    · exact .inl (hX j o hj ho e he hb)
    · rw [hrec.op] at ho; cases ho
      exact .inl (hready e he hb)
  have hq' : X' q.i = true := by rw [hX']; simp
  -- operations ahead of q are done, those behind it are not
  have ahead : ∀ r, r ∈ rs → r.i < q.i → memM (((clos ops ops.size)[q.i]?).getD 0) r.i = true → X r.i = true := by
    intro r hr hlt hm
    have := before_ok hXc' hm hq'
    rw [hX'] at this
    simp only [Bool.or_eq_true, decide_eq_true_eq] at this
    rcases this with h | h
    · exact h
    · omega
  have behind : ∀ r, r ∈ rs → q.i < r.i → X r.i = true → pairOk q r = true := by
    intro r hr hlt hx
    rcases hany.pair q r hq hr hlt with h | h
    · have := before_ok hX h hx
      rw [hqX] at this; cases this
    · exact h
  have early : ∀ r, r ∈ rs → r.i < q.i → X r.i = false → pairOk r q = true := by
    intro r hr hlt hx
    rcases hany.pair r q hr hq hlt with h | h
    · have := ahead r hr hlt h
      rw [hx] at this; cases this
    · exact h
  have uniq : ∀ r, r ∈ rs → r.i = q.i → r = q := by
    intro r hr hi
    obtain ⟨k, hk, rfl⟩ := List.getElem_of_mem hr
    obtain ⟨m, hm, rfl⟩ := List.getElem_of_mem hq
    have hp := List.pairwise_iff_getElem.1 hs
    rcases Nat.lt_trichotomy k m with h | h | h
    · have := hp k m hk hm h; omega
    · subst h; rfl
    · have := hp m k hm hk h; omega
  have hPC : PC X rs := by
    intro r r2 hr hr2 he he2 hlt hx
    rcases hany.pair r r2 hr hr2 hlt with h | h
    · exact before_ok hX h hx
    · rcases (pairOk_spec h).eff with h | h
      · rw [he] at h; cases h
      · rw [he2] at h; cases h
  have hPCq : PC (fun i => Nat.blt i q.i) rs := by
    intro r r2 _ _ _ _ hlt hx
    rw [Nat.blt_eq] at hx ⊢
    omega
  -- the temporaries that q looks at
  have hneed : SlotsOk S w ρ a q.need := by
    intro e he
    refine hE e ?_
    have late : ∀ x, x ∈ rs → q.i < x.i → X x.i = true → NotKill x e := fun x hx hlt hxx d hd => (pairOk_spec (behind x hx hlt hxx)).d2 d hd e he
    rcases chain_need hch hs hq e he with ⟨h1, h2⟩ | ⟨r, h1, h1', h2, h3, h4, h5⟩
    · refine .inl ⟨h1, fun x hx hxx => ?_⟩
      rcases Nat.lt_trichotomy x.i q.i with h | h | h
      · exact h2 x hx h
      · rw [uniq x hx h] at hxx; rw [hqX] at hxx; cases hxx
      · exact late x hx h hxx
    · refine .inr ⟨r, h1, ?_, h2, h3, h4, fun x hx hlt hxx => ?_⟩
      · cases hxr : X r.i with
        | true => rfl
        | false => exact absurd rfl (((pairOk_spec (early r h1 h1' hxr)).d1 _ h2).1 e he).1
      · rcases Nat.lt_trichotomy x.i q.i with h | h | h
        · exact h5 x hx hlt h
        · rw [uniq x hx h] at hxx; rw [hqX] at hxx; cases hxx
        · exact late x hx h hxx
  -- our own things
  have hown : q.eff = true → curR X R0 rs = q.Rin ∧ curR X' R0 rs = q.out.R := by
    intro he
    have key : ∀ r, r ∈ rs → r.eff = true → X r.i = Nat.blt r.i q.i := by
      intro r hr hre
      rcases Nat.lt_trichotomy r.i q.i with h | h | h
      · have hb : Nat.blt r.i q.i = true := by rw [Nat.blt_eq]; exact h
        rw [hb]
        rcases hany.pair r q hr hq h with h' | h'
        · exact ahead r hr h h'
        · rcases (pairOk_spec h').eff with k | k
          · rw [hre] at k; cases k
          · rw [he] at k; cases k
      · rw [uniq r hr h, hqX]
        cases hb : Nat.blt q.i q.i with
        | false => rfl
        | true => rw [Nat.blt_eq] at hb; omega
      · have hb : Nat.blt r.i q.i = false := by
          cases hb : Nat.blt r.i q.i with
          | false => rfl
          | true => rw [Nat.blt_eq] at hb; omega
        rw [hb]
        cases hx : X r.i with
        | false => rfl
        | true =>
          rcases (pairOk_spec (behind r hr h hx)).eff with k | k
          · rw [he] at k; cases k
          · rw [hre] at k; cases k
    refine ⟨(curR_congr key).trans (curR_at hch hs hq), (curR_congr (Y := fun i => Nat.ble i q.i) fun r hr hre => ?_).trans (curR_behind hch hs hq)⟩
    rw [hX', key r hr hre]
    rcases Nat.lt_trichotomy r.i q.i with h | h | h
    · have h1 : Nat.blt r.i q.i = true := by rw [Nat.blt_eq]; exact h
      have h2 : Nat.ble r.i q.i = true := Nat.ble_eq_true_of_le (by omega)
      rw [h1, h2]; rfl
    · rw [h]; simp
    · have h2 : Nat.ble r.i q.i = false := by
        cases hb : Nat.ble r.i q.i with
        | false => rfl
        | true => have := Nat.le_of_ble_eq_true hb; omega
      have h1 : Nat.blt r.i q.i = false := by
        cases hb : Nat.blt r.i q.i with
        | false => rfl
        | true => rw [Nat.blt_eq] at hb; omega
      rw [h1, h2]; simp; omega
  have hquiet : q.eff = false → curR X' R0 rs = curR X R0 rs := by
    intro he
    refine curR_congr fun r hr hre => ?_
    rw [hX']
    have : ¬ (r.i = q.i) := fun h => by rw [uniq r hr h, he] at hre; cases hre
    simp [this]
  have htouch : q.eff = false → ∀ i, i ∈ touchR q → q.Rin[i]? = (curR X R0 rs)[i]? := by
    intro he i hi
    rw [← curR_at hch hs hq]
    refine curR_get hch hs hPCq hPC fun r hr hre hne => ?_
    rcases Nat.lt_trichotomy r.i q.i with h | h | h
    · have hb : Nat.blt r.i q.i = true := by rw [Nat.blt_eq]; exact h
      have hxr : X r.i = false := by
        cases hx : X r.i with
        | false => rfl
        | true => rw [hb, hx] at hne; exact absurd rfl hne
      exact (pairOk_spec (early r hr h hxr)).e1 hre i hi
    · rw [uniq r hr h, he] at hre; cases hre
    · have hb : Nat.blt r.i q.i = false := by
        cases hb : Nat.blt r.i q.i with
        | false => rfl
        | true => rw [Nat.blt_eq] at hb; omega
      have hxr : X r.i = true := by
        cases hx : X r.i with
        | true => rfl
        | false => rw [hb, hx] at hne; exact absurd rfl hne
      exact (pairOk_spec (behind r hr h hxr)).e2 hre i hi
  have hev : q.fl = none → ∃ out, evOp P q.need q.cur (curR X R0 rs) q.c q.o = some out ∧ out.v = q.out.v ∧ out.c = q.out.c ∧ out.R = curR X' R0 rs := by
    intro hfn
    cases he : q.eff with
    | true =>
      obtain ⟨h1, h2⟩ := hown he
      exact ⟨q.out, by rw [h1]; exact hrec.ev hfn, rfl, rfl, h2.symm⟩
    | false =>
      have hqq : quietOp q.c q.o = true := by have := hrec.eff; rw [he, hfn] at this; simpa using this.symm
      have ht : ∀ i, i ∈ deepen q.Rin (touchOp q.o.op q.need) ++ lentO q.o.op q.c q.Rin q.need → q.Rin[i]? = (curR X R0 rs)[i]? := fun i hi => htouch he i (by unfold touchR; rw [hfn]; exact hi)
      obtain ⟨_, h2⟩ := quiet_frame hqq ht (hrec.ev hfn)
      exact ⟨_, h2, rfl, rfl, (hquiet he).symm⟩
  -- the entries behind q
  have entries : ∀ e, EntIn rs L0 X' e → (EntIn rs L0 X e ∧ NotKill q e) ∨ (q.o.dst = some e.t ∧ e.p = q.cur ∧ e.v = q.out.v) := by
    intro e he
    have mono : ∀ x, x ∈ rs → X x.i = true → X' x.i = true := fun x _ hx => by rw [hX', hx]; rfl
    rcases he with ⟨h1, h2⟩ | ⟨r, h1, h2, h3, h4, h5, h6⟩
    · exact .inl ⟨.inl ⟨h1, fun x hx hxx => h2 x hx (mono x hx hxx)⟩, h2 q hq hq'⟩
    · by_cases hri : r.i = q.i
      · rw [uniq r h1 hri] at h3 h4 h5
        exact .inr ⟨h3, h4, h5⟩
      · have hxr : X r.i = true := by
          rw [hX'] at h2
          simp only [Bool.or_eq_true, decide_eq_true_eq] at h2
          exact h2.resolve_right hri
        refine .inl ⟨.inr ⟨r, h1, hxr, h3, h4, h5, fun x hx hlt hxx => h6 x hx hlt (mono x hx hxx)⟩, ?_⟩
        rcases Nat.lt_or_ge r.i q.i with h | h
        · exact h6 q hq h hq'
        · have hp := (pairOk_spec (behind r h1 (by omega) hxr))
          intro d hd
          obtain ⟨_, g2, g3⟩ := hp.d1 d hd
          refine ⟨fun e' => g3 (by rw [h3, e']), fun g hg => ?_⟩
          rw [h4] at hg
          exact g2 g hg
  have deads : ∀ ρ', Pre ρ ρ' → ∀ r i, r ∈ rs → r.fl = some i → X' r.i = false → ∃ h, ρ'[i]? = some h ∧ h.oneCell' = false := by
    intro ρ' hpre r i hr hfi hx
    rw [hX'] at hx
    simp only [Bool.or_eq_false_iff] at hx
    obtain ⟨h, g1, g2⟩ := hD r i hr hfi hx.1
    exact ⟨h, hpre _ _ g1, g2⟩
  have fin : ∀ v w' S' ρ', Inv C S' w' ρ' (curR X' R0 rs) → (∀ b, S b → S' b) → (∀ b, S b → w'.heap[b]? = w.heap[b]?) → PreA ρ ρ' →
      (∀ r i, r ∈ rs → r.fl = some i → X' r.i = false → ∃ h, ρ'[i]? = some h ∧ h.oneCell' = false) → (pt a q.cur → RdA S' w' ρ' v q.out.v) → (pt a q.cur ∨ v = undef) → K (a.put q.o.dst v) w' := by
    intro v w' S' ρ' hinv hsub hsame hpre hdead hrd hv
    refine hK _ _ ⟨?_, ?_, S', ρ', hinv, fun e he => ?_, hdead⟩
    · cases hd : q.o.dst <;> exact hdef
    · cases hd : q.o.dst <;> simp [Act.put, hsize]
    · rcases entries e he with ⟨h1, h2⟩ | ⟨h1, h2, h3⟩
      · cases hd : q.o.dst with
        | none =>
          have hee := hE e h1
          refine ⟨fun hp => ?_, hee.2⟩
          obtain ⟨x, hx, hr⟩ := hee.1 hp
          exact ⟨x, hx, hr.monoA hsub hsame hpre⟩
        | some d =>
          obtain ⟨g1, g2⟩ := h2 d hd
          exact entOk_put (hE e h1) hsub hsame hpre g1 g2
      · rw [h1]
        obtain ⟨d1, d2⟩ := hrec.dst e.t h1
        refine ⟨fun hp => ⟨v, put_same (by rw [hsize]; exact d1), by rw [h3]; exact hrd ((pt_put d2).1 (by rw [← h2]; exact hp))⟩, fun hp => ?_⟩
        rw [h2] at hp
        have hnp : ¬ pt a q.cur := fun k => hp ((pt_put d2).2 k)
        rw [hv.resolve_left hnp]
        exact put_same (by rw [hsize]; exact d1)
  obtain ⟨hw1, hw2⟩ := guard_ok hneed hrec.guard
  unfold wpOp0
  simp only [hrec.op]
  cases hfl' : q.fl with
  | none =>
    obtain ⟨out, ev1, ev2, ev3, ev4⟩ := hev hfl'
    by_cases hpt : pt a q.cur
    · rw [if_pos (hw1.2 hpt)]
      refine ⟨evOp_noDef ev1, evOp_ok hI hneed hpt ev1 (fun x hx => ?_) fun v w' S' ρ' hA => ?_⟩
      · rw [ev3] at hx
        exact wrap_ok hneed hrec.cs (hrec.ok x hx) hpt
      · rw [ev4, ev2] at hA
        exact fin v w' S' ρ' hA.inv hA.sub hA.same hA.pre.a (deads ρ' hA.pre) (fun _ => hA.rd) (.inl hpt)
    · have hnw : ¬ (Region.wanted q.o (yielded ops a.tmps) = true) := fun h => hpt (hw1.1 h)
      rw [if_neg hnw]
      have hne : q.cur.isEmpty = false := by
        cases hc : q.cur.isEmpty with
        | false => rfl
        | true => simp at hc; rw [hc] at hpt; exact absurd pt_nil hpt
      have hg := hrec.gb
      unfold guardB at hg
      rw [hne] at hg
      simp only [Bool.false_or, Bool.and_eq_true, Bool.or_eq_true, Bool.not_eq_true'] at hg
      obtain ⟨ρ', hI', hpre⟩ := hI.skip (evOp_skip ev1 hg.1 fun hr x hx => wrap_keep hneed hrec.cs hr hne (hg.2.resolve_left (by rw [hr]; simp)) (hrec.ok x (by rw [← ev3]; exact hx)) hpt)
      rw [ev4] at hI'
      cases hd : q.o.dst with
      | none => have := hrec.nodst hd; rw [hne] at this; cases this
      | some d =>
        have := fin undef w S ρ' hI' (fun _ h => h) (fun _ _ => rfl) hpre.a (deads ρ' hpre) (fun h => absurd h hpt) (.inr rfl)
        rw [hd] at this
        exact this
  | some i =>
    have hspec := evFlt_spec (hrec.flo i hfl')
    have heff : q.eff = false := by rw [hrec.eff, hfl']; rfl
    have hcR := hquiet heff
    by_cases hpt : pt a q.cur
    · rw [if_pos (hw1.2 hpt)]
      obtain ⟨dd, k1, k2⟩ := hD q i hq hfl' hqX
      have hil : i < ρ.length := (List.getElem?_eq_some_iff.1 k1).1
      have htr : ∀ {r' : Res}, q.Rin[i]? = some r' → (curR X R0 rs)[i]? = some r' := fun g4 => by rw [← htouch heff i (by unfold touchR; rw [hfl']; simp)]; exact g4
      have hpre0 : ∀ v, PreA ρ (ρ.set i v) := by
        intro v j x hj hx
        rw [List.getElem?_set]
        split
        · rename_i e; subst e; rw [k1] at hj; cases hj; rw [k2] at hx; cases hx
        · exact hj
      have hdeads : ∀ v : Value, ∀ r j, r ∈ rs → r.fl = some j → X' r.i = false → ∃ h, (ρ.set i v)[j]? = some h ∧ h.oneCell' = false := by
        intro v r j hr hfj hx
        rw [hX'] at hx
        simp only [Bool.or_eq_false_iff, decide_eq_false_iff_not] at hx
        obtain ⟨h, m1, m2⟩ := hD r j hr hfj hx.1
        refine ⟨h, ?_, m2⟩
        rw [List.getElem?_set_ne (fun e => hx.2 (by subst e; rw [hfl.inj r q i hr hq hfj hfl']))]
        exact m1
      rcases hspec with ⟨t, z, cells, r', g1, g2, g3, g4, g5⟩ | ⟨t, l, c0, o1, r1, r', c1, g1, g4, g2, g3, g6, g5⟩
      · have hsame : (Res.box t cells) = r' := (wrap_ok hneed hrec.cs (hrec.ok (.flt i (.box t cells) r') (by rw [g5])) hpt : Cl.ok P (.flt i (.box t cells) r'))
        subst hsame
        have hRi := htr g4
        have hold : ∀ b, b < w.heap.size → (w.alloc (.cells z.cells t)).heap[b]? = w.heap[b]? := fun b hb => halloc_old _ _ _ hb
        have hcells : All2 (Rd S w ρ) z.cells.toList cells := dsOf_ok g3
        obtain ⟨hI', hpre⟩ := hI.birth (w' := w.alloc (.cells z.cells t)) (v := .pointer (some ⟨w.heap.size, 0, none⟩)) hRi k1 k2 (hfl.low q i hq hfl') hold (by simp) rfl ⟨rfl, fun _ => by first | exact Nat.le_refl _ | exact Nat.le_succ _⟩ rfl
          (.inr ⟨_, z.cells, rfl, halloc_new _ _, hcells.mono fun _ _ h => h.monoA (fun _ h => h) (fun b hb => hold b (hI.sup b hb).1) (hpre0 _)⟩)
          (fun b hb => by simp [Res.foot] at hb; subst hb; simp)
        refine ⟨(fun c hc => by rw [g1] at hc; cases hc), wp_value (v := .pointer (some ⟨w.heap.size, 0, none⟩)) (w' := w.alloc (.cells z.cells t)) ?_ (fin _ _ S _ (by rw [hcR]; exact hI') (fun _ h => h) (fun b hb => hold b (hI.sup b hb).1) hpre (hdeads _) ?_ (.inl hpt))⟩
        · have he : execOp a.eval q.o = execOp a.eval { q.o with op := .alloc t } := by rw [← g1]
          rw [he]
          simp [execOp, Instr.alloc, newVar, newRow, run_zeroValue' g2]
        · intro _
          rw [g5]
          exact .d (.o (by simp [hil]))
      · have hcl : Cl.ok P (.fltm i c1 r1 r') := wrap_ok hneed hrec.cs (hrec.ok _ (by rw [g5])) hpt
        obtain ⟨hc1, hsame⟩ := hcl
        subst hsame
        have hRi := htr g4
        obtain ⟨l0, nn, cs, e, r2, m1, m2, m3, m4, m5, m6⟩ := evMake_run (S := S) (w := w) g2 (fun x hx => by rw [g6] at hx; cases hx; exact hc1) (fun b hb => (hI.sup b hb).1)
        have hr2 : r2 = r1 := by rw [g3] at m3; simpa using m3.symm
        subst hr2
        have hold : ∀ b, b < w.heap.size → (w.alloc (.cells cs e)).heap[b]? = w.heap[b]? := fun b hb => halloc_old _ _ _ hb
        have hlk := look_exact hneed hpt m1
        obtain ⟨hI', hpre⟩ := hI.birth (w' := w.alloc (.cells cs e)) (v := .slice (some ⟨w.heap.size, 0, none⟩) nn nn) hRi k1 k2 (hfl.low q i hq hfl') hold (by simp) rfl ⟨rfl, fun _ => by first | exact Nat.le_refl _ | exact Nat.le_succ _⟩ rfl
          (.inr (m5 _)) (fun b hb => by rw [m6 b hb]; simp)
        refine ⟨(fun c hc => by rw [g1] at hc; cases hc), wp_value (v := .slice (some ⟨w.heap.size, 0, none⟩) nn nn) (w' := w.alloc (.cells cs e)) ?_ (fin _ _ S _ (by rw [hcR]; exact hI') (fun _ h => h) (fun b hb => hold b (hI.sup b hb).1) hpre (hdeads _) ?_ (.inl hpt))⟩
        · have he : execOp a.eval q.o = execOp a.eval { q.o with op := .makeSlice t l l } := by rw [← g1]
          rw [he]
          simp only [execOp, hlk, Sem.run_bind, m4]
          rfl
        · intro _
          rw [g5]
          exact .d (.os (by simp [hil]) rfl)
    · have hnw : ¬ (Region.wanted q.o (yielded ops a.tmps) = true) := fun h => hpt (hw1.1 h)
      rw [if_neg hnw]
      have hne : q.cur.isEmpty = false := by
        cases hc : q.cur.isEmpty with
        | false => rfl
        | true => simp at hc; rw [hc] at hpt; exact absurd pt_nil hpt
      cases hd : q.o.dst with
      | none => have := hrec.nodst hd; rw [hne] at this; cases this
      | some d =>
        have := fin undef w S ρ (by rw [hcR]; exact hI) (fun _ h => h) (fun _ _ => rfl) (Pre.refl ρ).a (deads ρ (Pre.refl _)) (fun h => absurd h hpt) (.inr rfl)
        rw [hd] at this
        exact this

def unl (listed : Array Bool) : Nat := (listed.toList.filter fun b => !b).length

theorem unl_set {listed : Array Bool} {i : Nat} (h : listed[i]? = some false) : unl (listed.setIfInBounds i true) + 1 = unl listed := by
  obtain ⟨l⟩ := listed
  simp only [unl, List.setIfInBounds_toArray]
  simp only [List.getElem?_toArray] at h
  induction l generalizing i with
  | nil => simp at h
  | cons x l ih =>
    cases i with
    | zero => simp at h; subst h; simp
    | succ i =>
      grind

theorem any_ok (hch : Chain P n ops L0 R0 rs L' R') (hidx : rs.map (·.i) = List.range ops.size) (hany : AnyOk ops L0 rs) (hfl : FlOk C rs) {ro : Option Nat} {Q : Exit → Act → World → Prop} (hQ : ∀ a' w', Sat n C L' R' a' w' → Q .normal a' w') :
    ∀ (fuel : Nat) (listed : Array Bool) (a : Act) (w : World), listed.size = ops.size → unl listed ≤ fuel → Closed ops (fun i => listed.getD i false) → J n C L0 R0 rs (fun i => listed.getD i false) a w →
      wpAnyIn (FR ro) 0 P .any ops Q fuel listed a w := by
  have hs : Sorted rs := by
    have : (rs.map (·.i)).Pairwise (· < ·) := by rw [hidx]; exact List.pairwise_lt_range
    rw [List.pairwise_map] at this
    exact this
  have hget : ∀ i, i < ops.size → ∃ r, r ∈ rs ∧ r.i = i := by
    intro i hi
    have : i ∈ rs.map (·.i) := by rw [hidx]; simpa using hi
    obtain ⟨r, hr, e⟩ := List.mem_map.1 this
    exact ⟨r, hr, e⟩
  have hlt : ∀ r, r ∈ rs → r.i < ops.size := by
    intro r hr
    have : r.i ∈ rs.map (·.i) := List.mem_map.2 ⟨r, hr, rfl⟩
    rw [hidx] at this; simpa using this
  -- all done
  have done : ∀ (listed : Array Bool) (a : Act) (w : World), listed.size = ops.size → (∀ i, i < ops.size → listed.getD i false = true) → J n C L0 R0 rs (fun i => listed.getD i false) a w → Q .normal a w := by
    intro listed a w _ hall ⟨h1, h2, S, ρ, h3, h4, _⟩
    have hX : ∀ r, r ∈ rs → listed.getD r.i false = true := fun r hr => hall _ (hlt r hr)
    refine hQ a w ⟨h1, h2, S, ρ, by rw [curR_all hch hX] at h3; exact h3, fun e he => h4 e ?_⟩
    rcases chain_from hch hs e he with ⟨g1, g2⟩ | ⟨r, g1, g2, g3, g4, g5⟩
    · exact .inl ⟨g1, fun q hq _ => g2 q hq⟩
    · exact .inr ⟨r, g1, hX r g1, g2, g3, g4, fun q hq hl _ => g5 q hq hl⟩
  -- none ready: all done
  have none_ready : ∀ (listed : Array Bool), listed.size = ops.size → Region.ready .any ops listed = [] → ∀ i, i < ops.size → listed.getD i false = true := by
    intro listed hsz hr i
    induction i using Nat.strongRecOn with
    | _ i ih =>
      intro hi
      cases hx : listed.getD i false with
      | true => rfl
      | false =>
        exfalso
        obtain ⟨r, hr1, hr2⟩ := hget i hi
        have hrec := chain_rec hch hr1
        have : i ∈ Region.ready .any ops listed := by
          rw [mem_ready]
          have hil : i < listed.size := by omega
          refine ⟨by simp only [Array.getD_eq_getD_getElem?, Array.getElem?_eq_getElem hil] at hx ⊢; simpa using hx, r.o, by rw [← hr2]; exact hrec.op, fun e he hb => ?_⟩
          have := hany.back r hr1 e he hb
          exact ih e.on (by omega) (by omega)
        rw [hr] at this; cases this
  intro fuel
  induction fuel with
  | zero =>
    intro listed a w hsz hu hX hJ
    have hall : ∀ i, i < ops.size → listed.getD i false = true := by
      intro i hi
      have hil : i < listed.size := by omega
      have hnil : listed.toList.filter (fun b => !b) = [] := List.eq_nil_of_length_eq_zero (Nat.le_zero.1 hu)
      rw [List.filter_eq_nil_iff] at hnil
      have := hnil listed[i] (by simp)
      simp only [Array.getD_eq_getD_getElem?, Array.getElem?_eq_getElem hil, Option.getD_some]
      simpa using this
    refine ⟨?_, done listed a w hsz hall hJ⟩
    apply List.eq_nil_iff_forall_not_mem.2
    intro j hj
    rw [mem_ready] at hj
    obtain ⟨h1, o, ho, _⟩ := hj
    have hjl : j < ops.size := (Array.getElem?_eq_some_iff.1 ho).1
    have := hall j hjl
    have hjs : j < listed.size := by omega
    simp only [Array.getD_eq_getD_getElem?, Array.getElem?_eq_getElem hjs, Option.getD_some] at h1 this
    rw [h1] at this; cases this
  | succ fuel ih =>
    intro listed a w hsz hu hX hJ
    refine ⟨fun hr => done listed a w hsz (none_ready listed hsz hr) hJ, fun i hi => ?_⟩
    rw [mem_ready] at hi
    obtain ⟨h1, o, ho, hall⟩ := hi
    have hil : i < ops.size := (Array.getElem?_eq_some_iff.1 ho).1
    have his : i < listed.size := by omega
    have hif : listed[i]? = some false := by
      rw [Array.getElem?_eq_getElem his]
      simp only [Array.getD_eq_getD_getElem?, Array.getElem?_eq_getElem his, Option.getD_some] at h1
      rw [h1]
    obtain ⟨q, hq, hqi⟩ := hget i hil
    have hrec := chain_rec hch hq
    have hqo : q.o = o := by have := hrec.op; rw [hqi, ho] at this; cases this; rfl
    have hX' : ∀ j, (listed.setIfInBounds i true).getD j false = (listed.getD j false || decide (j = q.i)) := by
      intro j
      rw [hqi]
      simp only [Array.getD_eq_getD_getElem?, Array.getElem?_setIfInBounds]
      by_cases hji : j = i
      · subst hji; simp [his]
      · simp [Ne.symm hji, hji]
    subst hqi
    refine wpOp0_in (fun _ _ h => h) (any_step hch hs hany hfl (X' := fun j => (listed.setIfInBounds q.i true).getD j false) hX hq ?_ (by rw [hqo]; exact hall) hX' hJ fun a' w' hJ' => ih _ a' w' (by simpa using hsz) ?_ ?_ hJ')
    · simp [Array.getD_eq_getD_getElem?, hif]
    · have := unl_set hif; omega
    · intro j o' hj ho' e he hb
      simp only [hX', Bool.or_eq_true, decide_eq_true_eq] at hj ⊢
      rcases hj with hj | rfl
      · exact .inl (hX j o' hj ho' e he hb)
      · rw [ho] at ho'; cases ho'
        exact .inl (hall e he hb)
end
end Go.SL
