/-
  The logic, fourteenth part: a region in the order of its text.
-/
import Derived.Test.YtopmfoohdkjgmaaGreatDoorSlM
namespace Go.SL

section
variable {P : Program} {C : Ctx} {S S' : Nat → Prop} {w w' : World} {ρ ρ' : List Value} {R : List Res} {L : List Ent} {cur : Path} {a : Act}

theorem pt_nil : pt a [] := fun g hg => by cases hg

theorem ent_bool (hL : SlotsOk S w ρ a L) {t : Nat} {e : Ent} {c : Bool} (he : getE L t = some e) (hb : boolV e.v = some c) :
    (pt a e.p → a.tmps[t]? = some (.bool c)) ∧ (¬ pt a e.p → a.tmps[t]? = some undef) := by
  obtain ⟨hm, ht⟩ := getE_mem he
  obtain ⟨h1, h2⟩ := hL e hm
  rw [ht] at h1 h2
  refine ⟨fun hp => ?_, h2⟩
  obtain ⟨v, hv, hr⟩ := h1 hp
  unfold boolV at hb
  split at hb
  · rename_i b heq
    simp at hb; subst hb
    rw [heq] at hr
    rw [hv, hr.exact_inv]
  · cases hb

theorem guard_ok (hL : SlotsOk S w ρ a L) {ops : Array Oper} {o : Oper} (h : guardPath ops L o = some cur) : (Region.wanted o (yielded ops a.tmps) = true ↔ pt a cur) ∧ (cur.isEmpty = true → Region.wanted o (yielded ops a.tmps) = true) := by
  unfold guardPath at h
  split at h
  · rename_i hg
    simp at h; subst h
    simp [Region.wanted, hg, pt_nil]
  · rename_i j want hg
    split at h
    · cases h
    · rename_i t ht
      split at h
      · rename_i e he
        split at h
        · rename_i c hb
          simp at h; subst h
          obtain ⟨h1, h2⟩ := ent_bool hL he hb
          refine ⟨?_, by simp⟩
          have hy : yielded ops a.tmps j = match a.tmps[t]? with | some (.bool b) => some b | _ => none := by
            unfold yielded; rw [ht]; rfl
          unfold Region.wanted
          rw [hg]
          simp only [beq_iff_eq]
          constructor
          · intro hw
            rw [hy] at hw
            by_cases hp : pt a e.p
            · rw [h1 hp] at hw
              simp at hw; subst hw
              intro g hg'
              rcases List.mem_append.1 hg' with h | h
              · exact hp g h
              · simp at h; subst h; exact h1 hp
            · rw [h2 hp] at hw
              simp [undef] at hw
          · intro hp
            have := hp (t, want) (by simp)
            rw [hy, this]
        · cases h
      · cases h

theorem conds_ok (hL : SlotsOk S w ρ a L) : ∀ {p : Path} {cs : List (Bool × Bool)}, conds L p = some cs → pt a p → AllEq cs
  | [], cs, h, _ => by simp [conds] at h; subst h; trivial
  | (t, want) :: p, cs, h, hp => by
    simp only [conds] at h
    split at h
    · rename_i e he
      split at h
      · rename_i c l hb hl
        simp at h; subst h
        obtain ⟨h1, h2⟩ := ent_bool hL he hb
        have ht := hp (t, want) List.mem_cons_self
        simp only at ht
        refine ⟨?_, conds_ok hL hl fun g hg => hp g (List.mem_cons_of_mem _ hg)⟩
        by_cases hpe : pt a e.p
        · rw [h1 hpe] at ht
          simp at ht; exact ht
        · rw [h2 hpe] at ht
          simp [undef] at ht
      · cases h
    · cases h

theorem put_get {d t : Nat} {v : Value} (h : d ≠ t) : (a.put (some d) v).tmps[t]? = a.tmps[t]? := by
  simp [Act.put, Array.getElem?_setIfInBounds_ne h]
theorem put_same {d : Nat} {v : Value} (h : d < a.tmps.size) : (a.put (some d) v).tmps[d]? = some v := by
  simp [Act.put, h]

theorem pt_put {p : Path} {d : Nat} {v : Value} (h : p.all (fun g => !(Nat.beq g.1 d)) = true) : pt (a.put (some d) v) p ↔ pt a p := by
  have hne : ∀ g, g ∈ p → d ≠ g.1 := by
    intro g hg e
    have := (List.all_eq_true.1 h) g hg
    subst e
    simp at this
  constructor
  · intro hp g hg
    rw [← hp g hg, put_get (hne g hg)]
  · intro hp g hg
    rw [put_get (hne g hg)]; exact hp g hg

theorem slots_put (hL : SlotsOk S w ρ a L) (hS : ∀ b, S b → S' b) (hw : ∀ b, S b → w'.heap[b]? = w.heap[b]?) (hρ : Pre ρ ρ') {d : Nat} {p : Path} {v : Value} {av : AV} (hd : d < a.tmps.size)
    (hp : p.all (fun g => !(Nat.beq g.1 d)) = true) (h1 : pt a p → RdA S' w' ρ' v av) (h2 : ¬ pt a p → v = undef) : SlotsOk S' w' ρ' (a.put (some d) v) (putE L d p av) := by
  intro e he
  unfold putE at he
  rcases List.mem_cons.1 he with rfl | he
  · refine ⟨fun hpt => ⟨v, put_same hd, h1 ((pt_put hp).1 hpt)⟩, fun hpt => ?_⟩
    have := h2 (fun h => hpt ((pt_put hp).2 h))
    subst this
    exact put_same hd
  · rw [List.mem_filter] at he
    obtain ⟨hm, hf⟩ := he
    simp only [Bool.and_eq_true] at hf
    obtain ⟨f1, f2⟩ := hf
    have hne : d ≠ e.t := by
      intro e'; subst e'; simp at f1
    obtain ⟨g1, g2⟩ := hL e hm
    refine ⟨fun hpt => ?_, fun hpt => ?_⟩
    · obtain ⟨x, hx, hr⟩ := g1 ((pt_put f2).1 hpt)
      exact ⟨x, by rw [put_get hne]; exact hx, hr.mono hS hw hρ⟩
    · rw [put_get hne]; exact g2 fun h => hpt ((pt_put f2).2 h)

/-- an operation at its place, inside a round or not -/
def wpOp0 (P : Program) (ops : Array Oper) (i : Nat) (K : Act → World → Prop) (a : Act) (w : World) : Prop :=
  match ops[i]? with
  | none => K a w
  | some o => if Region.wanted o (yielded ops a.tmps) then noDef o ∧ wpv P o a w K else K (a.put o.dst undef) w
def wpOps0 (P : Program) (ops : Array Oper) (K : Act → World → Prop) : List Nat → Act → World → Prop
  | [], a, w => K a w
  | i :: rest, a, w => wpOp0 P ops i (wpOps0 P ops K rest) a w
theorem wpv_mono {o : Oper} {K K' : Act → World → Prop} (hk : ∀ a w, K a w → K' a w) (h : wpv P o a w K) : wpv P o a w K' := by
  unfold wpv at *
  generalize (execOp a.eval o).run P w = r at *
  match r, h with
  | .ok (.value v) w', h => exact hk _ _ h
  | .ok .skip w', h => exact hk _ _ h
  | .ok (.enter f args) w', h => exact Calls.mono h fun e w'' hp => by obtain ⟨v, e, hp⟩ := hp; exact ⟨v, e, hk _ _ hp⟩
theorem wpOp0_in {ro : Option Nat} {ops : Array Oper} {i : Nat} {K K' : Act → World → Prop} {Q : Exit → Act → World → Prop} (hk : ∀ a w, K a w → K' a w) (h : wpOp0 P ops i K a w) : wpOpIn (FR ro) 0 P ops Q i K' a w := by
  unfold wpOp0 at h
  unfold wpOpIn
  split at h
  · rename_i ho
    rw [ho]; exact hk _ _ h
  · rename_i o ho
    rw [ho]
    simp only
    split at h
    · rename_i hw
      rw [if_pos hw]
      exact wpv_in h.1 (wpv_mono hk h.2)
    · rename_i hw
      rw [if_neg hw]
      exact ⟨fun _ _ => trivial, hk _ _ h⟩
theorem wpOps0_in {ro : Option Nat} {ops : Array Oper} {Q : Exit → Act → World → Prop} : ∀ {is : List Nat} {a : Act} {w : World}, wpOps0 P ops (fun a w => Q .normal a w) is a w → wpOpsIn (FR ro) 0 P ops Q is a w
  | [], a, w, h => h
  | i :: is, a, w, h => by
    rw [wpOpsIn_cons]
    exact wpOp0_in (fun _ _ h => wpOps0_in h) h

theorem wf_pt (hL : SlotsOk S w ρ a L) : ∀ {p acc : Path} {cs : List (Bool × Bool)}, wfPath L acc p = true → conds L p = some cs → pt a acc → AllEq cs → pt a p
  | [], _, _, _, _, _, _ => pt_nil
  | (t, want) :: p, acc, cs, hwf, hc, hacc, hall => by
    simp only [wfPath] at hwf
    simp only [conds] at hc
    split at hwf
    · rename_i e he
      rw [he] at hc
      simp only [Bool.and_eq_true] at hwf
      simp only at hc
      split at hc
      · rename_i c l hb hl
        simp at hc; subst hc
        obtain ⟨h1, h2⟩ := ent_bool hL he hb
        have ht := h1 (prefixB_pt hwf.1 hacc)
        have hcw : c = want := hall.1
        subst hcw
        have hacc' : pt a (acc ++ [(t, c)]) := by
          intro g hg
          rcases List.mem_append.1 hg with hg | hg
          · exact hacc g hg
          · simp at hg; subst hg; exact ht
        have := wf_pt hL hwf.2 hl hacc' hall.2
        intro g hg
        rcases List.mem_cons.1 hg with rfl | hg
        · exact ht
        · exact this g hg
      · cases hc
    · cases hwf

/-- what a claim says where the guard holds, and where it does not -/
theorem wrap_ok {r : Bool} {cs : List (Bool × Bool)} {x : Cl} (hL : SlotsOk S w ρ a L) (hcs : conds L cur = some cs) (h : (wrapCl cur r cs x).ok P) : (pt a cur → x.ok P) := by
  intro hp
  unfold wrapCl at h
  cases hc : cur.isEmpty with
  | true => rw [hc] at h; exact h
  | false =>
    rw [hc] at h
    cases r with
    | true => exact h.1 (conds_ok hL hcs hp)
    | false => exact h (conds_ok hL hcs hp)
theorem wrap_keep {r : Bool} {cs : List (Bool × Bool)} {x : Cl} (hL : SlotsOk S w ρ a L) (hcs : conds L cur = some cs) (hr : r = true) (hc : cur.isEmpty = false) (hwf : wfPath L [] cur = true) (h : (wrapCl cur r cs x).ok P) (hn : ¬ pt a cur) : x.keeps := by
  unfold wrapCl at h
  subst hr
  rw [hc] at h
  exact h.2 fun hall => hn (wf_pt hL hwf hcs pt_nil hall)

theorem evStep_ok {n : Nat} {ops : Array Oper} {c : Cl} {i : Nat} {o : Oper} {L' : List Ent} {R' : List Res} {k : Option Cl} (ho : ops[i]? = some o) (h : evStep P n ops L R c o = some (L', R', k))
    (hk : ∀ x, k = some x → x.ok P) (hs : Sat n C L R a w) {K : Act → World → Prop} (hK : ∀ a' w', Sat n C L' R' a' w' → K a' w') : wpOp0 P ops i K a w := by
  obtain ⟨hdef, hsize, S, ρ, hI, hL⟩ := hs
  unfold evStep at h
  split at h
  · cases h
  · rename_i cur hcur
    obtain ⟨hw1, hw2⟩ := guard_ok hL hcur
    simp only at h
    split at h
    · rename_i out cs e1 e2
      cases hg : guardB L cur (isR c) (strip c) o with
      | false => rw [hg] at h; simp at h
      | true =>
        rw [hg] at h
        simp only [cond_true] at h
        have hall : k = out.c.map (wrapCl cur (isR c) cs) ∧ R' = out.R ∧ (∀ d, o.dst = some d → d < n ∧ cur.all (fun g => !(Nat.beq g.1 d)) = true ∧ L' = putE L d cur out.v) ∧ (o.dst = none → cur.isEmpty = true ∧ L' = L) := by
          split at h
          · rename_i d hd
            cases hb : (Nat.blt d n && cur.all (fun g => !(Nat.beq g.1 d))) with
            | false => rw [hb] at h; simp at h
            | true =>
              rw [hb] at h
              simp only [cond_true, Option.some.injEq, Prod.mk.injEq] at h
              obtain ⟨h1, h2, h3⟩ := h
              simp only [Bool.and_eq_true] at hb
              refine ⟨h3.symm, h2.symm, fun d' hd' => ?_, fun hn => by rw [hd] at hn; cases hn⟩
              rw [hd] at hd'; cases hd'
              exact ⟨by have := hb.1; simpa [Nat.blt_eq] using this, hb.2, h1.symm⟩
          · rename_i hd
            cases hc : cur.isEmpty with
            | false => rw [hc] at h; simp at h
            | true =>
              rw [hc] at h
              simp only [cond_true, Option.some.injEq, Prod.mk.injEq] at h
              obtain ⟨h1, h2, h3⟩ := h
              exact ⟨h3.symm, h2.symm, fun d hd' => by rw [hd] at hd'; (cases hd'), fun _ => ⟨rfl, h1.symm⟩⟩
        obtain ⟨hk', rfl, hd1, hd2⟩ := hall
        have hk2 : ∀ x, out.c = some x → (wrapCl cur (isR c) cs x).ok P := fun x hx => hk _ (by rw [hk', hx]; rfl)
        unfold wpOp0
        simp only [ho]
        by_cases hpt : pt a cur
        · rw [if_pos (hw1.2 hpt)]
          refine ⟨evOp_noDef e1, evOp_ok hI hL hpt e1 (fun x hx => wrap_ok hL e2 (hk2 x hx) hpt) fun v w' S' ρ' hA => ?_⟩
          cases hd : o.dst with
          | some d =>
            obtain ⟨g1, g2, rfl⟩ := hd1 d hd
            exact hK _ _ ⟨hdef, by simp [Act.put, hsize], S', ρ', hA.inv, slots_put hL hA.sub hA.same hA.pre (by rw [hsize]; exact g1) g2 (fun _ => hA.rd) (fun h => absurd hpt h)⟩
          | none =>
            obtain ⟨g1, rfl⟩ := hd2 hd
            refine hK _ _ ⟨hdef, hsize, S', ρ', hA.inv, fun e he => ?_⟩
            obtain ⟨g1, g2⟩ := hL e he
            refine ⟨fun hp => ?_, g2⟩
            obtain ⟨x, hx, hr⟩ := g1 hp
            exact ⟨x, hx, hr.mono hA.sub hA.same hA.pre⟩
        · have hne : cur.isEmpty = false := by
            cases hc : cur.isEmpty with
            | false => rfl
            | true => simp at hc; subst hc; exact absurd pt_nil hpt
          have hnw : ¬ (Region.wanted o (yielded ops a.tmps) = true) := fun h => hpt (hw1.1 h)
          rw [if_neg hnw]
          unfold guardB at hg
          rw [hne] at hg
          simp only [Bool.false_or, Bool.and_eq_true, Bool.or_eq_true, Bool.not_eq_true'] at hg
          obtain ⟨ρ', hI', hpre⟩ := hI.skip (evOp_skip e1 hg.1 fun hr x hx => wrap_keep hL e2 hr hne (hg.2.resolve_left (by rw [hr]; simp)) (hk2 x hx) hpt)
          cases hd : o.dst with
          | some d =>
            obtain ⟨g1, g2, rfl⟩ := hd1 d hd
            exact hK _ _ ⟨hdef, by simp [Act.put, hsize], S, ρ', hI', slots_put hL (fun _ h => h) (fun _ _ => rfl) hpre (by rw [hsize]; exact g1) g2 (fun h => absurd h hpt) (fun _ => rfl)⟩
          | none =>
            have := (hd2 hd).1
            rw [hne] at this; cases this
    · cases h

theorem evOps_ok {n : Nat} {ops : Array Oper} {K : Act → World → Prop} : ∀ {is : List Nat} {L : List Ent} {R : List Res} {cls : List Cl} {L' : List Ent} {R' : List Res} {cs : List Cl} {a : Act} {w : World},
    evOps P n ops is L R cls = some (L', R', cs) → AllOk P cs → Sat n C L R a w → (∀ a' w', Sat n C L' R' a' w' → K a' w') → wpOps0 P ops K is a w
  | [], L, R, cls, L', R', cs, a, w, h, _, hs, hK => by
    simp [evOps] at h
    obtain ⟨rfl, rfl, rfl⟩ := h
    exact hK a w hs
  | i :: is, L, R, cls, L', R', cs, a, w, h, hok, hs, hK => by
    simp only [evOps] at h
    split at h
    · cases h
    · rename_i o ho
      show wpOp0 P ops i (wpOps0 P ops K is) a w
      split at h
      · cases h
      · rename_i L1 R1 c1 e1
        split at h
        · rename_i L2 R2 cs2 e2
          simp at h
          obtain ⟨rfl, rfl, rfl⟩ := h
          exact evStep_ok ho e1 (fun x hx => by cases hx; exact hok.1) hs fun a' w' hs' => evOps_ok e2 hok.2 hs' hK
        · cases h
      · rename_i L1 R1 e1
        exact evStep_ok ho e1 (fun x hx => by cases hx) hs fun a' w' hs' => evOps_ok h hok hs' hK
end
end Go.SL
