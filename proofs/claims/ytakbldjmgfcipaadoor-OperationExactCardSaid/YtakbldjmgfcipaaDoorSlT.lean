/-
  The logic, twentieth part: loops, the beginning and the end of a function.
-/
import Derived.Test.YtakbldjmgfcipaaDoorSlS
namespace Go.SL

/-- how a piece of code goes on: further with a state, out of the loop with a state, back to the caller -/
inductive Ctl (σ ρ : Type) where
  | next (s : σ)
  | brk (s : σ)
  | ret (r : ρ)

def whileN {σ ρ : Type} (f : σ → Option (Ctl σ ρ)) : Nat → σ → Option (Ctl σ ρ)
  | 0, _ => none
  | n + 1, s => match f s with
    | some (.next s') => whileN f n s'
    | some (.brk s') => some (.next s')
    | some (.ret r) => some (.ret r)
    | none => none

/-- a loop over a list -/
def foldE {α σ ρ : Type} (f : α → σ → Option (Ctl σ ρ)) : List α → σ → Option (Ctl σ ρ)
  | [], s => some (.next s)
  | x :: xs, s => match f x s with
    | some (.next s') => foldE f xs s'
    | some (.brk s') => some (.next s')
    | some (.ret r) => some (.ret r)
    | none => none

theorem exists_least {p : Nat → Prop} (h : ∃ n, p n) : ∃ n, p n ∧ ∀ m, m < n → ¬ p m := by
  obtain ⟨n, hn⟩ := h
  induction n using Nat.strongRecOn with
  | _ n ih =>
    by_cases hx : ∃ m, m < n ∧ p m
    · obtain ⟨m, h1, h2⟩ := hx
      exact ih m h1 h2
    · exact ⟨n, hn, fun m hm hp => hx ⟨m, hm, hp⟩⟩

section
variable {P : Program} {n : Nat} {C : Ctx} {Q : Exit → Act → World → Prop} {st st' : St} {R R' : List Res} {S S' : Nat → Prop} {w w' : World} {ρ ρ' : List Value} {a : Act}

/-- a loop by a number of rounds that goes down -/
theorem W_loopN {c : Code} (I : Nat → Act → World → Prop) (h0 : ∃ m, ∀ a w, Sat n C (mkL st) R a w → I m a w)
    (h : ∀ m a w, I m a w → c.wp P (Exit.then (fun a' w' => ∃ k, k < m ∧ I k a' w') Q) a w) : W P n C Q (.loop c) st R := by
  intro a w hs
  obtain ⟨m0, h0⟩ := h0
  have key : ∀ a w, (∃ m, I m a w) → ∃ m, I m a w ∧ ∀ k, k < m → ¬ I k a w := fun a w h => exists_least h
  let μ : Act → World → Nat := fun a w => @dite _ (∃ m, I m a w) (Classical.propDecidable _) (fun h => Classical.choose (key a w h)) (fun _ => 0)
  have hμ : ∀ a w (hx : ∃ m, I m a w), I (μ a w) a w ∧ ∀ k, k < μ a w → ¬ I k a w := by
    intro a w hx
    have : μ a w = Classical.choose (key a w hx) := by simp only [μ]; rw [dif_pos hx]
    rw [this]; exact Classical.choose_spec (key a w hx)
  refine wp_loop (fun a w => ∃ m, I m a w) μ ⟨m0, h0 a w hs⟩ fun a w hI => ?_
  obtain ⟨h1, h2⟩ := hμ a w hI
  refine wp_mono (h _ a w h1) fun e a' w' hq => ?_
  cases e with
  | normal =>
    obtain ⟨k, hk, hIk⟩ := hq
    refine ⟨⟨k, hIk⟩, ?_⟩
    obtain ⟨g1, g2⟩ := hμ a' w' ⟨k, hIk⟩
    rcases Nat.lt_or_ge k (μ a' w') with h | h
    · exact absurd hIk (g2 k h)
    · omega
  | _ => exact hq

/-- a loop over a list: the state names what is left of the list and the values that the loop carries -/
theorem W_foldE {α σ τ : Type} {c : Code} (f : α → σ → Option (Ctl σ τ)) (stF : List α → σ → St) (RF : List α → σ → List Res) (r : Ctl σ τ) (xs : List α) (s : σ) (hm : foldE f xs s = some r)
    (h0 : st = stF xs s ∧ R = RF xs s)
    (hnil : ∀ s, r = .next s → W P n C (Exit.then (fun _ _ => False) Q) c (stF [] s) (RF [] s))
    (hcons : ∀ x xs s k, f x s = some k → (∀ s', k = .brk s' → r = .next s') → (∀ v, k = .ret v → r = .ret v) →
      W P n C (Exit.then (fun a' w' => ∃ s', k = .next s' ∧ Sat n C (mkL (stF xs s')) (RF xs s') a' w') Q) c (stF (x :: xs) s) (RF (x :: xs) s)) : W P n C Q (.loop c) st R := by
  refine W_loopN (fun m a w => ∃ xs s, xs.length = m ∧ foldE f xs s = some r ∧ Sat n C (mkL (stF xs s)) (RF xs s) a w) ⟨xs.length, fun a w hs => ⟨xs, s, rfl, hm, by rw [h0.1, h0.2] at hs; exact hs⟩⟩ fun m a w hI => ?_
  obtain ⟨xs, s, hl, hf, hs⟩ := hI
  cases xs with
  | nil =>
    simp only [foldE, Option.some.injEq] at hf
    refine wp_mono (hnil s hf.symm a w hs) fun e a' w' hq => ?_
    cases e with
    | normal => exact hq.elim
    | _ => exact hq
  | cons x xs =>
    simp only [foldE] at hf
    cases hk : f x s with
    | none => rw [hk] at hf; cases hf
    | some k =>
      rw [hk] at hf
      refine wp_mono (hcons x xs s k hk ?_ ?_ a w hs) fun e a' w' hq => ?_
      · intro s' e; subst e; simp only [Option.some.injEq] at hf; exact hf.symm
      · intro v e; subst e; simp only [Option.some.injEq] at hf; exact hf.symm
      · cases e with
        | normal =>
          obtain ⟨s', e, hs'⟩ := hq
          subst e
          exact ⟨xs.length, by simp at hl; omega, xs, s', rfl, hf, hs'⟩
        | _ => exact hq

/-- a loop while something holds -/
theorem W_while {σ τ : Type} {c : Code} (f : σ → Option (Ctl σ τ)) (stF : σ → St) (RF : σ → List Res) (r : Ctl σ τ) (fuel : Nat) (s : σ) (hm : whileN f fuel s = some r)
    (h0 : st = stF s ∧ R = RF s)
    (h : ∀ s k, f s = some k → (∀ s', k = .brk s' → r = .next s') → (∀ v, k = .ret v → r = .ret v) →
      W P n C (Exit.then (fun a' w' => ∃ s', k = .next s' ∧ Sat n C (mkL (stF s')) (RF s') a' w') Q) c (stF s) (RF s)) : W P n C Q (.loop c) st R := by
  refine W_loopN (fun m a w => ∃ s, whileN f m s = some r ∧ Sat n C (mkL (stF s)) (RF s) a w) ⟨fuel, fun a w hs => ⟨s, hm, by rw [h0.1, h0.2] at hs; exact hs⟩⟩ fun m a w hI => ?_
  obtain ⟨s, hf, hs⟩ := hI
  cases m with
  | zero => simp [whileN] at hf
  | succ m =>
    simp only [whileN] at hf
    cases hk : f s with
    | none => rw [hk] at hf; cases hf
    | some k =>
      rw [hk] at hf
      refine wp_mono (h s k hk ?_ ?_ a w hs) fun e a' w' hq => ?_
      · intro s' e; subst e; simp only [Option.some.injEq] at hf; exact hf.symm
      · intro v e; subst e; simp only [Option.some.injEq] at hf; exact hf.symm
      · cases e with
        | normal =>
          obtain ⟨s', e, hs'⟩ := hq
          subst e
          exact ⟨m, Nat.lt_succ_self m, s', hf, hs'⟩
        | _ => exact hq

/-! ### the end of a function -/
def retVal (P : Program) (st : St) (R : List Res) : ResultVar → Option AV
  | .tmp t => match getE (mkL st) t with
    | some e => some e.v
    | none => none
  | .cell t ty => match getE (mkL st) t, tySize P ty with
    | some e, some m => match e.v with
      | .d (.o i off) => match R[i]? with
        | some (.box _ cells) => memAV P ty ((cells.drop off).take m)
        | _ => none
      | _ => none
    | _, _ => none
def retVals (P : Program) (st : St) (R : List Res) : List ResultVar → Option (List AV)
  | [] => some []
  | r :: l => match retVal P st R r, retVals P st R l with
    | some v, some vs => some (v.norm :: vs)
    | _, _ => none
def retAV : List AV → AV
  | [v] => v
  | l => .tup l
/-- the result, and what of ours goes with it -/
def retRun (P : Program) (results : List ResultVar) (k : Nat) (pi : List Nat) (st : St) (R : List Res) : Option (AV × List Res) :=
  bif noDup pi && isIota k pi 0 then
    match retVals P st R results, picks R pi with
    | some vs, some Rp => match (retAV vs).ren (idxOf pi), renRs (idxOf pi) Rp with
      | some v, some R' => some (v, R')
      | _, _ => none
    | _, _ => none
  else none

/-- what a function owes at its end -/
def Post (P : Program) (fn : Func) (C : Ctx) (res : AV) (R2 : List Res) : Exit → Act → World → Prop :=
  bodyPost P fn fun e w' => ∃ v S' ρ', e = .returned v ∧ RdA S' w' ρ' v res ∧ Inv C S' w' ρ' R2

theorem retVal_ok (hI : Inv C S w ρ R) (hL : SlotsOk S w ρ a (mkL st)) {r : ResultVar} {v : AV} (h : retVal P st R r = some v) :
    ∃ x, (match r with | .tmp t => pure (a.tmps.getD t undef) | .cell t ty => do loadVar ty (← asAddr (a.tmps.getD t undef)) : Sem Value).run P w = .ok x w ∧ RdA S w ρ x v := by
  have slot : ∀ t e, getE (mkL st) t = some e → ∃ x, a.tmps.getD t undef = x ∧ RdA S w ρ x e.v := by
    intro t e he
    obtain ⟨hm, ht⟩ := getE_mem he
    obtain ⟨x, hx, hr⟩ := (hL e hm).1 (by rw [mkL_flat hm]; exact pt_nil)
    rw [ht] at hx
    exact ⟨x, by simp [Array.getD_eq_getD_getElem?, hx], hr⟩
  unfold retVal at h
  split at h
  · rename_i t
    split at h
    · rename_i e he
      simp at h; subst h
      obtain ⟨x, hx, hr⟩ := slot t e he
      exact ⟨x, by simp [hx], hr⟩
    · cases h
  · rename_i t ty
    split at h
    · rename_i e m he hm
      split at h
      · rename_i i off hv
        split at h
        · rename_i u cells hi
          obtain ⟨x, hx, hr⟩ := slot t e he
          rw [hv] at hr
          obtain ⟨b, hb, hρ⟩ := hr.d_inv.o_inv
          obtain ⟨y, hy, hry⟩ := run_loadVar' (P := P) (S := S) (w := w) (ρ := ρ) (ad := ⟨b, off, none⟩) h (fun j d hd => box_read hI hi hρ off m j d hd)
          refine ⟨y, ?_, hry⟩
          simp only [hx, hb, asAddr, Sem.run_bind, Sem.run_pure, Result.andThen_ok, hy]
        · cases h
      · cases h
    · cases h

theorem retVals_ok (hI : Inv C S w ρ R) (hL : SlotsOk S w ρ a (mkL st)) : ∀ {l : List ResultVar} {vs : List AV}, retVals P st R l = some vs →
    ∃ xs, (l.mapM fun | .tmp t => pure (a.tmps.getD t undef) | .cell t ty => do loadVar ty (← asAddr (a.tmps.getD t undef)) : Sem (List Value)).run P w = .ok xs w ∧ All2 (RdA S w ρ) xs vs
  | [], vs, h => by simp [retVals] at h; subst h; exact ⟨[], by simp, trivial⟩
  | r :: l, vs, h => by
    simp only [retVals] at h
    split at h
    · rename_i v vs' h1 h2
      simp at h; subst h
      obtain ⟨x, hx, hr⟩ := retVal_ok hI hL h1
      obtain ⟨xs, hxs, hrs⟩ := retVals_ok hI hL h2
      refine ⟨x :: xs, ?_, hr.norm, hrs⟩
      simp only [List.mapM_cons, Sem.run_bind]
      rw [hx]
      simp only [Result.andThen_ok]
      rw [hxs]
      simp
    · cases h

theorem Sat.post {fn : Func} {results : List ResultVar} {k : Nat} {pi : List Nat} {res : AV} {R2 : List Res} (hf : fn.results.toList = results) (hk : C.h.length ≤ k) (h : retRun P results k pi st R = some (res, R2))
    (hs : Sat n C (mkL st) R a w) : Post P fn C res R2 .ret a w := by
  unfold retRun at h
  cases hb : (noDup pi && isIota k pi 0) with
  | false => rw [hb] at h; simp at h
  | true =>
    rw [hb] at h
    simp only [cond_true] at h
    simp only [Bool.and_eq_true] at hb
    split at h
    · rename_i vs Rp e1 e2
      split at h
      · rename_i v R3 e3 e4
        simp at h
        obtain ⟨rfl, rfl⟩ := h
        obtain ⟨h1, h2, S, ρ, h3, h4⟩ := hs
        have hid : ∀ (i j : Nat) x, idxOf pi i = some j → ρ[i]? = some x → (hands ρ pi)[j]? = some x := (h3.start hb.1 e2 e4).2.1
        obtain ⟨xs, hxs, hrs⟩ := retVals_ok (P := P) h3 h4 e1
        have hI2 := h3.pick hb.1 e2 e4 fun i v hv => by
          have hi : i < C.h.length := (List.getElem?_eq_some_iff.1 hv).1
          have := isIota_get hb.2 i (by omega)
          simp only [Nat.zero_add] at this
          have hp := h3.pre i v hv
          simp [hands, this, List.getD_eq_getElem?_getD, hp]
        have hrun : ∃ x, (Go.results fn a.tmps).run P w = .ok x w ∧ RdA S w ρ x (retAV vs) := by
          have hm : ∀ g : ResultVar → Sem Value, (∀ t, g (.tmp t) = pure (a.tmps.getD t undef)) → (∀ t ty, g (.cell t ty) = do loadVar ty (← asAddr (a.tmps.getD t undef))) → (fn.results.mapM g : Sem (Array Value)).run P w = .ok xs.toArray w := by
            intro g g1 g2
            have e : g = (fun | .tmp t => pure (a.tmps.getD t undef) | .cell t ty => do loadVar ty (← asAddr (a.tmps.getD t undef))) := by
              funext x
              cases x with
              | tmp t => exact g1 t
              | cell t ty => exact g2 t ty
            rw [e, run_mapM_arr, hf, hxs]; rfl
          have hlen := hrs.length
          match xs, vs, hrs, hlen, hm with
          | [x], [v], hrs, _, hm =>
            refine ⟨x, ?_, hrs.1⟩
            unfold Go.results
            simp only [Sem.run_bind]
            rw [hm _ (fun _ => rfl) (fun _ _ => rfl)]
            simp
          | [], [], hrs, _, hm =>
            refine ⟨.tuple #[], ?_, .tup (vs := []) rfl (by simp)⟩
            unfold Go.results
            simp only [Sem.run_bind]
            rw [hm _ (fun _ => rfl) (fun _ _ => rfl)]
            simp
          | x :: y :: l, v :: u :: l', hrs, hl, hm =>
            refine ⟨.tuple (x :: y :: l).toArray, ?_, .tup hl fun j z b h1 h2 => hrs.both h1 h2⟩
            unfold Go.results
            simp only [Sem.run_bind]
            rw [hm _ (fun _ => rfl) (fun _ _ => rfl)]
            simp
          | [], _ :: _, hrs, _, _ => exact hrs.elim
          | _ :: _, [], hrs, _, _ => exact hrs.elim
          | [_], _ :: _ :: _, hrs, _, _ => exact hrs.2.elim
          | _ :: _ :: _, [_], hrs, _, _ => exact hrs.2.elim
        obtain ⟨x, hx, hr⟩ := hrun
        exact ⟨h1, x, hx, x, S, hands ρ pi, rfl, hr.ren hid _ e3, hI2⟩
      · cases h
    · cases h

/-- at a return -/
theorem W_return {fn : Func} {res : AV} {R2 : List Res} (results : List ResultVar) (k : Nat) (pi : List Nat) (hf : fn.results.toList = results) (hk : C.h.length ≤ k) (h : retRun P results k pi st R = some (res, R2)) :
    W P n C (Post P fn C res R2) .ret st R := W_ret fun _ _ hs => hs.post hf hk h

/-! ### the beginning of a function -/
def argSt : Nat → List AV → St
  | _, [] => []
  | i, v :: l => (i, v) :: argSt (i + 1) l

theorem argSt_mem : ∀ {l : List AV} {i : Nat} {e : Ent}, e ∈ mkL (argSt i l) → ∃ j, e.t = i + j ∧ e.p = [] ∧ l[j]? = some e.v
  | [], i, e, h => by cases h
  | v :: l, i, e, h => by
    rcases List.mem_cons.1 h with rfl | h
    · exact ⟨0, rfl, rfl, rfl⟩
    · obtain ⟨j, h1, h2, h3⟩ := argSt_mem h
      exact ⟨j + 1, by omega, h2, by simpa using h3⟩

theorem callOk_intro {f : FuncId} {fn : Func} {c : Code} {args : List AV} {res : AV} {R2 : List Res} (hf : P.funcs[f]? = some fn) (hb : fn.body = some c) (hn : fn.ntmps = n) (hl : args.length ≤ n)
    (h : ∀ C : Ctx, C.h.length = R.length → W P n C (Post P fn C res R2) c (argSt 0 args) R) : CallOk P f args R res R2 := by
  intro S w ρ vs hst hv
  refine calls_of_wp hf hb ?_
  have hlen := hv.length
  refine h ⟨w, S, feet ρ R, ρ⟩ (by simp [hst.len]) _ _ ⟨rfl, ?_, S, ρ, hst.inv, fun e he => ?_⟩
  · simp; omega
  · obtain ⟨j, h1, h2, h3⟩ := argSt_mem he
    refine ⟨fun _ => ?_, fun hnp => absurd (by rw [h2]; exact pt_nil) hnp⟩
    obtain ⟨x, hx, hr⟩ := hv.get h3
    refine ⟨x, ?_, hr⟩
    have hj : j < vs.length := (List.getElem?_eq_some_iff.1 hx).1
    simp only [Nat.zero_add] at h1
    rw [h1]
    simp [Array.getElem?_append, hj]
    rw [List.getElem?_eq_getElem hj] at hx
    simpa using hx
end
end Go.SL
