/-
  The logic, twentieth part: loops, the beginning and the end of a function.
-/
import Derived.Test.YtopmfoohdkjgmaaGreatDoorSlS
import Derived.RangeFuncNested
import Derived.RangeFuncLeaves
namespace Go.SL

/-- how a piece of code goes on: further with a state, out of the loop with a state, back to the caller -/
inductive Ctl (σ ρ : Type) where
  | next (s : σ)
  | brk (s : σ)
  | ret (r : ρ)

def whileN {σ ρ : Type} (f : σ → Option (Ctl σ ρ)) : Nat → σ → Option (Ctl σ ρ)
  | 0, _ => none
  | n + 1, s => match f s with
    | some (.next s') => whileN f n s'
    | some (.brk s') => some (.next s')
    | some (.ret r) => some (.ret r)
    | none => none

/-- a loop over a list -/
def foldE {α σ ρ : Type} (f : α → σ → Option (Ctl σ ρ)) : List α → σ → Option (Ctl σ ρ)
  | [], s => some (.next s)
  | x :: xs, s => match f x s with
    | some (.next s') => foldE f xs s'
    | some (.brk s') => some (.next s')
    | some (.ret r) => some (.ret r)
    | none => none

theorem exists_least {p : Nat → Prop} (h : ∃ n, p n) : ∃ n, p n ∧ ∀ m, m < n → ¬ p m := by
  obtain ⟨n, hn⟩ := h
  induction n using Nat.strongRecOn with
  | _ n ih =>
    by_cases hx : ∃ m, m < n ∧ p m
    · obtain ⟨m, h1, h2⟩ := hx
      exact ih m h1 h2
    · exact ⟨n, hn, fun m hm hp => hx ⟨m, hm, hp⟩⟩

section
variable {ro : Option Nat} {P : Program} {n : Nat} {C : Ctx} {Q : Exit → Act → World → Prop} {st st' : St} {R R' : List Res} {S S' : Nat → Prop} {w w' : World} {ρ ρ' : List Value} {a : Act}

/-- a loop by a number of rounds that goes down -/
theorem W_loopN {c : Code} (I : Nat → Act → World → Prop) (h0 : ∃ m, ∀ a w, Sat n C (mkL st) R a w → I m a w)
    (h : ∀ m a w, I m a w → c.wpIn (FR ro) 0 P (Exit.then (fun a' w' => ∃ k, k < m ∧ I k a' w') Q) a w) : W ro P n C Q (.loop c) st R := by
  intro a w hs
  obtain ⟨m0, h0⟩ := h0
  have key : ∀ a w, (∃ m, I m a w) → ∃ m, I m a w ∧ ∀ k, k < m → ¬ I k a w := fun a w h => exists_least h
  let μ : Act → World → Nat := fun a w => @dite _ (∃ m, I m a w) (Classical.propDecidable _) (fun h => Classical.choose (key a w h)) (fun _ => 0)
  have hμ : ∀ a w (hx : ∃ m, I m a w), I (μ a w) a w ∧ ∀ k, k < μ a w → ¬ I k a w := by
    intro a w hx
    have : μ a w = Classical.choose (key a w hx) := by simp only [μ]; rw [dif_pos hx]
    rw [this]; exact Classical.choose_spec (key a w hx)
  refine wpIn_loop (fun a w => ∃ m, I m a w) μ ⟨m0, h0 a w hs⟩ fun a w hI => ?_
  obtain ⟨h1, h2⟩ := hμ a w hI
  refine wpIn_mono (h _ a w h1) fun e a' w' hq => ?_
  cases e with
  | normal =>
    obtain ⟨k, hk, hIk⟩ := hq
    refine ⟨⟨k, hIk⟩, ?_⟩
    obtain ⟨g1, g2⟩ := hμ a' w' ⟨k, hIk⟩
    rcases Nat.lt_or_ge k (μ a' w') with h | h
    · exact absurd hIk (g2 k h)
    · omega
  | _ => exact hq

/-- a loop over a list: the state names what is left of the list and the values that the loop carries -/
theorem W_foldE {α σ τ : Type} {c : Code} (f : α → σ → Option (Ctl σ τ)) (stF : List α → σ → St) (RF : List α → σ → List Res) (r : Ctl σ τ) (xs : List α) (s : σ) (hm : foldE f xs s = some r)
    (h0 : st = stF xs s ∧ R = RF xs s)
    (hnil : ∀ s, r = .next s → W ro P n C (Exit.then (fun _ _ => False) Q) c (stF [] s) (RF [] s))
    (hcons : ∀ x xs s k, f x s = some k → (∀ s', k = .brk s' → r = .next s') → (∀ v, k = .ret v → r = .ret v) →
      W ro P n C (Exit.then (fun a' w' => ∃ s', k = .next s' ∧ Sat n C (mkL (stF xs s')) (RF xs s') a' w') Q) c (stF (x :: xs) s) (RF (x :: xs) s)) : W ro P n C Q (.loop c) st R := by
  refine W_loopN (fun m a w => ∃ xs s, xs.length = m ∧ foldE f xs s = some r ∧ Sat n C (mkL (stF xs s)) (RF xs s) a w) ⟨xs.length, fun a w hs => ⟨xs, s, rfl, hm, by rw [h0.1, h0.2] at hs; exact hs⟩⟩ fun m a w hI => ?_
  obtain ⟨xs, s, hl, hf, hs⟩ := hI
  cases xs with
  | nil =>
    simp only [foldE, Option.some.injEq] at hf
    refine wpIn_mono (hnil s hf.symm a w hs) fun e a' w' hq => ?_
    cases e with
    | normal => exact hq.elim
    | _ => exact hq
  | cons x xs =>
    simp only [foldE] at hf
    cases hk : f x s with
    | none => rw [hk] at hf; cases hf
    | some k =>
      rw [hk] at hf
      refine wpIn_mono (hcons x xs s k hk ?_ ?_ a w hs) fun e a' w' hq => ?_
      · intro s' e; subst e; simp only [Option.some.injEq] at hf; exact hf.symm
      · intro v e; subst e; simp only [Option.some.injEq] at hf; exact hf.symm
      · cases e with
        | normal =>
          obtain ⟨s', e, hs'⟩ := hq
          subst e
          exact ⟨xs.length, by simp at hl; omega, xs, s', rfl, hf, hs'⟩
        | _ => exact hq

/-- a loop while something holds -/
theorem W_while {σ τ : Type} {c : Code} (f : σ → Option (Ctl σ τ)) (stF : σ → St) (RF : σ → List Res) (r : Ctl σ τ) (fuel : Nat) (s : σ) (hm : whileN f fuel s = some r)
    (h0 : st = stF s ∧ R = RF s)
    (h : ∀ s k, f s = some k → (∀ s', k = .brk s' → r = .next s') → (∀ v, k = .ret v → r = .ret v) →
      W ro P n C (Exit.then (fun a' w' => ∃ s', k = .next s' ∧ Sat n C (mkL (stF s')) (RF s') a' w') Q) c (stF s) (RF s)) : W ro P n C Q (.loop c) st R := by
  refine W_loopN (fun m a w => ∃ s, whileN f m s = some r ∧ Sat n C (mkL (stF s)) (RF s) a w) ⟨fuel, fun a w hs => ⟨s, hm, by rw [h0.1, h0.2] at hs; exact hs⟩⟩ fun m a w hI => ?_
  obtain ⟨s, hf, hs⟩ := hI
  cases m with
  | zero => simp [whileN] at hf
  | succ m =>
    simp only [whileN] at hf
    cases hk : f s with
    | none => rw [hk] at hf; cases hf
    | some k =>
      rw [hk] at hf
      refine wpIn_mono (h s k hk ?_ ?_ a w hs) fun e a' w' hq => ?_
      · intro s' e; subst e; simp only [Option.some.injEq] at hf; exact hf.symm
      · intro v e; subst e; simp only [Option.some.injEq] at hf; exact hf.symm
      · cases e with
        | normal =>
          obtain ⟨s', e, hs'⟩ := hq
          subst e
          exact ⟨m, Nat.lt_succ_self m, s', hf, hs'⟩
        | _ => exact hq

/-! ### the end of a function -/
def retVal (P : Program) (st : St) (R : List Res) : ResultVar → Option AV
  | .tmp t => match getE (mkL st) t with
    | some e => some e.v
    | none => none
  | .cell t ty => match getE (mkL st) t, tySize P ty with
    | some e, some m => match e.v with
      | .d (.o i off) => match R[i]? with
        | some (.box _ cells) => memAV P ty ((cells.drop off).take m)
        | _ => none
      | _ => none
    | _, _ => none
def retVals (P : Program) (st : St) (R : List Res) : List ResultVar → Option (List AV)
  | [] => some []
  | r :: l => match retVal P st R r, retVals P st R l with
    | some v, some vs => some (v.norm :: vs)
    | _, _ => none
def retAV : List AV → AV
  | [v] => v
  | l => .tup l
/-- the result, and what of ours goes with it -/
def retRun (P : Program) (results : List ResultVar) (k : Nat) (pi : List Nat) (st : St) (R : List Res) : Option (AV × List Res) :=
  bif noDup pi && isIota k pi 0 then
    match retVals P st R results, picks R pi with
    | some vs, some Rp => match (retAV vs).ren (idxOf pi), renRs (idxOf pi) Rp with
      | some v, some R' => some (v, R')
      | _, _ => none
    | _, _ => none
  else none

/-- what a function owes at its end -/
def Post (P : Program) (fn : Func) (C : Ctx) (res : AV) (R2 : List Res) : Exit → Act → World → Prop :=
  bodyPostM (FR none) 0 P fn fun e w' => ∃ v S' ρ', e = .returned v ∧ RdA S' w' ρ' v res ∧ Inv C S' w' ρ' R2

/-- a later place to stand on in the same call: behind a range over a function -/
structure Up (C0 C : Ctx) : Prop where
  up : ∀ S w ρ R, Inv C S w ρ R → Inv C0 S w ρ R
  df : C.df = [] ∨ ∃ D, C.df = [{ target := .collected D, args := #[] }] ∧ C0.w.heap.size ≤ D
  hl : C0.h.length ≤ C.h.length
theorem Up.of_nil {C : Ctx} (h : C.df = []) : Up C C := ⟨fun _ _ _ _ h => h, .inl h, Nat.le_refl _⟩

/-- a mark's block is shut -/
theorem Inv.shut {C0 : Ctx} (hI : Inv C0 S w ρ R) {D : Nat} (h0 : C0.w.heap.size ≤ D) (hS : ¬ S D) (hR : ∀ (i : Nat) r h, R[i]? = some r → ρ[i]? = some h → ¬ r.foot h D) (o : Obj) : Inv C0 S (w.putObj D o) ρ R ∧ ∀ b, S b → (w.putObj D o).heap[b]? = w.heap[b]? := by
  have hsame : ∀ b, b ≠ D → (w.putObj D o).heap[b]? = w.heap[b]? := fun b hb => World.putObj_heap_other hb
  have hSs : ∀ b, S b → (w.putObj D o).heap[b]? = w.heap[b]? := fun b hb => hsame b (fun e => hS (e ▸ hb))
  have hsz : (w.putObj D o).heap.size = w.heap.size := by simp [World.putObj]
  refine ⟨⟨hI.len, fun i r h h1 h2 => (hI.ok i r h h1 h2).mono (fun _ h => h) hSs (Pre.refl _) (fun b hb => hsame b (fun e => hR i r h h1 h2 (e ▸ hb))), hI.dis, fun i r h b h1 h2 h3 => ?_, hI.sub, fun b hb => ?_, fun b hb hf => ?_, ?_, hI.os, hI.tape, hI.output, hI.pre, hI.gl⟩, hSs⟩
  · rw [hsz]; exact hI.own i r h b h1 h2 h3
  · rw [hsz]; exact hI.sup b hb
  · exact (hsame b (by omega)).trans (hI.frm b hb hf)
  · rw [hsz]; exact hI.size

theorem retVal_ok (hI : Inv C S w ρ R) (hL : SlotsOk S w ρ a (mkL st)) {r : ResultVar} {v : AV} (h : retVal P st R r = some v) :
    ∃ x, (match r with | .tmp t => pure (a.tmps.getD t undef) | .cell t ty => do loadVar ty (← asAddr (a.tmps.getD t undef)) : Sem Value).run P w = .ok x w ∧ RdA S w ρ x v := by
  have slot : ∀ t e, getE (mkL st) t = some e → ∃ x, a.tmps.getD t undef = x ∧ RdA S w ρ x e.v := by
    intro t e he
    obtain ⟨hm, ht⟩ := getE_mem he
    obtain ⟨x, hx, hr⟩ := (hL e hm).1 (by rw [mkL_flat hm]; exact pt_nil)
    rw [ht] at hx
    exact ⟨x, by simp [Array.getD_eq_getD_getElem?, hx], hr⟩
  unfold retVal at h
  split at h
  · rename_i t
    split at h
    · rename_i e he
      simp at h; subst h
      obtain ⟨x, hx, hr⟩ := slot t e he
      exact ⟨x, by simp [hx], hr⟩
    · cases h
  · rename_i t ty
    split at h
    · rename_i e m he hm
      split at h
      · rename_i i off hv
        split at h
        · rename_i u cells hi
          obtain ⟨x, hx, hr⟩ := slot t e he
          rw [hv] at hr
          obtain ⟨b, hb, hρ⟩ := hr.d_inv.o_inv
          obtain ⟨y, hy, hry⟩ := run_loadVar' (P := P) (S := S) (w := w) (ρ := ρ) (ad := ⟨b, off, none⟩) h (fun j d hd => box_read hI hi hρ off m j d hd)
          refine ⟨y, ?_, hry⟩
          simp only [hx, hb, asAddr, Sem.run_bind, Sem.run_pure, Result.andThen_ok, hy]
        · cases h
      · cases h
    · cases h

theorem retVals_ok (hI : Inv C S w ρ R) (hL : SlotsOk S w ρ a (mkL st)) : ∀ {l : List ResultVar} {vs : List AV}, retVals P st R l = some vs →
    ∃ xs, (l.mapM fun | .tmp t => pure (a.tmps.getD t undef) | .cell t ty => do loadVar ty (← asAddr (a.tmps.getD t undef)) : Sem (List Value)).run P w = .ok xs w ∧ All2 (RdA S w ρ) xs vs
  | [], vs, h => by simp [retVals] at h; subst h; exact ⟨[], by simp, trivial⟩
  | r :: l, vs, h => by
    simp only [retVals] at h
    split at h
    · rename_i v vs' h1 h2
      simp at h; subst h
      obtain ⟨x, hx, hr⟩ := retVal_ok hI hL h1
      obtain ⟨xs, hxs, hrs⟩ := retVals_ok hI hL h2
      refine ⟨x :: xs, ?_, hr.norm, hrs⟩
      simp only [List.mapM_cons, Sem.run_bind]
      rw [hx]
      simp only [Result.andThen_ok]
      rw [hxs]
      simp
    · cases h

theorem post0 {fn : Func} {results : List ResultVar} {k : Nat} {pi : List Nat} {res : AV} {R2 : List Res} (hf : fn.results.toList = results) (hk : C.h.length ≤ k) (h : retRun P results k pi st R = some (res, R2))
    (h3 : Inv C S w ρ R) (h4 : SlotsOk S w ρ a (mkL st)) : ∃ x, (Go.results fn a.tmps).run P w = .ok x w ∧ ∃ v S' ρ', Ending.returned x = .returned v ∧ RdA S' w ρ' v res ∧ Inv C S' w ρ' R2 := by
  unfold retRun at h
  cases hb : (noDup pi && isIota k pi 0) with
  | false => rw [hb] at h; simp at h
  | true =>
    rw [hb] at h
    simp only [cond_true] at h
    simp only [Bool.and_eq_true] at hb
    split at h
    · rename_i vs Rp e1 e2
      split at h
      · rename_i v R3 e3 e4
        simp at h
        obtain ⟨rfl, rfl⟩ := h
        have hid : ∀ (i j : Nat) x, idxOf pi i = some j → ρ[i]? = some x → (hands ρ pi)[j]? = some x := (h3.start hb.1 e2 e4).2.1
        obtain ⟨xs, hxs, hrs⟩ := retVals_ok (P := P) h3 h4 e1
        have hI2 := h3.pick hb.1 e2 e4 fun i v hv => by
          have hi : i < C.h.length := (List.getElem?_eq_some_iff.1 hv).1
          have := isIota_get hb.2 i (by omega)
          simp only [Nat.zero_add] at this
          have hp := h3.pre i v hv
          simp [hands, this, List.getD_eq_getElem?_getD, hp]
        have hrun : ∃ x, (Go.results fn a.tmps).run P w = .ok x w ∧ RdA S w ρ x (retAV vs) := by
          have hm : ∀ g : ResultVar → Sem Value, (∀ t, g (.tmp t) = pure (a.tmps.getD t undef)) → (∀ t ty, g (.cell t ty) = do loadVar ty (← asAddr (a.tmps.getD t undef))) → (fn.results.mapM g : Sem (Array Value)).run P w = .ok xs.toArray w := by
            intro g g1 g2
            have e : g = (fun | .tmp t => pure (a.tmps.getD t undef) | .cell t ty => do loadVar ty (← asAddr (a.tmps.getD t undef))) := by
              funext x
              cases x with
              | tmp t => exact g1 t
              | cell t ty => exact g2 t ty
            rw [e, run_mapM_arr, hf, hxs]; rfl
          have hlen := hrs.length
          match xs, vs, hrs, hlen, hm with
          | [x], [v], hrs, _, hm =>
            refine ⟨x, ?_, hrs.1⟩
            unfold Go.results
            simp only [Sem.run_bind]
            rw [hm _ (fun _ => rfl) (fun _ _ => rfl)]
            simp
          | [], [], hrs, _, hm =>
            refine ⟨.tuple #[], ?_, .tup (vs := []) rfl (by simp)⟩
            unfold Go.results
            simp only [Sem.run_bind]
            rw [hm _ (fun _ => rfl) (fun _ _ => rfl)]
            simp
          | x :: y :: l, v :: u :: l', hrs, hl, hm =>
            refine ⟨.tuple (x :: y :: l).toArray, ?_, .tup hl fun j z b h1 h2 => hrs.both h1 h2⟩
            unfold Go.results
            simp only [Sem.run_bind]
            rw [hm _ (fun _ => rfl) (fun _ _ => rfl)]
            simp
          | [], _ :: _, hrs, _, _ => exact hrs.elim
          | _ :: _, [], hrs, _, _ => exact hrs.elim
          | [_], _ :: _ :: _, hrs, _, _ => exact hrs.2.elim
          | _ :: _ :: _, [_], hrs, _, _ => exact hrs.2.elim
        obtain ⟨x, hx, hr⟩ := hrun
        exact ⟨x, hx, x, S, hands ρ pi, rfl, hr.ren hid _ e3, hI2⟩
      · cases h
    · cases h

theorem Sat.post {C0 : Ctx} (hup : Up C0 C) {fn : Func} {results : List ResultVar} {k : Nat} {pi : List Nat} {res : AV} {R2 : List Res} (hf : fn.results.toList = results) (hk : C.h.length ≤ k) (h : retRun P results k pi st R = some (res, R2))
    (hs : Sat n C (mkL st) R a w) : Post P fn C0 res R2 .ret a w := by
  obtain ⟨h1, _, S, ρ, h3, h4⟩ := hs
  have hk0 : C0.h.length ≤ k := Nat.le_trans hup.hl hk
  show LeavesInM (FR none) 0 P fn a.tmps _ a.defers .returning w
  rw [h1]
  rcases hup.df with hd | ⟨D, hd, hD0⟩
  · rw [hd]
    exact post0 hf hk0 h (hup.up _ _ _ _ h3) h4
  · rw [hd]
    obtain ⟨D', e, m1, m2, m3, m4⟩ := h3.gl.2.2 _ (by rw [hd]; exact List.mem_singleton.2 rfl)
    have : D' = D := by injection e with e1 _; injection e1 with e1; exact e1.symm
    subst this
    have hK : w.heap[D']? = some (.deferred (some [])) := (h3.frm D' m1 m2).trans m4
    have hS : ¬ S D' := fun hSD => by
      rcases (h3.sup D' hSD).2 with q | q | q
      · exact m3 q
      · exact m2 q
      · omega
    have hR : ∀ (i : Nat) r h, R[i]? = some r → ρ[i]? = some h → ¬ r.foot h D' := fun i r h g1 g2 g3 => by
      rcases (h3.own i r h D' g1 g2 g3).2.2 with q | q
      · exact m2 q
      · omega
    obtain ⟨g1, g2⟩ := (hup.up _ _ _ _ h3).shut hD0 hS hR (.deferred none)
    refine ⟨by simp, .inl ⟨D', _, rfl, run_takeDeferred hK, ?_⟩⟩
    refine post0 hf hk0 h g1 fun e he => ?_
    obtain ⟨q1, q2⟩ := h4 e he
    refine ⟨fun hp => ?_, q2⟩
    obtain ⟨x, hx, hr⟩ := q1 hp
    exact ⟨x, hx, hr.mono (fun _ h => h) g2 (Pre.refl _)⟩

/-! ### the beginning of a function -/
def argSt : Nat → List AV → St
  | _, [] => []
  | i, v :: l => (i, v) :: argSt (i + 1) l

theorem argSt_mem : ∀ {l : List AV} {i : Nat} {e : Ent}, e ∈ mkL (argSt i l) → ∃ j, e.t = i + j ∧ e.p = [] ∧ l[j]? = some e.v
  | [], i, e, h => by cases h
  | v :: l, i, e, h => by
    rcases List.mem_cons.1 h with rfl | h
    · exact ⟨0, rfl, rfl, rfl⟩
    · obtain ⟨j, h1, h2, h3⟩ := argSt_mem h
      exact ⟨j + 1, by omega, h2, by simpa using h3⟩

theorem callOk_intro {f : FuncId} {fn : Func} {c : Code} {args : List AV} {res : AV} {R2 : List Res} (hf : P.funcs[f]? = some fn) (hb : fn.body = some c) (hn : fn.ntmps = n) (hl : args.length ≤ n)
    (h : ∀ C : Ctx, C.df = [] → C.h.length = R.length → W none P n C (Post P fn C res R2) c (argSt 0 args) R) : CallOk P f args R res R2 := by
  intro S w ρ vs hst hv
  refine callsIn_wide.1 (callsIn_of_wp_marks (F := Fence.wide) (n := 0) hf hb trivial ?_)
  have hlen := hv.length
  refine h ⟨w, S, feet ρ R, ρ, []⟩ rfl (by simp [hst.len]) _ _ ⟨rfl, ?_, S, ρ, hst.inv, fun e he => ?_⟩
  · simp; omega
  · obtain ⟨j, h1, h2, h3⟩ := argSt_mem he
    refine ⟨fun _ => ?_, fun hnp => absurd (by rw [h2]; exact pt_nil) hnp⟩
    obtain ⟨x, hx, hr⟩ := hv.get h3
    refine ⟨x, ?_, hr⟩
    have hj : j < vs.length := (List.getElem?_eq_some_iff.1 hx).1
    simp only [Nat.zero_add] at h1
    rw [h1]
    simp [Array.getElem?_append, hj]
    rw [List.getElem?_eq_getElem hj] at hx
    simpa using hx
end
end Go.SL
