/-
  The logic, nineteenth part: rules for code: regions, tests, blocks, loops, the end of a function.
-/
import Derived.Test.YtakbldjmgfcipaaDoorSlR
namespace Go.SL

/-- a state as it is typed: temporaries with what they read as -/
abbrev St := List (Nat × AV)
def mkL : St → List Ent
  | [] => []
  | (t, v) :: r => ⟨t, [], v⟩ :: mkL r
def sel (L : List Ent) : List Nat → Option St
  | [] => some []
  | t :: ts => match getE L t, sel L ts with
    | some e, some r => bif e.p.isEmpty then some ((t, e.v) :: r) else none
    | _, _ => none
def keys : St → List Nat
  | [] => []
  | (t, _) :: r => t :: keys r

/-- from a state on -/
def W (P : Program) (n : Nat) (C : Ctx) (Q : Exit → Act → World → Prop) (c : Code) (st : St) (R : List Res) : Prop :=
  ∀ a w, Sat n C (mkL st) R a w → c.wp P Q a w

section
variable {P : Program} {n : Nat} {C : Ctx} {Q : Exit → Act → World → Prop} {st st' : St} {R R' : List Res} {S S' : Nat → Prop} {w w' : World} {ρ ρ' : List Value} {a : Act}

theorem mkL_flat : ∀ {st : St} {e : Ent}, e ∈ mkL st → e.p = []
  | [], e, h => by cases h
  | (t, v) :: r, e, h => by
    rcases List.mem_cons.1 h with rfl | h
    · rfl
    · exact mkL_flat h

theorem sel_mem : ∀ {ts : List Nat} {L : List Ent} {st : St}, sel L ts = some st → ∀ e, e ∈ mkL st → e ∈ L
  | [], L, st, h, e, he => by simp [sel] at h; subst h; cases he
  | t :: ts, L, st, h, e, he => by
    simp only [sel] at h
    split at h
    · rename_i x r h1 h2
      cases hp : x.p.isEmpty with
      | false => rw [hp] at h; simp at h
      | true =>
        rw [hp] at h
        simp at h; subst h
        obtain ⟨g1, g2⟩ := getE_mem h1
        rcases List.mem_cons.1 he with rfl | he
        · have : (⟨t, [], x.v⟩ : Ent) = x := by
            obtain ⟨xt, xp, xv⟩ := x
            simp at hp g2 ⊢
            exact ⟨g2.symm, hp⟩
          rw [this]; exact g1
        · exact sel_mem h2 e he
    · cases h

theorem Sat.sub {L L' : List Ent} (h : Sat n C L R a w) (hs : ∀ e, e ∈ L' → e ∈ L) : Sat n C L' R a w := by
  obtain ⟨h1, h2, S, ρ, h3, h4⟩ := h
  exact ⟨h1, h2, S, ρ, h3, fun e he => h4 e (hs e he)⟩

theorem W_seq {x y : Code} (h : W P n C (Exit.then (y.wp P Q) Q) x st R) : W P n C Q (.seq x y) st R := fun a w hs => wp_seq (h a w hs)

theorem W_skip (h : ∀ a w, Sat n C (mkL st) R a w → Q .normal a w) : W P n C Q .skip st R := fun a w hs => wp_skip (h a w hs)
theorem W_exit {id : Nat} (h : ∀ a w, Sat n C (mkL st) R a w → Q (.exit id) a w) : W P n C Q (.exit id) st R := fun a w hs => wp_exit (h a w hs)
theorem W_ret (h : ∀ a w, Sat n C (mkL st) R a w → Q .ret a w) : W P n C Q .ret st R := fun a w hs => wp_ret (h a w hs)
theorem W_block {id : Nat} {c : Code} (h : W P n C (Exit.inBlock id Q) c st R) : W P n C Q (.block id c) st R := fun a w hs => wp_block (h a w hs)

def findB (st : St) (c : Operand) : Option Bool :=
  match c with
  | .tmp t => match getE (mkL st) t with
    | some e => boolV e.v
    | none => none
  | _ => none

theorem W_cond {c : Operand} {x y : Code} (b : Bool) (hc : findB st c = some b) (ht : b = true → W P n C Q x st R) (hf : b = false → W P n C Q y st R) : W P n C Q (.cond c x y) st R := by
  intro a w hs
  have he : a.eval c = .bool b := by
    obtain ⟨_, _, S, ρ, _, h4⟩ := hs
    unfold findB at hc
    split at hc
    · rename_i t
      split at hc
      · rename_i e he
        have hp := mkL_flat (getE_mem he).1
        have := (ent_bool h4 he hc).1 (by rw [hp]; exact pt_nil)
        simp [Act.eval, Array.getD_eq_getD_getElem?, this]
      · cases hc
    · cases hc
  cases b with
  | true => exact wp_cond_true he (ht rfl a w hs)
  | false => exact wp_cond_false he (hf rfl a w hs)

/-- cut: what holds where the code has come to its end -/
theorem W_cut {c : Code} (K : Act → World → Prop) (h : W P n C (Exit.then K Q) c st R) (hK : ∀ a w, K a w → Q .normal a w) : W P n C Q c st R := by
  intro a w hs
  refine wp_mono (h a w hs) fun e a w hq => ?_
  cases e with
  | normal => exact hK a w hq
  | _ => exact hq

/-- a state with an open value -/
def Ex {σ : Type} (n : Nat) (C : Ctx) (φ : σ → Prop) (st : σ → St) (R : σ → List Res) (a : Act) (w : World) : Prop := ∃ s, φ s ∧ Sat n C (mkL (st s)) (R s) a w

/-- code, cut, and what follows -/
theorem W_then {σ : Type} {x y : Code} (φ : σ → Prop) (st' : σ → St) (R' : σ → List Res) (h : W P n C (Exit.then (Ex n C φ st' R') Q) x st R) (hK : ∀ s, φ s → W P n C Q y (st' s) (R' s)) : W P n C Q (.seq x y) st R := by
  refine W_seq fun a w hs => wp_mono (h a w hs) fun e a w hq => ?_
  cases e with
  | normal =>
    obtain ⟨s, h1, h2⟩ := hq
    exact hK s h1 a w h2
  | _ => exact hq

/-! ### choosing, renaming, freezing -/
theorem Inv.pick (hI : Inv C S w ρ R) {pi : List Nat} {Rp R2 : List Res} (hn : noDup pi = true) (hp : picks R pi = some Rp) (hr : renRs (idxOf pi) Rp = some R2) (hh : Pre C.h (hands ρ pi)) :
    Inv C S w (hands ρ pi) R2 := by
  obtain ⟨st, hid, foots⟩ := hI.start hn hp hr
  refine ⟨st.len, st.ok, st.dis, fun j r h b h1 h2 h3 => ?_, hI.sub, hI.sup, hI.frm, hI.size, hI.os, hI.tape, hI.output, hh, hI.gl⟩
  obtain ⟨i, r0, k1, k2, k3, k4⟩ := foots j r h h1 h2
  exact hI.own i r0 h b k2 k3 (by rw [← k4]; exact h3)

def renSt (f : Nat → Option Nat) : St → Option St
  | [] => some []
  | (t, v) :: r => match v.norm.ren f, renSt f r with
    | some v', some r' => some ((t, v') :: r')
    | _, _ => none
theorem renSt_get {f : Nat → Option Nat} : ∀ {st st' : St}, renSt f st = some st' → ∀ e, e ∈ mkL st' → ∃ e0, e0 ∈ mkL st ∧ e0.t = e.t ∧ e.p = [] ∧ e0.v.norm.ren f = some e.v
  | [], st', h, e, he => by simp [renSt] at h; subst h; cases he
  | (t, v) :: r, st', h, e, he => by
    simp only [renSt] at h
    split at h
    · rename_i v' r' h1 h2
      simp at h; subst h
      rcases List.mem_cons.1 he with rfl | he
      · exact ⟨⟨t, [], v⟩, List.mem_cons_self, rfl, rfl, h1⟩
      · obtain ⟨e0, g1, g2, g3, g4⟩ := renSt_get h2 e he
        exact ⟨e0, List.mem_cons_of_mem _ g1, g2, g3, g4⟩
    · cases h

def isIota : Nat → List Nat → Nat → Bool
  | 0, _, _ => true
  | k + 1, i :: r, j => Nat.beq i j && isIota k r (j + 1)
  | _ + 1, [], _ => false
theorem isIota_get : ∀ {k : Nat} {l : List Nat} {j : Nat}, isIota k l j = true → ∀ i, i < k → l[i]? = some (j + i)
  | 0, _, _, _, i, h => by omega
  | k + 1, [], _, h, _, _ => by simp [isIota] at h
  | k + 1, a :: r, j, h, i, hi => by
    simp only [isIota, Bool.and_eq_true] at h
    cases i with
    | zero => simp; exact Nat.eq_of_beq_eq_true h.1
    | succ i => simp; rw [isIota_get h.2 i (by omega)]; congr 1; omega

/-- choose: these temporaries, these things of ours, in this order (the first k stay where they are) -/
def reSt (k : Nat) (pi ts : List Nat) (st : St) (R : List Res) : Option (St × List Res) :=
  bif noDup pi && isIota k pi 0 then
    match sel (mkL st) ts, picks R pi with
    | some st1, some Rp => match renSt (idxOf pi) st1, renRs (idxOf pi) Rp with
      | some st', some R' => some (st', R')
      | _, _ => none
    | _, _ => none
  else none

theorem Sat.re {k : Nat} {pi ts : List Nat} (hk : C.h.length ≤ k) (h : reSt k pi ts st R = some (st', R')) (hs : Sat n C (mkL st) R a w) : Sat n C (mkL st') R' a w := by
  unfold reSt at h
  cases hb : (noDup pi && isIota k pi 0) with
  | false => rw [hb] at h; simp at h
  | true =>
    rw [hb] at h
    simp only [cond_true] at h
    simp only [Bool.and_eq_true] at hb
    split at h
    · rename_i st1 Rp e1 e2
      split at h
      · rename_i st2 R2 e3 e4
        simp at h
        obtain ⟨rfl, rfl⟩ := h
        obtain ⟨h1, h2, S, ρ, h3, h4⟩ := hs.sub (sel_mem e1)
        have hid : ∀ (i j : Nat) x, idxOf pi i = some j → ρ[i]? = some x → (hands ρ pi)[j]? = some x := (h3.start hb.1 e2 e4).2.1
        refine ⟨h1, h2, S, hands ρ pi, h3.pick hb.1 e2 e4 fun i v hv => ?_, fun e he => ?_⟩
        · have hi : i < C.h.length := (List.getElem?_eq_some_iff.1 hv).1
          have := isIota_get hb.2 i (by omega)
          simp only [Nat.zero_add] at this
          have hp := h3.pre i v hv
          simp [hands, this, List.getD_eq_getElem?_getD, hp]
        · obtain ⟨e0, g1, g2, g3, g4⟩ := renSt_get e3 e he
          have hp0 := mkL_flat g1
          obtain ⟨k1, _⟩ := h4 e0 g1
          obtain ⟨v, hv, hr⟩ := k1 (by rw [hp0]; exact pt_nil)
          refine ⟨fun _ => ⟨v, by rw [← g2]; exact hv, hr.norm.ren hid _ g4⟩, fun hn => absurd (by rw [g3]; exact pt_nil) hn⟩
      · cases h
    · cases h

/-- freeze: a slice of ours is given up -/
def D.frz (i : Nat) (rows : List (List Pd)) : D → D
  | .os j => bif Nat.beq i j then .p (.s rows) else .os j
  | d => d
def AV.frz (i : Nat) (rows : List (List Pd)) : AV → AV
  | .d x => .d (x.frz i rows)
  | .agg ds => .agg (ds.map (D.frz i rows))
  | .tup l => .tup l
def Res.frz (i : Nat) (rows : List (List Pd)) : Res → Res
  | .box t cells => .box t (cells.map (D.frz i rows))
  | r => r
def frzSt (i : Nat) (st : St) (R : List Res) : Option (St × List Res) :=
  match R[i]? with
  | some (.sl _ _ rows) => some (st.map fun x => (x.1, x.2.frz i rows), (R.set i .non).map (Res.frz i rows))
  | _ => none

theorem mkL_map {f : AV → AV} : ∀ {st : St} {e : Ent}, e ∈ mkL (st.map fun x => (x.1, f x.2)) → ∃ e0, e0 ∈ mkL st ∧ e0.t = e.t ∧ e.p = [] ∧ e.v = f e0.v
  | [], e, h => by cases h
  | (t, v) :: r, e, h => by
    rcases List.mem_cons.1 h with rfl | h
    · exact ⟨⟨t, [], v⟩, List.mem_cons_self, rfl, rfl, rfl⟩
    · obtain ⟨e0, g1, g2⟩ := mkL_map h
      exact ⟨e0, List.mem_cons_of_mem _ g1, g2⟩

theorem Sat.frz {i : Nat} (h : frzSt i st R = some (st', R')) (hs : Sat n C (mkL st) R a w) : Sat n C (mkL st') R' a w := by
  unfold frzSt at h
  split at h
  · rename_i e size rows hi
    simp only [Option.some.injEq, Prod.mk.injEq] at h
    obtain ⟨rfl, rfl⟩ := h
    obtain ⟨h1, h2, S, ρ, h3, h4⟩ := hs
    have hil : i < ρ.length := by rw [h3.len]; exact (List.getElem?_eq_some_iff.1 hi).1
    have hρ : ρ[i]? = some ρ[i] := List.getElem?_eq_getElem hil
    have hF := h3.freeze hi hρ
    have hrow : ρ[i].oneCell' = true → RdP (fun b => S b ∨ (Res.sl e size rows).foot ρ[i] = some b) w ρ[i] (.s rows) := fun h1 => Res.ok0.frozen ((h3.ok i _ _ hi hρ).live h1)
    have hd : ∀ v d, Rd S w ρ v d → Rd (fun b => S b ∨ (Res.sl e size rows).foot ρ[i] = some b) w ρ v (d.frz i rows) := by
      intro v d hr
      have hm := hr.mono (S' := fun b => S b ∨ (Res.sl e size rows).foot ρ[i] = some b) (w' := w) (ρ' := ρ) (fun _ h => .inl h) (fun _ _ => rfl) (Pre.refl _)
      cases d with
      | os j =>
        simp only [D.frz]
        cases hb : Nat.beq i j with
        | false => simpa using hm
        | true =>
          have := Nat.eq_of_beq_eq_true hb
          subst this
          have h1 := hr.one
          have := hr.os_inv
          rw [hρ] at this; cases this
          exact .p (hrow h1)
      | _ => exact hm
    have ha : ∀ v d, RdA S w ρ v d → RdA (fun b => S b ∨ (Res.sl e size rows).foot ρ[i] = some b) w ρ v (d.frz i rows) := by
      intro v d hr
      cases hr with
      | d h => exact .d (hd _ _ h)
      | agg h => exact .agg (h.map_right fun _ _ h => hd _ _ h)
      | tup hl h => exact .tup hl fun j x a hx ha => (h j x a hx ha).mono (fun _ h => .inl h) (fun _ _ => rfl) (Pre.refl _)
    have hget : ∀ (j : Nat) r, ((R.set i .non).map (Res.frz i rows))[j]? = some r → ∃ r0, (R.set i .non)[j]? = some r0 ∧ r = r0.frz i rows := by
      intro j r hj
      rw [List.getElem?_map] at hj
      obtain ⟨r0, g1, g2⟩ := mapE hj
      exact ⟨r0, g1, g2.symm⟩
    have hfoot : ∀ (r0 : Res) v, (r0.frz i rows).foot v = r0.foot v := by intro r0 v; cases r0 <;> rfl
    refine ⟨h1, h2, _, ρ, ⟨by rw [List.length_map]; exact hF.len, fun j r v hj hv => ?_, fun j k r r2 v v2 b hjk hj hk hv hv2 hf hf2 => ?_, fun j r v b hj hv hf => ?_, hF.sub, hF.sup, hF.frm, hF.size, hF.os, hF.tape, hF.output, hF.pre, hF.gl⟩, fun e he => ?_⟩
    · obtain ⟨r0, g1, rfl⟩ := hget j r hj
      have hok := hF.ok j r0 v g1 hv
      rw [List.getElem?_set] at g1
      split at g1
      · split at g1
        · cases g1; exact .inr trivial
        · cases g1
      · have hok0 := h3.ok j r0 v g1 hv
        cases r0 with
        | box t cells =>
          rcases hok0 with h0 | ⟨b, vs, rfl, hb, hc⟩
          · exact .inl h0
          · exact .inr ⟨b, vs, rfl, hb, hc.map_right fun _ _ h => hd _ _ h⟩
        | _ => exact hok
    · obtain ⟨r0, g1, rfl⟩ := hget j r hj
      obtain ⟨r1, g2, rfl⟩ := hget k r2 hk
      rw [hfoot] at hf hf2
      exact hF.dis j k r0 r1 v v2 b hjk g1 g2 hv hv2 hf hf2
    · obtain ⟨r0, g1, rfl⟩ := hget j r hj
      rw [hfoot] at hf
      exact hF.own j r0 v b g1 hv hf
    · obtain ⟨e0, g1, g2, g3, g4⟩ := mkL_map he
      have hp0 := mkL_flat g1
      obtain ⟨k1, _⟩ := h4 e0 g1
      obtain ⟨v, hv, hr⟩ := k1 (by rw [hp0]; exact pt_nil)
      refine ⟨fun _ => ⟨v, by rw [← g2]; exact hv, by rw [g4]; exact ha _ _ hr⟩, fun hn => absurd (by rw [g3]; exact pt_nil) hn⟩
  · cases h

/-- an exact nil becomes an empty slice of ours -/
def setSt (t : Nat) (v : AV) : St → St
  | [] => []
  | (u, x) :: r => bif Nat.beq u t then (u, v) :: setSt t v r else (u, x) :: setSt t v r
def isNilAt (t : Nat) : St → Bool
  | [] => true
  | (u, x) :: r => (!(Nat.beq u t) || match x with | .d (.p (.v (.slice none 0 0))) => true | _ => false) && isNilAt t r
def ownSt (t e size : Nat) (st : St) (R : List Res) : Option (St × List Res) :=
  bif isNilAt t st then some (setSt t (.d (.os R.length)) st, R ++ [.sl e size []]) else none
theorem setSt_mem {t : Nat} {v : AV} : ∀ {st : St} {e : Ent}, e ∈ mkL (setSt t v st) → (e.t = t ∧ e.p = [] ∧ e.v = v ∧ ∃ x, ⟨t, [], x⟩ ∈ mkL st ∧ (isNilAt t st = true → ∃ y, x = y ∧ (match y with | .d (.p (.v (.slice none 0 0))) => true | _ => false) = true)) ∨ e ∈ mkL st
  | [], e, h => by cases h
  | (u, x) :: r, e, h => by
    simp only [setSt] at h
    cases hb : Nat.beq u t with
    | true =>
      rw [hb] at h
      simp only [cond_true] at h
      have := Nat.eq_of_beq_eq_true hb
      subst this
      rcases List.mem_cons.1 h with rfl | h
      · refine .inl ⟨rfl, rfl, rfl, x, List.mem_cons_self, fun hn => ⟨x, rfl, ?_⟩⟩
        simp only [isNilAt, hb, Bool.not_true, Bool.false_or, Bool.and_eq_true] at hn
        exact hn.1
      · rcases setSt_mem h with ⟨g1, g2, g3, y, g4, g5⟩ | h
        · refine .inl ⟨g1, g2, g3, y, List.mem_cons_of_mem _ g4, fun hn => g5 ?_⟩
          simp only [isNilAt, Bool.and_eq_true] at hn
          exact hn.2
        · exact .inr (List.mem_cons_of_mem _ h)
    | false =>
      rw [hb] at h
      simp only [cond_false] at h
      rcases List.mem_cons.1 h with rfl | h
      · exact .inr List.mem_cons_self
      · rcases setSt_mem h with ⟨g1, g2, g3, y, g4, g5⟩ | h
        · refine .inl ⟨g1, g2, g3, y, List.mem_cons_of_mem _ g4, fun hn => g5 ?_⟩
          simp only [isNilAt, Bool.and_eq_true] at hn
          exact hn.2
        · exact .inr (List.mem_cons_of_mem _ h)
theorem Sat.own {t e size : Nat} (h : ownSt t e size st R = some (st', R')) (hs : Sat n C (mkL st) R a w) : Sat n C (mkL st') R' a w := by
  unfold ownSt at h
  cases hb : isNilAt t st with
  | false => rw [hb] at h; simp at h
  | true =>
    rw [hb] at h
    simp at h
    obtain ⟨rfl, rfl⟩ := h
    obtain ⟨h1, h2, S, ρ, h3, h4⟩ := hs
    refine ⟨h1, h2, S, ρ ++ [.slice none 0 0], h3.push (.sl e size []) (.slice none 0 0) (fun _ _ => rfl) (Nat.le_refl _) rfl rfl rfl (.inr (.inl ⟨rfl, rfl⟩)) (by simp [Res.foot]), fun x hx => ?_⟩
    rcases setSt_mem hx with ⟨g1, g2, g3, y, g4, g5⟩ | hx
    · obtain ⟨z, rfl, hz⟩ := g5 hb
      obtain ⟨v, hv, hr⟩ := (h4 _ g4).1 pt_nil
      split at hz
      · have := hr.exact_inv
        subst this
        refine ⟨fun _ => ⟨.slice none 0 0, by rw [g1]; exact hv, by rw [g3]; exact .d (.os (by rw [← h3.len]; simp) rfl)⟩, fun hn => absurd (by rw [g2]; exact pt_nil) hn⟩
      · cases hz
    · obtain ⟨k1, k2⟩ := h4 x hx
      refine ⟨fun hp => ?_, k2⟩
      obtain ⟨v, hv, hr⟩ := k1 hp
      exact ⟨v, hv, hr.mono (fun _ h => h) (fun _ _ => rfl) (Pre.append _ _)⟩

/-- before code: choose, freeze, own -/
theorem W_re {c : Code} {k : Nat} (pi ts : List Nat) (st' : St) (R' : List Res) (hk : C.h.length ≤ k) (h : reSt k pi ts st R = some (st', R')) (hW : W P n C Q c st' R') : W P n C Q c st R := fun a w hs => hW a w (hs.re hk h)
theorem W_frz {c : Code} (i : Nat) (st' : St) (R' : List Res) (h : frzSt i st R = some (st', R')) (hW : W P n C Q c st' R') : W P n C Q c st R := fun a w hs => hW a w (hs.frz h)
theorem W_own {c : Code} (t e size : Nat) (st' : St) (R' : List Res) (h : ownSt t e size st R = some (st', R')) (hW : W P n C Q c st' R') : W P n C Q c st R := fun a w hs => hW a w (hs.own h)
end
end Go.SL
