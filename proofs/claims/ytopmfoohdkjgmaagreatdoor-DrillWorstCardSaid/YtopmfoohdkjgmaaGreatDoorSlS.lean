/-
  The logic, nineteenth part: rules for code: regions, tests, blocks, loops, the end of a function.
-/
import Derived.Test.YtopmfoohdkjgmaaGreatDoorSlR
namespace Go.SL

/-- a state as it is typed: temporaries with what they read as -/
abbrev St := List (Nat × AV)
def mkL : St → List Ent
  | [] => []
  | (t, v) :: r => ⟨t, [], v⟩ :: mkL r
def sel (L : List Ent) : List Nat → Option St
  | [] => some []
  | t :: ts => match getE L t, sel L ts with
    | some e, some r => bif e.p.isEmpty then some ((t, e.v) :: r) else none
    | _, _ => none
def keys : St → List Nat
  | [] => []
  | (t, _) :: r => t :: keys r

/-- from a state on -/
def W (ro : Option Nat) (P : Program) (n : Nat) (C : Ctx) (Q : Exit → Act → World → Prop) (c : Code) (st : St) (R : List Res) : Prop :=
  ∀ a w, Sat n C (mkL st) R a w → c.wpIn (FR ro) 0 P Q a w

section
variable {ro : Option Nat} {P : Program} {n : Nat} {C : Ctx} {Q : Exit → Act → World → Prop} {st st' : St} {R R' : List Res} {S S' : Nat → Prop} {w w' : World} {ρ ρ' : List Value} {a : Act}

theorem mkL_flat : ∀ {st : St} {e : Ent}, e ∈ mkL st → e.p = []
  | [], e, h => by cases h
  | (t, v) :: r, e, h => by
    rcases List.mem_cons.1 h with rfl | h
    · rfl
    · exact mkL_flat h

theorem sel_mem : ∀ {ts : List Nat} {L : List Ent} {st : St}, sel L ts = some st → ∀ e, e ∈ mkL st → e ∈ L
  | [], L, st, h, e, he => by simp [sel] at h; subst h; cases he
  | t :: ts, L, st, h, e, he => by
    simp only [sel] at h
    split at h
    · rename_i x r h1 h2
      cases hp : x.p.isEmpty with
      | false => rw [hp] at h; simp at h
      | true =>
        rw [hp] at h
        simp at h; subst h
        obtain ⟨g1, g2⟩ := getE_mem h1
        rcases List.mem_cons.1 he with rfl | he
        · have : (⟨t, [], x.v⟩ : Ent) = x := by
            obtain ⟨xt, xp, xv⟩ := x
            grind
          rw [this]; exact g1
        · exact sel_mem h2 e he
    · cases h

theorem Sat.sub {L L' : List Ent} (h : Sat n C L R a w) (hs : ∀ e, e ∈ L' → e ∈ L) : Sat n C L' R a w := by
  obtain ⟨h1, h2, S, ρ, h3, h4⟩ := h
  exact ⟨h1, h2, S, ρ, h3, fun e he => h4 e (hs e he)⟩

theorem W_seq {x y : Code} (h : W ro P n C (Exit.then (y.wpIn (FR ro) 0 P Q) Q) x st R) : W ro P n C Q (.seq x y) st R := fun a w hs => wpIn_seq (h a w hs)

theorem W_skip (h : ∀ a w, Sat n C (mkL st) R a w → Q .normal a w) : W ro P n C Q .skip st R := fun a w hs => wpIn_skip (h a w hs)
theorem W_exit {id : Nat} (h : ∀ a w, Sat n C (mkL st) R a w → Q (.exit id) a w) : W ro P n C Q (.exit id) st R := fun a w hs => wpIn_exit (h a w hs)
theorem W_ret (h : ∀ a w, Sat n C (mkL st) R a w → Q .ret a w) : W ro P n C Q .ret st R := fun a w hs => wpIn_ret (h a w hs)
theorem W_block {id : Nat} {c : Code} (h : W ro P n C (Exit.inBlock id Q) c st R) : W ro P n C Q (.block id c) st R := fun a w hs => wpIn_block (h a w hs)

def findB (st : St) (c : Operand) : Option Bool :=
  match c with
  | .tmp t => match getE (mkL st) t with
    | some e => boolV e.v
    | none => none
  | _ => none

theorem W_cond {c : Operand} {x y : Code} (b : Bool) (hc : findB st c = some b) (ht : b = true → W ro P n C Q x st R) (hf : b = false → W ro P n C Q y st R) : W ro P n C Q (.cond c x y) st R := by
  intro a w hs
  have he : a.eval c = .bool b := by
    obtain ⟨_, _, S, ρ, _, h4⟩ := hs
    unfold findB at hc
    split at hc
    · rename_i t
      split at hc
      · rename_i e he
        have hp := mkL_flat (getE_mem he).1
        have := (ent_bool h4 he hc).1 (by rw [hp]; exact pt_nil)
        simp [Act.eval, Array.getD_eq_getD_getElem?, this]
      · cases hc
    · cases hc
  cases b with
  | true => exact wpIn_cond_true he (ht rfl a w hs)
  | false => exact wpIn_cond_false he (hf rfl a w hs)

/-- cut: what holds where the code has come to its end -/
theorem W_cut {c : Code} (K : Act → World → Prop) (h : W ro P n C (Exit.then K Q) c st R) (hK : ∀ a w, K a w → Q .normal a w) : W ro P n C Q c st R := by
  intro a w hs
  refine wpIn_mono (h a w hs) fun e a w hq => ?_
  cases e with
  | normal => exact hK a w hq
  | _ => exact hq

/-- a state with an open value -/
def Ex {σ : Type} (n : Nat) (C : Ctx) (φ : σ → Prop) (st : σ → St) (R : σ → List Res) (a : Act) (w : World) : Prop := ∃ s, φ s ∧ Sat n C (mkL (st s)) (R s) a w

/-- code, cut, and what follows -/
theorem W_then {σ : Type} {x y : Code} (φ : σ → Prop) (st' : σ → St) (R' : σ → List Res) (h : W ro P n C (Exit.then (Ex n C φ st' R') Q) x st R) (hK : ∀ s, φ s → W ro P n C Q y (st' s) (R' s)) : W ro P n C Q (.seq x y) st R := by
  refine W_seq fun a w hs => wpIn_mono (h a w hs) fun e a w hq => ?_
  cases e with
  | normal =>
    obtain ⟨s, h1, h2⟩ := hq
    exact hK s h1 a w h2
  | _ => exact hq

/-! ### choosing, renaming, freezing -/
theorem Inv.pick (hI : Inv C S w ρ R) {pi : List Nat} {Rp R2 : List Res} (hn : noDup pi = true) (hp : picks R pi = some Rp) (hr : renRs (idxOf pi) Rp = some R2) (hh : Pre C.h (hands ρ pi)) :
    Inv C S w (hands ρ pi) R2 := by
  obtain ⟨st, hid, foots⟩ := hI.start hn hp hr
  refine ⟨st.len, st.ok, st.dis, fun j r h b h1 h2 h3 => ?_, hI.sub, hI.sup, hI.frm, hI.size, hI.os, hI.tape, hI.output, hh, hI.gl⟩
  obtain ⟨i, r0, k1, k2, k3, k4⟩ := foots j r h h1 h2
  exact hI.own i r0 h b k2 k3 (by rw [← k4]; exact h3)

def renSt (f : Nat → Option Nat) : St → Option St
  | [] => some []
  | (t, v) :: r => match v.norm.ren f, renSt f r with
    | some v', some r' => some ((t, v') :: r')
    | _, _ => none
theorem renSt_get {f : Nat → Option Nat} : ∀ {st st' : St}, renSt f st = some st' → ∀ e, e ∈ mkL st' → ∃ e0, e0 ∈ mkL st ∧ e0.t = e.t ∧ e.p = [] ∧ e0.v.norm.ren f = some e.v
  | [], st', h, e, he => by simp [renSt] at h; subst h; cases he
  | (t, v) :: r, st', h, e, he => by
    simp only [renSt] at h
    split at h
    · rename_i v' r' h1 h2
      simp at h; subst h
      rcases List.mem_cons.1 he with rfl | he
      · exact ⟨⟨t, [], v⟩, List.mem_cons_self, rfl, rfl, h1⟩
      · obtain ⟨e0, g1, g2, g3, g4⟩ := renSt_get h2 e he
        exact ⟨e0, List.mem_cons_of_mem _ g1, g2, g3, g4⟩
    · cases h

def isIota : Nat → List Nat → Nat → Bool
  | 0, _, _ => true
  | k + 1, i :: r, j => Nat.beq i j && isIota k r (j + 1)
  | _ + 1, [], _ => false
theorem isIota_get : ∀ {k : Nat} {l : List Nat} {j : Nat}, isIota k l j = true → ∀ i, i < k → l[i]? = some (j + i)
  | 0, _, _, _, i, h => by omega
  | k + 1, [], _, h, _, _ => by simp [isIota] at h
  | k + 1, a :: r, j, h, i, hi => by
    simp only [isIota, Bool.and_eq_true] at h
    cases i with
    | zero => simp; exact Nat.eq_of_beq_eq_true h.1
    | succ i => simp; rw [isIota_get h.2 i (by omega)]; congr 1; omega

/-- choose: these temporaries, these things of ours, in this order (the first k stay where they are) -/
def reSt (k : Nat) (pi ts : List Nat) (st : St) (R : List Res) : Option (St × List Res) :=
  bif noDup pi && isIota k pi 0 then
    match sel (mkL st) ts, picks R pi with
    | some st1, some Rp => match renSt (idxOf pi) st1, renRs (idxOf pi) Rp with
      | some st', some R' => some (st', R')
      | _, _ => none
    | _, _ => none
  else none

theorem Sat.re {k : Nat} {pi ts : List Nat} (hk : C.h.length ≤ k) (h : reSt k pi ts st R = some (st', R')) (hs : Sat n C (mkL st) R a w) : Sat n C (mkL st') R' a w := by
  unfold reSt at h
  cases hb : (noDup pi && isIota k pi 0) with
  | false => rw [hb] at h; simp at h
  | true =>
    rw [hb] at h
    simp only [cond_true] at h
    simp only [Bool.and_eq_true] at hb
    split at h
    · rename_i st1 Rp e1 e2
      split at h
      · rename_i st2 R2 e3 e4
        simp at h
        obtain ⟨rfl, rfl⟩ := h
        obtain ⟨h1, h2, S, ρ, h3, h4⟩ := hs.sub (sel_mem e1)
        have hid : ∀ (i j : Nat) x, idxOf pi i = some j → ρ[i]? = some x → (hands ρ pi)[j]? = some x := (h3.start hb.1 e2 e4).2.1
        refine ⟨h1, h2, S, hands ρ pi, h3.pick hb.1 e2 e4 fun i v hv => ?_, fun e he => ?_⟩
        · have hi : i < C.h.length := (List.getElem?_eq_some_iff.1 hv).1
          have := isIota_get hb.2 i (by omega)
          simp only [Nat.zero_add] at this
          have hp := h3.pre i v hv
          simp [hands, this, List.getD_eq_getElem?_getD, hp]
        · obtain ⟨e0, g1, g2, g3, g4⟩ := renSt_get e3 e he
          have hp0 := mkL_flat g1
          obtain ⟨k1, _⟩ := h4 e0 g1
          obtain ⟨v, hv, hr⟩ := k1 (by rw [hp0]; exact pt_nil)
          refine ⟨fun _ => ⟨v, by rw [← g2]; exact hv, hr.norm.ren hid _ g4⟩, fun hn => absurd (by rw [g3]; exact pt_nil) hn⟩
      · cases h
    · cases h

/-- freeze: a slice of ours is given up -/
def D.frz (i : Nat) (sz : Nat) (rows : List (List Pd)) : D → D
  | .os j => bif Nat.beq i j then .p (.s rows) else .os j
  | .osb j lo n s => bif Nat.beq i j && Nat.beq s sz then .p (.s ((rows.drop lo).take n)) else .osb j lo n s
  | d => d
def AV.frz (i : Nat) (sz : Nat) (rows : List (List Pd)) : AV → AV
  | .d x => .d (x.frz i sz rows)
  | .agg ds => .agg (ds.map (D.frz i sz rows))
  | .tup l => .tup l
def Res.frz (i : Nat) (sz : Nat) (rows : List (List Pd)) : Res → Res
  | .box t cells => .box t (cells.map (D.frz i sz rows))
  | .vec t s cells => .vec t s (cells.map (D.frz i sz rows))
  | r => r
def frzSt (i : Nat) (st : St) (R : List Res) : Option (St × List Res) :=
  match R[i]? with
  | some (.sl _ sz rows) => some (st.map fun x => (x.1, x.2.frz i sz rows), (R.set i .non).map (Res.frz i sz rows))
  | _ => none

theorem mkL_map {f : AV → AV} : ∀ {st : St} {e : Ent}, e ∈ mkL (st.map fun x => (x.1, f x.2)) → ∃ e0, e0 ∈ mkL st ∧ e0.t = e.t ∧ e.p = [] ∧ e.v = f e0.v
  | [], e, h => by cases h
  | (t, v) :: r, e, h => by
    rcases List.mem_cons.1 h with rfl | h
    · exact ⟨⟨t, [], v⟩, List.mem_cons_self, rfl, rfl, rfl⟩
    · obtain ⟨e0, g1, g2⟩ := mkL_map h
      exact ⟨e0, List.mem_cons_of_mem _ g1, g2⟩

theorem Inv.frz {i e size : Nat} {rows : List (List Pd)} (h3 : Inv C S w ρ R) (hi : R[i]? = some (.sl e size rows)) :
    ∃ S', (∀ b, S b → S' b) ∧ Inv C S' w ρ ((R.set i .non).map (Res.frz i size rows)) ∧ ∀ v d, RdA S w ρ v d → RdA S' w ρ v (d.frz i size rows) := by
  have hil : i < ρ.length := by rw [h3.len]; exact (List.getElem?_eq_some_iff.1 hi).1
  have hρ : ρ[i]? = some ρ[i] := List.getElem?_eq_getElem hil
  have hF := h3.freeze hi hρ
  have hrow : ρ[i].oneCell' = true → RdP (fun b => S b ∨ (Res.sl e size rows).foot ρ[i] b) w ρ[i] (.s rows) := fun h1 => Res.ok0.frozen ((h3.ok i _ _ hi hρ).live h1)
  have hd : ∀ v d, Rd S w ρ v d → Rd (fun b => S b ∨ (Res.sl e size rows).foot ρ[i] b) w ρ v (d.frz i size rows) := by
    intro v d hr
    have hm := hr.mono (S' := fun b => S b ∨ (Res.sl e size rows).foot ρ[i] b) (w' := w) (ρ' := ρ) (fun _ h => .inl h) (fun _ _ => rfl) (Pre.refl _)
    cases d with
    | os j =>
      simp only [D.frz]
      cases hb : Nat.beq i j with
      | false => simpa using hm
      | true =>
        have := Nat.eq_of_beq_eq_true hb
        subst this
        have h1 := hr.one
        have := hr.os_inv
        rw [hρ] at this; cases this
        exact .p (hrow h1)
    | osb j lo m sz =>
      simp only [D.frz]
      cases hb : Nat.beq i j && Nat.beq sz size with
      | false => simpa using hm
      | true =>
        simp only [Bool.and_eq_true] at hb
        have := Nat.eq_of_beq_eq_true hb.1
        subst this
        have := Nat.eq_of_beq_eq_true hb.2
        subst this
        cases hr with
        | @osb _ _ _ _ q ad len cap g1 hl hc hq hq2 =>
          rw [hρ] at g1
          have g3 : ρ[i] = .slice ad len cap := by simpa using g1
          have hF := hrow (by rw [g3]; rfl)
          have hkk := (h3.ok i _ _ hi hρ).live (by rw [g3]; rfl)
          have hz : ∀ row, row ∈ rows → row.length = sz := by
            rcases hkk with ⟨_, h0⟩ | ⟨b, o, cp, vs, _, _, _, _, _, h0, _⟩
            · subst h0; simp
            · exact h0
          have g2 : ρ[i] = .slice ad len cap := by simpa using g1
          rw [g2] at hF
          have hcut := RdP.cut hF (l := lo) (h := lo + m) (by omega) hl hz
          rw [show (lo + m) - lo = m from by omega, List.drop_take, show (lo + m) - lo = m from by omega] at hcut
          have hF0 := hF
          rw [g2]
          simp only [cond_true]
          by_cases hlc : lo < cap
          · rw [if_neg (by omega)] at hcut
            rw [hq2 hlc]
            exact .p hcut
          · have hlc : cap = lo := by omega
            subst hlc
            have hn0 : m = 0 := by
              obtain ⟨_, _, hsf, hle, _⟩ := hF0.slice_form
              cases hsf; omega
            subst hn0
            simp only [List.take_zero]
            exact .p (.s _ ⟨0, 0, none⟩ _ 0 [] (fun _ _ => undef) (Nat.zero_le _) (by simp) (fun _ => by simp) (by simp) (by simp) (by simp))
    | _ => exact hm
  have ha : ∀ v d, RdA S w ρ v d → RdA (fun b => S b ∨ (Res.sl e size rows).foot ρ[i] b) w ρ v (d.frz i size rows) := by
    intro v d hr
    cases hr with
    | d h => exact .d (hd _ _ h)
    | agg h => exact .agg (h.map_right fun _ _ h => hd _ _ h)
    | tup hl h => exact .tup hl fun j x a hx ha => (h j x a hx ha).mono (fun _ h => .inl h) (fun _ _ => rfl) (Pre.refl _)
  have hget : ∀ (j : Nat) r, ((R.set i .non).map (Res.frz i size rows))[j]? = some r → ∃ r0, (R.set i .non)[j]? = some r0 ∧ r = r0.frz i size rows := by
    intro j r hj
    rw [List.getElem?_map] at hj
    obtain ⟨r0, g1, g2⟩ := mapE hj
    exact ⟨r0, g1, g2.symm⟩
  have hfoot : ∀ (r0 : Res) v, (r0.frz i size rows).foot v = r0.foot v := by intro r0 v; cases r0 <;> rfl
  refine ⟨_, fun _ h => .inl h, ⟨by rw [List.length_map]; exact hF.len, fun j r v hj hv => ?_, fun j k r r2 v v2 b hjk hj hk hv hv2 hf hf2 => ?_, fun j r v b hj hv hf => ?_, hF.sub, hF.sup, hF.frm, hF.size, hF.os, hF.tape, hF.output, hF.pre, hF.gl⟩, ha⟩
  · obtain ⟨r0, g1, rfl⟩ := hget j r hj
    have hok := hF.ok j r0 v g1 hv
    rw [List.getElem?_set] at g1
    split at g1
    · split at g1
      · cases g1; exact .inr trivial
      · cases g1
    · have hok0 := h3.ok j r0 v g1 hv
      cases r0 with
      | box t cells =>
        rcases hok0 with h0 | ⟨b, vs, rfl, hb, hc⟩
        · exact .inl h0
        · exact .inr ⟨b, vs, rfl, hb, hc.map_right fun _ _ h => hd _ _ h⟩
      | vec t s cells =>
        rcases hok0 with h0 | ⟨b, o, len, cap, vs, rfl, hb, hk, hc⟩
        · exact .inl h0
        · exact .inr ⟨b, o, len, cap, vs, rfl, hb, by rw [List.length_map]; exact hk, hc.map_right fun _ _ h => hd _ _ h⟩
      | _ => exact hok
  · obtain ⟨r0, g1, rfl⟩ := hget j r hj
    obtain ⟨r1, g2, rfl⟩ := hget k r2 hk
    rw [hfoot] at hf hf2
    exact hF.dis j k r0 r1 v v2 b hjk g1 g2 hv hv2 hf hf2
  · obtain ⟨r0, g1, rfl⟩ := hget j r hj
    rw [hfoot] at hf
    exact hF.own j r0 v b g1 hv hf

theorem Sat.frz {i : Nat} (h : frzSt i st R = some (st', R')) (hs : Sat n C (mkL st) R a w) : Sat n C (mkL st') R' a w := by
  unfold frzSt at h
  split at h
  · rename_i e size rows hi
    simp only [Option.some.injEq, Prod.mk.injEq] at h
    obtain ⟨rfl, rfl⟩ := h
    obtain ⟨h1, h2, S, ρ, h3, h4⟩ := hs
    obtain ⟨S', _, hI, ha⟩ := h3.frz hi
    refine ⟨h1, h2, S', ρ, hI, fun e he => ?_⟩
    obtain ⟨e0, g1, g2, g3, g4⟩ := mkL_map he
    have hp0 := mkL_flat g1
    obtain ⟨k1, _⟩ := h4 e0 g1
    obtain ⟨v, hv, hr⟩ := k1 (by rw [hp0]; exact pt_nil)
    refine ⟨fun _ => ⟨v, by rw [← g2]; exact hv, by rw [g4]; exact ha _ _ hr⟩, fun hn => absurd (by rw [g3]; exact pt_nil) hn⟩
  · cases h

/-- an empty slice of ours: who reads it may forget whose it is -/
def empSt (i : Nat) (st : St) (R : List Res) : Option (St × List Res) :=
  match R[i]? with
  | some (.sl _ sz []) => some (st.map fun x => (x.1, x.2.frz i sz []), R.map (Res.frz i sz []))
  | _ => none
theorem Inv.emp {i e size : Nat} (h3 : Inv C S w ρ R) (hi : R[i]? = some (.sl e size [])) :
    Inv C S w ρ (R.map (Res.frz i size [])) ∧ ∀ v d, RdA S w ρ v d → RdA S w ρ v (d.frz i size []) := by
  have hil : i < ρ.length := by rw [h3.len]; exact (List.getElem?_eq_some_iff.1 hi).1
  have hρ : ρ[i]? = some ρ[i] := List.getElem?_eq_getElem hil
  have nil : ∀ {a : Option Addr} {cap : Nat}, cap ≤ maxLen → (a = none → cap = 0) → RdP S w (.slice a 0 cap) (.s []) := fun hm hz => .s _ ⟨0, 0, none⟩ _ 0 [] (fun _ _ => undef) (Nat.zero_le _) hm hz (by simp) (by simp) (by simp)
  have hsl : ρ[i].oneCell' = true → ρ[i] = .slice none 0 0 ∨ ∃ b cap, ρ[i] = .slice (some b) 0 cap ∧ cap ≤ maxLen := fun h1 => by
    rcases (h3.ok i _ _ hi hρ).live h1 with ⟨h, _⟩ | ⟨b, o, cap, vs, h, _, _, h2, _⟩
    · exact .inl h
    · exact .inr ⟨_, _, h, h2⟩
  have hd : ∀ v d, Rd S w ρ v d → Rd S w ρ v (d.frz i size []) := by
    intro v d hr
    cases d with
    | os j =>
      simp only [D.frz]
      cases hb : Nat.beq i j with
      | false => simpa using hr
      | true =>
        have := Nat.eq_of_beq_eq_true hb
        subst this
        have h1 := hr.one
        have := hr.os_inv
        rw [hρ] at this; cases this
        rcases hsl h1 with h | ⟨b, cap, h, h2⟩
        · rw [h]; exact .p (nil (Nat.zero_le _) fun _ => rfl)
        · rw [h]; exact .p (nil h2 fun h => by cases h)
    | osb j lo m sz =>
      simp only [D.frz]
      cases hb : Nat.beq i j && Nat.beq sz size with
      | false => simpa using hr
      | true =>
        simp only [Bool.and_eq_true] at hb
        have := Nat.eq_of_beq_eq_true hb.1
        subst this
        cases hr with
        | @osb _ _ _ _ q ad len cap g1 hl hc hq hq2 =>
          rw [hρ] at g1
          have g3 : ρ[i] = .slice ad len cap := by simpa using g1
          rcases hsl (by rw [g3]; rfl) with h | ⟨b, cap', h, h2⟩
          · rw [h] at g3; cases g3
            have hm : m = 0 := by omega
            have hlo : lo = 0 := by omega
            subst hm; subst hlo
            exact .p (nil (Nat.zero_le _) fun _ => rfl)
          · rw [h] at g3; cases g3
            have hm : m = 0 := by omega
            subst hm
            exact .p (by simpa using nil (a := some (b.add q)) (cap := cap - lo) (by omega) (by simp))
    | _ => exact hr
  have ha : ∀ v d, RdA S w ρ v d → RdA S w ρ v (d.frz i size []) := by
    intro v d hr
    cases hr with
    | d h => exact .d (hd _ _ h)
    | agg h => exact .agg (h.map_right fun _ _ h => hd _ _ h)
    | tup hl h => exact .tup hl h
  have hget : ∀ (j : Nat) r, (R.map (Res.frz i size []))[j]? = some r → ∃ r0, R[j]? = some r0 ∧ r = r0.frz i size [] := by
    intro j r hj
    rw [List.getElem?_map] at hj
    obtain ⟨r0, g1, g2⟩ := mapE hj
    exact ⟨r0, g1, g2.symm⟩
  have hfoot : ∀ (r0 : Res) v, (r0.frz i size []).foot v = r0.foot v := by intro r0 v; cases r0 <;> rfl
  refine ⟨⟨by rw [List.length_map]; exact h3.len, fun j r v hj hv => ?_, fun j k r r2 v v2 b hjk hj hk hv hv2 hf hf2 => ?_, fun j r v b hj hv hf => ?_, h3.sub, h3.sup, h3.frm, h3.size, h3.os, h3.tape, h3.output, h3.pre, h3.gl⟩, ha⟩
  · obtain ⟨r0, g1, rfl⟩ := hget j r hj
    have hok := h3.ok j r0 v g1 hv
    cases r0 with
    | box t cells =>
      rcases hok with h0 | ⟨b, vs, rfl, hb, hc⟩
      · exact .inl h0
      · exact .inr ⟨b, vs, rfl, hb, hc.map_right fun _ _ h => hd _ _ h⟩
    | vec t s cells =>
      rcases hok with h0 | ⟨b, o, len, cap, vs, rfl, hb, hk, hc⟩
      · exact .inl h0
      · exact .inr ⟨b, o, len, cap, vs, rfl, hb, by rw [List.length_map]; exact hk, hc.map_right fun _ _ h => hd _ _ h⟩
    | _ => exact hok
  · obtain ⟨r0, g1, rfl⟩ := hget j r hj
    obtain ⟨r1, g2, rfl⟩ := hget k r2 hk
    rw [hfoot] at hf hf2
    exact h3.dis j k r0 r1 v v2 b hjk g1 g2 hv hv2 hf hf2
  · obtain ⟨r0, g1, rfl⟩ := hget j r hj
    rw [hfoot] at hf
    exact h3.own j r0 v b g1 hv hf
theorem Sat.emp {i : Nat} (h : empSt i st R = some (st', R')) (hs : Sat n C (mkL st) R a w) : Sat n C (mkL st') R' a w := by
  unfold empSt at h
  split at h
  · rename_i e size hi
    simp only [Option.some.injEq, Prod.mk.injEq] at h
    obtain ⟨rfl, rfl⟩ := h
    obtain ⟨h1, h2, S, ρ, h3, h4⟩ := hs
    obtain ⟨hI, ha⟩ := h3.emp hi
    refine ⟨h1, h2, S, ρ, hI, fun e he => ?_⟩
    obtain ⟨e0, g1, g2, g3, g4⟩ := mkL_map he
    have hp0 := mkL_flat g1
    obtain ⟨k1, _⟩ := h4 e0 g1
    obtain ⟨v, hv, hr⟩ := k1 (by rw [hp0]; exact pt_nil)
    refine ⟨fun _ => ⟨v, by rw [← g2]; exact hv, by rw [g4]; exact ha _ _ hr⟩, fun hn => absurd (by rw [g3]; exact pt_nil) hn⟩
  · cases h

/-- cells that lead to nothing of ours: a plain own slice -/
def vslSt (i : Nat) (st : St) (R : List Res) : Option (St × List Res) :=
  match R[i]? with
  | some (.vec e s cells) => (dPs cells).map fun ps => (st, R.set i (.sl e s (chunks s (cells.length / s) ps)))
  | _ => none
theorem Sat.vsl {i : Nat} (h : vslSt i st R = some (st', R')) (hs : Sat n C (mkL st) R a w) : Sat n C (mkL st') R' a w := by
  unfold vslSt at h
  split at h
  · rename_i e s cells hi
    obtain ⟨ps, hp, h⟩ := mapE h
    simp only [Prod.mk.injEq] at h
    obtain ⟨rfl, rfl⟩ := h
    obtain ⟨h1, h2, S, ρ, h3, h4⟩ := hs
    exact ⟨h1, h2, S, ρ, h3.swapV hi (fun v _ _ hv => vOk.rows hv fun xs hx => dPs_ok hp hx) (fun v b hf => foot_vec.2 hf), h4⟩
  · cases h
mutual
/-- a box is given up: it is read for ever, where a pointer or a closure leads to it -/
def D.bx (i : Nat) (ps : List Pd) : D → D
  | .o j off => bif Nat.beq i j then .ip (ps.drop off) else .o j off
  | .fn f a b => .fn f (D.bxL i ps a) (D.bxL i ps b)
  | d => d
def D.bxL (i : Nat) (ps : List Pd) : List D → List D
  | [] => []
  | d :: r => D.bx i ps d :: D.bxL i ps r
end
theorem D.bxL_map {i : Nat} {ps : List Pd} : ∀ {l : List D}, D.bxL i ps l = l.map (D.bx i ps)
  | [] => rfl
  | d :: r => by simp only [D.bxL, List.map_cons, D.bxL_map]
def AV.bx (i : Nat) (ps : List Pd) : AV → AV
  | .d x => .d (x.bx i ps)
  | .agg ds => .agg (ds.map (D.bx i ps))
  | .tup l => .tup l
def Res.bx (i : Nat) (ps : List Pd) : Res → Res
  | .box t cells => .box t (cells.map (D.bx i ps))
  | .vec t s cells => .vec t s (cells.map (D.bx i ps))
  | r => r
def bxSt (i : Nat) (st : St) (R : List Res) : Option (St × List Res) :=
  match R[i]? with
  | some (.box _ cells) => (dPs cells).map fun ps => (st.map fun x => (x.1, x.2.bx i ps), (R.set i .non).map (Res.bx i ps))
  | _ => none
theorem Inv.bx {i t : Nat} {cells : List D} {ps : List Pd} (h3 : Inv C S w ρ R) (hi : R[i]? = some (.box t cells)) (hp : dPs cells = some ps) :
    ∃ S', (∀ b, S b → S' b) ∧ Inv C S' w ρ ((R.set i .non).map (Res.bx i ps)) ∧ ∀ v d, RdA S w ρ v d → RdA S' w ρ v (d.bx i ps) := by
  have hil : i < ρ.length := by rw [h3.len]; exact (List.getElem?_eq_some_iff.1 hi).1
  have hρ : ρ[i]? = some ρ[i] := List.getElem?_eq_getElem hil
  have hF := h3.freeze hi hρ
  have hcell : ∀ b off, ρ[i] = .pointer (some ⟨b, 0, none⟩) → CellsP (fun k => S k ∨ (Res.box t cells).foot ρ[i] k) w ⟨b, off, none⟩ (ps.drop off) := by
    intro b off hb j d hj
    rw [hb] at hρ
    obtain ⟨vs, h1, h2⟩ := box_cells h3 hi hρ
    rw [List.getElem?_drop] at hj
    obtain ⟨x, hx, hr⟩ := (dPs_ok hp h2).get hj
    refine ⟨x, .inr (by rw [hb]; rfl), ?_, hr.mono (fun _ h => .inl h) fun _ _ => rfl⟩
    rw [add_mk, cell_blk h1]
    simpa using hx
  have hd : ∀ v d, Rd S w ρ v d → Rd (fun k => S k ∨ (Res.box t cells).foot ρ[i] k) w ρ v (d.bx i ps) := by
    intro v d hr
    induction hr with
    | @o j b off h =>
      simp only [D.bx]
      cases hb : Nat.beq i j with
      | false => exact .o h
      | true =>
        have := Nat.eq_of_beq_eq_true hb
        subst this
        rw [hρ] at h
        simp only [Option.some.injEq] at h
        exact .ip (hcell b off h)
    | @fn f xs cs first caps hl hm _ _ ih1 ih2 =>
      simp only [D.bx, D.bxL_map]
      refine .fn (by rw [List.length_map]; exact hl) (by rw [List.length_map]; exact hm) (fun j x d hx hd => ?_) (fun j x d hx hd => ?_)
      · rw [List.getElem?_map] at hd
        obtain ⟨d0, g1, rfl⟩ := mapE hd
        exact ih1 j x d0 hx g1
      · rw [List.getElem?_map] at hd
        obtain ⟨d0, g1, rfl⟩ := mapE hd
        exact ih2 j x d0 hx g1
    | p h => exact .p (h.mono (fun _ h => .inl h) fun _ _ => rfl)
    | os h h1 => exact .os h h1
    | oe h => exact .oe h
    | osb h a b c d => exact .osb h a b c d
    | oi h a b => exact .oi h a b
    | ip h => exact .ip (h.mono (fun _ h => .inl h) fun _ _ => rfl)
    | any h => exact .any h
    | nq h => exact .nq h
    | fb hl h => exact .fb hl fun j x d h1 h2 => (h j x d h1 h2).mono (fun _ h => .inl h) fun _ _ => rfl
  have ha : ∀ v d, RdA S w ρ v d → RdA (fun k => S k ∨ (Res.box t cells).foot ρ[i] k) w ρ v (d.bx i ps) := by
    intro v d hr
    cases hr with
    | d h => exact .d (hd _ _ h)
    | agg h => exact .agg (h.map_right fun _ _ h => hd _ _ h)
    | tup hl h => exact .tup hl fun j x a hx ha => (h j x a hx ha).mono (fun _ h => .inl h) (fun _ _ => rfl) (Pre.refl _)
  have hget : ∀ (j : Nat) r, ((R.set i .non).map (Res.bx i ps))[j]? = some r → ∃ r0, (R.set i .non)[j]? = some r0 ∧ r = r0.bx i ps := by
    intro j r hj
    rw [List.getElem?_map] at hj
    obtain ⟨r0, g1, g2⟩ := mapE hj
    exact ⟨r0, g1, g2.symm⟩
  have hfoot : ∀ (r0 : Res) v, (r0.bx i ps).foot v = r0.foot v := by intro r0 v; cases r0 <;> rfl
  refine ⟨_, fun _ h => .inl h, ⟨by rw [List.length_map]; exact hF.len, fun j r v hj hv => ?_, fun j k r r2 v v2 b hjk hj hk hv hv2 hf hf2 => ?_, fun j r v b hj hv hf => ?_, hF.sub, hF.sup, hF.frm, hF.size, hF.os, hF.tape, hF.output, hF.pre, hF.gl⟩, ha⟩
  · obtain ⟨r0, g1, rfl⟩ := hget j r hj
    have hok := hF.ok j r0 v g1 hv
    rw [List.getElem?_set] at g1
    split at g1
    · split at g1
      · cases g1; exact .inr trivial
      · cases g1
    · have hok0 := h3.ok j r0 v g1 hv
      cases r0 with
      | box t cells =>
        rcases hok0 with h0 | ⟨b, vs, rfl, hb, hc⟩
        · exact .inl h0
        · exact .inr ⟨b, vs, rfl, hb, hc.map_right fun _ _ h => hd _ _ h⟩
      | vec t s cells =>
        rcases hok0 with h0 | ⟨b, o, len, cap, vs, rfl, hb, hk, hc⟩
        · exact .inl h0
        · exact .inr ⟨b, o, len, cap, vs, rfl, hb, by rw [List.length_map]; exact hk, hc.map_right fun _ _ h => hd _ _ h⟩
      | _ => exact hok
  · obtain ⟨r0, g1, rfl⟩ := hget j r hj
    obtain ⟨r1, g2, rfl⟩ := hget k r2 hk
    rw [hfoot] at hf hf2
    exact hF.dis j k r0 r1 v v2 b hjk g1 g2 hv hv2 hf hf2
  · obtain ⟨r0, g1, rfl⟩ := hget j r hj
    rw [hfoot] at hf
    exact hF.own j r0 v b g1 hv hf
theorem Sat.bx {i : Nat} (h : bxSt i st R = some (st', R')) (hs : Sat n C (mkL st) R a w) : Sat n C (mkL st') R' a w := by
  unfold bxSt at h
  split at h
  · rename_i t cells hi
    obtain ⟨ps, hp, h⟩ := mapE h
    simp only [Prod.mk.injEq] at h
    obtain ⟨rfl, rfl⟩ := h
    obtain ⟨h1, h2, S, ρ, h3, h4⟩ := hs
    obtain ⟨S', _, hI, ha⟩ := h3.bx hi hp
    refine ⟨h1, h2, S', ρ, hI, fun e he => ?_⟩
    obtain ⟨e0, g1, g2, g3, g4⟩ := mkL_map he
    have hp0 := mkL_flat g1
    obtain ⟨k1, _⟩ := h4 e0 g1
    obtain ⟨v, hv, hr⟩ := k1 (by rw [hp0]; exact pt_nil)
    refine ⟨fun _ => ⟨v, by rw [← g2]; exact hv, by rw [g4]; exact ha _ _ hr⟩, fun hn => absurd (by rw [g3]; exact pt_nil) hn⟩
  · cases h
/-- an exact nil becomes an empty slice of ours -/
def setSt (t : Nat) (v : AV) : St → St
  | [] => []
  | (u, x) :: r => bif Nat.beq u t then (u, v) :: setSt t v r else (u, x) :: setSt t v r
def isNilAt (t : Nat) : St → Bool
  | [] => true
  | (u, x) :: r => (!(Nat.beq u t) || match x with | .d (.p (.v (.slice none 0 0))) => true | _ => false) && isNilAt t r
def ownSt (t e size : Nat) (st : St) (R : List Res) : Option (St × List Res) :=
  bif isNilAt t st then some (setSt t (.d (.os R.length)) st, R ++ [.sl e size []]) else none
theorem setSt_mem {t : Nat} {v : AV} : ∀ {st : St} {e : Ent}, e ∈ mkL (setSt t v st) → (e.t = t ∧ e.p = [] ∧ e.v = v ∧ ∃ x, ⟨t, [], x⟩ ∈ mkL st ∧ (isNilAt t st = true → ∃ y, x = y ∧ (match y with | .d (.p (.v (.slice none 0 0))) => true | _ => false) = true)) ∨ e ∈ mkL st
  | [], e, h => by cases h
  | (u, x) :: r, e, h => by
    simp only [setSt] at h
    cases hb : Nat.beq u t with
    | true =>
      rw [hb] at h
      simp only [cond_true] at h
      have := Nat.eq_of_beq_eq_true hb
      subst this
      rcases List.mem_cons.1 h with rfl | h
      · refine .inl ⟨rfl, rfl, rfl, x, List.mem_cons_self, fun hn => ⟨x, rfl, ?_⟩⟩
        simp only [isNilAt, hb, Bool.not_true, Bool.false_or, Bool.and_eq_true] at hn
        exact hn.1
      · rcases setSt_mem h with ⟨g1, g2, g3, y, g4, g5⟩ | h
        · refine .inl ⟨g1, g2, g3, y, List.mem_cons_of_mem _ g4, fun hn => g5 ?_⟩
          simp only [isNilAt, Bool.and_eq_true] at hn
          exact hn.2
        · exact .inr (List.mem_cons_of_mem _ h)
    | false =>
      rw [hb] at h
      simp only [cond_false] at h
      rcases List.mem_cons.1 h with rfl | h
      · exact .inr List.mem_cons_self
      · rcases setSt_mem h with ⟨g1, g2, g3, y, g4, g5⟩ | h
        · refine .inl ⟨g1, g2, g3, y, List.mem_cons_of_mem _ g4, fun hn => g5 ?_⟩
          simp only [isNilAt, Bool.and_eq_true] at hn
          exact hn.2
        · exact .inr (List.mem_cons_of_mem _ h)
theorem Sat.own {t e size : Nat} (h : ownSt t e size st R = some (st', R')) (hs : Sat n C (mkL st) R a w) : Sat n C (mkL st') R' a w := by
  unfold ownSt at h
  cases hb : isNilAt t st with
  | false => rw [hb] at h; simp at h
  | true =>
    rw [hb] at h
    simp at h
    obtain ⟨rfl, rfl⟩ := h
    obtain ⟨h1, h2, S, ρ, h3, h4⟩ := hs
    refine ⟨h1, h2, S, ρ ++ [.slice none 0 0], h3.push (.sl e size []) (.slice none 0 0) (fun _ _ => rfl) (Nat.le_refl _) rfl ⟨rfl, fun _ => by grind⟩ rfl (.inr (.inl ⟨rfl, rfl⟩)) (by simp [Res.foot]), fun x hx => ?_⟩
    rcases setSt_mem hx with ⟨g1, g2, g3, y, g4, g5⟩ | hx
    · obtain ⟨z, rfl, hz⟩ := g5 hb
      obtain ⟨v, hv, hr⟩ := (h4 _ g4).1 pt_nil
      split at hz
      · have := hr.exact_inv
        subst this
        refine ⟨fun _ => ⟨.slice none 0 0, by rw [g1]; exact hv, by rw [g3]; exact .d (.os (by rw [← h3.len]; simp) rfl)⟩, fun hn => absurd (by rw [g2]; exact pt_nil) hn⟩
      · cases hz
    · obtain ⟨k1, k2⟩ := h4 x hx
      refine ⟨fun hp => ?_, k2⟩
      obtain ⟨v, hv, hr⟩ := k1 hp
      exact ⟨v, hv, hr.mono (fun _ h => h) (fun _ _ => rfl) (Pre.append _ _)⟩

/-! ### other readings of the same values -/
def AV.mapD (f : D → D) : AV → AV
  | .d x => .d (f x)
  | .agg ds => .agg (ds.map f)
  | .tup l => .tup l
def Res.mapD (f : D → D) : Res → Res
  | .box t cells => .box t (cells.map f)
  | r => r
theorem Res.mapD_foot (f : D → D) (r : Res) (v : Value) : (r.mapD f).foot v = r.foot v := by cases r <;> rfl

theorem Inv.mapD (h : Inv C S w ρ R) {f : D → D} (hf : ∀ v d, Rd S w ρ v d → Rd S w ρ v (f d)) : Inv C S w ρ (R.map (Res.mapD f)) := by
  have hget : ∀ (j : Nat) r, (R.map (Res.mapD f))[j]? = some r → ∃ r0, R[j]? = some r0 ∧ r = r0.mapD f := by
    grind
  refine ⟨by rw [List.length_map]; exact h.len, fun j r v hj hv => ?_, fun j k r r2 v v2 b hjk hj hk hv hv2 hf hf2 => ?_, fun j r v b hj hv hf => ?_, h.sub, h.sup, h.frm, h.size, h.os, h.tape, h.output, h.pre, h.gl⟩
  · obtain ⟨r0, g1, rfl⟩ := hget j r hj
    have hok := h.ok j r0 v g1 hv
    cases r0 with
    | box t cells =>
      rcases hok with h0 | ⟨b, vs, rfl, hb, hc⟩
      · exact .inl h0
      · exact .inr ⟨b, vs, rfl, hb, hc.map_right fun _ _ h => hf _ _ h⟩
    | _ => exact hok
  · obtain ⟨r0, g1, rfl⟩ := hget j r hj
    obtain ⟨r1, g2, rfl⟩ := hget k r2 hk
    rw [Res.mapD_foot] at hf hf2
    exact h.dis j k r0 r1 v v2 b hjk g1 g2 hv hv2 hf hf2
  · obtain ⟨r0, g1, rfl⟩ := hget j r hj
    rw [Res.mapD_foot] at hf
    exact h.own j r0 v b g1 hv hf

theorem RdA.mapD {f : D → D} (hf : ∀ v d, Rd S w ρ v d → Rd S w ρ v (f d)) {v : Value} {x : AV} (h : RdA S w ρ v x) : RdA S w ρ v (x.mapD f) := by
  cases h with
  | d h => exact .d (hf _ _ h)
  | agg h => exact .agg (h.map_right fun _ _ h => hf _ _ h)
  | tup hl h => exact .tup hl h

/-- a slice of ours takes another number -/
def D.mv (i j : Nat) : D → D
  | .os k => bif Nat.beq i k then .os j else .os k
  | d => d
def mvSt (i : Nat) (st : St) (R : List Res) : Option (St × List Res) :=
  match R[i]? with
  | some (.sl e size rows) => some (st.map fun x => (x.1, x.2.mapD (D.mv i R.length)), (R.set i .non ++ [Res.sl e size rows]).map (Res.mapD (D.mv i R.length)))
  | _ => none

theorem Sat.mv {i : Nat} (h : mvSt i st R = some (st', R')) (hs : Sat n C (mkL st) R a w) : Sat n C (mkL st') R' a w := by
  unfold mvSt at h
  split at h
  · rename_i e size rows hi
    simp only [Option.some.injEq, Prod.mk.injEq] at h
    obtain ⟨rfl, rfl⟩ := h
    obtain ⟨h1, h2, S, ρ, h3, h4⟩ := hs
    obtain ⟨v, hv⟩ := h3.rho hi
    have hM : Inv C S w (ρ ++ [v]) (R.set i .non ++ [Res.sl e size rows]) := h3.move (r' := .sl e size rows) (v' := v) hi hv (fun _ _ _ => rfl) (Nat.le_refl _) rfl ⟨rfl, fun _ => by grind⟩ rfl (fun k hk => .inl hk)
      ((h3.ok i _ v hi hv).mono (fun _ h => h) (fun _ _ => rfl) (Pre.append _ _) (fun _ _ => rfl))
    have hd : ∀ x d, Rd S w (ρ ++ [v]) x d → Rd S w (ρ ++ [v]) x (d.mv i R.length) := by
      intro x d hr
      cases d with
      | os k =>
        simp only [D.mv]
        cases hb : Nat.beq i k with
        | false => exact hr
        | true =>
          have := Nat.eq_of_beq_eq_true hb
          subst this
          cases hr with
          | os g1 g2 =>
            have : (ρ ++ [v])[i]? = some v := Pre.append _ _ _ _ hv
            rw [this] at g1; cases g1
            exact .os (by rw [← h3.len]; simp) g2
      | _ => exact hr
    refine ⟨h1, h2, S, ρ ++ [v], hM.mapD hd, fun x hx => ?_⟩
    obtain ⟨e0, g1, g2, g3, g4⟩ := mkL_map hx
    have hp0 := mkL_flat g1
    obtain ⟨k1, _⟩ := h4 e0 g1
    obtain ⟨y, hy, hr⟩ := k1 (by rw [hp0]; exact pt_nil)
    refine ⟨fun _ => ⟨y, by rw [← g2]; exact hy, by rw [g4]; exact (hr.mono (fun _ h => h) (fun _ _ => rfl) (Pre.append _ _)).mapD hd⟩, fun hn => absurd (by rw [g3]; exact pt_nil) hn⟩
  · cases h

/-- an exact nil in a box becomes an empty slice of ours -/
def isNilD : D → Bool
  | .p (.v (.slice none 0 0)) => true
  | _ => false
def ownbSt (i j e size : Nat) (st : St) (R : List Res) : Option (St × List Res) :=
  match R[i]? with
  | some (.box t cells) => match cells[j]? with
    | some d => bif isNilD d then some (st, R.set i (.box t (cells.set j (.os R.length))) ++ [.sl e size []]) else none
    | none => none
  | _ => none

theorem Inv.swap {r r' : Res} {i : Nat} (h : Inv C S w ρ R) (hi : R[i]? = some r) (hok : ∀ v, r.ok S w ρ v → r'.ok S w ρ v) (hf : ∀ v, r'.foot v = r.foot v) : Inv C S w ρ (R.set i r') := by
  have key : ∀ (j : Nat) r1, (R.set i r')[j]? = some r1 → ∃ r0, R[j]? = some r0 ∧ (∀ v, r0.ok S w ρ v → r1.ok S w ρ v) ∧ ∀ v, r1.foot v = r0.foot v := by
    grind
  refine ⟨by rw [List.length_set]; exact h.len, fun j r1 v hj hv => ?_, fun j k r1 r2 v v2 b hjk hj hk hv hv2 hf hf2 => ?_, fun j r1 v b hj hv hf => ?_, h.sub, h.sup, h.frm, h.size, h.os, h.tape, h.output, h.pre, h.gl⟩
  · obtain ⟨r0, g1, g2, _⟩ := key j r1 hj
    exact g2 v (h.ok j r0 v g1 hv)
  · obtain ⟨r0, g1, _, g3⟩ := key j r1 hj
    obtain ⟨q0, m1, _, m3⟩ := key k r2 hk
    rw [g3] at hf; rw [m3] at hf2
    exact h.dis j k r0 q0 v v2 b hjk g1 m1 hv hv2 hf hf2
  · obtain ⟨r0, g1, _, g3⟩ := key j r1 hj
    rw [g3] at hf
    exact h.own j r0 v b g1 hv hf

theorem rd_nil_own {d : D} {x : Value} (hn : isNilD d = true) (h : Rd S w ρ x d) (hl : ρ.length = R.length) : Rd S w (ρ ++ [.slice none 0 0]) x (.os R.length) := by
  unfold isNilD at hn
  split at hn
  · cases h with
    | p h =>
      cases h
      exact .os (by rw [← hl]; simp) rfl
  · cases hn

theorem Sat.ownb {i j e size : Nat} (h : ownbSt i j e size st R = some (st', R')) (hs : Sat n C (mkL st) R a w) : Sat n C (mkL st') R' a w := by
  unfold ownbSt at h
  split at h
  · rename_i t cells hi
    split at h
    · rename_i d hj
      cases hb : isNilD d with
      | false => rw [hb] at h; simp at h
      | true =>
        rw [hb] at h
        simp at h
        obtain ⟨rfl, rfl⟩ := h
        obtain ⟨h1, h2, S, ρ, h3, h4⟩ := hs
        have hP := h3.push (w' := w) (.sl e size []) (.slice none 0 0) (fun _ _ => rfl) (Nat.le_refl _) rfl ⟨rfl, fun _ => by grind⟩ rfl (.inr (.inl ⟨rfl, rfl⟩)) (by simp [Res.foot])
        have hil : i < R.length := (List.getElem?_eq_some_iff.1 hi).1
        have hi' : (R ++ [Res.sl e size []])[i]? = some (.box t cells) := by rw [List.getElem?_append_left hil]; exact hi
        have hlen := h3.len
        have hQ := hP.swap (r' := .box t (cells.set j (.os R.length))) hi' (fun v hv => by
          rcases hv with h0 | ⟨b, vs, rfl, hb', hc⟩
          · exact .inl h0
          · refine .inr ⟨b, vs, rfl, hb', All2.of_get (by rw [List.length_set]; exact hc.length) fun k x d' hx hd => ?_⟩
            rw [List.getElem?_set] at hd
            split at hd
            · rename_i e'
              subst e'
              split at hd
              · cases hd
                have hr := hc.both hx hj
                unfold isNilD at hb
                split at hb
                · cases hr with
                  | p hr => cases hr; exact .os (by rw [← hlen]; simp) rfl
                · cases hb
              · cases hd
            · exact hc.both hx hd) (fun _ => rfl)
        refine ⟨h1, h2, S, ρ ++ [.slice none 0 0], by rw [List.set_append_left _ _ hil] at hQ; exact hQ, fun x hx => ?_⟩
        obtain ⟨k1, k2⟩ := h4 x hx
        refine ⟨fun hp => ?_, k2⟩
        obtain ⟨v, hv, hr⟩ := k1 hp
        exact ⟨v, hv, hr.mono (fun _ h => h) (fun _ _ => rfl) (Pre.append _ _)⟩
    · cases h
  · cases h

/-- an exact nil in a variable's value becomes an empty slice of ours -/
def nilAt (j : Nat) : AV → Bool
  | .agg ds => match ds[j]? with
    | some d => isNilD d
    | none => false
  | _ => false
def setAt (j : Nat) (d : D) : AV → AV
  | .agg ds => .agg (ds.set j d)
  | v => v
def owntSt (t j e size : Nat) (st : St) (R : List Res) : Option (St × List Res) :=
  bif st.all (fun x => !(Nat.beq x.1 t) || nilAt j x.2) then some (st.map fun x => (x.1, bif Nat.beq x.1 t then setAt j (.os R.length) x.2 else x.2), R ++ [.sl e size []]) else none
theorem mkL_mem : ∀ {st : St} {e : Ent}, e ∈ mkL st → (e.t, e.v) ∈ st ∧ e.p = []
  | [], e, h => by cases h
  | (t, v) :: r, e, h => by
    rcases List.mem_cons.1 h with rfl | h
    · exact ⟨List.mem_cons_self, rfl⟩
    · exact ⟨List.mem_cons_of_mem _ (mkL_mem h).1, (mkL_mem h).2⟩
theorem mkL_map2 {f : Nat × AV → Nat × AV} (hf : ∀ x, (f x).1 = x.1) : ∀ {st : St} {e : Ent}, e ∈ mkL (st.map f) → ∃ v, (e.t, v) ∈ st ∧ (⟨e.t, [], v⟩ : Ent) ∈ mkL st ∧ e.p = [] ∧ e.v = (f (e.t, v)).2
  | [], e, h => by cases h
  | (t, v) :: r, e, h => by
    have h : e ∈ (⟨(f (t, v)).1, [], (f (t, v)).2⟩ : Ent) :: mkL (r.map f) := h
    rcases List.mem_cons.1 h with rfl | h
    · have := hf (t, v)
      simp only at this
      refine ⟨v, ?_, ?_, rfl, ?_⟩ <;> simp only [this]
      · exact List.mem_cons_self
      · exact List.mem_cons_self
    · obtain ⟨u, g1, g2, g3, g4⟩ := mkL_map2 hf h
      exact ⟨u, List.mem_cons_of_mem _ g1, List.mem_cons_of_mem _ g2, g3, g4⟩
theorem Sat.ownt {t j e size : Nat} (h : owntSt t j e size st R = some (st', R')) (hs : Sat n C (mkL st) R a w) : Sat n C (mkL st') R' a w := by
  unfold owntSt at h
  cases hb : (st.all fun x => !(Nat.beq x.1 t) || nilAt j x.2) with
  | false => rw [hb] at h; simp at h
  | true =>
    rw [hb] at h
    simp only [cond_true, Option.some.injEq, Prod.mk.injEq] at h
    obtain ⟨rfl, rfl⟩ := h
    obtain ⟨h1, h2, S, ρ, h3, h4⟩ := hs
    refine ⟨h1, h2, S, ρ ++ [.slice none 0 0], h3.push (.sl e size []) (.slice none 0 0) (fun _ _ => rfl) (Nat.le_refl _) rfl ⟨rfl, fun _ => by grind⟩ rfl (.inr (.inl ⟨rfl, rfl⟩)) (by simp [Res.foot]), fun x hx => ?_⟩
    obtain ⟨u, g1, g2, g3, g4⟩ := mkL_map2 (f := fun x => (x.1, bif Nat.beq x.1 t then setAt j (.os R.length) x.2 else x.2)) (fun _ => rfl) hx
    obtain ⟨v, hv, hr⟩ := (h4 _ g2).1 pt_nil
    refine ⟨fun _ => ⟨v, hv, ?_⟩, fun hn => absurd (by rw [g3]; exact pt_nil) hn⟩
    rw [g4]
    simp only at hr ⊢
    cases hc : Nat.beq x.t t with
    | false => simp only [cond_false]; exact hr.mono (fun _ h => h) (fun _ _ => rfl) (Pre.append _ _)
    | true =>
      simp only [cond_true]
      have hn := (List.all_eq_true.1 hb) _ g1
      simp only [hc, Bool.not_true, Bool.false_or] at hn
      cases hr with
      | agg hr =>
        rename_i vs ds
        simp only [nilAt] at hn
        simp only [setAt]
        split at hn
        · rename_i d hj
          refine .agg (All2.of_get (by rw [List.length_set]; exact hr.length) fun k y d' hy hd => ?_)
          rw [List.getElem?_set] at hd
          split at hd
          · rename_i e'
            subst e'
            split at hd
            · cases hd
              exact rd_nil_own hn (hr.both hy hj) h3.len
            · cases hd
          · exact (hr.both hy hd).mono (fun _ h => h) (fun _ _ => rfl) (Pre.append _ _)
        · cases hn
      | _ => simp [nilAt] at hn

/-- before code: choose, freeze, own -/
theorem W_re {c : Code} {k : Nat} (pi ts : List Nat) (st' : St) (R' : List Res) (hk : C.h.length ≤ k) (h : reSt k pi ts st R = some (st', R')) (hW : W ro P n C Q c st' R') : W ro P n C Q c st R := fun a w hs => hW a w (hs.re hk h)
theorem W_frz {c : Code} (i : Nat) (st' : St) (R' : List Res) (h : frzSt i st R = some (st', R')) (hW : W ro P n C Q c st' R') : W ro P n C Q c st R := fun a w hs => hW a w (hs.frz h)
theorem W_own {c : Code} (t e size : Nat) (st' : St) (R' : List Res) (h : ownSt t e size st R = some (st', R')) (hW : W ro P n C Q c st' R') : W ro P n C Q c st R := fun a w hs => hW a w (hs.own h)
end
end Go.SL
