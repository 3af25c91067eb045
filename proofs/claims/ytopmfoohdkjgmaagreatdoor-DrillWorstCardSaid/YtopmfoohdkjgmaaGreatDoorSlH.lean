/-
  The logic, eighth part: a call: what the callee is handed, what comes back.
-/
import Derived.Test.YtopmfoohdkjgmaaGreatDoorSlG
namespace Go.SL

section
variable {P : Program} {C : Ctx} {S S' : Nat → Prop} {w w' : World} {ρ ρ' : List Value} {R : List Res}

theorem renL_get {f : Nat → Option Nat} : ∀ {l l' : List D}, D.renL f l = some l' → l'.length = l.length ∧ ∀ (j : Nat) d', l'[j]? = some d' → ∃ d, l[j]? = some d ∧ D.ren f d = some d'
  | [], l', h => by simp [D.renL] at h; subst h; simp
  | d :: r, l', h => by
    simp only [D.renL] at h
    split at h
    · rename_i d1 r1 h1 h2
      simp at h; subst h
      obtain ⟨g1, g2⟩ := renL_get h2
      refine ⟨by simp [g1], fun j d' hj => ?_⟩
      cases j with
      | zero => simp at hj; subst hj; exact ⟨d, rfl, h1⟩
      | succ j => simp at hj ⊢; exact g2 j d' hj
    · cases h

theorem Rd.ren {f : Nat → Option Nat} (hf : ∀ (i j : Nat) x, f i = some j → ρ[i]? = some x → ρ'[j]? = some x) {x : Value} {d : D} (h : Rd S w ρ x d) :
    ∀ d', D.ren f d = some d' → Rd S w ρ' x d' := by
  induction h with
  | p h => intro d' e; simp [D.ren] at e; subst e; exact .p h
  | o h =>
    intro d' e
    simp only [D.ren] at e
    split at e
    · rename_i j hj
      simp at e; subst e
      exact .o (hf _ _ _ hj h)
    · cases e
  | os h h1 =>
    intro d' e
    simp only [D.ren] at e
    split at e
    · rename_i j hj
      simp at e; subst e
      exact .os (hf _ _ _ hj h) h1
    · cases e
  | oe h =>
    intro d' e
    simp only [D.ren] at e
    split at e
    · rename_i j hj
      simp at e; subst e
      exact .oe (hf _ _ _ hj h)
    · cases e
  | osb h hl hc hq hq2 =>
    intro d' e
    simp only [D.ren] at e
    split at e
    · rename_i j hj
      simp at e; subst e
      exact .osb (hf _ _ _ hj h) hl hc hq hq2
    · cases e
  | any h1 => intro d' e; simp [D.ren] at e; subst e; exact .any h1
  | nq h => intro d' e; simp [D.ren] at e; subst e; exact .nq h
  | oi h hx h1 =>
    intro d' e
    simp only [D.ren] at e
    split at e
    · rename_i j q hj hq
      simp at e; subst e
      exact .oi (hf _ _ _ hq h) hx h1
    · cases e
  | ip h => intro d' e; simp [D.ren] at e; subst e; exact .ip h
  | fb hl h => intro d' e; simp [D.ren] at e; subst e; exact .fb hl h
  | fn hl hm hx hc ih1 ih2 =>
    intro d' e
    simp only [D.ren] at e
    split at e
    · rename_i a b h1 h2
      simp at e; subst e
      obtain ⟨g1, g2⟩ := renL_get h1
      obtain ⟨g3, g4⟩ := renL_get h2
      refine .fn (by omega) (by omega) (fun j x d hxj hd => ?_) (fun j x d hxj hd => ?_)
      · obtain ⟨d0, k1, k2⟩ := g2 j d hd
        exact ih1 j x d0 hxj k1 d k2
      · obtain ⟨d0, k1, k2⟩ := g4 j d hd
        exact ih2 j x d0 hxj k1 d k2
    · cases e

theorem All2.renL {f : Nat → Option Nat} (hf : ∀ (i j : Nat) x, f i = some j → ρ[i]? = some x → ρ'[j]? = some x) {vs : List Value} {ds ds' : List D} (h : All2 (Rd S w ρ) vs ds) (e : D.renL f ds = some ds') :
    All2 (Rd S w ρ') vs ds' := by
  obtain ⟨g1, g2⟩ := renL_get e
  refine All2.of_get (by rw [h.length, g1]) fun j x d hx hd => ?_
  obtain ⟨d0, k1, k2⟩ := g2 j d hd
  exact (h.both hx k1).ren hf d k2

theorem avRenL_get {f : Nat → Option Nat} : ∀ {l l' : List AV}, AV.renL f l = some l' → l'.length = l.length ∧ ∀ (j : Nat) d', l'[j]? = some d' → ∃ d, l[j]? = some d ∧ AV.ren f d = some d'
  | [], l', h => by simp [AV.renL] at h; subst h; simp
  | d :: r, l', h => by
    simp only [AV.renL] at h
    split at h
    · rename_i d1 r1 h1 h2
      simp at h; subst h
      obtain ⟨g1, g2⟩ := avRenL_get h2
      refine ⟨by simp [g1], fun j d' hj => ?_⟩
      cases j with
      | zero => simp at hj; subst hj; exact ⟨d, rfl, h1⟩
      | succ j => simp at hj ⊢; exact g2 j d' hj
    · cases h

theorem RdA.ren {f : Nat → Option Nat} (hf : ∀ (i j : Nat) x, f i = some j → ρ[i]? = some x → ρ'[j]? = some x) {x : Value} {d : AV} (h : RdA S w ρ x d) :
    ∀ d', AV.ren f d = some d' → RdA S w ρ' x d' := by
  induction h with
  | d h =>
    intro d' e
    simp only [AV.ren] at e
    split at e
    · rename_i y hy
      simp at e; subst e
      exact .d (h.ren hf _ hy)
    · cases e
  | agg h =>
    intro d' e
    simp only [AV.ren] at e
    split at e
    · rename_i y hy
      simp at e; subst e
      exact .agg (h.renL hf hy)
    · cases e
  | tup hl _ ih =>
    intro d' e
    simp only [AV.ren] at e
    split at e
    · rename_i y hy
      simp at e; subst e
      obtain ⟨g1, g2⟩ := avRenL_get hy
      refine .tup (by omega) fun j x a hx ha => ?_
      obtain ⟨a0, k1, k2⟩ := g2 j a ha
      exact ih j x a0 hx k1 a k2
    · cases e

theorem Res.ren_ok0 {f : Nat → Option Nat} (hf : ∀ (i j : Nat) x, f i = some j → ρ[i]? = some x → ρ'[j]? = some x) {r r' : Res} {v : Value} (h : r.ok0 S w ρ v) (e : r.ren f = some r') :
    r'.ok0 S w ρ' v ∧ r'.foot v = r.foot v := by
  cases r with
  | box t cells =>
    simp only [Res.ren] at e
    split at e
    · rename_i cs hc
      simp at e; subst e
      obtain ⟨b, vs, rfl, h1, h2⟩ := h
      exact ⟨⟨b, vs, rfl, h1, h2.renL hf hc⟩, rfl⟩
    · cases e
  | sl t size rows => simp [Res.ren] at e; subst e; exact ⟨h, rfl⟩
  | zsl t size rows => simp [Res.ren] at e; subst e; exact ⟨h, rfl⟩
  | gh size tys rows hole => simp [Res.ren] at e; subst e; exact ⟨h, rfl⟩
  | dsl t size g =>
    simp only [Res.ren] at e
    split at e
    · rename_i q hq
      simp at e; subst e
      obtain ⟨f', xs, cs, h1, h2⟩ := h
      exact ⟨⟨f', xs, cs, hf _ _ _ hq h1, h2⟩, rfl⟩
    · cases e
  | non => simp [Res.ren] at e; subst e; exact ⟨h, rfl⟩
  | vec t sz cells =>
    simp only [Res.ren] at e
    split at e
    · rename_i cs hc
      simp at e; subst e
      obtain ⟨b, o, len, cap, vs, rfl, h1, h3, h2⟩ := h
      have hl := (h2.renL hf hc).length
      have hl2 := h2.length
      have hle : cs.length = cells.length := by rw [← hl, hl2]
      exact ⟨⟨b, o, len, cap, vs, rfl, h1, by rw [hle]; exact h3, h2.renL hf hc⟩, rfl⟩
    · cases e

theorem Res.ren_ok {f : Nat → Option Nat} (hf : ∀ (i j : Nat) x, f i = some j → ρ[i]? = some x → ρ'[j]? = some x) {r r' : Res} {v : Value} (h : r.ok S w ρ v) (e : r.ren f = some r') :
    r'.ok S w ρ' v ∧ r'.foot v = r.foot v := by
  rcases h with h | h
  · exact ⟨.inl h, by funext b; exact propext ⟨fun x => absurd x (Res.foot_dead h b), fun x => absurd x (Res.foot_dead h b)⟩⟩
  · obtain ⟨h1, h2⟩ := Res.ren_ok0 hf h e
    exact ⟨.inr h1, h2⟩

theorem Rd.norm {x : Value} {d : D} (h : Rd S w ρ x d) : Rd S w ρ x d.norm := by
  unfold D.norm
  split
  · have := h
    cases this with
    | p h =>
      have := h.v_form
      subst this
      exact .p (.s none ⟨0, 0, none⟩ 0 0 [] (fun _ _ => undef) (Nat.le_refl _) (by simp [maxLen]) (fun _ => rfl) (by simp) (by simp) (by simp))
  · exact h
theorem RdA.norm {x : Value} {d : AV} (h : RdA S w ρ x d) : RdA S w ρ x d.norm := by
  cases h with
  | d h => exact .d h.norm
  | agg h => exact .agg (h.map_right fun _ _ h => h.norm)
  | tup hl h => exact .tup hl h

theorem idxOf_get : ∀ {l : List Nat} {i j : Nat}, idxOf l i = some j → l[j]? = some i
  | [], _, _, h => by simp [idxOf] at h
  | a :: r, i, j, h => by
    simp only [idxOf] at h
    cases hb : Nat.beq a i with
    | true => rw [hb] at h; simp at h; subst h; have := Nat.eq_of_beq_eq_true hb; subst this; rfl
    | false =>
      rw [hb] at h
      simp only [cond_false] at h
      split at h
      · rename_i k hk
        simp at h; subst h
        simpa using idxOf_get hk
      · cases h
theorem idxOf_none : ∀ {l : List Nat} {i : Nat}, idxOf l i = none → ∀ (j : Nat), l[j]? ≠ some i
  | [], _, _, j => by simp
  | a :: r, i, h, j => by
    simp only [idxOf] at h
    cases hb : Nat.beq a i with
    | true => rw [hb] at h; simp at h
    | false =>
      rw [hb] at h
      simp only [cond_false] at h
      split at h
      · cases h
      · rename_i hn
        cases j with
        | zero => simp; intro e; subst e; simp at hb
        | succ j => simpa using idxOf_none hn j
theorem noDup_inj : ∀ {l : List Nat}, noDup l = true → ∀ {i j k : Nat}, l[i]? = some k → l[j]? = some k → i = j
  | [], _, i, j, k, h, _ => by simp at h
  | a :: r, h, i, j, k, h1, h2 => by
    simp only [noDup, Bool.and_eq_true, Option.isNone_iff_eq_none] at h
    cases i with
    | zero => cases j with
      | zero => rfl
      | succ j =>
        simp at h1 h2
        subst h1
        exact absurd h2 (idxOf_none h.1 j)
    | succ i => cases j with
      | zero =>
        simp at h1 h2
        subst h2
        exact absurd h1 (idxOf_none h.1 i)
      | succ j =>
        simp at h1 h2
        rw [noDup_inj h.2 h1 h2]

theorem picks_get : ∀ {pi : List Nat} {l : List Res}, picks R pi = some l → l.length = pi.length ∧ ∀ (j i : Nat), pi[j]? = some i → ∃ r, l[j]? = some r ∧ R[i]? = some r
  | [], l, h => by simp [picks] at h; subst h; simp
  | a :: r, l, h => by
    simp only [picks] at h
    split at h
    · rename_i x xs h1 h2
      simp at h; subst h
      obtain ⟨g1, g2⟩ := picks_get h2
      refine ⟨by simp [g1], fun j i hj => ?_⟩
      cases j with
      | zero => simp at hj; subst hj; exact ⟨x, rfl, h1⟩
      | succ j => simp at hj ⊢; exact g2 j i hj
    · cases h
theorem renRs_get {f : Nat → Option Nat} : ∀ {l l' : List Res}, renRs f l = some l' → l'.length = l.length ∧ ∀ (j : Nat) r', l'[j]? = some r' → ∃ r, l[j]? = some r ∧ r.ren f = some r'
  | [], l', h => by simp [renRs] at h; subst h; simp
  | d :: r, l', h => by
    simp only [renRs] at h
    split at h
    · rename_i d1 r1 h1 h2
      simp at h; subst h
      obtain ⟨g1, g2⟩ := renRs_get h2
      refine ⟨by simp [g1], fun j d' hj => ?_⟩
      cases j with
      | zero => simp at hj; subst hj; exact ⟨d, rfl, h1⟩
      | succ j => simp at hj ⊢; exact g2 j d' hj
    · cases h
theorem setAll_length : ∀ (pi : List Nat) (R l : List Res), (setAll R pi l).length = R.length
  | [], R, l => by simp [setAll]
  | i :: pi, R, [] => by simp [setAll]
  | i :: pi, R, r :: l => by simp [setAll, setAll_length pi]
theorem setAll_get : ∀ (pi : List Nat) (R l : List Res) (k : Nat) (r : Res), (setAll R pi l)[k]? = some r → (∃ j : Nat, pi[j]? = some k ∧ l[j]? = some r) ∨ (R[k]? = some r ∧ (pi.length ≤ l.length → ∀ j : Nat, pi[j]? ≠ some k))
  | [], R, l, k, r, h => by simp [setAll] at h; exact .inr ⟨h, by simp⟩
  | i :: pi, R, [], k, r, h => by simp [setAll] at h; exact .inr ⟨h, by simp⟩
  | i :: pi, R, x :: l, k, r, h => by
    simp only [setAll] at h
    rcases setAll_get pi (R.set i x) l k r h with ⟨j, h1, h2⟩ | ⟨h1, h2⟩
    · exact .inl ⟨j + 1, by simpa using h1, by simpa using h2⟩
    · rw [List.getElem?_set] at h1
      split at h1
      · rename_i e
        subst e
        split at h1
        · cases h1; exact .inl ⟨0, rfl, rfl⟩
        · cases h1
      · rename_i e
        refine .inr ⟨h1, fun hl j => ?_⟩
        cases j with
        | zero => simpa using e
        | succ j => simpa using h2 (by simpa using hl) j

/-- the handles that a callee is given -/
def hands (ρ : List Value) (pi : List Nat) : List Value := pi.map fun i => ρ.getD i undef

theorem hands_get {pi : List Nat} {j : Nat} {x : Value} (h : (hands ρ pi)[j]? = some x) : ∃ i, pi[j]? = some i ∧ x = ρ.getD i undef := by
  unfold hands at h
  rw [List.getElem?_map] at h
  cases hj : pi[j]? with
  | none => rw [hj] at h; cases h
  | some i => rw [hj] at h; simp at h; exact ⟨i, rfl, by rw [← h]; simp⟩

theorem Inv.start (hI : Inv C S w ρ R) {pi : List Nat} {Rp Rp' : List Res} (hn : noDup pi = true) (hp : picks R pi = some Rp) (hr : renRs (idxOf pi) Rp = some Rp') :
    Start S w (hands ρ pi) Rp' ∧ (∀ (i j : Nat) x, idxOf pi i = some j → ρ[i]? = some x → (hands ρ pi)[j]? = some x) ∧
      (∀ (j : Nat) r h, Rp'[j]? = some r → (hands ρ pi)[j]? = some h → ∃ i r0, pi[j]? = some i ∧ R[i]? = some r0 ∧ ρ[i]? = some h ∧ r.foot h = r0.foot h) := by
  obtain ⟨p1, p2⟩ := picks_get hp
  obtain ⟨q1, q2⟩ := renRs_get hr
  have hid : ∀ (i j : Nat) x, idxOf pi i = some j → ρ[i]? = some x → (hands ρ pi)[j]? = some x := by
    intro i j x h1 h2
    have := idxOf_get h1
    simp [hands, this, List.getD_eq_getElem?_getD, h2]
  have back : ∀ (j : Nat) r h, Rp'[j]? = some r → (hands ρ pi)[j]? = some h → ∃ i r0, pi[j]? = some i ∧ R[i]? = some r0 ∧ ρ[i]? = some h ∧ r0.ren (idxOf pi) = some r := by
    intro j r h h1 h2
    obtain ⟨i, hi, hx⟩ := hands_get h2
    obtain ⟨r0, g1, g2⟩ := q2 j r h1
    obtain ⟨r1, g3, g4⟩ := p2 j i hi
    rw [g3] at g1; cases g1
    have hlt : i < ρ.length := by rw [hI.len]; exact (List.getElem?_eq_some_iff.1 g4).1
    refine ⟨i, r0, hi, g4, ?_, g2⟩
    rw [hx, List.getD_eq_getElem?_getD, List.getElem?_eq_getElem hlt]; rfl
  have back' : ∀ (j : Nat) r h, Rp'[j]? = some r → (hands ρ pi)[j]? = some h → ∃ i r0, pi[j]? = some i ∧ R[i]? = some r0 ∧ ρ[i]? = some h ∧ r.ok S w (hands ρ pi) h ∧ r.foot h = r0.foot h := by
    intro j r h h1 h2
    obtain ⟨i, r0, k1, k2, k3, k4⟩ := back j r h h1 h2
    obtain ⟨m1, m2⟩ := Res.ren_ok hid (hI.ok i r0 h k2 k3) k4
    exact ⟨i, r0, k1, k2, k3, m1, m2⟩
  refine ⟨⟨by simp [hands, q1, p1], ?_, ?_, ?_, fun b hb => (hI.sup b hb).1, hI.glOk⟩, hid, fun j r h h1 h2 => ?_⟩
  · intro j r h h1 h2
    obtain ⟨i, r0, _, _, _, k, _⟩ := back' j r h h1 h2
    exact k
  · intro j1 j2 r1 r2 h1 h2 b hj e1 e2 e3 e4 f1 f2
    obtain ⟨i1, s1, k1, k2, k3, _, k5⟩ := back' j1 r1 h1 e1 e3
    obtain ⟨i2, s2, m1, m2, m3, _, m5⟩ := back' j2 r2 h2 e2 e4
    refine hI.dis i1 i2 s1 s2 h1 h2 b (fun e => hj ?_) k2 m2 k3 m3 (by rw [← k5]; exact f1) (by rw [← m5]; exact f2)
    subst e
    exact noDup_inj hn k1 m1
  · intro j r h b h1 h2 h3
    obtain ⟨i, r0, k1, k2, k3, _, k5⟩ := back' j r h h1 h2
    have := hI.own i r0 h b k2 k3 (by rw [← k5]; exact h3)
    exact ⟨this.1, this.2.1⟩
  · obtain ⟨i, r0, k1, k2, k3, _, k5⟩ := back' j r h h1 h2
    exact ⟨i, r0, k1, k2, k3, k5⟩

theorem Inv.back (hI : Inv C S w ρ R) {pi : List Nat} {Rp Rp' Rq Rq' : List Res} {ρq : List Value} (hn : noDup pi = true) (hp : picks R pi = some Rp) (hr : renRs (idxOf pi) Rp = some Rp')
    (hq : Inv ⟨w, S, feet (hands ρ pi) Rp', hands ρ pi, []⟩ S' w' ρq Rq) (hlen : pi.length ≤ Rq.length) (hrq : renRs (backTo pi R.length) Rq = some Rq') :
    Inv C S' w' (ρ ++ ρq.drop pi.length) (setAll R pi Rq' ++ Rq'.drop pi.length) ∧ (∀ b, S b → S' b) ∧ (∀ b, S b → w'.heap[b]? = w.heap[b]?) ∧ Pre ρ (ρ ++ ρq.drop pi.length) ∧
      (∀ (i j : Nat) x, backTo pi R.length i = some j → ρq[i]? = some x → (ρ ++ ρq.drop pi.length)[j]? = some x) := by
  obtain ⟨st, hid, foots⟩ := hI.start hn hp hr
  obtain ⟨p1, p2⟩ := picks_get hp
  obtain ⟨q1, q2⟩ := renRs_get hr
  obtain ⟨t1, t2⟩ := renRs_get hrq
  have hρ : Pre ρ (ρ ++ ρq.drop pi.length) := Pre.append _ _
  have hpre : Pre (hands ρ pi) ρq := hq.pre
  have hfeet : ∀ b, feet (hands ρ pi) Rp' b → ∃ i r0 h, (∃ j : Nat, pi[j]? = some i) ∧ R[i]? = some r0 ∧ ρ[i]? = some h ∧ r0.foot h b := by
    rintro b ⟨j, r, h, h1, h2, h3⟩
    obtain ⟨i, r0, k1, k2, k3, k4⟩ := foots j r h h1 h2
    exact ⟨i, r0, h, ⟨j, k1⟩, k2, k3, by rw [← k4]; exact h3⟩
  have hSf : ∀ b, S b → ¬ feet (hands ρ pi) Rp' b := by
    intro b hb hf
    obtain ⟨i, r0, h, _, k2, k3, k4⟩ := hfeet b hf
    exact (hI.own i r0 h b k2 k3 k4).1 hb
  have hSw : ∀ b, S b → w'.heap[b]? = w.heap[b]? := fun b hb => hq.frm b (hI.sup b hb).1 (hSf b hb)
  have hbk : ∀ (i j : Nat) x, backTo pi R.length i = some j → ρq[i]? = some x → (ρ ++ ρq.drop pi.length)[j]? = some x := by
    intro i j x h1 h2
    unfold backTo at h1
    cases hi : pi[i]? with
    | some k =>
      rw [hi] at h1; simp at h1; subst h1
      have hlt : i < pi.length := (List.getElem?_eq_some_iff.1 hi).1
      have hh : (hands ρ pi)[i]? = some (ρ.getD k undef) := by simp [hands, hi]
      have := hpre _ _ hh
      rw [this] at h2; cases h2
      obtain ⟨r, _, g2⟩ := p2 i k hi
      have hkl : k < ρ.length := by rw [hI.len]; exact (List.getElem?_eq_some_iff.1 g2).1
      rw [List.getElem?_append_left hkl, List.getD_eq_getElem?_getD, List.getElem?_eq_getElem hkl]; rfl
    | none =>
      rw [hi] at h1; simp at h1; subst h1
      have hge : pi.length ≤ i := by
        rcases Nat.lt_or_ge i pi.length with h | h
        · rw [List.getElem?_eq_getElem h] at hi; cases hi
        · exact h
      rw [← hI.len, List.getElem?_append_right (by omega)]
      rw [List.getElem?_drop]
      rw [show pi.length + (ρ.length + (i - pi.length) - ρ.length) = i from by omega]
      exact h2
  have src : ∀ (k : Nat) r h, (setAll R pi Rq' ++ Rq'.drop pi.length)[k]? = some r → (ρ ++ ρq.drop pi.length)[k]? = some h →
      (∃ j r0, Rq[j]? = some r0 ∧ r0.ren (backTo pi R.length) = some r ∧ ρq[j]? = some h ∧ backTo pi R.length j = some k) ∨ (R[k]? = some r ∧ ρ[k]? = some h ∧ ∀ j : Nat, pi[j]? ≠ some k) := by
    intro k r h h1 h2
    rcases Nat.lt_or_ge k R.length with hk | hk
    · rw [List.getElem?_append_left (by rw [setAll_length]; exact hk)] at h1
      rw [List.getElem?_append_left (by rw [hI.len]; exact hk)] at h2
      rcases setAll_get pi R Rq' k r h1 with ⟨j, g1, g2⟩ | ⟨g1, g2⟩
      · obtain ⟨r0, g3, g4⟩ := t2 j r g2
        refine .inl ⟨j, r0, g3, g4, ?_, by simp [backTo, g1]⟩
        have hh : (hands ρ pi)[j]? = some (ρ.getD k undef) := by simp [hands, g1]
        have := hpre _ _ hh
        rw [this, List.getD_eq_getElem?_getD, h2]; rfl
      · exact .inr ⟨g1, h2, g2 (by omega)⟩
    · rw [List.getElem?_append_right (by rw [setAll_length]; exact hk), setAll_length, List.getElem?_drop] at h1
      rw [List.getElem?_append_right (by rw [hI.len]; exact hk), List.getElem?_drop, hI.len] at h2
      obtain ⟨r0, g3, g4⟩ := t2 _ r h1
      refine .inl ⟨_, r0, g3, g4, h2, ?_⟩
      unfold backTo
      rw [List.getElem?_eq_none (by omega)]
      simp; omega
  have inj : ∀ (j1 j2 k : Nat), backTo pi R.length j1 = some k → backTo pi R.length j2 = some k → j1 = j2 := by
    intro j1 j2 k h1 h2
    have small : ∀ (j i : Nat), pi[j]? = some i → i < R.length := fun j i h => by
      obtain ⟨r, _, g⟩ := p2 j i h
      exact (List.getElem?_eq_some_iff.1 g).1
    have big : ∀ j, pi[j]? = none → pi.length ≤ j := fun j hi => by
      rcases Nat.lt_or_ge j pi.length with h | h
      · rw [List.getElem?_eq_getElem h] at hi; cases hi
      · exact h
    unfold backTo at h1 h2
    cases e1 : pi[j1]? with
    | some i1 =>
      rw [e1] at h1; simp at h1; subst h1
      have := small j1 _ e1
      cases e2 : pi[j2]? with
      | some i2 => rw [e2] at h2; simp at h2; subst h2; exact noDup_inj hn e1 e2
      | none => rw [e2] at h2; simp at h2; omega
    | none =>
      rw [e1] at h1; simp at h1
      have := big j1 e1
      cases e2 : pi[j2]? with
      | some i2 => rw [e2] at h2; simp at h2; have := small j2 _ e2; omega
      | none => rw [e2] at h2; simp at h2; have := big j2 e2; omega
  have hS'old : ∀ b, S' b → S b ∨ feet (hands ρ pi) Rp' b ∨ w.heap.size ≤ b := fun b hb => (hq.sup b hb).2
  refine ⟨⟨?_, ?_, ?_, ?_, fun b hb => hq.sub b (hI.sub b hb), ?_, ?_, Nat.le_trans hI.size hq.size, hq.os.trans hI.os, hq.tape.trans hI.tape, hq.output.trans hI.output, hI.pre.trans hρ, hI.gl⟩, hq.sub, hSw, hρ, hbk⟩
  · have := hq.len
    simp [hI.len, setAll_length, t1, this]
  · intro k r h h1 h2
    rcases src k r h h1 h2 with ⟨j, r0, g1, g2, g3, g4⟩ | ⟨g1, g2, g3⟩
    · exact (Res.ren_ok hbk (hq.ok j r0 h g1 g3) g2).1
    · refine (hI.ok k r h g1 g2).mono hq.sub hSw hρ fun b hb => hq.frm b (hI.own k r h b g1 g2 hb).2.1 fun hf => ?_
      obtain ⟨i, r1, v, ⟨j, k1⟩, k2, k3, k4⟩ := hfeet b hf
      exact hI.dis i k r1 r v h b (fun e => g3 j (e ▸ k1)) k2 g1 k3 g2 k4 hb
  · intro k1 k2 r1 r2 v1 v2 b hk e1 e2 e3 e4 f1 f2
    have cross : ∀ (k1 k2 : Nat) r1 r2 v1 v2, (∃ j r0, Rq[j]? = some r0 ∧ r0.ren (backTo pi R.length) = some r1 ∧ ρq[j]? = some v1 ∧ backTo pi R.length j = some k1) →
        (R[k2]? = some r2 ∧ ρ[k2]? = some v2 ∧ ∀ j : Nat, pi[j]? ≠ some k2) → r1.foot v1 b → r2.foot v2 b → False := by
      rintro k1 k2 r1 r2 v1 v2 ⟨j, r0, g1, g2, g3, g4⟩ ⟨m1, m2, m3⟩ f1 f2
      have hf : r0.foot v1 b := by rw [← (Res.ren_ok hbk (hq.ok j r0 v1 g1 g3) g2).2]; exact f1
      obtain ⟨_, _, o3⟩ := hq.own j r0 v1 b g1 g3 hf
      have hb := (hI.own k2 r2 v2 b m1 m2 f2).2.1
      rcases o3 with o3 | o3
      · obtain ⟨i, r3, v, ⟨j', n1⟩, n2, n3, n4⟩ := hfeet b o3
        exact hI.dis i k2 r3 r2 v v2 b (fun e => m3 j' (e ▸ n1)) n2 m1 n3 m2 n4 f2
      · exact absurd hb (Nat.not_lt.2 o3)
    rcases src k1 r1 v1 e1 e3 with s1 | s1
    · rcases src k2 r2 v2 e2 e4 with s2 | s2
      · obtain ⟨j, r0, g1, g2, g3, g4⟩ := s1
        obtain ⟨j', r0', g1', g2', g3', g4'⟩ := s2
        refine hq.dis j j' r0 r0' v1 v2 b (fun e => hk ?_) g1 g1' g3 g3' (by rw [← (Res.ren_ok hbk (hq.ok j r0 v1 g1 g3) g2).2]; exact f1) (by rw [← (Res.ren_ok hbk (hq.ok j' r0' v2 g1' g3') g2').2]; exact f2)
        subst e
        rw [g4] at g4'; cases g4'; rfl
      · exact cross k1 k2 r1 r2 v1 v2 s1 s2 f1 f2
    · rcases src k2 r2 v2 e2 e4 with s2 | s2
      · exact cross k2 k1 r2 r1 v2 v1 s2 s1 f2 f1
      · exact hI.dis k1 k2 r1 r2 v1 v2 b hk s1.1 s2.1 s1.2.1 s2.2.1 f1 f2
  · intro k r h b h1 h2 h3
    rcases src k r h h1 h2 with ⟨j, r0, g1, g2, g3, g4⟩ | ⟨g1, g2, g3⟩
    · have hf : r0.foot h b := by rw [← (Res.ren_ok hbk (hq.ok j r0 h g1 g3) g2).2]; exact h3
      obtain ⟨o1, o2, o3⟩ := hq.own j r0 h b g1 g3 hf
      refine ⟨o1, o2, ?_⟩
      rcases o3 with o3 | o3
      · obtain ⟨i, r3, v, _, n2, n3, n4⟩ := hfeet b o3
        exact (hI.own i r3 v b n2 n3 n4).2.2
      · exact .inr (Nat.le_trans hI.size o3)
    · obtain ⟨o1, o2, o3⟩ := hI.own k r h b g1 g2 h3
      refine ⟨fun hb => ?_, Nat.lt_of_lt_of_le o2 hq.size, o3⟩
      rcases hS'old b hb with hb | hb | hb
      · exact o1 hb
      · obtain ⟨i, r3, v, ⟨j, n1⟩, n2, n3, n4⟩ := hfeet b hb
        exact hI.dis i k r3 r v h b (fun e => g3 j (e ▸ n1)) n2 g1 n3 g2 n4 h3
      · omega
  · intro b hb
    refine ⟨(hq.sup b hb).1, ?_⟩
    rcases hS'old b hb with hb | hb | hb
    · exact (hI.sup b hb).2
    · obtain ⟨i, r3, v, _, n2, n3, n4⟩ := hfeet b hb
      exact .inr (hI.own i r3 v b n2 n3 n4).2.2
    · exact .inr (.inr (Nat.le_trans hI.size hb))
  · intro b hb hf
    refine (hq.frm b (Nat.lt_of_lt_of_le hb hI.size) fun hff => ?_).trans (hI.frm b hb hf)
    obtain ⟨i, r3, v, _, n2, n3, n4⟩ := hfeet b hff
    rcases (hI.own i r3 v b n2 n3 n4).2.2 with h | h
    · exact hf h
    · omega
end
end Go.SL
