/-
  The logic, twentieth part and a half: fresh zeros become deep; what is deep is given up inside; a beginning becomes a slice of its own.
-/
import Derived.Test.YtopmfoohdkjgmaaGreatDoorSlT
namespace Go.SL

section
variable {P : Program} {n : Nat} {C : Ctx} {st st' : St} {R R' : List Res} {S S' : Nat → Prop} {w w' : World} {ρ ρ' : List Value} {a : Act}

/-- where in the rows a cell lies -/
theorem cell_place {α : Type} {rows : List (List α)} {size k : Nat} (h1 : ∀ row, row ∈ rows → row.length = size) (hk : k < rows.length * size) : ∃ i j row d, k = i * size + j ∧ rows[i]? = some row ∧ row[j]? = some d ∧ j < size := by
  have hs : 0 < size := by
    grind
  have hkl : k / size < rows.length := (Nat.div_lt_iff_lt_mul hs).2 hk
  have hrow := List.getElem?_eq_getElem hkl
  have hrl := h1 _ (List.mem_of_getElem? hrow)
  have hj : k % size < (rows[k / size]).length := by rw [hrl]; exact Nat.mod_lt _ hs
  refine ⟨k / size, k % size, _, _, ?_, hrow, List.getElem?_eq_getElem hj, Nat.mod_lt _ hs⟩
  rw [Nat.mul_comm]; exact (Nat.div_add_mod k size).symm

theorem ent_mono {e : Ent} (h : EntOk S w ρ a e) (hS : ∀ b, S b → S' b) (hρ : Pre ρ ρ') : EntOk S' w ρ' a e := by
  refine ⟨fun hp => ?_, h.2⟩
  obtain ⟨v, hv, hr⟩ := h.1 hp
  exact ⟨v, hv, hr.mono hS (fun _ _ => rfl) hρ⟩

theorem Inv.swap0 {r r' : Res} {i : Nat} {v : Value} (h : Inv C S w ρ R) (hi : R[i]? = some r) (hρ : ρ[i]? = some v) (hok : r.ok S w ρ v → r'.ok S w ρ v) (hf : ∀ b, r'.foot v b = r.foot v b) : Inv C S w ρ (R.set i r') := by
  refine h.regroup (fun j _ => j) (by simp [h.len]) (Pre.refl _) (fun j r1 v1 h1 h2 => ?_) (fun j r1 v1 b h1 h2 h3 => ?_) (fun _ _ => rfl) rfl rfl ⟨rfl, fun _ => by grind⟩ rfl
  · rw [List.getElem?_set] at h1
    split at h1
    · rename_i hj
      subst hj
      split at h1
      · cases h1; rw [hρ] at h2; cases h2; exact hok (h.ok i r v hi hρ)
      · cases h1
    · exact h.ok j r1 v1 h1 h2
  grind

/-- fresh zeros become a slice whose inner slices are ours -/
def deepSt (i : Nat) (tys : List (TypeId × Nat)) (st : St) (R : List Res) : Option (St × List Res) :=
  match R[i]? with
  | some (.zsl e size rows) => bif Nat.beq tys.length size then some (st, R.set i (.dsl e size R.length) ++ [.gh size tys rows none]) else none
  | _ => none

theorem Inv.deepen (h : Inv C S w ρ R) {i e size : Nat} {tys : List (TypeId × Nat)} {rows : List (List Pd)} (hi : R[i]? = some (.zsl e size rows)) (ht : tys.length = size) :
    ∃ g, Inv C S w (ρ ++ [g]) (R.set i (.dsl e size R.length) ++ [.gh size tys rows none]) := by
  have hL : ρ.length = R.length := h.len
  have hil : i < ρ.length := by rw [hL]; exact (List.getElem?_eq_some_iff.1 hi).1
  have hρ : ρ[i]? = some ρ[i] := List.getElem?_eq_getElem hil
  generalize ρ[i] = v at hρ
  have nohole : ∀ q, ¬ isHole size none q := fun q ⟨p, hp, _⟩ => by cases hp
  have key : ∃ g : Value, (∀ (xs cs : Array Value) (f : Fn), g = Value.func f xs cs → (∀ (k : Nat) (x : Value), xs[k]? = some x → ¬ ∃ a n c, x = Value.slice (some a) n c)) ∧ (g.oneCell' = false ∨ ∃ f xs cs, g = .func f xs cs ∧ gOk S w size tys rows none xs) ∧
      (∀ ρ' : List Value, ρ'[R.length]? = some g → (Res.dsl e size R.length).ok S w ρ' v) := by
    rcases h.ok i _ _ hi hρ with hd | hk
    · exact ⟨undef, (fun xs cs f h => by cases h), .inl rfl, fun ρ' _ => .inl hd⟩
    · rcases hk with ⟨h1, h2⟩ | ⟨b, o, cap, vs, h1, hb, h3, h4, h5, h6, h7⟩
      · subst h1; subst h2
        refine ⟨.func (.func 0) #[] #[], (fun xs cs f h => by cases h; simp), .inr ⟨_, _, _, rfl, by simp, by simp, by simp, by simp⟩, fun ρ' hg => .inr ⟨_, _, _, hg, .inl ⟨rfl, by simp⟩⟩⟩
      · subst h1
        have hle : rows.length * size ≤ cap * size := Nat.mul_le_mul_right _ h3
        have hsz : (vs.extract o (o + rows.length * size)).size = rows.length * size := by simp; omega
        have hget : ∀ (k : Nat) (x : Value), (vs.extract o (o + rows.length * size))[k]? = some x → k < rows.length * size ∧ vs[o + k]? = some x := by
          intro k x hx
          have hkl : k < rows.length * size := by rw [← hsz]; exact (Array.getElem?_eq_some_iff.1 hx).1
          refine ⟨hkl, ?_⟩
          rw [Array.getElem?_extract] at hx
          split at hx
          · exact hx
          · cases hx
        have hns : ∀ (k : Nat) (x : Value), (vs.extract o (o + rows.length * size))[k]? = some x → ¬ ∃ a n c, x = Value.slice (some a) n c := by
          rintro k x hx ⟨a, n, c, rfl⟩
          obtain ⟨hk, hv⟩ := hget k _ hx
          obtain ⟨i2, j2, row, d, e1, e2, e3, _⟩ := cell_place h6 hk
          obtain ⟨y, hy, hz⟩ := h7 i2 row e2 j2 d e3
          subst e1
          rw [← Nat.add_assoc, hy] at hv
          cases hv
          cases d with
          | v z =>
            obtain ⟨e1, _, hn⟩ := hz
            subst e1
            exact hn
          | s r => cases hz.1
        refine ⟨.func (.func 0) (vs.extract o (o + rows.length * size)) #[], (fun xs cs f h => by cases h; exact hns), .inr ⟨_, _, _, rfl, h6, hsz, fun i2 row hi2 j2 d hj2 => ?_, fun k1 k2 a1 n1 c1 a2 n2 c2 _ _ _ h8 _ => absurd ⟨_, _, _, rfl⟩ (hns k1 _ h8)⟩, fun ρ' hg => .inr ⟨_, _, _, hg, .inr ⟨b, o, rows.length, cap, vs, rfl, hb, h3, h4, h5, hsz, fun k x hx => (hget k x hx).2⟩⟩⟩
        obtain ⟨y, hy, hz⟩ := h7 i2 row hi2 j2 d hj2
        have hil2 : i2 < rows.length := (List.getElem?_eq_some_iff.1 hi2).1
        have hjl : j2 < size := by rw [← h6 row (List.mem_of_getElem? hi2)]; exact (List.getElem?_eq_some_iff.1 hj2).1
        have hlt : i2 * size + j2 < rows.length * size := by
          have : (i2 + 1) * size ≤ rows.length * size := Nat.mul_le_mul_right _ hil2
          rw [Nat.add_mul, Nat.one_mul] at this; omega
        refine ⟨y, ?_, ?_⟩
        · rw [Array.getElem?_extract, if_pos (by omega), ← Nat.add_assoc]; exact hy
        · cases d with
          | v z => exact hz
          | s r =>
            obtain ⟨rfl, rfl⟩ := hz
            exact ⟨rfl, fun _ => ⟨_, _, List.getElem?_eq_getElem (by rw [ht]; exact hjl), .inl ⟨rfl, rfl⟩⟩⟩
  obtain ⟨g, hnos, hgok, hdok⟩ := key
  refine ⟨g, ?_⟩
  have hnew : (ρ ++ [g])[R.length]? = some g := by rw [← hL]; simp
  refine h.regroup (fun j _ => j) (by simp [hL]) (Pre.append _ _) (fun j r v1 h1 h2 => ?_) (fun j r v1 b h1 h2 h3 => ?_) (fun _ _ => rfl) rfl rfl ⟨rfl, fun _ => by first | exact Nat.le_refl _ | exact Nat.le_succ _⟩ rfl
  · rcases get_snoc h1 with k1 | ⟨e1, rfl⟩
    · have hjl : j < R.length := by have := (List.getElem?_eq_some_iff.1 k1).1; simpa using this
      have h2 : ρ[j]? = some v1 := by rw [List.getElem?_append_left (by omega)] at h2; exact h2
      rw [List.getElem?_set] at k1
      split at k1
      · rename_i hj
        subst hj
        split at k1
        · cases k1; rw [hρ] at h2; cases h2; exact hdok _ hnew
        · omega
      · exact (h.ok j r v1 k1 h2).mono (fun _ h => h) (fun _ _ => rfl) (Pre.append _ _) (fun _ _ => rfl)
    · have e2 : j = R.length := by simpa using e1
      subst e2
      rw [hnew] at h2; cases h2
      exact hgok
  · rcases get_snoc h1 with k1 | ⟨e1, rfl⟩
    · have hjl : j < R.length := by have := (List.getElem?_eq_some_iff.1 k1).1; simpa using this
      have h2 : ρ[j]? = some v1 := by rw [List.getElem?_append_left (by omega)] at h2; exact h2
      rw [List.getElem?_set] at k1
      split at k1
      · rename_i hj
        subst hj
        split at k1
        · cases k1; exact ⟨_, _, _, rfl, hi, h2, h3⟩
        · omega
      · exact ⟨j, r, v1, rfl, k1, h2, h3⟩
    · have e2 : j = R.length := by simpa using e1
      subst e2
      rw [hnew] at h2; cases h2
      exfalso
      match g, h3, hnos with
      | .func f xs cs, h3, hnos =>
        obtain ⟨k, x, k1, _, k3⟩ := h3
        match x, k3, k1 with
        | .slice (some ad) m cp, k3, k1 => exact hnos _ _ _ rfl k _ k1 ⟨_, _, _, rfl⟩

theorem Sat.deep {i : Nat} {tys : List (TypeId × Nat)} (h : deepSt i tys st R = some (st', R')) (hs : Sat n C (mkL st) R a w) : Sat n C (mkL st') R' a w := by
  unfold deepSt at h
  split at h
  · rename_i e size rows hi
    cases hb : Nat.beq tys.length size with
    | false => rw [hb] at h; simp at h
    | true =>
      rw [hb] at h
      simp only [cond_true, Option.some.injEq, Prod.mk.injEq] at h
      obtain ⟨rfl, rfl⟩ := h
      obtain ⟨h1, h2, S, ρ, h3, h4⟩ := hs
      obtain ⟨g, hI⟩ := h3.deepen hi (Nat.eq_of_beq_eq_true hb)
      exact ⟨h1, h2, S, ρ ++ [g], hI, fun e he => ent_mono (h4 e he) (fun _ h => h) (Pre.append _ _)⟩
  · cases h

/-- inner slices are given up -/
def flatSt (i : Nat) (st : St) (R : List Res) : Option (St × List Res) :=
  match R[i]? with
  | some (.dsl e size g) => match R[g]? with
    | some (.gh s2 _ rows none) => bif Nat.beq size s2 && Nat.blt 0 size then some (st, (R.set g .non).set i (.sl e size rows)) else none
    | _ => none
  | _ => none

theorem Sat.flat {i : Nat} (h : flatSt i st R = some (st', R')) (hs : Sat n C (mkL st) R a w) : Sat n C (mkL st') R' a w := by
  unfold flatSt at h
  split at h
  · rename_i e size g hi
    split at h
    · rename_i s2 tys rows hg
      cases hb : Nat.beq size s2 && Nat.blt 0 size with
      | false => rw [hb] at h; simp at h
      | true =>
        rw [hb] at h
        simp only [cond_true, Option.some.injEq, Prod.mk.injEq] at h
        obtain ⟨rfl, rfl⟩ := h
        simp only [Bool.and_eq_true] at hb
        have := Nat.eq_of_beq_eq_true hb.1
        subst this
        have hs0 : 0 < size := by simpa [Nat.blt_eq] using hb.2
        obtain ⟨h1, h2, S, ρ, h3, h4⟩ := hs
        have hig : i ≠ g := fun e => by subst e; rw [hi] at hg; cases hg
        obtain ⟨v, hρi⟩ := h3.rho hi
        obtain ⟨u, hρg⟩ := h3.rho hg
        have hF := h3.freeze hg hρg
        have hi' : (R.set g .non)[i]? = some (.dsl e size g) := by rw [List.getElem?_set_ne (Ne.symm hig)]; exact hi
        refine ⟨h1, h2, _, ρ, hF.swap0 hi' hρi (fun hok => ?_) (fun _ => rfl), fun e he => ent_mono (h4 e he) (fun _ h => .inl h) (Pre.refl _)⟩
        rcases h3.ok i _ v hi hρi with hd | hk
        · exact .inl hd
        · refine .inr ?_
          by_cases hv1 : v.oneCell' = true
          · obtain ⟨f, xs, cs, hg1, hgo, hform⟩ := deep_form h3 hi hg hρi hv1 hs0
            rw [hρg] at hg1; cases hg1
            rcases hform with ⟨k1, k2⟩ | ⟨b, o, cap, vs, k1, k2, k3, k4, k5, k6⟩
            · exact .inl ⟨k1, k2⟩
            · refine .inr ⟨b, o, cap, vs, k1, .of k2, k3, k4, k5, hgo.1, fun i2 row hi2 j2 d hj2 => ?_⟩
              obtain ⟨x, hx, hc⟩ := hgo.2.2.1 i2 row hi2 j2 d hj2
              refine ⟨x, by rw [Nat.add_assoc]; exact k6 _ x hx, ?_⟩
              cases d with
              | v y =>
                obtain ⟨rfl, hy, _⟩ := hc
                exact .v _ hy
              | s r =>
                have hno : ¬ isHole size none (i2 * size + j2) := by rintro ⟨p, hp, _⟩; cases hp
                obtain ⟨e2, s3, _, hsl⟩ := hc.2 hno
                have hfr := Res.ok0.frozen (ρ := ρ) (show (Res.sl e2 s3 r).ok0 S w ρ x from hsl)
                refine hfr.mono (fun b hb => ?_) (fun _ _ => rfl)
                rcases hb with hb | hb
                · exact .inl hb
                · exact .inr ⟨_, x, hx, hno, hb⟩
          · exfalso
            obtain ⟨f, xs, cs, _, hk⟩ := hk
            rcases hk with ⟨rfl, _⟩ | ⟨b, o, len, cap, vs, rfl, _⟩ <;> exact hv1 rfl
    · cases h
  · cases h

/-- a beginning of a slice of ours becomes a slice of its own -/
def truncSt (t : Nat) (st : St) (R : List Res) : Option (St × List Res) :=
  match getE (mkL st) t with
  | some en => match en.v with
    | .d (.osb i lo m sz) => match R[i]? with
      | some (.sl e s rows) => bif Nat.beq sz s then some (setSt t (.d (.os R.length)) st, R.set i .non ++ [.sl e s ((rows.drop lo).take m)]) else none
      | _ => none
    | _ => none
  | none => none

theorem setSt_mem2 {t : Nat} {v : AV} : ∀ {st : St} {e : Ent}, e ∈ mkL (setSt t v st) → (e.t = t ∧ e.p = [] ∧ e.v = v) ∨ (e ∈ mkL st ∧ e.t ≠ t)
  | [], e, h => by cases h
  | (u, x) :: r, e, h => by
    unfold setSt at h
    cases hb : Nat.beq u t with
    | true =>
      rw [hb] at h
      simp only [cond_true, mkL, List.mem_cons] at h
      rcases h with rfl | h
      · exact .inl ⟨Nat.eq_of_beq_eq_true hb, rfl, rfl⟩
      · rcases setSt_mem2 h with h | ⟨h, h'⟩
        · exact .inl h
        · exact .inr ⟨List.mem_cons_of_mem _ h, h'⟩
    | false =>
      rw [hb] at h
      simp only [cond_false, mkL, List.mem_cons] at h
      rcases h with rfl | h
      · refine .inr ⟨List.mem_cons_self, fun e => ?_⟩
        simp only at e
        subst e
        simp at hb
      · rcases setSt_mem2 h with h | ⟨h, h'⟩
        · exact .inl h
        · exact .inr ⟨List.mem_cons_of_mem _ h, h'⟩

theorem Sat.trunc {t : Nat} (h : truncSt t st R = some (st', R')) (hs : Sat n C (mkL st) R a w) : Sat n C (mkL st') R' a w := by
  unfold truncSt at h
  split at h
  · rename_i en hen
    split at h
    · rename_i i lo m sz hev
      split at h
      · rename_i e s rows hi
        cases hb : Nat.beq sz s with
        | false => rw [hb] at h; simp at h
        | true =>
          rw [hb] at h
          simp only [cond_true, Option.some.injEq, Prod.mk.injEq] at h
          obtain ⟨rfl, rfl⟩ := h
          have := Nat.eq_of_beq_eq_true hb
          subst this
          obtain ⟨h1, h2, S, ρ, h3, h4⟩ := hs
          obtain ⟨hmem, ht⟩ := getE_mem hen
          obtain ⟨v, hv, hr⟩ := (h4 en hmem).1 (by rw [mkL_flat hmem]; exact pt_nil)
          rw [hev] at hr
          have hr' := hr.d_inv
          cases hr' with
          | @osb _ _ _ _ q ad len cap hρ hl hc hq hq2 =>
            have hfootsub : ∀ k, (Res.sl e sz ((rows.drop lo).take m)).foot (.slice (ad.map (·.add q)) m (cap - lo)) k → (Res.sl e sz rows).foot (.slice ad len cap) k := fun k hk => by
              cases ad with
              | none => exact hk
              | some ad => exact (add_block ad q).symm.trans hk
            have hI := h3.move (w' := w) (r' := .sl e sz ((rows.drop lo).take m)) (v' := .slice (ad.map (·.add q)) m (cap - lo)) hi hρ (fun _ _ _ => rfl) (Nat.le_refl _) rfl ⟨rfl, fun _ => by first | exact Nat.le_refl _ | exact Nat.le_succ _⟩ rfl (fun k hk => .inl (hfootsub k hk)) (by
              refine .inr ?_
              rcases (h3.ok i _ _ hi hρ).live rfl with ⟨k1, k2⟩ | ⟨b, o, cp, vs, k1, k2, k3, k4, k5, k6, k7⟩
              · cases k1
                subst k2
                have : m = 0 := by omega
                subst this
                have : lo = 0 := by omega
                subst this
                exact .inl ⟨rfl, by simp⟩
              · cases k1
                have hml : ((rows.drop lo).take m).length = m := by rw [List.length_take, List.length_drop]; omega
                have hfit : o + q + (cap - lo) * sz ≤ vs.size := by
                  rcases Nat.lt_or_ge lo cap with g | g
                  · rw [hq2 g, Nat.add_assoc, ← Nat.add_mul, Nat.add_sub_cancel' (Nat.le_of_lt g)]; exact k5
                  · have e0 : lo = cap := Nat.le_antisymm hc g
                    subst e0
                    rw [Nat.sub_self, Nat.zero_mul]; omega
                refine .inr ⟨b, o + q, cap - lo, vs, by rw [hml]; show Value.slice (some (Addr.add ⟨b, o, none⟩ q)) _ _ = _; rw [add_mk], k2, by rw [hml]; omega, by omega, hfit, fun row hr => k6 row (List.mem_of_mem_drop (List.mem_of_mem_take hr)), fun i2 row hi2 j d hj => ?_⟩
                grind)
            have hnew : (ρ ++ [Value.slice (ad.map (·.add q)) m (cap - lo)])[R.length]? = some (.slice (ad.map (·.add q)) m (cap - lo)) := by rw [← h3.len]; simp
            refine ⟨h1, h2, S, _, hI, fun x hx => ?_⟩
            rcases setSt_mem2 hx with ⟨g1, g2, g3⟩ | ⟨g1, _⟩
            · exact ⟨fun _ => ⟨_, by rw [g1, ← ht]; exact hv, by rw [g3]; exact .d (.os hnew rfl)⟩, fun hn => absurd (by rw [g2]; exact pt_nil) hn⟩
            · exact ent_mono (h4 x g1) (fun _ h => h) (Pre.append _ _)
      · cases h
    · cases h
  · cases h

/-- what a call hands back as ours is given up at once -/
theorem _root_.Go.SL.CallOk.frz {f : FuncId} {args : List AV} {res : AV} {R2 : List Res} (i : Nat) {e size : Nat} {rows : List (List Pd)} (h : CallOk P f args R res R2) (hi : R2[i]? = some (.sl e size rows)) :
    CallOk P f args R (res.frz i size rows) ((R2.set i .non).map (Res.frz i size rows)) := by
  intro S w ρ vs hs hv
  refine Calls.mono (h S w ρ vs hs hv) fun e w' hp => ?_
  obtain ⟨v, S', ρ', rfl, hr, hI⟩ := hp
  obtain ⟨S2, _, hI2, ha⟩ := hI.frz hi
  grind

/-! ### lending to a call that hands back new things of plain data -/
def D.own : D → Bool
  | .p (.v _) => true
  | .os _ => true
  | .o _ _ => true
  | _ => false
mutual
def AV.own : AV → Bool
  | .d x => x.own
  | .agg ds => ds.all D.own
  | .tup l => AV.ownL l
def AV.ownL : List AV → Bool
  | [] => true
  | a :: r => a.own && AV.ownL r
end
def FlatRes : Res → Prop
  | .sl _ _ rows => ∀ row, row ∈ rows → ∀ d, d ∈ row → ∃ v, d = .v v
  | .box _ cells => cells.all D.own = true
  | .non => True
  | _ => False
def FlatAll : List Res → Prop
  | [] => True
  | r :: l => FlatRes r ∧ FlatAll l
def Pd.isV : Pd → Bool
  | .v _ => true
  | _ => false
theorem flat_sl {α : Type} {enc : α → List Pd} (h : ∀ x, (enc x).all Pd.isV = true) {e z : Nat} {l : List α} : FlatRes (.sl e z (l.map enc)) := by
  intro row hr d hd
  obtain ⟨x, _, rfl⟩ := List.mem_map.1 hr
  have := (List.all_eq_true.1 (h x)) d hd
  cases d with
  | v y => exact ⟨y, rfl⟩
  | s r => cases this
theorem FlatAll.get : ∀ {l : List Res} {j : Nat} {r : Res}, FlatAll l → l[j]? = some r → FlatRes r
  | [], j, r, _, h => by simp at h
  | a :: l, 0, r, hf, h => by simp at h; subst h; exact hf.1
  | a :: l, j + 1, r, hf, h => by simp at h; exact FlatAll.get hf.2 h

theorem Rd.own_mv {k : Nat} {x : Value} {d d' : D} (h : Rd S w ρ x d) (ho : d.own = true) (he : d.ren (fun j => some (k + j)) = some d') {ρ2 : List Value} (hρ : ∀ (j : Nat) v, ρ[j]? = some v → ρ2[k + j]? = some v) : Rd S' w' ρ2 x d' := by
  cases d with
  | p y =>
    cases y with
    | v z =>
      simp [D.ren] at he; subst he
      have hp := h.p_inv
      cases hp with | v _ h1 => exact .p (.v _ h1)
    | s r => cases ho
  | os i =>
    simp [D.ren] at he; subst he
    exact .os (hρ _ _ h.os_inv) h.one
  | o i off =>
    simp [D.ren] at he; subst he
    obtain ⟨b, rfl, h2⟩ := h.o_inv
    exact .o (hρ _ _ h2)
  | _ => cases ho

theorem RdA.own_mv {k : Nat} {ρ2 : List Value} (hρ : ∀ (j : Nat) v, ρ[j]? = some v → ρ2[k + j]? = some v) {x : Value} {d : AV} (h : RdA S w ρ x d) : d.own = true → ∀ d', d.ren (fun j => some (k + j)) = some d' → RdA S' w' ρ2 x d' := by
  induction h with
  | d h =>
    intro ho d' he
    simp only [AV.ren] at he
    split at he
    · rename_i y hy
      simp at he; subst he
      exact .d (h.own_mv ho hy hρ)
    · cases he
  | agg h =>
    intro ho d' he
    simp only [AV.ren] at he
    split at he
    · rename_i es hes
      simp at he; subst he
      obtain ⟨g1, g2⟩ := renL_get hes
      refine .agg (All2.of_get (by rw [h.length, g1]) fun j x d hx hd => ?_)
      obtain ⟨d0, k1, k2⟩ := g2 j d hd
      exact (h.both hx k1).own_mv ((List.all_eq_true.1 ho) _ (List.mem_of_getElem? k1)) k2 hρ
    · cases he
  | tup hl h ih =>
    intro ho d' he
    simp only [AV.ren] at he
    split at he
    · rename_i m hm
      simp at he; subst he
      obtain ⟨g1, g2⟩ := avRenL_get hm
      refine .tup (by rw [hl, g1]) fun j x a hx ha => ?_
      obtain ⟨a0, k1, k2⟩ := g2 j a ha
      have hoj : ∀ {l : List AV}, AV.ownL l = true → ∀ {j : Nat} {a : AV}, l[j]? = some a → a.own = true := by
        intro l
        induction l with
        | nil => intro _ j a h; simp at h
        | cons b l ih =>
          intro ho j a h
          simp only [AV.ownL, Bool.and_eq_true] at ho
          grind
      exact ih j x a0 hx k1 (hoj ho k1) a k2
    · cases he

def _root_.Go.SL.frzAll : List Nat → AV → List Res → Option (AV × List Res)
  | [], res, R2 => some (res, R2)
  | i :: is, res, R2 => match R2[i]? with
    | some (.sl _ size rows) => Go.SL.frzAll is (res.frz i size rows) ((R2.set i .non).map (Res.frz i size rows))
    | _ => none
theorem _root_.Go.SL.CallOk.frzAll {f : FuncId} {args : List AV} : ∀ (is : List Nat) {res res' : AV} {R2 R2' : List Res} (_ : CallOk P f args R res R2) (_ : Go.SL.frzAll is res R2 = some (res', R2')), CallOk P f args R res' R2'
  | [], _, _, _, _, h, hq => by simp only [Go.SL.frzAll, Option.some.injEq, Prod.mk.injEq] at hq; obtain ⟨rfl, rfl⟩ := hq; exact h
  | i :: is, _, _, _, _, h, hq => by
    simp only [Go.SL.frzAll] at hq
    split at hq
    · rename_i e size rows hi
      exact CallOk.frzAll is (h.frz i hi) hq
    · cases hq
theorem _root_.Go.SL.CallOk.lend {f : FuncId} {args args' : List AV} {res res' : AV} {R2 R2' : List Res} (h : CallOk P f args' [] res R2) (hv : AV.viewL R [] args = some args') (ho : (oisL args).isEmpty = true) (hres : res.own = true) (hR : FlatAll R2)
    (e1 : res.ren (fun j => some (R.length + j)) = some res') (e2 : renRs (fun j => some (R.length + j)) R2 = some R2') : CallOk P f args R res' (R ++ R2') := by
  intro S w ρ vs hs hvs
  have hI := hs.inv
  have hno : ∀ b, ¬ feet [] [] b := by rintro b ⟨i, r, h, h1, _⟩; simp at h1
  have hst : Start (lentS S ρ R) w [] [] := ⟨rfl, by simp, by simp, by simp, fun b hb => by
    rcases hb with hb | ⟨i, r, h, h1, h2, h3⟩
    · exact (hI.sup b hb).1
    · exact (hI.own i r h b h1 h2 h3).2.1, hI.glOk.mono (fun _ h => .inl h) fun _ _ => rfl⟩
  have hargs := AVviewL_ok hI hvs (fun g k s tys rows hm => by rw [List.isEmpty_iff.1 ho] at hm; cases hm) hv
  refine (h _ w [] vs hst hargs).mono fun e w' hp => ?_
  obtain ⟨v, S1, ρ1, rfl, hr, hq⟩ := hp
  have hsame : ∀ b, b < w.heap.size → w'.heap[b]? = w.heap[b]? := fun b hb => hq.frm b hb (hno b)
  have hL : ρ.length = R.length := hs.len
  have hρ1 : ∀ (j : Nat) u, ρ1[j]? = some u → (ρ ++ ρ1)[R.length + j]? = some u := fun j u hj => by
    rw [List.getElem?_append_right (by omega), hL, show R.length + j - R.length = j from by omega]; exact hj
  obtain ⟨m1, m2⟩ := renRs_get e2
  have foot_ren : ∀ {r r' : Res} {u : Value} {b : Nat}, FlatRes r → r.ren (fun j => some (R.length + j)) = some r' → (r'.foot u b ↔ r.foot u b) := by
    intro r r' u b hf he
    cases r with
    | box t cells =>
      simp only [Res.ren] at he
      split at he
      · simp at he; subst he; rfl
      · cases he
    | sl e s rows => simp [Res.ren] at he; subst he; rfl
    | non => simp [Res.ren] at he; subst he; rfl
    | _ => exact hf.elim
  have key : ∀ (i : Nat) r u, (R ++ R2')[i]? = some r → (ρ ++ ρ1)[i]? = some u → (R[i]? = some r ∧ ρ[i]? = some u ∧ i < R.length) ∨ ∃ j r0, i = R.length + j ∧ R2[j]? = some r0 ∧ r0.ren (fun j => some (R.length + j)) = some r ∧ ρ1[j]? = some u := by
    intro i r u h1 h2
    rcases Nat.lt_or_ge i R.length with hi | hi
    · rw [List.getElem?_append_left hi] at h1
      rw [List.getElem?_append_left (by omega)] at h2
      exact .inl ⟨h1, h2, hi⟩
    · rw [List.getElem?_append_right hi] at h1
      rw [List.getElem?_append_right (by omega), hL] at h2
      obtain ⟨r0, g1, g2⟩ := m2 _ r h1
      exact .inr ⟨i - R.length, r0, by omega, g1, g2, h2⟩
  have hsub : ∀ b, lentS S ρ R b → S1 b := hq.sub
  refine ⟨v, S, ρ ++ ρ1, rfl, hr.own_mv hρ1 hres res' e1, ⟨?_, ?_, ?_, ?_, fun _ h => h, ?_, ?_, hq.size, hq.os, hq.tape, hq.output, Pre.append _ _, hI.gl⟩⟩
  · rw [List.length_append, List.length_append, hL, m1, ← hq.len]
  · intro i r u h1 h2
    rcases key i r u h1 h2 with ⟨g1, g2, _⟩ | ⟨j, r0, rfl, g1, g2, g3⟩
    · exact (hI.ok i r u g1 g2).mono (fun _ h => h) (fun b hb => hsame b (hI.sup b hb).1) (Pre.append _ _) (fun b hb => hsame b (hI.own i r u b g1 g2 hb).2.1)
    · have hf := hR.get g1
      rcases hq.ok j r0 u g1 g3 with hd | hk
      · exact .inl hd
      · refine .inr ?_
        cases r0 with
        | box t cells =>
          simp only [Res.ren] at g2
          split at g2
          · rename_i cs hcs
            simp at g2; subst g2
            obtain ⟨b, vs2, rfl, hb, hc⟩ := hk
            obtain ⟨q1, q2⟩ := renL_get hcs
            refine ⟨b, vs2, rfl, hb, All2.of_get (by rw [hc.length, q1]) fun i x d hx hd => ?_⟩
            obtain ⟨d0, p1, p2⟩ := q2 i d hd
            exact (hc.both hx p1).own_mv ((List.all_eq_true.1 hf) _ (List.mem_of_getElem? p1)) p2 hρ1
          · cases g2
        | sl e s rows =>
          simp [Res.ren] at g2; subst g2
          rcases hk with h0 | ⟨b, o, cap, vs2, rfl, hb, k1, k2, k3, k4, k5⟩
          · exact .inl h0
          · refine .inr ⟨b, o, cap, vs2, rfl, hb, k1, k2, k3, k4, fun i row hi j d hj => ?_⟩
            obtain ⟨x, hx, hr⟩ := k5 i row hi j d hj
            obtain ⟨y, rfl⟩ := hf row (List.mem_of_getElem? hi) d (List.mem_of_getElem? hj)
            cases hr with | v _ h1 => exact ⟨_, hx, .v _ h1⟩
        | non => simp [Res.ren] at g2; subst g2; trivial
        | _ => exact hf.elim
  · intro i j r r' u u' b hij h1 h2 h3 h4 h5 h6
    rcases key i r u h1 h3 with ⟨g1, g2, g3⟩ | ⟨i0, r0, rfl, g1, g2, g3⟩ <;> rcases key j r' u' h2 h4 with ⟨k1, k2, k3⟩ | ⟨j0, q0, rfl, k1, k2, k3⟩
    · exact hI.dis i j r r' u u' b hij g1 k1 g2 k2 h5 h6
    · rw [foot_ren (hR.get k1) k2] at h6
      exact (hq.own j0 q0 u' b k1 k3 h6).1 (hsub b (.inr ⟨i, r, u, g1, g2, h5⟩))
    · rw [foot_ren (hR.get g1) g2] at h5
      exact (hq.own i0 r0 u b g1 g3 h5).1 (hsub b (.inr ⟨j, r', u', k1, k2, h6⟩))
    · rw [foot_ren (hR.get g1) g2] at h5
      rw [foot_ren (hR.get k1) k2] at h6
      exact hq.dis i0 j0 r0 q0 u u' b (fun e => hij (by rw [e])) g1 k1 g3 k3 h5 h6
  · intro i r u b h1 h2 h3
    rcases key i r u h1 h2 with ⟨g1, g2, g3⟩ | ⟨i0, r0, rfl, g1, g2, g3⟩
    · obtain ⟨o1, o2, o3⟩ := hI.own i r u b g1 g2 h3
      exact ⟨o1, Nat.lt_of_lt_of_le o2 hq.size, o3⟩
    · rw [foot_ren (hR.get g1) g2] at h3
      obtain ⟨o1, o2, o3⟩ := hq.own i0 r0 u b g1 g3 h3
      refine ⟨fun hb => o1 (hsub b (.inl hb)), o2, ?_⟩
      rcases o3 with o3 | o3
      · exact absurd o3 (hno b)
      · exact .inr o3
  · intro b hb
    exact ⟨Nat.lt_of_lt_of_le (hI.sup b hb).1 hq.size, .inl hb⟩
  · intro b hb _
    exact hsame b hb
end
end Go.SL
