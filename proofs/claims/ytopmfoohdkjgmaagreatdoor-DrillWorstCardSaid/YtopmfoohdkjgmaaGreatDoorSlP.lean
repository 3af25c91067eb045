/-
  The logic, sixteenth part: a region that draws its order: the facts on single operations.
-/
import Derived.Test.YtopmfoohdkjgmaaGreatDoorSlO
namespace Go.SL

section
variable {P : Program} {C : Ctx} {S S' : Nat → Prop} {w w' : World} {ρ ρ' : List Value} {R R' : List Res} {L : List Ent} {cur : Path} {a : Act}

theorem touch_mem : ∀ {L : List Ent} {e : Ent} {i off : Nat}, e ∈ L → e.v = .d (.o i off) → i ∈ touch L
  | x :: r, e, i, off, h, hv => by
    rcases List.mem_cons.1 h with rfl | h
    · simp [touch, hv]
    · have := touch_mem h hv
      unfold touch; split <;> simp [this]
  | [], _, _, _, h, _ => by cases h
theorem touch_mem_s : ∀ {L : List Ent} {e : Ent} {i : Nat}, e ∈ L → e.v = .d (.os i) → i ∈ touch L
  | x :: r, e, i, h, hv => by
    rcases List.mem_cons.1 h with rfl | h
    · simp [touch, hv]
    · have := touch_mem_s h hv
      unfold touch; split <;> simp [this]
  | [], _, _, h, _ => by cases h

theorem touch_mem_e : ∀ {L : List Ent} {e : Ent} {i a b c : Nat}, e ∈ L → e.v = .d (.oe i a b c) → i ∈ touch L
  | x :: r, e, i, a, b, c, h, hv => by
    rcases List.mem_cons.1 h with rfl | h
    · simp [touch, hv]
    · have := touch_mem_e h hv
      unfold touch; split <;> simp [this]
  | [], _, _, _, _, _, h, _ => by cases h

theorem touch_mem_b : ∀ {L : List Ent} {e : Ent} {i a b c : Nat}, e ∈ L → e.v = .d (.osb i a b c) → i ∈ touch L
  | x :: r, e, i, a, b, c, h, hv => by
    rcases List.mem_cons.1 h with rfl | h
    · simp [touch, hv]
    · have := touch_mem_b h hv
      unfold touch; split <;> simp [this]
  | [], _, _, _, _, _, h, _ => by cases h
theorem touch_mem_oi : ∀ {L : List Ent} {e : Ent} {i g a b c : Nat}, e ∈ L → e.v = .d (.oi i g a b c) → i ∈ touch L ∧ g ∈ touch L
  | x :: r, e, i, g, a, b, c, h, hv => by
    rcases List.mem_cons.1 h with rfl | h
    · simp [touch, hv]
    · have := touch_mem_oi h hv
      unfold touch; split <;> simp [this]
  | [], _, _, _, _, _, _, h, _ => by cases h
theorem ghosts_mem {i g e s : Nat} : ∀ {l : List Nat}, i ∈ l → R[i]? = some (.dsl e s g) → g ∈ ghosts R l
  | [], h, _ => by cases h
  | j :: l, h, hi => by
    rcases List.mem_cons.1 h with rfl | h
    · simp [ghosts, hi]
    · have := ghosts_mem h hi
      unfold ghosts; split <;> simp [this]
theorem deepen_mem {i : Nat} {l : List Nat} (h : i ∈ l) : i ∈ deepen R l := List.mem_append_left _ h
theorem deepen_g {i g e s : Nat} {l : List Nat} (h : i ∈ l) (hi : R[i]? = some (.dsl e s g)) : g ∈ deepen R l := List.mem_append_right _ (ghosts_mem h hi)

theorem avOf_no {v : Value} {i off a b c : Nat} : avOf v ≠ some (.d (.o i off)) ∧ avOf v ≠ some (.d (.os i)) ∧ avOf v ≠ some (.d (.oe i a b c)) ∧ avOf v ≠ some (.d (.osb i a b c)) ∧ ∀ g, avOf v ≠ some (.d (.oi i g a b c)) := by
  unfold avOf
  split
  · refine ⟨?_, ?_, ?_, ?_, fun _ => ?_⟩ <;> (cases dsOf (_ : Array Value).toList <;> simp)
  · simp
  grind [dOf]

theorem look_touch {x : Operand} {i off : Nat} (h : look L cur x = some (.d (.o i off))) : i ∈ touch L := by
  unfold look at h
  split at h
  · exact absurd h (avOf_no (a := 0) (b := 0) (c := 0)).1
  · split at h
    · rename_i e he
      cases hb : prefixB e.p cur with
      | false => rw [hb] at h; simp at h
      | true => rw [hb] at h; simp at h; exact touch_mem (getE_mem he).1 h
    · cases h
  · simp at h
  · cases h
theorem base_os {x : Operand} {i : Nat} (h : evBase L cur x = some (.d (.os i))) : look L cur x = some (.d (.os i)) := by
  cases x with
  | global g =>
    simp only [evBase] at h
    obtain ⟨cells, _, h2⟩ := mapE h
    cases h2
  | _ => exact h
theorem base_osb {x : Operand} {i a b c : Nat} (h : evBase L cur x = some (.d (.osb i a b c))) : look L cur x = some (.d (.osb i a b c)) := by
  cases x with
  | global g =>
    simp only [evBase] at h
    obtain ⟨cells, _, h2⟩ := mapE h
    cases h2
  | _ => exact h
theorem look_touch_s {x : Operand} {i : Nat} (h : look L cur x = some (.d (.os i))) : i ∈ touch L := by
  unfold look at h
  split at h
  · exact absurd h (avOf_no (off := 0) (a := 0) (b := 0) (c := 0)).2.1
  · split at h
    · rename_i e he
      cases hb : prefixB e.p cur with
      | false => rw [hb] at h; simp at h
      | true => rw [hb] at h; simp at h; exact touch_mem_s (getE_mem he).1 h
    · cases h
  · simp at h
  · cases h
theorem look_touch_e {x : Operand} {i k s off : Nat} (h : look L cur x = some (.d (.oe i k s off))) : i ∈ touch L := by
  unfold look at h
  split at h
  · exact absurd h (avOf_no (off := 0)).2.2.1
  · split at h
    · rename_i e he
      cases hb : prefixB e.p cur with
      | false => rw [hb] at h; simp at h
      | true => rw [hb] at h; simp at h; exact touch_mem_e (getE_mem he).1 h
    · cases h
  · simp at h
  · cases h
theorem look_touch_b {x : Operand} {i k s off : Nat} (h : look L cur x = some (.d (.osb i k s off))) : i ∈ touch L := by
  unfold look at h
  split at h
  · exact absurd h (avOf_no (off := 0)).2.2.2.1
  · split at h
    · rename_i e he
      cases hb : prefixB e.p cur with
      | false => rw [hb] at h; simp at h
      | true => rw [hb] at h; simp at h; exact touch_mem_b (getE_mem he).1 h
    · cases h
  · simp at h
  · cases h
theorem look_touch_oi {x : Operand} {i g k s off : Nat} (h : look L cur x = some (.d (.oi i g k s off))) : i ∈ touch L ∧ g ∈ touch L := by
  unfold look at h
  split at h
  · exact absurd h ((avOf_no (off := 0)).2.2.2.2 g)
  · split at h
    · rename_i e he
      cases hb : prefixB e.p cur with
      | false => rw [hb] at h; simp at h
      | true => rw [hb] at h; simp at h; exact touch_mem_oi (getE_mem he).1 h
    · cases h
  · simp at h
  · cases h
theorem lookAll_mem : ∀ {l : List Operand} {avs : List AV} {av : AV}, lookAll L cur l = some avs → av ∈ avs → ∃ x, look L cur x = some av
  | [], avs, av, h, hm => by simp [lookAll] at h; subst h; cases hm
  | x :: r, avs, av, h, hm => by
    simp only [lookAll] at h
    split at h
    · rename_i v l h1 h2
      simp at h; subst h
      rcases List.mem_cons.1 hm with rfl | hm
      · exact ⟨x, h1⟩
      · exact lookAll_mem h2 hm
    · cases h

theorem evLenS_frame {args : List AV} (h : ∀ i, AV.d (.os i) ∈ args → R[i]? = R'[i]?) (hg : ∀ i e s g, AV.d (.os i) ∈ args → R[i]? = some (.dsl e s g) → R[g]? = R'[g]?) : evLenS R args = evLenS R' args := by
  unfold evLenS
  split
  · rfl
  · rfl
  · rename_i i
    rw [← h i (by simp)]
    split
    · rfl
    · rename_i e s g hd
      rw [hg i e s g (by simp) hd]
    · rfl
    · rfl
  · rfl
  · rfl

theorem evPure_frame {c : Cl} {op : Op} (h0 : ∀ i, i ∈ deepen R (touchOp op L) → R[i]? = R'[i]?) : evPure P L cur R c op = evPure P L cur R' c op := by
  have h : ∀ i, i ∈ touchOp op L → R[i]? = R'[i]? := fun i hi => h0 i (deepen_mem hi)
  have hgh : ∀ i e s g, i ∈ touchOp op L → R[i]? = some (.dsl e s g) → R[g]? = R'[g]? := fun i e s g hi hd => h0 g (deepen_g hi hd)
  cases op with
  | load t x =>
    by_cases hg : ∃ g, x = .global g
    · obtain ⟨g, rfl⟩ := hg
      rfl
    have e : ∀ R, evPure P L cur R c (.load t x) = evLoad P L cur R c t x := fun R => by
      cases x with
      | global g => exact absurd ⟨g, rfl⟩ hg
      | _ => rfl
    rw [e, e]
    unfold evLoad
    split
    · rename_i i off n e1 e2
      rw [h i (look_touch e1)]
    · rfl
    · rename_i i k size off n e1 e2
      rw [← h i (look_touch_e e1)]
      split
      · rfl
      · rename_i e s g _ _ _ hd
        rw [hgh i _ _ _ (look_touch_e e1) hd]
      · rfl
      · rfl
    · rfl
  | binOp b t x y z =>
    simp only [evPure]
    unfold evEqS
    split
    · rfl
    · split
      · rfl
      · rename_i i e1 e2
        rw [h i (look_touch_s e1)]
      · rfl
      · rfl
  | convert s d x =>
    simp only [evPure]
    unfold evStrB
    split
    · rfl
    · split
      · split
        · rename_i i e1 e2
          rw [h i (look_touch_s e2)]
        · rfl
        · rfl
      · rfl
  | indexAddr t x i =>
    simp only [evPure]
    unfold evIdx
    split
    · rfl
    · rename_i e j ik n e1 e2 e3
      rw [← h j (look_touch_s (base_os e2))]
      split
      · rfl
      · rename_i e s g _ _ _ hd
        rw [hgh j _ _ _ (look_touch_s (base_os e2)) hd]
      · rfl
      · rfl
    · rename_i e j lo m s2 ik n e1 e2 e3
      rw [← h j (look_touch_b (base_osb e2))]
    · rfl
    · rfl
    · rfl
    · rfl
  | call k =>
    simp only [evPure]
    split
    · split
      · rename_i args e1
        split
        · split
          · rw [evLenS_frame (R' := R') (fun i hi => by
              obtain ⟨x, hx⟩ := lookAll_mem e1 hi
              exact h i (look_touch_s hx)) (fun i e s g hi hd => by
              obtain ⟨x, hx⟩ := lookAll_mem e1 hi
              exact hgh i e s g (look_touch_s hx) hd)]
          · rfl
          · rfl
        · rfl
        · rfl
      · rfl
    · rfl
  | slice t x lo hi mx =>
    cases mx with
    | none =>
      simp only [evPure]
      split
      · rfl
      · rename_i e i e1 e2
        rw [h i (look_touch_s e2)]
      · rename_i e i o0 n0 s0 e1 e2
        rw [h i (look_touch_b e2)]
      · rfl
      · rfl
      · rfl
    | some mx =>
      cases lo with
      | none => rfl
      | some lo =>
        cases hi with
        | none => rfl
        | some hi =>
          simp only [evPure]
          split
          · rename_i e i e1 e2
            rw [h i (look_touch_s e2)]
          · rfl
  | _ => rfl

mutual
theorem dRen_none (f : Nat → Option Nat) : ∀ (d d' : D), D.ren (fun _ => none) d = some d' → D.ren f d = some d'
  | .p x, d', h => h
  | .o i off, d', h => by simp [D.ren] at h
  | .os i, d', h => by simp [D.ren] at h
  | .oe i k s off, d', h => by simp [D.ren] at h
  | .ip c, d', h => h
  | .any, d', h => h
  | .nq _, d', h => h
  | .fb _ _, d', h => h
  | .osb _ _ _ _, d', h => by simp [D.ren] at h
  | .oi _ _ _ _ _, d', h => by simp [D.ren] at h
  | .fn g a b, d', h => by
    simp only [D.ren] at h ⊢
    split at h
    · rename_i a' b' h1 h2
      rw [dRenL_none f a a' h1, dRenL_none f b b' h2]
      exact h
    · cases h
theorem dRenL_none (f : Nat → Option Nat) : ∀ (l l' : List D), D.renL (fun _ => none) l = some l' → D.renL f l = some l'
  | [], l', h => h
  | d :: r, l', h => by
    simp only [D.renL] at h ⊢
    split at h
    · rename_i d' r' h1 h2
      rw [dRen_none f d d' h1, dRenL_none f r r' h2]
      exact h
    · cases h
end
mutual
theorem avRen_none (f : Nat → Option Nat) : ∀ (d d' : AV), AV.ren (fun _ => none) d = some d' → AV.ren f d = some d'
  | .d x, d', h => by
    simp only [AV.ren] at h ⊢
    split at h
    · rename_i y hy
      rw [dRen_none f x y hy]; exact h
    · cases h
  | .agg ds, d', h => by
    simp only [AV.ren] at h ⊢
    split at h
    · rename_i y hy
      rw [dRenL_none f ds y hy]; exact h
    · cases h
  | .tup l, d', h => by
    simp only [AV.ren] at h ⊢
    split at h
    · rename_i y hy
      rw [avRenL_none f l y hy]; exact h
    · cases h
theorem avRenL_none (f : Nat → Option Nat) : ∀ (l l' : List AV), AV.renL (fun _ => none) l = some l' → AV.renL f l = some l'
  | [], l', h => h
  | d :: r, l', h => by
    simp only [AV.renL] at h ⊢
    split at h
    · rename_i d' r' h1 h2
      rw [avRen_none f d d' h1, avRenL_none f r r' h2]
      exact h
    · cases h
end

theorem renRs_nil {f : Nat → Option Nat} : renRs f [] = some [] := rfl

/-- a call that is handed nothing of ours does not look at it -/
theorem evCall_frame {args : List AV} {f : FuncId} {c : Cl} {out : Out} (hn : noRes c = true) (hc : closedRes c = true)
    (h : evCall R args f c = some out) : out.R = R ∧ evCall R' args f c = some { out with R := R' } := by
  unfold noRes at hn
  split at hn
  · rename_i g q1 q2 res R2 pi
    simp only [Bool.and_eq_true, List.isEmpty_iff] at hn
    obtain ⟨rfl, rfl⟩ := hn
    obtain ⟨res', hres⟩ := Option.isSome_iff_exists.1 hc
    unfold evCall at h ⊢
    simp only at h ⊢
    generalize hbb : (Nat.beq f g && noDup [] && Nat.ble ([] : List Nat).length ([] : List Res).length) = bb at h ⊢
    cases bb with
    | false => simp at h
    | true =>
      simp only [cond_true] at h ⊢
      split at h
      · rename_i a' Rp e1 e2
        rw [e1]
        simp only [picks] at e2 ⊢
        simp only [Option.some.injEq] at e2
        subst e2
        simp only [renRs, avRen_none _ res res' hres] at h ⊢
        simp at h; subst h
        simp [setAll]
      · cases h
  · cases hn

theorem osOf_mem {i : Nat} : ∀ {l : List D}, D.os i ∈ l → i ∈ osOf l
  | [], h => by cases h
  | d :: r, h => by
    rcases List.mem_cons.1 h with e | h
    · subst e; simp [osOf]
    · have := osOf_mem h
      cases d <;> simp [osOf, this]
theorem viewPs0_frame : ∀ {l : List D}, (∀ i, i ∈ osOf l → R[i]? = R'[i]?) → viewPs0 R l = viewPs0 R' l
  | [], _ => rfl
  | d :: r, h => by
    have ih : viewPs0 R r = viewPs0 R' r := viewPs0_frame fun i hi => h i (by cases d <;> simp [osOf, hi])
    have hd : viewP0 R d = viewP0 R' d := by
      cases d with
      | os i => simp only [viewP0]; rw [h i (by simp [osOf])]
      | _ => rfl
    simp only [viewPs0, ih, hd]
theorem viewV_frame {i : Nat} {e s : Nat} {cells : List D} (hi : R[i]? = some (.vec e s cells)) (h : ∀ k, k ∈ vecOf R i → R[k]? = R'[k]?) : viewV R s cells = viewV R' s cells := by
  unfold viewV
  rw [viewPs0_frame (R' := R') fun k hk => h k (by unfold vecOf; rw [hi]; exact hk)]
theorem viewPd_frame {i : Nat} (h0 : R[i]? = R'[i]?) (h : ∀ k, k ∈ vecOf R i → R[k]? = R'[k]?) : viewPd R (.os i) = viewPd R' (.os i) := by
  simp only [viewPd]
  rw [← h0]
  split
  · rfl
  · rfl
  · rename_i e s cells hi
    exact viewV_frame hi h
  · rfl
theorem viewPds_frame : ∀ {l : List D}, (∀ i, i ∈ osDeep R l → R[i]? = R'[i]?) → viewPds R l = viewPds R' l
  | [], _ => rfl
  | d :: r, h => by
    have ih : viewPds R r = viewPds R' r := viewPds_frame fun i hi => h i (by cases d <;> simp [osDeep, hi])
    have hd : viewPd R d = viewPd R' d := by
      cases d with
      | os i => exact viewPd_frame (h i (by simp [osDeep])) fun k hk => h k (by simp [osDeep, hk])
      | _ => rfl
    simp only [viewPds, ih, hd]
mutual
theorem Dview_frame {rw : List Pd} : ∀ {d : D}, (∀ i, i ∈ d.touchV R → R[i]? = R'[i]?) → d.view R rw = d.view R' rw
  | .p _, _ => rfl
  | .ip _, _ => rfl
  | .any, _ => rfl
  | .nq _, _ => rfl
  | .fb _ _, _ => rfl
  | .oe _ _ _ _, _ => rfl
  | .osb i _ _ _, h => by simp only [D.view]; rw [h i (by simp [D.touchV])]
  | .oi _ g _ _ _, h => by simp only [D.view]; rw [h g (by simp [D.touchV])]
  | .os i, h => by
    have h0 := h i (by simp [D.touchV])
    simp only [D.view]
    rw [← h0]
    split
    · rfl
    · rfl
    · rename_i e s cells hi
      rw [viewV_frame hi fun k hk => h k (by simp [D.touchV, hk])]
    · rfl
  | .o i off, h => by
    have h0 := h i (by simp [D.touchV])
    simp only [D.view]
    rw [← h0]
    cases hi : R[i]? with
    | none => rfl
    | some r => cases r with
      | box t cells =>
        simp only
        rw [viewPds_frame (R' := R') fun k hk => h k (by simp only [D.touchV, hi]; exact List.mem_cons_of_mem _ hk)]
      | _ => rfl
  | .fn g a b, h => by
    have h1 := DviewL_frame (rw := rw) (l := a) fun i hi => h i (by simp only [D.touchV]; exact List.mem_append_left _ hi)
    have h2 := DviewL_frame (rw := rw) (l := b) fun i hi => h i (by simp only [D.touchV]; exact List.mem_append_right _ hi)
    simp only [D.view, h1, h2]
theorem DviewL_frame {rw : List Pd} : ∀ {l : List D}, (∀ i, i ∈ D.touchVL R l → R[i]? = R'[i]?) → D.viewL R rw l = D.viewL R' rw l
  | [], _ => rfl
  | d :: r, h => by
    have h1 := Dview_frame (rw := rw) (d := d) fun i hi => h i (by simp only [D.touchVL]; exact List.mem_append_left _ hi)
    have h2 := DviewL_frame (rw := rw) (l := r) fun i hi => h i (by simp only [D.touchVL]; exact List.mem_append_right _ hi)
    simp only [D.viewL, h1, h2]
end
theorem AVview_frame {rw : List Pd} {x : AV} (h : ∀ i, i ∈ x.touchV R → R[i]? = R'[i]?) : x.view R rw = x.view R' rw := by
  cases x with
  | d x => simp only [AV.view]; rw [Dview_frame (R' := R') h]
  | agg l => simp only [AV.view]; rw [DviewL_frame (R' := R') h]
  | tup l => rfl
theorem AVviewL_frame {rw : List Pd} : ∀ {l : List AV}, (∀ x, x ∈ l → ∀ i, i ∈ x.touchV R → R[i]? = R'[i]?) → AV.viewL R rw l = AV.viewL R' rw l
  | [], _ => rfl
  | x :: r, h => by
    have h1 := AVview_frame (rw := rw) (x := x) (h x List.mem_cons_self)
    have h2 := AVviewL_frame (rw := rw) (l := r) fun y hy => h y (List.mem_cons_of_mem _ hy)
    simp only [AV.viewL, h1, h2]
theorem touchV_ent {e : Ent} {i : Nat} : ∀ {L : List Ent}, e ∈ L → i ∈ e.v.touchV R → i ∈ touchV R L
  | [], h, _ => by cases h
  | x :: r, h, hi => by
    simp only [touchV]
    rcases List.mem_cons.1 h with rfl | h
    · exact List.mem_append_left _ hi
    · exact List.mem_append_right _ (touchV_ent h hi)
theorem dsOf_no {i : Nat} : ∀ {l : List Value} {ds : List D}, dsOf l = some ds → i ∉ D.touchVL R ds
  | [], ds, h => by grind [dsOf, D.touchVL]
  | v :: l, ds, h => by
    simp only [dsOf] at h
    split at h
    · rename_i d r h1 h2
      simp at h; subst h
      unfold dOf at h1
      cases hb : v.oneCell' with
      | false => rw [hb] at h1; simp at h1
      | true => rw [hb] at h1; simp at h1; subst h1; simpa [D.touchVL, D.touchV] using dsOf_no h2
    · cases h
theorem avOf_touch {v : Value} {x : AV} {i : Nat} (h : avOf v = some x) : i ∉ x.touchV R := by
  unfold avOf at h
  split at h
  · cases hd : dsOf (_ : Array Value).toList with
    | none => rw [hd] at h; cases h
    | some ds => grind [AV.touchV, dsOf_no]
  · cases h
  · cases hd : dOf v with
    | none => rw [hd] at h; cases h
    | some d =>
      rw [hd] at h; simp at h; subst h
      unfold dOf at hd
      cases hb : v.oneCell' with
      | false => rw [hb] at hd; simp at hd
      | true => rw [hb] at hd; simp at hd; subst hd; simp [AV.touchV, D.touchV]
theorem look_touchV {x : Operand} {v : AV} {i : Nat} (h : look L cur x = some v) (hi : i ∈ v.touchV R) : i ∈ touchV R L := by
  unfold look at h
  split at h
  · exact absurd hi (avOf_touch h)
  · split at h
    · rename_i e he
      cases hb : prefixB e.p cur with
      | false => rw [hb] at h; simp at h
      | true => rw [hb] at h; simp at h; subst h; exact touchV_ent (getE_mem he).1 hi
    · cases h
  · simp at h; subst h; simp [AV.touchV, D.touchV, D.touchVL] at hi
  · cases h
theorem dnorm_touchV {d : D} : d.norm.touchV R = d.touchV R := by
  unfold D.norm; split <;> rfl
theorem dnormL_touchV : ∀ {l : List D}, D.touchVL R (l.map D.norm) = D.touchVL R l
  | [] => rfl
  | d :: r => by simp only [List.map_cons, D.touchVL, dnorm_touchV, dnormL_touchV]
theorem norm_touchV {x : AV} : x.norm.touchV R = x.touchV R := by
  cases x with
  | d x => exact dnorm_touchV
  | agg l => exact dnormL_touchV
  | tup l => rfl

theorem ois_touchV {g k : Nat} : ∀ {d : D}, (g, k) ∈ d.ois → g ∈ d.touchV R
  | .oi _ _ _ _ _, h => by simp [D.ois] at h; simp [D.touchV, h.1]
  | .fn f a b, h => by
    have key : ∀ {l : List D}, (∀ d, d ∈ l → (g, k) ∈ d.ois → g ∈ d.touchV R) → (g, k) ∈ D.oisL l → g ∈ D.touchVL R l := by
      intro l
      induction l with
      | nil => intro _ h; simp [D.oisL] at h
      | cons d l ih =>
        intro hh h
        simp only [D.oisL, List.mem_append] at h
        simp only [D.touchVL, List.mem_append]
        grind
    simp only [D.ois, List.mem_append] at h
    simp only [D.touchV, List.mem_append]
    rcases h with h | h
    · exact .inl (key (fun d _ h => ois_touchV h) h)
    · exact .inr (key (fun d _ h => ois_touchV h) h)
  | .p _, h => by simp [D.ois] at h
  | .o _ _, h => by simp [D.ois] at h
  | .os _, h => by simp [D.ois] at h
  | .oe _ _ _ _, h => by simp [D.ois] at h
  | .osb _ _ _ _, h => by simp [D.ois] at h
  | .ip _, h => by simp [D.ois] at h
  | .any, h => by simp [D.ois] at h
  | .nq _, h => by simp [D.ois] at h
  | .fb _ _, h => by simp [D.ois] at h
theorem oisDL_touchV {g k : Nat} : ∀ {l : List D}, (g, k) ∈ D.oisL l → g ∈ D.touchVL R l
  | [], h => by simp [D.oisL] at h
  | d :: l, h => by
    simp only [D.oisL, List.mem_append] at h
    simp only [D.touchVL, List.mem_append]
    exact h.imp ois_touchV oisDL_touchV
theorem oisL_touchV {g k : Nat} : ∀ {l : List AV}, (g, k) ∈ oisL l → ∃ x, x ∈ l ∧ g ∈ x.touchV R
  | [], h => by simp [oisL] at h
  | x :: l, h => by
    simp only [oisL, List.mem_append] at h
    rcases h with h | h
    · refine ⟨x, List.mem_cons_self, ?_⟩
      cases x with
      | d x => exact ois_touchV h
      | agg l => exact oisDL_touchV h
      | tup l => simp [AV.ois] at h
    · obtain ⟨y, h1, h2⟩ := oisL_touchV h
      grind

theorem evCallB_frame {args : List AV} {f g : FuncId} {q : List AV} {res : AV} {rows : List (List Pd)} {k : Nat} {rw : List Pd} {out : Out} (ht : ∀ x, x ∈ args → ∀ i, i ∈ x.touchV R → R[i]? = R'[i]?)
    (h : evCall R args f (.callB g q res rows k rw) = some out) : out.R = R ∧ evCall R' args f (.callB g q res rows k rw) = some { out with R := R' } := by
  simp only [evCall] at h ⊢
  generalize (Nat.beq f g && res.flat) = bb at h ⊢
  have hview : ∀ rw, AV.viewL R rw (args.map AV.norm) = AV.viewL R' rw (args.map AV.norm) := fun rw => AVviewL_frame (R := R) (R' := R') (l := args.map AV.norm) fun x hx i hi => by
    obtain ⟨y, hy, rfl⟩ := List.mem_map.1 hx
    rw [norm_touchV] at hi
    exact ht y hy i hi
  cases bb with
  | false => simp at h
  | true =>
    simp only [cond_true] at h ⊢
    split at h
    · rw [← hview]
      split at h
      · grind
      · cases h
    · rename_i g0 k0 ho
      obtain ⟨x, h1, h2⟩ := oisL_touchV (R := R) (l := args) (g := g0) (k := k0) (by rw [ho]; simp)
      rw [← hview, ← ht x h1 g0 h2]
      split at h
      · grind
      · cases h
    · cases h

theorem fnArgs_touch {g : Fn} {first caps : List D} {args : List AV} {x : AV} {i : Nat} {f : Operand} {l : List Operand} (e1 : look L cur f = some (.d (.fn g first caps))) (e2 : lookAll L cur l = some args)
    (hx : x ∈ first.map AV.d ++ args ++ caps.map AV.d) (hi : i ∈ x.touchV R) : i ∈ touchV R L := by
  have hd : ∀ {ds : List D} {d : D}, d ∈ ds → i ∈ d.touchV R → i ∈ D.touchVL R ds := by
    intro ds
    induction ds with
    | nil => intro d h; cases h
    | cons a r ih =>
      intro d h hi
      simp only [D.touchVL]
      grind
  rcases List.mem_append.1 hx with hx | hx
  · rcases List.mem_append.1 hx with hx | hx
    · obtain ⟨d, hm, rfl⟩ := List.mem_map.1 hx
      exact look_touchV e1 (by simp only [AV.touchV, D.touchV]; exact List.mem_append_left _ (hd hm hi))
    · obtain ⟨z, hz⟩ := lookAll_mem e2 hx
      exact look_touchV hz hi
  · obtain ⟨d, hm, rfl⟩ := List.mem_map.1 hx
    exact look_touchV e1 (by simp only [AV.touchV, D.touchV]; exact List.mem_append_right _ (hd hm hi))

theorem touchVL_p {i : Nat} : ∀ {ps : List Pd}, i ∉ D.touchVL R (ps.map D.p)
  | [], h => by simp [D.touchVL] at h
  | p :: ps, h => by
    simp only [List.map_cons, D.touchVL, D.touchV, List.nil_append] at h
    exact touchVL_p h
theorem fbArgs_touch {ps : List Pd} {args : List AV} {x : AV} {i : Nat} {l : List Operand} (e2 : lookAll L cur l = some args)
    (hx : x ∈ .agg (ps.map D.p) :: args) (hi : i ∈ x.touchV R) : i ∈ touchV R L := by
  rcases List.mem_cons.1 hx with rfl | hx
  · exact absurd hi touchVL_p
  · obtain ⟨z, hz⟩ := lookAll_mem e2 hx
    exact look_touchV hz hi
theorem quiet_frame {c : Cl} {o : Oper} {out : Out} (hq : quietOp c o = true) (ht0 : ∀ i, i ∈ deepen R (touchOp o.op L) ++ lentO o.op c R L → R[i]? = R'[i]?) (h : evOp P L cur R c o = some out) :
    out.R = R ∧ evOp P L cur R' c o = some { out with R := R' } := by
  have ht : ∀ i, i ∈ deepen R (touchOp o.op L) → R[i]? = R'[i]? := fun i hi => ht0 i (List.mem_append_left _ hi)
  unfold evOp at h ⊢
  rw [← evPure_frame ht]
  split at h
  · rename_i v k hv
    simp at h; subst h
    exact ⟨rfl, rfl⟩
  · rename_i hv
    obtain ⟨dst, op, type, pos, after, guard⟩ := o
    simp only at h ⊢
    cases op with
    | box t x => simp [quietOp] at hq
    | alloc t => simp [quietOp] at hq
    | store t x y => simp [quietOp] at hq
    | makeSlice t x y => simp [quietOp] at hq
    | convert s d x =>
      simp only [quietOp, Bool.not_eq_true'] at hq
      simp only at h ⊢
      have hO : ∀ R' x, evConvO P R' c s d x = none := fun R' x => by
        unfold evConvO
        split
        · simp [isZ] at hq
        · rfl
      have hB : ∀ R' x, evConvB P R' c s d x = none := fun R' x => by
        unfold evConvB
        split
        · simp [isZ] at hq
        · rfl
      unfold evConvs at h ⊢
      rw [hO, hB] at h ⊢
      split at h
      · rename_i o1 h0
        cases h
        unfold evConv at h0 ⊢
        split at h0
        · split at h0
          · rename_i he
            simp at h0; subst h0
            exact ⟨rfl, rfl⟩
          · cases h0
        · cases h0
      · cases h
    | buildSlice t len parts =>
      simp only [quietOp, Bool.not_eq_true'] at hq
      simp only at h ⊢
      split at h
      · rename_i ps e1
        unfold evBuildSlice at h ⊢
        rw [hq] at h ⊢
        split at h
        · rename_i e hu
          split at h
          · rename_i size zs e2 e3
            cases hb : (Nat.beq zs.length (size + 1) && Nat.ble (len * (size + 1)) 16777216) with
            | false => rw [hb] at h; simp at h
            | true =>
              rw [hb] at h
              simp only [cond_true, cond_false] at h ⊢
              split at h
              · rename_i pd hpd
                simp at h; subst h
                exact ⟨rfl, rfl⟩
              · simp at h
          · cases h
        · cases h
      · cases h
    | call kk =>
      obtain ⟨callee, cargs, argTypes⟩ := kk
      cases callee with
      | invoke r m => simp at h
      | builtin b => cases b <;> first | (simp [quietOp] at hq; done) | (simp at h; done)
      | value f =>
        simp only [quietOp, Bool.or_eq_true, Bool.and_eq_true] at hq
        simp only at h ⊢
        split at h
        · rename_i g first caps args e1 e2
          cases c with
          | callB g' q res rows k rw =>
            exact evCallB_frame (fun x hx i hi => ht0 i (List.mem_append_right _ (fnArgs_touch e1 e2 hx hi))) h
          | _ => first
            | (rcases hq with hq | hq
               · simp [isBor] at hq
               · exact evCall_frame hq.1 hq.2 h)
        · rename_i g ps args e1 e2
          cases c with
          | callB g' q res rows k rw =>
            exact evCallB_frame (fun x hx i hi => ht0 i (List.mem_append_right _ (fbArgs_touch (ps := ps) e2 hx hi))) h
          | _ => first
            | (rcases hq with hq | hq
               · simp [isBor] at hq
               · exact evCall_frame hq.1 hq.2 h)
        · cases h
    | _ => simp at h

theorem memN_iff : ∀ {l : List Nat} {t : Nat}, memN l t = true ↔ t ∈ l
  | [], t => by simp [memN]
  | a :: r, t => by
    simp only [memN, Bool.or_eq_true, List.mem_cons, memN_iff]
    constructor
    · rintro (h | h)
      · exact .inl (Nat.eq_of_beq_eq_true h).symm
      · exact .inr h
    · rintro (h | h)
      · subst h; exact .inl (by simp)
      · exact .inr h

theorem evAppend_keep {c : Cl} {ts : List TypeId} {j : Nat} {y : AV} {out : Out} {i : Nat} (h : evAppend P R c ts [.d (.os j), y] = some out) (hi : i < R.length) (hj : i ≠ j) : out.R[i]? = R[i]? := by
  match ts, h with
  | [t, u], h =>
    simp only [evAppend] at h
    cases hts2 : Nat.beq t u with
    | false => rw [hts2] at h; simp at h
    | true =>
      rw [hts2] at h
      simp only [cond_true] at h
      split at h
      · grind
      · cases h
  | [], h => simp [evAppend] at h
  | [_], h => simp [evAppend] at h
  | _ :: _ :: _ :: _, h => simp [evAppend] at h
theorem evAppendD_keep {c : Cl} {ts : List TypeId} {i' g k size off : Nat} {y : AV} {out : Out} {i : Nat} (h : evAppendD P R c ts i' g k size off y = some out) (hi : i < R.length) (h1 : i ≠ i') (h2 : i ≠ g) : out.R[i]? = R[i]? := by
  unfold evAppendD at h
  split at h
  · split at h
    · generalize ((_ && _ : Bool)) = bb at h
      cases bb with
      | false => simp at h
      | true =>
        simp only [cond_true] at h
        split at h
        · rename_i v' R' a b z m r' hap
          simp at h; subst h
          have := evAppend_keep (i := i) hap (by simp; omega) (by omega)
          grind
        · cases h
    · cases h
  · cases h
theorem evAppendP_keep {c : Cl} {ts : List TypeId} {i' n s : Nat} {y : AV} {out : Out} {i : Nat} (h : evAppendP P R c ts i' n s y = some out) (h1 : i ≠ i') : out.R[i]? = R[i]? := by
  unfold evAppendP at h
  split at h
  · grind
  · cases h

theorem dstOf_touch {x : AV} {i lo n s : Nat} {a : Operand} (h : dstOf R x = some (i, lo, n, s)) (hl : look L cur a = some x) : i ∈ touch L := by
  unfold dstOf at h
  split at h
  · split at h
    · simp at h; obtain ⟨rfl, _⟩ := h; exact look_touch_s hl
    · cases h
  · simp at h; obtain ⟨rfl, _⟩ := h; exact look_touch_b hl
  · cases h
theorem evClear_keep {c : Cl} {ts : List TypeId} {l : List Operand} {args : List AV} {out : Out} {i : Nat} (h : evClear P R c ts args = some out) (hl : lookAll L cur l = some args) (h1 : i ∉ touch L) : out.R[i]? = R[i]? := by
  unfold evClear at h
  split at h
  · rename_i x
    split at h
    · split at h
      · rename_i hd
        split at h
        · generalize ((_ && _ : Bool)) = bb at h
          cases bb with
          | false => simp at h
          | true =>
            simp only [cond_true, Option.some.injEq] at h; subst h
            obtain ⟨z, hz⟩ := lookAll_mem hl (av := x) (by simp)
            have := dstOf_touch hd hz
            grind
        · cases h
      · cases h
    · cases h
  · cases h
theorem evCopy_keep {c : Cl} {ts : List TypeId} {l : List Operand} {args : List AV} {out : Out} {i : Nat} (h : evCopy P R c ts args = some out) (hl : lookAll L cur l = some args) (h1 : i ∉ touch L) : out.R[i]? = R[i]? := by
  unfold evCopy at h
  split at h
  · rename_i x y
    split at h
    · split at h
      · rename_i hd
        split at h
        · generalize ((_ && _ : Bool)) = bb at h
          cases bb with
          | false => simp at h
          | true =>
            simp only [cond_true, Option.some.injEq] at h; subst h
            obtain ⟨z, hz⟩ := lookAll_mem hl (av := x) (by simp)
            have := dstOf_touch hd hz
            grind
        · cases h
      · cases h
    · cases h
  · cases h
theorem evPutD_keep {c : Cl} {o : Oper} {i' k size off n : Nat} {ds : List D} {out : Out} {i : Nat} (h : evPutD R c o i' k size off ds n = some out) (hi : i < R.length) (h1 : i ≠ i') (h2 : ∀ e s g, R[i']? = some (.dsl e s g) → i ≠ g) (h3 : ∀ m, ds = [.os m] → i ≠ m) : out.R[i]? = R[i]? := by
  unfold evPutD at h
  split at h
  next e s g m q1 q2 q3 row q4 rows' hj =>
    grind
  next => cases h

theorem evPutF_keep {c : Cl} {o : Oper} {i' k size off n : Nat} {ds : List D} {out : Out} {i : Nat} (h : evPutF R c o i' k size off ds n = some out) (h1 : i ≠ i') (h3 : ∀ m, ds = [.os m] → i ≠ m) : out.R[i]? = R[i]? := by
  unfold evPutF at h
  split at h
  · grind
  · split at h
    · rename_i m
      have hm := h3 m rfl
      split at h
      · cases hb : Nat.beq m i' with
        | true => rw [hb] at h; simp at h
        | false =>
          rw [hb] at h
          simp only [cond_false] at h
          unfold evPut at h
          grind
      · cases h
    · cases h
/-- what an operation does not write stays -/
theorem lookAll_head {l : List Operand} {v : AV} {vs : List AV} (h : lookAll L cur l = some (v :: vs)) : ∃ x xs, l = x :: xs ∧ look L cur x = some v := by
  match l, h with
  | [], h => cases h
  | x :: xs, h =>
    refine ⟨x, xs, rfl, ?_⟩
    simp only [lookAll] at h
    grind
theorem eff_frame {c : Cl} {o : Oper} {out : Out} {i : Nat} {cs : List (Bool × Bool)} (h : evOp P L cur R c o = some out) (hi : i < R.length) (hw : i ∉ writes ⟨0, o, L, cur, cs, c, R, out, true, false, none⟩) : out.R[i]? = R[i]? := by
  unfold evOp at h
  split at h
  · simp at h; subst h; rfl
  · obtain ⟨dst, op, type, pos, after, guard⟩ := o
    simp only at h
    cases op with
    | box t x =>
      simp only at h
      split at h
      · generalize (Nat.beq _ _) = bb at h
        cases bb with
        | false => simp at h
        | true => simp at h; subst h; simp [List.getElem?_append_left hi]
      · cases h
    | alloc t =>
      simp only at h
      split at h
      · simp at h; subst h; simp [List.getElem?_append_left hi]
      · cases h
    | store t x y =>
      simp only at h
      cases hc : cur.isEmpty with
      | false => rw [hc] at h; simp at h
      | true =>
        rw [hc] at h
        simp only [cond_true] at h
        split at h
        · rename_i j off ds n e1 e2 e3
          split at h
          · generalize (Nat.beq _ _ && Nat.ble _ _ && Option.isNone _) = bb at h
            cases bb with
            | false => simp at h
            | true =>
              simp at h; subst h
              simp only [writes, e1, List.mem_singleton] at hw
              simp only
              rw [List.getElem?_set_ne (Ne.symm hw)]
          · cases h
        · rename_i j k size off ds n e1 e2 e3
          simp only [writes, e1, List.mem_cons, not_or] at hw
          obtain ⟨hw1, hw2⟩ := hw
          split at h
          · rename_i out' hput
            simp at h; subst h
            unfold evPut at hput
            split at hput
            · generalize (Nat.beq _ _ && (Nat.beq _ _ && (Nat.ble _ _ && Option.isNone _))) = bb at hput
              cases bb with
              | false => simp at hput
              | true =>
                simp at hput; subst hput
                simp only
                rw [List.getElem?_set_ne (Ne.symm hw1)]
            · cases hput
          · have hms : ∀ m, ds = [.os m] → i ≠ m := by
              intro m hds
              rintro rfl
              subst hds
              refine hw2 (List.mem_append_right _ ?_)
              obtain ⟨av, h1, h2⟩ := bindE e2
              cases av with
              | d x => simp [avCells] at h2; subst h2; exact look_touchV h1 (by simp [AV.touchV, D.touchV])
              | agg l => simp [avCells] at h2; subst h2; exact look_touchV h1 (by simp [AV.touchV, D.touchV, D.touchVL])
              | tup l => simp [avCells] at h2
            split at h
            · rename_i out' hput
              simp at h; subst h
              refine evPutD_keep hput hi hw1 (fun e s g hj => ?_) hms
              rintro rfl
              exact hw2 (List.mem_append_left _ (deepen_g (look_touch_e e1) hj))
            · exact evPutF_keep h hw1 hms
        · cases h
    | buildSlice t len parts =>
      simp only at h
      split at h
      · unfold evBuildSlice at h
        split at h
        · split at h
          · generalize (Nat.beq _ _ && Nat.ble _ _) = bb at h
            cases bb with
            | false => simp at h
            | true =>
              simp only [cond_true] at h
              split at h
              · cases ho : isOwn c with
                | true => rw [ho] at h; simp at h; subst h; simp [List.getElem?_append_left hi]
                | false => rw [ho] at h; simp at h; subst h; rfl
              · generalize isOwn c = bb at h
                cases bb with
                | false => simp at h
                | true => obtain ⟨ds, _, rfl⟩ := mapE h; simp [List.getElem?_append_left hi]
          · cases h
        · cases h
      · cases h
    | convert s d x =>
      simp only at h
      rcases evConvs_R h with e | ⟨r, e⟩
      · rw [e]
      · rw [e, List.getElem?_append_left hi]
    | makeSlice t x y =>
      simp only at h
      generalize (sameOpd x y) = bb at h
      cases bb with
      | false => simp at h
      | true =>
        simp only [cond_true] at h
        unfold evMake at h
        split at h
        · split at h
          · split at h
            · generalize (Nat.beq _ _) = bb at h
              cases bb with
              | false => simp at h
              | true => simp at h; subst h; simp [List.getElem?_append_left hi]
            · cases h
          · cases h
        · split at h
          · split at h
            · generalize (Nat.beq _ _ && _) = bb at h
              cases bb with
              | false => simp at h
              | true => simp at h; subst h; simp [List.getElem?_append_left hi]
            · cases h
          · cases h
        · cases h
    | call kk =>
      obtain ⟨callee, cargs, argTypes⟩ := kk
      cases callee with
      | invoke r m => simp at h
      | builtin b =>
        cases b <;> first
          | (simp at h; done)
          | (simp only at h
             split at h
             · rename_i args e1
               first
                 | exact evClear_keep h e1 (by simpa [writes] using hw)
                 | exact evCopy_keep h e1 (by simpa [writes] using hw)
             · cases h
             done)
          | (simp only at h
             split at h
             · rename_i i' g q size off y e1
               have hall := e1
               obtain ⟨z, hz⟩ := lookAll_mem e1 (av := .d (.oi i' g q size off)) (by simp)
               obtain ⟨hi1, hg1⟩ := look_touch_oi hz
               obtain ⟨x0, xs0, hx0, hv0⟩ := lookAll_head e1
               have hii : i ≠ i' := by rintro rfl; exact hw (by simpa [writes, hx0, appW, hv0] using hi1)
               have hig : i ≠ g := by rintro rfl; exact hw (by simpa [writes, hx0, appW, hv0] using hg1)
               exact evAppendD_keep h hi hii hig
             · rename_i i' n s y e1
               obtain ⟨z, hz⟩ := lookAll_mem e1 (av := .d (.osb i' 0 n s)) (by simp)
               obtain ⟨x0, xs0, hx0, hv0⟩ := lookAll_head e1
               have hii : i ≠ i' := by rintro rfl; exact hw (by simp [writes, hx0, appW, hv0])
               unfold evAppendB at h
               split at h
               · exact evAppendP_keep h hii
               · obtain ⟨r0, hr0⟩ := evAppendT_sh h
                 rw [hr0, List.getElem?_append_left (by simpa using hi), List.getElem?_set_ne (Ne.symm hii)]
             · rename_i args _ _ e1
               unfold evAppendA at h
               split at h
               rotate_left
               · split at h
                 · rename_i o1 hap
                   simp only [Option.some.injEq] at h; subst h
                   rcases evAppendV_sh hap with ⟨r1, r2, hr, _⟩ | ⟨i1, y, r, ha, hr⟩
                   · rw [hr, List.getElem?_append_left hi]
                   · subst ha
                     obtain ⟨x0, xs0, hx0, hv0⟩ := lookAll_head e1
                     have hii : i ≠ i1 := by rintro rfl; exact hw (by simp [writes, hx0, appW, hv0])
                     rw [hr, List.getElem?_append_left (by simpa using hi), List.getElem?_set_ne (Ne.symm hii)]
                 · obtain ⟨r, hr⟩ := evAppendN_sh h
                   rw [hr, List.getElem?_append_left hi]
               rename_i o1 hap
               simp only [Option.some.injEq] at h; subst h
               have h := hap
               clear hap
               unfold evAppend at h
               split at h
               · rename_i t u x y hts
                 generalize (Nat.beq _ _) = bb at h
                 cases bb with
                 | false => simp at h
                 | true =>
                   simp only [cond_true] at h
                   split at h
                   · split at h
                     · split at h
                       · generalize (Nat.beq _ _) = bb at h
                         cases bb with
                         | false => simp at h
                         | true =>
                           simp only [cond_true] at h
                           split at h
                           · simp at h; subst h; simp [List.getElem?_append_left hi]
                           · rename_i j
                             split at h
                             · generalize (Nat.beq _ _ && Nat.beq _ _) = bb at h
                               cases bb with
                               | false => simp at h
                               | true =>
                                 simp at h; subst h
                                 obtain ⟨z, hz⟩ := lookAll_mem e1 (av := .d (.os _)) List.mem_cons_self
                                 have hj := look_touch_s hz
                                 simp only
                                 rw [List.getElem?_append_left (by simpa using hi), List.getElem?_set_ne]
                                 rintro rfl
                                 refine hw ?_
                                 obtain ⟨x0, xs0, hx0, hv0⟩ := lookAll_head e1
                                 simp [writes, hx0, appW, hv0]
                             · cases h
                           · cases h
                       · cases h
                     · cases h
                   · cases h
               · cases h
             · cases h)
      | value f =>
        simp only at h
        split at h
        · rename_i g first caps args e1 e2
          cases c with
          | call f' q1 q2 res R2 pi =>
            simp only [evCall] at h
            generalize (Nat.beq g f' && noDup pi && Nat.ble pi.length R2.length) = bb at h
            cases bb with
            | false => simp at h
            | true =>
              simp only [cond_true] at h
              split at h
              · split at h
                · rename_i Rp2 res2 RR e3 e4 e5
                  simp at h; subst h
                  simp only [writes] at hw
                  simp only
                  rw [List.getElem?_append_left (by rw [setAll_length]; exact hi)]
                  cases hg : R[i]? with
                  | none => rw [List.getElem?_eq_none_iff] at hg; omega
                  | some r =>
                    have hlt : i < (setAll R pi RR).length := by rw [setAll_length]; exact hi
                    rcases setAll_get pi R _ i _ (List.getElem?_eq_getElem hlt) with ⟨j, h1, _⟩ | ⟨h1, _⟩
                    · exact absurd (List.mem_of_getElem? h1) hw
                    · rw [List.getElem?_eq_getElem hlt, ← h1, hg]
                · cases h
              · cases h
          | callB f' q1 res rows0 k0 rw0 =>
            simp only [evCall] at h
            generalize (Nat.beq g f' && res.flat) = bb at h
            cases bb with
            | false => simp at h
            | true =>
              simp only [cond_true] at h
              split at h
              · split at h
                · simp at h; subst h; rfl
                · cases h
              · split at h
                · simp at h; subst h; rfl
                · cases h
              · cases h
          | _ => simp [evCall] at h
        · rename_i g ps args e1 e2
          cases c with
          | call f' q1 q2 res R2 pi =>
            simp only [evCall] at h
            generalize (Nat.beq g f' && noDup pi && Nat.ble pi.length R2.length) = bb at h
            cases bb with
            | false => simp at h
            | true =>
              simp only [cond_true] at h
              split at h
              · split at h
                · rename_i Rp2 res2 RR e3 e4 e5
                  simp at h; subst h
                  simp only [writes] at hw
                  simp only
                  rw [List.getElem?_append_left (by rw [setAll_length]; exact hi)]
                  cases hg : R[i]? with
                  | none => rw [List.getElem?_eq_none_iff] at hg; omega
                  | some r =>
                    have hlt : i < (setAll R pi RR).length := by rw [setAll_length]; exact hi
                    rcases setAll_get pi R _ i _ (List.getElem?_eq_getElem hlt) with ⟨j, h1, _⟩ | ⟨h1, _⟩
                    · exact absurd (List.mem_of_getElem? h1) hw
                    · rw [List.getElem?_eq_getElem hlt, ← h1, hg]
                · cases h
              · cases h
          | callB f' q1 res rows0 k0 rw0 =>
            simp only [evCall] at h
            generalize (Nat.beq g f' && res.flat) = bb at h
            cases bb with
            | false => simp at h
            | true =>
              simp only [cond_true] at h
              split at h
              · split at h
                · simp at h; subst h; rfl
                · cases h
              · split at h
                · simp at h; subst h; rfl
                · cases h
              · cases h
          | _ => simp [evCall] at h
        · cases h
    | _ => simp at h
end
end Go.SL
