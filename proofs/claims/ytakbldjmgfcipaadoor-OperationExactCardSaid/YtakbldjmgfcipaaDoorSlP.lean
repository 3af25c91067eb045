/-
  The logic, sixteenth part: a region that draws its order: the facts on single operations.
-/
import Derived.Test.YtakbldjmgfcipaaDoorSlO
namespace Go.SL

section
variable {P : Program} {C : Ctx} {S S' : Nat → Prop} {w w' : World} {ρ ρ' : List Value} {R R' : List Res} {L : List Ent} {cur : Path} {a : Act}

theorem touch_mem : ∀ {L : List Ent} {e : Ent} {i off : Nat}, e ∈ L → e.v = .d (.o i off) → i ∈ touch L
  | x :: r, e, i, off, h, hv => by
    rcases List.mem_cons.1 h with rfl | h
    · simp [touch, hv]
    · have := touch_mem h hv
      unfold touch; split <;> simp [this]
  | [], _, _, _, h, _ => by cases h
theorem touch_mem_s : ∀ {L : List Ent} {e : Ent} {i : Nat}, e ∈ L → e.v = .d (.os i) → i ∈ touch L
  | x :: r, e, i, h, hv => by
    rcases List.mem_cons.1 h with rfl | h
    · simp [touch, hv]
    · have := touch_mem_s h hv
      unfold touch; split <;> simp [this]
  | [], _, _, h, _ => by cases h

theorem touch_mem_e : ∀ {L : List Ent} {e : Ent} {i a b c : Nat}, e ∈ L → e.v = .d (.oe i a b c) → i ∈ touch L
  | x :: r, e, i, a, b, c, h, hv => by
    rcases List.mem_cons.1 h with rfl | h
    · simp [touch, hv]
    · have := touch_mem_e h hv
      unfold touch; split <;> simp [this]
  | [], _, _, _, _, _, h, _ => by cases h

theorem avOf_no {v : Value} {i off a b c : Nat} : avOf v ≠ some (.d (.o i off)) ∧ avOf v ≠ some (.d (.os i)) ∧ avOf v ≠ some (.d (.oe i a b c)) := by
  unfold avOf
  split
  · refine ⟨?_, ?_, ?_⟩ <;> (cases dsOf (_ : Array Value).toList <;> simp)
  · simp
  · refine ⟨?_, ?_, ?_⟩ <;>
    · cases h : dOf v with
      | none => simp
      | some d =>
        unfold dOf at h
        cases hb : v.oneCell' with
        | true => rw [hb] at h; simp at h; subst h; simp
        | false => rw [hb] at h; simp at h

theorem look_touch {x : Operand} {i off : Nat} (h : look L cur x = some (.d (.o i off))) : i ∈ touch L := by
  unfold look at h
  split at h
  · exact absurd h (avOf_no (a := 0) (b := 0) (c := 0)).1
  · split at h
    · rename_i e he
      cases hb : prefixB e.p cur with
      | false => rw [hb] at h; simp at h
      | true => rw [hb] at h; simp at h; exact touch_mem (getE_mem he).1 h
    · cases h
  · simp at h
  · cases h
theorem look_touch_s {x : Operand} {i : Nat} (h : look L cur x = some (.d (.os i))) : i ∈ touch L := by
  unfold look at h
  split at h
  · exact absurd h (avOf_no (off := 0) (a := 0) (b := 0) (c := 0)).2.1
  · split at h
    · rename_i e he
      cases hb : prefixB e.p cur with
      | false => rw [hb] at h; simp at h
      | true => rw [hb] at h; simp at h; exact touch_mem_s (getE_mem he).1 h
    · cases h
  · simp at h
  · cases h
theorem look_touch_e {x : Operand} {i k s off : Nat} (h : look L cur x = some (.d (.oe i k s off))) : i ∈ touch L := by
  unfold look at h
  split at h
  · exact absurd h (avOf_no (off := 0)).2.2
  · split at h
    · rename_i e he
      cases hb : prefixB e.p cur with
      | false => rw [hb] at h; simp at h
      | true => rw [hb] at h; simp at h; exact touch_mem_e (getE_mem he).1 h
    · cases h
  · simp at h
  · cases h
theorem lookAll_mem : ∀ {l : List Operand} {avs : List AV} {av : AV}, lookAll L cur l = some avs → av ∈ avs → ∃ x, look L cur x = some av
  | [], avs, av, h, hm => by simp [lookAll] at h; subst h; cases hm
  | x :: r, avs, av, h, hm => by
    simp only [lookAll] at h
    split at h
    · rename_i v l h1 h2
      simp at h; subst h
      rcases List.mem_cons.1 hm with rfl | hm
      · exact ⟨x, h1⟩
      · exact lookAll_mem h2 hm
    · cases h

theorem evLenS_frame {args : List AV} (h : ∀ i, AV.d (.os i) ∈ args → R[i]? = R'[i]?) : evLenS R args = evLenS R' args := by
  unfold evLenS
  split
  · rfl
  · rfl
  · rename_i i
    rw [h i (by simp)]
  · rfl

theorem evPure_frame {c : Cl} {op : Op} (h : ∀ i, i ∈ touchOp op L → R[i]? = R'[i]?) : evPure P L cur R c op = evPure P L cur R' c op := by
  cases op with
  | load t x =>
    by_cases hg : ∃ g, x = .global g
    · obtain ⟨g, rfl⟩ := hg
      rfl
    have e : ∀ R, evPure P L cur R c (.load t x) = evLoad P L cur R c t x := fun R => by
      cases x with
      | global g => exact absurd ⟨g, rfl⟩ hg
      | _ => rfl
    rw [e, e]
    unfold evLoad
    split
    · rename_i i off n e1 e2
      rw [h i (look_touch e1)]
    · rfl
    · rename_i i k size off n e1 e2
      rw [h i (look_touch_e e1)]
    · rfl
  | indexAddr t x i =>
    simp only [evPure]
    unfold evIdx
    split
    · rfl
    · rename_i e j ik n e1 e2 e3
      rw [h j (look_touch_s e2)]
    · rfl
    · rfl
    · rfl
  | call k =>
    simp only [evPure]
    split
    · split
      · rename_i args e1
        split
        · split
          · rw [evLenS_frame (R' := R') fun i hi => by
              obtain ⟨x, hx⟩ := lookAll_mem e1 hi
              exact h i (look_touch_s hx)]
          · rfl
          · rfl
        · rfl
      · rfl
    · rfl
  | slice t x lo hi mx => cases mx <;> rfl
  | _ => rfl

mutual
theorem dRen_none (f : Nat → Option Nat) : ∀ (d d' : D), D.ren (fun _ => none) d = some d' → D.ren f d = some d'
  | .p x, d', h => h
  | .o i off, d', h => by simp [D.ren] at h
  | .os i, d', h => by simp [D.ren] at h
  | .oe i k s off, d', h => by simp [D.ren] at h
  | .ip c, d', h => h
  | .fn g a b, d', h => by
    simp only [D.ren] at h ⊢
    split at h
    · rename_i a' b' h1 h2
      rw [dRenL_none f a a' h1, dRenL_none f b b' h2]
      exact h
    · cases h
theorem dRenL_none (f : Nat → Option Nat) : ∀ (l l' : List D), D.renL (fun _ => none) l = some l' → D.renL f l = some l'
  | [], l', h => h
  | d :: r, l', h => by
    simp only [D.renL] at h ⊢
    split at h
    · rename_i d' r' h1 h2
      rw [dRen_none f d d' h1, dRenL_none f r r' h2]
      exact h
    · cases h
end
mutual
theorem avRen_none (f : Nat → Option Nat) : ∀ (d d' : AV), AV.ren (fun _ => none) d = some d' → AV.ren f d = some d'
  | .d x, d', h => by
    simp only [AV.ren] at h ⊢
    split at h
    · rename_i y hy
      rw [dRen_none f x y hy]; exact h
    · cases h
  | .agg ds, d', h => by
    simp only [AV.ren] at h ⊢
    split at h
    · rename_i y hy
      rw [dRenL_none f ds y hy]; exact h
    · cases h
  | .tup l, d', h => by
    simp only [AV.ren] at h ⊢
    split at h
    · rename_i y hy
      rw [avRenL_none f l y hy]; exact h
    · cases h
theorem avRenL_none (f : Nat → Option Nat) : ∀ (l l' : List AV), AV.renL (fun _ => none) l = some l' → AV.renL f l = some l'
  | [], l', h => h
  | d :: r, l', h => by
    simp only [AV.renL] at h ⊢
    split at h
    · rename_i d' r' h1 h2
      rw [avRen_none f d d' h1, avRenL_none f r r' h2]
      exact h
    · cases h
end

theorem renRs_nil {f : Nat → Option Nat} : renRs f [] = some [] := rfl

/-- a call that is handed nothing of ours does not look at it -/
theorem evCall_frame {args : List AV} {f : FuncId} {c : Cl} {out : Out} (hn : noRes c = true) (hc : closedRes c = true)
    (h : evCall R args f c = some out) : out.R = R ∧ evCall R' args f c = some { out with R := R' } := by
  unfold noRes at hn
  split at hn
  · rename_i g q1 q2 res R2 pi
    simp only [Bool.and_eq_true, List.isEmpty_iff] at hn
    obtain ⟨rfl, rfl⟩ := hn
    obtain ⟨res', hres⟩ := Option.isSome_iff_exists.1 hc
    unfold evCall at h ⊢
    simp only at h ⊢
    generalize hbb : (Nat.beq f g && noDup [] && Nat.ble ([] : List Nat).length ([] : List Res).length) = bb at h ⊢
    cases bb with
    | false => simp at h
    | true =>
      simp only [cond_true] at h ⊢
      split at h
      · rename_i a' Rp e1 e2
        rw [e1]
        simp only [picks] at e2 ⊢
        simp only [Option.some.injEq] at e2
        subst e2
        simp only [renRs, avRen_none _ res res' hres] at h ⊢
        simp at h; subst h
        simp [setAll]
      · cases h
  · cases hn

theorem quiet_frame {c : Cl} {o : Oper} {out : Out} (hq : quietOp c o = true) (ht : ∀ i, i ∈ touchOp o.op L → R[i]? = R'[i]?) (h : evOp P L cur R c o = some out) :
    out.R = R ∧ evOp P L cur R' c o = some { out with R := R' } := by
  unfold evOp at h ⊢
  rw [← evPure_frame ht]
  split at h
  · rename_i v k hv
    simp at h; subst h
    exact ⟨rfl, rfl⟩
  · rename_i hv
    obtain ⟨dst, op, type, pos, after, guard⟩ := o
    simp only at h ⊢
    cases op with
    | box t x => simp [quietOp] at hq
    | alloc t => simp [quietOp] at hq
    | store t x y => simp [quietOp] at hq
    | makeSlice t x y => simp [quietOp] at hq
    | convert s d x =>
      simp only at h ⊢
      unfold evConv at h ⊢
      split at h
      · split at h
        · simp at h; subst h; exact ⟨rfl, rfl⟩
        · cases h
      · cases h
    | buildSlice t len parts =>
      simp only [quietOp, Bool.not_eq_true'] at hq
      simp only at h ⊢
      split at h
      · rename_i ps e1
        unfold evBuildSlice at h ⊢
        rw [hq] at h ⊢
        split at h
        · rename_i e hu
          split at h
          · rename_i size zs e2 e3
            cases hb : (Nat.beq zs.length (size + 1) && Nat.ble (len * (size + 1)) 16777216) with
            | false => rw [hb] at h; simp at h
            | true =>
              rw [hb] at h
              simp only [cond_true, cond_false] at h ⊢
              split at h
              · rename_i pd hpd
                simp at h; subst h
                exact ⟨rfl, rfl⟩
              · cases h
          · cases h
        · cases h
      · cases h
    | call kk =>
      obtain ⟨callee, cargs, argTypes⟩ := kk
      cases callee with
      | invoke r m => simp at h
      | builtin b => cases b <;> first | (simp [quietOp] at hq; done) | (simp at h; done)
      | value f =>
        simp only [quietOp, Bool.and_eq_true] at hq
        simp only at h ⊢
        split at h
        · rename_i g first caps args e1 e2
          exact evCall_frame hq.1 hq.2 h
        · cases h
    | _ => simp at h

theorem memN_iff : ∀ {l : List Nat} {t : Nat}, memN l t = true ↔ t ∈ l
  | [], t => by simp [memN]
  | a :: r, t => by
    simp only [memN, Bool.or_eq_true, List.mem_cons, memN_iff]
    constructor
    · rintro (h | h)
      · exact .inl (Nat.eq_of_beq_eq_true h).symm
      · exact .inr h
    · rintro (h | h)
      · subst h; exact .inl (by simp)
      · exact .inr h

/-- what an operation does not write stays -/
theorem eff_frame {c : Cl} {o : Oper} {out : Out} {i : Nat} {cs : List (Bool × Bool)} (h : evOp P L cur R c o = some out) (hi : i < R.length) (hw : i ∉ writes ⟨0, o, L, cur, cs, c, R, out, true, false, none⟩) : out.R[i]? = R[i]? := by
  unfold evOp at h
  split at h
  · simp at h; subst h; rfl
  · obtain ⟨dst, op, type, pos, after, guard⟩ := o
    simp only at h
    cases op with
    | box t x =>
      simp only at h
      split at h
      · generalize (Nat.beq _ _) = bb at h
        cases bb with
        | false => simp at h
        | true => simp at h; subst h; simp [List.getElem?_append_left hi]
      · cases h
    | alloc t =>
      simp only at h
      split at h
      · simp at h; subst h; simp [List.getElem?_append_left hi]
      · cases h
    | store t x y =>
      simp only at h
      cases hc : cur.isEmpty with
      | false => rw [hc] at h; simp at h
      | true =>
        rw [hc] at h
        simp only [cond_true] at h
        split at h
        · rename_i j off ds n e1 e2 e3
          split at h
          · generalize (Nat.beq _ _ && Nat.ble _ _ && Option.isNone _) = bb at h
            cases bb with
            | false => simp at h
            | true =>
              simp at h; subst h
              simp only [writes, e1, List.mem_singleton] at hw
              simp only
              rw [List.getElem?_set_ne (Ne.symm hw)]
          · cases h
        · rename_i j k size off ds n e1 e2 e3
          unfold evPut at h
          split at h
          · generalize (Nat.beq _ _ && (Nat.beq _ _ && (Nat.ble _ _ && Option.isNone _))) = bb at h
            cases bb with
            | false => simp at h
            | true =>
              simp at h; subst h
              simp only [writes, e1, List.mem_singleton] at hw
              simp only
              rw [List.getElem?_set_ne (Ne.symm hw)]
          · cases h
        · cases h
    | buildSlice t len parts =>
      simp only at h
      split at h
      · unfold evBuildSlice at h
        split at h
        · split at h
          · generalize (Nat.beq _ _ && Nat.ble _ _) = bb at h
            cases bb with
            | false => simp at h
            | true =>
              simp only [cond_true] at h
              split at h
              · cases ho : isOwn c with
                | true => rw [ho] at h; simp at h; subst h; simp [List.getElem?_append_left hi]
                | false => rw [ho] at h; simp at h; subst h; rfl
              · cases h
          · cases h
        · cases h
      · cases h
    | convert s d x =>
      simp only at h
      unfold evConv at h
      split at h
      · split at h
        · simp at h; subst h; rfl
        · cases h
      · cases h
    | makeSlice t x y =>
      simp only at h
      generalize (sameOpd x y) = bb at h
      cases bb with
      | false => simp at h
      | true =>
        simp only [cond_true] at h
        unfold evMake at h
        split at h
        · split at h
          · split at h
            · generalize (Nat.beq _ _) = bb at h
              cases bb with
              | false => simp at h
              | true => simp at h; subst h; simp [List.getElem?_append_left hi]
            · cases h
          · cases h
        · cases h
    | call kk =>
      obtain ⟨callee, cargs, argTypes⟩ := kk
      cases callee with
      | invoke r m => simp at h
      | builtin b =>
        cases b <;> first
          | (simp at h; done)
          | (simp only at h
             split at h
             · rename_i args e1
               unfold evAppend at h
               split at h
               · rename_i t u x y hts
                 generalize (Nat.beq t u) = bb at h
                 cases bb with
                 | false => simp at h
                 | true =>
                   simp only [cond_true] at h
                   split at h
                   · split at h
                     · split at h
                       · generalize (Nat.beq _ _) = bb at h
                         cases bb with
                         | false => simp at h
                         | true =>
                           simp only [cond_true] at h
                           split at h
                           · simp at h; subst h; simp [List.getElem?_append_left hi]
                           · rename_i j
                             split at h
                             · generalize (Nat.beq _ _ && Nat.beq _ _) = bb at h
                               cases bb with
                               | false => simp at h
                               | true =>
                                 simp at h; subst h
                                 obtain ⟨z, hz⟩ := lookAll_mem e1 (av := .d (.os j)) (by simp)
                                 have hj := look_touch_s hz
                                 have hne : i ≠ j := by
                                   rintro rfl
                                   refine hw ?_
                                   simpa [writes] using hj
                                 simp only
                                 rw [List.getElem?_append_left (by simpa using hi), List.getElem?_set_ne (Ne.symm hne)]
                             · cases h
                           · cases h
                       · cases h
                     · cases h
                   · cases h
               · cases h
             · cases h)
      | value f =>
        simp only at h
        split at h
        · rename_i g first caps args e1 e2
          cases c with
          | call f' q1 q2 res R2 pi =>
            simp only [evCall] at h
            generalize (Nat.beq g f' && noDup pi && Nat.ble pi.length R2.length) = bb at h
            cases bb with
            | false => simp at h
            | true =>
              simp only [cond_true] at h
              split at h
              · split at h
                · rename_i Rp2 res2 RR e3 e4 e5
                  simp at h; subst h
                  simp only [writes] at hw
                  simp only
                  rw [List.getElem?_append_left (by rw [setAll_length]; exact hi)]
                  cases hg : R[i]? with
                  | none => rw [List.getElem?_eq_none_iff] at hg; omega
                  | some r =>
                    have hlt : i < (setAll R pi RR).length := by rw [setAll_length]; exact hi
                    rcases setAll_get pi R _ i _ (List.getElem?_eq_getElem hlt) with ⟨j, h1, _⟩ | ⟨h1, _⟩
                    · exact absurd (List.mem_of_getElem? h1) hw
                    · rw [List.getElem?_eq_getElem hlt, ← h1, hg]
                · cases h
              · cases h
          | _ => simp [evCall] at h
        · cases h
    | _ => simp at h
end
end Go.SL
