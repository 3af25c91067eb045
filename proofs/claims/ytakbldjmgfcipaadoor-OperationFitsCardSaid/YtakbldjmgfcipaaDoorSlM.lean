/-
  The logic, thirteenth part: one operation; operations one after the other.
-/
import Derived.Test.YtakbldjmgfcipaaDoorSlL
namespace Go.SL

section
variable {P : Program} {C : Ctx} {S S' : Nat → Prop} {w w' : World} {ρ ρ' : List Value} {R : List Res} {L : List Ent} {cur : Path} {a : Act}

theorem wp_value {o : Oper} {K : Act → World → Prop} {Q : Exit → Act → World → Prop} {v : Value} (h : (execOp a.eval o).run P w = .ok (.value v) w') (hK : K (a.put o.dst v) w') : o.wp P a w K Q := by
  unfold Oper.wp; rw [h]; exact hK

theorem after_pure (hI : Inv C S w ρ R) {v : Value} {av : AV} (h : RdA S w ρ v av) : After C S w ρ R v av S w ρ := ⟨hI, fun _ h => h, fun _ _ => rfl, Pre.refl _, h⟩

theorem evOp_ok (hI : Inv C S w ρ R) (hL : SlotsOk S w ρ a L) (hp : pt a cur) {c : Cl} {o : Oper} {out : Out} (h : evOp P L cur R c o = some out)
    (hk : ∀ x, out.c = some x → x.ok P) {K : Act → World → Prop} {Q : Exit → Act → World → Prop}
    (hK : ∀ v w' S' ρ', After C S w ρ out.R v out.v S' w' ρ' → K (a.put o.dst v) w') : o.wp P a w K Q := by
  unfold evOp at h
  split at h
  · rename_i v k hv
    simp at h; subst h
    obtain ⟨x, hx, hr⟩ := evPure_ok hI hL hp hv hk
    exact wp_value hx (hK x w S ρ (after_pure hI hr))
  · obtain ⟨dst, op, type, pos, after, guard⟩ := o
    simp only at h hK
    cases op with
    | box t x =>
      simp only at h
      cases hc : cur.isEmpty with
      | false => rw [hc] at h; simp at h
      | true =>
        rw [hc] at h
        simp only [cond_true] at h
        split at h
        · rename_i cells n e1 e2
          cases hb : Nat.beq cells.length n with
          | false => rw [hb] at h; simp at h
          | true =>
            rw [hb] at h
            simp at h; subst h
            obtain ⟨av, h1, h2⟩ := bindE e1
            have hcells := avCells_ok (look_ok hL hp h1) h2
            have hA := hI.newBox (t := t) hcells
            refine wp_value ?_ (hK _ _ _ _ hA)
            simp [execOp, Instr.box, newVar, newRow]
        · cases h
    | alloc t =>
      simp only at h
      cases hc : cur.isEmpty with
      | false => rw [hc] at h; simp at h
      | true =>
        rw [hc] at h
        simp only [cond_true] at h
        split at h
        · rename_i cells e1
          simp at h; subst h
          obtain ⟨z, hz, hd⟩ := bindE e1
          have hA := hI.newBox (t := t) (dsOf_ok (S := S) (w := w) (ρ := ρ) hd)
          refine wp_value ?_ (hK _ _ _ _ hA)
          simp [execOp, Instr.alloc, newVar, newRow, run_zeroValue' hz]
        · cases h
    | store t x y =>
      simp only at h
      cases hc : cur.isEmpty with
      | false => rw [hc] at h; simp at h
      | true =>
        rw [hc] at h
        simp only [cond_true] at h
        split at h
        · rename_i i off ds n e1 e2 e3
          split at h
          · rename_i u cells hi
            cases hb : (Nat.beq ds.length n && Nat.ble (off + n) cells.length && dst.isNone) with
            | false => rw [hb] at h; simp at h
            | true =>
              rw [hb] at h
              simp at h; subst h
              simp only [Bool.and_eq_true] at hb
              obtain ⟨⟨b1, b2⟩, b3⟩ := hb
              obtain ⟨b, hx, hρ⟩ := (look_ok hL hp e1).d_inv.o_inv
              obtain ⟨av, h1, h2⟩ := bindE e2
              have hy := avCells_ok (look_ok hL hp h1) h2
              obtain ⟨w', hr, hI', hS⟩ := hI.store hi hρ hy e3 (Nat.eq_of_beq_eq_true b1) (Nat.le_of_ble_eq_true b2)
              have hdst : dst = none := by cases dst <;> simp at b3; rfl
              subst hdst
              unfold Oper.wp
              have : (execOp a.eval ⟨none, .store t x y, type, pos, after, guard⟩).run P w = .ok .skip w' := by
                simp only [execOp, Sem.run_bind, hx, Instr.storeAt, Instr.sureAddr, Sem.run_pure, Result.andThen_ok, hr]
              rw [this]
              exact hK undef w' S ρ ⟨hI', fun _ h => h, hS, Pre.refl _, .tup (vs := []) rfl (by simp)⟩
          · cases h
        · cases h
    | buildSlice t len parts =>
      simp only at h
      cases hc : (cur.isEmpty || !isOwn c) with
      | false => rw [hc] at h; simp at h
      | true =>
        rw [hc] at h
        simp only [cond_true] at h
        split at h
        · rename_i ps e1
          obtain ⟨_, v, w', S', ρ', hr, hA⟩ := evBuildSlice_ok hI (lookParts_ok hL hp e1) h
          refine wp_value ?_ (hK _ _ _ _ hA)
          have e : (parts.map fun (x : Nat × Operand) => (x.1, a.eval x.2)) = (parts.toList.map fun x => (x.1, a.eval x.2)).toArray := by apply Array.ext'; simp
          simp only [execOp, Sem.run_bind]
          have e' : (parts.map fun | (i, x) => (i, a.eval x)) = (parts.toList.map fun x => (x.1, a.eval x.2)).toArray := e
          rw [e', hr]
          rfl
        · cases h
    | convert s d x =>
      simp only at h
      obtain ⟨hR, v, v', w', S', hx, hr, hA⟩ := evConv_ok (ρ := ρ) hI h hk
      have := look_exact hL hp hx
      refine wp_value ?_ (hK v' w' S' ρ (by rw [hR]; exact hA))
      simp only [execOp, this, Sem.run_bind, hr]
      rfl
    | makeSlice t l k =>
      simp only at h
      cases hc : (cur.isEmpty && sameOpd l k) with
      | false => rw [hc] at h; simp at h
      | true =>
        rw [hc] at h
        simp only [cond_true] at h
        simp only [Bool.and_eq_true] at hc
        have hlk : l = k := by
          have := hc.2
          unfold sameOpd at this
          split at this
          · rw [Nat.eq_of_beq_eq_true this]
          · cases this
        subst hlk
        obtain ⟨v, w', ρ', x, hx, hr, hA⟩ := evMake_ok hI h hk
        have := look_exact hL hp hx
        refine wp_value ?_ (hK _ _ _ _ hA)
        simp only [execOp, this, Sem.run_bind, hr]
        rfl
    | call kk =>
      obtain ⟨callee, cargs, argTypes⟩ := kk
      have hl : (cargs.map a.eval).toList = cargs.toList.map a.eval := by simp
      cases callee with
      | invoke r m => simp at h
      | builtin b =>
        cases b with
        | append =>
          simp only at h
          cases hc : cur.isEmpty with
          | false => rw [hc] at h; simp at h
          | true =>
            rw [hc] at h
            simp only [cond_true] at h
            split at h
            · rename_i args e1
              have hargs := lookAll_ok hL hp e1
              rw [← hl] at hargs
              obtain ⟨v, w', ρ', hr, hA⟩ := evAppend_ok (ty := type) hI hargs h hk
              refine wp_value ?_ (hK _ _ _ _ hA)
              simp only [execOp, resolve, Sem.run_bind, Sem.run_pure, Result.andThen_ok, invoke, builtin, hr]
            · cases h
        | _ => simp at h
      | value f =>
        simp only at h
        split at h
        · rename_i g first caps args e1 e2
          cases hc : (cur.isEmpty || noRes c) with
          | false => rw [hc] at h; simp at h
          | true =>
            rw [hc] at h
            simp only [cond_true] at h
            obtain ⟨xs, cs, hf, hxs, hcs⟩ := (look_ok hL hp e1).d_inv.fn_inv
            have hargs := lookAll_ok hL hp e2
            have hall : All2 (RdA S w ρ) (xs ++ cargs.toList.map a.eval ++ cs) (first.map AV.d ++ args ++ caps.map AV.d) :=
              ((hxs.map_right fun _ _ h => .d h).append hargs).append (hcs.map_right fun _ _ h => .d h)
            obtain ⟨hent, hcall⟩ := evCall_ok hI hall h hk
            unfold Oper.wp
            have : (execOp a.eval ⟨dst, .call ⟨.value f, cargs, argTypes⟩, type, pos, after, guard⟩).run P w = .ok (.enter g (xs ++ cargs.toList.map a.eval ++ cs).toArray) w := by
              simp only [execOp, resolve, hf, Deferred.ofValue, Sem.run_bind, Sem.run_pure, Result.andThen_ok, invoke]
              rw [hent]
              congr 2
              apply Array.ext'
              simp
            rw [this]
            refine Calls.mono hcall fun e w' hpost => ?_
            obtain ⟨v, S', ρ', rfl, hA⟩ := hpost
            exact hK v w' S' ρ' hA
        · cases h
    | _ => simp at h

/-- under a guard nothing of our own turns -/
theorem evOp_R {c : Cl} {o : Oper} {out : Out} (h : evOp P L cur R c o = some out) (hc : cur.isEmpty = false) : out.R = R := by
  unfold evOp at h
  split at h
  · simp at h; subst h; rfl
  · split at h
    · rw [hc] at h; simp at h
    · rw [hc] at h; simp at h
    · rw [hc] at h; simp at h
    · rename_i t len parts _
      cases ho : (!isOwn c) with
      | false => rw [hc, ho] at h; simp at h
      | true =>
        rw [hc, ho] at h
        simp only [Bool.false_or, cond_true] at h
        split at h
        · rename_i ps e1
          unfold evBuildSlice at h
          simp at ho
          split at h
          · split at h
            · cases hb : (Nat.beq (_ : List D).length _ && Nat.ble _ _) with
              | false => rw [hb] at h; simp at h
              | true =>
                rw [hb] at h
                simp only [cond_true, ho] at h
                split at h
                · simp at h; subst h; rfl
                · cases h
            · cases h
          · cases h
        · cases h
    · unfold evConv at h
      split at h
      · split at h
        · simp at h; subst h; rfl
        · cases h
      · cases h
    · rw [hc] at h; simp at h
    · split at h
      · split at h
        · cases hn : noRes c with
          | false => rw [hc, hn] at h; simp at h
          | true =>
            rw [hc, hn] at h
            simp only [Bool.false_or, cond_true] at h
            unfold noRes at hn
            split at hn
            · rename_i q1 q2 q3 q4 R2 pi
              simp only [Bool.and_eq_true, List.isEmpty_iff] at hn
              obtain ⟨rfl, rfl⟩ := hn
              unfold evCall at h
              simp only at h
              generalize (Nat.beq _ _ && noDup [] && Nat.ble _ _) = bb at h
              cases bb with
              | false => simp at h
              | true =>
                simp only [cond_true] at h
                split at h
                · rename_i a' Rp e1 e2
                  simp [picks] at e2; subst e2
                  split at h
                  · rename_i Rp' res' R2' e3 e4 e5
                    simp [renRs] at e5; subst e5
                    simp at h; subst h
                    simp [setAll]
                  · cases h
                · cases h
            · cases hn
        · cases h
      · rw [hc] at h; simp at h
      · cases h
    · cases h
end
end Go.SL
