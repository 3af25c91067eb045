/-
  The logic, thirteenth part: one operation; operations one after the other.
-/
import Derived.Test.YtopmfoohdkjgmaaGreatDoorSlLD
import Derived.OrdersIn
import Derived.ControlIn
import Derived.LoopNIn
namespace Go.SL

section
variable {P : Program} {C : Ctx} {S S' : Nat → Prop} {w w' : World} {ρ ρ' : List Value} {R : List Res} {L : List Ent} {cur : Path} {a : Act}

/-! ### fences: the wide one, and the wide one in a round of a range over a function -/
def FR (ro : Option Nat) : Fence := { Fence.wide with round := ro }
theorem FR_none : FR none = Fence.wide := rfl
def noDef (o : Oper) : Prop := ∀ c, o.op ≠ .defer c
def upon0 (P : Program) (o : Oper) (a : Act) (K : Act → World → Prop) : Result Next → Prop
  | .ok (.value v) w' => K (a.put o.dst v) w'
  | .ok .skip w' => K (a.put o.dst undef) w'
  | .ok (.enter f args) w' => Calls P f args w' fun e w'' => ∃ v, e = .returned v ∧ K (a.put o.dst v) w''
  | _ => False
/-- what an operation comes to, inside a round or not -/
def wpv (P : Program) (o : Oper) (a : Act) (w : World) (K : Act → World → Prop) : Prop := upon0 P o a K ((execOp a.eval o).run P w)
theorem wpv_in {ro : Option Nat} {o : Oper} {K : Act → World → Prop} {Q : Exit → Act → World → Prop} (hd : noDef o) (h : wpv P o a w K) : o.wpIn (FR ro) 0 P a w K Q := by
  refine ⟨fun _ _ => trivial, ?_⟩
  rw [Oper.semAt_eq (FR ro).round a.eval o hd]
  unfold wpv at h
  generalize (execOp a.eval o).run P w = r at h
  match r, h with
  | .ok (.value v) w', h => exact h
  | .ok .skip w', h => exact h
  | .ok (.enter f args) w', h =>
    refine ⟨(fun h => by cases h), ?_⟩
    have h2 : CallsIn Fence.wide 0 P f args w' fun e w'' => ∃ v, e = .returned v ∧ K (a.put o.dst v) w'' := callsIn_wide.2 h
    refine CallsIn.mono (F := FR ro) h2 fun e w'' hp => ?_
    obtain ⟨v, rfl, hk⟩ := hp
    exact hk

theorem wp_value {o : Oper} {K : Act → World → Prop} {v : Value} (h : (execOp a.eval o).run P w = .ok (.value v) w') (hK : K (a.put o.dst v) w') : wpv P o a w K := by
  unfold wpv; rw [h]; exact hK

theorem evOp_noDef {c : Cl} {o : Oper} {out : Out} (h : evOp P L cur R c o = some out) : noDef o := by
  intro k hk
  obtain ⟨dst, op, type, pos, after, guard⟩ := o
  simp only at hk
  subst hk
  simp [evOp, evPure] at h

theorem after_pure (hI : Inv C S w ρ R) {v : Value} {av : AV} (h : RdA S w ρ v av) : After C S w ρ R v av S w ρ := ⟨hI, fun _ h => h, fun _ _ => rfl, Pre.refl _, h⟩

theorem dPs_len : ∀ {ds : List D} {ps : List Pd}, dPs ds = some ps → ds.length = ps.length
  | [], ps, h => by simp [dPs] at h; subst h; rfl
  | d :: r, ps, h => by
    simp only [dPs] at h
    split at h
    · rename_i x l h1 h2
      simp at h; subst h
      simp [dPs_len h2]
    · cases h

theorem Inv.putRow (hI : Inv C S w ρ R) {i k s off n b o l cp : Nat} {t e : TypeId} {rows : List (List Pd)} {row ps : List Pd} {v : Value} (hi : R[i]? = some (.sl e s rows)) (hρ : ρ[i]? = some (.slice (some ⟨b, o, none⟩) l cp))
    (hv : All2 (RdP S w) v.cells.toList ps) (hn : tySize P t = some n) (hl : ps.length = n) (ho : off + n ≤ s) (hrow : rows[k]? = some row) :
    ∃ w', (storeVar t ⟨b, o + k * s + off, none⟩ v).run P w = .ok () w' ∧ Inv C S w' ρ (R.set i (.sl e s (rows.set k (row.take off ++ (ps ++ row.drop (off + n)))))) ∧ (∀ k, S k → w'.heap[k]? = w.heap[k]?) := by
  have hklt : k < rows.length := (List.getElem?_eq_some_iff.1 hrow).1
  rcases (hI.ok i _ _ hi hρ).live rfl with ⟨h3, h4⟩ | ⟨b', o', cp', vs, h3, hb, hcap, hmx, hfit, hlen, hcells⟩
  · cases h3
  · cases h3
    have hrl : row.length = s := hlen row (List.mem_of_getElem? hrow)
    have hsz : v.cells.size = n := by have := hv.length; simpa [hl] using this
    have hk1 : (k + 1) * s ≤ cp * s := Nat.mul_le_mul_right _ (by omega)
    rw [Nat.add_mul, Nat.one_mul] at hk1
    have hbound : o + k * s + off + n ≤ vs.size := by omega
    have hone : ∀ x, x ∈ v.cells.toList → x.oneCell' = true := all2_one hv
    refine ⟨_, run_storeVar' hn hsz hb hbound hone, ?_, ?_⟩
    · have ob := hI.own i _ _ b hi hρ rfl
      refine hI.put hi hρ (b := b) rfl (fun k hk => by simp [Res.foot] at hk; exact hk.symm) (fun k hk => heap_setRow_other _ _ _ _ hk) (by simp) rfl ⟨rfl, fun _ => by first | exact Nat.le_refl _ | exact Nat.le_succ _⟩ rfl ?_
      have hS : ∀ q, S q → (w.setRow b (vs.toList.take (o + k * s + off) ++ v.cells.toList ++ vs.toList.drop (o + k * s + off + v.cells.toList.length)).toArray).heap[q]? = w.heap[q]? := fun q hq => heap_setRow_other _ _ _ _ (fun e => ob.1 (e ▸ hq))
      have hvl : v.cells.toList.length = n := by simpa using hsz
      refine .inr (.inr ⟨b, o, cp, _, by simp, hb.put (by simp only [List.size_toArray, List.length_append, List.length_take, List.length_drop, hvl]; simp only [Array.length_toList]; omega), by simpa using hcap, hmx, ?_, fun r hr => ?_, fun i2 r hi2 j d hj => ?_⟩)
      · simp only [List.size_toArray, List.length_append, List.length_take, List.length_drop, hvl]
        simp only [Array.length_toList]
        omega
      · rcases List.mem_or_eq_of_mem_set hr with h | h
        · exact hlen r h
        · subst h; simp; omega
      · have hil : i2 < rows.length := by have := (List.getElem?_eq_some_iff.1 hi2).1; simpa using this
        have hjl : j < s := by
          have hm := List.mem_of_getElem? hi2
          have : r.length = s := by
            rcases List.mem_or_eq_of_mem_set hm with h | h
            · exact hlen r h
            · subst h; simp; omega
          rw [← this]; exact (List.getElem?_eq_some_iff.1 hj).1
        have hget : ∀ q, ((vs.toList.take (o + k * s + off) ++ v.cells.toList ++ vs.toList.drop (o + k * s + off + v.cells.toList.length)).toArray)[q]? = if q < o + k * s + off then vs[q]? else if q < o + k * s + off + n then v.cells[q - (o + k * s + off)]? else vs[q]? := by
          intro q
          simp only [List.getElem?_toArray]
          have hA : (vs.toList.take (o + k * s + off)).length = o + k * s + off := by simp; omega
          split
          · rename_i hq
            rw [List.append_assoc, List.getElem?_append_left (by rw [hA]; exact hq), List.getElem?_take, if_pos hq]; simp
          · rename_i hq
            rw [List.append_assoc, List.getElem?_append_right (by rw [hA]; omega), hA]
            split
            · rename_i hq2
              rw [List.getElem?_append_left (by rw [hvl]; omega)]; simp
            · rename_i hq2
              rw [List.getElem?_append_right (by rw [hvl]; omega), hvl, List.getElem?_drop]
              simp only [Array.getElem?_toList]
              congr 1; omega
        by_cases hik : i2 = k
        · subst hik
          rw [List.getElem?_set_self hil] at hi2
          cases hi2
          rcases Nat.lt_or_ge j off with hj1 | hj1
          · rw [List.getElem?_append_left (by simp; omega), List.getElem?_take, if_pos hj1] at hj
            obtain ⟨x, g1, g2⟩ := hcells i2 row hrow j d hj
            exact ⟨x, by rw [hget, if_pos (by omega)]; exact g1, g2.mono (fun _ h => h) hS⟩
          · rw [List.getElem?_append_right (by simp; omega)] at hj
            have htl : (row.take off).length = off := by simp; omega
            rw [htl] at hj
            rcases Nat.lt_or_ge (j - off) ps.length with hj2 | hj2
            · rw [List.getElem?_append_left hj2] at hj
              obtain ⟨x, g1, g2⟩ := hv.get hj
              refine ⟨x, ?_, g2.mono (fun _ h => h) hS⟩
              rw [hget, if_neg (by omega), if_pos (by omega)]
              rw [← Array.getElem?_toList, ← g1]; congr 1; omega
            · rw [List.getElem?_append_right hj2, List.getElem?_drop] at hj
              obtain ⟨x, g1, g2⟩ := hcells i2 row hrow j d (by rw [← hj]; congr 1; omega)
              refine ⟨x, ?_, g2.mono (fun _ h => h) hS⟩
              rw [hget, if_neg (by omega), if_neg (by omega)]; exact g1
        · rw [List.getElem?_set_ne (Ne.symm hik)] at hi2
          obtain ⟨x, g1, g2⟩ := hcells i2 r hi2 j d hj
          refine ⟨x, ?_, g2.mono (fun _ h => h) hS⟩
          have hsep : o + i2 * s + j < o + k * s + off ∨ o + k * s + off + n ≤ o + i2 * s + j := by
            rcases Nat.lt_or_gt_of_ne hik with h | h
            · have : (i2 + 1) * s ≤ k * s := Nat.mul_le_mul_right _ h
              rw [Nat.add_mul, Nat.one_mul] at this
              left; omega
            · have : (k + 1) * s ≤ i2 * s := Nat.mul_le_mul_right _ h
              rw [Nat.add_mul, Nat.one_mul] at this
              right; omega
          rw [hget]
          rcases hsep with h | h
          · rw [if_pos h]; exact g1
          · rw [if_neg (by omega), if_neg (by omega)]; exact g1
    · intro q hq
      exact heap_setRow_other _ _ _ _ (fun e => (hI.own i _ _ b hi hρ rfl).1 (e ▸ hq))

theorem evPut_ok (hI : Inv C S w ρ R) {c : Cl} {o : Oper} {i k size off n : Nat} {ds : List D} {out : Out} (hput : evPut R c o i k size off ds n = some out) (hk : ∀ x, out.c = some x → x.ok P) {t : TypeId} {u : Value}
    (hy : All2 (Rd S w ρ) u.cells.toList ds) (e3 : tySize P t = some n) {b p len cap : Nat} (hρ : ρ[i]? = some (.slice (some ⟨b, p, none⟩) len cap)) :
    o.dst = none ∧ ∃ w', (storeVar t ⟨b, p + k * size + off, none⟩ u).run P w = .ok () w' ∧ After C S w ρ out.R undef out.v S w' ρ := by
  unfold evPut at hput
  split at hput
  · rename_i e s rows q1 q2 row q3 rows' ps hi hps
    cases hb : (Nat.beq s size && (Nat.beq ds.length n && (Nat.ble (off + n) size && o.dst.isNone))) with
    | false => rw [hb] at hput; simp at hput
    | true =>
      rw [hb] at hput
      simp at hput; subst hput
      simp only [Bool.and_eq_true] at hb
      obtain ⟨b0, b1, b2, b3⟩ := hb
      have hss := Nat.eq_of_beq_eq_true b0
      subst hss
      obtain ⟨k1, k2⟩ := hk _ rfl
      obtain ⟨w', hr, hI', hS⟩ := hI.putRow hi hρ (dPs_ok hps hy) e3 (by rw [← dPs_len hps]; exact Nat.eq_of_beq_eq_true b1) (Nat.le_of_ble_eq_true b2) k1
      rw [k2] at hI'
      have hdst : o.dst = none := by cases hd : o.dst <;> simp [hd] at b3; rfl
      exact ⟨hdst, w', hr, hI', fun _ h => h, hS, Pre.refl _, .tup (vs := []) rfl (by simp)⟩
  · cases hput
theorem drop_take_splice {α : Type} {l xs : List α} {p off m : Nat} (h : off + xs.length ≤ m) (hl : p + m ≤ l.length) :
    ((l.take (p + off) ++ xs ++ l.drop (p + off + xs.length)).drop p).take m = ((l.drop p).take m).take off ++ (xs ++ ((l.drop p).take m).drop (off + xs.length)) := by
  apply List.ext_getElem?
  intro i
  simp only [List.getElem?_take, List.getElem?_drop, List.getElem?_append, List.length_take, List.length_append, List.length_drop]
  grind
theorem Inv.putVec (hI : Inv C S w ρ R) {i p n b off len cap : Nat} {t e s : Nat} {cells ds : List D} {v : Value} (hi : R[i]? = some (.vec e s cells)) (hρ : ρ[i]? = some (.slice (some ⟨b, p, none⟩) len cap))
    (hv : All2 (Rd S w ρ) v.cells.toList ds) (hn : tySize P t = some n) (hl : ds.length = n) (ho : off + n ≤ cells.length) :
    ∃ w', (storeVar t ⟨b, p + off, none⟩ v).run P w = .ok () w' ∧ Inv C S w' ρ (R.set i (.vec e s (splice cells off ds))) ∧ (∀ k, S k → w'.heap[k]? = w.heap[k]?) := by
  obtain ⟨b', o, len', cap', vs, h3, hb, ⟨h4, h5, h6, h7, h8⟩, hc⟩ := (hI.ok i _ _ hi hρ).live rfl
  cases h3
  have hvl := hv.length
  have hsz : v.cells.size = n := by simpa [hl] using hvl
  have hls : len * s ≤ cap * s := Nat.mul_le_mul_right _ h6
  refine ⟨_, run_storeVar' hn hsz hb (by omega) (mem_one hv), ?_, ?_⟩
  · have hS : ∀ k, k ≠ b → (w.setRow b (vs.toList.take (p + off) ++ v.cells.toList ++ vs.toList.drop (p + off + v.cells.toList.length)).toArray).heap[k]? = w.heap[k]? := fun k hk => heap_setRow_other _ _ _ _ hk
    have ob := hI.own i _ _ b hi hρ rfl
    have hm : ∀ x d, Rd S w ρ x d → Rd S (w.setRow b (vs.toList.take (p + off) ++ v.cells.toList ++ vs.toList.drop (p + off + v.cells.toList.length)).toArray) ρ x d := fun x d h =>
      h.mono (fun _ h => h) (fun k hk => hS k (fun e => ob.1 (e ▸ hk))) (Pre.refl _)
    refine hI.put hi hρ (b := b) rfl (fun k hk => by simp [Res.foot, slFoot] at hk; exact hk.symm) hS (by simp) rfl ⟨rfl, fun _ => by first | exact Nat.le_refl _ | exact Nat.le_succ _⟩ rfl ?_
    have hz : (vs.toList.take (p + off) ++ v.cells.toList ++ vs.toList.drop (p + off + v.cells.toList.length)).toArray.size = vs.size := by simp; omega
    refine .inr ⟨b, p, len, cap, _, rfl, hb.put hz, ⟨?_, h5, h6, h7, by rw [hz]; exact h8⟩, ?_⟩
    · unfold splice; simp; omega
    · have hx : v.cells.toList.length = n := by rw [hvl, hl]
      rw [show (vs.toList.take (p + off) ++ v.cells.toList ++ vs.toList.drop (p + off + v.cells.toList.length)).toArray.toList = vs.toList.take (p + off) ++ v.cells.toList ++ vs.toList.drop (p + off + v.cells.toList.length) from rfl,
        drop_take_splice (by rw [hx]; omega) (by simp; omega)]
      unfold splice
      have hd := hc.drop (off + v.cells.toList.length)
      rw [hvl] at hd
      exact (((hc.take off).append (hv.append (by rw [hvl]; exact hd)))).mono hm
  · intro k hk
    exact heap_setRow_other _ _ _ _ (fun e => (hI.own i _ _ b hi hρ rfl).1 (e ▸ hk))
theorem evPutF_ok (hI : Inv C S w ρ R) {c : Cl} {o : Oper} {i k size off n : Nat} {ds : List D} {out : Out} (h : evPutF R c o i k size off ds n = some out) (hk : ∀ x, out.c = some x → x.ok P) {t : TypeId} {u : Value}
    (hy : All2 (Rd S w ρ) u.cells.toList ds) (e3 : tySize P t = some n) {b p len cap : Nat} (hρ : ρ[i]? = some (.slice (some ⟨b, p, none⟩) len cap)) :
    o.dst = none ∧ ∃ w' S', (storeVar t ⟨b, p + k * size + off, none⟩ u).run P w = .ok () w' ∧ After C S w ρ out.R undef out.v S' w' ρ := by
  unfold evPutF at h
  split at h
  · rename_i e s cells hi
    cases hb : (Nat.beq ds.length n && (Nat.ble (k * size + off + n) cells.length && o.dst.isNone)) with
    | false => rw [hb] at h; simp at h
    | true =>
      rw [hb] at h
      simp only [cond_true, Option.some.injEq] at h; subst h
      simp only [Bool.and_eq_true] at hb
      obtain ⟨b1, b2, b3⟩ := hb
      obtain ⟨w', hr, hI', hS⟩ := hI.putVec hi hρ hy e3 (Nat.eq_of_beq_eq_true b1) (Nat.le_of_ble_eq_true b2)
      have hdst : o.dst = none := by cases hd : o.dst <;> simp [hd] at b3; rfl
      exact ⟨hdst, w', S, by rw [Nat.add_assoc]; exact hr, hI', fun _ h => h, hS, Pre.refl _, .tup (vs := []) rfl (by simp)⟩
  · split at h
    · rename_i m
      split at h
      · rename_i e2 s2 rows2 hm
        cases hb : Nat.beq m i with
        | true => rw [hb] at h; simp at h
        | false =>
          rw [hb] at h
          simp only [cond_false] at h
          obtain ⟨v, hcells, hr⟩ : ∃ v, u.cells.toList = [v] ∧ Rd S w ρ v (.os m) := by
            generalize u.cells.toList = l at hy
            match l, hy with
            | [v], hv => exact ⟨v, rfl, hv.1⟩
            | [], hv => exact hv.elim
            | _ :: _ :: _, hv => exact hv.2.elim
          have hρm := hr.os_inv
          have hf := hI.freeze hm hρm
          have hfz := Res.ok0.frozen ((hI.ok m _ _ hm hρm).live hr.one)
          have hy' : All2 (Rd (fun b => S b ∨ (Res.sl e2 s2 rows2).foot v b) w ρ) u.cells.toList [.p (.s rows2)] := by
            rw [hcells]
            exact ⟨.p hfz, trivial⟩
          obtain ⟨hd, w', hr', hA⟩ := evPut_ok hf h hk hy' e3 hρ
          obtain ⟨a1, a2, a3, a4, a5⟩ := hA
          exact ⟨hd, w', _, hr', a1, fun b hb => a2 b (.inl hb), fun b hb => a3 b (.inl hb), a4, a5⟩
      · cases h
    · cases h

theorem evOp_ok (hI : Inv C S w ρ R) (hL : SlotsOk S w ρ a L) (hp : pt a cur) {c : Cl} {o : Oper} {out : Out} (h : evOp P L cur R c o = some out)
    (hk : ∀ x, out.c = some x → x.ok P) {K : Act → World → Prop}
    (hK : ∀ v w' S' ρ', After C S w ρ out.R v out.v S' w' ρ' → K (a.put o.dst v) w') : wpv P o a w K := by
  unfold evOp at h
  split at h
  · rename_i v k hv
    simp at h; subst h
    obtain ⟨x, hx, hr⟩ := evPure_ok hI hL hp hv hk
    exact wp_value hx (hK x w S ρ (after_pure hI hr))
  · obtain ⟨dst, op, type, pos, after, guard⟩ := o
    simp only at h hK
    cases op with
    | box t x =>
      simp only at h
      split at h
      · rename_i cells n e1 e2
        cases hb : Nat.beq cells.length n with
        | false => rw [hb] at h; simp at h
        | true =>
          rw [hb] at h
          simp at h; subst h
          obtain ⟨av, h1, h2⟩ := bindE e1
          have hcells := avCells_ok (look_ok hL hp h1) h2
          have hA := hI.newBox (t := t) hcells
          refine wp_value ?_ (hK _ _ _ _ hA)
          simp [execOp, Instr.box, newVar, newRow]
      · cases h
    | alloc t =>
      simp only at h
      split at h
      · rename_i cells e1
        simp at h; subst h
        obtain ⟨z, hz, hd⟩ := bindE e1
        have hA := hI.newBox (t := t) (dsOf_ok (S := S) (w := w) (ρ := ρ) hd)
        refine wp_value ?_ (hK _ _ _ _ hA)
        simp [execOp, Instr.alloc, newVar, newRow, run_zeroValue' hz]
      · cases h
    | store t x y =>
      simp only at h
      cases hc : cur.isEmpty with
      | false => rw [hc] at h; simp at h
      | true =>
        rw [hc] at h
        simp only [cond_true] at h
        split at h
        · rename_i i off ds n e1 e2 e3
          split at h
          · rename_i u cells hi
            cases hb : (Nat.beq ds.length n && Nat.ble (off + n) cells.length && dst.isNone) with
            | false => rw [hb] at h; simp at h
            | true =>
              rw [hb] at h
              simp at h; subst h
              simp only [Bool.and_eq_true] at hb
              obtain ⟨⟨b1, b2⟩, b3⟩ := hb
              obtain ⟨b, hx, hρ⟩ := (look_ok hL hp e1).d_inv.o_inv
              obtain ⟨av, h1, h2⟩ := bindE e2
              have hy := avCells_ok (look_ok hL hp h1) h2
              obtain ⟨w', hr, hI', hS⟩ := hI.store hi hρ hy e3 (Nat.eq_of_beq_eq_true b1) (Nat.le_of_ble_eq_true b2)
              have hdst : dst = none := by cases dst <;> simp at b3; rfl
              subst hdst
              unfold wpv
              have : (execOp a.eval ⟨none, .store t x y, type, pos, after, guard⟩).run P w = .ok .skip w' := by
                simp only [execOp, Sem.run_bind, hx, Instr.storeAt, Instr.sureAddr, Sem.run_pure, Result.andThen_ok, hr]
              rw [this]
              exact hK undef w' S ρ ⟨hI', fun _ h => h, hS, Pre.refl _, .tup (vs := []) rfl (by simp)⟩
          · cases h
        · rename_i i k size off ds n e1 e2 e3
          obtain ⟨b, o, l, cp, hx, hρ⟩ := (look_ok hL hp e1).d_inv.oe_inv
          obtain ⟨av, h1, h2⟩ := bindE e2
          have hy := avCells_ok (look_ok hL hp h1) h2
          have fin : ∀ w' ρ', dst = none → (storeVar t ⟨b, o + k * size + off, none⟩ (a.eval y)).run P w = .ok () w' → After C S w ρ out.R undef out.v S w' ρ' → wpv P ⟨dst, .store t x y, type, pos, after, guard⟩ a w K := by
            intro w' ρ' hdst hr hA
            subst hdst
            unfold wpv
            have : (execOp a.eval ⟨none, .store t x y, type, pos, after, guard⟩).run P w = .ok .skip w' := by
              simp only [execOp, Sem.run_bind, hx, Instr.storeAt, Instr.sureAddr, Sem.run_pure, Result.andThen_ok, hr]
            rw [this]
            exact hK undef w' S ρ' hA
          split at h
          · rename_i out' hput
            simp at h; subst h
            unfold evPut at hput
            split at hput
            · rename_i e s rows q1 q2 row q3 rows' ps hi hps q4
              cases hb : (Nat.beq s size && (Nat.beq ds.length n && (Nat.ble (off + n) size && dst.isNone))) with
              | false => rw [hb] at hput; simp at hput
              | true =>
                rw [hb] at hput
                simp at hput; subst hput
                simp only [Bool.and_eq_true] at hb
                obtain ⟨b0, b1, b2, b3⟩ := hb
                have hss := Nat.eq_of_beq_eq_true b0
                subst hss
                obtain ⟨k1, k2⟩ := hk _ rfl
                obtain ⟨w', hr, hI', hS⟩ := hI.putRow hi hρ (dPs_ok hps hy) e3 (by rw [← dPs_len hps]; exact Nat.eq_of_beq_eq_true b1) (Nat.le_of_ble_eq_true b2) k1
                rw [k2] at hI'
                have hdst : dst = none := by cases dst <;> simp at b3; rfl
                exact fin w' ρ hdst hr ⟨hI', fun _ h => h, hS, Pre.refl _, .tup (vs := []) rfl (by simp)⟩
            · cases hput
          · split at h
            · rename_i out' hput
              simp at h; subst h
              obtain ⟨hdst, w', ρ', hr, hA⟩ := evPutD_ok hI hput hk hy e3 hρ
              exact fin w' ρ' hdst hr hA
            · obtain ⟨hdst, w', S', hr, hA⟩ := evPutF_ok hI h hk hy e3 hρ
              have hdst' : dst = none := hdst
              subst hdst'
              unfold wpv
              have : (execOp a.eval ⟨none, .store t x y, type, pos, after, guard⟩).run P w = .ok .skip w' := by
                simp only [execOp, Sem.run_bind, hx, Instr.storeAt, Instr.sureAddr, Sem.run_pure, Result.andThen_ok, hr]
              rw [this]
              exact hK undef w' S' ρ hA
        · cases h
    | buildSlice t len parts =>
      simp only at h
      split at h
      · rename_i ps e1
        obtain ⟨_, v, w', S', ρ', hr, hA⟩ := evBuildSlice_ok hI (lookParts_ok hL hp e1) h
        refine wp_value ?_ (hK _ _ _ _ hA)
        have e : (parts.map fun (x : Nat × Operand) => (x.1, a.eval x.2)) = (parts.toList.map fun x => (x.1, a.eval x.2)).toArray := by apply Array.ext'; simp
        simp only [execOp, Sem.run_bind]
        have e' : (parts.map fun | (i, x) => (i, a.eval x)) = (parts.toList.map fun x => (x.1, a.eval x.2)).toArray := e
        rw [e', hr]
        rfl
      · cases h
    | convert s d x =>
      simp only at h
      unfold evConvs at h
      split at h
      · rename_i o1 h0
        cases h
        obtain ⟨hR, v, v', w', S', hx, hr, hA⟩ := evConv_ok (ρ := ρ) hI h0 hk
        have := look_exact hL hp hx
        refine wp_value ?_ (hK v' w' S' ρ (by rw [hR]; exact hA))
        simp only [execOp, this, Sem.run_bind, hr]
        rfl
      · split at h
        · rename_i o1 h0
          cases h
          obtain ⟨v, v', w', ρ', hx, hr, hA⟩ := evConvO_ok (ρ := ρ) hI h0 hk
          have := look_exact hL hp hx
          refine wp_value ?_ (hK v' w' S ρ' hA)
          simp only [execOp, this, Sem.run_bind, hr]
          rfl
        · obtain ⟨v', w', hr, hA⟩ := evConvB_ok (ρ := ρ) (v := a.eval x) hI h fun y hy => look_ok hL hp hy
          refine wp_value ?_ (hK v' w' S ρ hA)
          simp only [execOp, Sem.run_bind, hr]
          rfl
    | makeSlice t l k =>
      simp only at h
      cases hc : sameOpd l k with
      | false => rw [hc] at h; simp at h
      | true =>
        rw [hc] at h
        simp only [cond_true] at h
        have hlk : l = k := by
          have := hc
          unfold sameOpd at this
          split at this
          · rw [Nat.eq_of_beq_eq_true this]
          · rw [eq_of_beq this]
          · cases this
        subst hlk
        obtain ⟨v, w', ρ', x, hx, hr, hA⟩ := evMake_ok hI h hk
        have := look_exact hL hp hx
        refine wp_value ?_ (hK _ _ _ _ hA)
        simp only [execOp, this, Sem.run_bind, hr]
        rfl
    | call kk =>
      obtain ⟨callee, cargs, argTypes⟩ := kk
      have hl : (cargs.map a.eval).toList = cargs.toList.map a.eval := by simp
      cases callee with
      | invoke r m => simp at h
      | builtin b =>
        cases b with
        | append =>
          simp only at h
          split at h
          · rename_i i g q size off y e1
            have hargs := lookAll_ok hL hp e1
            rw [← hl] at hargs
            obtain ⟨v, w', ρ', hr, hA⟩ := evAppendD_ok (ty := type) hI hargs h hk
            refine wp_value ?_ (hK _ _ _ _ hA)
            simp only [execOp, resolve, Sem.run_bind, Sem.run_pure, Result.andThen_ok, invoke, builtin, hr]
          · rename_i i n s y e1
            have hargs := lookAll_ok hL hp e1
            rw [← hl] at hargs
            unfold evAppendB at h
            split at h
            · obtain ⟨v, w', hr, hA⟩ := evAppendP_ok (ty := type) hI hargs h hk
              refine wp_value ?_ (hK _ _ _ _ hA)
              simp only [execOp, resolve, Sem.run_bind, Sem.run_pure, Result.andThen_ok, invoke, builtin, hr]
            · obtain ⟨v, w', ρ', hr, hA⟩ := evAppendT_ok (ty := type) hI hargs h hk
              refine wp_value ?_ (hK _ _ _ _ hA)
              simp only [execOp, resolve, Sem.run_bind, Sem.run_pure, Result.andThen_ok, invoke, builtin, hr]
          · rename_i args _ _ e1
            have hargs := lookAll_ok hL hp e1
            rw [← hl] at hargs
            unfold evAppendA at h
            split at h
            · rename_i o1 hap
              simp only [Option.some.injEq] at h; subst h
              obtain ⟨v, w', ρ', hr, hA⟩ := evAppend_ok (ty := type) hI hargs hap hk
              refine wp_value ?_ (hK _ _ _ _ hA)
              simp only [execOp, resolve, Sem.run_bind, Sem.run_pure, Result.andThen_ok, invoke, builtin, hr]
            · split at h
              · rename_i o1 hap
                simp only [Option.some.injEq] at h; subst h
                obtain ⟨v, w', ρ', hr, hA⟩ := evAppendV_ok (ty := type) hI hargs hap
                refine wp_value ?_ (hK _ _ _ _ hA)
                simp only [execOp, resolve, Sem.run_bind, Sem.run_pure, Result.andThen_ok, invoke, builtin, hr]
              · obtain ⟨v, w', ρ', hr, hA⟩ := evAppendN_ok (ty := type) hI hargs h
                refine wp_value ?_ (hK _ _ _ _ hA)
                simp only [execOp, resolve, Sem.run_bind, Sem.run_pure, Result.andThen_ok, invoke, builtin, hr]
          · cases h
        | clear =>
          simp only at h
          split at h
          · rename_i args e1
            have hargs := lookAll_ok hL hp e1
            rw [← hl] at hargs
            obtain ⟨v, w', hr, hA⟩ := evClear_ok (ty := type) hI hargs h hk
            refine wp_value ?_ (hK _ _ _ _ hA)
            simp only [execOp, resolve, Sem.run_bind, Sem.run_pure, Result.andThen_ok, invoke, builtin, hr]
          · cases h
        | copy =>
          simp only at h
          split at h
          · rename_i args e1
            have hargs := lookAll_ok hL hp e1
            rw [← hl] at hargs
            obtain ⟨v, w', hr, hA⟩ := evCopy_ok (ty := type) hI hargs h hk
            refine wp_value ?_ (hK _ _ _ _ hA)
            simp only [execOp, resolve, Sem.run_bind, Sem.run_pure, Result.andThen_ok, invoke, builtin, hr]
          · cases h
        | _ => simp at h
      | value f =>
        simp only at h
        split at h
        · rename_i g first caps args e1 e2
          obtain ⟨xs, cs, hf, hxs, hcs⟩ := (look_ok hL hp e1).d_inv.fn_inv
          have hargs := lookAll_ok hL hp e2
          have hall : All2 (RdA S w ρ) (xs ++ cargs.toList.map a.eval ++ cs) (first.map AV.d ++ args ++ caps.map AV.d) :=
            ((hxs.map_right fun _ _ h => .d h).append hargs).append (hcs.map_right fun _ _ h => .d h)
          obtain ⟨hent, hcall⟩ := evCall_ok hI hall h hk
          unfold wpv
          have : (execOp a.eval ⟨dst, .call ⟨.value f, cargs, argTypes⟩, type, pos, after, guard⟩).run P w = .ok (.enter g (xs ++ cargs.toList.map a.eval ++ cs).toArray) w := by
            simp only [execOp, resolve, hf, Deferred.ofValue, Sem.run_bind, Sem.run_pure, Result.andThen_ok, invoke]
            rw [hent]
            congr 2
            apply Array.ext'
            simp
          rw [this]
          refine Calls.mono hcall fun e w' hpost => ?_
          obtain ⟨v, S', ρ', rfl, hA⟩ := hpost
          exact ⟨v, rfl, hK v w' S' ρ' hA⟩
        · rename_i g ps args e1 e2
          obtain ⟨vs, hf, hvs⟩ := (look_ok hL hp e1).d_inv.fb_inv
          have hargs := lookAll_ok hL hp e2
          have hall : All2 (RdA S w ρ) (.agg vs.toArray :: cargs.toList.map a.eval) (.agg (ps.map D.p) :: args) := ⟨.agg (hvs.map_right fun _ _ h => .p h), hargs⟩
          obtain ⟨hent, hcall⟩ := evCall_ok hI hall h hk
          unfold wpv
          have : (execOp a.eval ⟨dst, .call ⟨.value f, cargs, argTypes⟩, type, pos, after, guard⟩).run P w = .ok (.enter g (.agg vs.toArray :: cargs.toList.map a.eval).toArray) w := by
            simp only [execOp, resolve, hf, Deferred.ofValue, Sem.run_bind, Sem.run_pure, Result.andThen_ok, invoke]
            rw [show #[Value.agg vs.toArray] ++ cargs.map a.eval ++ #[] = (.agg vs.toArray :: cargs.toList.map a.eval).toArray from by apply Array.ext'; simp]
            rw [hent]
          rw [this]
          refine Calls.mono hcall fun e w' hpost => ?_
          obtain ⟨v, S', ρ', rfl, hA⟩ := hpost
          exact ⟨v, rfl, hK v w' S' ρ' hA⟩
        · cases h
    | _ => simp at h

/-! ### what is left out -/
/-- own things that were, or are given up; and new ones -/
def Grows (R R' : List Res) : Prop := ∃ R1 l, R' = R1 ++ l ∧ R1.length = R.length ∧ ∀ (i : Nat) r, R1[i]? = some r → r = .non ∨ R[i]? = some r
theorem Grows.refl (R : List Res) : Grows R R := ⟨R, [], by simp, rfl, fun _ _ h => .inr h⟩
theorem Grows.app (R l : List Res) : Grows R (R ++ l) := ⟨R, l, rfl, rfl, fun _ _ h => .inr h⟩

theorem undef_dead : undef.oneCell' = false := rfl

theorem Inv.skip {R' : List Res} (h : Inv C S w ρ R) (hg : Grows R R') : ∃ ρ', Inv C S w ρ' R' ∧ Pre ρ ρ' := by
  obtain ⟨R1, l, rfl, hl, hr⟩ := hg
  have key : ∀ (i : Nat) r v, (R1 ++ l)[i]? = some r → (ρ ++ List.replicate l.length undef)[i]? = some v → v.oneCell' = false ∨ r = .non ∨ (R[i]? = some r ∧ ρ[i]? = some v) := by
    intro i r v h1 h2
    rcases Nat.lt_or_ge i R1.length with hi | hi
    · rw [List.getElem?_append_left hi] at h1
      rw [List.getElem?_append_left (by rw [h.len, ← hl]; exact hi)] at h2
      grind
    · rw [List.getElem?_append_right (by rw [h.len, ← hl]; exact hi)] at h2
      have := List.mem_of_getElem? h2
      rw [List.eq_of_mem_replicate this]
      exact .inl undef_dead
  refine ⟨ρ ++ List.replicate l.length undef, ⟨by simp [h.len, hl], fun i r v h1 h2 => ?_, fun i j r r' v v' b hij h1 h2 h3 h4 h5 h6 => ?_, fun i r v b h1 h2 h3 => ?_, h.sub, h.sup, h.frm, h.size, h.os, h.tape, h.output, h.pre.trans (Pre.append _ _), h.gl⟩, Pre.append _ _⟩
  · rcases key i r v h1 h2 with hd | rfl | ⟨g1, g2⟩
    · exact .inl hd
    · exact .inr trivial
    · exact (h.ok i r v g1 g2).mono (fun _ h => h) (fun _ _ => rfl) (Pre.append _ _) (fun _ _ => rfl)
  · rcases key i r v h1 h3 with hd | rfl | ⟨g1, g2⟩
    · exact absurd h5 (Res.foot_dead hd _)
    · simp [Res.foot] at h5
    · rcases key j r' v' h2 h4 with hd | rfl | ⟨m1, m2⟩
      · exact absurd h6 (Res.foot_dead hd _)
      · simp [Res.foot] at h6
      · exact h.dis i j r r' v v' b hij g1 m1 g2 m2 h5 h6
  · rcases key i r v h1 h2 with hd | rfl | ⟨g1, g2⟩
    · exact absurd h3 (Res.foot_dead hd _)
    · simp [Res.foot] at h3
    · exact h.own i r v b g1 g2 h3

theorem Inv.dummies (h : Inv C S w ρ R) (l : List Res) : ∃ ρ', Inv C S w ρ' (R ++ l) ∧ Pre ρ ρ' ∧ ∀ i, R.length ≤ i → i < R.length + l.length → ∃ x, ρ'[i]? = some x ∧ x.oneCell' = false := by
  have key : ∀ (i : Nat) r v, (R ++ l)[i]? = some r → (ρ ++ List.replicate l.length undef)[i]? = some v → v.oneCell' = false ∨ (R[i]? = some r ∧ ρ[i]? = some v) := by
    intro i r v h1 h2
    rcases Nat.lt_or_ge i R.length with hi | hi
    · rw [List.getElem?_append_left hi] at h1
      rw [List.getElem?_append_left (by rw [h.len]; exact hi)] at h2
      exact .inr ⟨h1, h2⟩
    · rw [List.getElem?_append_right (by rw [h.len]; exact hi)] at h2
      have := List.mem_of_getElem? h2
      rw [List.eq_of_mem_replicate this]
      exact .inl undef_dead
  refine ⟨ρ ++ List.replicate l.length undef, ⟨by simp [h.len], fun i r v h1 h2 => ?_, fun i j r r' v v' b hij h1 h2 h3 h4 h5 h6 => ?_, fun i r v b h1 h2 h3 => ?_, h.sub, h.sup, h.frm, h.size, h.os, h.tape, h.output, h.pre.trans (Pre.append _ _), h.gl⟩, Pre.append _ _, fun i h1 h2 => ⟨undef, ?_, undef_dead⟩⟩
  · rcases key i r v h1 h2 with hd | ⟨g1, g2⟩
    · exact .inl hd
    · exact (h.ok i r v g1 g2).mono (fun _ h => h) (fun _ _ => rfl) (Pre.append _ _) (fun _ _ => rfl)
  · rcases key i r v h1 h3 with hd | ⟨g1, g2⟩
    · exact absurd h5 (Res.foot_dead hd _)
    · rcases key j r' v' h2 h4 with hd | ⟨m1, m2⟩
      · exact absurd h6 (Res.foot_dead hd _)
      · exact h.dis i j r r' v v' b hij g1 m1 g2 m2 h5 h6
  · rcases key i r v h1 h2 with hd | ⟨g1, g2⟩
    · exact absurd h3 (Res.foot_dead hd _)
    · exact h.own i r v b g1 g2 h3
  · rw [List.getElem?_append_right (by rw [h.len]; exact h1), List.getElem?_replicate, if_pos (by rw [h.len]; omega)]

mutual
theorem D.ren_back {f g : Nat → Option Nat} (hfg : ∀ i j k, f i = some j → g j = some k → k = i) : ∀ (d d' d'' : D), D.ren f d = some d' → D.ren g d' = some d'' → d'' = d
  | .p x, d', d'', h, k => by simp [D.ren] at h; subst h; simp [D.ren] at k; exact k.symm
  | .o i off, d', d'', h, k => by
    simp only [D.ren] at h
    split at h
    · rename_i j hj
      simp at h; subst h
      simp only [D.ren] at k
      split at k
      · rename_i m hm
        simp at k; subst k
        rw [hfg _ _ _ hj hm]
      · cases k
    · cases h
  | .os i, d', d'', h, k => by
    simp only [D.ren] at h
    split at h
    · rename_i j hj
      simp at h; subst h
      simp only [D.ren] at k
      split at k
      · rename_i m hm
        simp at k; subst k
        rw [hfg _ _ _ hj hm]
      · cases k
    · cases h
  | .oe i a b c, d', d'', h, k => by
    simp only [D.ren] at h
    split at h
    · rename_i j hj
      simp at h; subst h
      simp only [D.ren] at k
      split at k
      · rename_i m hm
        simp at k; subst k
        rw [hfg _ _ _ hj hm]
      · cases k
    · cases h
  | .osb i a b c, d', d'', h, k => by
    simp only [D.ren] at h
    split at h
    · rename_i j hj
      simp at h; subst h
      simp only [D.ren] at k
      split at k
      · rename_i m hm
        simp at k; subst k
        rw [hfg _ _ _ hj hm]
      · cases k
    · cases h
  | .oi i q a b c, d', d'', h, k => by
    simp only [D.ren] at h
    split at h
    · rename_i j j2 hj hj2
      simp at h; subst h
      simp only [D.ren] at k
      split at k
      · rename_i m m2 hm hm2
        simp at k; subst k
        rw [hfg _ _ _ hj hm, hfg _ _ _ hj2 hm2]
      · cases k
    · cases h
  | .any, d', d'', h, k => by simp [D.ren] at h; subst h; simp [D.ren] at k; exact k.symm
  | .nq _, d', d'', h, k => by simp [D.ren] at h; subst h; simp [D.ren] at k; exact k.symm
  | .fb _ _, d', d'', h, k => by simp [D.ren] at h; subst h; simp [D.ren] at k; exact k.symm
  | .ip c, d', d'', h, k => by simp [D.ren] at h; subst h; simp [D.ren] at k; exact k.symm
  | .fn q a b, d', d'', h, k => by
    simp only [D.ren] at h
    split at h
    · rename_i a' b' h1 h2
      simp at h; subst h
      simp only [D.ren] at k
      split at k
      · rename_i a2 b2 k1 k2
        simp at k; subst k
        rw [D.renL_back hfg a a' a2 h1 k1, D.renL_back hfg b b' b2 h2 k2]
      · cases k
    · cases h
theorem D.renL_back {f g : Nat → Option Nat} (hfg : ∀ i j k, f i = some j → g j = some k → k = i) : ∀ (d d' d'' : List D), D.renL f d = some d' → D.renL g d' = some d'' → d'' = d
  | [], d', d'', h, k => by simp [D.renL] at h; subst h; simp [D.renL] at k; exact k
  | x :: r, d', d'', h, k => by
    simp only [D.renL] at h
    split at h
    · rename_i x' r' h1 h2
      simp at h; subst h
      simp only [D.renL] at k
      split at k
      · rename_i x2 r2 k1 k2
        simp at k; subst k
        rw [D.ren_back hfg x x' x2 h1 k1, D.renL_back hfg r r' r2 h2 k2]
      · cases k
    · cases h
end
theorem Res.ren_back {f g : Nat → Option Nat} (hfg : ∀ i j k, f i = some j → g j = some k → k = i) {r r' r'' : Res} (h : r.ren f = some r') (k : r'.ren g = some r'') : r'' = r := by
  cases r with
  | box t cells =>
    simp only [Res.ren] at h
    split at h
    · rename_i cs hc
      simp at h; subst h
      simp only [Res.ren] at k
      split at k
      · rename_i cs2 hc2
        simp at k; subst k
        rw [D.renL_back hfg _ _ _ hc hc2]
      · cases k
    · cases h
  | sl e s rows => simp [Res.ren] at h; subst h; simp [Res.ren] at k; exact k.symm
  | zsl e s rows => simp [Res.ren] at h; subst h; simp [Res.ren] at k; exact k.symm
  | dsl e s g =>
    simp only [Res.ren] at h
    split at h
    · rename_i j hj
      simp at h; subst h
      simp only [Res.ren] at k
      grind
    · cases h
  | gh s tys rows hole => simp [Res.ren] at h; subst h; simp [Res.ren] at k; exact k.symm
  | non => simp [Res.ren] at h; subst h; simp [Res.ren] at k; exact k.symm
  | vec t sz cells =>
    simp only [Res.ren] at h
    split at h
    · rename_i cs hc
      simp at h; subst h
      simp only [Res.ren] at k
      split at k
      · rename_i cs2 hc2
        simp at k; subst k
        rw [D.renL_back hfg _ _ _ hc hc2]
      · cases k
    · cases h

theorem setAll_same : ∀ {pi : List Nat} {R l : List Res}, (∀ (j i : Nat) r, pi[j]? = some i → l[j]? = some r → R[i]? = some r) → setAll R pi l = R
  | [], R, l, _ => by cases l <;> rfl
  | i :: pi, R, [], _ => rfl
  | i :: pi, R, r :: l, h => by
    have h0 : R[i]? = some r := h 0 i r rfl rfl
    have e : R.set i r = R := by
      apply List.ext_getElem?
      grind
    simp only [setAll]
    rw [e]
    exact setAll_same fun j k r hj hr => h (j + 1) k r (by simpa using hj) (by simpa using hr)

theorem evCall_skip {args : List AV} {f : FuncId} {c : Cl} {out : Out} (h : evCall R args f c = some out) (hk : noPi c = true ∨ (∀ x, out.c = some x → x.keeps)) : Grows R out.R := by
  unfold evCall at h
  split at h
  · rename_i f' q1 res q2 q3 rw
    cases hb : (Nat.beq f f' && res.flat) with
    | false => rw [hb] at h; simp at h
    | true =>
      rw [hb] at h
      simp only [cond_true] at h
      split at h
      · split at h
        · simp at h; subst h; exact Grows.refl _
        · cases h
      · split at h
        · simp at h; subst h; exact Grows.refl _
        · cases h
      · cases h
  · rename_i f' q1 q2 res R2 pi
    cases hb : (Nat.beq f f' && noDup pi && Nat.ble pi.length R2.length) with
    | false => rw [hb] at h; simp at h
    | true =>
      rw [hb] at h
      simp only [cond_true] at h
      simp only [Bool.and_eq_true] at hb
      obtain ⟨⟨hb1, hb2⟩, hb3⟩ := hb
      split at h
      · rename_i args' Rp e1 e2
        split at h
        · rename_i Rp' res' R2' e3 e4 e5
          simp at h; subst h
          have same : setAll R pi R2' = R := by
            rcases hk with hk | hk
            · simp only [noPi, List.isEmpty_iff] at hk
              subst hk
              cases R2' <;> rfl
            · have hkeep : R2.take pi.length = Rp' := hk _ rfl
              obtain ⟨p1, p2⟩ := picks_get e2
              obtain ⟨q1', q2'⟩ := renRs_get e3
              obtain ⟨m1, m2⟩ := renRs_get e5
              refine setAll_same fun j i r hj hr => ?_
              obtain ⟨r0, g1, g2⟩ := m2 j r hr
              obtain ⟨r1, g3, g4⟩ := p2 j i hj
              have hjl : j < pi.length := (List.getElem?_eq_some_iff.1 hj).1
              have g5 : Rp'[j]? = some r0 := by
                rw [← hkeep, List.getElem?_take, if_pos hjl]; exact g1
              obtain ⟨r2, g6, g7⟩ := q2' j r0 g5
              rw [g3] at g6; cases g6
              have := Res.ren_back (fun a b k hab hbk => by
                have := idxOf_get hab
                unfold backTo at hbk
                rw [this] at hbk
                simpa using hbk.symm) g7 g2
              rw [this]; exact g4
          rw [same]
          exact Grows.app _ _
        · cases h
      · cases h
  · cases h

theorem evConvs_R {c : Cl} {s d : TypeId} {x : Option AV} {out : Out} (h : evConvs P R c s d x = some out) : out.R = R ∨ ∃ r, out.R = R ++ [r] := by
  unfold evConvs at h
  split at h
  · rename_i o1 h0
    cases h
    unfold evConv at h0
    grind
  · split at h
    · rename_i o1 h0
      cases h
      unfold evConvO at h0
      grind
    · unfold evConvB at h
      grind

theorem evOp_skip {r : Bool} {c : Cl} {o : Oper} {out : Out} (h : evOp P L cur R c o = some out) (hs : skipOk r c o = true) (hk : r = true → ∀ x, out.c = some x → x.keeps) : Grows R out.R := by
  unfold evOp at h
  split at h
  · simp at h; subst h; exact Grows.refl _
  · obtain ⟨dst, op, type, pos, after, guard⟩ := o
    simp only at h
    cases op with
    | box t x =>
      simp only at h
      split at h
      · generalize (Nat.beq _ _) = bb at h
        cases bb with
        | false => simp at h
        | true => simp at h; subst h; exact Grows.app _ _
      · cases h
    | alloc t =>
      simp only at h
      split at h
      · simp at h; subst h; exact Grows.app _ _
      · cases h
    | store t x y => simp [skipOk] at hs
    | buildSlice t len parts =>
      simp only at h
      split at h
      · unfold evBuildSlice at h
        split at h
        · split at h
          · generalize (Nat.beq _ _ && Nat.ble _ _) = bb at h
            cases bb with
            | false => simp at h
            | true =>
              simp only [cond_true] at h
              split at h
              · cases ho : isOwn c with
                | true => rw [ho] at h; simp at h; subst h; exact Grows.app _ _
                | false => rw [ho] at h; simp at h; subst h; exact Grows.refl _
              · generalize isOwn c = bb at h
                cases bb with
                | false => simp at h
                | true => obtain ⟨ds, _, rfl⟩ := mapE h; exact Grows.app _ _
          · cases h
        · cases h
      · cases h
    | convert s d x =>
      simp only at h
      rcases evConvs_R h with e | ⟨r, e⟩
      · rw [e]; exact Grows.refl _
      · rw [e]; exact Grows.app _ _
    | makeSlice t x y =>
      simp only at h
      generalize (sameOpd x y) = bb at h
      cases bb with
      | false => simp at h
      | true =>
        simp only [cond_true] at h
        unfold evMake at h
        split at h
        · split at h
          · split at h
            · generalize (Nat.beq _ _) = bb at h
              cases bb with
              | false => simp at h
              | true => simp at h; subst h; exact Grows.app _ _
            · cases h
          · cases h
        · split at h
          · split at h
            · generalize (Nat.beq _ _ && _) = bb at h
              cases bb with
              | false => simp at h
              | true => simp at h; subst h; exact Grows.app _ _
            · cases h
          · cases h
        · cases h
    | call kk =>
      obtain ⟨callee, cargs, argTypes⟩ := kk
      cases callee with
      | invoke r m => simp at h
      | builtin b =>
        cases b <;> first
          | (simp at h; done)
          | (simp [skipOk] at hs; done)
          | (simp only at h
             split at h
             · rename_i i g q size off y e1
               exfalso
               unfold evAppendD at h
               split at h
               · simp [skipOk, isW] at hs
               · cases h
             · rename_i i n s y e1
               unfold evAppendB at h
               split at h
               · exfalso
                 simp [skipOk, isW] at hs
               · obtain ⟨r0, hr0⟩ := evAppendT_sh h
                 rw [hr0]
                 refine ⟨R.set i .non, _, rfl, by simp, fun j r hj => ?_⟩
                 rw [List.getElem?_set] at hj
                 split at hj
                 · split at hj
                   · cases hj; exact .inl rfl
                   · cases hj
                 · exact .inr hj
             · rename_i args _ _ e1
               unfold evAppendA at h
               split at h
               rotate_left
               · split at h
                 · rename_i o1 hap
                   simp only [Option.some.injEq] at h; subst h
                   rcases evAppendV_sh hap with ⟨r1, r2, hr, _⟩ | ⟨i, y, r, _, hr⟩
                   · rw [hr]; exact Grows.app _ _
                   · rw [hr]
                     refine ⟨R.set _ .non, _, rfl, by simp, fun i r hi => ?_⟩
                     rw [List.getElem?_set] at hi
                     split at hi
                     · split at hi
                       · cases hi; exact .inl rfl
                       · cases hi
                     · exact .inr hi
                 · obtain ⟨r, hr⟩ := evAppendN_sh h
                   rw [hr]; exact Grows.app _ _
               rename_i o1 hap
               simp only [Option.some.injEq] at h; subst h
               have h := hap
               clear hap
               unfold evAppend at h
               split at h
               · generalize (Nat.beq _ _) = bb at h
                 cases bb with
                 | false => simp at h
                 | true =>
                   simp only [cond_true] at h
                   split at h
                   · split at h
                     · split at h
                       · generalize (Nat.beq _ _) = bb at h
                         cases bb with
                         | false => simp at h
                         | true =>
                           simp only [cond_true] at h
                           split at h
                           · simp at h; subst h; exact Grows.app _ _
                           · rename_i j
                             split at h
                             · generalize (Nat.beq _ _ && Nat.beq _ _) = bb at h
                               cases bb with
                               | false => simp at h
                               | true =>
                                 simp at h; subst h
                                 refine ⟨R.set _ .non, _, rfl, by simp, fun i r hi => ?_⟩
                                 rw [List.getElem?_set] at hi
                                 split at hi
                                 · split at hi
                                   · cases hi; exact .inl rfl
                                   · cases hi
                                 · exact .inr hi
                             · cases h
                           · cases h
                       · cases h
                     · cases h
                   · cases h
               · cases h
             · cases h)
      | value f =>
        simp only at h
        split at h
        · refine evCall_skip h ?_
          simp only [skipOk, Bool.or_eq_true] at hs
          rcases hs with hs | hs
          · exact .inr (hk hs)
          · exact .inl hs
        · refine evCall_skip h ?_
          simp only [skipOk, Bool.or_eq_true] at hs
          rcases hs with hs | hs
          · exact .inr (hk hs)
          · exact .inl hs
        · cases h
    | _ => simp at h
end
end Go.SL
