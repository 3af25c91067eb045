/-
  The logic, twelfth part and a half: what lies in elements of ours is appended to and put back; clear and copy.
-/
import Derived.Test.YtopmfoohdkjgmaaGreatDoorSlL
namespace Go.SL

section
variable {P : Program} {C : Ctx} {S S' : Nat → Prop} {w w' : World} {ρ ρ' : List Value} {R R' : List Res}

/-- own things are put together anew; only blocks of ours are written -/
theorem Inv.regroup (h : Inv C S w ρ R) (τ : Nat → Nat → Nat) (hlen : ρ'.length = R'.length) (hpre : Pre ρ ρ')
    (hok : ∀ (i : Nat) r v, R'[i]? = some r → ρ'[i]? = some v → r.ok S w' ρ' v)
    (hfoot : ∀ (j : Nat) r v b, R'[j]? = some r → ρ'[j]? = some v → r.foot v b → ∃ j0 r0 v0, τ j0 b = j ∧ R[j0]? = some r0 ∧ ρ[j0]? = some v0 ∧ r0.foot v0 b)
    (hfrm : ∀ b, ¬ feet ρ R b → w'.heap[b]? = w.heap[b]?) (hsz : w'.heap.size = w.heap.size) (ho : w'.os = w.os) (ht : Tp w w') (hp : w'.output = w.output) : Inv C S w' ρ' R' where
  len := hlen
  ok := hok
  dis i j r r' v v' b hij h1 h2 h3 h4 h5 h6 := by
    obtain ⟨j0, r0, v0, e1, a1, a2, a3⟩ := hfoot i r v b h1 h3 h5
    obtain ⟨k0, q0, u0, e2, b1, b2, b3⟩ := hfoot j r' v' b h2 h4 h6
    refine h.dis j0 k0 r0 q0 v0 u0 b (fun e => hij ?_) a1 b1 a2 b2 a3 b3
    rw [← e1, ← e2, e]
  own i r v b h1 h2 h3 := by
    obtain ⟨j0, r0, v0, _, a1, a2, a3⟩ := hfoot i r v b h1 h2 h3
    rw [hsz]
    exact h.own j0 r0 v0 b a1 a2 a3
  sub := h.sub
  sup b hb := by rw [hsz]; exact h.sup b hb
  frm b hb hf := by
    refine (hfrm b fun ⟨i, r, v, h1, h2, h3⟩ => ?_).trans (h.frm b hb hf)
    rcases (h.own i r v b h1 h2 h3).2.2 with k | k
    · exact hf k
    · omega
  size := by rw [hsz]; exact h.size
  os := ho.trans h.os
  tape := ht.trans h.tape
  output := hp.trans h.output
  pre := h.pre.trans hpre
  gl := h.gl

theorem get_app2 {α : Type} {l : List α} {x y z : α} {i : Nat} (h : (l ++ [x, y])[i]? = some z) : l[i]? = some z ∨ i = l.length ∧ z = x ∨ i = l.length + 1 ∧ z = y := by
  grind

/-- an element's slice is taken out of its place -/
theorem Inv.takeOut (hI : Inv C S w ρ R) {i g e s k off e2 sz2 : Nat} {tys : List (TypeId × Nat)} {rows : List (List Pd)} {row : List Pd} {r1 : List (List Pd)} {f : Fn} {xs cs : Array Value} {v h : Value}
    (hi : R[i]? = some (.dsl e s g)) (hg : R[g]? = some (.gh s tys rows none)) (hρi : ρ[i]? = some h) (hρg : ρ[g]? = some (.func f xs cs)) (hx : xs[k * s + off]? = some v) (ht : tys[off]? = some (e2, sz2)) (hrow : rows[k]? = some row) (hoff : row[off]? = some (.s r1)) :
    Inv C S w (ρ ++ [.func f xs cs, v]) ((R.set g .non).set i (.dsl e s R.length) ++ [.gh s tys rows (some (k, off)), .sl e2 sz2 r1]) := by
  have hL : ρ.length = R.length := hI.len
  have hig : i ≠ g := fun e => by subst e; rw [hi] at hg; cases hg
  have hil : i < R.length := (List.getElem?_eq_some_iff.1 hi).1
  have hgl : g < R.length := (List.getElem?_eq_some_iff.1 hg).1
  have hgo : gOk S w s tys rows none xs := by
    obtain ⟨f', xs', cs', k3, k4⟩ := (hI.ok g _ _ hg hρg).live rfl
    cases k3; exact k4
  obtain ⟨o1, o2, o3, o4⟩ := hgo
  have nohole : ∀ q, ¬ isHole s none q := fun q ⟨p, hp, _⟩ => by cases hp
  obtain ⟨v', hv', hcell⟩ := o3 k row hrow off _ hoff
  rw [hx] at hv'; cases hv'
  obtain ⟨hone, hsl⟩ := hcell
  obtain ⟨e2', sz2', ht', hslok⟩ := hsl (nohole _)
  rw [ht] at ht'; cases ht'
  have dist : ∀ (q : Nat) x b, q ≠ k * s + off → xs[q]? = some x → slFoot x b → slFoot v b → False := by
    intro q x b hq hxq h1 h2
    unfold slFoot at h1 h2
    split at h1
    · split at h2
      · exact o4 q (k * s + off) _ _ _ _ _ _ hq (nohole _) (nohole _) hxq hx (h1.trans h2.symm)
      · exact h2
    · exact h1
  have key : ∀ (j : Nat) r1' v1, ((R.set g .non).set i (.dsl e s R.length))[j]? = some r1' → ρ[j]? = some v1 → (j = i ∧ r1' = .dsl e s R.length ∧ h = v1) ∨ r1' = .non ∨ (j ≠ i ∧ j ≠ g ∧ R[j]? = some r1') := by
    grind
  have lenR : ((R.set g .non).set i (.dsl e s R.length)).length = R.length := by simp
  have split2 : ∀ (j : Nat) r1' v1, ((R.set g .non).set i (.dsl e s R.length) ++ [.gh s tys rows (some (k, off)), .sl e2 sz2 r1])[j]? = some r1' → (ρ ++ [.func f xs cs, v])[j]? = some v1 →
      (((R.set g .non).set i (.dsl e s R.length))[j]? = some r1' ∧ ρ[j]? = some v1) ∨ (j = R.length ∧ r1' = .gh s tys rows (some (k, off)) ∧ v1 = .func f xs cs) ∨ (j = R.length + 1 ∧ r1' = .sl e2 sz2 r1 ∧ v = v1) := by
    intro j r1' v1 h1 h2
    have hb : ∀ {j : Nat} {u : Value}, ρ[j]? = some u → j < R.length := fun h => by have := (List.getElem?_eq_some_iff.1 h).1; omega
    have hb' : ∀ {j : Nat} {u : Res}, ((R.set g .non).set i (.dsl e s R.length))[j]? = some u → j < R.length := fun h => by have := (List.getElem?_eq_some_iff.1 h).1; rw [lenR] at this; exact this
    rcases get_app2 h1 with h1 | ⟨e1, h1⟩ | ⟨e1, h1⟩ <;> rcases get_app2 h2 with h2 | ⟨e2, h2⟩ | ⟨e2, h2⟩
    · exact .inl ⟨h1, h2⟩
    · have := hb' h1; omega
    · have := hb' h1; omega
    · rw [lenR] at e1; have := hb h2; omega
    · rw [lenR] at e1; exact .inr (.inl ⟨e1, h1, h2⟩)
    · rw [lenR] at e1; omega
    · rw [lenR] at e1; have := hb h2; omega
    · rw [lenR] at e1; omega
    · rw [lenR] at e1; exact .inr (.inr ⟨e1, h1, h2.symm⟩)
  have hnew : (ρ ++ [.func f xs cs, v])[R.length]? = some (.func f xs cs) := by rw [← hL]; simp
  classical
  refine hI.regroup (fun j0 b => if j0 = g then (if slFoot v b then R.length + 1 else R.length) else j0) (by simp [hL]) (Pre.append _ _) ?_ ?_ (fun _ _ => rfl) rfl rfl ⟨rfl, fun _ => by first | exact Nat.le_refl _ | exact Nat.le_succ _⟩ rfl
  · intro j r1' v1 h1 h2
    rcases split2 j r1' v1 h1 h2 with ⟨h1, h2⟩ | ⟨_, rfl, rfl⟩ | ⟨_, rfl, rfl⟩
    · rcases key j r1' v1 h1 h2 with ⟨_, rfl, rfl⟩ | rfl | ⟨_, _, h1⟩
      · refine (hI.ok i _ _ hi hρi).imp id fun ⟨f', xs', cs', a1, a2⟩ => ?_
        rw [hρg] at a1; cases a1
        exact ⟨f, xs, cs, hnew, a2⟩
      · exact .inr trivial
      · exact (hI.ok j _ _ h1 h2).mono (fun _ h => h) (fun _ _ => rfl) (Pre.append _ _) (fun _ _ => rfl)
    · refine .inr ⟨f, xs, cs, rfl, o1, o2, fun i2 row2 hi2 j2 d hj2 => ?_, fun k1 k2 a1 n1 c1 a2 n2 c2 h1 _ _ h4 h5 => o4 k1 k2 a1 n1 c1 a2 n2 c2 h1 (nohole _) (nohole _) h4 h5⟩
      obtain ⟨x, hx, hc⟩ := o3 i2 row2 hi2 j2 d hj2
      refine ⟨x, hx, ?_⟩
      cases d with
      | v y => exact hc
      | s r => exact ⟨hc.1, fun _ => hc.2 (nohole _)⟩
    · exact .inr hslok
  · intro j r1' v1 b h1 h2 h3
    rcases split2 j r1' v1 h1 h2 with ⟨h1, h2⟩ | ⟨rfl, rfl, rfl⟩ | ⟨rfl, rfl, rfl⟩
    · rcases key j r1' v1 h1 h2 with ⟨rfl, rfl, rfl⟩ | rfl | ⟨g1, g2, h1⟩
      · exact ⟨j, _, _, by rw [if_neg hig], hi, hρi, h3⟩
      · exact h3.elim
      · exact ⟨j, _, _, by rw [if_neg g2], h1, h2, h3⟩
    · obtain ⟨q, x, q1, q2, q3⟩ := h3
      refine ⟨g, _, _, ?_, hg, hρg, q, x, q1, nohole _, q3⟩
      rw [if_pos rfl, if_neg]
      intro hv
      exact dist q x b (fun e => q2 ⟨(k, off), rfl, e⟩) q1 q3 hv
    · refine ⟨g, _, _, ?_, hg, hρg, k * s + off, v, hx, nohole _, h3⟩
      rw [if_pos rfl, if_pos]
      exact h3

theorem evAppend_os {c : Cl} {ts : List TypeId} {i : Nat} {y : AV} {out : Out} {e s : Nat} {rows : List (List Pd)} (h : evAppend P R c ts [.d (.os i), y] = some out) (hi : R[i]? = some (.sl e s rows)) :
    ∃ b z m r', out.c = some (.app rows b z m r') := by
  match ts, h with
  | [t, u], h =>
    simp only [evAppend, hi] at h
    grind
  | [], h => simp [evAppend] at h
  | [_], h => simp [evAppend] at h
  | _ :: _ :: _ :: _, h => simp [evAppend] at h

theorem evAppendD_ok (hI : Inv C S w ρ R) {c : Cl} {ts : Array TypeId} {ty : TypeId} {vs : Array Value} {i g k size off : Nat} {y : AV} {out : Out} (hv : All2 (RdA S w ρ) vs.toList [.d (.oi i g k size off), y])
    (h : evAppendD P R c ts.toList i g k size off y = some out) (hk : ∀ x, out.c = some x → x.ok P) : ∃ v w' ρ', (Builtin.append_ ts ty vs).run P w = .ok v w' ∧ After C S w ρ out.R v out.v S w' ρ' := by
  unfold evAppendD at h
  split at h
  · rename_i e s g' s2 tys rows q1 q2 row q3 r1 r2 sz n rows' hi hg
    split at h
    · rename_i e2 sz2 ht
      cases hb : ((Nat.beq g g' && Nat.beq s s2) && (Nat.beq s size && Nat.blt off s)) with
      | false => rw [hb] at h; simp at h
      | true =>
        rw [hb] at h
        simp only [cond_true] at h
        simp only [Bool.and_eq_true] at hb
        have e1 := Nat.eq_of_beq_eq_true hb.1.1
        subst e1
        have e1 := Nat.eq_of_beq_eq_true hb.1.2
        subst e1
        have e1 := Nat.eq_of_beq_eq_true hb.2.1
        subst e1
        split at h
        · rename_i v' R' a b z m r' hap
          simp at h; subst h
          obtain ⟨v0, v1, hvs, r0, hy⟩ : ∃ v0 v1, vs = #[v0, v1] ∧ RdA S w ρ v0 (.d (.oi i g k s off)) ∧ RdA S w ρ v1 y := by
            obtain ⟨l⟩ := vs
            match l, hv with
            | [v0, v1], hv => exact ⟨v0, v1, rfl, hv.1, hv.2.1⟩
            | [], hv => exact hv.elim
            | [_], hv => exact hv.2.elim
            | _ :: _ :: _ :: _, hv => exact hv.2.2.elim
          subst hvs
          have hlen : ((R.set g .non).set i (.dsl e s R.length) ++ [Res.gh s tys rows (some (k, off)), .sl e2 sz2 r1])[R.length + 1]? = some (.sl e2 sz2 r1) := by
            rw [List.getElem?_append_right (by simp)]; simp
          obtain ⟨b0, z0, m0, r0', hc⟩ := evAppend_os hap hlen
          simp at hc
          obtain ⟨rfl, _⟩ := hc
          obtain ⟨⟨k1, k2⟩, k3⟩ := hk _ rfl
          have hone := r0.d_inv.one
          cases r0.d_inv with
          | @oi _ _ _ _ _ f xs cs _ hρg hx h1 =>
            have hρi : ∃ h, ρ[i]? = some h := hI.rho hi
            obtain ⟨hh, hρi⟩ := hρi
            have hT := hI.takeOut hi hg hρi hρg hx ht k1 k2
            have hat : (ρ ++ [Value.func f xs cs, v0])[R.length + 1]? = some v0 := by
              rw [← hI.len, List.getElem?_append_right (by simp)]; simp
            obtain ⟨v, w', ρ', hr, hA⟩ := evAppend_ok (ty := ty) (vs := #[v0, v1]) hT (args := [.d (.os (R.length + 1)), y]) ⟨.d (.os hat hone), hy.mono (fun _ h => h) (fun _ _ => rfl) (Pre.append _ _), trivial⟩ hap (fun x hx => by simp at hx; subst hx; exact k3)
            exact ⟨v, w', ρ', hr, hA.inv, hA.sub, hA.same, (Pre.append _ _).trans hA.pre, hA.rd⟩
        · cases h
    · cases h
  · cases h

/-- what lies at a place behind a write -/
theorem written_get {vs : Array Value} {news : List Value} {o : Nat} (hl : o + news.length ≤ vs.size) (q : Nat) :
    ((vs.toList.take o ++ news ++ vs.toList.drop (o + news.length)).toArray)[q]? = if q < o then vs[q]? else if q < o + news.length then news[q - o]? else vs[q]? := by
  grind
theorem written_size {vs : Array Value} {news : List Value} {o : Nat} (hl : o + news.length ≤ vs.size) : ((vs.toList.take o ++ news ++ vs.toList.drop (o + news.length)).toArray).size = vs.size := by
  grind

theorem slFoot_blk {v : Value} {b : Nat} {e s : Nat} {rows : List (List Pd)} (h : slOk S w e s rows v) (hf : slFoot v b) : ∃ vs, Blk w b vs e := by
  rcases h with ⟨h1, _⟩ | ⟨b', o, cap, vs, h1, h2, _⟩
  · subst h1; exact hf.elim
  · subst h1; cases hf; exact ⟨vs, h2⟩

/-- an element's slice is put back into its place -/
theorem Inv.putBack (hI : Inv C S w ρ R) {i g m e s k off e2 sz2 b o len cap : Nat} {tys : List (TypeId × Nat)} {rows : List (List Pd)} {row : List Pd} {r1 : List (List Pd)} {f : Fn} {xs cs : Array Value} {v u : Value} {t : TypeId} (hcells : u.cells.toList = [v])
    (hi : R[i]? = some (.dsl e s g)) (hg : R[g]? = some (.gh s tys rows (some (k, off)))) (hm : R[m]? = some (.sl e2 sz2 r1)) (hρi : ρ[i]? = some (.slice (some ⟨b, o, none⟩) len cap)) (hρg : ρ[g]? = some (.func f xs cs)) (hρm : ρ[m]? = some v) (hv1 : v.oneCell' = true)
    (ht : tys[off]? = some (e2, sz2)) (hrow : rows[k]? = some row) (hos : off < s) (hn : tySize P t = some 1) :
    ∃ w' ρ', (storeVar t ⟨b, o + k * s + off, none⟩ u).run P w = .ok () w' ∧
      After C S w ρ ((((R.set m .non).set g .non).set i (.dsl e s R.length)) ++ [.gh s tys (rows.set k (row.take off ++ (.s r1 :: row.drop (off + 1)))) none]) undef (.tup []) S w' ρ' := by
  have hL : ρ.length = R.length := hI.len
  have hig : i ≠ g := fun e => by subst e; rw [hi] at hg; cases hg
  have him : i ≠ m := fun e => by subst e; rw [hi] at hm; cases hm
  have hgm : g ≠ m := fun e => by subst e; rw [hg] at hm; cases hm
  have hgo : gOk S w s tys rows (some (k, off)) xs := by
    obtain ⟨f', xs', cs', k3, k4⟩ := (hI.ok g _ _ hg hρg).live rfl
    cases k3; exact k4
  obtain ⟨o1, o2, o3, o4⟩ := hgo
  have hrl : row.length = s := o1 row (List.mem_of_getElem? hrow)
  have hkl : k < rows.length := (List.getElem?_eq_some_iff.1 hrow).1
  obtain ⟨vs, hb, hlc, hcm, hfit, hxs, hcp⟩ : ∃ vs, w.heap[b]? = some (.cells vs e (0, 0)) ∧ len ≤ cap ∧ cap ≤ maxLen ∧ o + cap * s ≤ vs.size ∧ xs.size = len * s ∧ ∀ (k : Nat) x, xs[k]? = some x → vs[o + k]? = some x := by
    obtain ⟨f', xs', cs', a1, a2⟩ := (hI.ok i _ _ hi hρi).live rfl
    rw [hρg] at a1; cases a1
    rcases a2 with ⟨a2, _⟩ | ⟨b', o', len', cap', vs, a2, a3, a4, a5, a6, a7, a8⟩
    · cases a2
    · cases a2; exact ⟨vs, a3, a4, a5, a6, a7, a8⟩
  have hs0 : 0 < s := by omega
  have hlen : len = rows.length := Nat.eq_of_mul_eq_mul_right hs0 (hxs.symm.trans o2)
  subst hlen
  have hks : k * s + off < rows.length * s := by
    have : (k + 1) * s ≤ rows.length * s := Nat.mul_le_mul_right _ hkl
    rw [Nat.add_mul, Nat.one_mul] at this; omega
  have hkc : k * s + off < cap * s := Nat.lt_of_lt_of_le hks (Nat.mul_le_mul_right _ hlc)
  have hbound : o + k * s + off + [v].length ≤ vs.size := by simp; omega
  have hrun := run_storeVar' (P := P) (w := w) (t := t) (v := u) (n := 1) (g := b) (o := o + k * s + off) (u := e) (cur := vs) hn (by have := congrArg List.length hcells; simpa using this) (.of hb) (by simpa using hbound) (by rw [hcells]; intro x hx; simp at hx; subst hx; exact hv1)
  rw [hcells] at hrun
  refine ⟨_, ρ ++ [.func f (xs.set! (k * s + off) v) cs], hrun, ?_⟩
  generalize hw' : w.setRow b (vs.toList.take (o + k * s + off) ++ [v] ++ vs.toList.drop (o + k * s + off + [v].length)).toArray = w'
  have hoth : ∀ q, q ≠ b → w'.heap[q]? = w.heap[q]? := fun q hq => by rw [← hw']; exact heap_setRow_other _ _ _ _ hq
  have hsame : w'.heap[b]? = some (.cells (vs.toList.take (o + k * s + off) ++ [v] ++ vs.toList.drop (o + k * s + off + [v].length)).toArray e (0, 0)) := by rw [← hw']; exact heap_setRow_same _ _ _ _ _ _ hb
  have hown := hI.own i _ _ b hi hρi rfl
  have hS : ∀ q, S q → w'.heap[q]? = w.heap[q]? := fun q hq => hoth q fun e => hown.1 (e ▸ hq)
  have hnew : (ρ ++ [Value.func f (xs.set! (k * s + off) v) cs])[R.length]? = some (.func f (xs.set! (k * s + off) v) cs) := by rw [← hL]; simp
  have xget : ∀ q, (xs.set! (k * s + off) v)[q]? = if q = k * s + off then some v else xs[q]? := by
    intro q
    rw [Array.set!_eq_setIfInBounds, Array.getElem?_setIfInBounds]
    by_cases hq : q = k * s + off
    · subst hq; simp; omega
    · rw [if_neg (fun e => hq e.symm), if_neg hq]
  have nohole : ∀ q, ¬ isHole s none q := fun q ⟨p, hp, _⟩ => by cases hp
  have hole : ∀ q, isHole s (some (k, off)) q ↔ q = k * s + off := fun q => ⟨fun ⟨p, hp, he⟩ => by cases hp; exact he, fun h => ⟨_, rfl, h⟩⟩
  have key : ∀ (j : Nat) r1' v1, (((R.set m .non).set g .non).set i (.dsl e s R.length))[j]? = some r1' → ρ[j]? = some v1 → (j = i ∧ r1' = .dsl e s R.length) ∨ r1' = .non ∨ (j ≠ i ∧ j ≠ g ∧ j ≠ m ∧ R[j]? = some r1') := by
    intro j r1' v1 h1 h2
    rw [List.getElem?_set] at h1
    split at h1
    · rename_i he
      subst he
      split at h1
      · cases h1; exact .inl ⟨rfl, rfl⟩
      · cases h1
    · rename_i he
      rw [List.getElem?_set] at h1
      split at h1
      · split at h1
        · cases h1; exact .inr (.inl rfl)
        · cases h1
      · rename_i he2
        rw [List.getElem?_set] at h1
        split at h1
        · split at h1
          · cases h1; exact .inr (.inl rfl)
          · cases h1
        · rename_i he3
          exact .inr (.inr ⟨fun e => he e.symm, fun e => he2 e.symm, fun e => he3 e.symm, h1⟩)
  have hslm : slOk S w e2 sz2 r1 v := (hI.ok m _ _ hm hρm).live hv1
  have mb : ∀ q, slFoot v q → q ≠ b := fun q hq e => hI.dis m i _ _ _ _ q (Ne.symm him) hm hi hρm hρi hq e.symm
  have gb : ∀ (p : Nat) x q, xs[p]? = some x → p ≠ k * s + off → slFoot x q → q ≠ b := fun p x q hx hp hq e => hI.dis g i _ _ _ _ q (Ne.symm hig) hg hi hρg hρi ⟨p, x, hx, fun h => hp ((hole p).1 h), hq⟩ e.symm
  have mg : ∀ (p : Nat) x q, xs[p]? = some x → p ≠ k * s + off → slFoot x q → slFoot v q → False := fun p x q hx hp hq h2 => hI.dis m g _ _ _ _ q (Ne.symm hgm) hm hg hρm hρg h2 ⟨p, x, hx, fun h => hp ((hole p).1 h), hq⟩
  refine ⟨hI.regroup (fun j0 _ => if j0 = g ∨ j0 = m then R.length else j0) (by simp [hL]) (Pre.append _ _) ?_ ?_ ?_ ?_ ?_ ?_ ?_, fun _ h => h, hS, Pre.append _ _, .tup (vs := []) rfl (by simp)⟩
  · intro j r1' v1 h1 h2
    rcases get_snoc h1 with h1 | ⟨e1, rfl⟩
    · have hjl : j < R.length := by have := (List.getElem?_eq_some_iff.1 h1).1; simpa using this
      have h2 : ρ[j]? = some v1 := by rw [List.getElem?_append_left (by omega)] at h2; exact h2
      rcases key j r1' v1 h1 h2 with ⟨rfl, rfl⟩ | rfl | ⟨g1, g2, g3, h1⟩
      · rw [hρi] at h2; cases h2
        refine .inr ⟨f, _, cs, hnew, .inr ⟨b, o, rows.length, cap, _, rfl, hsame, hlc, hcm, ?_, ?_, fun q x hx => ?_⟩⟩
        · rw [written_size hbound]; exact hfit
        · rw [Array.set!_eq_setIfInBounds, Array.size_setIfInBounds]; exact hxs
        · rw [written_get hbound]
          rw [xget] at hx
          by_cases hq : q = k * s + off
          · subst hq
            rw [if_pos rfl] at hx
            rw [if_neg (by omega), if_pos (by simp; omega), ← hx, show o + (k * s + off) - (o + k * s + off) = 0 from by omega]; rfl
          · rw [if_neg hq] at hx
            split
            · exact hcp q x hx
            · rw [if_neg (by simp; omega)]; exact hcp q x hx
      · exact .inr trivial
      · exact (hI.ok j _ _ h1 h2).mono (fun _ h => h) hS (Pre.append _ _) fun q hq => hoth q fun e => hI.dis j i _ _ _ _ q g1 h1 hi h2 hρi hq e.symm
    · simp at e1
      subst e1
      rw [hnew] at h2; cases h2
      refine .inr ⟨f, _, cs, rfl, fun l hl => ?_, ?_, fun i2 row2 hi2 j2 d hj2 => ?_, fun k1 k2 a1 n1 c1 a2 n2 c2 h12 _ _ h4 h5 => ?_⟩
      · rcases List.mem_or_eq_of_mem_set hl with h | h
        · exact o1 l h
        · subst h; simp; omega
      · rw [Array.set!_eq_setIfInBounds, Array.size_setIfInBounds, List.length_set]; exact o2
      · have hi2l : i2 < rows.length := by have := (List.getElem?_eq_some_iff.1 hi2).1; simpa using this
        have hj2l : j2 < s := by
          have : row2.length = s := by
            rcases List.mem_or_eq_of_mem_set (List.mem_of_getElem? hi2) with h | h
            · exact o1 _ h
            · subst h; simp; omega
          rw [← this]; exact (List.getElem?_eq_some_iff.1 hj2).1
        have hmono : ∀ {x : Value} {d : Pd}, xs[i2 * s + j2]? = some x → i2 * s + j2 ≠ k * s + off → gCell S w tys j2 (isHole s (some (k, off)) (i2 * s + j2)) x d → gCell S w' tys j2 (isHole s none (i2 * s + j2)) x d := by
          intro x d hx hne hc
          cases d with
          | v y => exact hc
          | s r =>
            refine ⟨hc.1, fun _ => ?_⟩
            obtain ⟨e', s', h1, h2⟩ := hc.2 fun h => hne ((hole _).1 h)
            exact ⟨e', s', h1, h2.mono (fun _ h => h) hS fun q hq => hoth q (gb _ x q hx hne hq)⟩
        by_cases hik : i2 = k
        · subst hik
          rw [List.getElem?_set_self hi2l] at hi2
          cases hi2
          rcases Nat.lt_trichotomy j2 off with hj1 | hj1 | hj1
          · rw [List.getElem?_append_left (by simp; omega), List.getElem?_take, if_pos hj1] at hj2
            obtain ⟨x, hx, hc⟩ := o3 i2 row hrow j2 d hj2
            have hne : i2 * s + j2 ≠ i2 * s + off := by omega
            exact ⟨x, by rw [xget, if_neg hne]; exact hx, hmono hx hne hc⟩
          · subst hj1
            rw [List.getElem?_append_right (by rw [List.length_take]; omega)] at hj2
            rw [show j2 - (row.take j2).length = 0 from by rw [List.length_take]; omega] at hj2
            simp at hj2; subst hj2
            exact ⟨v, by rw [xget, if_pos rfl], hv1, fun _ => ⟨e2, sz2, ht, hslm.mono (fun _ h => h) hS fun q hq => hoth q (mb q hq)⟩⟩
          · rw [List.getElem?_append_right (by simp; omega)] at hj2
            rw [show j2 - (row.take off).length = (j2 - off - 1) + 1 from by simp; omega, List.getElem?_cons_succ, List.getElem?_drop, show off + 1 + (j2 - off - 1) = j2 from by omega] at hj2
            obtain ⟨x, hx, hc⟩ := o3 i2 row hrow j2 d hj2
            have hne : i2 * s + j2 ≠ i2 * s + off := by omega
            exact ⟨x, by rw [xget, if_neg hne]; exact hx, hmono hx hne hc⟩
        · rw [List.getElem?_set_ne (Ne.symm hik)] at hi2
          obtain ⟨x, hx, hc⟩ := o3 i2 row2 hi2 j2 d hj2
          have hne : i2 * s + j2 ≠ k * s + off := by
            rcases Nat.lt_or_gt_of_ne hik with h | h
            · have : (i2 + 1) * s ≤ k * s := Nat.mul_le_mul_right _ h
              rw [Nat.add_mul, Nat.one_mul] at this; omega
            · have : (k + 1) * s ≤ i2 * s := Nat.mul_le_mul_right _ h
              rw [Nat.add_mul, Nat.one_mul] at this; omega
          exact ⟨x, by rw [xget, if_neg hne]; exact hx, hmono hx hne hc⟩
      · rw [xget] at h4 h5
        by_cases e1 : k1 = k * s + off
        · rw [if_pos e1] at h4
          have e2 : k2 ≠ k * s + off := fun e => h12 (e1.trans e.symm)
          rw [if_neg e2] at h5
          intro hbb
          cases h4
          exact mg k2 _ a2.block h5 e2 rfl hbb
        · rw [if_neg e1] at h4
          by_cases e2 : k2 = k * s + off
          · rw [if_pos e2] at h5
            intro hbb
            cases h5
            exact mg k1 _ a1.block h4 e1 rfl hbb.symm
          · rw [if_neg e2] at h5
            exact o4 k1 k2 a1 n1 c1 a2 n2 c2 h12 (fun h => e1 ((hole _).1 h)) (fun h => e2 ((hole _).1 h)) h4 h5
  · intro j r1' v1 q h1 h2 h3
    rcases get_snoc h1 with h1 | ⟨e1, rfl⟩
    · have hjl : j < R.length := by have := (List.getElem?_eq_some_iff.1 h1).1; simpa using this
      have h2 : ρ[j]? = some v1 := by rw [List.getElem?_append_left (by omega)] at h2; exact h2
      rcases key j r1' v1 h1 h2 with ⟨rfl, rfl⟩ | rfl | ⟨g1, g2, g3, h1⟩
      · exact ⟨j, _, _, by rw [if_neg (by simp [hig, him])], hi, h2, h3⟩
      · exact h3.elim
      · exact ⟨j, _, _, by rw [if_neg (by simp [g2, g3])], h1, h2, h3⟩
    · simp at e1
      subst e1
      rw [hnew] at h2; cases h2
      obtain ⟨p, x, p1, _, p3⟩ := h3
      rw [xget] at p1
      by_cases hp : p = k * s + off
      · rw [if_pos hp] at p1; cases p1
        exact ⟨m, _, _, by rw [if_pos (.inr rfl)], hm, hρm, p3⟩
      · rw [if_neg hp] at p1
        exact ⟨g, _, _, by rw [if_pos (.inl rfl)], hg, hρg, p, x, p1, fun h => hp ((hole p).1 h), p3⟩
  · intro q hq
    exact hoth q fun e => hq ⟨i, _, _, hi, hρi, e.symm⟩
  · rw [← hw']; simp
  · rw [← hw']; rfl
  · rw [← hw']; exact ⟨rfl, fun _ => Nat.le_refl _⟩
  · rw [← hw']; rfl

/-- a run of rows of an own slice is written -/
theorem Inv.putRun (hI : Inv C S w ρ R) {i s b o l cp lo : Nat} {e : TypeId} {rows news : List (List Pd)} {vs2 : List Value} (hi : R[i]? = some (.sl e s rows)) (hρ : ρ[i]? = some (.slice (some ⟨b, o, none⟩) l cp))
    (hv : All2 (RdP S w) vs2 news.flatten) (hu : ∀ l, l ∈ news → l.length = s) (hb : lo + news.length ≤ rows.length) :
    ∃ w', (storeCells ⟨b, o + lo * s, none⟩ vs2).run P w = .ok () w' ∧ Inv C S w' ρ (R.set i (.sl e s (rows.take lo ++ (news ++ rows.drop (lo + news.length))))) ∧ (∀ k, S k → w'.heap[k]? = w.heap[k]?) := by
  rcases sl_flat.1 ((hI.ok i _ _ hi hρ).live rfl) with ⟨h3, _⟩ | ⟨b', o', cp', vs, h3, hbk, hcap, hmx, hfit, hlen, hcells⟩
  · cases h3
  · cases h3
    have hvl : vs2.length = news.length * s := by rw [hv.length, flatten_length hu]
    have hle : (lo + news.length) * s ≤ rows.length * s := Nat.mul_le_mul_right _ hb
    have hle2 : rows.length * s ≤ cp * s := Nat.mul_le_mul_right _ hcap
    rw [Nat.add_mul] at hle
    have hbound : o + lo * s + vs2.length ≤ vs.size := by omega
    refine ⟨_, run_storeCells' hbk hbound (all2_one hv), ?_, fun q hq => heap_setRow_other _ _ _ _ fun e => (hI.own i _ _ b hi hρ rfl).1 (e ▸ hq)⟩
    have ob := hI.own i _ _ b hi hρ rfl
    refine hI.put hi hρ (b := b) rfl (fun k hk => by simp [Res.foot] at hk; exact hk.symm) (fun k hk => heap_setRow_other _ _ _ _ hk) (by simp) rfl ⟨rfl, fun _ => by first | exact Nat.le_refl _ | exact Nat.le_succ _⟩ rfl (.inr (sl_flat.2 (.inr ⟨b, o, cp, _, ?_, hbk.put (written_size hbound), ?_, hmx, ?_, ?_, ?_⟩)))
    · have : (rows.take lo ++ (news ++ rows.drop (lo + news.length))).length = rows.length := by simp; omega
      rw [this]
    · have : (rows.take lo ++ (news ++ rows.drop (lo + news.length))).length = rows.length := by simp; omega
      rw [this]; exact hcap
    · rw [written_size hbound]; exact hfit
    · intro r hr
      rcases List.mem_append.1 hr with hr | hr
      · exact hlen r (List.mem_of_mem_take hr)
      · rcases List.mem_append.1 hr with hr | hr
        · exact hu r hr
        · exact hlen r (List.mem_of_mem_drop hr)
    · have hrl : (rows.take lo ++ (news ++ rows.drop (lo + news.length))).length = rows.length := by simp; omega
      rw [hrl, List.flatten_append, List.flatten_append]
      have hS : ∀ k, S k → (w.setRow b (vs.toList.take (o + lo * s) ++ vs2 ++ vs.toList.drop (o + lo * s + vs2.length)).toArray).heap[k]? = w.heap[k]? := fun q hq => heap_setRow_other _ _ _ _ fun e => ob.1 (e ▸ hq)
      have e1 : ((vs.toList.take (o + lo * s) ++ vs2 ++ vs.toList.drop (o + lo * s + vs2.length)).drop o).take (rows.length * s) =
          ((vs.toList.drop o).take (rows.length * s)).take (lo * s) ++ (vs2 ++ ((vs.toList.drop o).take (rows.length * s)).drop ((lo + news.length) * s)) := by
        apply List.ext_getElem?
        intro q
        have hg := written_get hbound (o + q)
        simp only [List.getElem?_toArray] at hg
        rw [List.getElem?_take, List.getElem?_drop, hg]
        have hq1 : (((vs.toList.drop o).take (rows.length * s)).take (lo * s)).length = lo * s := by
          simp only [List.length_take, List.length_drop, Array.length_toList]; omega
        rcases Nat.lt_or_ge q (lo * s) with hq | hq
        · rw [List.getElem?_append_left (by rw [hq1]; exact hq), List.getElem?_take, if_pos hq, List.getElem?_take, if_pos (by omega), if_pos (by omega), if_pos (by omega), List.getElem?_drop]; simp
        · rw [List.getElem?_append_right (by rw [hq1]; exact hq), hq1]
          rcases Nat.lt_or_ge q (lo * s + vs2.length) with hq2 | hq2
          · rw [List.getElem?_append_left (by omega), if_pos (by omega), if_neg (by omega), if_pos (by omega)]
            congr 1; omega
          · rw [List.getElem?_append_right (by omega), List.getElem?_drop, List.getElem?_take, Nat.add_mul]
            rw [show lo * s + news.length * s + (q - lo * s - vs2.length) = q from by omega]
            split
            · rw [if_neg (by omega), if_neg (by omega), List.getElem?_drop]; simp
            · rfl
      rw [e1]
      have ft : ∀ n, n ≤ rows.length → (rows.take n).flatten = rows.flatten.take (n * s) := by
        intro n hn
        have h1 := flatten_length (fun l hl => hlen l (List.mem_of_mem_take (i := n) hl))
        rw [List.length_take, Nat.min_eq_left hn] at h1
        have h2 : rows.flatten = (rows.take n).flatten ++ (rows.drop n).flatten := by rw [← List.flatten_append, List.take_append_drop]
        rw [h2, ← h1]
        exact (List.take_left).symm
      have fd : ∀ n, n ≤ rows.length → (rows.drop n).flatten = rows.flatten.drop (n * s) := by
        intro n hn
        have h1 := flatten_length (fun l hl => hlen l (List.mem_of_mem_take (i := n) hl))
        rw [List.length_take, Nat.min_eq_left hn] at h1
        have h2 : rows.flatten = (rows.take n).flatten ++ (rows.drop n).flatten := by rw [← List.flatten_append, List.take_append_drop]
        rw [h2, ← h1]
        exact (List.drop_left).symm
      rw [ft lo (by omega), fd (lo + news.length) hb]
      exact ((hcells.take _).append (hv.append (hcells.drop _))).mono fun _ _ h => h.mono (fun _ h => h) hS

theorem evPutD_ok (hI : Inv C S w ρ R) {c : Cl} {o : Oper} {i k size off n : Nat} {ds : List D} {out : Out} (h : evPutD R c o i k size off ds n = some out) (hk : ∀ x, out.c = some x → x.ok P) {t : TypeId} {u : Value}
    (hv : All2 (Rd S w ρ) u.cells.toList ds) (hn : tySize P t = some n) {b p len cap : Nat} (hρ : ρ[i]? = some (.slice (some ⟨b, p, none⟩) len cap)) :
    o.dst = none ∧ ∃ w' ρ', (storeVar t ⟨b, p + k * size + off, none⟩ u).run P w = .ok () w' ∧ After C S w ρ out.R undef out.v S w' ρ' := by
  unfold evPutD at h
  split at h
  · rename_i e s g m q1 q2 q3 row q4 rows' hi
    split at h
    · rename_i s2 tys rows k0 off0 e2 sz2 r1 hg hm
      split at h
      · rename_i e3 sz3 ht
        cases hb : (Nat.beq s size && Nat.beq s s2) && ((Nat.beq off off0 && Nat.beq n 1) && ((Nat.blt off s && o.dst.isNone) && (Nat.beq e2 e3 && Nat.beq sz2 sz3))) with
        | false => rw [hb] at h; simp at h
        | true =>
          rw [hb] at h
          simp only [cond_true, Option.some.injEq] at h
          subst h
          simp only [Bool.and_eq_true] at hb
          obtain ⟨⟨b1, b2⟩, ⟨b3, b4⟩, ⟨b5, b6⟩, b7, b8⟩ := hb
          have h1 := Nat.eq_of_beq_eq_true b1
          subst h1
          have h1 := Nat.eq_of_beq_eq_true b2
          subst h1
          have h1 := Nat.eq_of_beq_eq_true b3
          subst h1
          have h1 := Nat.eq_of_beq_eq_true b4
          subst h1
          have h1 : e2 = e3 := Nat.eq_of_beq_eq_true b7
          subst h1
          have h1 := Nat.eq_of_beq_eq_true b8
          subst h1
          have hos : off < s := by simpa [Nat.blt_eq] using b5
          have hdst : o.dst = none := by cases hd : o.dst <;> simp [hd] at b6; rfl
          obtain ⟨k1, k2, k3⟩ := hk _ rfl
          subst k1
          subst k3
          obtain ⟨v, hcells, hr⟩ : ∃ v, u.cells.toList = [v] ∧ Rd S w ρ v (.os m) := by
            generalize u.cells.toList = l at hv
            match l, hv with
            | [v], hv => exact ⟨v, rfl, hv.1⟩
            | [], hv => exact hv.elim
            | _ :: _ :: _, hv => exact hv.2.elim
          obtain ⟨f, xs, cs, hρg⟩ : ∃ f xs cs, ρ[g]? = some (.func f xs cs) := by
            obtain ⟨f', xs', cs', a1, _⟩ := (hI.ok i _ _ hi hρ).live rfl
            exact ⟨f', xs', cs', a1⟩
          exact ⟨hdst, hI.putBack hcells hi hg hm hρ hρg hr.os_inv hr.one ht k2 hos hn⟩
      · cases h
    · cases h
  · cases h

/-- where clear and copy write -/
theorem dst_ok (hI : Inv C S w ρ R) {v : Value} {x : AV} {i lo n s : Nat} (hr : RdA S w ρ v x) (h : dstOf R x = some (i, lo, n, s)) {e s2 : Nat} {rows : List (List Pd)} (hi : R[i]? = some (.sl e s2 rows)) :
    ∃ a c, v = .slice a n c ∧ lo + n ≤ rows.length ∧ (n = 0 ∨ (s = s2 → ∃ b o l cp, ρ[i]? = some (.slice (some ⟨b, o, none⟩) l cp) ∧ a = some ⟨b, o + lo * s, none⟩)) := by
  unfold dstOf at h
  split at h
  · rename_i j
    split at h
    · rename_i q s3 rows3 hj
      simp at h
      obtain ⟨rfl, rfl, rfl, rfl⟩ := h
      rw [hi] at hj; cases hj
      have hρ := hr.d_inv.os_inv
      rcases (hI.ok _ _ _ hi hρ).live hr.d_inv.one with ⟨h1, h2⟩ | ⟨b, o, cap, vs, h1, _⟩
      · exact ⟨none, 0, by rw [h1, h2]; rfl, by omega, .inl (by rw [h2]; rfl)⟩
      grind
    · cases h
  · rename_i j lo' n' s'
    simp at h
    obtain ⟨rfl, rfl, rfl, rfl⟩ := h
    have hr' := hr.d_inv
    cases hr' with
    | @osb _ _ _ _ q a len cap hρ hl hc hq hq2 =>
      rcases (hI.ok _ _ _ hi hρ).live rfl with ⟨h1, h2⟩ | ⟨b, o, cap', vs, h1, _, h3, _⟩
      · cases h1
        subst h2
        exact ⟨_, _, rfl, hl, .inl (by omega)⟩
      · cases h1
        refine ⟨_, _, rfl, hl, ?_⟩
        by_cases hn : n' = 0
        · exact .inl hn
        · refine .inr fun _ => ⟨b, o, _, _, hρ, ?_⟩
          rw [hq2 (by omega)]
          simp [add_mk]
  · cases h

theorem evClear_ok (hI : Inv C S w ρ R) {c : Cl} {ts : Array TypeId} {ty : TypeId} {vs : Array Value} {args : List AV} {out : Out} (hv : All2 (RdA S w ρ) vs.toList args) (h : evClear P R c ts.toList args = some out)
    (hk : ∀ x, out.c = some x → x.ok P) : ∃ v w', (Builtin.clear_ ts ty vs).run P w = .ok v w' ∧ After C S w ρ out.R v out.v S w' ρ := by
  unfold evClear at h
  split at h
  · rename_i ts' t x hts
    split at h
    · rename_i e ht
      split at h
      · rename_i size zd i lo n s hs hz hd
        split at h
        · rename_i zs e' s2 rows q1 rows' hdp hi
          cases hb : (Nat.beq s s2 && Nat.beq s (size + 1)) && Nat.beq zs.length (size + 1) with
          | false => rw [hb] at h; simp at h
          | true =>
            rw [hb] at h
            simp only [cond_true, Option.some.injEq] at h
            subst h
            simp only [Bool.and_eq_true] at hb
            have h1 := Nat.eq_of_beq_eq_true hb.1.1
            subst h1
            have h1 := Nat.eq_of_beq_eq_true hb.1.2
            subst h1
            have hzl := Nat.eq_of_beq_eq_true hb.2
            have k1 := hk _ rfl
            have k1 : rows.take lo ++ (List.replicate n (zs.map Pd.nz) ++ rows.drop (lo + n)) = rows' := k1
            subst k1
            obtain ⟨v0, hvs, r0⟩ : ∃ v0, vs = #[v0] ∧ RdA S w ρ v0 x := by
              obtain ⟨l⟩ := vs
              match l, hv with
              | [v0], hv => exact ⟨v0, rfl, hv.1⟩
              | [], hv => exact hv.elim
              | _ :: _ :: _, hv => exact hv.2.elim
            have htsa : ts = #[t] := by obtain ⟨l⟩ := ts; simp at hts; rw [hts]
            subst hvs; subst htsa
            obtain ⟨z, hz1, hz2⟩ := bindE hz
            obtain ⟨a, cc, rfl, hle, hcase⟩ := dst_ok hI r0 hd hi
            have hstay : ∀ (R2 : List Res), R2 = R → After C S w ρ R2 (.tuple #[]) (.tup []) S w ρ := fun R2 h => by subst h; exact ⟨hI, fun _ h => h, fun _ _ => rfl, Pre.refl _, .tup (vs := []) rfl (by simp)⟩
            by_cases hn : n = 0
            · subst hn
              refine ⟨.tuple #[], w, ?_, hstay _ ?_⟩
              · cases a <;> simp [Builtin.clear_, run_underlying ht]
              · simp
                apply List.ext_getElem?
                intro j
                rw [List.getElem?_set]
                split
                · rename_i hj; subst hj
                  rw [if_pos (List.getElem?_eq_some_iff.1 hi).1, hi]
                · rfl
            · rcases hcase with hcase | hcase
              · exact absurd hcase hn
              · obtain ⟨b, o, l, cp, hρ, rfl⟩ := hcase rfl
                have hzc := dsOf_ok (S := S) (w := w) (ρ := ρ) hz2
                have hzp := RdP.nzL (dPs_ok hdp hzc)
                have hfl : All2 (RdP S w) (Builtin.zeroCells z.cells n).toList (List.replicate n (zs.map Pd.nz)).flatten := by
                  rw [show (Builtin.zeroCells z.cells n).toList = repeatL n z.cells.toList from repeat_range _ _]
                  exact all2_replicate hzp n
                obtain ⟨w', hr, hI', hS⟩ := hI.putRun (P := P) (lo := lo) hi hρ hfl (fun l hl => by rw [List.eq_of_mem_replicate hl]; simpa using hzl) (by simpa using hle)
                simp only [List.length_replicate] at hI'
                refine ⟨.tuple #[], w', ?_, hI', fun _ h => h, hS, Pre.refl _, .tup (vs := []) rfl (by simp)⟩
                obtain ⟨n, rfl⟩ : ∃ m, n = m + 1 := ⟨n - 1, by omega⟩
                simp [Builtin.clear_, run_underlying ht, run_zeroValue' hz1, hr]
        · cases h
      · cases h
    · cases h
  · cases h

theorem evCopy_ok (hI : Inv C S w ρ R) {c : Cl} {ts : Array TypeId} {ty : TypeId} {vs : Array Value} {args : List AV} {out : Out} (hv : All2 (RdA S w ρ) vs.toList args) (h : evCopy P R c ts.toList args = some out)
    (hk : ∀ x, out.c = some x → x.ok P) : ∃ v w', (Builtin.copy_ ts ty vs).run P w = .ok v w' ∧ After C S w ρ out.R v out.v S w' ρ := by
  unfold evCopy at h
  split at h
  · rename_i ts' t tr x y hts
    split at h
    · rename_i e ht
      split at h
      · rename_i size i lo n s hs hd
        split at h
        · rename_i src e' s2 rows q1 q2 q3 m q4 rows' hsrc hi
          cases hb : Nat.beq s s2 && Nat.beq s (size + 1) with
          | false => rw [hb] at h; simp at h
          | true =>
            rw [hb] at h
            simp only [cond_true, Option.some.injEq] at h
            subst h
            simp only [Bool.and_eq_true] at hb
            have h1 := Nat.eq_of_beq_eq_true hb.1
            subst h1
            have h1 := Nat.eq_of_beq_eq_true hb.2
            subst h1
            obtain ⟨k1, k2, k3⟩ := hk _ rfl
            subst k3
            subst k1
            obtain ⟨v0, v1, hvs, r0, r1⟩ : ∃ v0 v1, vs = #[v0, v1] ∧ RdA S w ρ v0 x ∧ RdA S w ρ v1 y := by
              obtain ⟨l⟩ := vs
              match l, hv with
              | [v0, v1], hv => exact ⟨v0, v1, rfl, hv.1, hv.2.1⟩
              | [], hv => exact hv.elim
              | [_], hv => exact hv.2.elim
              | _ :: _ :: _ :: _, hv => exact hv.2.2.elim
            have htsa : ts[0]? = some t := by obtain ⟨l⟩ := ts; simp at hts; simp [hts]
            subst hvs
            obtain ⟨a, cc, rfl, hle, hcase⟩ := dst_ok hI r0 hd hi
            have hm : Nat.min src.length n ≤ src.length := Nat.min_le_left _ _
            have hmn : Nat.min src.length n ≤ n := Nat.min_le_right _ _
            obtain ⟨b2, c2, news, hform, hfc, hall⟩ := src_first (P := P) hI r1 hsrc k2 hm
            subst hform
            have hfc := hfc w fun _ => rfl
            have hnl : news.toList.length = Nat.min src.length n * (size + 1) := by
              have h1 := hall.length
              rw [flatten_length (fun l hl => k2 l (List.mem_of_mem_take hl)), List.length_take, Nat.min_eq_left hm] at h1
              exact h1
            by_cases hn : n = 0
            · subst hn
              have h0 : Nat.min src.length 0 = 0 := Nat.min_zero _
              have hsame : R.set i (.sl e' (size + 1) (rows.take lo ++ (src.take (Nat.min src.length 0) ++ rows.drop (lo + Nat.min src.length 0)))) = R := by
                rw [h0]; simp
                apply List.ext_getElem?
                intro j
                rw [List.getElem?_set]
                split
                · rename_i hj; subst hj
                  rw [if_pos (List.getElem?_eq_some_iff.1 hi).1, hi]
                · rfl
              refine ⟨.int .i64 (Nat.min src.length 0 : Nat), w, ?_, by rw [hsame]; exact hI, fun _ h => h, fun _ _ => rfl, Pre.refl _, ofV_ok rfl⟩
              rw [h0] at hfc hnl
              have hnil : news.toList = [] := List.eq_nil_of_length_eq_zero (by simpa using hnl)
              cases a <;> simp [Builtin.copy_, htsa, run_underlying ht, Builtin.lenOf, run_sizeOf' hs, hfc, hnil, storeCells, goInt]
            · rcases hcase with hcase | hcase
              · exact absurd hcase hn
              · obtain ⟨b, o, l, cp, hρ, rfl⟩ := hcase rfl
                obtain ⟨w', hr, hI', hS⟩ := hI.putRun (P := P) (lo := lo) hi hρ hall (fun l hl => k2 l (List.mem_of_mem_take hl)) (by rw [List.length_take, Nat.min_eq_left hm]; omega)
                rw [List.length_take, Nat.min_eq_left hm] at hI'
                have hcap : n ≤ maxLen := by
                  rcases (hI.ok _ _ _ hi hρ).live rfl with ⟨h1, h2⟩ | ⟨b', o', cap', vs', h1, _, h3, h4, _⟩
                  · cases h1
                  · cases h1; omega
                have hw0 : IntKind.i64.wrap (Nat.min src.length n : Nat) = (Nat.min src.length n : Nat) := IntWalk.i64_in _ (by unfold maxLen at hcap; omega)
                refine ⟨.int .i64 (Nat.min src.length n : Nat), w', ?_, hI', fun _ h => h, hS, Pre.refl _, ofV_ok rfl⟩
                simp [Builtin.copy_, htsa, run_underlying ht, Builtin.lenOf, run_sizeOf' hs, hfc, hr, goInt]
        · cases h
      · cases h
    · cases h
  · cases h

theorem evAppend_sh {c : Cl} {ts : List TypeId} {i : Nat} {y : AV} {out : Out} {e s : Nat} {rows : List (List Pd)} (h : evAppend P R c ts [.d (.os i), y] = some out) (hi : R[i]? = some (.sl e s rows)) :
    ∃ e' s' rows', out.R = R.set i .non ++ [.sl e' s' rows'] := by
  match ts, h with
  | [t, u], h =>
    simp only [evAppend, hi] at h
    grind
  | [], h => simp [evAppend] at h
  | [_], h => simp [evAppend] at h
  | _ :: _ :: _ :: _, h => simp [evAppend] at h
theorem evAppendT_sh {c : Cl} {ts : List TypeId} {i n s : Nat} {y : AV} {out : Out} (h : evAppendT P R c ts i n s y = some out) : ∃ r, out.R = R.set i .non ++ [.non, r] := by
  unfold evAppendT at h
  split at h
  · rename_i e s' rows hi
    cases hb : Nat.beq s' s with
    | false => rw [hb] at h; simp at h
    | true =>
      rw [hb] at h
      simp only [cond_true] at h
      obtain ⟨e2, s2, r2, hr⟩ := evAppend_sh h (e := e) (s := s') (rows := rows.take n) (by grind)
      refine ⟨.sl e2 s2 r2, ?_⟩
      · rw [hr, List.set_append_right _ _ (by simp)]
        simp only [List.length_set, Nat.sub_self, List.set_cons_zero]
        rw [List.append_assoc]; rfl
  · cases h
theorem evAppendT_ok (hI : Inv C S w ρ R) {c : Cl} {ts : Array TypeId} {ty : TypeId} {vs : Array Value} {i n s : Nat} {y : AV} {out : Out} (hv : All2 (RdA S w ρ) vs.toList [.d (.osb i 0 n s), y])
    (h : evAppendT P R c ts.toList i n s y = some out) (hk : ∀ x, out.c = some x → x.ok P) : ∃ v w' ρ', (Builtin.append_ ts ty vs).run P w = .ok v w' ∧ After C S w ρ out.R v out.v S w' ρ' := by
  unfold evAppendT at h
  split at h
  · rename_i e s' rows hi
    cases hb : Nat.beq s' s with
    | false => rw [hb] at h; simp at h
    | true =>
      rw [hb] at h
      simp only [cond_true] at h
      have hss := Nat.eq_of_beq_eq_true hb
      subst hss
      obtain ⟨vl, hvl⟩ : ∃ l, l = vs.toList := ⟨_, rfl⟩
      rw [← hvl] at hv
      match vl, hv with
      | [x, z], hv =>
        obtain ⟨hx, hz, _⟩ := hv
        cases hx.d_inv with
        | @osb _ _ _ _ q a len cap hρ hl hc hq hq2 =>
          have hq0 : q = 0 := by omega
          subst hq0
          have hone : (Value.slice (a.map (·.add 0)) n (cap - 0)).oneCell' = true := rfl
          have hM : Inv C S w (ρ ++ [.slice (a.map (·.add 0)) n (cap - 0)]) (R.set i .non ++ [.sl e s' (rows.take n)]) := by
            refine hI.move hi hρ (fun _ _ _ => rfl) (Nat.le_refl _) rfl ⟨rfl, fun _ => by first | exact Nat.le_refl _ | exact Nat.le_succ _⟩ rfl (fun k hk => ?_) ?_
            · cases a with
              | none => simp [Res.foot] at hk
              | some a0 => simp only [Res.foot, Option.map_some] at hk ⊢; exact .inl (by rw [← hk]; exact (add_block a0 0).symm)
            · rcases (hI.ok i _ _ hi hρ).live rfl with ⟨h1, h2⟩ | ⟨b, o, cp, vs', h1, h2, h3, h4, h5, h6, h7⟩
              · cases h1
                have : n = 0 := by omega
                subst this
                exact .inr (.inl ⟨rfl, by rw [h2]; rfl⟩)
              · cases h1
                have hnl : (rows.take n).length = n := by rw [List.length_take]; omega
                refine .inr (.inr ⟨b, o, cap, vs', by rw [hnl]; rfl, h2, by rw [hnl]; omega, h4, h5, fun r hr => h6 r (List.mem_of_mem_take hr), fun j r hj k d hk => ?_⟩)
                grind
          have hz' := hz.mono (fun _ h => h) (fun _ _ => rfl) (Pre.append ρ [.slice (a.map (·.add 0)) n (cap - 0)])
          have hnew : (ρ ++ [Value.slice (a.map (·.add 0)) n (cap - 0)])[R.length]? = some (.slice (a.map (·.add 0)) n (cap - 0)) := by rw [← hI.len]; simp
          obtain ⟨v, w', ρ', hr, hA⟩ := evAppend_ok (ty := ty) (vs := vs) hM (by rw [← hvl]; exact ⟨.d (.os hnew hone), hz', trivial⟩) h hk
          exact ⟨v, w', ρ', hr, hA.inv, hA.sub, hA.same, (Pre.append _ _).trans hA.pre, hA.rd⟩
      | [], hv => exact hv.elim
      | [_], hv => exact hv.2.elim
      | _ :: _ :: _ :: _, hv => exact hv.2.2.elim
  · cases h
theorem evAppendP_ok (hI : Inv C S w ρ R) {c : Cl} {ts : Array TypeId} {ty : TypeId} {vs : Array Value} {i n s : Nat} {y : AV} {out : Out} (hv : All2 (RdA S w ρ) vs.toList [.d (.osb i 0 n s), y])
    (h : evAppendP P R c ts.toList i n s y = some out) (hk : ∀ x, out.c = some x → x.ok P) : ∃ v w', (Builtin.append_ ts ty vs).run P w = .ok v w' ∧ After C S w ρ out.R v out.v S w' ρ := by
  unfold evAppendP at h
  split at h
  · rename_i ts' t u hts
    cases hb : Nat.beq t u with
    | false => rw [hb] at h; simp at h
    | true =>
      rw [hb] at h
      simp only [cond_true] at h
      have := Nat.eq_of_beq_eq_true hb
      subst this
      split at h
      · rename_i e ht
        split at h
        · rename_i size src e' s' rows hs hsrc hi
          split at h
          · rename_i q1 q2 q3 q4 m q5 rows'
            cases hb2 : Nat.beq s' s && Nat.beq s (size + 1) with
            | false => rw [hb2] at h; simp at h
            | true =>
              rw [hb2] at h
              simp only [cond_true, Option.some.injEq] at h
              subst h
              simp only [Bool.and_eq_true] at hb2
              have h1 := Nat.eq_of_beq_eq_true hb2.1
              subst h1
              have h1 := Nat.eq_of_beq_eq_true hb2.2
              subst h1
              obtain ⟨⟨k1, k2⟩, k3, k4⟩ := hk _ rfl
              subst k4
              subst k1
              obtain ⟨v0, v1, hvs, r0, r1⟩ : ∃ v0 v1, vs = #[v0, v1] ∧ RdA S w ρ v0 (.d (.osb i 0 n (size + 1))) ∧ RdA S w ρ v1 y := by
                obtain ⟨l⟩ := vs
                match l, hv with
                | [v0, v1], hv => exact ⟨v0, v1, rfl, hv.1, hv.2.1⟩
                | [], hv => exact hv.elim
                | [_], hv => exact hv.2.elim
                | _ :: _ :: _ :: _, hv => exact hv.2.2.elim
              have htsa : ts = #[t, t] := by obtain ⟨l⟩ := ts; simp at hts; rw [hts]
              subst hvs; subst htsa
              obtain ⟨info, hinfo, hsz⟩ : ∃ info, P.info? e = some info ∧ info.size = size + 1 := by
                unfold tySize at hs
                exact mapE hs
              obtain ⟨b2, c2, news, hxf, hfc, hnr⟩ := src_ok (P := P) hI r1 hsrc k3
              have hfc := hfc w fun _ => rfl
              rw [← hsz] at hfc
              subst hxf
              have r0' := r0.d_inv
              cases r0' with
              | @osb _ _ _ _ q a len cap hρ hl hc hq hq2 =>
                have hq0 : q = 0 := by omega
                subst hq0
                have hadd : a.map (·.add 0) = a := by cases a <;> simp [add_zero']
                rw [hadd]
                rcases (hI.ok _ _ _ hi hρ).live rfl with ⟨h1, h2⟩ | ⟨b, o, cap', vs', h1, hblk, h3, h4, h5, _⟩
                · cases h1
                  subst h2
                  have hn0 : n = 0 := by omega
                  subst hn0
                  have hs0 : src = [] := List.eq_nil_of_length_eq_zero (by simp only [List.length_nil] at k2; omega)
                  subst hs0
                  have hnn : news = #[] := by
                    have := hnr.length
                    apply Array.eq_empty_of_size_eq_zero
                    simpa using this
                  subst hnn
                  refine ⟨.slice none 0 0, w, ?_, ?_, fun _ h => h, fun _ _ => rfl, Pre.refl _, ?_⟩
                  · simp at hfc
                    simp [Builtin.append_, run_underlying ht, sizeOf, typeInfo, hinfo, Builtin.lenOf, hfc]
                  · have hsame : R.set i (.sl e' (size + 1) (List.take 0 [] ++ ([] ++ List.drop (0 + 0) []))) = R := by
                      apply List.ext_getElem?
                      intro j
                      rw [List.getElem?_set]
                      split
                      · rename_i hj; subst hj
                        rw [if_pos (List.getElem?_eq_some_iff.1 hi).1, hi]; rfl
                      · rfl
                    have hI2 := hI
                    rw [← hsame] at hI2
                    exact hI2
                  · have := Rd.osb (S := S) (w := w) (lo := 0) (n := 0) (size := size + 1) (q := 0) hρ (by omega) (by omega) (by omega) (by omega)
                    exact .d this
                · cases h1
                  obtain ⟨w', hr, hI', hS⟩ := hI.putRun (P := P) hi hρ (lo := n) hnr k3 k2
                  refine ⟨.slice (some ⟨b, o, none⟩) (n + src.length) cap, w', ?_, hI', fun _ h => h, hS, Pre.refl _, ?_⟩
                  · have hroom : n + src.length ≤ cap := by omega
                    rw [← hsz] at hr
                    simp [Builtin.append_, run_underlying ht, sizeOf, typeInfo, hinfo, Builtin.lenOf, hroom, hfc, add_mk, hr]
                  · have := Rd.osb (S := S) (w := w') (lo := 0) (n := n + src.length) (size := size + 1) (q := 0) hρ (by omega) (by omega) (by omega) (by omega)
                    rw [hadd] at this
                    exact .d this
          · cases h
        · cases h
      · cases h
  · cases h
end
end Go.SL
