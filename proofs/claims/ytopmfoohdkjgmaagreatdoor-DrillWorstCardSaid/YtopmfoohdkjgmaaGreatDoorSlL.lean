/-
  The logic, twelfth part: every operation.
-/
import Derived.Lib.ConvBytes
import Derived.Lib.AppendZeros
import Derived.Test.YtopmfoohdkjgmaaGreatDoorSlK
namespace Go.SL

section
variable {P : Program} {C : Ctx} {S S' : Nat → Prop} {w w' : World} {ρ ρ' : List Value} {R : List Res} {L : List Ent} {cur : Path} {a : Act}

theorem Inv.drew (hI : Inv C S w ρ R) : Inv C S w.drew ρ R :=
  hI.grow (fun _ h => h) (fun _ h => .inl h) (fun _ _ => rfl) (Nat.le_refl _) rfl ⟨rfl, fun _ => by first | exact Nat.le_refl _ | exact Nat.le_succ _⟩ rfl

theorem all2_one {vs : List Value} {ps : List Pd} (h : All2 (RdP S w) vs ps) : ∀ u, u ∈ vs → u.oneCell' = true := by
  induction vs generalizing ps with
  | nil => simp
  | cons x xs ih => cases ps with
    | nil => exact h.elim
    | cons d ds =>
      grind [All2, RdP.one]

/-- a new block that reads as these rows, with spare cells behind them -/
theorem sl_fresh {e size n cap : Nat} {rows : List (List Pd)} {cs : Array Value} {xs : List Value} (hp : All2 (RdP S w) xs rows.flatten) (hu : ∀ l, l ∈ rows → l.length = size) (hn : n = rows.length)
    (hcs : cs.toList.take (n * size) = xs) (hsz : cap * size ≤ cs.size) (hcap : n ≤ cap) (hm : cap ≤ maxLen) (hb : ∀ b, S b → b < w.heap.size) {w2 : World} (hw2 : w2.heap = w.heap) :
    (Res.sl e size rows).ok0 S (w2.alloc (.cells cs e)) (ρ ++ [.slice (some ⟨w.heap.size, 0, none⟩) n cap]) (.slice (some ⟨w.heap.size, 0, none⟩) n cap) := by
  subst hn
  refine sl_flat.2 (.inr ⟨w.heap.size, 0, cap, cs, rfl, by rw [← hw2]; exact .of (halloc_new _ _), hcap, hm, by omega, hu, ?_⟩)
  simp only [List.drop_zero]
  rw [hcs]
  exact hp.mono fun _ _ h => h.mono (fun _ h => h) fun b h => by
    have := hb b h
    rw [← hw2] at this ⊢
    exact halloc_old _ _ _ this

theorem mulsub {n c s : Nat} (h : n ≤ c) : c * s ≤ n * s + (c - n) * s := by
  rw [← Nat.add_mul]; exact Nat.mul_le_mul_right _ (by omega)

theorem appendGo (hI : Inv C S w ρ R) {t ty e size bytes : Nat} {z : Value} (ht : P.underlying t = some (.slice e)) (hs : tySize P e = some (size + 1)) (hby : (P.info? e).map (·.bytes) = some bytes) (hz : tyZero P e = some z)
    (hzn : z.cells.size = size + 1) {i : Nat} {rows rows2 : List (List Pd)} {h x : Value} {y : AV} (hi : R[i]? = some (.sl e (size + 1) rows)) (hρ : ρ[i]? = some h) (hal : h.oneCell' = true) (hx : RdA S w ρ x y) (hsrc : srcRows R (size + 1) y = some rows2)
    (hu2 : ∀ l, l ∈ rows2 → l.length = size + 1) (hroom : (rows.length + rows2.length) * (bytes + 1) ≤ 140737488355328) :
    ∃ v w' ρ', (Builtin.append_ #[t, t] ty #[h, x]).run P w = .ok v w' ∧ After C S w ρ (R.set i .non ++ [.sl e (size + 1) (rows ++ rows2)]) v (.d (.os R.length)) S w' ρ' := by
  obtain ⟨info, i1, i2, i3, i4⟩ := tyBytes hs hby hz
  obtain ⟨b2, c2, news, hxf, hfc, hnr⟩ := src_ok (P := P) hI hx hsrc hu2
  have hnews : news.size = rows2.length * (size + 1) := by have := hnr.length; rw [flatten_length hu2] at this; simpa using this
  have hnl : news.toList.length = rows2.length * (size + 1) := by simpa using hnews
  have hb1 : (rows.length + rows2.length) * bytes ≤ 140737488355328 := Nat.le_trans (Nat.mul_le_mul_left _ (Nat.le_succ _)) hroom
  have hb2 : rows.length + rows2.length ≤ 140737488355328 := Nat.le_trans (Nat.le_mul_of_pos_right _ (Nat.succ_pos bytes)) hroom
  have hlenS : R.length = ρ.length := hI.len.symm
  have hfc' : (Builtin.firstCells info.size rows2.length x).run P w = .ok news w := by rw [i2]; exact hfc w (fun _ => rfl)
  have hfd : (Builtin.firstCells info.size rows2.length x).run P w.drew = .ok news w.drew := by rw [i2]; exact hfc w.drew (fun _ => rfl)
  have fin : ∀ (n cap : Nat) (cs : Array Value) (xs : List Value), n = rows.length + rows2.length → All2 (RdP S w) xs (rows ++ rows2).flatten → (∀ l, l ∈ rows → l.length = size + 1) → cs.toList.take (n * (size + 1)) = xs → cap * (size + 1) ≤ cs.size → n ≤ cap → cap ≤ maxLen →
      After C S w ρ (R.set i .non ++ [.sl e (size + 1) (rows ++ rows2)]) (.slice (some ⟨w.heap.size, 0, none⟩) n cap) (.d (.os R.length)) S (w.drew.alloc (.cells cs e)) (ρ ++ [.slice (some ⟨w.heap.size, 0, none⟩) n cap]) := by
    intro n cap cs xs hn hp hu hcs hsz hcap hm
    have hok := sl_fresh (e := e) (ρ := ρ) (size := size + 1) (n := n) hp (fun l hl => (List.mem_append.1 hl).elim (hu l) (hu2 l)) (by simp [hn]) hcs hsz hcap hm (fun b hb => (hI.sup b hb).1) (w2 := w.drew) rfl
    have hw : ∀ b, b < w.heap.size → (w.drew.alloc (.cells cs e)).heap[b]? = w.heap[b]? := fun b hb => halloc_old w.drew _ b hb
    refine ⟨hI.move hi hρ (fun k hk _ => hw k hk) (by simp) rfl ⟨rfl, fun _ => by first | exact Nat.le_refl _ | exact Nat.le_succ _⟩ rfl (fun k hk => ?_) (.inr hok), fun _ h => h, fun b hb => hw b (hI.sup b hb).1, Pre.append _ _, .d (.os ?_ rfl)⟩
    · simp [Res.foot] at hk; subst hk
      exact .inr ⟨Nat.le_refl _, by simp⟩
    · rw [hlenS]; simp
  rcases sl_flat.1 ((hI.ok i _ h hi hρ).live hal) with ⟨h1, h2⟩ | ⟨b, o, cap, vs, h1, h2, h3, h4, h5, h6, h7⟩
  · subst h1; subst h2
    by_cases hm : rows2.length = 0
    · have hr2 : rows2 = [] := List.eq_nil_of_length_eq_zero hm
      subst hr2
      refine ⟨.slice none 0 0, w, ρ ++ [.slice none 0 0], ?_, ⟨hI.move hi hρ (fun _ _ _ => rfl) (Nat.le_refl _) rfl ⟨rfl, fun _ => by first | exact Nat.le_refl _ | exact Nat.le_succ _⟩ rfl (fun k hk => by simp [Res.foot] at hk) (.inr (.inl ⟨rfl, rfl⟩)), fun _ h => h, fun _ _ => rfl, Pre.append _ _, .d (.os (by rw [hlenS]; simp) rfl)⟩⟩
      have : news = #[] := Array.eq_empty_of_size_eq_zero (by simpa using hnews)
      subst this
      subst hxf
      simp at hfc'
      simp [Builtin.append_, run_underlying ht, sizeOf, typeInfo, i1, Builtin.lenOf, hfc']
    · have hg := run_app_grow (P := P) (w := w) (t := t) (ty := ty) (e := e) ht i1 i4 (b1 := none) (n := 0) (cap := 0) (olds := #[]) (by simp [Builtin.firstCells]) hxf hfd (by omega) (by simp at hb2; omega) (by
        rw [i3]; exact growslice_fits (by omega) (by simpa using hb1))
      refine ⟨_, _, _, hg, fin _ _ _ news.toList (by simp) (by simpa using hnr) (by simp) ?_ ?_ (grownCap_ge _ _ _ _) (grownCap_le_maxLen _ _ _ _ (by simp [maxLen]; simp at hb2; omega))⟩
      · simp only [Array.empty_append, Array.toList_append, Nat.zero_add]
        rw [← hnews]
        have : news.size = news.toList.length := by simp
        rw [this]; exact List.take_left
      · have := grownCap_ge w (0 + rows2.length) 0 e
        have h2 := mulsub (s := size + 1) this
        simp only [Array.size_append, size_zeroCells, hzn, hnews, List.size_toArray, List.length_nil]
        simpa using h2
  · subst h1
    have hold : ((vs.toList.drop o).take (rows.length * (size + 1))).length = rows.length * (size + 1) := by rw [h7.length, flatten_length h6]
    by_cases hm : rows.length + rows2.length ≤ cap
    · have hfit : o + rows.length * info.size + news.size ≤ vs.size := by
        rw [i2, hnews]
        have : (rows.length + rows2.length) * (size + 1) ≤ cap * (size + 1) := Nat.mul_le_mul_right _ hm
        rw [Nat.add_mul] at this
        omega
      have hr := run_app_room (P := P) (w := w) (t := t) (ty := ty) (e := e) ht i1 h2 hxf hfc' (all2_one hnr) hm hfit
      have hown := hI.own i _ _ b hi hρ rfl
      have hw : ∀ k, k ≠ b → (w.setRow b (vs.toList.take (o + rows.length * info.size) ++ news.toList ++ vs.toList.drop (o + rows.length * info.size + news.toList.length)).toArray).heap[k]? = w.heap[k]? := fun k hk => heap_setRow_other _ _ _ _ hk
      have hS : ∀ k, S k → (w.setRow b (vs.toList.take (o + rows.length * info.size) ++ news.toList ++ vs.toList.drop (o + rows.length * info.size + news.toList.length)).toArray).heap[k]? = w.heap[k]? := fun k hk => hw k (fun e => hown.1 (e ▸ hk))
      refine ⟨_, _, ρ ++ [.slice (some ⟨b, o, none⟩) (rows.length + rows2.length) cap], hr, ⟨hI.move hi hρ (fun k _ hk => hw k (fun e => hk (by simp [Res.foot, e]))) (by simp) rfl ⟨rfl, fun _ => by first | exact Nat.le_refl _ | exact Nat.le_succ _⟩ rfl (fun k hk => by simp [Res.foot] at hk ⊢; exact .inl hk) ?_, fun _ h => h, hS, Pre.append _ _, .d (.os (by rw [hlenS]; simp) rfl)⟩⟩
      refine .inr (sl_flat.2 (.inr ⟨b, o, cap, _, by simp, h2.put (by simp only [List.size_toArray, List.length_append, List.length_take, List.length_drop, Array.length_toList]; simp only [Array.size] at hfit h5 ⊢; omega), by simpa using hm, h4, ?_, fun l hl => (List.mem_append.1 hl).elim (h6 l) (hu2 l), ?_⟩))
      · simp only [List.size_toArray, List.length_append, List.length_take, List.length_drop, Array.length_toList]
        simp only [Array.size] at hfit h5 ⊢
        omega
      · have key : (((vs.toList.take (o + rows.length * info.size) ++ news.toList ++ vs.toList.drop (o + rows.length * info.size + news.toList.length)).drop o).take ((rows ++ rows2).length * (size + 1))) = (vs.toList.drop o).take (rows.length * (size + 1)) ++ news.toList := by
          rw [i2]
          have e1 : (vs.toList.take (o + rows.length * (size + 1)) ++ news.toList ++ vs.toList.drop (o + rows.length * (size + 1) + news.toList.length)).drop o = (vs.toList.drop o).take (rows.length * (size + 1)) ++ (news.toList ++ vs.toList.drop (o + rows.length * (size + 1) + news.toList.length)) := by
            rw [List.append_assoc, List.drop_append_of_le_length (by simp; omega), List.drop_take]
            congr 2
            omega
          rw [e1, ← List.append_assoc]
          have : (rows ++ rows2).length * (size + 1) = ((vs.toList.drop o).take (rows.length * (size + 1)) ++ news.toList).length := by
            have h9 : ((vs.toList.drop o).take (rows.length * (size + 1)) ++ news.toList).length = rows.length * (size + 1) + rows2.length * (size + 1) := by
              rw [List.length_append, hold, hnl]
            rw [h9, List.length_append, Nat.add_mul]
          rw [this]; exact List.take_left
        rw [key, List.flatten_append]
        exact (h7.append hnr).mono fun _ _ h => h.mono (fun _ h => h) hS
    · have hcell : ∀ (j : Nat) v, ((vs.toList.drop o).take (rows.length * (size + 1)))[j]? = some v → w.drew.cell? ((⟨b, o, none⟩ : Addr).add j) = some v := by
        intro j v hv
        rw [List.getElem?_take] at hv
        split at hv
        · rw [List.getElem?_drop] at hv
          rw [World.cell?_drew, add_mk, h2.cell]
          simpa using hv
        · cases hv
      have hlc := run_loadCells_list (P := P) w.drew ⟨b, o, none⟩ _ hcell
      rw [hold] at hlc
      have hg := run_app_grow (P := P) (w := w) (t := t) (ty := ty) (e := e) ht i1 i4 (b1 := some ⟨b, o, none⟩) (n := rows.length) (cap := cap) (olds := ((vs.toList.drop o).take (rows.length * (size + 1))).toArray) (by rw [i2]; simpa [Builtin.firstCells] using hlc) hxf hfd hm (by omega) (by
        rw [i3]; exact growslice_fits (by omega) hb1)
      refine ⟨_, _, _, hg, fin _ _ _ ((vs.toList.drop o).take (rows.length * (size + 1)) ++ news.toList) rfl (by rw [List.flatten_append]; exact h7.append hnr) h6 ?_ ?_ (grownCap_ge _ _ _ _) (grownCap_le_maxLen _ _ _ _ (by simp [maxLen]; omega))⟩
      · simp only [Array.toList_append]
        have : (rows.length + rows2.length) * (size + 1) = ((vs.toList.drop o).take (rows.length * (size + 1)) ++ news.toList).length := by
          have h9 : ((vs.toList.drop o).take (rows.length * (size + 1)) ++ news.toList).length = rows.length * (size + 1) + rows2.length * (size + 1) := by
            rw [List.length_append, hold, hnl]
          rw [h9, Nat.add_mul]
        rw [this]; exact List.take_left
      · have h8 := mulsub (s := size + 1) (grownCap_ge w (rows.length + rows2.length) cap e)
        simp only [Array.size_append, size_zeroCells, hzn, hnews, List.size_toArray, hold]
        rw [Nat.add_mul] at h8
        exact h8

theorem evAppend_ok (hI : Inv C S w ρ R) {c : Cl} {ts : Array TypeId} {ty : TypeId} {vs : Array Value} {args : List AV} {out : Out} (hv : All2 (RdA S w ρ) vs.toList args) (h : evAppend P R c ts.toList args = some out)
    (hk : ∀ x, out.c = some x → x.ok P) : ∃ v w' ρ', (Builtin.append_ ts ty vs).run P w = .ok v w' ∧ After C S w ρ out.R v out.v S w' ρ' := by
  unfold evAppend at h
  split at h
  · rename_i ts' t u x y hts
    cases hb : Nat.beq t u with
    | false => rw [hb] at h; simp at h
    | true =>
      rw [hb] at h
      simp only [cond_true] at h
      have := Nat.eq_of_beq_eq_true hb
      subst this
      obtain ⟨v0, v1, hvs, r0, r1⟩ : ∃ v0 v1, vs = #[v0, v1] ∧ RdA S w ρ v0 x ∧ RdA S w ρ v1 y := by
        obtain ⟨l⟩ := vs
        match l, hv with
        | [v0, v1], hv => exact ⟨v0, v1, rfl, hv.1, hv.2.1⟩
        | [], hv => exact hv.elim
        | [_], hv => exact hv.2.elim
        | _ :: _ :: _ :: _, hv => exact hv.2.2.elim
      have htsa : ts = #[t, t] := by obtain ⟨l⟩ := ts; simp at hts; rw [hts]
      subst hvs; subst htsa
      split at h
      · rename_i e ht
        split at h
        · rename_i size bytes zn hs hby hz
          obtain ⟨z, hz1, hz2⟩ := mapE hz
          split at h
          · rename_i q1 q2 q3 q4 rows' rows2 hsrc
            cases hb2 : Nat.beq zn (size + 1) with
            | false => rw [hb2] at h; simp at h
            | true =>
              rw [hb2] at h
              simp only [cond_true] at h
              have hzn : z.cells.size = size + 1 := by rw [hz2]; exact Nat.eq_of_beq_eq_true hb2
              split at h
              · simp at h; subst h
                obtain ⟨k1, k2, k3⟩ := hk _ rfl
                subst k3
                have hnil := r0.exact_inv
                have hP := hI.push (w' := w) (.sl e (size + 1) []) (.slice none 0 0) (fun _ _ => rfl) (Nat.le_refl _) rfl ⟨rfl, fun _ => by first | exact Nat.le_refl _ | exact Nat.le_succ _⟩ rfl (.inr (.inl ⟨rfl, rfl⟩)) (by simp [Res.foot])
                have hl : (ρ ++ [Value.slice none 0 0])[R.length]? = some (.slice none 0 0) := by rw [← hI.len]; simp
                have hsrc' : srcRows (R ++ [.sl e (size + 1) []]) (size + 1) y = some rows2 := by
                  unfold srcRows at hsrc ⊢
                  split at hsrc
                  · exact hsrc
                  · exact hsrc
                  · rename_i i
                    split at hsrc
                    · rename_i a b c hi
                      rw [List.getElem?_append_left (List.getElem?_eq_some_iff.1 hi).1, hi]; exact hsrc
                    · cases hsrc
                  · rename_i i q1 q2 q3
                    split at hsrc
                    · rename_i a b c hi
                      rw [List.getElem?_append_left (List.getElem?_eq_some_iff.1 hi).1, hi]; exact hsrc
                    · cases hsrc
                  · cases hsrc
                obtain ⟨v, w', ρ', hr, ha⟩ := appendGo (ty := ty) hP ht hs hby hz1 hzn (i := R.length) (rows := []) (by simp) hl rfl (r1.mono (fun _ h => h) (fun _ _ => rfl) (Pre.append _ _)) hsrc' k2 (by simpa using k1)
                refine ⟨v, w', ρ', by rw [hnil]; exact hr, ?_, ha.sub, ha.same, (Pre.append _ _).trans ha.pre, ?_⟩
                · have := ha.inv
                  simpa using this
                · have := ha.rd
                  simpa using this
              · rename_i i
                split at h
                · rename_i e' s' rows hi
                  cases hb3 : (Nat.beq e' e && Nat.beq s' (size + 1)) with
                  | false => rw [hb3] at h; simp at h
                  | true =>
                    rw [hb3] at h
                    simp only [cond_true] at h
                    simp at h; subst h
                    simp only [Bool.and_eq_true] at hb3
                    have e1 := Nat.eq_of_beq_eq_true hb3.1
                    have e2 := Nat.eq_of_beq_eq_true hb3.2
                    subst e1; subst e2
                    obtain ⟨k1, k2, k3⟩ := hk _ rfl
                    subst k3
                    obtain ⟨v, w', ρ', hr, ha⟩ := appendGo (ty := ty) hI ht hs hby hz1 hzn hi r0.d_inv.os_inv r0.d_inv.one r1 hsrc k2 k1
                    exact ⟨v, w', ρ', hr, ha⟩
                · cases h
              · cases h
          · cases h
        · cases h
      · cases h
  · cases h

/-! ### slices whose cells lead to things of ours -/
theorem chunks_flatten {α : Type} (size : Nat) : ∀ (n : Nat) (l : List α), l.length = n * size → (chunks size n l).flatten = l
  | 0, l, h => by simp at h; subst h; rfl
  | n + 1, l, h => by
    rw [Nat.add_mul] at h
    simp only [chunks, List.flatten_cons]
    rw [chunks_flatten size n (l.drop size) (by simp; omega), List.take_append_drop]
theorem exact_list : ∀ {ys xs : List Value}, All2 (RdP S w) ys (xs.map Pd.v) → ys = xs
  | [], [], _ => rfl
  | y :: ys, x :: xs, h => by rw [h.1.v_form, exact_list h.2]
  | [], _ :: _, h => h.elim
  | _ :: _, [], h => h.elim
theorem exact_all : ∀ {xs : List Value}, (∀ v, v ∈ xs → v.oneCell' = true) → All2 (RdP S w) xs (xs.map Pd.v)
  | [], _ => trivial
  | x :: xs, h => ⟨.v x (h x (by simp)), exact_all fun v hv => h v (by simp [hv])⟩
theorem vOk.sl {e size : Nat} {cells : List D} {h : Value} (k : vOk S w ρ e size cells h) :
    ∃ xs : List Value, (Res.sl e size (chunks size (cells.length / size) (xs.map Pd.v))).ok0 S w ρ h ∧ All2 (Rd S w ρ) xs cells ∧ xs.length = cells.length / size * size := by
  obtain ⟨b, o, len, cap, vs, rfl, hb, ⟨h1, h2, h3, h4, h5⟩, hc⟩ := k
  have hl : cells.length / size = len := by rw [h1, Nat.mul_div_cancel _ h2]
  have hx : ((vs.toList.drop o).take (len * size)).length = len * size := by rw [hc.length, h1]
  refine ⟨(vs.toList.drop o).take (len * size), ?_, hc, by rw [hl, hx]⟩
  rw [hl]
  refine sl_flat.2 (.inr ⟨b, o, cap, vs, by rw [chunks_length], hb, by rw [chunks_length]; exact h3, h4, h5, chunks_mem size len _ (by rw [List.length_map, hx]), ?_⟩)
  rw [chunks_flatten size len _ (by rw [List.length_map, hx]), chunks_length]
  exact exact_all (mem_one hc)
theorem vOk.of_sl {e size : Nat} {rows : List (List Pd)} {cells : List D} {xs : List Value} {h : Value} (k : (Res.sl e size rows).ok0 S w ρ h) (hx : rows.flatten = xs.map Pd.v) (h0 : cells ≠ []) (hs : 0 < size) (hc : All2 (Rd S w ρ) xs cells) : vOk S w ρ e size cells h := by
  rcases sl_flat.1 k with ⟨_, hr⟩ | ⟨b, o, cap, vs, rfl, hb, h1, h2, h3, h4, h5⟩
  · subst hr
    have := hc.length
    have : xs.length = 0 := by have := congrArg List.length hx; simpa using this.symm
    exact absurd (List.eq_nil_of_length_eq_zero (by omega)) h0
  · rw [hx] at h5
    have := exact_list h5
    refine ⟨b, o, rows.length, cap, vs, rfl, hb, ⟨?_, hs, h1, h2, h3⟩, by rw [this]; exact hc⟩
    rw [← hc.length, ← this]
    have hf : rows.flatten.length = rows.length * size := by
      clear hx h5 k h1 hb this h3 h2
      induction rows with
      | nil => simp
      | cons r l ih =>
        rw [List.flatten_cons, List.length_append, ih (fun row hr => h4 row (by simp [hr])), h4 r (by simp), List.length_cons, Nat.add_mul]; omega
    have h6 := congrArg List.length hx
    rw [hf, List.length_map] at h6
    rw [this, ← h6]
theorem Inv.swapV (hI : Inv C S w ρ R) {i : Nat} {r r' : Res} (hi : R[i]? = some r) (hok : ∀ v, ρ[i]? = some v → v.oneCell' = true → r.ok0 S w ρ v → r'.ok0 S w ρ v) (hf : ∀ v b, r'.foot v b → r.foot v b) : Inv C S w ρ (R.set i r') := by
  have key : ∀ (j : Nat) r1, (R.set i r')[j]? = some r1 → ∃ r0, R[j]? = some r0 ∧ (∀ v b, r1.foot v b → r0.foot v b) ∧ (r1 = r0 ∨ j = i ∧ r1 = r' ∧ r0 = r) := by
    intro j r1 hj
    rw [List.getElem?_set] at hj
    split at hj
    · rename_i e; subst e
      split at hj
      · cases hj; exact ⟨r, hi, hf, .inr ⟨rfl, rfl, rfl⟩⟩
      · cases hj
    · exact ⟨r1, hj, fun _ _ h => h, .inl rfl⟩
  refine ⟨by simp [hI.len], fun j r1 v hj hv => ?_, fun j k r1 r2 v v2 b hjk hj hk hv hv2 hf1 hf2 => ?_, fun j r1 v b hj hv hf1 => ?_, hI.sub, hI.sup, hI.frm, hI.size, hI.os, hI.tape, hI.output, hI.pre, hI.gl⟩
  · obtain ⟨r0, g1, _, g3⟩ := key j r1 hj
    have hk := hI.ok j r0 v g1 hv
    rcases g3 with rfl | ⟨rfl, rfl, rfl⟩
    · exact hk
    · cases ho : v.oneCell' with
      | false => exact .inl ho
      | true => exact .inr (hok v hv ho (hk.live ho))
  · obtain ⟨r0, g1, g2, _⟩ := key j r1 hj
    obtain ⟨r3, g4, g5, _⟩ := key k r2 hk
    exact hI.dis j k r0 r3 v v2 b hjk g1 g4 hv hv2 (g2 _ _ hf1) (g5 _ _ hf2)
  · obtain ⟨r0, g1, g2, _⟩ := key j r1 hj
    exact hI.own j r0 v b g1 hv (g2 _ _ hf1)
theorem foot_vec {e size : Nat} {cells : List D} {e2 s2 : Nat} {rows : List (List Pd)} {v : Value} {b : Nat} : (Res.vec e size cells).foot v b ↔ (Res.sl e2 s2 rows).foot v b := by
  cases v <;> simp [Res.foot, slFoot]

theorem evAppendV_ok (hI : Inv C S w ρ R) {ts : Array TypeId} {ty : TypeId} {vs : Array Value} {args : List AV} {out : Out} (hv : All2 (RdA S w ρ) vs.toList args) (h : evAppendV P R ts.toList args = some out) :
    ∃ v w' ρ', (Builtin.append_ ts ty vs).run P w = .ok v w' ∧ After C S w ρ out.R v out.v S w' ρ' := by
  unfold evAppendV at h
  split at h
  · rename_i ts' t u x j hts
    cases hb : Nat.beq t u with
    | false => rw [hb] at h; simp at h
    | true =>
      rw [hb] at h
      simp only [cond_true] at h
      have := Nat.eq_of_beq_eq_true hb
      subst this
      obtain ⟨v0, v1, hvs, r0, r1⟩ : ∃ v0 v1, vs = #[v0, v1] ∧ RdA S w ρ v0 x ∧ RdA S w ρ v1 (.d (.os j)) := by
        obtain ⟨l⟩ := vs
        match l, hv with
        | [v0, v1], hv => exact ⟨v0, v1, rfl, hv.1, hv.2.1⟩
        | [], hv => exact hv.elim
        | [_], hv => exact hv.2.elim
        | _ :: _ :: _ :: _, hv => exact hv.2.2.elim
      split at h
      · rename_i e q0 s2 ds2 ht hj
        split at h
        · rename_i size bytes zn hs hby hz
          cases hb2 : ((Nat.beq zn (size + 1) && Nat.beq s2 (size + 1)) && !ds2.isEmpty) with
          | false => rw [hb2] at h; simp at h
          | true =>
            rw [hb2] at h
            simp only [cond_true] at h
            simp only [Bool.and_eq_true] at hb2
            obtain ⟨⟨hzn, hs2⟩, hd2⟩ := hb2
            have hs2 := Nat.eq_of_beq_eq_true hs2
            subst hs2
            have hd2 : ds2 ≠ [] := by intro e; rw [e] at hd2; simp at hd2
            obtain ⟨xs2, k1, k2, k3⟩ := vOk.sl ((hI.ok j _ _ hj r1.d_inv.os_inv).live r1.d_inv.one)
            have hjl : j < R.length := (List.getElem?_eq_some_iff.1 hj).1
            have hI1 := hI.swapV hj (r' := .sl q0 (size + 1) (chunks (size + 1) (ds2.length / (size + 1)) (xs2.map Pd.v))) (fun v hv _ _ => by rw [r1.d_inv.os_inv] at hv; cases hv; exact k1) (fun v b hf => foot_vec.2 hf)
            have hrow2 : ∀ l, l ∈ chunks (size + 1) (ds2.length / (size + 1)) (xs2.map Pd.v) → l.length = size + 1 := chunks_mem _ _ _ (by rw [List.length_map, k3])
            have hfl2 : (chunks (size + 1) (ds2.length / (size + 1)) (xs2.map Pd.v)).flatten = xs2.map Pd.v := chunks_flatten _ _ _ (by rw [List.length_map, k3])
            have hlen2 : (chunks (size + 1) (ds2.length / (size + 1)) (xs2.map Pd.v)).length = ds2.length / (size + 1) := chunks_length _ _ _
            generalize hrs2 : chunks (size + 1) (ds2.length / (size + 1)) (xs2.map Pd.v) = rows2 at k1 hI1 hrow2 hfl2 hlen2
            have back : ∀ {w' ρ' R0}, After C S w ρ R0 v0 (.tup []) S w' ρ' ∨ True → (∀ b, S b → w'.heap[b]? = w.heap[b]?) → Pre ρ ρ' → ∀ v, (Res.sl q0 (size + 1) rows2).ok0 S w' ρ' v → (Res.vec q0 (size + 1) ds2).ok0 S w' ρ' v := fun _ hs hp v hv =>
              vOk.of_sl hv hfl2 hd2 (Nat.succ_pos _) (k2.mono fun _ _ h => h.mono (fun _ h => h) hs hp)
            -- the rest, from what lies in the first one
            have go : ∀ {i : Nat} {R1 : List Res} {rows1 : List (List Pd)} {xs1 : List Value} {ds1 : List D}, Inv C S w ρ R1 → R1[i]? = some (.sl e (size + 1) rows1) → R1[j]? = some (.sl q0 (size + 1) rows2) → i ≠ j → RdA S w ρ v0 (.d (.os i)) →
                R1.length = R.length → (∀ k, k ≠ i → k ≠ j → R1[k]? = R[k]?) → rows1.flatten = xs1.map Pd.v → All2 (Rd S w ρ) xs1 ds1 → (rows1.length + rows2.length) * (bytes + 1) ≤ 140737488355328 →
                ∃ v w' ρ', (Builtin.append_ ts ty vs).run P w = .ok v w' ∧ After C S w ρ (R.set i .non ++ [.vec e (size + 1) (ds1 ++ ds2)]) v (.d (.os R.length)) S w' ρ' := by
              intro i R1 rows1 xs1 ds1 hIa hi1 hj1 hij hr0 hRl hRk hf1 ha1 hn
              have hap : evAppend P R1 (.app [] [] 0 0 (rows1 ++ rows2)) ts.toList [.d (.os i), .d (.os j)] = some ⟨.d (.os R1.length), R1.set i .non ++ [.sl e (size + 1) (rows1 ++ rows2)], some (.app rows1 rows2 (size + 1) ((rows1.length + rows2.length) * (bytes + 1)) (rows1 ++ rows2))⟩ := by
                rw [hts]
                simp [evAppend, ht, hs, hby, hz, srcRows, hi1, hj1, hzn]
              obtain ⟨v, w', ρ', hr, hA⟩ := evAppend_ok (ty := ty) hIa (vs := vs) (by rw [hvs]; exact ⟨hr0, r1, trivial⟩) hap (fun x hx => by cases hx; exact ⟨hn, hrow2, rfl⟩)
              refine ⟨v, w', ρ', hr, ?_⟩
              have hil : i < R1.length := (List.getElem?_eq_some_iff.1 hi1).1
              have s1 := hA.inv.swapV (i := R1.length) (r := .sl e (size + 1) (rows1 ++ rows2)) (r' := .vec e (size + 1) (ds1 ++ ds2)) (by simp) (fun v _ _ hv => vOk.of_sl hv (xs := xs1 ++ xs2) (by rw [List.flatten_append, hf1, hfl2, List.map_append]) (by simp [hd2]) (Nat.succ_pos _) ((ha1.append k2).mono fun _ _ h => h.mono hA.sub hA.same hA.pre)) (fun v b hf => foot_vec.1 hf)
              have s2 := s1.swapV (i := j) (r := .sl q0 (size + 1) rows2) (r' := .vec q0 (size + 1) ds2) (by
                rw [List.getElem?_set, if_neg (by omega), List.getElem?_append_left (by simpa using (List.getElem?_eq_some_iff.1 hj1).1), List.getElem?_set, if_neg hij]; exact hj1) (fun v _ _ hv => back (R0 := []) (.inr trivial) hA.same hA.pre v hv) (fun v b hf => foot_vec.1 hf)
              have hR : ((R1.set i .non ++ [Res.sl e (size + 1) (rows1 ++ rows2)]).set R1.length (.vec e (size + 1) (ds1 ++ ds2))).set j (.vec q0 (size + 1) ds2) = R.set i .non ++ [.vec e (size + 1) (ds1 ++ ds2)] := by
                apply List.ext_getElem?
                intro k
                have hk := hRk k
                grind
              simp only at s2
              rw [hR] at s2
              exact ⟨s2, hA.sub, hA.same, hA.pre, by rw [← hRl]; exact hA.rd⟩
            split at h
            · cases hn : Nat.ble ((ds2.length / (size + 1)) * (bytes + 1)) 140737488355328 with
              | false => rw [hn] at h; simp at h
              | true =>
                rw [hn] at h
                simp only [cond_true, Option.some.injEq] at h; subst h
                have hn := Nat.le_of_ble_eq_true hn
                have hap : evAppend P (R.set j (.sl q0 (size + 1) rows2)) (.app [] [] 0 0 rows2) ts.toList [.d (.p (.v (.slice none 0 0))), .d (.os j)] = some ⟨.d (.os ((R.set j (.sl q0 (size + 1) rows2)).length + 1)), R.set j (.sl q0 (size + 1) rows2) ++ [.non, .sl e (size + 1) rows2], some (.app [] rows2 (size + 1) (rows2.length * (bytes + 1)) rows2)⟩ := by
                  rw [hts]
                  simp [evAppend, ht, hs, hby, hz, srcRows, hjl, hzn]
                obtain ⟨v, w', ρ', hr, hA⟩ := evAppend_ok (ty := ty) hI1 (vs := vs) (by rw [hvs]; exact ⟨r0, r1, trivial⟩) hap (fun x hx => by cases hx; exact ⟨by rw [hlen2]; exact hn, hrow2, rfl⟩)
                refine ⟨v, w', ρ', hr, ?_⟩
                have s1 := hA.inv.swapV (i := R.length + 1) (r := .sl e (size + 1) rows2) (r' := .vec e (size + 1) ds2) (by simp) (fun v _ _ hv => vOk.of_sl hv hfl2 hd2 (Nat.succ_pos _) (k2.mono fun _ _ h => h.mono hA.sub hA.same hA.pre)) (fun v b hf => foot_vec.1 hf)
                have s2 := s1.swapV (i := j) (r := .sl q0 (size + 1) rows2) (r' := .vec q0 (size + 1) ds2) (by
                  rw [List.getElem?_set, if_neg (by omega), List.getElem?_append_left (by simpa using hjl)]; simp [hjl]) (fun v _ _ hv => back (R0 := []) (.inr trivial) hA.same hA.pre v hv) (fun v b hf => foot_vec.1 hf)
                have hR : ((R.set j (Res.sl q0 (size + 1) rows2) ++ [Res.non, .sl e (size + 1) rows2]).set (R.length + 1) (.vec e (size + 1) ds2)).set j (.vec q0 (size + 1) ds2) = R ++ [.non, .vec e (size + 1) ds2] := by
                  apply List.ext_getElem?
                  intro k
                  grind
                simp only at s2
                rw [hR] at s2
                exact ⟨s2, hA.sub, hA.same, hA.pre, by have := hA.rd; simpa using this⟩
            · rename_i i
              split at h
              · rename_i e' s' ds1 hi
                cases hb3 : ((Nat.beq e' e && Nat.beq s' (size + 1)) && (!(Nat.beq i j) && Nat.ble ((ds1.length / (size + 1) + ds2.length / (size + 1)) * (bytes + 1)) 140737488355328)) with
                | false => rw [hb3] at h; simp at h
                | true =>
                  rw [hb3] at h
                  simp only [cond_true, Option.some.injEq] at h; subst h
                  simp only [Bool.and_eq_true, Bool.not_eq_true'] at hb3
                  obtain ⟨⟨h1, h2⟩, h3, h4⟩ := hb3
                  have h1 := Nat.eq_of_beq_eq_true h1
                  have h2 := Nat.eq_of_beq_eq_true h2
                  subst h1; subst h2
                  have hij : i ≠ j := fun e => by rw [e] at h3; simp at h3
                  obtain ⟨xs1, g1, g2, g3⟩ := vOk.sl ((hI.ok i _ _ hi r0.d_inv.os_inv).live r0.d_inv.one)
                  have hI2 := hI1.swapV (i := i) (by rw [List.getElem?_set, if_neg (Ne.symm hij)]; exact hi) (r' := .sl e' (size + 1) (chunks (size + 1) (ds1.length / (size + 1)) (xs1.map Pd.v))) (fun v hv _ _ => by rw [r0.d_inv.os_inv] at hv; cases hv; exact g1) (fun v b hf => foot_vec.2 hf)
                  have hil : i < R.length := (List.getElem?_eq_some_iff.1 hi).1
                  exact go (rows1 := chunks (size + 1) (ds1.length / (size + 1)) (xs1.map Pd.v)) (xs1 := xs1) hI2 (by rw [List.getElem?_set_self (by simpa using hil)]) (by rw [List.getElem?_set, if_neg hij]; simp [hjl]) hij r0 (by simp) (fun k _ _ => by grind) (chunks_flatten _ _ _ (by rw [List.length_map, g3])) g2 (by rw [chunks_length, hlen2]; exact Nat.le_of_ble_eq_true h4)
              · rename_i e' s' hi
                cases hb3 : ((Nat.beq e' e && Nat.beq s' (size + 1)) && (!(Nat.beq i j) && Nat.ble ((0 + ds2.length / (size + 1)) * (bytes + 1)) 140737488355328)) with
                | false => rw [hb3] at h; simp at h
                | true =>
                  rw [hb3] at h
                  simp only [cond_true, Option.some.injEq] at h; subst h
                  simp only [Bool.and_eq_true, Bool.not_eq_true'] at hb3
                  obtain ⟨⟨h1, h2⟩, h3, h4⟩ := hb3
                  have h1 := Nat.eq_of_beq_eq_true h1
                  have h2 := Nat.eq_of_beq_eq_true h2
                  subst h1; subst h2
                  have hij : i ≠ j := fun e => by rw [e] at h3; simp at h3
                  exact go (xs1 := []) hI1 (by rw [List.getElem?_set, if_neg (Ne.symm hij)]; exact hi) (by simp [hjl]) hij r0 (by simp) (fun k _ _ => by grind) rfl trivial (by rw [hlen2]; exact Nat.le_of_ble_eq_true h4)
              · cases h
            · cases h
        · cases h
      · cases h
  · cases h
theorem evAppendV_sh {ts : List TypeId} {args : List AV} {out : Out} (h : evAppendV P R ts args = some out) : (∃ r1 r2, out.R = R ++ [r1, r2] ∧ ∃ x y, args = [x, y]) ∨ ∃ i y r, args = [.d (.os i), y] ∧ out.R = R.set i .non ++ [r] := by
  unfold evAppendV at h
  split at h
  · rename_i t u x j
    generalize Nat.beq t u = bb at h
    cases bb with
    | false => simp at h
    | true =>
      simp only [cond_true] at h
      split at h
      · split at h
        · generalize (_ && _ : Bool) = bb at h
          cases bb with
          | false => simp at h
          | true =>
            simp only [cond_true] at h
            split at h
            · generalize Nat.ble _ _ = bb at h
              cases bb with
              | false => simp at h
              | true => simp at h; subst h; exact .inl ⟨_, _, rfl, _, _, rfl⟩
            · split at h
              · generalize (_ && _ : Bool) = bb at h
                cases bb with
                | false => simp at h
                | true => simp at h; subst h; exact .inr ⟨_, _, _, rfl, rfl⟩
              · generalize (_ && _ : Bool) = bb at h
                cases bb with
                | false => simp at h
                | true => simp at h; subst h; exact .inr ⟨_, _, _, rfl, rfl⟩
              · cases h
            · cases h
        · cases h
      · cases h
  · cases h

theorem all2_replicate {α β : Type} {Q : α → β → Prop} {xs : List α} {ds : List β} (h : All2 Q xs ds) (n : Nat) : All2 Q (repeatL n xs) (List.replicate n ds).flatten := by
  induction n with
  | zero => trivial
  | succ n ih => exact h.append ih

theorem repeatL_flat {α : Type} (l : List α) : ∀ n, repeatL n l = (List.replicate n l).flatten
  | 0 => rfl
  | n + 1 => by simp [repeatL, List.replicate_succ, repeatL_flat l n]
theorem dsOf_exact : ∀ {l : List Value} {ds : List D}, dsOf l = some ds → ds = l.map (fun v => D.p (.v v)) ∧ ∀ v, v ∈ l → v.oneCell' = true
  | [], ds, h => by simp [dsOf] at h; subst h; simp
  | v :: r, ds, h => by
    simp only [dsOf] at h
    split at h
    · rename_i d ds' h1 h2
      simp at h; subst h
      obtain ⟨g1, g2⟩ := dsOf_exact h2
      unfold dOf at h1
      grind
    · cases h
theorem dPs_exact : ∀ {l : List Value} {ps : List Pd}, dPs (l.map fun v => D.p (.v v)) = some ps → ps = l.map Pd.v
  | [], ps, h => by simp [dPs] at h; subst h; rfl
  | v :: r, ps, h => by
    simp only [List.map_cons, dPs, dP] at h
    split at h
    · rename_i x l h1 h2
      simp at h h1; subst h; subst h1
      rw [dPs_exact h2]; rfl
    · cases h
theorem zB_ok {v : Value} (h : zB (.v v) = true) (h1 : v.oneCell' = true) : zCell v (Pd.nz (.v v)) := by
  unfold zB at h
  split at h
  · rename_i heq; cases heq; exact ⟨rfl, rfl⟩
  · cases h
  · rename_i x h2 h3 heq
    cases heq
    have : Pd.nz (.v v) = .v v := by
      unfold Pd.nz
      grind
    rw [this]
    refine ⟨rfl, h1, ?_⟩
    unfold noSlice
    grind
  · rename_i heq; cases heq

/-- so many zeros behind nothing: a new block -/
theorem evAppendN_ok (hI : Inv C S w ρ R) {ts : Array TypeId} {ty : TypeId} {vs : Array Value} {args : List AV} {out : Out} (hv : All2 (RdA S w ρ) vs.toList args) (h : evAppendN P R ts.toList args = some out) :
    ∃ v w' ρ', (Builtin.append_ ts ty vs).run P w = .ok v w' ∧ After C S w ρ out.R v out.v S w' ρ' := by
  unfold evAppendN at h
  split at h
  · rename_i ts' t u kk n hts
    have hvs : vs = #[.slice none 0 0, .int kk (.ofNat n)] := by
      obtain ⟨l⟩ := vs
      match l, hv with
      | [v0, v1], hv => rw [hv.1.exact_inv, hv.2.1.exact_inv]
      | [], hv => exact hv.elim
      | [_], hv => exact hv.2.elim
      | _ :: _ :: _ :: _, hv => exact hv.2.2.elim
    have htsa : ts = #[t, u] := by obtain ⟨l⟩ := ts; simp at hts; rw [hts]
    subst hvs; subst htsa
    split at h
    · rename_i e ku ht hu
      split at h
      · rename_i size bytes ds hs hby hz
        split at h
        · rename_i zs hd
          cases hb : ((Nat.beq zs.length (size + 1) && Nat.blt 0 n) && Nat.ble (n * (bytes + 1)) 140737488355328) with
          | false => rw [hb] at h; simp at h
          | true =>
            rw [hb] at h
            simp only [cond_true, Option.some.injEq] at h; subst h
            simp only [Bool.and_eq_true] at hb
            obtain ⟨⟨hzl, hn0⟩, hn⟩ := hb
            have hzl := Nat.eq_of_beq_eq_true hzl
            have hn0 : 0 < n := by simpa [Nat.blt_eq] using hn0
            have hn := Nat.le_of_ble_eq_true hn
            obtain ⟨z, hz1, hz2⟩ := bindE hz
            obtain ⟨d1, d2⟩ := dsOf_exact hz2
            subst d1
            have hzv := dPs_exact hd
            obtain ⟨info, i1, i2, i3, i4⟩ := tyBytes hs hby hz1
            have hn1 : n ≤ 140737488355328 := Nat.le_trans (Nat.le_mul_of_pos_right _ (Nat.succ_pos bytes)) hn
            have hn2 : n * bytes ≤ 140737488355328 := Nat.le_trans (Nat.mul_le_mul_left _ (Nat.le_succ _)) hn
            have hzs : z.cells.size = size + 1 := by have : zs.length = z.cells.toList.length := by rw [hzv]; simp
                                                     rw [hzl] at this; simpa using this.symm
            have hr := Lib.run_append_nil_zeros (P := P) w t u ty e info z kk ku ht hu i1 i4 n hn0 (by rw [i2]; omega) (by omega) (by rw [i3]; omega)
            have hg1 := grownCap_ge w n 0 e
            have hg2 : grownCap w n 0 e ≤ maxLen := grownCap_le_maxLen w n 0 e (by unfold maxLen; omega)
            have hzc : ∀ m, (Builtin.zeroCells z.cells m).toList = repeatL m z.cells.toList := fun m => repeat_range _ _
            have hall : All2 (RdP S w) z.cells.toList zs := by rw [hzv]; exact exact_all d2
            have hrl : ∀ m, (repeatL m z.cells.toList).length = m * (size + 1) := fun m => by rw [repeatL_length]; simp [hzs]
            have hok := sl_fresh (S := S) (w := w) (e := e) (ρ := ρ) (size := size + 1) (n := n) (cap := grownCap w n 0 e) (rows := List.replicate n zs) (cs := Builtin.zeroCells z.cells n ++ Builtin.zeroCells z.cells (grownCap w n 0 e - n)) (xs := repeatL n z.cells.toList)
              (all2_replicate hall n) (fun l hl => by rw [List.eq_of_mem_replicate hl]; exact hzl) (by simp) (by rw [Array.toList_append, hzc, List.take_append_of_le_length (by rw [hrl]; exact Nat.le_refl _), List.take_of_length_le (by rw [hrl]; exact Nat.le_refl _)])
              (by have h1 := congrArg List.length (hzc n); have h2 := congrArg List.length (hzc (grownCap w n 0 e - n)); rw [hrl] at h1 h2
                  simp only [Array.length_toList] at h1 h2
                  rw [Array.size_append, h1, h2, ← Nat.add_mul]
                  have : n + (grownCap w n 0 e - n) = grownCap w n 0 e := by omega
                  rw [this]; exact Nat.le_refl _) hg1 hg2 (fun b hb => (hI.sup b hb).1) (w2 := w.drew) rfl
            have hw : ∀ b, b < w.heap.size → (w.drew.alloc (.cells (Builtin.zeroCells z.cells n ++ Builtin.zeroCells z.cells (grownCap w n 0 e - n)) e)).heap[b]? = w.heap[b]? := fun b hb => halloc_old w.drew _ b hb
            refine ⟨_, _, ρ ++ [.slice (some ⟨w.heap.size, 0, none⟩) n (grownCap w n 0 e)], hr, hI.push _ _ hw (by simp) rfl ⟨rfl, fun _ => by first | exact Nat.le_refl _ | exact Nat.le_succ _⟩ rfl (.inr hok) (fun b hb => ?_), fun _ h => h, fun b hb => hw b (hI.sup b hb).1, Pre.append _ _, .d (.os ?_ rfl)⟩
            · simp [Res.foot] at hb; subst hb
              simp
            · rw [← hI.len]; simp
        · cases h
      · cases h
    · cases h
  · cases h
theorem evAppendN_sh {ts : List TypeId} {args : List AV} {out : Out} (h : evAppendN P R ts args = some out) : ∃ r, out.R = R ++ [r] := by
  unfold evAppendN at h
  split at h
  · split at h
    · split at h
      · split at h
        · generalize (_ && _ : Bool) = bb at h
          cases bb with
          | false => simp at h
          | true => simp at h; subst h; exact ⟨_, rfl⟩
        · cases h
      · cases h
    · cases h
  · cases h

/-- make: what comes, before it gets its place among our things -/
theorem evMake_run {c : Cl} {t : TypeId} {len : Option Value} {out : Out} (h : evMake P R c t len = some out) (hk : ∀ x, out.c = some x → x.ok P) (hS : ∀ b, S b → b < w.heap.size) :
    ∃ l n cs e r, len = some l ∧ out.v = .d (.os R.length) ∧ out.R = R ++ [r] ∧ (Instr.makeSlice t l l).run P w = .ok (.slice (some ⟨w.heap.size, 0, none⟩) n n) (w.alloc (.cells cs e)) ∧
      (∀ ρ', r.ok0 S (w.alloc (.cells cs e)) ρ' (.slice (some ⟨w.heap.size, 0, none⟩) n n)) ∧ (∀ b, r.foot (.slice (some ⟨w.heap.size, 0, none⟩) n n) b → b = w.heap.size) := by
  unfold evMake at h
  have key : ∀ {e : TypeId} {l : Int} {size bytes : Nat} {ds : List D}, P.underlying t = some (.slice e) → tySize P e = some (size + 1) → (P.info? e).map (·.bytes) = some bytes → ((tyZero P e).bind fun z => dsOf z.cells.toList) = some ds →
      ∀ {zs : List Pd}, dPs ds = some zs → zs.length = size + 1 → 0 ≤ l * ((bytes : Int) + 1) → l * ((bytes : Int) + 1) ≤ 140737488355328 →
      ∃ (n : Nat) (cs : Array Value) (vs : List Value), l = n ∧ (Instr.makeSlice t (.int .i64 l) (.int .i64 l)).run P w = .ok (.slice (some ⟨w.heap.size, 0, none⟩) n n) (w.alloc (.cells cs e)) ∧
        cs.toList = (List.replicate n vs).flatten ∧ vs.length = size + 1 ∧ zs = vs.map Pd.v ∧ (∀ v, v ∈ vs → v.oneCell' = true) ∧ n ≤ 140737488355328 ∧ cs.size = n * (size + 1) := by
    intro e l size bytes ds ht hs hby hz zs hd hzl k1 k2
    obtain ⟨z, hz1, hz2⟩ := bindE hz
    obtain ⟨d1, d2⟩ := dsOf_exact hz2
    subst d1
    have hzv := dPs_exact hd
    obtain ⟨info, i1, i2, i3, i4⟩ := tyBytes hs hby hz1
    have hl0 : 0 ≤ l := by
      rcases Int.lt_or_le l 0 with h | h
      · have : l * ((bytes : Int) + 1) < 0 := Int.mul_neg_of_neg_of_pos h (by omega)
        omega
      · exact h
    obtain ⟨n, rfl⟩ := Int.eq_ofNat_of_zero_le hl0
    have hn : n * (bytes + 1) ≤ 140737488355328 := by
      have : ((n * (bytes + 1) : Nat) : Int) ≤ 140737488355328 := by push_cast; exact k2
      omega
    have hn1 : n ≤ 140737488355328 := Nat.le_trans (Nat.le_mul_of_pos_right _ (Nat.succ_pos bytes)) hn
    have hn2 : n * bytes ≤ 140737488355328 := Nat.le_trans (Nat.mul_le_mul_left _ (Nat.le_succ _)) hn
    have hwrap : IntKind.i64.wrap (n : Int) = n := IntWalk.i64_in _ (by omega)
    have hzs : z.cells.size = size + 1 := by have : zs.length = z.cells.toList.length := by rw [hzv]; simp
                                             rw [hzl] at this; simpa using this.symm
    have hlarge : ¬ ((281474976710656 : Int) < (bytes : Int) * (n : Int)) := by
      have : ((n * bytes : Nat) : Int) ≤ 140737488355328 := by omega
      push_cast at this
      rw [Int.mul_comm]
      omega
    have hcells : ∃ cs : Array Value, cs.toList = repeatL n z.cells.toList ∧ (Instr.makeSlice t (.int .i64 n) (.int .i64 n)).run P w = .ok (.slice (some ⟨w.heap.size, 0, none⟩) n n) (w.alloc (.cells cs e)) := by
      refine ⟨(Array.range (n * z.cells.size)).map (fun i => z.cells[i % z.cells.size]!), repeat_range _ _, ?_⟩
      by_cases h0 : n = 0
      · subst h0
        have hw0 : IntKind.i64.wrap 0 = 0 := IntWalk.i64_in 0 (by omega)
        simp [Instr.makeSlice, run_underlying ht, asInt, asIntOf, typeInfo, i1, sizeOf, newRow, hw0]
        congr 2
        apply Array.ext'; simp
      · have hneg : ¬ ((n : Int) < 0) := by omega
        have h1 : (n * (size + 1) = 0) = False := eq_false (Nat.mul_ne_zero h0 (by omega))
        simp [hneg, h1, Instr.makeSlice, run_underlying ht, asInt, asIntOf, typeInfo, i1, i2, i3, sizeOf, newRow, hwrap, hlarge, hzs, zeroValue, i4]
    obtain ⟨cs, hc1, hc2⟩ := hcells
    have hcl : cs.size = n * (size + 1) := by
      have : cs.toList.length = n * z.cells.toList.length := by rw [hc1, repeatL_length]
      simpa [hzs] using this
    exact ⟨n, cs, z.cells.toList, rfl, hc2, by rw [hc1, repeatL_flat], by simpa using hzs, hzv, d2, hn1, hcl⟩
  have hfoot : ∀ (n b : Nat), slFoot (.slice (some ⟨w.heap.size, 0, none⟩) n n) b → b = w.heap.size := fun n b h => Eq.symm h
  split at h
  · rename_i e l q1 q2 rows' ht
    split at h
    · rename_i size bytes ds hs hby hz
      split at h
      · rename_i zs hd
        cases hb : Nat.beq zs.length (size + 1) with
        | false => rw [hb] at h; simp at h
        | true =>
          rw [hb] at h
          simp at h; subst h
          obtain ⟨k1, k2, k3⟩ := hk _ rfl
          subst k3
          have hzl := Nat.eq_of_beq_eq_true hb
          obtain ⟨n, cs, vs, rfl, hrun, hc, hvl, hzv, hone, hn1, hcl⟩ := key ht hs hby hz hd hzl k1 k2
          refine ⟨_, n, cs, e, _, rfl, rfl, rfl, hrun, fun ρ' => ?_, fun b hb => hfoot n b hb⟩
          have hall : All2 (RdP S w) vs zs := by
            rw [hzv]
            refine All2.of_get (by simp) fun j x d hx hd => ?_
            rw [List.getElem?_map, hx] at hd
            simp at hd; subst hd
            exact .v x (hone x (List.mem_of_getElem? hx))
          have hok := sl_fresh (e := e) (ρ := []) (size := size + 1) (n := n) (cap := n) (rows := List.replicate n zs) (cs := cs) (xs := cs.toList) (by rw [hc, ← repeatL_flat]; exact all2_replicate hall n) (fun l hl => by rw [List.eq_of_mem_replicate hl]; exact hzl) (by simp)
            (List.take_of_length_le (by simp [hcl])) (by omega) (Nat.le_refl _) (by simp [maxLen]; omega) hS (w2 := w) rfl
          simp only [Int.toNat_natCast]
          exact hok
      · cases h
    · cases h
  · rename_i e l q1 q2 rows' ht
    split at h
    · rename_i size bytes ds hs hby hz
      split at h
      · rename_i zs hd
        cases hb : (Nat.beq zs.length (size + 1) && zs.all zB) with
        | false => rw [hb] at h; simp at h
        | true =>
          rw [hb] at h
          simp only [cond_true, Option.some.injEq] at h
          subst h
          simp only [Bool.and_eq_true] at hb
          obtain ⟨k1, k2, k3⟩ := hk _ rfl
          subst k3
          have hzl := Nat.eq_of_beq_eq_true hb.1
          obtain ⟨n, cs, vs, rfl, hrun, hc, hvl, hzv, hone, hn1, hcl⟩ := key ht hs hby hz hd hzl k1 k2
          refine ⟨_, n, cs, e, _, rfl, rfl, rfl, hrun, fun ρ' => ?_, fun b hb => hfoot n b hb⟩
          refine .inr ⟨w.heap.size, 0, n, cs, by simp, halloc_new _ _, by simp, by simp [maxLen]; omega, by omega, fun row hrow => ?_, fun i row hi j d hj => ?_⟩
          · rw [List.eq_of_mem_replicate hrow]; simpa using hzl
          · have hin : i < n := by have := (List.getElem?_eq_some_iff.1 hi).1; simpa using this
            have hrow : row = zs.map Pd.nz := List.eq_of_mem_replicate (List.mem_of_getElem? hi)
            subst hrow
            rw [hzv, List.map_map, List.getElem?_map] at hj
            obtain ⟨x, hx, hd'⟩ := mapE hj
            refine ⟨x, ?_, ?_⟩
            · have hg := flatten_get (rows := List.replicate n vs) (size := size + 1) (fun l hl => by rw [List.eq_of_mem_replicate hl]; exact hvl) (i := i) (j := j) (row := vs) (d := x) (by rw [List.getElem?_replicate, if_pos hin]) hx
              rw [← hc] at hg
              simpa using hg
            · subst hd'
              have hzb := (List.all_eq_true.1 hb.2) (.v x) (by rw [hzv]; exact List.mem_map.2 ⟨x, List.mem_of_getElem? hx, rfl⟩)
              exact zB_ok hzb (hone x (List.mem_of_getElem? hx))
      · cases h
    · cases h
  · cases h

theorem evMake_ok (hI : Inv C S w ρ R) {c : Cl} {t : TypeId} {len : Option Value} {out : Out} (h : evMake P R c t len = some out) (hk : ∀ x, out.c = some x → x.ok P) :
    ∃ v w' ρ' l, len = some l ∧ (Instr.makeSlice t l l).run P w = .ok v w' ∧ After C S w ρ out.R v out.v S w' ρ' := by
  obtain ⟨l, n, cs, e, r, h1, h2, h3, h4, h5, h6⟩ := evMake_run h hk (fun b hb => (hI.sup b hb).1)
  have hw : ∀ b, b < w.heap.size → (w.alloc (.cells cs e)).heap[b]? = w.heap[b]? := fun b hb => halloc_old w _ b hb
  refine ⟨_, _, ρ ++ [.slice (some ⟨w.heap.size, 0, none⟩) n n], l, h1, h4, ?_⟩
  rw [h2, h3]
  refine ⟨hI.push _ _ hw (by simp) rfl ⟨rfl, fun _ => by first | exact Nat.le_refl _ | exact Nat.le_succ _⟩ rfl (.inr (h5 _)) fun b hb => ?_, fun _ h => h, fun b hb => hw b (hI.sup b hb).1, Pre.append _ _, .d (.os ?_ rfl)⟩
  · rw [h6 b hb]; simp
  · rw [← hI.len]; simp

theorem evConvO_ok (hI : Inv C S w ρ R) {c : Cl} {s d : TypeId} {x : Option Value} {out : Out} (h : evConvO P R c s d x = some out) (hk : ∀ y, out.c = some y → y.ok P) :
    ∃ v v' w' ρ', x = some v ∧ (convert s d v).run P w = .ok v' w' ∧ After C S w ρ out.R v' out.v S w' ρ' := by
  unfold evConvO at h
  split at h
  · rename_i e b q1 q2 rows' hs hd
    split at h
    · rename_i he
      have hmk : markT e = true := by
        grind
      rw [hmk] at h
      simp at h; subst h
      obtain ⟨k1, k2, k3⟩ := hk _ rfl
      subst k3
      have hold : ∀ k, k < w.heap.size → (Lib.bytesWorld w e b).heap[k]? = w.heap[k]? := fun k hk => Lib.bytesWorld_at_old w e b k hk
      have hsz := Lib.bytesWorld_size w e b
      have hlen : (bytesP b).length = b.size := by simp [bytesP, bytesI]
      have hcs : (Lib.bytesCells w e b).size = b.size + (grownCap w b.size 0 e - b.size) := by simp [Lib.bytesCells]
      refine ⟨_, _, _, ρ ++ [.slice (some ⟨w.heap.size, 0, none⟩) b.size (grownCap w b.size 0 e)], rfl, Lib.run_convert_string_bytes w s d e b hs hd he, ?_⟩
      refine ⟨hI.push _ _ hold (by omega) rfl ⟨rfl, fun _ => by first | exact Nat.le_refl _ | exact Nat.le_succ _⟩ rfl (.inr (.inr ⟨w.heap.size, 0, _, _, by rw [hlen], ⟨_, Lib.bytesWorld_at_new w e b, .inr (Nat.le_refl _), fun hm => absurd (hmk.symm.trans hm) (by decide)⟩, by rw [hlen]; exact grownCap_ge _ _ _ _, grownCap_le_maxLen _ _ _ _ (by simp [maxLen]; omega), ?_, fun row hr => ?_, fun i row hi j q hj => ?_⟩)) fun k hk => ?_, fun _ h => h, fun k hk => hold k (hI.sup k hk).1, Pre.append _ _, .d (.os ?_ rfl)⟩
      · have := grownCap_ge w b.size 0 e
        omega
      · unfold bytesP at hr
        obtain ⟨n, _, rfl⟩ := List.mem_map.1 hr
        rfl
      · have hil : i < b.size := by rw [← hlen]; exact (List.getElem?_eq_some_iff.1 hi).1
        unfold bytesP bytesI at hi
        rw [List.getElem?_map, List.getElem?_map] at hi
        obtain ⟨z, h1, rfl⟩ := mapE hi
        obtain ⟨y, h2, rfl⟩ := mapE h1
        have hj0 : j = 0 := by
          have := (List.getElem?_eq_some_iff.1 hj).1
          simp at this; exact this
        subst hj0
        simp at hj; subst hj
        refine ⟨.int .u8 (y.toNat : Int), ?_, .v _ rfl⟩
        have := Lib.bytesWorld_cell w e b i hil
        rw [List.getD_eq_getElem?_getD, h2] at this
        rw [cell_blk (Lib.bytesWorld_at_new w e b)] at this
        rw [Nat.zero_add, Nat.mul_one, Nat.add_zero, this]; rfl
      · simp [Res.foot] at hk; subst hk
        exact ⟨Nat.le_refl _, by omega⟩
      · rw [← hI.len]; simp
    · cases h
  · cases h
theorem evConvB_ok (hI : Inv C S w ρ R) {c : Cl} {s d : TypeId} {x : Option AV} {out : Out} {v : Value} (h : evConvB P R c s d x = some out) (hv : ∀ y, x = some y → RdA S w ρ v y) :
    ∃ v' w', (convert s d v).run P w = .ok v' w' ∧ After C S w ρ out.R v' out.v S w' ρ := by
  unfold evConvB at h
  split at h
  · rename_i e i hd
    split at h
    · rename_i e' z row rows hi he
      cases hb : Nat.beq s d && markT e' with
      | false => rw [hb] at h; cases h
      | true =>
        rw [hb] at h
        have hbm := (Bool.and_eq_true_iff.1 hb).2
        have hsd := Nat.eq_of_beq_eq_true (Bool.and_eq_true_iff.1 hb).1
        subst hsd
        simp at h; subst h
        have hr := hv _ rfl
        have hρ := hr.d_inv.os_inv
        rcases (hI.ok i _ v hi hρ).live hr.d_inv.one with ⟨h1, h2⟩ | ⟨b, o, cap, vs, h1, ⟨fr, hb1, hb2, hb3⟩, h3, h4, h5, h6, h7⟩
        · cases h2
        · subst h1
          have hsh : w.shape? b = some (e', vs.size) := by simp [World.shape?, hb1]
          have hblk : (w.freeze ⟨b, vs.size, none⟩ 1).heap[b]? = some (.cells vs e' (if fr.1 == fr.2 then (vs.size, vs.size + 1) else (min fr.1 vs.size, max fr.2 (vs.size + 1)))) := by
            simp [World.freeze, Array.getElem?_modify, hb1]
          have hoth : ∀ k, k ≠ b → (w.freeze ⟨b, vs.size, none⟩ 1).heap[k]? = w.heap[k]? := fun k hk => by
            simp [World.freeze, Array.getElem?_modify, Ne.symm hk]
          have hsz : (w.freeze ⟨b, vs.size, none⟩ 1).heap.size = w.heap.size := by simp [World.freeze]
          have hown := hI.own i _ _ b hi hρ rfl
          have hS : ∀ k, S k → (w.freeze ⟨b, vs.size, none⟩ 1).heap[k]? = w.heap[k]? := fun k hk => hoth k fun e => hown.1 (e ▸ hk)
          refine ⟨.slice (some ⟨b, o, none⟩) (row :: rows).length cap, w.freeze ⟨b, vs.size, none⟩ 1, ?_, ?_, fun _ h => h, hS, Pre.refl _, ?_⟩
          · simp [convert, run_underlying hd, run_underlying he, markStringish, hsh, Result.andThen]
          · have hI' := hI.put hi hρ (w' := w.freeze ⟨b, vs.size, none⟩ 1) (r' := .sl e' z (row :: rows)) (b := b) rfl (fun k hk => by simp [Res.foot] at hk; exact hk.symm) hoth hsz rfl ⟨rfl, fun _ => by first | exact Nat.le_refl _ | exact Nat.le_succ _⟩ rfl
              (.inr (.inr ⟨b, o, cap, vs, rfl, ⟨_, hblk, .inr ?_, fun hm => absurd (hbm.symm.trans hm) (by decide)⟩, h3, h4, h5, h6, fun i2 r hi2 j q hj => ?_⟩))
            · have : R.set i (.sl e' z (row :: rows)) = R := by
                apply List.ext_getElem?
                grind
              rw [this] at hI'
              exact hI'
            · rcases hb2 with hb2 | hb2
              · rw [if_pos (by simpa using hb2)]; exact Nat.le_refl _
              · split
                · exact Nat.le_refl _
                · show vs.size ≤ min fr.1 vs.size
                  omega
            · obtain ⟨x, hx, hR⟩ := h7 i2 r hi2 j q hj
              exact ⟨x, hx, hR.mono (fun _ h => h) hS⟩
          · exact .d (.os hρ rfl)
    · cases h
  · cases h
theorem evConv_ok (hI : Inv C S w ρ R) {c : Cl} {s d : TypeId} {x : Option Value} {out : Out} (h : evConv P R c s d x = some out) (hk : ∀ y, out.c = some y → y.ok P) :
    out.R = R ∧ ∃ v v' w' S', x = some v ∧ (convert s d v).run P w = .ok v' w' ∧ After C S w ρ R v' out.v S' w' ρ := by
  unfold evConv at h
  split at h
  · rename_i e b q1 q2 rows' hs hd
    split at h
    · rename_i he
      simp at h; subst h
      obtain ⟨k1, k2, k3⟩ := hk _ rfl
      subst k3
      refine ⟨rfl, _, _, _, fun k => S k ∨ k = w.heap.size, rfl, Lib.run_convert_string_bytes w s d e b hs hd he, ?_⟩
      have hold : ∀ k, k < w.heap.size → (Lib.bytesWorld w e b).heap[k]? = w.heap[k]? := fun k hk => Lib.bytesWorld_at_old w e b k hk
      have hsz := Lib.bytesWorld_size w e b
      have hsub : ∀ k, S k → k < w.heap.size := fun k hk => (hI.sup k hk).1
      refine ⟨hI.grow (fun _ h => .inl h) (fun k hk => hk.imp id fun e => ⟨by omega, by omega⟩) hold (by omega) rfl ⟨rfl, fun _ => by first | exact Nat.le_refl _ | exact Nat.le_succ _⟩ rfl, fun _ h => .inl h, fun k hk => hold k (hsub k hk), Pre.refl _, .d (.p ?_)⟩
      have hlen : (bytesP b).length = b.size := by simp [bytesP, bytesI]
      have hget : ∀ (i : Nat) row, (bytesP b)[i]? = some row → i < b.size ∧ row = [Pd.v (.int .u8 (b.data.toList.getD i 0).toNat)] := by
        intro i row hi
        have hil : i < b.size := by rw [← hlen]; exact (List.getElem?_eq_some_iff.1 hi).1
        refine ⟨hil, ?_⟩
        unfold bytesP bytesI at hi
        grind
      have := RdP.s (S := fun k => S k ∨ k = w.heap.size) (w := Lib.bytesWorld w e b) (some ⟨w.heap.size, 0, none⟩) ⟨w.heap.size, 0, none⟩ (grownCap w b.size 0 e) 1 (bytesP b) (fun i _ => .int .u8 (b.data.toList.getD i 0).toNat)
        (by rw [hlen]; exact grownCap_ge _ _ _ _) (grownCap_le_maxLen _ _ _ _ (by simp [maxLen]; omega)) (fun h => by cases h)
        (fun row hr => by
          obtain ⟨i, hi⟩ := List.getElem?_of_mem hr
          rw [(hget i row hi).2]; rfl)
        (fun i row hi j q hj => by
          obtain ⟨g1, g2⟩ := hget i row hi
          subst g2
          have hj0 : j = 0 := by
            have := (List.getElem?_eq_some_iff.1 hj).1
            simp at this; exact this
          subst hj0
          refine ⟨rfl, .inr rfl, ?_⟩
          rw [add_mk]
          have := Lib.bytesWorld_cell w e b i g1
          simpa using this)
        (fun i row hi j q hj => by
          obtain ⟨g1, g2⟩ := hget i row hi
          subst g2
          have hj0 : j = 0 := by
            have := (List.getElem?_eq_some_iff.1 hj).1
            simp at this; exact this
          subst hj0
          have hj' : Pd.v (.int .u8 (b.data.toList.getD i 0).toNat) = q := by simpa using hj
          rw [← hj']
          exact .v (.int .u8 (b.data.toList.getD i 0).toNat) rfl)
      rw [hlen] at this
      exact this
    · cases h
  · cases h
end
end Go.SL
