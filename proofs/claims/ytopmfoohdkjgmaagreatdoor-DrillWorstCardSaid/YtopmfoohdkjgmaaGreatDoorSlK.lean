/-
  The logic, eleventh part: append and make.
-/
import Derived.Test.YtopmfoohdkjgmaaGreatDoorSlJ
namespace Go.SL

section
variable {P : Program} {C : Ctx} {S S' : Nat → Prop} {w w' : World} {ρ ρ' : List Value} {R : List Res}

theorem flatten_length {α : Type} {size : Nat} : ∀ {rows : List (List α)}, (∀ l, l ∈ rows → l.length = size) → rows.flatten.length = rows.length * size
  | [], _ => by simp
  | l :: rows, h => by
    rw [List.flatten_cons, List.length_append, flatten_length (fun l hl => h l (List.mem_cons_of_mem _ hl)), h l List.mem_cons_self, List.length_cons, Nat.add_mul]
    omega
theorem flatten_get {α : Type} {size : Nat} : ∀ {rows : List (List α)}, (∀ l, l ∈ rows → l.length = size) → ∀ {i j : Nat} {row : List α} {d : α}, rows[i]? = some row → row[j]? = some d → rows.flatten[i * size + j]? = some d
  | [], _, i, j, row, d, h, _ => by simp at h
  | l :: rows, h, 0, j, row, d, hi, hj => by
    simp at hi; subst hi
    rw [List.flatten_cons, Nat.zero_mul, Nat.zero_add, List.getElem?_append_left (List.getElem?_eq_some_iff.1 hj).1]
    exact hj
  | l :: rows, h, i + 1, j, row, d, hi, hj => by
    simp only [List.getElem?_cons_succ] at hi
    have hl := h l List.mem_cons_self
    rw [List.flatten_cons, List.getElem?_append_right (by rw [hl, Nat.add_mul]; omega), hl]
    rw [show (i + 1) * size + j - size = i * size + j from by rw [Nat.add_mul]; omega]
    exact flatten_get (fun l hl => h l (List.mem_cons_of_mem _ hl)) hi hj
theorem flatten_at {α : Type} {size : Nat} : ∀ {rows : List (List α)}, (∀ l, l ∈ rows → l.length = size) → ∀ {k : Nat} {d : α}, rows.flatten[k]? = some d → ∃ i j row, k = i * size + j ∧ rows[i]? = some row ∧ row[j]? = some d
  | [], _, k, d, h => by simp at h
  | l :: rows, h, k, d, hk => by
    have hl := h l List.mem_cons_self
    rw [List.flatten_cons] at hk
    rcases Nat.lt_or_ge k l.length with hlt | hge
    · rw [List.getElem?_append_left hlt] at hk
      exact ⟨0, k, l, by simp, rfl, hk⟩
    · rw [List.getElem?_append_right hge] at hk
      obtain ⟨i, j, row, h1, h2, h3⟩ := flatten_at (fun l hl => h l (List.mem_cons_of_mem _ hl)) hk
      exact ⟨i + 1, j, row, by rw [Nat.add_mul]; omega, by simpa using h2, h3⟩

/-- an own slice, its cells in one list -/
theorem sl_flat {e size : Nat} {rows : List (List Pd)} {h : Value} : (Res.sl e size rows).ok0 S w ρ h ↔ (h = .slice none 0 0 ∧ rows = []) ∨
      ∃ b o cap vs, h = .slice (some ⟨b, o, none⟩) rows.length cap ∧ Blk w b vs e ∧ rows.length ≤ cap ∧ cap ≤ maxLen ∧ o + cap * size ≤ vs.size ∧
        (∀ row, row ∈ rows → row.length = size) ∧ All2 (RdP S w) ((vs.toList.drop o).take (rows.length * size)) rows.flatten := by
  constructor
  · rintro (h0 | ⟨b, o, cap, vs, h1, h2, h3, h4, h5, h6, h7⟩)
    · exact .inl h0
    · refine .inr ⟨b, o, cap, vs, h1, h2, h3, h4, h5, h6, All2.of_get ?_ fun k x d hx hd => ?_⟩
      · have : rows.length * size ≤ cap * size := Nat.mul_le_mul_right _ h3
        rw [flatten_length h6]; simp; omega
      · obtain ⟨i, j, row, e1, e2, e3⟩ := flatten_at h6 hd
        obtain ⟨y, hy, hr⟩ := h7 i row e2 j d e3
        rw [List.getElem?_take] at hx
        split at hx
        · rw [List.getElem?_drop] at hx
          subst e1
          rw [← Nat.add_assoc] at hx
          have : vs[o + i * size + j]? = some x := by simpa using hx
          rw [this] at hy; cases hy; exact hr
        · cases hx
  · rintro (h0 | ⟨b, o, cap, vs, h1, h2, h3, h4, h5, h6, h7⟩)
    · exact .inl h0
    · refine .inr ⟨b, o, cap, vs, h1, h2, h3, h4, h5, h6, fun i row hi j d hj => ?_⟩
      obtain ⟨x, hx, hr⟩ := h7.get (flatten_get h6 hi hj)
      rw [List.getElem?_take] at hx
      split at hx
      · rw [List.getElem?_drop, ← Nat.add_assoc] at hx
        exact ⟨x, by simpa using hx, hr⟩
      · cases hx

theorem RdP.s_inv {x : Value} {rows : List (List Pd)} (h : RdP S w x (.s rows)) : ∃ (a : Option Addr) (ad : Addr) (cap sz : Nat) (xs : Nat → Nat → Value), x = .slice a rows.length cap ∧
    (∀ row, row ∈ rows → row.length = sz) ∧
    (∀ (i : Nat) row, rows[i]? = some row → ∀ (j : Nat) d, row[j]? = some d → a = some ad ∧ S ad.block ∧ w.cell? (ad.add (i * sz + j)) = some (xs i j)) ∧
    (∀ (i : Nat) row, rows[i]? = some row → ∀ (j : Nat) d, row[j]? = some d → RdP S w (xs i j) d) := by
  cases h with
  | s a ad cap sz _ xs _ _ _ hsz hx hr => exact ⟨a, ad, cap, sz, xs, rfl, hsz, hx, hr⟩

/-- what is appended or copied: its cells -/
theorem src_cells (hI : Inv C S w ρ R) {size : Nat} {x : Value} {av : AV} {rows : List (List Pd)} (hr : RdA S w ρ x av) (h : srcRows R size av = some rows) (hsz : ∀ l, l ∈ rows → l.length = size) :
    ∃ b c, x = .slice b rows.length c ∧ ∀ (k : Nat) d, rows.flatten[k]? = some d → ∃ ad v, b = some ad ∧ w.cell? (ad.add k) = some v ∧ RdP S w v d := by
  unfold srcRows at h
  split at h
  · rename_i rows'
    simp at h; subst h
    obtain ⟨b, ad, cap, sz, xs, hform, hsz', hx, hrr⟩ := hr.d_inv.p_inv.s_inv
    refine ⟨b, cap, hform, fun k d hk => ?_⟩
    obtain ⟨i, j, row, e1, e2, e3⟩ := flatten_at hsz hk
    obtain ⟨g1, g2, g3⟩ := hx i row e2 j d e3
    have : sz = size := by rw [← hsz' row (List.mem_of_getElem? e2), hsz row (List.mem_of_getElem? e2)]
    subst this
    subst e1
    exact ⟨ad, _, g1, g3, hrr i row e2 j d e3⟩
  · simp at h; subst h
    exact ⟨none, 0, hr.exact_inv, by simp⟩
  · rename_i i
    split at h
    · rename_i e s rows' hi
      cases hb : Nat.beq s size with
      | false => rw [hb] at h; simp at h
      | true =>
        rw [hb] at h
        simp at h; subst h
        have hs := Nat.eq_of_beq_eq_true hb
        subst hs
        have hρ := hr.d_inv.os_inv
        rcases (hI.ok i _ x hi hρ).live hr.d_inv.one with ⟨h1, h2⟩ | ⟨b, o, cap, vs, h1, h2, h3, h4, h5, h6, h7⟩
        · subst h2; exact ⟨none, 0, h1, by simp⟩
        · refine ⟨some ⟨b, o, none⟩, cap, h1, fun k d hk => ?_⟩
          obtain ⟨i, j, row, e1, e2, e3⟩ := flatten_at h6 hk
          obtain ⟨y, hy, hR⟩ := h7 i row e2 j d e3
          refine ⟨⟨b, o, none⟩, y, rfl, ?_, hR⟩
          rw [add_mk, h2.cell, e1, ← Nat.add_assoc]; exact hy
    · cases h
  · rename_i i lo n s2
    split at h
    · rename_i e s rows' hi
      cases hb : (Nat.beq s size && Nat.beq s2 s) with
      | false => rw [hb] at h; simp at h
      | true =>
        rw [hb] at h
        simp at h; subst h
        simp only [Bool.and_eq_true] at hb
        have hs := Nat.eq_of_beq_eq_true hb.1
        subst hs
        have hs := Nat.eq_of_beq_eq_true hb.2
        subst hs
        cases hr.d_inv with
        | @osb _ _ _ _ q a len cap hρ hl hc hq hq2 =>
          rcases (hI.ok i _ _ hi hρ).live rfl with ⟨h1, h2⟩ | ⟨b, o, cap', vs, h1, h2, h3, h4, h5, h6, h7⟩
          · cases h1
            subst h2
            have : n = 0 := by omega
            subst this
            exact ⟨_, _, rfl, by simp⟩
          · cases h1
            have hlen : ((rows'.drop lo).take n).length = n := by simp; omega
            refine ⟨_, cap - lo, by rw [hlen], fun k d hk => ?_⟩
            have h6' : ∀ l, l ∈ (rows'.drop lo).take n → l.length = s2 := fun l hl => h6 l (List.mem_of_mem_drop (List.mem_of_mem_take hl))
            obtain ⟨i, j, row, e1, e2, e3⟩ := flatten_at h6' hk
            have hin : i < n := by have := (List.getElem?_eq_some_iff.1 e2).1; rw [hlen] at this; exact this
            rw [List.getElem?_take, if_pos hin, List.getElem?_drop] at e2
            obtain ⟨y, hy, hR⟩ := h7 (lo + i) row e2 j d e3
            have hne : q = lo * s2 := hq2 (by omega)
            refine ⟨(⟨b, o, none⟩ : Addr).add (lo * s2), y, by rw [hne]; rfl, ?_, hR⟩
            rw [add_mk, add_mk, h2.cell, ← hy, e1]
            congr 1
            rw [Nat.add_mul]; omega
    · cases h
  · cases h

/-- the first cells of it -/
theorem src_first (hI : Inv C S w ρ R) {size m : Nat} {x : Value} {av : AV} {rows : List (List Pd)} (hr : RdA S w ρ x av) (h : srcRows R size av = some rows) (hsz : ∀ l, l ∈ rows → l.length = size) (hm : m ≤ rows.length) :
    ∃ b c vs, x = .slice b rows.length c ∧ (∀ w2 : World, (∀ a, w2.cell? a = w.cell? a) → (Builtin.firstCells size m x).run P w2 = .ok vs w2) ∧ All2 (RdP S w) vs.toList (rows.take m).flatten := by
  obtain ⟨b, c, hform, hcell⟩ := src_cells hI hr h hsz
  have hsz' : ∀ l, l ∈ rows.take m → l.length = size := fun l hl => hsz l (List.mem_of_mem_take hl)
  have hfl : (rows.take m).flatten.length = m * size := by rw [flatten_length hsz', List.length_take, Nat.min_eq_left hm]
  have hpre : ∀ (k : Nat) d, (rows.take m).flatten[k]? = some d → rows.flatten[k]? = some d := by
    intro k d hk
    obtain ⟨i, j, row, e1, e2, e3⟩ := flatten_at hsz' hk
    rw [List.getElem?_take] at e2
    split at e2
    · rw [e1]; exact flatten_get hsz e2 e3
    · cases e2
  cases b with
  | none =>
    have hnil : (rows.take m).flatten = [] := by
      cases hf : (rows.take m).flatten with
      | nil => rfl
      | cons d l =>
        obtain ⟨ad, v, e, _⟩ := hcell 0 d (hpre 0 d (by rw [hf]; rfl))
        cases e
    refine ⟨none, c, #[], hform, fun w2 _ => ?_, by rw [hnil]; trivial⟩
    rw [hform]; simp [Builtin.firstCells]
  | some ad =>
    let vs : List Value := (List.range (m * size)).map fun k => (w.cell? (ad.add k)).getD undef
    have hvl : vs.length = m * size := by simp [vs]
    have hvc : ∀ (k : Nat) v, vs[k]? = some v → w.cell? (ad.add k) = some v := by
      intro k v hk
      have hkl : k < m * size := by rw [← hvl]; exact (List.getElem?_eq_some_iff.1 hk).1
      obtain ⟨ad', v', e, hv', _⟩ := hcell k _ (hpre k _ (List.getElem?_eq_getElem (by rw [hfl]; exact hkl)))
      cases e
      simp only [vs] at hk
      rw [List.getElem?_map, List.getElem?_range hkl] at hk
      simp only [Option.map_some, hv', Option.getD_some] at hk
      rw [hv']; exact hk
    refine ⟨some ad, c, vs.toArray, hform, fun w2 h2 => ?_, ?_⟩
    · have hlc := run_loadCells_list (P := P) w2 ad vs (fun j v hv => by rw [h2]; exact hvc j v hv)
      rw [hform]
      simp only [Builtin.firstCells]
      rw [← hvl]; exact hlc
    · refine All2.of_get (by rw [hfl]; exact hvl) fun k v d hv hd => ?_
      obtain ⟨ad', v', e, hv', hR⟩ := hcell k d (hpre k d hd)
      cases e
      rw [hvc k v hv] at hv'; cases hv'; exact hR

/-- what is appended: its cells -/
theorem src_ok (hI : Inv C S w ρ R) {size : Nat} {x : Value} {av : AV} {rows : List (List Pd)} (hr : RdA S w ρ x av) (h : srcRows R size av = some rows) (hsz : ∀ l, l ∈ rows → l.length = size) :
    ∃ b c vs, x = .slice b rows.length c ∧ (∀ w2 : World, (∀ a, w2.cell? a = w.cell? a) → (Builtin.firstCells size rows.length x).run P w2 = .ok vs w2) ∧ All2 (RdP S w) vs.toList rows.flatten := by
  obtain ⟨b, c, vs, h1, h2, h3⟩ := src_first (P := P) hI hr h hsz (Nat.le_refl _)
  rw [List.take_length] at h3
  exact ⟨b, c, vs, h1, h2, h3⟩

/-- a thing passes into another: its block is written, or new ones are made -/
theorem Inv.move (h : Inv C S w ρ R) {i : Nat} {r r' : Res} {v v' : Value} (hi : R[i]? = some r) (hv : ρ[i]? = some v)
    (hw : ∀ k, k < w.heap.size → ¬ r.foot v k → w'.heap[k]? = w.heap[k]?) (hsz : w.heap.size ≤ w'.heap.size) (ho : w'.os = w.os) (ht : Tp w w') (hp : w'.output = w.output)
    (hf : ∀ k, r'.foot v' k → r.foot v k ∨ w.heap.size ≤ k ∧ k < w'.heap.size) (hok : r'.ok S w' (ρ ++ [v']) v') : Inv C S w' (ρ ++ [v']) (R.set i .non ++ [r']) := by
  have hS : ∀ k, S k → w'.heap[k]? = w.heap[k]? := fun k hk => hw k (h.sup k hk).1 (fun e => (h.own i r v k hi hv e).1 hk)
  have key : ∀ (j : Nat) r1 v1, (R.set i .non ++ [r'])[j]? = some r1 → (ρ ++ [v'])[j]? = some v1 → (j = R.length ∧ r1 = r' ∧ v1 = v') ∨ r1 = .non ∨ (j ≠ i ∧ R[j]? = some r1 ∧ ρ[j]? = some v1) := by
    intro j r1 v1 h1 h2
    rcases get_snoc h1 with h1 | ⟨rfl, rfl⟩
    · rcases get_snoc h2 with h2 | ⟨rfl, rfl⟩
      · rw [List.getElem?_set] at h1
        split at h1
        · split at h1
          · cases h1; exact .inr (.inl rfl)
          · cases h1
        · rename_i e
          exact .inr (.inr ⟨fun e' => e e'.symm, h1, h2⟩)
      · have := (List.getElem?_eq_some_iff.1 h1).1; simp at this; rw [h.len] at this; omega
    · rcases get_snoc h2 with h2 | ⟨_, rfl⟩
      · have := (List.getElem?_eq_some_iff.1 h2).1; simp at this; rw [h.len] at this; omega
      · exact .inl ⟨by simp, rfl, rfl⟩
  have cross : ∀ (j : Nat) r1 v1 b, j ≠ i → R[j]? = some r1 → ρ[j]? = some v1 → r1.foot v1 b → r'.foot v' b → False := by
    intro j r1 v1 b hj h1 h2 h3 h4
    rcases hf b h4 with h5 | h5
    · exact h.dis j i r1 r v1 v b hj h1 hi h2 hv h3 h5
    · have := (h.own j r1 v1 b h1 h2 h3).2.1; omega
  refine ⟨by simp [h.len], ?_, ?_, ?_, h.sub, ?_, ?_, Nat.le_trans h.size hsz, ho.trans h.os, ht.trans h.tape, hp.trans h.output, h.pre.trans (Pre.append _ _), h.gl⟩
  · intro j r1 v1 h1 h2
    rcases key j r1 v1 h1 h2 with ⟨_, rfl, rfl⟩ | rfl | ⟨hj, g1, g2⟩
    · exact hok
    · exact .inr trivial
    · exact (h.ok j r1 v1 g1 g2).mono (fun _ h => h) hS (Pre.append _ _) fun b hb => hw b (h.own j r1 v1 b g1 g2 hb).2.1 fun e => h.dis j i r1 r v1 v b hj g1 hi g2 hv hb e
  · intro j k r1 r2 v1 v2 b hjk h1 h2 h3 h4 h5 h6
    rcases key j r1 v1 h1 h3 with ⟨ej, er, ev⟩ | rfl | ⟨hj, g1, g2⟩
    · rcases key k r2 v2 h2 h4 with ⟨ek, _, _⟩ | rfl | ⟨hk, m1, m2⟩
      · exact hjk (ej.trans ek.symm)
      · simp [Res.foot] at h6
      · subst er; subst ev; exact cross k r2 v2 b hk m1 m2 h6 h5
    · simp [Res.foot] at h5
    · rcases key k r2 v2 h2 h4 with ⟨ek, er, ev⟩ | rfl | ⟨hk, m1, m2⟩
      · subst er; subst ev; exact cross j r1 v1 b hj g1 g2 h5 h6
      · simp [Res.foot] at h6
      · exact h.dis j k r1 r2 v1 v2 b hjk g1 m1 g2 m2 h5 h6
  · intro j r1 v1 b h1 h2 h3
    rcases key j r1 v1 h1 h2 with ⟨_, rfl, rfl⟩ | rfl | ⟨hj, g1, g2⟩
    · rcases hf b h3 with h5 | h5
      · obtain ⟨o1, o2, o3⟩ := h.own i r v b hi hv h5
        exact ⟨o1, Nat.lt_of_lt_of_le o2 hsz, o3⟩
      · exact ⟨fun hb => by have := (h.sup b hb).1; omega, h5.2, .inr (Nat.le_trans h.size h5.1)⟩
    · simp [Res.foot] at h3
    · obtain ⟨o1, o2, o3⟩ := h.own j r1 v1 b g1 g2 h3
      exact ⟨o1, Nat.lt_of_lt_of_le o2 hsz, o3⟩
  · intro b hb
    exact ⟨Nat.lt_of_lt_of_le (h.sup b hb).1 hsz, (h.sup b hb).2⟩
  · intro b hb hnf
    refine (hw b (Nat.lt_of_lt_of_le hb h.size) fun e => ?_).trans (h.frm b hb hnf)
    rcases (h.own i r v b hi hv e).2.2 with k | k
    · exact hnf k
    · omega

theorem tyBytes {e : TypeId} {size bytes : Nat} {z : Value} (hs : tySize P e = some size) (hb : (P.info? e).map (·.bytes) = some bytes) (hz : tyZero P e = some z) :
    ∃ i, P.info? e = some i ∧ i.size = size ∧ i.bytes = bytes ∧ i.zero = some z := by
  unfold tySize at hs
  unfold tyZero at hz
  cases hi : P.info? e with
  | none => rw [hi] at hs; cases hs
  | some i =>
    rw [hi] at hs hb hz
    simp at hs hb hz
    exact ⟨i, rfl, hs, hb, hz⟩

/-- append with room -/
theorem run_app_room {t ty e : TypeId} {i : TypeInfo} (ht : P.underlying t = some (.slice e)) (hi : P.info? e = some i) {g o n cap : Nat} {cur : Array Value} (hg : Blk w g cur e)
    {x : Value} {b2 : Option Addr} {m c2 : Nat} {news : Array Value} (hx : x = .slice b2 m c2) (hf : (Builtin.firstCells i.size m x).run P w = .ok news w) (h1 : ∀ u, u ∈ news.toList → u.oneCell' = true)
    (hroom : n + m ≤ cap) (hfit : o + n * i.size + news.size ≤ cur.size) :
    (Builtin.append_ #[t, t] ty #[.slice (some ⟨g, o, none⟩) n cap, x]).run P w =
      .ok (.slice (some ⟨g, o, none⟩) (n + m) cap) (w.setRow g (cur.toList.take (o + n * i.size) ++ news.toList ++ cur.toList.drop (o + n * i.size + news.toList.length)).toArray) := by
  have hst := run_storeCells' (P := P) (w := w) (g := g) (o := o + n * i.size) (t := e) (vs := news.toList) (cur := cur) hg (by simpa using hfit) h1
  subst hx
  simp [Builtin.append_, run_underlying ht, sizeOf, typeInfo, hi, Builtin.lenOf, hroom, hf, add_mk]
  simp at hst
  rw [hst]
  rfl

/-- append without room -/
theorem run_app_grow {t ty e : TypeId} {i : TypeInfo} {z : Value} (ht : P.underlying t = some (.slice e)) (hi : P.info? e = some i) (hz : i.zero = some z) {b1 : Option Addr} {n cap : Nat} {olds news : Array Value}
    (ho : (Builtin.firstCells i.size n (.slice b1 n cap)).run P w.drew = .ok olds w.drew)
    {x : Value} {b2 : Option Addr} {m c2 : Nat} (hx : x = .slice b2 m c2) (hf : (Builtin.firstCells i.size m x).run P w.drew = .ok news w.drew)
    (hroom : ¬ n + m ≤ cap) (h63 : ((n + m : Nat) : Int) ≤ 9223372036854775807) (hfit : Builtin.nextslicecap (n + m) cap * i.bytes ≤ 281474976710656) :
    (Builtin.append_ #[t, t] ty #[.slice b1 n cap, x]).run P w =
      .ok (.slice (some ⟨w.heap.size, 0, none⟩) (n + m) (grownCap w (n + m) cap e))
        (w.drew.alloc (.cells (olds ++ news ++ Builtin.zeroCells z.cells (grownCap w (n + m) cap e - (n + m))) e)) := by
  have h63' : ¬ (9223372036854775807 < ((n : Int) + (m : Int))) := by omega
  have h48' : ¬ (281474976710656 < Builtin.nextslicecap (n + m) cap * i.bytes) := by omega
  subst hx
  simp [Builtin.append_, run_underlying ht, sizeOf, typeInfo, zeroValue, hi, hz, Builtin.lenOf, hroom, h63', h48', Question.forced, hf, ho, newRow, grownCap]
end
end Go.SL
