import Derived.Test.YtkngbnedbgndoaaGreatPN
namespace Go.Proofs.YtkngbnedbgndoaaGreat
open Go.SL
theorem erase_ins {l : List api_Part} {n : Nat} {x : api_Part} (h : l[n]? = some x) : insP (l.take n ++ l.drop (n + 1)) n x = l := by
 have hn := (List.getElem?_eq_some_iff.1 h).1
 have ht : (l.take n).length = n := by simp; omega
 unfold insP
 rw [List.take_append_of_le_length (by omega), List.take_take, Nat.min_self, List.drop_append_of_le_length (by omega), List.drop_of_length_le (by omega), List.nil_append]
 conv => rhs; rw [← List.take_append_drop n l]
 rw [List.drop_eq_getElem_cons hn]
 have : l[n] = x := by rw [List.getElem?_eq_getElem hn] at h; cases h; rfl
 rw [this]
theorem erase_get {l : List api_Part} {n j : Nat} (hn : n < l.length) {y : api_Part} (h : (l.take n ++ l.drop (n + 1))[j]? = some y) : (j < n ∧ l[j]? = some y) ∨ (n ≤ j ∧ l[j + 1]? = some y) := by
 have ht : (l.take n).length = n := by simp; omega
 rw [List.getElem?_append] at h
 split at h
 ·rename_i h1
  rw [ht] at h1
  rw [List.getElem?_take, if_pos h1] at h
  exact .inl ⟨h1, h⟩
 ·rename_i h1
  rw [ht] at h1 h
  rw [List.getElem?_drop] at h
  refine .inr ⟨by omega, ?_⟩
  rw [← h]; congr 1; omega
theorem erase_ok {b : api_Board} (h : BoardOk b) {l : List api_Part} (hl : BrokenOk b l) {n : Nat} (hn : n < l.length) : BrokenOk b (l.take n ++ l.drop (n + 1)) := by
 have hs := sorted_of h hl
 have hsm : ∀ y, y ∈ l → PartSmall y := fun y hy => (hl.mem y hy).small h
 have hlen := hl.len
 refine ⟨by simp; omega, fun y hy => ?_, fun j y z hy hz => ?_⟩
 ·rcases List.mem_append.1 hy with hy | hy
  ·exact hl.mem y (List.mem_of_mem_take hy)
  ·exact hl.mem y (List.mem_of_mem_drop hy)
 ·rcases erase_get hn hy with ⟨a1, a2⟩ | ⟨a1, a2⟩ <;> rcases erase_get hn hz with ⟨b1, b2⟩ | ⟨b1, b2⟩
  ·exact hl.asc j y z a2 b2
  ·exact (lt_ks (hsm y (List.mem_of_getElem? a2)) (hsm z (List.mem_of_getElem? b2))).2 (hs j (j + 1 + 1) y z (by omega) a2 b2)
  ·omega
  ·exact hl.asc (j + 1) y z a2 b2
theorem erase_at {b : api_Board} (h : BoardOk b) {l : List api_Part} (hl : BrokenOk b l) {n : Nat} {x : api_Part} (hx : l[n]? = some x) : At (l.take n ++ l.drop (n + 1)) x n ∧ (l.take n ++ l.drop (n + 1))[n]? ≠ some x := by
 have hs := sorted_of h hl
 have hn := (List.getElem?_eq_some_iff.1 hx).1
 refine ⟨⟨by simp; omega, fun j y hj hy => ?_, fun j y hj hy => ?_⟩, fun e => ?_⟩
 ·rcases erase_get hn hy with ⟨_, a2⟩ | ⟨a1, _⟩
  ·exact hs j n y x hj a2 hx
  ·omega
 ·rcases erase_get hn hy with ⟨a1, _⟩ | ⟨_, a2⟩
  ·omega
  ·have := hs n (j + 1) x y (by omega) hx a2; omega
 ·rcases erase_get hn e with ⟨a1, _⟩ | ⟨_, a2⟩
  ·omega
  ·have := hs n (n + 1) x x (by omega) hx a2; omega
theorem fail_ok {b : api_Board} (h : BoardOk b) {p : api_Power} (hp : StateOk b p) (t : Int) {x : api_Part} (hx : PartIn b x) (v : Bool) : Ok (F149s1 ⟨b, p, t⟩ x v) (ActSo b) := by
 obtain ⟨n, hat⟩ := at_ex h hp.brk hx
 have hlen := hp.brk.len
 have hsearch := search_ok (sorted_of h hp.brk) (fun y hy => (hp.brk.mem y hy).small h) (hx.small h) (by omega)
 have hbad : ∀ (hv : (p.Broken[n]? = some x) ↔ v = true), Ok (F149s1 ⟨b, p, t⟩ x v) (ActSo b) := by
  intro hv
  unfold F149s1
  refine hsearch.bind fun y hy => ?_
  obtain ⟨m, e1, hat2, hf⟩ := hy
  have e2 := hat.uniq hat2
  subst e2
  have : y.2 = v := by
   rw [Bool.eq_iff_iff]; exact hf.trans hv
  rw [this]
  exact Ok.cond (fun _ => Ok.pure (.inl (by simp))) (fun hc => by simp at hc)
 by_cases hin : p.Broken[n]? = some x
 ·cases v with
  | true => exact hbad ⟨fun _ => rfl, fun _ => hin⟩
  | false =>
   have hn := (List.getElem?_eq_some_iff.1 hin).1
   have he := erase_at h hp.brk hin
   have hq : StateOk b ⟨p.Closed, p.Sources, p.Limits, p.Broken.take n ++ p.Broken.drop (n + 1)⟩ := { ncl := hp.ncl, nso := hp.nso, nli := hp.nli, run := hp.run, lim := hp.lim, one := hp.one, brk := erase_ok h hp.brk hn }
   have := mend_eq h (p := ⟨p.Closed, p.Sources, p.Limits, p.Broken.take n ++ p.Broken.drop (n + 1)⟩) hq.brk (q := p) hx t he.1 he.2 (by simp; omega) (erase_ins hin).symm hp.nso
   rw [this]
   refine Ok.pure (.inr ?_)
   exact withS hq (failS_length _ _ _) (failS_ok hp.run (fun hk => by have := hp.nso; unfold PartIn at hx; omega) (by omega))
 ·cases v with
  | false => exact hbad ⟨fun e => absurd e hin, fun e => by cases e⟩
  | true =>
   by_cases hl : p.Broken.length < 32
   ·rw [fail_eq h hp hx t hat hin hl]
    exact Ok.pure (.inr (failedP_ok h hp hx hat hin hl))
   ·unfold F149s1
    refine hsearch.bind fun y _ => Ok.cond (fun _ => Ok.pure (.inl (by simp))) (fun _ => Ok.cond (fun _ => Ok.pure (.inl (by simp))) (fun hc => ?_))
    simp [c149s1_0] at hc; omega
def emptyP : api_Power := ⟨[], [], [], []⟩
theorem known_ok {b : api_Board} (a : api_Act) : Ok (F69 b a) fun y => y = true → ((a.Kind = 1 ∨ a.Kind = 2) → PartIn b ⟨2, a.Unit⟩) ∧ ((a.Kind = 3 ∨ a.Kind = 4) → PartIn b ⟨1, a.Unit⟩) ∧ (a.Kind = 5 → PartIn b ⟨4, a.Unit⟩) ∧ ((a.Kind = 8 ∨ a.Kind = 9) → PartIn b ⟨a.Value, a.Unit⟩) := by
 unfold F69
 refine Ok.andThen (A := fun z => z = true ↔ (a.Kind = 1 ∨ a.Kind = 2)) (B := fun (_ : Unit) => False) ?_ (fun z hz => ?_) (fun _ h => h.elim)
 ·unfold F69_m0
  refine Ok.cond (fun hk => Ok.nextE ?_) (fun hk => Ok.nextE ?_)
  ·simp only [beq_iff_eq] at hk ⊢; omega
  ·simp only [beq_eq_false_iff_ne, ne_eq] at hk
   simp only [beq_iff_eq]; omega
 refine Ok.cond (fun hq => Ok.pure fun hk => ?_) (fun hq => ?_)
 ·have := hz.1 hq
  have hk := (part_iff b _ _).1 hk
  exact ⟨fun _ => hk, fun e => by omega, fun e => by omega, fun e => by omega⟩
 have hn12 : ¬ (a.Kind = 1 ∨ a.Kind = 2) := fun e => by rw [hz.2 e] at hq; cases hq
 refine Ok.andThen (A := fun z => z = true ↔ (a.Kind = 3 ∨ a.Kind = 4)) (B := fun (_ : Unit) => False) ?_ (fun z hz => ?_) (fun _ h => h.elim)
 ·unfold F69_m1
  refine Ok.cond (fun hk => Ok.nextE ?_) (fun hk => Ok.nextE ?_)
  ·simp only [beq_iff_eq] at hk ⊢; omega
  ·simp only [beq_eq_false_iff_ne, ne_eq] at hk
   simp only [beq_iff_eq]; omega
 refine Ok.cond (fun hq => Ok.pure fun hk => ?_) (fun hq => ?_)
 ·have := hz.1 hq
  have hk := (part_iff b _ _).1 hk
  exact ⟨fun e => by omega, fun _ => hk, fun e => by omega, fun e => by omega⟩
 have hn34 : ¬ (a.Kind = 3 ∨ a.Kind = 4) := fun e => by rw [hz.2 e] at hq; cases hq
 refine Ok.cond (fun hq => Ok.pure fun hk => ?_) (fun hq5 => Ok.cond (fun hq => Ok.pure fun _ => ?_) (fun hq6 => Ok.cond (fun hq => Ok.pure fun hk => ?_) (fun hq8 => Ok.cond (fun hq => Ok.pure fun hk => ?_) (fun hq9 => Ok.pure fun _ => ?_))))
 ·simp only [beq_iff_eq] at hq
  have hk := (part_iff b _ _).1 hk
  exact ⟨fun e => by omega, fun e => by omega, fun _ => hk, fun e => by omega⟩
 ·simp only [beq_iff_eq] at hq
  exact ⟨fun e => by omega, fun e => by omega, fun e => by omega, fun e => by omega⟩
 ·have hk := (part_iff b _ _).1 hk
  simp only [beq_iff_eq] at hq
  exact ⟨fun e => by omega, fun e => by omega, fun e => by omega, fun _ => hk⟩
 ·have hk := (part_iff b _ _).1 hk
  simp only [beq_iff_eq] at hq
  exact ⟨fun e => by omega, fun e => by omega, fun e => by omega, fun _ => hk⟩
 ·simp only [beq_eq_false_iff_ne, ne_eq] at hq5 hq8 hq9
  exact ⟨fun e => by omega, fun e => by omega, fun e => by omega, fun e => by omega⟩
theorem do_ok {b : api_Board} (h : BoardOk b) {p : api_Power} (hp : StateOk b p) {t : Int} (ht : 0 ≤ t ∧ t ≤ 2147483648) {a : api_Act} (hk : 1 ≤ a.Kind ∧ a.Kind ≤ 9)
  (hw : ((a.Kind = 1 ∨ a.Kind = 2) → PartIn b ⟨2, a.Unit⟩) ∧ ((a.Kind = 3 ∨ a.Kind = 4) → PartIn b ⟨1, a.Unit⟩) ∧ (a.Kind = 5 → PartIn b ⟨4, a.Unit⟩) ∧ ((a.Kind = 8 ∨ a.Kind = 9) → PartIn b ⟨a.Value, a.Unit⟩)) : Ok (F71s1 ⟨b, p, t⟩ a) (ActSo b) := by
 obtain ⟨w1, w2, w3, w4⟩ := hw
 unfold PartIn at w2 w3
 dsimp only at w2 w3
 unfold F71s1
 refine Ok.cond (fun _ => (close_ok h hp _).bind fun y hy => Ok.pure hy) (fun q1 => ?_)
 refine Ok.cond (fun _ => (open_ok h hp _).bind fun y hy => Ok.pure hy) (fun q2 => ?_)
 refine Ok.cond (fun _ => (match_ok h hp _ _).bind fun y hy => Ok.pure hy) (fun q6 => ?_)
 refine Ok.cond (fun q => ?_) (fun q3 => ?_)
 ·simp only [beq_iff_eq] at q
  exact (start_ok h hp ht (by omega) (by omega)).bind fun y hy => Ok.pure hy
 refine Ok.cond (fun q => ?_) (fun q4 => ?_)
 ·simp only [beq_iff_eq] at q
  exact (stop_ok h hp (by omega) (by omega)).bind fun y hy => Ok.pure hy
 refine Ok.cond (fun q => ?_) (fun q5 => ?_)
 ·simp only [beq_iff_eq] at q
  exact (limit_ok hp (by omega) (by omega)).bind fun y hy => Ok.pure hy
 refine Ok.cond (fun _ => (wait_ok h hp t).bind fun y hy => Ok.pure (.inr hy)) (fun q7 => ?_)
 simp only [beq_eq_false_iff_ne, ne_eq] at q1 q2 q3 q4 q5 q6 q7
 exact (fail_ok h hp t (w4 (by omega)) _).bind fun y hy => Ok.pure hy
theorem act_ok {b : api_Board} (h : BoardOk b) {p : api_Power} (hp : StateOk b p) (t : Int) (a : api_Act) : Ok (F19 b p t a) fun y => (y.2 ≠ 0 ∧ y.1 = emptyP) ∨ (y.2 = 0 ∧ StateOk b y.1) := by
 unfold F19
 rw [state_ok h hp, clone_eq h hp]
 simp only [Option.bind_some]
 refine Ok.cond (fun hc => by simp at hc) (fun _ => Ok.cond (fun _ => Ok.pure (.inl ⟨by simp, rfl⟩)) (fun hr => ?_))
 simp only [c19_0, Bool.or_eq_false_iff, decide_eq_false_iff_not] at hr
 refine (known_ok a).bind fun y hy => Ok.cond (fun _ => Ok.pure (.inl ⟨by simp, rfl⟩)) (fun hk => ?_)
 simp only [Bool.not_eq_false'] at hk
 refine (do_ok h hp (by omega) (by omega) (hy hk)).bind fun z hz => Ok.cond (fun hc => Ok.pure (.inl ⟨by simpa using hc, rfl⟩)) (fun hc => ?_)
 simp only [bne_eq_false_iff_eq] at hc
 rcases hz with hz | hz
 ·exact absurd hc hz
 ·exact Ok.pure (.inr ⟨rfl, hz⟩)
theorem reach_ok {b : api_Board} (h : BoardOk b) {p : api_Power} (hp : StateOk b p) {n : Int} (h0 : 0 ≤ n) (h1 : n < b.Buses) : Ok (F171 b p n) fun y => y ≠ [] ∧ y.length ≤ 6 := by
 have hbu := h.buses
 have hbl := h.brl
 have hncl := hp.ncl
 unfold F171
 refine (Ok.mkI (by omega) (by omega)).bind fun y hy => ?_
 have hyl : y.length = b.Buses.toNat := by rw [hy]; simp
 refine (Ok.getB h0 (by omega)).bind fun _ _ => (Ok.setI h0 (by omega)).bind fun z hz => ?_
 have hzl : z.length = b.Buses.toNat := by rw [hz]; simpa using hyl
 have hzn : z[n.toNat]? = some true := by rw [hz, List.getElem?_set_self (by omega)]
 clear hz
 refine Ok.andThen (A := fun s => s.length = b.Buses.toNat ∧ s[n.toNat]? = some true) (B := fun (_ : Unit) => False) ?_ (fun s hs => ?_) (fun _ h => h.elim)
 ·refine Ok.foldI0 (I := fun _ s => s.length = b.Buses.toNat ∧ s[n.toNat]? = some true) ⟨hzl, hzn⟩ (fun j x s hx hs => ?_) fun s hs => hs
  unfold F171_l0
  refine (Ok.foldI0 (I := fun _ s => s.length = b.Buses.toNat ∧ s[n.toNat]? = some true) (A := fun s => s.length = b.Buses.toNat ∧ s[n.toNat]? = some true) (B := fun (_ : Unit) => False) hs (fun k u r hu hr => ?_) fun s hs => hs).inner (fun s hs => Ok.next hs) (fun _ h => h.elim)
  have hk := (List.getElem?_eq_some_iff.1 hu).1
  have hcnt : cnt 0 k = (k : Int) := cnt0 (by omega)
  obtain ⟨⟨a0, a1⟩, hkind⟩ := h.br u (List.mem_of_getElem? hu)
  have hB : (u.Kind == 1) = true → 0 ≤ u.B ∧ u.B < b.Buses := fun e => by simp only [beq_iff_eq] at e; omega
  unfold F171_l1
  rw [hcnt]
  refine Ok.bind (P := fun _ => True) (Ok.gT (fun _ => Ok.getB (by omega) (by omega)) fun _ => trivial) fun y7 _ => ?_
  refine Ok.bind (P := fun _ => True) (Ok.gT (fun _ => Ok.getB a0 (by omega)) fun _ => trivial) fun y9 _ => ?_
  refine Ok.bind (P := fun _ => True) (Ok.gT (fun hg => ?_) fun _ => trivial) fun y11 _ => ?_
  ·have h2 := hB (by have := hg.1; simp only [Bool.and_eq_true] at this; exact this.1)
   exact Ok.getB h2.1 (by omega)
  refine Ok.cond (fun hq => ?_) (fun _ => Ok.next hr)
  simp only [c171_8, Bool.and_eq_true] at hq
  have h2 := hB hq.1.1
  have hset : ∀ (r : List Bool) (m : Nat), r.length = b.Buses.toNat → r[n.toNat]? = some true → (r.set m true)[n.toNat]? = some true := fun r m hl hr => by
   rw [List.getElem?_set]
   split
   ·rw [if_pos (by omega)]
   ·exact hr
  refine (Ok.getB a0 (by omega)).bind fun _ _ => (Ok.setI a0 (by omega)).bind fun r1 e1 => ?_
  have l1 : r1.length = b.Buses.toNat := by rw [e1]; simpa using hr.1
  have t1 : r1[n.toNat]? = some true := by rw [e1]; exact hset _ _ hr.1 hr.2
  refine (Ok.getB h2.1 (by omega)).bind fun _ _ => (Ok.setI h2.1 (by omega)).bind fun r2 e2 => Ok.next ⟨by rw [e2]; simpa using l1, by rw [e2]; exact hset _ _ l1 t1⟩
 ·refine Ok.andThen (A := fun y => y ≠ [] ∧ y.length ≤ 6) (B := fun (_ : Unit) => False) ?_ (fun y hy => Ok.pure hy) (fun _ h => h.elim)
  refine Ok.foldI0 (I := fun j y => y.length ≤ j ∧ (n.toNat < j → y ≠ [])) ⟨Nat.le_refl _, fun e => by omega⟩ (fun j x y hx hy => ?_) fun y hy => ?_
  ·have hj := (List.getElem?_eq_some_iff.1 hx).1
   unfold F171_l2
   refine Ok.cond (fun hq => ?_) (fun hq => Ok.next ⟨by omega, fun e => ?_⟩)
   ·exact (Ok.appI (by simp; omega)).bind fun w hw => Ok.next ⟨by rw [hw]; simp; omega, fun _ => by rw [hw]; simp⟩
   ·by_cases e2 : n.toNat = j
    ·rw [e2, hx] at hs
     rw [Option.some.inj hs.2] at hq; cases hq
    ·exact hy.2 (by omega)
  ·exact ⟨hy.2 (by omega), by omega⟩
theorem connected15 {b : api_Board} (h : BoardOk b) {p : api_Power} (hp : StateOk b p) {i : Int} (h0 : 0 ≤ i) (h1 : i < b.Sources.length) : Ok (F60 b p i) fun _ => True := by
 have hn := hp.nso
 have hncl := hp.ncl
 unfold F60
 rw [refState h hp]
 simp only [Option.bind_some]
 refine Ok.bind (P := fun _ => True) (Ok.gT (fun _ => Ok.getB h0 (by omega)) fun _ => trivial) fun _ _ => ?_
 refine Ok.cond (fun _ => Ok.pure trivial) (fun _ => ?_)
 rw [of15 h]
 simp only [Option.bind_some]
 obtain ⟨n, rfl⟩ : ∃ n : Nat, i = (n : Int) := ⟨i.toNat, by omega⟩
 have hlen := ofL_brs (b := b) (k := 2) (by decide) n
 have hone := h.one n (by omega)
 refine (Ok.getI (by omega) (by omega)).bind fun v hv => ?_
 obtain ⟨j, x, rfl, hx, _⟩ := ofL_mem (List.mem_of_getElem? hv)
 have hj := (List.getElem?_eq_some_iff.1 hx).1
 refine (Ok.getB (by omega) (by omega)).bind fun _ _ => Ok.cond (fun _ => Ok.pure trivial) (fun _ => ?_)
 exact (Ok.getB (by omega) (by omega)).bind fun _ _ => Ok.pure trivial
theorem fed15 {b : api_Board} (h : BoardOk b) {p : api_Power} (hp : StateOk b p) (i : Int) : Ok (F32 b p i) fun _ => True := by
 have hncl := hp.ncl
 unfold F32
 rw [refState h hp]
 simp only [Option.bind_some]
 refine Ok.cond (fun _ => Ok.pure trivial) (fun _ => ?_)
 rw [of15 h]
 simp only [Option.bind_some]
 refine Ok.andThen (A := fun _ => True) (B := fun _ => True) ?_ (fun _ _ => Ok.pure trivial) (fun _ _ => Ok.pure trivial)
 refine Ok.foldI0 (I := fun _ _ => True) trivial (fun j v s hv _ => ?_) fun _ _ => trivial
 obtain ⟨k, x, rfl, hx, _⟩ := ofL_mem (List.mem_of_getElem? hv)
 have hk := (List.getElem?_eq_some_iff.1 hx).1
 unfold F32_l0
 refine (Ok.getB (by omega) (by omega)).bind fun _ _ => Ok.cond (fun _ => ?_) (fun _ => Ok.next trivial)
 exact (Ok.getB (by omega) (by omega)).bind fun _ _ => Ok.ret trivial
theorem has15 (l : List Int) (x : Int) : Ok (F93 l x) fun _ => True := by
 unfold F93
 refine Ok.andThen (A := fun _ => True) (B := fun _ => True) ?_ (fun _ _ => Ok.pure trivial) (fun _ _ => Ok.pure trivial)
 refine Ok.foldI0 (I := fun _ _ => True) trivial (fun j v s hv _ => ?_) fun _ _ => trivial
 unfold F93_l0
 exact Ok.cond (fun _ => Ok.ret trivial) (fun _ => Ok.next trivial)
def IslOk (b : api_Board) (x : api_Island) : Prop := ∀ i, i ∈ x.Sources → 0 ≤ i ∧ i < b.Sources.length
theorem of15_ok {b : api_Board} (h : BoardOk b) {p : api_Power} (hp : StateOk b p) {n : Int} (h0 : 0 ≤ n) (h1 : n < b.Buses) : Ok (F91 b p n) fun y => y.1.Buses ≠ [] ∧ IslOk b y.1 := by
 have hso := h.sol
 have hco := h.col
 unfold F91
 rw [refState h hp]
 simp only [Option.bind_some]
 refine Ok.cond (fun hc => ?_) (fun _ => ?_)
 ·simp [c91_0] at hc; omega
 refine (reach_ok h hp h0 h1).bind fun y hy => ?_
 refine Ok.andThen (A := fun s => ∀ i : Int, i ∈ s.2 → 0 ≤ i ∧ i < b.Sources.length) (B := fun (_ : Unit) => False) ?_ (fun s hs => ?_) (fun _ h => h.elim)
 ·refine Ok.whileN (fun s => (0 ≤ s.1 ∧ s.1 ≤ (b.Sources.length : Int)) ∧ (s.2.length : Int) ≤ s.1 ∧ ∀ i : Int, i ∈ s.2 → 0 ≤ i ∧ i < b.Sources.length) (fun s => ((b.Sources.length : Int) - s.1).toNat) _ _ ?_ ?_ ?_
  ·exact ⟨by dsimp only; omega, by simp, fun i hi => by cases hi⟩
  ·dsimp only; omega
  ·rintro ⟨i, s⟩ ⟨⟨g1, g2⟩, g3, g4⟩
   dsimp only at g1 g2 g3 g4
   unfold F91_l0 c91_2
   dsimp only
   refine Ok.cond (fun hq => ?_) (fun _ => Ok.brk g4)
   simp only [decide_eq_true_eq] at hq
   have e1 : w64 (i + 1) = i + 1 := w64_in (by omega)
   rw [e1]
   refine (connected15 h hp g1 hq).bind fun v _ => Ok.bind (P := fun _ => True) (Ok.gT (fun _ => has15 _ _) fun _ => trivial) fun _ _ => ?_
   refine Ok.cond (fun _ => ?_) (fun _ => Ok.next ⟨⟨by dsimp only; omega, by dsimp only; omega, g4⟩, by dsimp only; omega⟩)
   refine (Ok.appI (by simp; omega)).bind fun w hw => Ok.next ⟨⟨by dsimp only; omega, by rw [hw]; simp; omega, fun k hk => ?_⟩, by dsimp only; omega⟩
   rw [hw] at hk
   rcases List.mem_append.1 hk with hk | hk
   ·exact g4 k hk
   ·simp only [List.mem_singleton] at hk; subst hk; omega
 ·refine Ok.andThen (A := fun _ => True) (B := fun (_ : Unit) => False) ?_ (fun _ _ => Ok.pure ⟨hy.1, hs⟩) (fun _ h => h.elim)
  refine Ok.whileN (fun s => (0 ≤ s.1 ∧ s.1 ≤ (b.Consumers.length : Int)) ∧ (s.2.length : Int) ≤ s.1) (fun s => ((b.Consumers.length : Int) - s.1).toNat) _ _ ?_ ?_ ?_
  ·exact ⟨by dsimp only; omega, by simp⟩
  ·dsimp only; omega
  ·rintro ⟨i, s⟩ ⟨⟨g1, g2⟩, g3⟩
   dsimp only at g1 g2 g3
   unfold F91_l1 c91_4
   dsimp only
   refine Ok.cond (fun hq => ?_) (fun _ => Ok.brk trivial)
   simp only [decide_eq_true_eq] at hq
   have e1 : w64 (i + 1) = i + 1 := w64_in (by omega)
   rw [e1]
   refine (fed15 h hp i).bind fun v _ => Ok.bind (P := fun _ => True) (Ok.gT (fun _ => has15 _ _) fun _ => trivial) fun _ _ => ?_
   refine Ok.cond (fun _ => ?_) (fun _ => Ok.next ⟨⟨by dsimp only; omega, by dsimp only; omega⟩, by dsimp only; omega⟩)
   exact (Ok.appI (by simp; omega)).bind fun w hw => Ok.next ⟨⟨by dsimp only; omega, by rw [hw]; simp; omega⟩, by dsimp only; omega⟩
theorem islands15 {b : api_Board} (h : BoardOk b) {p : api_Power} (hp : StateOk b p) : Ok (F40 b p) fun y => ∀ x, x ∈ y → IslOk b x := by
 have hbu := h.buses
 unfold F40
 rw [refState h hp]
 simp only [Option.bind_some]
 refine Ok.cond (fun hc => by simp at hc) (fun _ => ?_)
 refine Ok.andThen (A := fun s => ∀ x, x ∈ s.2 → IslOk b x) (B := fun (_ : Unit) => False) ?_ (fun s hs => Ok.pure hs) (fun _ h => h.elim)
 refine Ok.whileN (fun s => (0 ≤ s.1 ∧ s.1 ≤ b.Buses) ∧ (s.2.length : Int) ≤ s.1 ∧ ∀ x, x ∈ s.2 → IslOk b x) (fun s => (b.Buses - s.1).toNat) _ _ ?_ ?_ ?_
 ·exact ⟨by dsimp only; omega, by simp, fun i hi => by cases hi⟩
 ·dsimp only; omega
 ·rintro ⟨i, s⟩ ⟨⟨g1, g2⟩, g3, g4⟩
  dsimp only at g1 g2 g3 g4
  unfold F40_l0
  dsimp only
  refine Ok.cond (fun hq => ?_) (fun _ => Ok.brk g4)
  simp only [decide_eq_true_eq] at hq
  have e1 : w64 (i + 1) = i + 1 := w64_in (by omega)
  rw [e1]
  refine (of15_ok h hp g1 hq).bind fun y hy => ?_
  have hpos : 0 < y.1.Buses.length := List.length_pos_iff.2 hy.1
  refine (Ok.getB (by omega) (by omega)).bind fun _ _ => Ok.cond (fun _ => ?_) (fun _ => Ok.next ⟨⟨by dsimp only; omega, by dsimp only; omega, g4⟩, by dsimp only; omega⟩)
  refine (Ok.appI (by simp; omega)).bind fun w hw => Ok.next ⟨⟨by dsimp only; omega, by rw [hw]; simp; omega, fun k hk => ?_⟩, by dsimp only; omega⟩
  rw [hw] at hk
  rcases List.mem_append.1 hk with hk | hk
  ·exact g4 k hk
  ·simp only [List.mem_singleton] at hk; subst hk; exact hy.2
theorem follow16 {b : api_Board} (h : BoardOk b) {p : api_Power} (hp : StateOk b p) : Ok (F73 b p) fun y => y.2 = 0 ∧ StateOk b y.1 := by
 have hn := hp.nso
 unfold F73
 rw [refState h hp]
 simp only [Option.bind_some]
 refine Ok.cond (fun hc => by simp at hc) (fun _ => ?_)
 refine Ok.bind (P := fun y => StateOk b y) ?_ fun y hy => Ok.pure ⟨rfl, hy⟩
 unfold F150
 rw [copy_eq h hp]
 simp only [Option.bind_some]
 refine (islands15 h hp).bind fun l hl => ?_
 refine Ok.andThen (A := fun s => s.length = p.Sources.length ∧ ∀ x, x ∈ s → RunOk x) (B := fun (_ : Unit) => False) ?_ (fun s hs => Ok.pure (withS hp hs.1 hs.2)) (fun _ h => h.elim)
 refine Ok.foldI0 (I := fun _ s => s.length = p.Sources.length ∧ ∀ x, x ∈ s → RunOk x) ⟨rfl, hp.run⟩ (fun j x s hx hs => ?_) fun s hs => hs
 have hi := hl x (List.mem_of_getElem? hx)
 unfold F150_l0
 refine (Ok.foldI0 (I := fun _ s => s.length = p.Sources.length ∧ ∀ x, x ∈ s → RunOk x) (A := fun s => s.length = p.Sources.length ∧ ∀ x, x ∈ s → RunOk x) (B := fun (_ : Unit) => False) hs (fun k n r hk hr => ?_) fun s hs => hs).inner (fun s hs => Ok.next hs) (fun _ h => h.elim)
 have hnk := hi n (List.mem_of_getElem? hk)
 have hpos : 0 < x.Sources.length := by
  have := (List.getElem?_eq_some_iff.1 hk).1; omega
 obtain ⟨m, hm⟩ : ∃ m, x.Sources[0]? = some m := ⟨_, List.getElem?_eq_getElem hpos⟩
 have hmr := hi m (List.mem_of_getElem? hm)
 have hg0 : getI x.Sources 0 = some m := getI_nat (j := 0) hm
 obtain ⟨u, hu⟩ : ∃ u, p.Sources[m.toNat]? = some u := ⟨_, List.getElem?_eq_getElem (by omega)⟩
 have hgu : getI p.Sources m = some u := by have := getI_nat hu; rwa [Int.toNat_of_nonneg hmr.1] at this
 have hur := hp.run u (List.mem_of_getElem? hu)
 unfold F150_l1
 rw [hg0]
 simp only [Option.bind_some, hgu]
 refine (Ok.getI hnk.1 (by omega)).bind fun v hv => (Ok.setI hnk.1 (by omega)).bind fun r1 e1 => ?_
 have hvr := hr.2 v (List.mem_of_getElem? hv)
 have l1 : r1.length = p.Sources.length := by rw [e1]; simpa using hr.1
 have r1r : ∀ x, x ∈ r1 → RunOk x := by rw [e1]; exact set_run hr.2 ⟨hvr.1, hvr.2.1, hur.2.2.1, hvr.2.2.2⟩
 refine (Ok.getI hnk.1 (by omega)).bind fun w hw => (Ok.setI hnk.1 (by omega)).bind fun r2 e2 => Ok.next ⟨by rw [e2]; simpa using l1, ?_⟩
 have hwr := r1r w (List.mem_of_getElem? hw)
 rw [e2]
 exact set_run r1r ⟨hwr.1, hwr.2.1, hwr.2.2.1, hur.2.2.2⟩
theorem Followed_ok {b : api_Board} (h : BoardOk b) {s : dynposmake_Src} (hs : SrcOk s) : Ok (F23s1 s b) fun y => StateOk b y.1 ∧ SrcOk y.2 := by
 unfold F23s1
 exact (Power_ok h hs).bind fun y hy => (follow16 h hy.1.1).bind fun z hz => Ok.pure ⟨hz.2, hy.2⟩
end Go.Proofs.YtkngbnedbgndoaaGreat
