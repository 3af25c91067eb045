import Derived.Test.YtkngbnedbgndoaaGreatPL
namespace Go.Proofs.YtkngbnedbgndoaaGreat
open Go.SL
theorem Ok.gT {α : Type} {l : List (Bool × Bool)} {x : Option α} {d : α} {P : α → Prop} (hx : AllEq l → Ok x fun _ => True) (hr : ∀ y, P y) : Ok (guardO l x d) P :=
 Ok.guard (fun h => (hx h).mono fun y _ => hr y) fun _ => hr d
theorem Ok.triv {α : Type} {x : Option α} {v : α} (h : x = some v) : Ok x fun _ => True := ⟨v, h, trivial⟩
theorem tune_ok {x like : api_Running} (hx : RunOk x) (hl : RunOk like) : RunOk (tune like x) := ⟨hx.1, hx.2.1, hl.2.2.1, hl.2.2.2⟩
theorem set_run {ss : List api_Running} (h : ∀ x, x ∈ ss → RunOk x) {n : Nat} {y : api_Running} (hy : RunOk y) : ∀ x, x ∈ ss.set n y → RunOk x := fun x hx => by
 rcases List.mem_or_eq_of_mem_set hx with hx | hx
 ·exact h x hx
 ·exact hx ▸ hy
theorem getD_run {ss : List api_Running} (h : ∀ x, x ∈ ss → RunOk x) {n : Nat} (hn : n < ss.length) : RunOk (ss.getD n default) := by
 have : ss.getD n default = ss[n] := by simp [List.getD, List.getElem?_eq_getElem hn]
 rw [this]; exact h _ (List.getElem_mem hn)
theorem setL_run {like : api_Running} (hl : RunOk like) : ∀ (idx : List Int) (ss : List api_Running), (∀ i, i ∈ idx → 0 ≤ i ∧ i < ss.length) → (∀ x, x ∈ ss → RunOk x) → ∀ x, x ∈ setL like idx ss → RunOk x
 | [], _, _, h => h
 | i :: idx, ss, hi, h => by
  have h0 := hi i List.mem_cons_self
  refine setL_run hl idx _ (fun j hj => ?_) (set_run h (tune_ok (getD_run h (by omega)) hl))
  have := hi j (List.mem_cons_of_mem _ hj)
  simpa using this
theorem fold_run {b : api_Board} {p : api_Power} (hp : StateOk b p) : ∀ (l : List api_Island) (s : List api_Running), (∀ x, x ∈ l → ∀ i, i ∈ x.Sources → 0 ≤ i ∧ i < b.Sources.length) → s.length = p.Sources.length → (∀ x, x ∈ s → RunOk x) → ∀ x, x ∈ l.foldl (fstep p) s → RunOk x
 | [], _, _, _, h => h
 | y :: l, s, hi, hs, h => by
  refine fold_run hp l _ (fun x hx => hi x (List.mem_cons_of_mem _ hx)) (by rw [fstep_length, hs]) ?_
  have h0 := hi y List.mem_cons_self
  have hn := hp.nso
  unfold fstep
  split
  ·exact h
  ·rename_i i r e
   rw [e] at h0
   have h1 := h0 i List.mem_cons_self
   rw [e]
   exact setL_run (getD_run hp.run (by omega)) _ _ (fun j hj => by have := h0 j hj; omega) h
theorem follow_run {b : api_Board} {p : api_Power} (hp : StateOk b p) : ∀ x, x ∈ followL b p → RunOk x :=
 fold_run hp _ _ (fun _ hx => isl_src hx) rfl hp.run
theorem withS {b : api_Board} {p : api_Power} (hp : StateOk b p) {ss : List api_Running} (hl : ss.length = p.Sources.length) (hr : ∀ x, x ∈ ss → RunOk x) : StateOk b ⟨p.Closed, ss, p.Limits, p.Broken⟩ where
 ncl := hp.ncl
 nso := hl.trans hp.nso
 nli := hp.nli
 run := hr
 lim := hp.lim
 one := hp.one
 brk := hp.brk
theorem openC {b : api_Board} {p : api_Power} (hp : StateOk b p) (j : Nat) : StateOk b ⟨p.Closed.set j false, p.Sources, p.Limits, p.Broken⟩ where
 ncl := by simpa using hp.ncl
 nso := hp.nso
 nli := hp.nli
 run := hp.run
 lim := hp.lim
 one i hi := by
  refine Nat.le_trans (feeds_le (by simp) (fun k hk => ?_) i) (hp.one i hi)
  rw [List.getElem?_set] at hk
  split at hk
  ·split at hk <;> cases hk
  ·exact hk
 brk := hp.brk
theorem feeds_set {l : List api_Breaker} : ∀ {c : List Bool} {j : Nat} {x : api_Breaker}, l[j]? = some x → ∀ i : Nat, (feeds l (c.set j true) i).length ≤ (feeds l c i).length + (if x.Kind = 3 ∧ x.B = (i : Int) then 1 else 0) := by
 induction l with
 | nil => intro c j x h; simp at h
 | cons y l ih =>
  intro c j x h i
  cases c with
  | nil => simp [feeds]
  | cons v c =>
   cases j with
   | zero =>
    simp only [List.getElem?_cons_zero, Option.some.injEq] at h
    subst h
    simp only [List.set_cons_zero, feeds, List.zip_cons_cons, List.filter_cons]
    by_cases hk : y.Kind = 3 ∧ y.B = (i : Int)
    ·rw [if_pos hk]
     simp only [hk.1, hk.2, beq_self_eq_true, Bool.true_and, Bool.and_true, if_true]
     split <;> simp
    ·rw [if_neg hk]
     have : (y.Kind == 3 && y.B == (i : Int)) = false := by
      rw [Bool.eq_false_iff]; intro e
      simp only [Bool.and_eq_true, beq_iff_eq] at e
      exact hk e
     simp [this]
   | succ j =>
    simp only [List.getElem?_cons_succ] at h
    have := ih (c := c) h i
    simp only [List.set_cons_succ, feeds, List.zip_cons_cons, List.filter_cons] at this ⊢
    split <;> simp at this ⊢ <;> omega
theorem feeds_led {b : api_Board} {p : api_Power} {i : Nat} (h : ledO b p 3 (i : Int) = none) : feeds b.Breakers p.Closed i = [] := by
 unfold ledO at h
 rw [Option.map_eq_none_iff, List.find?_eq_none] at h
 unfold feeds
 rw [List.filter_eq_nil_iff]
 exact h
theorem closeC {b : api_Board} {p : api_Power} (hp : StateOk b p) {j : Nat} {x : api_Breaker} (hx : b.Breakers[j]? = some x) (hf : x.Kind = 3 → ledO b p 3 x.B = none) : StateOk b ⟨p.Closed.set j true, p.Sources, p.Limits, p.Broken⟩ where
 ncl := by simpa using hp.ncl
 nso := hp.nso
 nli := hp.nli
 run := hp.run
 lim := hp.lim
 one i hi := by
  have h1 := feeds_set (c := p.Closed) hx i
  have h2 := hp.one i hi
  dsimp only
  split at h1
  ·rename_i hk
   have h3 := hf hk.1
   rw [hk.2] at h3
   rw [feeds_led h3] at h1
   simpa using h1
  ·omega
 brk := hp.brk
theorem open_ok {b : api_Board} (h : BoardOk b) {p : api_Power} (hp : StateOk b p) (i : Int) : Ok (F143 b p i) fun y => y.2 ≠ 0 ∨ StateOk b y.1 := by
 have hbl : p.Broken.length ≤ 1000 := by have := hp.brk.len; omega
 have hn := hp.ncl
 unfold F143
 rw [state_ok h hp, clone_eq h hp]
 simp only [Option.bind_some]
 refine Ok.cond (fun hc => by simp at hc) (fun _ => Ok.cond (fun _ => Ok.pure (.inl (by simp))) (fun hr => ?_))
 simp only [c143_0, Bool.or_eq_false_iff, decide_eq_false_iff_not] at hr
 refine (Ok.getI (by omega) (by omega)).bind fun v _ => Ok.bind (P := fun _ => True) (Ok.gT (fun _ => Ok.triv (broken_eq hbl _ _)) fun _ => trivial) fun _ _ => ?_
 refine Ok.cond (fun _ => Ok.pure (.inl (by simp))) (fun _ => ?_)
 exact (Ok.getI (by omega) (by omega)).bind fun _ _ => (Ok.setI (by omega) (by omega)).bind fun z hz => Ok.pure (.inr (by rw [hz]; exact openC hp _))
theorem of_ok {b : api_Board} (h : BoardOk b) {p : api_Power} (hp : StateOk b p) (n : Int) : Ok (F176 b p n) fun y => ∀ i, i ∈ y.1.Sources → 0 ≤ i ∧ i < p.Sources.length := by
 have hn := hp.nso
 unfold F176
 rw [islands_eq h hp]
 simp only [Option.bind_some]
 refine Ok.andThen (A := fun _ => True) (B := fun y => ∀ i, i ∈ y.1.Sources → 0 ≤ i ∧ i < p.Sources.length) ?_ (fun _ _ => Ok.pure (fun i hi => by cases hi)) (fun v hv => Ok.pure hv)
 refine Ok.foldI0 (I := fun _ _ => True) trivial (fun j x s hx _ => ?_) fun s _ => trivial
 have hmem := List.mem_of_getElem? hx
 have hbl : x.Buses.length ≤ 9223372036854775807 := by
  unfold islands at hmem
  obtain ⟨f, _, rfl⟩ := List.mem_map.1 (List.mem_filter.1 hmem).1
  have := filt_len (fun i => (groups b p).getD i 0 == (f : Int)) b.Buses.toNat
  have := h.buses
  simp only [isl, busesOf]
  omega
 unfold F176_l0
 rw [contains_int _ _ hbl]
 simp only [Option.bind_some]
 refine Ok.cond (fun _ => Ok.ret fun i hi => ?_) (fun _ => Ok.next trivial)
 have := isl_src hmem i hi
 omega
theorem islB {b : api_Board} (h : BoardOk b) {p : api_Power} (hp : StateOk b p) (n : Int) : Ok (F176 b p n) fun y => y.1.Buses.length ≤ 9223372036854775807 := by
 unfold F176
 rw [islands_eq h hp]
 simp only [Option.bind_some]
 refine Ok.andThen (A := fun _ => True) (B := fun y => y.1.Buses.length ≤ 9223372036854775807) ?_ (fun _ _ => Ok.pure (by simp)) (fun v hv => Ok.pure hv)
 refine Ok.foldI0 (I := fun _ _ => True) trivial (fun j x s hx _ => ?_) fun s _ => trivial
 have hmem := List.mem_of_getElem? hx
 have hbl : x.Buses.length ≤ 9223372036854775807 := by
  unfold islands at hmem
  obtain ⟨f, _, rfl⟩ := List.mem_map.1 (List.mem_filter.1 hmem).1
  have := filt_len (fun i => (groups b p).getD i 0 == (f : Int)) b.Buses.toNat
  have := h.buses
  simp only [isl, busesOf]
  omega
 unfold F176_l0
 rw [contains_int _ _ hbl]
 simp only [Option.bind_some]
 exact Ok.cond (fun _ => Ok.ret hbl) (fun _ => Ok.next trivial)
theorem leader_ok {b : api_Board} (h : BoardOk b) {p : api_Power} (hp : StateOk b p) (n : Int) : Ok (F214 b p n) fun y => y.2 = true → 0 ≤ y.1 ∧ y.1 < p.Sources.length := by
 unfold F214
 refine (of_ok h hp n).bind fun y hy => ?_
 refine Ok.cond (fun _ => Ok.pure (fun e => by cases e)) (fun hc => ?_)
 simp only [beq_eq_false_iff_ne, ne_eq] at hc
 exact (Ok.getI (by omega) (by omega)).bind fun z hz => Ok.pure fun _ => hy z (List.mem_of_getElem? hz)
theorem Ok.getB {α : Type} {l : List α} {i : Int} (h0 : 0 ≤ i) (h1 : i < l.length) : Ok (getI l i) fun _ => True := (Ok.getI h0 h1).mono fun _ _ => trivial
theorem sync_ok {b : api_Board} (h : BoardOk b) {p : api_Power} (hp : StateOk b p) {j : Nat} {x : api_Breaker} (hx : b.Breakers[j]? = some x) : Ok (F251 b p x) fun _ => True := by
 have hn := hp.nso
 have hb := h.br x (List.mem_of_getElem? hx)
 unfold BrOk at hb
 unfold F251
 refine (leader_ok h hp _).bind fun y hy => ?_
 refine Ok.cond (fun _ => Ok.pure trivial) (fun h2 => ?_)
 simp only [Bool.not_eq_false'] at h2
 have hy := hy h2
 refine Ok.cond (fun _ => ?_) (fun _ => Ok.cond (fun hk => ?_) (fun _ => Ok.pure trivial))
 ·refine (leader_ok h hp _).bind fun z hz => ?_
  refine Ok.bind (P := fun _ => True) (Ok.gT (fun _ => Ok.getB hy.1 hy.2) fun _ => trivial) fun _ _ => ?_
  refine Ok.bind (P := fun _ => True) (Ok.gT (fun hg => ?_) fun _ => trivial) fun _ _ => Ok.pure trivial
  have := hz (by have := hg.1; simpa using this)
  exact Ok.getB this.1 this.2
 ·simp only [beq_iff_eq] at hk
  exact (Ok.getB hy.1 hy.2).bind fun _ _ => (Ok.getB (by omega) (by omega)).bind fun _ _ => Ok.pure trivial
theorem ledO_flag {o : Option Int} : (flag o).2 = false → o = none := by
 cases o with
 | none => intro _; rfl
 | some a => intro e; cases e
theorem sound_ok {b : api_Board} (h : BoardOk b) {p : api_Power} (hp : StateOk b p) {j : Int} (h0 : 0 ≤ j) (h1 : j < b.Breakers.length) : Ok (F250 b p j) fun y => y = true → ∀ x, b.Breakers[j.toNat]? = some x → x.Kind = 3 → ledO b p 3 x.B = none := by
 have hbl : p.Broken.length ≤ 1000 := by have := hp.brk.len; omega
 have hn := hp.nso
 have hc := hp.ncl
 unfold F250
 refine (Ok.getI h0 h1).bind fun x hx => (Ok.getB h0 (by omega)).bind fun _ _ => ?_
 have hb := h.br x (List.mem_of_getElem? hx)
 unfold BrOk at hb
 refine Ok.bind (P := fun _ => True) (Ok.gT (fun _ => Ok.triv (broken_eq hbl _ _)) fun _ => trivial) fun _ _ => ?_
 refine Ok.bind (P := fun _ => True) (Ok.gT (fun _ => Ok.triv (broken_eq hbl _ _)) fun _ => trivial) fun _ _ => ?_
 refine Ok.cond (fun _ => Ok.pure (fun e => by cases e)) (fun _ => ?_)
 refine Ok.cond (fun hk => ?_) (fun hk1 => Ok.cond (fun hk => ?_) (fun hk2 => ?_))
 ·simp only [beq_iff_eq] at hk
  rw [broken_eq hbl]
  refine Ok.pure fun _ y hy hy3 => ?_
  rw [hx] at hy; cases hy; omega
 ·simp only [beq_iff_eq] at hk
  rw [broken_eq hbl]
  simp only [Option.bind_some]
  refine Ok.bind (P := fun _ => True) (Ok.gT (fun _ => Ok.getB (by omega) (by omega)) fun _ => trivial) fun _ _ => Ok.pure fun _ y hy hy3 => ?_
  rw [hx] at hy; cases hy; omega
 ·unfold F168
  rw [state_ok h hp, fed_eq h hc, broken_eq hbl]
  simp only [Option.bind_some, bne_self_eq_false, cond_false]
  refine Ok.pure fun e y hy hy3 => ?_
  rw [hx] at hy; cases hy
  simp only [Bool.and_eq_true, Bool.not_eq_true'] at e
  exact ledO_flag e.2
theorem may_ok {b : api_Board} (h : BoardOk b) {p : api_Power} (hp : StateOk b p) (j : Int) : Ok (F213 b p j) fun y => y ≠ 0 ∨ ((0 ≤ j ∧ j < b.Breakers.length) ∧ ∀ x, b.Breakers[j.toNat]? = some x → x.Kind = 3 → ledO b p 3 x.B = none) := by
 unfold F213
 rw [state_ok h hp]
 simp only [Option.bind_some]
 refine Ok.cond (fun hc => by simp at hc) (fun _ => Ok.cond (fun _ => Ok.pure (.inl (by simp))) (fun hr => ?_))
 simp only [c213_0, Bool.or_eq_false_iff, decide_eq_false_iff_not] at hr
 refine (sound_ok h hp (by omega) (by omega)).bind fun y hy => ?_
 refine Ok.cond (fun _ => Ok.pure (.inl (by simp))) (fun h2 => ?_)
 simp only [Bool.not_eq_false'] at h2
 have hy := hy h2
 refine (Ok.getI (by omega) (by omega)).bind fun x hx => (islB h hp x.A).bind fun z hz => ?_
 refine Ok.bind (P := fun _ => True) (Ok.gT (fun _ => Ok.triv (contains_int _ _ hz)) fun _ => trivial) fun _ _ => ?_
 refine Ok.bind (P := fun _ => True) (Ok.gT (fun _ => sync_ok h hp hx) fun _ => trivial) fun _ _ => ?_
 exact Ok.cond (fun _ => Ok.pure (.inl (by simp))) (fun _ => Ok.pure (.inr ⟨⟨by omega, by omega⟩, hy⟩))
theorem close_ok {b : api_Board} (h : BoardOk b) {p : api_Power} (hp : StateOk b p) (i : Int) : Ok (F142 b p i) fun y => y.2 ≠ 0 ∨ StateOk b y.1 := by
 have hn := hp.ncl
 unfold F142
 rw [clone_eq h hp]
 simp only [Option.bind_some]
 refine (may_ok h hp i).bind fun y hy => Ok.cond (fun hc => Ok.pure (.inl (by simpa using hc))) (fun hc => ?_)
 simp only [bne_eq_false_iff_eq] at hc
 rcases hy with hy | ⟨hr, hf⟩
 ·exact absurd hc hy
 ·refine (Ok.getI hr.1 (by omega)).bind fun _ _ => (Ok.setI hr.1 (by omega)).bind fun z hz => ?_
  obtain ⟨x, hx⟩ : ∃ x, b.Breakers[i.toNat]? = some x := ⟨_, List.getElem?_eq_getElem (by omega)⟩
  have hq := closeC hp hx (hf x hx)
  rw [← hz] at hq
  rw [follow_eq h hq]
  exact Ok.pure (.inr (withS hq (followL_length _ _) (follow_run hq)))
theorem match_ok {b : api_Board} (h : BoardOk b) {p : api_Power} (hp : StateOk b p) (i n : Int) : Ok (F144 b p i n) fun y => y.2 ≠ 0 ∨ StateOk b y.1 := by
 have hn := hp.nso
 unfold F144
 rw [state_ok h hp, clone_eq h hp]
 simp only [Option.bind_some]
 refine Ok.cond (fun hc => by simp at hc) (fun _ => Ok.cond (fun _ => Ok.pure (.inl (by simp))) (fun hr => ?_))
 simp only [c144_0, Bool.or_eq_false_iff, decide_eq_false_iff_not] at hr
 refine (leader_ok h hp n).bind fun y hy => ?_
 refine Ok.bind (P := fun _ => True) (Ok.gT (fun _ => Ok.getB (by omega) (by omega)) fun _ => trivial) fun u _ => ?_
 refine Ok.cond (fun _ => Ok.pure (.inl (by simp))) (fun hc => ?_)
 simp only [Bool.or_eq_false_iff, Bool.not_eq_false'] at hc
 have hy := hy hc.1
 unfold F215
 rw [state_ok h hp, connected_eq h hp]
 simp only [Option.bind_some, bne_self_eq_false, cond_false]
 have hrun : ∀ w, p.Sources[y.1.toNat]? = some w → RunOk w := fun w hw => hp.run w (List.mem_of_getElem? hw)
 refine Ok.cond (fun _ => ?_) (fun _ => ?_)
 ·refine (of_ok h hp _).bind fun z hz => (Ok.getI hy.1 hy.2).bind fun w hw => ?_
  rw [set_eq hz]
  exact Ok.pure (.inr (withS hp (setL_length _ _ _) (setL_run (hrun w hw) _ _ hz hp.run)))
 ·refine (Ok.getI hy.1 hy.2).bind fun w hw => ?_
  have hz : ∀ k, k ∈ [i] → 0 ≤ k ∧ k < p.Sources.length := fun k hk => by
   simp only [List.mem_singleton] at hk
   subst hk; omega
  rw [set_eq hz]
  exact Ok.pure (.inr (withS hp (setL_length _ _ _) (setL_run (hrun w hw) _ _ hz hp.run)))
theorem isOpen_ok {b : api_Board} (h : BoardOk b) {p : api_Power} (hc : p.Closed.length = b.Breakers.length) (t : Int) {i : Int} (h0 : 0 ≤ i) (h1 : i < b.Sources.length) : Ok (F216s0 ⟨b, p, t⟩ i) fun _ => True := by
 obtain ⟨j, x, e, hx, _⟩ := brkOf_spec h h0 h1
 have hj := (List.getElem?_eq_some_iff.1 hx).1
 unfold F216s0
 rw [breaker_eq h, e]
 simp only [Option.bind_some]
 exact (Ok.getB (by omega) (by omega)).bind fun _ _ => Ok.pure trivial
def ActSo (b : api_Board) (y : Int × restore_worker) : Prop := y.1 ≠ 0 ∨ StateOk b y.2.power
theorem start_ok {b : api_Board} (h : BoardOk b) {p : api_Power} (hp : StateOk b p) {t : Int} (ht : 0 ≤ t ∧ t ≤ 2147483648) {i : Int} (h0 : 0 ≤ i) (h1 : i < b.Sources.length) : Ok (F145s1 ⟨b, p, t⟩ i) (ActSo b) := by
 have hn := hp.nso
 have hbl : p.Broken.length ≤ 1000 := by have := hp.brk.len; omega
 unfold F145s1
 refine (Ok.getB h0 (by dsimp only; omega)).bind fun u _ => Ok.bind (P := fun _ => True) (Ok.gT (fun _ => Ok.triv (broken_eq hbl _ _)) fun _ => trivial) fun _ _ => ?_
 refine Ok.cond (fun _ => Ok.pure (.inl (by simp))) (fun _ => (Ok.getB h0 h1).bind fun s _ => ?_)
 refine Ok.bind (P := fun _ => True) (Ok.gT (fun _ => isOpen_ok h hp.ncl t h0 h1) fun _ => trivial) fun _ _ => ?_
 refine Ok.cond (fun _ => ?_) (fun _ => ?_)
 ·exact (Ok.setI h0 (by dsimp only; omega)).bind fun z hz => Ok.pure (.inr (by
   rw [hz]
   exact withS hp (by simp) (set_run hp.run ⟨by dsimp only; omega, ht, by dsimp only; omega, by dsimp only; omega⟩)))
 ·exact (Ok.setI h0 (by dsimp only; omega)).bind fun z hz => Ok.pure (.inr (by
   rw [hz]
   exact withS hp (by simp) (set_run hp.run ⟨by dsimp only; omega, ht, by dsimp only; omega, by dsimp only; omega⟩)))
theorem stop_ok {b : api_Board} (h : BoardOk b) {p : api_Power} (hp : StateOk b p) {t : Int} {i : Int} (h0 : 0 ≤ i) (h1 : i < b.Sources.length) : Ok (F146s1 ⟨b, p, t⟩ i) (ActSo b) := by
 have hn := hp.nso
 unfold F146s1
 refine (Ok.getI h0 (by dsimp only; omega)).bind fun u hu => ?_
 have hr := hp.run u (List.mem_of_getElem? hu)
 refine Ok.bind (P := fun _ => True) (Ok.gT (fun _ => isOpen_ok h hp.ncl t h0 h1) fun _ => trivial) fun _ _ => ?_
 refine Ok.cond (fun _ => Ok.pure (.inl (by simp))) (fun _ => (Ok.setI h0 (by dsimp only; omega)).bind fun z hz => Ok.pure (.inr ?_))
 rw [hz]
 exact withS hp (by simp) (set_run hp.run ⟨by dsimp only; omega, hr.2⟩)
theorem limit_ok {b : api_Board} {p : api_Power} (hp : StateOk b p) {t : Int} {i v : Int} (h0 : 0 ≤ i) (h1 : i < b.Consumers.length) : Ok (F147s1 ⟨b, p, t⟩ i v) (ActSo b) := by
 have hn := hp.nli
 unfold F147s1
 refine Ok.bind (P := fun y => 0 ≤ v → b.Consumers[i.toNat]? = some y) (Ok.guard (fun _ => (Ok.getI h0 h1).mono fun y hy _ => hy) fun hg hv => (hg ⟨by simp; omega, trivial⟩).elim) fun c hc => ?_
 refine Ok.cond (fun _ => Ok.pure (.inl (by simp))) (fun hr => ?_)
 simp only [c147s1_0, Bool.or_eq_false_iff, decide_eq_false_iff_not] at hr
 have hc := hc (by omega)
 refine (Ok.getB h0 (by dsimp only; omega)).bind fun _ _ => (Ok.setI h0 (by dsimp only; omega)).bind fun z hz => Ok.pure (.inr ?_)
 subst hz
 exact {
  ncl := hp.ncl
  nso := hp.nso
  nli := by simpa using hp.nli
  run := hp.run
  lim := fun k m y hk hy => by
   dsimp only at hk
   rw [List.getElem?_set] at hk
   split at hk
   ·rename_i e
    split at hk
    ·cases hk
     rw [← e, hc] at hy; cases hy; omega
    ·cases hk
   ·exact hp.lim k m y hk hy
  one := hp.one
  brk := hp.brk }
theorem norm_ok (x : Int) : 0 ≤ F252 x ∧ F252 x ≤ 3599 := by
 have := tmod_range (x := x) (n := 3600) (by omega)
 unfold F252
 by_cases h : Int.tmod x 3600 < 0
 ·rw [decide_eq_true h, cond_true, w64_in (by omega)]; omega
 ·rw [decide_eq_false h, cond_false]; omega
theorem turn_ok {b : api_Board} (h : BoardOk b) {p : api_Power} (hp : StateOk b p) : Ok (F217 b p) fun y => StateOk b y.1 ∧ y.1.Closed = p.Closed ∧ y.2 = 0 := by
 have hs := h.sol
 have hn := hp.nso
 unfold F217
 rw [state_ok h hp, clone_eq h hp]
 simp only [Option.bind_some]
 refine Ok.cond (fun hc => by simp at hc) (fun _ => ?_)
 refine Ok.andThen (A := fun s => s.length = p.Sources.length ∧ ∀ x, x ∈ s → RunOk x) (B := fun (_ : Unit) => False) ?_ (fun s hs => Ok.pure ⟨withS hp hs.1 hs.2, rfl, rfl⟩) (fun _ h => h.elim)
 refine Ok.foldI0 (I := fun _ s => s.length = p.Sources.length ∧ ∀ x, x ∈ s → RunOk x) ⟨rfl, hp.run⟩ (fun j x s hx hs => ?_) fun s hs => hs
 have hj := (List.getElem?_eq_some_iff.1 hx).1
 have hcnt : cnt 0 j = (j : Int) := cnt0 (by omega)
 unfold F217_l0
 rw [hcnt]
 refine Ok.cond (fun _ => ?_) (fun _ => Ok.next hs)
 refine (Ok.getI (by omega) (by omega)).bind fun u hu => (Ok.setI (by omega) (by omega)).bind fun z hz => Ok.next ?_
 have hr := hs.2 u (List.mem_of_getElem? hu)
 rw [hz]
 exact ⟨by simpa using hs.1, set_run hs.2 ⟨hr.1, hr.2.1, hr.2.2.1, norm_ok _⟩⟩
theorem wait_ok {b : api_Board} (h : BoardOk b) {p : api_Power} (hp : StateOk b p) (t : Int) : Ok (F148s1 ⟨b, p, t⟩) fun y => StateOk b y.power := by
 have hso := h.sol
 unfold F148s1
 refine (turn_ok h hp).bind fun ⟨q, e⟩ hq => ?_
 dsimp only at hq ⊢
 obtain ⟨hq, _, _⟩ := hq
 have hn := hq.nso
 refine Ok.andThen (A := fun s => s.2.length = q.Sources.length ∧ ∀ x, x ∈ s.2 → RunOk x) (B := fun (_ : Unit) => False) ?_ (fun s hs => Ok.pure (withS hq hs.1 hs.2)) (fun _ h => h.elim)
 refine Ok.whileN (fun s => (0 ≤ s.1 ∧ s.1 ≤ (q.Sources.length : Int)) ∧ s.2.length = q.Sources.length ∧ ∀ x, x ∈ s.2 → RunOk x) (fun s => ((q.Sources.length : Int) - s.1).toNat) _ _ ?_ ?_ ?_
 ·exact ⟨by dsimp only; omega, rfl, hq.run⟩
 ·dsimp only; omega
 ·rintro ⟨i, s⟩ ⟨⟨h1, h2⟩, h3, h4⟩
  dsimp only at h1 h2 h3 h4
  unfold F148s1_l0 c148s1_3
  dsimp only
  refine Ok.cond (fun hc => ?_) (fun _ => Ok.brk ⟨h3, h4⟩)
  simp only [decide_eq_true_eq] at hc
  have e1 : w64 (i + 1) = i + 1 := w64_in (by omega)
  refine (Ok.getI h1 (by omega)).bind fun u hu => ?_
  have hr := h4 u (List.mem_of_getElem? hu)
  refine Ok.bind (P := fun _ => True) (Ok.gT (fun _ => isOpen_ok h hq.ncl t h1 (by omega)) fun _ => trivial) fun _ _ => ?_
  refine Ok.bind (P := fun _ => True) (Ok.gT (fun _ => Ok.getB h1 (by omega)) fun _ => trivial) fun _ _ => ?_
  rw [e1]
  refine Ok.cond (fun _ => ?_) (fun _ => Ok.next ⟨⟨by dsimp only; omega, h3, h4⟩, by dsimp only; omega⟩)
  refine (Ok.setI h1 (by omega)).bind fun z hz => Ok.next ⟨⟨by dsimp only; omega, ?_, ?_⟩, by dsimp only; omega⟩
  ·dsimp only; rw [hz]; simpa using h3
  ·dsimp only; rw [hz]; exact set_run h4 ⟨by dsimp only; omega, hr.2⟩
end Go.Proofs.YtkngbnedbgndoaaGreat
