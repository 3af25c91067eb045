import Derived.Test.YtkngbnedbgndoaaGreatPK
namespace Go.Proofs.YtkngbnedbgndoaaGreat
open Go.SL
def failedP (p : api_Power) (x : api_Part) (n : Nat) : api_Power := ⟨p.Closed, failS p.Sources x 3, p.Limits, insP p.Broken n x⟩
theorem failedP_ok {b : api_Board} (h : BoardOk b) {p : api_Power} (hp : StateOk b p) {x : api_Part} (hx : PartIn b x) {n : Nat} (hat : At p.Broken x n) (hnot : p.Broken[n]? ≠ some x) (hlen : p.Broken.length < 32) : StateOk b (failedP p x n) where
 ncl := hp.ncl
 nso := by show (failS p.Sources x 3).length = _; rw [failS_length]; exact hp.nso
 nli := hp.nli
 run := failS_ok hp.run (fun hk => by have := hp.nso; unfold PartIn at hx; omega) (by omega)
 lim := hp.lim
 one := hp.one
 brk := insP_ok h hp.brk hx hat hnot hlen
def mendedP (p : api_Power) (x : api_Part) : api_Power := ⟨p.Closed, failS (failS p.Sources x 3) x 0, p.Limits, p.Broken⟩
theorem mendedP_ok {b : api_Board} {p : api_Power} (hp : StateOk b p) {x : api_Part} (hx : PartIn b x) : StateOk b (mendedP p x) where
 ncl := hp.ncl
 nso := by show (failS (failS p.Sources x 3) x 0).length = _; rw [failS_length, failS_length]; exact hp.nso
 nli := hp.nli
 run := by
  have h1 : x.Kind = 1 → 0 ≤ x.Number ∧ x.Number < p.Sources.length := fun hk => by have := hp.nso; unfold PartIn at hx; omega
  exact failS_ok (failS_ok hp.run h1 (by omega)) (fun hk => by rw [failS_length]; exact h1 hk) (by omega)
 lim := hp.lim
 one := hp.one
 brk := hp.brk
theorem known8 (b : api_Board) (u v : Int) : F69 b ⟨8, u, v⟩ = some (F137 b v u) := rfl
theorem known9 (b : api_Board) (u v : Int) : F69 b ⟨9, u, v⟩ = some (F137 b v u) := rfl
theorem part_iff (b : api_Board) (k n : Int) : F137 b k n = true ↔ PartIn b ⟨k, n⟩ := by
 unfold F137 PartIn
 dsimp only
 by_cases h1 : k = 1
 ·subst h1; simp
 rw [beq_eq_false_iff_ne.2 h1, cond_false]
 by_cases h2 : k = 2
 ·subst h2; simp
 rw [beq_eq_false_iff_ne.2 h2, cond_false]
 by_cases h3 : k = 3
 ·subst h3; simp
 rw [beq_eq_false_iff_ne.2 h3, cond_false]
 by_cases h4 : k = 4
 ·subst h4; simp
 rw [beq_eq_false_iff_ne.2 h4, cond_false]
 simp only [Bool.and_eq_true, decide_eq_true_eq]
 omega
theorem at_ex {b : api_Board} (h : BoardOk b) {l : List api_Part} (hl : BrokenOk b l) {x : api_Part} (hx : PartIn b x) : ∃ n, At l x n := by
 have hs := sorted_of h hl
 obtain ⟨y, _, n, _, hat, _⟩ := search_ok hs (fun y hy => (hl.mem y hy).small h) (hx.small h) (by have := hl.len; omega)
 exact ⟨n, hat⟩
theorem actFail {b : api_Board} (h : BoardOk b) {p : api_Power} (hp : StateOk b p) (hlen : p.Broken.length < 32) {t : Int} (ht : 0 ≤ t ∧ t ≤ 2147483648) (u v : Int) :
  Ok (F19 b p t ⟨8, u, v⟩) fun y => y.2 ≠ 0 ∨ (y.2 = 0 ∧ PartIn b ⟨v, u⟩ ∧ ∃ n, At p.Broken ⟨v, u⟩ n ∧ p.Broken[n]? ≠ some ⟨v, u⟩ ∧ y.1 = failedP p ⟨v, u⟩ n) := by
 unfold F19
 rw [state_ok h hp, known8, clone_eq h hp]
 simp only [Option.bind_some]
 refine Ok.cond (fun hc => by simp at hc) (fun _ => Ok.cond (fun hc => ?_) (fun _ => Ok.cond (fun hc => Ok.pure (.inl (by simp))) (fun hk => ?_)))
 ·simp [c19_0] at hc; omega
 ·simp only [Bool.not_eq_false'] at hk
  have hx := (part_iff b v u).1 hk
  obtain ⟨n, hat⟩ := at_ex h hp.brk hx
  have hdo : F71s1 ⟨b, p, t⟩ ⟨8, u, v⟩ = (F149s1 ⟨b, p, t⟩ ⟨v, u⟩ true).bind fun y => some (y.1, y.2) := rfl
  by_cases hin : p.Broken[n]? = some ⟨v, u⟩
  ·have hf : Ok (F149s1 ⟨b, p, t⟩ ⟨v, u⟩ true) fun y => y.1 ≠ 0 := by
    unfold F149s1
    refine (search_ok (sorted_of h hp.brk) (fun y hy => (hp.brk.mem y hy).small h) (hx.small h) (by have := hp.brk.len; omega)).bind fun y hy => ?_
    obtain ⟨m, e1, hat2, hf⟩ := hy
    have e2 := hat.uniq hat2
    subst e2
    rw [hf.2 hin]
    exact Ok.cond (fun _ => Ok.pure (by simp)) (fun hc => by simp at hc)
   rw [hdo, Option.bind_assoc]
   refine hf.bind fun y hy => ?_
   simp only [Option.bind_some]
   refine Ok.cond (fun _ => Ok.pure (.inl hy)) (fun hc => ?_)
   simp at hc; exact absurd hc hy
  ·rw [hdo, fail_eq h hp hx t hat hin hlen]
   exact Ok.pure (.inr ⟨rfl, hx, n, hat, hin, rfl⟩)
theorem actMend {b : api_Board} (h : BoardOk b) {p : api_Power} (hp : StateOk b p) (hlen : p.Broken.length < 32) {t : Int} (ht : 0 ≤ t ∧ t ≤ 2147483648) {u v : Int} (hx : PartIn b ⟨v, u⟩) {n : Nat} (hat : At p.Broken ⟨v, u⟩ n) (hnot : p.Broken[n]? ≠ some ⟨v, u⟩) :
  F19 b (failedP p ⟨v, u⟩ n) t ⟨9, u, v⟩ = some (mendedP p ⟨v, u⟩, 0) := by
 have hq := failedP_ok h hp hx hat hnot hlen
 refine Ok.eq ?_
 unfold F19
 rw [state_ok h hq, known9, clone_eq h hq]
 simp only [Option.bind_some]
 refine Ok.cond (fun hc => by simp at hc) (fun _ => Ok.cond (fun hc => ?_) (fun _ => Ok.cond (fun hc => ?_) (fun hk => ?_)))
 ·simp [c19_0] at hc; omega
 ·rw [(part_iff b v u).2 hx] at hc; cases hc
 ·have hdo : F71s1 ⟨b, failedP p ⟨v, u⟩ n, t⟩ ⟨9, u, v⟩ = (F149s1 ⟨b, failedP p ⟨v, u⟩ n, t⟩ ⟨v, u⟩ false).bind fun y => some (y.1, y.2) := rfl
  rw [hdo, mend_eq h hp.brk hx t hat hnot hlen rfl hq.nso]
  exact Ok.pure rfl
theorem LeB.get {s t : List Bool} (h : LeB s t) {i : Nat} {x y : Bool} (hx : s[i]? = some x) (hy : t[i]? = some y) : (x && !y) = false := by
 cases x with
 | false => rfl
 | true =>
  have := h.2 i hx
  rw [hy] at this; cases this; rfl
theorem soundB_mono {b : api_Board} {l m : List api_Part} (hlm : ∀ k n, brk l k n = true → brk m k n = true) (i : Int) : soundB b m i = true → soundB b l i = true := by
 have hn : ∀ k n, (!brk m k n) = true → (!brk l k n) = true := by
  intro k n hh
  cases hb : brk l k n with
  | false => rfl
  | true => rw [hlm k n hb] at hh; cases hh
 unfold soundB
 dsimp only
 simp only [Bool.and_eq_true, Bool.or_eq_true]
 rintro ⟨⟨h1, h2⟩, h3⟩
 exact ⟨⟨hn _ _ h1, hn _ _ h2⟩, h3.imp id (hn _ _)⟩
theorem usableB_mono {b : api_Board} {p q : api_Power} (hlm : ∀ k n, brk q.Broken k n = true → brk p.Broken k n = true) {i : Int} (hs : ((p.Sources.getD i.toNat default).State != 3) = true → ((q.Sources.getD i.toNat default).State != 3) = true) : usableB b p i = true → usableB b q i = true := by
 unfold usableB
 simp only [Bool.and_eq_true]
 rintro ⟨⟨h1, h2⟩, h3⟩
 refine ⟨⟨soundB_mono hlm _ h1, ?_⟩, hs h3⟩
 cases hb : brk q.Broken 1 i with
 | false => rfl
 | true => rw [hlm _ _ hb] at h2; cases h2
theorem failS_state {ss : List api_Running} {x : api_Part} {st : Int} {i : Nat} (hi : i < ss.length) : ((failS ss x st).getD i default).State = st ∨ ((failS ss x st).getD i default).State = (ss.getD i default).State := by
 unfold failS
 split
 ·by_cases e : x.Number.toNat = i
  ·left
   rw [e]
   simp [List.getD, List.getElem?_set_self hi]
  ·right
   simp [List.getD, List.getElem?_set_ne e]
 ·exact .inr rfl
theorem goal_failed {b : api_Board} {p : api_Power} (hn : p.Sources.length = b.Sources.length) {x : api_Part} {n : Nat} : LeB (goalL b (usableB b (failedP p x n)) (soundB b (insP p.Broken n x))) (goalL b (usableB b p) (soundB b p.Broken)) := by
 refine goal_mono (fun i hi => ?_) (fun i _ _ _ => soundB_mono (fun k m => brk_ins p.Broken n x k m) _)
 refine usableB_mono (fun k m => brk_ins p.Broken n x k m) fun hs => ?_
 rw [Int.toNat_natCast] at hs ⊢
 rcases failS_state (ss := p.Sources) (x := x) (st := 3) (i := i) (by omega) with e | e
 ·have e2 : ((failedP p x n).Sources.getD i default).State = 3 := e
  rw [e2] at hs; cases hs
 ·have e2 : ((failedP p x n).Sources.getD i default).State = (p.Sources.getD i default).State := e
  rw [e2] at hs; exact hs
theorem goal_mended {b : api_Board} {p : api_Power} (hn : p.Sources.length = b.Sources.length) {x : api_Part} : LeB (goalL b (usableB b p) (soundB b p.Broken)) (goalL b (usableB b (mendedP p x)) (soundB b p.Broken)) := by
 refine goal_mono (fun i hi => ?_) (fun i _ _ _ e => e)
 refine usableB_mono (p := p) (q := mendedP p x) (fun k m e => e) fun hs => ?_
 rw [Int.toNat_natCast] at hs ⊢
 rcases failS_state (ss := failS p.Sources x 3) (x := x) (st := 0) (i := i) (by rw [failS_length]; omega) with e | e
 ·have e2 : ((mendedP p x).Sources.getD i default).State = 0 := e
  rw [e2]; rfl
 ·have e2 : ((mendedP p x).Sources.getD i default).State = ((failS p.Sources x 3).getD i default).State := e
  rw [e2]
  by_cases hk : x.Kind = 1 ∧ x.Number.toNat = i
  ·exfalso
   have h0 : ((failS (failS p.Sources x 3) x 0).getD i default).State = 0 := by
    unfold failS
    rw [if_pos hk.1, hk.2]
    rw [if_pos hk.1]
    simp [List.getD, hn, hi]
   have h3 : ((failS p.Sources x 3).getD i default).State = 3 := by
    unfold failS
    rw [if_pos hk.1, hk.2]
    simp [List.getD, hn, hi]
   rw [h0, h3] at e; cases e
  ·have : (failS p.Sources x 3).getD i default = p.Sources.getD i default := by
    unfold failS
    split
    ·rename_i h1
     simp [List.getD, List.getElem?_set_ne (fun e => hk ⟨h1, e⟩)]
    ·rfl
   rw [this]; exact hs
theorem feeds_none {l : List api_Breaker} {c : List Bool} (h : ∀ x, x ∈ c → x = false) (i : Nat) : feeds l c i = [] := by
 unfold feeds
 rw [List.filter_eq_nil_iff]
 intro z hz
 rw [h z.2 (List.of_mem_zip hz).2]
 simp
theorem openP_ok {b : api_Board} {p : api_Power} (hp : StateOk b p) : StateOk b ⟨List.replicate p.Closed.length false, p.Sources, p.Limits, p.Broken⟩ where
 ncl := by simpa using hp.ncl
 nso := hp.nso
 nli := hp.nli
 run := hp.run
 lim := hp.lim
 one i _ := by
  rw [feeds_none (fun x hx => (List.mem_replicate.1 hx).2)]; simp
 brk := hp.brk
theorem copy_eq {b : api_Board} (h : BoardOk b) {p : api_Power} (hp : StateOk b p) : F20 p = some p := by
 have hl := hp.lens h
 have h1 := hl.c
 have h2 := hl.s
 have h3 := hl.l
 have h4 := hl.k
 unfold F20
 rw [app0 (by omega), app0 (by omega), app0 (by omega), app0 (by omega)]
 rfl
theorem sane20 : F22 = some true := by kernel_rfl
theorem restoreGoal_law (t : List Int) (k n : Int) : F3 t k n = some true := by
 refine Ok.eq ?_
 unfold F3
 refine (New_ok t).bind fun s hs => (Board_ok hs).bind fun ⟨b, s2⟩ hb => (Power_ok hb.1.ok hb.2).bind fun ⟨p, s3⟩ hp => ?_
 dsimp only at hb hp ⊢
 obtain ⟨⟨hp, hlen⟩, _⟩ := hp
 have h := hb.1.ok
 have hbu := h.buses
 rw [goal_eq h hp]
 simp only [Option.bind_some]
 refine (actFail h hp (by omega) (t := 5) (by omega) _ _).bind fun ⟨q, e⟩ hq => ?_
 dsimp only at hq
 refine Ok.cond (fun hc => ?_) (fun _ => ?_)
 ·rw [goalL_length] at hc
  simp at hc; omega
 refine Ok.andThen (A := fun _ => True) (B := fun v => v = true) ?_ (fun _ _ => ?_) (fun v hv => Ok.pure hv)
 ·unfold F3_m0
  dsimp only
  rcases hq with he | ⟨he, hx, m, hat, hnot, rfl⟩
  ·rw [beq_eq_false_iff_ne.2 he]
   exact Ok.nextE trivial
  ·subst he
   refine Ok.cond (fun _ => ?_) (fun _ => Ok.nextE trivial)
   have hq2 := failedP_ok h hp hx hat hnot (by omega)
   have hm := mendedP_ok hp hx
   rw [goal_eq h hq2, actMend h hp (by omega) (by omega) hx hat hnot]
   simp only [Option.bind_some]
   rw [goal_eq h hm]
   simp only [Option.bind_some]
   refine Ok.cond (fun hc => ?_) (fun _ => ?_)
   ·simp [c3_0, goalL_length] at hc
   rw [all_fold _ 0 fun j x hj => ?_]
   ·exact Ok.nextE trivial
   ·have hjl := (List.getElem?_eq_some_iff.1 hj).1
    rw [goalL_length] at hjl
    obtain ⟨c, hc⟩ : ∃ c, (goalL b (usableB b (failedP p ⟨w64 (1 + Int.tmod (w64 k) 4), Int.tmod (w64 n) 5⟩ m)) (soundB b (failedP p ⟨w64 (1 + Int.tmod (w64 k) 4), Int.tmod (w64 n) 5⟩ m).Broken))[j]? = some c := ⟨_, List.getElem?_eq_getElem (by rw [goalL_length]; omega)⟩
    obtain ⟨d, hd⟩ : ∃ d, (goalL b (usableB b (mendedP p ⟨w64 (1 + Int.tmod (w64 k) 4), Int.tmod (w64 n) 5⟩)) (soundB b (mendedP p ⟨w64 (1 + Int.tmod (w64 k) 4), Int.tmod (w64 n) 5⟩).Broken))[j]? = some d := ⟨_, List.getElem?_eq_getElem (by rw [goalL_length]; omega)⟩
    have hca := (goal_failed (b := b) (p := p) hp.nso (x := ⟨w64 (1 + Int.tmod (w64 k) 4), Int.tmod (w64 n) 5⟩) (n := m)).get hc hj
    have had := (goal_mended (b := b) (p := p) hp.nso (x := ⟨w64 (1 + Int.tmod (w64 k) 4), Int.tmod (w64 n) 5⟩)).get hj hd
    have hcd : (c && !d) = false := by
     cases c with
     | false => rfl
     | true =>
      cases x with
      | false => cases hca
      | true => exact had
    unfold F3_l1
    rw [Nat.zero_add, cnt0 (by omega), getI_nat hc, getI_nat hd]
    unfold c3_2
    revert hca had hcd
    cases c <;> cases x <;> cases d <;> intro h1 h2 h3 <;> first | rfl | exact absurd h1 (by decide) | exact absurd h2 (by decide) | exact absurd h3 (by decide)
 ·have ho := openP_ok hp
  have hcl := (hp.lens h).c
  rw [copy_eq h hp]
  simp only [Option.bind_some]
  refine (Ok.mkI (by omega) (by omega)).bind fun y hy => ?_
  have hye : y = List.replicate p.Closed.length false := by rw [hy]; simp
  subst hye
  rw [goal_eq h ho]
  simp only [Option.bind_some]
  have e : goalL b (usableB b ⟨List.replicate p.Closed.length false, p.Sources, p.Limits, p.Broken⟩) (soundB b p.Broken) = goalL b (usableB b p) (soundB b p.Broken) := rfl
  rw [e, bools_refl _ (by rw [goalL_length]; omega)]
  simp only [Option.bind_some, sane20]
  exact Ok.pure rfl
end Go.Proofs.YtkngbnedbgndoaaGreat
