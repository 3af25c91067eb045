import Derived.Test.YtkngbnedbgndoaaGreatPF
namespace Go.Proofs.YtkngbnedbgndoaaGreat
open Go.SL
theorem app0 {α : Type} {B : Nat} {l : List α} (h : l.length * B ≤ 140737488355328) : appI B [] l = some l := by
 unfold appI
 have : decide ((([] : List α).length + l.length) * B ≤ 140737488355328) = true := by simpa using h
 rw [this]; rfl
theorem clone_eq {b : api_Board} (h : BoardOk b) {p : api_Power} (hp : StateOk b p) : F70 p = some p := by
 have h1 := hp.ncl
 have h2 := hp.nso
 have h3 := hp.nli
 have h4 := hp.brk.len
 have h5 := h.brl
 have h6 := h.sol
 have h7 := h.col
 unfold F70 F138 F139 F140 F141
 rw [app0 (by omega), app0 (by omega), app0 (by omega), app0 (by omega)]
 rfl
structure Lens (p : api_Power) : Prop where
 c : p.Closed.length ≤ 1000
 s : p.Sources.length ≤ 1000
 l : p.Limits.length ≤ 1000
 k : p.Broken.length ≤ 1000
theorem StateOk.lens {b : api_Board} (h : BoardOk b) {p : api_Power} (hp : StateOk b p) : Lens p := by
 have h1 := hp.ncl
 have h2 := hp.nso
 have h3 := hp.nli
 have h4 := hp.brk.len
 have h5 := h.brl
 have h6 := h.sol
 have h7 := h.col
 exact ⟨by omega, by omega, by omega, by omega⟩
theorem bools_refl (l : List Bool) (h : l.length ≤ 9223372036854775807) : F21 l l = some true := by
 unfold F21
 rw [all_fold l 0 fun j x hj => ?_]
 ·simp [andThen]
 ·have hjl := (List.getElem?_eq_some_iff.1 hj).1
  unfold F21_l0
  rw [Nat.zero_add, cnt0 (by omega), getI_nat hj]
  simp
theorem ints_refl (l : List Int) (h : l.length ≤ 9223372036854775807) : F75 l l = some true := by
 unfold F75
 rw [all_fold l 0 fun j x hj => ?_]
 ·simp [andThen]
 ·have hjl := (List.getElem?_eq_some_iff.1 hj).1
  unfold F75_l0
  rw [Nat.zero_add, cnt0 (by omega), getI_nat hj]
  simp
theorem refSame_refl {p : api_Power} (h : Lens p) : F26 p p = some true := by
 have h1 := h.c
 have h2 := h.s
 have h3 := h.l
 have h4 := h.k
 refine Ok.eq ?_
 unfold F26
 rw [bools_refl _ (by omega), ints_refl _ (by omega)]
 have e : (guardO [((!true), false)] (some true) default : Option Bool) = some true := rfl
 simp only [Option.bind_some]
 rw [e]
 simp only [Option.bind_some]
 refine Ok.cond (fun hc => by simp [c26_0] at hc) (fun _ => ?_)
 refine Ok.andThen (A := fun _ => True) (B := fun _ => False) ?_ ?_ (fun _ h => h.elim)
 ·refine Ok.whileN (fun s => 0 ≤ s ∧ s ≤ (p.Sources.length : Int)) (fun s => ((p.Sources.length : Int) - s).toNat) _ _ (by omega) (by omega) ?_
  rintro i ⟨h5, h6⟩
  unfold F26_l0 c26_4
  refine Ok.cond (fun hq => ?_) (fun _ => Ok.brk trivial)
  simp only [decide_eq_true_eq] at hq
  refine (Ok.getI h5 hq).bind fun u hu => ?_
  refine Ok.bind (P := fun v => v = u) ((Ok.getI h5 hq).mono fun v hv => by rw [hu] at hv; cases hv; rfl) fun v hv => ?_
  subst hv
  refine Ok.cond (fun hc => by simp [c26_5] at hc) (fun _ => Ok.next ?_)
  rw [w64_in (by omega)]
  omega
 ·intro _ _
  refine Ok.andThen (A := fun _ => True) (B := fun _ => False) ?_ (fun _ _ => Ok.pure rfl) (fun _ h => h.elim)
  refine Ok.whileN (fun s => 0 ≤ s ∧ s ≤ (p.Broken.length : Int)) (fun s => ((p.Broken.length : Int) - s).toNat) _ _ (by omega) (by omega) ?_
  rintro i ⟨h5, h6⟩
  unfold F26_l1 c26_9
  refine Ok.cond (fun hq => ?_) (fun _ => Ok.brk trivial)
  simp only [decide_eq_true_eq] at hq
  refine (Ok.getI h5 hq).bind fun u hu => ?_
  refine Ok.bind (P := fun v => v = u) ((Ok.getI h5 hq).mono fun v hv => by rw [hu] at hv; cases hv; rfl) fun v hv => ?_
  subst hv
  refine Ok.cond (fun hc => by simp [c26_10] at hc) (fun _ => Ok.next ?_)
  rw [w64_in (by omega)]
  omega
def tune (like x : api_Running) : api_Running := ⟨x.State, x.Since, like.Frequency, like.Phase⟩
def setL (like : api_Running) (idx : List Int) (ss : List api_Running) : List api_Running := idx.foldl (fun s i => s.set i.toNat (tune like (s.getD i.toNat default))) ss
theorem setL_length (like : api_Running) : ∀ (idx : List Int) (ss : List api_Running), (setL like idx ss).length = ss.length
 | [], _ => rfl
 | i :: idx, ss => by
  show (setL like idx _).length = _
  rw [setL_length like idx, List.length_set]
theorem setL_take {like : api_Running} {idx : List Int} {j : Nat} {i : Int} (h : idx[j]? = some i) (ss : List api_Running) : setL like (idx.take (j + 1)) ss = (setL like (idx.take j) ss).set i.toNat (tune like ((setL like (idx.take j) ss).getD i.toNat default)) := by
 unfold setL
 rw [take_succ' h, List.foldl_append]; rfl
theorem set_eq {p : api_Power} {idx : List Int} {like : api_Running} (h : ∀ i, i ∈ idx → 0 ≤ i ∧ i < p.Sources.length) : F183s0 p idx like = some (setL like idx p.Sources) := by
 refine Ok.eq ?_
 unfold F183s0
 refine Ok.andThen (A := fun s => s = setL like idx p.Sources) (B := fun (_ : Unit) => False) ?_ (fun s hs => Ok.pure hs) (fun _ h => h.elim)
 refine Ok.foldI0 (I := fun j s => s = setL like (idx.take j) p.Sources) rfl (fun j x s hx hs => ?_) fun s hs => ?_
 ·have hi := h x (List.mem_of_getElem? hx)
  have hl : s.length = p.Sources.length := by rw [hs, setL_length]
  unfold F183s0_l0
  refine (Ok.getI hi.1 (by omega)).bind fun u hu => (Ok.setI hi.1 (by omega)).bind fun v hv => ?_
  have hvg : v[x.toNat]? = some (⟨u.State, u.Since, like.Frequency, u.Phase⟩ : api_Running) := by rw [hv, List.getElem?_set_self (by omega)]
  refine Ok.bind (P := fun w => w = (⟨u.State, u.Since, like.Frequency, u.Phase⟩ : api_Running)) ((Ok.getI hi.1 (by rw [hv]; simpa using by omega)).mono fun w hw => by rw [hvg] at hw; cases hw; rfl) fun w hw => ?_
  refine (Ok.setI hi.1 (by rw [hv]; simpa using by omega)).bind fun z hz => Ok.next ?_
  rw [setL_take hx, ← hs, hz, hv, hw, List.set_set]
  have : s.getD x.toNat default = u := by simp [List.getD, hu]
  rw [this]; rfl
 ·rw [List.take_length] at hs; exact hs
def followL (b : api_Board) (p : api_Power) : List api_Running := (islands b p).foldl (fun s x => match x.Sources with | [] => s | i :: _ => setL (p.Sources.getD i.toNat default) x.Sources s) p.Sources
theorem isl_src {b : api_Board} {p : api_Power} {x : api_Island} (h : x ∈ islands b p) : ∀ i, i ∈ x.Sources → 0 ≤ i ∧ i < b.Sources.length := by
 unfold islands at h
 obtain ⟨f, _, rfl⟩ := List.mem_map.1 (List.mem_filter.1 h).1
 intro i hi
 obtain ⟨k, hk, rfl⟩ := List.mem_map.1 hi
 have := List.mem_range.1 (List.mem_filter.1 hk).1
 omega
def fstep (p : api_Power) (s : List api_Running) (x : api_Island) : List api_Running := match x.Sources with
 | [] => s
 | i :: _ => setL (p.Sources.getD i.toNat default) x.Sources s
theorem fstep_length (p : api_Power) (s : List api_Running) (x : api_Island) : (fstep p s x).length = s.length := by
 unfold fstep; split
 ·rfl
 ·rw [setL_length]
theorem fold_length (p : api_Power) : ∀ (l : List api_Island) (s : List api_Running), (l.foldl (fstep p) s).length = s.length
 | [], _ => rfl
 | x :: l, s => by show (l.foldl (fstep p) _).length = _; rw [fold_length p l, fstep_length]
theorem followL_length (b : api_Board) (p : api_Power) : (followL b p).length = p.Sources.length := fold_length p _ _
theorem follow_eq {b : api_Board} (h : BoardOk b) {p : api_Power} (hp : StateOk b p) : F101 b p = some (⟨p.Closed, followL b p, p.Limits, p.Broken⟩, 0) := by
 refine Ok.eq ?_
 unfold F101
 rw [state_ok h hp, clone_eq h hp, islands_eq h hp]
 simp only [Option.bind_some]
 refine Ok.cond (fun hc => by simp at hc) (fun _ => ?_)
 refine Ok.andThen (A := fun s => s = followL b p) (B := fun (_ : Unit) => False) ?_ (fun s hs => Ok.pure (by rw [hs])) (fun _ h => h.elim)
 refine Ok.foldI0 (I := fun j s => s = ((islands b p).take j).foldl (fstep p) p.Sources) rfl (fun j x s hx hs => ?_) fun s hs => ?_
 ·have hi := isl_src (List.mem_of_getElem? hx)
  have hl : s.length = p.Sources.length := by rw [hs, fold_length]
  have hn := hp.nso
  have hnext : ((islands b p).take (j + 1)).foldl (fstep p) p.Sources = fstep p s x := by rw [take_succ' hx, List.foldl_append, ← hs]; rfl
  unfold F101_l0 c101_2
  cases hsrc : x.Sources with
  | nil =>
   refine Ok.cond (fun hc => by simp at hc) (fun _ => Ok.next ?_)
   rw [hnext]; simp [fstep, hsrc]
  | cons i l =>
   have hi0 := hi i (by rw [hsrc]; exact List.mem_cons_self)
   refine Ok.cond (fun _ => ?_) (fun hc => by simp at hc)
   have hg : getI (i :: l) 0 = some i := rfl
   obtain ⟨u, hu⟩ : ∃ u, p.Sources[i.toNat]? = some u := ⟨_, List.getElem?_eq_getElem (by omega)⟩
   have hg2 : getI p.Sources i = some u := by have := getI_nat hu; rwa [Int.toNat_of_nonneg hi0.1] at this
   rw [hg]
   simp only [Option.bind_some]
   rw [hg2]
   simp only [Option.bind_some]
   rw [set_eq (by
    intro k hk
    have := hi k (by rw [hsrc]; exact hk)
    dsimp only
    omega)]
   refine Ok.next ?_
   rw [hnext]
   have : p.Sources.getD i.toNat default = u := by simp [List.getD, hu]
   simp only [fstep, hsrc, this]
 ·rw [List.take_length] at hs; exact hs
end Go.Proofs.YtkngbnedbgndoaaGreat
