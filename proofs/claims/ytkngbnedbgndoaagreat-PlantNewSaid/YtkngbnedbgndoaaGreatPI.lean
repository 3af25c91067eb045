import Derived.Test.YtkngbnedbgndoaaGreatPH
namespace Go.Proofs.YtkngbnedbgndoaaGreat
open Go.SL
theorem known7 (b : api_Board) : F69 b ⟨7, 0, 0⟩ = some true := rfl
def AllOff (p : api_Power) : Prop := ∀ x, x ∈ p.Sources → x.State = 0
theorem turn_off {b : api_Board} (h : BoardOk b) {p : api_Power} (hp : StateOk b p) (ho : AllOff p) : F217 b p = some (p, 0) := by
  refine Ok.eq ?_
  unfold F217
  rw [state_ok h hp, clone_eq h hp]
  simp only [Option.bind_some]
  refine Ok.cond (fun hc => by simp at hc) (fun _ => ?_)
  refine Ok.andThen (A := fun s => s = p.Sources) (B := fun (_ : Unit) => False) ?_ (fun s hs => Ok.pure (by rw [hs])) (fun _ h => h.elim)
  refine Ok.foldI0 (I := fun _ s => s = p.Sources) rfl (fun j x s hx hs => ?_) fun s hs => hs
  unfold F217_l0
  refine Ok.cond (fun hc => ?_) (fun _ => Ok.next hs)
  have := ho x (List.mem_of_getElem? hx)
  rw [this] at hc; simp at hc
theorem wait_off {b : api_Board} (h : BoardOk b) {p : api_Power} (hp : StateOk b p) (ho : AllOff p) (t : Int) : F148s1 ⟨b, p, t⟩ = some ⟨b, p, t⟩ := by
  have h1 := h.sol
  have h2 := hp.nso
  refine Ok.eq ?_
  unfold F148s1
  rw [turn_off h hp ho]
  simp only [Option.bind_some]
  refine Ok.andThen (A := fun s => s.2 = p.Sources) (B := fun (_ : Unit) => False) ?_ (fun s hs => Ok.pure (by rw [hs])) (fun _ h => h.elim)
  refine Ok.whileN (fun s => (0 ≤ s.1 ∧ s.1 ≤ (p.Sources.length : Int)) ∧ s.2 = p.Sources) (fun s => ((p.Sources.length : Int) - s.1).toNat) _ _ ?_ ?_ ?_
  · exact ⟨by dsimp only; omega, rfl⟩
  · dsimp only; omega
  · rintro ⟨i, s⟩ ⟨⟨h3, h4⟩, h5⟩
    dsimp only at h3 h4 h5
    subst h5
    unfold F148s1_l0 c148s1_3
    dsimp only
    refine Ok.cond (fun hq => ?_) (fun _ => Ok.brk rfl)
    simp only [decide_eq_true_eq] at hq
    refine (Ok.getI h3 hq).bind fun u hu => ?_
    have hs := ho u (List.mem_of_getElem? hu)
    have hb : (u.State == 1) = false := by rw [hs]; rfl
    refine Ok.bind (P := fun _ => True) (Ok.guard (fun hg => absurd hg.1 (by rw [hb]; simp)) fun _ => trivial) fun y6 _ => ?_
    refine Ok.bind (P := fun _ => True) (Ok.guard (fun hg => absurd hg.1 (by rw [hb]; simp)) fun _ => trivial) fun y8 _ => ?_
    refine Ok.cond (fun hc => by simp [c148s1_4, hb] at hc) (fun _ => Ok.next ⟨⟨?_, rfl⟩, ?_⟩)
    · dsimp only; rw [w64_in (by omega)]; omega
    · dsimp only; rw [w64_in (by omega)]; omega
theorem actWait_off {b : api_Board} (h : BoardOk b) {p : api_Power} (hp : StateOk b p) (ho : AllOff p) {t : Int} (ht : 0 ≤ t ∧ t ≤ 2147483648) : F19 b p t ⟨7, 0, 0⟩ = some (p, 0) := by
  refine Ok.eq ?_
  unfold F19
  rw [state_ok h hp, known7, clone_eq h hp]
  simp only [Option.bind_some]
  refine Ok.cond (fun hc => by simp at hc) (fun _ => Ok.cond (fun hc => ?_) (fun _ => Ok.cond (fun hc => by simp at hc) (fun _ => ?_)))
  · simp [c19_0] at hc; omega
  · have : F71s1 ⟨b, p, t⟩ ⟨7, 0, 0⟩ = some (0, ⟨b, p, t⟩) := by
      unfold F71s1
      rw [wait_off h hp ho]; rfl
    rw [this]
    exact Ok.pure rfl
theorem schedule_open {b : api_Board} (h : BoardOk b) {y : api_Table} {r : plant_runner} (hb : r.board = b) (hp : StateOk b r.Plant.Power) (ho : AllOpen r.Plant.Power) :
    F181s1 r y = some ⟨⟨r.Plant.Time, r.Plant.Power, List.replicate b.Buses.toNat idleR, r.Plant.Events⟩, b, r.events, r.states⟩ := by
  subst hb
  refine Ok.eq ?_
  unfold F181s1
  rw [idle_eq h.buses, islands_eq2 h hp]
  simp only [Option.bind_some]
  refine Ok.andThen (A := fun s => s = (r.Plant.Time, r.board.Buses, r.board.Breakers, r.board.Sources, r.board.Consumers, r.board.Phase, r.board.Frequency, List.replicate r.board.Buses.toNat idleR, r.Plant.Power.Closed, r.Plant.Power.Sources, r.Plant.Power.Limits, r.Plant.Power.Broken, r.Plant.Rosters, r.Plant.Events, r.events, r.states)) (B := fun (_ : Unit) => False) ?_ (fun s hs => Ok.pure (by rw [hs])) (fun _ h => h.elim)
  refine Ok.foldI0 (I := fun _ s => s = (r.Plant.Time, r.board.Buses, r.board.Breakers, r.board.Sources, r.board.Consumers, r.board.Phase, r.board.Frequency, List.replicate r.board.Buses.toNat idleR, r.Plant.Power.Closed, r.Plant.Power.Sources, r.Plant.Power.Limits, r.Plant.Power.Broken, r.Plant.Rosters, r.Plant.Events, r.events, r.states)) rfl (fun j x s hx hs => ?_) fun s hs => hs
  have hmem := List.mem_of_getElem? hx
  have hsrc := srcs_open ho hmem
  have hfull : full x = true := (List.mem_filter.1 hmem).2
  have hne : 0 < x.Buses.length := by
    unfold full at hfull
    simp only [Bool.not_eq_true', beq_eq_false_iff_ne, ne_eq] at hfull
    omega
  subst hs
  unfold F181s1_l0
  refine (Ok.getI (by omega) (by omega)).bind fun bus _ => ?_
  rw [hsrc]
  refine Ok.bind (P := fun _ => True) (Ok.guard (fun hg => absurd hg.1 (by simp)) fun _ => trivial) fun y7 _ => ?_
  refine Ok.cond (fun _ => Ok.next rfl) (fun hc => ?_)
  simp [c181s1_2, hsrc] at hc
theorem begin_eq {b : api_Board} (h : BoardOk b) {p : api_Plant} (hp : StateOk b p.Power) (h1 : p.Rosters.length ≤ 1000) (h2 : p.Events.length ≤ 1000) : F119 b p = some ⟨p, b, [], []⟩ := by
  unfold F119 F202 F182
  rw [clone_eq h hp, app0 (by omega), app0 (by omega)]
  rfl
theorem keep_eq {b : api_Board} (h : BoardOk b) {r : plant_runner} {p : api_Power} (hp : StateOk b p) (h1 : r.states.length ≤ 100000) : F180s1 r p = some ⟨r.Plant, r.board, r.events, r.states ++ [p]⟩ := by
  refine Ok.eq ?_
  unfold F180s1
  rw [clone_eq h hp]
  simp only [Option.bind_some]
  exact (Ok.appI (by simp; omega)).bind fun s hs => Ok.pure (by rw [hs])
theorem keep_eq3 {b : api_Board} (h : BoardOk b) {r : plant_runner} {p : api_Power} (hp : StateOk b r.Plant.Power) (h1 : r.states.length ≤ 100000) : F180s3 r p = some ⟨r.Plant, r.board, r.events, r.states ++ [r.Plant.Power]⟩ := by
  refine Ok.eq ?_
  unfold F180s3
  rw [clone_eq h hp]
  simp only [Option.bind_some]
  exact (Ok.appI (by simp; omega)).bind fun s hs => Ok.pure (by rw [hs])
theorem newP_ok {b : api_Board} (h : BoardOk b) (y : api_Table) : PlantOk b y (newP b) where
  st := newPower_ok h
  fol := followL_open (newPower_open b)
  time := by simp [newP]
  nro := by simp [newP]
  ros x hx := by
    have := (List.mem_replicate.1 hx).2
    subst this
    exact ⟨by simp [idleR, newP], by simp [idleR, newP]⟩
theorem newP_off (b : api_Board) : AllOff (newP b).Power := fun x hx => by
  have := (List.mem_replicate.1 hx).2
  subst this; rfl
theorem tick_new {b : api_Board} (h : BoardOk b) {y : api_Table} (hy : TableOk y) : Ok (F100 b y (newP b) []) fun r => r.2 = 0 ∧ r.1.events = [] ∧ r.1.Plant = ⟨1, newPower b, List.replicate b.Buses.toNat idleR, []⟩ := by
  have hp := newP_ok h y
  have hs := newPower_ok h
  have hbu := h.buses
  unfold F100
  rw [plantCheck_ok h hy hp]
  simp only [Option.bind_some]
  refine Ok.cond (fun hc => by simp at hc) (fun _ => Ok.cond (fun hc => by simp at hc) (fun _ => Ok.cond (fun hc => by simp [newP] at hc) (fun _ => ?_)))
  rw [begin_eq h hs (by simp [newP]; omega) (by simp [newP])]
  simp only [Option.bind_some]
  have e0 : (newP b).Power = newPower b := rfl
  rw [e0, keep_eq h hs (by simp)]
  simp only [Option.bind_some, foldI, andThen]
  have e1 := schedule_open h (y := y) (r := ⟨newP b, b, [], [newPower b]⟩) rfl hs (newPower_open b)
  refine Ok.bind (P := fun v => v = (⟨⟨0, newPower b, List.replicate b.Buses.toNat idleR, []⟩, b, [], [newPower b]⟩ : plant_runner)) (Ok.of_eq e1 rfl) fun v hv => ?_
  subst hv
  have e3 := actWait_off h hs (newP_off b) (t := 0) (by omega)
  refine Ok.bind (P := fun v => v = (newPower b, (0 : Int))) (Ok.of_eq e3 rfl) fun v hv => ?_
  subst hv
  have e5 := keep_eq3 h (r := ⟨⟨0, newPower b, List.replicate b.Buses.toNat idleR, []⟩, b, [], [newPower b]⟩) (p := newPower b) hs (by simp)
  refine Ok.bind (P := fun v => v = (⟨⟨0, newPower b, List.replicate b.Buses.toNat idleR, []⟩, b, [], [newPower b] ++ [newPower b]⟩ : plant_runner)) (Ok.of_eq e5 rfl) fun v hv => ?_
  subst hv
  refine (Ok.appI (by simp)).bind fun u hu => ?_
  subst hu
  refine (Ok.cutI (by simp; omega) (by simp; decide) (by simp)).bind fun v hv => ?_
  have hv0 : v = [] := by rw [hv]; rfl
  subst hv0
  unfold F182
  rw [app0 (by simp)]
  exact Ok.pure ⟨rfl, rfl, rfl⟩
theorem step_new {b : api_Board} (h : BoardOk b) {y : api_Table} (hy : TableOk y) : F46 b y (newP b) [] = some (⟨1, newPower b, List.replicate b.Buses.toNat idleR, []⟩, [], 0) := by
  refine Ok.eq ?_
  unfold F46
  refine (tick_new h hy).bind fun r hr => ?_
  obtain ⟨h1, h2, h3⟩ := hr
  refine Ok.cond (fun hc => by rw [h1] at hc; simp at hc) (fun _ => Ok.pure ?_)
  rw [h2, h3]
theorem blackIdx (l : List api_Island) (h : l.length ≤ 1000) : F105s0 l = some (l.any fun x => decide ((x.Sources.length : Int) > 0)) := by
  unfold F105s0 F185s1
  rw [search_eq (fun x : api_Island => decide ((x.Sources.length : Int) > 0)) (fun i y => rfl) l (by omega)]
  simp only [Option.bind_some, idxI_any]
theorem black_open {b : api_Board} (h : BoardOk b) {p : api_Power} (hp : StateOk b p) (ho : AllOpen p) : F48 b p = some true := by
  have h1 := h.buses
  have h2 := islands_length b p
  unfold F48
  rw [state_ok h hp, islands_eq h hp]
  have e1 : guardO [(((0 : Int) == 0), true)] (some (islands b p)) default = some (islands b p) := rfl
  simp only [Option.bind_some]
  rw [e1]
  simp only [Option.bind_some]
  rw [blackIdx _ (by omega)]
  have e2 : ((islands b p).any fun x => decide ((x.Sources.length : Int) > 0)) = false := by
    rw [List.any_eq_false]
    intro x hx
    rw [srcs_open ho hx]; simp
  rw [e2]; rfl
theorem sane21 : F49 = some true := by kernel_rfl
theorem plantNew_law (t : List Int) : F9 t = some true := by
  refine Ok.eq ?_
  unfold F9
  refine (New_ok t).bind fun s hs => (Board_ok hs).bind fun b hb => (Table_ok hb.2).bind fun y hy => ?_
  have h := hb.1.ok
  have ht := hy.1
  rw [new_eq h ht]
  simp only [Option.bind_some]
  rw [step_new h ht]
  simp only [Option.bind_some]
  have e1 : guardO [((((0 : Int) != 0) || ((0 : Int) != 0)), false)] (F47 b.1 y.1 (newP b.1)) default = some 0 := by
    rw [plantCheck_ok h ht (newP_ok h y.1)]; rfl
  rw [e1]
  simp only [Option.bind_some]
  have e2 : guardO [(((((0 : Int) != 0) || ((0 : Int) != 0)) || ((0 : Int) != 0)), false)] (F48 b.1 (newP b.1).Power) default = some true := by
    have : (newP b.1).Power = newPower b.1 := rfl
    rw [this, black_open h (newPower_ok h) (newPower_open b.1)]; rfl
  rw [e2]
  simp only [Option.bind_some]
  have hl := (newPower_ok h).lens h
  have e3 : ∀ g, guardO [(g, false)] (F26 (newP b.1).Power (newPower b.1)) default = some true ∨ g = true := by
    intro g
    cases g with
    | true => exact .inr rfl
    | false =>
      left
      have : (newP b.1).Power = newPower b.1 := rfl
      rw [this, refSame_refl hl]; rfl
  refine Ok.bind (P := fun v => v = true) ?_ fun v hv => ?_
  · rcases e3 (((((((0 : Int) != 0) || ((0 : Int) != 0)) || ((0 : Int) != 0)) || (!true)) || (decide (((([] : List api_Event).length : Nat) : Int) > 0))) || ((1 : Int) != 1)) with e | e
    · exact Ok.of_eq e rfl
    · simp at e
  · subst hv
    refine Ok.cond (fun hc => ?_) (fun _ => ?_)
    · have hn : (newP b.1).Power.Closed.length = b.1.Breakers.length := (newPower_ok h).ncl
      simp [c9_0, hn] at hc
    · rw [all_fold _ 0 fun j x hj => ?_]
      · simp only [andThen, sane21, Option.bind_some]
        exact Ok.pure rfl
      · have hx := newPower_open b.1 x (List.mem_of_getElem? hj)
        subst hx
        rfl
end Go.Proofs.YtkngbnedbgndoaaGreat
