import Derived.Test.YtkngbnedbgndoaaGreatPG
namespace Go.Proofs.YtkngbnedbgndoaaGreat
open Go.SL
theorem islands_eq2 {b : api_Board} (h : BoardOk b) {p : api_Power} (hp : StateOk b p) : F106s0 b p = some (islands b p) := islands_eq h hp
def AllOpen (p : api_Power) : Prop := ∀ c, c ∈ p.Closed → c = false
theorem ledO_open {b : api_Board} {p : api_Power} (h : AllOpen p) (k i : Int) : ledO b p k i = none := by
  unfold ledO
  have : ((b.Breakers.zip p.Closed).find? fun z => (z.1.Kind == k && z.1.B == i) && z.2) = none := by
    rw [List.find?_eq_none]
    intro z hz
    rw [h z.2 (List.of_mem_zip hz).2]
    simp
  rw [this]; rfl
theorem conO_open {b : api_Board} {p : api_Power} (h : AllOpen p) (i : Int) : conO b p i = none := by
  unfold conO
  split
  · exact ledO_open h 2 i
  · rfl
theorem srcs_open {b : api_Board} {p : api_Power} (h : AllOpen p) {x : api_Island} (hx : x ∈ islands b p) : x.Sources = [] := by
  unfold islands at hx
  obtain ⟨f, _, rfl⟩ := List.mem_map.1 (List.mem_filter.1 hx).1
  show srcsOf b p b.Sources.length f = []
  unfold srcsOf
  rw [List.map_eq_nil_iff, List.filter_eq_nil_iff]
  intro i _
  rw [conO_open h]
  simp [grpOf]
theorem followL_open {b : api_Board} {p : api_Power} (h : AllOpen p) : followL b p = p.Sources := by
  unfold followL
  have key : ∀ (l : List api_Island) (s : List api_Running), (∀ x, x ∈ l → x.Sources = []) → l.foldl (fstep p) s = s := by
    intro l
    induction l with
    | nil => intro s _; rfl
    | cons x l ih =>
      intro s hl
      show l.foldl (fstep p) (fstep p s x) = s
      have : fstep p s x = s := by unfold fstep; rw [hl x List.mem_cons_self]
      rw [this]
      exact ih s fun y hy => hl y (List.mem_cons_of_mem _ hy)
  exact key _ _ fun x hx => srcs_open h hx
theorem feeds_open {l : List api_Breaker} {c : List Bool} (h : ∀ x, x ∈ c → x = false) (i : Nat) : feeds l c i = [] := by
  unfold feeds
  rw [List.filter_eq_nil_iff]
  intro z hz
  rw [h z.2 (List.of_mem_zip hz).2]
  simp
structure TableOk (y : api_Table) : Prop where
  stop : 1 ≤ y.Stop ∧ y.Stop ≤ 99
  start : y.Stop < y.Start ∧ y.Start ≤ 100
  delay : 0 ≤ y.Delay ∧ y.Delay ≤ 600
theorem table_valid {y : api_Table} (h : TableOk y) : F97 y = true := by
  have h1 := h.stop
  have h2 := h.start
  have h3 := h.delay
  simp only [F97, Bool.and_eq_true, decide_eq_true_eq]
  omega
theorem Table_ok {s : dynposmake_Src} (hs : SrcOk s) : Ok (F44 s) fun y => TableOk y.1 ∧ SrcOk y.2 := by
  unfold F44
  refine (Pick_ok hs _ (by simp) (by simp)).bind fun u hu => (Pick_ok hu.1 _ (by simp) (by simp)).bind fun v hv => (Pick_ok hv.1 _ (by simp) (by simp)).bind fun w hw => Ok.pure ⟨?_, hw.1⟩
  have g1 : u.1 = 60 ∨ u.1 = 80 ∨ u.1 = 100 := by simpa using hu.2
  have g2 : v.1 = 1 ∨ v.1 = 30 ∨ v.1 = 50 := by simpa using hv.2
  have g3 : w.1 = 0 ∨ w.1 = 1 ∨ w.1 = 3 := by simpa using hw.2
  exact ⟨by dsimp only; omega, by dsimp only; omega, by dsimp only; omega⟩
def idleR : api_Roster := ⟨-1, -1⟩
theorem idle1 : F98 1 = some (List.replicate 1 idleR) := by kernel_rfl
theorem idle2 : F98 2 = some (List.replicate 2 idleR) := by kernel_rfl
theorem idle3 : F98 3 = some (List.replicate 3 idleR) := by kernel_rfl
theorem idle4 : F98 4 = some (List.replicate 4 idleR) := by kernel_rfl
theorem idle5 : F98 5 = some (List.replicate 5 idleR) := by kernel_rfl
theorem idle6 : F98 6 = some (List.replicate 6 idleR) := by kernel_rfl
theorem idle_eq {n : Int} (h : 1 ≤ n ∧ n ≤ 6) : F98 n = some (List.replicate n.toNat idleR) := by
  have : n = 1 ∨ n = 2 ∨ n = 3 ∨ n = 4 ∨ n = 5 ∨ n = 6 := by omega
  rcases this with rfl | rfl | rfl | rfl | rfl | rfl
  · exact idle1
  · exact idle2
  · exact idle3
  · exact idle4
  · exact idle5
  · exact idle6
def offR : api_Running := ⟨0, 0, 5000, 0⟩
theorem rep0 : F99 [offR] 0 = some (List.replicate 0 offR) := by kernel_rfl
theorem rep1 : F99 [offR] 1 = some (List.replicate 1 offR) := by kernel_rfl
theorem rep2 : F99 [offR] 2 = some (List.replicate 2 offR) := by kernel_rfl
theorem rep3 : F99 [offR] 3 = some (List.replicate 3 offR) := by kernel_rfl
theorem rep4 : F99 [offR] 4 = some (List.replicate 4 offR) := by kernel_rfl
theorem rep5 : F99 [offR] 5 = some (List.replicate 5 offR) := by kernel_rfl
theorem rep6 : F99 [offR] 6 = some (List.replicate 6 offR) := by kernel_rfl
theorem rep7 : F99 [offR] 7 = some (List.replicate 7 offR) := by kernel_rfl
theorem rep8 : F99 [offR] 8 = some (List.replicate 8 offR) := by kernel_rfl
theorem rep_off {n : Nat} (h : n ≤ 8) : F99 [offR] (n : Int) = some (List.replicate n offR) := by
  have : n = 0 ∨ n = 1 ∨ n = 2 ∨ n = 3 ∨ n = 4 ∨ n = 5 ∨ n = 6 ∨ n = 7 ∨ n = 8 := by omega
  rcases this with rfl | rfl | rfl | rfl | rfl | rfl | rfl | rfl | rfl
  · exact rep0
  · exact rep1
  · exact rep2
  · exact rep3
  · exact rep4
  · exact rep5
  · exact rep6
  · exact rep7
  · exact rep8
def newPower (b : api_Board) : api_Power := ⟨List.replicate b.Breakers.length false, List.replicate b.Sources.length offR, b.Consumers.map (·.Load), []⟩
def newP (b : api_Board) : api_Plant := ⟨0, newPower b, List.replicate b.Buses.toNat idleR, []⟩
theorem newPower_open (b : api_Board) : AllOpen (newPower b) := fun _ hc => (List.mem_replicate.1 hc).2
theorem newPower_ok {b : api_Board} (h : BoardOk b) : StateOk b (newPower b) where
  ncl := by simp [newPower]
  nso := by simp [newPower]
  nli := by simp [newPower]
  run x hx := by
    have := (List.mem_replicate.1 hx).2
    subst this
    exact ⟨by decide, by decide, by decide, by decide⟩
  lim i n c hn hc := by
    simp only [newPower, List.getElem?_map, hc] at hn
    cases hn
    have := (h.co i c hc).1
    exact ⟨this.1, Int.le_refl _⟩
  one i _ := by rw [feeds_open (newPower_open b)]; simp
  brk := ⟨by simp [newPower], fun x hx => by simp [newPower] at hx, fun j x y hx => by simp [newPower] at hx⟩
theorem new_eq {b : api_Board} (h : BoardOk b) {y : api_Table} (hy : TableOk y) : F45 b y = some (newP b, 0) := by
  have h1 := h.buses
  have h2 := h.brl
  have h3 := h.sol
  have h4 := h.col
  refine Ok.eq ?_
  unfold F45
  rw [check_ok h, table_valid hy, idle_eq h1]
  have hr := rep_off h3
  unfold offR at hr
  rw [hr]
  simp only [Option.bind_some]
  refine Ok.cond (fun hc => by simp at hc) (fun _ => Ok.cond (fun hc => by simp at hc) (fun _ => ?_))
  refine (Ok.mkI (by omega) (by omega)).bind fun z hz => ?_
  refine Ok.andThen (A := fun s => s = b.Consumers.map (·.Load)) (B := fun (_ : Unit) => False) ?_ (fun s hs => Ok.pure ?_) (fun _ h => h.elim)
  · refine Ok.foldI0 (I := fun j s => s = (b.Consumers.take j).map (·.Load)) rfl (fun j x s hx hs => ?_) fun s hs => ?_
    · have hj := (List.getElem?_eq_some_iff.1 hx).1
      unfold F45_l0
      refine (Ok.appI (by rw [hs]; simp; omega)).bind fun t ht => Ok.next ?_
      rw [ht, hs, take_succ' hx, List.map_append]; rfl
    · rw [List.take_length] at hs; exact hs
  · rw [hz, hs, Int.toNat_natCast]; rfl
def RosOk (t : Int) (x : api_Roster) : Prop := (-1 ≤ x.High ∧ x.High ≤ t) ∧ -1 ≤ x.Low ∧ x.Low ≤ t
theorem rosters_ok {p : api_Plant} {l : List api_Roster} (h : ∀ x, x ∈ l → RosOk p.Time x) : F103s0 l p = some (false, p) := by
  refine Ok.eq ?_
  unfold F103s0 F184s0
  refine Ok.bind (P := fun y => y = (-1, p)) ?_ (fun y hy => Ok.pure (by rw [hy]; rfl))
  refine Ok.andThen (A := fun s => s = (p.Time, p.Power.Closed, p.Power.Sources, p.Power.Limits, p.Power.Broken, p.Rosters, p.Events)) (B := fun _ => False) ?_ (fun s hs => Ok.pure (by rw [hs])) (fun _ h => h.elim)
  refine Ok.foldI0 (I := fun _ s => s = (p.Time, p.Power.Closed, p.Power.Sources, p.Power.Limits, p.Power.Broken, p.Rosters, p.Events)) rfl (fun j x s hx hs => ?_) fun s hs => hs
  have hr := h x (List.mem_of_getElem? hx)
  unfold RosOk at hr
  subst hs
  unfold F184s0_l0
  refine Ok.cond (fun hc => ?_) (fun _ => Ok.next rfl)
  simp only [c184s0_1, F104s0, F102s0, Bool.or_eq_true, Bool.not_eq_true', Bool.and_eq_false_iff, decide_eq_false_iff_not] at hc
  omega
structure PlantOk (b : api_Board) (y : api_Table) (p : api_Plant) : Prop where
  st : StateOk b p.Power
  fol : followL b p.Power = p.Power.Sources
  time : 0 ≤ p.Time ∧ p.Time ≤ 2147483648
  nro : p.Rosters.length = b.Buses.toNat
  ros : ∀ x, x ∈ p.Rosters → RosOk p.Time x
theorem plantCheck_ok {b : api_Board} (h : BoardOk b) {y : api_Table} (hy : TableOk y) {p : api_Plant} (hp : PlantOk b y p) : F47 b y p = some 0 := by
  have h1 := h.buses
  have h2 := hp.time
  have h3 := hp.nro
  refine Ok.eq ?_
  unfold F47
  rw [follow_eq h hp.st]
  simp only [Option.bind_some, hp.fol]
  refine Ok.cond (fun hc => by simp at hc) (fun _ => Ok.cond (fun hc => ?_) (fun _ => Ok.cond (fun hc => ?_) (fun _ => ?_)))
  · simp only [c47_0, table_valid hy, Bool.not_true, Bool.false_or, Bool.or_eq_true, decide_eq_true_eq] at hc
    omega
  · simp only [bne_iff_ne, ne_eq] at hc
    omega
  · have e : (⟨p.Power.Closed, p.Power.Sources, p.Power.Limits, p.Power.Broken⟩ : api_Power) = p.Power := rfl
    rw [e, same_refl (hp.st.lens h)]
    simp only [Option.bind_some]
    rw [rosters_ok hp.ros]
    have e2 : guardO [((!true), false)] (some (false, p)) (default, p) = some (false, p) := rfl
    rw [e2]
    exact Ok.pure rfl
end Go.Proofs.YtkngbnedbgndoaaGreat
