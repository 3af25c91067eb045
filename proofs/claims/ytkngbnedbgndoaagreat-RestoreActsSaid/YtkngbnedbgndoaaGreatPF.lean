import Derived.Test.YtkngbnedbgndoaaGreatPE
namespace Go.Proofs.YtkngbnedbgndoaaGreat
open Go.SL
def full (x : api_Island) : Bool := !((x.Buses.length : Int) == 0)
theorem delI_idx (l : List api_Island) (h : l.length ≤ 9223372036854775807) : F185s0 l = some (idxI (fun x => (x.Buses.length : Int) == 0) l) := by
 unfold F185s0
 exact search_eq (fun x : api_Island => (x.Buses.length : Int) == 0) (fun i y => rfl) l h
theorem delI_eq (l : List api_Island) (hl : l.length ≤ 1000) : F189s1 l = some (l.filter full) := by
 refine Ok.eq ?_
 unfold F189s1
 rw [delI_idx l (by omega)]
 simp only [Option.bind_some]
 unfold idxI
 cases hf : l.findIdx? fun x => (x.Buses.length : Int) == 0 with
 | none =>
  rw [List.findIdx?_eq_none_iff] at hf
  refine Ok.cond (fun _ => Ok.pure ?_) (fun hc => by simp at hc)
  rw [eq_comm, List.filter_eq_self]
  intro x hx
  simp only [full, hf x hx]; rfl
 | some i =>
  rw [List.findIdx?_eq_some_iff_getElem] at hf
  obtain ⟨hi, hp, hn⟩ := hf
  refine Ok.cond (fun hc => ?_) (fun _ => ?_)
  ·simp only [beq_iff_eq] at hc; omega
  have e1 : w64 ((i : Int) + 1) = (i : Int) + 1 := w64_in (by omega)
  simp only [e1]
  refine Ok.andThen (A := fun s => 0 ≤ s.1 ∧ s.1 ≤ (l.length : Int) ∧ s.2.2.length = l.length ∧ s.2.2.take s.1.toNat = l.filter full) (B := fun (_ : Unit) => False) ?_ ?_ (fun _ h => h.elim)
  ·refine Ok.whileN (fun s => (0 ≤ s.1 ∧ s.1 < s.2.1 ∧ s.2.1 ≤ (l.length : Int)) ∧ s.2.2.length = l.length ∧ s.2.2.take s.1.toNat = (l.take s.2.1.toNat).filter full ∧ s.2.2.drop s.2.1.toNat = l.drop s.2.1.toNat) (fun s => ((l.length : Int) - s.2.1).toNat) _ _ ?_ ?_ ?_
   ·refine ⟨by dsimp only; omega, rfl, ?_, rfl⟩
    dsimp only
    have e2 : ((i : Int) + 1).toNat = i + 1 := by omega
    rw [e2, Int.toNat_natCast, take_succ' (List.getElem?_eq_getElem hi), List.filter_append]
    have h1 : (l.take i).filter full = l.take i := by
     rw [List.filter_eq_self]
     intro x hx
     obtain ⟨j, hj, rfl⟩ := List.getElem_of_mem hx
     simp only [List.length_take] at hj
     rw [List.getElem_take]
     have := hn j (by omega)
     simp only [full]
     simpa using this
    have h2 : full l[i] = false := by simp only [full, hp]; rfl
    rw [h1]
    simp [h2]
   ·dsimp only; omega
   ·rintro ⟨a, j, m⟩ ⟨⟨h1, h2, h3⟩, h4, h5, h6⟩
    dsimp only at h1 h2 h3 h4 h5 h6
    unfold F189s1_l0 c189s1_2
    dsimp only
    refine Ok.cond (fun hq => ?_) (fun hq => ?_)
    ·simp only [decide_eq_true_eq] at hq
     have e1 : w64 (j + 1) = j + 1 := w64_in (by omega)
     have e2 : w64 (a + 1) = a + 1 := w64_in (by omega)
     have e3 : (j + 1).toNat = j.toNat + 1 := by omega
     have e4 : (a + 1).toNat = a.toNat + 1 := by omega
     refine (Ok.getI (by omega) (by omega)).bind fun y hy => ?_
     have hyl : l[j.toNat]? = some y := by
      have := congrArg (·[0]?) h6
      simp only [List.getElem?_drop, Nat.add_zero] at this
      rw [← this]; exact hy
     have hdrop : ∀ (q : List api_Island), q.drop j.toNat = l.drop j.toNat → q.drop (j.toNat + 1) = l.drop (j.toNat + 1) := fun q hq => by
      rw [← List.drop_drop, hq, List.drop_drop]
     refine Ok.cond (fun hf => ?_) (fun hf => ?_)
     ·refine (Ok.getI (by omega) (by omega)).bind fun _ _ => (Ok.setI (by omega) (by omega)).bind fun z hz => ?_
      rw [e1, e2]
      subst hz
      refine Ok.next ⟨⟨by dsimp only; omega, by simpa using h4, ?_, ?_⟩, by dsimp only; omega⟩
      ·dsimp only
       rw [e3, e4, take_succ' hyl, List.filter_append, ← h5]
       have hfl : full y = true := hf
       rw [take_succ' (x := y) (by rw [List.getElem?_set_self (by omega)])]
       simp [hfl, List.take_set_of_le]
      ·dsimp only
       rw [e3, List.drop_set_of_lt (by omega)]
       exact hdrop m h6
     ·rw [e1]
      refine Ok.next ⟨⟨by dsimp only; omega, h4, ?_, ?_⟩, by dsimp only; omega⟩
      ·dsimp only
       have hfl : full y = false := hf
       rw [e3, take_succ' hyl, List.filter_append, ← h5]
       simp [hfl]
      ·dsimp only
       rw [e3]; exact hdrop m h6
    ·simp only [decide_eq_false_iff_not] at hq
     have e : j.toNat = l.length := by omega
     refine Ok.brk ⟨h1, by dsimp only; omega, h4, ?_⟩
     dsimp only
     rw [h5, e, List.take_length]
  ·rintro ⟨a, j, m⟩ ⟨h1, h2, h3, h4⟩
   dsimp only at h1 h2 h3 h4 ⊢
   have hc : (clrI m a.toNat ((Int.toNat (m.length : Int)) - a.toNat) (⟨([] : List Int), ([] : List Int), ([] : List Int)⟩ : api_Island)).length = l.length := by
    simp [clrI]; omega
   refine (Ok.bndI h1 (by omega) (by omega)).bind fun _ _ => (Ok.bndI (by omega) h1 (by rw [hc]; omega)).bind fun _ _ => Ok.pure ?_
   rw [← h4]
   unfold clrI
   rw [Nat.sub_zero, List.take_append_of_le_length (by simp; omega), List.take_take, Nat.min_self]
def grpOf (b : api_Board) (p : api_Power) (o : Option Int) : Option Int := o.map fun a => (groups b p).getD a.toNat 0
def busesOf (b : api_Board) (p : api_Power) (n f : Nat) : List Int := ((List.range n).filter fun (i : Nat) => (groups b p).getD i 0 == (f : Int)).map fun (i : Nat) => (i : Int)
def srcsOf (b : api_Board) (p : api_Power) (n f : Nat) : List Int := ((List.range n).filter fun (i : Nat) => grpOf b p (conO b p (i : Int)) == some (f : Int)).map fun (i : Nat) => (i : Int)
def consOf (b : api_Board) (p : api_Power) (n f : Nat) : List Int := ((List.range n).filter fun (i : Nat) => grpOf b p (ledO b p 3 (i : Int)) == some (f : Int)).map fun (i : Nat) => (i : Int)
def isl (b : api_Board) (p : api_Power) (f : Nat) : api_Island := ⟨busesOf b p b.Buses.toNat f, srcsOf b p b.Sources.length f, consOf b p b.Consumers.length f⟩
def islands (b : api_Board) (p : api_Power) : List api_Island := ((List.range b.Buses.toNat).map (isl b p)).filter full
theorem filt_succ (q : Nat → Bool) (n : Nat) : ((List.range (n + 1)).filter q).map (fun (i : Nat) => (i : Int)) = ((List.range n).filter q).map (fun (i : Nat) => (i : Int)) ++ if q n = true then [(n : Int)] else [] := by
 rw [List.range_succ, List.filter_append, List.map_append]
 congr 1
 cases h : q n <;> simp [h]
theorem filt_len (q : Nat → Bool) (n : Nat) : (((List.range n).filter q).map (fun (i : Nat) => (i : Int))).length ≤ n := by
 have := List.length_filter_le q (List.range n)
 simpa using this
theorem islands_eq {b : api_Board} (h : BoardOk b) {p : api_Power} (hp : StateOk b p) : F106 b p = some (islands b p) := by
 have hbu := h.buses
 have hso := h.sol
 have hco := h.col
 have hgl := groups_length b p
 have hglo := groups_lo h p
 refine Ok.eq ?_
 unfold F106
 rw [state_ok h hp]
 simp only [Option.bind_some]
 refine Ok.cond (fun hc => by simp at hc) (fun _ => ?_)
 rw [groups_eq h hp.ncl]
 simp only [Option.bind_some]
 refine (Ok.mkI (by omega) (by omega)).bind fun y hy => ?_
 have hget : ∀ (i : Nat), i < b.Buses.toNat → (groups b p)[i]? = some ((groups b p).getD i 0) := fun i hi => by
  have : i < (groups b p).length := by omega
  simp [List.getD, List.getElem?_eq_getElem this]
 refine Ok.andThen (A := fun s => s = (List.range b.Buses.toNat).map fun f => (⟨busesOf b p b.Buses.toNat f, [], []⟩ : api_Island)) (B := fun (_ : Unit) => False) ?_ ?_ (fun _ h => h.elim)
 ·refine Ok.foldI0 (I := fun j s => s = (List.range b.Buses.toNat).map fun f => (⟨busesOf b p j f, [], []⟩ : api_Island)) ?_ (fun j x s hx hs => ?_) fun s hs => ?_
  ·rw [hy, rep_range]; rfl
  ·subst hs
   have hj : j < b.Buses.toNat := by have := (List.getElem?_eq_some_iff.1 hx).1; omega
   have hlo := hglo j x hx
   have hxe : (groups b p).getD j 0 = x := by simp [List.getD, hx]
   have hcnt : cnt 0 j = (j : Int) := cnt0 (by omega)
   unfold F106_l0
   rw [hcnt]
   refine (Ok.getR (by omega) (by omega)).bind fun u hu => ?_
   subst hu
   have hl : (busesOf b p j x.toNat).length ≤ j := filt_len _ _
   refine (Ok.appI (by simp; omega)).bind fun v hv => (Ok.setR (by omega) (by omega)).bind fun w hw => Ok.next ?_
   rw [hw]
   refine List.map_congr_left fun f _ => ?_
   unfold busesOf
   rw [filt_succ, hxe]
   by_cases e : f = x.toNat
   ·subst e
    rw [if_pos rfl, if_pos (by simp; omega), hv]
    rfl
   ·rw [if_neg e, if_neg (by simp; omega), List.append_nil]
  ·rw [hgl] at hs; exact hs
 ·rintro s rfl
  refine Ok.andThen (A := fun s => s.2 = (List.range b.Buses.toNat).map fun f => (⟨busesOf b p b.Buses.toNat f, srcsOf b p b.Sources.length f, []⟩ : api_Island)) (B := fun (_ : Unit) => False) ?_ ?_ (fun _ h => h.elim)
  ·refine Ok.whileN (fun s => (0 ≤ s.1 ∧ s.1 ≤ (b.Sources.length : Int)) ∧ s.2 = (List.range b.Buses.toNat).map fun f => (⟨busesOf b p b.Buses.toNat f, srcsOf b p s.1.toNat f, []⟩ : api_Island)) (fun s => ((b.Sources.length : Int) - s.1).toNat) _ _ ?_ ?_ ?_
   ·exact ⟨by dsimp only; omega, rfl⟩
   ·dsimp only; omega
   ·rintro ⟨i, s⟩ ⟨⟨h1, h2⟩, h3⟩
    dsimp only at h1 h2 h3
    subst h3
    unfold F106_l1 c106_1
    dsimp only
    refine Ok.cond (fun hq => ?_) (fun hq => ?_)
    ·simp only [decide_eq_true_eq] at hq
     have e1 : w64 (i + 1) = i + 1 := w64_in (by omega)
     have e2 : (i + 1).toNat = i.toNat + 1 := by omega
     have e3 : ((i.toNat : Nat) : Int) = i := by omega
     rw [connected_eq h hp]
     simp only [Option.bind_some]
     cases hcn : conO b p i with
     | none =>
      refine Ok.cond (fun hc => by simp [flag] at hc) (fun _ => ?_)
      rw [e1]
      refine Ok.next ⟨⟨by dsimp only; omega, ?_⟩, by dsimp only; omega⟩
      dsimp only
      rw [e2]
      refine List.map_congr_left fun f _ => ?_
      unfold srcsOf
      rw [filt_succ, e3, hcn, if_neg (by simp [grpOf]), List.append_nil]
     | some a =>
      have hab := conO_bus h hcn
      have hga := hget a.toNat (by omega)
      have hgla := hglo _ _ hga
      refine Ok.cond (fun _ => ?_) (fun hc => by simp [flag] at hc)
      have hg2 : getI (groups b p) a = some ((groups b p).getD a.toNat 0) := by have := getI_nat hga; rwa [Int.toNat_of_nonneg hab.1] at this
      simp only [flag, hg2, Option.bind_some]
      generalize hge : (groups b p).getD a.toNat 0 = ga at hgla
      refine (Ok.getR (by omega) (by omega)).bind fun u hu => ?_
      subst hu
      have hl : (srcsOf b p i.toNat ga.toNat).length ≤ i.toNat := filt_len _ _
      refine (Ok.appI (by simp; omega)).bind fun v hv => (Ok.setR (by omega) (by omega)).bind fun w hw => ?_
      rw [e1]
      refine Ok.next ⟨⟨by dsimp only; omega, ?_⟩, by dsimp only; omega⟩
      dsimp only
      rw [hw, e2]
      refine List.map_congr_left fun f _ => ?_
      unfold srcsOf
      rw [filt_succ, e3, hcn]
      simp only [grpOf, Option.map_some, hge]
      by_cases e : f = ga.toNat
      ·subst e
       rw [if_pos rfl, if_pos (by simp; omega), hv]
       rfl
      ·rw [if_neg e, if_neg (by simp; omega), List.append_nil]
    ·simp only [decide_eq_false_iff_not] at hq
     have e : i.toNat = b.Sources.length := by omega
     rw [e]
     exact Ok.brk rfl
  ·rintro ⟨i0, s⟩ hs
   dsimp only at hs
   subst hs
   dsimp only
   refine Ok.andThen (A := fun s => s.2 = (List.range b.Buses.toNat).map (isl b p)) (B := fun (_ : Unit) => False) ?_ ?_ (fun _ h => h.elim)
   ·refine Ok.whileN (fun s => (0 ≤ s.1 ∧ s.1 ≤ (b.Consumers.length : Int)) ∧ s.2 = (List.range b.Buses.toNat).map fun f => (⟨busesOf b p b.Buses.toNat f, srcsOf b p b.Sources.length f, consOf b p s.1.toNat f⟩ : api_Island)) (fun s => ((b.Consumers.length : Int) - s.1).toNat) _ _ ?_ ?_ ?_
    ·exact ⟨by dsimp only; omega, rfl⟩
    ·dsimp only; omega
    ·rintro ⟨i, s⟩ ⟨⟨h1, h2⟩, h3⟩
     dsimp only at h1 h2 h3
     subst h3
     unfold F106_l2 c106_3
     dsimp only
     refine Ok.cond (fun hq => ?_) (fun hq => ?_)
     ·simp only [decide_eq_true_eq] at hq
      have e1 : w64 (i + 1) = i + 1 := w64_in (by omega)
      have e2 : (i + 1).toNat = i.toNat + 1 := by omega
      have e3 : ((i.toNat : Nat) : Int) = i := by omega
      rw [fed_eq h hp.ncl]
      simp only [Option.bind_some]
      cases hcn : ledO b p 3 i with
      | none =>
       refine Ok.cond (fun hc => by simp [flag] at hc) (fun _ => ?_)
       rw [e1]
       refine Ok.next ⟨⟨by dsimp only; omega, ?_⟩, by dsimp only; omega⟩
       dsimp only
       rw [e2]
       refine List.map_congr_left fun f _ => ?_
       unfold consOf
       rw [filt_succ, e3, hcn, if_neg (by simp [grpOf]), List.append_nil]
      | some a =>
       have hab := ledO_bus h hcn
       have hga := hget a.toNat (by omega)
       have hgla := hglo _ _ hga
       refine Ok.cond (fun _ => ?_) (fun hc => by simp [flag] at hc)
       have hg2 : getI (groups b p) a = some ((groups b p).getD a.toNat 0) := by have := getI_nat hga; rwa [Int.toNat_of_nonneg hab.1] at this
       simp only [flag, hg2, Option.bind_some]
       generalize hge : (groups b p).getD a.toNat 0 = ga at hgla
       refine (Ok.getR (by omega) (by omega)).bind fun u hu => ?_
       subst hu
       have hl : (consOf b p i.toNat ga.toNat).length ≤ i.toNat := filt_len _ _
       refine (Ok.appI (by simp; omega)).bind fun v hv => (Ok.setR (by omega) (by omega)).bind fun w hw => ?_
       rw [e1]
       refine Ok.next ⟨⟨by dsimp only; omega, ?_⟩, by dsimp only; omega⟩
       dsimp only
       rw [hw, e2]
       refine List.map_congr_left fun f _ => ?_
       unfold consOf
       rw [filt_succ, e3, hcn]
       simp only [grpOf, Option.map_some, hge]
       by_cases e : f = ga.toNat
       ·subst e
        rw [if_pos rfl, if_pos (by simp; omega), hv]
        rfl
       ·rw [if_neg e, if_neg (by simp; omega), List.append_nil]
     ·simp only [decide_eq_false_iff_not] at hq
      have e : i.toNat = b.Consumers.length := by omega
      rw [e]
      exact Ok.brk rfl
   ·rintro ⟨i1, s⟩ hs
    dsimp only at hs
    subst hs
    dsimp only
    rw [delI_eq _ (by simp; omega)]
    exact Ok.pure rfl
end Go.Proofs.YtkngbnedbgndoaaGreat
