import Derived.Test.YtkngbnedbgndoaaGreatPA
namespace Go.Proofs.YtkngbnedbgndoaaGreat
open Go.SL
theorem in_iff (x lo hi : Int) : F132 x lo hi = true ↔ lo ≤ x ∧ x ≤ hi := by
 simp [F132]
theorem in_t {x lo hi : Int} (h : lo ≤ x ∧ x ≤ hi) : F132 x lo hi = true := (in_iff x lo hi).2 h
theorem contains_int (l : List Int) (x : Int) (h : l.length ≤ 9223372036854775807) : F96 l x = some (l.any (x == ·)) := by
 unfold F96 F177
 rw [search_eq (fun y => x == y) (fun i y => rfl) l h]
 simp only [Option.bind_some, idxI_any]
theorem containsNil (l : List (List Int)) (h : l.length ≤ 9223372036854775807) : F232s0 l = some (l.any fun x => (x.length : Int) == 0) := by
 unfold F232s0 F260s0
 rw [search_eq (fun y => (y.length : Int) == 0) (fun i y => rfl) l h]
 simp only [Option.bind_some, idxI_any]
theorem breakers_ok {b : api_Board} (h : BoardOk b) : Ok (F172 b) (· = true) := by
 unfold F172
 have hs := h.sol
 have hc := h.col
 have hb := h.buses
 refine (Ok.mkI (by omega) (by omega)).bind fun ys hys => (Ok.mkI (by omega) (by omega)).bind fun zs hzs => ?_
 rw [Int.toNat_natCast] at hys hzs
 refine Ok.andThen (A := fun s => s.1 = (List.range b.Sources.length).map (fun i => ((brs b.Breakers 2 i).length : Int)) ∧ s.2 = (List.range b.Consumers.length).map (fun i => (brs b.Breakers 3 i).map (·.A))) (B := fun _ => False) ?_ ?_ (fun _ h => h.elim)
 ·refine Ok.foldI0 (I := fun j s => s.1 = (List.range b.Sources.length).map (fun i => ((brs (b.Breakers.take j) 2 i).length : Int)) ∧ s.2 = (List.range b.Consumers.length).map (fun i => (brs (b.Breakers.take j) 3 i).map (·.A))) ?_ ?_ ?_
  ·exact ⟨by rw [hys, rep_range]; rfl, by rw [hzs, rep_range]; rfl⟩
  ·rintro j x ⟨us, vs⟩ hx ⟨hu, hv⟩
   dsimp only at hu hv
   subst hu; subst hv
   have hmem := List.mem_of_getElem? hx
   obtain ⟨⟨a0, a1⟩, hk⟩ := h.br x hmem
   have htk : ∀ k i, brs (b.Breakers.take (j + 1)) k i = brs (b.Breakers.take j) k i ++ if x.Kind = k ∧ x.B = (i : Int) then [x] else [] := fun k i => by rw [take_succ' hx, brs_append, brs_one]
   have hall : ∀ k i, brs b.Breakers k i = brs (b.Breakers.take (j + 1)) k i ++ brs (b.Breakers.drop (j + 1)) k i := fun k i => by rw [← brs_append, List.take_append_drop]
   unfold F172_l0
   have e1 : w64 (b.Buses - 1) = b.Buses - 1 := w64_in (by omega)
   have e2 : w64 (x.A + 1) = x.A + 1 := w64_in (by omega)
   refine Ok.cond (fun hq => ?_) (fun _ => ?_)
   ·rw [e1, in_t (by omega)] at hq; simp at hq
   refine Ok.cond (fun hq => ?_) (fun hq => ?_)
   ·simp only [c172_6, Bool.and_eq_true, beq_iff_eq, in_iff] at hq
    refine Ok.next ⟨List.map_congr_left fun i _ => ?_, List.map_congr_left fun i _ => ?_⟩
    ·rw [htk, if_neg (by omega), List.append_nil]
    ·rw [htk, if_neg (by omega), List.append_nil]
   have hq := ff hq
   simp only [c172_6, Bool.and_eq_true, beq_iff_eq, in_iff, e1, e2] at hq
   rcases hk with hk | hk | hk
   ·exact absurd ⟨hk.1, by omega⟩ hq
   ·have hBn : x.B = (x.B.toNat : Int) := by omega
    have hone := h.one x.B.toNat (by omega)
    have hz : (brs (b.Breakers.take j) 2 x.B.toNat).length = 0 := by
     rw [hall, htk, if_pos ⟨hk.1, hBn⟩] at hone
     simp at hone; omega
    have hg : ((x.Kind == 2) && (F132 x.B 0 (w64 ((((List.range b.Sources.length).map (fun i => ((brs (b.Breakers.take j) 2 i).length : Int))).length : Int) - 1)))) = true := by
     rw [Bool.and_eq_true, beq_iff_eq, in_iff, List.length_map, List.length_range, w64_in (by omega)]
     omega
    dsimp only
    refine Ok.bind (P := fun y => y = 0) (Ok.guard (fun _ => (Ok.getR (by omega) (by omega)).mono fun y hy => by rw [hy, hz]; rfl) fun hn => (not_all hg hn).elim) fun y hy => ?_
    refine Ok.cond (fun hq2 => ?_) (fun hq2 => ?_)
    ·refine (Ok.getR (by omega) (by omega)).bind fun y2 hy2 => (Ok.setR (by omega) (by omega)).bind fun y3 hy3 => Ok.next ⟨?_, List.map_congr_left fun i _ => ?_⟩
     ·rw [hy3]
      refine List.map_congr_left fun i hi => ?_
      by_cases e : i = x.B.toNat
      ·subst e
       rw [if_pos rfl, hy2, htk, if_pos ⟨hk.1, hBn⟩, hz, List.length_append, hz]
       rfl
      ·rw [if_neg e, htk, if_neg (by omega), List.append_nil]
     ·rw [htk, if_neg (by omega), List.append_nil]
    ·have hq2 := ff hq2
     simp only [c172_7, Bool.and_eq_true, hy] at hq2
     rw [Bool.and_eq_true] at hg
     exact absurd ⟨hg, by simp⟩ hq2
   ·have hBn : x.B = (x.B.toNat : Int) := by omega
    have hnod := h.nodup x.B.toNat
    have hnot : x.A ∉ (brs (b.Breakers.take j) 3 x.B.toNat).map (·.A) := by
     rw [hall, htk, if_pos ⟨hk.1, hBn⟩] at hnod
     simp only [List.map_append, List.map_cons, List.map_nil] at hnod
     rw [List.nodup_append] at hnod
     have := hnod.1
     rw [List.nodup_append] at this
     intro hm
     exact this.2.2 _ hm _ (by simp) rfl
    have hg0 : ((x.Kind == 2) && (F132 x.B 0 (w64 ((((List.range b.Sources.length).map (fun i => ((brs (b.Breakers.take j) 2 i).length : Int))).length : Int) - 1)))) = false := by
     have : (x.Kind == 2) = false := by rw [beq_eq_false_iff_ne]; omega
     rw [this]; rfl
    have hg : ((x.Kind == 3) && (F132 x.B 0 (w64 ((((List.range b.Consumers.length).map (fun i => (brs (b.Breakers.take j) 3 i).map (·.A))).length : Int) - 1)))) = true := by
     rw [Bool.and_eq_true, beq_iff_eq, in_iff, List.length_map, List.length_range, w64_in (by omega)]
     omega
    dsimp only
    refine Ok.bind (P := fun _ => True) (Ok.guard (fun hn => absurd hn.1 (by rw [hg0]; simp)) fun _ => trivial) fun y _ => ?_
    refine Ok.cond (fun hq2 => ?_) (fun _ => ?_)
    ·simp only [c172_7, Bool.and_eq_true, beq_iff_eq] at hq2
     omega
    refine Ok.bind (P := fun y => y = (brs (b.Breakers.take j) 3 x.B.toNat).map (·.A)) (Ok.guard (fun _ => Ok.getR (by omega) (by omega)) fun hn => (not_all hg hn).elim) fun y14 hy14 => ?_
    have hyl : y14.length ≤ 24 := by
     rw [hy14, List.length_map]
     have := List.length_filter_le (fun x => x.Kind == 3 && x.B == ((x.B.toNat : Nat) : Int)) (b.Breakers.take j)
     have h1 : (brs (b.Breakers.take j) 3 x.B.toNat).length ≤ (b.Breakers.take j).length := List.length_filter_le _ _
     have h2 := h.brl
     rw [List.length_take] at h1
     omega
    refine Ok.bind (P := fun y => y = false) (Ok.guard (fun _ => ?_) fun hn => (not_all hg hn).elim) fun y16 hy16 => ?_
    ·rw [contains_int _ _ (by omega)]
     refine Ok.pure ?_
     rw [List.any_eq_false]
     intro z hz
     rw [hy14] at hz
     simp only [beq_iff_eq]
     rintro rfl
     exact hnot hz
    refine Ok.cond (fun hq2 => ?_) (fun hq2 => ?_)
    ·refine (Ok.getR (by omega) (by omega)).bind fun y19 hy19 => ?_
     rw [hy19, ← hy14]
     refine (Ok.appI (by simp; omega)).bind fun y21 hy21 => (Ok.setR (by omega) (by omega)).bind fun y23 hy23 => Ok.next ⟨List.map_congr_left fun i _ => ?_, ?_⟩
     ·rw [htk, if_neg (by omega), List.append_nil]
     ·rw [hy23]
      refine List.map_congr_left fun i hi => ?_
      by_cases e : i = x.B.toNat
      ·subst e
       rw [if_pos rfl, hy21, hy14, htk, if_pos ⟨hk.1, hBn⟩, List.map_append]
       rfl
      ·rw [if_neg e, htk, if_neg (by omega), List.append_nil]
    ·have hq2 := ff hq2
     simp only [c172_8, Bool.and_eq_true, hy16] at hq2
     rw [Bool.and_eq_true] at hg
     exact absurd ⟨hg, by simp⟩ hq2
  ·rintro ⟨us, vs⟩ ⟨hu, hv⟩
   rw [List.take_length] at hu hv
   exact ⟨hu, hv⟩
 ·rintro ⟨us, vs⟩ ⟨hu, hv⟩
  dsimp only at hu hv ⊢
  rw [contains_int _ _ (by rw [hu]; simp; omega)]
  have h0 : us.any (fun y => 0 == y) = false := by
   rw [List.any_eq_false, hu]
   intro z hz
   obtain ⟨i, hi, rfl⟩ := List.mem_map.1 hz
   rw [h.one i (by simpa using hi)]
   simp
  have h1 : vs.any (fun x => (x.length : Int) == 0) = false := by
   rw [List.any_eq_false, hv]
   intro z hz
   obtain ⟨i, hi, rfl⟩ := List.mem_map.1 hz
   have := h.any i (by simpa using hi)
   simp only [List.length_map, beq_iff_eq]
   intro e
   exact this (List.eq_nil_of_length_eq_zero (by omega))
  simp only [h0, Option.bind_some]
  refine Ok.bind (P := fun y => y = false) (Ok.guard (fun _ => ?_) fun hn => (not_all rfl hn).elim) fun y hy => Ok.pure (by rw [hy]; rfl)
  rw [containsNil _ (by rw [hv]; simp; omega)]
  exact Ok.pure h1
theorem source_ok {x : api_Source} (h : SoOk x) : F173 x = true := by
 obtain ⟨h1, h2, h3⟩ := h
 simp only [F173, Bool.and_eq_true, in_iff]
 omega
theorem consumer_ok {x : api_Consumer} {i : Nat} (h : CoOk i x) (hi : i ≤ 1000) : F174 x (i : Int) = some true := by
 obtain ⟨h1, h2, h3, h4, h5, h6, h7⟩ := h
 unfold F174
 have hf : foldI (F174_l0 x (i : Int)) x.Needs 0 () = some (.next ()) := by
  refine all_fold _ _ fun j n hj => ?_
  rw [Nat.zero_add]
  have hn := h6 n (List.mem_of_getElem? hj)
  have hjl := (List.getElem?_eq_some_iff.1 hj).1
  have hcnt : cnt 0 j = (j : Int) := cnt0 (by omega)
  have hin : F132 n 0 (w64 ((i : Int) - 1)) = true := by rw [in_iff, w64_in (by omega)]; omega
  unfold F174_l0 c174_1
  rw [hcnt, hin]
  cases j with
  | zero => simp [guardO, allEqB]
  | succ j =>
   obtain ⟨p, hp⟩ : ∃ p, x.Needs[j]? = some p := ⟨_, List.getElem?_eq_getElem (by omega)⟩
   have hlt := h7 j p n hp hj
   have e : w64 ((((j + 1 : Nat) : Int)) - 1) = (j : Int) := by rw [w64_in (by omega)]; omega
   have hg : getI x.Needs (j : Int) = some p := by
    unfold getI
    simp [hp]
   have hd : decide (((j + 1 : Nat) : Int) > 0) = true := decide_eq_true (by omega)
   have hd2 : decide (p ≥ n) = false := by simp; omega
   rw [e, hg, hd]
   simp [guardO, allEqB, hd2]
 rw [hf]
 have : (((((F132 x.Load 0 50000) && (F132 x.Least 0 x.Load)) && (F132 x.Preference 0 15)) && (F132 x.Thruster (-1) 7)) && (decide ((x.Needs.length : Int) ≤ 4))) = true := by
  simp only [Bool.and_eq_true, in_iff, decide_eq_true_eq]
  omega
 simp [andThen, this]
theorem check_ok {b : api_Board} (h : BoardOk b) : F92 b = some 0 := by
 refine Ok.eq ?_
 unfold F92
 have h1 := h.buses
 have h2 := h.brl
 have h3 := h.sol
 have h4 := h.col
 have h5 := h.phase
 have h6 := h.freq
 refine Ok.cond (fun hc => ?_) (fun _ => ?_)
 ·have : F132 b.Buses 1 6 = true := in_t (by omega)
  simp only [c92_0, this, Bool.or_eq_true, decide_eq_true_eq, Bool.not_true, Bool.false_eq_true, false_or] at hc
  omega
 refine (breakers_ok h).bind fun y hy => ?_
 subst hy
 rw [in_t (x := b.Phase) (by omega), in_t (x := b.Frequency) (by omega)]
 refine Ok.andThen (A := fun s => s = true) (B := fun (_ : Unit) => False) ?_ ?_ (fun _ h => h.elim)
 ·refine Ok.foldI0 (I := fun _ s => s = true) rfl (fun j x s hx hs => ?_) fun _ h => h
  subst hs
  refine Ok.next ?_
  rw [source_ok (h.so x (List.mem_of_getElem? hx))]; rfl
 ·rintro s rfl
  refine Ok.andThen (A := fun s => s = true) (B := fun (_ : Unit) => False) ?_ ?_ (fun _ h => h.elim)
  ·refine Ok.foldI0 (I := fun _ s => s = true) rfl (fun j x s hx hs => ?_) fun _ h => h
   subst hs
   have hj := (List.getElem?_eq_some_iff.1 hx).1
   unfold F92_l1
   have : guardO [(true, true)] (F174 x (cnt 0 j)) default = some true := by
    rw [cnt0 (by omega), consumer_ok (h.co j x hx) (by omega)]; rfl
   rw [this]
   exact Ok.next rfl
  ·rintro s rfl
   exact Ok.pure rfl
end Go.Proofs.YtkngbnedbgndoaaGreat
