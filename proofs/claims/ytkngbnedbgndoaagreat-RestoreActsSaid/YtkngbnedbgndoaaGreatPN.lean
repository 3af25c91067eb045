import Derived.Test.YtkngbnedbgndoaaGreatPM
namespace Go.Proofs.YtkngbnedbgndoaaGreat
open Go.SL
theorem bet {x lo hi : Int} (h : lo ≤ x ∧ x ≤ hi) : F77 x lo hi = true := (within_iff x lo hi).2 h
def ofL (b : api_Board) (q : api_Breaker → Bool) : List Int := (b.Breakers.zipIdx.filter fun z => q z.1).map fun z => (z.2 : Int)
theorem of15 {b : api_Board} (h : BoardOk b) (k i : Int) : F79 b k i = some (ofL b fun x => c79_2 k i x) := by
 have hb := h.brl
 refine Ok.eq ?_
 unfold F79
 refine Ok.andThen (A := fun s => s = ofL b fun x => c79_2 k i x) (B := fun (_ : Unit) => False) ?_ (fun s hs => Ok.pure hs) (fun _ h => h.elim)
 refine Ok.foldI0 (I := fun j s => s = ((b.Breakers.zipIdx.take j).filter fun z => c79_2 k i z.1).map fun z => (z.2 : Int)) rfl (fun j x s hx hs => ?_) fun s hs => ?_
 ·have hj := (List.getElem?_eq_some_iff.1 hx).1
  have hcnt : cnt 0 j = (j : Int) := cnt0 (by omega)
  have hz : b.Breakers.zipIdx[j]? = some (x, j) := by rw [List.getElem?_zipIdx, hx]; simp
  have hsl : s.length ≤ j := by
   rw [hs, List.length_map]
   exact Nat.le_trans (List.length_filter_le _ _) (by simp; omega)
  unfold F79_l0
  rw [hcnt, take_succ' hz, List.filter_append, List.map_append, ← hs]
  refine Ok.cond (fun hq => ?_) (fun hq => Ok.next (by simp [hq]))
  exact (Ok.appI (by simp; omega)).bind fun y hy => Ok.next (by rw [hy]; simp [hq])
 ·rw [hs, show b.Breakers.length = b.Breakers.zipIdx.length from by simp, List.take_length]; rfl
theorem ofL_mem {b : api_Board} {q : api_Breaker → Bool} {v : Int} (h : v ∈ ofL b q) : ∃ (j : Nat) (x : api_Breaker), v = (j : Int) ∧ b.Breakers[j]? = some x ∧ q x = true := by
 obtain ⟨⟨x, j⟩, hm, rfl⟩ := List.mem_map.1 h
 have := List.mem_filter.1 hm
 rw [List.mem_zipIdx_iff_getElem?] at this
 exact ⟨j, x, rfl, this.1, this.2⟩
theorem zf_len (q : api_Breaker → Bool) : ∀ (l : List api_Breaker) (k : Nat), ((l.zipIdx k).filter fun z => q z.1).length = (l.filter q).length
 | [], _ => rfl
 | x :: l, k => by
  simp only [List.zipIdx_cons, List.filter_cons]
  split <;> simp [zf_len q l (k + 1)]
theorem ofL_len (b : api_Board) (q : api_Breaker → Bool) : (ofL b q).length = (b.Breakers.filter q).length := by
 unfold ofL
 rw [List.length_map, zf_len]
theorem q_eq (k : Int) (hk : k ≠ 1) (i : Int) (x : api_Breaker) : c79_2 k i x = (x.Kind == k && x.B == i) := by
 unfold c79_2
 have : (k == 1) = false := beq_eq_false_iff_ne.2 hk
 rw [this]; simp
theorem ofL_brs {b : api_Board} {k : Int} (hk : k ≠ 1) (i : Nat) : (ofL b fun x => c79_2 k (i : Int) x).length = (brs b.Breakers k i).length := by
 rw [ofL_len]
 unfold brs
 congr 1
 exact List.filter_congr fun x _ => q_eq k hk i x
theorem ref_breakers {b : api_Board} (h : BoardOk b) : F151 b = some true := by
 have hs := h.sol
 have hc := h.col
 have hb := h.buses
 have hbl := h.brl
 refine Ok.eq ?_
 unfold F151
 rw [all_fold b.Breakers 0 fun j x hj => ?_]
 ·rw [show ∀ (f : Unit → Option Bool), andThen (some (Ctl.next ()) : Option (Ctl Unit Bool)) some f = f () from fun _ => rfl]
  refine Ok.andThen (A := fun _ => True) (B := fun (_ : Bool) => False) ?_ (fun _ _ => ?_) (fun _ h => h.elim)
  ·refine Ok.whileN (fun s => 0 ≤ s ∧ s ≤ (b.Sources.length : Int)) (fun s => ((b.Sources.length : Int) - s).toNat) _ (0 : Int) (by omega) (by omega) ?_
   rintro i ⟨h1, h2⟩
   unfold F151_l2 c151_11
   refine Ok.cond (fun hq => ?_) (fun _ => Ok.brk trivial)
   simp only [decide_eq_true_eq] at hq
   obtain ⟨n, rfl⟩ : ∃ n : Nat, i = (n : Int) := ⟨i.toNat, by omega⟩
   rw [of15 h]
   simp only [Option.bind_some]
   have hone := h.one n (by omega)
   rw [ofL_brs (by decide), hone, w64_in (by omega)]
   refine Ok.cond (fun hc => by simp at hc) (fun _ => Ok.next ⟨by omega, by omega⟩)
  ·refine Ok.andThen (A := fun _ => True) (B := fun (_ : Bool) => False) ?_ (fun _ _ => Ok.pure rfl) (fun _ h => h.elim)
   refine Ok.whileN (fun s => 0 ≤ s ∧ s ≤ (b.Consumers.length : Int)) (fun s => ((b.Consumers.length : Int) - s).toNat) _ (0 : Int) (by omega) (by omega) ?_
   rintro i ⟨h1, h2⟩
   unfold F151_l3 c151_13
   refine Ok.cond (fun hq => ?_) (fun _ => Ok.brk trivial)
   simp only [decide_eq_true_eq] at hq
   obtain ⟨n, rfl⟩ : ∃ n : Nat, i = (n : Int) := ⟨i.toNat, by omega⟩
   rw [of15 h]
   simp only [Option.bind_some]
   have hany := h.any n (by omega)
   have hpos : 0 < (brs b.Breakers 3 n).length := List.length_pos_iff.2 hany
   rw [ofL_brs (by decide), w64_in (by omega)]
   refine Ok.cond (fun hc => ?_) (fun _ => Ok.next ⟨by omega, by omega⟩)
   simp only [decide_eq_true_eq] at hc; omega
 ·have hjl := (List.getElem?_eq_some_iff.1 hj).1
  obtain ⟨⟨a0, a1⟩, hk⟩ := h.br x (List.mem_of_getElem? hj)
  rw [Nat.zero_add]
  have hcnt : cnt 0 j = (j : Int) := cnt0 (by omega)
  have e1 : w64 (b.Buses - 1) = b.Buses - 1 := w64_in (by omega)
  have e2 : w64 (x.A + 1) = x.A + 1 := w64_in (by omega)
  have e3 : w64 ((b.Sources.length : Int) - 1) = (b.Sources.length : Int) - 1 := w64_in (by omega)
  have e4 : w64 ((b.Consumers.length : Int) - 1) = (b.Consumers.length : Int) - 1 := w64_in (by omega)
  unfold F151_l0 c151_5 c151_6 c151_7
  rw [e1, e2, e3, e4, hcnt, bet (x := x.A) (by omega)]
  simp only [Bool.not_true, cond_false]
  rcases hk with ⟨hk, h1, h2⟩ | ⟨hk, h1, h2⟩ | ⟨hk, h1, h2⟩
  ·rw [hk, bet (x := x.B) (lo := x.A + 1) (by omega)]; rfl
  ·rw [hk, bet (x := x.B) (lo := 0) (hi := (b.Sources.length : Int) - 1) (by omega)]; rfl
  ·rw [hk, bet (x := x.B) (lo := 0) (hi := (b.Consumers.length : Int) - 1) (by omega)]
   have hcut : cutI b.Breakers 0 (j : Int) = some (b.Breakers.take j) := by
    refine Ok.eq ((Ok.cutI (by omega) (by omega) (by omega)).mono fun y hy => ?_)
    rw [hy]; simp
   show ((cutI b.Breakers 0 (j : Int)).bind fun y9 => andThen (foldI (F151_l1 x) y9 0 ()) (fun v => some (Ctl.ret v)) fun z1 => some (Ctl.next ())) = some (Ctl.next ())
   rw [hcut]
   simp only [Option.bind_some]
   rw [all_fold _ 0 fun m y hy => ?_]
   ·rfl
   ·have hml : m < j := by
     have := (List.getElem?_eq_some_iff.1 hy).1
     simp only [List.length_take] at this; omega
    have hyb : b.Breakers[m]? = some y := by
     rw [List.getElem?_take, if_pos hml] at hy; exact hy
    unfold F151_l1
    have hne : c151_9 x y = false := by
     unfold c151_9
     rw [Bool.eq_false_iff]
     intro e
     simp only [Bool.and_true, Bool.and_eq_true, beq_iff_eq] at e
     obtain ⟨e1, e2, e3⟩ := e
     have hn := h.nodup x.B.toNat
     have hsplit : b.Breakers = b.Breakers.take j ++ (x :: b.Breakers.drop (j + 1)) := by
      conv => lhs; rw [← List.take_append_drop j b.Breakers]
      rw [List.drop_eq_getElem_cons hjl]
      have : b.Breakers[j] = x := by
       rw [List.getElem?_eq_getElem hjl] at hj; cases hj; rfl
      rw [this]
     rw [hsplit, brs_append, List.map_append] at hn
     have hBn : x.B = (x.B.toNat : Int) := by omega
     have hmem1 : y.A ∈ (brs (b.Breakers.take j) 3 x.B.toNat).map (·.A) := by
      refine List.mem_map.2 ⟨y, ?_, rfl⟩
      unfold brs
      refine List.mem_filter.2 ⟨List.mem_of_getElem? hy, ?_⟩
      rw [e1, hk, e3, ← hBn]; simp
     have hmem2 : x.A ∈ (brs (x :: b.Breakers.drop (j + 1)) 3 x.B.toNat).map (·.A) := by
      refine List.mem_map.2 ⟨x, ?_, rfl⟩
      unfold brs
      refine List.mem_filter.2 ⟨List.mem_cons_self, ?_⟩
      rw [hk, ← hBn]; simp
     exact (List.nodup_append.1 hn).2.2 _ hmem1 _ hmem2 e2
    rw [hne]; rfl
theorem ref_sources {b : api_Board} (h : BoardOk b) : F152 b = some true := by
 unfold F152
 rw [all_fold b.Sources 0 fun j x hj => ?_]
 ·rfl
 ·obtain ⟨h1, h2, h3⟩ := h.so x (List.mem_of_getElem? hj)
  unfold F152_l0 c152_1
  rw [bet h1, bet h2, bet h3]; rfl
theorem ref_consumers {b : api_Board} (h : BoardOk b) : F153 b = some true := by
 have hcl := h.col
 unfold F153
 rw [all_fold b.Consumers 0 fun j x hj => ?_]
 ·rfl
 ·obtain ⟨h1, h2, h3, h4, h5, h6, h7⟩ := h.co j x hj
  have hjl := (List.getElem?_eq_some_iff.1 hj).1
  rw [Nat.zero_add]
  have hcnt : cnt 0 j = (j : Int) := cnt0 (by omega)
  unfold F153_l0 c153_3
  rw [bet h1, bet h2, bet h3, bet h4]
  have hd : decide ((x.Needs.length : Int) > 4) = false := by simp; omega
  rw [hd]
  simp only [Bool.not_true, Bool.or_false, cond_false]
  rw [all_fold x.Needs 0 fun m n hm => ?_]
  ·rfl
  ·have hml := (List.getElem?_eq_some_iff.1 hm).1
   rw [Nat.zero_add]
   have hcm : cnt 0 m = (m : Int) := cnt0 (by omega)
   have hn := h6 n (List.mem_of_getElem? hm)
   unfold F153_l1 c153_5
   rw [hcnt, hcm, w64_in (n := (j : Int) - 1) (by omega), bet (x := n) (by omega)]
   cases m with
   | zero => rfl
   | succ m =>
    obtain ⟨a, ha⟩ : ∃ a, x.Needs[m]? = some a := ⟨_, List.getElem?_eq_getElem (by omega)⟩
    have hlt := h7 m a n ha hm
    have e : w64 (((m + 1 : Nat) : Int) - 1) = (m : Int) := by rw [w64_in (by omega)]; omega
    have hp : decide (((m + 1 : Nat) : Int) > 0) = true := decide_eq_true (by omega)
    have hq : decide (a ≥ n) = false := by simp; omega
    rw [e, getI_nat ha, hp]
    simp [guardO, allEqB, hq]
theorem refCheck {b : api_Board} (h : BoardOk b) : F76 b = some 0 := by
 have h1 := h.buses
 have h2 := h.brl
 have h3 := h.sol
 have h4 := h.col
 have h5 := h.phase
 have h6 := h.freq
 unfold F76
 rw [ref_breakers h, ref_sources h, ref_consumers h]
 have e : c76_0 b = false := by
  rw [Bool.eq_false_iff]; intro e
  simp [c76_0] at e; omega
 have e2 : c76_1 b true true true = false := by
  rw [Bool.eq_false_iff]; intro e
  simp [c76_1] at e; omega
 rw [e]
 simp only [cond_false, Option.bind_some]
 have g1 : (guardO [(!true, false)] (some true) default : Option Bool) = some true := rfl
 have g2 : (guardO [(!true || !true, false)] (some true) default : Option Bool) = some true := rfl
 rw [g1, Option.bind_some, g2, Option.bind_some, e2]; rfl
theorem zip_feeds (i : Nat) (C : List Bool) : ∀ (l : List api_Breaker) (c : List Bool) (k : Nat), C.drop k = c → l.length = c.length →
  (((l.zipIdx k).filter fun z => z.1.Kind == 3 && z.1.B == (i : Int)).filter fun z => C.getD z.2 false).length = (feeds l c i).length
 | [], _, _, _, _ => by simp [feeds]
 | x :: l, [], _, _, h => by simp at h
 | x :: l, v :: c, k, hd, h => by
  have hv : C[k]? = some v := by
   have := congrArg (·[0]?) hd
   simpa [List.getElem?_drop] using this
  have hd' : C.drop (k + 1) = c := by rw [← List.drop_drop, hd]; rfl
  have ih := zip_feeds i C l c (k + 1) hd' (by simpa using h)
  have hg : C.getD k false = v := by simp [List.getD, hv]
  simp only [List.zipIdx_cons, List.filter_cons, feeds, List.zip_cons_cons] at ih ⊢
  cases hq : (x.Kind == 3 && x.B == (i : Int)) with
  | false => simpa only [Bool.false_and, Bool.false_eq_true, if_false] using ih
  | true =>
   simp only [if_true, List.filter_cons, hg]
   cases v with
   | false => simpa only [Bool.and_false, Bool.false_eq_true, if_false] using ih
   | true => simpa only [Bool.and_self, if_true, List.length_cons, Nat.add_right_cancel_iff] using ih
theorem refState {b : api_Board} (h : BoardOk b) {p : api_Power} (hp : StateOk b p) : F27 b p = some 0 := by
 have h3 := h.sol
 have h4 := h.col
 have hbl := h.brl
 have hncl := hp.ncl
 have hnso := hp.nso
 have hnli := hp.nli
 refine Ok.eq ?_
 unfold F27
 rw [refCheck h]
 simp only [Option.bind_some]
 refine Ok.cond (fun hc => by simp at hc) (fun _ => Ok.cond (fun hc => ?_) (fun _ => ?_))
 ·simp [c27_0, hncl, hnso, hnli] at hc
 rw [all_fold p.Sources 0 fun j x hj => ?_]
 ·rw [show ∀ (f : Unit → Option Int), andThen (some (Ctl.next ()) : Option (Ctl Unit Int)) some f = f () from fun _ => rfl]
  rw [all_fold p.Limits 0 fun j x hj => ?_]
  ·rw [show ∀ (f : Unit → Option Int), andThen (some (Ctl.next ()) : Option (Ctl Unit Int)) some f = f () from fun _ => rfl]
   have hlen := hp.brk.len
   refine Ok.cond (fun hc => ?_) (fun _ => ?_)
   ·simp only [decide_eq_true_eq] at hc; omega
   rw [all_fold p.Broken 0 fun j x hj => ?_]
   ·rw [show ∀ (f : Unit → Option Int), andThen (some (Ctl.next ()) : Option (Ctl Unit Int)) some f = f () from fun _ => rfl]
    refine Ok.andThen (A := fun _ => True) (B := fun (_ : Int) => False) ?_ (fun _ _ => Ok.pure rfl) (fun _ h => h.elim)
    refine Ok.whileN (fun s => 0 ≤ s ∧ s ≤ (b.Consumers.length : Int)) (fun s => ((b.Consumers.length : Int) - s).toNat) _ (0 : Int) (by omega) (by omega) ?_
    rintro i ⟨g1, g2⟩
    unfold F27_l3 c27_6
    refine Ok.cond (fun hq => ?_) (fun _ => Ok.brk trivial)
    simp only [decide_eq_true_eq] at hq
    obtain ⟨n, rfl⟩ : ∃ n : Nat, i = (n : Int) := ⟨i.toNat, by omega⟩
    rw [of15 h]
    simp only [Option.bind_some]
    have hone := hp.one n (by omega)
    have hz : ofL b (fun x => c79_2 3 (n : Int) x) = ((b.Breakers.zipIdx.filter fun z => z.1.Kind == 3 && z.1.B == (n : Int)).map fun z => (z.2 : Int)) := by
     unfold ofL
     congr 1
     exact List.filter_congr fun z _ => q_eq 3 (by decide) n z.1
    have hzf := zip_feeds n p.Closed b.Breakers p.Closed 0 rfl (by omega)
    rw [hz]
    have hin : ∀ z, z ∈ (b.Breakers.zipIdx.filter fun z => z.1.Kind == 3 && z.1.B == (n : Int)) → z.2 < p.Closed.length := by
     rintro ⟨x, j⟩ hm
     have := (List.mem_filter.1 hm).1
     rw [List.mem_zipIdx_iff_getElem?] at this
     have := (List.getElem?_eq_some_iff.1 this).1
     dsimp only; omega
    have hsz : (b.Breakers.zipIdx.filter fun z => z.1.Kind == 3 && z.1.B == (n : Int)).length ≤ 24 := Nat.le_trans (List.length_filter_le _ _) (by simpa using hbl)
    generalize hm : (b.Breakers.zipIdx.filter fun z => z.1.Kind == 3 && z.1.B == (n : Int)) = m at hin hsz hzf
    refine (Ok.foldI0 (xs := m.map fun z => (z.2 : Int)) (I := fun j s => s = (((m.take j).filter fun z => p.Closed.getD z.2 false).length : Int)) (A := fun s => s = ((m.filter fun z => p.Closed.getD z.2 false).length : Int)) (B := fun (_ : Unit) => False) rfl (fun j x s hx hs => ?_) fun s hs => ?_).inner (fun s hs => ?_) (fun _ h => h.elim)
    ·rw [List.getElem?_map, Option.map_eq_some_iff] at hx
     obtain ⟨z, hz, rfl⟩ := hx
     have hzl := hin z (List.mem_of_getElem? hz)
     obtain ⟨v, hv⟩ : ∃ v, p.Closed[z.2]? = some v := ⟨_, List.getElem?_eq_getElem hzl⟩
     have hg : p.Closed.getD z.2 false = v := by simp [List.getD, hv]
     have hle : ((m.take j).filter fun z => p.Closed.getD z.2 false).length ≤ 24 := Nat.le_trans (List.length_filter_le _ _) (by simp; omega)
     unfold F27_l4
     rw [getI_nat hv, take_succ' hz, List.filter_append]
     simp only [Option.bind_some]
     refine Ok.cond (fun hq => Ok.next ?_) (fun hq => Ok.next ?_)
     ·rw [hs, w64_in (by omega), List.filter_cons, hg, if_pos hq]
      simp
     ·rw [hs, List.filter_cons, hg, if_neg (ff hq)]
      simp
    ·rw [List.length_map, List.take_length] at hs; exact hs
    ·rw [hs, hzf, w64_in (by omega)]
     refine Ok.cond (fun hc => ?_) (fun _ => Ok.next ⟨by omega, by omega⟩)
     simp only [decide_eq_true_eq] at hc; omega
   ·have hjl := (List.getElem?_eq_some_iff.1 hj).1
    rw [Nat.zero_add]
    have hcnt : cnt 0 j = (j : Int) := cnt0 (by omega)
    unfold F27_l2 c27_4
    rw [(exists_iff h x).2 (hp.brk.mem x (List.mem_of_getElem? hj)), hcnt]
    cases j with
    | zero => rfl
    | succ j =>
     obtain ⟨a, ha⟩ : ∃ a, p.Broken[j]? = some a := ⟨_, List.getElem?_eq_getElem (by omega)⟩
     have hlt := hp.brk.asc j a x ha hj
     have e : w64 (((j + 1 : Nat) : Int) - 1) = (j : Int) := by rw [w64_in (by omega)]; omega
     have hpz : decide (((j + 1 : Nat) : Int) > 0) = true := decide_eq_true (by omega)
     have hb : F78 a x = true := by
      unfold F78
      unfold PartLt at hlt
      simp only [Bool.or_eq_true, Bool.and_eq_true, decide_eq_true_eq, beq_iff_eq]
      exact hlt
     rw [e, getI_nat ha, hpz]
     simp [guardO, allEqB, hb]
  ·have hjl := (List.getElem?_eq_some_iff.1 hj).1
   rw [Nat.zero_add]
   have hcnt : cnt 0 j = (j : Int) := cnt0 (by omega)
   obtain ⟨c, hc⟩ : ∃ c, b.Consumers[j]? = some c := ⟨_, List.getElem?_eq_getElem (by omega)⟩
   unfold F27_l1
   rw [hcnt, getI_nat hc]
   simp only [Option.bind_some]
   rw [bet (hp.lim j x c hj hc)]; rfl
 ·have hr := hp.run x (List.mem_of_getElem? hj)
  unfold F27_l0 c27_2
  rw [bet hr.1, bet hr.2.1, bet hr.2.2.1, bet hr.2.2.2]; rfl
end Go.Proofs.YtkngbnedbgndoaaGreat
