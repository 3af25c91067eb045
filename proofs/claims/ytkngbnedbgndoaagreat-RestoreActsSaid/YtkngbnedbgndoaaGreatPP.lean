import Derived.Test.YtkngbnedbgndoaaGreatPO
namespace Go.Proofs.YtkngbnedbgndoaaGreat
open Go.SL
theorem Act_ok {b : api_Board} (h : BoardOk b) {s : dynposmake_Src} (hs : SrcOk s) : Ok (F74s1 s b) fun y => SrcOk y.2 := by
 have hbu := h.buses
 have hbl := h.brl
 have hso := h.sol
 have hco := h.col
 unfold F74s1
 refine (Range_ok hs 1 9 (by omega) (by omega) (by omega)).bind fun y hy => ?_
 refine Ok.andThen (A := fun _ => True) (B := fun (_ : Unit) => False) ?_ (fun z _ => ?_) (fun _ h => h.elim)
 ·unfold F74s1_m0
  exact Ok.cond (fun _ => Ok.nextE trivial) (fun _ => Ok.nextE trivial)
 refine Ok.cond (fun _ => ?_) (fun _ => ?_)
 ·exact (N_ok hy.1 _ (by rw [w64_in (by omega)]; omega)).bind fun u hu => Ok.pure hu.1
 refine Ok.andThen (A := fun _ => True) (B := fun (_ : Unit) => False) ?_ (fun z _ => ?_) (fun _ h => h.elim)
 ·unfold F74s1_m1
  exact Ok.cond (fun _ => Ok.nextE trivial) (fun _ => Ok.nextE trivial)
 refine Ok.cond (fun _ => ?_) (fun _ => Ok.cond (fun _ => ?_) (fun _ => Ok.cond (fun _ => ?_) (fun _ => Ok.cond (fun _ => ?_) (fun _ => Ok.cond (fun _ => ?_) (fun _ => Ok.pure hy.1)))))
 ·exact (N_ok hy.1 _ (by rw [w64_in (by omega)]; omega)).bind fun u hu => Ok.pure hu.1
 ·exact (N_ok hy.1 _ (by rw [w64_in (by omega)]; omega)).bind fun u hu => (Pick_ok hu.1 _ (by simp) (by simp)).bind fun v hv => Ok.pure hv.1
 ·exact (N_ok hy.1 _ (by rw [w64_in (by omega)]; omega)).bind fun u hu => (N_ok hu.1 _ (by rw [w64_in (by omega)]; omega)).bind fun v hv => Ok.pure hv.1
 ·exact (Range_ok hy.1 1 4 (by omega) (by omega) (by omega)).bind fun u hu => (N_ok hu.1 _ (by omega)).bind fun v hv => Ok.pure hv.1
 ·exact (Range_ok hy.1 1 4 (by omega) (by omega) (by omega)).bind fun u hu => (N_ok hu.1 _ (by omega)).bind fun v hv => Ok.pure hv.1
theorem Acts_ok {b : api_Board} (h : BoardOk b) {s : dynposmake_Src} (hs : SrcOk s) : Ok (F24s1 s b 8) fun y => SrcOk y.2 := by
 unfold F24s1
 have e : w64 (8 + 1) = 9 := by rw [w64_in (by omega)]; rfl
 rw [e]
 refine (N_pos hs 9 (by omega) (by omega)).bind fun y hy => ?_
 refine Ok.andThen (A := fun s => SrcOk ⟨s.2.1, s.2.2.1⟩) (B := fun (_ : Unit) => False) ?_ (fun s hs => Ok.pure hs) (fun _ h => h.elim)
 refine Ok.whileN (fun s => (0 ≤ s.1 ∧ s.1 ≤ 9 ∧ s.1 + (s.2.2.2.length : Int) ≤ 9) ∧ SrcOk ⟨s.2.1, s.2.2.1⟩) (fun s => s.1.toNat) _ _ ?_ ?_ ?_
 ·exact ⟨⟨by dsimp only; omega, by dsimp only; omega, by simp; omega⟩, hy.1⟩
 ·dsimp only; omega
 ·rintro ⟨i, L, a, l⟩ ⟨⟨g1, g2, g3⟩, g4⟩
  dsimp only at g1 g2 g3 g4
  unfold F24s1_l0
  dsimp only
  refine Ok.cond (fun hq => ?_) (fun _ => Ok.brk g4)
  simp only [decide_eq_true_eq] at hq
  have e1 : w64 (i - 1) = i - 1 := w64_in (by omega)
  rw [e1]
  refine (Act_ok h g4).bind fun u hu => (Ok.appI (by simp; omega)).bind fun w hw => Ok.next ⟨⟨⟨by dsimp only; omega, by dsimp only; omega, by rw [hw]; simp; omega⟩, hu⟩, by dsimp only; omega⟩
def actsEnd (n : Nat) (y9 : api_Power × Int × Int × Int) (z0 : Int × List Bool × List api_Running × List Int × List api_Part) : Option Bool :=
 (guardO [((((y9.2.2.1 == (n : Int)) && (y9.2.2.2 == 0)) && (y9.2.1 == z0.1)), true)] (F26 y9.1 (⟨z0.2.1, z0.2.2.1, z0.2.2.2.1, z0.2.2.2.2⟩ : api_Power)) default).bind fun y22 => (guardO [(((((y9.2.2.1 == (n : Int)) && (y9.2.2.2 == 0)) && (y9.2.1 == z0.1)) && y22), true)] (F22) default).bind fun y24 => some (((((y9.2.2.1 == (n : Int)) && (y9.2.2.2 == 0)) && (y9.2.1 == z0.1)) && y22) && y24)
theorem acts_run {b : api_Board} (h : BoardOk b) (y3 : api_Board × dynposmake_Src) (hb : y3.1 = b) (n : Nat) : ∀ (xs : List api_Act) (k : Nat) (t : Int) (p : api_Power), StateOk b p →
  ∃ y9, andThen (foldI (F25_l0 b) xs k (t, p.Closed, p.Sources, p.Limits, p.Broken)) some (fun z0 => some ((⟨z0.2.1, z0.2.2.1, z0.2.2.2.1, z0.2.2.2.2⟩ : api_Power), z0.1, (n : Int), 0)) = some y9 ∧
   andThen (foldI (F4_l0 y3 y9) xs k (t, p.Closed, p.Sources, p.Limits, p.Broken)) some (actsEnd n y9) = some true := by
 subst hb
 intro xs
 induction xs with
 | nil =>
  intro k t p hp
  refine ⟨(p, t, (n : Int), 0), rfl, ?_⟩
  show actsEnd n (p, t, (n : Int), 0) (t, p.Closed, p.Sources, p.Limits, p.Broken) = some true
  unfold actsEnd
  dsimp only
  rw [refSame_refl (hp.lens h), sane20]
  simp [guardO, allEqB]
 | cons a xs ih =>
  intro k t p hp
  obtain ⟨y, hy, hc⟩ := act_ok h hp t a
  rcases hc with ⟨h1, h2⟩ | ⟨h1, h2⟩
  ·have hne : (y.2 != 0) = true := by simpa using h1
   refine ⟨(p, t, cnt 0 k, y.2), ?_, ?_⟩
   ·simp only [foldI, F25_l0, hy, Option.bind_some, hne, cond_true]
    rfl
   ·simp only [foldI, F4_l0, hy, Option.bind_some, hne, cond_true, refSame_refl (hp.lens h), sane20, h2]
    simp [guardO, allEqB, emptyP, andThen]
    rfl
  ·have hz : (y.2 != 0) = false := by simp [h1]
   by_cases h7 : a.Kind = 7
   ·obtain ⟨y9, e1, e2⟩ := ih (k + 1) (w64 (t + 1)) y.1 h2
    refine ⟨y9, ?_, ?_⟩
    ·rw [← e1]
     simp only [foldI, F25_l0, hy, Option.bind_some, hz, cond_false, beq_iff_eq.2 h7, cond_true]
    ·rw [← e2]
     simp only [foldI, F4_l0, hy, Option.bind_some, hz, cond_false, refState h h2, bne_self_eq_false, beq_iff_eq.2 h7, cond_true]
   ·obtain ⟨y9, e1, e2⟩ := ih (k + 1) t y.1 h2
    refine ⟨y9, ?_, ?_⟩
    ·rw [← e1]
     simp only [foldI, F25_l0, hy, Option.bind_some, hz, cond_false, beq_eq_false_iff_ne.2 h7]
    ·rw [← e2]
     simp only [foldI, F4_l0, hy, Option.bind_some, hz, cond_false, refState h h2, bne_self_eq_false, beq_eq_false_iff_ne.2 h7]
theorem restoreActs_law (t : List Int) : F4 t = some true := by
 refine Ok.eq ?_
 unfold F4
 refine (New_ok t).bind fun s hs => (Board_ok hs).bind fun y3 hb => (Followed_ok hb.1.ok hb.2).bind fun y5 hp => (Acts_ok hb.1.ok hp.2).bind fun y7 _ => ?_
 have h := hb.1.ok
 obtain ⟨y9, e1, e2⟩ := acts_run h y3 rfl y7.1.length y7.1 0 10 y5.1 hp.1
 have hrun : F25 y3.1 y5.1 10 y7.1 = some y9 := by
  unfold F25
  rw [state_ok h hp.1, clone_eq h hp.1]
  exact e1
 rw [hrun]
 exact Ok.of_eq e2 rfl
end Go.Proofs.YtkngbnedbgndoaaGreat
