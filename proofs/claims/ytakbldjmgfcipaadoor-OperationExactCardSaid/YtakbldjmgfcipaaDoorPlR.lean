/-
  OPERATION, the plain laws: a run is made of its parts.
-/
import Derived.Test.YtakbldjmgfcipaaDoorPlC
namespace Go.Proofs.YtakbldjmgfcipaaDoor
open Go.SL

/-- the states that a run goes through -/
def run (o : api_Operation) : Int → List Int → List Int → List Int
  | s, l :: ls, z :: zs => next o s l z false :: run o (next o s l z false) ls zs
  | _, _, _ => []
def ok3 (l : List Int) : Prop := ∀ x, x ∈ l → 1 ≤ x ∧ x ≤ 3

theorem cnt_i {i : Nat} (h : i < 100000) : cnt 0 i = (i : Int) := by rw [cnt_eq (by omega) (by omega)]; omega
theorem getI_nat {α : Type} {l : List α} {i : Nat} {x : α} (h : l[i]? = some x) : getI l (i : Int) = some x := by
  unfold getI
  have : decide ((0 : Int) ≤ (i : Int)) = true := decide_eq_true (by omega)
  rw [this, Int.toNat_natCast]; exact h
theorem appI_ok {α : Type} {B : Nat} {l m : List α} (h : (l.length + m.length) * B ≤ 140737488355328) : appI B l m = some (l ++ m) := by
  unfold appI
  rw [decide_eq_true h]; rfl
theorem cutI_take {α : Type} {l : List α} {k : Int} (h0 : 0 ≤ k) (h1 : k ≤ l.length) : cutI l 0 k = some (l.take k.toNat) := by
  unfold cutI
  have : (decide ((0 : Int) ≤ 0) && (decide ((0 : Int) ≤ k) && decide (k ≤ (l.length : Int)))) = true := by simp [h0, h1]
  rw [this]; simp
theorem cutI_drop {α : Type} {l : List α} {k : Int} (h0 : 0 ≤ k) (h1 : k ≤ l.length) : cutI l k (l.length : Int) = some (l.drop k.toNat) := by
  unfold cutI
  have : (decide ((0 : Int) ≤ k) && (decide (k ≤ (l.length : Int)) && decide ((l.length : Int) ≤ (l.length : Int)))) = true := by simp [h0, h1]
  rw [this]; simp

theorem Run_loop {o : api_Operation} (ho : opOk o) (zs : List Int) (hz : ok3 zs) (hzl : zs.length ≤ 400) : ∀ (ls : List Int) (i : Nat) (s : Int) (out : List Int), ok3 ls → 0 ≤ s ∧ s ≤ 5 → i + ls.length = zs.length → out.length = i →
    ∃ s', foldI (F19_l0 o zs) ls i (s, out) = some (.next (s', out ++ run o s ls (zs.drop i)))
  | [], i, s, out, _, _, _, _ => ⟨s, by simp [foldI, run]⟩
  | x :: xs, i, s, out, hl, hs, hi, ho' => by
    simp only [List.length_cons] at hi
    have hlt : i < zs.length := by omega
    have hd : zs.drop i = zs[i] :: zs.drop (i + 1) := List.drop_eq_getElem_cons hlt
    have hzi := hz zs[i] (List.getElem_mem hlt)
    have hxi := hl x List.mem_cons_self
    have h1 : getI zs (cnt 0 i) = some zs[i] := by rw [cnt_i (by omega)]; exact getI_nat (List.getElem?_eq_getElem hlt)
    have h2 := Next_eq ho hs hxi hzi false
    have h3 : appI 9 out [next o s x zs[i] false] = some (out ++ [next o s x zs[i] false]) := appI_ok (by simp; omega)
    obtain ⟨s', h4⟩ := Run_loop ho zs hz hzl xs (i + 1) (next o s x zs[i] false) (out ++ [next o s x zs[i] false]) (fun y hy => hl y (List.mem_cons_of_mem _ hy)) (next_ok hs false) (by omega) (by simp [ho'])
    refine ⟨s', ?_⟩
    have h5 : F19_l0 o zs i x (s, out) = some (.next (next o s x zs[i] false, out ++ [next o s x zs[i] false])) := by
      unfold F19_l0
      simp only [h1, h2, h3, Option.bind_some]
      rfl
    simp only [foldI, h5, h4, hd, run]
    simp

theorem Run_eq {o : api_Operation} (ho : opOk o) {s : Int} (hs : 0 ≤ s ∧ s ≤ 5) {l z : List Int} (hl : ok3 l) (hz : ok3 z) (h : l.length = z.length) (hm : l.length ≤ 400) : F19 o s l z = some (run o s l z, 0) := by
  unfold F19
  have e1 : ((l.length : Int) != (z.length : Int)) = false := by rw [h]; simp
  have e2 : decide ((l.length : Int) > 400) = false := by simp; omega
  obtain ⟨s', e3⟩ := Run_loop ho z hz (by omega) l 0 s [] hl hs (by omega) rfl
  rw [e1, e2]
  simp only [cond_false, e3, andThen]
  simp

theorem run_length {o : api_Operation} : ∀ {l z : List Int} {s : Int}, l.length = z.length → (run o s l z).length = l.length
  | [], [], _, _ => rfl
  | x :: xs, y :: ys, s, h => by simp only [run, List.length_cons]; rw [run_length (by simpa using h)]
  | [], _ :: _, _, h => by simp at h
  | _ :: _, [], _, h => by simp at h
theorem run_range {o : api_Operation} : ∀ {l z : List Int} {s : Int}, 0 ≤ s ∧ s ≤ 5 → ∀ x, x ∈ run o s l z → 0 ≤ x ∧ x ≤ 5
  | [], _, _, _, x, h => by simp [run] at h
  | _ :: _, [], _, _, x, h => by simp [run] at h
  | a :: as, b :: bs, s, hs, x, h => by
    simp only [run, List.mem_cons] at h
    rcases h with rfl | h
    · exact next_ok hs false
    · exact run_range (next_ok hs false) x h
theorem run_split {o : api_Operation} : ∀ {l1 z1 : List Int} {s : Int} {l2 z2 : List Int}, l1.length = z1.length → run o s (l1 ++ l2) (z1 ++ z2) = run o s l1 z1 ++ run o ((run o s l1 z1).getLastD s) l2 z2
  | [], [], s, l2, z2, _ => by simp [run]
  | x :: xs, y :: ys, s, l2, z2, h => by
    simp only [List.cons_append, run, List.getLastD_cons]
    rw [run_split (by simpa using h)]
  | [], _ :: _, _, _, _, h => by simp at h
  | _ :: _, [], _, _, _, h => by simp at h

theorem whileN_to {σ ρ : Type} (f : σ → Option (Ctl σ ρ)) (P : Nat → σ → Prop) (E : σ → Prop) (n : Nat)
    (step : ∀ k s, k < n → P k s → ∃ s', f s = some (.next s') ∧ P (k + 1) s')
    (stop : ∀ s, P n s → ∃ s', f s = some (.brk s') ∧ E s') : ∀ m k s, n < m + k → k ≤ n → P k s → ∃ s', whileN f m s = some (.next s') ∧ E s' := by
  intro m
  induction m with
  | zero => intro k s h1 h2 _; exact absurd h1 (by omega)
  | succ m ih =>
    intro k s h1 h2 hp
    by_cases hk : k < n
    · obtain ⟨s', e, hp'⟩ := step k s hk hp
      obtain ⟨s'', e', he⟩ := ih (k + 1) s' (by omega) (by omega) hp'
      exact ⟨s'', by unfold whileN; rw [e]; exact e', he⟩
    · have : k = n := by omega
      subst this
      obtain ⟨s', e, he⟩ := stop s hp
      exact ⟨s', by unfold whileN; rw [e], he⟩

theorem ok3_app {l : List Int} {x : Int} (h : ok3 l) (hx : 1 ≤ x ∧ x ≤ 3) : ok3 (l ++ [x]) := by
  intro y hy
  rcases List.mem_append.1 hy with hy | hy
  · exact h y hy
  · simp at hy; subst hy; exact hx

theorem Zones_ok {s : dynposmake_Src} (hs : srcOk s) {most : Int} (hm : 0 ≤ most ∧ most ≤ 100) : ∃ a b s', F18 s most = some (a, b, s') ∧ srcOk s' ∧ a.length = b.length ∧ (a.length : Int) ≤ most ∧ ok3 a ∧ ok3 b := by
  unfold F18
  have e1 : w64 (most + 1) = most + 1 := w64_in (by omega)
  rw [e1]
  obtain ⟨n, s1, h1, k1, n0, n1⟩ := N_ok hs (most + 1) (by omega)
  have n1 := n1 (by omega)
  simp only [h1, Option.bind_some]
  obtain ⟨⟨q, L, At, a, b⟩, e2, p1, p2, p3, p4, p5⟩ := whileN_to F18_l0
    (fun k s => s.1 = n - k ∧ srcOk ⟨s.2.1, s.2.2.1⟩ ∧ s.2.2.2.1.length = k ∧ s.2.2.2.2.length = k ∧ ok3 s.2.2.2.1 ∧ ok3 s.2.2.2.2)
    (fun s => srcOk ⟨s.2.1, s.2.2.1⟩ ∧ s.2.2.2.1.length = s.2.2.2.2.length ∧ (s.2.2.2.1.length : Int) ≤ most ∧ ok3 s.2.2.2.1 ∧ ok3 s.2.2.2.2) n.toNat
    (fun k s hk ⟨p1, p2, p3, p4, p5, p6⟩ => by
      obtain ⟨q, L, At, a, b⟩ := s
      simp only at p1 p2 p3 p4 p5 p6
      unfold F18_l0
      have d1 : decide (q > 0) = true := by simp; omega
      simp only [d1, cond_true]
      obtain ⟨x, s2, h2, k2, m2⟩ := Pick_ok p2 [3, 3, 2, 1] (by simp) (by simp)
      obtain ⟨y, s3, h3, k3, m3⟩ := Pick_ok k2 [1, 1, 1, 2, 3] (by simp) (by simp)
      have a1 : appI 9 a [x] = some (a ++ [x]) := appI_ok (by simp; omega)
      have a2 : appI 9 b [y] = some (b ++ [y]) := appI_ok (by simp; omega)
      simp only [h2, h3, a1, a2, Option.bind_some]
      refine ⟨_, rfl, ?_, k3, by simp [p3], by simp [p4], ok3_app p5 (by simp at m2; omega), ok3_app p6 (by simp at m3; omega)⟩
      show w64 (q - 1) = _
      rw [w64_in (by omega)]; omega)
    (fun s ⟨p1, p2, p3, p4, p5, p6⟩ => by
      obtain ⟨q, L, At, a, b⟩ := s
      simp only at p1 p2 p3 p4 p5 p6
      unfold F18_l0
      have d1 : decide (q > 0) = false := by simp; omega
      simp only [d1, cond_false]
      exact ⟨_, rfl, p2, by simp [p3, p4], by simp only [p3]; omega, p5, p6⟩)
    1152921504606846976 0 (n, s1.L, s1.At, [], []) (by omega) (by omega) ⟨by simp, k1, rfl, rfl, by simp [ok3], by simp [ok3]⟩
  rw [e2]
  exact ⟨a, b, ⟨L, At⟩, rfl, p1, p2, p3, p4, p5⟩

theorem Ints_loop (m : List Int) (hm : m.length < 100000) : ∀ (l : List Int) (i : Nat), m.drop i = l → foldI (F20o1_l0 m) l i () = some (.next ())
  | [], _, _ => rfl
  | x :: xs, i, h => by
    have hlt : i < m.length := by
      rcases Nat.lt_or_ge i m.length with h' | h'
      · exact h'
      · rw [List.drop_eq_nil_of_le h'] at h; cases h
    have hd := List.drop_eq_getElem_cons hlt
    rw [h] at hd
    injection hd with h1 h2
    have h3 : getI m (cnt 0 i) = some x := by rw [cnt_i (by omega), h1]; exact getI_nat (List.getElem?_eq_getElem hlt)
    have h4 : F20o1_l0 m i x () = some (.next ()) := by
      unfold F20o1_l0
      simp [h3]
    simp only [foldI, h4]
    exact Ints_loop m hm xs (i + 1) h2.symm
theorem Ints_same (m : List Int) (hm : m.length < 100000) : F20o1 m m = some (true, m) := by
  unfold F20o1
  have : ((m.length : Int) != (m.length : Int)) = false := by simp
  rw [this]
  simp only [cond_false, Ints_loop m hm m 0 rfl, andThen]

theorem ok3_take {l : List Int} (h : ok3 l) (k : Nat) : ok3 (l.take k) := fun x hx => h x (List.mem_of_mem_take hx)
theorem ok3_drop {l : List Int} (h : ok3 l) (k : Nat) : ok3 (l.drop k) := fun x hx => h x (List.mem_of_mem_drop hx)

theorem operationRuns (t : List Int) (p : Int) (hp : 0 ≤ p ∧ p ≤ 255) : F7 t p = some true := by
  unfold F7
  by_cases hl : (t.length : Int) > 600
  · have h : decide ((t.length : Int) > 600) = true := by simpa using hl
    rw [h]
    simp only [cond_true, sane_ok, Option.bind_some]
  · have h : decide ((t.length : Int) > 600) = false := by simpa using hl
    rw [h]
    simp only [cond_false]
    obtain ⟨s0, h0, k0⟩ := New_ok t (by omega)
    obtain ⟨o, s1, h1, k1, ho⟩ := Operation_ok k0
    obtain ⟨x, s2, h2, k2, x0, x1⟩ := N_ok k1 6 (by omega)
    have x1 := x1 (by omega)
    obtain ⟨a, b, s3, h3, k3, hab, ha, oa, ob⟩ := Zones_ok k2 (most := 20) (by omega)
    have r1 := Run_eq ho (s := x) (by omega) oa ob hab (by omega)
    have hlen := run_length (o := o) (s := x) hab
    have e1 : w64 ((a.length : Int) + 1) = (a.length : Int) + 1 := w64_in (by omega)
    have e2 : w64 p = p := w64_in (by omega)
    have c0 : c7_0 (a, b, s3) (run o x a b, 0) = false := by unfold c7_0; simp [hlen]
    have e3 : nzI ((a.length : Int) + 1) = some () := by
      unfold nzI
      have : ((a.length : Int) + 1 == 0) = false := by simp; omega
      rw [this]; rfl
    have t0 : 0 ≤ Int.tmod p ((a.length : Int) + 1) := Int.tmod_nonneg _ hp.1
    have t1 : Int.tmod p ((a.length : Int) + 1) < (a.length : Int) + 1 := Int.tmod_lt_of_pos _ (by omega)
    simp only [h0, h1, h2, h3, r1, c0, cond_false, Option.bind_some, e1, e2, e3]
    unfold c7_1 c7_2
    simp only [e1, e2]
    generalize hk : Int.tmod p ((a.length : Int) + 1) = k at *
    have q1 : cutI a 0 k = some (a.take k.toNat) := cutI_take t0 (by omega)
    have q2 : cutI b 0 k = some (b.take k.toNat) := cutI_take t0 (by omega)
    have q3 : cutI a k (a.length : Int) = some (a.drop k.toNat) := cutI_drop t0 (by omega)
    have q4 : cutI b k (b.length : Int) = some (b.drop k.toNat) := cutI_drop t0 (by omega)
    have hk1 : (a.take k.toNat).length = (b.take k.toNat).length := by simp; omega
    have hk2 : (a.drop k.toNat).length = (b.drop k.toNat).length := by simp; omega
    have r2 := Run_eq ho (s := x) (by omega) (ok3_take oa k.toNat) (ok3_take ob k.toNat) hk1 (by simp; omega)
    have l2 : (run o x (a.take k.toNat) (b.take k.toNat)).length = k.toNat := by rw [run_length hk1]; simp; omega
    have l2' : ((run o x (a.take k.toNat) (b.take k.toNat)).length : Int) = k := by rw [l2]; omega
    have split := run_split (o := o) (s := x) (l2 := a.drop k.toNat) (z2 := b.drop k.toNat) hk1
    rw [List.take_append_drop, List.take_append_drop] at split
    simp only [q1, q2, q3, q4, r2, Option.bind_some, l2']
    simp only [bne_self_eq_false, cond_false]
    have fin : ∀ y, 0 ≤ y ∧ y ≤ 5 → (run o x (a.take k.toNat) (b.take k.toNat)).getLastD x = y →
        F19 o y (a.drop k.toNat) (b.drop k.toNat) = some (run o y (a.drop k.toNat) (b.drop k.toNat), 0) ∧
        appI 9 ([] : List Int) (run o x (a.take k.toNat) (b.take k.toNat)) = some (run o x (a.take k.toNat) (b.take k.toNat)) ∧
        appI 9 (run o x (a.take k.toNat) (b.take k.toNat)) (run o y (a.drop k.toNat) (b.drop k.toNat)) = some (run o x a b) ∧ F20o1 (run o x a b) (run o x a b) = some (true, run o x a b) := by
      intro y hy hlast
      have r3 := Run_eq ho (s := y) hy (ok3_drop oa k.toNat) (ok3_drop ob k.toNat) hk2 (by simp; omega)
      have l3 := run_length (o := o) (s := y) hk2
      refine ⟨r3, ?_, ?_, Ints_same _ (by rw [hlen]; omega)⟩
      · rw [appI_ok (by simp only [List.length_nil, l2]; omega)]; rfl
      · rw [appI_ok (by rw [l2, l3]; simp; omega), split, hlast]
    by_cases hk0 : k > 0
    · have d0 : decide (k > 0) = true := by simpa using hk0
      simp only [d0, cond_true]
      have e4 : w64 (k - 1) = k - 1 := w64_in (by omega)
      have hlast : ∃ y, getI (run o x (a.take k.toNat) (b.take k.toNat)) (k - 1) = some y ∧ (run o x (a.take k.toNat) (b.take k.toNat)).getLastD x = y ∧ y ∈ run o x (a.take k.toNat) (b.take k.toNat) := by
        obtain ⟨y, g1, g2⟩ := getI_ok (l := run o x (a.take k.toNat) (b.take k.toNat)) (y := k - 1) (by omega) (by rw [l2']; omega)
        refine ⟨y, g1, ?_, g2⟩
        unfold getI at g1
        have : decide (0 ≤ k - 1) = true := by simp; omega
        rw [this] at g1
        simp only [cond_true] at g1
        rw [List.getLastD_eq_getLast?, List.getLast?_eq_getElem?, l2]
        have : k.toNat - 1 = (k - 1).toNat := by omega
        rw [this, g1]; rfl
      obtain ⟨y, g1, g2, g3⟩ := hlast
      obtain ⟨f1, f2, f3, f4⟩ := fin y (run_range (by omega) y g3) g2
      simp only [e4, g1, Option.bind_some, f1]
      simp [guardO, allEqB, f2, f3, f4, sane_ok]
    · have d0 : decide (k > 0) = false := by simpa using hk0
      simp only [d0, cond_false]
      have hkz : k = 0 := by omega
      obtain ⟨f1, f2, f3, f4⟩ := fin x (by omega) (by
        have : run o x (a.take k.toNat) (b.take k.toNat) = [] := List.eq_nil_of_length_eq_zero (by rw [l2]; omega)
        rw [this]; rfl)
      simp only [Option.bind_some, f1]
      simp [guardO, allEqB, f2, f3, f4, sane_ok]
end Go.Proofs.YtakbldjmgfcipaaDoor
