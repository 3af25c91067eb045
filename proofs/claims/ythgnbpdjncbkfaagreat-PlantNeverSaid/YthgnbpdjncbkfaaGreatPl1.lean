import Derived.Test.YthgnbpdjncbkfaaGreatPl0
namespace Go.Proofs.YthgnbpdjncbkfaaGreat
open Go.SL
theorem Ku {b : Aa} (h : Au b) (i : Int) : Vn b i = some (Ia b i) := by
 have hb := h.brl
 unfold Vn vQ
 refine Ok.eq ?_
 refine Ok.bind (P := λ y => y = (Ia b i, i)) ?_ (λ y hy => Ok.pure (by rw [hy]))
 have key := Kq (f := λ n (a : Aj) (z : Unit) => (bif (a.Kind == 2 && a.B == i) then some (.ret (cnt 0 n)) else some (.next ()) : Option (Ctl Unit Int))) (p := λ x : Aj => x.Kind == 2 && x.B == i) (λ _ _ => rfl) b.Ad 0 (by omega)
 have : ∀ (xs : List Aj) (k : Nat), foldI (Om i) xs k () = match foldI (λ n (a : Aj) (z : Unit) => (bif (a.Kind == 2 && a.B == i) then some (.ret (cnt 0 n)) else some (.next ()) : Option (Ctl Unit Int))) xs k () with
   | some (.ret r) => some (.ret (r, i))
   | some (.next _) => some (.next ())
   | some (.brk _) => some (.brk ())
   | none => none := by
  intro xs
  induction xs with
  | nil => intro k; rfl
  | cons x xs ih =>
   intro k
   simp only [foldI, Om, vP]
   cases hq : (x.Kind == 2 && x.B == i) with
   | true => rfl
   | false => simp only [cond_false]; exact ih (k + 1)
 rw [this, key]
 unfold Ia O7
 cases b.Ad.findIdx? (λ x : Aj => x.Kind == 2 && x.B == i) with
 | none => exact Ok.pure rfl
 | some j => exact Ok.pure rfl
theorem Ae1 {b : Aa} (h : Au b) {p : Ab} (hp : As b p) {n : Nat} (hn : n < b.Al.toNat) : Gs b p (n : Int) = some (isl b p (Cy b p n), true) := of_eq h hp hn
theorem A70 {l : List Int} {x : Int × Int} (h : x ∈ bw l) : x.2 ∈ l := by
 unfold bw Gb at h
 obtain ⟨j, hj, rfl⟩ := aq.1 h
 have := aV.1 hj
 dsimp only
 rw [ae (by omega)]
 exact List.getElem_mem _
theorem A32 {b : Aa} (h : Au b) {p : Ab} (hp : As b p) (y : Bd) {n : Nat} (hn : n < b.Al.toNat) : Ok (All b y p (n : Int)) λ _ => True := by
 have hbr := hp.brk.len
 obtain ⟨l1, _⟩ := Wp h hp hn
 obtain ⟨r1, _⟩ := N9 h hp hn
 unfold All
 rw [Ae1 h hp hn]
 simp only [aa]
 refine Ok.cond (λ _ => Ok.pure trivial) (λ _ => ?_)
 refine Ok.andThen (A := λ _ => True) (B := λ _ => True) ?_ (λ _ _ => Ok.pure trivial) (λ _ _ => Ok.pure trivial)
 refine Ok.foldE (λ _ _ => True) _ 0 _ trivial (λ j x s hx _ => ?_) (λ _ _ => trivial)
 have hin := Kg (A70 (af hx))
 unfold Xh
 rw [Ku h]
 simp only [aa]
 rw [E2 (by omega)]
 simp only [aa]
 refine Ok.cond (λ _ => Ok.next trivial) (λ _ => ?_)
 rw [l1, r1]
 simp only [aa]
 refine (Ok.getI hin.1 hin.2).bind λ v _ => Ok.cond (λ _ => Ok.ret trivial) (λ _ => Ok.next trivial)
theorem A20 {b : Aa} (h : Au b) {p : Ab} (hp : As b p) (y : Bd) {n : Nat} (hn : n < b.Al.toNat) : Ok (Alk b y p (n : Int)) λ _ => True := by
 obtain ⟨l1, _⟩ := Wp h hp hn
 obtain ⟨r1, _⟩ := N9 h hp hn
 have hl := zX h hp hn
 unfold Alk
 rw [l1, r1, hl]
 refine (Ok.gT (λ _ => Ok.triv rfl) λ _ => trivial).bind (P := λ _ => True) λ _ _ => ?_
 refine (Ok.gT (λ _ => Ok.triv rfl) λ _ => trivial).bind (P := λ _ => True) λ _ _ => ?_
 refine (Ok.gT (λ _ => Ok.triv rfl) λ _ => trivial).bind (P := λ _ => True) λ _ _ => Ok.pure trivial
theorem Ahw {b : Aa} (h : Au b) (p : Ab) (f : Nat) : (isl b p f).Al.length <= 1000 /\ (isl b p f).Ac.length <= 1000 := by
 have h1 := h.buses
 have h2 := h.sol
 have h3 : (isl b p f).Al.length <= b.Al.toNat := Dn _ _
 have h4 : (isl b p f).Ac.length <= b.Ac.length := Dn _ _
 omega
theorem Azh {b : Aa} (h : Au b) {p : Ab} (hp : As b p) (f : Nat) {i : Int} (h0 : 0 <= i) (h1 : i < b.Ac.length) : Ok (Alc b p (isl b p f) i) λ _ => True := by
 have hbr := hp.brk.len
 have hns := hp.nso
 obtain ⟨w1, w2⟩ := Ahw h p f
 obtain ⟨j, x, e, hx, _, _, hj⟩ := L9 h h0 h1
 unfold Alc
 rw [Ku h, e]
 simp only [aa]
 rw [Bl hx]
 simp only [aa]
 simp only [E2 (show p.Ao.length <= 1000 by omega), aa]
 refine (Ok.gT (λ _ => Ok.triv rfl) λ _ => trivial).bind (P := λ _ => True) λ _ _ => ?_
 refine (Ok.gT (λ _ => Ok.triv rfl) λ _ => trivial).bind (P := λ _ => True) λ _ _ => ?_
 refine (Ok.gT (λ _ => Ok.triv (Dj _ _ (by omega))) λ _ => trivial).bind (P := λ _ => True) λ _ _ => ?_
 refine (Ok.gT (λ _ => Ok.triv (Dj _ _ (by omega))) λ _ => trivial).bind (P := λ _ => True) λ _ _ => ?_
 refine (Ok.gT (λ _ => Ok.getB h0 (by omega)) λ _ => trivial).bind (P := λ _ => True) λ _ _ => Ok.pure trivial
theorem A2q {b : Aa} (h : Au b) {p : Ab} (hp : As b p) {n : Nat} (hn : n < b.Al.toNat) : Ok (Alj b p (n : Int)) λ v => v.2 = true -> 0 <= v.1 /\ v.1 < b.Ac.length := by
 have hns := hp.nso
 have hsl := h.sol
 unfold Alj
 rw [Ae1 h hp hn]
 simp only [aa]
 refine Ok.cond (λ _ => Ok.pure λ hh => by cases hh) (λ _ => ?_)
 refine Ok.andThen (A := λ _ => True) (B := λ v : Int × Bool => v.2 = true -> 0 <= v.1 /\ v.1 < b.Ac.length) ?_ (λ _ _ => Ok.pure λ hh => by cases hh) (λ v hv => Ok.pure hv)
 refine Ok.foldI0 (I := λ _ _ => True) trivial (λ j x s hx _ => ?_) (λ _ _ => trivial)
 unfold Aax
 refine Ok.inner (A := λ _ => True) (B := λ v : Int × Bool => v.2 = true -> 0 <= v.1 /\ v.1 < b.Ac.length) ?_ (λ _ _ => Ok.next trivial) (λ v hv => Ok.ret hv)
 refine Ok.foldI0 (I := λ _ _ => True) trivial (λ k a s ha _ => ?_) (λ _ _ => trivial)
 have hk : k < p.Ac.length := (ab.1 ha).1
 unfold Aaw
 rw [Cz (by omega)]
 refine (Ok.gT (λ _ => Azh h hp _ (by omega) (by omega)) λ _ => trivial).bind (P := λ _ => True) λ _ _ => ?_
 refine Ok.cond (λ _ => Ok.ret λ _ => ?_) (λ _ => Ok.next trivial)
 dsimp only; omega
theorem Ath {b : Aa} (h : Au b) {p : Ab} (hp : As b p) (n : Int) {i : Int} (h0 : 0 <= i) (h1 : i < b.Ac.length) : Ok (Vo b p n i) λ v => v.1.length <= 2 := by
 have hns := hp.nso
 unfold Vo
 refine (Ok.getI h0 (by omega)).bind λ x _ => ?_
 refine Ok.cond (λ _ => Ok.pure (by simp)) (λ _ => Ok.cond (λ _ => ?_) (λ _ => Ok.pure (by simp)))
 refine (K8 h hp n).bind λ v _ => ?_
 unfold Z0
 rw [Cm h hp, Jz h hp, Ku h]
 exact Ok.pure (by simp)
theorem Agk {T o : Int} (ho : -1 <= o /\ o <= T) (hT : 0 <= T) (v : Bool) : -1 <= I3 o v T /\ I3 o v T <= T := by
 unfold I3
 cases v with
 | false => simp only [Bool.not_false, cond_true]; omega
 | true =>
  simp only [aZ, cond_false]
  cases hq : (o == -1) with
  | true => simp only [cond_true]; omega
  | false => simp only [cond_false]; exact ho
theorem Auo {b : Aa} (h : Au b) {y : Bd} (hy : Jd y) {p : Ab} (hp : As b p) {n : Nat} (hn : n < b.Al.toNat) {T : Int} (hT : 0 <= T /\ T <= 2147483648) {r : A0} (hr : Fc T r) :
  Ok (Vu b y p (n : Int) T r) λ z => Fc T z.1 /\ z.2.1.length <= 2 /\ (y.Delay = 600 -> T <= 500 -> z.2.1 = []) := by
 obtain ⟨hr1, hr2⟩ := hr
 have hbu := h.buses
 unfold Vu
 rw [Cm h hp]
 simp only [aa]
 refine Ok.cond (λ hc => by simp at hc) (λ _ => Ok.cond (λ hc => ?_) (λ _ => Ok.cond (λ hc => ?_) (λ _ => ?_)))
 ·exfalso
  simp only [Ai3, Xv hy, Lh, aZ, aY, aF, decide_eq_true_eq, bg, Bool.and_eq_false_iff, decide_eq_false_iff_not] at hc
  omega
 ·exfalso
  simp only [Ai2, aF, decide_eq_true_eq] at hc
  omega
 refine (A32 h hp y hn).bind λ v6 _ => (A20 h hp y hn).bind λ v8 _ => (A2q h hp hn).bind λ v10 h10 => ?_
 have s1 := Agk hr1 hT.1 v8
 have s2 := Agk hr2 hT.1 v6.2
 refine Ok.cond (λ hc => ?_) (λ hc => ?_)
 ·simp only [Ai1, ac, decide_eq_true_eq] at hc
  obtain ⟨⟨c1, c2⟩, c3⟩ := hc
  have hin := h10 c1
  refine (Ath h hp _ hin.1 hin.2).bind λ v13 h13 => ?_
  refine Ok.andThen (A := λ s => -1 <= s /\ s <= T) (B := λ (_ : Unit) => False) ?_ (λ s hs => Ok.pure ⟨⟨hs, s2⟩, h13, λ hd ht => ?_⟩) (λ _ h => h.elim)
  ·unfold Vt
   refine Ok.cond (λ _ => Ok.nextE (by omega)) (λ _ => Ok.nextE s1)
  ·exfalso
   rw [A8 (by omega)] at c3
   omega
 ·refine Ok.cond (λ hc => ?_) (λ _ => Ok.pure ⟨⟨s1, s2⟩, by simp, λ _ _ => rfl⟩)
  rw [Ku h]
  simp only [aa]
  refine Ok.pure ⟨⟨s1, by dsimp only; omega⟩, by simp, λ hd ht => ?_⟩
  exfalso
  simp only [Ai0, ac, decide_eq_true_eq] at hc
  have c3 := hc.2
  rw [A8 (by omega)] at c3
  omega
def Bj (b : Aa) (T : Int) (p : Ab) (l : List Ap) : Ab := l.foldl (λ q a => doP b q T a) p
def Cf (b : Aa) (T : Int) : Ab -> List Ap -> List Bg
 | _, [] => []
 | p, a :: l => doE b p T a ++ Cf b T (doP b p T a) l
def Cc (b : Aa) (T : Int) : Ab -> List Ap -> List Ab
 | _, [] => []
 | p, a :: l => doS b p T a ++ Cc b T (doP b p T a) l
theorem F0 {b : Aa} (h : Au b) (T : Int) : ∀ (l : List Ap) {p : Ab}, As b p -> As b (Bj b T p l)
 | [], _, hp => hp
 | a :: l, _, hp => F0 h T l (uC h hp T a)
theorem Yh (b : Aa) (T : Int) (p : Ab) (l m : List Ap) : Bj b T p (l ++ m) = Bj b T (Bj b T p l) m := by unfold Bj; rw [aR]
theorem Qt (b : Aa) (T : Int) : ∀ (l m : List Ap) (p : Ab), Cf b T p (l ++ m) = Cf b T p l ++ Cf b T (Bj b T p l) m
 | [], _, _ => rfl
 | a :: l, m, p => by
  show doE b p T a ++ Cf b T (doP b p T a) (l ++ m) = doE b p T a ++ Cf b T (doP b p T a) l ++ Cf b T (Bj b T (doP b p T a) l) m
  rw [Qt b T l m, aL]
theorem Qr (b : Aa) (T : Int) : ∀ (l m : List Ap) (p : Ab), Cc b T p (l ++ m) = Cc b T p l ++ Cc b T (Bj b T p l) m
 | [], _, _ => rfl
 | a :: l, m, p => by
  show doS b p T a ++ Cc b T (doP b p T a) (l ++ m) = doS b p T a ++ Cc b T (doP b p T a) l ++ Cc b T (Bj b T (doP b p T a) l) m
  rw [Qr b T l m, aL]
theorem A28 {b : Aa} (h : Au b) {p : Ab} (hp : As b p) (T : Int) (a : Ap) : (doE b p T a).length <= 10001 := by
 unfold doE
 split
 ·rename_i he
  have := (Hu h (Nd h hp he).1).2.2
  simp; omega
 ·simp
theorem A27 {b : Aa} (h : Au b) {p : Ab} (hp : As b p) (T : Int) (a : Ap) : (doS b p T a).length <= 10002 := by
 unfold doS
 split
 ·rename_i he
  have := (Hu h (Nd h hp he).1).2.2
  split <;> simp [K9] <;> omega
 ·simp
theorem J8 {b : Aa} (h : Au b) (T : Int) : ∀ (l : List Ap) {p : Ab}, As b p -> (Cf b T p l).length <= 10001 * l.length
 | [], _, _ => by simp [Cf]
 | a :: l, p, hp => by
  have h1 := A28 h hp T a
  have h2 := J8 h T l (uC h hp T a)
  simp only [Cf, aJ, aU]
  omega
theorem J7 {b : Aa} (h : Au b) (T : Int) : ∀ (l : List Ap) {p : Ab}, As b p -> (Cc b T p l).length <= 10002 * l.length
 | [], _, _ => by simp [Cc]
 | a :: l, p, hp => by
  have h1 := A27 h hp T a
  have h2 := J7 h T l (uC h hp T a)
  simp only [Cc, aJ, aU]
  omega
abbrev Ax9 (b : Aa) (T : Int) (P : Ab) (ros : List A0) (evs ev : List Bg) (st : List Ab) :=
 (T, b.Al, b.Ad, b.Ac, b.Af, b.Phase, b.An, P.Ag, P.Ac, P.Aq, P.Ao, ros, evs, ev, st)
theorem An0 {b : Aa} (h : Au b) {T : Int} {P : Ab} (hp : As b P) (ros : List A0) (evs : List Bg) {ev : List Bg} {st : List Ab} {l : List Ap}
  (h1 : ev.length + 10001 * l.length <= 1000000) (h2 : st.length + 10002 * l.length <= 1000000) :
  Ok (foldI Rz l 0 (Ax9 b T P ros evs ev st)) (Dt (λ s => s = Ax9 b T (Bj b T P l) ros evs (ev ++ Cf b T P l) (st ++ Cc b T P l)) λ (_ : Unit) => False) := by
 refine Ok.foldI0 (I := λ j s => s = Ax9 b T (Bj b T P (l.take j)) ros evs (ev ++ Cf b T P (l.take j)) (st ++ Cc b T P (l.take j))) ?_ (λ j a s ha hs => ?_) λ s hs => ?_
 ·simp [Bj, Cf, Cc]
 ·have hj : j < l.length := (ab.1 ha).1
  have hq := F0 h T (l.take j) hp
  have e1 := J8 h T (l.take j) hp
  have e2 := J7 h T (l.take j) hp
  rw [aO] at e1 e2
  subst hs
  unfold Rz
  have hd := A9p h (T := T) (ros := ros) (evs := evs) (ev := ev ++ Cf b T P (l.take j)) (sts := st ++ Cc b T P (l.take j)) hq (by simp; omega) (by simp; omega) a
  refine Ok.bind (P := λ y => y = _) (Ok.of_eq hd rfl) λ y hy => Ok.next ?_
  subst hy
  have e3 : Bj b T P (l.take (j + 1)) = doP b (Bj b T P (l.take j)) T a := by rw [Bk ha, Yh]; rfl
  have e4 : Cf b T P (l.take (j + 1)) = Cf b T P (l.take j) ++ doE b (Bj b T P (l.take j)) T a := by rw [Bk ha, Qt]; simp [Cf]
  have e5 : Cc b T P (l.take (j + 1)) = Cc b T P (l.take j) ++ doS b (Bj b T P (l.take j)) T a := by rw [Bk ha, Qr]; simp [Cc]
  rw [e3, e4, e5, ← aL, ← aL]
 ·rw [aD] at hs; exact hs
theorem Ayg {b : Aa} (h : Au b) {y : Bd} (hy : Jd y) {T : Int} (hT : 0 <= T /\ T <= 2147483648) {P : Ab} (hp : As b P) {ros : List A0} (hr : ros.length = b.Al.toNat /\ ∀ x, x ∈ ros -> Fc T x)
  (evs : List Bg) {ev : List Bg} {st : List Ab} (h1 : ev.length <= 500000) (h2 : st.length <= 500000) :
  Ok (Xc ⟨⟨T, P, ros, evs⟩, b, ev, st⟩ y) λ r => ∃ (l : List Ap) (ros' : List A0), r = ⟨⟨T, Bj b T P l, ros', evs⟩, b, ev ++ Cf b T P l, st ++ Cc b T P l⟩ /\
   l.length <= 2 * (Bm b P).length /\ (ros'.length = b.Al.toNat /\ ∀ x, x ∈ ros' -> Fc T x) /\ (y.Delay = 600 -> T <= 500 -> l = []) := by
 have hbu := h.buses
 have hil := H3 b P
 unfold Xc
 have e0 := A2z hbu
 have e1 : F89 b P = some (Bm b P) := H4 h hp
 refine Ok.bind (P := λ v => v = List.replicate b.Al.toNat Ju) (Ok.of_eq e0 rfl) λ v hv => ?_
 subst hv
 refine Ok.bind (P := λ v => v = Bm b P) (Ok.of_eq e1 rfl) λ v hv => ?_
 subst hv
 have hidle : ∀ x, x ∈ List.replicate b.Al.toNat Ju -> Fc T x := λ x hx => by
  rw [(List.mem_replicate.1 hx).2]
  exact ⟨by simp [Ju]; omega, by simp [Ju]; omega⟩
 refine Ok.andThen (A := λ s => ∃ (l : List Ap) (ros' : List A0), s = (T, b.Al, b.Ad, b.Ac, b.Af, b.Phase, b.An, ros', (Bj b T P l).Ag, (Bj b T P l).Ac, (Bj b T P l).Aq, (Bj b T P l).Ao, ros, evs, ev ++ Cf b T P l, st ++ Cc b T P l) /\
   l.length <= 2 * (Bm b P).length /\ (ros'.length = b.Al.toNat /\ ∀ x, x ∈ ros' -> Fc T x) /\ (y.Delay = 600 -> T <= 500 -> l = [])) (B := λ (_ : Unit) => False) ?_ (λ s hs => ?_) (λ _ h => h.elim)
 ·refine Ok.foldI0 (I := λ j s => ∃ (l : List Ap) (ros' : List A0), s = (T, b.Al, b.Ad, b.Ac, b.Af, b.Phase, b.An, ros', (Bj b T P l).Ag, (Bj b T P l).Ac, (Bj b T P l).Aq, (Bj b T P l).Ao, ros, evs, ev ++ Cf b T P l, st ++ Cc b T P l) /\
   l.length <= 2 * j /\ (ros'.length = b.Al.toNat /\ ∀ x, x ∈ ros' -> Fc T x) /\ (y.Delay = 600 -> T <= 500 -> l = [])) ⟨[], _, by simp [Cf, Cc, Bj], by simp, ⟨by simp, hidle⟩, λ _ _ => rfl⟩ (λ j x s hx hI => ?_) λ s hI => hI
  obtain ⟨l, ros', rfl, g1, ⟨g2, g3⟩, g4⟩ := hI
  have hj : j < (Bm b P).length := (ab.1 hx).1
  have hin := Ahx h (af hx)
  obtain ⟨b0, b1⟩ := Y5 hin
  have hq := F0 h T l hp
  have l1 := J8 h T l hp
  have l2 := J7 h T l hp
  have stay : ∃ (l' : List Ap) (ros2 : List A0), (T, b.Al, b.Ad, b.Ac, b.Af, b.Phase, b.An, ros', (Bj b T P l).Ag, (Bj b T P l).Ac, (Bj b T P l).Aq, (Bj b T P l).Ao, ros, evs, ev ++ Cf b T P l, st ++ Cc b T P l) = (T, b.Al, b.Ad, b.Ac, b.Af, b.Phase, b.An, ros2, (Bj b T P l').Ag, (Bj b T P l').Ac, (Bj b T P l').Aq, (Bj b T P l').Ao, ros, evs, ev ++ Cf b T P l', st ++ Cc b T P l') /\
   l'.length <= 2 * (j + 1) /\ (ros2.length = b.Al.toNat /\ ∀ x, x ∈ ros2 -> Fc T x) /\ (y.Delay = 600 -> T <= 500 -> l' = []) := ⟨l, ros', rfl, by omega, ⟨g2, g3⟩, g4⟩
  unfold Zu
  rw [b0]
  simp only [aa]
  have hl := zX h hq b1
  refine Ok.bind (P := λ _ => True) (Ok.gT (λ _ => Ok.triv hl) λ _ => trivial) λ v _ => ?_
  refine Ok.cond (λ _ => Ok.next stay) (λ _ => ?_)
  refine Ok.bind (P := λ r => Fc T r) ((Ok.getI (l := ros) (by omega) (by omega)).mono λ r hr' => hr.2 r (af hr')) λ r hr' => ?_
  refine Ok.bind (P := λ z => Fc T z.1 /\ z.2.1.length <= 2 /\ (y.Delay = 600 -> T <= 500 -> z.2.1 = [])) (Auo h hy hq b1 hT hr') λ z hz => ?_
  refine (Ok.getI (l := ros') (by omega) (by omega)).bind λ _ _ => (Ok.setI (l := ros') (x := z.1) (by omega) (by omega)).bind λ w hw => ?_
  subst hw
  refine Ok.inner (An0 h hq ros evs (ev := ev ++ Cf b T P l) (st := st ++ Cc b T P l) (l := z.2.1) (by simp; omega) (by simp; omega)) (λ s hs => ?_) (λ _ h => h.elim)
  subst hs
  refine Ok.next ⟨l ++ z.2.1, ros'.set (Rf x : Int).toNat z.1, ?_, by simp; omega, ⟨by rw [bU]; exact g2, λ r hr2 => ?_⟩, λ hd ht => by rw [g4 hd ht, hz.2.2 hd ht]; rfl⟩
  ·rw [Yh, Qt, Qr, aL, aL]
  ·rcases bK hr2 with hr2 | hr2
   ·exact g3 r hr2
   ·rw [hr2]; exact hz.1
 ·obtain ⟨l, ros', rfl, g⟩ := hs
  exact Ok.pure ⟨l, ros', rfl, g⟩
def wtP (b : Aa) (P : Ab) (T : Int) : Ab := (Bw b P T ⟨7, 0, 0⟩).1
theorem X8 {b : Aa} (h : Au b) {P : Ab} (hp : As b P) {T : Int} (hT : 0 <= T /\ T <= 2147483648) : F83 b P T ⟨7, 0, 0⟩ = some (wtP b P T, 0) /\ As b (wtP b P T) /\ ∃ w, Lg ⟨b, P, T⟩ = some w /\ w.Aw = wtP b P T := by
 obtain ⟨w, hw, hwo⟩ := Amq h hp T
 have key : F83 b P T ⟨7, 0, 0⟩ = some (w.Aw, 0) := by
  refine Ok.eq ?_
  unfold F83
  rw [Cm h hp, A34, Cv h hp]
  simp only [aa]
  refine Ok.cond (λ hc => by simp at hc) (λ _ => Ok.cond (λ hc => ?_) (λ _ => Ok.cond (λ hc => by simp at hc) (λ _ => ?_)))
  ·simp [Arp] at hc; omega
  ·have : Ip ⟨b, P, T⟩ ⟨7, 0, 0⟩ = some (0, w) := by
    unfold Ip
    rw [hw]; rfl
   rw [this]
   exact Ok.pure rfl
 have e : wtP b P T = w.Aw := by unfold wtP Bw; rw [key]; rfl
 rw [e]
 exact ⟨key, hwo, w, hw, rfl⟩
def Ug (l : List Bg) : List Bg := l.drop (l.length - 200)
theorem A2e {b : Aa} (h : Au b) {y : Bd} (hy : Jd y) {p : Az} (hp : Ic b y p) (hT : p.Time <= 1000) (he : p.A6.length <= 200) {l : List Ap} (hl : l.length <= 10) :
  Ok (F34 b y p l) λ z => z.2 = 0 /\ ∃ (m : List Ap) (ros' : List A0), m.length <= 2 * b.Al.toNat /\ (ros'.length = b.Al.toNat /\ ∀ x, x ∈ ros' -> Fc p.Time x) /\ (y.Delay = 600 -> p.Time <= 500 -> m = []) /\
   z.1 = ⟨⟨p.Time + 1, wtP b (Bj b p.Time p.Power (l ++ m)) p.Time, ros', Ug (p.A6 ++ Cf b p.Time p.Power (l ++ m))⟩, b, Cf b p.Time p.Power (l ++ m), [p.Power] ++ Cc b p.Time p.Power (l ++ m) ++ [wtP b (Bj b p.Time p.Power (l ++ m)) p.Time]⟩ := by
 have hbu := h.buses
 have hti := hp.time
 have hst := hp.st
 have hnr := hp.nro
 unfold F34
 rw [Sb h hy hp]
 simp only [aa]
 refine Ok.cond (λ hc => by simp at hc) (λ _ => Ok.cond (λ hc => ?_) (λ _ => Ok.cond (λ hc => ?_) (λ _ => ?_)))
 ·simp only [decide_eq_true_eq] at hc; omega
 ·simp only [beq_iff_eq] at hc; omega
 rw [A0d h hst (by omega) (by omega)]
 simp only [aa]
 rw [A2t h hst (by simp)]
 simp only [aa]
 refine Ok.andThen (An0 h hst p.A5 p.A6 (ev := []) (st := [] ++ [p.Power]) (l := l) (by simp; omega) (by simp; omega)) (λ s hs => ?_) (λ _ h => h.elim)
 subst hs
 have hq := F0 h p.Time l hst
 have l1 := J8 h p.Time l hst
 have l2 := J7 h p.Time l hst
 refine Ok.bind (Ayg h hy hti hq ⟨hnr, hp.ros⟩ p.A6 (ev := [] ++ Cf b p.Time p.Power l) (st := [] ++ [p.Power] ++ Cc b p.Time p.Power l) (by simp; omega) (by simp; omega)) λ r hr => ?_
 obtain ⟨m, ros', rfl, g1, g2, g3⟩ := hr
 have hil := H3 b (Bj b p.Time p.Power l)
 have hq2 := F0 h p.Time m hq
 have l3 := J8 h p.Time m hq
 have l4 := J7 h p.Time m hq
 obtain ⟨w1, w2, _⟩ := X8 h hq2 hti
 refine Ok.bind (P := λ v => v = (wtP b (Bj b p.Time (Bj b p.Time p.Power l) m) p.Time, (0 : Int))) (Ok.of_eq w1 rfl) λ v hv => ?_
 subst hv
 have k3 := Ay6 h (r := ⟨⟨p.Time, wtP b (Bj b p.Time (Bj b p.Time p.Power l) m) p.Time, ros', p.A6⟩, b, [] ++ Cf b p.Time p.Power l ++ Cf b p.Time (Bj b p.Time p.Power l) m, [] ++ [p.Power] ++ Cc b p.Time p.Power l ++ Cc b p.Time (Bj b p.Time p.Power l) m⟩) (p := wtP b (Bj b p.Time (Bj b p.Time p.Power l) m) p.Time) w2
 refine Ok.bind (P := λ v => v = _) (Ok.of_eq (k3 (by simp; omega)) rfl) λ v hv => ?_
 subst hv
 have eE : [] ++ Cf b p.Time p.Power l ++ Cf b p.Time (Bj b p.Time p.Power l) m = Cf b p.Time p.Power (l ++ m) := by rw [Qt]; rfl
 have eS : [] ++ [p.Power] ++ Cc b p.Time p.Power l ++ Cc b p.Time (Bj b p.Time p.Power l) m = [p.Power] ++ Cc b p.Time p.Power (l ++ m) := by rw [Qr]; simp
 rw [eE, eS]
 have eP : Bj b p.Time (Bj b p.Time p.Power l) m = Bj b p.Time p.Power (l ++ m) := (Yh _ _ _ _ _).symm
 have l5 := J8 h p.Time (l ++ m) hst
 simp only [aJ] at l5
 refine (Ok.appI (l := p.A6) (m := Cf b p.Time p.Power (l ++ m)) (by omega)).bind λ u hu => ?_
 subst hu
 have hlen : ((p.A6 ++ Cf b p.Time p.Power (l ++ m)).length : Int) <= 10000000 := by simp only [aJ]; omega
 have ew : w64 (((p.A6 ++ Cf b p.Time p.Power (l ++ m)).length : Int) - 200) = ((p.A6 ++ Cf b p.Time p.Power (l ++ m)).length : Int) - 200 := A8 (by omega)
 rw [ew]
 have en : (max 0 (((p.A6 ++ Cf b p.Time p.Power (l ++ m)).length : Int) - 200)).toNat = (p.A6 ++ Cf b p.Time p.Power (l ++ m)).length - 200 := by omega
 refine Ok.bind (P := λ v => v = Ug (p.A6 ++ Cf b p.Time p.Power (l ++ m))) ((Ok.cutI (by omega) (by omega) (by omega)).mono λ v hv => ?_) λ v hv => ?_
 ·rw [hv, az, aD, en]; rfl
 rw [hv]
 unfold F84
 have hcl : (Ug (p.A6 ++ Cf b p.Time p.Power (l ++ m))).length <= 10000000 := by
  unfold Ug
  rw [bV]; omega
 rw [Ls (by omega)]
 simp only [aa]
 rw [A8 (n := p.Time + 1) (by omega), eP]
 exact Ok.pure ⟨rfl, m, ros', by omega, g2, g3, by rw [aL]⟩
theorem A8i {b : Aa} (h : Au b) {s : Ah} (hs : Bu s) {k : Int} (hk : 0 <= k /\ k <= 100) : Ok (F10 s b k) λ y => (y.1.length : Int) <= k /\ Bu y.2 := by
 unfold F10
 have e : w64 (k + 1) = k + 1 := A8 (by omega)
 rw [e]
 refine (Fd hs (k + 1) (by omega) (by omega)).bind λ y hy => ?_
 refine Ok.andThen (A := λ s => (s.2.2.2.length : Int) <= k /\ Bu ⟨s.2.1, s.2.2.1⟩) (B := λ (_ : Unit) => False) ?_ (λ s hs => Ok.pure hs) (λ _ h => h.elim)
 refine Ok.whileN (λ s => (0 <= s.1 /\ s.1 <= 200 /\ s.1 + (s.2.2.2.length : Int) <= k) /\ Bu ⟨s.2.1, s.2.2.1⟩) (λ s => s.1.toNat) _ _ ?_ ?_ ?_
 ·exact ⟨⟨by dsimp only; omega, by dsimp only; omega, by simp; omega⟩, hy.1⟩
 ·dsimp only; omega
 ·rintro ⟨i, L, a, l⟩ ⟨⟨g1, g2, g3⟩, g4⟩
  dsimp only at g1 g2 g3 g4
  unfold Alz
  dsimp only
  refine Ok.cond (λ hq => ?_) (λ _ => Ok.brk ⟨by dsimp only; omega, g4⟩)
  simp only [decide_eq_true_eq] at hq
  have e1 : w64 (i - 1) = i - 1 := A8 (by omega)
  rw [e1]
  refine (A8j h g4).bind λ u hu => (Ok.appI (by simp; omega)).bind λ w hw => Ok.next ⟨⟨⟨by dsimp only; omega, by dsimp only; omega, by rw [hw]; simp; omega⟩, hu⟩, by dsimp only; omega⟩
theorem A2p (x : Int) : I4 x = Eg x := by
 have hr := Lw (x := x) (n := 3600) (by omega)
 unfold I4 Eg
 rw [A8 (by omega)]
 by_cases h : Int.tmod x 3600 < 0
 ·rw [decide_eq_true h, cond_true, cx (by omega)]
  omega
 ·rw [decide_eq_false h, cond_false, cx (by omega)]
  omega
theorem Agl {α : Type} {l : List α} {x : α} {j : Nat} (h : l[j]? = some x) : l.set j x = l := by
 obtain ⟨hj, e⟩ := ab.1 h
 rw [← e]; exact List.set_getElem_self hj
def Dz (x : Ae) : Ae := if x.State = 2 then ⟨x.State, x.Since, x.An, Eg (w64 (x.Phase + w64 (36 * w64 (x.An - 5000))))⟩ else x
theorem Amw {α : Type} {l m : List α} {x : α} {v : α} {j : Nat} (h : m[j]? = some x) (hl : l.length = m.length) : (l.take j ++ m.drop j).set j v = l.take j ++ v :: m.drop (j + 1) := by
 have hj := (ab.1 h).1
 rw [List.set_append_right _ _ (by simp; omega), cE hj]
 have : j - (l.take j).length = 0 := by simp; omega
 rw [this]; rfl
theorem A31 {α : Type} (f : α -> α) {l : List α} {x : α} {j : Nat} (h : l[j]? = some x) : (((l.map f).take j ++ l.drop j)[j]? = some x) /\ (l.map f).take (j + 1) ++ l.drop (j + 1) = ((l.map f).take j ++ l.drop j).set j (f x) := by
 have hj := (ab.1 h).1
 constructor
 ·rw [aC (by simp; omega)]
  have : j - ((l.map f).take j).length = 0 := by simp; omega
  rw [this, al]; exact h
 ·rw [Amw h (by simp), Bk (x := f x) (by simp [h]), aL]; rfl
theorem A2b {b : Aa} (h : Au b) {p : Ab} (hp : As b p) : Zy b p = some (⟨p.Ag, p.Ac.map Dz, p.Aq, p.Ao⟩, 0) := by
 have hs := h.sol
 have hn := hp.nso
 refine Ok.eq ?_
 unfold Zy
 rw [Cm h hp, Cv h hp]
 simp only [aa]
 refine Ok.cond (λ hc => by simp at hc) (λ _ => ?_)
 refine Ok.andThen (A := λ s => s = p.Ac.map Dz) (B := λ (_ : Unit) => False) ?_ (λ s hs => Ok.pure (by rw [hs])) (λ _ h => h.elim)
 refine Ok.foldI0 (I := λ j s => s = (p.Ac.map Dz).take j ++ p.Ac.drop j) rfl (λ j x s hx hs => ?_) λ s hs => ?_
 ·obtain ⟨m1, m2⟩ := A31 Dz hx
  have hj := (ab.1 hx).1
  subst hs
  unfold Xe
  rw [Cz (by omega), m2]
  refine Ok.cond (λ hc => ?_) (λ hc => Ok.next ?_)
  ·rw [Bl m1]
   simp only [aa]
   rw [Ye (by simp; omega)]
   refine Ok.next ?_
   unfold Dz
   rw [if_pos (by simpa using hc)]
  ·unfold Dz
   rw [if_neg (by simpa using hc)]
   exact (Agl m1).symm
 ·rw [hs, List.drop_length, aS, bQ (by simp)]
def T0 (b : Aa) (C : List Bool) (i : Nat) : Bool := !C.getD (Ia b (i : Int)).toNat false
def Gg (b : Aa) (C : List Bool) (t : Int) (x : Ae) (i : Nat) : Ae :=
 if (x.State = 1 /\ T0 b C i = true) /\ w64 (x.Since + (b.Ac.getD i default).Start) <= w64 (t + 1) then ⟨2, x.Since, x.An, x.Phase⟩ else x
def Kt (b : Aa) (C : List Bool) (t : Int) (l : List Ae) (j : Nat) : List Ae := ((l.zipIdx.map λ z => Gg b C t z.1 z.2).take j) ++ l.drop j
theorem Aqb {b : Aa} {C : List Bool} {t : Int} {l : List Ae} {j : Nat} {x : Ae} (h : l[j]? = some x) : (Kt b C t l j)[j]? = some x /\ Kt b C t l (j + 1) = (Kt b C t l j).set j (Gg b C t x j) /\ (Kt b C t l j).length = l.length := by
 have hj := (ab.1 h).1
 unfold Kt
 refine ⟨?_, ?_, by simp; omega⟩
 ·rw [aC (by simp; omega)]
  have : j - ((l.zipIdx.map λ z => Gg b C t z.1 z.2).take j).length = 0 := by simp; omega
  rw [this, al]; exact h
 ·rw [Amw h (by simp), Bk (x := Gg b C t x j) (by simp [h]), aL]; rfl
def wtS (b : Aa) (p : Ab) (t : Int) : Ab := ⟨p.Ag, Kt b p.Ag t (p.Ac.map Dz) (p.Ac.map Dz).length, p.Aq, p.Ao⟩
theorem A92 {b : Aa} {i : Nat} (h : i < b.Ac.length) : b.Ac[i]? = some (b.Ac.getD i default) := by
 rw [ae h]; simp [List.getD, ae h]
theorem An5 {b : Aa} (h : Au b) {p : Ab} (hc : p.Ag.length = b.Ad.length) (t : Int) {i : Nat} (hi : i < b.Ac.length) : Io ⟨b, p, t⟩ (i : Int) = some (T0 b p.Ag i) := by
 obtain ⟨j, x, e, hx, _⟩ := L9 h (i := (i : Int)) (by omega) (by omega)
 have hj := (ab.1 hx).1
 unfold Io T0
 rw [uP h, e, az]
 simp only [aa]
 have hg : p.Ag[j]? = some (p.Ag.getD j false) := by
  rw [ae (by omega)]; simp [List.getD, ae (show j < p.Ag.length by omega)]
 rw [Bl hg]; rfl
theorem A18 {b : Aa} (h : Au b) {p : Ab} (hp : As b p) (t : Int) : Lg ⟨b, p, t⟩ = some ⟨b, wtS b p t, t⟩ := by
 have hs := h.sol
 have hn := hp.nso
 refine Ok.eq ?_
 unfold Lg
 rw [A2b h hp]
 simp only [aa]
 refine Ok.andThen (A := λ s => s.2 = Kt b p.Ag t (p.Ac.map Dz) (p.Ac.map Dz).length) (B := λ (_ : Unit) => False) ?_ (λ s hs => Ok.pure (by rw [hs]; rfl)) (λ _ h => h.elim)
 refine Ok.whileN (λ s => ∃ j : Nat, s.1 = (j : Int) /\ j <= p.Ac.length /\ s.2 = Kt b p.Ag t (p.Ac.map Dz) j) (λ s => (100 - s.1).toNat) _ _ ⟨0, rfl, by omega, rfl⟩ (by dsimp only; omega) ?_
 rintro ⟨z, s⟩ ⟨j, hz, hj, hsr⟩
 dsimp only at hz hsr
 subst hz
 unfold Ot Y4
 dsimp only
 refine Ok.cond (λ hq => ?_) (λ hq => Ok.brk ?_)
 ·simp only [decide_eq_true_eq, aw] at hq
  have hlt : j < p.Ac.length := by omega
  obtain ⟨x, hx⟩ : ∃ x, (p.Ac.map Dz)[j]? = some x := ⟨_, ae (by simp; omega)⟩
  obtain ⟨r1, r2, r3⟩ := Aqb (b := b) (C := p.Ag) (t := t) hx
  rw [← hsr] at r1 r2 r3
  simp only [aw] at r3
  rw [Bl r1]
  simp only [aa]
  have ho := An5 h (p := ⟨p.Ag, s, p.Aq, p.Ao⟩) hp.ncl t (i := j) (by omega)
  have e1 : w64 ((j : Int) + 1) = ((j + 1 : Nat) : Int) := by rw [A8 (by omega)]; omega
  rw [e1]
  have nxt : ∀ v, v = Gg b p.Ag t x j -> (∃ k : Nat, ((j + 1 : Nat) : Int) = (k : Int) /\ k <= p.Ac.length /\ s.set j v = Kt b p.Ag t (p.Ac.map Dz) k) := λ v hv => ⟨j + 1, rfl, by omega, by rw [hv, r2]⟩
  have stay : x = Gg b p.Ag t x j -> s = s.set j (Gg b p.Ag t x j) := λ hv => by
   rw [← hv]; exact (Agl r1).symm
  cases hs1 : (x.State == 1) with
  | false =>
   have hno : x = Gg b p.Ag t x j := by
    unfold Gg; rw [if_neg (λ hh => by simp [hh.1.1] at hs1)]
   refine Ok.bind (P := λ _ => True) (Ok.gT (λ hg => absurd hg.1 (by simp)) λ _ => trivial) λ _ _ => ?_
   refine Ok.bind (P := λ _ => True) (Ok.gT (λ hg => absurd hg.1 (by simp)) λ _ => trivial) λ _ _ => ?_
   refine Ok.cond (λ hc => by simp [Nh, hs1] at hc) (λ _ => Ok.next ⟨?_, by dsimp only; omega⟩)
   dsimp only
   rw [stay hno]
   exact nxt _ rfl
  | true =>
   refine Ok.bind (P := λ v => v = T0 b p.Ag j) (Ok.of_eq ho rfl) λ v hv => ?_
   subst hv
   cases ho1 : T0 b p.Ag j with
   | false =>
    have hno : x = Gg b p.Ag t x j := by
     unfold Gg; rw [if_neg (λ hh => by simp [hh.1.2] at ho1)]
    refine Ok.bind (P := λ _ => True) (Ok.gT (λ hg => absurd hg.1 (by simp)) λ _ => trivial) λ _ _ => ?_
    refine Ok.cond (λ hc => by simp [Nh] at hc) (λ _ => Ok.next ⟨?_, by dsimp only; omega⟩)
    dsimp only
    rw [stay hno]
    exact nxt _ rfl
   | true =>
    refine Ok.bind (P := λ v => v = b.Ac.getD j default) (Ok.of_eq (Bl (A92 (by omega))) rfl) λ v hv => ?_
    subst hv
    refine Ok.cond (λ hc => ?_) (λ hc => Ok.next ⟨?_, by dsimp only; omega⟩)
    ·simp only [Nh, hs1, bC, a9, decide_eq_true_eq] at hc
     rw [Ye (by omega)]
     refine Ok.next ⟨?_, by dsimp only; omega⟩
     exact nxt _ (by unfold Gg; rw [if_pos ⟨⟨by simpa using hs1, ho1⟩, hc⟩])
    ·simp only [Nh, hs1, bC, a9, decide_eq_false_iff_not] at hc
     have hno : x = Gg b p.Ag t x j := by
      unfold Gg; rw [if_neg (λ hh => hc hh.2)]
     dsimp only
     rw [stay hno]
     exact nxt _ rfl
 ·simp only [decide_eq_false_iff_not, aw] at hq
  have : j = (p.Ac.map Dz).length := by simp; omega
  dsimp only
  rw [hsr, this]
def brN (b : Aa) (i : Nat) : Nat := (Ia b (i : Int)).toNat
theorem Kl {b : Aa} (h : Au b) {i : Nat} (hi : i < b.Ac.length) : Ia b (i : Int) = (brN b i : Int) /\ brN b i < b.Ad.length /\ (b.Ad.getD (brN b i) default).Kind = 2 /\ (b.Ad.getD (brN b i) default).B = (i : Int) /\ b.Ad[brN b i]? = some (b.Ad.getD (brN b i) default) := by
 obtain ⟨j, x, e, hx, hk, hB, _⟩ := L9 h (i := (i : Int)) (by omega) (by omega)
 have hj := (ab.1 hx).1
 have : brN b i = j := by unfold brN; omega
 rw [this, Ni hx]
 exact ⟨e, hj, hk, hB, hx⟩
theorem Az7 {b : Aa} (h : Au b) {i j : Nat} (hi : i < b.Ac.length) {x : Aj} (hx : b.Ad[j]? = some x) (hk : x.Kind = 2) (hB : x.B = (i : Int)) : j = brN b i := by
 obtain ⟨e, hlt, k2, kB, hg⟩ := Kl h hi
 have hm : ∀ {m : Nat} {y : Aj}, b.Ad[m]? = some y -> y.Kind = 2 -> y.B = (i : Int) -> (y, m) ∈ ofZ b 2 (i : Int) := fun {m y} hy h1 h2 => ax.2 ⟨by rw [cF]; exact hy, by simp [h1, h2]⟩
 have hlen : (ofZ b 2 (i : Int)).length = 1 := by
  have := Afs (λ x : Aj => x.Kind == 2 && x.B == (i : Int)) b.Ad 0
  rw [← h.one i hi]
  exact this
 have m1 := hm hx hk hB
 have m2 := hm hg k2 kB
 match hz : ofZ b 2 (i : Int), hlen, m1, m2 with
 | [v], _, m1, m2 =>
  rw [bn] at m1 m2
  rw [← m2] at m1
  exact (Prod.mk.inj m1).2
theorem Le {b : Aa} (h : Au b) {p : Ab} (hp : As b p) {i : Nat} (hi : i < b.Ac.length) : Dc b p (i : Int) = if (p.Ac.getD i default).State = 2 /\ p.Ag.getD (brN b i) false = true then some (b.Ad.getD (brN b i) default).A else none := by
 obtain ⟨e, hlt, k2, kB, hg⟩ := Kl h hi
 have hn := hp.nso
 have hz : ∀ z, z ∈ ofZ b 2 (i : Int) -> z.2 = brN b i /\ z.1 = b.Ad.getD (brN b i) default := λ z hz => by
  have h1 := Wc hz
  have h2 := (ax.1 hz).2
  simp only [ac, beq_iff_eq] at h2
  have := Az7 h hi h1 h2.1 h2.2
  rw [this] at h1
  rw [hg] at h1
  exact ⟨this, (bq h1).symm⟩
 have hin : (b.Ad.getD (brN b i) default, brN b i) ∈ ofZ b 2 (i : Int) := ax.2 ⟨by rw [cF]; exact hg, by
  rw [ac, beq_iff_eq, beq_iff_eq]; exact ⟨k2, kB⟩⟩
 have hled : Ed b p 2 (i : Int) = if p.Ag.getD (brN b i) false = true then some (b.Ad.getD (brN b i) default).A else none := by
  rw [Ahp hp.ncl]
  by_cases hc : p.Ag.getD (brN b i) false = true
  ·rw [if_pos hc]
   cases hf : (ofZ b 2 (i : Int)).find? λ z => p.Ag.getD z.2 false with
   | none =>
    rw [List.find?_eq_none] at hf
    exact absurd hc (hf _ hin)
   | some z =>
    rw [(hz z (List.mem_of_find?_eq_some hf)).2.symm]; rfl
  ·rw [if_neg hc]
   cases hf : (ofZ b 2 (i : Int)).find? λ z => p.Ag.getD z.2 false with
   | none => rfl
   | some z =>
    have h1 := List.find?_some hf
    rw [(hz z (List.mem_of_find?_eq_some hf)).1] at h1
    exact absurd h1 hc
 unfold Dc
 rw [az, hled]
 by_cases hs : (p.Ac.getD i default).State = 2
 ·rw [if_pos ⟨by omega, by omega, hs⟩]
  simp only [hs, true_and]
 ·rw [if_neg (λ hh => hs hh.2.2), if_neg (λ hh => hs hh.1)]
def tog (b : Aa) (p : Ab) (i j : Nat) : Prop := ∃ a c : Int, Dc b p (i : Int) = some a /\ Dc b p (j : Int) = some c /\ (A7 b p).getD a.toNat 0 = (A7 b p).getD c.toNat 0
def B3 (x y : Ae) : Prop := x.An = y.An /\ x.Phase = y.Phase
theorem A2d {b : Aa} (h : Au b) {p : Ab} {i j : Nat} (hi : i < b.Ac.length) (hj : j < b.Ac.length) (t : tog b p i j) : ∃ f, isl b p f ∈ Bm b p /\ (i : Int) ∈ (isl b p f).Ac /\ (j : Int) ∈ (isl b p f).Ac := by
 obtain ⟨a, c, h1, h2, h3⟩ := t
 have ha := E7 h h1
 have hg := E0 h p (n := a.toNat) (by omega)
 refine ⟨((A7 b p).getD a.toNat 0).toNat, ?_, I6.2 ⟨i, rfl, hi, ?_⟩, I6.2 ⟨j, rfl, hj, ?_⟩⟩
 ·rw [Gv h]
  exact aq.2 ⟨_, ax.2 ⟨aV.2 (by omega), H6 h p (by omega)⟩, rfl⟩
 ·rw [h1]; show some _ = some _; rw [hg.2.2]
 ·rw [h2]; show some ((A7 b p).getD c.toNat 0) = some _; rw [← h3, hg.2.2]
theorem Aoe {b : Aa} {p : Ab} {f : Nat} {i j : Int} (hi : i ∈ (isl b p f).Ac) (hj : j ∈ (isl b p f).Ac) : tog b p i.toNat j.toNat := by
 obtain ⟨k, rfl, _, e1⟩ := I6.1 hi
 obtain ⟨m, rfl, _, e2⟩ := I6.1 hj
 rw [az, az]
 unfold Fm at e1 e2
 rw [Option.map_eq_some_iff] at e1 e2
 obtain ⟨a, h1, h2⟩ := e1
 obtain ⟨c, h3, h4⟩ := e2
 exact ⟨a, c, h1, h3, by rw [h2, h4]⟩
theorem Ut {b : Aa} (h : Au b) {p : Ab} : Du b p ↔ ∀ i j, i < b.Ac.length -> j < b.Ac.length -> tog b p i j -> B3 (p.Ac.getD i default) (p.Ac.getD j default) := by
 constructor
 ·intro ha i j hi hj t
  obtain ⟨f, hf, h1, h2⟩ := A2d h hi hj t
  have := ha _ hf _ _ h1 h2
  rw [az, az] at this
  exact this
 ·intro ha x hx i j hi hj
  unfold Bm at hx
  obtain ⟨f, _, rfl⟩ := aq.1 (ax.1 hx).1
  have b1 := Kg hi
  have b2 := Kg hj
  exact ha _ _ (by omega) (by omega) (Aoe hi hj)
structure Sub (b : Aa) (q p : Ab) : Prop where
 con : ∀ i, i < b.Ac.length -> (q.Ac.getD i default).State = 2 -> q.Ag.getD (brN b i) false = true -> (p.Ac.getD i default).State = 2 /\ p.Ag.getD (brN b i) false = true
 tie : ∀ (k : Nat) x, b.Ad[k]? = some x -> x.Kind = 1 -> q.Ag.getD k false = true -> p.Ag.getD k false = true
theorem Ada {L M : Dd} (h : ∀ i j, Tie L i j -> Tie M i j) {i j : Nat} (c : C8 L i j) : C8 M i j := by
 obtain ⟨r, c⟩ := c
 induction c with
 | refl => exact .refl M i
 | stay _ ih => exact ih
 | step _ t ih => exact ih.tie (h _ _ t)
theorem Ata {α : Type} : ∀ {l : List α} {c : List Bool} {z : α × Bool}, z ∈ l.zip c -> ∃ k : Nat, l[k]? = some z.1 /\ c[k]? = some z.2
 | [], _, _, h => by simp at h
 | _ :: _, [], _, h => by simp at h
 | x :: l, v :: c, z, h => by
  rw [bx, ag] at h
  rcases h with rfl | h
  ·exact ⟨0, rfl, rfl⟩
  ·obtain ⟨k, h1, h2⟩ := Ata h
   exact ⟨k + 1, h1, h2⟩
theorem Awv {α : Type} : ∀ {l : List α} {c : List Bool} {k : Nat} {x : α} {v : Bool}, l[k]? = some x -> c[k]? = some v -> (x, v) ∈ l.zip c
 | [], _, _, _, _, h, _ => by simp at h
 | _ :: _, [], _, _, _, _, h => by simp at h
 | y :: l, w :: c, 0, x, v, h1, h2 => by
  simp at h1 h2
  rw [bx, ← h1, ← h2]; exact ai
 | y :: l, w :: c, k + 1, x, v, h1, h2 => by
  rw [bx]
  exact ah _ (Awv (k := k) (by simpa using h1) (by simpa using h2))
theorem Me {b : Aa} {p : Ab} (hp : p.Ag.length = b.Ad.length) {i j : Nat} : Tie (B7 b p) i j ↔ ∃ (k : Nat) (x : Aj), b.Ad[k]? = some x /\ x.Kind = 1 /\ p.Ag.getD k false = true /\ ((x.A.toNat = i /\ x.B.toNat = j) \/ (x.A.toNat = j /\ x.B.toNat = i)) := by
 constructor
 ·rintro ⟨z, hz, h1, h2, h3⟩
  obtain ⟨k, g1, g2⟩ := Ata hz
  exact ⟨k, z.1, g1, h1, by rw [List.getD, g2, h2]; rfl, h3⟩
 ·rintro ⟨k, x, h1, h2, h3, h4⟩
  have hk := (ab.1 h1).1
  refine ⟨(x, true), Awv h1 ?_, h2, rfl, h4⟩
  rw [ae (by omega)]
  simp only [List.getD, ae (show k < p.Ag.length by omega), cv] at h3
  rw [h3]
theorem Sub.conn {b : Aa} {q p : Ab} (hq : q.Ag.length = b.Ad.length) (hp : p.Ag.length = b.Ad.length) (s : Sub b q p) {i j : Nat} (c : C8 (B7 b q) i j) : C8 (B7 b p) i j := by
 refine Ada (λ i j t => ?_) c
 obtain ⟨k, x, h1, h2, h3, h4⟩ := (Me hq).1 t
 exact (Me hp).2 ⟨k, x, h1, h2, s.tie k x h1 h2 h3, h4⟩
theorem Sub.tog {b : Aa} (h : Au b) {q p : Ab} (hq : As b q) (hp : As b p) (s : Sub b q p) {i j : Nat} (hi : i < b.Ac.length) (hj : j < b.Ac.length) (t : tog b q i j) : tog b p i j := by
 obtain ⟨a, c, h1, h2, h3⟩ := t
 have ha := E7 h h1
 have hc := E7 h h2
 have cc := s.conn hq.ncl hp.ncl ((Gj h q (by omega) (by omega)).1 h3)
 have lift : ∀ {m : Nat} {v : Int}, m < b.Ac.length -> Dc b q (m : Int) = some v -> Dc b p (m : Int) = some v := fun {m v} hm e => by
  rw [Le h hq hm] at e
  rw [Le h hp hm]
  by_cases hh : (q.Ac.getD m default).State = 2 /\ q.Ag.getD (brN b m) false = true
  ·rw [if_pos hh] at e
   rw [if_pos (s.con m hm hh.1 hh.2)]; exact e
  ·rw [if_neg hh] at e; cases e
 exact ⟨a, c, lift hi h1, lift hj h2, (Gj h p (by omega) (by omega)).2 cc⟩
theorem jJ {b : Aa} {q p : Ab} (hs : ∀ i : Nat, (q.Ac.getD i default).State = (p.Ac.getD i default).State) (hc : ∀ k : Nat, q.Ag.getD k false = true -> p.Ag.getD k false = true) : Sub b q p :=
 ⟨λ i _ h1 h2 => ⟨by rw [← hs]; exact h1, hc _ h2⟩, λ k _ _ _ h => hc k h⟩
theorem Adi {b : Aa} (h : Au b) {q p : Ab} (hq : As b q) (hp : As b p) (s : Sub b q p) (ha : Du b p) (hl : ∀ i j, i < b.Ac.length -> j < b.Ac.length -> tog b q i j -> B3 (p.Ac.getD i default) (p.Ac.getD j default) -> B3 (q.Ac.getD i default) (q.Ac.getD j default)) : Du b q :=
 (Ut h).2 λ i j hi hj t => hl i j hi hj t ((Ut h).1 ha i j hi hj (s.tog h hq hp hi hj t))
theorem A3n (b : Aa) (C : List Bool) (q : Aj -> Bool) (hC : C.length = b.Ad.length) (k : Nat) (h : (acC b C q).getD k false = true) : C.getD k false = true := by
 by_cases hk : k < b.Ad.length
 ·rw [A3o b C q hk, ac] at h; exact h.1
 ·have hl : (acC b C q).length = C.length := Oa _ _
  simp [List.getD, bW (show (acC b C q).length <= k by omega)] at h
theorem Afv {b : Aa} (p : Ab) (n : Nat) : ∀ (l : List Int) (z : List Bool × List Ap), z.1.length = b.Ad.length -> (E9 b p n l z).1.length = b.Ad.length /\ ∀ k, (E9 b p n l z).1.getD k false = true -> z.1.getD k false = true
 | [], _, hz => ⟨hz, λ _ h => h⟩
 | c :: l, z, hz => by
  have hl : (Ir b p n z c).1.length = b.Ad.length /\ ∀ k, (Ir b p n z c).1.getD k false = true -> z.1.getD k false = true := by
   unfold Ir
   split
   ·exact ⟨by show (acC b z.1 (isC c)).length = _; unfold acC; rw [Oa]; exact hz, λ k h => A3n b z.1 (isC c) hz k h⟩
   ·exact ⟨hz, λ _ h => h⟩
  obtain ⟨h1, h2⟩ := Afv p n l (Ir b p n z c) hl.1
  exact ⟨h1, λ k h => hl.2 k (h2 k h)⟩
theorem Ag3 {b : Aa} : ∀ (l : List Ai) (z : Ab × List Ap), z.1.Ag.length = b.Ad.length -> (Hh b l z).1.Ac = z.1.Ac /\ (Hh b l z).1.Ao = z.1.Ao /\ ∀ k, (Hh b l z).1.Ag.getD k false = true -> z.1.Ag.getD k false = true
 | [], _, _ => ⟨rfl, rfl, λ _ h => h⟩
 | x :: l, z, hz => by
  have hs : (Hg b z x).1.Ac = z.1.Ac /\ (Hg b z x).1.Ao = z.1.Ao /\ (Hg b z x).1.Ag.length = b.Ad.length /\ ∀ k, (Hg b z x).1.Ag.getD k false = true -> z.1.Ag.getD k false = true := by
   unfold Hg
   split
   ·obtain ⟨h1, h2⟩ := Afv (B1 z.1 (G6 b x z).1) (Rf x) (Ii b x) (z.1.Ag, (G6 b x z).2) hz
    exact ⟨rfl, rfl, h1, h2⟩
   ·exact ⟨rfl, rfl, hz, λ _ h => h⟩
  obtain ⟨g1, g2, g3⟩ := Ag3 l (Hg b z x) hs.2.2.1
  exact ⟨g1.trans hs.1, g2.trans hs.2.1, λ k h => hs.2.2.2 k (g3 k h)⟩
theorem An3 {b : Aa} {p : Ab} (hp : As b p) : (Iy b p).Ac = (J0 b p).Ac /\ (Iy b p).Ao = p.Ao /\ ∀ k, (Iy b p).Ag.getD k false = true -> (J0 b p).Ag.getD k false = true := by
 have := Ag3 (Bm b (J0 b p)) (J0 b p, Ui b p) (Wx hp).ncl
 exact ⟨this.1, this.2.1, this.2.2⟩
theorem Aur {b : Aa} (h : Au b) {p : Ab} (hp : As b p) : Du b (Iy b p) := by
 obtain ⟨h1, _, h3⟩ := An3 hp
 exact Adi h (Hu h hp).2.1 (Wx hp) (jJ (λ i => by rw [h1]) h3) (Arm h hp) λ i j _ _ _ hl => by rw [h1]; exact hl
theorem Av6 (b : Aa) (p : Ab) (i : Nat) : ((J0 b p).Ac.getD i default).State = (p.Ac.getD i default).State := Lm b (Arn b p) i
def Par {α : Type} (o : Option α) (P : α -> Prop) : Prop := ∀ r, o = some r -> P r
theorem Par.pure {α : Type} {x : α} {P : α -> Prop} (h : P x) : Par (some x) P := λ r e => by cases e; exact h
theorem Par.none {α : Type} {P : α -> Prop} : Par (none : Option α) P := λ _ e => by cases e
theorem Par.bind {α β : Type} {o : Option α} {f : α -> Option β} {P : β -> Prop} (h : ∀ x, o = some x -> Par (f x) P) : Par (o.bind f) P := by
 cases o with
 | none => exact Par.none
 | some x => exact h x rfl
theorem Par.cond {α : Type} {c : Bool} {x y : Option α} {P : α -> Prop} (h : Par x P) (k : Par y P) : Par (bif c then x else y) P := by
 cases c with
 | true => exact h
 | false => exact k
theorem Par.andThen {σ τ α : Type} {c : Option (Ctl σ τ)} {g : τ -> Option α} {f : σ -> Option α} {P : α -> Prop} (h : ∀ s, Par (f s) P) (k : ∀ v, Par (g v) P) : Par (andThen c g f) P := by
 cases c with
 | none => exact Par.none
 | some r =>
  cases r with
  | next s => exact h s
  | brk s => exact h s
  | ret v => exact k v
theorem Gd {α : Type} {l y : List α} {i : Int} {x : α} (h : setI l i x = some y) : y = l.set i.toNat x /\ 0 <= i /\ i < l.length := by
 unfold setI at h
 cases hd : (decide (0 <= i) && decide (i < (l.length : Int))) with
 | false => rw [hd] at h; cases h
 | true =>
  rw [hd] at h
  simp only [ac, decide_eq_true_eq] at hd
  cases h
  exact ⟨rfl, hd⟩
def Mc (b : Aa) (p q : Ab) : Prop := (∀ k, q.Ag.getD k false = true -> p.Ag.getD k false = true) /\ ∀ i, i < b.Ac.length -> (q.Ac.getD i default).State = 2 -> q.Ag.getD (brN b i) false = true -> (p.Ac.getD i default).State = 2
theorem Mc.sub {b : Aa} {p q : Ab} (s : Mc b p q) : Sub b q p := ⟨λ i hi h1 h2 => ⟨s.2 i hi h1 h2, s.1 _ h2⟩, λ k _ _ _ h => s.1 k h⟩
theorem I5 {b : Aa} {p q : Ab} (hc : q.Ag = p.Ag) (hs : ∀ i, (q.Ac.getD i default).State = 2 -> (p.Ac.getD i default).State = 2) : Mc b p q := ⟨λ k h => by rw [hc] at h; exact h, λ i _ h _ => hs i h⟩
theorem K2 {ss : List Ae} {n : Nat} {y : Ae} (hy : y.State ≠ 2) (i : Nat) (h : ((ss.set n y).getD i default).State = 2) : (ss.getD i default).State = 2 := by
 rw [M_] at h
 split at h
 ·exact absurd h hy
 ·exact h
def Uu (b : Aa) (p : Ab) (y : Int × A2) : Prop := y.1 ≠ 0 \/ Mc b p y.2.Aw
theorem A8q {b : Aa} (h : Au b) {p : Ab} (hp : As b p) (i : Int) : Par (Z4 b p i) λ y => y.2 ≠ 0 \/ Mc b p y.1 := by
 unfold Z4
 rw [Cm h hp, Cv h hp]
 simp only [aa, bne_self_eq_false, cond_false]
 refine Par.cond (Par.pure (.inl (by simp))) (Par.bind λ _ _ => Par.bind λ _ _ => Par.cond (Par.pure (.inl (by simp))) (Par.bind λ _ _ => Par.bind λ y hy => Par.pure (.inr ?_)))
 have e := (Gd hy).1
 subst e
 refine ⟨λ k hk => ?_, λ _ _ hs _ => hs⟩
 simp only [List.getD, ao] at hk ⊢
 split at hk
 ·split at hk <;> simp at hk
 ·exact hk
theorem A30 {b : Aa} (h : Au b) {p : Ab} (hp : As b p) (i n : Int) : Ok (Z3 b p i n) λ y => y.2 ≠ 0 \/ Mc b p y.1 := by
 have hn := hp.nso
 unfold Z3
 rw [Cm h hp, Cv h hp]
 simp only [aa]
 refine Ok.cond (λ hc => by simp at hc) (λ _ => Ok.cond (λ _ => Ok.pure (.inl (by simp))) (λ hr => ?_))
 simp only [Aiv, bt, decide_eq_false_iff_not] at hr
 refine (K8 h hp n).bind λ y hy => ?_
 refine Ok.bind (P := λ _ => True) (Ok.gT (λ _ => Ok.getB (by omega) (by omega)) λ _ => trivial) λ u _ => ?_
 refine Ok.cond (λ _ => Ok.pure (.inl (by simp))) (λ hc => ?_)
 simp only [bt, cy] at hc
 have hy := hy hc.1
 unfold Z0
 rw [Cm h hp, Jz h hp]
 simp only [aa, bne_self_eq_false, cond_false]
 refine Ok.cond (λ _ => ?_) (λ _ => ?_)
 ·refine (Aqi h hp _).bind λ z hz => (Ok.getI hy.1 hy.2).bind λ w hw => ?_
  rw [Tb hz]
  exact Ok.pure (.inr (I5 rfl λ j hj => by rw [Lx] at hj; exact hj))
 ·refine (Ok.getI hy.1 hy.2).bind λ w hw => ?_
  have hz : ∀ k, k ∈ [i] -> 0 <= k /\ k < p.Ac.length := λ k hk => by
   simp only [bn] at hk
   subst hk; omega
  rw [Tb hz]
  exact Ok.pure (.inr (I5 rfl λ j hj => by rw [Lx] at hj; exact hj))
theorem A3v {b : Aa} (h : Au b) {p : Ab} (hp : As b p) (t : Int) (i : Int) : Par (Ns ⟨b, p, t⟩ i) (Uu b p) := by
 have hn := hp.nso
 unfold Ns
 refine Par.bind λ _ _ => Par.bind λ _ _ => Par.cond (Par.pure (.inl (by simp))) (Par.bind λ s _ => Par.bind λ v hv => ?_)
 cases hq : ((s.Start == 0) && v) with
 | false =>
  refine Par.bind λ y hy => Par.pure (.inr (I5 rfl λ j hj => ?_))
  rw [(Gd hy).1] at hj
  exact K2 (by dsimp only; decide) j hj
 | true =>
  refine Par.bind λ y hy => Par.pure (.inr ⟨λ _ hk => hk, λ j hj h1 h2 => ?_⟩)
  obtain ⟨e, b0, b1⟩ := Gd hy
  rw [e] at h1
  have b1 : i < (p.Ac.length : Int) := b1
  simp only [ac] at hq
  rw [hq.1] at hv
  have ho := An5 h hp.ncl t (i := i.toNat) (by omega)
  rw [aP b0] at ho
  have hv2 : Io ⟨b, p, t⟩ i = some v := hv
  rw [ho] at hv2
  have hop : T0 b p.Ag i.toNat = true := by rw [bq hv2]; exact hq.2
  rw [M_] at h1
  split at h1
  ·rename_i hh
   exfalso
   rw [← hh.1] at h2
   have h2 : p.Ag.getD (brN b i.toNat) false = true := h2
   unfold T0 at hop
   have : brN b i.toNat = (Ia b (i.toNat : Int)).toNat := rfl
   rw [← this, h2] at hop
   cases hop
  ·exact h1
theorem A8o {b : Aa} (p : Ab) (t : Int) (i : Int) : Par (Nr ⟨b, p, t⟩ i) (Uu b p) := by
 unfold Nr
 refine Par.bind λ _ _ => Par.bind λ _ _ => Par.cond (Par.pure (.inl (by simp))) (Par.bind λ y hy => Par.pure (.inr (I5 rfl λ j hj => ?_)))
 rw [(Gd hy).1] at hj
 exact K2 (by dsimp only; decide) j hj
theorem A33 {b : Aa} (p : Ab) (t : Int) (i v : Int) : Par (Nq ⟨b, p, t⟩ i v) (Uu b p) := by
 unfold Nq
 exact Par.bind λ _ _ => Par.cond (Par.pure (.inl (by simp))) (Par.bind λ _ _ => Par.bind λ _ _ => Par.pure (.inr (I5 rfl λ _ hj => hj)))
theorem A5v {b : Aa} (p : Ab) (t : Int) (x : Am) (v : Bool) : Par (Gc ⟨b, p, t⟩ x v) (Uu b p) := by
 unfold Gc
 refine Par.bind λ _ _ => Par.cond (Par.pure (.inl (by simp))) (Par.cond (Par.pure (.inl (by simp))) (Par.andThen (λ _ => Par.cond (Par.bind λ _ _ => Par.bind λ y hy => Par.cond (Par.bind λ _ _ => Par.bind λ z hz => Par.pure (.inr (I5 rfl λ j hj => ?_))) (Par.pure (.inr (I5 rfl λ j hj => ?_)))) (Par.pure (.inr (I5 rfl λ _ hj => hj)))) (λ _ => Par.none)))
 ·rw [(Gd hz).1, (Gd hy).1] at hj
  exact K2 (by dsimp only; decide) j (K2 (by dsimp only; decide) j hj)
 ·rw [(Gd hy).1] at hj
  exact K2 (by dsimp only; decide) j hj
theorem Bb8 {b : Aa} (h : Au b) {p : Ab} (hp : As b p) (t : Int) {a : Ap} (ha : a.Kind ≠ 1 /\ a.Kind ≠ 7) : Par (Ip ⟨b, p, t⟩ a) (Uu b p) := by
 unfold Ip
 rw [beq_eq_false_iff_ne.2 ha.1, beq_eq_false_iff_ne.2 ha.2]
 simp only [cond_false]
 exact Par.cond (Par.bind λ y hy => Par.pure (A8q h hp _ y hy)) (Par.cond (Par.bind λ y hy => Par.pure ((A30 h hp _ _).get hy)) (Par.cond (Par.bind λ y hy => Par.pure (A3v h hp t _ y hy)) (Par.cond (Par.bind λ y hy => Par.pure (A8o p t _ y hy)) (Par.cond (Par.bind λ y hy => Par.pure (A33 p t _ _ y hy)) (Par.bind λ y hy => Par.pure (A5v p t _ _ y hy))))))
theorem Bca {b : Aa} (h : Au b) {p : Ab} (hp : As b p) (t : Int) {a : Ap} (ha : a.Kind ≠ 1 /\ a.Kind ≠ 7) : (Bw b p t a).2 ≠ 0 \/ Mc b p (Bw b p t a).1 := by
 have key : Par (F83 b p t a) λ y => y.2 ≠ 0 \/ Mc b p y.1 := by
  unfold F83
  rw [Cm h hp, Cv h hp]
  simp only [aa, bne_self_eq_false, cond_false]
  refine (Par.cond (Par.pure (.inl (by simp))) (Par.bind λ _ _ => Par.cond (Par.pure (.inl (by simp))) (Par.bind λ y hy => ?_)))
  have hd := Bb8 h hp t ha y hy
  cases hq : (y.1 != 0) with
  | true => exact Par.pure (.inl (by simpa using hq))
  | false =>
   refine Par.pure ?_
   rcases hd with e | e
   ·simp at hq; exact absurd hq e
   ·exact .inr e
 exact key _ (W0 h hp t a).1
theorem Atc {x y : Ae} (hx : x.State = 2) (hy : y.State = 2) (h : B3 x y) : B3 (Dz x) (Dz y) := by
 unfold Dz
 rw [if_pos hx, if_pos hy]
 exact ⟨h.1, by dsimp only; rw [h.1, h.2]⟩
theorem jH (x : Ae) : (Dz x).State = x.State := by unfold Dz; split <;> rfl
theorem Aft {b : Aa} {p : Ab} (t : Int) {i : Nat} (hi : i < p.Ac.length) : (wtS b p t).Ac.getD i default = Gg b p.Ag t (Dz (p.Ac.getD i default)) i := by
 unfold wtS Kt
 simp only [aw]
 rw [List.drop_of_length_le (by simp), aS]
 have hl : ((p.Ac.map Dz).zipIdx.map λ z => Gg b p.Ag t z.1 z.2).length = p.Ac.length := by simp
 rw [bQ (by omega)]
 simp [List.getD, ae hi]
theorem Lv {b : Aa} {p : Ab} (hp : As b p) (t : Int) : Mc b p (wtS b p t) := by
 have hn := hp.nso
 refine ⟨λ _ hk => hk, λ i hi h1 h2 => ?_⟩
 rw [Aft t (by omega)] at h1
 have h2 : p.Ag.getD (brN b i) false = true := h2
 unfold Gg at h1
 split at h1
 ·rename_i hh
  exfalso
  have := hh.1.2
  unfold T0 at this
  have e : brN b i = (Ia b (i : Int)).toNat := rfl
  rw [← e, h2] at this
  cases this
 ·rw [jH] at h1; exact h1
theorem Ap0 {b : Aa} (h : Au b) {p : Ab} (hp : As b p) (ha : Du b p) {t : Int} (hq : As b (wtS b p t)) : Du b (wtS b p t) := by
 have hn := hp.nso
 refine Adi h hq hp (Lv hp t).sub ha λ i j hi hj tg hl => ?_
 obtain ⟨a, c, h1, h2, _⟩ := tg
 rw [Le h hq hi] at h1
 rw [Le h hq hj] at h2
 have k1 : (wtS b p t).Ag.getD (brN b i) false = true /\ (p.Ac.getD i default).State = 2 := by
  split at h1
  ·rename_i hh; exact ⟨hh.2, (Lv hp t).2 i hi hh.1 hh.2⟩
  ·cases h1
 have k2 : (wtS b p t).Ag.getD (brN b j) false = true /\ (p.Ac.getD j default).State = 2 := by
  split at h2
  ·rename_i hh; exact ⟨hh.2, (Lv hp t).2 j hj hh.1 hh.2⟩
  ·cases h2
 have stay : ∀ m, (p.Ac.getD m default).State = 2 -> Gg b p.Ag t (Dz (p.Ac.getD m default)) m = Dz (p.Ac.getD m default) := λ m hm => by
  unfold Gg
  rw [if_neg (λ hh => by have := hh.1.1; rw [jH, hm] at this; omega)]
 rw [Aft t (by omega), Aft t (by omega), stay i k1.2, stay j k2.2]
 exact Atc k1.2 k2.2 hl
theorem zL {z : Int} (h : -3599 <= z /\ z <= 3599) : Eg z = if z < 0 then z + 3600 else z := by
 unfold Eg
 have e : Int.tmod z 3600 = z := by
  rcases Int.lt_or_le z 0 with hz | hz
  ·have : z = -(-z) := by omega
   rw [this, Int.neg_tmod, cx (by omega)]; omega
  ·rw [cx hz]; omega
 rw [e]
 by_cases hz : z < 0
 ·rw [decide_eq_true hz, cond_true, if_pos hz, A8 (by omega)]
 ·rw [decide_eq_false hz, cond_false, if_neg hz]
def nrm (z : Int) : Int := if z < 0 then z + 3600 else z
def dif (x y : Int) : Int := if nrm (y - x) > 1800 then nrm (y - x) - 3600 else nrm (y - x)
theorem Aha {x y : Int} (hx : 0 <= x /\ x <= 3599) (hy : 0 <= y /\ y <= 3599) : 0 <= nrm (y - x) /\ nrm (y - x) <= 3599 := by unfold nrm; split <;> omega
theorem Aoj {x y : Int} (hx : 0 <= x /\ x <= 3599) (hy : 0 <= y /\ y <= 3599) : Aas x y = dif x y /\ jC x y = dif x y := by
 have e1 : Eg x = x := by rw [zL (by omega), if_neg (by omega)]
 have e2 : Eg y = y := by rw [zL (by omega), if_neg (by omega)]
 have e3 : Eg (w64 (y - x)) = nrm (y - x) := by rw [A8 (by omega), zL (by omega)]; rfl
 have hn := Aha hx hy
 have key : (bif decide (nrm (y - x) > 1800) then w64 (nrm (y - x) - 3600) else nrm (y - x)) = dif x y := by
  unfold dif
  by_cases h : nrm (y - x) > 1800
  ·rw [decide_eq_true h, cond_true, if_pos h, A8 (by omega)]
  ·rw [decide_eq_false h, cond_false, if_neg h]
 constructor
 ·unfold Aas Awa
  rw [e1, e2, e3]; exact key
 ·unfold jC Awr
  simp only [A2p]
  rw [e1, e2, e3]; exact key
theorem Adk {b : Aa} (h : Au b) {x y : Ae} (hx : Cx x) (hy : Cx y) (ha : R7 b x y = true) : F56 b x y = true /\ F56 b y x = true := by
 obtain ⟨_, _, x1, x2⟩ := hx
 obtain ⟨_, _, y1, y2⟩ := hy
 have hph := h.phase
 have hfr := h.freq
 have d1 := Aoj x2 y2
 have d2 := Aoj y2 x2
 have n1 := Aha x2 y2
 have n2 := Aha y2 x2
 have b1 : -1800 <= dif x.Phase y.Phase /\ dif x.Phase y.Phase <= 1800 := by unfold dif; split <;> omega
 have b2 : dif y.Phase x.Phase = - dif x.Phase y.Phase \/ (dif y.Phase x.Phase = 1800 /\ dif x.Phase y.Phase = 1800) := by
  unfold dif nrm
  split <;> split <;> split <;> split <;> omega
 unfold R7 at ha
 cases hc : Awb x y with
 | true => rw [hc] at ha; cases ha
 | false =>
  rw [hc, d1.1] at ha
  simp only [cond_false, ac, decide_eq_true_eq] at ha
  rw [A8 (n := x.An - y.An) (by omega), A8 (n := y.An - x.An) (by omega), A8 (n := 0 - dif x.Phase y.Phase) (by omega)] at ha
  have ref : ∀ u v : Ae, (0 <= u.An /\ u.An <= 6000) -> (0 <= v.An /\ v.An <= 6000) -> jC u.Phase v.Phase = dif u.Phase v.Phase -> (u.An - v.An >= -b.An /\ u.An - v.An <= b.An) -> (dif u.Phase v.Phase >= -b.Phase /\ dif u.Phase v.Phase <= b.Phase) -> F56 b u v = true := by
   intro u v hu hv hd hf hp
   unfold F56
   have c0 : Ae9 u = false := by
    rw [bX]; intro e
    simp only [Ae9, aF, decide_eq_true_eq] at e
    omega
   have c1 : Ae8 v = false := by
    rw [bX]; intro e
    simp only [Ae8, aF, decide_eq_true_eq] at e
    omega
   rw [c0, c1, hd]
   simp only [cond_false, ac, decide_eq_true_eq]
   rw [A8 (n := u.An - v.An) (by omega), A8 (n := 0 - b.An) (by omega), A8 (n := 0 - b.Phase) (by omega)]
   omega
  exact ⟨ref x y x1 y1 d1.2 (by omega) (by omega), ref y x y1 x1 d2.2 (by omega) (by omega)⟩
def agr (b : Aa) (x y : Ae) : Prop := F56 b x y = true
theorem Ri {b : Aa} {x y x' y' : Ae} (hx : B3 x x') (hy : B3 y y') (h : agr b x y) : agr b x' y' := by
 unfold agr at h ⊢
 unfold F56 Ae9 Ae8 at h ⊢
 rw [← hx.1, ← hx.2, ← hy.1, ← hy.2]; exact h
theorem Tx {b : Aa} (h : Au b) {p : Ab} (hp : As b p) {n : Nat} (hn : n < b.Al.toNat) {k : Int} (hk : k ∈ (isl b p (Cy b p n)).Ac) : ∃ s : Nat, Pf b p (n : Int) = some ((s : Int), true) /\ (s : Int) ∈ (isl b p (Cy b p n)).Ac /\ s < b.Ac.length := by
 unfold Pf
 rw [Ae1 h hp hn]
 cases hs : (isl b p (Cy b p n)).Ac with
 | nil => rw [hs] at hk; cases hk
 | cons s l =>
  have hin := Kg (b := b) (p := p) (f := Cy b p n) (i := s) (by rw [hs]; exact ai)
  refine ⟨s.toNat, ?_, by rw [aP hin.1]; exact ai, by omega⟩
  rw [aP hin.1]
  simp only [aa, hs, aU]
  have e : (((l.length + 1 : Nat) : Int) == 0) = false := by rw [beq_eq_false_iff_ne]; omega
  rw [e]; rfl
theorem Mt {b : Aa} (h : Au b) {p : Ab} {k n : Nat} {c : Int} (hk : k < b.Ac.length) (hc : Dc b p (k : Int) = some c) (hn : n < b.Al.toNat) (hg : (A7 b p).getD c.toNat 0 = (A7 b p).getD n 0) : (k : Int) ∈ (isl b p (Cy b p n)).Ac := by
 have hgn := E0 h p hn
 refine I6.2 ⟨k, rfl, hk, ?_⟩
 rw [hc]
 show some ((A7 b p).getD c.toNat 0) = some ((Cy b p n : Nat) : Int)
 unfold Cy
 rw [hg, hgn.2.2]
theorem zD {p : Ab} {s : Nat} (hs : s < p.Ac.length) : getI p.Ac (s : Int) = some (p.Ac.getD s default) := Bl (by
 rw [ae hs]; simp [List.getD, ae hs])
theorem Ap8 {b : Aa} {p : Ab} (hp : As b p) {s : Nat} (hs : s < b.Ac.length) : Cx (p.Ac.getD s default) := Yu hp.run (by have := hp.nso; omega)
theorem Ys {b : Aa} (h : Au b) {p : Ab} (ha : Du b p) {n : Nat} (hn : n < b.Al.toNat) {i j : Nat} (hi : (i : Int) ∈ (isl b p (Cy b p n)).Ac) (hj : (j : Int) ∈ (isl b p (Cy b p n)).Ac) : B3 (p.Ac.getD i default) (p.Ac.getD j default) := by
 have h1 := Kg hi
 have h2 := Kg hj
 exact (Ut h).1 ha i j (by omega) (by omega) (Aoe hi hj)
theorem Qi {b : Aa} (h : Au b) {p : Ab} (hp : As b p) (ha : Du b p) {x : Aj} (hx : x ∈ b.Ad) (hs : Km b p x = some true) :
  (x.Kind = 2 -> ∀ k : Nat, (k : Int) ∈ (isl b p (Cy b p x.A.toNat)).Ac -> agr b (p.Ac.getD k default) (p.Ac.getD x.B.toNat default) /\ agr b (p.Ac.getD x.B.toNat default) (p.Ac.getD k default)) /\
  (x.Kind = 1 -> ∀ k m : Nat, (k : Int) ∈ (isl b p (Cy b p x.A.toNat)).Ac -> (m : Int) ∈ (isl b p (Cy b p x.B.toNat)).Ac -> agr b (p.Ac.getD k default) (p.Ac.getD m default) /\ agr b (p.Ac.getD m default) (p.Ac.getD k default)) := by
 have hbr := h.br x hx
 have hn := hp.nso
 have hA := hbr.1
 have eA : ((x.A.toNat : Nat) : Int) = x.A := aP hA.1
 constructor
 ·intro hk k hkm
  have hB : 0 <= x.B /\ x.B < b.Ac.length := by
   rcases hbr.2 with ⟨e, _⟩ | ⟨_, e⟩ | ⟨e, _⟩
   ·omega
   ·exact e
   ·omega
  obtain ⟨s, e1, e2, e3⟩ := Tx h hp (n := x.A.toNat) (by omega) hkm
  rw [eA] at e1
  unfold Km at hs
  rw [e1, hk] at hs
  have eB : ((x.B.toNat : Nat) : Int) = x.B := aP hB.1
  have g1 := zD (p := p) (s := s) (by omega)
  have g2 := zD (p := p) (s := x.B.toNat) (by omega)
  rw [eB] at g2
  simp only [aa, g1, g2] at hs
  have hag : R7 b (p.Ac.getD s default) (p.Ac.getD x.B.toNat default) = true := bq hs
  obtain ⟨r1, r2⟩ := Adk h (Ap8 hp e3) (Ap8 hp (by omega)) hag
  have hl := Ys h ha (by omega) e2 hkm
  exact ⟨Ri hl ⟨rfl, rfl⟩ r1, Ri ⟨rfl, rfl⟩ hl r2⟩
 ·intro hk k m hkm hmm
  have hB : 0 <= x.B /\ x.B < b.Al := by
   rcases hbr.2 with ⟨_, e⟩ | ⟨e, _⟩ | ⟨e, _⟩
   ·omega
   ·omega
   ·omega
  obtain ⟨s, e1, e2, e3⟩ := Tx h hp (n := x.A.toNat) (by omega) hkm
  obtain ⟨u, f1, f2, f3⟩ := Tx h hp (n := x.B.toNat) (by omega) hmm
  have eB : ((x.B.toNat : Nat) : Int) = x.B := aP hB.1
  rw [eA] at e1
  rw [eB] at f1
  unfold Km at hs
  rw [e1, f1, hk] at hs
  have g1 := zD (p := p) (s := s) (by omega)
  have g2 := zD (p := p) (s := u) (by omega)
  simp only [aa, g1, g2] at hs
  have hag : R7 b (p.Ac.getD s default) (p.Ac.getD u default) = true := bq hs
  obtain ⟨r1, r2⟩ := Adk h (Ap8 hp e3) (Ap8 hp f3) hag
  have hl := Ys h ha (by omega) e2 hkm
  have hl2 := Ys h ha (by omega) f2 hmm
  exact ⟨Ri hl hl2 r1, Ri hl2 hl r2⟩
theorem Ayy {b : Aa} (h : Au b) {p : Ab} (hp : As b p) {j : Int} (e : Zz b p j = some 0) : 0 <= j /\ ∃ x, b.Ad[j.toNat]? = some x /\ ((x.Kind = 1 /\ (isl b p (Cy b p x.A.toNat)).Al.any (x.B == ·) = true) \/ Km b p x = some true) := by
 unfold Zz at e
 rw [Cm h hp] at e
 simp only [aa, bne_self_eq_false, cond_false] at e
 cases hc : uM b j with
 | true => rw [hc] at e; simp at e
 | false =>
  rw [hc] at e
  simp only [cond_false] at e
  simp only [uM, bt, decide_eq_false_iff_not] at hc
  rw [bL] at e
  obtain ⟨y5, _, e⟩ := e
  cases y5 with
  | false => simp at e
  | true =>
   simp only [aZ, cond_false] at e
   rw [bL] at e
   obtain ⟨x, hx, e⟩ := e
   have hx2 : b.Ad[j.toNat]? = some x := by
    obtain ⟨v, hv, hv2⟩ := Ok.getI (l := b.Ad) (n := j) (by omega) (by omega)
    rw [hv] at hx; cases hx; exact hv2
   have hA := (h.br x (af hx2)).1
   have hof := Ae1 h hp (n := x.A.toNat) (by omega)
   rw [aP hA.1] at hof
   have hlen := (Ahw h p (Cy b p x.A.toNat)).1
   rw [hof] at e
   simp only [aa] at e
   rw [Dj _ _ (by omega)] at e
   refine ⟨by omega, x, hx2, ?_⟩
   cases hw : ((x.Kind == 1) && (isl b p (Cy b p x.A.toNat)).Al.any (x.B == ·)) with
   | true =>
    rw [ac, beq_iff_eq] at hw
    exact .inl hw
   | false =>
    right
    cases hk : (x.Kind == 1) with
    | false =>
     rw [hk] at e
     have e' : (Km b p x).bind (λ y14 => bif ((!(false && (default : Bool))) && (!y14)) then some (12 : Int) else some 0) = some 0 := e
     rw [bL] at e'
     obtain ⟨y, hy, hy2⟩ := e'
     cases y with
     | true => exact hy
     | false => simp at hy2
    | true =>
     rw [hk] at e hw
     simp only [a9] at hw
     rw [hw] at e
     have e' : (Km b p x).bind (λ y14 => bif ((!(true && false)) && (!y14)) then some (12 : Int) else some 0) = some 0 := e
     rw [bL] at e'
     obtain ⟨y, hy, hy2⟩ := e'
     cases y with
     | true => exact hy
     | false => simp at hy2
def Kz (b : Aa) (p q : Ab) : Prop := ∀ i k, i < b.Ac.length -> k < b.Ac.length -> i ≠ k -> tog b q i k -> tog b p i k \/ agr b (p.Ac.getD i default) (p.Ac.getD k default)
theorem Sub.nobad {b : Aa} (h : Au b) {q p : Ab} (hq : As b q) (hp : As b p) (s : Sub b q p) : Kz b p q := λ _ _ hi hk _ t => .inl (s.tog h hq hp hi hk t)
theorem Azz {L M : Dd} {A B : Nat} (h : ∀ i j, Tie L i j -> Tie M i j \/ (i = A /\ j = B) \/ (i = B /\ j = A)) {i j : Nat} (c : C8 L i j) : C8 M i j \/ (C8 M i A /\ C8 M B j) \/ (C8 M i B /\ C8 M A j) := by
 obtain ⟨r, c⟩ := c
 induction c with
 | refl => exact .inl (.refl M i)
 | stay _ ih => exact ih
 | step _ t ih =>
  rcases h _ _ t with t | ⟨rfl, rfl⟩ | ⟨rfl, rfl⟩
  ·rcases ih with c | ⟨c1, c2⟩ | ⟨c1, c2⟩
   ·exact .inl (c.tie t)
   ·exact .inr (.inl ⟨c1, c2.tie t⟩)
   ·exact .inr (.inr ⟨c1, c2.tie t⟩)
  ·rcases ih with c | ⟨c1, c2⟩ | ⟨c1, c2⟩
   ·exact .inr (.inl ⟨c, .refl _ _⟩)
   ·exact .inr (.inl ⟨c1, .refl _ _⟩)
   ·exact .inl c1
  ·rcases ih with c | ⟨c1, c2⟩ | ⟨c1, c2⟩
   ·exact .inr (.inr ⟨c, .refl _ _⟩)
   ·exact .inl c1
   ·exact .inr (.inr ⟨c1, .refl _ _⟩)
theorem T5 {C : List Bool} {j k : Nat} (hne : k ≠ j) (v : Bool) : (C.set j v).getD k false = C.getD k false := by
 simp only [List.getD, ao, if_neg (λ e : j = k => hne e.symm)]
theorem Az1 {b : Aa} (h : Au b) {p : Ab} (hp : As b p) (ha : Du b p) {j : Int} {y : Ab × Int} (e : Z5 b p j = some y) (he : y.2 = 0) : Kz b p y.1 := by
 have hn := hp.ncl
 have hns := hp.nso
 unfold Z5 at e
 rw [Cv h hp] at e
 rw [bL] at e
 obtain ⟨m, hm, e⟩ := e
 cases hm0 : (m != 0) with
 | true =>
  rw [hm0] at e
  simp only [cond_true, ak] at e
  rw [← e] at he
  simp at hm0
  exact absurd he hm0
 | false =>
  have hm1 : m = 0 := by simpa using hm0
  subst hm1
  rw [hm0] at e
  simp only [cond_false, aa] at e
  obtain ⟨h0, x, hx, hcase⟩ := Ayy h hp hm
  have hj := (ab.1 hx).1
  have hxm := af hx
  have hbr := h.br x hxm
  have hmo := (Auu h hp j).get hm
  have hf : x.Kind = 3 -> Ed b p 3 x.B = none := by
   rcases hmo with g | ⟨_, g⟩
   ·exact absurd rfl g
   ·exact g x hx
  rw [bL] at e
  obtain ⟨_, _, e⟩ := e
  rw [bL] at e
  obtain ⟨C, hC, e⟩ := e
  have hC1 := (Gd hC).1
  subst hC1
  have hq := Av8 hp hx hf
  rw [Oe h hq] at e
  simp only [aa, ak] at e
  have hqo : As b ⟨p.Ag.set j.toNat true, C6 b ⟨p.Ag.set j.toNat true, p.Ac, p.Aq, p.Ao⟩, p.Aq, p.Ao⟩ := Iq hq (F7 _ _) (L5 hq)
  rw [← e]
  show Kz b p ⟨p.Ag.set j.toNat true, C6 b ⟨p.Ag.set j.toNat true, p.Ac, p.Aq, p.Ao⟩, p.Aq, p.Ao⟩
  have hst : ∀ i : Nat, ((C6 b ⟨p.Ag.set j.toNat true, p.Ac, p.Aq, p.Ao⟩).getD i default).State = (p.Ac.getD i default).State := λ i => Lm b _ i
  have con : ∀ i : Nat, i < b.Ac.length -> brN b i ≠ j.toNat -> ∀ a, Dc b ⟨p.Ag.set j.toNat true, C6 b ⟨p.Ag.set j.toNat true, p.Ac, p.Aq, p.Ao⟩, p.Aq, p.Ao⟩ (i : Int) = some a -> Dc b p (i : Int) = some a := λ i hi hne a hc => by
   rw [Le h hqo hi] at hc
   rw [Le h hp hi]
   dsimp only at hc
   rw [hst, T5 hne] at hc
   exact hc
  have tie : x.Kind ≠ 1 -> ∀ u v, C8 (B7 b ⟨p.Ag.set j.toNat true, C6 b ⟨p.Ag.set j.toNat true, p.Ac, p.Aq, p.Ao⟩, p.Aq, p.Ao⟩) u v -> C8 (B7 b p) u v := λ hk u v c => by
   refine Ada (λ u v t => ?_) c
   obtain ⟨k, z, g1, g2, g3, g4⟩ := (Me hqo.ncl).1 t
   have hne : k ≠ j.toNat := λ e => by rw [e, hx] at g1; cases g1; exact hk g2
   dsimp only at g3
   rw [T5 hne] at g3
   exact (Me hn).2 ⟨k, z, g1, g2, g3, g4⟩
  intro i k hi hk hik t
  obtain ⟨a, c, h1, h2, h3⟩ := t
  have ba := E7 h h1
  have bc := E7 h h2
  have hcc := (Gj h _ (by omega) (by omega)).1 h3
  have pg : ∀ {u v : Nat}, u < b.Al.toNat -> v < b.Al.toNat -> C8 (B7 b p) u v -> (A7 b p).getD u 0 = (A7 b p).getD v 0 := λ hu hv c => (Gj h p hu hv).2 c
  by_cases hk1 : x.Kind = 1
  ·
   have nb : ∀ m : Nat, m < b.Ac.length -> brN b m ≠ j.toNat := λ m hm e => by
    obtain ⟨_, _, k2, _, hg⟩ := Kl h hm
    rw [e, hx] at hg
    rw [e, ← bq hg] at k2
    omega
   have c1 := con i hi (nb i hi) a h1
   have c2 := con k hk (nb k hk) c h2
   have hB : 0 <= x.B /\ x.B < b.Al := by
    rcases hbr.2 with ⟨_, e⟩ | ⟨e, _⟩ | ⟨e, _⟩
    ·have := hbr.1; omega
    ·omega
    ·omega
   have hA := hbr.1
   have hadd := Azz (M := B7 b p) (A := x.A.toNat) (B := x.B.toNat) (λ u v t => by
    obtain ⟨m, z, g1, g2, g3, g4⟩ := (Me hqo.ncl).1 t
    by_cases hm : m = j.toNat
    ·rw [hm, hx] at g1
     cases g1
     rcases g4 with ⟨g5, g6⟩ | ⟨g5, g6⟩
     ·exact .inr (.inl ⟨g5.symm, g6.symm⟩)
     ·exact .inr (.inr ⟨g6.symm, g5.symm⟩)
    ·dsimp only at g3
     rw [T5 hm] at g3
     exact .inl ((Me hn).2 ⟨m, z, g1, g2, g3, g4⟩)) hcc
   have within : (isl b p (Cy b p x.A.toNat)).Al.any (x.B == ·) = true -> C8 (B7 b p) x.A.toNat x.B.toNat := λ hw => by
    have hb := Um (b := b) (p := p) (n := x.B.toNat) (f := Cy b p x.A.toNat) (by omega)
    rw [aP hB.1] at hb
    rw [hb, beq_iff_eq] at hw
    have hg := E0 h p (n := x.A.toNat) (by omega)
    have : (A7 b p).getD x.A.toNat 0 = (A7 b p).getD x.B.toNat 0 := by rw [hw]; unfold Cy; exact hg.2.2.symm
    exact (Gj h p (by omega) (by omega)).1 this
   have done : C8 (B7 b p) a.toNat c.toNat -> tog b p i k := λ cc => ⟨a, c, c1, c2, pg (by omega) (by omega) cc⟩
   rcases hadd with cc | ⟨d1, d2⟩ | ⟨d1, d2⟩
   ·exact .inl (done cc)
   ·rcases hcase with ⟨_, hw⟩ | hsy
    ·exact .inl (done ((d1.trans (within hw)).trans d2))
    ·right
     exact ((Qi h hp ha hxm hsy).2 hk1 i k (Mt h hi c1 (by omega) (pg (by omega) (by omega) d1)) (Mt h hk c2 (by omega) (pg (by omega) (by omega) d2.symm))).1
   ·rcases hcase with ⟨_, hw⟩ | hsy
    ·exact .inl (done ((d1.trans (within hw).symm).trans d2))
    ·right
     exact ((Qi h hp ha hxm hsy).2 hk1 k i (Mt h hk c2 (by omega) (pg (by omega) (by omega) d2.symm)) (Mt h hi c1 (by omega) (pg (by omega) (by omega) d1))).2
  ·have cc := tie hk1 _ _ hcc
   have hA := hbr.1
   by_cases ei : brN b i = j.toNat
   ·
    have hbi := Kl h hi
    rw [ei, Ni hx] at hbi
    obtain ⟨_, _, k2, kB, _⟩ := hbi
    have ek : brN b k ≠ j.toNat := λ e => by
     have hbk := Kl h hk
     rw [e, Ni hx] at hbk
     omega
    have c2 := con k hk ek c h2
    have ea : a = x.A := by
     rw [Le h hqo hi, ei, Ni hx] at h1
     split at h1
     ·exact (bq h1).symm
     ·cases h1
    have hsy : Km b p x = some true := by
     rcases hcase with ⟨g, _⟩ | g
     ·omega
     ·exact g
    right
    have := ((Qi h hp ha hxm hsy).1 k2 k (Mt h hk c2 (by omega) (by rw [← ea]; exact pg (by omega) (by omega) cc.symm))).2
    rw [kB, az] at this
    exact this
   ·have c1 := con i hi ei a h1
    by_cases ek : brN b k = j.toNat
    ·have hbk := Kl h hk
     rw [ek, Ni hx] at hbk
     obtain ⟨_, _, k2, kB, _⟩ := hbk
     have ec : c = x.A := by
      rw [Le h hqo hk, ek, Ni hx] at h2
      split at h2
      ·exact (bq h2).symm
      ·cases h2
     have hsy : Km b p x = some true := by
      rcases hcase with ⟨g, _⟩ | g
      ·omega
      ·exact g
     right
     have := ((Qi h hp ha hxm hsy).1 k2 i (Mt h hi c1 (by omega) (by rw [← ec]; exact pg (by omega) (by omega) cc))).1
     rw [kB, az] at this
     exact this
    ·exact .inl ⟨a, c, c1, con k hk ek c h2, pg (by omega) (by omega) cc⟩
theorem A79 {b : Aa} (h : Au b) {p : Ab} (hp : As b p) (ha : Du b p) {t : Int} {a : Ap} (he : Ln b p t a = 0) : Kz b p (Gi b p t a) := by
 obtain ⟨h1, h2, h3⟩ := Nd h hp he
 by_cases hk : a.Kind = 1
 ·have hact := (W0 h hp t a).1
  have key : Par (F83 b p t a) λ y => y.2 ≠ 0 \/ Kz b p y.1 := by
   unfold F83
   rw [Cm h hp, Cv h hp]
   simp only [aa, bne_self_eq_false, cond_false]
   refine (Par.cond (Par.pure (.inl (by simp))) (Par.bind λ _ _ => Par.cond (Par.pure (.inl (by simp))) (Par.bind λ y hy => ?_)))
   have hd : y.1 ≠ 0 \/ Kz b p y.2.Aw := by
    unfold Ip at hy
    rw [beq_iff_eq.2 hk] at hy
    simp only [cond_true] at hy
    rw [bL] at hy
    obtain ⟨z, hz, e⟩ := hy
    have e := bq e
    rw [← e]
    by_cases hz0 : z.2 = 0
    ·exact .inr (Az1 h hp ha hz hz0)
    ·exact .inl hz0
   cases hq : (y.1 != 0) with
   | true => exact Par.pure (.inl (by simpa using hq))
   | false =>
    refine Par.pure ?_
    rcases hd with e | e
    ·simp at hq; exact absurd hq e
    ·exact .inr e
  rcases key _ hact with e | e
  ·exact absurd h2 e
  ·exact e
 ·rcases Bca h hp t ⟨hk, h3⟩ with e | e
  ·exact absurd h2 e
  ·exact e.sub.nobad h h1 hp
def C3 (b : Aa) : Ab -> List Ab -> Ab -> Prop
 | p, [], q => p = q
 | p, x :: l, q => (Kz b p x /\ As b x) /\ C3 b x l q
theorem C3.app {b : Aa} : ∀ {l m : List Ab} {p q r : Ab}, C3 b p l q -> C3 b q m r -> C3 b p (l ++ m) r
 | [], _, _, _, _, h, k => by cases h; exact k
 | _ :: _, _, _, _, _, h, k => ⟨h.1, h.2.app k⟩
theorem C3.one {b : Aa} {p q : Ab} (h : Kz b p q) (hq : As b q) : C3 b p [q] q := ⟨⟨h, hq⟩, rfl⟩
theorem A76 {b : Aa} (p : Ab) (x : Ap) : Sub b (ap p x) p := by
 unfold ap
 split
 ·refine jJ (λ _ => rfl) λ k hk => ?_
  simp only [D3, List.getD, ao] at hk ⊢
  split at hk
  ·split at hk <;> simp at hk
  ·exact hk
 ·exact jJ (λ _ => rfl) λ _ hk => hk
theorem X0 {b : Aa} (h : Au b) : ∀ (l : List Ap) {p : Ab}, As b p -> (∀ x, x ∈ l -> Afq b x) -> C3 b p (Fa l p) (l.foldl ap p)
 | [], _, _, _ => rfl
 | x :: l, p, hp, hl => by
  have hq := Arv hp (hl x ai)
  exact ⟨⟨(A76 p x).nobad h hq hp, hq⟩, X0 h l hq λ y hy => hl y (ah _ hy)⟩
theorem Azw {b : Aa} (h : Au b) {p : Ab} (hp : As b p) (ha : Du b p) (t : Int) (a : Ap) : C3 b p (doS b p t a) (doP b p t a) := by
 by_cases he : Ln b p t a = 0
 ·obtain ⟨hn, _, _⟩ := Nd h hp he
  have htr := Auq h hn
  have hpo := (Hu h hn).2.1
  have hla := V0 _ hn htr.2
  have e1 : doP b p t a = Iy b (Gi b p t a) := by unfold doP; rw [if_pos he]
  have hc := (C3.one (A79 h hp ha he) hn).app (X0 h (Em b (Gi b p t a)) hn htr.2)
  unfold doS
  rw [if_pos he]
  have htr1 : Js b p t a = ⟨(Iy b (Gi b p t a)).Ag, (Gi b p t a).Ac, (Iy b (Gi b p t a)).Aq, (Gi b p t a).Ao⟩ := htr.1
  cases hs : Ji (Js b p t a) (doP b p t a) with
  | true =>
   rw [if_pos rfl, aS]
   have := (Amy (hla.lens h) (doP b p t a)).2 hs
   rw [← this]; exact hc
  | false =>
   rw [if_neg (by simp)]
   refine hc.app ?_
   rw [e1]
   refine C3.one (Sub.nobad h hpo hla (jJ (λ i => ?_) λ k hk => ?_)) hpo
   ·show ((Iy b (Gi b p t a)).Ac.getD i default).State = ((Js b p t a).Ac.getD i default).State
    rw [htr1, (An3 hn).1]
    exact Av6 b _ i
   ·show (Js b p t a).Ag.getD k false = true
    rw [htr1]; exact hk
 ·unfold doS doP
  rw [if_neg he, if_neg he]; rfl
theorem Av1 {b : Aa} (h : Au b) {p : Ab} (hp : As b p) (ha : Du b p) (t : Int) (a : Ap) : Du b (doP b p t a) := by
 unfold doP
 split
 ·rename_i he
  exact Aur h (Nd h hp he).1
 ·exact ha
theorem Acx {b : Aa} (h : Au b) (t : Int) : ∀ (l : List Ap) {p : Ab}, As b p -> Du b p -> C3 b p (Cc b t p l) (Bj b t p l) /\ Du b (Bj b t p l)
 | [], _, _, ha => ⟨rfl, ha⟩
 | a :: l, p, hp, ha => by
  obtain ⟨h1, h2⟩ := Acx h t l (uC h hp t a) (Av1 h hp ha t a)
  exact ⟨(Azw h hp ha t a).app h1, h2⟩
theorem Ars {b : Aa} {p : Ab} {n f : Nat} (hn : n < b.Al.toNat) : (isl b p f).Al.any (· == (n : Int)) = ((A7 b p).getD n 0 == (f : Int)) := by
 rw [← Um hn]
 congr 1
 funext x
 rw [bz, beq_iff_eq, beq_iff_eq]
 exact ⟨λ e => e.symm, λ e => e.symm⟩
theorem Aog {b : Aa} (h : Au b) {p : Ab} {a c : Int} (ha : 0 <= a /\ a < b.Al) (hc : 0 <= c /\ c < b.Al) : (isl b p ((A7 b p).getD a.toNat 0).toNat).Al.any (· == c) = ((A7 b p).getD a.toNat 0 == (A7 b p).getD c.toNat 0) := by
 have hg := E0 h p (n := a.toNat) (by omega)
 have := Ars (b := b) (p := p) (n := c.toNat) (f := ((A7 b p).getD a.toNat 0).toNat) (by omega)
 rw [aP hc.1, hg.2.2] at this
 rw [this, bz, beq_iff_eq, beq_iff_eq]
 exact ⟨λ e => e.symm, λ e => e.symm⟩
theorem An7 {b : Aa} (h : Au b) {p : Ab} (hp : As b p) {a : Int} (ha : 0 <= a /\ a < b.Al) : F54 b p a = some (isl b p ((A7 b p).getD a.toNat 0).toNat, true) := by
 have := An6 h hp (n := a.toNat) (by omega)
 rwa [aP ha.1] at this
theorem A75 {b : Aa} (h : Au b) {p q : Ab} (hp : As b p) (hq : As b q) (hn : Kz b p q) : F20 b p q = some false := by
 have hsl := h.sol
 have hns := hp.nso
 refine Ok.eq ?_
 unfold F20
 rw [Ix h hp, Ix h hq]
 simp only [aa]
 refine Ok.bind (P := λ v => v = 0) (Ok.pure rfl) λ v hv => ?_
 subst hv
 refine Ok.cond (λ hc => by simp at hc) (λ _ => ?_)
 refine Ok.andThen (A := λ _ => True) (B := λ _ => False) ?_ (λ _ _ => Ok.pure rfl) (λ _ h => h.elim)
 refine Ok.whileN (λ z => ∃ i : Nat, z = (i : Int) /\ i <= b.Ac.length) (λ z => (100 - z).toNat) _ _ ⟨0, rfl, by omega⟩ (by omega) ?_
 rintro z ⟨i, rfl, hi⟩
 unfold Ale A1z
 refine Ok.cond (λ hq1 => ?_) (λ _ => Ok.brk trivial)
 simp only [decide_eq_true_eq] at hq1
 have hil : i < b.Ac.length := by omega
 have ei : w64 ((i : Int) + 1) = ((i + 1 : Nat) : Int) := by rw [A8 (by omega)]; omega
 rw [ei]
 refine Ok.inner (A := λ _ => True) (B := λ _ => False) ?_ (λ _ _ => Ok.next ⟨⟨i + 1, rfl, by omega⟩, by omega⟩) (λ _ h => h.elim)
 refine Ok.whileN (λ z => ∃ k : Nat, z = (k : Int) /\ k <= i) (λ z => (100 - z).toNat) _ _ ⟨0, rfl, by omega⟩ (by omega) ?_
 rintro z ⟨k, rfl, hk⟩
 unfold Ald
 refine Ok.cond (λ hq2 => ?_) (λ _ => Ok.brk trivial)
 simp only [decide_eq_true_eq] at hq2
 have hkl : k < b.Ac.length := by omega
 have ek : w64 ((k : Int) + 1) = ((k + 1 : Nat) : Int) := by rw [A8 (by omega)]; omega
 have nxt : Ok (some (Ctl.next ((k + 1 : Nat) : Int)) : Option (Ctl Int Bool)) (Fk (λ s' => (∃ k : Nat, s' = (k : Int) /\ k <= i) /\ (100 - s').toNat < (100 - (k : Int)).toNat) (λ _ => True) (λ _ => False)) := Ok.next ⟨⟨k + 1, rfl, by omega⟩, by omega⟩
 rw [Ga h hp, Ga h hp, Ga h hq, Ga h hq, ek]
 simp only [aa]
 cases e1 : Dc b q (i : Int) with
 | none => exact Ok.cond (λ _ => nxt) (λ hc => by simp [D2] at hc)
 | some a =>
 cases e2 : Dc b q (k : Int) with
 | none => exact Ok.cond (λ _ => nxt) (λ hc => by simp [D2] at hc)
 | some c =>
 refine Ok.cond (λ hc => by simp [D2] at hc) (λ _ => ?_)
 have ba := E7 h e1
 have bc := E7 h e2
 simp only [D2]
 rw [An7 h hq ba]
 simp only [aa]
 rw [qQ, Aog h ba bc]
 simp only [aa]
 refine Ok.cond (λ _ => nxt) (λ hg => ?_)
 have hg : (A7 b q).getD a.toNat 0 = (A7 b q).getD c.toNat 0 := by simpa using hg
 have hcase := hn i k hil hkl (by omega) ⟨a, c, e1, e2, hg⟩
 have g1 := zD (p := p) (s := i) (by omega)
 have g2 := zD (p := p) (s := k) (by omega)
 have fin : ¬ tog b p i k -> Ok ((getI p.Ac (i : Int)).bind λ y33 => (getI p.Ac (k : Int)).bind λ y35 => bif !(F56 b y33 y35) then (some (Ctl.ret true) : Option (Ctl Int Bool)) else some (.next ((k + 1 : Nat) : Int))) (Fk (λ s' => (∃ k : Nat, s' = (k : Int) /\ k <= i) /\ (100 - s').toNat < (100 - (k : Int)).toNat) (λ _ => True) (λ _ => False)) := λ ht => by
  have hag : F56 b (p.Ac.getD i default) (p.Ac.getD k default) = true := by
   rcases hcase with t | t
   ·exact absurd t ht
   ·exact t
  rw [g1, g2]
  simp only [aa, hag]
  exact nxt
 cases f1 : Dc b p (i : Int) with
 | none =>
  exact Ok.cond (λ hc => by simp [D2] at hc) (λ _ => fin λ t => by
   obtain ⟨u, v, t1, _⟩ := t
   rw [f1] at t1; cases t1)
 | some u =>
 cases f2 : Dc b p (k : Int) with
 | none =>
  exact Ok.cond (λ hc => by simp [D2] at hc) (λ _ => fin λ t => by
   obtain ⟨u, v, _, t2, _⟩ := t
   rw [f2] at t2; cases t2)
 | some v =>
 refine Ok.cond (λ _ => ?_) (λ hc => by simp [D2] at hc)
 have bu := E7 h f1
 have bv := E7 h f2
 simp only [D2]
 rw [An7 h hp bu]
 simp only [aa]
 rw [qQ, Aog h bu bv]
 simp only [aa]
 refine Ok.cond (λ _ => nxt) (λ hg2 => fin λ t => ?_)
 obtain ⟨u', v', t1, t2, t3⟩ := t
 rw [f1] at t1
 rw [f2] at t2
 cases t1; cases t2
 rw [t3] at hg2
 simp at hg2
theorem A8n : Afp = F34 := rfl
theorem Aya {b : Aa} (h : Au b) {y : Bd} (hy : Jd y) {p : Az} (hp : Ic b y p) (hT : p.Time <= 1000) (he : p.A6.length <= 200) {l : List Ap} (hl : l.length <= 10) :
  ∃ (m : List Ap) (ros' : List A0), m.length <= 2 * b.Al.toNat /\ (ros'.length = b.Al.toNat /\ ∀ x, x ∈ ros' -> Fc p.Time x) /\
   vS b y p l = some ([p.Power] ++ Cc b p.Time p.Power (l ++ m) ++ [wtP b (Bj b p.Time p.Power (l ++ m)) p.Time], 0) /\
   F11 b y p l = some (⟨p.Time + 1, wtP b (Bj b p.Time p.Power (l ++ m)) p.Time, ros', Ug (p.A6 ++ Cf b p.Time p.Power (l ++ m))⟩, Cf b p.Time p.Power (l ++ m), 0) := by
 obtain ⟨z, e, h1, m, ros', g1, g2, _, g4⟩ := A2e h hy hp hT he hl
 refine ⟨m, ros', g1, g2, ?_, ?_⟩
 ·unfold vS
  rw [A8n, e]
  simp only [aa, h1, bne_self_eq_false, cond_false, g4]
 ·unfold F11
  rw [e]
  simp only [aa, h1, bne_self_eq_false, cond_false, g4]
theorem Adc {b : Aa} : ∀ {l : List Ab} {p q : Ab}, As b p -> C3 b p l q -> ∀ (i : Nat) x y, (p :: l)[i]? = some x -> (p :: l)[i + 1]? = some y -> Kz b x y /\ As b x /\ As b y
 | [], _, _, _, _, i, x, y, _, h2 => by simp at h2
 | z :: l, p, q, hp, hc, 0, x, y, h1, h2 => by
  simp at h1 h2
  subst h1; subst h2
  exact ⟨hc.1.1, hp, hc.1.2⟩
 | z :: l, p, q, hp, hc, i + 1, x, y, h1, h2 => Adc hc.1.2 hc.2 i x y (by simpa using h1) (by simpa using h2)
theorem Al8 {b : Aa} (h : Au b) {y : Bd} {p : Az} (hp : Ic b y p) : Du b p.Power := by
 have := Ki h (p := p.Power) hp.st.nso
 rw [hp.fol] at this
 exact this
theorem A17 {b : Aa} (h : Au b) {P : Ab} (hp : As b P) {T : Int} (hT : 0 <= T /\ T <= 2147483648) : wtP b P T = wtS b P T := by
 obtain ⟨_, _, w, hw, e⟩ := X8 h hp hT
 rw [A18 h hp] at hw
 cases hw
 exact e.symm
theorem Ap1 {b : Aa} (h : Au b) {y : Bd} {p : Az} (hp : Ic b y p) (hT : p.Time <= 1000) (l : List Ap) {ros : List A0} (hr : ros.length = b.Al.toNat /\ ∀ x, x ∈ ros -> Fc p.Time x) (ev : List Bg) :
  C3 b p.Power (Cc b p.Time p.Power l ++ [wtP b (Bj b p.Time p.Power l) p.Time]) (wtP b (Bj b p.Time p.Power l) p.Time) /\ Ic b y ⟨p.Time + 1, wtP b (Bj b p.Time p.Power l) p.Time, ros, ev⟩ := by
 have hti := hp.time
 obtain ⟨c1, c2⟩ := Acx h p.Time l hp.st (Al8 h hp)
 have hq := F0 h p.Time l hp.st
 have hw := (X8 h hq hti).2.1
 have e := A17 h hq hti
 have hws : As b (wtS b (Bj b p.Time p.Power l) p.Time) := by rw [← e]; exact hw
 have hag := Ap0 h hq c2 hws
 rw [e]
 refine ⟨c1.app (C3.one ((Lv hq p.Time).sub.nobad h hws hq) hws), ?_⟩
 exact {
  st := hws
  fol := T7 hws.nso hag
  time := by dsimp only; omega
  nro := hr.1
  ros := λ x hx => by
   have := hr.2 x hx
   unfold Fc at this ⊢
   dsimp only
   omega }
theorem plantNever_law (t : List Int) : F5 t = some true := by
 refine Ok.eq ?_
 unfold F5
 refine (A8f t).bind λ s hs => (Ax8 hs).bind λ w hw => ?_
 have h := hw.1.ok
 have hbu := h.buses
 obtain ⟨hmk, hty, ⟨hpl, htm, hev, _⟩, hsr⟩ := hw
 refine Ok.andThen (A := λ _ => True) (B := λ _ => False) ?_ (λ _ _ => by rw [A3x]; exact Ok.pure rfl) (λ _ h => h.elim)
 refine Ok.whileN (λ z => (0 <= z.1 /\ z.1 <= 4) /\ Bu ⟨z.2.1, z.2.2.1⟩ /\ ∃ p : Az, z.2.2.2 = (p.Power.Ag, p.Power.Ac, p.Power.Aq, p.Power.Ao, p.A5, p.A6, p.Time) /\ Ic w.1 w.2.1 p /\ p.Time <= 20 + z.1 /\ p.A6.length <= 200) (λ z => (4 - z.1).toNat) _ _ ?_ (by dsimp only; omega) ?_
 ·exact ⟨⟨by dsimp only; omega, by dsimp only; omega⟩, hsr, w.2.2.1, rfl, hpl w.2.1, by dsimp only; omega, by rw [hev]; simp⟩
 ·rintro ⟨n, L, A, r⟩ ⟨⟨n0, n1⟩, hso, p, hr, hp, hti, hevl⟩
  dsimp only at n0 n1 hso hr hti
  subst hr
  have htp := hp.time
  unfold Ast
  dsimp only
  refine Ok.cond (λ hq => ?_) (λ _ => Ok.brk trivial)
  simp only [decide_eq_true_eq] at hq
  refine (A8i h hso (k := 4) (by omega)).bind λ l hl => ?_
  obtain ⟨m, ros', g1, g2, eT, eS⟩ := Aya h hty hp (by omega) hevl (l := l.1) (by omega)
  obtain ⟨ch, hpo⟩ := Ap1 h hp (by omega) (l.1 ++ m) g2 (Ug (p.A6 ++ Cf w.1 p.Time p.Power (l.1 ++ m)))
  have hlenS := J7 h p.Time (l.1 ++ m) hp.st
  simp only [aJ] at hlenS
  refine Ok.bind (P := λ v => v = _) (Ok.of_eq eT rfl) λ v hv => ?_
  subst hv
  refine Ok.bind (P := λ v => v = _) (Ok.of_eq eS rfl) λ v hv => ?_
  subst hv
  have hL : ([p.Power] ++ Cc w.1 p.Time p.Power (l.1 ++ m) ++ [wtP w.1 (Bj w.1 p.Time p.Power (l.1 ++ m)) p.Time]).length = (Cc w.1 p.Time p.Power (l.1 ++ m)).length + 2 := by simp
  have hL2 : (([p.Power] ++ Cc w.1 p.Time p.Power (l.1 ++ m) ++ [wtP w.1 (Bj w.1 p.Time p.Power (l.1 ++ m)) p.Time]).length : Int) = (Cc w.1 p.Time p.Power (l.1 ++ m)).length + 2 := by rw [hL]; omega
  have ec : (((((0 : Int) != 0) || ((0 : Int) != 0)) || (decide (((([p.Power] ++ Cc w.1 p.Time p.Power (l.1 ++ m) ++ [wtP w.1 (Bj w.1 p.Time p.Power (l.1 ++ m)) p.Time]).length : Nat) : Int) < 2)))) = false := by
   rw [hL2, decide_eq_false (by omega)]; rfl
  dsimp only
  rw [ec]
  have eta : (⟨p.Power.Ag, p.Power.Ac, p.Power.Aq, p.Power.Ao⟩ : Ab) = p.Power := rfl
  refine Ok.bind (P := λ v => v = p.Power) (Ok.of_eq (x := p.Power) rfl rfl) λ v hv => ?_
  subst hv
  refine Ok.bind (P := λ v => v = true) (Ok.of_eq (Ti (hp.st.lens h)) rfl) λ v hv => ?_
  subst hv
  have e16 : getI ([p.Power] ++ Cc w.1 p.Time p.Power (l.1 ++ m) ++ [wtP w.1 (Bj w.1 p.Time p.Power (l.1 ++ m)) p.Time]) (w64 ((([p.Power] ++ Cc w.1 p.Time p.Power (l.1 ++ m) ++ [wtP w.1 (Bj w.1 p.Time p.Power (l.1 ++ m)) p.Time]).length : Int) - 1)) = some (wtP w.1 (Bj w.1 p.Time p.Power (l.1 ++ m)) p.Time) := by
   have ew : w64 ((([p.Power] ++ Cc w.1 p.Time p.Power (l.1 ++ m) ++ [wtP w.1 (Bj w.1 p.Time p.Power (l.1 ++ m)) p.Time]).length : Int) - 1) = (((Cc w.1 p.Time p.Power (l.1 ++ m)).length + 1 : Nat) : Int) := by
    rw [hL2, A8 (by omega)]; omega
   rw [ew]
   refine Bl ?_
   rw [aC (by simp)]
   simp
  refine Ok.bind (P := λ v => v = wtP w.1 (Bj w.1 p.Time p.Power (l.1 ++ m)) p.Time) (Ok.of_eq e16 rfl) λ v hv => ?_
  subst hv
  refine Ok.bind (P := λ v => v = true) (Ok.of_eq (Ti (hpo.st.lens h)) rfl) λ v hv => ?_
  subst hv
  refine Ok.cond (λ hc => ?_) (λ _ => ?_)
  ·exfalso
   simp only [A7t] at hc
   rw [ec] at hc
   simp at hc
  refine Ok.inner (A := λ _ => True) (B := λ _ => False) ?_ (λ _ _ => ?_) (λ _ h => h.elim)
  ·refine Ok.whileN (λ z => ∃ i : Nat, z = (i : Int) /\ 1 <= i /\ i <= (Cc w.1 p.Time p.Power (l.1 ++ m)).length + 2) (λ z => (((Cc w.1 p.Time p.Power (l.1 ++ m)).length : Int) + 5 - z).toNat) _ _ ⟨1, rfl, by omega, by omega⟩ (by omega) ?_
   rintro z ⟨i, rfl, i0, i1⟩
   unfold Ass
   refine Ok.cond (λ hq2 => ?_) (λ _ => Ok.brk trivial)
   dsimp only at hq2
   rw [hL2, decide_eq_true_eq] at hq2
   have e1 : w64 ((i : Int) - 1) = ((i - 1 : Nat) : Int) := by rw [A8 (by omega)]; omega
   have e2 : w64 ((i : Int) + 1) = ((i + 1 : Nat) : Int) := by rw [A8 (by omega)]; omega
   rw [e1, e2]
   refine (Ok.getI (by omega) (by rw [hL2]; omega)).bind λ x hx => (Ok.getI (by omega) (by rw [hL2]; omega)).bind λ x2 hx2 => ?_
   rw [az] at hx hx2
   have hcg := Adc hp.st ch (i - 1) x x2 (by rw [← hx, aL]; rfl) (by
    have : i - 1 + 1 = i := by omega
    rw [this, ← hx2, aL]; rfl)
   rw [A75 h hcg.2.1 hcg.2.2 hcg.1]
   exact Ok.next ⟨⟨i + 1, rfl, by omega, by omega⟩, by omega⟩
  ·rw [Sb h hty hpo]
   simp only [aa]
   refine Ok.cond (λ hc => ?_) (λ _ => Ok.next ?_)
   ·exfalso
    simp only [A7s, bne_self_eq_false, aY] at hc
    rw [A8 (by omega)] at hc
    simp at hc
   ·have en : w64 (n + 1) = n + 1 := A8 (by omega)
    have hT2 : p.Time + 1 <= 20 + (n + 1) := by omega
    have hN0 : 0 <= n + 1 /\ n + 1 <= 4 := by omega
    have hM : (4 - (n + 1)).toNat < (4 - n).toNat := by omega
    rw [en]
    refine ⟨⟨hN0, hl.2, ⟨p.Time + 1, wtP w.1 (Bj w.1 p.Time p.Power (l.1 ++ m)) p.Time, ros', Ug (p.A6 ++ Cf w.1 p.Time p.Power (l.1 ++ m))⟩, (by dsimp only), hpo, hT2, ?_⟩, hM⟩
    unfold Ug
    rw [bV]; omega
end Go.Proofs.YthgnbpdjncbkfaaGreat
