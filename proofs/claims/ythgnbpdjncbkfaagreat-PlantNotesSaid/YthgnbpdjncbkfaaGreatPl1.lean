import Derived.Test.YthgnbpdjncbkfaaGreatPl0
namespace Go.Proofs.YthgnbpdjncbkfaaGreat
open Go.SL
theorem J_ {b : Aa} (h : Ax b) (i : Int) : Ve b i = some (N0 b i) := by
 have hb := h.brl
 unfold Ve vY
 refine Ok.eq ?_
 refine Ok.bind (P := λ y => y = (N0 b i, i)) ?_ (λ y hy => Ok.pure (by rw [hy]))
 have key := J6 (f := λ n (a : Ak) (z : Unit) => (bif (a.Kind == 2 && a.B == i) then some (.ret (cnt 0 n)) else some (.next ()) : Option (Ctl Unit Int))) (p := λ x : Ak => x.Kind == 2 && x.B == i) (λ _ _ => rfl) b.Af 0 (by omega)
 have : ∀ (xs : List Ak) (k : Nat), foldI (Kv i) xs k () = match foldI (λ n (a : Ak) (z : Unit) => (bif (a.Kind == 2 && a.B == i) then some (.ret (cnt 0 n)) else some (.next ()) : Option (Ctl Unit Int))) xs k () with
   | some (.ret r) => some (.ret (r, i))
   | some (.next _) => some (.next ())
   | some (.brk _) => some (.brk ())
   | none => none := by
  intro xs
  induction xs with
  | nil => intro k; rfl
  | cons x xs ih =>
   intro k
   simp only [foldI, Kv, U0]
   cases hq : (x.Kind == 2 && x.B == i) with
   | true => rfl
   | false => simp only [cond_false]; exact ih (k + 1)
 rw [this, key]
 unfold N0 On
 cases b.Af.findIdx? (λ x : Ak => x.Kind == 2 && x.B == i) with
 | none => exact Ok.pure rfl
 | some j => exact Ok.pure rfl
theorem Ayv {b : Aa} (h : Ax b) {p : Ab} (hp : Aw b p) {n : Nat} (hn : n < b.Am.toNat) : Gm b p (n : Int) = some (isl b p (G4 b p n), true) := of_eq h hp hn
theorem A41 {l : List Int} {x : Int × Int} (h : x ∈ bw l) : x.2 ∈ l := by
 unfold bw Ga at h
 obtain ⟨j, hj, rfl⟩ := List.mem_map.1 h
 have := List.mem_range.1 hj
 dsimp only
 rw [List.getElem?_eq_getElem (by omega)]
 exact List.getElem_mem _
theorem A08 {b : Aa} (h : Ax b) {p : Ab} (hp : Aw b p) (y : Bh) {n : Nat} (hn : n < b.Am.toNat) : Ok (Akp b y p (n : Int)) λ _ => True := by
 have hbr := hp.brk.len
 obtain ⟨l1, _⟩ := Wf h hp hn
 obtain ⟨r1, _⟩ := Nn h hp hn
 unfold Akp
 rw [Ayv h hp hn]
 simp only [Option.bind_some]
 refine Ok.cond (λ _ => Ok.pure trivial) (λ _ => ?_)
 refine Ok.andThen (A := λ _ => True) (B := λ _ => True) ?_ (λ _ _ => Ok.pure trivial) (λ _ _ => Ok.pure trivial)
 refine Ok.foldE (λ _ _ => True) _ 0 _ trivial (λ j x s hx _ => ?_) (λ _ _ => trivial)
 have hin := Ang (A41 (List.mem_of_getElem? hx))
 unfold W6
 rw [J_ h]
 simp only [Option.bind_some]
 rw [Ea (by omega)]
 simp only [Option.bind_some]
 refine Ok.cond (λ _ => Ok.next trivial) (λ _ => ?_)
 rw [l1, r1]
 simp only [Option.bind_some]
 refine (Ok.getI hin.1 hin.2).bind λ v _ => Ok.cond (λ _ => Ok.ret trivial) (λ _ => Ok.next trivial)
theorem Az9 {b : Aa} (h : Ax b) {p : Ab} (hp : Aw b p) (y : Bh) {n : Nat} (hn : n < b.Am.toNat) : Ok (Ako b y p (n : Int)) λ _ => True := by
 obtain ⟨l1, _⟩ := Wf h hp hn
 obtain ⟨r1, _⟩ := Nn h hp hn
 have hl := Aag h hp hn
 unfold Ako
 rw [l1, r1, hl]
 refine (Ok.gT (λ _ => Ok.triv rfl) λ _ => trivial).bind (P := λ _ => True) λ _ _ => ?_
 refine (Ok.gT (λ _ => Ok.triv rfl) λ _ => trivial).bind (P := λ _ => True) λ _ _ => ?_
 refine (Ok.gT (λ _ => Ok.triv rfl) λ _ => trivial).bind (P := λ _ => True) λ _ _ => Ok.pure trivial
theorem Aw9 {b : Aa} (h : Ax b) (p : Ab) (f : Nat) : (isl b p f).Am.length <= 1000 /\ (isl b p f).Ac.length <= 1000 := by
 have h1 := h.buses
 have h2 := h.sol
 have h3 : (isl b p f).Am.length <= b.Am.toNat := Dj _ _
 have h4 : (isl b p f).Ac.length <= b.Ac.length := Dj _ _
 omega
theorem Axe {b : Aa} (h : Ax b) {p : Ab} (hp : Aw b p) (f : Nat) {i : Int} (h0 : 0 <= i) (h1 : i < b.Ac.length) : Ok (Akk b p (isl b p f) i) λ _ => True := by
 have hbr := hp.brk.len
 have hns := hp.nso
 obtain ⟨w1, w2⟩ := Aw9 h p f
 obtain ⟨j, x, e, hx, _, _, hj⟩ := uO h h0 h1
 unfold Akk
 rw [J_ h, e]
 simp only [Option.bind_some]
 rw [Bm hx]
 simp only [Option.bind_some]
 simp only [Ea (show p.Aq.length <= 1000 by omega), Option.bind_some]
 refine (Ok.gT (λ _ => Ok.triv rfl) λ _ => trivial).bind (P := λ _ => True) λ _ _ => ?_
 refine (Ok.gT (λ _ => Ok.triv rfl) λ _ => trivial).bind (P := λ _ => True) λ _ _ => ?_
 refine (Ok.gT (λ _ => Ok.triv (Dv _ _ (by omega))) λ _ => trivial).bind (P := λ _ => True) λ _ _ => ?_
 refine (Ok.gT (λ _ => Ok.triv (Dv _ _ (by omega))) λ _ => trivial).bind (P := λ _ => True) λ _ _ => ?_
 refine (Ok.gT (λ _ => Ok.getB h0 (by omega)) λ _ => trivial).bind (P := λ _ => True) λ _ _ => Ok.pure trivial
theorem Azz {b : Aa} (h : Ax b) {p : Ab} (hp : Aw b p) {n : Nat} (hn : n < b.Am.toNat) : Ok (Akn b p (n : Int)) λ v => v.2 = true -> 0 <= v.1 /\ v.1 < b.Ac.length := by
 have hns := hp.nso
 have hsl := h.sol
 unfold Akn
 rw [Ayv h hp hn]
 simp only [Option.bind_some]
 refine Ok.cond (λ _ => Ok.pure λ hh => by cases hh) (λ _ => ?_)
 refine Ok.andThen (A := λ _ => True) (B := λ v : Int × Bool => v.2 = true -> 0 <= v.1 /\ v.1 < b.Ac.length) ?_ (λ _ _ => Ok.pure λ hh => by cases hh) (λ v hv => Ok.pure hv)
 refine Ok.foldI0 (I := λ _ _ => True) trivial (λ j x s hx _ => ?_) (λ _ _ => trivial)
 unfold W5
 refine Ok.inner (A := λ _ => True) (B := λ v : Int × Bool => v.2 = true -> 0 <= v.1 /\ v.1 < b.Ac.length) ?_ (λ _ _ => Ok.next trivial) (λ v hv => Ok.ret hv)
 refine Ok.foldI0 (I := λ _ _ => True) trivial (λ k a s ha _ => ?_) (λ _ _ => trivial)
 have hk : k < p.Ac.length := (List.getElem?_eq_some_iff.1 ha).1
 unfold W0
 rw [C4 (by omega)]
 refine (Ok.gT (λ _ => Axe h hp _ (by omega) (by omega)) λ _ => trivial).bind (P := λ _ => True) λ _ _ => ?_
 refine Ok.cond (λ _ => Ok.ret λ _ => ?_) (λ _ => Ok.next trivial)
 dsimp only; omega
theorem Ar5 {b : Aa} (h : Ax b) {p : Ab} (hp : Aw b p) (n : Int) {i : Int} (h0 : 0 <= i) (h1 : i < b.Ac.length) : Ok (Vf b p n i) λ v => v.1.length <= 2 := by
 have hns := hp.nso
 unfold Vf
 refine (Ok.getI h0 (by omega)).bind λ x _ => ?_
 refine Ok.cond (λ _ => Ok.pure (by simp)) (λ _ => Ok.cond (λ _ => ?_) (λ _ => Ok.pure (by simp)))
 refine (Nt h hp n).bind λ v _ => ?_
 unfold Aa6
 rw [C7 h hp, Ms h hp, J_ h]
 exact Ok.pure (by simp)
theorem Af1 {T o : Int} (ho : -1 <= o /\ o <= T) (hT : 0 <= T) (v : Bool) : -1 <= Gc o v T /\ Gc o v T <= T := by
 unfold Gc
 cases v with
 | false => simp only [Bool.not_false, cond_true]; omega
 | true =>
  simp only [Bool.not_true, cond_false]
  cases hq : (o == -1) with
  | true => simp only [cond_true]; omega
  | false => simp only [cond_false]; exact ho
theorem As8 {b : Aa} (h : Ax b) {y : Bh} (hy : Iw y) {p : Ab} (hp : Aw b p) {n : Nat} (hn : n < b.Am.toNat) {T : Int} (hT : 0 <= T /\ T <= 2147483648) {r : Az} (hr : Fu T r) :
  Ok (Vo b y p (n : Int) T r) λ z => Fu T z.1 /\ z.2.1.length <= 2 /\ (y.Delay = 600 -> T <= 500 -> z.2.1 = []) := by
 obtain ⟨hr1, hr2⟩ := hr
 have hbu := h.buses
 unfold Vo
 rw [C7 h hp]
 simp only [Option.bind_some]
 refine Ok.cond (λ hc => by simp at hc) (λ _ => Ok.cond (λ hc => ?_) (λ _ => Ok.cond (λ hc => ?_) (λ _ => ?_)))
 ·exfalso
  simp only [Yy, Xq hy, Kz, Bool.not_true, Bool.false_or, Bool.or_eq_true, decide_eq_true_eq, Bool.not_eq_true', Bool.and_eq_false_iff, decide_eq_false_iff_not] at hc
  omega
 ·exfalso
  simp only [Ait, Bool.or_eq_true, decide_eq_true_eq] at hc
  omega
 refine (A08 h hp y hn).bind λ v6 _ => (Az9 h hp y hn).bind λ v8 _ => (Azz h hp hn).bind λ v10 h10 => ?_
 have s1 := Af1 hr1 hT.1 v8
 have s2 := Af1 hr2 hT.1 v6.2
 refine Ok.cond (λ hc => ?_) (λ hc => ?_)
 ·simp only [Yx, Bool.and_eq_true, decide_eq_true_eq] at hc
  obtain ⟨⟨c1, c2⟩, c3⟩ := hc
  have hin := h10 c1
  refine (Ar5 h hp _ hin.1 hin.2).bind λ v13 h13 => ?_
  refine Ok.andThen (A := λ s => -1 <= s /\ s <= T) (B := λ (_ : Unit) => False) ?_ (λ s hs => Ok.pure ⟨⟨hs, s2⟩, h13, λ hd ht => ?_⟩) (λ _ h => h.elim)
  ·unfold Vn
   refine Ok.cond (λ _ => Ok.nextE (by omega)) (λ _ => Ok.nextE s1)
  ·exfalso
   rw [Bf (by omega)] at c3
   omega
 ·refine Ok.cond (λ hc => ?_) (λ _ => Ok.pure ⟨⟨s1, s2⟩, by simp, λ _ _ => rfl⟩)
  rw [J_ h]
  simp only [Option.bind_some]
  refine Ok.pure ⟨⟨s1, by dsimp only; omega⟩, by simp, λ hd ht => ?_⟩
  exfalso
  simp only [Ais, Bool.and_eq_true, decide_eq_true_eq] at hc
  have c3 := hc.2
  rw [Bf (by omega)] at c3
  omega
def Bq (b : Aa) (T : Int) (p : Ab) (l : List Ao) : Ab := l.foldl (λ q a => doP b q T a) p
def B3 (b : Aa) (T : Int) : Ab -> List Ao -> List A9
 | _, [] => []
 | p, a :: l => doE b p T a ++ B3 b T (doP b p T a) l
def Di (b : Aa) (T : Int) : Ab -> List Ao -> List Ab
 | _, [] => []
 | p, a :: l => doS b p T a ++ Di b T (doP b p T a) l
theorem Gy {b : Aa} (h : Ax b) (T : Int) : ∀ (l : List Ao) {p : Ab}, Aw b p -> Aw b (Bq b T p l)
 | [], _, hp => hp
 | a :: l, _, hp => Gy h T l (qX h hp T a)
theorem Yc (b : Aa) (T : Int) (p : Ab) (l m : List Ao) : Bq b T p (l ++ m) = Bq b T (Bq b T p l) m := by unfold Bq; rw [List.foldl_append]
theorem Qn (b : Aa) (T : Int) : ∀ (l m : List Ao) (p : Ab), B3 b T p (l ++ m) = B3 b T p l ++ B3 b T (Bq b T p l) m
 | [], _, _ => rfl
 | a :: l, m, p => by
  show doE b p T a ++ B3 b T (doP b p T a) (l ++ m) = doE b p T a ++ B3 b T (doP b p T a) l ++ B3 b T (Bq b T (doP b p T a) l) m
  rw [Qn b T l m, List.append_assoc]
theorem Qm (b : Aa) (T : Int) : ∀ (l m : List Ao) (p : Ab), Di b T p (l ++ m) = Di b T p l ++ Di b T (Bq b T p l) m
 | [], _, _ => rfl
 | a :: l, m, p => by
  show doS b p T a ++ Di b T (doP b p T a) (l ++ m) = doS b p T a ++ Di b T (doP b p T a) l ++ Di b T (Bq b T (doP b p T a) l) m
  rw [Qm b T l m, List.append_assoc]
theorem A0h {b : Aa} (h : Ax b) {p : Ab} (hp : Aw b p) (T : Int) (a : Ao) : (doE b p T a).length <= 10001 := by
 unfold doE
 split
 ·rename_i he
  have := (Lg h (T6 h hp he).1).2.2
  simp; omega
 ·simp
theorem A0g {b : Aa} (h : Ax b) {p : Ab} (hp : Aw b p) (T : Int) (a : Ao) : (doS b p T a).length <= 10002 := by
 unfold doS
 split
 ·rename_i he
  have := (Lg h (T6 h hp he).1).2.2
  split <;> simp [Kn] <;> omega
 ·simp
theorem Jn {b : Aa} (h : Ax b) (T : Int) : ∀ (l : List Ao) {p : Ab}, Aw b p -> (B3 b T p l).length <= 10001 * l.length
 | [], _, _ => by simp [B3]
 | a :: l, p, hp => by
  have h1 := A0h h hp T a
  have h2 := Jn h T l (qX h hp T a)
  simp only [B3, List.length_append, List.length_cons]
  omega
theorem Ma {b : Aa} (h : Ax b) (T : Int) : ∀ (l : List Ao) {p : Ab}, Aw b p -> (Di b T p l).length <= 10002 * l.length
 | [], _, _ => by simp [Di]
 | a :: l, p, hp => by
  have h1 := A0g h hp T a
  have h2 := Ma h T l (qX h hp T a)
  simp only [Di, List.length_append, List.length_cons]
  omega
abbrev Av8 (b : Aa) (T : Int) (P : Ab) (ros : List Az) (evs ev : List A9) (st : List Ab) :=
 (T, b.Am, b.Af, b.Ac, b.Ae, b.Phase, b.Ap, P.Ah, P.Ac, P.As, P.Aq, ros, evs, ev, st)
theorem Am5 {b : Aa} (h : Ax b) {T : Int} {P : Ab} (hp : Aw b P) (ros : List Az) (evs : List A9) {ev : List A9} {st : List Ab} {l : List Ao}
  (h1 : ev.length + 10001 * l.length <= 1000000) (h2 : st.length + 10002 * l.length <= 1000000) :
  Ok (foldI Mz l 0 (Av8 b T P ros evs ev st)) (Dq (λ s => s = Av8 b T (Bq b T P l) ros evs (ev ++ B3 b T P l) (st ++ Di b T P l)) λ (_ : Unit) => False) := by
 refine Ok.foldI0 (I := λ j s => s = Av8 b T (Bq b T P (l.take j)) ros evs (ev ++ B3 b T P (l.take j)) (st ++ Di b T P (l.take j))) ?_ (λ j a s ha hs => ?_) λ s hs => ?_
 ·simp [Bq, B3, Di]
 ·have hj : j < l.length := (List.getElem?_eq_some_iff.1 ha).1
  have hq := Gy h T (l.take j) hp
  have e1 := Jn h T (l.take j) hp
  have e2 := Ma h T (l.take j) hp
  rw [List.length_take] at e1 e2
  subst hs
  unfold Mz
  have hd := A6o h (T := T) (ros := ros) (evs := evs) (ev := ev ++ B3 b T P (l.take j)) (sts := st ++ Di b T P (l.take j)) hq (by simp; omega) (by simp; omega) a
  refine Ok.bind (P := λ y => y = _) (Ok.of_eq hd rfl) λ y hy => Ok.next ?_
  subst hy
  have e3 : Bq b T P (l.take (j + 1)) = doP b (Bq b T P (l.take j)) T a := by rw [Bk ha, Yc]; rfl
  have e4 : B3 b T P (l.take (j + 1)) = B3 b T P (l.take j) ++ doE b (Bq b T P (l.take j)) T a := by rw [Bk ha, Qn]; simp [B3]
  have e5 : Di b T P (l.take (j + 1)) = Di b T P (l.take j) ++ doS b (Bq b T P (l.take j)) T a := by rw [Bk ha, Qm]; simp [Di]
  rw [e3, e4, e5, ← List.append_assoc, ← List.append_assoc]
 ·rw [List.take_length] at hs; exact hs
theorem Awe {b : Aa} (h : Ax b) {y : Bh} (hy : Iw y) {T : Int} (hT : 0 <= T /\ T <= 2147483648) {P : Ab} (hp : Aw b P) {ros : List Az} (hr : ros.length = b.Am.toNat /\ ∀ x, x ∈ ros -> Fu T x)
  (evs : List A9) {ev : List A9} {st : List Ab} (h1 : ev.length <= 500000) (h2 : st.length <= 500000) :
  Ok (vD ⟨⟨T, P, ros, evs⟩, b, ev, st⟩ y) λ r => ∃ (l : List Ao) (ros' : List Az), r = ⟨⟨T, Bq b T P l, ros', evs⟩, b, ev ++ B3 b T P l, st ++ Di b T P l⟩ /\
   l.length <= 2 * (Bj b P).length /\ (ros'.length = b.Am.toNat /\ ∀ x, x ∈ ros' -> Fu T x) /\ (y.Delay = 600 -> T <= 500 -> l = []) := by
 have hbu := h.buses
 have hil := Hz b P
 unfold vD
 have e0 := Az8 hbu
 have e1 : F89 b P = some (Bj b P) := H0 h hp
 refine Ok.bind (P := λ v => v = List.replicate b.Am.toNat Jc) (Ok.of_eq e0 rfl) λ v hv => ?_
 subst hv
 refine Ok.bind (P := λ v => v = Bj b P) (Ok.of_eq e1 rfl) λ v hv => ?_
 subst hv
 have hidle : ∀ x, x ∈ List.replicate b.Am.toNat Jc -> Fu T x := λ x hx => by
  rw [(List.mem_replicate.1 hx).2]
  exact ⟨by simp [Jc]; omega, by simp [Jc]; omega⟩
 refine Ok.andThen (A := λ s => ∃ (l : List Ao) (ros' : List Az), s = (T, b.Am, b.Af, b.Ac, b.Ae, b.Phase, b.Ap, ros', (Bq b T P l).Ah, (Bq b T P l).Ac, (Bq b T P l).As, (Bq b T P l).Aq, ros, evs, ev ++ B3 b T P l, st ++ Di b T P l) /\
   l.length <= 2 * (Bj b P).length /\ (ros'.length = b.Am.toNat /\ ∀ x, x ∈ ros' -> Fu T x) /\ (y.Delay = 600 -> T <= 500 -> l = [])) (B := λ (_ : Unit) => False) ?_ (λ s hs => ?_) (λ _ h => h.elim)
 ·refine Ok.foldI0 (I := λ j s => ∃ (l : List Ao) (ros' : List Az), s = (T, b.Am, b.Af, b.Ac, b.Ae, b.Phase, b.Ap, ros', (Bq b T P l).Ah, (Bq b T P l).Ac, (Bq b T P l).As, (Bq b T P l).Aq, ros, evs, ev ++ B3 b T P l, st ++ Di b T P l) /\
   l.length <= 2 * j /\ (ros'.length = b.Am.toNat /\ ∀ x, x ∈ ros' -> Fu T x) /\ (y.Delay = 600 -> T <= 500 -> l = [])) ⟨[], _, by simp [B3, Di, Bq], by simp, ⟨by simp, hidle⟩, λ _ _ => rfl⟩ (λ j x s hx hI => ?_) λ s hI => hI
  obtain ⟨l, ros', rfl, g1, ⟨g2, g3⟩, g4⟩ := hI
  have hj : j < (Bj b P).length := (List.getElem?_eq_some_iff.1 hx).1
  have hin := Ahb h (List.mem_of_getElem? hx)
  obtain ⟨b0, b1⟩ := Y0 hin
  have hq := Gy h T l hp
  have l1 := Jn h T l hp
  have l2 := Ma h T l hp
  have stay : ∃ (l' : List Ao) (ros2 : List Az), (T, b.Am, b.Af, b.Ac, b.Ae, b.Phase, b.Ap, ros', (Bq b T P l).Ah, (Bq b T P l).Ac, (Bq b T P l).As, (Bq b T P l).Aq, ros, evs, ev ++ B3 b T P l, st ++ Di b T P l) = (T, b.Am, b.Af, b.Ac, b.Ae, b.Phase, b.Ap, ros2, (Bq b T P l').Ah, (Bq b T P l').Ac, (Bq b T P l').As, (Bq b T P l').Aq, ros, evs, ev ++ B3 b T P l', st ++ Di b T P l') /\
   l'.length <= 2 * (j + 1) /\ (ros2.length = b.Am.toNat /\ ∀ x, x ∈ ros2 -> Fu T x) /\ (y.Delay = 600 -> T <= 500 -> l' = []) := ⟨l, ros', rfl, by omega, ⟨g2, g3⟩, g4⟩
  unfold Rw
  rw [b0]
  simp only [Option.bind_some]
  have hl := Aag h hq b1
  refine Ok.bind (P := λ _ => True) (Ok.gT (λ _ => Ok.triv hl) λ _ => trivial) λ v _ => ?_
  refine Ok.cond (λ _ => Ok.next stay) (λ _ => ?_)
  refine Ok.bind (P := λ r => Fu T r) ((Ok.getI (l := ros) (by omega) (by omega)).mono λ r hr' => hr.2 r (List.mem_of_getElem? hr')) λ r hr' => ?_
  refine Ok.bind (P := λ z => Fu T z.1 /\ z.2.1.length <= 2 /\ (y.Delay = 600 -> T <= 500 -> z.2.1 = [])) (As8 h hy hq b1 hT hr') λ z hz => ?_
  refine (Ok.getI (l := ros') (by omega) (by omega)).bind λ _ _ => (Ok.setI (l := ros') (x := z.1) (by omega) (by omega)).bind λ w hw => ?_
  subst hw
  refine Ok.inner (Am5 h hq ros evs (ev := ev ++ B3 b T P l) (st := st ++ Di b T P l) (l := z.2.1) (by simp; omega) (by simp; omega)) (λ s hs => ?_) (λ _ h => h.elim)
  subst hs
  refine Ok.next ⟨l ++ z.2.1, ros'.set (Ou x : Int).toNat z.1, ?_, by simp; omega, ⟨by rw [List.length_set]; exact g2, λ r hr2 => ?_⟩, λ hd ht => by rw [g4 hd ht, hz.2.2 hd ht]; rfl⟩
  ·rw [Yc, Qn, Qm, List.append_assoc, List.append_assoc]
  ·rcases List.mem_or_eq_of_mem_set hr2 with hr2 | hr2
   ·exact g3 r hr2
   ·rw [hr2]; exact hz.1
 ·obtain ⟨l, ros', rfl, g⟩ := hs
  exact Ok.pure ⟨l, ros', rfl, g⟩
def wtP (b : Aa) (P : Ab) (T : Int) : Ab := (Bx b P T ⟨7, 0, 0⟩).1
theorem Av7 {b : Aa} (h : Ax b) {P : Ab} (hp : Aw b P) {T : Int} (hT : 0 <= T /\ T <= 2147483648) : F83 b P T ⟨7, 0, 0⟩ = some (wtP b P T, 0) /\ Aw b (wtP b P T) /\ ∃ w, Ky ⟨b, P, T⟩ = some w /\ w.Ar = wtP b P T := by
 obtain ⟨w, hw, hwo⟩ := Alw h hp T
 have key : F83 b P T ⟨7, 0, 0⟩ = some (w.Ar, 0) := by
  refine Ok.eq ?_
  unfold F83
  rw [C7 h hp, A09, C_ h hp]
  simp only [Option.bind_some]
  refine Ok.cond (λ hc => by simp at hc) (λ _ => Ok.cond (λ hc => ?_) (λ _ => Ok.cond (λ hc => by simp at hc) (λ _ => ?_)))
  ·simp [Aqg] at hc; omega
  ·have : Ji ⟨b, P, T⟩ ⟨7, 0, 0⟩ = some (0, w) := by
    unfold Ji
    rw [hw]; rfl
   rw [this]
   exact Ok.pure rfl
 have e : wtP b P T = w.Ar := by unfold wtP Bx; rw [key]; rfl
 rw [e]
 exact ⟨key, hwo, w, hw, rfl⟩
def Yt (l : List A9) : List A9 := l.drop (l.length - 200)
theorem Azj {b : Aa} (h : Ax b) {y : Bh} (hy : Iw y) {p : A0} (hp : Pq b y p) (hT : p.Time <= 1000) (he : p.A4.length <= 200) {l : List Ao} (hl : l.length <= 10) :
  Ok (F34 b y p l) λ z => z.2 = 0 /\ ∃ (m : List Ao) (ros' : List Az), m.length <= 2 * b.Am.toNat /\ (ros'.length = b.Am.toNat /\ ∀ x, x ∈ ros' -> Fu p.Time x) /\ (y.Delay = 600 -> p.Time <= 500 -> m = []) /\
   z.1 = ⟨⟨p.Time + 1, wtP b (Bq b p.Time p.Power (l ++ m)) p.Time, ros', Yt (p.A4 ++ B3 b p.Time p.Power (l ++ m))⟩, b, B3 b p.Time p.Power (l ++ m), [p.Power] ++ Di b p.Time p.Power (l ++ m) ++ [wtP b (Bq b p.Time p.Power (l ++ m)) p.Time]⟩ := by
 have hbu := h.buses
 have hti := hp.time
 have hst := hp.st
 have hnr := hp.nro
 unfold F34
 rw [Aeg h hy hp]
 simp only [Option.bind_some]
 refine Ok.cond (λ hc => by simp at hc) (λ _ => Ok.cond (λ hc => ?_) (λ _ => Ok.cond (λ hc => ?_) (λ _ => ?_)))
 ·simp only [decide_eq_true_eq] at hc; omega
 ·simp only [beq_iff_eq] at hc; omega
 rw [Ax3 h hst (by omega) (by omega)]
 simp only [Option.bind_some]
 rw [Az2 h hst (by simp)]
 simp only [Option.bind_some]
 refine Ok.andThen (Am5 h hst p.A5 p.A4 (ev := []) (st := [] ++ [p.Power]) (l := l) (by simp; omega) (by simp; omega)) (λ s hs => ?_) (λ _ h => h.elim)
 subst hs
 have hq := Gy h p.Time l hst
 have l1 := Jn h p.Time l hst
 have l2 := Ma h p.Time l hst
 refine Ok.bind (Awe h hy hti hq ⟨hnr, hp.ros⟩ p.A4 (ev := [] ++ B3 b p.Time p.Power l) (st := [] ++ [p.Power] ++ Di b p.Time p.Power l) (by simp; omega) (by simp; omega)) λ r hr => ?_
 obtain ⟨m, ros', rfl, g1, g2, g3⟩ := hr
 have hil := Hz b (Bq b p.Time p.Power l)
 have hq2 := Gy h p.Time m hq
 have l3 := Jn h p.Time m hq
 have l4 := Ma h p.Time m hq
 obtain ⟨w1, w2, _⟩ := Av7 h hq2 hti
 refine Ok.bind (P := λ v => v = (wtP b (Bq b p.Time (Bq b p.Time p.Power l) m) p.Time, (0 : Int))) (Ok.of_eq w1 rfl) λ v hv => ?_
 subst hv
 have k3 := Aw3 h (r := ⟨⟨p.Time, wtP b (Bq b p.Time (Bq b p.Time p.Power l) m) p.Time, ros', p.A4⟩, b, [] ++ B3 b p.Time p.Power l ++ B3 b p.Time (Bq b p.Time p.Power l) m, [] ++ [p.Power] ++ Di b p.Time p.Power l ++ Di b p.Time (Bq b p.Time p.Power l) m⟩) (p := wtP b (Bq b p.Time (Bq b p.Time p.Power l) m) p.Time) w2
 refine Ok.bind (P := λ v => v = _) (Ok.of_eq (k3 (by simp; omega)) rfl) λ v hv => ?_
 subst hv
 have eE : [] ++ B3 b p.Time p.Power l ++ B3 b p.Time (Bq b p.Time p.Power l) m = B3 b p.Time p.Power (l ++ m) := by rw [Qn]; rfl
 have eS : [] ++ [p.Power] ++ Di b p.Time p.Power l ++ Di b p.Time (Bq b p.Time p.Power l) m = [p.Power] ++ Di b p.Time p.Power (l ++ m) := by rw [Qm]; simp
 rw [eE, eS]
 have eP : Bq b p.Time (Bq b p.Time p.Power l) m = Bq b p.Time p.Power (l ++ m) := (Yc _ _ _ _ _).symm
 have l5 := Jn h p.Time (l ++ m) hst
 simp only [List.length_append] at l5
 refine (Ok.appI (l := p.A4) (m := B3 b p.Time p.Power (l ++ m)) (by omega)).bind λ u hu => ?_
 subst hu
 have hlen : ((p.A4 ++ B3 b p.Time p.Power (l ++ m)).length : Int) <= 10000000 := by simp only [List.length_append]; omega
 have ew : w64 (((p.A4 ++ B3 b p.Time p.Power (l ++ m)).length : Int) - 200) = ((p.A4 ++ B3 b p.Time p.Power (l ++ m)).length : Int) - 200 := Bf (by omega)
 rw [ew]
 have en : (max 0 (((p.A4 ++ B3 b p.Time p.Power (l ++ m)).length : Int) - 200)).toNat = (p.A4 ++ B3 b p.Time p.Power (l ++ m)).length - 200 := by omega
 refine Ok.bind (P := λ v => v = Yt (p.A4 ++ B3 b p.Time p.Power (l ++ m))) ((Ok.cutI (by omega) (by omega) (by omega)).mono λ v hv => ?_) λ v hv => ?_
 ·rw [hv, Int.toNat_natCast, List.take_length, en]; rfl
 rw [hv]
 unfold F84
 have hcl : (Yt (p.A4 ++ B3 b p.Time p.Power (l ++ m))).length <= 10000000 := by
  unfold Yt
  rw [List.length_drop]; omega
 rw [Lc (by omega)]
 simp only [Option.bind_some]
 rw [Bf (n := p.Time + 1) (by omega), eP]
 exact Ok.pure ⟨rfl, m, ros', by omega, g2, g3, by rw [List.append_assoc]⟩
def Par {α : Type} (o : Option α) (P : α -> Prop) : Prop := ∀ r, o = some r -> P r
theorem Par.pure {α : Type} {x : α} {P : α -> Prop} (h : P x) : Par (some x) P := λ r e => by cases e; exact h
theorem Par.none {α : Type} {P : α -> Prop} : Par (none : Option α) P := λ _ e => by cases e
theorem Par.bind {α β : Type} {o : Option α} {f : α -> Option β} {P : β -> Prop} (h : ∀ x, o = some x -> Par (f x) P) : Par (o.bind f) P := by
 cases o with
 | none => exact Par.none
 | some x => exact h x rfl
theorem Par.cond {α : Type} {c : Bool} {x y : Option α} {P : α -> Prop} (h : Par x P) (k : Par y P) : Par (bif c then x else y) P := by
 cases c with
 | true => exact h
 | false => exact k
theorem Par.andThen {σ τ α : Type} {c : Option (Ctl σ τ)} {g : τ -> Option α} {f : σ -> Option α} {P : α -> Prop} (h : ∀ s, Par (f s) P) (k : ∀ v, Par (g v) P) : Par (andThen c g f) P := by
 cases c with
 | none => exact Par.none
 | some r =>
  cases r with
  | next s => exact h s
  | brk s => exact h s
  | ret v => exact k v
def Aey (p : Ab) (y : Int × A2) : Prop := y.2.Ar.Ah = p.Ah
theorem A4u {b : Aa} (h : Ax b) {p : Ab} (hp : Aw b p) (i : Int) : Ok (Z1 b p i) λ y => y.2 ≠ 0 \/ y.1.Ah = p.Ah.set i.toNat true := by
 have hn := hp.ncl
 unfold Z1
 rw [C_ h hp]
 simp only [Option.bind_some]
 refine (Atd h hp i).bind λ y hy => Ok.cond (λ hc => Ok.pure (.inl (by simpa using hc))) (λ hc => ?_)
 simp only [bne_eq_false_iff_eq] at hc
 rcases hy with hy | ⟨hr, hf⟩
 ·exact absurd hc hy
 ·refine (Ok.getI hr.1 (by omega)).bind λ _ _ => (Ok.setI hr.1 (by omega)).bind λ z hz => ?_
  obtain ⟨x, hx⟩ : ∃ x, b.Af[i.toNat]? = some x := ⟨_, List.getElem?_eq_getElem (by omega)⟩
  have hq := Auo hp hx (hf x hx)
  rw [← hz] at hq
  rw [Nv h hq]
  exact Ok.pure (.inr hz)
theorem A5n {b : Aa} (h : Ax b) {p : Ab} (hp : Aw b p) (i : Int) : Ok (Z0 b p i) λ y => y.2 ≠ 0 \/ y.1.Ah = p.Ah.set i.toNat false := by
 have hbl : p.Aq.length <= 1000 := by have := hp.brk.len; omega
 have hn := hp.ncl
 unfold Z0
 rw [C7 h hp, C_ h hp]
 simp only [Option.bind_some]
 refine Ok.cond (λ hc => by simp at hc) (λ _ => Ok.cond (λ _ => Ok.pure (.inl (by simp))) (λ hr => ?_))
 simp only [Aih, Bool.or_eq_false_iff, decide_eq_false_iff_not] at hr
 refine (Ok.getI (by omega) (by omega)).bind λ v _ => Ok.bind (P := λ _ => True) (Ok.gT (λ _ => Ok.triv (Ea hbl _ _)) λ _ => trivial) λ _ _ => ?_
 refine Ok.cond (λ _ => Ok.pure (.inl (by simp))) (λ _ => ?_)
 exact (Ok.getI (by omega) (by omega)).bind λ _ _ => (Ok.setI (by omega) (by omega)).bind λ z hz => Ok.pure (.inr hz)
theorem A07 {b : Aa} (h : Ax b) {p : Ab} (hp : Aw b p) (i n : Int) : Par (Zz b p i n) λ y => y.2 ≠ 0 \/ y.1.Ah = p.Ah := by
 unfold Zz
 rw [C7 h hp, C_ h hp]
 simp only [Option.bind_some, bne_self_eq_false, cond_false]
 refine (Par.cond (Par.pure (.inl (by simp))) (Par.bind λ y _ => Par.bind λ _ _ => Par.cond (Par.pure (.inl (by simp))) (Par.bind λ _ _ => Par.cond (Par.bind λ _ _ => Par.bind λ _ _ => Par.bind λ _ _ => Par.pure (.inr rfl)) (Par.bind λ _ _ => Par.bind λ _ _ => Par.pure (.inr rfl)))))
theorem doK {b : Aa} (h : Ax b) {p : Ab} (hp : Aw b p) (t : Int) (a : Ao) : Par (Ji ⟨b, p, t⟩ a) λ y => y.1 ≠ 0 \/ (a.Kind = 1 /\ y.2.Ar.Ah = p.Ah.set a.Unit.toNat true) \/ (a.Kind = 2 /\ y.2.Ar.Ah = p.Ah.set a.Unit.toNat false) \/ y.2.Ar.Ah = p.Ah := by
 unfold Ji
 cases q1 : (a.Kind == 1) with
 | true =>
  refine Par.bind λ y hy => Par.pure ?_
  rcases (A4u h hp a.Unit).get hy with e | e
  ·exact .inl e
  ·exact .inr (.inl ⟨by simpa using q1, e⟩)
 | false =>
 cases q2 : (a.Kind == 2) with
 | true =>
  refine Par.bind λ y hy => Par.pure ?_
  rcases (A5n h hp a.Unit).get hy with e | e
  ·exact .inl e
  ·exact .inr (.inr (.inl ⟨by simpa using q2, e⟩))
 | false =>
 simp only [cond_false]
 refine Par.cond (Par.bind λ y hy => Par.pure ?_) (Par.cond (Par.bind λ y hy => Par.pure (.inr (.inr (.inr ?_)))) (Par.cond (Par.bind λ y hy => Par.pure (.inr (.inr (.inr ?_)))) (Par.cond (Par.bind λ y hy => Par.pure (.inr (.inr (.inr ?_)))) (Par.cond (Par.bind λ y hy => Par.pure (.inr (.inr (.inr ?_)))) (Par.bind λ y hy => Par.pure (.inr (.inr (.inr ?_))))))))
 ·rcases A07 h hp a.Unit a.Value y hy with e | e
  ·exact .inl e
  ·exact .inr (.inr (.inr e))
 ·revert y hy
  show Par (M6 ⟨b, p, t⟩ a.Unit) (Aey p)
  unfold M6
  exact Par.bind λ _ _ => Par.bind λ _ _ => Par.cond (Par.pure rfl) (Par.bind λ _ _ => Par.bind λ _ _ => Par.cond (Par.bind λ _ _ => Par.pure rfl) (Par.bind λ _ _ => Par.pure rfl))
 ·revert y hy
  show Par (M5 ⟨b, p, t⟩ a.Unit) (Aey p)
  unfold M5
  exact Par.bind λ _ _ => Par.bind λ _ _ => Par.cond (Par.pure rfl) (Par.bind λ _ _ => Par.pure rfl)
 ·revert y hy
  show Par (M4 ⟨b, p, t⟩ a.Unit a.Value) (Aey p)
  unfold M4
  exact Par.bind λ _ _ => Par.cond (Par.pure rfl) (Par.bind λ _ _ => Par.bind λ _ _ => Par.pure rfl)
 ·revert y hy
  show Par (Ky ⟨b, p, t⟩) λ y => y.Ar.Ah = p.Ah
  unfold Ky
  exact Par.bind λ y hy => Par.andThen (λ _ => Par.pure ((Alz h hp).get hy).2.1) (λ _ => Par.none)
 ·revert y hy
  show Par (Gb ⟨b, p, t⟩ ⟨a.Value, a.Unit⟩ (a.Kind == 8)) (Aey p)
  unfold Gb
  exact Par.bind λ _ _ => Par.cond (Par.pure rfl) (Par.cond (Par.pure rfl) (Par.andThen (λ _ => Par.cond (Par.bind λ _ _ => Par.bind λ _ _ => Par.cond (Par.bind λ _ _ => Par.bind λ _ _ => Par.pure rfl) (Par.pure rfl)) (Par.pure rfl)) (λ _ => Par.none)))
theorem A96 {b : Aa} (h : Ax b) {p : Ab} (hp : Aw b p) (t : Int) (a : Ao) : (Bx b p t a).2 ≠ 0 \/ (a.Kind = 1 /\ (Bx b p t a).1.Ah = p.Ah.set a.Unit.toNat true) \/ (a.Kind = 2 /\ (Bx b p t a).1.Ah = p.Ah.set a.Unit.toNat false) \/ (Bx b p t a).1.Ah = p.Ah := by
 have key : Par (F83 b p t a) λ y => y.2 ≠ 0 \/ (a.Kind = 1 /\ y.1.Ah = p.Ah.set a.Unit.toNat true) \/ (a.Kind = 2 /\ y.1.Ah = p.Ah.set a.Unit.toNat false) \/ y.1.Ah = p.Ah := by
  unfold F83
  rw [C7 h hp, C_ h hp]
  simp only [Option.bind_some, bne_self_eq_false, cond_false]
  refine (Par.cond (Par.pure (.inl (by simp))) (Par.bind λ _ _ => Par.cond (Par.pure (.inl (by simp))) (Par.bind λ y hy => ?_)))
  have hd := doK h hp t a y hy
  cases hq : (y.1 != 0) with
  | true => exact Par.pure (.inl (by simpa using hq))
  | false =>
   refine Par.pure ?_
   rcases hd with e | e
   ·simp at hq; exact absurd hq e
   ·exact .inr e
 exact key _ (Aax h hp t a).1
def cl (C : List Bool) : Nat := C.count true
theorem uD : ∀ (C : List Bool) (i : Nat), (cl (C.set i false) <= cl C /\ cl (C.set i true) <= cl C + 1) /\ (C.getD i false = true -> cl (C.set i false) + 1 = cl C)
 | [], i => by simp [cl]
 | c :: C, 0 => by
  cases c <;> simp [cl]
 | c :: C, i + 1 => by
  obtain ⟨⟨h1, h2⟩, h3⟩ := uD C i
  unfold cl at h1 h2 h3 ⊢
  simp only [List.set_cons_succ, List.count_cons, List.getD_cons_succ]
  exact ⟨⟨by omega, by omega⟩, λ h => by have := h3 h; omega⟩
theorem Ann : ∀ (l : List Int) (C : List Bool), l.Nodup -> (∀ i, i ∈ l -> 0 <= i /\ C.getD i.toNat false = true) -> cl (G_ C l) + l.length = cl C
 | [], _, _, _ => rfl
 | i :: l, C, hn, hl => by
  have hi := hl i List.mem_cons_self
  have h1 := (uD C i.toNat).2 hi.2
  have h2 := Ann l (C.set i.toNat false) (List.nodup_cons.1 hn).2 λ j hj => by
   have hj2 := hl j (List.mem_cons_of_mem _ hj)
   refine ⟨hj2.1, ?_⟩
   have hne : i.toNat ≠ j.toNat := λ e => (List.nodup_cons.1 hn).1 (by
    have : i = j := by omega
    rw [this]; exact hj)
   rw [← hj2.2]
   simp only [List.getD, List.getElem?_set, if_neg hne]
  show cl (G_ (C.set i.toNat false) l) + (l.length + 1) = _
  omega
theorem Alh (b : Aa) (C : List Bool) (q : Ak -> Bool) (n : Nat) : (Cu b C q n).Nodup := by
 unfold Cu
 rw [List.nodup_iff_pairwise_ne, List.pairwise_map]
 exact ((List.nodup_iff_pairwise_ne.1 List.nodup_range).sublist List.filter_sublist).imp λ h e => h (by omega)
theorem Aqc (b : Aa) (C : List Bool) (q : Ak -> Bool) : cl (acC b C q) + (acA b C q).length = cl C := by
 have := Ann (Cu b C q b.Af.length) C (Alh b C q _) λ i hi => by
  obtain ⟨k, rfl, _, hc, _⟩ := Je.1 hi
  exact ⟨by omega, by rw [Int.toNat_natCast]; exact hc⟩
 unfold acC acA Ka
 rw [List.length_map]; exact this
theorem And (b : Aa) (p : Ab) (n : Nat) : ∀ (l : List Int) (z : List Int × List Ao), (G3 b p n l z).2.length <= z.2.length + l.length
 | [], _ => by simp [G3]
 | c :: l, z => by
  have := And b p n l (I8 b p n z c)
  have h2 : (I8 b p n z c).2.length <= z.2.length + 1 := by
   unfold I8; split <;> simp
  show (G3 b p n l (I8 b p n z c)).2.length <= _
  rw [List.length_cons]; omega
theorem Aff (b : Aa) (p : Ab) (n : Nat) : ∀ (l : List Int) (z : List Bool × List Ao), cl (Eb b p n l z).1 + (Eb b p n l z).2.length = cl z.1 + z.2.length
 | [], _ => rfl
 | c :: l, z => by
  have := Aff b p n l (G7 b p n z c)
  have h2 : cl (G7 b p n z c).1 + (G7 b p n z c).2.length = cl z.1 + z.2.length := by
   unfold G7
   split
   ·have := Aqc b z.1 (isC c)
    simp only [List.length_append]; omega
   ·rfl
  show cl (Eb b p n l (G7 b p n z c)).1 + (Eb b p n l (G7 b p n z c)).2.length = _
  omega
theorem Awh (b : Aa) (z : Ab × List Ao) (x : Aj) : cl (Hf b z x).1.Ah + (Hf b z x).2.length <= cl z.1.Ah + z.2.length + (Fm b x).length := by
 unfold Hf
 split
 ·have h1 := And b z.1 (Ou x) (Fm b x) (z.1.As, z.2)
  have h2 := Aff b (B4 z.1 (Fy b x z).1) (Ou x) (Fm b x) (z.1.Ah, (Fy b x z).2)
  show cl (Jq b x z).1 + (Jq b x z).2.length <= _
  have h3 : (Fy b x z).2.length <= z.2.length + (Fm b x).length := h1
  have h4 : cl (Jq b x z).1 + (Jq b x z).2.length = cl z.1.Ah + (Fy b x z).2.length := h2
  omega
 ·omega
theorem Agk (b : Aa) : ∀ (l : List Aj) (z : Ab × List Ao), cl (Gg b l z).1.Ah + (Gg b l z).2.length <= cl z.1.Ah + z.2.length + (l.map λ x => (Fm b x).length).sum
 | [], z => by simp [Gg]
 | x :: l, z => by
  have h1 := Agk b l (Hf b z x)
  have h2 := Awh b z x
  show cl (Gg b l (Hf b z x)).1.Ah + (Gg b l (Hf b z x)).2.length <= _
  simp only [List.map_cons, List.sum_cons]
  omega
theorem Am8 : ∀ (l : List Aj) (o : List Int), l.Pairwise (λ x y => ∀ c, ¬ (Cx x c = true /\ Cx y c = true)) -> (l.map λ x => (o.filter (Cx x)).length).sum <= o.length
 | [], o, _ => by simp
 | x :: l, o, hl => by
  obtain ⟨h1, h2⟩ := List.pairwise_cons.1 hl
  have ih := Am8 l (o.filter λ c => !Cx x c) h2
  have e : (l.map λ y => ((o.filter λ c => !Cx x c).filter (Cx y)).length) = l.map λ y => (o.filter (Cx y)).length := by
   refine List.map_congr_left λ y hy => ?_
   rw [List.filter_filter]
   congr 1
   refine List.filter_congr λ c _ => ?_
   have := h1 y hy c
   cases hx : Cx x c <;> cases hy2 : Cx y c <;> simp_all
  rw [e] at ih
  have hs : (o.filter (Cx x)).length + (o.filter λ c => !Cx x c).length = o.length := by
   rw [← List.countP_eq_length_filter, ← List.countP_eq_length_filter]
   have := List.length_eq_countP_add_countP (p := Cx x) (l := o)
   simpa using this.symm
  simp only [List.map_cons, List.sum_cons]
  omega
theorem Aej {b : Aa} (h : Ax b) (p : Ab) : (Bj b p).Pairwise λ x y => ∀ c, ¬ (Cx x c = true /\ Cx y c = true) := by
 rw [Gr h, List.pairwise_map]
 refine ((List.nodup_iff_pairwise_ne.1 List.nodup_range).sublist List.filter_sublist).imp ?_
 rintro f g hfg c ⟨hx, hy⟩
 obtain ⟨i, hi, e1⟩ := List.any_eq_true.1 hx
 obtain ⟨j, hj, e2⟩ := List.any_eq_true.1 hy
 obtain ⟨k, hk, rfl⟩ := List.mem_map.1 hi
 obtain ⟨m, hm, rfl⟩ := List.mem_map.1 hj
 have g1 := (List.mem_filter.1 hk).2
 have g2 := (List.mem_filter.1 hm).2
 simp only [beq_iff_eq] at e1 e2 g1 g2
 have : k = m := by omega
 subst this
 rw [g1] at g2
 simp only [Option.some.injEq] at g2
 omega
theorem A0n (b : Aa) (p : Ab) : cl (Jg b p).Ah + (Rb b p).length = cl p.Ah := by
 have h1 := Aqc b p.Ah (C6 p)
 have h2 := Aqc b (Ij b p).Ah (Ee b (Ij b p))
 show cl (acC b (Ij b p).Ah (Ee b (Ij b p))) + (acA b p.Ah (C6 p) ++ acA b (Ij b p).Ah (Ee b (Ij b p))).length = _
 have h3 : cl (Ij b p).Ah = cl (acC b p.Ah (C6 p)) := rfl
 rw [List.length_append]; omega
theorem Azu {b : Aa} (h : Ax b) (p : Ab) : cl (Tg b p).Ah + (Ej b p).length <= cl p.Ah + b.Ae.length := by
 have h1 := Agk b (Bj b (Jg b p)) (Jg b p, Rb b p)
 have h2 := Am8 (Bj b (Jg b p)) (Jt b) (Aej h _)
 have h3 := A0n b p
 have h4 := zU h
 show cl (Agm b p).1.Ah + (Agm b p).2.length <= _
 unfold Agm
 have h5 : ((Bj b (Jg b p)).map λ x => (Fm b x).length).sum = ((Bj b (Jg b p)).map λ x => ((Jt b).filter (Cx x)).length).sum := rfl
 simp only at h1
 omega
theorem A0i {b : Aa} (h : Ax b) {p : Ab} (hp : Aw b p) (T : Int) (a : Ao) : cl (doP b p T a).Ah + (doE b p T a).length <= cl p.Ah + b.Ae.length + 2 := by
 unfold doP doE
 by_cases he : Mq b p T a = 0
 ·rw [if_pos he, if_pos he]
  have h1 := Azu h (H8 b p T a)
  have h2 : cl (H8 b p T a).Ah <= cl p.Ah + 1 := by
   rcases A96 h hp T a with e | ⟨_, e⟩ | ⟨_, e⟩ | e
   ·exact absurd (T6 h hp he).2.1 e
   ·unfold H8; rw [e]; exact (uD p.Ah a.Unit.toNat).1.2
   ·unfold H8; rw [e]; have := (uD p.Ah a.Unit.toNat).1.1; omega
   ·unfold H8; rw [e]; omega
  simp only [List.length_cons, List.length_map]
  omega
 ·rw [if_neg he, if_neg he]
  simp; omega
theorem Agh {b : Aa} (h : Ax b) (T : Int) : ∀ (l : List Ao) {p : Ab}, Aw b p -> cl (Bq b T p l).Ah + (B3 b T p l).length <= cl p.Ah + (b.Ae.length + 2) * l.length
 | [], _, _ => by simp [Bq, B3]
 | a :: l, p, hp => by
  have h1 := A0i h hp T a
  have h2 := Agh h T l (qX h hp T a)
  show cl (Bq b T (doP b p T a) l).Ah + (doE b p T a ++ B3 b T (doP b p T a) l).length <= _
  rw [List.length_append, List.length_cons, Nat.mul_add, Nat.mul_one]
  omega
theorem A6p (C : List Bool) : cl C <= C.length := List.count_le_length
theorem A5h {b : Aa} (h : Ax b) {s : Ai} (hs : Bw s) {k : Int} (hk : 0 <= k /\ k <= 100) : Ok (yG s b k) λ y => (y.1.length : Int) <= k /\ Bw y.2 := by
 unfold yG
 have e : w64 (k + 1) = k + 1 := Bf (by omega)
 rw [e]
 refine (E_ hs (k + 1) (by omega) (by omega)).bind λ y hy => ?_
 refine Ok.andThen (A := λ s => (s.2.2.2.length : Int) <= k /\ Bw ⟨s.2.1, s.2.2.1⟩) (B := λ (_ : Unit) => False) ?_ (λ s hs => Ok.pure hs) (λ _ h => h.elim)
 refine Ok.whileN (λ s => (0 <= s.1 /\ s.1 <= 200 /\ s.1 + (s.2.2.2.length : Int) <= k) /\ Bw ⟨s.2.1, s.2.2.1⟩) (λ s => s.1.toNat) _ _ ?_ ?_ ?_
 ·exact ⟨⟨by dsimp only; omega, by dsimp only; omega, by simp; omega⟩, hy.1⟩
 ·dsimp only; omega
 ·rintro ⟨i, L, a, l⟩ ⟨⟨g1, g2, g3⟩, g4⟩
  dsimp only at g1 g2 g3 g4
  unfold R5
  dsimp only
  refine Ok.cond (λ hq => ?_) (λ _ => Ok.brk ⟨by dsimp only; omega, g4⟩)
  simp only [decide_eq_true_eq] at hq
  have e1 : w64 (i - 1) = i - 1 := Bf (by omega)
  rw [e1]
  refine (A5i h g4).bind λ u hu => (Ok.appI (by simp; omega)).bind λ w hw => Ok.next ⟨⟨⟨by dsimp only; omega, by dsimp only; omega, by rw [hw]; simp; omega⟩, hu⟩, by dsimp only; omega⟩
theorem Azm {b : Aa} (h : Ax b) {y : Bh} (hy : Iw y) {p : A0} (hp : Pq b y p) (hT : p.Time <= 1000) (he : p.A4.length <= 200) {l : List Ao} (hl : l.length <= 10) :
  Ok (F11 b y p l) λ z => z.2.2 = 0 /\ ∃ (m : List Ao) (ros' : List Az), m.length <= 2 * b.Am.toNat /\ (ros'.length = b.Am.toNat /\ ∀ x, x ∈ ros' -> Fu p.Time x) /\ (y.Delay = 600 -> p.Time <= 500 -> m = []) /\
   z.1 = ⟨p.Time + 1, wtP b (Bq b p.Time p.Power (l ++ m)) p.Time, ros', Yt (p.A4 ++ B3 b p.Time p.Power (l ++ m))⟩ /\ z.2.1 = B3 b p.Time p.Power (l ++ m) := by
 unfold F11
 refine (Azj h hy hp hT he hl).bind λ r hr => ?_
 obtain ⟨h1, m, ros', g1, g2, g3, g4⟩ := hr
 refine Ok.cond (λ hc => by rw [h1] at hc; simp at hc) (λ _ => Ok.pure ⟨rfl, m, ros', g1, g2, g3, ?_⟩)
 rw [g4]
 exact ⟨rfl, rfl⟩
theorem Axr {b : Aa} {p : Ab} {T : Int} {a : Ao} : ∀ x, x ∈ doE b p T a -> x.Time = T := by
 intro x hx
 unfold doE at hx
 rcases List.mem_cons.1 hx with rfl | hx
 ·rfl
 ·split at hx
  ·obtain ⟨y, _, rfl⟩ := List.mem_map.1 hx; rfl
  ·cases hx
theorem Acw {b : Aa} {T : Int} : ∀ (l : List Ao) (p : Ab) (x : A9), x ∈ B3 b T p l -> x.Time = T
 | [], _, _, hx => by cases hx
 | a :: l, p, x, hx => by
  rcases List.mem_append.1 hx with hx | hx
  ·exact Axr x hx
  ·exact Acw l _ x hx
theorem Agg {b : Aa} {T : Int} (m : List Ao) : ∀ (l : List Ao) (p : Ab), l.Sublist ((B3 b T p (l ++ m)).map (·.Act))
 | [], _ => List.nil_sublist _
 | a :: l, p => by
  show (a :: l).Sublist ((doE b p T a ++ B3 b T (doP b p T a) (l ++ m)).map (·.Act))
  unfold doE
  rw [List.map_append, List.map_cons, List.cons_append]
  exact (List.Sublist.trans (Agg m l (doP b p T a)) (List.sublist_append_right _ _)).cons_cons a
theorem Alk (l : List A9) (h : l.length <= 1000) : F12 l l = some true := by
 unfold F12
 rw [Da l 0 λ j x hj => ?_]
 ·simp [andThen]
 ·have hjl := (List.getElem?_eq_some_iff.1 hj).1
  unfold yE Azd
  rw [Nat.zero_add, C4 (by omega), Bm hj]
  simp
theorem Abp {α : Type} {a b : α} {l m : List α} (h : (a :: l).Sublist (b :: m)) : (a :: l).Sublist m \/ (a = b /\ l.Sublist m) := by
 cases h with
 | cons _ h => exact .inl h
 | cons_cons _ h => exact .inr ⟨rfl, h⟩
theorem qN {y3 : Aa × Bh × A0 × Ai} {y5 : (List Ao) × Ai} (hl : y5.1.length <= 1000) : ∀ (es : List A9) (i k : Nat), (∀ x, x ∈ es -> x.Time = y3.2.2.1.Time) -> k <= y5.1.length -> (y5.1.drop k).Sublist (es.map (·.Act)) ->
  foldI (vS y3 y5) es i (k : Int) = some (.next (y5.1.length : Int))
 | [], i, k, _, hk, hs => by
  have : (y5.1.drop k).length = 0 := by
   have := hs.length_le
   simpa using this
  rw [List.length_drop] at this
  have e : k = y5.1.length := by omega
  rw [e]; rfl
 | e :: es, i, k, ht, hk, hs => by
  have h1 := ht e List.mem_cons_self
  have h2 : ∀ x, x ∈ es -> x.Time = y3.2.2.1.Time := λ x hx => ht x (List.mem_cons_of_mem _ hx)
  unfold foldI vS
  rw [h1]
  simp only [bne_self_eq_false, cond_false]
  by_cases hlt : k < y5.1.length
  ·have hg : y5.1[k]? = some y5.1[k] := List.getElem?_eq_getElem hlt
   have hd : y5.1.drop k = y5.1[k] :: y5.1.drop (k + 1) := List.drop_eq_getElem_cons hlt
   have e1 : decide ((k : Int) < (y5.1.length : Int)) = true := decide_eq_true (by omega)
   have e2 : A3 [(decide ((k : Int) < (y5.1.length : Int)), true)] (getI y5.1 (k : Int)) default = some y5.1[k] := by rw [e1, Bm hg]; rfl
   rw [e2]
   simp only [Option.bind_some]
   rw [hd, List.map_cons] at hs
   cases hq : Aaw y5 (k : Int) e y5.1[k] with
   | true =>
    have e3 : w64 ((k : Int) + 1) = ((k + 1 : Nat) : Int) := by rw [Bf (by omega)]; omega
    simp only [cond_true, e3]
    refine qN hl es (i + 1) (k + 1) h2 (by omega) ?_
    rcases Abp hs with h | ⟨_, h⟩
    ·exact (List.sublist_cons_self _ _).trans h
    ·exact h
   | false =>
    simp only [cond_false]
    refine qN hl es (i + 1) k h2 hk ?_
    rw [hd]
    rcases Abp hs with h | ⟨h, _⟩
    ·exact h
    ·exfalso
     rw [h] at hq
     simp [Aaw] at hq
     omega
  ·have e0 : k = y5.1.length := by omega
   have e1 : decide ((k : Int) < (y5.1.length : Int)) = false := decide_eq_false (by omega)
   have e2 : A3 [(decide ((k : Int) < (y5.1.length : Int)), true)] (getI y5.1 (k : Int)) default = some default := by rw [e1]; rfl
   rw [e2]
   have e3 : Aaw y5 (k : Int) e default = false := by
    unfold Aaw; rw [e1]; rfl
   simp only [Option.bind_some, e3, cond_false]
   refine qN hl es (i + 1) k h2 hk ?_
   rw [e0, List.drop_length]
   exact List.nil_sublist _
theorem plantNotes_law (t : List Int) : F3 t = some true := by
 refine Ok.eq ?_
 unfold F3
 refine (A5e t).bind λ s hs => (Av6 hs).bind λ w hw => ?_
 have h := hw.1.ok
 have hbu := hw.1.buses
 have hco := hw.1.col
 have hbr := hw.1.brl
 have hbu1 := h.buses
 obtain ⟨hmk, hty, ⟨hpl, htm, hev, _⟩, hsr⟩ := hw
 have hp := hpl w.2.1
 refine (A5h h hsr (k := 5) (by omega)).bind λ l hl => ?_
 refine (Azm h hty hp (by omega) (by rw [hev]; simp) (l := l.1) (by omega)).bind λ z hz => ?_
 obtain ⟨h1, m, ros', g1, ⟨g2, _⟩, _, g3, g4⟩ := hz
 have hcnt := Agh h w.2.2.1.Time (l.1 ++ m) hp.st
 have hcl := A6p w.2.2.1.Power.Ah
 have hnc := hp.st.ncl
 have hlm : (l.1 ++ m).length <= 13 := by rw [List.length_append]; omega
 have hmul : (w.1.Ae.length + 2) * (l.1 ++ m).length <= 7 * 13 := Nat.mul_le_mul (by omega) hlm
 have hE : (B3 w.1 w.2.2.1.Time w.2.2.1.Power (l.1 ++ m)).length <= 150 := by omega
 have hcut : Yt (w.2.2.1.A4 ++ B3 w.1 w.2.2.1.Time w.2.2.1.Power (l.1 ++ m)) = B3 w.1 w.2.2.1.Time w.2.2.1.Power (l.1 ++ m) := by
  rw [hev, List.nil_append]
  unfold Yt
  have : (B3 w.1 w.2.2.1.Time w.2.2.1.Power (l.1 ++ m)).length - 200 = 0 := by omega
  rw [this]; rfl
 rw [hcut] at g3
 have hz1 : z.1.A4 = B3 w.1 w.2.2.1.Time w.2.2.1.Power (l.1 ++ m) := by rw [g3]
 have hz2 : z.1.A5.length = w.1.Am.toNat := by rw [g3]; exact g2
 refine Ok.cond (λ hc => by rw [h1] at hc; simp at hc) (λ _ => ?_)
 rw [g4, hz1]
 refine Ok.andThen (A := λ s => s = (l.1.length : Int)) (B := λ (_ : Bool) => False) ?_ (λ s hs => ?_) (λ _ h => h.elim)
 ·have := qN (y3 := w) (y5 := l) (by omega) (B3 w.1 w.2.2.1.Time w.2.2.1.Power (l.1 ++ m)) 0 0 (λ x hx => Acw _ _ x hx) (by omega) (by rw [List.drop_zero]; exact Agg m l.1 _)
  exact ⟨_, this, rfl⟩
 subst hs
 have e1 : (((l.1.length : Int) == (l.1.length : Int)) && (decide (((B3 w.1 w.2.2.1.Time w.2.2.1.Power (l.1 ++ m)).length : Int) >= ((B3 w.1 w.2.2.1.Time w.2.2.1.Power (l.1 ++ m)).length : Int)))) = true := by simp
 rw [e1]
 have e2 : ∀ n : Int, w64 (n - n) = 0 := λ n => by rw [Int.sub_self]; exact Bf (by omega)
 rw [e2]
 refine Ok.bind (P := λ v => v = B3 w.1 w.2.2.1.Time w.2.2.1.Power (l.1 ++ m)) ?_ λ v hv => ?_
 ·refine (Ok.cutI (l := B3 w.1 w.2.2.1.Time w.2.2.1.Power (l.1 ++ m)) (lo := 0) (hi := ((B3 w.1 w.2.2.1.Time w.2.2.1.Power (l.1 ++ m)).length : Int)) (by omega) (by omega) (by omega)).mono λ v hv => ?_
  rw [hv, Int.toNat_natCast, List.take_length]; rfl
 subst hv
 refine Ok.bind (P := λ v => v = true) (Ok.of_eq (Alk _ (by omega)) rfl) λ v hv => ?_
 subst hv
 have e3 : (((true && true) && ((z.1.A5.length : Int) == w.1.Am))) = true := by
  simp only [Bool.and_self, Bool.true_and, beq_iff_eq]; omega
 rw [e3, A04]
 refine Ok.bind (P := λ v => v = true) (Ok.pure rfl) λ v hv => ?_
 subst hv
 exact Ok.pure rfl
end Go.Proofs.YthgnbpdjncbkfaaGreat
