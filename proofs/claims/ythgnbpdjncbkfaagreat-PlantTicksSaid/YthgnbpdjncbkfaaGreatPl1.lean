import Derived.Test.YthgnbpdjncbkfaaGreatPl0
namespace Go.Proofs.YthgnbpdjncbkfaaGreat
open Go.SL
theorem J8 {b : Aa} (h : Ay b) (i : Int) : Vg b i = some (Hz b i) := by
 have hb := h.brl
 unfold Vg yD
 refine Ok.eq ?_
 refine Ok.bind (P := λ y => y = (Hz b i, i)) ?_ (λ y hy => Ok.pure (by rw [hy]))
 have key := J4 (f := λ n (a : Ak) (z : Unit) => (bif (a.Kind == 2 && a.B == i) then some (.ret (cnt 0 n)) else some (.next ()) : Option (Ctl Unit Int))) (p := λ x : Ak => x.Kind == 2 && x.B == i) (λ _ _ => rfl) b.Ag 0 (by omega)
 have : ∀ (xs : List Ak) (k : Nat), foldI (Kt i) xs k () = match foldI (λ n (a : Ak) (z : Unit) => (bif (a.Kind == 2 && a.B == i) then some (.ret (cnt 0 n)) else some (.next ()) : Option (Ctl Unit Int))) xs k () with
   | some (.ret r) => some (.ret (r, i))
   | some (.next _) => some (.next ())
   | some (.brk _) => some (.brk ())
   | none => none := by
  intro xs
  induction xs with
  | nil => intro k; rfl
  | cons x xs ih =>
   intro k
   simp only [foldI, Kt, yC]
   cases hq : (x.Kind == 2 && x.B == i) with
   | true => rfl
   | false => simp only [cond_false]; exact ih (k + 1)
 rw [this, key]
 unfold Hz On
 cases b.Ag.findIdx? (λ x : Ak => x.Kind == 2 && x.B == i) with
 | none => exact Ok.pure rfl
 | some j => exact Ok.pure rfl
theorem Ay5 {b : Aa} (h : Ay b) {p : Ab} (hp : Aw b p) {n : Nat} (hn : n < b.An.toNat) : Gh b p (n : Int) = some (isl b p (Gx b p n), true) := of_eq h hp hn
theorem A5s {l : List Int} {x : Int × Int} (h : x ∈ bw l) : x.2 ∈ l := by
 unfold bw F7 at h
 obtain ⟨j, hj, rfl⟩ := List.mem_map.1 h
 have := List.mem_range.1 hj
 dsimp only
 rw [List.getElem?_eq_getElem (by omega)]
 exact List.getElem_mem _
theorem A1y {b : Aa} (h : Ay b) {p : Ab} (hp : Aw b p) (y : Bf) {n : Nat} (hn : n < b.An.toNat) : Ok (Aks b y p (n : Int)) λ _ => True := by
 have hbr := hp.brk.len
 obtain ⟨l1, _⟩ := Wi h hp hn
 obtain ⟨r1, _⟩ := Nr h hp hn
 unfold Aks
 rw [Ay5 h hp hn]
 simp only [Option.bind_some]
 refine Ok.cond (λ _ => Ok.pure trivial) (λ _ => ?_)
 refine Ok.andThen (A := λ _ => True) (B := λ _ => True) ?_ (λ _ _ => Ok.pure trivial) (λ _ _ => Ok.pure trivial)
 refine Ok.foldE (λ _ _ => True) _ 0 _ trivial (λ j x s hx _ => ?_) (λ _ _ => trivial)
 have hin := Ang (A5s (List.mem_of_getElem? hx))
 unfold W8
 rw [J8 h]
 simp only [Option.bind_some]
 rw [Eu (by omega)]
 simp only [Option.bind_some]
 refine Ok.cond (λ _ => Ok.next trivial) (λ _ => ?_)
 rw [l1, r1]
 simp only [Option.bind_some]
 refine (Ok.getI hin.1 hin.2).bind λ v _ => Ok.cond (λ _ => Ok.ret trivial) (λ _ => Ok.next trivial)
theorem A0y {b : Aa} (h : Ay b) {p : Ab} (hp : Aw b p) (y : Bf) {n : Nat} (hn : n < b.An.toNat) : Ok (Akr b y p (n : Int)) λ _ => True := by
 obtain ⟨l1, _⟩ := Wi h hp hn
 obtain ⟨r1, _⟩ := Nr h hp hn
 have hl := Aan h hp hn
 unfold Akr
 rw [l1, r1, hl]
 refine (Ok.gT (λ _ => Ok.triv rfl) λ _ => trivial).bind (P := λ _ => True) λ _ _ => ?_
 refine (Ok.gT (λ _ => Ok.triv rfl) λ _ => trivial).bind (P := λ _ => True) λ _ _ => ?_
 refine (Ok.gT (λ _ => Ok.triv rfl) λ _ => trivial).bind (P := λ _ => True) λ _ _ => Ok.pure trivial
theorem Axi {b : Aa} (h : Ay b) (p : Ab) (f : Nat) : (isl b p f).An.length <= 1000 /\ (isl b p f).Ac.length <= 1000 := by
 have h1 := h.buses
 have h2 := h.sol
 have h3 : (isl b p f).An.length <= b.An.toNat := De _ _
 have h4 : (isl b p f).Ac.length <= b.Ac.length := De _ _
 omega
theorem Axn {b : Aa} (h : Ay b) {p : Ab} (hp : Aw b p) (f : Nat) {i : Int} (h0 : 0 <= i) (h1 : i < b.Ac.length) : Ok (Akk b p (isl b p f) i) λ _ => True := by
 have hbr := hp.brk.len
 have hns := hp.nso
 obtain ⟨w1, w2⟩ := Axi h p f
 obtain ⟨j, x, e, hx, _, _, hj⟩ := Jg h h0 h1
 unfold Akk
 rw [J8 h, e]
 simp only [Option.bind_some]
 rw [Bj hx]
 simp only [Option.bind_some]
 simp only [Eu (show p.Ao.length <= 1000 by omega), Option.bind_some]
 refine (Ok.gT (λ _ => Ok.triv rfl) λ _ => trivial).bind (P := λ _ => True) λ _ _ => ?_
 refine (Ok.gT (λ _ => Ok.triv rfl) λ _ => trivial).bind (P := λ _ => True) λ _ _ => ?_
 refine (Ok.gT (λ _ => Ok.triv (Dt _ _ (by omega))) λ _ => trivial).bind (P := λ _ => True) λ _ _ => ?_
 refine (Ok.gT (λ _ => Ok.triv (Dt _ _ (by omega))) λ _ => trivial).bind (P := λ _ => True) λ _ _ => ?_
 refine (Ok.gT (λ _ => Ok.getB h0 (by omega)) λ _ => trivial).bind (P := λ _ => True) λ _ _ => Ok.pure trivial
theorem A0o {b : Aa} (h : Ay b) {p : Ab} (hp : Aw b p) {n : Nat} (hn : n < b.An.toNat) : Ok (Akq b p (n : Int)) λ v => v.2 = true -> 0 <= v.1 /\ v.1 < b.Ac.length := by
 have hns := hp.nso
 have hsl := h.sol
 unfold Akq
 rw [Ay5 h hp hn]
 simp only [Option.bind_some]
 refine Ok.cond (λ _ => Ok.pure λ hh => by cases hh) (λ _ => ?_)
 refine Ok.andThen (A := λ _ => True) (B := λ v : Int × Bool => v.2 = true -> 0 <= v.1 /\ v.1 < b.Ac.length) ?_ (λ _ _ => Ok.pure λ hh => by cases hh) (λ v hv => Ok.pure hv)
 refine Ok.foldI0 (I := λ _ _ => True) trivial (λ j x s hx _ => ?_) (λ _ _ => trivial)
 unfold W7
 refine Ok.inner (A := λ _ => True) (B := λ v : Int × Bool => v.2 = true -> 0 <= v.1 /\ v.1 < b.Ac.length) ?_ (λ _ _ => Ok.next trivial) (λ v hv => Ok.ret hv)
 refine Ok.foldI0 (I := λ _ _ => True) trivial (λ k a s ha _ => ?_) (λ _ _ => trivial)
 have hk : k < p.Ac.length := (List.getElem?_eq_some_iff.1 ha).1
 unfold W6
 rw [Cq (by omega)]
 refine (Ok.gT (λ _ => Axn h hp _ (by omega) (by omega)) λ _ => trivial).bind (P := λ _ => True) λ _ _ => ?_
 refine Ok.cond (λ _ => Ok.ret λ _ => ?_) (λ _ => Ok.next trivial)
 dsimp only; omega
theorem Ar2 {b : Aa} (h : Ay b) {p : Ab} (hp : Aw b p) (n : Int) {i : Int} (h0 : 0 <= i) (h1 : i < b.Ac.length) : Ok (Vh b p n i) λ v => v.1.length <= 2 := by
 have hns := hp.nso
 unfold Vh
 refine (Ok.getI h0 (by omega)).bind λ x _ => ?_
 refine Ok.cond (λ _ => Ok.pure (by simp)) (λ _ => Ok.cond (λ _ => ?_) (λ _ => Ok.pure (by simp)))
 refine (Nw h hp n).bind λ v _ => ?_
 unfold Abe
 rw [Db h hp, Mx h hp, J8 h]
 exact Ok.pure (by simp)
theorem Af7 {T o : Int} (ho : -1 <= o /\ o <= T) (hT : 0 <= T) (v : Bool) : -1 <= H7 o v T /\ H7 o v T <= T := by
 unfold H7
 cases v with
 | false => simp only [Bool.not_false, cond_true]; omega
 | true =>
  simp only [Bool.not_true, cond_false]
  cases hq : (o == -1) with
  | true => simp only [cond_true]; omega
  | false => simp only [cond_false]; exact ho
theorem As8 {b : Aa} (h : Ay b) {y : Bf} (hy : H1 y) {p : Ab} (hp : Aw b p) {n : Nat} (hn : n < b.An.toNat) {T : Int} (hT : 0 <= T /\ T <= 2147483648) {r : Az} (hr : Fv T r) :
  Ok (Vq b y p (n : Int) T r) λ z => Fv T z.1 /\ z.2.1.length <= 2 /\ (y.Delay = 600 -> T <= 500 -> z.2.1 = []) := by
 obtain ⟨hr1, hr2⟩ := hr
 have hbu := h.buses
 unfold Vq
 rw [Db h hp]
 simp only [Option.bind_some]
 refine Ok.cond (λ hc => by simp at hc) (λ _ => Ok.cond (λ hc => ?_) (λ _ => Ok.cond (λ hc => ?_) (λ _ => ?_)))
 ·exfalso
  simp only [Air, Xs hy, Ky, Bool.not_true, Bool.false_or, Bool.or_eq_true, decide_eq_true_eq, Bool.not_eq_true', Bool.and_eq_false_iff, decide_eq_false_iff_not] at hc
  omega
 ·exfalso
  simp only [Aiq, Bool.or_eq_true, decide_eq_true_eq] at hc
  omega
 refine (A1y h hp y hn).bind λ v6 _ => (A0y h hp y hn).bind λ v8 _ => (A0o h hp hn).bind λ v10 h10 => ?_
 have s1 := Af7 hr1 hT.1 v8
 have s2 := Af7 hr2 hT.1 v6.2
 refine Ok.cond (λ hc => ?_) (λ hc => ?_)
 ·simp only [Aip, Bool.and_eq_true, decide_eq_true_eq] at hc
  obtain ⟨⟨c1, c2⟩, c3⟩ := hc
  have hin := h10 c1
  refine (Ar2 h hp _ hin.1 hin.2).bind λ v13 h13 => ?_
  refine Ok.andThen (A := λ s => -1 <= s /\ s <= T) (B := λ (_ : Unit) => False) ?_ (λ s hs => Ok.pure ⟨⟨hs, s2⟩, h13, λ hd ht => ?_⟩) (λ _ h => h.elim)
  ·unfold Vp
   refine Ok.cond (λ _ => Ok.nextE (by omega)) (λ _ => Ok.nextE s1)
  ·exfalso
   rw [Bb (by omega)] at c3
   omega
 ·refine Ok.cond (λ hc => ?_) (λ _ => Ok.pure ⟨⟨s1, s2⟩, by simp, λ _ _ => rfl⟩)
  rw [J8 h]
  simp only [Option.bind_some]
  refine Ok.pure ⟨⟨s1, by dsimp only; omega⟩, by simp, λ hd ht => ?_⟩
  exfalso
  simp only [Aio, Bool.and_eq_true, decide_eq_true_eq] at hc
  have c3 := hc.2
  rw [Bb (by omega)] at c3
  omega
def Bl (b : Aa) (T : Int) (p : Ab) (l : List Ap) : Ab := l.foldl (λ q a => doP b q T a) p
def B5 (b : Aa) (T : Int) : Ab -> List Ap -> List Bg
 | _, [] => []
 | p, a :: l => doE b p T a ++ B5 b T (doP b p T a) l
def Dc (b : Aa) (T : Int) : Ab -> List Ap -> List Ab
 | _, [] => []
 | p, a :: l => doS b p T a ++ Dc b T (doP b p T a) l
theorem Fb {b : Aa} (h : Ay b) (T : Int) : ∀ (l : List Ap) {p : Ab}, Aw b p -> Aw b (Bl b T p l)
 | [], _, hp => hp
 | a :: l, _, hp => Fb h T l (Ah9 h hp T a)
theorem Ql (b : Aa) (T : Int) (p : Ab) (l m : List Ap) : Bl b T p (l ++ m) = Bl b T (Bl b T p l) m := by unfold Bl; rw [List.foldl_append]
theorem Mc (b : Aa) (T : Int) : ∀ (l m : List Ap) (p : Ab), B5 b T p (l ++ m) = B5 b T p l ++ B5 b T (Bl b T p l) m
 | [], _, _ => rfl
 | a :: l, m, p => by
  show doE b p T a ++ B5 b T (doP b p T a) (l ++ m) = doE b p T a ++ B5 b T (doP b p T a) l ++ B5 b T (Bl b T (doP b p T a) l) m
  rw [Mc b T l m, List.append_assoc]
theorem Qk (b : Aa) (T : Int) : ∀ (l m : List Ap) (p : Ab), Dc b T p (l ++ m) = Dc b T p l ++ Dc b T (Bl b T p l) m
 | [], _, _ => rfl
 | a :: l, m, p => by
  show doS b p T a ++ Dc b T (doP b p T a) (l ++ m) = doS b p T a ++ Dc b T (doP b p T a) l ++ Dc b T (Bl b T (doP b p T a) l) m
  rw [Qk b T l m, List.append_assoc]
theorem Aax {b : Aa} (h : Ay b) {p : Ab} (hp : Aw b p) (T : Int) (a : Ap) : (doE b p T a).length <= 10001 := by
 unfold doE
 split
 ·rename_i he
  have := (Lh h (qZ h hp he).1).2.2
  simp; omega
 ·simp
theorem A06 {b : Aa} (h : Ay b) {p : Ab} (hp : Aw b p) (T : Int) (a : Ap) : (doS b p T a).length <= 10002 := by
 unfold doS
 split
 ·rename_i he
  have := (Lh h (qZ h hp he).1).2.2
  split <;> simp [Kl] <;> omega
 ·simp
theorem G5 {b : Aa} (h : Ay b) (T : Int) : ∀ (l : List Ap) {p : Ab}, Aw b p -> (B5 b T p l).length <= 10001 * l.length
 | [], _, _ => by simp [B5]
 | a :: l, p, hp => by
  have h1 := Aax h hp T a
  have h2 := G5 h T l (Ah9 h hp T a)
  simp only [B5, List.length_append, List.length_cons]
  omega
theorem Mb {b : Aa} (h : Ay b) (T : Int) : ∀ (l : List Ap) {p : Ab}, Aw b p -> (Dc b T p l).length <= 10002 * l.length
 | [], _, _ => by simp [Dc]
 | a :: l, p, hp => by
  have h1 := A06 h hp T a
  have h2 := Mb h T l (Ah9 h hp T a)
  simp only [Dc, List.length_append, List.length_cons]
  omega
abbrev Awj (b : Aa) (T : Int) (P : Ab) (ros : List Az) (evs ev : List Bg) (st : List Ab) :=
 (T, b.An, b.Ag, b.Ac, b.Ae, b.Phase, b.Aq, P.Ah, P.Ac, P.Ar, P.Ao, ros, evs, ev, st)
theorem Am6 {b : Aa} (h : Ay b) {T : Int} {P : Ab} (hp : Aw b P) (ros : List Az) (evs : List Bg) {ev : List Bg} {st : List Ab} {l : List Ap}
  (h1 : ev.length + 10001 * l.length <= 1000000) (h2 : st.length + 10002 * l.length <= 1000000) :
  Ok (foldI M4 l 0 (Awj b T P ros evs ev st)) (Dk (λ s => s = Awj b T (Bl b T P l) ros evs (ev ++ B5 b T P l) (st ++ Dc b T P l)) λ (_ : Unit) => False) := by
 refine Ok.foldI0 (I := λ j s => s = Awj b T (Bl b T P (l.take j)) ros evs (ev ++ B5 b T P (l.take j)) (st ++ Dc b T P (l.take j))) ?_ (λ j a s ha hs => ?_) λ s hs => ?_
 ·simp [Bl, B5, Dc]
 ·have hj : j < l.length := (List.getElem?_eq_some_iff.1 ha).1
  have hq := Fb h T (l.take j) hp
  have e1 := G5 h T (l.take j) hp
  have e2 := Mb h T (l.take j) hp
  rw [List.length_take] at e1 e2
  subst hs
  unfold M4
  have hd := Azd h (T := T) (ros := ros) (evs := evs) (ev := ev ++ B5 b T P (l.take j)) (sts := st ++ Dc b T P (l.take j)) hq (by simp; omega) (by simp; omega) a
  refine Ok.bind (P := λ y => y = _) (Ok.of_eq hd rfl) λ y hy => Ok.next ?_
  subst hy
  have e3 : Bl b T P (l.take (j + 1)) = doP b (Bl b T P (l.take j)) T a := by rw [Bk ha, Ql]; rfl
  have e4 : B5 b T P (l.take (j + 1)) = B5 b T P (l.take j) ++ doE b (Bl b T P (l.take j)) T a := by rw [Bk ha, Mc]; simp [B5]
  have e5 : Dc b T P (l.take (j + 1)) = Dc b T P (l.take j) ++ doS b (Bl b T P (l.take j)) T a := by rw [Bk ha, Qk]; simp [Dc]
  rw [e3, e4, e5, ← List.append_assoc, ← List.append_assoc]
 ·rw [List.take_length] at hs; exact hs
theorem Awp {b : Aa} (h : Ay b) {y : Bf} (hy : H1 y) {T : Int} (hT : 0 <= T /\ T <= 2147483648) {P : Ab} (hp : Aw b P) {ros : List Az} (hr : ros.length = b.An.toNat /\ ∀ x, x ∈ ros -> Fv T x)
  (evs : List Bg) {ev : List Bg} {st : List Ab} (h1 : ev.length <= 500000) (h2 : st.length <= 500000) :
  Ok (vD ⟨⟨T, P, ros, evs⟩, b, ev, st⟩ y) λ r => ∃ (l : List Ap) (ros' : List Az), r = ⟨⟨T, Bl b T P l, ros', evs⟩, b, ev ++ B5 b T P l, st ++ Dc b T P l⟩ /\
   l.length <= 2 * (Bq b P).length /\ (ros'.length = b.An.toNat /\ ∀ x, x ∈ ros' -> Fv T x) /\ (y.Delay = 600 -> T <= 500 -> l = []) := by
 have hbu := h.buses
 have hil := Hr b P
 unfold vD
 have e0 := A0x hbu
 have e1 : F89 b P = some (Bq b P) := Hs h hp
 refine Ok.bind (P := λ v => v = List.replicate b.An.toNat Je) (Ok.of_eq e0 rfl) λ v hv => ?_
 subst hv
 refine Ok.bind (P := λ v => v = Bq b P) (Ok.of_eq e1 rfl) λ v hv => ?_
 subst hv
 have hidle : ∀ x, x ∈ List.replicate b.An.toNat Je -> Fv T x := λ x hx => by
  rw [(List.mem_replicate.1 hx).2]
  exact ⟨by simp [Je]; omega, by simp [Je]; omega⟩
 refine Ok.andThen (A := λ s => ∃ (l : List Ap) (ros' : List Az), s = (T, b.An, b.Ag, b.Ac, b.Ae, b.Phase, b.Aq, ros', (Bl b T P l).Ah, (Bl b T P l).Ac, (Bl b T P l).Ar, (Bl b T P l).Ao, ros, evs, ev ++ B5 b T P l, st ++ Dc b T P l) /\
   l.length <= 2 * (Bq b P).length /\ (ros'.length = b.An.toNat /\ ∀ x, x ∈ ros' -> Fv T x) /\ (y.Delay = 600 -> T <= 500 -> l = [])) (B := λ (_ : Unit) => False) ?_ (λ s hs => ?_) (λ _ h => h.elim)
 ·refine Ok.foldI0 (I := λ j s => ∃ (l : List Ap) (ros' : List Az), s = (T, b.An, b.Ag, b.Ac, b.Ae, b.Phase, b.Aq, ros', (Bl b T P l).Ah, (Bl b T P l).Ac, (Bl b T P l).Ar, (Bl b T P l).Ao, ros, evs, ev ++ B5 b T P l, st ++ Dc b T P l) /\
   l.length <= 2 * j /\ (ros'.length = b.An.toNat /\ ∀ x, x ∈ ros' -> Fv T x) /\ (y.Delay = 600 -> T <= 500 -> l = [])) ⟨[], _, by simp [B5, Dc, Bl], by simp, ⟨by simp, hidle⟩, λ _ _ => rfl⟩ (λ j x s hx hI => ?_) λ s hI => hI
  obtain ⟨l, ros', rfl, g1, ⟨g2, g3⟩, g4⟩ := hI
  have hj : j < (Bq b P).length := (List.getElem?_eq_some_iff.1 hx).1
  have hin := Ahf h (List.mem_of_getElem? hx)
  obtain ⟨b0, b1⟩ := Y4 hin
  have hq := Fb h T l hp
  have l1 := G5 h T l hp
  have l2 := Mb h T l hp
  have stay : ∃ (l' : List Ap) (ros2 : List Az), (T, b.An, b.Ag, b.Ac, b.Ae, b.Phase, b.Aq, ros', (Bl b T P l).Ah, (Bl b T P l).Ac, (Bl b T P l).Ar, (Bl b T P l).Ao, ros, evs, ev ++ B5 b T P l, st ++ Dc b T P l) = (T, b.An, b.Ag, b.Ac, b.Ae, b.Phase, b.Aq, ros2, (Bl b T P l').Ah, (Bl b T P l').Ac, (Bl b T P l').Ar, (Bl b T P l').Ao, ros, evs, ev ++ B5 b T P l', st ++ Dc b T P l') /\
   l'.length <= 2 * (j + 1) /\ (ros2.length = b.An.toNat /\ ∀ x, x ∈ ros2 -> Fv T x) /\ (y.Delay = 600 -> T <= 500 -> l' = []) := ⟨l, ros', rfl, by omega, ⟨g2, g3⟩, g4⟩
  unfold Rt
  rw [b0]
  simp only [Option.bind_some]
  have hl := Aan h hq b1
  refine Ok.bind (P := λ _ => True) (Ok.gT (λ _ => Ok.triv hl) λ _ => trivial) λ v _ => ?_
  refine Ok.cond (λ _ => Ok.next stay) (λ _ => ?_)
  refine Ok.bind (P := λ r => Fv T r) ((Ok.getI (l := ros) (by omega) (by omega)).mono λ r hr' => hr.2 r (List.mem_of_getElem? hr')) λ r hr' => ?_
  refine Ok.bind (P := λ z => Fv T z.1 /\ z.2.1.length <= 2 /\ (y.Delay = 600 -> T <= 500 -> z.2.1 = [])) (As8 h hy hq b1 hT hr') λ z hz => ?_
  refine (Ok.getI (l := ros') (by omega) (by omega)).bind λ _ _ => (Ok.setI (l := ros') (x := z.1) (by omega) (by omega)).bind λ w hw => ?_
  subst hw
  refine Ok.inner (Am6 h hq ros evs (ev := ev ++ B5 b T P l) (st := st ++ Dc b T P l) (l := z.2.1) (by simp; omega) (by simp; omega)) (λ s hs => ?_) (λ _ h => h.elim)
  subst hs
  refine Ok.next ⟨l ++ z.2.1, ros'.set (Uc x : Int).toNat z.1, ?_, by simp; omega, ⟨by rw [List.length_set]; exact g2, λ r hr2 => ?_⟩, λ hd ht => by rw [g4 hd ht, hz.2.2 hd ht]; rfl⟩
  ·rw [Ql, Mc, Qk, List.append_assoc, List.append_assoc]
  ·rcases List.mem_or_eq_of_mem_set hr2 with hr2 | hr2
   ·exact g3 r hr2
   ·rw [hr2]; exact hz.1
 ·obtain ⟨l, ros', rfl, g⟩ := hs
  exact Ok.pure ⟨l, ros', rfl, g⟩
def wtP (b : Aa) (P : Ab) (T : Int) : Ab := (Bz b P T ⟨7, 0, 0⟩).1
theorem X3 {b : Aa} (h : Ay b) {P : Ab} (hp : Aw b P) {T : Int} (hT : 0 <= T /\ T <= 2147483648) : F83 b P T ⟨7, 0, 0⟩ = some (wtP b P T, 0) /\ Aw b (wtP b P T) /\ ∃ w, Kx ⟨b, P, T⟩ = some w /\ w.Au = wtP b P T := by
 obtain ⟨w, hw, hwo⟩ := Alx h hp T
 have key : F83 b P T ⟨7, 0, 0⟩ = some (w.Au, 0) := by
  refine Ok.eq ?_
  unfold F83
  rw [Db h hp, A1z, Dy h hp]
  simp only [Option.bind_some]
  refine Ok.cond (λ hc => by simp at hc) (λ _ => Ok.cond (λ hc => ?_) (λ _ => Ok.cond (λ hc => by simp at hc) (λ _ => ?_)))
  ·simp [Aqe] at hc; omega
  ·have : M8 ⟨b, P, T⟩ ⟨7, 0, 0⟩ = some (0, w) := by
    unfold M8
    rw [hw]; rfl
   rw [this]
   exact Ok.pure rfl
 have e : wtP b P T = w.Au := by unfold wtP Bz; rw [key]; rfl
 rw [e]
 exact ⟨key, hwo, w, hw, rfl⟩
def Aic (l : List Bg) : List Bg := l.drop (l.length - 200)
theorem Az7 {b : Aa} (h : Ay b) {y : Bf} (hy : H1 y) {p : A0} (hp : Po b y p) (hT : p.Time <= 1000) (he : p.A7.length <= 200) {l : List Ap} (hl : l.length <= 10) :
  Ok (F34 b y p l) λ z => z.2 = 0 /\ ∃ (m : List Ap) (ros' : List Az), m.length <= 2 * b.An.toNat /\ (ros'.length = b.An.toNat /\ ∀ x, x ∈ ros' -> Fv p.Time x) /\ (y.Delay = 600 -> p.Time <= 500 -> m = []) /\
   z.1 = ⟨⟨p.Time + 1, wtP b (Bl b p.Time p.Power (l ++ m)) p.Time, ros', Aic (p.A7 ++ B5 b p.Time p.Power (l ++ m))⟩, b, B5 b p.Time p.Power (l ++ m), [p.Power] ++ Dc b p.Time p.Power (l ++ m) ++ [wtP b (Bl b p.Time p.Power (l ++ m)) p.Time]⟩ := by
 have hbu := h.buses
 have hti := hp.time
 have hst := hp.st
 have hnr := hp.nro
 unfold F34
 rw [Aen h hy hp]
 simp only [Option.bind_some]
 refine Ok.cond (λ hc => by simp at hc) (λ _ => Ok.cond (λ hc => ?_) (λ _ => Ok.cond (λ hc => ?_) (λ _ => ?_)))
 ·simp only [decide_eq_true_eq] at hc; omega
 ·simp only [beq_iff_eq] at hc; omega
 rw [Aiz h hst (by omega) (by omega)]
 simp only [Option.bind_some]
 rw [A0r h hst (by simp)]
 simp only [Option.bind_some]
 refine Ok.andThen (Am6 h hst p.A5 p.A7 (ev := []) (st := [] ++ [p.Power]) (l := l) (by simp; omega) (by simp; omega)) (λ s hs => ?_) (λ _ h => h.elim)
 subst hs
 have hq := Fb h p.Time l hst
 have l1 := G5 h p.Time l hst
 have l2 := Mb h p.Time l hst
 refine Ok.bind (Awp h hy hti hq ⟨hnr, hp.ros⟩ p.A7 (ev := [] ++ B5 b p.Time p.Power l) (st := [] ++ [p.Power] ++ Dc b p.Time p.Power l) (by simp; omega) (by simp; omega)) λ r hr => ?_
 obtain ⟨m, ros', rfl, g1, g2, g3⟩ := hr
 have hil := Hr b (Bl b p.Time p.Power l)
 have hq2 := Fb h p.Time m hq
 have l3 := G5 h p.Time m hq
 have l4 := Mb h p.Time m hq
 obtain ⟨w1, w2, _⟩ := X3 h hq2 hti
 refine Ok.bind (P := λ v => v = (wtP b (Bl b p.Time (Bl b p.Time p.Power l) m) p.Time, (0 : Int))) (Ok.of_eq w1 rfl) λ v hv => ?_
 subst hv
 have k3 := Axc h (r := ⟨⟨p.Time, wtP b (Bl b p.Time (Bl b p.Time p.Power l) m) p.Time, ros', p.A7⟩, b, [] ++ B5 b p.Time p.Power l ++ B5 b p.Time (Bl b p.Time p.Power l) m, [] ++ [p.Power] ++ Dc b p.Time p.Power l ++ Dc b p.Time (Bl b p.Time p.Power l) m⟩) (p := wtP b (Bl b p.Time (Bl b p.Time p.Power l) m) p.Time) w2
 refine Ok.bind (P := λ v => v = _) (Ok.of_eq (k3 (by simp; omega)) rfl) λ v hv => ?_
 subst hv
 have eE : [] ++ B5 b p.Time p.Power l ++ B5 b p.Time (Bl b p.Time p.Power l) m = B5 b p.Time p.Power (l ++ m) := by rw [Mc]; rfl
 have eS : [] ++ [p.Power] ++ Dc b p.Time p.Power l ++ Dc b p.Time (Bl b p.Time p.Power l) m = [p.Power] ++ Dc b p.Time p.Power (l ++ m) := by rw [Qk]; simp
 rw [eE, eS]
 have eP : Bl b p.Time (Bl b p.Time p.Power l) m = Bl b p.Time p.Power (l ++ m) := (Ql _ _ _ _ _).symm
 have l5 := G5 h p.Time (l ++ m) hst
 simp only [List.length_append] at l5
 refine (Ok.appI (l := p.A7) (m := B5 b p.Time p.Power (l ++ m)) (by omega)).bind λ u hu => ?_
 subst hu
 have hlen : ((p.A7 ++ B5 b p.Time p.Power (l ++ m)).length : Int) <= 10000000 := by simp only [List.length_append]; omega
 have ew : w64 (((p.A7 ++ B5 b p.Time p.Power (l ++ m)).length : Int) - 200) = ((p.A7 ++ B5 b p.Time p.Power (l ++ m)).length : Int) - 200 := Bb (by omega)
 rw [ew]
 have en : (max 0 (((p.A7 ++ B5 b p.Time p.Power (l ++ m)).length : Int) - 200)).toNat = (p.A7 ++ B5 b p.Time p.Power (l ++ m)).length - 200 := by omega
 refine Ok.bind (P := λ v => v = Aic (p.A7 ++ B5 b p.Time p.Power (l ++ m))) ((Ok.cutI (by omega) (by omega) (by omega)).mono λ v hv => ?_) λ v hv => ?_
 ·rw [hv, Int.toNat_natCast, List.take_length, en]; rfl
 rw [hv]
 unfold F84
 have hcl : (Aic (p.A7 ++ B5 b p.Time p.Power (l ++ m))).length <= 10000000 := by
  unfold Aic
  rw [List.length_drop]; omega
 rw [Lc (by omega)]
 simp only [Option.bind_some]
 rw [Bb (n := p.Time + 1) (by omega), eP]
 exact Ok.pure ⟨rfl, m, ros', by omega, g2, g3, by rw [List.append_assoc]⟩
theorem A0a {b : Aa} (h : Ay b) {y : Bf} (hy : H1 y) {p : A0} (hp : Po b y p) (hT : p.Time <= 1000) (he : p.A7.length <= 200) {l : List Ap} (hl : l.length <= 10) :
  Ok (F11 b y p l) λ z => z.2.2 = 0 /\ ∃ (m : List Ap) (ros' : List Az), m.length <= 2 * b.An.toNat /\ (ros'.length = b.An.toNat /\ ∀ x, x ∈ ros' -> Fv p.Time x) /\ (y.Delay = 600 -> p.Time <= 500 -> m = []) /\
   z.1 = ⟨p.Time + 1, wtP b (Bl b p.Time p.Power (l ++ m)) p.Time, ros', Aic (p.A7 ++ B5 b p.Time p.Power (l ++ m))⟩ /\ z.2.1 = B5 b p.Time p.Power (l ++ m) := by
 unfold F11
 refine (Az7 h hy hp hT he hl).bind λ r hr => ?_
 obtain ⟨h1, m, ros', g1, g2, g3, g4⟩ := hr
 refine Ok.cond (λ hc => by rw [h1] at hc; simp at hc) (λ _ => Ok.pure ⟨rfl, m, ros', g1, g2, g3, ?_⟩)
 rw [g4]
 exact ⟨rfl, rfl⟩
theorem A58 {b : Aa} (h : Ay b) {s : Aj} (hs : Bw s) {k : Int} (hk : 0 <= k /\ k <= 100) : Ok (yM s b k) λ y => (y.1.length : Int) <= k /\ Bw y.2 := by
 unfold yM
 have e : w64 (k + 1) = k + 1 := Bb (by omega)
 rw [e]
 refine (E5 hs (k + 1) (by omega) (by omega)).bind λ y hy => ?_
 refine Ok.andThen (A := λ s => (s.2.2.2.length : Int) <= k /\ Bw ⟨s.2.1, s.2.2.1⟩) (B := λ (_ : Unit) => False) ?_ (λ s hs => Ok.pure hs) (λ _ h => h.elim)
 refine Ok.whileN (λ s => (0 <= s.1 /\ s.1 <= 200 /\ s.1 + (s.2.2.2.length : Int) <= k) /\ Bw ⟨s.2.1, s.2.2.1⟩) (λ s => s.1.toNat) _ _ ?_ ?_ ?_
 ·exact ⟨⟨by dsimp only; omega, by dsimp only; omega, by simp; omega⟩, hy.1⟩
 ·dsimp only; omega
 ·rintro ⟨i, L, a, l⟩ ⟨⟨g1, g2, g3⟩, g4⟩
  dsimp only at g1 g2 g3 g4
  unfold Rz
  dsimp only
  refine Ok.cond (λ hq => ?_) (λ _ => Ok.brk ⟨by dsimp only; omega, g4⟩)
  simp only [decide_eq_true_eq] at hq
  have e1 : w64 (i - 1) = i - 1 := Bb (by omega)
  rw [e1]
  refine (A59 h g4).bind λ u hu => (Ok.appI (by simp; omega)).bind λ w hw => Ok.next ⟨⟨⟨by dsimp only; omega, by dsimp only; omega, by rw [hw]; simp; omega⟩, hu⟩, by dsimp only; omega⟩
theorem A0n (x : Int) : Ak3 x = Fq x := by
 have hr := Lg (x := x) (n := 3600) (by omega)
 unfold Ak3 Fq
 rw [Bb (by omega)]
 by_cases h : Int.tmod x 3600 < 0
 ·rw [decide_eq_true h, cond_true, Int.tmod_eq_emod_of_nonneg (by omega)]
  omega
 ·rw [decide_eq_false h, cond_false, Int.tmod_eq_emod_of_nonneg (by omega)]
  omega
theorem Qg {α : Type} {l : List α} {x : α} {j : Nat} (h : l[j]? = some x) : l.set j x = l := by
 obtain ⟨hj, e⟩ := List.getElem?_eq_some_iff.1 h
 rw [← e]; exact List.set_getElem_self hj
def Dq (x : Af) : Af := if x.State = 2 then ⟨x.State, x.Since, x.Aq, Fq (w64 (x.Phase + w64 (36 * w64 (x.Aq - 5000))))⟩ else x
theorem Al3 {α : Type} {l m : List α} {x : α} {v : α} {j : Nat} (h : m[j]? = some x) (hl : l.length = m.length) : (l.take j ++ m.drop j).set j v = l.take j ++ v :: m.drop (j + 1) := by
 have hj := (List.getElem?_eq_some_iff.1 h).1
 rw [List.set_append_right _ _ (by simp; omega), List.drop_eq_getElem_cons hj]
 have : j - (l.take j).length = 0 := by simp; omega
 rw [this]; rfl
theorem Atd {α : Type} (f : α -> α) {l : List α} {x : α} {j : Nat} (h : l[j]? = some x) : (((l.map f).take j ++ l.drop j)[j]? = some x) /\ (l.map f).take (j + 1) ++ l.drop (j + 1) = ((l.map f).take j ++ l.drop j).set j (f x) := by
 have hj := (List.getElem?_eq_some_iff.1 h).1
 constructor
 ·rw [List.getElem?_append_right (by simp; omega)]
  have : j - ((l.map f).take j).length = 0 := by simp; omega
  rw [this, List.getElem?_drop]; exact h
 ·rw [Al3 h (by simp), Bk (x := f x) (by simp [h]), List.append_assoc]; rfl
theorem Az5 {b : Aa} (h : Ay b) {p : Ab} (hp : Aw b p) : Z1 b p = some (⟨p.Ah, p.Ac.map Dq, p.Ar, p.Ao⟩, 0) := by
 have hs := h.sol
 have hn := hp.nso
 refine Ok.eq ?_
 unfold Z1
 rw [Db h hp, Dy h hp]
 simp only [Option.bind_some]
 refine Ok.cond (λ hc => by simp at hc) (λ _ => ?_)
 refine Ok.andThen (A := λ s => s = p.Ac.map Dq) (B := λ (_ : Unit) => False) ?_ (λ s hs => Ok.pure (by rw [hs])) (λ _ h => h.elim)
 refine Ok.foldI0 (I := λ j s => s = (p.Ac.map Dq).take j ++ p.Ac.drop j) rfl (λ j x s hx hs => ?_) λ s hs => ?_
 ·obtain ⟨m1, m2⟩ := Atd Dq hx
  have hj := (List.getElem?_eq_some_iff.1 hx).1
  subst hs
  unfold Pt
  rw [Cq (by omega), m2]
  refine Ok.cond (λ hc => ?_) (λ hc => Ok.next ?_)
  ·rw [Bj m1]
   simp only [Option.bind_some]
   rw [Ig (by simp; omega)]
   refine Ok.next ?_
   unfold Dq
   rw [if_pos (by simpa using hc)]
  ·unfold Dq
   rw [if_neg (by simpa using hc)]
   exact (Qg m1).symm
 ·rw [hs, List.drop_length, List.append_nil, List.take_of_length_le (by simp)]
theorem Arx {b : Aa} (h : Ay b) {p : Ab} (hp : Aw b p) : F70 b p = some (⟨p.Ah, p.Ac.map Dq, p.Ar, p.Ao⟩, 0) := by
 have hs := h.sol
 have hn := hp.nso
 refine Ok.eq ?_
 unfold F70
 rw [Ih h hp, Aaz h hp]
 simp only [Option.bind_some]
 refine Ok.cond (λ hc => by simp at hc) (λ _ => ?_)
 refine Ok.andThen (A := λ s => s = p.Ac.map Dq) (B := λ (_ : Unit) => False) ?_ (λ s hs => Ok.pure (by rw [hs])) (λ _ h => h.elim)
 refine Ok.foldI0 (I := λ j s => s = (p.Ac.map Dq).take j ++ p.Ac.drop j) rfl (λ j x s hx hs => ?_) λ s hs => ?_
 ·obtain ⟨m1, m2⟩ := Atd Dq hx
  have hj := (List.getElem?_eq_some_iff.1 hx).1
  subst hs
  unfold vI
  rw [Cq (by omega), m2, Bj m1]
  simp only [Option.bind_some]
  refine Ok.cond (λ hc => ?_) (λ hc => Ok.next ?_)
  ·rw [Ig (by simp; omega)]
   refine Ok.next ?_
   unfold Dq
   rw [if_pos (by simpa using hc), A0n]
  ·unfold Dq
   rw [if_neg (by simpa using hc)]
   exact (Qg m1).symm
 ·rw [hs, List.drop_length, List.append_nil, List.take_of_length_le (by simp)]
def Qx (b : Aa) (C : List Bool) (i : Nat) : Bool := !C.getD (Hz b (i : Int)).toNat false
def E6 (b : Aa) (C : List Bool) (t : Int) (x : Af) (i : Nat) : Af :=
 if (x.State = 1 /\ Qx b C i = true) /\ w64 (x.Since + (b.Ac.getD i default).Start) <= w64 (t + 1) then ⟨2, x.Since, x.Aq, x.Phase⟩ else x
def I3 (b : Aa) (C : List Bool) (t : Int) (l : List Af) (j : Nat) : List Af := ((l.zipIdx.map λ z => E6 b C t z.1 z.2).take j) ++ l.drop j
theorem jX {b : Aa} {C : List Bool} {t : Int} {l : List Af} {j : Nat} {x : Af} (h : l[j]? = some x) : (I3 b C t l j)[j]? = some x /\ I3 b C t l (j + 1) = (I3 b C t l j).set j (E6 b C t x j) /\ (I3 b C t l j).length = l.length := by
 have hj := (List.getElem?_eq_some_iff.1 h).1
 unfold I3
 refine ⟨?_, ?_, by simp; omega⟩
 ·rw [List.getElem?_append_right (by simp; omega)]
  have : j - ((l.zipIdx.map λ z => E6 b C t z.1 z.2).take j).length = 0 := by simp; omega
  rw [this, List.getElem?_drop]; exact h
 ·rw [Al3 h (by simp), Bk (x := E6 b C t x j) (by simp [h]), List.append_assoc]; rfl
def wtS (b : Aa) (p : Ab) (t : Int) : Ab := ⟨p.Ah, I3 b p.Ah t (p.Ac.map Dq) (p.Ac.map Dq).length, p.Ar, p.Ao⟩
theorem A1r {b : Aa} {i : Nat} (h : i < b.Ac.length) : b.Ac[i]? = some (b.Ac.getD i default) := by
 rw [List.getElem?_eq_getElem h]; simp [List.getD, List.getElem?_eq_getElem h]
theorem A0j {b : Aa} (h : Ay b) {p : Ab} (hc : p.Ah.length = b.Ag.length) (t : Int) {i : Nat} (hi : i < b.Ac.length) : Ji ⟨b, p, t⟩ (i : Int) = some (Qx b p.Ah i) := by
 obtain ⟨j, x, e, hx, _⟩ := Jg h (i := (i : Int)) (by omega) (by omega)
 have hj := (List.getElem?_eq_some_iff.1 hx).1
 unfold Ji Qx
 rw [uO h, e, Int.toNat_natCast]
 simp only [Option.bind_some]
 have hg : p.Ah[j]? = some (p.Ah.getD j false) := by
  rw [List.getElem?_eq_getElem (by omega)]; simp [List.getD, List.getElem?_eq_getElem (show j < p.Ah.length by omega)]
 rw [Bj hg]; rfl
theorem Az2 {b : Aa} (h : Ay b) {p : Ab} (hp : Aw b p) (t : Int) : Kx ⟨b, p, t⟩ = some ⟨b, wtS b p t, t⟩ := by
 have hs := h.sol
 have hn := hp.nso
 refine Ok.eq ?_
 unfold Kx
 rw [Az5 h hp]
 simp only [Option.bind_some]
 refine Ok.andThen (A := λ s => s.2 = I3 b p.Ah t (p.Ac.map Dq) (p.Ac.map Dq).length) (B := λ (_ : Unit) => False) ?_ (λ s hs => Ok.pure (by rw [hs]; rfl)) (λ _ h => h.elim)
 refine Ok.whileN (λ s => ∃ j : Nat, s.1 = (j : Int) /\ j <= p.Ac.length /\ s.2 = I3 b p.Ah t (p.Ac.map Dq) j) (λ s => (100 - s.1).toNat) _ _ ⟨0, rfl, by omega, rfl⟩ (by dsimp only; omega) ?_
 rintro ⟨z, s⟩ ⟨j, hz, hj, hsr⟩
 dsimp only at hz hsr
 subst hz
 unfold Kw Y3
 dsimp only
 refine Ok.cond (λ hq => ?_) (λ hq => Ok.brk ?_)
 ·simp only [decide_eq_true_eq, List.length_map] at hq
  have hlt : j < p.Ac.length := by omega
  obtain ⟨x, hx⟩ : ∃ x, (p.Ac.map Dq)[j]? = some x := ⟨_, List.getElem?_eq_getElem (by simp; omega)⟩
  obtain ⟨r1, r2, r3⟩ := jX (b := b) (C := p.Ah) (t := t) hx
  rw [← hsr] at r1 r2 r3
  simp only [List.length_map] at r3
  rw [Bj r1]
  simp only [Option.bind_some]
  have ho := A0j h (p := ⟨p.Ah, s, p.Ar, p.Ao⟩) hp.ncl t (i := j) (by omega)
  have e1 : w64 ((j : Int) + 1) = ((j + 1 : Nat) : Int) := by rw [Bb (by omega)]; omega
  rw [e1]
  have nxt : ∀ v, v = E6 b p.Ah t x j -> (∃ k : Nat, ((j + 1 : Nat) : Int) = (k : Int) /\ k <= p.Ac.length /\ s.set j v = I3 b p.Ah t (p.Ac.map Dq) k) := λ v hv => ⟨j + 1, rfl, by omega, by rw [hv, r2]⟩
  have stay : x = E6 b p.Ah t x j -> s = s.set j (E6 b p.Ah t x j) := λ hv => by
   rw [← hv]; exact (Qg r1).symm
  cases hs1 : (x.State == 1) with
  | false =>
   have hno : x = E6 b p.Ah t x j := by
    unfold E6; rw [if_neg (λ hh => by simp [hh.1.1] at hs1)]
   refine Ok.bind (P := λ _ => True) (Ok.gT (λ hg => absurd hg.1 (by simp)) λ _ => trivial) λ _ _ => ?_
   refine Ok.bind (P := λ _ => True) (Ok.gT (λ hg => absurd hg.1 (by simp)) λ _ => trivial) λ _ _ => ?_
   refine Ok.cond (λ hc => by simp [Mz, hs1] at hc) (λ _ => Ok.next ⟨?_, by dsimp only; omega⟩)
   dsimp only
   rw [stay hno]
   exact nxt _ rfl
  | true =>
   refine Ok.bind (P := λ v => v = Qx b p.Ah j) (Ok.of_eq ho rfl) λ v hv => ?_
   subst hv
   cases ho1 : Qx b p.Ah j with
   | false =>
    have hno : x = E6 b p.Ah t x j := by
     unfold E6; rw [if_neg (λ hh => by simp [hh.1.2] at ho1)]
    refine Ok.bind (P := λ _ => True) (Ok.gT (λ hg => absurd hg.1 (by simp)) λ _ => trivial) λ _ _ => ?_
    refine Ok.cond (λ hc => by simp [Mz] at hc) (λ _ => Ok.next ⟨?_, by dsimp only; omega⟩)
    dsimp only
    rw [stay hno]
    exact nxt _ rfl
   | true =>
    refine Ok.bind (P := λ v => v = b.Ac.getD j default) (Ok.of_eq (Bj (A1r (by omega))) rfl) λ v hv => ?_
    subst hv
    refine Ok.cond (λ hc => ?_) (λ hc => Ok.next ⟨?_, by dsimp only; omega⟩)
    ·simp only [Mz, hs1, Bool.and_true, Bool.true_and, decide_eq_true_eq] at hc
     rw [Ig (by omega)]
     refine Ok.next ⟨?_, by dsimp only; omega⟩
     exact nxt _ (by unfold E6; rw [if_pos ⟨⟨by simpa using hs1, ho1⟩, hc⟩])
    ·simp only [Mz, hs1, Bool.and_true, Bool.true_and, decide_eq_false_iff_not] at hc
     have hno : x = E6 b p.Ah t x j := by
      unfold E6; rw [if_neg (λ hh => hc hh.2)]
     dsimp only
     rw [stay hno]
     exact nxt _ rfl
 ·simp only [decide_eq_false_iff_not, List.length_map] at hq
  have : j = (p.Ac.map Dq).length := by simp; omega
  dsimp only
  rw [hsr, this]
theorem A01 {b : Aa} (h : Ay b) {i : Nat} (hi : i < b.Ac.length) : Ok (F69 b 2 (i : Int)) λ l => l[0]? = some (Hz b (i : Int)) := by
 obtain ⟨j, x, e, hx, hk, hB, hj⟩ := Jg h (i := (i : Int)) (by omega) (by omega)
 unfold F69
 rw [Agr h, Aab h]
 refine Ok.pure ?_
 have hlen : (ofL b λ x => Hy 2 (i : Int) x).length = 1 := by rw [V6 (by omega), h.one i hi]
 have hm : (j : Int) ∈ ofL b λ x => Hy 2 (i : Int) x := by
  unfold ofL
  refine List.mem_map.2 ⟨(x, j), List.mem_filter.2 ⟨?_, ?_⟩, rfl⟩
  ·rw [List.mem_zipIdx_iff_getElem?]; exact hx
  ·show Hy 2 (i : Int) x = true
   rw [Ao7 2 (by omega), hk, hB]; simp
 rw [e]
 match hq : (ofL b λ x => Hy 2 (i : Int) x), hlen, hm with
 | [v], _, hm =>
  rw [List.mem_singleton] at hm
  rw [hm]; rfl
theorem Ayg {b : Aa} (h : Ay b) {p : Ab} (hp : Aw b p) {t : Int} (ht : 0 <= t /\ t <= 2147483648) : F23 b p t ⟨7, 0, 0⟩ = some (wtS b p t, 0) := by
 have hs := h.sol
 have hn := hp.nso
 refine Ok.eq ?_
 unfold F23
 rw [Ih h hp, Aaz h hp]
 simp only [Option.bind_some]
 refine Ok.cond (λ hc => by simp at hc) (λ _ => Ok.cond (λ hc => ?_) (λ _ => Ok.cond (λ hc => by simp at hc) (λ _ => Ok.cond (λ hc => by simp at hc) (λ _ => Ok.cond (λ hc => by simp at hc) (λ _ => ?_)))))
 ·simp [Azt] at hc; omega
 refine Ok.andThen (A := λ s => s = false) (B := λ (_ : Unit) => False) ⟨_, rfl, rfl⟩ (λ s hs => ?_) (λ _ h => h.elim)
 subst hs
 refine Ok.cond (λ hc => by simp at hc) (λ _ => Ok.cond (λ hc => by simp at hc) (λ _ => Ok.cond (λ _ => ?_) (λ hc => by simp at hc)))
 rw [Arx h hp]
 simp only [Option.bind_some]
 refine Ok.andThen (A := λ s => s = I3 b p.Ah t (p.Ac.map Dq) (p.Ac.map Dq).length) (B := λ (_ : Unit) => False) ?_ (λ s hs => Ok.pure (by rw [hs]; rfl)) (λ _ h => h.elim)
 refine Ok.foldI0 (I := λ j s => s = I3 b p.Ah t (p.Ac.map Dq) j) rfl (λ j x s hx hsr => ?_) λ s hs => hs
 have hlt : j < p.Ac.length := by have := (List.getElem?_eq_some_iff.1 hx).1; simpa using this
 obtain ⟨r1, r2, r3⟩ := jX (b := b) (C := p.Ah) (t := t) hx
 rw [← hsr] at r1 r2 r3
 simp only [List.length_map] at r3
 have hf := A01 h (i := j) (by omega)
 have hop : Ok (getI p.Ah (Hz b (j : Int))) λ v => v = !Qx b p.Ah j := by
  obtain ⟨k, y, e, hy, _⟩ := Jg h (i := (j : Int)) (by omega) (by omega)
  have hk := (List.getElem?_eq_some_iff.1 hy).1
  have hnc := hp.ncl
  unfold Qx
  rw [e, Int.toNat_natCast, Bool.not_not]
  exact ⟨_, Bj (by rw [List.getElem?_eq_getElem (by omega)]), by simp [List.getD, List.getElem?_eq_getElem (show k < p.Ah.length by omega)]⟩
 have stay : x = E6 b p.Ah t x j -> s = s.set j (E6 b p.Ah t x j) := λ hv => by
  rw [← hv]; exact (Qg r1).symm
 first | unfold F23_l2 | unfold yA
 rw [Cq (by omega), Bj r1, r2]
 simp only [Option.bind_some]
 cases hs1 : (x.State == 1) with
 | false =>
  have hno : x = E6 b p.Ah t x j := by
   unfold E6; rw [if_neg (λ hh => by simp [hh.1.1] at hs1)]
  refine Ok.bind (P := λ _ => True) (Ok.gT (λ hg => absurd hg.1 (by simp)) λ _ => trivial) λ _ _ => ?_
  refine Ok.bind (P := λ _ => True) (Ok.gT (λ hg => absurd hg.1 (by simp)) λ _ => trivial) λ _ _ => ?_
  refine Ok.bind (P := λ _ => True) (Ok.gT (λ hg => absurd hg.1 (by simp)) λ _ => trivial) λ _ _ => ?_
  refine Ok.bind (P := λ _ => True) (Ok.gT (λ hg => absurd hg.1 (by simp)) λ _ => trivial) λ _ _ => ?_
  exact Ok.cond (λ hc => by simp [uL, hs1] at hc) (λ _ => Ok.next (stay hno))
 | true =>
  refine Ok.bind (P := λ l => l[0]? = some (Hz b (j : Int))) hf λ l hl => ?_
  refine Ok.bind (P := λ v => v = Hz b (j : Int)) (Ok.of_eq (Bj hl) rfl) λ v hv => ?_
  subst hv
  refine Ok.bind (P := λ v => v = !Qx b p.Ah j) hop λ v hv => ?_
  subst hv
  cases ho1 : Qx b p.Ah j with
  | false =>
   have hno : x = E6 b p.Ah t x j := by
    unfold E6; rw [if_neg (λ hh => by simp [hh.1.2] at ho1)]
   refine Ok.bind (P := λ _ => True) (Ok.gT (λ hg => absurd hg.1 (by simp)) λ _ => trivial) λ _ _ => ?_
   exact Ok.cond (λ hc => by simp [uL] at hc) (λ _ => Ok.next (stay hno))
  | true =>
   refine Ok.bind (P := λ v => v = b.Ac.getD j default) (Ok.of_eq (Bj (A1r (by omega))) rfl) λ v hv => ?_
   subst hv
   refine Ok.cond (λ hc => ?_) (λ hc => Ok.next (stay ?_))
   ·simp only [uL, hs1, Bool.not_true, Bool.not_false, Bool.and_true, Bool.true_and, decide_eq_true_eq] at hc
    rw [Ig (by omega)]
    exact Ok.next (by unfold E6; rw [if_pos ⟨⟨by simpa using hs1, ho1⟩, hc⟩])
   ·simp only [uL, hs1, Bool.not_true, Bool.not_false, Bool.and_true, Bool.true_and, decide_eq_false_iff_not] at hc
    unfold E6; rw [if_neg (λ hh => hc hh.2)]
theorem A7p {b : Aa} (h : Ay b) {p : A0} (hp : Aw b p.Power) (h1 : p.A5.length <= 1000) (h2 : p.A7.length <= 1000000) (a : Ap) :
  F22 b p a = some (⟨p.Time, doP b p.Power p.Time a, p.A5, p.A7 ++ doE b p.Power p.Time a⟩, doS b p.Power p.Time a, 0) := by
 have hl := Aax h hp p.Time a
 refine Ok.eq ?_
 unfold F22
 rw [Db h hp, Aiz h hp h1 (by omega)]
 simp only [Option.bind_some]
 refine Ok.cond (λ hc => by simp at hc) (λ _ => ?_)
 have hd := Azd h (T := p.Time) (P := p.Power) (ros := p.A5) (evs := p.A7) (ev := []) (sts := []) hp (by simp) (by simp) a
 refine Ok.bind (P := λ v => v = _) (Ok.of_eq hd rfl) λ v hv => ?_
 subst hv
 refine (Ok.appI (l := p.A7) (m := [] ++ doE b p.Power p.Time a) (by simp; omega)).bind λ u hu => Ok.pure ?_
 rw [hu]; rfl
theorem A1p {b : Aa} (h : Ay b) {P : Ab} (hp : Aw b P) {T : Int} (hT : 0 <= T /\ T <= 2147483648) : wtP b P T = wtS b P T := by
 obtain ⟨_, _, w, hw, e⟩ := X3 h hp hT
 rw [Az2 h hp] at hw
 cases hw
 exact e.symm
theorem plantTicks_law (t : List Int) : F6 t = some true := by
 refine Ok.eq ?_
 unfold F6
 refine (A55 t).bind λ s hs => (Awi hs).bind λ w hw => ?_
 have h := hw.1.ok
 have hbu := h.buses
 obtain ⟨hmk, hty, ⟨hpl, htm, hev, _⟩, hsr⟩ := hw
 have hty2 : H1 ⟨w.2.1.Start, w.2.1.Stop, 600⟩ := ⟨hty.stop, hty.start, by dsimp only; omega⟩
 have hp := hpl ⟨w.2.1.Start, w.2.1.Stop, 600⟩
 have hst := hp.st
 have hnr := hp.nro
 have hti := hp.time
 refine (A58 h hsr (k := 5) (by omega)).bind λ l hl => ?_
 refine (A0a h hty2 hp (by omega) (by rw [hev]; simp) (l := l.1) (by omega)).bind λ z hz => ?_
 obtain ⟨h1, m, ros', g1, _, g0, g3, g4⟩ := hz
 have hm : m = [] := g0 rfl (by omega)
 rw [hm, List.append_nil] at g3 g4
 have hq := Fb h w.2.2.1.Time l.1 hst
 have hle := G5 h w.2.2.1.Time l.1 hst
 refine Ok.andThen (A := λ s => s = (((B5 w.1 w.2.2.1.Time w.2.2.1.Power l.1).length : Int), w.2.2.1.Time, (Bl w.1 w.2.2.1.Time w.2.2.1.Power l.1).Ah, (Bl w.1 w.2.2.1.Time w.2.2.1.Power l.1).Ac, (Bl w.1 w.2.2.1.Time w.2.2.1.Power l.1).Ar, (Bl w.1 w.2.2.1.Time w.2.2.1.Power l.1).Ao, w.2.2.1.A5, B5 w.1 w.2.2.1.Time w.2.2.1.Power l.1)) (B := λ (_ : Bool) => False) ?_ (λ s hs => ?_) (λ _ h => h.elim)
 ·refine Ok.foldI0 (I := λ j s => s = (((B5 w.1 w.2.2.1.Time w.2.2.1.Power (l.1.take j)).length : Int), w.2.2.1.Time, (Bl w.1 w.2.2.1.Time w.2.2.1.Power (l.1.take j)).Ah, (Bl w.1 w.2.2.1.Time w.2.2.1.Power (l.1.take j)).Ac, (Bl w.1 w.2.2.1.Time w.2.2.1.Power (l.1.take j)).Ar, (Bl w.1 w.2.2.1.Time w.2.2.1.Power (l.1.take j)).Ao, w.2.2.1.A5, B5 w.1 w.2.2.1.Time w.2.2.1.Power (l.1.take j))) (by rw [hev]; rfl) (λ j a s ha hI => ?_) λ s hI => by rw [List.take_length] at hI; exact hI
  have hj := (List.getElem?_eq_some_iff.1 ha).1
  have hqj := Fb h w.2.2.1.Time (l.1.take j) hst
  have hlj := G5 h w.2.2.1.Time (l.1.take j) hst
  rw [List.length_take] at hlj
  have hd1 := Aax h hqj w.2.2.1.Time a
  subst hI
  unfold Afi
  have hD := A7p h (p := ⟨w.2.2.1.Time, Bl w.1 w.2.2.1.Time w.2.2.1.Power (l.1.take j), w.2.2.1.A5, B5 w.1 w.2.2.1.Time w.2.2.1.Power (l.1.take j)⟩) hqj (by dsimp only; omega) (by dsimp only; omega) a
  refine Ok.bind (P := λ v => v = _) (Ok.of_eq hD rfl) λ v hv => ?_
  subst hv
  have e3 : Bl w.1 w.2.2.1.Time w.2.2.1.Power (l.1.take (j + 1)) = doP w.1 (Bl w.1 w.2.2.1.Time w.2.2.1.Power (l.1.take j)) w.2.2.1.Time a := by rw [Bk ha, Ql]; rfl
  have e4 : B5 w.1 w.2.2.1.Time w.2.2.1.Power (l.1.take (j + 1)) = B5 w.1 w.2.2.1.Time w.2.2.1.Power (l.1.take j) ++ doE w.1 (Bl w.1 w.2.2.1.Time w.2.2.1.Power (l.1.take j)) w.2.2.1.Time a := by rw [Bk ha, Mc]; simp [B5]
  have hpos : 0 < (doE w.1 (Bl w.1 w.2.2.1.Time w.2.2.1.Power (l.1.take j)) w.2.2.1.Time a).length := by unfold doE; simp
  refine Ok.cond (λ hc => ?_) (λ _ => Ok.next ?_)
  ·exfalso
   simp only [A5j, bne_self_eq_false, Bool.false_or, decide_eq_true_eq, List.length_append] at hc
   omega
  ·rw [e3, e4]
   dsimp only
   have e6 : ∀ x y : Nat, x <= 1000000 -> y <= 1000000 -> w64 ((x : Int) + w64 (((x + y : Nat) : Int) - (x : Int))) = ((x + y : Nat) : Int) := λ x y hx hy => by
    rw [Bb (n := ((x + y : Nat) : Int) - (x : Int)) (by omega), Bb (by omega)]; omega
   rw [List.length_append, e6 _ _ (by omega) (by omega)]
 subst hs
 have ha := Ayg h hq hti
 refine Ok.bind (P := λ v => v = (wtS w.1 (Bl w.1 w.2.2.1.Time w.2.2.1.Power l.1) w.2.2.1.Time, (0 : Int))) (Ok.of_eq ha rfl) λ v hv => ?_
 subst hv
 have hwo := (X3 h hq hti).2.1
 rw [A1p h hq hti] at hwo g3
 have hz1 : z.1.Power = wtS w.1 (Bl w.1 w.2.2.1.Time w.2.2.1.Power l.1) w.2.2.1.Time := by rw [g3]
 have hz2 : z.1.Time = w.2.2.1.Time + 1 := by rw [g3]
 rw [h1, g4, hz1, hz2, Bb (n := w.2.2.1.Time + 1) (by omega)]
 refine Ok.bind (P := λ v => v = true) (Ok.of_eq (Agq (hwo.lens h)) rfl) λ v hv => ?_
 subst hv
 have e5 : ((((((0 : Int) == 0) && ((0 : Int) == 0)) && true) && (((B5 w.1 w.2.2.1.Time w.2.2.1.Power l.1).length : Int) == ((B5 w.1 w.2.2.1.Time w.2.2.1.Power l.1).length : Int))) && (w.2.2.1.Time + 1 == w.2.2.1.Time + 1)) = true := by simp
 rw [A1t]
 dsimp only
 rw [e5]
 refine Ok.bind (P := λ v => v = true) (Ok.pure rfl) λ v hv => ?_
 subst hv
 exact Ok.pure rfl
end Go.Proofs.YthgnbpdjncbkfaaGreat
