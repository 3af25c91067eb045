import Derived.Test.YthgnbpdjncbkfaaGreatPl0
namespace Go.Proofs.YthgnbpdjncbkfaaGreat
open Go.SL
def brN (b : Aa) (i : Nat) : Nat := (Q1 b (i : Int)).toNat
theorem Mp {b : Aa} (h : Aw b) {i : Nat} (hi : i < b.Ac.length) : Q1 b (i : Int) = (brN b i : Int) /\ brN b i < b.Ae.length /\ (b.Ae.getD (brN b i) default).Kind = 2 /\ (b.Ae.getD (brN b i) default).B = (i : Int) /\ b.Ae[brN b i]? = some (b.Ae.getD (brN b i) default) := by
 obtain ⟨j, x, e, hx, hk, hB, _⟩ := qC h (i := (i : Int)) (by omega) (by omega)
 have hj := (aa.1 hx).1
 have : brN b i = j := by unfold brN; omega
 rw [this, Pg hx]
 exact ⟨e, hj, hk, hB, hx⟩
theorem A0v {b : Aa} (h : Aw b) {i j : Nat} (hi : i < b.Ac.length) {x : Aj} (hx : b.Ae[j]? = some x) (hk : x.Kind = 2) (hB : x.B = (i : Int)) : j = brN b i := by
 obtain ⟨e, hlt, k2, kB, hg⟩ := Mp h hi
 have hm : ∀ {m : Nat} {y : Aj}, b.Ae[m]? = some y -> y.Kind = 2 -> y.B = (i : Int) -> (y, m) ∈ ofZ b 2 (i : Int) := fun {m y} hy h1 h2 => an.2 ⟨by rw [cy]; exact hy, by simp [h1, h2]⟩
 have hlen : (ofZ b 2 (i : Int)).length = 1 := by
  have := Aey (λ x : Aj => x.Kind == 2 && x.B == (i : Int)) b.Ae 0
  rw [← h.one i hi]
  exact this
 have m1 := hm hx hk hB
 have m2 := hm hg k2 kB
 match hz : ofZ b 2 (i : Int), hlen, m1, m2 with
 | [v], _, m1, m2 =>
  rw [aT] at m1 m2
  rw [← m2] at m1
  exact (Prod.mk.inj m1).2
theorem jS {b : Aa} (h : Aw b) {p : Ab} (hp : As b p) {i : Nat} (hi : i < b.Ac.length) : Ev b p (i : Int) = if (p.Ac.getD i default).State = 2 /\ p.Ag.getD (brN b i) false = true then some (b.Ae.getD (brN b i) default).A else none := by
 obtain ⟨e, hlt, k2, kB, hg⟩ := Mp h hi
 have hn := hp.nso
 have hz : ∀ z, z ∈ ofZ b 2 (i : Int) -> z.2 = brN b i /\ z.1 = b.Ae.getD (brN b i) default := λ z hz => by
  have h1 := Ow hz
  have h2 := (an.1 hz).2
  simp only [ac, de] at h2
  have := A0v h hi h1 h2.1 h2.2
  rw [this] at h1
  rw [hg] at h1
  exact ⟨this, (cq h1).symm⟩
 have hin : (b.Ae.getD (brN b i) default, brN b i) ∈ ofZ b 2 (i : Int) := an.2 ⟨by rw [cy]; exact hg, by
  rw [ac, de, de]; exact ⟨k2, kB⟩⟩
 have hled : Dc b p 2 (i : Int) = if p.Ag.getD (brN b i) false = true then some (b.Ae.getD (brN b i) default).A else none := by
  rw [S9 hp.ncl]
  by_cases hc : p.Ag.getD (brN b i) false = true
  ·rw [if_pos hc]
   cases hf : (ofZ b 2 (i : Int)).find? λ z => p.Ag.getD z.2 false with
   | none =>
    rw [List.find?_eq_none] at hf
    exact absurd hc (hf _ hin)
   | some z =>
    rw [(hz z (List.mem_of_find?_eq_some hf)).2.symm]; rfl
  ·rw [if_neg hc]
   cases hf : (ofZ b 2 (i : Int)).find? λ z => p.Ag.getD z.2 false with
   | none => rfl
   | some z =>
    have h1 := List.find?_some hf
    rw [(hz z (List.mem_of_find?_eq_some hf)).1] at h1
    exact absurd h1 hc
 unfold Ev
 rw [aE, hled]
 by_cases hs : (p.Ac.getD i default).State = 2
 ·rw [if_pos ⟨by omega, by omega, hs⟩]
  simp only [hs, true_and]
 ·rw [if_neg (λ hh => hs hh.2.2), if_neg (λ hh => hs hh.1)]
structure Sub (b : Aa) (q p : Ab) : Prop where
 con : ∀ i, i < b.Ac.length -> (q.Ac.getD i default).State = 2 -> q.Ag.getD (brN b i) false = true -> (p.Ac.getD i default).State = 2 /\ p.Ag.getD (brN b i) false = true
 tie : ∀ (k : Nat) x, b.Ae[k]? = some x -> x.Kind = 1 -> q.Ag.getD k false = true -> p.Ag.getD k false = true
theorem Ati {α : Type} : ∀ {l : List α} {c : List Bool} {z : α × Bool}, z ∈ l.zip c -> ∃ k : Nat, l[k]? = some z.1 /\ c[k]? = some z.2
 | [], _, _, h => by simp at h
 | _ :: _, [], _, h => by simp at h
 | x :: l, v :: c, z, h => by
  rw [bo, ah] at h
  rcases h with rfl | h
  ·exact ⟨0, rfl, rfl⟩
  ·obtain ⟨k, h1, h2⟩ := Ati h
   exact ⟨k + 1, h1, h2⟩
theorem Aw9 {α : Type} : ∀ {l : List α} {c : List Bool} {k : Nat} {x : α} {v : Bool}, l[k]? = some x -> c[k]? = some v -> (x, v) ∈ l.zip c
 | [], _, _, _, _, h, _ => by simp at h
 | _ :: _, [], _, _, _, _, h => by simp at h
 | y :: l, w :: c, 0, x, v, h1, h2 => by
  simp at h1 h2
  rw [bo, ← h1, ← h2]; exact ag
 | y :: l, w :: c, k + 1, x, v, h1, h2 => by
  rw [bo]
  exact ai _ (Aw9 (k := k) (by simpa using h1) (by simpa using h2))
theorem A3a {b : Aa} {p : Ab} (hp : p.Ag.length = b.Ae.length) {i j : Nat} : Tie (Cr b p) i j ↔ ∃ (k : Nat) (x : Aj), b.Ae[k]? = some x /\ x.Kind = 1 /\ p.Ag.getD k false = true /\ ((x.A.toNat = i /\ x.B.toNat = j) \/ (x.A.toNat = j /\ x.B.toNat = i)) := by
 constructor
 ·rintro ⟨z, hz, h1, h2, h3⟩
  obtain ⟨k, g1, g2⟩ := Ati hz
  exact ⟨k, z.1, g1, h1, by rw [List.getD, g2, h2]; rfl, h3⟩
 ·rintro ⟨k, x, h1, h2, h3, h4⟩
  have hk := (aa.1 h1).1
  refine ⟨(x, true), Aw9 h1 ?_, h2, rfl, h4⟩
  rw [af (by omega)]
  simp only [List.getD, af (show k < p.Ag.length by omega), bG] at h3
  rw [h3]
theorem A4k (b : Aa) (C : List Bool) (q : Aj -> Bool) (hC : C.length = b.Ae.length) (k : Nat) (h : (acC b C q).getD k false = true) : C.getD k false = true := by
 by_cases hk : k < b.Ae.length
 ·rw [Pl b C q hk, ac] at h; exact h.1
 ·have hl : (acC b C q).length = C.length := Kq _ _
  simp [List.getD, List.getElem?_eq_none (show (acC b C q).length <= k by omega)] at h
def cl (C : List Bool) : Nat := C.count true
theorem Adx {b : Aa} (h : Aw b) (p : Ab) : (Bj b p).Pairwise λ x y => ∀ c, ¬ (C1 x c = true /\ C1 y c = true) := by
 rw [Gv h, List.pairwise_map]
 refine ((cz.1 List.nodup_range).sublist List.filter_sublist).imp ?_
 rintro f g hfg c ⟨hx, hy⟩
 obtain ⟨i, hi, e1⟩ := bI.1 hx
 obtain ⟨j, hj, e2⟩ := bI.1 hy
 obtain ⟨k, hk, rfl⟩ := al.1 hi
 obtain ⟨m, hm, rfl⟩ := al.1 hj
 have g1 := (an.1 hk).2
 have g2 := (an.1 hm).2
 simp only [de] at e1 e2 g1 g2
 have : k = m := by omega
 subst this
 rw [g1] at g2
 simp only [ak] at g2
 omega
structure Ew (b : Aa) (c q : Ab) : Prop where
 src : q.Ac = c.Ac
 cl : ∀ (k : Nat) x, b.Ae[k]? = some x -> x.Kind ≠ 3 -> q.Ag.getD k false = c.Ag.getD k false
theorem Ew.refl (b : Aa) (c : Ab) : Ew b c c := ⟨rfl, λ _ _ _ _ => rfl⟩
theorem Ew.trans {b : Aa} {c q r : Ab} (s : Ew b c q) (t : Ew b q r) : Ew b c r := ⟨t.src.trans s.src, λ k x h1 h2 => (t.cl k x h1 h2).trans (s.cl k x h1 h2)⟩
theorem Tf : ∀ (l : List Aj) (c d : List Bool) (s : List Int), c.length = l.length -> d.length = l.length -> (∀ (k : Nat) x, l[k]? = some x -> x.Kind = 1 -> c.getD k false = d.getD k false) -> Cp (l.zip c) s = Cp (l.zip d) s
 | [], _, _, _, _, _, _ => rfl
 | _ :: _, [], _, _, h, _, _ => by simp at h
 | _ :: _, _ :: _, [], _, _, h, _ => by simp at h
 | x :: l, v :: c, w :: d, s, h1, h2, h3 => by
  show Cp (l.zip c) (Dt s (x, v)) = Cp (l.zip d) (Dt s (x, w))
  have e : Dt s (x, v) = Dt s (x, w) := by
   by_cases hk : x.Kind = 1
   ·have : v = w := h3 0 x rfl hk
    rw [this]
   ·unfold Dt
    rw [if_neg (λ hh => hk hh.1), if_neg (λ hh => hk hh.1)]
  rw [e]
  exact Tf l c d _ (by simpa using h1) (by simpa using h2) λ k y hy hk => h3 (k + 1) y hy hk
theorem Ew.groups {b : Aa} {c q : Ab} (hc : c.Ag.length = b.Ae.length) (hq : q.Ag.length = b.Ae.length) (s : Ew b c q) : groups b q = groups b c := by
 unfold Go.Proofs.YthgnbpdjncbkfaaGreat.groups
 have key : ∀ (xs : List Nat) (t : List Int), xs.foldl (λ s _ => Cp (b.Ae.zip q.Ag) s) t = xs.foldl (λ s _ => Cp (b.Ae.zip c.Ag) s) t := by
  intro xs
  induction xs with
  | nil => intro t; rfl
  | cons x xs ih =>
   intro t
   simp only [bl]
   rw [Tf b.Ae q.Ag c.Ag t hq hc λ k x hx hk => s.cl k x hx (by omega)]
   exact ih _
 exact key _ _
theorem Ew.con {b : Aa} (h : Aw b) {c q : Ab} (hc : As b c) (hq : As b q) (s : Ew b c q) {i : Nat} (hi : i < b.Ac.length) : Ev b q (i : Int) = Ev b c (i : Int) := by
 obtain ⟨_, _, k2, _, hg⟩ := Mp h hi
 rw [jS h hq hi, jS h hc hi, s.src, s.cl _ _ hg (by omega)]
theorem Ew.sources {b : Aa} (h : Aw b) {c q : Ab} (hc : As b c) (hq : As b q) (s : Ew b c q) (f : Nat) : (isl b q f).Ac = (isl b c f).Ac := by
 show Eb b q b.Ac.length f = Eb b c b.Ac.length f
 unfold Eb
 congr 1
 refine cr λ i hi => ?_
 rw [s.con h hc hq (aK.1 hi)]
 unfold Ea
 rw [s.groups hc.ncl hq.ncl]
def fg (b : Aa) (q : Ab) (m : Nat) : Option Int := Ea b q (Dc b q 3 (m : Int))
theorem Ff {b : Aa} {q : Ab} {f : Nat} {m : Int} : m ∈ (isl b q f).Ad ↔ ∃ k : Nat, m = (k : Int) /\ k < b.Ad.length /\ fg b q k = some (f : Int) := by
 constructor
 ·intro h
  obtain ⟨k, hk, e⟩ := al.1 h
  obtain ⟨h1, h2⟩ := an.1 hk
  exact ⟨k, e.symm, aK.1 h1, by rwa [de] at h2⟩
 ·rintro ⟨k, e, h1, h2⟩
  exact al.2 ⟨k, an.2 ⟨aK.2 h1, by rw [de]; exact h2⟩, e.symm⟩
theorem Qz (b : Aa) (q : Ab) (f : Nat) : (isl b q f).Ad.Nodup := by
 show (Fw b q b.Ad.length f).Nodup
 unfold Fw
 rw [cz, List.pairwise_map]
 exact ((cz.1 List.nodup_range).sublist List.filter_sublist).imp λ h e => h (by omega)
theorem Ag3 {x : Af} {m : Int} : C1 x m = true ↔ m ∈ x.Ad := by
 unfold C1
 rw [bI]
 constructor
 ·rintro ⟨y, hy, e⟩
  rw [de] at e; rw [e]; exact hy
 ·intro h; exact ⟨m, h, by simp⟩
theorem A4v {b : Aa} {q : Ab} (hq : As b q) (m : Nat) (n : Nat) : Dc b (Br q (acC b q.Ag (isC (m : Int)))) 3 (n : Int) = if n = m then none else Dc b q 3 (n : Int) := by
 have hq2 := Pk hq (isC (m : Int))
 rw [S9 (p := Br q (acC b q.Ag (isC (m : Int)))) hq2.ncl, S9 hq.ncl]
 have hz : ∀ z, z ∈ ofZ b 3 (n : Int) -> (acC b q.Ag (isC (m : Int))).getD z.2 false = (q.Ag.getD z.2 false && !decide (n = m)) := λ z hz => by
  have h1 := Ow hz
  have h2 := (an.1 hz).2
  simp only [ac, de] at h2
  have hk := (aa.1 h1).1
  rw [Pl b q.Ag _ hk, Pg h1]
  congr 2
  unfold isC
  rw [h2.1, h2.2, bp]
  simp only [ac, de, da, true_and, beq_self_eq_true]
  omega
 by_cases e : n = m
 ·rw [if_pos e]
  have : (ofZ b 3 (n : Int)).find? (λ z => (Br q (acC b q.Ag (isC (m : Int)))).Ag.getD z.2 false) = none := by
   rw [List.find?_eq_none]
   intro z hz2
   have := hz z hz2
   show ¬ (acC b q.Ag (isC (m : Int))).getD z.2 false = true
   rw [this, dh e]; simp
  rw [this]; rfl
 ·rw [if_neg e]
  congr 1
  have : ∀ l : List (Aj × Nat), (∀ z, z ∈ l -> z ∈ ofZ b 3 (n : Int)) -> l.find? (λ z => (Br q (acC b q.Ag (isC (m : Int)))).Ag.getD z.2 false) = l.find? λ z => q.Ag.getD z.2 false := by
   intro l
   induction l with
   | nil => intro _; rfl
   | cons z l ih =>
    intro hl
    have h1 : (Br q (acC b q.Ag (isC (m : Int)))).Ag.getD z.2 false = q.Ag.getD z.2 false := by
     show (acC b q.Ag (isC (m : Int))).getD z.2 false = _
     rw [hz z (hl z ag), di e]; simp
    simp only [b9, h1]
    rw [ih λ y hy => hl y (ai _ hy)]
  exact this _ λ z hz => hz
theorem Aip {b : Aa} {q : Ab} (m : Nat) : Ew b q (Br q (acC b q.Ag (isC (m : Int)))) := ⟨rfl, λ k x hx hk => by
 have hlt := (aa.1 hx).1
 show (acC b q.Ag (isC (m : Int))).getD k false = _
 rw [Pl b q.Ag _ hlt, Pg hx]
 have : isC (m : Int) x = false := by unfold isC; rw [dg.2 hk]; rfl
 rw [this]; simp⟩
theorem A9w {b : Aa} {q : Ab} (hq : As b q) (m n : Nat) : fg b (Br q (acC b q.Ag (isC (m : Int)))) n = if n = m then none else fg b q n := by
 unfold fg
 rw [A4v hq]
 by_cases e : n = m
 ·rw [if_pos e, if_pos e]; rfl
 ·rw [if_neg e, if_neg e]
  unfold Ea
  have : Go.Proofs.YthgnbpdjncbkfaaGreat.groups b (Br q (acC b q.Ag (isC (m : Int)))) = Go.Proofs.YthgnbpdjncbkfaaGreat.groups b q := (Aip (b := b) (q := q) m).groups hq.ncl (Pk hq (isC (m : Int))).ncl
  show Option.map (λ (a : Int) => (Go.Proofs.YthgnbpdjncbkfaaGreat.groups b (Br q (acC b q.Ag (isC (m : Int))))).getD a.toNat 0) _ = _
  rw [this]
def sm (g : Int -> Int) (l : List Int) : Int := l.foldr (λ m s => g m + s) 0
theorem A3f (g : Int -> Int) {l m : List Int} (p : l.Perm m) : sm g l = sm g m := by
 induction p with
 | nil => rfl
 | cons x _ ih => show g x + sm g _ = g x + sm g _; rw [ih]
 | swap x y l => show g y + (g x + sm g l) = g x + (g y + sm g l); omega
 | trans _ _ i1 i2 => exact i1.trans i2
theorem Amq (L : List Int) (l : List Int) : Jq L l = sm (λ m => L.getD m.toNat 0) l := by
 have key : ∀ (l : List Int) (s : Int), l.foldl (λ s c => s + L.getD c.toNat 0) s = s + sm (λ m => L.getD m.toNat 0) l := by
  intro l
  induction l with
  | nil => intro s; simp [sm]
  | cons x l ih =>
   intro s
   rw [bl, ih]
   show _ = s + (L.getD x.toNat 0 + sm _ l)
   omega
 have := key l 0
 unfold Jq
 rw [this]; omega
theorem Afw {g g' : Int -> Int} : ∀ {l : List Int}, (∀ m, m ∈ l -> g m = g' m) -> sm g l = sm g' l
 | [], _ => rfl
 | x :: l, h => by
  show g x + sm g l = g' x + sm g' l
  rw [h x ag, Afw λ m hm => h m (ai _ hm)]
theorem Ap1 {g : Int -> Int} : ∀ {l : List Int}, (∀ m, m ∈ l -> 0 <= g m) -> 0 <= sm g l
 | [], _ => by simp [sm]
 | x :: l, h => by
  have h1 := h x ag
  have h2 := Ap1 (l := l) λ m hm => h m (ai _ hm)
  show 0 <= g x + sm g l
  omega
theorem Ams {g : Int -> Int} : ∀ {l : List Int}, (∀ m, m ∈ l -> g m = 0) -> sm g l = 0
 | [], _ => rfl
 | x :: l, h => by
  show g x + sm g l = 0
  rw [h x ag, Ams λ m hm => h m (ai _ hm)]; omega
theorem A4q {g g' : Int -> Int} {x : Int} {l : List Int} (hn : l.Nodup) (hx : x ∈ l) (h : ∀ m, m ∈ l -> m ≠ x -> g m = g' m) : sm g l = sm g' l + (g x - g' x) := by
 induction l with
 | nil => cases hx
 | cons y l ih =>
  obtain ⟨n1, n2⟩ := List.nodup_cons.1 hn
  show g y + sm g l = g' y + sm g' l + (g x - g' x)
  by_cases e : y = x
  ·subst e
   rw [Afw λ m hm => h m (ai _ hm) λ e => n1 (by rw [← e]; exact hm)]
   omega
  ·have hxl : x ∈ l := by
    rcases ah.1 hx with e2 | e2
    ·exact absurd e2.symm e
    ·exact e2
   rw [h y ag e, ih n2 hxl λ m hm => h m (ai _ hm)]
   omega
theorem An0 {b : Aa} (h : Aw b) {m : Int} : m ∈ Gk b ↔ 0 <= m /\ m < b.Ad.length := by
 constructor
 ·exact Au8 h
 ·intro hm
  have hs := (Jw h).2
  obtain ⟨k, hk, e⟩ := hs.mem m.toNat (by omega)
  have hl := hs.len
  have : (Gk b)[k]? = some m := by
   rw [af (by omega)]
   simp only [List.getD, af (show k < (Gk b).length by omega), bG] at e
   rw [e]; congr 1; omega
  exact ae this
def Nk (b : Aa) (m : Int) : Int := (b.Ad.getD m.toNat default).Least
abbrev Fg (b : Aa) (q : Ab) (n : Nat) : List Int := (isl b q (B2 b q n)).Ad
theorem J1 (b : Aa) (q : Ab) (n : Nat) (hs : 0 < (isl b q (B2 b q n)).Ac.length) : B8 b q n = sm (λ m => q.Ak.getD m.toNat 0) (Fg b q n) := by
 unfold B8; rw [if_pos hs, Amq]
theorem yJ {b : Aa} {q : Ab} {n : Nat} (he : 0 < Cf b q n) : 0 < (isl b q (B2 b q n)).Ac.length := by
 by_cases hs : 0 < (isl b q (B2 b q n)).Ac.length
 ·exact hs
 ·exfalso
  have e1 : (isl b q (B2 b q n)).Ac = [] := List.length_eq_zero_iff.1 (by omega)
  unfold Cf B8 E2 at he
  rw [if_neg hs, e1] at he
  simp [Jq] at he
theorem A33 {b : Aa} {q : Ab} {n : Nat} {L : List Int} {a v : Int} (ha : a ∈ Fg b q n) (hl : a.toNat < L.length) (hs : 0 < (isl b q (B2 b q n)).Ac.length) :
  B8 b (Bh q (L.set a.toNat v)) n = B8 b (Bh q L) n - (L.getD a.toNat 0 - v) := by
 have h0 := Gd ha
 rw [J1 b (Bh q (L.set a.toNat v)) n hs, J1 b (Bh q L) n hs]
 show sm (λ m => (L.set a.toNat v).getD m.toNat 0) (Fg b q n) = sm (λ m => L.getD m.toNat 0) (Fg b q n) - _
 have e : (L.set a.toNat v).getD a.toNat 0 = v := by rw [Hq, if_pos ⟨rfl, hl⟩]
 rw [A4q (l := Fg b q n) (g := λ m => (L.set a.toNat v).getD m.toNat 0) (g' := λ m => L.getD m.toNat 0) (Qz b q _) ha λ m hm hne => ?_]
 ·rw [e]; omega
 ·have h1 := Gd hm
  simp only [Hq]
  rw [if_neg λ e => hne (by omega)]
structure Ajs (b : Aa) (q : Ab) (n : Nat) (l : List Int) (j : Nat) (L : List Int) : Prop where
 ok : As b (Bh q L)
 le : ∀ m : Nat, L.getD m 0 <= q.Ak.getD m 0
 out : ∀ m : Nat, (m : Int) ∉ l.take j -> L.getD m 0 = q.Ak.getD m 0
 low : 0 < Cf b (Bh q L) n -> ∀ m, m ∈ l.take j -> L.getD m.toNat 0 <= Nk b m
 ord : ∀ (i : Nat) k, i < j -> l[i]? = some k -> L.getD k.toNat 0 ≠ q.Ak.getD k.toNat 0 -> ∀ (i' : Nat) m, i' < i -> l[i']? = some m -> L.getD m.toNat 0 <= Nk b m
theorem L6 {l : List Int} {j : Nat} {m : Int} : m ∈ l.take j ↔ ∃ i, i < j /\ l[i]? = some m := by
 rw [List.mem_iff_getElem?]
 constructor
 ·rintro ⟨i, hi⟩
  rw [am] at hi
  split at hi
  ·exact ⟨i, by omega, hi⟩
  ·cases hi
 ·rintro ⟨i, hi, h⟩
  exact ⟨i, by rw [am, if_pos hi]; exact h⟩
theorem Ajs.step {b : Aa} (h : Aw b) {q : Ab} {n : Nat} {l : List Int} (hn : l.Nodup) (hl : ∀ c, c ∈ l -> c ∈ Fg b q n) {j : Nat} {c : Int} (hc : l[j]? = some c) {z : List Int × List An} (hI : Ajs b q n l j z.1) : Ajs b q n l (j + 1) (Ig b q n z c).1 := by
 have hcm := hl c (ae hc)
 have hin := Gd hcm
 obtain ⟨g1, g2, g3, g4⟩ := Mh h hI.ok hin.1 hin.2
 have hlen : c.toNat < z.1.length := by
  have : z.1.length = b.Ad.length := hI.ok.nli
  omega
 have hnot : ∀ m, m ∈ l.take j -> m ≠ c := λ m hm e => by
  subst e
  obtain ⟨i, hi, hm⟩ := L6.1 hm
  have := (List.getElem?_inj (aa.1 hm).1 hn).1 (hm.trans hc.symm)
  omega
 have htk : ∀ m, m ∈ l.take (j + 1) ↔ m ∈ l.take j \/ m = c := λ m => by
  rw [Bi hc, ar, aT]
 have hok := yC (n := n) h hI.ok hin.1 hin.2
 have hpos : ∀ m, m ∈ l.take j -> 0 <= m := λ m hm => (Gd (hl m (aP hm))).1
 by_cases hp : 0 < C7 b (Bh q z.1) n c
 ·have e : (Ig b q n z c).1 = z.1.set c.toNat (z.1.getD c.toNat 0 - C7 b (Bh q z.1) n c) := by unfold Ig; rw [if_pos hp]
  rw [e] at hok ⊢
  have hm1 : C7 b (Bh q z.1) n c <= Cf b (Bh q z.1) n := Int.min_le_left _ _
  have hm2 : C7 b (Bh q z.1) n c <= z.1.getD c.toNat 0 - Nk b c := Int.min_le_right _ _
  have hm3 : C7 b (Bh q z.1) n c = Cf b (Bh q z.1) n \/ C7 b (Bh q z.1) n c = z.1.getD c.toNat 0 - Nk b c := by
   have : C7 b (Bh q z.1) n c = min (Cf b (Bh q z.1) n) (z.1.getD c.toNat 0 - Nk b c) := rfl
   omega
  have hs := yJ (b := b) (q := Bh q z.1) (n := n) (by omega)
  have hload := A33 (v := z.1.getD c.toNat 0 - C7 b (Bh q z.1) n c) hcm hlen hs
  have hexc : Cf b (Bh q (z.1.set c.toNat (z.1.getD c.toNat 0 - C7 b (Bh q z.1) n c))) n = Cf b (Bh q z.1) n - C7 b (Bh q z.1) n c := by
   have e1 : Cf b (Bh q z.1) n = max 0 (B8 b (Bh q z.1) n - E2 b q n) := rfl
   have e2 : ∀ L, Cf b (Bh q L) n = max 0 (B8 b (Bh q L) n - E2 b q n) := λ _ => rfl
   rw [e2, hload]
   omega
  have hget : ∀ m : Nat, m ≠ c.toNat -> (z.1.set c.toNat (z.1.getD c.toNat 0 - C7 b (Bh q z.1) n c)).getD m 0 = z.1.getD m 0 := λ m hm => by
   rw [Hq, if_neg λ e => hm e.1.symm]
  have hgc : (z.1.set c.toNat (z.1.getD c.toNat 0 - C7 b (Bh q z.1) n c)).getD c.toNat 0 = z.1.getD c.toNat 0 - C7 b (Bh q z.1) n c := by
   rw [Hq, if_pos ⟨rfl, hlen⟩]
  have hne : ∀ m, m ∈ l.take j -> m.toNat ≠ c.toNat := λ m hm e => hnot m hm (by have := hpos m hm; omega)
  refine ⟨hok, λ m => ?_, λ m hm => ?_, λ he m hm => ?_, λ i k hi hk hch i' m hi' hm => ?_⟩
  ·have := hI.le m
   by_cases em : m = c.toNat
   ·subst em; rw [hgc]; omega
   ·rw [hget m em]; exact this
  ·have hmc : m ≠ c.toNat := λ e => hm ((htk _).2 (.inr (by omega)))
   rw [hget m hmc]
   exact hI.out m λ hh => hm ((htk _).2 (.inl hh))
  ·rcases (htk m).1 hm with h1 | rfl
   ·rw [hget _ (hne m h1)]
    exact hI.low (by omega) m h1
   ·rw [hgc]; omega
  ·have hm' : m ∈ l.take j := L6.2 ⟨i', by omega, hm⟩
   rw [hget _ (hne m hm')]
   by_cases ei : i = j
   ·exact hI.low (by omega) m hm'
   ·have hk' : k ∈ l.take j := L6.2 ⟨i, by omega, hk⟩
    rw [hget _ (hne k hk')] at hch
    exact hI.ord i k (by omega) hk hch i' m hi' hm
 ·have e : Ig b q n z c = z := by unfold Ig; rw [if_neg hp]
  rw [e]
  refine ⟨hI.ok, hI.le, λ m hm => hI.out m λ hh => hm ((htk _).2 (.inl hh)), λ he m hm => ?_, λ i k hi hk hch i' m hi' hm => ?_⟩
  ·rcases (htk m).1 hm with h1 | rfl
   ·exact hI.low he m h1
   ·have : C7 b (Bh q z.1) n m = min (Cf b (Bh q z.1) n) (z.1.getD m.toNat 0 - Nk b m) := rfl
    omega
  ·by_cases ei : i = j
   ·subst ei
    rw [hc] at hk; cases hk
    exfalso
    refine hch (by
     have := hI.out c.toNat λ hh => hnot _ hh (by omega)
     exact this)
   ·exact hI.ord i k (by omega) hk hch i' m hi' hm
theorem A3r {b : Aa} (h : Aw b) {q : Ab} (hq : As b q) {n : Nat} {l : List Int} (hn : l.Nodup) (hl : ∀ c, c ∈ l -> c ∈ Fg b q n) (acts : List An) : Ajs b q n l l.length (Gc b q n l (q.Ak, acts)).1 := by
 have key : ∀ j, j <= l.length -> Ajs b q n l j (Gc b q n (l.take j) (q.Ak, acts)).1 := by
  intro j
  induction j with
  | zero => intro _; exact ⟨hq, λ _ => bv _, λ _ _ => rfl, λ _ m hm => by simp at hm, λ i _ hi => by omega⟩
  | succ j ih =>
   intro hj
   have hc : l[j]? = some l[j] := af (by omega)
   have e : Gc b q n (l.take (j + 1)) (q.Ak, acts) = Ig b q n (Gc b q n (l.take j) (q.Ak, acts)) l[j] := by
    rw [Bi hc]; unfold Gc; rw [aM]; rfl
   rw [e]
   exact (ih (by omega)).step h hn hl hc
 have := key l.length (ao _)
 rw [ax] at this
 exact this
theorem Afv {g : Int -> Int} : ∀ {l' l : List Int}, l'.Nodup -> (∀ m, m ∈ l' -> m ∈ l) -> (∀ m, m ∈ l -> 0 <= g m) -> sm g l' <= sm g l
 | [], l, _, _, h => Ap1 h
 | x :: l', l, hn, hs, h => by
  obtain ⟨n1, n2⟩ := List.nodup_cons.1 hn
  have hp := List.perm_cons_erase (hs x ag)
  have := Afv (g := g) (l' := l') (l := l.erase x) n2 (λ m hm => by
   rcases ah.1 (hp.mem_iff.1 (hs m (ai _ hm))) with e | e
   ·subst e; exact absurd hm n1
   ·exact e) λ m hm => h m (List.mem_of_mem_erase hm)
  rw [A3f g hp]
  show g x + sm g l' <= g x + sm g (l.erase x)
  omega
theorem Ec {b : Aa} {q r : Ab} (hq : As b q) (hr : As b r) (s : Ew b q r) (n : Nat) : B2 b r n = B2 b q n := by
 unfold B2; rw [s.groups hq.ncl hr.ncl]
theorem Afy {b : Aa} (h : Aw b) {q r : Ab} (hq : As b q) (hr : As b r) (s : Ew b q r) (n : Nat) : E2 b r n = E2 b q n := by
 unfold E2; rw [Ec hq hr s, s.sources h hq hr]
theorem Ag1 {b : Aa} (h : Aw b) {q : Ab} (hq : As b q) {n : Nat} : ∀ m, m ∈ Fg b q n -> 0 <= q.Ak.getD m.toNat 0 := λ m hm => (Mh h hq (Gd hm).1 (Gd hm).2).2.1
theorem An8 {b : Aa} (h : Aw b) {q r : Ab} (hq : As b q) (hr : As b r) (s : Ew b q r) (hL : r.Ak = q.Ak) (n : Nat) (hs : ∀ m, m ∈ Fg b r n -> m ∈ Fg b q n) : Cf b r n <= Cf b q n := by
 unfold Cf
 rw [Afy h hq hr s]
 have key : B8 b r n <= B8 b q n := by
  by_cases hh : 0 < (isl b q (B2 b q n)).Ac.length
  ·rw [J1 b q n hh, J1 b r n (by rw [Ec hq hr s, s.sources h hq hr]; exact hh), hL]
   exact Afv (Qz b r _) hs (Ag1 h hq)
  ·have e1 : B8 b q n = 0 := by unfold B8; rw [if_neg hh]
   have e2 : B8 b r n = 0 := by unfold B8; rw [Ec hq hr s, s.sources h hq hr, if_neg hh]
   omega
 omega
structure Lm (b : Aa) (q : Ab) (n : Nat) (l : List Int) (j : Nat) (C : List Bool) : Prop where
 ok : As b (Br q C)
 skel : Ew b q (Br q C)
 mono : ∀ k : Nat, C.getD k false = true -> q.Ag.getD k false = true
 fgs : ∀ k : Nat, fg b (Br q C) k = fg b q k \/ fg b (Br q C) k = none /\ (k : Int) ∈ l.take j
 pos : 0 < Cf b (Br q C) n -> ∀ m, m ∈ l.take j -> 0 < q.Ak.getD m.toNat 0 -> fg b (Br q C) m.toNat = none
 ord : ∀ (i : Nat) k, i < j -> l[i]? = some k -> fg b (Br q C) k.toNat = none -> 0 < Cf b q n /\ ∀ (i' : Nat) m, i' < i -> l[i']? = some m -> fg b (Br q C) m.toNat ≠ none -> q.Ak.getD m.toNat 0 <= 0
theorem Lm.sub {b : Aa} {q : Ab} (hq : As b q) {n : Nat} {l : List Int} {j : Nat} {C : List Bool} (hI : Lm b q n l j C) : ∀ m, m ∈ Fg b (Br q C) n -> m ∈ Fg b q n := λ m hm => by
 obtain ⟨k, e, h1, h2⟩ := Ff.1 hm
 rw [Ec hq hI.ok hI.skel] at h2
 refine Ff.2 ⟨k, e, h1, ?_⟩
 rcases hI.fgs k with h3 | h3
 ·rw [← h3]; exact h2
 ·rw [h3.1] at h2; cases h2
theorem Lm.step {b : Aa} (h : Aw b) {q : Ab} (hq : As b q) {n : Nat} {l : List Int} (hn : l.Nodup) (hl : ∀ c, c ∈ l -> c ∈ Fg b q n) {j : Nat} {c : Int} (hc : l[j]? = some c) {z : List Bool × List An} (hI : Lm b q n l j z.1) : Lm b q n l (j + 1) (G_ b q n z c).1 := by
 have hcm := hl c (ae hc)
 have hin := Gd hcm
 have htk : ∀ m, m ∈ l.take (j + 1) ↔ m ∈ l.take j \/ m = c := λ m => by
  rw [Bi hc, ar, aT]
 have hpos : ∀ m, m ∈ l.take j -> 0 <= m := λ m hm => (Gd (hl m (aP hm))).1
 have hnot : ∀ m, m ∈ l.take j -> m ≠ c := λ m hm e => by
  subst e
  obtain ⟨i, hi, hm⟩ := L6.1 hm
  have := (List.getElem?_inj (aa.1 hm).1 hn).1 (hm.trans hc.symm)
  omega
 have hexc := An8 h hq hI.ok hI.skel rfl n (hI.sub hq)
 obtain ⟨a, rfl⟩ : ∃ a : Nat, c = (a : Int) := ⟨c.toNat, by omega⟩
 have hfc : fg b q a ≠ none := by
  obtain ⟨k, e, _, h2⟩ := Ff.1 hcm
  have : k = a := by omega
  subst this
  rw [h2]; intro hh; cases hh
 by_cases hp : 0 < q.Ak.getD (a : Int).toNat 0 /\ 0 < Cf b (Br q z.1) n
 ·have e : (G_ b q n z (a : Int)).1 = acC b z.1 (isC (a : Int)) := by unfold G_; rw [if_pos hp]
  rw [e]
  have hok : As b (Br q (acC b z.1 (isC (a : Int)))) := Pk hI.ok (isC (a : Int))
  have hfg : ∀ k : Nat, fg b (Br q (acC b z.1 (isC (a : Int)))) k = if k = a then none else fg b (Br q z.1) k := λ k => A9w hI.ok a k
  have hsk : Ew b (Br q z.1) (Br q (acC b z.1 (isC (a : Int)))) := Aip (q := Br q z.1) a
  have hsub : ∀ m, m ∈ Fg b (Br q (acC b z.1 (isC (a : Int)))) n -> m ∈ Fg b (Br q z.1) n := λ m hm => by
   obtain ⟨k, e, h1, h2⟩ := Ff.1 hm
   rw [Ec hI.ok hok hsk, hfg] at h2
   split at h2
   ·cases h2
   ·exact Ff.2 ⟨k, e, h1, h2⟩
  have hle := An8 h hI.ok hok hsk rfl n hsub
  refine ⟨hok, hI.skel.trans hsk, λ k hk => hI.mono k ?_, λ k => ?_, λ he m hm hL => ?_, λ i k hi hk hf => ⟨by omega, λ i' m hi' hm hfm => ?_⟩⟩
  ·by_cases hlt : k < b.Ae.length
   ·rw [Pl b z.1 _ hlt, ac] at hk
    exact hk.1
   ·have : (acC b z.1 (isC (a : Int))).length = b.Ae.length := hok.ncl
    rw [List.getD, bP (by omega)] at hk
    cases hk
  ·rw [hfg]
   split
   ·rename_i e; subst e
    exact .inr ⟨rfl, (htk _).2 (.inr rfl)⟩
   ·rcases hI.fgs k with h1 | h1
    ·exact .inl h1
    ·exact .inr ⟨h1.1, (htk _).2 (.inl h1.2)⟩
  ·rw [hfg]
   split
   ·rfl
   ·rename_i hne
    rcases (htk m).1 hm with h1 | h1
    ·exact hI.pos (by omega) m h1 hL
    ·exact absurd (by rw [h1]; exact aE a) hne
  ·rw [hfg] at hfm
   split at hfm
   ·exact absurd rfl hfm
   ·have hm' : m ∈ l.take j := L6.2 ⟨i', by omega, hm⟩
    by_cases h0 : 0 < q.Ak.getD m.toNat 0
    ·exact absurd (hI.pos hp.2 m hm' h0) hfm
    ·omega
 ·have e : G_ b q n z (a : Int) = z := by unfold G_; rw [if_neg hp]
  rw [e]
  refine ⟨hI.ok, hI.skel, hI.mono, λ k => ?_, λ he m hm hL => ?_, λ i k hi hk hf => ?_⟩
  ·rcases hI.fgs k with h1 | h1
   ·exact .inl h1
   ·exact .inr ⟨h1.1, (htk _).2 (.inl h1.2)⟩
  ·rcases (htk m).1 hm with h1 | h1
   ·exact hI.pos he m h1 hL
   ·subst h1; exact absurd ⟨hL, he⟩ hp
  ·by_cases ei : i = j
   ·exfalso
    subst ei
    rw [hc] at hk; cases hk
    rw [aE] at hf
    rcases hI.fgs a with h1 | h1
    ·exact hfc (h1.symm.trans hf)
    ·exact hnot _ h1.2 rfl
   ·exact hI.ord i k (by omega) hk hf
theorem Ay0 {b : Aa} (h : Aw b) {q : Ab} (hq : As b q) {n : Nat} {l : List Int} (hn : l.Nodup) (hl : ∀ c, c ∈ l -> c ∈ Fg b q n) (acts : List An) : Lm b q n l l.length (D8 b q n l (q.Ag, acts)).1 := by
 have key : ∀ j, j <= l.length -> Lm b q n l j (D8 b q n (l.take j) (q.Ag, acts)).1 := by
  intro j
  induction j with
  | zero => intro _; exact ⟨hq, Ew.refl b q, λ _ hk => hk, λ _ => .inl rfl, λ _ m hm => by simp at hm, λ i _ hi => by omega⟩
  | succ j ih =>
   intro hj
   have hc : l[j]? = some l[j] := af (by omega)
   have e : D8 b q n (l.take (j + 1)) (q.Ag, acts) = G_ b q n (D8 b q n (l.take j) (q.Ag, acts)) l[j] := by
    rw [Bi hc]; unfold D8; rw [aM]; rfl
   rw [e]
   exact (ih (by omega)).step h hq hn hl hc
 have := key l.length (ao _)
 rw [ax] at this
 exact this
theorem Lm.none {b : Aa} (h : Aw b) {q : Ab} (hq : As b q) {n : Nat} {l : List Int} (hl : ∀ c, c ∈ Fg b q n -> c ∈ l) {C : List Bool} (hI : Lm b q n l l.length C) : Cf b (Br q C) n = 0 := by
 have h0 : 0 <= Cf b (Br q C) n := Int.le_max_left _ _
 by_cases hp : 0 < Cf b (Br q C) n
 ·exfalso
  have hs := yJ hp
  have hz : B8 b (Br q C) n = 0 := by
   rw [J1 b (Br q C) n hs]
   refine Ams λ m hm => ?_
   have hnn := Ag1 h hI.ok m hm
   by_cases hL : 0 < q.Ak.getD m.toNat 0
   ·exfalso
    have hf := hI.pos hp m (by rw [ax]; exact hl m (hI.sub hq m hm)) hL
    obtain ⟨k, e, _, h2⟩ := Ff.1 hm
    have : m.toNat = k := by omega
    rw [this, h2] at hf; cases hf
   ·have : (Br q C).Ak = q.Ak := rfl
    rw [this] at hnn ⊢
    omega
  have hr : 0 <= E2 b (Br q C) n := by
   unfold E2
   rw [Amq]
   refine Ap1 λ m hm => ?_
   have hm2 := yD hm
   have hg : b.Ac[m.toNat]? = some b.Ac[m.toNat] := af (by omega)
   have e : (Kd b).getD m.toNat 0 = b.Ac[m.toNat].Rating := by simp [Kd, List.getD, hg]
   have hr := (h.so _ (ae hg)).1
   show 0 <= (Kd b).getD m.toNat 0
   rw [e]; omega
  unfold Cf at hp
  omega
 ·omega
theorem Aik {b : Aa} (h : Aw b) {c : Ab} {f : Nat} (hx : isl b c f ∈ Bj b c) : B2 b c (Dy (isl b c f)) = f := by
 have hm : ((Dy (isl b c f) : Nat) : Int) ∈ Dr b c b.Aq.toNat f := by
  have hI := O7 h hx
  have e : (isl b c f).Aq = Dr b c b.Aq.toNat f := rfl
  have hne := hI.ne
  have h0 : ((Dy (isl b c f) : Nat) : Int) = (isl b c f).Aq.headD 0 := by
   unfold Dy
   cases hl : (isl b c f).Aq with
   | nil => exact absurd hl hne
   | cons y l =>
    have := (hI.bus y (by rw [hl]; exact ag)).1
    show ((y.toNat : Nat) : Int) = y
    omega
  rw [h0, ← e]
  cases hl : (isl b c f).Aq with
  | nil => exact absurd hl hne
  | cons y l => exact ag
 obtain ⟨k, hk, e⟩ := al.1 hm
 obtain ⟨_, h2⟩ := an.1 hk
 have ek : k = Dy (isl b c f) := by omega
 subst ek
 unfold B2
 rw [de] at h2
 rw [h2]; exact aE f
theorem A6j {b : Aa} (h : Aw b) {c : Ab} {x : Af} (hx : x ∈ Bj b c) : x = isl b c (B2 b c (Dy x)) /\ Dy x < b.Aq.toNat := by
 obtain ⟨_, hlt⟩ := Mo (O7 h hx)
 obtain ⟨h1, _⟩ := an.1 hx
 obtain ⟨f, hf, rfl⟩ := al.1 h1
 exact ⟨by rw [Aik h hx], hlt⟩
theorem Az7 {b : Aa} (h : Aw b) {q r : Ab} (hq : As b q) (hr : As b r) (s : Ew b q r) (hL : ∀ k : Nat, r.Ak.getD k 0 <= q.Ak.getD k 0) (n : Nat) (hs : ∀ m, m ∈ Fg b r n -> m ∈ Fg b q n) : Cf b r n <= Cf b q n := by
 unfold Cf
 rw [Afy h hq hr s]
 have key : B8 b r n <= B8 b q n := by
  by_cases hh : 0 < (isl b q (B2 b q n)).Ac.length
  ·rw [J1 b q n hh, J1 b r n (by rw [Ec hq hr s, s.sources h hq hr]; exact hh)]
   have h1 : ∀ (l : List Int), sm (λ m => r.Ak.getD m.toNat 0) l <= sm (λ m => q.Ak.getD m.toNat 0) l := by
    intro l
    induction l with
    | nil => exact bv _
    | cons a l ih =>
     have := hL a.toNat
     show r.Ak.getD a.toNat 0 + sm _ l <= q.Ak.getD a.toNat 0 + sm _ l
     omega
   exact cd (h1 _) (Afv (Qz b r _) hs (Ag1 h hq))
  ·have e1 : B8 b q n = 0 := by unfold B8; rw [if_neg hh]
   have e2 : B8 b r n = 0 := by unfold B8; rw [Ec hq hr s, s.sources h hq hr, if_neg hh]
   omega
 omega
structure Don (b : Aa) (c q : Ab) (x : Af) : Prop where
 exc : Cf b q (Dy x) = 0
 ord : ∀ (i : Nat) k, (Di b x)[i]? = some k -> (fg b q k.toNat = none \/ q.Ak.getD k.toNat 0 ≠ c.Ak.getD k.toNat 0) -> ∀ (i' : Nat) m, i' < i -> (Di b x)[i']? = some m -> fg b q m.toNat ≠ none -> q.Ak.getD m.toNat 0 <= Nk b m /\ (fg b q k.toNat = none -> q.Ak.getD m.toNat 0 <= 0)
structure Aft (b : Aa) (D : List Af) (q r : Ab) : Prop where
 ok : As b r
 skel : Ew b q r
 brk : r.Ao = q.Ao
 mono : ∀ k : Nat, r.Ag.getD k false = true -> q.Ag.getD k false = true
 le : ∀ k : Nat, r.Ak.getD k 0 <= q.Ak.getD k 0
 fgs : ∀ k : Nat, fg b r k = fg b q k \/ fg b r k = none
 out : ∀ k : Nat, (∀ x, x ∈ D -> C1 x (k : Int) = false) -> fg b r k = fg b q k /\ r.Ak.getD k 0 = q.Ak.getD k 0
theorem Aft.refl {b : Aa} {q : Ab} (hq : As b q) : Aft b [] q q := ⟨hq, Ew.refl b q, rfl, λ _ hk => hk, λ _ => bv _, λ _ => .inl rfl, λ _ _ => ⟨rfl, rfl⟩⟩
theorem Aft.trans {b : Aa} {D E : List Af} {q r s : Ab} (u : Aft b D q r) (v : Aft b E r s) : Aft b (D ++ E) q s where
 ok := v.ok
 skel := u.skel.trans v.skel
 brk := v.brk.trans u.brk
 mono k hk := u.mono k (v.mono k hk)
 le k := cd (v.le k) (u.le k)
 fgs k := by
  rcases v.fgs k with h1 | h1
  ·rw [h1]; exact u.fgs k
  ·exact .inr h1
 out k hk := by
  obtain ⟨a1, a2⟩ := u.out k λ x hx => hk x (ar.2 (.inl hx))
  obtain ⟨b1, b2⟩ := v.out k λ x hx => hk x (ar.2 (.inr hx))
  exact ⟨b1.trans a1, b2.trans a2⟩
theorem Aft.con {b : Aa} {D : List Af} {q r : Ab} (hq : As b q) (u : Aft b D q r) (n : Nat) : ∀ m, m ∈ Fg b r n -> m ∈ Fg b q n := λ m hm => by
 obtain ⟨k, e, h1, h2⟩ := Ff.1 hm
 rw [Ec hq u.ok u.skel] at h2
 refine Ff.2 ⟨k, e, h1, ?_⟩
 rcases u.fgs k with h3 | h3
 ·rw [← h3]; exact h2
 ·rw [h3] at h2; cases h2
theorem Qa {b : Aa} {x : Af} {k : Int} (hk : k ∈ Di b x) : C1 x k = true := (an.1 hk).2
theorem Don.aft {b : Aa} (h : Aw b) {c q r : Ab} (hq : As b q) {x : Af} {D : List Af} (u : Don b c q x) (v : Aft b D q r) (hd : ∀ y, y ∈ D -> ∀ k, ¬ (C1 x k = true /\ C1 y k = true)) : Don b c r x := by
 have hsame : ∀ k, k ∈ Di b x -> fg b r k.toNat = fg b q k.toNat /\ r.Ak.getD k.toNat 0 = q.Ak.getD k.toNat 0 := λ k hk => by
  refine v.out k.toNat λ y hy => ?_
  have h0 := (Fq h hk).1
  have e : (k.toNat : Int) = k := by omega
  rw [e]
  cases hy2 : C1 y k
  ·rfl
  ·exact absurd ⟨Qa hk, hy2⟩ (hd y hy k)
 refine ⟨?_, λ i k hk hch i' m hi hm hf => ?_⟩
 ·have h1 := Az7 h hq v.ok v.skel v.le (Dy x) (v.con hq _)
  have h2 : 0 <= Cf b r (Dy x) := Int.le_max_left _ _
  have h3 := u.exc
  omega
 ·obtain ⟨a1, a2⟩ := hsame k (ae hk)
  obtain ⟨b1, b2⟩ := hsame m (ae hm)
  rw [a1, a2] at hch
  rw [b1] at hf
  rw [a1, b2]
  exact u.ord i k hk hch i' m hi hm hf
theorem Ay8 {b : Aa} (h : Aw b) {c q : Ab} (hc : As b c) {D : List Af} (u : Aft b D c q) (hq : As b q) {x : Af} (hx : x ∈ Bj b c) (hd : ∀ y, y ∈ D -> ∀ k, ¬ (C1 y k = true /\ C1 x k = true)) (acts : List An) :
  Aft b [x] q (Ie b (q, acts) x).1 /\ Don b c (Ie b (q, acts) x).1 x := by
 obtain ⟨ex, hlt⟩ := A6j h hx
 have hg : B2 b q (Dy x) = B2 b c (Dy x) := Ec hc hq u.skel _
 have hso : (isl b q (B2 b q (Dy x))).Ac = x.Ac := by rw [hg, u.skel.sources h hc hq, ← ex]
 have hsame : ∀ k, k ∈ Di b x -> fg b q k.toNat = fg b c k.toNat /\ q.Ak.getD k.toNat 0 = c.Ak.getD k.toNat 0 := λ k hk => by
  refine u.out k.toNat λ y hy => ?_
  have h0 := (Fq h hk).1
  have e : (k.toNat : Int) = k := by omega
  rw [e]
  cases hy2 : C1 y k
  ·rfl
  ·exact absurd ⟨hy2, Qa hk⟩ (hd y hy k)
 have hnd : (Di b x).Nodup := (Au7 h).sublist List.filter_sublist
 have hcon : ∀ k, k ∈ Di b x -> k ∈ Fg b q (Dy x) := λ k hk => by
  have h1 : k ∈ (isl b c (B2 b c (Dy x))).Ad := by rw [← ex]; exact Ag3.1 (Qa hk)
  obtain ⟨a, e, h2, h3⟩ := Ff.1 h1
  have h4 := (hsame k hk).1
  have ea : k.toNat = a := by omega
  rw [ea] at h4
  exact Ff.2 ⟨a, e, h2, by rw [hg, h4]; exact h3⟩
 have hrev : ∀ k, k ∈ Fg b q (Dy x) -> k ∈ Di b x := λ k hk => by
  have h1 := u.con hc _ k hk
  have h2 : k ∈ x.Ad := by rw [ex]; exact h1
  exact an.2 ⟨(An0 h).2 (Gd h1), Ag3.2 h2⟩
 unfold Ie
 split
 ·rename_i hs
  have hlow := A3r h hq hnd hcon acts
  have hq1 := hlow.ok
  have htr := Ay0 h hq1 (n := Dy x) hnd hcon (Fz b x (q, acts)).2
  have hex := htr.none h hq1 hrev
  show Aft b [x] q (Br (Bh q (Fz b x (q, acts)).1) (K2 b x (q, acts)).1) /\ Don b c (Br (Bh q (Fz b x (q, acts)).1) (K2 b x (q, acts)).1) x
  refine ⟨⟨htr.ok, ?_, rfl, htr.mono, hlow.le, λ k => ?_, λ k hk => ?_⟩, ⟨hex, λ i k hk hch i' m hi hm hf => ?_⟩⟩
  ·exact ⟨rfl, htr.skel.cl⟩
  ·rcases htr.fgs k with h1 | h1
   ·exact .inl h1
   ·exact .inr h1.1
  ·have hkx := hk x ag
   have hno : (k : Int) ∉ Di b x := λ hh => by rw [Qa hh] at hkx; cases hkx
   refine ⟨?_, hlow.out k λ hh => hno (aP hh)⟩
   rcases htr.fgs k with h1 | h1
   ·exact h1
   ·exact absurd (aP h1.2) hno
  ·have hi2 : i < (Di b x).length := (aa.1 hk).1
   have hmt : m ∈ (Di b x).take (Di b x).length := by rw [ax]; exact ae hm
   by_cases hn : fg b (Br (Bh q (Fz b x (q, acts)).1) (K2 b x (q, acts)).1) k.toNat = none
   ·obtain ⟨h1, h2⟩ := htr.ord i k hi2 hk hn
    exact ⟨hlow.low h1 m hmt, λ _ => h2 i' m hi hm hf⟩
   ·have hch2 : (Fz b x (q, acts)).1.getD k.toNat 0 ≠ q.Ak.getD k.toNat 0 := by
     rw [(hsame k (ae hk)).2]
     rcases hch with h1 | h1
     ·exact absurd h1 hn
     ·exact h1
    exact ⟨hlow.ord i k hi2 hk hch2 i' m hi hm, λ hh => absurd hh hn⟩
 ·rename_i hs
  have hex : Cf b q (Dy x) = 0 := by
   have h0 : 0 <= Cf b q (Dy x) := Int.le_max_left _ _
   by_cases hp : 0 < Cf b q (Dy x)
   ·have := yJ hp
    rw [hso] at this
    exact absurd this hs
   ·omega
  refine ⟨⟨hq, Ew.refl b q, rfl, λ _ hk => hk, λ _ => bv _, λ _ => .inl rfl, λ _ _ => ⟨rfl, rfl⟩⟩, ⟨hex, λ i k hk hch => ?_⟩⟩
  exfalso
  obtain ⟨a1, a2⟩ := hsame k (ae hk)
  rcases hch with h1 | h1
  ·have h1' : fg b q k.toNat = none := h1
   obtain ⟨a, e, _, h3⟩ := Ff.1 (hcon k (ae hk))
   have ea : k.toNat = a := by omega
   rw [ea, h3] at h1'; cases h1'
  ·exact h1 a2
theorem Agg {b : Aa} (h : Aw b) {c : Ab} (hc : As b c) (acts : List An) : ∀ (E D : List Af) (q : Ab) (as : List An), D ++ E = Bj b c -> Aft b D c q -> (∀ x, x ∈ D -> Don b c q x) ->
  Aft b (Bj b c) c (G7 b E (q, as)).1 /\ ∀ x, x ∈ Bj b c -> Don b c (G7 b E (q, as)).1 x
 | [], D, q, as, e, u, v => by
  rw [aN] at e; subst e
  exact ⟨u, v⟩
 | x :: E, D, q, as, e, u, v => by
  have hx : x ∈ Bj b c := by rw [← e]; exact ar.2 (.inr ag)
  have hap := Adx h c
  rw [← e] at hap
  obtain ⟨_, _, hap3⟩ := List.pairwise_append.1 hap
  have hd : ∀ y, y ∈ D -> ∀ k, ¬ (C1 y k = true /\ C1 x k = true) := λ y hy k => hap3 y hy x ag k
  obtain ⟨h1, h2⟩ := Ay8 h hc u u.ok hx hd as
  have e2 : G7 b (x :: E) (q, as) = G7 b E ((Ie b (q, as) x).1, (Ie b (q, as) x).2) := rfl
  rw [e2]
  refine Agg h hc acts E (D ++ [x]) _ _ (by rw [bj]; exact e) (u.trans h1) λ y hy => ?_
  rcases ar.1 hy with hy | hy
  ·refine (v y hy).aft h u.ok h1 λ z hz k => ?_
   rw [aT.1 hz]
   exact hd y hy k
  ·rw [aT.1 hy]; exact h2
theorem Vh {b : Aa} (h : Aw b) {p : Ab} (hp : As b p) : Aft b (Bj b (E5 b p)) (E5 b p) (B4 b p) /\ ∀ x, x ∈ Bj b (E5 b p) -> Don b (E5 b p) (B4 b p) x :=
 Agg h (J6 hp) [] _ [] _ _ rfl (Aft.refl (J6 hp)) λ x hx => by cases hx
theorem Avc {b : Aa} (h : Aw b) {p : Ab} (hp : As b p) {n : Nat} (hn : n < b.Aq.toNat) : F75 b p (n : Int) = some (B8 b p n) := by
 have hcl := h.col
 have hlen : (isl b p (B2 b p n)).Ad.length <= b.Ad.length := Dk _ _
 have hof : F54 b p (n : Int) = some (isl b p (B2 b p n), true) := Vk h hp hn
 unfold F75
 rw [hof]
 simp only [ab]
 by_cases hs : 0 < (isl b p (B2 b p n)).Ac.length
 ·have e0 : jZ (isl b p (B2 b p n), true) = false := by
   unfold jZ
   simp only [be, aS, dg]
   omega
  rw [e0, cond_false]
  have key : Ok (andThen (foldI (qP p) (isl b p (B2 b p n)).Ad 0 0) (λ _ => none) λ z0 => some z0) λ y => y = B8 b p n := by
   refine Ok.andThen (A := λ s => s = B8 b p n) (B := λ (_ : Unit) => False) ?_ (λ s hs => c4 hs) (λ _ h => h.elim)
   refine c6 (I := λ j s => s = Jq p.Ak ((isl b p (B2 b p n)).Ad.take j) /\ 0 <= s /\ s <= 50000 * (j : Int)) ⟨rfl, by omega, by omega⟩ (λ j c s hc hI => ?_) λ s hI => ?_
   ·obtain ⟨h1, h2, h3⟩ := hI
    have hj : j < (isl b p (B2 b p n)).Ad.length := (aa.1 hc).1
    have hcm := Gd (ae hc)
    obtain ⟨g1, g2, g3, g4⟩ := Mh h hp hcm.1 hcm.2
    unfold qP
    rw [g1]
    simp only [ab]
    rw [Bb (by omega)]
    refine c5 ⟨?_, by omega, by omega⟩
    rw [Bi hc, M0, h1]
   ·rw [ax] at hI
    unfold B8
    rw [if_pos hs]
    exact hI.1
  obtain ⟨r, e, h1⟩ := key
  rw [h1] at e
  exact e
 ·have e0 : jZ (isl b p (B2 b p n), true) = true := by
   unfold jZ
   simp only [be, aS, de]
   omega
  rw [e0, cond_true]
  unfold B8
  rw [if_neg hs]
theorem Al3 {b : Aa} (h : Aw b) {p : Ab} (hp : As b p) {n : Nat} (hn : n < b.Aq.toNat) : F76 b p (n : Int) = some (E2 b p n) := by
 have hcl := h.sol
 have hlen : (isl b p (B2 b p n)).Ac.length <= b.Ac.length := Dk _ _
 have key : Ok (F76 b p (n : Int)) λ y => y = E2 b p n := by
  unfold F76
  have hof : F54 b p (n : Int) = some (isl b p (B2 b p n), true) := Vk h hp hn
  rw [hof]
  simp only [ab]
  refine Ok.andThen (A := λ s => s = E2 b p n) (B := λ (_ : Unit) => False) ?_ (λ s hs => c4 hs) (λ _ h => h.elim)
  refine c6 (I := λ j s => s = Jq (Kd b) ((isl b p (B2 b p n)).Ac.take j) /\ 0 <= s /\ s <= 50000 * (j : Int)) ⟨rfl, by omega, by omega⟩ (λ j c s hc hI => ?_) λ s hI => ?_
  ·obtain ⟨h1, h2, h3⟩ := hI
   have hj : j < (isl b p (B2 b p n)).Ac.length := (aa.1 hc).1
   have hcm := yD (ae hc)
   unfold Aj4
   refine (c8 hcm.1 hcm.2).bind λ y hy => ?_
   have hr := (h.so y (ae hy)).1
   have e : (Kd b).getD c.toNat 0 = y.Rating := by simp [Kd, List.getD, hy]
   rw [Bb (by omega)]
   refine c5 ⟨?_, by omega, by omega⟩
   rw [Bi hc, M0, h1, e]
  ·rw [ax] at hI
   exact hI.1
 obtain ⟨r, e, h1⟩ := key
 rw [h1] at e
 exact e
theorem Anz {b : Aa} (h : Aw b) {p : Ab} (hp : As b p) {n : Nat} (hn : n < b.Aq.toNat) : F26 b p (n : Int) = some (decide (0 < Cf b p n)) := by
 unfold F26
 rw [Avc h hp hn, Al3 h hp hn]
 simp only [ab]
 have e : B8 b p n > E2 b p n ↔ 0 < Cf b p n := by unfold Cf; omega
 rw [decide_eq_decide.2 e]
theorem Aoi {r : Int -> Int} : ∀ {l m : List Int}, l.Pairwise (λ a b => r a < r b) -> m.Pairwise (λ a b => r a < r b) -> (∀ x, x ∈ l ↔ x ∈ m) -> l = m
 | [], [], _, _, _ => rfl
 | [], b :: m, _, _, h => by have := (h b).2 ag; cases this
 | a :: l, [], _, _, h => by have := (h a).1 ag; cases this
 | a :: l, b :: m, h1, h2, h => by
  obtain ⟨p1, p2⟩ := aW.1 h1
  obtain ⟨q1, q2⟩ := aW.1 h2
  have e : a = b := by
   rcases ah.1 ((h a).1 ag) with e | e
   ·exact e
   ·rcases ah.1 ((h b).2 ag) with e2 | e2
    ·exact e2.symm
    ·have := q1 a e; have := p1 b e2; omega
  subst e
  rw [Aoi p2 q2 λ x => ⟨λ hx => ?_, λ hx => ?_⟩]
  ·rcases ah.1 ((h x).1 (ai _ hx)) with e | e
   ·subst e; have := p1 x hx; omega
   ·exact e
  ·rcases ah.1 ((h x).2 (ai _ hx)) with e | e
   ·subst e; have := q1 x hx; omega
   ·exact e
theorem A3l {b : Aa} (h : Aw b) : (Gk b).Pairwise λ x y => key b x < key b y := by
 have hs := (Jw h).2
 have hl := hs.len
 rw [List.pairwise_iff_getElem]
 intro i j hi hj hij
 have := hs.asc i j hij (by omega) (by omega)
 simpa only [List.getD, af hi, af hj, bG] using this
def N7 (b : Aa) (c : Int) : Int := (b.Ad.getD c.toNat default).Bn
abbrev Aam (b : Aa) (l : List Int) : Prop := l.Pairwise λ x y => key b x < key b y
theorem Aqd {b : Aa} (h : Aw b) : F74 b = some (Gk b) := by
 have hcl := h.col
 have hpr : ∀ c : Int, 0 <= c -> c < b.Ad.length -> 0 <= N7 b c /\ N7 b c <= 15 := λ c h0 h1 => (h.co c.toNat _ (F0 (b := b) (i := c.toNat) (by omega))).2.2.1
 have key : Ok (F74 b) λ y => Aam b y /\ ∀ x : Int, x ∈ y ↔ 0 <= x /\ x < b.Ad.length := by
  unfold F74
  rw [Agi h]
  simp only [ab]
  refine c3 (λ hc => by simp at hc) (λ _ => ?_)
  refine Ok.andThen (A := λ (s : Int × List Int) => Aam b s.2 /\ ∀ x : Int, x ∈ s.2 ↔ 0 <= x /\ x < b.Ad.length) (B := λ (_ : Unit) => False) ?_ (λ s hs => c4 hs) (λ _ h => h.elim)
  refine c7 (λ (s : Int × List Int) => (0 <= s.1 /\ s.1 <= 16) /\ (s.2.length : Int) <= 16 * s.1 /\ Aam b s.2 /\ ∀ x : Int, x ∈ s.2 ↔ 0 <= x /\ x < b.Ad.length /\ N7 b x < s.1) (λ s => (16 - s.1).toNat) _ _ ⟨by dsimp only; omega, by simp, List.Pairwise.nil, λ x => ⟨λ hx => (by cases hx), λ ⟨h0, h1, h2⟩ => ?_⟩⟩ (by dsimp only; omega) ?_
  ·exfalso
   have := (hpr x h0 h1).1
   dsimp only at h2
   omega
  rintro ⟨k, d⟩ ⟨hk, hl, hd, hm⟩
  dsimp only at hk hd hm hl
  unfold Aj6
  dsimp only
  refine c3 (λ hq => ?_) (λ hq => ?_)
  ·simp only [da] at hq
   refine Ok.andThen (A := λ (s : List Int) => (s.length : Int) <= 16 * (k + 1) /\ Aam b s /\ ∀ x : Int, x ∈ s ↔ 0 <= x /\ x < b.Ad.length /\ N7 b x < k + 1) (B := λ (_ : Unit) => False) ?_ (λ s hs => ?_) (λ _ h => h.elim)
   ·refine c6 (I := λ j (s : List Int) => (s.length : Int) <= 16 * k + j /\ Aam b s /\ ∀ x : Int, x ∈ s ↔ 0 <= x /\ x < b.Ad.length /\ (N7 b x < k \/ N7 b x = k /\ x < (j : Int))) ⟨by omega, hd, λ x => ?_⟩ (λ j c s hc hI => ?_) λ s hI => ⟨by omega, hI.2.1, λ x => ?_⟩
    ·rw [hm]
     constructor
     ·rintro ⟨h0, h1, h2⟩; exact ⟨h0, h1, .inl h2⟩
     ·rintro ⟨h0, h1, h2 | ⟨_, h2⟩⟩
      ·exact ⟨h0, h1, h2⟩
      ·omega
    ·obtain ⟨i1, i2, i3⟩ := hI
     have hj : j < b.Ad.length := (aa.1 hc).1
     have ep : N7 b (j : Int) = c.Bn := by simp [N7, List.getD, hc]
     have ec : cnt 0 j = (j : Int) := C_ (by omega)
     unfold Aj5
     dsimp only
     refine c3 (λ hq2 => ?_) (λ hq2 => ?_)
     ·simp only [de] at hq2
      refine (c9 (by simp; omega)).bind λ y hy => c5 ?_
      rw [hy, ec]
      refine ⟨by simp; omega, ?_, λ x => ?_⟩
      ·unfold Aam
       rw [List.pairwise_append]
       refine ⟨i2, List.pairwise_singleton _ _, λ x hx y hy => ?_⟩
       rw [aT.1 hy]
       obtain ⟨x0, x1, x2⟩ := (i3 x).1 hx
       have e1 : key b x = N7 b x * 100 + x := rfl
       have e2 : key b (j : Int) = N7 b (j : Int) * 100 + (j : Int) := rfl
       rw [e1, e2, ep]
       omega
      ·rw [ar, aT, i3]
       constructor
       ·rintro (⟨x0, x1, x2⟩ | e)
        ·exact ⟨x0, x1, by omega⟩
        ·subst e; exact ⟨by omega, by omega, .inr ⟨by omega, by omega⟩⟩
       ·rintro ⟨x0, x1, x2⟩
        by_cases e : x = (j : Int)
        ·exact .inr e
        ·exact .inl ⟨x0, x1, by omega⟩
     ·simp only [dg] at hq2
      refine c5 ⟨by omega, i2, λ x => ?_⟩
      rw [i3]
      constructor
      ·rintro ⟨x0, x1, x2⟩; exact ⟨x0, x1, by omega⟩
      ·rintro ⟨x0, x1, x2⟩
       by_cases e : x = (j : Int)
       ·subst e; exact ⟨x0, x1, by omega⟩
       ·exact ⟨x0, x1, by omega⟩
    ·rw [hI.2.2]
     constructor
     ·rintro ⟨x0, x1, x2⟩; exact ⟨x0, x1, by omega⟩
     ·rintro ⟨x0, x1, x2⟩; exact ⟨x0, x1, by omega⟩
   ·have e2 : w64 (k + 1) = k + 1 := Bb (by omega)
    rw [e2]
    exact c5 ⟨⟨by dsimp only; omega, hs⟩, by dsimp only; omega⟩
  ·simp only [db] at hq
   refine cJ ⟨hd, λ x => ?_⟩
   dsimp only
   rw [hm]
   refine ⟨λ ⟨h0, h1, _⟩ => ⟨h0, h1⟩, λ ⟨h0, h1⟩ => ⟨h0, h1, ?_⟩⟩
   have := (hpr x h0 h1).2
   omega
 obtain ⟨r, e, h1, h2⟩ := key
 rw [e, Aoi h1 (A3l h) λ x => (h2 x).trans (An0 h).symm]
theorem Apy {b : Aa} (h : Aw b) {p : Ab} (hp : As b p) {j : Nat} {x : Aj} (hx : b.Ae[j]? = some x) : All b p (j : Int) = some (B6 p x) := by
 have hbr := (h.br x (ae hx)).2
 have hns := hp.nso
 unfold All B6
 rw [Bm hx]
 simp only [Amh, ab]
 cases brk p.Ao 3 x.A with
 | true => rfl
 | false =>
  simp only [cond_false, aS]
  rcases hbr with ⟨hk, _⟩ | ⟨hk, h0, h1⟩ | ⟨hk, _⟩
  ·rw [hk]; rfl
  ·rw [hk]
   have e : p.Ac[x.B.toNat]? = some (p.Ac.getD x.B.toNat default) := by
    rw [af (by omega)]; simp [List.getD, List.getElem?_eq_getElem (show x.B.toNat < p.Ac.length by omega)]
   have e2 : getI p.Ac x.B = some (p.Ac.getD x.B.toNat default) := by
    unfold getI; rw [dh h0]; exact e
   rw [e2]
   cases brk p.Ao 1 x.B <;> rfl
  ·rw [hk]; rfl
theorem Avd {b : Aa} (h : Aw b) {q r : Ab} (hq : As b q) (hr : As b r) (s : Ew b q r) (n : Nat) : Hd b r n = Hd b q n := by
 unfold Hd; rw [s.groups hq.ncl hr.ncl, s.sources h hq hr]
theorem Aby {b : Aa} {C : List Bool} {q : Aj -> Bool} {j : Nat} : (C5 C (B5 b C q j)).getD j false = C.getD j false := by
 rw [Nh]
 have : ((B5 b C q j).any λ i => i.toNat == j) = false := by
  rw [bJ]
  intro i hi
  obtain ⟨k, e, hk, _⟩ := Ft.1 hi
  simp only [de]
  omega
 rw [this]; simp
theorem Awk {b : Aa} {p : Ab} {j : Nat} : Ew b p ⟨C5 p.Ag (B5 b p.Ag (Cv b p) j), p.Ac, p.Ak, p.Ao⟩ := ⟨rfl, λ k x hx hk => by
 show (C5 p.Ag (B5 b p.Ag (Cv b p) j)).getD k false = _
 rw [Nh]
 have : ((B5 b p.Ag (Cv b p) j).any λ i => i.toNat == k) = false := by
  rw [bJ]
  intro i hi
  obtain ⟨m, e, _, _, hd⟩ := Ft.1 hi
  simp only [de]
  intro e2
  have : m = k := by omega
  subst this
  rw [Pg hx] at hd
  simp only [Cv, ac, de] at hd
  exact hk hd.1
 rw [this]; simp⟩
theorem Ard {b : Aa} (h : Aw b) {p : Ab} (hp : As b p) : Ok (F73 b p) λ y => y.1 = E5 b p /\ y.2.2 = 0 /\ y.2.1.length <= 48 := by
 have hbl := h.brl
 have hcl := hp.ncl
 unfold F73
 rw [Ir h hp]
 simp only [ab]
 refine c3 (λ hc => by simp at hc) (λ _ => ?_)
 rw [yQ h hp]
 simp only [ab]
 refine Ok.andThen (A := λ (s : Int × List Bool × List An) => s.2.1 = (Cg b p).Ag /\ s.2.2.length <= 24) (B := λ (_ : Unit) => False) ?_ (λ s hs => ?_) (λ _ h => h.elim)
 ·refine c7 (λ (s : Int × List Bool × List An) => ∃ j : Nat, s.1 = (j : Int) /\ j <= b.Ae.length /\ s.2.1 = C5 p.Ag (B5 b p.Ag (B6 p) j) /\ s.2.2.length <= j) (λ s => (100 - s.1).toNat) _ _ ⟨0, rfl, by omega, rfl, by simp⟩ (by dsimp only; omega) ?_
  rintro ⟨z, C, as⟩ ⟨j, hz, h1, h2, h3⟩
  dsimp only at hz h2 h3
  subst hz
  subst h2
  unfold Aj8 A2i
  dsimp only
  have hlen : (C5 p.Ag (B5 b p.Ag (B6 p) j)).length = b.Ae.length := by rw [Kq]; exact hcl
  refine c3 (λ hq => ?_) (λ hq => ?_)
  ·simp only [da] at hq
   have hj : j < b.Ae.length := by omega
   have hx : b.Ae[j]? = some (b.Ae.getD j default) := by
    rw [af hj]; simp [List.getD, List.getElem?_eq_getElem hj]
   have hg : getI (C5 p.Ag (B5 b p.Ag (B6 p) j)) (j : Int) = some (p.Ag.getD j false) := by
    rw [← Aby (b := b) (C := p.Ag) (q := B6 p)]
    refine Bm ?_
    rw [af (by omega)]
    simp [List.getD, List.getElem?_eq_getElem (show j < (C5 p.Ag (B5 b p.Ag (B6 p) j)).length by omega)]
   rw [hg, Apy h hp hx]
   simp only [ab]
   have e2 : w64 ((j : Int) + 1) = ((j + 1 : Nat) : Int) := by rw [Bb (by omega)]; omega
   have hsu := Jj (C := p.Ag) (q := B6 p) hx
   rw [e2]
   have eg : (Az [(p.Ag.getD j false, true)] (some (B6 p (b.Ae.getD j default))) default) = some (bif p.Ag.getD j false then B6 p (b.Ae.getD j default) else default) := by
    cases p.Ag.getD j false <;> rfl
   rw [eg]
   simp only [ab]
   have ec : (p.Ag.getD j false && bif p.Ag.getD j false then B6 p (b.Ae.getD j default) else default) = (p.Ag.getD j false && B6 p (b.Ae.getD j default)) := by
    cases p.Ag.getD j false <;> rfl
   rw [ec]
   refine c3 (λ hc => ?_) (λ hc => ?_)
   ·refine (cI (by omega) (by omega)).bind λ y hy => ?_
    refine (c9 (by simp; omega)).bind λ w hw => c5 ⟨⟨j + 1, rfl, by omega, ?_, by rw [hw]; simp; omega⟩, by dsimp only; omega⟩
    rw [hsu, if_pos hc, Qb, hy]
   ·refine c5 ⟨⟨j + 1, rfl, by omega, ?_, by dsimp only; omega⟩, by dsimp only; omega⟩
    rw [hsu, if_neg (by rw [hc]; simp), aN]
  ·simp only [db] at hq
   have : j = b.Ae.length := by omega
   subst this
   exact cJ ⟨rfl, by dsimp only; omega⟩
 ·obtain ⟨i, C, as⟩ := s
  dsimp only at hs
  obtain ⟨hC, ha⟩ := hs
  subst hC
  have hq1 : As b (Cg b p) := V6 hp
  have hlen1 : (Cg b p).Ag.length = b.Ae.length := hq1.ncl
  refine Ok.andThen (A := λ (s : List Bool × List An) => s.1 = (yT b p).Ag /\ s.2.length <= 48) (B := λ (_ : Unit) => False) ?_ (λ s hs => ?_) (λ _ h => h.elim)
  ·refine c6 (I := λ j (s : List Bool × List An) => s.1 = C5 (Cg b p).Ag (B5 b (Cg b p).Ag (Cv b (Cg b p)) j) /\ s.2.length <= 24 + j) ⟨rfl, by dsimp only; omega⟩ (λ j x s hx hI => ?_) λ s hI => ⟨hI.1, by have := hI.2; omega⟩
   obtain ⟨D, as2⟩ := s
   obtain ⟨h1, h2⟩ := hI
   dsimp only at h1 h2
   subst h1
   have hj : j < b.Ae.length := (aa.1 hx).1
   have hlen : (C5 (Cg b p).Ag (B5 b (Cg b p).Ag (Cv b (Cg b p)) j)).length = b.Ae.length := by rw [Kq]; exact hlen1
   have ec : cnt 0 j = (j : Int) := C_ (by omega)
   have hg : getI (C5 (Cg b p).Ag (B5 b (Cg b p).Ag (Cv b (Cg b p)) j)) (j : Int) = some ((Cg b p).Ag.getD j false) := by
    rw [← Aby (b := b) (C := (Cg b p).Ag) (q := Cv b (Cg b p))]
    refine Bm ?_
    rw [af (by omega)]
    simp [List.getD, List.getElem?_eq_getElem (show j < (C5 (Cg b p).Ag (B5 b (Cg b p).Ag (Cv b (Cg b p)) j)).length by omega)]
   have hok : As b ⟨C5 (Cg b p).Ag (B5 b (Cg b p).Ag (Cv b (Cg b p)) j), p.Ac, p.Ak, p.Ao⟩ := Xm _ hq1
   have hA := (h.br x (ae hx)).1
   have hlive : F28 b ⟨C5 (Cg b p).Ag (B5 b (Cg b p).Ag (Cv b (Cg b p)) j), p.Ac, p.Ak, p.Ao⟩ x.A = some (Hd b (Cg b p) x.A.toNat) := by
    have e : x.A = ((x.A.toNat : Nat) : Int) := by omega
    have := Abz h hok (n := x.A.toNat) (by omega)
    rw [← e] at this
    rw [this, ← Avd h hq1 hok Awk]
   have hsu := Jj (C := (Cg b p).Ag) (q := Cv b (Cg b p)) hx
   unfold Aj7
   dsimp only
   rw [ec, hg, hlive]
   have e1 : (Az [((x.Kind == 3), true)] (some ((Cg b p).Ag.getD j false)) default) = some (bif x.Kind == 3 then (Cg b p).Ag.getD j false else default) := by
    cases x.Kind == 3 <;> rfl
   rw [e1]
   simp only [ab]
   have e2 : ∀ g : Bool, (Az [(g, true)] (some (Hd b (Cg b p) x.A.toNat)) default) = some (bif g then Hd b (Cg b p) x.A.toNat else default) := by
    intro g; cases g <;> rfl
   rw [e2]
   simp only [ab]
   have e3 : ((x.Kind == 3) && (bif x.Kind == 3 then (Cg b p).Ag.getD j false else default) && !(bif (x.Kind == 3) && (bif x.Kind == 3 then (Cg b p).Ag.getD j false else default) then Hd b (Cg b p) x.A.toNat else default)) = ((Cg b p).Ag.getD j false && Cv b (Cg b p) x) := by
    unfold Cv
    cases x.Kind == 3 <;> cases (Cg b p).Ag.getD j false <;> rfl
   rw [e3]
   refine c3 (λ hc => ?_) (λ hc => ?_)
   ·refine (cI (by omega) (by omega)).bind λ y hy => ?_
    refine (c9 (by simp; omega)).bind λ w hw => c5 ⟨?_, by rw [hw]; simp; omega⟩
    rw [hsu, if_pos hc, Qb, hy]
   ·refine c5 ⟨?_, by dsimp only; omega⟩
    rw [hsu, if_neg (by rw [hc]; simp), aN]
  ·rw [hs.1]
   have hf := Ww h (V5 hp)
   have hf2 : Y6 b ⟨(yT b p).Ag, p.Ac, p.Ak, p.Ao⟩ = some (E5 b p, 0) := hf
   rw [hf2]
   exact c4 ⟨rfl, rfl, hs.2⟩
theorem A6k {α : Type} (g : Bool) (v d : α) : Az [(g, true)] (some v) d = some (bif g then v else d) := by cases g <;> rfl
theorem Ady (b : Aa) (p : Ab) : Wg b p = F25 b p := rfl
theorem A3z {b : Aa} (h : Aw b) {c : Ab} {n : Nat} (hn : n < b.Aq.toNat) : ∃ x, x ∈ Bj b c /\ B2 b c (Dy x) = B2 b c n := by
 have hgg := Az4 (s := groups b c) (i := n) (by rw [Gw]; exact hn)
 have hlo := Nm h c n _ hgg
 have hgn : (groups b c).getD n 0 = ((B2 b c n : Nat) : Int) := by unfold B2; omega
 have hmem : (n : Int) ∈ (isl b c (B2 b c n)).Aq := al.2 ⟨n, an.2 ⟨aK.2 hn, by rw [de]; exact hgn⟩, rfl⟩
 have hx : isl b c (B2 b c n) ∈ Bj b c := by
  refine an.2 ⟨al.2 ⟨B2 b c n, aK.2 (by omega), rfl⟩, ?_⟩
  unfold Ih
  cases hl : (isl b c (B2 b c n)).Aq with
  | nil => rw [hl] at hmem; cases hmem
  | cons y l =>
   simp only [aX, ba, dg]
   omega
 exact ⟨_, hx, Aik h hx⟩
theorem An9 {b : Aa} (h : Aw b) {p : Ab} (hp : As b p) {n : Nat} (hn : n < b.Aq.toNat) : Cf b (B4 b p) n = 0 := by
 obtain ⟨u, v⟩ := Vh h hp
 obtain ⟨x, hx, e⟩ := A3z (c := E5 b p) h hn
 have := (v x hx).exc
 have e2 : B2 b (B4 b p) (Dy x) = B2 b (B4 b p) n := by
  rw [Ec (J6 hp) u.ok u.skel, Ec (J6 hp) u.ok u.skel, e]
 unfold Cf B8 E2 at this ⊢
 rw [e2] at this
 exact this
theorem Are {b : Aa} (h : Aw b) {p : Ab} (hp : As b p) : Ok (F24 b p (B4 b p)) λ y => y = true := by
 obtain ⟨u, v⟩ := Vh h hp
 have hc := J6 hp
 have hq := u.ok
 have hbl := h.brl
 have hcl := h.col
 have n1 := hc.ncl
 have n2 := hq.ncl
 have n3 := hc.nli
 have n4 := hq.nli
 unfold F24
 refine (Ard h hp).bind λ y hy => ?_
 obtain ⟨c, acts, e⟩ := y
 obtain ⟨rfl, rfl, _⟩ := hy
 rw [Ir h hq]
 refine Ok.bind (P := λ y => y = 0) (c4 rfl) λ y hy => ?_
 subst hy
 refine c3 (λ hh => by simp at hh) (λ _ => ?_)
 rw [yQ h hq]
 simp only [ab]
 have ec : (⟨(E5 b p).Ag, (B4 b p).Ac, (E5 b p).Ak, (B4 b p).Ao⟩ : Ab) = E5 b p := by
  rw [u.skel.src, u.brk]
 rw [ec, Ma (hc.lens h)]
 simp only [ab]
 refine c3 (λ hh => by simp at hh) (λ _ => ?_)
 refine Ok.andThen (A := λ _ => True) (B := λ (_ : Bool) => False) ?_ (λ _ _ => ?_) (λ _ h => h.elim)
 ·refine c7 (λ (z : Int) => 0 <= z /\ z <= b.Ae.length) (λ z => (100 - z).toNat) _ _ ⟨by omega, by omega⟩ (by omega) ?_
  rintro z ⟨h0, h1⟩
  unfold Akv A2v
  refine c3 (λ hh => ?_) (λ _ => cJ trivial)
  simp only [da] at hh
  obtain ⟨k, rfl⟩ : ∃ k : Nat, z = (k : Int) := ⟨z.toNat, by omega⟩
  rw [Bm (Ky hq (j := k) (by omega)), Bm (Ky hc (j := k) (by omega))]
  simp only [ab]
  have hm := u.mono k
  cases hk : (B4 b p).Ag.getD k false with
  | false =>
   refine Ok.bind (P := λ _ => True) (c4 trivial) λ y _ => ?_
   refine c3 (λ hh => by simp at hh) (λ _ => ?_)
   rw [Bb (by omega)]
   exact c5 ⟨by omega, by omega⟩
  | true =>
   rw [hm hk]
   refine Ok.bind (P := λ y => y = true) (c4 rfl) λ y hy => ?_
   subst hy
   refine c3 (λ hh => by simp at hh) (λ _ => ?_)
   rw [Bb (by omega)]
   exact c5 ⟨by omega, by omega⟩
 refine Ok.andThen (A := λ _ => True) (B := λ (_ : Bool) => False) ?_ (λ _ _ => ?_) (λ _ h => h.elim)
 ·refine c7 (λ (z : Int) => 0 <= z /\ z <= b.Ad.length) (λ z => (100 - z).toNat) _ _ ⟨by omega, by omega⟩ (by omega) ?_
  rintro z ⟨h0, h1⟩
  unfold Aku A2u
  refine c3 (λ hh => ?_) (λ _ => cJ trivial)
  simp only [da] at hh
  obtain ⟨k, rfl⟩ : ∃ k : Nat, z = (k : Int) := ⟨z.toNat, by omega⟩
  rw [Mk (l := (B4 b p).Ak) (k := k) (by omega), Mk (l := (E5 b p).Ak) (k := k) (by omega)]
  simp only [ab]
  have hm := u.le k
  refine c3 (λ hh => ?_) (λ _ => ?_)
  ·simp only [da] at hh
   omega
  ·rw [Bb (by omega)]
   exact c5 ⟨by omega, by omega⟩
 have hi2 : F25 b (B4 b p) = some (Bj b (B4 b p)) := Ji h hq
 refine Ok.bind (P := λ y => y = Bj b (B4 b p)) (cE hi2 rfl) λ y hy => ?_
 subst hy
 refine Ok.andThen (A := λ _ => True) (B := λ (_ : Bool) => False) ?_ (λ _ _ => ?_) (λ _ h => h.elim)
 ·refine c6 (I := λ _ _ => True) trivial (λ j x s hx _ => ?_) λ _ _ => trivial
  obtain ⟨hb0, hlt⟩ := Mo (O7 h (ae hx))
  unfold Akt
  rw [hb0]
  simp only [ab]
  rw [Anz h hq hlt, An9 h hp hlt]
  exact c5 trivial
 rw [Aqd h]
 simp only [ab]
 have hi3 : Wg b (E5 b p) = some (Bj b (E5 b p)) := (Ady b _).trans (Ji h hc)
 rw [hi3]
 simp only [ab]
 refine Ok.andThen (A := λ _ => True) (B := λ (_ : Bool) => False) ?_ (λ _ _ => c4 rfl) (λ _ h => h.elim)
 refine c6 (I := λ _ _ => True) trivial (λ j x s hx _ => ?_) λ _ _ => trivial
 have hd := v x (ae hx)
 have hol := vQ h
 unfold Aks
 refine Ok.andThen (A := λ l => l = Di b x) (B := λ (_ : Unit) => False) ?_ (λ l hl => ?_) (λ _ h => h.elim)
 ·refine c6 (I := λ j (s : List Int) => s = ((Gk b).take j).filter (C1 x) /\ s.length <= j) ⟨rfl, by simp⟩ (λ j k s hk hI => ?_) λ s hI => by rw [hI.1, ax]; rfl
  obtain ⟨i1, i2⟩ := hI
  have hj : j < (Gk b).length := (aa.1 hk).1
  have ek : (x.Ad.any (· == k)) = C1 x k := by
   unfold C1
   congr 1
   funext y
   exact Bool.beq_comm
  unfold Akr
  rw [Ag9, ek]
  simp only [ab]
  refine c3 (λ hh => ?_) (λ hh => ?_)
  ·refine (c9 (by simp; omega)).bind λ y hy => c5 ⟨?_, by rw [hy]; simp; omega⟩
   rw [hy, i1, Bi hk, aY]
   simp [hh]
  ·refine c5 ⟨?_, by omega⟩
   rw [i1, Bi hk, aY]
   simp [hh]
 ·subst hl
  have hfd : ∀ k, k ∈ Di b x -> F48 b (B4 b p) k = some (Et (Dc b (B4 b p) 3 k)) := λ k hk => Ahl h hq (Fq h hk).1 (Fq h hk).2
  have hfg : ∀ k, k ∈ Di b x -> ((Et (Dc b (B4 b p) 3 k)).2 = true ↔ fg b (B4 b p) k.toNat ≠ none) := λ k hk => by
   have h0 := (Fq h hk).1
   have e : ((k.toNat : Nat) : Int) = k := by omega
   unfold fg
   rw [e]
   unfold Ea
   cases Dc b (B4 b p) 3 k <;> simp [Et]
  refine Ok.andThen (A := λ _ => True) (B := λ (_ : Bool) => False) ?_ (λ _ _ => c5 trivial) (λ _ h => h.elim)
  refine c6 (I := λ _ _ => True) trivial (λ i k s hk _ => ?_) λ _ _ => trivial
  have hkm := ae hk
  have hki := Fq h hkm
  unfold Akq
  rw [hfd k hkm]
  simp only [ab]
  obtain ⟨g1, _, _, _⟩ := Mh h hq hki.1 hki.2
  obtain ⟨g2, _, _, _⟩ := Mh h hc hki.1 hki.2
  rw [g1, g2]
  generalize hfe : (Et (Dc b (B4 b p) 3 k)) = fk at *
  have hfk : fk.2 = true ↔ fg b (B4 b p) k.toNat ≠ none := by rw [← hfe]; exact hfg k hkm
  have e1 : (Az [(fk.2, true)] (some ((B4 b p).Ak.getD k.toNat 0)) default) = some (bif fk.2 then (B4 b p).Ak.getD k.toNat 0 else default) := by cases fk.2 <;> rfl
  have e2 : (Az [(fk.2, true)] (some ((E5 b p).Ak.getD k.toNat 0)) default) = some (bif fk.2 then (E5 b p).Ak.getD k.toNat 0 else default) := by cases fk.2 <;> rfl
  rw [e1, e2]
  simp only [ab]
  refine c3 (λ hh => c5 trivial) (λ hh => ?_)
  have hch : fg b (B4 b p) k.toNat = none \/ (B4 b p).Ak.getD k.toNat 0 ≠ (E5 b p).Ak.getD k.toNat 0 := by
   cases hf2 : fk.2 with
   | false =>
    refine .inl ?_
    cases hg : fg b (B4 b p) k.toNat with
    | none => rfl
    | some y =>
     have := hfk.2 (by rw [hg]; intro e; cases e)
     rw [hf2] at this; cases this
   | true =>
    rw [hf2] at hh
    simp only [cond_true, aZ, dg] at hh
    exact .inr hh
  refine Ok.andThen (A := λ _ => True) (B := λ (_ : Bool) => False) ?_ (λ _ _ => c5 trivial) (λ _ h => h.elim)
  refine c6 (I := λ _ _ => True) trivial (λ i' m s2 hm _ => ?_) λ _ _ => trivial
  have hmm := ae hm
  have hmi := Fq h hmm
  have hol2 := Xk h x
  have hil : i < (Di b x).length := (aa.1 hk).1
  have hil2 : i' < (Di b x).length := (aa.1 hm).1
  obtain ⟨g3, _, _, _⟩ := Mh h hq hmi.1 hmi.2
  have g4 := A8g hmi.1 hmi.2
  have c1 : cnt 0 i = (i : Int) := C_ (by omega)
  have c2 : cnt 0 i' = (i' : Int) := C_ (by omega)
  unfold Akp Awq Awp
  rw [hfd m hmm, g3, g4, c1, c2]
  have hfm := hfg m hmm
  generalize (Et (Dc b (B4 b p) 3 m)) = fm at *
  simp only [A6k, ab]
  by_cases hc0 : i' < i /\ fm.2 = true
  ·obtain ⟨hlt, hf⟩ := hc0
   obtain ⟨o1, o2⟩ := hd.ord i k hk hch i' m hlt hm (hfm.1 hf)
   have d1 : decide ((i' : Int) < (i : Int)) = true := dh (by omega)
   have d2 : decide ((B4 b p).Ak.getD m.toNat 0 > (b.Ad.getD m.toNat default).Least) = false := di (by unfold Nk at o1; omega)
   simp only [d1, hf, aZ, cond_true, d2, cond_false]
   cases hf2 : fk.2 with
   | true => exact c5 trivial
   | false =>
    have hn : fg b (B4 b p) k.toNat = none := by
     cases hg : fg b (B4 b p) k.toNat with
     | none => rfl
     | some y =>
      have := hfk.2 (by rw [hg]; intro e; cases e)
      rw [hf2] at this; cases this
    have d3 : decide ((B4 b p).Ak.getD m.toNat 0 > 0) = false := di (by have := o2 hn; omega)
    simp only [Bool.not_false, aZ, bD, cond_true, d3, cond_false]
    exact c5 trivial
  ·have d1 : (decide ((i' : Int) < (i : Int)) && fm.2) = false := by
    rw [Bool.and_eq_false_iff]
    by_cases hlt : i' < i
    ·right
     cases hf : fm.2 with
     | false => rfl
     | true => exact absurd ⟨hlt, hf⟩ hc0
    ·exact .inl (di (by omega))
   have d2 : (decide ((i' : Int) < (i : Int)) && !fk.2 && fm.2) = false := by
    cases fk.2
    ·simpa using d1
    ·simp
   simp only [d1, d2, cond_false, Bool.false_and]
   exact c5 trivial
theorem Xj {b : Aa} (h : Aw b) {p : Ab} (hp : As b p) {k : Nat} {x : Aj} (hx : b.Ae[k]? = some x) (hc : (B4 b p).Ag.getD k false = true) : B6 p x = false := by
 obtain ⟨u, _⟩ := Vh h hp
 have h1 : (yT b p).Ag.getD k false = true := u.mono k hc
 have hk := (aa.1 hx).1
 have h2 : (acC b p.Ag (B6 p)).getD k false = true := A4k b _ _ (V6 hp).ncl k h1
 rw [Pl b _ _ hk, Pg hx] at h2
 simp only [ac, ba] at h2
 exact h2.2
theorem Aoh {l : List Al} {x : Al} (hx : x ∈ l) : brk l x.Kind x.Number = true := by
 unfold brk
 rw [bI]
 exact ⟨x, hx, by simp⟩
theorem Any {b : Aa} (h : Aw b) {p : Ab} (hp : As b p) : (B4 b p).Ao = p.Ao := (Vh h hp).1.brk
theorem A3d {b : Aa} (h : Aw b) {p : Ab} (hp : As b p) {x : Al} (hx : x ∈ (B4 b p).Ao) (hk : x.Kind = 1) : Ev b (B4 b p) x.Number = none := by
 have hq := (Gj h hp).2.1
 have hin := hq.brk.mem x hx
 rw [Any h hp] at hx
 have hb := Aoh hx
 unfold Ca at hin
 obtain ⟨i, e⟩ : ∃ i : Nat, x.Number = (i : Int) := ⟨x.Number.toNat, by omega⟩
 rw [e] at hb hin ⊢
 have hi : i < b.Ac.length := by omega
 obtain ⟨_, _, k2, kB, hg⟩ := Mp h hi
 rw [jS h hq hi, if_neg]
 rintro ⟨_, hc⟩
 have := Xj h hp hg hc
 unfold B6 at this
 rw [if_neg (by omega), if_pos k2, kB, ← hk, hb] at this
 simp at this
theorem A4e {b : Aa} (h : Aw b) {p : Ab} (hp : As b p) {n : Nat} (hn : brk p.Ao 3 (n : Int) = true) {j : Nat} : ¬ Tie (Cr b (B4 b p)) j n := by
 have hq := (Gj h hp).2.1
 intro t
 obtain ⟨k, x, hx, hk, hc, he⟩ := (A3a hq.ncl).1 t
 have hd := Xj h hp hx hc
 have hbr := h.br x (ae hx)
 unfold Oi at hbr
 unfold B6 at hd
 rw [if_pos hk, bq] at hd
 rcases he with ⟨_, e⟩ | ⟨e, _⟩
 ·have : x.B = (n : Int) := by omega
  rw [this, hn] at hd
  cases hd.2
 ·have : x.A = (n : Int) := by omega
  rw [this, hn] at hd
  cases hd.1
theorem A0u {b : Aa} (h : Aw b) {p : Ab} (hp : As b p) {x : Al} (hx : x ∈ (B4 b p).Ao) (hk : x.Kind = 3) : ∃ n : Nat, x.Number = (n : Int) /\ n < b.Aq.toNat /\ Hd b (B4 b p) n = false := by
 have hq := (Gj h hp).2.1
 have hin := hq.brk.mem x hx
 rw [Any h hp] at hx
 have hb := Aoh hx
 unfold Ca at hin
 obtain ⟨n, e⟩ : ∃ n : Nat, x.Number = (n : Int) := ⟨x.Number.toNat, by omega⟩
 rw [e, hk] at hb
 rw [e] at hin
 have hn : n < b.Aq.toNat := by omega
 refine ⟨n, e, hn, ?_⟩
 unfold Hd
 rw [db]
 intro hp0
 obtain ⟨i, hi⟩ : ∃ i, i ∈ (isl b (B4 b p) ((groups b (B4 b p)).getD n 0).toNat).Ac := by
  cases hl : (isl b (B4 b p) ((groups b (B4 b p)).getD n 0).toNat).Ac with
  | nil => rw [hl] at hp0; simp at hp0
  | cons y l => exact ⟨y, ag⟩
 obtain ⟨k, rfl, hk2, e1⟩ := Ve.1 hi
 unfold Ea at e1
 rw [Option.map_eq_some_iff] at e1
 obtain ⟨a, h1, h2⟩ := e1
 have ha := X2 h h1
 have hgn := Hp h (B4 b p) (n := n) hn
 have heq : (groups b (B4 b p)).getD a.toNat 0 = (groups b (B4 b p)).getD n 0 := by rw [h2]; exact hgn.2.2
 obtain ⟨r, hcn⟩ := (Qp h (B4 b p) (by omega) hn).1 heq
 have ean : a.toNat = n := by
  have key : ∀ (r m : Nat), Dg (Cr b (B4 b p)) a.toNat r m -> m = n -> a.toNat = n := by
   intro r m hc
   induction hc with
   | refl => exact λ e => e
   | stay _ ih => exact ih
   | step _ t _ => intro e; rw [e] at t; exact absurd t (A4e h hp hb)
  exact key r n hcn rfl
 obtain ⟨_, _, k2, kB, hg⟩ := Mp h hk2
 rw [jS h hq hk2] at h1
 split at h1
 ·rename_i hc
  have hd := Xj h hp hg hc.2
  unfold B6 at hd
  rw [bq] at hd
  have : (b.Ae.getD (brN b k) default).A = (n : Int) := by
   have := cq h1
   omega
  rw [this, hb] at hd
  cases hd.1
 ·cases h1
theorem jE : ∀ (l : List An) (p : Ab), (p :: Ek l p)[l.length]? = some (l.foldl ap p)
 | [], _ => rfl
 | x :: l, p => by
  show (ap p x :: Ek l (ap p x))[l.length]? = _
  exact jE l (ap p x)
theorem A0g {b : Aa} (h : Aw b) {p : Ab} (hp : As b p) {t : Int} {a : An} (he : Iw b p t a = 0) : 0 < (doS b p t a).length /\ (doS b p t a)[0]? = some (Fc b p t a) /\ (doS b p t a)[(doS b p t a).length - 1]? = some (doP b p t a) := by
 obtain ⟨hn, _, _⟩ := Pc h hp he
 have hl := jE (D0 b (Fc b p t a)) (Fc b p t a)
 have hil := I3 (D0 b (Fc b p t a)) (Fc b p t a)
 unfold doS
 rw [if_pos he]
 refine ⟨by simp, rfl, ?_⟩
 split
 ·rename_i hs
  have hlast : As b (Nl b p t a) := U7 _ hn (Au5 h hn).2
  have e := (Amu (hlast.lens h) (doP b p t a)).2 hs
  rw [aN, ← e]
  have : ([Fc b p t a] ++ Ek (D0 b (Fc b p t a)) (Fc b p t a)).length - 1 = (D0 b (Fc b p t a)).length := by simp [hil]
  rw [this]
  exact hl
 ·rw [aB (by simp)]
  simp
theorem plantGuards_law (t : List Int) : F7 t = some true := by
 refine cL ?_
 unfold F7
 refine (A86 t).bind λ s hs => (Ayz hs).bind λ w hw => ?_
 have h := hw.1.ok
 have hbu := h.buses
 obtain ⟨hmk, hty, ⟨hpl, htm, hev, _⟩, hsr⟩ := hw
 have hp := hpl w.2.1
 have hnr := hp.nro
 refine (A89 h hsr (k := 6) (by omega)).bind λ l hl => ?_
 refine Ok.andThen (A := λ _ => True) (B := λ (_ : Bool) => False) ?_ (λ _ _ => by rw [A4s]; exact c4 rfl) (λ _ h => h.elim)
 refine c6 (I := λ j s => ∃ (p : Ab) (ev : List Bl), s = (p.Ag, p.Ac, p.Ak, p.Ao, w.2.2.1.A6, ev, w.2.2.1.Time) /\ As w.1 p /\ ev.length <= 10001 * j) ⟨w.2.2.1.Power, w.2.2.1.Bc, rfl, hp.st, by rw [hev]; simp⟩ (λ j a s ha hI => ?_) λ _ _ => trivial
 obtain ⟨p, ev, rfl, hst, hle⟩ := hI
 have hj := (aa.1 ha).1
 have hq := Awi h hst w.2.2.1.Time a
 have hd1 := Aoc h hst w.2.2.1.Time a
 have hd2 := A35 h hst w.2.2.1.Time a
 have hpos : 0 < (doE w.1 p w.2.2.1.Time a).length := by unfold doE; simp
 unfold Asu
 have hD := A_m h (p := ⟨w.2.2.1.Time, p, w.2.2.1.A6, ev⟩) hst (by dsimp only; omega) (by dsimp only; omega) a
 refine Ok.bind (P := λ v => v = _) (cE hD rfl) λ v hv => ?_
 subst hv
 refine c3 (λ hc => ?_) (λ _ => ?_)
 ·exfalso
  simp only [A8j, bne_self_eq_false, aS, da, aJ] at hc
  omega
 have hnext : ∃ (p' : Ab) (ev' : List Bl), ((doP w.1 p w.2.2.1.Time a).Ag, (doP w.1 p w.2.2.1.Time a).Ac, (doP w.1 p w.2.2.1.Time a).Ak, (doP w.1 p w.2.2.1.Time a).Ao, w.2.2.1.A6, ev ++ doE w.1 p w.2.2.1.Time a, w.2.2.1.Time) = (p'.Ag, p'.Ac, p'.Ak, p'.Ao, w.2.2.1.A6, ev', w.2.2.1.Time) /\ As w.1 p' /\ ev'.length <= 10001 * (j + 1) :=
  ⟨_, _, rfl, hq, by rw [aJ]; omega⟩
 dsimp only
 by_cases he : Iw w.1 p w.2.2.1.Time a = 0
 ·obtain ⟨s1, s2, s3⟩ := A0g h hst he
  obtain ⟨hn, _, _⟩ := Pc h hst he
  have eP : doP w.1 p w.2.2.1.Time a = B4 w.1 (Fc w.1 p w.2.2.1.Time a) := by unfold doP; rw [if_pos he]
  refine c3 (λ hc => ?_) (λ _ => ?_)
  ·simp only [de] at hc; omega
  have e0 : getI (doS w.1 p w.2.2.1.Time a) 0 = some (Fc w.1 p w.2.2.1.Time a) := Bm (j := 0) s2
  rw [e0]
  simp only [ab]
  have hck := Are h hn
  rw [← eP] at hck
  refine hck.bind λ v hv => ?_
  subst hv
  have e1 : getI (doS w.1 p w.2.2.1.Time a) (w64 (((doS w.1 p w.2.2.1.Time a).length : Int) - 1)) = some (doP w.1 p w.2.2.1.Time a) := by
   have ew : w64 (((doS w.1 p w.2.2.1.Time a).length : Int) - 1) = (((doS w.1 p w.2.2.1.Time a).length - 1 : Nat) : Int) := by rw [Bb (by omega)]; omega
   rw [ew]
   exact Bm s3
  refine Ok.bind (P := λ v => v = doP w.1 p w.2.2.1.Time a) (cE e1 rfl) λ v hv => ?_
  subst hv
  refine Ok.bind (P := λ v => v = true) (cE (Ma (hq.lens h)) rfl) λ v hv => ?_
  subst hv
  refine c3 (λ hc => by simp at hc) (λ _ => ?_)
  refine Ok.bind (P := λ v => v = Bj w.1 (doP w.1 p w.2.2.1.Time a)) (cE (Ji h hq) rfl) λ v hv => ?_
  subst hv
  refine Ok.andThen (A := λ _ => True) (B := λ (_ : Bool) => False) ?_ (λ _ _ => ?_) (λ _ h => h.elim)
  ·refine c6 (I := λ _ _ => True) trivial (λ i x s hx _ => ?_) λ _ _ => trivial
   obtain ⟨hb0, hlt⟩ := Mo (O7 h (ae hx))
   unfold Ast
   rw [hb0]
   simp only [ab]
   rw [Anz h hq hlt]
   rw [eP, An9 h hn hlt]
   exact c5 trivial
  refine Ok.andThen (A := λ _ => True) (B := λ (_ : Bool) => False) ?_ (λ _ _ => c5 hnext) (λ _ h => h.elim)
  refine c6 (I := λ _ _ => True) trivial (λ i x s hx _ => ?_) λ _ _ => trivial
  have hxm := ae hx
  have hxm2 : x ∈ (B4 w.1 (Fc w.1 p w.2.2.1.Time a)).Ao := by rw [← eP]; exact hxm
  unfold Ass
  refine Ok.andThen (A := λ _ => True) (B := λ (_ : Bool) => False) ?_ (λ _ _ => ?_) (λ _ h => h.elim)
  ·unfold Asr
   refine c3 (λ hk => ?_) (λ _ => cK trivial)
   dsimp only
   rw [Pe h hq, eP, A3d h hn hxm2 (by simpa using hk)]
   exact cK trivial
  ·by_cases hk : x.Kind = 3
   ·obtain ⟨n, en, hnb, hdead⟩ := A0u h hn hxm2 hk
    have hl : F28 w.1 (doP w.1 p w.2.2.1.Time a) x.Number = some false := by
     rw [en, Abz h hq hnb, eP, hdead]
    dsimp only
    rw [hl, hk]
    exact c5 trivial
   ·have : (x.Kind == 3) = false := dg.2 hk
    rw [this]
    exact c5 trivial
 ·have eS : doS w.1 p w.2.2.1.Time a = [] := by unfold doS; rw [if_neg he]
  have eP : doP w.1 p w.2.2.1.Time a = p := by unfold doP; rw [if_neg he]
  have eE : doE w.1 p w.2.2.1.Time a = [⟨w.2.2.1.Time, a, Iw w.1 p w.2.2.1.Time a⟩] := by unfold doE; rw [if_neg he]
  refine c3 (λ _ => ?_) (λ hc => by rw [eS] at hc; simp at hc)
  refine Ok.bind (P := λ v => v = true) (cE (x := true) (by rw [eP]; exact Ma (hst.lens h)) rfl) λ v hv => ?_
  subst hv
  refine Ok.bind (P := λ v => v.Err = Iw w.1 p w.2.2.1.Time a) ?_ λ v hv => ?_
  ·refine cE (x := ⟨w.2.2.1.Time, a, Iw w.1 p w.2.2.1.Time a⟩) ?_ rfl
   have ew : w64 (((ev ++ doE w.1 p w.2.2.1.Time a).length : Int) - 1) = ((ev.length : Nat) : Int) := by
    rw [eE, aJ, Bb (by simp; omega)]
    simp
   show Az _ (getI _ _) _ = _
   rw [ew, eE]
   rw [show ∀ (x : Option Bl) d, Az [((!true), false)] x d = x from λ _ _ => rfl]
   refine Bm ?_
   rw [aB (ao _), Nat.sub_self]; rfl
  refine c3 (λ hc => ?_) (λ _ => c5 hnext)
  simp [hv] at hc
  exact absurd hc he
end Go.Proofs.YthgnbpdjncbkfaaGreat
