import Derived.Test.YtcigbocngfaopaaGreatPl0
namespace Go.Proofs.YtcigbocngfaopaaGreat
open Go.SL
theorem Ahf {b : Aa} (h : Aw b) : Ok (F12 b) λ y => y.length <= 256 /\ ∀ x : Int, x ∈ y -> 0 <= x /\ x < b.Ai.length := by
 have hcl := h.col
 unfold F12
 rw [Sy h]
 simp only [ab]
 refine c3 (λ hc => by simp at hc) (λ _ => ?_)
 refine Ok.andThen (A := λ (s : Int × List Int) => s.2.length <= 256 /\ ∀ x : Int, x ∈ s.2 -> 0 <= x /\ x < b.Ai.length) (B := λ (_ : Unit) => False) ?_ (λ s hs => Ok.pure hs) (λ _ h => h.elim)
 refine c8 (λ (s : Int × List Int) => (0 <= s.1 /\ s.1 <= 16) /\ (s.2.length : Int) <= 16 * s.1 /\ ∀ x : Int, x ∈ s.2 -> 0 <= x /\ x < b.Ai.length) (λ s => (16 - s.1).toNat) _ _ ⟨by dsimp only; omega, by simp, λ x hx => by cases hx⟩ (by dsimp only; omega) ?_
 rintro ⟨k, d⟩ ⟨hk, hl, hm⟩
 dsimp only at hk hm hl
 unfold Ad8
 dsimp only
 refine c3 (λ hq => ?_) (λ hq => cA ⟨by dsimp only; omega, hm⟩)
 simp only [cZ] at hq
 refine Ok.andThen (A := λ (s : List Int) => (s.length : Int) <= 16 * (k + 1) /\ ∀ x : Int, x ∈ s -> 0 <= x /\ x < b.Ai.length) (B := λ (_ : Unit) => False) ?_ (λ s hs => ?_) (λ _ h => h.elim)
 ·refine c5 (I := λ j (s : List Int) => (s.length : Int) <= 16 * k + j /\ ∀ x : Int, x ∈ s -> 0 <= x /\ x < b.Ai.length) ⟨by omega, hm⟩ (λ j c s hc hI => ?_) λ s hI => ⟨by omega, hI.2⟩
  obtain ⟨i1, i2⟩ := hI
  have hj : j < b.Ai.length := (aa.1 hc).1
  have ec : cnt 0 j = (j : Int) := C1 (by omega)
  unfold Ad7
  dsimp only
  refine c3 (λ hq2 => ?_) (λ hq2 => c4 ⟨by omega, i2⟩)
  refine (cw (by simp; omega)).bind λ y hy => c4 ?_
  rw [hy, ec]
  refine ⟨by simp; omega, λ x hx => ?_⟩
  rcases ax.1 hx with hx | hx
  ·exact i2 x hx
  ·rw [bq.1 hx]; omega
 ·have e2 : w64 (k + 1) = k + 1 := A7 (by omega)
  rw [e2]
  exact c4 ⟨⟨by dsimp only; omega, hs⟩, by dsimp only; omega⟩
theorem Ays {b : Aa} (h : Aw b) (c : Int) : Ok (F16 b 3 c) λ l => l.length <= 24 /\ ∀ i, i ∈ l -> 0 <= i /\ i < b.Ad.length := by
 have hbl := h.brl
 unfold F16
 rw [Sy h, Xt h]
 refine Ok.pure ⟨?_, λ i hi => ?_⟩
 ·show (List.map _ (List.filter (λ z : Af × Nat => Hr 3 c z.1) b.Ad.zipIdx)).length <= 24
  have := bi (λ z : Af × Nat => Hr 3 c z.1) b.Ad.zipIdx
  rw [List.length_zipIdx] at this
  rw [au]; omega
 ·unfold ofL at hi
  obtain ⟨⟨x, k⟩, hz, rfl⟩ := ao.1 hi
  have := (aw.1 hz).1
  rw [bz] at this
  have := (aa.1 this).1
  dsimp only at this ⊢
  omega
def Qc (b : Aa) (L : List Int) : Prop := L.length = b.Ai.length /\ ∀ (i : Nat) n c, L[i]? = some n -> b.Ai[i]? = some c -> 0 <= n /\ n <= c.Load
theorem Qc.set {b : Aa} {L : List Int} (hL : Qc b L) {k : Nat} {v : Int} (hv : ∀ c, b.Ai[k]? = some c -> 0 <= v /\ v <= c.Load) : Qc b (L.set k v) := by
 refine ⟨by rw [bF]; exact hL.1, λ i n c hn hc => ?_⟩
 rw [al] at hn
 by_cases e : k = i
 ·subst e
  rw [if_pos rfl] at hn
  split at hn
  ·cases hn; exact hv c hc
  ·cases hn
 ·rw [if_neg e] at hn
  exact hL.2 i n c hn hc
def Iu (b : Aa) (p : Ab) (C : List Bool) : Prop := Ay b (Gu p C) /\ ∀ k : Nat, C.getD k false = true -> p.Ah.getD k false = true
theorem Iu.set {b : Aa} {p : Ab} {C : List Bool} (u : Iu b p C) (k : Nat) : Iu b p (C.set k false) := by
 refine ⟨Ahg u.1 k, λ j hj => u.2 j ?_⟩
 simp only [List.getD, al] at hj ⊢
 split at hj
 ·split at hj <;> simp at hj
 ·exact hj
theorem Akx {b : Aa} (h : Aw b) {p : Ab} (hp : Ay b p) : Ok (F67 b p) λ y => (Ay b y.1 /\ y.1.Ac = p.Ac /\ y.1.Ak = p.Ak /\ ∀ k : Nat, y.1.Ah.getD k false = true -> p.Ah.getD k false = true) /\ y.2.1.length <= 150000 := by
 have hbl := h.brl
 have hcl := h.col
 have hbu := h.buses
 have hil := X5 b p
 unfold F67
 rw [G1 h hp, Ye h hp]
 simp only [ab]
 refine c3 (λ hc => by simp at hc) (λ _ => ?_)
 refine (Ahf h).bind λ o ho => ?_
 have hi : F21 b p = some (Cb b p) := Pm h hp
 refine Ok.bind (P := λ v => v = Cb b p) (cI hi rfl) λ v hv => ?_
 subst hv
 refine Ok.andThen (A := λ (s : List Bool × List Int × List An) => Iu b p s.1 /\ Qc b s.2.1 /\ s.2.2.length <= 150000) (B := λ (_ : Unit) => False) ?_ (λ s hs => ?_) (λ _ h => h.elim)
 ·refine c5 (I := λ j (s : List Bool × List Int × List An) => Iu b p s.1 /\ Qc b s.2.1 /\ s.2.2.length <= 1000 * 24 * j) ⟨⟨show Ay b (Gu p p.Ah) from hp, λ _ hk => hk⟩, ⟨hp.nli, hp.lim⟩, by simp⟩ (λ j x s hx hI => ?_) λ s hI => ⟨hI.1, hI.2.1, ?_⟩
  ·obtain ⟨g1, g2, g3⟩ := hI
   have hj : j < (Cb b p).length := (aa.1 hx).1
   have hin := Awc h (ae hx)
   obtain ⟨e0, hb0⟩ := Arx hin
   unfold Adb
   rw [e0]
   simp only [ab]
   have hl := Amu h hp hb0
   have hr := Aeq h hp hb0
   rw [hl, hr]
   simp only [ab]
   refine Ok.inner (A := λ (s1 : Int × List Int × List An) => Qc b s1.2.1 /\ s1.2.2.length <= s.2.2.length + 256) (B := λ (_ : Unit) => False) ?_ (λ s1 hs1 => ?_) (λ _ h => h.elim)
   ·refine c5 (I := λ i (s1 : Int × List Int × List An) => Qc b s1.2.1 /\ s1.2.2.length <= s.2.2.length + i) ⟨g2, by dsimp only; omega⟩ (λ i c s1 hc hI => ?_) λ s1 hI => ⟨hI.1, by have := hI.2; omega⟩
    obtain ⟨i1, i2⟩ := hI
    have hlt := (aa.1 hc).1
    have hcin := ho.2 c (ae hc)
    have hLl := i1.1
    have hcg := A07 hcin.1 hcin.2
    have hcg2 := Tf (b := b) (i := c.toNat) (by omega)
    unfold Ada
    rw [hcg, Vm]
    simp only [ab]
    have hstay : Qc b s1.2.1 /\ s1.2.2.length <= s.2.2.length + (i + 1) := ⟨i1, by omega⟩
    cases hq1 : decide (s1.1 <= 0) with
    | true =>
     refine Ok.bind (P := λ _ => True) (c6 (λ hh => absurd hh.1 (by simp)) λ _ => trivial) λ y1 _ => ?_
     refine Ok.bind (P := λ _ => True) (c6 (λ hh => absurd hh.1 (by simp)) λ _ => trivial) λ y2 _ => ?_
     refine c3 (λ _ => c4 hstay) (λ hc => ?_)
     simp [V8, hq1] at hc
    | false =>
     refine Ok.bind (P := λ y => y = x.Ai.any (· == c)) (Ok.pure rfl) λ y1 hy1 => ?_
     subst hy1
     cases hq2 : x.Ai.any (· == c) with
     | false =>
      refine Ok.bind (P := λ _ => True) (c6 (λ hh => absurd hh.1 (by simp)) λ _ => trivial) λ y2 _ => ?_
      refine c3 (λ _ => c4 hstay) (λ hc => ?_)
      simp [V8] at hc
     | true =>
      have hg : getI s1.2.1 c = some (s1.2.1.getD c.toNat 0) := by
       have e : s1.2.1[c.toNat]? = some (s1.2.1.getD c.toNat 0) := by
        rw [af (by omega)]; simp [List.getD, List.getElem?_eq_getElem (show c.toNat < s1.2.1.length by omega)]
       have := Ba e; rwa [aU hcin.1] at this
      have hlim := i1.2 c.toNat _ _ (by rw [af (by omega)]) hcg2
      have hge : s1.2.1[c.toNat]'(by omega) = s1.2.1.getD c.toNat 0 := by simp [List.getD, List.getElem?_eq_getElem (show c.toNat < s1.2.1.length by omega)]
      rw [hge] at hlim
      have hco1 := (h.co c.toNat _ hcg2).1
      have hco2 := (h.co c.toNat _ hcg2).2.1
      have hq3 : ¬ s1.1 <= 0 := of_decide_eq_false hq1
      refine Ok.bind (P := λ y => y = s1.2.1.getD c.toNat 0) (cI hg rfl) λ y2 hy2 => ?_
      subst hy2
      refine c3 (λ _ => c4 hstay) (λ hc2 => ?_)
      simp only [V8, hq1, aZ, Bool.or_false, aM, da] at hc2
      rw [hg]
      simp only [ab]
      have w1 : w64 (s1.2.1.getD c.toNat 0 - (b.Ai.getD c.toNat default).Least) = s1.2.1.getD c.toNat 0 - (b.Ai.getD c.toNat default).Least := A7 (by omega)
      rw [w1]
      have hm1 : min s1.1 (s1.2.1.getD c.toNat 0 - (b.Ai.getD c.toNat default).Least) <= s1.2.1.getD c.toNat 0 - (b.Ai.getD c.toNat default).Least := Int.min_le_right _ _
      have hm2 : 0 < min s1.1 (s1.2.1.getD c.toNat 0 - (b.Ai.getD c.toNat default).Least) := by omega
      have w2 : w64 (s1.2.1.getD c.toNat 0 - min s1.1 (s1.2.1.getD c.toNat 0 - (b.Ai.getD c.toNat default).Least)) = s1.2.1.getD c.toNat 0 - min s1.1 (s1.2.1.getD c.toNat 0 - (b.Ai.getD c.toNat default).Least) := A7 (by omega)
      rw [w2]
      refine (c9 hcin.1 (by omega)).bind λ y hy => ?_
      subst hy
      refine (c7 hcin.1 (by rw [bF]; omega)).bind λ z _ => (cw (by simp; omega)).bind λ w hw => c4 ⟨?_, by rw [hw]; simp; omega⟩
      refine i1.set λ c' hc' => ?_
      rw [hcg2] at hc'
      cases hc'
      omega
   refine Ok.inner (A := λ (s2 : Int × List Bool × List An) => Iu b p s2.2.1 /\ s2.2.2.length <= s.2.2.length + 256 + 24 * 256) (B := λ (_ : Unit) => False) ?_ (λ s2 hs2 => ?_) (λ _ h => h.elim)
   ·refine c5 (I := λ i (s2 : Int × List Bool × List An) => Iu b p s2.2.1 /\ s2.2.2.length <= s.2.2.length + 256 + 24 * i) ⟨g1, by have := hs1.2; dsimp only; omega⟩ (λ i c s2 hc hI => ?_) λ s2 hI => ⟨hI.1, by have := hI.2; have := ho.1; omega⟩
    obtain ⟨i1, i2⟩ := hI
    have hlt := (aa.1 hc).1
    have hcin := ho.2 c (ae hc)
    have hLl := hs1.1.1
    unfold Ac9
    rw [Vm]
    have hstay : Iu b p s2.2.1 /\ s2.2.2.length <= s.2.2.length + 256 + 24 * (i + 1) := ⟨i1, by omega⟩
    refine Ok.bind (P := λ _ => True) (cE (λ _ => ⟨_, rfl, trivial⟩) λ _ => trivial) λ y1 _ => ?_
    refine Ok.bind (P := λ _ => True) (cE (λ _ => cD hcin.1 (by omega)) λ _ => trivial) λ y2 _ => ?_
    refine c3 (λ _ => c4 hstay) (λ _ => ?_)
    refine (Ays h c).bind λ l hl => ?_
    refine Ok.inner (A := λ (s3 : List Bool × List An) => Iu b p s3.1 /\ s3.2.length <= s2.2.2.length + 24) (B := λ (_ : Unit) => False) ?_ (λ s3 hs3 => ?_) (λ _ h => h.elim)
    ·refine c5 (I := λ m (s3 : List Bool × List An) => Iu b p s3.1 /\ s3.2.length <= s2.2.2.length + m) ⟨i1, by dsimp only; omega⟩ (λ m k s3 hk hI => ?_) λ s3 hI => ⟨hI.1, by have := hI.2; have := hl.1; omega⟩
     obtain ⟨m1, m2⟩ := hI
     have hml := (aa.1 hk).1
     have hkin := hl.2 k (ae hk)
     have hncl : s3.1.length = b.Ad.length := m1.1.ncl
     have hl1 := hl.1
     unfold Ac8
     refine (c7 hkin.1 (by omega)).bind λ v _ => ?_
     refine c3 (λ _ => ?_) (λ _ => c4 ⟨m1, by dsimp only; omega⟩)
     refine (c9 hkin.1 (by omega)).bind λ y hy => ?_
     subst hy
     refine (cw (by simp; have := ho.1; omega)).bind λ w hw => c4 ⟨m1.set _, by rw [hw]; simp; omega⟩
    ·refine (c7 hcin.1 (by omega)).bind λ v _ => c4 ⟨hs3.1, by have := hs3.2; dsimp only; omega⟩
   ·exact c4 ⟨hs2.1, hs1.1, by have := hs2.2; dsimp only; omega⟩
  ·have := hI.2.2
   omega
 ·obtain ⟨g1, g2, g3⟩ := hs
  refine Ok.pure ⟨⟨⟨g1.1.ncl, hp.nso, g2.1, hp.run, g2.2, g1.1.one, hp.brk⟩, rfl, rfl, g1.2⟩, g3⟩
theorem zR {b : Aa} (h : Aw b) {p : Ab} (hp : Ay b p) : Ok (F29 b p) λ y => Ay b y.1 /\ y.1.Ac = (Ti b p).Ac /\ y.1.Ak = p.Ak /\ ∀ k : Nat, y.1.Ah.getD k false = true -> (Ti b p).Ah.getD k false = true := by
 unfold F29
 refine (Aii h hp).bind λ y hy => ?_
 obtain ⟨c, acts, e⟩ := y
 obtain ⟨rfl, rfl, hla⟩ := hy
 refine c3 (λ hc => by simp at hc) (λ _ => ?_)
 refine (Akx h (Aup hp)).bind λ z hz => ?_
 obtain ⟨⟨z1, z2, z3, z4⟩, hlz⟩ := hz
 dsimp only at hla
 refine (cw (by simp only []; omega)).bind λ w _ => Ok.pure ⟨z1, z2, z3, z4⟩
def Ash (l : List Int) : Prop := ∀ (j : Nat) x y, l[j]? = some x -> l[j + 1]? = some y -> x < y
theorem Afy {b : Aa} (h : Aw b) {l : List Int} (hl : l.length <= 1000) (hin : ∀ x, x ∈ l -> 0 <= x /\ x < b.Ao) (ha : Ash l) : Ok (foldI (Wx b l) l 0 ()) (Dc (λ _ => True) λ (_ : Bool) => False) := by
 refine c5 (I := λ _ _ => True) trivial (λ j x s hx _ => ?_) λ _ _ => trivial
 have hj := (aa.1 hx).1
 have hxi := hin x (ae hx)
 unfold Wx
 rw [C1 (by omega)]
 have d1 : decide (x < 0) = false := decide_eq_false (by omega)
 have d2 : decide (x >= b.Ao) = false := decide_eq_false (by omega)
 rw [d1, d2]
 cases j with
 | zero =>
  refine Ok.bind (P := λ _ => True) (cE (λ hh => absurd hh.2.1 (by simp)) λ _ => trivial) λ y _ => ?_
  refine c3 (λ hc => ?_) (λ _ => c4 trivial)
  simp only [Aiq, d1, d2] at hc
  rw [C1 (by omega)] at hc
  simp at hc
 | succ j =>
  have e : w64 (((j + 1 : Nat) : Int) - 1) = (j : Int) := by rw [A7 (by omega)]; omega
  rw [e]
  have hy : l[j]? = some l[j] := af (by omega)
  refine Ok.bind (P := λ y => y = l[j]) (c6 (λ _ => cI (Ba hy) rfl) λ hn => ?_) λ y hy2 => ?_
  ·exact absurd ⟨rfl, dg (by omega), trivial⟩ hn
  refine c3 (λ hc => ?_) (λ _ => c4 trivial)
  have := ha j _ _ hy hx
  subst hy2
  simp only [Aiq, d1, d2, aM, ac, cZ] at hc
  omega
theorem Arh {b : Aa} (h : Aw b) {p : Ab} (hp : Ay b p) {l : List Int} (hne : 0 < l.length) (hl : l.length <= 1000) (hin : ∀ x, x ∈ l -> 0 <= x /\ x < b.Ao) (ha : Ash l)
  (h1 : ∀ (k : Nat) x, b.Ad[k]? = some x -> x.Kind = 2 -> l.any (x.A == ·) = true -> Bm b p x.B = false) (h2 : ∀ (k : Nat) x, b.Ad[k]? = some x -> x.Kind = 1 -> Bt b p.Ak (k : Int) = true -> l.any (x.A == ·) = l.any (x.B == ·)) : F25 b p l = some true := by
 have hbl : p.Ak.length <= 1000 := by have := hp.brk.len; omega
 have hbb := h.brl
 refine cC ?_
 unfold F25
 rw [B6 h hp]
 simp only [ab]
 refine c3 (λ hc => by simp at hc; rw [hc] at hne; simp at hne) (λ _ => ?_)
 refine Ok.andThen (Afy h hl hin ha) (λ _ _ => ?_) (λ _ h => h.elim)
 refine Ok.andThen (A := λ _ => True) (B := λ (_ : Bool) => False) ?_ (λ _ _ => Ok.pure rfl) (λ _ h => h.elim)
 refine c5 (I := λ _ _ => True) trivial (λ j x s hx _ => ?_) λ _ _ => trivial
 have hj := (aa.1 hx).1
 have hb := h.br x (ae hx)
 unfold Fu at hb
 unfold Ww
 rw [Cf _ _ (by omega), Cf _ _ (by omega), C1 (by omega)]
 simp only [ab]
 refine c3 (λ hk => ?_) (λ _ => c3 (λ hk => ?_) (λ _ => c4 trivial))
 ·simp only [db] at hk
  have hx1 := h1 j x hx hk
  cases hq : l.any (x.A == ·) with
  | false =>
   refine Ok.bind (P := λ _ => True) (cE (λ hh => absurd hh.1 (by simp)) λ _ => trivial) λ y _ => ?_
   exact c3 (λ hc => by simp at hc) (λ _ => c4 trivial)
  | true =>
   rw [Oi h hp.nso hbl (by omega) (by omega), hx1 hq]
   exact c4 trivial
 ·simp only [db] at hk
  have hx2 := h2 j x hx hk
  rw [Mw h hbl (by omega) (by omega)]
  simp only [ab]
  cases hq : Bt b p.Ak (j : Int) with
  | false =>
   refine Ok.bind (P := λ _ => True) (cE (λ hh => absurd hh.1 (by simp)) λ _ => trivial) λ y _ => ?_
   exact c3 (λ hc => by simp at hc) (λ _ => c4 trivial)
  | true =>
   rw [← hx2 hq]
   refine Ok.bind (P := λ y => y = l.any (x.A == ·)) (cI rfl rfl) λ y hy => ?_
   rw [hy]
   exact c3 (λ hc => by simp at hc) (λ _ => c4 trivial)
theorem Auh {b : Aa} (h : Aw b) {p : Ab} (hp : Ay b p) {n : Nat} (hn : n < b.Ao.toNat) (hg : lv (E1 b (Bm b p) (Bt b p.Ak)) n) : F25 b p [(n : Int)] = some false := by
 have hbl : p.Ak.length <= 1000 := by have := hp.brk.len; omega
 have hbb := h.brl
 have hwhy : ∃ (k : Nat) (x : Af), b.Ad[k]? = some x /\ ((x.Kind = 2 /\ x.A = (n : Int) /\ Bm b p x.B = true) \/ (x.Kind = 1 /\ Bt b p.Ak (k : Int) = true /\ ((x.A = (n : Int) /\ x.B ≠ (n : Int)) \/ (x.B = (n : Int) /\ x.A ≠ (n : Int))))) := by
  rcases Aat h hg with ⟨k, hk, hu, hA⟩ | ⟨j, t⟩
  ·obtain ⟨eb, _, k2, kB, hgb⟩ := G5 h hk
   rw [eb, ar] at hA
   have hb := h.br _ (ae hgb)
   unfold Fu at hb
   exact ⟨_, _, hgb, .inl ⟨k2, by omega, by rw [kB]; exact hu⟩⟩
  ·obtain ⟨k, x, hx, hk, hs, he⟩ := F2.1 t
   have hb := h.br _ (ae hx)
   unfold Fu at hb
   exact ⟨k, x, hx, .inr ⟨hk, hs, by omega⟩⟩
 obtain ⟨k, x, hx, hw⟩ := hwhy
 have hkl := (aa.1 hx).1
 refine cC ?_
 unfold F25
 rw [B6 h hp]
 simp only [ab]
 refine c3 (λ hc => by simp at hc) (λ _ => ?_)
 refine Ok.andThen (Afy h (by simp) (λ y hy => ?_) (λ j y z _ hz => ?_)) (λ _ _ => ?_) (λ _ h => h.elim)
 ·rw [bq.1 hy]; omega
 ·simp at hz
 refine Ok.andThen (A := λ _ => False) (B := λ (v : Bool) => v = false) ?_ (λ _ h => h.elim) (λ v hv => Ok.pure hv)
 refine c5 (I := λ j _ => j <= k) (bO _) (λ j y s hy hI => ?_) λ _ hI => ?_
 ·have hj := (aa.1 hy).1
  have hb := h.br y (ae hy)
  unfold Fu at hb
  have any1 : ∀ z : Int, ([(n : Int)].any (z == ·)) = (z == (n : Int)) := λ z => by simp
  unfold Ww
  rw [Cf _ _ (by simp), Cf _ _ (by simp), C1 (by omega), any1, any1]
  simp only [ab]
  have hjk : j = k -> x = y := λ e => by
   subst e; rw [hx] at hy; exact cq hy
  refine c3 (λ hk2 => ?_) (λ hk2 => c3 (λ hk1 => ?_) (λ hk1 => c4 ?_))
  ·simp only [db] at hk2
   rw [Oi h hp.nso hbl (by omega) (by omega), Ra]
   simp only [ab]
   refine c3 (λ _ => Ok.ret rfl) (λ hc => c4 ?_)
   by_cases e : j = k
   ·exfalso
    have := hjk e; subst this
    rcases hw with ⟨_, w2, w3⟩ | ⟨w1, _⟩
    ·rw [w2, w3] at hc; simp at hc
    ·omega
   ·omega
  ·simp only [db] at hk1
   rw [Mw h hbl (by omega) (by omega)]
   simp only [ab]
   rw [Ra]
   simp only [ab]
   refine c3 (λ _ => Ok.ret rfl) (λ hc => c4 ?_)
   by_cases e : j = k
   ·exfalso
    have := hjk e; subst this
    subst e
    rcases hw with ⟨w1, _⟩ | ⟨_, w2, w3⟩
    ·omega
    ·rw [w2] at hc
     rcases w3 with ⟨u1, u2⟩ | ⟨u1, u2⟩
     ·have b1 : (x.A == (n : Int)) = true := by simpa using u1
      have b2 : (x.B == (n : Int)) = false := by simpa using u2
      rw [b1, b2] at hc; simp at hc
     ·have b1 : (x.A == (n : Int)) = false := by simpa using u2
      have b2 : (x.B == (n : Int)) = true := by simpa using u1
      rw [b1, b2] at hc; simp at hc
   ·omega
  ·by_cases e : j = k
   ·exfalso
    have := hjk e; subst this
    simp only [de] at hk1 hk2
    rcases hw with ⟨w1, _⟩ | ⟨w1, _⟩
    ·exact hk2 w1
    ·exact hk1 w1
   ·omega
 ·exact absurd hI (by omega)
theorem Ark {b : Aa} (h : Aw b) {p : Ab} {n : Nat} (hg : lv (E1 b (Bm b p) (Bt b p.Ak)) n) : brk p.Ak 3 (n : Int) = false := by
 rcases Aat h hg with ⟨k, hk, hu, hA⟩ | ⟨j, t⟩
 ·obtain ⟨eb, _, k2, kB, hgb⟩ := G5 h hk
  rw [eb, ar] at hA
  have hb := h.br _ (ae hgb)
  unfold Fu at hb
  unfold Bm Bt at hu
  rw [eb, ar] at hu
  simp only [ac, aV] at hu
  have e : (b.Ad.getD (brN b k) default).A = (n : Int) := by omega
  rw [e] at hu
  exact hu.1.1.1.2
 ·obtain ⟨k, x, hx, hk, hs, he⟩ := F2.1 t
  have hb := h.br _ (ae hx)
  unfold Fu at hb
  unfold Bt at hs
  rw [ar, Gt hx] at hs
  dsimp only at hs
  rw [hk] at hs
  simp only [ac, aV, di, aM] at hs
  rcases he with ⟨_, e⟩ | ⟨e, _⟩
  ·have : x.B = (n : Int) := by omega
   rw [this] at hs; exact hs.2
  ·have : x.A = (n : Int) := by omega
   rw [this] at hs; exact hs.1.2
structure Ax1 (b : Aa) (p : Ab) : Prop where
 st : Ay b p
 safe : ∀ (k : Nat) x, b.Ad[k]? = some x -> p.Ah.getD k false = true -> brk p.Ak 3 x.A = false /\ (x.Kind = 1 -> brk p.Ak 3 x.B = false) /\ (x.Kind = 2 -> brk p.Ak 1 x.B = false)
theorem Agx {s : Ag} (hs : Bh s) : Ok (F7 s) λ y => Ax0 y.1 /\ Ax1 y.1 y.2.1 /\ Bh y.2.2 := by
 unfold F7
 refine (Asg hs).bind λ b hb => (Asd hb.1.ok hb.2).bind λ p hp => ?_
 have h := hb.1.ok
 refine (zR h hp.1.1).bind λ q hq => Ok.pure ⟨hb.1, ⟨hq.1, λ k x hx hc => ?_⟩, hp.2⟩
 obtain ⟨_, _, q3, q4⟩ := hq
 have hk := (aa.1 hx).1
 have h1 : (Yi b.1 p.1).Ah.getD k false = true := q4 k hc
 have h2 : (acC b.1 p.1.Ah (Dw p.1)).getD k false = true := Au1 b.1 _ _ (Yj hp.1.1).ncl k h1
 rw [Aga b.1 _ _ hk, Gt hx] at h2
 simp only [ac, aV] at h2
 have hd := h2.2
 unfold Dw at hd
 rw [aQ] at hd
 rw [q3]
 refine ⟨hd.1, λ e => ?_, λ e => ?_⟩
 ·have := hd.2
  rw [if_pos e] at this; exact this
 ·have := hd.2
  rw [if_neg (by omega), if_pos e, aQ] at this; exact this.1
def Fy (G : List Bool) (n : Nat) : List Int := ((List.range n).filter λ i => !G.getD i false).map λ (i : Nat) => (i : Int)
theorem M_ {G : List Bool} {n : Nat} {x : Int} : x ∈ Fy G n ↔ ∃ k : Nat, x = (k : Int) /\ k < n /\ ¬ lv G k := by
 constructor
 ·intro h
  obtain ⟨k, hk, e⟩ := ao.1 h
  obtain ⟨h1, h2⟩ := aw.1 hk
  exact ⟨k, e.symm, aK.1 h1, by unfold lv; simpa using h2⟩
 ·rintro ⟨k, e, h1, h2⟩
  exact ao.2 ⟨k, aw.2 ⟨aK.2 h1, by unfold lv at h2; simpa using h2⟩, e.symm⟩
theorem S6 {G : List Bool} {n : Nat} {x : Int} (h0 : 0 <= x) (h1 : x < (n : Int)) : (Fy G n).any (x == ·) = !G.getD x.toNat false := by
 rw [bj, cm]
 constructor
 ·rintro ⟨y, hy, e⟩
  rw [db] at e; subst e
  obtain ⟨k, rfl, _, h2⟩ := M_.1 hy
  unfold lv at h2
  rw [ar]; simpa using h2
 ·intro hh
  exact ⟨x, M_.2 ⟨x.toNat, by omega, by omega, by unfold lv; simpa using hh⟩, by simp⟩
theorem Aq6 (G : List Bool) (n : Nat) : Ash (Fy G n) := by
 have hp : (Fy G n).Pairwise (· < ·) := by
  unfold Fy
  rw [List.pairwise_map]
  refine List.Pairwise.imp (R := λ a c : Nat => a < c) (λ h => by omega) ?_
  exact List.pairwise_lt_range.sublist List.filter_sublist
 intro j x y hx hy
 rw [List.pairwise_iff_getElem] at hp
 obtain ⟨h1, e1⟩ := aa.1 hx
 obtain ⟨h2, e2⟩ := aa.1 hy
 rw [← e1, ← e2]
 exact hp j (j + 1) h1 h2 (by omega)
theorem restoreProves_law (t : List Int) : F5 t = some true := by
 refine cC ?_
 unfold F5
 refine (Axy t).bind λ s hs => (Agx hs).bind λ w hw => ?_
 obtain ⟨hmk, hbe, hsr⟩ := hw
 have h := hmk.ok
 have hp := hbe.st
 have hbu := h.buses
 have hbb := h.brl
 have hncl := hp.ncl
 have hbl : w.2.1.Ak.length <= 1000 := by have := hp.brk.len; omega
 have hgl := Pt w.1 (Bm w.1 w.2.1) (Bt w.1 w.2.1.Ak)
 rw [Auk h hp]
 simp only [ab]
 generalize hG : E1 w.1 (Bm w.1 w.2.1) (Bt w.1 w.2.1.Ak) = G at hgl ⊢
 refine c3 (λ hc => ?_) (λ _ => ?_)
 ·exfalso
  rw [bne_iff_ne] at hc
  omega
 refine Ok.andThen (A := λ _ => ∀ k : Nat, k < w.1.Ad.length -> w.2.1.Ah.getD k false = true -> brk w.2.1.Ak 2 (k : Int) = false) (B := λ (v : Bool) => v = true) ?_ (λ _ hsafe => ?_) (λ v hv => Ok.pure hv)
 ·refine c8 (λ z => ∃ j : Nat, z = (j : Int) /\ j <= w.1.Ad.length /\ ∀ k : Nat, k < j -> w.2.1.Ah.getD k false = true -> brk w.2.1.Ak 2 (k : Int) = false) (λ z => (100 - z).toNat) _ _ ⟨0, rfl, by omega, λ k hk => by omega⟩ (by omega) ?_
  rintro z ⟨j, rfl, h1, h2⟩
  unfold Aj6 Axj
  refine c3 (λ hq => ?_) (λ hq => cA ?_)
  ·simp only [cZ] at hq
   rw [Ba (jM hp (j := j) (by omega)), Ls]
   simp only [ab]
   rw [Ra]
   simp only [ab]
   refine c3 (λ _ => ?_) (λ hc => ?_)
   ·rw [Aky]
    exact Ok.ret rfl
   ·have e : w64 ((j : Int) + 1) = ((j + 1 : Nat) : Int) := by rw [A7 (by omega)]; omega
    rw [e]
    refine c4 ⟨⟨j + 1, rfl, by omega, λ k hk hcl => ?_⟩, by omega⟩
    by_cases e2 : k = j
    ·subst e2
     rw [hcl] at hc
     simpa using hc
    ·exact h2 k (by omega) hcl
  ·simp only [da] at hq
   exact λ k hk => h2 k (by omega)
 have hheld : Ty w.1 w.2.1 w.2.1 := ⟨hp, rfl, λ _ hi => hi, λ k x hx hc => by
  obtain ⟨s1, s2, s3⟩ := hbe.safe k x hx hc
  exact ⟨hsafe k (aa.1 hx).1 hc, s1, s2, s3⟩⟩
 refine Ok.andThen (A := λ l => l = Fy G G.length) (B := λ (_ : Unit) => False) ?_ (λ l hl => ?_) (λ _ h => h.elim)
 ·refine c5 (I := λ j s => s = Fy G j) rfl (λ j a s ha hI => ?_) λ s hs => hs
  have hj := (aa.1 ha).1
  have ea : G.getD j false = a := by simp [List.getD, ha]
  have hlen : (Fy G j).length <= j := C6 _ j
  subst hI
  unfold Aj5
  rw [C1 (by omega)]
  unfold Fy at hlen ⊢
  rw [D4, ea]
  refine c3 (λ hc => ?_) (λ hc => c4 ?_)
  ·refine (cw (by simp only [aY, bA]; omega)).bind λ y hy => c4 ?_
   rw [hy, if_pos hc]
  ·rw [if_neg (by rw [hc]; simp), aF]
 subst hl
 rw [hgl]
 have hlen : (Fy G w.1.Ao.toNat).length <= w.1.Ao.toNat := C6 _ _
 have hlin : ∀ x, x ∈ Fy G w.1.Ao.toNat -> 0 <= x /\ x < w.1.Ao := λ x hx => by
  obtain ⟨k, rfl, hk, _⟩ := M_.1 hx
  omega
 have hlost : ∀ x, x ∈ Fy G w.1.Ao.toNat -> ∃ k : Nat, x = (k : Int) /\ k < w.1.Ao.toNat /\ ¬ lv (E1 w.1 (Bm w.1 w.2.1) (Bt w.1 w.2.1.Ak)) k := λ x hx => by
  rw [hG]; exact M_.1 hx
 have hbr : ∀ {k : Nat} {x : Af}, w.1.Ad[k]? = some x -> (0 <= x.A /\ x.A < w.1.Ao) /\ (x.Kind = 1 -> x.A < x.B /\ x.B < w.1.Ao) /\ (x.Kind = 2 -> 0 <= x.B /\ x.B < w.1.Ac.length) := λ hx => by
  have := h.br _ (ae hx)
  unfold Fu at this
  exact ⟨this.1, λ e => by omega, λ e => by omega⟩
 refine Ok.bind (P := λ v => 0 < (Fy G w.1.Ao.toNat).length -> v = true) ?_ λ v hv => ?_
 ·by_cases hne : 0 < (Fy G w.1.Ao.toNat).length
  ·refine c6 (λ _ => ?_) (λ hn => absurd ⟨dg (by omega), trivial⟩ hn)
   refine cI (Arh h hp hne (by omega) hlin (Aq6 _ _) (λ k x hx hk ha => ?_) λ k x hx hk hso => ?_) λ _ => rfl
   ·obtain ⟨g1, _, g3⟩ := hbr hx
    have g3 := g3 hk
    rw [S6 g1.1 (by omega)] at ha
    cases hu : Bm w.1 w.2.1 x.B with
    | false => rfl
    | true =>
     exfalso
     obtain ⟨i, ei⟩ : ∃ i : Nat, x.B = (i : Int) := ⟨x.B.toNat, by omega⟩
     have hi : i < w.1.Ac.length := by omega
     have ek := Abs h hi hx hk ei
     obtain ⟨eb, _⟩ := G5 h hi
     rw [ei] at hu
     have hA : (w.1.Ad.getD (Eh w.1 (i : Int)).toNat default) = x := by rw [eb, ar, ← ek, Gt hx]
     have := Aau h (u := Bm w.1 w.2.1) (sd := Bt w.1 w.2.1.Ak) hi hu (by rw [hA]; omega)
     rw [hA, hG] at this
     unfold lv at this
     rw [this] at ha
     cases ha
   ·obtain ⟨g1, g2, _⟩ := hbr hx
    have g2 := g2 hk
    rw [S6 g1.1 (by omega), S6 (by omega) (by omega)]
    have t : Tie (Gi w.1 (Bt w.1 w.2.1.Ak)) x.A.toNat x.B.toNat := F2.2 ⟨k, x, hx, hk, hso, .inl ⟨rfl, rfl⟩⟩
    have t1 := S_ h (u := Bm w.1 w.2.1) t
    have t2 := S_ h (u := Bm w.1 w.2.1) t.symm
    rw [hG] at t1 t2
    congr 1
    rw [bj]
    exact ⟨t1, t2⟩
  ·exact cE (λ hh => absurd (of_decide_eq_true hh.1) (by omega)) λ _ hh => absurd hh hne
 refine c3 (λ hc => ?_) (λ _ => ?_)
 ·exfalso
  simp only [Axi, ac, cZ, aV] at hc
  rw [hv (by omega)] at hc
  cases hc.2
 refine Ok.andThen (A := λ _ => True) (B := λ (_ : Bool) => False) ?_ (λ _ _ => ?_) (λ _ h => h.elim)
 ·refine c5 (I := λ _ _ => True) trivial (λ j a s ha _ => ?_) λ _ _ => trivial
  have hj := (aa.1 ha).1
  have ea : G.getD j false = a := by simp [List.getD, ha]
  unfold Aj4
  rw [C1 (by omega)]
  cases a with
  | false =>
   refine Ok.bind (P := λ _ => True) (cE (λ hh => absurd hh.1 (by simp)) λ _ => trivial) λ y _ => ?_
   refine Ok.bind (P := λ _ => True) (cE (λ hh => absurd hh.1 (by simp)) λ _ => trivial) λ y2 _ => ?_
   exact c4 trivial
  | true =>
   have hg : lv (E1 w.1 (Bm w.1 w.2.1) (Bt w.1 w.2.1.Ak)) j := by rw [hG]; exact ea
   rw [Auh h hp (by omega) hg, Ls, Ark h hg]
   exact c4 trivial
 refine (Ax2 h hsr (k := 10) (by omega)).bind λ l hl => ?_
 refine Ok.andThen (A := λ _ => True) (B := λ (_ : Bool) => False) ?_ (λ _ _ => by rw [Aky]; exact Ok.pure rfl) (λ _ h => h.elim)
 refine c5 (I := λ _ s => ∃ q : Ab, s = (q.Ah, q.Ac, q.As, q.Ak) /\ Ty w.1 w.2.1 q) ⟨w.2.1, rfl, hheld⟩ (λ j a s ha hI => ?_) λ _ _ => trivial
 obtain ⟨q, rfl, hq⟩ := hI
 unfold Aj3
 refine c3 (λ _ => c4 ⟨q, rfl, hq⟩) (λ hk => ?_)
 simp only [aQ, de] at hk
 obtain ⟨ha1, ha2⟩ := Af9 h hq.st 10 a
 refine Ok.bind (P := λ v => v = Ig w.1 q 10 a) (cI ha1 rfl) λ v hv2 => ?_
 subst hv2
 refine c3 (λ _ => c4 ⟨q, rfl, hq⟩) (λ he => ?_)
 have he : (Ig w.1 q 10 a).2 = 0 := by simpa using he
 have hr : Ay w.1 (Ig w.1 q 10 a).1 := ha2.resolve_left λ e => e he
 have hheld2 : Ty w.1 w.2.1 (Ig w.1 q 10 a).1 := hq.keeps hr ((A09 h hq.st 10 hk).resolve_left λ e => e he)
 refine Ok.inner (A := λ _ => True) (B := λ (_ : Bool) => False) ?_ (λ _ _ => c4 ⟨_, rfl, hheld2⟩) (λ _ h => h.elim)
 refine c5 (I := λ _ _ => True) trivial (λ i x s hx _ => ?_) λ _ _ => trivial
 obtain ⟨k, rfl, hk2, hg⟩ := hlost x (ae hx)
 unfold Aj2
 rw [jA h hr hk2, Anp h hheld2 hk2 hg]
 exact c4 trivial
end Go.Proofs.YtcigbocngfaopaaGreat
