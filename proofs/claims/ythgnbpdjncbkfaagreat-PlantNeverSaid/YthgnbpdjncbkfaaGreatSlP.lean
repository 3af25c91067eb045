import Derived.Test.YthgnbpdjncbkfaaGreatSlO
namespace Go.SL
section
variable {P : Program} {C : Ctx} {S S' : Nat -> Prop} {w w' : World} {ρ ρ' : List Value} {R R' : List Res} {L : List Ent} {cur : Cp} {a : Act}
theorem Abp : ∀ {L : List Ent} {e : Ent} {i off : Nat}, e ∈ L -> e.v = .d (.o i off) -> i ∈ Cg L
 | x :: r, e, i, off, h, hv => by
  rcases ag.1 h with rfl | h
  ·simp [Cg, hv]
  ·have := Abp h hv
   unfold Cg; split <;> simp [this]
 | [], _, _, _, h, _ => by cases h
theorem Xs : ∀ {L : List Ent} {e : Ent} {i : Nat}, e ∈ L -> e.v = .d (.os i) -> i ∈ Cg L
 | x :: r, e, i, h, hv => by
  rcases ag.1 h with rfl | h
  ·simp [Cg, hv]
  ·have := Xs h hv
   unfold Cg; split <;> simp [this]
 | [], _, _, h, _ => by cases h
theorem Xt : ∀ {L : List Ent} {e : Ent} {i a b c : Nat}, e ∈ L -> e.v = .d (.oe i a b c) -> i ∈ Cg L
 | x :: r, e, i, a, b, c, h, hv => by
  rcases ag.1 h with rfl | h
  ·simp [Cg, hv]
  ·have := Xt h hv
   unfold Cg; split <;> simp [this]
 | [], _, _, _, _, _, h, _ => by cases h
theorem Xu : ∀ {L : List Ent} {e : Ent} {i a b c : Nat}, e ∈ L -> e.v = .d (.osb i a b c) -> i ∈ Cg L
 | x :: r, e, i, a, b, c, h, hv => by
  rcases ag.1 h with rfl | h
  ·simp [Cg, hv]
  ·have := Xu h hv
   unfold Cg; split <;> simp [this]
 | [], _, _, _, _, _, h, _ => by cases h
theorem Sj : ∀ {L : List Ent} {e : Ent} {i g a b c : Nat}, e ∈ L -> e.v = .d (.oi i g a b c) -> i ∈ Cg L /\ g ∈ Cg L
 | x :: r, e, i, g, a, b, c, h, hv => by
  rcases ag.1 h with rfl | h
  ·simp [Cg, hv]
  ·have := Sj h hv
   unfold Cg; split <;> simp [this]
 | [], _, _, _, _, _, _, h, _ => by cases h
theorem qS {i g e s : Nat} : ∀ {l : List Nat}, i ∈ l -> R[i]? = some (.dsl e s g) -> g ∈ Py R l
 | [], h, _ => by cases h
 | j :: l, h, hi => by
  rcases ag.1 h with rfl | h
  ·simp [Py, hi]
  ·have := qS h hi
   unfold Py; split <;> simp [this]
theorem Arj {i : Nat} {l : List Nat} (h : i ∈ l) : i ∈ deepen R l := bl _ h
theorem Aio {i g e s : Nat} {l : List Nat} (h : i ∈ l) (hi : R[i]? = some (.dsl e s g)) : g ∈ deepen R l := bm _ (qS h hi)
theorem P3 {v : Value} {i off a b c : Nat} : Nj v ≠ some (.d (.o i off)) /\ Nj v ≠ some (.d (.os i)) /\ Nj v ≠ some (.d (.oe i a b c)) /\ Nj v ≠ some (.d (.osb i a b c)) /\ ∀ g, Nj v ≠ some (.d (.oi i g a b c)) := by
 unfold Nj
 split
 ·refine ⟨?_, ?_, ?_, ?_, λ _ => ?_⟩ <;> (cases Ep (_ : Array Value).toList <;> simp)
 ·simp
 ·refine ⟨?_, ?_, ?_, ?_, λ _ => ?_⟩ <;>
  ·cases h : dOf v with
   | none => simp
   | some d =>
    unfold dOf at h
    cases hb : v.oneCell' with
    | true => rw [hb] at h; simp at h; subst h; simp
    | false => rw [hb] at h; simp at h
theorem Aqx {x : Operand} {i off : Nat} (h : Bz L cur x = some (.d (.o i off))) : i ∈ Cg L := by
 unfold Bz at h
 split at h
 ·exact absurd h (P3 (a := 0) (b := 0) (c := 0)).1
 ·split at h
  ·rename_i e he
   cases hb : E4 e.p cur with
   | false => rw [hb] at h; simp at h
   | true => rw [hb] at h; simp at h; exact Abp (Cu he).1 h
  ·cases h
 ·simp at h
 ·cases h
theorem Ec {x : Operand} {i : Nat} (h : Bz L cur x = some (.d (.os i))) : i ∈ Cg L := by
 unfold Bz at h
 split at h
 ·exact absurd h (P3 (off := 0) (a := 0) (b := 0) (c := 0)).2.1
 ·split at h
  ·rename_i e he
   cases hb : E4 e.p cur with
   | false => rw [hb] at h; simp at h
   | true => rw [hb] at h; simp at h; exact Xs (Cu he).1 h
  ·cases h
 ·simp at h
 ·cases h
theorem M6 {x : Operand} {i k s off : Nat} (h : Bz L cur x = some (.d (.oe i k s off))) : i ∈ Cg L := by
 unfold Bz at h
 split at h
 ·exact absurd h (P3 (off := 0)).2.2.1
 ·split at h
  ·rename_i e he
   cases hb : E4 e.p cur with
   | false => rw [hb] at h; simp at h
   | true => rw [hb] at h; simp at h; exact Xt (Cu he).1 h
  ·cases h
 ·simp at h
 ·cases h
theorem M7 {x : Operand} {i k s off : Nat} (h : Bz L cur x = some (.d (.osb i k s off))) : i ∈ Cg L := by
 unfold Bz at h
 split at h
 ·exact absurd h (P3 (off := 0)).2.2.2.1
 ·split at h
  ·rename_i e he
   cases hb : E4 e.p cur with
   | false => rw [hb] at h; simp at h
   | true => rw [hb] at h; simp at h; exact Xu (Cu he).1 h
  ·cases h
 ·simp at h
 ·cases h
theorem Aev {x : Operand} {i g k s off : Nat} (h : Bz L cur x = some (.d (.oi i g k s off))) : i ∈ Cg L /\ g ∈ Cg L := by
 unfold Bz at h
 split at h
 ·exact absurd h ((P3 (off := 0)).2.2.2.2 g)
 ·split at h
  ·rename_i e he
   cases hb : E4 e.p cur with
   | false => rw [hb] at h; simp at h
   | true => rw [hb] at h; simp at h; exact Sj (Cu he).1 h
  ·cases h
 ·simp at h
 ·cases h
theorem D_ : ∀ {l : List Operand} {avs : List AV} {av : AV}, Ds L cur l = some avs -> av ∈ avs -> ∃ x, Bz L cur x = some av
 | [], avs, av, h, hm => by simp [Ds] at h; subst h; cases hm
 | x :: r, avs, av, h, hm => by
  simp only [Ds] at h
  split at h
  ·rename_i v l h1 h2
   simp at h; subst h
   rcases ag.1 hm with rfl | hm
   ·exact ⟨x, h1⟩
   ·exact D_ h2 hm
  ·cases h
theorem Aid {args : List AV} (h : ∀ i, AV.d (.os i) ∈ args -> R[i]? = R'[i]?) (hg : ∀ i e s g, AV.d (.os i) ∈ args -> R[i]? = some (.dsl e s g) -> R[g]? = R'[g]?) : Lc R args = Lc R' args := by
 unfold Lc
 split
 ·rfl
 ·rfl
 ·rename_i i
  rw [← h i (by simp)]
  split
  ·rfl
  ·rename_i e s g hd
   rw [hg i e s g (by simp) hd]
  ·rfl
 ·rfl
 ·rfl
theorem Aia {c : Cl} {op : Op} (h0 : ∀ i, i ∈ deepen R (J4 op L) -> R[i]? = R'[i]?) : B6 P L cur R c op = B6 P L cur R' c op := by
 have h : ∀ i, i ∈ J4 op L -> R[i]? = R'[i]? := λ i hi => h0 i (Arj hi)
 have hgh : ∀ i e s g, i ∈ J4 op L -> R[i]? = some (.dsl e s g) -> R[g]? = R'[g]? := λ i e s g hi hd => h0 g (Aio hi hd)
 cases op with
 | load t x =>
  by_cases hg : ∃ g, x = .global g
  ·obtain ⟨g, rfl⟩ := hg
   rfl
  have e : ∀ R, B6 P L cur R c (.load t x) = Uc P L cur R c t x := λ R => by
   cases x with
   | global g => exact absurd ⟨g, rfl⟩ hg
   | _ => rfl
  rw [e, e]
  unfold Uc
  split
  ·rename_i i off n e1 e2
   rw [h i (Aqx e1)]
  ·rfl
  ·rename_i i k size off n e1 e2
   rw [← h i (M6 e1)]
   split
   ·rfl
   ·rename_i e s g _ _ _ hd
    rw [hgh i _ _ _ (M6 e1) hd]
   ·rfl
  ·rfl
 | indexAddr t x i =>
  simp only [B6]
  unfold Arb
  split
  ·rfl
  ·rename_i e j ik n e1 e2 e3
   rw [← h j (Ec e2)]
   split
   ·rfl
   ·rename_i e s g _ _ _ hd
    rw [hgh j _ _ _ (Ec e2) hd]
   ·rfl
  ·rfl
  ·rfl
  ·rfl
 | call k =>
  simp only [B6]
  split
  ·split
   ·rename_i args e1
    split
    ·split
     ·rw [Aid (R' := R') (λ i hi => by
       obtain ⟨x, hx⟩ := D_ e1 hi
       exact h i (Ec hx)) (λ i e s g hi hd => by
       obtain ⟨x, hx⟩ := D_ e1 hi
       exact hgh i e s g (Ec hx) hd)]
     ·rfl
     ·rfl
    ·rfl
   ·rfl
  ·rfl
 | slice t x lo hi mx =>
  cases mx with
  | none =>
   simp only [B6]
   split
   ·rfl
   ·rename_i e i e1 e2
    rw [h i (Ec e2)]
   ·rename_i e i o0 n0 s0 e1 e2
    rw [h i (M7 e2)]
   ·rfl
  | some mx =>
   cases lo with
   | none => rfl
   | some lo =>
    cases hi with
    | none => rfl
    | some hi =>
     simp only [B6]
     split
     ·rename_i e i e1 e2
      rw [h i (Ec e2)]
     ·rfl
 | _ => rfl
mutual
theorem Ac8 (f : Nat -> Option Nat) : ∀ (d d' : D), D.ren (λ _ => none) d = some d' -> D.ren f d = some d'
 | .p x, d', h => h
 | .o i off, d', h => by simp [D.ren] at h
 | .os i, d', h => by simp [D.ren] at h
 | .oe i k s off, d', h => by simp [D.ren] at h
 | .ip c, d', h => h
 | .any, d', h => h
 | .nq _, d', h => h
 | .osb _ _ _ _, d', h => by simp [D.ren] at h
 | .oi _ _ _ _ _, d', h => by simp [D.ren] at h
 | .fn g a b, d', h => by
  simp only [D.ren] at h ⊢
  split at h
  ·rename_i a' b' h1 h2
   rw [L7 f a a' h1, L7 f b b' h2]
   exact h
  ·cases h
theorem L7 (f : Nat -> Option Nat) : ∀ (l l' : List D), D.renL (λ _ => none) l = some l' -> D.renL f l = some l'
 | [], l', h => h
 | d :: r, l', h => by
  simp only [D.renL] at h ⊢
  split at h
  ·rename_i d' r' h1 h2
   rw [Ac8 f d d' h1, L7 f r r' h2]
   exact h
  ·cases h
end
mutual
theorem uQ (f : Nat -> Option Nat) : ∀ (d d' : AV), AV.ren (λ _ => none) d = some d' -> AV.ren f d = some d'
 | .d x, d', h => by
  simp only [AV.ren] at h ⊢
  split at h
  ·rename_i y hy
   rw [Ac8 f x y hy]; exact h
  ·cases h
 | .agg ds, d', h => by
  simp only [AV.ren] at h ⊢
  split at h
  ·rename_i y hy
   rw [L7 f ds y hy]; exact h
  ·cases h
 | .tup l, d', h => by
  simp only [AV.ren] at h ⊢
  split at h
  ·rename_i y hy
   rw [X5 f l y hy]; exact h
  ·cases h
theorem X5 (f : Nat -> Option Nat) : ∀ (l l' : List AV), AV.renL (λ _ => none) l = some l' -> AV.renL f l = some l'
 | [], l', h => h
 | d :: r, l', h => by
  simp only [AV.renL] at h ⊢
  split at h
  ·rename_i d' r' h1 h2
   rw [uQ f d d' h1, X5 f r r' h2]
   exact h
  ·cases h
end
theorem Aif {args : List AV} {f : FuncId} {c : Cl} {out : Out} (hn : Aql c = true) (hc : Adb c = true)
  (h : Fp R args f c = some out) : out.R = R /\ Fp R' args f c = some { out with R := R' } := by
 unfold Aql at hn
 split at hn
 ·rename_i g q1 q2 res R2 pi
  simp only [ac, ct] at hn
  obtain ⟨rfl, rfl⟩ := hn
  obtain ⟨res', hres⟩ := Option.isSome_iff_exists.1 hc
  unfold Fp at h ⊢
  simp only at h ⊢
  generalize hbb : (Nat.beq f g && Eh [] && Nat.ble ([] : List Nat).length ([] : List Res).length) = bb at h ⊢
  cases bb with
  | false => simp at h
  | true =>
   simp only [cond_true] at h ⊢
   split at h
   ·rename_i a' Rp e1 e2
    rw [e1]
    simp only [Jj] at e2 ⊢
    simp only [ak] at e2
    subst e2
    simp only [G_, uQ _ res res' hres] at h ⊢
    simp at h; subst h
    simp [Ea]
   ·cases h
 ·cases hn
theorem Sa : ∀ {l : List D}, (∀ i, i ∈ zJ l -> R[i]? = R'[i]?) -> G0 R l = G0 R' l
 | [], _ => rfl
 | d :: r, h => by
  have ih : G0 R r = G0 R' r := Sa λ i hi => h i (by cases d <;> simp [zJ, hi])
  have hd : K0 R d = K0 R' d := by
   cases d with
   | os i => simp only [K0]; rw [h i (by simp [zJ])]
   | _ => rfl
  simp only [G0, ih, hd]
mutual
theorem X6 {rw : List Pd} : ∀ {d : D}, (∀ i, i ∈ d.touchV R -> R[i]? = R'[i]?) -> d.view R rw = d.view R' rw
 | .p _, _ => rfl
 | .ip _, _ => rfl
 | .any, _ => rfl
 | .nq _, _ => rfl
 | .oe _ _ _ _, _ => rfl
 | .osb i _ _ _, h => by simp only [D.view]; rw [h i (by simp [D.touchV])]
 | .oi _ g _ _ _, h => by simp only [D.view]; rw [h g (by simp [D.touchV])]
 | .os i, h => by simp only [D.view]; rw [h i (by simp [D.touchV])]
 | .o i off, h => by
  have h0 := h i (by simp [D.touchV])
  simp only [D.view]
  rw [← h0]
  cases hi : R[i]? with
  | none => rfl
  | some r => cases r with
   | box t cells =>
    simp only
    rw [Sa (R' := R') λ k hk => h k (by simp only [D.touchV, hi]; exact ah _ hk)]
   | _ => rfl
 | .fn g a b, h => by
  have h1 := J3 (rw := rw) (l := a) λ i hi => h i (by simp only [D.touchV]; exact bl _ hi)
  have h2 := J3 (rw := rw) (l := b) λ i hi => h i (by simp only [D.touchV]; exact bm _ hi)
  simp only [D.view, h1, h2]
theorem J3 {rw : List Pd} : ∀ {l : List D}, (∀ i, i ∈ D.touchVL R l -> R[i]? = R'[i]?) -> D.viewL R rw l = D.viewL R' rw l
 | [], _ => rfl
 | d :: r, h => by
  have h1 := X6 (rw := rw) (d := d) λ i hi => h i (by simp only [D.touchVL]; exact bl _ hi)
  have h2 := J3 (rw := rw) (l := r) λ i hi => h i (by simp only [D.touchVL]; exact bm _ hi)
  simp only [D.viewL, h1, h2]
end
theorem Al5 {rw : List Pd} {x : AV} (h : ∀ i, i ∈ x.touchV R -> R[i]? = R'[i]?) : x.view R rw = x.view R' rw := by
 cases x with
 | d x => simp only [AV.view]; rw [X6 (R' := R') h]
 | agg l => simp only [AV.view]; rw [J3 (R' := R') h]
 | tup l => rfl
theorem Sd {rw : List Pd} : ∀ {l : List AV}, (∀ x, x ∈ l -> ∀ i, i ∈ x.touchV R -> R[i]? = R'[i]?) -> AV.viewL R rw l = AV.viewL R' rw l
 | [], _ => rfl
 | x :: r, h => by
  have h1 := Al5 (rw := rw) (x := x) (h x ai)
  have h2 := Sd (rw := rw) (l := r) λ y hy => h y (ah _ hy)
  simp only [AV.viewL, h1, h2]
theorem jI {e : Ent} {i : Nat} : ∀ {L : List Ent}, e ∈ L -> i ∈ e.v.touchV R -> i ∈ touchV R L
 | [], h, _ => by cases h
 | x :: r, h, hi => by
  simp only [touchV]
  rcases ag.1 h with rfl | h
  ·exact bl _ hi
  ·exact bm _ (jI h hi)
theorem Aoi {i : Nat} : ∀ {l : List Value} {ds : List D}, Ep l = some ds -> i ∉ D.touchVL R ds
 | [], ds, h => by simp [Ep] at h; subst h; simp [D.touchVL]
 | v :: l, ds, h => by
  simp only [Ep] at h
  split at h
  ·rename_i d r h1 h2
   simp at h; subst h
   unfold dOf at h1
   cases hb : v.oneCell' with
   | false => rw [hb] at h1; simp at h1
   | true => rw [hb] at h1; simp at h1; subst h1; simpa [D.touchVL, D.touchV] using Aoi h2
  ·cases h
theorem Aru {v : Value} {x : AV} {i : Nat} (h : Nj v = some x) : i ∉ x.touchV R := by
 unfold Nj at h
 split at h
 ·cases hd : Ep (_ : Array Value).toList with
  | none => rw [hd] at h; cases h
  | some ds => rw [hd] at h; simp at h; subst h; exact Aoi hd
 ·cases h
 ·cases hd : dOf v with
  | none => rw [hd] at h; cases h
  | some d =>
   rw [hd] at h; simp at h; subst h
   unfold dOf at hd
   cases hb : v.oneCell' with
   | false => rw [hb] at hd; simp at hd
   | true => rw [hb] at hd; simp at hd; subst hd; simp [AV.touchV, D.touchV]
theorem Im {x : Operand} {v : AV} {i : Nat} (h : Bz L cur x = some v) (hi : i ∈ v.touchV R) : i ∈ touchV R L := by
 unfold Bz at h
 split at h
 ·exact absurd hi (Aru h)
 ·split at h
  ·rename_i e he
   cases hb : E4 e.p cur with
   | false => rw [hb] at h; simp at h
   | true => rw [hb] at h; simp at h; subst h; exact jI (Cu he).1 hi
  ·cases h
 ·simp at h; subst h; simp [AV.touchV, D.touchV, D.touchVL] at hi
 ·cases h
theorem Uf {d : D} : d.norm.touchV R = d.touchV R := by
 unfold D.norm; split <;> rfl
theorem Sc : ∀ {l : List D}, D.touchVL R (l.map D.norm) = D.touchVL R l
 | [] => rfl
 | d :: r => by simp only [bB, D.touchVL, Uf, Sc]
theorem Al9 {x : AV} : x.norm.touchV R = x.touchV R := by
 cases x with
 | d x => exact Uf
 | agg l => exact Sc
 | tup l => rfl
theorem Lz {g k : Nat} : ∀ {d : D}, (g, k) ∈ d.ois -> g ∈ d.touchV R
 | .oi _ _ _ _ _, h => by simp [D.ois] at h; simp [D.touchV, h.1]
 | .fn f a b, h => by
  have key : ∀ {l : List D}, (∀ d, d ∈ l -> (g, k) ∈ d.ois -> g ∈ d.touchV R) -> (g, k) ∈ D.oisL l -> g ∈ D.touchVL R l := by
   intro l
   induction l with
   | nil => intro _ h; simp [D.oisL] at h
   | cons d l ih =>
    intro hh h
    simp only [D.oisL, au] at h
    simp only [D.touchVL, au]
    rcases h with h | h
    ·exact .inl (hh d ai h)
    ·exact .inr (ih (λ d hd => hh d (ah _ hd)) h)
  simp only [D.ois, au] at h
  simp only [D.touchV, au]
  rcases h with h | h
  ·exact .inl (key (λ d _ h => Lz h) h)
  ·exact .inr (key (λ d _ h => Lz h) h)
 | .p _, h => by simp [D.ois] at h
 | .o _ _, h => by simp [D.ois] at h
 | .os _, h => by simp [D.ois] at h
 | .oe _ _ _ _, h => by simp [D.ois] at h
 | .osb _ _ _ _, h => by simp [D.ois] at h
 | .ip _, h => by simp [D.ois] at h
 | .any, h => by simp [D.ois] at h
 | .nq _, h => by simp [D.ois] at h
theorem Tn {g k : Nat} : ∀ {l : List D}, (g, k) ∈ D.oisL l -> g ∈ D.touchVL R l
 | [], h => by simp [D.oisL] at h
 | d :: l, h => by
  simp only [D.oisL, au] at h
  simp only [D.touchVL, au]
  exact h.imp Lz Tn
theorem Xz {g k : Nat} : ∀ {l : List AV}, (g, k) ∈ oisL l -> ∃ x, x ∈ l /\ g ∈ x.touchV R
 | [], h => by simp [oisL] at h
 | x :: l, h => by
  simp only [oisL, au] at h
  rcases h with h | h
  ·refine ⟨x, ai, ?_⟩
   cases x with
   | d x => exact Lz h
   | agg l => exact Tn h
   | tup l => simp [AV.ois] at h
  ·obtain ⟨y, h1, h2⟩ := Xz h
   exact ⟨y, ah _ h1, h2⟩
theorem Aey {args : List AV} {f g : FuncId} {q : List AV} {res : AV} {rows : List (List Pd)} {k : Nat} {rw : List Pd} {out : Out} (ht : ∀ x, x ∈ args -> ∀ i, i ∈ x.touchV R -> R[i]? = R'[i]?)
  (h : Fp R args f (.callB g q res rows k rw) = some out) : out.R = R /\ Fp R' args f (.callB g q res rows k rw) = some { out with R := R' } := by
 simp only [Fp] at h ⊢
 generalize (Nat.beq f g && res.flat) = bb at h ⊢
 have hview : ∀ rw, AV.viewL R rw (args.map AV.norm) = AV.viewL R' rw (args.map AV.norm) := λ rw => Sd (R := R) (R' := R') (l := args.map AV.norm) λ x hx i hi => by
  obtain ⟨y, hy, rfl⟩ := aq.1 hx
  rw [Al9] at hi
  exact ht y hy i hi
 cases bb with
 | false => simp at h
 | true =>
  simp only [cond_true] at h ⊢
  split at h
  ·rw [← hview]
   split at h
   ·rename_i a' e1
    simp at h; subst h
    exact ⟨rfl, rfl⟩
   ·cases h
  ·rename_i g0 k0 ho
   obtain ⟨x, h1, h2⟩ := Xz (R := R) (l := args) (g := g0) (k := k0) (by rw [ho]; simp)
   rw [← hview, ← ht x h1 g0 h2]
   split at h
   ·simp at h; subst h
    exact ⟨rfl, rfl⟩
   ·cases h
  ·cases h
theorem Ah3 {g : Fn} {first caps : List D} {args : List AV} {x : AV} {i : Nat} {f : Operand} {l : List Operand} (e1 : Bz L cur f = some (.d (.fn g first caps))) (e2 : Ds L cur l = some args)
  (hx : x ∈ first.map AV.d ++ args ++ caps.map AV.d) (hi : i ∈ x.touchV R) : i ∈ touchV R L := by
 have hd : ∀ {ds : List D} {d : D}, d ∈ ds -> i ∈ d.touchV R -> i ∈ D.touchVL R ds := by
  intro ds
  induction ds with
  | nil => intro d h; cases h
  | cons a r ih =>
   intro d h hi
   simp only [D.touchVL]
   rcases ag.1 h with rfl | h
   ·exact bl _ hi
   ·exact bm _ (ih h hi)
 rcases au.1 hx with hx | hx
 ·rcases au.1 hx with hx | hx
  ·obtain ⟨d, hm, rfl⟩ := aq.1 hx
   exact Im e1 (by simp only [AV.touchV, D.touchV]; exact bl _ (hd hm hi))
  ·obtain ⟨z, hz⟩ := D_ e2 hx
   exact Im hz hi
 ·obtain ⟨d, hm, rfl⟩ := aq.1 hx
  exact Im e1 (by simp only [AV.touchV, D.touchV]; exact bm _ (hd hm hi))
theorem Xx {c : Cl} {o : Oper} {out : Out} (hq : Fh c o = true) (ht0 : ∀ i, i ∈ deepen R (J4 o.op L) ++ Ay3 c R L -> R[i]? = R'[i]?) (h : Ik P L cur R c o = some out) :
    out.R = R /\ Ik P L cur R' c o = some { out with R := R' } := by
  have ht : ∀ i, i ∈ deepen R (J4 o.op L) -> R[i]? = R'[i]? := λ i hi => ht0 i (bl _ hi)
  unfold Ik at h ⊢
  rw [← Aia ht]
  split at h
  · rename_i v k hv
    simp at h; subst h
    exact ⟨rfl, rfl⟩
  · rename_i hv
    obtain ⟨dst, op, type, pos, after, guard⟩ := o
    simp only at h ⊢
    cases op with
    | box t x => simp [Fh] at hq
    | alloc t => simp [Fh] at hq
    | store t x y => simp [Fh] at hq
    | makeSlice t x y => simp [Fh] at hq
    | convert s d x =>
      simp only at h ⊢
      unfold P0 at h ⊢
      split at h
      · split at h
        · simp at h; subst h; exact ⟨rfl, rfl⟩
        · cases h
      · cases h
    | buildSlice t len parts =>
      simp only [Fh, bg] at hq
      simp only at h ⊢
      split at h
      · rename_i ps e1
        unfold F_ at h ⊢
        rw [hq] at h ⊢
        split at h
        · rename_i e hu
          split at h
          · rename_i size zs e2 e3
            cases hb : (Nat.beq zs.length (size + 1) && Nat.ble (len * (size + 1)) 16777216) with
            | false => rw [hb] at h; simp at h
            | true =>
              rw [hb] at h
              simp only [cond_true, cond_false] at h ⊢
              split at h
              · rename_i pd hpd
                simp at h; subst h
                exact ⟨rfl, rfl⟩
              · cases h
          · cases h
        · cases h
      · cases h
    | call kk =>
      obtain ⟨callee, cargs, argTypes⟩ := kk
      cases callee with
      | invoke r m => simp at h
      | builtin b => cases b <;> first | (simp [Fh] at hq; done) | (simp at h; done)
      | value f =>
        simp only [Fh, aF, ac] at hq
        simp only at h ⊢
        split at h
        · rename_i g first caps args e1 e2
          cases c with
          | callB g' q res rows k rw =>
            exact Aey (λ x hx i hi => ht0 i (bm _ (Ah3 e1 e2 hx hi))) h
          | _ => first
            | (rcases hq with hq | hq
               · simp [Aq3] at hq
               · exact Aif hq.1 hq.2 h)
        · cases h
    | _ => simp at h
theorem Qy : ∀ {l : List Nat} {t : Nat}, O3 l t = true ↔ t ∈ l
 | [], t => by simp [O3]
 | a :: r, t => by
  simp only [O3, aF, ag, Qy]
  constructor
  ·rintro (h | h)
   ·exact .inl (aj h).symm
   ·exact .inr h
  ·rintro (h | h)
   ·subst h; exact .inl (by simp)
   ·exact .inr h
theorem Aez {c : Cl} {ts : List TypeId} {j : Nat} {y : AV} {out : Out} {i : Nat} (h : Db P R c ts [.d (.os j), y] = some out) (hi : i < R.length) (hj : i ≠ j) : out.R[i]? = R[i]? := by
 match ts, h with
 | [t, u], h =>
  simp only [Db] at h
  cases hts2 : Nat.beq t u with
  | false => rw [hts2] at h; simp at h
  | true =>
   rw [hts2] at h
   simp only [cond_true] at h
   split at h
   ·split at h
    ·split at h
     ·generalize (Nat.beq _ (_ + 1)) = bb at h
      cases bb with
      | false => simp at h
      | true =>
       simp only [cond_true] at h
       split at h
       ·generalize (Nat.beq _ _ && Nat.beq _ _) = bb at h
        cases bb with
        | false => simp at h
        | true =>
         simp at h; subst h
         simp only
         rw [am (by simpa using hi), aK (aM hj)]
       ·cases h
     ·cases h
    ·cases h
   ·cases h
 | [], h => simp [Db] at h
 | [_], h => simp [Db] at h
 | _ :: _ :: _ :: _, h => simp [Db] at h
theorem Aad {c : Cl} {ts : List TypeId} {i' g k size off : Nat} {y : AV} {out : Out} {i : Nat} (h : Jc P R c ts i' g k size off y = some out) (hi : i < R.length) (h1 : i ≠ i') (h2 : i ≠ g) : out.R[i]? = R[i]? := by
 unfold Jc at h
 split at h
 ·split at h
  ·generalize ((_ && _ : Bool)) = bb at h
   cases bb with
   | false => simp at h
   | true =>
    simp only [cond_true] at h
    split at h
    ·rename_i v' R' a b z m r' hap
     simp at h; subst h
     have := Aez (i := i) hap (by simp; omega) (by omega)
     simp only at this ⊢
     rw [this, am (by simpa using hi), aK (aM h1), aK (aM h2)]
    ·cases h
  ·cases h
 ·cases h
theorem Aac {c : Cl} {ts : List TypeId} {i' n s : Nat} {y : AV} {out : Out} {i : Nat} (h : Jb P R c ts i' n s y = some out) (h1 : i ≠ i') : out.R[i]? = R[i]? := by
 unfold Jb at h
 split at h
 ·generalize (Nat.beq _ _) = bb at h
  cases bb with
  | false => simp at h
  | true =>
   simp only [cond_true] at h
   split at h
   ·split at h
    ·split at h
     ·generalize (Nat.beq _ _ && Nat.beq _ _) = bb at h
      cases bb with
      | false => simp at h
      | true =>
       simp at h; subst h
       simp only
       rw [aK (aM h1)]
     ·cases h
    ·cases h
   ·cases h
 ·cases h
theorem X2 {x : AV} {i lo n s : Nat} {a : Operand} (h : Wu R x = some (i, lo, n, s)) (hl : Bz L cur a = some x) : i ∈ Cg L := by
 unfold Wu at h
 split at h
 ·split at h
  ·simp at h; obtain ⟨rfl, _⟩ := h; exact Ec hl
  ·cases h
 ·simp at h; obtain ⟨rfl, _⟩ := h; exact M7 hl
 ·cases h
theorem Aie {c : Cl} {ts : List TypeId} {l : List Operand} {args : List AV} {out : Out} {i : Nat} (h : P1 P R c ts args = some out) (hl : Ds L cur l = some args) (h1 : i ∉ Cg L) : out.R[i]? = R[i]? := by
 unfold P1 at h
 split at h
 ·rename_i x
  split at h
  ·split at h
   ·rename_i hd
    split at h
    ·generalize ((_ && _ : Bool)) = bb at h
     cases bb with
     | false => simp at h
     | true =>
      simp only [cond_true, ak] at h; subst h
      obtain ⟨z, hz⟩ := D_ hl (av := x) (by simp)
      have := X2 hd hz
      simp only
      rw [aK]
      rintro rfl
      exact h1 this
    ·cases h
   ·cases h
  ·cases h
 ·cases h
theorem Amg {c : Cl} {ts : List TypeId} {l : List Operand} {args : List AV} {out : Out} {i : Nat} (h : Ud P R c ts args = some out) (hl : Ds L cur l = some args) (h1 : i ∉ Cg L) : out.R[i]? = R[i]? := by
 unfold Ud at h
 split at h
 ·rename_i x y
  split at h
  ·split at h
   ·rename_i hd
    split at h
    ·generalize ((_ && _ : Bool)) = bb at h
     cases bb with
     | false => simp at h
     | true =>
      simp only [cond_true, ak] at h; subst h
      obtain ⟨z, hz⟩ := D_ hl (av := x) (by simp)
      have := X2 hd hz
      simp only
      rw [aK]
      rintro rfl
      exact h1 this
    ·cases h
   ·cases h
  ·cases h
 ·cases h
theorem Amf {c : Cl} {o : Oper} {i' k size off n : Nat} {ds : List D} {out : Out} {i : Nat} (h : Ub R c o i' k size off ds n = some out) (hi : i < R.length) (h1 : i ≠ i') (h2 : ∀ e s g, R[i']? = some (.dsl e s g) -> i ≠ g) (h3 : ∀ m, ds = [.os m] -> i ≠ m) : out.R[i]? = R[i]? := by
 unfold Ub at h
 split at h
 next e s g m q1 q2 q3 row q4 rows' hj =>
  split at h
  ·split at h
   ·generalize ((_ && _ : Bool)) = bb at h
    cases bb with
    | false => simp at h
    | true =>
     simp only [cond_true, ak] at h; subst h
     have hgi := h2 _ _ _ hj
     have hmi := h3 _ rfl
     simp only
     rw [am (by simpa using hi), aK (aM h1), aK (aM hgi), aK (aM hmi)]
   ·cases h
  ·cases h
 next => cases h
theorem Avr {c : Cl} {o : Oper} {out : Out} {i : Nat} {cs : List (Bool × Bool)} (h : Ik P L cur R c o = some out) (hi : i < R.length) (hw : i ∉ C9 ⟨0, o, L, cur, cs, c, R, out, true, false, none⟩) : out.R[i]? = R[i]? := by
  unfold Ik at h
  split at h
  · simp at h; subst h; rfl
  · obtain ⟨dst, op, type, pos, after, guard⟩ := o
    simp only at h
    cases op with
    | box t x =>
      simp only at h
      split at h
      · generalize (Nat.beq _ _) = bb at h
        cases bb with
        | false => simp at h
        | true => simp at h; subst h; simp [am hi]
      · cases h
    | alloc t =>
      simp only at h
      split at h
      · simp at h; subst h; simp [am hi]
      · cases h
    | store t x y =>
      simp only at h
      cases hc : cur.isEmpty with
      | false => rw [hc] at h; simp at h
      | true =>
        rw [hc] at h
        simp only [cond_true] at h
        split at h
        · rename_i j off ds n e1 e2 e3
          split at h
          · generalize (Nat.beq _ _ && Nat.ble _ _ && Option.isNone _) = bb at h
            cases bb with
            | false => simp at h
            | true =>
              simp at h; subst h
              simp only [C9, e1, bn] at hw
              simp only
              rw [aK (aM hw)]
          · cases h
        · rename_i j k size off ds n e1 e2 e3
          simp only [C9, e1, ag, not_or] at hw
          obtain ⟨hw1, hw2⟩ := hw
          split at h
          · rename_i out' hput
            simp at h; subst h
            unfold Ara at hput
            split at hput
            · generalize (Nat.beq _ _ && (Nat.beq _ _ && (Nat.ble _ _ && Option.isNone _))) = bb at hput
              cases bb with
              | false => simp at hput
              | true =>
                simp at hput; subst hput
                simp only
                rw [aK (aM hw1)]
            · cases hput
          · refine Amf h hi hw1 (λ e s g hj => ?_) (λ m hds => ?_)
            · rintro rfl
              exact hw2 (bl _ (Aio (M6 e1) hj))
            · rintro rfl
              subst hds
              refine hw2 (bm _ ?_)
              obtain ⟨av, h1, h2⟩ := Ax e2
              cases av with
              | d x => simp [G5] at h2; subst h2; exact Im h1 (by simp [AV.touchV, D.touchV])
              | agg l => simp [G5] at h2; subst h2; exact Im h1 (by simp [AV.touchV, D.touchV, D.touchVL])
              | tup l => simp [G5] at h2
        · cases h
    | buildSlice t len parts =>
      simp only at h
      split at h
      · unfold F_ at h
        split at h
        · split at h
          · generalize (Nat.beq _ _ && Nat.ble _ _) = bb at h
            cases bb with
            | false => simp at h
            | true =>
              simp only [cond_true] at h
              split at h
              · cases ho : Wr c with
                | true => rw [ho] at h; simp at h; subst h; simp [am hi]
                | false => rw [ho] at h; simp at h; subst h; rfl
              · cases h
          · cases h
        · cases h
      · cases h
    | convert s d x =>
      simp only at h
      unfold P0 at h
      split at h
      · split at h
        · simp at h; subst h; rfl
        · cases h
      · cases h
    | makeSlice t x y =>
      simp only at h
      generalize (J6 x y) = bb at h
      cases bb with
      | false => simp at h
      | true =>
        simp only [cond_true] at h
        unfold Lb at h
        split at h
        · split at h
          · split at h
            · generalize (Nat.beq _ _) = bb at h
              cases bb with
              | false => simp at h
              | true => simp at h; subst h; simp [am hi]
            · cases h
          · cases h
        · split at h
          · split at h
            · generalize (Nat.beq _ _ && _) = bb at h
              cases bb with
              | false => simp at h
              | true => simp at h; subst h; simp [am hi]
            · cases h
          · cases h
        · cases h
    | call kk =>
      obtain ⟨callee, cargs, argTypes⟩ := kk
      cases callee with
      | invoke r m => simp at h
      | builtin b =>
        cases b <;> first
          | (simp at h; done)
          | (simp only at h
             split at h
             · rename_i args e1
               first
                 | exact Aie h e1 (by simpa [C9] using hw)
                 | exact Amg h e1 (by simpa [C9] using hw)
             · cases h
             done)
          | (simp only at h
             split at h
             · rename_i i' g q size off y e1
               have hall := e1
               obtain ⟨z, hz⟩ := D_ e1 (av := .d (.oi i' g q size off)) (by simp)
               obtain ⟨hi1, hg1⟩ := Aev hz
               have hii : i ≠ i' := by rintro rfl; exact hw (by simpa [C9] using hi1)
               have hig : i ≠ g := by rintro rfl; exact hw (by simpa [C9] using hg1)
               exact Aad h hi hii hig
             · rename_i i' n s y e1
               obtain ⟨z, hz⟩ := D_ e1 (av := .d (.osb i' 0 n s)) (by simp)
               have hi1 := M7 hz
               have hii : i ≠ i' := by rintro rfl; exact hw (by simpa [C9] using hi1)
               exact Aac h hii
             · rename_i args _ _ e1
               unfold Db at h
               split at h
               · rename_i t u x y hts
                 generalize (Nat.beq _ _) = bb at h
                 cases bb with
                 | false => simp at h
                 | true =>
                   simp only [cond_true] at h
                   split at h
                   · split at h
                     · split at h
                       · generalize (Nat.beq _ _) = bb at h
                         cases bb with
                         | false => simp at h
                         | true =>
                           simp only [cond_true] at h
                           split at h
                           · simp at h; subst h; simp [am hi]
                           · rename_i j
                             split at h
                             · generalize (Nat.beq _ _ && Nat.beq _ _) = bb at h
                               cases bb with
                               | false => simp at h
                               | true =>
                                 simp at h; subst h
                                 obtain ⟨z, hz⟩ := D_ e1 (av := .d (.os _)) ai
                                 have hj := Ec hz
                                 simp only
                                 rw [am (by simpa using hi), aK]
                                 rintro rfl
                                 refine hw ?_
                                 simpa [C9] using hj
                             · cases h
                           · cases h
                       · cases h
                     · cases h
                   · cases h
               · cases h
             · cases h)
      | value f =>
        simp only at h
        split at h
        · rename_i g first caps args e1 e2
          cases c with
          | call f' q1 q2 res R2 pi =>
            simp only [Fp] at h
            generalize (Nat.beq g f' && Eh pi && Nat.ble pi.length R2.length) = bb at h
            cases bb with
            | false => simp at h
            | true =>
              simp only [cond_true] at h
              split at h
              · split at h
                · rename_i Rp2 res2 RR e3 e4 e5
                  simp at h; subst h
                  simp only [C9] at hw
                  simp only
                  rw [am (by rw [El]; exact hi)]
                  cases hg : R[i]? with
                  | none => rw [List.getElem?_eq_none_iff] at hg; omega
                  | some r =>
                    have hlt : i < (Ea R pi RR).length := by rw [El]; exact hi
                    rcases Qq pi R _ i _ (ae hlt) with ⟨j, h1, _⟩ | ⟨h1, _⟩
                    · exact absurd (af h1) hw
                    · rw [ae hlt, ← h1, hg]
                · cases h
              · cases h
          | callB f' q1 res rows0 k0 rw0 =>
            simp only [Fp] at h
            generalize (Nat.beq g f' && res.flat) = bb at h
            cases bb with
            | false => simp at h
            | true =>
              simp only [cond_true] at h
              split at h
              · split at h
                · simp at h; subst h; rfl
                · cases h
              · split at h
                · simp at h; subst h; rfl
                · cases h
              · cases h
          | _ => simp [Fp] at h
        · cases h
    | _ => simp at h
end
end Go.SL
