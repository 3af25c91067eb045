import Derived.Test.YthgnbpdjncbkfaaGreatSlC
namespace Go.SL
def pt (a : Act) (p : Cp) : Prop := ∀ g, g ∈ p -> a.tmps[g.1]? = some (.bool g.2)
def Xq (S : Nat -> Prop) (w : World) (ρ : List Value) (a : Act) (e : Ent) : Prop :=
 (pt a e.p -> ∃ v, a.tmps[e.t]? = some v /\ RdA S w ρ v e.v) /\ (¬ pt a e.p -> a.tmps[e.t]? = some undef)
def Ce (S : Nat -> Prop) (w : World) (ρ : List Value) (a : Act) (L : List Ent) : Prop := ∀ e, e ∈ L -> Xq S w ρ a e
def Sat (n : Nat) (C : Ctx) (L : List Ent) (R : List Res) (a : Act) (w : World) : Prop :=
 a.defers = C.df /\ a.tmps.size = n /\ ∃ S ρ, Inv C S w ρ R /\ Ce S w ρ a L
theorem Cu : ∀ {L : List Ent} {t : Nat} {e : Ent}, Ef L t = some e -> e ∈ L /\ e.t = t
 | [], _, _, h => by simp [Ef] at h
 | x :: r, t, e, h => by
  simp only [Ef] at h
  cases hb : Nat.beq x.t t with
  | true => rw [hb] at h; simp at h; subst h; exact ⟨ai, aj hb⟩
  | false => rw [hb] at h; simp at h; obtain ⟨h1, h2⟩ := Cu h; exact ⟨ah _ h1, h2⟩
theorem Qx {a : Act} : ∀ {p q : Cp}, E4 p q = true -> pt a q -> pt a p
 | [], _, _, _ => λ g hg => by cases hg
 | (t, x) :: p, (u, y) :: q, h, hq => by
  simp only [E4, ac, beq_iff_eq] at h
  obtain ⟨⟨h1, h2⟩, h3⟩ := h
  have ht := aj h1
  subst ht; subst h2
  intro g hg
  rcases ag.1 hg with rfl | hg
  ·exact hq _ ai
  ·exact Qx h3 (λ g hg => hq g (ah _ hg)) g hg
 | _ :: _, [], h, _ => by simp [E4] at h
section
variable {P : Program} {C : Ctx} {S : Nat -> Prop} {w : World} {ρ : List Value} {R : List Res} {L : List Ent} {cur : Cp} {a : Act}
theorem Av4 {v : Value} {d : D} (h : dOf v = some d) : Rd S w ρ v d := by
 unfold dOf at h
 cases hb : v.oneCell' with
 | true => rw [hb] at h; simp at h; subst h; exact .p (.v v hb)
 | false => rw [hb] at h; simp at h
theorem H_ : ∀ {l : List Value} {ds : List D}, Ep l = some ds -> Bf (Rd S w ρ) l ds
 | [], ds, h => by simp [Ep] at h; subst h; trivial
 | v :: r, ds, h => by
  simp only [Ep] at h
  split at h
  ·rename_i d ds' h1 h2
   simp at h; subst h
   exact ⟨Av4 h1, H_ h2⟩
  ·cases h
theorem A3l {v : Value} {av : AV} (h : Nj v = some av) : RdA S w ρ v av := by
 unfold Nj at h
 split at h
 ·rename_i cs
  cases hd : Ep cs.toList with
  | none => rw [hd] at h; cases h
  | some ds =>
   rw [hd] at h; simp at h; subst h
   have := RdA.agg (S := S) (w := w) (ρ := ρ) (H_ (S := S) (w := w) (ρ := ρ) hd)
   simpa using this
 ·cases h
 ·cases hd : dOf v with
  | none => rw [hd] at h; cases h
  | some d => rw [hd] at h; simp at h; subst h; exact .d (Av4 hd)
theorem Bx (hL : Ce S w ρ a L) (hp : pt a cur) {x : Operand} {av : AV} (h : Bz L cur x = some av) : RdA S w ρ (a.eval x) av := by
 unfold Bz at h
 split at h
 ·exact A3l h
 ·rename_i t
  split at h
  ·rename_i e he
   obtain ⟨hm, ht⟩ := Cu he
   cases hb : E4 e.p cur with
   | false => rw [hb] at h; simp at h
   | true =>
    rw [hb] at h; simp at h; subst h
    obtain ⟨v, hv, hr⟩ := (hL e hm).1 (Qx hb hp)
    rw [ht] at hv
    have : a.eval (.tmp t) = v := by simp [Act.eval, aQ, hv]
    rw [this]; exact hr
  ·cases h
 ·simp at h; subst h
  exact .d (.fn (xs := []) (cs := []) rfl rfl (by simp) (by simp))
 ·cases h
theorem D9 (hL : Ce S w ρ a L) (hp : pt a cur) : ∀ {l : List Operand} {avs : List AV}, Ds L cur l = some avs -> Bf (RdA S w ρ) (l.map a.eval) avs
 | [], avs, h => by simp [Ds] at h; subst h; trivial
 | x :: r, avs, h => by
  simp only [Ds] at h
  split at h
  ·rename_i v l h1 h2
   simp at h; subst h
   exact ⟨Bx hL hp h1, D9 hL hp h2⟩
  ·cases h
theorem Bq (hL : Ce S w ρ a L) (hp : pt a cur) {x : Operand} {v : Value} (h : (Bz L cur x).bind Cs = some v) : a.eval x = v := by
 cases hx : Bz L cur x with
 | none => rw [hx] at h; cases h
 | some av =>
  rw [hx] at h
  simp only [aa] at h
  unfold Cs at h
  split at h
  ·simp at h; subst h; exact (Bx hL hp hx).exact_inv
  ·cases h
theorem Tw (hL : Ce S w ρ a L) (hp : pt a cur) {x : Operand} {b : Bool} (h : (Bz L cur x).bind J1 = some b) : a.eval x = .bool b := by
 cases hx : Bz L cur x with
 | none => rw [hx] at h; cases h
 | some av =>
  rw [hx] at h
  simp only [aa] at h
  unfold J1 at h
  split at h
  ·simp at h; subst h; exact (Bx hL hp hx).exact_inv
  ·cases h
theorem Mb {v : Value} {av : AV} {ds : List D} (hr : RdA S w ρ v av) (h : G5 av = some ds) : Bf (Rd S w ρ) v.cells.toList ds := by
 cases av with
 | d x =>
  simp [G5] at h; subst h
  have hx := hr.d_inv
  have h1 := hx.one
  have : v.cells = #[v] := by cases v <;> first | rfl | simp [Value.oneCell'] at h1
  rw [this]
  exact ⟨hx, trivial⟩
 | agg ds' =>
  simp [G5] at h; subst h
  obtain ⟨vs, rfl, h2⟩ := hr.agg_inv
  simpa [Value.cells] using h2
 | tup l => simp [G5] at h
theorem D4 {v : Value} (h : v.oneCell' = true) : RdA S w ρ v (ofV v) := .d (.p (.v v h))
theorem N7 {t : TypeId} {d : TypeDesc} (h : P.underlying t = some d) : (isAgg t).run P w = .ok (M8 d) w := by
 cases d <;> simp [isAgg, run_underlying h, M8]
theorem B8 {t : TypeId} {n : Nat} (h : Bt P t = some n) : (sizeOf t).run P w = .ok n w := by
 unfold Bt at h
 cases hi : P.info? t with
 | none => rw [hi] at h; cases h
 | some i =>
  rw [hi] at h; simp at h
  simp [sizeOf, typeInfo, hi, h]
theorem E3 {t : TypeId} {z : Value} (h : Dy P t = some z) : (zeroValue t).run P w = .ok z w := by
 unfold Dy at h
 cases hi : P.info? t with
 | none => rw [hi] at h; cases h
 | some i =>
  rw [hi] at h; simp at h
  simp [zeroValue, typeInfo, hi, h]
theorem Fz {t : TypeId} {ad : Addr} {ds : List D} {av : AV} (h : Ha P t ds = some av)
  (hc : ∀ (j : Nat) d, ds[j]? = some d -> ∃ x, w.cell? (ad.add j) = some x /\ Rd S w ρ x d) :
  ∃ v, (loadVar t ad).run P w = .ok v w /\ RdA S w ρ v av := by
 unfold Ha at h
 cases hu : P.underlying t with
 | none => simp [Qh, hu] at h
 | some td =>
  have ha : Qh P t = some (M8 td) := by simp [Qh, hu]
  rw [ha] at h
  cases hb : M8 td with
  | true =>
   rw [hb] at h
   split at h
   ·rename_i n hn hsz
    cases hl : Nat.beq ds.length n with
    | false => rw [hl] at h; simp at h
    | true =>
     rw [hl] at h; simp at h; subst h
     have hlen : ds.length = n := aj hl
     have hxs : ∃ xs : List Value, xs.length = ds.length /\ ∀ (j : Nat) x, xs[j]? = some x -> w.cell? (ad.add j) = some x /\ ∀ d, ds[j]? = some d -> Rd S w ρ x d := by
      refine ⟨(List.range ds.length).map λ j => (w.cell? (ad.add j)).getD undef, by simp, λ j x hx => ?_⟩
      rw [aB] at hx
      cases hj : (List.range ds.length)[j]? with
      | none => rw [hj] at hx; cases hx
      | some k =>
       rw [hj] at hx
       have hk : j < ds.length /\ k = j := by
        obtain ⟨h1, h2⟩ := ab.1 hj
        simp at h1 h2; exact ⟨h1, h2.symm⟩
       obtain ⟨hk1, rfl⟩ := hk
       obtain ⟨y, hy, hR⟩ := hc k ds[k] (ae hk1)
       simp [hy] at hx; subst hx
       refine ⟨hy, λ d hd => ?_⟩
       rw [ae hk1] at hd; cases hd; exact hR
     obtain ⟨xs, hxl, hx⟩ := hxs
     have hlc := run_loadCells_list (P := P) w ad xs (λ j v hv => (hx j v hv).1)
     refine ⟨.agg xs.toArray, ?_, .agg (Bf.of_get hxl λ j x d h1 h2 => (hx j x h1).2 d h2)⟩
     simp [loadVar, N7 hu, hb, B8 hsz, ← hlen, ← hxl, hlc]
   all_goals simp_all
  | false =>
   rw [hb] at h
   split at h
   ·simp_all
   ·split at h
    ·rename_i d
     simp at h; subst h
     obtain ⟨x, hx, hR⟩ := hc 0 d rfl
     rw [Oj] at hx
     refine ⟨x, ?_, .d hR⟩
     simp [loadVar, N7 hu, hb, hx]
    ·cases h
   ·cases h
end
end Go.SL
