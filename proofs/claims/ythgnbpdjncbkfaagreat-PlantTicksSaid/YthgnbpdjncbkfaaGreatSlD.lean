import Derived.Test.YthgnbpdjncbkfaaGreatSlC
namespace Go.SL
def pt (a : Act) (p : Ck) : Prop := ∀ g, g ∈ p -> a.tmps[g.1]? = some (.bool g.2)
def Xn (S : Nat -> Prop) (w : World) (ρ : List Value) (a : Act) (e : Ent) : Prop :=
 (pt a e.p -> ∃ v, a.tmps[e.t]? = some v /\ RdA S w ρ v e.v) /\ (¬ pt a e.p -> a.tmps[e.t]? = some undef)
def Cd (S : Nat -> Prop) (w : World) (ρ : List Value) (a : Act) (L : List Ent) : Prop := ∀ e, e ∈ L -> Xn S w ρ a e
def Sat (n : Nat) (C : Ctx) (L : List Ent) (R : List Res) (a : Act) (w : World) : Prop :=
 a.defers = C.df /\ a.tmps.size = n /\ ∃ S ρ, Inv C S w ρ R /\ Cd S w ρ a L
theorem Cs : ∀ {L : List Ent} {t : Nat} {e : Ent}, D9 L t = some e -> e ∈ L /\ e.t = t
 | [], _, _, h => by simp [D9] at h
 | x :: r, t, e, h => by
  simp only [D9] at h
  cases hb : Nat.beq x.t t with
  | true => rw [hb] at h; simp at h; subst h; exact ⟨List.mem_cons_self, Nat.eq_of_beq_eq_true hb⟩
  | false => rw [hb] at h; simp at h; obtain ⟨h1, h2⟩ := Cs h; exact ⟨List.mem_cons_of_mem _ h1, h2⟩
theorem Qp {a : Act} : ∀ {p q : Ck}, Ew p q = true -> pt a q -> pt a p
 | [], _, _, _ => λ g hg => by cases hg
 | (t, x) :: p, (u, y) :: q, h, hq => by
  simp only [Ew, Bool.and_eq_true, beq_iff_eq] at h
  obtain ⟨⟨h1, h2⟩, h3⟩ := h
  have ht := Nat.eq_of_beq_eq_true h1
  subst ht; subst h2
  intro g hg
  rcases List.mem_cons.1 hg with rfl | hg
  ·exact hq _ List.mem_cons_self
  ·exact Qp h3 (λ g hg => hq g (List.mem_cons_of_mem _ hg)) g hg
 | _ :: _, [], h, _ => by simp [Ew] at h
section
variable {P : Program} {C : Ctx} {S : Nat -> Prop} {w : World} {ρ : List Value} {R : List Res} {L : List Ent} {cur : Ck} {a : Act}
theorem Aun {v : Value} {d : D} (h : dOf v = some d) : Rd S w ρ v d := by
 unfold dOf at h
 cases hb : v.oneCell' with
 | true => rw [hb] at h; simp at h; subst h; exact .p (.v v hb)
 | false => rw [hb] at h; simp at h
theorem Hx : ∀ {l : List Value} {ds : List D}, Ef l = some ds -> Bc (Rd S w ρ) l ds
 | [], ds, h => by simp [Ef] at h; subst h; trivial
 | v :: r, ds, h => by
  simp only [Ef] at h
  split at h
  ·rename_i d ds' h1 h2
   simp at h; subst h
   exact ⟨Aun h1, Hx h2⟩
  ·cases h
theorem A1i {v : Value} {av : AV} (h : M0 v = some av) : RdA S w ρ v av := by
 unfold M0 at h
 split at h
 ·rename_i cs
  cases hd : Ef cs.toList with
  | none => rw [hd] at h; cases h
  | some ds =>
   rw [hd] at h; simp at h; subst h
   have := RdA.agg (S := S) (w := w) (ρ := ρ) (Hx (S := S) (w := w) (ρ := ρ) hd)
   simpa using this
 ·cases h
 ·cases hd : dOf v with
  | none => rw [hd] at h; cases h
  | some d => rw [hd] at h; simp at h; subst h; exact .d (Aun hd)
theorem Bx (hL : Cd S w ρ a L) (hp : pt a cur) {x : Operand} {av : AV} (h : B1 L cur x = some av) : RdA S w ρ (a.eval x) av := by
 unfold B1 at h
 split at h
 ·exact A1i h
 ·rename_i t
  split at h
  ·rename_i e he
   obtain ⟨hm, ht⟩ := Cs he
   cases hb : Ew e.p cur with
   | false => rw [hb] at h; simp at h
   | true =>
    rw [hb] at h; simp at h; subst h
    obtain ⟨v, hv, hr⟩ := (hL e hm).1 (Qp hb hp)
    rw [ht] at hv
    have : a.eval (.tmp t) = v := by simp [Act.eval, Array.getD_eq_getD_getElem?, hv]
    rw [this]; exact hr
  ·cases h
 ·simp at h; subst h
  exact .d (.fn (xs := []) (cs := []) rfl rfl (by simp) (by simp))
 ·cases h
theorem D3 (hL : Cd S w ρ a L) (hp : pt a cur) : ∀ {l : List Operand} {avs : List AV}, Dj L cur l = some avs -> Bc (RdA S w ρ) (l.map a.eval) avs
 | [], avs, h => by simp [Dj] at h; subst h; trivial
 | x :: r, avs, h => by
  simp only [Dj] at h
  split at h
  ·rename_i v l h1 h2
   simp at h; subst h
   exact ⟨Bx hL hp h1, D3 hL hp h2⟩
  ·cases h
theorem Br (hL : Cd S w ρ a L) (hp : pt a cur) {x : Operand} {v : Value} (h : (B1 L cur x).bind Cp = some v) : a.eval x = v := by
 cases hx : B1 L cur x with
 | none => rw [hx] at h; cases h
 | some av =>
  rw [hx] at h
  simp only [Option.bind_some] at h
  unfold Cp at h
  split at h
  ·simp at h; subst h; exact (Bx hL hp hx).exact_inv
  ·cases h
theorem Tn (hL : Cd S w ρ a L) (hp : pt a cur) {x : Operand} {b : Bool} (h : (B1 L cur x).bind Jh = some b) : a.eval x = .bool b := by
 cases hx : B1 L cur x with
 | none => rw [hx] at h; cases h
 | some av =>
  rw [hx] at h
  simp only [Option.bind_some] at h
  unfold Jh at h
  split at h
  ·simp at h; subst h; exact (Bx hL hp hx).exact_inv
  ·cases h
theorem Lr {v : Value} {av : AV} {ds : List D} (hr : RdA S w ρ v av) (h : Gv av = some ds) : Bc (Rd S w ρ) v.cells.toList ds := by
 cases av with
 | d x =>
  simp [Gv] at h; subst h
  have hx := hr.d_inv
  have h1 := hx.one
  have : v.cells = #[v] := by cases v <;> first | rfl | simp [Value.oneCell'] at h1
  rw [this]
  exact ⟨hx, trivial⟩
 | agg ds' =>
  simp [Gv] at h; subst h
  obtain ⟨vs, rfl, h2⟩ := hr.agg_inv
  simpa [Value.cells] using h2
 | tup l => simp [Gv] at h
theorem Dw {v : Value} (h : v.oneCell' = true) : RdA S w ρ v (ofV v) := .d (.p (.v v h))
theorem Np {t : TypeId} {d : TypeDesc} (h : P.underlying t = some d) : (isAgg t).run P w = .ok (Mq d) w := by
 cases d <;> simp [isAgg, run_underlying h, Mq]
theorem B7 {t : TypeId} {n : Nat} (h : Bu P t = some n) : (sizeOf t).run P w = .ok n w := by
 unfold Bu at h
 cases hi : P.info? t with
 | none => rw [hi] at h; cases h
 | some i =>
  rw [hi] at h; simp at h
  simp [sizeOf, typeInfo, hi, h]
theorem Ev {t : TypeId} {z : Value} (h : Dp P t = some z) : (zeroValue t).run P w = .ok z w := by
 unfold Dp at h
 cases hi : P.info? t with
 | none => rw [hi] at h; cases h
 | some i =>
  rw [hi] at h; simp at h
  simp [zeroValue, typeInfo, hi, h]
theorem Fx {t : TypeId} {ad : Addr} {ds : List D} {av : AV} (h : G1 P t ds = some av)
  (hc : ∀ (j : Nat) d, ds[j]? = some d -> ∃ x, w.cell? (ad.add j) = some x /\ Rd S w ρ x d) :
  ∃ v, (loadVar t ad).run P w = .ok v w /\ RdA S w ρ v av := by
 unfold G1 at h
 cases hu : P.underlying t with
 | none => simp [Qa, hu] at h
 | some td =>
  have ha : Qa P t = some (Mq td) := by simp [Qa, hu]
  rw [ha] at h
  cases hb : Mq td with
  | true =>
   rw [hb] at h
   split at h
   ·rename_i n hn hsz
    cases hl : Nat.beq ds.length n with
    | false => rw [hl] at h; simp at h
    | true =>
     rw [hl] at h; simp at h; subst h
     have hlen : ds.length = n := Nat.eq_of_beq_eq_true hl
     have hxs : ∃ xs : List Value, xs.length = ds.length /\ ∀ (j : Nat) x, xs[j]? = some x -> w.cell? (ad.add j) = some x /\ ∀ d, ds[j]? = some d -> Rd S w ρ x d := by
      refine ⟨(List.range ds.length).map λ j => (w.cell? (ad.add j)).getD undef, by simp, λ j x hx => ?_⟩
      rw [List.getElem?_map] at hx
      cases hj : (List.range ds.length)[j]? with
      | none => rw [hj] at hx; cases hx
      | some k =>
       rw [hj] at hx
       have hk : j < ds.length /\ k = j := by
        obtain ⟨h1, h2⟩ := List.getElem?_eq_some_iff.1 hj
        simp at h1 h2; exact ⟨h1, h2.symm⟩
       obtain ⟨hk1, rfl⟩ := hk
       obtain ⟨y, hy, hR⟩ := hc k ds[k] (List.getElem?_eq_getElem hk1)
       simp [hy] at hx; subst hx
       refine ⟨hy, λ d hd => ?_⟩
       rw [List.getElem?_eq_getElem hk1] at hd; cases hd; exact hR
     obtain ⟨xs, hxl, hx⟩ := hxs
     have hlc := run_loadCells_list (P := P) w ad xs (λ j v hv => (hx j v hv).1)
     refine ⟨.agg xs.toArray, ?_, .agg (Bc.of_get hxl λ j x d h1 h2 => (hx j x h1).2 d h2)⟩
     simp [loadVar, Np hu, hb, B7 hsz, ← hlen, ← hxl, hlc]
   all_goals simp_all
  | false =>
   rw [hb] at h
   split at h
   ·simp_all
   ·split at h
    ·rename_i d
     simp at h; subst h
     obtain ⟨x, hx, hR⟩ := hc 0 d rfl
     rw [N1] at hx
     refine ⟨x, ?_, .d hR⟩
     simp [loadVar, Np hu, hb, hx]
    ·cases h
   ·cases h
end
end Go.SL
