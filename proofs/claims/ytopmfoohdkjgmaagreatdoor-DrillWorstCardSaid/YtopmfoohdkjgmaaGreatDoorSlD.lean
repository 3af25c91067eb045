/-
  The logic, fourth part: the evaluator is right for the operations that write nothing.
-/
import Derived.Test.YtopmfoohdkjgmaaGreatDoorSlC
namespace Go.SL

def pt (a : Act) (p : Path) : Prop := ∀ g, g ∈ p → a.tmps[g.1]? = some (.bool g.2)
def EntOk (S : Nat → Prop) (w : World) (ρ : List Value) (a : Act) (e : Ent) : Prop :=
  (pt a e.p → ∃ v, a.tmps[e.t]? = some v ∧ RdA S w ρ v e.v) ∧ (¬ pt a e.p → a.tmps[e.t]? = some undef)
def SlotsOk (S : Nat → Prop) (w : World) (ρ : List Value) (a : Act) (L : List Ent) : Prop := ∀ e, e ∈ L → EntOk S w ρ a e

/-- THE STATE: what the temporaries and our own things are -/
def Sat (n : Nat) (C : Ctx) (L : List Ent) (R : List Res) (a : Act) (w : World) : Prop :=
  a.defers = C.df ∧ a.tmps.size = n ∧ ∃ S ρ, Inv C S w ρ R ∧ SlotsOk S w ρ a L

theorem getE_mem : ∀ {L : List Ent} {t : Nat} {e : Ent}, getE L t = some e → e ∈ L ∧ e.t = t
  | [], _, _, h => by simp [getE] at h
  | x :: r, t, e, h => by
    simp only [getE] at h
    cases hb : Nat.beq x.t t with
    | true => rw [hb] at h; simp at h; subst h; exact ⟨List.mem_cons_self, Nat.eq_of_beq_eq_true hb⟩
    | false => rw [hb] at h; simp at h; obtain ⟨h1, h2⟩ := getE_mem h; grind

theorem prefixB_pt {a : Act} : ∀ {p q : Path}, prefixB p q = true → pt a q → pt a p
  | [], _, _, _ => fun g hg => by cases hg
  | (t, x) :: p, (u, y) :: q, h, hq => by
    simp only [prefixB, Bool.and_eq_true, beq_iff_eq] at h
    obtain ⟨⟨h1, h2⟩, h3⟩ := h
    have ht := Nat.eq_of_beq_eq_true h1
    subst ht; subst h2
    intro g hg
    rcases List.mem_cons.1 hg with rfl | hg
    · exact hq _ List.mem_cons_self
    · exact prefixB_pt h3 (fun g hg => hq g (List.mem_cons_of_mem _ hg)) g hg
  | _ :: _, [], h, _ => by simp [prefixB] at h

section
variable {P : Program} {C : Ctx} {S : Nat → Prop} {w : World} {ρ : List Value} {R : List Res} {L : List Ent} {cur : Path} {a : Act}

theorem dOf_ok {v : Value} {d : D} (h : dOf v = some d) : Rd S w ρ v d := by
  unfold dOf at h
  cases hb : v.oneCell' with
  | true => rw [hb] at h; simp at h; subst h; exact .p (.v v hb)
  | false => rw [hb] at h; simp at h

theorem dsOf_ok : ∀ {l : List Value} {ds : List D}, dsOf l = some ds → All2 (Rd S w ρ) l ds
  | [], ds, h => by simp [dsOf] at h; subst h; trivial
  | v :: r, ds, h => by
    simp only [dsOf] at h
    split at h
    · rename_i d ds' h1 h2
      simp at h; subst h
      exact ⟨dOf_ok h1, dsOf_ok h2⟩
    · cases h

theorem avOf_ok {v : Value} {av : AV} (h : avOf v = some av) : RdA S w ρ v av := by
  unfold avOf at h
  split at h
  · rename_i cs
    cases hd : dsOf cs.toList with
    | none => rw [hd] at h; cases h
    | some ds =>
      rw [hd] at h; simp at h; subst h
      have := RdA.agg (S := S) (w := w) (ρ := ρ) (dsOf_ok (S := S) (w := w) (ρ := ρ) hd)
      simpa using this
  · cases h
  · cases hd : dOf v with
    | none => rw [hd] at h; cases h
    | some d => rw [hd] at h; simp at h; subst h; exact .d (dOf_ok hd)

theorem look_ok (hL : SlotsOk S w ρ a L) (hp : pt a cur) {x : Operand} {av : AV} (h : look L cur x = some av) : RdA S w ρ (a.eval x) av := by
  unfold look at h
  split at h
  · exact avOf_ok h
  · rename_i t
    split at h
    · rename_i e he
      obtain ⟨hm, ht⟩ := getE_mem he
      cases hb : prefixB e.p cur with
      | false => rw [hb] at h; simp at h
      | true =>
        rw [hb] at h; simp at h; subst h
        obtain ⟨v, hv, hr⟩ := (hL e hm).1 (prefixB_pt hb hp)
        rw [ht] at hv
        have : a.eval (.tmp t) = v := by simp [Act.eval, Array.getD_eq_getD_getElem?, hv]
        rw [this]; exact hr
    · cases h
  · simp at h; subst h
    exact .d (.fn (xs := []) (cs := []) rfl rfl (by simp) (by simp))
  · cases h

theorem lookAll_ok (hL : SlotsOk S w ρ a L) (hp : pt a cur) : ∀ {l : List Operand} {avs : List AV}, lookAll L cur l = some avs → All2 (RdA S w ρ) (l.map a.eval) avs
  | [], avs, h => by simp [lookAll] at h; subst h; trivial
  | x :: r, avs, h => by
    simp only [lookAll] at h
    split at h
    · rename_i v l h1 h2
      simp at h; subst h
      exact ⟨look_ok hL hp h1, lookAll_ok hL hp h2⟩
    · cases h

theorem look_exact (hL : SlotsOk S w ρ a L) (hp : pt a cur) {x : Operand} {v : Value} (h : (look L cur x).bind exactV = some v) : a.eval x = v := by
  cases hx : look L cur x with
  | none => rw [hx] at h; cases h
  | some av =>
    rw [hx] at h
    simp only [Option.bind_some] at h
    unfold exactV at h
    split at h
    · simp at h; subst h; exact (look_ok hL hp hx).exact_inv
    · cases h

theorem look_bool (hL : SlotsOk S w ρ a L) (hp : pt a cur) {x : Operand} {b : Bool} (h : (look L cur x).bind boolV = some b) : a.eval x = .bool b := by
  cases hx : look L cur x with
  | none => rw [hx] at h; cases h
  | some av =>
    rw [hx] at h
    simp only [Option.bind_some] at h
    unfold boolV at h
    split at h
    · simp at h; subst h; exact (look_ok hL hp hx).exact_inv
    · cases h

theorem avCells_ok {v : Value} {av : AV} {ds : List D} (hr : RdA S w ρ v av) (h : avCells av = some ds) : All2 (Rd S w ρ) v.cells.toList ds := by
  cases av with
  | d x =>
    simp [avCells] at h; subst h
    have hx := hr.d_inv
    have h1 := hx.one
    have : v.cells = #[v] := by cases v <;> first | rfl | simp [Value.oneCell'] at h1
    rw [this]
    exact ⟨hx, trivial⟩
  | agg ds' =>
    simp [avCells] at h; subst h
    obtain ⟨vs, rfl, h2⟩ := hr.agg_inv
    simpa [Value.cells] using h2
  | tup l => simp [avCells] at h

theorem ofV_ok {v : Value} (h : v.oneCell' = true) : RdA S w ρ v (ofV v) := .d (.p (.v v h))

/-! ### reading memory -/
theorem run_isAgg {t : TypeId} {d : TypeDesc} (h : P.underlying t = some d) : (isAgg t).run P w = .ok (isAggD d) w := by
  cases d <;> simp [isAgg, run_underlying h, isAggD]
theorem run_sizeOf' {t : TypeId} {n : Nat} (h : tySize P t = some n) : (sizeOf t).run P w = .ok n w := by
  unfold tySize at h
  cases hi : P.info? t with
  | none => rw [hi] at h; cases h
  | some i =>
    rw [hi] at h; simp at h
    simp [sizeOf, typeInfo, hi, h]
theorem run_zeroValue' {t : TypeId} {z : Value} (h : tyZero P t = some z) : (zeroValue t).run P w = .ok z w := by
  unfold tyZero at h
  cases hi : P.info? t with
  | none => rw [hi] at h; cases h
  | some i =>
    rw [hi] at h; simp at h
    simp [zeroValue, typeInfo, hi, h]

/-- cells at an address read so, whoever owns them -/
theorem run_loadVar' {t : TypeId} {ad : Addr} {ds : List D} {av : AV} (h : memAV P t ds = some av)
    (hc : ∀ (j : Nat) d, ds[j]? = some d → ∃ x, w.cell? (ad.add j) = some x ∧ Rd S w ρ x d) :
    ∃ v, (loadVar t ad).run P w = .ok v w ∧ RdA S w ρ v av := by
  unfold memAV at h
  cases hu : P.underlying t with
  | none => simp [tyAgg, hu] at h
  | some td =>
    have ha : tyAgg P t = some (isAggD td) := by simp [tyAgg, hu]
    rw [ha] at h
    cases hb : isAggD td with
    | true =>
      rw [hb] at h
      split at h
      · rename_i n hn hsz
        cases hl : Nat.beq ds.length n with
        | false => rw [hl] at h; simp at h
        | true =>
          rw [hl] at h; simp at h; subst h
          have hlen : ds.length = n := Nat.eq_of_beq_eq_true hl
          have hxs : ∃ xs : List Value, xs.length = ds.length ∧ ∀ (j : Nat) x, xs[j]? = some x → w.cell? (ad.add j) = some x ∧ ∀ d, ds[j]? = some d → Rd S w ρ x d := by
            refine ⟨(List.range ds.length).map fun j => (w.cell? (ad.add j)).getD undef, by simp, fun j x hx => ?_⟩
            rw [List.getElem?_map] at hx
            cases hj : (List.range ds.length)[j]? with
            | none => rw [hj] at hx; cases hx
            | some k =>
              rw [hj] at hx
              have hk : j < ds.length ∧ k = j := by
                obtain ⟨h1, h2⟩ := List.getElem?_eq_some_iff.1 hj
                simp at h1 h2; exact ⟨h1, h2.symm⟩
              obtain ⟨hk1, rfl⟩ := hk
              obtain ⟨y, hy, hR⟩ := hc k ds[k] (List.getElem?_eq_getElem hk1)
              grind
          obtain ⟨xs, hxl, hx⟩ := hxs
          have hlc := run_loadCells_list (P := P) w ad xs (fun j v hv => (hx j v hv).1)
          refine ⟨.agg xs.toArray, ?_, .agg (All2.of_get hxl fun j x d h1 h2 => (hx j x h1).2 d h2)⟩
          simp [loadVar, run_isAgg hu, hb, run_sizeOf' hsz, ← hlen, ← hxl, hlc]
      all_goals simp_all
    | false =>
      rw [hb] at h
      split at h
      · simp_all
      · split at h
        · rename_i d
          simp at h; subst h
          obtain ⟨x, hx, hR⟩ := hc 0 d rfl
          rw [add_zero'] at hx
          refine ⟨x, ?_, .d hR⟩
          simp [loadVar, run_isAgg hu, hb, hx]
        · cases h
      · cases h
end
end Go.SL
