/-
  The logic, seventh part: the evaluator is right for every operation that writes nothing: all of them.
-/
import Derived.Test.YtopmfoohdkjgmaaGreatDoorSlF
import Derived.Laws.StructEq
import Derived.Laws.BytesString
namespace Go.SL

section
variable {P : Program} {C : Ctx} {S : Nat → Prop} {w : World} {ρ : List Value} {R : List Res} {L : List Ent} {cur : Path} {a : Act}

theorem mapM_d {l : List AV} {ds : List D} (h : (l.mapM fun | .d x => some x | _ => none) = some ds) : l = ds.map AV.d := by
  induction l generalizing ds with
  | nil => simp at h; subst h; rfl
  | cons x l ih =>
    simp only [List.mapM_cons] at h
    cases x with
    | d y =>
      simp only [Option.bind_eq_bind, Option.bind_some] at h
      obtain ⟨es, h1, h2⟩ := bindE h
      grind
    | _ => simp at h

theorem all2_d {vs : List Value} {ds : List D} (h : All2 (RdA S w ρ) vs (ds.map AV.d)) : All2 (Rd S w ρ) vs ds := by
  refine All2.of_get (by simpa using h.length) fun j x d hx hd => ?_
  have := h.both hx (by rw [List.getElem?_map, hd]; rfl)
  exact this.d_inv

theorem run_indexAt_slice {t e : TypeId} {k : IntKind} {n : Int} {sz : Nat} {b : Option Addr} {ad : Addr} {len cap : Nat} (hu : P.underlying t = some (.slice e)) (hs : tySize P e = some sz) (hb : b = some ad) (h0 : 0 ≤ n) (h1 : n < len) :
    (Instr.indexAt t (.slice b len cap) (.int k n)).run P w = .ok (.pointer (some (ad.add (n.toNat * sz)))) w := by
  subst hb
  simp [Instr.indexAt, asIntOf, run_underlying hu, run_sizeOf' hs, h0, h1]

theorem eqFs_ok {same : TypeId → AV → AV → Option Bool} {d : Nat} (hs : ∀ (t : TypeId) (a b : AV) (z : Bool), same t a b = some z → ∀ x y, RdA S w ρ x a → RdA S w ρ y b → (Op.equalIn d t x y).run P w = .ok z w) {vs us : List Value} :
    ∀ {fs : List Field} {ds es : List D} {z : Bool}, eqFs P same fs ds es = some z → All2 (Rd S w ρ) vs ds → All2 (Rd S w ρ) us es → (Op.eqFields d vs.toArray us.toArray fs).run P w = .ok z w
  | [], ds, es, z, h, _, _ => by simp [eqFs] at h; subst h; simp [Op.eqFields]
  | f :: fs, ds, es, z, h, hv, hu => by
    simp only [eqFs] at h
    cases hn : (f.name == "_") with
    | true =>
      rw [hn] at h
      have : ¬ (f.name ≠ "_") := by simpa using hn
      simp only [Op.eqFields, if_neg this]
      exact eqFs_ok hs h hv hu
    | false =>
      rw [hn] at h
      simp only [cond_false] at h
      have hne : f.name ≠ "_" := by simpa using hn
      split at h
      · rename_i n e1
        split at h
        · rename_i a b e2 e3
          split at h
          · rename_i r q e4 e5
            simp at h; subst h
            obtain ⟨x, hx, hrx⟩ := part_ok (P := P) hv e1 e2
            obtain ⟨y, hy, hry⟩ := part_ok (P := P) hu e1 e3
            have h1 := hs _ _ _ _ e4 x y hrx hry
            have h2 := eqFs_ok hs e5 hv hu
            simp only [Op.eqFields, if_pos hne, Sem.run_bind, hx, hy, h1, Result.andThen_ok]
            cases r with
            | true => simpa using h2
            | false => simp
          · cases h
        · cases h
      · cases h
theorem eqA_ok : ∀ {m : Nat} {t : TypeId} {a b : AV} {z : Bool}, eqA P m t a b = some z → ∀ {N : Nat}, m ≤ N → ∀ {x y : Value}, RdA S w ρ x a → RdA S w ρ y b → (Op.equalIn N t x y).run P w = .ok z w
  | 0, t, a, b, z, h, N, _, x, y, _, _ => by simp [eqA] at h
  | m + 1, t, a, b, z, h, N, hN, x, y, hx, hy => by
    obtain ⟨N, rfl⟩ : ∃ q, N = q + 1 := ⟨N - 1, by omega⟩
    simp only [eqA] at h
    split at h
    · rename_i ht
      split at h
      · simp at h; subst h
        rw [hx.exact_inv, hy.exact_inv]
        exact Go.run_equalIn_bool w N t _ _ ht
      · cases h
    · rename_i k ht
      split at h
      · split at h
        · rename_i hk
          subst hk
          simp at h; subst h
          rw [hx.exact_inv, hy.exact_inv]
          exact Go.run_equalIn_int w N t _ _ _ _ ht
        · cases h
      · cases h
    · rename_i ht
      split at h
      · simp at h; subst h
        rw [hx.exact_inv, hy.exact_inv]
        exact Go.run_equalIn_string w N t _ _ ht
      · cases h
    · rename_i fs ht
      split at h
      · rename_i ds es
        cases hst : P.stoodInHeld t with
        | true => rw [hst] at h; simp at h
        | false =>
          rw [hst] at h
          simp only [cond_false] at h
          obtain ⟨vs, rfl, hvs⟩ := hx.agg_inv
          obtain ⟨us, rfl, hus⟩ := hy.agg_inv
          have hfo : P.fieldsOf t = fs := by simp [Program.fieldsOf, ht]
          rw [Go.run_equalIn_struct w N t _ _ (by rw [hfo]; exact ht) hst, hfo]
          exact eqFs_ok (fun t a b z h x y hx hy => eqA_ok h (by omega) hx hy) h hvs hus
      · cases h
    · cases h

theorem run_indexAt_array {t e : TypeId} {m : Nat} {k : IntKind} {n : Nat} {sz : Nat} {ad : Addr} (hu : P.underlying t = some (.array m e)) (hs : tySize P e = some sz) (h1 : n < m) :
    (Instr.indexAt t (.pointer (some ad)) (.int k (Int.ofNat n))).run P w = .ok (.pointer (some (ad.add (n * sz)))) w := by
  have h0 : (0 : Int) ≤ Int.ofNat n ∧ Int.ofNat n < (m : Int) := ⟨Int.natCast_nonneg _, by simpa using h1⟩
  have e : (Int.ofNat n).toNat = n := rfl
  simp only [Instr.indexAt, asIntOf, Instr.sureAddr, Sem.run_bind, Sem.run_pure, Result.andThen_ok, run_underlying hu, run_sizeOf' hs, h0, and_self, if_true, e]

theorem RdP.cut {b : Option Addr} {len cap l h size : Nat} {rows : List (List Pd)} (hr : RdP S w (.slice b len cap) (.s rows)) (hl : l ≤ h) (hh : h ≤ len) (hz : ∀ row, row ∈ rows → row.length = size) :
    RdP S w (.slice (if cap = l then b else b.map (·.add (l * size))) (h - l) (cap - l)) (.s ((rows.take h).drop l)) := by
  cases hr with
  | s _ ad _ sz _ xs hc hm hn hsz hx hrr =>
    have e : h - l = ((rows.take h).drop l).length := by simp; omega
    rw [e]
    by_cases hcl : cap = l
    · have : ((rows.take h).drop l) = [] := by
        apply List.drop_eq_nil_of_le; simp; omega
      rw [this]
      refine .s _ ad (cap - l) size [] xs (by simp) (by omega) (fun hb => ?_) (by simp) (by simp) (by simp)
      omega
    · rw [if_neg hcl]
      have hmem : ∀ (i : Nat) row, ((rows.take h).drop l)[i]? = some row → rows[l + i]? = some row := by
        grind
      refine .s _ (ad.add (l * size)) (cap - l) size _ (fun i j => xs (l + i) j) (by rw [← e]; omega) (by omega) (fun hb => ?_) (fun row hrow => ?_) (fun i row hi j d hj => ?_) (fun i row hi j d hj => ?_)
      · cases b with
        | none => have := hn rfl; omega
        | some x => simp at hb
      · exact hz row (List.mem_of_mem_take (List.mem_of_mem_drop hrow))
      · have hi' := hmem i row hi
        obtain ⟨g1, g2, g3⟩ := hx _ row hi' j d hj
        have hss : sz = size := by
          grind
        subst hss
        refine ⟨by rw [g1]; rfl, by rw [add_block]; exact g2, ?_⟩
        rw [add_add, ← g3]
        congr 2
        rw [Nat.add_mul]; omega
      · exact hrr _ row (hmem i row hi) j d hj

theorem run_sliceBound {k : IntKind} {n : Int} {y : Nat} {c : BoundsCode} (h0 : 0 ≤ n) (h1 : n ≤ y) : (Instr.sliceBound (.int k n) y c).run P w = .ok n.toNat w := by
  simp [Instr.sliceBound, asIntOf, h0, h1]

theorem Rd.o_inv {x : Value} {i off : Nat} (h : Rd S w ρ x (.o i off)) : ∃ b, x = .pointer (some ⟨b, off, none⟩) ∧ ρ[i]? = some (.pointer (some ⟨b, 0, none⟩)) := by
  cases h with | o h => exact ⟨_, rfl, h⟩
theorem Rd.os_inv {x : Value} {i : Nat} (h : Rd S w ρ x (.os i)) : ρ[i]? = some x := by
  cases h with | os h _ => exact h
theorem Rd.oe_inv {x : Value} {i k size off : Nat} (h : Rd S w ρ x (.oe i k size off)) : ∃ b o len cap, x = .pointer (some ⟨b, o + k * size + off, none⟩) ∧ ρ[i]? = some (.slice (some ⟨b, o, none⟩) len cap) := by
  cases h with | oe h => exact ⟨_, _, _, _, rfl, h⟩
theorem Rd.ip_inv {x : Value} {cells : List Pd} (h : Rd S w ρ x (.ip cells)) : ∃ ad, x = .pointer (some ad) ∧ CellsP S w ad cells := by
  cases h with | ip h => exact ⟨_, rfl, h⟩
theorem Rd.p_inv {x : Value} {y : Pd} (h : Rd S w ρ x (.p y)) : RdP S w x y := by
  cases h with | p h => exact h
theorem Rd.fb_inv {x : Value} {f : Fn} {ps : List Pd} (h : Rd S w ρ x (.fb f ps)) : ∃ vs : List Value, x = .func f #[.agg vs.toArray] #[] ∧ All2 (RdP S w) vs ps := by
  cases h with | fb hl h => exact ⟨_, rfl, All2.of_get hl h⟩
theorem Rd.fn_inv {x : Value} {f : Fn} {first caps : List D} (h : Rd S w ρ x (.fn f first caps)) : ∃ xs cs : List Value, x = .func f xs.toArray cs.toArray ∧ All2 (Rd S w ρ) xs first ∧ All2 (Rd S w ρ) cs caps := by
  cases h with | fn hl hm hx hc => exact ⟨_, _, rfl, All2.of_get hl hx, All2.of_get hm hc⟩
theorem RdA.tup_inv {x : Value} {l : List AV} (h : RdA S w ρ x (.tup l)) : ∃ vs : List Value, x = .tuple vs.toArray ∧ All2 (RdA S w ρ) vs l := by
  cases h with | tup hl h => exact ⟨_, rfl, All2.of_get hl h⟩

theorem deepCells_get {i g k size : Nat} : ∀ {l : List Pd} {off j : Nat} {d : D}, (deepCells i g k size off l)[j]? = some d → ∃ p, l[j]? = some p ∧ ((∃ x, p = .v x ∧ d = .p (.v x)) ∨ ∃ r, p = .s r ∧ d = .oi i g k size (off + j))
  | [], off, j, d, h => by simp [deepCells] at h
  | .v x :: r, off, j, d, h => by
    simp only [deepCells] at h
    cases j with
    | zero => grind
    | succ j =>
      simp at h
      obtain ⟨p, h1, h2⟩ := deepCells_get h
      grind
  | .s x :: r, off, j, d, h => by
    simp only [deepCells] at h
    cases j with
    | zero => simp at h; subst h; exact ⟨_, rfl, .inr ⟨x, rfl, rfl⟩⟩
    | succ j =>
      simp at h
      obtain ⟨p, h1, h2⟩ := deepCells_get h
      grind

theorem run_equalIn_nil {t e : TypeId} (ht : P.underlying t = some (.slice e)) (a : Option Addr) (n c d : Nat) : (Op.equalIn (d + 1) t (.slice a n c) (.slice none 0 0)).run P w = .ok a.isNone w := by
  cases a <;> simp [Op.equalIn, run_underlying ht]
theorem run_equal_nil {t e : TypeId} (ht : P.underlying t = some (.slice e)) (a : Option Addr) (n c : Nat) : (Op.equal t (.slice a n c) (.slice none 0 0)).run P w = .ok a.isNone w :=
  run_equalIn_nil ht a n c 9999
theorem run_bounds (hL : SlotsOk S w ρ a L) (hp : pt a cur) {lo hi : Option Operand} {len cap : Nat} {k1 k2 : IntKind} {l hh : Int} (e3 : (match lo with | none => some (Value.int .i64 0) | some y => (look L cur y).bind exactV) = some (.int k1 l))
    (e4 : (match hi with | none => some (Value.int .i64 len) | some y => (look L cur y).bind exactV) = some (.int k2 hh)) (h0 : 0 ≤ l) (h1 : l ≤ hh) (h2 : hh ≤ cap) :
    (Instr.sliceBounds true len cap (lo.map a.eval) (hi.map a.eval) none).run P w = .ok (l.toNat, hh.toNat, cap) w := by
  unfold Instr.sliceBounds
  cases hi with
  | none =>
    simp only [Option.some.injEq, Value.int.injEq] at e4
    obtain ⟨_, e4⟩ := e4
    subst e4
    cases lo with
    | none =>
      simp only [Option.some.injEq, Value.int.injEq] at e3
      obtain ⟨_, e3⟩ := e3
      subst e3
      simp
    | some y =>
      simp only at e3
      have := run_sliceBound (P := P) (w := w) (k := k1) (n := l) (y := len) (c := .sliceB) h0 (by omega)
      simp [look_exact hL hp e3, this]
  | some z =>
    simp only at e4
    have g1 := run_sliceBound (P := P) (w := w) (k := k2) (n := hh) (y := cap) (c := .sliceAcap) (by omega) (by omega)
    cases lo with
    | none =>
      simp only [Option.some.injEq, Value.int.injEq] at e3
      obtain ⟨_, e3⟩ := e3
      subst e3
      simp [look_exact hL hp e4, g1]
    | some y =>
      simp only at e3
      have := run_sliceBound (P := P) (w := w) (k := k1) (n := l) (y := hh.toNat) (c := .sliceB) h0 (by omega)
      simp [look_exact hL hp e3, look_exact hL hp e4, this, g1]

set_option maxHeartbeats 1600000 in
theorem fnV_ok {t : TypeId} {c : Cl} {v0 v : AV} {k : Option Cl} {x : Value} (h : fnV P t c v0 = some (v, k)) (hk : ∀ y, k = some y → y.ok P) (hr : RdA S w ρ x v0) : RdA S w ρ x v := by
  unfold fnV at h
  split at h
  · rename_i y q g _ _ _ hu
    simp only [Option.some.injEq, Prod.mk.injEq] at h
    obtain ⟨rfl, rfl⟩ := h
    have e := hr.exact_inv
    have g1 : y = .func (.func g) #[] #[] := hk _ rfl
    rw [e, g1]
    exact .d (Rd.fn (xs := []) (cs := []) rfl rfl (by simp) (by simp))
  · simp only [Option.some.injEq, Prod.mk.injEq] at h
    obtain ⟨rfl, rfl⟩ := h
    exact hr
theorem isIdx_eq {c : Cl} {row : List Pd} (h : isIdx c = some row) : ∃ a b, c = .idx a b row := by
  cases c <;> simp [isIdx] at h
  subst h; exact ⟨_, _, rfl⟩
theorem chunksG_length {α : Type} (size : Nat) : ∀ (n : Nat) (l : List α), (chunks size n l).length = n
  | 0, _ => rfl
  | n + 1, l => by simp [chunks, chunksG_length size n]
theorem chunksG_get {α : Type} (size : Nat) : ∀ (n : Nat) (l : List α) (i : Nat) (row : List α), (chunks size n l)[i]? = some row → row = (l.drop (i * size)).take size
  | 0, _, _, _, h => by simp [chunks] at h
  | n + 1, l, 0, row, h => by simp [chunks] at h; simp [h]
  | n + 1, l, i + 1, row, h => by
    simp only [chunks, List.getElem?_cons_succ] at h
    have := chunksG_get size n (l.drop size) i row h
    rw [this, List.drop_drop]
    congr 2
    rw [Nat.add_mul]; omega
theorem dPsG_ok : ∀ {ds : List D} {ps : List Pd} {vs : List Value}, dPs ds = some ps → All2 (Rd S w ρ) vs ds → All2 (Rd S w ρ) vs (ps.map D.p)
  | [], ps, vs, h, hv => by simp [dPs] at h; subst h; exact hv
  | d :: r, ps, vs, h, hv => by
    simp only [dPs] at h
    split at h
    · rename_i x l h1 h2
      simp at h; subst h
      cases vs with
      | nil => exact hv.elim
      | cons v vs =>
        refine ⟨?_, dPsG_ok h2 hv.2⟩
        have hd := hv.1
        cases d with
        | p y => simp [dP] at h1; subst h1; exact hd
        | fn f a b =>
          cases a with
          | cons => simp [dP] at h1
          | nil =>
            cases b with
            | cons => simp [dP] at h1
            | nil =>
              simp [dP] at h1; subst h1
              cases hd with
              | fn hl hm _ _ =>
                rename_i xs cs _ _
                have e1 : xs = [] := List.length_eq_zero_iff.1 hl
                have e2 : cs = [] := List.length_eq_zero_iff.1 hm
                subst e1; subst e2
                exact .p (.v _ rfl)
        | _ => simp [dP] at h1
    · cases h
theorem RdP_v {S : Nat → Prop} {w : World} {x y : Value} (h : RdP S w x (.v y)) : x = y := by
  cases h; rfl
/-- bytes read as a string -/
theorem evStrB_ok (hI : Inv C S w ρ R) (hL : SlotsOk S w ρ a L) (hp : pt a cur) {c : Cl} {s d : TypeId} {x : Operand} {v : AV} {k : Option Cl} (h : evStrB P L cur R c s d x = some (v, k))
    (hk : ∀ x, k = some x → x.ok P) : ∃ y, (convert s d (a.eval x)).run P w = .ok y w ∧ RdA S w ρ y v := by
  unfold evStrB at h
  split at h
  · rename_i e _ b hs hd
    have key : ∀ (ad : Option Addr) (len cap : Nat) (rows : List (List Pd)), a.eval x = .slice ad len cap → rows.length = len → P.underlying e = some (.int .u8) → (rows = b.data.toList.map fun b => [Pd.v (.int .u8 (b.toNat : Int))]) →
        (∀ (i : Nat) n, b.data.toList[i]? = some n → ∃ a0, ad = some a0 ∧ w.cell? (a0.add i) = some (.int .u8 (n.toNat : Int))) → (convert s d (a.eval x)).run P w = .ok (.string b) w := by
      intro ad len cap rows hx hl he hr hc
      rw [hx, run_convert_bytes_string (P := P) w s d e ad len cap hs he hd]
      have hlen : len = b.data.toList.length := by rw [← hl, hr]; simp
      have hfold : ∀ (l : List UInt8) (acc : ByteArray), (l.map fun n => (n.toNat : Int)).foldl (fun r n => r.push (UInt8.ofNat n.toNat)) acc = ⟨(acc.data.toList ++ l).toArray⟩ := by
        intro l
        induction l with
        | nil => intro acc; simp
        | cons n l ih =>
          intro acc
          rw [List.map_cons, List.foldl_cons, ih]
          congr 1
          simp [ByteArray.push]
      cases ad with
      | none =>
        have : b.data.toList = [] := by
          cases hb : b.data.toList with
          | nil => rfl
          | cons n l =>
            obtain ⟨a0, h0, _⟩ := hc 0 n (by rw [hb]; rfl)
            cases h0
        have hb : b = .empty := by
          obtain ⟨⟨l⟩⟩ := b
          simp only at this
          subst this; rfl
        subst hb
        rfl
      | some a0 =>
        have hload := run_loadCells_list (P := P) w a0 (b.data.toList.map fun n => Value.int .u8 (n.toNat : Int)) fun j v hv => by
          rw [List.getElem?_map] at hv
          obtain ⟨n, h1, rfl⟩ := mapE hv
          obtain ⟨a1, h2, h3⟩ := hc j n h1
          cases h2; exact h3
        have h5 := run_bytesToString (P := P) w a0 len cap (b.data.toList.map fun n => (n.toNat : Int)) (by
          rw [List.map_map]
          have : (Value.int .u8 ∘ fun n : UInt8 => (n.toNat : Int)) = fun n => Value.int .u8 (n.toNat : Int) := rfl
          rw [this, hlen]
          simpa using hload)
        rw [h5, hfold]
        obtain ⟨⟨l⟩⟩ := b
        rfl
    split at h
    · rename_i i he hx
      split at h
      · rename_i e' z rows hi
        cases hb : Nat.beq z 1 with
        | false => rw [hb] at h; cases h
        | true =>
          rw [hb] at h
          have hz := Nat.eq_of_beq_eq_true hb
          subst hz
          simp only [cond_true, Option.some.injEq, Prod.mk.injEq] at h; obtain ⟨rfl, rfl⟩ := h
          have hr := hk _ rfl
          refine ⟨_, ?_, ofV_ok rfl⟩
          have hx' := look_ok hL hp hx
          have hρ := hx'.d_inv.os_inv
          rcases (hI.ok i _ _ hi hρ).live hx'.d_inv.one with ⟨h1, h2⟩ | ⟨b0, o, cap, vs, h1, h2, h3, h4, h5, h6, h7⟩
          · refine key none 0 0 rows h1 (by rw [h2]; rfl) he hr fun i n hn => ?_
            have : rows = b.data.toList.map fun b => [Pd.v (.int .u8 (b.toNat : Int))] := hr
            rw [h2] at this
            have := congrArg List.length this
            simp only [List.length_nil, List.length_map] at this
            have := (List.getElem?_eq_some_iff.1 hn).1
            omega
          · refine key _ _ cap rows h1 rfl he hr fun i n hn => ⟨_, rfl, ?_⟩
            have hrow : rows[i]? = some [Pd.v (.int .u8 (n.toNat : Int))] := by
              have : rows = b.data.toList.map fun b => [Pd.v (.int .u8 (b.toNat : Int))] := hr
              rw [this, List.getElem?_map, hn]; rfl
            obtain ⟨y, hy, hR⟩ := h7 i _ hrow 0 _ rfl
            rw [add_mk, h2.cell]
            rw [Nat.mul_one, Nat.add_zero] at hy
            have := RdP_v hR
            rw [hy, this]
      · cases h
    · rename_i rows he hx
      simp only [Option.some.injEq, Prod.mk.injEq] at h; obtain ⟨rfl, rfl⟩ := h
      have hr := hk _ rfl
      refine ⟨_, ?_, ofV_ok rfl⟩
      have hx' := (look_ok hL hp hx).d_inv.p_inv
      generalize hv : a.eval x = val at hx'
      have hr' : rows = b.data.toList.map fun b => [Pd.v (.int .u8 (b.toNat : Int))] := hr
      cases hx' with
      | s a0 ad cap sz _ xs _ _ _ hsz hxs hrs =>
        rw [← hv]
        refine key a0 _ cap rows hv rfl he hr fun i n hn => ?_
        have hrow : rows[i]? = some [Pd.v (.int .u8 (n.toNat : Int))] := by
          rw [hr', List.getElem?_map, hn]; rfl
        have hs1 : sz = 1 := by rw [← hsz _ (List.mem_of_getElem? hrow)]; rfl
        subst hs1
        obtain ⟨g1, g2, g3⟩ := hxs i _ hrow 0 _ rfl
        have g4 := hrs i _ hrow 0 _ rfl
        refine ⟨ad, g1, ?_⟩
        rw [Nat.mul_one, Nat.add_zero] at g3
        rw [g3, RdP_v g4]
    · cases h
  · cases h
theorem base_ok (hI : Inv C S w ρ R) (hL : SlotsOk S w ρ a L) (hp : pt a cur) {x : Operand} {av : AV} (h : evBase L cur x = some av) : RdA S w ρ (a.eval x) av := by
  cases x with
  | global g =>
    simp only [evBase] at h
    obtain ⟨cells, h1, rfl⟩ := mapE h
    exact .d (.ip (hI.glOk.1 g cells h1).1)
  | _ => exact look_ok hL hp h
theorem evPure_ok (hI : Inv C S w ρ R) (hL : SlotsOk S w ρ a L) (hp : pt a cur) {c : Cl} {o : Oper} {v : AV} {k : Option Cl} (h : evPure P L cur R c o.op = some (v, k))
    (hk : ∀ x, k = some x → x.ok P) : PureOk P S w ρ a o v := by
  obtain ⟨dst, op, type, pos, after, guard⟩ := o
  simp only at h
  cases op with
  | move x =>
    simp only [evPure] at h
    obtain ⟨z, h1, h2⟩ := mapE h
    simp at h2; obtain ⟨rfl, rfl⟩ := h2
    exact ⟨_, rfl, look_ok hL hp h1⟩
  | assign x =>
    simp only [evPure] at h
    obtain ⟨z, h1, h2⟩ := mapE h
    simp at h2; obtain ⟨rfl, rfl⟩ := h2
    exact ⟨_, rfl, look_ok hL hp h1⟩
  | pick u x y =>
    simp only [evPure] at h
    obtain ⟨z, h1, h2⟩ := mapE h
    simp at h2; obtain ⟨rfl, rfl⟩ := h2
    obtain ⟨b, hb, hr⟩ := evPick_ok hL hp h1
    exact ⟨_, by simp [execOp, hb, asBool], hr⟩
  | build t parts =>
    simp only [evPure] at h
    split at h
    · rename_i zs fields ps e1 e2 e3
      obtain ⟨z, hz, hd⟩ := bindE e1
      split at h
      · rename_i ds e4
        obtain ⟨pl, hpl, hf⟩ := bindE e4
        simp at h; obtain ⟨rfl, rfl⟩ := h
        obtain ⟨r, hr1, hr2⟩ := fill_ok (S := S) (w := w) (ρ := ρ) (fun (x : Nat) => pl[x]?) pl (fun _ _ h => h) _ _ z.cells zs ds (lookParts_ok hL hp e3) (dsOf_ok hd) hf
        refine ⟨.agg r, ?_, by simpa using RdA.agg hr2⟩
        simp only [execOp, Sem.run_bind]
        rw [run_build_struct hz e2 hpl (r := r) (by simpa using hr1)]
        rfl
      · cases h
    · rename_i zs n e ps e1 e2 e3
      obtain ⟨z, hz, hd⟩ := bindE e1
      split at h
      · rename_i s e5
        split at h
        · rename_i ds hf
          simp at h; obtain ⟨rfl, rfl⟩ := h
          obtain ⟨r, hr1, hr2⟩ := fill_ok (S := S) (w := w) (ρ := ρ) (fun (x : Nat) => some (x * s, s)) ((List.range n).map fun i => (i * s, s)) (fun i x hx => by
            rw [List.getElem?_map] at hx
            obtain ⟨j, hj, rfl⟩ := mapE hx
            have : j = i := by
              have hi := (List.getElem?_eq_some_iff.1 hj).1
              simp at hi
              rw [List.getElem?_range hi] at hj
              exact (Option.some.inj hj).symm
            rw [this]) _ _ z.cells zs ds (lookParts_ok hL hp e3) (dsOf_ok hd) hf
          refine ⟨.agg r, ?_, by simpa using RdA.agg hr2⟩
          simp only [execOp, Sem.run_bind]
          rw [run_build_array hz e2 e5 (r := r) (by simpa using hr1)]
          rfl
        · cases h
      · cases h
    · cases h
  | load t x =>
    by_cases hg : ∃ g, x = .global g
    · obtain ⟨g, rfl⟩ := hg
      simp only [evPure] at h
      split at h
      · rename_i cells n e1 e2
        obtain ⟨z, h1, h2⟩ := mapE h
        simp at h2; obtain ⟨rfl, rfl⟩ := h2
        have hc := (hI.glOk.1 g cells e1).1
        obtain ⟨y, hy, hr⟩ := run_loadVar' (P := P) (S := S) (w := w) (ρ := ρ) (ad := ⟨g, 0, none⟩) h1 (fun j d hd => by
          rw [List.getElem?_map] at hd
          obtain ⟨d', h3, h4⟩ := mapE hd
          subst h4
          obtain ⟨x, h5, h6, h7⟩ := hc.take n j d' h3
          exact ⟨x, h6, .p h7⟩)
        refine ⟨y, ?_, hr⟩
        simp only [execOp, Sem.run_bind, Act.eval, Instr.loadAt, Instr.sureAddr, Sem.run_pure, Result.andThen_ok, hy]
      · cases h
    · have h : evLoad P L cur R c t x = some (v, k) := by
        cases x with
        | global g => exact absurd ⟨g, rfl⟩ hg
        | _ => exact h
      unfold evLoad at h
      split at h
      · rename_i i off n e1 e2
        split at h
        · rename_i t' cells hi
          obtain ⟨z, h1, h2⟩ := bindE h
          obtain ⟨b, hx, hρ⟩ := (look_ok hL hp e1).d_inv.o_inv
          obtain ⟨y, hy, hr⟩ := run_loadVar' (P := P) (S := S) (w := w) (ρ := ρ) (ad := ⟨b, off, none⟩) h1 (fun j d hd => box_read hI hi hρ off n j d hd)
          refine ⟨y, ?_, fnV_ok h2 hk hr⟩
          simp only [execOp, Sem.run_bind, hx, Instr.loadAt, Instr.sureAddr, Sem.run_pure, Result.andThen_ok, hy]
        · cases h
      · rename_i cells n e1 e2
        obtain ⟨z, h1, h2⟩ := mapE h
        simp at h2; obtain ⟨rfl, rfl⟩ := h2
        obtain ⟨ad, hx, hc⟩ := (look_ok hL hp e1).d_inv.ip_inv
        obtain ⟨y, hy, hr⟩ := run_loadVar' (P := P) (S := S) (w := w) (ρ := ρ) (ad := ad) h1 (fun j d hd => by
          rw [List.getElem?_map] at hd
          obtain ⟨d', h3, h4⟩ := mapE hd
          subst h4
          obtain ⟨x, h5, h6, h7⟩ := hc.take n j d' h3
          exact ⟨x, h6, .p h7⟩)
        refine ⟨y, ?_, hr⟩
        simp only [execOp, Sem.run_bind, hx, Instr.loadAt, Instr.sureAddr, Sem.run_pure, Result.andThen_ok, hy]
      · rename_i i kk size off n e1 e2
        split at h
        · rename_i s rows q1 q2 row hi q3
          cases hb : Nat.beq s size with
          | false => rw [hb] at h; simp at h
          | true =>
            rw [hb] at h
            simp only [cond_true] at h
            have hss := Nat.eq_of_beq_eq_true hb
            subst hss
            obtain ⟨z, h1, h2⟩ := mapE h
            simp at h2; obtain ⟨rfl, rfl⟩ := h2
            obtain ⟨_, hrow⟩ := hk _ rfl
            simp only [Int.toNat_natCast] at hrow
            obtain ⟨b, o, l, cp, hx, hρ⟩ := (look_ok hL hp e1).d_inv.oe_inv
            rcases (hI.ok i _ _ hi hρ).live rfl with ⟨h3, h4⟩ | ⟨b', o', cp', vs, h3, hb', _, _, _, _, h5⟩
            · cases h3
            · cases h3
              obtain ⟨y, hy, hr⟩ := run_loadVar' (P := P) (S := S) (w := w) (ρ := ρ) (ad := ⟨b, o + kk * s + off, none⟩) h1 (fun j d hd => by
                rw [List.getElem?_map] at hd
                obtain ⟨d', g1, g2⟩ := mapE hd
                subst g2
                rw [List.getElem?_take] at g1
                split at g1
                · rw [List.getElem?_drop] at g1
                  obtain ⟨x, g3, g4⟩ := h5 kk row hrow (off + j) d' g1
                  refine ⟨x, ?_, .p g4⟩
                  rw [add_mk, hb'.cell]
                  rw [← g3]; congr 1; omega
                · cases g1)
              refine ⟨y, ?_, hr⟩
              simp only [execOp, Sem.run_bind, hx, Instr.loadAt, Instr.sureAddr, Sem.run_pure, Result.andThen_ok, hy]
        · rename_i e s g q1 q2 row hi q3
          split at h
          · rename_i s2 tys rows hg
            cases hb : (Nat.blt 0 s && (Nat.beq s size && Nat.beq s s2)) with
            | false => rw [hb] at h; simp at h
            | true =>
              rw [hb] at h
              simp only [cond_true] at h
              simp only [Bool.and_eq_true] at hb
              obtain ⟨b0, b1, b2⟩ := hb
              have hs0 : 0 < s := by simpa [Nat.blt_eq] using b0
              have hss := Nat.eq_of_beq_eq_true b1
              subst hss
              have hss := Nat.eq_of_beq_eq_true b2
              subst hss
              obtain ⟨z, h1, h2⟩ := mapE h
              simp at h2; obtain ⟨rfl, rfl⟩ := h2
              obtain ⟨_, hrow⟩ := hk _ rfl
              simp only [Int.toNat_natCast] at hrow
              obtain ⟨b, o, l, cp, hx, hρ⟩ := (look_ok hL hp e1).d_inv.oe_inv
              obtain ⟨f, xs, cs, hgρ, hgo, hform⟩ := deep_form hI hi hg hρ rfl hs0
              rcases hform with ⟨h3, h4⟩ | ⟨b', o', cp', vs, h3, hb', _, _, _, h5⟩
              · cases h3
              · cases h3
                obtain ⟨y, hy, hr⟩ := run_loadVar' (P := P) (S := S) (w := w) (ρ := ρ) (ad := ⟨b, o + kk * s + off, none⟩) h1 (fun j d hd => by
                  obtain ⟨p, g1, g2⟩ := deepCells_get hd
                  rw [List.getElem?_take] at g1
                  split at g1
                  · rw [List.getElem?_drop] at g1
                    obtain ⟨x, g3, g4⟩ := hgo.2.2.1 kk row hrow (off + j) p g1
                    have g5 := h5 _ x g3
                    refine ⟨x, ?_, ?_⟩
                    · rw [add_mk, cell_blk hb']
                      rw [← g5]; congr 1; omega
                    · rcases g2 with ⟨u, rfl, rfl⟩ | ⟨r, rfl, rfl⟩
                      · obtain ⟨rfl, g6, _⟩ := g4
                        exact .p (.v _ g6)
                      · exact .oi hgρ g3 g4.1
                  · cases g1)
                refine ⟨y, ?_, hr⟩
                simp only [execOp, Sem.run_bind, hx, Instr.loadAt, Instr.sureAddr, Sem.run_pure, Result.andThen_ok, hy]
          · cases h
        · rename_i q0 q2 cells hi q1
          obtain ⟨z, h1, h2⟩ := mapE h
          simp at h2; obtain ⟨rfl, rfl⟩ := h2
          obtain ⟨b, o, l, cp, hx, hρ⟩ := (look_ok hL hp e1).d_inv.oe_inv
          obtain ⟨b', o', len, cap, vs, h3, hb', _, hc⟩ := (hI.ok i _ _ hi hρ).live rfl
          cases h3
          obtain ⟨y, hy, hr⟩ := run_loadVar' (P := P) (S := S) (w := w) (ρ := ρ) (ad := ⟨b, o + kk * size + off, none⟩) h1 (fun j d hd => by
            rw [List.getElem?_take] at hd
            split at hd
            · rw [List.getElem?_drop] at hd
              obtain ⟨x, g3, g4⟩ := hc.get hd
              refine ⟨x, ?_, g4⟩
              rw [add_mk, hb'.cell]
              rw [List.getElem?_take] at g3
              split at g3
              · rw [List.getElem?_drop] at g3
                rw [show o + kk * size + off + j = o + (kk * size + off + j) from by omega]
                simpa using g3
              · cases g3
            · cases hd)
          refine ⟨y, ?_, hr⟩
          simp only [execOp, Sem.run_bind, hx, Instr.loadAt, Instr.sureAddr, Sem.run_pure, Result.andThen_ok, hy]
        · cases h
      · cases h
  | nilCheck x =>
    simp only [evPure] at h
    split at h
    · rename_i i off e1
      simp at h; obtain ⟨rfl, rfl⟩ := h
      have hr := look_ok hL hp e1
      obtain ⟨b, hx, _⟩ := hr.d_inv.o_inv
      exact ⟨_, by simp only [execOp, hx]; rfl, hx ▸ hr⟩
    · rename_i i off s k e1
      simp at h; obtain ⟨rfl, rfl⟩ := h
      have hr := look_ok hL hp e1
      obtain ⟨b, o, l, c, hx, _⟩ := hr.d_inv.oe_inv
      exact ⟨_, by simp only [execOp, hx]; rfl, hx ▸ hr⟩
    · rename_i cells e1
      simp at h; obtain ⟨rfl, rfl⟩ := h
      have hr := look_ok hL hp e1
      obtain ⟨ad, hx, _⟩ := hr.d_inv.ip_inv
      exact ⟨_, by simp only [execOp, hx]; rfl, hx ▸ hr⟩
    · cases h
  | binOp b t x y yt =>
    simp only [evPure] at h
    split at h
    · rename_i u1 v1 e1 e2
      have hx := look_exact hL hp e1
      have hy := look_exact hL hp e2
      split at h
      · rename_i z hz
        simp at h; obtain ⟨rfl, rfl⟩ := h
        obtain ⟨r1, r2⟩ := bin_ok (P := P) (w := w) hz t x y
        refine ⟨z, ?_, ofV_ok r2⟩
        simp only [execOp, hx, hy]
        rw [Sem.run_bind, r1]; rfl
      · split at h
        · rename_i z n hz
          simp at h; obtain ⟨rfl, rfl⟩ := h
          have hn : n ≠ 0 := hk _ rfl
          obtain ⟨r1, r2⟩ := binD_ok (P := P) (w := w) hz hn t x y
          refine ⟨z, ?_, ofV_ok r2⟩
          simp only [execOp, hx, hy]
          rw [Sem.run_bind, r1]; rfl
        · split at h
          · rename_i hu
            obtain ⟨z, hz, h2⟩ := mapE h
            simp at h2; obtain ⟨rfl, rfl⟩ := h2
            obtain ⟨r1, r2⟩ := binB_ok (P := P) (w := w) hz t hu x y
            refine ⟨z, ?_, ofV_ok r2⟩
            simp only [execOp, hx, hy]
            rw [Sem.run_bind, r1]; rfl
          · cases h
    · unfold evEqS at h
      split at h
      · rename_i rows e1 e2
        split at h
        · rename_i e hu
          simp at h; obtain ⟨rfl, rfl⟩ := h
          have hx := (look_ok hL hp e1).d_inv.p_inv
          have hy := (look_ok hL hp e2).exact_inv
          generalize hxe : a.eval x = xv at hx
          cases hx with
          | s ad0 ad cap size _ xs hc hm hz =>
            refine ⟨.bool ad0.isNone, ?_, .d (.nq fun hn => ?_)⟩
            · have he := run_equal_nil (P := P) (w := w) (t := t) hu ad0 rows.length cap
              simp only [execOp, hxe, hy, eqGuard, binOp, Sem.run_bind]
              simp [he]
            · have hn : ad0 = none := by cases ad0 <;> simp_all
              have := hz hn
              exact List.eq_nil_of_length_eq_zero (by omega)
        · cases h
      · rename_i j e1 e2
        split at h
        · rename_i e e' s rows hu hi
          simp at h; obtain ⟨rfl, rfl⟩ := h
          have hr := (look_ok hL hp e1).d_inv
          have hy := (look_ok hL hp e2).exact_inv
          rcases (hI.ok j _ _ hi hr.os_inv).live hr.one with ⟨h3, h4⟩ | ⟨b', o, cp, vs, h3, _⟩
          · refine ⟨.bool true, ?_, .d (.nq fun _ => h4)⟩
            have he := run_equal_nil (P := P) (w := w) (t := t) hu none 0 0
            simp only [execOp, h3, hy, eqGuard, binOp, Sem.run_bind]
            simp [he]
          · refine ⟨.bool false, ?_, .d (.nq fun hn => by cases hn)⟩
            have he := run_equal_nil (P := P) (w := w) (t := t) hu (some ⟨b', o, none⟩) rows.length cp
            simp only [execOp, h3, hy, eqGuard, binOp, Sem.run_bind]
            simp [he]
        · cases h
      · rename_i ds es e1 e2
        cases hg : P.eqGuardType P.depth t with
        | true => rw [hg] at h; simp at h
        | false =>
          rw [hg] at h
          simp only [cond_false] at h
          obtain ⟨vs, hv, hvs⟩ := (look_ok hL hp e1).agg_inv
          obtain ⟨us, hu, hus⟩ := (look_ok hL hp e2).agg_inv
          cases b with
          | eql =>
            obtain ⟨z, hz, h2⟩ := mapE h
            simp at h2; obtain ⟨rfl, rfl⟩ := h2
            have := eqA_ok (P := P) (S := S) (w := w) (ρ := ρ) hz (N := 10000) (by omega) (.agg hvs) (.agg hus)
            refine ⟨.bool z, ?_, ofV_ok rfl⟩
            simp only [execOp, hv, hu, Sem.run_bind, Go.run_eqGuard_agg w .eql t x y vs.toArray us.toArray hg, Result.andThen_ok, Go.run_eql_struct, this]
            rfl
          | neq =>
            obtain ⟨z, hz, h2⟩ := mapE h
            simp at h2; obtain ⟨rfl, rfl⟩ := h2
            have := eqA_ok (P := P) (S := S) (w := w) (ρ := ρ) hz (N := 10000) (by omega) (.agg hvs) (.agg hus)
            refine ⟨.bool !z, ?_, ofV_ok rfl⟩
            simp only [execOp, hv, hu, Sem.run_bind, Go.run_eqGuard_agg w .neq t x y vs.toArray us.toArray hg, Result.andThen_ok, Go.run_neq_struct, this]
            rfl
          | _ => cases h
      · cases h
  | unOp u t x =>
    simp only [evPure] at h
    split at h
    · rename_i v1 e1
      have hx := look_exact hL hp e1
      obtain ⟨z, hz, h2⟩ := mapE h
      simp at h2; obtain ⟨rfl, rfl⟩ := h2
      obtain ⟨r1, r2⟩ := un_ok (P := P) (w := w) hz
      refine ⟨z, ?_, ofV_ok r2⟩
      simp only [execOp, hx]
      rw [Sem.run_bind, r1]; rfl
    · cases h
  | convert s d x =>
    simp only [evPure] at h
    split at h
    · rename_i k1 k2 k3 n e1 e2 e3
      have hx := look_exact hL hp e3
      simp at h; obtain ⟨rfl, rfl⟩ := h
      refine ⟨_, ?_, ofV_ok rfl⟩
      simp [execOp, hx, convert, run_underlying e1, run_underlying e2, Conv.intToInt]
    · obtain ⟨y, h1, h2⟩ := evStrB_ok hI hL hp h hk
      exact ⟨y, by simp only [execOp, Sem.run_bind, h1]; rfl, h2⟩
  | makeFunc f first caps =>
    simp only [evPure] at h
    split at h
    · rename_i x y e1 e2
      split at h
      · rename_i x' y' e3 e4
        simp at h; obtain ⟨rfl, rfl⟩ := h
        have r1 := lookAll_ok hL hp e1
        have r2 := lookAll_ok hL hp e2
        rw [mapM_d e3] at r1
        rw [mapM_d e4] at r2
        have s1 := all2_d r1
        have s2 := all2_d r2
        refine ⟨_, ?_, .d (.fn s1.length s2.length (fun j x d hx hd => s1.both hx hd) (fun j x d hx hd => s2.both hx hd))⟩
        simp only [execOp, Instr.makeFunc, Sem.run_bind, Sem.run_pure, Result.andThen_ok]
        congr 3 <;> (apply Array.ext'; simp)
      · split at h
        · rename_i ds _
          obtain ⟨ps, hps, h2⟩ := mapE h
          simp only [Prod.mk.injEq] at h2; obtain ⟨rfl, rfl⟩ := h2
          have r1 := lookAll_ok hL hp e1
          have r2 := lookAll_ok hL hp e2
          obtain ⟨x0, hx0, hr0⟩ : ∃ x0, first.toList.map a.eval = [x0] ∧ RdA S w ρ x0 (.agg ds) := by
            generalize first.toList.map a.eval = l at r1
            match l, r1 with
            | [x0], h => exact ⟨x0, rfl, h.1⟩
            | [], h => exact h.elim
            | _ :: _ :: _, h => exact h.2.elim
          have hc0 : caps.toList.map a.eval = [] := by
            generalize caps.toList.map a.eval = l at r2
            match l, r2 with
            | [], _ => rfl
            | _ :: _, h => exact h.elim
          obtain ⟨vs, rfl, hvs⟩ := hr0.agg_inv
          have hq0 := dPsG_ok hps hvs
          have hq : All2 (RdP S w) vs ps := All2.of_get (by have := hq0.length; simpa using this) (fun j x d hx hd => (hq0.both hx (by rw [List.getElem?_map, hd]; rfl)).p_inv)
          refine ⟨_, ?_, .d (.fb (f := f) hq.length fun j x d hx hd => hq.both hx hd)⟩
          simp only [execOp, Instr.makeFunc, Sem.run_bind, Sem.run_pure, Result.andThen_ok]
          have f1 : first.map a.eval = #[.agg vs.toArray] := by apply Array.ext'; simpa using hx0
          have f2 : caps.map a.eval = #[] := by apply Array.ext'; simpa using hc0
          rw [f1, f2]
        · cases h
    · cases h
  | fieldAddr s x f =>
    simp only [evPure] at h
    split at h
    · rename_i i off kk ft e1 e2
      split at h
      · rename_i m e3
        simp at h; obtain ⟨rfl, rfl⟩ := h
        obtain ⟨b, hx, hρ⟩ := (look_ok hL hp e1).d_inv.o_inv
        refine ⟨.pointer (some ⟨b, off + kk, none⟩), ?_, .d (.o hρ)⟩
        simp only [execOp, hx, Sem.run_bind, run_fieldAt e2 e3, add_mk]
        rfl
      · cases h
    · rename_i cells kk ft e1 e2
      split at h
      · rename_i m e3
        simp at h; obtain ⟨rfl, rfl⟩ := h
        obtain ⟨ad, hx, hc⟩ := (look_ok hL hp e1).d_inv.ip_inv
        refine ⟨.pointer (some (ad.add kk)), ?_, .d (.ip (hc.drop kk))⟩
        simp only [execOp, hx, Sem.run_bind, run_fieldAt e2 e3]
        rfl
      · cases h
    · rename_i i r size off kk ft e1 e2
      split at h
      · rename_i m e3
        simp at h; obtain ⟨rfl, rfl⟩ := h
        obtain ⟨b, o, l, c, hx, hρ⟩ := (look_ok hL hp e1).d_inv.oe_inv
        refine ⟨.pointer (some ⟨b, o + r * size + (off + kk), none⟩), ?_, .d (.oe hρ)⟩
        simp only [execOp, hx, Sem.run_bind, run_fieldAt e2 e3, add_mk]
        rw [Nat.add_assoc]
        rfl
      · cases h
    · cases h
  | field s x f =>
    simp only [evPure] at h
    split at h
    · rename_i ds kk ft e1 e2
      split at h
      · rename_i n e3
        obtain ⟨z, hz, h2⟩ := mapE h
        simp at h2; obtain ⟨rfl, rfl⟩ := h2
        obtain ⟨vs, hv, hr⟩ := (look_ok hL hp e1).agg_inv
        obtain ⟨fields, y, hu, hy, rfl, rfl⟩ := fieldOf_ok e2
        obtain ⟨r, hr1, hr2⟩ := part_ok (P := P) hr e3 hz
        refine ⟨r, ?_, hr2⟩
        simp only [execOp, Instr.field, hv, Sem.run_bind, run_underlying hu, hy, asAgg, Sem.run_pure, Result.andThen_ok, hr1]
      · cases h
    · cases h
  | indexAddr t x i =>
    simp only [evPure] at h
    unfold evIdx at h
    split at h
    · rename_i e rows ik n e1 e2 e3
      split at h
      · rename_i q1 q2 row
        split at h
        · rename_i m e4
          cases hb : Nat.beq row.length (m + 1) with
          | false => rw [hb] at h; simp at h
          | true =>
            rw [hb] at h
            simp at h; obtain ⟨rfl, rfl⟩ := h
            have hlen : row.length = m + 1 := Nat.eq_of_beq_eq_true hb
            have hpd := (base_ok hI hL hp e2).d_inv.p_inv
            have hn := look_exact hL hp e3
            obtain ⟨h0, hrow⟩ := hk _ rfl
            obtain ⟨b, cap, hform, hcap, hm⟩ := hpd.slice_form
            rw [hform] at hpd
            obtain ⟨hlt, hcells⟩ := hpd.row hrow
            obtain ⟨ad, had, hc⟩ := hcells (by intro e; rw [e] at hlen; simp at hlen)
            refine ⟨.pointer (some (ad.add (n.toNat * (m + 1)))), ?_, .d (.ip (by rw [hlen] at hc; exact hc))⟩
            simp only [execOp, hform, hn]
            rw [Sem.run_bind, run_indexAt_slice e1 e4 had h0 (by omega)]
            rfl
        · cases h
      · cases h
    · rename_i e j ik n e1 e2 e3
      split at h
      · rename_i q0 s rows q1 q2 row hi
        split at h
        · rename_i m e4
          cases hb : Nat.beq s (m + 1) with
          | false => rw [hb] at h; simp at h
          | true =>
            rw [hb] at h
            simp at h; obtain ⟨rfl, rfl⟩ := h
            have hss := Nat.eq_of_beq_eq_true hb
            subst hss
            have hr := (base_ok hI hL hp e2).d_inv
            have hn := look_exact hL hp e3
            obtain ⟨h0, hrow⟩ := hk _ rfl
            have hlt := (List.getElem?_eq_some_iff.1 hrow).1
            rcases (hI.ok j _ _ hi hr.os_inv).live hr.one with ⟨h3, h4⟩ | ⟨b, o, cp, vs, h3, hb', _⟩
            · rw [h4] at hlt; simp at hlt
            · refine ⟨.pointer (some ⟨b, o + n.toNat * (m + 1) + 0, none⟩), ?_, .d (.oe (by rw [← h3]; exact hr.os_inv))⟩
              simp only [execOp, h3, hn]
              rw [Sem.run_bind, run_indexAt_slice e1 e4 rfl h0 (by omega), add_mk]
              rfl
        · cases h
      · rename_i q0 s g q1 q2 row hi
        split at h
        · rename_i m s2 tys rows hole e4 hg
          cases hb : (Nat.beq s (m + 1) && Nat.beq s s2) with
          | false => rw [hb] at h; simp at h
          | true =>
            rw [hb] at h
            simp at h; obtain ⟨rfl, rfl⟩ := h
            simp only [Bool.and_eq_true] at hb
            have hss := Nat.eq_of_beq_eq_true hb.2
            subst hss
            have hss := Nat.eq_of_beq_eq_true hb.1
            subst hss
            have hr := (base_ok hI hL hp e2).d_inv
            have hn := look_exact hL hp e3
            obtain ⟨h0, hrow⟩ := hk _ rfl
            have hlt := (List.getElem?_eq_some_iff.1 hrow).1
            obtain ⟨_, _, _, _, _, hform⟩ := deep_form hI hi hg hr.os_inv hr.one (Nat.succ_pos _)
            rcases hform with ⟨h3, h4⟩ | ⟨b, o, cp, vs, h3, hb', _⟩
            · rw [h4] at hlt; simp at hlt
            · refine ⟨.pointer (some ⟨b, o + n.toNat * (m + 1) + 0, none⟩), ?_, .d (.oe (by rw [← h3]; exact hr.os_inv))⟩
              simp only [execOp, h3, hn]
              rw [Sem.run_bind, run_indexAt_slice e1 e4 rfl h0 (by omega), add_mk]
              rfl
        · cases h
      · rename_i q0 s0 cells hi
        split at h
        · rename_i m e4
          cases hb : Nat.beq s0 (m + 1) with
          | false => rw [hb] at h; simp at h
          | true =>
            rw [hb] at h
            simp only [cond_true, Option.some.injEq, Prod.mk.injEq] at h; obtain ⟨rfl, rfl⟩ := h
            obtain ⟨h0, _, hlt, _⟩ := hk _ rfl
            have hm := Nat.eq_of_beq_eq_true hb
            subst hm
            have hlt : n.toNat < cells.length / (m + 1) := by omega
            have hr := (base_ok hI hL hp e2).d_inv
            have hn := look_exact hL hp e3
            obtain ⟨b, o, len, cap, vs, h3, hb', ⟨h5, h6, _⟩, _⟩ := (hI.ok j _ _ hi hr.os_inv).live hr.one
            rw [h5, Nat.mul_div_cancel _ h6] at hlt
            refine ⟨.pointer (some ⟨b, o + n.toNat * (m + 1) + 0, none⟩), ?_, .d (.oe (by rw [← h3]; exact hr.os_inv))⟩
            simp only [execOp, h3, hn]
            rw [Sem.run_bind, run_indexAt_slice e1 e4 rfl h0 (by omega), add_mk]
            rfl
        · cases h
      · cases h
    · rename_i e j lo m0 s2 ik n e1 e2 e3
      split at h
      · rename_i q0 s rows q1 q2 row hi
        split at h
        · rename_i m e4
          cases hb : ((Nat.beq s (m + 1) && Nat.beq s2 (m + 1)) && (decide (0 ≤ n) && Nat.blt n.toNat m0)) with
          | false => rw [hb] at h; simp at h
          | true =>
            rw [hb] at h
            simp only [cond_true, Option.some.injEq, Prod.mk.injEq] at h; obtain ⟨rfl, rfl⟩ := h
            simp only [Bool.and_eq_true, decide_eq_true_eq] at hb
            obtain ⟨⟨hs1, hs2⟩, h0, hlt⟩ := hb
            have hs1 := Nat.eq_of_beq_eq_true hs1
            have hs2 := Nat.eq_of_beq_eq_true hs2
            subst hs1; subst hs2
            have hlt : n.toNat < m0 := by simpa [Nat.blt_eq] using hlt
            have hr := (base_ok hI hL hp e2).d_inv
            have hn := look_exact hL hp e3
            obtain ⟨_, hrow⟩ := hk _ rfl
            have hrl := (List.getElem?_eq_some_iff.1 hrow).1
            generalize hx : a.eval x = xv at hr
            cases hr with
            | @osb _ _ _ _ q ad len cap g1 hl hc hq hq2 =>
              rcases (hI.ok j _ _ hi g1).live rfl with ⟨h3, h4⟩ | ⟨b, o, cp, vs, h3, hb', hcp, _⟩
              · rw [h4] at hrl; simp at hrl
              · cases h3
                have hlc : lo < cap := by omega
                have := hq2 hlc
                subst this
                refine ⟨.pointer (some ⟨b, o + (lo + n.toNat) * (m + 1) + 0, none⟩), ?_, .d (.oe g1)⟩
                simp only [execOp, hx, hn, Option.map_some]
                rw [Sem.run_bind, run_indexAt_slice e1 e4 rfl h0 (by omega), add_mk, add_mk]
                rw [show o + lo * (m + 1) + n.toNat * (m + 1) = o + (lo + n.toNat) * (m + 1) + 0 from by rw [Nat.add_mul]; omega]
                rfl
        · cases h
      · cases h
    · rename_i m e j off ik kk e1 e2 e3
      split at h
      · rename_i s e4
        cases hb : Nat.blt kk m with
        | false => rw [hb] at h; simp at h
        | true =>
          rw [hb] at h
          simp at h; obtain ⟨rfl, rfl⟩ := h
          have hlt : kk < m := by simpa [Nat.blt_eq] using hb
          obtain ⟨b, hx, hρ⟩ := (base_ok hI hL hp e2).d_inv.o_inv
          have hn := look_exact hL hp e3
          refine ⟨.pointer (some ⟨b, off + kk * s, none⟩), ?_, .d (.o hρ)⟩
          simp only [execOp, hx, hn]
          rw [Sem.run_bind, run_indexAt_array e1 e4 hlt, add_mk]
          rfl
      · cases h
    · rename_i m e cells ik kk e1 e2 e3
      split at h
      · rename_i s e4
        cases hb : Nat.blt kk m with
        | false => rw [hb] at h; simp at h
        | true =>
          rw [hb] at h
          simp at h; obtain ⟨rfl, rfl⟩ := h
          have hlt : kk < m := by simpa [Nat.blt_eq] using hb
          obtain ⟨ad, hx, hc⟩ := (base_ok hI hL hp e2).d_inv.ip_inv
          have hn := look_exact hL hp e3
          refine ⟨.pointer (some (ad.add (kk * s))), ?_, .d (.ip (hc.drop _))⟩
          simp only [execOp, hx, hn]
          rw [Sem.run_bind, run_indexAt_array e1 e4 hlt]
          rfl
      · cases h
    · split at h
      · simp only [Option.some.injEq, Prod.mk.injEq] at h
        obtain ⟨rfl, rfl⟩ := h
        have h0 := (hk _ rfl).2
        simp at h0
      · cases h
    · cases h
  | index t x i =>
    simp only [evPure] at h
    split at h
    · rename_i n e ds ik kki e1 e2 e3
      split at h
      · rename_i row hrow
        have hc := isIdx_eq hrow
        unfold evIdxA at h
        split at h
        · rename_i s ps e4 e5
          cases hb : Nat.beq ps.length (n * (s + 1)) with
          | false => rw [hb] at h; simp at h
          | true =>
            rw [hb] at h
            simp only [cond_true] at h
            have hlen := Nat.eq_of_beq_eq_true hb
            obtain ⟨z, hz, h2⟩ := mapE h
            simp at h2; obtain ⟨rfl, rfl⟩ := h2
            obtain ⟨h0, hget⟩ := hk _ rfl
            obtain ⟨vs, hv, hr⟩ := (look_ok hL hp e2).agg_inv
            have hn := look_exact hL hp e3
            have hlt : kki.toNat < n := by
              have := (List.getElem?_eq_some_iff.1 hget).1
              rwa [chunksG_length] at this
            have hrw := chunksG_get _ _ _ _ _ hget
            have hr' := dPsG_ok e5 hr
            have hz' : memAV P e (((ps.map D.p).drop (kki.toNat * (s + 1))).take (s + 1)) = some z := by
              rw [← hz, hrw, List.map_take, List.map_drop]
            obtain ⟨r, hr1, hr2⟩ := part_ok (P := P) hr' e4 hz'
            refine ⟨r, ?_, hr2⟩
            have h1 : (0 : Int) ≤ kki ∧ kki < (n : Int) := ⟨h0, by omega⟩
            simp only [execOp, Instr.index, hv, hn, asIntOf, Sem.run_bind, Sem.run_pure, Result.andThen_ok, run_underlying e1, h1, and_self, if_true, run_sizeOf' e4]
            rw [hr1]
            rfl
        · cases h
      · split at h
        · rename_i kk s e4
          cases hb : (Nat.blt kk n && Nat.ble ((kk + 1) * s) ds.length) with
          | false => rw [hb] at h; simp at h
          | true =>
            rw [hb] at h
            simp only [cond_true] at h
            rw [Bool.and_eq_true] at hb
            obtain ⟨z, hz, h2⟩ := mapE h
            simp at h2; obtain ⟨rfl, rfl⟩ := h2
            have hlt : kk < n := by have := hb.1; simpa [Nat.blt_eq] using this
            obtain ⟨vs, hv, hr⟩ := (look_ok hL hp e2).agg_inv
            have hn := look_exact hL hp e3
            obtain ⟨r, hr1, hr2⟩ := part_ok (P := P) hr e4 hz
            refine ⟨r, ?_, hr2⟩
            have h1 : (0 : Int) ≤ Int.ofNat kk ∧ Int.ofNat kk < (n : Int) := ⟨Int.natCast_nonneg _, by simpa using hlt⟩
            simp only [execOp, Instr.index, hv, hn, asIntOf, Sem.run_bind, Sem.run_pure, Result.andThen_ok, run_underlying e1, h1, and_self, if_true, run_sizeOf' e4]
            have e : (Int.ofNat kk).toNat = kk := rfl
            rw [e, hr1]
            rfl
        · cases h
    · rename_i s ik n e1 e2 e3
      split at h
      · rename_i q1 q2 b
        simp at h; obtain ⟨rfl, rfl⟩ := h
        obtain ⟨h0, hb⟩ := hk _ rfl
        have hx := look_exact hL hp (x := x) (v := .string s) (by rw [e2]; rfl)
        have hn := look_exact hL hp e3
        refine ⟨_, ?_, ofV_ok rfl⟩
        have hs : s[n.toNat]? = some b := by
          rw [← hb]; rfl
        simp [execOp, Instr.index, hx, hn, asIntOf, run_underlying e1, h0, hs]
      · cases h
    · cases h
  | extract x i =>
    simp only [evPure] at h
    split at h
    · rename_i l e1
      obtain ⟨z, hz, h2⟩ := mapE h
      simp at h2; obtain ⟨rfl, rfl⟩ := h2
      obtain ⟨vs, hv, hall⟩ := (look_ok hL hp e1).tup_inv
      obtain ⟨y, hy, hr⟩ := hall.get hz
      refine ⟨y, ?_, hr⟩
      simp [execOp, hv, Instr.extract, hy]
    · cases h
  | slice t x lo hi mx =>
    cases mx with
    | some m =>
      cases lo with
      | none => simp [evPure] at h
      | some lo => cases hi with
        | none => simp [evPure] at h
        | some hi =>
          simp only [evPure] at h
          split at h
          · rename_i e i e1 e2
            split at h
            · rename_i e' s rows hri
              split at h
              · rename_i k1 l k2 hh k3 mm e3 e4 e5
                split at h
                · rename_i q1 q2 q3 q4 sz e6
                  simp at h; obtain ⟨rfl, rfl⟩ := h
                  obtain ⟨h0, h1, h2, h3⟩ := hk _ rfl
                  have hr := (look_ok hL hp e2).d_inv
                  have hlen : ∃ b cap, a.eval x = .slice b rows.length cap ∧ rows.length ≤ cap := by
                    rcases (hI.ok i _ _ hri hr.os_inv).live hr.one with ⟨h3, h4⟩ | ⟨b, o, cp, vs, h3, _, h4, _⟩
                    · exact ⟨none, 0, by rw [h3, h4]; rfl, by rw [h4]; simp⟩
                    · exact ⟨_, cp, h3, h4⟩
                  obtain ⟨b, cap, hform, hcap⟩ := hlen
                  have g1 := run_sliceBound (P := P) (w := w) (k := k3) (n := mm) (y := cap) (c := .slice3Acap) (by omega) (by omega)
                  have g2 := run_sliceBound (P := P) (w := w) (k := k2) (n := hh) (y := mm.toNat) (c := .slice3B) (by omega) (by omega)
                  have g3 := run_sliceBound (P := P) (w := w) (k := k1) (n := l) (y := hh.toNat) (c := .slice3C) (by omega) (by omega)
                  have hb : (Instr.sliceBounds true rows.length cap (some (a.eval lo)) (some (a.eval hi)) (some (a.eval m))).run P w = .ok (l.toNat, hh.toNat, mm.toNat) w := by
                    simp [Instr.sliceBounds, look_exact hL hp e3, look_exact hL hp e4, look_exact hL hp e5, g1, g2, g3]
                  refine ⟨.slice (if mm.toNat = l.toNat then b else b.map (·.add (l.toNat * sz))) (hh.toNat - l.toNat) (mm.toNat - l.toNat), ?_, .d (.any rfl)⟩
                  simp only [execOp, hform, Instr.sliceAt, Sem.run_bind, run_underlying e1, Result.andThen_ok, Option.map_some]
                  simp only [Instr.slice, Sem.run_bind, run_underlying e1, Result.andThen_ok, hb, run_sizeOf' e6, Sem.run_pure]
                · cases h
              · cases h
            · cases h
          · cases h
    | none =>
      simp only [evPure] at h
      split at h
      · rename_i e rows e1 e2
        split at h
        · rename_i n k1 l k2 hh e5 e3 e4
          split at h
          case h_2 => cases h
          rename_i rows' _
          simp at h; obtain ⟨rfl, rfl⟩ := h
          obtain ⟨h0, h1, h2, h3, h4⟩ := hk _ rfl
          subst h4
          have hpd := (look_ok hL hp e2).d_inv.p_inv
          obtain ⟨b, cap, hform, hcap, hm⟩ := hpd.slice_form
          rw [hform] at hpd
          refine ⟨_, ?_, .d (.p (RdP.cut hpd (l := l.toNat) (h := hh.toNat) (by omega) (by omega) h3))⟩
          have hb : (Instr.sliceBounds true rows.length cap (lo.map a.eval) (hi.map a.eval) none).run P w = .ok (l.toNat, hh.toNat, cap) w := by
            unfold Instr.sliceBounds
            cases hi with
            | none =>
              simp only [Option.some.injEq, Value.int.injEq] at e4
              obtain ⟨_, e4⟩ := e4
              subst e4
              cases lo with
              | none =>
                simp only [Option.some.injEq, Value.int.injEq] at e3
                obtain ⟨_, e3⟩ := e3
                subst e3
                simp
              | some y =>
                simp only at e3
                have := run_sliceBound (P := P) (w := w) (k := k1) (n := l) (y := rows.length) (c := .sliceB) h0 (by omega)
                simp [look_exact hL hp e3, this]
            | some z =>
              simp only at e4
              have g1 := run_sliceBound (P := P) (w := w) (k := k2) (n := hh) (y := cap) (c := .sliceAcap) (by omega) (by omega)
              cases lo with
              | none =>
                simp only [Option.some.injEq, Value.int.injEq] at e3
                obtain ⟨_, e3⟩ := e3
                subst e3
                simp [look_exact hL hp e4, g1]
              | some y =>
                simp only at e3
                have := run_sliceBound (P := P) (w := w) (k := k1) (n := l) (y := hh.toNat) (c := .sliceB) h0 (by omega)
                simp [look_exact hL hp e3, look_exact hL hp e4, this, g1]
          simp only [execOp, hform, Instr.sliceAt, Sem.run_bind, run_underlying e1, Result.andThen_ok, Option.map_none]
          simp only [Instr.slice, Sem.run_bind, run_underlying e1, Result.andThen_ok, hb, run_sizeOf' e5, Sem.run_pure]
        · cases h
      · rename_i e i e1 e2
        split at h
        · rename_i e' s rows hri
          split at h
          · rename_i n k1 l k2 hh e5 e3 e4
            split at h
            case h_2 => cases h
            cases hsn : Nat.beq s n with
            | false => rw [hsn] at h; simp at h
            | true =>
            rw [hsn] at h
            simp at h; obtain ⟨rfl, rfl⟩ := h
            obtain ⟨h0, h1, h2, h9⟩ := hk _ rfl
            subst h9
            have hr := (look_ok hL hp e2).d_inv
            have hlen : ∃ b cap, a.eval x = .slice b rows.length cap ∧ rows.length ≤ cap := by
              rcases (hI.ok i _ _ hri hr.os_inv).live hr.one with ⟨h3, h4⟩ | ⟨b, o, cp, vs, h3, _, h4, _⟩
              · exact ⟨none, 0, by rw [h3, h4]; rfl, by rw [h4]; simp⟩
              · exact ⟨_, cp, h3, h4⟩
            obtain ⟨b, cap, hform, hcap⟩ := hlen
            have hρ := hr.os_inv
            rw [hform] at hρ
            refine ⟨.slice (if cap = l.toNat then b else b.map (·.add (l.toNat * n))) (hh.toNat - l.toNat) (cap - l.toNat), ?_, ?_⟩
            case refine_2 =>
              by_cases hcl : cap = l.toNat
              · rw [if_pos hcl]
                have := Rd.osb (S := S) (w := w) (lo := l.toNat) (n := hh.toNat - l.toNat) (size := n) (q := 0) hρ (by omega) (by omega) (by omega) (by omega)
                have hb0 : b.map (·.add 0) = b := by cases b <;> simp [add_zero']
                rw [hb0] at this
                exact .d this
              · rw [if_neg hcl]
                exact .d (.osb hρ (by omega) (by omega) (Nat.le_refl _) (fun _ => rfl))
            have hb : (Instr.sliceBounds true rows.length cap (lo.map a.eval) (hi.map a.eval) none).run P w = .ok (l.toNat, hh.toNat, cap) w := by
              unfold Instr.sliceBounds
              cases hi with
              | none =>
                simp only [Option.some.injEq, Value.int.injEq] at e4
                obtain ⟨_, e4⟩ := e4
                subst e4
                cases lo with
                | none =>
                  simp only [Option.some.injEq, Value.int.injEq] at e3
                  obtain ⟨_, e3⟩ := e3
                  subst e3
                  simp
                | some y =>
                  simp only at e3
                  have := run_sliceBound (P := P) (w := w) (k := k1) (n := l) (y := rows.length) (c := .sliceB) h0 (by omega)
                  simp [look_exact hL hp e3, this]
              | some z =>
                simp only at e4
                have g1 := run_sliceBound (P := P) (w := w) (k := k2) (n := hh) (y := cap) (c := .sliceAcap) (by omega) (by omega)
                cases lo with
                | none =>
                  simp only [Option.some.injEq, Value.int.injEq] at e3
                  obtain ⟨_, e3⟩ := e3
                  subst e3
                  simp [look_exact hL hp e4, g1]
                | some y =>
                  simp only at e3
                  have := run_sliceBound (P := P) (w := w) (k := k1) (n := l) (y := hh.toNat) (c := .sliceB) h0 (by omega)
                  simp [look_exact hL hp e3, look_exact hL hp e4, this, g1]
            simp only [execOp, hform, Instr.sliceAt, Sem.run_bind, run_underlying e1, Result.andThen_ok, Option.map_none]
            simp only [Instr.slice, Sem.run_bind, run_underlying e1, Result.andThen_ok, hb, run_sizeOf' e5, Sem.run_pure]
          · cases h
        · cases h
      · rename_i e i o0 n0 s0 e1 e2
        split at h
        · rename_i e' s rows hri
          split at h
          · rename_i n k1 l k2 hh e5 e3 e4
            split at h
            case h_2 => cases h
            cases hsn : (Nat.beq s n && Nat.beq s0 n) with
            | false => rw [hsn] at h; simp at h
            | true =>
            rw [hsn] at h
            simp at h; obtain ⟨rfl, rfl⟩ := h
            simp only [Bool.and_eq_true] at hsn
            have hs0 := Nat.eq_of_beq_eq_true hsn.2
            subst hs0
            obtain ⟨h0, h1, h2, h9⟩ := hk _ rfl
            subst h9
            have hr := (look_ok hL hp e2).d_inv
            generalize hval : a.eval x = xv at hr
            cases hr with
            | @osb _ _ _ _ q ad len cap hρ hl hc hq hq2 =>
              have hlen : len = rows.length ∧ rows.length ≤ cap := by
                rcases (hI.ok i _ _ hri hρ).live rfl with ⟨h3, h4⟩ | ⟨b, o, cp, vs, h3, _, h4, _⟩
                · cases h3; subst h4; exact ⟨rfl, by simp⟩
                · cases h3; exact ⟨rfl, h4⟩
              obtain ⟨hlen, hcap⟩ := hlen
              subst hlen
              have hb := run_bounds (P := P) (w := w) hL hp (len := n0) (cap := cap - o0) e3 e4 h0 h1 (by omega)
              refine ⟨.slice (if cap - o0 = l.toNat then ad.map (·.add q) else (ad.map (·.add q)).map (·.add (l.toNat * s0))) (hh.toNat - l.toNat) (cap - o0 - l.toNat), ?_, ?_⟩
              · simp only [execOp, hval, Instr.sliceAt, Sem.run_bind, run_underlying e1, Result.andThen_ok, Option.map_none]
                simp only [Instr.slice, Sem.run_bind, run_underlying e1, Result.andThen_ok, hb, run_sizeOf' e5, Sem.run_pure]
              · rw [show cap - o0 - l.toNat = cap - (o0 + l.toNat) from by omega]
                by_cases hcl : cap - o0 = l.toNat
                · rw [if_pos hcl]
                  exact .d (.osb hρ (by omega) (by omega) (by rw [Nat.add_mul]; omega) (by omega))
                · rw [if_neg hcl]
                  have hq3 := hq2 (by omega)
                  have : (ad.map (·.add q)).map (·.add (l.toNat * s0)) = ad.map (·.add (q + l.toNat * s0)) := by cases ad <;> simp [add_add]
                  rw [this]
                  exact .d (.osb hρ (by omega) (by omega) (by rw [Nat.add_mul]; omega) (fun _ => by rw [Nat.add_mul, hq3]))
          · cases h
        · cases h
      · rename_i s e1 e2
        split at h
        · rename_i k1 l k2 hh e3 e4
          split at h
          case h_2 => cases h
          simp only [Option.some.injEq, Prod.mk.injEq] at h
          obtain ⟨rfl, rfl⟩ := h
          obtain ⟨h0, h1, h2, h9⟩ := hk _ rfl
          subst h9
          have hx := (look_ok hL hp e2).exact_inv
          have hb : (Instr.sliceBounds false s.size s.size (lo.map a.eval) (hi.map a.eval) none).run P w = .ok (l.toNat, hh.toNat, s.size) w := by
            unfold Instr.sliceBounds
            cases hi with
            | none =>
              simp only [Option.some.injEq, Value.int.injEq] at e4
              obtain ⟨_, e4⟩ := e4
              subst e4
              cases lo with
              | none =>
                simp only [Option.some.injEq, Value.int.injEq] at e3
                obtain ⟨_, e3⟩ := e3
                subst e3
                simp
              | some y =>
                simp only at e3
                have := run_sliceBound (P := P) (w := w) (k := k1) (n := l) (y := s.size) (c := .sliceB) h0 (by omega)
                simp [look_exact hL hp e3, this]
            | some z =>
              simp only at e4
              have g1 := run_sliceBound (P := P) (w := w) (k := k2) (n := hh) (y := s.size) (c := .sliceAlen) (by omega) (by omega)
              cases lo with
              | none =>
                simp only [Option.some.injEq, Value.int.injEq] at e3
                obtain ⟨_, e3⟩ := e3
                subst e3
                simp [look_exact hL hp e4, g1]
              | some y =>
                simp only at e3
                have := run_sliceBound (P := P) (w := w) (k := k1) (n := l) (y := hh.toNat) (c := .sliceB) h0 (by omega)
                simp [look_exact hL hp e3, look_exact hL hp e4, this, g1]
          refine ⟨.string (s.extract l.toNat hh.toNat), ?_, ofV_ok rfl⟩
          simp only [execOp, hx, Instr.sliceAt, Sem.run_bind, run_underlying e1, Result.andThen_ok, Option.map_none]
          simp [Instr.slice, run_underlying e1, hb]
        · cases h
      · rename_i e e1 e2
        split at h
        · rename_i y
          split at h
          · rename_i n k1 e3 e4
            simp only [Option.some.injEq, Prod.mk.injEq] at h; obtain ⟨rfl, rfl⟩ := h
            have hx := (look_ok hL hp e2).exact_inv
            have hy := look_exact hL hp e4
            have g1 := run_sliceBound (P := P) (w := w) (k := k1) (n := 0) (y := 0) (c := .sliceAcap) (by omega) (by omega)
            have hb : (Instr.sliceBounds true 0 0 none (some (a.eval y)) none).run P w = .ok (0, 0, 0) w := by
              unfold Instr.sliceBounds
              rw [hy]
              simp only [Int.toNat_zero] at g1
              simp [g1]
            refine ⟨.slice none 0 0, ?_, .d (.p (.v _ rfl))⟩
            simp only [execOp, hx, Instr.sliceAt, Sem.run_bind, run_underlying e1, Result.andThen_ok, Option.map_none, Option.map_some]
            simp only [Instr.slice, Sem.run_bind, run_underlying e1, Result.andThen_ok, hb, run_sizeOf' e3, Sem.run_pure]
            rfl
          · cases h
        · cases h
      · cases h

  | call kk =>
    obtain ⟨callee, cargs, argTypes⟩ := kk
    cases callee with
    | value f => simp [evPure] at h
    | invoke r m => simp [evPure] at h
    | builtin b =>
      simp only [evPure] at h
      split at h
      · rename_i args e1
        have hargs := lookAll_ok hL hp e1
        have hrun : ∀ x, (builtin b argTypes type (cargs.map fun | .const _ => true | _ => false) (cargs.map a.eval)).run P w = .ok (.value x) w →
            (execOp a.eval ⟨dst, .call ⟨.builtin b, cargs, argTypes⟩, type, pos, after, guard⟩).run P w = .ok (.value x) w := by
          intro x hx
          simp only [execOp, resolve, Sem.run_bind, Sem.run_pure, Result.andThen_ok, invoke]
          exact hx
        have hl : (cargs.map a.eval).toList = cargs.toList.map a.eval := by simp
        have harr : ∀ l, cargs.toList.map a.eval = l → cargs.map a.eval = l.toArray := fun l h => by apply Array.ext'; rw [hl, h]
        split at h
        · rename_i t e2
          split at h
          · rename_i e hu
            obtain ⟨n, hn, he⟩ : ∃ n, evLenS R args = some n ∧ v = ofV (.int .i64 n) := by
              split at h
              · obtain ⟨n, hn, h2⟩ := mapE h
                simp at h2; obtain ⟨rfl, rfl⟩ := h2
                have := hk _ rfl
                have this : n = _ := this
                exact ⟨n, hn, by rw [← this]⟩
              · obtain ⟨n, hn, h2⟩ := mapE h
                simp at h2
                exact ⟨n, hn, h2.1.symm⟩
            subst he
            obtain ⟨b, kx, c, hv, rfl⟩ := evLenS_ok hI hargs hn
            refine ⟨_, hrun _ ?_, ofV_ok rfl⟩
            rw [harr _ hv]
            simp [builtin, Builtin.len_, e2, run_underlying hu, goInt]
          · rename_i hu
            obtain ⟨n, hn, h2⟩ := mapE h
            simp at h2; obtain ⟨rfl, rfl⟩ := h2
            obtain ⟨s, hv, rfl⟩ := evLenT_ok hargs hn
            refine ⟨_, hrun _ ?_, ofV_ok rfl⟩
            rw [harr _ hv]
            simp [builtin, Builtin.len_, e2, run_underlying hu, goInt]
          · cases h
        · rename_i t e2
          split at h
          · rename_i e hu
            simp only [Option.some.injEq, Prod.mk.injEq] at h; obtain ⟨rfl, rfl⟩ := h
            have hv := exactAll_ok (l := [.d (.p (.v (.slice none 0 0)))]) (xs := [.slice none 0 0]) rfl hargs
            refine ⟨_, hrun _ ?_, ofV_ok rfl⟩
            rw [harr _ hv]
            simp [builtin, Builtin.cap_, e2, run_underlying hu, goInt]
          · cases h
        · obtain ⟨n, hn, h2⟩ := mapE h
          simp at h2; obtain ⟨rfl, rfl⟩ := h2
          unfold evMM at hn
          split at hn
          · rename_i x r hx
            have hv := exactAll_ok hx hargs
            split at hn
            · refine ⟨_, hrun _ ?_, ofV_ok rfl⟩
              rw [harr _ hv]
              have := maxI_ok (P := P) (w := w) hn
              simp [builtin, Builtin.max_, this]
            · refine ⟨_, hrun _ ?_, ofV_ok rfl⟩
              rw [harr _ hv]
              have := minI_ok (P := P) (w := w) hn
              simp [builtin, Builtin.min_, this]
            · cases hn
          · cases hn
      · cases h
  | _ => simp [evPure] at h
end
end Go.SL
