/-
  The logic, by hand: a function is walked in segments; between them things that are no cells (maps, iterators) are turned.
-/
import Derived.Sort.LoopGhostIn
import Derived.Test.YtopmfoohdkjgmaaGreatDoorSlZ
import Derived.Maps.Views
import Derived.Maps.OwnSet
import Derived.Maps.RangeWalk
import Derived.Maps.OwnOps
import Derived.DeepKeys5
import Derived.Test.YtopmfoohdkjgmaaGreatDoorSlEX
import Derived.Test.YtopmfoohdkjgmaaGreatDoorChecked
import Derived.StringKeys
set_option linter.unusedVariables false
namespace Go.SL
section
variable {P : Program} {C : Ctx} {ro : Option Nat} {n : Nat} {st st' : St} {R R' : List Res} {a a' : Act} {w w' : World} {Q : Exit → Act → World → Prop}

/-- what lies between two segments -/
def Md (n : Nat) (C : Ctx) (st : St) (R : List Res) (a : Act) (w : World) : Prop :=
  a.defers = [] ∧ a.tmps.size = n ∧ Mid C st C.w.heap.size (fun _ => False) a R w
theorem Md.of (hdf : C.df = []) (h : Sat n C (mkL st) R a w) : Md n C st R a w := by
  obtain ⟨h1, h2, S, ρ, h3, h4⟩ := h
  refine ⟨h1.trans hdf, h2, fun k => S k ∧ (k < C.w.heap.size ∨ ∃ vs t f, w.heap[k]? = some (.cells vs t f)), ρ, h3.trim (fun k hS hc => ⟨hS, .inr hc⟩) (fun _ h => h.1) (fun k hC => ⟨h3.sub k hC, .inl (h3.gl.2.1 k hC).1⟩), fun e he => ?_, fun _ h => h.elim, fun k h => h.2⟩
  obtain ⟨q1, q2⟩ := h4 e he
  exact ⟨fun hp => by obtain ⟨x, hx, hr⟩ := q1 hp; exact ⟨x, hx, hr.trim fun k hS hc => ⟨hS, .inr hc⟩⟩, q2⟩

/-- what a segment keeps -/
structure Kp (w w' : World) : Prop where
  obj : ∀ (k : Nat) (o : Obj), w.heap[k]? = some o → o.isCells = false → w'.heap[k]? = some o
  size : w.heap.size ≤ w'.heap.size
  tp : Tp w w'
theorem Kp.refl (w : World) : Kp w w := ⟨fun _ _ h _ => h, Nat.le_refl _, rfl, fun _ => Nat.le_refl _⟩
theorem Kp.trans {w1 w2 w3 : World} (h : Kp w1 w2) (k : Kp w2 w3) : Kp w1 w3 := ⟨fun j o h1 h2 => k.obj j o (h.obj j o h1 h2) h2, Nat.le_trans h.size k.size, k.tp.trans h.tp⟩

/-- a segment is run -/
theorem Md.run {items : List It} (hm : Md n C st R a w)
    (h : ∀ D : Ctx, D.h = C.h → D.df = [] → Up C D → (∀ st' R' a' w', Sat n D (mkL st') R' a' w' → Md n C st' R' a' w' ∧ Kp w w') → WI ro P n D Q items st R) : Qs ro P items Q .normal a w := by
  obtain ⟨h1, h2, S, ρ, i1, i2, _, i4⟩ := hm
  have hseg := i1.seg C.h i1.pre [] fun d hd => by cases hd
  refine h ⟨w, S, feet ρ R, C.h, []⟩ rfl rfl ⟨fun S' w' ρ' R2 k => i1.trans k k.pre, .inl rfl, Nat.le_refl _⟩ (fun st' R' a' w' hs => ?_) a w ⟨h1, h2, S, ρ, hseg, i2⟩
  obtain ⟨k1, k2, S', ρ', k3, k4⟩ := hs
  have hT := i1.trans k3 k3.pre
  refine ⟨⟨k1, k2, fun k => S' k ∧ (k < C.w.heap.size ∨ ∃ vs t f, w'.heap[k]? = some (.cells vs t f)), ρ', hT.trim (fun k hS hc => ⟨hS, .inr hc⟩) (fun _ h => h.1) (fun k hC => ⟨hT.sub k hC, .inl (i1.gl.2.1 k hC).1⟩), fun e he => ?_, fun _ h => h.elim, fun k h => h.2⟩, fun k o ho hc => ?_, k3.size, k3.tape⟩
  · obtain ⟨q1, q2⟩ := k4 e he
    exact ⟨fun hp => by obtain ⟨x, hx, hr⟩ := q1 hp; exact ⟨x, hx, hr.trim fun k hS hc => ⟨hS, .inr hc⟩⟩, q2⟩
  · refine (k3.frm k (Array.getElem?_eq_some_iff.1 ho).1 fun ⟨i, r, v, g1, g2, g3⟩ => ?_).trans ho
    obtain ⟨vs, t, f, q⟩ := foot_cells (i1.ok i r v g1 g2) g3
    rw [ho] at q; cases q; cases hc

/-- a thing that is no cells turns -/
theorem Md.turn (h : Md n C st R a w) {row : Option Nat} (hg : w.grownBy w' row) (hd : drw = true → w.drawn ≤ w'.drawn) (hr : ∀ r, row = some r → C.w.heap.size ≤ r ∧ ∃ o : Obj, w.heap[r]? = some o ∧ o.isCells = false) : Md n C st R a w' := by
  obtain ⟨h1, h2, S, ρ, i1, i2, _, i4⟩ := h
  obtain ⟨g1, g2, g3⟩ := i1.turn hg hd (Nat.le_refl _) hr i4
  refine ⟨h1, h2, S, ρ, g1, fun e he => ?_, fun _ h => h.elim, g3⟩
  obtain ⟨q1, q2⟩ := i2 e he
  refine ⟨fun hp => ?_, q2⟩
  obtain ⟨x, hx, hrx⟩ := q1 hp
  exact ⟨x, hx, hrx.mono (fun _ h => h) g2 (Pre.refl _)⟩

theorem mkL_mem2 {st : St} {t : Nat} {v : AV} (h : (t, v) ∈ st) : (⟨t, [], v⟩ : Ent) ∈ mkL st := getE_of_mem h
/-- a temporary is set -/
theorem Md.put (h : Md n C st R a w) {t : Nat} (v : Value) (av : AV) (ht : t < n) (hav : ∀ S ρ, RdA S w ρ v av) : Md n C ((t, av) :: st.filter fun x => !(Nat.beq x.1 t)) R (a.put (some t) v) w := by
  obtain ⟨h1, h2, S, ρ, i1, i2, i3, i4⟩ := h
  refine ⟨h1, by simp [Act.put, h2], S, ρ, i1, fun e he => ?_, i3, i4⟩
  rcases List.mem_cons.1 he with rfl | he
  · exact ⟨fun _ => ⟨v, put_same (by rw [h2]; exact ht), hav S ρ⟩, fun hn => absurd pt_nil hn⟩
  · obtain ⟨m1, m2⟩ := mkL_mem he
    rw [List.mem_filter] at m1
    obtain ⟨m3, m4⟩ := m1
    have hne : t ≠ e.t := by
      intro q; subst q; simp at m4
    have he' := mkL_mem2 m3
    obtain ⟨q1, q2⟩ := i2 _ he'
    obtain ⟨x, hx, hr⟩ := q1 pt_nil
    refine ⟨fun _ => ⟨x, by rw [put_get hne]; exact hx, hr⟩, fun hn => absurd (by rw [m2]; exact pt_nil) hn⟩
/-- a temporary is set that nobody asks for -/
theorem Md.put0 (h : Md n C st R a w) {t : Nat} (v : Value) : Md n C (st.filter fun x => !(Nat.beq x.1 t)) R (a.put (some t) v) w := by
  obtain ⟨h1, h2, S, ρ, i1, i2, i3, i4⟩ := h
  refine ⟨h1, by simp [Act.put, h2], S, ρ, i1, fun e he => ?_, i3, i4⟩
  obtain ⟨m1, m2⟩ := mkL_mem he
  rw [List.mem_filter] at m1
  obtain ⟨m3, m4⟩ := m1
  have hne : t ≠ e.t := by
    intro q; subst q; simp at m4
  have he' := mkL_mem2 m3
  obtain ⟨q1, q2⟩ := i2 _ he'
  obtain ⟨x, hx, hr⟩ := q1 pt_nil
  refine ⟨fun _ => ⟨x, by rw [put_get hne]; exact hx, hr⟩, fun hn => absurd (by rw [m2]; exact pt_nil) hn⟩
theorem Md.sub (h : Md n C st R a w) (ts : List Nat) (hs : sel (mkL st) ts = some st') : Md n C st' R a w := by
  obtain ⟨h1, h2, S, ρ, i1, i2, i3, i4⟩ := h
  exact ⟨h1, h2, S, ρ, i1, fun e he => i2 e (sel_mem hs e he), i3, i4⟩
theorem Md.get (h : Md n C st R a w) {t : Nat} {av : AV} (hc : (getE (mkL st) t).map Ent.v = some av) : ∃ v S ρ, a.eval (.tmp t) = v ∧ RdA S w ρ v av ∧ Inv C S w ρ R := by
  obtain ⟨h1, h2, S, ρ, i1, i2, i3, i4⟩ := h
  cases he : getE (mkL st) t with
  | none => rw [he] at hc; cases hc
  | some e =>
    rw [he] at hc
    simp only [Option.map_some, Option.some.injEq] at hc
    obtain ⟨hm, hte⟩ := getE_mem he
    obtain ⟨v, hv, hr⟩ := (i2 e hm).1 (by rw [mkL_flat hm]; exact pt_nil)
    rw [hc] at hr; rw [hte] at hv
    exact ⟨v, S, ρ, by simp [Act.eval, Array.getD_eq_getD_getElem?, hv], hr, i1⟩
theorem Md.exact (h : Md n C st R a w) {t : Nat} {x : Value} (hc : (getE (mkL st) t).map Ent.v = some (.d (.p (.v x)))) : a.eval (.tmp t) = x := by
  obtain ⟨v, S, ρ, h1, h2, _⟩ := h.get hc
  rw [h1]; exact h2.exact_inv

/-! ### regions, operation by operation -/
theorem wpOps0_app {ops : Array Oper} {K : Act → World → Prop} : ∀ {is js : List Nat} {a : Act} {w : World}, wpOps0 P ops (wpOps0 P ops K js) is a w → wpOps0 P ops K (is ++ js) a w
  | [], _, _, _, h => h
  | i :: is, js, a, w, h => by
    show wpOp0 P ops i _ a w
    have hk : ∀ a w, wpOps0 P ops (wpOps0 P ops K js) is a w → wpOps0 P ops K (is ++ js) a w := fun _ _ h => wpOps0_app h
    change wpOp0 P ops i (wpOps0 P ops (wpOps0 P ops K js) is) a w at h
    unfold wpOp0 at h ⊢
    split at h
    · exact hk _ _ h
    · rename_i o ho
      split at h
      · rename_i hw
        simp only [if_pos hw]
        exact ⟨h.1, wpv_mono hk h.2⟩
      · rename_i hw
        simp only [if_neg hw]
        exact hk _ _ h
/-- operations that the reckoning knows -/
def segP (P : Program) (n : Nat) (ops : Array Oper) (is : List Nat) (st : St) (R : List Res) (cls : List Cl) (ts : List Nat) : Option (St × List Res × List Cl) :=
  match evOps P n ops is (mkL st) R cls with
  | some (L, R', cs) => match sel L ts with
    | some st' => some (st', R', cs)
    | none => none
  | none => none
theorem Md.ops {ops : Array Oper} {is js : List Nat} {cls : List Cl} {K : Act → World → Prop} (hm : Md n C st R a w) (ts : List Nat) (st' : St) (R' : List Res) (hok : AllOk P cls) (e : segP P n ops is st R cls ts = some (st', R', cls))
    (hK : ∀ a' w', Md n C st' R' a' w' → Kp w w' → wpOps0 P ops K js a' w') : wpOps0 P ops K (is ++ js) a w := by
  refine wpOps0_app ?_
  obtain ⟨h1, h2, S, ρ, i1, i2, i3, i4⟩ := hm
  have hseg := i1.seg C.h i1.pre [] fun d hd => by cases hd
  unfold segP at e
  split at e
  · rename_i L R1 cs e1
    split at e
    · rename_i s1 e2
      simp only [Option.some.injEq, Prod.mk.injEq] at e
      obtain ⟨rfl, rfl, rfl⟩ := e
      refine evOps_ok (C := ⟨w, S, feet ρ R, C.h, []⟩) e1 hok ⟨h1, h2, S, ρ, hseg, i2⟩ fun a' w' hs => ?_
      obtain ⟨k1, k2, S', ρ', k3, k4⟩ := hs
      have hT := i1.trans k3 k3.pre
      refine hK a' w' ⟨k1, k2, fun k => S' k ∧ (k < C.w.heap.size ∨ ∃ vs t f, w'.heap[k]? = some (.cells vs t f)), ρ', hT.trim (fun k hS hc => ⟨hS, .inr hc⟩) (fun _ h => h.1) (fun k hC => ⟨hT.sub k hC, .inl (i1.gl.2.1 k hC).1⟩), fun e he => ?_, fun _ h => h.elim, fun k h => h.2⟩ ⟨fun k o ho hc => ?_, k3.size, k3.tape⟩
      · obtain ⟨q1, q2⟩ := k4 e (sel_mem e2 e he)
        exact ⟨fun hp => by obtain ⟨x, hx, hr⟩ := q1 hp; exact ⟨x, hx, hr.trim fun k hS hc => ⟨hS, .inr hc⟩⟩, q2⟩
      · refine (k3.frm k (Array.getElem?_eq_some_iff.1 ho).1 fun ⟨i, r, v, g1, g2, g3⟩ => ?_).trans ho
        obtain ⟨vs, t, f, q⟩ := foot_cells (i1.ok i r v g1 g2) g3
        rw [ho] at q; cases q; cases hc
    · cases e
  · cases e
theorem op_value {ops : Array Oper} {K : Act → World → Prop} {i : Nat} {is : List Nat} {o : Oper} (v : Value) (ho : ops[i]? = some o) (hg : o.guard = none) (hd : noDef o) (hr : (execOp a.eval o).run P w = .ok (.value v) w') (hK : wpOps0 P ops K is (a.put o.dst v) w') : wpOps0 P ops K (i :: is) a w := by
  show wpOp0 P ops i _ a w
  unfold wpOp0
  rw [ho]
  simp only
  rw [if_pos (by simp [Region.wanted, hg])]
  exact ⟨hd, wp_value hr hK⟩
theorem op_skip {ops : Array Oper} {K : Act → World → Prop} {i : Nat} {is : List Nat} {o : Oper} (ho : ops[i]? = some o) (hg : o.guard = none) (hd : noDef o) (hr : (execOp a.eval o).run P w = .ok .skip w') (hK : wpOps0 P ops K is (a.put o.dst undef) w') : wpOps0 P ops K (i :: is) a w := by
  show wpOp0 P ops i _ a w
  unfold wpOp0
  rw [ho]
  simp only
  rw [if_pos (by simp [Region.wanted, hg])]
  refine ⟨hd, ?_⟩
  unfold wpv; rw [hr]; exact hK
theorem Qs_reg {id : Nat} {ops : Array Oper} {l : List It} (h : wpOps0 P ops (fun a w => Qs ro P l Q .normal a w) (List.range ops.size) a w) : Qs ro P (.c (.region id ops false) :: l) Q .normal a w :=
  wpIn_region (wpOps0_in (Q := Qs ro P l Q) h)
def isRegI : List It → Bool
  | .c (.region _ _ false) :: _ => true
  | _ => false
def opsI : List It → Array Oper
  | .c (.region _ ops false) :: _ => ops
  | _ => #[]
theorem Qs_regI {items : List It} (hi : isRegI items = true) (is : List Nat) (hr : List.range (opsI items).size = is) (h : wpOps0 P (opsI items) (fun a w => Qs ro P (tlI items) Q .normal a w) is a w) : Qs ro P items Q .normal a w := by
  match items, hi with
  | .c (.region id ops false) :: l, _ => exact Qs_reg (by rw [← hr] at h; exact h)
theorem Qs_blkI {items : List It} (hi : isB items = true) (h : Qs ro P (.c (blkC items) :: .b (blkI items) :: tlI items) Q .normal a w) : Qs ro P items Q .normal a w := by
  match items, hi with
  | .c (.block i x) :: l, _ => exact wpIn_block h
theorem Qs_loopI {items : List It} (hi : isL items = true) (I : Nat → Act → World → Prop) (m : Nat) (h0 : I m a w)
    (round : ∀ m a w, I m a w → Qs ro P (.c (lpC items) :: .k (fun a' w' => ∃ m', m' < m ∧ I m' a' w') :: tlI items) Q .normal a w) : Qs ro P items Q .normal a w := by
  match items, hi with
  | .c (.loop c) :: l, _ => exact wpIn_loop_ghost I m h0 fun m a w hI => round m a w hI
/-- steps that do nothing but choose the way -/
def calmTo (t : Nat) (d : Bool) : Nat → List It → List It
  | 0, items => items
  | k + 1, items => match items with
    | .c .skip :: l => calmTo t d k l
    | .b _ :: l => calmTo t d k l
    | .c (.seq x y) :: l => calmTo t d k (.c x :: .c y :: l)
    | .c (.block i x) :: l => calmTo t d k (.c x :: .b i :: l)
    | .c (.cond _ x y) :: l => calmTo t d k (.c (bif d then x else y) :: l)
    | _ => items
def calmB (t : Nat) (d : Bool) : Nat → List It → Bool
  | 0, _ => true
  | k + 1, items => match items with
    | .c .skip :: l => calmB t d k l
    | .b _ :: l => calmB t d k l
    | .c (.seq x y) :: l => calmB t d k (.c x :: .c y :: l)
    | .c (.block i x) :: l => calmB t d k (.c x :: .b i :: l)
    | .c (.cond (.tmp u) x y) :: l => Nat.beq u t && calmB t d k (.c (bif d then x else y) :: l)
    | _ => false
theorem Qs_calm (t : Nat) (d : Bool) (he : a.eval (.tmp t) = .bool d) : ∀ (k : Nat) {items : List It}, calmB t d k items = true → Qs ro P (calmTo t d k items) Q .normal a w → Qs ro P items Q .normal a w
  | 0, items, _, h => h
  | k + 1, items, hb, h => by
    unfold calmB at hb
    unfold calmTo at h
    split at hb
    · exact wpIn_skip (Qs_calm t d he k hb h)
    · rename_i id l
      exact Qs_calm t d he k (items := l) hb h
    · exact wpIn_seq (Qs_calm t d he k hb h)
    · exact wpIn_block (Qs_calm t d he k hb h)
    · rename_i u x y l
      obtain ⟨h1, h2⟩ := Bool.and_eq_true_iff.1 hb
      have := Nat.eq_of_beq_eq_true h1
      subst this
      cases d with
      | true => exact wpIn_cond_true he (Qs_calm _ true he k h2 h)
      | false => exact wpIn_cond_false he (Qs_calm _ false he k h2 h)
    · cases hb
def isSeqI : List It → Bool
  | .c (.seq _ _) :: _ => true
  | _ => false
def sqI : List It → List It
  | .c (.seq x y) :: l => .c x :: .c y :: l
  | l => l
theorem Qs_seqI {items : List It} (hi : isSeqI items = true) (h : Qs ro P (sqI items) Q .normal a w) : Qs ro P items Q .normal a w := by
  match items, hi with
  | .c (.seq x y) :: l, _ => exact wpIn_seq h
theorem op_val {ops : Array Oper} {K : Act → World → Prop} {i : Nat} {is : List Nat} {d : Option Tmp} {op : Op} (v : Value) (w' : World) (ty : TypeId) (ho : (ops[i]?).map (fun o => (o.dst, o.op, o.type, o.guard)) = some (d, op, ty, none)) (hd : ∀ c, op ≠ .defer c) (hr : ∀ o : Oper, o.op = op → o.type = ty → (execOp a.eval o).run P w = .ok (.value v) w') (hK : wpOps0 P ops K is (a.put d v) w') : wpOps0 P ops K (i :: is) a w := by
  cases hq : ops[i]? with
  | none => rw [hq] at ho; cases ho
  | some o =>
    rw [hq] at ho
    simp only [Option.map_some, Option.some.injEq, Prod.mk.injEq] at ho
    obtain ⟨h1, h2, h4, h3⟩ := ho
    exact op_value v hq h3 (fun c e => hd c (h2 ▸ e)) (hr o h2 h4) (by rw [h1]; exact hK)
theorem op_skp {ops : Array Oper} {K : Act → World → Prop} {i : Nat} {is : List Nat} {d : Option Tmp} {op : Op} (w' : World) (ty : TypeId) (ho : (ops[i]?).map (fun o => (o.dst, o.op, o.type, o.guard)) = some (d, op, ty, none)) (hd : ∀ c, op ≠ .defer c) (hr : ∀ o : Oper, o.op = op → o.type = ty → (execOp a.eval o).run P w = .ok .skip w') (hK : wpOps0 P ops K is (a.put d undef) w') : wpOps0 P ops K (i :: is) a w := by
  cases hq : ops[i]? with
  | none => rw [hq] at ho; cases ho
  | some o =>
    rw [hq] at ho
    simp only [Option.map_some, Option.some.injEq, Prod.mk.injEq] at ho
    obtain ⟨h1, h2, h4, h3⟩ := ho
    exact op_skip hq h3 (fun c e => hd c (h2 ▸ e)) (hr o h2 h4) (by rw [h1]; exact hK)
/-- an empty slice of ours comes -/
theorem Md.push (h : Md n C st R a w) {t e s : Nat} (v : Value) (ht : t < n) (hw : ∀ k, k < w.heap.size → w'.heap[k]? = w.heap[k]?) (hsz : w.heap.size ≤ w'.heap.size) (ho : w'.os = w.os) (hT : Tp w w') (hp : w'.output = w.output)
    (h1 : v.oneCell' = true) (hok : ∀ S, slOk S w' e s [] v) (hf : ∀ b, (Res.sl e s []).foot v b → w.heap.size ≤ b ∧ b < w'.heap.size) : Md n C ((t, .d (.os R.length)) :: st.filter fun x => !(Nat.beq x.1 t)) (R ++ [.sl e s []]) (a.put (some t) v) w' := by
  obtain ⟨g1, g2, S, ρ, i1, i2, i3, i4⟩ := h
  have hI := i1.push (.sl e s []) v hw hsz ho hT hp (.inr (hok S)) hf
  have hS : ∀ k, S k → w'.heap[k]? = w.heap[k]? := fun k hk => hw k (i1.sup k hk).1
  refine ⟨g1, by simp [Act.put, g2], S, _, hI, fun x hx => ?_, i3, fun k hk => ?_⟩
  · rcases List.mem_cons.1 hx with rfl | hx
    · exact ⟨fun _ => ⟨v, put_same (by rw [g2]; exact ht), .d (.os (by rw [← i1.len]; simp) h1)⟩, fun hn => absurd pt_nil hn⟩
    · obtain ⟨m1, m2⟩ := mkL_mem hx
      rw [List.mem_filter] at m1
      obtain ⟨m3, m4⟩ := m1
      have hne : t ≠ x.t := by
        intro q; subst q; simp at m4
      obtain ⟨q1, q2⟩ := i2 _ (mkL_mem2 m3)
      obtain ⟨y, hy, hr⟩ := q1 pt_nil
      exact ⟨fun _ => ⟨y, by rw [put_get hne]; exact hy, hr.mono (fun _ h => h) hS (Pre.append _ _)⟩, fun hn => absurd (by rw [m2]; exact pt_nil) hn⟩
  · rcases i4 k hk with q | q
    · exact .inl q
    · rw [hS k hk]; exact .inr q
/-- a call, by its contract in plain words -/
theorem op_call {ops : Array Oper} {K : Act → World → Prop} {i : Nat} {is : List Nat} {d : Option Tmp} {op : Op} (f : FuncId) (args : Array Value) (ty : TypeId) (ho : (ops[i]?).map (fun o => (o.dst, o.op, o.type, o.guard)) = some (d, op, ty, none)) (hd : ∀ c, op ≠ .defer c) (hr : ∀ o : Oper, o.op = op → o.type = ty → (execOp a.eval o).run P w = .ok (.enter f args) w) (hK : Calls P f args w fun e w' => ∃ v, e = .returned v ∧ wpOps0 P ops K is (a.put d v) w') : wpOps0 P ops K (i :: is) a w := by
  cases hq : ops[i]? with
  | none => rw [hq] at ho; cases ho
  | some o =>
    rw [hq] at ho
    simp only [Option.map_some, Option.some.injEq, Prod.mk.injEq] at ho
    obtain ⟨h1, h2, h4, h3⟩ := ho
    show wpOp0 P ops i _ a w
    unfold wpOp0
    rw [hq]
    simp only
    rw [if_pos (by simp [Region.wanted, h3])]
    refine ⟨fun c e => hd c (h2 ▸ e), ?_⟩
    unfold wpv
    rw [hr o h2 h4]
    refine Calls.mono hK fun e w' ⟨v, hv, hk⟩ => ⟨v, hv, ?_⟩
    rw [h1]; exact hk
theorem run_v {s : Sem Value} {v : Value} (h : s.run P w = .ok v w') : Sem.run P (do pure (Next.value (← s))) w = .ok (Next.value v) w' := by
  rw [Sem.run_bind, h]; rfl
theorem run_u {s : Sem Unit} (h : s.run P w = .ok () w') : Sem.run P (do s; pure Next.skip) w = .ok Next.skip w' := by
  rw [Sem.run_bind, h]; rfl
theorem ask_drawn {α : Type} : ∀ (k : Ask α) (w : World), w.drawn ≤ (w.ask k).2.drawn
  | .done a, w => Nat.le_refl _
  | .ask what range k, w => by
    unfold World.ask
    simp only
    split
    · exact ask_drawn _ w
    · have := ask_drawn (k ((Question.extern what range).cut (w.tape w.drawn (Question.extern what range)))) { w with drawn := w.drawn + 1 }
      exact Nat.le_trans (Nat.le_succ _) this
theorem sys_drawn (w : World) (c : Sys) : w.drawn ≤ (w.sys c).2.drawn := by
  unfold World.sys
  have h := ask_drawn (Kernel.perform c w.os) w
  split
  · exact Nat.le_refl _
  · rename_i r os w1 e
    rw [e] at h; exact h
theorem far_drawn {w w1 : World} {p : Program} {a : Addr} {v : Value} {b : Bool} {l : List Addr} (h : w.farStore p a v b = .ok (w1, l)) : w1.drawn = w.drawn := by
  unfold World.farStore at h
  split at h
  · split at h
    · rename_i r e
      cases h
      unfold World.viewStore at e
      revert e
      simp only [bind, Except.bind, pure, Except.pure]
      intro e
      repeat' split at e
      all_goals (first | (cases e; done) | (cases e; rfl))
    · cases h
  · cases h
/-- runs never take back a draw -/
theorem run_drawn {α : Type} : ∀ (s : Sem α) (w : World) (v : α) (w' : World), s.run P w = .ok v w' → w.drawn ≤ w'.drawn := by
  intro s
  induction s with
  | pure a => intro w v w' h; cases h; exact Nat.le_refl _
  | load m a k ih =>
    intro w v w' h
    simp only [Sem.run] at h
    split at h
    · exact ih _ _ _ _ h
    · split at h
      · exact ih _ _ _ _ h
      · cases h
  | store m a x k ih =>
    intro w v w' h
    have key : (∀ l, x ≠ .agg l) → (∀ l, x ≠ .tuple l) → w.drawn ≤ w'.drawn := fun n1 n2 => by
      have e : Sem.run P (.store m a x k) w = match w.cell? a with
        | some _ => if w.frozen? a then .halt (.unsupported (.unsafePointer "a write to bytes that a string shares")) w else k.run P (w.setCell a x)
        | none => match w.farStore P a x (m == .atomic) with
          | .ok (w, _) => k.run P w
          | .error h => .halt h w := by
        cases x with
        | agg l => exact absurd rfl (n1 l)
        | tuple l => exact absurd rfl (n2 l)
        | _ => rfl
      rw [e] at h
      split at h
      · split at h
        · cases h
        · have := ih _ _ _ h
          exact this
      · split at h
        · rename_i w1 l e2
          have := ih _ _ _ h
          rw [far_drawn e2] at this; exact this
        · cases h
    cases x with
    | agg l => cases h
    | tuple l => cases h
    | _ => exact key (fun _ => nofun) (fun _ => nofun)
  | new o k ih => intro w v w' h; have := ih _ _ _ _ h; exact this
  | shape r k ih => intro w v w' h; exact ih _ _ _ _ h
  | freeze a m k ih =>
    intro w v w' h
    have := ih _ _ _ h
    unfold World.freeze at this
    split at this <;> exact this
  | frozen a k ih => intro w v w' h; exact ih _ _ _ _ h
  | getObj r k ih =>
    intro w v w' h
    simp only [Sem.run] at h
    split at h
    · cases h
    · exact ih _ _ _ _ h
    · cases h
  | setObj r o k ih =>
    intro w v w' h
    simp only [Sem.run] at h
    split at h
    · cases h
    · have := ih _ _ _ h
      exact this
    · cases h
  | choose q k ih =>
    intro w v w' h
    simp only [Sem.run] at h
    split at h
    · exact ih _ _ _ _ h
    · have := ih _ _ _ _ h
      exact Nat.le_trans (Nat.le_succ _) this
  | sys c k ih => intro w v w' h; exact Nat.le_trans (sys_drawn w c) (ih _ _ _ _ h)
  | program k ih => intro w v w' h; exact ih _ _ _ _ h
  | mark m k ih => intro w v w' h; exact ih _ _ _ h
  | halt h0 => intro w v w' h; cases h
end
end Go.SL
set_option linter.unusedVariables false
namespace Go.SL
section
variable {P : Program} {C : Ctx} {n : Nat} {L : List Ent} {st : St} {R R' : List Res} {a a' : Act} {w w' : World}
theorem eval_boolG {t : Nat} {b : Bool} (h : a.eval (.tmp t) = .bool b) : a.tmps[t]? = some (.bool b) := by
  simp only [Act.eval, Array.getD_eq_getD_getElem?] at h
  cases hq : a.tmps[t]? with
  | none => rw [hq] at h; cases h
  | some v => rw [hq] at h; simp only [Option.getD_some] at h; rw [h]
/-- entries, without the tests that they stand behind where these hold -/
def selP (L : List Ent) : List Nat → Option St
  | [] => some []
  | t :: ts => match getE L t with
    | some e => bif e.p.all (fun g => match findL L (.tmp g.1) with
        | some b => b == g.2
        | none => false) then (selP L ts).map ((t, e.v) :: ·) else none
    | none => none
theorem Sat.selP (hs : Sat n C L R a w) : ∀ {ts : List Nat} {st' : St}, selP L ts = some st' → Sat n C (mkL st') R a w := by
  obtain ⟨h1, h2, S, ρ, h3, h4⟩ := hs
  intro ts st' h
  refine ⟨h1, h2, S, ρ, h3, ?_⟩
  induction ts generalizing st' with
  | nil => simp only [Go.SL.selP, Option.some.injEq] at h; subst h; intro e he; cases he
  | cons t ts ih =>
    simp only [Go.SL.selP] at h
    split at h
    · rename_i e0 he0
      generalize hb : (e0.p.all _) = bb at h
      cases bb with
      | false => cases h
      | true =>
        simp only [cond_true, Option.map_eq_some_iff] at h
        obtain ⟨s1, h5, rfl⟩ := h
        intro e he
        rcases List.mem_cons.1 he with rfl | he
        · obtain ⟨hm, hte⟩ := getE_mem he0
          have hp : pt a e0.p := fun g hg => by
            have := (List.all_eq_true.1 hb) g hg
            split at this
            · rename_i b hf
              have hbg : b = g.2 := by simpa using this
              rw [← hbg]
              exact eval_boolG (findL_ok (C := C) ⟨h1, h2, S, ρ, h3, h4⟩ hf)
            · cases this
          obtain ⟨v, hv, hr⟩ := (h4 e0 hm).1 hp
          exact ⟨fun _ => ⟨v, by rw [← hte]; exact hv, hr⟩, fun hn => absurd pt_nil hn⟩
        · exact ih h5 e he
    · cases h
def segQ (P : Program) (n : Nat) (ops : Array Oper) (is : List Nat) (st : St) (R : List Res) (cls : List Cl) (ts : List Nat) : Option (St × List Res × List Cl) :=
  match evOps P n ops is (mkL st) R cls with
  | some (L, R', cs) => match selP L ts with
    | some st' => some (st', R', cs)
    | none => none
  | none => none
theorem Md.opsP {ops : Array Oper} {is js : List Nat} {cls : List Cl} {K : Act → World → Prop} (hm : Md n C st R a w) (ts : List Nat) (st' : St) (R' : List Res) (hok : AllOk P cls) (e : segQ P n ops is st R cls ts = some (st', R', cls))
    (hK : ∀ a' w', Md n C st' R' a' w' → Kp w w' → wpOps0 P ops K js a' w') : wpOps0 P ops K (is ++ js) a w := by
  refine wpOps0_app ?_
  obtain ⟨h1, h2, S, ρ, i1, i2, i3, i4⟩ := hm
  have hseg := i1.seg C.h i1.pre [] fun d hd => by cases hd
  unfold segQ at e
  split at e
  · rename_i L R1 cs e1
    split at e
    · rename_i s1 e2
      simp only [Option.some.injEq, Prod.mk.injEq] at e
      obtain ⟨rfl, rfl, rfl⟩ := e
      refine evOps_ok (C := ⟨w, S, feet ρ R, C.h, []⟩) e1 hok ⟨h1, h2, S, ρ, hseg, i2⟩ fun a' w' hs => ?_
      obtain ⟨k1, k2, S', ρ', k3, k4⟩ := hs.selP e2
      have hT := i1.trans k3 k3.pre
      refine hK a' w' ⟨k1, k2, fun k => S' k ∧ (k < C.w.heap.size ∨ ∃ vs t f, w'.heap[k]? = some (.cells vs t f)), ρ', hT.trim (fun k hS hc => ⟨hS, .inr hc⟩) (fun _ h => h.1) (fun k hC => ⟨hT.sub k hC, .inl (i1.gl.2.1 k hC).1⟩), fun e he => ?_, fun _ h => h.elim, fun k h => h.2⟩ ⟨fun k o ho hc => ?_, k3.size, k3.tape⟩
      · obtain ⟨q1, q2⟩ := k4 e he
        exact ⟨fun hp => by obtain ⟨x, hx, hr⟩ := q1 hp; exact ⟨x, hx, hr.trim fun k hS hc => ⟨hS, .inr hc⟩⟩, q2⟩
      · refine (k3.frm k (Array.getElem?_eq_some_iff.1 ho).1 fun ⟨i, r, v, g1, g2, g3⟩ => ?_).trans ho
        obtain ⟨vs, t, f, q⟩ := foot_cells (i1.ok i r v g1 g2) g3
        rw [ho] at q; cases q; cases hc
    · cases e
  · cases e
theorem op_valG {ops : Array Oper} {K : Act → World → Prop} {i : Nat} {is : List Nat} {d : Option Tmp} {op : Op} (v : Value) (w' : World) (ty : TypeId) (j t : Nat) (b : Bool) (ho : (ops[i]?).map (fun o => (o.dst, o.op, o.type, o.guard)) = some (d, op, ty, some (j, b)))
    (hj : (ops[j]?).bind (·.dst) = some t) (hb : a.eval (.tmp t) = .bool b) (hd : ∀ c, op ≠ .defer c) (hr : ∀ o : Oper, o.op = op → o.type = ty → (execOp a.eval o).run P w = .ok (.value v) w') (hK : wpOps0 P ops K is (a.put d v) w') : wpOps0 P ops K (i :: is) a w := by
  cases hq : ops[i]? with
  | none => rw [hq] at ho; cases ho
  | some o =>
    rw [hq] at ho
    simp only [Option.map_some, Option.some.injEq, Prod.mk.injEq] at ho
    obtain ⟨h1, h2, h4, h3⟩ := ho
    show wpOp0 P ops i _ a w
    unfold wpOp0
    rw [hq]
    simp only
    rw [if_pos (by
      unfold Region.wanted yielded
      rw [h3]
      simp only [hj, Option.bind_some, eval_boolG hb]
      cases b <;> simp)]
    exact ⟨fun c e => hd c (h2 ▸ e), wp_value (hr o h2 h4) (by rw [h1]; exact hK)⟩
end
end Go.SL
set_option linter.unusedVariables false
set_option linter.unusedSimpArgs false
namespace Go.Proofs.YtopmfoohdkjgmaaGreatDoor
open Go Go.RowKit Go.SL Go.Maps Go.WideMaps Go.WideShapes

theorem mixedD : Tryz.prog.follows .mixedOrders = true := by kernel_rfl
theorem laidOutK : laidOutB Tryz.prog = true := by kernel_rfl
theorem ptLaw : Keyed Tryz.prog 129 := Keyed.of_law (deep_law_gate laidOutK (by decide +kernel) (by decide +kernel) (by kernel_rfl) (by kernel_rfl))
def nilM (k : TypeId) (w : World) (b : Nat) : Prop := w.ownsMap Tryz.prog k (plainElem (H := Unit) Tryz.prog 4) b 0 (.map [])
theorem nilM.kp {k : TypeId} {w w' : World} {b : Nat} (h : nilM k w b) (q : Kp w w') : nilM k w' b := by
  obtain ⟨es, clock, h1, h2⟩ := h
  exact ⟨es, clock, q.obj _ _ h1 rfl, h2⟩
def nilR (w : World) (b q c : Nat) : Prop := ∃ left, w.ranges Tryz.prog 129 (plainElem (H := Unit) Tryz.prog 4) b q 0 (.map []) left c ∧ ∀ kl, left kl = false
theorem nilR.kp {w w' : World} {b q c : Nat} (h : nilR w b q c) (k : Kp w w') : nilR w' b q c := by
  obtain ⟨left, ⟨es, clock, since, sn, c0, h1, h2, h3, h4, h5, h6⟩, h7⟩ := h
  exact ⟨left, ⟨es, clock, since, sn, c0, k.obj _ _ h1 rfl, h2, h3, h4, k.obj _ _ h5 rfl, h6⟩, h7⟩

def lvF : List Nat := [1, 2, 4, 5, 6, 7, 9, 10, 11, 14, 22, 30, 34, 35, 36, 37, 43, 51, 53]
def mpV (b : Nat) : AV := .d (.p (.v (.map (some b))))
def itV (q : Nat) : AV := .d (.p (.v (.pointer (some ⟨q, 0, none⟩))))
def dnl : List D := [.p (.s []), .p (.s []), .p (.s [])]
def stA (b : Nat) : St := [(2, .d (.o 0 0)), (5, mpV b), (6, .d (.os 1))]
def RA : List Res := [.box 80 dnl, .sl 129 2 []]
def stR (q : Nat) : St := [(10, .d (.os 1)), (51, itV q)]
set_option maxRecDepth 100000 in
theorem fallsK0 : CallOk Tryz.prog 207 [.agg dnl, .d (.p (.s []))] [] (.d (.p (.s []))) [] := by
  refine callOk_of 63 Tryz.func207 rfl rfl rfl fun C hC => ?_
  refine WI_stop (bs := [(false, false)]) mixedD lvF 8 [false] [.call 48 [.agg dnl] [] (.d (.p (.v (.int .i64 0)))) [] []] [] 0 [0] [(1, .d (.p (.s []))), (2, .d (.o 0 0))] [.box 80 dnl] hC ⟨exNone mixedD false (by kernel_rfl), trivial⟩ ⟨rfl, trivial⟩ (by kernel_rfl) ?_
  intro a w hs
  have hm := Md.of rfl hs
  refine Qs_regI (by kernel_rfl) [0, 1] (by kernel_rfl) ?_
  refine op_val (d := some 17) (op := .makeMap 483 none) (.map (some w.heap.size)) (w.alloc (.map #[] 0)) 483 (by kernel_rfl) nofun (fun o ho _ => ?_) ?_
  · obtain ⟨o1, o2, o3, o4, o5, o6⟩ := o
    simp only at ho; subst ho
    exact run_v rfl
  refine op_val (d := some 5) (op := .assign (.tmp 17)) (.map (some w.heap.size)) (w.alloc (.map #[] 0)) 483 (by kernel_rfl) nofun (fun o ho _ => ?_) ?_
  · obtain ⟨o1, o2, o3, o4, o5, o6⟩ := o
    simp only at ho; subst ho
    have : (a.put (some 17) (Value.map (some w.heap.size))).eval (.tmp 17) = .map (some w.heap.size) := by
      simp [Act.eval, Act.put, Array.getD_eq_getD_getElem?, hm.2.1]
    show Sem.run Tryz.prog (pure (Next.value ((a.put (some 17) (Value.map (some w.heap.size))).eval (.tmp 17)))) _ = _
    rw [this]; rfl
  have hset : nilM 129 (w.alloc (.map #[] 0)) w.heap.size := World.ownsMap_made w _ _ _
  obtain ⟨b, hbd⟩ : ∃ b, b = w.heap.size := ⟨_, rfl⟩
  rw [← hbd] at hset ⊢
  have hm1 := ((hm.turn (World.grownBy_alloc w (.map #[] 0) none) (fun _ => Nat.le_refl _) (fun r e => by cases e)).put (t := 17) (.map (some b)) (mpV b) (by decide) (fun _ _ => .d (.p (.v _ rfl)))).put (t := 5) (.map (some b)) (mpV b) (by decide) (fun _ _ => .d (.p (.v _ rfl)))
  have hm2 := hm1.sub (st' := [(1, .d (.p (.s []))), (2, .d (.o 0 0)), (5, mpV b)]) [1, 2, 5] (by kernel_rfl)
  clear hm hm1 hs
  generalize hw1 : w.alloc (.map #[] 0) = w1 at hset hm2 ⊢
  clear hw1
  refine hm2.run fun D hDh hDd hup hback => ?_
  refine WI_stop (bs := []) mixedD lvF 3 [] [.call 178 [.d (.p (.s []))] [] (.d (.os 0)) [.sl 129 2 []] []] [] 0 [0, 1] (stA b) RA (by rw [hDh]; exact hC) ⟨exNone mixedD false (by kernel_rfl), trivial⟩ trivial (by kernel_rfl) ?_
  intro a3 w3 hs3
  obtain ⟨hm3, hk3⟩ := hback _ _ _ _ hs3
  have hset3 := hset.kp hk3
  clear hback hup hs3 hm2 hset hk3
  refine Qs_blkI (by kernel_rfl) ?_
  refine Qs_loopI (by kernel_rfl) (fun _ a w => nilM 129 w b ∧ Md 63 C.z (stA b) RA a w) 0 ⟨hset3, hm3⟩ ?_
  clear hset3 hm3 a3 w3 w1
  rintro m a w ⟨hset, hm⟩
  refine hm.run fun D hDh hDd hup hback => ?_
  refine WI_stop (bs := [(false, false)]) mixedD lvF 9 [false] [] [.own 10 129 2] 0 [0, 2] [(5, mpV b), (10, .d (.os 1))] RA (by rw [hDh]; exact hC) trivial ⟨rfl, trivial⟩ (by kernel_rfl) ?_
  intro a4 w4 hs4
  obtain ⟨hm4, hk4⟩ := hback _ _ _ _ hs4
  have hset4 := hset.kp hk4
  clear hback hup hs4 hk4 hset hm
  refine Qs_regI (by kernel_rfl) [0, 1] (by kernel_rfl) ?_
  refine hm4.ops (is := [0]) (js := [1]) (cls := []) [10, 50] [(10, .d (.os 1)), (50, mpV b)] RA trivial (by kernel_rfl) fun a5 w5 hm5 hk5 => ?_
  have e50 : a5.eval (.tmp 50) = .map (some b) := hm5.exact rfl
  obtain ⟨w6, hr6, hrg, hg6, hz6⟩ := (hset4.kp hk5).range ptLaw Tryz.underlying483
  have hrg6 : nilR w6 b w5.heap.size (Maps.size (DataW.map (H := Unit) [])) := ⟨_, hrg, fun kl => rfl⟩
  refine op_val (d := some 51) (op := .range 483 (.tmp 50)) (.pointer (some ⟨w5.heap.size, 0, none⟩)) w6 0 (by kernel_rfl) nofun (fun o ho _ => ?_) ?_
  · obtain ⟨o1, o2, o3, o4, o5, o6⟩ := o
    simp only at ho; subst ho
    show Sem.run _ (do pure (Next.value (← Instr.range 483 (a5.eval (.tmp 50))))) _ = _
    rw [e50]; exact run_v hr6
  have hm6 := ((hm5.turn hg6 (fun _ => run_drawn _ _ _ _ hr6) (fun r e => by cases e)).put (t := 51) _ (itV w5.heap.size) (by decide) (fun _ _ => .d (.p (.v _ rfl)))).sub (st' := stR w5.heap.size) [10, 51] (by kernel_rfl)
  generalize w5.heap.size = q at hrg6 hm6 ⊢
  clear hset4 hm4 hm5 hk5 e50 hr6 hg6 hz6 hrg
  refine Qs_blkI (by kernel_rfl) ?_
  refine Qs_loopI (by kernel_rfl) (fun _ a w => (∃ c, nilR w b q c) ∧ Md 63 C.z (stR q) RA a w) 0 ⟨⟨_, hrg6⟩, hm6⟩ ?_
  clear hrg6 hm6
  rintro c a w ⟨⟨c, hrg⟩, hm⟩
  refine hm.run fun D hDh hDd hup hback => ?_
  refine WI_stop (bs := []) mixedD lvF 1 [] [] [] 0 [0, 1] (stR q) RA (by rw [hDh]; exact hC) trivial trivial (by kernel_rfl) ?_
  intro a1 w1 hs1
  obtain ⟨hm1, hk1⟩ := hback _ _ _ _ hs1
  have hrg1 := hrg.kp hk1
  clear hback hup hs1 hk1 hrg hm
  have e51 : a1.eval (.tmp 51) = .pointer (some ⟨q, 0, none⟩) := hm1.exact rfl
  refine Qs_regI (by kernel_rfl) [0, 1] (by kernel_rfl) ?_
  obtain ⟨left, hrg2, hleft⟩ := hrg1
  rcases hrg2.next ptLaw 0 with ⟨hc0, hall, hrn⟩ | ⟨key, v, kl, y, w', cnt', k1, k2, _⟩
  · refine op_val (d := some 52) (op := .next (.tmp 51) false) (.tuple #[.bool false]) w1 0 (by kernel_rfl) nofun (fun o ho ht => ?_) ?_
    · obtain ⟨o1, o2, o3, o4, o5, o6⟩ := o
      simp only at ho ht; subst ho ht
      show Sem.run _ (do pure (Next.value (← Instr.next (a1.eval (.tmp 51)) false 0))) _ = _
      rw [e51]; exact run_v hrn
    refine op_val (d := some 53) (op := .extract (.tmp 52) 0) (.bool false) w1 4 (by kernel_rfl) nofun (fun o ho ht => ?_) ?_
    · obtain ⟨o1, o2, o3, o4, o5, o6⟩ := o
      simp only at ho; subst ho
      have : (a1.put (some 52) (Value.tuple #[.bool false])).eval (.tmp 52) = .tuple #[.bool false] := by
        simp [Act.eval, Act.put, Array.getD_eq_getD_getElem?, hm1.2.1]
      show Sem.run _ (do pure (Next.value (← Instr.extract ((a1.put (some 52) (Value.tuple #[.bool false])).eval (.tmp 52)) 0))) _ = _
      rw [this]; exact run_v rfl
    have hm2 := ((hm1.put0 (t := 52) (.tuple #[.bool false])).put (t := 53) (.bool false) (.d (.p (.v (.bool false)))) (by decide) (fun _ _ => .d (.p (.v _ rfl)))).sub (st' := [(10, .d (.os 1)), (53, .d (.p (.v (.bool false))))]) [10, 53] (by kernel_rfl)
    refine hm2.run fun D hDh hDd hup hback => ?_
    exact WI_retM (bs := [(false, false)]) mixedD lvF 9 [false] [.call 335 [.d (.os 0), .d (.fn (.func 150) [] [])] [.sl 129 2 []] (.tup []) [.sl 129 2 []] [1]] [.frz 1] [.tmp 4] 0 [] rfl (by rw [hDh]; exact hC) ⟨exNone mixedD false (by kernel_rfl), trivial⟩ ⟨rfl, trivial⟩ (by kernel_rfl) hup
  · rw [hleft kl] at k2; cases k2
end Go.Proofs.YtopmfoohdkjgmaaGreatDoor
set_option linter.unusedVariables false
set_option linter.unusedSimpArgs false
namespace Go.Proofs.YtopmfoohdkjgmaaGreatDoor
open Go Go.RowKit Go.SL Go.Maps Go.WideMaps Go.WideShapes
def lvD : List Nat := [0, 1, 2, 3, 4, 5, 6, 8, 18, 21, 22, 23, 24, 57, 62, 63, 64, 65, 75]
def nmV : Value := .string ⟨#[115, 97]⟩
def sg1 : List Pd := [.v nmV, xi 1, xi 1, .s []]
def sgD : List D := [.p (.s [sg1])]
def stC (b : Nat) : St := [(1, .d (.o 0 0)), (3, mpV b), (4, .d (.p (xi 0))), (5, .d (.o 1 0)), (21, .d (.p (.s [sg1]))), (22, .d (.p (xi 1))), (23, .d (.p (xi 0)))]
def RC : List Res := [.box 92 sgD, .box 281 (sg1.map D.p)]
set_option maxRecDepth 100000 in
theorem dcheckK : CallOk Tryz.prog 56 [.agg sgD] [] (.d (.p (xi 0))) [] := by
  refine callOk_of 79 Tryz.func56 rfl rfl rfl fun C hC => ?_
  refine WI_stop (bs := [(false, false)]) mixedD lvD 8 [false] [] [] 0 [0] [(1, .d (.o 0 0))] [.box 92 sgD] hC trivial ⟨rfl, trivial⟩ (by kernel_rfl) ?_
  intro a w hs
  have hm := Md.of rfl hs
  refine Qs_regI (by kernel_rfl) [0, 1] (by kernel_rfl) ?_
  refine op_val (d := some 19) (op := .makeMap 279 none) (.map (some w.heap.size)) (w.alloc (.map #[] 0)) 279 (by kernel_rfl) nofun (fun o ho _ => ?_) ?_
  · obtain ⟨o1, o2, o3, o4, o5, o6⟩ := o
    simp only at ho; subst ho
    exact run_v rfl
  refine op_val (d := some 3) (op := .assign (.tmp 19)) (.map (some w.heap.size)) (w.alloc (.map #[] 0)) 279 (by kernel_rfl) nofun (fun o ho _ => ?_) ?_
  · obtain ⟨o1, o2, o3, o4, o5, o6⟩ := o
    simp only at ho; subst ho
    have : (a.put (some 19) (Value.map (some w.heap.size))).eval (.tmp 19) = .map (some w.heap.size) := by
      simp [Act.eval, Act.put, Array.getD_eq_getD_getElem?, hm.2.1]
    show Sem.run Tryz.prog (pure (Next.value ((a.put (some 19) (Value.map (some w.heap.size))).eval (.tmp 19)))) _ = _
    rw [this]; rfl
  have hset : nilM 9 (w.alloc (.map #[] 0)) w.heap.size := World.ownsMap_made w _ _ _
  have hCb : C.z.w.heap.size ≤ w.heap.size := by
    obtain ⟨_, _, S, ρ, i1, _⟩ := hm
    exact i1.size
  obtain ⟨b, hbd⟩ : ∃ b, b = w.heap.size := ⟨_, rfl⟩
  rw [← hbd] at hset hCb ⊢
  have hm1 := ((hm.turn (World.grownBy_alloc w (.map #[] 0) none) (fun _ => Nat.le_refl _) (fun r e => by cases e)).put (t := 19) (.map (some b)) (mpV b) (by decide) (fun _ _ => .d (.p (.v _ rfl)))).put (t := 3) (.map (some b)) (mpV b) (by decide) (fun _ _ => .d (.p (.v _ rfl)))
  have hm2 := hm1.sub (st' := [(1, .d (.o 0 0)), (3, mpV b)]) [1, 3] (by kernel_rfl)
  clear hm hm1 hs
  generalize hw1 : w.alloc (.map #[] 0) = w1 at hset hm2 ⊢
  clear hw1
  refine hm2.run fun D hDh hDd hup hback => ?_
  refine WI_stop (bs := [(true, true)]) mixedD lvD 16 [true, true, true] [.row [sg1] 0 sg1] [] 0 [0, 1] (stC b) RC (by rw [hDh]; exact hC) ⟨⟨by decide, rfl⟩, trivial⟩ ⟨rfl, trivial⟩ (by kernel_rfl) ?_
  intro a3 w3 hs3
  obtain ⟨hm3, hk3⟩ := hback _ _ _ _ hs3
  have hset3 := hset.kp hk3
  clear hback hup hs3 hm2 hset hk3
  -- the name is looked for
  refine Qs_regI (by kernel_rfl) [0, 1, 2, 3, 4, 5, 6, 7, 8, 9, 10, 11, 12, 13, 14, 15, 16, 17, 18, 19, 20, 21, 22, 23, 24, 25, 26, 27, 28, 29] (by kernel_rfl) ?_
  refine hm3.opsP (is := [0, 1, 2, 3, 4, 5, 6, 7]) (js := [8, 9, 10, 11, 12, 13, 14, 15, 16, 17, 18, 19, 20, 21, 22, 23, 24, 25, 26, 27, 28, 29]) (cls := [.call 139 [.d (.p (.v nmV))] [] (.d (.p (xb true))) [] []]) [1, 3, 4, 5, 21, 22, 23, 32, 33, 35] (stC b ++ [(32, .d (.p (xb false))), (33, mpV b), (35, .d (.p (.v nmV)))]) RC ⟨exNone mixedD false (by kernel_rfl), trivial⟩ (by kernel_rfl) fun a4 w4 hm4 hk4 => ?_
  have hset4 := hset3.kp hk4
  have e32 : a4.eval (.tmp 32) = .bool false := hm4.exact rfl
  have e33 : a4.eval (.tmp 33) = .map (some b) := hm4.exact rfl
  have e35 : a4.eval (.tmp 35) = nmV := hm4.exact rfl
  have hz : (zeroValue 4).run Tryz.prog w4 = .ok (.bool false) w4 := run_zeroValue' (by kernel_rfl)
  have hkey : keyOf Tryz.prog 9 nmV = some (.string [115, 97]) := keyOf_string_mk Tryz.underlying9 (by decide)
  have hK := string_keyed Tryz.underlying9
  obtain ⟨v, ps, hr4, hv4⟩ := hset4.lookup hK Tryz.underlying279 hz (plainElem_bool Tryz.underlying4 false) hkey
  have hv4 : v = .bool false := by
    have hv5 : plainElem (H := Unit) Tryz.prog 4 v = some (.lit (.bool false), ps) := hv4
    unfold plainElem at hv5
    rw [Tryz.underlying4] at hv5
    split at hv5
    · simp only [Option.some.injEq, Prod.mk.injEq, DataW.lit.injEq, Lit.bool.injEq] at hv5
      rw [hv5.1]
    · rename_i h1; cases h1
    · rename_i h1; cases h1
    · cases hv5
  subst hv4
  refine op_valG (d := some 36) (op := .lookup 279 (.tmp 33) (.tmp 35) false) (.bool false) w4 4 4 32 false (by kernel_rfl) (by kernel_rfl) e32 nofun (fun o ho _ => ?_) ?_
  · obtain ⟨o1, o2, o3, o4, o5, o6⟩ := o
    simp only at ho; subst ho
    show Sem.run _ (do pure (Next.value (← Instr.lookup 279 (a4.eval (.tmp 33)) (a4.eval (.tmp 35)) false))) _ = _
    rw [e33, e35]; exact run_v hr4
  have hm5 := (hm4.put (t := 36) (.bool false) (.d (.p (xb false))) (by decide) (fun _ _ => .d (.p (.v _ rfl)))).sub (st' := stC b ++ [(32, .d (.p (xb false))), (36, .d (.p (xb false)))]) [1, 3, 4, 5, 21, 22, 23, 32, 36] (by kernel_rfl)
  refine hm5.opsP (is := [9, 10, 11, 12, 13, 14, 15, 16, 17, 18, 19, 20, 21, 22, 23, 24, 25, 26, 27, 28, 29]) (js := []) (cls := []) [1, 3, 4, 5, 21, 22, 23, 57] (stC b ++ [(57, .d (.p (xb false)))]) RC trivial (by kernel_rfl) fun a6 w6 hm6 hk6 => ?_
  have hset6 := hset4.kp hk6
  clear hm5 hk6 hset4 e32 e33 e35 hm4 hk4 hset3 hm3 hz hr4
  show Qs none Tryz.prog _ _ .normal a6 w6
  refine hm6.run fun D hDh hDd hup hback => ?_
  refine WI_stop (bs := [(false, false)]) mixedD lvD 3 [false] [] [] 0 [0, 1] (stC b) RC (by rw [hDh]; exact hC) trivial ⟨rfl, trivial⟩ (by kernel_rfl) ?_
  intro a7 w7 hs7
  obtain ⟨hm7, hk7⟩ := hback _ _ _ _ hs7
  have hset7 := hset6.kp hk7
  clear hback hup hs7 hm6 hset6 hk7
  refine Qs_regI (by kernel_rfl) [0, 1, 2, 3] (by kernel_rfl) ?_
  refine hm7.opsP (is := [0, 1, 2]) (js := [3]) (cls := []) [1, 4, 5, 21, 22, 23, 58, 60] [(1, .d (.o 0 0)), (4, .d (.p (xi 0))), (5, .d (.o 1 0)), (21, .d (.p (.s [sg1]))), (22, .d (.p (xi 1))), (23, .d (.p (xi 0))), (58, mpV b), (60, .d (.p (.v nmV)))] RC trivial (by kernel_rfl) fun a8 w8 hm8 hk8 => ?_
  have hset8 := hset7.kp hk8
  have e58 : a8.eval (.tmp 58) = .map (some b) := hm8.exact rfl
  have e60 : a8.eval (.tmp 60) = nmV := hm8.exact rfl
  obtain ⟨w9, hr9, _, hg9⟩ := hset8.update hK Tryz.underlying279 (by decide) hkey (plainElem_bool Tryz.underlying4 true)
  have hlt : ∃ o : Obj, w8.heap[b]? = some o ∧ o.isCells = false := by
    obtain ⟨es, clock, h1, _⟩ := hset8
    exact ⟨_, h1, rfl⟩
  refine op_skp (d := none) (op := .mapUpdate 279 (.tmp 58) (.tmp 60) (.const (.bool true))) w9 0 (by kernel_rfl) nofun (fun o ho _ => ?_) ?_
  · obtain ⟨o1, o2, o3, o4, o5, o6⟩ := o
    simp only at ho; subst ho
    show Sem.run _ (do Instr.mapUpdate 279 (a8.eval (.tmp 58)) (a8.eval (.tmp 60)) (a8.eval (.const (.bool true))); pure Next.skip) _ = _
    rw [e58, e60]; exact run_u hr9
  have hm9 := hm8.turn hg9 (fun _ => run_drawn _ _ _ _ hr9) (fun r e => by cases e; exact ⟨hCb, hlt⟩)
  refine hm9.run fun D hDh hDd hup hback => ?_
  exact WI_retM (bs := [(false, false), (false, false)]) mixedD lvD 80 [true, true, false, false] [] [] [.tmp 2] 0 [] rfl (by rw [hDh]; exact hC) trivial ⟨rfl, rfl, trivial⟩ (by kernel_rfl) hup
end Go.Proofs.YtopmfoohdkjgmaaGreatDoor
set_option linter.unusedVariables false
set_option linter.unusedSimpArgs false
namespace Go.Proofs.YtopmfoohdkjgmaaGreatDoor
open Go Go.RowKit Go.SL
def zr : List (List Pd) := List.replicate 12 [xi 0]
def zs : List D := List.replicate 12 (.p (xi 0))
def lvW : List Nat := [0, 1, 2, 3, 4, 12]
theorem zs_val {S : Nat → Prop} {w : World} {ρ : List Value} : ∀ {n : Nat} {vs : List Value}, All2 (Rd S w ρ) vs (List.replicate n (.p (xi 0))) → vs = List.replicate n (.int .i64 0)
  | 0, [], _ => rfl
  | n + 1, v :: vs, h => by
    rw [List.replicate_succ] at h
    rw [h.1.p_inv.v_form, zs_val h.2]
    rfl
  | 0, _ :: _, h => h.elim
  | n + 1, [], h => by rw [List.replicate_succ] at h; exact h.elim
theorem zr_val {S : Nat → Prop} {w : World} : ∀ {n : Nat} {vs : List Value}, All2 (RdP S w) vs (List.replicate n (xi 0)) → vs = List.replicate n (.int .i64 0)
  | 0, [], _ => rfl
  | n + 1, v :: vs, h => by
    rw [List.replicate_succ] at h
    rw [h.1.v_form, zr_val h.2]
    rfl
  | 0, _ :: _, h => h.elim
  | n + 1, [], h => by rw [List.replicate_succ] at h; exact h.elim
set_option maxRecDepth 100000 in
theorem wreadK : CallOk Tryz.prog 268 [.d (.p (.s zr))] [] (.tup [.agg zs, .d (.p (xb true))]) [] := by
  refine callOk_of 18 Tryz.func268 rfl rfl rfl fun C hC => ?_
  refine WI_stop (bs := [(false, false)]) mixedD lvW 10 [false] [.when [(false, false)] (.call 293 [.d (.p (xi 1000)), .d (.p (.s zr))] [] (.d (.p (xb true))) [] [])] [] 0 [0, 1] [(0, .d (.p (.s zr))), (2, .d (.o 0 0)), (4, .d (.o 1 0))] [.box 263 zs, .box 263 zs] hC ⟨fun _ => exNone mixedD false (by kernel_rfl), trivial⟩ ⟨rfl, trivial⟩ (by kernel_rfl) ?_
  intro a w hs
  have hm := Md.of rfl hs
  obtain ⟨h1, h2, S, ρ, i1, i2, _, _⟩ := id hm
  obtain ⟨v0, e0, r0⟩ := (i2 _ (getE_of_mem (u := 0) (x := .d (.p (.s zr))) (by simp))).1 pt_nil
  obtain ⟨v4, e4, r4⟩ := (i2 _ (getE_of_mem (u := 4) (x := .d (.o 1 0)) (by simp))).1 pt_nil
  obtain ⟨b, hv4, hρ⟩ := r4.d_inv.o_inv
  subst hv4
  obtain ⟨vs, hvs, hvc⟩ := box_cells i1 (i := 1) (t := 263) (cells := zs) rfl hρ
  have hvl := zs_val (n := 12) hvc
  obtain ⟨b2, c2, news, hform, hfc, hall⟩ := src_first (P := Tryz.prog) (size := 1) (m := 12) i1 r0 (rows := zr) rfl (by decide) (by decide)
  have hfc := hfc w fun _ => rfl
  have hform : v0 = .slice b2 12 c2 := hform
  subst hform
  have hnl : news.toList = List.replicate 12 (.int .i64 0) := zr_val (n := 12) hall
  have ev : ∀ {a' : Act} {t : Nat} {v : Value}, a'.tmps[t]? = some v → a'.eval (.tmp t) = v := fun h => by simp [Act.eval, Array.getD_eq_getD_getElem?, h]
  have hst : (storeCells ⟨b, 0, none⟩ news.toList 0).run Tryz.prog w = .ok () w := by
    have := run_storeCells' (P := Tryz.prog) (o := 0) (vs := news.toList) (Blk.of hvs) (by rw [hnl]; have := congrArg List.length hvl; simp at this ⊢; omega) (by rw [hnl]; intro v hv; rw [List.eq_of_mem_replicate hv]; rfl)
    rw [this]
    congr 1
    have hq : (vs.toList.take 0 ++ news.toList ++ vs.toList.drop (0 + news.toList.length)).toArray = vs := by
      apply Array.ext'
      rw [hnl, ← hvl]
      simp
    rw [hq]
    exact setRow_self w b vs 263 (0, 0) hvs
  refine Qs_regI (by kernel_rfl) [0, 1, 2] (by kernel_rfl) ?_
  refine op_val (d := some 14) (op := .slice 263 (.tmp 4) none none none) (.slice (some ⟨b, 0, none⟩) 12 12) w 22 (by kernel_rfl) nofun (fun o ho _ => ?_) ?_
  · obtain ⟨o1, o2, o3, o4, o5, o6⟩ := o
    simp only at ho; subst ho
    show Sem.run _ (do pure (Next.value (← Instr.sliceAt 263 (a.eval (.tmp 4)) none none none))) _ = _
    rw [ev e4]
    refine run_v ?_
    simp [Instr.sliceAt, run_underlying Tryz.underlying263, Instr.sureAddr, Instr.sliceBounds, Tryz.sizeOf3, add_zero']
  refine op_val (d := some 15) (op := .move (.tmp 0)) (.slice b2 12 c2) w 22 (by kernel_rfl) nofun (fun o ho _ => ?_) ?_
  · obtain ⟨o1, o2, o3, o4, o5, o6⟩ := o
    simp only at ho; subst ho
    have : (a.put (some 14) (.slice (some ⟨b, 0, none⟩) 12 12)).eval (.tmp 0) = .slice b2 12 c2 := ev (by rw [put_get (by decide)]; exact e0)
    show Sem.run Tryz.prog (pure (Next.value ((a.put (some 14) (.slice (some ⟨b, 0, none⟩) 12 12)).eval (.tmp 0)))) _ = _
    rw [this]; rfl
  refine op_val (d := some 16) (op := .call { callee := .builtin .copy, args := #[.tmp 14, .tmp 15], argTypes := #[22, 22] }) (.int .i64 12) w 3 (by kernel_rfl) nofun (fun o ho _ => ?_) ?_
  · obtain ⟨o1, o2, o3, o4, o5, o6⟩ := o
    simp only at ho; subst ho
    have g14 : ((a.put (some 14) (.slice (some ⟨b, 0, none⟩) 12 12)).put (some 15) (.slice b2 12 c2)).eval (.tmp 14) = .slice (some ⟨b, 0, none⟩) 12 12 := ev (by rw [put_get (by decide)]; exact put_same (by rw [h2]; decide))
    have g15 : ((a.put (some 14) (.slice (some ⟨b, 0, none⟩) 12 12)).put (some 15) (.slice b2 12 c2)).eval (.tmp 15) = .slice b2 12 c2 := ev (put_same (by simp [Act.put, h2]))
    simp only [execOp, resolve, Sem.run_bind, Sem.run_pure, Result.andThen_ok, invoke, builtin]
    simp [g14, g15, Builtin.copy_, run_underlying Tryz.underlying22, Builtin.lenOf, Tryz.sizeOf3, hfc, hst, goInt, zr]
  have hm1 := (((hm.put0 (t := 14) (.slice (some ⟨b, 0, none⟩) 12 12)).put0 (t := 15) (.slice b2 12 c2)).put0 (t := 16) (.int .i64 12)).sub (st' := [(2, .d (.o 0 0)), (4, .d (.o 1 0))]) [2, 4] (by kernel_rfl)
  show Qs none Tryz.prog _ _ .normal _ w
  refine hm1.run fun D hDh hDd hup hback => ?_
  exact WI_retM (bs := []) mixedD lvW 20 [] [] [] [.cell 2 263, .tmp 3] 0 [] rfl (by rw [hDh]; exact hC) trivial trivial (by kernel_rfl) hup
end Go.Proofs.YtopmfoohdkjgmaaGreatDoor
