/-
  The logic, twenty-first part: a whole way through the code, reckoned at once.
-/
import Derived.Test.YtopmfoohdkjgmaaGreatDoorSlTD
namespace Go.SL

/-- what is still to be done: code, the end of a block, a cut -/
inductive It where
  | c (x : Code)
  | b (id : Nat)
  | k (K : Act → World → Prop)
  | l (x : Code) (m : Nat)

def Qs (ro : Option Nat) (P : Program) : List It → (Exit → Act → World → Prop) → Exit → Act → World → Prop
  | [], Q => Q
  | .c x :: l, Q => Exit.then (x.wpIn (FR ro) 0 P (Qs ro P l Q)) (Qs ro P l Q)
  | .b id :: l, Q => Exit.inBlock id (Qs ro P l Q)
  | .k K :: l, Q => Exit.then K (Qs ro P l Q)
  | .l x m :: l, Q => Exit.then (Code.roundsIn (FR ro) 0 P x (Qs ro P l Q) m) (Qs ro P l Q)

def WI (ro : Option Nat) (P : Program) (n : Nat) (C : Ctx) (Q : Exit → Act → World → Prop) (l : List It) (st : St) (R : List Res) : Prop :=
  ∀ a w, Sat n C (mkL st) R a w → Qs ro P l Q .normal a w

def unw (id : Nat) : List It → Option (List It)
  | [] => none
  | .c _ :: l => unw id l
  | .k _ :: l => unw id l
  | .l _ _ :: l => unw id l
  | .b id' :: l => bif Nat.beq id' id then some l else unw id l

inductive Leaf where
  | ret
  | stop

/-- entries that are kept behind a region -/
def keepL (lv : List Nat) : List Ent → List Ent
  | [] => []
  | e :: r => bif e.p.isEmpty && memN lv e.t then e :: keepL lv r else keepL lv r

def isAlloc (o : Oper) : Bool :=
  match o.op with
  | .alloc _ => true
  | .makeSlice .. => true
  | _ => false
def fltsOf (ops : Array Oper) : List Cl → Option (List Res)
  | .flts l :: _ => bif ops.toList.any isAlloc then some l else none
  | _ => none
def regL (P : Program) (n : Nat) (ops : Array Oper) (draw : Bool) (L : List Ent) (R : List Res) (cls : List Cl) (lv : List Nat) : Option (List Ent × List Res × List Cl) :=
  match draw with
  | false => match evOps P n ops (List.range ops.size) L R cls with
    | some (L', R', cs) => some (keepL lv L', R', cs)
    | none => none
  | true => match fltsOf ops cls with
    | some fl => match recs P n ops (List.range ops.size) L (R ++ fl) cls.tail with
      | some (rs, L', R', cs) => bif anyOk ops L rs && flOk R.length (R.length + fl.length) rs then some (keepL lv L', R', .flts fl :: cs) else none
      | none => none
    | none => match recs P n ops (List.range ops.size) L R cls with
      | some (rs, L', R', cs) => bif anyOk ops L rs && flOk 0 0 rs then some (keepL lv L', R', cs) else none
      | none => none

def findL (L : List Ent) (c : Operand) : Option Bool :=
  match c with
  | .const (.bool b) => some b
  | .tmp t => match getE L t with
    | some e => bif e.p.isEmpty then boolV e.v else none
    | none => none
  | _ => none

def isLp : Code → Bool
  | .loop _ => true
  | _ => false

/-- a way through the code: 'ds' says which way each test goes -/
def runP (P : Program) (n : Nat) (lv : List Nat) : Nat → List It → List Ent → List Res → List Bool → List Cl → Option (Leaf × List Ent × List Res × List Cl × List (Bool × Bool))
  | 0, _, L, R, _, _ => some (.stop, L, R, [], [])
  | fuel + 1, items, L, R, ds, cls => match items with
    | [] => some (.stop, L, R, [], [])
    | .k _ :: _ => some (.stop, L, R, [], [])
    | .b _ :: l => runP P n lv fuel l L R ds cls
    | .l x m :: l => match m with
      | 0 => none
      | m + 1 => runP P n lv fuel (.c x :: .l x m :: l) L R ds cls
    | .c x :: l => match x with
      | .skip => runP P n lv fuel l L R ds cls
      | .seq a b => runP P n lv fuel (.c a :: .c b :: l) L R ds cls
      | .region _ ops draw => match regL P n ops draw L R cls lv with
        | some (L', R', cs) => match runP P n lv fuel l L' R' ds (cls.drop cs.length) with
          | some (lf, L2, R2, cs2, bs) => some (lf, L2, R2, cs ++ cs2, bs)
          | none => none
        | none => none
      | .cond c x y => match ds with
        | [] => some (.stop, L, R, [], [])
        | d :: ds => match findL L c with
          | some b => match runP P n lv fuel ((match d with | true => .c x | false => .c y) :: l) L R ds cls with
            | some (lf, L2, R2, cs2, bs) => some (lf, L2, R2, cs2, (b, d) :: bs)
            | none => none
          | none => none
      | .block id c => match isLp c, ds with
        | true, [] => some (.stop, L, R, [], [])
        | true, _ :: ds => runP P n lv fuel (.c c :: .b id :: l) L R ds cls
        | false, ds => runP P n lv fuel (.c c :: .b id :: l) L R ds cls
      | .exit id => match unw id l with
        | some l' => runP P n lv fuel l' L R ds cls
        | none => none
      | .ret => some (.ret, L, R, [], [])
      | .loop x => match ds with
        | [] => some (.stop, L, R, [], [])
        | _ :: ds => runP P n lv fuel (.c x :: .l x 1000 :: l) L R ds cls
      | _ => some (.stop, L, R, [], [])

/-- where such a way stops -/
def skipTo : Nat → List It → List Bool → List It
  | 0, items, _ => items
  | fuel + 1, items, ds => match items with
    | [] => []
    | .k K :: l => .k K :: l
    | .b _ :: l => skipTo fuel l ds
    | .l x m :: l => match m with
      | 0 => .l x 0 :: l
      | m + 1 => skipTo fuel (.c x :: .l x m :: l) ds
    | .c x :: l => match x with
      | .skip => skipTo fuel l ds
      | .seq a b => skipTo fuel (.c a :: .c b :: l) ds
      | .region _ _ _ => skipTo fuel l ds
      | .cond c x y => match ds with
        | [] => .c (.cond c x y) :: l
        | d :: ds => skipTo fuel ((match d with | true => .c x | false => .c y) :: l) ds
      | .block id c => match isLp c, ds with
        | true, [] => .c (.block id c) :: l
        | true, _ :: ds => skipTo fuel (.c c :: .b id :: l) ds
        | false, ds => skipTo fuel (.c c :: .b id :: l) ds
      | .exit id => match unw id l with
        | some l' => skipTo fuel l' ds
        | none => .c (.exit id) :: l
      | .loop x => match ds with
        | [] => .c (.loop x) :: l
        | _ :: ds => skipTo fuel (.c x :: .l x 1000 :: l) ds
      | y => .c y :: l

section
variable {ro : Option Nat} {P : Program} {n : Nat} {C : Ctx} {Q : Exit → Act → World → Prop} {st st' : St} {R R' : List Res} {L L' : List Ent} {S S' : Nat → Prop} {w w' : World} {ρ ρ' : List Value} {a : Act} {lv : List Nat}

theorem Qs_ret : ∀ {l : List It}, Q .ret a w → Qs ro P l Q .ret a w
  | [], h => h
  | .c _ :: l, h => Qs_ret (l := l) h
  | .b _ :: l, h => Qs_ret (l := l) h
  | .k _ :: l, h => Qs_ret (l := l) h
  | .l _ _ :: l, h => Qs_ret (l := l) h

theorem unw_ok {id : Nat} : ∀ {l l' : List It}, unw id l = some l' → Qs ro P l' Q .normal a w → Qs ro P l Q (.exit id) a w
  | [], l', h, _ => by simp [unw] at h
  | .c _ :: l, l', h, hq => unw_ok (l := l) h hq
  | .k _ :: l, l', h, hq => unw_ok (l := l) h hq
  | .l _ _ :: l, l', h, hq => unw_ok (l := l) h hq
  | .b id' :: l, l', h, hq => by
    simp only [unw] at h
    show (if id = id' then Qs ro P l Q .normal a w else Qs ro P l Q (.exit id) a w)
    cases hb : Nat.beq id' id with
    | true =>
      rw [hb] at h
      simp at h; subst h
      rw [if_pos (Nat.eq_of_beq_eq_true hb).symm]
      exact hq
    | false =>
      rw [hb] at h
      simp only [cond_false] at h
      have : ¬ (id = id') := by rintro rfl; simp at hb
      rw [if_neg this]
      exact unw_ok h hq

theorem keepL_mem : ∀ {L : List Ent} {e : Ent}, e ∈ keepL lv L → e ∈ L ∧ e.p = []
  | [], e, h => by cases h
  | x :: r, e, h => by
    simp only [keepL] at h
    cases hb : (x.p.isEmpty && memN lv x.t) with
    | true =>
      rw [hb] at h
      simp only [cond_true] at h
      rcases List.mem_cons.1 h with rfl | h
      · simp only [Bool.and_eq_true, List.isEmpty_iff] at hb
        exact ⟨List.mem_cons_self, hb.1⟩
      · exact ⟨List.mem_cons_of_mem _ (keepL_mem h).1, (keepL_mem h).2⟩
    | false =>
      rw [hb] at h
      simp only [cond_false] at h
      exact ⟨List.mem_cons_of_mem _ (keepL_mem h).1, (keepL_mem h).2⟩

theorem Sat.drew {L : List Ent} (hs : Sat n C L R a w) : Sat n C L R a w.drew := by
  obtain ⟨h1, h2, S, ρ, h3, h4⟩ := hs
  refine ⟨h1, h2, S, ρ, h3.drew, fun e he => ?_⟩
  obtain ⟨k1, k2⟩ := h4 e he
  refine ⟨fun hp => ?_, k2⟩
  obtain ⟨v, hv, hr⟩ := k1 hp
  exact ⟨v, hv, hr.mono (fun _ h => h) (fun _ _ => rfl) (Pre.refl _)⟩

theorem reg_any {ops : Array Oper} {fl : List Res} {cls cs : List Cl} {rs : List Rec} {lo hi : Nat} (hs : Sat n C L R a w) (e1 : recs P n ops (List.range ops.size) L (R ++ fl) cls = some (rs, L', R', cs)) (hok : AllOk P cs)
    (hb : anyOk ops L rs = true) (hr : ∀ i, i ∈ flIdx rs → R.length ≤ i ∧ i < R.length + fl.length) (hfl : flOk lo hi rs = true) (hK : ∀ a w, Sat n C L' R' a w → Q .normal a w) :
    wpAnyIn (FR ro) 0 P .any ops Q ops.size (Array.replicate ops.size false) a w.drew := by
  obtain ⟨c1, c2⟩ := recs_chain e1 hok
  obtain ⟨h1, h2, S, ρ, h3, h4⟩ := hs.drew
  have hnd : noDup (flIdx rs) = true := by unfold flOk at hfl; simp only [Bool.and_eq_true] at hfl; exact hfl.1
  have hCl : C.h.length ≤ ρ.length := by
    rcases Nat.lt_or_ge ρ.length C.h.length with hlt | hge
    · have := h3.pre _ _ (List.getElem?_eq_getElem hlt)
      have := (List.getElem?_eq_some_iff.1 this).1
      omega
    · exact hge
  have hF : FlOk C rs := ⟨flIdx_inj hnd, fun r i hrs hfi => by have := (hr i (flIdx_mem hrs hfi)).1; rw [h3.len] at hCl; omega⟩
  obtain ⟨ρ', h5, h6, h7⟩ := h3.dummies fl
  refine any_ok (C := C) c1 c2 (anyOk_spec hb) hF hK ops.size _ a _ (by simp) ?_ ?_ ⟨h1, h2, S, ρ', ?_, fun e he => ?_, fun r i hrs hfi _ => ?_⟩
  · unfold unl
    refine Nat.le_trans (List.length_filter_le _ _) (by simp)
  · intro j o hj
    simp only [Array.getD_eq_getD_getElem?, Array.getElem?_replicate] at hj
    split at hj <;> simp at hj
  · have : curR (fun i => (Array.replicate ops.size false).getD i false) (R ++ fl) rs = R ++ fl := curR_none fun r _ _ => by
      simp only [Array.getD_eq_getD_getElem?, Array.getElem?_replicate]
      split <;> simp
    rw [this]; exact h5
  · rcases he with ⟨g1, _⟩ | ⟨r, _, g2, _⟩
    · obtain ⟨k1, k2⟩ := h4 e g1
      refine ⟨fun hp => ?_, k2⟩
      obtain ⟨v, hv, hr⟩ := k1 hp
      exact ⟨v, hv, hr.mono (fun _ h => h) (fun _ _ => rfl) h6⟩
    · simp only [Array.getD_eq_getD_getElem?, Array.getElem?_replicate] at g2
      split at g2 <;> simp at g2
  · obtain ⟨m1, m2⟩ := hr i (flIdx_mem hrs hfi)
    exact h7 i m1 m2

theorem regL_ok {id : Nat} {ops : Array Oper} {draw : Bool} {cls cs : List Cl} (hm : P.follows .mixedOrders = true) (h : regL P n ops draw L R cls lv = some (L', R', cs)) (hok : AllOk P cs)
    (hs : Sat n C L R a w) (hK : ∀ a w, Sat n C L' R' a w → Q .normal a w) : (Code.region id ops draw).wpIn (FR ro) 0 P Q a w := by
  cases draw with
  | false =>
    refine wpIn_region ?_
    simp only [regL] at h
    split at h
    · rename_i L1 R1 cs1 e1
      simp at h
      obtain ⟨rfl, rfl, rfl⟩ := h
      exact wpOps0_in (evOps_ok e1 hok hs fun a' w' h' => hK a' w' (h'.sub fun e he => (keepL_mem he).1))
    · cases h
  | true =>
    refine wpIn_region_any hm ?_
    simp only [regL] at h
    split at h
    · rename_i fl _
      split at h
      · rename_i rs L1 R1 cs1 e1
        cases hb : (anyOk ops L rs && flOk R.length (R.length + fl.length) rs) with
        | false => rw [hb] at h; simp at h
        | true =>
          rw [hb] at h
          simp at h
          obtain ⟨rfl, rfl, rfl⟩ := h
          simp only [Bool.and_eq_true] at hb
          refine reg_any (fl := fl) hs e1 hok.2 hb.1 (fun i hi => ?_) hb.2 fun a' w' h' => hK a' w' (h'.sub fun e he => (keepL_mem he).1)
          have := (List.all_eq_true.1 (by unfold flOk at hb; simp only [Bool.and_eq_true] at hb; exact hb.2.2)) i hi
          simp only [Bool.and_eq_true] at this
          exact ⟨Nat.le_of_ble_eq_true this.1, by have := this.2; simpa [Nat.blt_eq] using this⟩
      · cases h
    · split at h
      · rename_i rs L1 R1 cs1 e1
        cases hb : (anyOk ops L rs && flOk 0 0 rs) with
        | false => rw [hb] at h; simp at h
        | true =>
          rw [hb] at h
          simp at h
          obtain ⟨rfl, rfl, rfl⟩ := h
          simp only [Bool.and_eq_true] at hb
          refine reg_any (fl := []) (lo := 0) (hi := 0) hs (by simpa using e1) hok hb.1 (fun i hi => ?_) hb.2 fun a' w' h' => hK a' w' (h'.sub fun e he => (keepL_mem he).1)
          have := (List.all_eq_true.1 (by unfold flOk at hb; simp only [Bool.and_eq_true] at hb; exact hb.2.2)) i hi
          simp [Nat.blt_eq] at this
      · cases h

theorem findL_ok {c : Operand} {b : Bool} (hs : Sat n C L R a w) (hc : findL L c = some b) : a.eval c = .bool b := by
  obtain ⟨_, _, S, ρ, _, h4⟩ := hs
  unfold findL at hc
  split at hc
  · simp at hc; subst hc; rfl
  · rename_i t
    split at hc
    · rename_i e he
      cases hp : e.p.isEmpty with
      | false => rw [hp] at hc; simp at hc
      | true =>
        rw [hp] at hc
        simp only [cond_true] at hc
        have := (ent_bool h4 he hc).1 (by rw [List.isEmpty_iff.1 hp]; exact pt_nil)
        simp [Act.eval, Array.getD_eq_getD_getElem?, this]
    · cases hc
  · cases hc

theorem AllOk.append_left : ∀ {l m : List Cl}, AllOk P (l ++ m) → AllOk P l
  | [], _, _ => trivial
  | _ :: _, _, h => ⟨h.1, AllOk.append_left h.2⟩
theorem AllOk.append_right : ∀ {l m : List Cl}, AllOk P (l ++ m) → AllOk P m
  | [], _, h => h
  | _ :: l, _, h => AllOk.append_right (l := l) h.2

/-- what is owed where a way ends -/
def LeafOk (ro : Option Nat) (P : Program) (n : Nat) (C : Ctx) (Q : Exit → Act → World → Prop) (lf : Leaf) (L : List Ent) (R : List Res) (its : List It) : Prop :=
  match lf with
  | .ret => ∀ a w, Sat n C L R a w → Q .ret a w
  | .stop => ∀ a w, Sat n C L R a w → Qs ro P its Q .normal a w

theorem runP_ok (hm : P.follows .mixedOrders = true) : ∀ {fuel : Nat} {items : List It} {L : List Ent} {R : List Res} {ds : List Bool} {cls : List Cl} {lf : Leaf} {L' : List Ent} {R' : List Res} {cs : List Cl} {bs : List (Bool × Bool)} {a : Act} {w : World},
    runP P n lv fuel items L R ds cls = some (lf, L', R', cs, bs) → AllOk P cs → AllEq bs → Sat n C L R a w →
    LeafOk ro P n C Q lf L' R' (skipTo fuel items ds) → Qs ro P items Q .normal a w := by
  intro fuel
  induction fuel with
  | zero =>
    intro items L R ds cls lf L' R' cs bs a w h hok hbs hs hK
    simp only [runP, Option.some.injEq, Prod.mk.injEq] at h
    obtain ⟨rfl, rfl, rfl, rfl, rfl⟩ := h
    simp only [skipTo] at hK
    exact hK a w hs
  | succ fuel ih =>
    intro items L R ds cls lf L' R' cs bs a w h hok hbs hs hK
    have stop : ∀ {items}, skipTo (fuel + 1) items ds = items → some (Leaf.stop, L, R, ([] : List Cl), ([] : List (Bool × Bool))) = some (lf, L', R', cs, bs) →
        LeafOk ro P n C Q lf L' R' (skipTo (fuel + 1) items ds) → Qs ro P items Q .normal a w := by
      intro items hsk h hK
      simp only [Option.some.injEq, Prod.mk.injEq] at h
      obtain ⟨rfl, rfl, rfl, rfl, rfl⟩ := h
      rw [hsk] at hK
      exact hK a w hs
    cases items with
    | nil => exact stop rfl h hK
    | cons it l =>
      cases it with
      | k K => exact stop rfl h hK
      | b id => exact ih (items := l) h hok hbs hs hK
      | l x m =>
        cases m with
        | zero => simp [runP] at h
        | succ m => exact ih (items := .c x :: .l x m :: l) h hok hbs hs hK
      | c x =>
        cases x with
        | skip => exact wpIn_skip (ih (items := l) h hok hbs hs hK)
        | seq x y => exact wpIn_seq (ih (items := .c x :: .c y :: l) h hok hbs hs hK)
        | region id ops draw =>
          simp only [runP] at h
          split at h
          · rename_i L1 R1 cs1 e1
            split at h
            · rename_i lf2 L2 R2 cs2 bs2 e2
              simp only [Option.some.injEq, Prod.mk.injEq] at h
              obtain ⟨rfl, rfl, rfl, rfl, rfl⟩ := h
              exact regL_ok hm e1 (AllOk.append_left hok) hs fun a' w' hs' => ih (items := l) e2 (AllOk.append_right hok) hbs hs' hK
            · cases h
          · cases h
        | cond c x y =>
          cases ds with
          | nil => exact stop rfl h hK
          | cons d ds =>
            simp only [runP] at h
            split at h
            · rename_i b hb
              split at h
              · rename_i lf2 L2 R2 cs2 bs2 e2
                simp only [Option.some.injEq, Prod.mk.injEq] at h
                obtain ⟨rfl, rfl, rfl, rfl, rfl⟩ := h
                have he := findL_ok hs hb
                have hd : b = d := hbs.1
                subst hd
                cases b with
                | true => exact wpIn_cond_true he (ih (items := .c x :: l) e2 hok hbs.2 hs hK)
                | false => exact wpIn_cond_false he (ih (items := .c y :: l) e2 hok hbs.2 hs hK)
              · cases h
            · cases h
        | block id c =>
          cases hl : isLp c with
          | true =>
            cases ds with
            | nil =>
              simp only [runP, hl] at h
              exact stop (by simp only [skipTo, hl]) h hK
            | cons d ds =>
              simp only [runP, hl] at h
              simp only [skipTo, hl] at hK
              exact wpIn_block (ih (items := .c c :: .b id :: l) h hok hbs hs hK)
          | false =>
            simp only [runP, hl] at h
            simp only [skipTo, hl] at hK
            exact wpIn_block (ih (items := .c c :: .b id :: l) h hok hbs hs hK)
        | exit id =>
          simp only [runP] at h
          split at h
          · rename_i l' hl'
            have hK' : LeafOk ro P n C Q lf L' R' (skipTo fuel l' ds) := by
              cases lf with
              | ret => exact hK
              | stop =>
                intro a w h2
                have := hK a w h2
                simp only [skipTo, hl'] at this
                exact this
            exact wpIn_exit (unw_ok hl' (ih (items := l') h hok hbs hs hK'))
          · cases h
        | ret =>
          simp only [runP, Option.some.injEq, Prod.mk.injEq] at h
          obtain ⟨rfl, rfl, rfl, rfl, rfl⟩ := h
          exact wpIn_ret (Qs_ret (l := l) (hK a w hs))
        | loop c =>
          cases ds with
          | nil => exact stop rfl h hK
          | cons d ds => exact wpIn_loop_rounds 1001 (ih (items := .c c :: .l c 1000 :: l) h hok hbs hs hK)
        | rangeFunc f ps x y => exact stop rfl h hK
        | scope c => exact stop rfl h hK
        | label c => exact stop rfl h hK
        | goto c => exact stop rfl h hK
        | refuse c => exact stop rfl h hK

/-! ### what is done behind the way: freezing, owning, choosing -/
inductive Adj where
  | frz (i : Nat)
  | own (t e size : Nat)
  | mv (i : Nat)
  | ownb (i j e size : Nat)
  | ownt (t j e size : Nat)
  | deep (i : Nat) (tys : List (TypeId × Nat))
  | flat (i : Nat)
  | trunc (t : Nat)
  | emp (i : Nat)
  | vsl (i : Nat)
  | bx (i : Nat)
def adjAll : List Adj → St → List Res → Option (St × List Res)
  | [], st, R => some (st, R)
  | .frz i :: l, st, R => match frzSt i st R with
    | some (st', R') => adjAll l st' R'
    | none => none
  | .own t e s :: l, st, R => match ownSt t e s st R with
    | some (st', R') => adjAll l st' R'
    | none => none
  | .mv i :: l, st, R => match mvSt i st R with
    | some (st', R') => adjAll l st' R'
    | none => none
  | .ownb i j e s :: l, st, R => match ownbSt i j e s st R with
    | some (st', R') => adjAll l st' R'
    | none => none
  | .ownt t j e s :: l, st, R => match owntSt t j e s st R with
    | some (st', R') => adjAll l st' R'
    | none => none
  | .deep i tys :: l, st, R => match deepSt i tys st R with
    | some (st', R') => adjAll l st' R'
    | none => none
  | .flat i :: l, st, R => match flatSt i st R with
    | some (st', R') => adjAll l st' R'
    | none => none
  | .trunc t :: l, st, R => match truncSt t st R with
    | some (st', R') => adjAll l st' R'
    | none => none
  | .emp i :: l, st, R => match empSt i st R with
    | some (st', R') => adjAll l st' R'
    | none => none
  | .vsl i :: l, st, R => match vslSt i st R with
    | some (st', R') => adjAll l st' R'
    | none => none
  | .bx i :: l, st, R => match bxSt i st R with
    | some (st', R') => adjAll l st' R'
    | none => none

theorem Sat.adj : ∀ {l : List Adj} {st : St} {R : List Res} {st' : St} {R' : List Res}, adjAll l st R = some (st', R') → Sat n C (mkL st) R a w → Sat n C (mkL st') R' a w
  | [], st, R, st', R', h, hs => by
    simp only [adjAll, Option.some.injEq, Prod.mk.injEq] at h
    obtain ⟨rfl, rfl⟩ := h
    exact hs
  | .frz i :: l, st, R, st', R', h, hs => by
    simp only [adjAll] at h
    split at h
    · rename_i s1 R1 e1
      exact Sat.adj h (hs.frz e1)
    · cases h
  | .own t e s :: l, st, R, st', R', h, hs => by
    simp only [adjAll] at h
    split at h
    · rename_i s1 R1 e1
      exact Sat.adj h (hs.own e1)
    · cases h
  | .mv i :: l, st, R, st', R', h, hs => by
    simp only [adjAll] at h
    split at h
    · rename_i s1 R1 e1
      exact Sat.adj h (hs.mv e1)
    · cases h
  | .ownb i j e s :: l, st, R, st', R', h, hs => by
    simp only [adjAll] at h
    split at h
    · rename_i s1 R1 e1
      exact Sat.adj h (hs.ownb e1)
    · cases h
  | .ownt t j e s :: l, st, R, st', R', h, hs => by
    simp only [adjAll] at h
    split at h
    · rename_i s1 R1 e1
      exact Sat.adj h (hs.ownt e1)
    · cases h
  | .deep i tys :: l, st, R, st', R', h, hs => by
    simp only [adjAll] at h
    split at h
    · rename_i s1 R1 e1
      exact Sat.adj h (hs.deep e1)
    · cases h
  | .flat i :: l, st, R, st', R', h, hs => by
    simp only [adjAll] at h
    split at h
    · rename_i s1 R1 e1
      exact Sat.adj h (hs.flat e1)
    · cases h
  | .trunc t :: l, st, R, st', R', h, hs => by
    simp only [adjAll] at h
    split at h
    · rename_i s1 R1 e1
      exact Sat.adj h (hs.trunc e1)
    · cases h
  | .emp i :: l, st, R, st', R', h, hs => by
    simp only [adjAll] at h
    split at h
    · rename_i s1 R1 e1
      exact Sat.adj h (hs.emp e1)
    · cases h
  | .vsl i :: l, st, R, st', R', h, hs => by
    simp only [adjAll] at h
    split at h
    · rename_i s1 R1 e1
      exact Sat.adj h (hs.vsl e1)
    · cases h
  | .bx i :: l, st, R, st', R', h, hs => by
    simp only [adjAll] at h
    split at h
    · rename_i s1 R1 e1
      exact Sat.adj h (hs.bx e1)
    · cases h

def toSt : List Ent → St
  | [] => []
  | e :: r => bif e.p.isEmpty then (e.t, e.v) :: toSt r else toSt r
theorem toSt_mem : ∀ {L : List Ent} {e : Ent}, e ∈ mkL (toSt L) → e ∈ L
  | [], e, h => by cases h
  | x :: r, e, h => by
    simp only [toSt] at h
    cases hb : x.p.isEmpty with
    | true =>
      rw [hb] at h
      simp only [cond_true] at h
      rcases List.mem_cons.1 h with rfl | h
      · have : (⟨x.t, [], x.v⟩ : Ent) = x := by
          obtain ⟨xt, xp, xv⟩ := x
          simp at hb ⊢
          exact hb
        rw [this]; exact List.mem_cons_self
      · exact List.mem_cons_of_mem _ (toSt_mem h)
    | false =>
      rw [hb] at h
      exact List.mem_cons_of_mem _ (toSt_mem h)

/-- a way to a return -/
def wayRet (P : Program) (n : Nat) (lv : List Nat) (fuel : Nat) (items : List It) (st : St) (R : List Res) (ds : List Bool) (cls : List Cl) (adj : List Adj) (results : List ResultVar) (k : Nat) (pi : List Nat) : Option (AV × List Res × List Cl × List (Bool × Bool)) :=
  match runP P n lv fuel items (mkL st) R ds cls with
  | some (.ret, L, R1, cs, bs) => match adjAll adj (toSt L) R1 with
    | some (st2, R2) => match retRun P results k pi st2 R2 with
      | some (v, R3) => some (v, R3, cs, bs)
      | none => none
    | none => none
  | _ => none
/-- a way to a stop -/
def wayStop (P : Program) (n : Nat) (lv : List Nat) (fuel : Nat) (items : List It) (st : St) (R : List Res) (ds : List Bool) (cls : List Cl) (adj : List Adj) (k : Nat) (pi ts : List Nat) : Option (St × List Res × List Cl × List (Bool × Bool)) :=
  match runP P n lv fuel items (mkL st) R ds cls with
  | some (.stop, L, R1, cs, bs) => match adjAll adj (toSt L) R1 with
    | some (st2, R2) => match reSt k pi ts st2 R2 with
      | some (st3, R3) => some (st3, R3, cs, bs)
      | none => none
    | none => none
  | _ => none

theorem WI_retM {fn : Func} {res : AV} {R2 : List Res} {items : List It} (hm : P.follows .mixedOrders = true) (lv : List Nat) (fuel : Nat) (ds : List Bool) (cls : List Cl) (adj : List Adj) (results : List ResultVar) (k : Nat) (pi : List Nat) {bs : List (Bool × Bool)}
    (hf : fn.results.toList = results) (hk : C.h.length ≤ k) (hok : AllOk P cls) (hbs : AllEq bs) (h : wayRet P n lv fuel items st R ds cls adj results k pi = some (res, R2, cls, bs)) {C0 : Ctx} (hup : Up C0 C) : WI ro P n C (Post P fn C0 res R2) items st R := by
  intro a w hs
  unfold wayRet at h
  split at h
  · rename_i L R1 cs bs1 e1
    split at h
    · rename_i st2 R3 e2
      split at h
      · rename_i v R4 e3
        simp only [Option.some.injEq, Prod.mk.injEq] at h
        obtain ⟨rfl, rfl, rfl, rfl⟩ := h
        exact runP_ok hm e1 hok hbs hs fun a' w' hs' => ((hs'.sub fun e he => toSt_mem he).adj e2).post hup hf hk e3
      · cases h
    · cases h
  · cases h

def Ctx.z (C : Ctx) : Ctx := { C with df := [] }
theorem WI_ret {fn : Func} {res : AV} {R2 : List Res} {items : List It} (hm : P.follows .mixedOrders = true) (lv : List Nat) (fuel : Nat) (ds : List Bool) (cls : List Cl) (adj : List Adj) (results : List ResultVar) (k : Nat) (pi : List Nat) {bs : List (Bool × Bool)}
    (hf : fn.results.toList = results) (hk : C.h.length ≤ k) (hok : AllOk P cls) (hbs : AllEq bs) (h : wayRet P n lv fuel items st R ds cls adj results k pi = some (res, R2, cls, bs)) : WI ro P n C.z (Post P fn C.z res R2) items st R :=
  WI_retM (C := C.z) hm lv fuel ds cls adj results k pi hf hk hok hbs h (Up.of_nil rfl)

/-- the end of a function that holds no return -/
def wayEnd (P : Program) (n : Nat) (lv : List Nat) (fuel : Nat) (items : List It) (st : St) (R : List Res) (ds : List Bool) (cls : List Cl) (adj : List Adj) (results : List ResultVar) (k : Nat) (pi : List Nat) : Option (AV × List Res × List Cl × List (Bool × Bool)) :=
  match runP P n lv fuel items (mkL st) R ds cls with
  | some (.stop, L, R1, cs, bs) => match adjAll adj (toSt L) R1 with
    | some (st2, R2) => match retRun P results k pi st2 R2 with
      | some (v, R3) => some (v, R3, cs, bs)
      | none => none
    | none => none
  | _ => none
def noIt : List It → Bool
  | [] => true
  | _ => false
theorem WI_endM {fn : Func} {res : AV} {R2 : List Res} {items : List It} (hm : P.follows .mixedOrders = true) (lv : List Nat) (fuel : Nat) (ds : List Bool) (cls : List Cl) (adj : List Adj) (results : List ResultVar) (k : Nat) (pi : List Nat) {bs : List (Bool × Bool)}
    (hf : fn.results.toList = results) (hk : C.h.length ≤ k) (hok : AllOk P cls) (hbs : AllEq bs) (hn : noIt (skipTo fuel items ds) = true) (h : wayEnd P n lv fuel items st R ds cls adj results k pi = some (res, R2, cls, bs)) {C0 : Ctx} (hup : Up C0 C) : WI ro P n C (Post P fn C0 res R2) items st R := by
  intro a w hs
  unfold wayEnd at h
  split at h
  · rename_i L R1 cs bs1 e1
    split at h
    · rename_i st2 R3 e2
      split at h
      · rename_i v R4 e3
        simp only [Option.some.injEq, Prod.mk.injEq] at h
        obtain ⟨rfl, rfl, rfl, rfl⟩ := h
        refine runP_ok hm e1 hok hbs hs fun a' w' hs' => ?_
        have hnil : skipTo fuel items ds = [] := by
          cases hh : skipTo fuel items ds with
          | nil => rfl
          | cons x l => rw [hh] at hn; cases hn
        rw [hnil]
        exact ((hs'.sub fun e he => toSt_mem he).adj e2).post hup hf hk e3
      · cases h
    · cases h
  · cases h
theorem WI_endF {fn : Func} {res : AV} {R2 : List Res} {items : List It} (hm : P.follows .mixedOrders = true) (lv : List Nat) (fuel : Nat) (ds : List Bool) (cls : List Cl) (adj : List Adj) (results : List ResultVar) (k : Nat) (pi : List Nat) {bs : List (Bool × Bool)}
    (hf : fn.results.toList = results) (hk : C.h.length ≤ k) (hok : AllOk P cls) (hbs : AllEq bs) (hn : noIt (skipTo fuel items ds) = true) (h : wayEnd P n lv fuel items st R ds cls adj results k pi = some (res, R2, cls, bs)) : WI ro P n C.z (Post P fn C.z res R2) items st R :=
  WI_endM (C := C.z) hm lv fuel ds cls adj results k pi hf hk hok hbs hn h (Up.of_nil rfl)

theorem WI_stop {items : List It} (hm : P.follows .mixedOrders = true) (lv : List Nat) (fuel : Nat) (ds : List Bool) (cls : List Cl) (adj : List Adj) (k : Nat) (pi : List Nat) (st' : St) (R' : List Res) {bs : List (Bool × Bool)}
    (hk : C.h.length ≤ k) (hok : AllOk P cls) (hbs : AllEq bs) (h : wayStop P n lv fuel items st R ds cls adj k pi (keys st') = some (st', R', cls, bs)) (hW : WI ro P n C Q (skipTo fuel items ds) st' R') : WI ro P n C Q items st R := by
  intro a w hs
  unfold wayStop at h
  split at h
  · rename_i L R1 cs bs1 e1
    split at h
    · rename_i st2 R3 e2
      split at h
      · rename_i st3 R4 e3
        simp only [Option.some.injEq, Prod.mk.injEq] at h
        obtain ⟨rfl, rfl, rfl, rfl⟩ := h
        exact runP_ok hm e1 hok hbs hs fun a' w' hs' => hW a' w' (((hs'.sub fun e he => toSt_mem he).adj e2).re hk e3)
      · cases h
    · cases h
  · cases h

/-! ### the front of what is still to be done -/
def isC : List It → Bool
  | .c _ :: _ => true
  | _ => false
def hdC : List It → Code
  | .c x :: _ => x
  | _ => .skip
def isL : List It → Bool
  | .c (.loop _) :: _ => true
  | _ => false
def lpC : List It → Code
  | .c (.loop x) :: _ => x
  | _ => .skip
def tlI : List It → List It
  | _ :: l => l
  | [] => []

theorem WI_k {K : Act → World → Prop} {l : List It} (h : ∀ a w, Sat n C (mkL st) R a w → K a w) : WI ro P n C Q (.k K :: l) st R := h

/-- cut behind a piece of code -/
theorem WI_cut {σ : Type} {items : List It} (hi : isC items = true) (φ : σ → Prop) (st' : σ → St) (R' : σ → List Res) (h : WI ro P n C Q (.c (hdC items) :: .k (Ex n C φ st' R') :: tlI items) st R) (hK : ∀ s, φ s → WI ro P n C Q (tlI items) (st' s) (R' s)) : WI ro P n C Q items st R := by
  match items, hi with
  | .c x :: l, _ =>
    intro a w hs
    refine wpIn_mono (h a w hs) fun e a w hq => ?_
    cases e with
    | normal =>
      obtain ⟨s, h1, h2⟩ := hq
      exact hK s h1 a w h2
    | _ => exact hq

def hdK : List It → Act → World → Prop
  | .k K :: _ => K
  | _ => fun _ _ => False
def isB : List It → Bool
  | .c (.block _ _) :: _ => true
  | _ => false
def blkC : List It → Code
  | .c (.block _ x) :: _ => x
  | _ => .skip
def blkI : List It → Nat
  | .c (.block i _) :: _ => i
  | _ => 0

def nqT : List It → List It
  | _ :: l => l
  | [] => []
def isCn : List It → Bool
  | .c (.cond _ _ _) :: _ => true
  | _ => false
def cnT : List It → Nat
  | .c (.cond (.tmp t) _ _) :: _ => t
  | _ => 0
def cnO : List It → Operand
  | .c (.cond c _ _) :: _ => c
  | _ => .const undef
def cnX : List It → Code
  | .c (.cond _ x _) :: _ => x
  | _ => .skip
def cnY : List It → Code
  | .c (.cond _ _ y) :: _ => y
  | _ => .skip
/-- a test whether a slice is nil -/
theorem WI_nq {items : List It} {rows : List (List Pd)} (t : Nat) (hi : isCn items = true) (ho : cnO items = .tmp t) (hc : (getE (mkL st) t).map Ent.v = some (.d (.nq rows)))
    (ht : rows = [] → WI ro P n C Q (.c (cnX items) :: nqT items) st R) (hf : WI ro P n C Q (.c (cnY items) :: nqT items) st R) : WI ro P n C Q items st R := by
  match items, hi with
  | .c (.cond c x y) :: l, _ =>
    simp only [cnO] at ho
    subst ho
    intro a w hs
    cases he : getE (mkL st) t with
    | none => rw [he] at hc; cases hc
    | some e =>
      rw [he] at hc
      simp only [Option.map_some, Option.some.injEq] at hc
      obtain ⟨hm, hte⟩ := getE_mem he
      have hs2 := hs
      obtain ⟨_, _, S, ρ, _, h4⟩ := hs2
      obtain ⟨v, hv, hr⟩ := (h4 e hm).1 (by rw [mkL_flat hm]; exact pt_nil)
      rw [hc] at hr
      rw [hte] at hv
      have hr' := hr.d_inv
      cases hr' with
      | @nq b _ h =>
        have hev : a.eval (.tmp t) = .bool b := by simp [Act.eval, Array.getD_eq_getD_getElem?, hv]
        cases b with
        | true => exact wpIn_cond_true hev (ht (h rfl) a w hs)
        | false => exact wpIn_cond_false hev (hf a w hs)

theorem WI_blk {items : List It} (hi : isB items = true) (h : WI ro P n C Q (.c (blkC items) :: .b (blkI items) :: tlI items) st R) : WI ro P n C Q items st R := by
  match items, hi with
  | .c (.block i x) :: l, _ => exact fun a w hs => wpIn_block (h a w hs)

theorem WI_hdK {items : List It} {K : Act → World → Prop} (hi : hdK items = K) (h : ∀ a w, Sat n C (mkL st) R a w → K a w) : WI ro P n C Q items st R := by
  subst hi
  match items, h with
  | .k K :: l, h => exact h
  | [], h => exact fun a w hs => (h a w hs).elim
  | .c _ :: _, h => exact fun a w hs => (h a w hs).elim
  | .b _ :: _, h => exact fun a w hs => (h a w hs).elim
  | .l _ _ :: _, h => exact fun a w hs => (h a w hs).elim

/-- a way to a cut -/
theorem WI_end {σ : Type} {φ : σ → Prop} {st' : σ → St} {R' : σ → List Res} {items : List It} (hm : P.follows .mixedOrders = true) (lv : List Nat) (fuel : Nat) (ds : List Bool) (cls : List Cl) (adj : List Adj) (k : Nat) (pi : List Nat) {bs : List (Bool × Bool)} (s : σ)
    (hk : C.h.length ≤ k) (hok : AllOk P cls) (hbs : AllEq bs) (hi : hdK (skipTo fuel items ds) = Ex n C φ st' R') (h : wayStop P n lv fuel items st R ds cls adj k pi (keys (st' s)) = some (st' s, R' s, cls, bs)) (h1 : φ s) : WI ro P n C Q items st R :=
  WI_stop hm lv fuel ds cls adj k pi (st' s) (R' s) hk hok hbs h (WI_hdK hi fun _ _ hs => ⟨s, h1, hs⟩)

/-- a loop over a list, with the place -/
def foldI {α σ ρ : Type} (f : Nat → α → σ → Option (Ctl σ ρ)) : List α → Nat → σ → Option (Ctl σ ρ)
  | [], _, s => some (.next s)
  | x :: xs, i, s => match f i x s with
    | some (.next s') => foldI f xs (i + 1) s'
    | some (.brk s') => some (.next s')
    | some (.ret r) => some (.ret r)
    | none => none

theorem WI_foldI {α σ τ : Type} {items : List It} (hi : isL items = true) (f : Nat → α → σ → Option (Ctl σ τ)) (stF : Nat → σ → St) (RF : Nat → σ → List Res) (r : Ctl σ τ) (xs : List α) (s : σ) (hm : foldI f xs 0 s = some r)
    (h0 : st = stF 0 s) (h1 : R = RF 0 s)
    (hnil : ∀ s, r = .next s → WI ro P n C Q (.c (lpC items) :: .k (fun _ _ => False) :: tlI items) (stF xs.length s) (RF xs.length s))
    (hcons : ∀ i x s k, i < xs.length → xs[i]? = some x → f i x s = some k → (∀ s', k = .brk s' → r = .next s') → (∀ v, k = .ret v → r = .ret v) →
      WI ro P n C Q (.c (lpC items) :: .k (Ex n C (fun s' => k = .next s') (stF (i + 1)) (RF (i + 1))) :: tlI items) (stF i s) (RF i s)) : WI ro P n C Q items st R := by
  match items, hi with
  | .c (.loop c) :: l, _ =>
    refine W_loopN (fun m a w => ∃ i s, i ≤ xs.length ∧ xs.length - i = m ∧ foldI f (xs.drop i) i s = some r ∧ Sat n C (mkL (stF i s)) (RF i s) a w) ⟨xs.length, fun a w hs => ⟨0, s, Nat.zero_le _, rfl, hm, by rw [h0, h1] at hs; exact hs⟩⟩ fun m a w hI => ?_
    obtain ⟨i, s, hle, hl, hf, hs⟩ := hI
    rcases Nat.lt_or_ge i xs.length with hlt | hge
    · have hd : xs.drop i = xs[i] :: xs.drop (i + 1) := List.drop_eq_getElem_cons hlt
      rw [hd] at hf
      simp only [foldI] at hf
      cases hk : f i xs[i] s with
      | none => rw [hk] at hf; cases hf
      | some k =>
        rw [hk] at hf
        refine wpIn_mono (hcons i xs[i] s k hlt (List.getElem?_eq_getElem hlt) hk ?_ ?_ a w hs) fun e a' w' hq => ?_
        · intro s' e; subst e; simp only [Option.some.injEq] at hf; exact hf.symm
        · intro v e; subst e; simp only [Option.some.injEq] at hf; exact hf.symm
        · cases e with
          | normal =>
            obtain ⟨s', e, hs'⟩ := hq
            subst e
            exact ⟨xs.length - (i + 1), by omega, i + 1, s', by omega, rfl, hf, hs'⟩
          | _ => exact hq
    · have hii : i = xs.length := Nat.le_antisymm hle hge
      subst hii
      rw [List.drop_length] at hf
      simp only [foldI, Option.some.injEq] at hf
      refine wpIn_mono (hnil s hf.symm a w hs) fun e a' w' hq => ?_
      cases e with
      | normal => exact hq.elim
      | _ => exact hq

/-- a loop while something holds -/
theorem WI_while {σ τ : Type} {items : List It} (hi : isL items = true) (f : σ → Option (Ctl σ τ)) (stF : σ → St) (RF : σ → List Res) (r : Ctl σ τ) (fuel : Nat) (s : σ) (hm : whileN f fuel s = some r)
    (h0 : st = stF s) (h1 : R = RF s)
    (h : ∀ s k, f s = some k → (∀ s', k = .brk s' → r = .next s') → (∀ v, k = .ret v → r = .ret v) →
      WI ro P n C Q (.c (lpC items) :: .k (Ex n C (fun s' => k = .next s') stF RF) :: tlI items) (stF s) (RF s)) : WI ro P n C Q items st R := by
  match items, hi with
  | .c (.loop c) :: l, _ => exact W_while (Q := Qs ro P l Q) f stF RF r fuel s hm ⟨h0, h1⟩ fun s k h1 h2 h3 a w hs => h s k h1 h2 h3 a w hs

/-- a counter -/
def cnt (c : Int) : Nat → Int
  | 0 => c
  | i + 1 => IntKind.i64.wrap (cnt c i + 1)
theorem cnt_eq {c : Int} {i : Nat} (h0 : -9223372036854775808 ≤ c) (h : c + i ≤ 9223372036854775807) : cnt c i = c + i := by
  induction i with
  | zero => simp [cnt]
  | succ i ih =>
    simp only [cnt]
    rw [ih (by omega), IntWalk.i64_in _ (by omega)]
    omega

/-- a slice is not longer than memory -/
theorem WI_len {items : List It} {rows : List (List Pd)} (t : Nat) (h : (getE (mkL st) t).map Ent.v = some (.d (.p (.s rows)))) (hW : rows.length ≤ maxLen → WI ro P n C Q items st R) : WI ro P n C Q items st R := by
  intro a w hs
  refine hW ?_ a w hs
  obtain ⟨_, _, S, ρ, h3, h4⟩ := hs
  cases he : getE (mkL st) t with
  | none => rw [he] at h; cases h
  | some e =>
    rw [he] at h
    simp at h
    obtain ⟨hm, _⟩ := getE_mem he
    obtain ⟨v, _, hr⟩ := (h4 e hm).1 (by rw [mkL_flat hm]; exact pt_nil)
    rw [h] at hr
    obtain ⟨a, cap, _, g1, g2⟩ := hr.d_inv.p_inv.slice_form
    omega

theorem WI_lenO {items : List It} {rows : List (List Pd)} {e sz : Nat} (t j : Nat) (h : (getE (mkL st) t).map Ent.v = some (.d (.os j))) (hR : R[j]? = some (.sl e sz rows)) (hW : rows.length ≤ maxLen → WI ro P n C Q items st R) : WI ro P n C Q items st R := by
  intro a w hs
  refine hW ?_ a w hs
  obtain ⟨_, _, S, ρ, h3, h4⟩ := hs
  cases he : getE (mkL st) t with
  | none => rw [he] at h; cases h
  | some e =>
    rw [he] at h
    simp at h
    obtain ⟨hm, _⟩ := getE_mem he
    obtain ⟨v, _, hr⟩ := (h4 e hm).1 (by rw [mkL_flat hm]; exact pt_nil)
    rw [h] at hr
    rcases (h3.ok j _ _ hR hr.d_inv.os_inv).live hr.d_inv.one with ⟨_, h5⟩ | ⟨_, _, cap, _, _, _, h5, h6, _⟩
    · rw [h5]; simp [maxLen]
    · omega

theorem callOk_of {f : FuncId} {fn : Func} {c : Code} {args : List AV} {res : AV} {R2 : List Res} (n : Nat) (hf : P.funcs[f]? = some fn) (hb : fn.body = some c) (hn : fn.ntmps = n) (hl : Nat.ble args.length n = true)
    (h : ∀ C : Ctx, C.h.length ≤ R.length → WI none P n C.z (Post P fn C.z res R2) [.c c] (argSt 0 args) R) : CallOk P f args R res R2 :=
  callOk_intro hf hb hn (Nat.le_of_ble_eq_true hl) fun C hd hC => by
    have := h C (by rw [hC]; exact Nat.le_refl _)
    have e : C.z = C := by unfold Ctx.z; cases C; simp at hd; subst hd; rfl
    rw [e] at this; exact this

theorem entersOf {f : FuncId} {fn : Func} (hf : P.funcs[f]? = some fn) (hb : fn.body.isNone = false) (hn : (fn.name == "runtime.NumGoroutine") = false) : Enters P f := fun args w => by
  have hb' : fn.body ≠ none := by intro e; rw [e] at hb; cases hb
  have hn' : fn.name ≠ "runtime.NumGoroutine" := by simpa using hn
  simp [callFunc, hf, hn', hb']
end
end Go.SL
