/-
  The logic, further part: a range over a function whose captured boxes are read for ever, its rounds told one by one.
-/
import Derived.Test.YtopmfoohdkjgmaaGreatDoorSlZ
set_option linter.unusedVariables false
namespace Go.SL

def isIp : D → Bool
  | .ip _ => true
  | _ => false
theorem ip_mono {S S' : Nat → Prop} {w w' : World} {ρ ρ' : List Value} {x : Value} {d : D} (hi : isIp d = true) (h : Rd S w ρ x d) (hS : ∀ b, S b → S' b) (hw : ∀ b, S b → w'.heap[b]? = w.heap[b]?) : Rd S' w' ρ' x d := by
  cases h with
  | ip h => exact .ip (h.mono hS hw)
  | _ => cases hi
theorem ips_mono {S S' : Nat → Prop} {w w' : World} {ρ ρ' : List Value} (hS : ∀ b, S b → S' b) (hw : ∀ b, S b → w'.heap[b]? = w.heap[b]?) : ∀ {xs : List Value} {ds : List D}, ds.all isIp = true → All2 (Rd S w ρ) xs ds → All2 (Rd S' w' ρ') xs ds
  | [], [], _, _ => trivial
  | x :: xs, d :: ds, hi, h => by
    simp only [List.all_cons, Bool.and_eq_true] at hi
    exact ⟨ip_mono hi.1 h.1 hS hw, ips_mono hS hw hi.2 h.2⟩
  | [], _ :: _, _, h => h.elim
  | _ :: _, [], _, h => h.elim

/-- what an iterator does: it hands on values that read so, one after the other, until it is told that no more are wanted; T: what it has laid and reads later -/
def IterOk3 (P : Program) (g : FuncId) (ips : List D) (xs : List (List AV)) : Prop :=
  Enters P g ∧ ∀ (S : Nat → Prop) (caps : List Value) (l : Nat) (J : List (List AV) → (Nat → Prop) → World → Prop) (Jx : World → Prop) (W : World),
    GlOk S W → (∀ k, S k → k < W.heap.size) → All2 (Rd S W []) caps ips →
    (∀ pre T T' A A', J pre T A → A.grownBy A' none → (drw = true → A.drawn ≤ A'.drawn) → (∀ k, T' k → T k ∨ A.heap.size ≤ k ∧ ∃ vs t f, A'.heap[k]? = some (.cells vs t f)) → J pre T' A') →
    (∀ pre x rest T W1 (vs : Array Value), J pre T W1 → xs = pre ++ x :: rest → All2 (RdA (fun k => S k ∨ T k) W1 []) vs.toList x → YieldAt Fence.wide 1 P l vs W1 fun e W' =>
      (e = .returned (.bool true) ∧ J (pre ++ [x]) T W' ∧ (∀ k, S k ∨ T k → W'.heap[k]? = W1.heap[k]?) ∧ W1.heap.size ≤ W'.heap.size) ∨ (e = .returned (.bool false) ∧ Jx W')) →
    J [] (fun _ => False) W → CallsIn Fence.wide 2 P g (#[.func (.yield l) #[] #[]] ++ caps.toArray) W fun e W' => (∃ v, e = .returned v) ∧ ((∃ T, J xs T W') ∨ Jx W')

/-- an iterator that hands nothing on -/
theorem iter_none {P : Program} {g : FuncId} {ips : List D} {res : AV} (he : Enters P g) (h : CallOk P g (.d .any :: ips.map AV.d) [] res []) : IterOk3 P g ips [] := by
  refine ⟨he, fun S caps l J Jx W hgl hS hc hJ hY h0 => callsIn_wide.2 ?_⟩
  have hst : Start S W [] [] := ⟨rfl, fun i r h h1 => by simp at h1, fun i j r r' h h' b _ h1 => by simp at h1, fun i r h b h1 => by simp at h1, hS, hgl⟩
  have hv : All2 (RdA S W []) (.func (.yield l) #[] #[] :: caps) (.d .any :: ips.map AV.d) := ⟨.d (.any rfl), hc.map_right fun _ _ h => .d h⟩
  have := h S W [] _ hst hv
  rw [show (Value.func (Fn.yield l) #[] #[] :: caps).toArray = #[.func (.yield l) #[] #[]] ++ caps.toArray from by simp] at this
  refine Calls.mono this ?_
  rintro e W' ⟨v, S', ρ', rfl, _, hI⟩
  have hsame : ∀ k, k < W.heap.size → W'.heap[k]? = W.heap[k]? := fun k hk => hI.frm k hk fun ⟨i, r, h, h1, _⟩ => by simp at h1
  exact ⟨⟨v, rfl⟩, .inl ⟨fun _ => False, hJ [] _ _ W W' h0 ⟨hI.os, hI.tape.1, hI.output, hI.size, fun k hk _ => hsame k hk⟩ hI.tape.2 fun k hk => hk.elim⟩⟩

section
variable {P : Program} {n : Nat} {C : Ctx} {S S' : Nat → Prop} {w w' : World} {ρ ρ' : List Value} {R R' : List Res} {a : Act} {st : St}
theorem Mid.turn2 {row : Option Nat} {B : Nat} {S1 : Nat → Prop} {W W' : World} (h : Mid C st B S1 a R W) (hg : W.grownBy W' row) (hd : drw = true → W.drawn ≤ W'.drawn) (hB : C.w.heap.size ≤ B) (hr : ∀ r, row = some r → B ≤ r ∧ ∃ o : Obj, W.heap[r]? = some o ∧ o.isCells = false) : Mid C st B S1 a R W' := by
  obtain ⟨S, ρ, h1, h2, h3, h4⟩ := h
  obtain ⟨g1, g2, g3⟩ := h1.turn hg hd hB hr h4
  refine ⟨S, ρ, g1, fun e he => ?_, h3, g3⟩
  obtain ⟨q1, q2⟩ := h2 e he
  refine ⟨fun hp => ?_, q2⟩
  obtain ⟨x, hx, hrx⟩ := q1 hp
  exact ⟨x, hx, hrx.mono (fun _ h => h) g2 (Pre.refl _)⟩
/-- the iterator has laid things: they are read for ever -/
theorem Mid.more {B : Nat} {S1 T' : Nat → Prop} {W W' : World} (h : Mid C st B S1 a R W) (hg : W.grownBy W' none) (hd : drw = true → W.drawn ≤ W'.drawn) (hT : ∀ k, T' k → S1 k ∨ W.heap.size ≤ k ∧ ∃ vs t f, W'.heap[k]? = some (.cells vs t f)) : Mid C st B T' a R W' := by
  obtain ⟨S, ρ, h1, h2, h3, h4⟩ := h
  have hw : ∀ b, b < W.heap.size → W'.heap[b]? = W.heap[b]? := fun b hb => hg.block b hb (by simp)
  have hs : ∀ b, S b → W'.heap[b]? = W.heap[b]? := fun b hb => hw b (h1.sup b hb).1
  refine ⟨fun k => S k ∨ (W.heap.size ≤ k ∧ ∃ vs t f, W'.heap[k]? = some (.cells vs t f)), ρ, h1.grow (fun _ h => .inl h) (fun b hb => hb.imp id fun ⟨g1, vs, t, f, g2⟩ => ⟨g1, (Array.getElem?_eq_some_iff.1 g2).1⟩) hw hg.size hg.os ⟨hg.tape, hd⟩ hg.output, fun e he => ?_, fun k hk => ?_, fun k hk => ?_⟩
  · obtain ⟨q1, q2⟩ := h2 e he
    refine ⟨fun hp => ?_, q2⟩
    obtain ⟨x, hx, hrx⟩ := q1 hp
    exact ⟨x, hx, hrx.mono (fun _ h => .inl h) hs (Pre.refl _)⟩
  · exact (hT k hk).imp (h3 k) id
  · rcases hk with hk | ⟨_, hk⟩
    · rcases h4 k hk with q | q
      · exact .inl q
      · rw [hs k hk]; exact .inr q
    · exact .inr hk

theorem Mid.less {B : Nat} {S1 S2 : Nat → Prop} {W : World} (h : Mid C st B S1 a R W) (hS : ∀ k, S2 k → S1 k) : Mid C st B S2 a R W := by
  obtain ⟨S, ρ, h1, h2, h3, h4⟩ := h
  exact ⟨S, ρ, h1, h2, fun k hk => h3 k (hS k hk), h4⟩
theorem Mid.back2 {B : Nat} {S1 : Nat → Prop} {W W' : World} (hB : C.w.heap.size ≤ B) (h1 : Inv C S W ρ R) (h2 : SlotsOk S W ρ a (mkL st)) (h3 : ∀ k, S1 k → S k) (h4 : ∀ k, S k → k < B ∨ ∃ vs t f, W.heap[k]? = some (.cells vs t f))
    {kp : Nat} (hkp : stBelow kp st = true) (hCk : C.h.length ≤ kp) (hk : Inv ⟨W, S, feet ρ R, ρ.take kp, []⟩ S' W' ρ' R') {a2 : Act} {st2 : St} (h5 : SlotsOk S' W' ρ' a2 (mkL st2)) : ∃ S2, Inv C S2 W' ρ' R' ∧ SlotsOk S2 W' ρ' a (mkL st) ∧ (∀ k, S1 k → S2 k) ∧ (∀ k, S2 k → k < B ∨ ∃ vs t f, W'.heap[k]? = some (.cells vs t f)) ∧ SlotsOk S2 W' ρ' a2 (mkL st2) ∧
      (∀ k, S1 k → W'.heap[k]? = W.heap[k]?) ∧ ∀ (k : Nat) (o : Obj), W.heap[k]? = some o → o.isCells = false → W'.heap[k]? = some o := by
  have hpre : ∀ (i : Nat) v, i < kp → ρ[i]? = some v → ρ'[i]? = some v := fun i v hi hv => hk.pre i v (by rw [List.getElem?_take, if_pos hi]; exact hv)
  have hT := h1.trans hk (fun i v hv => hpre i v (Nat.lt_of_lt_of_le (List.getElem?_eq_some_iff.1 hv).1 hCk) (h1.pre i v hv))
  have hsame : ∀ k, S k → W'.heap[k]? = W.heap[k]? := fun k hS => hk.frm k (h1.sup k hS).1 fun ⟨i, r, v, g1, g2, g3⟩ => (h1.own i r v k g1 g2 g3).1 hS
  refine ⟨fun k => S' k ∧ (k < B ∨ ∃ vs t f, W'.heap[k]? = some (.cells vs t f)), hT.trim (fun k hS hc => ⟨hS, .inr hc⟩) (fun _ h => h.1) (fun k hC => ⟨hT.sub k hC, .inl (Nat.lt_of_lt_of_le (h1.gl.2.1 k hC).1 hB)⟩), fun e he => ?_, fun k hS1 => ⟨hk.sub k (h3 k hS1), ?_⟩, fun k h => h.2, fun e he => ?_, fun k hS1 => hsame k (h3 k hS1), fun k o ho hc => ?_⟩
  · obtain ⟨q1, q2⟩ := h2 e he
    refine ⟨fun hp => ?_, q2⟩
    obtain ⟨x, hx, hrx⟩ := q1 hp
    have := hrx.monoK (S' := S') (w' := W') (ρ' := ρ') (fun k hS => hk.sub k hS) hsame hpre (stBelow_get hkp he)
    exact ⟨x, hx, this.trim fun k hS hc => ⟨hS, .inr hc⟩⟩
  · rcases h4 k (h3 k hS1) with q | q
    · exact .inl q
    · rw [hsame k (h3 k hS1)]; exact .inr q
  · obtain ⟨q1, q2⟩ := h5 e he
    refine ⟨fun hp => ?_, q2⟩
    obtain ⟨x, hx, hrx⟩ := q1 hp
    exact ⟨x, hx, hrx.trim fun k hS hc => ⟨hS, .inr hc⟩⟩
  · refine (hk.frm k (Array.getElem?_eq_some_iff.1 ho).1 fun ⟨i, r, v, g1, g2, g3⟩ => ?_).trans ho
    obtain ⟨vs, t, f, q⟩ := foot_cells (h1.ok i r v g1 g2) g3
    rw [ho] at q; cases q; cases hc
theorem World.grownBy_refl (w : World) : w.grownBy w none := ⟨rfl, rfl, rfl, Nat.le_refl _, fun _ _ _ => rfl⟩

def nodB : List Nat → Bool
  | [] => true
  | p :: r => !(memN r p) && nodB r
/-- the loop's variables at the beginning of a round -/
def prm (ps : Array Tmp) (x : List AV) : St := ps.toList.zip x
theorem roundT_aux {S : Nat → Prop} {w : World} {ρ : List Value} : ∀ {ps : List Nat} {vs : List Value} {x : List AV} {tm : Array Value}, nodB ps = true → (∀ p, p ∈ ps → p < tm.size) → All2 (RdA S w ρ) vs x → ∀ e, e ∈ mkL (ps.zip x) →
    ∃ v, ((ps.zip vs).foldl (fun t (q : Nat × Value) => t.setIfInBounds q.1 q.2) tm)[e.t]? = some v ∧ RdA S w ρ v e.v
  | [], vs, x, tm, _, _, _, e, he => by simp [mkL] at he
  | p :: ps, [], [], tm, _, _, _, e, he => by simp [mkL] at he
  | p :: ps, v :: vs, y :: x, tm, hn, hp, hv, e, he => by
    simp only [nodB, Bool.and_eq_true, Bool.not_eq_true'] at hn
    simp only [List.zip_cons_cons, mkL, List.mem_cons] at he
    simp only [List.zip_cons_cons, List.foldl_cons]
    rcases he with rfl | he
    · refine ⟨v, ?_, hv.1⟩
      rw [foldl_set_get]
      · simp [hp p (by simp)]
      · intro q hq e
        have : q.1 ∈ ps := (List.of_mem_zip hq).1
        rw [← memN_iff, e] at this
        rw [hn.1] at this; cases this
    · exact roundT_aux hn.2 (fun q hq => by simpa using hp q (by simp [hq])) hv.2 e he
  | p :: ps, [], _ :: _, tm, _, _, h, e, he => h.elim
  | p :: ps, _ :: _, [], tm, _, _, h, e, he => h.elim
theorem roundT_prm {S : Nat → Prop} {w : World} {ρ : List Value} {ps : Array Tmp} {vs : Array Value} {x : List AV} {tm : Array Value} (hn : nodB ps.toList = true) (hp : ∀ p, p ∈ ps.toList → p < tm.size) (_ : vs.size = ps.size) (hv : All2 (RdA S w ρ) vs.toList x) :
    ∀ e, e ∈ mkL (prm ps x) → ∃ v, (roundT ps vs tm)[e.t]? = some v ∧ RdA S w ρ v e.v := by
  intro e he
  rw [roundT_eq, Array.toList_zip]
  exact roundT_aux hn hp hv e he
/-- one round: the loop's variables are set, the body is run; b: does it return? -/
def RoundOk (P : Program) (n kp : Nat) (ps : Array Tmp) (asg bd : Code) (stO : St) (x : List AV) (R : List Res) (b : Bool) (R' : List Res) : Prop :=
  ∃ (st1 : St) (R1 : List Res),
    (∀ (l : Nat) (C' : Ctx), C'.h.length ≤ kp → C'.df = [] → ∀ a w, Sat n C' (mkL (stO ++ prm ps x)) R a w → asg.wpIn (FR (some l)) 0 P (fun e a w => e = .normal ∧ Sat n C' (mkL st1) R1 a w) a w) ∧
    (∀ (l : Nat) (C' : Ctx), C'.h.length ≤ kp → C'.df = [] → ∀ a w, Sat n C' (mkL st1) R1 a w → bd.wpIn (FR (some l)) 0 P (fun e a w => (e = .normal ∧ b = false ∨ e = .ret ∧ b = true) ∧ Sat n C' [] R' a w) a w)
inductive RoundsOk (P : Program) (n kp : Nat) (ps : Array Tmp) (asg bd : Code) (stO : St) : List (List AV) → List Res → Bool → List Res → Prop
  | nil {R : List Res} : RoundsOk P n kp ps asg bd stO [] R false R
  | next {x : List AV} {xs : List (List AV)} {R R' R2 : List Res} {b : Bool} (h : RoundOk P n kp ps asg bd stO x R false R') (k : RoundsOk P n kp ps asg bd stO xs R' b R2) : RoundsOk P n kp ps asg bd stO (x :: xs) R b R2
  | ret {x : List AV} {xs : List (List AV)} {R R2 : List Res} (h : RoundOk P n kp ps asg bd stO x R true R2) : RoundsOk P n kp ps asg bd stO (x :: xs) R true R2
/-- THE RULE -/
theorem range_rule {Q : Exit → Act → World → Prop} {l : List It} {t gf : Nat} {ips : List D} (hip : ips.all isIp = true) {xs : List (List AV)} {b : Bool} {R2 : List Res} (hit : IterOk3 P gf ips xs) {ps : Array Tmp} {asg bd : Code}
    (hg : (getE (mkL st) t).map Ent.v = some (.d (.fn (.func gf) [] ips)))
    (stO : St) (hO : ∀ e, e ∈ mkL stO → e ∈ mkL st) (hdis : (keys stO).all (fun u => !(memN ps.toList u)) = true)
    (hnd : nodB ps.toList = true) (hpn : ps.toList.all (fun p => Nat.blt p n) = true) (hps : ∀ x, x ∈ xs → x.length = ps.size)
    (hC : C.df = []) {C0 : Ctx} (hup : Up C0 C) (kp : Nat) (hkp : stBelow kp st = true) (hCk : C.h.length ≤ kp)
    (hrd : RoundsOk P n kp ps asg bd stO xs R b R2)
    (hdone : ∀ (C2 : Ctx), C2.h = C.h → Up C0 C2 → b = false → ∀ a w, Sat n C2 (mkL st) R2 a w → Qs none P l Q .normal a w)
    (hret : ∀ (C2 : Ctx), C2.h = C.h → Up C0 C2 → b = true → ∀ a w, Sat n C2 (mkL st) R2 a w → Q .ret a w)
    (hs : Sat n C (mkL st) R a w) : (Code.rangeFunc (.tmp t) ps asg bd).wpIn (FR none) 0 P (Qs none P l Q) a w := by
  obtain ⟨hdef, hsize, S0, ρ0, hI0, hL0⟩ := hs
  rw [hC] at hdef
  -- the iterator's value
  cases he : getE (mkL st) t with
  | none => rw [he] at hg; cases hg
  | some e0 =>
  rw [he] at hg
  simp only [Option.map_some, Option.some.injEq] at hg
  obtain ⟨hm0, ht0⟩ := getE_mem he
  obtain ⟨fv, hfv, hfr⟩ := (hL0 e0 hm0).1 (by rw [mkL_flat hm0]; exact pt_nil)
  rw [ht0] at hfv
  rw [hg] at hfr
  obtain ⟨xs0, cs0, hfe, hxs0, hcs0⟩ := hfr.d_inv.fn_inv
  have hx0 : xs0 = [] := by cases xs0 with | nil => rfl | cons => exact hxs0.elim
  subst hx0
  have heval : a.eval (.tmp t) = .func (.func gf) #[] cs0.toArray := by
    simp [Act.eval, Array.getD_eq_getD_getElem?, hfv, hfe]
  obtain ⟨B, hBd⟩ : ∃ B, B = w.heap.size := ⟨_, rfl⟩
  have hCB : C.w.heap.size ≤ B := by rw [hBd]; exact hI0.size
  have hmid0 : Mid C st B S0 a R w := ⟨S0, ρ0, hI0, hL0, fun _ h => h, fun k hk => .inl (by rw [hBd]; exact (hI0.sup k hk).1)⟩
  refine wpIn_num (m := 3) rfl (wpIn_rangeFunc fun fn _ => ?_)
  obtain ⟨rec, hrec⟩ : ∃ rec : LoopState → Option Code → Loop, rec = fun st pe => { state := st, pending := pe, fn, tmps := a.tmps, params := ps, assign := asg, body := bd, defers := B } := ⟨_, rfl⟩
  obtain ⟨W1, hW1⟩ : ∃ W1, (w.alloc (.deferred (some []))).alloc (.loop (rec .ready none)) = W1 := ⟨_, rfl⟩
  have hsz1 : W1.heap.size = B + 2 := by rw [← hW1, hBd]; simp
  have hl1 : W1.heap[B + 1]? = some (.loop (rec .ready none)) := by
    rw [← hW1]
    have := halloc_new (w.alloc (.deferred (some []))) (.loop (rec .ready none))
    rw [World.size_alloc] at this
    rw [hBd]; exact this
  have hd1 : W1.heap[B]? = some (.deferred (some [])) := by
    rw [← hW1, halloc_old _ _ _ (by rw [hBd]; simp), hBd]
    exact halloc_new _ _
  have hg1 : w.grownBy W1 none := ⟨by rw [← hW1]; rfl, by rw [← hW1]; rfl, by rw [← hW1]; rfl, by rw [hsz1, hBd]; omega, fun k hk _ => by rw [← hW1, halloc_old _ _ _ (by simp; omega), halloc_old _ _ _ hk]⟩
  have hmid1 : Mid C st B S0 a R W1 := hmid0.turn2 hg1 (fun _ => by rw [← hW1]; exact Nat.le_refl _) hCB (fun r e => by cases e)
  refine ⟨B + 1, [{ target := .collected B, args := #[] }], W1, { target := .fn (.func gf) cs0.toArray, args := #[.func (.yield (B + 1)) #[] #[]] }, W1, gf,
    #[.func (.yield (B + 1)) #[] #[]] ++ cs0.toArray, W1, ?_, ?_, fun _ _ => trivial, ?_, fun h => (by cases h), ?_⟩
  · rw [← hW1, hrec, hBd]; exact run_enterLoop_outer _ _ _ _ _
  · simp only [resolve, heval]
    simp [Deferred.ofValue, Act.eval]
  · have := hit.1 (#[.func (.yield (B + 1)) #[] #[]] ++ cs0.toArray) W1
    simpa [invoke] using this
  · have hup' : ∀ (W : World) (S : Nat → Prop) (ρ : List Value) (R' : List Res), Inv C S W ρ R' → Up C0 ⟨W, S, feet ρ R', C.h, [{ target := .collected B, args := #[] }]⟩ := fun W S ρ R' hi =>
      ⟨fun S' w' ρ' R2 h2 => hup.up _ _ _ _ (hi.trans h2 h2.pre), .inr ⟨B, rfl, by rw [hBd]; exact (hup.up _ _ _ _ hI0).size⟩, hup.hl⟩
    have hturn : ∀ (T : Nat → Prop) (hT : ∀ k, T k → k ≠ B + 1) (W : World) (R' : List Res) (o o' : Obj), Mid C st B T a R' W → W.heap[B + 1]? = some o → o.isCells = false → W.heap[B]? = some (.deferred (some [])) →
        Mid C st B T a R' (W.putObj (B + 1) o') ∧ (W.putObj (B + 1) o').heap[B + 1]? = some o' ∧ (W.putObj (B + 1) o').heap[B]? = some (.deferred (some [])) ∧ ∀ k, T k → (W.putObj (B + 1) o').heap[k]? = W.heap[k]? := fun T hT W R' o o' hmd ho hc hd =>
      ⟨hmd.turn2 (grownBy_putObj' W (B + 1) o') (fun _ => Nat.le_refl _) hCB (fun q e => by cases e; exact ⟨by omega, o, ho, hc⟩), World.putObj_heap_same (Array.getElem?_eq_some_iff.1 ho).1, (World.putObj_heap_other (by omega)).trans hd,
        fun k hk => World.putObj_heap_other (hT k hk)⟩
    have hall : ∀ k, S0 k → k < B := fun k hk => by rw [hBd]; exact (hI0.sup k hk).1
    have hW1S : ∀ k, S0 k → W1.heap[k]? = w.heap[k]? := fun k hk => hg1.block k (by rw [← hBd]; exact hall k hk) (by simp)
    refine CallsIn.mono (F := Fence.wide) (n := 2) (hit.2 S0 cs0 (B + 1)
      (fun pre T W => (∃ Rc, (∃ rest, xs = pre ++ rest ∧ RoundsOk P n kp ps asg bd stO rest Rc b R2) ∧ Mid C st B (fun k => S0 k ∨ T k) a Rc W) ∧ (∀ k, T k → B + 2 ≤ k) ∧ W.heap[B + 1]? = some (.loop (rec .ready none)) ∧ W.heap[B]? = some (.deferred (some [])))
      (fun W => (b = true ∧ Mid C st B S0 a R2 W) ∧ W.heap[B + 1]? = some (.loop (rec .done (some .ret))) ∧ W.heap[B]? = some (.deferred (some [])))
      W1 (hI0.glOk.mono (fun _ h => h) hW1S) (fun k hk => by have := hall k hk; rw [hsz1]; omega) (ips_mono (fun _ h => h) hW1S hip hcs0) ?_ ?_ ⟨⟨R, ⟨xs, by simp, hrd⟩, hmid1.more (World.grownBy_refl _) (fun _ => Nat.le_refl _) (fun k hk => .inl (hk.resolve_right id))⟩, (fun k hk => hk.elim), hl1, hd1⟩) ?_
    · rintro pre T T' A A' ⟨⟨s2, hre, hmid⟩, hTB, hl, hd⟩ hg hdr hT
      have hBA : B + 1 < A.heap.size := (Array.getElem?_eq_some_iff.1 hl).1
      refine ⟨⟨s2, hre, hmid.more hg hdr fun k hk => ?_⟩, fun k hk => ?_, (hg.block _ hBA (by simp)).trans hl, (hg.block _ (by omega) (by simp)).trans hd⟩
      · rcases hk with hk | hk
        · exact .inl (.inl hk)
        · exact (hT k hk).imp .inr id
      · rcases hT k hk with q | q
        · exact hTB k q
        · omega
    · rintro pre x rest T W2 vs ⟨⟨s2, ⟨rest2, hre2, hfo2⟩, hmid⟩, hTB, hl2, hd2⟩ hxs hvs
      have hTn : ∀ k, (S0 k ∨ T k) → k ≠ B + 1 := fun k hk => by
        rcases hk with hk | hk
        · have := hall k hk; omega
        · have := hTB k hk; omega
      have hrr : rest2 = x :: rest := List.append_cancel_left (hre2.symm.trans hxs)
      subst hrr
      have hxl := hps x (by rw [hxs]; simp)
      have hvl : vs.size = ps.size := by have := hvs.length; simpa [hxl] using this
      obtain ⟨b1, R', hrnd, hnext⟩ : ∃ b1 R', RoundOk P n kp ps asg bd stO x s2 b1 R' ∧ ((b1 = false ∧ RoundsOk P n kp ps asg bd stO rest R' b R2) ∨ (b1 = true ∧ b = true ∧ R' = R2)) := by
        cases hfo2 with
        | next h k => exact ⟨_, _, h, .inl ⟨rfl, k⟩⟩
        | ret h => exact ⟨_, _, h, .inr ⟨rfl, rfl, rfl⟩⟩
      obtain ⟨st1, R1, has, hbody⟩ := hrnd
      refine ⟨fn, roundT ps (vs) a.tmps, asg, bd, ?_, roundIn_of_wpIn trivial ?_⟩
      · have := run_yield (P := P) (args := vs) hl2 (by rw [hrec]; exact hvl)
        rw [hrec] at this
        exact this
      · show asg.wpIn (FR (some (B + 1))) 1 P _ _ W2
        obtain ⟨S, ρ, i1, i2, i3, i4⟩ := hmid
        have htake : ∀ (ρ : List Value), Pre (ρ.take kp) ρ := fun ρ i v hv => by
          rw [List.getElem?_take] at hv
          split at hv
          · exact hv
          · cases hv
        have hseg := i1.seg (ρ.take kp) (htake ρ) [] (fun d hd => by cases hd)
        have hsat : Sat n ⟨W2, S, feet ρ s2, ρ.take kp, []⟩ (mkL (stO ++ prm ps x)) s2 ({ tmps := roundT ps (vs) a.tmps, defers := [] } : Act) W2 := by
          have hsz : (roundT ps (vs) a.tmps).size = n := by rw [roundT_eq, foldl_set_size]; exact hsize
          refine ⟨rfl, hsz, S, ρ, hseg, fun e he => ?_⟩
          rcases mkL_append he with he | he
          · have hk1 := mkL_key he
            have hdis' := (List.all_eq_true.1 hdis) e.t hk1
            simp only [Bool.not_eq_true'] at hdis'
            have hp0 := mkL_flat he
            obtain ⟨q1, _⟩ := i2 e (hO e he)
            obtain ⟨y, hy, hry⟩ := q1 (by rw [hp0]; exact pt_nil)
            refine ⟨fun _ => ⟨y, ?_, hry⟩, fun hn => absurd (by rw [hp0]; exact pt_nil) hn⟩
            show (roundT ps (vs) a.tmps)[e.t]? = some y
            rw [roundT_other (ps := ps) hdis']; exact hy
          · obtain ⟨v, hv1, hv2⟩ := roundT_prm hnd (fun p hp => by have := (List.all_eq_true.1 hpn) p hp; rw [hsize]; simpa [Nat.blt_eq] using this) hvl hvs e he
            exact ⟨fun _ => ⟨v, hv1, hv2.mono i3 (fun _ _ => rfl) (fun i v h => by simp at h)⟩, fun hn => absurd (by rw [mkL_flat he]; exact pt_nil) hn⟩
        have hA := has (B + 1) ⟨W2, S, feet ρ s2, ρ.take kp, []⟩ (by simp; omega) rfl _ W2 hsat
        refine wpIn_num (m := 0) rfl (wpIn_mono hA ?_)
        intro e a3 W2' hq
        obtain ⟨rfl, d3, z3, S3, ρ3, j1, j2⟩ := hq
        obtain ⟨S4, k1, k2, k3, k4, k5, m20, m30⟩ := Mid.back2 hCB i1 i2 i3 i4 hkp hCk j1 j2
        have hl2' := m30 _ _ hl2 rfl
        have hd2' := m30 _ _ hd2 rfl
        refine ⟨_, run_beginRound hl2' (by rw [hrec]), ?_⟩
        obtain ⟨W3, hW3⟩ : ∃ W3, W3 = W2'.putObj (B + 1) (.loop { rec .ready none with state := .busy }) := ⟨_, rfl⟩
        obtain ⟨t1, t2, t3⟩ := k1.turn (grownBy_putObj' W2' (B + 1) (.loop { rec .ready none with state := .busy })) (fun _ => Nat.le_refl _) hCB (fun q e => by cases e; exact ⟨by omega, _, hl2', rfl⟩) k4
        have hmt : ∀ {a : Act} {st : St}, SlotsOk S4 W2' ρ3 a (mkL st) → SlotsOk S4 (W2'.putObj (B + 1) (.loop { rec .ready none with state := .busy })) ρ3 a (mkL st) := fun h e he => by
          obtain ⟨q1, q2⟩ := h e he
          refine ⟨fun hp => ?_, q2⟩
          obtain ⟨x, hx, hrx⟩ := q1 hp
          exact ⟨x, hx, hrx.mono (fun _ h => h) t2 (Pre.refl _)⟩
        have k2' := hmt k2
        have k5' := hmt k5
        have hl3 : (W2'.putObj (B + 1) (.loop { rec .ready none with state := .busy })).heap[B + 1]? = some (.loop { rec .ready none with state := .busy }) := World.putObj_heap_same (Array.getElem?_eq_some_iff.1 hl2').1
        have hd3 := (World.putObj_heap_other (w := W2') (r := B + 1) (o := .loop { rec .ready none with state := .busy }) (by omega : B ≠ B + 1)).trans hd2'
        have hs3 : ∀ k, (S0 k ∨ T k) → (W2'.putObj (B + 1) (.loop { rec .ready none with state := .busy })).heap[k]? = W2.heap[k]? := fun k hk => (t2 k (k3 k hk)).trans (m20 k hk)
        have hsz3 : (W2'.putObj (B + 1) (.loop { rec .ready none with state := .busy })).heap.size = W2'.heap.size := by simp [World.putObj]
        have hszj := j1.size
        generalize W2'.putObj (B + 1) (.loop { rec .ready none with state := .busy }) = W3 at t1 t2 t3 k2' k5' hl3 hd3 hs3 hsz3 ⊢
        have hseg3 := t1.seg (ρ3.take kp) (htake ρ3) [] (fun d hd => by cases hd)
        have hb := hbody (B + 1) ⟨W3, S4, feet ρ3 R1, ρ3.take kp, []⟩ (by simp; omega) rfl a3 W3 ⟨d3, z3, S4, ρ3, hseg3, k5'⟩
        show bd.wpIn (FR (some (B + 1))) 1 P _ _ W3
        refine wpIn_num (m := 0) rfl (wpIn_mono hb ?_)
        intro e a3 W4 hq
        cases e with
        | normal =>
          obtain ⟨hb1, _, _, S', ρ', hinv, _⟩ := hq
          have hb1 : b1 = false := by rcases hb1 with ⟨_, h⟩ | ⟨h, _⟩; (exact h); (cases h)
          obtain ⟨_, hnx⟩ := hnext.resolve_right (fun h => by rw [hb1] at h; cases h.1)
          obtain ⟨m1, m2, m3⟩ := Mid.back hCB t1 k2' k3 t3 hkp hCk hinv
          have hl4 := m3 _ _ hl3 rfl
          have hd4 := m3 _ _ hd3 rfl
          obtain ⟨n1, n2, n3, n4⟩ := hturn _ hTn W4 R' _ (.loop (rec .ready none)) m1 hl4 rfl hd4
          refine ⟨_, _, run_endRound none hl4, .inl ⟨rfl, ⟨⟨R', ⟨rest, by rw [hxs]; simp, hnx⟩, ?_⟩, hTB, ?_, ?_⟩, fun k hk => ?_, ?_⟩⟩
          · rw [hrec] at n1 ⊢; exact n1
          · rw [hrec] at n2 ⊢; exact n2
          · rw [hrec] at n3 ⊢; exact n3
          · rw [hrec] at n4 ⊢; exact ((n4 k hk).trans (m2 k hk)).trans (hs3 k hk)
          · have := hinv.size
            simp only [World.putObj, Array.size_setIfInBounds]
            have h9 : W2.heap.size ≤ W2'.heap.size := hszj
            have h8 : W3.heap.size ≤ W4.heap.size := this
            omega
        | ret =>
          obtain ⟨hb1, _, _, S', ρ', hinv, _⟩ := hq
          have hb1 : b1 = true := by rcases hb1 with ⟨h, _⟩ | ⟨_, h⟩; (cases h); (exact h)
          obtain ⟨_, hbt, hR2⟩ := hnext.resolve_left (fun h => by rw [hb1] at h; cases h.1)
          subst hR2
          obtain ⟨m1, m2, m3⟩ := Mid.back hCB t1 k2' k3 t3 hkp hCk hinv
          have hl4 := m3 _ _ hl3 rfl
          have hd4 := m3 _ _ hd3 rfl
          obtain ⟨n1, n2, n3, n4⟩ := hturn _ hTn W4 R' _ (.loop (rec .done (some .ret))) m1 hl4 rfl hd4
          refine ⟨_, _, run_endRound (some .ret) hl4, .inr ⟨rfl, ⟨hbt, ?_⟩, ?_, ?_⟩⟩
          · rw [hrec] at n1 ⊢; exact n1.less fun k hk => .inl hk
          · rw [hrec] at n2 ⊢; exact n2
          · rw [hrec] at n3 ⊢; exact n3
        | _ => exact absurd hq.1 (by simp)
    · rintro e W2 ⟨⟨v, rfl⟩, (⟨T, ⟨s2, ⟨rest, hre, hfo⟩, hmid⟩, hTB, hl2, hd2⟩ | ⟨⟨hr2, hmid⟩, hl2, hd2⟩)⟩
      · have hrest : rest = [] := by
          have := congrArg List.length hre
          simp at this
          exact this
        subst hrest
        obtain ⟨hbf, hRf⟩ : b = false ∧ s2 = R2 := by cases hfo; exact ⟨rfl, rfl⟩
        subst hRf
        subst hrec
        have hend := run_endLoop (P := P) hl2 (by simp)
        obtain ⟨n1, n2, n3, n4⟩ := hturn _ (fun k hk => by have := hall k hk; omega) W2 s2 _ (.loop { state := .exhausted, pending := none, fn := fn, tmps := a.tmps, params := ps, assign := asg, body := bd, defers := B }) (hmid.less (S2 := S0) fun k hk => .inl hk) hl2 rfl hd2
        refine ⟨none, W2.putObj (B + 1) (.loop { state := .exhausted, pending := none, fn := fn, tmps := a.tmps, params := ps, assign := asg, body := bd, defers := B }), hend, ?_⟩
        obtain ⟨S, ρ, i1, i2, i3, _, _⟩ := n1.seg [{ target := .collected B, args := #[] }] (fun d hd => by
          rw [List.mem_singleton] at hd
          exact ⟨B, hd, Nat.le_refl _, n3⟩)
        exact hdone ⟨W2.putObj (B + 1) (.loop { state := .exhausted, pending := none, fn := fn, tmps := a.tmps, params := ps, assign := asg, body := bd, defers := B }), S, feet ρ s2, C.h, [{ target := .collected B, args := #[] }]⟩ rfl (hup' _ S ρ _ i1) hbf _ _ ⟨by show _ ++ a.defers = _; rw [hdef]; rfl, hsize, S, ρ, i2, fun e he => i3 e he⟩
      · subst hrec
        have hend := run_endLoop (P := P) hl2 (by simp)
        obtain ⟨n1, n2, n3, n4⟩ := hturn S0 (fun k hk => by have := hall k hk; omega) W2 R2 _ (.loop { state := .exhausted, pending := some .ret, fn := fn, tmps := a.tmps, params := ps, assign := asg, body := bd, defers := B }) hmid hl2 rfl hd2
        refine ⟨some .ret, W2.putObj (B + 1) (.loop { state := .exhausted, pending := some .ret, fn := fn, tmps := a.tmps, params := ps, assign := asg, body := bd, defers := B }), hend, ?_⟩
        obtain ⟨S, ρ, i1, i2, i3, _, _⟩ := n1.seg [{ target := .collected B, args := #[] }] (fun d hd => by
          rw [List.mem_singleton] at hd
          exact ⟨B, hd, Nat.le_refl _, n3⟩)
        exact wpIn_ret (Qs_ret (hret ⟨W2.putObj (B + 1) (.loop { state := .exhausted, pending := some .ret, fn := fn, tmps := a.tmps, params := ps, assign := asg, body := bd, defers := B }), S, feet ρ R2, C.h, [{ target := .collected B, args := #[] }]⟩ rfl (hup' _ S ρ _ i1) hr2 _ _ ⟨by show _ ++ a.defers = _; rw [hdef]; rfl, hsize, S, ρ, i2, fun e he => i3 e he⟩))

end
end Go.SL
