/-
  strconv.Itoa of one digit, strings.Join, as contracts of our logic.
-/
import Derived.Lib.ItoaNum
import Derived.Lib.Join
import Derived.Test.YtopmfoohdkjgmaaGreatDoorIt
import Derived.Test.YtopmfoohdkjgmaaGreatDoorSlEX
import Derived.RangeFuncBox
import Derived.RangeFuncLeaves
import Derived.Shelf.Abstract
import Derived.WalkKit
import Derived.OwnWalkIn
import Derived.TacticsInMore
import Derived.LoopNIn
import Derived.LoopIn
import Derived.Lib.Hide
import Derived.Test.YtopmfoohdkjgmaaGreatDoorProg
import Derived.Test.YtopmfoohdkjgmaaGreatDoorHd
set_option linter.unusedVariables false
namespace Go.Proofs.YtopmfoohdkjgmaaGreatDoor
open Go Go.RowKit Go.Proofs Go.Sort Go.SL

/-- one value's cells of a slice that is read -/
theorem cells_at {α : Type} {S : Nat → Prop} {w : World} {v : Value} {f : α → Value} {l : List α} (hS : ∀ b, S b → b < w.heap.size) (h : RdP S w v (.s (l.map fun x => [Pd.v (f x)]))) :
    ∃ ao cap, v = .slice ao l.length cap ∧ l.length ≤ cap ∧ cap ≤ maxLen ∧ ∀ (i : Nat) x, l[i]? = some x → ∃ ab o, ao = some ⟨ab, o, none⟩ ∧ ab < w.heap.size ∧ w.cell? ⟨ab, o + i, none⟩ = some (f x) := by
  generalize hR : (l.map fun x => [Pd.v (f x)]) = R at h
  cases h with
  | s a ad cap z _ xs hc hm hz hsz2 hx hr =>
    have hl : R.length = l.length := by rw [← hR]; simp
    rw [hl] at hc ⊢
    refine ⟨a, cap, rfl, hc, hm, fun i x hi => ?_⟩
    have at1 : ∀ (i : Nat) x, l[i]? = some x → R[i]? = some [Pd.v (f x)] := fun i x hi => by rw [← hR, List.getElem?_map, hi]; rfl
    have hz2 : z = 1 := by
      have := hsz2 _ (List.mem_of_getElem? (at1 i x hi))
      simp at this
      omega
    subst hz2
    obtain ⟨x0, h0⟩ : ∃ x, l[0]? = some x := ⟨_, List.getElem?_eq_getElem (by have := (List.getElem?_eq_some_iff.1 hi).1; omega)⟩
    obtain ⟨ha, hS0, hcell⟩ := hx 0 _ (at1 0 x0 h0) 0 _ rfl
    rw [Nat.zero_mul, Nat.zero_add, add_zero'] at hcell
    have spot : ∃ b o, ad = ⟨b, o, none⟩ := by
      obtain ⟨b, o, sp⟩ := ad
      cases sp with
      | none => exact ⟨b, o, rfl⟩
      | some q =>
        exfalso
        unfold World.cell? at hcell
        split at hcell
        · simp at hcell
        · cases hcell
    obtain ⟨b, o, rfl⟩ := spot
    refine ⟨b, o, ha, hS _ hS0, ?_⟩
    obtain ⟨_, _, hcj⟩ := hx i _ (at1 i x hi) 0 _ rfl
    have hv := (hr i _ (at1 i x hi) 0 _ rfl).v_form
    rw [add_mk, hv] at hcj
    rw [Nat.mul_one, Nat.add_zero] at hcj
    exact hcj
theorem rdS {S : Nat → Prop} {w : World} {ρ : List Value} {v : Value} {x : List (List Pd)} (h : Rd S w ρ v (.p (.s x))) : RdP S w v (.s x) := by cases h; assumption
theorem leaves {S : Nat → Prop} {w w' : World} {ρ : List Value} {R : List Res} {v : Value} (hS : SL.Start S w ρ R) (hb : Below w.heap.size w w') (h1 : v.oneCell' = true) {e : Ending} (he : e = .returned v) :
    ∃ v' S' ρ', e = .returned v' ∧ RdA S' w' ρ' v' (.d (.p (.v v))) ∧ Inv ⟨w, S, feet ρ R, ρ, []⟩ S' w' ρ' R :=
  ⟨v, S, ρ, he, .d (.p (.v _ h1)), hS.inv.grow (fun _ h => h) (fun b hb => .inl hb) hb.block hb.size hb.os ⟨hb.tape, fun e => absurd (show false = true from e) (by decide)⟩ hb.output⟩
theorem itoaK (i : Nat) (h : i < 10) : CallOk Tryz.prog 294 [.d (.p (.v (.int .i64 (i : Int))))] [] (.d (.p (.v (.string ⟨#[UInt8.ofNat (48 + i)]⟩)))) [] := by
  intro S w ρ vs hS hA
  obtain ⟨v0, rfl, r0⟩ : ∃ v0, vs = [v0] ∧ RdA S w ρ v0 (.d (.p (.v (.int .i64 (i : Int))))) := by
    match vs, hA with
    | [v0], h => exact ⟨v0, rfl, h.1⟩
    | [], h => exact h.elim
    | _ :: _ :: _, h => exact h.2.elim
  have e0 := r0.exact_inv
  subst e0
  refine (Tryz.strconv_Itoa_small i (by omega) w).mono fun e w' hp => ?_
  obtain ⟨he, rfl⟩ := hp
  have hd : Lib.decDigits i = [UInt8.ofNat (48 + i)] := by rw [Lib.decDigits, dif_pos h]
  rw [hd] at he
  exact ⟨_, S, ρ, he, .d (.p (.v _ rfl)), hS.inv⟩
theorem joinK (l : List ByteArray) (s : ByteArray) (hne : l ≠ []) (hN : l.length ≤ 1000000) (hlen : (Lib.join (l.map (·.data.toList)) s.data.toList).length ≤ 140737488355328) :
    CallOk Tryz.prog 295 [.d (.p (.s (l.map fun x => [.v (.string x)]))), .d (.p (.v (.string s)))] [] (.d (.p (.v (.string ⟨(Lib.join (l.map (·.data.toList)) s.data.toList).toArray⟩)))) [] := by
  intro S w ρ vs hS hA
  obtain ⟨v0, v1, rfl, r0, r1⟩ : ∃ v0 v1, vs = [v0, v1] ∧ RdA S w ρ v0 (.d (.p (.s (l.map fun x => [.v (.string x)])))) ∧ RdA S w ρ v1 (.d (.p (.v (.string s)))) := by
    match vs, hA with
    | [v0, v1], h => exact ⟨v0, v1, rfl, h.1, h.2.1⟩
    | [], h => exact h.elim
    | [_], h => exact h.2.elim
    | _ :: _ :: _ :: _, h => exact h.2.2.elim
  have e1 := r1.exact_inv
  subst e1
  obtain ⟨ao, cap, rfl, hcap, _, hcells⟩ := cells_at (f := Value.string) hS.sup (rdS r0.d_inv)
  obtain ⟨x0, h0⟩ : ∃ x, l[0]? = some x := by
    cases l with
    | nil => exact absurd rfl hne
    | cons a r => exact ⟨a, rfl⟩
  obtain ⟨ab, o, rfl, hab, _⟩ := hcells 0 x0 h0
  refine (Tryz.strings_Join ab o cap l s w (fun j x hj => ?_) hab (by omega) hcap hlen).mono fun e w' hp => leaves hS hp.2 rfl hp.1
  obtain ⟨ab', o', e, _, hcl⟩ := hcells j x hj
  cases e
  exact hcl
end Go.Proofs.YtopmfoohdkjgmaaGreatDoor
set_option linter.unusedVariables false
namespace Go.Proofs.YtopmfoohdkjgmaaGreatDoor
open Go Go.RowKit Go.Shelf Go.SL
def rowAV (r : List Pd) : AV := match r with | [x] => .d (.p x) | l => .agg (l.map D.p)
def enR (rows : List (List Pd)) : List (List AV) := ((List.range rows.length).zip rows).reverse.map fun x => [.d (.p (xi (x.1 : Int))), rowAV x.2]
attribute [local go_sem] Oper.semAt_some

theorem cell_by {w : World} {a b : Addr} {v : Value} (h : w.cell? a = some v) (h1 : a.block = b.block) (h2 : a.off = b.off) (h3 : b.spot = none) : w.cell? b = some v := by
  unfold World.cell? at *
  rw [← h1, ← h2, h3]
  split at h
  · rename_i e
    split at h
    · cases h
    · simpa using h
  · cases h
theorem ips1 {S : Nat → Prop} {w : World} {caps : List Value} {rows : List (List Pd)} (h : All2 (Rd S w []) caps [.ip [.s rows]]) : ∃ (p : Addr) (v : Value), caps = [.pointer (some p)] ∧ S p.block ∧ w.cell? p = some v ∧ RdP S w v (.s rows) := by
  match caps, h with
  | [c], ⟨h1, _⟩ =>
    cases h1 with
    | @ip p _ h =>
      obtain ⟨x, h2, h3, h4⟩ := h 0 _ rfl
      refine ⟨p, x, rfl, h2, ?_, h4⟩
      rwa [show p.add 0 = p from by simp [Addr.add]] at h3
theorem enR_len (rows : List (List Pd)) : (enR rows).length = rows.length := by simp [enR]
theorem enR_get {rows : List (List Pd)} {k : Nat} (h : k < rows.length) : (enR rows)[k]? = some [.d (.p (xi (((rows.length - 1 - k : Nat) : Int)))), rowAV (rows[rows.length - 1 - k]'(by omega))] := by
  unfold enR
  rw [List.getElem?_map, List.getElem?_reverse (by simpa using h)]
  simp only [List.length_zip, List.length_range, Nat.min_self]
  rw [(List.getElem?_zip_eq_some (z := (rows.length - 1 - k, rows[rows.length - 1 - k]))).2 ⟨List.getElem?_range (by omega), List.getElem?_eq_getElem (by omega)⟩]
  rfl
/-- the element's value -/
abbrev vv574 (cc : Nat → Nat → Value) (m : Nat) : Value := .agg #[cc m 0, cc m 1, cc m 2]
set_option maxRecDepth 100000 in
set_option maxHeartbeats 2000000 in
theorem bk574_in (l len cap : Nat) (p ad : Addr) (cc : Nat → Nat → Value) (hreach : len ≤ 9223372036854775807) (S : Nat → Prop) (hSb : S p.block) (J : Nat → World → Prop) (Jx : World → Prop)
    (W : World) (hY : ∀ k W1, k < len → J k W1 → (∀ k, S k → W1.heap[k]? = W.heap[k]?) → YieldAt Fence.wide 1 Tryz.prog l #[.int .i64 (((len - 1 - k : Nat) : Int)), vv574 cc (len - 1 - k)] W1 fun e W' =>
      (e = .returned (.bool true) ∧ J (k + 1) W' ∧ ∀ k, S k → W'.heap[k]? = W1.heap[k]?) ∨ (e = .returned (.bool false) ∧ Jx W'))
    (hBs : W.cell? p = some (.slice (some ad) len cap)) (hSs : 0 < len → S ad.block) (hl : ∀ m j, m < len → j < 3 → W.cell? (ad.add (m * 3 + j)) = some (cc m j)) (h0 : J 0 W) :
    CallsIn Fence.wide 2 Tryz.prog 574 #[.func (.yield l) #[] #[], .pointer (some p)] W fun e W' => (∃ v, e = .returned v) ∧ (J len W' ∨ Jx W') := by
  refine callsIn_of_wp Tryz.func574 rfl trivial ?_ rfl
  simp only [Tryz.ntmps574, List.size_toArray, List.length_cons, List.length_nil, Nat.reduceAdd, Nat.reduceSub, Array.replicate_succ, Array.replicate_zero, List.push_toArray, List.append_toArray, List.nil_append, List.cons_append]
  gi_wp2
  gi_loopw [3] (fun i wr => ∃ k : Nat, k ≤ len ∧ i = .int .i64 ((len : Int) - k - 1) ∧ J k wr ∧ ∀ q, S q → wr.heap[q]? = W.heap[q]?)
    (fun i _ => ((intOf i) + 1).toNat)
  case atStart => exact ⟨0, Nat.zero_le _, by rw [show (len : Int) - ((0 : Nat) : Int) - 1 = (len : Int) - 1 from by omega], h0, fun _ _ => rfl⟩
  case round =>
    obtain ⟨k, hk, rfl, hJs, hSk⟩ := hrel
    by_cases hlt : k < len
    · obtain ⟨m, hm⟩ : ∃ m : Nat, m = len - 1 - k := ⟨_, rfl⟩
      have hmi : (len : Int) - k - 1 = m := by omega
      have hml : m < len := by omega
      obtain ⟨fn, tmps, assign, body, hy, hR⟩ := hY _ wr hlt hJs hSk
      rw [← hm] at hy
      dsimp only [vv574] at hy
      have hcl : ∀ j, j < 3 → wr.cell? (ad.add (m * 3 + j)) = some (cc m j) := fun j hj => (World.cell?_of_block (a := ad.add (m * 3 + j)) (by rw [add_block]; exact hSk _ (hSs (by omega)))).trans (hl m j hml hj)
      have hx0 : wr.cell? (ad.add (m * 3)) = some (cc m 0) := hcl 0 (by decide)
      have hx1 : wr.cell? { block := (ad.add (m * 3)).block, off := (ad.add (m * 3)).off + 1 } = some (cc m 1) := cell_by (hcl 1 (by decide)) (by simp only [add_block]) (by simp only [Addr.add]; repeat' split <;> (first | omega | (simp; omega) | simp)) rfl
      have hx2 : wr.cell? { block := (ad.add (m * 3)).block, off := (ad.add (m * 3)).off + 2 } = some (cc m 2) := cell_by (hcl 2 (by decide)) (by simp only [add_block]) (by simp only [Addr.add]; repeat' split <;> (first | omega | (simp; omega) | simp)) rfl
      have hbx : wr.cell? p = some (.slice (some ad) len cap) := (World.cell?_of_block (a := p) (hSk p.block hSb)).trans hBs
      rw [hmi]
      have hm1 : (m : Int) - 1 = (len : Int) - ((k + 1 : Nat) : Int) - 1 := by omega
      have HM := Lib.hid hm1; clear hm1
      have HI := Lib.hid hmi; clear hmi
      have Hm := Lib.hid hm; clear hm
      have HSK := Lib.hid hSk; clear hSk
      clear hl hcl hSs
      gi_wp2
      refine hR.mono ?_
      rintro e W3 (⟨rfl, hJ3, hk3⟩ | ⟨rfl, hJx3⟩)
      · have HK3 := Lib.hid hk3; clear hk3
        gi_wp2
        go_roundw
        case rel => exact ⟨k + 1, by omega, by rw [← HM.out], hJ3, fun q hq => (HK3.out q hq).trans (HSK.out q hq)⟩
        case measure => (simp [intOf]; try omega)
      · gi_wp2
        refine bodyPost_ret (results_none rfl _ _ _) rfl ?_
        exact ⟨⟨_, rfl⟩, .inr hJx3⟩
    · obtain rfl : k = len := by omega
      have hneg : ((k : Int) - k - 1) = -1 := by omega
      rw [hneg]
      clear hneg
      gi_wp2
      go_end0
      exact ⟨⟨_, rfl⟩, .inl hJs⟩

theorem bk574_iter (rows : List (List Pd)) (h0 : rows ≠ []) (hz : ∀ r, r ∈ rows → r.length = 3) : IterOk3 Tryz.prog 574 [.ip [.s rows]] (enR rows) := by
  refine ⟨Go.SL.entersOf Tryz.func574 (by kernel_rfl) (by kernel_rfl), fun S caps l J Jx W hgl hS hc hJ hY hst => ?_⟩
  obtain ⟨p, v, rfl, hp, hv, hr⟩ := ips1 hc
  have hpos : 0 < rows.length := List.length_pos_iff.2 h0
  cases hr with
  | s a ad cap size rows xs hcp hm hzc hsz hx hrr =>
    have hrow : ∀ m, m < rows.length → ∃ r, rows[m]? = some r ∧ r.length = 3 := fun m hm => ⟨rows[m], List.getElem?_eq_getElem hm, hz _ (List.getElem_mem hm)⟩
    have hs1 : size = 3 := by
      obtain ⟨r, h1, h2⟩ := hrow 0 hpos
      rw [← hsz r (List.mem_of_getElem? h1)]; exact h2
    subst hs1
    have ha : a = some ad ∧ S ad.block := by
      obtain ⟨r, h1, h2⟩ := hrow 0 hpos
      obtain ⟨q1, q2, _⟩ := hx 0 r h1 0 r[0] (List.getElem?_eq_getElem (by omega))
      exact ⟨q1, q2⟩
    obtain ⟨rfl, hsa⟩ := ha
    refine (bk574_in l rows.length cap p ad xs (by unfold maxLen at hm; omega) S hp (fun k W => J ((enR rows).take k) (fun _ => False) W) Jx W (fun k W1 hk hJk hSk => ?_) hv (fun _ => hsa) (fun m j hm hj => ?_) (by simpa using hst)).mono ?_
    · have hg := enR_get hk
      have htk : (enR rows).take (k + 1) = (enR rows).take k ++ [[.d (.p (xi (((rows.length - 1 - k : Nat) : Int)))), rowAV (rows[rows.length - 1 - k]'(by omega))]] := by
        rw [List.take_add_one, hg]; rfl
      have hdr : enR rows = (enR rows).take k ++ [.d (.p (xi (((rows.length - 1 - k : Nat) : Int)))), rowAV (rows[rows.length - 1 - k]'(by omega))] :: (enR rows).drop (k + 1) := by
        have h1 := (List.take_append_drop (k + 1) (enR rows)).symm
        rw [htk] at h1
        simpa using h1
      have hy := hY ((enR rows).take k) _ ((enR rows).drop (k + 1)) (fun _ => False) W1 #[.int .i64 (((rows.length - 1 - k : Nat) : Int)), vv574 xs (rows.length - 1 - k)] hJk hdr ⟨.d (.p (.v _ rfl)), ?_, trivial⟩
      · obtain ⟨fn, tmps, asg, bd, y1, y2⟩ := hy
        refine ⟨fn, tmps, asg, bd, y1, y2.mono ?_⟩
        rintro e W' (⟨g1, g2, g3, _⟩ | g)
        · exact .inl ⟨g1, by rw [htk]; exact g2, fun q hq => g3 q (.inl hq)⟩
        · exact .inr g
      · have hb : rows.length - 1 - k < rows.length := by omega
        obtain ⟨r, h1, h2⟩ := hrow _ hb
        have e1 : rows[rows.length - 1 - k] = r := by
          rw [List.getElem?_eq_getElem hb] at h1; exact Option.some.inj h1
        rw [e1]
        have hcell : ∀ j (hj : j < r.length), RdP (fun k => S k ∨ False) W1 (xs (rows.length - 1 - k) j) r[j] := fun j hj =>
          (hrr _ r h1 j _ (List.getElem?_eq_getElem hj)).mono (fun _ h => .inl h) (fun b hb => hSk b hb)
        match r, h2, hcell with
        | [x0, x1, x2], _, hcell => exact .agg ⟨.p (hcell 0 (by simp)), .p (hcell 1 (by simp)), .p (hcell 2 (by simp)), trivial⟩
    · obtain ⟨r, h1, h2⟩ := hrow m hm
      exact (hx m r h1 j r[j] (List.getElem?_eq_getElem (by omega))).2.2
    · rintro e W' ⟨he, h | h⟩
      · refine ⟨he, .inl ⟨fun _ => False, ?_⟩⟩
        rwa [show rows.length = (enR rows).length from (enR_len rows).symm, List.take_length] at h
      · exact ⟨he, .inr h⟩
/-- the element's value -/
abbrev vv308 (cc : Nat → Nat → Value) (m : Nat) : Value := cc m 0
set_option maxRecDepth 100000 in
set_option maxHeartbeats 2000000 in
theorem bk308_in (l len cap : Nat) (p ad : Addr) (cc : Nat → Nat → Value) (hreach : len ≤ 9223372036854775807) (S : Nat → Prop) (hSb : S p.block) (J : Nat → World → Prop) (Jx : World → Prop)
    (W : World) (hY : ∀ k W1, k < len → J k W1 → (∀ k, S k → W1.heap[k]? = W.heap[k]?) → YieldAt Fence.wide 1 Tryz.prog l #[.int .i64 (((len - 1 - k : Nat) : Int)), vv308 cc (len - 1 - k)] W1 fun e W' =>
      (e = .returned (.bool true) ∧ J (k + 1) W' ∧ ∀ k, S k → W'.heap[k]? = W1.heap[k]?) ∨ (e = .returned (.bool false) ∧ Jx W'))
    (hBs : W.cell? p = some (.slice (some ad) len cap)) (hSs : 0 < len → S ad.block) (hl : ∀ m j, m < len → j < 1 → W.cell? (ad.add (m * 1 + j)) = some (cc m j)) (h0 : J 0 W) :
    CallsIn Fence.wide 2 Tryz.prog 308 #[.func (.yield l) #[] #[], .pointer (some p)] W fun e W' => (∃ v, e = .returned v) ∧ (J len W' ∨ Jx W') := by
  refine callsIn_of_wp Tryz.func308 rfl trivial ?_ rfl
  simp only [Tryz.ntmps308, List.size_toArray, List.length_cons, List.length_nil, Nat.reduceAdd, Nat.reduceSub, Array.replicate_succ, Array.replicate_zero, List.push_toArray, List.append_toArray, List.nil_append, List.cons_append]
  gi_wp2
  gi_loopw [3] (fun i wr => ∃ k : Nat, k ≤ len ∧ i = .int .i64 ((len : Int) - k - 1) ∧ J k wr ∧ ∀ q, S q → wr.heap[q]? = W.heap[q]?)
    (fun i _ => ((intOf i) + 1).toNat)
  case atStart => exact ⟨0, Nat.zero_le _, by rw [show (len : Int) - ((0 : Nat) : Int) - 1 = (len : Int) - 1 from by omega], h0, fun _ _ => rfl⟩
  case round =>
    obtain ⟨k, hk, rfl, hJs, hSk⟩ := hrel
    by_cases hlt : k < len
    · obtain ⟨m, hm⟩ : ∃ m : Nat, m = len - 1 - k := ⟨_, rfl⟩
      have hmi : (len : Int) - k - 1 = m := by omega
      have hml : m < len := by omega
      obtain ⟨fn, tmps, assign, body, hy, hR⟩ := hY _ wr hlt hJs hSk
      rw [← hm] at hy
      dsimp only [vv308] at hy
      have hcl : ∀ j, j < 1 → wr.cell? (ad.add (m * 1 + j)) = some (cc m j) := fun j hj => (World.cell?_of_block (a := ad.add (m * 1 + j)) (by rw [add_block]; exact hSk _ (hSs (by omega)))).trans (hl m j hml hj)
      have hx0 : wr.cell? (ad.add m) = some (cc m 0) := by have := hcl 0 (by decide); rwa [Nat.mul_one, Nat.add_zero] at this
      have hbx : wr.cell? p = some (.slice (some ad) len cap) := (World.cell?_of_block (a := p) (hSk p.block hSb)).trans hBs
      rw [hmi]
      have hm1 : (m : Int) - 1 = (len : Int) - ((k + 1 : Nat) : Int) - 1 := by omega
      have HM := Lib.hid hm1; clear hm1
      have HI := Lib.hid hmi; clear hmi
      have Hm := Lib.hid hm; clear hm
      have HSK := Lib.hid hSk; clear hSk
      clear hl hcl hSs
      gi_wp2
      refine hR.mono ?_
      rintro e W3 (⟨rfl, hJ3, hk3⟩ | ⟨rfl, hJx3⟩)
      · have HK3 := Lib.hid hk3; clear hk3
        gi_wp2
        go_roundw
        case rel => exact ⟨k + 1, by omega, by rw [← HM.out], hJ3, fun q hq => (HK3.out q hq).trans (HSK.out q hq)⟩
        case measure => (simp [intOf]; try omega)
      · gi_wp2
        refine bodyPost_ret (results_none rfl _ _ _) rfl ?_
        exact ⟨⟨_, rfl⟩, .inr hJx3⟩
    · obtain rfl : k = len := by omega
      have hneg : ((k : Int) - k - 1) = -1 := by omega
      rw [hneg]
      clear hneg
      gi_wp2
      go_end0
      exact ⟨⟨_, rfl⟩, .inl hJs⟩

theorem bk308_iter (rows : List (List Pd)) (h0 : rows ≠ []) (hz : ∀ r, r ∈ rows → r.length = 1) : IterOk3 Tryz.prog 308 [.ip [.s rows]] (enR rows) := by
  refine ⟨Go.SL.entersOf Tryz.func308 (by kernel_rfl) (by kernel_rfl), fun S caps l J Jx W hgl hS hc hJ hY hst => ?_⟩
  obtain ⟨p, v, rfl, hp, hv, hr⟩ := ips1 hc
  have hpos : 0 < rows.length := List.length_pos_iff.2 h0
  cases hr with
  | s a ad cap size rows xs hcp hm hzc hsz hx hrr =>
    have hrow : ∀ m, m < rows.length → ∃ r, rows[m]? = some r ∧ r.length = 1 := fun m hm => ⟨rows[m], List.getElem?_eq_getElem hm, hz _ (List.getElem_mem hm)⟩
    have hs1 : size = 1 := by
      obtain ⟨r, h1, h2⟩ := hrow 0 hpos
      rw [← hsz r (List.mem_of_getElem? h1)]; exact h2
    subst hs1
    have ha : a = some ad ∧ S ad.block := by
      obtain ⟨r, h1, h2⟩ := hrow 0 hpos
      obtain ⟨q1, q2, _⟩ := hx 0 r h1 0 r[0] (List.getElem?_eq_getElem (by omega))
      exact ⟨q1, q2⟩
    obtain ⟨rfl, hsa⟩ := ha
    refine (bk308_in l rows.length cap p ad xs (by unfold maxLen at hm; omega) S hp (fun k W => J ((enR rows).take k) (fun _ => False) W) Jx W (fun k W1 hk hJk hSk => ?_) hv (fun _ => hsa) (fun m j hm hj => ?_) (by simpa using hst)).mono ?_
    · have hg := enR_get hk
      have htk : (enR rows).take (k + 1) = (enR rows).take k ++ [[.d (.p (xi (((rows.length - 1 - k : Nat) : Int)))), rowAV (rows[rows.length - 1 - k]'(by omega))]] := by
        rw [List.take_add_one, hg]; rfl
      have hdr : enR rows = (enR rows).take k ++ [.d (.p (xi (((rows.length - 1 - k : Nat) : Int)))), rowAV (rows[rows.length - 1 - k]'(by omega))] :: (enR rows).drop (k + 1) := by
        have h1 := (List.take_append_drop (k + 1) (enR rows)).symm
        rw [htk] at h1
        simpa using h1
      have hy := hY ((enR rows).take k) _ ((enR rows).drop (k + 1)) (fun _ => False) W1 #[.int .i64 (((rows.length - 1 - k : Nat) : Int)), vv308 xs (rows.length - 1 - k)] hJk hdr ⟨.d (.p (.v _ rfl)), ?_, trivial⟩
      · obtain ⟨fn, tmps, asg, bd, y1, y2⟩ := hy
        refine ⟨fn, tmps, asg, bd, y1, y2.mono ?_⟩
        rintro e W' (⟨g1, g2, g3, _⟩ | g)
        · exact .inl ⟨g1, by rw [htk]; exact g2, fun q hq => g3 q (.inl hq)⟩
        · exact .inr g
      · have hb : rows.length - 1 - k < rows.length := by omega
        obtain ⟨r, h1, h2⟩ := hrow _ hb
        have e1 : rows[rows.length - 1 - k] = r := by
          rw [List.getElem?_eq_getElem hb] at h1; exact Option.some.inj h1
        rw [e1]
        have hcell : ∀ j (hj : j < r.length), RdP (fun k => S k ∨ False) W1 (xs (rows.length - 1 - k) j) r[j] := fun j hj =>
          (hrr _ r h1 j _ (List.getElem?_eq_getElem hj)).mono (fun _ h => .inl h) (fun b hb => hSk b hb)
        match r, h2, hcell with
        | [x0], _, hcell => exact .d (.p (hcell 0 (by simp)))
    · obtain ⟨r, h1, h2⟩ := hrow m hm
      exact (hx m r h1 j r[j] (List.getElem?_eq_getElem (by omega))).2.2
    · rintro e W' ⟨he, h | h⟩
      · refine ⟨he, .inl ⟨fun _ => False, ?_⟩⟩
        rwa [show rows.length = (enR rows).length from (enR_len rows).symm, List.take_length] at h
      · exact ⟨he, .inr h⟩
end Go.Proofs.YtopmfoohdkjgmaaGreatDoor
set_option linter.unusedVariables false
namespace Go.Proofs.YtopmfoohdkjgmaaGreatDoor
open Go Go.SL
def hFA (args : List AV) (R : List Res) : Option (AV × List Res) := match args, R with
  | [.agg [.p (.s []), .p (.s []), .p (.s [])], .d (.p (.s []))], [] => some (.d (.p (.s [])), [])
  | _, _ => none
def hWR (args : List AV) (R : List Res) : Option (AV × List Res) := match args, R with
  | [.d (.p (.s rows))], [] => bif eqRows rows zr then some (.tup [.agg zs, .d (.p (xb true))], []) else none
  | _, _ => none
def hDC (args : List AV) (R : List Res) : Option (AV × List Res) := match args, R with
  | [.agg [.p (.s rows)]], [] => bif eqRows rows [sg1] then some (.d (.p (xi 0)), []) else none
  | _, _ => none
def hIT (args : List AV) (R : List Res) : Option (AV × List Res) := match args, R with
  | [.d (.p (.v (.int .i64 (.ofNat i))))], [] => bif Nat.blt i 10 then some (.d (.p (.v (.string ⟨#[UInt8.ofNat (48 + i)]⟩))), []) else none
  | _, _ => none
def decS : List (List Pd) → Option (List ByteArray)
  | [] => some []
  | [.v (.string a)] :: l => (decS l).map fun r => a :: r
  | _ => none
theorem decS_ok : ∀ {rows : List (List Pd)} {l : List ByteArray}, decS rows = some l → rows = l.map fun x => [.v (.string x)] := by
  intro rows
  induction rows with
  | nil => intro l h; simp only [decS, Option.some.injEq] at h; subst h; rfl
  | cons r rows ih =>
    intro l h
    unfold decS at h
    split at h
    · cases ‹_ :: _ = []›
    · rename_i a l' e
      cases e
      cases hd : decS rows with
      | none => rw [hd] at h; cases h
      | some y =>
        rw [hd] at h
        simp only [Option.map_some, Option.some.injEq] at h
        subst h
        rw [ih hd]; rfl
    · cases h
def hJO (args : List AV) (R : List Res) : Option (AV × List Res) := match args, R with
  | [.d (.p (.s (r :: rows))), .d (.p (.v (.string s)))], [] => match decS (r :: rows) with
    | some l => bif Nat.ble l.length 1000000 && Nat.ble (Lib.join (l.map (·.data.toList)) s.data.toList).length 140737488355328 then some (.d (.p (.v (.string ⟨(Lib.join (l.map (·.data.toList)) s.data.toList).toArray⟩))), []) else none
    | none => none
  | _, _ => none
def exH : Hand_ := fun f => match f with
  | 207 => some hFA
  | 268 => some hWR
  | 56 => some hDC
  | 294 => some hIT
  | 295 => some hJO
  | _ => none
theorem exHok : HandOk Tryz.prog exH := by
  intro f h hf args R res R2 e
  unfold exH at hf
  split at hf <;> cases hf
  · refine ⟨Go.SL.entersOf Tryz.func207 (by kernel_rfl) (by kernel_rfl), ?_⟩
    unfold hFA at e
    split at e <;> cases e
    exact fallsK0
  · refine ⟨Go.SL.entersOf Tryz.func268 (by kernel_rfl) (by kernel_rfl), ?_⟩
    unfold hWR at e
    split at e
    · rename_i rows
      cases hq : eqRows rows zr with
      | false => rw [hq] at e; cases e
      | true => rw [hq] at e; cases e; rw [eqRows_ok hq]; exact wreadK
    · cases e
  · refine ⟨Go.SL.entersOf Tryz.func56 (by kernel_rfl) (by kernel_rfl), ?_⟩
    unfold hDC at e
    split at e
    · rename_i rows
      cases hq : eqRows rows [sg1] with
      | false => rw [hq] at e; cases e
      | true => rw [hq] at e; cases e; rw [eqRows_ok hq]; exact dcheckK
    · cases e
  · refine ⟨Go.SL.entersOf Tryz.func294 (by kernel_rfl) (by kernel_rfl), ?_⟩
    unfold hIT at e
    split at e
    · rename_i i
      cases hq : Nat.blt i 10 with
      | false => rw [hq] at e; cases e
      | true => rw [hq] at e; cases e; exact itoaK i (by rwa [Nat.blt_eq] at hq)
    · cases e
  · refine ⟨Go.SL.entersOf Tryz.func295 (by kernel_rfl) (by kernel_rfl), ?_⟩
    unfold hJO at e
    split at e
    · rename_i r rows s
      split at e
      · rename_i l hl
        cases hq : Nat.ble l.length 1000000 && Nat.ble (Lib.join (l.map (·.data.toList)) s.data.toList).length 140737488355328 with
        | false => rw [hq] at e; cases e
        | true =>
          rw [hq] at e; cases e
          simp only [Bool.and_eq_true] at hq
          have h1 := decS_ok hl
          rw [h1]
          exact joinK l s (fun h => by rw [h] at h1; cases h1) (Nat.le_of_ble_eq_true hq.1) (Nat.le_of_ble_eq_true hq.2)
      · cases e
    · cases e
def lenAll (n : Nat) : List (List Pd) → Bool
  | [] => true
  | r :: l => Nat.beq r.length n && lenAll n l
theorem lenAll_ok {n : Nat} : ∀ {l : List (List Pd)}, lenAll n l = true → ∀ r, r ∈ l → r.length = n
  | r :: l, h, x, hx => by
    simp only [lenAll, Bool.and_eq_true] at h
    rcases List.mem_cons.1 hx with rfl | hx
    · exact Nat.eq_of_beq_eq_true h.1
    · exact lenAll_ok h.2 x hx
def exIh : Ih_ := fun f ips => match ips with
  | [.ip [.s (r :: rows)]] => match f with
    | 308 => bif lenAll 1 (r :: rows) then some (enR (r :: rows)) else none
    | 574 => bif lenAll 3 (r :: rows) then some (enR (r :: rows)) else none
    | _ => none
  | _ => none
theorem exIhok : ItOk Tryz.prog exIh := by
  intro f ips xs h
  unfold exIh at h
  split at h
  · rename_i r rows
    split at h
    · cases hq : lenAll 1 (r :: rows) with
      | false => rw [hq] at h; cases h
      | true => rw [hq] at h; cases h; exact bk308_iter _ (by simp) (lenAll_ok hq)
    · cases hq : lenAll 3 (r :: rows) with
      | false => rw [hq] at h; cases h
      | true => rw [hq] at h; cases h; exact bk574_iter _ (by simp) (lenAll_ok hq)
    · cases h
  · cases h
def exL : FuncId → Bool := fun f => !(memN [28, 29, 30, 31, 32, 33, 34, 72, 112, 81, 82, 84, 85, 162, 163, 192, 251, 252, 258, 301, 308, 318, 321, 338, 340, 399, 416, 451, 515, 553, 574] f)
end Go.Proofs.YtopmfoohdkjgmaaGreatDoor
