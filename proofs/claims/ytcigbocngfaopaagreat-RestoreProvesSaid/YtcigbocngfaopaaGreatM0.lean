import Derived.Test.YtcigbocngfaopaaGreatRows
import Derived.Test.YtcigbocngfaopaaGreatMo
import Derived.Test.YtcigbocngfaopaaGreatBw
import Derived.Test.YtcigbocngfaopaaGreatIn
set_option linter.unusedVariables false
set_option maxHeartbeats 4000000
namespace Go.Proofs.YtcigbocngfaopaaGreat
open Go.SL
abbrev v0_ (l : List Int) : Res := .sl 3 1 (l.map pI)
abbrev v1_ (l : List Bool) : Res := .sl 4 1 (l.map pB)
abbrev v2_ (l : List An) : Res := .sl 47 3 (l.map q47)
abbrev v3_ (l : List Al) : Res := .sl 92 2 (l.map q92)
abbrev v4_ (l : List Ae) : Res := .sl 87 4 (l.map q87)
abbrev v5_ (l : List Aj) : Res := .sl 62 3 (l.map q62)
abbrev v6_ (l : List Af) : Res := .sl 49 3 (l.map q49)
abbrev v7_ (l : List A9) : Res := .sl 98 3 (l.map q98)
abbrev v8_ (l : List A3) : Res := .sl 90 5 (l.map q90)
abbrev CO := CallOk Tryz.prog
abbrev EN := Eu Tryz.prog
abbrev Cz {α0 α1 α2 α3 : Type} (z : α0 × α1 × α2 × α3) : α3 := z.2.2.2
abbrev g3_ {α0 α1 α2 α3 α4 : Type} (z : α0 × α1 × α2 × α3 × α4) : α3 := z.2.2.2.1
abbrev E8 {α0 α1 α2 α3 α4 : Type} (z : α0 × α1 × α2 × α3 × α4) : α4 := z.2.2.2.2
abbrev g4_ {α0 α1 α2 α3 α4 α5 : Type} (z : α0 × α1 × α2 × α3 × α4 × α5) : α4 := z.2.2.2.2.1
abbrev g5_ {α0 α1 α2 α3 α4 α5 α6 : Type} (z : α0 × α1 × α2 × α3 × α4 × α5 × α6) : α5 := z.2.2.2.2.2.1
abbrev g6_ {α0 α1 α2 α3 α4 α5 α6 α7 : Type} (z : α0 × α1 × α2 × α3 × α4 × α5 × α6 × α7) : α6 := z.2.2.2.2.2.2.1
abbrev g7_ {α0 α1 α2 α3 α4 α5 α6 α7 α8 : Type} (z : α0 × α1 × α2 × α3 × α4 × α5 × α6 × α7 × α8) : α7 := z.2.2.2.2.2.2.2.1
abbrev g8_ {α0 α1 α2 α3 α4 α5 α6 α7 α8 α9 : Type} (z : α0 × α1 × α2 × α3 × α4 × α5 × α6 × α7 × α8 × α9) : α8 := z.2.2.2.2.2.2.2.2.1
abbrev g9_ {α0 α1 α2 α3 α4 α5 α6 α7 α8 α9 α10 : Type} (z : α0 × α1 × α2 × α3 × α4 × α5 × α6 × α7 × α8 × α9 × α10) : α9 := z.2.2.2.2.2.2.2.2.2.1
abbrev Ef {α0 α1 α2 α3 α4 α5 α6 α7 α8 α9 α10 : Type} (z : α0 × α1 × α2 × α3 × α4 × α5 × α6 × α7 × α8 × α9 × α10) : α10 := z.2.2.2.2.2.2.2.2.2.2
abbrev Da {α0 α1 α2 α3 α4 α5 α6 α7 α8 α9 α10 α11 : Type} (z : α0 × α1 × α2 × α3 × α4 × α5 × α6 × α7 × α8 × α9 × α10 × α11) : α10 := z.2.2.2.2.2.2.2.2.2.2.1
abbrev Es {α0 α1 α2 α3 α4 α5 α6 α7 α8 α9 α10 α11 : Type} (z : α0 × α1 × α2 × α3 × α4 × α5 × α6 × α7 × α8 × α9 × α10 × α11) : α11 := z.2.2.2.2.2.2.2.2.2.2.2
abbrev Lp {α0 α1 α2 α3 α4 α5 α6 α7 α8 α9 α10 α11 α12 : Type} (z : α0 × α1 × α2 × α3 × α4 × α5 × α6 × α7 × α8 × α9 × α10 × α11 × α12) : α11 := z.2.2.2.2.2.2.2.2.2.2.2.1
abbrev Ip {α0 α1 α2 α3 α4 α5 α6 α7 α8 α9 α10 α11 α12 : Type} (z : α0 × α1 × α2 × α3 × α4 × α5 × α6 × α7 × α8 × α9 × α10 × α11 × α12) : α12 := z.2.2.2.2.2.2.2.2.2.2.2.2
theorem sI {α : Type} {a b : α} (h : some a = some b) : a = b := cq h
abbrev zb (b : Aa) (l : List D) : List D := I b.Ao :: DS q49 b.Ad :: DS q98 b.Ac :: DS q90 b.Ai :: I b.Phase :: I b.Ar :: l
abbrev zp (p : Ab) (l : List Res) : List Res := .sl 4 1 (p.Ah.map pB) :: .sl 87 4 (p.Ac.map q87) :: .sl 3 1 (p.As.map pI) :: .sl 92 2 (p.Ak.map q92) :: l
abbrev ze (l : List Res) : List Res := .sl 4 1 (([] : List Bool).map pB) :: .sl 87 4 (([] : List Ae).map q87) :: .sl 3 1 (([] : List Int).map pI) :: .sl 92 2 (([] : List Al).map q92) :: l
abbrev zs (b : Aa) (l : List Res) : List Res := .sl 49 3 (b.Ad.map q49) :: .sl 98 3 (b.Ac.map q98) :: .sl 90 5 (b.Ai.map q90) :: l
abbrev zt {α : Type} (b : Aa) (r : α) : Int × List Af × List A9 × List A3 × Int × Int × α := (b.Ao, b.Ad, b.Ac, b.Ai, b.Phase, b.Ar, r)
abbrev zu {α : Type} (p : Ab) (r : α) : List Bool × List Ae × List Int × List Al × α := (p.Ah, p.Ac, p.As, p.Ak, r)
abbrev n3_ : List Nat := [0, 1, 2]
abbrev n4_ : List Nat := [0, 1, 2, 3]
abbrev n5_ : List Nat := [0, 1, 2, 3, 4]
abbrev n6_ : List Nat := [0, 1, 2, 3, 4, 5]
abbrev n7_ : List Nat := [0, 1, 2, 3, 4, 5, 6]
abbrev n8_ : List Nat := [0, 1, 2, 3, 4, 5, 6, 7]
abbrev n9_ : List Nat := [0, 1, 2, 3, 4, 5, 6, 7, 8]
abbrev Hg : List Nat := [0, 1, 2, 3, 4, 5, 6, 7, 8, 9]
abbrev Kd : List Nat := [0, 1, 2, 3, 4, 5, 6, 7, 8, 9, 10]
abbrev Ek : List Nat := [0, 1, 2, 3, 4, 5, 6, 7, 8, 9, 10, 11]
abbrev Ej : List Nat := [0, 1, 2, 3, 4, 5, 6, 7, 8, 9, 10, 11, 12]
abbrev Xv : List Nat := [0, 1, 2, 3, 4, 5, 6, 7, 8, 9, 10, 11, 12, 13]
abbrev C8 : List Nat := [0, 1, 2, 3, 4, 5, 6, 7, 8, 9, 10, 11, 12, 13, 14]
abbrev G2 : List Nat := [0, 1, 2, 3, 4, 5, 6, 7, 8, 9, 10, 11, 12, 13, 14, 15]
abbrev Ahn : List Nat := [0, 1, 2, 3, 4, 5, 6, 7, 8, 9, 10, 11, 12, 13, 14, 15, 16]
theorem Hh : Tryz.prog.follows .mixedOrders = true := by kernel_rfl
abbrev PC := {c : Cl // Cl.ok Tryz.prog c}
abbrev PB := {p : Bool × Bool // p.1 = p.2}
theorem okP : ∀ l : List PC, C7 Tryz.prog (l.map (·.1))
 | [] => trivial
 | c :: l => ⟨c.2, okP l⟩
theorem okB : ∀ l : List PB, Cy (l.map (·.1))
 | [] => trivial
 | ⟨(_, _), h⟩ :: l => ⟨h, okB l⟩
def pq {a b : Bool} (h : a = b) : PB := ⟨(a, b), h⟩
def pc {f : FuncId} {args : List AV} {R R2 : List Res} {res : AV} (e : Eu Tryz.prog f) (k : CallOk Tryz.prog f args R res R2) (pi : List Nat) : PC := ⟨.call f args R res R2 pi, e, k⟩
def pb {f : FuncId} {args : List AV} {res : AV} (e : Eu Tryz.prog f) (k : CallOk Tryz.prog f args [] res []) : PC := ⟨.callB f args res [[]] 0 [], jB ⟨e, k⟩⟩
def pw {g : List (Bool × Bool)} {f : FuncId} {args : List AV} {R R2 : List Res} {res : AV} (e : Eu Tryz.prog f) (k : Cy g -> CallOk Tryz.prog f args R res R2) (pi : List Nat) : PC := ⟨.when g (.call f args R res R2 pi), λ h => ⟨e, k h⟩⟩
def pv {g : List (Bool × Bool)} {f : FuncId} {args : List AV} {res : AV} (e : Eu Tryz.prog f) (k : Cy g -> CallOk Tryz.prog f args [] res []) : PC := ⟨.when g (.callB f args res [[]] 0 []), λ h => jB ⟨e, k h⟩⟩
section
variable {α : Type}
def pl (q : α -> List Pd) (l : List α) : PC := ⟨.len ((l.map q).length : Int) (l.length : Int), Q7 l q⟩
def pL_ (g : List (Bool × Bool)) (q : α -> List Pd) (l : List α) : PC := ⟨.when g (.len ((l.map q).length : Int) (l.length : Int)), λ _ => Q7 l q⟩
def pr (q : α -> List Pd) {l : List α} {n : Int} {x : α} (h : getI l n = some x) : PC := ⟨.row (l.map q) n (q x), Qv h⟩
def pn (q : α -> List Pd) {l : List α} {n : Int} {x : α} (h : getI l n = some x) : PC := ⟨.row (l.map q) ((n.toNat : Nat) : Int) (q x), Hz h⟩
def pt {q : α -> List Pd} {l : List α} {i : Nat} {x : α} (hx : l[i]? = some x) (hl : (l.map q).length <= maxLen) : PC := ⟨.row (l.map q) (cnt 0 i) (q x), At3 hx hl⟩
def pR (q : α -> List Pd) {g : List (Bool × Bool)} {l : List α} {n : Int} {x d : α} (h : Ax g (getI l n) d = some x) : PC := ⟨.when g (.row (l.map q) n (q x)), λ hg => Qv (A0 h hg)⟩
def pN (q : α -> List Pd) {g : List (Bool × Bool)} {l : List α} {n : Int} {x d : α} (h : Ax g (getI l n) d = some x) : PC := ⟨.when g (.row (l.map q) ((n.toNat : Nat) : Int) (q x)), λ hg => Hz (A0 h hg)⟩
def pa (q : α -> List Pd) (size : Nat) {B : Nat} {l m y : List α} (h : appI (B + 1) l m = some y) (hs : ∀ x, (q x).length = size := by exact λ _ => rfl) : PC := ⟨.app (l.map q) (m.map q) size (((l.map q).length + (m.map q).length) * (B + 1)) (y.map q), Ie q size hs h⟩
def pu (q : α -> List Pd) {l y : List α} {n : Int} {x x' : α} (hx : getI l n = some x) (h : setI l n x' = some y) : PC := ⟨.upd (l.map q) n.toNat (q x) (q x') (y.map q), Ae6 hx h⟩
end
theorem ws {ro : Option Nat} {n : Nat} {C : Ctx} {Q : Exit -> Act -> World -> Prop} {st : St} {R : List Res} {items : List It} (lv : List Nat) (fuel : Nat) (ds : List Bool) (cls : List PC) (adj : List Adj) (k : Nat) (pi : List Nat) (st' : St) (R' : List Res) (hk : C.h.length <= k) (bs : List PB) (hW : WI ro Tryz.prog n C Q (Bu fuel items ds) st' R') (h : Fk Tryz.prog n lv fuel items st R ds (cls.map (·.1)) adj k pi (Ln st') = some (st', R', cls.map (·.1), bs.map (·.1)) := by kernel_rfl) : WI ro Tryz.prog n C Q items st R := Yl Hh lv fuel ds (cls.map (·.1)) adj k pi st' R' hk (okP cls) (okB bs) h hW
def wo (o : Option (St × List Res × List Cl × List (Bool × Bool))) : St × List Res := match o with
 | some (s, r, _, _) => (s, r)
 | none => ([], [])
theorem wn {ro : Option Nat} {n : Nat} {C : Ctx} {Q : Exit -> Act -> World -> Prop} {st : St} {R : List Res} {items : List It} (lv : List Nat) (fuel : Nat) (ds : List Bool) (cls : List PC) (adj : List Adj) (k : Nat) (pi : List Nat) (ks : List Nat) (hk : C.h.length <= k) (bs : List PB) (hW : WI ro Tryz.prog n C Q (Bu fuel items ds) (wo (Fk Tryz.prog n lv fuel items st R ds (cls.map (·.1)) adj k pi ks)).1 (wo (Fk Tryz.prog n lv fuel items st R ds (cls.map (·.1)) adj k pi ks)).2) (h : (Fk Tryz.prog n lv fuel items st R ds (cls.map (·.1)) adj k pi ks).map (λ x => (Ln x.1, x.2.2.1, x.2.2.2)) = some (ks, cls.map (·.1), bs.map (·.1)) := by kernel_rfl) : WI ro Tryz.prog n C Q items st R := by
 cases e : Fk Tryz.prog n lv fuel items st R ds (cls.map (·.1)) adj k pi ks with
 | none => rw [e] at h; cases h
 | some x =>
  obtain ⟨s, r, c, b⟩ := x
  rw [e] at h hW
  simp only [bM, aj, aE] at h
  obtain ⟨h1, h2, h3⟩ := h
  subst h1; subst h2; subst h3
  exact Yl Hh lv fuel ds _ adj k pi s r hk (okP cls) (okB bs) e hW
theorem we {ro : Option Nat} {n : Nat} {C : Ctx} {Q : Exit -> Act -> World -> Prop} {st : St} {R : List Res} {items : List It} {σ : Type} {φ : σ -> Prop} {st' : σ -> St} {R' : σ -> List Res} (lv : List Nat) (fuel : Nat) (ds : List Bool) (cls : List PC) (adj : List Adj) (k : Nat) (pi : List Nat) (s : σ) (hk : C.h.length <= k) (bs : List PB) (h1 : φ s) (hi : hdK (Bu fuel items ds) = Ex n C φ st' R' := by kernel_rfl) (h : Fk Tryz.prog n lv fuel items st R ds (cls.map (·.1)) adj k pi (Ln (st' s)) = some (st' s, R' s, cls.map (·.1), bs.map (·.1)) := by kernel_rfl) : WI ro Tryz.prog n C Q items st R := An9 Hh lv fuel ds (cls.map (·.1)) adj k pi s hk (okP cls) (okB bs) hi h h1
theorem wx {σ : Type} {τ : Type} (w : Ctl σ τ) (st' : σ -> St) (R' : σ -> List Res) {ro : Option Nat} {n : Nat} {C : Ctx} {Q : Exit -> Act -> World -> Prop} {st : St} {R : List Res} {items : List It} (lv : List Nat) (fuel : Nat) (ds : List Bool) (cls : List PC) (adj : List Adj) (k : Nat) (pi : List Nat) (s : σ) (hk : C.h.length <= k) (bs : List PB) (h1 : w = .next s) (hi : hdK (Bu fuel items ds) = Ex n C (λ s' => w = .next s') st' R' := by kernel_rfl) (h : Fk Tryz.prog n lv fuel items st R ds (cls.map (·.1)) adj k pi (Ln (st' s)) = some (st' s, R' s, cls.map (·.1), bs.map (·.1)) := by kernel_rfl) : WI ro Tryz.prog n C Q items st R := An9 Hh lv fuel ds (cls.map (·.1)) adj k pi s hk (okP cls) (okB bs) hi h h1
theorem wc {ro : Option Nat} {n : Nat} {C : Ctx} {Q : Exit -> Act -> World -> Prop} {st : St} {R : List Res} {items : List It} {σ τ : Type} (w : Ctl σ τ) (st' : σ -> St) (R' : σ -> List Res) (h : WI ro Tryz.prog n C Q (.c (hdC items) :: .k (Ex n C (λ s => w = .next s) st' R') :: tlI items) st R) (hK : ∀ s, w = .next s -> WI ro Tryz.prog n C Q (tlI items) (st' s) (R' s)) (hi : isC items = true := by kernel_rfl) : WI ro Tryz.prog n C Q items st R := Axu hi _ st' R' h hK
theorem A6 {α β γ : Type} {o : Option α} {f : α -> Option β} {g : α -> β -> Option γ} {r : γ} (h : (o.bind λ a => (f a).bind λ b => g a b) = some r) : ∃ a, o = some a /\ ∃ b, f a = some b /\ g a b = some r := by
 obtain ⟨a, h1, h⟩ := Au h
 obtain ⟨b, h2, h⟩ := Au h
 exact ⟨a, h1, b, h2, h⟩
theorem Bi {α β γ δ : Type} {o : Option α} {f : α -> Option β} {g : α -> β -> Option γ} {k : α -> β -> γ -> Option δ} {r : δ} (h : (o.bind λ a => (f a).bind λ b => (g a b).bind λ c => k a b c) = some r) : ∃ a, o = some a /\ ∃ b, f a = some b /\ ∃ c, g a b = some c /\ k a b c = some r := by
 obtain ⟨a, h1, h⟩ := Au h
 obtain ⟨b, h2, c, h3, h⟩ := A6 h
 exact ⟨a, h1, b, h2, c, h3, h⟩
theorem Cv {α β γ δ ε : Type} {o : Option α} {f : α -> Option β} {g : α -> β -> Option γ} {k : α -> β -> γ -> Option δ} {l : α -> β -> γ -> δ -> Option ε} {r : ε} (h : (o.bind λ a => (f a).bind λ b => (g a b).bind λ c => (k a b c).bind λ d => l a b c d) = some r) : ∃ a, o = some a /\ ∃ b, f a = some b /\ ∃ c, g a b = some c /\ ∃ d, k a b c = some d /\ l a b c d = some r := by
 obtain ⟨a, h1, h⟩ := Au h
 obtain ⟨b, h2, c, h3, d, h4, h⟩ := Bi h
 exact ⟨a, h1, b, h2, c, h3, d, h4, h⟩
theorem wl {ro : Option Nat} {n : Nat} {C : Ctx} {Q : Exit -> Act -> World -> Prop} {st : St} {R : List Res} {α σ τ : Type} {items : List It} {f : Nat -> α -> σ -> Option (Ctl σ τ)} (stF : Nat -> σ -> St) (RF : Nat -> σ -> List Res) {r : Ctl σ τ} {xs : List α} {s : σ} (hm : foldI f xs 0 s = some r) (hnil : ∀ s, r = .next s -> WI ro Tryz.prog n C Q (.c (lpC items) :: .k (λ _ _ => False) :: tlI items) (stF xs.length s) (RF xs.length s)) (hcons : ∀ i x s k, i < xs.length -> xs[i]? = some x -> f i x s = some k -> (∀ s', k = .brk s' -> r = .next s') -> (∀ v, k = .ret v -> r = .ret v) -> WI ro Tryz.prog n C Q (.c (lpC items) :: .k (Ex n C (λ s' => k = .next s') (stF (i + 1)) (RF (i + 1))) :: tlI items) (stF i s) (RF i s)) (hi : isL items = true := by kernel_rfl) (h0 : st = stF 0 s := by rfl) (h1 : R = RF 0 s := by rfl) : WI ro Tryz.prog n C Q items st R := Ar8 hi f stF RF r xs s hm h0 h1 hnil hcons
theorem ww {ro : Option Nat} {n : Nat} {C : Ctx} {Q : Exit -> Act -> World -> Prop} {st : St} {R : List Res} {σ τ : Type} {items : List It} {f : σ -> Option (Ctl σ τ)} (stF : σ -> St) (RF : σ -> List Res) {r : Ctl σ τ} {fuel : Nat} {s : σ} (hm : whileN f fuel s = some r) (h : ∀ s k, f s = some k -> (∀ s', k = .brk s' -> r = .next s') -> (∀ v, k = .ret v -> r = .ret v) -> WI ro Tryz.prog n C Q (.c (lpC items) :: .k (Ex n C (λ s' => k = .next s') stF RF) :: tlI items) (stF s) (RF s)) (hi : isL items = true := by kernel_rfl) (h0 : st = stF s := by rfl) (h1 : R = RF s := by rfl) : WI ro Tryz.prog n C Q items st R := Ar6 hi f stF RF r fuel s hm h0 h1 h
theorem cB {α : Type} {c : Bool} {x y z : α} (h : (bif c then x else y) = z) : (c = true /\ x = z) \/ (c = false /\ y = z) := by cases c; exact .inr ⟨rfl, h⟩; exact .inl ⟨rfl, h⟩
theorem wb {ro : Option Nat} {n : Nat} {C : Ctx} {Q : Exit -> Act -> World -> Prop} {st : St} {R : List Res} {items : List It} (h : WI ro Tryz.prog n C Q (.c (Axp items) :: .b (Axo items) :: tlI items) st R) (hi : isB items = true := by kernel_rfl) : WI ro Tryz.prog n C Q items st R := Axv hi h
theorem co {f : FuncId} {fn : Func} {c : Code} {args : List AV} {res : AV} {R R2 : List Res} (n : Nat) (hf : Tryz.prog.funcs[f]? = some fn) (h : ∀ C : Ctx, C.h.length <= R.length -> WI none Tryz.prog n C.z (Lw Tryz.prog fn C.z res R2) [.c c] (Wc 0 args) R) (hb : fn.body = some c := by rfl) (hn : fn.ntmps = n := by rfl) (hl : Nat.ble args.length n = true := by rfl) : CallOk Tryz.prog f args R res R2 := Anu n hf hb hn hl h
theorem wr {ro : Option Nat} {n : Nat} {C : Ctx} {st : St} {R : List Res} {fn : Func} {res : AV} {R2 : List Res} {items : List It} (lv : List Nat) (fuel : Nat) (ds : List Bool) (cls : List PC) (adj : List Adj) (k : Nat) (pi : List Nat) (hk : C.h.length <= k) (bs : List PB) (h : Uc Tryz.prog n lv fuel items st R ds (cls.map (·.1)) adj fn.results.toList k pi = some (res, R2, cls.map (·.1), bs.map (·.1)) := by kernel_rfl) : WI ro Tryz.prog n C.z (Lw Tryz.prog fn C.z res R2) items st R := Abw Hh lv fuel ds (cls.map (·.1)) adj _ k pi rfl hk (okP cls) (okB bs) h
theorem wf {ro : Option Nat} {n : Nat} {C : Ctx} {st : St} {R : List Res} {fn : Func} {res : AV} {R2 : List Res} {items : List It} (lv : List Nat) (fuel : Nat) (ds : List Bool) (cls : List PC) (adj : List Adj) (k : Nat) (pi : List Nat) (hk : C.h.length <= k) (bs : List PB) (hn : Aq0 (Bu fuel items ds) = true := by kernel_rfl) (h : Ud Tryz.prog n lv fuel items st R ds (cls.map (·.1)) adj fn.results.toList k pi = some (res, R2, cls.map (·.1), bs.map (·.1)) := by kernel_rfl) : WI ro Tryz.prog n C.z (Lw Tryz.prog fn C.z res R2) items st R := Au4 Hh lv fuel ds (cls.map (·.1)) adj _ k pi rfl hk (okP cls) (okB bs) hn h
theorem en {f : FuncId} {fn : Func} (hf : Tryz.prog.funcs[f]? = some fn) (hb : fn.body.isNone = false := by kernel_rfl) (hn : (fn.name == "runtime.NumGoroutine") = false := by kernel_rfl) : Eu Tryz.prog f := Go.SL.jI hf hb hn
abbrev ln {α : Type} (l : List α) : Int := (l.length : Int)
abbrev dI (x : Int) : AV := .d (I x)
abbrev dB (x : Bool) : AV := .d (Bo x)
abbrev dO (a b : Nat) : AV := .d (.o a b)
abbrev dS (a : Nat) : AV := .d (.os a)
theorem k6 (x0 : List Int) (r : Ag) (h : F6 x0 = some r) : CO 6 [.d (DS pI x0)] [] (.d (.o 0 0)) [.box 70 (d70 r)] := by
 unfold F6 at h
 refine co 10 Tryz.func6 λ C hC => ?_
 obtain ⟨y2, h1, h⟩ := Au h
 replace h := sI h
 subst h
 exact wr [0, 2] 25 [] [pl pI x0, ⟨.cut (x0.map pI) 1 0 (min (ln x0) 600) (y2.map pI), Af3 pI 1 (λ _ => rfl) h1⟩] [] 0 [0] hC []
theorem e6 : EN 6 := en Tryz.func6
theorem A0d (x0 : Int) (x1 : Int) (r : Int) (h : Ael x0 x1 = some r) : CO 107 [.d (I x0), .d (I x1)] [] (.d (I r)) [] := by
 unfold Ael at h
 refine co 14 Tryz.func107 λ C hC => ?_
 rcases cB h with ⟨h1, h⟩ | ⟨h1, h⟩
 ·replace h := sI h
  subst h
  exact wr [0, 1, 4, 6] 29 [true] [] [] 0 [] hC [pq h1]
 ·obtain ⟨u3, h2, u5, h4, h⟩ := A6 h
  replace h := sI h
  subst h
  exact wr [0, 1, 4, 6] 30 [false] [⟨.nz x1, zV h2⟩, ⟨.nz x1, zV h4⟩] [] 0 [] hC [pq h1]
theorem A03 : EN 107 := en Tryz.func107
theorem k46 (x0 : Int) (x1 : Int) (x2 : Int) (r : Bool) (h : F46 x0 x1 x2 = r) : CO 46 [.d (I x0), .d (I x1), .d (I x2)] [] (.d (Bo r)) [] := by
 unfold F46 at h
 refine co 15 Tryz.func46 λ C hC => ?_
 subst h
 exact wr [0, 1, 2, 6] 25 [] [] [] 0 [] hC []
theorem e46 : EN 46 := en Tryz.func46
def Aai : List Nat := [0, 1, 2, 3, 6, 7, 8, 9, 11, 12, 13, 14, 37]
def Uu (x0 : Aa) (x1 : Int) (x2 : Int) (n0 : Nat) (z0 : (List Int)) : St := [(1, dI x1), (2, dI x2), (6, .d (DS pI [])), (7, dS 0), (11, .d (DS q49 x0.Ad)), (12, dI (ln x0.Ad)), (13, dI (cnt 0 n0))]
def uV  (n0 : Nat) (z0 : (List Int)) : List Res := [v0_ z0]
def Alz  (z0 : (List Int)) : St := [(6, .d (DS pI [])), (7, dS 0)]
def Ao9  (z0 : (List Int)) : List Res := [v0_ z0]
theorem k49 (x0 : Aa) (x1 : Int) (x2 : Int) (r : (List Int)) (h : F49 x0 x1 x2 = some r) : CO 49 [.agg (d29 x0), .d (I x1), .d (I x2)] [] (.d (.os 0)) [v0_ r] := by
 unfold F49 at h
 refine co 44 Tryz.func49 λ C hC => ?_
 refine ws Aai 28 [] [pl q49 x0.Ad] [.own 7 3 1] 0 [1] (Uu x0 x1 x2 0 ([] : List Int)) (uV 0 ([] : List Int)) hC [] ?_
 obtain ⟨w0, hm0, hret0, hnext0⟩ := Aq h
 clear h
 refine wc w0 (Alz) (Ao9) ?_ λ z0 hs0 => ?_
 ·refine wb ?_
  refine Bb 11 rfl λ hl0 => ?_
  refine wl (Uu x0 x1 x2) (uV) hm0 (λ z0 hn0 => ?_) λ n0 a0 z0 w0b hi0 hx0 h hb0 hr0 => ?_
  ·clear hm0
   exact wx w0 (Alz) (Ao9) Aai 26 [false] [] [] 0 [0] _ hC [pq (A4 hl0)] hn0
  ·unfold Adk at h
   rcases cB h with ⟨h1, h⟩ | ⟨h1, h⟩
   ·obtain ⟨y2, h3, h⟩ := Au h
    exact wx w0b (Uu x0 x1 x2 (n0 + 1)) (uV (n0 + 1)) Aai 36 [true, true] [pt hx0 hl0, pa pI 1 h3] [] 0 [2] _ hC [pq (A1 hi0 hl0), pq h1] (sI h).symm
   ·exact wx w0b (Uu x0 x1 x2 (n0 + 1)) (uV (n0 + 1)) Aai 36 [true, false] [pt hx0 hl0] [] 0 [0] _ hC [pq (A1 hi0 hl0), pq h1] (sI h).symm
 ·have h := hnext0 _ hs0
  replace h := sI h
  subst h
  exact wr Aai 23 [] [] [] 0 [0] hC []
theorem e49 : EN 49 := en Tryz.func49
theorem k48 (x0 : Al) (x1 : Al) (r : Bool) (h : F48 x0 x1 = r) : CO 48 [.agg (d92 x0), .agg (d92 x1)] [] (.d (Bo r)) [] := by
 unfold F48 at h
 refine co 24 Tryz.func48 λ C hC => ?_
 subst h
 exact wr n5_ 25 [] [] [] 0 [] hC []
theorem e48 : EN 48 := en Tryz.func48
theorem Ard (x0 : Ab) (r : Ab) (h : T9 x0 = some r) : CO 117 [.agg (d34 x0)] [] (.agg [.os 0, .os 1, .os 2, .os 3]) (zp r []) := by
 unfold T9 at h
 refine co 16 Tryz.func117 λ C hC => ?_
 obtain ⟨y1, h2, y3, h4, y5, h6, y7, h8, h⟩ := Cv h
 replace h := sI h
 subst h
 exact wr n3_ 25 [] [⟨.app [] (x0.Ah.map pB) 1 ((x0.Ah.map pB).length * (1 + 1)) (y1.map pB), Nu pB 1 (λ _ => rfl) h2⟩, ⟨.app [] (x0.Ac.map q87) 4 ((x0.Ac.map q87).length * (32 + 1)) (y3.map q87), Nu q87 4 (λ _ => rfl) h4⟩, ⟨.app [] (x0.As.map pI) 1 ((x0.As.map pI).length * (8 + 1)) (y5.map pI), Nu pI 1 (λ _ => rfl) h6⟩, ⟨.app [] (x0.Ak.map q92) 2 ((x0.Ak.map q92).length * (16 + 1)) (y7.map q92), Nu q92 2 (λ _ => rfl) h8⟩] [] 0 [3, 5, 7, 9] hC []
theorem Ars : EN 117 := en Tryz.func117
def Aal : List Nat := [0, 1, 2, 3, 6, 8, 10, 11, 12, 13, 25]
def yI (x0 : Ab) (x1 : Int) (x2 : Int) (n0 : Nat) (z0 : Unit) : St := [(1, dI x1), (2, dI x2), (6, dB false), (10, .d (DS q92 x0.Ak)), (11, dI (ln x0.Ak)), (12, dI (cnt 0 n0))]
def Ajp  (n0 : Nat) (z0 : Unit) : List Res := []
def Amf  (z0 : Unit) : St := [(6, dB false)]
def App  (z0 : Unit) : List Res := []
theorem k15 (x0 : Ab) (x1 : Int) (x2 : Int) (r : Bool) (h : F15 x0 x1 x2 = some r) : CO 15 [.agg (d34 x0), .d (I x1), .d (I x2)] [] (.d (Bo r)) [] := by
 unfold F15 at h
 refine co 27 Tryz.func15 λ C hC => ?_
 refine ws Aal 26 [] [pl q92 x0.Ak] [] 0 [] (yI x0 x1 x2 0 ()) (Ajp 0 ()) hC [] ?_
 obtain ⟨w0, hm0, hret0, hnext0⟩ := Aq h
 clear h
 refine wc w0 (Amf) (App) ?_ λ z0 hs0 => ?_
 ·refine wb ?_
  refine Bb 10 rfl λ hl0 => ?_
  refine wl (yI x0 x1 x2) (Ajp) hm0 (λ z0 hn0 => ?_) λ n0 a0 z0 w0b hi0 hx0 h hb0 hr0 => ?_
  ·clear hm0
   exact wx w0 (Amf) (App) Aal 26 [false] [] [] 0 [] _ hC [pq (A4 hl0)] hn0
  ·unfold W5 at h
   rcases cB h with ⟨h1, h⟩ | ⟨h1, h⟩
   ·have hq := hret0 _ (hr0 _ (sI h).symm)
    replace hq := sI hq
    subst hq
    exact wr Aal 35 [true, true] [pt hx0 hl0] [] 0 [] hC [pq (A1 hi0 hl0), pq h1]
   ·exact wx w0b (yI x0 x1 x2 (n0 + 1)) (Ajp (n0 + 1)) Aal 36 [true, false] [pt hx0 hl0] [] 0 [] _ hC [pq (A1 hi0 hl0), pq h1] (sI h).symm
 ·have h := hnext0 _ hs0
  replace h := sI h
  subst h
  exact wr Aal 23 [] [] [] 0 [] hC []
theorem e15 : EN 15 := en Tryz.func15
def H5 : List Nat := [0, 1, 2, 3, 4, 6, 7, 8, 9, 10, 11, 19, 20, 21, 23, 24, 25, 26, 53, 65, 66, 67, 72]
def vH (y5 : List Bool) (n0 : Nat) (z0 : (List Bool)) : St := [(3, dO 0 0), (4, dO 1 0), (6, .d (DS pI [])), (7, dS 2), (19, dI (ln y5)), (20, dI (cnt 0 n0))]
def Aix (x0 : Aa) (x1 : Ab) (n0 : Nat) (z0 : (List Bool)) : List Res := [.box 29 (d29 x0), .box 34 (d34 x1), v1_ z0]
def Ak3  (z0 : (List Bool)) : St := [(6, .d (DS pI [])), (7, dS 0)]
def Aod  (z0 : (List Bool)) : List Res := [v1_ z0]
def Ui (x0 : Aa) (y5 : List Bool) (n0 : Nat) (n1 : Nat) (z1 : (List Bool)) : St := [(3, dO 0 0), (4, dO 1 0), (6, .d (DS pI [])), (7, dS 2), (19, dI (ln y5)), (20, dI (cnt 0 n0)), (23, .d (DS q49 x0.Ad)), (24, dI (ln x0.Ad)), (25, dI (cnt 0 n1))]
def uL (x0 : Aa) (x1 : Ab) (n1 : Nat) (z1 : (List Bool)) : List Res := [.box 29 (d29 x0), .box 34 (d34 x1), v1_ z1]
def Ak2 (y5 : List Bool) (n0 : Nat) (z1 : (List Bool)) : St := [(3, dO 0 0), (4, dO 1 0), (6, .d (DS pI [])), (7, dS 2), (19, dI (ln y5)), (20, dI (cnt 0 n0))]
def Aoc (x0 : Aa) (x1 : Ab) (z1 : (List Bool)) : List Res := [.box 29 (d29 x0), .box 34 (d34 x1), v1_ z1]
def Uh (z0 : (List Bool)) (n2 : Nat) (z2 : (List Int)) : St := [(6, .d (DS pI [])), (7, dS 0), (10, dS 1), (65, dI (ln z0)), (66, dI (cnt 0 n2))]
def uK (z0 : (List Bool)) (n2 : Nat) (z2 : (List Int)) : List Res := [v1_ z0, v0_ z2]
def Ak1  (z2 : (List Int)) : St := [(6, .d (DS pI [])), (10, dS 0)]
def Aob  (z2 : (List Int)) : List Res := [v0_ z2]
theorem k98 (x0 : Aa) (x1 : Ab) (x2 : Int) (r : (List Int)) (h : F98 x0 x1 x2 = some r) : CO 98 [.agg (d29 x0), .agg (d34 x1), .d (I x2)] [] (.d (.os 0)) [v0_ r] := by
 unfold F98 at h
 refine co 79 Tryz.func98 λ C hC => ?_
 obtain ⟨y1, h2, y3, h4, y5, h6, h⟩ := Bi h
 refine ws H5 30 [] [⟨.room (x0.Ao * (1 + 1)) (List.replicate (Int.toNat x0.Ao) (pB false)) (y1.map pB), H3 h2⟩, pr pB h4, pu pB h4 h6, pl pB y5] [] 0 n3_ (vH y5 0 y5) (Aix x0 x1 0 y5) hC [] ?_
 obtain ⟨w0, hm0, hret0, hnext0⟩ := Aq h
 clear h
 refine wc w0 (Ak3) (Aod) ?_ λ z0 hs0 => ?_
 ·refine wb ?_
  refine Bk 7 2 rfl rfl λ hl0 => ?_
  refine wl (vH y5) (Aix x0 x1) hm0 (λ z0 hn0 => ?_) λ n0 a0 z0 w0b hi0 hx0 h hb0 hr0 => ?_
  ·clear hm0
   exact wx w0 (Ak3) (Aod) H5 26 [false] [] [] 0 [2] _ hC [pq (A4 hl0)] hn0
  ·unfold Acz at h
   refine ws H5 30 [true] [pl q49 x0.Ad] [] 0 n3_ (Ui x0 y5 n0 0 z0) (uL x0 x1 0 z0) hC [pq (A1 hi0 hl0)] ?_
   obtain ⟨w1, hm1, hret1, hnext1⟩ := Aq h
   clear h
   refine wc w1 (Ak2 y5 n0) (Aoc x0 x1) ?_ λ z1 hs1 => ?_
   ·refine wb ?_
    refine Bb 23 rfl λ hl1 => ?_
    refine wl (Ui x0 y5 n0) (uL x0 x1) hm1 (λ z1 hn1 => ?_) λ n1 a1 z1 w1b hi1 hx1 h hb1 hr1 => ?_
    ·clear hm1
     exact wx w1 (Ak2 y5 n0) (Aoc x0 x1) H5 26 [false] [] [] 0 n3_ _ hC [pq (A4 hl1)] hn1
    ·unfold Acy at h
     obtain ⟨y7, h8, y9, h10, y11, h12, h⟩ := Bi h
     refine wn H5 32 [true] [pt hx1 hl1, pR pB h8, pR pB h10, pN pB h10, pR pB h12, pN pB h12] [] 0 n4_ [3, 4, 6, 7, 9, 19, 20, 23, 24, 25, 53] hC [pq (A1 hi1 hl1)] ?_
     rcases cB h with ⟨h13, h⟩ | ⟨h13, h⟩
     ·obtain ⟨y14, h15, y16, h17, y18, h19, y20, h21, h⟩ := Cv h
      exact wx w1b (Ui x0 y5 n0 (n1 + 1)) (uL x0 x1 (n1 + 1)) H5 25 [true] [pr pB h15, pu pB h15 h17, pr pB h19, pu pB h19 h21] [] 0 n3_ _ hC [pq h13] (sI h).symm
     ·exact wx w1b (Ui x0 y5 n0 (n1 + 1)) (uL x0 x1 (n1 + 1)) H5 25 [false] [] [] 0 n3_ _ hC [pq h13] (sI h).symm
   ·have h := hnext1 _ hs1
    exact wx w0b (vH y5 (n0 + 1)) (Aix x0 x1 (n0 + 1)) H5 23 [] [] [] 0 n3_ _ hC [] (sI h).symm
 ·have h := hnext0 _ hs0
  refine ws H5 26 [] [pl pB z0] [.own 10 3 1] 0 [0, 1] (Uh z0 0 ([] : List Int)) (uK z0 0 ([] : List Int)) hC [] ?_
  obtain ⟨w2, hm2, hret2, hnext2⟩ := Aq h
  clear h
  refine wc w2 (Ak1) (Aob) ?_ λ z2 hs2 => ?_
  ·refine wb ?_
   refine Bk 7 0 rfl rfl λ hl2 => ?_
   refine wl (Uh z0) (uK z0) hm2 (λ z2 hn2 => ?_) λ n2 a2 z2 w2b hi2 hx2 h hb2 hr2 => ?_
   ·clear hm2
    exact wx w2 (Ak1) (Aob) H5 26 [false] [] [] 0 [1] _ hC [pq (A4 hl2)] hn2
   ·unfold Acx at h
    rcases cB h with ⟨h22, h⟩ | ⟨h22, h⟩
    ·obtain ⟨y23, h24, h⟩ := Au h
     exact wx w2b (Uh z0 (n2 + 1)) (uK z0 (n2 + 1)) H5 36 [true, true] [pr pB (A8 hx2 hl2), pn pB (A8 hx2 hl2), pa pI 1 h24] [] 0 [0, 2] _ hC [pq (A1 hi2 hl2), pq h22] (sI h).symm
    ·exact wx w2b (Uh z0 (n2 + 1)) (uK z0 (n2 + 1)) H5 36 [true, false] [pr pB (A8 hx2 hl2), pn pB (A8 hx2 hl2)] [] 0 [0, 1] _ hC [pq (A1 hi2 hl2), pq h22] (sI h).symm
  ·have h := hnext2 _ hs2
   replace h := sI h
   subst h
   exact wr H5 23 [] [] [] 0 [0] hC []
theorem e98 : EN 98 := en Tryz.func98
def Aag : List Nat := [0, 1, 4, 6, 7, 8, 9, 10, 15]
def vW (x0 : List Int) (x1 : Int) (n0 : Nat) (z0 : Unit) : St := [(1, dI x1), (4, dB false), (7, .d (DS pI x0)), (8, dI (ln x0)), (9, dI (cnt 0 n0))]
def Ajd  (n0 : Nat) (z0 : Unit) : List Res := []
def Alu  (z0 : Unit) : St := [(4, dB false)]
def Ao4  (z0 : Unit) : List Res := []
theorem k53 (x0 : List Int) (x1 : Int) (r : Bool) (h : F53 x0 x1 = some r) : CO 53 [.d (DS pI x0), .d (I x1)] [] (.d (Bo r)) [] := by
 unfold F53 at h
 refine co 17 Tryz.func53 λ C hC => ?_
 refine ws Aag 26 [] [pl pI x0] [] 0 [] (vW x0 x1 0 ()) (Ajd 0 ()) hC [] ?_
 obtain ⟨w0, hm0, hret0, hnext0⟩ := Aq h
 clear h
 refine wc w0 (Alu) (Ao4) ?_ λ z0 hs0 => ?_
 ·refine wb ?_
  refine Bb 7 rfl λ hl0 => ?_
  refine wl (vW x0 x1) (Ajd) hm0 (λ z0 hn0 => ?_) λ n0 a0 z0 w0b hi0 hx0 h hb0 hr0 => ?_
  ·clear hm0
   exact wx w0 (Alu) (Ao4) Aag 26 [false] [] [] 0 [] _ hC [pq (A4 hl0)] hn0
  ·unfold Wq at h
   rcases cB h with ⟨h1, h⟩ | ⟨h1, h⟩
   ·have hq := hret0 _ (hr0 _ (sI h).symm)
    replace hq := sI hq
    subst hq
    exact wr Aag 35 [true, true] [pt hx0 hl0] [] 0 [] hC [pq (A1 hi0 hl0), pq h1]
   ·exact wx w0b (vW x0 x1 (n0 + 1)) (Ajd (n0 + 1)) Aag 36 [true, false] [pt hx0 hl0] [] 0 [] _ hC [pq (A1 hi0 hl0), pq h1] (sI h).symm
 ·have h := hnext0 _ hs0
  replace h := sI h
  subst h
  exact wr Aag 23 [] [] [] 0 [] hC []
theorem e53 : EN 53 := en Tryz.func53
theorem k93 (x0 : Int) (x1 : Int) (x2 : Int) (r : Bool) (h : F93 x0 x1 x2 = r) : CO 93 [.d (I x0), .d (I x1), .d (I x2)] [] (.d (Bo r)) [] := by
 unfold F93 at h
 refine co 15 Tryz.func93 λ C hC => ?_
 subst h
 exact wr [0, 1, 2, 6] 25 [] [] [] 0 [] hC []
theorem e93 : EN 93 := en Tryz.func93
def Vk : List Nat := [0, 1, 4, 5, 7, 8, 9, 16]
def Xl (x0 : List Int) (x1 : Int) (n0 : Nat) (z0 : Unit) : St := [(0, .d (DS pI x0)), (1, dI x1), (4, dI 0), (7, dI (ln x0)), (8, dI (cnt 0 n0))]
def Acr  (n0 : Nat) (z0 : Unit) : List Res := []
def Afo  (z0 : Unit) : St := [(4, dI 0)]
def Agq  (z0 : Unit) : List Res := []
theorem A0e (x0 : List Int) (x1 : Int) (r : Int) (h : Aki x0 x1 = some r) : CO 106 [.d (DS pI x0), .d (I x1)] [] (.d (I r)) [] := by
 unfold Aki at h
 refine co 19 Tryz.func106 λ C hC => ?_
 refine ws Vk 26 [] [pl pI x0] [] 0 [] (Xl x0 x1 0 ()) (Acr 0 ()) hC [] ?_
 obtain ⟨w0, hm0, hret0, hnext0⟩ := Aq h
 clear h
 refine wc w0 (Afo) (Agq) ?_ λ z0 hs0 => ?_
 ·refine wb ?_
  refine Bb 0 rfl λ hl0 => ?_
  refine wl (Xl x0 x1) (Acr) hm0 (λ z0 hn0 => ?_) λ n0 a0 z0 w0b hi0 hx0 h hb0 hr0 => ?_
  ·clear hm0
   exact wx w0 (Afo) (Agq) Vk 26 [false] [] [] 0 [] _ hC [pq (A4 hl0)] hn0
  ·unfold Agu at h
   rcases cB h with ⟨h1, h⟩ | ⟨h1, h⟩
   ·have hq := hret0 _ (hr0 _ (sI h).symm)
    replace hq := sI hq
    subst hq
    exact wr Vk 35 [true, true] [pt hx0 hl0] [] 0 [] hC [pq (A1 hi0 hl0), pq h1]
   ·exact wx w0b (Xl x0 x1 (n0 + 1)) (Acr (n0 + 1)) Vk 36 [true, false] [pt hx0 hl0] [] 0 [] _ hC [pq (A1 hi0 hl0), pq h1] (sI h).symm
 ·have h := hnext0 _ hs0
  replace h := sI h
  subst h
  exact wr Vk 23 [] [] [] 0 [] hC []
theorem A04 : EN 106 := en Tryz.func106
theorem Avs (x0 : List Int) (r : Bool) (h : Asf x0 = r) : CO 140 [.d (DS pI x0)] [] (.d (Bo r)) [] := by
 unfold Asf at h
 refine co 6 Tryz.func140 λ C hC => ?_
 subst h
 exact wr [0, 2] 25 [] [pl pI x0] [] 0 [] hC []
theorem Awv : EN 140 := en Tryz.func140
def Vi : List Nat := [0, 1, 2, 4, 5, 6, 11, 16, 20]
theorem Az5 (x0 : Aa) (x1 : Int) (r : Int) (h : Jh x0 x1 = r) : CO 136 [.agg (d29 x0), .d (I x1)] [] (.d (I r)) [] := by
 unfold Jh at h
 refine co 25 Tryz.func136 λ C hC => ?_
 rcases cB h with ⟨h1, h⟩ | ⟨h1, h⟩
 ·subst h
  exact wr Vi 32 [true] [pl q98 x0.Ac] [] 0 [] hC [pq h1]
 ·rcases cB h with ⟨h2, h⟩ | ⟨h2, h⟩
  ·subst h
   exact wr Vi 35 [false, true] [pl q49 x0.Ad] [] 0 [] hC [pq h1, pq h2]
  ·rcases cB h with ⟨h3, h⟩ | ⟨h3, h⟩
   ·subst h
    exact wr Vi 38 [false, false, true] [] [] 0 [] hC [pq h1, pq h2, pq h3]
   ·rcases cB h with ⟨h4, h⟩ | ⟨h4, h⟩
    ·subst h
     exact wr Vi 41 [false, false, false, true] [pl q90 x0.Ai] [] 0 [] hC [pq h1, pq h2, pq h3, pq h4]
    ·subst h
     exact wr Vi 43 [false, false, false, false] [] [] 0 [] hC [pq h1, pq h2, pq h3, pq h4]
theorem A0v : EN 136 := en Tryz.func136
theorem Jc (x0 : Int) (r : Bool) (h : T4 x0 = r) : CO 166 [.d (I x0)] [] (.d (Bo r)) [] := by
 unfold T4 at h
 refine co 6 Tryz.func166 λ C hC => ?_
 subst h
 exact wr [0, 2] 25 [] [] [] 0 [] hC []
theorem Jd : EN 166 := en Tryz.func166
def Vh : List Nat := [0, 2, 3, 5, 6, 7, 8, 9, 14]
def Xj (x0 : List Int) (n0 : Nat) (z0 : Unit) : St := [(2, dI 0), (3, dI 0), (6, .d (DS pI x0)), (7, dI (ln x0)), (8, dI (cnt 0 n0))]
def Acp  (n0 : Nat) (z0 : Unit) : List Res := []
def Afj  (z0 : Unit) : St := [(2, dI 0), (3, dI 0)]
def Agl  (z0 : Unit) : List Res := []
theorem Az4 (x0 : List Int) (r : Int) (h : Y5 x0 = some r) : CO 137 [.d (DS pI x0)] [] (.d (I r)) [] := by
 unfold Y5 at h
 refine co 18 Tryz.func137 λ C hC => ?_
 refine ws Vh 28 [] [pl pI x0] [] 0 [] (Xj x0 0 ()) (Acp 0 ()) hC [] ?_
 obtain ⟨w0, hm0, hret0, hnext0⟩ := Aq h
 clear h
 refine wc w0 (Afj) (Agl) ?_ λ z0 hs0 => ?_
 ·refine wb ?_
  refine Bb 6 rfl λ hl0 => ?_
  refine wl (Xj x0) (Acp) hm0 (λ z0 hn0 => ?_) λ n0 a0 z0 w0b hi0 hx0 h hb0 hr0 => ?_
  ·clear hm0
   exact wx w0 (Afj) (Agl) Vh 26 [false] [] [] 0 [] _ hC [pq (A4 hl0)] hn0
  ·unfold Ru at h
   rcases cB h with ⟨h1, h⟩ | ⟨h1, h⟩
   ·have hq := hret0 _ (hr0 _ (sI h).symm)
    replace hq := sI hq
    subst hq
    exact wr Vh 35 [true, true] [pt hx0 hl0] [] 0 [] hC [pq (A1 hi0 hl0), pq h1]
   ·exact wx w0b (Xj x0 (n0 + 1)) (Acp (n0 + 1)) Vh 36 [true, false] [pt hx0 hl0] [] 0 [] _ hC [pq (A1 hi0 hl0), pq h1] (sI h).symm
 ·have h := hnext0 _ hs0
  replace h := sI h
  subst h
  exact wr Vh 23 [] [] [] 0 [] hC []
theorem A0u : EN 137 := en Tryz.func137
def Aab : List Nat := [0, 1, 2, 3, 4, 6, 7, 8, 9, 11, 12, 13, 14, 33]
def Uj (x0 : Aa) (x2 : Int) (n0 : Nat) (z0 : Int) : St := [(2, dI x2), (4, dO 0 0), (6, dI 0), (7, dI z0), (11, .d (DS q49 x0.Ad)), (12, dI (ln x0.Ad)), (13, dI (cnt 0 n0))]
def uM (x1 : Ab) (n0 : Nat) (z0 : Int) : List Res := [.box 34 (d34 x1)]
def Alb  (z0 : Int) : St := [(6, dI 0), (7, dI z0)]
def Aol  (z0 : Int) : List Res := []
theorem k94 (x0 : Aa) (x1 : Ab) (x2 : Int) (r : Int) (h : F94 x0 x1 x2 = some r) : CO 94 [.agg (d29 x0), .agg (d34 x1), .d (I x2)] [] (.d (I r)) [] := by
 unfold F94 at h
 refine co 38 Tryz.func94 λ C hC => ?_
 refine ws Aab 28 [] [pl q49 x0.Ad] [] 0 [1] (Uj x0 x2 0 0) (uM x1 0 0) hC [] ?_
 obtain ⟨w0, hm0, hret0, hnext0⟩ := Aq h
 clear h
 refine wc w0 (Alb) (Aol) ?_ λ z0 hs0 => ?_
 ·refine wb ?_
  refine Bb 11 rfl λ hl0 => ?_
  refine wl (Uj x0 x2) (uM x1) hm0 (λ z0 hn0 => ?_) λ n0 a0 z0 w0b hi0 hx0 h hb0 hr0 => ?_
  ·clear hm0
   exact wx w0 (Alb) (Aol) Aab 26 [false] [] [] 0 [] _ hC [pq (A4 hl0)] hn0
  ·unfold Ac6 at h
   obtain ⟨y1, h2, h⟩ := Au h
   rcases cB h with ⟨h3, h⟩ | ⟨h3, h⟩
   ·exact wx w0b (Uj x0 x2 (n0 + 1)) (uM x1 (n0 + 1)) Aab 36 [true, true] [pt hx0 hl0, pR pB h2] [] 0 [0] _ hC [pq (A1 hi0 hl0), pq h3] (sI h).symm
   ·exact wx w0b (Uj x0 x2 (n0 + 1)) (uM x1 (n0 + 1)) Aab 36 [true, false] [pt hx0 hl0, pR pB h2] [] 0 [0] _ hC [pq (A1 hi0 hl0), pq h3] (sI h).symm
 ·have h := hnext0 _ hs0
  replace h := sI h
  subst h
  exact wr Aab 23 [] [] [] 0 [] hC []
theorem e94 : EN 94 := en Tryz.func94
theorem Awa (x0 : Af) (x1 : Int) (r : Bool) (h : W9 x0 x1 = r) : CO 104 [.agg (d49 x0), .d (.ip [.v (.int .i64 x1)])] [] (.d (Bo r)) [] := by
 unfold W9 at h
 refine co 13 Tryz.func104 λ C hC => ?_
 subst h
 exact wr n4_ 25 [] [] [] 0 [] hC []
theorem Axd : EN 104 := en Tryz.func104
def Vg : List Nat := [0, 1, 3, 4, 5, 7, 8, 9, 16]
def Xe (x0 : List Al) (n0 : Nat) (z0 : Unit) : St := [(0, .d (DS q92 x0)), (3, dO 0 0), (4, dI 0), (7, dI (ln x0)), (8, dI (cnt 0 n0))]
def Ack (x1 : Al) (n0 : Nat) (z0 : Unit) : List Res := [.box 92 (d92 x1)]
def Afc  (z0 : Unit) : St := [(4, dI 0)]
def Age  (z0 : Unit) : List Res := []
theorem Azy (x0 : List Al) (x1 : Al) (r : Int) (h : Ake x0 x1 = some r) : CO 162 [.d (DS q92 x0), .agg (d92 x1)] [] (.d (I r)) [] := by
 unfold Ake at h
 refine co 19 Tryz.func162 λ C hC => ?_
 refine ws Vg 26 [] [pl q92 x0] [] 0 [0] (Xe x0 0 ()) (Ack x1 0 ()) hC [] ?_
 obtain ⟨w0, hm0, hret0, hnext0⟩ := Aq h
 clear h
 refine wc w0 (Afc) (Age) ?_ λ z0 hs0 => ?_
 ·refine wb ?_
  refine Bb 0 rfl λ hl0 => ?_
  refine wl (Xe x0) (Ack x1) hm0 (λ z0 hn0 => ?_) λ n0 a0 z0 w0b hi0 hx0 h hb0 hr0 => ?_
  ·clear hm0
   exact wx w0 (Afc) (Age) Vg 26 [false] [] [] 0 [] _ hC [pq (A4 hl0)] hn0
  ·unfold Agt at h
   rcases cB h with ⟨h1, h⟩ | ⟨h1, h⟩
   ·have hq := hret0 _ (hr0 _ (sI h).symm)
    replace hq := sI hq
    subst hq
    exact wr Vg 35 [true, true] [pt hx0 hl0] [] 0 [] hC [pq (A1 hi0 hl0), pq h1]
   ·exact wx w0b (Xe x0 (n0 + 1)) (Ack x1 (n0 + 1)) Vg 36 [true, false] [pt hx0 hl0] [] 0 [0] _ hC [pq (A1 hi0 hl0), pq h1] (sI h).symm
 ·have h := hnext0 _ hs0
  replace h := sI h
  subst h
  exact wr Vg 23 [] [] [] 0 [] hC []
theorem A0o : EN 162 := en Tryz.func162
theorem k42  (r : Aa × Ab) (h : F42  = r) : CO 42 [] [] (.tup [.agg (d29 r.1), .agg (d34 r.2)]) [] := by
 unfold F42 at h
 refine co 14 Tryz.func42 λ C hC => ?_
 subst h
 exact wr n3_ 27 [] [] [.ownb 0 3 90 5, .frz 3, .ownb 1 2 3 1, .frz 4, .ownb 1 3 92 2, .frz 5] 0 [] hC []
theorem e42 : EN 42 := en Tryz.func42
theorem k78 (x0 : List Bool) (r : List Bool) (h : F78 x0 = some r) : CO 78 [.d (.p (.s (x0.map pB)))] [] (.d (.os 0)) [v1_ r] := by
 unfold F78 at h
 refine co 8 Tryz.func78 λ C hC => ?_
 refine ws [0, 4] 40 [] [] [] 0 [] [(0, .d (.p (.s (x0.map pB)))), (4, .d (.nq (x0.map pB)))] [] hC [] ?_
 refine uI 4 (by kernel_rfl) (by kernel_rfl) rfl (λ hn => ?_) ?_
 ·have hx : x0 = [] := by cases x0 with | nil => rfl | cons => cases hn
  subst hx
  have hr : r = [] := by simpa [appI] using h.symm
  subst hr
  exact wr [2] 40 [] [] [.own 2 4 1] 0 [0] hC []
 ·exact wr [2] 40 [] [⟨.own, trivial⟩, ⟨.app [] (x0.map pB) 1 ((([] : List (List Pd)).length + (x0.map pB).length) * (1 + 1)) (r.map pB), Ie (l := []) pB 1 (λ _ => rfl) h⟩] [] 0 [1] hC []
theorem e78 : EN 78 := en Tryz.func78
theorem k79 (x0 : List Ae) (r : List Ae) (h : F79 x0 = some r) : CO 79 [.d (.p (.s (x0.map q87)))] [] (.d (.os 0)) [v4_ r] := by
 unfold F79 at h
 refine co 8 Tryz.func79 λ C hC => ?_
 refine ws [0, 4] 40 [] [] [] 0 [] [(0, .d (.p (.s (x0.map q87)))), (4, .d (.nq (x0.map q87)))] [] hC [] ?_
 refine uI 4 (by kernel_rfl) (by kernel_rfl) rfl (λ hn => ?_) ?_
 ·have hx : x0 = [] := by cases x0 with | nil => rfl | cons => cases hn
  subst hx
  have hr : r = [] := by simpa [appI] using h.symm
  subst hr
  exact wr [2] 40 [] [] [.own 2 87 4] 0 [0] hC []
 ·exact wr [2] 40 [] [⟨.own, trivial⟩, ⟨.app [] (x0.map q87) 4 ((([] : List (List Pd)).length + (x0.map q87).length) * (32 + 1)) (r.map q87), Ie (l := []) q87 4 (λ _ => rfl) h⟩] [] 0 [1] hC []
theorem e79 : EN 79 := en Tryz.func79
theorem k80 (x0 : List Int) (r : List Int) (h : F80 x0 = some r) : CO 80 [.d (.p (.s (x0.map pI)))] [] (.d (.os 0)) [v0_ r] := by
 unfold F80 at h
 refine co 8 Tryz.func80 λ C hC => ?_
 refine ws [0, 4] 40 [] [] [] 0 [] [(0, .d (.p (.s (x0.map pI)))), (4, .d (.nq (x0.map pI)))] [] hC [] ?_
 refine uI 4 (by kernel_rfl) (by kernel_rfl) rfl (λ hn => ?_) ?_
 ·have hx : x0 = [] := by cases x0 with | nil => rfl | cons => cases hn
  subst hx
  have hr : r = [] := by simpa [appI] using h.symm
  subst hr
  exact wr [2] 40 [] [] [.own 2 3 1] 0 [0] hC []
 ·exact wr [2] 40 [] [⟨.own, trivial⟩, ⟨.app [] (x0.map pI) 1 ((([] : List (List Pd)).length + (x0.map pI).length) * (8 + 1)) (r.map pI), Ie (l := []) pI 1 (λ _ => rfl) h⟩] [] 0 [1] hC []
theorem e80 : EN 80 := en Tryz.func80
theorem k81 (x0 : List Al) (r : List Al) (h : F81 x0 = some r) : CO 81 [.d (.p (.s (x0.map q92)))] [] (.d (.os 0)) [v3_ r] := by
 unfold F81 at h
 refine co 8 Tryz.func81 λ C hC => ?_
 refine ws [0, 4] 40 [] [] [] 0 [] [(0, .d (.p (.s (x0.map q92)))), (4, .d (.nq (x0.map q92)))] [] hC [] ?_
 refine uI 4 (by kernel_rfl) (by kernel_rfl) rfl (λ hn => ?_) ?_
 ·have hx : x0 = [] := by cases x0 with | nil => rfl | cons => cases hn
  subst hx
  have hr : r = [] := by simpa [appI] using h.symm
  subst hr
  exact wr [2] 40 [] [] [.own 2 92 2] 0 [0] hC []
 ·exact wr [2] 40 [] [⟨.own, trivial⟩, ⟨.app [] (x0.map q92) 2 ((([] : List (List Pd)).length + (x0.map q92).length) * (16 + 1)) (r.map q92), Ie (l := []) q92 2 (λ _ => rfl) h⟩] [] 0 [1] hC []
theorem e81 : EN 81 := en Tryz.func81
theorem Amy (x0 : A2) (x1 : Int) (r : A2) (h : W6 x0 x1 = some r) : CO 153 [.d (.o 0 0), .d (I x1)] (.box 147 (zb x0.Am [.os 1, .os 2, .os 3, .os 4, .os 5]) :: zp x0.Ap [v2_ x0.acts]) (.tup []) (.box 147 (zb r.Am [.os 1, .os 2, .os 3, .os 4, .os 6]) :: zp r.Ap [.non, v2_ r.acts]) := by
 unfold W6 at h
 refine co 22 Tryz.func153 λ C hC => ?_
 obtain ⟨y1, h2, y3, h4, y5, h6, h⟩ := Bi h
 replace h := sI h
 subst h
 exact wf [0, 1] 23 [] [pr pB h2, pu pB h2 h4, pa q47 3 h6] [] 6 n7_ hC []
theorem Ank : EN 153 := en Tryz.func153
def Hj : List Nat := [0, 1, 2, 3, 4, 5, 6, 7, 8, 9, 14, 15, 16, 24, 25, 26, 28, 29, 30, 31, 44]
def Xg (y1 : List Int) (n0 : Nat) (z0 : (List Int)) : St := [(2, dO 0 0), (3, dO 1 0), (4, .d (DS pI [])), (5, dS 2), (14, dI (ln y1)), (15, dI (cnt 0 n0))]
def Acm (x0 : Aa) (x1 : Ab) (n0 : Nat) (z0 : (List Int)) : List Res := [.box 29 (d29 x0), .box 34 (d34 x1), v0_ z0]
def Aff  (z0 : (List Int)) : St := [(2, dO 0 0), (3, dO 1 0), (4, .d (DS pI [])), (5, dS 2)]
def Agh (x0 : Aa) (x1 : Ab) (z0 : (List Int)) : List Res := [.box 29 (d29 x0), .box 34 (d34 x1), v0_ z0]
def Xf (z0 : (List Int)) (n1 : Nat) (z1 : (List Int)) : St := [(2, dO 0 0), (3, dO 1 0), (4, .d (DS pI [])), (5, dS 2), (24, dI (ln z0)), (25, dI (cnt 0 n1))]
def Acl (x0 : Aa) (x1 : Ab) (n1 : Nat) (z1 : (List Int)) : List Res := [.box 29 (d29 x0), .box 34 (d34 x1), v0_ z1]
def Afe  (z1 : (List Int)) : St := [(4, .d (DS pI [])), (5, dS 0)]
def Agg  (z1 : (List Int)) : List Res := [v0_ z1]
def Qo (x0 : Aa) (z0 : (List Int)) (n1 : Nat) (n2 : Nat) (z2 : (List Int)) : St := [(2, dO 0 0), (3, dO 1 0), (4, .d (DS pI [])), (5, dS 2), (24, dI (ln z0)), (25, dI (cnt 0 n1)), (28, .d (DS q49 x0.Ad)), (29, dI (ln x0.Ad)), (30, dI (cnt 0 n2))]
def Wh (x0 : Aa) (x1 : Ab) (n2 : Nat) (z2 : (List Int)) : List Res := [.box 29 (d29 x0), .box 34 (d34 x1), v0_ z2]
def Afd (z0 : (List Int)) (n1 : Nat) (z2 : (List Int)) : St := [(2, dO 0 0), (3, dO 1 0), (4, .d (DS pI [])), (5, dS 2), (24, dI (ln z0)), (25, dI (cnt 0 n1))]
def Agf (x0 : Aa) (x1 : Ab) (z2 : (List Int)) : List Res := [.box 29 (d29 x0), .box 34 (d34 x1), v0_ z2]
theorem Azz (x0 : Aa) (x1 : Ab) (r : (List Int)) (h : Ad4 x0 x1 = some r) : CO 155 [.agg (d29 x0), .agg (d34 x1)] [] (.d (.os 0)) [v0_ r] := by
 unfold Ad4 at h
 refine co 69 Tryz.func155 λ C hC => ?_
 obtain ⟨y1, h2, h⟩ := Au h
 refine ws Hj 28 [] [⟨.room (x0.Ao * (8 + 1)) (List.replicate (Int.toNat x0.Ao) (pI 0)) (y1.map pI), H3 h2⟩, pl pI y1] [] 0 n3_ (Xg y1 0 y1) (Acm x0 x1 0 y1) hC [] ?_
 obtain ⟨w0, hm0, hret0, hnext0⟩ := Aq h
 clear h
 refine wc w0 (Aff) (Agh x0 x1) ?_ λ z0 hs0 => ?_
 ·refine wb ?_
  refine Bk 5 2 rfl rfl λ hl0 => ?_
  refine wl (Xg y1) (Acm x0 x1) hm0 (λ z0 hn0 => ?_) λ n0 a0 z0 w0b hi0 hx0 h hb0 hr0 => ?_
  ·clear hm0
   exact wx w0 (Aff) (Agh x0 x1) Hj 26 [false] [] [] 0 n3_ _ hC [pq (A4 hl0)] hn0
  ·unfold Y2 at h
   obtain ⟨y3, h4, y5, h6, h⟩ := A6 h
   exact wx w0b (Xg y1 (n0 + 1)) (Acm x0 x1 (n0 + 1)) Hj 33 [true] [pr pI h4, pu pI h4 h6] [] 0 n3_ _ hC [pq (A1 hi0 hl0)] (sI h).symm
 ·have h := hnext0 _ hs0
  refine ws Hj 24 [] [pl pI z0] [] 0 n3_ (Xf z0 0 z0) (Acl x0 x1 0 z0) hC [] ?_
  obtain ⟨w1, hm1, hret1, hnext1⟩ := Aq h
  clear h
  refine wc w1 (Afe) (Agg) ?_ λ z1 hs1 => ?_
  ·refine wb ?_
   refine Bk 5 2 rfl rfl λ hl1 => ?_
   refine wl (Xf z0) (Acl x0 x1) hm1 (λ z1 hn1 => ?_) λ n1 a1 z1 w1b hi1 hx1 h hb1 hr1 => ?_
   ·clear hm1
    exact wx w1 (Afe) (Agg) Hj 26 [false] [] [] 0 [2] _ hC [pq (A4 hl1)] hn1
   ·unfold Y1 at h
    refine ws Hj 30 [true] [pl q49 x0.Ad] [] 0 n3_ (Qo x0 z0 n1 0 z1) (Wh x0 x1 0 z1) hC [pq (A1 hi1 hl1)] ?_
    obtain ⟨w2, hm2, hret2, hnext2⟩ := Aq h
    clear h
    refine wc w2 (Afd z0 n1) (Agf x0 x1) ?_ λ z2 hs2 => ?_
    ·refine wb ?_
     refine Bb 28 rfl λ hl2 => ?_
     refine wl (Qo x0 z0 n1) (Wh x0 x1) hm2 (λ z2 hn2 => ?_) λ n2 a2 z2 w2b hi2 hx2 h hb2 hr2 => ?_
     ·clear hm2
      exact wx w2 (Afd z0 n1) (Agf x0 x1) Hj 26 [false] [] [] 0 n3_ _ hC [pq (A4 hl2)] hn2
     ·unfold Rs at h
      obtain ⟨y7, h8, h⟩ := Au h
      rcases cB h with ⟨h9, h⟩ | ⟨h9, h⟩
      ·obtain ⟨y10, h11, y12, h13, y14, h15, h⟩ := Bi h
       obtain ⟨y16, h17, y18, h19, h⟩ := A6 h
       exact wx w2b (Qo x0 z0 n1 (n2 + 1)) (Wh x0 x1 (n2 + 1)) Hj 38 [true, true] [pt hx2 hl2, pR pB h8, pr pI h11, pn pI h11, pr pI h13, pn pI h13, pr pI h11, pu pI h11 h15, pr pI h17, pu pI h17 h19] [] 0 n3_ _ hC [pq (A1 hi2 hl2), pq h9] (sI h).symm
      ·exact wx w2b (Qo x0 z0 n1 (n2 + 1)) (Wh x0 x1 (n2 + 1)) Hj 36 [true, false] [pt hx2 hl2, pR pB h8] [] 0 n3_ _ hC [pq (A1 hi2 hl2), pq h9] (sI h).symm
    ·have h := hnext2 _ hs2
     exact wx w1b (Xf z0 (n1 + 1)) (Acl x0 x1 (n1 + 1)) Hj 23 [] [] [] 0 n3_ _ hC [] (sI h).symm
  ·have h := hnext1 _ hs1
   replace h := sI h
   subst h
   exact wr Hj 23 [] [] [] 0 [0] hC []
theorem A0p : EN 155 := en Tryz.func155
def Vf : List Nat := [0, 1, 2, 3, 4, 5, 8, 9, 10, 11, 13, 14, 15, 16, 36]
def Xd (x0 : Aa) (x2 : Int) (x3 : Int) (n0 : Nat) (z0 : Unit) : St := [(2, dI x2), (3, dI x3), (5, dO 0 0), (8, dI 0), (9, dB false), (13, .d (DS q49 x0.Ad)), (14, dI (ln x0.Ad)), (15, dI (cnt 0 n0))]
def Ach (x1 : Ab) (n0 : Nat) (z0 : Unit) : List Res := [.box 34 (d34 x1)]
def Afb  (z0 : Unit) : St := [(8, dI 0), (9, dB false)]
def Agd  (z0 : Unit) : List Res := []
theorem Avj (x0 : Aa) (x1 : Ab) (x2 : Int) (x3 : Int) (r : Int × Bool) (h : Yz x0 x1 x2 x3 = some r) : CO 167 [.agg (d29 x0), .agg (d34 x1), .d (I x2), .d (I x3)] [] (.tup [.d (I r.1), .d (Bo r.2)]) [] := by
 unfold Yz at h
 refine co 40 Tryz.func167 λ C hC => ?_
 refine ws Vf 26 [] [pl q49 x0.Ad] [] 0 [1] (Xd x0 x2 x3 0 ()) (Ach x1 0 ()) hC [] ?_
 obtain ⟨w0, hm0, hret0, hnext0⟩ := Aq h
 clear h
 refine wc w0 (Afb) (Agd) ?_ λ z0 hs0 => ?_
 ·refine wb ?_
  refine Bb 13 rfl λ hl0 => ?_
  refine wl (Xd x0 x2 x3) (Ach x1) hm0 (λ z0 hn0 => ?_) λ n0 a0 z0 w0b hi0 hx0 h hb0 hr0 => ?_
  ·clear hm0
   exact wx w0 (Afb) (Agd) Vf 26 [false] [] [] 0 [] _ hC [pq (A4 hl0)] hn0
  ·unfold Ro at h
   obtain ⟨y1, h2, h⟩ := Au h
   rcases cB h with ⟨h3, h⟩ | ⟨h3, h⟩
   ·have hq := hret0 _ (hr0 _ (sI h).symm)
    replace hq := sI hq
    subst hq
    exact wr Vf 35 [true, true] [pt hx0 hl0, pR pB h2] [] 0 [] hC [pq (A1 hi0 hl0), pq h3]
   ·exact wx w0b (Xd x0 x2 x3 (n0 + 1)) (Ach x1 (n0 + 1)) Vf 36 [true, false] [pt hx0 hl0, pR pB h2] [] 0 [0] _ hC [pq (A1 hi0 hl0), pq h3] (sI h).symm
 ·have h := hnext0 _ hs0
  replace h := sI h
  subst h
  exact wr Vf 23 [] [] [] 0 [] hC []
theorem Awm : EN 167 := en Tryz.func167
theorem Avm (x0 : Aj) (r : Bool) (h : Akf x0 = r) : CO 158 [.agg (d62 x0)] [] (.d (Bo r)) [] := by
 unfold Akf at h
 refine co 7 Tryz.func158 λ C hC => ?_
 subst h
 exact wr n3_ 25 [] [pl pI x0.Ao] [] 0 [] hC []
theorem Awp : EN 158 := en Tryz.func158
def Q1 : List Nat := [0, 1, 2, 3, 5, 7, 8, 9, 10, 11]
def Ow (x1 : List Int) (n0 : Nat) (z0 : (List Ae)) : St := [(3, dO 4 0), (5, dO 5 0), (8, .d (DS pI x1)), (9, dI (ln x1)), (10, dI (cnt 0 n0))]
def Tr (x0 : Ab) (x2 : Ae) (n0 : Nat) (z0 : (List Ae)) : List Res := [v1_ x0.Ah, v4_ z0, v0_ x0.As, v3_ x0.Ak, .box 34 [.os 0, .os 1, .os 2, .os 3], .box 87 (d87 x2)]
def Zy  (z0 : (List Ae)) : St := []
def jZ (x0 : Ab) (z0 : (List Ae)) : List Res := [v1_ x0.Ah, v4_ z0, v0_ x0.As, v3_ x0.Ak]
theorem Aaq (x0 : Ab) (x1 : List Int) (x2 : Ae) (r : (List Ae)) (h : Kr x0 x1 x2 = some r) : CO 145 [.agg [.os 0, .os 1, .os 2, .os 3], .d (DS pI x1), .agg (d87 x2)] (zp x0 []) (.tup []) [v1_ x0.Ah, v4_ r, v0_ x0.As, v3_ x0.Ak] := by
 unfold Kr at h
 refine co 29 Tryz.func145 λ C hC => ?_
 refine ws Q1 25 [] [pl pI x1] [] 4 n6_ (Ow x1 0 x0.Ac) (Tr x0 x2 0 x0.Ac) hC [] ?_
 obtain ⟨w0, hm0, hret0, hnext0⟩ := Aq h
 clear h
 refine wc w0 (Zy) (jZ x0) ?_ λ z0 hs0 => ?_
 ·refine wb ?_
  refine Bb 8 rfl λ hl0 => ?_
  refine wl (Ow x1) (Tr x0 x2) hm0 (λ z0 hn0 => ?_) λ n0 a0 z0 w0b hi0 hx0 h hb0 hr0 => ?_
  ·clear hm0
   exact wx w0 (Zy) (jZ x0) Q1 26 [false] [] [] 4 n4_ _ hC [pq (A4 hl0)] hn0
  ·unfold Qj at h
   obtain ⟨y1, h2, y3, h4, y5, h6, y7, h8, h⟩ := Cv h
   exact wx w0b (Ow x1 (n0 + 1)) (Tr x0 x2 (n0 + 1)) Q1 33 [true] [pt hx0 hl0, pr q87 h2, pu q87 h2 h4, pr q87 h6, pu q87 h6 h8] [] 4 n6_ _ hC [pq (A1 hi0 hl0)] (sI h).symm
 ·have h := hnext0 _ hs0
  replace h := sI h
  subst h
  exact wf Q1 20 [] [] [] 4 n4_ hC []
theorem Abh : EN 145 := en Tryz.func145
def X1 : List Nat := [0, 1, 2, 3, 8, 9, 14, 34]
def Zk (x0 : List Int) (x1 : Int) (x2 : Int) (x3c0 : Aa) (z0 : Unit) : St := [(0, .d (DS pI x0)), (1, dI x1), (2, dI x2), (3, .d (.fn (.func 133) [] [.ip [.v (.int .i64 x3c0.Ao), .s (x3c0.Ad.map q49), .s (x3c0.Ac.map q98), .s (x3c0.Ai.map q90), .v (.int .i64 x3c0.Phase), .v (.int .i64 x3c0.Ar)]])), (8, dI (w64 (x1 + 1)))]
def Acg  (z0 : Unit) : List Res := []
def Zq  (z0 : Unit) : St := []
def jR  (z0 : Unit) : List Res := []
theorem Avh (x0 : List Int) (x1 : Int) (x2 : Int) (x3c0 : Aa) (r : Unit) (h : Ad0 x0 x1 x2 x3c0 = some r) : CO 175 [.d (DS pI x0), .d (I x1), .d (I x2), .d (.fn (.func 133) [] [.ip [.v (.int .i64 x3c0.Ao), .s (x3c0.Ad.map q49), .s (x3c0.Ac.map q98), .s (x3c0.Ai.map q90), .v (.int .i64 x3c0.Phase), .v (.int .i64 x3c0.Ar)]])] [] (.tup []) [] := by
 unfold Ad0 at h
 refine co 53 Tryz.func175 λ C hC => ?_
 refine ws X1 23 [] [] [] 0 [] (Zk x0 x1 x2 x3c0 ()) (Acg ()) hC [] ?_
 obtain ⟨w0, hm0, hret0, hnext0⟩ := Aq h
 clear h
 refine wc w0 (Zq) (jR) ?_ λ z0 hs0 => ?_
 ·refine wb ?_
  refine ww (Zk x0 x1 x2 x3c0) (Acg) hm0 λ z0 w0b h hb0 hr0 => ?_
  unfold qH at h
  rcases cB h with ⟨h1, h⟩ | ⟨h1, h⟩
  ·cases h
  ·exact wx w0 (Zq) (jR) X1 26 [false] [] [] 0 [] () hC [pq h1] (hb0 _ (sI h).symm)
 ·have h := hnext0 _ hs0
  replace h := sI h
  subst h
  exact wf X1 20 [] [] [] 0 [] hC []
theorem Awk : EN 175 := en Tryz.func175
def Ahr : List Nat := [0, 1, 4, 5, 10, 12, 13, 14, 24]
def vU (x0 : List Bool) (x1 : List Bool) (n0 : Nat) (z0 : Unit) : St := [(0, .d (DS pB x0)), (1, .d (DS pB x1)), (4, dB false), (12, dI (ln x0)), (13, dI (cnt 0 n0))]
def Aja  (n0 : Nat) (z0 : Unit) : List Res := []
def Aln  (z0 : Unit) : St := [(4, dB false)]
def Aox  (z0 : Unit) : List Res := []
theorem k72 (x0 : List Bool) (x1 : List Bool) (r : Bool) (h : F72 x0 x1 = some r) : CO 72 [.d (DS pB x0), .d (DS pB x1)] [] (.d (Bo r)) [] := by
 unfold F72 at h
 refine co 26 Tryz.func72 λ C hC => ?_
 rcases cB h with ⟨h1, h⟩ | ⟨h1, h⟩
 ·cases h
 ·refine ws Ahr 31 [false] [pl pB x0, pl pB x1, pl pB x0] [] 0 [] (vU x0 x1 0 ()) (Aja 0 ()) hC [pq h1] ?_
  obtain ⟨w0, hm0, hret0, hnext0⟩ := Aq h
  clear h
  refine wc w0 (Aln) (Aox) ?_ λ z0 hs0 => ?_
  ·refine wb ?_
   refine Bb 0 rfl λ hl0 => ?_
   refine wl (vU x0 x1) (Aja) hm0 (λ z0 hn0 => ?_) λ n0 a0 z0 w0b hi0 hx0 h hb0 hr0 => ?_
   ·clear hm0
    exact wx w0 (Aln) (Aox) Ahr 26 [false] [] [] 0 [] _ hC [pq (A4 hl0)] hn0
   ·unfold Aqb at h
    obtain ⟨y2, h3, h⟩ := Au h
    rcases cB h with ⟨h4, h⟩ | ⟨h4, h⟩
    ·cases h
    ·exact wx w0b (vU x0 x1 (n0 + 1)) (Aja (n0 + 1)) Ahr 36 [true, false] [pt hx0 hl0, pr pB h3] [] 0 [] _ hC [pq (A1 hi0 hl0), pq h4] (sI h).symm
  ·have h := hnext0 _ hs0
   replace h := sI h
   subst h
   exact wr Ahr 23 [] [] [] 0 [] hC []
theorem e72 : EN 72 := en Tryz.func72
def Ahq : List Nat := [0, 1, 4, 5, 10, 12, 13, 14, 24]
def vT (x0 : List Ae) (x1 : List Ae) (n0 : Nat) (z0 : Unit) : St := [(0, .d (DS q87 x0)), (1, .d (DS q87 x1)), (4, dB false), (12, dI (ln x0)), (13, dI (cnt 0 n0))]
def Ai9  (n0 : Nat) (z0 : Unit) : List Res := []
def Alm  (z0 : Unit) : St := [(4, dB false)]
def Aow  (z0 : Unit) : List Res := []
theorem k73 (x0 : List Ae) (x1 : List Ae) (r : Bool) (h : F73 x0 x1 = some r) : CO 73 [.d (DS q87 x0), .d (DS q87 x1)] [] (.d (Bo r)) [] := by
 unfold F73 at h
 refine co 26 Tryz.func73 λ C hC => ?_
 rcases cB h with ⟨h1, h⟩ | ⟨h1, h⟩
 ·cases h
 ·refine ws Ahq 31 [false] [pl q87 x0, pl q87 x1, pl q87 x0] [] 0 [] (vT x0 x1 0 ()) (Ai9 0 ()) hC [pq h1] ?_
  obtain ⟨w0, hm0, hret0, hnext0⟩ := Aq h
  clear h
  refine wc w0 (Alm) (Aow) ?_ λ z0 hs0 => ?_
  ·refine wb ?_
   refine Bb 0 rfl λ hl0 => ?_
   refine wl (vT x0 x1) (Ai9) hm0 (λ z0 hn0 => ?_) λ n0 a0 z0 w0b hi0 hx0 h hb0 hr0 => ?_
   ·clear hm0
    exact wx w0 (Alm) (Aow) Ahq 26 [false] [] [] 0 [] _ hC [pq (A4 hl0)] hn0
   ·unfold Aqa at h
    obtain ⟨y2, h3, h⟩ := Au h
    rcases cB h with ⟨h4, h⟩ | ⟨h4, h⟩
    ·cases h
    ·exact wx w0b (vT x0 x1 (n0 + 1)) (Ai9 (n0 + 1)) Ahq 36 [true, false] [pt hx0 hl0, pr q87 h3] [] 0 [] _ hC [pq (A1 hi0 hl0), pq h4] (sI h).symm
  ·have h := hnext0 _ hs0
   replace h := sI h
   subst h
   exact wr Ahq 23 [] [] [] 0 [] hC []
theorem e73 : EN 73 := en Tryz.func73
def Aae : List Nat := [0, 1, 4, 5, 10, 12, 13, 14, 24]
def vS (x0 : List Int) (x1 : List Int) (n0 : Nat) (z0 : Unit) : St := [(0, .d (DS pI x0)), (1, .d (DS pI x1)), (4, dB false), (12, dI (ln x0)), (13, dI (cnt 0 n0))]
def Ai8  (n0 : Nat) (z0 : Unit) : List Res := []
def All  (z0 : Unit) : St := [(4, dB false)]
def Aov  (z0 : Unit) : List Res := []
theorem k74 (x0 : List Int) (x1 : List Int) (r : Bool) (h : F74 x0 x1 = some r) : CO 74 [.d (DS pI x0), .d (DS pI x1)] [] (.d (Bo r)) [] := by
 unfold F74 at h
 refine co 26 Tryz.func74 λ C hC => ?_
 rcases cB h with ⟨h1, h⟩ | ⟨h1, h⟩
 ·cases h
 ·refine ws Aae 31 [false] [pl pI x0, pl pI x1, pl pI x0] [] 0 [] (vS x0 x1 0 ()) (Ai8 0 ()) hC [pq h1] ?_
  obtain ⟨w0, hm0, hret0, hnext0⟩ := Aq h
  clear h
  refine wc w0 (All) (Aov) ?_ λ z0 hs0 => ?_
  ·refine wb ?_
   refine Bb 0 rfl λ hl0 => ?_
   refine wl (vS x0 x1) (Ai8) hm0 (λ z0 hn0 => ?_) λ n0 a0 z0 w0b hi0 hx0 h hb0 hr0 => ?_
   ·clear hm0
    exact wx w0 (All) (Aov) Aae 26 [false] [] [] 0 [] _ hC [pq (A4 hl0)] hn0
   ·unfold Ap9 at h
    obtain ⟨y2, h3, h⟩ := Au h
    rcases cB h with ⟨h4, h⟩ | ⟨h4, h⟩
    ·have hq := hret0 _ (hr0 _ (sI h).symm)
     replace hq := sI hq
     subst hq
     exact wr Aae 35 [true, true] [pt hx0 hl0, pr pI h3] [] 0 [] hC [pq (A1 hi0 hl0), pq h4]
    ·exact wx w0b (vS x0 x1 (n0 + 1)) (Ai8 (n0 + 1)) Aae 36 [true, false] [pt hx0 hl0, pr pI h3] [] 0 [] _ hC [pq (A1 hi0 hl0), pq h4] (sI h).symm
  ·have h := hnext0 _ hs0
   replace h := sI h
   subst h
   exact wr Aae 23 [] [] [] 0 [] hC []
theorem e74 : EN 74 := en Tryz.func74
def Aad : List Nat := [0, 1, 4, 5, 10, 12, 13, 14, 24]
def vR (x0 : List Al) (x1 : List Al) (n0 : Nat) (z0 : Unit) : St := [(0, .d (DS q92 x0)), (1, .d (DS q92 x1)), (4, dB false), (12, dI (ln x0)), (13, dI (cnt 0 n0))]
def Ai7  (n0 : Nat) (z0 : Unit) : List Res := []
def Alk  (z0 : Unit) : St := [(4, dB false)]
def Aou  (z0 : Unit) : List Res := []
theorem k75 (x0 : List Al) (x1 : List Al) (r : Bool) (h : F75 x0 x1 = some r) : CO 75 [.d (DS q92 x0), .d (DS q92 x1)] [] (.d (Bo r)) [] := by
 unfold F75 at h
 refine co 26 Tryz.func75 λ C hC => ?_
 rcases cB h with ⟨h1, h⟩ | ⟨h1, h⟩
 ·cases h
 ·refine ws Aad 31 [false] [pl q92 x0, pl q92 x1, pl q92 x0] [] 0 [] (vR x0 x1 0 ()) (Ai7 0 ()) hC [pq h1] ?_
  obtain ⟨w0, hm0, hret0, hnext0⟩ := Aq h
  clear h
  refine wc w0 (Alk) (Aou) ?_ λ z0 hs0 => ?_
  ·refine wb ?_
   refine Bb 0 rfl λ hl0 => ?_
   refine wl (vR x0 x1) (Ai7) hm0 (λ z0 hn0 => ?_) λ n0 a0 z0 w0b hi0 hx0 h hb0 hr0 => ?_
   ·clear hm0
    exact wx w0 (Alk) (Aou) Aad 26 [false] [] [] 0 [] _ hC [pq (A4 hl0)] hn0
   ·unfold Ap8 at h
    obtain ⟨y2, h3, h⟩ := Au h
    rcases cB h with ⟨h4, h⟩ | ⟨h4, h⟩
    ·have hq := hret0 _ (hr0 _ (sI h).symm)
     replace hq := sI hq
     subst hq
     exact wr Aad 35 [true, true] [pt hx0 hl0, pr q92 h3] [] 0 [] hC [pq (A1 hi0 hl0), pq h4]
    ·exact wx w0b (vR x0 x1 (n0 + 1)) (Ai7 (n0 + 1)) Aad 36 [true, false] [pt hx0 hl0, pr q92 h3] [] 0 [] _ hC [pq (A1 hi0 hl0), pq h4] (sI h).symm
  ·have h := hnext0 _ hs0
   replace h := sI h
   subst h
   exact wr Aad 23 [] [] [] 0 [] hC []
theorem e75 : EN 75 := en Tryz.func75
def Ahp : List Nat := [0, 1, 4, 5, 7, 8, 9, 16]
def Akp (x0 : List Bool) (x1 : Bool) (n0 : Nat) (z0 : Unit) : St := [(0, .d (DS pB x0)), (1, dB x1), (4, dI 0), (7, dI (ln x0)), (8, dI (cnt 0 n0))]
def Atq  (n0 : Nat) (z0 : Unit) : List Res := []
def Alj  (z0 : Unit) : St := [(4, dI 0)]
def Aot  (z0 : Unit) : List Res := []
theorem k77 (x0 : List Bool) (x1 : Bool) (r : Int) (h : F77 x0 x1 = some r) : CO 77 [.d (DS pB x0), .d (Bo x1)] [] (.d (I r)) [] := by
 unfold F77 at h
 refine co 19 Tryz.func77 λ C hC => ?_
 refine ws Ahp 26 [] [pl pB x0] [] 0 [] (Akp x0 x1 0 ()) (Atq 0 ()) hC [] ?_
 obtain ⟨w0, hm0, hret0, hnext0⟩ := Aq h
 clear h
 refine wc w0 (Alj) (Aot) ?_ λ z0 hs0 => ?_
 ·refine wb ?_
  refine Bb 0 rfl λ hl0 => ?_
  refine wl (Akp x0 x1) (Atq) hm0 (λ z0 hn0 => ?_) λ n0 a0 z0 w0b hi0 hx0 h hb0 hr0 => ?_
  ·clear hm0
   exact wx w0 (Alj) (Aot) Ahp 26 [false] [] [] 0 [] _ hC [pq (A4 hl0)] hn0
  ·unfold Ap7 at h
   rcases cB h with ⟨h1, h⟩ | ⟨h1, h⟩
   ·have hq := hret0 _ (hr0 _ (sI h).symm)
    replace hq := sI hq
    subst hq
    exact wr Ahp 35 [true, true] [pt hx0 hl0] [] 0 [] hC [pq (A1 hi0 hl0), pq h1]
   ·cases h
 ·have h := hnext0 _ hs0
  replace h := sI h
  subst h
  exact wr Ahp 23 [] [] [] 0 [] hC []
theorem e77 : EN 77 := en Tryz.func77
theorem uE (x0 : Av) (x1 : Int) (x2 : Int) (r : Av) (h : Rn x0 x1 x2 = some r) : CO 40 [.d (.o 0 0), .d (I x1), .d (I x2)] (.box 80 (zb x0.Am [.os 1, .os 2, .os 3, .os 4, .os 5, .os 6]) :: zp x0.Ap [v1_ x0.goal, v2_ x0.acts]) (.tup []) (.box 80 (zb r.Am [.os 1, .os 2, .os 3, .os 4, .os 5, .os 7]) :: zp r.Ap [v1_ r.goal, .non, v2_ r.acts]) := by
 unfold Rn at h
 refine co 27 Tryz.func40 λ C hC => ?_
 obtain ⟨y1, h2, y3, h4, y5, h6, h⟩ := Bi h
 replace h := sI h
 subst h
 exact wf n3_ 23 [] [pa q47 3 h2, pr pB h4, pu pB h4 h6] [] 7 n8_ hC []
theorem uF : EN 40 := en Tryz.func40
theorem Azx (x0 : Int) (x1 : Int) (r : Int × Int) (h : Akd x0 x1 = r) : CO 164 [.d (.p (.v (.int .u64 x0))), .d (.p (.v (.int .u64 x1)))] [] (.tup [.d (.p (.v (.int .u64 r.1))), .d (.p (.v (.int .u64 r.2)))]) [] := by
 unfold Akd at h
 refine co 51 Tryz.func164 λ C hC => ?_
 subst h
 exact wr [0, 1, 4, 5, 6, 7, 8, 9, 10, 11, 12, 13] 45 [] [] [] 0 [] hC []
theorem A0n : EN 164 := en Tryz.func164
theorem k84 (x0 : List Int) : CO 84 [.d (.p (.s (x0.map pI)))] [] (.d (.fn (.func 131) [] [.o 0 0])) [.box 22 [.p (.s (x0.map pI))]] := by
 refine co 4 Tryz.func84 λ C hC => ?_
 exact wr [1, 2] 40 [] [] [] 0 [0] hC []
theorem e84 : EN 84 := en Tryz.func84
def Vj : List Nat := [0, 1, 2, 3, 6, 7, 8, 9, 14, 19, 23]
theorem S8 (x0 : Aa) (x1 : Int) (x2 : Int) (r : Bool) (h : Ih x0 x1 x2 = r) : CO 108 [.agg (d29 x0), .d (I x1), .d (I x2)] [] (.d (Bo r)) [] := by
 unfold Ih at h
 refine co 35 Tryz.func108 λ C hC => ?_
 rcases cB h with ⟨h1, h⟩ | ⟨h1, h⟩
 ·subst h
  exact wr Vj 36 [true] [pl q98 x0.Ac] [] 0 [] hC [pq h1]
 ·rcases cB h with ⟨h2, h⟩ | ⟨h2, h⟩
  ·subst h
   exact wr Vj 39 [false, true] [pl q49 x0.Ad] [] 0 [] hC [pq h1, pq h2]
  ·rcases cB h with ⟨h3, h⟩ | ⟨h3, h⟩
   ·subst h
    exact wr Vj 42 [false, false, true] [] [] 0 [] hC [pq h1, pq h2, pq h3]
   ·rcases cB h with ⟨h4, h⟩ | ⟨h4, h⟩
    ·subst h
     exact wr Vj 45 [false, false, false, true] [pl q90 x0.Ai] [] 0 [] hC [pq h1, pq h2, pq h3, pq h4]
    ·subst h
     exact wr Vj 45 [false, false, false, false] [] [] 0 [] hC [pq h1, pq h2, pq h3, pq h4]
theorem Tc : EN 108 := en Tryz.func108
theorem Ah2 (x0 : Int) (r : Int) (h : Ft x0 = r) : CO 171 [.d (I x0)] [] (.d (I r)) [] := by
 unfold Ft at h
 refine co 10 Tryz.func171 λ C hC => ?_
 rcases cB h with ⟨h1, h⟩ | ⟨h1, h⟩
 ·subst h
  exact wr [0, 2, 6] 32 [true] [⟨.nz 3600, U_ rfl⟩] [] 0 [] hC [pq h1]
 ·subst h
  exact wr [0, 2, 6] 32 [false] [⟨.nz 3600, U_ rfl⟩] [] 0 [] hC [pq h1]
theorem Aie : EN 171 := en Tryz.func171
theorem Av7 (x0 : Az) (x1 : Int) (x2 : Int) (r : Int × Az) (h : Ks x0 x1 x2 = some r) : CO 114 [.d (.o 0 0), .d (I x1), .d (I x2)] (.box 107 (zb x0.Am [.os 1, .os 2, .os 3, .os 4, I x0.time]) :: zp x0.Ap []) (.d (I r.1)) (.box 107 (zb r.2.Am [.os 1, .os 2, .os 3, .os 4, I r.2.time]) :: zp r.2.Ap []) := by
 unfold Ks at h
 refine co 30 Tryz.func114 λ C hC => ?_
 obtain ⟨y1, h2, h⟩ := Au h
 rcases cB h with ⟨h3, h⟩ | ⟨h3, h⟩
 ·replace h := sI h
  subst h
  exact wr [0, 1, 2, 6, 21] 29 [true] [pR q90 h2] [] 5 n5_ hC [pq h3]
 ·obtain ⟨y4, h5, y6, h7, h⟩ := A6 h
  replace h := sI h
  subst h
  exact wr [0, 1, 2, 6, 21] 32 [false] [pR q90 h2, pr pI h5, pu pI h5 h7] [] 5 n5_ hC [pq h3]
theorem Axa : EN 114 := en Tryz.func114
theorem Avr (x0 : Al) (x1 : Al) (r : Int) (h : N9 x0 x1 = r) : CO 149 [.agg (d92 x0), .agg (d92 x1)] [] (.d (I r)) [] := by
 unfold N9 at h
 refine co 20 Tryz.func149 λ C hC => ?_
 rcases cB h with ⟨h1, h⟩ | ⟨h1, h⟩
 ·subst h
  exact wr [0, 1, 2, 3, 4, 9] 29 [true] [] [] 0 [] hC [pq h1]
 ·subst h
  exact wr [0, 1, 2, 3, 4, 9] 30 [false] [] [] 0 [] hC [pq h1]
theorem Awu : EN 149 := en Tryz.func149
def X3 : List Nat := [0, 1, 2, 6, 7, 8, 9, 16, 22, 31, 68]
theorem Avq (x0 : List Al) (x1 : Int) (x2 : List Al) (r : (List Al)) (h : Mo x0 x1 x2 = some r) : CO 150 [.d (.os 0), .d (I x1), .d (DS q92 x2)] [v3_ x0] (.d (.os 1)) [.non, v3_ r] := by
 by_cases hh : ((ln x2) == 0) = false /\ (x1 == (ln x0)) = false
 ·unfold Mo at h
  exact Aue (enc := q92) (λ _ => rfl) hh.1 hh.2 h
 unfold Mo at h
 refine co 95 Tryz.func150 λ C hC => ?_
 obtain ⟨u2, h1, h⟩ := Au h
 rcases cB h with ⟨h3, h⟩ | ⟨h3, h⟩
 ·replace h := sI h
  subst h
  exact wr X3 33 [true] [⟨.bnd (x0.map q92).length x1 (((x0.map q92).length : Nat) : Int) (ln x0), Fr (by simp) (by simp) h1⟩, pl q92 x2] [.mv 0] 1 [0, 1] hC [pq h3]
 ·refine wn X3 37 [false] [⟨.bnd (x0.map q92).length x1 (((x0.map q92).length : Nat) : Int) (ln x0), Fr (by simp) (by simp) h1⟩, pl q92 x2, pl q92 x0] [] 1 [0] [0, 1, 2, 6, 7, 8, 22] hC [pq h3] ?_
  rcases cB h with ⟨h4, h⟩ | ⟨h4, h⟩
  ·obtain ⟨y5, h6, h⟩ := Au h
   replace h := sI h
   subst h
   exact wr X3 24 [true] [pa q92 2 h6] [] 1 [0, 1] hC [pq h4]
  ·exact absurd ⟨h3, h4⟩ hh
theorem Awt : EN 150 := en Tryz.func150
theorem Avp (x0 : List Al) (x1 : Int) (x2 : Int) (r : (List Al)) (h : Qg x0 x1 x2 = some r) : CO 151 [.d (.os 0), .d (I x1), .d (I x2)] [.sl 92 2 (x0.map q92)] (.d (.os 1)) [.non, .sl 92 2 (r.map q92)] := by
 unfold Qg at h
 refine co 33 Tryz.func151 λ C hC => ?_
 obtain ⟨u2, h1, h⟩ := Au h
 rcases cB h with ⟨h3, h⟩ | ⟨h3, h⟩
 ·replace h := sI h
  subst h
  exact wr [0, 1, 2, 6, 7, 16] 31 [true] [pl q92 x0, ⟨.bnd3 (x0.map q92).length x1 x2 (ln x0), Abu (by simp) h1⟩] [.mv 0] 1 [0, 1] hC [pq h3]
 ·obtain ⟨u5, h4, u7, h6, y8, h9, u11, h10, h⟩ := Cv h
  replace h := sI h
  subst h
  (rw [List.map_take]; exact Abw (bs := [((x1 == x2), false)]) Hh [0, 1, 2, 6, 7, 16] 38 [false] [.len (ln (x0.map q92)) (ln x0), .bnd3 (x0.map q92).length x1 x2 (ln x0), .len (ln (x0.map q92)) (ln x0), .bnd (x0.map q92).length 0 x1 x1, .bnd (x0.map q92).length x2 (((x0.map q92).length : Nat) : Int) (ln x0), .appP (x0.map q92) (((x0.map q92).drop (Int.toNat x2)).take ((Int.toNat (ln x0)) - (Int.toNat x2))) 2 ((Int.toNat x1) - 0) (((Int.toNat x1) - 0) + ((x0.drop (Int.toNat x2)).take ((Int.toNat (ln x0)) - (Int.toNat x2))).length) ((x0.map q92).take ((Int.toNat x1) - 0) ++ ((((x0.map q92).drop (Int.toNat x2)).take ((Int.toNat (ln x0)) - (Int.toNat x2))) ++ (x0.map q92).drop (((Int.toNat x1) - 0) + (((x0.map q92).drop (Int.toNat x2)).take ((Int.toNat (ln x0)) - (Int.toNat x2))).length))) (y8.map q92), .len (((((Int.toNat x1) - 0) + ((x0.drop (Int.toNat x2)).take ((Int.toNat (ln x0)) - (Int.toNat x2))).length) : Nat) : Int) (((((Int.toNat x1) - 0) + ((x0.drop (Int.toNat x2)).take ((Int.toNat (ln x0)) - (Int.toNat x2))).length) : Nat) : Int), .bnd ((y8.map q92).length - 0) (((((Int.toNat x1) - 0) + ((x0.drop (Int.toNat x2)).take ((Int.toNat (ln x0)) - (Int.toNat x2))).length) : Nat) : Int) (ln x0) (ln x0), .eqr ((y8.map q92).take (0 + (Int.toNat (((((Int.toNat x1) - 0) + ((x0.drop (Int.toNat x2)).take ((Int.toNat (ln x0)) - (Int.toNat x2))).length) : Nat) : Int))) ++ (List.replicate ((Int.toNat (ln x0)) - (Int.toNat (((((Int.toNat x1) - 0) + ((x0.drop (Int.toNat x2)).take ((Int.toNat (ln x0)) - (Int.toNat x2))).length) : Nat) : Int))) (q92 (⟨0, 0⟩ : Al)) ++ (y8.map q92).drop ((0 + (Int.toNat (((((Int.toNat x1) - 0) + ((x0.drop (Int.toNat x2)).take ((Int.toNat (ln x0)) - (Int.toNat x2))).length) : Nat) : Int))) + ((Int.toNat (ln x0)) - (Int.toNat (((((Int.toNat x1) - 0) + ((x0.drop (Int.toNat x2)).take ((Int.toNat (ln x0)) - (Int.toNat x2))).length) : Nat) : Int)))))) ((Jf y8 (0 + (Int.toNat (((((Int.toNat x1) - 0) + ((x0.drop (Int.toNat x2)).take ((Int.toNat (ln x0)) - (Int.toNat x2))).length) : Nat) : Int))) ((Int.toNat (ln x0)) - (Int.toNat (((((Int.toNat x1) - 0) + ((x0.drop (Int.toNat x2)).take ((Int.toNat (ln x0)) - (Int.toNat x2))).length) : Nat) : Int))) (⟨0, 0⟩ : Al)).map q92)] [.trunc 6] [.tmp 6] 1 [0, 1] rfl hC ⟨Q7 _ _, Abu (by simp) h1, Q7 _ _, Fr (by simp) rfl h4, Fr (by simp) (by simp) h6, Ar4 q92 2 (λ _ => rfl) (zS _ _ _ _) h9, rfl, Fr (by simp) rfl h10, Af5 q92 rfl, trivial⟩ ⟨h3, trivial⟩ (by kernel_rfl))
theorem Aws : EN 151 := en Tryz.func151
def Ahs : List Nat := [0, 1, 4, 5, 10, 12, 13, 14, 24]
def yA (x0 : List An) (x1 : List An) (n0 : Nat) (z0 : Unit) : St := [(0, .d (DS q47 x0)), (1, .d (DS q47 x1)), (4, dB false), (12, dI (ln x0)), (13, dI (cnt 0 n0))]
def Ajh  (n0 : Nat) (z0 : Unit) : List Res := []
def Al1  (z0 : Unit) : St := [(4, dB false)]
def Apb  (z0 : Unit) : List Res := []
theorem k43 (x0 : List An) (x1 : List An) (r : Bool) (h : F43 x0 x1 = some r) : CO 43 [.d (DS q47 x0), .d (DS q47 x1)] [] (.d (Bo r)) [] := by
 unfold F43 at h
 refine co 26 Tryz.func43 λ C hC => ?_
 rcases cB h with ⟨h1, h⟩ | ⟨h1, h⟩
 ·cases h
 ·refine ws Ahs 31 [false] [pl q47 x0, pl q47 x1, pl q47 x0] [] 0 [] (yA x0 x1 0 ()) (Ajh 0 ()) hC [pq h1] ?_
  obtain ⟨w0, hm0, hret0, hnext0⟩ := Aq h
  clear h
  refine wc w0 (Al1) (Apb) ?_ λ z0 hs0 => ?_
  ·refine wb ?_
   refine Bb 0 rfl λ hl0 => ?_
   refine wl (yA x0 x1) (Ajh) hm0 (λ z0 hn0 => ?_) λ n0 a0 z0 w0b hi0 hx0 h hb0 hr0 => ?_
   ·clear hm0
    exact wx w0 (Al1) (Apb) Ahs 26 [false] [] [] 0 [] _ hC [pq (A4 hl0)] hn0
   ·unfold Aqd at h
    obtain ⟨y2, h3, h⟩ := Au h
    rcases cB h with ⟨h4, h⟩ | ⟨h4, h⟩
    ·cases h
    ·exact wx w0b (yA x0 x1 (n0 + 1)) (Ajh (n0 + 1)) Ahs 36 [true, false] [pt hx0 hl0, pr q47 h3] [] 0 [] _ hC [pq (A1 hi0 hl0), pq h4] (sI h).symm
  ·have h := hnext0 _ hs0
   replace h := sI h
   subst h
   exact wr Ahs 23 [] [] [] 0 [] hC []
theorem e43 : EN 43 := en Tryz.func43
theorem k60 (x0 : Ag) (x1 : Int) (r : Int × Ag) (h : F60 x0 x1 = some r) : CO 60 [.d (.o 0 0), .d (I x1)] [.box 70 (d70 x0)] (.d (I r.1)) [.box 70 (d70 r.2)] := by
 unfold F60 at h
 refine co 35 Tryz.func60 λ C hC => ?_
 rcases cB h with ⟨h1, h⟩ | ⟨h1, h⟩
 ·replace h := sI h
  subst h
  exact wr [0, 1, 4, 14] 29 [true] [pl pI x0.L] [] 1 [0] hC [pq h1]
 ·obtain ⟨y2, h3, y4, h5, h⟩ := A6 h
  replace h := sI h
  subst h
  exact wr [0, 1, 4, 14] 32 [false] [pl pI x0.L, pr pI h3, pc A03 (A0d y2 x1 _ h5) []] [] 1 [0] hC [pq h1]
theorem e60 : EN 60 := en Tryz.func60
def Aaj : List Nat := [0, 1, 2, 3, 4, 6, 7, 16, 25, 33]
theorem k47 (x0 : Aa) (x1 : Al) (r : Bool) (h : F47 x0 x1 = r) : CO 47 [.agg (d29 x0), .agg (d92 x1)] [] (.d (Bo r)) [] := by
 unfold F47 at h
 refine co 42 Tryz.func47 λ C hC => ?_
 rcases cB h with ⟨h1, h⟩ | ⟨h1, h⟩
 ·subst h
  exact wr Aaj 32 [true] [pl q98 x0.Ac, pc e46 (k46 x1.Number 0 (w64 ((ln x0.Ac) - 1)) _ rfl) []] [] 0 [] hC [pq h1]
 ·rcases cB h with ⟨h2, h⟩ | ⟨h2, h⟩
  ·subst h
   exact wr Aaj 35 [false, true] [pl q49 x0.Ad, pc e46 (k46 x1.Number 0 (w64 ((ln x0.Ad) - 1)) _ rfl) []] [] 0 [] hC [pq h1, pq h2]
  ·rcases cB h with ⟨h3, h⟩ | ⟨h3, h⟩
   ·subst h
    exact wr Aaj 38 [false, false, true] [pc e46 (k46 x1.Number 0 (w64 (x0.Ao - 1)) _ rfl) []] [] 0 [] hC [pq h1, pq h2, pq h3]
   ·rcases cB h with ⟨h4, h⟩ | ⟨h4, h⟩
    ·subst h
     exact wr Aaj 41 [false, false, false, true] [pl q90 x0.Ai, pc e46 (k46 x1.Number 0 (w64 ((ln x0.Ai) - 1)) _ rfl) []] [] 0 [] hC [pq h1, pq h2, pq h3, pq h4]
    ·subst h
     exact wr Aaj 43 [false, false, false, false] [] [] 0 [] hC [pq h1, pq h2, pq h3, pq h4]
theorem e47 : EN 47 := en Tryz.func47
def C9 : List Nat := [0, 1, 2, 3, 4, 6, 7, 8, 10, 11, 12, 13, 23, 25, 26, 37, 38, 47, 48, 57, 61, 62, 63, 64, 69, 74, 75, 76, 82, 86, 87, 88, 94]
def Oo (x0 : Aa) (n0 : Nat) (z0 : Unit) : St := [(1, dO 0 0), (2, dB false), (10, .d (DS q49 x0.Ad)), (11, dI (ln x0.Ad)), (12, dI (cnt 0 n0))]
def Wf (x0 : Aa) (n0 : Nat) (z0 : Unit) : List Res := [.box 29 (d29 x0)]
def Ala  (z0 : Unit) : St := [(1, dO 0 0), (2, dB false)]
def Aok (x0 : Aa) (z0 : Unit) : List Res := [.box 29 (d29 x0)]
def vN (x0 : Aa) (n0 : Nat) (y9 : List Af) (n1 : Nat) (z1 : Unit) : St := [(1, dO 0 0), (2, dB false), (4, dO 1 0), (10, .d (DS q49 x0.Ad)), (11, dI (ln x0.Ad)), (12, dI (cnt 0 n0)), (61, .d (DS q49 y9)), (62, dI (ln y9)), (63, dI (cnt 0 n1))]
def Ai3 (x0 : Aa) (a0 : Af) (n1 : Nat) (z1 : Unit) : List Res := [.box 29 (d29 x0), .box 49 (d49 a0)]
def Ak9 (x0 : Aa) (n0 : Nat) (z1 : Unit) : St := [(1, dO 0 0), (2, dB false), (10, .d (DS q49 x0.Ad)), (11, dI (ln x0.Ad)), (12, dI (cnt 0 n0))]
def Aoj (x0 : Aa) (z1 : Unit) : List Res := [.box 29 (d29 x0)]
def vM (x0 : Aa) (z2 : Int) : St := [(1, dO 0 0), (2, dB false), (74, dI (ln x0.Ac)), (75, dI z2)]
def Ai2 (x0 : Aa) (z2 : Int) : List Res := [.box 29 (d29 x0)]
def Ak8  (z2 : Int) : St := [(1, dO 0 0), (2, dB false)]
def Aoi (x0 : Aa) (z2 : Int) : List Res := [.box 29 (d29 x0)]
def vL (x0 : Aa) (z3 : Int) : St := [(1, dO 0 0), (2, dB false), (86, dI (ln x0.Ai)), (87, dI z3)]
def Ai1 (x0 : Aa) (z3 : Int) : List Res := [.box 29 (d29 x0)]
def Ak7  (z3 : Int) : St := [(2, dB false)]
def Aoh  (z3 : Int) : List Res := []
theorem k95 (x0 : Aa) (r : Bool) (h : F95 x0 = some r) : CO 95 [.agg (d29 x0)] [] (.d (Bo r)) [] := by
 unfold F95 at h
 refine co 96 Tryz.func95 λ C hC => ?_
 refine ws C9 26 [] [pl q49 x0.Ad] [] 0 [0] (Oo x0 0 ()) (Wf x0 0 ()) hC [] ?_
 obtain ⟨w0, hm0, hret0, hnext0⟩ := Aq h
 clear h
 refine wc w0 (Ala) (Aok x0) ?_ λ z0 hs0 => ?_
 ·refine wb ?_
  refine Bb 10 rfl λ hl0 => ?_
  refine wl (Oo x0) (Wf x0) hm0 (λ z0 hn0 => ?_) λ n0 a0 z0 w0b hi0 hx0 h hb0 hr0 => ?_
  ·clear hm0
   exact wx w0 (Ala) (Aok x0) C9 26 [false] [] [] 0 [0] _ hC [pq (A4 hl0)] hn0
  ·unfold Ac5 at h
   refine wn C9 33 [true] [pt hx0 hl0, pc e46 (k46 a0.A 0 (w64 (x0.Ao - 1)) _ rfl) []] [] 0 [0, 1] [1, 2, 3, 4, 10, 11, 12, 23] hC [pq (A1 hi0 hl0)] ?_
   rcases cB h with ⟨h1, h⟩ | ⟨h1, h⟩
   ·have hq := hret0 _ (hr0 _ (sI h).symm)
    replace hq := sI hq
    subst hq
    exact wr C9 24 [true] [] [] 0 [] hC [pq h1]
   ·rcases cB h with ⟨h2, h⟩ | ⟨h2, h⟩
    ·rcases cB h with ⟨h3, h⟩ | ⟨h3, h⟩
     ·have hq := hret0 _ (hr0 _ (sI h).symm)
      replace hq := sI hq
      subst hq
      exact wr C9 34 [false, true, true] [pc e46 (k46 a0.B (w64 (a0.A + 1)) (w64 (x0.Ao - 1)) _ rfl) []] [] 0 [] hC [pq h1, pq h2, pq h3]
     ·exact wx w0b (Oo x0 (n0 + 1)) (Wf x0 (n0 + 1)) C9 36 [false, true, false] [pc e46 (k46 a0.B (w64 (a0.A + 1)) (w64 (x0.Ao - 1)) _ rfl) []] [] 0 [0] _ hC [pq h1, pq h2, pq h3] (sI h).symm
    ·rcases cB h with ⟨h4, h⟩ | ⟨h4, h⟩
     ·refine wn C9 34 [false, false, true] [pl q98 x0.Ac, pc e46 (k46 a0.B 0 (w64 ((ln x0.Ac) - 1)) _ rfl) []] [] 0 [0] [1, 2, 10, 11, 12, 47] hC [pq h1, pq h2, pq h4] ?_
      rcases cB h with ⟨h5, h⟩ | ⟨h5, h⟩
      ·have hq := hret0 _ (hr0 _ (sI h).symm)
       replace hq := sI hq
       subst hq
       exact wr C9 24 [true] [] [] 0 [] hC [pq h5]
      ·exact wx w0b (Oo x0 (n0 + 1)) (Wf x0 (n0 + 1)) C9 26 [false] [] [] 0 [0] _ hC [pq h5] (sI h).symm
     ·rcases cB h with ⟨h6, h⟩ | ⟨h6, h⟩
      ·refine wn C9 38 [false, false, false, true] [pl q90 x0.Ai, pc e46 (k46 a0.B 0 (w64 ((ln x0.Ai) - 1)) _ rfl) []] [] 0 [0, 1] [1, 2, 3, 4, 10, 11, 12, 57] hC [pq h1, pq h2, pq h4, pq h6] ?_
       rcases cB h with ⟨h7, h⟩ | ⟨h7, h⟩
       ·have hq := hret0 _ (hr0 _ (sI h).symm)
        replace hq := sI hq
        subst hq
        exact wr C9 24 [true] [] [] 0 [] hC [pq h7]
       ·obtain ⟨y9, h8, h⟩ := Au h
        refine ws C9 25 [false] [⟨.cut (x0.Ad.map q49) 3 0 (cnt 0 n0) (y9.map q49), Af3 q49 3 (λ _ => rfl) h8⟩, pl q49 y9] [] 0 [0, 1] (vN x0 n0 y9 0 ()) (Ai3 x0 a0 0 ()) hC [pq h7] ?_
        obtain ⟨w1, hm1, hret1, hnext1⟩ := Aq h
        clear h
        refine wc w1 (Ak9 x0 n0) (Aoj x0) ?_ λ z1 hs1 => ?_
        ·refine wb ?_
         refine Bb 61 rfl λ hl1 => ?_
         refine wl (vN x0 n0 y9) (Ai3 x0 a0) hm1 (λ z1 hn1 => ?_) λ n1 a1 z1 w1b hi1 hx1 h hb1 hr1 => ?_
         ·clear hm1
          exact wx w1 (Ak9 x0 n0) (Aoj x0) C9 26 [false] [] [] 0 [0] _ hC [pq (A4 hl1)] hn1
         ·unfold Wn at h
          rcases cB h with ⟨h10, h⟩ | ⟨h10, h⟩
          ·have hq := hret1 _ (hr1 _ (sI h).symm)
           replace hq := hret0 _ (hr0 _ (sI hq).symm)
           replace hq := sI hq
           subst hq
           exact wr C9 35 [true, true] [pt hx1 hl1] [] 0 [] hC [pq (A1 hi1 hl1), pq h10]
          ·exact wx w1b (vN x0 n0 y9 (n1 + 1)) (Ai3 x0 a0 (n1 + 1)) C9 36 [true, false] [pt hx1 hl1] [] 0 [0, 1] _ hC [pq (A1 hi1 hl1), pq h10] (sI h).symm
        ·have h := hnext1 _ hs1
         exact wx w0b (Oo x0 (n0 + 1)) (Wf x0 (n0 + 1)) C9 24 [] [] [] 0 [0] _ hC [] (sI h).symm
      ·have hq := hret0 _ (hr0 _ (sI h).symm)
       replace hq := sI hq
       subst hq
       exact wr C9 37 [false, false, false, false] [] [] 0 [] hC [pq h1, pq h2, pq h4, pq h6]
 ·have h := hnext0 _ hs0
  refine ws C9 24 [] [pl q98 x0.Ac] [] 0 [0] (vM x0 0) (Ai2 x0 0) hC [] ?_
  obtain ⟨w2, hm2, hret2, hnext2⟩ := Aq h
  clear h
  refine wc w2 (Ak8) (Aoi x0) ?_ λ z2 hs2 => ?_
  ·refine wb ?_
   refine ww (vM x0) (Ai2 x0) hm2 λ z2 w2b h hb2 hr2 => ?_
   unfold Ac4 at h
   rcases cB h with ⟨h11, h⟩ | ⟨h11, h⟩
   ·obtain ⟨y12, h13, h⟩ := Au h
    refine wn C9 32 [true] [pc e49 (k49 x0 2 z2 _ h13) [], pl pI y12] [] 0 [0] [1, 2, 74, 75, 82] hC [pq h11] ?_
    rcases cB h with ⟨h14, h⟩ | ⟨h14, h⟩
    ·have hq := hret2 _ (hr2 _ (sI h).symm)
     replace hq := sI hq
     subst hq
     exact wr C9 24 [true] [] [] 0 [] hC [pq h14]
    ·exact wx w2b (vM x0) (Ai2 x0) C9 25 [false] [] [] 0 [0] _ hC [pq h14] (sI h).symm
   ·exact wx w2 (Ak8) (Aoi x0) C9 26 [false] [] [] 0 [0] z2 hC [pq h11] (hb2 _ (sI h).symm)
  ·have h := hnext2 _ hs2
   refine ws C9 24 [] [pl q90 x0.Ai] [] 0 [0] (vL x0 0) (Ai1 x0 0) hC [] ?_
   obtain ⟨w3, hm3, hret3, hnext3⟩ := Aq h
   clear h
   refine wc w3 (Ak7) (Aoh) ?_ λ z3 hs3 => ?_
   ·refine wb ?_
    refine ww (vL x0) (Ai1 x0) hm3 λ z3 w3b h hb3 hr3 => ?_
    unfold Ac3 at h
    rcases cB h with ⟨h15, h⟩ | ⟨h15, h⟩
    ·obtain ⟨y16, h17, h⟩ := Au h
     refine wn C9 32 [true] [pc e49 (k49 x0 3 z3 _ h17) [], pl pI y16] [] 0 [0] [1, 2, 86, 87, 94] hC [pq h15] ?_
     rcases cB h with ⟨h18, h⟩ | ⟨h18, h⟩
     ·have hq := hret3 _ (hr3 _ (sI h).symm)
      replace hq := sI hq
      subst hq
      exact wr C9 24 [true] [] [] 0 [] hC [pq h18]
     ·exact wx w3b (vL x0) (Ai1 x0) C9 25 [false] [] [] 0 [0] _ hC [pq h18] (sI h).symm
    ·exact wx w3 (Ak7) (Aoh) C9 26 [false] [] [] 0 [] z3 hC [pq h15] (hb3 _ (sI h).symm)
   ·have h := hnext3 _ hs3
    replace h := sI h
    subst h
    exact wr C9 23 [] [] [] 0 [] hC []
theorem e95 : EN 95 := en Tryz.func95
def Xy : List Nat := [0, 1, 2, 4, 6, 7, 8, 9, 29]
def vK (x0 : Aa) (n0 : Nat) (z0 : Unit) : St := [(2, dB false), (6, .d (DS q98 x0.Ac)), (7, dI (ln x0.Ac)), (8, dI (cnt 0 n0))]
def Ai0  (n0 : Nat) (z0 : Unit) : List Res := []
def Ak6  (z0 : Unit) : St := [(2, dB false)]
def Aog  (z0 : Unit) : List Res := []
theorem k96 (x0 : Aa) (r : Bool) (h : F96 x0 = some r) : CO 96 [.agg (d29 x0)] [] (.d (Bo r)) [] := by
 unfold F96 at h
 refine co 31 Tryz.func96 λ C hC => ?_
 refine ws Xy 26 [] [pl q98 x0.Ac] [] 0 [] (vK x0 0 ()) (Ai0 0 ()) hC [] ?_
 obtain ⟨w0, hm0, hret0, hnext0⟩ := Aq h
 clear h
 refine wc w0 (Ak6) (Aog) ?_ λ z0 hs0 => ?_
 ·refine wb ?_
  refine Bb 6 rfl λ hl0 => ?_
  refine wl (vK x0) (Ai0) hm0 (λ z0 hn0 => ?_) λ n0 a0 z0 w0b hi0 hx0 h hb0 hr0 => ?_
  ·clear hm0
   exact wx w0 (Ak6) (Aog) Xy 26 [false] [] [] 0 [] _ hC [pq (A4 hl0)] hn0
  ·unfold Ac2 at h
   refine wn Xy 32 [true] [pt hx0 hl0, pc e46 (k46 a0.Rating 1 50000 _ rfl) [], ⟨.when [(!(F46 a0.Rating 1 50000), false)] (.call 46 [dI a0.Least, dI 0, dI a0.Rating] [] (dB (F46 a0.Least 0 a0.Rating)) [] []), λ hg => ⟨e46, (k46 a0.Least 0 a0.Rating _ rfl)⟩⟩, ⟨.when [(((!(F46 a0.Rating 1 50000)) || (!(F46 a0.Least 0 a0.Rating))), false)] (.call 46 [dI a0.Start, dI 0, dI 600] [] (dB (F46 a0.Start 0 600)) [] []), λ hg => ⟨e46, (k46 a0.Start 0 600 _ rfl)⟩⟩] [] 0 [] [2, 6, 7, 8, 29] hC [pq (A1 hi0 hl0)] ?_
   rcases cB h with ⟨h1, h⟩ | ⟨h1, h⟩
   ·have hq := hret0 _ (hr0 _ (sI h).symm)
    replace hq := sI hq
    subst hq
    exact wr Xy 24 [true] [] [] 0 [] hC [pq h1]
   ·exact wx w0b (vK x0 (n0 + 1)) (Ai0 (n0 + 1)) Xy 25 [false] [] [] 0 [] _ hC [pq h1] (sI h).symm
 ·have h := hnext0 _ hs0
  replace h := sI h
  subst h
  exact wr Xy 23 [] [] [] 0 [] hC []
theorem e96 : EN 96 := en Tryz.func96
def Ke : List Nat := [0, 1, 2, 3, 4, 5, 6, 8, 9, 10, 11, 44, 46, 47, 48, 49, 71]
def vJ (x0 : Aa) (n0 : Nat) (z0 : Unit) : St := [(2, dB false), (8, .d (DS q90 x0.Ai)), (9, dI (ln x0.Ai)), (10, dI (cnt 0 n0))]
def Aiz  (n0 : Nat) (z0 : Unit) : List Res := []
def Ak5  (z0 : Unit) : St := [(2, dB false)]
def Aof  (z0 : Unit) : List Res := []
def vI (x0 : Aa) (n0 : Nat) (a0 : A3) (n1 : Nat) (z1 : Unit) : St := [(2, dB false), (3, dI (cnt 0 n0)), (4, dO 0 0), (8, .d (DS q90 x0.Ai)), (9, dI (ln x0.Ai)), (10, dI (cnt 0 n0)), (46, .d (DS pI a0.Needs)), (47, dI (ln a0.Needs)), (48, dI (cnt 0 n1))]
def Aiy (a0 : A3) (n1 : Nat) (z1 : Unit) : List Res := [.box 90 (d90 a0)]
def Ak4 (x0 : Aa) (n0 : Nat) (z1 : Unit) : St := [(2, dB false), (8, .d (DS q90 x0.Ai)), (9, dI (ln x0.Ai)), (10, dI (cnt 0 n0))]
def Aoe  (z1 : Unit) : List Res := []
theorem k97 (x0 : Aa) (r : Bool) (h : F97 x0 = some r) : CO 97 [.agg (d29 x0)] [] (.d (Bo r)) [] := by
 unfold F97 at h
 refine co 74 Tryz.func97 λ C hC => ?_
 refine ws Ke 26 [] [pl q90 x0.Ai] [] 0 [] (vJ x0 0 ()) (Aiz 0 ()) hC [] ?_
 obtain ⟨w0, hm0, hret0, hnext0⟩ := Aq h
 clear h
 refine wc w0 (Ak5) (Aof) ?_ λ z0 hs0 => ?_
 ·refine wb ?_
  refine Bb 8 rfl λ hl0 => ?_
  refine wl (vJ x0) (Aiz) hm0 (λ z0 hn0 => ?_) λ n0 a0 z0 w0b hi0 hx0 h hb0 hr0 => ?_
  ·clear hm0
   exact wx w0 (Ak5) (Aof) Ke 26 [false] [] [] 0 [] _ hC [pq (A4 hl0)] hn0
  ·unfold Ac1 at h
   refine wn Ke 33 [true] [pt hx0 hl0, pc e46 (k46 a0.Load 0 50000 _ rfl) [], ⟨.when [(!(F46 a0.Load 0 50000), false)] (.call 46 [dI a0.Least, dI 0, dI a0.Load] [] (dB (F46 a0.Least 0 a0.Load)) [] []), λ hg => ⟨e46, (k46 a0.Least 0 a0.Load _ rfl)⟩⟩, ⟨.when [(((!(F46 a0.Load 0 50000)) || (!(F46 a0.Least 0 a0.Load))), false)] (.call 46 [dI a0.Bn, dI 0, dI 15] [] (dB (F46 a0.Bn 0 15)) [] []), λ hg => ⟨e46, (k46 a0.Bn 0 15 _ rfl)⟩⟩, ⟨.when [((((!(F46 a0.Load 0 50000)) || (!(F46 a0.Least 0 a0.Load))) || (!(F46 a0.Bn 0 15))), false)] (.call 46 [dI a0.Thruster, dI (-1), dI 7] [] (dB (F46 a0.Thruster (-1) 7)) [] []), λ hg => ⟨e46, (k46 a0.Thruster (-1) 7 _ rfl)⟩⟩, pL_ [(((((!(F46 a0.Load 0 50000)) || (!(F46 a0.Least 0 a0.Load))) || (!(F46 a0.Bn 0 15))) || (!(F46 a0.Thruster (-1) 7))), false)] pI a0.Needs] [] 0 [0] [2, 3, 4, 8, 9, 10, 44] hC [pq (A1 hi0 hl0)] ?_
   rcases cB h with ⟨h1, h⟩ | ⟨h1, h⟩
   ·have hq := hret0 _ (hr0 _ (sI h).symm)
    replace hq := sI hq
    subst hq
    exact wr Ke 24 [true] [] [] 0 [] hC [pq h1]
   ·refine ws Ke 25 [false] [pl pI a0.Needs] [] 0 [0] (vI x0 n0 a0 0 ()) (Aiy a0 0 ()) hC [pq h1] ?_
    obtain ⟨w1, hm1, hret1, hnext1⟩ := Aq h
    clear h
    refine wc w1 (Ak4 x0 n0) (Aoe) ?_ λ z1 hs1 => ?_
    ·refine wb ?_
     refine Bb 46 rfl λ hl1 => ?_
     refine wl (vI x0 n0 a0) (Aiy a0) hm1 (λ z1 hn1 => ?_) λ n1 a1 z1 w1b hi1 hx1 h hb1 hr1 => ?_
     ·clear hm1
      exact wx w1 (Ak4 x0 n0) (Aoe) Ke 26 [false] [] [] 0 [] _ hC [pq (A4 hl1)] hn1
     ·unfold Ac0 at h
      obtain ⟨y2, h3, h⟩ := Au h
      refine wn Ke 32 [true] [pt hx1 hl1, pc e46 (k46 a1 0 (w64 ((cnt 0 n0) - 1)) _ rfl) [], pR pI h3] [] 0 [0] [2, 3, 4, 8, 9, 10, 46, 47, 48, 71] hC [pq (A1 hi1 hl1)] ?_
      rcases cB h with ⟨h4, h⟩ | ⟨h4, h⟩
      ·have hq := hret1 _ (hr1 _ (sI h).symm)
       replace hq := hret0 _ (hr0 _ (sI hq).symm)
       replace hq := sI hq
       subst hq
       exact wr Ke 24 [true] [] [] 0 [] hC [pq h4]
      ·exact wx w1b (vI x0 n0 a0 (n1 + 1)) (Aiy a0 (n1 + 1)) Ke 25 [false] [] [] 0 [0] _ hC [pq h4] (sI h).symm
    ·have h := hnext1 _ hs1
     exact wx w0b (vJ x0 (n0 + 1)) (Aiz (n0 + 1)) Ke 23 [] [] [] 0 [] _ hC [] (sI h).symm
 ·have h := hnext0 _ hs0
  replace h := sI h
  subst h
  exact wr Ke 23 [] [] [] 0 [] hC []
theorem e97 : EN 97 := en Tryz.func97
def uC : List Nat := [0, 1, 2, 3, 4, 6, 7, 16, 18, 19, 25]
theorem Az9 (x0 : Aa) (x1 : Ab) (x2 : Int) (r : Bool) (h : Aek x0 x1 x2 = some r) : CO 118 [.agg (d29 x0), .agg (d34 x1), .d (I x2)] [] (.d (Bo r)) [] := by
 unfold Aek at h
 refine co 45 Tryz.func118 λ C hC => ?_
 obtain ⟨y1, h2, y3, h4, h⟩ := A6 h
 rcases cB h with ⟨h5, h⟩ | ⟨h5, h⟩
 ·replace h := sI h
  subst h
  exact wr uC 31 [true] [pr q49 h2, pc e15 (k15 x1 3 y1.A _ h4) []] [] 0 [] hC [pq h5]
 ·rcases cB h with ⟨h6, h⟩ | ⟨h6, h⟩
  ·obtain ⟨y7, h8, h⟩ := Au h
   replace h := sI h
   subst h
   exact wr uC 39 [false, true] [pr q49 h2, pc e15 (k15 x1 3 y1.A _ h4) [], pc e15 (k15 x1 3 y1.B _ h8) []] [] 0 [] hC [pq h5, pq h6]
  ·rcases cB h with ⟨h9, h⟩ | ⟨h9, h⟩
   ·obtain ⟨y10, h11, y12, h13, h⟩ := A6 h
    replace h := sI h
    subst h
    exact wr uC 42 [false, false, true] [pr q49 h2, pc e15 (k15 x1 3 y1.A _ h4) [], pc e15 (k15 x1 1 y1.B _ h11) [], pR q87 h13] [] 0 [] hC [pq h5, pq h6, pq h9]
   ·obtain ⟨y14, h15, h⟩ := Au h
    replace h := sI h
    subst h
    exact wr uC 44 [false, false, false] [pr q49 h2, pc e15 (k15 x1 3 y1.A _ h4) [], pc e15 (k15 x1 4 y1.B _ h15) []] [] 0 [] hC [pq h5, pq h6, pq h9]
theorem A0z : EN 118 := en Tryz.func118
theorem k59 (x0 : List Int) (x1 : Int) (r : Bool) (h : F59 x0 x1 = some r) : CO 59 [.d (DS pI x0), .d (I x1)] [] (.d (Bo r)) [] := by
 unfold F59 at h
 refine co 9 Tryz.func59 λ C hC => ?_
 obtain ⟨y1, h2, h⟩ := Au h
 replace h := sI h
 subst h
 exact wr [0, 1, 4] 25 [] [pc A04 (A0e x0 x1 _ h2) []] [] 0 [] hC []
theorem e59 : EN 59 := en Tryz.func59
def L7 : List Nat := [0, 1, 4, 5, 7, 8, 9, 16]
def Ou (x0 : List (List Int)) (n0 : Nat) (z0 : Unit) : St := [(0, .d (DS (pL pI) x0)), (1, .d (.fn (.func 140) [] [])), (4, dI 0), (7, dI (ln x0)), (8, dI (cnt 0 n0))]
def Tp  (n0 : Nat) (z0 : Unit) : List Res := []
def Zs  (z0 : Unit) : St := [(4, dI 0)]
def jT  (z0 : Unit) : List Res := []
theorem Avi (x0 : List (List Int)) (r : Int) (h : W0 x0 = some r) : CO 168 [.d (DS (pL pI) x0), .d (.fn (.func 140) [] [])] [] (.d (I r)) [] := by
 unfold W0 at h
 refine co 19 Tryz.func168 λ C hC => ?_
 refine ws L7 26 [] [pl (pL pI) x0] [] 0 [] (Ou x0 0 ()) (Tp 0 ()) hC [] ?_
 obtain ⟨w0, hm0, hret0, hnext0⟩ := Aq h
 clear h
 refine wc w0 (Zs) (jT) ?_ λ z0 hs0 => ?_
 ·refine wb ?_
  refine Bb 0 rfl λ hl0 => ?_
  refine wl (Ou x0) (Tp) hm0 (λ z0 hn0 => ?_) λ n0 a0 z0 w0b hi0 hx0 h hb0 hr0 => ?_
  ·clear hm0
   exact wx w0 (Zs) (jT) L7 26 [false] [] [] 0 [] _ hC [pq (A4 hl0)] hn0
  ·unfold qJ at h
   rcases cB h with ⟨h1, h⟩ | ⟨h1, h⟩
   ·have hq := hret0 _ (hr0 _ (sI h).symm)
    replace hq := sI hq
    subst hq
    exact wr L7 35 [true, true] [pt hx0 hl0, pc Awv (Avs a0 _ rfl) []] [] 0 [] hC [pq (A1 hi0 hl0), pq h1]
   ·exact wx w0b (Ou x0 (n0 + 1)) (Tp (n0 + 1)) L7 36 [true, false] [pt hx0 hl0, pc Awv (Avs a0 _ rfl) []] [] 0 [] _ hC [pq (A1 hi0 hl0), pq h1] (sI h).symm
 ·have h := hnext0 _ hs0
  replace h := sI h
  subst h
  exact wr L7 23 [] [] [] 0 [] hC []
theorem Awl : EN 168 := en Tryz.func168
theorem A0g (x0 : A9) (r : Bool) (h : Zd x0 = r) : CO 100 [.agg (d98 x0)] [] (.d (Bo r)) [] := by
 unfold Zd at h
 refine co 18 Tryz.func100 λ C hC => ?_
 subst h
 exact wr n3_ 25 [] [pc e93 (k93 x0.Rating 1 50000 _ rfl) [], ⟨.when [(F93 x0.Rating 1 50000, true)] (.call 93 [dI x0.Least, dI 0, dI x0.Rating] [] (dB (F93 x0.Least 0 x0.Rating)) [] []), λ hg => ⟨e93, (k93 x0.Least 0 x0.Rating _ rfl)⟩⟩, ⟨.when [(((F93 x0.Rating 1 50000) && (F93 x0.Least 0 x0.Rating)), true)] (.call 93 [dI x0.Start, dI 0, dI 600] [] (dB (F93 x0.Start 0 600)) [] []), λ hg => ⟨e93, (k93 x0.Start 0 600 _ rfl)⟩⟩] [] 0 [] hC []
theorem A06 : EN 100 := en Tryz.func100
def Q5 : List Nat := [0, 1, 2, 4, 5, 6, 8, 9, 10, 11, 33]
def Xn (x0 : A3) (x1 : Int) (n0 : Nat) (z0 : Unit) : St := [(1, dI x1), (2, dO 0 0), (4, dB false), (8, .d (DS pI x0.Needs)), (9, dI (ln x0.Needs)), (10, dI (cnt 0 n0))]
def Acu (x0 : A3) (n0 : Nat) (z0 : Unit) : List Res := [.box 90 (d90 x0)]
def Afq  (z0 : Unit) : St := [(2, dO 0 0), (4, dB false)]
def Ags (x0 : A3) (z0 : Unit) : List Res := [.box 90 (d90 x0)]
theorem A0f (x0 : A3) (x1 : Int) (r : Bool) (h : Zc x0 x1 = some r) : CO 101 [.agg (d90 x0), .d (I x1)] [] (.d (Bo r)) [] := by
 unfold Zc at h
 refine co 61 Tryz.func101 λ C hC => ?_
 refine ws Q5 26 [] [pl pI x0.Needs] [] 0 [0] (Xn x0 x1 0 ()) (Acu x0 0 ()) hC [] ?_
 obtain ⟨w0, hm0, hret0, hnext0⟩ := Aq h
 clear h
 refine wc w0 (Afq) (Ags x0) ?_ λ z0 hs0 => ?_
 ·refine wb ?_
  refine Bb 8 rfl λ hl0 => ?_
  refine wl (Xn x0 x1) (Acu x0) hm0 (λ z0 hn0 => ?_) λ n0 a0 z0 w0b hi0 hx0 h hb0 hr0 => ?_
  ·clear hm0
   exact wx w0 (Afq) (Ags x0) Q5 26 [false] [] [] 0 [0] _ hC [pq (A4 hl0)] hn0
  ·unfold Rv at h
   obtain ⟨y1, h2, h⟩ := Au h
   refine wn Q5 32 [true] [pt hx0 hl0, pc e93 (k93 a0 0 (w64 (x1 - 1)) _ rfl) [], pR pI h2] [] 0 [0] [1, 2, 4, 8, 9, 10, 33] hC [pq (A1 hi0 hl0)] ?_
   rcases cB h with ⟨h3, h⟩ | ⟨h3, h⟩
   ·have hq := hret0 _ (hr0 _ (sI h).symm)
    replace hq := sI hq
    subst hq
    exact wr Q5 24 [true] [] [] 0 [] hC [pq h3]
   ·exact wx w0b (Xn x0 x1 (n0 + 1)) (Acu x0 (n0 + 1)) Q5 25 [false] [] [] 0 [0] _ hC [pq h3] (sI h).symm
 ·have h := hnext0 _ hs0
  replace h := sI h
  subst h
  exact wr Q5 23 [] [pc e93 (k93 x0.Load 0 50000 _ rfl) [], ⟨.when [(F93 x0.Load 0 50000, true)] (.call 93 [dI x0.Least, dI 0, dI x0.Load] [] (dB (F93 x0.Least 0 x0.Load)) [] []), λ hg => ⟨e93, (k93 x0.Least 0 x0.Load _ rfl)⟩⟩, ⟨.when [(((F93 x0.Load 0 50000) && (F93 x0.Least 0 x0.Load)), true)] (.call 93 [dI x0.Bn, dI 0, dI 15] [] (dB (F93 x0.Bn 0 15)) [] []), λ hg => ⟨e93, (k93 x0.Bn 0 15 _ rfl)⟩⟩, ⟨.when [((((F93 x0.Load 0 50000) && (F93 x0.Least 0 x0.Load)) && (F93 x0.Bn 0 15)), true)] (.call 93 [dI x0.Thruster, dI (-1), dI 7] [] (dB (F93 x0.Thruster (-1) 7)) [] []), λ hg => ⟨e93, (k93 x0.Thruster (-1) 7 _ rfl)⟩⟩, pL_ [(((((F93 x0.Load 0 50000) && (F93 x0.Least 0 x0.Load)) && (F93 x0.Bn 0 15)) && (F93 x0.Thruster (-1) 7)), true)] pI x0.Needs] [] 0 [] hC []
theorem A05 : EN 101 := en Tryz.func101
def Q2 : List Nat := [0, 1, 4, 5, 6, 11, 12, 13, 16, 19]
theorem Avw (x0 : Int) (x1 : Int) (r : Int) (h : Ji x0 x1 = r) : CO 134 [.d (I x0), .d (I x1)] [] (.d (I r)) [] := by
 unfold Ji at h
 refine co 20 Tryz.func134 λ C hC => ?_
 rcases cB h with ⟨h1, h⟩ | ⟨h1, h⟩
 ·rcases cB h with ⟨h2, h⟩ | ⟨h2, h⟩
  ·subst h
   exact wr Q2 37 [true, true] [pc Jd (Jc x0 _ rfl) [], pc Jd (Jc x1 _ rfl) []] [] 0 [] hC [pq h1, pq h2]
  ·subst h
   exact wr Q2 38 [true, false] [pc Jd (Jc x0 _ rfl) [], pc Jd (Jc x1 _ rfl) []] [] 0 [] hC [pq h1, pq h2]
 ·rcases cB h with ⟨h3, h⟩ | ⟨h3, h⟩
  ·subst h
   exact wr Q2 38 [false, true] [pc Jd (Jc x0 _ rfl) [], pc Jd (Jc x1 _ rfl) []] [] 0 [] hC [pq h1, pq h3]
  ·rcases cB h with ⟨h4, h⟩ | ⟨h4, h⟩
   ·subst h
    exact wr Q2 43 [false, false, true] [pc Jd (Jc x0 _ rfl) [], pc Jd (Jc x1 _ rfl) []] [] 0 [] hC [pq h1, pq h3, pq h4]
   ·rcases cB h with ⟨h5, h⟩ | ⟨h5, h⟩
    ·subst h
     exact wr Q2 48 [false, false, false, true] [pc Jd (Jc x0 _ rfl) [], pc Jd (Jc x1 _ rfl) []] [] 0 [] hC [pq h1, pq h3, pq h4, pq h5]
    ·subst h
     exact wr Q2 49 [false, false, false, false] [pc Jd (Jc x0 _ rfl) [], pc Jd (Jc x1 _ rfl) []] [] 0 [] hC [pq h1, pq h3, pq h4, pq h5]
theorem Awz : EN 134 := en Tryz.func134
theorem k92 (x0 : Ae) (r : Bool) (h : F92 x0 = r) : CO 92 [.agg (d87 x0)] [] (.d (Bo r)) [] := by
 unfold F92 at h
 refine co 21 Tryz.func92 λ C hC => ?_
 subst h
 exact wr n3_ 25 [] [pc e93 (k93 x0.State 0 3 _ rfl) [], ⟨.when [(F93 x0.State 0 3, true)] (.call 93 [dI x0.Since, dI 0, dI 2147483648] [] (dB (F93 x0.Since 0 2147483648)) [] []), λ hg => ⟨e93, (k93 x0.Since 0 2147483648 _ rfl)⟩⟩, ⟨.when [(((F93 x0.State 0 3) && (F93 x0.Since 0 2147483648)), true)] (.call 93 [dI x0.Ar, dI 0, dI 6000] [] (dB (F93 x0.Ar 0 6000)) [] []), λ hg => ⟨e93, (k93 x0.Ar 0 6000 _ rfl)⟩⟩, ⟨.when [((((F93 x0.State 0 3) && (F93 x0.Since 0 2147483648)) && (F93 x0.Ar 0 6000)), true)] (.call 93 [dI x0.Phase, dI 0, dI 3599] [] (dB (F93 x0.Phase 0 3599)) [] []), λ hg => ⟨e93, (k93 x0.Phase 0 3599 _ rfl)⟩⟩] [] 0 [] hC []
theorem e92 : EN 92 := en Tryz.func92
def J3 : List Nat := [0, 1, 4, 5, 7, 8, 9, 16]
def O2 (x0 : List Af) (n0 : Nat) (z0 : Unit) : St := [(0, .d (DS q49 x0)), (1, .d (.fn (.func 104) [] [.o 0 0])), (4, dI 0), (7, dI (ln x0)), (8, dI (cnt 0 n0))]
def Tx (x1c0 : Int) (n0 : Nat) (z0 : Unit) : List Res := [.box 3 [I x1c0]]
def Z5  (z0 : Unit) : St := [(4, dI 0)]
def qG (x1c0 : Int) (z0 : Unit) : List Res := [.box 3 [I x1c0]]
theorem Awb (x0 : List Af) (x1c0 : Int) (r : Int × Int) (h : W_ x0 x1c0 = some r) : CO 103 [.d (DS q49 x0), .d (.fn (.func 104) [] [.o 0 0])] [.box 3 [I x1c0]] (.d (I r.1)) [.box 3 [I r.2]] := by
 unfold W_ at h
 refine co 19 Tryz.func103 λ C hC => ?_
 refine ws J3 26 [] [pl q49 x0] [] 1 [0] (O2 x0 0 ()) (Tx x1c0 0 ()) hC [] ?_
 obtain ⟨w0, hm0, hret0, hnext0⟩ := Aq h
 clear h
 refine wc w0 (Z5) (qG x1c0) ?_ λ z0 hs0 => ?_
 ·refine wb ?_
  refine Bb 0 rfl λ hl0 => ?_
  refine wl (O2 x0) (Tx x1c0) hm0 (λ z0 hn0 => ?_) λ n0 a0 z0 w0b hi0 hx0 h hb0 hr0 => ?_
  ·clear hm0
   exact wx w0 (Z5) (qG x1c0) J3 26 [false] [] [] 1 [0] _ hC [pq (A4 hl0)] hn0
  ·unfold Li at h
   refine wn J3 32 [true] [pt hx0 hl0, pb Axd (Awa a0 x1c0 _ rfl)] [] 1 [0] [0, 1, 4, 5, 7, 8, 16] hC [pq (A1 hi0 hl0)] ?_
   rcases cB h with ⟨h1, h⟩ | ⟨h1, h⟩
   ·have hq := hret0 _ (hr0 _ (sI h).symm)
    replace hq := sI hq
    subst hq
    exact wr J3 24 [true] [] [] 1 [0] hC [pq h1]
   ·exact wx w0b (O2 x0 (n0 + 1)) (Tx x1c0 (n0 + 1)) J3 25 [false] [] [] 1 [0] _ hC [pq h1] (sI h).symm
 ·have h := hnext0 _ hs0
  replace h := sI h
  subst h
  exact wr J3 23 [] [] [] 1 [0] hC []
theorem Axe : EN 103 := en Tryz.func103
theorem Az7 (x0 : List Al) (x1 : Al) (r : Bool) (h : Akh x0 x1 = some r) : CO 129 [.d (DS q92 x0), .agg (d92 x1)] [] (.d (Bo r)) [] := by
 unfold Akh at h
 refine co 9 Tryz.func129 λ C hC => ?_
 obtain ⟨y1, h2, h⟩ := Au h
 replace h := sI h
 subst h
 exact wr [0, 1, 3, 4] 25 [] [pc A0o (Azy x0 x1 _ h2) []] [] 0 [] hC []
theorem A0x : EN 129 := en Tryz.func129
theorem k35 (x0 : Ab) (r : Ab) (h : F35 x0 = some r) : CO 35 [.agg (d34 x0)] [] (.agg [.os 0, .os 1, .os 2, .os 3]) (zp r []) := by
 unfold F35 at h
 refine co 16 Tryz.func35 λ C hC => ?_
 obtain ⟨y1, h2, y3, h4, y5, h6, y7, h8, h⟩ := Cv h
 replace h := sI h
 subst h
 exact wr n3_ 25 [] [pc e78 (k78 x0.Ah _ h2) [], pc e79 (k79 x0.Ac _ h4) [], pc e80 (k80 x0.As _ h6) [], pc e81 (k81 x0.Ak _ h8) []] [] 0 [2, 3, 4, 5] hC []
theorem e35 : EN 35 := en Tryz.func35
def Ahu : List Nat := [0, 1, 2, 3, 4, 6, 7, 23]
theorem Avo (x0 : Aa) (x1 : Ab) (x2 : Int) (r : Int × Bool) (h : Y0 x0 x1 x2 = some r) : CO 156 [.agg (d29 x0), .agg (d34 x1), .d (I x2)] [] (.tup [.d (I r.1), .d (Bo r.2)]) [] := by
 unfold Y0 at h
 refine co 30 Tryz.func156 λ C hC => ?_
 obtain ⟨y1, h2, h⟩ := Au h
 refine wn Ahu 26 [] [pl q87 x1.Ac, pc e93 (k93 x2 0 (w64 ((ln x1.Ac) - 1)) _ rfl) [], pR q87 h2] [] 0 [0, 1] [2, 3, 4, 6, 7, 23] hC [] ?_
 rcases cB h with ⟨h3, h⟩ | ⟨h3, h⟩
 ·replace h := sI h
  subst h
  exact wr Ahu 24 [true] [] [] 0 [] hC [pq h3]
 ·obtain ⟨y4, h5, h⟩ := Au h
  replace h := sI h
  subst h
  exact wr Ahu 25 [false] [pc Awm (Avj x0 x1 2 x2 _ h5) []] [] 0 [] hC [pq h3]
theorem Awr : EN 156 := en Tryz.func156
theorem Avv (x0 : Aa) (x1 : Ab) (x2 : Int) (r : Int × Bool) (h : Y6 x0 x1 x2 = some r) : CO 135 [.agg (d29 x0), .agg (d34 x1), .d (I x2)] [] (.tup [.d (I r.1), .d (Bo r.2)]) [] := by
 unfold Y6 at h
 refine co 14 Tryz.func135 λ C hC => ?_
 obtain ⟨y1, h2, h⟩ := Au h
 replace h := sI h
 subst h
 exact wr [0, 1, 2, 3, 4, 6, 7] 25 [] [pc Awm (Avj x0 x1 3 x2 _ h2) []] [] 0 [] hC []
theorem Awy : EN 135 := en Tryz.func135
def Jy : List Nat := [0, 1, 4, 5, 7, 8, 9, 16]
def Ot (x0 : List Aj) (n0 : Nat) (z0 : Unit) : St := [(0, .d (DS q62 x0)), (1, .d (.fn (.func 158) [] [])), (4, dI 0), (7, dI (ln x0)), (8, dI (cnt 0 n0))]
def To  (n0 : Nat) (z0 : Unit) : List Res := []
def Zr  (z0 : Unit) : St := [(4, dI 0)]
def jS  (z0 : Unit) : List Res := []
theorem Amx (x0 : List Aj) (r : Int) (h : Qd x0 = some r) : CO 174 [.d (DS q62 x0), .d (.fn (.func 158) [] [])] [] (.d (I r)) [] := by
 unfold Qd at h
 refine co 19 Tryz.func174 λ C hC => ?_
 refine ws Jy 26 [] [pl q62 x0] [] 0 [] (Ot x0 0 ()) (To 0 ()) hC [] ?_
 obtain ⟨w0, hm0, hret0, hnext0⟩ := Aq h
 clear h
 refine wc w0 (Zr) (jS) ?_ λ z0 hs0 => ?_
 ·refine wb ?_
  refine Bb 0 rfl λ hl0 => ?_
  refine wl (Ot x0) (To) hm0 (λ z0 hn0 => ?_) λ n0 a0 z0 w0b hi0 hx0 h hb0 hr0 => ?_
  ·clear hm0
   exact wx w0 (Zr) (jS) Jy 26 [false] [] [] 0 [] _ hC [pq (A4 hl0)] hn0
  ·unfold qI at h
   refine wn Jy 32 [true] [pt hx0 hl0, pc Awp (Avm a0 _ rfl) []] [] 0 [] [0, 1, 4, 5, 7, 8, 16] hC [pq (A1 hi0 hl0)] ?_
   rcases cB h with ⟨h1, h⟩ | ⟨h1, h⟩
   ·have hq := hret0 _ (hr0 _ (sI h).symm)
    replace hq := sI hq
    subst hq
    exact wr Jy 24 [true] [] [] 0 [] hC [pq h1]
   ·exact wx w0b (Ot x0 (n0 + 1)) (To (n0 + 1)) Jy 25 [false] [] [] 0 [] _ hC [pq h1] (sI h).symm
 ·have h := hnext0 _ hs0
  replace h := sI h
  subst h
  exact wr Jy 23 [] [] [] 0 [] hC []
theorem Anj : EN 174 := en Tryz.func174
def L8 : List Nat := [0, 1, 2, 6, 7, 8, 9, 13, 30, 35, 54]
def Zm (x1 : Int) (z0 : Unit) : St := [(0, dS 0), (1, dI x1), (2, .d (.fn (.func 133) [] [.o 1 0])), (6, dI 20), (7, dI 0), (8, dI 20)]
def Acj (x0 : List Int) (x2c0 : Aa) (z0 : Unit) : List Res := [v0_ x0, .box 29 (d29 x2c0)]
def Zu (x1 : Int) (z0 : Unit) : St := [(0, dS 0), (1, dI x1), (2, .d (.fn (.func 133) [] [.o 1 0])), (6, dI 20), (7, dI 0), (8, dI 20)]
def jV (x0 : List Int) (x2c0 : Aa) (z0 : Unit) : List Res := [v0_ x0, .box 29 (d29 x2c0)]
def Zl (x1 : Int) (z1 : Unit) : St := [(0, dS 0), (1, dI x1), (2, .d (.fn (.func 133) [] [.o 1 0])), (6, dI 20), (7, dI 0), (8, dI 20)]
def Aci (x0 : List Int) (x2c0 : Aa) (z1 : Unit) : List Res := [v0_ x0, .box 29 (d29 x2c0)]
def Zt  (z1 : Unit) : St := []
def jU (x0 : List Int) (x2c0 : Aa) (z1 : Unit) : List Res := [v0_ x0, .box 29 (d29 x2c0)]
theorem Avk (x0 : List Int) (x1 : Int) (x2c0 : Aa) (r : Aa) (h : Ad2 x0 x1 x2c0 = some r) : CO 165 [.d (.os 0), .d (I x1), .d (.fn (.func 133) [] [.o 1 0])] [v0_ x0, .box 29 (d29 x2c0)] (.tup []) [v0_ x0, .box 29 (d29 r)] := by
 unfold Ad2 at h
 refine co 63 Tryz.func165 λ C hC => ?_
 refine ws L8 26 [] [] [] 2 [0, 1] (Zm x1 ()) (Acj x0 x2c0 ()) hC [] ?_
 obtain ⟨w0, hm0, hret0, hnext0⟩ := Aq h
 clear h
 refine wc w0 (Zu x1) (jV x0 x2c0) ?_ λ z0 hs0 => ?_
 ·refine wb ?_
  refine ww (Zm x1) (Acj x0 x2c0) hm0 λ z0 w0b h hb0 hr0 => ?_
  unfold qL at h
  rcases cB h with ⟨h1, h⟩ | ⟨h1, h⟩
  ·cases h
  ·exact wx w0 (Zu x1) (jV x0 x2c0) L8 26 [false] [] [] 2 [0, 1] () hC [pq h1] (hb0 _ (sI h).symm)
 ·have h := hnext0 _ hs0
  obtain ⟨y2, h3, h⟩ := Au h
  refine ws L8 23 [] [pb Awk (Avh x0 0 x1 x2c0 _ h3)] [] 2 [0, 1] (Zl x1 ()) (Aci x0 x2c0 ()) hC [] ?_
  obtain ⟨w1, hm1, hret1, hnext1⟩ := Aq h
  clear h
  refine wc w1 (Zt) (jU x0 x2c0) ?_ λ z1 hs1 => ?_
  ·refine wb ?_
   refine ww (Zl x1) (Aci x0 x2c0) hm1 λ z1 w1b h hb1 hr1 => ?_
   unfold qK at h
   rcases cB h with ⟨h4, h⟩ | ⟨h4, h⟩
   ·cases h
   ·exact wx w1 (Zt) (jU x0 x2c0) L8 26 [false] [] [] 2 [0, 1] () hC [pq h4] (hb1 _ (sI h).symm)
  ·have h := hnext1 _ hs1
   replace h := sI h
   subst h
   exact wf L8 20 [] [] [] 2 [0, 1] hC []
theorem Awn : EN 165 := en Tryz.func165
theorem k32 (x0 : Ab) (x1 : Ab) (r : Bool) (h : F32 x0 x1 = some r) : CO 32 [.agg (d34 x0), .agg (d34 x1)] [] (.d (Bo r)) [] := by
 unfold F32 at h
 refine co 31 Tryz.func32 λ C hC => ?_
 obtain ⟨y1, h2, y3, h4, y5, h6, y7, h8, h⟩ := Cv h
 replace h := sI h
 subst h
 exact wr n5_ 25 [] [pc e72 (k72 x0.Ah x1.Ah _ h2) [], pw e73 (λ hg => k73 x0.Ac x1.Ac _ (A0 h4 hg)) [], pw e74 (λ hg => k74 x0.As x1.As _ (A0 h6 hg)) [], pw e75 (λ hg => k75 x0.Ak x1.Ak _ (A0 h8 hg)) []] [] 0 [] hC []
theorem e32 : EN 32 := en Tryz.func32
theorem k34 (x0 : List Bool) (x1 : Bool) (r : Bool) (h : F34 x0 x1 = some r) : CO 34 [.d (DS pB x0), .d (Bo x1)] [] (.d (Bo r)) [] := by
 unfold F34 at h
 refine co 9 Tryz.func34 λ C hC => ?_
 obtain ⟨y1, h2, h⟩ := Au h
 replace h := sI h
 subst h
 exact wr [0, 1, 4] 25 [] [pc e77 (k77 x0 x1 _ h2) []] [] 0 [] hC []
theorem e34 : EN 34 := en Tryz.func34
theorem Az6 (x0 : Int) (x1 : Int) (r : Int × Int) (h : Ql x0 x1 = r) : CO 130 [.d (.p (.v (.int .u64 x0))), .d (.p (.v (.int .u64 x1)))] [] (.tup [.d (.p (.v (.int .u64 r.1))), .d (.p (.v (.int .u64 r.2)))]) [] := by
 unfold Ql at h
 refine co 30 Tryz.func130 λ C hC => ?_
 subst h
 exact wr [0, 1, 4, 5, 6, 7, 8, 9] 30 [false] [pc A0n (Azx x0 x1 _ rfl) []] [] 0 [] hC [⟨(false, false), rfl⟩]
theorem A0w : EN 130 := en Tryz.func130
def H7 : List Nat := [0, 1, 2, 3, 4, 6, 7, 14, 21, 27, 39]
def yU (x1 : An) (z0 : Bool) : St := [(2, dO 0 0), (3, dO 1 0), (4, dB false), (6, dI x1.Kind), (7, dB z0)]
def Abz (x0 : Aa) (x1 : An) (z0 : Bool) : List Res := [.box 29 (d29 x0), .box 47 (d47 x1)]
def yT (x1 : An) (z1 : Bool) : St := [(2, dO 0 0), (3, dO 1 0), (4, dB false), (6, dI x1.Kind), (14, dB z1)]
def Aby (x0 : Aa) (x1 : An) (z1 : Bool) : List Res := [.box 29 (d29 x0), .box 47 (d47 x1)]
theorem k62 (x0 : Aa) (x1 : An) (r : Bool) (h : F62 x0 x1 = some r) : CO 62 [.agg (d29 x0), .agg (d47 x1)] [] (.d (Bo r)) [] := by
 unfold F62 at h
 refine co 48 Tryz.func62 λ C hC => ?_
 refine wn H7 30 [] [] [] 0 [0, 1] [2, 3, 4, 6, 7] hC [] ?_
 obtain ⟨w0, h, hret0, hnext0⟩ := Aq h
 refine wc w0 (yU x1) (Abz x0 x1) ?_ λ z0 hs0 => ?_
 ·unfold Adf at h
  rcases cB h with ⟨h1, h⟩ | ⟨h1, h⟩
  ·exact wx w0 (yU x1) (Abz x0 x1) H7 23 [true] [] [] 0 [0, 1] _ hC [pq h1] (sI h).symm
  ·exact wx w0 (yU x1) (Abz x0 x1) H7 23 [false] [] [] 0 [0, 1] _ hC [pq h1] (sI h).symm
 ·clear h; have h := hnext0 _ hs0
  rcases cB h with ⟨h2, h⟩ | ⟨h2, h⟩
  ·replace h := sI h
   subst h
   exact wr H7 24 [true] [pc Tc (S8 x0 2 x1.Unit _ rfl) []] [] 0 [] hC [pq h2]
  ·refine wn H7 25 [false] [] [] 0 [0, 1] [2, 3, 4, 6, 14] hC [pq h2] ?_
   obtain ⟨w1, h, hret1, hnext1⟩ := Aq h
   refine wc w1 (yT x1) (Aby x0 x1) ?_ λ z1 hs1 => ?_
   ·unfold Ade at h
    rcases cB h with ⟨h3, h⟩ | ⟨h3, h⟩
    ·exact wx w1 (yT x1) (Aby x0 x1) H7 23 [true] [] [] 0 [0, 1] _ hC [pq h3] (sI h).symm
    ·exact wx w1 (yT x1) (Aby x0 x1) H7 23 [false] [] [] 0 [0, 1] _ hC [pq h3] (sI h).symm
   ·clear h; have h := hnext1 _ hs1
    rcases cB h with ⟨h4, h⟩ | ⟨h4, h⟩
    ·replace h := sI h
     subst h
     exact wr H7 24 [true] [pc Tc (S8 x0 1 x1.Unit _ rfl) []] [] 0 [] hC [pq h4]
    ·rcases cB h with ⟨h5, h⟩ | ⟨h5, h⟩
     ·replace h := sI h
      subst h
      exact wr H7 27 [false, true] [pc Tc (S8 x0 4 x1.Unit _ rfl) []] [] 0 [] hC [pq h4, pq h5]
     ·rcases cB h with ⟨h6, h⟩ | ⟨h6, h⟩
      ·replace h := sI h
       subst h
       exact wr H7 30 [false, false, true] [pc Tc (S8 x0 1 x1.Unit _ rfl) [], ⟨.when [(Ih x0 1 x1.Unit, true)] (.call 108 [.agg (d29 x0), dI 3, dI x1.Value] [] (dB (Ih x0 3 x1.Value)) [] []), λ hg => ⟨Tc, (S8 x0 3 x1.Value _ rfl)⟩⟩] [] 0 [] hC [pq h4, pq h5, pq h6]
      ·rcases cB h with ⟨h7, h⟩ | ⟨h7, h⟩
       ·replace h := sI h
        subst h
        exact wr H7 36 [false, false, false, true, true] [pc Tc (S8 x0 x1.Value x1.Unit _ rfl) []] [] 0 [] hC [pq h4, pq h5, pq h6, pq h7, pq h7]
       ·rcases cB h with ⟨h8, h⟩ | ⟨h8, h⟩
        ·replace h := sI h
         subst h
         exact wr H7 36 [false, false, false, false, true] [pc Tc (S8 x0 x1.Value x1.Unit _ rfl) []] [] 0 [] hC [pq h4, pq h5, pq h6, pq h7, pq h8]
        ·replace h := sI h
         subst h
         exact wr H7 38 [false, false, false, false, false] [] [] 0 [] hC [pq h4, pq h5, pq h6, pq h7, pq h8]
theorem e62 : EN 62 := en Tryz.func62
theorem Azu (x0 : Int) (x1 : Int) (r : Int) (h : Akc x0 x1 = r) : CO 180 [.d (I x0), .d (I x1)] [] (.d (I r)) [] := by
 unfold Akc at h
 refine co 17 Tryz.func180 λ C hC => ?_
 refine wn [0, 1, 4, 5, 13] 28 [] [pc Aie (Ah2 x1 _ rfl) [], pc Aie (Ah2 x0 _ rfl) [], pc Aie (Ah2 (w64 ((Ft x1) - (Ft x0))) _ rfl) []] [] 0 [] [4, 5, 13] hC [] ?_
 rcases cB h with ⟨h1, h⟩ | ⟨h1, h⟩
 ·subst h
  exact wr [0, 1, 4, 5, 13] 25 [true] [] [] 0 [] hC [pq h1]
 ·subst h
  exact wr [0, 1, 4, 5, 13] 25 [false] [] [] 0 [] hC [pq h1]
theorem A0k : EN 180 := en Tryz.func180
def J0 : List Nat := [0, 1, 2, 4, 6, 7, 8, 9, 10, 11, 17, 31]
def Kw (x0 : List Al) (z0 : Int × Int) : St := [(0, .d (DS q92 x0)), (2, .d (.fn (.func 149) [] [])), (4, dO 0 0), (6, dI 0), (7, dB false), (8, dI (ln x0)), (9, dI z0.1), (10, dI z0.2)]
def Nz (x1 : Al) (z0 : Int × Int) : List Res := [.box 92 (d92 x1)]
def Zx (x0 : List Al) (z0 : Int × Int) : St := [(0, .d (DS q92 x0)), (2, .d (.fn (.func 149) [] [])), (4, dO 0 0), (6, dI 0), (7, dB false), (8, dI (ln x0)), (9, dI z0.1)]
def jY (x1 : Al) (z0 : Int × Int) : List Res := [.box 92 (d92 x1)]
theorem Amz (x0 : List Al) (x1 : Al) (r : Int × Bool) (h : Qi x0 x1 = some r) : CO 148 [.d (DS q92 x0), .agg (d92 x1), .d (.fn (.func 149) [] [])] [] (.tup [.d (I r.1), .d (Bo r.2)]) [] := by
 unfold Qi at h
 refine co 49 Tryz.func148 λ C hC => ?_
 refine ws J0 28 [] [pl q92 x0] [] 0 [0] (Kw x0 (0, (ln x0))) (Nz x1 (0, (ln x0))) hC [] ?_
 obtain ⟨w0, hm0, hret0, hnext0⟩ := Aq h
 clear h
 refine wc w0 (Zx x0) (jY x1) ?_ λ z0 hs0 => ?_
 ·refine wb ?_
  refine ww (Kw x0) (Nz x1) hm0 λ z0 w0b h hb0 hr0 => ?_
  unfold Qh at h
  rcases cB h with ⟨h1, h⟩ | ⟨h1, h⟩
  ·obtain ⟨y2, h3, h⟩ := Au h
   refine wn J0 31 [true] [pr q92 h3, pc Awu (Avr y2 x1 _ rfl) []] [] 0 [0] [0, 2, 4, 6, 7, 8, 9, 10, 11, 31] hC [pq h1] ?_
   rcases cB h with ⟨h4, h⟩ | ⟨h4, h⟩
   ·exact wx w0b (Kw x0) (Nz x1) J0 24 [true] [] [] 0 [0] _ hC [pq h4] (sI h).symm
   ·exact wx w0b (Kw x0) (Nz x1) J0 24 [false] [] [] 0 [0] _ hC [pq h4] (sI h).symm
  ·exact wx w0 (Zx x0) (jY x1) J0 26 [false] [] [] 0 [0] (z0.1, z0.2) hC [pq h1] (hb0 _ (sI h).symm)
 ·have h := hnext0 _ hs0
  obtain ⟨y5, h6, h⟩ := Au h
  replace h := sI h
  subst h
  exact wr J0 23 [] [pR q92 h6, ⟨.when [(decide (z0.1 < (ln x0)), true)] (.call 149 [.agg (d92 y5), .agg (d92 x1)] [] (dI (N9 y5 x1)) [] []), λ hg => ⟨Awu, (Avr y5 x1 _ rfl)⟩⟩] [] 0 [] hC []
theorem Anl : EN 148 := en Tryz.func148
theorem k64 (x0 : Ag) (x1 : Int) (x2 : Int) (r : Int × Ag) (h : F64 x0 x1 x2 = some r) : CO 64 [.d (.o 0 0), .d (I x1), .d (I x2)] [.box 70 (d70 x0)] (.d (I r.1)) [.box 70 (d70 r.2)] := by
 unfold F64 at h
 refine co 15 Tryz.func64 λ C hC => ?_
 obtain ⟨y1, h2, h⟩ := Au h
 replace h := sI h
 subst h
 exact wr [0, 1, 2, 6] 25 [] [pc e60 (k60 x0 (w64 ((w64 (x2 - x1)) + 1)) _ h2) [0]] [] 1 [0] hC []
theorem e64 : EN 64 := en Tryz.func64
theorem k65 (x0 : Ag) (x1 : List Int) (r : Int × Ag) (h : F65 x0 x1 = some r) : CO 65 [.d (.o 0 0), .d (DS pI x1)] [.box 70 (d70 x0)] (.d (I r.1)) [.box 70 (d70 r.2)] := by
 unfold F65 at h
 refine co 12 Tryz.func65 λ C hC => ?_
 obtain ⟨y1, h2, y3, h4, h⟩ := A6 h
 replace h := sI h
 subst h
 exact wr [0, 1, 4] 25 [] [pl pI x1, pc e60 (k60 x0 (ln x1) _ h2) [0], pr pI h4] [] 1 [0] hC []
theorem e65 : EN 65 := en Tryz.func65
theorem k45 (x0 : Aa) (r : Int) (h : F45 x0 = some r) : CO 45 [.agg (d29 x0)] [] (.d (I r)) [] := by
 unfold F45 at h
 refine co 62 Tryz.func45 λ C hC => ?_
 refine wn [0, 1, 2, 28, 61] 26 [] [pL_ [(((decide (x0.Ao < 1)) || (decide (x0.Ao > 6))), false)] q49 x0.Ad, pL_ [((((decide (x0.Ao < 1)) || (decide (x0.Ao > 6))) || (decide ((ln x0.Ad) > 24))), false)] q98 x0.Ac, pL_ [(((((decide (x0.Ao < 1)) || (decide (x0.Ao > 6))) || (decide ((ln x0.Ad) > 24))) || (decide ((ln x0.Ac) > 8))), false)] q90 x0.Ai] [] 0 [0] [1, 2, 28] hC [] ?_
 rcases cB h with ⟨h1, h⟩ | ⟨h1, h⟩
 ·replace h := sI h
  subst h
  exact wr [0, 1, 2, 28, 61] 24 [true] [] [] 0 [] hC [pq h1]
 ·obtain ⟨y2, h3, y4, h5, y6, h7, h⟩ := Bi h
  refine wn [0, 1, 2, 28, 61] 26 [false] [pc e95 (k95 x0 _ h3) [], pw e96 (λ hg => k96 x0 _ (A0 h5 hg)) [], pw e97 (λ hg => k97 x0 _ (A0 h7 hg)) []] [] 0 [] [2, 61] hC [pq h1] ?_
  rcases cB h with ⟨h8, h⟩ | ⟨h8, h⟩
  ·replace h := sI h
   subst h
   exact wr [0, 1, 2, 28, 61] 24 [true] [] [] 0 [] hC [pq h8]
  ·replace h := sI h
   subst h
   exact wr [0, 1, 2, 28, 61] 25 [false] [] [] 0 [] hC [pq h8]
theorem e45 : EN 45 := en Tryz.func45
theorem Avt (x0 : List (List Int)) (r : Bool) (h : Qk x0 = some r) : CO 139 [.d (DS (pL pI) x0), .d (.fn (.func 140) [] [])] [] (.d (Bo r)) [] := by
 unfold Qk at h
 refine co 9 Tryz.func139 λ C hC => ?_
 obtain ⟨y1, h2, h⟩ := Au h
 replace h := sI h
 subst h
 exact wr [0, 1, 4] 25 [] [pc Awl (Avi x0 _ h2) []] [] 0 [] hC []
theorem Aww : EN 139 := en Tryz.func139
def Xz : List Nat := [0, 1, 2, 4, 5, 6, 7, 8, 9, 10, 49]
def vO (x1 : List Al) (n0 : Nat) (z0 : Unit) : St := [(1, .d (DS q92 x1)), (2, dO 0 0), (4, dB false), (7, .d (DS q92 x1)), (8, dI (ln x1)), (9, dI (cnt 0 n0))]
def Ai4 (x0 : Aa) (n0 : Nat) (z0 : Unit) : List Res := [.box 29 (d29 x0)]
def Alc (x1 : List Al) (z0 : Unit) : St := [(1, .d (DS q92 x1)), (4, dB false)]
def Aom  (z0 : Unit) : List Res := []
theorem k89 (x0 : Aa) (x1 : List Al) (r : Bool) (h : F89 x0 x1 = some r) : CO 89 [.agg (d29 x0), .d (DS q92 x1)] [] (.d (Bo r)) [] := by
 unfold F89 at h
 refine co 54 Tryz.func89 λ C hC => ?_
 refine ws Xz 26 [] [pl q92 x1] [] 0 [0] (vO x1 0 ()) (Ai4 x0 0 ()) hC [] ?_
 obtain ⟨w0, hm0, hret0, hnext0⟩ := Aq h
 clear h
 refine wc w0 (Alc x1) (Aom) ?_ λ z0 hs0 => ?_
 ·refine wb ?_
  refine Bb 7 rfl λ hl0 => ?_
  refine wl (vO x1) (Ai4 x0) hm0 (λ z0 hn0 => ?_) λ n0 a0 z0 w0b hi0 hx0 h hb0 hr0 => ?_
  ·clear hm0
   exact wx w0 (Alc x1) (Aom) Xz 26 [false] [] [] 0 [] _ hC [pq (A4 hl0)] hn0
  ·unfold Wo at h
   obtain ⟨y1, h2, y3, h4, y5, h6, h⟩ := Bi h
   refine wn Xz 32 [true] [pt hx0 hl0, pc A0v (Az5 x0 a0.Kind _ rfl) [], pc e93 (k93 a0.Number 0 (w64 ((Jh x0 a0.Kind) - 1)) _ rfl) [], pR q92 h2, ⟨.when [(!(F93 a0.Number 0 (w64 ((Jh x0 a0.Kind) - 1))), false), (decide ((cnt 0 n0) > 0), true)] (.call 134 [dI y1.Kind, dI a0.Kind] [] (dI (Ji y1.Kind a0.Kind)) [] []), λ hg => ⟨Awz, (Avw y1.Kind a0.Kind _ rfl)⟩⟩, pR q92 h4, ⟨.when [(!(F93 a0.Number 0 (w64 ((Jh x0 a0.Kind) - 1))), false), (decide ((cnt 0 n0) > 0), true)] (.call 134 [dI y3.Number, dI a0.Number] [] (dI (Ji y3.Number a0.Number)) [] []), λ hg => ⟨Awz, (Avw y3.Number a0.Number _ rfl)⟩⟩, pw A0u (λ hg => Az4 [Ji y1.Kind a0.Kind, Ji y3.Number a0.Number] _ (A0 h6 hg)) []] [] 0 [0] [1, 2, 4, 7, 8, 9, 49] hC [pq (A1 hi0 hl0)] ?_
   rcases cB h with ⟨h7, h⟩ | ⟨h7, h⟩
   ·have hq := hret0 _ (hr0 _ (sI h).symm)
    replace hq := sI hq
    subst hq
    exact wr Xz 24 [true] [] [] 0 [] hC [pq h7]
   ·exact wx w0b (vO x1 (n0 + 1)) (Ai4 x0 (n0 + 1)) Xz 25 [false] [] [] 0 [0] _ hC [pq h7] (sI h).symm
 ·have h := hnext0 _ hs0
  replace h := sI h
  subst h
  exact wr Xz 23 [] [pl q92 x1] [] 0 [] hC []
theorem e89 : EN 89 := en Tryz.func89
theorem k91 (x0 : Ae) (r : Bool) (h : F91 x0 = r) : CO 91 [.agg (d87 x0)] [] (.d (Bo r)) [] := by
 unfold F91 at h
 refine co 6 Tryz.func91 λ C hC => ?_
 subst h
 exact wr n3_ 25 [] [pc e92 (k92 x0 _ rfl) []] [] 0 [] hC []
theorem e91 : EN 91 := en Tryz.func91
theorem k56 (x0 : Aa) (x1 : Int) (r : Int) (h : F56 x0 x1 = some r) : CO 56 [.agg (d29 x0), .d (I x1)] [] (.d (I r)) [] := by
 unfold F56 at h
 refine co 9 Tryz.func56 λ C hC => ?_
 obtain ⟨y1, h2, h⟩ := Au h
 replace h := sI h
 subst h
 exact wr n5_ 25 [] [pc Axe (Awb x0.Ad x1 _ h2) [1]] [] 0 [] hC []
theorem e56 : EN 56 := en Tryz.func56
theorem k76 (x0 : Ab) (x1 : Int) (x2 : Int) (r : Bool) (h : F76 x0 x1 x2 = some r) : CO 76 [.agg (d34 x0), .d (I x1), .d (I x2)] [] (.d (Bo r)) [] := by
 unfold F76 at h
 refine co 13 Tryz.func76 λ C hC => ?_
 obtain ⟨y1, h2, h⟩ := Au h
 replace h := sI h
 subst h
 exact wr [0, 1, 2, 3, 6] 25 [] [pc A0x (Az7 x0.Ak (⟨x1, x2⟩ : Al) _ h2) []] [] 0 [] hC []
theorem e76 : EN 76 := en Tryz.func76
def H9 : List Nat := [0, 1, 4, 5, 6, 7, 12, 19, 29]
def Kv  (z0 : Int × Int × (List Aj)) : St := [(0, dS 0), (1, .d (.fn (.func 158) [] [])), (4, .d (DS q62 [])), (5, dI z0.1), (6, dI z0.2.1)]
def Ny  (z0 : Int × Int × (List Aj)) : List Res := [v5_ z0.2.2]
def Zw  (z0 : Int × Int × (List Aj)) : St := [(0, dS 0), (4, .d (DS q62 [])), (5, dI z0.1)]
def jX  (z0 : Int × Int × (List Aj)) : List Res := [v5_ z0.2.2]
theorem Avn (x0 : List Aj) (r : (List Aj)) (h : Qf x0 = some r) : CO 157 [.d (.os 0), .d (.fn (.func 158) [] [])] [.sl 62 3 (x0.map q62)] (.d (.os 1)) [.non, .sl 62 3 (r.map q62)] := by
 unfold Qf at h
 refine co 42 Tryz.func157 λ C hC => ?_
 obtain ⟨y1, h2, h⟩ := Au h
 rcases cB h with ⟨h3, h⟩ | ⟨h3, h⟩
 ·replace h := sI h
  subst h
  exact wr H9 31 [true] [pb Anj (Amx x0 _ h2)] [.mv 0] 1 [0, 1] hC [pq h3]
 ·refine ws H9 33 [false] [pb Anj (Amx x0 _ h2)] [] 1 [0] (Kv (y1, w64 (y1 + 1), x0)) (Ny (y1, w64 (y1 + 1), x0)) hC [pq h3] ?_
  obtain ⟨w0, hm0, hret0, hnext0⟩ := Aq h
  clear h
  refine wc w0 (Zw) (jX) ?_ λ z0 hs0 => ?_
  ·refine wb ?_
   refine ww (Kv) (Ny) hm0 λ z0 w0b h hb0 hr0 => ?_
   unfold Qe at h
   rcases cB h with ⟨h4, h⟩ | ⟨h4, h⟩
   ·obtain ⟨y5, h6, h⟩ := Au h
    refine wn H9 32 [true] [pl q62 z0.2.2, pr q62 h6, pn q62 h6, pc Awp (Avm y5 _ rfl) []] [] 1 [0, 1] [0, 1, 4, 5, 6, 7, 29] hC [pq h4] ?_
    rcases cB h with ⟨h7, h⟩ | ⟨h7, h⟩
    ·obtain ⟨y8, h9, y10, h11, h⟩ := A6 h
     exact wx w0b (Kv) (Ny) H9 27 [true] [pr q62 h9, pu q62 h9 h11] [] 1 [0] _ hC [pq h7] (sI h).symm
    ·exact wx w0b (Kv) (Ny) H9 25 [false] [] [] 1 [0] _ hC [pq h7] (sI h).symm
   ·exact wx w0 (Zw) (jX) H9 26 [false] [pl q62 z0.2.2] [] 1 [0] (z0.1, z0.2.1, z0.2.2) hC [pq h4] (hb0 _ (sI h).symm)
  ·have h := hnext0 _ hs0
   obtain ⟨u13, h12, u15, h14, h⟩ := A6 h
   replace h := sI h
   subst h
   (rw [List.map_take]; exact Abw (bs := []) Hh H9 25 [] [.bnd (z0.2.2.map q62).length z0.1 (((z0.2.2.map q62).length : Nat) : Int) (ln z0.2.2), .eqr ((z0.2.2.map q62).take (Int.toNat z0.1) ++ (List.replicate ((Int.toNat (ln z0.2.2)) - (Int.toNat z0.1)) (q62 (⟨([] : List Int), ([] : List Int), ([] : List Int)⟩ : Aj)) ++ (z0.2.2.map q62).drop ((Int.toNat z0.1) + ((Int.toNat (ln z0.2.2)) - (Int.toNat z0.1))))) ((Jf z0.2.2 (Int.toNat z0.1) ((Int.toNat (ln z0.2.2)) - (Int.toNat z0.1)) (⟨([] : List Int), ([] : List Int), ([] : List Int)⟩ : Aj)).map q62), .bnd ((Jf z0.2.2 (Int.toNat z0.1) ((Int.toNat (ln z0.2.2)) - (Int.toNat z0.1)) (⟨([] : List Int), ([] : List Int), ([] : List Int)⟩ : Aj)).map q62).length 0 z0.1 z0.1] [.trunc 4] [.tmp 4] 1 [0, 1] rfl hC ⟨Fr (by simp) (by simp) h12, Af5 q62 rfl, Fr (by simp) rfl h14, trivial⟩ trivial (by kernel_rfl))
theorem Awq : EN 157 := en Tryz.func157
theorem Avx (x0 : List Int) (x1c0 : Aa) (r : Aa) (h : Ad6 x0 x1c0 = some r) : CO 132 [.d (.os 0), .d (.fn (.func 133) [] [.o 1 0])] [v0_ x0, .box 29 (d29 x1c0)] (.tup []) [v0_ x0, .box 29 (d29 r)] := by
 unfold Ad6 at h
 refine co 9 Tryz.func132 λ C hC => ?_
 obtain ⟨y1, h2, h⟩ := Au h
 replace h := sI h
 subst h
 exact wf [0, 1] 21 [] [pl pI x0, pc Awn (Avk x0 (ln x0) x1c0 _ h2) [0, 1]] [] 2 [0, 1] hC []
theorem Aw0 : EN 132 := en Tryz.func132
theorem Avy (x0 : Int) (x1 : Aj) (r : Bool) (h : Ad9 x0 x1 = some r) : CO 126 [.d (I x0), .d (.ip [.s (x1.Ao.map pI), .s (x1.Ac.map pI), .s (x1.Ai.map pI)])] [] (.d (Bo r)) [] := by
 unfold Ad9 at h
 refine co 9 Tryz.func126 λ C hC => ?_
 obtain ⟨y1, h2, h⟩ := Au h
 replace h := sI h
 subst h
 exact wr [0, 1, 3] 25 [] [pc e59 (k59 x1.Ai x0 _ h2) []] [] 0 [] hC []
theorem Aw1 : EN 126 := en Tryz.func126
def Ph : List Nat := [0, 1, 4, 5, 6, 7, 8, 10, 26, 37]
def Ali (x0 : List An) (x1 : Int) (z0 : Unit) : St := [(0, .d (DS q47 x0)), (1, dI x1), (4, .d (DS q47 []))]
def Aos  (z0 : Unit) : List Res := []
def Alh (x0 : List An) (x1 : Int) (z1 : Unit) : St := [(0, .d (DS q47 x0)), (4, .d (DS q47 [])), (6, .d (.p (.v (.int .u64 ((Ql (IntKind.wrap .u64 (ln x0)) (IntKind.wrap .u64 x1)).2)))))]
def Aor  (z1 : Unit) : List Res := []
def vQ  (z2 : Int × (List An)) : St := [(4, .d (DS q47 [])), (7, dS 0), (8, dI z2.1)]
def Ai6  (z2 : Int × (List An)) : List Res := [v2_ z2.2]
def Alg  (z2 : Int × (List An)) : St := [(4, .d (DS q47 [])), (7, dS 0)]
def Aoq  (z2 : Int × (List An)) : List Res := [v2_ z2.2]
theorem k83 (x0 : List An) (x1 : Int) (r : (List An)) (h : F83 x0 x1 = some r) : CO 83 [.d (DS q47 x0), .d (I x1)] [] (.d (.os 0)) [v2_ r] := by
 unfold F83 at h
 refine co 48 Tryz.func83 λ C hC => ?_
 refine wn Ph 26 [] [] [] 0 [] [0, 1, 4, 10] hC [] ?_
 obtain ⟨w0, h, hret0, hnext0⟩ := Aq h
 refine wc w0 (Ali x0 x1) (Aos) ?_ λ z0 hs0 => ?_
 ·unfold Ap5 at h
  rcases cB h with ⟨h1, h⟩ | ⟨h1, h⟩
  ·cases h
  ·exact wx w0 (Ali x0 x1) (Aos) Ph 23 [false] [] [] 0 [] _ hC [pq h1] (sI h).symm
 ·clear h; have h := hnext0 _ hs0
  refine wn Ph 26 [] [pl q47 x0, pc A0w (Az6 (IntKind.wrap .u64 (ln x0)) (IntKind.wrap .u64 x1) _ rfl) []] [] 0 [] [0, 4, 6, 26] hC [] ?_
  obtain ⟨w1, h, hret1, hnext1⟩ := Aq h
  refine wc w1 (Alh x0 x1) (Aor) ?_ λ z1 hs1 => ?_
  ·unfold Ap4 at h
   rcases cB h with ⟨h2, h⟩ | ⟨h2, h⟩
   ·cases h
   ·exact wx w1 (Alh x0 x1) (Aor) Ph 23 [false] [] [] 0 [] _ hC [pq h2] (sI h).symm
  ·clear h; have h := hnext1 _ hs1
   obtain ⟨y3, h4, h⟩ := Au h
   refine ws Ph 26 [] [⟨.room ((w64 ((Ql (IntKind.wrap .u64 (ln x0)) (IntKind.wrap .u64 x1)).2)) * (24 + 1)) (List.replicate (Int.toNat (w64 ((Ql (IntKind.wrap .u64 (ln x0)) (IntKind.wrap .u64 x1)).2))) (q47 (⟨0, 0, 0⟩ : An))) (y3.map q47), H3 h4⟩, ⟨.cpy (x0.map q47) 3 ((y3.map q47).length) (Nat.min x0.length y3.length) ((y3.map q47).take 0 ++ ((x0.map q47).take (Nat.min x0.length y3.length) ++ (y3.map q47).drop (0 + (Nat.min x0.length y3.length)))) ((P3 y3 0 y3.length x0).map q47), Af4 q47 3 (λ _ => rfl) rfl (by simp)⟩] [] 0 [0] (vQ (((Nat.min x0.length y3.length) : Int), (P3 y3 0 y3.length x0))) (Ai6 (((Nat.min x0.length y3.length) : Int), (P3 y3 0 y3.length x0))) hC [] ?_
   obtain ⟨w2, hm2, hret2, hnext2⟩ := Aq h
   clear h
   refine wc w2 (Alg) (Aoq) ?_ λ z2 hs2 => ?_
   ·refine wb ?_
    refine ww (vQ) (Ai6) hm2 λ z2 w2b h hb2 hr2 => ?_
    unfold Ap6 at h
    rcases cB h with ⟨h5, h⟩ | ⟨h5, h⟩
    ·obtain ⟨u7, h6, u9, h8, h⟩ := A6 h
     exact wx w2b (vQ) (Ai6) Ph 29 [true] [pl q47 z2.2, ⟨.bnd (z2.2.map q47).length z2.1 (((z2.2.map q47).length : Nat) : Int) (ln z2.2), Fr (by simp) (by simp) h6⟩, ⟨.bnd (z2.2.map q47).length 0 z2.1 z2.1, Fr (by simp) rfl h8⟩, ⟨.cpy (((z2.2.map q47).drop 0).take ((Int.toNat z2.1) - 0)) 3 ((Int.toNat (ln z2.2)) - (Int.toNat z2.1)) (Nat.min ((z2.2.drop 0).take ((Int.toNat z2.1) - 0)).length ((Int.toNat (ln z2.2)) - (Int.toNat z2.1))) ((z2.2.map q47).take (Int.toNat z2.1) ++ ((((z2.2.map q47).drop 0).take ((Int.toNat z2.1) - 0)).take (Nat.min ((z2.2.drop 0).take ((Int.toNat z2.1) - 0)).length ((Int.toNat (ln z2.2)) - (Int.toNat z2.1))) ++ (z2.2.map q47).drop ((Int.toNat z2.1) + (Nat.min ((z2.2.drop 0).take ((Int.toNat z2.1) - 0)).length ((Int.toNat (ln z2.2)) - (Int.toNat z2.1)))))) ((P3 z2.2 (Int.toNat z2.1) ((Int.toNat (ln z2.2)) - (Int.toNat z2.1)) ((z2.2.drop 0).take ((Int.toNat z2.1) - 0))).map q47), Af4 q47 3 (λ _ => rfl) (zS _ _ _ _) rfl⟩] [] 0 [0] _ hC [pq h5] (sI h).symm
    ·exact wx w2 (Alg) (Aoq) Ph 26 [false] [pl q47 z2.2] [] 0 [0] (z2.1, z2.2) hC [pq h5] (hb2 _ (sI h).symm)
   ·have h := hnext2 _ hs2
    replace h := sI h
    subst h
    exact wr Ph 23 [] [] [] 0 [0] hC []
theorem e83 : EN 83 := en Tryz.func83
theorem Avg (x0 : Aa) (x1 : Ae) (x2 : Ae) (r : Bool) (h : Adz x0 x1 x2 = r) : CO 177 [.agg (d29 x0), .agg (d87 x1), .agg (d87 x2)] [] (.d (Bo r)) [] := by
 unfold Adz at h
 refine co 52 Tryz.func177 λ C hC => ?_
 rcases cB h with ⟨h1, h⟩ | ⟨h1, h⟩
 ·subst h
  exact wr [0, 1, 2, 3, 4, 5, 6, 7, 8, 22] 29 [true] [] [] 0 [] hC [pq h1]
 ·subst h
  exact wr [0, 1, 2, 3, 4, 5, 6, 7, 8, 22] 34 [false] [pc A0k (Azu x1.Phase x2.Phase _ rfl) []] [] 0 [] hC [pq h1]
theorem Awj : EN 177 := en Tryz.func177
def Fp : List Nat := [0, 1, 2, 4, 6, 7, 8, 32, 36, 47, 64, 74]
def O6 (x2 : Bool) (z0 : (List Al)) : St := [(0, dO 0 0), (2, dB x2), (4, dO 5 0), (6, dI 0)]
def Qa (x0 : Az) (x1 : Al) (z0 : (List Al)) : List Res := [.box 107 (zb x0.Am [.os 6, .os 7, .os 8, .os 9, I x0.time]), .non, .non, .non, .non, .box 92 (d92 x1), v1_ x0.Ap.Ah, v4_ x0.Ap.Ac, v0_ x0.Ap.As, v3_ z0]
theorem Av5 (x0 : Az) (x1 : Al) (x2 : Bool) (r : Int × Az) (h : Gh x0 x1 x2 = some r) : CO 116 [.d (.o 0 0), .agg (d92 x1), .d (Bo x2)] (.box 107 (zb x0.Am [.os 1, .os 2, .os 3, .os 4, I x0.time]) :: zp x0.Ap []) (.d (I r.1)) (.box 107 (zb r.2.Am [.os 5, .os 6, .os 7, .os 8, I r.2.time]) :: .non :: .non :: .non :: .non :: zp r.2.Ap []) := by
 unfold Gh at h
 refine co 84 Tryz.func116 λ C hC => ?_
 obtain ⟨y1, h2, h⟩ := Au h
 rcases cB h with ⟨h3, h⟩ | ⟨h3, h⟩
 ·replace h := sI h
  subst h
  exact wr Fp 32 [true] [pb Anl (Amz x0.Ap.Ak x1 _ h2)] [.mv 1, .mv 2, .mv 3, .mv 4] 5 [0, 1, 2, 3, 4, 6, 7, 8, 9] hC [pq h3]
 ·refine wn Fp 32 [false] [pb Anl (Amz x0.Ap.Ak x1 _ h2), pL_ [(x2, true)] q92 x0.Ap.Ak] [.mv 1, .mv 2, .mv 3, .mv 4] 5 Hg [0, 2, 4, 6, 7, 36] hC [pq h3] ?_
  rcases cB h with ⟨h4, h⟩ | ⟨h4, h⟩
  ·replace h := sI h
   subst h
   exact wr Fp 24 [true] [] [] 5 [0, 1, 2, 3, 4, 6, 7, 8, 9] hC [pq h4]
  ·refine wn Fp 24 [false] [] [] 5 Hg [0, 2, 4, 6, 7, 47] hC [pq h4] ?_
   obtain ⟨w0, h, hret0, hnext0⟩ := Aq h
   refine wc w0 (O6 x2) (Qa x0 x1) ?_ λ z0 hs0 => ?_
   ·unfold Lg at h
    rcases cB h with ⟨h5, h⟩ | ⟨h5, h⟩
    ·obtain ⟨y6, h7, h⟩ := Au h
     exact wx w0 (O6 x2) (Qa x0 x1) Fp 23 [true] [pc Awt (Avq x0.Ap.Ak y1.1 [x1] _ h7) [9]] [] 5 [0, 1, 2, 3, 4, 5, 6, 7, 8, 10] _ hC [pq h5] (sI h).symm
    ·obtain ⟨y8, h9, h⟩ := Au h
     exact wx w0 (O6 x2) (Qa x0 x1) Fp 23 [false] [pc Aws (Avp x0.Ap.Ak y1.1 (w64 (y1.1 + 1)) _ h9) [9]] [] 5 [0, 1, 2, 3, 4, 5, 6, 7, 8, 10] _ hC [pq h5] (sI h).symm
   ·clear h; have h := hnext0 _ hs0
    rcases cB h with ⟨h10, h⟩ | ⟨h10, h⟩
    ·obtain ⟨y11, h12, y13, h14, h⟩ := A6 h
     refine wn Fp 30 [true] [pr q87 h12, pu q87 h12 h14] [] 5 Hg [0, 4, 6, 74] hC [pq h10] ?_
     rcases cB h with ⟨h15, h⟩ | ⟨h15, h⟩
     ·obtain ⟨y16, h17, y18, h19, h⟩ := A6 h
      replace h := sI h
      subst h
      exact wr Fp 25 [true] [pr q87 h17, pu q87 h17 h19] [] 5 [0, 1, 2, 3, 4, 6, 7, 8, 9] hC [pq h15]
     ·replace h := sI h
      subst h
      exact wr Fp 25 [false] [] [] 5 [0, 1, 2, 3, 4, 6, 7, 8, 9] hC [pq h15]
    ·replace h := sI h
     subst h
     exact wr Fp 29 [false] [] [] 5 [0, 1, 2, 3, 4, 6, 7, 8, 9] hC [pq h10]
theorem Aw8 : EN 116 := en Tryz.func116
def E6 : List Nat := [0, 2, 3, 4, 5, 6, 7, 8, 9, 10, 11, 24, 29, 47, 60, 96, 121, 155]
def Uw  (z0 : Sg3) : St := [(0, dO 0 0), (2, dO 1 0), (3, dO 2 0), (4, dI z0.1)]
def uX (y1 : Int × Ag) (y3 : Int × Ag) (y5 : Int × Ag) (z0 : Sg3) : List Res := [.box 70 [DS pI z0.2.1, I z0.2.2.1], .box 29 [I 0, .os 3, .os 4, .os 5, I 0, I 0], .box 29 [I y1.1, .os 6, .os 7, .os 8, I y3.1, I y5.1], v6_ ([] : List Af), v7_ ([] : List A9), v8_ ([] : List A3), v6_ (Cz z0), v7_ ([] : List A9), v8_ ([] : List A3)]
def Al5  (z0 : Sg3) : St := [(0, dO 0 0), (2, dO 1 0), (3, dO 2 0)]
def Apf (y1 : Int × Ag) (y3 : Int × Ag) (y5 : Int × Ag) (z0 : Sg3) : List Res := [.box 70 [DS pI z0.2.1, I z0.2.2.1], .box 29 [I 0, .os 3, .os 4, .os 5, I 0, I 0], .box 29 [I y1.1, .os 6, .os 7, .os 8, I y3.1, I y5.1], v6_ ([] : List Af), v7_ ([] : List A9), v8_ ([] : List A3), v6_ (Cz z0), v7_ ([] : List A9), v8_ ([] : List A3)]
def zJ  (z1 : (List Af)) : St := [(0, dO 0 0), (2, dO 1 0), (3, dO 2 0)]
def Acd (y1 : Int × Ag) (y3 : Int × Ag) (y5 : Int × Ag) (y15 : Int × Ag) (z1 : (List Af)) : List Res := [.box 70 (d70 y15.2), .box 29 [I 0, .os 3, .os 4, .os 5, I 0, I 0], .box 29 [I y1.1, .os 6, .os 7, .os 8, I y3.1, I y5.1], v6_ ([] : List Af), v7_ ([] : List A9), v8_ ([] : List A3), v6_ z1, v7_ ([] : List A9), v8_ ([] : List A3)]
def yC  (z2 : Sg5) : St := [(0, dO 0 0), (2, dO 1 0), (3, dO 2 0), (5, dI z2.1)]
def Ajj (y1 : Int × Ag) (y3 : Int × Ag) (y5 : Int × Ag) (z2 : Sg5) : List Res := [.box 70 [DS pI z2.2.1, I z2.2.2.1], .box 29 [I 0, .os 3, .os 4, .os 5, I 0, I 0], .box 29 [I y1.1, .os 6, .os 7, .os 8, I y3.1, I y5.1], v6_ ([] : List Af), v7_ ([] : List A9), v8_ ([] : List A3), v6_ (g3_ z2), v7_ (E8 z2), v8_ ([] : List A3)]
def Al4  (z2 : Sg5) : St := [(0, dO 0 0), (2, dO 1 0), (3, dO 2 0)]
def Ape (y1 : Int × Ag) (y3 : Int × Ag) (y5 : Int × Ag) (z2 : Sg5) : List Res := [.box 70 [DS pI z2.2.1, I z2.2.2.1], .box 29 [I 0, .os 3, .os 4, .os 5, I 0, I 0], .box 29 [I y1.1, .os 6, .os 7, .os 8, I y3.1, I y5.1], v6_ ([] : List Af), v7_ ([] : List A9), v8_ ([] : List A3), v6_ (g3_ z2), v7_ (E8 z2), v8_ ([] : List A3)]
def Uv  (z3 : Sg4) : St := [(0, dO 0 0), (2, dO 1 0), (3, dO 2 0), (7, dI z3.1)]
def uW (y1 : Int × Ag) (y3 : Int × Ag) (y5 : Int × Ag) (z2 : Sg5) (z3 : Sg4) : List Res := [.box 70 [DS pI z3.2.1, I z3.2.2.1], .box 29 [I 0, .os 3, .os 4, .os 5, I 0, I 0], .box 29 [I y1.1, .os 6, .os 7, .os 8, I y3.1, I y5.1], v6_ ([] : List Af), v7_ ([] : List A9), v8_ ([] : List A3), v6_ (g3_ z3), v7_ (E8 z2), v8_ (E8 z3)]
def Al3  (z3 : Sg4) : St := [(2, dO 1 0), (3, dO 2 0)]
def Apd (y1 : Int × Ag) (y3 : Int × Ag) (y5 : Int × Ag) (z2 : Sg5) (z3 : Sg4) : List Res := [.box 70 [DS pI z3.2.1, I z3.2.2.1], .box 29 [I 0, .os 3, .os 4, .os 5, I 0, I 0], .box 29 [I y1.1, .os 6, .os 7, .os 8, I y3.1, I y5.1], v6_ ([] : List Af), v7_ ([] : List A9), v8_ ([] : List A3), v6_ (g3_ z3), v7_ (E8 z2), v8_ (E8 z3)]
def zI (z3 : Sg4) (z4 : (List Af)) : St := [(0, dO 0 0), (2, dO 1 0), (3, dO 2 0), (7, dI z3.1), (8, dI (ln (E8 z3)))]
def Acc (y1 : Int × Ag) (y3 : Int × Ag) (y5 : Int × Ag) (z2 : Sg5) (z3 : Sg4) (y42 : Int × Ag) (z4 : (List Af)) : List Res := [.box 70 (d70 y42.2), .box 29 [I 0, .os 3, .os 4, .os 5, I 0, I 0], .box 29 [I y1.1, .os 8, .os 6, .os 7, I y3.1, I y5.1], v6_ ([] : List Af), v7_ ([] : List A9), v8_ ([] : List A3), v7_ (E8 z2), v8_ (E8 z3), v6_ z4]
set_option maxHeartbeats 4000000 in
theorem k28 (x0 : Ag) (r : Aa × Ag) (h : F28 x0 = some r) : CO 28 [.d (.o 0 0)] [.box 70 (d70 x0)] (.agg [I r.1.Ao, .os 1, .os 2, .os 3, I r.1.Phase, I r.1.Ar]) (.box 70 (d70 r.2) :: zs r.1 []) := by
 unfold F28 at h
 refine co 168 Tryz.func28 λ C hC => ?_
 obtain ⟨y1, h2, y3, h4, y5, h6, h⟩ := Bi h
 refine ws E6 28 [] [pc e64 (k64 x0 1 4 _ h2) [0], pc e65 (k65 y1.2 [0, 50, 200, 1800] _ h4) [0], pc e65 (k65 y3.2 [0, 10, 50] _ h6) [0]] [.ownb 1 1 49 3, .ownb 1 2 98 3, .ownb 1 3 90 5, .ownb 2 1 49 3, .ownb 2 2 98 3, .ownb 2 3 90 5] 1 n9_ (Uw (1, y5.2.L, y5.2.At, ([] : List Af))) (uX y1 y3 y5 (1, y5.2.L, y5.2.At, ([] : List Af))) hC [] ?_
 obtain ⟨w0, hm0, hret0, hnext0⟩ := Aq h
 clear h
 refine wc w0 (Al5) (Apf y1 y3 y5) ?_ λ z0 hs0 => ?_
 ·refine wb ?_
  refine ww (Uw) (uX y1 y3 y5) hm0 λ z0 w0b h hb0 hr0 => ?_
  unfold Wu at h
  rcases cB h with ⟨h7, h⟩ | ⟨h7, h⟩
  ·obtain ⟨y8, h9, h⟩ := Au h
   rcases cB h with ⟨h10, h⟩ | ⟨h10, h⟩
   ·obtain ⟨y11, h12, y13, h14, h⟩ := A6 h
    exact wx w0b (Uw) (uX y1 y3 y5) E6 34 [true, true] [pc e60 (k60 (⟨z0.2.1, z0.2.2.1⟩ : Ag) 6 _ h9) [0], pc e60 (k60 y8.2 z0.1 _ h12) [0], pa q49 3 h14] [] 1 [0, 1, 2, 3, 4, 5, 9, 7, 8] _ hC [pq h7, pq h10] (sI h).symm
   ·exact wx w0b (Uw) (uX y1 y3 y5) E6 34 [true, false] [pc e60 (k60 (⟨z0.2.1, z0.2.2.1⟩ : Ag) 6 _ h9) [0]] [] 1 n9_ _ hC [pq h7, pq h10] (sI h).symm
  ·exact wx w0 (Al5) (Apf y1 y3 y5) E6 26 [false] [] [] 1 n9_ (z0.1, z0.2.1, z0.2.2.1, (Cz z0)) hC [pq h7] (hb0 _ (sI h).symm)
 ·have h := hnext0 _ hs0
  obtain ⟨y15, h16, h⟩ := Au h
  refine wn E6 24 [] [⟨.whenR [(decide (y1.1 > 2), true)] (.call 60 [dO 0 0, dI 2] [.box 70 [DS pI z0.2.1, I z0.2.2.1]] (dI y15.1) [.box 70 (d70 y15.2)] [0]), ⟨λ hg => ⟨e60, (k60 (⟨z0.2.1, z0.2.2.1⟩ : Ag) 2 _ (A0 h16 hg))⟩, λ hg => by have e := Hp h16 hg; subst e; rfl⟩⟩] [] 1 n9_ [0, 2, 3, 47] hC [] ?_
  obtain ⟨w1, h, hret1, hnext1⟩ := Aq h
  refine wc w1 (zJ) (Acd y1 y3 y5 y15) ?_ λ z1 hs1 => ?_
  ·unfold Adu at h
   rcases cB h with ⟨h17, h⟩ | ⟨h17, h⟩
   ·obtain ⟨y18, h19, h⟩ := Au h
    exact wx w1 (zJ) (Acd y1 y3 y5 y15) E6 23 [true] [pa q49 3 h19] [] 1 [0, 1, 2, 3, 4, 5, 9, 7, 8] _ hC [pq h17] (sI h).symm
   ·exact wx w1 (zJ) (Acd y1 y3 y5 y15) E6 23 [false] [] [] 1 n9_ _ hC [pq h17] (sI h).symm
  ·clear h; have h := hnext1 _ hs1
   obtain ⟨y20, h21, h⟩ := Au h
   refine ws E6 24 [] [pc e60 (k60 y15.2 5 _ h21) [0]] [] 1 n9_ (yC (y20.1, y20.2.L, y20.2.At, z1, ([] : List A9))) (Ajj y1 y3 y5 (y20.1, y20.2.L, y20.2.At, z1, ([] : List A9))) hC [] ?_
   obtain ⟨w2, hm2, hret2, hnext2⟩ := Aq h
   clear h
   refine wc w2 (Al4) (Ape y1 y3 y5) ?_ λ z2 hs2 => ?_
   ·refine wb ?_
    refine ww (yC) (Ajj y1 y3 y5) hm2 λ z2 w2b h hb2 hr2 => ?_
    unfold Wt at h
    rcases cB h with ⟨h22, h⟩ | ⟨h22, h⟩
    ·obtain ⟨y23, h24, y25, h26, y27, h28, y29, h30, h⟩ := Cv h
     obtain ⟨y31, h32, y33, h34, h⟩ := A6 h
     exact wx w2b (yC) (Ajj y1 y3 y5) E6 35 [true] [pc e60 (k60 (⟨z2.2.1, z2.2.2.1⟩ : Ag) y1.1 _ h24) [0], pl q98 (E8 z2), pa q49 3 h26, pc e65 (k65 y23.2 [10, 50, 100] _ h28) [0], pc e65 (k65 y27.2 [0, 5, y27.1] _ h30) [0], pc e65 (k65 y29.2 [0, 1, 3] _ h32) [0], pa q98 3 h34] [] 1 [0, 1, 2, 3, 4, 5, 9, 10, 8] _ hC [pq h22] (sI h).symm
    ·exact wx w2 (Al4) (Ape y1 y3 y5) E6 26 [false] [] [] 1 n9_ (z2.1, z2.2.1, z2.2.2.1, (g3_ z2), (E8 z2)) hC [pq h22] (hb2 _ (sI h).symm)
   ·have h := hnext2 _ hs2
    obtain ⟨y35, h36, h⟩ := Au h
    refine ws E6 24 [] [pc e60 (k60 (⟨z2.2.1, z2.2.2.1⟩ : Ag) 6 _ h36) [0]] [] 1 n9_ (Uv (y35.1, y35.2.L, y35.2.At, (g3_ z2), ([] : List A3))) (uW y1 y3 y5 z2 (y35.1, y35.2.L, y35.2.At, (g3_ z2), ([] : List A3))) hC [] ?_
    obtain ⟨w3, hm3, hret3, hnext3⟩ := Aq h
    clear h
    refine wc w3 (Al3) (Apd y1 y3 y5 z2) ?_ λ z3 hs3 => ?_
    ·refine wb ?_
     refine ww (Uv) (uW y1 y3 y5 z2) hm3 λ z3 w3b h hb3 hr3 => ?_
     unfold Ws at h
     rcases cB h with ⟨h37, h⟩ | ⟨h37, h⟩
     ·obtain ⟨y38, h39, y40, h41, y42, h43, h⟩ := Bi h
      refine wn E6 37 [true] [pl q90 (E8 z3), pc e60 (k60 (⟨z3.2.1, z3.2.2.1⟩ : Ag) y1.1 _ h39) [0], pa q49 3 h41, ⟨.whenR [(decide (y1.1 > 1), true)] (.call 60 [dO 0 0, dI 4] [.box 70 (d70 y38.2)] (dI y42.1) [.box 70 (d70 y42.2)] [0]), ⟨λ hg => ⟨e60, (k60 y38.2 4 _ (A0 h43 hg))⟩, λ hg => by have e := Hp h43 hg; subst e; rfl⟩⟩] [] 1 [0, 1, 2, 3, 4, 5, 7, 8, 9] [0, 2, 3, 7, 8, 9, 121] hC [pq h37] ?_
      obtain ⟨w4, h, hret4, hnext4⟩ := Aq h
      refine wc w4 (zI z3) (Acc y1 y3 y5 z2 z3 y42) ?_ λ z4 hs4 => ?_
      ·unfold Adt at h
       rcases cB h with ⟨h44, h⟩ | ⟨h44, h⟩
       ·obtain ⟨u46, h45, y47, h48, h⟩ := A6 h
        exact wx w4 (zI z3) (Acc y1 y3 y5 z2 z3 y42) E6 23 [true] [⟨.nz y1.1, zV h45⟩, pa q49 3 h48] [] 1 [0, 1, 2, 3, 4, 5, 6, 7, 9] _ hC [pq h44] (sI h).symm
       ·exact wx w4 (zI z3) (Acc y1 y3 y5 z2 z3 y42) E6 23 [false] [] [] 1 n9_ _ hC [pq h44] (sI h).symm
      ·clear h; have h := hnext4 _ hs4
       obtain ⟨y49, h50, y51, h52, y53, h54, h⟩ := Bi h
       obtain ⟨y55, h56, y57, h58, h⟩ := A6 h
       refine wn E6 28 [] [pc e65 (k65 y42.2 [0, 5, 20, 40] _ h50) [0], ⟨.nz 2, U_ rfl⟩, pc e65 (k65 y49.2 [0, w64 (Int.tdiv y49.1 2), y49.1] _ h52) [0], pc e60 (k60 y51.2 3 _ h54) [0], pc e64 (k64 y53.2 (-1) 2 _ h56) [0], ⟨.whenR [(decide ((ln (E8 z3)) > 0), true)] (.call 60 [dO 0 0, dI 4] [.box 70 (d70 y55.2)] (dI y57.1) [.box 70 (d70 y57.2)] [0]), ⟨λ hg => ⟨e60, (k60 y55.2 4 _ (A0 h58 hg))⟩, λ hg => by have e := Hp h58 hg; subst e; rfl⟩⟩] [.ownb 9 4 3 1] 1 Kd [0, 2, 3, 7, 8, 11, 155] hC [] ?_
       rcases cB h with ⟨h59, h⟩ | ⟨h59, h⟩
       ·obtain ⟨y60, h61, y62, h63, h⟩ := A6 h
        exact wx w3b (Uv) (uW y1 y3 y5 z2) E6 26 [true] [pc e60 (k60 y57.2 (ln (E8 z3)) _ h61) [0], pa q90 5 h63] [] 1 [0, 1, 2, 3, 4, 5, 8, 6, 11] _ hC [pq h59] (sI h).symm
       ·refine wn E6 2 [false] [] [.frz 10] 1 Hg [0, 2, 3, 7, 11] hC [pq h59] ?_
        obtain ⟨y64, h65, h⟩ := Au h
        exact wx w3b (Uv) (uW y1 y3 y5 z2) E6 24 [] [pa q90 5 h65] [] 1 [0, 1, 2, 3, 4, 5, 8, 6, 10] _ hC [] (sI h).symm
     ·exact wx w3 (Al3) (Apd y1 y3 y5 z2) E6 26 [false] [] [] 1 n9_ (z3.1, z3.2.1, z3.2.2.1, (g3_ z3), (E8 z3)) hC [pq h37] (hb3 _ (sI h).symm)
    ·have h := hnext3 _ hs3
     replace h := sI h
     subst h
     exact wr E6 23 [] [] [] 1 [0, 6, 7, 8] hC []
theorem e28 : EN 28 := en Tryz.func28
def Cd : List Nat := [0, 1, 3, 4, 5, 6, 7, 8, 9, 11, 12, 13, 16, 17, 18, 30, 31, 32, 35, 36, 37, 38, 57, 67, 68, 69, 89, 90, 91, 92, 114, 119, 126]
def Sq (x1 : Aa) (z0 : Int × (List Int) × Int × (List Bool)) : St := [(0, dO 0 0), (3, dO 4 0), (4, dO 5 0), (5, dO 6 0), (16, dI (ln x1.Ad)), (17, dI z0.1)]
def Yx (x1 : Aa) (z0 : Int × (List Int) × Int × (List Bool)) : List Res := (.box 70 [DS pI z0.2.1, I z0.2.2.1] :: zs x1 (.box 29 [I x1.Ao, .os 1, .os 2, .os 3, I x1.Phase, I x1.Ar] :: .box 34 [.os 7, .os 8, .os 9, .os 10] :: .box 34 [.os 11, .os 12, .os 13, .os 14] :: ze [v1_ (Cz z0), v4_ ([] : List Ae), v0_ ([] : List Int), v3_ ([] : List Al)]))
def zH  (z0 : Int × (List Int) × Int × (List Bool)) : St := [(0, dO 0 0), (3, dO 4 0), (4, dO 5 0), (5, dO 6 0)]
def Acb (x1 : Aa) (z0 : Int × (List Int) × Int × (List Bool)) : List Res := (.box 70 [DS pI z0.2.1, I z0.2.2.1] :: zs x1 (.box 29 [I x1.Ao, .os 1, .os 2, .os 3, I x1.Phase, I x1.Ar] :: .box 34 [.os 7, .os 8, .os 9, .os 10] :: .box 34 [.os 11, .os 12, .os 13, .os 14] :: ze [v1_ (Cz z0), v4_ ([] : List Ae), v0_ ([] : List Int), v3_ ([] : List Al)]))
def Sp (x1 : Aa) (z1 : Int × (List Bool)) : St := [(0, dO 0 0), (3, dO 4 0), (4, dO 5 0), (5, dO 6 0), (30, dI (ln x1.Ai)), (31, dI z1.1)]
def Yw (x1 : Aa) (z0 : Int × (List Int) × Int × (List Bool)) (z1 : Int × (List Bool)) : List Res := (.box 70 [DS pI z0.2.1, I z0.2.2.1] :: zs x1 (.box 29 [I x1.Ao, .os 1, .os 2, .os 3, I x1.Phase, I x1.Ar] :: .box 34 [.os 7, .os 8, .os 9, .os 10] :: .box 34 [.os 11, .os 12, .os 13, .os 14] :: ze [v1_ z1.2, v4_ ([] : List Ae), v0_ ([] : List Int), v3_ ([] : List Al)]))
def zG  (z1 : Int × (List Bool)) : St := [(0, dO 0 0), (3, dO 4 0), (4, dO 5 0), (5, dO 6 0)]
def Aca (x1 : Aa) (z0 : Int × (List Int) × Int × (List Bool)) (z1 : Int × (List Bool)) : List Res := (.box 70 [DS pI z0.2.1, I z0.2.2.1] :: zs x1 (.box 29 [I x1.Ao, .os 1, .os 2, .os 3, I x1.Phase, I x1.Ar] :: .box 34 [.os 7, .os 8, .os 9, .os 10] :: .box 34 [.os 11, .os 12, .os 13, .os 14] :: ze [v1_ z1.2, v4_ ([] : List Ae), v0_ ([] : List Int), v3_ ([] : List Al)]))
def Mv (x1 : Aa) (z1 : Int × (List Bool)) (n2 : Nat) (z2 : Bool × (List Bool)) : St := [(0, dO 0 0), (3, dO 4 0), (4, dO 5 0), (5, dO 6 0), (6, dI z1.1), (7, dB z2.1), (30, dI (ln x1.Ai)), (31, dI z1.1), (35, dS 1), (36, dI (ln x1.Ad)), (37, dI (cnt 0 n2))]
def Rk (x1 : Aa) (z0 : Int × (List Int) × Int × (List Bool)) (n2 : Nat) (z2 : Bool × (List Bool)) : List Res := (.box 70 [DS pI z0.2.1, I z0.2.2.1] :: zs x1 (.box 29 [I x1.Ao, .os 1, .os 2, .os 3, I x1.Phase, I x1.Ar] :: .box 34 [.os 7, .os 8, .os 9, .os 10] :: .box 34 [.os 11, .os 12, .os 13, .os 14] :: ze [v1_ z2.2, v4_ ([] : List Ae), v0_ ([] : List Int), v3_ ([] : List Al)]))
def zF (x1 : Aa) (z1 : Int × (List Bool)) (z2 : Bool × (List Bool)) : St := [(0, dO 0 0), (3, dO 4 0), (4, dO 5 0), (5, dO 6 0), (30, dI (ln x1.Ai)), (31, dI z1.1)]
def Ab9 (x1 : Aa) (z0 : Int × (List Int) × Int × (List Bool)) (z2 : Bool × (List Bool)) : List Res := (.box 70 [DS pI z0.2.1, I z0.2.2.1] :: zs x1 (.box 29 [I x1.Ao, .os 1, .os 2, .os 3, I x1.Phase, I x1.Ar] :: .box 34 [.os 7, .os 8, .os 9, .os 10] :: .box 34 [.os 11, .os 12, .os 13, .os 14] :: ze [v1_ z2.2, v4_ ([] : List Ae), v0_ ([] : List Int), v3_ ([] : List Al)]))
def So (x1 : Aa) (z3 : Sg6) : St := [(0, dO 0 0), (3, dO 4 0), (4, dO 5 0), (5, dO 6 0), (67, dI (ln x1.Ac)), (68, dI z3.1)]
def Yv (x1 : Aa) (z1 : Int × (List Bool)) (z3 : Sg6) : List Res := (.box 70 [DS pI z3.2.1, I z3.2.2.1] :: zs x1 (.box 29 [I x1.Ao, .os 1, .os 2, .os 3, I x1.Phase, I x1.Ar] :: .box 34 [.os 7, .os 8, .os 9, .os 10] :: .box 34 [.os 11, .os 12, .os 13, .os 14] :: ze [v1_ z1.2, v4_ (Cz z3), v0_ ([] : List Int), v3_ ([] : List Al)]))
def zE  (z3 : Sg6) : St := [(0, dO 0 0), (3, dO 4 0), (4, dO 5 0), (5, dO 6 0)]
def Ab8 (x1 : Aa) (z1 : Int × (List Bool)) (z3 : Sg6) : List Res := (.box 70 [DS pI z3.2.1, I z3.2.2.1] :: zs x1 (.box 29 [I x1.Ao, .os 1, .os 2, .os 3, I x1.Phase, I x1.Ar] :: .box 34 [.os 7, .os 8, .os 9, .os 10] :: .box 34 [.os 11, .os 12, .os 13, .os 14] :: ze [v1_ z1.2, v4_ (Cz z3), v0_ ([] : List Int), v3_ ([] : List Al)]))
def Sn (x1 : Aa) (n4 : Nat) (z4 : (List Int) × Int × (List Int)) : St := [(0, dO 0 0), (3, dO 4 0), (4, dO 5 0), (5, dO 6 0), (89, dS 3), (90, dI (ln x1.Ai)), (91, dI (cnt 0 n4))]
def Yu (x1 : Aa) (z1 : Int × (List Bool)) (z3 : Sg6) (n4 : Nat) (z4 : (List Int) × Int × (List Int)) : List Res := (.box 70 [DS pI z4.1, I z4.2.1] :: zs x1 (.box 29 [I x1.Ao, .os 1, .os 2, .os 3, I x1.Phase, I x1.Ar] :: .box 34 [.os 7, .os 8, .os 9, .os 10] :: .box 34 [.os 11, .os 12, .os 13, .os 14] :: ze [v1_ z1.2, v4_ (Cz z3), v0_ z4.2.2, v3_ ([] : List Al)]))
def zD  (z4 : (List Int) × Int × (List Int)) : St := [(0, dO 0 0), (3, dO 4 0), (4, dO 5 0), (5, dO 6 0)]
def Ab7 (x1 : Aa) (z1 : Int × (List Bool)) (z3 : Sg6) (z4 : (List Int) × Int × (List Int)) : List Res := (.box 70 [DS pI z4.1, I z4.2.1] :: zs x1 (.box 29 [I x1.Ao, .os 1, .os 2, .os 3, I x1.Phase, I x1.Ar] :: .box 34 [.os 7, .os 8, .os 9, .os 10] :: .box 34 [.os 11, .os 12, .os 13, .os 14] :: ze [v1_ z1.2, v4_ (Cz z3), v0_ z4.2.2, v3_ ([] : List Al)]))
def J7  (z5 : Int × (List Int) × Int × (List Al)) : St := [(0, dO 0 0), (3, dO 4 0), (4, dO 5 0), (5, dO 6 0), (12, dI z5.1)]
def Mj (x1 : Aa) (z1 : Int × (List Bool)) (z3 : Sg6) (z4 : (List Int) × Int × (List Int)) (z5 : Int × (List Int) × Int × (List Al)) : List Res := (.box 70 [DS pI z5.2.1, I z5.2.2.1] :: zs x1 (.box 29 [I x1.Ao, .os 1, .os 2, .os 3, I x1.Phase, I x1.Ar] :: .box 34 [.os 7, .os 8, .os 9, .os 10] :: .box 34 [.os 11, .os 12, .os 13, .os 14] :: ze [v1_ z1.2, v4_ (Cz z3), v0_ z4.2.2, v3_ (Cz z5)]))
def zC  (z5 : Int × (List Int) × Int × (List Al)) : St := [(4, dO 4 0), (5, dO 5 0)]
def Ab6 (x1 : Aa) (z1 : Int × (List Bool)) (z3 : Sg6) (z4 : (List Int) × Int × (List Int)) (z5 : Int × (List Int) × Int × (List Al)) : List Res := (.box 70 [DS pI z5.2.1, I z5.2.2.1] :: zs x1 (.box 34 [.os 6, .os 7, .os 8, .os 9] :: .box 34 [.os 10, .os 11, .os 12, .os 13] :: ze [v1_ z1.2, v4_ (Cz z3), v0_ z4.2.2, v3_ (Cz z5)]))
set_option maxHeartbeats 4000000 in
theorem Ayp (x0 : Ag) (x1 : Aa) (r : Ab × Ag) (h : Wr x0 x1 = some r) : CO 30 [.d (.o 0 0), .agg [I x1.Ao, .os 1, .os 2, .os 3, I x1.Phase, I x1.Ar]] (.box 70 (d70 x0) :: zs x1 []) (.agg [.os 4, .os 5, .os 6, .os 7]) (.box 70 (d70 r.2) :: zs x1 (zp r.1 [])) := by
 unfold Wr at h
 refine co 134 Tryz.func30 λ C hC => ?_
 refine ws Cd 28 [] [pl q49 x1.Ad] [.ownb 5 0 4 1, .ownb 5 1 87 4, .ownb 5 2 3 1, .ownb 5 3 92 2, .ownb 6 0 4 1, .ownb 6 1 87 4, .ownb 6 2 3 1, .ownb 6 3 92 2] 4 C8 (Sq x1 (0, x0.L, x0.At, ([] : List Bool))) (Yx x1 (0, x0.L, x0.At, ([] : List Bool))) hC [] ?_
 obtain ⟨w0, hm0, hret0, hnext0⟩ := Aq h
 clear h
 refine wc w0 (zH) (Acb x1) ?_ λ z0 hs0 => ?_
 ·refine wb ?_
  refine ww (Sq x1) (Yx x1) hm0 λ z0 w0b h hb0 hr0 => ?_
  unfold N8 at h
  rcases cB h with ⟨h1, h⟩ | ⟨h1, h⟩
  ·obtain ⟨y2, h3, y4, h5, h⟩ := A6 h
   exact wx w0b (Sq x1) (Yx x1) Cd 31 [true] [pc e60 (k60 (⟨z0.2.1, z0.2.2.1⟩ : Ag) 2 _ h3) [0], pa pB 1 h5] [] 4 [0, 1, 2, 3, 4, 5, 6, 7, 8, 9, 10, 15, 12, 13, 14] _ hC [pq h1] (sI h).symm
  ·exact wx w0 (zH) (Acb x1) Cd 26 [false] [] [] 4 C8 (z0.1, z0.2.1, z0.2.2.1, (Cz z0)) hC [pq h1] (hb0 _ (sI h).symm)
 ·have h := hnext0 _ hs0
  refine ws Cd 24 [] [pl q90 x1.Ai] [] 4 C8 (Sp x1 (0, (Cz z0))) (Yw x1 z0 (0, (Cz z0))) hC [] ?_
  obtain ⟨w1, hm1, hret1, hnext1⟩ := Aq h
  clear h
  refine wc w1 (zG) (Aca x1 z0) ?_ λ z1 hs1 => ?_
  ·refine wb ?_
   refine ww (Sp x1) (Yw x1 z0) hm1 λ z1 w1b h hb1 hr1 => ?_
   unfold N7 at h
   rcases cB h with ⟨h6, h⟩ | ⟨h6, h⟩
   ·refine ws Cd 34 [true] [pl q49 x1.Ad] [] 4 C8 (Mv x1 z1 0 (true, z1.2)) (Rk x1 z0 0 (true, z1.2)) hC [pq h6] ?_
    obtain ⟨w2, hm2, hret2, hnext2⟩ := Aq h
    clear h
    refine wc w2 (zF x1 z1) (Ab9 x1 z0) ?_ λ z2 hs2 => ?_
    ·refine wb ?_
     refine Bk 35 1 rfl rfl λ hl2 => ?_
     refine wl (Mv x1 z1) (Rk x1 z0) hm2 (λ z2 hn2 => ?_) λ n2 a2 z2 w2b hi2 hx2 h hb2 hr2 => ?_
     ·clear hm2
      exact wx w2 (zF x1 z1) (Ab9 x1 z0) Cd 26 [false] [] [] 4 C8 _ hC [pq (A4 hl2)] hn2
     ·unfold N6 at h
      obtain ⟨y7, h8, h⟩ := Au h
      refine wn Cd 32 [true] [pr q49 (A8 hx2 hl2), pn q49 (A8 hx2 hl2), pR pB h8, pN pB h8] [] 4 C8 [0, 3, 4, 5, 6, 7, 8, 30, 31, 35, 36, 37, 57] hC [pq (A1 hi2 hl2)] ?_
      rcases cB h with ⟨h9, h⟩ | ⟨h9, h⟩
      ·obtain ⟨y10, h11, y12, h13, h⟩ := A6 h
       exact wx w2b (Mv x1 z1 (n2 + 1)) (Rk x1 z0 (n2 + 1)) Cd 27 [true] [pr pB h11, pu pB h11 h13] [] 4 C8 _ hC [pq h9] (sI h).symm
      ·exact wx w2b (Mv x1 z1 (n2 + 1)) (Rk x1 z0 (n2 + 1)) Cd 25 [false] [] [] 4 C8 _ hC [pq h9] (sI h).symm
    ·have h := hnext2 _ hs2
     exact wx w1b (Sp x1) (Yw x1 z0) Cd 23 [] [] [] 4 C8 _ hC [] (sI h).symm
   ·exact wx w1 (zG) (Aca x1 z0) Cd 26 [false] [] [] 4 C8 (z1.1, z1.2) hC [pq h6] (hb1 _ (sI h).symm)
  ·have h := hnext1 _ hs1
   refine ws Cd 24 [] [pl q98 x1.Ac] [] 4 C8 (So x1 (0, z0.2.1, z0.2.2.1, ([] : List Ae))) (Yv x1 z1 (0, z0.2.1, z0.2.2.1, ([] : List Ae))) hC [] ?_
   obtain ⟨w3, hm3, hret3, hnext3⟩ := Aq h
   clear h
   refine wc w3 (zE) (Ab8 x1 z1) ?_ λ z3 hs3 => ?_
   ·refine wb ?_
    refine ww (So x1) (Yv x1 z1) hm3 λ z3 w3b h hb3 hr3 => ?_
    unfold N5 at h
    rcases cB h with ⟨h14, h⟩ | ⟨h14, h⟩
    ·obtain ⟨y15, h16, y17, h18, y19, h20, h⟩ := Bi h
     obtain ⟨y21, h22, y23, h24, h⟩ := A6 h
     exact wx w3b (So x1) (Yv x1 z1) Cd 31 [true] [pc e65 (k65 (⟨z3.2.1, z3.2.2.1⟩ : Ag) [0, 1, 2, 2, 2, 3] _ h16) [0], pc e60 (k60 y15.2 5 _ h18) [0], pc e65 (k65 y17.2 [5000, 5000, 5005, 4950] _ h20) [0], pc e65 (k65 y19.2 [0, 0, 40, 1800, 3590] _ h22) [0], pa q87 4 h24] [] 4 [0, 1, 2, 3, 4, 5, 6, 7, 8, 9, 10, 11, 15, 13, 14] _ hC [pq h14] (sI h).symm
    ·exact wx w3 (zE) (Ab8 x1 z1) Cd 26 [false] [] [] 4 C8 (z3.1, z3.2.1, z3.2.2.1, (Cz z3)) hC [pq h14] (hb3 _ (sI h).symm)
   ·have h := hnext3 _ hs3
    refine ws Cd 24 [] [pl q90 x1.Ai] [] 4 C8 (Sn x1 0 (z3.2.1, z3.2.2.1, ([] : List Int))) (Yu x1 z1 z3 0 (z3.2.1, z3.2.2.1, ([] : List Int))) hC [] ?_
    obtain ⟨w4, hm4, hret4, hnext4⟩ := Aq h
    clear h
    refine wc w4 (zD) (Ab7 x1 z1 z3) ?_ λ z4 hs4 => ?_
    ·refine wb ?_
     refine Bk 89 3 rfl rfl λ hl4 => ?_
     refine wl (Sn x1) (Yu x1 z1 z3) hm4 (λ z4 hn4 => ?_) λ n4 a4 z4 w4b hi4 hx4 h hb4 hr4 => ?_
     ·clear hm4
      exact wx w4 (zD) (Ab7 x1 z1 z3) Cd 26 [false] [] [] 4 C8 _ hC [pq (A4 hl4)] hn4
     ·unfold N4 at h
      obtain ⟨y25, h26, y27, h28, h⟩ := A6 h
      exact wx w4b (Sn x1 (n4 + 1)) (Yu x1 z1 z3 (n4 + 1)) Cd 33 [true] [pr q90 (A8 hx4 hl4), pn q90 (A8 hx4 hl4), ⟨.nz 3, U_ rfl⟩, pc e65 (k65 (⟨z4.1, z4.2.1⟩ : Ag) [a4.Load, a4.Load, a4.Least, w64 (Int.tdiv a4.Load 3)] _ h26) [0], pa pI 1 h28] [] 4 [0, 1, 2, 3, 4, 5, 6, 7, 8, 9, 10, 11, 12, 16, 14] _ hC [pq (A1 hi4 hl4)] (sI h).symm
    ·have h := hnext4 _ hs4
     refine ws Cd 24 [] [] [] 4 C8 (J7 (1, z4.1, z4.2.1, ([] : List Al))) (Mj x1 z1 z3 z4 (1, z4.1, z4.2.1, ([] : List Al))) hC [] ?_
     obtain ⟨w5, hm5, hret5, hnext5⟩ := Aq h
     clear h
     refine wc w5 (zC) (Ab6 x1 z1 z3 z4) ?_ λ z5 hs5 => ?_
     ·refine wb ?_
      refine ww (J7) (Mj x1 z1 z3 z4) hm5 λ z5 w5b h hb5 hr5 => ?_
      unfold N3 at h
      rcases cB h with ⟨h29, h⟩ | ⟨h29, h⟩
      ·obtain ⟨y30, h31, h⟩ := Au h
       rcases cB h with ⟨h32, h⟩ | ⟨h32, h⟩
       ·obtain ⟨y33, h34, h⟩ := Au h
        refine wn Cd 35 [true, true] [pc e60 (k60 (⟨z5.2.1, z5.2.2.1⟩ : Ag) 5 _ h31) [0], pc e60 (k60 y30.2 4 _ h34) [0], pb e47 (k47 x1 (⟨z5.1, y33.1⟩ : Al) _ rfl)] [] 4 G2 [0, 3, 4, 5, 12, 13, 126] hC [pq h29, pq h32] ?_
        rcases cB h with ⟨h35, h⟩ | ⟨h35, h⟩
        ·obtain ⟨y36, h37, h⟩ := Au h
         exact wx w5b (J7) (Mj x1 z1 z3 z4) Cd 25 [true] [pa q92 2 h37] [] 4 [0, 1, 2, 3, 4, 5, 6, 7, 8, 9, 10, 11, 12, 13, 16] _ hC [pq h35] (sI h).symm
        ·exact wx w5b (J7) (Mj x1 z1 z3 z4) Cd 25 [false] [] [] 4 C8 _ hC [pq h35] (sI h).symm
       ·exact wx w5b (J7) (Mj x1 z1 z3 z4) Cd 34 [true, false] [pc e60 (k60 (⟨z5.2.1, z5.2.2.1⟩ : Ag) 5 _ h31) [0]] [] 4 C8 _ hC [pq h29, pq h32] (sI h).symm
      ·exact wx w5 (zC) (Ab6 x1 z1 z3 z4) Cd 26 [false] [] [] 4 [0, 1, 2, 3, 5, 6, 7, 8, 9, 10, 11, 12, 13, 14] (z5.1, z5.2.1, z5.2.2.1, (Cz z5)) hC [pq h29] (hb5 _ (sI h).symm)
     ·have h := hnext5 _ hs5
      replace h := sI h
      subst h
      exact wr Cd 23 [] [] [] 4 [0, 1, 2, 3, 10, 11, 12, 13] hC []
theorem Ay5 : EN 30 := en Tryz.func30
end Go.Proofs.YtcigbocngfaopaaGreat
