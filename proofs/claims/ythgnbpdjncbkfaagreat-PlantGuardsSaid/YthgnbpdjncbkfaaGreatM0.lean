import Derived.Test.YthgnbpdjncbkfaaGreatRows
import Derived.Test.YthgnbpdjncbkfaaGreatMo
import Derived.Test.YthgnbpdjncbkfaaGreatBw
import Derived.Test.YthgnbpdjncbkfaaGreatIn
set_option linter.unusedVariables false
set_option maxHeartbeats 4000000
namespace Go.Proofs.YthgnbpdjncbkfaaGreat
open Go.SL
abbrev v0_ (l : List Int) : Res := .sl 3 1 (l.map pI)
abbrev v1_ (l : List Bl) : Res := .sl 51 5 (l.map q51)
abbrev v2_ (l : List Bool) : Res := .sl 4 1 (l.map pB)
abbrev v3_ (l : List Al) : Res := .sl 86 2 (l.map q86)
abbrev v4_ (l : List Ah) : Res := .sl 120 4 (l.map A_)
abbrev v5_ (l : List A3) : Res := .sl 130 2 (l.map Ce)
abbrev v6_ (l : List An) : Res := .sl 49 3 (l.map q49)
abbrev v7_ (l : List Af) : Res := .sl 84 3 (l.map q84)
abbrev v8_ (l : List Ab) : Res := .sl 36 4 (l.map q36)
abbrev v9_ (l : List Aj) : Res := .sl 147 3 (l.map Bg)
abbrev Ib (l : List Bf) : Res := .sl 139 3 (l.map Bu)
abbrev Ia (l : List A1) : Res := .sl 65 5 (l.map q65)
abbrev CO := CallOk Tryz.prog
abbrev EN := Fy Tryz.prog
abbrev Ej {α0 α1 α2 α3 : Type} (z : α0 × α1 × α2 × α3) : α3 := z.2.2.2
abbrev g3_ {α0 α1 α2 α3 α4 : Type} (z : α0 × α1 × α2 × α3 × α4) : α3 := z.2.2.2.1
abbrev Is {α0 α1 α2 α3 α4 : Type} (z : α0 × α1 × α2 × α3 × α4) : α4 := z.2.2.2.2
abbrev g4_ {α0 α1 α2 α3 α4 α5 : Type} (z : α0 × α1 × α2 × α3 × α4 × α5) : α4 := z.2.2.2.2.1
abbrev g5_ {α0 α1 α2 α3 α4 α5 α6 : Type} (z : α0 × α1 × α2 × α3 × α4 × α5 × α6) : α5 := z.2.2.2.2.2.1
abbrev Ob {α0 α1 α2 α3 α4 α5 α6 : Type} (z : α0 × α1 × α2 × α3 × α4 × α5 × α6) : α6 := z.2.2.2.2.2.2
abbrev g6_ {α0 α1 α2 α3 α4 α5 α6 α7 : Type} (z : α0 × α1 × α2 × α3 × α4 × α5 × α6 × α7) : α6 := z.2.2.2.2.2.2.1
abbrev g7_ {α0 α1 α2 α3 α4 α5 α6 α7 α8 : Type} (z : α0 × α1 × α2 × α3 × α4 × α5 × α6 × α7 × α8) : α7 := z.2.2.2.2.2.2.2.1
abbrev Ahd {α0 α1 α2 α3 α4 α5 α6 α7 α8 : Type} (z : α0 × α1 × α2 × α3 × α4 × α5 × α6 × α7 × α8) : α8 := z.2.2.2.2.2.2.2.2
abbrev g8_ {α0 α1 α2 α3 α4 α5 α6 α7 α8 α9 : Type} (z : α0 × α1 × α2 × α3 × α4 × α5 × α6 × α7 × α8 × α9) : α8 := z.2.2.2.2.2.2.2.2.1
abbrev g9_ {α0 α1 α2 α3 α4 α5 α6 α7 α8 α9 α10 : Type} (z : α0 × α1 × α2 × α3 × α4 × α5 × α6 × α7 × α8 × α9 × α10) : α9 := z.2.2.2.2.2.2.2.2.2.1
abbrev F3 {α0 α1 α2 α3 α4 α5 α6 α7 α8 α9 α10 : Type} (z : α0 × α1 × α2 × α3 × α4 × α5 × α6 × α7 × α8 × α9 × α10) : α10 := z.2.2.2.2.2.2.2.2.2.2
abbrev Dx {α0 α1 α2 α3 α4 α5 α6 α7 α8 α9 α10 α11 : Type} (z : α0 × α1 × α2 × α3 × α4 × α5 × α6 × α7 × α8 × α9 × α10 × α11) : α10 := z.2.2.2.2.2.2.2.2.2.2.1
abbrev Im {α0 α1 α2 α3 α4 α5 α6 α7 α8 α9 α10 α11 : Type} (z : α0 × α1 × α2 × α3 × α4 × α5 × α6 × α7 × α8 × α9 × α10 × α11) : α11 := z.2.2.2.2.2.2.2.2.2.2.2
abbrev Hr {α0 α1 α2 α3 α4 α5 α6 α7 α8 α9 α10 α11 α12 : Type} (z : α0 × α1 × α2 × α3 × α4 × α5 × α6 × α7 × α8 × α9 × α10 × α11 × α12) : α11 := z.2.2.2.2.2.2.2.2.2.2.2.1
abbrev Iv {α0 α1 α2 α3 α4 α5 α6 α7 α8 α9 α10 α11 α12 α13 : Type} (z : α0 × α1 × α2 × α3 × α4 × α5 × α6 × α7 × α8 × α9 × α10 × α11 × α12 × α13) : α12 := z.2.2.2.2.2.2.2.2.2.2.2.2.1
abbrev Iu {α0 α1 α2 α3 α4 α5 α6 α7 α8 α9 α10 α11 α12 α13 α14 : Type} (z : α0 × α1 × α2 × α3 × α4 × α5 × α6 × α7 × α8 × α9 × α10 × α11 × α12 × α13 × α14) : α13 := z.2.2.2.2.2.2.2.2.2.2.2.2.2.1
abbrev Qt {α0 α1 α2 α3 α4 α5 α6 α7 α8 α9 α10 α11 α12 α13 α14 : Type} (z : α0 × α1 × α2 × α3 × α4 × α5 × α6 × α7 × α8 × α9 × α10 × α11 × α12 × α13 × α14) : α14 := z.2.2.2.2.2.2.2.2.2.2.2.2.2.2
abbrev Tg {α0 α1 α2 α3 α4 α5 α6 α7 α8 α9 α10 α11 α12 α13 α14 α15 : Type} (z : α0 × α1 × α2 × α3 × α4 × α5 × α6 × α7 × α8 × α9 × α10 × α11 × α12 × α13 × α14 × α15) : α14 := z.2.2.2.2.2.2.2.2.2.2.2.2.2.2.1
abbrev Aeb {α0 α1 α2 α3 α4 α5 α6 α7 α8 α9 α10 α11 α12 α13 α14 α15 : Type} (z : α0 × α1 × α2 × α3 × α4 × α5 × α6 × α7 × α8 × α9 × α10 × α11 × α12 × α13 × α14 × α15) : α15 := z.2.2.2.2.2.2.2.2.2.2.2.2.2.2.2
abbrev Aqy {α0 α1 α2 α3 α4 α5 α6 α7 α8 α9 α10 α11 α12 α13 α14 α15 α16 : Type} (z : α0 × α1 × α2 × α3 × α4 × α5 × α6 × α7 × α8 × α9 × α10 × α11 × α12 × α13 × α14 × α15 × α16) : α15 := z.2.2.2.2.2.2.2.2.2.2.2.2.2.2.2.1
abbrev Aea {α0 α1 α2 α3 α4 α5 α6 α7 α8 α9 α10 α11 α12 α13 α14 α15 α16 : Type} (z : α0 × α1 × α2 × α3 × α4 × α5 × α6 × α7 × α8 × α9 × α10 × α11 × α12 × α13 × α14 × α15 × α16) : α16 := z.2.2.2.2.2.2.2.2.2.2.2.2.2.2.2.2
theorem sI {α : Type} {a b : α} (h : some a = some b) : a = b := cq h
abbrev zb (b : Aa) (l : List D) : List D := I b.Aq :: DS Bg b.Ae :: DS Bu b.Ac :: DS q65 b.Ad :: I b.Phase :: I b.Ar :: l
abbrev zp (p : Ab) (l : List Res) : List Res := .sl 4 1 (p.Ag.map pB) :: .sl 120 4 (p.Ac.map A_) :: .sl 3 1 (p.Ak.map pI) :: .sl 86 2 (p.Ao.map q86) :: l
abbrev ze (l : List Res) : List Res := .sl 4 1 (([] : List Bool).map pB) :: .sl 120 4 (([] : List Ah).map A_) :: .sl 3 1 (([] : List Int).map pI) :: .sl 86 2 (([] : List Al).map q86) :: l
abbrev zs (b : Aa) (l : List Res) : List Res := .sl 147 3 (b.Ae.map Bg) :: .sl 139 3 (b.Ac.map Bu) :: .sl 65 5 (b.Ad.map q65) :: l
abbrev zt {α : Type} (b : Aa) (r : α) : Int × List Aj × List Bf × List A1 × Int × Int × α := (b.Aq, b.Ae, b.Ac, b.Ad, b.Phase, b.Ar, r)
abbrev zu {α : Type} (p : Ab) (r : α) : List Bool × List Ah × List Int × List Al × α := (p.Ag, p.Ac, p.Ak, p.Ao, r)
abbrev n3_ : List Nat := [0, 1, 2]
abbrev n4_ : List Nat := [0, 1, 2, 3]
abbrev n5_ : List Nat := [0, 1, 2, 3, 4]
abbrev n6_ : List Nat := [0, 1, 2, 3, 4, 5]
abbrev n7_ : List Nat := [0, 1, 2, 3, 4, 5, 6]
abbrev n8_ : List Nat := [0, 1, 2, 3, 4, 5, 6, 7]
abbrev n9_ : List Nat := [0, 1, 2, 3, 4, 5, 6, 7, 8]
abbrev Es : List Nat := [0, 1, 2, 3, 4, 5, 6, 7, 8, 9]
abbrev Sz : List Nat := [0, 1, 2, 3, 4, 5, 6, 7, 8, 9, 10]
abbrev Er : List Nat := [0, 1, 2, 3, 4, 5, 6, 7, 8, 9, 10, 11]
abbrev Gl : List Nat := [0, 1, 2, 3, 4, 5, 6, 7, 8, 9, 10, 11, 12]
abbrev A_y : List Nat := [0, 1, 2, 3, 4, 5, 6, 7, 8, 9, 10, 11, 12, 13]
abbrev F6 : List Nat := [0, 1, 2, 3, 4, 5, 6, 7, 8, 9, 10, 11, 12, 13, 14]
abbrev Xn : List Nat := [0, 1, 2, 3, 4, 5, 6, 7, 8, 9, 10, 11, 12, 13, 14, 15]
abbrev Sy : List Nat := [0, 1, 2, 3, 4, 5, 6, 7, 8, 9, 10, 11, 12, 13, 14, 15, 16]
abbrev A_x : List Nat := [0, 1, 2, 3, 4, 5, 6, 7, 8, 9, 10, 11, 12, 13, 14, 15, 16, 17, 18]
abbrev Agn : List Nat := [0, 1, 2, 3, 4, 5, 6, 7, 8, 9, 10, 11, 12, 13, 14, 15, 16, 17, 18, 19]
abbrev A_w : List Nat := [0, 1, 2, 3, 4, 5, 6, 7, 8, 9, 10, 11, 12, 13, 14, 15, 16, 17, 18, 19, 20]
abbrev A_v : List Nat := [0, 1, 2, 3, 4, 5, 6, 7, 8, 9, 10, 11, 12, 13, 14, 15, 16, 17, 18, 19, 20, 21]
theorem Il : Tryz.prog.follows .mixedOrders = true := by kernel_rfl
abbrev PC := {c : Cl // Cl.ok Tryz.prog c}
abbrev PB := {p : Bool × Bool // p.1 = p.2}
theorem okP : ∀ l : List PC, Dz Tryz.prog (l.map (·.1))
 | [] => trivial
 | c :: l => ⟨c.2, okP l⟩
theorem okB : ∀ l : List PB, Du (l.map (·.1))
 | [] => trivial
 | ⟨(_, _), h⟩ :: l => ⟨h, okB l⟩
def pq {a b : Bool} (h : a = b) : PB := ⟨(a, b), h⟩
def pc {f : FuncId} {args : List AV} {R R2 : List Res} {res : AV} (e : Fy Tryz.prog f) (k : CallOk Tryz.prog f args R res R2) (pi : List Nat) : PC := ⟨.call f args R res R2 pi, e, k⟩
def pb {f : FuncId} {args : List AV} {res : AV} (e : Fy Tryz.prog f) (k : CallOk Tryz.prog f args [] res []) : PC := ⟨.callB f args res [[]] 0 [], I2 ⟨e, k⟩⟩
def pw {g : List (Bool × Bool)} {f : FuncId} {args : List AV} {R R2 : List Res} {res : AV} (e : Fy Tryz.prog f) (k : Du g -> CallOk Tryz.prog f args R res R2) (pi : List Nat) : PC := ⟨.when g (.call f args R res R2 pi), λ h => ⟨e, k h⟩⟩
def pv {g : List (Bool × Bool)} {f : FuncId} {args : List AV} {res : AV} (e : Fy Tryz.prog f) (k : Du g -> CallOk Tryz.prog f args [] res []) : PC := ⟨.when g (.callB f args res [[]] 0 []), λ h => I2 ⟨e, k h⟩⟩
section
variable {α : Type}
def pl (q : α -> List Pd) (l : List α) : PC := ⟨.len ((l.map q).length : Int) (l.length : Int), Vy l q⟩
def pL_ (g : List (Bool × Bool)) (q : α -> List Pd) (l : List α) : PC := ⟨.when g (.len ((l.map q).length : Int) (l.length : Int)), λ _ => Vy l q⟩
def pr (q : α -> List Pd) {l : List α} {n : Int} {x : α} (h : getI l n = some x) : PC := ⟨.row (l.map q) n (q x), Vg h⟩
def pn (q : α -> List Pd) {l : List α} {n : Int} {x : α} (h : getI l n = some x) : PC := ⟨.row (l.map q) ((n.toNat : Nat) : Int) (q x), Js h⟩
def pt {q : α -> List Pd} {l : List α} {i : Nat} {x : α} (hx : l[i]? = some x) (hl : (l.map q).length <= maxLen) : PC := ⟨.row (l.map q) (cnt 0 i) (q x), A3i hx hl⟩
def pR (q : α -> List Pd) {g : List (Bool × Bool)} {l : List α} {n : Int} {x d : α} (h : Az g (getI l n) d = some x) : PC := ⟨.when g (.row (l.map q) n (q x)), λ hg => Vg (A9 h hg)⟩
def pN (q : α -> List Pd) {g : List (Bool × Bool)} {l : List α} {n : Int} {x d : α} (h : Az g (getI l n) d = some x) : PC := ⟨.when g (.row (l.map q) ((n.toNat : Nat) : Int) (q x)), λ hg => Js (A9 h hg)⟩
def pa (q : α -> List Pd) (size : Nat) {B : Nat} {l m y : List α} (h : appI (B + 1) l m = some y) (hs : ∀ x, (q x).length = size := by exact λ _ => rfl) : PC := ⟨.app (l.map q) (m.map q) size (((l.map q).length + (m.map q).length) * (B + 1)) (y.map q), H9 q size hs h⟩
def pu (q : α -> List Pd) {l y : List α} {n : Int} {x x' : α} (hx : getI l n = some x) (h : setI l n x' = some y) : PC := ⟨.upd (l.map q) n.toNat (q x) (q x') (y.map q), Aml hx h⟩
end
theorem ws {ro : Option Nat} {n : Nat} {C : Ctx} {Q : Exit -> Act -> World -> Prop} {st : St} {R : List Res} {items : List It} (lv : List Nat) (fuel : Nat) (ds : List Bool) (cls : List PC) (adj : List Adj) (k : Nat) (pi : List Nat) (st' : St) (R' : List Res) (hk : C.h.length <= k) (bs : List PB) (hW : WI ro Tryz.prog n C Q (Cd fuel items ds) st' R') (h : G0 Tryz.prog n lv fuel items st R ds (cls.map (·.1)) adj k pi (N_ st') = some (st', R', cls.map (·.1), bs.map (·.1)) := by kernel_rfl) : WI ro Tryz.prog n C Q items st R := yU Il lv fuel ds (cls.map (·.1)) adj k pi st' R' hk (okP cls) (okB bs) h hW
def wo (o : Option (St × List Res × List Cl × List (Bool × Bool))) : St × List Res := match o with
 | some (s, r, _, _) => (s, r)
 | none => ([], [])
theorem wn {ro : Option Nat} {n : Nat} {C : Ctx} {Q : Exit -> Act -> World -> Prop} {st : St} {R : List Res} {items : List It} (lv : List Nat) (fuel : Nat) (ds : List Bool) (cls : List PC) (adj : List Adj) (k : Nat) (pi : List Nat) (ks : List Nat) (hk : C.h.length <= k) (bs : List PB) (hW : WI ro Tryz.prog n C Q (Cd fuel items ds) (wo (G0 Tryz.prog n lv fuel items st R ds (cls.map (·.1)) adj k pi ks)).1 (wo (G0 Tryz.prog n lv fuel items st R ds (cls.map (·.1)) adj k pi ks)).2) (h : (G0 Tryz.prog n lv fuel items st R ds (cls.map (·.1)) adj k pi ks).map (λ x => (N_ x.1, x.2.2.1, x.2.2.2)) = some (ks, cls.map (·.1), bs.map (·.1)) := by kernel_rfl) : WI ro Tryz.prog n C Q items st R := by
 cases e : G0 Tryz.prog n lv fuel items st R ds (cls.map (·.1)) adj k pi ks with
 | none => rw [e] at h; cases h
 | some x =>
  obtain ⟨s, r, c, b⟩ := x
  rw [e] at h hW
  simp only [bE, ak, aF] at h
  obtain ⟨h1, h2, h3⟩ := h
  subst h1; subst h2; subst h3
  exact yU Il lv fuel ds _ adj k pi s r hk (okP cls) (okB bs) e hW
theorem we {ro : Option Nat} {n : Nat} {C : Ctx} {Q : Exit -> Act -> World -> Prop} {st : St} {R : List Res} {items : List It} {σ : Type} {φ : σ -> Prop} {st' : σ -> St} {R' : σ -> List Res} (lv : List Nat) (fuel : Nat) (ds : List Bool) (cls : List PC) (adj : List Adj) (k : Nat) (pi : List Nat) (s : σ) (hk : C.h.length <= k) (bs : List PB) (h1 : φ s) (hi : hdK (Cd fuel items ds) = Ex n C φ st' R' := by kernel_rfl) (h : G0 Tryz.prog n lv fuel items st R ds (cls.map (·.1)) adj k pi (N_ (st' s)) = some (st' s, R' s, cls.map (·.1), bs.map (·.1)) := by kernel_rfl) : WI ro Tryz.prog n C Q items st R := Axb Il lv fuel ds (cls.map (·.1)) adj k pi s hk (okP cls) (okB bs) hi h h1
theorem wx {σ : Type} {τ : Type} (w : Ctl σ τ) (st' : σ -> St) (R' : σ -> List Res) {ro : Option Nat} {n : Nat} {C : Ctx} {Q : Exit -> Act -> World -> Prop} {st : St} {R : List Res} {items : List It} (lv : List Nat) (fuel : Nat) (ds : List Bool) (cls : List PC) (adj : List Adj) (k : Nat) (pi : List Nat) (s : σ) (hk : C.h.length <= k) (bs : List PB) (h1 : w = .next s) (hi : hdK (Cd fuel items ds) = Ex n C (λ s' => w = .next s') st' R' := by kernel_rfl) (h : G0 Tryz.prog n lv fuel items st R ds (cls.map (·.1)) adj k pi (N_ (st' s)) = some (st' s, R' s, cls.map (·.1), bs.map (·.1)) := by kernel_rfl) : WI ro Tryz.prog n C Q items st R := Axb Il lv fuel ds (cls.map (·.1)) adj k pi s hk (okP cls) (okB bs) hi h h1
theorem wc {ro : Option Nat} {n : Nat} {C : Ctx} {Q : Exit -> Act -> World -> Prop} {st : St} {R : List Res} {items : List It} {σ τ : Type} (w : Ctl σ τ) (st' : σ -> St) (R' : σ -> List Res) (h : WI ro Tryz.prog n C Q (.c (hdC items) :: .k (Ex n C (λ s => w = .next s) st' R') :: tlI items) st R) (hK : ∀ s, w = .next s -> WI ro Tryz.prog n C Q (tlI items) (st' s) (R' s)) (hi : isC items = true := by kernel_rfl) : WI ro Tryz.prog n C Q items st R := A82 hi _ st' R' h hK
theorem A8 {α β γ : Type} {o : Option α} {f : α -> Option β} {g : α -> β -> Option γ} {r : γ} (h : (o.bind λ a => (f a).bind λ b => g a b) = some r) : ∃ a, o = some a /\ ∃ b, f a = some b /\ g a b = some r := by
 obtain ⟨a, h1, h⟩ := Av h
 obtain ⟨b, h2, h⟩ := Av h
 exact ⟨a, h1, b, h2, h⟩
theorem By {α β γ δ : Type} {o : Option α} {f : α -> Option β} {g : α -> β -> Option γ} {k : α -> β -> γ -> Option δ} {r : δ} (h : (o.bind λ a => (f a).bind λ b => (g a b).bind λ c => k a b c) = some r) : ∃ a, o = some a /\ ∃ b, f a = some b /\ ∃ c, g a b = some c /\ k a b c = some r := by
 obtain ⟨a, h1, h⟩ := Av h
 obtain ⟨b, h2, c, h3, h⟩ := A8 h
 exact ⟨a, h1, b, h2, c, h3, h⟩
theorem Cy {α β γ δ ε : Type} {o : Option α} {f : α -> Option β} {g : α -> β -> Option γ} {k : α -> β -> γ -> Option δ} {l : α -> β -> γ -> δ -> Option ε} {r : ε} (h : (o.bind λ a => (f a).bind λ b => (g a b).bind λ c => (k a b c).bind λ d => l a b c d) = some r) : ∃ a, o = some a /\ ∃ b, f a = some b /\ ∃ c, g a b = some c /\ ∃ d, k a b c = some d /\ l a b c d = some r := by
 obtain ⟨a, h1, h⟩ := Av h
 obtain ⟨b, h2, c, h3, d, h4, h⟩ := By h
 exact ⟨a, h1, b, h2, c, h3, d, h4, h⟩
theorem wl {ro : Option Nat} {n : Nat} {C : Ctx} {Q : Exit -> Act -> World -> Prop} {st : St} {R : List Res} {α σ τ : Type} {items : List It} {f : Nat -> α -> σ -> Option (Ctl σ τ)} (stF : Nat -> σ -> St) (RF : Nat -> σ -> List Res) {r : Ctl σ τ} {xs : List α} {s : σ} (hm : foldI f xs 0 s = some r) (hnil : ∀ s, r = .next s -> WI ro Tryz.prog n C Q (.c (lpC items) :: .k (λ _ _ => False) :: tlI items) (stF xs.length s) (RF xs.length s)) (hcons : ∀ i x s k, i < xs.length -> xs[i]? = some x -> f i x s = some k -> (∀ s', k = .brk s' -> r = .next s') -> (∀ v, k = .ret v -> r = .ret v) -> WI ro Tryz.prog n C Q (.c (lpC items) :: .k (Ex n C (λ s' => k = .next s') (stF (i + 1)) (RF (i + 1))) :: tlI items) (stF i s) (RF i s)) (hi : isL items = true := by kernel_rfl) (h0 : st = stF 0 s := by rfl) (h1 : R = RF 0 s := by rfl) : WI ro Tryz.prog n C Q items st R := A07 hi f stF RF r xs s hm h0 h1 hnil hcons
theorem ww {ro : Option Nat} {n : Nat} {C : Ctx} {Q : Exit -> Act -> World -> Prop} {st : St} {R : List Res} {σ τ : Type} {items : List It} {f : σ -> Option (Ctl σ τ)} (stF : σ -> St) (RF : σ -> List Res) {r : Ctl σ τ} {fuel : Nat} {s : σ} (hm : whileN f fuel s = some r) (h : ∀ s k, f s = some k -> (∀ s', k = .brk s' -> r = .next s') -> (∀ v, k = .ret v -> r = .ret v) -> WI ro Tryz.prog n C Q (.c (lpC items) :: .k (Ex n C (λ s' => k = .next s') stF RF) :: tlI items) (stF s) (RF s)) (hi : isL items = true := by kernel_rfl) (h0 : st = stF s := by rfl) (h1 : R = RF s := by rfl) : WI ro Tryz.prog n C Q items st R := A05 hi f stF RF r fuel s hm h0 h1 h
theorem cB {α : Type} {c : Bool} {x y z : α} (h : (bif c then x else y) = z) : (c = true /\ x = z) \/ (c = false /\ y = z) := by cases c; exact .inr ⟨rfl, h⟩; exact .inl ⟨rfl, h⟩
theorem wb {ro : Option Nat} {n : Nat} {C : Ctx} {Q : Exit -> Act -> World -> Prop} {st : St} {R : List Res} {items : List It} (h : WI ro Tryz.prog n C Q (.c (A8x items) :: .b (A8w items) :: tlI items) st R) (hi : isB items = true := by kernel_rfl) : WI ro Tryz.prog n C Q items st R := A83 hi h
theorem co {f : FuncId} {fn : Func} {c : Code} {args : List AV} {res : AV} {R R2 : List Res} (n : Nat) (hf : Tryz.prog.funcs[f]? = some fn) (h : ∀ C : Ctx, C.h.length <= R.length -> WI none Tryz.prog n C.z (Oh Tryz.prog fn C.z res R2) [.c c] (qE 0 args) R) (hb : fn.body = some c := by rfl) (hn : fn.ntmps = n := by rfl) (hl : Nat.ble args.length n = true := by rfl) : CallOk Tryz.prog f args R res R2 := Awo n hf hb hn hl h
theorem wr {ro : Option Nat} {n : Nat} {C : Ctx} {st : St} {R : List Res} {fn : Func} {res : AV} {R2 : List Res} {items : List It} (lv : List Nat) (fuel : Nat) (ds : List Bool) (cls : List PC) (adj : List Adj) (k : Nat) (pi : List Nat) (hk : C.h.length <= k) (bs : List PB) (h : Y9 Tryz.prog n lv fuel items st R ds (cls.map (·.1)) adj fn.results.toList k pi = some (res, R2, cls.map (·.1), bs.map (·.1)) := by kernel_rfl) : WI ro Tryz.prog n C.z (Oh Tryz.prog fn C.z res R2) items st R := qF Il lv fuel ds (cls.map (·.1)) adj _ k pi rfl hk (okP cls) (okB bs) h
theorem wf {ro : Option Nat} {n : Nat} {C : Ctx} {st : St} {R : List Res} {fn : Func} {res : AV} {R2 : List Res} {items : List It} (lv : List Nat) (fuel : Nat) (ds : List Bool) (cls : List PC) (adj : List Adj) (k : Nat) (pi : List Nat) (hk : C.h.length <= k) (bs : List PB) (hn : Azk (Cd fuel items ds) = true := by kernel_rfl) (h : Y_ Tryz.prog n lv fuel items st R ds (cls.map (·.1)) adj fn.results.toList k pi = some (res, R2, cls.map (·.1), bs.map (·.1)) := by kernel_rfl) : WI ro Tryz.prog n C.z (Oh Tryz.prog fn C.z res R2) items st R := A4n Il lv fuel ds (cls.map (·.1)) adj _ k pi rfl hk (okP cls) (okB bs) hn h
theorem en {f : FuncId} {fn : Func} (hf : Tryz.prog.funcs[f]? = some fn) (hb : fn.body.isNone = false := by kernel_rfl) (hn : (fn.name == "runtime.NumGoroutine") = false := by kernel_rfl) : Fy Tryz.prog f := Go.SL.Ab6 hf hb hn
abbrev ln {α : Type} (l : List α) : Int := (l.length : Int)
abbrev dI (x : Int) : AV := .d (I x)
abbrev dB (x : Bool) : AV := .d (Bo x)
abbrev dO (a b : Nat) : AV := .d (.o a b)
abbrev dS (a : Nat) : AV := .d (.os a)
theorem k8 (x0 : List Int) (r : Ai) (h : F8 x0 = some r) : CO 8 [.d (DS pI x0)] [] (.d (.o 0 0)) [.box 90 (d90 r)] := by
 unfold F8 at h
 refine co 10 Tryz.func8 λ C hC => ?_
 obtain ⟨y2, h1, h⟩ := Av h
 replace h := sI h
 subst h
 exact wr [0, 2] 25 [] [pl pI x0, ⟨.cut (x0.map pI) 1 0 (min (ln x0) 600) (y2.map pI), yO pI 1 (λ _ => rfl) h1⟩] [] 0 [0] hC []
theorem e8 : EN 8 := en Tryz.func8
theorem k80 (x0 : Int) (x1 : Int) (r : Int) (h : F80 x0 x1 = some r) : CO 80 [.d (I x0), .d (I x1)] [] (.d (I r)) [] := by
 unfold F80 at h
 refine co 14 Tryz.func80 λ C hC => ?_
 rcases cB h with ⟨h1, h⟩ | ⟨h1, h⟩
 ·replace h := sI h
  subst h
  exact wr [0, 1, 4, 6] 29 [true] [] [] 0 [] hC [pq h1]
 ·obtain ⟨u3, h2, u5, h4, h⟩ := A8 h
  replace h := sI h
  subst h
  exact wr [0, 1, 4, 6] 30 [false] [⟨.nz x1, Oy h2⟩, ⟨.nz x1, Oy h4⟩] [] 0 [] hC [pq h1]
theorem e80 : EN 80 := en Tryz.func80
theorem Fl (x0 : Int) (x1 : Int) (x2 : Int) (r : Bool) (h : B7 x0 x1 x2 = r) : CO 112 [.d (I x0), .d (I x1), .d (I x2)] [] (.d (Bo r)) [] := by
 unfold B7 at h
 refine co 15 Tryz.func112 λ C hC => ?_
 subst h
 exact wr [0, 1, 2, 6] 25 [] [] [] 0 [] hC []
theorem Fo : EN 112 := en Tryz.func112
def Agt : List Nat := [0, 1, 2, 3, 6, 7, 8, 9, 11, 12, 13, 14, 37]
def Ze (x0 : Aa) (x1 : Int) (x2 : Int) (n0 : Nat) (z0 : (List Int)) : St := [(1, dI x1), (2, dI x2), (6, .d (DS pI [])), (7, dS 0), (11, .d (DS Bg x0.Ae)), (12, dI (ln x0.Ae)), (13, dI (cnt 0 n0))]
def Aei  (n0 : Nat) (z0 : (List Int)) : List Res := [v0_ z0]
def At2  (z0 : (List Int)) : St := [(6, .d (DS pI [])), (7, dS 0)]
def Axl  (z0 : (List Int)) : List Res := [v0_ z0]
theorem k77 (x0 : Aa) (x1 : Int) (x2 : Int) (r : (List Int)) (h : F77 x0 x1 x2 = some r) : CO 77 [.agg (d29 x0), .d (I x1), .d (I x2)] [] (.d (.os 0)) [v0_ r] := by
 unfold F77 at h
 refine co 44 Tryz.func77 λ C hC => ?_
 refine ws Agt 28 [] [pl Bg x0.Ae] [.own 7 3 1] 0 [1] (Ze x0 x1 x2 0 ([] : List Int)) (Aei 0 ([] : List Int)) hC [] ?_
 obtain ⟨w0, hm0, hret0, hnext0⟩ := Ap h
 clear h
 refine wc w0 (At2) (Axl) ?_ λ z0 hs0 => ?_
 ·refine wb ?_
  refine Bp 11 rfl λ hl0 => ?_
  refine wl (Ze x0 x1 x2) (Aei) hm0 (λ z0 hn0 => ?_) λ n0 a0 z0 w0b hi0 hx0 h hb0 hr0 => ?_
  ·clear hm0
   exact wx w0 (At2) (Axl) Agt 26 [false] [] [] 0 [0] _ hC [pq (A7 hl0)] hn0
  ·unfold Aj3 at h
   rcases cB h with ⟨h1, h⟩ | ⟨h1, h⟩
   ·obtain ⟨y2, h3, h⟩ := Av h
    exact wx w0b (Ze x0 x1 x2 (n0 + 1)) (Aei (n0 + 1)) Agt 36 [true, true] [pt hx0 hl0, pa pI 1 h3] [] 0 [2] _ hC [pq (A5 hi0 hl0), pq h1] (sI h).symm
   ·exact wx w0b (Ze x0 x1 x2 (n0 + 1)) (Aei (n0 + 1)) Agt 36 [true, false] [pt hx0 hl0] [] 0 [0] _ hC [pq (A5 hi0 hl0), pq h1] (sI h).symm
 ·have h := hnext0 _ hs0
  replace h := sI h
  subst h
  exact wr Agt 23 [] [] [] 0 [0] hC []
theorem e77 : EN 77 := en Tryz.func77
theorem Bbb (x0 : Al) (x1 : Al) (r : Bool) (h : Aai x0 x1 = r) : CO 113 [.agg (d86 x0), .agg (d86 x1)] [] (.d (Bo r)) [] := by
 unfold Aai at h
 refine co 24 Tryz.func113 λ C hC => ?_
 subst h
 exact wr n5_ 25 [] [] [] 0 [] hC []
theorem Bcs : EN 113 := en Tryz.func113
theorem k65 (x0 : Ab) (r : Ab) (h : F65 x0 = some r) : CO 65 [.agg (d36 x0)] [] (.agg [.os 0, .os 1, .os 2, .os 3]) (zp r []) := by
 unfold F65 at h
 refine co 16 Tryz.func65 λ C hC => ?_
 obtain ⟨y1, h2, y3, h4, y5, h6, y7, h8, h⟩ := Cy h
 replace h := sI h
 subst h
 exact wr n3_ 25 [] [⟨.app [] (x0.Ag.map pB) 1 ((x0.Ag.map pB).length * (1 + 1)) (y1.map pB), Q2 pB 1 (λ _ => rfl) h2⟩, ⟨.app [] (x0.Ac.map A_) 4 ((x0.Ac.map A_).length * (32 + 1)) (y3.map A_), Q2 A_ 4 (λ _ => rfl) h4⟩, ⟨.app [] (x0.Ak.map pI) 1 ((x0.Ak.map pI).length * (8 + 1)) (y5.map pI), Q2 pI 1 (λ _ => rfl) h6⟩, ⟨.app [] (x0.Ao.map q86) 2 ((x0.Ao.map q86).length * (16 + 1)) (y7.map q86), Q2 q86 2 (λ _ => rfl) h8⟩] [] 0 [3, 5, 7, 9] hC []
theorem e65 : EN 65 := en Tryz.func65
def H3 : List Nat := [0, 1, 2, 3, 4, 6, 7, 8, 9, 10, 11, 19, 20, 21, 23, 24, 25, 26, 53, 65, 66, 67, 72]
def vK (y5 : List Bool) (n0 : Nat) (z0 : (List Bool)) : St := [(3, dO 0 0), (4, dO 1 0), (6, .d (DS pI [])), (7, dS 2), (19, dI (ln y5)), (20, dI (cnt 0 n0))]
def Ajr (x0 : Aa) (x1 : Ab) (n0 : Nat) (z0 : (List Bool)) : List Res := [.box 29 (d29 x0), .box 36 (d36 x1), v2_ z0]
def Ant  (z0 : (List Bool)) : St := [(6, .d (DS pI [])), (7, dS 0)]
def Apl  (z0 : (List Bool)) : List Res := [v2_ z0]
def Vb (x0 : Aa) (y5 : List Bool) (n0 : Nat) (n1 : Nat) (z1 : (List Bool)) : St := [(3, dO 0 0), (4, dO 1 0), (6, .d (DS pI [])), (7, dS 2), (19, dI (ln y5)), (20, dI (cnt 0 n0)), (23, .d (DS Bg x0.Ae)), (24, dI (ln x0.Ae)), (25, dI (cnt 0 n1))]
def qK (x0 : Aa) (x1 : Ab) (n1 : Nat) (z1 : (List Bool)) : List Res := [.box 29 (d29 x0), .box 36 (d36 x1), v2_ z1]
def Ans (y5 : List Bool) (n0 : Nat) (z1 : (List Bool)) : St := [(3, dO 0 0), (4, dO 1 0), (6, .d (DS pI [])), (7, dS 2), (19, dI (ln y5)), (20, dI (cnt 0 n0))]
def Apk (x0 : Aa) (x1 : Ab) (z1 : (List Bool)) : List Res := [.box 29 (d29 x0), .box 36 (d36 x1), v2_ z1]
def Va (z0 : (List Bool)) (n2 : Nat) (z2 : (List Int)) : St := [(6, .d (DS pI [])), (7, dS 0), (10, dS 1), (65, dI (ln z0)), (66, dI (cnt 0 n2))]
def qJ (z0 : (List Bool)) (n2 : Nat) (z2 : (List Int)) : List Res := [v2_ z0, v0_ z2]
def Anr  (z2 : (List Int)) : St := [(6, .d (DS pI [])), (10, dS 0)]
def Apj  (z2 : (List Int)) : List Res := [v0_ z2]
theorem Bba (x0 : Aa) (x1 : Ab) (x2 : Int) (r : (List Int)) (h : Alt x0 x1 x2 = some r) : CO 114 [.agg (d29 x0), .agg (d36 x1), .d (I x2)] [] (.d (.os 0)) [v0_ r] := by
 unfold Alt at h
 refine co 79 Tryz.func114 λ C hC => ?_
 obtain ⟨y1, h2, y3, h4, y5, h6, h⟩ := By h
 refine ws H3 30 [] [⟨.room (x0.Aq * (1 + 1)) (List.replicate (Int.toNat x0.Aq) (pB false)) (y1.map pB), Hh h2⟩, pr pB h4, pu pB h4 h6, pl pB y5] [] 0 n3_ (vK y5 0 y5) (Ajr x0 x1 0 y5) hC [] ?_
 obtain ⟨w0, hm0, hret0, hnext0⟩ := Ap h
 clear h
 refine wc w0 (Ant) (Apl) ?_ λ z0 hs0 => ?_
 ·refine wb ?_
  refine B3 7 2 rfl rfl λ hl0 => ?_
  refine wl (vK y5) (Ajr x0 x1) hm0 (λ z0 hn0 => ?_) λ n0 a0 z0 w0b hi0 hx0 h hb0 hr0 => ?_
  ·clear hm0
   exact wx w0 (Ant) (Apl) H3 26 [false] [] [] 0 [2] _ hC [pq (A7 hl0)] hn0
  ·unfold Aah at h
   refine ws H3 30 [true] [pl Bg x0.Ae] [] 0 n3_ (Vb x0 y5 n0 0 z0) (qK x0 x1 0 z0) hC [pq (A5 hi0 hl0)] ?_
   obtain ⟨w1, hm1, hret1, hnext1⟩ := Ap h
   clear h
   refine wc w1 (Ans y5 n0) (Apk x0 x1) ?_ λ z1 hs1 => ?_
   ·refine wb ?_
    refine Bp 23 rfl λ hl1 => ?_
    refine wl (Vb x0 y5 n0) (qK x0 x1) hm1 (λ z1 hn1 => ?_) λ n1 a1 z1 w1b hi1 hx1 h hb1 hr1 => ?_
    ·clear hm1
     exact wx w1 (Ans y5 n0) (Apk x0 x1) H3 26 [false] [] [] 0 n3_ _ hC [pq (A7 hl1)] hn1
    ·unfold Aag at h
     obtain ⟨y7, h8, y9, h10, y11, h12, h⟩ := By h
     refine wn H3 32 [true] [pt hx1 hl1, pR pB h8, pR pB h10, pN pB h10, pR pB h12, pN pB h12] [] 0 n4_ [3, 4, 6, 7, 9, 19, 20, 23, 24, 25, 53] hC [pq (A5 hi1 hl1)] ?_
     rcases cB h with ⟨h13, h⟩ | ⟨h13, h⟩
     ·obtain ⟨y14, h15, y16, h17, y18, h19, y20, h21, h⟩ := Cy h
      exact wx w1b (Vb x0 y5 n0 (n1 + 1)) (qK x0 x1 (n1 + 1)) H3 25 [true] [pr pB h15, pu pB h15 h17, pr pB h19, pu pB h19 h21] [] 0 n3_ _ hC [pq h13] (sI h).symm
     ·exact wx w1b (Vb x0 y5 n0 (n1 + 1)) (qK x0 x1 (n1 + 1)) H3 25 [false] [] [] 0 n3_ _ hC [pq h13] (sI h).symm
   ·have h := hnext1 _ hs1
    exact wx w0b (vK y5 (n0 + 1)) (Ajr x0 x1 (n0 + 1)) H3 23 [] [] [] 0 n3_ _ hC [] (sI h).symm
 ·have h := hnext0 _ hs0
  refine ws H3 26 [] [pl pB z0] [.own 10 3 1] 0 [0, 1] (Va z0 0 ([] : List Int)) (qJ z0 0 ([] : List Int)) hC [] ?_
  obtain ⟨w2, hm2, hret2, hnext2⟩ := Ap h
  clear h
  refine wc w2 (Anr) (Apj) ?_ λ z2 hs2 => ?_
  ·refine wb ?_
   refine B3 7 0 rfl rfl λ hl2 => ?_
   refine wl (Va z0) (qJ z0) hm2 (λ z2 hn2 => ?_) λ n2 a2 z2 w2b hi2 hx2 h hb2 hr2 => ?_
   ·clear hm2
    exact wx w2 (Anr) (Apj) H3 26 [false] [] [] 0 [1] _ hC [pq (A7 hl2)] hn2
   ·unfold Aaf at h
    rcases cB h with ⟨h22, h⟩ | ⟨h22, h⟩
    ·obtain ⟨y23, h24, h⟩ := Av h
     exact wx w2b (Va z0 (n2 + 1)) (qJ z0 (n2 + 1)) H3 36 [true, true] [pr pB (Be hx2 hl2), pn pB (Be hx2 hl2), pa pI 1 h24] [] 0 [0, 2] _ hC [pq (A5 hi2 hl2), pq h22] (sI h).symm
    ·exact wx w2b (Va z0 (n2 + 1)) (qJ z0 (n2 + 1)) H3 36 [true, false] [pr pB (Be hx2 hl2), pn pB (Be hx2 hl2)] [] 0 [0, 1] _ hC [pq (A5 hi2 hl2), pq h22] (sI h).symm
  ·have h := hnext2 _ hs2
   replace h := sI h
   subst h
   exact wr H3 23 [] [] [] 0 [0] hC []
theorem Bcr : EN 114 := en Tryz.func114
def Agv : List Nat := [0, 1, 4, 6, 7, 8, 9, 10, 15]
def Ae8 (x0 : List Int) (x1 : Int) (n0 : Nat) (z0 : Unit) : St := [(1, dI x1), (4, dB false), (7, .d (DS pI x0)), (8, dI (ln x0)), (9, dI (cnt 0 n0))]
def Arz  (n0 : Nat) (z0 : Unit) : List Res := []
def Aua  (z0 : Unit) : St := [(4, dB false)]
def Axt  (z0 : Unit) : List Res := []
theorem k55 (x0 : List Int) (x1 : Int) (r : Bool) (h : F55 x0 x1 = some r) : CO 55 [.d (DS pI x0), .d (I x1)] [] (.d (Bo r)) [] := by
 unfold F55 at h
 refine co 17 Tryz.func55 λ C hC => ?_
 refine ws Agv 26 [] [pl pI x0] [] 0 [] (Ae8 x0 x1 0 ()) (Arz 0 ()) hC [] ?_
 obtain ⟨w0, hm0, hret0, hnext0⟩ := Ap h
 clear h
 refine wc w0 (Aua) (Axt) ?_ λ z0 hs0 => ?_
 ·refine wb ?_
  refine Bp 7 rfl λ hl0 => ?_
  refine wl (Ae8 x0 x1) (Arz) hm0 (λ z0 hn0 => ?_) λ n0 a0 z0 w0b hi0 hx0 h hb0 hr0 => ?_
  ·clear hm0
   exact wx w0 (Aua) (Axt) Agv 26 [false] [] [] 0 [] _ hC [pq (A7 hl0)] hn0
  ·unfold qQ at h
   rcases cB h with ⟨h1, h⟩ | ⟨h1, h⟩
   ·have hq := hret0 _ (hr0 _ (sI h).symm)
    replace hq := sI hq
    subst hq
    exact wr Agv 35 [true, true] [pt hx0 hl0] [] 0 [] hC [pq (A5 hi0 hl0), pq h1]
   ·exact wx w0b (Ae8 x0 x1 (n0 + 1)) (Arz (n0 + 1)) Agv 36 [true, false] [pt hx0 hl0] [] 0 [] _ hC [pq (A5 hi0 hl0), pq h1] (sI h).symm
 ·have h := hnext0 _ hs0
  replace h := sI h
  subst h
  exact wr Agv 23 [] [] [] 0 [] hC []
theorem e55 : EN 55 := en Tryz.func55
theorem k99 (x0 : Int) (x1 : Int) (x2 : Int) (r : Bool) (h : F99 x0 x1 x2 = r) : CO 99 [.d (I x0), .d (I x1), .d (I x2)] [] (.d (Bo r)) [] := by
 unfold F99 at h
 refine co 15 Tryz.func99 λ C hC => ?_
 subst h
 exact wr [0, 1, 2, 6] 25 [] [] [] 0 [] hC []
theorem e99 : EN 99 := en Tryz.func99
def Z2 : List Nat := [0, 1, 4, 5, 7, 8, 9, 16]
def uM (x0 : List Int) (x1 : Int) (n0 : Nat) (z0 : Unit) : St := [(0, .d (DS pI x0)), (1, dI x1), (4, dI 0), (7, dI (ln x0)), (8, dI (cnt 0 n0))]
def Ai3  (n0 : Nat) (z0 : Unit) : List Res := []
def Amv  (z0 : Unit) : St := [(4, dI 0)]
def Aon  (z0 : Unit) : List Res := []
theorem A_5 (x0 : List Int) (x1 : Int) (r : Int) (h : As0 x0 x1 = some r) : CO 227 [.d (DS pI x0), .d (I x1)] [] (.d (I r)) [] := by
 unfold As0 at h
 refine co 19 Tryz.func227 λ C hC => ?_
 refine ws Z2 26 [] [pl pI x0] [] 0 [] (uM x0 x1 0 ()) (Ai3 0 ()) hC [] ?_
 obtain ⟨w0, hm0, hret0, hnext0⟩ := Ap h
 clear h
 refine wc w0 (Amv) (Aon) ?_ λ z0 hs0 => ?_
 ·refine wb ?_
  refine Bp 0 rfl λ hl0 => ?_
  refine wl (uM x0 x1) (Ai3) hm0 (λ z0 hn0 => ?_) λ n0 a0 z0 w0b hi0 hx0 h hb0 hr0 => ?_
  ·clear hm0
   exact wx w0 (Amv) (Aon) Z2 26 [false] [] [] 0 [] _ hC [pq (A7 hl0)] hn0
  ·unfold Apq at h
   rcases cB h with ⟨h1, h⟩ | ⟨h1, h⟩
   ·have hq := hret0 _ (hr0 _ (sI h).symm)
    replace hq := sI hq
    subst hq
    exact wr Z2 35 [true, true] [pt hx0 hl0] [] 0 [] hC [pq (A5 hi0 hl0), pq h1]
   ·exact wx w0b (uM x0 x1 (n0 + 1)) (Ai3 (n0 + 1)) Z2 36 [true, false] [pt hx0 hl0] [] 0 [] _ hC [pq (A5 hi0 hl0), pq h1] (sI h).symm
 ·have h := hnext0 _ hs0
  replace h := sI h
  subst h
  exact wr Z2 23 [] [] [] 0 [] hC []
theorem Bbm : EN 227 := en Tryz.func227
theorem A5l (x0 : List Int) (r : Bool) (h : A1k x0 = r) : CO 192 [.d (DS pI x0)] [] (.d (Bo r)) [] := by
 unfold A1k at h
 refine co 6 Tryz.func192 λ C hC => ?_
 subst h
 exact wr [0, 2] 25 [] [pl pI x0] [] 0 [] hC []
theorem A7h : EN 192 := en Tryz.func192
def Z9 : List Nat := [0, 1, 2, 4, 5, 6, 11, 16, 20]
theorem Bax (x0 : Aa) (x1 : Int) (r : Int) (h : La x0 x1 = r) : CO 152 [.agg (d29 x0), .d (I x1)] [] (.d (I r)) [] := by
 unfold La at h
 refine co 25 Tryz.func152 λ C hC => ?_
 rcases cB h with ⟨h1, h⟩ | ⟨h1, h⟩
 ·subst h
  exact wr Z9 32 [true] [pl Bu x0.Ac] [] 0 [] hC [pq h1]
 ·rcases cB h with ⟨h2, h⟩ | ⟨h2, h⟩
  ·subst h
   exact wr Z9 35 [false, true] [pl Bg x0.Ae] [] 0 [] hC [pq h1, pq h2]
  ·rcases cB h with ⟨h3, h⟩ | ⟨h3, h⟩
   ·subst h
    exact wr Z9 38 [false, false, true] [] [] 0 [] hC [pq h1, pq h2, pq h3]
   ·rcases cB h with ⟨h4, h⟩ | ⟨h4, h⟩
    ·subst h
     exact wr Z9 41 [false, false, false, true] [pl q65 x0.Ad] [] 0 [] hC [pq h1, pq h2, pq h3, pq h4]
    ·subst h
     exact wr Z9 43 [false, false, false, false] [] [] 0 [] hC [pq h1, pq h2, pq h3, pq h4]
theorem Bce : EN 152 := en Tryz.func152
theorem K3 (x0 : Int) (r : Bool) (h : Y2 x0 = r) : CO 199 [.d (I x0)] [] (.d (Bo r)) [] := by
 unfold Y2 at h
 refine co 6 Tryz.func199 λ C hC => ?_
 subst h
 exact wr [0, 2] 25 [] [] [] 0 [] hC []
theorem K5 : EN 199 := en Tryz.func199
def Z8 : List Nat := [0, 2, 3, 5, 6, 7, 8, 9, 14]
def vA (x0 : List Int) (n0 : Nat) (z0 : Unit) : St := [(2, dI 0), (3, dI 0), (6, .d (DS pI x0)), (7, dI (ln x0)), (8, dI (cnt 0 n0))]
def Ajh  (n0 : Nat) (z0 : Unit) : List Res := []
def Anc  (z0 : Unit) : St := [(2, dI 0), (3, dI 0)]
def Ao4  (z0 : Unit) : List Res := []
theorem Baw (x0 : List Int) (r : Int) (h : zQ x0 = some r) : CO 153 [.d (DS pI x0)] [] (.d (I r)) [] := by
 unfold zQ at h
 refine co 18 Tryz.func153 λ C hC => ?_
 refine ws Z8 28 [] [pl pI x0] [] 0 [] (vA x0 0 ()) (Ajh 0 ()) hC [] ?_
 obtain ⟨w0, hm0, hret0, hnext0⟩ := Ap h
 clear h
 refine wc w0 (Anc) (Ao4) ?_ λ z0 hs0 => ?_
 ·refine wb ?_
  refine Bp 6 rfl λ hl0 => ?_
  refine wl (vA x0) (Ajh) hm0 (λ z0 hn0 => ?_) λ n0 a0 z0 w0b hi0 hx0 h hb0 hr0 => ?_
  ·clear hm0
   exact wx w0 (Anc) (Ao4) Z8 26 [false] [] [] 0 [] _ hC [pq (A7 hl0)] hn0
  ·unfold Wk at h
   rcases cB h with ⟨h1, h⟩ | ⟨h1, h⟩
   ·have hq := hret0 _ (hr0 _ (sI h).symm)
    replace hq := sI hq
    subst hq
    exact wr Z8 35 [true, true] [pt hx0 hl0] [] 0 [] hC [pq (A5 hi0 hl0), pq h1]
   ·exact wx w0b (vA x0 (n0 + 1)) (Ajh (n0 + 1)) Z8 36 [true, false] [pt hx0 hl0] [] 0 [] _ hC [pq (A5 hi0 hl0), pq h1] (sI h).symm
 ·have h := hnext0 _ hs0
  replace h := sI h
  subst h
  exact wr Z8 23 [] [] [] 0 [] hC []
theorem Bcd : EN 153 := en Tryz.func153
def jB : List Nat := [0, 1, 2, 3, 4, 6, 7, 8, 9, 11, 12, 13, 14, 33]
def Vd (x0 : Aa) (x2 : Int) (n0 : Nat) (z0 : Int) : St := [(2, dI x2), (4, dO 0 0), (6, dI 0), (7, dI z0), (11, .d (DS Bg x0.Ae)), (12, dI (ln x0.Ae)), (13, dI (cnt 0 n0))]
def qM (x1 : Ab) (n0 : Nat) (z0 : Int) : List Res := [.box 36 (d36 x1)]
def Anv  (z0 : Int) : St := [(6, dI 0), (7, dI z0)]
def Apn  (z0 : Int) : List Res := []
theorem Bbe (x0 : Aa) (x1 : Ab) (x2 : Int) (r : Int) (h : Alx x0 x1 x2 = some r) : CO 100 [.agg (d29 x0), .agg (d36 x1), .d (I x2)] [] (.d (I r)) [] := by
 unfold Alx at h
 refine co 38 Tryz.func100 λ C hC => ?_
 refine ws jB 28 [] [pl Bg x0.Ae] [] 0 [1] (Vd x0 x2 0 0) (qM x1 0 0) hC [] ?_
 obtain ⟨w0, hm0, hret0, hnext0⟩ := Ap h
 clear h
 refine wc w0 (Anv) (Apn) ?_ λ z0 hs0 => ?_
 ·refine wb ?_
  refine Bp 11 rfl λ hl0 => ?_
  refine wl (Vd x0 x2) (qM x1) hm0 (λ z0 hn0 => ?_) λ n0 a0 z0 w0b hi0 hx0 h hb0 hr0 => ?_
  ·clear hm0
   exact wx w0 (Anv) (Apn) jB 26 [false] [] [] 0 [] _ hC [pq (A7 hl0)] hn0
  ·unfold Aak at h
   obtain ⟨y1, h2, h⟩ := Av h
   rcases cB h with ⟨h3, h⟩ | ⟨h3, h⟩
   ·exact wx w0b (Vd x0 x2 (n0 + 1)) (qM x1 (n0 + 1)) jB 36 [true, true] [pt hx0 hl0, pR pB h2] [] 0 [0] _ hC [pq (A5 hi0 hl0), pq h3] (sI h).symm
   ·exact wx w0b (Vd x0 x2 (n0 + 1)) (qM x1 (n0 + 1)) jB 36 [true, false] [pt hx0 hl0, pR pB h2] [] 0 [0] _ hC [pq (A5 hi0 hl0), pq h3] (sI h).symm
 ·have h := hnext0 _ hs0
  replace h := sI h
  subst h
  exact wr jB 23 [] [] [] 0 [] hC []
theorem Bcv : EN 100 := en Tryz.func100
theorem Bap (x0 : List Bool) (r : List Bool) (h : As9 x0 = some r) : CO 166 [.d (.p (.s (x0.map pB)))] [] (.d (.os 0)) [v2_ r] := by
 unfold As9 at h
 refine co 8 Tryz.func166 λ C hC => ?_
 refine ws [0, 4] 40 [] [] [] 0 [] [(0, .d (.p (.s (x0.map pB)))), (4, .d (.nq (x0.map pB)))] [] hC [] ?_
 refine V9 4 (by kernel_rfl) (by kernel_rfl) rfl (λ hn => ?_) ?_
 ·have hx : x0 = [] := by cases x0 with | nil => rfl | cons => cases hn
  subst hx
  have hr : r = [] := by simpa [appI] using h.symm
  subst hr
  exact wr [2] 40 [] [] [.own 2 4 1] 0 [0] hC []
 ·exact wr [2] 40 [] [⟨.own, trivial⟩, ⟨.app [] (x0.map pB) 1 ((([] : List (List Pd)).length + (x0.map pB).length) * (1 + 1)) (r.map pB), H9 (l := []) pB 1 (λ _ => rfl) h⟩] [] 0 [1] hC []
theorem Bb6 : EN 166 := en Tryz.func166
theorem Bao (x0 : List Ah) (r : List Ah) (h : As8 x0 = some r) : CO 167 [.d (.p (.s (x0.map A_)))] [] (.d (.os 0)) [v4_ r] := by
 unfold As8 at h
 refine co 8 Tryz.func167 λ C hC => ?_
 refine ws [0, 4] 40 [] [] [] 0 [] [(0, .d (.p (.s (x0.map A_)))), (4, .d (.nq (x0.map A_)))] [] hC [] ?_
 refine V9 4 (by kernel_rfl) (by kernel_rfl) rfl (λ hn => ?_) ?_
 ·have hx : x0 = [] := by cases x0 with | nil => rfl | cons => cases hn
  subst hx
  have hr : r = [] := by simpa [appI] using h.symm
  subst hr
  exact wr [2] 40 [] [] [.own 2 120 4] 0 [0] hC []
 ·exact wr [2] 40 [] [⟨.own, trivial⟩, ⟨.app [] (x0.map A_) 4 ((([] : List (List Pd)).length + (x0.map A_).length) * (32 + 1)) (r.map A_), H9 (l := []) A_ 4 (λ _ => rfl) h⟩] [] 0 [1] hC []
theorem Bb5 : EN 167 := en Tryz.func167
theorem A5y (x0 : List Int) (r : List Int) (h : Y3 x0 = some r) : CO 168 [.d (.p (.s (x0.map pI)))] [] (.d (.os 0)) [v0_ r] := by
 unfold Y3 at h
 refine co 8 Tryz.func168 λ C hC => ?_
 refine ws [0, 4] 40 [] [] [] 0 [] [(0, .d (.p (.s (x0.map pI)))), (4, .d (.nq (x0.map pI)))] [] hC [] ?_
 refine V9 4 (by kernel_rfl) (by kernel_rfl) rfl (λ hn => ?_) ?_
 ·have hx : x0 = [] := by cases x0 with | nil => rfl | cons => cases hn
  subst hx
  have hr : r = [] := by simpa [appI] using h.symm
  subst hr
  exact wr [2] 40 [] [] [.own 2 3 1] 0 [0] hC []
 ·exact wr [2] 40 [] [⟨.own, trivial⟩, ⟨.app [] (x0.map pI) 1 ((([] : List (List Pd)).length + (x0.map pI).length) * (8 + 1)) (r.map pI), H9 (l := []) pI 1 (λ _ => rfl) h⟩] [] 0 [1] hC []
theorem A7u : EN 168 := en Tryz.func168
theorem Ban (x0 : List Al) (r : List Al) (h : As7 x0 = some r) : CO 169 [.d (.p (.s (x0.map q86)))] [] (.d (.os 0)) [v3_ r] := by
 unfold As7 at h
 refine co 8 Tryz.func169 λ C hC => ?_
 refine ws [0, 4] 40 [] [] [] 0 [] [(0, .d (.p (.s (x0.map q86)))), (4, .d (.nq (x0.map q86)))] [] hC [] ?_
 refine V9 4 (by kernel_rfl) (by kernel_rfl) rfl (λ hn => ?_) ?_
 ·have hx : x0 = [] := by cases x0 with | nil => rfl | cons => cases hn
  subst hx
  have hr : r = [] := by simpa [appI] using h.symm
  subst hr
  exact wr [2] 40 [] [] [.own 2 86 2] 0 [0] hC []
 ·exact wr [2] 40 [] [⟨.own, trivial⟩, ⟨.app [] (x0.map q86) 2 ((([] : List (List Pd)).length + (x0.map q86).length) * (16 + 1)) (r.map q86), H9 (l := []) q86 2 (λ _ => rfl) h⟩] [] 0 [1] hC []
theorem Bb4 : EN 169 := en Tryz.func169
theorem A6e (x0 : List A3) (r : List A3) (h : Aln x0 = some r) : CO 123 [.d (.p (.s (x0.map Ce)))] [] (.d (.os 0)) [v5_ r] := by
 unfold Aln at h
 refine co 8 Tryz.func123 λ C hC => ?_
 refine ws [0, 4] 40 [] [] [] 0 [] [(0, .d (.p (.s (x0.map Ce)))), (4, .d (.nq (x0.map Ce)))] [] hC [] ?_
 refine V9 4 (by kernel_rfl) (by kernel_rfl) rfl (λ hn => ?_) ?_
 ·have hx : x0 = [] := by cases x0 with | nil => rfl | cons => cases hn
  subst hx
  have hr : r = [] := by simpa [appI] using h.symm
  subst hr
  exact wr [2] 40 [] [] [.own 2 130 2] 0 [0] hC []
 ·exact wr [2] 40 [] [⟨.own, trivial⟩, ⟨.app [] (x0.map Ce) 2 ((([] : List (List Pd)).length + (x0.map Ce).length) * (16 + 1)) (r.map Ce), H9 (l := []) Ce 2 (λ _ => rfl) h⟩] [] 0 [1] hC []
theorem A8a : EN 123 := en Tryz.func123
theorem k84 (x0 : List Bl) (r : List Bl) (h : F84 x0 = some r) : CO 84 [.d (.p (.s (x0.map q51)))] [] (.d (.os 0)) [v1_ r] := by
 unfold F84 at h
 refine co 8 Tryz.func84 λ C hC => ?_
 refine ws [0, 4] 40 [] [] [] 0 [] [(0, .d (.p (.s (x0.map q51)))), (4, .d (.nq (x0.map q51)))] [] hC [] ?_
 refine V9 4 (by kernel_rfl) (by kernel_rfl) rfl (λ hn => ?_) ?_
 ·have hx : x0 = [] := by cases x0 with | nil => rfl | cons => cases hn
  subst hx
  have hr : r = [] := by simpa [appI] using h.symm
  subst hr
  exact wr [2] 40 [] [] [.own 2 51 5] 0 [0] hC []
 ·exact wr [2] 40 [] [⟨.own, trivial⟩, ⟨.app [] (x0.map q51) 5 ((([] : List (List Pd)).length + (x0.map q51).length) * (40 + 1)) (r.map q51), H9 (l := []) q51 5 (λ _ => rfl) h⟩] [] 0 [1] hC []
theorem e84 : EN 84 := en Tryz.func84
def Z7 : List Nat := [0, 1, 2, 3, 6, 7, 8, 9, 14, 19, 23]
theorem Xs (x0 : Aa) (x1 : Int) (x2 : Int) (r : Bool) (h : J8 x0 x1 x2 = r) : CO 181 [.agg (d29 x0), .d (I x1), .d (I x2)] [] (.d (Bo r)) [] := by
 unfold J8 at h
 refine co 35 Tryz.func181 λ C hC => ?_
 rcases cB h with ⟨h1, h⟩ | ⟨h1, h⟩
 ·subst h
  exact wr Z7 36 [true] [pl Bu x0.Ac] [] 0 [] hC [pq h1]
 ·rcases cB h with ⟨h2, h⟩ | ⟨h2, h⟩
  ·subst h
   exact wr Z7 39 [false, true] [pl Bg x0.Ae] [] 0 [] hC [pq h1, pq h2]
  ·rcases cB h with ⟨h3, h⟩ | ⟨h3, h⟩
   ·subst h
    exact wr Z7 42 [false, false, true] [] [] 0 [] hC [pq h1, pq h2, pq h3]
   ·rcases cB h with ⟨h4, h⟩ | ⟨h4, h⟩
    ·subst h
     exact wr Z7 45 [false, false, false, true] [pl q65 x0.Ad] [] 0 [] hC [pq h1, pq h2, pq h3, pq h4]
    ·subst h
     exact wr Z7 45 [false, false, false, false] [] [] 0 [] hC [pq h1, pq h2, pq h3, pq h4]
theorem Xy : EN 181 := en Tryz.func181
def Z5 : List Nat := [0, 1, 3, 4, 5, 7, 8, 9, 16]
def uP (x0 : List Al) (n0 : Nat) (z0 : Unit) : St := [(0, .d (DS q86 x0)), (3, dO 0 0), (4, dI 0), (7, dI (ln x0)), (8, dI (cnt 0 n0))]
def Ai6 (x1 : Al) (n0 : Nat) (z0 : Unit) : List Res := [.box 86 (d86 x1)]
def Am0  (z0 : Unit) : St := [(4, dI 0)]
def Aos  (z0 : Unit) : List Res := []
theorem Bae (x0 : List Al) (x1 : Al) (r : Int) (h : As2 x0 x1 = some r) : CO 200 [.d (DS q86 x0), .agg (d86 x1)] [] (.d (I r)) [] := by
 unfold As2 at h
 refine co 19 Tryz.func200 λ C hC => ?_
 refine ws Z5 26 [] [pl q86 x0] [] 0 [0] (uP x0 0 ()) (Ai6 x1 0 ()) hC [] ?_
 obtain ⟨w0, hm0, hret0, hnext0⟩ := Ap h
 clear h
 refine wc w0 (Am0) (Aos) ?_ λ z0 hs0 => ?_
 ·refine wb ?_
  refine Bp 0 rfl λ hl0 => ?_
  refine wl (uP x0) (Ai6 x1) hm0 (λ z0 hn0 => ?_) λ n0 a0 z0 w0b hi0 hx0 h hb0 hr0 => ?_
  ·clear hm0
   exact wx w0 (Am0) (Aos) Z5 26 [false] [] [] 0 [] _ hC [pq (A7 hl0)] hn0
  ·unfold Apr at h
   rcases cB h with ⟨h1, h⟩ | ⟨h1, h⟩
   ·have hq := hret0 _ (hr0 _ (sI h).symm)
    replace hq := sI hq
    subst hq
    exact wr Z5 35 [true, true] [pt hx0 hl0] [] 0 [] hC [pq (A5 hi0 hl0), pq h1]
   ·exact wx w0b (uP x0 (n0 + 1)) (Ai6 x1 (n0 + 1)) Z5 36 [true, false] [pt hx0 hl0] [] 0 [0] _ hC [pq (A5 hi0 hl0), pq h1] (sI h).symm
 ·have h := hnext0 _ hs0
  replace h := sI h
  subst h
  exact wr Z5 23 [] [] [] 0 [] hC []
theorem Bbv : EN 200 := en Tryz.func200
def Z6 : List Nat := [0, 1, 2, 3, 4, 5, 8, 9, 10, 11, 13, 14, 15, 16, 36]
def uQ (x0 : Aa) (x2 : Int) (x3 : Int) (n0 : Nat) (z0 : Unit) : St := [(2, dI x2), (3, dI x3), (5, dO 0 0), (8, dI 0), (9, dB false), (13, .d (DS Bg x0.Ae)), (14, dI (ln x0.Ae)), (15, dI (cnt 0 n0))]
def Ai7 (x1 : Ab) (n0 : Nat) (z0 : Unit) : List Res := [.box 36 (d36 x1)]
def Am1  (z0 : Unit) : St := [(8, dI 0), (9, dB false)]
def Aot  (z0 : Unit) : List Res := []
theorem A5k (x0 : Aa) (x1 : Ab) (x2 : Int) (x3 : Int) (r : Int × Bool) (h : zI x0 x1 x2 x3 = some r) : CO 195 [.agg (d29 x0), .agg (d36 x1), .d (I x2), .d (I x3)] [] (.tup [.d (I r.1), .d (Bo r.2)]) [] := by
 unfold zI at h
 refine co 40 Tryz.func195 λ C hC => ?_
 refine ws Z6 26 [] [pl Bg x0.Ae] [] 0 [1] (uQ x0 x2 x3 0 ()) (Ai7 x1 0 ()) hC [] ?_
 obtain ⟨w0, hm0, hret0, hnext0⟩ := Ap h
 clear h
 refine wc w0 (Am1) (Aot) ?_ λ z0 hs0 => ?_
 ·refine wb ?_
  refine Bp 13 rfl λ hl0 => ?_
  refine wl (uQ x0 x2 x3) (Ai7 x1) hm0 (λ z0 hn0 => ?_) λ n0 a0 z0 w0b hi0 hx0 h hb0 hr0 => ?_
  ·clear hm0
   exact wx w0 (Am1) (Aot) Z6 26 [false] [] [] 0 [] _ hC [pq (A7 hl0)] hn0
  ·unfold Wi at h
   obtain ⟨y1, h2, h⟩ := Av h
   rcases cB h with ⟨h3, h⟩ | ⟨h3, h⟩
   ·have hq := hret0 _ (hr0 _ (sI h).symm)
    replace hq := sI hq
    subst hq
    exact wr Z6 35 [true, true] [pt hx0 hl0, pR pB h2] [] 0 [] hC [pq (A5 hi0 hl0), pq h3]
   ·exact wx w0b (uQ x0 x2 x3 (n0 + 1)) (Ai7 x1 (n0 + 1)) Z6 36 [true, false] [pt hx0 hl0, pR pB h2] [] 0 [0] _ hC [pq (A5 hi0 hl0), pq h3] (sI h).symm
 ·have h := hnext0 _ hs0
  replace h := sI h
  subst h
  exact wr Z6 23 [] [] [] 0 [] hC []
theorem A7g : EN 195 := en Tryz.func195
def Jd : List Nat := [0, 1, 2, 3, 4, 5, 6, 7, 8, 9, 14, 15, 16, 24, 25, 26, 28, 29, 30, 31, 44]
def vC (y1 : List Int) (n0 : Nat) (z0 : (List Int)) : St := [(2, dO 0 0), (3, dO 1 0), (4, .d (DS pI [])), (5, dS 2), (14, dI (ln y1)), (15, dI (cnt 0 n0))]
def Ajj (x0 : Aa) (x1 : Ab) (n0 : Nat) (z0 : (List Int)) : List Res := [.box 29 (d29 x0), .box 36 (d36 x1), v0_ z0]
def Anf  (z0 : (List Int)) : St := [(2, dO 0 0), (3, dO 1 0), (4, .d (DS pI [])), (5, dS 2)]
def Ao7 (x0 : Aa) (x1 : Ab) (z0 : (List Int)) : List Res := [.box 29 (d29 x0), .box 36 (d36 x1), v0_ z0]
def vB (z0 : (List Int)) (n1 : Nat) (z1 : (List Int)) : St := [(2, dO 0 0), (3, dO 1 0), (4, .d (DS pI [])), (5, dS 2), (24, dI (ln z0)), (25, dI (cnt 0 n1))]
def Aji (x0 : Aa) (x1 : Ab) (n1 : Nat) (z1 : (List Int)) : List Res := [.box 29 (d29 x0), .box 36 (d36 x1), v0_ z1]
def Ane  (z1 : (List Int)) : St := [(4, .d (DS pI [])), (5, dS 0)]
def Ao6  (z1 : (List Int)) : List Res := [v0_ z1]
def U_ (x0 : Aa) (z0 : (List Int)) (n1 : Nat) (n2 : Nat) (z2 : (List Int)) : St := [(2, dO 0 0), (3, dO 1 0), (4, .d (DS pI [])), (5, dS 2), (24, dI (ln z0)), (25, dI (cnt 0 n1)), (28, .d (DS Bg x0.Ae)), (29, dI (ln x0.Ae)), (30, dI (cnt 0 n2))]
def qI (x0 : Aa) (x1 : Ab) (n2 : Nat) (z2 : (List Int)) : List Res := [.box 29 (d29 x0), .box 36 (d36 x1), v0_ z2]
def And (z0 : (List Int)) (n1 : Nat) (z2 : (List Int)) : St := [(2, dO 0 0), (3, dO 1 0), (4, .d (DS pI [])), (5, dS 2), (24, dI (ln z0)), (25, dI (cnt 0 n1))]
def Ao5 (x0 : Aa) (x1 : Ab) (z2 : (List Int)) : List Res := [.box 29 (d29 x0), .box 36 (d36 x1), v0_ z2]
theorem A56 (x0 : Aa) (x1 : Ab) (r : (List Int)) (h : zT x0 x1 = some r) : CO 142 [.agg (d29 x0), .agg (d36 x1)] [] (.d (.os 0)) [v0_ r] := by
 unfold zT at h
 refine co 69 Tryz.func142 λ C hC => ?_
 obtain ⟨y1, h2, h⟩ := Av h
 refine ws Jd 28 [] [⟨.room (x0.Aq * (8 + 1)) (List.replicate (Int.toNat x0.Aq) (pI 0)) (y1.map pI), Hh h2⟩, pl pI y1] [] 0 n3_ (vC y1 0 y1) (Ajj x0 x1 0 y1) hC [] ?_
 obtain ⟨w0, hm0, hret0, hnext0⟩ := Ap h
 clear h
 refine wc w0 (Anf) (Ao7 x0 x1) ?_ λ z0 hs0 => ?_
 ·refine wb ?_
  refine B3 5 2 rfl rfl λ hl0 => ?_
  refine wl (vC y1) (Ajj x0 x1) hm0 (λ z0 hn0 => ?_) λ n0 a0 z0 w0b hi0 hx0 h hb0 hr0 => ?_
  ·clear hm0
   exact wx w0 (Anf) (Ao7 x0 x1) Jd 26 [false] [] [] 0 n3_ _ hC [pq (A7 hl0)] hn0
  ·unfold zS at h
   obtain ⟨y3, h4, y5, h6, h⟩ := A8 h
   exact wx w0b (vC y1 (n0 + 1)) (Ajj x0 x1 (n0 + 1)) Jd 33 [true] [pr pI h4, pu pI h4 h6] [] 0 n3_ _ hC [pq (A5 hi0 hl0)] (sI h).symm
 ·have h := hnext0 _ hs0
  refine ws Jd 24 [] [pl pI z0] [] 0 n3_ (vB z0 0 z0) (Aji x0 x1 0 z0) hC [] ?_
  obtain ⟨w1, hm1, hret1, hnext1⟩ := Ap h
  clear h
  refine wc w1 (Ane) (Ao6) ?_ λ z1 hs1 => ?_
  ·refine wb ?_
   refine B3 5 2 rfl rfl λ hl1 => ?_
   refine wl (vB z0) (Aji x0 x1) hm1 (λ z1 hn1 => ?_) λ n1 a1 z1 w1b hi1 hx1 h hb1 hr1 => ?_
   ·clear hm1
    exact wx w1 (Ane) (Ao6) Jd 26 [false] [] [] 0 [2] _ hC [pq (A7 hl1)] hn1
   ·unfold zR at h
    refine ws Jd 30 [true] [pl Bg x0.Ae] [] 0 n3_ (U_ x0 z0 n1 0 z1) (qI x0 x1 0 z1) hC [pq (A5 hi1 hl1)] ?_
    obtain ⟨w2, hm2, hret2, hnext2⟩ := Ap h
    clear h
    refine wc w2 (And z0 n1) (Ao5 x0 x1) ?_ λ z2 hs2 => ?_
    ·refine wb ?_
     refine Bp 28 rfl λ hl2 => ?_
     refine wl (U_ x0 z0 n1) (qI x0 x1) hm2 (λ z2 hn2 => ?_) λ n2 a2 z2 w2b hi2 hx2 h hb2 hr2 => ?_
     ·clear hm2
      exact wx w2 (And z0 n1) (Ao5 x0 x1) Jd 26 [false] [] [] 0 n3_ _ hC [pq (A7 hl2)] hn2
     ·unfold Wl at h
      obtain ⟨y7, h8, h⟩ := Av h
      rcases cB h with ⟨h9, h⟩ | ⟨h9, h⟩
      ·obtain ⟨y10, h11, y12, h13, y14, h15, h⟩ := By h
       obtain ⟨y16, h17, y18, h19, h⟩ := A8 h
       exact wx w2b (U_ x0 z0 n1 (n2 + 1)) (qI x0 x1 (n2 + 1)) Jd 38 [true, true] [pt hx2 hl2, pR pB h8, pr pI h11, pn pI h11, pr pI h13, pn pI h13, pr pI h11, pu pI h11 h15, pr pI h17, pu pI h17 h19] [] 0 n3_ _ hC [pq (A5 hi2 hl2), pq h9] (sI h).symm
      ·exact wx w2b (U_ x0 z0 n1 (n2 + 1)) (qI x0 x1 (n2 + 1)) Jd 36 [true, false] [pt hx2 hl2, pR pB h8] [] 0 n3_ _ hC [pq (A5 hi2 hl2), pq h9] (sI h).symm
    ·have h := hnext2 _ hs2
     exact wx w1b (vB z0 (n1 + 1)) (Aji x0 x1 (n1 + 1)) Jd 23 [] [] [] 0 n3_ _ hC [] (sI h).symm
  ·have h := hnext1 _ hs1
   replace h := sI h
   subst h
   exact wr Jd 23 [] [] [] 0 [0] hC []
theorem A72 : EN 142 := en Tryz.func142
theorem A55 (x0 : Af) (r : Bool) (h : Atc x0 = r) : CO 146 [.agg (d84 x0)] [] (.d (Bo r)) [] := by
 unfold Atc at h
 refine co 7 Tryz.func146 λ C hC => ?_
 subst h
 exact wr n3_ 25 [] [pl pI x0.Aq] [] 0 [] hC []
theorem A71 : EN 146 := en Tryz.func146
theorem Ag5 (x0 : Int) (r : Int) (h : G8 x0 = r) : CO 229 [.d (I x0)] [] (.d (I r)) [] := by
 unfold G8 at h
 refine co 10 Tryz.func229 λ C hC => ?_
 rcases cB h with ⟨h1, h⟩ | ⟨h1, h⟩
 ·subst h
  exact wr [0, 2, 6] 32 [true] [⟨.nz 3600, Ox rfl⟩] [] 0 [] hC [pq h1]
 ·subst h
  exact wr [0, 2, 6] 32 [false] [⟨.nz 3600, Ox rfl⟩] [] 0 [] hC [pq h1]
theorem Ahz : EN 229 := en Tryz.func229
def Vx : List Nat := [0, 1, 2, 3, 5, 7, 8, 9, 10, 11]
def Sl (x1 : List Int) (n0 : Nat) (z0 : (List Ah)) : St := [(3, dO 4 0), (5, dO 5 0), (8, .d (DS pI x1)), (9, dI (ln x1)), (10, dI (cnt 0 n0))]
def Yu (x0 : Ab) (x2 : Ah) (n0 : Nat) (z0 : (List Ah)) : List Res := [v2_ x0.Ag, v4_ z0, v0_ x0.Ak, v3_ x0.Ao, .box 36 [.os 0, .os 1, .os 2, .os 3], .box 120 (Tr x2)]
def Abv  (z0 : (List Ah)) : St := []
def Adg (x0 : Ab) (z0 : (List Ah)) : List Res := [v2_ x0.Ag, v4_ z0, v0_ x0.Ak, v3_ x0.Ao]
theorem Ag8 (x0 : Ab) (x1 : List Int) (x2 : Ah) (r : (List Ah)) (h : Mz x0 x1 x2 = some r) : CO 117 [.agg [.os 0, .os 1, .os 2, .os 3], .d (DS pI x1), .agg (Tr x2)] (zp x0 []) (.tup []) [v2_ x0.Ag, v4_ r, v0_ x0.Ak, v3_ x0.Ao] := by
 unfold Mz at h
 refine co 29 Tryz.func117 λ C hC => ?_
 refine ws Vx 25 [] [pl pI x1] [] 4 n6_ (Sl x1 0 x0.Ac) (Yu x0 x2 0 x0.Ac) hC [] ?_
 obtain ⟨w0, hm0, hret0, hnext0⟩ := Ap h
 clear h
 refine wc w0 (Abv) (Adg x0) ?_ λ z0 hs0 => ?_
 ·refine wb ?_
  refine Bp 8 rfl λ hl0 => ?_
  refine wl (Sl x1) (Yu x0 x2) hm0 (λ z0 hn0 => ?_) λ n0 a0 z0 w0b hi0 hx0 h hb0 hr0 => ?_
  ·clear hm0
   exact wx w0 (Abv) (Adg x0) Vx 26 [false] [] [] 4 n4_ _ hC [pq (A7 hl0)] hn0
  ·unfold U4 at h
   obtain ⟨y1, h2, y3, h4, y5, h6, y7, h8, h⟩ := Cy h
   exact wx w0b (Sl x1 (n0 + 1)) (Yu x0 x2 (n0 + 1)) Vx 33 [true] [pt hx0 hl0, pr A_ h2, pu A_ h2 h4, pr A_ h6, pu A_ h6 h8] [] 4 n6_ _ hC [pq (A5 hi0 hl0)] (sI h).symm
 ·have h := hnext0 _ hs0
  replace h := sI h
  subst h
  exact wf Vx 20 [] [] [] 4 n4_ hC []
theorem Ah2 : EN 117 := en Tryz.func117
theorem A4w (x0 : Aj) (x1 : Int) (r : Bool) (h : qY x0 x1 = r) : CO 244 [.agg (Oc x0), .d (.ip [.v (.int .i64 x1)])] [] (.d (Bo r)) [] := by
 unfold qY at h
 refine co 13 Tryz.func244 λ C hC => ?_
 subst h
 exact wr n4_ 25 [] [] [] 0 [] hC []
theorem A6s : EN 244 := en Tryz.func244
theorem A5p (x0 : A2) (x1 : Int) (x2 : Int) (r : Int × A2) (h : Uv x0 x1 x2 = some r) : CO 187 [.d (.o 0 0), .d (I x1), .d (I x2)] (.box 186 (zb x0.Am [.os 1, .os 2, .os 3, .os 4, I x0.time]) :: zp x0.Au []) (.d (I r.1)) (.box 186 (zb r.2.Am [.os 1, .os 2, .os 3, .os 4, I r.2.time]) :: zp r.2.Au []) := by
 unfold Uv at h
 refine co 30 Tryz.func187 λ C hC => ?_
 obtain ⟨y1, h2, h⟩ := Av h
 rcases cB h with ⟨h3, h⟩ | ⟨h3, h⟩
 ·replace h := sI h
  subst h
  exact wr [0, 1, 2, 6, 21] 29 [true] [pR q65 h2] [] 5 n5_ hC [pq h3]
 ·obtain ⟨y4, h5, y6, h7, h⟩ := A8 h
  replace h := sI h
  subst h
  exact wr [0, 1, 2, 6, 21] 32 [false] [pR q65 h2, pr pI h5, pu pI h5 h7] [] 5 n5_ hC [pq h3]
theorem A7l : EN 187 := en Tryz.func187
theorem A45 (x0 : Al) (x1 : Al) (r : Int) (h : Rh x0 x1 = r) : CO 224 [.agg (d86 x0), .agg (d86 x1)] [] (.d (I r)) [] := by
 unfold Rh at h
 refine co 20 Tryz.func224 λ C hC => ?_
 rcases cB h with ⟨h1, h⟩ | ⟨h1, h⟩
 ·subst h
  exact wr [0, 1, 2, 3, 4, 9] 29 [true] [] [] 0 [] hC [pq h1]
 ·subst h
  exact wr [0, 1, 2, 3, 4, 9] 30 [false] [] [] 0 [] hC [pq h1]
theorem A61 : EN 224 := en Tryz.func224
def yA : List Nat := [0, 1, 2, 6, 7, 8, 9, 16, 22, 31, 68]
theorem A44 (x0 : List Al) (x1 : Int) (x2 : List Al) (r : (List Al)) (h : Pq x0 x1 x2 = some r) : CO 225 [.d (.os 0), .d (I x1), .d (DS q86 x2)] [v3_ x0] (.d (.os 1)) [.non, v3_ r] := by
 by_cases hh : ((ln x2) == 0) = false /\ (x1 == (ln x0)) = false
 ·unfold Pq at h
  exact A3u (enc := q86) (λ _ => rfl) hh.1 hh.2 h
 unfold Pq at h
 refine co 95 Tryz.func225 λ C hC => ?_
 obtain ⟨u2, h1, h⟩ := Av h
 rcases cB h with ⟨h3, h⟩ | ⟨h3, h⟩
 ·replace h := sI h
  subst h
  exact wr yA 33 [true] [⟨.bnd (x0.map q86).length x1 (((x0.map q86).length : Nat) : Int) (ln x0), Fs (by simp) (by simp) h1⟩, pl q86 x2] [.mv 0] 1 [0, 1] hC [pq h3]
 ·refine wn yA 37 [false] [⟨.bnd (x0.map q86).length x1 (((x0.map q86).length : Nat) : Int) (ln x0), Fs (by simp) (by simp) h1⟩, pl q86 x2, pl q86 x0] [] 1 [0] [0, 1, 2, 6, 7, 8, 22] hC [pq h3] ?_
  rcases cB h with ⟨h4, h⟩ | ⟨h4, h⟩
  ·obtain ⟨y5, h6, h⟩ := Av h
   replace h := sI h
   subst h
   exact wr yA 24 [true] [pa q86 2 h6] [] 1 [0, 1] hC [pq h4]
  ·exact absurd ⟨h3, h4⟩ hh
theorem A60 : EN 225 := en Tryz.func225
theorem A43 (x0 : List Al) (x1 : Int) (x2 : Int) (r : (List Al)) (h : T_ x0 x1 x2 = some r) : CO 226 [.d (.os 0), .d (I x1), .d (I x2)] [.sl 86 2 (x0.map q86)] (.d (.os 1)) [.non, .sl 86 2 (r.map q86)] := by
 unfold T_ at h
 refine co 33 Tryz.func226 λ C hC => ?_
 obtain ⟨u2, h1, h⟩ := Av h
 rcases cB h with ⟨h3, h⟩ | ⟨h3, h⟩
 ·replace h := sI h
  subst h
  exact wr [0, 1, 2, 6, 7, 16] 31 [true] [pl q86 x0, ⟨.bnd3 (x0.map q86).length x1 x2 (ln x0), Aim (by simp) h1⟩] [.mv 0] 1 [0, 1] hC [pq h3]
 ·obtain ⟨u5, h4, u7, h6, y8, h9, u11, h10, h⟩ := Cy h
  replace h := sI h
  subst h
  (rw [List.map_take]; exact qF (bs := [((x1 == x2), false)]) Il [0, 1, 2, 6, 7, 16] 38 [false] [.len (ln (x0.map q86)) (ln x0), .bnd3 (x0.map q86).length x1 x2 (ln x0), .len (ln (x0.map q86)) (ln x0), .bnd (x0.map q86).length 0 x1 x1, .bnd (x0.map q86).length x2 (((x0.map q86).length : Nat) : Int) (ln x0), .appP (x0.map q86) (((x0.map q86).drop (Int.toNat x2)).take ((Int.toNat (ln x0)) - (Int.toNat x2))) 2 ((Int.toNat x1) - 0) (((Int.toNat x1) - 0) + ((x0.drop (Int.toNat x2)).take ((Int.toNat (ln x0)) - (Int.toNat x2))).length) ((x0.map q86).take ((Int.toNat x1) - 0) ++ ((((x0.map q86).drop (Int.toNat x2)).take ((Int.toNat (ln x0)) - (Int.toNat x2))) ++ (x0.map q86).drop (((Int.toNat x1) - 0) + (((x0.map q86).drop (Int.toNat x2)).take ((Int.toNat (ln x0)) - (Int.toNat x2))).length))) (y8.map q86), .len (((((Int.toNat x1) - 0) + ((x0.drop (Int.toNat x2)).take ((Int.toNat (ln x0)) - (Int.toNat x2))).length) : Nat) : Int) (((((Int.toNat x1) - 0) + ((x0.drop (Int.toNat x2)).take ((Int.toNat (ln x0)) - (Int.toNat x2))).length) : Nat) : Int), .bnd ((y8.map q86).length - 0) (((((Int.toNat x1) - 0) + ((x0.drop (Int.toNat x2)).take ((Int.toNat (ln x0)) - (Int.toNat x2))).length) : Nat) : Int) (ln x0) (ln x0), .eqr ((y8.map q86).take (0 + (Int.toNat (((((Int.toNat x1) - 0) + ((x0.drop (Int.toNat x2)).take ((Int.toNat (ln x0)) - (Int.toNat x2))).length) : Nat) : Int))) ++ (List.replicate ((Int.toNat (ln x0)) - (Int.toNat (((((Int.toNat x1) - 0) + ((x0.drop (Int.toNat x2)).take ((Int.toNat (ln x0)) - (Int.toNat x2))).length) : Nat) : Int))) (q86 (⟨0, 0⟩ : Al)) ++ (y8.map q86).drop ((0 + (Int.toNat (((((Int.toNat x1) - 0) + ((x0.drop (Int.toNat x2)).take ((Int.toNat (ln x0)) - (Int.toNat x2))).length) : Nat) : Int))) + ((Int.toNat (ln x0)) - (Int.toNat (((((Int.toNat x1) - 0) + ((x0.drop (Int.toNat x2)).take ((Int.toNat (ln x0)) - (Int.toNat x2))).length) : Nat) : Int)))))) ((Gn y8 (0 + (Int.toNat (((((Int.toNat x1) - 0) + ((x0.drop (Int.toNat x2)).take ((Int.toNat (ln x0)) - (Int.toNat x2))).length) : Nat) : Int))) ((Int.toNat (ln x0)) - (Int.toNat (((((Int.toNat x1) - 0) + ((x0.drop (Int.toNat x2)).take ((Int.toNat (ln x0)) - (Int.toNat x2))).length) : Nat) : Int))) (⟨0, 0⟩ : Al)).map q86)] [.trunc 6] [.tmp 6] 1 [0, 1] rfl hC ⟨Vy _ _, Aim (by simp) h1, Vy _ _, Fs (by simp) rfl h4, Fs (by simp) (by simp) h6, A03 q86 2 (λ _ => rfl) (Agj _ _ _ _) h9, rfl, Fs (by simp) rfl h10, yS q86 rfl, trivial⟩ ⟨h3, trivial⟩ (by kernel_rfl))
theorem A6z : EN 226 := en Tryz.func226
theorem Avn (x0 : A4) (x1 : An) (x2 : Int) (r : A4) (h : Pw x0 x1 x2 = some r) : CO 124 [.d (.o 0 0), .agg (d49 x1), .d (I x2)] (.box 100 (I x0.Ay.Time :: .os 1 :: .os 2 :: .os 3 :: .os 4 :: .os 5 :: .os 6 :: zb x0.Am [.os 7, .os 8]) :: zp x0.Ay.Power [v5_ x0.Ay.A6, v1_ x0.Ay.Bc, v1_ x0.events, v8_ x0.states]) (.tup []) (.box 100 (I r.Ay.Time :: .os 1 :: .os 2 :: .os 3 :: .os 4 :: .os 5 :: .os 6 :: zb r.Am [.os 9, .os 8]) :: zp r.Ay.Power [v5_ r.Ay.A6, v1_ r.Ay.Bc, .non, v8_ r.states, v1_ r.events]) := by
 unfold Pw at h
 refine co 23 Tryz.func124 λ C hC => ?_
 obtain ⟨y1, h2, h⟩ := Av h
 replace h := sI h
 subst h
 exact wf [0, 1, 2, 4] 23 [] [pa q51 5 h2] [] 9 [0, 1, 2, 3, 4, 5, 6, 7, 8, 10] hC []
theorem Awg : EN 124 := en Tryz.func124
theorem Ag4 (x0 : Ax) (x1 : Int) (r : Ax) (h : Mv x0 x1 = some r) : CO 230 [.d (.o 0 0), .d (I x1)] (.box 235 (zb x0.Am [.os 1, .os 2, .os 3, .os 4, .os 5]) :: zp x0.Au [v6_ x0.acts]) (.tup []) (.box 235 (zb r.Am [.os 1, .os 2, .os 3, .os 4, .os 6]) :: zp r.Au [.non, v6_ r.acts]) := by
 unfold Mv at h
 refine co 22 Tryz.func230 λ C hC => ?_
 obtain ⟨y1, h2, y3, h4, y5, h6, h⟩ := By h
 replace h := sI h
 subst h
 exact wf [0, 1] 23 [] [pr pB h2, pu pB h2 h4, pa q49 3 h6] [] 6 n7_ hC []
theorem Ahy : EN 230 := en Tryz.func230
theorem A4z (x0 : Aj) (x1 : Int) (r : Bool) (h : T8 x0 x1 = r) : CO 235 [.agg (Oc x0), .d (.ip [.v (.int .i64 x1)])] [] (.d (Bo r)) [] := by
 unfold T8 at h
 refine co 13 Tryz.func235 λ C hC => ?_
 subst h
 exact wr n4_ 25 [] [] [] 0 [] hC []
theorem A6v : EN 235 := en Tryz.func235
def Vw : List Nat := [0, 1, 4, 5, 10, 12, 13, 14, 24]
def vJ (x0 : List Bool) (x1 : List Bool) (n0 : Nat) (z0 : Unit) : St := [(0, .d (DS pB x0)), (1, .d (DS pB x1)), (4, dB false), (12, dI (ln x0)), (13, dI (cnt 0 n0))]
def Ajq  (n0 : Nat) (z0 : Unit) : List Res := []
def Anq  (z0 : Unit) : St := [(4, dB false)]
def Api  (z0 : Unit) : List Res := []
theorem Ba9 (x0 : List Bool) (x1 : List Bool) (r : Bool) (h : Als x0 x1 = some r) : CO 118 [.d (DS pB x0), .d (DS pB x1)] [] (.d (Bo r)) [] := by
 unfold Als at h
 refine co 26 Tryz.func118 λ C hC => ?_
 rcases cB h with ⟨h1, h⟩ | ⟨h1, h⟩
 ·replace h := sI h
  subst h
  exact wr Vw 29 [true] [pl pB x0, pl pB x1] [] 0 [] hC [pq h1]
 ·refine ws Vw 31 [false] [pl pB x0, pl pB x1, pl pB x0] [] 0 [] (vJ x0 x1 0 ()) (Ajq 0 ()) hC [pq h1] ?_
  obtain ⟨w0, hm0, hret0, hnext0⟩ := Ap h
  clear h
  refine wc w0 (Anq) (Api) ?_ λ z0 hs0 => ?_
  ·refine wb ?_
   refine Bp 0 rfl λ hl0 => ?_
   refine wl (vJ x0 x1) (Ajq) hm0 (λ z0 hn0 => ?_) λ n0 a0 z0 w0b hi0 hx0 h hb0 hr0 => ?_
   ·clear hm0
    exact wx w0 (Anq) (Api) Vw 26 [false] [] [] 0 [] _ hC [pq (A7 hl0)] hn0
   ·unfold Aae at h
    obtain ⟨y2, h3, h⟩ := Av h
    rcases cB h with ⟨h4, h⟩ | ⟨h4, h⟩
    ·have hq := hret0 _ (hr0 _ (sI h).symm)
     replace hq := sI hq
     subst hq
     exact wr Vw 35 [true, true] [pt hx0 hl0, pr pB h3] [] 0 [] hC [pq (A5 hi0 hl0), pq h4]
    ·exact wx w0b (vJ x0 x1 (n0 + 1)) (Ajq (n0 + 1)) Vw 36 [true, false] [pt hx0 hl0, pr pB h3] [] 0 [] _ hC [pq (A5 hi0 hl0), pq h4] (sI h).symm
  ·have h := hnext0 _ hs0
   replace h := sI h
   subst h
   exact wr Vw 23 [] [] [] 0 [] hC []
theorem Bcq : EN 118 := en Tryz.func118
def Vv : List Nat := [0, 1, 4, 5, 10, 12, 13, 14, 24]
def vI (x0 : List Ah) (x1 : List Ah) (n0 : Nat) (z0 : Unit) : St := [(0, .d (DS A_ x0)), (1, .d (DS A_ x1)), (4, dB false), (12, dI (ln x0)), (13, dI (cnt 0 n0))]
def Ajp  (n0 : Nat) (z0 : Unit) : List Res := []
def Anp  (z0 : Unit) : St := [(4, dB false)]
def Aph  (z0 : Unit) : List Res := []
theorem Ba8 (x0 : List Ah) (x1 : List Ah) (r : Bool) (h : Alr x0 x1 = some r) : CO 119 [.d (DS A_ x0), .d (DS A_ x1)] [] (.d (Bo r)) [] := by
 unfold Alr at h
 refine co 26 Tryz.func119 λ C hC => ?_
 rcases cB h with ⟨h1, h⟩ | ⟨h1, h⟩
 ·replace h := sI h
  subst h
  exact wr Vv 29 [true] [pl A_ x0, pl A_ x1] [] 0 [] hC [pq h1]
 ·refine ws Vv 31 [false] [pl A_ x0, pl A_ x1, pl A_ x0] [] 0 [] (vI x0 x1 0 ()) (Ajp 0 ()) hC [pq h1] ?_
  obtain ⟨w0, hm0, hret0, hnext0⟩ := Ap h
  clear h
  refine wc w0 (Anp) (Aph) ?_ λ z0 hs0 => ?_
  ·refine wb ?_
   refine Bp 0 rfl λ hl0 => ?_
   refine wl (vI x0 x1) (Ajp) hm0 (λ z0 hn0 => ?_) λ n0 a0 z0 w0b hi0 hx0 h hb0 hr0 => ?_
   ·clear hm0
    exact wx w0 (Anp) (Aph) Vv 26 [false] [] [] 0 [] _ hC [pq (A7 hl0)] hn0
   ·unfold Aad at h
    obtain ⟨y2, h3, h⟩ := Av h
    rcases cB h with ⟨h4, h⟩ | ⟨h4, h⟩
    ·have hq := hret0 _ (hr0 _ (sI h).symm)
     replace hq := sI hq
     subst hq
     exact wr Vv 35 [true, true] [pt hx0 hl0, pr A_ h3] [] 0 [] hC [pq (A5 hi0 hl0), pq h4]
    ·exact wx w0b (vI x0 x1 (n0 + 1)) (Ajp (n0 + 1)) Vv 36 [true, false] [pt hx0 hl0, pr A_ h3] [] 0 [] _ hC [pq (A5 hi0 hl0), pq h4] (sI h).symm
  ·have h := hnext0 _ hs0
   replace h := sI h
   subst h
   exact wr Vv 23 [] [] [] 0 [] hC []
theorem Bcp : EN 119 := en Tryz.func119
def Vu : List Nat := [0, 1, 4, 5, 10, 12, 13, 14, 24]
def vH (x0 : List Int) (x1 : List Int) (n0 : Nat) (z0 : Unit) : St := [(0, .d (DS pI x0)), (1, .d (DS pI x1)), (4, dB false), (12, dI (ln x0)), (13, dI (cnt 0 n0))]
def Ajo  (n0 : Nat) (z0 : Unit) : List Res := []
def Ano  (z0 : Unit) : St := [(4, dB false)]
def Apg  (z0 : Unit) : List Res := []
theorem Ba7 (x0 : List Int) (x1 : List Int) (r : Bool) (h : Alq x0 x1 = some r) : CO 120 [.d (DS pI x0), .d (DS pI x1)] [] (.d (Bo r)) [] := by
 unfold Alq at h
 refine co 26 Tryz.func120 λ C hC => ?_
 rcases cB h with ⟨h1, h⟩ | ⟨h1, h⟩
 ·replace h := sI h
  subst h
  exact wr Vu 29 [true] [pl pI x0, pl pI x1] [] 0 [] hC [pq h1]
 ·refine ws Vu 31 [false] [pl pI x0, pl pI x1, pl pI x0] [] 0 [] (vH x0 x1 0 ()) (Ajo 0 ()) hC [pq h1] ?_
  obtain ⟨w0, hm0, hret0, hnext0⟩ := Ap h
  clear h
  refine wc w0 (Ano) (Apg) ?_ λ z0 hs0 => ?_
  ·refine wb ?_
   refine Bp 0 rfl λ hl0 => ?_
   refine wl (vH x0 x1) (Ajo) hm0 (λ z0 hn0 => ?_) λ n0 a0 z0 w0b hi0 hx0 h hb0 hr0 => ?_
   ·clear hm0
    exact wx w0 (Ano) (Apg) Vu 26 [false] [] [] 0 [] _ hC [pq (A7 hl0)] hn0
   ·unfold Aac at h
    obtain ⟨y2, h3, h⟩ := Av h
    rcases cB h with ⟨h4, h⟩ | ⟨h4, h⟩
    ·have hq := hret0 _ (hr0 _ (sI h).symm)
     replace hq := sI hq
     subst hq
     exact wr Vu 35 [true, true] [pt hx0 hl0, pr pI h3] [] 0 [] hC [pq (A5 hi0 hl0), pq h4]
    ·exact wx w0b (vH x0 x1 (n0 + 1)) (Ajo (n0 + 1)) Vu 36 [true, false] [pt hx0 hl0, pr pI h3] [] 0 [] _ hC [pq (A5 hi0 hl0), pq h4] (sI h).symm
  ·have h := hnext0 _ hs0
   replace h := sI h
   subst h
   exact wr Vu 23 [] [] [] 0 [] hC []
theorem Bco : EN 120 := en Tryz.func120
def Vt : List Nat := [0, 1, 4, 5, 10, 12, 13, 14, 24]
def vG (x0 : List Al) (x1 : List Al) (n0 : Nat) (z0 : Unit) : St := [(0, .d (DS q86 x0)), (1, .d (DS q86 x1)), (4, dB false), (12, dI (ln x0)), (13, dI (cnt 0 n0))]
def Ajn  (n0 : Nat) (z0 : Unit) : List Res := []
def Ann  (z0 : Unit) : St := [(4, dB false)]
def Apf  (z0 : Unit) : List Res := []
theorem Ba6 (x0 : List Al) (x1 : List Al) (r : Bool) (h : Alp x0 x1 = some r) : CO 121 [.d (DS q86 x0), .d (DS q86 x1)] [] (.d (Bo r)) [] := by
 unfold Alp at h
 refine co 26 Tryz.func121 λ C hC => ?_
 rcases cB h with ⟨h1, h⟩ | ⟨h1, h⟩
 ·replace h := sI h
  subst h
  exact wr Vt 29 [true] [pl q86 x0, pl q86 x1] [] 0 [] hC [pq h1]
 ·refine ws Vt 31 [false] [pl q86 x0, pl q86 x1, pl q86 x0] [] 0 [] (vG x0 x1 0 ()) (Ajn 0 ()) hC [pq h1] ?_
  obtain ⟨w0, hm0, hret0, hnext0⟩ := Ap h
  clear h
  refine wc w0 (Ann) (Apf) ?_ λ z0 hs0 => ?_
  ·refine wb ?_
   refine Bp 0 rfl λ hl0 => ?_
   refine wl (vG x0 x1) (Ajn) hm0 (λ z0 hn0 => ?_) λ n0 a0 z0 w0b hi0 hx0 h hb0 hr0 => ?_
   ·clear hm0
    exact wx w0 (Ann) (Apf) Vt 26 [false] [] [] 0 [] _ hC [pq (A7 hl0)] hn0
   ·unfold Aab at h
    obtain ⟨y2, h3, h⟩ := Av h
    rcases cB h with ⟨h4, h⟩ | ⟨h4, h⟩
    ·have hq := hret0 _ (hr0 _ (sI h).symm)
     replace hq := sI hq
     subst hq
     exact wr Vt 35 [true, true] [pt hx0 hl0, pr q86 h3] [] 0 [] hC [pq (A5 hi0 hl0), pq h4]
    ·exact wx w0b (vG x0 x1 (n0 + 1)) (Ajn (n0 + 1)) Vt 36 [true, false] [pt hx0 hl0, pr q86 h3] [] 0 [] _ hC [pq (A5 hi0 hl0), pq h4] (sI h).symm
  ·have h := hnext0 _ hs0
   replace h := sI h
   subst h
   exact wr Vt 23 [] [] [] 0 [] hC []
theorem Bcn : EN 121 := en Tryz.func121
def vY : List Nat := [0, 1, 4, 5, 10, 12, 13, 14, 24]
def Afi (x0 : List Bool) (x1 : List Bool) (n0 : Nat) (z0 : Unit) : St := [(0, .d (DS pB x0)), (1, .d (DS pB x1)), (4, dB false), (12, dI (ln x0)), (13, dI (cnt 0 n0))]
def Ar8  (n0 : Nat) (z0 : Unit) : List Res := []
def Aum  (z0 : Unit) : St := [(4, dB false)]
def Ax5  (z0 : Unit) : List Res := []
theorem k37 (x0 : List Bool) (x1 : List Bool) (r : Bool) (h : F37 x0 x1 = some r) : CO 37 [.d (DS pB x0), .d (DS pB x1)] [] (.d (Bo r)) [] := by
 unfold F37 at h
 refine co 26 Tryz.func37 λ C hC => ?_
 rcases cB h with ⟨h1, h⟩ | ⟨h1, h⟩
 ·replace h := sI h
  subst h
  exact wr vY 29 [true] [pl pB x0, pl pB x1] [] 0 [] hC [pq h1]
 ·refine ws vY 31 [false] [pl pB x0, pl pB x1, pl pB x0] [] 0 [] (Afi x0 x1 0 ()) (Ar8 0 ()) hC [pq h1] ?_
  obtain ⟨w0, hm0, hret0, hnext0⟩ := Ap h
  clear h
  refine wc w0 (Aum) (Ax5) ?_ λ z0 hs0 => ?_
  ·refine wb ?_
   refine Bp 0 rfl λ hl0 => ?_
   refine wl (Afi x0 x1) (Ar8) hm0 (λ z0 hn0 => ?_) λ n0 a0 z0 w0b hi0 hx0 h hb0 hr0 => ?_
   ·clear hm0
    exact wx w0 (Aum) (Ax5) vY 26 [false] [] [] 0 [] _ hC [pq (A7 hl0)] hn0
   ·unfold Akk at h
    obtain ⟨y2, h3, h⟩ := Av h
    rcases cB h with ⟨h4, h⟩ | ⟨h4, h⟩
    ·have hq := hret0 _ (hr0 _ (sI h).symm)
     replace hq := sI hq
     subst hq
     exact wr vY 35 [true, true] [pt hx0 hl0, pr pB h3] [] 0 [] hC [pq (A5 hi0 hl0), pq h4]
    ·exact wx w0b (Afi x0 x1 (n0 + 1)) (Ar8 (n0 + 1)) vY 36 [true, false] [pt hx0 hl0, pr pB h3] [] 0 [] _ hC [pq (A5 hi0 hl0), pq h4] (sI h).symm
  ·have h := hnext0 _ hs0
   replace h := sI h
   subst h
   exact wr vY 23 [] [] [] 0 [] hC []
theorem e37 : EN 37 := en Tryz.func37
def vX : List Nat := [0, 1, 4, 5, 10, 12, 13, 14, 24]
def Afh (x0 : List Int) (x1 : List Int) (n0 : Nat) (z0 : Unit) : St := [(0, .d (DS pI x0)), (1, .d (DS pI x1)), (4, dB false), (12, dI (ln x0)), (13, dI (cnt 0 n0))]
def Ar7  (n0 : Nat) (z0 : Unit) : List Res := []
def Aul  (z0 : Unit) : St := [(4, dB false)]
def Ax4  (z0 : Unit) : List Res := []
theorem k38 (x0 : List Int) (x1 : List Int) (r : Bool) (h : F38 x0 x1 = some r) : CO 38 [.d (DS pI x0), .d (DS pI x1)] [] (.d (Bo r)) [] := by
 unfold F38 at h
 refine co 26 Tryz.func38 λ C hC => ?_
 rcases cB h with ⟨h1, h⟩ | ⟨h1, h⟩
 ·replace h := sI h
  subst h
  exact wr vX 29 [true] [pl pI x0, pl pI x1] [] 0 [] hC [pq h1]
 ·refine ws vX 31 [false] [pl pI x0, pl pI x1, pl pI x0] [] 0 [] (Afh x0 x1 0 ()) (Ar7 0 ()) hC [pq h1] ?_
  obtain ⟨w0, hm0, hret0, hnext0⟩ := Ap h
  clear h
  refine wc w0 (Aul) (Ax4) ?_ λ z0 hs0 => ?_
  ·refine wb ?_
   refine Bp 0 rfl λ hl0 => ?_
   refine wl (Afh x0 x1) (Ar7) hm0 (λ z0 hn0 => ?_) λ n0 a0 z0 w0b hi0 hx0 h hb0 hr0 => ?_
   ·clear hm0
    exact wx w0 (Aul) (Ax4) vX 26 [false] [] [] 0 [] _ hC [pq (A7 hl0)] hn0
   ·unfold Akj at h
    obtain ⟨y2, h3, h⟩ := Av h
    rcases cB h with ⟨h4, h⟩ | ⟨h4, h⟩
    ·have hq := hret0 _ (hr0 _ (sI h).symm)
     replace hq := sI hq
     subst hq
     exact wr vX 35 [true, true] [pt hx0 hl0, pr pI h3] [] 0 [] hC [pq (A5 hi0 hl0), pq h4]
    ·exact wx w0b (Afh x0 x1 (n0 + 1)) (Ar7 (n0 + 1)) vX 36 [true, false] [pt hx0 hl0, pr pI h3] [] 0 [] _ hC [pq (A5 hi0 hl0), pq h4] (sI h).symm
  ·have h := hnext0 _ hs0
   replace h := sI h
   subst h
   exact wr vX 23 [] [] [] 0 [] hC []
theorem e38 : EN 38 := en Tryz.func38
def Agw : List Nat := [0, 1, 2, 3, 6, 8, 10, 11, 12, 13, 25]
def Afd (x0 : Ab) (x1 : Int) (x2 : Int) (n0 : Nat) (z0 : Unit) : St := [(1, dI x1), (2, dI x2), (6, dB false), (10, .d (DS q86 x0.Ao)), (11, dI (ln x0.Ao)), (12, dI (cnt 0 n0))]
def Ar4  (n0 : Nat) (z0 : Unit) : List Res := []
def Aui  (z0 : Unit) : St := [(6, dB false)]
def Ax1  (z0 : Unit) : List Res := []
theorem k49 (x0 : Ab) (x1 : Int) (x2 : Int) (r : Bool) (h : F49 x0 x1 x2 = some r) : CO 49 [.agg (d36 x0), .d (I x1), .d (I x2)] [] (.d (Bo r)) [] := by
 unfold F49 at h
 refine co 27 Tryz.func49 λ C hC => ?_
 refine ws Agw 26 [] [pl q86 x0.Ao] [] 0 [] (Afd x0 x1 x2 0 ()) (Ar4 0 ()) hC [] ?_
 obtain ⟨w0, hm0, hret0, hnext0⟩ := Ap h
 clear h
 refine wc w0 (Aui) (Ax1) ?_ λ z0 hs0 => ?_
 ·refine wb ?_
  refine Bp 10 rfl λ hl0 => ?_
  refine wl (Afd x0 x1 x2) (Ar4) hm0 (λ z0 hn0 => ?_) λ n0 a0 z0 w0b hi0 hx0 h hb0 hr0 => ?_
  ·clear hm0
   exact wx w0 (Aui) (Ax1) Agw 26 [false] [] [] 0 [] _ hC [pq (A7 hl0)] hn0
  ·unfold qR at h
   rcases cB h with ⟨h1, h⟩ | ⟨h1, h⟩
   ·have hq := hret0 _ (hr0 _ (sI h).symm)
    replace hq := sI hq
    subst hq
    exact wr Agw 35 [true, true] [pt hx0 hl0] [] 0 [] hC [pq (A5 hi0 hl0), pq h1]
   ·exact wx w0b (Afd x0 x1 x2 (n0 + 1)) (Ar4 (n0 + 1)) Agw 36 [true, false] [pt hx0 hl0] [] 0 [] _ hC [pq (A5 hi0 hl0), pq h1] (sI h).symm
 ·have h := hnext0 _ hs0
  replace h := sI h
  subst h
  exact wr Agw 23 [] [] [] 0 [] hC []
theorem e49 : EN 49 := en Tryz.func49
theorem k35  (r : Aa × Bk) (h : F35  = r) : CO 35 [] [] (.tup [.agg (d29 r.1), .agg (d31 r.2)]) [] := by
 unfold F35 at h
 refine co 13 Tryz.func35 λ C hC => ?_
 subst h
 exact wr [0, 1] 25 [] [] [] 0 [] hC []
theorem e35 : EN 35 := en Tryz.func35
theorem k59 (x0 : Bk) (r : Bool) (h : F59 x0 = r) : CO 59 [.agg (d31 x0)] [] (.d (Bo r)) [] := by
 unfold F59 at h
 refine co 33 Tryz.func59 λ C hC => ?_
 subst h
 exact wr n3_ 25 [] [] [] 0 [] hC []
theorem e59 : EN 59 := en Tryz.func59
theorem Bag (x0 : Int) (x1 : Int) (r : Int × Int) (h : As4 x0 x1 = r) : CO 194 [.d (.p (.v (.int .u64 x0))), .d (.p (.v (.int .u64 x1)))] [] (.tup [.d (.p (.v (.int .u64 r.1))), .d (.p (.v (.int .u64 r.2)))]) [] := by
 unfold As4 at h
 refine co 51 Tryz.func194 λ C hC => ?_
 subst h
 exact wr [0, 1, 4, 5, 6, 7, 8, 9, 10, 11, 12, 13] 45 [] [] [] 0 [] hC []
theorem Bbx : EN 194 := en Tryz.func194
theorem A15 (x0 : Int) (x1 : A0) (r : Bool) (h : Wf x0 x1 = r) : CO 58 [.d (I x0), .d (.ip [.v (.int .i64 x1.Time), .s (x1.Power.Ag.map pB), .s (x1.Power.Ac.map A_), .s (x1.Power.Ak.map pI), .s (x1.Power.Ao.map q86), .s (x1.A6.map Ce), .s (x1.Bc.map q51)])] [] (.d (Bo r)) [] := by
 unfold Wf at h
 refine co 12 Tryz.func58 λ C hC => ?_
 subst h
 exact wr [0, 1, 3] 25 [] [] [] 0 [] hC []
theorem A2a : EN 58 := en Tryz.func58
theorem Avk (x0 : Int) (x1 : Int) (r : Bool) (h : My x0 x1 = r) : CO 174 [.d (I x0), .d (.ip [.v (.int .i64 x1)])] [] (.d (Bo r)) [] := by
 unfold My at h
 refine co 11 Tryz.func174 λ C hC => ?_
 subst h
 exact wr [0, 1, 3] 25 [] [] [] 0 [] hC []
theorem Awd : EN 174 := en Tryz.func174
theorem Baa (x0 : List Int) : CO 212 [.d (.p (.s (x0.map pI)))] [] (.d (.fn (.func 236) [] [.o 0 0])) [.box 22 [.p (.s (x0.map pI))]] := by
 refine co 4 Tryz.func212 λ C hC => ?_
 exact wr [1, 2] 40 [] [] [] 0 [0] hC []
theorem Bbr : EN 212 := en Tryz.func212
theorem A46 (x0 : Aj) (x1 : Int) (r : Bool) (h : Ak2 x0 x1 = r) : CO 219 [.agg (Oc x0), .d (.ip [.v (.int .i64 x1)])] [] (.d (Bo r)) [] := by
 unfold Ak2 at h
 refine co 13 Tryz.func219 λ C hC => ?_
 subst h
 exact wr n4_ 25 [] [] [] 0 [] hC []
theorem A62 : EN 219 := en Tryz.func219
theorem A5t (x0 : Int) (x1 : Bool) (x2 : Int) (r : Int) (h : As6 x0 x1 x2 = some r) : CO 176 [.d (I x0), .d (Bo x1), .d (I x2)] [] (.d (I r)) [] := by
 unfold As6 at h
 refine co 15 Tryz.func176 λ C hC => ?_
 rcases cB h with ⟨h1, h⟩ | ⟨h1, h⟩
 ·replace h := sI h
  subst h
  exact wr [0, 1, 2, 6, 7, 10] 30 [true] [] [] 0 [] hC [pq h1]
 ·cases h
theorem A7p : EN 176 := en Tryz.func176
theorem Ag7 (x0 : Int) (x1 : Int) (x2 : Int) (r : Bool) (h : Dn x0 x1 x2 = r) : CO 148 [.d (I x0), .d (I x1), .d (I x2)] [] (.d (Bo r)) [] := by
 unfold Dn at h
 refine co 15 Tryz.func148 λ C hC => ?_
 subst h
 exact wr [0, 1, 2, 6] 25 [] [] [] 0 [] hC []
theorem Ah1 : EN 148 := en Tryz.func148
theorem A5i (x0 : Int) (r : Bool) (h : Ur x0 = r) : CO 197 [.d (I x0)] [] (.d (Bo r)) [] := by
 unfold Ur at h
 refine co 9 Tryz.func197 λ C hC => ?_
 subst h
 exact wr [0, 2] 25 [] [] [] 0 [] hC []
theorem A7e : EN 197 := en Tryz.func197
theorem A9p (x0 : A1) (x1 : Int) (r : Bool) (h : Asx x0 x1 = r) : CO 45 [.agg (d65 x0), .d (.ip [.v (.int .i64 x1)])] [] (.d (Bo r)) [] := by
 unfold Asx at h
 refine co 8 Tryz.func45 λ C hC => ?_
 subst h
 exact wr n4_ 25 [] [] [] 0 [] hC []
theorem A97 : EN 45 := en Tryz.func45
theorem e46 : EN 46 := en Tryz.func46
theorem Bau (x0 : Fx) (r : Bool) (h : Ata x0 = r) : CO 159 [.agg (d70 x0)] [] (.d (Bo r)) [] := by
 unfold Ata at h
 refine co 17 Tryz.func159 λ C hC => ?_
 subst h
 exact wr n3_ 25 [] [] [] 0 [] hC []
theorem Bcb : EN 159 := en Tryz.func159
theorem Bac (x0 : Int) (x1 : Int) (r : Int) (h : A1i x0 x1 = some r) : CO 203 [.d (I x0), .d (I x1)] [] (.d (I r)) [] := by
 unfold A1i at h
 refine co 16 Tryz.func203 λ C hC => ?_
 obtain ⟨u2, h1, u4, h3, h⟩ := A8 h
 rcases cB h with ⟨h5, h⟩ | ⟨h5, h⟩
 ·cases h
 ·replace h := sI h
  subst h
  exact wr [0, 1, 4, 5, 12] 32 [false] [⟨.nz x1, Oy h1⟩, ⟨.nz x1, Oy h3⟩] [] 0 [] hC [pq h5]
theorem Bbt : EN 203 := en Tryz.func203
def jA : List Nat := [0, 2, 3, 4, 5, 6, 12, 15, 25]
def Vc (x0 : Int) (z0 : Int × Int) : St := [(0, dI x0), (2, dI 0), (3, dI 0), (4, dI z0.1), (5, dI z0.2)]
def qL  (z0 : Int × Int) : List Res := []
def Anu  (z0 : Int × Int) : St := [(2, dI 0), (3, dI 0), (4, dI z0.1)]
def Apm  (z0 : Int × Int) : List Res := []
theorem Bbc (x0 : Int) (r : Int × Int) (h : A1s x0 = some r) : CO 107 [.d (I x0)] [] (.tup [.d (I r.1), .d (I r.2)]) [] := by
 unfold A1s at h
 refine co 30 Tryz.func107 λ C hC => ?_
 rcases cB h with ⟨h1, h⟩ | ⟨h1, h⟩
 ·cases h
 ·refine ws jA 31 [false] [] [] 0 [] (Vc x0 (0, 1000000000)) (qL (0, 1000000000)) hC [pq h1] ?_
  obtain ⟨w0, hm0, hret0, hnext0⟩ := Ap h
  clear h
  refine wc w0 (Anu) (Apm) ?_ λ z0 hs0 => ?_
  ·refine wb ?_
   refine ww (Vc x0) (qL) hm0 λ z0 w0b h hb0 hr0 => ?_
   unfold Apx at h
   rcases cB h with ⟨h2, h⟩ | ⟨h2, h⟩
   ·rcases cB h with ⟨h3, h⟩ | ⟨h3, h⟩
    ·exact wx w0b (Vc x0) (qL) jA 34 [true, true] [⟨.nz 2, Ox rfl⟩] [] 0 [] _ hC [pq h2, pq h3] (sI h).symm
    ·exact wx w0b (Vc x0) (qL) jA 34 [true, false] [⟨.nz 2, Ox rfl⟩] [] 0 [] _ hC [pq h2, pq h3] (sI h).symm
   ·exact wx w0 (Anu) (Apm) jA 26 [false] [] [] 0 [] (z0.1, z0.2) hC [pq h2] (hb0 _ (sI h).symm)
  ·have h := hnext0 _ hs0
   replace h := sI h
   subst h
   exact wr jA 23 [] [] [] 0 [] hC []
theorem Bct : EN 107 := en Tryz.func107
theorem k90 (x0 : Af) (r : Bool) (h : F90 x0 = r) : CO 90 [.agg (d84 x0)] [] (.d (Bo r)) [] := by
 unfold F90 at h
 refine co 7 Tryz.func90 λ C hC => ?_
 subst h
 exact wr n3_ 25 [] [pl pI x0.Ac] [] 0 [] hC []
theorem e90 : EN 90 := en Tryz.func90
theorem k32 (x0 : Ai) (x1 : Int) (r : Int × Ai) (h : F32 x0 x1 = some r) : CO 32 [.d (.o 0 0), .d (I x1)] [.box 90 (d90 x0)] (.d (I r.1)) [.box 90 (d90 r.2)] := by
 unfold F32 at h
 refine co 35 Tryz.func32 λ C hC => ?_
 rcases cB h with ⟨h1, h⟩ | ⟨h1, h⟩
 ·replace h := sI h
  subst h
  exact wr [0, 1, 4, 14] 29 [true] [pl pI x0.L] [] 1 [0] hC [pq h1]
 ·obtain ⟨y2, h3, y4, h5, h⟩ := A8 h
  replace h := sI h
  subst h
  exact wr [0, 1, 4, 14] 32 [false] [pl pI x0.L, pr pI h3, pc e80 (k80 y2 x1 _ h5) []] [] 1 [0] hC [pq h1]
theorem e32 : EN 32 := en Tryz.func32
def Agu : List Nat := [0, 1, 2, 3, 4, 6, 7, 16, 25, 33]
theorem k71 (x0 : Aa) (x1 : Al) (r : Bool) (h : F71 x0 x1 = r) : CO 71 [.agg (d29 x0), .agg (d86 x1)] [] (.d (Bo r)) [] := by
 unfold F71 at h
 refine co 42 Tryz.func71 λ C hC => ?_
 rcases cB h with ⟨h1, h⟩ | ⟨h1, h⟩
 ·subst h
  exact wr Agu 32 [true] [pl Bu x0.Ac, pc Fo (Fl x1.Number 0 (w64 ((ln x0.Ac) - 1)) _ rfl) []] [] 0 [] hC [pq h1]
 ·rcases cB h with ⟨h2, h⟩ | ⟨h2, h⟩
  ·subst h
   exact wr Agu 35 [false, true] [pl Bg x0.Ae, pc Fo (Fl x1.Number 0 (w64 ((ln x0.Ae) - 1)) _ rfl) []] [] 0 [] hC [pq h1, pq h2]
  ·rcases cB h with ⟨h3, h⟩ | ⟨h3, h⟩
   ·subst h
    exact wr Agu 38 [false, false, true] [pc Fo (Fl x1.Number 0 (w64 (x0.Aq - 1)) _ rfl) []] [] 0 [] hC [pq h1, pq h2, pq h3]
   ·rcases cB h with ⟨h4, h⟩ | ⟨h4, h⟩
    ·subst h
     exact wr Agu 41 [false, false, false, true] [pl q65 x0.Ad, pc Fo (Fl x1.Number 0 (w64 ((ln x0.Ad) - 1)) _ rfl) []] [] 0 [] hC [pq h1, pq h2, pq h3, pq h4]
    ·subst h
     exact wr Agu 43 [false, false, false, false] [] [] 0 [] hC [pq h1, pq h2, pq h3, pq h4]
theorem e71 : EN 71 := en Tryz.func71
def C6 : List Nat := [0, 1, 2, 3, 4, 6, 7, 8, 10, 11, 12, 13, 23, 25, 26, 37, 38, 47, 48, 57, 61, 62, 63, 64, 69, 74, 75, 76, 82, 86, 87, 88, 94]
def Oj (x0 : Aa) (n0 : Nat) (z0 : Unit) : St := [(1, dO 0 0), (2, dB false), (10, .d (DS Bg x0.Ae)), (11, dI (ln x0.Ae)), (12, dI (cnt 0 n0))]
def T1 (x0 : Aa) (n0 : Nat) (z0 : Unit) : List Res := [.box 29 (d29 x0)]
def Ana  (z0 : Unit) : St := [(1, dO 0 0), (2, dB false)]
def Ao2 (x0 : Aa) (z0 : Unit) : List Res := [.box 29 (d29 x0)]
def uY (x0 : Aa) (n0 : Nat) (y9 : List Aj) (n1 : Nat) (z1 : Unit) : St := [(1, dO 0 0), (2, dB false), (4, dO 1 0), (10, .d (DS Bg x0.Ae)), (11, dI (ln x0.Ae)), (12, dI (cnt 0 n0)), (61, .d (DS Bg y9)), (62, dI (ln y9)), (63, dI (cnt 0 n1))]
def Ajf (x0 : Aa) (a0 : Aj) (n1 : Nat) (z1 : Unit) : List Res := [.box 29 (d29 x0), .box 147 (Oc a0)]
def Am9 (x0 : Aa) (n0 : Nat) (z1 : Unit) : St := [(1, dO 0 0), (2, dB false), (10, .d (DS Bg x0.Ae)), (11, dI (ln x0.Ae)), (12, dI (cnt 0 n0))]
def Ao1 (x0 : Aa) (z1 : Unit) : List Res := [.box 29 (d29 x0)]
def uX (x0 : Aa) (z2 : Int) : St := [(1, dO 0 0), (2, dB false), (74, dI (ln x0.Ac)), (75, dI z2)]
def Aje (x0 : Aa) (z2 : Int) : List Res := [.box 29 (d29 x0)]
def Am8  (z2 : Int) : St := [(1, dO 0 0), (2, dB false)]
def Ao0 (x0 : Aa) (z2 : Int) : List Res := [.box 29 (d29 x0)]
def uW (x0 : Aa) (z3 : Int) : St := [(1, dO 0 0), (2, dB false), (86, dI (ln x0.Ad)), (87, dI z3)]
def Ajd (x0 : Aa) (z3 : Int) : List Res := [.box 29 (d29 x0)]
def Am7  (z3 : Int) : St := [(2, dB false)]
def Aoz  (z3 : Int) : List Res := []
theorem Bas (x0 : Aa) (r : Bool) (h : Ald x0 = some r) : CO 163 [.agg (d29 x0)] [] (.d (Bo r)) [] := by
 unfold Ald at h
 refine co 96 Tryz.func163 λ C hC => ?_
 refine ws C6 26 [] [pl Bg x0.Ae] [] 0 [0] (Oj x0 0 ()) (T1 x0 0 ()) hC [] ?_
 obtain ⟨w0, hm0, hret0, hnext0⟩ := Ap h
 clear h
 refine wc w0 (Ana) (Ao2 x0) ?_ λ z0 hs0 => ?_
 ·refine wb ?_
  refine Bp 10 rfl λ hl0 => ?_
  refine wl (Oj x0) (T1 x0) hm0 (λ z0 hn0 => ?_) λ n0 a0 z0 w0b hi0 hx0 h hb0 hr0 => ?_
  ·clear hm0
   exact wx w0 (Ana) (Ao2 x0) C6 26 [false] [] [] 0 [0] _ hC [pq (A7 hl0)] hn0
  ·unfold zP at h
   refine wn C6 33 [true] [pt hx0 hl0, pc Fo (Fl a0.A 0 (w64 (x0.Aq - 1)) _ rfl) []] [] 0 [0, 1] [1, 2, 3, 4, 10, 11, 12, 23] hC [pq (A5 hi0 hl0)] ?_
   rcases cB h with ⟨h1, h⟩ | ⟨h1, h⟩
   ·have hq := hret0 _ (hr0 _ (sI h).symm)
    replace hq := sI hq
    subst hq
    exact wr C6 24 [true] [] [] 0 [] hC [pq h1]
   ·rcases cB h with ⟨h2, h⟩ | ⟨h2, h⟩
    ·rcases cB h with ⟨h3, h⟩ | ⟨h3, h⟩
     ·have hq := hret0 _ (hr0 _ (sI h).symm)
      replace hq := sI hq
      subst hq
      exact wr C6 34 [false, true, true] [pc Fo (Fl a0.B (w64 (a0.A + 1)) (w64 (x0.Aq - 1)) _ rfl) []] [] 0 [] hC [pq h1, pq h2, pq h3]
     ·exact wx w0b (Oj x0 (n0 + 1)) (T1 x0 (n0 + 1)) C6 36 [false, true, false] [pc Fo (Fl a0.B (w64 (a0.A + 1)) (w64 (x0.Aq - 1)) _ rfl) []] [] 0 [0] _ hC [pq h1, pq h2, pq h3] (sI h).symm
    ·rcases cB h with ⟨h4, h⟩ | ⟨h4, h⟩
     ·refine wn C6 34 [false, false, true] [pl Bu x0.Ac, pc Fo (Fl a0.B 0 (w64 ((ln x0.Ac) - 1)) _ rfl) []] [] 0 [0] [1, 2, 10, 11, 12, 47] hC [pq h1, pq h2, pq h4] ?_
      rcases cB h with ⟨h5, h⟩ | ⟨h5, h⟩
      ·have hq := hret0 _ (hr0 _ (sI h).symm)
       replace hq := sI hq
       subst hq
       exact wr C6 24 [true] [] [] 0 [] hC [pq h5]
      ·exact wx w0b (Oj x0 (n0 + 1)) (T1 x0 (n0 + 1)) C6 26 [false] [] [] 0 [0] _ hC [pq h5] (sI h).symm
     ·rcases cB h with ⟨h6, h⟩ | ⟨h6, h⟩
      ·refine wn C6 38 [false, false, false, true] [pl q65 x0.Ad, pc Fo (Fl a0.B 0 (w64 ((ln x0.Ad) - 1)) _ rfl) []] [] 0 [0, 1] [1, 2, 3, 4, 10, 11, 12, 57] hC [pq h1, pq h2, pq h4, pq h6] ?_
       rcases cB h with ⟨h7, h⟩ | ⟨h7, h⟩
       ·have hq := hret0 _ (hr0 _ (sI h).symm)
        replace hq := sI hq
        subst hq
        exact wr C6 24 [true] [] [] 0 [] hC [pq h7]
       ·obtain ⟨y9, h8, h⟩ := Av h
        refine ws C6 25 [false] [⟨.cut (x0.Ae.map Bg) 3 0 (cnt 0 n0) (y9.map Bg), yO Bg 3 (λ _ => rfl) h8⟩, pl Bg y9] [] 0 [0, 1] (uY x0 n0 y9 0 ()) (Ajf x0 a0 0 ()) hC [pq h7] ?_
        obtain ⟨w1, hm1, hret1, hnext1⟩ := Ap h
        clear h
        refine wc w1 (Am9 x0 n0) (Ao1 x0) ?_ λ z1 hs1 => ?_
        ·refine wb ?_
         refine Bp 61 rfl λ hl1 => ?_
         refine wl (uY x0 n0 y9) (Ajf x0 a0) hm1 (λ z1 hn1 => ?_) λ n1 a1 z1 w1b hi1 hx1 h hb1 hr1 => ?_
         ·clear hm1
          exact wx w1 (Am9 x0 n0) (Ao1 x0) C6 26 [false] [] [] 0 [0] _ hC [pq (A7 hl1)] hn1
         ·unfold Wj at h
          rcases cB h with ⟨h10, h⟩ | ⟨h10, h⟩
          ·have hq := hret1 _ (hr1 _ (sI h).symm)
           replace hq := hret0 _ (hr0 _ (sI hq).symm)
           replace hq := sI hq
           subst hq
           exact wr C6 35 [true, true] [pt hx1 hl1] [] 0 [] hC [pq (A5 hi1 hl1), pq h10]
          ·exact wx w1b (uY x0 n0 y9 (n1 + 1)) (Ajf x0 a0 (n1 + 1)) C6 36 [true, false] [pt hx1 hl1] [] 0 [0, 1] _ hC [pq (A5 hi1 hl1), pq h10] (sI h).symm
        ·have h := hnext1 _ hs1
         exact wx w0b (Oj x0 (n0 + 1)) (T1 x0 (n0 + 1)) C6 24 [] [] [] 0 [0] _ hC [] (sI h).symm
      ·have hq := hret0 _ (hr0 _ (sI h).symm)
       replace hq := sI hq
       subst hq
       exact wr C6 37 [false, false, false, false] [] [] 0 [] hC [pq h1, pq h2, pq h4, pq h6]
 ·have h := hnext0 _ hs0
  refine ws C6 24 [] [pl Bu x0.Ac] [] 0 [0] (uX x0 0) (Aje x0 0) hC [] ?_
  obtain ⟨w2, hm2, hret2, hnext2⟩ := Ap h
  clear h
  refine wc w2 (Am8) (Ao0 x0) ?_ λ z2 hs2 => ?_
  ·refine wb ?_
   refine ww (uX x0) (Aje x0) hm2 λ z2 w2b h hb2 hr2 => ?_
   unfold zO at h
   rcases cB h with ⟨h11, h⟩ | ⟨h11, h⟩
   ·obtain ⟨y12, h13, h⟩ := Av h
    refine wn C6 32 [true] [pc e77 (k77 x0 2 z2 _ h13) [], pl pI y12] [] 0 [0] [1, 2, 74, 75, 82] hC [pq h11] ?_
    rcases cB h with ⟨h14, h⟩ | ⟨h14, h⟩
    ·have hq := hret2 _ (hr2 _ (sI h).symm)
     replace hq := sI hq
     subst hq
     exact wr C6 24 [true] [] [] 0 [] hC [pq h14]
    ·exact wx w2b (uX x0) (Aje x0) C6 25 [false] [] [] 0 [0] _ hC [pq h14] (sI h).symm
   ·exact wx w2 (Am8) (Ao0 x0) C6 26 [false] [] [] 0 [0] z2 hC [pq h11] (hb2 _ (sI h).symm)
  ·have h := hnext2 _ hs2
   refine ws C6 24 [] [pl q65 x0.Ad] [] 0 [0] (uW x0 0) (Ajd x0 0) hC [] ?_
   obtain ⟨w3, hm3, hret3, hnext3⟩ := Ap h
   clear h
   refine wc w3 (Am7) (Aoz) ?_ λ z3 hs3 => ?_
   ·refine wb ?_
    refine ww (uW x0) (Ajd x0) hm3 λ z3 w3b h hb3 hr3 => ?_
    unfold zN at h
    rcases cB h with ⟨h15, h⟩ | ⟨h15, h⟩
    ·obtain ⟨y16, h17, h⟩ := Av h
     refine wn C6 32 [true] [pc e77 (k77 x0 3 z3 _ h17) [], pl pI y16] [] 0 [0] [1, 2, 86, 87, 94] hC [pq h15] ?_
     rcases cB h with ⟨h18, h⟩ | ⟨h18, h⟩
     ·have hq := hret3 _ (hr3 _ (sI h).symm)
      replace hq := sI hq
      subst hq
      exact wr C6 24 [true] [] [] 0 [] hC [pq h18]
     ·exact wx w3b (uW x0) (Ajd x0) C6 25 [false] [] [] 0 [0] _ hC [pq h18] (sI h).symm
    ·exact wx w3 (Am7) (Aoz) C6 26 [false] [] [] 0 [] z3 hC [pq h15] (hb3 _ (sI h).symm)
   ·have h := hnext3 _ hs3
    replace h := sI h
    subst h
    exact wr C6 23 [] [] [] 0 [] hC []
theorem Bb9 : EN 163 := en Tryz.func163
def Vo : List Nat := [0, 1, 2, 4, 6, 7, 8, 9, 29]
def uV (x0 : Aa) (n0 : Nat) (z0 : Unit) : St := [(2, dB false), (6, .d (DS Bu x0.Ac)), (7, dI (ln x0.Ac)), (8, dI (cnt 0 n0))]
def Ajc  (n0 : Nat) (z0 : Unit) : List Res := []
def Am6  (z0 : Unit) : St := [(2, dB false)]
def Aoy  (z0 : Unit) : List Res := []
theorem Bar (x0 : Aa) (r : Bool) (h : Alc x0 = some r) : CO 164 [.agg (d29 x0)] [] (.d (Bo r)) [] := by
 unfold Alc at h
 refine co 31 Tryz.func164 λ C hC => ?_
 refine ws Vo 26 [] [pl Bu x0.Ac] [] 0 [] (uV x0 0 ()) (Ajc 0 ()) hC [] ?_
 obtain ⟨w0, hm0, hret0, hnext0⟩ := Ap h
 clear h
 refine wc w0 (Am6) (Aoy) ?_ λ z0 hs0 => ?_
 ·refine wb ?_
  refine Bp 6 rfl λ hl0 => ?_
  refine wl (uV x0) (Ajc) hm0 (λ z0 hn0 => ?_) λ n0 a0 z0 w0b hi0 hx0 h hb0 hr0 => ?_
  ·clear hm0
   exact wx w0 (Am6) (Aoy) Vo 26 [false] [] [] 0 [] _ hC [pq (A7 hl0)] hn0
  ·unfold zM at h
   refine wn Vo 32 [true] [pt hx0 hl0, pc Fo (Fl a0.Rating 1 50000 _ rfl) [], ⟨.when [(!(B7 a0.Rating 1 50000), false)] (.call 112 [dI a0.Least, dI 0, dI a0.Rating] [] (dB (B7 a0.Least 0 a0.Rating)) [] []), λ hg => ⟨Fo, (Fl a0.Least 0 a0.Rating _ rfl)⟩⟩, ⟨.when [(((!(B7 a0.Rating 1 50000)) || (!(B7 a0.Least 0 a0.Rating))), false)] (.call 112 [dI a0.Start, dI 0, dI 600] [] (dB (B7 a0.Start 0 600)) [] []), λ hg => ⟨Fo, (Fl a0.Start 0 600 _ rfl)⟩⟩] [] 0 [] [2, 6, 7, 8, 29] hC [pq (A5 hi0 hl0)] ?_
   rcases cB h with ⟨h1, h⟩ | ⟨h1, h⟩
   ·have hq := hret0 _ (hr0 _ (sI h).symm)
    replace hq := sI hq
    subst hq
    exact wr Vo 24 [true] [] [] 0 [] hC [pq h1]
   ·exact wx w0b (uV x0 (n0 + 1)) (Ajc (n0 + 1)) Vo 25 [false] [] [] 0 [] _ hC [pq h1] (sI h).symm
 ·have h := hnext0 _ hs0
  replace h := sI h
  subst h
  exact wr Vo 23 [] [] [] 0 [] hC []
theorem Bb8 : EN 164 := en Tryz.func164
def Jc : List Nat := [0, 1, 2, 3, 4, 5, 6, 8, 9, 10, 11, 44, 46, 47, 48, 49, 71]
def uU (x0 : Aa) (n0 : Nat) (z0 : Unit) : St := [(2, dB false), (8, .d (DS q65 x0.Ad)), (9, dI (ln x0.Ad)), (10, dI (cnt 0 n0))]
def Ajb  (n0 : Nat) (z0 : Unit) : List Res := []
def Am5  (z0 : Unit) : St := [(2, dB false)]
def Aox  (z0 : Unit) : List Res := []
def uT (x0 : Aa) (n0 : Nat) (a0 : A1) (n1 : Nat) (z1 : Unit) : St := [(2, dB false), (3, dI (cnt 0 n0)), (4, dO 0 0), (8, .d (DS q65 x0.Ad)), (9, dI (ln x0.Ad)), (10, dI (cnt 0 n0)), (46, .d (DS pI a0.Needs)), (47, dI (ln a0.Needs)), (48, dI (cnt 0 n1))]
def Aja (a0 : A1) (n1 : Nat) (z1 : Unit) : List Res := [.box 65 (d65 a0)]
def Am4 (x0 : Aa) (n0 : Nat) (z1 : Unit) : St := [(2, dB false), (8, .d (DS q65 x0.Ad)), (9, dI (ln x0.Ad)), (10, dI (cnt 0 n0))]
def Aow  (z1 : Unit) : List Res := []
theorem Baq (x0 : Aa) (r : Bool) (h : Alb x0 = some r) : CO 165 [.agg (d29 x0)] [] (.d (Bo r)) [] := by
 unfold Alb at h
 refine co 74 Tryz.func165 λ C hC => ?_
 refine ws Jc 26 [] [pl q65 x0.Ad] [] 0 [] (uU x0 0 ()) (Ajb 0 ()) hC [] ?_
 obtain ⟨w0, hm0, hret0, hnext0⟩ := Ap h
 clear h
 refine wc w0 (Am5) (Aox) ?_ λ z0 hs0 => ?_
 ·refine wb ?_
  refine Bp 8 rfl λ hl0 => ?_
  refine wl (uU x0) (Ajb) hm0 (λ z0 hn0 => ?_) λ n0 a0 z0 w0b hi0 hx0 h hb0 hr0 => ?_
  ·clear hm0
   exact wx w0 (Am5) (Aox) Jc 26 [false] [] [] 0 [] _ hC [pq (A7 hl0)] hn0
  ·unfold zL at h
   refine wn Jc 33 [true] [pt hx0 hl0, pc Fo (Fl a0.Load 0 50000 _ rfl) [], ⟨.when [(!(B7 a0.Load 0 50000), false)] (.call 112 [dI a0.Least, dI 0, dI a0.Load] [] (dB (B7 a0.Least 0 a0.Load)) [] []), λ hg => ⟨Fo, (Fl a0.Least 0 a0.Load _ rfl)⟩⟩, ⟨.when [(((!(B7 a0.Load 0 50000)) || (!(B7 a0.Least 0 a0.Load))), false)] (.call 112 [dI a0.Bn, dI 0, dI 15] [] (dB (B7 a0.Bn 0 15)) [] []), λ hg => ⟨Fo, (Fl a0.Bn 0 15 _ rfl)⟩⟩, ⟨.when [((((!(B7 a0.Load 0 50000)) || (!(B7 a0.Least 0 a0.Load))) || (!(B7 a0.Bn 0 15))), false)] (.call 112 [dI a0.Thruster, dI (-1), dI 7] [] (dB (B7 a0.Thruster (-1) 7)) [] []), λ hg => ⟨Fo, (Fl a0.Thruster (-1) 7 _ rfl)⟩⟩, pL_ [(((((!(B7 a0.Load 0 50000)) || (!(B7 a0.Least 0 a0.Load))) || (!(B7 a0.Bn 0 15))) || (!(B7 a0.Thruster (-1) 7))), false)] pI a0.Needs] [] 0 [0] [2, 3, 4, 8, 9, 10, 44] hC [pq (A5 hi0 hl0)] ?_
   rcases cB h with ⟨h1, h⟩ | ⟨h1, h⟩
   ·have hq := hret0 _ (hr0 _ (sI h).symm)
    replace hq := sI hq
    subst hq
    exact wr Jc 24 [true] [] [] 0 [] hC [pq h1]
   ·refine ws Jc 25 [false] [pl pI a0.Needs] [] 0 [0] (uT x0 n0 a0 0 ()) (Aja a0 0 ()) hC [pq h1] ?_
    obtain ⟨w1, hm1, hret1, hnext1⟩ := Ap h
    clear h
    refine wc w1 (Am4 x0 n0) (Aow) ?_ λ z1 hs1 => ?_
    ·refine wb ?_
     refine Bp 46 rfl λ hl1 => ?_
     refine wl (uT x0 n0 a0) (Aja a0) hm1 (λ z1 hn1 => ?_) λ n1 a1 z1 w1b hi1 hx1 h hb1 hr1 => ?_
     ·clear hm1
      exact wx w1 (Am4 x0 n0) (Aow) Jc 26 [false] [] [] 0 [] _ hC [pq (A7 hl1)] hn1
     ·unfold zK at h
      obtain ⟨y2, h3, h⟩ := Av h
      refine wn Jc 32 [true] [pt hx1 hl1, pc Fo (Fl a1 0 (w64 ((cnt 0 n0) - 1)) _ rfl) [], pR pI h3] [] 0 [0] [2, 3, 4, 8, 9, 10, 46, 47, 48, 71] hC [pq (A5 hi1 hl1)] ?_
      rcases cB h with ⟨h4, h⟩ | ⟨h4, h⟩
      ·have hq := hret1 _ (hr1 _ (sI h).symm)
       replace hq := hret0 _ (hr0 _ (sI hq).symm)
       replace hq := sI hq
       subst hq
       exact wr Jc 24 [true] [] [] 0 [] hC [pq h4]
      ·exact wx w1b (uT x0 n0 a0 (n1 + 1)) (Aja a0 (n1 + 1)) Jc 25 [false] [] [] 0 [0] _ hC [pq h4] (sI h).symm
    ·have h := hnext1 _ hs1
     exact wx w0b (uU x0 (n0 + 1)) (Ajb (n0 + 1)) Jc 23 [] [] [] 0 [] _ hC [] (sI h).symm
 ·have h := hnext0 _ hs0
  replace h := sI h
  subst h
  exact wr Jc 23 [] [] [] 0 [] hC []
theorem Bb7 : EN 165 := en Tryz.func165
theorem Xr (x0 : List Int) (x1 : Int) (r : Bool) (h : Mx x0 x1 = some r) : CO 190 [.d (DS pI x0), .d (I x1)] [] (.d (Bo r)) [] := by
 unfold Mx at h
 refine co 9 Tryz.func190 λ C hC => ?_
 obtain ⟨y1, h2, h⟩ := Av h
 replace h := sI h
 subst h
 exact wr [0, 1, 4] 25 [] [pc Bbm (A_5 x0 x1 _ h2) []] [] 0 [] hC []
theorem Xx : EN 190 := en Tryz.func190
def Oz : List Nat := [0, 1, 4, 5, 7, 8, 9, 16]
def Rz (x0 : List (List Int)) (n0 : Nat) (z0 : Unit) : St := [(0, .d (DS (pL pI) x0)), (1, .d (.fn (.func 192) [] [])), (4, dI 0), (7, dI (ln x0)), (8, dI (cnt 0 n0))]
def Yc  (n0 : Nat) (z0 : Unit) : List Res := []
def Aa1  (z0 : Unit) : St := [(4, dI 0)]
def Acl  (z0 : Unit) : List Res := []
theorem A42 (x0 : List (List Int)) (r : Int) (h : uB x0 = some r) : CO 228 [.d (DS (pL pI) x0), .d (.fn (.func 192) [] [])] [] (.d (I r)) [] := by
 unfold uB at h
 refine co 19 Tryz.func228 λ C hC => ?_
 refine ws Oz 26 [] [pl (pL pI) x0] [] 0 [] (Rz x0 0 ()) (Yc 0 ()) hC [] ?_
 obtain ⟨w0, hm0, hret0, hnext0⟩ := Ap h
 clear h
 refine wc w0 (Aa1) (Acl) ?_ λ z0 hs0 => ?_
 ·refine wb ?_
  refine Bp 0 rfl λ hl0 => ?_
  refine wl (Rz x0) (Yc) hm0 (λ z0 hn0 => ?_) λ n0 a0 z0 w0b hi0 hx0 h hb0 hr0 => ?_
  ·clear hm0
   exact wx w0 (Aa1) (Acl) Oz 26 [false] [] [] 0 [] _ hC [pq (A7 hl0)] hn0
  ·unfold Adh at h
   rcases cB h with ⟨h1, h⟩ | ⟨h1, h⟩
   ·have hq := hret0 _ (hr0 _ (sI h).symm)
    replace hq := sI hq
    subst hq
    exact wr Oz 35 [true, true] [pt hx0 hl0, pc A7h (A5l a0 _ rfl) []] [] 0 [] hC [pq (A5 hi0 hl0), pq h1]
   ·exact wx w0b (Rz x0 (n0 + 1)) (Yc (n0 + 1)) Oz 36 [true, false] [pt hx0 hl0, pc A7h (A5l a0 _ rfl) []] [] 0 [] _ hC [pq (A5 hi0 hl0), pq h1] (sI h).symm
 ·have h := hnext0 _ hs0
  replace h := sI h
  subst h
  exact wr Oz 23 [] [] [] 0 [] hC []
theorem A6y : EN 228 := en Tryz.func228
theorem Ba1 (x0 : Bf) (r : Bool) (h : zV x0 = r) : CO 137 [.agg (A8f x0)] [] (.d (Bo r)) [] := by
 unfold zV at h
 refine co 18 Tryz.func137 λ C hC => ?_
 subst h
 exact wr n3_ 25 [] [pc e99 (k99 x0.Rating 1 50000 _ rfl) [], ⟨.when [(F99 x0.Rating 1 50000, true)] (.call 99 [dI x0.Least, dI 0, dI x0.Rating] [] (dB (F99 x0.Least 0 x0.Rating)) [] []), λ hg => ⟨e99, (k99 x0.Least 0 x0.Rating _ rfl)⟩⟩, ⟨.when [(((F99 x0.Rating 1 50000) && (F99 x0.Least 0 x0.Rating)), true)] (.call 99 [dI x0.Start, dI 0, dI 600] [] (dB (F99 x0.Start 0 600)) [] []), λ hg => ⟨e99, (k99 x0.Start 0 600 _ rfl)⟩⟩] [] 0 [] hC []
theorem Bci : EN 137 := en Tryz.func137
def Vr : List Nat := [0, 1, 2, 4, 5, 6, 8, 9, 10, 11, 33]
def vD (x0 : A1) (x1 : Int) (n0 : Nat) (z0 : Unit) : St := [(1, dI x1), (2, dO 0 0), (4, dB false), (8, .d (DS pI x0.Needs)), (9, dI (ln x0.Needs)), (10, dI (cnt 0 n0))]
def Ajk (x0 : A1) (n0 : Nat) (z0 : Unit) : List Res := [.box 65 (d65 x0)]
def Anj  (z0 : Unit) : St := [(2, dO 0 0), (4, dB false)]
def Apb (x0 : A1) (z0 : Unit) : List Res := [.box 65 (d65 x0)]
theorem Ba0 (x0 : A1) (x1 : Int) (r : Bool) (h : zU x0 x1 = some r) : CO 138 [.agg (d65 x0), .d (I x1)] [] (.d (Bo r)) [] := by
 unfold zU at h
 refine co 61 Tryz.func138 λ C hC => ?_
 refine ws Vr 26 [] [pl pI x0.Needs] [] 0 [0] (vD x0 x1 0 ()) (Ajk x0 0 ()) hC [] ?_
 obtain ⟨w0, hm0, hret0, hnext0⟩ := Ap h
 clear h
 refine wc w0 (Anj) (Apb x0) ?_ λ z0 hs0 => ?_
 ·refine wb ?_
  refine Bp 8 rfl λ hl0 => ?_
  refine wl (vD x0 x1) (Ajk x0) hm0 (λ z0 hn0 => ?_) λ n0 a0 z0 w0b hi0 hx0 h hb0 hr0 => ?_
  ·clear hm0
   exact wx w0 (Anj) (Apb x0) Vr 26 [false] [] [] 0 [0] _ hC [pq (A7 hl0)] hn0
  ·unfold Wm at h
   obtain ⟨y1, h2, h⟩ := Av h
   refine wn Vr 32 [true] [pt hx0 hl0, pc e99 (k99 a0 0 (w64 (x1 - 1)) _ rfl) [], pR pI h2] [] 0 [0] [1, 2, 4, 8, 9, 10, 33] hC [pq (A5 hi0 hl0)] ?_
   rcases cB h with ⟨h3, h⟩ | ⟨h3, h⟩
   ·have hq := hret0 _ (hr0 _ (sI h).symm)
    replace hq := sI hq
    subst hq
    exact wr Vr 24 [true] [] [] 0 [] hC [pq h3]
   ·exact wx w0b (vD x0 x1 (n0 + 1)) (Ajk x0 (n0 + 1)) Vr 25 [false] [] [] 0 [0] _ hC [pq h3] (sI h).symm
 ·have h := hnext0 _ hs0
  replace h := sI h
  subst h
  exact wr Vr 23 [] [pc e99 (k99 x0.Load 0 50000 _ rfl) [], ⟨.when [(F99 x0.Load 0 50000, true)] (.call 99 [dI x0.Least, dI 0, dI x0.Load] [] (dB (F99 x0.Least 0 x0.Load)) [] []), λ hg => ⟨e99, (k99 x0.Least 0 x0.Load _ rfl)⟩⟩, ⟨.when [(((F99 x0.Load 0 50000) && (F99 x0.Least 0 x0.Load)), true)] (.call 99 [dI x0.Bn, dI 0, dI 15] [] (dB (F99 x0.Bn 0 15)) [] []), λ hg => ⟨e99, (k99 x0.Bn 0 15 _ rfl)⟩⟩, ⟨.when [((((F99 x0.Load 0 50000) && (F99 x0.Least 0 x0.Load)) && (F99 x0.Bn 0 15)), true)] (.call 99 [dI x0.Thruster, dI (-1), dI 7] [] (dB (F99 x0.Thruster (-1) 7)) [] []), λ hg => ⟨e99, (k99 x0.Thruster (-1) 7 _ rfl)⟩⟩, pL_ [(((((F99 x0.Load 0 50000) && (F99 x0.Least 0 x0.Load)) && (F99 x0.Bn 0 15)) && (F99 x0.Thruster (-1) 7)), true)] pI x0.Needs] [] 0 [] hC []
theorem Bch : EN 138 := en Tryz.func138
def Vq : List Nat := [0, 1, 4, 5, 6, 11, 12, 13, 16, 19]
theorem Azv (x0 : Int) (x1 : Int) (r : Int) (h : J9 x0 x1 = r) : CO 154 [.d (I x0), .d (I x1)] [] (.d (I r)) [] := by
 unfold J9 at h
 refine co 20 Tryz.func154 λ C hC => ?_
 rcases cB h with ⟨h1, h⟩ | ⟨h1, h⟩
 ·rcases cB h with ⟨h2, h⟩ | ⟨h2, h⟩
  ·subst h
   exact wr Vq 37 [true, true] [pc K5 (K3 x0 _ rfl) [], pc K5 (K3 x1 _ rfl) []] [] 0 [] hC [pq h1, pq h2]
  ·subst h
   exact wr Vq 38 [true, false] [pc K5 (K3 x0 _ rfl) [], pc K5 (K3 x1 _ rfl) []] [] 0 [] hC [pq h1, pq h2]
 ·rcases cB h with ⟨h3, h⟩ | ⟨h3, h⟩
  ·subst h
   exact wr Vq 38 [false, true] [pc K5 (K3 x0 _ rfl) [], pc K5 (K3 x1 _ rfl) []] [] 0 [] hC [pq h1, pq h3]
  ·rcases cB h with ⟨h4, h⟩ | ⟨h4, h⟩
   ·subst h
    exact wr Vq 43 [false, false, true] [pc K5 (K3 x0 _ rfl) [], pc K5 (K3 x1 _ rfl) []] [] 0 [] hC [pq h1, pq h3, pq h4]
   ·rcases cB h with ⟨h5, h⟩ | ⟨h5, h⟩
    ·subst h
     exact wr Vq 48 [false, false, false, true] [pc K5 (K3 x0 _ rfl) [], pc K5 (K3 x1 _ rfl) []] [] 0 [] hC [pq h1, pq h3, pq h4, pq h5]
    ·subst h
     exact wr Vq 49 [false, false, false, false] [pc K5 (K3 x0 _ rfl) [], pc K5 (K3 x1 _ rfl) []] [] 0 [] hC [pq h1, pq h3, pq h4, pq h5]
theorem A0d : EN 154 := en Tryz.func154
theorem k98 (x0 : Ah) (r : Bool) (h : F98 x0 = r) : CO 98 [.agg (Tr x0)] [] (.d (Bo r)) [] := by
 unfold F98 at h
 refine co 21 Tryz.func98 λ C hC => ?_
 subst h
 exact wr n3_ 25 [] [pc e99 (k99 x0.State 0 3 _ rfl) [], ⟨.when [(F99 x0.State 0 3, true)] (.call 99 [dI x0.Since, dI 0, dI 2147483648] [] (dB (F99 x0.Since 0 2147483648)) [] []), λ hg => ⟨e99, (k99 x0.Since 0 2147483648 _ rfl)⟩⟩, ⟨.when [(((F99 x0.State 0 3) && (F99 x0.Since 0 2147483648)), true)] (.call 99 [dI x0.Ar, dI 0, dI 6000] [] (dB (F99 x0.Ar 0 6000)) [] []), λ hg => ⟨e99, (k99 x0.Ar 0 6000 _ rfl)⟩⟩, ⟨.when [((((F99 x0.State 0 3) && (F99 x0.Since 0 2147483648)) && (F99 x0.Ar 0 6000)), true)] (.call 99 [dI x0.Phase, dI 0, dI 3599] [] (dB (F99 x0.Phase 0 3599)) [] []), λ hg => ⟨e99, (k99 x0.Phase 0 3599 _ rfl)⟩⟩] [] 0 [] hC []
theorem e98 : EN 98 := en Tryz.func98
theorem K4 (x0 : Ab) (r : Ab) (h : Ij x0 = some r) : CO 116 [.agg (d36 x0)] [] (.agg [.os 0, .os 1, .os 2, .os 3]) (zp r []) := by
 unfold Ij at h
 refine co 16 Tryz.func116 λ C hC => ?_
 obtain ⟨y1, h2, y3, h4, y5, h6, y7, h8, h⟩ := Cy h
 replace h := sI h
 subst h
 exact wr n3_ 25 [] [pc Bb6 (Bap x0.Ag _ h2) [], pc Bb5 (Bao x0.Ac _ h4) [], pc A7u (A5y x0.Ak _ h6) [], pc Bb4 (Ban x0.Ao _ h8) []] [] 0 [2, 3, 4, 5] hC []
theorem K6 : EN 116 := en Tryz.func116
def H2 : List Nat := [0, 1, 2, 3, 4, 6, 7, 14, 21, 27, 39]
def vN (x1 : An) (z0 : Bool) : St := [(2, dO 0 0), (3, dO 1 0), (4, dB false), (6, dI x1.Kind), (7, dB z0)]
def yY (x0 : Aa) (x1 : An) (z0 : Bool) : List Res := [.box 29 (d29 x0), .box 49 (d49 x1)]
def vM (x1 : An) (z1 : Bool) : St := [(2, dO 0 0), (3, dO 1 0), (4, dB false), (6, dI x1.Kind), (14, dB z1)]
def yX (x0 : Aa) (x1 : An) (z1 : Bool) : List Res := [.box 29 (d29 x0), .box 49 (d49 x1)]
theorem A6a (x0 : Aa) (x1 : An) (r : Bool) (h : Alj x0 x1 = some r) : CO 134 [.agg (d29 x0), .agg (d49 x1)] [] (.d (Bo r)) [] := by
 unfold Alj at h
 refine co 48 Tryz.func134 λ C hC => ?_
 refine wn H2 30 [] [] [] 0 [0, 1] [2, 3, 4, 6, 7] hC [] ?_
 obtain ⟨w0, h, hret0, hnext0⟩ := Ap h
 refine wc w0 (vN x1) (yY x0 x1) ?_ λ z0 hs0 => ?_
 ·unfold zY at h
  rcases cB h with ⟨h1, h⟩ | ⟨h1, h⟩
  ·exact wx w0 (vN x1) (yY x0 x1) H2 23 [true] [] [] 0 [0, 1] _ hC [pq h1] (sI h).symm
  ·exact wx w0 (vN x1) (yY x0 x1) H2 23 [false] [] [] 0 [0, 1] _ hC [pq h1] (sI h).symm
 ·clear h; have h := hnext0 _ hs0
  rcases cB h with ⟨h2, h⟩ | ⟨h2, h⟩
  ·replace h := sI h
   subst h
   exact wr H2 24 [true] [pc Xy (Xs x0 2 x1.Unit _ rfl) []] [] 0 [] hC [pq h2]
  ·refine wn H2 25 [false] [] [] 0 [0, 1] [2, 3, 4, 6, 14] hC [pq h2] ?_
   obtain ⟨w1, h, hret1, hnext1⟩ := Ap h
   refine wc w1 (vM x1) (yX x0 x1) ?_ λ z1 hs1 => ?_
   ·unfold zX at h
    rcases cB h with ⟨h3, h⟩ | ⟨h3, h⟩
    ·exact wx w1 (vM x1) (yX x0 x1) H2 23 [true] [] [] 0 [0, 1] _ hC [pq h3] (sI h).symm
    ·exact wx w1 (vM x1) (yX x0 x1) H2 23 [false] [] [] 0 [0, 1] _ hC [pq h3] (sI h).symm
   ·clear h; have h := hnext1 _ hs1
    rcases cB h with ⟨h4, h⟩ | ⟨h4, h⟩
    ·replace h := sI h
     subst h
     exact wr H2 24 [true] [pc Xy (Xs x0 1 x1.Unit _ rfl) []] [] 0 [] hC [pq h4]
    ·rcases cB h with ⟨h5, h⟩ | ⟨h5, h⟩
     ·replace h := sI h
      subst h
      exact wr H2 27 [false, true] [pc Xy (Xs x0 4 x1.Unit _ rfl) []] [] 0 [] hC [pq h4, pq h5]
     ·rcases cB h with ⟨h6, h⟩ | ⟨h6, h⟩
      ·replace h := sI h
       subst h
       exact wr H2 30 [false, false, true] [pc Xy (Xs x0 1 x1.Unit _ rfl) [], ⟨.when [(J8 x0 1 x1.Unit, true)] (.call 181 [.agg (d29 x0), dI 3, dI x1.Value] [] (dB (J8 x0 3 x1.Value)) [] []), λ hg => ⟨Xy, (Xs x0 3 x1.Value _ rfl)⟩⟩] [] 0 [] hC [pq h4, pq h5, pq h6]
      ·rcases cB h with ⟨h7, h⟩ | ⟨h7, h⟩
       ·replace h := sI h
        subst h
        exact wr H2 36 [false, false, false, true, true] [pc Xy (Xs x0 x1.Value x1.Unit _ rfl) []] [] 0 [] hC [pq h4, pq h5, pq h6, pq h7, pq h7]
       ·rcases cB h with ⟨h8, h⟩ | ⟨h8, h⟩
        ·replace h := sI h
         subst h
         exact wr H2 36 [false, false, false, false, true] [pc Xy (Xs x0 x1.Value x1.Unit _ rfl) []] [] 0 [] hC [pq h4, pq h5, pq h6, pq h7, pq h8]
        ·replace h := sI h
         subst h
         exact wr H2 38 [false, false, false, false, false] [] [] 0 [] hC [pq h4, pq h5, pq h6, pq h7, pq h8]
theorem A76 : EN 134 := en Tryz.func134
theorem Bav (x0 : List Al) (x1 : Al) (r : Bool) (h : Atb x0 x1 = some r) : CO 157 [.d (DS q86 x0), .agg (d86 x1)] [] (.d (Bo r)) [] := by
 unfold Atb at h
 refine co 9 Tryz.func157 λ C hC => ?_
 obtain ⟨y1, h2, h⟩ := Av h
 replace h := sI h
 subst h
 exact wr [0, 1, 3, 4] 25 [] [pc Bbv (Bae x0 x1 _ h2) []] [] 0 [] hC []
theorem Bcc : EN 157 := en Tryz.func157
theorem Azw (x0 : Aa) (x1 : Ab) (x2 : Int) (r : Int × Bool) (h : Y4 x0 x1 x2 = some r) : CO 144 [.agg (d29 x0), .agg (d36 x1), .d (I x2)] [] (.tup [.d (I r.1), .d (Bo r.2)]) [] := by
 unfold Y4 at h
 refine co 14 Tryz.func144 λ C hC => ?_
 obtain ⟨y1, h2, h⟩ := Av h
 replace h := sI h
 subst h
 exact wr [0, 1, 2, 3, 4, 6, 7] 25 [] [pc A7g (A5k x0 x1 3 x2 _ h2) []] [] 0 [] hC []
theorem A0e : EN 144 := en Tryz.func144
def Aqo : List Nat := [0, 1, 2, 3, 4, 6, 7, 23]
theorem Azx (x0 : Aa) (x1 : Ab) (x2 : Int) (r : Int × Bool) (h : Y5 x0 x1 x2 = some r) : CO 143 [.agg (d29 x0), .agg (d36 x1), .d (I x2)] [] (.tup [.d (I r.1), .d (Bo r.2)]) [] := by
 unfold Y5 at h
 refine co 30 Tryz.func143 λ C hC => ?_
 obtain ⟨y1, h2, h⟩ := Av h
 refine wn Aqo 26 [] [pl A_ x1.Ac, pc e99 (k99 x2 0 (w64 ((ln x1.Ac) - 1)) _ rfl) [], pR A_ h2] [] 0 [0, 1] [2, 3, 4, 6, 7, 23] hC [] ?_
 rcases cB h with ⟨h3, h⟩ | ⟨h3, h⟩
 ·replace h := sI h
  subst h
  exact wr Aqo 24 [true] [] [] 0 [] hC [pq h3]
 ·obtain ⟨y4, h5, h⟩ := Av h
  replace h := sI h
  subst h
  exact wr Aqo 25 [false] [pc A7g (A5k x0 x1 2 x2 _ h5) []] [] 0 [] hC [pq h3]
theorem A0f : EN 143 := en Tryz.func143
def Lz : List Nat := [0, 1, 4, 5, 7, 8, 9, 16]
def Sf (x0 : List Af) (n0 : Nat) (z0 : Unit) : St := [(0, .d (DS q84 x0)), (1, .d (.fn (.func 146) [] [])), (4, dI 0), (7, dI (ln x0)), (8, dI (cnt 0 n0))]
def Yo  (n0 : Nat) (z0 : Unit) : List Res := []
def Abn  (z0 : Unit) : St := [(4, dI 0)]
def Ac8  (z0 : Unit) : List Res := []
theorem Avm (x0 : List Af) (r : Int) (h : U1 x0 = some r) : CO 141 [.d (DS q84 x0), .d (.fn (.func 146) [] [])] [] (.d (I r)) [] := by
 unfold U1 at h
 refine co 19 Tryz.func141 λ C hC => ?_
 refine ws Lz 26 [] [pl q84 x0] [] 0 [] (Sf x0 0 ()) (Yo 0 ()) hC [] ?_
 obtain ⟨w0, hm0, hret0, hnext0⟩ := Ap h
 clear h
 refine wc w0 (Abn) (Ac8) ?_ λ z0 hs0 => ?_
 ·refine wb ?_
  refine Bp 0 rfl λ hl0 => ?_
  refine wl (Sf x0) (Yo) hm0 (λ z0 hn0 => ?_) λ n0 a0 z0 w0b hi0 hx0 h hb0 hr0 => ?_
  ·clear hm0
   exact wx w0 (Abn) (Ac8) Lz 26 [false] [] [] 0 [] _ hC [pq (A7 hl0)] hn0
  ·unfold Adr at h
   refine wn Lz 32 [true] [pt hx0 hl0, pc A71 (A55 a0 _ rfl) []] [] 0 [] [0, 1, 4, 5, 7, 8, 16] hC [pq (A5 hi0 hl0)] ?_
   rcases cB h with ⟨h1, h⟩ | ⟨h1, h⟩
   ·have hq := hret0 _ (hr0 _ (sI h).symm)
    replace hq := sI hq
    subst hq
    exact wr Lz 24 [true] [] [] 0 [] hC [pq h1]
   ·exact wx w0b (Sf x0 (n0 + 1)) (Yo (n0 + 1)) Lz 25 [false] [] [] 0 [] _ hC [pq h1] (sI h).symm
 ·have h := hnext0 _ hs0
  replace h := sI h
  subst h
  exact wr Lz 23 [] [] [] 0 [] hC []
theorem Awf : EN 141 := en Tryz.func141
theorem A_1 (x0 : Int) (x1 : Int) (r : Int) (h : Asz x0 x1 = r) : CO 248 [.d (I x0), .d (I x1)] [] (.d (I r)) [] := by
 unfold Asz at h
 refine co 17 Tryz.func248 λ C hC => ?_
 refine wn [0, 1, 4, 5, 13] 28 [] [pc Ahz (Ag5 x1 _ rfl) [], pc Ahz (Ag5 x0 _ rfl) [], pc Ahz (Ag5 (w64 ((G8 x1) - (G8 x0))) _ rfl) []] [] 0 [] [4, 5, 13] hC [] ?_
 rcases cB h with ⟨h1, h⟩ | ⟨h1, h⟩
 ·subst h
  exact wr [0, 1, 4, 5, 13] 25 [true] [] [] 0 [] hC [pq h1]
 ·subst h
  exact wr [0, 1, 4, 5, 13] 25 [false] [] [] 0 [] hC [pq h1]
theorem Bbi : EN 248 := en Tryz.func248
def Lr : List Nat := [0, 1, 4, 5, 7, 8, 9, 16]
def R6 (x0 : List Aj) (n0 : Nat) (z0 : Unit) : St := [(0, .d (DS Bg x0)), (1, .d (.fn (.func 244) [] [.o 0 0])), (4, dI 0), (7, dI (ln x0)), (8, dI (cnt 0 n0))]
def Ye (x1c0 : Int) (n0 : Nat) (z0 : Unit) : List Res := [.box 3 [I x1c0]]
def Aa4  (z0 : Unit) : St := [(4, dI 0)]
def Aco (x1c0 : Int) (z0 : Unit) : List Res := [.box 3 [I x1c0]]
theorem A48 (x0 : List Aj) (x1c0 : Int) (r : Int × Int) (h : uC x0 x1c0 = some r) : CO 218 [.d (DS Bg x0), .d (.fn (.func 244) [] [.o 0 0])] [.box 3 [I x1c0]] (.d (I r.1)) [.box 3 [I r.2]] := by
 unfold uC at h
 refine co 19 Tryz.func218 λ C hC => ?_
 refine ws Lr 26 [] [pl Bg x0] [] 1 [0] (R6 x0 0 ()) (Ye x1c0 0 ()) hC [] ?_
 obtain ⟨w0, hm0, hret0, hnext0⟩ := Ap h
 clear h
 refine wc w0 (Aa4) (Aco x1c0) ?_ λ z0 hs0 => ?_
 ·refine wb ?_
  refine Bp 0 rfl λ hl0 => ?_
  refine wl (R6 x0) (Ye x1c0) hm0 (λ z0 hn0 => ?_) λ n0 a0 z0 w0b hi0 hx0 h hb0 hr0 => ?_
  ·clear hm0
   exact wx w0 (Aa4) (Aco x1c0) Lr 26 [false] [] [] 1 [0] _ hC [pq (A7 hl0)] hn0
  ·unfold Nv at h
   refine wn Lr 32 [true] [pt hx0 hl0, pb A6s (A4w a0 x1c0 _ rfl)] [] 1 [0] [0, 1, 4, 5, 7, 8, 16] hC [pq (A5 hi0 hl0)] ?_
   rcases cB h with ⟨h1, h⟩ | ⟨h1, h⟩
   ·have hq := hret0 _ (hr0 _ (sI h).symm)
    replace hq := sI hq
    subst hq
    exact wr Lr 24 [true] [] [] 1 [0] hC [pq h1]
   ·exact wx w0b (R6 x0 (n0 + 1)) (Ye x1c0 (n0 + 1)) Lr 25 [false] [] [] 1 [0] _ hC [pq h1] (sI h).symm
 ·have h := hnext0 _ hs0
  replace h := sI h
  subst h
  exact wr Lr 23 [] [] [] 1 [0] hC []
theorem A64 : EN 218 := en Tryz.func218
def Lp : List Nat := [0, 1, 2, 4, 6, 7, 8, 9, 10, 11, 17, 31]
def M1 (x0 : List Al) (z0 : Int × Int) : St := [(0, .d (DS q86 x0)), (2, .d (.fn (.func 224) [] [])), (4, dO 0 0), (6, dI 0), (7, dB false), (8, dI (ln x0)), (9, dI z0.1), (10, dI z0.2)]
def Q4 (x1 : Al) (z0 : Int × Int) : List Res := [.box 86 (d86 x1)]
def Aa2 (x0 : List Al) (z0 : Int × Int) : St := [(0, .d (DS q86 x0)), (2, .d (.fn (.func 224) [] [])), (4, dO 0 0), (6, dI 0), (7, dB false), (8, dI (ln x0)), (9, dI z0.1)]
def Acm (x1 : Al) (z0 : Int × Int) : List Res := [.box 86 (d86 x1)]
theorem Avi (x0 : List Al) (x1 : Al) (r : Int × Bool) (h : Ub x0 x1 = some r) : CO 223 [.d (DS q86 x0), .agg (d86 x1), .d (.fn (.func 224) [] [])] [] (.tup [.d (I r.1), .d (Bo r.2)]) [] := by
 unfold Ub at h
 refine co 49 Tryz.func223 λ C hC => ?_
 refine ws Lp 28 [] [pl q86 x0] [] 0 [0] (M1 x0 (0, (ln x0))) (Q4 x1 (0, (ln x0))) hC [] ?_
 obtain ⟨w0, hm0, hret0, hnext0⟩ := Ap h
 clear h
 refine wc w0 (Aa2 x0) (Acm x1) ?_ λ z0 hs0 => ?_
 ·refine wb ?_
  refine ww (M1 x0) (Q4 x1) hm0 λ z0 w0b h hb0 hr0 => ?_
  unfold Ua at h
  rcases cB h with ⟨h1, h⟩ | ⟨h1, h⟩
  ·obtain ⟨y2, h3, h⟩ := Av h
   refine wn Lp 31 [true] [pr q86 h3, pc A61 (A45 y2 x1 _ rfl) []] [] 0 [0] [0, 2, 4, 6, 7, 8, 9, 10, 11, 31] hC [pq h1] ?_
   rcases cB h with ⟨h4, h⟩ | ⟨h4, h⟩
   ·exact wx w0b (M1 x0) (Q4 x1) Lp 24 [true] [] [] 0 [0] _ hC [pq h4] (sI h).symm
   ·exact wx w0b (M1 x0) (Q4 x1) Lp 24 [false] [] [] 0 [0] _ hC [pq h4] (sI h).symm
  ·exact wx w0 (Aa2 x0) (Acm x1) Lp 26 [false] [] [] 0 [0] (z0.1, z0.2) hC [pq h1] (hb0 _ (sI h).symm)
 ·have h := hnext0 _ hs0
  obtain ⟨y5, h6, h⟩ := Av h
  replace h := sI h
  subst h
  exact wr Lp 23 [] [pR q86 h6, ⟨.when [(decide (z0.1 < (ln x0)), true)] (.call 224 [.agg (d86 y5), .agg (d86 x1)] [] (dI (Rh y5 x1)) [] []), λ hg => ⟨A61, (A45 y5 x1 _ rfl)⟩⟩] [] 0 [] hC []
theorem Awb : EN 223 := en Tryz.func223
def Hy : List Nat := [0, 1, 4, 5, 6, 8, 13, 14, 15, 16, 32, 38, 39, 40, 41]
def M5 (x0 : Ax) (n0 : Nat) (z0 : (List Int)) : St := [(0, dO 0 0), (1, .d (.fn (.func 235) [] [.o 6 0])), (4, dS 7), (13, .d (DS Bg x0.Am.Ae)), (14, dI (ln x0.Am.Ae)), (15, dI (cnt 0 n0))]
def Q8 (x0 : Ax) (x1c0 : Int) (n0 : Nat) (z0 : (List Int)) : List Res := (.box 235 (zb x0.Am [.os 8, .os 9, .os 10, .os 11, .os 12]) :: .non :: .non :: .non :: .non :: .non :: .box 3 [I x1c0] :: v0_ z0 :: zp x0.Au [v6_ x0.acts])
def Aa9  (z0 : (List Int)) : St := [(0, dO 0 0), (4, dS 7)]
def Acu (x0 : Ax) (x1c0 : Int) (z0 : (List Int)) : List Res := (.box 235 (zb x0.Am [.os 8, .os 9, .os 10, .os 11, .os 12]) :: .non :: .non :: .non :: .non :: .non :: .box 3 [I x1c0] :: v0_ z0 :: zp x0.Au [v6_ x0.acts])
def R7 (z0 : (List Int)) (n1 : Nat) (z1 : Sg7) : St := [(0, dO 0 0), (38, dS 7), (39, dI (ln z0)), (40, dI (cnt 0 n1))]
def Yf (x1c0 : Int) (z0 : (List Int)) (n1 : Nat) (z1 : Sg7) : List Res := [.box 235 [I z1.1, DS Bg z1.2.1, DS Bu z1.2.2.1, DS q65 (g3_ z1), I (g4_ z1), I (g5_ z1), .os 8, .os 9, .os 10, .os 11, .os 12], .non, .non, .non, .non, .non, .box 3 [I x1c0], v0_ z0, v2_ (g6_ z1), v4_ (g7_ z1), v0_ (g8_ z1), v3_ (g9_ z1), v6_ (F3 z1)]
def Aa8  (z1 : Sg7) : St := []
def Acs (x1c0 : Int) (z1 : Sg7) : List Res := [.box 235 [I z1.1, DS Bg z1.2.1, DS Bu z1.2.2.1, DS q65 (g3_ z1), I (g4_ z1), I (g5_ z1), .os 7, .os 8, .os 9, .os 10, .os 11], .non, .non, .non, .non, .non, .box 3 [I x1c0], v2_ (g6_ z1), v4_ (g7_ z1), v0_ (g8_ z1), v3_ (g9_ z1), v6_ (F3 z1)]
theorem A5e (x0 : Ax) (x1c0 : Int) (r : Ax × Int) (h : Ul x0 x1c0 = some r) : CO 204 [.d (.o 0 0), .d (.fn (.func 235) [] [.o 6 0])] (.box 235 (zb x0.Am [.os 1, .os 2, .os 3, .os 4, .os 5]) :: zp x0.Au [v6_ x0.acts, .box 3 [I x1c0]]) (.tup []) (.box 235 (zb r.1.Am [.os 7, .os 8, .os 9, .os 10, .os 11]) :: .non :: .non :: .non :: .non :: .non :: .box 3 [I r.2] :: zp r.1.Au [v6_ r.1.acts]) := by
 unfold Ul at h
 refine co 48 Tryz.func204 λ C hC => ?_
 refine ws Hy 26 [] [pl Bg x0.Am.Ae] [.own 4 3 1, .mv 1, .mv 2, .mv 3, .mv 4, .mv 5] 7 Gl (M5 x0 0 ([] : List Int)) (Q8 x0 x1c0 0 ([] : List Int)) hC [] ?_
 obtain ⟨w0, hm0, hret0, hnext0⟩ := Ap h
 clear h
 refine wc w0 (Aa9) (Acu x0 x1c0) ?_ λ z0 hs0 => ?_
 ·refine wb ?_
  refine Bp 13 rfl λ hl0 => ?_
  refine wl (M5 x0) (Q8 x0 x1c0) hm0 (λ z0 hn0 => ?_) λ n0 a0 z0 w0b hi0 hx0 h hb0 hr0 => ?_
  ·clear hm0
   exact wx w0 (Aa9) (Acu x0 x1c0) Hy 26 [false] [] [] 7 Gl _ hC [pq (A7 hl0)] hn0
  ·unfold Uk at h
   obtain ⟨y1, h2, h⟩ := Av h
   refine wn Hy 32 [true] [pt hx0 hl0, pr pB h2, pn pB h2, ⟨.when [(y1, true)] (.callB 235 [.agg (Oc a0), .d (.ip [.v (.int .i64 x1c0)])] (dB (T8 a0 x1c0)) [[]] 0 []), λ hg => I2 ⟨A6v, (A4z a0 x1c0 _ rfl)⟩⟩] [] 7 Gl [0, 1, 4, 5, 13, 14, 15, 32] hC [pq (A5 hi0 hl0)] ?_
   rcases cB h with ⟨h3, h⟩ | ⟨h3, h⟩
   ·obtain ⟨y4, h5, h⟩ := Av h
    exact wx w0b (M5 x0 (n0 + 1)) (Q8 x0 x1c0 (n0 + 1)) Hy 25 [true] [pa pI 1 h5] [] 7 [0, 1, 2, 3, 4, 5, 6, 13, 8, 9, 10, 11, 12] _ hC [pq h3] (sI h).symm
   ·exact wx w0b (M5 x0 (n0 + 1)) (Q8 x0 x1c0 (n0 + 1)) Hy 25 [false] [] [] 7 Gl _ hC [pq h3] (sI h).symm
 ·have h := hnext0 _ hs0
  refine ws Hy 23 [] [pl pI z0] [] 7 Gl (R7 z0 0 (zt x0.Am (zu x0.Au x0.acts))) (Yf x1c0 z0 0 (zt x0.Am (zu x0.Au x0.acts))) hC [] ?_
  obtain ⟨w1, hm1, hret1, hnext1⟩ := Ap h
  clear h
  refine wc w1 (Aa8) (Acs x1c0) ?_ λ z1 hs1 => ?_
  ·refine wb ?_
   refine B3 38 7 rfl rfl λ hl1 => ?_
   refine wl (R7 z0) (Yf x1c0 z0) hm1 (λ z1 hn1 => ?_) λ n1 a1 z1 w1b hi1 hx1 h hb1 hr1 => ?_
   ·clear hm1
    exact wx w1 (Aa8) (Acs x1c0) Hy 26 [false] [] [] 7 [0, 1, 2, 3, 4, 5, 6, 8, 9, 10, 11, 12] _ hC [pq (A7 hl1)] hn1
   ·unfold Adk at h
    obtain ⟨y6, h7, h⟩ := Av h
    exact wx w1b (R7 z0 (n1 + 1)) (Yf x1c0 z0 (n1 + 1)) Hy 33 [true] [pr pI (Be hx1 hl1), pn pI (Be hx1 hl1), pc Ahy (Ag4 (⟨(⟨z1.1, z1.2.1, z1.2.2.1, (g3_ z1), (g4_ z1), (g5_ z1)⟩ : Aa), (⟨(g6_ z1), (g7_ z1), (g8_ z1), (g9_ z1)⟩ : Ab), (F3 z1)⟩ : Ax) a1 _ h7) [0, 8, 9, 10, 11, 12]] [] 7 [0, 1, 2, 3, 4, 5, 6, 7, 8, 9, 10, 11, 13] _ hC [pq (A5 hi1 hl1)] (sI h).symm
  ·have h := hnext1 _ hs1
   replace h := sI h
   subst h
   exact wf Hy 20 [] [] [] 7 Er hC []
theorem A7a : EN 204 := en Tryz.func204
theorem k60 (x0 : Ab) (x1 : Ab) (r : Bool) (h : F60 x0 x1 = some r) : CO 60 [.agg (d36 x0), .agg (d36 x1)] [] (.d (Bo r)) [] := by
 unfold F60 at h
 refine co 31 Tryz.func60 λ C hC => ?_
 obtain ⟨y1, h2, y3, h4, y5, h6, y7, h8, h⟩ := Cy h
 replace h := sI h
 subst h
 exact wr n5_ 25 [] [pc Bcq (Ba9 x0.Ag x1.Ag _ h2) [], pw Bcp (λ hg => Ba8 x0.Ac x1.Ac _ (A9 h4 hg)) [], pw Bco (λ hg => Ba7 x0.Ak x1.Ak _ (A9 h6 hg)) [], pw Bcn (λ hg => Ba6 x0.Ao x1.Ao _ (A9 h8 hg)) []] [] 0 [] hC []
theorem e60 : EN 60 := en Tryz.func60
def Me : List Nat := [0, 1, 2, 3, 4, 5, 6, 38, 41, 42, 43, 55, 59, 60, 61, 73]
def Afs (x0 : Ab) (z0 : Int) : St := [(2, dO 0 0), (3, dO 1 0), (4, dB false), (41, dI (ln x0.Ac)), (42, dI z0)]
def Asi (x0 : Ab) (x1 : Ab) (z0 : Int) : List Res := [.box 36 (d36 x0), .box 36 (d36 x1)]
def Au1  (z0 : Int) : St := [(2, dO 0 0), (3, dO 1 0), (4, dB false)]
def Ayk (x0 : Ab) (x1 : Ab) (z0 : Int) : List Res := [.box 36 (d36 x0), .box 36 (d36 x1)]
def Afr (x0 : Ab) (z1 : Int) : St := [(2, dO 0 0), (3, dO 1 0), (4, dB false), (59, dI (ln x0.Ao)), (60, dI z1)]
def Ash (x0 : Ab) (x1 : Ab) (z1 : Int) : List Res := [.box 36 (d36 x0), .box 36 (d36 x1)]
def Au0  (z1 : Int) : St := [(4, dB false)]
def Ayj  (z1 : Int) : List Res := []
theorem k19 (x0 : Ab) (x1 : Ab) (r : Bool) (h : F19 x0 x1 = some r) : CO 19 [.agg (d36 x0), .agg (d36 x1)] [] (.d (Bo r)) [] := by
 unfold F19 at h
 refine co 75 Tryz.func19 λ C hC => ?_
 obtain ⟨y1, h2, y3, h4, h⟩ := A8 h
 refine wn Me 26 [] [pc e37 (k37 x0.Ag x1.Ag _ h2) [], pw e38 (λ hg => k38 x0.Ak x1.Ak _ (A9 h4 hg)) [], pL_ [(((!y1) || (!y3)), false)] A_ x0.Ac, pL_ [(((!y1) || (!y3)), false)] A_ x1.Ac, pL_ [((((!y1) || (!y3)) || ((ln x0.Ac) != (ln x1.Ac))), false)] q86 x0.Ao, pL_ [((((!y1) || (!y3)) || ((ln x0.Ac) != (ln x1.Ac))), false)] q86 x1.Ao] [] 0 [0, 1] [2, 3, 4, 38] hC [] ?_
 rcases cB h with ⟨h5, h⟩ | ⟨h5, h⟩
 ·replace h := sI h
  subst h
  exact wr Me 24 [true] [] [] 0 [] hC [pq h5]
 ·refine ws Me 26 [false] [pl A_ x0.Ac] [] 0 [0, 1] (Afs x0 0) (Asi x0 x1 0) hC [pq h5] ?_
  obtain ⟨w0, hm0, hret0, hnext0⟩ := Ap h
  clear h
  refine wc w0 (Au1) (Ayk x0 x1) ?_ λ z0 hs0 => ?_
  ·refine wb ?_
   refine ww (Afs x0) (Asi x0 x1) hm0 λ z0 w0b h hb0 hr0 => ?_
   unfold Ak6 at h
   rcases cB h with ⟨h6, h⟩ | ⟨h6, h⟩
   ·obtain ⟨y7, h8, y9, h10, h⟩ := A8 h
    rcases cB h with ⟨h11, h⟩ | ⟨h11, h⟩
    ·have hq := hret0 _ (hr0 _ (sI h).symm)
     replace hq := sI hq
     subst hq
     exact wr Me 35 [true, true] [pr A_ h8, pr A_ h10] [] 0 [] hC [pq h6, pq h11]
    ·exact wx w0b (Afs x0) (Asi x0 x1) Me 36 [true, false] [pr A_ h8, pr A_ h10] [] 0 [0, 1] _ hC [pq h6, pq h11] (sI h).symm
   ·exact wx w0 (Au1) (Ayk x0 x1) Me 26 [false] [] [] 0 [0, 1] z0 hC [pq h6] (hb0 _ (sI h).symm)
  ·have h := hnext0 _ hs0
   refine ws Me 24 [] [pl q86 x0.Ao] [] 0 [0, 1] (Afr x0 0) (Ash x0 x1 0) hC [] ?_
   obtain ⟨w1, hm1, hret1, hnext1⟩ := Ap h
   clear h
   refine wc w1 (Au0) (Ayj) ?_ λ z1 hs1 => ?_
   ·refine wb ?_
    refine ww (Afr x0) (Ash x0 x1) hm1 λ z1 w1b h hb1 hr1 => ?_
    unfold Ak5 at h
    rcases cB h with ⟨h12, h⟩ | ⟨h12, h⟩
    ·obtain ⟨y13, h14, y15, h16, h⟩ := A8 h
     rcases cB h with ⟨h17, h⟩ | ⟨h17, h⟩
     ·have hq := hret1 _ (hr1 _ (sI h).symm)
      replace hq := sI hq
      subst hq
      exact wr Me 35 [true, true] [pr q86 h14, pr q86 h16] [] 0 [] hC [pq h12, pq h17]
     ·exact wx w1b (Afr x0) (Ash x0 x1) Me 36 [true, false] [pr q86 h14, pr q86 h16] [] 0 [0, 1] _ hC [pq h12, pq h17] (sI h).symm
    ·exact wx w1 (Au0) (Ayj) Me 26 [false] [] [] 0 [] z1 hC [pq h12] (hb1 _ (sI h).symm)
   ·have h := hnext1 _ hs1
    replace h := sI h
    subst h
    exact wr Me 23 [] [] [] 0 [] hC []
theorem e19 : EN 19 := en Tryz.func19
def Ad6 : List Nat := [0, 1, 2, 3, 4, 6, 7, 16, 18, 19, 25]
theorem Ba3 (x0 : Aa) (x1 : Ab) (x2 : Int) (r : Bool) (h : All x0 x1 x2 = some r) : CO 130 [.agg (d29 x0), .agg (d36 x1), .d (I x2)] [] (.d (Bo r)) [] := by
 unfold All at h
 refine co 45 Tryz.func130 λ C hC => ?_
 obtain ⟨y1, h2, y3, h4, h⟩ := A8 h
 rcases cB h with ⟨h5, h⟩ | ⟨h5, h⟩
 ·replace h := sI h
  subst h
  exact wr Ad6 31 [true] [pr Bg h2, pc e49 (k49 x1 3 y1.A _ h4) []] [] 0 [] hC [pq h5]
 ·rcases cB h with ⟨h6, h⟩ | ⟨h6, h⟩
  ·obtain ⟨y7, h8, h⟩ := Av h
   replace h := sI h
   subst h
   exact wr Ad6 39 [false, true] [pr Bg h2, pc e49 (k49 x1 3 y1.A _ h4) [], pc e49 (k49 x1 3 y1.B _ h8) []] [] 0 [] hC [pq h5, pq h6]
  ·rcases cB h with ⟨h9, h⟩ | ⟨h9, h⟩
   ·obtain ⟨y10, h11, y12, h13, h⟩ := A8 h
    replace h := sI h
    subst h
    exact wr Ad6 42 [false, false, true] [pr Bg h2, pc e49 (k49 x1 3 y1.A _ h4) [], pc e49 (k49 x1 1 y1.B _ h11) [], pR A_ h13] [] 0 [] hC [pq h5, pq h6, pq h9]
   ·obtain ⟨y14, h15, h⟩ := Av h
    replace h := sI h
    subst h
    exact wr Ad6 44 [false, false, false] [pr Bg h2, pc e49 (k49 x1 3 y1.A _ h4) [], pc e49 (k49 x1 4 y1.B _ h15) []] [] 0 [] hC [pq h5, pq h6, pq h9]
theorem Bck : EN 130 := en Tryz.func130
theorem A58 (x0 : Int) (x1 : Int) (r : Int × Int) (h : Jn x0 x1 = r) : CO 140 [.d (.p (.v (.int .u64 x0))), .d (.p (.v (.int .u64 x1)))] [] (.tup [.d (.p (.v (.int .u64 r.1))), .d (.p (.v (.int .u64 r.2)))]) [] := by
 unfold Jn at h
 refine co 30 Tryz.func140 λ C hC => ?_
 subst h
 exact wr [0, 1, 4, 5, 6, 7, 8, 9] 30 [false] [pc Bbx (Bag x0 x1 _ rfl) []] [] 0 [] hC [⟨(false, false), rfl⟩]
theorem A74 : EN 140 := en Tryz.func140
theorem A9n (x0 : A3) (x1c0 : A0) (r : Bool × A0) (h : Ki x0 x1c0 = r) : CO 62 [.agg (A0i x0), .d (.o 0 0)] [.box 126 [.fn (.func 58) [] [.o 1 0]], .box 40 (d40 x1c0)] (.d (Bo r.1)) [.box 126 [.fn (.func 58) [] [.o 1 0]], .box 40 (d40 r.2)] := by
 unfold Ki at h
 refine co 16 Tryz.func62 λ C hC => ?_
 subst h
 exact wr n4_ 25 [] [pb A2a (A15 x0.High x1c0 _ rfl), ⟨.when [(!(Wf x0.High x1c0), false)] (.callB 58 [dI x0.Low, .d (.ip [.v (.int .i64 x1c0.Time), .s (x1c0.Power.Ag.map pB), .s (x1c0.Power.Ac.map A_), .s (x1c0.Power.Ak.map pI), .s (x1c0.Power.Ao.map q86), .s (x1c0.A6.map Ce), .s (x1c0.Bc.map q51)])] (dB (Wf x0.Low x1c0)) [[]] 0 []), λ hg => I2 ⟨A2a, (A15 x0.Low x1c0 _ rfl)⟩⟩] [] 2 [0, 1] hC []
theorem A95 : EN 62 := en Tryz.func62
def Lq : List Nat := [0, 1, 4, 5, 7, 8, 9, 16]
def R5 (x0 : List Aj) (n0 : Nat) (z0 : Unit) : St := [(0, .d (DS Bg x0)), (1, .d (.fn (.func 219) [] [.o 0 0])), (4, dI 0), (7, dI (ln x0)), (8, dI (cnt 0 n0))]
def Yd (x1c0 : Int) (n0 : Nat) (z0 : Unit) : List Res := [.box 3 [I x1c0]]
def Aa3  (z0 : Unit) : St := [(4, dI 0)]
def Acn (x1c0 : Int) (z0 : Unit) : List Res := [.box 3 [I x1c0]]
theorem A47 (x0 : List Aj) (x1c0 : Int) (r : Int × Int) (h : Ak3 x0 x1c0 = some r) : CO 218 [.d (DS Bg x0), .d (.fn (.func 219) [] [.o 0 0])] [.box 3 [I x1c0]] (.d (I r.1)) [.box 3 [I r.2]] := by
 unfold Ak3 at h
 refine co 19 Tryz.func218 λ C hC => ?_
 refine ws Lq 26 [] [pl Bg x0] [] 1 [0] (R5 x0 0 ()) (Yd x1c0 0 ()) hC [] ?_
 obtain ⟨w0, hm0, hret0, hnext0⟩ := Ap h
 clear h
 refine wc w0 (Aa3) (Acn x1c0) ?_ λ z0 hs0 => ?_
 ·refine wb ?_
  refine Bp 0 rfl λ hl0 => ?_
  refine wl (R5 x0) (Yd x1c0) hm0 (λ z0 hn0 => ?_) λ n0 a0 z0 w0b hi0 hx0 h hb0 hr0 => ?_
  ·clear hm0
   exact wx w0 (Aa3) (Acn x1c0) Lq 26 [false] [] [] 1 [0] _ hC [pq (A7 hl0)] hn0
  ·unfold Adi at h
   refine wn Lq 32 [true] [pt hx0 hl0, pb A62 (A46 a0 x1c0 _ rfl)] [] 1 [0] [0, 1, 4, 5, 7, 8, 16] hC [pq (A5 hi0 hl0)] ?_
   rcases cB h with ⟨h1, h⟩ | ⟨h1, h⟩
   ·have hq := hret0 _ (hr0 _ (sI h).symm)
    replace hq := sI hq
    subst hq
    exact wr Lq 24 [true] [] [] 1 [0] hC [pq h1]
   ·exact wx w0b (R5 x0 (n0 + 1)) (Yd x1c0 (n0 + 1)) Lq 25 [false] [] [] 1 [0] _ hC [pq h1] (sI h).symm
 ·have h := hnext0 _ hs0
  replace h := sI h
  subst h
  exact wr Lq 23 [] [] [] 1 [0] hC []
theorem A63 : EN 218 := en Tryz.func218
theorem Baf (x0 : Dh) (r : Int) (h : As3 x0 = r) : CO 198 [.agg (Arb x0)] [] (.d (I r)) [] := by
 unfold As3 at h
 refine co 9 Tryz.func198 λ C hC => ?_
 subst h
 exact wr n3_ 25 [] [pc Ahz (Ag5 (w64 (x0.To - x0.From)) _ rfl) []] [] 0 [] hC []
theorem Bbw : EN 198 := en Tryz.func198
def S6 : List Nat := [0, 1, 4, 5, 7, 8, 9, 16]
def Aff (x0 : List A1) (n0 : Nat) (z0 : Unit) : St := [(0, .d (DS q65 x0)), (1, .d (.fn (.func 45) [] [.o 0 0])), (4, dI 0), (7, dI (ln x0)), (8, dI (cnt 0 n0))]
def Apo (x1c0 : Int) (n0 : Nat) (z0 : Unit) : List Res := [.box 3 [I x1c0]]
def Af7  (z0 : Unit) : St := [(4, dI 0)]
def Aiw (x1c0 : Int) (z0 : Unit) : List Res := [.box 3 [I x1c0]]
theorem A9q (x0 : List A1) (x1c0 : Int) (r : Int × Int) (h : Asy x0 x1c0 = some r) : CO 44 [.d (DS q65 x0), .d (.fn (.func 45) [] [.o 0 0])] [.box 3 [I x1c0]] (.d (I r.1)) [.box 3 [I r.2]] := by
 unfold Asy at h
 refine co 19 Tryz.func44 λ C hC => ?_
 refine ws S6 26 [] [pl q65 x0] [] 1 [0] (Aff x0 0 ()) (Apo x1c0 0 ()) hC [] ?_
 obtain ⟨w0, hm0, hret0, hnext0⟩ := Ap h
 clear h
 refine wc w0 (Af7) (Aiw x1c0) ?_ λ z0 hs0 => ?_
 ·refine wb ?_
  refine Bp 0 rfl λ hl0 => ?_
  refine wl (Aff x0) (Apo x1c0) hm0 (λ z0 hn0 => ?_) λ n0 a0 z0 w0b hi0 hx0 h hb0 hr0 => ?_
  ·clear hm0
   exact wx w0 (Af7) (Aiw x1c0) S6 26 [false] [] [] 1 [0] _ hC [pq (A7 hl0)] hn0
  ·unfold Akh at h
   refine wn S6 32 [true] [pt hx0 hl0, pb A97 (A9p a0 x1c0 _ rfl)] [] 1 [0] [0, 1, 4, 5, 7, 8, 16] hC [pq (A5 hi0 hl0)] ?_
   rcases cB h with ⟨h1, h⟩ | ⟨h1, h⟩
   ·have hq := hret0 _ (hr0 _ (sI h).symm)
    replace hq := sI hq
    subst hq
    exact wr S6 24 [true] [] [] 1 [0] hC [pq h1]
   ·cases h
 ·have h := hnext0 _ hs0
  replace h := sI h
  subst h
  exact wr S6 23 [] [] [] 1 [0] hC []
theorem A98 : EN 44 := en Tryz.func44
theorem A6g (rec46 : Aa -> Ab -> Int -> Option Bool) (ih46 : ∀ (x0 : Aa) (x1 : Ab) (x2 : Int) (r : Bool), rec46 x0 x1 x2 = some r -> CO 46 [.agg (d29 x0), .agg (d36 x1), .d (I x2)] [] (.d (Bo r)) []) (x0 : Int) (x1 : Aa) (x2 : Ab) (r : Bool) (h : Alu rec46 x0 x1 x2 = some r) : CO 105 [.d (I x0), .d (.ip [.v (.int .i64 x1.Aq), .s (x1.Ae.map Bg), .s (x1.Ac.map Bu), .s (x1.Ad.map q65), .v (.int .i64 x1.Phase), .v (.int .i64 x1.Ar)]), .d (.ip [.s (x2.Ag.map pB), .s (x2.Ac.map A_), .s (x2.Ak.map pI), .s (x2.Ao.map q86)])] [] (.d (Bo r)) [] := by
 unfold Alu at h
 refine co 10 Tryz.func105 λ C hC => ?_
 obtain ⟨y1, h2, h⟩ := Av h
 replace h := sI h
 subst h
 exact wr [0, 1, 2, 4] 25 [] [pc e46 (ih46 x1 x2 x0 _ h2) []] [] 0 [] hC []
theorem A8c : EN 105 := en Tryz.func105
theorem Bad (x0 : Int) (x1 : Int) (r : Int) (h : A1j x0 x1 = some r) : CO 202 [.d (I x0), .d (I x1)] [] (.d (I r)) [] := by
 unfold A1j at h
 refine co 10 Tryz.func202 λ C hC => ?_
 obtain ⟨y1, h2, h⟩ := Av h
 replace h := sI h
 subst h
 exact wr [0, 1, 4] 25 [] [pc Bbt (Bac (w64 (0 - x0)) x1 _ h2) []] [] 0 [] hC []
theorem Bbu : EN 202 := en Tryz.func202
def O3 : List Nat := [0, 1, 4, 5, 7, 8, 9, 16]
def Se (x0 : List Af) (n0 : Nat) (z0 : Unit) : St := [(0, .d (DS q84 x0)), (1, .d (.fn (.func 90) [] [])), (4, dI 0), (7, dI (ln x0)), (8, dI (cnt 0 n0))]
def Yn  (n0 : Nat) (z0 : Unit) : List Res := []
def Abm  (z0 : Unit) : St := [(4, dI 0)]
def Ac7  (z0 : Unit) : List Res := []
theorem A57 (x0 : List Af) (r : Int) (h : Alh x0 = some r) : CO 141 [.d (DS q84 x0), .d (.fn (.func 90) [] [])] [] (.d (I r)) [] := by
 unfold Alh at h
 refine co 19 Tryz.func141 λ C hC => ?_
 refine ws O3 26 [] [pl q84 x0] [] 0 [] (Se x0 0 ()) (Yn 0 ()) hC [] ?_
 obtain ⟨w0, hm0, hret0, hnext0⟩ := Ap h
 clear h
 refine wc w0 (Abm) (Ac7) ?_ λ z0 hs0 => ?_
 ·refine wb ?_
  refine Bp 0 rfl λ hl0 => ?_
  refine wl (Se x0) (Yn) hm0 (λ z0 hn0 => ?_) λ n0 a0 z0 w0b hi0 hx0 h hb0 hr0 => ?_
  ·clear hm0
   exact wx w0 (Abm) (Ac7) O3 26 [false] [] [] 0 [] _ hC [pq (A7 hl0)] hn0
  ·unfold Adq at h
   rcases cB h with ⟨h1, h⟩ | ⟨h1, h⟩
   ·have hq := hret0 _ (hr0 _ (sI h).symm)
    replace hq := sI hq
    subst hq
    exact wr O3 35 [true, true] [pt hx0 hl0, pc e90 (k90 a0 _ rfl) []] [] 0 [] hC [pq (A5 hi0 hl0), pq h1]
   ·exact wx w0b (Se x0 (n0 + 1)) (Yn (n0 + 1)) O3 36 [true, false] [pt hx0 hl0, pc e90 (k90 a0 _ rfl) []] [] 0 [] _ hC [pq (A5 hi0 hl0), pq h1] (sI h).symm
 ·have h := hnext0 _ hs0
  replace h := sI h
  subst h
  exact wr O3 23 [] [] [] 0 [] hC []
theorem A73 : EN 141 := en Tryz.func141
theorem k78 (x0 : Ai) (x1 : Int) (x2 : Int) (r : Int × Ai) (h : F78 x0 x1 x2 = some r) : CO 78 [.d (.o 0 0), .d (I x1), .d (I x2)] [.box 90 (d90 x0)] (.d (I r.1)) [.box 90 (d90 r.2)] := by
 unfold F78 at h
 refine co 15 Tryz.func78 λ C hC => ?_
 obtain ⟨y1, h2, h⟩ := Av h
 replace h := sI h
 subst h
 exact wr [0, 1, 2, 6] 25 [] [pc e32 (k32 x0 (w64 ((w64 (x2 - x1)) + 1)) _ h2) [0]] [] 1 [0] hC []
theorem e78 : EN 78 := en Tryz.func78
theorem k40 (x0 : Ai) (x1 : List Int) (r : Int × Ai) (h : F40 x0 x1 = some r) : CO 40 [.d (.o 0 0), .d (DS pI x1)] [.box 90 (d90 x0)] (.d (I r.1)) [.box 90 (d90 r.2)] := by
 unfold F40 at h
 refine co 12 Tryz.func40 λ C hC => ?_
 obtain ⟨y1, h2, y3, h4, h⟩ := A8 h
 replace h := sI h
 subst h
 exact wr [0, 1, 4] 25 [] [pl pI x1, pc e32 (k32 x0 (ln x1) _ h2) [0], pr pI h4] [] 1 [0] hC []
theorem e40 : EN 40 := en Tryz.func40
theorem Aqt (x0 : Aa) (r : Int) (h : Aaj x0 = some r) : CO 111 [.agg (d29 x0)] [] (.d (I r)) [] := by
 unfold Aaj at h
 refine co 62 Tryz.func111 λ C hC => ?_
 refine wn [0, 1, 2, 28, 61] 26 [] [pL_ [(((decide (x0.Aq < 1)) || (decide (x0.Aq > 6))), false)] Bg x0.Ae, pL_ [((((decide (x0.Aq < 1)) || (decide (x0.Aq > 6))) || (decide ((ln x0.Ae) > 24))), false)] Bu x0.Ac, pL_ [(((((decide (x0.Aq < 1)) || (decide (x0.Aq > 6))) || (decide ((ln x0.Ae) > 24))) || (decide ((ln x0.Ac) > 8))), false)] q65 x0.Ad] [] 0 [0] [1, 2, 28] hC [] ?_
 rcases cB h with ⟨h1, h⟩ | ⟨h1, h⟩
 ·replace h := sI h
  subst h
  exact wr [0, 1, 2, 28, 61] 24 [true] [] [] 0 [] hC [pq h1]
 ·obtain ⟨y2, h3, y4, h5, y6, h7, h⟩ := By h
  refine wn [0, 1, 2, 28, 61] 26 [false] [pc Bb9 (Bas x0 _ h3) [], pw Bb8 (λ hg => Bar x0 _ (A9 h5 hg)) [], pw Bb7 (λ hg => Baq x0 _ (A9 h7 hg)) []] [] 0 [] [2, 61] hC [pq h1] ?_
  rcases cB h with ⟨h8, h⟩ | ⟨h8, h⟩
  ·replace h := sI h
   subst h
   exact wr [0, 1, 2, 28, 61] 24 [true] [] [] 0 [] hC [pq h8]
  ·replace h := sI h
   subst h
   exact wr [0, 1, 2, 28, 61] 25 [false] [] [] 0 [] hC [pq h8]
theorem Aq7 : EN 111 := en Tryz.func111
theorem A5m (x0 : List (List Int)) (r : Bool) (h : Us x0 = some r) : CO 191 [.d (DS (pL pI) x0), .d (.fn (.func 192) [] [])] [] (.d (Bo r)) [] := by
 unfold Us at h
 refine co 9 Tryz.func191 λ C hC => ?_
 obtain ⟨y1, h2, h⟩ := Av h
 replace h := sI h
 subst h
 exact wr [0, 1, 4] 25 [] [pc A6y (A42 x0 _ h2) []] [] 0 [] hC []
theorem A7i : EN 191 := en Tryz.func191
def vV : List Nat := [0, 1, 2, 4, 5, 6, 7, 8, 9, 10, 49]
def Ae0 (x1 : List Al) (n0 : Nat) (z0 : Unit) : St := [(1, .d (DS q86 x1)), (2, dO 0 0), (4, dB false), (7, .d (DS q86 x1)), (8, dI (ln x1)), (9, dI (cnt 0 n0))]
def Arq (x0 : Aa) (n0 : Nat) (z0 : Unit) : List Res := [.box 29 (d29 x0)]
def Att (x1 : List Al) (z0 : Unit) : St := [(1, .d (DS q86 x1)), (4, dB false)]
def Axc  (z0 : Unit) : List Res := []
theorem k95 (x0 : Aa) (x1 : List Al) (r : Bool) (h : F95 x0 x1 = some r) : CO 95 [.agg (d29 x0), .d (DS q86 x1)] [] (.d (Bo r)) [] := by
 unfold F95 at h
 refine co 54 Tryz.func95 λ C hC => ?_
 refine ws vV 26 [] [pl q86 x1] [] 0 [0] (Ae0 x1 0 ()) (Arq x0 0 ()) hC [] ?_
 obtain ⟨w0, hm0, hret0, hnext0⟩ := Ap h
 clear h
 refine wc w0 (Att x1) (Axc) ?_ λ z0 hs0 => ?_
 ·refine wb ?_
  refine Bp 7 rfl λ hl0 => ?_
  refine wl (Ae0 x1) (Arq x0) hm0 (λ z0 hn0 => ?_) λ n0 a0 z0 w0b hi0 hx0 h hb0 hr0 => ?_
  ·clear hm0
   exact wx w0 (Att x1) (Axc) vV 26 [false] [] [] 0 [] _ hC [pq (A7 hl0)] hn0
  ·unfold qN at h
   obtain ⟨y1, h2, y3, h4, y5, h6, h⟩ := By h
   refine wn vV 32 [true] [pt hx0 hl0, pc Bce (Bax x0 a0.Kind _ rfl) [], pc e99 (k99 a0.Number 0 (w64 ((La x0 a0.Kind) - 1)) _ rfl) [], pR q86 h2, ⟨.when [(!(F99 a0.Number 0 (w64 ((La x0 a0.Kind) - 1))), false), (decide ((cnt 0 n0) > 0), true)] (.call 154 [dI y1.Kind, dI a0.Kind] [] (dI (J9 y1.Kind a0.Kind)) [] []), λ hg => ⟨A0d, (Azv y1.Kind a0.Kind _ rfl)⟩⟩, pR q86 h4, ⟨.when [(!(F99 a0.Number 0 (w64 ((La x0 a0.Kind) - 1))), false), (decide ((cnt 0 n0) > 0), true)] (.call 154 [dI y3.Number, dI a0.Number] [] (dI (J9 y3.Number a0.Number)) [] []), λ hg => ⟨A0d, (Azv y3.Number a0.Number _ rfl)⟩⟩, pw Bcd (λ hg => Baw [J9 y1.Kind a0.Kind, J9 y3.Number a0.Number] _ (A9 h6 hg)) []] [] 0 [0] [1, 2, 4, 7, 8, 9, 49] hC [pq (A5 hi0 hl0)] ?_
   rcases cB h with ⟨h7, h⟩ | ⟨h7, h⟩
   ·have hq := hret0 _ (hr0 _ (sI h).symm)
    replace hq := sI hq
    subst hq
    exact wr vV 24 [true] [] [] 0 [] hC [pq h7]
   ·exact wx w0b (Ae0 x1 (n0 + 1)) (Arq x0 (n0 + 1)) vV 25 [false] [] [] 0 [0] _ hC [pq h7] (sI h).symm
 ·have h := hnext0 _ hs0
  replace h := sI h
  subst h
  exact wr vV 23 [] [pl q86 x1] [] 0 [] hC []
theorem e95 : EN 95 := en Tryz.func95
theorem k97 (x0 : Ah) (r : Bool) (h : F97 x0 = r) : CO 97 [.agg (Tr x0)] [] (.d (Bo r)) [] := by
 unfold F97 at h
 refine co 6 Tryz.func97 λ C hC => ?_
 subst h
 exact wr n3_ 25 [] [pc e98 (k98 x0 _ rfl) []] [] 0 [] hC []
theorem e97 : EN 97 := en Tryz.func97
theorem k63 (x0 : Aa) (x1 : A0) (r : A4) (h : F63 x0 x1 = some r) : CO 63 [.agg (d29 x0), .agg (d40 x1)] [] (.d (.o 0 0)) (.box 100 (I r.Ay.Time :: .os 1 :: .os 2 :: .os 3 :: .os 4 :: .os 5 :: .os 6 :: zb r.Am [.os 7, .os 8]) :: zp r.Ay.Power [v5_ r.Ay.A6, v1_ r.Ay.Bc, v1_ r.events, v8_ r.states]) := by
 unfold F63 at h
 refine co 21 Tryz.func63 λ C hC => ?_
 obtain ⟨y1, h2, y3, h4, y5, h6, h⟩ := By h
 replace h := sI h
 subst h
 exact wr n5_ 27 [] [pc K6 (K4 x1.Power _ h2) [], pc A8a (A6e x1.A6 _ h4) [], pc e84 (k84 x1.Bc _ h6) []] [.ownb 8 13 51 5, .ownb 8 14 36 4] 0 [8, 2, 3, 4, 5, 6, 7, 9, 10] hC []
theorem e63 : EN 63 := en Tryz.func63
theorem J2 (x0 : Ab) (x1 : Int) (x2 : Int) (r : Bool) (h : Hw x0 x1 x2 = some r) : CO 103 [.agg (d36 x0), .d (I x1), .d (I x2)] [] (.d (Bo r)) [] := by
 unfold Hw at h
 refine co 13 Tryz.func103 λ C hC => ?_
 obtain ⟨y1, h2, h⟩ := Av h
 replace h := sI h
 subst h
 exact wr [0, 1, 2, 3, 6] 25 [] [pc Bcc (Bav x0.Ao (⟨x1, x2⟩ : Al) _ h2) []] [] 0 [] hC []
theorem J5 : EN 103 := en Tryz.func103
def J0 : List Nat := [0, 1, 4, 5, 6, 7, 12, 19, 29]
def M_  (z0 : Int × Int × (List Af)) : St := [(0, dS 0), (1, .d (.fn (.func 146) [] [])), (4, .d (DS q84 [])), (5, dI z0.1), (6, dI z0.2.1)]
def Rc  (z0 : Int × Int × (List Af)) : List Res := [v7_ z0.2.2]
def Abl  (z0 : Int × Int × (List Af)) : St := [(0, dS 0), (4, .d (DS q84 [])), (5, dI z0.1)]
def Ac6  (z0 : Int × Int × (List Af)) : List Res := [v7_ z0.2.2]
theorem Avl (x0 : List Af) (r : (List Af)) (h : Pv x0 = some r) : CO 145 [.d (.os 0), .d (.fn (.func 146) [] [])] [.sl 84 3 (x0.map q84)] (.d (.os 1)) [.non, .sl 84 3 (r.map q84)] := by
 unfold Pv at h
 refine co 42 Tryz.func145 λ C hC => ?_
 obtain ⟨y1, h2, h⟩ := Av h
 rcases cB h with ⟨h3, h⟩ | ⟨h3, h⟩
 ·replace h := sI h
  subst h
  exact wr J0 31 [true] [pb Awf (Avm x0 _ h2)] [.mv 0] 1 [0, 1] hC [pq h3]
 ·refine ws J0 33 [false] [pb Awf (Avm x0 _ h2)] [] 1 [0] (M_ (y1, w64 (y1 + 1), x0)) (Rc (y1, w64 (y1 + 1), x0)) hC [pq h3] ?_
  obtain ⟨w0, hm0, hret0, hnext0⟩ := Ap h
  clear h
  refine wc w0 (Abl) (Ac6) ?_ λ z0 hs0 => ?_
  ·refine wb ?_
   refine ww (M_) (Rc) hm0 λ z0 w0b h hb0 hr0 => ?_
   unfold U0 at h
   rcases cB h with ⟨h4, h⟩ | ⟨h4, h⟩
   ·obtain ⟨y5, h6, h⟩ := Av h
    refine wn J0 32 [true] [pl q84 z0.2.2, pr q84 h6, pn q84 h6, pc A71 (A55 y5 _ rfl) []] [] 1 [0, 1] [0, 1, 4, 5, 6, 7, 29] hC [pq h4] ?_
    rcases cB h with ⟨h7, h⟩ | ⟨h7, h⟩
    ·obtain ⟨y8, h9, y10, h11, h⟩ := A8 h
     exact wx w0b (M_) (Rc) J0 27 [true] [pr q84 h9, pu q84 h9 h11] [] 1 [0] _ hC [pq h7] (sI h).symm
    ·exact wx w0b (M_) (Rc) J0 25 [false] [] [] 1 [0] _ hC [pq h7] (sI h).symm
   ·exact wx w0 (Abl) (Ac6) J0 26 [false] [pl q84 z0.2.2] [] 1 [0] (z0.1, z0.2.1, z0.2.2) hC [pq h4] (hb0 _ (sI h).symm)
  ·have h := hnext0 _ hs0
   obtain ⟨u13, h12, u15, h14, h⟩ := A8 h
   replace h := sI h
   subst h
   (rw [List.map_take]; exact qF (bs := []) Il J0 25 [] [.bnd (z0.2.2.map q84).length z0.1 (((z0.2.2.map q84).length : Nat) : Int) (ln z0.2.2), .eqr ((z0.2.2.map q84).take (Int.toNat z0.1) ++ (List.replicate ((Int.toNat (ln z0.2.2)) - (Int.toNat z0.1)) (q84 (⟨([] : List Int), ([] : List Int), ([] : List Int)⟩ : Af)) ++ (z0.2.2.map q84).drop ((Int.toNat z0.1) + ((Int.toNat (ln z0.2.2)) - (Int.toNat z0.1))))) ((Gn z0.2.2 (Int.toNat z0.1) ((Int.toNat (ln z0.2.2)) - (Int.toNat z0.1)) (⟨([] : List Int), ([] : List Int), ([] : List Int)⟩ : Af)).map q84), .bnd ((Gn z0.2.2 (Int.toNat z0.1) ((Int.toNat (ln z0.2.2)) - (Int.toNat z0.1)) (⟨([] : List Int), ([] : List Int), ([] : List Int)⟩ : Af)).map q84).length 0 z0.1 z0.1] [.trunc 4] [.tmp 4] 1 [0, 1] rfl hC ⟨Fs (by simp) (by simp) h12, yS q84 rfl, Fs (by simp) rfl h14, trivial⟩ trivial (by kernel_rfl))
theorem Awe : EN 145 := en Tryz.func145
theorem A4x (x0 : Aa) (x1 : Ah) (x2 : Ah) (r : Bool) (h : Akw x0 x1 x2 = r) : CO 243 [.agg (d29 x0), .agg (Tr x1), .agg (Tr x2)] [] (.d (Bo r)) [] := by
 unfold Akw at h
 refine co 52 Tryz.func243 λ C hC => ?_
 rcases cB h with ⟨h1, h⟩ | ⟨h1, h⟩
 ·subst h
  exact wr [0, 1, 2, 3, 4, 5, 6, 7, 8, 22] 29 [true] [] [] 0 [] hC [pq h1]
 ·subst h
  exact wr [0, 1, 2, 3, 4, 5, 6, 7, 8, 22] 34 [false] [pc Bbi (A_1 x1.Phase x2.Phase _ rfl) []] [] 0 [] hC [pq h1]
theorem A6t : EN 243 := en Tryz.func243
theorem A_2 (x0 : Aa) (x1 : Int) (r : Int) (h : Akx x0 x1 = some r) : CO 239 [.agg (d29 x0), .d (I x1)] [] (.d (I r)) [] := by
 unfold Akx at h
 refine co 9 Tryz.func239 λ C hC => ?_
 obtain ⟨y1, h2, h⟩ := Av h
 replace h := sI h
 subst h
 exact wr n5_ 25 [] [pc A64 (A48 x0.Ae x1 _ h2) [1]] [] 0 [] hC []
theorem Bbj : EN 239 := en Tryz.func239
def G4 : List Nat := [0, 1, 2, 4, 6, 7, 8, 32, 36, 47, 64, 74]
def Sn (x2 : Bool) (z0 : (List Al)) : St := [(0, dO 0 0), (2, dB x2), (4, dO 5 0), (6, dI 0)]
def T0 (x0 : A2) (x1 : Al) (z0 : (List Al)) : List Res := [.box 186 (zb x0.Am [.os 6, .os 7, .os 8, .os 9, I x0.time]), .non, .non, .non, .non, .box 86 (d86 x1), v2_ x0.Au.Ag, v4_ x0.Au.Ac, v0_ x0.Au.Ak, v3_ z0]
theorem A5n (x0 : A2) (x1 : Al) (x2 : Bool) (r : Int × A2) (h : Hv x0 x1 x2 = some r) : CO 189 [.d (.o 0 0), .agg (d86 x1), .d (Bo x2)] (.box 186 (zb x0.Am [.os 1, .os 2, .os 3, .os 4, I x0.time]) :: zp x0.Au []) (.d (I r.1)) (.box 186 (zb r.2.Am [.os 5, .os 6, .os 7, .os 8, I r.2.time]) :: .non :: .non :: .non :: .non :: zp r.2.Au []) := by
 unfold Hv at h
 refine co 84 Tryz.func189 λ C hC => ?_
 obtain ⟨y1, h2, h⟩ := Av h
 rcases cB h with ⟨h3, h⟩ | ⟨h3, h⟩
 ·replace h := sI h
  subst h
  exact wr G4 32 [true] [pb Awb (Avi x0.Au.Ao x1 _ h2)] [.mv 1, .mv 2, .mv 3, .mv 4] 5 [0, 1, 2, 3, 4, 6, 7, 8, 9] hC [pq h3]
 ·refine wn G4 32 [false] [pb Awb (Avi x0.Au.Ao x1 _ h2), pL_ [(x2, true)] q86 x0.Au.Ao] [.mv 1, .mv 2, .mv 3, .mv 4] 5 Es [0, 2, 4, 6, 7, 36] hC [pq h3] ?_
  rcases cB h with ⟨h4, h⟩ | ⟨h4, h⟩
  ·replace h := sI h
   subst h
   exact wr G4 24 [true] [] [] 5 [0, 1, 2, 3, 4, 6, 7, 8, 9] hC [pq h4]
  ·refine wn G4 24 [false] [] [] 5 Es [0, 2, 4, 6, 7, 47] hC [pq h4] ?_
   obtain ⟨w0, h, hret0, hnext0⟩ := Ap h
   refine wc w0 (Sn x2) (T0 x0 x1) ?_ λ z0 hs0 => ?_
   ·unfold Nx at h
    rcases cB h with ⟨h5, h⟩ | ⟨h5, h⟩
    ·obtain ⟨y6, h7, h⟩ := Av h
     exact wx w0 (Sn x2) (T0 x0 x1) G4 23 [true] [pc A60 (A44 x0.Au.Ao y1.1 [x1] _ h7) [9]] [] 5 [0, 1, 2, 3, 4, 5, 6, 7, 8, 10] _ hC [pq h5] (sI h).symm
    ·obtain ⟨y8, h9, h⟩ := Av h
     exact wx w0 (Sn x2) (T0 x0 x1) G4 23 [false] [pc A6z (A43 x0.Au.Ao y1.1 (w64 (y1.1 + 1)) _ h9) [9]] [] 5 [0, 1, 2, 3, 4, 5, 6, 7, 8, 10] _ hC [pq h5] (sI h).symm
   ·clear h; have h := hnext0 _ hs0
    rcases cB h with ⟨h10, h⟩ | ⟨h10, h⟩
    ·obtain ⟨y11, h12, y13, h14, h⟩ := A8 h
     refine wn G4 30 [true] [pr A_ h12, pu A_ h12 h14] [] 5 Es [0, 4, 6, 74] hC [pq h10] ?_
     rcases cB h with ⟨h15, h⟩ | ⟨h15, h⟩
     ·obtain ⟨y16, h17, y18, h19, h⟩ := A8 h
      replace h := sI h
      subst h
      exact wr G4 25 [true] [pr A_ h17, pu A_ h17 h19] [] 5 [0, 1, 2, 3, 4, 6, 7, 8, 9] hC [pq h15]
     ·replace h := sI h
      subst h
      exact wr G4 25 [false] [] [] 5 [0, 1, 2, 3, 4, 6, 7, 8, 9] hC [pq h15]
    ·replace h := sI h
     subst h
     exact wr G4 29 [false] [] [] 5 [0, 1, 2, 3, 4, 6, 7, 8, 9] hC [pq h10]
theorem A7j : EN 189 := en Tryz.func189
theorem Ad9 (x0 : A4) (x1 : Ab) (r : A4) (h : Nt x0 x1 = some r) : CO 81 [.d (.o 0 0), .agg [.os 9, .os 10, .os 11, .os 12]] (.box 100 (I x0.Ay.Time :: .os 1 :: .os 2 :: .os 3 :: .os 4 :: .os 5 :: .os 6 :: zb x0.Am [.os 7, .os 8]) :: zp x0.Ay.Power (v5_ x0.Ay.A6 :: v1_ x0.Ay.Bc :: v1_ x0.events :: v8_ x0.states :: zp x1 [])) (.tup []) (.box 100 (I r.Ay.Time :: .os 1 :: .os 2 :: .os 3 :: .os 4 :: .os 5 :: .os 6 :: zb r.Am [.os 7, .os 13]) :: zp r.Ay.Power (v5_ r.Ay.A6 :: v1_ r.Ay.Bc :: v1_ r.events :: .non :: zp x1 [v8_ r.states])) := by
 unfold Nt at h
 refine co 15 Tryz.func81 λ C hC => ?_
 obtain ⟨y3, h4, y5, h6, h⟩ := A8 h
 replace h := sI h
 subst h
 exact wf [0, 1, 3] 23 [] [⟨.call 116 [.agg [.os 0, .os 1, .os 2, .os 3]] (zp x1 []) (.agg (d36 y3)) (zp x1 [.non, .non, .non, .non]) [9, 10, 11, 12], ⟨K6, (CallOk.frzAll [4, 5, 6, 7] (show CO 116 [.agg [.os 0, .os 1, .os 2, .os 3]] (zp x1 []) (.agg [.os 4, .os 5, .os 6, .os 7]) (zp x1 (zp y3 [])) from ((K4 x1 _ h4).lend (by kernel_rfl) (by kernel_rfl) (by kernel_rfl) ⟨Ba (λ _ => rfl), Ba (λ _ => rfl), Ba (λ _ => rfl), Ba (λ _ => rfl), trivial⟩ (by kernel_rfl) (by kernel_rfl))) (by kernel_rfl))⟩⟩, pa q36 4 h6] [] 13 [0, 1, 2, 3, 4, 5, 6, 7, 8, 9, 10, 11, 12, 18] hC []
theorem Aec : EN 81 := en Tryz.func81
theorem A40 (x0 : Int) (x1 : Int) (x2 : Aa) (r : Int) (h : Mu x0 x1 x2 = some r) : CO 233 [.d (I x0), .d (I x1), .d (.ip [.v (.int .i64 x2.Aq), .s (x2.Ae.map Bg), .s (x2.Ac.map Bu), .s (x2.Ad.map q65), .v (.int .i64 x2.Phase), .v (.int .i64 x2.Ar)])] [] (.d (I r)) [] := by
 unfold Mu at h
 refine co 19 Tryz.func233 λ C hC => ?_
 obtain ⟨y1, h2, y3, h4, h⟩ := A8 h
 replace h := sI h
 subst h
 exact wr [0, 1, 2, 5] 25 [] [pr q65 h2, pr q65 h4, pc A0d (Azv y1.Bn y3.Bn _ rfl) []] [] 0 [] hC []
theorem A6w : EN 233 := en Tryz.func233
theorem Avj (x0 : Int) (x1 : Af) (r : Bool) (h : Pt x0 x1 = some r) : CO 209 [.d (I x0), .d (.ip [.s (x1.Aq.map pI), .s (x1.Ac.map pI), .s (x1.Ad.map pI)])] [] (.d (Bo r)) [] := by
 unfold Pt at h
 refine co 9 Tryz.func209 λ C hC => ?_
 obtain ⟨y1, h2, h⟩ := Av h
 replace h := sI h
 subst h
 exact wr [0, 1, 3] 25 [] [pc Xx (Xr x1.Ad x0 _ h2) []] [] 0 [] hC []
theorem Awc : EN 209 := en Tryz.func209
theorem A9m (x0 : Aa) (x1 : A0) (r : A4) (h : Asv x0 x1 = some r) : CO 63 [.agg (d29 x0), .agg [I x1.Time, .os 0, .os 1, .os 2, .os 3, .os 4, .os 5]] (zp x1.Power [v5_ x1.A6, v1_ x1.Bc]) (.d (.o 6 0)) (zp x1.Power (v5_ x1.A6 :: v1_ x1.Bc :: .box 100 (I r.Ay.Time :: .os 7 :: .os 8 :: .os 9 :: .os 10 :: .os 11 :: .os 12 :: zb r.Am [.os 13, .os 14]) :: zp r.Ay.Power [v5_ r.Ay.A6, v1_ r.Ay.Bc, v1_ r.events, v8_ r.states])) := by
 unfold Asv at h
 refine co 21 Tryz.func63 λ C hC => ?_
 obtain ⟨y1, h2, y3, h4, y5, h6, h⟩ := By h
 replace h := sI h
 subst h
 exact wr n5_ 27 [] [⟨.call 116 [.agg [.os 0, .os 1, .os 2, .os 3]] (zp x1.Power []) (.agg [.os 4, .os 5, .os 6, .os 7]) (zp x1.Power (zp y1 [])) n4_, ⟨K6, ((K4 x1.Power _ h2).lend (by kernel_rfl) (by kernel_rfl) (by kernel_rfl) ⟨Ba (λ _ => rfl), Ba (λ _ => rfl), Ba (λ _ => rfl), Ba (λ _ => rfl), trivial⟩ (by kernel_rfl) (by kernel_rfl))⟩⟩, ⟨.call 123 [dS 0] [v5_ x1.A6] (dS 1) [v5_ x1.A6, v5_ y3] [4], ⟨A8a, ((A6e x1.A6 _ h4).lend (by kernel_rfl) (by kernel_rfl) (by kernel_rfl) ⟨Ba (λ _ => rfl), trivial⟩ (by kernel_rfl) (by kernel_rfl))⟩⟩, ⟨.call 84 [dS 0] [v1_ x1.Bc] (dS 1) [v1_ x1.Bc, v1_ y5] [5], ⟨e84, ((k84 x1.Bc _ h6).lend (by kernel_rfl) (by kernel_rfl) (by kernel_rfl) ⟨Ba (λ _ => rfl), trivial⟩ (by kernel_rfl) (by kernel_rfl))⟩⟩] [.ownb 14 13 51 5, .ownb 14 14 36 4] 6 [0, 1, 2, 3, 4, 5, 14, 8, 9, 10, 11, 12, 13, 15, 16] hC []
theorem A94 : EN 63 := en Tryz.func63
end Go.Proofs.YthgnbpdjncbkfaaGreat
