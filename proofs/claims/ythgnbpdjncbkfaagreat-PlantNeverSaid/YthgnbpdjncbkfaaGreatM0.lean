import Derived.Test.YthgnbpdjncbkfaaGreatRows
import Derived.Test.YthgnbpdjncbkfaaGreatMo
import Derived.Test.YthgnbpdjncbkfaaGreatBw
import Derived.Test.YthgnbpdjncbkfaaGreatIn
set_option linter.unusedVariables false
namespace Go.Proofs.YthgnbpdjncbkfaaGreat
open Go.SL
abbrev v0_ (l : List Int) : Res := .sl 3 1 (l.map pI)
abbrev v1_ (l : List Bg) : Res := .sl 51 5 (l.map q51)
abbrev v2_ (l : List Bool) : Res := .sl 4 1 (l.map pB)
abbrev v3_ (l : List A0) : Res := .sl 130 2 (l.map B2)
abbrev v4_ (l : List Am) : Res := .sl 86 2 (l.map q86)
abbrev v5_ (l : List Ae) : Res := .sl 120 4 (l.map A_)
abbrev v6_ (l : List Ap) : Res := .sl 49 3 (l.map q49)
abbrev v7_ (l : List Ab) : Res := .sl 36 4 (l.map q36)
abbrev v8_ (l : List Ai) : Res := .sl 84 3 (l.map q84)
abbrev v9_ (l : List Aj) : Res := .sl 147 3 (l.map Bi)
abbrev Ig (l : List Bh) : Res := .sl 139 3 (l.map Br)
abbrev Ie (l : List A3) : Res := .sl 65 5 (l.map q65)
abbrev CO := CallOk Tryz.prog
abbrev EN := Fs Tryz.prog
abbrev Eo {α0 α1 α2 α3 : Type} (z : α0 × α1 × α2 × α3) : α3 := z.2.2.2
abbrev g3_ {α0 α1 α2 α3 α4 : Type} (z : α0 × α1 × α2 × α3 × α4) : α3 := z.2.2.2.1
abbrev I0 {α0 α1 α2 α3 α4 : Type} (z : α0 × α1 × α2 × α3 × α4) : α4 := z.2.2.2.2
abbrev g4_ {α0 α1 α2 α3 α4 α5 : Type} (z : α0 × α1 × α2 × α3 × α4 × α5) : α4 := z.2.2.2.2.1
abbrev g5_ {α0 α1 α2 α3 α4 α5 α6 : Type} (z : α0 × α1 × α2 × α3 × α4 × α5 × α6) : α5 := z.2.2.2.2.2.1
abbrev Azk {α0 α1 α2 α3 α4 α5 α6 : Type} (z : α0 × α1 × α2 × α3 × α4 × α5 × α6) : α6 := z.2.2.2.2.2.2
abbrev g6_ {α0 α1 α2 α3 α4 α5 α6 α7 : Type} (z : α0 × α1 × α2 × α3 × α4 × α5 × α6 × α7) : α6 := z.2.2.2.2.2.2.1
abbrev g7_ {α0 α1 α2 α3 α4 α5 α6 α7 α8 : Type} (z : α0 × α1 × α2 × α3 × α4 × α5 × α6 × α7 × α8) : α7 := z.2.2.2.2.2.2.2.1
abbrev Ah0 {α0 α1 α2 α3 α4 α5 α6 α7 α8 : Type} (z : α0 × α1 × α2 × α3 × α4 × α5 × α6 × α7 × α8) : α8 := z.2.2.2.2.2.2.2.2
abbrev g8_ {α0 α1 α2 α3 α4 α5 α6 α7 α8 α9 : Type} (z : α0 × α1 × α2 × α3 × α4 × α5 × α6 × α7 × α8 × α9) : α8 := z.2.2.2.2.2.2.2.2.1
abbrev Yv {α0 α1 α2 α3 α4 α5 α6 α7 α8 α9 : Type} (z : α0 × α1 × α2 × α3 × α4 × α5 × α6 × α7 × α8 × α9) : α9 := z.2.2.2.2.2.2.2.2.2
abbrev g9_ {α0 α1 α2 α3 α4 α5 α6 α7 α8 α9 α10 : Type} (z : α0 × α1 × α2 × α3 × α4 × α5 × α6 × α7 × α8 × α9 × α10) : α9 := z.2.2.2.2.2.2.2.2.2.1
abbrev Fx {α0 α1 α2 α3 α4 α5 α6 α7 α8 α9 α10 : Type} (z : α0 × α1 × α2 × α3 × α4 × α5 × α6 × α7 × α8 × α9 × α10) : α10 := z.2.2.2.2.2.2.2.2.2.2
abbrev Da {α0 α1 α2 α3 α4 α5 α6 α7 α8 α9 α10 α11 : Type} (z : α0 × α1 × α2 × α3 × α4 × α5 × α6 × α7 × α8 × α9 × α10 × α11) : α10 := z.2.2.2.2.2.2.2.2.2.2.1
abbrev Iu {α0 α1 α2 α3 α4 α5 α6 α7 α8 α9 α10 α11 : Type} (z : α0 × α1 × α2 × α3 × α4 × α5 × α6 × α7 × α8 × α9 × α10 × α11) : α11 := z.2.2.2.2.2.2.2.2.2.2.2
abbrev Fu {α0 α1 α2 α3 α4 α5 α6 α7 α8 α9 α10 α11 α12 : Type} (z : α0 × α1 × α2 × α3 × α4 × α5 × α6 × α7 × α8 × α9 × α10 × α11 × α12) : α11 := z.2.2.2.2.2.2.2.2.2.2.2.1
abbrev Gl {α0 α1 α2 α3 α4 α5 α6 α7 α8 α9 α10 α11 α12 α13 : Type} (z : α0 × α1 × α2 × α3 × α4 × α5 × α6 × α7 × α8 × α9 × α10 × α11 × α12 × α13) : α12 := z.2.2.2.2.2.2.2.2.2.2.2.2.1
abbrev Gk {α0 α1 α2 α3 α4 α5 α6 α7 α8 α9 α10 α11 α12 α13 α14 : Type} (z : α0 × α1 × α2 × α3 × α4 × α5 × α6 × α7 × α8 × α9 × α10 × α11 × α12 × α13 × α14) : α13 := z.2.2.2.2.2.2.2.2.2.2.2.2.2.1
abbrev Jv {α0 α1 α2 α3 α4 α5 α6 α7 α8 α9 α10 α11 α12 α13 α14 : Type} (z : α0 × α1 × α2 × α3 × α4 × α5 × α6 × α7 × α8 × α9 × α10 × α11 × α12 × α13 × α14) : α14 := z.2.2.2.2.2.2.2.2.2.2.2.2.2.2
abbrev T6 {α0 α1 α2 α3 α4 α5 α6 α7 α8 α9 α10 α11 α12 α13 α14 α15 : Type} (z : α0 × α1 × α2 × α3 × α4 × α5 × α6 × α7 × α8 × α9 × α10 × α11 × α12 × α13 × α14 × α15) : α14 := z.2.2.2.2.2.2.2.2.2.2.2.2.2.2.1
abbrev Ae7 {α0 α1 α2 α3 α4 α5 α6 α7 α8 α9 α10 α11 α12 α13 α14 α15 : Type} (z : α0 × α1 × α2 × α3 × α4 × α5 × α6 × α7 × α8 × α9 × α10 × α11 × α12 × α13 × α14 × α15) : α15 := z.2.2.2.2.2.2.2.2.2.2.2.2.2.2.2
abbrev Aq6 {α0 α1 α2 α3 α4 α5 α6 α7 α8 α9 α10 α11 α12 α13 α14 α15 α16 : Type} (z : α0 × α1 × α2 × α3 × α4 × α5 × α6 × α7 × α8 × α9 × α10 × α11 × α12 × α13 × α14 × α15 × α16) : α15 := z.2.2.2.2.2.2.2.2.2.2.2.2.2.2.2.1
abbrev Ae6 {α0 α1 α2 α3 α4 α5 α6 α7 α8 α9 α10 α11 α12 α13 α14 α15 α16 : Type} (z : α0 × α1 × α2 × α3 × α4 × α5 × α6 × α7 × α8 × α9 × α10 × α11 × α12 × α13 × α14 × α15 × α16) : α16 := z.2.2.2.2.2.2.2.2.2.2.2.2.2.2.2.2
theorem sI {α : Type} {a b : α} (h : some a = some b) : a = b := bq h
abbrev zb (b : Aa) (l : List D) : List D := I b.Al :: DS Bi b.Ad :: DS Br b.Ac :: DS q65 b.Af :: I b.Phase :: I b.An :: l
abbrev zp (p : Ab) (l : List Res) : List Res := .sl 4 1 (p.Ag.map pB) :: .sl 120 4 (p.Ac.map A_) :: .sl 3 1 (p.Aq.map pI) :: .sl 86 2 (p.Ao.map q86) :: l
abbrev ze (l : List Res) : List Res := .sl 4 1 (([] : List Bool).map pB) :: .sl 120 4 (([] : List Ae).map A_) :: .sl 3 1 (([] : List Int).map pI) :: .sl 86 2 (([] : List Am).map q86) :: l
abbrev zs (b : Aa) (l : List Res) : List Res := .sl 147 3 (b.Ad.map Bi) :: .sl 139 3 (b.Ac.map Br) :: .sl 65 5 (b.Af.map q65) :: l
abbrev zt {α : Type} (b : Aa) (r : α) : Int × List Aj × List Bh × List A3 × Int × Int × α := (b.Al, b.Ad, b.Ac, b.Af, b.Phase, b.An, r)
abbrev zu {α : Type} (p : Ab) (r : α) : List Bool × List Ae × List Int × List Am × α := (p.Ag, p.Ac, p.Aq, p.Ao, r)
abbrev n3_ : List Nat := [0, 1, 2]
abbrev n4_ : List Nat := [0, 1, 2, 3]
abbrev n5_ : List Nat := [0, 1, 2, 3, 4]
abbrev n6_ : List Nat := [0, 1, 2, 3, 4, 5]
abbrev n7_ : List Nat := [0, 1, 2, 3, 4, 5, 6]
abbrev n8_ : List Nat := [0, 1, 2, 3, 4, 5, 6, 7]
abbrev n9_ : List Nat := [0, 1, 2, 3, 4, 5, 6, 7, 8]
abbrev G7 : List Nat := [0, 1, 2, 3, 4, 5, 6, 7, 8, 9]
abbrev Aqp : List Nat := [0, 1, 2, 3, 4, 5, 6, 7, 8, 9, 10]
abbrev Ft : List Nat := [0, 1, 2, 3, 4, 5, 6, 7, 8, 9, 10, 11]
abbrev Ij : List Nat := [0, 1, 2, 3, 4, 5, 6, 7, 8, 9, 10, 11, 12]
abbrev A_a : List Nat := [0, 1, 2, 3, 4, 5, 6, 7, 8, 9, 10, 11, 12, 13]
abbrev F1 : List Nat := [0, 1, 2, 3, 4, 5, 6, 7, 8, 9, 10, 11, 12, 13, 14]
abbrev A99 : List Nat := [0, 1, 2, 3, 4, 5, 6, 7, 8, 9, 10, 11, 12, 13, 14, 15]
abbrev A98 : List Nat := [0, 1, 2, 3, 4, 5, 6, 7, 8, 9, 10, 11, 12, 13, 14, 15, 16]
abbrev Aqo : List Nat := [0, 1, 2, 3, 4, 5, 6, 7, 8, 9, 10, 11, 12, 13, 14, 15, 16, 17]
abbrev A97 : List Nat := [0, 1, 2, 3, 4, 5, 6, 7, 8, 9, 10, 11, 12, 13, 14, 15, 16, 17, 18]
abbrev zN : List Nat := [0, 1, 2, 3, 4, 5, 6, 7, 8, 9, 10, 11, 12, 13, 14, 15, 16, 17, 18, 19]
abbrev A96 : List Nat := [0, 1, 2, 3, 4, 5, 6, 7, 8, 9, 10, 11, 12, 13, 14, 15, 16, 17, 18, 19, 20]
abbrev A95 : List Nat := [0, 1, 2, 3, 4, 5, 6, 7, 8, 9, 10, 11, 12, 13, 14, 15, 16, 17, 18, 19, 20, 21]
theorem Hv : Tryz.prog.follows .mixedOrders = true := by kernel_rfl
abbrev PC := {c : Cl // Cl.ok Tryz.prog c}
abbrev PB := {p : Bool × Bool // p.1 = p.2}
theorem okP : ∀ l : List PC, Dw Tryz.prog (l.map (·.1))
 | [] => trivial
 | c :: l => ⟨c.2, okP l⟩
theorem okB : ∀ l : List PB, Dm (l.map (·.1))
 | [] => trivial
 | ⟨(_, _), h⟩ :: l => ⟨h, okB l⟩
def pq {a b : Bool} (h : a = b) : PB := ⟨(a, b), h⟩
def pc {f : FuncId} {args : List AV} {R R2 : List Res} {res : AV} (e : Fs Tryz.prog f) (k : CallOk Tryz.prog f args R res R2) (pi : List Nat) : PC := ⟨.call f args R res R2 pi, e, k⟩
def pb {f : FuncId} {args : List AV} {res : AV} (e : Fs Tryz.prog f) (k : CallOk Tryz.prog f args [] res []) : PC := ⟨.callB f args res [[]] 0 [], Ja ⟨e, k⟩⟩
def pw {g : List (Bool × Bool)} {f : FuncId} {args : List AV} {R R2 : List Res} {res : AV} (e : Fs Tryz.prog f) (k : Dm g -> CallOk Tryz.prog f args R res R2) (pi : List Nat) : PC := ⟨.when g (.call f args R res R2 pi), λ h => ⟨e, k h⟩⟩
def pv {g : List (Bool × Bool)} {f : FuncId} {args : List AV} {res : AV} (e : Fs Tryz.prog f) (k : Dm g -> CallOk Tryz.prog f args [] res []) : PC := ⟨.when g (.callB f args res [[]] 0 []), λ h => Ja ⟨e, k h⟩⟩
section
variable {α : Type}
def pl (q : α -> List Pd) (l : List α) : PC := ⟨.len ((l.map q).length : Int) (l.length : Int), Wq l q⟩
def pL_ (g : List (Bool × Bool)) (q : α -> List Pd) (l : List α) : PC := ⟨.when g (.len ((l.map q).length : Int) (l.length : Int)), λ _ => Wq l q⟩
def pr (q : α -> List Pd) {l : List α} {n : Int} {x : α} (h : getI l n = some x) : PC := ⟨.row (l.map q) n (q x), V9 h⟩
def pn (q : α -> List Pd) {l : List α} {n : Int} {x : α} (h : getI l n = some x) : PC := ⟨.row (l.map q) ((n.toNat : Nat) : Int) (q x), J9 h⟩
def pt {q : α -> List Pd} {l : List α} {i : Nat} {x : α} (hx : l[i]? = some x) (hl : (l.map q).length <= maxLen) : PC := ⟨.row (l.map q) (cnt 0 i) (q x), A2j hx hl⟩
def pR (q : α -> List Pd) {g : List (Bool × Bool)} {l : List α} {n : Int} {x d : α} (h : A4 g (getI l n) d = some x) : PC := ⟨.when g (.row (l.map q) n (q x)), λ hg => V9 (Bb h hg)⟩
def pN (q : α -> List Pd) {g : List (Bool × Bool)} {l : List α} {n : Int} {x d : α} (h : A4 g (getI l n) d = some x) : PC := ⟨.when g (.row (l.map q) ((n.toNat : Nat) : Int) (q x)), λ hg => J9 (Bb h hg)⟩
def pa (q : α -> List Pd) (size : Nat) {B : Nat} {l m y : List α} (h : appI (B + 1) l m = some y) (hs : ∀ x, (q x).length = size := by exact λ _ => rfl) : PC := ⟨.app (l.map q) (m.map q) size (((l.map q).length + (m.map q).length) * (B + 1)) (y.map q), Ib q size hs h⟩
def pu (q : α -> List Pd) {l y : List α} {n : Int} {x x' : α} (hx : getI l n = some x) (h : setI l n x' = some y) : PC := ⟨.upd (l.map q) n.toNat (q x) (q x') (y.map q), Amr hx h⟩
end
theorem ws {ro : Option Nat} {n : Nat} {C : Ctx} {Q : Exit -> Act -> World -> Prop} {st : St} {R : List Res} {items : List It} (lv : List Nat) (fuel : Nat) (ds : List Bool) (cls : List PC) (adj : List Adj) (k : Nat) (pi : List Nat) (st' : St) (R' : List Res) (hk : C.h.length <= k) (bs : List PB) (hW : WI ro Tryz.prog n C Q (Ca fuel items ds) st' R') (h : Gz Tryz.prog n lv fuel items st R ds (cls.map (·.1)) adj k pi (O6 st') = some (st', R', cls.map (·.1), bs.map (·.1)) := by kernel_rfl) : WI ro Tryz.prog n C Q items st R := Aaj Hv lv fuel ds (cls.map (·.1)) adj k pi st' R' hk (okP cls) (okB bs) h hW
def wo (o : Option (St × List Res × List Cl × List (Bool × Bool))) : St × List Res := match o with
 | some (s, r, _, _) => (s, r)
 | none => ([], [])
theorem wn {ro : Option Nat} {n : Nat} {C : Ctx} {Q : Exit -> Act -> World -> Prop} {st : St} {R : List Res} {items : List It} (lv : List Nat) (fuel : Nat) (ds : List Bool) (cls : List PC) (adj : List Adj) (k : Nat) (pi : List Nat) (ks : List Nat) (hk : C.h.length <= k) (bs : List PB) (hW : WI ro Tryz.prog n C Q (Ca fuel items ds) (wo (Gz Tryz.prog n lv fuel items st R ds (cls.map (·.1)) adj k pi ks)).1 (wo (Gz Tryz.prog n lv fuel items st R ds (cls.map (·.1)) adj k pi ks)).2) (h : (Gz Tryz.prog n lv fuel items st R ds (cls.map (·.1)) adj k pi ks).map (λ x => (O6 x.1, x.2.2.1, x.2.2.2)) = some (ks, cls.map (·.1), bs.map (·.1)) := by kernel_rfl) : WI ro Tryz.prog n C Q items st R := by
 cases e : Gz Tryz.prog n lv fuel items st R ds (cls.map (·.1)) adj k pi ks with
 | none => rw [e] at h; cases h
 | some x =>
  obtain ⟨s, r, c, b⟩ := x
  rw [e] at h hW
  simp only [bH, ak, aI] at h
  obtain ⟨h1, h2, h3⟩ := h
  subst h1; subst h2; subst h3
  exact Aaj Hv lv fuel ds _ adj k pi s r hk (okP cls) (okB bs) e hW
theorem we {ro : Option Nat} {n : Nat} {C : Ctx} {Q : Exit -> Act -> World -> Prop} {st : St} {R : List Res} {items : List It} {σ : Type} {φ : σ -> Prop} {st' : σ -> St} {R' : σ -> List Res} (lv : List Nat) (fuel : Nat) (ds : List Bool) (cls : List PC) (adj : List Adj) (k : Nat) (pi : List Nat) (s : σ) (hk : C.h.length <= k) (bs : List PB) (h1 : φ s) (hi : hdK (Ca fuel items ds) = Ex n C φ st' R' := by kernel_rfl) (h : Gz Tryz.prog n lv fuel items st R ds (cls.map (·.1)) adj k pi (O6 (st' s)) = some (st' s, R' s, cls.map (·.1), bs.map (·.1)) := by kernel_rfl) : WI ro Tryz.prog n C Q items st R := Awx Hv lv fuel ds (cls.map (·.1)) adj k pi s hk (okP cls) (okB bs) hi h h1
theorem wx {σ : Type} {τ : Type} (w : Ctl σ τ) (st' : σ -> St) (R' : σ -> List Res) {ro : Option Nat} {n : Nat} {C : Ctx} {Q : Exit -> Act -> World -> Prop} {st : St} {R : List Res} {items : List It} (lv : List Nat) (fuel : Nat) (ds : List Bool) (cls : List PC) (adj : List Adj) (k : Nat) (pi : List Nat) (s : σ) (hk : C.h.length <= k) (bs : List PB) (h1 : w = .next s) (hi : hdK (Ca fuel items ds) = Ex n C (λ s' => w = .next s') st' R' := by kernel_rfl) (h : Gz Tryz.prog n lv fuel items st R ds (cls.map (·.1)) adj k pi (O6 (st' s)) = some (st' s, R' s, cls.map (·.1), bs.map (·.1)) := by kernel_rfl) : WI ro Tryz.prog n C Q items st R := Awx Hv lv fuel ds (cls.map (·.1)) adj k pi s hk (okP cls) (okB bs) hi h h1
theorem wc {ro : Option Nat} {n : Nat} {C : Ctx} {Q : Exit -> Act -> World -> Prop} {st : St} {R : List Res} {items : List It} {σ τ : Type} (w : Ctl σ τ) (st' : σ -> St) (R' : σ -> List Res) (h : WI ro Tryz.prog n C Q (.c (hdC items) :: .k (Ex n C (λ s => w = .next s) st' R') :: tlI items) st R) (hK : ∀ s, w = .next s -> WI ro Tryz.prog n C Q (tlI items) (st' s) (R' s)) (hi : isC items = true := by kernel_rfl) : WI ro Tryz.prog n C Q items st R := A8b hi _ st' R' h hK
theorem Bc {α β γ : Type} {o : Option α} {f : α -> Option β} {g : α -> β -> Option γ} {r : γ} (h : (o.bind λ a => (f a).bind λ b => g a b) = some r) : ∃ a, o = some a /\ ∃ b, f a = some b /\ g a b = some r := by
 obtain ⟨a, h1, h⟩ := Ax h
 obtain ⟨b, h2, h⟩ := Ax h
 exact ⟨a, h1, b, h2, h⟩
theorem B0 {α β γ δ : Type} {o : Option α} {f : α -> Option β} {g : α -> β -> Option γ} {k : α -> β -> γ -> Option δ} {r : δ} (h : (o.bind λ a => (f a).bind λ b => (g a b).bind λ c => k a b c) = some r) : ∃ a, o = some a /\ ∃ b, f a = some b /\ ∃ c, g a b = some c /\ k a b c = some r := by
 obtain ⟨a, h1, h⟩ := Ax h
 obtain ⟨b, h2, c, h3, h⟩ := Bc h
 exact ⟨a, h1, b, h2, c, h3, h⟩
theorem Cn {α β γ δ ε : Type} {o : Option α} {f : α -> Option β} {g : α -> β -> Option γ} {k : α -> β -> γ -> Option δ} {l : α -> β -> γ -> δ -> Option ε} {r : ε} (h : (o.bind λ a => (f a).bind λ b => (g a b).bind λ c => (k a b c).bind λ d => l a b c d) = some r) : ∃ a, o = some a /\ ∃ b, f a = some b /\ ∃ c, g a b = some c /\ ∃ d, k a b c = some d /\ l a b c d = some r := by
 obtain ⟨a, h1, h⟩ := Ax h
 obtain ⟨b, h2, c, h3, d, h4, h⟩ := B0 h
 exact ⟨a, h1, b, h2, c, h3, d, h4, h⟩
theorem wl {ro : Option Nat} {n : Nat} {C : Ctx} {Q : Exit -> Act -> World -> Prop} {st : St} {R : List Res} {α σ τ : Type} {items : List It} {f : Nat -> α -> σ -> Option (Ctl σ τ)} (stF : Nat -> σ -> St) (RF : Nat -> σ -> List Res) {r : Ctl σ τ} {xs : List α} {s : σ} (hm : foldI f xs 0 s = some r) (hnil : ∀ s, r = .next s -> WI ro Tryz.prog n C Q (.c (lpC items) :: .k (λ _ _ => False) :: tlI items) (stF xs.length s) (RF xs.length s)) (hcons : ∀ i x s k, i < xs.length -> xs[i]? = some x -> f i x s = some k -> (∀ s', k = .brk s' -> r = .next s') -> (∀ v, k = .ret v -> r = .ret v) -> WI ro Tryz.prog n C Q (.c (lpC items) :: .k (Ex n C (λ s' => k = .next s') (stF (i + 1)) (RF (i + 1))) :: tlI items) (stF i s) (RF i s)) (hi : isL items = true := by kernel_rfl) (h0 : st = stF 0 s := by rfl) (h1 : R = RF 0 s := by rfl) : WI ro Tryz.prog n C Q items st R := A0j hi f stF RF r xs s hm h0 h1 hnil hcons
theorem ww {ro : Option Nat} {n : Nat} {C : Ctx} {Q : Exit -> Act -> World -> Prop} {st : St} {R : List Res} {σ τ : Type} {items : List It} {f : σ -> Option (Ctl σ τ)} (stF : σ -> St) (RF : σ -> List Res) {r : Ctl σ τ} {fuel : Nat} {s : σ} (hm : whileN f fuel s = some r) (h : ∀ s k, f s = some k -> (∀ s', k = .brk s' -> r = .next s') -> (∀ v, k = .ret v -> r = .ret v) -> WI ro Tryz.prog n C Q (.c (lpC items) :: .k (Ex n C (λ s' => k = .next s') stF RF) :: tlI items) (stF s) (RF s)) (hi : isL items = true := by kernel_rfl) (h0 : st = stF s := by rfl) (h1 : R = RF s := by rfl) : WI ro Tryz.prog n C Q items st R := A0h hi f stF RF r fuel s hm h0 h1 h
theorem cB {α : Type} {c : Bool} {x y z : α} (h : (bif c then x else y) = z) : (c = true /\ x = z) \/ (c = false /\ y = z) := by cases c; exact .inr ⟨rfl, h⟩; exact .inl ⟨rfl, h⟩
theorem wb {ro : Option Nat} {n : Nat} {C : Ctx} {Q : Exit -> Act -> World -> Prop} {st : St} {R : List Res} {items : List It} (h : WI ro Tryz.prog n C Q (.c (A73 items) :: .b (A72 items) :: tlI items) st R) (hi : isB items = true := by kernel_rfl) : WI ro Tryz.prog n C Q items st R := A8c hi h
theorem co {f : FuncId} {fn : Func} {c : Code} {args : List AV} {res : AV} {R R2 : List Res} (n : Nat) (hf : Tryz.prog.funcs[f]? = some fn) (h : ∀ C : Ctx, C.h.length <= R.length -> WI none Tryz.prog n C.z (Nm Tryz.prog fn C.z res R2) [.c c] (uR 0 args) R) (hb : fn.body = some c := by rfl) (hn : fn.ntmps = n := by rfl) (hl : Nat.ble args.length n = true := by rfl) : CallOk Tryz.prog f args R res R2 := Av9 n hf hb hn hl h
theorem wr {ro : Option Nat} {n : Nat} {C : Ctx} {st : St} {R : List Res} {fn : Func} {res : AV} {R2 : List Res} {items : List It} (lv : List Nat) (fuel : Nat) (ds : List Bool) (cls : List PC) (adj : List Adj) (k : Nat) (pi : List Nat) (hk : C.h.length <= k) (bs : List PB) (h : jE Tryz.prog n lv fuel items st R ds (cls.map (·.1)) adj fn.results.toList k pi = some (res, R2, cls.map (·.1), bs.map (·.1)) := by kernel_rfl) : WI ro Tryz.prog n C.z (Nm Tryz.prog fn C.z res R2) items st R := uS Hv lv fuel ds (cls.map (·.1)) adj _ k pi rfl hk (okP cls) (okB bs) h
theorem wf {ro : Option Nat} {n : Nat} {C : Ctx} {st : St} {R : List Res} {fn : Func} {res : AV} {R2 : List Res} {items : List It} (lv : List Nat) (fuel : Nat) (ds : List Bool) (cls : List PC) (adj : List Adj) (k : Nat) (pi : List Nat) (hk : C.h.length <= k) (bs : List PB) (hn : Ayw (Ca fuel items ds) = true := by kernel_rfl) (h : jF Tryz.prog n lv fuel items st R ds (cls.map (·.1)) adj fn.results.toList k pi = some (res, R2, cls.map (·.1), bs.map (·.1)) := by kernel_rfl) : WI ro Tryz.prog n C.z (Nm Tryz.prog fn C.z res R2) items st R := A3s Hv lv fuel ds (cls.map (·.1)) adj _ k pi rfl hk (okP cls) (okB bs) hn h
theorem en {f : FuncId} {fn : Func} (hf : Tryz.prog.funcs[f]? = some fn) (hb : fn.body.isNone = false := by kernel_rfl) (hn : (fn.name == "runtime.NumGoroutine") = false := by kernel_rfl) : Fs Tryz.prog f := Go.SL.Ac5 hf hb hn
abbrev ln {α : Type} (l : List α) : Int := (l.length : Int)
abbrev dI (x : Int) : AV := .d (I x)
abbrev dB (x : Bool) : AV := .d (Bo x)
abbrev dO (a b : Nat) : AV := .d (.o a b)
abbrev dS (a : Nat) : AV := .d (.os a)
theorem k8 (x0 : List Int) (r : Ah) (h : F8 x0 = some r) : CO 8 [.d (DS pI x0)] [] (.d (.o 0 0)) [.box 90 (d90 r)] := by
 unfold F8 at h
 refine co 10 Tryz.func8 λ C hC => ?_
 obtain ⟨y2, h1, h⟩ := Ax h
 replace h := sI h
 subst h
 exact wr [0, 2] 25 [] [pl pI x0, ⟨.cut (x0.map pI) 1 0 (min (ln x0) 600) (y2.map pI), Aag pI 1 (λ _ => rfl) h1⟩] [] 0 [0] hC []
theorem e8 : EN 8 := en Tryz.func8
theorem k80 (x0 : Int) (x1 : Int) (r : Int) (h : F80 x0 x1 = some r) : CO 80 [.d (I x0), .d (I x1)] [] (.d (I r)) [] := by
 unfold F80 at h
 refine co 14 Tryz.func80 λ C hC => ?_
 rcases cB h with ⟨h1, h⟩ | ⟨h1, h⟩
 ·replace h := sI h
  subst h
  exact wr [0, 1, 4, 6] 29 [true] [] [] 0 [] hC [pq h1]
 ·obtain ⟨u3, h2, u5, h4, h⟩ := Bc h
  replace h := sI h
  subst h
  exact wr [0, 1, 4, 6] 30 [false] [⟨.nz x1, Pp h2⟩, ⟨.nz x1, Pp h4⟩] [] 0 [] hC [pq h1]
theorem e80 : EN 80 := en Tryz.func80
theorem Fe (x0 : Int) (x1 : Int) (x2 : Int) (r : Bool) (h : B5 x0 x1 x2 = r) : CO 112 [.d (I x0), .d (I x1), .d (I x2)] [] (.d (Bo r)) [] := by
 unfold B5 at h
 refine co 15 Tryz.func112 λ C hC => ?_
 subst h
 exact wr [0, 1, 2, 6] 25 [] [] [] 0 [] hC []
theorem Fg : EN 112 := en Tryz.func112
def Ahg : List Nat := [0, 1, 2, 3, 6, 7, 8, 9, 11, 12, 13, 14, 37]
def jM (x0 : Aa) (x1 : Int) (x2 : Int) (n0 : Nat) (z0 : (List Int)) : St := [(1, dI x1), (2, dI x2), (6, .d (DS pI [])), (7, dS 0), (11, .d (DS Bi x0.Ad)), (12, dI (ln x0.Ad)), (13, dI (cnt 0 n0))]
def Aff  (n0 : Nat) (z0 : (List Int)) : List Res := [v0_ z0]
def Atx  (z0 : (List Int)) : St := [(6, .d (DS pI [])), (7, dS 0)]
def Aw7  (z0 : (List Int)) : List Res := [v0_ z0]
theorem k77 (x0 : Aa) (x1 : Int) (x2 : Int) (r : (List Int)) (h : F77 x0 x1 x2 = some r) : CO 77 [.agg (d29 x0), .d (I x1), .d (I x2)] [] (.d (.os 0)) [v0_ r] := by
 unfold F77 at h
 refine co 44 Tryz.func77 λ C hC => ?_
 refine ws Ahg 28 [] [pl Bi x0.Ad] [.own 7 3 1] 0 [1] (jM x0 x1 x2 0 ([] : List Int)) (Aff 0 ([] : List Int)) hC [] ?_
 obtain ⟨w0, hm0, hret0, hnext0⟩ := Ar h
 clear h
 refine wc w0 (Atx) (Aw7) ?_ λ z0 hs0 => ?_
 ·refine wb ?_
  refine Bn 11 rfl λ hl0 => ?_
  refine wl (jM x0 x1 x2) (Aff) hm0 (λ z0 hn0 => ?_) λ n0 a0 z0 w0b hi0 hx0 h hb0 hr0 => ?_
  ·clear hm0
   exact wx w0 (Atx) (Aw7) Ahg 26 [false] [] [] 0 [0] _ hC [pq (Be hl0)] hn0
  ·unfold Akr at h
   rcases cB h with ⟨h1, h⟩ | ⟨h1, h⟩
   ·obtain ⟨y2, h3, h⟩ := Ax h
    exact wx w0b (jM x0 x1 x2 (n0 + 1)) (Aff (n0 + 1)) Ahg 36 [true, true] [pt hx0 hl0, pa pI 1 h3] [] 0 [2] _ hC [pq (A9 hi0 hl0), pq h1] (sI h).symm
   ·exact wx w0b (jM x0 x1 x2 (n0 + 1)) (Aff (n0 + 1)) Ahg 36 [true, false] [pt hx0 hl0] [] 0 [0] _ hC [pq (A9 hi0 hl0), pq h1] (sI h).symm
 ·have h := hnext0 _ hs0
  replace h := sI h
  subst h
  exact wr Ahg 23 [] [] [] 0 [0] hC []
theorem e77 : EN 77 := en Tryz.func77
theorem Ban (x0 : Am) (x1 : Am) (r : Bool) (h : Abj x0 x1 = r) : CO 113 [.agg (d86 x0), .agg (d86 x1)] [] (.d (Bo r)) [] := by
 unfold Abj at h
 refine co 24 Tryz.func113 λ C hC => ?_
 subst h
 exact wr n5_ 25 [] [] [] 0 [] hC []
theorem Bb4 : EN 113 := en Tryz.func113
theorem k65 (x0 : Ab) (r : Ab) (h : F65 x0 = some r) : CO 65 [.agg (d36 x0)] [] (.agg [.os 0, .os 1, .os 2, .os 3]) (zp r []) := by
 unfold F65 at h
 refine co 16 Tryz.func65 λ C hC => ?_
 obtain ⟨y1, h2, y3, h4, y5, h6, y7, h8, h⟩ := Cn h
 replace h := sI h
 subst h
 exact wr n3_ 25 [] [⟨.app [] (x0.Ag.map pB) 1 ((x0.Ag.map pB).length * (1 + 1)) (y1.map pB), Rg pB 1 (λ _ => rfl) h2⟩, ⟨.app [] (x0.Ac.map A_) 4 ((x0.Ac.map A_).length * (32 + 1)) (y3.map A_), Rg A_ 4 (λ _ => rfl) h4⟩, ⟨.app [] (x0.Aq.map pI) 1 ((x0.Aq.map pI).length * (8 + 1)) (y5.map pI), Rg pI 1 (λ _ => rfl) h6⟩, ⟨.app [] (x0.Ao.map q86) 2 ((x0.Ao.map q86).length * (16 + 1)) (y7.map q86), Rg q86 2 (λ _ => rfl) h8⟩] [] 0 [3, 5, 7, 9] hC []
theorem e65 : EN 65 := en Tryz.func65
def H1 : List Nat := [0, 1, 2, 3, 4, 6, 7, 8, 9, 10, 11, 19, 20, 21, 23, 24, 25, 26, 53, 65, 66, 67, 72]
def zC (y5 : List Bool) (n0 : Nat) (z0 : (List Bool)) : St := [(3, dO 0 0), (4, dO 1 0), (6, .d (DS pI [])), (7, dS 2), (19, dI (ln y5)), (20, dI (cnt 0 n0))]
def Aki (x0 : Aa) (x1 : Ab) (n0 : Nat) (z0 : (List Bool)) : List Res := [.box 29 (d29 x0), .box 36 (d36 x1), v2_ z0]
def Anx  (z0 : (List Bool)) : St := [(6, .d (DS pI [])), (7, dS 0)]
def Apq  (z0 : (List Bool)) : List Res := [v2_ z0]
def V5 (x0 : Aa) (y5 : List Bool) (n0 : Nat) (n1 : Nat) (z1 : (List Bool)) : St := [(3, dO 0 0), (4, dO 1 0), (6, .d (DS pI [])), (7, dS 2), (19, dI (ln y5)), (20, dI (cnt 0 n0)), (23, .d (DS Bi x0.Ad)), (24, dI (ln x0.Ad)), (25, dI (cnt 0 n1))]
def uX (x0 : Aa) (x1 : Ab) (n1 : Nat) (z1 : (List Bool)) : List Res := [.box 29 (d29 x0), .box 36 (d36 x1), v2_ z1]
def Anw (y5 : List Bool) (n0 : Nat) (z1 : (List Bool)) : St := [(3, dO 0 0), (4, dO 1 0), (6, .d (DS pI [])), (7, dS 2), (19, dI (ln y5)), (20, dI (cnt 0 n0))]
def App (x0 : Aa) (x1 : Ab) (z1 : (List Bool)) : List Res := [.box 29 (d29 x0), .box 36 (d36 x1), v2_ z1]
def V4 (z0 : (List Bool)) (n2 : Nat) (z2 : (List Int)) : St := [(6, .d (DS pI [])), (7, dS 0), (10, dS 1), (65, dI (ln z0)), (66, dI (cnt 0 n2))]
def uW (z0 : (List Bool)) (n2 : Nat) (z2 : (List Int)) : List Res := [v2_ z0, v0_ z2]
def Anv  (z2 : (List Int)) : St := [(6, .d (DS pI [])), (10, dS 0)]
def Apo  (z2 : (List Int)) : List Res := [v0_ z2]
theorem Bam (x0 : Aa) (x1 : Ab) (x2 : Int) (r : (List Int)) (h : Alx x0 x1 x2 = some r) : CO 114 [.agg (d29 x0), .agg (d36 x1), .d (I x2)] [] (.d (.os 0)) [v0_ r] := by
 unfold Alx at h
 refine co 79 Tryz.func114 λ C hC => ?_
 obtain ⟨y1, h2, y3, h4, y5, h6, h⟩ := B0 h
 refine ws H1 30 [] [⟨.room (x0.Al * (1 + 1)) (List.replicate (Int.toNat x0.Al) (pB false)) (y1.map pB), Hi h2⟩, pr pB h4, pu pB h4 h6, pl pB y5] [] 0 n3_ (zC y5 0 y5) (Aki x0 x1 0 y5) hC [] ?_
 obtain ⟨w0, hm0, hret0, hnext0⟩ := Ar h
 clear h
 refine wc w0 (Anx) (Apq) ?_ λ z0 hs0 => ?_
 ·refine wb ?_
  refine Co 7 2 rfl rfl λ hl0 => ?_
  refine wl (zC y5) (Aki x0 x1) hm0 (λ z0 hn0 => ?_) λ n0 a0 z0 w0b hi0 hx0 h hb0 hr0 => ?_
  ·clear hm0
   exact wx w0 (Anx) (Apq) H1 26 [false] [] [] 0 [2] _ hC [pq (Be hl0)] hn0
  ·unfold Abi at h
   refine ws H1 30 [true] [pl Bi x0.Ad] [] 0 n3_ (V5 x0 y5 n0 0 z0) (uX x0 x1 0 z0) hC [pq (A9 hi0 hl0)] ?_
   obtain ⟨w1, hm1, hret1, hnext1⟩ := Ar h
   clear h
   refine wc w1 (Anw y5 n0) (App x0 x1) ?_ λ z1 hs1 => ?_
   ·refine wb ?_
    refine Bn 23 rfl λ hl1 => ?_
    refine wl (V5 x0 y5 n0) (uX x0 x1) hm1 (λ z1 hn1 => ?_) λ n1 a1 z1 w1b hi1 hx1 h hb1 hr1 => ?_
    ·clear hm1
     exact wx w1 (Anw y5 n0) (App x0 x1) H1 26 [false] [] [] 0 n3_ _ hC [pq (Be hl1)] hn1
    ·unfold Abh at h
     obtain ⟨y7, h8, y9, h10, y11, h12, h⟩ := B0 h
     refine wn H1 32 [true] [pt hx1 hl1, pR pB h8, pR pB h10, pN pB h10, pR pB h12, pN pB h12] [] 0 n4_ [3, 4, 6, 7, 9, 19, 20, 23, 24, 25, 53] hC [pq (A9 hi1 hl1)] ?_
     rcases cB h with ⟨h13, h⟩ | ⟨h13, h⟩
     ·obtain ⟨y14, h15, y16, h17, y18, h19, y20, h21, h⟩ := Cn h
      exact wx w1b (V5 x0 y5 n0 (n1 + 1)) (uX x0 x1 (n1 + 1)) H1 25 [true] [pr pB h15, pu pB h15 h17, pr pB h19, pu pB h19 h21] [] 0 n3_ _ hC [pq h13] (sI h).symm
     ·exact wx w1b (V5 x0 y5 n0 (n1 + 1)) (uX x0 x1 (n1 + 1)) H1 25 [false] [] [] 0 n3_ _ hC [pq h13] (sI h).symm
   ·have h := hnext1 _ hs1
    exact wx w0b (zC y5 (n0 + 1)) (Aki x0 x1 (n0 + 1)) H1 23 [] [] [] 0 n3_ _ hC [] (sI h).symm
 ·have h := hnext0 _ hs0
  refine ws H1 26 [] [pl pB z0] [.own 10 3 1] 0 [0, 1] (V4 z0 0 ([] : List Int)) (uW z0 0 ([] : List Int)) hC [] ?_
  obtain ⟨w2, hm2, hret2, hnext2⟩ := Ar h
  clear h
  refine wc w2 (Anv) (Apo) ?_ λ z2 hs2 => ?_
  ·refine wb ?_
   refine Co 7 0 rfl rfl λ hl2 => ?_
   refine wl (V4 z0) (uW z0) hm2 (λ z2 hn2 => ?_) λ n2 a2 z2 w2b hi2 hx2 h hb2 hr2 => ?_
   ·clear hm2
    exact wx w2 (Anv) (Apo) H1 26 [false] [] [] 0 [1] _ hC [pq (Be hl2)] hn2
   ·unfold Abg at h
    rcases cB h with ⟨h22, h⟩ | ⟨h22, h⟩
    ·obtain ⟨y23, h24, h⟩ := Ax h
     exact wx w2b (V4 z0 (n2 + 1)) (uW z0 (n2 + 1)) H1 36 [true, true] [pr pB (Bp hx2 hl2), pn pB (Bp hx2 hl2), pa pI 1 h24] [] 0 [0, 2] _ hC [pq (A9 hi2 hl2), pq h22] (sI h).symm
    ·exact wx w2b (V4 z0 (n2 + 1)) (uW z0 (n2 + 1)) H1 36 [true, false] [pr pB (Bp hx2 hl2), pn pB (Bp hx2 hl2)] [] 0 [0, 1] _ hC [pq (A9 hi2 hl2), pq h22] (sI h).symm
  ·have h := hnext2 _ hs2
   replace h := sI h
   subst h
   exact wr H1 23 [] [] [] 0 [0] hC []
theorem Bb3 : EN 114 := en Tryz.func114
def Ahi : List Nat := [0, 1, 4, 6, 7, 8, 9, 10, 15]
def Af1 (x0 : List Int) (x1 : Int) (n0 : Nat) (z0 : Unit) : St := [(1, dI x1), (4, dB false), (7, .d (DS pI x0)), (8, dI (ln x0)), (9, dI (cnt 0 n0))]
def Ar5  (n0 : Nat) (z0 : Unit) : List Res := []
def Atz  (z0 : Unit) : St := [(4, dB false)]
def Aw9  (z0 : Unit) : List Res := []
theorem k55 (x0 : List Int) (x1 : Int) (r : Bool) (h : F55 x0 x1 = some r) : CO 55 [.d (DS pI x0), .d (I x1)] [] (.d (Bo r)) [] := by
 unfold F55 at h
 refine co 17 Tryz.func55 λ C hC => ?_
 refine ws Ahi 26 [] [pl pI x0] [] 0 [] (Af1 x0 x1 0 ()) (Ar5 0 ()) hC [] ?_
 obtain ⟨w0, hm0, hret0, hnext0⟩ := Ar h
 clear h
 refine wc w0 (Atz) (Aw9) ?_ λ z0 hs0 => ?_
 ·refine wb ?_
  refine Bn 7 rfl λ hl0 => ?_
  refine wl (Af1 x0 x1) (Ar5) hm0 (λ z0 hn0 => ?_) λ n0 a0 z0 w0b hi0 hx0 h hb0 hr0 => ?_
  ·clear hm0
   exact wx w0 (Atz) (Aw9) Ahi 26 [false] [] [] 0 [] _ hC [pq (Be hl0)] hn0
  ·unfold vE at h
   rcases cB h with ⟨h1, h⟩ | ⟨h1, h⟩
   ·have hq := hret0 _ (hr0 _ (sI h).symm)
    replace hq := sI hq
    subst hq
    exact wr Ahi 35 [true, true] [pt hx0 hl0] [] 0 [] hC [pq (A9 hi0 hl0), pq h1]
   ·exact wx w0b (Af1 x0 x1 (n0 + 1)) (Ar5 (n0 + 1)) Ahi 36 [true, false] [pt hx0 hl0] [] 0 [] _ hC [pq (A9 hi0 hl0), pq h1] (sI h).symm
 ·have h := hnext0 _ hs0
  replace h := sI h
  subst h
  exact wr Ahi 23 [] [] [] 0 [] hC []
theorem e55 : EN 55 := en Tryz.func55
theorem k99 (x0 : Int) (x1 : Int) (x2 : Int) (r : Bool) (h : F99 x0 x1 x2 = r) : CO 99 [.d (I x0), .d (I x1), .d (I x2)] [] (.d (Bo r)) [] := by
 unfold F99 at h
 refine co 15 Tryz.func99 λ C hC => ?_
 subst h
 exact wr [0, 1, 2, 6] 25 [] [] [] 0 [] hC []
theorem e99 : EN 99 := en Tryz.func99
def qD : List Nat := [0, 1, 4, 5, 7, 8, 9, 16]
def yC (x0 : List Int) (x1 : Int) (n0 : Nat) (z0 : Unit) : St := [(0, .d (DS pI x0)), (1, dI x1), (4, dI 0), (7, dI (ln x0)), (8, dI (cnt 0 n0))]
def Ajs  (n0 : Nat) (z0 : Unit) : List Res := []
def Amz  (z0 : Unit) : St := [(4, dI 0)]
def Aos  (z0 : Unit) : List Res := []
theorem A_h (x0 : List Int) (x1 : Int) (r : Int) (h : Asw x0 x1 = some r) : CO 227 [.d (DS pI x0), .d (I x1)] [] (.d (I r)) [] := by
 unfold Asw at h
 refine co 19 Tryz.func227 λ C hC => ?_
 refine ws qD 26 [] [pl pI x0] [] 0 [] (yC x0 x1 0 ()) (Ajs 0 ()) hC [] ?_
 obtain ⟨w0, hm0, hret0, hnext0⟩ := Ar h
 clear h
 refine wc w0 (Amz) (Aos) ?_ λ z0 hs0 => ?_
 ·refine wb ?_
  refine Bn 0 rfl λ hl0 => ?_
  refine wl (yC x0 x1) (Ajs) hm0 (λ z0 hn0 => ?_) λ n0 a0 z0 w0b hi0 hx0 h hb0 hr0 => ?_
  ·clear hm0
   exact wx w0 (Amz) (Aos) qD 26 [false] [] [] 0 [] _ hC [pq (Be hl0)] hn0
  ·unfold Apu at h
   rcases cB h with ⟨h1, h⟩ | ⟨h1, h⟩
   ·have hq := hret0 _ (hr0 _ (sI h).symm)
    replace hq := sI hq
    subst hq
    exact wr qD 35 [true, true] [pt hx0 hl0] [] 0 [] hC [pq (A9 hi0 hl0), pq h1]
   ·exact wx w0b (yC x0 x1 (n0 + 1)) (Ajs (n0 + 1)) qD 36 [true, false] [pt hx0 hl0] [] 0 [] _ hC [pq (A9 hi0 hl0), pq h1] (sI h).symm
 ·have h := hnext0 _ hs0
  replace h := sI h
  subst h
  exact wr qD 23 [] [] [] 0 [] hC []
theorem Bay : EN 227 := en Tryz.func227
theorem A4v (x0 : List Int) (r : Bool) (h : A0u x0 = r) : CO 192 [.d (DS pI x0)] [] (.d (Bo r)) [] := by
 unfold A0u at h
 refine co 6 Tryz.func192 λ C hC => ?_
 subst h
 exact wr [0, 2] 25 [] [pl pI x0] [] 0 [] hC []
theorem A6s : EN 192 := en Tryz.func192
def qK : List Nat := [0, 1, 2, 4, 5, 6, 11, 16, 20]
theorem A_8 (x0 : Aa) (x1 : Int) (r : Int) (h : Lt x0 x1 = r) : CO 152 [.agg (d29 x0), .d (I x1)] [] (.d (I r)) [] := by
 unfold Lt at h
 refine co 25 Tryz.func152 λ C hC => ?_
 rcases cB h with ⟨h1, h⟩ | ⟨h1, h⟩
 ·subst h
  exact wr qK 32 [true] [pl Br x0.Ac] [] 0 [] hC [pq h1]
 ·rcases cB h with ⟨h2, h⟩ | ⟨h2, h⟩
  ·subst h
   exact wr qK 35 [false, true] [pl Bi x0.Ad] [] 0 [] hC [pq h1, pq h2]
  ·rcases cB h with ⟨h3, h⟩ | ⟨h3, h⟩
   ·subst h
    exact wr qK 38 [false, false, true] [] [] 0 [] hC [pq h1, pq h2, pq h3]
   ·rcases cB h with ⟨h4, h⟩ | ⟨h4, h⟩
    ·subst h
     exact wr qK 41 [false, false, false, true] [pl q65 x0.Af] [] 0 [] hC [pq h1, pq h2, pq h3, pq h4]
    ·subst h
     exact wr qK 43 [false, false, false, false] [] [] 0 [] hC [pq h1, pq h2, pq h3, pq h4]
theorem Bbp : EN 152 := en Tryz.func152
theorem Lk (x0 : Int) (r : Bool) (h : Z2 x0 = r) : CO 199 [.d (I x0)] [] (.d (Bo r)) [] := by
 unfold Z2 at h
 refine co 6 Tryz.func199 λ C hC => ?_
 subst h
 exact wr [0, 2] 25 [] [] [] 0 [] hC []
theorem Lo : EN 199 := en Tryz.func199
def qJ : List Nat := [0, 2, 3, 5, 6, 7, 8, 9, 14]
def yQ (x0 : List Int) (n0 : Nat) (z0 : Unit) : St := [(2, dI 0), (3, dI 0), (6, .d (DS pI x0)), (7, dI (ln x0)), (8, dI (cnt 0 n0))]
def Aj7  (n0 : Nat) (z0 : Unit) : List Res := []
def Ang  (z0 : Unit) : St := [(2, dI 0), (3, dI 0)]
def Ao9  (z0 : Unit) : List Res := []
theorem A_7 (x0 : List Int) (r : Int) (h : Aa4 x0 = some r) : CO 153 [.d (DS pI x0)] [] (.d (I r)) [] := by
 unfold Aa4 at h
 refine co 18 Tryz.func153 λ C hC => ?_
 refine ws qJ 28 [] [pl pI x0] [] 0 [] (yQ x0 0 ()) (Aj7 0 ()) hC [] ?_
 obtain ⟨w0, hm0, hret0, hnext0⟩ := Ar h
 clear h
 refine wc w0 (Ang) (Ao9) ?_ λ z0 hs0 => ?_
 ·refine wb ?_
  refine Bn 6 rfl λ hl0 => ?_
  refine wl (yQ x0) (Aj7) hm0 (λ z0 hn0 => ?_) λ n0 a0 z0 w0b hi0 hx0 h hb0 hr0 => ?_
  ·clear hm0
   exact wx w0 (Ang) (Ao9) qJ 26 [false] [] [] 0 [] _ hC [pq (Be hl0)] hn0
  ·unfold Xj at h
   rcases cB h with ⟨h1, h⟩ | ⟨h1, h⟩
   ·have hq := hret0 _ (hr0 _ (sI h).symm)
    replace hq := sI hq
    subst hq
    exact wr qJ 35 [true, true] [pt hx0 hl0] [] 0 [] hC [pq (A9 hi0 hl0), pq h1]
   ·exact wx w0b (yQ x0 (n0 + 1)) (Aj7 (n0 + 1)) qJ 36 [true, false] [pt hx0 hl0] [] 0 [] _ hC [pq (A9 hi0 hl0), pq h1] (sI h).symm
 ·have h := hnext0 _ hs0
  replace h := sI h
  subst h
  exact wr qJ 23 [] [] [] 0 [] hC []
theorem Bbo : EN 153 := en Tryz.func153
def qM : List Nat := [0, 1, 2, 3, 4, 6, 7, 8, 9, 11, 12, 13, 14, 33]
def V7 (x0 : Aa) (x2 : Int) (n0 : Nat) (z0 : Int) : St := [(2, dI x2), (4, dO 0 0), (6, dI 0), (7, dI z0), (11, .d (DS Bi x0.Ad)), (12, dI (ln x0.Ad)), (13, dI (cnt 0 n0))]
def uZ (x1 : Ab) (n0 : Nat) (z0 : Int) : List Res := [.box 36 (d36 x1)]
def Anz  (z0 : Int) : St := [(6, dI 0), (7, dI z0)]
def Aps  (z0 : Int) : List Res := []
theorem Baq (x0 : Aa) (x1 : Ab) (x2 : Int) (r : Int) (h : Al3 x0 x1 x2 = some r) : CO 100 [.agg (d29 x0), .agg (d36 x1), .d (I x2)] [] (.d (I r)) [] := by
 unfold Al3 at h
 refine co 38 Tryz.func100 λ C hC => ?_
 refine ws qM 28 [] [pl Bi x0.Ad] [] 0 [1] (V7 x0 x2 0 0) (uZ x1 0 0) hC [] ?_
 obtain ⟨w0, hm0, hret0, hnext0⟩ := Ar h
 clear h
 refine wc w0 (Anz) (Aps) ?_ λ z0 hs0 => ?_
 ·refine wb ?_
  refine Bn 11 rfl λ hl0 => ?_
  refine wl (V7 x0 x2) (uZ x1) hm0 (λ z0 hn0 => ?_) λ n0 a0 z0 w0b hi0 hx0 h hb0 hr0 => ?_
  ·clear hm0
   exact wx w0 (Anz) (Aps) qM 26 [false] [] [] 0 [] _ hC [pq (Be hl0)] hn0
  ·unfold Abk at h
   obtain ⟨y1, h2, h⟩ := Ax h
   rcases cB h with ⟨h3, h⟩ | ⟨h3, h⟩
   ·exact wx w0b (V7 x0 x2 (n0 + 1)) (uZ x1 (n0 + 1)) qM 36 [true, true] [pt hx0 hl0, pR pB h2] [] 0 [0] _ hC [pq (A9 hi0 hl0), pq h3] (sI h).symm
   ·exact wx w0b (V7 x0 x2 (n0 + 1)) (uZ x1 (n0 + 1)) qM 36 [true, false] [pt hx0 hl0, pR pB h2] [] 0 [0] _ hC [pq (A9 hi0 hl0), pq h3] (sI h).symm
 ·have h := hnext0 _ hs0
  replace h := sI h
  subst h
  exact wr qM 23 [] [] [] 0 [] hC []
theorem Bb7 : EN 100 := en Tryz.func100
theorem A_0 (x0 : List Bool) (r : List Bool) (h : As2 x0 = some r) : CO 166 [.d (.p (.s (x0.map pB)))] [] (.d (.os 0)) [v2_ r] := by
 unfold As2 at h
 refine co 8 Tryz.func166 λ C hC => ?_
 refine ws [0, 4] 40 [] [] [] 0 [] [(0, .d (.p (.s (x0.map pB)))), (4, .d (.nq (x0.map pB)))] [] hC [] ?_
 refine W6 4 (by kernel_rfl) (by kernel_rfl) rfl (λ hn => ?_) ?_
 ·have hx : x0 = [] := by cases x0 with | nil => rfl | cons => cases hn
  subst hx
  have hr : r = [] := by simpa [appI] using h.symm
  subst hr
  exact wr [2] 40 [] [] [.own 2 4 1] 0 [0] hC []
 ·exact wr [2] 40 [] [⟨.own, trivial⟩, ⟨.app [] (x0.map pB) 1 ((([] : List (List Pd)).length + (x0.map pB).length) * (1 + 1)) (r.map pB), Ib (l := []) pB 1 (λ _ => rfl) h⟩] [] 0 [1] hC []
theorem Bbh : EN 166 := en Tryz.func166
theorem A_z (x0 : List Ae) (r : List Ae) (h : As1 x0 = some r) : CO 167 [.d (.p (.s (x0.map A_)))] [] (.d (.os 0)) [v5_ r] := by
 unfold As1 at h
 refine co 8 Tryz.func167 λ C hC => ?_
 refine ws [0, 4] 40 [] [] [] 0 [] [(0, .d (.p (.s (x0.map A_)))), (4, .d (.nq (x0.map A_)))] [] hC [] ?_
 refine W6 4 (by kernel_rfl) (by kernel_rfl) rfl (λ hn => ?_) ?_
 ·have hx : x0 = [] := by cases x0 with | nil => rfl | cons => cases hn
  subst hx
  have hr : r = [] := by simpa [appI] using h.symm
  subst hr
  exact wr [2] 40 [] [] [.own 2 120 4] 0 [0] hC []
 ·exact wr [2] 40 [] [⟨.own, trivial⟩, ⟨.app [] (x0.map A_) 4 ((([] : List (List Pd)).length + (x0.map A_).length) * (32 + 1)) (r.map A_), Ib (l := []) A_ 4 (λ _ => rfl) h⟩] [] 0 [1] hC []
theorem Bbg : EN 167 := en Tryz.func167
theorem A48 (x0 : List Int) (r : List Int) (h : Z6 x0 = some r) : CO 168 [.d (.p (.s (x0.map pI)))] [] (.d (.os 0)) [v0_ r] := by
 unfold Z6 at h
 refine co 8 Tryz.func168 λ C hC => ?_
 refine ws [0, 4] 40 [] [] [] 0 [] [(0, .d (.p (.s (x0.map pI)))), (4, .d (.nq (x0.map pI)))] [] hC [] ?_
 refine W6 4 (by kernel_rfl) (by kernel_rfl) rfl (λ hn => ?_) ?_
 ·have hx : x0 = [] := by cases x0 with | nil => rfl | cons => cases hn
  subst hx
  have hr : r = [] := by simpa [appI] using h.symm
  subst hr
  exact wr [2] 40 [] [] [.own 2 3 1] 0 [0] hC []
 ·exact wr [2] 40 [] [⟨.own, trivial⟩, ⟨.app [] (x0.map pI) 1 ((([] : List (List Pd)).length + (x0.map pI).length) * (8 + 1)) (r.map pI), Ib (l := []) pI 1 (λ _ => rfl) h⟩] [] 0 [1] hC []
theorem A65 : EN 168 := en Tryz.func168
theorem A_y (x0 : List Am) (r : List Am) (h : As0 x0 = some r) : CO 169 [.d (.p (.s (x0.map q86)))] [] (.d (.os 0)) [v4_ r] := by
 unfold As0 at h
 refine co 8 Tryz.func169 λ C hC => ?_
 refine ws [0, 4] 40 [] [] [] 0 [] [(0, .d (.p (.s (x0.map q86)))), (4, .d (.nq (x0.map q86)))] [] hC [] ?_
 refine W6 4 (by kernel_rfl) (by kernel_rfl) rfl (λ hn => ?_) ?_
 ·have hx : x0 = [] := by cases x0 with | nil => rfl | cons => cases hn
  subst hx
  have hr : r = [] := by simpa [appI] using h.symm
  subst hr
  exact wr [2] 40 [] [] [.own 2 86 2] 0 [0] hC []
 ·exact wr [2] 40 [] [⟨.own, trivial⟩, ⟨.app [] (x0.map q86) 2 ((([] : List (List Pd)).length + (x0.map q86).length) * (16 + 1)) (r.map q86), Ib (l := []) q86 2 (λ _ => rfl) h⟩] [] 0 [1] hC []
theorem Bbf : EN 169 := en Tryz.func169
def Jo : List Nat := [0, 1, 2, 3, 4, 5, 6, 7, 8, 9, 14, 15, 16, 24, 25, 26, 28, 29, 30, 31, 44]
def yS (y1 : List Int) (n0 : Nat) (z0 : (List Int)) : St := [(2, dO 0 0), (3, dO 1 0), (4, .d (DS pI [])), (5, dS 2), (14, dI (ln y1)), (15, dI (cnt 0 n0))]
def Aj9 (x0 : Aa) (x1 : Ab) (n0 : Nat) (z0 : (List Int)) : List Res := [.box 29 (d29 x0), .box 36 (d36 x1), v0_ z0]
def Anj  (z0 : (List Int)) : St := [(2, dO 0 0), (3, dO 1 0), (4, .d (DS pI [])), (5, dS 2)]
def Apc (x0 : Aa) (x1 : Ab) (z0 : (List Int)) : List Res := [.box 29 (d29 x0), .box 36 (d36 x1), v0_ z0]
def yR (z0 : (List Int)) (n1 : Nat) (z1 : (List Int)) : St := [(2, dO 0 0), (3, dO 1 0), (4, .d (DS pI [])), (5, dS 2), (24, dI (ln z0)), (25, dI (cnt 0 n1))]
def Aj8 (x0 : Aa) (x1 : Ab) (n1 : Nat) (z1 : (List Int)) : List Res := [.box 29 (d29 x0), .box 36 (d36 x1), v0_ z1]
def Ani  (z1 : (List Int)) : St := [(4, .d (DS pI [])), (5, dS 0)]
def Apb  (z1 : (List Int)) : List Res := [v0_ z1]
def V3 (x0 : Aa) (z0 : (List Int)) (n1 : Nat) (n2 : Nat) (z2 : (List Int)) : St := [(2, dO 0 0), (3, dO 1 0), (4, .d (DS pI [])), (5, dS 2), (24, dI (ln z0)), (25, dI (cnt 0 n1)), (28, .d (DS Bi x0.Ad)), (29, dI (ln x0.Ad)), (30, dI (cnt 0 n2))]
def uV (x0 : Aa) (x1 : Ab) (n2 : Nat) (z2 : (List Int)) : List Res := [.box 29 (d29 x0), .box 36 (d36 x1), v0_ z2]
def Anh (z0 : (List Int)) (n1 : Nat) (z2 : (List Int)) : St := [(2, dO 0 0), (3, dO 1 0), (4, .d (DS pI [])), (5, dS 2), (24, dI (ln z0)), (25, dI (cnt 0 n1))]
def Apa (x0 : Aa) (x1 : Ab) (z2 : (List Int)) : List Res := [.box 29 (d29 x0), .box 36 (d36 x1), v0_ z2]
theorem A5g (x0 : Aa) (x1 : Ab) (r : (List Int)) (h : Aa7 x0 x1 = some r) : CO 142 [.agg (d29 x0), .agg (d36 x1)] [] (.d (.os 0)) [v0_ r] := by
 unfold Aa7 at h
 refine co 69 Tryz.func142 λ C hC => ?_
 obtain ⟨y1, h2, h⟩ := Ax h
 refine ws Jo 28 [] [⟨.room (x0.Al * (8 + 1)) (List.replicate (Int.toNat x0.Al) (pI 0)) (y1.map pI), Hi h2⟩, pl pI y1] [] 0 n3_ (yS y1 0 y1) (Aj9 x0 x1 0 y1) hC [] ?_
 obtain ⟨w0, hm0, hret0, hnext0⟩ := Ar h
 clear h
 refine wc w0 (Anj) (Apc x0 x1) ?_ λ z0 hs0 => ?_
 ·refine wb ?_
  refine Co 5 2 rfl rfl λ hl0 => ?_
  refine wl (yS y1) (Aj9 x0 x1) hm0 (λ z0 hn0 => ?_) λ n0 a0 z0 w0b hi0 hx0 h hb0 hr0 => ?_
  ·clear hm0
   exact wx w0 (Anj) (Apc x0 x1) Jo 26 [false] [] [] 0 n3_ _ hC [pq (Be hl0)] hn0
  ·unfold Aa6 at h
   obtain ⟨y3, h4, y5, h6, h⟩ := Bc h
   exact wx w0b (yS y1 (n0 + 1)) (Aj9 x0 x1 (n0 + 1)) Jo 33 [true] [pr pI h4, pu pI h4 h6] [] 0 n3_ _ hC [pq (A9 hi0 hl0)] (sI h).symm
 ·have h := hnext0 _ hs0
  refine ws Jo 24 [] [pl pI z0] [] 0 n3_ (yR z0 0 z0) (Aj8 x0 x1 0 z0) hC [] ?_
  obtain ⟨w1, hm1, hret1, hnext1⟩ := Ar h
  clear h
  refine wc w1 (Ani) (Apb) ?_ λ z1 hs1 => ?_
  ·refine wb ?_
   refine Co 5 2 rfl rfl λ hl1 => ?_
   refine wl (yR z0) (Aj8 x0 x1) hm1 (λ z1 hn1 => ?_) λ n1 a1 z1 w1b hi1 hx1 h hb1 hr1 => ?_
   ·clear hm1
    exact wx w1 (Ani) (Apb) Jo 26 [false] [] [] 0 [2] _ hC [pq (Be hl1)] hn1
   ·unfold Aa5 at h
    refine ws Jo 30 [true] [pl Bi x0.Ad] [] 0 n3_ (V3 x0 z0 n1 0 z1) (uV x0 x1 0 z1) hC [pq (A9 hi1 hl1)] ?_
    obtain ⟨w2, hm2, hret2, hnext2⟩ := Ar h
    clear h
    refine wc w2 (Anh z0 n1) (Apa x0 x1) ?_ λ z2 hs2 => ?_
    ·refine wb ?_
     refine Bn 28 rfl λ hl2 => ?_
     refine wl (V3 x0 z0 n1) (uV x0 x1) hm2 (λ z2 hn2 => ?_) λ n2 a2 z2 w2b hi2 hx2 h hb2 hr2 => ?_
     ·clear hm2
      exact wx w2 (Anh z0 n1) (Apa x0 x1) Jo 26 [false] [] [] 0 n3_ _ hC [pq (Be hl2)] hn2
     ·unfold Xk at h
      obtain ⟨y7, h8, h⟩ := Ax h
      rcases cB h with ⟨h9, h⟩ | ⟨h9, h⟩
      ·obtain ⟨y10, h11, y12, h13, y14, h15, h⟩ := B0 h
       obtain ⟨y16, h17, y18, h19, h⟩ := Bc h
       exact wx w2b (V3 x0 z0 n1 (n2 + 1)) (uV x0 x1 (n2 + 1)) Jo 38 [true, true] [pt hx2 hl2, pR pB h8, pr pI h11, pn pI h11, pr pI h13, pn pI h13, pr pI h11, pu pI h11 h15, pr pI h17, pu pI h17 h19] [] 0 n3_ _ hC [pq (A9 hi2 hl2), pq h9] (sI h).symm
      ·exact wx w2b (V3 x0 z0 n1 (n2 + 1)) (uV x0 x1 (n2 + 1)) Jo 36 [true, false] [pt hx2 hl2, pR pB h8] [] 0 n3_ _ hC [pq (A9 hi2 hl2), pq h9] (sI h).symm
    ·have h := hnext2 _ hs2
     exact wx w1b (yR z0 (n1 + 1)) (Aj8 x0 x1 (n1 + 1)) Jo 23 [] [] [] 0 n3_ _ hC [] (sI h).symm
  ·have h := hnext1 _ hs1
   replace h := sI h
   subst h
   exact wr Jo 23 [] [] [] 0 [0] hC []
theorem A7d : EN 142 := en Tryz.func142
def qH : List Nat := [0, 1, 2, 3, 4, 5, 8, 9, 10, 11, 13, 14, 15, 16, 36]
def yG (x0 : Aa) (x2 : Int) (x3 : Int) (n0 : Nat) (z0 : Unit) : St := [(2, dI x2), (3, dI x3), (5, dO 0 0), (8, dI 0), (9, dB false), (13, .d (DS Bi x0.Ad)), (14, dI (ln x0.Ad)), (15, dI (cnt 0 n0))]
def Ajw (x1 : Ab) (n0 : Nat) (z0 : Unit) : List Res := [.box 36 (d36 x1)]
def Am5  (z0 : Unit) : St := [(8, dI 0), (9, dB false)]
def Aoy  (z0 : Unit) : List Res := []
theorem A4u (x0 : Aa) (x1 : Ab) (x2 : Int) (x3 : Int) (r : Int × Bool) (h : Aav x0 x1 x2 x3 = some r) : CO 195 [.agg (d29 x0), .agg (d36 x1), .d (I x2), .d (I x3)] [] (.tup [.d (I r.1), .d (Bo r.2)]) [] := by
 unfold Aav at h
 refine co 40 Tryz.func195 λ C hC => ?_
 refine ws qH 26 [] [pl Bi x0.Ad] [] 0 [1] (yG x0 x2 x3 0 ()) (Ajw x1 0 ()) hC [] ?_
 obtain ⟨w0, hm0, hret0, hnext0⟩ := Ar h
 clear h
 refine wc w0 (Am5) (Aoy) ?_ λ z0 hs0 => ?_
 ·refine wb ?_
  refine Bn 13 rfl λ hl0 => ?_
  refine wl (yG x0 x2 x3) (Ajw x1) hm0 (λ z0 hn0 => ?_) λ n0 a0 z0 w0b hi0 hx0 h hb0 hr0 => ?_
  ·clear hm0
   exact wx w0 (Am5) (Aoy) qH 26 [false] [] [] 0 [] _ hC [pq (Be hl0)] hn0
  ·unfold Xg at h
   obtain ⟨y1, h2, h⟩ := Ax h
   rcases cB h with ⟨h3, h⟩ | ⟨h3, h⟩
   ·have hq := hret0 _ (hr0 _ (sI h).symm)
    replace hq := sI hq
    subst hq
    exact wr qH 35 [true, true] [pt hx0 hl0, pR pB h2] [] 0 [] hC [pq (A9 hi0 hl0), pq h3]
   ·exact wx w0b (yG x0 x2 x3 (n0 + 1)) (Ajw x1 (n0 + 1)) qH 36 [true, false] [pt hx0 hl0, pR pB h2] [] 0 [0] _ hC [pq (A9 hi0 hl0), pq h3] (sI h).symm
 ·have h := hnext0 _ hs0
  replace h := sI h
  subst h
  exact wr qH 23 [] [] [] 0 [] hC []
theorem A6r : EN 195 := en Tryz.func195
theorem A5f (x0 : Ai) (r : Bool) (h : As5 x0 = r) : CO 146 [.agg (d84 x0)] [] (.d (Bo r)) [] := by
 unfold As5 at h
 refine co 7 Tryz.func146 λ C hC => ?_
 subst h
 exact wr n3_ 25 [] [pl pI x0.Al] [] 0 [] hC []
theorem A7c : EN 146 := en Tryz.func146
def Wo : List Nat := [0, 1, 2, 3, 5, 7, 8, 9, 10, 11]
def Ta (x1 : List Int) (n0 : Nat) (z0 : (List Ae)) : St := [(3, dO 4 0), (5, dO 5 0), (8, .d (DS pI x1)), (9, dI (ln x1)), (10, dI (cnt 0 n0))]
def Zt (x0 : Ab) (x2 : Ae) (n0 : Nat) (z0 : (List Ae)) : List Res := [v2_ x0.Ag, v5_ z0, v0_ x0.Aq, v4_ x0.Ao, .box 36 [.os 0, .os 1, .os 2, .os 3], .box 120 (O_ x2)]
def Acw  (z0 : (List Ae)) : St := []
def Aej (x0 : Ab) (z0 : (List Ae)) : List Res := [v2_ x0.Ag, v5_ z0, v0_ x0.Aq, v4_ x0.Ao]
theorem Ahu (x0 : Ab) (x1 : List Int) (x2 : Ae) (r : (List Ae)) (h : Nt x0 x1 x2 = some r) : CO 117 [.agg [.os 0, .os 1, .os 2, .os 3], .d (DS pI x1), .agg (O_ x2)] (zp x0 []) (.tup []) [v2_ x0.Ag, v5_ r, v0_ x0.Aq, v4_ x0.Ao] := by
 unfold Nt at h
 refine co 29 Tryz.func117 λ C hC => ?_
 refine ws Wo 25 [] [pl pI x1] [] 4 n6_ (Ta x1 0 x0.Ac) (Zt x0 x2 0 x0.Ac) hC [] ?_
 obtain ⟨w0, hm0, hret0, hnext0⟩ := Ar h
 clear h
 refine wc w0 (Acw) (Aej x0) ?_ λ z0 hs0 => ?_
 ·refine wb ?_
  refine Bn 8 rfl λ hl0 => ?_
  refine wl (Ta x1) (Zt x0 x2) hm0 (λ z0 hn0 => ?_) λ n0 a0 z0 w0b hi0 hx0 h hb0 hr0 => ?_
  ·clear hm0
   exact wx w0 (Acw) (Aej x0) Wo 26 [false] [] [] 4 n4_ _ hC [pq (Be hl0)] hn0
  ·unfold Vx at h
   obtain ⟨y1, h2, y3, h4, y5, h6, y7, h8, h⟩ := Cn h
   exact wx w0b (Ta x1 (n0 + 1)) (Zt x0 x2 (n0 + 1)) Wo 33 [true] [pt hx0 hl0, pr A_ h2, pu A_ h2 h4, pr A_ h6, pu A_ h6 h8] [] 4 n6_ _ hC [pq (A9 hi0 hl0)] (sI h).symm
 ·have h := hnext0 _ hs0
  replace h := sI h
  subst h
  exact wf Wo 20 [] [] [] 4 n4_ hC []
theorem Ain : EN 117 := en Tryz.func117
theorem k59 (x0 : Bd) (r : Bool) (h : F59 x0 = r) : CO 59 [.agg (d31 x0)] [] (.d (Bo r)) [] := by
 unfold F59 at h
 refine co 33 Tryz.func59 λ C hC => ?_
 subst h
 exact wr n3_ 25 [] [] [] 0 [] hC []
theorem e59 : EN 59 := en Tryz.func59
def Wn : List Nat := [0, 1, 4, 5, 10, 12, 13, 14, 24]
def zA (x0 : List Bool) (x1 : List Bool) (n0 : Nat) (z0 : Unit) : St := [(0, .d (DS pB x0)), (1, .d (DS pB x1)), (4, dB false), (12, dI (ln x0)), (13, dI (cnt 0 n0))]
def Akh  (n0 : Nat) (z0 : Unit) : List Res := []
def Anu  (z0 : Unit) : St := [(4, dB false)]
def Apn  (z0 : Unit) : List Res := []
theorem Bak (x0 : List Bool) (x1 : List Bool) (r : Bool) (h : jB x0 x1 = some r) : CO 118 [.d (DS pB x0), .d (DS pB x1)] [] (.d (Bo r)) [] := by
 unfold jB at h
 refine co 26 Tryz.func118 λ C hC => ?_
 rcases cB h with ⟨h1, h⟩ | ⟨h1, h⟩
 ·replace h := sI h
  subst h
  exact wr Wn 29 [true] [pl pB x0, pl pB x1] [] 0 [] hC [pq h1]
 ·refine ws Wn 31 [false] [pl pB x0, pl pB x1, pl pB x0] [] 0 [] (zA x0 x1 0 ()) (Akh 0 ()) hC [pq h1] ?_
  obtain ⟨w0, hm0, hret0, hnext0⟩ := Ar h
  clear h
  refine wc w0 (Anu) (Apn) ?_ λ z0 hs0 => ?_
  ·refine wb ?_
   refine Bn 0 rfl λ hl0 => ?_
   refine wl (zA x0 x1) (Akh) hm0 (λ z0 hn0 => ?_) λ n0 a0 z0 w0b hi0 hx0 h hb0 hr0 => ?_
   ·clear hm0
    exact wx w0 (Anu) (Apn) Wn 26 [false] [] [] 0 [] _ hC [pq (Be hl0)] hn0
   ·unfold Xp at h
    obtain ⟨y2, h3, h⟩ := Ax h
    rcases cB h with ⟨h4, h⟩ | ⟨h4, h⟩
    ·have hq := hret0 _ (hr0 _ (sI h).symm)
     replace hq := sI hq
     subst hq
     exact wr Wn 35 [true, true] [pt hx0 hl0, pr pB h3] [] 0 [] hC [pq (A9 hi0 hl0), pq h4]
    ·exact wx w0b (zA x0 x1 (n0 + 1)) (Akh (n0 + 1)) Wn 36 [true, false] [pt hx0 hl0, pr pB h3] [] 0 [] _ hC [pq (A9 hi0 hl0), pq h4] (sI h).symm
  ·have h := hnext0 _ hs0
   replace h := sI h
   subst h
   exact wr Wn 23 [] [] [] 0 [] hC []
theorem Bb1 : EN 118 := en Tryz.func118
def Wm : List Nat := [0, 1, 4, 5, 10, 12, 13, 14, 24]
def yZ (x0 : List Ae) (x1 : List Ae) (n0 : Nat) (z0 : Unit) : St := [(0, .d (DS A_ x0)), (1, .d (DS A_ x1)), (4, dB false), (12, dI (ln x0)), (13, dI (cnt 0 n0))]
def Akg  (n0 : Nat) (z0 : Unit) : List Res := []
def Ant  (z0 : Unit) : St := [(4, dB false)]
def Apm  (z0 : Unit) : List Res := []
theorem Baj (x0 : List Ae) (x1 : List Ae) (r : Bool) (h : jA x0 x1 = some r) : CO 119 [.d (DS A_ x0), .d (DS A_ x1)] [] (.d (Bo r)) [] := by
 unfold jA at h
 refine co 26 Tryz.func119 λ C hC => ?_
 rcases cB h with ⟨h1, h⟩ | ⟨h1, h⟩
 ·replace h := sI h
  subst h
  exact wr Wm 29 [true] [pl A_ x0, pl A_ x1] [] 0 [] hC [pq h1]
 ·refine ws Wm 31 [false] [pl A_ x0, pl A_ x1, pl A_ x0] [] 0 [] (yZ x0 x1 0 ()) (Akg 0 ()) hC [pq h1] ?_
  obtain ⟨w0, hm0, hret0, hnext0⟩ := Ar h
  clear h
  refine wc w0 (Ant) (Apm) ?_ λ z0 hs0 => ?_
  ·refine wb ?_
   refine Bn 0 rfl λ hl0 => ?_
   refine wl (yZ x0 x1) (Akg) hm0 (λ z0 hn0 => ?_) λ n0 a0 z0 w0b hi0 hx0 h hb0 hr0 => ?_
   ·clear hm0
    exact wx w0 (Ant) (Apm) Wm 26 [false] [] [] 0 [] _ hC [pq (Be hl0)] hn0
   ·unfold Xo at h
    obtain ⟨y2, h3, h⟩ := Ax h
    rcases cB h with ⟨h4, h⟩ | ⟨h4, h⟩
    ·have hq := hret0 _ (hr0 _ (sI h).symm)
     replace hq := sI hq
     subst hq
     exact wr Wm 35 [true, true] [pt hx0 hl0, pr A_ h3] [] 0 [] hC [pq (A9 hi0 hl0), pq h4]
    ·exact wx w0b (yZ x0 x1 (n0 + 1)) (Akg (n0 + 1)) Wm 36 [true, false] [pt hx0 hl0, pr A_ h3] [] 0 [] _ hC [pq (A9 hi0 hl0), pq h4] (sI h).symm
  ·have h := hnext0 _ hs0
   replace h := sI h
   subst h
   exact wr Wm 23 [] [] [] 0 [] hC []
theorem Bb0 : EN 119 := en Tryz.func119
def Wl : List Nat := [0, 1, 4, 5, 10, 12, 13, 14, 24]
def yY (x0 : List Int) (x1 : List Int) (n0 : Nat) (z0 : Unit) : St := [(0, .d (DS pI x0)), (1, .d (DS pI x1)), (4, dB false), (12, dI (ln x0)), (13, dI (cnt 0 n0))]
def Akf  (n0 : Nat) (z0 : Unit) : List Res := []
def Ans  (z0 : Unit) : St := [(4, dB false)]
def Apl  (z0 : Unit) : List Res := []
theorem Bai (x0 : List Int) (x1 : List Int) (r : Bool) (h : Z_ x0 x1 = some r) : CO 120 [.d (DS pI x0), .d (DS pI x1)] [] (.d (Bo r)) [] := by
 unfold Z_ at h
 refine co 26 Tryz.func120 λ C hC => ?_
 rcases cB h with ⟨h1, h⟩ | ⟨h1, h⟩
 ·replace h := sI h
  subst h
  exact wr Wl 29 [true] [pl pI x0, pl pI x1] [] 0 [] hC [pq h1]
 ·refine ws Wl 31 [false] [pl pI x0, pl pI x1, pl pI x0] [] 0 [] (yY x0 x1 0 ()) (Akf 0 ()) hC [pq h1] ?_
  obtain ⟨w0, hm0, hret0, hnext0⟩ := Ar h
  clear h
  refine wc w0 (Ans) (Apl) ?_ λ z0 hs0 => ?_
  ·refine wb ?_
   refine Bn 0 rfl λ hl0 => ?_
   refine wl (yY x0 x1) (Akf) hm0 (λ z0 hn0 => ?_) λ n0 a0 z0 w0b hi0 hx0 h hb0 hr0 => ?_
   ·clear hm0
    exact wx w0 (Ans) (Apl) Wl 26 [false] [] [] 0 [] _ hC [pq (Be hl0)] hn0
   ·unfold Xn at h
    obtain ⟨y2, h3, h⟩ := Ax h
    rcases cB h with ⟨h4, h⟩ | ⟨h4, h⟩
    ·have hq := hret0 _ (hr0 _ (sI h).symm)
     replace hq := sI hq
     subst hq
     exact wr Wl 35 [true, true] [pt hx0 hl0, pr pI h3] [] 0 [] hC [pq (A9 hi0 hl0), pq h4]
    ·exact wx w0b (yY x0 x1 (n0 + 1)) (Akf (n0 + 1)) Wl 36 [true, false] [pt hx0 hl0, pr pI h3] [] 0 [] _ hC [pq (A9 hi0 hl0), pq h4] (sI h).symm
  ·have h := hnext0 _ hs0
   replace h := sI h
   subst h
   exact wr Wl 23 [] [] [] 0 [] hC []
theorem Bbz : EN 120 := en Tryz.func120
def Wk : List Nat := [0, 1, 4, 5, 10, 12, 13, 14, 24]
def yX (x0 : List Am) (x1 : List Am) (n0 : Nat) (z0 : Unit) : St := [(0, .d (DS q86 x0)), (1, .d (DS q86 x1)), (4, dB false), (12, dI (ln x0)), (13, dI (cnt 0 n0))]
def Ake  (n0 : Nat) (z0 : Unit) : List Res := []
def Anr  (z0 : Unit) : St := [(4, dB false)]
def Apk  (z0 : Unit) : List Res := []
theorem Bah (x0 : List Am) (x1 : List Am) (r : Bool) (h : Z9 x0 x1 = some r) : CO 121 [.d (DS q86 x0), .d (DS q86 x1)] [] (.d (Bo r)) [] := by
 unfold Z9 at h
 refine co 26 Tryz.func121 λ C hC => ?_
 rcases cB h with ⟨h1, h⟩ | ⟨h1, h⟩
 ·replace h := sI h
  subst h
  exact wr Wk 29 [true] [pl q86 x0, pl q86 x1] [] 0 [] hC [pq h1]
 ·refine ws Wk 31 [false] [pl q86 x0, pl q86 x1, pl q86 x0] [] 0 [] (yX x0 x1 0 ()) (Ake 0 ()) hC [pq h1] ?_
  obtain ⟨w0, hm0, hret0, hnext0⟩ := Ar h
  clear h
  refine wc w0 (Anr) (Apk) ?_ λ z0 hs0 => ?_
  ·refine wb ?_
   refine Bn 0 rfl λ hl0 => ?_
   refine wl (yX x0 x1) (Ake) hm0 (λ z0 hn0 => ?_) λ n0 a0 z0 w0b hi0 hx0 h hb0 hr0 => ?_
   ·clear hm0
    exact wx w0 (Anr) (Apk) Wk 26 [false] [] [] 0 [] _ hC [pq (Be hl0)] hn0
   ·unfold Xm at h
    obtain ⟨y2, h3, h⟩ := Ax h
    rcases cB h with ⟨h4, h⟩ | ⟨h4, h⟩
    ·have hq := hret0 _ (hr0 _ (sI h).symm)
     replace hq := sI hq
     subst hq
     exact wr Wk 35 [true, true] [pt hx0 hl0, pr q86 h3] [] 0 [] hC [pq (A9 hi0 hl0), pq h4]
    ·exact wx w0b (yX x0 x1 (n0 + 1)) (Ake (n0 + 1)) Wk 36 [true, false] [pt hx0 hl0, pr q86 h3] [] 0 [] _ hC [pq (A9 hi0 hl0), pq h4] (sI h).symm
  ·have h := hnext0 _ hs0
   replace h := sI h
   subst h
   exact wr Wk 23 [] [] [] 0 [] hC []
theorem Bby : EN 121 := en Tryz.func121
theorem A1c (x0 : Int) (x1 : Az) (r : Bool) (h : R6 x0 x1 = r) : CO 58 [.d (I x0), .d (.ip [.v (.int .i64 x1.Time), .s (x1.Power.Ag.map pB), .s (x1.Power.Ac.map A_), .s (x1.Power.Aq.map pI), .s (x1.Power.Ao.map q86), .s (x1.A5.map B2), .s (x1.A6.map q51)])] [] (.d (Bo r)) [] := by
 unfold R6 at h
 refine co 12 Tryz.func58 λ C hC => ?_
 subst h
 exact wr [0, 1, 3] 25 [] [] [] 0 [] hC []
theorem A1i : EN 58 := en Tryz.func58
theorem A5n (x0 : List A0) (r : List A0) (h : Alw x0 = some r) : CO 123 [.d (.p (.s (x0.map B2)))] [] (.d (.os 0)) [v3_ r] := by
 unfold Alw at h
 refine co 8 Tryz.func123 λ C hC => ?_
 refine ws [0, 4] 40 [] [] [] 0 [] [(0, .d (.p (.s (x0.map B2)))), (4, .d (.nq (x0.map B2)))] [] hC [] ?_
 refine W6 4 (by kernel_rfl) (by kernel_rfl) rfl (λ hn => ?_) ?_
 ·have hx : x0 = [] := by cases x0 with | nil => rfl | cons => cases hn
  subst hx
  have hr : r = [] := by simpa [appI] using h.symm
  subst hr
  exact wr [2] 40 [] [] [.own 2 130 2] 0 [0] hC []
 ·exact wr [2] 40 [] [⟨.own, trivial⟩, ⟨.app [] (x0.map B2) 2 ((([] : List (List Pd)).length + (x0.map B2).length) * (16 + 1)) (r.map B2), Ib (l := []) B2 2 (λ _ => rfl) h⟩] [] 0 [1] hC []
theorem A7k : EN 123 := en Tryz.func123
theorem k84 (x0 : List Bg) (r : List Bg) (h : F84 x0 = some r) : CO 84 [.d (.p (.s (x0.map q51)))] [] (.d (.os 0)) [v1_ r] := by
 unfold F84 at h
 refine co 8 Tryz.func84 λ C hC => ?_
 refine ws [0, 4] 40 [] [] [] 0 [] [(0, .d (.p (.s (x0.map q51)))), (4, .d (.nq (x0.map q51)))] [] hC [] ?_
 refine W6 4 (by kernel_rfl) (by kernel_rfl) rfl (λ hn => ?_) ?_
 ·have hx : x0 = [] := by cases x0 with | nil => rfl | cons => cases hn
  subst hx
  have hr : r = [] := by simpa [appI] using h.symm
  subst hr
  exact wr [2] 40 [] [] [.own 2 51 5] 0 [0] hC []
 ·exact wr [2] 40 [] [⟨.own, trivial⟩, ⟨.app [] (x0.map q51) 5 ((([] : List (List Pd)).length + (x0.map q51).length) * (40 + 1)) (r.map q51), Ib (l := []) q51 5 (λ _ => rfl) h⟩] [] 0 [1] hC []
theorem e84 : EN 84 := en Tryz.func84
def qI : List Nat := [0, 1, 2, 3, 6, 7, 8, 9, 14, 19, 23]
theorem Yr (x0 : Aa) (x1 : Int) (x2 : Int) (r : Bool) (h : Kn x0 x1 x2 = r) : CO 181 [.agg (d29 x0), .d (I x1), .d (I x2)] [] (.d (Bo r)) [] := by
 unfold Kn at h
 refine co 35 Tryz.func181 λ C hC => ?_
 rcases cB h with ⟨h1, h⟩ | ⟨h1, h⟩
 ·subst h
  exact wr qI 36 [true] [pl Br x0.Ac] [] 0 [] hC [pq h1]
 ·rcases cB h with ⟨h2, h⟩ | ⟨h2, h⟩
  ·subst h
   exact wr qI 39 [false, true] [pl Bi x0.Ad] [] 0 [] hC [pq h1, pq h2]
  ·rcases cB h with ⟨h3, h⟩ | ⟨h3, h⟩
   ·subst h
    exact wr qI 42 [false, false, true] [] [] 0 [] hC [pq h1, pq h2, pq h3]
   ·rcases cB h with ⟨h4, h⟩ | ⟨h4, h⟩
    ·subst h
     exact wr qI 45 [false, false, false, true] [pl q65 x0.Af] [] 0 [] hC [pq h1, pq h2, pq h3, pq h4]
    ·subst h
     exact wr qI 45 [false, false, false, false] [] [] 0 [] hC [pq h1, pq h2, pq h3, pq h4]
theorem Yz : EN 181 := en Tryz.func181
def qG : List Nat := [0, 1, 3, 4, 5, 7, 8, 9, 16]
def yF (x0 : List Am) (n0 : Nat) (z0 : Unit) : St := [(0, .d (DS q86 x0)), (3, dO 0 0), (4, dI 0), (7, dI (ln x0)), (8, dI (cnt 0 n0))]
def Ajv (x1 : Am) (n0 : Nat) (z0 : Unit) : List Res := [.box 86 (d86 x1)]
def Am4  (z0 : Unit) : St := [(4, dI 0)]
def Aox  (z0 : Unit) : List Res := []
theorem A_p (x0 : List Am) (x1 : Am) (r : Int) (h : Asx x0 x1 = some r) : CO 200 [.d (DS q86 x0), .agg (d86 x1)] [] (.d (I r)) [] := by
 unfold Asx at h
 refine co 19 Tryz.func200 λ C hC => ?_
 refine ws qG 26 [] [pl q86 x0] [] 0 [0] (yF x0 0 ()) (Ajv x1 0 ()) hC [] ?_
 obtain ⟨w0, hm0, hret0, hnext0⟩ := Ar h
 clear h
 refine wc w0 (Am4) (Aox) ?_ λ z0 hs0 => ?_
 ·refine wb ?_
  refine Bn 0 rfl λ hl0 => ?_
  refine wl (yF x0) (Ajv x1) hm0 (λ z0 hn0 => ?_) λ n0 a0 z0 w0b hi0 hx0 h hb0 hr0 => ?_
  ·clear hm0
   exact wx w0 (Am4) (Aox) qG 26 [false] [] [] 0 [] _ hC [pq (Be hl0)] hn0
  ·unfold Apv at h
   rcases cB h with ⟨h1, h⟩ | ⟨h1, h⟩
   ·have hq := hret0 _ (hr0 _ (sI h).symm)
    replace hq := sI hq
    subst hq
    exact wr qG 35 [true, true] [pt hx0 hl0] [] 0 [] hC [pq (A9 hi0 hl0), pq h1]
   ·exact wx w0b (yF x0 (n0 + 1)) (Ajv x1 (n0 + 1)) qG 36 [true, false] [pt hx0 hl0] [] 0 [0] _ hC [pq (A9 hi0 hl0), pq h1] (sI h).symm
 ·have h := hnext0 _ hs0
  replace h := sI h
  subst h
  exact wr qG 23 [] [] [] 0 [] hC []
theorem Ba6 : EN 200 := en Tryz.func200
theorem Ahr (x0 : Int) (r : Int) (h : Eg x0 = r) : CO 229 [.d (I x0)] [] (.d (I r)) [] := by
 unfold Eg at h
 refine co 10 Tryz.func229 λ C hC => ?_
 rcases cB h with ⟨h1, h⟩ | ⟨h1, h⟩
 ·subst h
  exact wr [0, 2, 6] 32 [true] [⟨.nz 3600, K7 rfl⟩] [] 0 [] hC [pq h1]
 ·subst h
  exact wr [0, 2, 6] 32 [false] [⟨.nz 3600, K7 rfl⟩] [] 0 [] hC [pq h1]
theorem Aik : EN 229 := en Tryz.func229
theorem A35 (x0 : Aj) (x1 : Int) (r : Bool) (h : vK x0 x1 = r) : CO 244 [.agg (O9 x0), .d (.ip [.v (.int .i64 x1)])] [] (.d (Bo r)) [] := by
 unfold vK at h
 refine co 13 Tryz.func244 λ C hC => ?_
 subst h
 exact wr n4_ 25 [] [] [] 0 [] hC []
theorem A52 : EN 244 := en Tryz.func244
theorem A4z (x0 : A2) (x1 : Int) (x2 : Int) (r : Int × A2) (h : Nq x0 x1 x2 = some r) : CO 187 [.d (.o 0 0), .d (I x1), .d (I x2)] (.box 186 (zb x0.Ak [.os 1, .os 2, .os 3, .os 4, I x0.time]) :: zp x0.Aw []) (.d (I r.1)) (.box 186 (zb r.2.Ak [.os 1, .os 2, .os 3, .os 4, I r.2.time]) :: zp r.2.Aw []) := by
 unfold Nq at h
 refine co 30 Tryz.func187 λ C hC => ?_
 obtain ⟨y1, h2, h⟩ := Ax h
 rcases cB h with ⟨h3, h⟩ | ⟨h3, h⟩
 ·replace h := sI h
  subst h
  exact wr [0, 1, 2, 6, 21] 29 [true] [pR q65 h2] [] 5 n5_ hC [pq h3]
 ·obtain ⟨y4, h5, y6, h7, h⟩ := Bc h
  replace h := sI h
  subst h
  exact wr [0, 1, 2, 6, 21] 32 [false] [pR q65 h2, pr pI h5, pu pI h5 h7] [] 5 n5_ hC [pq h3]
theorem A6w : EN 187 := en Tryz.func187
theorem A4e (x0 : Am) (x1 : Am) (r : Int) (h : R8 x0 x1 = r) : CO 224 [.agg (d86 x0), .agg (d86 x1)] [] (.d (I r)) [] := by
 unfold R8 at h
 refine co 20 Tryz.func224 λ C hC => ?_
 rcases cB h with ⟨h1, h⟩ | ⟨h1, h⟩
 ·subst h
  exact wr [0, 1, 2, 3, 4, 9] 29 [true] [] [] 0 [] hC [pq h1]
 ·subst h
  exact wr [0, 1, 2, 3, 4, 9] 30 [false] [] [] 0 [] hC [pq h1]
theorem A6b : EN 224 := en Tryz.func224
def zU : List Nat := [0, 1, 2, 6, 7, 8, 9, 16, 22, 31, 68]
theorem A4d (x0 : List Am) (x1 : Int) (x2 : List Am) (r : (List Am)) (h : P_ x0 x1 x2 = some r) : CO 225 [.d (.os 0), .d (I x1), .d (DS q86 x2)] [v4_ x0] (.d (.os 1)) [.non, v4_ r] := by
 by_cases hh : ((ln x2) == 0) = false /\ (x1 == (ln x0)) = false
 ·unfold P_ at h
  exact A2w (enc := q86) (λ _ => rfl) hh.1 hh.2 h
 unfold P_ at h
 refine co 95 Tryz.func225 λ C hC => ?_
 obtain ⟨u2, h1, h⟩ := Ax h
 rcases cB h with ⟨h3, h⟩ | ⟨h3, h⟩
 ·replace h := sI h
  subst h
  exact wr zU 33 [true] [⟨.bnd (x0.map q86).length x1 (((x0.map q86).length : Nat) : Int) (ln x0), Ei (by simp) (by simp) h1⟩, pl q86 x2] [.mv 0] 1 [0, 1] hC [pq h3]
 ·refine wn zU 37 [false] [⟨.bnd (x0.map q86).length x1 (((x0.map q86).length : Nat) : Int) (ln x0), Ei (by simp) (by simp) h1⟩, pl q86 x2, pl q86 x0] [] 1 [0] [0, 1, 2, 6, 7, 8, 22] hC [pq h3] ?_
  rcases cB h with ⟨h4, h⟩ | ⟨h4, h⟩
  ·obtain ⟨y5, h6, h⟩ := Ax h
   replace h := sI h
   subst h
   exact wr zU 24 [true] [pa q86 2 h6] [] 1 [0, 1] hC [pq h4]
  ·exact absurd ⟨h3, h4⟩ hh
theorem A6a : EN 225 := en Tryz.func225
theorem A4c (x0 : List Am) (x1 : Int) (x2 : Int) (r : (List Am)) (h : U5 x0 x1 x2 = some r) : CO 226 [.d (.os 0), .d (I x1), .d (I x2)] [.sl 86 2 (x0.map q86)] (.d (.os 1)) [.non, .sl 86 2 (r.map q86)] := by
 unfold U5 at h
 refine co 33 Tryz.func226 λ C hC => ?_
 obtain ⟨u2, h1, h⟩ := Ax h
 rcases cB h with ⟨h3, h⟩ | ⟨h3, h⟩
 ·replace h := sI h
  subst h
  exact wr [0, 1, 2, 6, 7, 16] 31 [true] [pl q86 x0, ⟨.bnd3 (x0.map q86).length x1 x2 (ln x0), Aja (by simp) h1⟩] [.mv 0] 1 [0, 1] hC [pq h3]
 ·obtain ⟨u5, h4, u7, h6, y8, h9, u11, h10, h⟩ := Cn h
  replace h := sI h
  subst h
  (rw [List.map_take]; exact uS (bs := [((x1 == x2), false)]) Hv [0, 1, 2, 6, 7, 16] 38 [false] [.len (ln (x0.map q86)) (ln x0), .bnd3 (x0.map q86).length x1 x2 (ln x0), .len (ln (x0.map q86)) (ln x0), .bnd (x0.map q86).length 0 x1 x1, .bnd (x0.map q86).length x2 (((x0.map q86).length : Nat) : Int) (ln x0), .appP (x0.map q86) (((x0.map q86).drop (Int.toNat x2)).take ((Int.toNat (ln x0)) - (Int.toNat x2))) 2 ((Int.toNat x1) - 0) (((Int.toNat x1) - 0) + ((x0.drop (Int.toNat x2)).take ((Int.toNat (ln x0)) - (Int.toNat x2))).length) ((x0.map q86).take ((Int.toNat x1) - 0) ++ ((((x0.map q86).drop (Int.toNat x2)).take ((Int.toNat (ln x0)) - (Int.toNat x2))) ++ (x0.map q86).drop (((Int.toNat x1) - 0) + (((x0.map q86).drop (Int.toNat x2)).take ((Int.toNat (ln x0)) - (Int.toNat x2))).length))) (y8.map q86), .len (((((Int.toNat x1) - 0) + ((x0.drop (Int.toNat x2)).take ((Int.toNat (ln x0)) - (Int.toNat x2))).length) : Nat) : Int) (((((Int.toNat x1) - 0) + ((x0.drop (Int.toNat x2)).take ((Int.toNat (ln x0)) - (Int.toNat x2))).length) : Nat) : Int), .bnd ((y8.map q86).length - 0) (((((Int.toNat x1) - 0) + ((x0.drop (Int.toNat x2)).take ((Int.toNat (ln x0)) - (Int.toNat x2))).length) : Nat) : Int) (ln x0) (ln x0), .eqr ((y8.map q86).take (0 + (Int.toNat (((((Int.toNat x1) - 0) + ((x0.drop (Int.toNat x2)).take ((Int.toNat (ln x0)) - (Int.toNat x2))).length) : Nat) : Int))) ++ (List.replicate ((Int.toNat (ln x0)) - (Int.toNat (((((Int.toNat x1) - 0) + ((x0.drop (Int.toNat x2)).take ((Int.toNat (ln x0)) - (Int.toNat x2))).length) : Nat) : Int))) (q86 (⟨0, 0⟩ : Am)) ++ (y8.map q86).drop ((0 + (Int.toNat (((((Int.toNat x1) - 0) + ((x0.drop (Int.toNat x2)).take ((Int.toNat (ln x0)) - (Int.toNat x2))).length) : Nat) : Int))) + ((Int.toNat (ln x0)) - (Int.toNat (((((Int.toNat x1) - 0) + ((x0.drop (Int.toNat x2)).take ((Int.toNat (ln x0)) - (Int.toNat x2))).length) : Nat) : Int)))))) ((Gn y8 (0 + (Int.toNat (((((Int.toNat x1) - 0) + ((x0.drop (Int.toNat x2)).take ((Int.toNat (ln x0)) - (Int.toNat x2))).length) : Nat) : Int))) ((Int.toNat (ln x0)) - (Int.toNat (((((Int.toNat x1) - 0) + ((x0.drop (Int.toNat x2)).take ((Int.toNat (ln x0)) - (Int.toNat x2))).length) : Nat) : Int))) (⟨0, 0⟩ : Am)).map q86)] [.trunc 6] [.tmp 6] 1 [0, 1] rfl hC ⟨Wq _ _, Aja (by simp) h1, Wq _ _, Ei (by simp) rfl h4, Ei (by simp) (by simp) h6, A0f q86 2 (λ _ => rfl) (Yj _ _ _ _) h9, rfl, Ei (by simp) rfl h10, Aai q86 rfl, trivial⟩ ⟨h3, trivial⟩ (by kernel_rfl))
theorem A59 : EN 226 := en Tryz.func226
theorem Au5 (x0 : A1) (x1 : Ap) (x2 : Int) (r : A1) (h : Qf x0 x1 x2 = some r) : CO 124 [.d (.o 0 0), .agg (d49 x1), .d (I x2)] (.box 100 (I x0.Av.Time :: .os 1 :: .os 2 :: .os 3 :: .os 4 :: .os 5 :: .os 6 :: zb x0.Ak [.os 7, .os 8]) :: zp x0.Av.Power [v3_ x0.Av.A5, v1_ x0.Av.A6, v1_ x0.events, v7_ x0.states]) (.tup []) (.box 100 (I r.Av.Time :: .os 1 :: .os 2 :: .os 3 :: .os 4 :: .os 5 :: .os 6 :: zb r.Ak [.os 9, .os 8]) :: zp r.Av.Power [v3_ r.Av.A5, v1_ r.Av.A6, .non, v7_ r.states, v1_ r.events]) := by
 unfold Qf at h
 refine co 23 Tryz.func124 λ C hC => ?_
 obtain ⟨y1, h2, h⟩ := Ax h
 replace h := sI h
 subst h
 exact wf [0, 1, 2, 4] 23 [] [pa q51 5 h2] [] 9 [0, 1, 2, 3, 4, 5, 6, 7, 8, 10] hC []
theorem Avz : EN 124 := en Tryz.func124
theorem Ahq (x0 : Ay) (x1 : Int) (r : Ay) (h : Nn x0 x1 = some r) : CO 230 [.d (.o 0 0), .d (I x1)] (.box 235 (zb x0.Ak [.os 1, .os 2, .os 3, .os 4, .os 5]) :: zp x0.Aw [v6_ x0.acts]) (.tup []) (.box 235 (zb r.Ak [.os 1, .os 2, .os 3, .os 4, .os 6]) :: zp r.Aw [.non, v6_ r.acts]) := by
 unfold Nn at h
 refine co 22 Tryz.func230 λ C hC => ?_
 obtain ⟨y1, h2, y3, h4, y5, h6, h⟩ := B0 h
 replace h := sI h
 subst h
 exact wf [0, 1] 23 [] [pr pB h2, pu pB h2 h4, pa q49 3 h6] [] 6 n7_ hC []
theorem Aij : EN 230 := en Tryz.func230
theorem A38 (x0 : Aj) (x1 : Int) (r : Bool) (h : U4 x0 x1 = r) : CO 235 [.agg (O9 x0), .d (.ip [.v (.int .i64 x1)])] [] (.d (Bo r)) [] := by
 unfold U4 at h
 refine co 13 Tryz.func235 λ C hC => ?_
 subst h
 exact wr n4_ 25 [] [] [] 0 [] hC []
theorem A55 : EN 235 := en Tryz.func235
theorem A_r (x0 : Int) (x1 : Int) (r : Int × Int) (h : Asz x0 x1 = r) : CO 194 [.d (.p (.v (.int .u64 x0))), .d (.p (.v (.int .u64 x1)))] [] (.tup [.d (.p (.v (.int .u64 r.1))), .d (.p (.v (.int .u64 r.2)))]) [] := by
 unfold Asz at h
 refine co 51 Tryz.func194 λ C hC => ?_
 subst h
 exact wr [0, 1, 4, 5, 6, 7, 8, 9, 10, 11, 12, 13] 45 [] [] [] 0 [] hC []
theorem Ba8 : EN 194 := en Tryz.func194
theorem Au2 (x0 : Int) (x1 : Int) (r : Bool) (h : Lh x0 x1 = r) : CO 174 [.d (I x0), .d (.ip [.v (.int .i64 x1)])] [] (.d (Bo r)) [] := by
 unfold Lh at h
 refine co 11 Tryz.func174 λ C hC => ?_
 subst h
 exact wr [0, 1, 3] 25 [] [] [] 0 [] hC []
theorem Avw : EN 174 := en Tryz.func174
theorem A_l (x0 : List Int) : CO 212 [.d (.p (.s (x0.map pI)))] [] (.d (.fn (.func 236) [] [.o 0 0])) [.box 22 [.p (.s (x0.map pI))]] := by
 refine co 4 Tryz.func212 λ C hC => ?_
 exact wr [1, 2] 40 [] [] [] 0 [0] hC []
theorem Ba2 : EN 212 := en Tryz.func212
theorem A4f (x0 : Aj) (x1 : Int) (r : Bool) (h : vP x0 x1 = r) : CO 219 [.agg (O9 x0), .d (.ip [.v (.int .i64 x1)])] [] (.d (Bo r)) [] := by
 unfold vP at h
 refine co 13 Tryz.func219 λ C hC => ?_
 subst h
 exact wr n4_ 25 [] [] [] 0 [] hC []
theorem A6c : EN 219 := en Tryz.func219
theorem A43 (x0 : Int) (x1 : Bool) (x2 : Int) (r : Int) (h : I3 x0 x1 x2 = r) : CO 176 [.d (I x0), .d (Bo x1), .d (I x2)] [] (.d (I r)) [] := by
 unfold I3 at h
 refine co 15 Tryz.func176 λ C hC => ?_
 rcases cB h with ⟨h1, h⟩ | ⟨h1, h⟩
 ·subst h
  exact wr [0, 1, 2, 6, 7, 10] 30 [true] [] [] 0 [] hC [pq h1]
 ·rcases cB h with ⟨h2, h⟩ | ⟨h2, h⟩
  ·subst h
   exact wr [0, 1, 2, 6, 7, 10] 33 [false, true] [] [] 0 [] hC [pq h1, pq h2]
  ·subst h
   exact wr [0, 1, 2, 6, 7, 10] 35 [false, false] [] [] 0 [] hC [pq h1, pq h2]
theorem A60 : EN 176 := en Tryz.func176
def zS : List Nat := [0, 1, 4, 5, 10, 12, 13, 14, 24]
def Aga (x0 : List Bool) (x1 : List Bool) (n0 : Nat) (z0 : Unit) : St := [(0, .d (DS pB x0)), (1, .d (DS pB x1)), (4, dB false), (12, dI (ln x0)), (13, dI (cnt 0 n0))]
def Asd  (n0 : Nat) (z0 : Unit) : List Res := []
def Aua  (z0 : Unit) : St := [(4, dB false)]
def Axk  (z0 : Unit) : List Res := []
theorem k37 (x0 : List Bool) (x1 : List Bool) (r : Bool) (h : F37 x0 x1 = some r) : CO 37 [.d (DS pB x0), .d (DS pB x1)] [] (.d (Bo r)) [] := by
 unfold F37 at h
 refine co 26 Tryz.func37 λ C hC => ?_
 rcases cB h with ⟨h1, h⟩ | ⟨h1, h⟩
 ·replace h := sI h
  subst h
  exact wr zS 29 [true] [pl pB x0, pl pB x1] [] 0 [] hC [pq h1]
 ·refine ws zS 31 [false] [pl pB x0, pl pB x1, pl pB x0] [] 0 [] (Aga x0 x1 0 ()) (Asd 0 ()) hC [pq h1] ?_
  obtain ⟨w0, hm0, hret0, hnext0⟩ := Ar h
  clear h
  refine wc w0 (Aua) (Axk) ?_ λ z0 hs0 => ?_
  ·refine wb ?_
   refine Bn 0 rfl λ hl0 => ?_
   refine wl (Aga x0 x1) (Asd) hm0 (λ z0 hn0 => ?_) λ n0 a0 z0 w0b hi0 hx0 h hb0 hr0 => ?_
   ·clear hm0
    exact wx w0 (Aua) (Axk) zS 26 [false] [] [] 0 [] _ hC [pq (Be hl0)] hn0
   ·unfold Ak3 at h
    obtain ⟨y2, h3, h⟩ := Ax h
    rcases cB h with ⟨h4, h⟩ | ⟨h4, h⟩
    ·have hq := hret0 _ (hr0 _ (sI h).symm)
     replace hq := sI hq
     subst hq
     exact wr zS 35 [true, true] [pt hx0 hl0, pr pB h3] [] 0 [] hC [pq (A9 hi0 hl0), pq h4]
    ·exact wx w0b (Aga x0 x1 (n0 + 1)) (Asd (n0 + 1)) zS 36 [true, false] [pt hx0 hl0, pr pB h3] [] 0 [] _ hC [pq (A9 hi0 hl0), pq h4] (sI h).symm
  ·have h := hnext0 _ hs0
   replace h := sI h
   subst h
   exact wr zS 23 [] [] [] 0 [] hC []
theorem e37 : EN 37 := en Tryz.func37
def zR : List Nat := [0, 1, 4, 5, 10, 12, 13, 14, 24]
def Af9 (x0 : List Int) (x1 : List Int) (n0 : Nat) (z0 : Unit) : St := [(0, .d (DS pI x0)), (1, .d (DS pI x1)), (4, dB false), (12, dI (ln x0)), (13, dI (cnt 0 n0))]
def Asc  (n0 : Nat) (z0 : Unit) : List Res := []
def At9  (z0 : Unit) : St := [(4, dB false)]
def Axj  (z0 : Unit) : List Res := []
theorem k38 (x0 : List Int) (x1 : List Int) (r : Bool) (h : F38 x0 x1 = some r) : CO 38 [.d (DS pI x0), .d (DS pI x1)] [] (.d (Bo r)) [] := by
 unfold F38 at h
 refine co 26 Tryz.func38 λ C hC => ?_
 rcases cB h with ⟨h1, h⟩ | ⟨h1, h⟩
 ·replace h := sI h
  subst h
  exact wr zR 29 [true] [pl pI x0, pl pI x1] [] 0 [] hC [pq h1]
 ·refine ws zR 31 [false] [pl pI x0, pl pI x1, pl pI x0] [] 0 [] (Af9 x0 x1 0 ()) (Asc 0 ()) hC [pq h1] ?_
  obtain ⟨w0, hm0, hret0, hnext0⟩ := Ar h
  clear h
  refine wc w0 (At9) (Axj) ?_ λ z0 hs0 => ?_
  ·refine wb ?_
   refine Bn 0 rfl λ hl0 => ?_
   refine wl (Af9 x0 x1) (Asc) hm0 (λ z0 hn0 => ?_) λ n0 a0 z0 w0b hi0 hx0 h hb0 hr0 => ?_
   ·clear hm0
    exact wx w0 (At9) (Axj) zR 26 [false] [] [] 0 [] _ hC [pq (Be hl0)] hn0
   ·unfold Ak2 at h
    obtain ⟨y2, h3, h⟩ := Ax h
    rcases cB h with ⟨h4, h⟩ | ⟨h4, h⟩
    ·have hq := hret0 _ (hr0 _ (sI h).symm)
     replace hq := sI hq
     subst hq
     exact wr zR 35 [true, true] [pt hx0 hl0, pr pI h3] [] 0 [] hC [pq (A9 hi0 hl0), pq h4]
    ·exact wx w0b (Af9 x0 x1 (n0 + 1)) (Asc (n0 + 1)) zR 36 [true, false] [pt hx0 hl0, pr pI h3] [] 0 [] _ hC [pq (A9 hi0 hl0), pq h4] (sI h).symm
  ·have h := hnext0 _ hs0
   replace h := sI h
   subst h
   exact wr zR 23 [] [] [] 0 [] hC []
theorem e38 : EN 38 := en Tryz.func38
theorem Azc (x0 : Int) (r : Int) (h : I4 x0 = r) : CO 129 [.d (I x0)] [] (.d (I r)) [] := by
 unfold I4 at h
 refine co 7 Tryz.func129 λ C hC => ?_
 subst h
 exact wr [0, 2] 25 [] [⟨.nz 3600, K7 rfl⟩, ⟨.nz 3600, K7 rfl⟩] [] 0 [] hC []
theorem Azv : EN 129 := en Tryz.func129
theorem k35  (r : Aa × Bd) (h : F35  = r) : CO 35 [] [] (.tup [.agg (d29 r.1), .agg (d31 r.2)]) [] := by
 unfold F35 at h
 refine co 13 Tryz.func35 λ C hC => ?_
 subst h
 exact wr [0, 1] 25 [] [] [] 0 [] hC []
theorem e35 : EN 35 := en Tryz.func35
theorem Aht (x0 : Int) (x1 : Int) (x2 : Int) (r : Bool) (h : Dq x0 x1 x2 = r) : CO 148 [.d (I x0), .d (I x1), .d (I x2)] [] (.d (Bo r)) [] := by
 unfold Dq at h
 refine co 15 Tryz.func148 λ C hC => ?_
 subst h
 exact wr [0, 1, 2, 6] 25 [] [] [] 0 [] hC []
theorem Aim : EN 148 := en Tryz.func148
theorem A4s (x0 : Int) (r : Bool) (h : Vl x0 = r) : CO 197 [.d (I x0)] [] (.d (Bo r)) [] := by
 unfold Vl at h
 refine co 9 Tryz.func197 λ C hC => ?_
 subst h
 exact wr [0, 2] 25 [] [] [] 0 [] hC []
theorem A6p : EN 197 := en Tryz.func197
theorem A8z (x0 : A3) (x1 : Int) (r : Bool) (h : Asu x0 x1 = r) : CO 45 [.agg (d65 x0), .d (.ip [.v (.int .i64 x1)])] [] (.d (Bo r)) [] := by
 unfold Asu at h
 refine co 8 Tryz.func45 λ C hC => ?_
 subst h
 exact wr n4_ 25 [] [] [] 0 [] hC []
theorem A9j : EN 45 := en Tryz.func45
theorem e46 : EN 46 := en Tryz.func46
theorem A_5 (x0 : Fr) (r : Bool) (h : As3 x0 = r) : CO 159 [.agg (d70 x0)] [] (.d (Bo r)) [] := by
 unfold As3 at h
 refine co 17 Tryz.func159 λ C hC => ?_
 subst h
 exact wr n3_ 25 [] [] [] 0 [] hC []
theorem Bbm : EN 159 := en Tryz.func159
theorem A_n (x0 : Int) (x1 : Int) (r : Int) (h : A0s x0 x1 = some r) : CO 203 [.d (I x0), .d (I x1)] [] (.d (I r)) [] := by
 unfold A0s at h
 refine co 16 Tryz.func203 λ C hC => ?_
 obtain ⟨u2, h1, u4, h3, h⟩ := Bc h
 rcases cB h with ⟨h5, h⟩ | ⟨h5, h⟩
 ·cases h
 ·replace h := sI h
  subst h
  exact wr [0, 1, 4, 5, 12] 32 [false] [⟨.nz x1, Pp h1⟩, ⟨.nz x1, Pp h3⟩] [] 0 [] hC [pq h5]
theorem Ba4 : EN 203 := en Tryz.func203
def qL : List Nat := [0, 2, 3, 4, 5, 6, 12, 15, 25]
def V6 (x0 : Int) (z0 : Int × Int) : St := [(0, dI x0), (2, dI 0), (3, dI 0), (4, dI z0.1), (5, dI z0.2)]
def uY  (z0 : Int × Int) : List Res := []
def Any  (z0 : Int × Int) : St := [(2, dI 0), (3, dI 0), (4, dI z0.1)]
def Apr  (z0 : Int × Int) : List Res := []
theorem Bao (x0 : Int) (r : Int × Int) (h : A0z x0 = some r) : CO 107 [.d (I x0)] [] (.tup [.d (I r.1), .d (I r.2)]) [] := by
 unfold A0z at h
 refine co 30 Tryz.func107 λ C hC => ?_
 rcases cB h with ⟨h1, h⟩ | ⟨h1, h⟩
 ·cases h
 ·refine ws qL 31 [false] [] [] 0 [] (V6 x0 (0, 1000000000)) (uY (0, 1000000000)) hC [pq h1] ?_
  obtain ⟨w0, hm0, hret0, hnext0⟩ := Ar h
  clear h
  refine wc w0 (Any) (Apr) ?_ λ z0 hs0 => ?_
  ·refine wb ?_
   refine ww (V6 x0) (uY) hm0 λ z0 w0b h hb0 hr0 => ?_
   unfold Apz at h
   rcases cB h with ⟨h2, h⟩ | ⟨h2, h⟩
   ·rcases cB h with ⟨h3, h⟩ | ⟨h3, h⟩
    ·exact wx w0b (V6 x0) (uY) qL 34 [true, true] [⟨.nz 2, K7 rfl⟩] [] 0 [] _ hC [pq h2, pq h3] (sI h).symm
    ·exact wx w0b (V6 x0) (uY) qL 34 [true, false] [⟨.nz 2, K7 rfl⟩] [] 0 [] _ hC [pq h2, pq h3] (sI h).symm
   ·exact wx w0 (Any) (Apr) qL 26 [false] [] [] 0 [] (z0.1, z0.2) hC [pq h2] (hb0 _ (sI h).symm)
  ·have h := hnext0 _ hs0
   replace h := sI h
   subst h
   exact wr qL 23 [] [] [] 0 [] hC []
theorem Bb5 : EN 107 := en Tryz.func107
theorem k90 (x0 : Ai) (r : Bool) (h : F90 x0 = r) : CO 90 [.agg (d84 x0)] [] (.d (Bo r)) [] := by
 unfold F90 at h
 refine co 7 Tryz.func90 λ C hC => ?_
 subst h
 exact wr n3_ 25 [] [pl pI x0.Ac] [] 0 [] hC []
theorem e90 : EN 90 := en Tryz.func90
theorem k32 (x0 : Ah) (x1 : Int) (r : Int × Ah) (h : F32 x0 x1 = some r) : CO 32 [.d (.o 0 0), .d (I x1)] [.box 90 (d90 x0)] (.d (I r.1)) [.box 90 (d90 r.2)] := by
 unfold F32 at h
 refine co 35 Tryz.func32 λ C hC => ?_
 rcases cB h with ⟨h1, h⟩ | ⟨h1, h⟩
 ·replace h := sI h
  subst h
  exact wr [0, 1, 4, 14] 29 [true] [pl pI x0.L] [] 1 [0] hC [pq h1]
 ·obtain ⟨y2, h3, y4, h5, h⟩ := Bc h
  replace h := sI h
  subst h
  exact wr [0, 1, 4, 14] 32 [false] [pl pI x0.L, pr pI h3, pc e80 (k80 y2 x1 _ h5) []] [] 1 [0] hC [pq h1]
theorem e32 : EN 32 := en Tryz.func32
def Ahh : List Nat := [0, 1, 2, 3, 4, 6, 7, 16, 25, 33]
theorem k71 (x0 : Aa) (x1 : Am) (r : Bool) (h : F71 x0 x1 = r) : CO 71 [.agg (d29 x0), .agg (d86 x1)] [] (.d (Bo r)) [] := by
 unfold F71 at h
 refine co 42 Tryz.func71 λ C hC => ?_
 rcases cB h with ⟨h1, h⟩ | ⟨h1, h⟩
 ·subst h
  exact wr Ahh 32 [true] [pl Br x0.Ac, pc Fg (Fe x1.Number 0 (w64 ((ln x0.Ac) - 1)) _ rfl) []] [] 0 [] hC [pq h1]
 ·rcases cB h with ⟨h2, h⟩ | ⟨h2, h⟩
  ·subst h
   exact wr Ahh 35 [false, true] [pl Bi x0.Ad, pc Fg (Fe x1.Number 0 (w64 ((ln x0.Ad) - 1)) _ rfl) []] [] 0 [] hC [pq h1, pq h2]
  ·rcases cB h with ⟨h3, h⟩ | ⟨h3, h⟩
   ·subst h
    exact wr Ahh 38 [false, false, true] [pc Fg (Fe x1.Number 0 (w64 (x0.Al - 1)) _ rfl) []] [] 0 [] hC [pq h1, pq h2, pq h3]
   ·rcases cB h with ⟨h4, h⟩ | ⟨h4, h⟩
    ·subst h
     exact wr Ahh 41 [false, false, false, true] [pl q65 x0.Af, pc Fg (Fe x1.Number 0 (w64 ((ln x0.Af) - 1)) _ rfl) []] [] 0 [] hC [pq h1, pq h2, pq h3, pq h4]
    ·subst h
     exact wr Ahh 43 [false, false, false, false] [] [] 0 [] hC [pq h1, pq h2, pq h3, pq h4]
theorem e71 : EN 71 := en Tryz.func71
def C1 : List Nat := [0, 1, 2, 3, 4, 6, 7, 8, 10, 11, 12, 13, 23, 25, 26, 37, 38, 47, 48, 57, 61, 62, 63, 64, 69, 74, 75, 76, 82, 86, 87, 88, 94]
def Pg (x0 : Aa) (n0 : Nat) (z0 : Unit) : St := [(1, dO 0 0), (2, dB false), (10, .d (DS Bi x0.Ad)), (11, dI (ln x0.Ad)), (12, dI (cnt 0 n0))]
def Ux (x0 : Aa) (n0 : Nat) (z0 : Unit) : List Res := [.box 29 (d29 x0)]
def Ane  (z0 : Unit) : St := [(1, dO 0 0), (2, dB false)]
def Ao7 (x0 : Aa) (z0 : Unit) : List Res := [.box 29 (d29 x0)]
def yO (x0 : Aa) (n0 : Nat) (y9 : List Aj) (n1 : Nat) (z1 : Unit) : St := [(1, dO 0 0), (2, dB false), (4, dO 1 0), (10, .d (DS Bi x0.Ad)), (11, dI (ln x0.Ad)), (12, dI (cnt 0 n0)), (61, .d (DS Bi y9)), (62, dI (ln y9)), (63, dI (cnt 0 n1))]
def Aj5 (x0 : Aa) (a0 : Aj) (n1 : Nat) (z1 : Unit) : List Res := [.box 29 (d29 x0), .box 147 (O9 a0)]
def And (x0 : Aa) (n0 : Nat) (z1 : Unit) : St := [(1, dO 0 0), (2, dB false), (10, .d (DS Bi x0.Ad)), (11, dI (ln x0.Ad)), (12, dI (cnt 0 n0))]
def Ao6 (x0 : Aa) (z1 : Unit) : List Res := [.box 29 (d29 x0)]
def yN (x0 : Aa) (z2 : Int) : St := [(1, dO 0 0), (2, dB false), (74, dI (ln x0.Ac)), (75, dI z2)]
def Aj4 (x0 : Aa) (z2 : Int) : List Res := [.box 29 (d29 x0)]
def Anc  (z2 : Int) : St := [(1, dO 0 0), (2, dB false)]
def Ao5 (x0 : Aa) (z2 : Int) : List Res := [.box 29 (d29 x0)]
def yM (x0 : Aa) (z3 : Int) : St := [(1, dO 0 0), (2, dB false), (86, dI (ln x0.Af)), (87, dI z3)]
def Aj3 (x0 : Aa) (z3 : Int) : List Res := [.box 29 (d29 x0)]
def Anb  (z3 : Int) : St := [(2, dB false)]
def Ao4  (z3 : Int) : List Res := []
theorem A_3 (x0 : Aa) (r : Bool) (h : Alo x0 = some r) : CO 163 [.agg (d29 x0)] [] (.d (Bo r)) [] := by
 unfold Alo at h
 refine co 96 Tryz.func163 λ C hC => ?_
 refine ws C1 26 [] [pl Bi x0.Ad] [] 0 [0] (Pg x0 0 ()) (Ux x0 0 ()) hC [] ?_
 obtain ⟨w0, hm0, hret0, hnext0⟩ := Ar h
 clear h
 refine wc w0 (Ane) (Ao7 x0) ?_ λ z0 hs0 => ?_
 ·refine wb ?_
  refine Bn 10 rfl λ hl0 => ?_
  refine wl (Pg x0) (Ux x0) hm0 (λ z0 hn0 => ?_) λ n0 a0 z0 w0b hi0 hx0 h hb0 hr0 => ?_
  ·clear hm0
   exact wx w0 (Ane) (Ao7 x0) C1 26 [false] [] [] 0 [0] _ hC [pq (Be hl0)] hn0
  ·unfold Aa3 at h
   refine wn C1 33 [true] [pt hx0 hl0, pc Fg (Fe a0.A 0 (w64 (x0.Al - 1)) _ rfl) []] [] 0 [0, 1] [1, 2, 3, 4, 10, 11, 12, 23] hC [pq (A9 hi0 hl0)] ?_
   rcases cB h with ⟨h1, h⟩ | ⟨h1, h⟩
   ·have hq := hret0 _ (hr0 _ (sI h).symm)
    replace hq := sI hq
    subst hq
    exact wr C1 24 [true] [] [] 0 [] hC [pq h1]
   ·rcases cB h with ⟨h2, h⟩ | ⟨h2, h⟩
    ·rcases cB h with ⟨h3, h⟩ | ⟨h3, h⟩
     ·have hq := hret0 _ (hr0 _ (sI h).symm)
      replace hq := sI hq
      subst hq
      exact wr C1 34 [false, true, true] [pc Fg (Fe a0.B (w64 (a0.A + 1)) (w64 (x0.Al - 1)) _ rfl) []] [] 0 [] hC [pq h1, pq h2, pq h3]
     ·exact wx w0b (Pg x0 (n0 + 1)) (Ux x0 (n0 + 1)) C1 36 [false, true, false] [pc Fg (Fe a0.B (w64 (a0.A + 1)) (w64 (x0.Al - 1)) _ rfl) []] [] 0 [0] _ hC [pq h1, pq h2, pq h3] (sI h).symm
    ·rcases cB h with ⟨h4, h⟩ | ⟨h4, h⟩
     ·refine wn C1 34 [false, false, true] [pl Br x0.Ac, pc Fg (Fe a0.B 0 (w64 ((ln x0.Ac) - 1)) _ rfl) []] [] 0 [0] [1, 2, 10, 11, 12, 47] hC [pq h1, pq h2, pq h4] ?_
      rcases cB h with ⟨h5, h⟩ | ⟨h5, h⟩
      ·have hq := hret0 _ (hr0 _ (sI h).symm)
       replace hq := sI hq
       subst hq
       exact wr C1 24 [true] [] [] 0 [] hC [pq h5]
      ·exact wx w0b (Pg x0 (n0 + 1)) (Ux x0 (n0 + 1)) C1 26 [false] [] [] 0 [0] _ hC [pq h5] (sI h).symm
     ·rcases cB h with ⟨h6, h⟩ | ⟨h6, h⟩
      ·refine wn C1 38 [false, false, false, true] [pl q65 x0.Af, pc Fg (Fe a0.B 0 (w64 ((ln x0.Af) - 1)) _ rfl) []] [] 0 [0, 1] [1, 2, 3, 4, 10, 11, 12, 57] hC [pq h1, pq h2, pq h4, pq h6] ?_
       rcases cB h with ⟨h7, h⟩ | ⟨h7, h⟩
       ·have hq := hret0 _ (hr0 _ (sI h).symm)
        replace hq := sI hq
        subst hq
        exact wr C1 24 [true] [] [] 0 [] hC [pq h7]
       ·obtain ⟨y9, h8, h⟩ := Ax h
        refine ws C1 25 [false] [⟨.cut (x0.Ad.map Bi) 3 0 (cnt 0 n0) (y9.map Bi), Aag Bi 3 (λ _ => rfl) h8⟩, pl Bi y9] [] 0 [0, 1] (yO x0 n0 y9 0 ()) (Aj5 x0 a0 0 ()) hC [pq h7] ?_
        obtain ⟨w1, hm1, hret1, hnext1⟩ := Ar h
        clear h
        refine wc w1 (And x0 n0) (Ao6 x0) ?_ λ z1 hs1 => ?_
        ·refine wb ?_
         refine Bn 61 rfl λ hl1 => ?_
         refine wl (yO x0 n0 y9) (Aj5 x0 a0) hm1 (λ z1 hn1 => ?_) λ n1 a1 z1 w1b hi1 hx1 h hb1 hr1 => ?_
         ·clear hm1
          exact wx w1 (And x0 n0) (Ao6 x0) C1 26 [false] [] [] 0 [0] _ hC [pq (Be hl1)] hn1
         ·unfold Xi at h
          rcases cB h with ⟨h10, h⟩ | ⟨h10, h⟩
          ·have hq := hret1 _ (hr1 _ (sI h).symm)
           replace hq := hret0 _ (hr0 _ (sI hq).symm)
           replace hq := sI hq
           subst hq
           exact wr C1 35 [true, true] [pt hx1 hl1] [] 0 [] hC [pq (A9 hi1 hl1), pq h10]
          ·exact wx w1b (yO x0 n0 y9 (n1 + 1)) (Aj5 x0 a0 (n1 + 1)) C1 36 [true, false] [pt hx1 hl1] [] 0 [0, 1] _ hC [pq (A9 hi1 hl1), pq h10] (sI h).symm
        ·have h := hnext1 _ hs1
         exact wx w0b (Pg x0 (n0 + 1)) (Ux x0 (n0 + 1)) C1 24 [] [] [] 0 [0] _ hC [] (sI h).symm
      ·have hq := hret0 _ (hr0 _ (sI h).symm)
       replace hq := sI hq
       subst hq
       exact wr C1 37 [false, false, false, false] [] [] 0 [] hC [pq h1, pq h2, pq h4, pq h6]
 ·have h := hnext0 _ hs0
  refine ws C1 24 [] [pl Br x0.Ac] [] 0 [0] (yN x0 0) (Aj4 x0 0) hC [] ?_
  obtain ⟨w2, hm2, hret2, hnext2⟩ := Ar h
  clear h
  refine wc w2 (Anc) (Ao5 x0) ?_ λ z2 hs2 => ?_
  ·refine wb ?_
   refine ww (yN x0) (Aj4 x0) hm2 λ z2 w2b h hb2 hr2 => ?_
   unfold Aa2 at h
   rcases cB h with ⟨h11, h⟩ | ⟨h11, h⟩
   ·obtain ⟨y12, h13, h⟩ := Ax h
    refine wn C1 32 [true] [pc e77 (k77 x0 2 z2 _ h13) [], pl pI y12] [] 0 [0] [1, 2, 74, 75, 82] hC [pq h11] ?_
    rcases cB h with ⟨h14, h⟩ | ⟨h14, h⟩
    ·have hq := hret2 _ (hr2 _ (sI h).symm)
     replace hq := sI hq
     subst hq
     exact wr C1 24 [true] [] [] 0 [] hC [pq h14]
    ·exact wx w2b (yN x0) (Aj4 x0) C1 25 [false] [] [] 0 [0] _ hC [pq h14] (sI h).symm
   ·exact wx w2 (Anc) (Ao5 x0) C1 26 [false] [] [] 0 [0] z2 hC [pq h11] (hb2 _ (sI h).symm)
  ·have h := hnext2 _ hs2
   refine ws C1 24 [] [pl q65 x0.Af] [] 0 [0] (yM x0 0) (Aj3 x0 0) hC [] ?_
   obtain ⟨w3, hm3, hret3, hnext3⟩ := Ar h
   clear h
   refine wc w3 (Anb) (Ao4) ?_ λ z3 hs3 => ?_
   ·refine wb ?_
    refine ww (yM x0) (Aj3 x0) hm3 λ z3 w3b h hb3 hr3 => ?_
    unfold Aa1 at h
    rcases cB h with ⟨h15, h⟩ | ⟨h15, h⟩
    ·obtain ⟨y16, h17, h⟩ := Ax h
     refine wn C1 32 [true] [pc e77 (k77 x0 3 z3 _ h17) [], pl pI y16] [] 0 [0] [1, 2, 86, 87, 94] hC [pq h15] ?_
     rcases cB h with ⟨h18, h⟩ | ⟨h18, h⟩
     ·have hq := hret3 _ (hr3 _ (sI h).symm)
      replace hq := sI hq
      subst hq
      exact wr C1 24 [true] [] [] 0 [] hC [pq h18]
     ·exact wx w3b (yM x0) (Aj3 x0) C1 25 [false] [] [] 0 [0] _ hC [pq h18] (sI h).symm
    ·exact wx w3 (Anb) (Ao4) C1 26 [false] [] [] 0 [] z3 hC [pq h15] (hb3 _ (sI h).symm)
   ·have h := hnext3 _ hs3
    replace h := sI h
    subst h
    exact wr C1 23 [] [] [] 0 [] hC []
theorem Bbk : EN 163 := en Tryz.func163
def Wg : List Nat := [0, 1, 2, 4, 6, 7, 8, 9, 29]
def yL (x0 : Aa) (n0 : Nat) (z0 : Unit) : St := [(2, dB false), (6, .d (DS Br x0.Ac)), (7, dI (ln x0.Ac)), (8, dI (cnt 0 n0))]
def Aj2  (n0 : Nat) (z0 : Unit) : List Res := []
def Ana  (z0 : Unit) : St := [(2, dB false)]
def Ao3  (z0 : Unit) : List Res := []
theorem A_2 (x0 : Aa) (r : Bool) (h : Aln x0 = some r) : CO 164 [.agg (d29 x0)] [] (.d (Bo r)) [] := by
 unfold Aln at h
 refine co 31 Tryz.func164 λ C hC => ?_
 refine ws Wg 26 [] [pl Br x0.Ac] [] 0 [] (yL x0 0 ()) (Aj2 0 ()) hC [] ?_
 obtain ⟨w0, hm0, hret0, hnext0⟩ := Ar h
 clear h
 refine wc w0 (Ana) (Ao3) ?_ λ z0 hs0 => ?_
 ·refine wb ?_
  refine Bn 6 rfl λ hl0 => ?_
  refine wl (yL x0) (Aj2) hm0 (λ z0 hn0 => ?_) λ n0 a0 z0 w0b hi0 hx0 h hb0 hr0 => ?_
  ·clear hm0
   exact wx w0 (Ana) (Ao3) Wg 26 [false] [] [] 0 [] _ hC [pq (Be hl0)] hn0
  ·unfold Aa0 at h
   refine wn Wg 32 [true] [pt hx0 hl0, pc Fg (Fe a0.Rating 1 50000 _ rfl) [], ⟨.when [(!(B5 a0.Rating 1 50000), false)] (.call 112 [dI a0.Least, dI 0, dI a0.Rating] [] (dB (B5 a0.Least 0 a0.Rating)) [] []), λ hg => ⟨Fg, (Fe a0.Least 0 a0.Rating _ rfl)⟩⟩, ⟨.when [(((!(B5 a0.Rating 1 50000)) || (!(B5 a0.Least 0 a0.Rating))), false)] (.call 112 [dI a0.Start, dI 0, dI 600] [] (dB (B5 a0.Start 0 600)) [] []), λ hg => ⟨Fg, (Fe a0.Start 0 600 _ rfl)⟩⟩] [] 0 [] [2, 6, 7, 8, 29] hC [pq (A9 hi0 hl0)] ?_
   rcases cB h with ⟨h1, h⟩ | ⟨h1, h⟩
   ·have hq := hret0 _ (hr0 _ (sI h).symm)
    replace hq := sI hq
    subst hq
    exact wr Wg 24 [true] [] [] 0 [] hC [pq h1]
   ·exact wx w0b (yL x0 (n0 + 1)) (Aj2 (n0 + 1)) Wg 25 [false] [] [] 0 [] _ hC [pq h1] (sI h).symm
 ·have h := hnext0 _ hs0
  replace h := sI h
  subst h
  exact wr Wg 23 [] [] [] 0 [] hC []
theorem Bbj : EN 164 := en Tryz.func164
def Jn : List Nat := [0, 1, 2, 3, 4, 5, 6, 8, 9, 10, 11, 44, 46, 47, 48, 49, 71]
def yK (x0 : Aa) (n0 : Nat) (z0 : Unit) : St := [(2, dB false), (8, .d (DS q65 x0.Af)), (9, dI (ln x0.Af)), (10, dI (cnt 0 n0))]
def Aj1  (n0 : Nat) (z0 : Unit) : List Res := []
def Am9  (z0 : Unit) : St := [(2, dB false)]
def Ao2  (z0 : Unit) : List Res := []
def yJ (x0 : Aa) (n0 : Nat) (a0 : A3) (n1 : Nat) (z1 : Unit) : St := [(2, dB false), (3, dI (cnt 0 n0)), (4, dO 0 0), (8, .d (DS q65 x0.Af)), (9, dI (ln x0.Af)), (10, dI (cnt 0 n0)), (46, .d (DS pI a0.Needs)), (47, dI (ln a0.Needs)), (48, dI (cnt 0 n1))]
def Aj0 (a0 : A3) (n1 : Nat) (z1 : Unit) : List Res := [.box 65 (d65 a0)]
def Am8 (x0 : Aa) (n0 : Nat) (z1 : Unit) : St := [(2, dB false), (8, .d (DS q65 x0.Af)), (9, dI (ln x0.Af)), (10, dI (cnt 0 n0))]
def Ao1  (z1 : Unit) : List Res := []
theorem A_1 (x0 : Aa) (r : Bool) (h : Alm x0 = some r) : CO 165 [.agg (d29 x0)] [] (.d (Bo r)) [] := by
 unfold Alm at h
 refine co 74 Tryz.func165 λ C hC => ?_
 refine ws Jn 26 [] [pl q65 x0.Af] [] 0 [] (yK x0 0 ()) (Aj1 0 ()) hC [] ?_
 obtain ⟨w0, hm0, hret0, hnext0⟩ := Ar h
 clear h
 refine wc w0 (Am9) (Ao2) ?_ λ z0 hs0 => ?_
 ·refine wb ?_
  refine Bn 8 rfl λ hl0 => ?_
  refine wl (yK x0) (Aj1) hm0 (λ z0 hn0 => ?_) λ n0 a0 z0 w0b hi0 hx0 h hb0 hr0 => ?_
  ·clear hm0
   exact wx w0 (Am9) (Ao2) Jn 26 [false] [] [] 0 [] _ hC [pq (Be hl0)] hn0
  ·unfold Aaz at h
   refine wn Jn 33 [true] [pt hx0 hl0, pc Fg (Fe a0.Load 0 50000 _ rfl) [], ⟨.when [(!(B5 a0.Load 0 50000), false)] (.call 112 [dI a0.Least, dI 0, dI a0.Load] [] (dB (B5 a0.Least 0 a0.Load)) [] []), λ hg => ⟨Fg, (Fe a0.Least 0 a0.Load _ rfl)⟩⟩, ⟨.when [(((!(B5 a0.Load 0 50000)) || (!(B5 a0.Least 0 a0.Load))), false)] (.call 112 [dI a0.B4, dI 0, dI 15] [] (dB (B5 a0.B4 0 15)) [] []), λ hg => ⟨Fg, (Fe a0.B4 0 15 _ rfl)⟩⟩, ⟨.when [((((!(B5 a0.Load 0 50000)) || (!(B5 a0.Least 0 a0.Load))) || (!(B5 a0.B4 0 15))), false)] (.call 112 [dI a0.Thruster, dI (-1), dI 7] [] (dB (B5 a0.Thruster (-1) 7)) [] []), λ hg => ⟨Fg, (Fe a0.Thruster (-1) 7 _ rfl)⟩⟩, pL_ [(((((!(B5 a0.Load 0 50000)) || (!(B5 a0.Least 0 a0.Load))) || (!(B5 a0.B4 0 15))) || (!(B5 a0.Thruster (-1) 7))), false)] pI a0.Needs] [] 0 [0] [2, 3, 4, 8, 9, 10, 44] hC [pq (A9 hi0 hl0)] ?_
   rcases cB h with ⟨h1, h⟩ | ⟨h1, h⟩
   ·have hq := hret0 _ (hr0 _ (sI h).symm)
    replace hq := sI hq
    subst hq
    exact wr Jn 24 [true] [] [] 0 [] hC [pq h1]
   ·refine ws Jn 25 [false] [pl pI a0.Needs] [] 0 [0] (yJ x0 n0 a0 0 ()) (Aj0 a0 0 ()) hC [pq h1] ?_
    obtain ⟨w1, hm1, hret1, hnext1⟩ := Ar h
    clear h
    refine wc w1 (Am8 x0 n0) (Ao1) ?_ λ z1 hs1 => ?_
    ·refine wb ?_
     refine Bn 46 rfl λ hl1 => ?_
     refine wl (yJ x0 n0 a0) (Aj0 a0) hm1 (λ z1 hn1 => ?_) λ n1 a1 z1 w1b hi1 hx1 h hb1 hr1 => ?_
     ·clear hm1
      exact wx w1 (Am8 x0 n0) (Ao1) Jn 26 [false] [] [] 0 [] _ hC [pq (Be hl1)] hn1
     ·unfold Aay at h
      obtain ⟨y2, h3, h⟩ := Ax h
      refine wn Jn 32 [true] [pt hx1 hl1, pc Fg (Fe a1 0 (w64 ((cnt 0 n0) - 1)) _ rfl) [], pR pI h3] [] 0 [0] [2, 3, 4, 8, 9, 10, 46, 47, 48, 71] hC [pq (A9 hi1 hl1)] ?_
      rcases cB h with ⟨h4, h⟩ | ⟨h4, h⟩
      ·have hq := hret1 _ (hr1 _ (sI h).symm)
       replace hq := hret0 _ (hr0 _ (sI hq).symm)
       replace hq := sI hq
       subst hq
       exact wr Jn 24 [true] [] [] 0 [] hC [pq h4]
      ·exact wx w1b (yJ x0 n0 a0 (n1 + 1)) (Aj0 a0 (n1 + 1)) Jn 25 [false] [] [] 0 [0] _ hC [pq h4] (sI h).symm
    ·have h := hnext1 _ hs1
     exact wx w0b (yK x0 (n0 + 1)) (Aj1 (n0 + 1)) Jn 23 [] [] [] 0 [] _ hC [] (sI h).symm
 ·have h := hnext0 _ hs0
  replace h := sI h
  subst h
  exact wr Jn 23 [] [] [] 0 [] hC []
theorem Bbi : EN 165 := en Tryz.func165
theorem Yq (x0 : List Int) (x1 : Int) (r : Bool) (h : Np x0 x1 = some r) : CO 190 [.d (DS pI x0), .d (I x1)] [] (.d (Bo r)) [] := by
 unfold Np at h
 refine co 9 Tryz.func190 λ C hC => ?_
 obtain ⟨y1, h2, h⟩ := Ax h
 replace h := sI h
 subst h
 exact wr [0, 1, 4] 25 [] [pc Bay (A_h x0 x1 _ h2) []] [] 0 [] hC []
theorem Yy : EN 190 := en Tryz.func190
def Pr : List Nat := [0, 1, 4, 5, 7, 8, 9, 16]
def Sp (x0 : List (List Int)) (n0 : Nat) (z0 : Unit) : St := [(0, .d (DS (pL pI) x0)), (1, .d (.fn (.func 192) [] [])), (4, dI 0), (7, dI (ln x0)), (8, dI (cnt 0 n0))]
def Zb  (n0 : Nat) (z0 : Unit) : List Res := []
def Ab1  (z0 : Unit) : St := [(4, dI 0)]
def Adp  (z0 : Unit) : List Res := []
theorem A4b (x0 : List (List Int)) (r : Int) (h : vO x0 = some r) : CO 228 [.d (DS (pL pI) x0), .d (.fn (.func 192) [] [])] [] (.d (I r)) [] := by
 unfold vO at h
 refine co 19 Tryz.func228 λ C hC => ?_
 refine ws Pr 26 [] [pl (pL pI) x0] [] 0 [] (Sp x0 0 ()) (Zb 0 ()) hC [] ?_
 obtain ⟨w0, hm0, hret0, hnext0⟩ := Ar h
 clear h
 refine wc w0 (Ab1) (Adp) ?_ λ z0 hs0 => ?_
 ·refine wb ?_
  refine Bn 0 rfl λ hl0 => ?_
  refine wl (Sp x0) (Zb) hm0 (λ z0 hn0 => ?_) λ n0 a0 z0 w0b hi0 hx0 h hb0 hr0 => ?_
  ·clear hm0
   exact wx w0 (Ab1) (Adp) Pr 26 [false] [] [] 0 [] _ hC [pq (Be hl0)] hn0
  ·unfold Aek at h
   rcases cB h with ⟨h1, h⟩ | ⟨h1, h⟩
   ·have hq := hret0 _ (hr0 _ (sI h).symm)
    replace hq := sI hq
    subst hq
    exact wr Pr 35 [true, true] [pt hx0 hl0, pc A6s (A4v a0 _ rfl) []] [] 0 [] hC [pq (A9 hi0 hl0), pq h1]
   ·exact wx w0b (Sp x0 (n0 + 1)) (Zb (n0 + 1)) Pr 36 [true, false] [pt hx0 hl0, pc A6s (A4v a0 _ rfl) []] [] 0 [] _ hC [pq (A9 hi0 hl0), pq h1] (sI h).symm
 ·have h := hnext0 _ hs0
  replace h := sI h
  subst h
  exact wr Pr 23 [] [] [] 0 [] hC []
theorem A58 : EN 228 := en Tryz.func228
theorem Bac (x0 : Bh) (r : Bool) (h : Aa9 x0 = r) : CO 137 [.agg (A7q x0)] [] (.d (Bo r)) [] := by
 unfold Aa9 at h
 refine co 18 Tryz.func137 λ C hC => ?_
 subst h
 exact wr n3_ 25 [] [pc e99 (k99 x0.Rating 1 50000 _ rfl) [], ⟨.when [(F99 x0.Rating 1 50000, true)] (.call 99 [dI x0.Least, dI 0, dI x0.Rating] [] (dB (F99 x0.Least 0 x0.Rating)) [] []), λ hg => ⟨e99, (k99 x0.Least 0 x0.Rating _ rfl)⟩⟩, ⟨.when [(((F99 x0.Rating 1 50000) && (F99 x0.Least 0 x0.Rating)), true)] (.call 99 [dI x0.Start, dI 0, dI 600] [] (dB (F99 x0.Start 0 600)) [] []), λ hg => ⟨e99, (k99 x0.Start 0 600 _ rfl)⟩⟩] [] 0 [] hC []
theorem Bbt : EN 137 := en Tryz.func137
def Wj : List Nat := [0, 1, 2, 4, 5, 6, 8, 9, 10, 11, 33]
def yU (x0 : A3) (x1 : Int) (n0 : Nat) (z0 : Unit) : St := [(1, dI x1), (2, dO 0 0), (4, dB false), (8, .d (DS pI x0.Needs)), (9, dI (ln x0.Needs)), (10, dI (cnt 0 n0))]
def Akb (x0 : A3) (n0 : Nat) (z0 : Unit) : List Res := [.box 65 (d65 x0)]
def Ann  (z0 : Unit) : St := [(2, dO 0 0), (4, dB false)]
def Apg (x0 : A3) (z0 : Unit) : List Res := [.box 65 (d65 x0)]
theorem Bab (x0 : A3) (x1 : Int) (r : Bool) (h : Aa8 x0 x1 = some r) : CO 138 [.agg (d65 x0), .d (I x1)] [] (.d (Bo r)) [] := by
 unfold Aa8 at h
 refine co 61 Tryz.func138 λ C hC => ?_
 refine ws Wj 26 [] [pl pI x0.Needs] [] 0 [0] (yU x0 x1 0 ()) (Akb x0 0 ()) hC [] ?_
 obtain ⟨w0, hm0, hret0, hnext0⟩ := Ar h
 clear h
 refine wc w0 (Ann) (Apg x0) ?_ λ z0 hs0 => ?_
 ·refine wb ?_
  refine Bn 8 rfl λ hl0 => ?_
  refine wl (yU x0 x1) (Akb x0) hm0 (λ z0 hn0 => ?_) λ n0 a0 z0 w0b hi0 hx0 h hb0 hr0 => ?_
  ·clear hm0
   exact wx w0 (Ann) (Apg x0) Wj 26 [false] [] [] 0 [0] _ hC [pq (Be hl0)] hn0
  ·unfold Xl at h
   obtain ⟨y1, h2, h⟩ := Ax h
   refine wn Wj 32 [true] [pt hx0 hl0, pc e99 (k99 a0 0 (w64 (x1 - 1)) _ rfl) [], pR pI h2] [] 0 [0] [1, 2, 4, 8, 9, 10, 33] hC [pq (A9 hi0 hl0)] ?_
   rcases cB h with ⟨h3, h⟩ | ⟨h3, h⟩
   ·have hq := hret0 _ (hr0 _ (sI h).symm)
    replace hq := sI hq
    subst hq
    exact wr Wj 24 [true] [] [] 0 [] hC [pq h3]
   ·exact wx w0b (yU x0 x1 (n0 + 1)) (Akb x0 (n0 + 1)) Wj 25 [false] [] [] 0 [0] _ hC [pq h3] (sI h).symm
 ·have h := hnext0 _ hs0
  replace h := sI h
  subst h
  exact wr Wj 23 [] [pc e99 (k99 x0.Load 0 50000 _ rfl) [], ⟨.when [(F99 x0.Load 0 50000, true)] (.call 99 [dI x0.Least, dI 0, dI x0.Load] [] (dB (F99 x0.Least 0 x0.Load)) [] []), λ hg => ⟨e99, (k99 x0.Least 0 x0.Load _ rfl)⟩⟩, ⟨.when [(((F99 x0.Load 0 50000) && (F99 x0.Least 0 x0.Load)), true)] (.call 99 [dI x0.B4, dI 0, dI 15] [] (dB (F99 x0.B4 0 15)) [] []), λ hg => ⟨e99, (k99 x0.B4 0 15 _ rfl)⟩⟩, ⟨.when [((((F99 x0.Load 0 50000) && (F99 x0.Least 0 x0.Load)) && (F99 x0.B4 0 15)), true)] (.call 99 [dI x0.Thruster, dI (-1), dI 7] [] (dB (F99 x0.Thruster (-1) 7)) [] []), λ hg => ⟨e99, (k99 x0.Thruster (-1) 7 _ rfl)⟩⟩, pL_ [(((((F99 x0.Load 0 50000) && (F99 x0.Least 0 x0.Load)) && (F99 x0.B4 0 15)) && (F99 x0.Thruster (-1) 7)), true)] pI x0.Needs] [] 0 [] hC []
theorem Bbs : EN 138 := en Tryz.func138
def Wi : List Nat := [0, 1, 4, 5, 6, 11, 12, 13, 16, 19]
theorem Ay9 (x0 : Int) (x1 : Int) (r : Int) (h : Ko x0 x1 = r) : CO 154 [.d (I x0), .d (I x1)] [] (.d (I r)) [] := by
 unfold Ko at h
 refine co 20 Tryz.func154 λ C hC => ?_
 rcases cB h with ⟨h1, h⟩ | ⟨h1, h⟩
 ·rcases cB h with ⟨h2, h⟩ | ⟨h2, h⟩
  ·subst h
   exact wr Wi 37 [true, true] [pc Lo (Lk x0 _ rfl) [], pc Lo (Lk x1 _ rfl) []] [] 0 [] hC [pq h1, pq h2]
  ·subst h
   exact wr Wi 38 [true, false] [pc Lo (Lk x0 _ rfl) [], pc Lo (Lk x1 _ rfl) []] [] 0 [] hC [pq h1, pq h2]
 ·rcases cB h with ⟨h3, h⟩ | ⟨h3, h⟩
  ·subst h
   exact wr Wi 38 [false, true] [pc Lo (Lk x0 _ rfl) [], pc Lo (Lk x1 _ rfl) []] [] 0 [] hC [pq h1, pq h3]
  ·rcases cB h with ⟨h4, h⟩ | ⟨h4, h⟩
   ·subst h
    exact wr Wi 43 [false, false, true] [pc Lo (Lk x0 _ rfl) [], pc Lo (Lk x1 _ rfl) []] [] 0 [] hC [pq h1, pq h3, pq h4]
   ·rcases cB h with ⟨h5, h⟩ | ⟨h5, h⟩
    ·subst h
     exact wr Wi 48 [false, false, false, true] [pc Lo (Lk x0 _ rfl) [], pc Lo (Lk x1 _ rfl) []] [] 0 [] hC [pq h1, pq h3, pq h4, pq h5]
    ·subst h
     exact wr Wi 49 [false, false, false, false] [pc Lo (Lk x0 _ rfl) [], pc Lo (Lk x1 _ rfl) []] [] 0 [] hC [pq h1, pq h3, pq h4, pq h5]
theorem Azs : EN 154 := en Tryz.func154
theorem k98 (x0 : Ae) (r : Bool) (h : F98 x0 = r) : CO 98 [.agg (O_ x0)] [] (.d (Bo r)) [] := by
 unfold F98 at h
 refine co 21 Tryz.func98 λ C hC => ?_
 subst h
 exact wr n3_ 25 [] [pc e99 (k99 x0.State 0 3 _ rfl) [], ⟨.when [(F99 x0.State 0 3, true)] (.call 99 [dI x0.Since, dI 0, dI 2147483648] [] (dB (F99 x0.Since 0 2147483648)) [] []), λ hg => ⟨e99, (k99 x0.Since 0 2147483648 _ rfl)⟩⟩, ⟨.when [(((F99 x0.State 0 3) && (F99 x0.Since 0 2147483648)), true)] (.call 99 [dI x0.An, dI 0, dI 6000] [] (dB (F99 x0.An 0 6000)) [] []), λ hg => ⟨e99, (k99 x0.An 0 6000 _ rfl)⟩⟩, ⟨.when [((((F99 x0.State 0 3) && (F99 x0.Since 0 2147483648)) && (F99 x0.An 0 6000)), true)] (.call 99 [dI x0.Phase, dI 0, dI 3599] [] (dB (F99 x0.Phase 0 3599)) [] []), λ hg => ⟨e99, (k99 x0.Phase 0 3599 _ rfl)⟩⟩] [] 0 [] hC []
theorem e98 : EN 98 := en Tryz.func98
theorem Ll (x0 : Ab) (r : Ab) (h : Il x0 = some r) : CO 116 [.agg (d36 x0)] [] (.agg [.os 0, .os 1, .os 2, .os 3]) (zp r []) := by
 unfold Il at h
 refine co 16 Tryz.func116 λ C hC => ?_
 obtain ⟨y1, h2, y3, h4, y5, h6, y7, h8, h⟩ := Cn h
 replace h := sI h
 subst h
 exact wr n3_ 25 [] [pc Bbh (A_0 x0.Ag _ h2) [], pc Bbg (A_z x0.Ac _ h4) [], pc A65 (A48 x0.Aq _ h6) [], pc Bbf (A_y x0.Ao _ h8) []] [] 0 [2, 3, 4, 5] hC []
theorem Lp : EN 116 := en Tryz.func116
def Aqt : List Nat := [0, 1, 2, 3, 4, 6, 7, 23]
theorem Azb (x0 : Aa) (x1 : Ab) (x2 : Int) (r : Int × Bool) (h : Z8 x0 x1 x2 = some r) : CO 143 [.agg (d29 x0), .agg (d36 x1), .d (I x2)] [] (.tup [.d (I r.1), .d (Bo r.2)]) [] := by
 unfold Z8 at h
 refine co 30 Tryz.func143 λ C hC => ?_
 obtain ⟨y1, h2, h⟩ := Ax h
 refine wn Aqt 26 [] [pl A_ x1.Ac, pc e99 (k99 x2 0 (w64 ((ln x1.Ac) - 1)) _ rfl) [], pR A_ h2] [] 0 [0, 1] [2, 3, 4, 6, 7, 23] hC [] ?_
 rcases cB h with ⟨h3, h⟩ | ⟨h3, h⟩
 ·replace h := sI h
  subst h
  exact wr Aqt 24 [true] [] [] 0 [] hC [pq h3]
 ·obtain ⟨y4, h5, h⟩ := Ax h
  replace h := sI h
  subst h
  exact wr Aqt 25 [false] [pc A6r (A4u x0 x1 2 x2 _ h5) []] [] 0 [] hC [pq h3]
theorem Azu : EN 143 := en Tryz.func143
theorem Aza (x0 : Aa) (x1 : Ab) (x2 : Int) (r : Int × Bool) (h : Z7 x0 x1 x2 = some r) : CO 144 [.agg (d29 x0), .agg (d36 x1), .d (I x2)] [] (.tup [.d (I r.1), .d (Bo r.2)]) [] := by
 unfold Z7 at h
 refine co 14 Tryz.func144 λ C hC => ?_
 obtain ⟨y1, h2, h⟩ := Ax h
 replace h := sI h
 subst h
 exact wr [0, 1, 2, 3, 4, 6, 7] 25 [] [pc A6r (A4u x0 x1 3 x2 _ h2) []] [] 0 [] hC []
theorem Azt : EN 144 := en Tryz.func144
def Mr : List Nat := [0, 1, 4, 5, 7, 8, 9, 16]
def S5 (x0 : List Ai) (n0 : Nat) (z0 : Unit) : St := [(0, .d (DS q84 x0)), (1, .d (.fn (.func 146) [] [])), (4, dI 0), (7, dI (ln x0)), (8, dI (cnt 0 n0))]
def Zn  (n0 : Nat) (z0 : Unit) : List Res := []
def Acn  (z0 : Unit) : St := [(4, dI 0)]
def Aeb  (z0 : Unit) : List Res := []
theorem Au4 (x0 : List Ai) (r : Int) (h : Vs x0 = some r) : CO 141 [.d (DS q84 x0), .d (.fn (.func 146) [] [])] [] (.d (I r)) [] := by
 unfold Vs at h
 refine co 19 Tryz.func141 λ C hC => ?_
 refine ws Mr 26 [] [pl q84 x0] [] 0 [] (S5 x0 0 ()) (Zn 0 ()) hC [] ?_
 obtain ⟨w0, hm0, hret0, hnext0⟩ := Ar h
 clear h
 refine wc w0 (Acn) (Aeb) ?_ λ z0 hs0 => ?_
 ·refine wb ?_
  refine Bn 0 rfl λ hl0 => ?_
  refine wl (S5 x0) (Zn) hm0 (λ z0 hn0 => ?_) λ n0 a0 z0 w0b hi0 hx0 h hb0 hr0 => ?_
  ·clear hm0
   exact wx w0 (Acn) (Aeb) Mr 26 [false] [] [] 0 [] _ hC [pq (Be hl0)] hn0
  ·unfold Aes at h
   refine wn Mr 32 [true] [pt hx0 hl0, pc A7c (A5f a0 _ rfl) []] [] 0 [] [0, 1, 4, 5, 7, 8, 16] hC [pq (A9 hi0 hl0)] ?_
   rcases cB h with ⟨h1, h⟩ | ⟨h1, h⟩
   ·have hq := hret0 _ (hr0 _ (sI h).symm)
    replace hq := sI hq
    subst hq
    exact wr Mr 24 [true] [] [] 0 [] hC [pq h1]
   ·exact wx w0b (S5 x0 (n0 + 1)) (Zn (n0 + 1)) Mr 25 [false] [] [] 0 [] _ hC [pq h1] (sI h).symm
 ·have h := hnext0 _ hs0
  replace h := sI h
  subst h
  exact wr Mr 23 [] [] [] 0 [] hC []
theorem Avy : EN 141 := en Tryz.func141
theorem k60 (x0 : Ab) (x1 : Ab) (r : Bool) (h : F60 x0 x1 = some r) : CO 60 [.agg (d36 x0), .agg (d36 x1)] [] (.d (Bo r)) [] := by
 unfold F60 at h
 refine co 31 Tryz.func60 λ C hC => ?_
 obtain ⟨y1, h2, y3, h4, y5, h6, y7, h8, h⟩ := Cn h
 replace h := sI h
 subst h
 exact wr n5_ 25 [] [pc Bb1 (Bak x0.Ag x1.Ag _ h2) [], pw Bb0 (λ hg => Baj x0.Ac x1.Ac _ (Bb h4 hg)) [], pw Bbz (λ hg => Bai x0.Aq x1.Aq _ (Bb h6 hg)) [], pw Bby (λ hg => Bah x0.Ao x1.Ao _ (Bb h8 hg)) []] [] 0 [] hC []
theorem e60 : EN 60 := en Tryz.func60
theorem A8x (x0 : A0) (x1c0 : Az) (r : Bool × Az) (h : Gr x0 x1c0 = r) : CO 62 [.agg (Azy x0), .d (.o 0 0)] [.box 126 [.fn (.func 58) [] [.o 1 0]], .box 40 (d40 x1c0)] (.d (Bo r.1)) [.box 126 [.fn (.func 58) [] [.o 1 0]], .box 40 (d40 r.2)] := by
 unfold Gr at h
 refine co 16 Tryz.func62 λ C hC => ?_
 subst h
 exact wr n4_ 25 [] [pb A1i (A1c x0.High x1c0 _ rfl), ⟨.when [(!(R6 x0.High x1c0), false)] (.callB 58 [dI x0.Low, .d (.ip [.v (.int .i64 x1c0.Time), .s (x1c0.Power.Ag.map pB), .s (x1c0.Power.Ac.map A_), .s (x1c0.Power.Aq.map pI), .s (x1c0.Power.Ao.map q86), .s (x1c0.A5.map B2), .s (x1c0.A6.map q51)])] (dB (R6 x0.Low x1c0)) [[]] 0 []), λ hg => Ja ⟨A1i, (A1c x0.Low x1c0 _ rfl)⟩⟩] [] 2 [0, 1] hC []
theorem A9h : EN 62 := en Tryz.func62
def H0 : List Nat := [0, 1, 2, 3, 4, 6, 7, 14, 21, 27, 39]
def zG (x1 : Ap) (z0 : Bool) : St := [(2, dO 0 0), (3, dO 1 0), (4, dB false), (6, dI x1.Kind), (7, dB z0)]
def Aan (x0 : Aa) (x1 : Ap) (z0 : Bool) : List Res := [.box 29 (d29 x0), .box 49 (d49 x1)]
def zF (x1 : Ap) (z1 : Bool) : St := [(2, dO 0 0), (3, dO 1 0), (4, dB false), (6, dI x1.Kind), (14, dB z1)]
def Aam (x0 : Aa) (x1 : Ap) (z1 : Bool) : List Res := [.box 29 (d29 x0), .box 49 (d49 x1)]
theorem A5k (x0 : Aa) (x1 : Ap) (r : Bool) (h : Abd x0 x1 = some r) : CO 134 [.agg (d29 x0), .agg (d49 x1)] [] (.d (Bo r)) [] := by
 unfold Abd at h
 refine co 48 Tryz.func134 λ C hC => ?_
 refine wn H0 30 [] [] [] 0 [0, 1] [2, 3, 4, 6, 7] hC [] ?_
 obtain ⟨w0, h, hret0, hnext0⟩ := Ar h
 refine wc w0 (zG x1) (Aan x0 x1) ?_ λ z0 hs0 => ?_
 ·unfold Abc at h
  rcases cB h with ⟨h1, h⟩ | ⟨h1, h⟩
  ·exact wx w0 (zG x1) (Aan x0 x1) H0 23 [true] [] [] 0 [0, 1] _ hC [pq h1] (sI h).symm
  ·exact wx w0 (zG x1) (Aan x0 x1) H0 23 [false] [] [] 0 [0, 1] _ hC [pq h1] (sI h).symm
 ·clear h; have h := hnext0 _ hs0
  rcases cB h with ⟨h2, h⟩ | ⟨h2, h⟩
  ·replace h := sI h
   subst h
   exact wr H0 24 [true] [pc Yz (Yr x0 2 x1.Unit _ rfl) []] [] 0 [] hC [pq h2]
  ·refine wn H0 25 [false] [] [] 0 [0, 1] [2, 3, 4, 6, 14] hC [pq h2] ?_
   obtain ⟨w1, h, hret1, hnext1⟩ := Ar h
   refine wc w1 (zF x1) (Aam x0 x1) ?_ λ z1 hs1 => ?_
   ·unfold Abb at h
    rcases cB h with ⟨h3, h⟩ | ⟨h3, h⟩
    ·exact wx w1 (zF x1) (Aam x0 x1) H0 23 [true] [] [] 0 [0, 1] _ hC [pq h3] (sI h).symm
    ·exact wx w1 (zF x1) (Aam x0 x1) H0 23 [false] [] [] 0 [0, 1] _ hC [pq h3] (sI h).symm
   ·clear h; have h := hnext1 _ hs1
    rcases cB h with ⟨h4, h⟩ | ⟨h4, h⟩
    ·replace h := sI h
     subst h
     exact wr H0 24 [true] [pc Yz (Yr x0 1 x1.Unit _ rfl) []] [] 0 [] hC [pq h4]
    ·rcases cB h with ⟨h5, h⟩ | ⟨h5, h⟩
     ·replace h := sI h
      subst h
      exact wr H0 27 [false, true] [pc Yz (Yr x0 4 x1.Unit _ rfl) []] [] 0 [] hC [pq h4, pq h5]
     ·rcases cB h with ⟨h6, h⟩ | ⟨h6, h⟩
      ·replace h := sI h
       subst h
       exact wr H0 30 [false, false, true] [pc Yz (Yr x0 1 x1.Unit _ rfl) [], ⟨.when [(Kn x0 1 x1.Unit, true)] (.call 181 [.agg (d29 x0), dI 3, dI x1.Value] [] (dB (Kn x0 3 x1.Value)) [] []), λ hg => ⟨Yz, (Yr x0 3 x1.Value _ rfl)⟩⟩] [] 0 [] hC [pq h4, pq h5, pq h6]
      ·rcases cB h with ⟨h7, h⟩ | ⟨h7, h⟩
       ·replace h := sI h
        subst h
        exact wr H0 36 [false, false, false, true, true] [pc Yz (Yr x0 x1.Value x1.Unit _ rfl) []] [] 0 [] hC [pq h4, pq h5, pq h6, pq h7, pq h7]
       ·rcases cB h with ⟨h8, h⟩ | ⟨h8, h⟩
        ·replace h := sI h
         subst h
         exact wr H0 36 [false, false, false, false, true] [pc Yz (Yr x0 x1.Value x1.Unit _ rfl) []] [] 0 [] hC [pq h4, pq h5, pq h6, pq h7, pq h8]
        ·replace h := sI h
         subst h
         exact wr H0 38 [false, false, false, false, false] [] [] 0 [] hC [pq h4, pq h5, pq h6, pq h7, pq h8]
theorem A7h : EN 134 := en Tryz.func134
theorem A_6 (x0 : List Am) (x1 : Am) (r : Bool) (h : As4 x0 x1 = some r) : CO 157 [.d (DS q86 x0), .agg (d86 x1)] [] (.d (Bo r)) [] := by
 unfold As4 at h
 refine co 9 Tryz.func157 λ C hC => ?_
 obtain ⟨y1, h2, h⟩ := Ax h
 replace h := sI h
 subst h
 exact wr [0, 1, 3, 4] 25 [] [pc Ba6 (A_p x0 x1 _ h2) []] [] 0 [] hC []
theorem Bbn : EN 157 := en Tryz.func157
theorem A_d (x0 : Int) (x1 : Int) (r : Int) (h : Aas x0 x1 = r) : CO 248 [.d (I x0), .d (I x1)] [] (.d (I r)) [] := by
 unfold Aas at h
 refine co 17 Tryz.func248 λ C hC => ?_
 refine wn [0, 1, 4, 5, 13] 28 [] [pc Aik (Ahr x1 _ rfl) [], pc Aik (Ahr x0 _ rfl) [], pc Aik (Ahr (w64 ((Eg x1) - (Eg x0))) _ rfl) []] [] 0 [] [4, 5, 13] hC [] ?_
 rcases cB h with ⟨h1, h⟩ | ⟨h1, h⟩
 ·subst h
  exact wr [0, 1, 4, 5, 13] 25 [true] [] [] 0 [] hC [pq h1]
 ·subst h
  exact wr [0, 1, 4, 5, 13] 25 [false] [] [] 0 [] hC [pq h1]
theorem Bau : EN 248 := en Tryz.func248
def Mj : List Nat := [0, 1, 4, 5, 7, 8, 9, 16]
def Sr (x0 : List Aj) (n0 : Nat) (z0 : Unit) : St := [(0, .d (DS Bi x0)), (1, .d (.fn (.func 244) [] [.o 0 0])), (4, dI 0), (7, dI (ln x0)), (8, dI (cnt 0 n0))]
def Zd (x1c0 : Int) (n0 : Nat) (z0 : Unit) : List Res := [.box 3 [I x1c0]]
def Ab4  (z0 : Unit) : St := [(4, dI 0)]
def Ads (x1c0 : Int) (z0 : Unit) : List Res := [.box 3 [I x1c0]]
theorem A4h (x0 : List Aj) (x1c0 : Int) (r : Int × Int) (h : vR x0 x1c0 = some r) : CO 218 [.d (DS Bi x0), .d (.fn (.func 244) [] [.o 0 0])] [.box 3 [I x1c0]] (.d (I r.1)) [.box 3 [I r.2]] := by
 unfold vR at h
 refine co 19 Tryz.func218 λ C hC => ?_
 refine ws Mj 26 [] [pl Bi x0] [] 1 [0] (Sr x0 0 ()) (Zd x1c0 0 ()) hC [] ?_
 obtain ⟨w0, hm0, hret0, hnext0⟩ := Ar h
 clear h
 refine wc w0 (Ab4) (Ads x1c0) ?_ λ z0 hs0 => ?_
 ·refine wb ?_
  refine Bn 0 rfl λ hl0 => ?_
  refine wl (Sr x0) (Zd x1c0) hm0 (λ z0 hn0 => ?_) λ n0 a0 z0 w0b hi0 hx0 h hb0 hr0 => ?_
  ·clear hm0
   exact wx w0 (Ab4) (Ads x1c0) Mj 26 [false] [] [] 1 [0] _ hC [pq (Be hl0)] hn0
  ·unfold On at h
   refine wn Mj 32 [true] [pt hx0 hl0, pb A52 (A35 a0 x1c0 _ rfl)] [] 1 [0] [0, 1, 4, 5, 7, 8, 16] hC [pq (A9 hi0 hl0)] ?_
   rcases cB h with ⟨h1, h⟩ | ⟨h1, h⟩
   ·have hq := hret0 _ (hr0 _ (sI h).symm)
    replace hq := sI hq
    subst hq
    exact wr Mj 24 [true] [] [] 1 [0] hC [pq h1]
   ·exact wx w0b (Sr x0 (n0 + 1)) (Zd x1c0 (n0 + 1)) Mj 25 [false] [] [] 1 [0] _ hC [pq h1] (sI h).symm
 ·have h := hnext0 _ hs0
  replace h := sI h
  subst h
  exact wr Mj 23 [] [] [] 1 [0] hC []
theorem A6e : EN 218 := en Tryz.func218
def Mh : List Nat := [0, 1, 2, 4, 6, 7, 8, 9, 10, 11, 17, 31]
def Nu (x0 : List Am) (z0 : Int × Int) : St := [(0, .d (DS q86 x0)), (2, .d (.fn (.func 224) [] [])), (4, dO 0 0), (6, dI 0), (7, dB false), (8, dI (ln x0)), (9, dI z0.1), (10, dI z0.2)]
def Rj (x1 : Am) (z0 : Int × Int) : List Res := [.box 86 (d86 x1)]
def Ab2 (x0 : List Am) (z0 : Int × Int) : St := [(0, .d (DS q86 x0)), (2, .d (.fn (.func 224) [] [])), (4, dO 0 0), (6, dI 0), (7, dB false), (8, dI (ln x0)), (9, dI z0.1)]
def Adq (x1 : Am) (z0 : Int × Int) : List Res := [.box 86 (d86 x1)]
theorem Au0 (x0 : List Am) (x1 : Am) (r : Int × Bool) (h : U7 x0 x1 = some r) : CO 223 [.d (DS q86 x0), .agg (d86 x1), .d (.fn (.func 224) [] [])] [] (.tup [.d (I r.1), .d (Bo r.2)]) [] := by
 unfold U7 at h
 refine co 49 Tryz.func223 λ C hC => ?_
 refine ws Mh 28 [] [pl q86 x0] [] 0 [0] (Nu x0 (0, (ln x0))) (Rj x1 (0, (ln x0))) hC [] ?_
 obtain ⟨w0, hm0, hret0, hnext0⟩ := Ar h
 clear h
 refine wc w0 (Ab2 x0) (Adq x1) ?_ λ z0 hs0 => ?_
 ·refine wb ?_
  refine ww (Nu x0) (Rj x1) hm0 λ z0 w0b h hb0 hr0 => ?_
  unfold U6 at h
  rcases cB h with ⟨h1, h⟩ | ⟨h1, h⟩
  ·obtain ⟨y2, h3, h⟩ := Ax h
   refine wn Mh 31 [true] [pr q86 h3, pc A6b (A4e y2 x1 _ rfl) []] [] 0 [0] [0, 2, 4, 6, 7, 8, 9, 10, 11, 31] hC [pq h1] ?_
   rcases cB h with ⟨h4, h⟩ | ⟨h4, h⟩
   ·exact wx w0b (Nu x0) (Rj x1) Mh 24 [true] [] [] 0 [0] _ hC [pq h4] (sI h).symm
   ·exact wx w0b (Nu x0) (Rj x1) Mh 24 [false] [] [] 0 [0] _ hC [pq h4] (sI h).symm
  ·exact wx w0 (Ab2 x0) (Adq x1) Mh 26 [false] [] [] 0 [0] (z0.1, z0.2) hC [pq h1] (hb0 _ (sI h).symm)
 ·have h := hnext0 _ hs0
  obtain ⟨y5, h6, h⟩ := Ax h
  replace h := sI h
  subst h
  exact wr Mh 23 [] [pR q86 h6, ⟨.when [(decide (z0.1 < (ln x0)), true)] (.call 224 [.agg (d86 y5), .agg (d86 x1)] [] (dI (R8 y5 x1)) [] []), λ hg => ⟨A6b, (A4e y5 x1 _ rfl)⟩⟩] [] 0 [] hC []
theorem Avu : EN 223 := en Tryz.func223
def Hw : List Nat := [0, 1, 4, 5, 6, 8, 13, 14, 15, 16, 32, 38, 39, 40, 41]
def Ny (x0 : Ay) (n0 : Nat) (z0 : (List Int)) : St := [(0, dO 0 0), (1, .d (.fn (.func 235) [] [.o 6 0])), (4, dS 7), (13, .d (DS Bi x0.Ak.Ad)), (14, dI (ln x0.Ak.Ad)), (15, dI (cnt 0 n0))]
def Ro (x0 : Ay) (x1c0 : Int) (n0 : Nat) (z0 : (List Int)) : List Res := (.box 235 (zb x0.Ak [.os 8, .os 9, .os 10, .os 11, .os 12]) :: .non :: .non :: .non :: .non :: .non :: .box 3 [I x1c0] :: v0_ z0 :: zp x0.Aw [v6_ x0.acts])
def Ab9  (z0 : (List Int)) : St := [(0, dO 0 0), (4, dS 7)]
def Adx (x0 : Ay) (x1c0 : Int) (z0 : (List Int)) : List Res := (.box 235 (zb x0.Ak [.os 8, .os 9, .os 10, .os 11, .os 12]) :: .non :: .non :: .non :: .non :: .non :: .box 3 [I x1c0] :: v0_ z0 :: zp x0.Aw [v6_ x0.acts])
def Ss (z0 : (List Int)) (n1 : Nat) (z1 : Sg7) : St := [(0, dO 0 0), (38, dS 7), (39, dI (ln z0)), (40, dI (cnt 0 n1))]
def Ze (x1c0 : Int) (z0 : (List Int)) (n1 : Nat) (z1 : Sg7) : List Res := [.box 235 [I z1.1, DS Bi z1.2.1, DS Br z1.2.2.1, DS q65 (g3_ z1), I (g4_ z1), I (g5_ z1), .os 8, .os 9, .os 10, .os 11, .os 12], .non, .non, .non, .non, .non, .box 3 [I x1c0], v0_ z0, v2_ (g6_ z1), v5_ (g7_ z1), v0_ (g8_ z1), v4_ (g9_ z1), v6_ (Fx z1)]
def Ab8  (z1 : Sg7) : St := []
def Adw (x1c0 : Int) (z1 : Sg7) : List Res := [.box 235 [I z1.1, DS Bi z1.2.1, DS Br z1.2.2.1, DS q65 (g3_ z1), I (g4_ z1), I (g5_ z1), .os 7, .os 8, .os 9, .os 10, .os 11], .non, .non, .non, .non, .non, .box 3 [I x1c0], v2_ (g6_ z1), v5_ (g7_ z1), v0_ (g8_ z1), v4_ (g9_ z1), v6_ (Fx z1)]
theorem A4o (x0 : Ay) (x1c0 : Int) (r : Ay × Int) (h : Vg x0 x1c0 = some r) : CO 204 [.d (.o 0 0), .d (.fn (.func 235) [] [.o 6 0])] (.box 235 (zb x0.Ak [.os 1, .os 2, .os 3, .os 4, .os 5]) :: zp x0.Aw [v6_ x0.acts, .box 3 [I x1c0]]) (.tup []) (.box 235 (zb r.1.Ak [.os 7, .os 8, .os 9, .os 10, .os 11]) :: .non :: .non :: .non :: .non :: .non :: .box 3 [I r.2] :: zp r.1.Aw [v6_ r.1.acts]) := by
 unfold Vg at h
 refine co 48 Tryz.func204 λ C hC => ?_
 refine ws Hw 26 [] [pl Bi x0.Ak.Ad] [.own 4 3 1, .mv 1, .mv 2, .mv 3, .mv 4, .mv 5] 7 Ij (Ny x0 0 ([] : List Int)) (Ro x0 x1c0 0 ([] : List Int)) hC [] ?_
 obtain ⟨w0, hm0, hret0, hnext0⟩ := Ar h
 clear h
 refine wc w0 (Ab9) (Adx x0 x1c0) ?_ λ z0 hs0 => ?_
 ·refine wb ?_
  refine Bn 13 rfl λ hl0 => ?_
  refine wl (Ny x0) (Ro x0 x1c0) hm0 (λ z0 hn0 => ?_) λ n0 a0 z0 w0b hi0 hx0 h hb0 hr0 => ?_
  ·clear hm0
   exact wx w0 (Ab9) (Adx x0 x1c0) Hw 26 [false] [] [] 7 Ij _ hC [pq (Be hl0)] hn0
  ·unfold Vf at h
   obtain ⟨y1, h2, h⟩ := Ax h
   refine wn Hw 32 [true] [pt hx0 hl0, pr pB h2, pn pB h2, ⟨.when [(y1, true)] (.callB 235 [.agg (O9 a0), .d (.ip [.v (.int .i64 x1c0)])] (dB (U4 a0 x1c0)) [[]] 0 []), λ hg => Ja ⟨A55, (A38 a0 x1c0 _ rfl)⟩⟩] [] 7 Ij [0, 1, 4, 5, 13, 14, 15, 32] hC [pq (A9 hi0 hl0)] ?_
   rcases cB h with ⟨h3, h⟩ | ⟨h3, h⟩
   ·obtain ⟨y4, h5, h⟩ := Ax h
    exact wx w0b (Ny x0 (n0 + 1)) (Ro x0 x1c0 (n0 + 1)) Hw 25 [true] [pa pI 1 h5] [] 7 [0, 1, 2, 3, 4, 5, 6, 13, 8, 9, 10, 11, 12] _ hC [pq h3] (sI h).symm
   ·exact wx w0b (Ny x0 (n0 + 1)) (Ro x0 x1c0 (n0 + 1)) Hw 25 [false] [] [] 7 Ij _ hC [pq h3] (sI h).symm
 ·have h := hnext0 _ hs0
  refine ws Hw 23 [] [pl pI z0] [] 7 Ij (Ss z0 0 (zt x0.Ak (zu x0.Aw x0.acts))) (Ze x1c0 z0 0 (zt x0.Ak (zu x0.Aw x0.acts))) hC [] ?_
  obtain ⟨w1, hm1, hret1, hnext1⟩ := Ar h
  clear h
  refine wc w1 (Ab8) (Adw x1c0) ?_ λ z1 hs1 => ?_
  ·refine wb ?_
   refine Co 38 7 rfl rfl λ hl1 => ?_
   refine wl (Ss z0) (Ze x1c0 z0) hm1 (λ z1 hn1 => ?_) λ n1 a1 z1 w1b hi1 hx1 h hb1 hr1 => ?_
   ·clear hm1
    exact wx w1 (Ab8) (Adw x1c0) Hw 26 [false] [] [] 7 [0, 1, 2, 3, 4, 5, 6, 8, 9, 10, 11, 12] _ hC [pq (Be hl1)] hn1
   ·unfold Ael at h
    obtain ⟨y6, h7, h⟩ := Ax h
    exact wx w1b (Ss z0 (n1 + 1)) (Ze x1c0 z0 (n1 + 1)) Hw 33 [true] [pr pI (Bp hx1 hl1), pn pI (Bp hx1 hl1), pc Aij (Ahq (⟨(⟨z1.1, z1.2.1, z1.2.2.1, (g3_ z1), (g4_ z1), (g5_ z1)⟩ : Aa), (⟨(g6_ z1), (g7_ z1), (g8_ z1), (g9_ z1)⟩ : Ab), (Fx z1)⟩ : Ay) a1 _ h7) [0, 8, 9, 10, 11, 12]] [] 7 [0, 1, 2, 3, 4, 5, 6, 7, 8, 9, 10, 11, 13] _ hC [pq (A9 hi1 hl1)] (sI h).symm
  ·have h := hnext1 _ hs1
   replace h := sI h
   subst h
   exact wf Hw 20 [] [] [] 7 Ft hC []
theorem A6l : EN 204 := en Tryz.func204
theorem A5i (x0 : Int) (x1 : Int) (r : Int × Int) (h : J2 x0 x1 = r) : CO 140 [.d (.p (.v (.int .u64 x0))), .d (.p (.v (.int .u64 x1)))] [] (.tup [.d (.p (.v (.int .u64 r.1))), .d (.p (.v (.int .u64 r.2)))]) [] := by
 unfold J2 at h
 refine co 30 Tryz.func140 λ C hC => ?_
 subst h
 exact wr [0, 1, 4, 5, 6, 7, 8, 9] 30 [false] [pc Ba8 (A_r x0 x1 _ rfl) []] [] 0 [] hC [⟨(false, false), rfl⟩]
theorem A7f : EN 140 := en Tryz.func140
def Mi : List Nat := [0, 1, 4, 5, 7, 8, 9, 16]
def Sq (x0 : List Aj) (n0 : Nat) (z0 : Unit) : St := [(0, .d (DS Bi x0)), (1, .d (.fn (.func 219) [] [.o 0 0])), (4, dI 0), (7, dI (ln x0)), (8, dI (cnt 0 n0))]
def Zc (x1c0 : Int) (n0 : Nat) (z0 : Unit) : List Res := [.box 3 [I x1c0]]
def Ab3  (z0 : Unit) : St := [(4, dI 0)]
def Adr (x1c0 : Int) (z0 : Unit) : List Res := [.box 3 [I x1c0]]
theorem A4g (x0 : List Aj) (x1c0 : Int) (r : Int × Int) (h : vQ x0 x1c0 = some r) : CO 218 [.d (DS Bi x0), .d (.fn (.func 219) [] [.o 0 0])] [.box 3 [I x1c0]] (.d (I r.1)) [.box 3 [I r.2]] := by
 unfold vQ at h
 refine co 19 Tryz.func218 λ C hC => ?_
 refine ws Mi 26 [] [pl Bi x0] [] 1 [0] (Sq x0 0 ()) (Zc x1c0 0 ()) hC [] ?_
 obtain ⟨w0, hm0, hret0, hnext0⟩ := Ar h
 clear h
 refine wc w0 (Ab3) (Adr x1c0) ?_ λ z0 hs0 => ?_
 ·refine wb ?_
  refine Bn 0 rfl λ hl0 => ?_
  refine wl (Sq x0) (Zc x1c0) hm0 (λ z0 hn0 => ?_) λ n0 a0 z0 w0b hi0 hx0 h hb0 hr0 => ?_
  ·clear hm0
   exact wx w0 (Ab3) (Adr x1c0) Mi 26 [false] [] [] 1 [0] _ hC [pq (Be hl0)] hn0
  ·unfold Om at h
   refine wn Mi 32 [true] [pt hx0 hl0, pb A6c (A4f a0 x1c0 _ rfl)] [] 1 [0] [0, 1, 4, 5, 7, 8, 16] hC [pq (A9 hi0 hl0)] ?_
   rcases cB h with ⟨h1, h⟩ | ⟨h1, h⟩
   ·have hq := hret0 _ (hr0 _ (sI h).symm)
    replace hq := sI hq
    subst hq
    exact wr Mi 24 [true] [] [] 1 [0] hC [pq h1]
   ·exact wx w0b (Sq x0 (n0 + 1)) (Zc x1c0 (n0 + 1)) Mi 25 [false] [] [] 1 [0] _ hC [pq h1] (sI h).symm
 ·have h := hnext0 _ hs0
  replace h := sI h
  subst h
  exact wr Mi 23 [] [] [] 1 [0] hC []
theorem A6d : EN 218 := en Tryz.func218
def M5 : List Nat := [0, 1, 2, 3, 4, 5, 6, 38, 41, 42, 43, 55, 59, 60, 61, 73]
def Agg (x0 : Ab) (z0 : Int) : St := [(2, dO 0 0), (3, dO 1 0), (4, dB false), (41, dI (ln x0.Ac)), (42, dI z0)]
def Asj (x0 : Ab) (x1 : Ab) (z0 : Int) : List Res := [.box 36 (d36 x0), .box 36 (d36 x1)]
def Auk  (z0 : Int) : St := [(2, dO 0 0), (3, dO 1 0), (4, dB false)]
def Axu (x0 : Ab) (x1 : Ab) (z0 : Int) : List Res := [.box 36 (d36 x0), .box 36 (d36 x1)]
def Agf (x0 : Ab) (z1 : Int) : St := [(2, dO 0 0), (3, dO 1 0), (4, dB false), (59, dI (ln x0.Ao)), (60, dI z1)]
def Asi (x0 : Ab) (x1 : Ab) (z1 : Int) : List Res := [.box 36 (d36 x0), .box 36 (d36 x1)]
def Auj  (z1 : Int) : St := [(4, dB false)]
def Axt  (z1 : Int) : List Res := []
theorem k19 (x0 : Ab) (x1 : Ab) (r : Bool) (h : F19 x0 x1 = some r) : CO 19 [.agg (d36 x0), .agg (d36 x1)] [] (.d (Bo r)) [] := by
 unfold F19 at h
 refine co 75 Tryz.func19 λ C hC => ?_
 obtain ⟨y1, h2, y3, h4, h⟩ := Bc h
 refine wn M5 26 [] [pc e37 (k37 x0.Ag x1.Ag _ h2) [], pw e38 (λ hg => k38 x0.Aq x1.Aq _ (Bb h4 hg)) [], pL_ [(((!y1) || (!y3)), false)] A_ x0.Ac, pL_ [(((!y1) || (!y3)), false)] A_ x1.Ac, pL_ [((((!y1) || (!y3)) || ((ln x0.Ac) != (ln x1.Ac))), false)] q86 x0.Ao, pL_ [((((!y1) || (!y3)) || ((ln x0.Ac) != (ln x1.Ac))), false)] q86 x1.Ao] [] 0 [0, 1] [2, 3, 4, 38] hC [] ?_
 rcases cB h with ⟨h5, h⟩ | ⟨h5, h⟩
 ·replace h := sI h
  subst h
  exact wr M5 24 [true] [] [] 0 [] hC [pq h5]
 ·refine ws M5 26 [false] [pl A_ x0.Ac] [] 0 [0, 1] (Agg x0 0) (Asj x0 x1 0) hC [pq h5] ?_
  obtain ⟨w0, hm0, hret0, hnext0⟩ := Ar h
  clear h
  refine wc w0 (Auk) (Axu x0 x1) ?_ λ z0 hs0 => ?_
  ·refine wb ?_
   refine ww (Agg x0) (Asj x0 x1) hm0 λ z0 w0b h hb0 hr0 => ?_
   unfold Alh at h
   rcases cB h with ⟨h6, h⟩ | ⟨h6, h⟩
   ·obtain ⟨y7, h8, y9, h10, h⟩ := Bc h
    rcases cB h with ⟨h11, h⟩ | ⟨h11, h⟩
    ·have hq := hret0 _ (hr0 _ (sI h).symm)
     replace hq := sI hq
     subst hq
     exact wr M5 35 [true, true] [pr A_ h8, pr A_ h10] [] 0 [] hC [pq h6, pq h11]
    ·exact wx w0b (Agg x0) (Asj x0 x1) M5 36 [true, false] [pr A_ h8, pr A_ h10] [] 0 [0, 1] _ hC [pq h6, pq h11] (sI h).symm
   ·exact wx w0 (Auk) (Axu x0 x1) M5 26 [false] [] [] 0 [0, 1] z0 hC [pq h6] (hb0 _ (sI h).symm)
  ·have h := hnext0 _ hs0
   refine ws M5 24 [] [pl q86 x0.Ao] [] 0 [0, 1] (Agf x0 0) (Asi x0 x1 0) hC [] ?_
   obtain ⟨w1, hm1, hret1, hnext1⟩ := Ar h
   clear h
   refine wc w1 (Auj) (Axt) ?_ λ z1 hs1 => ?_
   ·refine wb ?_
    refine ww (Agf x0) (Asi x0 x1) hm1 λ z1 w1b h hb1 hr1 => ?_
    unfold Alg at h
    rcases cB h with ⟨h12, h⟩ | ⟨h12, h⟩
    ·obtain ⟨y13, h14, y15, h16, h⟩ := Bc h
     rcases cB h with ⟨h17, h⟩ | ⟨h17, h⟩
     ·have hq := hret1 _ (hr1 _ (sI h).symm)
      replace hq := sI hq
      subst hq
      exact wr M5 35 [true, true] [pr q86 h14, pr q86 h16] [] 0 [] hC [pq h12, pq h17]
     ·exact wx w1b (Agf x0) (Asi x0 x1) M5 36 [true, false] [pr q86 h14, pr q86 h16] [] 0 [0, 1] _ hC [pq h12, pq h17] (sI h).symm
    ·exact wx w1 (Auj) (Axt) M5 26 [false] [] [] 0 [] z1 hC [pq h12] (hb1 _ (sI h).symm)
   ·have h := hnext1 _ hs1
    replace h := sI h
    subst h
    exact wr M5 23 [] [] [] 0 [] hC []
theorem e19 : EN 19 := en Tryz.func19
theorem Bal (x0 : Int) (x1 : Int) (r : Int) (h : jC x0 x1 = r) : CO 115 [.d (I x0), .d (I x1)] [] (.d (I r)) [] := by
 unfold jC at h
 refine co 17 Tryz.func115 λ C hC => ?_
 refine wn [0, 1, 4, 5, 13] 28 [] [pc Azv (Azc x1 _ rfl) [], pc Azv (Azc x0 _ rfl) [], pc Azv (Azc (w64 ((I4 x1) - (I4 x0))) _ rfl) []] [] 0 [] [4, 5, 13] hC [] ?_
 rcases cB h with ⟨h1, h⟩ | ⟨h1, h⟩
 ·subst h
  exact wr [0, 1, 4, 5, 13] 25 [true] [] [] 0 [] hC [pq h1]
 ·subst h
  exact wr [0, 1, 4, 5, 13] 25 [false] [] [] 0 [] hC [pq h1]
theorem Bb2 : EN 115 := en Tryz.func115
theorem A_q (x0 : Df) (r : Int) (h : Asy x0 = r) : CO 198 [.agg (Ark x0)] [] (.d (I r)) [] := by
 unfold Asy at h
 refine co 9 Tryz.func198 λ C hC => ?_
 subst h
 exact wr n3_ 25 [] [pc Aik (Ahr (w64 (x0.To - x0.From)) _ rfl) []] [] 0 [] hC []
theorem Ba7 : EN 198 := en Tryz.func198
def Tu : List Nat := [0, 1, 4, 5, 7, 8, 9, 16]
def Af7 (x0 : List A3) (n0 : Nat) (z0 : Unit) : St := [(0, .d (DS q65 x0)), (1, .d (.fn (.func 45) [] [.o 0 0])), (4, dI 0), (7, dI (ln x0)), (8, dI (cnt 0 n0))]
def Apt (x1c0 : Int) (n0 : Nat) (z0 : Unit) : List Res := [.box 3 [I x1c0]]
def Agt  (z0 : Unit) : St := [(4, dI 0)]
def Ajk (x1c0 : Int) (z0 : Unit) : List Res := [.box 3 [I x1c0]]
theorem A80 (x0 : List A3) (x1c0 : Int) (r : Int × Int) (h : Asv x0 x1c0 = some r) : CO 44 [.d (DS q65 x0), .d (.fn (.func 45) [] [.o 0 0])] [.box 3 [I x1c0]] (.d (I r.1)) [.box 3 [I r.2]] := by
 unfold Asv at h
 refine co 19 Tryz.func44 λ C hC => ?_
 refine ws Tu 26 [] [pl q65 x0] [] 1 [0] (Af7 x0 0 ()) (Apt x1c0 0 ()) hC [] ?_
 obtain ⟨w0, hm0, hret0, hnext0⟩ := Ar h
 clear h
 refine wc w0 (Agt) (Ajk x1c0) ?_ λ z0 hs0 => ?_
 ·refine wb ?_
  refine Bn 0 rfl λ hl0 => ?_
  refine wl (Af7 x0) (Apt x1c0) hm0 (λ z0 hn0 => ?_) λ n0 a0 z0 w0b hi0 hx0 h hb0 hr0 => ?_
  ·clear hm0
   exact wx w0 (Agt) (Ajk x1c0) Tu 26 [false] [] [] 1 [0] _ hC [pq (Be hl0)] hn0
  ·unfold Ak0 at h
   refine wn Tu 32 [true] [pt hx0 hl0, pb A9j (A8z a0 x1c0 _ rfl)] [] 1 [0] [0, 1, 4, 5, 7, 8, 16] hC [pq (A9 hi0 hl0)] ?_
   rcases cB h with ⟨h1, h⟩ | ⟨h1, h⟩
   ·have hq := hret0 _ (hr0 _ (sI h).symm)
    replace hq := sI hq
    subst hq
    exact wr Tu 24 [true] [] [] 1 [0] hC [pq h1]
   ·cases h
 ·have h := hnext0 _ hs0
  replace h := sI h
  subst h
  exact wr Tu 23 [] [] [] 1 [0] hC []
theorem A9k : EN 44 := en Tryz.func44
theorem A5q (rec46 : Aa -> Ab -> Int -> Option Bool) (ih46 : ∀ (x0 : Aa) (x1 : Ab) (x2 : Int) (r : Bool), rec46 x0 x1 x2 = some r -> CO 46 [.agg (d29 x0), .agg (d36 x1), .d (I x2)] [] (.d (Bo r)) []) (x0 : Int) (x1 : Aa) (x2 : Ab) (r : Bool) (h : Al0 rec46 x0 x1 x2 = some r) : CO 105 [.d (I x0), .d (.ip [.v (.int .i64 x1.Al), .s (x1.Ad.map Bi), .s (x1.Ac.map Br), .s (x1.Af.map q65), .v (.int .i64 x1.Phase), .v (.int .i64 x1.An)]), .d (.ip [.s (x2.Ag.map pB), .s (x2.Ac.map A_), .s (x2.Aq.map pI), .s (x2.Ao.map q86)])] [] (.d (Bo r)) [] := by
 unfold Al0 at h
 refine co 10 Tryz.func105 λ C hC => ?_
 obtain ⟨y1, h2, h⟩ := Ax h
 replace h := sI h
 subst h
 exact wr [0, 1, 2, 4] 25 [] [pc e46 (ih46 x1 x2 x0 _ h2) []] [] 0 [] hC []
theorem A7n : EN 105 := en Tryz.func105
theorem A_o (x0 : Int) (x1 : Int) (r : Int) (h : A0t x0 x1 = some r) : CO 202 [.d (I x0), .d (I x1)] [] (.d (I r)) [] := by
 unfold A0t at h
 refine co 10 Tryz.func202 λ C hC => ?_
 obtain ⟨y1, h2, h⟩ := Ax h
 replace h := sI h
 subst h
 exact wr [0, 1, 4] 25 [] [pc Ba4 (A_n (w64 (0 - x0)) x1 _ h2) []] [] 0 [] hC []
theorem Ba5 : EN 202 := en Tryz.func202
def Pv : List Nat := [0, 1, 4, 5, 7, 8, 9, 16]
def S4 (x0 : List Ai) (n0 : Nat) (z0 : Unit) : St := [(0, .d (DS q84 x0)), (1, .d (.fn (.func 90) [] [])), (4, dI 0), (7, dI (ln x0)), (8, dI (cnt 0 n0))]
def Zm  (n0 : Nat) (z0 : Unit) : List Res := []
def Acm  (z0 : Unit) : St := [(4, dI 0)]
def Aea  (z0 : Unit) : List Res := []
theorem A5h (x0 : List Ai) (r : Int) (h : Als x0 = some r) : CO 141 [.d (DS q84 x0), .d (.fn (.func 90) [] [])] [] (.d (I r)) [] := by
 unfold Als at h
 refine co 19 Tryz.func141 λ C hC => ?_
 refine ws Pv 26 [] [pl q84 x0] [] 0 [] (S4 x0 0 ()) (Zm 0 ()) hC [] ?_
 obtain ⟨w0, hm0, hret0, hnext0⟩ := Ar h
 clear h
 refine wc w0 (Acm) (Aea) ?_ λ z0 hs0 => ?_
 ·refine wb ?_
  refine Bn 0 rfl λ hl0 => ?_
  refine wl (S4 x0) (Zm) hm0 (λ z0 hn0 => ?_) λ n0 a0 z0 w0b hi0 hx0 h hb0 hr0 => ?_
  ·clear hm0
   exact wx w0 (Acm) (Aea) Pv 26 [false] [] [] 0 [] _ hC [pq (Be hl0)] hn0
  ·unfold Aer at h
   rcases cB h with ⟨h1, h⟩ | ⟨h1, h⟩
   ·have hq := hret0 _ (hr0 _ (sI h).symm)
    replace hq := sI hq
    subst hq
    exact wr Pv 35 [true, true] [pt hx0 hl0, pc e90 (k90 a0 _ rfl) []] [] 0 [] hC [pq (A9 hi0 hl0), pq h1]
   ·exact wx w0b (S4 x0 (n0 + 1)) (Zm (n0 + 1)) Pv 36 [true, false] [pt hx0 hl0, pc e90 (k90 a0 _ rfl) []] [] 0 [] _ hC [pq (A9 hi0 hl0), pq h1] (sI h).symm
 ·have h := hnext0 _ hs0
  replace h := sI h
  subst h
  exact wr Pv 23 [] [] [] 0 [] hC []
theorem A7e : EN 141 := en Tryz.func141
theorem k78 (x0 : Ah) (x1 : Int) (x2 : Int) (r : Int × Ah) (h : F78 x0 x1 x2 = some r) : CO 78 [.d (.o 0 0), .d (I x1), .d (I x2)] [.box 90 (d90 x0)] (.d (I r.1)) [.box 90 (d90 r.2)] := by
 unfold F78 at h
 refine co 15 Tryz.func78 λ C hC => ?_
 obtain ⟨y1, h2, h⟩ := Ax h
 replace h := sI h
 subst h
 exact wr [0, 1, 2, 6] 25 [] [pc e32 (k32 x0 (w64 ((w64 (x2 - x1)) + 1)) _ h2) [0]] [] 1 [0] hC []
theorem e78 : EN 78 := en Tryz.func78
theorem k40 (x0 : Ah) (x1 : List Int) (r : Int × Ah) (h : F40 x0 x1 = some r) : CO 40 [.d (.o 0 0), .d (DS pI x1)] [.box 90 (d90 x0)] (.d (I r.1)) [.box 90 (d90 r.2)] := by
 unfold F40 at h
 refine co 12 Tryz.func40 λ C hC => ?_
 obtain ⟨y1, h2, y3, h4, h⟩ := Bc h
 replace h := sI h
 subst h
 exact wr [0, 1, 4] 25 [] [pl pI x1, pc e32 (k32 x0 (ln x1) _ h2) [0], pr pI h4] [] 1 [0] hC []
theorem e40 : EN 40 := en Tryz.func40
theorem A5p (x0 : Aa) (r : Int) (h : Aly x0 = some r) : CO 111 [.agg (d29 x0)] [] (.d (I r)) [] := by
 unfold Aly at h
 refine co 62 Tryz.func111 λ C hC => ?_
 refine wn [0, 1, 2, 28, 61] 26 [] [pL_ [(((decide (x0.Al < 1)) || (decide (x0.Al > 6))), false)] Bi x0.Ad, pL_ [((((decide (x0.Al < 1)) || (decide (x0.Al > 6))) || (decide ((ln x0.Ad) > 24))), false)] Br x0.Ac, pL_ [(((((decide (x0.Al < 1)) || (decide (x0.Al > 6))) || (decide ((ln x0.Ad) > 24))) || (decide ((ln x0.Ac) > 8))), false)] q65 x0.Af] [] 0 [0] [1, 2, 28] hC [] ?_
 rcases cB h with ⟨h1, h⟩ | ⟨h1, h⟩
 ·replace h := sI h
  subst h
  exact wr [0, 1, 2, 28, 61] 24 [true] [] [] 0 [] hC [pq h1]
 ·obtain ⟨y2, h3, y4, h5, y6, h7, h⟩ := B0 h
  refine wn [0, 1, 2, 28, 61] 26 [false] [pc Bbk (A_3 x0 _ h3) [], pw Bbj (λ hg => A_2 x0 _ (Bb h5 hg)) [], pw Bbi (λ hg => A_1 x0 _ (Bb h7 hg)) []] [] 0 [] [2, 61] hC [pq h1] ?_
  rcases cB h with ⟨h8, h⟩ | ⟨h8, h⟩
  ·replace h := sI h
   subst h
   exact wr [0, 1, 2, 28, 61] 24 [true] [] [] 0 [] hC [pq h8]
  ·replace h := sI h
   subst h
   exact wr [0, 1, 2, 28, 61] 25 [false] [] [] 0 [] hC [pq h8]
theorem A7m : EN 111 := en Tryz.func111
theorem A4w (x0 : List (List Int)) (r : Bool) (h : Vm x0 = some r) : CO 191 [.d (DS (pL pI) x0), .d (.fn (.func 192) [] [])] [] (.d (Bo r)) [] := by
 unfold Vm at h
 refine co 9 Tryz.func191 λ C hC => ?_
 obtain ⟨y1, h2, h⟩ := Ax h
 replace h := sI h
 subst h
 exact wr [0, 1, 4] 25 [] [pc A58 (A4b x0 _ h2) []] [] 0 [] hC []
theorem A6t : EN 191 := en Tryz.func191
def zQ : List Nat := [0, 1, 2, 4, 5, 6, 7, 8, 9, 10, 49]
def Afw (x1 : List Am) (n0 : Nat) (z0 : Unit) : St := [(1, .d (DS q86 x1)), (2, dO 0 0), (4, dB false), (7, .d (DS q86 x1)), (8, dI (ln x1)), (9, dI (cnt 0 n0))]
def Ar0 (x0 : Aa) (n0 : Nat) (z0 : Unit) : List Res := [.box 29 (d29 x0)]
def Ato (x1 : List Am) (z0 : Unit) : St := [(1, .d (DS q86 x1)), (4, dB false)]
def Awy  (z0 : Unit) : List Res := []
theorem k95 (x0 : Aa) (x1 : List Am) (r : Bool) (h : F95 x0 x1 = some r) : CO 95 [.agg (d29 x0), .d (DS q86 x1)] [] (.d (Bo r)) [] := by
 unfold F95 at h
 refine co 54 Tryz.func95 λ C hC => ?_
 refine ws zQ 26 [] [pl q86 x1] [] 0 [0] (Afw x1 0 ()) (Ar0 x0 0 ()) hC [] ?_
 obtain ⟨w0, hm0, hret0, hnext0⟩ := Ar h
 clear h
 refine wc w0 (Ato x1) (Awy) ?_ λ z0 hs0 => ?_
 ·refine wb ?_
  refine Bn 7 rfl λ hl0 => ?_
  refine wl (Afw x1) (Ar0 x0) hm0 (λ z0 hn0 => ?_) λ n0 a0 z0 w0b hi0 hx0 h hb0 hr0 => ?_
  ·clear hm0
   exact wx w0 (Ato x1) (Awy) zQ 26 [false] [] [] 0 [] _ hC [pq (Be hl0)] hn0
  ·unfold vA at h
   obtain ⟨y1, h2, y3, h4, y5, h6, h⟩ := B0 h
   refine wn zQ 32 [true] [pt hx0 hl0, pc Bbp (A_8 x0 a0.Kind _ rfl) [], pc e99 (k99 a0.Number 0 (w64 ((Lt x0 a0.Kind) - 1)) _ rfl) [], pR q86 h2, ⟨.when [(!(F99 a0.Number 0 (w64 ((Lt x0 a0.Kind) - 1))), false), (decide ((cnt 0 n0) > 0), true)] (.call 154 [dI y1.Kind, dI a0.Kind] [] (dI (Ko y1.Kind a0.Kind)) [] []), λ hg => ⟨Azs, (Ay9 y1.Kind a0.Kind _ rfl)⟩⟩, pR q86 h4, ⟨.when [(!(F99 a0.Number 0 (w64 ((Lt x0 a0.Kind) - 1))), false), (decide ((cnt 0 n0) > 0), true)] (.call 154 [dI y3.Number, dI a0.Number] [] (dI (Ko y3.Number a0.Number)) [] []), λ hg => ⟨Azs, (Ay9 y3.Number a0.Number _ rfl)⟩⟩, pw Bbo (λ hg => A_7 [Ko y1.Kind a0.Kind, Ko y3.Number a0.Number] _ (Bb h6 hg)) []] [] 0 [0] [1, 2, 4, 7, 8, 9, 49] hC [pq (A9 hi0 hl0)] ?_
   rcases cB h with ⟨h7, h⟩ | ⟨h7, h⟩
   ·have hq := hret0 _ (hr0 _ (sI h).symm)
    replace hq := sI hq
    subst hq
    exact wr zQ 24 [true] [] [] 0 [] hC [pq h7]
   ·exact wx w0b (Afw x1 (n0 + 1)) (Ar0 x0 (n0 + 1)) zQ 25 [false] [] [] 0 [0] _ hC [pq h7] (sI h).symm
 ·have h := hnext0 _ hs0
  replace h := sI h
  subst h
  exact wr zQ 23 [] [pl q86 x1] [] 0 [] hC []
theorem e95 : EN 95 := en Tryz.func95
theorem k97 (x0 : Ae) (r : Bool) (h : F97 x0 = r) : CO 97 [.agg (O_ x0)] [] (.d (Bo r)) [] := by
 unfold F97 at h
 refine co 6 Tryz.func97 λ C hC => ?_
 subst h
 exact wr n3_ 25 [] [pc e98 (k98 x0 _ rfl) []] [] 0 [] hC []
theorem e97 : EN 97 := en Tryz.func97
def Ke : List Nat := [0, 1, 4, 5, 6, 7, 12, 19, 29]
def N3  (z0 : Int × Int × (List Ai)) : St := [(0, dS 0), (1, .d (.fn (.func 146) [] [])), (4, .d (DS q84 [])), (5, dI z0.1), (6, dI z0.2.1)]
def Rw  (z0 : Int × Int × (List Ai)) : List Res := [v8_ z0.2.2]
def Acl  (z0 : Int × Int × (List Ai)) : St := [(0, dS 0), (4, .d (DS q84 [])), (5, dI z0.1)]
def Ad9  (z0 : Int × Int × (List Ai)) : List Res := [v8_ z0.2.2]
theorem Au3 (x0 : List Ai) (r : (List Ai)) (h : Qe x0 = some r) : CO 145 [.d (.os 0), .d (.fn (.func 146) [] [])] [.sl 84 3 (x0.map q84)] (.d (.os 1)) [.non, .sl 84 3 (r.map q84)] := by
 unfold Qe at h
 refine co 42 Tryz.func145 λ C hC => ?_
 obtain ⟨y1, h2, h⟩ := Ax h
 rcases cB h with ⟨h3, h⟩ | ⟨h3, h⟩
 ·replace h := sI h
  subst h
  exact wr Ke 31 [true] [pb Avy (Au4 x0 _ h2)] [.mv 0] 1 [0, 1] hC [pq h3]
 ·refine ws Ke 33 [false] [pb Avy (Au4 x0 _ h2)] [] 1 [0] (N3 (y1, w64 (y1 + 1), x0)) (Rw (y1, w64 (y1 + 1), x0)) hC [pq h3] ?_
  obtain ⟨w0, hm0, hret0, hnext0⟩ := Ar h
  clear h
  refine wc w0 (Acl) (Ad9) ?_ λ z0 hs0 => ?_
  ·refine wb ?_
   refine ww (N3) (Rw) hm0 λ z0 w0b h hb0 hr0 => ?_
   unfold Vr at h
   rcases cB h with ⟨h4, h⟩ | ⟨h4, h⟩
   ·obtain ⟨y5, h6, h⟩ := Ax h
    refine wn Ke 32 [true] [pl q84 z0.2.2, pr q84 h6, pn q84 h6, pc A7c (A5f y5 _ rfl) []] [] 1 [0, 1] [0, 1, 4, 5, 6, 7, 29] hC [pq h4] ?_
    rcases cB h with ⟨h7, h⟩ | ⟨h7, h⟩
    ·obtain ⟨y8, h9, y10, h11, h⟩ := Bc h
     exact wx w0b (N3) (Rw) Ke 27 [true] [pr q84 h9, pu q84 h9 h11] [] 1 [0] _ hC [pq h7] (sI h).symm
    ·exact wx w0b (N3) (Rw) Ke 25 [false] [] [] 1 [0] _ hC [pq h7] (sI h).symm
   ·exact wx w0 (Acl) (Ad9) Ke 26 [false] [pl q84 z0.2.2] [] 1 [0] (z0.1, z0.2.1, z0.2.2) hC [pq h4] (hb0 _ (sI h).symm)
  ·have h := hnext0 _ hs0
   obtain ⟨u13, h12, u15, h14, h⟩ := Bc h
   replace h := sI h
   subst h
   (rw [List.map_take]; exact uS (bs := []) Hv Ke 25 [] [.bnd (z0.2.2.map q84).length z0.1 (((z0.2.2.map q84).length : Nat) : Int) (ln z0.2.2), .eqr ((z0.2.2.map q84).take (Int.toNat z0.1) ++ (List.replicate ((Int.toNat (ln z0.2.2)) - (Int.toNat z0.1)) (q84 (⟨([] : List Int), ([] : List Int), ([] : List Int)⟩ : Ai)) ++ (z0.2.2.map q84).drop ((Int.toNat z0.1) + ((Int.toNat (ln z0.2.2)) - (Int.toNat z0.1))))) ((Gn z0.2.2 (Int.toNat z0.1) ((Int.toNat (ln z0.2.2)) - (Int.toNat z0.1)) (⟨([] : List Int), ([] : List Int), ([] : List Int)⟩ : Ai)).map q84), .bnd ((Gn z0.2.2 (Int.toNat z0.1) ((Int.toNat (ln z0.2.2)) - (Int.toNat z0.1)) (⟨([] : List Int), ([] : List Int), ([] : List Int)⟩ : Ai)).map q84).length 0 z0.1 z0.1] [.trunc 4] [.tmp 4] 1 [0, 1] rfl hC ⟨Ei (by simp) (by simp) h12, Aai q84 rfl, Ei (by simp) rfl h14, trivial⟩ trivial (by kernel_rfl))
theorem Avx : EN 145 := en Tryz.func145
def Ms : List Nat := [0, 1, 4, 5, 7, 8, 9, 16]
def S_ (x0 : List A0) (n0 : Nat) (z0 : Sg0) : St := [(0, .d (DS B2 x0)), (1, .d (.fn (.func 62) [] [.o 0 0])), (4, dI 0), (7, dI (ln x0)), (8, dI (cnt 0 n0))]
def Zs  (n0 : Nat) (z0 : Sg0) : List Res := [.box 126 [.fn (.func 58) [] [.o 1 0]], .box 40 [I z0.1, DS pB z0.2.1, DS A_ z0.2.2.1, DS pI (g3_ z0), DS q86 (g4_ z0), DS B2 (g5_ z0), DS q51 (Azk z0)]]
def Acv  (z0 : Sg0) : St := [(4, dI 0)]
def Aei  (z0 : Sg0) : List Res := [.box 126 [.fn (.func 58) [] [.o 1 0]], .box 40 [I z0.1, DS pB z0.2.1, DS A_ z0.2.2.1, DS pI (g3_ z0), DS q86 (g4_ z0), DS B2 (g5_ z0), DS q51 (Azk z0)]]
theorem A5o (x0 : List A0) (x1c0c0 : Az) (r : Int × Az) (h : vX x0 x1c0c0 = some r) : CO 122 [.d (DS B2 x0), .d (.fn (.func 62) [] [.o 0 0])] [.box 126 [.fn (.func 58) [] [.o 1 0]], .box 40 (d40 x1c0c0)] (.d (I r.1)) [.box 126 [.fn (.func 58) [] [.o 1 0]], .box 40 (d40 r.2)] := by
 unfold vX at h
 refine co 19 Tryz.func122 λ C hC => ?_
 refine ws Ms 26 [] [pl B2 x0] [] 2 [0, 1] (S_ x0 0 (x1c0c0.Time, zu x1c0c0.Power (x1c0c0.A5, x1c0c0.A6))) (Zs 0 (x1c0c0.Time, zu x1c0c0.Power (x1c0c0.A5, x1c0c0.A6))) hC [] ?_
 obtain ⟨w0, hm0, hret0, hnext0⟩ := Ar h
 clear h
 refine wc w0 (Acv) (Aei) ?_ λ z0 hs0 => ?_
 ·refine wb ?_
  refine Bn 0 rfl λ hl0 => ?_
  refine wl (S_ x0) (Zs) hm0 (λ z0 hn0 => ?_) λ n0 a0 z0 w0b hi0 hx0 h hb0 hr0 => ?_
  ·clear hm0
   exact wx w0 (Acv) (Aei) Ms 26 [false] [] [] 2 [0, 1] _ hC [pq (Be hl0)] hn0
  ·unfold Vw at h
   refine wn Ms 32 [true] [pt hx0 hl0, pc A9h (A8x a0 (⟨z0.1, (⟨z0.2.1, z0.2.2.1, (g3_ z0), (g4_ z0)⟩ : Ab), (g5_ z0), (Azk z0)⟩ : Az) _ rfl) [0, 1]] [] 2 [0, 1] [0, 1, 4, 5, 7, 8, 16] hC [pq (A9 hi0 hl0)] ?_
   rcases cB h with ⟨h1, h⟩ | ⟨h1, h⟩
   ·have hq := hret0 _ (hr0 _ (sI h).symm)
    replace hq := sI hq
    subst hq
    exact wr Ms 24 [true] [] [] 2 [0, 1] hC [pq h1]
   ·exact wx w0b (S_ x0 (n0 + 1)) (Zs (n0 + 1)) Ms 25 [false] [] [] 2 [0, 1] _ hC [pq h1] (sI h).symm
 ·have h := hnext0 _ hs0
  replace h := sI h
  subst h
  exact wr Ms 23 [] [] [] 2 [0, 1] hC []
theorem A7l : EN 122 := en Tryz.func122
theorem k63 (x0 : Aa) (x1 : Az) (r : A1) (h : F63 x0 x1 = some r) : CO 63 [.agg (d29 x0), .agg (d40 x1)] [] (.d (.o 0 0)) (.box 100 (I r.Av.Time :: .os 1 :: .os 2 :: .os 3 :: .os 4 :: .os 5 :: .os 6 :: zb r.Ak [.os 7, .os 8]) :: zp r.Av.Power [v3_ r.Av.A5, v1_ r.Av.A6, v1_ r.events, v7_ r.states]) := by
 unfold F63 at h
 refine co 21 Tryz.func63 λ C hC => ?_
 obtain ⟨y1, h2, y3, h4, y5, h6, h⟩ := B0 h
 replace h := sI h
 subst h
 exact wr n5_ 27 [] [pc Lp (Ll x1.Power _ h2) [], pc A7k (A5n x1.A5 _ h4) [], pc e84 (k84 x1.A6 _ h6) []] [.ownb 8 13 51 5, .ownb 8 14 36 4] 0 [8, 2, 3, 4, 5, 6, 7, 9, 10] hC []
theorem e63 : EN 63 := en Tryz.func63
theorem A8u (x0 : A1) (x1 : Ab) (r : A1) (h : vB x0 x1 = some r) : CO 81 [.d (.o 0 0), .agg (d36 x1)] (.box 100 (I x0.Av.Time :: .os 1 :: .os 2 :: .os 3 :: .os 4 :: .os 5 :: .os 6 :: zb x0.Ak [.os 7, .os 8]) :: zp x0.Av.Power [v3_ x0.Av.A5, v1_ x0.Av.A6, v1_ x0.events, v7_ x0.states]) (.tup []) (.box 100 (I r.Av.Time :: .os 1 :: .os 2 :: .os 3 :: .os 4 :: .os 5 :: .os 6 :: zb r.Ak [.os 7, .os 9]) :: zp r.Av.Power [v3_ r.Av.A5, v1_ r.Av.A6, v1_ r.events, .non, v7_ r.states]) := by
 unfold vB at h
 refine co 15 Tryz.func81 λ C hC => ?_
 obtain ⟨y3, h4, y5, h6, h⟩ := Bc h
 replace h := sI h
 subst h
 exact wf [0, 1, 3] 23 [] [⟨.call 116 [.agg (d36 x1)] [] (.agg (d36 y3)) [.non, .non, .non, .non] [], ⟨Lp, (CallOk.frzAll n4_ (show CO 116 [.agg (d36 x1)] [] (.agg [.os 0, .os 1, .os 2, .os 3]) (zp y3 []) from (Ll x1 _ h4)) (by kernel_rfl))⟩⟩, pa q36 4 h6] [] 9 [0, 1, 2, 3, 4, 5, 6, 7, 8, 14] hC []
theorem A9e : EN 81 := en Tryz.func81
theorem Kf (x0 : Ab) (x1 : Int) (x2 : Int) (r : Bool) (h : Hs x0 x1 x2 = some r) : CO 103 [.agg (d36 x0), .d (I x1), .d (I x2)] [] (.d (Bo r)) [] := by
 unfold Hs at h
 refine co 13 Tryz.func103 λ C hC => ?_
 obtain ⟨y1, h2, h⟩ := Ax h
 replace h := sI h
 subst h
 exact wr [0, 1, 2, 3, 6] 25 [] [pc Bbn (A_6 x0.Ao (⟨x1, x2⟩ : Am) _ h2) []] [] 0 [] hC []
theorem Kj : EN 103 := en Tryz.func103
theorem A36 (x0 : Aa) (x1 : Ae) (x2 : Ae) (r : Bool) (h : R7 x0 x1 x2 = r) : CO 243 [.agg (d29 x0), .agg (O_ x1), .agg (O_ x2)] [] (.d (Bo r)) [] := by
 unfold R7 at h
 refine co 52 Tryz.func243 λ C hC => ?_
 rcases cB h with ⟨h1, h⟩ | ⟨h1, h⟩
 ·subst h
  exact wr [0, 1, 2, 3, 4, 5, 6, 7, 8, 22] 29 [true] [] [] 0 [] hC [pq h1]
 ·subst h
  exact wr [0, 1, 2, 3, 4, 5, 6, 7, 8, 22] 34 [false] [pc Bau (A_d x1.Phase x2.Phase _ rfl) []] [] 0 [] hC [pq h1]
theorem A53 : EN 243 := en Tryz.func243
theorem A_e (x0 : Aa) (x1 : Int) (r : Int) (h : Ala x0 x1 = some r) : CO 239 [.agg (d29 x0), .d (I x1)] [] (.d (I r)) [] := by
 unfold Ala at h
 refine co 9 Tryz.func239 λ C hC => ?_
 obtain ⟨y1, h2, h⟩ := Ax h
 replace h := sI h
 subst h
 exact wr n5_ 25 [] [pc A6e (A4h x0.Ad x1 _ h2) [1]] [] 0 [] hC []
theorem Bav : EN 239 := en Tryz.func239
def G3 : List Nat := [0, 1, 2, 4, 6, 7, 8, 32, 36, 47, 64, 74]
def Td (x2 : Bool) (z0 : (List Am)) : St := [(0, dO 0 0), (2, dB x2), (4, dO 5 0), (6, dI 0)]
def Uv (x0 : A2) (x1 : Am) (z0 : (List Am)) : List Res := [.box 186 (zb x0.Ak [.os 6, .os 7, .os 8, .os 9, I x0.time]), .non, .non, .non, .non, .box 86 (d86 x1), v2_ x0.Aw.Ag, v5_ x0.Aw.Ac, v0_ x0.Aw.Aq, v4_ z0]
theorem A4x (x0 : A2) (x1 : Am) (x2 : Bool) (r : Int × A2) (h : Gc x0 x1 x2 = some r) : CO 189 [.d (.o 0 0), .agg (d86 x1), .d (Bo x2)] (.box 186 (zb x0.Ak [.os 1, .os 2, .os 3, .os 4, I x0.time]) :: zp x0.Aw []) (.d (I r.1)) (.box 186 (zb r.2.Ak [.os 5, .os 6, .os 7, .os 8, I r.2.time]) :: .non :: .non :: .non :: .non :: zp r.2.Aw []) := by
 unfold Gc at h
 refine co 84 Tryz.func189 λ C hC => ?_
 obtain ⟨y1, h2, h⟩ := Ax h
 rcases cB h with ⟨h3, h⟩ | ⟨h3, h⟩
 ·replace h := sI h
  subst h
  exact wr G3 32 [true] [pb Avu (Au0 x0.Aw.Ao x1 _ h2)] [.mv 1, .mv 2, .mv 3, .mv 4] 5 [0, 1, 2, 3, 4, 6, 7, 8, 9] hC [pq h3]
 ·refine wn G3 32 [false] [pb Avu (Au0 x0.Aw.Ao x1 _ h2), pL_ [(x2, true)] q86 x0.Aw.Ao] [.mv 1, .mv 2, .mv 3, .mv 4] 5 G7 [0, 2, 4, 6, 7, 36] hC [pq h3] ?_
  rcases cB h with ⟨h4, h⟩ | ⟨h4, h⟩
  ·replace h := sI h
   subst h
   exact wr G3 24 [true] [] [] 5 [0, 1, 2, 3, 4, 6, 7, 8, 9] hC [pq h4]
  ·refine wn G3 24 [false] [] [] 5 G7 [0, 2, 4, 6, 7, 47] hC [pq h4] ?_
   obtain ⟨w0, h, hret0, hnext0⟩ := Ar h
   refine wc w0 (Td x2) (Uv x0 x1) ?_ λ z0 hs0 => ?_
   ·unfold Oq at h
    rcases cB h with ⟨h5, h⟩ | ⟨h5, h⟩
    ·obtain ⟨y6, h7, h⟩ := Ax h
     exact wx w0 (Td x2) (Uv x0 x1) G3 23 [true] [pc A6a (A4d x0.Aw.Ao y1.1 [x1] _ h7) [9]] [] 5 [0, 1, 2, 3, 4, 5, 6, 7, 8, 10] _ hC [pq h5] (sI h).symm
    ·obtain ⟨y8, h9, h⟩ := Ax h
     exact wx w0 (Td x2) (Uv x0 x1) G3 23 [false] [pc A59 (A4c x0.Aw.Ao y1.1 (w64 (y1.1 + 1)) _ h9) [9]] [] 5 [0, 1, 2, 3, 4, 5, 6, 7, 8, 10] _ hC [pq h5] (sI h).symm
   ·clear h; have h := hnext0 _ hs0
    rcases cB h with ⟨h10, h⟩ | ⟨h10, h⟩
    ·obtain ⟨y11, h12, y13, h14, h⟩ := Bc h
     refine wn G3 30 [true] [pr A_ h12, pu A_ h12 h14] [] 5 G7 [0, 4, 6, 74] hC [pq h10] ?_
     rcases cB h with ⟨h15, h⟩ | ⟨h15, h⟩
     ·obtain ⟨y16, h17, y18, h19, h⟩ := Bc h
      replace h := sI h
      subst h
      exact wr G3 25 [true] [pr A_ h17, pu A_ h17 h19] [] 5 [0, 1, 2, 3, 4, 6, 7, 8, 9] hC [pq h15]
     ·replace h := sI h
      subst h
      exact wr G3 25 [false] [] [] 5 [0, 1, 2, 3, 4, 6, 7, 8, 9] hC [pq h15]
    ·replace h := sI h
     subst h
     exact wr G3 29 [false] [] [] 5 [0, 1, 2, 3, 4, 6, 7, 8, 9] hC [pq h10]
theorem A6u : EN 189 := en Tryz.func189
theorem qN (x0 : A1) (x1 : Ab) (r : A1) (h : Md x0 x1 = some r) : CO 81 [.d (.o 0 0), .agg [.os 9, .os 10, .os 11, .os 12]] (.box 100 (I x0.Av.Time :: .os 1 :: .os 2 :: .os 3 :: .os 4 :: .os 5 :: .os 6 :: zb x0.Ak [.os 7, .os 8]) :: zp x0.Av.Power (v3_ x0.Av.A5 :: v1_ x0.Av.A6 :: v1_ x0.events :: v7_ x0.states :: zp x1 [])) (.tup []) (.box 100 (I r.Av.Time :: .os 1 :: .os 2 :: .os 3 :: .os 4 :: .os 5 :: .os 6 :: zb r.Ak [.os 7, .os 13]) :: zp r.Av.Power (v3_ r.Av.A5 :: v1_ r.Av.A6 :: v1_ r.events :: .non :: zp x1 [v7_ r.states])) := by
 unfold Md at h
 refine co 15 Tryz.func81 λ C hC => ?_
 obtain ⟨y3, h4, y5, h6, h⟩ := Bc h
 replace h := sI h
 subst h
 exact wf [0, 1, 3] 23 [] [⟨.call 116 [.agg [.os 0, .os 1, .os 2, .os 3]] (zp x1 []) (.agg (d36 y3)) (zp x1 [.non, .non, .non, .non]) [9, 10, 11, 12], ⟨Lp, (CallOk.frzAll [4, 5, 6, 7] (show CO 116 [.agg [.os 0, .os 1, .os 2, .os 3]] (zp x1 []) (.agg [.os 4, .os 5, .os 6, .os 7]) (zp x1 (zp y3 [])) from ((Ll x1 _ h4).lend (by kernel_rfl) (by kernel_rfl) (by kernel_rfl) ⟨Ba (λ _ => rfl), Ba (λ _ => rfl), Ba (λ _ => rfl), Ba (λ _ => rfl), trivial⟩ (by kernel_rfl) (by kernel_rfl))) (by kernel_rfl))⟩⟩, pa q36 4 h6] [] 13 [0, 1, 2, 3, 4, 5, 6, 7, 8, 9, 10, 11, 12, 18] hC []
theorem qZ : EN 81 := en Tryz.func81
end Go.Proofs.YthgnbpdjncbkfaaGreat
