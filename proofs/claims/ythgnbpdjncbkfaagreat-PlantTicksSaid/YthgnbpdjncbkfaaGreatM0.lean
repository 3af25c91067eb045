import Derived.Test.YthgnbpdjncbkfaaGreatRows
import Derived.Test.YthgnbpdjncbkfaaGreatMo
import Derived.Test.YthgnbpdjncbkfaaGreatBw
import Derived.Test.YthgnbpdjncbkfaaGreatIn
set_option linter.unusedVariables false
namespace Go.Proofs.YthgnbpdjncbkfaaGreat
open Go.SL
abbrev v0_ (l : List Int) : Res := .sl 3 1 (l.map pI)
abbrev v1_ (l : List Bg) : Res := .sl 51 5 (l.map q51)
abbrev v2_ (l : List Bool) : Res := .sl 4 1 (l.map pB)
abbrev v3_ (l : List Am) : Res := .sl 86 2 (l.map q86)
abbrev v4_ (l : List Af) : Res := .sl 120 4 (l.map A6)
abbrev v5_ (l : List Az) : Res := .sl 130 2 (l.map B2)
abbrev v6_ (l : List Ap) : Res := .sl 49 3 (l.map q49)
abbrev v7_ (l : List Ab) : Res := .sl 36 4 (l.map q36)
abbrev v8_ (l : List Ai) : Res := .sl 84 3 (l.map q84)
abbrev v9_ (l : List Ak) : Res := .sl 147 3 (l.map Bi)
abbrev H3 (l : List Bh) : Res := .sl 139 3 (l.map Bt)
abbrev H2 (l : List A1) : Res := .sl 65 5 (l.map q65)
abbrev CO := CallOk Tryz.prog
abbrev EN := Fl Tryz.prog
abbrev Dd {α0 α1 α2 α3 : Type} (z : α0 × α1 × α2 × α3) : α3 := z.2.2.2
abbrev g3_ {α0 α1 α2 α3 α4 : Type} (z : α0 × α1 × α2 × α3 × α4) : α3 := z.2.2.2.1
abbrev Ik {α0 α1 α2 α3 α4 : Type} (z : α0 × α1 × α2 × α3 × α4) : α4 := z.2.2.2.2
abbrev g4_ {α0 α1 α2 α3 α4 α5 : Type} (z : α0 × α1 × α2 × α3 × α4 × α5) : α4 := z.2.2.2.2.1
abbrev g5_ {α0 α1 α2 α3 α4 α5 α6 : Type} (z : α0 × α1 × α2 × α3 × α4 × α5 × α6) : α5 := z.2.2.2.2.2.1
abbrev Ms {α0 α1 α2 α3 α4 α5 α6 : Type} (z : α0 × α1 × α2 × α3 × α4 × α5 × α6) : α6 := z.2.2.2.2.2.2
abbrev g6_ {α0 α1 α2 α3 α4 α5 α6 α7 : Type} (z : α0 × α1 × α2 × α3 × α4 × α5 × α6 × α7) : α6 := z.2.2.2.2.2.2.1
abbrev Ys {α0 α1 α2 α3 α4 α5 α6 α7 : Type} (z : α0 × α1 × α2 × α3 × α4 × α5 × α6 × α7) : α7 := z.2.2.2.2.2.2.2
abbrev g7_ {α0 α1 α2 α3 α4 α5 α6 α7 α8 : Type} (z : α0 × α1 × α2 × α3 × α4 × α5 × α6 × α7 × α8) : α7 := z.2.2.2.2.2.2.2.1
abbrev Ahj {α0 α1 α2 α3 α4 α5 α6 α7 α8 : Type} (z : α0 × α1 × α2 × α3 × α4 × α5 × α6 × α7 × α8) : α8 := z.2.2.2.2.2.2.2.2
abbrev g8_ {α0 α1 α2 α3 α4 α5 α6 α7 α8 α9 : Type} (z : α0 × α1 × α2 × α3 × α4 × α5 × α6 × α7 × α8 × α9) : α8 := z.2.2.2.2.2.2.2.2.1
abbrev g9_ {α0 α1 α2 α3 α4 α5 α6 α7 α8 α9 α10 : Type} (z : α0 × α1 × α2 × α3 × α4 × α5 × α6 × α7 × α8 × α9 × α10) : α9 := z.2.2.2.2.2.2.2.2.2.1
abbrev Dr {α0 α1 α2 α3 α4 α5 α6 α7 α8 α9 α10 : Type} (z : α0 × α1 × α2 × α3 × α4 × α5 × α6 × α7 × α8 × α9 × α10) : α10 := z.2.2.2.2.2.2.2.2.2.2
abbrev Cj {α0 α1 α2 α3 α4 α5 α6 α7 α8 α9 α10 α11 : Type} (z : α0 × α1 × α2 × α3 × α4 × α5 × α6 × α7 × α8 × α9 × α10 × α11) : α10 := z.2.2.2.2.2.2.2.2.2.2.1
abbrev Fu {α0 α1 α2 α3 α4 α5 α6 α7 α8 α9 α10 α11 : Type} (z : α0 × α1 × α2 × α3 × α4 × α5 × α6 × α7 × α8 × α9 × α10 × α11) : α11 := z.2.2.2.2.2.2.2.2.2.2.2
abbrev Ep {α0 α1 α2 α3 α4 α5 α6 α7 α8 α9 α10 α11 α12 : Type} (z : α0 × α1 × α2 × α3 × α4 × α5 × α6 × α7 × α8 × α9 × α10 × α11 × α12) : α11 := z.2.2.2.2.2.2.2.2.2.2.2.1
abbrev E9 {α0 α1 α2 α3 α4 α5 α6 α7 α8 α9 α10 α11 α12 α13 : Type} (z : α0 × α1 × α2 × α3 × α4 × α5 × α6 × α7 × α8 × α9 × α10 × α11 × α12 × α13) : α12 := z.2.2.2.2.2.2.2.2.2.2.2.2.1
abbrev E1 {α0 α1 α2 α3 α4 α5 α6 α7 α8 α9 α10 α11 α12 α13 α14 : Type} (z : α0 × α1 × α2 × α3 × α4 × α5 × α6 × α7 × α8 × α9 × α10 × α11 × α12 × α13 × α14) : α13 := z.2.2.2.2.2.2.2.2.2.2.2.2.2.1
abbrev J_ {α0 α1 α2 α3 α4 α5 α6 α7 α8 α9 α10 α11 α12 α13 α14 : Type} (z : α0 × α1 × α2 × α3 × α4 × α5 × α6 × α7 × α8 × α9 × α10 × α11 × α12 × α13 × α14) : α14 := z.2.2.2.2.2.2.2.2.2.2.2.2.2.2
abbrev K9 {α0 α1 α2 α3 α4 α5 α6 α7 α8 α9 α10 α11 α12 α13 α14 α15 : Type} (z : α0 × α1 × α2 × α3 × α4 × α5 × α6 × α7 × α8 × α9 × α10 × α11 × α12 × α13 × α14 × α15) : α14 := z.2.2.2.2.2.2.2.2.2.2.2.2.2.2.1
abbrev Q4 {α0 α1 α2 α3 α4 α5 α6 α7 α8 α9 α10 α11 α12 α13 α14 α15 : Type} (z : α0 × α1 × α2 × α3 × α4 × α5 × α6 × α7 × α8 × α9 × α10 × α11 × α12 × α13 × α14 × α15) : α15 := z.2.2.2.2.2.2.2.2.2.2.2.2.2.2.2
abbrev Ahk {α0 α1 α2 α3 α4 α5 α6 α7 α8 α9 α10 α11 α12 α13 α14 α15 α16 : Type} (z : α0 × α1 × α2 × α3 × α4 × α5 × α6 × α7 × α8 × α9 × α10 × α11 × α12 × α13 × α14 × α15 × α16) : α15 := z.2.2.2.2.2.2.2.2.2.2.2.2.2.2.2.1
abbrev Wl {α0 α1 α2 α3 α4 α5 α6 α7 α8 α9 α10 α11 α12 α13 α14 α15 α16 : Type} (z : α0 × α1 × α2 × α3 × α4 × α5 × α6 × α7 × α8 × α9 × α10 × α11 × α12 × α13 × α14 × α15 × α16) : α16 := z.2.2.2.2.2.2.2.2.2.2.2.2.2.2.2.2
theorem sI {α : Type} {a b : α} (h : some a = some b) : a = b := Option.some.inj h
abbrev zb (b : Aa) (l : List D) : List D := I b.An :: DS Bi b.Ag :: DS Bt b.Ac :: DS q65 b.Ae :: I b.Phase :: I b.Aq :: l
abbrev zp (p : Ab) (l : List Res) : List Res := .sl 4 1 (p.Ah.map pB) :: .sl 120 4 (p.Ac.map A6) :: .sl 3 1 (p.Ar.map pI) :: .sl 86 2 (p.Ao.map q86) :: l
abbrev ze (l : List Res) : List Res := .sl 4 1 (([] : List Bool).map pB) :: .sl 120 4 (([] : List Af).map A6) :: .sl 3 1 (([] : List Int).map pI) :: .sl 86 2 (([] : List Am).map q86) :: l
abbrev zs (b : Aa) (l : List Res) : List Res := .sl 147 3 (b.Ag.map Bi) :: .sl 139 3 (b.Ac.map Bt) :: .sl 65 5 (b.Ae.map q65) :: l
abbrev zt {α : Type} (b : Aa) (r : α) : Int × List Ak × List Bh × List A1 × Int × Int × α := (b.An, b.Ag, b.Ac, b.Ae, b.Phase, b.Aq, r)
abbrev zu {α : Type} (p : Ab) (r : α) : List Bool × List Af × List Int × List Am × α := (p.Ah, p.Ac, p.Ar, p.Ao, r)
abbrev n3_ : List Nat := [0, 1, 2]
abbrev n4_ : List Nat := [0, 1, 2, 3]
abbrev n5_ : List Nat := [0, 1, 2, 3, 4]
abbrev n6_ : List Nat := [0, 1, 2, 3, 4, 5]
abbrev n7_ : List Nat := [0, 1, 2, 3, 4, 5, 6]
abbrev n8_ : List Nat := [0, 1, 2, 3, 4, 5, 6, 7]
abbrev n9_ : List Nat := [0, 1, 2, 3, 4, 5, 6, 7, 8]
abbrev Fo : List Nat := [0, 1, 2, 3, 4, 5, 6, 7, 8, 9]
abbrev Yi : List Nat := [0, 1, 2, 3, 4, 5, 6, 7, 8, 9, 10]
abbrev E7 : List Nat := [0, 1, 2, 3, 4, 5, 6, 7, 8, 9, 10, 11]
abbrev Fm : List Nat := [0, 1, 2, 3, 4, 5, 6, 7, 8, 9, 10, 11, 12]
abbrev A72 : List Nat := [0, 1, 2, 3, 4, 5, 6, 7, 8, 9, 10, 11, 12, 13]
abbrev Fy : List Nat := [0, 1, 2, 3, 4, 5, 6, 7, 8, 9, 10, 11, 12, 13, 14]
abbrev A71 : List Nat := [0, 1, 2, 3, 4, 5, 6, 7, 8, 9, 10, 11, 12, 13, 14, 15]
abbrev A70 : List Nat := [0, 1, 2, 3, 4, 5, 6, 7, 8, 9, 10, 11, 12, 13, 14, 15, 16, 17, 18]
abbrev Aad : List Nat := [0, 1, 2, 3, 4, 5, 6, 7, 8, 9, 10, 11, 12, 13, 14, 15, 16, 17, 18, 19]
abbrev A7z : List Nat := [0, 1, 2, 3, 4, 5, 6, 7, 8, 9, 10, 11, 12, 13, 14, 15, 16, 17, 18, 19, 20]
abbrev A7y : List Nat := [0, 1, 2, 3, 4, 5, 6, 7, 8, 9, 10, 11, 12, 13, 14, 15, 16, 17, 18, 19, 20, 21]
theorem Hh : Tryz.prog.follows .mixedOrders = true := by kernel_rfl
abbrev PC := {c : Cl // Cl.ok Tryz.prog c}
abbrev PB := {p : Bool × Bool // p.1 = p.2}
theorem okP : ∀ l : List PC, Dm Tryz.prog (l.map (·.1))
 | [] => trivial
 | c :: l => ⟨c.2, okP l⟩
theorem okB : ∀ l : List PB, Da (l.map (·.1))
 | [] => trivial
 | ⟨(_, _), h⟩ :: l => ⟨h, okB l⟩
def pq {a b : Bool} (h : a = b) : PB := ⟨(a, b), h⟩
def pc {f : FuncId} {args : List AV} {R R2 : List Res} {res : AV} (e : Fl Tryz.prog f) (k : CallOk Tryz.prog f args R res R2) (pi : List Nat) : PC := ⟨.call f args R res R2 pi, e, k⟩
def pb {f : FuncId} {args : List AV} {res : AV} (e : Fl Tryz.prog f) (k : CallOk Tryz.prog f args [] res []) : PC := ⟨.callB f args res [[]] 0 [], Iu ⟨e, k⟩⟩
def pw {g : List (Bool × Bool)} {f : FuncId} {args : List AV} {R R2 : List Res} {res : AV} (e : Fl Tryz.prog f) (k : Da g -> CallOk Tryz.prog f args R res R2) (pi : List Nat) : PC := ⟨.when g (.call f args R res R2 pi), λ h => ⟨e, k h⟩⟩
def pv {g : List (Bool × Bool)} {f : FuncId} {args : List AV} {res : AV} (e : Fl Tryz.prog f) (k : Da g -> CallOk Tryz.prog f args [] res []) : PC := ⟨.when g (.callB f args res [[]] 0 []), λ h => Iu ⟨e, k h⟩⟩
section
variable {α : Type}
def pl (q : α -> List Pd) (l : List α) : PC := ⟨.len ((l.map q).length : Int) (l.length : Int), Wj l q⟩
def pL_ (g : List (Bool × Bool)) (q : α -> List Pd) (l : List α) : PC := ⟨.when g (.len ((l.map q).length : Int) (l.length : Int)), λ _ => Wj l q⟩
def pr (q : α -> List Pd) {l : List α} {n : Int} {x : α} (h : getI l n = some x) : PC := ⟨.row (l.map q) n (q x), V2 h⟩
def pn (q : α -> List Pd) {l : List α} {n : Int} {x : α} (h : getI l n = some x) : PC := ⟨.row (l.map q) ((n.toNat : Nat) : Int) (q x), Jo h⟩
def pt {q : α -> List Pd} {l : List α} {i : Nat} {x : α} (hx : l[i]? = some x) (hl : (l.map q).length <= maxLen) : PC := ⟨.row (l.map q) (cnt 0 i) (q x), A0f hx hl⟩
def pR (q : α -> List Pd) {g : List (Bool × Bool)} {l : List α} {n : Int} {x d : α} (h : A2 g (getI l n) d = some x) : PC := ⟨.when g (.row (l.map q) n (q x)), λ hg => V2 (A_ h hg)⟩
def pN (q : α -> List Pd) {g : List (Bool × Bool)} {l : List α} {n : Int} {x d : α} (h : A2 g (getI l n) d = some x) : PC := ⟨.when g (.row (l.map q) ((n.toNat : Nat) : Int) (q x)), λ hg => Jo (A_ h hg)⟩
def pa (q : α -> List Pd) (size : Nat) {B : Nat} {l m y : List α} (h : appI (B + 1) l m = some y) (hs : ∀ x, (q x).length = size := by exact λ _ => rfl) : PC := ⟨.app (l.map q) (m.map q) size (((l.map q).length + (m.map q).length) * (B + 1)) (y.map q), H0 q size hs h⟩
def pu (q : α -> List Pd) {l y : List α} {n : Int} {x x' : α} (hx : getI l n = some x) (h : setI l n x' = some y) : PC := ⟨.upd (l.map q) n.toNat (q x) (q x') (y.map q), Aly hx h⟩
end
theorem ws {ro : Option Nat} {n : Nat} {C : Ctx} {Q : Exit -> Act -> World -> Prop} {st : St} {R : List Res} {items : List It} (lv : List Nat) (fuel : Nat) (ds : List Bool) (cls : List PC) (adj : List Adj) (k : Nat) (pi : List Nat) (st' : St) (R' : List Res) (hk : C.h.length <= k) (bs : List PB) (hW : WI ro Tryz.prog n C Q (B_ fuel items ds) st' R') (h : Gp Tryz.prog n lv fuel items st R ds (cls.map (·.1)) adj k pi (Om st') = some (st', R', cls.map (·.1), bs.map (·.1)) := by kernel_rfl) : WI ro Tryz.prog n C Q items st R := Aa4 Hh lv fuel ds (cls.map (·.1)) adj k pi st' R' hk (okP cls) (okB bs) h hW
def wo (o : Option (St × List Res × List Cl × List (Bool × Bool))) : St × List Res := match o with
 | some (s, r, _, _) => (s, r)
 | none => ([], [])
theorem wn {ro : Option Nat} {n : Nat} {C : Ctx} {Q : Exit -> Act -> World -> Prop} {st : St} {R : List Res} {items : List It} (lv : List Nat) (fuel : Nat) (ds : List Bool) (cls : List PC) (adj : List Adj) (k : Nat) (pi : List Nat) (ks : List Nat) (hk : C.h.length <= k) (bs : List PB) (hW : WI ro Tryz.prog n C Q (B_ fuel items ds) (wo (Gp Tryz.prog n lv fuel items st R ds (cls.map (·.1)) adj k pi ks)).1 (wo (Gp Tryz.prog n lv fuel items st R ds (cls.map (·.1)) adj k pi ks)).2) (h : (Gp Tryz.prog n lv fuel items st R ds (cls.map (·.1)) adj k pi ks).map (λ x => (Om x.1, x.2.2.1, x.2.2.2)) = some (ks, cls.map (·.1), bs.map (·.1)) := by kernel_rfl) : WI ro Tryz.prog n C Q items st R := by
 cases e : Gp Tryz.prog n lv fuel items st R ds (cls.map (·.1)) adj k pi ks with
 | none => rw [e] at h; cases h
 | some x =>
  obtain ⟨s, r, c, b⟩ := x
  rw [e] at h hW
  simp only [Option.map_some, Option.some.injEq, Prod.mk.injEq] at h
  obtain ⟨h1, h2, h3⟩ := h
  subst h1; subst h2; subst h3
  exact Aa4 Hh lv fuel ds _ adj k pi s r hk (okP cls) (okB bs) e hW
theorem we {ro : Option Nat} {n : Nat} {C : Ctx} {Q : Exit -> Act -> World -> Prop} {st : St} {R : List Res} {items : List It} {σ : Type} {φ : σ -> Prop} {st' : σ -> St} {R' : σ -> List Res} (lv : List Nat) (fuel : Nat) (ds : List Bool) (cls : List PC) (adj : List Adj) (k : Nat) (pi : List Nat) (s : σ) (hk : C.h.length <= k) (bs : List PB) (h1 : φ s) (hi : hdK (B_ fuel items ds) = Ex n C φ st' R' := by kernel_rfl) (h : Gp Tryz.prog n lv fuel items st R ds (cls.map (·.1)) adj k pi (Om (st' s)) = some (st' s, R' s, cls.map (·.1), bs.map (·.1)) := by kernel_rfl) : WI ro Tryz.prog n C Q items st R := Avc Hh lv fuel ds (cls.map (·.1)) adj k pi s hk (okP cls) (okB bs) hi h h1
theorem wx {σ : Type} {τ : Type} (w : Ctl σ τ) (st' : σ -> St) (R' : σ -> List Res) {ro : Option Nat} {n : Nat} {C : Ctx} {Q : Exit -> Act -> World -> Prop} {st : St} {R : List Res} {items : List It} (lv : List Nat) (fuel : Nat) (ds : List Bool) (cls : List PC) (adj : List Adj) (k : Nat) (pi : List Nat) (s : σ) (hk : C.h.length <= k) (bs : List PB) (h1 : w = .next s) (hi : hdK (B_ fuel items ds) = Ex n C (λ s' => w = .next s') st' R' := by kernel_rfl) (h : Gp Tryz.prog n lv fuel items st R ds (cls.map (·.1)) adj k pi (Om (st' s)) = some (st' s, R' s, cls.map (·.1), bs.map (·.1)) := by kernel_rfl) : WI ro Tryz.prog n C Q items st R := Avc Hh lv fuel ds (cls.map (·.1)) adj k pi s hk (okP cls) (okB bs) hi h h1
theorem wc {ro : Option Nat} {n : Nat} {C : Ctx} {Q : Exit -> Act -> World -> Prop} {st : St} {R : List Res} {items : List It} {σ τ : Type} (w : Ctl σ τ) (st' : σ -> St) (R' : σ -> List Res) (h : WI ro Tryz.prog n C Q (.c (hdC items) :: .k (Ex n C (λ s => w = .next s) st' R') :: tlI items) st R) (hK : ∀ s, w = .next s -> WI ro Tryz.prog n C Q (tlI items) (st' s) (R' s)) (hi : isC items = true := by kernel_rfl) : WI ro Tryz.prog n C Q items st R := A51 hi _ st' R' h hK
theorem cB {α : Type} {c : Bool} {x y z : α} (h : (bif c then x else y) = z) : (c = true /\ x = z) \/ (c = false /\ y = z) := by cases c; exact .inr ⟨rfl, h⟩; exact .inl ⟨rfl, h⟩
theorem wb {ro : Option Nat} {n : Nat} {C : Ctx} {Q : Exit -> Act -> World -> Prop} {st : St} {R : List Res} {items : List It} (h : WI ro Tryz.prog n C Q (.c (A5w items) :: .b (A5v items) :: tlI items) st R) (hi : isB items = true := by kernel_rfl) : WI ro Tryz.prog n C Q items st R := A52 hi h
theorem co {f : FuncId} {fn : Func} {c : Code} {args : List AV} {res : AV} {R R2 : List Res} (n : Nat) (hf : Tryz.prog.funcs[f]? = some fn) (h : ∀ C : Ctx, C.h.length <= R.length -> WI none Tryz.prog n C.z (M3 Tryz.prog fn C.z res R2) [.c c] (uQ 0 args) R) (hb : fn.body = some c := by rfl) (hn : fn.ntmps = n := by rfl) (hl : Nat.ble args.length n = true := by rfl) : CallOk Tryz.prog f args R res R2 := Aup n hf hb hn hl h
theorem wr {ro : Option Nat} {n : Nat} {C : Ctx} {st : St} {R : List Res} {fn : Func} {res : AV} {R2 : List Res} {items : List It} (lv : List Nat) (fuel : Nat) (ds : List Bool) (cls : List PC) (adj : List Adj) (k : Nat) (pi : List Nat) (hk : C.h.length <= k) (bs : List PB) (h : jC Tryz.prog n lv fuel items st R ds (cls.map (·.1)) adj fn.results.toList k pi = some (res, R2, cls.map (·.1), bs.map (·.1)) := by kernel_rfl) : WI ro Tryz.prog n C.z (M3 Tryz.prog fn C.z res R2) items st R := uR Hh lv fuel ds (cls.map (·.1)) adj _ k pi rfl hk (okP cls) (okB bs) h
theorem wf {ro : Option Nat} {n : Nat} {C : Ctx} {st : St} {R : List Res} {fn : Func} {res : AV} {R2 : List Res} {items : List It} (lv : List Nat) (fuel : Nat) (ds : List Bool) (cls : List PC) (adj : List Adj) (k : Nat) (pi : List Nat) (hk : C.h.length <= k) (bs : List PB) (hn : Aw3 (B_ fuel items ds) = true := by kernel_rfl) (h : jD Tryz.prog n lv fuel items st R ds (cls.map (·.1)) adj fn.results.toList k pi = some (res, R2, cls.map (·.1), bs.map (·.1)) := by kernel_rfl) : WI ro Tryz.prog n C.z (M3 Tryz.prog fn C.z res R2) items st R := A1n Hh lv fuel ds (cls.map (·.1)) adj _ k pi rfl hk (okP cls) (okB bs) hn h
theorem en {f : FuncId} {fn : Func} (hf : Tryz.prog.funcs[f]? = some fn) (hb : fn.body.isNone = false := by kernel_rfl) (hn : (fn.name == "runtime.NumGoroutine") = false := by kernel_rfl) : Fl Tryz.prog f := Go.SL.Ada hf hb hn
abbrev ln {α : Type} (l : List α) : Int := (l.length : Int)
abbrev dI (x : Int) : AV := .d (I x)
abbrev dB (x : Bool) : AV := .d (Bo x)
abbrev dO (a b : Nat) : AV := .d (.o a b)
abbrev dS (a : Nat) : AV := .d (.os a)
theorem k8 (x0 : List Int) (r : Aj) (h : F8 x0 = some r) : CO 8 [.d (DS pI x0)] [] (.d (.o 0 0)) [.box 90 (d90 r)] := by
 unfold F8 at h
 refine co 10 Tryz.func8 λ C hC => ?_
 obtain ⟨y2, h1, h⟩ := Ad h
 replace h := sI h
 subst h
 exact wr [0, 2] 25 [] [pl pI x0, ⟨.cut (x0.map pI) 1 0 (min (ln x0) 600) (y2.map pI), Aay pI 1 (λ _ => rfl) h1⟩] [] 0 [0] hC []
theorem e8 : EN 8 := en Tryz.func8
theorem k80 (x0 : Int) (x1 : Int) (r : Int) (h : F80 x0 x1 = some r) : CO 80 [.d (I x0), .d (I x1)] [] (.d (I r)) [] := by
 unfold F80 at h
 refine co 14 Tryz.func80 λ C hC => ?_
 rcases cB h with ⟨h1, h⟩ | ⟨h1, h⟩
 ·replace h := sI h
  subst h
  exact wr [0, 1, 4, 6] 29 [true] [] [] 0 [] hC [pq h1]
 ·obtain ⟨u3, h2, h⟩ := Ad h
  obtain ⟨u5, h4, h⟩ := Ad h
  replace h := sI h
  subst h
  exact wr [0, 1, 4, 6] 30 [false] [⟨.nz x1, O7 h2⟩, ⟨.nz x1, O7 h4⟩] [] 0 [] hC [pq h1]
theorem e80 : EN 80 := en Tryz.func80
theorem E8 (x0 : Int) (x1 : Int) (x2 : Int) (r : Bool) (h : B4 x0 x1 x2 = r) : CO 112 [.d (I x0), .d (I x1), .d (I x2)] [] (.d (Bo r)) [] := by
 unfold B4 at h
 refine co 15 Tryz.func112 λ C hC => ?_
 subst h
 exact wr [0, 1, 2, 6] 25 [] [] [] 0 [] hC []
theorem Fa : EN 112 := en Tryz.func112
def Ag1 : List Nat := [0, 1, 2, 3, 6, 7, 8, 9, 11, 12, 13, 14, 37]
def jI (x0 : Aa) (x1 : Int) (x2 : Int) (n0 : Nat) (z0 : (List Int)) : St := [(1, dI x1), (2, dI x2), (6, .d (DS pI [])), (7, dS 0), (11, .d (DS Bi x0.Ag)), (12, dI (ln x0.Ag)), (13, dI (cnt 0 n0))]
def Ae6  (n0 : Nat) (z0 : (List Int)) : List Res := [v0_ z0]
def Asi  (z0 : (List Int)) : St := [(6, .d (DS pI [])), (7, dS 0)]
def Avm  (z0 : (List Int)) : List Res := [v0_ z0]
theorem k77 (x0 : Aa) (x1 : Int) (x2 : Int) (r : (List Int)) (h : F77 x0 x1 x2 = some r) : CO 77 [.agg (d29 x0), .d (I x1), .d (I x2)] [] (.d (.os 0)) [v0_ r] := by
 unfold F77 at h
 refine co 44 Tryz.func77 λ C hC => ?_
 refine ws Ag1 28 [] [pl Bi x0.Ag] [.own 7 3 1] 0 [1] (jI x0 x1 x2 0 ([] : List Int)) (Ae6 0 ([] : List Int)) hC [] ?_
 obtain ⟨w0, hm0, hret0, hnext0⟩ := As h
 clear h
 refine wc w0 (Asi) (Avm) ?_ λ z0 hs0 => ?_
 ·refine wb ?_
  refine Bm 11 rfl λ hl0 => ?_
  refine A8 (by kernel_rfl) (vH x1 x2) (jI x0 x1 x2) (Ae6) w0 x0.Ag ([] : List Int) hm0 rfl rfl (λ z0 hn0 => ?_) λ n0 a0 z0 w0b hi0 hx0 h hb0 hr0 => ?_
  ·clear hm0
   exact wx w0 (Asi) (Avm) Ag1 26 [false] [] [] 0 [0] z0 hC [pq (Ba hl0)] hn0
  ·unfold vH at h
   rcases cB h with ⟨h1, h⟩ | ⟨h1, h⟩
   ·obtain ⟨y2, h3, h⟩ := Ad h
    exact wx w0b (jI x0 x1 x2 (n0 + 1)) (Ae6 (n0 + 1)) Ag1 36 [true, true] [pt hx0 hl0, pa pI 1 h3] [] 0 [2] y2 hC [pq (A9 hi0 hl0), pq h1] (sI h).symm
   ·exact wx w0b (jI x0 x1 x2 (n0 + 1)) (Ae6 (n0 + 1)) Ag1 36 [true, false] [pt hx0 hl0] [] 0 [0] z0 hC [pq (A9 hi0 hl0), pq h1] (sI h).symm
 ·have h := hnext0 _ hs0
  replace h := sI h
  subst h
  exact wr Ag1 23 [] [] [] 0 [0] hC []
theorem e77 : EN 77 := en Tryz.func77
theorem A9g (x0 : Am) (x1 : Am) (r : Bool) (h : Abo x0 x1 = r) : CO 113 [.agg (d86 x0), .agg (d86 x1)] [] (.d (Bo r)) [] := by
 unfold Abo at h
 refine co 24 Tryz.func113 λ C hC => ?_
 subst h
 exact wr n5_ 25 [] [] [] 0 [] hC []
theorem A_y : EN 113 := en Tryz.func113
theorem k65 (x0 : Ab) (r : Ab) (h : F65 x0 = some r) : CO 65 [.agg (d36 x0)] [] (.agg [.os 0, .os 1, .os 2, .os 3]) (zp r []) := by
 unfold F65 at h
 refine co 16 Tryz.func65 λ C hC => ?_
 obtain ⟨y1, h2, h⟩ := Ad h
 obtain ⟨y3, h4, h⟩ := Ad h
 obtain ⟨y5, h6, h⟩ := Ad h
 obtain ⟨y7, h8, h⟩ := Ad h
 replace h := sI h
 subst h
 exact wr n3_ 25 [] [⟨.app [] (x0.Ah.map pB) 1 ((x0.Ah.map pB).length * (1 + 1)) (y1.map pB), Rb pB 1 (λ _ => rfl) h2⟩, ⟨.app [] (x0.Ac.map A6) 4 ((x0.Ac.map A6).length * (32 + 1)) (y3.map A6), Rb A6 4 (λ _ => rfl) h4⟩, ⟨.app [] (x0.Ar.map pI) 1 ((x0.Ar.map pI).length * (8 + 1)) (y5.map pI), Rb pI 1 (λ _ => rfl) h6⟩, ⟨.app [] (x0.Ao.map q86) 2 ((x0.Ao.map q86).length * (16 + 1)) (y7.map q86), Rb q86 2 (λ _ => rfl) h8⟩] [] 0 [3, 5, 7, 9] hC []
theorem e65 : EN 65 := en Tryz.func65
def Hp : List Nat := [0, 1, 2, 3, 4, 6, 7, 8, 9, 10, 11, 19, 20, 21, 23, 24, 25, 26, 53, 65, 66, 67, 72]
def zS (y5 : List Bool) (n0 : Nat) (z0 : (List Bool)) : St := [(3, dO 0 0), (4, dO 1 0), (6, .d (DS pI [])), (7, dS 2), (19, dI (ln y5)), (20, dI (cnt 0 n0))]
def Aj7 (x0 : Aa) (x1 : Ab) (n0 : Nat) (z0 : (List Bool)) : List Res := [.box 29 (d29 x0), .box 36 (d36 x1), v2_ z0]
def Am3  (z0 : (List Bool)) : St := [(6, .d (DS pI [])), (7, dS 0)]
def Aos  (z0 : (List Bool)) : List Res := [v2_ z0]
def Vy (x0 : Aa) (y5 : List Bool) (n0 : Nat) (n1 : Nat) (z1 : (List Bool)) : St := [(3, dO 0 0), (4, dO 1 0), (6, .d (DS pI [])), (7, dS 2), (19, dI (ln y5)), (20, dI (cnt 0 n0)), (23, .d (DS Bi x0.Ag)), (24, dI (ln x0.Ag)), (25, dI (cnt 0 n1))]
def uW (x0 : Aa) (x1 : Ab) (n1 : Nat) (z1 : (List Bool)) : List Res := [.box 29 (d29 x0), .box 36 (d36 x1), v2_ z1]
def Am2 (y5 : List Bool) (n0 : Nat) (z1 : (List Bool)) : St := [(3, dO 0 0), (4, dO 1 0), (6, .d (DS pI [])), (7, dS 2), (19, dI (ln y5)), (20, dI (cnt 0 n0))]
def Aor (x0 : Aa) (x1 : Ab) (z1 : (List Bool)) : List Res := [.box 29 (d29 x0), .box 36 (d36 x1), v2_ z1]
def Vx (z0 : (List Bool)) (n2 : Nat) (z2 : (List Int)) : St := [(6, .d (DS pI [])), (7, dS 0), (10, dS 1), (65, dI (ln z0)), (66, dI (cnt 0 n2))]
def uV (z0 : (List Bool)) (n2 : Nat) (z2 : (List Int)) : List Res := [v2_ z0, v0_ z2]
def Am1  (z2 : (List Int)) : St := [(6, .d (DS pI [])), (10, dS 0)]
def Aoq  (z2 : (List Int)) : List Res := [v0_ z2]
theorem A9f (x0 : Aa) (x1 : Ab) (x2 : Int) (r : (List Int)) (h : Ak5 x0 x1 x2 = some r) : CO 114 [.agg (d29 x0), .agg (d36 x1), .d (I x2)] [] (.d (.os 0)) [v0_ r] := by
 unfold Ak5 at h
 refine co 79 Tryz.func114 λ C hC => ?_
 obtain ⟨y1, h2, h⟩ := Ad h
 obtain ⟨y3, h4, h⟩ := Ad h
 obtain ⟨y5, h6, h⟩ := Ad h
 refine ws Hp 30 [] [⟨.room (x0.An * (1 + 1)) (List.replicate (Int.toNat x0.An) (pB false)) (y1.map pB), G7 h2⟩, pr pB h4, pu pB h4 h6, pl pB y5] [] 0 n3_ (zS y5 0 y5) (Aj7 x0 x1 0 y5) hC [] ?_
 obtain ⟨w0, hm0, hret0, hnext0⟩ := As h
 clear h
 refine wc w0 (Am3) (Aos) ?_ λ z0 hs0 => ?_
 ·refine wb ?_
  refine Cc 7 2 rfl rfl λ hl0 => ?_
  refine A8 (by kernel_rfl) (Xl x0 x1) (zS y5) (Aj7 x0 x1) w0 y5 y5 hm0 rfl rfl (λ z0 hn0 => ?_) λ n0 a0 z0 w0b hi0 hx0 h hb0 hr0 => ?_
  ·clear hm0
   exact wx w0 (Am3) (Aos) Hp 26 [false] [] [] 0 [2] z0 hC [pq (Ba hl0)] hn0
  ·unfold Xl at h
   refine ws Hp 30 [true] [pl Bi x0.Ag] [] 0 n3_ (Vy x0 y5 n0 0 z0) (uW x0 x1 0 z0) hC [pq (A9 hi0 hl0)] ?_
   obtain ⟨w1, hm1, hret1, hnext1⟩ := As h
   clear h
   refine wc w1 (Am2 y5 n0) (Aor x0 x1) ?_ λ z1 hs1 => ?_
   ·refine wb ?_
    refine Bm 23 rfl λ hl1 => ?_
    refine A8 (by kernel_rfl) (Xk x1) (Vy x0 y5 n0) (uW x0 x1) w1 x0.Ag z0 hm1 rfl rfl (λ z1 hn1 => ?_) λ n1 a1 z1 w1b hi1 hx1 h hb1 hr1 => ?_
    ·clear hm1
     exact wx w1 (Am2 y5 n0) (Aor x0 x1) Hp 26 [false] [] [] 0 n3_ z1 hC [pq (Ba hl1)] hn1
    ·unfold Xk at h
     obtain ⟨y7, h8, h⟩ := Ad h
     obtain ⟨y9, h10, h⟩ := Ad h
     obtain ⟨y11, h12, h⟩ := Ad h
     refine wn Hp 32 [true] [pt hx1 hl1, pR pB h8, pR pB h10, pN pB h10, pR pB h12, pN pB h12] [] 0 n4_ [3, 4, 6, 7, 9, 19, 20, 23, 24, 25, 53] hC [pq (A9 hi1 hl1)] ?_
     rcases cB h with ⟨h13, h⟩ | ⟨h13, h⟩
     ·obtain ⟨y14, h15, h⟩ := Ad h
      obtain ⟨y16, h17, h⟩ := Ad h
      obtain ⟨y18, h19, h⟩ := Ad h
      obtain ⟨y20, h21, h⟩ := Ad h
      exact wx w1b (Vy x0 y5 n0 (n1 + 1)) (uW x0 x1 (n1 + 1)) Hp 25 [true] [pr pB h15, pu pB h15 h17, pr pB h19, pu pB h19 h21] [] 0 n3_ y20 hC [pq h13] (sI h).symm
     ·exact wx w1b (Vy x0 y5 n0 (n1 + 1)) (uW x0 x1 (n1 + 1)) Hp 25 [false] [] [] 0 n3_ z1 hC [pq h13] (sI h).symm
   ·have h := hnext1 _ hs1
    exact wx w0b (zS y5 (n0 + 1)) (Aj7 x0 x1 (n0 + 1)) Hp 23 [] [] [] 0 n3_ z1 hC [] (sI h).symm
 ·have h := hnext0 _ hs0
  refine ws Hp 26 [] [pl pB z0] [.own 10 3 1] 0 [0, 1] (Vx z0 0 ([] : List Int)) (uV z0 0 ([] : List Int)) hC [] ?_
  obtain ⟨w2, hm2, hret2, hnext2⟩ := As h
  clear h
  refine wc w2 (Am1) (Aoq) ?_ λ z2 hs2 => ?_
  ·refine wb ?_
   refine Cc 7 0 rfl rfl λ hl2 => ?_
   refine A8 (by kernel_rfl) Xj (Vx z0) (uV z0) w2 z0 ([] : List Int) hm2 rfl rfl (λ z2 hn2 => ?_) λ n2 a2 z2 w2b hi2 hx2 h hb2 hr2 => ?_
   ·clear hm2
    exact wx w2 (Am1) (Aoq) Hp 26 [false] [] [] 0 [1] z2 hC [pq (Ba hl2)] hn2
   ·unfold Xj at h
    rcases cB h with ⟨h22, h⟩ | ⟨h22, h⟩
    ·obtain ⟨y23, h24, h⟩ := Ad h
     exact wx w2b (Vx z0 (n2 + 1)) (uV z0 (n2 + 1)) Hp 36 [true, true] [pr pB (Bp hx2 hl2), pn pB (Bp hx2 hl2), pa pI 1 h24] [] 0 [0, 2] y23 hC [pq (A9 hi2 hl2), pq h22] (sI h).symm
    ·exact wx w2b (Vx z0 (n2 + 1)) (uV z0 (n2 + 1)) Hp 36 [true, false] [pr pB (Bp hx2 hl2), pn pB (Bp hx2 hl2)] [] 0 [0, 1] z2 hC [pq (A9 hi2 hl2), pq h22] (sI h).symm
  ·have h := hnext2 _ hs2
   replace h := sI h
   subst h
   exact wr Hp 23 [] [] [] 0 [0] hC []
theorem A_x : EN 114 := en Tryz.func114
def Ag3 : List Nat := [0, 1, 4, 6, 7, 8, 9, 10, 15]
def Afq (x0 : List Int) (x1 : Int) (n0 : Nat) (z0 : Unit) : St := [(1, dI x1), (4, dB false), (7, .d (DS pI x0)), (8, dI (ln x0)), (9, dI (cnt 0 n0))]
def Aqs  (n0 : Nat) (z0 : Unit) : List Res := []
def Asl  (z0 : Unit) : St := [(4, dB false)]
def Avp  (z0 : Unit) : List Res := []
theorem k55 (x0 : List Int) (x1 : Int) (r : Bool) (h : F55 x0 x1 = some r) : CO 55 [.d (DS pI x0), .d (I x1)] [] (.d (Bo r)) [] := by
 unfold F55 at h
 refine co 17 Tryz.func55 λ C hC => ?_
 refine ws Ag3 26 [] [pl pI x0] [] 0 [] (Afq x0 x1 0 ()) (Aqs 0 ()) hC [] ?_
 obtain ⟨w0, hm0, hret0, hnext0⟩ := As h
 clear h
 refine wc w0 (Asl) (Avp) ?_ λ z0 hs0 => ?_
 ·refine wb ?_
  refine Bm 7 rfl λ hl0 => ?_
  refine A8 (by kernel_rfl) (Uo x1) (Afq x0 x1) (Aqs) w0 x0 () hm0 rfl rfl (λ z0 hn0 => ?_) λ n0 a0 z0 w0b hi0 hx0 h hb0 hr0 => ?_
  ·clear hm0
   exact wx w0 (Asl) (Avp) Ag3 26 [false] [] [] 0 [] () hC [pq (Ba hl0)] hn0
  ·unfold Uo at h
   rcases cB h with ⟨h1, h⟩ | ⟨h1, h⟩
   ·have hq := hret0 _ (hr0 _ (sI h).symm)
    replace hq := sI hq
    subst hq
    exact wr Ag3 35 [true, true] [pt hx0 hl0] [] 0 [] hC [pq (A9 hi0 hl0), pq h1]
   ·exact wx w0b (Afq x0 x1 (n0 + 1)) (Aqs (n0 + 1)) Ag3 36 [true, false] [pt hx0 hl0] [] 0 [] () hC [pq (A9 hi0 hl0), pq h1] (sI h).symm
 ·have h := hnext0 _ hs0
  replace h := sI h
  subst h
  exact wr Ag3 23 [] [] [] 0 [] hC []
theorem e55 : EN 55 := en Tryz.func55
theorem k99 (x0 : Int) (x1 : Int) (x2 : Int) (r : Bool) (h : F99 x0 x1 x2 = r) : CO 99 [.d (I x0), .d (I x1), .d (I x2)] [] (.d (Bo r)) [] := by
 unfold F99 at h
 refine co 15 Tryz.func99 λ C hC => ?_
 subst h
 exact wr [0, 1, 2, 6] 25 [] [] [] 0 [] hC []
theorem e99 : EN 99 := en Tryz.func99
def qD : List Nat := [0, 1, 4, 5, 7, 8, 9, 16]
def yS (x0 : List Int) (x1 : Int) (n0 : Nat) (z0 : Unit) : St := [(0, .d (DS pI x0)), (1, dI x1), (4, dI 0), (7, dI (ln x0)), (8, dI (cnt 0 n0))]
def Ajh  (n0 : Nat) (z0 : Unit) : List Res := []
def Al5  (z0 : Unit) : St := [(4, dI 0)]
def Anu  (z0 : Unit) : List Res := []
theorem A79 (x0 : List Int) (x1 : Int) (r : Int) (h : Arf x0 x1 = some r) : CO 227 [.d (DS pI x0), .d (I x1)] [] (.d (I r)) [] := by
 unfold Arf at h
 refine co 19 Tryz.func227 λ C hC => ?_
 refine ws qD 26 [] [pl pI x0] [] 0 [] (yS x0 x1 0 ()) (Ajh 0 ()) hC [] ?_
 obtain ⟨w0, hm0, hret0, hnext0⟩ := As h
 clear h
 refine wc w0 (Al5) (Anu) ?_ λ z0 hs0 => ?_
 ·refine wb ?_
  refine Bm 0 rfl λ hl0 => ?_
  refine A8 (by kernel_rfl) (Abd x1) (yS x0 x1) (Ajh) w0 x0 () hm0 rfl rfl (λ z0 hn0 => ?_) λ n0 a0 z0 w0b hi0 hx0 h hb0 hr0 => ?_
  ·clear hm0
   exact wx w0 (Al5) (Anu) qD 26 [false] [] [] 0 [] () hC [pq (Ba hl0)] hn0
  ·unfold Abd at h
   rcases cB h with ⟨h1, h⟩ | ⟨h1, h⟩
   ·have hq := hret0 _ (hr0 _ (sI h).symm)
    replace hq := sI hq
    subst hq
    exact wr qD 35 [true, true] [pt hx0 hl0] [] 0 [] hC [pq (A9 hi0 hl0), pq h1]
   ·exact wx w0b (yS x0 x1 (n0 + 1)) (Ajh (n0 + 1)) qD 36 [true, false] [pt hx0 hl0] [] 0 [] () hC [pq (A9 hi0 hl0), pq h1] (sI h).symm
 ·have h := hnext0 _ hs0
  replace h := sI h
  subst h
  exact wr qD 23 [] [] [] 0 [] hC []
theorem A9r : EN 227 := en Tryz.func227
theorem A2q (x0 : List Int) (r : Bool) (h : Ayr x0 = r) : CO 192 [.d (DS pI x0)] [] (.d (Bo r)) [] := by
 unfold Ayr at h
 refine co 6 Tryz.func192 λ C hC => ?_
 subst h
 exact wr [0, 2] 25 [] [pl pI x0] [] 0 [] hC []
theorem A4k : EN 192 := en Tryz.func192
def qK : List Nat := [0, 1, 2, 4, 5, 6, 11, 16, 20]
theorem A80 (x0 : Aa) (x1 : Int) (r : Int) (h : Le x0 x1 = r) : CO 152 [.agg (d29 x0), .d (I x1)] [] (.d (I r)) [] := by
 unfold Le at h
 refine co 25 Tryz.func152 λ C hC => ?_
 rcases cB h with ⟨h1, h⟩ | ⟨h1, h⟩
 ·subst h
  exact wr qK 32 [true] [pl Bt x0.Ac] [] 0 [] hC [pq h1]
 ·rcases cB h with ⟨h2, h⟩ | ⟨h2, h⟩
  ·subst h
   exact wr qK 35 [false, true] [pl Bi x0.Ag] [] 0 [] hC [pq h1, pq h2]
  ·rcases cB h with ⟨h3, h⟩ | ⟨h3, h⟩
   ·subst h
    exact wr qK 38 [false, false, true] [] [] 0 [] hC [pq h1, pq h2, pq h3]
   ·rcases cB h with ⟨h4, h⟩ | ⟨h4, h⟩
    ·subst h
     exact wr qK 41 [false, false, false, true] [pl q65 x0.Ae] [] 0 [] hC [pq h1, pq h2, pq h3, pq h4]
    ·subst h
     exact wr qK 43 [false, false, false, false] [] [] 0 [] hC [pq h1, pq h2, pq h3, pq h4]
theorem A_i : EN 152 := en Tryz.func152
theorem K8 (x0 : Int) (r : Bool) (h : Z3 x0 = r) : CO 199 [.d (I x0)] [] (.d (Bo r)) [] := by
 unfold Z3 at h
 refine co 6 Tryz.func199 λ C hC => ?_
 subst h
 exact wr [0, 2] 25 [] [] [] 0 [] hC []
theorem K_ : EN 199 := en Tryz.func199
def qJ : List Nat := [0, 2, 3, 5, 6, 7, 8, 9, 14]
def zH (x0 : List Int) (n0 : Nat) (z0 : Unit) : St := [(2, dI 0), (3, dI 0), (6, .d (DS pI x0)), (7, dI (ln x0)), (8, dI (cnt 0 n0))]
def Ajw  (n0 : Nat) (z0 : Unit) : List Res := []
def Amm  (z0 : Unit) : St := [(2, dI 0), (3, dI 0)]
def Aob  (z0 : Unit) : List Res := []
theorem A8z (x0 : List Int) (r : Int) (h : Abh x0 = some r) : CO 153 [.d (DS pI x0)] [] (.d (I r)) [] := by
 unfold Abh at h
 refine co 18 Tryz.func153 λ C hC => ?_
 refine ws qJ 28 [] [pl pI x0] [] 0 [] (zH x0 0 ()) (Ajw 0 ()) hC [] ?_
 obtain ⟨w0, hm0, hret0, hnext0⟩ := As h
 clear h
 refine wc w0 (Amm) (Aob) ?_ λ z0 hs0 => ?_
 ·refine wb ?_
  refine Bm 6 rfl λ hl0 => ?_
  refine A8 (by kernel_rfl) P1 (zH x0) (Ajw) w0 x0 () hm0 rfl rfl (λ z0 hn0 => ?_) λ n0 a0 z0 w0b hi0 hx0 h hb0 hr0 => ?_
  ·clear hm0
   exact wx w0 (Amm) (Aob) qJ 26 [false] [] [] 0 [] () hC [pq (Ba hl0)] hn0
  ·unfold P1 at h
   rcases cB h with ⟨h1, h⟩ | ⟨h1, h⟩
   ·have hq := hret0 _ (hr0 _ (sI h).symm)
    replace hq := sI hq
    subst hq
    exact wr qJ 35 [true, true] [pt hx0 hl0] [] 0 [] hC [pq (A9 hi0 hl0), pq h1]
   ·exact wx w0b (zH x0 (n0 + 1)) (Ajw (n0 + 1)) qJ 36 [true, false] [pt hx0 hl0] [] 0 [] () hC [pq (A9 hi0 hl0), pq h1] (sI h).symm
 ·have h := hnext0 _ hs0
  replace h := sI h
  subst h
  exact wr qJ 23 [] [] [] 0 [] hC []
theorem A_h : EN 153 := en Tryz.func153
def qN : List Nat := [0, 1, 2, 3, 4, 6, 7, 8, 9, 11, 12, 13, 14, 33]
def V0 (x0 : Aa) (x2 : Int) (n0 : Nat) (z0 : Int) : St := [(2, dI x2), (4, dO 0 0), (6, dI 0), (7, dI z0), (11, .d (DS Bi x0.Ag)), (12, dI (ln x0.Ag)), (13, dI (cnt 0 n0))]
def uY (x1 : Ab) (n0 : Nat) (z0 : Int) : List Res := [.box 36 (d36 x1)]
def Am5  (z0 : Int) : St := [(6, dI 0), (7, dI z0)]
def Aou  (z0 : Int) : List Res := []
theorem A9j (x0 : Aa) (x1 : Ab) (x2 : Int) (r : Int) (h : Ak9 x0 x1 x2 = some r) : CO 100 [.agg (d29 x0), .agg (d36 x1), .d (I x2)] [] (.d (I r)) [] := by
 unfold Ak9 at h
 refine co 38 Tryz.func100 λ C hC => ?_
 refine ws qN 28 [] [pl Bi x0.Ag] [] 0 [1] (V0 x0 x2 0 0) (uY x1 0 0) hC [] ?_
 obtain ⟨w0, hm0, hret0, hnext0⟩ := As h
 clear h
 refine wc w0 (Am5) (Aou) ?_ λ z0 hs0 => ?_
 ·refine wb ?_
  refine Bm 11 rfl λ hl0 => ?_
  refine A8 (by kernel_rfl) (Xm x1 x2) (V0 x0 x2) (uY x1) w0 x0.Ag 0 hm0 rfl rfl (λ z0 hn0 => ?_) λ n0 a0 z0 w0b hi0 hx0 h hb0 hr0 => ?_
  ·clear hm0
   exact wx w0 (Am5) (Aou) qN 26 [false] [] [] 0 [] z0 hC [pq (Ba hl0)] hn0
  ·unfold Xm at h
   obtain ⟨y1, h2, h⟩ := Ad h
   rcases cB h with ⟨h3, h⟩ | ⟨h3, h⟩
   ·exact wx w0b (V0 x0 x2 (n0 + 1)) (uY x1 (n0 + 1)) qN 36 [true, true] [pt hx0 hl0, pR pB h2] [] 0 [0] (w64 (z0 + 1)) hC [pq (A9 hi0 hl0), pq h3] (sI h).symm
   ·exact wx w0b (V0 x0 x2 (n0 + 1)) (uY x1 (n0 + 1)) qN 36 [true, false] [pt hx0 hl0, pR pB h2] [] 0 [0] z0 hC [pq (A9 hi0 hl0), pq h3] (sI h).symm
 ·have h := hnext0 _ hs0
  replace h := sI h
  subst h
  exact wr qN 23 [] [] [] 0 [] hC []
theorem A_1 : EN 100 := en Tryz.func100
theorem A8s (x0 : List Bool) (r : List Bool) (h : Arl x0 = some r) : CO 166 [.d (.p (.s (x0.map pB)))] [] (.d (.os 0)) [v2_ r] := by
 unfold Arl at h
 refine co 8 Tryz.func166 λ C hC => ?_
 refine ws [0, 4] 40 [] [] [] 0 [] [(0, .d (.p (.s (x0.map pB)))), (4, .d (.nq (x0.map pB)))] [] hC [] ?_
 refine Wt 4 (by kernel_rfl) (by kernel_rfl) rfl (λ hn => ?_) ?_
 ·have hx : x0 = [] := by cases x0 with | nil => rfl | cons => cases hn
  subst hx
  have hr : r = [] := by simpa [appI] using h.symm
  subst hr
  exact wr [2] 40 [] [] [.own 2 4 1] 0 [0] hC []
 ·exact wr [2] 40 [] [⟨.own, trivial⟩, ⟨.app [] (x0.map pB) 1 ((([] : List (List Pd)).length + (x0.map pB).length) * (1 + 1)) (r.map pB), H0 (l := []) pB 1 (λ _ => rfl) h⟩] [] 0 [1] hC []
theorem A_a : EN 166 := en Tryz.func166
theorem A8r (x0 : List Af) (r : List Af) (h : Ark x0 = some r) : CO 167 [.d (.p (.s (x0.map A6)))] [] (.d (.os 0)) [v4_ r] := by
 unfold Ark at h
 refine co 8 Tryz.func167 λ C hC => ?_
 refine ws [0, 4] 40 [] [] [] 0 [] [(0, .d (.p (.s (x0.map A6)))), (4, .d (.nq (x0.map A6)))] [] hC [] ?_
 refine Wt 4 (by kernel_rfl) (by kernel_rfl) rfl (λ hn => ?_) ?_
 ·have hx : x0 = [] := by cases x0 with | nil => rfl | cons => cases hn
  subst hx
  have hr : r = [] := by simpa [appI] using h.symm
  subst hr
  exact wr [2] 40 [] [] [.own 2 120 4] 0 [0] hC []
 ·exact wr [2] 40 [] [⟨.own, trivial⟩, ⟨.app [] (x0.map A6) 4 ((([] : List (List Pd)).length + (x0.map A6).length) * (32 + 1)) (r.map A6), H0 (l := []) A6 4 (λ _ => rfl) h⟩] [] 0 [1] hC []
theorem A99 : EN 167 := en Tryz.func167
theorem A23 (x0 : List Int) (r : List Int) (h : Z4 x0 = some r) : CO 168 [.d (.p (.s (x0.map pI)))] [] (.d (.os 0)) [v0_ r] := by
 unfold Z4 at h
 refine co 8 Tryz.func168 λ C hC => ?_
 refine ws [0, 4] 40 [] [] [] 0 [] [(0, .d (.p (.s (x0.map pI)))), (4, .d (.nq (x0.map pI)))] [] hC [] ?_
 refine Wt 4 (by kernel_rfl) (by kernel_rfl) rfl (λ hn => ?_) ?_
 ·have hx : x0 = [] := by cases x0 with | nil => rfl | cons => cases hn
  subst hx
  have hr : r = [] := by simpa [appI] using h.symm
  subst hr
  exact wr [2] 40 [] [] [.own 2 3 1] 0 [0] hC []
 ·exact wr [2] 40 [] [⟨.own, trivial⟩, ⟨.app [] (x0.map pI) 1 ((([] : List (List Pd)).length + (x0.map pI).length) * (8 + 1)) (r.map pI), H0 (l := []) pI 1 (λ _ => rfl) h⟩] [] 0 [1] hC []
theorem A4x : EN 168 := en Tryz.func168
theorem A8q (x0 : List Am) (r : List Am) (h : Arj x0 = some r) : CO 169 [.d (.p (.s (x0.map q86)))] [] (.d (.os 0)) [v3_ r] := by
 unfold Arj at h
 refine co 8 Tryz.func169 λ C hC => ?_
 refine ws [0, 4] 40 [] [] [] 0 [] [(0, .d (.p (.s (x0.map q86)))), (4, .d (.nq (x0.map q86)))] [] hC [] ?_
 refine Wt 4 (by kernel_rfl) (by kernel_rfl) rfl (λ hn => ?_) ?_
 ·have hx : x0 = [] := by cases x0 with | nil => rfl | cons => cases hn
  subst hx
  have hr : r = [] := by simpa [appI] using h.symm
  subst hr
  exact wr [2] 40 [] [] [.own 2 86 2] 0 [0] hC []
 ·exact wr [2] 40 [] [⟨.own, trivial⟩, ⟨.app [] (x0.map q86) 2 ((([] : List (List Pd)).length + (x0.map q86).length) * (16 + 1)) (r.map q86), H0 (l := []) q86 2 (λ _ => rfl) h⟩] [] 0 [1] hC []
theorem A98 : EN 169 := en Tryz.func169
def I_ : List Nat := [0, 1, 2, 3, 4, 5, 6, 7, 8, 9, 14, 15, 16, 24, 25, 26, 28, 29, 30, 31, 44]
def zJ (y1 : List Int) (n0 : Nat) (z0 : (List Int)) : St := [(2, dO 0 0), (3, dO 1 0), (4, .d (DS pI [])), (5, dS 2), (14, dI (ln y1)), (15, dI (cnt 0 n0))]
def Ajy (x0 : Aa) (x1 : Ab) (n0 : Nat) (z0 : (List Int)) : List Res := [.box 29 (d29 x0), .box 36 (d36 x1), v0_ z0]
def Amp  (z0 : (List Int)) : St := [(2, dO 0 0), (3, dO 1 0), (4, .d (DS pI [])), (5, dS 2)]
def Aoe (x0 : Aa) (x1 : Ab) (z0 : (List Int)) : List Res := [.box 29 (d29 x0), .box 36 (d36 x1), v0_ z0]
def zI (z0 : (List Int)) (n1 : Nat) (z1 : (List Int)) : St := [(2, dO 0 0), (3, dO 1 0), (4, .d (DS pI [])), (5, dS 2), (24, dI (ln z0)), (25, dI (cnt 0 n1))]
def Ajx (x0 : Aa) (x1 : Ab) (n1 : Nat) (z1 : (List Int)) : List Res := [.box 29 (d29 x0), .box 36 (d36 x1), v0_ z1]
def Amo  (z1 : (List Int)) : St := [(4, .d (DS pI [])), (5, dS 0)]
def Aod  (z1 : (List Int)) : List Res := [v0_ z1]
def Vw (x0 : Aa) (z0 : (List Int)) (n1 : Nat) (n2 : Nat) (z2 : (List Int)) : St := [(2, dO 0 0), (3, dO 1 0), (4, .d (DS pI [])), (5, dS 2), (24, dI (ln z0)), (25, dI (cnt 0 n1)), (28, .d (DS Bi x0.Ag)), (29, dI (ln x0.Ag)), (30, dI (cnt 0 n2))]
def uU (x0 : Aa) (x1 : Ab) (n2 : Nat) (z2 : (List Int)) : List Res := [.box 29 (d29 x0), .box 36 (d36 x1), v0_ z2]
def Amn (z0 : (List Int)) (n1 : Nat) (z2 : (List Int)) : St := [(2, dO 0 0), (3, dO 1 0), (4, .d (DS pI [])), (5, dS 2), (24, dI (ln z0)), (25, dI (cnt 0 n1))]
def Aoc (x0 : Aa) (x1 : Ab) (z2 : (List Int)) : List Res := [.box 29 (d29 x0), .box 36 (d36 x1), v0_ z2]
theorem A3b (x0 : Aa) (x1 : Ab) (r : (List Int)) (h : Abi x0 x1 = some r) : CO 142 [.agg (d29 x0), .agg (d36 x1)] [] (.d (.os 0)) [v0_ r] := by
 unfold Abi at h
 refine co 69 Tryz.func142 λ C hC => ?_
 obtain ⟨y1, h2, h⟩ := Ad h
 refine ws I_ 28 [] [⟨.room (x0.An * (8 + 1)) (List.replicate (Int.toNat x0.An) (pI 0)) (y1.map pI), G7 h2⟩, pl pI y1] [] 0 n3_ (zJ y1 0 y1) (Ajy x0 x1 0 y1) hC [] ?_
 obtain ⟨w0, hm0, hret0, hnext0⟩ := As h
 clear h
 refine wc w0 (Amp) (Aoe x0 x1) ?_ λ z0 hs0 => ?_
 ·refine wb ?_
  refine Cc 5 2 rfl rfl λ hl0 => ?_
  refine A8 (by kernel_rfl) Xf (zJ y1) (Ajy x0 x1) w0 y1 y1 hm0 rfl rfl (λ z0 hn0 => ?_) λ n0 a0 z0 w0b hi0 hx0 h hb0 hr0 => ?_
  ·clear hm0
   exact wx w0 (Amp) (Aoe x0 x1) I_ 26 [false] [] [] 0 n3_ z0 hC [pq (Ba hl0)] hn0
  ·unfold Xf at h
   obtain ⟨y3, h4, h⟩ := Ad h
   obtain ⟨y5, h6, h⟩ := Ad h
   exact wx w0b (zJ y1 (n0 + 1)) (Ajy x0 x1 (n0 + 1)) I_ 33 [true] [pr pI h4, pu pI h4 h6] [] 0 n3_ y5 hC [pq (A9 hi0 hl0)] (sI h).symm
 ·have h := hnext0 _ hs0
  refine ws I_ 24 [] [pl pI z0] [] 0 n3_ (zI z0 0 z0) (Ajx x0 x1 0 z0) hC [] ?_
  obtain ⟨w1, hm1, hret1, hnext1⟩ := As h
  clear h
  refine wc w1 (Amo) (Aod) ?_ λ z1 hs1 => ?_
  ·refine wb ?_
   refine Cc 5 2 rfl rfl λ hl1 => ?_
   refine A8 (by kernel_rfl) (Xe x0 x1) (zI z0) (Ajx x0 x1) w1 z0 z0 hm1 rfl rfl (λ z1 hn1 => ?_) λ n1 a1 z1 w1b hi1 hx1 h hb1 hr1 => ?_
   ·clear hm1
    exact wx w1 (Amo) (Aod) I_ 26 [false] [] [] 0 [2] z1 hC [pq (Ba hl1)] hn1
   ·unfold Xe at h
    refine ws I_ 30 [true] [pl Bi x0.Ag] [] 0 n3_ (Vw x0 z0 n1 0 z1) (uU x0 x1 0 z1) hC [pq (A9 hi1 hl1)] ?_
    obtain ⟨w2, hm2, hret2, hnext2⟩ := As h
    clear h
    refine wc w2 (Amn z0 n1) (Aoc x0 x1) ?_ λ z2 hs2 => ?_
    ·refine wb ?_
     refine Bm 28 rfl λ hl2 => ?_
     refine A8 (by kernel_rfl) (P3 x1) (Vw x0 z0 n1) (uU x0 x1) w2 x0.Ag z1 hm2 rfl rfl (λ z2 hn2 => ?_) λ n2 a2 z2 w2b hi2 hx2 h hb2 hr2 => ?_
     ·clear hm2
      exact wx w2 (Amn z0 n1) (Aoc x0 x1) I_ 26 [false] [] [] 0 n3_ z2 hC [pq (Ba hl2)] hn2
     ·unfold P3 at h
      obtain ⟨y7, h8, h⟩ := Ad h
      rcases cB h with ⟨h9, h⟩ | ⟨h9, h⟩
      ·obtain ⟨y10, h11, h⟩ := Ad h
       obtain ⟨y12, h13, h⟩ := Ad h
       obtain ⟨y14, h15, h⟩ := Ad h
       obtain ⟨y16, h17, h⟩ := Ad h
       obtain ⟨y18, h19, h⟩ := Ad h
       exact wx w2b (Vw x0 z0 n1 (n2 + 1)) (uU x0 x1 (n2 + 1)) I_ 38 [true, true] [pt hx2 hl2, pR pB h8, pr pI h11, pn pI h11, pr pI h13, pn pI h13, pr pI h11, pu pI h11 h15, pr pI h17, pu pI h17 h19] [] 0 n3_ y18 hC [pq (A9 hi2 hl2), pq h9] (sI h).symm
      ·exact wx w2b (Vw x0 z0 n1 (n2 + 1)) (uU x0 x1 (n2 + 1)) I_ 36 [true, false] [pt hx2 hl2, pR pB h8] [] 0 n3_ z2 hC [pq (A9 hi2 hl2), pq h9] (sI h).symm
    ·have h := hnext2 _ hs2
     exact wx w1b (zI z0 (n1 + 1)) (Ajx x0 x1 (n1 + 1)) I_ 23 [] [] [] 0 n3_ z2 hC [] (sI h).symm
  ·have h := hnext1 _ hs1
   replace h := sI h
   subst h
   exact wr I_ 23 [] [] [] 0 [0] hC []
theorem A45 : EN 142 := en Tryz.func142
def qH : List Nat := [0, 1, 2, 3, 4, 5, 8, 9, 10, 11, 13, 14, 15, 16, 36]
def yW (x0 : Aa) (x2 : Int) (x3 : Int) (n0 : Nat) (z0 : Unit) : St := [(2, dI x2), (3, dI x3), (5, dO 0 0), (8, dI 0), (9, dB false), (13, .d (DS Bi x0.Ag)), (14, dI (ln x0.Ag)), (15, dI (cnt 0 n0))]
def Ajl (x1 : Ab) (n0 : Nat) (z0 : Unit) : List Res := [.box 36 (d36 x1)]
def Amb  (z0 : Unit) : St := [(8, dI 0), (9, dB false)]
def An0  (z0 : Unit) : List Res := []
theorem A2p (x0 : Aa) (x1 : Ab) (x2 : Int) (x3 : Int) (r : Int × Bool) (h : Abg x0 x1 x2 x3 = some r) : CO 195 [.agg (d29 x0), .agg (d36 x1), .d (I x2), .d (I x3)] [] (.tup [.d (I r.1), .d (Bo r.2)]) [] := by
 unfold Abg at h
 refine co 40 Tryz.func195 λ C hC => ?_
 refine ws qH 26 [] [pl Bi x0.Ag] [] 0 [1] (yW x0 x2 x3 0 ()) (Ajl x1 0 ()) hC [] ?_
 obtain ⟨w0, hm0, hret0, hnext0⟩ := As h
 clear h
 refine wc w0 (Amb) (An0) ?_ λ z0 hs0 => ?_
 ·refine wb ?_
  refine Bm 13 rfl λ hl0 => ?_
  refine A8 (by kernel_rfl) (Py x1 x2 x3) (yW x0 x2 x3) (Ajl x1) w0 x0.Ag () hm0 rfl rfl (λ z0 hn0 => ?_) λ n0 a0 z0 w0b hi0 hx0 h hb0 hr0 => ?_
  ·clear hm0
   exact wx w0 (Amb) (An0) qH 26 [false] [] [] 0 [] () hC [pq (Ba hl0)] hn0
  ·unfold Py at h
   obtain ⟨y1, h2, h⟩ := Ad h
   rcases cB h with ⟨h3, h⟩ | ⟨h3, h⟩
   ·have hq := hret0 _ (hr0 _ (sI h).symm)
    replace hq := sI hq
    subst hq
    exact wr qH 35 [true, true] [pt hx0 hl0, pR pB h2] [] 0 [] hC [pq (A9 hi0 hl0), pq h3]
   ·exact wx w0b (yW x0 x2 x3 (n0 + 1)) (Ajl x1 (n0 + 1)) qH 36 [true, false] [pt hx0 hl0, pR pB h2] [] 0 [0] () hC [pq (A9 hi0 hl0), pq h3] (sI h).symm
 ·have h := hnext0 _ hs0
  replace h := sI h
  subst h
  exact wr qH 23 [] [] [] 0 [] hC []
theorem A4j : EN 195 := en Tryz.func195
theorem A3a (x0 : Ai) (r : Bool) (h : Aro x0 = r) : CO 146 [.agg (d84 x0)] [] (.d (Bo r)) [] := by
 unfold Aro at h
 refine co 7 Tryz.func146 λ C hC => ?_
 subst h
 exact wr n3_ 25 [] [pl pI x0.An] [] 0 [] hC []
theorem A44 : EN 146 := en Tryz.func146
def Wh : List Nat := [0, 1, 2, 3, 5, 7, 8, 9, 10, 11]
def S6 (x1 : List Int) (n0 : Nat) (z0 : (List Af)) : St := [(3, dO 4 0), (5, dO 5 0), (8, .d (DS pI x1)), (9, dI (ln x1)), (10, dI (cnt 0 n0))]
def Zt (x0 : Ab) (x2 : Af) (n0 : Nat) (z0 : (List Af)) : List Res := [v2_ x0.Ah, v4_ z0, v0_ x0.Ar, v3_ x0.Ao, .box 36 [.os 0, .os 1, .os 2, .os 3], .box 120 (T7 x2)]
def Ac2  (z0 : (List Af)) : St := []
def Aek (x0 : Ab) (z0 : (List Af)) : List Res := [v2_ x0.Ah, v4_ z0, v0_ x0.Ar, v3_ x0.Ao]
theorem Ahd (x0 : Ab) (x1 : List Int) (x2 : Af) (r : (List Af)) (h : M9 x0 x1 x2 = some r) : CO 117 [.agg [.os 0, .os 1, .os 2, .os 3], .d (DS pI x1), .agg (T7 x2)] (zp x0 []) (.tup []) [v2_ x0.Ah, v4_ r, v0_ x0.Ar, v3_ x0.Ao] := by
 unfold M9 at h
 refine co 29 Tryz.func117 λ C hC => ?_
 refine ws Wh 25 [] [pl pI x1] [] 4 n6_ (S6 x1 0 x0.Ac) (Zt x0 x2 0 x0.Ac) hC [] ?_
 obtain ⟨w0, hm0, hret0, hnext0⟩ := As h
 clear h
 refine wc w0 (Ac2) (Aek x0) ?_ λ z0 hs0 => ?_
 ·refine wb ?_
  refine Bm 8 rfl λ hl0 => ?_
  refine A8 (by kernel_rfl) (Og x2) (S6 x1) (Zt x0 x2) w0 x1 x0.Ac hm0 rfl rfl (λ z0 hn0 => ?_) λ n0 a0 z0 w0b hi0 hx0 h hb0 hr0 => ?_
  ·clear hm0
   exact wx w0 (Ac2) (Aek x0) Wh 26 [false] [] [] 4 n4_ z0 hC [pq (Ba hl0)] hn0
  ·unfold Og at h
   obtain ⟨y1, h2, h⟩ := Ad h
   obtain ⟨y3, h4, h⟩ := Ad h
   obtain ⟨y5, h6, h⟩ := Ad h
   obtain ⟨y7, h8, h⟩ := Ad h
   exact wx w0b (S6 x1 (n0 + 1)) (Zt x0 x2 (n0 + 1)) Wh 33 [true] [pt hx0 hl0, pr A6 h2, pu A6 h2 h4, pr A6 h6, pu A6 h6 h8] [] 4 n6_ y7 hC [pq (A9 hi0 hl0)] (sI h).symm
 ·have h := hnext0 _ hs0
  replace h := sI h
  subst h
  exact wf Wh 20 [] [] [] 4 n4_ hC []
theorem Ah8 : EN 117 := en Tryz.func117
theorem k59 (x0 : Bf) (r : Bool) (h : F59 x0 = r) : CO 59 [.agg (d31 x0)] [] (.d (Bo r)) [] := by
 unfold F59 at h
 refine co 33 Tryz.func59 λ C hC => ?_
 subst h
 exact wr n3_ 25 [] [] [] 0 [] hC []
theorem e59 : EN 59 := en Tryz.func59
def Wg : List Nat := [0, 1, 4, 5, 10, 12, 13, 14, 24]
def zR (x0 : List Bool) (x1 : List Bool) (n0 : Nat) (z0 : Unit) : St := [(0, .d (DS pB x0)), (1, .d (DS pB x1)), (4, dB false), (12, dI (ln x0)), (13, dI (cnt 0 n0))]
def Aj6  (n0 : Nat) (z0 : Unit) : List Res := []
def Am0  (z0 : Unit) : St := [(4, dB false)]
def Aop  (z0 : Unit) : List Res := []
theorem A9e (x0 : List Bool) (x1 : List Bool) (r : Bool) (h : jA x0 x1 = some r) : CO 118 [.d (DS pB x0), .d (DS pB x1)] [] (.d (Bo r)) [] := by
 unfold jA at h
 refine co 26 Tryz.func118 λ C hC => ?_
 rcases cB h with ⟨h1, h⟩ | ⟨h1, h⟩
 ·replace h := sI h
  subst h
  exact wr Wg 29 [true] [pl pB x0, pl pB x1] [] 0 [] hC [pq h1]
 ·refine ws Wg 31 [false] [pl pB x0, pl pB x1, pl pB x0] [] 0 [] (zR x0 x1 0 ()) (Aj6 0 ()) hC [pq h1] ?_
  obtain ⟨w0, hm0, hret0, hnext0⟩ := As h
  clear h
  refine wc w0 (Am0) (Aop) ?_ λ z0 hs0 => ?_
  ·refine wb ?_
   refine Bm 0 rfl λ hl0 => ?_
   refine A8 (by kernel_rfl) (P9 x1) (zR x0 x1) (Aj6) w0 x0 () hm0 rfl rfl (λ z0 hn0 => ?_) λ n0 a0 z0 w0b hi0 hx0 h hb0 hr0 => ?_
   ·clear hm0
    exact wx w0 (Am0) (Aop) Wg 26 [false] [] [] 0 [] () hC [pq (Ba hl0)] hn0
   ·unfold P9 at h
    obtain ⟨y2, h3, h⟩ := Ad h
    rcases cB h with ⟨h4, h⟩ | ⟨h4, h⟩
    ·have hq := hret0 _ (hr0 _ (sI h).symm)
     replace hq := sI hq
     subst hq
     exact wr Wg 35 [true, true] [pt hx0 hl0, pr pB h3] [] 0 [] hC [pq (A9 hi0 hl0), pq h4]
    ·exact wx w0b (zR x0 x1 (n0 + 1)) (Aj6 (n0 + 1)) Wg 36 [true, false] [pt hx0 hl0, pr pB h3] [] 0 [] () hC [pq (A9 hi0 hl0), pq h4] (sI h).symm
  ·have h := hnext0 _ hs0
   replace h := sI h
   subst h
   exact wr Wg 23 [] [] [] 0 [] hC []
theorem A_w : EN 118 := en Tryz.func118
def Wf : List Nat := [0, 1, 4, 5, 10, 12, 13, 14, 24]
def zQ (x0 : List Af) (x1 : List Af) (n0 : Nat) (z0 : Unit) : St := [(0, .d (DS A6 x0)), (1, .d (DS A6 x1)), (4, dB false), (12, dI (ln x0)), (13, dI (cnt 0 n0))]
def Aj5  (n0 : Nat) (z0 : Unit) : List Res := []
def Amz  (z0 : Unit) : St := [(4, dB false)]
def Aoo  (z0 : Unit) : List Res := []
theorem A9d (x0 : List Af) (x1 : List Af) (r : Bool) (h : Z_ x0 x1 = some r) : CO 119 [.d (DS A6 x0), .d (DS A6 x1)] [] (.d (Bo r)) [] := by
 unfold Z_ at h
 refine co 26 Tryz.func119 λ C hC => ?_
 rcases cB h with ⟨h1, h⟩ | ⟨h1, h⟩
 ·replace h := sI h
  subst h
  exact wr Wf 29 [true] [pl A6 x0, pl A6 x1] [] 0 [] hC [pq h1]
 ·refine ws Wf 31 [false] [pl A6 x0, pl A6 x1, pl A6 x0] [] 0 [] (zQ x0 x1 0 ()) (Aj5 0 ()) hC [pq h1] ?_
  obtain ⟨w0, hm0, hret0, hnext0⟩ := As h
  clear h
  refine wc w0 (Amz) (Aoo) ?_ λ z0 hs0 => ?_
  ·refine wb ?_
   refine Bm 0 rfl λ hl0 => ?_
   refine A8 (by kernel_rfl) (P8 x1) (zQ x0 x1) (Aj5) w0 x0 () hm0 rfl rfl (λ z0 hn0 => ?_) λ n0 a0 z0 w0b hi0 hx0 h hb0 hr0 => ?_
   ·clear hm0
    exact wx w0 (Amz) (Aoo) Wf 26 [false] [] [] 0 [] () hC [pq (Ba hl0)] hn0
   ·unfold P8 at h
    obtain ⟨y2, h3, h⟩ := Ad h
    rcases cB h with ⟨h4, h⟩ | ⟨h4, h⟩
    ·have hq := hret0 _ (hr0 _ (sI h).symm)
     replace hq := sI hq
     subst hq
     exact wr Wf 35 [true, true] [pt hx0 hl0, pr A6 h3] [] 0 [] hC [pq (A9 hi0 hl0), pq h4]
    ·exact wx w0b (zQ x0 x1 (n0 + 1)) (Aj5 (n0 + 1)) Wf 36 [true, false] [pt hx0 hl0, pr A6 h3] [] 0 [] () hC [pq (A9 hi0 hl0), pq h4] (sI h).symm
  ·have h := hnext0 _ hs0
   replace h := sI h
   subst h
   exact wr Wf 23 [] [] [] 0 [] hC []
theorem A_v : EN 119 := en Tryz.func119
def We : List Nat := [0, 1, 4, 5, 10, 12, 13, 14, 24]
def zP (x0 : List Int) (x1 : List Int) (n0 : Nat) (z0 : Unit) : St := [(0, .d (DS pI x0)), (1, .d (DS pI x1)), (4, dB false), (12, dI (ln x0)), (13, dI (cnt 0 n0))]
def Aj4  (n0 : Nat) (z0 : Unit) : List Res := []
def Amy  (z0 : Unit) : St := [(4, dB false)]
def Aon  (z0 : Unit) : List Res := []
theorem A9c (x0 : List Int) (x1 : List Int) (r : Bool) (h : Z9 x0 x1 = some r) : CO 120 [.d (DS pI x0), .d (DS pI x1)] [] (.d (Bo r)) [] := by
 unfold Z9 at h
 refine co 26 Tryz.func120 λ C hC => ?_
 rcases cB h with ⟨h1, h⟩ | ⟨h1, h⟩
 ·replace h := sI h
  subst h
  exact wr We 29 [true] [pl pI x0, pl pI x1] [] 0 [] hC [pq h1]
 ·refine ws We 31 [false] [pl pI x0, pl pI x1, pl pI x0] [] 0 [] (zP x0 x1 0 ()) (Aj4 0 ()) hC [pq h1] ?_
  obtain ⟨w0, hm0, hret0, hnext0⟩ := As h
  clear h
  refine wc w0 (Amy) (Aon) ?_ λ z0 hs0 => ?_
  ·refine wb ?_
   refine Bm 0 rfl λ hl0 => ?_
   refine A8 (by kernel_rfl) (P7 x1) (zP x0 x1) (Aj4) w0 x0 () hm0 rfl rfl (λ z0 hn0 => ?_) λ n0 a0 z0 w0b hi0 hx0 h hb0 hr0 => ?_
   ·clear hm0
    exact wx w0 (Amy) (Aon) We 26 [false] [] [] 0 [] () hC [pq (Ba hl0)] hn0
   ·unfold P7 at h
    obtain ⟨y2, h3, h⟩ := Ad h
    rcases cB h with ⟨h4, h⟩ | ⟨h4, h⟩
    ·have hq := hret0 _ (hr0 _ (sI h).symm)
     replace hq := sI hq
     subst hq
     exact wr We 35 [true, true] [pt hx0 hl0, pr pI h3] [] 0 [] hC [pq (A9 hi0 hl0), pq h4]
    ·exact wx w0b (zP x0 x1 (n0 + 1)) (Aj4 (n0 + 1)) We 36 [true, false] [pt hx0 hl0, pr pI h3] [] 0 [] () hC [pq (A9 hi0 hl0), pq h4] (sI h).symm
  ·have h := hnext0 _ hs0
   replace h := sI h
   subst h
   exact wr We 23 [] [] [] 0 [] hC []
theorem A_u : EN 120 := en Tryz.func120
def Wd : List Nat := [0, 1, 4, 5, 10, 12, 13, 14, 24]
def zO (x0 : List Am) (x1 : List Am) (n0 : Nat) (z0 : Unit) : St := [(0, .d (DS q86 x0)), (1, .d (DS q86 x1)), (4, dB false), (12, dI (ln x0)), (13, dI (cnt 0 n0))]
def Aj3  (n0 : Nat) (z0 : Unit) : List Res := []
def Amx  (z0 : Unit) : St := [(4, dB false)]
def Aom  (z0 : Unit) : List Res := []
theorem A9b (x0 : List Am) (x1 : List Am) (r : Bool) (h : Z8 x0 x1 = some r) : CO 121 [.d (DS q86 x0), .d (DS q86 x1)] [] (.d (Bo r)) [] := by
 unfold Z8 at h
 refine co 26 Tryz.func121 λ C hC => ?_
 rcases cB h with ⟨h1, h⟩ | ⟨h1, h⟩
 ·replace h := sI h
  subst h
  exact wr Wd 29 [true] [pl q86 x0, pl q86 x1] [] 0 [] hC [pq h1]
 ·refine ws Wd 31 [false] [pl q86 x0, pl q86 x1, pl q86 x0] [] 0 [] (zO x0 x1 0 ()) (Aj3 0 ()) hC [pq h1] ?_
  obtain ⟨w0, hm0, hret0, hnext0⟩ := As h
  clear h
  refine wc w0 (Amx) (Aom) ?_ λ z0 hs0 => ?_
  ·refine wb ?_
   refine Bm 0 rfl λ hl0 => ?_
   refine A8 (by kernel_rfl) (P6 x1) (zO x0 x1) (Aj3) w0 x0 () hm0 rfl rfl (λ z0 hn0 => ?_) λ n0 a0 z0 w0b hi0 hx0 h hb0 hr0 => ?_
   ·clear hm0
    exact wx w0 (Amx) (Aom) Wd 26 [false] [] [] 0 [] () hC [pq (Ba hl0)] hn0
   ·unfold P6 at h
    obtain ⟨y2, h3, h⟩ := Ad h
    rcases cB h with ⟨h4, h⟩ | ⟨h4, h⟩
    ·have hq := hret0 _ (hr0 _ (sI h).symm)
     replace hq := sI hq
     subst hq
     exact wr Wd 35 [true, true] [pt hx0 hl0, pr q86 h3] [] 0 [] hC [pq (A9 hi0 hl0), pq h4]
    ·exact wx w0b (zO x0 x1 (n0 + 1)) (Aj3 (n0 + 1)) Wd 36 [true, false] [pt hx0 hl0, pr q86 h3] [] 0 [] () hC [pq (A9 hi0 hl0), pq h4] (sI h).symm
  ·have h := hnext0 _ hs0
   replace h := sI h
   subst h
   exact wr Wd 23 [] [] [] 0 [] hC []
theorem A_t : EN 121 := en Tryz.func121
theorem Ay8 (x0 : Int) (x1 : A0) (r : Bool) (h : Rw x0 x1 = r) : CO 58 [.d (I x0), .d (.ip [.v (.int .i64 x1.Time), .s (x1.Power.Ah.map pB), .s (x1.Power.Ac.map A6), .s (x1.Power.Ar.map pI), .s (x1.Power.Ao.map q86), .s (x1.A5.map B2), .s (x1.A7.map q51)])] [] (.d (Bo r)) [] := by
 unfold Rw at h
 refine co 12 Tryz.func58 λ C hC => ?_
 subst h
 exact wr [0, 1, 3] 25 [] [] [] 0 [] hC []
theorem Azc : EN 58 := en Tryz.func58
theorem A9a (x0 : List Az) (r : List Az) (h : Arq x0 = some r) : CO 123 [.d (.p (.s (x0.map B2)))] [] (.d (.os 0)) [v5_ r] := by
 unfold Arq at h
 refine co 8 Tryz.func123 λ C hC => ?_
 refine ws [0, 4] 40 [] [] [] 0 [] [(0, .d (.p (.s (x0.map B2)))), (4, .d (.nq (x0.map B2)))] [] hC [] ?_
 refine Wt 4 (by kernel_rfl) (by kernel_rfl) rfl (λ hn => ?_) ?_
 ·have hx : x0 = [] := by cases x0 with | nil => rfl | cons => cases hn
  subst hx
  have hr : r = [] := by simpa [appI] using h.symm
  subst hr
  exact wr [2] 40 [] [] [.own 2 130 2] 0 [0] hC []
 ·exact wr [2] 40 [] [⟨.own, trivial⟩, ⟨.app [] (x0.map B2) 2 ((([] : List (List Pd)).length + (x0.map B2).length) * (16 + 1)) (r.map B2), H0 (l := []) B2 2 (λ _ => rfl) h⟩] [] 0 [1] hC []
theorem A_s : EN 123 := en Tryz.func123
theorem k84 (x0 : List Bg) (r : List Bg) (h : F84 x0 = some r) : CO 84 [.d (.p (.s (x0.map q51)))] [] (.d (.os 0)) [v1_ r] := by
 unfold F84 at h
 refine co 8 Tryz.func84 λ C hC => ?_
 refine ws [0, 4] 40 [] [] [] 0 [] [(0, .d (.p (.s (x0.map q51)))), (4, .d (.nq (x0.map q51)))] [] hC [] ?_
 refine Wt 4 (by kernel_rfl) (by kernel_rfl) rfl (λ hn => ?_) ?_
 ·have hx : x0 = [] := by cases x0 with | nil => rfl | cons => cases hn
  subst hx
  have hr : r = [] := by simpa [appI] using h.symm
  subst hr
  exact wr [2] 40 [] [] [.own 2 51 5] 0 [0] hC []
 ·exact wr [2] 40 [] [⟨.own, trivial⟩, ⟨.app [] (x0.map q51) 5 ((([] : List (List Pd)).length + (x0.map q51).length) * (40 + 1)) (r.map q51), H0 (l := []) q51 5 (λ _ => rfl) h⟩] [] 0 [1] hC []
theorem e84 : EN 84 := en Tryz.func84
def qI : List Nat := [0, 1, 2, 3, 6, 7, 8, 9, 14, 19, 23]
theorem Yp (x0 : Aa) (x1 : Int) (x2 : Int) (r : Bool) (h : J0 x0 x1 x2 = r) : CO 181 [.agg (d29 x0), .d (I x1), .d (I x2)] [] (.d (Bo r)) [] := by
 unfold J0 at h
 refine co 35 Tryz.func181 λ C hC => ?_
 rcases cB h with ⟨h1, h⟩ | ⟨h1, h⟩
 ·subst h
  exact wr qI 36 [true] [pl Bt x0.Ac] [] 0 [] hC [pq h1]
 ·rcases cB h with ⟨h2, h⟩ | ⟨h2, h⟩
  ·subst h
   exact wr qI 39 [false, true] [pl Bi x0.Ag] [] 0 [] hC [pq h1, pq h2]
  ·rcases cB h with ⟨h3, h⟩ | ⟨h3, h⟩
   ·subst h
    exact wr qI 42 [false, false, true] [] [] 0 [] hC [pq h1, pq h2, pq h3]
   ·rcases cB h with ⟨h4, h⟩ | ⟨h4, h⟩
    ·subst h
     exact wr qI 45 [false, false, false, true] [pl q65 x0.Ae] [] 0 [] hC [pq h1, pq h2, pq h3, pq h4]
    ·subst h
     exact wr qI 45 [false, false, false, false] [] [] 0 [] hC [pq h1, pq h2, pq h3, pq h4]
theorem Yw : EN 181 := en Tryz.func181
def qG : List Nat := [0, 1, 3, 4, 5, 7, 8, 9, 16]
def yV (x0 : List Am) (n0 : Nat) (z0 : Unit) : St := [(0, .d (DS q86 x0)), (3, dO 0 0), (4, dI 0), (7, dI (ln x0)), (8, dI (cnt 0 n0))]
def Ajk (x1 : Am) (n0 : Nat) (z0 : Unit) : List Res := [.box 86 (d86 x1)]
def Ama  (z0 : Unit) : St := [(4, dI 0)]
def Anz  (z0 : Unit) : List Res := []
theorem A8h (x0 : List Am) (x1 : Am) (r : Int) (h : Arg x0 x1 = some r) : CO 200 [.d (DS q86 x0), .agg (d86 x1)] [] (.d (I r)) [] := by
 unfold Arg at h
 refine co 19 Tryz.func200 λ C hC => ?_
 refine ws qG 26 [] [pl q86 x0] [] 0 [0] (yV x0 0 ()) (Ajk x1 0 ()) hC [] ?_
 obtain ⟨w0, hm0, hret0, hnext0⟩ := As h
 clear h
 refine wc w0 (Ama) (Anz) ?_ λ z0 hs0 => ?_
 ·refine wb ?_
  refine Bm 0 rfl λ hl0 => ?_
  refine A8 (by kernel_rfl) (Abf x1) (yV x0) (Ajk x1) w0 x0 () hm0 rfl rfl (λ z0 hn0 => ?_) λ n0 a0 z0 w0b hi0 hx0 h hb0 hr0 => ?_
  ·clear hm0
   exact wx w0 (Ama) (Anz) qG 26 [false] [] [] 0 [] () hC [pq (Ba hl0)] hn0
  ·unfold Abf at h
   rcases cB h with ⟨h1, h⟩ | ⟨h1, h⟩
   ·have hq := hret0 _ (hr0 _ (sI h).symm)
    replace hq := sI hq
    subst hq
    exact wr qG 35 [true, true] [pt hx0 hl0] [] 0 [] hC [pq (A9 hi0 hl0), pq h1]
   ·exact wx w0b (yV x0 (n0 + 1)) (Ajk x1 (n0 + 1)) qG 36 [true, false] [pt hx0 hl0] [] 0 [0] () hC [pq (A9 hi0 hl0), pq h1] (sI h).symm
 ·have h := hnext0 _ hs0
  replace h := sI h
  subst h
  exact wr qG 23 [] [] [] 0 [] hC []
theorem A9z : EN 200 := en Tryz.func200
theorem Aha (x0 : Int) (r : Int) (h : Fq x0 = r) : CO 229 [.d (I x0)] [] (.d (I r)) [] := by
 unfold Fq at h
 refine co 10 Tryz.func229 λ C hC => ?_
 rcases cB h with ⟨h1, h⟩ | ⟨h1, h⟩
 ·subst h
  exact wr [0, 2, 6] 32 [true] [⟨.nz 3600, Kk rfl⟩] [] 0 [] hC [pq h1]
 ·subst h
  exact wr [0, 2, 6] 32 [false] [⟨.nz 3600, Kk rfl⟩] [] 0 [] hC [pq h1]
theorem Ah5 : EN 229 := en Tryz.func229
theorem A10 (x0 : Ak) (x1 : Int) (r : Bool) (h : vY x0 x1 = r) : CO 244 [.agg (Ot x0), .d (.ip [.v (.int .i64 x1)])] [] (.d (Bo r)) [] := by
 unfold vY at h
 refine co 13 Tryz.func244 λ C hC => ?_
 subst h
 exact wr n4_ 25 [] [] [] 0 [] hC []
theorem A3u : EN 244 := en Tryz.func244
theorem A2u (x0 : A3) (x1 : Int) (x2 : Int) (r : Int × A3) (h : Vd x0 x1 x2 = some r) : CO 187 [.d (.o 0 0), .d (I x1), .d (I x2)] (.box 186 (zb x0.Al [.os 1, .os 2, .os 3, .os 4, I x0.time]) :: zp x0.Au []) (.d (I r.1)) (.box 186 (zb r.2.Al [.os 1, .os 2, .os 3, .os 4, I r.2.time]) :: zp r.2.Au []) := by
 unfold Vd at h
 refine co 30 Tryz.func187 λ C hC => ?_
 obtain ⟨y1, h2, h⟩ := Ad h
 rcases cB h with ⟨h3, h⟩ | ⟨h3, h⟩
 ·replace h := sI h
  subst h
  exact wr [0, 1, 2, 6, 21] 29 [true] [pR q65 h2] [] 5 n5_ hC [pq h3]
 ·obtain ⟨y4, h5, h⟩ := Ad h
  obtain ⟨y6, h7, h⟩ := Ad h
  replace h := sI h
  subst h
  exact wr [0, 1, 2, 6, 21] 32 [false] [pR q65 h2, pr pI h5, pu pI h5 h7] [] 5 n5_ hC [pq h3]
theorem A4o : EN 187 := en Tryz.func187
theorem A19 (x0 : Am) (x1 : Am) (r : Int) (h : Ry x0 x1 = r) : CO 224 [.agg (d86 x0), .agg (d86 x1)] [] (.d (I r)) [] := by
 unfold Ry at h
 refine co 20 Tryz.func224 λ C hC => ?_
 rcases cB h with ⟨h1, h⟩ | ⟨h1, h⟩
 ·subst h
  exact wr [0, 1, 2, 3, 4, 9] 29 [true] [] [] 0 [] hC [pq h1]
 ·subst h
  exact wr [0, 1, 2, 3, 4, 9] 30 [false] [] [] 0 [] hC [pq h1]
theorem A33 : EN 224 := en Tryz.func224
def Aak : List Nat := [0, 1, 2, 6, 7, 8, 9, 16, 22, 31, 68]
theorem A18 (x0 : List Am) (x1 : Int) (x2 : List Am) (r : (List Am)) (h : Ps x0 x1 x2 = some r) : CO 225 [.d (.os 0), .d (I x1), .d (DS q86 x2)] [v3_ x0] (.d (.os 1)) [.non, v3_ r] := by
 by_cases hh : ((ln x2) == 0) = false /\ (x1 == (ln x0)) = false
 ·unfold Ps at h
  exact A0u (enc := q86) (λ _ => rfl) hh.1 hh.2 h
 unfold Ps at h
 refine co 95 Tryz.func225 λ C hC => ?_
 obtain ⟨u2, h1, h⟩ := Ad h
 rcases cB h with ⟨h3, h⟩ | ⟨h3, h⟩
 ·replace h := sI h
  subst h
  exact wr Aak 33 [true] [⟨.bnd (x0.map q86).length x1 (((x0.map q86).length : Nat) : Int) (ln x0), Eb (by simp) (by simp) h1⟩, pl q86 x2] [.mv 0] 1 [0, 1] hC [pq h3]
 ·refine wn Aak 37 [false] [⟨.bnd (x0.map q86).length x1 (((x0.map q86).length : Nat) : Int) (ln x0), Eb (by simp) (by simp) h1⟩, pl q86 x2, pl q86 x0] [] 1 [0] [0, 1, 2, 6, 7, 8, 22] hC [pq h3] ?_
  rcases cB h with ⟨h4, h⟩ | ⟨h4, h⟩
  ·obtain ⟨y5, h6, h⟩ := Ad h
   replace h := sI h
   subst h
   exact wr Aak 24 [true] [pa q86 2 h6] [] 1 [0, 1] hC [pq h4]
  ·exact absurd ⟨h3, h4⟩ hh
theorem A32 : EN 225 := en Tryz.func225
theorem A17 (x0 : List Am) (x1 : Int) (x2 : Int) (r : (List Am)) (h : Uy x0 x1 x2 = some r) : CO 226 [.d (.os 0), .d (I x1), .d (I x2)] [.sl 86 2 (x0.map q86)] (.d (.os 1)) [.non, .sl 86 2 (r.map q86)] := by
 unfold Uy at h
 refine co 33 Tryz.func226 λ C hC => ?_
 obtain ⟨u2, h1, h⟩ := Ad h
 rcases cB h with ⟨h3, h⟩ | ⟨h3, h⟩
 ·replace h := sI h
  subst h
  exact wr [0, 1, 2, 6, 7, 16] 31 [true] [pl q86 x0, ⟨.bnd3 (x0.map q86).length x1 x2 (ln x0), Aiy (by simp) h1⟩] [.mv 0] 1 [0, 1] hC [pq h3]
 ·obtain ⟨u5, h4, h⟩ := Ad h
  obtain ⟨u7, h6, h⟩ := Ad h
  obtain ⟨y8, h9, h⟩ := Ad h
  obtain ⟨u11, h10, h⟩ := Ad h
  replace h := sI h
  subst h
  (rw [List.map_take]; exact uR (bs := [((x1 == x2), false)]) Hh [0, 1, 2, 6, 7, 16] 38 [false] [.len (ln (x0.map q86)) (ln x0), .bnd3 (x0.map q86).length x1 x2 (ln x0), .len (ln (x0.map q86)) (ln x0), .bnd (x0.map q86).length 0 x1 x1, .bnd (x0.map q86).length x2 (((x0.map q86).length : Nat) : Int) (ln x0), .appP (x0.map q86) (((x0.map q86).drop (Int.toNat x2)).take ((Int.toNat (ln x0)) - (Int.toNat x2))) 2 ((Int.toNat x1) - 0) (((Int.toNat x1) - 0) + ((x0.drop (Int.toNat x2)).take ((Int.toNat (ln x0)) - (Int.toNat x2))).length) ((x0.map q86).take ((Int.toNat x1) - 0) ++ ((((x0.map q86).drop (Int.toNat x2)).take ((Int.toNat (ln x0)) - (Int.toNat x2))) ++ (x0.map q86).drop (((Int.toNat x1) - 0) + (((x0.map q86).drop (Int.toNat x2)).take ((Int.toNat (ln x0)) - (Int.toNat x2))).length))) (y8.map q86), .len (((((Int.toNat x1) - 0) + ((x0.drop (Int.toNat x2)).take ((Int.toNat (ln x0)) - (Int.toNat x2))).length) : Nat) : Int) (((((Int.toNat x1) - 0) + ((x0.drop (Int.toNat x2)).take ((Int.toNat (ln x0)) - (Int.toNat x2))).length) : Nat) : Int), .bnd ((y8.map q86).length - 0) (((((Int.toNat x1) - 0) + ((x0.drop (Int.toNat x2)).take ((Int.toNat (ln x0)) - (Int.toNat x2))).length) : Nat) : Int) (ln x0) (ln x0), .eqr ((y8.map q86).take (0 + (Int.toNat (((((Int.toNat x1) - 0) + ((x0.drop (Int.toNat x2)).take ((Int.toNat (ln x0)) - (Int.toNat x2))).length) : Nat) : Int))) ++ (List.replicate ((Int.toNat (ln x0)) - (Int.toNat (((((Int.toNat x1) - 0) + ((x0.drop (Int.toNat x2)).take ((Int.toNat (ln x0)) - (Int.toNat x2))).length) : Nat) : Int))) (q86 (⟨0, 0⟩ : Am)) ++ (y8.map q86).drop ((0 + (Int.toNat (((((Int.toNat x1) - 0) + ((x0.drop (Int.toNat x2)).take ((Int.toNat (ln x0)) - (Int.toNat x2))).length) : Nat) : Int))) + ((Int.toNat (ln x0)) - (Int.toNat (((((Int.toNat x1) - 0) + ((x0.drop (Int.toNat x2)).take ((Int.toNat (ln x0)) - (Int.toNat x2))).length) : Nat) : Int)))))) ((Ge y8 (0 + (Int.toNat (((((Int.toNat x1) - 0) + ((x0.drop (Int.toNat x2)).take ((Int.toNat (ln x0)) - (Int.toNat x2))).length) : Nat) : Int))) ((Int.toNat (ln x0)) - (Int.toNat (((((Int.toNat x1) - 0) + ((x0.drop (Int.toNat x2)).take ((Int.toNat (ln x0)) - (Int.toNat x2))).length) : Nat) : Int))) (⟨0, 0⟩ : Am)).map q86)] [.trunc 6] [.tmp 6] 1 [0, 1] rfl hC ⟨Wj _ _, Aiy (by simp) h1, Wj _ _, Eb (by simp) rfl h4, Eb (by simp) (by simp) h6, Aye q86 2 (λ _ => rfl) (Yf _ _ _ _) h9, rfl, Eb (by simp) rfl h10, Aa2 q86 rfl, trivial⟩ ⟨h3, trivial⟩ (by kernel_rfl))
theorem A31 : EN 226 := en Tryz.func226
theorem Atp (x0 : A4) (x1 : Ap) (x2 : Int) (r : A4) (h : P5 x0 x1 x2 = some r) : CO 124 [.d (.o 0 0), .agg (d49 x1), .d (I x2)] (.box 100 (I x0.Av.Time :: .os 1 :: .os 2 :: .os 3 :: .os 4 :: .os 5 :: .os 6 :: zb x0.Al [.os 7, .os 8]) :: zp x0.Av.Power [v5_ x0.Av.A5, v1_ x0.Av.A7, v1_ x0.events, v7_ x0.states]) (.tup []) (.box 100 (I r.Av.Time :: .os 1 :: .os 2 :: .os 3 :: .os 4 :: .os 5 :: .os 6 :: zb r.Al [.os 9, .os 8]) :: zp r.Av.Power [v5_ r.Av.A5, v1_ r.Av.A7, .non, v7_ r.states, v1_ r.events]) := by
 unfold P5 at h
 refine co 23 Tryz.func124 λ C hC => ?_
 obtain ⟨y1, h2, h⟩ := Ad h
 replace h := sI h
 subst h
 exact wf [0, 1, 2, 4] 23 [] [pa q51 5 h2] [] 9 [0, 1, 2, 3, 4, 5, 6, 7, 8, 10] hC []
theorem Auj : EN 124 := en Tryz.func124
theorem Ag9 (x0 : Ax) (x1 : Int) (r : Ax) (h : M6 x0 x1 = some r) : CO 230 [.d (.o 0 0), .d (I x1)] (.box 235 (zb x0.Al [.os 1, .os 2, .os 3, .os 4, .os 5]) :: zp x0.Au [v6_ x0.acts]) (.tup []) (.box 235 (zb r.Al [.os 1, .os 2, .os 3, .os 4, .os 6]) :: zp r.Au [.non, v6_ r.acts]) := by
 unfold M6 at h
 refine co 22 Tryz.func230 λ C hC => ?_
 obtain ⟨y1, h2, h⟩ := Ad h
 obtain ⟨y3, h4, h⟩ := Ad h
 obtain ⟨y5, h6, h⟩ := Ad h
 replace h := sI h
 subst h
 exact wf [0, 1] 23 [] [pr pB h2, pu pB h2 h4, pa q49 3 h6] [] 6 n7_ hC []
theorem Ah4 : EN 230 := en Tryz.func230
theorem A13 (x0 : Ak) (x1 : Int) (r : Bool) (h : Uv x0 x1 = r) : CO 235 [.agg (Ot x0), .d (.ip [.v (.int .i64 x1)])] [] (.d (Bo r)) [] := by
 unfold Uv at h
 refine co 13 Tryz.func235 λ C hC => ?_
 subst h
 exact wr n4_ 25 [] [] [] 0 [] hC []
theorem A3x : EN 235 := en Tryz.func235
theorem A8j (x0 : Int) (x1 : Int) (r : Int × Int) (h : Ari x0 x1 = r) : CO 194 [.d (.p (.v (.int .u64 x0))), .d (.p (.v (.int .u64 x1)))] [] (.tup [.d (.p (.v (.int .u64 r.1))), .d (.p (.v (.int .u64 r.2)))]) [] := by
 unfold Ari at h
 refine co 51 Tryz.func194 λ C hC => ?_
 subst h
 exact wr [0, 1, 4, 5, 6, 7, 8, 9, 10, 11, 12, 13] 45 [] [] [] 0 [] hC []
theorem A91 : EN 194 := en Tryz.func194
theorem Atm (x0 : Int) (x1 : Int) (r : Bool) (h : Ky x0 x1 = r) : CO 174 [.d (I x0), .d (.ip [.v (.int .i64 x1)])] [] (.d (Bo r)) [] := by
 unfold Ky at h
 refine co 11 Tryz.func174 λ C hC => ?_
 subst h
 exact wr [0, 1, 3] 25 [] [] [] 0 [] hC []
theorem Aug : EN 174 := en Tryz.func174
theorem A8d (x0 : List Int) : CO 212 [.d (.p (.s (x0.map pI)))] [] (.d (.fn (.func 236) [] [.o 0 0])) [.box 22 [.p (.s (x0.map pI))]] := by
 refine co 4 Tryz.func212 λ C hC => ?_
 exact wr [1, 2] 40 [] [] [] 0 [0] hC []
theorem A9v : EN 212 := en Tryz.func212
theorem A2a (x0 : Ak) (x1 : Int) (r : Bool) (h : yC x0 x1 = r) : CO 219 [.agg (Ot x0), .d (.ip [.v (.int .i64 x1)])] [] (.d (Bo r)) [] := by
 unfold yC at h
 refine co 13 Tryz.func219 λ C hC => ?_
 subst h
 exact wr n4_ 25 [] [] [] 0 [] hC []
theorem A34 : EN 219 := en Tryz.func219
theorem A2y (x0 : Int) (x1 : Bool) (x2 : Int) (r : Int) (h : H7 x0 x1 x2 = r) : CO 176 [.d (I x0), .d (Bo x1), .d (I x2)] [] (.d (I r)) [] := by
 unfold H7 at h
 refine co 15 Tryz.func176 λ C hC => ?_
 rcases cB h with ⟨h1, h⟩ | ⟨h1, h⟩
 ·subst h
  exact wr [0, 1, 2, 6, 7, 10] 30 [true] [] [] 0 [] hC [pq h1]
 ·rcases cB h with ⟨h2, h⟩ | ⟨h2, h⟩
  ·subst h
   exact wr [0, 1, 2, 6, 7, 10] 33 [false, true] [] [] 0 [] hC [pq h1, pq h2]
  ·subst h
   exact wr [0, 1, 2, 6, 7, 10] 35 [false, false] [] [] 0 [] hC [pq h1, pq h2]
theorem A4s : EN 176 := en Tryz.func176
theorem A87 (x0 : Int) (r : Int) (h : Ak3 x0 = r) : CO 129 [.d (I x0)] [] (.d (I r)) [] := by
 unfold Ak3 at h
 refine co 7 Tryz.func129 λ C hC => ?_
 subst h
 exact wr [0, 2] 25 [] [⟨.nz 3600, Kk rfl⟩, ⟨.nz 3600, Kk rfl⟩] [] 0 [] hC []
theorem A_p : EN 129 := en Tryz.func129
def Aai : List Nat := [0, 1, 4, 5, 10, 12, 13, 14, 24]
def Afz (x0 : List Bool) (x1 : List Bool) (n0 : Nat) (z0 : Unit) : St := [(0, .d (DS pB x0)), (1, .d (DS pB x1)), (4, dB false), (12, dI (ln x0)), (13, dI (cnt 0 n0))]
def Aq0  (n0 : Nat) (z0 : Unit) : List Res := []
def Asw  (z0 : Unit) : St := [(4, dB false)]
def Av0  (z0 : Unit) : List Res := []
theorem k37 (x0 : List Bool) (x1 : List Bool) (r : Bool) (h : F37 x0 x1 = some r) : CO 37 [.d (DS pB x0), .d (DS pB x1)] [] (.d (Bo r)) [] := by
 unfold F37 at h
 refine co 26 Tryz.func37 λ C hC => ?_
 rcases cB h with ⟨h1, h⟩ | ⟨h1, h⟩
 ·replace h := sI h
  subst h
  exact wr Aai 29 [true] [pl pB x0, pl pB x1] [] 0 [] hC [pq h1]
 ·refine ws Aai 31 [false] [pl pB x0, pl pB x1, pl pB x0] [] 0 [] (Afz x0 x1 0 ()) (Aq0 0 ()) hC [pq h1] ?_
  obtain ⟨w0, hm0, hret0, hnext0⟩ := As h
  clear h
  refine wc w0 (Asw) (Av0) ?_ λ z0 hs0 => ?_
  ·refine wb ?_
   refine Bm 0 rfl λ hl0 => ?_
   refine A8 (by kernel_rfl) (vU x1) (Afz x0 x1) (Aq0) w0 x0 () hm0 rfl rfl (λ z0 hn0 => ?_) λ n0 a0 z0 w0b hi0 hx0 h hb0 hr0 => ?_
   ·clear hm0
    exact wx w0 (Asw) (Av0) Aai 26 [false] [] [] 0 [] () hC [pq (Ba hl0)] hn0
   ·unfold vU at h
    obtain ⟨y2, h3, h⟩ := Ad h
    rcases cB h with ⟨h4, h⟩ | ⟨h4, h⟩
    ·have hq := hret0 _ (hr0 _ (sI h).symm)
     replace hq := sI hq
     subst hq
     exact wr Aai 35 [true, true] [pt hx0 hl0, pr pB h3] [] 0 [] hC [pq (A9 hi0 hl0), pq h4]
    ·exact wx w0b (Afz x0 x1 (n0 + 1)) (Aq0 (n0 + 1)) Aai 36 [true, false] [pt hx0 hl0, pr pB h3] [] 0 [] () hC [pq (A9 hi0 hl0), pq h4] (sI h).symm
  ·have h := hnext0 _ hs0
   replace h := sI h
   subst h
   exact wr Aai 23 [] [] [] 0 [] hC []
theorem e37 : EN 37 := en Tryz.func37
def Aah : List Nat := [0, 1, 4, 5, 10, 12, 13, 14, 24]
def Afy (x0 : List Int) (x1 : List Int) (n0 : Nat) (z0 : Unit) : St := [(0, .d (DS pI x0)), (1, .d (DS pI x1)), (4, dB false), (12, dI (ln x0)), (13, dI (cnt 0 n0))]
def Aqz  (n0 : Nat) (z0 : Unit) : List Res := []
def Asv  (z0 : Unit) : St := [(4, dB false)]
def Avz  (z0 : Unit) : List Res := []
theorem k38 (x0 : List Int) (x1 : List Int) (r : Bool) (h : F38 x0 x1 = some r) : CO 38 [.d (DS pI x0), .d (DS pI x1)] [] (.d (Bo r)) [] := by
 unfold F38 at h
 refine co 26 Tryz.func38 λ C hC => ?_
 rcases cB h with ⟨h1, h⟩ | ⟨h1, h⟩
 ·replace h := sI h
  subst h
  exact wr Aah 29 [true] [pl pI x0, pl pI x1] [] 0 [] hC [pq h1]
 ·refine ws Aah 31 [false] [pl pI x0, pl pI x1, pl pI x0] [] 0 [] (Afy x0 x1 0 ()) (Aqz 0 ()) hC [pq h1] ?_
  obtain ⟨w0, hm0, hret0, hnext0⟩ := As h
  clear h
  refine wc w0 (Asv) (Avz) ?_ λ z0 hs0 => ?_
  ·refine wb ?_
   refine Bm 0 rfl λ hl0 => ?_
   refine A8 (by kernel_rfl) (vT x1) (Afy x0 x1) (Aqz) w0 x0 () hm0 rfl rfl (λ z0 hn0 => ?_) λ n0 a0 z0 w0b hi0 hx0 h hb0 hr0 => ?_
   ·clear hm0
    exact wx w0 (Asv) (Avz) Aah 26 [false] [] [] 0 [] () hC [pq (Ba hl0)] hn0
   ·unfold vT at h
    obtain ⟨y2, h3, h⟩ := Ad h
    rcases cB h with ⟨h4, h⟩ | ⟨h4, h⟩
    ·have hq := hret0 _ (hr0 _ (sI h).symm)
     replace hq := sI hq
     subst hq
     exact wr Aah 35 [true, true] [pt hx0 hl0, pr pI h3] [] 0 [] hC [pq (A9 hi0 hl0), pq h4]
    ·exact wx w0b (Afy x0 x1 (n0 + 1)) (Aqz (n0 + 1)) Aah 36 [true, false] [pt hx0 hl0, pr pI h3] [] 0 [] () hC [pq (A9 hi0 hl0), pq h4] (sI h).symm
  ·have h := hnext0 _ hs0
   replace h := sI h
   subst h
   exact wr Aah 23 [] [] [] 0 [] hC []
theorem e38 : EN 38 := en Tryz.func38
theorem k35  (r : Aa × Bf) (h : F35  = r) : CO 35 [] [] (.tup [.agg (d29 r.1), .agg (d31 r.2)]) [] := by
 unfold F35 at h
 refine co 13 Tryz.func35 λ C hC => ?_
 subst h
 exact wr [0, 1] 25 [] [] [] 0 [] hC []
theorem e35 : EN 35 := en Tryz.func35
theorem Ahc (x0 : Int) (x1 : Int) (x2 : Int) (r : Bool) (h : Dh x0 x1 x2 = r) : CO 148 [.d (I x0), .d (I x1), .d (I x2)] [] (.d (Bo r)) [] := by
 unfold Dh at h
 refine co 15 Tryz.func148 λ C hC => ?_
 subst h
 exact wr [0, 1, 2, 6] 25 [] [] [] 0 [] hC []
theorem Ah7 : EN 148 := en Tryz.func148
theorem A2n (x0 : Int) (r : Bool) (h : Va x0 = r) : CO 197 [.d (I x0)] [] (.d (Bo r)) [] := by
 unfold Va at h
 refine co 9 Tryz.func197 λ C hC => ?_
 subst h
 exact wr [0, 2] 25 [] [] [] 0 [] hC []
theorem A4h : EN 197 := en Tryz.func197
theorem A6n (x0 : A1) (x1 : Int) (r : Bool) (h : Arc x0 x1 = r) : CO 45 [.agg (d65 x0), .d (.ip [.v (.int .i64 x1)])] [] (.d (Bo r)) [] := by
 unfold Arc at h
 refine co 8 Tryz.func45 λ C hC => ?_
 subst h
 exact wr n4_ 25 [] [] [] 0 [] hC []
theorem A68 : EN 45 := en Tryz.func45
theorem e46 : EN 46 := en Tryz.func46
theorem A8x (x0 : Fk) (r : Bool) (h : Arm x0 = r) : CO 159 [.agg (d70 x0)] [] (.d (Bo r)) [] := by
 unfold Arm at h
 refine co 17 Tryz.func159 λ C hC => ?_
 subst h
 exact wr n3_ 25 [] [] [] 0 [] hC []
theorem A_f : EN 159 := en Tryz.func159
theorem A8f (x0 : Int) (x1 : Int) (r : Int) (h : Ayp x0 x1 = some r) : CO 203 [.d (I x0), .d (I x1)] [] (.d (I r)) [] := by
 unfold Ayp at h
 refine co 16 Tryz.func203 λ C hC => ?_
 obtain ⟨u2, h1, h⟩ := Ad h
 obtain ⟨u4, h3, h⟩ := Ad h
 rcases cB h with ⟨h5, h⟩ | ⟨h5, h⟩
 ·cases h
 ·replace h := sI h
  subst h
  exact wr [0, 1, 4, 5, 12] 32 [false] [⟨.nz x1, O7 h1⟩, ⟨.nz x1, O7 h3⟩] [] 0 [] hC [pq h5]
theorem A9x : EN 203 := en Tryz.func203
def qM : List Nat := [0, 2, 3, 4, 5, 6, 12, 15, 25]
def Vz (x0 : Int) (z0 : Int × Int) : St := [(0, dI x0), (2, dI 0), (3, dI 0), (4, dI z0.1), (5, dI z0.2)]
def uX  (z0 : Int × Int) : List Res := []
def Am4  (z0 : Int × Int) : St := [(2, dI 0), (3, dI 0), (4, dI z0.1)]
def Aot  (z0 : Int × Int) : List Res := []
theorem A9h (x0 : Int) (r : Int × Int) (h : Ayw x0 = some r) : CO 107 [.d (I x0)] [] (.tup [.d (I r.1), .d (I r.2)]) [] := by
 unfold Ayw at h
 refine co 30 Tryz.func107 λ C hC => ?_
 rcases cB h with ⟨h1, h⟩ | ⟨h1, h⟩
 ·cases h
 ·refine ws qM 31 [false] [] [] 0 [] (Vz x0 (0, 1000000000)) (uX (0, 1000000000)) hC [pq h1] ?_
  obtain ⟨w0, hm0, hret0, hnext0⟩ := As h
  clear h
  refine wc w0 (Am4) (Aot) ?_ λ z0 hs0 => ?_
  ·refine wb ?_
   refine By (by kernel_rfl) (Abq x0) (Vz x0) (uX) w0 1152921504606846976 (0, 1000000000) hm0 rfl rfl λ z0 w0b h hb0 hr0 => ?_
   unfold Abq at h
   rcases cB h with ⟨h2, h⟩ | ⟨h2, h⟩
   ·rcases cB h with ⟨h3, h⟩ | ⟨h3, h⟩
    ·exact wx w0b (Vz x0) (uX) qM 34 [true, true] [⟨.nz 2, Kk rfl⟩] [] 0 [] (w64 (Int.tdiv (w64 ((w64 (z0.1 + z0.2)) + 1)) 2), z0.2) hC [pq h2, pq h3] (sI h).symm
    ·exact wx w0b (Vz x0) (uX) qM 34 [true, false] [⟨.nz 2, Kk rfl⟩] [] 0 [] (z0.1, w64 ((w64 (Int.tdiv (w64 ((w64 (z0.1 + z0.2)) + 1)) 2)) - 1)) hC [pq h2, pq h3] (sI h).symm
   ·exact wx w0 (Am4) (Aot) qM 26 [false] [] [] 0 [] (z0.1, z0.2) hC [pq h2] (hb0 _ (sI h).symm)
  ·have h := hnext0 _ hs0
   replace h := sI h
   subst h
   exact wr qM 23 [] [] [] 0 [] hC []
theorem A_z : EN 107 := en Tryz.func107
theorem k90 (x0 : Ai) (r : Bool) (h : F90 x0 = r) : CO 90 [.agg (d84 x0)] [] (.d (Bo r)) [] := by
 unfold F90 at h
 refine co 7 Tryz.func90 λ C hC => ?_
 subst h
 exact wr n3_ 25 [] [pl pI x0.Ac] [] 0 [] hC []
theorem e90 : EN 90 := en Tryz.func90
theorem k32 (x0 : Aj) (x1 : Int) (r : Int × Aj) (h : F32 x0 x1 = some r) : CO 32 [.d (.o 0 0), .d (I x1)] [.box 90 (d90 x0)] (.d (I r.1)) [.box 90 (d90 r.2)] := by
 unfold F32 at h
 refine co 35 Tryz.func32 λ C hC => ?_
 rcases cB h with ⟨h1, h⟩ | ⟨h1, h⟩
 ·replace h := sI h
  subst h
  exact wr [0, 1, 4, 14] 29 [true] [pl pI x0.L] [] 1 [0] hC [pq h1]
 ·obtain ⟨y2, h3, h⟩ := Ad h
  obtain ⟨y4, h5, h⟩ := Ad h
  replace h := sI h
  subst h
  exact wr [0, 1, 4, 14] 32 [false] [pl pI x0.L, pr pI h3, pc e80 (k80 y2 x1 _ h5) []] [] 1 [0] hC [pq h1]
theorem e32 : EN 32 := en Tryz.func32
def Ag2 : List Nat := [0, 1, 2, 3, 4, 6, 7, 16, 25, 33]
theorem k71 (x0 : Aa) (x1 : Am) (r : Bool) (h : F71 x0 x1 = r) : CO 71 [.agg (d29 x0), .agg (d86 x1)] [] (.d (Bo r)) [] := by
 unfold F71 at h
 refine co 42 Tryz.func71 λ C hC => ?_
 rcases cB h with ⟨h1, h⟩ | ⟨h1, h⟩
 ·subst h
  exact wr Ag2 32 [true] [pl Bt x0.Ac, pc Fa (E8 x1.Number 0 (w64 ((ln x0.Ac) - 1)) _ rfl) []] [] 0 [] hC [pq h1]
 ·rcases cB h with ⟨h2, h⟩ | ⟨h2, h⟩
  ·subst h
   exact wr Ag2 35 [false, true] [pl Bi x0.Ag, pc Fa (E8 x1.Number 0 (w64 ((ln x0.Ag) - 1)) _ rfl) []] [] 0 [] hC [pq h1, pq h2]
  ·rcases cB h with ⟨h3, h⟩ | ⟨h3, h⟩
   ·subst h
    exact wr Ag2 38 [false, false, true] [pc Fa (E8 x1.Number 0 (w64 (x0.An - 1)) _ rfl) []] [] 0 [] hC [pq h1, pq h2, pq h3]
   ·rcases cB h with ⟨h4, h⟩ | ⟨h4, h⟩
    ·subst h
     exact wr Ag2 41 [false, false, false, true] [pl q65 x0.Ae, pc Fa (E8 x1.Number 0 (w64 ((ln x0.Ae) - 1)) _ rfl) []] [] 0 [] hC [pq h1, pq h2, pq h3, pq h4]
    ·subst h
     exact wr Ag2 43 [false, false, false, false] [] [] 0 [] hC [pq h1, pq h2, pq h3, pq h4]
theorem e71 : EN 71 := en Tryz.func71
def Cu : List Nat := [0, 1, 2, 3, 4, 6, 7, 8, 10, 11, 12, 13, 23, 25, 26, 37, 38, 47, 48, 57, 61, 62, 63, 64, 69, 74, 75, 76, 82, 86, 87, 88, 94]
def Oy (x0 : Aa) (n0 : Nat) (z0 : Unit) : St := [(1, dO 0 0), (2, dB false), (10, .d (DS Bi x0.Ag)), (11, dI (ln x0.Ag)), (12, dI (cnt 0 n0))]
def Uk (x0 : Aa) (n0 : Nat) (z0 : Unit) : List Res := [.box 29 (d29 x0)]
def Amk  (z0 : Unit) : St := [(1, dO 0 0), (2, dB false)]
def An9 (x0 : Aa) (z0 : Unit) : List Res := [.box 29 (d29 x0)]
def zF (x0 : Aa) (n0 : Nat) (y9 : List Ak) (n1 : Nat) (z1 : Unit) : St := [(1, dO 0 0), (2, dB false), (4, dO 1 0), (10, .d (DS Bi x0.Ag)), (11, dI (ln x0.Ag)), (12, dI (cnt 0 n0)), (61, .d (DS Bi y9)), (62, dI (ln y9)), (63, dI (cnt 0 n1))]
def Aju (x0 : Aa) (a0 : Ak) (n1 : Nat) (z1 : Unit) : List Res := [.box 29 (d29 x0), .box 147 (Ot a0)]
def Amj (x0 : Aa) (n0 : Nat) (z1 : Unit) : St := [(1, dO 0 0), (2, dB false), (10, .d (DS Bi x0.Ag)), (11, dI (ln x0.Ag)), (12, dI (cnt 0 n0))]
def An8 (x0 : Aa) (z1 : Unit) : List Res := [.box 29 (d29 x0)]
def zE (x0 : Aa) (z2 : Int) : St := [(1, dO 0 0), (2, dB false), (74, dI (ln x0.Ac)), (75, dI z2)]
def Ajt (x0 : Aa) (z2 : Int) : List Res := [.box 29 (d29 x0)]
def Ami  (z2 : Int) : St := [(1, dO 0 0), (2, dB false)]
def An7 (x0 : Aa) (z2 : Int) : List Res := [.box 29 (d29 x0)]
def zD (x0 : Aa) (z3 : Int) : St := [(1, dO 0 0), (2, dB false), (86, dI (ln x0.Ae)), (87, dI z3)]
def Ajs (x0 : Aa) (z3 : Int) : List Res := [.box 29 (d29 x0)]
def Amh  (z3 : Int) : St := [(2, dB false)]
def An6  (z3 : Int) : List Res := []
theorem A8v (x0 : Aa) (r : Bool) (h : Akv x0 = some r) : CO 163 [.agg (d29 x0)] [] (.d (Bo r)) [] := by
 unfold Akv at h
 refine co 96 Tryz.func163 λ C hC => ?_
 refine ws Cu 26 [] [pl Bi x0.Ag] [] 0 [0] (Oy x0 0 ()) (Uk x0 0 ()) hC [] ?_
 obtain ⟨w0, hm0, hret0, hnext0⟩ := As h
 clear h
 refine wc w0 (Amk) (An9 x0) ?_ λ z0 hs0 => ?_
 ·refine wb ?_
  refine Bm 10 rfl λ hl0 => ?_
  refine A8 (by kernel_rfl) (Xd x0) (Oy x0) (Uk x0) w0 x0.Ag () hm0 rfl rfl (λ z0 hn0 => ?_) λ n0 a0 z0 w0b hi0 hx0 h hb0 hr0 => ?_
  ·clear hm0
   exact wx w0 (Amk) (An9 x0) Cu 26 [false] [] [] 0 [0] () hC [pq (Ba hl0)] hn0
  ·unfold Xd at h
   refine wn Cu 33 [true] [pt hx0 hl0, pc Fa (E8 a0.A 0 (w64 (x0.An - 1)) _ rfl) []] [] 0 [0, 1] [1, 2, 3, 4, 10, 11, 12, 23] hC [pq (A9 hi0 hl0)] ?_
   rcases cB h with ⟨h1, h⟩ | ⟨h1, h⟩
   ·have hq := hret0 _ (hr0 _ (sI h).symm)
    replace hq := sI hq
    subst hq
    exact wr Cu 24 [true] [] [] 0 [] hC [pq h1]
   ·rcases cB h with ⟨h2, h⟩ | ⟨h2, h⟩
    ·rcases cB h with ⟨h3, h⟩ | ⟨h3, h⟩
     ·have hq := hret0 _ (hr0 _ (sI h).symm)
      replace hq := sI hq
      subst hq
      exact wr Cu 34 [false, true, true] [pc Fa (E8 a0.B (w64 (a0.A + 1)) (w64 (x0.An - 1)) _ rfl) []] [] 0 [] hC [pq h1, pq h2, pq h3]
     ·exact wx w0b (Oy x0 (n0 + 1)) (Uk x0 (n0 + 1)) Cu 36 [false, true, false] [pc Fa (E8 a0.B (w64 (a0.A + 1)) (w64 (x0.An - 1)) _ rfl) []] [] 0 [0] () hC [pq h1, pq h2, pq h3] (sI h).symm
    ·rcases cB h with ⟨h4, h⟩ | ⟨h4, h⟩
     ·refine wn Cu 34 [false, false, true] [pl Bt x0.Ac, pc Fa (E8 a0.B 0 (w64 ((ln x0.Ac) - 1)) _ rfl) []] [] 0 [0] [1, 2, 10, 11, 12, 47] hC [pq h1, pq h2, pq h4] ?_
      rcases cB h with ⟨h5, h⟩ | ⟨h5, h⟩
      ·have hq := hret0 _ (hr0 _ (sI h).symm)
       replace hq := sI hq
       subst hq
       exact wr Cu 24 [true] [] [] 0 [] hC [pq h5]
      ·exact wx w0b (Oy x0 (n0 + 1)) (Uk x0 (n0 + 1)) Cu 26 [false] [] [] 0 [0] () hC [pq h5] (sI h).symm
     ·rcases cB h with ⟨h6, h⟩ | ⟨h6, h⟩
      ·refine wn Cu 38 [false, false, false, true] [pl q65 x0.Ae, pc Fa (E8 a0.B 0 (w64 ((ln x0.Ae) - 1)) _ rfl) []] [] 0 [0, 1] [1, 2, 3, 4, 10, 11, 12, 57] hC [pq h1, pq h2, pq h4, pq h6] ?_
       rcases cB h with ⟨h7, h⟩ | ⟨h7, h⟩
       ·have hq := hret0 _ (hr0 _ (sI h).symm)
        replace hq := sI hq
        subst hq
        exact wr Cu 24 [true] [] [] 0 [] hC [pq h7]
       ·obtain ⟨y9, h8, h⟩ := Ad h
        refine ws Cu 25 [false] [⟨.cut (x0.Ag.map Bi) 3 0 (cnt 0 n0) (y9.map Bi), Aay Bi 3 (λ _ => rfl) h8⟩, pl Bi y9] [] 0 [0, 1] (zF x0 n0 y9 0 ()) (Aju x0 a0 0 ()) hC [pq h7] ?_
        obtain ⟨w1, hm1, hret1, hnext1⟩ := As h
        clear h
        refine wc w1 (Amj x0 n0) (An8 x0) ?_ λ z1 hs1 => ?_
        ·refine wb ?_
         refine Bm 61 rfl λ hl1 => ?_
         refine A8 (by kernel_rfl) (P0 a0) (zF x0 n0 y9) (Aju x0 a0) w1 y9 () hm1 rfl rfl (λ z1 hn1 => ?_) λ n1 a1 z1 w1b hi1 hx1 h hb1 hr1 => ?_
         ·clear hm1
          exact wx w1 (Amj x0 n0) (An8 x0) Cu 26 [false] [] [] 0 [0] () hC [pq (Ba hl1)] hn1
         ·unfold P0 at h
          rcases cB h with ⟨h10, h⟩ | ⟨h10, h⟩
          ·have hq := hret1 _ (hr1 _ (sI h).symm)
           replace hq := hret0 _ (hr0 _ (sI hq).symm)
           replace hq := sI hq
           subst hq
           exact wr Cu 35 [true, true] [pt hx1 hl1] [] 0 [] hC [pq (A9 hi1 hl1), pq h10]
          ·exact wx w1b (zF x0 n0 y9 (n1 + 1)) (Aju x0 a0 (n1 + 1)) Cu 36 [true, false] [pt hx1 hl1] [] 0 [0, 1] () hC [pq (A9 hi1 hl1), pq h10] (sI h).symm
        ·have h := hnext1 _ hs1
         exact wx w0b (Oy x0 (n0 + 1)) (Uk x0 (n0 + 1)) Cu 24 [] [] [] 0 [0] () hC [] (sI h).symm
      ·have hq := hret0 _ (hr0 _ (sI h).symm)
       replace hq := sI hq
       subst hq
       exact wr Cu 37 [false, false, false, false] [] [] 0 [] hC [pq h1, pq h2, pq h4, pq h6]
 ·have h := hnext0 _ hs0
  refine ws Cu 24 [] [pl Bt x0.Ac] [] 0 [0] (zE x0 0) (Ajt x0 0) hC [] ?_
  obtain ⟨w2, hm2, hret2, hnext2⟩ := As h
  clear h
  refine wc w2 (Ami) (An7 x0) ?_ λ z2 hs2 => ?_
  ·refine wb ?_
   refine By (by kernel_rfl) (Xc x0) (zE x0) (Ajt x0) w2 1152921504606846976 0 hm2 rfl rfl λ z2 w2b h hb2 hr2 => ?_
   unfold Xc at h
   rcases cB h with ⟨h11, h⟩ | ⟨h11, h⟩
   ·obtain ⟨y12, h13, h⟩ := Ad h
    refine wn Cu 32 [true] [pc e77 (k77 x0 2 z2 _ h13) [], pl pI y12] [] 0 [0] [1, 2, 74, 75, 82] hC [pq h11] ?_
    rcases cB h with ⟨h14, h⟩ | ⟨h14, h⟩
    ·have hq := hret2 _ (hr2 _ (sI h).symm)
     replace hq := sI hq
     subst hq
     exact wr Cu 24 [true] [] [] 0 [] hC [pq h14]
    ·exact wx w2b (zE x0) (Ajt x0) Cu 25 [false] [] [] 0 [0] (w64 (z2 + 1)) hC [pq h14] (sI h).symm
   ·exact wx w2 (Ami) (An7 x0) Cu 26 [false] [] [] 0 [0] z2 hC [pq h11] (hb2 _ (sI h).symm)
  ·have h := hnext2 _ hs2
   refine ws Cu 24 [] [pl q65 x0.Ae] [] 0 [0] (zD x0 0) (Ajs x0 0) hC [] ?_
   obtain ⟨w3, hm3, hret3, hnext3⟩ := As h
   clear h
   refine wc w3 (Amh) (An6) ?_ λ z3 hs3 => ?_
   ·refine wb ?_
    refine By (by kernel_rfl) (Xb x0) (zD x0) (Ajs x0) w3 1152921504606846976 0 hm3 rfl rfl λ z3 w3b h hb3 hr3 => ?_
    unfold Xb at h
    rcases cB h with ⟨h15, h⟩ | ⟨h15, h⟩
    ·obtain ⟨y16, h17, h⟩ := Ad h
     refine wn Cu 32 [true] [pc e77 (k77 x0 3 z3 _ h17) [], pl pI y16] [] 0 [0] [1, 2, 86, 87, 94] hC [pq h15] ?_
     rcases cB h with ⟨h18, h⟩ | ⟨h18, h⟩
     ·have hq := hret3 _ (hr3 _ (sI h).symm)
      replace hq := sI hq
      subst hq
      exact wr Cu 24 [true] [] [] 0 [] hC [pq h18]
     ·exact wx w3b (zD x0) (Ajs x0) Cu 25 [false] [] [] 0 [0] (w64 (z3 + 1)) hC [pq h18] (sI h).symm
    ·exact wx w3 (Amh) (An6) Cu 26 [false] [] [] 0 [] z3 hC [pq h15] (hb3 _ (sI h).symm)
   ·have h := hnext3 _ hs3
    replace h := sI h
    subst h
    exact wr Cu 23 [] [] [] 0 [] hC []
theorem A_d : EN 163 := en Tryz.func163
def V_ : List Nat := [0, 1, 2, 4, 6, 7, 8, 9, 29]
def zC (x0 : Aa) (n0 : Nat) (z0 : Unit) : St := [(2, dB false), (6, .d (DS Bt x0.Ac)), (7, dI (ln x0.Ac)), (8, dI (cnt 0 n0))]
def Ajr  (n0 : Nat) (z0 : Unit) : List Res := []
def Amg  (z0 : Unit) : St := [(2, dB false)]
def An5  (z0 : Unit) : List Res := []
theorem A8u (x0 : Aa) (r : Bool) (h : Aku x0 = some r) : CO 164 [.agg (d29 x0)] [] (.d (Bo r)) [] := by
 unfold Aku at h
 refine co 31 Tryz.func164 λ C hC => ?_
 refine ws V_ 26 [] [pl Bt x0.Ac] [] 0 [] (zC x0 0 ()) (Ajr 0 ()) hC [] ?_
 obtain ⟨w0, hm0, hret0, hnext0⟩ := As h
 clear h
 refine wc w0 (Amg) (An5) ?_ λ z0 hs0 => ?_
 ·refine wb ?_
  refine Bm 6 rfl λ hl0 => ?_
  refine A8 (by kernel_rfl) Xa (zC x0) (Ajr) w0 x0.Ac () hm0 rfl rfl (λ z0 hn0 => ?_) λ n0 a0 z0 w0b hi0 hx0 h hb0 hr0 => ?_
  ·clear hm0
   exact wx w0 (Amg) (An5) V_ 26 [false] [] [] 0 [] () hC [pq (Ba hl0)] hn0
  ·unfold Xa at h
   refine wn V_ 32 [true] [pt hx0 hl0, pc Fa (E8 a0.Rating 1 50000 _ rfl) [], ⟨.when [(!(B4 a0.Rating 1 50000), false)] (.call 112 [dI a0.Least, dI 0, dI a0.Rating] [] (dB (B4 a0.Least 0 a0.Rating)) [] []), λ hg => ⟨Fa, (E8 a0.Least 0 a0.Rating _ rfl)⟩⟩, ⟨.when [(((!(B4 a0.Rating 1 50000)) || (!(B4 a0.Least 0 a0.Rating))), false)] (.call 112 [dI a0.Start, dI 0, dI 600] [] (dB (B4 a0.Start 0 600)) [] []), λ hg => ⟨Fa, (E8 a0.Start 0 600 _ rfl)⟩⟩] [] 0 [] [2, 6, 7, 8, 29] hC [pq (A9 hi0 hl0)] ?_
   rcases cB h with ⟨h1, h⟩ | ⟨h1, h⟩
   ·have hq := hret0 _ (hr0 _ (sI h).symm)
    replace hq := sI hq
    subst hq
    exact wr V_ 24 [true] [] [] 0 [] hC [pq h1]
   ·exact wx w0b (zC x0 (n0 + 1)) (Ajr (n0 + 1)) V_ 25 [false] [] [] 0 [] () hC [pq h1] (sI h).symm
 ·have h := hnext0 _ hs0
  replace h := sI h
  subst h
  exact wr V_ 23 [] [] [] 0 [] hC []
theorem A_c : EN 164 := en Tryz.func164
def I9 : List Nat := [0, 1, 2, 3, 4, 5, 6, 8, 9, 10, 11, 44, 46, 47, 48, 49, 71]
def zA (x0 : Aa) (n0 : Nat) (z0 : Unit) : St := [(2, dB false), (8, .d (DS q65 x0.Ae)), (9, dI (ln x0.Ae)), (10, dI (cnt 0 n0))]
def Ajq  (n0 : Nat) (z0 : Unit) : List Res := []
def Amf  (z0 : Unit) : St := [(2, dB false)]
def An4  (z0 : Unit) : List Res := []
def yZ (x0 : Aa) (n0 : Nat) (a0 : A1) (n1 : Nat) (z1 : Unit) : St := [(2, dB false), (3, dI (cnt 0 n0)), (4, dO 0 0), (8, .d (DS q65 x0.Ae)), (9, dI (ln x0.Ae)), (10, dI (cnt 0 n0)), (46, .d (DS pI a0.Needs)), (47, dI (ln a0.Needs)), (48, dI (cnt 0 n1))]
def Ajp (a0 : A1) (n1 : Nat) (z1 : Unit) : List Res := [.box 65 (d65 a0)]
def Ame (x0 : Aa) (n0 : Nat) (z1 : Unit) : St := [(2, dB false), (8, .d (DS q65 x0.Ae)), (9, dI (ln x0.Ae)), (10, dI (cnt 0 n0))]
def An3  (z1 : Unit) : List Res := []
theorem A8t (x0 : Aa) (r : Bool) (h : Akt x0 = some r) : CO 165 [.agg (d29 x0)] [] (.d (Bo r)) [] := by
 unfold Akt at h
 refine co 74 Tryz.func165 λ C hC => ?_
 refine ws I9 26 [] [pl q65 x0.Ae] [] 0 [] (zA x0 0 ()) (Ajq 0 ()) hC [] ?_
 obtain ⟨w0, hm0, hret0, hnext0⟩ := As h
 clear h
 refine wc w0 (Amf) (An4) ?_ λ z0 hs0 => ?_
 ·refine wb ?_
  refine Bm 8 rfl λ hl0 => ?_
  refine A8 (by kernel_rfl) W_ (zA x0) (Ajq) w0 x0.Ae () hm0 rfl rfl (λ z0 hn0 => ?_) λ n0 a0 z0 w0b hi0 hx0 h hb0 hr0 => ?_
  ·clear hm0
   exact wx w0 (Amf) (An4) I9 26 [false] [] [] 0 [] () hC [pq (Ba hl0)] hn0
  ·unfold W_ at h
   refine wn I9 33 [true] [pt hx0 hl0, pc Fa (E8 a0.Load 0 50000 _ rfl) [], ⟨.when [(!(B4 a0.Load 0 50000), false)] (.call 112 [dI a0.Least, dI 0, dI a0.Load] [] (dB (B4 a0.Least 0 a0.Load)) [] []), λ hg => ⟨Fa, (E8 a0.Least 0 a0.Load _ rfl)⟩⟩, ⟨.when [(((!(B4 a0.Load 0 50000)) || (!(B4 a0.Least 0 a0.Load))), false)] (.call 112 [dI a0.Bn, dI 0, dI 15] [] (dB (B4 a0.Bn 0 15)) [] []), λ hg => ⟨Fa, (E8 a0.Bn 0 15 _ rfl)⟩⟩, ⟨.when [((((!(B4 a0.Load 0 50000)) || (!(B4 a0.Least 0 a0.Load))) || (!(B4 a0.Bn 0 15))), false)] (.call 112 [dI a0.Thruster, dI (-1), dI 7] [] (dB (B4 a0.Thruster (-1) 7)) [] []), λ hg => ⟨Fa, (E8 a0.Thruster (-1) 7 _ rfl)⟩⟩, pL_ [(((((!(B4 a0.Load 0 50000)) || (!(B4 a0.Least 0 a0.Load))) || (!(B4 a0.Bn 0 15))) || (!(B4 a0.Thruster (-1) 7))), false)] pI a0.Needs] [] 0 [0] [2, 3, 4, 8, 9, 10, 44] hC [pq (A9 hi0 hl0)] ?_
   rcases cB h with ⟨h1, h⟩ | ⟨h1, h⟩
   ·have hq := hret0 _ (hr0 _ (sI h).symm)
    replace hq := sI hq
    subst hq
    exact wr I9 24 [true] [] [] 0 [] hC [pq h1]
   ·refine ws I9 25 [false] [pl pI a0.Needs] [] 0 [0] (yZ x0 n0 a0 0 ()) (Ajp a0 0 ()) hC [pq h1] ?_
    obtain ⟨w1, hm1, hret1, hnext1⟩ := As h
    clear h
    refine wc w1 (Ame x0 n0) (An3) ?_ λ z1 hs1 => ?_
    ·refine wb ?_
     refine Bm 46 rfl λ hl1 => ?_
     refine A8 (by kernel_rfl) (W9 n0 a0) (yZ x0 n0 a0) (Ajp a0) w1 a0.Needs () hm1 rfl rfl (λ z1 hn1 => ?_) λ n1 a1 z1 w1b hi1 hx1 h hb1 hr1 => ?_
     ·clear hm1
      exact wx w1 (Ame x0 n0) (An3) I9 26 [false] [] [] 0 [] () hC [pq (Ba hl1)] hn1
     ·unfold W9 at h
      obtain ⟨y2, h3, h⟩ := Ad h
      refine wn I9 32 [true] [pt hx1 hl1, pc Fa (E8 a1 0 (w64 ((cnt 0 n0) - 1)) _ rfl) [], pR pI h3] [] 0 [0] [2, 3, 4, 8, 9, 10, 46, 47, 48, 71] hC [pq (A9 hi1 hl1)] ?_
      rcases cB h with ⟨h4, h⟩ | ⟨h4, h⟩
      ·have hq := hret1 _ (hr1 _ (sI h).symm)
       replace hq := hret0 _ (hr0 _ (sI hq).symm)
       replace hq := sI hq
       subst hq
       exact wr I9 24 [true] [] [] 0 [] hC [pq h4]
      ·exact wx w1b (yZ x0 n0 a0 (n1 + 1)) (Ajp a0 (n1 + 1)) I9 25 [false] [] [] 0 [0] () hC [pq h4] (sI h).symm
    ·have h := hnext1 _ hs1
     exact wx w0b (zA x0 (n0 + 1)) (Ajq (n0 + 1)) I9 23 [] [] [] 0 [] () hC [] (sI h).symm
 ·have h := hnext0 _ hs0
  replace h := sI h
  subst h
  exact wr I9 23 [] [] [] 0 [] hC []
theorem A_b : EN 165 := en Tryz.func165
theorem Yo (x0 : List Int) (x1 : Int) (r : Bool) (h : M7 x0 x1 = some r) : CO 190 [.d (DS pI x0), .d (I x1)] [] (.d (Bo r)) [] := by
 unfold M7 at h
 refine co 9 Tryz.func190 λ C hC => ?_
 obtain ⟨y1, h2, h⟩ := Ad h
 replace h := sI h
 subst h
 exact wr [0, 1, 4] 25 [] [pc A9r (A79 x0 x1 _ h2) []] [] 0 [] hC []
theorem Yv : EN 190 := en Tryz.func190
def O8 : List Nat := [0, 1, 4, 5, 7, 8, 9, 16]
def Sk (x0 : List (List Int)) (n0 : Nat) (z0 : Unit) : St := [(0, .d (DS (pL pI) x0)), (1, .d (.fn (.func 192) [] [])), (4, dI 0), (7, dI (ln x0)), (8, dI (cnt 0 n0))]
def Zb  (n0 : Nat) (z0 : Unit) : List Res := []
def Ab7  (z0 : Unit) : St := [(4, dI 0)]
def Adq  (z0 : Unit) : List Res := []
theorem A16 (x0 : List (List Int)) (r : Int) (h : yB x0 = some r) : CO 228 [.d (DS (pL pI) x0), .d (.fn (.func 192) [] [])] [] (.d (I r)) [] := by
 unfold yB at h
 refine co 19 Tryz.func228 λ C hC => ?_
 refine ws O8 26 [] [pl (pL pI) x0] [] 0 [] (Sk x0 0 ()) (Zb 0 ()) hC [] ?_
 obtain ⟨w0, hm0, hret0, hnext0⟩ := As h
 clear h
 refine wc w0 (Ab7) (Adq) ?_ λ z0 hs0 => ?_
 ·refine wb ?_
  refine Bm 0 rfl λ hl0 => ?_
  refine A8 (by kernel_rfl) Ux (Sk x0) (Zb) w0 x0 () hm0 rfl rfl (λ z0 hn0 => ?_) λ n0 a0 z0 w0b hi0 hx0 h hb0 hr0 => ?_
  ·clear hm0
   exact wx w0 (Ab7) (Adq) O8 26 [false] [] [] 0 [] () hC [pq (Ba hl0)] hn0
  ·unfold Ux at h
   rcases cB h with ⟨h1, h⟩ | ⟨h1, h⟩
   ·have hq := hret0 _ (hr0 _ (sI h).symm)
    replace hq := sI hq
    subst hq
    exact wr O8 35 [true, true] [pt hx0 hl0, pc A4k (A2q a0 _ rfl) []] [] 0 [] hC [pq (A9 hi0 hl0), pq h1]
   ·exact wx w0b (Sk x0 (n0 + 1)) (Zb (n0 + 1)) O8 36 [true, false] [pt hx0 hl0, pc A4k (A2q a0 _ rfl) []] [] 0 [] () hC [pq (A9 hi0 hl0), pq h1] (sI h).symm
 ·have h := hnext0 _ hs0
  replace h := sI h
  subst h
  exact wr O8 23 [] [] [] 0 [] hC []
theorem A30 : EN 228 := en Tryz.func228
theorem A84 (x0 : Bh) (r : Bool) (h : Z7 x0 = r) : CO 137 [.agg (A5g x0)] [] (.d (Bo r)) [] := by
 unfold Z7 at h
 refine co 18 Tryz.func137 λ C hC => ?_
 subst h
 exact wr n3_ 25 [] [pc e99 (k99 x0.Rating 1 50000 _ rfl) [], ⟨.when [(F99 x0.Rating 1 50000, true)] (.call 99 [dI x0.Least, dI 0, dI x0.Rating] [] (dB (F99 x0.Least 0 x0.Rating)) [] []), λ hg => ⟨e99, (k99 x0.Least 0 x0.Rating _ rfl)⟩⟩, ⟨.when [(((F99 x0.Rating 1 50000) && (F99 x0.Least 0 x0.Rating)), true)] (.call 99 [dI x0.Start, dI 0, dI 600] [] (dB (F99 x0.Start 0 600)) [] []), λ hg => ⟨e99, (k99 x0.Start 0 600 _ rfl)⟩⟩] [] 0 [] hC []
theorem A_m : EN 137 := en Tryz.func137
def Wc : List Nat := [0, 1, 2, 4, 5, 6, 8, 9, 10, 11, 33]
def zL (x0 : A1) (x1 : Int) (n0 : Nat) (z0 : Unit) : St := [(1, dI x1), (2, dO 0 0), (4, dB false), (8, .d (DS pI x0.Needs)), (9, dI (ln x0.Needs)), (10, dI (cnt 0 n0))]
def Aj0 (x0 : A1) (n0 : Nat) (z0 : Unit) : List Res := [.box 65 (d65 x0)]
def Amt  (z0 : Unit) : St := [(2, dO 0 0), (4, dB false)]
def Aoi (x0 : A1) (z0 : Unit) : List Res := [.box 65 (d65 x0)]
theorem A83 (x0 : A1) (x1 : Int) (r : Bool) (h : Abk x0 x1 = some r) : CO 138 [.agg (d65 x0), .d (I x1)] [] (.d (Bo r)) [] := by
 unfold Abk at h
 refine co 61 Tryz.func138 λ C hC => ?_
 refine ws Wc 26 [] [pl pI x0.Needs] [] 0 [0] (zL x0 x1 0 ()) (Aj0 x0 0 ()) hC [] ?_
 obtain ⟨w0, hm0, hret0, hnext0⟩ := As h
 clear h
 refine wc w0 (Amt) (Aoi x0) ?_ λ z0 hs0 => ?_
 ·refine wb ?_
  refine Bm 8 rfl λ hl0 => ?_
  refine A8 (by kernel_rfl) (P4 x0 x1) (zL x0 x1) (Aj0 x0) w0 x0.Needs () hm0 rfl rfl (λ z0 hn0 => ?_) λ n0 a0 z0 w0b hi0 hx0 h hb0 hr0 => ?_
  ·clear hm0
   exact wx w0 (Amt) (Aoi x0) Wc 26 [false] [] [] 0 [0] () hC [pq (Ba hl0)] hn0
  ·unfold P4 at h
   obtain ⟨y1, h2, h⟩ := Ad h
   refine wn Wc 32 [true] [pt hx0 hl0, pc e99 (k99 a0 0 (w64 (x1 - 1)) _ rfl) [], pR pI h2] [] 0 [0] [1, 2, 4, 8, 9, 10, 33] hC [pq (A9 hi0 hl0)] ?_
   rcases cB h with ⟨h3, h⟩ | ⟨h3, h⟩
   ·have hq := hret0 _ (hr0 _ (sI h).symm)
    replace hq := sI hq
    subst hq
    exact wr Wc 24 [true] [] [] 0 [] hC [pq h3]
   ·exact wx w0b (zL x0 x1 (n0 + 1)) (Aj0 x0 (n0 + 1)) Wc 25 [false] [] [] 0 [0] () hC [pq h3] (sI h).symm
 ·have h := hnext0 _ hs0
  replace h := sI h
  subst h
  exact wr Wc 23 [] [pc e99 (k99 x0.Load 0 50000 _ rfl) [], ⟨.when [(F99 x0.Load 0 50000, true)] (.call 99 [dI x0.Least, dI 0, dI x0.Load] [] (dB (F99 x0.Least 0 x0.Load)) [] []), λ hg => ⟨e99, (k99 x0.Least 0 x0.Load _ rfl)⟩⟩, ⟨.when [(((F99 x0.Load 0 50000) && (F99 x0.Least 0 x0.Load)), true)] (.call 99 [dI x0.Bn, dI 0, dI 15] [] (dB (F99 x0.Bn 0 15)) [] []), λ hg => ⟨e99, (k99 x0.Bn 0 15 _ rfl)⟩⟩, ⟨.when [((((F99 x0.Load 0 50000) && (F99 x0.Least 0 x0.Load)) && (F99 x0.Bn 0 15)), true)] (.call 99 [dI x0.Thruster, dI (-1), dI 7] [] (dB (F99 x0.Thruster (-1) 7)) [] []), λ hg => ⟨e99, (k99 x0.Thruster (-1) 7 _ rfl)⟩⟩, pL_ [(((((F99 x0.Load 0 50000) && (F99 x0.Least 0 x0.Load)) && (F99 x0.Bn 0 15)) && (F99 x0.Thruster (-1) 7)), true)] pI x0.Needs] [] 0 [] hC []
theorem A_l : EN 138 := en Tryz.func138
def Wb : List Nat := [0, 1, 4, 5, 6, 11, 12, 13, 16, 19]
theorem Axf (x0 : Int) (x1 : Int) (r : Int) (h : J2 x0 x1 = r) : CO 154 [.d (I x0), .d (I x1)] [] (.d (I r)) [] := by
 unfold J2 at h
 refine co 20 Tryz.func154 λ C hC => ?_
 rcases cB h with ⟨h1, h⟩ | ⟨h1, h⟩
 ·rcases cB h with ⟨h2, h⟩ | ⟨h2, h⟩
  ·subst h
   exact wr Wb 37 [true, true] [pc K_ (K8 x0 _ rfl) [], pc K_ (K8 x1 _ rfl) []] [] 0 [] hC [pq h1, pq h2]
  ·subst h
   exact wr Wb 38 [true, false] [pc K_ (K8 x0 _ rfl) [], pc K_ (K8 x1 _ rfl) []] [] 0 [] hC [pq h1, pq h2]
 ·rcases cB h with ⟨h3, h⟩ | ⟨h3, h⟩
  ·subst h
   exact wr Wb 38 [false, true] [pc K_ (K8 x0 _ rfl) [], pc K_ (K8 x1 _ rfl) []] [] 0 [] hC [pq h1, pq h3]
  ·rcases cB h with ⟨h4, h⟩ | ⟨h4, h⟩
   ·subst h
    exact wr Wb 43 [false, false, true] [pc K_ (K8 x0 _ rfl) [], pc K_ (K8 x1 _ rfl) []] [] 0 [] hC [pq h1, pq h3, pq h4]
   ·rcases cB h with ⟨h5, h⟩ | ⟨h5, h⟩
    ·subst h
     exact wr Wb 48 [false, false, false, true] [pc K_ (K8 x0 _ rfl) [], pc K_ (K8 x1 _ rfl) []] [] 0 [] hC [pq h1, pq h3, pq h4, pq h5]
    ·subst h
     exact wr Wb 49 [false, false, false, false] [pc K_ (K8 x0 _ rfl) [], pc K_ (K8 x1 _ rfl) []] [] 0 [] hC [pq h1, pq h3, pq h4, pq h5]
theorem Axx : EN 154 := en Tryz.func154
theorem k98 (x0 : Af) (r : Bool) (h : F98 x0 = r) : CO 98 [.agg (T7 x0)] [] (.d (Bo r)) [] := by
 unfold F98 at h
 refine co 21 Tryz.func98 λ C hC => ?_
 subst h
 exact wr n3_ 25 [] [pc e99 (k99 x0.State 0 3 _ rfl) [], ⟨.when [(F99 x0.State 0 3, true)] (.call 99 [dI x0.Since, dI 0, dI 2147483648] [] (dB (F99 x0.Since 0 2147483648)) [] []), λ hg => ⟨e99, (k99 x0.Since 0 2147483648 _ rfl)⟩⟩, ⟨.when [(((F99 x0.State 0 3) && (F99 x0.Since 0 2147483648)), true)] (.call 99 [dI x0.Aq, dI 0, dI 6000] [] (dB (F99 x0.Aq 0 6000)) [] []), λ hg => ⟨e99, (k99 x0.Aq 0 6000 _ rfl)⟩⟩, ⟨.when [((((F99 x0.State 0 3) && (F99 x0.Since 0 2147483648)) && (F99 x0.Aq 0 6000)), true)] (.call 99 [dI x0.Phase, dI 0, dI 3599] [] (dB (F99 x0.Phase 0 3599)) [] []), λ hg => ⟨e99, (k99 x0.Phase 0 3599 _ rfl)⟩⟩] [] 0 [] hC []
theorem e98 : EN 98 := en Tryz.func98
theorem Mp (x0 : Ab) (r : Ab) (h : Io x0 = some r) : CO 116 [.agg (d36 x0)] [] (.agg [.os 0, .os 1, .os 2, .os 3]) (zp r []) := by
 unfold Io at h
 refine co 16 Tryz.func116 λ C hC => ?_
 obtain ⟨y1, h2, h⟩ := Ad h
 obtain ⟨y3, h4, h⟩ := Ad h
 obtain ⟨y5, h6, h⟩ := Ad h
 obtain ⟨y7, h8, h⟩ := Ad h
 replace h := sI h
 subst h
 exact wr n3_ 25 [] [pc A_a (A8s x0.Ah _ h2) [], pc A99 (A8r x0.Ac _ h4) [], pc A4x (A23 x0.Ar _ h6) [], pc A98 (A8q x0.Ao _ h8) []] [] 0 [2, 3, 4, 5] hC []
theorem Mw : EN 116 := en Tryz.func116
def Apk : List Nat := [0, 1, 2, 3, 4, 6, 7, 23]
theorem Axh (x0 : Aa) (x1 : Ab) (x2 : Int) (r : Int × Bool) (h : Z6 x0 x1 x2 = some r) : CO 143 [.agg (d29 x0), .agg (d36 x1), .d (I x2)] [] (.tup [.d (I r.1), .d (Bo r.2)]) [] := by
 unfold Z6 at h
 refine co 30 Tryz.func143 λ C hC => ?_
 obtain ⟨y1, h2, h⟩ := Ad h
 refine wn Apk 26 [] [pl A6 x1.Ac, pc e99 (k99 x2 0 (w64 ((ln x1.Ac) - 1)) _ rfl) [], pR A6 h2] [] 0 [0, 1] [2, 3, 4, 6, 7, 23] hC [] ?_
 rcases cB h with ⟨h3, h⟩ | ⟨h3, h⟩
 ·replace h := sI h
  subst h
  exact wr Apk 24 [true] [] [] 0 [] hC [pq h3]
 ·obtain ⟨y4, h5, h⟩ := Ad h
  replace h := sI h
  subst h
  exact wr Apk 25 [false] [pc A4j (A2p x0 x1 2 x2 _ h5) []] [] 0 [] hC [pq h3]
theorem Axz : EN 143 := en Tryz.func143
theorem Axg (x0 : Aa) (x1 : Ab) (x2 : Int) (r : Int × Bool) (h : Z5 x0 x1 x2 = some r) : CO 144 [.agg (d29 x0), .agg (d36 x1), .d (I x2)] [] (.tup [.d (I r.1), .d (Bo r.2)]) [] := by
 unfold Z5 at h
 refine co 14 Tryz.func144 λ C hC => ?_
 obtain ⟨y1, h2, h⟩ := Ad h
 replace h := sI h
 subst h
 exact wr [0, 1, 2, 3, 4, 6, 7] 25 [] [pc A4j (A2p x0 x1 3 x2 _ h2) []] [] 0 [] hC []
theorem Axy : EN 144 := en Tryz.func144
def L7 : List Nat := [0, 1, 4, 5, 7, 8, 9, 16]
def Sx (x0 : List Ai) (n0 : Nat) (z0 : Unit) : St := [(0, .d (DS q84 x0)), (1, .d (.fn (.func 146) [] [])), (4, dI 0), (7, dI (ln x0)), (8, dI (cnt 0 n0))]
def Zn  (n0 : Nat) (z0 : Unit) : List Res := []
def Acu  (z0 : Unit) : St := [(4, dI 0)]
def Aec  (z0 : Unit) : List Res := []
theorem Ato (x0 : List Ai) (r : Int) (h : Vo x0 = some r) : CO 141 [.d (DS q84 x0), .d (.fn (.func 146) [] [])] [] (.d (I r)) [] := by
 unfold Vo at h
 refine co 19 Tryz.func141 λ C hC => ?_
 refine ws L7 26 [] [pl q84 x0] [] 0 [] (Sx x0 0 ()) (Zn 0 ()) hC [] ?_
 obtain ⟨w0, hm0, hret0, hnext0⟩ := As h
 clear h
 refine wc w0 (Acu) (Aec) ?_ λ z0 hs0 => ?_
 ·refine wb ?_
  refine Bm 0 rfl λ hl0 => ?_
  refine A8 (by kernel_rfl) Vn (Sx x0) (Zn) w0 x0 () hm0 rfl rfl (λ z0 hn0 => ?_) λ n0 a0 z0 w0b hi0 hx0 h hb0 hr0 => ?_
  ·clear hm0
   exact wx w0 (Acu) (Aec) L7 26 [false] [] [] 0 [] () hC [pq (Ba hl0)] hn0
  ·unfold Vn at h
   refine wn L7 32 [true] [pt hx0 hl0, pc A44 (A3a a0 _ rfl) []] [] 0 [] [0, 1, 4, 5, 7, 8, 16] hC [pq (A9 hi0 hl0)] ?_
   rcases cB h with ⟨h1, h⟩ | ⟨h1, h⟩
   ·have hq := hret0 _ (hr0 _ (sI h).symm)
    replace hq := sI hq
    subst hq
    exact wr L7 24 [true] [] [] 0 [] hC [pq h1]
   ·exact wx w0b (Sx x0 (n0 + 1)) (Zn (n0 + 1)) L7 25 [false] [] [] 0 [] () hC [pq h1] (sI h).symm
 ·have h := hnext0 _ hs0
  replace h := sI h
  subst h
  exact wr L7 23 [] [] [] 0 [] hC []
theorem Aui : EN 141 := en Tryz.func141
theorem k60 (x0 : Ab) (x1 : Ab) (r : Bool) (h : F60 x0 x1 = some r) : CO 60 [.agg (d36 x0), .agg (d36 x1)] [] (.d (Bo r)) [] := by
 unfold F60 at h
 refine co 31 Tryz.func60 λ C hC => ?_
 obtain ⟨y1, h2, h⟩ := Ad h
 obtain ⟨y3, h4, h⟩ := Ad h
 obtain ⟨y5, h6, h⟩ := Ad h
 obtain ⟨y7, h8, h⟩ := Ad h
 replace h := sI h
 subst h
 exact wr n5_ 25 [] [pc A_w (A9e x0.Ah x1.Ah _ h2) [], pw A_v (λ hg => A9d x0.Ac x1.Ac _ (A_ h4 hg)) [], pw A_u (λ hg => A9c x0.Ar x1.Ar _ (A_ h6 hg)) [], pw A_t (λ hg => A9b x0.Ao x1.Ao _ (A_ h8 hg)) []] [] 0 [] hC []
theorem e60 : EN 60 := en Tryz.func60
theorem A6l (x0 : Az) (x1c0 : A0) (r : Bool × A0) (h : Dv x0 x1c0 = r) : CO 62 [.agg (Ax1 x0), .d (.o 0 0)] [.box 126 [.fn (.func 58) [] [.o 1 0]], .box 40 (d40 x1c0)] (.d (Bo r.1)) [.box 126 [.fn (.func 58) [] [.o 1 0]], .box 40 (d40 r.2)] := by
 unfold Dv at h
 refine co 16 Tryz.func62 λ C hC => ?_
 subst h
 exact wr n4_ 25 [] [pb Azc (Ay8 x0.High x1c0 _ rfl), ⟨.when [(!(Rw x0.High x1c0), false)] (.callB 58 [dI x0.Low, .d (.ip [.v (.int .i64 x1c0.Time), .s (x1c0.Power.Ah.map pB), .s (x1c0.Power.Ac.map A6), .s (x1c0.Power.Ar.map pI), .s (x1c0.Power.Ao.map q86), .s (x1c0.A5.map B2), .s (x1c0.A7.map q51)])] (dB (Rw x0.Low x1c0)) [[]] 0 []), λ hg => Iu ⟨Azc, (Ay8 x0.Low x1c0 _ rfl)⟩⟩] [] 2 [0, 1] hC []
theorem A66 : EN 62 := en Tryz.func62
def Ho : List Nat := [0, 1, 2, 3, 4, 6, 7, 14, 21, 27, 39]
def zW (x1 : Ap) (z0 : Bool) : St := [(2, dO 0 0), (3, dO 1 0), (4, dB false), (6, dI x1.Kind), (7, dB z0)]
def Aa8 (x0 : Aa) (x1 : Ap) (z0 : Bool) : List Res := [.box 29 (d29 x0), .box 49 (d49 x1)]
def zV (x1 : Ap) (z1 : Bool) : St := [(2, dO 0 0), (3, dO 1 0), (4, dB false), (6, dI x1.Kind), (14, dB z1)]
def Aa7 (x0 : Aa) (x1 : Ap) (z1 : Bool) : List Res := [.box 29 (d29 x0), .box 49 (d49 x1)]
theorem A3f (x0 : Aa) (x1 : Ap) (r : Bool) (h : Abn x0 x1 = some r) : CO 134 [.agg (d29 x0), .agg (d49 x1)] [] (.d (Bo r)) [] := by
 unfold Abn at h
 refine co 48 Tryz.func134 λ C hC => ?_
 refine wn Ho 30 [] [] [] 0 [0, 1] [2, 3, 4, 6, 7] hC [] ?_
 obtain ⟨w0, h, hret0, hnext0⟩ := As h
 refine wc w0 (zW x1) (Aa8 x0 x1) ?_ λ z0 hs0 => ?_
 ·unfold Abm at h
  rcases cB h with ⟨h1, h⟩ | ⟨h1, h⟩
  ·exact wx w0 (zW x1) (Aa8 x0 x1) Ho 23 [true] [] [] 0 [0, 1] (x1.Kind == 1) hC [pq h1] (sI h).symm
  ·exact wx w0 (zW x1) (Aa8 x0 x1) Ho 23 [false] [] [] 0 [0, 1] (x1.Kind == 2) hC [pq h1] (sI h).symm
 ·clear h; have h := hnext0 _ hs0
  rcases cB h with ⟨h2, h⟩ | ⟨h2, h⟩
  ·replace h := sI h
   subst h
   exact wr Ho 24 [true] [pc Yw (Yp x0 2 x1.Unit _ rfl) []] [] 0 [] hC [pq h2]
  ·refine wn Ho 25 [false] [] [] 0 [0, 1] [2, 3, 4, 6, 14] hC [pq h2] ?_
   obtain ⟨w1, h, hret1, hnext1⟩ := As h
   refine wc w1 (zV x1) (Aa7 x0 x1) ?_ λ z1 hs1 => ?_
   ·unfold Abl at h
    rcases cB h with ⟨h3, h⟩ | ⟨h3, h⟩
    ·exact wx w1 (zV x1) (Aa7 x0 x1) Ho 23 [true] [] [] 0 [0, 1] (x1.Kind == 3) hC [pq h3] (sI h).symm
    ·exact wx w1 (zV x1) (Aa7 x0 x1) Ho 23 [false] [] [] 0 [0, 1] (x1.Kind == 4) hC [pq h3] (sI h).symm
   ·clear h; have h := hnext1 _ hs1
    rcases cB h with ⟨h4, h⟩ | ⟨h4, h⟩
    ·replace h := sI h
     subst h
     exact wr Ho 24 [true] [pc Yw (Yp x0 1 x1.Unit _ rfl) []] [] 0 [] hC [pq h4]
    ·rcases cB h with ⟨h5, h⟩ | ⟨h5, h⟩
     ·replace h := sI h
      subst h
      exact wr Ho 27 [false, true] [pc Yw (Yp x0 4 x1.Unit _ rfl) []] [] 0 [] hC [pq h4, pq h5]
     ·rcases cB h with ⟨h6, h⟩ | ⟨h6, h⟩
      ·replace h := sI h
       subst h
       exact wr Ho 30 [false, false, true] [pc Yw (Yp x0 1 x1.Unit _ rfl) [], ⟨.when [(J0 x0 1 x1.Unit, true)] (.call 181 [.agg (d29 x0), dI 3, dI x1.Value] [] (dB (J0 x0 3 x1.Value)) [] []), λ hg => ⟨Yw, (Yp x0 3 x1.Value _ rfl)⟩⟩] [] 0 [] hC [pq h4, pq h5, pq h6]
      ·rcases cB h with ⟨h7, h⟩ | ⟨h7, h⟩
       ·replace h := sI h
        subst h
        exact wr Ho 36 [false, false, false, true, true] [pc Yw (Yp x0 x1.Value x1.Unit _ rfl) []] [] 0 [] hC [pq h4, pq h5, pq h6, pq h7, pq h7]
       ·rcases cB h with ⟨h8, h⟩ | ⟨h8, h⟩
        ·replace h := sI h
         subst h
         exact wr Ho 36 [false, false, false, false, true] [pc Yw (Yp x0 x1.Value x1.Unit _ rfl) []] [] 0 [] hC [pq h4, pq h5, pq h6, pq h7, pq h8]
        ·replace h := sI h
         subst h
         exact wr Ho 38 [false, false, false, false, false] [] [] 0 [] hC [pq h4, pq h5, pq h6, pq h7, pq h8]
theorem A49 : EN 134 := en Tryz.func134
theorem A8y (x0 : List Am) (x1 : Am) (r : Bool) (h : Arn x0 x1 = some r) : CO 157 [.d (DS q86 x0), .agg (d86 x1)] [] (.d (Bo r)) [] := by
 unfold Arn at h
 refine co 9 Tryz.func157 λ C hC => ?_
 obtain ⟨y1, h2, h⟩ := Ad h
 replace h := sI h
 subst h
 exact wr [0, 1, 3, 4] 25 [] [pc A9z (A8h x0 x1 _ h2) []] [] 0 [] hC []
theorem A_g : EN 157 := en Tryz.func157
theorem A75 (x0 : Int) (x1 : Int) (r : Int) (h : Are x0 x1 = r) : CO 248 [.d (I x0), .d (I x1)] [] (.d (I r)) [] := by
 unfold Are at h
 refine co 17 Tryz.func248 λ C hC => ?_
 refine wn [0, 1, 4, 5, 13] 28 [] [pc Ah5 (Aha x1 _ rfl) [], pc Ah5 (Aha x0 _ rfl) [], pc Ah5 (Aha (w64 ((Fq x1) - (Fq x0))) _ rfl) []] [] 0 [] [4, 5, 13] hC [] ?_
 rcases cB h with ⟨h1, h⟩ | ⟨h1, h⟩
 ·subst h
  exact wr [0, 1, 4, 5, 13] 25 [true] [] [] 0 [] hC [pq h1]
 ·subst h
  exact wr [0, 1, 4, 5, 13] 25 [false] [] [] 0 [] hC [pq h1]
theorem A9n : EN 248 := en Tryz.func248
def Lw : List Nat := [0, 1, 4, 5, 7, 8, 9, 16]
def Sm (x0 : List Ak) (n0 : Nat) (z0 : Unit) : St := [(0, .d (DS Bi x0)), (1, .d (.fn (.func 244) [] [.o 0 0])), (4, dI 0), (7, dI (ln x0)), (8, dI (cnt 0 n0))]
def Zd (x1c0 : Int) (n0 : Nat) (z0 : Unit) : List Res := [.box 3 [I x1c0]]
def Aca  (z0 : Unit) : St := [(4, dI 0)]
def Adt (x1c0 : Int) (z0 : Unit) : List Res := [.box 3 [I x1c0]]
theorem A2c (x0 : List Ak) (x1c0 : Int) (r : Int × Int) (h : yE x0 x1c0 = some r) : CO 218 [.d (DS Bi x0), .d (.fn (.func 244) [] [.o 0 0])] [.box 3 [I x1c0]] (.d (I r.1)) [.box 3 [I r.2]] := by
 unfold yE at h
 refine co 19 Tryz.func218 λ C hC => ?_
 refine ws Lw 26 [] [pl Bi x0] [] 1 [0] (Sm x0 0 ()) (Zd x1c0 0 ()) hC [] ?_
 obtain ⟨w0, hm0, hret0, hnext0⟩ := As h
 clear h
 refine wc w0 (Aca) (Adt x1c0) ?_ λ z0 hs0 => ?_
 ·refine wb ?_
  refine Bm 0 rfl λ hl0 => ?_
  refine A8 (by kernel_rfl) (Ku x1c0) (Sm x0) (Zd x1c0) w0 x0 () hm0 rfl rfl (λ z0 hn0 => ?_) λ n0 a0 z0 w0b hi0 hx0 h hb0 hr0 => ?_
  ·clear hm0
   exact wx w0 (Aca) (Adt x1c0) Lw 26 [false] [] [] 1 [0] () hC [pq (Ba hl0)] hn0
  ·unfold Ku at h
   refine wn Lw 32 [true] [pt hx0 hl0, pb A3u (A10 a0 x1c0 _ rfl)] [] 1 [0] [0, 1, 4, 5, 7, 8, 16] hC [pq (A9 hi0 hl0)] ?_
   rcases cB h with ⟨h1, h⟩ | ⟨h1, h⟩
   ·have hq := hret0 _ (hr0 _ (sI h).symm)
    replace hq := sI hq
    subst hq
    exact wr Lw 24 [true] [] [] 1 [0] hC [pq h1]
   ·exact wx w0b (Sm x0 (n0 + 1)) (Zd x1c0 (n0 + 1)) Lw 25 [false] [] [] 1 [0] () hC [pq h1] (sI h).symm
 ·have h := hnext0 _ hs0
  replace h := sI h
  subst h
  exact wr Lw 23 [] [] [] 1 [0] hC []
theorem A36 : EN 218 := en Tryz.func218
def Lu : List Nat := [0, 1, 2, 4, 6, 7, 8, 9, 10, 11, 17, 31]
def Na (x0 : List Am) (z0 : Int × Int) : St := [(0, .d (DS q86 x0)), (2, .d (.fn (.func 224) [] [])), (4, dO 0 0), (6, dI 0), (7, dB false), (8, dI (ln x0)), (9, dI z0.1), (10, dI z0.2)]
def Re (x1 : Am) (z0 : Int × Int) : List Res := [.box 86 (d86 x1)]
def Ab8 (x0 : List Am) (z0 : Int × Int) : St := [(0, .d (DS q86 x0)), (2, .d (.fn (.func 224) [] [])), (4, dO 0 0), (6, dI 0), (7, dB false), (8, dI (ln x0)), (9, dI z0.1)]
def Adr (x1 : Am) (z0 : Int × Int) : List Res := [.box 86 (d86 x1)]
theorem Atk (x0 : List Am) (x1 : Am) (r : Int × Bool) (h : Uz x0 x1 = some r) : CO 223 [.d (DS q86 x0), .agg (d86 x1), .d (.fn (.func 224) [] [])] [] (.tup [.d (I r.1), .d (Bo r.2)]) [] := by
 unfold Uz at h
 refine co 49 Tryz.func223 λ C hC => ?_
 refine ws Lu 28 [] [pl q86 x0] [] 0 [0] (Na x0 (0, (ln x0))) (Re x1 (0, (ln x0))) hC [] ?_
 obtain ⟨w0, hm0, hret0, hnext0⟩ := As h
 clear h
 refine wc w0 (Ab8 x0) (Adr x1) ?_ λ z0 hs0 => ?_
 ·refine wb ?_
  refine By (by kernel_rfl) (N6 x0 x1) (Na x0) (Re x1) w0 1152921504606846976 (0, (ln x0)) hm0 rfl rfl λ z0 w0b h hb0 hr0 => ?_
  unfold N6 at h
  rcases cB h with ⟨h1, h⟩ | ⟨h1, h⟩
  ·obtain ⟨y2, h3, h⟩ := Ad h
   refine wn Lu 31 [true] [pr q86 h3, pc A33 (A19 y2 x1 _ rfl) []] [] 0 [0] [0, 2, 4, 6, 7, 8, 9, 10, 11, 31] hC [pq h1] ?_
   rcases cB h with ⟨h4, h⟩ | ⟨h4, h⟩
   ·exact wx w0b (Na x0) (Re x1) Lu 24 [true] [] [] 0 [0] (w64 ((w64 (Gb .u64 (IntKind.wrap .u64 (w64 (z0.1 + z0.2))) 1)) + 1), z0.2) hC [pq h4] (sI h).symm
   ·exact wx w0b (Na x0) (Re x1) Lu 24 [false] [] [] 0 [0] (z0.1, w64 (Gb .u64 (IntKind.wrap .u64 (w64 (z0.1 + z0.2))) 1)) hC [pq h4] (sI h).symm
  ·exact wx w0 (Ab8 x0) (Adr x1) Lu 26 [false] [] [] 0 [0] (z0.1, z0.2) hC [pq h1] (hb0 _ (sI h).symm)
 ·have h := hnext0 _ hs0
  obtain ⟨y5, h6, h⟩ := Ad h
  replace h := sI h
  subst h
  exact wr Lu 23 [] [pR q86 h6, ⟨.when [(decide (z0.1 < (ln x0)), true)] (.call 224 [.agg (d86 y5), .agg (d86 x1)] [] (dI (Ry y5 x1)) [] []), λ hg => ⟨A33, (A19 y5 x1 _ rfl)⟩⟩] [] 0 [] hC []
theorem Aue : EN 223 := en Tryz.func223
def Hi : List Nat := [0, 1, 4, 5, 6, 8, 13, 14, 15, 16, 32, 38, 39, 40, 41]
def Nf (x0 : Ax) (n0 : Nat) (z0 : (List Int)) : St := [(0, dO 0 0), (1, .d (.fn (.func 235) [] [.o 6 0])), (4, dS 7), (13, .d (DS Bi x0.Al.Ag)), (14, dI (ln x0.Al.Ag)), (15, dI (cnt 0 n0))]
def Ri (x0 : Ax) (x1c0 : Int) (n0 : Nat) (z0 : (List Int)) : List Res := (.box 235 (zb x0.Al [.os 8, .os 9, .os 10, .os 11, .os 12]) :: .non :: .non :: .non :: .non :: .non :: .box 3 [I x1c0] :: v0_ z0 :: zp x0.Au [v6_ x0.acts])
def Acf  (z0 : (List Int)) : St := [(0, dO 0 0), (4, dS 7)]
def Ady (x0 : Ax) (x1c0 : Int) (z0 : (List Int)) : List Res := (.box 235 (zb x0.Al [.os 8, .os 9, .os 10, .os 11, .os 12]) :: .non :: .non :: .non :: .non :: .non :: .box 3 [I x1c0] :: v0_ z0 :: zp x0.Au [v6_ x0.acts])
def Sn (z0 : (List Int)) (n1 : Nat) (z1 : Sg6) : St := [(0, dO 0 0), (38, dS 7), (39, dI (ln z0)), (40, dI (cnt 0 n1))]
def Ze (x1c0 : Int) (z0 : (List Int)) (n1 : Nat) (z1 : Sg6) : List Res := [.box 235 [I z1.1, DS Bi z1.2.1, DS Bt z1.2.2.1, DS q65 (g3_ z1), I (g4_ z1), I (g5_ z1), .os 8, .os 9, .os 10, .os 11, .os 12], .non, .non, .non, .non, .non, .box 3 [I x1c0], v0_ z0, v2_ (g6_ z1), v4_ (g7_ z1), v0_ (g8_ z1), v3_ (g9_ z1), v6_ (Dr z1)]
def Ace  (z1 : Sg6) : St := []
def Adx (x1c0 : Int) (z1 : Sg6) : List Res := [.box 235 [I z1.1, DS Bi z1.2.1, DS Bt z1.2.2.1, DS q65 (g3_ z1), I (g4_ z1), I (g5_ z1), .os 7, .os 8, .os 9, .os 10, .os 11], .non, .non, .non, .non, .non, .box 3 [I x1c0], v2_ (g6_ z1), v4_ (g7_ z1), v0_ (g8_ z1), v3_ (g9_ z1), v6_ (Dr z1)]
theorem A2j (x0 : Ax) (x1c0 : Int) (r : Ax × Int) (h : U7 x0 x1c0 = some r) : CO 204 [.d (.o 0 0), .d (.fn (.func 235) [] [.o 6 0])] (.box 235 (zb x0.Al [.os 1, .os 2, .os 3, .os 4, .os 5]) :: zp x0.Au [v6_ x0.acts, .box 3 [I x1c0]]) (.tup []) (.box 235 (zb r.1.Al [.os 7, .os 8, .os 9, .os 10, .os 11]) :: .non :: .non :: .non :: .non :: .non :: .box 3 [I r.2] :: zp r.1.Au [v6_ r.1.acts]) := by
 unfold U7 at h
 refine co 48 Tryz.func204 λ C hC => ?_
 refine ws Hi 26 [] [pl Bi x0.Al.Ag] [.own 4 3 1, .mv 1, .mv 2, .mv 3, .mv 4, .mv 5] 7 Fm (Nf x0 0 ([] : List Int)) (Ri x0 x1c0 0 ([] : List Int)) hC [] ?_
 obtain ⟨w0, hm0, hret0, hnext0⟩ := As h
 clear h
 refine wc w0 (Acf) (Ady x0 x1c0) ?_ λ z0 hs0 => ?_
 ·refine wb ?_
  refine Bm 13 rfl λ hl0 => ?_
  refine A8 (by kernel_rfl) (N_ x0 x1c0) (Nf x0) (Ri x0 x1c0) w0 x0.Al.Ag ([] : List Int) hm0 rfl rfl (λ z0 hn0 => ?_) λ n0 a0 z0 w0b hi0 hx0 h hb0 hr0 => ?_
  ·clear hm0
   exact wx w0 (Acf) (Ady x0 x1c0) Hi 26 [false] [] [] 7 Fm z0 hC [pq (Ba hl0)] hn0
  ·unfold N_ at h
   obtain ⟨y1, h2, h⟩ := Ad h
   refine wn Hi 32 [true] [pt hx0 hl0, pr pB h2, pn pB h2, ⟨.when [(y1, true)] (.callB 235 [.agg (Ot a0), .d (.ip [.v (.int .i64 x1c0)])] (dB (Uv a0 x1c0)) [[]] 0 []), λ hg => Iu ⟨A3x, (A13 a0 x1c0 _ rfl)⟩⟩] [] 7 Fm [0, 1, 4, 5, 13, 14, 15, 32] hC [pq (A9 hi0 hl0)] ?_
   rcases cB h with ⟨h3, h⟩ | ⟨h3, h⟩
   ·obtain ⟨y4, h5, h⟩ := Ad h
    exact wx w0b (Nf x0 (n0 + 1)) (Ri x0 x1c0 (n0 + 1)) Hi 25 [true] [pa pI 1 h5] [] 7 [0, 1, 2, 3, 4, 5, 6, 13, 8, 9, 10, 11, 12] y4 hC [pq h3] (sI h).symm
   ·exact wx w0b (Nf x0 (n0 + 1)) (Ri x0 x1c0 (n0 + 1)) Hi 25 [false] [] [] 7 Fm z0 hC [pq h3] (sI h).symm
 ·have h := hnext0 _ hs0
  refine ws Hi 23 [] [pl pI z0] [] 7 Fm (Sn z0 0 (zt x0.Al (zu x0.Au x0.acts))) (Ze x1c0 z0 0 (zt x0.Al (zu x0.Au x0.acts))) hC [] ?_
  obtain ⟨w1, hm1, hret1, hnext1⟩ := As h
  clear h
  refine wc w1 (Ace) (Adx x1c0) ?_ λ z1 hs1 => ?_
  ·refine wb ?_
   refine Cc 38 7 rfl rfl λ hl1 => ?_
   refine A8 (by kernel_rfl) U6 (Sn z0) (Ze x1c0 z0) w1 z0 (zt x0.Al (zu x0.Au x0.acts)) hm1 rfl rfl (λ z1 hn1 => ?_) λ n1 a1 z1 w1b hi1 hx1 h hb1 hr1 => ?_
   ·clear hm1
    exact wx w1 (Ace) (Adx x1c0) Hi 26 [false] [] [] 7 [0, 1, 2, 3, 4, 5, 6, 8, 9, 10, 11, 12] (z1.1, z1.2.1, z1.2.2.1, (g3_ z1), (g4_ z1), (g5_ z1), (g6_ z1), (g7_ z1), (g8_ z1), (g9_ z1), (Dr z1)) hC [pq (Ba hl1)] hn1
   ·unfold U6 at h
    obtain ⟨y6, h7, h⟩ := Ad h
    exact wx w1b (Sn z0 (n1 + 1)) (Ze x1c0 z0 (n1 + 1)) Hi 33 [true] [pr pI (Bp hx1 hl1), pn pI (Bp hx1 hl1), pc Ah4 (Ag9 (⟨(⟨z1.1, z1.2.1, z1.2.2.1, (g3_ z1), (g4_ z1), (g5_ z1)⟩ : Aa), (⟨(g6_ z1), (g7_ z1), (g8_ z1), (g9_ z1)⟩ : Ab), (Dr z1)⟩ : Ax) a1 _ h7) [0, 8, 9, 10, 11, 12]] [] 7 [0, 1, 2, 3, 4, 5, 6, 7, 8, 9, 10, 11, 13] (zt y6.Al (zu y6.Au y6.acts)) hC [pq (A9 hi1 hl1)] (sI h).symm
  ·have h := hnext1 _ hs1
   replace h := sI h
   subst h
   exact wf Hi 20 [] [] [] 7 E7 hC []
theorem A4d : EN 204 := en Tryz.func204
theorem A3d (x0 : Int) (x1 : Int) (r : Int × Int) (h : Jj x0 x1 = r) : CO 140 [.d (.p (.v (.int .u64 x0))), .d (.p (.v (.int .u64 x1)))] [] (.tup [.d (.p (.v (.int .u64 r.1))), .d (.p (.v (.int .u64 r.2)))]) [] := by
 unfold Jj at h
 refine co 30 Tryz.func140 λ C hC => ?_
 subst h
 exact wr [0, 1, 4, 5, 6, 7, 8, 9] 30 [false] [pc A91 (A8j x0 x1 _ rfl) []] [] 0 [] hC [⟨(false, false), rfl⟩]
theorem A47 : EN 140 := en Tryz.func140
def Lv : List Nat := [0, 1, 4, 5, 7, 8, 9, 16]
def Sl (x0 : List Ak) (n0 : Nat) (z0 : Unit) : St := [(0, .d (DS Bi x0)), (1, .d (.fn (.func 219) [] [.o 0 0])), (4, dI 0), (7, dI (ln x0)), (8, dI (cnt 0 n0))]
def Zc (x1c0 : Int) (n0 : Nat) (z0 : Unit) : List Res := [.box 3 [I x1c0]]
def Ab9  (z0 : Unit) : St := [(4, dI 0)]
def Ads (x1c0 : Int) (z0 : Unit) : List Res := [.box 3 [I x1c0]]
theorem A2b (x0 : List Ak) (x1c0 : Int) (r : Int × Int) (h : yD x0 x1c0 = some r) : CO 218 [.d (DS Bi x0), .d (.fn (.func 219) [] [.o 0 0])] [.box 3 [I x1c0]] (.d (I r.1)) [.box 3 [I r.2]] := by
 unfold yD at h
 refine co 19 Tryz.func218 λ C hC => ?_
 refine ws Lv 26 [] [pl Bi x0] [] 1 [0] (Sl x0 0 ()) (Zc x1c0 0 ()) hC [] ?_
 obtain ⟨w0, hm0, hret0, hnext0⟩ := As h
 clear h
 refine wc w0 (Ab9) (Ads x1c0) ?_ λ z0 hs0 => ?_
 ·refine wb ?_
  refine Bm 0 rfl λ hl0 => ?_
  refine A8 (by kernel_rfl) (Kt x1c0) (Sl x0) (Zc x1c0) w0 x0 () hm0 rfl rfl (λ z0 hn0 => ?_) λ n0 a0 z0 w0b hi0 hx0 h hb0 hr0 => ?_
  ·clear hm0
   exact wx w0 (Ab9) (Ads x1c0) Lv 26 [false] [] [] 1 [0] () hC [pq (Ba hl0)] hn0
  ·unfold Kt at h
   refine wn Lv 32 [true] [pt hx0 hl0, pb A34 (A2a a0 x1c0 _ rfl)] [] 1 [0] [0, 1, 4, 5, 7, 8, 16] hC [pq (A9 hi0 hl0)] ?_
   rcases cB h with ⟨h1, h⟩ | ⟨h1, h⟩
   ·have hq := hret0 _ (hr0 _ (sI h).symm)
    replace hq := sI hq
    subst hq
    exact wr Lv 24 [true] [] [] 1 [0] hC [pq h1]
   ·exact wx w0b (Sl x0 (n0 + 1)) (Zc x1c0 (n0 + 1)) Lv 25 [false] [] [] 1 [0] () hC [pq h1] (sI h).symm
 ·have h := hnext0 _ hs0
  replace h := sI h
  subst h
  exact wr Lv 23 [] [] [] 1 [0] hC []
theorem A35 : EN 218 := en Tryz.func218
def Mm : List Nat := [0, 1, 2, 3, 4, 5, 6, 38, 41, 42, 43, 55, 59, 60, 61, 73]
def Af4 (x0 : Ab) (z0 : Int) : St := [(2, dO 0 0), (3, dO 1 0), (4, dB false), (41, dI (ln x0.Ac)), (42, dI z0)]
def Aq5 (x0 : Ab) (x1 : Ab) (z0 : Int) : List Res := [.box 36 (d36 x0), .box 36 (d36 x1)]
def As5  (z0 : Int) : St := [(2, dO 0 0), (3, dO 1 0), (4, dB false)]
def Av9 (x0 : Ab) (x1 : Ab) (z0 : Int) : List Res := [.box 36 (d36 x0), .box 36 (d36 x1)]
def Af3 (x0 : Ab) (z1 : Int) : St := [(2, dO 0 0), (3, dO 1 0), (4, dB false), (59, dI (ln x0.Ao)), (60, dI z1)]
def Aq4 (x0 : Ab) (x1 : Ab) (z1 : Int) : List Res := [.box 36 (d36 x0), .box 36 (d36 x1)]
def As4  (z1 : Int) : St := [(4, dB false)]
def Av8  (z1 : Int) : List Res := []
theorem k19 (x0 : Ab) (x1 : Ab) (r : Bool) (h : F19 x0 x1 = some r) : CO 19 [.agg (d36 x0), .agg (d36 x1)] [] (.d (Bo r)) [] := by
 unfold F19 at h
 refine co 75 Tryz.func19 λ C hC => ?_
 obtain ⟨y1, h2, h⟩ := Ad h
 obtain ⟨y3, h4, h⟩ := Ad h
 refine wn Mm 26 [] [pc e37 (k37 x0.Ah x1.Ah _ h2) [], pw e38 (λ hg => k38 x0.Ar x1.Ar _ (A_ h4 hg)) [], pL_ [(((!y1) || (!y3)), false)] A6 x0.Ac, pL_ [(((!y1) || (!y3)), false)] A6 x1.Ac, pL_ [((((!y1) || (!y3)) || ((ln x0.Ac) != (ln x1.Ac))), false)] q86 x0.Ao, pL_ [((((!y1) || (!y3)) || ((ln x0.Ac) != (ln x1.Ac))), false)] q86 x1.Ao] [] 0 [0, 1] [2, 3, 4, 38] hC [] ?_
 rcases cB h with ⟨h5, h⟩ | ⟨h5, h⟩
 ·replace h := sI h
  subst h
  exact wr Mm 24 [true] [] [] 0 [] hC [pq h5]
 ·refine ws Mm 26 [false] [pl A6 x0.Ac] [] 0 [0, 1] (Af4 x0 0) (Aq5 x0 x1 0) hC [pq h5] ?_
  obtain ⟨w0, hm0, hret0, hnext0⟩ := As h
  clear h
  refine wc w0 (As5) (Av9 x0 x1) ?_ λ z0 hs0 => ?_
  ·refine wb ?_
   refine By (by kernel_rfl) (yG x0 x1) (Af4 x0) (Aq5 x0 x1) w0 1152921504606846976 0 hm0 rfl rfl λ z0 w0b h hb0 hr0 => ?_
   unfold yG at h
   rcases cB h with ⟨h6, h⟩ | ⟨h6, h⟩
   ·obtain ⟨y7, h8, h⟩ := Ad h
    obtain ⟨y9, h10, h⟩ := Ad h
    rcases cB h with ⟨h11, h⟩ | ⟨h11, h⟩
    ·have hq := hret0 _ (hr0 _ (sI h).symm)
     replace hq := sI hq
     subst hq
     exact wr Mm 35 [true, true] [pr A6 h8, pr A6 h10] [] 0 [] hC [pq h6, pq h11]
    ·exact wx w0b (Af4 x0) (Aq5 x0 x1) Mm 36 [true, false] [pr A6 h8, pr A6 h10] [] 0 [0, 1] (w64 (z0 + 1)) hC [pq h6, pq h11] (sI h).symm
   ·exact wx w0 (As5) (Av9 x0 x1) Mm 26 [false] [] [] 0 [0, 1] z0 hC [pq h6] (hb0 _ (sI h).symm)
  ·have h := hnext0 _ hs0
   refine ws Mm 24 [] [pl q86 x0.Ao] [] 0 [0, 1] (Af3 x0 0) (Aq4 x0 x1 0) hC [] ?_
   obtain ⟨w1, hm1, hret1, hnext1⟩ := As h
   clear h
   refine wc w1 (As4) (Av8) ?_ λ z1 hs1 => ?_
   ·refine wb ?_
    refine By (by kernel_rfl) (yF x0 x1) (Af3 x0) (Aq4 x0 x1) w1 1152921504606846976 0 hm1 rfl rfl λ z1 w1b h hb1 hr1 => ?_
    unfold yF at h
    rcases cB h with ⟨h12, h⟩ | ⟨h12, h⟩
    ·obtain ⟨y13, h14, h⟩ := Ad h
     obtain ⟨y15, h16, h⟩ := Ad h
     rcases cB h with ⟨h17, h⟩ | ⟨h17, h⟩
     ·have hq := hret1 _ (hr1 _ (sI h).symm)
      replace hq := sI hq
      subst hq
      exact wr Mm 35 [true, true] [pr q86 h14, pr q86 h16] [] 0 [] hC [pq h12, pq h17]
     ·exact wx w1b (Af3 x0) (Aq4 x0 x1) Mm 36 [true, false] [pr q86 h14, pr q86 h16] [] 0 [0, 1] (w64 (z1 + 1)) hC [pq h12, pq h17] (sI h).symm
    ·exact wx w1 (As4) (Av8) Mm 26 [false] [] [] 0 [] z1 hC [pq h12] (hb1 _ (sI h).symm)
   ·have h := hnext1 _ hs1
    replace h := sI h
    subst h
    exact wr Mm 23 [] [] [] 0 [] hC []
theorem e19 : EN 19 := en Tryz.func19
theorem A8i (x0 : C6) (r : Int) (h : Arh x0 = r) : CO 198 [.agg (Aqb x0)] [] (.d (I r)) [] := by
 unfold Arh at h
 refine co 9 Tryz.func198 λ C hC => ?_
 subst h
 exact wr n3_ 25 [] [pc Ah5 (Aha (w64 (x0.To - x0.From)) _ rfl) []] [] 0 [] hC []
theorem A90 : EN 198 := en Tryz.func198
def Tl : List Nat := [0, 1, 4, 5, 7, 8, 9, 16]
def Afw (x0 : List A1) (n0 : Nat) (z0 : Unit) : St := [(0, .d (DS q65 x0)), (1, .d (.fn (.func 45) [] [.o 0 0])), (4, dI 0), (7, dI (ln x0)), (8, dI (cnt 0 n0))]
def Aov (x1c0 : Int) (n0 : Nat) (z0 : Unit) : List Res := [.box 3 [I x1c0]]
def Agg  (z0 : Unit) : St := [(4, dI 0)]
def Aja (x1c0 : Int) (z0 : Unit) : List Res := [.box 3 [I x1c0]]
theorem A6o (x0 : List A1) (x1c0 : Int) (r : Int × Int) (h : Ard x0 x1c0 = some r) : CO 44 [.d (DS q65 x0), .d (.fn (.func 45) [] [.o 0 0])] [.box 3 [I x1c0]] (.d (I r.1)) [.box 3 [I r.2]] := by
 unfold Ard at h
 refine co 19 Tryz.func44 λ C hC => ?_
 refine ws Tl 26 [] [pl q65 x0] [] 1 [0] (Afw x0 0 ()) (Aov x1c0 0 ()) hC [] ?_
 obtain ⟨w0, hm0, hret0, hnext0⟩ := As h
 clear h
 refine wc w0 (Agg) (Aja x1c0) ?_ λ z0 hs0 => ?_
 ·refine wb ?_
  refine Bm 0 rfl λ hl0 => ?_
  refine A8 (by kernel_rfl) (Zy x1c0) (Afw x0) (Aov x1c0) w0 x0 () hm0 rfl rfl (λ z0 hn0 => ?_) λ n0 a0 z0 w0b hi0 hx0 h hb0 hr0 => ?_
  ·clear hm0
   exact wx w0 (Agg) (Aja x1c0) Tl 26 [false] [] [] 1 [0] () hC [pq (Ba hl0)] hn0
  ·unfold Zy at h
   refine wn Tl 32 [true] [pt hx0 hl0, pb A68 (A6n a0 x1c0 _ rfl)] [] 1 [0] [0, 1, 4, 5, 7, 8, 16] hC [pq (A9 hi0 hl0)] ?_
   rcases cB h with ⟨h1, h⟩ | ⟨h1, h⟩
   ·have hq := hret0 _ (hr0 _ (sI h).symm)
    replace hq := sI hq
    subst hq
    exact wr Tl 24 [true] [] [] 1 [0] hC [pq h1]
   ·cases h
 ·have h := hnext0 _ hs0
  replace h := sI h
  subst h
  exact wr Tl 23 [] [] [] 1 [0] hC []
theorem A69 : EN 44 := en Tryz.func44
theorem A3j (rec46 : Aa -> Ab -> Int -> Option Bool) (ih46 : ∀ (x0 : Aa) (x1 : Ab) (x2 : Int) (r : Bool), rec46 x0 x1 x2 = some r -> CO 46 [.agg (d29 x0), .agg (d36 x1), .d (I x2)] [] (.d (Bo r)) []) (x0 : Int) (x1 : Aa) (x2 : Ab) (r : Bool) (h : Ak6 rec46 x0 x1 x2 = some r) : CO 105 [.d (I x0), .d (.ip [.v (.int .i64 x1.An), .s (x1.Ag.map Bi), .s (x1.Ac.map Bt), .s (x1.Ae.map q65), .v (.int .i64 x1.Phase), .v (.int .i64 x1.Aq)]), .d (.ip [.s (x2.Ah.map pB), .s (x2.Ac.map A6), .s (x2.Ar.map pI), .s (x2.Ao.map q86)])] [] (.d (Bo r)) [] := by
 unfold Ak6 at h
 refine co 10 Tryz.func105 λ C hC => ?_
 obtain ⟨y1, h2, h⟩ := Ad h
 replace h := sI h
 subst h
 exact wr [0, 1, 2, 4] 25 [] [pc e46 (ih46 x1 x2 x0 _ h2) []] [] 0 [] hC []
theorem A5d : EN 105 := en Tryz.func105
theorem A8g (x0 : Int) (x1 : Int) (r : Int) (h : Ayq x0 x1 = some r) : CO 202 [.d (I x0), .d (I x1)] [] (.d (I r)) [] := by
 unfold Ayq at h
 refine co 10 Tryz.func202 λ C hC => ?_
 obtain ⟨y1, h2, h⟩ := Ad h
 replace h := sI h
 subst h
 exact wr [0, 1, 4] 25 [] [pc A9x (A8f (w64 (0 - x0)) x1 _ h2) []] [] 0 [] hC []
theorem A9y : EN 202 := en Tryz.func202
def Pb : List Nat := [0, 1, 4, 5, 7, 8, 9, 16]
def Sw (x0 : List Ai) (n0 : Nat) (z0 : Unit) : St := [(0, .d (DS q84 x0)), (1, .d (.fn (.func 90) [] [])), (4, dI 0), (7, dI (ln x0)), (8, dI (cnt 0 n0))]
def Zm  (n0 : Nat) (z0 : Unit) : List Res := []
def Acs  (z0 : Unit) : St := [(4, dI 0)]
def Aeb  (z0 : Unit) : List Res := []
theorem A3c (x0 : List Ai) (r : Int) (h : Ak0 x0 = some r) : CO 141 [.d (DS q84 x0), .d (.fn (.func 90) [] [])] [] (.d (I r)) [] := by
 unfold Ak0 at h
 refine co 19 Tryz.func141 λ C hC => ?_
 refine ws Pb 26 [] [pl q84 x0] [] 0 [] (Sw x0 0 ()) (Zm 0 ()) hC [] ?_
 obtain ⟨w0, hm0, hret0, hnext0⟩ := As h
 clear h
 refine wc w0 (Acs) (Aeb) ?_ λ z0 hs0 => ?_
 ·refine wb ?_
  refine Bm 0 rfl λ hl0 => ?_
  refine A8 (by kernel_rfl) Vm (Sw x0) (Zm) w0 x0 () hm0 rfl rfl (λ z0 hn0 => ?_) λ n0 a0 z0 w0b hi0 hx0 h hb0 hr0 => ?_
  ·clear hm0
   exact wx w0 (Acs) (Aeb) Pb 26 [false] [] [] 0 [] () hC [pq (Ba hl0)] hn0
  ·unfold Vm at h
   rcases cB h with ⟨h1, h⟩ | ⟨h1, h⟩
   ·have hq := hret0 _ (hr0 _ (sI h).symm)
    replace hq := sI hq
    subst hq
    exact wr Pb 35 [true, true] [pt hx0 hl0, pc e90 (k90 a0 _ rfl) []] [] 0 [] hC [pq (A9 hi0 hl0), pq h1]
   ·exact wx w0b (Sw x0 (n0 + 1)) (Zm (n0 + 1)) Pb 36 [true, false] [pt hx0 hl0, pc e90 (k90 a0 _ rfl) []] [] 0 [] () hC [pq (A9 hi0 hl0), pq h1] (sI h).symm
 ·have h := hnext0 _ hs0
  replace h := sI h
  subst h
  exact wr Pb 23 [] [] [] 0 [] hC []
theorem A46 : EN 141 := en Tryz.func141
theorem k78 (x0 : Aj) (x1 : Int) (x2 : Int) (r : Int × Aj) (h : F78 x0 x1 x2 = some r) : CO 78 [.d (.o 0 0), .d (I x1), .d (I x2)] [.box 90 (d90 x0)] (.d (I r.1)) [.box 90 (d90 r.2)] := by
 unfold F78 at h
 refine co 15 Tryz.func78 λ C hC => ?_
 obtain ⟨y1, h2, h⟩ := Ad h
 replace h := sI h
 subst h
 exact wr [0, 1, 2, 6] 25 [] [pc e32 (k32 x0 (w64 ((w64 (x2 - x1)) + 1)) _ h2) [0]] [] 1 [0] hC []
theorem e78 : EN 78 := en Tryz.func78
theorem k40 (x0 : Aj) (x1 : List Int) (r : Int × Aj) (h : F40 x0 x1 = some r) : CO 40 [.d (.o 0 0), .d (DS pI x1)] [.box 90 (d90 x0)] (.d (I r.1)) [.box 90 (d90 r.2)] := by
 unfold F40 at h
 refine co 12 Tryz.func40 λ C hC => ?_
 obtain ⟨y1, h2, h⟩ := Ad h
 obtain ⟨y3, h4, h⟩ := Ad h
 replace h := sI h
 subst h
 exact wr [0, 1, 4] 25 [] [pl pI x1, pc e32 (k32 x0 (ln x1) _ h2) [0], pr pI h4] [] 1 [0] hC []
theorem e40 : EN 40 := en Tryz.func40
theorem Aps (x0 : Aa) (r : Int) (h : Abp x0 = some r) : CO 111 [.agg (d29 x0)] [] (.d (I r)) [] := by
 unfold Abp at h
 refine co 62 Tryz.func111 λ C hC => ?_
 refine wn [0, 1, 2, 28, 61] 26 [] [pL_ [(((decide (x0.An < 1)) || (decide (x0.An > 6))), false)] Bi x0.Ag, pL_ [((((decide (x0.An < 1)) || (decide (x0.An > 6))) || (decide ((ln x0.Ag) > 24))), false)] Bt x0.Ac, pL_ [(((((decide (x0.An < 1)) || (decide (x0.An > 6))) || (decide ((ln x0.Ag) > 24))) || (decide ((ln x0.Ac) > 8))), false)] q65 x0.Ae] [] 0 [0] [1, 2, 28] hC [] ?_
 rcases cB h with ⟨h1, h⟩ | ⟨h1, h⟩
 ·replace h := sI h
  subst h
  exact wr [0, 1, 2, 28, 61] 24 [true] [] [] 0 [] hC [pq h1]
 ·obtain ⟨y2, h3, h⟩ := Ad h
  obtain ⟨y4, h5, h⟩ := Ad h
  obtain ⟨y6, h7, h⟩ := Ad h
  refine wn [0, 1, 2, 28, 61] 26 [false] [pc A_d (A8v x0 _ h3) [], pw A_c (λ hg => A8u x0 _ (A_ h5 hg)) [], pw A_b (λ hg => A8t x0 _ (A_ h7 hg)) []] [] 0 [] [2, 61] hC [pq h1] ?_
  rcases cB h with ⟨h8, h⟩ | ⟨h8, h⟩
  ·replace h := sI h
   subst h
   exact wr [0, 1, 2, 28, 61] 24 [true] [] [] 0 [] hC [pq h8]
  ·replace h := sI h
   subst h
   exact wr [0, 1, 2, 28, 61] 25 [false] [] [] 0 [] hC [pq h8]
theorem Ap7 : EN 111 := en Tryz.func111
theorem A2r (x0 : List (List Int)) (r : Bool) (h : Vc x0 = some r) : CO 191 [.d (DS (pL pI) x0), .d (.fn (.func 192) [] [])] [] (.d (Bo r)) [] := by
 unfold Vc at h
 refine co 9 Tryz.func191 λ C hC => ?_
 obtain ⟨y1, h2, h⟩ := Ad h
 replace h := sI h
 subst h
 exact wr [0, 1, 4] 25 [] [pc A30 (A16 x0 _ h2) []] [] 0 [] hC []
theorem A4l : EN 191 := en Tryz.func191
def Aag : List Nat := [0, 1, 2, 4, 5, 6, 7, 8, 9, 10, 49]
def Afl (x1 : List Am) (n0 : Nat) (z0 : Unit) : St := [(1, .d (DS q86 x1)), (2, dO 0 0), (4, dB false), (7, .d (DS q86 x1)), (8, dI (ln x1)), (9, dI (cnt 0 n0))]
def Aqn (x0 : Aa) (n0 : Nat) (z0 : Unit) : List Res := [.box 29 (d29 x0)]
def Ar9 (x1 : List Am) (z0 : Unit) : St := [(1, .d (DS q86 x1)), (4, dB false)]
def Avd  (z0 : Unit) : List Res := []
theorem k95 (x0 : Aa) (x1 : List Am) (r : Bool) (h : F95 x0 x1 = some r) : CO 95 [.agg (d29 x0), .d (DS q86 x1)] [] (.d (Bo r)) [] := by
 unfold F95 at h
 refine co 54 Tryz.func95 λ C hC => ?_
 refine ws Aag 26 [] [pl q86 x1] [] 0 [0] (Afl x1 0 ()) (Aqn x0 0 ()) hC [] ?_
 obtain ⟨w0, hm0, hret0, hnext0⟩ := As h
 clear h
 refine wc w0 (Ar9 x1) (Avd) ?_ λ z0 hs0 => ?_
 ·refine wb ?_
  refine Bm 7 rfl λ hl0 => ?_
  refine A8 (by kernel_rfl) (Un x0 x1) (Afl x1) (Aqn x0) w0 x1 () hm0 rfl rfl (λ z0 hn0 => ?_) λ n0 a0 z0 w0b hi0 hx0 h hb0 hr0 => ?_
  ·clear hm0
   exact wx w0 (Ar9 x1) (Avd) Aag 26 [false] [] [] 0 [] () hC [pq (Ba hl0)] hn0
  ·unfold Un at h
   obtain ⟨y1, h2, h⟩ := Ad h
   obtain ⟨y3, h4, h⟩ := Ad h
   obtain ⟨y5, h6, h⟩ := Ad h
   refine wn Aag 32 [true] [pt hx0 hl0, pc A_i (A80 x0 a0.Kind _ rfl) [], pc e99 (k99 a0.Number 0 (w64 ((Le x0 a0.Kind) - 1)) _ rfl) [], pR q86 h2, ⟨.when [(!(F99 a0.Number 0 (w64 ((Le x0 a0.Kind) - 1))), false), (decide ((cnt 0 n0) > 0), true)] (.call 154 [dI y1.Kind, dI a0.Kind] [] (dI (J2 y1.Kind a0.Kind)) [] []), λ hg => ⟨Axx, (Axf y1.Kind a0.Kind _ rfl)⟩⟩, pR q86 h4, ⟨.when [(!(F99 a0.Number 0 (w64 ((Le x0 a0.Kind) - 1))), false), (decide ((cnt 0 n0) > 0), true)] (.call 154 [dI y3.Number, dI a0.Number] [] (dI (J2 y3.Number a0.Number)) [] []), λ hg => ⟨Axx, (Axf y3.Number a0.Number _ rfl)⟩⟩, pw A_h (λ hg => A8z [J2 y1.Kind a0.Kind, J2 y3.Number a0.Number] _ (A_ h6 hg)) []] [] 0 [0] [1, 2, 4, 7, 8, 9, 49] hC [pq (A9 hi0 hl0)] ?_
   rcases cB h with ⟨h7, h⟩ | ⟨h7, h⟩
   ·have hq := hret0 _ (hr0 _ (sI h).symm)
    replace hq := sI hq
    subst hq
    exact wr Aag 24 [true] [] [] 0 [] hC [pq h7]
   ·exact wx w0b (Afl x1 (n0 + 1)) (Aqn x0 (n0 + 1)) Aag 25 [false] [] [] 0 [0] () hC [pq h7] (sI h).symm
 ·have h := hnext0 _ hs0
  replace h := sI h
  subst h
  exact wr Aag 23 [] [pl q86 x1] [] 0 [] hC []
theorem e95 : EN 95 := en Tryz.func95
theorem k97 (x0 : Af) (r : Bool) (h : F97 x0 = r) : CO 97 [.agg (T7 x0)] [] (.d (Bo r)) [] := by
 unfold F97 at h
 refine co 6 Tryz.func97 λ C hC => ?_
 subst h
 exact wr n3_ 25 [] [pc e98 (k98 x0 _ rfl) []] [] 0 [] hC []
theorem e97 : EN 97 := en Tryz.func97
def Jt : List Nat := [0, 1, 4, 5, 6, 7, 12, 19, 29]
def Nk  (z0 : Int × Int × (List Ai)) : St := [(0, dS 0), (1, .d (.fn (.func 146) [] [])), (4, .d (DS q84 [])), (5, dI z0.1), (6, dI z0.2.1)]
def Rn  (z0 : Int × Int × (List Ai)) : List Res := [v8_ z0.2.2]
def Acr  (z0 : Int × Int × (List Ai)) : St := [(0, dS 0), (4, .d (DS q84 [])), (5, dI z0.1)]
def Aea  (z0 : Int × Int × (List Ai)) : List Res := [v8_ z0.2.2]
theorem Atn (x0 : List Ai) (r : (List Ai)) (h : P2 x0 = some r) : CO 145 [.d (.os 0), .d (.fn (.func 146) [] [])] [.sl 84 3 (x0.map q84)] (.d (.os 1)) [.non, .sl 84 3 (r.map q84)] := by
 unfold P2 at h
 refine co 42 Tryz.func145 λ C hC => ?_
 obtain ⟨y1, h2, h⟩ := Ad h
 rcases cB h with ⟨h3, h⟩ | ⟨h3, h⟩
 ·replace h := sI h
  subst h
  exact wr Jt 31 [true] [pb Aui (Ato x0 _ h2)] [.mv 0] 1 [0, 1] hC [pq h3]
 ·refine ws Jt 33 [false] [pb Aui (Ato x0 _ h2)] [] 1 [0] (Nk (y1, w64 (y1 + 1), x0)) (Rn (y1, w64 (y1 + 1), x0)) hC [pq h3] ?_
  obtain ⟨w0, hm0, hret0, hnext0⟩ := As h
  clear h
  refine wc w0 (Acr) (Aea) ?_ λ z0 hs0 => ?_
  ·refine wb ?_
   refine By (by kernel_rfl) Oe (Nk) (Rn) w0 1152921504606846976 (y1, w64 (y1 + 1), x0) hm0 rfl rfl λ z0 w0b h hb0 hr0 => ?_
   unfold Oe at h
   rcases cB h with ⟨h4, h⟩ | ⟨h4, h⟩
   ·obtain ⟨y5, h6, h⟩ := Ad h
    refine wn Jt 32 [true] [pl q84 z0.2.2, pr q84 h6, pn q84 h6, pc A44 (A3a y5 _ rfl) []] [] 1 [0, 1] [0, 1, 4, 5, 6, 7, 29] hC [pq h4] ?_
    rcases cB h with ⟨h7, h⟩ | ⟨h7, h⟩
    ·obtain ⟨y8, h9, h⟩ := Ad h
     obtain ⟨y10, h11, h⟩ := Ad h
     exact wx w0b (Nk) (Rn) Jt 27 [true] [pr q84 h9, pu q84 h9 h11] [] 1 [0] (w64 (z0.1 + 1), w64 (z0.2.1 + 1), y10) hC [pq h7] (sI h).symm
    ·exact wx w0b (Nk) (Rn) Jt 25 [false] [] [] 1 [0] (z0.1, w64 (z0.2.1 + 1), z0.2.2) hC [pq h7] (sI h).symm
   ·exact wx w0 (Acr) (Aea) Jt 26 [false] [pl q84 z0.2.2] [] 1 [0] (z0.1, z0.2.1, z0.2.2) hC [pq h4] (hb0 _ (sI h).symm)
  ·have h := hnext0 _ hs0
   obtain ⟨u13, h12, h⟩ := Ad h
   obtain ⟨u15, h14, h⟩ := Ad h
   replace h := sI h
   subst h
   (rw [List.map_take]; exact uR (bs := []) Hh Jt 25 [] [.bnd (z0.2.2.map q84).length z0.1 (((z0.2.2.map q84).length : Nat) : Int) (ln z0.2.2), .eqr ((z0.2.2.map q84).take (Int.toNat z0.1) ++ (List.replicate ((Int.toNat (ln z0.2.2)) - (Int.toNat z0.1)) (q84 (⟨([] : List Int), ([] : List Int), ([] : List Int)⟩ : Ai)) ++ (z0.2.2.map q84).drop ((Int.toNat z0.1) + ((Int.toNat (ln z0.2.2)) - (Int.toNat z0.1))))) ((Ge z0.2.2 (Int.toNat z0.1) ((Int.toNat (ln z0.2.2)) - (Int.toNat z0.1)) (⟨([] : List Int), ([] : List Int), ([] : List Int)⟩ : Ai)).map q84), .bnd ((Ge z0.2.2 (Int.toNat z0.1) ((Int.toNat (ln z0.2.2)) - (Int.toNat z0.1)) (⟨([] : List Int), ([] : List Int), ([] : List Int)⟩ : Ai)).map q84).length 0 z0.1 z0.1] [.trunc 4] [.tmp 4] 1 [0, 1] rfl hC ⟨Eb (by simp) (by simp) h12, Aa2 q84 rfl, Eb (by simp) rfl h14, trivial⟩ trivial (by kernel_rfl))
theorem Auh : EN 145 := en Tryz.func145
def L8 : List Nat := [0, 1, 4, 5, 7, 8, 9, 16]
def S5 (x0 : List Az) (n0 : Nat) (z0 : Sg0) : St := [(0, .d (DS B2 x0)), (1, .d (.fn (.func 62) [] [.o 0 0])), (4, dI 0), (7, dI (ln x0)), (8, dI (cnt 0 n0))]
def Zs  (n0 : Nat) (z0 : Sg0) : List Res := [.box 126 [.fn (.func 58) [] [.o 1 0]], .box 40 [I z0.1, DS pB z0.2.1, DS A6 z0.2.2.1, DS pI (g3_ z0), DS q86 (g4_ z0), DS B2 (g5_ z0), DS q51 (Ms z0)]]
def Ac1  (z0 : Sg0) : St := [(4, dI 0)]
def Aej  (z0 : Sg0) : List Res := [.box 126 [.fn (.func 58) [] [.o 1 0]], .box 40 [I z0.1, DS pB z0.2.1, DS A6 z0.2.2.1, DS pI (g3_ z0), DS q86 (g4_ z0), DS B2 (g5_ z0), DS q51 (Ms z0)]]
theorem A3i (x0 : List Az) (x1c0c0 : A0) (r : Int × A0) (h : yL x0 x1c0c0 = some r) : CO 122 [.d (DS B2 x0), .d (.fn (.func 62) [] [.o 0 0])] [.box 126 [.fn (.func 58) [] [.o 1 0]], .box 40 (d40 x1c0c0)] (.d (I r.1)) [.box 126 [.fn (.func 58) [] [.o 1 0]], .box 40 (d40 r.2)] := by
 unfold yL at h
 refine co 19 Tryz.func122 λ C hC => ?_
 refine ws L8 26 [] [pl B2 x0] [] 2 [0, 1] (S5 x0 0 (x1c0c0.Time, zu x1c0c0.Power (x1c0c0.A5, x1c0c0.A7))) (Zs 0 (x1c0c0.Time, zu x1c0c0.Power (x1c0c0.A5, x1c0c0.A7))) hC [] ?_
 obtain ⟨w0, hm0, hret0, hnext0⟩ := As h
 clear h
 refine wc w0 (Ac1) (Aej) ?_ λ z0 hs0 => ?_
 ·refine wb ?_
  refine Bm 0 rfl λ hl0 => ?_
  refine A8 (by kernel_rfl) Of (S5 x0) (Zs) w0 x0 (x1c0c0.Time, zu x1c0c0.Power (x1c0c0.A5, x1c0c0.A7)) hm0 rfl rfl (λ z0 hn0 => ?_) λ n0 a0 z0 w0b hi0 hx0 h hb0 hr0 => ?_
  ·clear hm0
   exact wx w0 (Ac1) (Aej) L8 26 [false] [] [] 2 [0, 1] (z0.1, z0.2.1, z0.2.2.1, (g3_ z0), (g4_ z0), (g5_ z0), (Ms z0)) hC [pq (Ba hl0)] hn0
  ·unfold Of at h
   refine wn L8 32 [true] [pt hx0 hl0, pc A66 (A6l a0 (⟨z0.1, (⟨z0.2.1, z0.2.2.1, (g3_ z0), (g4_ z0)⟩ : Ab), (g5_ z0), (Ms z0)⟩ : A0) _ rfl) [0, 1]] [] 2 [0, 1] [0, 1, 4, 5, 7, 8, 16] hC [pq (A9 hi0 hl0)] ?_
   rcases cB h with ⟨h1, h⟩ | ⟨h1, h⟩
   ·have hq := hret0 _ (hr0 _ (sI h).symm)
    replace hq := sI hq
    subst hq
    exact wr L8 24 [true] [] [] 2 [0, 1] hC [pq h1]
   ·exact wx w0b (S5 x0 (n0 + 1)) (Zs (n0 + 1)) L8 25 [false] [] [] 2 [0, 1] (((Dv a0 (⟨z0.1, (⟨z0.2.1, z0.2.2.1, (g3_ z0), (g4_ z0)⟩ : Ab), (g5_ z0), (Ms z0)⟩ : A0)).2).Time, (((Dv a0 (⟨z0.1, (⟨z0.2.1, z0.2.2.1, (g3_ z0), (g4_ z0)⟩ : Ab), (g5_ z0), (Ms z0)⟩ : A0)).2).Power).Ah, (((Dv a0 (⟨z0.1, (⟨z0.2.1, z0.2.2.1, (g3_ z0), (g4_ z0)⟩ : Ab), (g5_ z0), (Ms z0)⟩ : A0)).2).Power).Ac, (((Dv a0 (⟨z0.1, (⟨z0.2.1, z0.2.2.1, (g3_ z0), (g4_ z0)⟩ : Ab), (g5_ z0), (Ms z0)⟩ : A0)).2).Power).Ar, (((Dv a0 (⟨z0.1, (⟨z0.2.1, z0.2.2.1, (g3_ z0), (g4_ z0)⟩ : Ab), (g5_ z0), (Ms z0)⟩ : A0)).2).Power).Ao, ((Dv a0 (⟨z0.1, (⟨z0.2.1, z0.2.2.1, (g3_ z0), (g4_ z0)⟩ : Ab), (g5_ z0), (Ms z0)⟩ : A0)).2).A5, ((Dv a0 (⟨z0.1, (⟨z0.2.1, z0.2.2.1, (g3_ z0), (g4_ z0)⟩ : Ab), (g5_ z0), (Ms z0)⟩ : A0)).2).A7) hC [pq h1] (sI h).symm
 ·have h := hnext0 _ hs0
  replace h := sI h
  subst h
  exact wr L8 23 [] [] [] 2 [0, 1] hC []
theorem A5c : EN 122 := en Tryz.func122
theorem k63 (x0 : Aa) (x1 : A0) (r : A4) (h : F63 x0 x1 = some r) : CO 63 [.agg (d29 x0), .agg (d40 x1)] [] (.d (.o 0 0)) (.box 100 (I r.Av.Time :: .os 1 :: .os 2 :: .os 3 :: .os 4 :: .os 5 :: .os 6 :: zb r.Al [.os 7, .os 8]) :: zp r.Av.Power [v5_ r.Av.A5, v1_ r.Av.A7, v1_ r.events, v7_ r.states]) := by
 unfold F63 at h
 refine co 21 Tryz.func63 λ C hC => ?_
 obtain ⟨y1, h2, h⟩ := Ad h
 obtain ⟨y3, h4, h⟩ := Ad h
 obtain ⟨y5, h6, h⟩ := Ad h
 replace h := sI h
 subst h
 exact wr n5_ 27 [] [pc Mw (Mp x1.Power _ h2) [], pc A_s (A9a x1.A5 _ h4) [], pc e84 (k84 x1.A7 _ h6) []] [.ownb 8 13 51 5, .ownb 8 14 36 4] 0 [8, 2, 3, 4, 5, 6, 7, 9, 10] hC []
theorem e63 : EN 63 := en Tryz.func63
theorem A6j (x0 : A4) (x1 : Ab) (r : A4) (h : vF x0 x1 = some r) : CO 81 [.d (.o 0 0), .agg (d36 x1)] (.box 100 (I x0.Av.Time :: .os 1 :: .os 2 :: .os 3 :: .os 4 :: .os 5 :: .os 6 :: zb x0.Al [.os 7, .os 8]) :: zp x0.Av.Power [v5_ x0.Av.A5, v1_ x0.Av.A7, v1_ x0.events, v7_ x0.states]) (.tup []) (.box 100 (I r.Av.Time :: .os 1 :: .os 2 :: .os 3 :: .os 4 :: .os 5 :: .os 6 :: zb r.Al [.os 7, .os 9]) :: zp r.Av.Power [v5_ r.Av.A5, v1_ r.Av.A7, v1_ r.events, .non, v7_ r.states]) := by
 unfold vF at h
 refine co 15 Tryz.func81 λ C hC => ?_
 obtain ⟨y3, h4, h⟩ := Ad h
 obtain ⟨y5, h6, h⟩ := Ad h
 replace h := sI h
 subst h
 exact wf [0, 1, 3] 23 [] [⟨.call 116 [.agg (d36 x1)] [] (.agg (d36 y3)) [.non, .non, .non, .non] [], ⟨Mw, (CallOk.frzAll n4_ (show CO 116 [.agg (d36 x1)] [] (.agg [.os 0, .os 1, .os 2, .os 3]) (zp y3 []) from (Mp x1 _ h4)) (by kernel_rfl))⟩⟩, pa q36 4 h6] [] 9 [0, 1, 2, 3, 4, 5, 6, 7, 8, 14] hC []
theorem A64 : EN 81 := en Tryz.func81
theorem Ju (x0 : Ab) (x1 : Int) (x2 : Int) (r : Bool) (h : Hf x0 x1 x2 = some r) : CO 103 [.agg (d36 x0), .d (I x1), .d (I x2)] [] (.d (Bo r)) [] := by
 unfold Hf at h
 refine co 13 Tryz.func103 λ C hC => ?_
 obtain ⟨y1, h2, h⟩ := Ad h
 replace h := sI h
 subst h
 exact wr [0, 1, 2, 3, 6] 25 [] [pc A_g (A8y x0.Ao (⟨x1, x2⟩ : Am) _ h2) []] [] 0 [] hC []
theorem Jy : EN 103 := en Tryz.func103
theorem A11 (x0 : Aa) (x1 : Af) (x2 : Af) (r : Bool) (h : Akf x0 x1 x2 = r) : CO 243 [.agg (d29 x0), .agg (T7 x1), .agg (T7 x2)] [] (.d (Bo r)) [] := by
 unfold Akf at h
 refine co 52 Tryz.func243 λ C hC => ?_
 rcases cB h with ⟨h1, h⟩ | ⟨h1, h⟩
 ·subst h
  exact wr [0, 1, 2, 3, 4, 5, 6, 7, 8, 22] 29 [true] [] [] 0 [] hC [pq h1]
 ·subst h
  exact wr [0, 1, 2, 3, 4, 5, 6, 7, 8, 22] 34 [false] [pc A9n (A75 x1.Phase x2.Phase _ rfl) []] [] 0 [] hC [pq h1]
theorem A3v : EN 243 := en Tryz.func243
theorem A76 (x0 : Aa) (x1 : Int) (r : Int) (h : Akg x0 x1 = some r) : CO 239 [.agg (d29 x0), .d (I x1)] [] (.d (I r)) [] := by
 unfold Akg at h
 refine co 9 Tryz.func239 λ C hC => ?_
 obtain ⟨y1, h2, h⟩ := Ad h
 replace h := sI h
 subst h
 exact wr n5_ 25 [] [pc A36 (A2c x0.Ag x1 _ h2) [1]] [] 0 [] hC []
theorem A9o : EN 239 := en Tryz.func239
def Gt : List Nat := [0, 1, 2, 4, 6, 7, 8, 32, 36, 47, 64, 74]
def S8 (x2 : Bool) (z0 : (List Am)) : St := [(0, dO 0 0), (2, dB x2), (4, dO 5 0), (6, dI 0)]
def Ui (x0 : A3) (x1 : Am) (z0 : (List Am)) : List Res := [.box 186 (zb x0.Al [.os 6, .os 7, .os 8, .os 9, I x0.time]), .non, .non, .non, .non, .box 86 (d86 x1), v2_ x0.Au.Ah, v4_ x0.Au.Ac, v0_ x0.Au.Ar, v3_ z0]
theorem A2s (x0 : A3) (x1 : Am) (x2 : Bool) (r : Int × A3) (h : He x0 x1 x2 = some r) : CO 189 [.d (.o 0 0), .agg (d86 x1), .d (Bo x2)] (.box 186 (zb x0.Al [.os 1, .os 2, .os 3, .os 4, I x0.time]) :: zp x0.Au []) (.d (I r.1)) (.box 186 (zb r.2.Al [.os 5, .os 6, .os 7, .os 8, I r.2.time]) :: .non :: .non :: .non :: .non :: zp r.2.Au []) := by
 unfold He at h
 refine co 84 Tryz.func189 λ C hC => ?_
 obtain ⟨y1, h2, h⟩ := Ad h
 rcases cB h with ⟨h3, h⟩ | ⟨h3, h⟩
 ·replace h := sI h
  subst h
  exact wr Gt 32 [true] [pb Aue (Atk x0.Au.Ao x1 _ h2)] [.mv 1, .mv 2, .mv 3, .mv 4] 5 [0, 1, 2, 3, 4, 6, 7, 8, 9] hC [pq h3]
 ·refine wn Gt 32 [false] [pb Aue (Atk x0.Au.Ao x1 _ h2), pL_ [(x2, true)] q86 x0.Au.Ao] [.mv 1, .mv 2, .mv 3, .mv 4] 5 Fo [0, 2, 4, 6, 7, 36] hC [pq h3] ?_
  rcases cB h with ⟨h4, h⟩ | ⟨h4, h⟩
  ·replace h := sI h
   subst h
   exact wr Gt 24 [true] [] [] 5 [0, 1, 2, 3, 4, 6, 7, 8, 9] hC [pq h4]
  ·refine wn Gt 24 [false] [] [] 5 Fo [0, 2, 4, 6, 7, 47] hC [pq h4] ?_
   obtain ⟨w0, h, hret0, hnext0⟩ := As h
   refine wc w0 (S8 x2) (Ui x0 x1) ?_ λ z0 hs0 => ?_
   ·unfold Oc at h
    rcases cB h with ⟨h5, h⟩ | ⟨h5, h⟩
    ·obtain ⟨y6, h7, h⟩ := Ad h
     exact wx w0 (S8 x2) (Ui x0 x1) Gt 23 [true] [pc A32 (A18 x0.Au.Ao y1.1 [x1] _ h7) [9]] [] 5 [0, 1, 2, 3, 4, 5, 6, 7, 8, 10] y6 hC [pq h5] (sI h).symm
    ·obtain ⟨y8, h9, h⟩ := Ad h
     exact wx w0 (S8 x2) (Ui x0 x1) Gt 23 [false] [pc A31 (A17 x0.Au.Ao y1.1 (w64 (y1.1 + 1)) _ h9) [9]] [] 5 [0, 1, 2, 3, 4, 5, 6, 7, 8, 10] y8 hC [pq h5] (sI h).symm
   ·clear h; have h := hnext0 _ hs0
    rcases cB h with ⟨h10, h⟩ | ⟨h10, h⟩
    ·obtain ⟨y11, h12, h⟩ := Ad h
     obtain ⟨y13, h14, h⟩ := Ad h
     refine wn Gt 30 [true] [pr A6 h12, pu A6 h12 h14] [] 5 Fo [0, 4, 6, 74] hC [pq h10] ?_
     rcases cB h with ⟨h15, h⟩ | ⟨h15, h⟩
     ·obtain ⟨y16, h17, h⟩ := Ad h
      obtain ⟨y18, h19, h⟩ := Ad h
      replace h := sI h
      subst h
      exact wr Gt 25 [true] [pr A6 h17, pu A6 h17 h19] [] 5 [0, 1, 2, 3, 4, 6, 7, 8, 9] hC [pq h15]
     ·replace h := sI h
      subst h
      exact wr Gt 25 [false] [] [] 5 [0, 1, 2, 3, 4, 6, 7, 8, 9] hC [pq h15]
    ·replace h := sI h
     subst h
     exact wr Gt 29 [false] [] [] 5 [0, 1, 2, 3, 4, 6, 7, 8, 9] hC [pq h10]
theorem A4m : EN 189 := en Tryz.func189
theorem Aez (x0 : A4) (x1 : Ab) (r : A4) (h : N2 x0 x1 = some r) : CO 81 [.d (.o 0 0), .agg [.os 9, .os 10, .os 11, .os 12]] (.box 100 (I x0.Av.Time :: .os 1 :: .os 2 :: .os 3 :: .os 4 :: .os 5 :: .os 6 :: zb x0.Al [.os 7, .os 8]) :: zp x0.Av.Power (v5_ x0.Av.A5 :: v1_ x0.Av.A7 :: v1_ x0.events :: v7_ x0.states :: zp x1 [])) (.tup []) (.box 100 (I r.Av.Time :: .os 1 :: .os 2 :: .os 3 :: .os 4 :: .os 5 :: .os 6 :: zb r.Al [.os 7, .os 13]) :: zp r.Av.Power (v5_ r.Av.A5 :: v1_ r.Av.A7 :: v1_ r.events :: .non :: zp x1 [v7_ r.states])) := by
 unfold N2 at h
 refine co 15 Tryz.func81 λ C hC => ?_
 obtain ⟨y3, h4, h⟩ := Ad h
 obtain ⟨y5, h6, h⟩ := Ad h
 replace h := sI h
 subst h
 exact wf [0, 1, 3] 23 [] [⟨.call 116 [.agg [.os 0, .os 1, .os 2, .os 3]] (zp x1 []) (.agg (d36 y3)) (zp x1 [.non, .non, .non, .non]) [9, 10, 11, 12], ⟨Mw, (CallOk.frzAll [4, 5, 6, 7] (show CO 116 [.agg [.os 0, .os 1, .os 2, .os 3]] (zp x1 []) (.agg [.os 4, .os 5, .os 6, .os 7]) (zp x1 (zp y3 [])) from ((Mp x1 _ h4).lend (by kernel_rfl) (by kernel_rfl) (by kernel_rfl) ⟨Be (λ _ => rfl), Be (λ _ => rfl), Be (λ _ => rfl), Be (λ _ => rfl), trivial⟩ (by kernel_rfl) (by kernel_rfl))) (by kernel_rfl))⟩⟩, pa q36 4 h6] [] 13 [0, 1, 2, 3, 4, 5, 6, 7, 8, 9, 10, 11, 12, 18] hC []
theorem Ae0 : EN 81 := en Tryz.func81
theorem A14 (x0 : Int) (x1 : Int) (x2 : Aa) (r : Int) (h : M5 x0 x1 x2 = some r) : CO 233 [.d (I x0), .d (I x1), .d (.ip [.v (.int .i64 x2.An), .s (x2.Ag.map Bi), .s (x2.Ac.map Bt), .s (x2.Ae.map q65), .v (.int .i64 x2.Phase), .v (.int .i64 x2.Aq)])] [] (.d (I r)) [] := by
 unfold M5 at h
 refine co 19 Tryz.func233 λ C hC => ?_
 obtain ⟨y1, h2, h⟩ := Ad h
 obtain ⟨y3, h4, h⟩ := Ad h
 replace h := sI h
 subst h
 exact wr [0, 1, 2, 5] 25 [] [pr q65 h2, pr q65 h4, pc Axx (Axf y1.Bn y3.Bn _ rfl) []] [] 0 [] hC []
theorem A3y : EN 233 := en Tryz.func233
theorem Atl (x0 : Int) (x1 : Ai) (r : Bool) (h : Px x0 x1 = some r) : CO 209 [.d (I x0), .d (.ip [.s (x1.An.map pI), .s (x1.Ac.map pI), .s (x1.Ae.map pI)])] [] (.d (Bo r)) [] := by
 unfold Px at h
 refine co 9 Tryz.func209 λ C hC => ?_
 obtain ⟨y1, h2, h⟩ := Ad h
 replace h := sI h
 subst h
 exact wr [0, 1, 3] 25 [] [pc Yv (Yo x1.Ae x0 _ h2) []] [] 0 [] hC []
theorem Auf : EN 209 := en Tryz.func209
def Nv : List Nat := [0, 1, 4, 5, 6, 7, 8, 10, 26, 37]
def Ams (x0 : List Az) (x1 : Int) (z0 : Unit) : St := [(0, .d (DS B2 x0)), (1, dI x1), (4, .d (DS B2 []))]
def Aoh  (z0 : Unit) : List Res := []
def Amr (x0 : List Az) (x1 : Int) (z1 : Unit) : St := [(0, .d (DS B2 x0)), (4, .d (DS B2 [])), (6, .d (.p (.v (.int .u64 ((Jj (IntKind.wrap .u64 (ln x0)) (IntKind.wrap .u64 x1)).2)))))]
def Aog  (z1 : Unit) : List Res := []
def zK  (z2 : Int × (List Az)) : St := [(4, .d (DS B2 [])), (7, dS 0), (8, dI z2.1)]
def Ajz  (z2 : Int × (List Az)) : List Res := [v5_ z2.2]
def Amq  (z2 : Int × (List Az)) : St := [(4, .d (DS B2 [])), (7, dS 0)]
def Aof  (z2 : Int × (List Az)) : List Res := [v5_ z2.2]
theorem A82 (x0 : List Az) (x1 : Int) (r : (List Az)) (h : Ayv x0 x1 = some r) : CO 139 [.d (DS B2 x0), .d (I x1)] [] (.d (.os 0)) [v5_ r] := by
 unfold Ayv at h
 refine co 48 Tryz.func139 λ C hC => ?_
 refine wn Nv 26 [] [] [] 0 [] [0, 1, 4, 10] hC [] ?_
 obtain ⟨w0, h, hret0, hnext0⟩ := As h
 refine wc w0 (Ams x0 x1) (Aoh) ?_ λ z0 hs0 => ?_
 ·unfold Aox at h
  rcases cB h with ⟨h1, h⟩ | ⟨h1, h⟩
  ·cases h
  ·exact wx w0 (Ams x0 x1) (Aoh) Nv 23 [false] [] [] 0 [] () hC [pq h1] (sI h).symm
 ·clear h; have h := hnext0 _ hs0
  refine wn Nv 26 [] [pl B2 x0, pc A47 (A3d (IntKind.wrap .u64 (ln x0)) (IntKind.wrap .u64 x1) _ rfl) []] [] 0 [] [0, 4, 6, 26] hC [] ?_
  obtain ⟨w1, h, hret1, hnext1⟩ := As h
  refine wc w1 (Amr x0 x1) (Aog) ?_ λ z1 hs1 => ?_
  ·unfold Aow at h
   rcases cB h with ⟨h2, h⟩ | ⟨h2, h⟩
   ·cases h
   ·exact wx w1 (Amr x0 x1) (Aog) Nv 23 [false] [] [] 0 [] () hC [pq h2] (sI h).symm
  ·clear h; have h := hnext1 _ hs1
   obtain ⟨y3, h4, h⟩ := Ad h
   refine ws Nv 26 [] [⟨.room ((w64 ((Jj (IntKind.wrap .u64 (ln x0)) (IntKind.wrap .u64 x1)).2)) * (16 + 1)) (List.replicate (Int.toNat (w64 ((Jj (IntKind.wrap .u64 (ln x0)) (IntKind.wrap .u64 x1)).2))) (B2 (⟨0, 0⟩ : Az))) (y3.map B2), G7 h4⟩, ⟨.cpy (x0.map B2) 2 ((y3.map B2).length) (Nat.min x0.length y3.length) ((y3.map B2).take 0 ++ ((x0.map B2).take (Nat.min x0.length y3.length) ++ (y3.map B2).drop (0 + (Nat.min x0.length y3.length)))) ((Gy y3 0 y3.length x0).map B2), Wq B2 2 (λ _ => rfl) rfl (by simp)⟩] [] 0 [0] (zK (((Nat.min x0.length y3.length) : Int), (Gy y3 0 y3.length x0))) (Ajz (((Nat.min x0.length y3.length) : Int), (Gy y3 0 y3.length x0))) hC [] ?_
   obtain ⟨w2, hm2, hret2, hnext2⟩ := As h
   clear h
   refine wc w2 (Amq) (Aof) ?_ λ z2 hs2 => ?_
   ·refine wb ?_
    refine By (by kernel_rfl) Abj (zK) (Ajz) w2 1152921504606846976 (((Nat.min x0.length y3.length) : Int), (Gy y3 0 y3.length x0)) hm2 rfl rfl λ z2 w2b h hb2 hr2 => ?_
    unfold Abj at h
    rcases cB h with ⟨h5, h⟩ | ⟨h5, h⟩
    ·obtain ⟨u7, h6, h⟩ := Ad h
     obtain ⟨u9, h8, h⟩ := Ad h
     exact wx w2b (zK) (Ajz) Nv 29 [true] [pl B2 z2.2, ⟨.bnd (z2.2.map B2).length z2.1 (((z2.2.map B2).length : Nat) : Int) (ln z2.2), Eb (by simp) (by simp) h6⟩, ⟨.bnd (z2.2.map B2).length 0 z2.1 z2.1, Eb (by simp) rfl h8⟩, ⟨.cpy (((z2.2.map B2).drop 0).take ((Int.toNat z2.1) - 0)) 2 ((Int.toNat (ln z2.2)) - (Int.toNat z2.1)) (Nat.min ((z2.2.drop 0).take ((Int.toNat z2.1) - 0)).length ((Int.toNat (ln z2.2)) - (Int.toNat z2.1))) ((z2.2.map B2).take (Int.toNat z2.1) ++ ((((z2.2.map B2).drop 0).take ((Int.toNat z2.1) - 0)).take (Nat.min ((z2.2.drop 0).take ((Int.toNat z2.1) - 0)).length ((Int.toNat (ln z2.2)) - (Int.toNat z2.1))) ++ (z2.2.map B2).drop ((Int.toNat z2.1) + (Nat.min ((z2.2.drop 0).take ((Int.toNat z2.1) - 0)).length ((Int.toNat (ln z2.2)) - (Int.toNat z2.1)))))) ((Gy z2.2 (Int.toNat z2.1) ((Int.toNat (ln z2.2)) - (Int.toNat z2.1)) ((z2.2.drop 0).take ((Int.toNat z2.1) - 0))).map B2), Wq B2 2 (λ _ => rfl) (Yf _ _ _ _) rfl⟩] [] 0 [0] (w64 (z2.1 + ((Nat.min ((z2.2.drop 0).take ((Int.toNat z2.1) - 0)).length ((Int.toNat (ln z2.2)) - (Int.toNat z2.1))) : Int)), (Gy z2.2 (Int.toNat z2.1) ((Int.toNat (ln z2.2)) - (Int.toNat z2.1)) ((z2.2.drop 0).take ((Int.toNat z2.1) - 0)))) hC [pq h5] (sI h).symm
    ·exact wx w2 (Amq) (Aof) Nv 26 [false] [pl B2 z2.2] [] 0 [0] (z2.1, z2.2) hC [pq h5] (hb2 _ (sI h).symm)
   ·have h := hnext2 _ hs2
    replace h := sI h
    subst h
    exact wr Nv 23 [] [] [] 0 [0] hC []
theorem A_k : EN 139 := en Tryz.func139
theorem Apr (x0 : Aa) (x1 : Int) (r : Int) (h : Vg x0 x1 = some r) : CO 180 [.agg (d29 x0), .d (I x1)] [] (.d (I r)) [] := by
 unfold Vg at h
 refine co 9 Tryz.func180 λ C hC => ?_
 obtain ⟨y1, h2, h⟩ := Ad h
 replace h := sI h
 subst h
 exact wr n5_ 25 [] [pc A35 (A2b x0.Ag x1 _ h2) [1]] [] 0 [] hC []
theorem Ap6 : EN 180 := en Tryz.func180
theorem A6i (x0 : A4) (x1 : Ab) (r : A4) (h : vE x0 x1 = some r) : CO 81 [.d (.o 0 0), .agg [.os 1, .os 2, .os 3, .os 4]] (.box 100 (I x0.Av.Time :: .os 1 :: .os 2 :: .os 3 :: .os 4 :: .os 5 :: .os 6 :: zb x0.Al [.os 7, .os 8]) :: zp x0.Av.Power [v5_ x0.Av.A5, v1_ x0.Av.A7, v1_ x0.events, v7_ x0.states]) (.tup []) (.box 100 (I r.Av.Time :: .os 1 :: .os 2 :: .os 3 :: .os 4 :: .os 5 :: .os 6 :: zb r.Al [.os 7, .os 9]) :: zp r.Av.Power [v5_ r.Av.A5, v1_ r.Av.A7, v1_ r.events, .non, v7_ r.states]) := by
 unfold vE at h
 refine co 15 Tryz.func81 λ C hC => ?_
 obtain ⟨y3, h4, h⟩ := Ad h
 obtain ⟨y5, h6, h⟩ := Ad h
 replace h := sI h
 subst h
 exact wf [0, 1, 3] 23 [] [⟨.call 116 [.agg [.os 0, .os 1, .os 2, .os 3]] (zp x0.Av.Power []) (.agg (d36 y3)) (zp x0.Av.Power [.non, .non, .non, .non]) [1, 2, 3, 4], ⟨Mw, (CallOk.frzAll [4, 5, 6, 7] (show CO 116 [.agg [.os 0, .os 1, .os 2, .os 3]] (zp x0.Av.Power []) (.agg [.os 4, .os 5, .os 6, .os 7]) (zp x0.Av.Power (zp y3 [])) from ((Mp x0.Av.Power _ h4).lend (by kernel_rfl) (by kernel_rfl) (by kernel_rfl) ⟨Be (λ _ => rfl), Be (λ _ => rfl), Be (λ _ => rfl), Be (λ _ => rfl), trivial⟩ (by kernel_rfl) (by kernel_rfl))) (by kernel_rfl))⟩⟩, pa q36 4 h6] [] 9 [0, 1, 2, 3, 4, 5, 6, 7, 8, 14] hC []
theorem A63 : EN 81 := en Tryz.func81
def Tj : List Nat := [0, 1, 4, 5, 6, 7, 8, 10, 26, 37]
def Asf (x0 : List Af) (x1 : Int) (z0 : Unit) : St := [(0, .d (DS A6 x0)), (1, dI x1), (4, .d (DS A6 []))]
def Avj  (z0 : Unit) : List Res := []
def Ase (x0 : List Af) (x1 : Int) (z1 : Unit) : St := [(0, .d (DS A6 x0)), (4, .d (DS A6 [])), (6, .d (.p (.v (.int .u64 ((Jj (IntKind.wrap .u64 (ln x0)) (IntKind.wrap .u64 x1)).2)))))]
def Avi  (z1 : Unit) : List Res := []
def Afn  (z2 : Int × (List Af)) : St := [(4, .d (DS A6 [])), (7, dS 0), (8, dI z2.1)]
def Aqp  (z2 : Int × (List Af)) : List Res := [v4_ z2.2]
def Asd  (z2 : Int × (List Af)) : St := [(4, .d (DS A6 [])), (7, dS 0)]
def Avh  (z2 : Int × (List Af)) : List Res := [v4_ z2.2]
theorem k87 (x0 : List Af) (x1 : Int) (r : (List Af)) (h : F87 x0 x1 = some r) : CO 87 [.d (DS A6 x0), .d (I x1)] [] (.d (.os 0)) [v4_ r] := by
 unfold F87 at h
 refine co 48 Tryz.func87 λ C hC => ?_
 refine wn Tj 26 [] [] [] 0 [] [0, 1, 4, 10] hC [] ?_
 obtain ⟨w0, h, hret0, hnext0⟩ := As h
 refine wc w0 (Asf x0 x1) (Avj) ?_ λ z0 hs0 => ?_
 ·unfold Awe at h
  rcases cB h with ⟨h1, h⟩ | ⟨h1, h⟩
  ·cases h
  ·exact wx w0 (Asf x0 x1) (Avj) Tj 23 [false] [] [] 0 [] () hC [pq h1] (sI h).symm
 ·clear h; have h := hnext0 _ hs0
  refine wn Tj 26 [] [pl A6 x0, pc A47 (A3d (IntKind.wrap .u64 (ln x0)) (IntKind.wrap .u64 x1) _ rfl) []] [] 0 [] [0, 4, 6, 26] hC [] ?_
  obtain ⟨w1, h, hret1, hnext1⟩ := As h
  refine wc w1 (Ase x0 x1) (Avi) ?_ λ z1 hs1 => ?_
  ·unfold Awd at h
   rcases cB h with ⟨h2, h⟩ | ⟨h2, h⟩
   ·cases h
   ·exact wx w1 (Ase x0 x1) (Avi) Tj 23 [false] [] [] 0 [] () hC [pq h2] (sI h).symm
  ·clear h; have h := hnext1 _ hs1
   obtain ⟨y3, h4, h⟩ := Ad h
   refine ws Tj 26 [] [⟨.room ((w64 ((Jj (IntKind.wrap .u64 (ln x0)) (IntKind.wrap .u64 x1)).2)) * (32 + 1)) (List.replicate (Int.toNat (w64 ((Jj (IntKind.wrap .u64 (ln x0)) (IntKind.wrap .u64 x1)).2))) (A6 (⟨0, 0, 0, 0⟩ : Af))) (y3.map A6), G7 h4⟩, ⟨.cpy (x0.map A6) 4 ((y3.map A6).length) (Nat.min x0.length y3.length) ((y3.map A6).take 0 ++ ((x0.map A6).take (Nat.min x0.length y3.length) ++ (y3.map A6).drop (0 + (Nat.min x0.length y3.length)))) ((Gy y3 0 y3.length x0).map A6), Wq A6 4 (λ _ => rfl) rfl (by simp)⟩] [] 0 [0] (Afn (((Nat.min x0.length y3.length) : Int), (Gy y3 0 y3.length x0))) (Aqp (((Nat.min x0.length y3.length) : Int), (Gy y3 0 y3.length x0))) hC [] ?_
   obtain ⟨w2, hm2, hret2, hnext2⟩ := As h
   clear h
   refine wc w2 (Asd) (Avh) ?_ λ z2 hs2 => ?_
   ·refine wb ?_
    refine By (by kernel_rfl) Aj9 (Afn) (Aqp) w2 1152921504606846976 (((Nat.min x0.length y3.length) : Int), (Gy y3 0 y3.length x0)) hm2 rfl rfl λ z2 w2b h hb2 hr2 => ?_
    unfold Aj9 at h
    rcases cB h with ⟨h5, h⟩ | ⟨h5, h⟩
    ·obtain ⟨u7, h6, h⟩ := Ad h
     obtain ⟨u9, h8, h⟩ := Ad h
     exact wx w2b (Afn) (Aqp) Tj 29 [true] [pl A6 z2.2, ⟨.bnd (z2.2.map A6).length z2.1 (((z2.2.map A6).length : Nat) : Int) (ln z2.2), Eb (by simp) (by simp) h6⟩, ⟨.bnd (z2.2.map A6).length 0 z2.1 z2.1, Eb (by simp) rfl h8⟩, ⟨.cpy (((z2.2.map A6).drop 0).take ((Int.toNat z2.1) - 0)) 4 ((Int.toNat (ln z2.2)) - (Int.toNat z2.1)) (Nat.min ((z2.2.drop 0).take ((Int.toNat z2.1) - 0)).length ((Int.toNat (ln z2.2)) - (Int.toNat z2.1))) ((z2.2.map A6).take (Int.toNat z2.1) ++ ((((z2.2.map A6).drop 0).take ((Int.toNat z2.1) - 0)).take (Nat.min ((z2.2.drop 0).take ((Int.toNat z2.1) - 0)).length ((Int.toNat (ln z2.2)) - (Int.toNat z2.1))) ++ (z2.2.map A6).drop ((Int.toNat z2.1) + (Nat.min ((z2.2.drop 0).take ((Int.toNat z2.1) - 0)).length ((Int.toNat (ln z2.2)) - (Int.toNat z2.1)))))) ((Gy z2.2 (Int.toNat z2.1) ((Int.toNat (ln z2.2)) - (Int.toNat z2.1)) ((z2.2.drop 0).take ((Int.toNat z2.1) - 0))).map A6), Wq A6 4 (λ _ => rfl) (Yf _ _ _ _) rfl⟩] [] 0 [0] (w64 (z2.1 + ((Nat.min ((z2.2.drop 0).take ((Int.toNat z2.1) - 0)).length ((Int.toNat (ln z2.2)) - (Int.toNat z2.1))) : Int)), (Gy z2.2 (Int.toNat z2.1) ((Int.toNat (ln z2.2)) - (Int.toNat z2.1)) ((z2.2.drop 0).take ((Int.toNat z2.1) - 0)))) hC [pq h5] (sI h).symm
    ·exact wx w2 (Asd) (Avh) Tj 26 [false] [pl A6 z2.2] [] 0 [0] (z2.1, z2.2) hC [pq h5] (hb2 _ (sI h).symm)
   ·have h := hnext2 _ hs2
    replace h := sI h
    subst h
    exact wr Tj 23 [] [] [] 0 [0] hC []
theorem e87 : EN 87 := en Tryz.func87
theorem A81 (x0 : C6) (r : Bool) (h : Ayt x0 = r) : CO 151 [.agg (Aqb x0)] [] (.d (Bo r)) [] := by
 unfold Ayt at h
 refine co 19 Tryz.func151 λ C hC => ?_
 subst h
 exact wr n4_ 27 [] [pc A4h (A2n x0.From _ rfl) [], ⟨.when [(Va x0.From, true)] (.call 197 [dI x0.To] [] (dB (Va x0.To)) [] []), λ hg => ⟨A4h, (A2n x0.To _ rfl)⟩⟩, ⟨.when [(((Va x0.From) && (Va x0.To)), true)] (.call 198 [.agg (Aqb x0)] [] (dI (Arh x0)) [] []), λ hg => ⟨A90, (A8i x0 _ rfl)⟩⟩] [] 0 [] hC []
theorem A_j : EN 151 := en Tryz.func151
def L4 : List Nat := [0, 1, 4, 5, 7, 8, 9, 16]
def Sr (x0 : List Int) (n0 : Nat) (z0 : Unit) : St := [(0, .d (DS pI x0)), (1, .d (.fn (.func 105) [] [.o 0 0, .o 1 0])), (4, dI 0), (7, dI (ln x0)), (8, dI (cnt 0 n0))]
def Zi (x1c0 : Aa) (x1c1 : Ab) (n0 : Nat) (z0 : Unit) : List Res := [.box 29 (d29 x1c0), .box 36 (d36 x1c1)]
def Acn  (z0 : Unit) : St := [(4, dI 0)]
def Ad6 (x1c0 : Aa) (x1c1 : Ab) (z0 : Unit) : List Res := [.box 29 (d29 x1c0), .box 36 (d36 x1c1)]
theorem A24 (rec46 : Aa -> Ab -> Int -> Option Bool) (ih46 : ∀ (x0 : Aa) (x1 : Ab) (x2 : Int) (r : Bool), rec46 x0 x1 x2 = some r -> CO 46 [.agg (d29 x0), .agg (d36 x1), .d (I x2)] [] (.d (Bo r)) []) (x0 : List Int) (x1c0 : Aa) (x1c1 : Ab) (r : Int × Aa × Ab) (h : Akx rec46 x0 x1c0 x1c1 = some r) : CO 158 [.d (DS pI x0), .d (.fn (.func 105) [] [.o 0 0, .o 1 0])] [.box 29 (d29 x1c0), .box 36 (d36 x1c1)] (.d (I r.1)) [.box 29 (d29 r.2.1), .box 36 (d36 r.2.2)] := by
 unfold Akx at h
 refine co 19 Tryz.func158 λ C hC => ?_
 refine ws L4 26 [] [pl pI x0] [] 2 [0, 1] (Sr x0 0 ()) (Zi x1c0 x1c1 0 ()) hC [] ?_
 obtain ⟨w0, hm0, hret0, hnext0⟩ := As h
 clear h
 refine wc w0 (Acn) (Ad6 x1c0 x1c1) ?_ λ z0 hs0 => ?_
 ·refine wb ?_
  refine Bm 0 rfl λ hl0 => ?_
  refine A8 (by kernel_rfl) (Vj x1c0 x1c1 rec46) (Sr x0) (Zi x1c0 x1c1) w0 x0 () hm0 rfl rfl (λ z0 hn0 => ?_) λ n0 a0 z0 w0b hi0 hx0 h hb0 hr0 => ?_
  ·clear hm0
   exact wx w0 (Acn) (Ad6 x1c0 x1c1) L4 26 [false] [] [] 2 [0, 1] () hC [pq (Ba hl0)] hn0
  ·unfold Vj at h
   obtain ⟨y1, h2, h⟩ := Ad h
   refine wn L4 32 [true] [pt hx0 hl0, pb A5d (A3j rec46 ih46 a0 x1c0 x1c1 _ h2)] [] 2 [0, 1] [0, 1, 4, 5, 7, 8, 16] hC [pq (A9 hi0 hl0)] ?_
   rcases cB h with ⟨h3, h⟩ | ⟨h3, h⟩
   ·have hq := hret0 _ (hr0 _ (sI h).symm)
    replace hq := sI hq
    subst hq
    exact wr L4 24 [true] [] [] 2 [0, 1] hC [pq h3]
   ·exact wx w0b (Sr x0 (n0 + 1)) (Zi x1c0 x1c1 (n0 + 1)) L4 25 [false] [] [] 2 [0, 1] () hC [pq h3] (sI h).symm
 ·have h := hnext0 _ hs0
  replace h := sI h
  subst h
  exact wr L4 23 [] [] [] 2 [0, 1] hC []
theorem A4y : EN 158 := en Tryz.func158
theorem A2m (x0 : Int) (x1 : Int) (r : Int × Int) (h : Akl x0 x1 = some r) : CO 201 [.d (I x0), .d (I x1), .d (.fn (.func 202) [] [])] [] (.tup [.d (I r.1), .d (I r.2)]) [] := by
 unfold Akl at h
 refine co 26 Tryz.func201 λ C hC => ?_
 rcases cB h with ⟨h1, h⟩ | ⟨h1, h⟩
 ·cases h
 ·obtain ⟨y2, h3, h⟩ := Ad h
  replace h := sI h
  subst h
  exact wr [0, 1, 2, 6, 7, 21] 30 [false] [pc A9y (A8g x0 x1 _ h3) []] [] 0 [] hC [pq h1]
theorem A4g : EN 201 := en Tryz.func201
theorem A6g (x0 : List Ai) (r : Bool) (h : Arb x0 = some r) : CO 88 [.d (DS q84 x0), .d (.fn (.func 90) [] [])] [] (.d (Bo r)) [] := by
 unfold Arb at h
 refine co 9 Tryz.func88 λ C hC => ?_
 obtain ⟨y1, h2, h⟩ := Ad h
 replace h := sI h
 subst h
 exact wr [0, 1, 4] 25 [] [pc A46 (A3c x0 _ h2) []] [] 0 [] hC []
theorem A61 : EN 88 := en Tryz.func88
end Go.Proofs.YthgnbpdjncbkfaaGreat
