import Derived.Test.YthgnbpdjncbkfaaGreatRows
import Derived.Test.YthgnbpdjncbkfaaGreatMo
import Derived.Test.YthgnbpdjncbkfaaGreatBw
import Derived.Test.YthgnbpdjncbkfaaGreatIn
set_option linter.unusedVariables false
namespace Go.Proofs.YthgnbpdjncbkfaaGreat
open Go.SL
abbrev v0_ (l : List Int) : Res := .sl 3 1 (l.map pI)
abbrev v1_ (l : List A9) : Res := .sl 51 5 (l.map q51)
abbrev v2_ (l : List Bool) : Res := .sl 4 1 (l.map pB)
abbrev v3_ (l : List An) : Res := .sl 86 2 (l.map q86)
abbrev v4_ (l : List Ag) : Res := .sl 120 4 (l.map A_)
abbrev v5_ (l : List Az) : Res := .sl 130 2 (l.map B1)
abbrev v6_ (l : List Ao) : Res := .sl 49 3 (l.map q49)
abbrev v7_ (l : List Ab) : Res := .sl 36 4 (l.map q36)
abbrev v8_ (l : List Aj) : Res := .sl 84 3 (l.map q84)
abbrev v9_ (l : List Ak) : Res := .sl 147 3 (l.map Bi)
abbrev Et (l : List Bg) : Res := .sl 139 3 (l.map Bt)
abbrev Es (l : List A1) : Res := .sl 65 5 (l.map q65)
abbrev CO := CallOk Tryz.prog
abbrev EN := Fl Tryz.prog
abbrev C1 {α0 α1 α2 α3 : Type} (z : α0 × α1 × α2 × α3) : α3 := z.2.2.2
abbrev g3_ {α0 α1 α2 α3 α4 : Type} (z : α0 × α1 × α2 × α3 × α4) : α3 := z.2.2.2.1
abbrev E6 {α0 α1 α2 α3 α4 : Type} (z : α0 × α1 × α2 × α3 × α4) : α4 := z.2.2.2.2
abbrev g4_ {α0 α1 α2 α3 α4 α5 : Type} (z : α0 × α1 × α2 × α3 × α4 × α5) : α4 := z.2.2.2.2.1
abbrev g5_ {α0 α1 α2 α3 α4 α5 α6 : Type} (z : α0 × α1 × α2 × α3 × α4 × α5 × α6) : α5 := z.2.2.2.2.2.1
abbrev G5 {α0 α1 α2 α3 α4 α5 α6 : Type} (z : α0 × α1 × α2 × α3 × α4 × α5 × α6) : α6 := z.2.2.2.2.2.2
abbrev g6_ {α0 α1 α2 α3 α4 α5 α6 α7 : Type} (z : α0 × α1 × α2 × α3 × α4 × α5 × α6 × α7) : α6 := z.2.2.2.2.2.2.1
abbrev g7_ {α0 α1 α2 α3 α4 α5 α6 α7 α8 : Type} (z : α0 × α1 × α2 × α3 × α4 × α5 × α6 × α7 × α8) : α7 := z.2.2.2.2.2.2.2.1
abbrev Ahf {α0 α1 α2 α3 α4 α5 α6 α7 α8 : Type} (z : α0 × α1 × α2 × α3 × α4 × α5 × α6 × α7 × α8) : α8 := z.2.2.2.2.2.2.2.2
abbrev g8_ {α0 α1 α2 α3 α4 α5 α6 α7 α8 α9 : Type} (z : α0 × α1 × α2 × α3 × α4 × α5 × α6 × α7 × α8 × α9) : α8 := z.2.2.2.2.2.2.2.2.1
abbrev g9_ {α0 α1 α2 α3 α4 α5 α6 α7 α8 α9 α10 : Type} (z : α0 × α1 × α2 × α3 × α4 × α5 × α6 × α7 × α8 × α9 × α10) : α9 := z.2.2.2.2.2.2.2.2.2.1
abbrev Df {α0 α1 α2 α3 α4 α5 α6 α7 α8 α9 α10 : Type} (z : α0 × α1 × α2 × α3 × α4 × α5 × α6 × α7 × α8 × α9 × α10) : α10 := z.2.2.2.2.2.2.2.2.2.2
abbrev Ch {α0 α1 α2 α3 α4 α5 α6 α7 α8 α9 α10 α11 : Type} (z : α0 × α1 × α2 × α3 × α4 × α5 × α6 × α7 × α8 × α9 × α10 × α11) : α10 := z.2.2.2.2.2.2.2.2.2.2.1
abbrev Ft {α0 α1 α2 α3 α4 α5 α6 α7 α8 α9 α10 α11 : Type} (z : α0 × α1 × α2 × α3 × α4 × α5 × α6 × α7 × α8 × α9 × α10 × α11) : α11 := z.2.2.2.2.2.2.2.2.2.2.2
abbrev D_ {α0 α1 α2 α3 α4 α5 α6 α7 α8 α9 α10 α11 α12 : Type} (z : α0 × α1 × α2 × α3 × α4 × α5 × α6 × α7 × α8 × α9 × α10 × α11 × α12) : α11 := z.2.2.2.2.2.2.2.2.2.2.2.1
abbrev Ey {α0 α1 α2 α3 α4 α5 α6 α7 α8 α9 α10 α11 α12 α13 : Type} (z : α0 × α1 × α2 × α3 × α4 × α5 × α6 × α7 × α8 × α9 × α10 × α11 × α12 × α13) : α12 := z.2.2.2.2.2.2.2.2.2.2.2.2.1
abbrev Ek {α0 α1 α2 α3 α4 α5 α6 α7 α8 α9 α10 α11 α12 α13 α14 : Type} (z : α0 × α1 × α2 × α3 × α4 × α5 × α6 × α7 × α8 × α9 × α10 × α11 × α12 × α13 × α14) : α13 := z.2.2.2.2.2.2.2.2.2.2.2.2.2.1
abbrev Kc {α0 α1 α2 α3 α4 α5 α6 α7 α8 α9 α10 α11 α12 α13 α14 : Type} (z : α0 × α1 × α2 × α3 × α4 × α5 × α6 × α7 × α8 × α9 × α10 × α11 × α12 × α13 × α14) : α14 := z.2.2.2.2.2.2.2.2.2.2.2.2.2.2
abbrev Jd {α0 α1 α2 α3 α4 α5 α6 α7 α8 α9 α10 α11 α12 α13 α14 α15 : Type} (z : α0 × α1 × α2 × α3 × α4 × α5 × α6 × α7 × α8 × α9 × α10 × α11 × α12 × α13 × α14 × α15) : α14 := z.2.2.2.2.2.2.2.2.2.2.2.2.2.2.1
abbrev Nu {α0 α1 α2 α3 α4 α5 α6 α7 α8 α9 α10 α11 α12 α13 α14 α15 : Type} (z : α0 × α1 × α2 × α3 × α4 × α5 × α6 × α7 × α8 × α9 × α10 × α11 × α12 × α13 × α14 × α15) : α15 := z.2.2.2.2.2.2.2.2.2.2.2.2.2.2.2
abbrev Aaj {α0 α1 α2 α3 α4 α5 α6 α7 α8 α9 α10 α11 α12 α13 α14 α15 α16 : Type} (z : α0 × α1 × α2 × α3 × α4 × α5 × α6 × α7 × α8 × α9 × α10 × α11 × α12 × α13 × α14 × α15 × α16) : α15 := z.2.2.2.2.2.2.2.2.2.2.2.2.2.2.2.1
abbrev Q5 {α0 α1 α2 α3 α4 α5 α6 α7 α8 α9 α10 α11 α12 α13 α14 α15 α16 : Type} (z : α0 × α1 × α2 × α3 × α4 × α5 × α6 × α7 × α8 × α9 × α10 × α11 × α12 × α13 × α14 × α15 × α16) : α16 := z.2.2.2.2.2.2.2.2.2.2.2.2.2.2.2.2
theorem sI {α : Type} {a b : α} (h : some a = some b) : a = b := Option.some.inj h
abbrev zb (b : Aa) (l : List D) : List D := I b.Am :: DS Bi b.Af :: DS Bt b.Ac :: DS q65 b.Ae :: I b.Phase :: I b.Ap :: l
abbrev zp (p : Ab) (l : List Res) : List Res := .sl 4 1 (p.Ah.map pB) :: .sl 120 4 (p.Ac.map A_) :: .sl 3 1 (p.As.map pI) :: .sl 86 2 (p.Aq.map q86) :: l
abbrev ze (l : List Res) : List Res := .sl 4 1 (([] : List Bool).map pB) :: .sl 120 4 (([] : List Ag).map A_) :: .sl 3 1 (([] : List Int).map pI) :: .sl 86 2 (([] : List An).map q86) :: l
abbrev zs (b : Aa) (l : List Res) : List Res := .sl 147 3 (b.Af.map Bi) :: .sl 139 3 (b.Ac.map Bt) :: .sl 65 5 (b.Ae.map q65) :: l
abbrev zt {α : Type} (b : Aa) (r : α) : Int × List Ak × List Bg × List A1 × Int × Int × α := (b.Am, b.Af, b.Ac, b.Ae, b.Phase, b.Ap, r)
abbrev zu {α : Type} (p : Ab) (r : α) : List Bool × List Ag × List Int × List An × α := (p.Ah, p.Ac, p.As, p.Aq, r)
abbrev n3_ : List Nat := [0, 1, 2]
abbrev n4_ : List Nat := [0, 1, 2, 3]
abbrev n5_ : List Nat := [0, 1, 2, 3, 4]
abbrev n6_ : List Nat := [0, 1, 2, 3, 4, 5]
abbrev n7_ : List Nat := [0, 1, 2, 3, 4, 5, 6]
abbrev n8_ : List Nat := [0, 1, 2, 3, 4, 5, 6, 7]
abbrev n9_ : List Nat := [0, 1, 2, 3, 4, 5, 6, 7, 8]
abbrev Hg : List Nat := [0, 1, 2, 3, 4, 5, 6, 7, 8, 9]
abbrev Aph : List Nat := [0, 1, 2, 3, 4, 5, 6, 7, 8, 9, 10]
abbrev Fo : List Nat := [0, 1, 2, 3, 4, 5, 6, 7, 8, 9, 10, 11]
abbrev H9 : List Nat := [0, 1, 2, 3, 4, 5, 6, 7, 8, 9, 10, 11, 12]
abbrev A67 : List Nat := [0, 1, 2, 3, 4, 5, 6, 7, 8, 9, 10, 11, 12, 13]
abbrev Fz : List Nat := [0, 1, 2, 3, 4, 5, 6, 7, 8, 9, 10, 11, 12, 13, 14]
abbrev A66 : List Nat := [0, 1, 2, 3, 4, 5, 6, 7, 8, 9, 10, 11, 12, 13, 14, 15]
abbrev A65 : List Nat := [0, 1, 2, 3, 4, 5, 6, 7, 8, 9, 10, 11, 12, 13, 14, 15, 16, 17, 18]
abbrev Oj : List Nat := [0, 1, 2, 3, 4, 5, 6, 7, 8, 9, 10, 11, 12, 13, 14, 15, 16, 17, 18, 19]
abbrev A64 : List Nat := [0, 1, 2, 3, 4, 5, 6, 7, 8, 9, 10, 11, 12, 13, 14, 15, 16, 17, 18, 19, 20]
abbrev A63 : List Nat := [0, 1, 2, 3, 4, 5, 6, 7, 8, 9, 10, 11, 12, 13, 14, 15, 16, 17, 18, 19, 20, 21]
theorem Ib : Tryz.prog.follows .mixedOrders = true := by kernel_rfl
abbrev PC := {c : Cl // Cl.ok Tryz.prog c}
abbrev PB := {p : Bool × Bool // p.1 = p.2}
theorem okP : ∀ l : List PC, Ds Tryz.prog (l.map (·.1))
 | [] => trivial
 | c :: l => ⟨c.2, okP l⟩
theorem okB : ∀ l : List PB, Dh (l.map (·.1))
 | [] => trivial
 | ⟨(_, _), h⟩ :: l => ⟨h, okB l⟩
def pq {a b : Bool} (h : a = b) : PB := ⟨(a, b), h⟩
def pc {f : FuncId} {args : List AV} {R R2 : List Res} {res : AV} (e : Fl Tryz.prog f) (k : CallOk Tryz.prog f args R res R2) (pi : List Nat) : PC := ⟨.call f args R res R2 pi, e, k⟩
def pb {f : FuncId} {args : List AV} {res : AV} (e : Fl Tryz.prog f) (k : CallOk Tryz.prog f args [] res []) : PC := ⟨.callB f args res [[]] 0 [], Ir ⟨e, k⟩⟩
def pw {g : List (Bool × Bool)} {f : FuncId} {args : List AV} {R R2 : List Res} {res : AV} (e : Fl Tryz.prog f) (k : Dh g -> CallOk Tryz.prog f args R res R2) (pi : List Nat) : PC := ⟨.when g (.call f args R res R2 pi), λ h => ⟨e, k h⟩⟩
def pv {g : List (Bool × Bool)} {f : FuncId} {args : List AV} {res : AV} (e : Fl Tryz.prog f) (k : Dh g -> CallOk Tryz.prog f args [] res []) : PC := ⟨.when g (.callB f args res [[]] 0 []), λ h => Ir ⟨e, k h⟩⟩
section
variable {α : Type}
def pl (q : α -> List Pd) (l : List α) : PC := ⟨.len ((l.map q).length : Int) (l.length : Int), Wg l q⟩
def pL_ (g : List (Bool × Bool)) (q : α -> List Pd) (l : List α) : PC := ⟨.when g (.len ((l.map q).length : Int) (l.length : Int)), λ _ => Wg l q⟩
def pr (q : α -> List Pd) {l : List α} {n : Int} {x : α} (h : getI l n = some x) : PC := ⟨.row (l.map q) n (q x), V0 h⟩
def pn (q : α -> List Pd) {l : List α} {n : Int} {x : α} (h : getI l n = some x) : PC := ⟨.row (l.map q) ((n.toNat : Nat) : Int) (q x), Jo h⟩
def pt {q : α -> List Pd} {l : List α} {i : Nat} {x : α} (hx : l[i]? = some x) (hl : (l.map q).length <= maxLen) : PC := ⟨.row (l.map q) (cnt 0 i) (q x), Azr hx hl⟩
def pR (q : α -> List Pd) {g : List (Bool × Bool)} {l : List α} {n : Int} {x d : α} (h : A3 g (getI l n) d = some x) : PC := ⟨.when g (.row (l.map q) n (q x)), λ hg => V0 (Ba h hg)⟩
def pN (q : α -> List Pd) {g : List (Bool × Bool)} {l : List α} {n : Int} {x d : α} (h : A3 g (getI l n) d = some x) : PC := ⟨.when g (.row (l.map q) ((n.toNat : Nat) : Int) (q x)), λ hg => Jo (Ba h hg)⟩
def pa (q : α -> List Pd) (size : Nat) {B : Nat} {l m y : List α} (h : appI (B + 1) l m = some y) (hs : ∀ x, (q x).length = size := by exact λ _ => rfl) : PC := ⟨.app (l.map q) (m.map q) size (((l.map q).length + (m.map q).length) * (B + 1)) (y.map q), H6 q size hs h⟩
def pu (q : α -> List Pd) {l y : List α} {n : Int} {x x' : α} (hx : getI l n = some x) (h : setI l n x' = some y) : PC := ⟨.upd (l.map q) n.toNat (q x) (q x') (y.map q), Alx hx h⟩
end
theorem ws {ro : Option Nat} {n : Nat} {C : Ctx} {Q : Exit -> Act -> World -> Prop} {st : St} {R : List Res} {items : List It} (lv : List Nat) (fuel : Nat) (ds : List Bool) (cls : List PC) (adj : List Adj) (k : Nat) (pi : List Nat) (st' : St) (R' : List Res) (hk : C.h.length <= k) (bs : List PB) (hW : WI ro Tryz.prog n C Q (Cc fuel items ds) st' R') (h : Lq Tryz.prog n lv fuel items st R ds (cls.map (·.1)) adj k pi (Qw st') = some (st', R', cls.map (·.1), bs.map (·.1)) := by kernel_rfl) : WI ro Tryz.prog n C Q items st R := Ant Ib lv fuel ds (cls.map (·.1)) adj k pi st' R' hk (okP cls) (okB bs) h hW
theorem we {ro : Option Nat} {n : Nat} {C : Ctx} {Q : Exit -> Act -> World -> Prop} {st : St} {R : List Res} {items : List It} {σ : Type} {φ : σ -> Prop} {st' : σ -> St} {R' : σ -> List Res} (lv : List Nat) (fuel : Nat) (ds : List Bool) (cls : List PC) (adj : List Adj) (k : Nat) (pi : List Nat) (s : σ) (hk : C.h.length <= k) (bs : List PB) (h1 : φ s) (hi : hdK (Cc fuel items ds) = Ex n C φ st' R' := by kernel_rfl) (h : Lq Tryz.prog n lv fuel items st R ds (cls.map (·.1)) adj k pi (Qw (st' s)) = some (st' s, R' s, cls.map (·.1), bs.map (·.1)) := by kernel_rfl) : WI ro Tryz.prog n C Q items st R := Au4 Ib lv fuel ds (cls.map (·.1)) adj k pi s hk (okP cls) (okB bs) hi h h1
theorem wx {σ : Type} {τ : Type} (w : Ctl σ τ) (st' : σ -> St) (R' : σ -> List Res) {ro : Option Nat} {n : Nat} {C : Ctx} {Q : Exit -> Act -> World -> Prop} {st : St} {R : List Res} {items : List It} (lv : List Nat) (fuel : Nat) (ds : List Bool) (cls : List PC) (adj : List Adj) (k : Nat) (pi : List Nat) (s : σ) (hk : C.h.length <= k) (bs : List PB) (h1 : w = .next s) (hi : hdK (Cc fuel items ds) = Ex n C (λ s' => w = .next s') st' R' := by kernel_rfl) (h : Lq Tryz.prog n lv fuel items st R ds (cls.map (·.1)) adj k pi (Qw (st' s)) = some (st' s, R' s, cls.map (·.1), bs.map (·.1)) := by kernel_rfl) : WI ro Tryz.prog n C Q items st R := Au4 Ib lv fuel ds (cls.map (·.1)) adj k pi s hk (okP cls) (okB bs) hi h h1
theorem wc {ro : Option Nat} {n : Nat} {C : Ctx} {Q : Exit -> Act -> World -> Prop} {st : St} {R : List Res} {items : List It} {σ τ : Type} (w : Ctl σ τ) (st' : σ -> St) (R' : σ -> List Res) (h : WI ro Tryz.prog n C Q (.c (hdC items) :: .k (Ex n C (λ s => w = .next s) st' R') :: tlI items) st R) (hK : ∀ s, w = .next s -> WI ro Tryz.prog n C Q (tlI items) (st' s) (R' s)) (hi : isC items = true := by kernel_rfl) : WI ro Tryz.prog n C Q items st R := A5a hi _ st' R' h hK
theorem cB {α : Type} {c : Bool} {x y z : α} (h : (bif c then x else y) = z) : (c = true /\ x = z) \/ (c = false /\ y = z) := by cases c; exact .inr ⟨rfl, h⟩; exact .inl ⟨rfl, h⟩
theorem wb {ro : Option Nat} {n : Nat} {C : Ctx} {Q : Exit -> Act -> World -> Prop} {st : St} {R : List Res} {items : List It} (h : WI ro Tryz.prog n C Q (.c (A45 items) :: .b (A44 items) :: tlI items) st R) (hi : isB items = true := by kernel_rfl) : WI ro Tryz.prog n C Q items st R := A5b hi h
theorem co {f : FuncId} {fn : Func} {c : Code} {args : List AV} {res : AV} {R R2 : List Res} (n : Nat) (hf : Tryz.prog.funcs[f]? = some fn) (h : ∀ C : Ctx, C.h.length <= R.length -> WI none Tryz.prog n C.z (My Tryz.prog fn C.z res R2) [.c c] (uQ 0 args) R) (hb : fn.body = some c := by rfl) (hn : fn.ntmps = n := by rfl) (hl : Nat.ble args.length n = true := by rfl) : CallOk Tryz.prog f args R res R2 := Aup n hf hb hn hl h
theorem wr {ro : Option Nat} {n : Nat} {C : Ctx} {st : St} {R : List Res} {fn : Func} {res : AV} {R2 : List Res} {items : List It} (lv : List Nat) (fuel : Nat) (ds : List Bool) (cls : List PC) (adj : List Adj) (k : Nat) (pi : List Nat) (hk : C.h.length <= k) (bs : List PB) (h : jA Tryz.prog n lv fuel items st R ds (cls.map (·.1)) adj fn.results.toList k pi = some (res, R2, cls.map (·.1), bs.map (·.1)) := by kernel_rfl) : WI ro Tryz.prog n C.z (My Tryz.prog fn C.z res R2) items st R := uR Ib lv fuel ds (cls.map (·.1)) adj _ k pi rfl hk (okP cls) (okB bs) h
theorem wf {ro : Option Nat} {n : Nat} {C : Ctx} {st : St} {R : List Res} {fn : Func} {res : AV} {R2 : List Res} {items : List It} (lv : List Nat) (fuel : Nat) (ds : List Bool) (cls : List PC) (adj : List Adj) (k : Nat) (pi : List Nat) (hk : C.h.length <= k) (bs : List PB) (hn : Awv (Cc fuel items ds) = true := by kernel_rfl) (h : jB Tryz.prog n lv fuel items st R ds (cls.map (·.1)) adj fn.results.toList k pi = some (res, R2, cls.map (·.1), bs.map (·.1)) := by kernel_rfl) : WI ro Tryz.prog n C.z (My Tryz.prog fn C.z res R2) items st R := A00 Ib lv fuel ds (cls.map (·.1)) adj _ k pi rfl hk (okP cls) (okB bs) hn h
theorem en {f : FuncId} {fn : Func} (hf : Tryz.prog.funcs[f]? = some fn) (hb : fn.body.isNone = false := by kernel_rfl) (hn : (fn.name == "runtime.NumGoroutine") = false := by kernel_rfl) : Fl Tryz.prog f := Go.SL.Ac4 hf hb hn
abbrev ln {α : Type} (l : List α) : Int := (l.length : Int)
abbrev dI (x : Int) : AV := .d (I x)
abbrev dB (x : Bool) : AV := .d (Bo x)
abbrev dO (a b : Nat) : AV := .d (.o a b)
abbrev dS (a : Nat) : AV := .d (.os a)
theorem k8 (x0 : List Int) (r : Ai) (h : F8 x0 = some r) : CO 8 [.d (DS pI x0)] [] (.d (.o 0 0)) [.box 90 (d90 r)] := by
 unfold F8 at h
 refine co 10 Tryz.func8 λ C hC => ?_
 obtain ⟨y2, h1, h⟩ := Ad h
 replace h := sI h
 subst h
 exact wr [0, 2] 25 [] [pl pI x0, ⟨.cut (x0.map pI) 1 0 (min (ln x0) 600) (y2.map pI), Aar pI 1 (λ _ => rfl) h1⟩] [] 0 [0] hC []
theorem e8 : EN 8 := en Tryz.func8
theorem k80 (x0 : Int) (x1 : Int) (r : Int) (h : F80 x0 x1 = some r) : CO 80 [.d (I x0), .d (I x1)] [] (.d (I r)) [] := by
 unfold F80 at h
 refine co 14 Tryz.func80 λ C hC => ?_
 rcases cB h with ⟨h1, h⟩ | ⟨h1, h⟩
 ·replace h := sI h
  subst h
  exact wr [0, 1, 4, 6] 29 [true] [] [] 0 [] hC [pq h1]
 ·obtain ⟨u3, h2, h⟩ := Ad h
  obtain ⟨u5, h4, h⟩ := Ad h
  replace h := sI h
  subst h
  exact wr [0, 1, 4, 6] 30 [false] [⟨.nz x1, O8 h2⟩, ⟨.nz x1, O8 h4⟩] [] 0 [] hC [pq h1]
theorem e80 : EN 80 := en Tryz.func80
theorem Fa (x0 : Int) (x1 : Int) (x2 : Int) (r : Bool) (h : B5 x0 x1 x2 = r) : CO 112 [.d (I x0), .d (I x1), .d (I x2)] [] (.d (Bo r)) [] := by
 unfold B5 at h
 refine co 15 Tryz.func112 λ C hC => ?_
 subst h
 exact wr [0, 1, 2, 6] 25 [] [] [] 0 [] hC []
theorem Fc : EN 112 := en Tryz.func112
def Agx : List Nat := [0, 1, 2, 3, 6, 7, 8, 9, 11, 12, 13, 14, 37]
def jG (x0 : Aa) (x1 : Int) (x2 : Int) (n0 : Nat) (z0 : (List Int)) : St := [(1, dI x1), (2, dI x2), (6, .d (DS pI [])), (7, dS 0), (11, .d (DS Bi x0.Af)), (12, dI (ln x0.Af)), (13, dI (cnt 0 n0))]
def Ae2  (n0 : Nat) (z0 : (List Int)) : List Res := [v0_ z0]
def Asl  (z0 : (List Int)) : St := [(6, .d (DS pI [])), (7, dS 0)]
def Ave  (z0 : (List Int)) : List Res := [v0_ z0]
theorem k77 (x0 : Aa) (x1 : Int) (x2 : Int) (r : (List Int)) (h : F77 x0 x1 x2 = some r) : CO 77 [.agg (d29 x0), .d (I x1), .d (I x2)] [] (.d (.os 0)) [v0_ r] := by
 unfold F77 at h
 refine co 44 Tryz.func77 λ C hC => ?_
 refine ws Agx 28 [] [pl Bi x0.Af] [.own 7 3 1] 0 [1] (jG x0 x1 x2 0 ([] : List Int)) (Ae2 0 ([] : List Int)) hC [] ?_
 obtain ⟨w0, hm0, hret0, hnext0⟩ := Au h
 clear h
 refine wc w0 (Asl) (Ave) ?_ λ z0 hs0 => ?_
 ·refine wb ?_
  refine Bn 11 rfl λ hl0 => ?_
  refine A7 (by kernel_rfl) (vH x1 x2) (jG x0 x1 x2) (Ae2) w0 x0.Af ([] : List Int) hm0 rfl rfl (λ z0 hn0 => ?_) λ n0 a0 z0 w0b hi0 hx0 h hb0 hr0 => ?_
  ·clear hm0
   exact wx w0 (Asl) (Ave) Agx 26 [false] [] [] 0 [0] z0 hC [pq (Bb hl0)] hn0
  ·unfold vH at h
   rcases cB h with ⟨h1, h⟩ | ⟨h1, h⟩
   ·obtain ⟨y2, h3, h⟩ := Ad h
    exact wx w0b (jG x0 x1 x2 (n0 + 1)) (Ae2 (n0 + 1)) Agx 36 [true, true] [pt hx0 hl0, pa pI 1 h3] [] 0 [2] y2 hC [pq (A8 hi0 hl0), pq h1] (sI h).symm
   ·exact wx w0b (jG x0 x1 x2 (n0 + 1)) (Ae2 (n0 + 1)) Agx 36 [true, false] [pt hx0 hl0] [] 0 [0] z0 hC [pq (A8 hi0 hl0), pq h1] (sI h).symm
 ·have h := hnext0 _ hs0
  replace h := sI h
  subst h
  exact wr Agx 23 [] [] [] 0 [0] hC []
theorem e77 : EN 77 := en Tryz.func77
theorem A8k (x0 : An) (x1 : An) (r : Bool) (h : Abh x0 x1 = r) : CO 113 [.agg (d86 x0), .agg (d86 x1)] [] (.d (Bo r)) [] := by
 unfold Abh at h
 refine co 24 Tryz.func113 λ C hC => ?_
 subst h
 exact wr n5_ 25 [] [] [] 0 [] hC []
theorem A91 : EN 113 := en Tryz.func113
theorem k65 (x0 : Ab) (r : Ab) (h : F65 x0 = some r) : CO 65 [.agg (d36 x0)] [] (.agg [.os 0, .os 1, .os 2, .os 3]) (zp r []) := by
 unfold F65 at h
 refine co 16 Tryz.func65 λ C hC => ?_
 obtain ⟨y1, h2, h⟩ := Ad h
 obtain ⟨y3, h4, h⟩ := Ad h
 obtain ⟨y5, h6, h⟩ := Ad h
 obtain ⟨y7, h8, h⟩ := Ad h
 replace h := sI h
 subst h
 exact wr n3_ 25 [] [⟨.app [] (x0.Ah.map pB) 1 ((x0.Ah.map pB).length * (1 + 1)) (y1.map pB), Rf pB 1 (λ _ => rfl) h2⟩, ⟨.app [] (x0.Ac.map A_) 4 ((x0.Ac.map A_).length * (32 + 1)) (y3.map A_), Rf A_ 4 (λ _ => rfl) h4⟩, ⟨.app [] (x0.As.map pI) 1 ((x0.As.map pI).length * (8 + 1)) (y5.map pI), Rf pI 1 (λ _ => rfl) h6⟩, ⟨.app [] (x0.Aq.map q86) 2 ((x0.Aq.map q86).length * (16 + 1)) (y7.map q86), Rf q86 2 (λ _ => rfl) h8⟩] [] 0 [3, 5, 7, 9] hC []
theorem e65 : EN 65 := en Tryz.func65
def Hy : List Nat := [0, 1, 2, 3, 4, 6, 7, 8, 9, 10, 11, 19, 20, 21, 23, 24, 25, 26, 53, 65, 66, 67, 72]
def zM (y5 : List Bool) (n0 : Nat) (z0 : (List Bool)) : St := [(3, dO 0 0), (4, dO 1 0), (6, .d (DS pI [])), (7, dS 2), (19, dI (ln y5)), (20, dI (cnt 0 n0))]
def Aj4 (x0 : Aa) (x1 : Ab) (n0 : Nat) (z0 : (List Bool)) : List Res := [.box 29 (d29 x0), .box 36 (d36 x1), v2_ z0]
def Am2  (z0 : (List Bool)) : St := [(6, .d (DS pI [])), (7, dS 0)]
def Aou  (z0 : (List Bool)) : List Res := [v2_ z0]
def Vw (x0 : Aa) (y5 : List Bool) (n0 : Nat) (n1 : Nat) (z1 : (List Bool)) : St := [(3, dO 0 0), (4, dO 1 0), (6, .d (DS pI [])), (7, dS 2), (19, dI (ln y5)), (20, dI (cnt 0 n0)), (23, .d (DS Bi x0.Af)), (24, dI (ln x0.Af)), (25, dI (cnt 0 n1))]
def uW (x0 : Aa) (x1 : Ab) (n1 : Nat) (z1 : (List Bool)) : List Res := [.box 29 (d29 x0), .box 36 (d36 x1), v2_ z1]
def Am1 (y5 : List Bool) (n0 : Nat) (z1 : (List Bool)) : St := [(3, dO 0 0), (4, dO 1 0), (6, .d (DS pI [])), (7, dS 2), (19, dI (ln y5)), (20, dI (cnt 0 n0))]
def Aot (x0 : Aa) (x1 : Ab) (z1 : (List Bool)) : List Res := [.box 29 (d29 x0), .box 36 (d36 x1), v2_ z1]
def Vv (z0 : (List Bool)) (n2 : Nat) (z2 : (List Int)) : St := [(6, .d (DS pI [])), (7, dS 0), (10, dS 1), (65, dI (ln z0)), (66, dI (cnt 0 n2))]
def uV (z0 : (List Bool)) (n2 : Nat) (z2 : (List Int)) : List Res := [v2_ z0, v0_ z2]
def Am0  (z2 : (List Int)) : St := [(6, .d (DS pI [])), (10, dS 0)]
def Aos  (z2 : (List Int)) : List Res := [v0_ z2]
theorem A8j (x0 : Aa) (x1 : Ab) (x2 : Int) (r : (List Int)) (h : Ak2 x0 x1 x2 = some r) : CO 114 [.agg (d29 x0), .agg (d36 x1), .d (I x2)] [] (.d (.os 0)) [v0_ r] := by
 unfold Ak2 at h
 refine co 79 Tryz.func114 λ C hC => ?_
 obtain ⟨y1, h2, h⟩ := Ad h
 obtain ⟨y3, h4, h⟩ := Ad h
 obtain ⟨y5, h6, h⟩ := Ad h
 refine ws Hy 30 [] [⟨.room (x0.Am * (1 + 1)) (List.replicate (Int.toNat x0.Am) (pB false)) (y1.map pB), Hh h2⟩, pr pB h4, pu pB h4 h6, pl pB y5] [] 0 n3_ (zM y5 0 y5) (Aj4 x0 x1 0 y5) hC [] ?_
 obtain ⟨w0, hm0, hret0, hnext0⟩ := Au h
 clear h
 refine wc w0 (Am2) (Aou) ?_ λ z0 hs0 => ?_
 ·refine wb ?_
  refine Cj 7 2 rfl rfl λ hl0 => ?_
  refine A7 (by kernel_rfl) (Xj x0 x1) (zM y5) (Aj4 x0 x1) w0 y5 y5 hm0 rfl rfl (λ z0 hn0 => ?_) λ n0 a0 z0 w0b hi0 hx0 h hb0 hr0 => ?_
  ·clear hm0
   exact wx w0 (Am2) (Aou) Hy 26 [false] [] [] 0 [2] z0 hC [pq (Bb hl0)] hn0
  ·unfold Xj at h
   refine ws Hy 30 [true] [pl Bi x0.Af] [] 0 n3_ (Vw x0 y5 n0 0 z0) (uW x0 x1 0 z0) hC [pq (A8 hi0 hl0)] ?_
   obtain ⟨w1, hm1, hret1, hnext1⟩ := Au h
   clear h
   refine wc w1 (Am1 y5 n0) (Aot x0 x1) ?_ λ z1 hs1 => ?_
   ·refine wb ?_
    refine Bn 23 rfl λ hl1 => ?_
    refine A7 (by kernel_rfl) (Xi x1) (Vw x0 y5 n0) (uW x0 x1) w1 x0.Af z0 hm1 rfl rfl (λ z1 hn1 => ?_) λ n1 a1 z1 w1b hi1 hx1 h hb1 hr1 => ?_
    ·clear hm1
     exact wx w1 (Am1 y5 n0) (Aot x0 x1) Hy 26 [false] [] [] 0 n3_ z1 hC [pq (Bb hl1)] hn1
    ·unfold Xi at h
     obtain ⟨y7, h8, h⟩ := Ad h
     obtain ⟨y9, h10, h⟩ := Ad h
     obtain ⟨y11, h12, h⟩ := Ad h
     refine ws Hy 32 [true] [pt hx1 hl1, pR pB h8, pR pB h10, pN pB h10, pR pB h12, pN pB h12] [] 0 n4_ [(3, dO 0 0), (4, dO 1 0), (6, .d (DS pI [])), (7, dS 2), (9, dO 3 0), (19, dI (ln y5)), (20, dI (cnt 0 n0)), (23, .d (DS Bi x0.Af)), (24, dI (ln x0.Af)), (25, dI (cnt 0 n1)), (53, dB (Pk a1 y7 y9 y11))] [.box 29 (d29 x0), .box 36 (d36 x1), v2_ z1, .box 147 (F7 a1)] hC [pq (A8 hi1 hl1)] ?_
     rcases cB h with ⟨h13, h⟩ | ⟨h13, h⟩
     ·obtain ⟨y14, h15, h⟩ := Ad h
      obtain ⟨y16, h17, h⟩ := Ad h
      obtain ⟨y18, h19, h⟩ := Ad h
      obtain ⟨y20, h21, h⟩ := Ad h
      exact wx w1b (Vw x0 y5 n0 (n1 + 1)) (uW x0 x1 (n1 + 1)) Hy 25 [true] [pr pB h15, pu pB h15 h17, pr pB h19, pu pB h19 h21] [] 0 n3_ y20 hC [pq h13] (sI h).symm
     ·exact wx w1b (Vw x0 y5 n0 (n1 + 1)) (uW x0 x1 (n1 + 1)) Hy 25 [false] [] [] 0 n3_ z1 hC [pq h13] (sI h).symm
   ·have h := hnext1 _ hs1
    exact wx w0b (zM y5 (n0 + 1)) (Aj4 x0 x1 (n0 + 1)) Hy 23 [] [] [] 0 n3_ z1 hC [] (sI h).symm
 ·have h := hnext0 _ hs0
  refine ws Hy 26 [] [pl pB z0] [.own 10 3 1] 0 [0, 1] (Vv z0 0 ([] : List Int)) (uV z0 0 ([] : List Int)) hC [] ?_
  obtain ⟨w2, hm2, hret2, hnext2⟩ := Au h
  clear h
  refine wc w2 (Am0) (Aos) ?_ λ z2 hs2 => ?_
  ·refine wb ?_
   refine Cj 7 0 rfl rfl λ hl2 => ?_
   refine A7 (by kernel_rfl) Xh (Vv z0) (uV z0) w2 z0 ([] : List Int) hm2 rfl rfl (λ z2 hn2 => ?_) λ n2 a2 z2 w2b hi2 hx2 h hb2 hr2 => ?_
   ·clear hm2
    exact wx w2 (Am0) (Aos) Hy 26 [false] [] [] 0 [1] z2 hC [pq (Bb hl2)] hn2
   ·unfold Xh at h
    rcases cB h with ⟨h22, h⟩ | ⟨h22, h⟩
    ·obtain ⟨y23, h24, h⟩ := Ad h
     exact wx w2b (Vv z0 (n2 + 1)) (uV z0 (n2 + 1)) Hy 36 [true, true] [pr pB (Bl hx2 hl2), pn pB (Bl hx2 hl2), pa pI 1 h24] [] 0 [0, 2] y23 hC [pq (A8 hi2 hl2), pq h22] (sI h).symm
    ·exact wx w2b (Vv z0 (n2 + 1)) (uV z0 (n2 + 1)) Hy 36 [true, false] [pr pB (Bl hx2 hl2), pn pB (Bl hx2 hl2)] [] 0 [0, 1] z2 hC [pq (A8 hi2 hl2), pq h22] (sI h).symm
  ·have h := hnext2 _ hs2
   replace h := sI h
   subst h
   exact wr Hy 23 [] [] [] 0 [0] hC []
theorem A90 : EN 114 := en Tryz.func114
def Agz : List Nat := [0, 1, 4, 6, 7, 8, 9, 10, 15]
def Afl (x0 : List Int) (x1 : Int) (n0 : Nat) (z0 : Unit) : St := [(1, dI x1), (4, dB false), (7, .d (DS pI x0)), (8, dI (ln x0)), (9, dI (cnt 0 n0))]
def Aq0  (n0 : Nat) (z0 : Unit) : List Res := []
def Asn  (z0 : Unit) : St := [(4, dB false)]
def Avg  (z0 : Unit) : List Res := []
theorem k55 (x0 : List Int) (x1 : Int) (r : Bool) (h : F55 x0 x1 = some r) : CO 55 [.d (DS pI x0), .d (I x1)] [] (.d (Bo r)) [] := by
 unfold F55 at h
 refine co 17 Tryz.func55 λ C hC => ?_
 refine ws Agz 26 [] [pl pI x0] [] 0 [] (Afl x0 x1 0 ()) (Aq0 0 ()) hC [] ?_
 obtain ⟨w0, hm0, hret0, hnext0⟩ := Au h
 clear h
 refine wc w0 (Asn) (Avg) ?_ λ z0 hs0 => ?_
 ·refine wb ?_
  refine Bn 7 rfl λ hl0 => ?_
  refine A7 (by kernel_rfl) (Uo x1) (Afl x0 x1) (Aq0) w0 x0 () hm0 rfl rfl (λ z0 hn0 => ?_) λ n0 a0 z0 w0b hi0 hx0 h hb0 hr0 => ?_
  ·clear hm0
   exact wx w0 (Asn) (Avg) Agz 26 [false] [] [] 0 [] () hC [pq (Bb hl0)] hn0
  ·unfold Uo at h
   rcases cB h with ⟨h1, h⟩ | ⟨h1, h⟩
   ·have hq := hret0 _ (hr0 _ (sI h).symm)
    replace hq := sI hq
    subst hq
    exact wr Agz 35 [true, true] [pt hx0 hl0] [] 0 [] hC [pq (A8 hi0 hl0), pq h1]
   ·exact wx w0b (Afl x0 x1 (n0 + 1)) (Aq0 (n0 + 1)) Agz 36 [true, false] [pt hx0 hl0] [] 0 [] () hC [pq (A8 hi0 hl0), pq h1] (sI h).symm
 ·have h := hnext0 _ hs0
  replace h := sI h
  subst h
  exact wr Agz 23 [] [] [] 0 [] hC []
theorem e55 : EN 55 := en Tryz.func55
theorem k99 (x0 : Int) (x1 : Int) (x2 : Int) (r : Bool) (h : F99 x0 x1 x2 = r) : CO 99 [.d (I x0), .d (I x1), .d (I x2)] [] (.d (Bo r)) [] := by
 unfold F99 at h
 refine co 15 Tryz.func99 λ C hC => ?_
 subst h
 exact wr [0, 1, 2, 6] 25 [] [] [] 0 [] hC []
theorem e99 : EN 99 := en Tryz.func99
def jY : List Nat := [0, 1, 4, 5, 7, 8, 9, 16]
def yM (x0 : List Int) (x1 : Int) (n0 : Nat) (z0 : Unit) : St := [(0, .d (DS pI x0)), (1, dI x1), (4, dI 0), (7, dI (ln x0)), (8, dI (cnt 0 n0))]
def Aje  (n0 : Nat) (z0 : Unit) : List Res := []
def Al4  (z0 : Unit) : St := [(4, dI 0)]
def Anw  (z0 : Unit) : List Res := []
theorem A7e (x0 : List Int) (x1 : Int) (r : Int) (h : Arl x0 x1 = some r) : CO 227 [.d (DS pI x0), .d (I x1)] [] (.d (I r)) [] := by
 unfold Arl at h
 refine co 19 Tryz.func227 λ C hC => ?_
 refine ws jY 26 [] [pl pI x0] [] 0 [] (yM x0 x1 0 ()) (Aje 0 ()) hC [] ?_
 obtain ⟨w0, hm0, hret0, hnext0⟩ := Au h
 clear h
 refine wc w0 (Al4) (Anw) ?_ λ z0 hs0 => ?_
 ·refine wb ?_
  refine Bn 0 rfl λ hl0 => ?_
  refine A7 (by kernel_rfl) (Aa5 x1) (yM x0 x1) (Aje) w0 x0 () hm0 rfl rfl (λ z0 hn0 => ?_) λ n0 a0 z0 w0b hi0 hx0 h hb0 hr0 => ?_
  ·clear hm0
   exact wx w0 (Al4) (Anw) jY 26 [false] [] [] 0 [] () hC [pq (Bb hl0)] hn0
  ·unfold Aa5 at h
   rcases cB h with ⟨h1, h⟩ | ⟨h1, h⟩
   ·have hq := hret0 _ (hr0 _ (sI h).symm)
    replace hq := sI hq
    subst hq
    exact wr jY 35 [true, true] [pt hx0 hl0] [] 0 [] hC [pq (A8 hi0 hl0), pq h1]
   ·exact wx w0b (yM x0 x1 (n0 + 1)) (Aje (n0 + 1)) jY 36 [true, false] [pt hx0 hl0] [] 0 [] () hC [pq (A8 hi0 hl0), pq h1] (sI h).symm
 ·have h := hnext0 _ hs0
  replace h := sI h
  subst h
  exact wr jY 23 [] [] [] 0 [] hC []
theorem A8v : EN 227 := en Tryz.func227
theorem A10 (x0 : List Int) (r : Bool) (h : Ayh x0 = r) : CO 192 [.d (DS pI x0)] [] (.d (Bo r)) [] := by
 unfold Ayh at h
 refine co 6 Tryz.func192 λ C hC => ?_
 subst h
 exact wr [0, 2] 25 [] [pl pI x0] [] 0 [] hC []
theorem A3v : EN 192 := en Tryz.func192
def qF : List Nat := [0, 1, 2, 4, 5, 6, 11, 16, 20]
theorem A75 (x0 : Aa) (x1 : Int) (r : Int) (h : Le x0 x1 = r) : CO 152 [.agg (d29 x0), .d (I x1)] [] (.d (I r)) [] := by
 unfold Le at h
 refine co 25 Tryz.func152 λ C hC => ?_
 rcases cB h with ⟨h1, h⟩ | ⟨h1, h⟩
 ·subst h
  exact wr qF 32 [true] [pl Bt x0.Ac] [] 0 [] hC [pq h1]
 ·rcases cB h with ⟨h2, h⟩ | ⟨h2, h⟩
  ·subst h
   exact wr qF 35 [false, true] [pl Bi x0.Af] [] 0 [] hC [pq h1, pq h2]
  ·rcases cB h with ⟨h3, h⟩ | ⟨h3, h⟩
   ·subst h
    exact wr qF 38 [false, false, true] [] [] 0 [] hC [pq h1, pq h2, pq h3]
   ·rcases cB h with ⟨h4, h⟩ | ⟨h4, h⟩
    ·subst h
     exact wr qF 41 [false, false, false, true] [pl q65 x0.Ae] [] 0 [] hC [pq h1, pq h2, pq h3, pq h4]
    ·subst h
     exact wr qF 43 [false, false, false, false] [] [] 0 [] hC [pq h1, pq h2, pq h3, pq h4]
theorem A9m : EN 152 := en Tryz.func152
theorem K9 (x0 : Int) (r : Bool) (h : Zy x0 = r) : CO 199 [.d (I x0)] [] (.d (Bo r)) [] := by
 unfold Zy at h
 refine co 6 Tryz.func199 λ C hC => ?_
 subst h
 exact wr [0, 2] 25 [] [] [] 0 [] hC []
theorem K_ : EN 199 := en Tryz.func199
def qE : List Nat := [0, 2, 3, 5, 6, 7, 8, 9, 14]
def zA (x0 : List Int) (n0 : Nat) (z0 : Unit) : St := [(2, dI 0), (3, dI 0), (6, .d (DS pI x0)), (7, dI (ln x0)), (8, dI (cnt 0 n0))]
def Ajt  (n0 : Nat) (z0 : Unit) : List Res := []
def Aml  (z0 : Unit) : St := [(2, dI 0), (3, dI 0)]
def Aod  (z0 : Unit) : List Res := []
theorem A74 (x0 : List Int) (r : Int) (h : Aa9 x0 = some r) : CO 153 [.d (DS pI x0)] [] (.d (I r)) [] := by
 unfold Aa9 at h
 refine co 18 Tryz.func153 λ C hC => ?_
 refine ws qE 28 [] [pl pI x0] [] 0 [] (zA x0 0 ()) (Ajt 0 ()) hC [] ?_
 obtain ⟨w0, hm0, hret0, hnext0⟩ := Au h
 clear h
 refine wc w0 (Aml) (Aod) ?_ λ z0 hs0 => ?_
 ·refine wb ?_
  refine Bn 6 rfl λ hl0 => ?_
  refine A7 (by kernel_rfl) P3 (zA x0) (Ajt) w0 x0 () hm0 rfl rfl (λ z0 hn0 => ?_) λ n0 a0 z0 w0b hi0 hx0 h hb0 hr0 => ?_
  ·clear hm0
   exact wx w0 (Aml) (Aod) qE 26 [false] [] [] 0 [] () hC [pq (Bb hl0)] hn0
  ·unfold P3 at h
   rcases cB h with ⟨h1, h⟩ | ⟨h1, h⟩
   ·have hq := hret0 _ (hr0 _ (sI h).symm)
    replace hq := sI hq
    subst hq
    exact wr qE 35 [true, true] [pt hx0 hl0] [] 0 [] hC [pq (A8 hi0 hl0), pq h1]
   ·exact wx w0b (zA x0 (n0 + 1)) (Ajt (n0 + 1)) qE 36 [true, false] [pt hx0 hl0] [] 0 [] () hC [pq (A8 hi0 hl0), pq h1] (sI h).symm
 ·have h := hnext0 _ hs0
  replace h := sI h
  subst h
  exact wr qE 23 [] [] [] 0 [] hC []
theorem A9l : EN 153 := en Tryz.func153
def qI : List Nat := [0, 1, 2, 3, 4, 6, 7, 8, 9, 11, 12, 13, 14, 33]
def Vy (x0 : Aa) (x2 : Int) (n0 : Nat) (z0 : Int) : St := [(2, dI x2), (4, dO 0 0), (6, dI 0), (7, dI z0), (11, .d (DS Bi x0.Af)), (12, dI (ln x0.Af)), (13, dI (cnt 0 n0))]
def uY (x1 : Ab) (n0 : Nat) (z0 : Int) : List Res := [.box 36 (d36 x1)]
def Am4  (z0 : Int) : St := [(6, dI 0), (7, dI z0)]
def Aow  (z0 : Int) : List Res := []
theorem A8n (x0 : Aa) (x1 : Ab) (x2 : Int) (r : Int) (h : Ak7 x0 x1 x2 = some r) : CO 100 [.agg (d29 x0), .agg (d36 x1), .d (I x2)] [] (.d (I r)) [] := by
 unfold Ak7 at h
 refine co 38 Tryz.func100 λ C hC => ?_
 refine ws qI 28 [] [pl Bi x0.Af] [] 0 [1] (Vy x0 x2 0 0) (uY x1 0 0) hC [] ?_
 obtain ⟨w0, hm0, hret0, hnext0⟩ := Au h
 clear h
 refine wc w0 (Am4) (Aow) ?_ λ z0 hs0 => ?_
 ·refine wb ?_
  refine Bn 11 rfl λ hl0 => ?_
  refine A7 (by kernel_rfl) (Xk x1 x2) (Vy x0 x2) (uY x1) w0 x0.Af 0 hm0 rfl rfl (λ z0 hn0 => ?_) λ n0 a0 z0 w0b hi0 hx0 h hb0 hr0 => ?_
  ·clear hm0
   exact wx w0 (Am4) (Aow) qI 26 [false] [] [] 0 [] z0 hC [pq (Bb hl0)] hn0
  ·unfold Xk at h
   obtain ⟨y1, h2, h⟩ := Ad h
   rcases cB h with ⟨h3, h⟩ | ⟨h3, h⟩
   ·exact wx w0b (Vy x0 x2 (n0 + 1)) (uY x1 (n0 + 1)) qI 36 [true, true] [pt hx0 hl0, pR pB h2] [] 0 [0] (w64 (z0 + 1)) hC [pq (A8 hi0 hl0), pq h3] (sI h).symm
   ·exact wx w0b (Vy x0 x2 (n0 + 1)) (uY x1 (n0 + 1)) qI 36 [true, false] [pt hx0 hl0, pR pB h2] [] 0 [0] z0 hC [pq (A8 hi0 hl0), pq h3] (sI h).symm
 ·have h := hnext0 _ hs0
  replace h := sI h
  subst h
  exact wr qI 23 [] [] [] 0 [] hC []
theorem A94 : EN 100 := en Tryz.func100
theorem A7x (x0 : List Bool) (r : List Bool) (h : Arr x0 = some r) : CO 166 [.d (.p (.s (x0.map pB)))] [] (.d (.os 0)) [v2_ r] := by
 unfold Arr at h
 refine co 8 Tryz.func166 λ C hC => ?_
 refine ws [0, 4] 40 [] [] [] 0 [] [(0, .d (.p (.s (x0.map pB)))), (4, .d (.nq (x0.map pB)))] [] hC [] ?_
 refine Wp 4 (by kernel_rfl) (by kernel_rfl) rfl (λ hn => ?_) ?_
 ·have hx : x0 = [] := by cases x0 with | nil => rfl | cons => cases hn
  subst hx
  have hr : r = [] := by simpa [appI] using h.symm
  subst hr
  exact wr [2] 40 [] [] [.own 2 4 1] 0 [0] hC []
 ·exact wr [2] 40 [] [⟨.own, trivial⟩, ⟨.app [] (x0.map pB) 1 ((([] : List (List Pd)).length + (x0.map pB).length) * (1 + 1)) (r.map pB), H6 (l := []) pB 1 (λ _ => rfl) h⟩] [] 0 [1] hC []
theorem A9e : EN 166 := en Tryz.func166
theorem A7w (x0 : List Ag) (r : List Ag) (h : Arq x0 = some r) : CO 167 [.d (.p (.s (x0.map A_)))] [] (.d (.os 0)) [v4_ r] := by
 unfold Arq at h
 refine co 8 Tryz.func167 λ C hC => ?_
 refine ws [0, 4] 40 [] [] [] 0 [] [(0, .d (.p (.s (x0.map A_)))), (4, .d (.nq (x0.map A_)))] [] hC [] ?_
 refine Wp 4 (by kernel_rfl) (by kernel_rfl) rfl (λ hn => ?_) ?_
 ·have hx : x0 = [] := by cases x0 with | nil => rfl | cons => cases hn
  subst hx
  have hr : r = [] := by simpa [appI] using h.symm
  subst hr
  exact wr [2] 40 [] [] [.own 2 120 4] 0 [0] hC []
 ·exact wr [2] 40 [] [⟨.own, trivial⟩, ⟨.app [] (x0.map A_) 4 ((([] : List (List Pd)).length + (x0.map A_).length) * (32 + 1)) (r.map A_), H6 (l := []) A_ 4 (λ _ => rfl) h⟩] [] 0 [1] hC []
theorem A9d : EN 167 := en Tryz.func167
theorem A2d (x0 : List Int) (r : List Int) (h : Z2 x0 = some r) : CO 168 [.d (.p (.s (x0.map pI)))] [] (.d (.os 0)) [v0_ r] := by
 unfold Z2 at h
 refine co 8 Tryz.func168 λ C hC => ?_
 refine ws [0, 4] 40 [] [] [] 0 [] [(0, .d (.p (.s (x0.map pI)))), (4, .d (.nq (x0.map pI)))] [] hC [] ?_
 refine Wp 4 (by kernel_rfl) (by kernel_rfl) rfl (λ hn => ?_) ?_
 ·have hx : x0 = [] := by cases x0 with | nil => rfl | cons => cases hn
  subst hx
  have hr : r = [] := by simpa [appI] using h.symm
  subst hr
  exact wr [2] 40 [] [] [.own 2 3 1] 0 [0] hC []
 ·exact wr [2] 40 [] [⟨.own, trivial⟩, ⟨.app [] (x0.map pI) 1 ((([] : List (List Pd)).length + (x0.map pI).length) * (8 + 1)) (r.map pI), H6 (l := []) pI 1 (λ _ => rfl) h⟩] [] 0 [1] hC []
theorem A38 : EN 168 := en Tryz.func168
theorem A7v (x0 : List An) (r : List An) (h : Arp x0 = some r) : CO 169 [.d (.p (.s (x0.map q86)))] [] (.d (.os 0)) [v3_ r] := by
 unfold Arp at h
 refine co 8 Tryz.func169 λ C hC => ?_
 refine ws [0, 4] 40 [] [] [] 0 [] [(0, .d (.p (.s (x0.map q86)))), (4, .d (.nq (x0.map q86)))] [] hC [] ?_
 refine Wp 4 (by kernel_rfl) (by kernel_rfl) rfl (λ hn => ?_) ?_
 ·have hx : x0 = [] := by cases x0 with | nil => rfl | cons => cases hn
  subst hx
  have hr : r = [] := by simpa [appI] using h.symm
  subst hr
  exact wr [2] 40 [] [] [.own 2 86 2] 0 [0] hC []
 ·exact wr [2] 40 [] [⟨.own, trivial⟩, ⟨.app [] (x0.map q86) 2 ((([] : List (List Pd)).length + (x0.map q86).length) * (16 + 1)) (r.map q86), H6 (l := []) q86 2 (λ _ => rfl) h⟩] [] 0 [1] hC []
theorem A9c : EN 169 := en Tryz.func169
def I7 : List Nat := [0, 1, 2, 3, 4, 5, 6, 7, 8, 9, 14, 15, 16, 24, 25, 26, 28, 29, 30, 31, 44]
def zD (y1 : List Int) (n0 : Nat) (z0 : (List Int)) : St := [(2, dO 0 0), (3, dO 1 0), (4, .d (DS pI [])), (5, dS 2), (14, dI (ln y1)), (15, dI (cnt 0 n0))]
def Ajv (x0 : Aa) (x1 : Ab) (n0 : Nat) (z0 : (List Int)) : List Res := [.box 29 (d29 x0), .box 36 (d36 x1), v0_ z0]
def Amo  (z0 : (List Int)) : St := [(2, dO 0 0), (3, dO 1 0), (4, .d (DS pI [])), (5, dS 2)]
def Aog (x0 : Aa) (x1 : Ab) (z0 : (List Int)) : List Res := [.box 29 (d29 x0), .box 36 (d36 x1), v0_ z0]
def zC (z0 : (List Int)) (n1 : Nat) (z1 : (List Int)) : St := [(2, dO 0 0), (3, dO 1 0), (4, .d (DS pI [])), (5, dS 2), (24, dI (ln z0)), (25, dI (cnt 0 n1))]
def Aju (x0 : Aa) (x1 : Ab) (n1 : Nat) (z1 : (List Int)) : List Res := [.box 29 (d29 x0), .box 36 (d36 x1), v0_ z1]
def Amn  (z1 : (List Int)) : St := [(4, .d (DS pI [])), (5, dS 0)]
def Aof  (z1 : (List Int)) : List Res := [v0_ z1]
def Vu (x0 : Aa) (z0 : (List Int)) (n1 : Nat) (n2 : Nat) (z2 : (List Int)) : St := [(2, dO 0 0), (3, dO 1 0), (4, .d (DS pI [])), (5, dS 2), (24, dI (ln z0)), (25, dI (cnt 0 n1)), (28, .d (DS Bi x0.Af)), (29, dI (ln x0.Af)), (30, dI (cnt 0 n2))]
def uU (x0 : Aa) (x1 : Ab) (n2 : Nat) (z2 : (List Int)) : List Res := [.box 29 (d29 x0), .box 36 (d36 x1), v0_ z2]
def Amm (z0 : (List Int)) (n1 : Nat) (z2 : (List Int)) : St := [(2, dO 0 0), (3, dO 1 0), (4, .d (DS pI [])), (5, dS 2), (24, dI (ln z0)), (25, dI (cnt 0 n1))]
def Aoe (x0 : Aa) (x1 : Ab) (z2 : (List Int)) : List Res := [.box 29 (d29 x0), .box 36 (d36 x1), v0_ z2]
theorem A2l (x0 : Aa) (x1 : Ab) (r : (List Int)) (h : Abb x0 x1 = some r) : CO 142 [.agg (d29 x0), .agg (d36 x1)] [] (.d (.os 0)) [v0_ r] := by
 unfold Abb at h
 refine co 69 Tryz.func142 λ C hC => ?_
 obtain ⟨y1, h2, h⟩ := Ad h
 refine ws I7 28 [] [⟨.room (x0.Am * (8 + 1)) (List.replicate (Int.toNat x0.Am) (pI 0)) (y1.map pI), Hh h2⟩, pl pI y1] [] 0 n3_ (zD y1 0 y1) (Ajv x0 x1 0 y1) hC [] ?_
 obtain ⟨w0, hm0, hret0, hnext0⟩ := Au h
 clear h
 refine wc w0 (Amo) (Aog x0 x1) ?_ λ z0 hs0 => ?_
 ·refine wb ?_
  refine Cj 5 2 rfl rfl λ hl0 => ?_
  refine A7 (by kernel_rfl) Xd (zD y1) (Ajv x0 x1) w0 y1 y1 hm0 rfl rfl (λ z0 hn0 => ?_) λ n0 a0 z0 w0b hi0 hx0 h hb0 hr0 => ?_
  ·clear hm0
   exact wx w0 (Amo) (Aog x0 x1) I7 26 [false] [] [] 0 n3_ z0 hC [pq (Bb hl0)] hn0
  ·unfold Xd at h
   obtain ⟨y3, h4, h⟩ := Ad h
   obtain ⟨y5, h6, h⟩ := Ad h
   exact wx w0b (zD y1 (n0 + 1)) (Ajv x0 x1 (n0 + 1)) I7 33 [true] [pr pI h4, pu pI h4 h6] [] 0 n3_ y5 hC [pq (A8 hi0 hl0)] (sI h).symm
 ·have h := hnext0 _ hs0
  refine ws I7 24 [] [pl pI z0] [] 0 n3_ (zC z0 0 z0) (Aju x0 x1 0 z0) hC [] ?_
  obtain ⟨w1, hm1, hret1, hnext1⟩ := Au h
  clear h
  refine wc w1 (Amn) (Aof) ?_ λ z1 hs1 => ?_
  ·refine wb ?_
   refine Cj 5 2 rfl rfl λ hl1 => ?_
   refine A7 (by kernel_rfl) (Xc x0 x1) (zC z0) (Aju x0 x1) w1 z0 z0 hm1 rfl rfl (λ z1 hn1 => ?_) λ n1 a1 z1 w1b hi1 hx1 h hb1 hr1 => ?_
   ·clear hm1
    exact wx w1 (Amn) (Aof) I7 26 [false] [] [] 0 [2] z1 hC [pq (Bb hl1)] hn1
   ·unfold Xc at h
    refine ws I7 30 [true] [pl Bi x0.Af] [] 0 n3_ (Vu x0 z0 n1 0 z1) (uU x0 x1 0 z1) hC [pq (A8 hi1 hl1)] ?_
    obtain ⟨w2, hm2, hret2, hnext2⟩ := Au h
    clear h
    refine wc w2 (Amm z0 n1) (Aoe x0 x1) ?_ λ z2 hs2 => ?_
    ·refine wb ?_
     refine Bn 28 rfl λ hl2 => ?_
     refine A7 (by kernel_rfl) (P5 x1) (Vu x0 z0 n1) (uU x0 x1) w2 x0.Af z1 hm2 rfl rfl (λ z2 hn2 => ?_) λ n2 a2 z2 w2b hi2 hx2 h hb2 hr2 => ?_
     ·clear hm2
      exact wx w2 (Amm z0 n1) (Aoe x0 x1) I7 26 [false] [] [] 0 n3_ z2 hC [pq (Bb hl2)] hn2
     ·unfold P5 at h
      obtain ⟨y7, h8, h⟩ := Ad h
      rcases cB h with ⟨h9, h⟩ | ⟨h9, h⟩
      ·obtain ⟨y10, h11, h⟩ := Ad h
       obtain ⟨y12, h13, h⟩ := Ad h
       obtain ⟨y14, h15, h⟩ := Ad h
       obtain ⟨y16, h17, h⟩ := Ad h
       obtain ⟨y18, h19, h⟩ := Ad h
       exact wx w2b (Vu x0 z0 n1 (n2 + 1)) (uU x0 x1 (n2 + 1)) I7 38 [true, true] [pt hx2 hl2, pR pB h8, pr pI h11, pn pI h11, pr pI h13, pn pI h13, pr pI h11, pu pI h11 h15, pr pI h17, pu pI h17 h19] [] 0 n3_ y18 hC [pq (A8 hi2 hl2), pq h9] (sI h).symm
      ·exact wx w2b (Vu x0 z0 n1 (n2 + 1)) (uU x0 x1 (n2 + 1)) I7 36 [true, false] [pt hx2 hl2, pR pB h8] [] 0 n3_ z2 hC [pq (A8 hi2 hl2), pq h9] (sI h).symm
    ·have h := hnext2 _ hs2
     exact wx w1b (zC z0 (n1 + 1)) (Aju x0 x1 (n1 + 1)) I7 23 [] [] [] 0 n3_ z2 hC [] (sI h).symm
  ·have h := hnext1 _ hs1
   replace h := sI h
   subst h
   exact wr I7 23 [] [] [] 0 [0] hC []
theorem A4g : EN 142 := en Tryz.func142
def qC : List Nat := [0, 1, 2, 3, 4, 5, 8, 9, 10, 11, 13, 14, 15, 16, 36]
def yQ (x0 : Aa) (x2 : Int) (x3 : Int) (n0 : Nat) (z0 : Unit) : St := [(2, dI x2), (3, dI x3), (5, dO 0 0), (8, dI 0), (9, dB false), (13, .d (DS Bi x0.Af)), (14, dI (ln x0.Af)), (15, dI (cnt 0 n0))]
def Aji (x1 : Ab) (n0 : Nat) (z0 : Unit) : List Res := [.box 36 (d36 x1)]
def Ama  (z0 : Unit) : St := [(8, dI 0), (9, dB false)]
def An2  (z0 : Unit) : List Res := []
theorem A1z (x0 : Aa) (x1 : Ab) (x2 : Int) (x3 : Int) (r : Int × Bool) (h : Aa8 x0 x1 x2 x3 = some r) : CO 195 [.agg (d29 x0), .agg (d36 x1), .d (I x2), .d (I x3)] [] (.tup [.d (I r.1), .d (Bo r.2)]) [] := by
 unfold Aa8 at h
 refine co 40 Tryz.func195 λ C hC => ?_
 refine ws qC 26 [] [pl Bi x0.Af] [] 0 [1] (yQ x0 x2 x3 0 ()) (Aji x1 0 ()) hC [] ?_
 obtain ⟨w0, hm0, hret0, hnext0⟩ := Au h
 clear h
 refine wc w0 (Ama) (An2) ?_ λ z0 hs0 => ?_
 ·refine wb ?_
  refine Bn 13 rfl λ hl0 => ?_
  refine A7 (by kernel_rfl) (P0 x1 x2 x3) (yQ x0 x2 x3) (Aji x1) w0 x0.Af () hm0 rfl rfl (λ z0 hn0 => ?_) λ n0 a0 z0 w0b hi0 hx0 h hb0 hr0 => ?_
  ·clear hm0
   exact wx w0 (Ama) (An2) qC 26 [false] [] [] 0 [] () hC [pq (Bb hl0)] hn0
  ·unfold P0 at h
   obtain ⟨y1, h2, h⟩ := Ad h
   rcases cB h with ⟨h3, h⟩ | ⟨h3, h⟩
   ·have hq := hret0 _ (hr0 _ (sI h).symm)
    replace hq := sI hq
    subst hq
    exact wr qC 35 [true, true] [pt hx0 hl0, pR pB h2] [] 0 [] hC [pq (A8 hi0 hl0), pq h3]
   ·exact wx w0b (yQ x0 x2 x3 (n0 + 1)) (Aji x1 (n0 + 1)) qC 36 [true, false] [pt hx0 hl0, pR pB h2] [] 0 [0] () hC [pq (A8 hi0 hl0), pq h3] (sI h).symm
 ·have h := hnext0 _ hs0
  replace h := sI h
  subst h
  exact wr qC 23 [] [] [] 0 [] hC []
theorem A3u : EN 195 := en Tryz.func195
theorem A2k (x0 : Aj) (r : Bool) (h : Aba x0 = r) : CO 146 [.agg (d84 x0)] [] (.d (Bo r)) [] := by
 unfold Aba at h
 refine co 7 Tryz.func146 λ C hC => ?_
 subst h
 exact wr n3_ 25 [] [pl pI x0.Am] [] 0 [] hC []
theorem A4f : EN 146 := en Tryz.func146
def We : List Nat := [0, 1, 2, 3, 5, 7, 8, 9, 10, 11]
def S7 (x1 : List Int) (n0 : Nat) (z0 : (List Ag)) : St := [(3, dO 4 0), (5, dO 5 0), (8, .d (DS pI x1)), (9, dI (ln x1)), (10, dI (cnt 0 n0))]
def Zp (x0 : Ab) (x2 : Ag) (n0 : Nat) (z0 : (List Ag)) : List Res := [v2_ x0.Ah, v4_ z0, v0_ x0.As, v3_ x0.Aq, .box 36 [.os 0, .os 1, .os 2, .os 3], .box 120 (T9 x2)]
def Acv  (z0 : (List Ag)) : St := []
def Aed (x0 : Ab) (z0 : (List Ag)) : List Res := [v2_ x0.Ah, v4_ z0, v0_ x0.As, v3_ x0.Aq]
theorem Ag9 (x0 : Ab) (x1 : List Int) (x2 : Ag) (r : (List Ag)) (h : M7 x0 x1 x2 = some r) : CO 117 [.agg [.os 0, .os 1, .os 2, .os 3], .d (DS pI x1), .agg (T9 x2)] (zp x0 []) (.tup []) [v2_ x0.Ah, v4_ r, v0_ x0.As, v3_ x0.Aq] := by
 unfold M7 at h
 refine co 29 Tryz.func117 λ C hC => ?_
 refine ws We 25 [] [pl pI x1] [] 4 n6_ (S7 x1 0 x0.Ac) (Zp x0 x2 0 x0.Ac) hC [] ?_
 obtain ⟨w0, hm0, hret0, hnext0⟩ := Au h
 clear h
 refine wc w0 (Acv) (Aed x0) ?_ λ z0 hs0 => ?_
 ·refine wb ?_
  refine Bn 8 rfl λ hl0 => ?_
  refine A7 (by kernel_rfl) (Oh x2) (S7 x1) (Zp x0 x2) w0 x1 x0.Ac hm0 rfl rfl (λ z0 hn0 => ?_) λ n0 a0 z0 w0b hi0 hx0 h hb0 hr0 => ?_
  ·clear hm0
   exact wx w0 (Acv) (Aed x0) We 26 [false] [] [] 4 n4_ z0 hC [pq (Bb hl0)] hn0
  ·unfold Oh at h
   obtain ⟨y1, h2, h⟩ := Ad h
   obtain ⟨y3, h4, h⟩ := Ad h
   obtain ⟨y5, h6, h⟩ := Ad h
   obtain ⟨y7, h8, h⟩ := Ad h
   exact wx w0b (S7 x1 (n0 + 1)) (Zp x0 x2 (n0 + 1)) We 33 [true] [pt hx0 hl0, pr A_ h2, pu A_ h2 h4, pr A_ h6, pu A_ h6 h8] [] 4 n6_ y7 hC [pq (A8 hi0 hl0)] (sI h).symm
 ·have h := hnext0 _ hs0
  replace h := sI h
  subst h
  exact wf We 20 [] [] [] 4 n4_ hC []
theorem Ah3 : EN 117 := en Tryz.func117
theorem k59 (x0 : Bh) (r : Bool) (h : F59 x0 = r) : CO 59 [.agg (d31 x0)] [] (.d (Bo r)) [] := by
 unfold F59 at h
 refine co 33 Tryz.func59 λ C hC => ?_
 subst h
 exact wr n3_ 25 [] [] [] 0 [] hC []
theorem e59 : EN 59 := en Tryz.func59
def Wd : List Nat := [0, 1, 4, 5, 10, 12, 13, 14, 24]
def zL (x0 : List Bool) (x1 : List Bool) (n0 : Nat) (z0 : Unit) : St := [(0, .d (DS pB x0)), (1, .d (DS pB x1)), (4, dB false), (12, dI (ln x0)), (13, dI (cnt 0 n0))]
def Aj3  (n0 : Nat) (z0 : Unit) : List Res := []
def Amz  (z0 : Unit) : St := [(4, dB false)]
def Aor  (z0 : Unit) : List Res := []
theorem A8i (x0 : List Bool) (x1 : List Bool) (r : Bool) (h : Z9 x0 x1 = some r) : CO 118 [.d (DS pB x0), .d (DS pB x1)] [] (.d (Bo r)) [] := by
 unfold Z9 at h
 refine co 26 Tryz.func118 λ C hC => ?_
 rcases cB h with ⟨h1, h⟩ | ⟨h1, h⟩
 ·replace h := sI h
  subst h
  exact wr Wd 29 [true] [pl pB x0, pl pB x1] [] 0 [] hC [pq h1]
 ·refine ws Wd 31 [false] [pl pB x0, pl pB x1, pl pB x0] [] 0 [] (zL x0 x1 0 ()) (Aj3 0 ()) hC [pq h1] ?_
  obtain ⟨w0, hm0, hret0, hnext0⟩ := Au h
  clear h
  refine wc w0 (Amz) (Aor) ?_ λ z0 hs0 => ?_
  ·refine wb ?_
   refine Bn 0 rfl λ hl0 => ?_
   refine A7 (by kernel_rfl) (Qa x1) (zL x0 x1) (Aj3) w0 x0 () hm0 rfl rfl (λ z0 hn0 => ?_) λ n0 a0 z0 w0b hi0 hx0 h hb0 hr0 => ?_
   ·clear hm0
    exact wx w0 (Amz) (Aor) Wd 26 [false] [] [] 0 [] () hC [pq (Bb hl0)] hn0
   ·unfold Qa at h
    obtain ⟨y2, h3, h⟩ := Ad h
    rcases cB h with ⟨h4, h⟩ | ⟨h4, h⟩
    ·have hq := hret0 _ (hr0 _ (sI h).symm)
     replace hq := sI hq
     subst hq
     exact wr Wd 35 [true, true] [pt hx0 hl0, pr pB h3] [] 0 [] hC [pq (A8 hi0 hl0), pq h4]
    ·exact wx w0b (zL x0 x1 (n0 + 1)) (Aj3 (n0 + 1)) Wd 36 [true, false] [pt hx0 hl0, pr pB h3] [] 0 [] () hC [pq (A8 hi0 hl0), pq h4] (sI h).symm
  ·have h := hnext0 _ hs0
   replace h := sI h
   subst h
   exact wr Wd 23 [] [] [] 0 [] hC []
theorem A9z : EN 118 := en Tryz.func118
def Wc : List Nat := [0, 1, 4, 5, 10, 12, 13, 14, 24]
def zK (x0 : List Ag) (x1 : List Ag) (n0 : Nat) (z0 : Unit) : St := [(0, .d (DS A_ x0)), (1, .d (DS A_ x1)), (4, dB false), (12, dI (ln x0)), (13, dI (cnt 0 n0))]
def Aj2  (n0 : Nat) (z0 : Unit) : List Res := []
def Amy  (z0 : Unit) : St := [(4, dB false)]
def Aoq  (z0 : Unit) : List Res := []
theorem A8h (x0 : List Ag) (x1 : List Ag) (r : Bool) (h : Z8 x0 x1 = some r) : CO 119 [.d (DS A_ x0), .d (DS A_ x1)] [] (.d (Bo r)) [] := by
 unfold Z8 at h
 refine co 26 Tryz.func119 λ C hC => ?_
 rcases cB h with ⟨h1, h⟩ | ⟨h1, h⟩
 ·replace h := sI h
  subst h
  exact wr Wc 29 [true] [pl A_ x0, pl A_ x1] [] 0 [] hC [pq h1]
 ·refine ws Wc 31 [false] [pl A_ x0, pl A_ x1, pl A_ x0] [] 0 [] (zK x0 x1 0 ()) (Aj2 0 ()) hC [pq h1] ?_
  obtain ⟨w0, hm0, hret0, hnext0⟩ := Au h
  clear h
  refine wc w0 (Amy) (Aoq) ?_ λ z0 hs0 => ?_
  ·refine wb ?_
   refine Bn 0 rfl λ hl0 => ?_
   refine A7 (by kernel_rfl) (P_ x1) (zK x0 x1) (Aj2) w0 x0 () hm0 rfl rfl (λ z0 hn0 => ?_) λ n0 a0 z0 w0b hi0 hx0 h hb0 hr0 => ?_
   ·clear hm0
    exact wx w0 (Amy) (Aoq) Wc 26 [false] [] [] 0 [] () hC [pq (Bb hl0)] hn0
   ·unfold P_ at h
    obtain ⟨y2, h3, h⟩ := Ad h
    rcases cB h with ⟨h4, h⟩ | ⟨h4, h⟩
    ·have hq := hret0 _ (hr0 _ (sI h).symm)
     replace hq := sI hq
     subst hq
     exact wr Wc 35 [true, true] [pt hx0 hl0, pr A_ h3] [] 0 [] hC [pq (A8 hi0 hl0), pq h4]
    ·exact wx w0b (zK x0 x1 (n0 + 1)) (Aj2 (n0 + 1)) Wc 36 [true, false] [pt hx0 hl0, pr A_ h3] [] 0 [] () hC [pq (A8 hi0 hl0), pq h4] (sI h).symm
  ·have h := hnext0 _ hs0
   replace h := sI h
   subst h
   exact wr Wc 23 [] [] [] 0 [] hC []
theorem A9y : EN 119 := en Tryz.func119
def Wb : List Nat := [0, 1, 4, 5, 10, 12, 13, 14, 24]
def zJ (x0 : List Int) (x1 : List Int) (n0 : Nat) (z0 : Unit) : St := [(0, .d (DS pI x0)), (1, .d (DS pI x1)), (4, dB false), (12, dI (ln x0)), (13, dI (cnt 0 n0))]
def Aj1  (n0 : Nat) (z0 : Unit) : List Res := []
def Amx  (z0 : Unit) : St := [(4, dB false)]
def Aop  (z0 : Unit) : List Res := []
theorem A8g (x0 : List Int) (x1 : List Int) (r : Bool) (h : Z7 x0 x1 = some r) : CO 120 [.d (DS pI x0), .d (DS pI x1)] [] (.d (Bo r)) [] := by
 unfold Z7 at h
 refine co 26 Tryz.func120 λ C hC => ?_
 rcases cB h with ⟨h1, h⟩ | ⟨h1, h⟩
 ·replace h := sI h
  subst h
  exact wr Wb 29 [true] [pl pI x0, pl pI x1] [] 0 [] hC [pq h1]
 ·refine ws Wb 31 [false] [pl pI x0, pl pI x1, pl pI x0] [] 0 [] (zJ x0 x1 0 ()) (Aj1 0 ()) hC [pq h1] ?_
  obtain ⟨w0, hm0, hret0, hnext0⟩ := Au h
  clear h
  refine wc w0 (Amx) (Aop) ?_ λ z0 hs0 => ?_
  ·refine wb ?_
   refine Bn 0 rfl λ hl0 => ?_
   refine A7 (by kernel_rfl) (P9 x1) (zJ x0 x1) (Aj1) w0 x0 () hm0 rfl rfl (λ z0 hn0 => ?_) λ n0 a0 z0 w0b hi0 hx0 h hb0 hr0 => ?_
   ·clear hm0
    exact wx w0 (Amx) (Aop) Wb 26 [false] [] [] 0 [] () hC [pq (Bb hl0)] hn0
   ·unfold P9 at h
    obtain ⟨y2, h3, h⟩ := Ad h
    rcases cB h with ⟨h4, h⟩ | ⟨h4, h⟩
    ·have hq := hret0 _ (hr0 _ (sI h).symm)
     replace hq := sI hq
     subst hq
     exact wr Wb 35 [true, true] [pt hx0 hl0, pr pI h3] [] 0 [] hC [pq (A8 hi0 hl0), pq h4]
    ·exact wx w0b (zJ x0 x1 (n0 + 1)) (Aj1 (n0 + 1)) Wb 36 [true, false] [pt hx0 hl0, pr pI h3] [] 0 [] () hC [pq (A8 hi0 hl0), pq h4] (sI h).symm
  ·have h := hnext0 _ hs0
   replace h := sI h
   subst h
   exact wr Wb 23 [] [] [] 0 [] hC []
theorem A9x : EN 120 := en Tryz.func120
def Wa : List Nat := [0, 1, 4, 5, 10, 12, 13, 14, 24]
def zI (x0 : List An) (x1 : List An) (n0 : Nat) (z0 : Unit) : St := [(0, .d (DS q86 x0)), (1, .d (DS q86 x1)), (4, dB false), (12, dI (ln x0)), (13, dI (cnt 0 n0))]
def Aj0  (n0 : Nat) (z0 : Unit) : List Res := []
def Amw  (z0 : Unit) : St := [(4, dB false)]
def Aoo  (z0 : Unit) : List Res := []
theorem A8f (x0 : List An) (x1 : List An) (r : Bool) (h : Z6 x0 x1 = some r) : CO 121 [.d (DS q86 x0), .d (DS q86 x1)] [] (.d (Bo r)) [] := by
 unfold Z6 at h
 refine co 26 Tryz.func121 λ C hC => ?_
 rcases cB h with ⟨h1, h⟩ | ⟨h1, h⟩
 ·replace h := sI h
  subst h
  exact wr Wa 29 [true] [pl q86 x0, pl q86 x1] [] 0 [] hC [pq h1]
 ·refine ws Wa 31 [false] [pl q86 x0, pl q86 x1, pl q86 x0] [] 0 [] (zI x0 x1 0 ()) (Aj0 0 ()) hC [pq h1] ?_
  obtain ⟨w0, hm0, hret0, hnext0⟩ := Au h
  clear h
  refine wc w0 (Amw) (Aoo) ?_ λ z0 hs0 => ?_
  ·refine wb ?_
   refine Bn 0 rfl λ hl0 => ?_
   refine A7 (by kernel_rfl) (P8 x1) (zI x0 x1) (Aj0) w0 x0 () hm0 rfl rfl (λ z0 hn0 => ?_) λ n0 a0 z0 w0b hi0 hx0 h hb0 hr0 => ?_
   ·clear hm0
    exact wx w0 (Amw) (Aoo) Wa 26 [false] [] [] 0 [] () hC [pq (Bb hl0)] hn0
   ·unfold P8 at h
    obtain ⟨y2, h3, h⟩ := Ad h
    rcases cB h with ⟨h4, h⟩ | ⟨h4, h⟩
    ·have hq := hret0 _ (hr0 _ (sI h).symm)
     replace hq := sI hq
     subst hq
     exact wr Wa 35 [true, true] [pt hx0 hl0, pr q86 h3] [] 0 [] hC [pq (A8 hi0 hl0), pq h4]
    ·exact wx w0b (zI x0 x1 (n0 + 1)) (Aj0 (n0 + 1)) Wa 36 [true, false] [pt hx0 hl0, pr q86 h3] [] 0 [] () hC [pq (A8 hi0 hl0), pq h4] (sI h).symm
  ·have h := hnext0 _ hs0
   replace h := sI h
   subst h
   exact wr Wa 23 [] [] [] 0 [] hC []
theorem A9w : EN 121 := en Tryz.func121
theorem Ayz (x0 : Int) (x1 : A0) (r : Bool) (h : Ry x0 x1 = r) : CO 58 [.d (I x0), .d (.ip [.v (.int .i64 x1.Time), .s (x1.Power.Ah.map pB), .s (x1.Power.Ac.map A_), .s (x1.Power.As.map pI), .s (x1.Power.Aq.map q86), .s (x1.A5.map B1), .s (x1.A4.map q51)])] [] (.d (Bo r)) [] := by
 unfold Ry at h
 refine co 12 Tryz.func58 λ C hC => ?_
 subst h
 exact wr [0, 1, 3] 25 [] [] [] 0 [] hC []
theorem Ay4 : EN 58 := en Tryz.func58
theorem A8e (x0 : List Az) (r : List Az) (h : Aru x0 = some r) : CO 123 [.d (.p (.s (x0.map B1)))] [] (.d (.os 0)) [v5_ r] := by
 unfold Aru at h
 refine co 8 Tryz.func123 λ C hC => ?_
 refine ws [0, 4] 40 [] [] [] 0 [] [(0, .d (.p (.s (x0.map B1)))), (4, .d (.nq (x0.map B1)))] [] hC [] ?_
 refine Wp 4 (by kernel_rfl) (by kernel_rfl) rfl (λ hn => ?_) ?_
 ·have hx : x0 = [] := by cases x0 with | nil => rfl | cons => cases hn
  subst hx
  have hr : r = [] := by simpa [appI] using h.symm
  subst hr
  exact wr [2] 40 [] [] [.own 2 130 2] 0 [0] hC []
 ·exact wr [2] 40 [] [⟨.own, trivial⟩, ⟨.app [] (x0.map B1) 2 ((([] : List (List Pd)).length + (x0.map B1).length) * (16 + 1)) (r.map B1), H6 (l := []) B1 2 (λ _ => rfl) h⟩] [] 0 [1] hC []
theorem A9v : EN 123 := en Tryz.func123
theorem k84 (x0 : List A9) (r : List A9) (h : F84 x0 = some r) : CO 84 [.d (.p (.s (x0.map q51)))] [] (.d (.os 0)) [v1_ r] := by
 unfold F84 at h
 refine co 8 Tryz.func84 λ C hC => ?_
 refine ws [0, 4] 40 [] [] [] 0 [] [(0, .d (.p (.s (x0.map q51)))), (4, .d (.nq (x0.map q51)))] [] hC [] ?_
 refine Wp 4 (by kernel_rfl) (by kernel_rfl) rfl (λ hn => ?_) ?_
 ·have hx : x0 = [] := by cases x0 with | nil => rfl | cons => cases hn
  subst hx
  have hr : r = [] := by simpa [appI] using h.symm
  subst hr
  exact wr [2] 40 [] [] [.own 2 51 5] 0 [0] hC []
 ·exact wr [2] 40 [] [⟨.own, trivial⟩, ⟨.app [] (x0.map q51) 5 ((([] : List (List Pd)).length + (x0.map q51).length) * (40 + 1)) (r.map q51), H6 (l := []) q51 5 (λ _ => rfl) h⟩] [] 0 [1] hC []
theorem e84 : EN 84 := en Tryz.func84
def qD : List Nat := [0, 1, 2, 3, 6, 7, 8, 9, 14, 19, 23]
theorem Ym (x0 : Aa) (x1 : Int) (x2 : Int) (r : Bool) (h : J2 x0 x1 x2 = r) : CO 181 [.agg (d29 x0), .d (I x1), .d (I x2)] [] (.d (Bo r)) [] := by
 unfold J2 at h
 refine co 35 Tryz.func181 λ C hC => ?_
 rcases cB h with ⟨h1, h⟩ | ⟨h1, h⟩
 ·subst h
  exact wr qD 36 [true] [pl Bt x0.Ac] [] 0 [] hC [pq h1]
 ·rcases cB h with ⟨h2, h⟩ | ⟨h2, h⟩
  ·subst h
   exact wr qD 39 [false, true] [pl Bi x0.Af] [] 0 [] hC [pq h1, pq h2]
  ·rcases cB h with ⟨h3, h⟩ | ⟨h3, h⟩
   ·subst h
    exact wr qD 42 [false, false, true] [] [] 0 [] hC [pq h1, pq h2, pq h3]
   ·rcases cB h with ⟨h4, h⟩ | ⟨h4, h⟩
    ·subst h
     exact wr qD 45 [false, false, false, true] [pl q65 x0.Ae] [] 0 [] hC [pq h1, pq h2, pq h3, pq h4]
    ·subst h
     exact wr qD 45 [false, false, false, false] [] [] 0 [] hC [pq h1, pq h2, pq h3, pq h4]
theorem Ys : EN 181 := en Tryz.func181
def qB : List Nat := [0, 1, 3, 4, 5, 7, 8, 9, 16]
def yP (x0 : List An) (n0 : Nat) (z0 : Unit) : St := [(0, .d (DS q86 x0)), (3, dO 0 0), (4, dI 0), (7, dI (ln x0)), (8, dI (cnt 0 n0))]
def Ajh (x1 : An) (n0 : Nat) (z0 : Unit) : List Res := [.box 86 (d86 x1)]
def Al9  (z0 : Unit) : St := [(4, dI 0)]
def An1  (z0 : Unit) : List Res := []
theorem A7m (x0 : List An) (x1 : An) (r : Int) (h : Arm x0 x1 = some r) : CO 200 [.d (DS q86 x0), .agg (d86 x1)] [] (.d (I r)) [] := by
 unfold Arm at h
 refine co 19 Tryz.func200 λ C hC => ?_
 refine ws qB 26 [] [pl q86 x0] [] 0 [0] (yP x0 0 ()) (Ajh x1 0 ()) hC [] ?_
 obtain ⟨w0, hm0, hret0, hnext0⟩ := Au h
 clear h
 refine wc w0 (Al9) (An1) ?_ λ z0 hs0 => ?_
 ·refine wb ?_
  refine Bn 0 rfl λ hl0 => ?_
  refine A7 (by kernel_rfl) (Aa7 x1) (yP x0) (Ajh x1) w0 x0 () hm0 rfl rfl (λ z0 hn0 => ?_) λ n0 a0 z0 w0b hi0 hx0 h hb0 hr0 => ?_
  ·clear hm0
   exact wx w0 (Al9) (An1) qB 26 [false] [] [] 0 [] () hC [pq (Bb hl0)] hn0
  ·unfold Aa7 at h
   rcases cB h with ⟨h1, h⟩ | ⟨h1, h⟩
   ·have hq := hret0 _ (hr0 _ (sI h).symm)
    replace hq := sI hq
    subst hq
    exact wr qB 35 [true, true] [pt hx0 hl0] [] 0 [] hC [pq (A8 hi0 hl0), pq h1]
   ·exact wx w0b (yP x0 (n0 + 1)) (Ajh x1 (n0 + 1)) qB 36 [true, false] [pt hx0 hl0] [] 0 [0] () hC [pq (A8 hi0 hl0), pq h1] (sI h).symm
 ·have h := hnext0 _ hs0
  replace h := sI h
  subst h
  exact wr qB 23 [] [] [] 0 [] hC []
theorem A83 : EN 200 := en Tryz.func200
theorem Ag6 (x0 : Int) (r : Int) (h : Fq x0 = r) : CO 229 [.d (I x0)] [] (.d (I r)) [] := by
 unfold Fq at h
 refine co 10 Tryz.func229 λ C hC => ?_
 rcases cB h with ⟨h1, h⟩ | ⟨h1, h⟩
 ·subst h
  exact wr [0, 2, 6] 32 [true] [⟨.nz 3600, O7 rfl⟩] [] 0 [] hC [pq h1]
 ·subst h
  exact wr [0, 2, 6] 32 [false] [⟨.nz 3600, O7 rfl⟩] [] 0 [] hC [pq h1]
theorem Ah0 : EN 229 := en Tryz.func229
theorem A1a (x0 : Ak) (x1 : Int) (r : Bool) (h : Uv x0 x1 = r) : CO 244 [.agg (F7 x0), .d (.ip [.v (.int .i64 x1)])] [] (.d (Bo r)) [] := by
 unfold Uv at h
 refine co 13 Tryz.func244 λ C hC => ?_
 subst h
 exact wr n4_ 25 [] [] [] 0 [] hC []
theorem A25 : EN 244 := en Tryz.func244
theorem A14 (x0 : A2) (x1 : Int) (x2 : Int) (r : Int × A2) (h : M4 x0 x1 x2 = some r) : CO 187 [.d (.o 0 0), .d (I x1), .d (I x2)] (.box 186 (zb x0.Al [.os 1, .os 2, .os 3, .os 4, I x0.time]) :: zp x0.Ar []) (.d (I r.1)) (.box 186 (zb r.2.Al [.os 1, .os 2, .os 3, .os 4, I r.2.time]) :: zp r.2.Ar []) := by
 unfold M4 at h
 refine co 30 Tryz.func187 λ C hC => ?_
 obtain ⟨y1, h2, h⟩ := Ad h
 rcases cB h with ⟨h3, h⟩ | ⟨h3, h⟩
 ·replace h := sI h
  subst h
  exact wr [0, 1, 2, 6, 21] 29 [true] [pR q65 h2] [] 5 n5_ hC [pq h3]
 ·obtain ⟨y4, h5, h⟩ := Ad h
  obtain ⟨y6, h7, h⟩ := Ad h
  replace h := sI h
  subst h
  exact wr [0, 1, 2, 6, 21] 32 [false] [pR q65 h2, pr pI h5, pu pI h5 h7] [] 5 n5_ hC [pq h3]
theorem A3z : EN 187 := en Tryz.func187
theorem A1j (x0 : An) (x1 : An) (r : Int) (h : Ox x0 x1 = r) : CO 224 [.agg (d86 x0), .agg (d86 x1)] [] (.d (I r)) [] := by
 unfold Ox at h
 refine co 20 Tryz.func224 λ C hC => ?_
 rcases cB h with ⟨h1, h⟩ | ⟨h1, h⟩
 ·subst h
  exact wr [0, 1, 2, 3, 4, 9] 29 [true] [] [] 0 [] hC [pq h1]
 ·subst h
  exact wr [0, 1, 2, 3, 4, 9] 30 [false] [] [] 0 [] hC [pq h1]
theorem A3e : EN 224 := en Tryz.func224
def Aac : List Nat := [0, 1, 2, 6, 7, 8, 9, 16, 22, 31, 68]
theorem A1i (x0 : List An) (x1 : Int) (x2 : List An) (r : (List An)) (h : Pv x0 x1 x2 = some r) : CO 225 [.d (.os 0), .d (I x1), .d (DS q86 x2)] [v3_ x0] (.d (.os 1)) [.non, v3_ r] := by
 by_cases hh : ((ln x2) == 0) = false /\ (x1 == (ln x0)) = false
 ·unfold Pv at h
  exact Az5 (enc := q86) (λ _ => rfl) hh.1 hh.2 h
 unfold Pv at h
 refine co 95 Tryz.func225 λ C hC => ?_
 obtain ⟨u2, h1, h⟩ := Ad h
 rcases cB h with ⟨h3, h⟩ | ⟨h3, h⟩
 ·replace h := sI h
  subst h
  exact wr Aac 33 [true] [⟨.bnd (x0.map q86).length x1 (((x0.map q86).length : Nat) : Int) (ln x0), Ef (by simp) (by simp) h1⟩, pl q86 x2] [.mv 0] 1 [0, 1] hC [pq h3]
 ·refine ws Aac 37 [false] [⟨.bnd (x0.map q86).length x1 (((x0.map q86).length : Nat) : Int) (ln x0), Ef (by simp) (by simp) h1⟩, pl q86 x2, pl q86 x0] [] 1 [0] [(0, dS 0), (1, dI x1), (2, .d (DS q86 x2)), (6, .d (DS q86 [])), (7, dI (ln x2)), (8, dI (ln x0)), (22, dB (x1 == (ln x0)))] [v3_ x0] hC [pq h3] ?_
  rcases cB h with ⟨h4, h⟩ | ⟨h4, h⟩
  ·obtain ⟨y5, h6, h⟩ := Ad h
   replace h := sI h
   subst h
   exact wr Aac 24 [true] [pa q86 2 h6] [] 1 [0, 1] hC [pq h4]
  ·exact absurd ⟨h3, h4⟩ hh
theorem A3d : EN 225 := en Tryz.func225
theorem A1h (x0 : List An) (x1 : Int) (x2 : Int) (r : (List An)) (h : Uy x0 x1 x2 = some r) : CO 226 [.d (.os 0), .d (I x1), .d (I x2)] [.sl 86 2 (x0.map q86)] (.d (.os 1)) [.non, .sl 86 2 (r.map q86)] := by
 unfold Uy at h
 refine co 33 Tryz.func226 λ C hC => ?_
 obtain ⟨u2, h1, h⟩ := Ad h
 rcases cB h with ⟨h3, h⟩ | ⟨h3, h⟩
 ·replace h := sI h
  subst h
  exact wr [0, 1, 2, 6, 7, 16] 31 [true] [pl q86 x0, ⟨.bnd3 (x0.map q86).length x1 x2 (ln x0), Aix (by simp) h1⟩] [.mv 0] 1 [0, 1] hC [pq h3]
 ·obtain ⟨u5, h4, h⟩ := Ad h
  obtain ⟨u7, h6, h⟩ := Ad h
  obtain ⟨y8, h9, h⟩ := Ad h
  obtain ⟨u11, h10, h⟩ := Ad h
  replace h := sI h
  subst h
  (rw [List.map_take]; exact uR (bs := [((x1 == x2), false)]) Ib [0, 1, 2, 6, 7, 16] 38 [false] [.len (ln (x0.map q86)) (ln x0), .bnd3 (x0.map q86).length x1 x2 (ln x0), .len (ln (x0.map q86)) (ln x0), .bnd (x0.map q86).length 0 x1 x1, .bnd (x0.map q86).length x2 (((x0.map q86).length : Nat) : Int) (ln x0), .appP (x0.map q86) (((x0.map q86).drop (Int.toNat x2)).take ((Int.toNat (ln x0)) - (Int.toNat x2))) 2 ((Int.toNat x1) - 0) (((Int.toNat x1) - 0) + ((x0.drop (Int.toNat x2)).take ((Int.toNat (ln x0)) - (Int.toNat x2))).length) ((x0.map q86).take ((Int.toNat x1) - 0) ++ ((((x0.map q86).drop (Int.toNat x2)).take ((Int.toNat (ln x0)) - (Int.toNat x2))) ++ (x0.map q86).drop (((Int.toNat x1) - 0) + (((x0.map q86).drop (Int.toNat x2)).take ((Int.toNat (ln x0)) - (Int.toNat x2))).length))) (y8.map q86), .len (((((Int.toNat x1) - 0) + ((x0.drop (Int.toNat x2)).take ((Int.toNat (ln x0)) - (Int.toNat x2))).length) : Nat) : Int) (((((Int.toNat x1) - 0) + ((x0.drop (Int.toNat x2)).take ((Int.toNat (ln x0)) - (Int.toNat x2))).length) : Nat) : Int), .bnd ((y8.map q86).length - 0) (((((Int.toNat x1) - 0) + ((x0.drop (Int.toNat x2)).take ((Int.toNat (ln x0)) - (Int.toNat x2))).length) : Nat) : Int) (ln x0) (ln x0), .eqr ((y8.map q86).take (0 + (Int.toNat (((((Int.toNat x1) - 0) + ((x0.drop (Int.toNat x2)).take ((Int.toNat (ln x0)) - (Int.toNat x2))).length) : Nat) : Int))) ++ (List.replicate ((Int.toNat (ln x0)) - (Int.toNat (((((Int.toNat x1) - 0) + ((x0.drop (Int.toNat x2)).take ((Int.toNat (ln x0)) - (Int.toNat x2))).length) : Nat) : Int))) (q86 (⟨0, 0⟩ : An)) ++ (y8.map q86).drop ((0 + (Int.toNat (((((Int.toNat x1) - 0) + ((x0.drop (Int.toNat x2)).take ((Int.toNat (ln x0)) - (Int.toNat x2))).length) : Nat) : Int))) + ((Int.toNat (ln x0)) - (Int.toNat (((((Int.toNat x1) - 0) + ((x0.drop (Int.toNat x2)).take ((Int.toNat (ln x0)) - (Int.toNat x2))).length) : Nat) : Int)))))) ((Gj y8 (0 + (Int.toNat (((((Int.toNat x1) - 0) + ((x0.drop (Int.toNat x2)).take ((Int.toNat (ln x0)) - (Int.toNat x2))).length) : Nat) : Int))) ((Int.toNat (ln x0)) - (Int.toNat (((((Int.toNat x1) - 0) + ((x0.drop (Int.toNat x2)).take ((Int.toNat (ln x0)) - (Int.toNat x2))).length) : Nat) : Int))) (⟨0, 0⟩ : An)).map q86)] [.trunc 6] [.tmp 6] 1 [0, 1] rfl hC ⟨Wg _ _, Aix (by simp) h1, Wg _ _, Ef (by simp) rfl h4, Ef (by simp) (by simp) h6, Ax5 q86 2 (λ _ => rfl) (Ye _ _ _ _) h9, rfl, Ef (by simp) rfl h10, Aau q86 rfl, trivial⟩ ⟨h3, trivial⟩ (by kernel_rfl))
theorem A3c : EN 226 := en Tryz.func226
theorem Atp (x0 : A6) (x1 : Ao) (x2 : Int) (r : A6) (h : P7 x0 x1 x2 = some r) : CO 124 [.d (.o 0 0), .agg (d49 x1), .d (I x2)] (.box 100 (I x0.Av.Time :: .os 1 :: .os 2 :: .os 3 :: .os 4 :: .os 5 :: .os 6 :: zb x0.Al [.os 7, .os 8]) :: zp x0.Av.Power [v5_ x0.Av.A5, v1_ x0.Av.A4, v1_ x0.events, v7_ x0.states]) (.tup []) (.box 100 (I r.Av.Time :: .os 1 :: .os 2 :: .os 3 :: .os 4 :: .os 5 :: .os 6 :: zb r.Al [.os 9, .os 8]) :: zp r.Av.Power [v5_ r.Av.A5, v1_ r.Av.A4, .non, v7_ r.states, v1_ r.events]) := by
 unfold P7 at h
 refine co 23 Tryz.func124 λ C hC => ?_
 obtain ⟨y1, h2, h⟩ := Ad h
 replace h := sI h
 subst h
 exact wf [0, 1, 2, 4] 23 [] [pa q51 5 h2] [] 9 [0, 1, 2, 3, 4, 5, 6, 7, 8, 10] hC []
theorem Aui : EN 124 := en Tryz.func124
theorem Ag5 (x0 : Ay) (x1 : Int) (r : Ay) (h : M1 x0 x1 = some r) : CO 230 [.d (.o 0 0), .d (I x1)] (.box 235 (zb x0.Al [.os 1, .os 2, .os 3, .os 4, .os 5]) :: zp x0.Ar [v6_ x0.acts]) (.tup []) (.box 235 (zb r.Al [.os 1, .os 2, .os 3, .os 4, .os 6]) :: zp r.Ar [.non, v6_ r.acts]) := by
 unfold M1 at h
 refine co 22 Tryz.func230 λ C hC => ?_
 obtain ⟨y1, h2, h⟩ := Ad h
 obtain ⟨y3, h4, h⟩ := Ad h
 obtain ⟨y5, h6, h⟩ := Ad h
 replace h := sI h
 subst h
 exact wf [0, 1] 23 [] [pr pB h2, pu pB h2 h4, pa q49 3 h6] [] 6 n7_ hC []
theorem Ahz : EN 230 := en Tryz.func230
theorem A1d (x0 : Ak) (x1 : Int) (r : Bool) (h : Pt x0 x1 = r) : CO 235 [.agg (F7 x0), .d (.ip [.v (.int .i64 x1)])] [] (.d (Bo r)) [] := by
 unfold Pt at h
 refine co 13 Tryz.func235 λ C hC => ?_
 subst h
 exact wr n4_ 25 [] [] [] 0 [] hC []
theorem A28 : EN 235 := en Tryz.func235
theorem A7o (x0 : Int) (x1 : Int) (r : Int × Int) (h : Aro x0 x1 = r) : CO 194 [.d (.p (.v (.int .u64 x0))), .d (.p (.v (.int .u64 x1)))] [] (.tup [.d (.p (.v (.int .u64 r.1))), .d (.p (.v (.int .u64 r.2)))]) [] := by
 unfold Aro at h
 refine co 51 Tryz.func194 λ C hC => ?_
 subst h
 exact wr [0, 1, 4, 5, 6, 7, 8, 9, 10, 11, 12, 13] 45 [] [] [] 0 [] hC []
theorem A85 : EN 194 := en Tryz.func194
theorem Atm (x0 : Int) (x1 : Int) (r : Bool) (h : Kz x0 x1 = r) : CO 174 [.d (I x0), .d (.ip [.v (.int .i64 x1)])] [] (.d (Bo r)) [] := by
 unfold Kz at h
 refine co 11 Tryz.func174 λ C hC => ?_
 subst h
 exact wr [0, 1, 3] 25 [] [] [] 0 [] hC []
theorem Auf : EN 174 := en Tryz.func174
theorem A7i (x0 : List Int) : CO 212 [.d (.p (.s (x0.map pI)))] [] (.d (.fn (.func 236) [] [.o 0 0])) [.box 22 [.p (.s (x0.map pI))]] := by
 refine co 4 Tryz.func212 λ C hC => ?_
 exact wr [1, 2] 40 [] [] [] 0 [0] hC []
theorem A8z : EN 212 := en Tryz.func212
theorem A1k (x0 : Ak) (x1 : Int) (r : Bool) (h : U0 x0 x1 = r) : CO 219 [.agg (F7 x0), .d (.ip [.v (.int .i64 x1)])] [] (.d (Bo r)) [] := by
 unfold U0 at h
 refine co 13 Tryz.func219 λ C hC => ?_
 subst h
 exact wr n4_ 25 [] [] [] 0 [] hC []
theorem A3f : EN 219 := en Tryz.func219
theorem A18 (x0 : Int) (x1 : Bool) (x2 : Int) (r : Int) (h : Gc x0 x1 x2 = r) : CO 176 [.d (I x0), .d (Bo x1), .d (I x2)] [] (.d (I r)) [] := by
 unfold Gc at h
 refine co 15 Tryz.func176 λ C hC => ?_
 rcases cB h with ⟨h1, h⟩ | ⟨h1, h⟩
 ·subst h
  exact wr [0, 1, 2, 6, 7, 10] 30 [true] [] [] 0 [] hC [pq h1]
 ·rcases cB h with ⟨h2, h⟩ | ⟨h2, h⟩
  ·subst h
   exact wr [0, 1, 2, 6, 7, 10] 33 [false, true] [] [] 0 [] hC [pq h1, pq h2]
  ·subst h
   exact wr [0, 1, 2, 6, 7, 10] 35 [false, false] [] [] 0 [] hC [pq h1, pq h2]
theorem A33 : EN 176 := en Tryz.func176
def Aaf : List Nat := [0, 1, 4, 5, 10, 12, 13, 14, 24]
def Afz (x0 : List A9) (x1 : List A9) (n0 : Nat) (z0 : Unit) : St := [(0, .d (DS q51 x0)), (1, .d (DS q51 x1)), (4, dB false), (12, dI (ln x0)), (13, dI (cnt 0 n0))]
def Are  (n0 : Nat) (z0 : Unit) : List Res := []
def As6  (z0 : Unit) : St := [(4, dB false)]
def Avz  (z0 : Unit) : List Res := []
theorem k12 (x0 : List A9) (x1 : List A9) (r : Bool) (h : F12 x0 x1 = some r) : CO 12 [.d (DS q51 x0), .d (DS q51 x1)] [] (.d (Bo r)) [] := by
 unfold F12 at h
 refine co 26 Tryz.func12 λ C hC => ?_
 rcases cB h with ⟨h1, h⟩ | ⟨h1, h⟩
 ·replace h := sI h
  subst h
  exact wr Aaf 29 [true] [pl q51 x0, pl q51 x1] [] 0 [] hC [pq h1]
 ·refine ws Aaf 31 [false] [pl q51 x0, pl q51 x1, pl q51 x0] [] 0 [] (Afz x0 x1 0 ()) (Are 0 ()) hC [pq h1] ?_
  obtain ⟨w0, hm0, hret0, hnext0⟩ := Au h
  clear h
  refine wc w0 (As6) (Avz) ?_ λ z0 hs0 => ?_
  ·refine wb ?_
   refine Bn 0 rfl λ hl0 => ?_
   refine A7 (by kernel_rfl) (yE x1) (Afz x0 x1) (Are) w0 x0 () hm0 rfl rfl (λ z0 hn0 => ?_) λ n0 a0 z0 w0b hi0 hx0 h hb0 hr0 => ?_
   ·clear hm0
    exact wx w0 (As6) (Avz) Aaf 26 [false] [] [] 0 [] () hC [pq (Bb hl0)] hn0
   ·unfold yE at h
    obtain ⟨y2, h3, h⟩ := Ad h
    rcases cB h with ⟨h4, h⟩ | ⟨h4, h⟩
    ·have hq := hret0 _ (hr0 _ (sI h).symm)
     replace hq := sI hq
     subst hq
     exact wr Aaf 35 [true, true] [pt hx0 hl0, pr q51 h3] [] 0 [] hC [pq (A8 hi0 hl0), pq h4]
    ·exact wx w0b (Afz x0 x1 (n0 + 1)) (Are (n0 + 1)) Aaf 36 [true, false] [pt hx0 hl0, pr q51 h3] [] 0 [] () hC [pq (A8 hi0 hl0), pq h4] (sI h).symm
  ·have h := hnext0 _ hs0
   replace h := sI h
   subst h
   exact wr Aaf 23 [] [] [] 0 [] hC []
theorem e12 : EN 12 := en Tryz.func12
theorem k35  (r : Aa × Bh) (h : F35  = r) : CO 35 [] [] (.tup [.agg (d29 r.1), .agg (d31 r.2)]) [] := by
 unfold F35 at h
 refine co 13 Tryz.func35 λ C hC => ?_
 subst h
 exact wr [0, 1] 25 [] [] [] 0 [] hC []
theorem e35 : EN 35 := en Tryz.func35
theorem Ag8 (x0 : Int) (x1 : Int) (x2 : Int) (r : Bool) (h : Dm x0 x1 x2 = r) : CO 148 [.d (I x0), .d (I x1), .d (I x2)] [] (.d (Bo r)) [] := by
 unfold Dm at h
 refine co 15 Tryz.func148 λ C hC => ?_
 subst h
 exact wr [0, 1, 2, 6] 25 [] [] [] 0 [] hC []
theorem Ah2 : EN 148 := en Tryz.func148
theorem A1x (x0 : Int) (r : Bool) (h : Vb x0 = r) : CO 197 [.d (I x0)] [] (.d (Bo r)) [] := by
 unfold Vb at h
 refine co 9 Tryz.func197 λ C hC => ?_
 subst h
 exact wr [0, 2] 25 [] [] [] 0 [] hC []
theorem A3s : EN 197 := en Tryz.func197
theorem A5x (x0 : A1) (x1 : Int) (r : Bool) (h : Afc x0 x1 = r) : CO 45 [.agg (d65 x0), .d (.ip [.v (.int .i64 x1)])] [] (.d (Bo r)) [] := by
 unfold Afc at h
 refine co 8 Tryz.func45 λ C hC => ?_
 subst h
 exact wr n4_ 25 [] [] [] 0 [] hC []
theorem A6i : EN 45 := en Tryz.func45
theorem e46 : EN 46 := en Tryz.func46
theorem A72 (x0 : Fk) (r : Bool) (h : Aku x0 = r) : CO 159 [.agg (d70 x0)] [] (.d (Bo r)) [] := by
 unfold Aku at h
 refine co 17 Tryz.func159 λ C hC => ?_
 subst h
 exact wr n3_ 25 [] [] [] 0 [] hC []
theorem A9j : EN 159 := en Tryz.func159
theorem A7k (x0 : Int) (x1 : Int) (r : Int) (h : Ayf x0 x1 = some r) : CO 203 [.d (I x0), .d (I x1)] [] (.d (I r)) [] := by
 unfold Ayf at h
 refine co 16 Tryz.func203 λ C hC => ?_
 obtain ⟨u2, h1, h⟩ := Ad h
 obtain ⟨u4, h3, h⟩ := Ad h
 rcases cB h with ⟨h5, h⟩ | ⟨h5, h⟩
 ·cases h
 ·replace h := sI h
  subst h
  exact wr [0, 1, 4, 5, 12] 32 [false] [⟨.nz x1, O8 h1⟩, ⟨.nz x1, O8 h3⟩] [] 0 [] hC [pq h5]
theorem A81 : EN 203 := en Tryz.func203
def qH : List Nat := [0, 2, 3, 4, 5, 6, 12, 15, 25]
def Vx (x0 : Int) (z0 : Int × Int) : St := [(0, dI x0), (2, dI 0), (3, dI 0), (4, dI z0.1), (5, dI z0.2)]
def uX  (z0 : Int × Int) : List Res := []
def Am3  (z0 : Int × Int) : St := [(2, dI 0), (3, dI 0), (4, dI z0.1)]
def Aov  (z0 : Int × Int) : List Res := []
theorem A8l (x0 : Int) (r : Int × Int) (h : Aym x0 = some r) : CO 107 [.d (I x0)] [] (.tup [.d (I r.1), .d (I r.2)]) [] := by
 unfold Aym at h
 refine co 30 Tryz.func107 λ C hC => ?_
 rcases cB h with ⟨h1, h⟩ | ⟨h1, h⟩
 ·cases h
 ·refine ws qH 31 [false] [] [] 0 [] (Vx x0 (0, 1000000000)) (uX (0, 1000000000)) hC [pq h1] ?_
  obtain ⟨w0, hm0, hret0, hnext0⟩ := Au h
  clear h
  refine wc w0 (Am3) (Aov) ?_ λ z0 hs0 => ?_
  ·refine wb ?_
   refine B2 (by kernel_rfl) (Abi x0) (Vx x0) (uX) w0 1152921504606846976 (0, 1000000000) hm0 rfl rfl λ z0 w0b h hb0 hr0 => ?_
   unfold Abi at h
   rcases cB h with ⟨h2, h⟩ | ⟨h2, h⟩
   ·rcases cB h with ⟨h3, h⟩ | ⟨h3, h⟩
    ·exact wx w0b (Vx x0) (uX) qH 34 [true, true] [⟨.nz 2, O7 rfl⟩] [] 0 [] (w64 (Int.tdiv (w64 ((w64 (z0.1 + z0.2)) + 1)) 2), z0.2) hC [pq h2, pq h3] (sI h).symm
    ·exact wx w0b (Vx x0) (uX) qH 34 [true, false] [⟨.nz 2, O7 rfl⟩] [] 0 [] (z0.1, w64 ((w64 (Int.tdiv (w64 ((w64 (z0.1 + z0.2)) + 1)) 2)) - 1)) hC [pq h2, pq h3] (sI h).symm
   ·exact wx w0 (Am3) (Aov) qH 26 [false] [] [] 0 [] (z0.1, z0.2) hC [pq h2] (hb0 _ (sI h).symm)
  ·have h := hnext0 _ hs0
   replace h := sI h
   subst h
   exact wr qH 23 [] [] [] 0 [] hC []
theorem A92 : EN 107 := en Tryz.func107
def Apj : List Nat := [0, 1, 4, 5, 10, 12, 13, 14, 24]
def Afu (x0 : List Bool) (x1 : List Bool) (n0 : Nat) (z0 : Unit) : St := [(0, .d (DS pB x0)), (1, .d (DS pB x1)), (4, dB false), (12, dI (ln x0)), (13, dI (cnt 0 n0))]
def Aq9  (n0 : Nat) (z0 : Unit) : List Res := []
def Asy  (z0 : Unit) : St := [(4, dB false)]
def Avr  (z0 : Unit) : List Res := []
theorem k37 (x0 : List Bool) (x1 : List Bool) (r : Bool) (h : F37 x0 x1 = some r) : CO 37 [.d (DS pB x0), .d (DS pB x1)] [] (.d (Bo r)) [] := by
 unfold F37 at h
 refine co 26 Tryz.func37 λ C hC => ?_
 rcases cB h with ⟨h1, h⟩ | ⟨h1, h⟩
 ·cases h
 ·refine ws Apj 31 [false] [pl pB x0, pl pB x1, pl pB x0] [] 0 [] (Afu x0 x1 0 ()) (Aq9 0 ()) hC [pq h1] ?_
  obtain ⟨w0, hm0, hret0, hnext0⟩ := Au h
  clear h
  refine wc w0 (Asy) (Avr) ?_ λ z0 hs0 => ?_
  ·refine wb ?_
   refine Bn 0 rfl λ hl0 => ?_
   refine A7 (by kernel_rfl) (Aj9 x1) (Afu x0 x1) (Aq9) w0 x0 () hm0 rfl rfl (λ z0 hn0 => ?_) λ n0 a0 z0 w0b hi0 hx0 h hb0 hr0 => ?_
   ·clear hm0
    exact wx w0 (Asy) (Avr) Apj 26 [false] [] [] 0 [] () hC [pq (Bb hl0)] hn0
   ·unfold Aj9 at h
    obtain ⟨y2, h3, h⟩ := Ad h
    rcases cB h with ⟨h4, h⟩ | ⟨h4, h⟩
    ·cases h
    ·exact wx w0b (Afu x0 x1 (n0 + 1)) (Aq9 (n0 + 1)) Apj 36 [true, false] [pt hx0 hl0, pr pB h3] [] 0 [] () hC [pq (A8 hi0 hl0), pq h4] (sI h).symm
  ·have h := hnext0 _ hs0
   replace h := sI h
   subst h
   exact wr Apj 23 [] [] [] 0 [] hC []
theorem e37 : EN 37 := en Tryz.func37
def Api : List Nat := [0, 1, 4, 5, 10, 12, 13, 14, 24]
def Aft (x0 : List Int) (x1 : List Int) (n0 : Nat) (z0 : Unit) : St := [(0, .d (DS pI x0)), (1, .d (DS pI x1)), (4, dB false), (12, dI (ln x0)), (13, dI (cnt 0 n0))]
def Aq8  (n0 : Nat) (z0 : Unit) : List Res := []
def Asx  (z0 : Unit) : St := [(4, dB false)]
def Avq  (z0 : Unit) : List Res := []
theorem k38 (x0 : List Int) (x1 : List Int) (r : Bool) (h : F38 x0 x1 = some r) : CO 38 [.d (DS pI x0), .d (DS pI x1)] [] (.d (Bo r)) [] := by
 unfold F38 at h
 refine co 26 Tryz.func38 λ C hC => ?_
 rcases cB h with ⟨h1, h⟩ | ⟨h1, h⟩
 ·cases h
 ·refine ws Api 31 [false] [pl pI x0, pl pI x1, pl pI x0] [] 0 [] (Aft x0 x1 0 ()) (Aq8 0 ()) hC [pq h1] ?_
  obtain ⟨w0, hm0, hret0, hnext0⟩ := Au h
  clear h
  refine wc w0 (Asx) (Avq) ?_ λ z0 hs0 => ?_
  ·refine wb ?_
   refine Bn 0 rfl λ hl0 => ?_
   refine A7 (by kernel_rfl) (Aj8 x1) (Aft x0 x1) (Aq8) w0 x0 () hm0 rfl rfl (λ z0 hn0 => ?_) λ n0 a0 z0 w0b hi0 hx0 h hb0 hr0 => ?_
   ·clear hm0
    exact wx w0 (Asx) (Avq) Api 26 [false] [] [] 0 [] () hC [pq (Bb hl0)] hn0
   ·unfold Aj8 at h
    obtain ⟨y2, h3, h⟩ := Ad h
    rcases cB h with ⟨h4, h⟩ | ⟨h4, h⟩
    ·cases h
    ·exact wx w0b (Aft x0 x1 (n0 + 1)) (Aq8 (n0 + 1)) Api 36 [true, false] [pt hx0 hl0, pr pI h3] [] 0 [] () hC [pq (A8 hi0 hl0), pq h4] (sI h).symm
  ·have h := hnext0 _ hs0
   replace h := sI h
   subst h
   exact wr Api 23 [] [] [] 0 [] hC []
theorem e38 : EN 38 := en Tryz.func38
theorem k90 (x0 : Aj) (r : Bool) (h : F90 x0 = r) : CO 90 [.agg (d84 x0)] [] (.d (Bo r)) [] := by
 unfold F90 at h
 refine co 7 Tryz.func90 λ C hC => ?_
 subst h
 exact wr n3_ 25 [] [pl pI x0.Ac] [] 0 [] hC []
theorem e90 : EN 90 := en Tryz.func90
theorem k32 (x0 : Ai) (x1 : Int) (r : Int × Ai) (h : F32 x0 x1 = some r) : CO 32 [.d (.o 0 0), .d (I x1)] [.box 90 (d90 x0)] (.d (I r.1)) [.box 90 (d90 r.2)] := by
 unfold F32 at h
 refine co 35 Tryz.func32 λ C hC => ?_
 rcases cB h with ⟨h1, h⟩ | ⟨h1, h⟩
 ·replace h := sI h
  subst h
  exact wr [0, 1, 4, 14] 29 [true] [pl pI x0.L] [] 1 [0] hC [pq h1]
 ·obtain ⟨y2, h3, h⟩ := Ad h
  obtain ⟨y4, h5, h⟩ := Ad h
  replace h := sI h
  subst h
  exact wr [0, 1, 4, 14] 32 [false] [pl pI x0.L, pr pI h3, pc e80 (k80 y2 x1 _ h5) []] [] 1 [0] hC [pq h1]
theorem e32 : EN 32 := en Tryz.func32
def Agy : List Nat := [0, 1, 2, 3, 4, 6, 7, 16, 25, 33]
theorem k71 (x0 : Aa) (x1 : An) (r : Bool) (h : F71 x0 x1 = r) : CO 71 [.agg (d29 x0), .agg (d86 x1)] [] (.d (Bo r)) [] := by
 unfold F71 at h
 refine co 42 Tryz.func71 λ C hC => ?_
 rcases cB h with ⟨h1, h⟩ | ⟨h1, h⟩
 ·subst h
  exact wr Agy 32 [true] [pl Bt x0.Ac, pc Fc (Fa x1.Number 0 (w64 ((ln x0.Ac) - 1)) _ rfl) []] [] 0 [] hC [pq h1]
 ·rcases cB h with ⟨h2, h⟩ | ⟨h2, h⟩
  ·subst h
   exact wr Agy 35 [false, true] [pl Bi x0.Af, pc Fc (Fa x1.Number 0 (w64 ((ln x0.Af) - 1)) _ rfl) []] [] 0 [] hC [pq h1, pq h2]
  ·rcases cB h with ⟨h3, h⟩ | ⟨h3, h⟩
   ·subst h
    exact wr Agy 38 [false, false, true] [pc Fc (Fa x1.Number 0 (w64 (x0.Am - 1)) _ rfl) []] [] 0 [] hC [pq h1, pq h2, pq h3]
   ·rcases cB h with ⟨h4, h⟩ | ⟨h4, h⟩
    ·subst h
     exact wr Agy 41 [false, false, false, true] [pl q65 x0.Ae, pc Fc (Fa x1.Number 0 (w64 ((ln x0.Ae) - 1)) _ rfl) []] [] 0 [] hC [pq h1, pq h2, pq h3, pq h4]
    ·subst h
     exact wr Agy 43 [false, false, false, false] [] [] 0 [] hC [pq h1, pq h2, pq h3, pq h4]
theorem e71 : EN 71 := en Tryz.func71
def Cw : List Nat := [0, 1, 2, 3, 4, 6, 7, 8, 10, 11, 12, 13, 23, 25, 26, 37, 38, 47, 48, 57, 61, 62, 63, 64, 69, 74, 75, 76, 82, 86, 87, 88, 94]
def Oy (x0 : Aa) (n0 : Nat) (z0 : Unit) : St := [(1, dO 0 0), (2, dB false), (10, .d (DS Bi x0.Af)), (11, dI (ln x0.Af)), (12, dI (cnt 0 n0))]
def Uk (x0 : Aa) (n0 : Nat) (z0 : Unit) : List Res := [.box 29 (d29 x0)]
def Amj  (z0 : Unit) : St := [(1, dO 0 0), (2, dB false)]
def Aob (x0 : Aa) (z0 : Unit) : List Res := [.box 29 (d29 x0)]
def yY (x0 : Aa) (n0 : Nat) (y9 : List Ak) (n1 : Nat) (z1 : Unit) : St := [(1, dO 0 0), (2, dB false), (4, dO 1 0), (10, .d (DS Bi x0.Af)), (11, dI (ln x0.Af)), (12, dI (cnt 0 n0)), (61, .d (DS Bi y9)), (62, dI (ln y9)), (63, dI (cnt 0 n1))]
def Ajr (x0 : Aa) (a0 : Ak) (n1 : Nat) (z1 : Unit) : List Res := [.box 29 (d29 x0), .box 147 (F7 a0)]
def Ami (x0 : Aa) (n0 : Nat) (z1 : Unit) : St := [(1, dO 0 0), (2, dB false), (10, .d (DS Bi x0.Af)), (11, dI (ln x0.Af)), (12, dI (cnt 0 n0))]
def Aoa (x0 : Aa) (z1 : Unit) : List Res := [.box 29 (d29 x0)]
def yX (x0 : Aa) (z2 : Int) : St := [(1, dO 0 0), (2, dB false), (74, dI (ln x0.Ac)), (75, dI z2)]
def Ajq (x0 : Aa) (z2 : Int) : List Res := [.box 29 (d29 x0)]
def Amh  (z2 : Int) : St := [(1, dO 0 0), (2, dB false)]
def An9 (x0 : Aa) (z2 : Int) : List Res := [.box 29 (d29 x0)]
def yW (x0 : Aa) (z3 : Int) : St := [(1, dO 0 0), (2, dB false), (86, dI (ln x0.Ae)), (87, dI z3)]
def Ajp (x0 : Aa) (z3 : Int) : List Res := [.box 29 (d29 x0)]
def Amg  (z3 : Int) : St := [(2, dB false)]
def An8  (z3 : Int) : List Res := []
theorem A70 (x0 : Aa) (r : Bool) (h : Aks x0 = some r) : CO 163 [.agg (d29 x0)] [] (.d (Bo r)) [] := by
 unfold Aks at h
 refine co 96 Tryz.func163 λ C hC => ?_
 refine ws Cw 26 [] [pl Bi x0.Af] [] 0 [0] (Oy x0 0 ()) (Uk x0 0 ()) hC [] ?_
 obtain ⟨w0, hm0, hret0, hnext0⟩ := Au h
 clear h
 refine wc w0 (Amj) (Aob x0) ?_ λ z0 hs0 => ?_
 ·refine wb ?_
  refine Bn 10 rfl λ hl0 => ?_
  refine A7 (by kernel_rfl) (Xb x0) (Oy x0) (Uk x0) w0 x0.Af () hm0 rfl rfl (λ z0 hn0 => ?_) λ n0 a0 z0 w0b hi0 hx0 h hb0 hr0 => ?_
  ·clear hm0
   exact wx w0 (Amj) (Aob x0) Cw 26 [false] [] [] 0 [0] () hC [pq (Bb hl0)] hn0
  ·unfold Xb at h
   refine ws Cw 33 [true] [pt hx0 hl0, pc Fc (Fa a0.A 0 (w64 (x0.Am - 1)) _ rfl) []] [] 0 [0, 1] [(1, dO 0 0), (2, dB false), (3, dI (cnt 0 n0)), (4, dO 1 0), (10, .d (DS Bi x0.Af)), (11, dI (ln x0.Af)), (12, dI (cnt 0 n0)), (23, .d (Bo (!(B5 a0.A 0 (w64 (x0.Am - 1))))))] [.box 29 (d29 x0), .box 147 (F7 a0)] hC [pq (A8 hi0 hl0)] ?_
   rcases cB h with ⟨h1, h⟩ | ⟨h1, h⟩
   ·have hq := hret0 _ (hr0 _ (sI h).symm)
    replace hq := sI hq
    subst hq
    exact wr Cw 24 [true] [] [] 0 [] hC [pq h1]
   ·rcases cB h with ⟨h2, h⟩ | ⟨h2, h⟩
    ·rcases cB h with ⟨h3, h⟩ | ⟨h3, h⟩
     ·have hq := hret0 _ (hr0 _ (sI h).symm)
      replace hq := sI hq
      subst hq
      exact wr Cw 34 [false, true, true] [pc Fc (Fa a0.B (w64 (a0.A + 1)) (w64 (x0.Am - 1)) _ rfl) []] [] 0 [] hC [pq h1, pq h2, pq h3]
     ·exact wx w0b (Oy x0 (n0 + 1)) (Uk x0 (n0 + 1)) Cw 36 [false, true, false] [pc Fc (Fa a0.B (w64 (a0.A + 1)) (w64 (x0.Am - 1)) _ rfl) []] [] 0 [0] () hC [pq h1, pq h2, pq h3] (sI h).symm
    ·rcases cB h with ⟨h4, h⟩ | ⟨h4, h⟩
     ·refine ws Cw 34 [false, false, true] [pl Bt x0.Ac, pc Fc (Fa a0.B 0 (w64 ((ln x0.Ac) - 1)) _ rfl) []] [] 0 [0] [(1, dO 0 0), (2, dB false), (10, .d (DS Bi x0.Af)), (11, dI (ln x0.Af)), (12, dI (cnt 0 n0)), (47, dB (Aio x0 a0))] [.box 29 (d29 x0)] hC [pq h1, pq h2, pq h4] ?_
      rcases cB h with ⟨h5, h⟩ | ⟨h5, h⟩
      ·have hq := hret0 _ (hr0 _ (sI h).symm)
       replace hq := sI hq
       subst hq
       exact wr Cw 24 [true] [] [] 0 [] hC [pq h5]
      ·exact wx w0b (Oy x0 (n0 + 1)) (Uk x0 (n0 + 1)) Cw 26 [false] [] [] 0 [0] () hC [pq h5] (sI h).symm
     ·rcases cB h with ⟨h6, h⟩ | ⟨h6, h⟩
      ·refine ws Cw 38 [false, false, false, true] [pl q65 x0.Ae, pc Fc (Fa a0.B 0 (w64 ((ln x0.Ae) - 1)) _ rfl) []] [] 0 [0, 1] [(1, dO 0 0), (2, dB false), (3, dI (cnt 0 n0)), (4, dO 1 0), (10, .d (DS Bi x0.Af)), (11, dI (ln x0.Af)), (12, dI (cnt 0 n0)), (57, dB (Ain x0 a0))] [.box 29 (d29 x0), .box 147 (F7 a0)] hC [pq h1, pq h2, pq h4, pq h6] ?_
       rcases cB h with ⟨h7, h⟩ | ⟨h7, h⟩
       ·have hq := hret0 _ (hr0 _ (sI h).symm)
        replace hq := sI hq
        subst hq
        exact wr Cw 24 [true] [] [] 0 [] hC [pq h7]
       ·obtain ⟨y9, h8, h⟩ := Ad h
        refine ws Cw 25 [false] [⟨.cut (x0.Af.map Bi) 3 0 (cnt 0 n0) (y9.map Bi), Aar Bi 3 (λ _ => rfl) h8⟩, pl Bi y9] [] 0 [0, 1] (yY x0 n0 y9 0 ()) (Ajr x0 a0 0 ()) hC [pq h7] ?_
        obtain ⟨w1, hm1, hret1, hnext1⟩ := Au h
        clear h
        refine wc w1 (Ami x0 n0) (Aoa x0) ?_ λ z1 hs1 => ?_
        ·refine wb ?_
         refine Bn 61 rfl λ hl1 => ?_
         refine A7 (by kernel_rfl) (P2 a0) (yY x0 n0 y9) (Ajr x0 a0) w1 y9 () hm1 rfl rfl (λ z1 hn1 => ?_) λ n1 a1 z1 w1b hi1 hx1 h hb1 hr1 => ?_
         ·clear hm1
          exact wx w1 (Ami x0 n0) (Aoa x0) Cw 26 [false] [] [] 0 [0] () hC [pq (Bb hl1)] hn1
         ·unfold P2 at h
          rcases cB h with ⟨h10, h⟩ | ⟨h10, h⟩
          ·have hq := hret1 _ (hr1 _ (sI h).symm)
           replace hq := hret0 _ (hr0 _ (sI hq).symm)
           replace hq := sI hq
           subst hq
           exact wr Cw 35 [true, true] [pt hx1 hl1] [] 0 [] hC [pq (A8 hi1 hl1), pq h10]
          ·exact wx w1b (yY x0 n0 y9 (n1 + 1)) (Ajr x0 a0 (n1 + 1)) Cw 36 [true, false] [pt hx1 hl1] [] 0 [0, 1] () hC [pq (A8 hi1 hl1), pq h10] (sI h).symm
        ·have h := hnext1 _ hs1
         exact wx w0b (Oy x0 (n0 + 1)) (Uk x0 (n0 + 1)) Cw 24 [] [] [] 0 [0] () hC [] (sI h).symm
      ·have hq := hret0 _ (hr0 _ (sI h).symm)
       replace hq := sI hq
       subst hq
       exact wr Cw 37 [false, false, false, false] [] [] 0 [] hC [pq h1, pq h2, pq h4, pq h6]
 ·have h := hnext0 _ hs0
  refine ws Cw 24 [] [pl Bt x0.Ac] [] 0 [0] (yX x0 0) (Ajq x0 0) hC [] ?_
  obtain ⟨w2, hm2, hret2, hnext2⟩ := Au h
  clear h
  refine wc w2 (Amh) (An9 x0) ?_ λ z2 hs2 => ?_
  ·refine wb ?_
   refine B2 (by kernel_rfl) (Xa x0) (yX x0) (Ajq x0) w2 1152921504606846976 0 hm2 rfl rfl λ z2 w2b h hb2 hr2 => ?_
   unfold Xa at h
   rcases cB h with ⟨h11, h⟩ | ⟨h11, h⟩
   ·obtain ⟨y12, h13, h⟩ := Ad h
    refine ws Cw 32 [true] [pc e77 (k77 x0 2 z2 _ h13) [], pl pI y12] [] 0 [0] [(1, dO 0 0), (2, dB false), (74, dI (ln x0.Ac)), (75, dI z2), (82, dB ((ln y12) != 1))] [.box 29 (d29 x0)] hC [pq h11] ?_
    rcases cB h with ⟨h14, h⟩ | ⟨h14, h⟩
    ·have hq := hret2 _ (hr2 _ (sI h).symm)
     replace hq := sI hq
     subst hq
     exact wr Cw 24 [true] [] [] 0 [] hC [pq h14]
    ·exact wx w2b (yX x0) (Ajq x0) Cw 25 [false] [] [] 0 [0] (w64 (z2 + 1)) hC [pq h14] (sI h).symm
   ·exact wx w2 (Amh) (An9 x0) Cw 26 [false] [] [] 0 [0] z2 hC [pq h11] (hb2 _ (sI h).symm)
  ·have h := hnext2 _ hs2
   refine ws Cw 24 [] [pl q65 x0.Ae] [] 0 [0] (yW x0 0) (Ajp x0 0) hC [] ?_
   obtain ⟨w3, hm3, hret3, hnext3⟩ := Au h
   clear h
   refine wc w3 (Amg) (An8) ?_ λ z3 hs3 => ?_
   ·refine wb ?_
    refine B2 (by kernel_rfl) (W_ x0) (yW x0) (Ajp x0) w3 1152921504606846976 0 hm3 rfl rfl λ z3 w3b h hb3 hr3 => ?_
    unfold W_ at h
    rcases cB h with ⟨h15, h⟩ | ⟨h15, h⟩
    ·obtain ⟨y16, h17, h⟩ := Ad h
     refine ws Cw 32 [true] [pc e77 (k77 x0 3 z3 _ h17) [], pl pI y16] [] 0 [0] [(1, dO 0 0), (2, dB false), (86, dI (ln x0.Ae)), (87, dI z3), (94, dB (decide ((ln y16) < 1)))] [.box 29 (d29 x0)] hC [pq h15] ?_
     rcases cB h with ⟨h18, h⟩ | ⟨h18, h⟩
     ·have hq := hret3 _ (hr3 _ (sI h).symm)
      replace hq := sI hq
      subst hq
      exact wr Cw 24 [true] [] [] 0 [] hC [pq h18]
     ·exact wx w3b (yW x0) (Ajp x0) Cw 25 [false] [] [] 0 [0] (w64 (z3 + 1)) hC [pq h18] (sI h).symm
    ·exact wx w3 (Amg) (An8) Cw 26 [false] [] [] 0 [] z3 hC [pq h15] (hb3 _ (sI h).symm)
   ·have h := hnext3 _ hs3
    replace h := sI h
    subst h
    exact wr Cw 23 [] [] [] 0 [] hC []
theorem A9h : EN 163 := en Tryz.func163
def V7 : List Nat := [0, 1, 2, 4, 6, 7, 8, 9, 29]
def yV (x0 : Aa) (n0 : Nat) (z0 : Unit) : St := [(2, dB false), (6, .d (DS Bt x0.Ac)), (7, dI (ln x0.Ac)), (8, dI (cnt 0 n0))]
def Ajo  (n0 : Nat) (z0 : Unit) : List Res := []
def Amf  (z0 : Unit) : St := [(2, dB false)]
def An7  (z0 : Unit) : List Res := []
theorem A7z (x0 : Aa) (r : Bool) (h : Akr x0 = some r) : CO 164 [.agg (d29 x0)] [] (.d (Bo r)) [] := by
 unfold Akr at h
 refine co 31 Tryz.func164 λ C hC => ?_
 refine ws V7 26 [] [pl Bt x0.Ac] [] 0 [] (yV x0 0 ()) (Ajo 0 ()) hC [] ?_
 obtain ⟨w0, hm0, hret0, hnext0⟩ := Au h
 clear h
 refine wc w0 (Amf) (An7) ?_ λ z0 hs0 => ?_
 ·refine wb ?_
  refine Bn 6 rfl λ hl0 => ?_
  refine A7 (by kernel_rfl) W9 (yV x0) (Ajo) w0 x0.Ac () hm0 rfl rfl (λ z0 hn0 => ?_) λ n0 a0 z0 w0b hi0 hx0 h hb0 hr0 => ?_
  ·clear hm0
   exact wx w0 (Amf) (An7) V7 26 [false] [] [] 0 [] () hC [pq (Bb hl0)] hn0
  ·unfold W9 at h
   refine ws V7 32 [true] [pt hx0 hl0, pc Fc (Fa a0.Rating 1 50000 _ rfl) [], ⟨.when [(!(B5 a0.Rating 1 50000), false)] (.call 112 [dI a0.Least, dI 0, dI a0.Rating] [] (dB (B5 a0.Least 0 a0.Rating)) [] []), λ hg => ⟨Fc, (Fa a0.Least 0 a0.Rating _ rfl)⟩⟩, ⟨.when [(((!(B5 a0.Rating 1 50000)) || (!(B5 a0.Least 0 a0.Rating))), false)] (.call 112 [dI a0.Start, dI 0, dI 600] [] (dB (B5 a0.Start 0 600)) [] []), λ hg => ⟨Fc, (Fa a0.Start 0 600 _ rfl)⟩⟩] [] 0 [] [(2, dB false), (6, .d (DS Bt x0.Ac)), (7, dI (ln x0.Ac)), (8, dI (cnt 0 n0)), (29, dB (Ail a0))] [] hC [pq (A8 hi0 hl0)] ?_
   rcases cB h with ⟨h1, h⟩ | ⟨h1, h⟩
   ·have hq := hret0 _ (hr0 _ (sI h).symm)
    replace hq := sI hq
    subst hq
    exact wr V7 24 [true] [] [] 0 [] hC [pq h1]
   ·exact wx w0b (yV x0 (n0 + 1)) (Ajo (n0 + 1)) V7 25 [false] [] [] 0 [] () hC [pq h1] (sI h).symm
 ·have h := hnext0 _ hs0
  replace h := sI h
  subst h
  exact wr V7 23 [] [] [] 0 [] hC []
theorem A9g : EN 164 := en Tryz.func164
def I6 : List Nat := [0, 1, 2, 3, 4, 5, 6, 8, 9, 10, 11, 44, 46, 47, 48, 49, 71]
def yU (x0 : Aa) (n0 : Nat) (z0 : Unit) : St := [(2, dB false), (8, .d (DS q65 x0.Ae)), (9, dI (ln x0.Ae)), (10, dI (cnt 0 n0))]
def Ajn  (n0 : Nat) (z0 : Unit) : List Res := []
def Ame  (z0 : Unit) : St := [(2, dB false)]
def An6  (z0 : Unit) : List Res := []
def yT (x0 : Aa) (n0 : Nat) (a0 : A1) (n1 : Nat) (z1 : Unit) : St := [(2, dB false), (3, dI (cnt 0 n0)), (4, dO 0 0), (8, .d (DS q65 x0.Ae)), (9, dI (ln x0.Ae)), (10, dI (cnt 0 n0)), (46, .d (DS pI a0.Needs)), (47, dI (ln a0.Needs)), (48, dI (cnt 0 n1))]
def Ajm (a0 : A1) (n1 : Nat) (z1 : Unit) : List Res := [.box 65 (d65 a0)]
def Amd (x0 : Aa) (n0 : Nat) (z1 : Unit) : St := [(2, dB false), (8, .d (DS q65 x0.Ae)), (9, dI (ln x0.Ae)), (10, dI (cnt 0 n0))]
def An5  (z1 : Unit) : List Res := []
theorem A7y (x0 : Aa) (r : Bool) (h : Akq x0 = some r) : CO 165 [.agg (d29 x0)] [] (.d (Bo r)) [] := by
 unfold Akq at h
 refine co 74 Tryz.func165 λ C hC => ?_
 refine ws I6 26 [] [pl q65 x0.Ae] [] 0 [] (yU x0 0 ()) (Ajn 0 ()) hC [] ?_
 obtain ⟨w0, hm0, hret0, hnext0⟩ := Au h
 clear h
 refine wc w0 (Ame) (An6) ?_ λ z0 hs0 => ?_
 ·refine wb ?_
  refine Bn 8 rfl λ hl0 => ?_
  refine A7 (by kernel_rfl) W8 (yU x0) (Ajn) w0 x0.Ae () hm0 rfl rfl (λ z0 hn0 => ?_) λ n0 a0 z0 w0b hi0 hx0 h hb0 hr0 => ?_
  ·clear hm0
   exact wx w0 (Ame) (An6) I6 26 [false] [] [] 0 [] () hC [pq (Bb hl0)] hn0
  ·unfold W8 at h
   refine ws I6 33 [true] [pt hx0 hl0, pc Fc (Fa a0.Load 0 50000 _ rfl) [], ⟨.when [(!(B5 a0.Load 0 50000), false)] (.call 112 [dI a0.Least, dI 0, dI a0.Load] [] (dB (B5 a0.Least 0 a0.Load)) [] []), λ hg => ⟨Fc, (Fa a0.Least 0 a0.Load _ rfl)⟩⟩, ⟨.when [(((!(B5 a0.Load 0 50000)) || (!(B5 a0.Least 0 a0.Load))), false)] (.call 112 [dI a0.Bp, dI 0, dI 15] [] (dB (B5 a0.Bp 0 15)) [] []), λ hg => ⟨Fc, (Fa a0.Bp 0 15 _ rfl)⟩⟩, ⟨.when [((((!(B5 a0.Load 0 50000)) || (!(B5 a0.Least 0 a0.Load))) || (!(B5 a0.Bp 0 15))), false)] (.call 112 [dI a0.Thruster, dI (-1), dI 7] [] (dB (B5 a0.Thruster (-1) 7)) [] []), λ hg => ⟨Fc, (Fa a0.Thruster (-1) 7 _ rfl)⟩⟩, pL_ [(((((!(B5 a0.Load 0 50000)) || (!(B5 a0.Least 0 a0.Load))) || (!(B5 a0.Bp 0 15))) || (!(B5 a0.Thruster (-1) 7))), false)] pI a0.Needs] [] 0 [0] [(2, dB false), (3, dI (cnt 0 n0)), (4, dO 0 0), (8, .d (DS q65 x0.Ae)), (9, dI (ln x0.Ae)), (10, dI (cnt 0 n0)), (44, dB (Aik a0))] [.box 65 (d65 a0)] hC [pq (A8 hi0 hl0)] ?_
   rcases cB h with ⟨h1, h⟩ | ⟨h1, h⟩
   ·have hq := hret0 _ (hr0 _ (sI h).symm)
    replace hq := sI hq
    subst hq
    exact wr I6 24 [true] [] [] 0 [] hC [pq h1]
   ·refine ws I6 25 [false] [pl pI a0.Needs] [] 0 [0] (yT x0 n0 a0 0 ()) (Ajm a0 0 ()) hC [pq h1] ?_
    obtain ⟨w1, hm1, hret1, hnext1⟩ := Au h
    clear h
    refine wc w1 (Amd x0 n0) (An5) ?_ λ z1 hs1 => ?_
    ·refine wb ?_
     refine Bn 46 rfl λ hl1 => ?_
     refine A7 (by kernel_rfl) (W7 n0 a0) (yT x0 n0 a0) (Ajm a0) w1 a0.Needs () hm1 rfl rfl (λ z1 hn1 => ?_) λ n1 a1 z1 w1b hi1 hx1 h hb1 hr1 => ?_
     ·clear hm1
      exact wx w1 (Amd x0 n0) (An5) I6 26 [false] [] [] 0 [] () hC [pq (Bb hl1)] hn1
     ·unfold W7 at h
      obtain ⟨y2, h3, h⟩ := Ad h
      refine ws I6 32 [true] [pt hx1 hl1, pc Fc (Fa a1 0 (w64 ((cnt 0 n0) - 1)) _ rfl) [], pR pI h3] [] 0 [0] [(2, dB false), (3, dI (cnt 0 n0)), (4, dO 0 0), (8, .d (DS q65 x0.Ae)), (9, dI (ln x0.Ae)), (10, dI (cnt 0 n0)), (46, .d (DS pI a0.Needs)), (47, dI (ln a0.Needs)), (48, dI (cnt 0 n1)), (71, dB (Aij n0 n1 a1 y2))] [.box 65 (d65 a0)] hC [pq (A8 hi1 hl1)] ?_
      rcases cB h with ⟨h4, h⟩ | ⟨h4, h⟩
      ·have hq := hret1 _ (hr1 _ (sI h).symm)
       replace hq := hret0 _ (hr0 _ (sI hq).symm)
       replace hq := sI hq
       subst hq
       exact wr I6 24 [true] [] [] 0 [] hC [pq h4]
      ·exact wx w1b (yT x0 n0 a0 (n1 + 1)) (Ajm a0 (n1 + 1)) I6 25 [false] [] [] 0 [0] () hC [pq h4] (sI h).symm
    ·have h := hnext1 _ hs1
     exact wx w0b (yU x0 (n0 + 1)) (Ajn (n0 + 1)) I6 23 [] [] [] 0 [] () hC [] (sI h).symm
 ·have h := hnext0 _ hs0
  replace h := sI h
  subst h
  exact wr I6 23 [] [] [] 0 [] hC []
theorem A9f : EN 165 := en Tryz.func165
theorem Yl (x0 : List Int) (x1 : Int) (r : Bool) (h : M3 x0 x1 = some r) : CO 190 [.d (DS pI x0), .d (I x1)] [] (.d (Bo r)) [] := by
 unfold M3 at h
 refine co 9 Tryz.func190 λ C hC => ?_
 obtain ⟨y1, h2, h⟩ := Ad h
 replace h := sI h
 subst h
 exact wr [0, 1, 4] 25 [] [pc A8v (A7e x0 x1 _ h2) []] [] 0 [] hC []
theorem Yr : EN 190 := en Tryz.func190
def O9 : List Nat := [0, 1, 4, 5, 7, 8, 9, 16]
def Sl (x0 : List (List Int)) (n0 : Nat) (z0 : Unit) : St := [(0, .d (DS (pL pI) x0)), (1, .d (.fn (.func 192) [] [])), (4, dI 0), (7, dI (ln x0)), (8, dI (cnt 0 n0))]
def Y8  (n0 : Nat) (z0 : Unit) : List Res := []
def Ab0  (z0 : Unit) : St := [(4, dI 0)]
def Adi  (z0 : Unit) : List Res := []
theorem A1g (x0 : List (List Int)) (r : Int) (h : vX x0 = some r) : CO 228 [.d (DS (pL pI) x0), .d (.fn (.func 192) [] [])] [] (.d (I r)) [] := by
 unfold vX at h
 refine co 19 Tryz.func228 λ C hC => ?_
 refine ws O9 26 [] [pl (pL pI) x0] [] 0 [] (Sl x0 0 ()) (Y8 0 ()) hC [] ?_
 obtain ⟨w0, hm0, hret0, hnext0⟩ := Au h
 clear h
 refine wc w0 (Ab0) (Adi) ?_ λ z0 hs0 => ?_
 ·refine wb ?_
  refine Bn 0 rfl λ hl0 => ?_
  refine A7 (by kernel_rfl) Ux (Sl x0) (Y8) w0 x0 () hm0 rfl rfl (λ z0 hn0 => ?_) λ n0 a0 z0 w0b hi0 hx0 h hb0 hr0 => ?_
  ·clear hm0
   exact wx w0 (Ab0) (Adi) O9 26 [false] [] [] 0 [] () hC [pq (Bb hl0)] hn0
  ·unfold Ux at h
   rcases cB h with ⟨h1, h⟩ | ⟨h1, h⟩
   ·have hq := hret0 _ (hr0 _ (sI h).symm)
    replace hq := sI hq
    subst hq
    exact wr O9 35 [true, true] [pt hx0 hl0, pc A3v (A10 a0 _ rfl) []] [] 0 [] hC [pq (A8 hi0 hl0), pq h1]
   ·exact wx w0b (Sl x0 (n0 + 1)) (Y8 (n0 + 1)) O9 36 [true, false] [pt hx0 hl0, pc A3v (A10 a0 _ rfl) []] [] 0 [] () hC [pq (A8 hi0 hl0), pq h1] (sI h).symm
 ·have h := hnext0 _ hs0
  replace h := sI h
  subst h
  exact wr O9 23 [] [] [] 0 [] hC []
theorem A3b : EN 228 := en Tryz.func228
theorem A79 (x0 : Bg) (r : Bool) (h : Z5 x0 = r) : CO 137 [.agg (A4s x0)] [] (.d (Bo r)) [] := by
 unfold Z5 at h
 refine co 18 Tryz.func137 λ C hC => ?_
 subst h
 exact wr n3_ 25 [] [pc e99 (k99 x0.Rating 1 50000 _ rfl) [], ⟨.when [(F99 x0.Rating 1 50000, true)] (.call 99 [dI x0.Least, dI 0, dI x0.Rating] [] (dB (F99 x0.Least 0 x0.Rating)) [] []), λ hg => ⟨e99, (k99 x0.Least 0 x0.Rating _ rfl)⟩⟩, ⟨.when [(((F99 x0.Rating 1 50000) && (F99 x0.Least 0 x0.Rating)), true)] (.call 99 [dI x0.Start, dI 0, dI 600] [] (dB (F99 x0.Start 0 600)) [] []), λ hg => ⟨e99, (k99 x0.Start 0 600 _ rfl)⟩⟩] [] 0 [] hC []
theorem A9q : EN 137 := en Tryz.func137
def V_ : List Nat := [0, 1, 2, 4, 5, 6, 8, 9, 10, 11, 33]
def zF (x0 : A1) (x1 : Int) (n0 : Nat) (z0 : Unit) : St := [(1, dI x1), (2, dO 0 0), (4, dB false), (8, .d (DS pI x0.Needs)), (9, dI (ln x0.Needs)), (10, dI (cnt 0 n0))]
def Ajx (x0 : A1) (n0 : Nat) (z0 : Unit) : List Res := [.box 65 (d65 x0)]
def Ams  (z0 : Unit) : St := [(2, dO 0 0), (4, dB false)]
def Aok (x0 : A1) (z0 : Unit) : List Res := [.box 65 (d65 x0)]
theorem A78 (x0 : A1) (x1 : Int) (r : Bool) (h : Abd x0 x1 = some r) : CO 138 [.agg (d65 x0), .d (I x1)] [] (.d (Bo r)) [] := by
 unfold Abd at h
 refine co 61 Tryz.func138 λ C hC => ?_
 refine ws V_ 26 [] [pl pI x0.Needs] [] 0 [0] (zF x0 x1 0 ()) (Ajx x0 0 ()) hC [] ?_
 obtain ⟨w0, hm0, hret0, hnext0⟩ := Au h
 clear h
 refine wc w0 (Ams) (Aok x0) ?_ λ z0 hs0 => ?_
 ·refine wb ?_
  refine Bn 8 rfl λ hl0 => ?_
  refine A7 (by kernel_rfl) (P6 x0 x1) (zF x0 x1) (Ajx x0) w0 x0.Needs () hm0 rfl rfl (λ z0 hn0 => ?_) λ n0 a0 z0 w0b hi0 hx0 h hb0 hr0 => ?_
  ·clear hm0
   exact wx w0 (Ams) (Aok x0) V_ 26 [false] [] [] 0 [0] () hC [pq (Bb hl0)] hn0
  ·unfold P6 at h
   obtain ⟨y1, h2, h⟩ := Ad h
   refine ws V_ 32 [true] [pt hx0 hl0, pc e99 (k99 a0 0 (w64 (x1 - 1)) _ rfl) [], pR pI h2] [] 0 [0] [(1, dI x1), (2, dO 0 0), (4, dB false), (8, .d (DS pI x0.Needs)), (9, dI (ln x0.Needs)), (10, dI (cnt 0 n0)), (33, dB (Aiq x1 n0 a0 y1))] [.box 65 (d65 x0)] hC [pq (A8 hi0 hl0)] ?_
   rcases cB h with ⟨h3, h⟩ | ⟨h3, h⟩
   ·have hq := hret0 _ (hr0 _ (sI h).symm)
    replace hq := sI hq
    subst hq
    exact wr V_ 24 [true] [] [] 0 [] hC [pq h3]
   ·exact wx w0b (zF x0 x1 (n0 + 1)) (Ajx x0 (n0 + 1)) V_ 25 [false] [] [] 0 [0] () hC [pq h3] (sI h).symm
 ·have h := hnext0 _ hs0
  replace h := sI h
  subst h
  exact wr V_ 23 [] [pc e99 (k99 x0.Load 0 50000 _ rfl) [], ⟨.when [(F99 x0.Load 0 50000, true)] (.call 99 [dI x0.Least, dI 0, dI x0.Load] [] (dB (F99 x0.Least 0 x0.Load)) [] []), λ hg => ⟨e99, (k99 x0.Least 0 x0.Load _ rfl)⟩⟩, ⟨.when [(((F99 x0.Load 0 50000) && (F99 x0.Least 0 x0.Load)), true)] (.call 99 [dI x0.Bp, dI 0, dI 15] [] (dB (F99 x0.Bp 0 15)) [] []), λ hg => ⟨e99, (k99 x0.Bp 0 15 _ rfl)⟩⟩, ⟨.when [((((F99 x0.Load 0 50000) && (F99 x0.Least 0 x0.Load)) && (F99 x0.Bp 0 15)), true)] (.call 99 [dI x0.Thruster, dI (-1), dI 7] [] (dB (F99 x0.Thruster (-1) 7)) [] []), λ hg => ⟨e99, (k99 x0.Thruster (-1) 7 _ rfl)⟩⟩, pL_ [(((((F99 x0.Load 0 50000) && (F99 x0.Least 0 x0.Load)) && (F99 x0.Bp 0 15)) && (F99 x0.Thruster (-1) 7)), true)] pI x0.Needs] [] 0 [] hC []
theorem A9p : EN 138 := en Tryz.func138
def V9 : List Nat := [0, 1, 4, 5, 6, 11, 12, 13, 16, 19]
theorem Aw6 (x0 : Int) (x1 : Int) (r : Int) (h : J4 x0 x1 = r) : CO 154 [.d (I x0), .d (I x1)] [] (.d (I r)) [] := by
 unfold J4 at h
 refine co 20 Tryz.func154 λ C hC => ?_
 rcases cB h with ⟨h1, h⟩ | ⟨h1, h⟩
 ·rcases cB h with ⟨h2, h⟩ | ⟨h2, h⟩
  ·subst h
   exact wr V9 37 [true, true] [pc K_ (K9 x0 _ rfl) [], pc K_ (K9 x1 _ rfl) []] [] 0 [] hC [pq h1, pq h2]
  ·subst h
   exact wr V9 38 [true, false] [pc K_ (K9 x0 _ rfl) [], pc K_ (K9 x1 _ rfl) []] [] 0 [] hC [pq h1, pq h2]
 ·rcases cB h with ⟨h3, h⟩ | ⟨h3, h⟩
  ·subst h
   exact wr V9 38 [false, true] [pc K_ (K9 x0 _ rfl) [], pc K_ (K9 x1 _ rfl) []] [] 0 [] hC [pq h1, pq h3]
  ·rcases cB h with ⟨h4, h⟩ | ⟨h4, h⟩
   ·subst h
    exact wr V9 43 [false, false, true] [pc K_ (K9 x0 _ rfl) [], pc K_ (K9 x1 _ rfl) []] [] 0 [] hC [pq h1, pq h3, pq h4]
   ·rcases cB h with ⟨h5, h⟩ | ⟨h5, h⟩
    ·subst h
     exact wr V9 48 [false, false, false, true] [pc K_ (K9 x0 _ rfl) [], pc K_ (K9 x1 _ rfl) []] [] 0 [] hC [pq h1, pq h3, pq h4, pq h5]
    ·subst h
     exact wr V9 49 [false, false, false, false] [pc K_ (K9 x0 _ rfl) [], pc K_ (K9 x1 _ rfl) []] [] 0 [] hC [pq h1, pq h3, pq h4, pq h5]
theorem Axo : EN 154 := en Tryz.func154
theorem k98 (x0 : Ag) (r : Bool) (h : F98 x0 = r) : CO 98 [.agg (T9 x0)] [] (.d (Bo r)) [] := by
 unfold F98 at h
 refine co 21 Tryz.func98 λ C hC => ?_
 subst h
 exact wr n3_ 25 [] [pc e99 (k99 x0.State 0 3 _ rfl) [], ⟨.when [(F99 x0.State 0 3, true)] (.call 99 [dI x0.Since, dI 0, dI 2147483648] [] (dB (F99 x0.Since 0 2147483648)) [] []), λ hg => ⟨e99, (k99 x0.Since 0 2147483648 _ rfl)⟩⟩, ⟨.when [(((F99 x0.State 0 3) && (F99 x0.Since 0 2147483648)), true)] (.call 99 [dI x0.Ap, dI 0, dI 6000] [] (dB (F99 x0.Ap 0 6000)) [] []), λ hg => ⟨e99, (k99 x0.Ap 0 6000 _ rfl)⟩⟩, ⟨.when [((((F99 x0.State 0 3) && (F99 x0.Since 0 2147483648)) && (F99 x0.Ap 0 6000)), true)] (.call 99 [dI x0.Phase, dI 0, dI 3599] [] (dB (F99 x0.Phase 0 3599)) [] []), λ hg => ⟨e99, (k99 x0.Phase 0 3599 _ rfl)⟩⟩] [] 0 [] hC []
theorem e98 : EN 98 := en Tryz.func98
theorem Mk (x0 : Ab) (r : Ab) (h : Il x0 = some r) : CO 116 [.agg (d36 x0)] [] (.agg [.os 0, .os 1, .os 2, .os 3]) (zp r []) := by
 unfold Il at h
 refine co 16 Tryz.func116 λ C hC => ?_
 obtain ⟨y1, h2, h⟩ := Ad h
 obtain ⟨y3, h4, h⟩ := Ad h
 obtain ⟨y5, h6, h⟩ := Ad h
 obtain ⟨y7, h8, h⟩ := Ad h
 replace h := sI h
 subst h
 exact wr n3_ 25 [] [pc A9e (A7x x0.Ah _ h2) [], pc A9d (A7w x0.Ac _ h4) [], pc A38 (A2d x0.As _ h6) [], pc A9c (A7v x0.Aq _ h8) []] [] 0 [2, 3, 4, 5] hC []
theorem Mr : EN 116 := en Tryz.func116
def Apn : List Nat := [0, 1, 2, 3, 4, 6, 7, 23]
theorem Aw8 (x0 : Aa) (x1 : Ab) (x2 : Int) (r : Int × Bool) (h : Z4 x0 x1 x2 = some r) : CO 143 [.agg (d29 x0), .agg (d36 x1), .d (I x2)] [] (.tup [.d (I r.1), .d (Bo r.2)]) [] := by
 unfold Z4 at h
 refine co 30 Tryz.func143 λ C hC => ?_
 obtain ⟨y1, h2, h⟩ := Ad h
 refine ws Apn 26 [] [pl A_ x1.Ac, pc e99 (k99 x2 0 (w64 ((ln x1.Ac) - 1)) _ rfl) [], pR A_ h2] [] 0 [0, 1] [(2, dI x2), (3, dO 0 0), (4, dO 1 0), (6, dI 0), (7, dB false), (23, dB (Ub x1 x2 y1))] [.box 29 (d29 x0), .box 36 (d36 x1)] hC [] ?_
 rcases cB h with ⟨h3, h⟩ | ⟨h3, h⟩
 ·replace h := sI h
  subst h
  exact wr Apn 24 [true] [] [] 0 [] hC [pq h3]
 ·obtain ⟨y4, h5, h⟩ := Ad h
  replace h := sI h
  subst h
  exact wr Apn 25 [false] [pc A3u (A1z x0 x1 2 x2 _ h5) []] [] 0 [] hC [pq h3]
theorem Axq : EN 143 := en Tryz.func143
theorem Aw7 (x0 : Aa) (x1 : Ab) (x2 : Int) (r : Int × Bool) (h : Z3 x0 x1 x2 = some r) : CO 144 [.agg (d29 x0), .agg (d36 x1), .d (I x2)] [] (.tup [.d (I r.1), .d (Bo r.2)]) [] := by
 unfold Z3 at h
 refine co 14 Tryz.func144 λ C hC => ?_
 obtain ⟨y1, h2, h⟩ := Ad h
 replace h := sI h
 subst h
 exact wr [0, 1, 2, 3, 4, 6, 7] 25 [] [pc A3u (A1z x0 x1 3 x2 _ h2) []] [] 0 [] hC []
theorem Axp : EN 144 := en Tryz.func144
def L6 : List Nat := [0, 1, 4, 5, 7, 8, 9, 16]
def Sy (x0 : List Aj) (n0 : Nat) (z0 : Unit) : St := [(0, .d (DS q84 x0)), (1, .d (.fn (.func 146) [] [])), (4, dI 0), (7, dI (ln x0)), (8, dI (cnt 0 n0))]
def Zj  (n0 : Nat) (z0 : Unit) : List Res := []
def Acm  (z0 : Unit) : St := [(4, dI 0)]
def Ad5  (z0 : Unit) : List Res := []
theorem Ato (x0 : List Aj) (r : Int) (h : Vm x0 = some r) : CO 141 [.d (DS q84 x0), .d (.fn (.func 146) [] [])] [] (.d (I r)) [] := by
 unfold Vm at h
 refine co 19 Tryz.func141 λ C hC => ?_
 refine ws L6 26 [] [pl q84 x0] [] 0 [] (Sy x0 0 ()) (Zj 0 ()) hC [] ?_
 obtain ⟨w0, hm0, hret0, hnext0⟩ := Au h
 clear h
 refine wc w0 (Acm) (Ad5) ?_ λ z0 hs0 => ?_
 ·refine wb ?_
  refine Bn 0 rfl λ hl0 => ?_
  refine A7 (by kernel_rfl) Vl (Sy x0) (Zj) w0 x0 () hm0 rfl rfl (λ z0 hn0 => ?_) λ n0 a0 z0 w0b hi0 hx0 h hb0 hr0 => ?_
  ·clear hm0
   exact wx w0 (Acm) (Ad5) L6 26 [false] [] [] 0 [] () hC [pq (Bb hl0)] hn0
  ·unfold Vl at h
   refine ws L6 32 [true] [pt hx0 hl0, pc A4f (A2k a0 _ rfl) []] [] 0 [] [(0, .d (DS q84 x0)), (1, .d (.fn (.func 146) [] [])), (4, dI 0), (5, dI (cnt 0 n0)), (7, dI (ln x0)), (8, dI (cnt 0 n0)), (16, dB (Aba a0))] [] hC [pq (A8 hi0 hl0)] ?_
   rcases cB h with ⟨h1, h⟩ | ⟨h1, h⟩
   ·have hq := hret0 _ (hr0 _ (sI h).symm)
    replace hq := sI hq
    subst hq
    exact wr L6 24 [true] [] [] 0 [] hC [pq h1]
   ·exact wx w0b (Sy x0 (n0 + 1)) (Zj (n0 + 1)) L6 25 [false] [] [] 0 [] () hC [pq h1] (sI h).symm
 ·have h := hnext0 _ hs0
  replace h := sI h
  subst h
  exact wr L6 23 [] [] [] 0 [] hC []
theorem Auh : EN 141 := en Tryz.func141
theorem k60 (x0 : Ab) (x1 : Ab) (r : Bool) (h : F60 x0 x1 = some r) : CO 60 [.agg (d36 x0), .agg (d36 x1)] [] (.d (Bo r)) [] := by
 unfold F60 at h
 refine co 31 Tryz.func60 λ C hC => ?_
 obtain ⟨y1, h2, h⟩ := Ad h
 obtain ⟨y3, h4, h⟩ := Ad h
 obtain ⟨y5, h6, h⟩ := Ad h
 obtain ⟨y7, h8, h⟩ := Ad h
 replace h := sI h
 subst h
 exact wr n5_ 25 [] [pc A9z (A8i x0.Ah x1.Ah _ h2) [], pw A9y (λ hg => A8h x0.Ac x1.Ac _ (Ba h4 hg)) [], pw A9x (λ hg => A8g x0.As x1.As _ (Ba h6 hg)) [], pw A9w (λ hg => A8f x0.Aq x1.Aq _ (Ba h8 hg)) []] [] 0 [] hC []
theorem e60 : EN 60 := en Tryz.func60
theorem A5v (x0 : Az) (x1c0 : A0) (r : Bool × A0) (h : Cv x0 x1c0 = r) : CO 62 [.agg (Ah6 x0), .d (.o 0 0)] [.box 126 [.fn (.func 58) [] [.o 1 0]], .box 40 (d40 x1c0)] (.d (Bo r.1)) [.box 126 [.fn (.func 58) [] [.o 1 0]], .box 40 (d40 r.2)] := by
 unfold Cv at h
 refine co 16 Tryz.func62 λ C hC => ?_
 subst h
 exact wr n4_ 25 [] [pb Ay4 (Ayz x0.High x1c0 _ rfl), ⟨.when [(!(Ry x0.High x1c0), false)] (.callB 58 [dI x0.Low, .d (.ip [.v (.int .i64 x1c0.Time), .s (x1c0.Power.Ah.map pB), .s (x1c0.Power.Ac.map A_), .s (x1c0.Power.As.map pI), .s (x1c0.Power.Aq.map q86), .s (x1c0.A5.map B1), .s (x1c0.A4.map q51)])] (dB (Ry x0.Low x1c0)) [[]] 0 []), λ hg => Ir ⟨Ay4, (Ayz x0.Low x1c0 _ rfl)⟩⟩] [] 2 [0, 1] hC []
theorem A6g : EN 62 := en Tryz.func62
def Hx : List Nat := [0, 1, 2, 3, 4, 6, 7, 14, 21, 27, 39]
def zQ (x1 : Ao) (z0 : Bool) : St := [(2, dO 0 0), (3, dO 1 0), (4, dB false), (6, dI x1.Kind), (7, dB z0)]
def Aa0 (x0 : Aa) (x1 : Ao) (z0 : Bool) : List Res := [.box 29 (d29 x0), .box 49 (d49 x1)]
def zP (x1 : Ao) (z1 : Bool) : St := [(2, dO 0 0), (3, dO 1 0), (4, dB false), (6, dI x1.Kind), (14, dB z1)]
def Aaz (x0 : Aa) (x1 : Ao) (z1 : Bool) : List Res := [.box 29 (d29 x0), .box 49 (d49 x1)]
theorem A2p (x0 : Aa) (x1 : Ao) (r : Bool) (h : Abg x0 x1 = some r) : CO 134 [.agg (d29 x0), .agg (d49 x1)] [] (.d (Bo r)) [] := by
 unfold Abg at h
 refine co 48 Tryz.func134 λ C hC => ?_
 refine ws Hx 30 [] [] [] 0 [0, 1] [(2, dO 0 0), (3, dO 1 0), (4, dB false), (6, dI x1.Kind), (7, dB (x1.Kind == 1))] [.box 29 (d29 x0), .box 49 (d49 x1)] hC [] ?_
 obtain ⟨w0, h, hret0, hnext0⟩ := Au h
 refine wc w0 (zQ x1) (Aa0 x0 x1) ?_ λ z0 hs0 => ?_
 ·unfold Abf at h
  rcases cB h with ⟨h1, h⟩ | ⟨h1, h⟩
  ·exact wx w0 (zQ x1) (Aa0 x0 x1) Hx 23 [true] [] [] 0 [0, 1] (x1.Kind == 1) hC [pq h1] (sI h).symm
  ·exact wx w0 (zQ x1) (Aa0 x0 x1) Hx 23 [false] [] [] 0 [0, 1] (x1.Kind == 2) hC [pq h1] (sI h).symm
 ·clear h; have h := hnext0 _ hs0
  rcases cB h with ⟨h2, h⟩ | ⟨h2, h⟩
  ·replace h := sI h
   subst h
   exact wr Hx 24 [true] [pc Ys (Ym x0 2 x1.Unit _ rfl) []] [] 0 [] hC [pq h2]
  ·refine ws Hx 25 [false] [] [] 0 [0, 1] [(2, dO 0 0), (3, dO 1 0), (4, dB false), (6, dI x1.Kind), (14, dB (x1.Kind == 3))] [.box 29 (d29 x0), .box 49 (d49 x1)] hC [pq h2] ?_
   obtain ⟨w1, h, hret1, hnext1⟩ := Au h
   refine wc w1 (zP x1) (Aaz x0 x1) ?_ λ z1 hs1 => ?_
   ·unfold Abe at h
    rcases cB h with ⟨h3, h⟩ | ⟨h3, h⟩
    ·exact wx w1 (zP x1) (Aaz x0 x1) Hx 23 [true] [] [] 0 [0, 1] (x1.Kind == 3) hC [pq h3] (sI h).symm
    ·exact wx w1 (zP x1) (Aaz x0 x1) Hx 23 [false] [] [] 0 [0, 1] (x1.Kind == 4) hC [pq h3] (sI h).symm
   ·clear h; have h := hnext1 _ hs1
    rcases cB h with ⟨h4, h⟩ | ⟨h4, h⟩
    ·replace h := sI h
     subst h
     exact wr Hx 24 [true] [pc Ys (Ym x0 1 x1.Unit _ rfl) []] [] 0 [] hC [pq h4]
    ·rcases cB h with ⟨h5, h⟩ | ⟨h5, h⟩
     ·replace h := sI h
      subst h
      exact wr Hx 27 [false, true] [pc Ys (Ym x0 4 x1.Unit _ rfl) []] [] 0 [] hC [pq h4, pq h5]
     ·rcases cB h with ⟨h6, h⟩ | ⟨h6, h⟩
      ·replace h := sI h
       subst h
       exact wr Hx 30 [false, false, true] [pc Ys (Ym x0 1 x1.Unit _ rfl) [], ⟨.when [(J2 x0 1 x1.Unit, true)] (.call 181 [.agg (d29 x0), dI 3, dI x1.Value] [] (dB (J2 x0 3 x1.Value)) [] []), λ hg => ⟨Ys, (Ym x0 3 x1.Value _ rfl)⟩⟩] [] 0 [] hC [pq h4, pq h5, pq h6]
      ·rcases cB h with ⟨h7, h⟩ | ⟨h7, h⟩
       ·replace h := sI h
        subst h
        exact wr Hx 36 [false, false, false, true, true] [pc Ys (Ym x0 x1.Value x1.Unit _ rfl) []] [] 0 [] hC [pq h4, pq h5, pq h6, pq h7, pq h7]
       ·rcases cB h with ⟨h8, h⟩ | ⟨h8, h⟩
        ·replace h := sI h
         subst h
         exact wr Hx 36 [false, false, false, false, true] [pc Ys (Ym x0 x1.Value x1.Unit _ rfl) []] [] 0 [] hC [pq h4, pq h5, pq h6, pq h7, pq h8]
        ·replace h := sI h
         subst h
         exact wr Hx 38 [false, false, false, false, false] [] [] 0 [] hC [pq h4, pq h5, pq h6, pq h7, pq h8]
theorem A4k : EN 134 := en Tryz.func134
theorem A73 (x0 : List An) (x1 : An) (r : Bool) (h : Ars x0 x1 = some r) : CO 157 [.d (DS q86 x0), .agg (d86 x1)] [] (.d (Bo r)) [] := by
 unfold Ars at h
 refine co 9 Tryz.func157 λ C hC => ?_
 obtain ⟨y1, h2, h⟩ := Ad h
 replace h := sI h
 subst h
 exact wr [0, 1, 3, 4] 25 [] [pc A83 (A7m x0 x1 _ h2) []] [] 0 [] hC []
theorem A9k : EN 157 := en Tryz.func157
theorem A7a (x0 : Int) (x1 : Int) (r : Int) (h : Ark x0 x1 = r) : CO 248 [.d (I x0), .d (I x1)] [] (.d (I r)) [] := by
 unfold Ark at h
 refine co 17 Tryz.func248 λ C hC => ?_
 refine ws [0, 1, 4, 5, 13] 28 [] [pc Ah0 (Ag6 x1 _ rfl) [], pc Ah0 (Ag6 x0 _ rfl) [], pc Ah0 (Ag6 (w64 ((Fq x1) - (Fq x0))) _ rfl) []] [] 0 [] [(4, dI 0), (5, .d (I (Fq (w64 ((Fq x1) - (Fq x0)))))), (13, dB (Auq x0 x1))] [] hC [] ?_
 rcases cB h with ⟨h1, h⟩ | ⟨h1, h⟩
 ·subst h
  exact wr [0, 1, 4, 5, 13] 25 [true] [] [] 0 [] hC [pq h1]
 ·subst h
  exact wr [0, 1, 4, 5, 13] 25 [false] [] [] 0 [] hC [pq h1]
theorem A8r : EN 248 := en Tryz.func248
def Lv : List Nat := [0, 1, 4, 5, 7, 8, 9, 16]
def Sn (x0 : List Ak) (n0 : Nat) (z0 : Unit) : St := [(0, .d (DS Bi x0)), (1, .d (.fn (.func 244) [] [.o 0 0])), (4, dI 0), (7, dI (ln x0)), (8, dI (cnt 0 n0))]
def Y_ (x1c0 : Int) (n0 : Nat) (z0 : Unit) : List Res := [.box 3 [I x1c0]]
def Ab3  (z0 : Unit) : St := [(4, dI 0)]
def Adm (x1c0 : Int) (z0 : Unit) : List Res := [.box 3 [I x1c0]]
theorem A1m (x0 : List Ak) (x1c0 : Int) (r : Int × Int) (h : vZ x0 x1c0 = some r) : CO 218 [.d (DS Bi x0), .d (.fn (.func 244) [] [.o 0 0])] [.box 3 [I x1c0]] (.d (I r.1)) [.box 3 [I r.2]] := by
 unfold vZ at h
 refine co 19 Tryz.func218 λ C hC => ?_
 refine ws Lv 26 [] [pl Bi x0] [] 1 [0] (Sn x0 0 ()) (Y_ x1c0 0 ()) hC [] ?_
 obtain ⟨w0, hm0, hret0, hnext0⟩ := Au h
 clear h
 refine wc w0 (Ab3) (Adm x1c0) ?_ λ z0 hs0 => ?_
 ·refine wb ?_
  refine Bn 0 rfl λ hl0 => ?_
  refine A7 (by kernel_rfl) (Kw x1c0) (Sn x0) (Y_ x1c0) w0 x0 () hm0 rfl rfl (λ z0 hn0 => ?_) λ n0 a0 z0 w0b hi0 hx0 h hb0 hr0 => ?_
  ·clear hm0
   exact wx w0 (Ab3) (Adm x1c0) Lv 26 [false] [] [] 1 [0] () hC [pq (Bb hl0)] hn0
  ·unfold Kw at h
   refine ws Lv 32 [true] [pt hx0 hl0, pb A25 (A1a a0 x1c0 _ rfl)] [] 1 [0] [(0, .d (DS Bi x0)), (1, .d (.fn (.func 244) [] [.o 0 0])), (4, dI 0), (5, dI (cnt 0 n0)), (7, dI (ln x0)), (8, dI (cnt 0 n0)), (16, dB (Uv a0 x1c0))] [.box 3 [I x1c0]] hC [pq (A8 hi0 hl0)] ?_
   rcases cB h with ⟨h1, h⟩ | ⟨h1, h⟩
   ·have hq := hret0 _ (hr0 _ (sI h).symm)
    replace hq := sI hq
    subst hq
    exact wr Lv 24 [true] [] [] 1 [0] hC [pq h1]
   ·exact wx w0b (Sn x0 (n0 + 1)) (Y_ x1c0 (n0 + 1)) Lv 25 [false] [] [] 1 [0] () hC [pq h1] (sI h).symm
 ·have h := hnext0 _ hs0
  replace h := sI h
  subst h
  exact wr Lv 23 [] [] [] 1 [0] hC []
theorem A3h : EN 218 := en Tryz.func218
def Lt : List Nat := [0, 1, 2, 4, 6, 7, 8, 9, 10, 11, 17, 31]
def M8 (x0 : List An) (z0 : Int × Int) : St := [(0, .d (DS q86 x0)), (2, .d (.fn (.func 224) [] [])), (4, dO 0 0), (6, dI 0), (7, dB false), (8, dI (ln x0)), (9, dI z0.1), (10, dI z0.2)]
def Rh (x1 : An) (z0 : Int × Int) : List Res := [.box 86 (d86 x1)]
def Ab1 (x0 : List An) (z0 : Int × Int) : St := [(0, .d (DS q86 x0)), (2, .d (.fn (.func 224) [] [])), (4, dO 0 0), (6, dI 0), (7, dB false), (8, dI (ln x0)), (9, dI z0.1)]
def Adk (x1 : An) (z0 : Int × Int) : List Res := [.box 86 (d86 x1)]
theorem Atk (x0 : List An) (x1 : An) (r : Int × Bool) (h : Uz x0 x1 = some r) : CO 223 [.d (DS q86 x0), .agg (d86 x1), .d (.fn (.func 224) [] [])] [] (.tup [.d (I r.1), .d (Bo r.2)]) [] := by
 unfold Uz at h
 refine co 49 Tryz.func223 λ C hC => ?_
 refine ws Lt 28 [] [pl q86 x0] [] 0 [0] (M8 x0 (0, (ln x0))) (Rh x1 (0, (ln x0))) hC [] ?_
 obtain ⟨w0, hm0, hret0, hnext0⟩ := Au h
 clear h
 refine wc w0 (Ab1 x0) (Adk x1) ?_ λ z0 hs0 => ?_
 ·refine wb ?_
  refine B2 (by kernel_rfl) (N6 x0 x1) (M8 x0) (Rh x1) w0 1152921504606846976 (0, (ln x0)) hm0 rfl rfl λ z0 w0b h hb0 hr0 => ?_
  unfold N6 at h
  rcases cB h with ⟨h1, h⟩ | ⟨h1, h⟩
  ·obtain ⟨y2, h3, h⟩ := Ad h
   refine ws Lt 31 [true] [pr q86 h3, pc A3e (A1j y2 x1 _ rfl) []] [] 0 [0] [(0, .d (DS q86 x0)), (2, .d (.fn (.func 224) [] [])), (4, dO 0 0), (6, dI 0), (7, dB false), (8, dI (ln x0)), (9, dI z0.1), (10, dI z0.2), (11, .d (I (w64 (Fw .u64 (IntKind.wrap .u64 (w64 (z0.1 + z0.2))) 1)))), (31, dB (decide ((Ox y2 x1) < 0)))] [.box 86 (d86 x1)] hC [pq h1] ?_
   rcases cB h with ⟨h4, h⟩ | ⟨h4, h⟩
   ·exact wx w0b (M8 x0) (Rh x1) Lt 24 [true] [] [] 0 [0] (w64 ((w64 (Fw .u64 (IntKind.wrap .u64 (w64 (z0.1 + z0.2))) 1)) + 1), z0.2) hC [pq h4] (sI h).symm
   ·exact wx w0b (M8 x0) (Rh x1) Lt 24 [false] [] [] 0 [0] (z0.1, w64 (Fw .u64 (IntKind.wrap .u64 (w64 (z0.1 + z0.2))) 1)) hC [pq h4] (sI h).symm
  ·exact wx w0 (Ab1 x0) (Adk x1) Lt 26 [false] [] [] 0 [0] (z0.1, z0.2) hC [pq h1] (hb0 _ (sI h).symm)
 ·have h := hnext0 _ hs0
  obtain ⟨y5, h6, h⟩ := Ad h
  replace h := sI h
  subst h
  exact wr Lt 23 [] [pR q86 h6, ⟨.when [(decide (z0.1 < (ln x0)), true)] (.call 224 [.agg (d86 y5), .agg (d86 x1)] [] (dI (Ox y5 x1)) [] []), λ hg => ⟨A3e, (A1j y5 x1 _ rfl)⟩⟩] [] 0 [] hC []
theorem Aud : EN 223 := en Tryz.func223
def Ht : List Nat := [0, 1, 4, 5, 6, 8, 13, 14, 15, 16, 32, 38, 39, 40, 41]
def Nb (x0 : Ay) (n0 : Nat) (z0 : (List Int)) : St := [(0, dO 0 0), (1, .d (.fn (.func 235) [] [.o 6 0])), (4, dS 7), (13, .d (DS Bi x0.Al.Af)), (14, dI (ln x0.Al.Af)), (15, dI (cnt 0 n0))]
def Rl (x0 : Ay) (x1c0 : Int) (n0 : Nat) (z0 : (List Int)) : List Res := (.box 235 (zb x0.Al [.os 8, .os 9, .os 10, .os 11, .os 12]) :: .non :: .non :: .non :: .non :: .non :: .box 3 [I x1c0] :: v0_ z0 :: zp x0.Ar [v6_ x0.acts])
def Ab8  (z0 : (List Int)) : St := [(0, dO 0 0), (4, dS 7)]
def Adr (x0 : Ay) (x1c0 : Int) (z0 : (List Int)) : List Res := (.box 235 (zb x0.Al [.os 8, .os 9, .os 10, .os 11, .os 12]) :: .non :: .non :: .non :: .non :: .non :: .box 3 [I x1c0] :: v0_ z0 :: zp x0.Ar [v6_ x0.acts])
def So (z0 : (List Int)) (n1 : Nat) (z1 : Sg6) : St := [(0, dO 0 0), (38, dS 7), (39, dI (ln z0)), (40, dI (cnt 0 n1))]
def Za (x1c0 : Int) (z0 : (List Int)) (n1 : Nat) (z1 : Sg6) : List Res := [.box 235 [I z1.1, DS Bi z1.2.1, DS Bt z1.2.2.1, DS q65 (g3_ z1), I (g4_ z1), I (g5_ z1), .os 8, .os 9, .os 10, .os 11, .os 12], .non, .non, .non, .non, .non, .box 3 [I x1c0], v0_ z0, v2_ (g6_ z1), v4_ (g7_ z1), v0_ (g8_ z1), v3_ (g9_ z1), v6_ (Df z1)]
def Ab7  (z1 : Sg6) : St := []
def Adq (x1c0 : Int) (z1 : Sg6) : List Res := [.box 235 [I z1.1, DS Bi z1.2.1, DS Bt z1.2.2.1, DS q65 (g3_ z1), I (g4_ z1), I (g5_ z1), .os 7, .os 8, .os 9, .os 10, .os 11], .non, .non, .non, .non, .non, .box 3 [I x1c0], v2_ (g6_ z1), v4_ (g7_ z1), v0_ (g8_ z1), v3_ (g9_ z1), v6_ (Df z1)]
theorem A1t (x0 : Ay) (x1c0 : Int) (r : Ay × Int) (h : U8 x0 x1c0 = some r) : CO 204 [.d (.o 0 0), .d (.fn (.func 235) [] [.o 6 0])] (.box 235 (zb x0.Al [.os 1, .os 2, .os 3, .os 4, .os 5]) :: zp x0.Ar [v6_ x0.acts, .box 3 [I x1c0]]) (.tup []) (.box 235 (zb r.1.Al [.os 7, .os 8, .os 9, .os 10, .os 11]) :: .non :: .non :: .non :: .non :: .non :: .box 3 [I r.2] :: zp r.1.Ar [v6_ r.1.acts]) := by
 unfold U8 at h
 refine co 48 Tryz.func204 λ C hC => ?_
 refine ws Ht 26 [] [pl Bi x0.Al.Af] [.own 4 3 1, .mv 1, .mv 2, .mv 3, .mv 4, .mv 5] 7 H9 (Nb x0 0 ([] : List Int)) (Rl x0 x1c0 0 ([] : List Int)) hC [] ?_
 obtain ⟨w0, hm0, hret0, hnext0⟩ := Au h
 clear h
 refine wc w0 (Ab8) (Adr x0 x1c0) ?_ λ z0 hs0 => ?_
 ·refine wb ?_
  refine Bn 13 rfl λ hl0 => ?_
  refine A7 (by kernel_rfl) (N_ x0 x1c0) (Nb x0) (Rl x0 x1c0) w0 x0.Al.Af ([] : List Int) hm0 rfl rfl (λ z0 hn0 => ?_) λ n0 a0 z0 w0b hi0 hx0 h hb0 hr0 => ?_
  ·clear hm0
   exact wx w0 (Ab8) (Adr x0 x1c0) Ht 26 [false] [] [] 7 H9 z0 hC [pq (Bb hl0)] hn0
  ·unfold N_ at h
   obtain ⟨y1, h2, h⟩ := Ad h
   refine ws Ht 32 [true] [pt hx0 hl0, pr pB h2, pn pB h2, ⟨.when [(y1, true)] (.callB 235 [.agg (F7 a0), .d (.ip [.v (.int .i64 x1c0)])] (dB (Pt a0 x1c0)) [[]] 0 []), λ hg => Ir ⟨A28, (A1d a0 x1c0 _ rfl)⟩⟩] [] 7 H9 [(0, dO 0 0), (1, .d (.fn (.func 235) [] [.o 6 0])), (4, dS 7), (5, dI (cnt 0 n0)), (13, .d (DS Bi x0.Al.Af)), (14, dI (ln x0.Al.Af)), (15, dI (cnt 0 n0)), (32, dB (y1 && (Pt a0 x1c0)))] (.box 235 (zb x0.Al [.os 8, .os 9, .os 10, .os 11, .os 12]) :: .non :: .non :: .non :: .non :: .non :: .box 3 [I x1c0] :: v0_ z0 :: zp x0.Ar [v6_ x0.acts]) hC [pq (A8 hi0 hl0)] ?_
   rcases cB h with ⟨h3, h⟩ | ⟨h3, h⟩
   ·obtain ⟨y4, h5, h⟩ := Ad h
    exact wx w0b (Nb x0 (n0 + 1)) (Rl x0 x1c0 (n0 + 1)) Ht 25 [true] [pa pI 1 h5] [] 7 [0, 1, 2, 3, 4, 5, 6, 13, 8, 9, 10, 11, 12] y4 hC [pq h3] (sI h).symm
   ·exact wx w0b (Nb x0 (n0 + 1)) (Rl x0 x1c0 (n0 + 1)) Ht 25 [false] [] [] 7 H9 z0 hC [pq h3] (sI h).symm
 ·have h := hnext0 _ hs0
  refine ws Ht 23 [] [pl pI z0] [] 7 H9 (So z0 0 (zt x0.Al (zu x0.Ar x0.acts))) (Za x1c0 z0 0 (zt x0.Al (zu x0.Ar x0.acts))) hC [] ?_
  obtain ⟨w1, hm1, hret1, hnext1⟩ := Au h
  clear h
  refine wc w1 (Ab7) (Adq x1c0) ?_ λ z1 hs1 => ?_
  ·refine wb ?_
   refine Cj 38 7 rfl rfl λ hl1 => ?_
   refine A7 (by kernel_rfl) U7 (So z0) (Za x1c0 z0) w1 z0 (zt x0.Al (zu x0.Ar x0.acts)) hm1 rfl rfl (λ z1 hn1 => ?_) λ n1 a1 z1 w1b hi1 hx1 h hb1 hr1 => ?_
   ·clear hm1
    exact wx w1 (Ab7) (Adq x1c0) Ht 26 [false] [] [] 7 [0, 1, 2, 3, 4, 5, 6, 8, 9, 10, 11, 12] (z1.1, z1.2.1, z1.2.2.1, (g3_ z1), (g4_ z1), (g5_ z1), (g6_ z1), (g7_ z1), (g8_ z1), (g9_ z1), (Df z1)) hC [pq (Bb hl1)] hn1
   ·unfold U7 at h
    obtain ⟨y6, h7, h⟩ := Ad h
    exact wx w1b (So z0 (n1 + 1)) (Za x1c0 z0 (n1 + 1)) Ht 33 [true] [pr pI (Bl hx1 hl1), pn pI (Bl hx1 hl1), pc Ahz (Ag5 (⟨(⟨z1.1, z1.2.1, z1.2.2.1, (g3_ z1), (g4_ z1), (g5_ z1)⟩ : Aa), (⟨(g6_ z1), (g7_ z1), (g8_ z1), (g9_ z1)⟩ : Ab), (Df z1)⟩ : Ay) a1 _ h7) [0, 8, 9, 10, 11, 12]] [] 7 [0, 1, 2, 3, 4, 5, 6, 7, 8, 9, 10, 11, 13] (zt y6.Al (zu y6.Ar y6.acts)) hC [pq (A8 hi1 hl1)] (sI h).symm
  ·have h := hnext1 _ hs1
   replace h := sI h
   subst h
   exact wf Ht 20 [] [] [] 7 Fo hC []
theorem A3o : EN 204 := en Tryz.func204
theorem A2n (x0 : Int) (x1 : Int) (r : Int × Int) (h : Gd x0 x1 = r) : CO 140 [.d (.p (.v (.int .u64 x0))), .d (.p (.v (.int .u64 x1)))] [] (.tup [.d (.p (.v (.int .u64 r.1))), .d (.p (.v (.int .u64 r.2)))]) [] := by
 unfold Gd at h
 refine co 30 Tryz.func140 λ C hC => ?_
 subst h
 exact wr [0, 1, 4, 5, 6, 7, 8, 9] 30 [false] [pc A85 (A7o x0 x1 _ rfl) []] [] 0 [] hC [⟨(false, false), rfl⟩]
theorem A4i : EN 140 := en Tryz.func140
def Lu : List Nat := [0, 1, 4, 5, 7, 8, 9, 16]
def Sm (x0 : List Ak) (n0 : Nat) (z0 : Unit) : St := [(0, .d (DS Bi x0)), (1, .d (.fn (.func 219) [] [.o 0 0])), (4, dI 0), (7, dI (ln x0)), (8, dI (cnt 0 n0))]
def Y9 (x1c0 : Int) (n0 : Nat) (z0 : Unit) : List Res := [.box 3 [I x1c0]]
def Ab2  (z0 : Unit) : St := [(4, dI 0)]
def Adl (x1c0 : Int) (z0 : Unit) : List Res := [.box 3 [I x1c0]]
theorem A1l (x0 : List Ak) (x1c0 : Int) (r : Int × Int) (h : vY x0 x1c0 = some r) : CO 218 [.d (DS Bi x0), .d (.fn (.func 219) [] [.o 0 0])] [.box 3 [I x1c0]] (.d (I r.1)) [.box 3 [I r.2]] := by
 unfold vY at h
 refine co 19 Tryz.func218 λ C hC => ?_
 refine ws Lu 26 [] [pl Bi x0] [] 1 [0] (Sm x0 0 ()) (Y9 x1c0 0 ()) hC [] ?_
 obtain ⟨w0, hm0, hret0, hnext0⟩ := Au h
 clear h
 refine wc w0 (Ab2) (Adl x1c0) ?_ λ z0 hs0 => ?_
 ·refine wb ?_
  refine Bn 0 rfl λ hl0 => ?_
  refine A7 (by kernel_rfl) (Kv x1c0) (Sm x0) (Y9 x1c0) w0 x0 () hm0 rfl rfl (λ z0 hn0 => ?_) λ n0 a0 z0 w0b hi0 hx0 h hb0 hr0 => ?_
  ·clear hm0
   exact wx w0 (Ab2) (Adl x1c0) Lu 26 [false] [] [] 1 [0] () hC [pq (Bb hl0)] hn0
  ·unfold Kv at h
   refine ws Lu 32 [true] [pt hx0 hl0, pb A3f (A1k a0 x1c0 _ rfl)] [] 1 [0] [(0, .d (DS Bi x0)), (1, .d (.fn (.func 219) [] [.o 0 0])), (4, dI 0), (5, dI (cnt 0 n0)), (7, dI (ln x0)), (8, dI (cnt 0 n0)), (16, dB (U0 a0 x1c0))] [.box 3 [I x1c0]] hC [pq (A8 hi0 hl0)] ?_
   rcases cB h with ⟨h1, h⟩ | ⟨h1, h⟩
   ·have hq := hret0 _ (hr0 _ (sI h).symm)
    replace hq := sI hq
    subst hq
    exact wr Lu 24 [true] [] [] 1 [0] hC [pq h1]
   ·exact wx w0b (Sm x0 (n0 + 1)) (Y9 x1c0 (n0 + 1)) Lu 25 [false] [] [] 1 [0] () hC [pq h1] (sI h).symm
 ·have h := hnext0 _ hs0
  replace h := sI h
  subst h
  exact wr Lu 23 [] [] [] 1 [0] hC []
theorem A3g : EN 218 := en Tryz.func218
theorem A7n (x0 : Dc) (r : Int) (h : Arn x0 = r) : CO 198 [.agg (Aqa x0)] [] (.d (I r)) [] := by
 unfold Arn at h
 refine co 9 Tryz.func198 λ C hC => ?_
 subst h
 exact wr n3_ 25 [] [pc Ah0 (Ag6 (w64 (x0.To - x0.From)) _ rfl) []] [] 0 [] hC []
theorem A84 : EN 198 := en Tryz.func198
def Tn : List Nat := [0, 1, 4, 5, 7, 8, 9, 16]
def Afr (x0 : List A1) (n0 : Nat) (z0 : Unit) : St := [(0, .d (DS q65 x0)), (1, .d (.fn (.func 45) [] [.o 0 0])), (4, dI 0), (7, dI (ln x0)), (8, dI (cnt 0 n0))]
def Aox (x1c0 : Int) (n0 : Nat) (z0 : Unit) : List Res := [.box 3 [I x1c0]]
def Aga  (z0 : Unit) : St := [(4, dI 0)]
def Ai8 (x1c0 : Int) (z0 : Unit) : List Res := [.box 3 [I x1c0]]
theorem A5y (x0 : List A1) (x1c0 : Int) (r : Int × Int) (h : Arj x0 x1c0 = some r) : CO 44 [.d (DS q65 x0), .d (.fn (.func 45) [] [.o 0 0])] [.box 3 [I x1c0]] (.d (I r.1)) [.box 3 [I r.2]] := by
 unfold Arj at h
 refine co 19 Tryz.func44 λ C hC => ?_
 refine ws Tn 26 [] [pl q65 x0] [] 1 [0] (Afr x0 0 ()) (Aox x1c0 0 ()) hC [] ?_
 obtain ⟨w0, hm0, hret0, hnext0⟩ := Au h
 clear h
 refine wc w0 (Aga) (Ai8 x1c0) ?_ λ z0 hs0 => ?_
 ·refine wb ?_
  refine Bn 0 rfl λ hl0 => ?_
  refine A7 (by kernel_rfl) (Zu x1c0) (Afr x0) (Aox x1c0) w0 x0 () hm0 rfl rfl (λ z0 hn0 => ?_) λ n0 a0 z0 w0b hi0 hx0 h hb0 hr0 => ?_
  ·clear hm0
   exact wx w0 (Aga) (Ai8 x1c0) Tn 26 [false] [] [] 1 [0] () hC [pq (Bb hl0)] hn0
  ·unfold Zu at h
   refine ws Tn 32 [true] [pt hx0 hl0, pb A6i (A5x a0 x1c0 _ rfl)] [] 1 [0] [(0, .d (DS q65 x0)), (1, .d (.fn (.func 45) [] [.o 0 0])), (4, dI 0), (5, dI (cnt 0 n0)), (7, dI (ln x0)), (8, dI (cnt 0 n0)), (16, dB (Afc a0 x1c0))] [.box 3 [I x1c0]] hC [pq (A8 hi0 hl0)] ?_
   rcases cB h with ⟨h1, h⟩ | ⟨h1, h⟩
   ·have hq := hret0 _ (hr0 _ (sI h).symm)
    replace hq := sI hq
    subst hq
    exact wr Tn 24 [true] [] [] 1 [0] hC [pq h1]
   ·cases h
 ·have h := hnext0 _ hs0
  replace h := sI h
  subst h
  exact wr Tn 23 [] [] [] 1 [0] hC []
theorem A6j : EN 44 := en Tryz.func44
theorem A2u (rec46 : Aa -> Ab -> Int -> Option Bool) (ih46 : ∀ (x0 : Aa) (x1 : Ab) (x2 : Int) (r : Bool), rec46 x0 x1 x2 = some r -> CO 46 [.agg (d29 x0), .agg (d36 x1), .d (I x2)] [] (.d (Bo r)) []) (x0 : Int) (x1 : Aa) (x2 : Ab) (r : Bool) (h : Ak4 rec46 x0 x1 x2 = some r) : CO 105 [.d (I x0), .d (.ip [.v (.int .i64 x1.Am), .s (x1.Af.map Bi), .s (x1.Ac.map Bt), .s (x1.Ae.map q65), .v (.int .i64 x1.Phase), .v (.int .i64 x1.Ap)]), .d (.ip [.s (x2.Ah.map pB), .s (x2.Ac.map A_), .s (x2.As.map pI), .s (x2.Aq.map q86)])] [] (.d (Bo r)) [] := by
 unfold Ak4 at h
 refine co 10 Tryz.func105 λ C hC => ?_
 obtain ⟨y1, h2, h⟩ := Ad h
 replace h := sI h
 subst h
 exact wr [0, 1, 2, 4] 25 [] [pc e46 (ih46 x1 x2 x0 _ h2) []] [] 0 [] hC []
theorem A4p : EN 105 := en Tryz.func105
theorem A7l (x0 : Int) (x1 : Int) (r : Int) (h : Ayg x0 x1 = some r) : CO 202 [.d (I x0), .d (I x1)] [] (.d (I r)) [] := by
 unfold Ayg at h
 refine co 10 Tryz.func202 λ C hC => ?_
 obtain ⟨y1, h2, h⟩ := Ad h
 replace h := sI h
 subst h
 exact wr [0, 1, 4] 25 [] [pc A81 (A7k (w64 (0 - x0)) x1 _ h2) []] [] 0 [] hC []
theorem A82 : EN 202 := en Tryz.func202
def Pc : List Nat := [0, 1, 4, 5, 7, 8, 9, 16]
def Sx (x0 : List Aj) (n0 : Nat) (z0 : Unit) : St := [(0, .d (DS q84 x0)), (1, .d (.fn (.func 90) [] [])), (4, dI 0), (7, dI (ln x0)), (8, dI (cnt 0 n0))]
def Zi  (n0 : Nat) (z0 : Unit) : List Res := []
def Acl  (z0 : Unit) : St := [(4, dI 0)]
def Ad4  (z0 : Unit) : List Res := []
theorem A2m (x0 : List Aj) (r : Int) (h : Aky x0 = some r) : CO 141 [.d (DS q84 x0), .d (.fn (.func 90) [] [])] [] (.d (I r)) [] := by
 unfold Aky at h
 refine co 19 Tryz.func141 λ C hC => ?_
 refine ws Pc 26 [] [pl q84 x0] [] 0 [] (Sx x0 0 ()) (Zi 0 ()) hC [] ?_
 obtain ⟨w0, hm0, hret0, hnext0⟩ := Au h
 clear h
 refine wc w0 (Acl) (Ad4) ?_ λ z0 hs0 => ?_
 ·refine wb ?_
  refine Bn 0 rfl λ hl0 => ?_
  refine A7 (by kernel_rfl) Vk (Sx x0) (Zi) w0 x0 () hm0 rfl rfl (λ z0 hn0 => ?_) λ n0 a0 z0 w0b hi0 hx0 h hb0 hr0 => ?_
  ·clear hm0
   exact wx w0 (Acl) (Ad4) Pc 26 [false] [] [] 0 [] () hC [pq (Bb hl0)] hn0
  ·unfold Vk at h
   rcases cB h with ⟨h1, h⟩ | ⟨h1, h⟩
   ·have hq := hret0 _ (hr0 _ (sI h).symm)
    replace hq := sI hq
    subst hq
    exact wr Pc 35 [true, true] [pt hx0 hl0, pc e90 (k90 a0 _ rfl) []] [] 0 [] hC [pq (A8 hi0 hl0), pq h1]
   ·exact wx w0b (Sx x0 (n0 + 1)) (Zi (n0 + 1)) Pc 36 [true, false] [pt hx0 hl0, pc e90 (k90 a0 _ rfl) []] [] 0 [] () hC [pq (A8 hi0 hl0), pq h1] (sI h).symm
 ·have h := hnext0 _ hs0
  replace h := sI h
  subst h
  exact wr Pc 23 [] [] [] 0 [] hC []
theorem A4h : EN 141 := en Tryz.func141
theorem k78 (x0 : Ai) (x1 : Int) (x2 : Int) (r : Int × Ai) (h : F78 x0 x1 x2 = some r) : CO 78 [.d (.o 0 0), .d (I x1), .d (I x2)] [.box 90 (d90 x0)] (.d (I r.1)) [.box 90 (d90 r.2)] := by
 unfold F78 at h
 refine co 15 Tryz.func78 λ C hC => ?_
 obtain ⟨y1, h2, h⟩ := Ad h
 replace h := sI h
 subst h
 exact wr [0, 1, 2, 6] 25 [] [pc e32 (k32 x0 (w64 ((w64 (x2 - x1)) + 1)) _ h2) [0]] [] 1 [0] hC []
theorem e78 : EN 78 := en Tryz.func78
theorem k40 (x0 : Ai) (x1 : List Int) (r : Int × Ai) (h : F40 x0 x1 = some r) : CO 40 [.d (.o 0 0), .d (DS pI x1)] [.box 90 (d90 x0)] (.d (I r.1)) [.box 90 (d90 r.2)] := by
 unfold F40 at h
 refine co 12 Tryz.func40 λ C hC => ?_
 obtain ⟨y1, h2, h⟩ := Ad h
 obtain ⟨y3, h4, h⟩ := Ad h
 replace h := sI h
 subst h
 exact wr [0, 1, 4] 25 [] [pl pI x1, pc e32 (k32 x0 (ln x1) _ h2) [0], pr pI h4] [] 1 [0] hC []
theorem e40 : EN 40 := en Tryz.func40
theorem A2t (x0 : Aa) (r : Int) (h : Ak3 x0 = some r) : CO 111 [.agg (d29 x0)] [] (.d (I r)) [] := by
 unfold Ak3 at h
 refine co 62 Tryz.func111 λ C hC => ?_
 refine ws [0, 1, 2, 28, 61] 26 [] [pL_ [(((decide (x0.Am < 1)) || (decide (x0.Am > 6))), false)] Bi x0.Af, pL_ [((((decide (x0.Am < 1)) || (decide (x0.Am > 6))) || (decide ((ln x0.Af) > 24))), false)] Bt x0.Ac, pL_ [(((((decide (x0.Am < 1)) || (decide (x0.Am > 6))) || (decide ((ln x0.Af) > 24))) || (decide ((ln x0.Ac) > 8))), false)] q65 x0.Ae] [] 0 [0] [(1, dO 0 0), (2, dI 0), (28, dB (uM x0))] [.box 29 (d29 x0)] hC [] ?_
 rcases cB h with ⟨h1, h⟩ | ⟨h1, h⟩
 ·replace h := sI h
  subst h
  exact wr [0, 1, 2, 28, 61] 24 [true] [] [] 0 [] hC [pq h1]
 ·obtain ⟨y2, h3, h⟩ := Ad h
  obtain ⟨y4, h5, h⟩ := Ad h
  obtain ⟨y6, h7, h⟩ := Ad h
  refine ws [0, 1, 2, 28, 61] 26 [false] [pc A9h (A70 x0 _ h3) [], pw A9g (λ hg => A7z x0 _ (Ba h5 hg)) [], pw A9f (λ hg => A7y x0 _ (Ba h7 hg)) []] [] 0 [] [(2, dI 0), (61, dB (uL x0 y2 y4 y6))] [] hC [pq h1] ?_
  rcases cB h with ⟨h8, h⟩ | ⟨h8, h⟩
  ·replace h := sI h
   subst h
   exact wr [0, 1, 2, 28, 61] 24 [true] [] [] 0 [] hC [pq h8]
  ·replace h := sI h
   subst h
   exact wr [0, 1, 2, 28, 61] 25 [false] [] [] 0 [] hC [pq h8]
theorem A4o : EN 111 := en Tryz.func111
theorem A11 (x0 : List (List Int)) (r : Bool) (h : Vd x0 = some r) : CO 191 [.d (DS (pL pI) x0), .d (.fn (.func 192) [] [])] [] (.d (Bo r)) [] := by
 unfold Vd at h
 refine co 9 Tryz.func191 λ C hC => ?_
 obtain ⟨y1, h2, h⟩ := Ad h
 replace h := sI h
 subst h
 exact wr [0, 1, 4] 25 [] [pc A3b (A1g x0 _ h2) []] [] 0 [] hC []
theorem A3w : EN 191 := en Tryz.func191
def Aaa : List Nat := [0, 1, 2, 4, 5, 6, 7, 8, 9, 10, 49]
def Afg (x1 : List An) (n0 : Nat) (z0 : Unit) : St := [(1, .d (DS q86 x1)), (2, dO 0 0), (4, dB false), (7, .d (DS q86 x1)), (8, dI (ln x1)), (9, dI (cnt 0 n0))]
def Aqv (x0 : Aa) (n0 : Nat) (z0 : Unit) : List Res := [.box 29 (d29 x0)]
def Asc (x1 : List An) (z0 : Unit) : St := [(1, .d (DS q86 x1)), (4, dB false)]
def Au5  (z0 : Unit) : List Res := []
theorem k95 (x0 : Aa) (x1 : List An) (r : Bool) (h : F95 x0 x1 = some r) : CO 95 [.agg (d29 x0), .d (DS q86 x1)] [] (.d (Bo r)) [] := by
 unfold F95 at h
 refine co 54 Tryz.func95 λ C hC => ?_
 refine ws Aaa 26 [] [pl q86 x1] [] 0 [0] (Afg x1 0 ()) (Aqv x0 0 ()) hC [] ?_
 obtain ⟨w0, hm0, hret0, hnext0⟩ := Au h
 clear h
 refine wc w0 (Asc x1) (Au5) ?_ λ z0 hs0 => ?_
 ·refine wb ?_
  refine Bn 7 rfl λ hl0 => ?_
  refine A7 (by kernel_rfl) (Un x0 x1) (Afg x1) (Aqv x0) w0 x1 () hm0 rfl rfl (λ z0 hn0 => ?_) λ n0 a0 z0 w0b hi0 hx0 h hb0 hr0 => ?_
  ·clear hm0
   exact wx w0 (Asc x1) (Au5) Aaa 26 [false] [] [] 0 [] () hC [pq (Bb hl0)] hn0
  ·unfold Un at h
   obtain ⟨y1, h2, h⟩ := Ad h
   obtain ⟨y3, h4, h⟩ := Ad h
   obtain ⟨y5, h6, h⟩ := Ad h
   refine ws Aaa 32 [true] [pt hx0 hl0, pc A9m (A75 x0 a0.Kind _ rfl) [], pc e99 (k99 a0.Number 0 (w64 ((Le x0 a0.Kind) - 1)) _ rfl) [], pR q86 h2, ⟨.when [(!(F99 a0.Number 0 (w64 ((Le x0 a0.Kind) - 1))), false), (decide ((cnt 0 n0) > 0), true)] (.call 154 [dI y1.Kind, dI a0.Kind] [] (dI (J4 y1.Kind a0.Kind)) [] []), λ hg => ⟨Axo, (Aw6 y1.Kind a0.Kind _ rfl)⟩⟩, pR q86 h4, ⟨.when [(!(F99 a0.Number 0 (w64 ((Le x0 a0.Kind) - 1))), false), (decide ((cnt 0 n0) > 0), true)] (.call 154 [dI y3.Number, dI a0.Number] [] (dI (J4 y3.Number a0.Number)) [] []), λ hg => ⟨Axo, (Aw6 y3.Number a0.Number _ rfl)⟩⟩, pw A9l (λ hg => A74 [J4 y1.Kind a0.Kind, J4 y3.Number a0.Number] _ (Ba h6 hg)) []] [] 0 [0] [(1, .d (DS q86 x1)), (2, dO 0 0), (4, dB false), (7, .d (DS q86 x1)), (8, dI (ln x1)), (9, dI (cnt 0 n0)), (49, dB (Aqe x0 n0 a0 y5))] [.box 29 (d29 x0)] hC [pq (A8 hi0 hl0)] ?_
   rcases cB h with ⟨h7, h⟩ | ⟨h7, h⟩
   ·have hq := hret0 _ (hr0 _ (sI h).symm)
    replace hq := sI hq
    subst hq
    exact wr Aaa 24 [true] [] [] 0 [] hC [pq h7]
   ·exact wx w0b (Afg x1 (n0 + 1)) (Aqv x0 (n0 + 1)) Aaa 25 [false] [] [] 0 [0] () hC [pq h7] (sI h).symm
 ·have h := hnext0 _ hs0
  replace h := sI h
  subst h
  exact wr Aaa 23 [] [pl q86 x1] [] 0 [] hC []
theorem e95 : EN 95 := en Tryz.func95
theorem k97 (x0 : Ag) (r : Bool) (h : F97 x0 = r) : CO 97 [.agg (T9 x0)] [] (.d (Bo r)) [] := by
 unfold F97 at h
 refine co 6 Tryz.func97 λ C hC => ?_
 subst h
 exact wr n3_ 25 [] [pc e98 (k98 x0 _ rfl) []] [] 0 [] hC []
theorem e97 : EN 97 := en Tryz.func97
def Jv : List Nat := [0, 1, 4, 5, 6, 7, 12, 19, 29]
def Nh  (z0 : Int × Int × (List Aj)) : St := [(0, dS 0), (1, .d (.fn (.func 146) [] [])), (4, .d (DS q84 [])), (5, dI z0.1), (6, dI z0.2.1)]
def Rt  (z0 : Int × Int × (List Aj)) : List Res := [v8_ z0.2.2]
def Ack  (z0 : Int × Int × (List Aj)) : St := [(0, dS 0), (4, .d (DS q84 [])), (5, dI z0.1)]
def Ad3  (z0 : Int × Int × (List Aj)) : List Res := [v8_ z0.2.2]
theorem Atn (x0 : List Aj) (r : (List Aj)) (h : P4 x0 = some r) : CO 145 [.d (.os 0), .d (.fn (.func 146) [] [])] [.sl 84 3 (x0.map q84)] (.d (.os 1)) [.non, .sl 84 3 (r.map q84)] := by
 unfold P4 at h
 refine co 42 Tryz.func145 λ C hC => ?_
 obtain ⟨y1, h2, h⟩ := Ad h
 rcases cB h with ⟨h3, h⟩ | ⟨h3, h⟩
 ·replace h := sI h
  subst h
  exact wr Jv 31 [true] [pb Auh (Ato x0 _ h2)] [.mv 0] 1 [0, 1] hC [pq h3]
 ·refine ws Jv 33 [false] [pb Auh (Ato x0 _ h2)] [] 1 [0] (Nh (y1, w64 (y1 + 1), x0)) (Rt (y1, w64 (y1 + 1), x0)) hC [pq h3] ?_
  obtain ⟨w0, hm0, hret0, hnext0⟩ := Au h
  clear h
  refine wc w0 (Ack) (Ad3) ?_ λ z0 hs0 => ?_
  ·refine wb ?_
   refine B2 (by kernel_rfl) Of (Nh) (Rt) w0 1152921504606846976 (y1, w64 (y1 + 1), x0) hm0 rfl rfl λ z0 w0b h hb0 hr0 => ?_
   unfold Of at h
   rcases cB h with ⟨h4, h⟩ | ⟨h4, h⟩
   ·obtain ⟨y5, h6, h⟩ := Ad h
    refine ws Jv 32 [true] [pl q84 z0.2.2, pr q84 h6, pn q84 h6, pc A4f (A2k y5 _ rfl) []] [] 1 [0, 1] [(0, dS 0), (1, .d (.fn (.func 146) [] [])), (4, .d (DS q84 [])), (5, dI z0.1), (6, dI z0.2.1), (7, dO 1 0), (29, dB (!(Aba y5)))] [v8_ z0.2.2, .box 84 (d84 y5)] hC [pq h4] ?_
    rcases cB h with ⟨h7, h⟩ | ⟨h7, h⟩
    ·obtain ⟨y8, h9, h⟩ := Ad h
     obtain ⟨y10, h11, h⟩ := Ad h
     exact wx w0b (Nh) (Rt) Jv 27 [true] [pr q84 h9, pu q84 h9 h11] [] 1 [0] (w64 (z0.1 + 1), w64 (z0.2.1 + 1), y10) hC [pq h7] (sI h).symm
    ·exact wx w0b (Nh) (Rt) Jv 25 [false] [] [] 1 [0] (z0.1, w64 (z0.2.1 + 1), z0.2.2) hC [pq h7] (sI h).symm
   ·exact wx w0 (Ack) (Ad3) Jv 26 [false] [pl q84 z0.2.2] [] 1 [0] (z0.1, z0.2.1, z0.2.2) hC [pq h4] (hb0 _ (sI h).symm)
  ·have h := hnext0 _ hs0
   obtain ⟨u13, h12, h⟩ := Ad h
   obtain ⟨u15, h14, h⟩ := Ad h
   replace h := sI h
   subst h
   (rw [List.map_take]; exact uR (bs := []) Ib Jv 25 [] [.bnd (z0.2.2.map q84).length z0.1 (((z0.2.2.map q84).length : Nat) : Int) (ln z0.2.2), .eqr ((z0.2.2.map q84).take (Int.toNat z0.1) ++ (List.replicate ((Int.toNat (ln z0.2.2)) - (Int.toNat z0.1)) (q84 (⟨([] : List Int), ([] : List Int), ([] : List Int)⟩ : Aj)) ++ (z0.2.2.map q84).drop ((Int.toNat z0.1) + ((Int.toNat (ln z0.2.2)) - (Int.toNat z0.1))))) ((Gj z0.2.2 (Int.toNat z0.1) ((Int.toNat (ln z0.2.2)) - (Int.toNat z0.1)) (⟨([] : List Int), ([] : List Int), ([] : List Int)⟩ : Aj)).map q84), .bnd ((Gj z0.2.2 (Int.toNat z0.1) ((Int.toNat (ln z0.2.2)) - (Int.toNat z0.1)) (⟨([] : List Int), ([] : List Int), ([] : List Int)⟩ : Aj)).map q84).length 0 z0.1 z0.1] [.trunc 4] [.tmp 4] 1 [0, 1] rfl hC ⟨Ef (by simp) (by simp) h12, Aau q84 rfl, Ef (by simp) rfl h14, trivial⟩ trivial (by kernel_rfl))
theorem Aug : EN 145 := en Tryz.func145
def L7 : List Nat := [0, 1, 4, 5, 7, 8, 9, 16]
def S6 (x0 : List Az) (n0 : Nat) (z0 : Sg0) : St := [(0, .d (DS B1 x0)), (1, .d (.fn (.func 62) [] [.o 0 0])), (4, dI 0), (7, dI (ln x0)), (8, dI (cnt 0 n0))]
def Zo  (n0 : Nat) (z0 : Sg0) : List Res := [.box 126 [.fn (.func 58) [] [.o 1 0]], .box 40 [I z0.1, DS pB z0.2.1, DS A_ z0.2.2.1, DS pI (g3_ z0), DS q86 (g4_ z0), DS B1 (g5_ z0), DS q51 (G5 z0)]]
def Acu  (z0 : Sg0) : St := [(4, dI 0)]
def Aec  (z0 : Sg0) : List Res := [.box 126 [.fn (.func 58) [] [.o 1 0]], .box 40 [I z0.1, DS pB z0.2.1, DS A_ z0.2.2.1, DS pI (g3_ z0), DS q86 (g4_ z0), DS B1 (g5_ z0), DS q51 (G5 z0)]]
theorem A2s (x0 : List Az) (x1c0c0 : A0) (r : Int × A0) (h : yF x0 x1c0c0 = some r) : CO 122 [.d (DS B1 x0), .d (.fn (.func 62) [] [.o 0 0])] [.box 126 [.fn (.func 58) [] [.o 1 0]], .box 40 (d40 x1c0c0)] (.d (I r.1)) [.box 126 [.fn (.func 58) [] [.o 1 0]], .box 40 (d40 r.2)] := by
 unfold yF at h
 refine co 19 Tryz.func122 λ C hC => ?_
 refine ws L7 26 [] [pl B1 x0] [] 2 [0, 1] (S6 x0 0 (x1c0c0.Time, zu x1c0c0.Power (x1c0c0.A5, x1c0c0.A4))) (Zo 0 (x1c0c0.Time, zu x1c0c0.Power (x1c0c0.A5, x1c0c0.A4))) hC [] ?_
 obtain ⟨w0, hm0, hret0, hnext0⟩ := Au h
 clear h
 refine wc w0 (Acu) (Aec) ?_ λ z0 hs0 => ?_
 ·refine wb ?_
  refine Bn 0 rfl λ hl0 => ?_
  refine A7 (by kernel_rfl) Og (S6 x0) (Zo) w0 x0 (x1c0c0.Time, zu x1c0c0.Power (x1c0c0.A5, x1c0c0.A4)) hm0 rfl rfl (λ z0 hn0 => ?_) λ n0 a0 z0 w0b hi0 hx0 h hb0 hr0 => ?_
  ·clear hm0
   exact wx w0 (Acu) (Aec) L7 26 [false] [] [] 2 [0, 1] (z0.1, z0.2.1, z0.2.2.1, (g3_ z0), (g4_ z0), (g5_ z0), (G5 z0)) hC [pq (Bb hl0)] hn0
  ·unfold Og at h
   refine ws L7 32 [true] [pt hx0 hl0, pc A6g (A5v a0 (⟨z0.1, (⟨z0.2.1, z0.2.2.1, (g3_ z0), (g4_ z0)⟩ : Ab), (g5_ z0), (G5 z0)⟩ : A0) _ rfl) [0, 1]] [] 2 [0, 1] [(0, .d (DS B1 x0)), (1, .d (.fn (.func 62) [] [.o 0 0])), (4, dI 0), (5, dI (cnt 0 n0)), (7, dI (ln x0)), (8, dI (cnt 0 n0)), (16, dB (Yz z0 a0))] [.box 126 [.fn (.func 58) [] [.o 1 0]], .box 40 [I (((Cv a0 (⟨z0.1, (⟨z0.2.1, z0.2.2.1, (g3_ z0), (g4_ z0)⟩ : Ab), (g5_ z0), (G5 z0)⟩ : A0)).2).Time), DS pB ((((Cv a0 (⟨z0.1, (⟨z0.2.1, z0.2.2.1, (g3_ z0), (g4_ z0)⟩ : Ab), (g5_ z0), (G5 z0)⟩ : A0)).2).Power).Ah), DS A_ ((((Cv a0 (⟨z0.1, (⟨z0.2.1, z0.2.2.1, (g3_ z0), (g4_ z0)⟩ : Ab), (g5_ z0), (G5 z0)⟩ : A0)).2).Power).Ac), DS pI ((((Cv a0 (⟨z0.1, (⟨z0.2.1, z0.2.2.1, (g3_ z0), (g4_ z0)⟩ : Ab), (g5_ z0), (G5 z0)⟩ : A0)).2).Power).As), DS q86 ((((Cv a0 (⟨z0.1, (⟨z0.2.1, z0.2.2.1, (g3_ z0), (g4_ z0)⟩ : Ab), (g5_ z0), (G5 z0)⟩ : A0)).2).Power).Aq), DS B1 (((Cv a0 (⟨z0.1, (⟨z0.2.1, z0.2.2.1, (g3_ z0), (g4_ z0)⟩ : Ab), (g5_ z0), (G5 z0)⟩ : A0)).2).A5), DS q51 (((Cv a0 (⟨z0.1, (⟨z0.2.1, z0.2.2.1, (g3_ z0), (g4_ z0)⟩ : Ab), (g5_ z0), (G5 z0)⟩ : A0)).2).A4)]] hC [pq (A8 hi0 hl0)] ?_
   rcases cB h with ⟨h1, h⟩ | ⟨h1, h⟩
   ·have hq := hret0 _ (hr0 _ (sI h).symm)
    replace hq := sI hq
    subst hq
    exact wr L7 24 [true] [] [] 2 [0, 1] hC [pq h1]
   ·exact wx w0b (S6 x0 (n0 + 1)) (Zo (n0 + 1)) L7 25 [false] [] [] 2 [0, 1] (((Cv a0 (⟨z0.1, (⟨z0.2.1, z0.2.2.1, (g3_ z0), (g4_ z0)⟩ : Ab), (g5_ z0), (G5 z0)⟩ : A0)).2).Time, (((Cv a0 (⟨z0.1, (⟨z0.2.1, z0.2.2.1, (g3_ z0), (g4_ z0)⟩ : Ab), (g5_ z0), (G5 z0)⟩ : A0)).2).Power).Ah, (((Cv a0 (⟨z0.1, (⟨z0.2.1, z0.2.2.1, (g3_ z0), (g4_ z0)⟩ : Ab), (g5_ z0), (G5 z0)⟩ : A0)).2).Power).Ac, (((Cv a0 (⟨z0.1, (⟨z0.2.1, z0.2.2.1, (g3_ z0), (g4_ z0)⟩ : Ab), (g5_ z0), (G5 z0)⟩ : A0)).2).Power).As, (((Cv a0 (⟨z0.1, (⟨z0.2.1, z0.2.2.1, (g3_ z0), (g4_ z0)⟩ : Ab), (g5_ z0), (G5 z0)⟩ : A0)).2).Power).Aq, ((Cv a0 (⟨z0.1, (⟨z0.2.1, z0.2.2.1, (g3_ z0), (g4_ z0)⟩ : Ab), (g5_ z0), (G5 z0)⟩ : A0)).2).A5, ((Cv a0 (⟨z0.1, (⟨z0.2.1, z0.2.2.1, (g3_ z0), (g4_ z0)⟩ : Ab), (g5_ z0), (G5 z0)⟩ : A0)).2).A4) hC [pq h1] (sI h).symm
 ·have h := hnext0 _ hs0
  replace h := sI h
  subst h
  exact wr L7 23 [] [] [] 2 [0, 1] hC []
theorem A4n : EN 122 := en Tryz.func122
theorem k63 (x0 : Aa) (x1 : A0) (r : A6) (h : F63 x0 x1 = some r) : CO 63 [.agg (d29 x0), .agg (d40 x1)] [] (.d (.o 0 0)) (.box 100 (I r.Av.Time :: .os 1 :: .os 2 :: .os 3 :: .os 4 :: .os 5 :: .os 6 :: zb r.Al [.os 7, .os 8]) :: zp r.Av.Power [v5_ r.Av.A5, v1_ r.Av.A4, v1_ r.events, v7_ r.states]) := by
 unfold F63 at h
 refine co 21 Tryz.func63 λ C hC => ?_
 obtain ⟨y1, h2, h⟩ := Ad h
 obtain ⟨y3, h4, h⟩ := Ad h
 obtain ⟨y5, h6, h⟩ := Ad h
 replace h := sI h
 subst h
 exact wr n5_ 27 [] [pc Mr (Mk x1.Power _ h2) [], pc A9v (A8e x1.A5 _ h4) [], pc e84 (k84 x1.A4 _ h6) []] [.ownb 8 13 51 5, .ownb 8 14 36 4] 0 [8, 2, 3, 4, 5, 6, 7, 9, 10] hC []
theorem e63 : EN 63 := en Tryz.func63
theorem A5t (x0 : A6) (x1 : Ab) (r : A6) (h : vF x0 x1 = some r) : CO 81 [.d (.o 0 0), .agg (d36 x1)] (.box 100 (I x0.Av.Time :: .os 1 :: .os 2 :: .os 3 :: .os 4 :: .os 5 :: .os 6 :: zb x0.Al [.os 7, .os 8]) :: zp x0.Av.Power [v5_ x0.Av.A5, v1_ x0.Av.A4, v1_ x0.events, v7_ x0.states]) (.tup []) (.box 100 (I r.Av.Time :: .os 1 :: .os 2 :: .os 3 :: .os 4 :: .os 5 :: .os 6 :: zb r.Al [.os 7, .os 9]) :: zp r.Av.Power [v5_ r.Av.A5, v1_ r.Av.A4, v1_ r.events, .non, v7_ r.states]) := by
 unfold vF at h
 refine co 15 Tryz.func81 λ C hC => ?_
 obtain ⟨y3, h4, h⟩ := Ad h
 obtain ⟨y5, h6, h⟩ := Ad h
 replace h := sI h
 subst h
 exact wf [0, 1, 3] 23 [] [⟨.call 116 [.agg (d36 x1)] [] (.agg (d36 y3)) [.non, .non, .non, .non] [], ⟨Mr, (CallOk.frzAll n4_ (show CO 116 [.agg (d36 x1)] [] (.agg [.os 0, .os 1, .os 2, .os 3]) (zp y3 []) from (Mk x1 _ h4)) (by kernel_rfl))⟩⟩, pa q36 4 h6] [] 9 [0, 1, 2, 3, 4, 5, 6, 7, 8, 14] hC []
theorem A6e : EN 81 := en Tryz.func81
theorem Jw (x0 : Ab) (x1 : Int) (x2 : Int) (r : Bool) (h : Hr x0 x1 x2 = some r) : CO 103 [.agg (d36 x0), .d (I x1), .d (I x2)] [] (.d (Bo r)) [] := by
 unfold Hr at h
 refine co 13 Tryz.func103 λ C hC => ?_
 obtain ⟨y1, h2, h⟩ := Ad h
 replace h := sI h
 subst h
 exact wr [0, 1, 2, 3, 6] 25 [] [pc A9k (A73 x0.Aq (⟨x1, x2⟩ : An) _ h2) []] [] 0 [] hC []
theorem J0 : EN 103 := en Tryz.func103
theorem A1b (x0 : Aa) (x1 : Ag) (x2 : Ag) (r : Bool) (h : Ake x0 x1 x2 = r) : CO 243 [.agg (d29 x0), .agg (T9 x1), .agg (T9 x2)] [] (.d (Bo r)) [] := by
 unfold Ake at h
 refine co 52 Tryz.func243 λ C hC => ?_
 rcases cB h with ⟨h1, h⟩ | ⟨h1, h⟩
 ·subst h
  exact wr [0, 1, 2, 3, 4, 5, 6, 7, 8, 22] 29 [true] [] [] 0 [] hC [pq h1]
 ·subst h
  exact wr [0, 1, 2, 3, 4, 5, 6, 7, 8, 22] 34 [false] [pc A8r (A7a x1.Phase x2.Phase _ rfl) []] [] 0 [] hC [pq h1]
theorem A26 : EN 243 := en Tryz.func243
theorem A7b (x0 : Aa) (x1 : Int) (r : Int) (h : Akf x0 x1 = some r) : CO 239 [.agg (d29 x0), .d (I x1)] [] (.d (I r)) [] := by
 unfold Akf at h
 refine co 9 Tryz.func239 λ C hC => ?_
 obtain ⟨y1, h2, h⟩ := Ad h
 replace h := sI h
 subst h
 exact wr n5_ 25 [] [pc A3h (A1m x0.Af x1 _ h2) [1]] [] 0 [] hC []
theorem A8s : EN 239 := en Tryz.func239
def Gz : List Nat := [0, 1, 2, 4, 6, 7, 8, 32, 36, 47, 64, 74]
def S9 (x2 : Bool) (z0 : (List An)) : St := [(0, dO 0 0), (2, dB x2), (4, dO 5 0), (6, dI 0)]
def Ui (x0 : A2) (x1 : An) (z0 : (List An)) : List Res := [.box 186 (zb x0.Al [.os 6, .os 7, .os 8, .os 9, I x0.time]), .non, .non, .non, .non, .box 86 (d86 x1), v2_ x0.Ar.Ah, v4_ x0.Ar.Ac, v0_ x0.Ar.As, v3_ z0]
theorem A12 (x0 : A2) (x1 : An) (x2 : Bool) (r : Int × A2) (h : Gb x0 x1 x2 = some r) : CO 189 [.d (.o 0 0), .agg (d86 x1), .d (Bo x2)] (.box 186 (zb x0.Al [.os 1, .os 2, .os 3, .os 4, I x0.time]) :: zp x0.Ar []) (.d (I r.1)) (.box 186 (zb r.2.Al [.os 5, .os 6, .os 7, .os 8, I r.2.time]) :: .non :: .non :: .non :: .non :: zp r.2.Ar []) := by
 unfold Gb at h
 refine co 84 Tryz.func189 λ C hC => ?_
 obtain ⟨y1, h2, h⟩ := Ad h
 rcases cB h with ⟨h3, h⟩ | ⟨h3, h⟩
 ·replace h := sI h
  subst h
  exact wr Gz 32 [true] [pb Aud (Atk x0.Ar.Aq x1 _ h2)] [.mv 1, .mv 2, .mv 3, .mv 4] 5 [0, 1, 2, 3, 4, 6, 7, 8, 9] hC [pq h3]
 ·refine ws Gz 32 [false] [pb Aud (Atk x0.Ar.Aq x1 _ h2), pL_ [(x2, true)] q86 x0.Ar.Aq] [.mv 1, .mv 2, .mv 3, .mv 4] 5 Hg [(0, dO 0 0), (2, dB x2), (4, dO 5 0), (6, dI 0), (7, dI y1.1), (36, dB (Mu x0 x2))] (.box 186 (zb x0.Al [.os 6, .os 7, .os 8, .os 9, I x0.time]) :: .non :: .non :: .non :: .non :: .box 86 (d86 x1) :: zp x0.Ar []) hC [pq h3] ?_
  rcases cB h with ⟨h4, h⟩ | ⟨h4, h⟩
  ·replace h := sI h
   subst h
   exact wr Gz 24 [true] [] [] 5 [0, 1, 2, 3, 4, 6, 7, 8, 9] hC [pq h4]
  ·refine ws Gz 24 [false] [] [] 5 Hg [(0, dO 0 0), (2, dB x2), (4, dO 5 0), (6, dI 0), (7, dI y1.1), (47, dB x2)] (.box 186 (zb x0.Al [.os 6, .os 7, .os 8, .os 9, I x0.time]) :: .non :: .non :: .non :: .non :: .box 86 (d86 x1) :: zp x0.Ar []) hC [pq h4] ?_
   obtain ⟨w0, h, hret0, hnext0⟩ := Au h
   refine wc w0 (S9 x2) (Ui x0 x1) ?_ λ z0 hs0 => ?_
   ·unfold Oc at h
    rcases cB h with ⟨h5, h⟩ | ⟨h5, h⟩
    ·obtain ⟨y6, h7, h⟩ := Ad h
     exact wx w0 (S9 x2) (Ui x0 x1) Gz 23 [true] [pc A3d (A1i x0.Ar.Aq y1.1 [x1] _ h7) [9]] [] 5 [0, 1, 2, 3, 4, 5, 6, 7, 8, 10] y6 hC [pq h5] (sI h).symm
    ·obtain ⟨y8, h9, h⟩ := Ad h
     exact wx w0 (S9 x2) (Ui x0 x1) Gz 23 [false] [pc A3c (A1h x0.Ar.Aq y1.1 (w64 (y1.1 + 1)) _ h9) [9]] [] 5 [0, 1, 2, 3, 4, 5, 6, 7, 8, 10] y8 hC [pq h5] (sI h).symm
   ·clear h; have h := hnext0 _ hs0
    rcases cB h with ⟨h10, h⟩ | ⟨h10, h⟩
    ·obtain ⟨y11, h12, h⟩ := Ad h
     obtain ⟨y13, h14, h⟩ := Ad h
     refine ws Gz 30 [true] [pr A_ h12, pu A_ h12 h14] [] 5 Hg [(0, dO 0 0), (4, dO 5 0), (6, dI 0), (74, dB x2)] [.box 186 (zb x0.Al [.os 6, .os 7, .os 8, .os 9, I x0.time]), .non, .non, .non, .non, .box 86 (d86 x1), v2_ x0.Ar.Ah, v4_ y13, v0_ x0.Ar.As, v3_ z0] hC [pq h10] ?_
     rcases cB h with ⟨h15, h⟩ | ⟨h15, h⟩
     ·obtain ⟨y16, h17, h⟩ := Ad h
      obtain ⟨y18, h19, h⟩ := Ad h
      replace h := sI h
      subst h
      exact wr Gz 25 [true] [pr A_ h17, pu A_ h17 h19] [] 5 [0, 1, 2, 3, 4, 6, 7, 8, 9] hC [pq h15]
     ·replace h := sI h
      subst h
      exact wr Gz 25 [false] [] [] 5 [0, 1, 2, 3, 4, 6, 7, 8, 9] hC [pq h15]
    ·replace h := sI h
     subst h
     exact wr Gz 29 [false] [] [] 5 [0, 1, 2, 3, 4, 6, 7, 8, 9] hC [pq h10]
theorem A3x : EN 189 := en Tryz.func189
theorem Aeu (x0 : A6) (x1 : Ab) (r : A6) (h : N2 x0 x1 = some r) : CO 81 [.d (.o 0 0), .agg [.os 9, .os 10, .os 11, .os 12]] (.box 100 (I x0.Av.Time :: .os 1 :: .os 2 :: .os 3 :: .os 4 :: .os 5 :: .os 6 :: zb x0.Al [.os 7, .os 8]) :: zp x0.Av.Power (v5_ x0.Av.A5 :: v1_ x0.Av.A4 :: v1_ x0.events :: v7_ x0.states :: zp x1 [])) (.tup []) (.box 100 (I r.Av.Time :: .os 1 :: .os 2 :: .os 3 :: .os 4 :: .os 5 :: .os 6 :: zb r.Al [.os 7, .os 13]) :: zp r.Av.Power (v5_ r.Av.A5 :: v1_ r.Av.A4 :: v1_ r.events :: .non :: zp x1 [v7_ r.states])) := by
 unfold N2 at h
 refine co 15 Tryz.func81 λ C hC => ?_
 obtain ⟨y3, h4, h⟩ := Ad h
 obtain ⟨y5, h6, h⟩ := Ad h
 replace h := sI h
 subst h
 exact wf [0, 1, 3] 23 [] [⟨.call 116 [.agg [.os 0, .os 1, .os 2, .os 3]] (zp x1 []) (.agg (d36 y3)) (zp x1 [.non, .non, .non, .non]) [9, 10, 11, 12], ⟨Mr, (CallOk.frzAll [4, 5, 6, 7] (show CO 116 [.agg [.os 0, .os 1, .os 2, .os 3]] (zp x1 []) (.agg [.os 4, .os 5, .os 6, .os 7]) (zp x1 (zp y3 [])) from ((Mk x1 _ h4).lend (by kernel_rfl) (by kernel_rfl) (by kernel_rfl) ⟨Be (λ _ => rfl), Be (λ _ => rfl), Be (λ _ => rfl), Be (λ _ => rfl), trivial⟩ (by kernel_rfl) (by kernel_rfl))) (by kernel_rfl))⟩⟩, pa q36 4 h6] [] 13 [0, 1, 2, 3, 4, 5, 6, 7, 8, 9, 10, 11, 12, 18] hC []
theorem Aev : EN 81 := en Tryz.func81
theorem A1e (x0 : Int) (x1 : Int) (x2 : Aa) (r : Int) (h : M0 x0 x1 x2 = some r) : CO 233 [.d (I x0), .d (I x1), .d (.ip [.v (.int .i64 x2.Am), .s (x2.Af.map Bi), .s (x2.Ac.map Bt), .s (x2.Ae.map q65), .v (.int .i64 x2.Phase), .v (.int .i64 x2.Ap)])] [] (.d (I r)) [] := by
 unfold M0 at h
 refine co 19 Tryz.func233 λ C hC => ?_
 obtain ⟨y1, h2, h⟩ := Ad h
 obtain ⟨y3, h4, h⟩ := Ad h
 replace h := sI h
 subst h
 exact wr [0, 1, 2, 5] 25 [] [pr q65 h2, pr q65 h4, pc Axo (Aw6 y1.Bp y3.Bp _ rfl) []] [] 0 [] hC []
theorem A29 : EN 233 := en Tryz.func233
theorem Atl (x0 : Int) (x1 : Aj) (r : Bool) (h : Pz x0 x1 = some r) : CO 209 [.d (I x0), .d (.ip [.s (x1.Am.map pI), .s (x1.Ac.map pI), .s (x1.Ae.map pI)])] [] (.d (Bo r)) [] := by
 unfold Pz at h
 refine co 9 Tryz.func209 λ C hC => ?_
 obtain ⟨y1, h2, h⟩ := Ad h
 replace h := sI h
 subst h
 exact wr [0, 1, 3] 25 [] [pc Yr (Yl x1.Ae x0 _ h2) []] [] 0 [] hC []
theorem Aue : EN 209 := en Tryz.func209
def Ns : List Nat := [0, 1, 4, 5, 6, 7, 8, 10, 26, 37]
def Amr (x0 : List Az) (x1 : Int) (z0 : Unit) : St := [(0, .d (DS B1 x0)), (1, dI x1), (4, .d (DS B1 []))]
def Aoj  (z0 : Unit) : List Res := []
def Amq (x0 : List Az) (x1 : Int) (z1 : Unit) : St := [(0, .d (DS B1 x0)), (4, .d (DS B1 [])), (6, .d (.p (.v (.int .u64 ((Gd (IntKind.wrap .u64 (ln x0)) (IntKind.wrap .u64 x1)).2)))))]
def Aoi  (z1 : Unit) : List Res := []
def zE  (z2 : Int × (List Az)) : St := [(4, .d (DS B1 [])), (7, dS 0), (8, dI z2.1)]
def Ajw  (z2 : Int × (List Az)) : List Res := [v5_ z2.2]
def Amp  (z2 : Int × (List Az)) : St := [(4, .d (DS B1 [])), (7, dS 0)]
def Aoh  (z2 : Int × (List Az)) : List Res := [v5_ z2.2]
theorem A77 (x0 : List Az) (x1 : Int) (r : (List Az)) (h : Ayl x0 x1 = some r) : CO 139 [.d (DS B1 x0), .d (I x1)] [] (.d (.os 0)) [v5_ r] := by
 unfold Ayl at h
 refine co 48 Tryz.func139 λ C hC => ?_
 refine ws Ns 26 [] [] [] 0 [] [(0, .d (DS B1 x0)), (1, dI x1), (4, .d (DS B1 [])), (10, dB (decide (x1 < 0)))] [] hC [] ?_
 obtain ⟨w0, h, hret0, hnext0⟩ := Au h
 refine wc w0 (Amr x0 x1) (Aoj) ?_ λ z0 hs0 => ?_
 ·unfold Aoz at h
  rcases cB h with ⟨h1, h⟩ | ⟨h1, h⟩
  ·cases h
  ·exact wx w0 (Amr x0 x1) (Aoj) Ns 23 [false] [] [] 0 [] () hC [pq h1] (sI h).symm
 ·clear h; have h := hnext0 _ hs0
  refine ws Ns 26 [] [pl B1 x0, pc A4i (A2n (IntKind.wrap .u64 (ln x0)) (IntKind.wrap .u64 x1) _ rfl) []] [] 0 [] [(0, .d (DS B1 x0)), (4, .d (DS B1 [])), (6, .d (.p (.v (.int .u64 ((Gd (IntKind.wrap .u64 (ln x0)) (IntKind.wrap .u64 x1)).2))))), (26, .d (Bo ((decide (((Gd (IntKind.wrap .u64 (ln x0)) (IntKind.wrap .u64 x1)).1) > 0)) || (decide (((Gd (IntKind.wrap .u64 (ln x0)) (IntKind.wrap .u64 x1)).2) > 9223372036854775807)))))] [] hC [] ?_
  obtain ⟨w1, h, hret1, hnext1⟩ := Au h
  refine wc w1 (Amq x0 x1) (Aoi) ?_ λ z1 hs1 => ?_
  ·unfold Aoy at h
   rcases cB h with ⟨h2, h⟩ | ⟨h2, h⟩
   ·cases h
   ·exact wx w1 (Amq x0 x1) (Aoi) Ns 23 [false] [] [] 0 [] () hC [pq h2] (sI h).symm
  ·clear h; have h := hnext1 _ hs1
   obtain ⟨y3, h4, h⟩ := Ad h
   refine ws Ns 26 [] [⟨.room ((w64 ((Gd (IntKind.wrap .u64 (ln x0)) (IntKind.wrap .u64 x1)).2)) * (16 + 1)) (List.replicate (Int.toNat (w64 ((Gd (IntKind.wrap .u64 (ln x0)) (IntKind.wrap .u64 x1)).2))) (B1 (⟨0, 0⟩ : Az))) (y3.map B1), Hh h4⟩, ⟨.cpy (x0.map B1) 2 ((y3.map B1).length) (Nat.min x0.length y3.length) ((y3.map B1).take 0 ++ ((x0.map B1).take (Nat.min x0.length y3.length) ++ (y3.map B1).drop (0 + (Nat.min x0.length y3.length)))) ((G6 y3 0 y3.length x0).map B1), Wm B1 2 (λ _ => rfl) rfl (by simp)⟩] [] 0 [0] (zE (((Nat.min x0.length y3.length) : Int), (G6 y3 0 y3.length x0))) (Ajw (((Nat.min x0.length y3.length) : Int), (G6 y3 0 y3.length x0))) hC [] ?_
   obtain ⟨w2, hm2, hret2, hnext2⟩ := Au h
   clear h
   refine wc w2 (Amp) (Aoh) ?_ λ z2 hs2 => ?_
   ·refine wb ?_
    refine B2 (by kernel_rfl) Abc (zE) (Ajw) w2 1152921504606846976 (((Nat.min x0.length y3.length) : Int), (G6 y3 0 y3.length x0)) hm2 rfl rfl λ z2 w2b h hb2 hr2 => ?_
    unfold Abc at h
    rcases cB h with ⟨h5, h⟩ | ⟨h5, h⟩
    ·obtain ⟨u7, h6, h⟩ := Ad h
     obtain ⟨u9, h8, h⟩ := Ad h
     exact wx w2b (zE) (Ajw) Ns 29 [true] [pl B1 z2.2, ⟨.bnd (z2.2.map B1).length z2.1 (((z2.2.map B1).length : Nat) : Int) (ln z2.2), Ef (by simp) (by simp) h6⟩, ⟨.bnd (z2.2.map B1).length 0 z2.1 z2.1, Ef (by simp) rfl h8⟩, ⟨.cpy (((z2.2.map B1).drop 0).take ((Int.toNat z2.1) - 0)) 2 ((Int.toNat (ln z2.2)) - (Int.toNat z2.1)) (Nat.min ((z2.2.drop 0).take ((Int.toNat z2.1) - 0)).length ((Int.toNat (ln z2.2)) - (Int.toNat z2.1))) ((z2.2.map B1).take (Int.toNat z2.1) ++ ((((z2.2.map B1).drop 0).take ((Int.toNat z2.1) - 0)).take (Nat.min ((z2.2.drop 0).take ((Int.toNat z2.1) - 0)).length ((Int.toNat (ln z2.2)) - (Int.toNat z2.1))) ++ (z2.2.map B1).drop ((Int.toNat z2.1) + (Nat.min ((z2.2.drop 0).take ((Int.toNat z2.1) - 0)).length ((Int.toNat (ln z2.2)) - (Int.toNat z2.1)))))) ((G6 z2.2 (Int.toNat z2.1) ((Int.toNat (ln z2.2)) - (Int.toNat z2.1)) ((z2.2.drop 0).take ((Int.toNat z2.1) - 0))).map B1), Wm B1 2 (λ _ => rfl) (Ye _ _ _ _) rfl⟩] [] 0 [0] (w64 (z2.1 + ((Nat.min ((z2.2.drop 0).take ((Int.toNat z2.1) - 0)).length ((Int.toNat (ln z2.2)) - (Int.toNat z2.1))) : Int)), (G6 z2.2 (Int.toNat z2.1) ((Int.toNat (ln z2.2)) - (Int.toNat z2.1)) ((z2.2.drop 0).take ((Int.toNat z2.1) - 0)))) hC [pq h5] (sI h).symm
    ·exact wx w2 (Amp) (Aoh) Ns 26 [false] [pl B1 z2.2] [] 0 [0] (z2.1, z2.2) hC [pq h5] (hb2 _ (sI h).symm)
   ·have h := hnext2 _ hs2
    replace h := sI h
    subst h
    exact wr Ns 23 [] [] [] 0 [0] hC []
theorem A9o : EN 139 := en Tryz.func139
theorem Apt (x0 : Aa) (x1 : Int) (r : Int) (h : Ve x0 x1 = some r) : CO 180 [.agg (d29 x0), .d (I x1)] [] (.d (I r)) [] := by
 unfold Ve at h
 refine co 9 Tryz.func180 λ C hC => ?_
 obtain ⟨y1, h2, h⟩ := Ad h
 replace h := sI h
 subst h
 exact wr n5_ 25 [] [pc A3g (A1l x0.Af x1 _ h2) [1]] [] 0 [] hC []
theorem Ap6 : EN 180 := en Tryz.func180
theorem A5s (x0 : A6) (x1 : Ab) (r : A6) (h : vE x0 x1 = some r) : CO 81 [.d (.o 0 0), .agg [.os 1, .os 2, .os 3, .os 4]] (.box 100 (I x0.Av.Time :: .os 1 :: .os 2 :: .os 3 :: .os 4 :: .os 5 :: .os 6 :: zb x0.Al [.os 7, .os 8]) :: zp x0.Av.Power [v5_ x0.Av.A5, v1_ x0.Av.A4, v1_ x0.events, v7_ x0.states]) (.tup []) (.box 100 (I r.Av.Time :: .os 1 :: .os 2 :: .os 3 :: .os 4 :: .os 5 :: .os 6 :: zb r.Al [.os 7, .os 9]) :: zp r.Av.Power [v5_ r.Av.A5, v1_ r.Av.A4, v1_ r.events, .non, v7_ r.states]) := by
 unfold vE at h
 refine co 15 Tryz.func81 λ C hC => ?_
 obtain ⟨y3, h4, h⟩ := Ad h
 obtain ⟨y5, h6, h⟩ := Ad h
 replace h := sI h
 subst h
 exact wf [0, 1, 3] 23 [] [⟨.call 116 [.agg [.os 0, .os 1, .os 2, .os 3]] (zp x0.Av.Power []) (.agg (d36 y3)) (zp x0.Av.Power [.non, .non, .non, .non]) [1, 2, 3, 4], ⟨Mr, (CallOk.frzAll [4, 5, 6, 7] (show CO 116 [.agg [.os 0, .os 1, .os 2, .os 3]] (zp x0.Av.Power []) (.agg [.os 4, .os 5, .os 6, .os 7]) (zp x0.Av.Power (zp y3 [])) from ((Mk x0.Av.Power _ h4).lend (by kernel_rfl) (by kernel_rfl) (by kernel_rfl) ⟨Be (λ _ => rfl), Be (λ _ => rfl), Be (λ _ => rfl), Be (λ _ => rfl), trivial⟩ (by kernel_rfl) (by kernel_rfl))) (by kernel_rfl))⟩⟩, pa q36 4 h6] [] 9 [0, 1, 2, 3, 4, 5, 6, 7, 8, 14] hC []
theorem A6d : EN 81 := en Tryz.func81
def Tl : List Nat := [0, 1, 4, 5, 6, 7, 8, 10, 26, 37]
def Asi (x0 : List Ag) (x1 : Int) (z0 : Unit) : St := [(0, .d (DS A_ x0)), (1, dI x1), (4, .d (DS A_ []))]
def Avb  (z0 : Unit) : List Res := []
def Ash (x0 : List Ag) (x1 : Int) (z1 : Unit) : St := [(0, .d (DS A_ x0)), (4, .d (DS A_ [])), (6, .d (.p (.v (.int .u64 ((Gd (IntKind.wrap .u64 (ln x0)) (IntKind.wrap .u64 x1)).2)))))]
def Ava  (z1 : Unit) : List Res := []
def Afi  (z2 : Int × (List Ag)) : St := [(4, .d (DS A_ [])), (7, dS 0), (8, dI z2.1)]
def Aqx  (z2 : Int × (List Ag)) : List Res := [v4_ z2.2]
def Asg  (z2 : Int × (List Ag)) : St := [(4, .d (DS A_ [])), (7, dS 0)]
def Au9  (z2 : Int × (List Ag)) : List Res := [v4_ z2.2]
theorem k87 (x0 : List Ag) (x1 : Int) (r : (List Ag)) (h : F87 x0 x1 = some r) : CO 87 [.d (DS A_ x0), .d (I x1)] [] (.d (.os 0)) [v4_ r] := by
 unfold F87 at h
 refine co 48 Tryz.func87 λ C hC => ?_
 refine ws Tl 26 [] [] [] 0 [] [(0, .d (DS A_ x0)), (1, dI x1), (4, .d (DS A_ [])), (10, dB (decide (x1 < 0)))] [] hC [] ?_
 obtain ⟨w0, h, hret0, hnext0⟩ := Au h
 refine wc w0 (Asi x0 x1) (Avb) ?_ λ z0 hs0 => ?_
 ·unfold Av3 at h
  rcases cB h with ⟨h1, h⟩ | ⟨h1, h⟩
  ·cases h
  ·exact wx w0 (Asi x0 x1) (Avb) Tl 23 [false] [] [] 0 [] () hC [pq h1] (sI h).symm
 ·clear h; have h := hnext0 _ hs0
  refine ws Tl 26 [] [pl A_ x0, pc A4i (A2n (IntKind.wrap .u64 (ln x0)) (IntKind.wrap .u64 x1) _ rfl) []] [] 0 [] [(0, .d (DS A_ x0)), (4, .d (DS A_ [])), (6, .d (.p (.v (.int .u64 ((Gd (IntKind.wrap .u64 (ln x0)) (IntKind.wrap .u64 x1)).2))))), (26, .d (Bo ((decide (((Gd (IntKind.wrap .u64 (ln x0)) (IntKind.wrap .u64 x1)).1) > 0)) || (decide (((Gd (IntKind.wrap .u64 (ln x0)) (IntKind.wrap .u64 x1)).2) > 9223372036854775807)))))] [] hC [] ?_
  obtain ⟨w1, h, hret1, hnext1⟩ := Au h
  refine wc w1 (Ash x0 x1) (Ava) ?_ λ z1 hs1 => ?_
  ·unfold Av2 at h
   rcases cB h with ⟨h2, h⟩ | ⟨h2, h⟩
   ·cases h
   ·exact wx w1 (Ash x0 x1) (Ava) Tl 23 [false] [] [] 0 [] () hC [pq h2] (sI h).symm
  ·clear h; have h := hnext1 _ hs1
   obtain ⟨y3, h4, h⟩ := Ad h
   refine ws Tl 26 [] [⟨.room ((w64 ((Gd (IntKind.wrap .u64 (ln x0)) (IntKind.wrap .u64 x1)).2)) * (32 + 1)) (List.replicate (Int.toNat (w64 ((Gd (IntKind.wrap .u64 (ln x0)) (IntKind.wrap .u64 x1)).2))) (A_ (⟨0, 0, 0, 0⟩ : Ag))) (y3.map A_), Hh h4⟩, ⟨.cpy (x0.map A_) 4 ((y3.map A_).length) (Nat.min x0.length y3.length) ((y3.map A_).take 0 ++ ((x0.map A_).take (Nat.min x0.length y3.length) ++ (y3.map A_).drop (0 + (Nat.min x0.length y3.length)))) ((G6 y3 0 y3.length x0).map A_), Wm A_ 4 (λ _ => rfl) rfl (by simp)⟩] [] 0 [0] (Afi (((Nat.min x0.length y3.length) : Int), (G6 y3 0 y3.length x0))) (Aqx (((Nat.min x0.length y3.length) : Int), (G6 y3 0 y3.length x0))) hC [] ?_
   obtain ⟨w2, hm2, hret2, hnext2⟩ := Au h
   clear h
   refine wc w2 (Asg) (Au9) ?_ λ z2 hs2 => ?_
   ·refine wb ?_
    refine B2 (by kernel_rfl) Aj6 (Afi) (Aqx) w2 1152921504606846976 (((Nat.min x0.length y3.length) : Int), (G6 y3 0 y3.length x0)) hm2 rfl rfl λ z2 w2b h hb2 hr2 => ?_
    unfold Aj6 at h
    rcases cB h with ⟨h5, h⟩ | ⟨h5, h⟩
    ·obtain ⟨u7, h6, h⟩ := Ad h
     obtain ⟨u9, h8, h⟩ := Ad h
     exact wx w2b (Afi) (Aqx) Tl 29 [true] [pl A_ z2.2, ⟨.bnd (z2.2.map A_).length z2.1 (((z2.2.map A_).length : Nat) : Int) (ln z2.2), Ef (by simp) (by simp) h6⟩, ⟨.bnd (z2.2.map A_).length 0 z2.1 z2.1, Ef (by simp) rfl h8⟩, ⟨.cpy (((z2.2.map A_).drop 0).take ((Int.toNat z2.1) - 0)) 4 ((Int.toNat (ln z2.2)) - (Int.toNat z2.1)) (Nat.min ((z2.2.drop 0).take ((Int.toNat z2.1) - 0)).length ((Int.toNat (ln z2.2)) - (Int.toNat z2.1))) ((z2.2.map A_).take (Int.toNat z2.1) ++ ((((z2.2.map A_).drop 0).take ((Int.toNat z2.1) - 0)).take (Nat.min ((z2.2.drop 0).take ((Int.toNat z2.1) - 0)).length ((Int.toNat (ln z2.2)) - (Int.toNat z2.1))) ++ (z2.2.map A_).drop ((Int.toNat z2.1) + (Nat.min ((z2.2.drop 0).take ((Int.toNat z2.1) - 0)).length ((Int.toNat (ln z2.2)) - (Int.toNat z2.1)))))) ((G6 z2.2 (Int.toNat z2.1) ((Int.toNat (ln z2.2)) - (Int.toNat z2.1)) ((z2.2.drop 0).take ((Int.toNat z2.1) - 0))).map A_), Wm A_ 4 (λ _ => rfl) (Ye _ _ _ _) rfl⟩] [] 0 [0] (w64 (z2.1 + ((Nat.min ((z2.2.drop 0).take ((Int.toNat z2.1) - 0)).length ((Int.toNat (ln z2.2)) - (Int.toNat z2.1))) : Int)), (G6 z2.2 (Int.toNat z2.1) ((Int.toNat (ln z2.2)) - (Int.toNat z2.1)) ((z2.2.drop 0).take ((Int.toNat z2.1) - 0)))) hC [pq h5] (sI h).symm
    ·exact wx w2 (Asg) (Au9) Tl 26 [false] [pl A_ z2.2] [] 0 [0] (z2.1, z2.2) hC [pq h5] (hb2 _ (sI h).symm)
   ·have h := hnext2 _ hs2
    replace h := sI h
    subst h
    exact wr Tl 23 [] [] [] 0 [0] hC []
theorem e87 : EN 87 := en Tryz.func87
theorem A76 (x0 : Dc) (r : Bool) (h : Ayj x0 = r) : CO 151 [.agg (Aqa x0)] [] (.d (Bo r)) [] := by
 unfold Ayj at h
 refine co 19 Tryz.func151 λ C hC => ?_
 subst h
 exact wr n4_ 27 [] [pc A3s (A1x x0.From _ rfl) [], ⟨.when [(Vb x0.From, true)] (.call 197 [dI x0.To] [] (dB (Vb x0.To)) [] []), λ hg => ⟨A3s, (A1x x0.To _ rfl)⟩⟩, ⟨.when [(((Vb x0.From) && (Vb x0.To)), true)] (.call 198 [.agg (Aqa x0)] [] (dI (Arn x0)) [] []), λ hg => ⟨A84, (A7n x0 _ rfl)⟩⟩] [] 0 [] hC []
theorem A9n : EN 151 := en Tryz.func151
def L3 : List Nat := [0, 1, 4, 5, 7, 8, 9, 16]
def Ss (x0 : List Int) (n0 : Nat) (z0 : Unit) : St := [(0, .d (DS pI x0)), (1, .d (.fn (.func 105) [] [.o 0 0, .o 1 0])), (4, dI 0), (7, dI (ln x0)), (8, dI (cnt 0 n0))]
def Ze (x1c0 : Aa) (x1c1 : Ab) (n0 : Nat) (z0 : Unit) : List Res := [.box 29 (d29 x1c0), .box 36 (d36 x1c1)]
def Acg  (z0 : Unit) : St := [(4, dI 0)]
def Adz (x1c0 : Aa) (x1c1 : Ab) (z0 : Unit) : List Res := [.box 29 (d29 x1c0), .box 36 (d36 x1c1)]
theorem A2e (rec46 : Aa -> Ab -> Int -> Option Bool) (ih46 : ∀ (x0 : Aa) (x1 : Ab) (x2 : Int) (r : Bool), rec46 x0 x1 x2 = some r -> CO 46 [.agg (d29 x0), .agg (d36 x1), .d (I x2)] [] (.d (Bo r)) []) (x0 : List Int) (x1c0 : Aa) (x1c1 : Ab) (r : Int × Aa × Ab) (h : Akv rec46 x0 x1c0 x1c1 = some r) : CO 158 [.d (DS pI x0), .d (.fn (.func 105) [] [.o 0 0, .o 1 0])] [.box 29 (d29 x1c0), .box 36 (d36 x1c1)] (.d (I r.1)) [.box 29 (d29 r.2.1), .box 36 (d36 r.2.2)] := by
 unfold Akv at h
 refine co 19 Tryz.func158 λ C hC => ?_
 refine ws L3 26 [] [pl pI x0] [] 2 [0, 1] (Ss x0 0 ()) (Ze x1c0 x1c1 0 ()) hC [] ?_
 obtain ⟨w0, hm0, hret0, hnext0⟩ := Au h
 clear h
 refine wc w0 (Acg) (Adz x1c0 x1c1) ?_ λ z0 hs0 => ?_
 ·refine wb ?_
  refine Bn 0 rfl λ hl0 => ?_
  refine A7 (by kernel_rfl) (Vh x1c0 x1c1 rec46) (Ss x0) (Ze x1c0 x1c1) w0 x0 () hm0 rfl rfl (λ z0 hn0 => ?_) λ n0 a0 z0 w0b hi0 hx0 h hb0 hr0 => ?_
  ·clear hm0
   exact wx w0 (Acg) (Adz x1c0 x1c1) L3 26 [false] [] [] 2 [0, 1] () hC [pq (Bb hl0)] hn0
  ·unfold Vh at h
   obtain ⟨y1, h2, h⟩ := Ad h
   refine ws L3 32 [true] [pt hx0 hl0, pb A4p (A2u rec46 ih46 a0 x1c0 x1c1 _ h2)] [] 2 [0, 1] [(0, .d (DS pI x0)), (1, .d (.fn (.func 105) [] [.o 0 0, .o 1 0])), (4, dI 0), (5, dI (cnt 0 n0)), (7, dI (ln x0)), (8, dI (cnt 0 n0)), (16, dB y1)] [.box 29 (d29 x1c0), .box 36 (d36 x1c1)] hC [pq (A8 hi0 hl0)] ?_
   rcases cB h with ⟨h3, h⟩ | ⟨h3, h⟩
   ·have hq := hret0 _ (hr0 _ (sI h).symm)
    replace hq := sI hq
    subst hq
    exact wr L3 24 [true] [] [] 2 [0, 1] hC [pq h3]
   ·exact wx w0b (Ss x0 (n0 + 1)) (Ze x1c0 x1c1 (n0 + 1)) L3 25 [false] [] [] 2 [0, 1] () hC [pq h3] (sI h).symm
 ·have h := hnext0 _ hs0
  replace h := sI h
  subst h
  exact wr L3 23 [] [] [] 2 [0, 1] hC []
theorem A39 : EN 158 := en Tryz.func158
theorem A1w (x0 : Int) (x1 : Int) (r : Int × Int) (h : Akl x0 x1 = some r) : CO 201 [.d (I x0), .d (I x1), .d (.fn (.func 202) [] [])] [] (.tup [.d (I r.1), .d (I r.2)]) [] := by
 unfold Akl at h
 refine co 26 Tryz.func201 λ C hC => ?_
 rcases cB h with ⟨h1, h⟩ | ⟨h1, h⟩
 ·cases h
 ·obtain ⟨y2, h3, h⟩ := Ad h
  replace h := sI h
  subst h
  exact wr [0, 1, 2, 6, 7, 21] 30 [false] [pc A82 (A7l x0 x1 _ h3) []] [] 0 [] hC [pq h1]
theorem A3r : EN 201 := en Tryz.func201
theorem A5q (x0 : List Aj) (r : Bool) (h : Ari x0 = some r) : CO 88 [.d (DS q84 x0), .d (.fn (.func 90) [] [])] [] (.d (Bo r)) [] := by
 unfold Ari at h
 refine co 9 Tryz.func88 λ C hC => ?_
 obtain ⟨y1, h2, h⟩ := Ad h
 replace h := sI h
 subst h
 exact wr [0, 1, 4] 25 [] [pc A4h (A2m x0 _ h2) []] [] 0 [] hC []
theorem A6b : EN 88 := en Tryz.func88
end Go.Proofs.YthgnbpdjncbkfaaGreat
