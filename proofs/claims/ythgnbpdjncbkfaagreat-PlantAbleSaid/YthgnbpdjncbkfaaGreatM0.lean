import Derived.Test.YthgnbpdjncbkfaaGreatRows
import Derived.Test.YthgnbpdjncbkfaaGreatMo
import Derived.Test.YthgnbpdjncbkfaaGreatBw
set_option linter.unusedVariables false
namespace Go.Proofs.YthgnbpdjncbkfaaGreat
open Go.SL
abbrev v0_ (l : List Int) : Res := .sl 3 1 (l.map pI)
abbrev v1_ (l : List api_Event) : Res := .sl 51 5 (l.map q51)
abbrev v2_ (l : List Bool) : Res := .sl 4 1 (l.map pB)
abbrev v3_ (l : List api_Running) : Res := .sl 120 4 (l.map q120)
abbrev v4_ (l : List api_Part) : Res := .sl 86 2 (l.map q86)
abbrev v5_ (l : List api_Roster) : Res := .sl 130 2 (l.map q130)
abbrev v6_ (l : List api_Act) : Res := .sl 49 3 (l.map q49)
abbrev v7_ (l : List api_Power) : Res := .sl 36 4 (l.map q36)
abbrev v8_ (l : List api_Island) : Res := .sl 84 3 (l.map q84)
abbrev v9_ (l : List api_Breaker) : Res := .sl 147 3 (l.map q147)
abbrev v10_ (l : List api_Source) : Res := .sl 139 3 (l.map q139)
abbrev v11_ (l : List api_Consumer) : Res := .sl 65 5 (l.map q65)
abbrev v12_ (l : List api_Thruster) : Res := .sl 63 6 (l.map q63)
abbrev CO := CK Tryz.prog
abbrev EN := En Tryz.prog
abbrev g3z_ {α0 α1 α2 α3 : Type} (z : α0 × α1 × α2 × α3) : α3 := z.2.2.2
abbrev g3_ {α0 α1 α2 α3 α4 : Type} (z : α0 × α1 × α2 × α3 × α4) : α3 := z.2.2.2.1
abbrev g4z_ {α0 α1 α2 α3 α4 : Type} (z : α0 × α1 × α2 × α3 × α4) : α4 := z.2.2.2.2
abbrev g4_ {α0 α1 α2 α3 α4 α5 : Type} (z : α0 × α1 × α2 × α3 × α4 × α5) : α4 := z.2.2.2.2.1
abbrev g5_ {α0 α1 α2 α3 α4 α5 α6 : Type} (z : α0 × α1 × α2 × α3 × α4 × α5 × α6) : α5 := z.2.2.2.2.2.1
abbrev g6z_ {α0 α1 α2 α3 α4 α5 α6 : Type} (z : α0 × α1 × α2 × α3 × α4 × α5 × α6) : α6 := z.2.2.2.2.2.2
abbrev g6_ {α0 α1 α2 α3 α4 α5 α6 α7 : Type} (z : α0 × α1 × α2 × α3 × α4 × α5 × α6 × α7) : α6 := z.2.2.2.2.2.2.1
abbrev g7_ {α0 α1 α2 α3 α4 α5 α6 α7 α8 : Type} (z : α0 × α1 × α2 × α3 × α4 × α5 × α6 × α7 × α8) : α7 := z.2.2.2.2.2.2.2.1
abbrev g8_ {α0 α1 α2 α3 α4 α5 α6 α7 α8 α9 : Type} (z : α0 × α1 × α2 × α3 × α4 × α5 × α6 × α7 × α8 × α9) : α8 := z.2.2.2.2.2.2.2.2.1
abbrev g9_ {α0 α1 α2 α3 α4 α5 α6 α7 α8 α9 α10 : Type} (z : α0 × α1 × α2 × α3 × α4 × α5 × α6 × α7 × α8 × α9 × α10) : α9 := z.2.2.2.2.2.2.2.2.2.1
abbrev g10z_ {α0 α1 α2 α3 α4 α5 α6 α7 α8 α9 α10 : Type} (z : α0 × α1 × α2 × α3 × α4 × α5 × α6 × α7 × α8 × α9 × α10) : α10 := z.2.2.2.2.2.2.2.2.2.2
abbrev g10_ {α0 α1 α2 α3 α4 α5 α6 α7 α8 α9 α10 α11 : Type} (z : α0 × α1 × α2 × α3 × α4 × α5 × α6 × α7 × α8 × α9 × α10 × α11) : α10 := z.2.2.2.2.2.2.2.2.2.2.1
abbrev g11z_ {α0 α1 α2 α3 α4 α5 α6 α7 α8 α9 α10 α11 : Type} (z : α0 × α1 × α2 × α3 × α4 × α5 × α6 × α7 × α8 × α9 × α10 × α11) : α11 := z.2.2.2.2.2.2.2.2.2.2.2
abbrev g11_ {α0 α1 α2 α3 α4 α5 α6 α7 α8 α9 α10 α11 α12 : Type} (z : α0 × α1 × α2 × α3 × α4 × α5 × α6 × α7 × α8 × α9 × α10 × α11 × α12) : α11 := z.2.2.2.2.2.2.2.2.2.2.2.1
abbrev g12_ {α0 α1 α2 α3 α4 α5 α6 α7 α8 α9 α10 α11 α12 α13 : Type} (z : α0 × α1 × α2 × α3 × α4 × α5 × α6 × α7 × α8 × α9 × α10 × α11 × α12 × α13) : α12 := z.2.2.2.2.2.2.2.2.2.2.2.2.1
abbrev g13_ {α0 α1 α2 α3 α4 α5 α6 α7 α8 α9 α10 α11 α12 α13 α14 : Type} (z : α0 × α1 × α2 × α3 × α4 × α5 × α6 × α7 × α8 × α9 × α10 × α11 × α12 × α13 × α14) : α13 := z.2.2.2.2.2.2.2.2.2.2.2.2.2.1
abbrev g14z_ {α0 α1 α2 α3 α4 α5 α6 α7 α8 α9 α10 α11 α12 α13 α14 : Type} (z : α0 × α1 × α2 × α3 × α4 × α5 × α6 × α7 × α8 × α9 × α10 × α11 × α12 × α13 × α14) : α14 := z.2.2.2.2.2.2.2.2.2.2.2.2.2.2
abbrev g14_ {α0 α1 α2 α3 α4 α5 α6 α7 α8 α9 α10 α11 α12 α13 α14 α15 : Type} (z : α0 × α1 × α2 × α3 × α4 × α5 × α6 × α7 × α8 × α9 × α10 × α11 × α12 × α13 × α14 × α15) : α14 := z.2.2.2.2.2.2.2.2.2.2.2.2.2.2.1
abbrev g15z_ {α0 α1 α2 α3 α4 α5 α6 α7 α8 α9 α10 α11 α12 α13 α14 α15 : Type} (z : α0 × α1 × α2 × α3 × α4 × α5 × α6 × α7 × α8 × α9 × α10 × α11 × α12 × α13 × α14 × α15) : α15 := z.2.2.2.2.2.2.2.2.2.2.2.2.2.2.2
abbrev g15_ {α0 α1 α2 α3 α4 α5 α6 α7 α8 α9 α10 α11 α12 α13 α14 α15 α16 : Type} (z : α0 × α1 × α2 × α3 × α4 × α5 × α6 × α7 × α8 × α9 × α10 × α11 × α12 × α13 × α14 × α15 × α16) : α15 := z.2.2.2.2.2.2.2.2.2.2.2.2.2.2.2.1
abbrev g16z_ {α0 α1 α2 α3 α4 α5 α6 α7 α8 α9 α10 α11 α12 α13 α14 α15 α16 : Type} (z : α0 × α1 × α2 × α3 × α4 × α5 × α6 × α7 × α8 × α9 × α10 × α11 × α12 × α13 × α14 × α15 × α16) : α16 := z.2.2.2.2.2.2.2.2.2.2.2.2.2.2.2.2
theorem sI {α : Type} {a b : α} (h : some a = some b) : a = b := Option.some.inj h
abbrev zb (b : api_Board) (l : List D) : List D := I b.Buses :: DS q147 b.Breakers :: DS q139 b.Sources :: DS q65 b.Consumers :: I b.Phase :: I b.Frequency :: l
abbrev zp (p : api_Power) (l : List Res) : List Res := .sl 4 1 (p.Closed.map pB) :: .sl 120 4 (p.Sources.map q120) :: .sl 3 1 (p.Limits.map pI) :: .sl 86 2 (p.Broken.map q86) :: l
abbrev ze (l : List Res) : List Res := .sl 4 1 (([] : List Bool).map pB) :: .sl 120 4 (([] : List api_Running).map q120) :: .sl 3 1 (([] : List Int).map pI) :: .sl 86 2 (([] : List api_Part).map q86) :: l
abbrev zs (b : api_Board) (l : List Res) : List Res := .sl 147 3 (b.Breakers.map q147) :: .sl 139 3 (b.Sources.map q139) :: .sl 65 5 (b.Consumers.map q65) :: l
abbrev zt {α : Type} (b : api_Board) (r : α) : Int × List api_Breaker × List api_Source × List api_Consumer × Int × Int × α := (b.Buses, b.Breakers, b.Sources, b.Consumers, b.Phase, b.Frequency, r)
abbrev zu {α : Type} (p : api_Power) (r : α) : List Bool × List api_Running × List Int × List api_Part × α := (p.Closed, p.Sources, p.Limits, p.Broken, r)
abbrev n3_ : List Nat := [0, 1, 2]
abbrev n4_ : List Nat := [0, 1, 2, 3]
abbrev n5_ : List Nat := [0, 1, 2, 3, 4]
abbrev n6_ : List Nat := [0, 1, 2, 3, 4, 5]
abbrev n7_ : List Nat := [0, 1, 2, 3, 4, 5, 6]
abbrev n8_ : List Nat := [0, 1, 2, 3, 4, 5, 6, 7]
abbrev n9_ : List Nat := [0, 1, 2, 3, 4, 5, 6, 7, 8]
abbrev n10_ : List Nat := [0, 1, 2, 3, 4, 5, 6, 7, 8, 9]
abbrev n11_ : List Nat := [0, 1, 2, 3, 4, 5, 6, 7, 8, 9, 10]
abbrev n12_ : List Nat := [0, 1, 2, 3, 4, 5, 6, 7, 8, 9, 10, 11]
abbrev n13_ : List Nat := [0, 1, 2, 3, 4, 5, 6, 7, 8, 9, 10, 11, 12]
abbrev n14_ : List Nat := [0, 1, 2, 3, 4, 5, 6, 7, 8, 9, 10, 11, 12, 13]
abbrev n15_ : List Nat := [0, 1, 2, 3, 4, 5, 6, 7, 8, 9, 10, 11, 12, 13, 14]
abbrev n16_ : List Nat := [0, 1, 2, 3, 4, 5, 6, 7, 8, 9, 10, 11, 12, 13, 14, 15]
abbrev n19_ : List Nat := [0, 1, 2, 3, 4, 5, 6, 7, 8, 9, 10, 11, 12, 13, 14, 15, 16, 17, 18]
abbrev n20_ : List Nat := [0, 1, 2, 3, 4, 5, 6, 7, 8, 9, 10, 11, 12, 13, 14, 15, 16, 17, 18, 19]
abbrev n21_ : List Nat := [0, 1, 2, 3, 4, 5, 6, 7, 8, 9, 10, 11, 12, 13, 14, 15, 16, 17, 18, 19, 20]
abbrev n22_ : List Nat := [0, 1, 2, 3, 4, 5, 6, 7, 8, 9, 10, 11, 12, 13, 14, 15, 16, 17, 18, 19, 20, 21]
theorem mixed : Tryz.prog.follows .mixedOrders = true := by kernel_rfl
abbrev PC := {c : Cl // Cl.ok Tryz.prog c}
abbrev PB := {p : Bool × Bool // p.1 = p.2}
theorem okP : ∀ l : List PC, AllOk Tryz.prog (l.map (·.1))
 | [] => trivial
 | c :: l => ⟨c.2, okP l⟩
theorem okB : ∀ l : List PB, AllEq (l.map (·.1))
 | [] => trivial
 | ⟨(_, _), h⟩ :: l => ⟨h, okB l⟩
def pq {a b : Bool} (h : a = b) : PB := ⟨(a, b), h⟩
def pc {f : FuncId} {args : List AV} {R R2 : List Res} {res : AV} (e : En Tryz.prog f) (k : CK Tryz.prog f args R res R2) (pi : List Nat) : PC := ⟨.call f args R res R2 pi, e, k⟩
def pb {f : FuncId} {args : List AV} {res : AV} (e : En Tryz.prog f) (k : CK Tryz.prog f args [] res []) : PC := ⟨.callB f args res [[]] 0 [], l0g ⟨e, k⟩⟩
def pw {g : List (Bool × Bool)} {f : FuncId} {args : List AV} {R R2 : List Res} {res : AV} (e : En Tryz.prog f) (k : AllEq g -> CK Tryz.prog f args R res R2) (pi : List Nat) : PC := ⟨.when g (.call f args R res R2 pi), fun h => ⟨e, k h⟩⟩
def pv {g : List (Bool × Bool)} {f : FuncId} {args : List AV} {res : AV} (e : En Tryz.prog f) (k : AllEq g -> CK Tryz.prog f args [] res []) : PC := ⟨.when g (.callB f args res [[]] 0 []), fun h => l0g ⟨e, k h⟩⟩
section
variable {α : Type}
def pl (q : α -> List Pd) (l : List α) : PC := ⟨.len ((l.map q).length : Int) (l.length : Int), lM l q⟩
def pL_ (g : List (Bool × Bool)) (q : α -> List Pd) (l : List α) : PC := ⟨.when g (.len ((l.map q).length : Int) (l.length : Int)), fun _ => lM l q⟩
def pr (q : α -> List Pd) {l : List α} {n : Int} {x : α} (h : getI l n = some x) : PC := ⟨.row (l.map q) n (q x), rg h⟩
def pn (q : α -> List Pd) {l : List α} {n : Int} {x : α} (h : getI l n = some x) : PC := ⟨.row (l.map q) ((n.toNat : Nat) : Int) (q x), rN h⟩
def pt {q : α -> List Pd} {l : List α} {i : Nat} {x : α} (hx : l[i]? = some x) (hl : (l.map q).length <= maxLen) : PC := ⟨.row (l.map q) (cnt 0 i) (q x), rC hx hl⟩
def pR (q : α -> List Pd) {g : List (Bool × Bool)} {l : List α} {n : Int} {x d : α} (h : guardO g (getI l n) d = some x) : PC := ⟨.when g (.row (l.map q) n (q x)), fun hg => rg (gg h hg)⟩
def pN (q : α -> List Pd) {g : List (Bool × Bool)} {l : List α} {n : Int} {x d : α} (h : guardO g (getI l n) d = some x) : PC := ⟨.when g (.row (l.map q) ((n.toNat : Nat) : Int) (q x)), fun hg => rN (gg h hg)⟩
def pa (q : α -> List Pd) (size : Nat) {B : Nat} {l m y : List α} (h : appI (B + 1) l m = some y) (hs : ∀ x, (q x).length = size := by exact fun _ => rfl) : PC := ⟨.app (l.map q) (m.map q) size (((l.map q).length + (m.map q).length) * (B + 1)) (y.map q), aG q size hs h⟩
def pu (q : α -> List Pd) {l y : List α} {n : Int} {x x' : α} (hx : getI l n = some x) (h : setI l n x' = some y) : PC := ⟨.upd (l.map q) n.toNat (q x) (q x') (y.map q), uG hx h⟩
end
theorem ws {ro : Option Nat} {n : Nat} {C : Ctx} {Q : Exit -> Act -> World -> Prop} {st : St} {R : List Res} {items : List It} (lv : List Nat) (fuel : Nat) (ds : List Bool) (cls : List PC) (adj : List Adj) (k : Nat) (pi : List Nat) (st' : St) (R' : List Res) (hk : C.h.length <= k) (bs : List PB) (hW : WI ro Tryz.prog n C Q (skipTo fuel items ds) st' R') (h : wayStop Tryz.prog n lv fuel items st R ds (cls.map (·.1)) adj k pi (keys st') = some (st', R', cls.map (·.1), bs.map (·.1)) := by kernel_rfl) : WI ro Tryz.prog n C Q items st R := WI_stop mixed lv fuel ds (cls.map (·.1)) adj k pi st' R' hk (okP cls) (okB bs) h hW
theorem we {ro : Option Nat} {n : Nat} {C : Ctx} {Q : Exit -> Act -> World -> Prop} {st : St} {R : List Res} {items : List It} {σ : Type} {φ : σ -> Prop} {st' : σ -> St} {R' : σ -> List Res} (lv : List Nat) (fuel : Nat) (ds : List Bool) (cls : List PC) (adj : List Adj) (k : Nat) (pi : List Nat) (s : σ) (hk : C.h.length <= k) (bs : List PB) (h1 : φ s) (hi : hdK (skipTo fuel items ds) = Ex n C φ st' R' := by kernel_rfl) (h : wayStop Tryz.prog n lv fuel items st R ds (cls.map (·.1)) adj k pi (keys (st' s)) = some (st' s, R' s, cls.map (·.1), bs.map (·.1)) := by kernel_rfl) : WI ro Tryz.prog n C Q items st R := WI_end mixed lv fuel ds (cls.map (·.1)) adj k pi s hk (okP cls) (okB bs) hi h h1
theorem wx {σ : Type} {τ : Type} (w : Ctl σ τ) (st' : σ -> St) (R' : σ -> List Res) {ro : Option Nat} {n : Nat} {C : Ctx} {Q : Exit -> Act -> World -> Prop} {st : St} {R : List Res} {items : List It} (lv : List Nat) (fuel : Nat) (ds : List Bool) (cls : List PC) (adj : List Adj) (k : Nat) (pi : List Nat) (s : σ) (hk : C.h.length <= k) (bs : List PB) (h1 : w = .next s) (hi : hdK (skipTo fuel items ds) = Ex n C (fun s' => w = .next s') st' R' := by kernel_rfl) (h : wayStop Tryz.prog n lv fuel items st R ds (cls.map (·.1)) adj k pi (keys (st' s)) = some (st' s, R' s, cls.map (·.1), bs.map (·.1)) := by kernel_rfl) : WI ro Tryz.prog n C Q items st R := WI_end mixed lv fuel ds (cls.map (·.1)) adj k pi s hk (okP cls) (okB bs) hi h h1
theorem wc {ro : Option Nat} {n : Nat} {C : Ctx} {Q : Exit -> Act -> World -> Prop} {st : St} {R : List Res} {items : List It} {σ τ : Type} (w : Ctl σ τ) (st' : σ -> St) (R' : σ -> List Res) (h : WI ro Tryz.prog n C Q (.c (hdC items) :: .k (Ex n C (fun s => w = .next s) st' R') :: tlI items) st R) (hK : ∀ s, w = .next s -> WI ro Tryz.prog n C Q (tlI items) (st' s) (R' s)) (hi : isC items = true := by kernel_rfl) : WI ro Tryz.prog n C Q items st R := wC hi _ st' R' h hK
theorem wb {ro : Option Nat} {n : Nat} {C : Ctx} {Q : Exit -> Act -> World -> Prop} {st : St} {R : List Res} {items : List It} (h : WI ro Tryz.prog n C Q (.c (blkC items) :: .b (blkI items) :: tlI items) st R) (hi : isB items = true := by kernel_rfl) : WI ro Tryz.prog n C Q items st R := wB hi h
theorem co {f : FuncId} {fn : Func} {c : Code} {args : List AV} {res : AV} {R R2 : List Res} (n : Nat) (hf : Tryz.prog.funcs[f]? = some fn) (h : ∀ C : Ctx, C.h.length <= R.length -> WI none Tryz.prog n C.z (Post Tryz.prog fn C.z res R2) [.c c] (argSt 0 args) R) (hb : fn.body = some c := by rfl) (hn : fn.ntmps = n := by rfl) (hl : Nat.ble args.length n = true := by rfl) : CK Tryz.prog f args R res R2 := cOk n hf hb hn hl h
theorem wr {ro : Option Nat} {n : Nat} {C : Ctx} {st : St} {R : List Res} {fn : Func} {res : AV} {R2 : List Res} {items : List It} (lv : List Nat) (fuel : Nat) (ds : List Bool) (cls : List PC) (adj : List Adj) (results : List ResultVar) (k : Nat) (pi : List Nat) (hk : C.h.length <= k) (bs : List PB) (hf : fn.results.toList = results := by rfl) (h : wayRet Tryz.prog n lv fuel items st R ds (cls.map (·.1)) adj results k pi = some (res, R2, cls.map (·.1), bs.map (·.1)) := by kernel_rfl) : WI ro Tryz.prog n C.z (Post Tryz.prog fn C.z res R2) items st R := WI_ret mixed lv fuel ds (cls.map (·.1)) adj results k pi hf hk (okP cls) (okB bs) h
theorem wf {ro : Option Nat} {n : Nat} {C : Ctx} {st : St} {R : List Res} {fn : Func} {res : AV} {R2 : List Res} {items : List It} (lv : List Nat) (fuel : Nat) (ds : List Bool) (cls : List PC) (adj : List Adj) (results : List ResultVar) (k : Nat) (pi : List Nat) (hk : C.h.length <= k) (bs : List PB) (hf : fn.results.toList = results := by rfl) (hn : noIt (skipTo fuel items ds) = true := by kernel_rfl) (h : wayEnd Tryz.prog n lv fuel items st R ds (cls.map (·.1)) adj results k pi = some (res, R2, cls.map (·.1), bs.map (·.1)) := by kernel_rfl) : WI ro Tryz.prog n C.z (Post Tryz.prog fn C.z res R2) items st R := WI_endF mixed lv fuel ds (cls.map (·.1)) adj results k pi hf hk (okP cls) (okB bs) hn h
theorem en {f : FuncId} {fn : Func} (hf : Tryz.prog.funcs[f]? = some fn) (hb : fn.body.isNone = false := by kernel_rfl) (hn : (fn.name == "runtime.NumGoroutine") = false := by kernel_rfl) : En Tryz.prog f := Go.SL.enters_of hf hb hn
abbrev ln {α : Type} (l : List α) : Int := (l.length : Int)
abbrev dI (x : Int) : AV := .d (I x)
abbrev dB (x : Bool) : AV := .d (Bo x)
abbrev dO (a b : Nat) : AV := .d (.o a b)
abbrev dS (a : Nat) : AV := .d (.os a)
theorem k8 (x0 : List Int) (r : dynposmake_Src) (h : F8 x0 = some r) : CO 8 [.d (DS pI x0)] [] (.d (.o 0 0)) [.box 90 (d90 r)] := by
 unfold F8 at h
 refine co 10 Tryz.func8 fun C hC => ?_
 obtain ⟨y2, h1, h⟩ := bE h
 replace h := sI h
 subst h
 exact wr [0, 2] 25 [] [pl pI x0, ⟨.cut (x0.map pI) 1 0 (min (ln x0) 600) (y2.map pI), cut_get pI 1 (fun _ => rfl) h1⟩] [] [.tmp 2] 0 [0] hC []
theorem e8 : EN 8 := en Tryz.func8
theorem k80 (x0 : Int) (x1 : Int) (r : Int) (h : F80 x0 x1 = some r) : CO 80 [.d (I x0), .d (I x1)] [] (.d (I r)) [] := by
 unfold F80 at h
 refine co 14 Tryz.func80 fun C hC => ?_
 rcases bC (decide (x1 < 1)) with h1 | h1
 ·replace h := cT h1 h
  replace h := sI h
  subst h
  exact wr [0, 1, 4, 6] 29 [true] [] [] [.tmp 4] 0 [] hC [pq h1]
 ·replace h := cF h1 h
  obtain ⟨u3, h2, h⟩ := bE h
  obtain ⟨u5, h4, h⟩ := bE h
  replace h := sI h
  subst h
  exact wr [0, 1, 4, 6] 30 [false] [⟨.nz x1, nz_get h2⟩, ⟨.nz x1, nz_get h4⟩] [] [.tmp 4] 0 [] hC [pq h1]
theorem e80 : EN 80 := en Tryz.func80
theorem k112 (x0 : Int) (x1 : Int) (x2 : Int) (r : Bool) (h : F112 x0 x1 x2 = r) : CO 112 [.d (I x0), .d (I x1), .d (I x2)] [] (.d (Bo r)) [] := by
 unfold F112 at h
 refine co 15 Tryz.func112 fun C hC => ?_
 subst h
 exact wr [0, 1, 2, 6] 25 [] [] [] [.tmp 6] 0 [] hC []
theorem e112 : EN 112 := en Tryz.func112
def lv77 : List Nat := [0, 1, 2, 3, 6, 7, 8, 9, 11, 12, 13, 14, 37]
def st77_0 (x0 : api_Board) (x1 : Int) (x2 : Int) (n0 : Nat) (z0 : (List Int)) : St := [(1, dI x1), (2, dI x2), (6, .d (DS pI [])), (7, dS 0), (11, .d (DS q147 x0.Breakers)), (12, dI (ln x0.Breakers)), (13, dI (cnt 0 n0))]
def R77_0  (n0 : Nat) (z0 : (List Int)) : List Res := [v0_ z0]
def sa77_0  (z0 : (List Int)) : St := [(6, .d (DS pI [])), (7, dS 0)]
def Ra77_0  (z0 : (List Int)) : List Res := [v0_ z0]
theorem k77 (x0 : api_Board) (x1 : Int) (x2 : Int) (r : (List Int)) (h : F77 x0 x1 x2 = some r) : CO 77 [.agg (d29 x0), .d (I x1), .d (I x2)] [] (.d (.os 0)) [v0_ r] := by
 unfold F77 at h
 refine co 44 Tryz.func77 fun C hC => ?_
 refine ws lv77 28 [] [pl q147 x0.Breakers] [.own 7 3 1] 0 [1] (st77_0 x0 x1 x2 0 ([] : List Int)) (R77_0 0 ([] : List Int)) hC [] ?_
 obtain ⟨w0, hm0, hret0, hnext0⟩ := aIn h
 clear h
 refine wc w0 (sa77_0) (Ra77_0) ?_ fun z0 hs0 => ?_
 ·refine wb ?_
  refine wL 11 rfl fun hl0 => ?_
  refine wF (by kernel_rfl) (F77_l0 x1 x2) (st77_0 x0 x1 x2) (R77_0) w0 x0.Breakers ([] : List Int) hm0 rfl rfl (fun z0 hn0 => ?_) fun n0 a0 z0 w0b hi0 hx0 h hb0 hr0 => ?_
  ·clear hm0
   exact wx w0 (sa77_0) (Ra77_0) lv77 26 [false] [] [] 0 [0] z0 hC [pq (cE hl0)] hn0
  ·unfold F77_l0 at h
   rcases bC ((c77_2 x1 x2 a0)) with h1 | h1
   ·replace h := cT h1 h
    obtain ⟨y2, h3, h⟩ := bE h
    exact wx w0b (st77_0 x0 x1 x2 (n0 + 1)) (R77_0 (n0 + 1)) lv77 36 [true, true] [pt hx0 hl0, pa pI 1 h3] [] 0 [2] y2 hC [pq (cL hi0 hl0), pq h1] (sI h).symm
   ·replace h := cF h1 h
    exact wx w0b (st77_0 x0 x1 x2 (n0 + 1)) (R77_0 (n0 + 1)) lv77 36 [true, false] [pt hx0 hl0] [] 0 [0] z0 hC [pq (cL hi0 hl0), pq h1] (sI h).symm
 ·have h := hnext0 _ hs0
  replace h := sI h
  subst h
  exact wr lv77 23 [] [] [] [.tmp 6] 0 [0] hC []
theorem e77 : EN 77 := en Tryz.func77
theorem k113 (x0 : api_Part) (x1 : api_Part) (r : Bool) (h : F113 x0 x1 = r) : CO 113 [.agg (d86 x0), .agg (d86 x1)] [] (.d (Bo r)) [] := by
 unfold F113 at h
 refine co 24 Tryz.func113 fun C hC => ?_
 subst h
 exact wr n5_ 25 [] [] [] [.tmp 4] 0 [] hC []
theorem e113 : EN 113 := en Tryz.func113
theorem k65 (x0 : api_Power) (r : api_Power) (h : F65 x0 = some r) : CO 65 [.agg (d36 x0)] [] (.agg [.os 0, .os 1, .os 2, .os 3]) (zp r []) := by
 unfold F65 at h
 refine co 16 Tryz.func65 fun C hC => ?_
 obtain ⟨y1, h2, h⟩ := bE h
 obtain ⟨y3, h4, h⟩ := bE h
 obtain ⟨y5, h6, h⟩ := bE h
 obtain ⟨y7, h8, h⟩ := bE h
 replace h := sI h
 subst h
 exact wr n3_ 25 [] [⟨.app [] (x0.Closed.map pB) 1 ((x0.Closed.map pB).length * (1 + 1)) (y1.map pB), app_get0 pB 1 (fun _ => rfl) h2⟩, ⟨.app [] (x0.Sources.map q120) 4 ((x0.Sources.map q120).length * (32 + 1)) (y3.map q120), app_get0 q120 4 (fun _ => rfl) h4⟩, ⟨.app [] (x0.Limits.map pI) 1 ((x0.Limits.map pI).length * (8 + 1)) (y5.map pI), app_get0 pI 1 (fun _ => rfl) h6⟩, ⟨.app [] (x0.Broken.map q86) 2 ((x0.Broken.map q86).length * (16 + 1)) (y7.map q86), app_get0 q86 2 (fun _ => rfl) h8⟩] [] [.cell 2 36] 0 [3, 5, 7, 9] hC []
theorem e65 : EN 65 := en Tryz.func65
def lv114 : List Nat := [0, 1, 2, 3, 4, 6, 7, 8, 9, 10, 11, 19, 20, 21, 23, 24, 25, 26, 53, 65, 66, 67, 72]
def st114_0 (y5 : List Bool) (n0 : Nat) (z0 : (List Bool)) : St := [(3, dO 0 0), (4, dO 1 0), (6, .d (DS pI [])), (7, dS 2), (19, dI (ln y5)), (20, dI (cnt 0 n0))]
def R114_0 (x0 : api_Board) (x1 : api_Power) (n0 : Nat) (z0 : (List Bool)) : List Res := [.box 29 (d29 x0), .box 36 (d36 x1), v2_ z0]
def sa114_0  (z0 : (List Bool)) : St := [(6, .d (DS pI [])), (7, dS 0)]
def Ra114_0  (z0 : (List Bool)) : List Res := [v2_ z0]
def st114_1 (x0 : api_Board) (y5 : List Bool) (n0 : Nat) (n1 : Nat) (z1 : (List Bool)) : St := [(3, dO 0 0), (4, dO 1 0), (6, .d (DS pI [])), (7, dS 2), (19, dI (ln y5)), (20, dI (cnt 0 n0)), (23, .d (DS q147 x0.Breakers)), (24, dI (ln x0.Breakers)), (25, dI (cnt 0 n1))]
def R114_1 (x0 : api_Board) (x1 : api_Power) (n1 : Nat) (z1 : (List Bool)) : List Res := [.box 29 (d29 x0), .box 36 (d36 x1), v2_ z1]
def sa114_1 (y5 : List Bool) (n0 : Nat) (z1 : (List Bool)) : St := [(3, dO 0 0), (4, dO 1 0), (6, .d (DS pI [])), (7, dS 2), (19, dI (ln y5)), (20, dI (cnt 0 n0))]
def Ra114_1 (x0 : api_Board) (x1 : api_Power) (z1 : (List Bool)) : List Res := [.box 29 (d29 x0), .box 36 (d36 x1), v2_ z1]
def st114_2 (z0 : (List Bool)) (n2 : Nat) (z2 : (List Int)) : St := [(6, .d (DS pI [])), (7, dS 0), (10, dS 1), (65, dI (ln z0)), (66, dI (cnt 0 n2))]
def R114_2 (z0 : (List Bool)) (n2 : Nat) (z2 : (List Int)) : List Res := [v2_ z0, v0_ z2]
def sa114_2  (z2 : (List Int)) : St := [(6, .d (DS pI [])), (10, dS 0)]
def Ra114_2  (z2 : (List Int)) : List Res := [v0_ z2]
theorem k114 (x0 : api_Board) (x1 : api_Power) (x2 : Int) (r : (List Int)) (h : F114 x0 x1 x2 = some r) : CO 114 [.agg (d29 x0), .agg (d36 x1), .d (I x2)] [] (.d (.os 0)) [v0_ r] := by
 unfold F114 at h
 refine co 79 Tryz.func114 fun C hC => ?_
 obtain ⟨y1, h2, h⟩ := bE h
 obtain ⟨y3, h4, h⟩ := bE h
 obtain ⟨y5, h6, h⟩ := bE h
 refine ws lv114 30 [] [⟨.room (x0.Buses * (1 + 1)) (List.replicate (Int.toNat x0.Buses) (pB false)) (y1.map pB), make_get h2⟩, pr pB h4, pu pB h4 h6, pl pB y5] [] 0 n3_ (st114_0 y5 0 y5) (R114_0 x0 x1 0 y5) hC [] ?_
 obtain ⟨w0, hm0, hret0, hnext0⟩ := aIn h
 clear h
 refine wc w0 (sa114_0) (Ra114_0) ?_ fun z0 hs0 => ?_
 ·refine wb ?_
  refine wO 7 2 rfl rfl fun hl0 => ?_
  refine wF (by kernel_rfl) (F114_l0 x0 x1) (st114_0 y5) (R114_0 x0 x1) w0 y5 y5 hm0 rfl rfl (fun z0 hn0 => ?_) fun n0 a0 z0 w0b hi0 hx0 h hb0 hr0 => ?_
  ·clear hm0
   exact wx w0 (sa114_0) (Ra114_0) lv114 26 [false] [] [] 0 [2] z0 hC [pq (cE hl0)] hn0
  ·unfold F114_l0 at h
   refine ws lv114 30 [true] [pl q147 x0.Breakers] [] 0 n3_ (st114_1 x0 y5 n0 0 z0) (R114_1 x0 x1 0 z0) hC [pq (cL hi0 hl0)] ?_
   obtain ⟨w1, hm1, hret1, hnext1⟩ := aIn h
   clear h
   refine wc w1 (sa114_1 y5 n0) (Ra114_1 x0 x1) ?_ fun z1 hs1 => ?_
   ·refine wb ?_
    refine wL 23 rfl fun hl1 => ?_
    refine wF (by kernel_rfl) (F114_l1 x1) (st114_1 x0 y5 n0) (R114_1 x0 x1) w1 x0.Breakers z0 hm1 rfl rfl (fun z1 hn1 => ?_) fun n1 a1 z1 w1b hi1 hx1 h hb1 hr1 => ?_
    ·clear hm1
     exact wx w1 (sa114_1 y5 n0) (Ra114_1 x0 x1) lv114 26 [false] [] [] 0 n3_ z1 hC [pq (cE hl1)] hn1
    ·unfold F114_l1 at h
     obtain ⟨y7, h8, h⟩ := bE h
     obtain ⟨y9, h10, h⟩ := bE h
     obtain ⟨y11, h12, h⟩ := bE h
     refine ws lv114 32 [true] [pt hx1 hl1, pR pB h8, pR pB h10, pN pB h10, pR pB h12, pN pB h12] [] 0 n4_ [(3, dO 0 0), (4, dO 1 0), (6, .d (DS pI [])), (7, dS 2), (9, dO 3 0), (19, dI (ln y5)), (20, dI (cnt 0 n0)), (23, .d (DS q147 x0.Breakers)), (24, dI (ln x0.Breakers)), (25, dI (cnt 0 n1)), (53, dB (c114_8 a1 y7 y9 y11))] [.box 29 (d29 x0), .box 36 (d36 x1), v2_ z1, .box 147 (d147 a1)] hC [pq (cL hi1 hl1)] ?_
     rcases bC ((c114_8 a1 y7 y9 y11)) with h13 | h13
     ·replace h := cT h13 h
      obtain ⟨y14, h15, h⟩ := bE h
      obtain ⟨y16, h17, h⟩ := bE h
      obtain ⟨y18, h19, h⟩ := bE h
      obtain ⟨y20, h21, h⟩ := bE h
      exact wx w1b (st114_1 x0 y5 n0 (n1 + 1)) (R114_1 x0 x1 (n1 + 1)) lv114 25 [true] [pr pB h15, pu pB h15 h17, pr pB h19, pu pB h19 h21] [] 0 n3_ y20 hC [pq h13] (sI h).symm
     ·replace h := cF h13 h
      exact wx w1b (st114_1 x0 y5 n0 (n1 + 1)) (R114_1 x0 x1 (n1 + 1)) lv114 25 [false] [] [] 0 n3_ z1 hC [pq h13] (sI h).symm
   ·have h := hnext1 _ hs1
    exact wx w0b (st114_0 y5 (n0 + 1)) (R114_0 x0 x1 (n0 + 1)) lv114 23 [] [] [] 0 n3_ z1 hC [] (sI h).symm
 ·have h := hnext0 _ hs0
  refine ws lv114 26 [] [pl pB z0] [.own 10 3 1] 0 [0, 1] (st114_2 z0 0 ([] : List Int)) (R114_2 z0 0 ([] : List Int)) hC [] ?_
  obtain ⟨w2, hm2, hret2, hnext2⟩ := aIn h
  clear h
  refine wc w2 (sa114_2) (Ra114_2) ?_ fun z2 hs2 => ?_
  ·refine wb ?_
   refine wO 7 0 rfl rfl fun hl2 => ?_
   refine wF (by kernel_rfl) F114_l2 (st114_2 z0) (R114_2 z0) w2 z0 ([] : List Int) hm2 rfl rfl (fun z2 hn2 => ?_) fun n2 a2 z2 w2b hi2 hx2 h hb2 hr2 => ?_
   ·clear hm2
    exact wx w2 (sa114_2) (Ra114_2) lv114 26 [false] [] [] 0 [1] z2 hC [pq (cE hl2)] hn2
   ·unfold F114_l2 at h
    rcases bC (a2) with h22 | h22
    ·replace h := cT h22 h
     obtain ⟨y23, h24, h⟩ := bE h
     exact wx w2b (st114_2 z0 (n2 + 1)) (R114_2 z0 (n2 + 1)) lv114 36 [true, true] [pr pB (gC hx2 hl2), pn pB (gC hx2 hl2), pa pI 1 h24] [] 0 [0, 2] y23 hC [pq (cL hi2 hl2), pq h22] (sI h).symm
    ·replace h := cF h22 h
     exact wx w2b (st114_2 z0 (n2 + 1)) (R114_2 z0 (n2 + 1)) lv114 36 [true, false] [pr pB (gC hx2 hl2), pn pB (gC hx2 hl2)] [] 0 [0, 1] z2 hC [pq (cL hi2 hl2), pq h22] (sI h).symm
  ·have h := hnext2 _ hs2
   replace h := sI h
   subst h
   exact wr lv114 23 [] [] [] [.tmp 6] 0 [0] hC []
theorem e114 : EN 114 := en Tryz.func114
def lv55 : List Nat := [0, 1, 4, 6, 7, 8, 9, 10, 15]
def st55_0 (x0 : List Int) (x1 : Int) (n0 : Nat) (z0 : Unit) : St := [(1, dI x1), (4, dB false), (7, .d (DS pI x0)), (8, dI (ln x0)), (9, dI (cnt 0 n0))]
def R55_0  (n0 : Nat) (z0 : Unit) : List Res := []
def sa55_0  (z0 : Unit) : St := [(4, dB false)]
def Ra55_0  (z0 : Unit) : List Res := []
theorem k55 (x0 : List Int) (x1 : Int) (r : Bool) (h : F55 x0 x1 = some r) : CO 55 [.d (DS pI x0), .d (I x1)] [] (.d (Bo r)) [] := by
 unfold F55 at h
 refine co 17 Tryz.func55 fun C hC => ?_
 refine ws lv55 26 [] [pl pI x0] [] 0 [] (st55_0 x0 x1 0 ()) (R55_0 0 ()) hC [] ?_
 obtain ⟨w0, hm0, hret0, hnext0⟩ := aIn h
 clear h
 refine wc w0 (sa55_0) (Ra55_0) ?_ fun z0 hs0 => ?_
 ·refine wb ?_
  refine wL 7 rfl fun hl0 => ?_
  refine wF (by kernel_rfl) (F55_l0 x1) (st55_0 x0 x1) (R55_0) w0 x0 () hm0 rfl rfl (fun z0 hn0 => ?_) fun n0 a0 z0 w0b hi0 hx0 h hb0 hr0 => ?_
  ·clear hm0
   exact wx w0 (sa55_0) (Ra55_0) lv55 26 [false] [] [] 0 [] () hC [pq (cE hl0)] hn0
  ·unfold F55_l0 at h
   rcases bC ((a0 == x1)) with h1 | h1
   ·replace h := cT h1 h
    have hq := hret0 _ (hr0 _ (sI h).symm)
    replace hq := sI hq
    subst hq
    exact wr lv55 35 [true, true] [pt hx0 hl0] [] [.tmp 4] 0 [] hC [pq (cL hi0 hl0), pq h1]
   ·replace h := cF h1 h
    exact wx w0b (st55_0 x0 x1 (n0 + 1)) (R55_0 (n0 + 1)) lv55 36 [true, false] [pt hx0 hl0] [] 0 [] () hC [pq (cL hi0 hl0), pq h1] (sI h).symm
 ·have h := hnext0 _ hs0
  replace h := sI h
  subst h
  exact wr lv55 23 [] [] [] [.tmp 4] 0 [] hC []
theorem e55 : EN 55 := en Tryz.func55
theorem k148 (x0 : Int) (x1 : Int) (x2 : Int) (r : Bool) (h : F148 x0 x1 x2 = r) : CO 148 [.d (I x0), .d (I x1), .d (I x2)] [] (.d (Bo r)) [] := by
 unfold F148 at h
 refine co 15 Tryz.func148 fun C hC => ?_
 subst h
 exact wr [0, 1, 2, 6] 25 [] [] [] [.tmp 6] 0 [] hC []
theorem e148 : EN 148 := en Tryz.func148
theorem k197 (x0 : Int) (r : Bool) (h : F197 x0 = r) : CO 197 [.d (I x0)] [] (.d (Bo r)) [] := by
 unfold F197 at h
 refine co 9 Tryz.func197 fun C hC => ?_
 subst h
 exact wr [0, 2] 25 [] [] [] [.tmp 2] 0 [] hC []
theorem e197 : EN 197 := en Tryz.func197
theorem k229 (x0 : Int) (r : Int) (h : F229 x0 = r) : CO 229 [.d (I x0)] [] (.d (I r)) [] := by
 unfold F229 at h
 refine co 10 Tryz.func229 fun C hC => ?_
 rcases bC (decide ((Int.tmod x0 3600) < 0)) with h1 | h1
 ·replace h := cT h1 h
  subst h
  exact wr [0, 2, 6] 32 [true] [⟨.nz 3600, nz_lit rfl⟩] [] [.tmp 2] 0 [] hC [pq h1]
 ·replace h := cF h1 h
  subst h
  exact wr [0, 2, 6] 32 [false] [⟨.nz 3600, nz_lit rfl⟩] [] [.tmp 2] 0 [] hC [pq h1]
theorem e229 : EN 229 := en Tryz.func229
theorem k99 (x0 : Int) (x1 : Int) (x2 : Int) (r : Bool) (h : F99 x0 x1 x2 = r) : CO 99 [.d (I x0), .d (I x1), .d (I x2)] [] (.d (Bo r)) [] := by
 unfold F99 at h
 refine co 15 Tryz.func99 fun C hC => ?_
 subst h
 exact wr [0, 1, 2, 6] 25 [] [] [] [.tmp 6] 0 [] hC []
theorem e99 : EN 99 := en Tryz.func99
def lv227 : List Nat := [0, 1, 4, 5, 7, 8, 9, 16]
def st227_0 (x0 : List Int) (x1 : Int) (n0 : Nat) (z0 : Unit) : St := [(0, .d (DS pI x0)), (1, dI x1), (4, dI 0), (7, dI (ln x0)), (8, dI (cnt 0 n0))]
def R227_0  (n0 : Nat) (z0 : Unit) : List Res := []
def sa227_0  (z0 : Unit) : St := [(4, dI 0)]
def Ra227_0  (z0 : Unit) : List Res := []
theorem k227 (x0 : List Int) (x1 : Int) (r : Int) (h : F227 x0 x1 = some r) : CO 227 [.d (DS pI x0), .d (I x1)] [] (.d (I r)) [] := by
 unfold F227 at h
 refine co 19 Tryz.func227 fun C hC => ?_
 refine ws lv227 26 [] [pl pI x0] [] 0 [] (st227_0 x0 x1 0 ()) (R227_0 0 ()) hC [] ?_
 obtain ⟨w0, hm0, hret0, hnext0⟩ := aIn h
 clear h
 refine wc w0 (sa227_0) (Ra227_0) ?_ fun z0 hs0 => ?_
 ·refine wb ?_
  refine wL 0 rfl fun hl0 => ?_
  refine wF (by kernel_rfl) (F227_l0 x1) (st227_0 x0 x1) (R227_0) w0 x0 () hm0 rfl rfl (fun z0 hn0 => ?_) fun n0 a0 z0 w0b hi0 hx0 h hb0 hr0 => ?_
  ·clear hm0
   exact wx w0 (sa227_0) (Ra227_0) lv227 26 [false] [] [] 0 [] () hC [pq (cE hl0)] hn0
  ·unfold F227_l0 at h
   rcases bC ((x1 == a0)) with h1 | h1
   ·replace h := cT h1 h
    have hq := hret0 _ (hr0 _ (sI h).symm)
    replace hq := sI hq
    subst hq
    exact wr lv227 35 [true, true] [pt hx0 hl0] [] [.tmp 4] 0 [] hC [pq (cL hi0 hl0), pq h1]
   ·replace h := cF h1 h
    exact wx w0b (st227_0 x0 x1 (n0 + 1)) (R227_0 (n0 + 1)) lv227 36 [true, false] [pt hx0 hl0] [] 0 [] () hC [pq (cL hi0 hl0), pq h1] (sI h).symm
 ·have h := hnext0 _ hs0
  replace h := sI h
  subst h
  exact wr lv227 23 [] [] [] [.tmp 4] 0 [] hC []
theorem e227 : EN 227 := en Tryz.func227
theorem k192 (x0 : List Int) (r : Bool) (h : F192 x0 = r) : CO 192 [.d (DS pI x0)] [] (.d (Bo r)) [] := by
 unfold F192 at h
 refine co 6 Tryz.func192 fun C hC => ?_
 subst h
 exact wr [0, 2] 25 [] [pl pI x0] [] [.tmp 2] 0 [] hC []
theorem e192 : EN 192 := en Tryz.func192
def lv152 : List Nat := [0, 1, 2, 4, 5, 6, 11, 16, 20]
theorem k152 (x0 : api_Board) (x1 : Int) (r : Int) (h : F152 x0 x1 = r) : CO 152 [.agg (d29 x0), .d (I x1)] [] (.d (I r)) [] := by
 unfold F152 at h
 refine co 25 Tryz.func152 fun C hC => ?_
 rcases bC ((x1 == 1)) with h1 | h1
 ·replace h := cT h1 h
  subst h
  exact wr lv152 32 [true] [pl q139 x0.Sources] [] [.tmp 4] 0 [] hC [pq h1]
 ·replace h := cF h1 h
  rcases bC ((x1 == 2)) with h2 | h2
  ·replace h := cT h2 h
   subst h
   exact wr lv152 35 [false, true] [pl q147 x0.Breakers] [] [.tmp 4] 0 [] hC [pq h1, pq h2]
  ·replace h := cF h2 h
   rcases bC ((x1 == 3)) with h3 | h3
   ·replace h := cT h3 h
    subst h
    exact wr lv152 38 [false, false, true] [] [] [.tmp 4] 0 [] hC [pq h1, pq h2, pq h3]
   ·replace h := cF h3 h
    rcases bC ((x1 == 4)) with h4 | h4
    ·replace h := cT h4 h
     subst h
     exact wr lv152 41 [false, false, false, true] [pl q65 x0.Consumers] [] [.tmp 4] 0 [] hC [pq h1, pq h2, pq h3, pq h4]
    ·replace h := cF h4 h
     subst h
     exact wr lv152 43 [false, false, false, false] [] [] [.tmp 4] 0 [] hC [pq h1, pq h2, pq h3, pq h4]
theorem e152 : EN 152 := en Tryz.func152
theorem k199 (x0 : Int) (r : Bool) (h : F199 x0 = r) : CO 199 [.d (I x0)] [] (.d (Bo r)) [] := by
 unfold F199 at h
 refine co 6 Tryz.func199 fun C hC => ?_
 subst h
 exact wr [0, 2] 25 [] [] [] [.tmp 2] 0 [] hC []
theorem e199 : EN 199 := en Tryz.func199
def lv153 : List Nat := [0, 2, 3, 5, 6, 7, 8, 9, 14]
def st153_0 (x0 : List Int) (n0 : Nat) (z0 : Unit) : St := [(2, dI 0), (3, dI 0), (6, .d (DS pI x0)), (7, dI (ln x0)), (8, dI (cnt 0 n0))]
def R153_0  (n0 : Nat) (z0 : Unit) : List Res := []
def sa153_0  (z0 : Unit) : St := [(2, dI 0), (3, dI 0)]
def Ra153_0  (z0 : Unit) : List Res := []
theorem k153 (x0 : List Int) (r : Int) (h : F153 x0 = some r) : CO 153 [.d (DS pI x0)] [] (.d (I r)) [] := by
 unfold F153 at h
 refine co 18 Tryz.func153 fun C hC => ?_
 refine ws lv153 28 [] [pl pI x0] [] 0 [] (st153_0 x0 0 ()) (R153_0 0 ()) hC [] ?_
 obtain ⟨w0, hm0, hret0, hnext0⟩ := aIn h
 clear h
 refine wc w0 (sa153_0) (Ra153_0) ?_ fun z0 hs0 => ?_
 ·refine wb ?_
  refine wL 6 rfl fun hl0 => ?_
  refine wF (by kernel_rfl) F153_l0 (st153_0 x0) (R153_0) w0 x0 () hm0 rfl rfl (fun z0 hn0 => ?_) fun n0 a0 z0 w0b hi0 hx0 h hb0 hr0 => ?_
  ·clear hm0
   exact wx w0 (sa153_0) (Ra153_0) lv153 26 [false] [] [] 0 [] () hC [pq (cE hl0)] hn0
  ·unfold F153_l0 at h
   rcases bC ((a0 != 0)) with h1 | h1
   ·replace h := cT h1 h
    have hq := hret0 _ (hr0 _ (sI h).symm)
    replace hq := sI hq
    subst hq
    exact wr lv153 35 [true, true] [pt hx0 hl0] [] [.tmp 2] 0 [] hC [pq (cL hi0 hl0), pq h1]
   ·replace h := cF h1 h
    exact wx w0b (st153_0 x0 (n0 + 1)) (R153_0 (n0 + 1)) lv153 36 [true, false] [pt hx0 hl0] [] 0 [] () hC [pq (cL hi0 hl0), pq h1] (sI h).symm
 ·have h := hnext0 _ hs0
  replace h := sI h
  subst h
  exact wr lv153 23 [] [] [] [.tmp 2] 0 [] hC []
theorem e153 : EN 153 := en Tryz.func153
def lv100 : List Nat := [0, 1, 2, 3, 4, 6, 7, 8, 9, 11, 12, 13, 14, 33]
def st100_0 (x0 : api_Board) (x2 : Int) (n0 : Nat) (z0 : Int) : St := [(2, dI x2), (4, dO 0 0), (6, dI 0), (7, dI z0), (11, .d (DS q147 x0.Breakers)), (12, dI (ln x0.Breakers)), (13, dI (cnt 0 n0))]
def R100_0 (x1 : api_Power) (n0 : Nat) (z0 : Int) : List Res := [.box 36 (d36 x1)]
def sa100_0  (z0 : Int) : St := [(6, dI 0), (7, dI z0)]
def Ra100_0  (z0 : Int) : List Res := []
theorem k100 (x0 : api_Board) (x1 : api_Power) (x2 : Int) (r : Int) (h : F100 x0 x1 x2 = some r) : CO 100 [.agg (d29 x0), .agg (d36 x1), .d (I x2)] [] (.d (I r)) [] := by
 unfold F100 at h
 refine co 38 Tryz.func100 fun C hC => ?_
 refine ws lv100 28 [] [pl q147 x0.Breakers] [] 0 [1] (st100_0 x0 x2 0 0) (R100_0 x1 0 0) hC [] ?_
 obtain ⟨w0, hm0, hret0, hnext0⟩ := aIn h
 clear h
 refine wc w0 (sa100_0) (Ra100_0) ?_ fun z0 hs0 => ?_
 ·refine wb ?_
  refine wL 11 rfl fun hl0 => ?_
  refine wF (by kernel_rfl) (F100_l0 x1 x2) (st100_0 x0 x2) (R100_0 x1) w0 x0.Breakers 0 hm0 rfl rfl (fun z0 hn0 => ?_) fun n0 a0 z0 w0b hi0 hx0 h hb0 hr0 => ?_
  ·clear hm0
   exact wx w0 (sa100_0) (Ra100_0) lv100 26 [false] [] [] 0 [] z0 hC [pq (cE hl0)] hn0
  ·unfold F100_l0 at h
   obtain ⟨y1, h2, h⟩ := bE h
   rcases bC ((c100_2 x2 a0 y1)) with h3 | h3
   ·replace h := cT h3 h
    exact wx w0b (st100_0 x0 x2 (n0 + 1)) (R100_0 x1 (n0 + 1)) lv100 36 [true, true] [pt hx0 hl0, pR pB h2] [] 0 [0] (w64 (z0 + 1)) hC [pq (cL hi0 hl0), pq h3] (sI h).symm
   ·replace h := cF h3 h
    exact wx w0b (st100_0 x0 x2 (n0 + 1)) (R100_0 x1 (n0 + 1)) lv100 36 [true, false] [pt hx0 hl0, pR pB h2] [] 0 [0] z0 hC [pq (cL hi0 hl0), pq h3] (sI h).symm
 ·have h := hnext0 _ hs0
  replace h := sI h
  subst h
  exact wr lv100 23 [] [] [] [.tmp 6] 0 [] hC []
theorem e100 : EN 100 := en Tryz.func100
theorem k45s0 (x0 : api_Consumer) (x1 : Int) (r : Bool) (h : F45s0 x0 x1 = r) : CO 45 [.agg (d65 x0), .d (.ip [.v (.int .i64 x1)])] [] (.d (Bo r)) [] := by
 unfold F45s0 at h
 refine co 8 Tryz.func45 fun C hC => ?_
 subst h
 exact wr n4_ 25 [] [] [] [.tmp 3] 0 [] hC []
theorem e45s0 : EN 45 := en Tryz.func45
def lv195 : List Nat := [0, 1, 2, 3, 4, 5, 8, 9, 10, 11, 13, 14, 15, 16, 36]
def st195_0 (x0 : api_Board) (x2 : Int) (x3 : Int) (n0 : Nat) (z0 : Unit) : St := [(2, dI x2), (3, dI x3), (5, dO 0 0), (8, dI 0), (9, dB false), (13, .d (DS q147 x0.Breakers)), (14, dI (ln x0.Breakers)), (15, dI (cnt 0 n0))]
def R195_0 (x1 : api_Power) (n0 : Nat) (z0 : Unit) : List Res := [.box 36 (d36 x1)]
def sa195_0  (z0 : Unit) : St := [(8, dI 0), (9, dB false)]
def Ra195_0  (z0 : Unit) : List Res := []
theorem k195 (x0 : api_Board) (x1 : api_Power) (x2 : Int) (x3 : Int) (r : Int × Bool) (h : F195 x0 x1 x2 x3 = some r) : CO 195 [.agg (d29 x0), .agg (d36 x1), .d (I x2), .d (I x3)] [] (.tup [.d (I r.1), .d (Bo r.2)]) [] := by
 unfold F195 at h
 refine co 40 Tryz.func195 fun C hC => ?_
 refine ws lv195 26 [] [pl q147 x0.Breakers] [] 0 [1] (st195_0 x0 x2 x3 0 ()) (R195_0 x1 0 ()) hC [] ?_
 obtain ⟨w0, hm0, hret0, hnext0⟩ := aIn h
 clear h
 refine wc w0 (sa195_0) (Ra195_0) ?_ fun z0 hs0 => ?_
 ·refine wb ?_
  refine wL 13 rfl fun hl0 => ?_
  refine wF (by kernel_rfl) (F195_l0 x1 x2 x3) (st195_0 x0 x2 x3) (R195_0 x1) w0 x0.Breakers () hm0 rfl rfl (fun z0 hn0 => ?_) fun n0 a0 z0 w0b hi0 hx0 h hb0 hr0 => ?_
  ·clear hm0
   exact wx w0 (sa195_0) (Ra195_0) lv195 26 [false] [] [] 0 [] () hC [pq (cE hl0)] hn0
  ·unfold F195_l0 at h
   obtain ⟨y1, h2, h⟩ := bE h
   rcases bC ((c195_1 x2 x3 a0 y1)) with h3 | h3
   ·replace h := cT h3 h
    have hq := hret0 _ (hr0 _ (sI h).symm)
    replace hq := sI hq
    subst hq
    exact wr lv195 35 [true, true] [pt hx0 hl0, pR pB h2] [] [.tmp 8, .tmp 9] 0 [] hC [pq (cL hi0 hl0), pq h3]
   ·replace h := cF h3 h
    exact wx w0b (st195_0 x0 x2 x3 (n0 + 1)) (R195_0 x1 (n0 + 1)) lv195 36 [true, false] [pt hx0 hl0, pR pB h2] [] 0 [0] () hC [pq (cL hi0 hl0), pq h3] (sI h).symm
 ·have h := hnext0 _ hs0
  replace h := sI h
  subst h
  exact wr lv195 23 [] [] [] [.tmp 8, .tmp 9] 0 [] hC []
theorem e195 : EN 195 := en Tryz.func195
def lv142 : List Nat := [0, 1, 2, 3, 4, 5, 6, 7, 8, 9, 14, 15, 16, 24, 25, 26, 28, 29, 30, 31, 44]
def st142_0 (y1 : List Int) (n0 : Nat) (z0 : (List Int)) : St := [(2, dO 0 0), (3, dO 1 0), (4, .d (DS pI [])), (5, dS 2), (14, dI (ln y1)), (15, dI (cnt 0 n0))]
def R142_0 (x0 : api_Board) (x1 : api_Power) (n0 : Nat) (z0 : (List Int)) : List Res := [.box 29 (d29 x0), .box 36 (d36 x1), v0_ z0]
def sa142_0  (z0 : (List Int)) : St := [(2, dO 0 0), (3, dO 1 0), (4, .d (DS pI [])), (5, dS 2)]
def Ra142_0 (x0 : api_Board) (x1 : api_Power) (z0 : (List Int)) : List Res := [.box 29 (d29 x0), .box 36 (d36 x1), v0_ z0]
def st142_1 (z0 : (List Int)) (n1 : Nat) (z1 : (List Int)) : St := [(2, dO 0 0), (3, dO 1 0), (4, .d (DS pI [])), (5, dS 2), (24, dI (ln z0)), (25, dI (cnt 0 n1))]
def R142_1 (x0 : api_Board) (x1 : api_Power) (n1 : Nat) (z1 : (List Int)) : List Res := [.box 29 (d29 x0), .box 36 (d36 x1), v0_ z1]
def sa142_1  (z1 : (List Int)) : St := [(4, .d (DS pI [])), (5, dS 0)]
def Ra142_1  (z1 : (List Int)) : List Res := [v0_ z1]
def st142_2 (x0 : api_Board) (z0 : (List Int)) (n1 : Nat) (n2 : Nat) (z2 : (List Int)) : St := [(2, dO 0 0), (3, dO 1 0), (4, .d (DS pI [])), (5, dS 2), (24, dI (ln z0)), (25, dI (cnt 0 n1)), (28, .d (DS q147 x0.Breakers)), (29, dI (ln x0.Breakers)), (30, dI (cnt 0 n2))]
def R142_2 (x0 : api_Board) (x1 : api_Power) (n2 : Nat) (z2 : (List Int)) : List Res := [.box 29 (d29 x0), .box 36 (d36 x1), v0_ z2]
def sa142_2 (z0 : (List Int)) (n1 : Nat) (z2 : (List Int)) : St := [(2, dO 0 0), (3, dO 1 0), (4, .d (DS pI [])), (5, dS 2), (24, dI (ln z0)), (25, dI (cnt 0 n1))]
def Ra142_2 (x0 : api_Board) (x1 : api_Power) (z2 : (List Int)) : List Res := [.box 29 (d29 x0), .box 36 (d36 x1), v0_ z2]
theorem k142 (x0 : api_Board) (x1 : api_Power) (r : (List Int)) (h : F142 x0 x1 = some r) : CO 142 [.agg (d29 x0), .agg (d36 x1)] [] (.d (.os 0)) [v0_ r] := by
 unfold F142 at h
 refine co 69 Tryz.func142 fun C hC => ?_
 obtain ⟨y1, h2, h⟩ := bE h
 refine ws lv142 28 [] [⟨.room (x0.Buses * (8 + 1)) (List.replicate (Int.toNat x0.Buses) (pI 0)) (y1.map pI), make_get h2⟩, pl pI y1] [] 0 n3_ (st142_0 y1 0 y1) (R142_0 x0 x1 0 y1) hC [] ?_
 obtain ⟨w0, hm0, hret0, hnext0⟩ := aIn h
 clear h
 refine wc w0 (sa142_0) (Ra142_0 x0 x1) ?_ fun z0 hs0 => ?_
 ·refine wb ?_
  refine wO 5 2 rfl rfl fun hl0 => ?_
  refine wF (by kernel_rfl) F142_l0 (st142_0 y1) (R142_0 x0 x1) w0 y1 y1 hm0 rfl rfl (fun z0 hn0 => ?_) fun n0 a0 z0 w0b hi0 hx0 h hb0 hr0 => ?_
  ·clear hm0
   exact wx w0 (sa142_0) (Ra142_0 x0 x1) lv142 26 [false] [] [] 0 n3_ z0 hC [pq (cE hl0)] hn0
  ·unfold F142_l0 at h
   obtain ⟨y3, h4, h⟩ := bE h
   obtain ⟨y5, h6, h⟩ := bE h
   exact wx w0b (st142_0 y1 (n0 + 1)) (R142_0 x0 x1 (n0 + 1)) lv142 33 [true] [pr pI h4, pu pI h4 h6] [] 0 n3_ y5 hC [pq (cL hi0 hl0)] (sI h).symm
 ·have h := hnext0 _ hs0
  refine ws lv142 24 [] [pl pI z0] [] 0 n3_ (st142_1 z0 0 z0) (R142_1 x0 x1 0 z0) hC [] ?_
  obtain ⟨w1, hm1, hret1, hnext1⟩ := aIn h
  clear h
  refine wc w1 (sa142_1) (Ra142_1) ?_ fun z1 hs1 => ?_
  ·refine wb ?_
   refine wO 5 2 rfl rfl fun hl1 => ?_
   refine wF (by kernel_rfl) (F142_l1 x0 x1) (st142_1 z0) (R142_1 x0 x1) w1 z0 z0 hm1 rfl rfl (fun z1 hn1 => ?_) fun n1 a1 z1 w1b hi1 hx1 h hb1 hr1 => ?_
   ·clear hm1
    exact wx w1 (sa142_1) (Ra142_1) lv142 26 [false] [] [] 0 [2] z1 hC [pq (cE hl1)] hn1
   ·unfold F142_l1 at h
    refine ws lv142 30 [true] [pl q147 x0.Breakers] [] 0 n3_ (st142_2 x0 z0 n1 0 z1) (R142_2 x0 x1 0 z1) hC [pq (cL hi1 hl1)] ?_
    obtain ⟨w2, hm2, hret2, hnext2⟩ := aIn h
    clear h
    refine wc w2 (sa142_2 z0 n1) (Ra142_2 x0 x1) ?_ fun z2 hs2 => ?_
    ·refine wb ?_
     refine wL 28 rfl fun hl2 => ?_
     refine wF (by kernel_rfl) (F142_l2 x1) (st142_2 x0 z0 n1) (R142_2 x0 x1) w2 x0.Breakers z1 hm2 rfl rfl (fun z2 hn2 => ?_) fun n2 a2 z2 w2b hi2 hx2 h hb2 hr2 => ?_
     ·clear hm2
      exact wx w2 (sa142_2 z0 n1) (Ra142_2 x0 x1) lv142 26 [false] [] [] 0 n3_ z2 hC [pq (cE hl2)] hn2
     ·unfold F142_l2 at h
      obtain ⟨y7, h8, h⟩ := bE h
      rcases bC (((a2.Kind == 1) && y7)) with h9 | h9
      ·replace h := cT h9 h
       obtain ⟨y10, h11, h⟩ := bE h
       obtain ⟨y12, h13, h⟩ := bE h
       obtain ⟨y14, h15, h⟩ := bE h
       obtain ⟨y16, h17, h⟩ := bE h
       obtain ⟨y18, h19, h⟩ := bE h
       exact wx w2b (st142_2 x0 z0 n1 (n2 + 1)) (R142_2 x0 x1 (n2 + 1)) lv142 38 [true, true] [pt hx2 hl2, pR pB h8, pr pI h11, pn pI h11, pr pI h13, pn pI h13, pr pI h11, pu pI h11 h15, pr pI h17, pu pI h17 h19] [] 0 n3_ y18 hC [pq (cL hi2 hl2), pq h9] (sI h).symm
      ·replace h := cF h9 h
       exact wx w2b (st142_2 x0 z0 n1 (n2 + 1)) (R142_2 x0 x1 (n2 + 1)) lv142 36 [true, false] [pt hx2 hl2, pR pB h8] [] 0 n3_ z2 hC [pq (cL hi2 hl2), pq h9] (sI h).symm
    ·have h := hnext2 _ hs2
     exact wx w1b (st142_1 z0 (n1 + 1)) (R142_1 x0 x1 (n1 + 1)) lv142 23 [] [] [] 0 n3_ z2 hC [] (sI h).symm
  ·have h := hnext1 _ hs1
   replace h := sI h
   subst h
   exact wr lv142 23 [] [] [] [.tmp 4] 0 [0] hC []
theorem e142 : EN 142 := en Tryz.func142
theorem k146 (x0 : api_Island) (r : Bool) (h : F146 x0 = r) : CO 146 [.agg (d84 x0)] [] (.d (Bo r)) [] := by
 unfold F146 at h
 refine co 7 Tryz.func146 fun C hC => ?_
 subst h
 exact wr n3_ 25 [] [pl pI x0.Buses] [] [.tmp 2] 0 [] hC []
theorem e146 : EN 146 := en Tryz.func146
def lv200 : List Nat := [0, 1, 3, 4, 5, 7, 8, 9, 16]
def st200_0 (x0 : List api_Part) (n0 : Nat) (z0 : Unit) : St := [(0, .d (DS q86 x0)), (3, dO 0 0), (4, dI 0), (7, dI (ln x0)), (8, dI (cnt 0 n0))]
def R200_0 (x1 : api_Part) (n0 : Nat) (z0 : Unit) : List Res := [.box 86 (d86 x1)]
def sa200_0  (z0 : Unit) : St := [(4, dI 0)]
def Ra200_0  (z0 : Unit) : List Res := []
theorem k200 (x0 : List api_Part) (x1 : api_Part) (r : Int) (h : F200 x0 x1 = some r) : CO 200 [.d (DS q86 x0), .agg (d86 x1)] [] (.d (I r)) [] := by
 unfold F200 at h
 refine co 19 Tryz.func200 fun C hC => ?_
 refine ws lv200 26 [] [pl q86 x0] [] 0 [0] (st200_0 x0 0 ()) (R200_0 x1 0 ()) hC [] ?_
 obtain ⟨w0, hm0, hret0, hnext0⟩ := aIn h
 clear h
 refine wc w0 (sa200_0) (Ra200_0) ?_ fun z0 hs0 => ?_
 ·refine wb ?_
  refine wL 0 rfl fun hl0 => ?_
  refine wF (by kernel_rfl) (F200_l0 x1) (st200_0 x0) (R200_0 x1) w0 x0 () hm0 rfl rfl (fun z0 hn0 => ?_) fun n0 a0 z0 w0b hi0 hx0 h hb0 hr0 => ?_
  ·clear hm0
   exact wx w0 (sa200_0) (Ra200_0) lv200 26 [false] [] [] 0 [] () hC [pq (cE hl0)] hn0
  ·unfold F200_l0 at h
   rcases bC ((c200_1 x1 a0)) with h1 | h1
   ·replace h := cT h1 h
    have hq := hret0 _ (hr0 _ (sI h).symm)
    replace hq := sI hq
    subst hq
    exact wr lv200 35 [true, true] [pt hx0 hl0] [] [.tmp 4] 0 [] hC [pq (cL hi0 hl0), pq h1]
   ·replace h := cF h1 h
    exact wx w0b (st200_0 x0 (n0 + 1)) (R200_0 x1 (n0 + 1)) lv200 36 [true, false] [pt hx0 hl0] [] 0 [0] () hC [pq (cL hi0 hl0), pq h1] (sI h).symm
 ·have h := hnext0 _ hs0
  replace h := sI h
  subst h
  exact wr lv200 23 [] [] [] [.tmp 4] 0 [] hC []
theorem e200 : EN 200 := en Tryz.func200
theorem e46 : EN 46 := en Tryz.func46
theorem k159 (x0 : api_Thrust) (r : Bool) (h : F159 x0 = r) : CO 159 [.agg (d70 x0)] [] (.d (Bo r)) [] := by
 unfold F159 at h
 refine co 17 Tryz.func159 fun C hC => ?_
 subst h
 exact wr n3_ 25 [] [] [] [.tmp 2] 0 [] hC []
theorem e159 : EN 159 := en Tryz.func159
theorem k203 (x0 : Int) (x1 : Int) (r : Int) (h : F203 x0 x1 = some r) : CO 203 [.d (I x0), .d (I x1)] [] (.d (I r)) [] := by
 unfold F203 at h
 refine co 16 Tryz.func203 fun C hC => ?_
 obtain ⟨u2, h1, h⟩ := bE h
 obtain ⟨u4, h3, h⟩ := bE h
 rcases bC (decide ((Int.tmod x0 x1) < 0)) with h5 | h5
 ·replace h := cT h5 h
  replace h := sI h
  subst h
  exact wr [0, 1, 4, 5, 12] 32 [true] [⟨.nz x1, nz_get h1⟩, ⟨.nz x1, nz_get h3⟩] [] [.tmp 4] 0 [] hC [pq h5]
 ·replace h := cF h5 h
  replace h := sI h
  subst h
  exact wr [0, 1, 4, 5, 12] 32 [false] [⟨.nz x1, nz_get h1⟩, ⟨.nz x1, nz_get h3⟩] [] [.tmp 4] 0 [] hC [pq h5]
theorem e203 : EN 203 := en Tryz.func203
def lv107 : List Nat := [0, 2, 3, 4, 5, 6, 12, 15, 25]
def st107_0 (x0 : Int) (z0 : Int × Int) : St := [(0, dI x0), (2, dI 0), (3, dI 0), (4, dI z0.1), (5, dI z0.2)]
def R107_0  (z0 : Int × Int) : List Res := []
def sa107_0  (z0 : Int × Int) : St := [(2, dI 0), (3, dI 0), (4, dI z0.1)]
def Ra107_0  (z0 : Int × Int) : List Res := []
theorem k107 (x0 : Int) (r : Int × Int) (h : F107 x0 = some r) : CO 107 [.d (I x0)] [] (.tup [.d (I r.1), .d (I r.2)]) [] := by
 unfold F107 at h
 refine co 30 Tryz.func107 fun C hC => ?_
 rcases bC ((c107_0 x0)) with h1 | h1
 ·replace h := cT h1 h
  replace h := sI h
  subst h
  exact wr lv107 29 [true] [] [] [.tmp 2, .tmp 3] 0 [] hC [pq h1]
 ·replace h := cF h1 h
  refine ws lv107 31 [false] [] [] 0 [] (st107_0 x0 (0, 1000000000)) (R107_0 (0, 1000000000)) hC [pq h1] ?_
  obtain ⟨w0, hm0, hret0, hnext0⟩ := aIn h
  clear h
  refine wc w0 (sa107_0) (Ra107_0) ?_ fun z0 hs0 => ?_
  ·refine wb ?_
   refine wW (by kernel_rfl) (F107_l0 x0) (st107_0 x0) (R107_0) w0 1152921504606846976 (0, 1000000000) hm0 rfl rfl fun z0 w0b h hb0 hr0 => ?_
   unfold F107_l0 at h
   rcases bC (decide (z0.1 < z0.2)) with h2 | h2
   ·replace h := cT h2 h
    rcases bC ((c107_3 x0 z0)) with h3 | h3
    ·replace h := cT h3 h
     exact wx w0b (st107_0 x0) (R107_0) lv107 34 [true, true] [⟨.nz 2, nz_lit rfl⟩] [] 0 [] (w64 (Int.tdiv (w64 ((w64 (z0.1 + z0.2)) + 1)) 2), z0.2) hC [pq h2, pq h3] (sI h).symm
    ·replace h := cF h3 h
     exact wx w0b (st107_0 x0) (R107_0) lv107 34 [true, false] [⟨.nz 2, nz_lit rfl⟩] [] 0 [] (z0.1, w64 ((w64 (Int.tdiv (w64 ((w64 (z0.1 + z0.2)) + 1)) 2)) - 1)) hC [pq h2, pq h3] (sI h).symm
   ·replace h := cF h2 h
    exact wx w0 (sa107_0) (Ra107_0) lv107 26 [false] [] [] 0 [] (z0.1, z0.2) hC [pq h2] (hb0 _ (sI h).symm)
  ·have h := hnext0 _ hs0
   replace h := sI h
   subst h
   exact wr lv107 23 [] [] [] [.tmp 2, .tmp 3] 0 [] hC []
theorem e107 : EN 107 := en Tryz.func107
def lv49 : List Nat := [0, 1, 2, 3, 6, 8, 10, 11, 12, 13, 25]
def st49_0 (x0 : api_Power) (x1 : Int) (x2 : Int) (n0 : Nat) (z0 : Unit) : St := [(1, dI x1), (2, dI x2), (6, dB false), (10, .d (DS q86 x0.Broken)), (11, dI (ln x0.Broken)), (12, dI (cnt 0 n0))]
def R49_0  (n0 : Nat) (z0 : Unit) : List Res := []
def sa49_0  (z0 : Unit) : St := [(6, dB false)]
def Ra49_0  (z0 : Unit) : List Res := []
theorem k49 (x0 : api_Power) (x1 : Int) (x2 : Int) (r : Bool) (h : F49 x0 x1 x2 = some r) : CO 49 [.agg (d36 x0), .d (I x1), .d (I x2)] [] (.d (Bo r)) [] := by
 unfold F49 at h
 refine co 27 Tryz.func49 fun C hC => ?_
 refine ws lv49 26 [] [pl q86 x0.Broken] [] 0 [] (st49_0 x0 x1 x2 0 ()) (R49_0 0 ()) hC [] ?_
 obtain ⟨w0, hm0, hret0, hnext0⟩ := aIn h
 clear h
 refine wc w0 (sa49_0) (Ra49_0) ?_ fun z0 hs0 => ?_
 ·refine wb ?_
  refine wL 10 rfl fun hl0 => ?_
  refine wF (by kernel_rfl) (F49_l0 x1 x2) (st49_0 x0 x1 x2) (R49_0) w0 x0.Broken () hm0 rfl rfl (fun z0 hn0 => ?_) fun n0 a0 z0 w0b hi0 hx0 h hb0 hr0 => ?_
  ·clear hm0
   exact wx w0 (sa49_0) (Ra49_0) lv49 26 [false] [] [] 0 [] () hC [pq (cE hl0)] hn0
  ·unfold F49_l0 at h
   rcases bC ((c49_1 x1 x2 a0)) with h1 | h1
   ·replace h := cT h1 h
    have hq := hret0 _ (hr0 _ (sI h).symm)
    replace hq := sI hq
    subst hq
    exact wr lv49 35 [true, true] [pt hx0 hl0] [] [.tmp 6] 0 [] hC [pq (cL hi0 hl0), pq h1]
   ·replace h := cF h1 h
    exact wx w0b (st49_0 x0 x1 x2 (n0 + 1)) (R49_0 (n0 + 1)) lv49 36 [true, false] [pt hx0 hl0] [] 0 [] () hC [pq (cL hi0 hl0), pq h1] (sI h).symm
 ·have h := hnext0 _ hs0
  replace h := sI h
  subst h
  exact wr lv49 23 [] [] [] [.tmp 6] 0 [] hC []
theorem e49 : EN 49 := en Tryz.func49
theorem e16 : EN 16 := en Tryz.func16
theorem k129 (x0 : Int) (r : Int) (h : F129 x0 = r) : CO 129 [.d (I x0)] [] (.d (I r)) [] := by
 unfold F129 at h
 refine co 7 Tryz.func129 fun C hC => ?_
 subst h
 exact wr [0, 2] 25 [] [⟨.nz 3600, nz_lit rfl⟩, ⟨.nz 3600, nz_lit rfl⟩] [] [.tmp 2] 0 [] hC []
theorem e129 : EN 129 := en Tryz.func129
theorem k51 (x0 : api_Thrust) (r : Bool) (h : F51 x0 = r) : CO 51 [.agg (d70 x0)] [] (.d (Bo r)) [] := by
 unfold F51 at h
 refine co 21 Tryz.func51 fun C hC => ?_
 subst h
 exact wr n3_ 25 [] [] [] [.tmp 2] 0 [] hC []
theorem e51 : EN 51 := en Tryz.func51
theorem k162 (x0 : Int) (x1 : Int) (r : Bool) (h : F162 x0 x1 = r) : CO 162 [.d (I x0), .d (I x1)] [] (.d (Bo r)) [] := by
 unfold F162 at h
 refine co 14 Tryz.func162 fun C hC => ?_
 subst h
 exact wr [0, 1, 4] 25 [] [] [] [.tmp 4] 0 [] hC []
theorem e162 : EN 162 := en Tryz.func162
theorem k110 (x0 : Int) (x1 : Int) (r : Int) (h : F110 x0 x1 = some r) : CO 110 [.d (I x0), .d (I x1)] [] (.d (I r)) [] := by
 unfold F110 at h
 refine co 16 Tryz.func110 fun C hC => ?_
 obtain ⟨u2, h1, h⟩ := bE h
 obtain ⟨u4, h3, h⟩ := bE h
 rcases bC (decide ((Int.tmod x0 x1) < 0)) with h5 | h5
 ·replace h := cT h5 h
  replace h := sI h
  subst h
  exact wr [0, 1, 4, 5, 12] 32 [true] [⟨.nz x1, nz_get h1⟩, ⟨.nz x1, nz_get h3⟩] [] [.tmp 4] 0 [] hC [pq h5]
 ·replace h := cF h5 h
  replace h := sI h
  subst h
  exact wr [0, 1, 4, 5, 12] 32 [false] [⟨.nz x1, nz_get h1⟩, ⟨.nz x1, nz_get h3⟩] [] [.tmp 4] 0 [] hC [pq h5]
theorem e110 : EN 110 := en Tryz.func110
theorem k35  (r : api_Board × api_Table) (h : F35  = r) : CO 35 [] [] (.tup [.agg (d29 r.1), .agg (d31 r.2)]) [] := by
 unfold F35 at h
 refine co 13 Tryz.func35 fun C hC => ?_
 subst h
 exact wr [0, 1] 25 [] [] [] [.cell 0 29, .cell 1 31] 0 [] hC []
theorem e35 : EN 35 := en Tryz.func35
theorem k59 (x0 : api_Table) (r : Bool) (h : F59 x0 = r) : CO 59 [.agg (d31 x0)] [] (.d (Bo r)) [] := by
 unfold F59 at h
 refine co 33 Tryz.func59 fun C hC => ?_
 subst h
 exact wr n3_ 25 [] [] [] [.tmp 2] 0 [] hC []
theorem e59 : EN 59 := en Tryz.func59
theorem k194 (x0 : Int) (x1 : Int) (r : Int × Int) (h : F194 x0 x1 = r) : CO 194 [.d (.p (.v (.int .u64 x0))), .d (.p (.v (.int .u64 x1)))] [] (.tup [.d (.p (.v (.int .u64 r.1))), .d (.p (.v (.int .u64 r.2)))]) [] := by
 unfold F194 at h
 refine co 51 Tryz.func194 fun C hC => ?_
 subst h
 exact wr [0, 1, 4, 5, 6, 7, 8, 9, 10, 11, 12, 13] 45 [] [] [] [.tmp 4, .tmp 5] 0 [] hC []
theorem e194 : EN 194 := en Tryz.func194
theorem k166 (x0 : List Bool) (r : List Bool) (h : F166 x0 = some r) : CO 166 [.d (.p (.s (x0.map pB)))] [] (.d (.os 0)) [v2_ r] := by
 unfold F166 at h
 refine co 8 Tryz.func166 fun C hC => ?_
 refine ws [0, 4] 40 [] [] [] 0 [] [(0, .d (.p (.s (x0.map pB)))), (4, .d (.nq (x0.map pB)))] [] hC [] ?_
 refine WI_nq 4 (by kernel_rfl) (by kernel_rfl) rfl (fun hn => ?_) ?_
 ·have hx : x0 = [] := by cases x0 with | nil => rfl | cons => cases hn
  subst hx
  have hr : r = [] := by simpa [appI] using h.symm
  subst hr
  exact wr [2] 40 [] [] [.own 2 4 1] [.tmp 2] 0 [0] hC []
 ·exact wr [2] 40 [] [⟨.own, trivial⟩, ⟨.app [] (x0.map pB) 1 ((([] : List (List Pd)).length + (x0.map pB).length) * (1 + 1)) (r.map pB), aG (l := []) pB 1 (fun _ => rfl) h⟩] [] [.tmp 2] 0 [1] hC []
theorem e166 : EN 166 := en Tryz.func166
theorem k167 (x0 : List api_Running) (r : List api_Running) (h : F167 x0 = some r) : CO 167 [.d (.p (.s (x0.map q120)))] [] (.d (.os 0)) [v3_ r] := by
 unfold F167 at h
 refine co 8 Tryz.func167 fun C hC => ?_
 refine ws [0, 4] 40 [] [] [] 0 [] [(0, .d (.p (.s (x0.map q120)))), (4, .d (.nq (x0.map q120)))] [] hC [] ?_
 refine WI_nq 4 (by kernel_rfl) (by kernel_rfl) rfl (fun hn => ?_) ?_
 ·have hx : x0 = [] := by cases x0 with | nil => rfl | cons => cases hn
  subst hx
  have hr : r = [] := by simpa [appI] using h.symm
  subst hr
  exact wr [2] 40 [] [] [.own 2 120 4] [.tmp 2] 0 [0] hC []
 ·exact wr [2] 40 [] [⟨.own, trivial⟩, ⟨.app [] (x0.map q120) 4 ((([] : List (List Pd)).length + (x0.map q120).length) * (32 + 1)) (r.map q120), aG (l := []) q120 4 (fun _ => rfl) h⟩] [] [.tmp 2] 0 [1] hC []
theorem e167 : EN 167 := en Tryz.func167
theorem k168 (x0 : List Int) (r : List Int) (h : F168 x0 = some r) : CO 168 [.d (.p (.s (x0.map pI)))] [] (.d (.os 0)) [v0_ r] := by
 unfold F168 at h
 refine co 8 Tryz.func168 fun C hC => ?_
 refine ws [0, 4] 40 [] [] [] 0 [] [(0, .d (.p (.s (x0.map pI)))), (4, .d (.nq (x0.map pI)))] [] hC [] ?_
 refine WI_nq 4 (by kernel_rfl) (by kernel_rfl) rfl (fun hn => ?_) ?_
 ·have hx : x0 = [] := by cases x0 with | nil => rfl | cons => cases hn
  subst hx
  have hr : r = [] := by simpa [appI] using h.symm
  subst hr
  exact wr [2] 40 [] [] [.own 2 3 1] [.tmp 2] 0 [0] hC []
 ·exact wr [2] 40 [] [⟨.own, trivial⟩, ⟨.app [] (x0.map pI) 1 ((([] : List (List Pd)).length + (x0.map pI).length) * (8 + 1)) (r.map pI), aG (l := []) pI 1 (fun _ => rfl) h⟩] [] [.tmp 2] 0 [1] hC []
theorem e168 : EN 168 := en Tryz.func168
theorem k169 (x0 : List api_Part) (r : List api_Part) (h : F169 x0 = some r) : CO 169 [.d (.p (.s (x0.map q86)))] [] (.d (.os 0)) [v4_ r] := by
 unfold F169 at h
 refine co 8 Tryz.func169 fun C hC => ?_
 refine ws [0, 4] 40 [] [] [] 0 [] [(0, .d (.p (.s (x0.map q86)))), (4, .d (.nq (x0.map q86)))] [] hC [] ?_
 refine WI_nq 4 (by kernel_rfl) (by kernel_rfl) rfl (fun hn => ?_) ?_
 ·have hx : x0 = [] := by cases x0 with | nil => rfl | cons => cases hn
  subst hx
  have hr : r = [] := by simpa [appI] using h.symm
  subst hr
  exact wr [2] 40 [] [] [.own 2 86 2] [.tmp 2] 0 [0] hC []
 ·exact wr [2] 40 [] [⟨.own, trivial⟩, ⟨.app [] (x0.map q86) 2 ((([] : List (List Pd)).length + (x0.map q86).length) * (16 + 1)) (r.map q86), aG (l := []) q86 2 (fun _ => rfl) h⟩] [] [.tmp 2] 0 [1] hC []
theorem e169 : EN 169 := en Tryz.func169
def lv117s0 : List Nat := [0, 1, 2, 3, 5, 7, 8, 9, 10, 11]
def st117s0_0 (x1 : List Int) (n0 : Nat) (z0 : (List api_Running)) : St := [(3, dO 4 0), (5, dO 5 0), (8, .d (DS pI x1)), (9, dI (ln x1)), (10, dI (cnt 0 n0))]
def R117s0_0 (x0 : api_Power) (x2 : api_Running) (n0 : Nat) (z0 : (List api_Running)) : List Res := [v2_ x0.Closed, v3_ z0, v0_ x0.Limits, v4_ x0.Broken, .box 36 [.os 0, .os 1, .os 2, .os 3], .box 120 (d120 x2)]
def sa117s0_0  (z0 : (List api_Running)) : St := []
def Ra117s0_0 (x0 : api_Power) (z0 : (List api_Running)) : List Res := [v2_ x0.Closed, v3_ z0, v0_ x0.Limits, v4_ x0.Broken]
theorem k117s0 (x0 : api_Power) (x1 : List Int) (x2 : api_Running) (r : (List api_Running)) (h : F117s0 x0 x1 x2 = some r) : CO 117 [.agg [.os 0, .os 1, .os 2, .os 3], .d (DS pI x1), .agg (d120 x2)] (zp x0 []) (.tup []) [v2_ x0.Closed, v3_ r, v0_ x0.Limits, v4_ x0.Broken] := by
 unfold F117s0 at h
 refine co 29 Tryz.func117 fun C hC => ?_
 refine ws lv117s0 25 [] [pl pI x1] [] 4 n6_ (st117s0_0 x1 0 x0.Sources) (R117s0_0 x0 x2 0 x0.Sources) hC [] ?_
 obtain ⟨w0, hm0, hret0, hnext0⟩ := aIn h
 clear h
 refine wc w0 (sa117s0_0) (Ra117s0_0 x0) ?_ fun z0 hs0 => ?_
 ·refine wb ?_
  refine wL 8 rfl fun hl0 => ?_
  refine wF (by kernel_rfl) (F117s0_l0 x2) (st117s0_0 x1) (R117s0_0 x0 x2) w0 x1 x0.Sources hm0 rfl rfl (fun z0 hn0 => ?_) fun n0 a0 z0 w0b hi0 hx0 h hb0 hr0 => ?_
  ·clear hm0
   exact wx w0 (sa117s0_0) (Ra117s0_0 x0) lv117s0 26 [false] [] [] 4 n4_ z0 hC [pq (cE hl0)] hn0
  ·unfold F117s0_l0 at h
   obtain ⟨y1, h2, h⟩ := bE h
   obtain ⟨y3, h4, h⟩ := bE h
   obtain ⟨y5, h6, h⟩ := bE h
   obtain ⟨y7, h8, h⟩ := bE h
   exact wx w0b (st117s0_0 x1 (n0 + 1)) (R117s0_0 x0 x2 (n0 + 1)) lv117s0 33 [true] [pt hx0 hl0, pr q120 h2, pu q120 h2 h4, pr q120 h6, pu q120 h6 h8] [] 4 n6_ y7 hC [pq (cL hi0 hl0)] (sI h).symm
 ·have h := hnext0 _ hs0
  replace h := sI h
  subst h
  exact wf lv117s0 20 [] [] [] [] 4 n4_ hC []
theorem e117s0 : EN 117 := en Tryz.func117
def lv118 : List Nat := [0, 1, 4, 5, 10, 12, 13, 14, 24]
def st118_0 (x0 : List Bool) (x1 : List Bool) (n0 : Nat) (z0 : Unit) : St := [(0, .d (DS pB x0)), (1, .d (DS pB x1)), (4, dB false), (12, dI (ln x0)), (13, dI (cnt 0 n0))]
def R118_0  (n0 : Nat) (z0 : Unit) : List Res := []
def sa118_0  (z0 : Unit) : St := [(4, dB false)]
def Ra118_0  (z0 : Unit) : List Res := []
theorem k118 (x0 : List Bool) (x1 : List Bool) (r : Bool) (h : F118 x0 x1 = some r) : CO 118 [.d (DS pB x0), .d (DS pB x1)] [] (.d (Bo r)) [] := by
 unfold F118 at h
 refine co 26 Tryz.func118 fun C hC => ?_
 rcases bC (((ln x0) != (ln x1))) with h1 | h1
 ·replace h := cT h1 h
  cases h
 ·replace h := cF h1 h
  refine ws lv118 31 [false] [pl pB x0, pl pB x1, pl pB x0] [] 0 [] (st118_0 x0 x1 0 ()) (R118_0 0 ()) hC [pq h1] ?_
  obtain ⟨w0, hm0, hret0, hnext0⟩ := aIn h
  clear h
  refine wc w0 (sa118_0) (Ra118_0) ?_ fun z0 hs0 => ?_
  ·refine wb ?_
   refine wL 0 rfl fun hl0 => ?_
   refine wF (by kernel_rfl) (F118_l0 x1) (st118_0 x0 x1) (R118_0) w0 x0 () hm0 rfl rfl (fun z0 hn0 => ?_) fun n0 a0 z0 w0b hi0 hx0 h hb0 hr0 => ?_
   ·clear hm0
    exact wx w0 (sa118_0) (Ra118_0) lv118 26 [false] [] [] 0 [] () hC [pq (cE hl0)] hn0
   ·unfold F118_l0 at h
    obtain ⟨y2, h3, h⟩ := bE h
    rcases bC (!(a0 == y2)) with h4 | h4
    ·replace h := cT h4 h
     cases h
    ·replace h := cF h4 h
     exact wx w0b (st118_0 x0 x1 (n0 + 1)) (R118_0 (n0 + 1)) lv118 36 [true, false] [pt hx0 hl0, pr pB h3] [] 0 [] () hC [pq (cL hi0 hl0), pq h4] (sI h).symm
  ·have h := hnext0 _ hs0
   replace h := sI h
   subst h
   exact wr lv118 23 [] [] [] [.tmp 4] 0 [] hC []
theorem e118 : EN 118 := en Tryz.func118
def lv119 : List Nat := [0, 1, 4, 5, 10, 12, 13, 14, 24]
def st119_0 (x0 : List api_Running) (x1 : List api_Running) (n0 : Nat) (z0 : Unit) : St := [(0, .d (DS q120 x0)), (1, .d (DS q120 x1)), (4, dB false), (12, dI (ln x0)), (13, dI (cnt 0 n0))]
def R119_0  (n0 : Nat) (z0 : Unit) : List Res := []
def sa119_0  (z0 : Unit) : St := [(4, dB false)]
def Ra119_0  (z0 : Unit) : List Res := []
theorem k119 (x0 : List api_Running) (x1 : List api_Running) (r : Bool) (h : F119 x0 x1 = some r) : CO 119 [.d (DS q120 x0), .d (DS q120 x1)] [] (.d (Bo r)) [] := by
 unfold F119 at h
 refine co 26 Tryz.func119 fun C hC => ?_
 rcases bC (((ln x0) != (ln x1))) with h1 | h1
 ·replace h := cT h1 h
  cases h
 ·replace h := cF h1 h
  refine ws lv119 31 [false] [pl q120 x0, pl q120 x1, pl q120 x0] [] 0 [] (st119_0 x0 x1 0 ()) (R119_0 0 ()) hC [pq h1] ?_
  obtain ⟨w0, hm0, hret0, hnext0⟩ := aIn h
  clear h
  refine wc w0 (sa119_0) (Ra119_0) ?_ fun z0 hs0 => ?_
  ·refine wb ?_
   refine wL 0 rfl fun hl0 => ?_
   refine wF (by kernel_rfl) (F119_l0 x1) (st119_0 x0 x1) (R119_0) w0 x0 () hm0 rfl rfl (fun z0 hn0 => ?_) fun n0 a0 z0 w0b hi0 hx0 h hb0 hr0 => ?_
   ·clear hm0
    exact wx w0 (sa119_0) (Ra119_0) lv119 26 [false] [] [] 0 [] () hC [pq (cE hl0)] hn0
   ·unfold F119_l0 at h
    obtain ⟨y2, h3, h⟩ := bE h
    rcases bC ((c119_1 a0 y2)) with h4 | h4
    ·replace h := cT h4 h
     cases h
    ·replace h := cF h4 h
     exact wx w0b (st119_0 x0 x1 (n0 + 1)) (R119_0 (n0 + 1)) lv119 36 [true, false] [pt hx0 hl0, pr q120 h3] [] 0 [] () hC [pq (cL hi0 hl0), pq h4] (sI h).symm
  ·have h := hnext0 _ hs0
   replace h := sI h
   subst h
   exact wr lv119 23 [] [] [] [.tmp 4] 0 [] hC []
theorem e119 : EN 119 := en Tryz.func119
def lv120 : List Nat := [0, 1, 4, 5, 10, 12, 13, 14, 24]
def st120_0 (x0 : List Int) (x1 : List Int) (n0 : Nat) (z0 : Unit) : St := [(0, .d (DS pI x0)), (1, .d (DS pI x1)), (4, dB false), (12, dI (ln x0)), (13, dI (cnt 0 n0))]
def R120_0  (n0 : Nat) (z0 : Unit) : List Res := []
def sa120_0  (z0 : Unit) : St := [(4, dB false)]
def Ra120_0  (z0 : Unit) : List Res := []
theorem k120 (x0 : List Int) (x1 : List Int) (r : Bool) (h : F120 x0 x1 = some r) : CO 120 [.d (DS pI x0), .d (DS pI x1)] [] (.d (Bo r)) [] := by
 unfold F120 at h
 refine co 26 Tryz.func120 fun C hC => ?_
 rcases bC (((ln x0) != (ln x1))) with h1 | h1
 ·replace h := cT h1 h
  cases h
 ·replace h := cF h1 h
  refine ws lv120 31 [false] [pl pI x0, pl pI x1, pl pI x0] [] 0 [] (st120_0 x0 x1 0 ()) (R120_0 0 ()) hC [pq h1] ?_
  obtain ⟨w0, hm0, hret0, hnext0⟩ := aIn h
  clear h
  refine wc w0 (sa120_0) (Ra120_0) ?_ fun z0 hs0 => ?_
  ·refine wb ?_
   refine wL 0 rfl fun hl0 => ?_
   refine wF (by kernel_rfl) (F120_l0 x1) (st120_0 x0 x1) (R120_0) w0 x0 () hm0 rfl rfl (fun z0 hn0 => ?_) fun n0 a0 z0 w0b hi0 hx0 h hb0 hr0 => ?_
   ·clear hm0
    exact wx w0 (sa120_0) (Ra120_0) lv120 26 [false] [] [] 0 [] () hC [pq (cE hl0)] hn0
   ·unfold F120_l0 at h
    obtain ⟨y2, h3, h⟩ := bE h
    rcases bC ((a0 != y2)) with h4 | h4
    ·replace h := cT h4 h
     cases h
    ·replace h := cF h4 h
     exact wx w0b (st120_0 x0 x1 (n0 + 1)) (R120_0 (n0 + 1)) lv120 36 [true, false] [pt hx0 hl0, pr pI h3] [] 0 [] () hC [pq (cL hi0 hl0), pq h4] (sI h).symm
  ·have h := hnext0 _ hs0
   replace h := sI h
   subst h
   exact wr lv120 23 [] [] [] [.tmp 4] 0 [] hC []
theorem e120 : EN 120 := en Tryz.func120
def lv121 : List Nat := [0, 1, 4, 5, 10, 12, 13, 14, 24]
def st121_0 (x0 : List api_Part) (x1 : List api_Part) (n0 : Nat) (z0 : Unit) : St := [(0, .d (DS q86 x0)), (1, .d (DS q86 x1)), (4, dB false), (12, dI (ln x0)), (13, dI (cnt 0 n0))]
def R121_0  (n0 : Nat) (z0 : Unit) : List Res := []
def sa121_0  (z0 : Unit) : St := [(4, dB false)]
def Ra121_0  (z0 : Unit) : List Res := []
theorem k121 (x0 : List api_Part) (x1 : List api_Part) (r : Bool) (h : F121 x0 x1 = some r) : CO 121 [.d (DS q86 x0), .d (DS q86 x1)] [] (.d (Bo r)) [] := by
 unfold F121 at h
 refine co 26 Tryz.func121 fun C hC => ?_
 rcases bC (((ln x0) != (ln x1))) with h1 | h1
 ·replace h := cT h1 h
  cases h
 ·replace h := cF h1 h
  refine ws lv121 31 [false] [pl q86 x0, pl q86 x1, pl q86 x0] [] 0 [] (st121_0 x0 x1 0 ()) (R121_0 0 ()) hC [pq h1] ?_
  obtain ⟨w0, hm0, hret0, hnext0⟩ := aIn h
  clear h
  refine wc w0 (sa121_0) (Ra121_0) ?_ fun z0 hs0 => ?_
  ·refine wb ?_
   refine wL 0 rfl fun hl0 => ?_
   refine wF (by kernel_rfl) (F121_l0 x1) (st121_0 x0 x1) (R121_0) w0 x0 () hm0 rfl rfl (fun z0 hn0 => ?_) fun n0 a0 z0 w0b hi0 hx0 h hb0 hr0 => ?_
   ·clear hm0
    exact wx w0 (sa121_0) (Ra121_0) lv121 26 [false] [] [] 0 [] () hC [pq (cE hl0)] hn0
   ·unfold F121_l0 at h
    obtain ⟨y2, h3, h⟩ := bE h
    rcases bC ((c121_1 a0 y2)) with h4 | h4
    ·replace h := cT h4 h
     cases h
    ·replace h := cF h4 h
     exact wx w0b (st121_0 x0 x1 (n0 + 1)) (R121_0 (n0 + 1)) lv121 36 [true, false] [pt hx0 hl0, pr q86 h3] [] 0 [] () hC [pq (cL hi0 hl0), pq h4] (sI h).symm
  ·have h := hnext0 _ hs0
   replace h := sI h
   subst h
   exact wr lv121 23 [] [] [] [.tmp 4] 0 [] hC []
theorem e121 : EN 121 := en Tryz.func121
theorem k58s0 (x0 : Int) (x1 : api_Plant) (r : Bool) (h : F58s0 x0 x1 = r) : CO 58 [.d (I x0), .d (.ip [.v (.int .i64 x1.Time), .s (x1.Power.Closed.map pB), .s (x1.Power.Sources.map q120), .s (x1.Power.Limits.map pI), .s (x1.Power.Broken.map q86), .s (x1.Rosters.map q130), .s (x1.Events.map q51)])] [] (.d (Bo r)) [] := by
 unfold F58s0 at h
 refine co 12 Tryz.func58 fun C hC => ?_
 subst h
 exact wr [0, 1, 3] 25 [] [] [] [.tmp 3] 0 [] hC []
theorem e58s0 : EN 58 := en Tryz.func58
theorem k123 (x0 : List api_Roster) (r : List api_Roster) (h : F123 x0 = some r) : CO 123 [.d (.p (.s (x0.map q130)))] [] (.d (.os 0)) [v5_ r] := by
 unfold F123 at h
 refine co 8 Tryz.func123 fun C hC => ?_
 refine ws [0, 4] 40 [] [] [] 0 [] [(0, .d (.p (.s (x0.map q130)))), (4, .d (.nq (x0.map q130)))] [] hC [] ?_
 refine WI_nq 4 (by kernel_rfl) (by kernel_rfl) rfl (fun hn => ?_) ?_
 ·have hx : x0 = [] := by cases x0 with | nil => rfl | cons => cases hn
  subst hx
  have hr : r = [] := by simpa [appI] using h.symm
  subst hr
  exact wr [2] 40 [] [] [.own 2 130 2] [.tmp 2] 0 [0] hC []
 ·exact wr [2] 40 [] [⟨.own, trivial⟩, ⟨.app [] (x0.map q130) 2 ((([] : List (List Pd)).length + (x0.map q130).length) * (16 + 1)) (r.map q130), aG (l := []) q130 2 (fun _ => rfl) h⟩] [] [.tmp 2] 0 [1] hC []
theorem e123 : EN 123 := en Tryz.func123
theorem k84 (x0 : List api_Event) (r : List api_Event) (h : F84 x0 = some r) : CO 84 [.d (.p (.s (x0.map q51)))] [] (.d (.os 0)) [v1_ r] := by
 unfold F84 at h
 refine co 8 Tryz.func84 fun C hC => ?_
 refine ws [0, 4] 40 [] [] [] 0 [] [(0, .d (.p (.s (x0.map q51)))), (4, .d (.nq (x0.map q51)))] [] hC [] ?_
 refine WI_nq 4 (by kernel_rfl) (by kernel_rfl) rfl (fun hn => ?_) ?_
 ·have hx : x0 = [] := by cases x0 with | nil => rfl | cons => cases hn
  subst hx
  have hr : r = [] := by simpa [appI] using h.symm
  subst hr
  exact wr [2] 40 [] [] [.own 2 51 5] [.tmp 2] 0 [0] hC []
 ·exact wr [2] 40 [] [⟨.own, trivial⟩, ⟨.app [] (x0.map q51) 5 ((([] : List (List Pd)).length + (x0.map q51).length) * (40 + 1)) (r.map q51), aG (l := []) q51 5 (fun _ => rfl) h⟩] [] [.tmp 2] 0 [1] hC []
theorem e84 : EN 84 := en Tryz.func84
theorem k181 (x0 : api_Board) (x1 : Int) (x2 : Int) (r : Bool) (h : F181 x0 x1 x2 = some r) : CO 181 [.agg (d29 x0), .d (I x1), .d (I x2)] [] (.d (Bo r)) [] := by
 unfold F181 at h
 refine co 35 Tryz.func181 fun C hC => ?_
 rcases bC ((x1 == 1)) with h1 | h1
 ·replace h := cT h1 h
  replace h := sI h
  subst h
  exact wr [0, 1, 2, 3, 6, 7, 8, 9, 14, 19, 23] 36 [true] [pl q139 x0.Sources] [] [.tmp 6] 0 [] hC [pq h1]
 ·replace h := cF h1 h
  rcases bC ((x1 == 2)) with h2 | h2
  ·replace h := cT h2 h
   replace h := sI h
   subst h
   exact wr [0, 1, 2, 3, 6, 7, 8, 9, 14, 19, 23] 39 [false, true] [pl q147 x0.Breakers] [] [.tmp 6] 0 [] hC [pq h1, pq h2]
  ·replace h := cF h2 h
   cases h
theorem e181 : EN 181 := en Tryz.func181
theorem k244s0 (x0 : api_Breaker) (x1 : Int) (r : Bool) (h : F244s0 x0 x1 = r) : CO 244 [.agg (d147 x0), .d (.ip [.v (.int .i64 x1)])] [] (.d (Bo r)) [] := by
 unfold F244s0 at h
 refine co 13 Tryz.func244 fun C hC => ?_
 subst h
 exact wr n4_ 25 [] [] [] [.tmp 3] 0 [] hC []
theorem e244s0 : EN 244 := en Tryz.func244
theorem k224 (x0 : api_Part) (x1 : api_Part) (r : Int) (h : F224 x0 x1 = r) : CO 224 [.agg (d86 x0), .agg (d86 x1)] [] (.d (I r)) [] := by
 unfold F224 at h
 refine co 20 Tryz.func224 fun C hC => ?_
 rcases bC ((x0.Kind != x1.Kind)) with h1 | h1
 ·replace h := cT h1 h
  subst h
  exact wr [0, 1, 2, 3, 4, 9] 29 [true] [] [] [.tmp 4] 0 [] hC [pq h1]
 ·replace h := cF h1 h
  subst h
  exact wr [0, 1, 2, 3, 4, 9] 30 [false] [] [] [.tmp 4] 0 [] hC [pq h1]
theorem e224 : EN 224 := en Tryz.func224
theorem k225s0 (x0 : List api_Part) (x1 : Int) (x2 : List api_Part) (r : (List api_Part)) (h : F225s0 x0 x1 x2 = some r) : CO 225 [.d (.os 0), .d (I x1), .d (DS q86 x2)] [v4_ x0] (.d (.os 1)) [.non, v4_ r] := by
 unfold F225s0 at h
 refine co 95 Tryz.func225 fun C hC => ?_
 obtain ⟨u2, h1, h⟩ := bE h
 rcases bC (((ln x2) == 0)) with h3 | h3
 ·replace h := cT h3 h
  cases h
 ·replace h := cF h3 h
  refine ws [0, 1, 2, 6, 7, 8, 9, 16, 22, 31, 68] 37 [false] [⟨.bnd (x0.map q86).length x1 (((x0.map q86).length : Nat) : Int) (ln x0), bnd_get (by simp) (by simp) h1⟩, pl q86 x2, pl q86 x0] [] 1 [0] [(0, dS 0), (1, dI x1), (2, .d (DS q86 x2)), (6, .d (DS q86 [])), (7, dI (ln x2)), (8, dI (ln x0)), (22, dB (x1 == (ln x0)))] [v4_ x0] hC [pq h3] ?_
  rcases bC ((x1 == (ln x0))) with h4 | h4
  ·replace h := cT h4 h
   obtain ⟨y5, h6, h⟩ := bE h
   replace h := sI h
   subst h
   exact wr [0, 1, 2, 6, 7, 8, 9, 16, 22, 31, 68] 24 [true] [pa q86 2 h6] [] [.tmp 6] 1 [0, 1] hC [pq h4]
  ·replace h := cF h4 h
   cases h
theorem e225s0 : EN 225 := en Tryz.func225
theorem k124s1 (x0 : plant_runner) (x1 : api_Act) (x2 : Int) (r : plant_runner) (h : F124s1 x0 x1 x2 = some r) : CO 124 [.d (.o 0 0), .agg (d49 x1), .d (I x2)] (.box 100 (I x0.Plant.Time :: .os 1 :: .os 2 :: .os 3 :: .os 4 :: .os 5 :: .os 6 :: zb x0.board [.os 7, .os 8]) :: zp x0.Plant.Power [v5_ x0.Plant.Rosters, v1_ x0.Plant.Events, v1_ x0.events, v7_ x0.states]) (.tup []) (.box 100 (I r.Plant.Time :: .os 1 :: .os 2 :: .os 3 :: .os 4 :: .os 5 :: .os 6 :: zb r.board [.os 9, .os 8]) :: zp r.Plant.Power [v5_ r.Plant.Rosters, v1_ r.Plant.Events, .non, v7_ r.states, v1_ r.events]) := by
 unfold F124s1 at h
 refine co 23 Tryz.func124 fun C hC => ?_
 obtain ⟨y1, h2, h⟩ := bE h
 replace h := sI h
 subst h
 exact wf [0, 1, 2, 4] 23 [] [pa q51 5 h2] [] [] 9 [0, 1, 2, 3, 4, 5, 6, 7, 8, 10] hC []
theorem e124s1 : EN 124 := en Tryz.func124
theorem k230s1 (x0 : shed_relief) (x1 : Int) (r : shed_relief) (h : F230s1 x0 x1 = some r) : CO 230 [.d (.o 0 0), .d (I x1)] (.box 235 (zb x0.board [.os 1, .os 2, .os 3, .os 4, .os 5]) :: zp x0.power [v6_ x0.acts]) (.tup []) (.box 235 (zb r.board [.os 1, .os 2, .os 3, .os 4, .os 6]) :: zp r.power [.non, v6_ r.acts]) := by
 unfold F230s1 at h
 refine co 22 Tryz.func230 fun C hC => ?_
 obtain ⟨y1, h2, h⟩ := bE h
 obtain ⟨y3, h4, h⟩ := bE h
 obtain ⟨y5, h6, h⟩ := bE h
 replace h := sI h
 subst h
 exact wf [0, 1] 23 [] [pr pB h2, pu pB h2 h4, pa q49 3 h6] [] [] 6 n7_ hC []
theorem e230s1 : EN 230 := en Tryz.func230
def lv246s0 : List Nat := [0, 1, 2, 3, 8, 9, 14, 34]
def st246s0_0 (x0 : List Int) (x1 : Int) (x2 : Int) (x3c0 : api_Board) (z0 : Unit) : St := [(0, .d (DS pI x0)), (1, dI x1), (2, dI x2), (3, .d (.fn (.func 233) [] [.ip [.v (.int .i64 x3c0.Buses), .s (x3c0.Breakers.map q147), .s (x3c0.Sources.map q139), .s (x3c0.Consumers.map q65), .v (.int .i64 x3c0.Phase), .v (.int .i64 x3c0.Frequency)]])), (8, dI (w64 (x1 + 1)))]
def R246s0_0  (z0 : Unit) : List Res := []
def sa246s0_0  (z0 : Unit) : St := []
def Ra246s0_0  (z0 : Unit) : List Res := []
theorem k246s0 (x0 : List Int) (x1 : Int) (x2 : Int) (x3c0 : api_Board) (r : Unit) (h : F246s0 x0 x1 x2 x3c0 = some r) : CO 246 [.d (DS pI x0), .d (I x1), .d (I x2), .d (.fn (.func 233) [] [.ip [.v (.int .i64 x3c0.Buses), .s (x3c0.Breakers.map q147), .s (x3c0.Sources.map q139), .s (x3c0.Consumers.map q65), .v (.int .i64 x3c0.Phase), .v (.int .i64 x3c0.Frequency)]])] [] (.tup []) [] := by
 unfold F246s0 at h
 refine co 53 Tryz.func246 fun C hC => ?_
 refine ws lv246s0 23 [] [] [] 0 [] (st246s0_0 x0 x1 x2 x3c0 ()) (R246s0_0 ()) hC [] ?_
 obtain ⟨w0, hm0, hret0, hnext0⟩ := aIn h
 clear h
 refine wc w0 (sa246s0_0) (Ra246s0_0) ?_ fun z0 hs0 => ?_
 ·refine wb ?_
  refine wW (by kernel_rfl) (F246s0_l0 x1 x2) (st246s0_0 x0 x1 x2 x3c0) (R246s0_0) w0 1152921504606846976 () hm0 rfl rfl fun z0 w0b h hb0 hr0 => ?_
  unfold F246s0_l0 at h
  rcases bC (decide ((w64 (x1 + 1)) < x2)) with h1 | h1
  ·replace h := cT h1 h
   cases h
  ·replace h := cF h1 h
   exact wx w0 (sa246s0_0) (Ra246s0_0) lv246s0 26 [false] [] [] 0 [] () hC [pq h1] (hb0 _ (sI h).symm)
 ·have h := hnext0 _ hs0
  replace h := sI h
  subst h
  exact wf lv246s0 20 [] [] [] [] 0 [] hC []
theorem e246s0 : EN 246 := en Tryz.func246
theorem k174s0 (x0 : Int) (x1 : Int) (r : Bool) (h : F174s0 x0 x1 = r) : CO 174 [.d (I x0), .d (.ip [.v (.int .i64 x1)])] [] (.d (Bo r)) [] := by
 unfold F174s0 at h
 refine co 11 Tryz.func174 fun C hC => ?_
 subst h
 exact wr [0, 1, 3] 25 [] [] [] [.tmp 3] 0 [] hC []
theorem e174s0 : EN 174 := en Tryz.func174
theorem k212 (x0 : List Int) : CO 212 [.d (.p (.s (x0.map pI)))] [] (.d (.fn (.func 236) [] [.o 0 0])) [.box 22 [.p (.s (x0.map pI))]] := by
 refine co 4 Tryz.func212 fun C hC => ?_
 exact wr [1, 2] 40 [] [] [] [.tmp 2] 0 [0] hC []
theorem e212 : EN 212 := en Tryz.func212
theorem k219s0 (x0 : api_Breaker) (x1 : Int) (r : Bool) (h : F219s0 x0 x1 = r) : CO 219 [.agg (d147 x0), .d (.ip [.v (.int .i64 x1)])] [] (.d (Bo r)) [] := by
 unfold F219s0 at h
 refine co 13 Tryz.func219 fun C hC => ?_
 subst h
 exact wr n4_ 25 [] [] [] [.tmp 3] 0 [] hC []
theorem e219s0 : EN 219 := en Tryz.func219
theorem k176 (x0 : Int) (x1 : Bool) (x2 : Int) (r : Int) (h : F176 x0 x1 x2 = some r) : CO 176 [.d (I x0), .d (Bo x1), .d (I x2)] [] (.d (I r)) [] := by
 unfold F176 at h
 refine co 15 Tryz.func176 fun C hC => ?_
 rcases bC (!x1) with h1 | h1
 ·replace h := cT h1 h
  replace h := sI h
  subst h
  exact wr [0, 1, 2, 6, 7, 10] 30 [true] [] [] [.tmp 6] 0 [] hC [pq h1]
 ·replace h := cF h1 h
  cases h
theorem e176 : EN 176 := en Tryz.func176
def lv37 : List Nat := [0, 1, 4, 5, 10, 12, 13, 14, 24]
def st37_0 (x0 : List Bool) (x1 : List Bool) (n0 : Nat) (z0 : Unit) : St := [(0, .d (DS pB x0)), (1, .d (DS pB x1)), (4, dB false), (12, dI (ln x0)), (13, dI (cnt 0 n0))]
def R37_0  (n0 : Nat) (z0 : Unit) : List Res := []
def sa37_0  (z0 : Unit) : St := [(4, dB false)]
def Ra37_0  (z0 : Unit) : List Res := []
theorem k37 (x0 : List Bool) (x1 : List Bool) (r : Bool) (h : F37 x0 x1 = some r) : CO 37 [.d (DS pB x0), .d (DS pB x1)] [] (.d (Bo r)) [] := by
 unfold F37 at h
 refine co 26 Tryz.func37 fun C hC => ?_
 rcases bC (((ln x0) != (ln x1))) with h1 | h1
 ·replace h := cT h1 h
  cases h
 ·replace h := cF h1 h
  refine ws lv37 31 [false] [pl pB x0, pl pB x1, pl pB x0] [] 0 [] (st37_0 x0 x1 0 ()) (R37_0 0 ()) hC [pq h1] ?_
  obtain ⟨w0, hm0, hret0, hnext0⟩ := aIn h
  clear h
  refine wc w0 (sa37_0) (Ra37_0) ?_ fun z0 hs0 => ?_
  ·refine wb ?_
   refine wL 0 rfl fun hl0 => ?_
   refine wF (by kernel_rfl) (F37_l0 x1) (st37_0 x0 x1) (R37_0) w0 x0 () hm0 rfl rfl (fun z0 hn0 => ?_) fun n0 a0 z0 w0b hi0 hx0 h hb0 hr0 => ?_
   ·clear hm0
    exact wx w0 (sa37_0) (Ra37_0) lv37 26 [false] [] [] 0 [] () hC [pq (cE hl0)] hn0
   ·unfold F37_l0 at h
    obtain ⟨y2, h3, h⟩ := bE h
    rcases bC (!(a0 == y2)) with h4 | h4
    ·replace h := cT h4 h
     cases h
    ·replace h := cF h4 h
     exact wx w0b (st37_0 x0 x1 (n0 + 1)) (R37_0 (n0 + 1)) lv37 36 [true, false] [pt hx0 hl0, pr pB h3] [] 0 [] () hC [pq (cL hi0 hl0), pq h4] (sI h).symm
  ·have h := hnext0 _ hs0
   replace h := sI h
   subst h
   exact wr lv37 23 [] [] [] [.tmp 4] 0 [] hC []
theorem e37 : EN 37 := en Tryz.func37
def lv38 : List Nat := [0, 1, 4, 5, 10, 12, 13, 14, 24]
def st38_0 (x0 : List Int) (x1 : List Int) (n0 : Nat) (z0 : Unit) : St := [(0, .d (DS pI x0)), (1, .d (DS pI x1)), (4, dB false), (12, dI (ln x0)), (13, dI (cnt 0 n0))]
def R38_0  (n0 : Nat) (z0 : Unit) : List Res := []
def sa38_0  (z0 : Unit) : St := [(4, dB false)]
def Ra38_0  (z0 : Unit) : List Res := []
theorem k38 (x0 : List Int) (x1 : List Int) (r : Bool) (h : F38 x0 x1 = some r) : CO 38 [.d (DS pI x0), .d (DS pI x1)] [] (.d (Bo r)) [] := by
 unfold F38 at h
 refine co 26 Tryz.func38 fun C hC => ?_
 rcases bC (((ln x0) != (ln x1))) with h1 | h1
 ·replace h := cT h1 h
  cases h
 ·replace h := cF h1 h
  refine ws lv38 31 [false] [pl pI x0, pl pI x1, pl pI x0] [] 0 [] (st38_0 x0 x1 0 ()) (R38_0 0 ()) hC [pq h1] ?_
  obtain ⟨w0, hm0, hret0, hnext0⟩ := aIn h
  clear h
  refine wc w0 (sa38_0) (Ra38_0) ?_ fun z0 hs0 => ?_
  ·refine wb ?_
   refine wL 0 rfl fun hl0 => ?_
   refine wF (by kernel_rfl) (F38_l0 x1) (st38_0 x0 x1) (R38_0) w0 x0 () hm0 rfl rfl (fun z0 hn0 => ?_) fun n0 a0 z0 w0b hi0 hx0 h hb0 hr0 => ?_
   ·clear hm0
    exact wx w0 (sa38_0) (Ra38_0) lv38 26 [false] [] [] 0 [] () hC [pq (cE hl0)] hn0
   ·unfold F38_l0 at h
    obtain ⟨y2, h3, h⟩ := bE h
    rcases bC ((a0 != y2)) with h4 | h4
    ·replace h := cT h4 h
     cases h
    ·replace h := cF h4 h
     exact wx w0b (st38_0 x0 x1 (n0 + 1)) (R38_0 (n0 + 1)) lv38 36 [true, false] [pt hx0 hl0, pr pI h3] [] 0 [] () hC [pq (cL hi0 hl0), pq h4] (sI h).symm
  ·have h := hnext0 _ hs0
   replace h := sI h
   subst h
   exact wr lv38 23 [] [] [] [.tmp 4] 0 [] hC []
theorem e38 : EN 38 := en Tryz.func38
theorem k90 (x0 : api_Island) (r : Bool) (h : F90 x0 = r) : CO 90 [.agg (d84 x0)] [] (.d (Bo r)) [] := by
 unfold F90 at h
 refine co 7 Tryz.func90 fun C hC => ?_
 subst h
 exact wr n3_ 25 [] [pl pI x0.Sources] [] [.tmp 2] 0 [] hC []
theorem e90 : EN 90 := en Tryz.func90
theorem k32 (x0 : dynposmake_Src) (x1 : Int) (r : Int × dynposmake_Src) (h : F32 x0 x1 = some r) : CO 32 [.d (.o 0 0), .d (I x1)] [.box 90 (d90 x0)] (.d (I r.1)) [.box 90 (d90 r.2)] := by
 unfold F32 at h
 refine co 35 Tryz.func32 fun C hC => ?_
 rcases bC (decide (x0.At >= (ln x0.L))) with h1 | h1
 ·replace h := cT h1 h
  replace h := sI h
  subst h
  exact wr [0, 1, 4, 14] 29 [true] [pl pI x0.L] [] [.tmp 4] 1 [0] hC [pq h1]
 ·replace h := cF h1 h
  obtain ⟨y2, h3, h⟩ := bE h
  obtain ⟨y4, h5, h⟩ := bE h
  replace h := sI h
  subst h
  exact wr [0, 1, 4, 14] 32 [false] [pl pI x0.L, pr pI h3, pc e80 (k80 y2 x1 _ h5) []] [] [.tmp 4] 1 [0] hC [pq h1]
theorem e32 : EN 32 := en Tryz.func32
def lv71 : List Nat := [0, 1, 2, 3, 4, 6, 7, 16, 25, 33]
theorem k71 (x0 : api_Board) (x1 : api_Part) (r : Bool) (h : F71 x0 x1 = r) : CO 71 [.agg (d29 x0), .agg (d86 x1)] [] (.d (Bo r)) [] := by
 unfold F71 at h
 refine co 42 Tryz.func71 fun C hC => ?_
 rcases bC ((x1.Kind == 1)) with h1 | h1
 ·replace h := cT h1 h
  subst h
  exact wr lv71 32 [true] [pl q139 x0.Sources, pc e112 (k112 x1.Number 0 (w64 ((ln x0.Sources) - 1)) _ rfl) []] [] [.tmp 4] 0 [] hC [pq h1]
 ·replace h := cF h1 h
  rcases bC ((x1.Kind == 2)) with h2 | h2
  ·replace h := cT h2 h
   subst h
   exact wr lv71 35 [false, true] [pl q147 x0.Breakers, pc e112 (k112 x1.Number 0 (w64 ((ln x0.Breakers) - 1)) _ rfl) []] [] [.tmp 4] 0 [] hC [pq h1, pq h2]
  ·replace h := cF h2 h
   rcases bC ((x1.Kind == 3)) with h3 | h3
   ·replace h := cT h3 h
    subst h
    exact wr lv71 38 [false, false, true] [pc e112 (k112 x1.Number 0 (w64 (x0.Buses - 1)) _ rfl) []] [] [.tmp 4] 0 [] hC [pq h1, pq h2, pq h3]
   ·replace h := cF h3 h
    rcases bC ((x1.Kind == 4)) with h4 | h4
    ·replace h := cT h4 h
     subst h
     exact wr lv71 41 [false, false, false, true] [pl q65 x0.Consumers, pc e112 (k112 x1.Number 0 (w64 ((ln x0.Consumers) - 1)) _ rfl) []] [] [.tmp 4] 0 [] hC [pq h1, pq h2, pq h3, pq h4]
    ·replace h := cF h4 h
     subst h
     exact wr lv71 43 [false, false, false, false] [] [] [.tmp 4] 0 [] hC [pq h1, pq h2, pq h3, pq h4]
theorem e71 : EN 71 := en Tryz.func71
def lv163 : List Nat := [0, 1, 2, 3, 4, 6, 7, 8, 10, 11, 12, 13, 23, 25, 26, 37, 38, 47, 48, 57, 61, 62, 63, 64, 69, 74, 75, 76, 82, 86, 87, 88, 94]
def st163_0 (x0 : api_Board) (n0 : Nat) (z0 : Unit) : St := [(1, dO 0 0), (2, dB false), (10, .d (DS q147 x0.Breakers)), (11, dI (ln x0.Breakers)), (12, dI (cnt 0 n0))]
def R163_0 (x0 : api_Board) (n0 : Nat) (z0 : Unit) : List Res := [.box 29 (d29 x0)]
def sa163_0  (z0 : Unit) : St := [(1, dO 0 0), (2, dB false)]
def Ra163_0 (x0 : api_Board) (z0 : Unit) : List Res := [.box 29 (d29 x0)]
def st163_1 (x0 : api_Board) (n0 : Nat) (y9 : List api_Breaker) (n1 : Nat) (z1 : Unit) : St := [(1, dO 0 0), (2, dB false), (4, dO 1 0), (10, .d (DS q147 x0.Breakers)), (11, dI (ln x0.Breakers)), (12, dI (cnt 0 n0)), (61, .d (DS q147 y9)), (62, dI (ln y9)), (63, dI (cnt 0 n1))]
def R163_1 (x0 : api_Board) (a0 : api_Breaker) (n1 : Nat) (z1 : Unit) : List Res := [.box 29 (d29 x0), .box 147 (d147 a0)]
def sa163_1 (x0 : api_Board) (n0 : Nat) (z1 : Unit) : St := [(1, dO 0 0), (2, dB false), (10, .d (DS q147 x0.Breakers)), (11, dI (ln x0.Breakers)), (12, dI (cnt 0 n0))]
def Ra163_1 (x0 : api_Board) (z1 : Unit) : List Res := [.box 29 (d29 x0)]
def st163_2 (x0 : api_Board) (z2 : Int) : St := [(1, dO 0 0), (2, dB false), (74, dI (ln x0.Sources)), (75, dI z2)]
def R163_2 (x0 : api_Board) (z2 : Int) : List Res := [.box 29 (d29 x0)]
def sa163_2  (z2 : Int) : St := [(1, dO 0 0), (2, dB false)]
def Ra163_2 (x0 : api_Board) (z2 : Int) : List Res := [.box 29 (d29 x0)]
def st163_3 (x0 : api_Board) (z3 : Int) : St := [(1, dO 0 0), (2, dB false), (86, dI (ln x0.Consumers)), (87, dI z3)]
def R163_3 (x0 : api_Board) (z3 : Int) : List Res := [.box 29 (d29 x0)]
def sa163_3  (z3 : Int) : St := [(2, dB false)]
def Ra163_3  (z3 : Int) : List Res := []
theorem k163 (x0 : api_Board) (r : Bool) (h : F163 x0 = some r) : CO 163 [.agg (d29 x0)] [] (.d (Bo r)) [] := by
 unfold F163 at h
 refine co 96 Tryz.func163 fun C hC => ?_
 refine ws lv163 26 [] [pl q147 x0.Breakers] [] 0 [0] (st163_0 x0 0 ()) (R163_0 x0 0 ()) hC [] ?_
 obtain ⟨w0, hm0, hret0, hnext0⟩ := aIn h
 clear h
 refine wc w0 (sa163_0) (Ra163_0 x0) ?_ fun z0 hs0 => ?_
 ·refine wb ?_
  refine wL 10 rfl fun hl0 => ?_
  refine wF (by kernel_rfl) (F163_l0 x0) (st163_0 x0) (R163_0 x0) w0 x0.Breakers () hm0 rfl rfl (fun z0 hn0 => ?_) fun n0 a0 z0 w0b hi0 hx0 h hb0 hr0 => ?_
  ·clear hm0
   exact wx w0 (sa163_0) (Ra163_0 x0) lv163 26 [false] [] [] 0 [0] () hC [pq (cE hl0)] hn0
  ·unfold F163_l0 at h
   refine ws lv163 33 [true] [pt hx0 hl0, pc e112 (k112 a0.A 0 (w64 (x0.Buses - 1)) _ rfl) []] [] 0 [0, 1] [(1, dO 0 0), (2, dB false), (3, dI (cnt 0 n0)), (4, dO 1 0), (10, .d (DS q147 x0.Breakers)), (11, dI (ln x0.Breakers)), (12, dI (cnt 0 n0)), (23, .d (Bo (!(F112 a0.A 0 (w64 (x0.Buses - 1))))))] [.box 29 (d29 x0), .box 147 (d147 a0)] hC [pq (cL hi0 hl0)] ?_
   rcases bC (!(F112 a0.A 0 (w64 (x0.Buses - 1)))) with h1 | h1
   ·replace h := cT h1 h
    have hq := hret0 _ (hr0 _ (sI h).symm)
    replace hq := sI hq
    subst hq
    exact wr lv163 24 [true] [] [] [.tmp 2] 0 [] hC [pq h1]
   ·replace h := cF h1 h
    rcases bC ((a0.Kind == 1)) with h2 | h2
    ·replace h := cT h2 h
     rcases bC ((c163_5 x0 a0)) with h3 | h3
     ·replace h := cT h3 h
      have hq := hret0 _ (hr0 _ (sI h).symm)
      replace hq := sI hq
      subst hq
      exact wr lv163 34 [false, true, true] [pc e112 (k112 a0.B (w64 (a0.A + 1)) (w64 (x0.Buses - 1)) _ rfl) []] [] [.tmp 2] 0 [] hC [pq h1, pq h2, pq h3]
     ·replace h := cF h3 h
      exact wx w0b (st163_0 x0 (n0 + 1)) (R163_0 x0 (n0 + 1)) lv163 36 [false, true, false] [pc e112 (k112 a0.B (w64 (a0.A + 1)) (w64 (x0.Buses - 1)) _ rfl) []] [] 0 [0] () hC [pq h1, pq h2, pq h3] (sI h).symm
    ·replace h := cF h2 h
     rcases bC ((a0.Kind == 2)) with h4 | h4
     ·replace h := cT h4 h
      refine ws lv163 34 [false, false, true] [pl q139 x0.Sources, pc e112 (k112 a0.B 0 (w64 ((ln x0.Sources) - 1)) _ rfl) []] [] 0 [0] [(1, dO 0 0), (2, dB false), (10, .d (DS q147 x0.Breakers)), (11, dI (ln x0.Breakers)), (12, dI (cnt 0 n0)), (47, dB (c163_6 x0 a0))] [.box 29 (d29 x0)] hC [pq h1, pq h2, pq h4] ?_
      rcases bC ((c163_6 x0 a0)) with h5 | h5
      ·replace h := cT h5 h
       have hq := hret0 _ (hr0 _ (sI h).symm)
       replace hq := sI hq
       subst hq
       exact wr lv163 24 [true] [] [] [.tmp 2] 0 [] hC [pq h5]
      ·replace h := cF h5 h
       exact wx w0b (st163_0 x0 (n0 + 1)) (R163_0 x0 (n0 + 1)) lv163 26 [false] [] [] 0 [0] () hC [pq h5] (sI h).symm
     ·replace h := cF h4 h
      rcases bC ((a0.Kind == 3)) with h6 | h6
      ·replace h := cT h6 h
       refine ws lv163 38 [false, false, false, true] [pl q65 x0.Consumers, pc e112 (k112 a0.B 0 (w64 ((ln x0.Consumers) - 1)) _ rfl) []] [] 0 [0, 1] [(1, dO 0 0), (2, dB false), (3, dI (cnt 0 n0)), (4, dO 1 0), (10, .d (DS q147 x0.Breakers)), (11, dI (ln x0.Breakers)), (12, dI (cnt 0 n0)), (57, dB (c163_7 x0 a0))] [.box 29 (d29 x0), .box 147 (d147 a0)] hC [pq h1, pq h2, pq h4, pq h6] ?_
       rcases bC ((c163_7 x0 a0)) with h7 | h7
       ·replace h := cT h7 h
        have hq := hret0 _ (hr0 _ (sI h).symm)
        replace hq := sI hq
        subst hq
        exact wr lv163 24 [true] [] [] [.tmp 2] 0 [] hC [pq h7]
       ·replace h := cF h7 h
        obtain ⟨y9, h8, h⟩ := bE h
        refine ws lv163 25 [false] [⟨.cut (x0.Breakers.map q147) 3 0 (cnt 0 n0) (y9.map q147), cut_get q147 3 (fun _ => rfl) h8⟩, pl q147 y9] [] 0 [0, 1] (st163_1 x0 n0 y9 0 ()) (R163_1 x0 a0 0 ()) hC [pq h7] ?_
        obtain ⟨w1, hm1, hret1, hnext1⟩ := aIn h
        clear h
        refine wc w1 (sa163_1 x0 n0) (Ra163_1 x0) ?_ fun z1 hs1 => ?_
        ·refine wb ?_
         refine wL 61 rfl fun hl1 => ?_
         refine wF (by kernel_rfl) (F163_l1 a0) (st163_1 x0 n0 y9) (R163_1 x0 a0) w1 y9 () hm1 rfl rfl (fun z1 hn1 => ?_) fun n1 a1 z1 w1b hi1 hx1 h hb1 hr1 => ?_
         ·clear hm1
          exact wx w1 (sa163_1 x0 n0) (Ra163_1 x0) lv163 26 [false] [] [] 0 [0] () hC [pq (cE hl1)] hn1
         ·unfold F163_l1 at h
          rcases bC ((c163_9 a0 a1)) with h10 | h10
          ·replace h := cT h10 h
           have hq := hret1 _ (hr1 _ (sI h).symm)
           replace hq := hret0 _ (hr0 _ (sI hq).symm)
           replace hq := sI hq
           subst hq
           exact wr lv163 35 [true, true] [pt hx1 hl1] [] [.tmp 2] 0 [] hC [pq (cL hi1 hl1), pq h10]
          ·replace h := cF h10 h
           exact wx w1b (st163_1 x0 n0 y9 (n1 + 1)) (R163_1 x0 a0 (n1 + 1)) lv163 36 [true, false] [pt hx1 hl1] [] 0 [0, 1] () hC [pq (cL hi1 hl1), pq h10] (sI h).symm
        ·have h := hnext1 _ hs1
         exact wx w0b (st163_0 x0 (n0 + 1)) (R163_0 x0 (n0 + 1)) lv163 24 [] [] [] 0 [0] () hC [] (sI h).symm
      ·replace h := cF h6 h
       have hq := hret0 _ (hr0 _ (sI h).symm)
       replace hq := sI hq
       subst hq
       exact wr lv163 37 [false, false, false, false] [] [] [.tmp 2] 0 [] hC [pq h1, pq h2, pq h4, pq h6]
 ·have h := hnext0 _ hs0
  refine ws lv163 24 [] [pl q139 x0.Sources] [] 0 [0] (st163_2 x0 0) (R163_2 x0 0) hC [] ?_
  obtain ⟨w2, hm2, hret2, hnext2⟩ := aIn h
  clear h
  refine wc w2 (sa163_2) (Ra163_2 x0) ?_ fun z2 hs2 => ?_
  ·refine wb ?_
   refine wW (by kernel_rfl) (F163_l2 x0) (st163_2 x0) (R163_2 x0) w2 1152921504606846976 0 hm2 rfl rfl fun z2 w2b h hb2 hr2 => ?_
   unfold F163_l2 at h
   rcases bC ((c163_11 x0 z2)) with h11 | h11
   ·replace h := cT h11 h
    obtain ⟨y12, h13, h⟩ := bE h
    refine ws lv163 32 [true] [pc e77 (k77 x0 2 z2 _ h13) [], pl pI y12] [] 0 [0] [(1, dO 0 0), (2, dB false), (74, dI (ln x0.Sources)), (75, dI z2), (82, dB ((ln y12) != 1))] [.box 29 (d29 x0)] hC [pq h11] ?_
    rcases bC (((ln y12) != 1)) with h14 | h14
    ·replace h := cT h14 h
     have hq := hret2 _ (hr2 _ (sI h).symm)
     replace hq := sI hq
     subst hq
     exact wr lv163 24 [true] [] [] [.tmp 2] 0 [] hC [pq h14]
    ·replace h := cF h14 h
     exact wx w2b (st163_2 x0) (R163_2 x0) lv163 25 [false] [] [] 0 [0] (w64 (z2 + 1)) hC [pq h14] (sI h).symm
   ·replace h := cF h11 h
    exact wx w2 (sa163_2) (Ra163_2 x0) lv163 26 [false] [] [] 0 [0] z2 hC [pq h11] (hb2 _ (sI h).symm)
  ·have h := hnext2 _ hs2
   refine ws lv163 24 [] [pl q65 x0.Consumers] [] 0 [0] (st163_3 x0 0) (R163_3 x0 0) hC [] ?_
   obtain ⟨w3, hm3, hret3, hnext3⟩ := aIn h
   clear h
   refine wc w3 (sa163_3) (Ra163_3) ?_ fun z3 hs3 => ?_
   ·refine wb ?_
    refine wW (by kernel_rfl) (F163_l3 x0) (st163_3 x0) (R163_3 x0) w3 1152921504606846976 0 hm3 rfl rfl fun z3 w3b h hb3 hr3 => ?_
    unfold F163_l3 at h
    rcases bC ((c163_13 x0 z3)) with h15 | h15
    ·replace h := cT h15 h
     obtain ⟨y16, h17, h⟩ := bE h
     refine ws lv163 32 [true] [pc e77 (k77 x0 3 z3 _ h17) [], pl pI y16] [] 0 [0] [(1, dO 0 0), (2, dB false), (86, dI (ln x0.Consumers)), (87, dI z3), (94, dB (decide ((ln y16) < 1)))] [.box 29 (d29 x0)] hC [pq h15] ?_
     rcases bC (decide ((ln y16) < 1)) with h18 | h18
     ·replace h := cT h18 h
      have hq := hret3 _ (hr3 _ (sI h).symm)
      replace hq := sI hq
      subst hq
      exact wr lv163 24 [true] [] [] [.tmp 2] 0 [] hC [pq h18]
     ·replace h := cF h18 h
      exact wx w3b (st163_3 x0) (R163_3 x0) lv163 25 [false] [] [] 0 [0] (w64 (z3 + 1)) hC [pq h18] (sI h).symm
    ·replace h := cF h15 h
     exact wx w3 (sa163_3) (Ra163_3) lv163 26 [false] [] [] 0 [] z3 hC [pq h15] (hb3 _ (sI h).symm)
   ·have h := hnext3 _ hs3
    replace h := sI h
    subst h
    exact wr lv163 23 [] [] [] [.tmp 2] 0 [] hC []
theorem e163 : EN 163 := en Tryz.func163
def lv164 : List Nat := [0, 1, 2, 4, 6, 7, 8, 9, 29]
def st164_0 (x0 : api_Board) (n0 : Nat) (z0 : Unit) : St := [(2, dB false), (6, .d (DS q139 x0.Sources)), (7, dI (ln x0.Sources)), (8, dI (cnt 0 n0))]
def R164_0  (n0 : Nat) (z0 : Unit) : List Res := []
def sa164_0  (z0 : Unit) : St := [(2, dB false)]
def Ra164_0  (z0 : Unit) : List Res := []
theorem k164 (x0 : api_Board) (r : Bool) (h : F164 x0 = some r) : CO 164 [.agg (d29 x0)] [] (.d (Bo r)) [] := by
 unfold F164 at h
 refine co 31 Tryz.func164 fun C hC => ?_
 refine ws lv164 26 [] [pl q139 x0.Sources] [] 0 [] (st164_0 x0 0 ()) (R164_0 0 ()) hC [] ?_
 obtain ⟨w0, hm0, hret0, hnext0⟩ := aIn h
 clear h
 refine wc w0 (sa164_0) (Ra164_0) ?_ fun z0 hs0 => ?_
 ·refine wb ?_
  refine wL 6 rfl fun hl0 => ?_
  refine wF (by kernel_rfl) F164_l0 (st164_0 x0) (R164_0) w0 x0.Sources () hm0 rfl rfl (fun z0 hn0 => ?_) fun n0 a0 z0 w0b hi0 hx0 h hb0 hr0 => ?_
  ·clear hm0
   exact wx w0 (sa164_0) (Ra164_0) lv164 26 [false] [] [] 0 [] () hC [pq (cE hl0)] hn0
  ·unfold F164_l0 at h
   refine ws lv164 32 [true] [pt hx0 hl0, pc e112 (k112 a0.Rating 1 50000 _ rfl) [], ⟨.when [(!(F112 a0.Rating 1 50000), false)] (.call 112 [dI a0.Least, dI 0, dI a0.Rating] [] (dB (F112 a0.Least 0 a0.Rating)) [] []), fun hg => ⟨e112, (k112 a0.Least 0 a0.Rating _ rfl)⟩⟩, ⟨.when [(((!(F112 a0.Rating 1 50000)) || (!(F112 a0.Least 0 a0.Rating))), false)] (.call 112 [dI a0.Start, dI 0, dI 600] [] (dB (F112 a0.Start 0 600)) [] []), fun hg => ⟨e112, (k112 a0.Start 0 600 _ rfl)⟩⟩] [] 0 [] [(2, dB false), (6, .d (DS q139 x0.Sources)), (7, dI (ln x0.Sources)), (8, dI (cnt 0 n0)), (29, dB (c164_1 a0))] [] hC [pq (cL hi0 hl0)] ?_
   rcases bC ((c164_1 a0)) with h1 | h1
   ·replace h := cT h1 h
    have hq := hret0 _ (hr0 _ (sI h).symm)
    replace hq := sI hq
    subst hq
    exact wr lv164 24 [true] [] [] [.tmp 2] 0 [] hC [pq h1]
   ·replace h := cF h1 h
    exact wx w0b (st164_0 x0 (n0 + 1)) (R164_0 (n0 + 1)) lv164 25 [false] [] [] 0 [] () hC [pq h1] (sI h).symm
 ·have h := hnext0 _ hs0
  replace h := sI h
  subst h
  exact wr lv164 23 [] [] [] [.tmp 2] 0 [] hC []
theorem e164 : EN 164 := en Tryz.func164
def lv165 : List Nat := [0, 1, 2, 3, 4, 5, 6, 8, 9, 10, 11, 44, 46, 47, 48, 49, 71]
def st165_0 (x0 : api_Board) (n0 : Nat) (z0 : Unit) : St := [(2, dB false), (8, .d (DS q65 x0.Consumers)), (9, dI (ln x0.Consumers)), (10, dI (cnt 0 n0))]
def R165_0  (n0 : Nat) (z0 : Unit) : List Res := []
def sa165_0  (z0 : Unit) : St := [(2, dB false)]
def Ra165_0  (z0 : Unit) : List Res := []
def st165_1 (x0 : api_Board) (n0 : Nat) (a0 : api_Consumer) (n1 : Nat) (z1 : Unit) : St := [(2, dB false), (3, dI (cnt 0 n0)), (4, dO 0 0), (8, .d (DS q65 x0.Consumers)), (9, dI (ln x0.Consumers)), (10, dI (cnt 0 n0)), (46, .d (DS pI a0.Needs)), (47, dI (ln a0.Needs)), (48, dI (cnt 0 n1))]
def R165_1 (a0 : api_Consumer) (n1 : Nat) (z1 : Unit) : List Res := [.box 65 (d65 a0)]
def sa165_1 (x0 : api_Board) (n0 : Nat) (z1 : Unit) : St := [(2, dB false), (8, .d (DS q65 x0.Consumers)), (9, dI (ln x0.Consumers)), (10, dI (cnt 0 n0))]
def Ra165_1  (z1 : Unit) : List Res := []
theorem k165 (x0 : api_Board) (r : Bool) (h : F165 x0 = some r) : CO 165 [.agg (d29 x0)] [] (.d (Bo r)) [] := by
 unfold F165 at h
 refine co 74 Tryz.func165 fun C hC => ?_
 refine ws lv165 26 [] [pl q65 x0.Consumers] [] 0 [] (st165_0 x0 0 ()) (R165_0 0 ()) hC [] ?_
 obtain ⟨w0, hm0, hret0, hnext0⟩ := aIn h
 clear h
 refine wc w0 (sa165_0) (Ra165_0) ?_ fun z0 hs0 => ?_
 ·refine wb ?_
  refine wL 8 rfl fun hl0 => ?_
  refine wF (by kernel_rfl) F165_l0 (st165_0 x0) (R165_0) w0 x0.Consumers () hm0 rfl rfl (fun z0 hn0 => ?_) fun n0 a0 z0 w0b hi0 hx0 h hb0 hr0 => ?_
  ·clear hm0
   exact wx w0 (sa165_0) (Ra165_0) lv165 26 [false] [] [] 0 [] () hC [pq (cE hl0)] hn0
  ·unfold F165_l0 at h
   refine ws lv165 33 [true] [pt hx0 hl0, pc e112 (k112 a0.Load 0 50000 _ rfl) [], ⟨.when [(!(F112 a0.Load 0 50000), false)] (.call 112 [dI a0.Least, dI 0, dI a0.Load] [] (dB (F112 a0.Least 0 a0.Load)) [] []), fun hg => ⟨e112, (k112 a0.Least 0 a0.Load _ rfl)⟩⟩, ⟨.when [(((!(F112 a0.Load 0 50000)) || (!(F112 a0.Least 0 a0.Load))), false)] (.call 112 [dI a0.Preference, dI 0, dI 15] [] (dB (F112 a0.Preference 0 15)) [] []), fun hg => ⟨e112, (k112 a0.Preference 0 15 _ rfl)⟩⟩, ⟨.when [((((!(F112 a0.Load 0 50000)) || (!(F112 a0.Least 0 a0.Load))) || (!(F112 a0.Preference 0 15))), false)] (.call 112 [dI a0.Thruster, dI (-1), dI 7] [] (dB (F112 a0.Thruster (-1) 7)) [] []), fun hg => ⟨e112, (k112 a0.Thruster (-1) 7 _ rfl)⟩⟩, pL_ [(((((!(F112 a0.Load 0 50000)) || (!(F112 a0.Least 0 a0.Load))) || (!(F112 a0.Preference 0 15))) || (!(F112 a0.Thruster (-1) 7))), false)] pI a0.Needs] [] 0 [0] [(2, dB false), (3, dI (cnt 0 n0)), (4, dO 0 0), (8, .d (DS q65 x0.Consumers)), (9, dI (ln x0.Consumers)), (10, dI (cnt 0 n0)), (44, dB (c165_3 a0))] [.box 65 (d65 a0)] hC [pq (cL hi0 hl0)] ?_
   rcases bC ((c165_3 a0)) with h1 | h1
   ·replace h := cT h1 h
    have hq := hret0 _ (hr0 _ (sI h).symm)
    replace hq := sI hq
    subst hq
    exact wr lv165 24 [true] [] [] [.tmp 2] 0 [] hC [pq h1]
   ·replace h := cF h1 h
    refine ws lv165 25 [false] [pl pI a0.Needs] [] 0 [0] (st165_1 x0 n0 a0 0 ()) (R165_1 a0 0 ()) hC [pq h1] ?_
    obtain ⟨w1, hm1, hret1, hnext1⟩ := aIn h
    clear h
    refine wc w1 (sa165_1 x0 n0) (Ra165_1) ?_ fun z1 hs1 => ?_
    ·refine wb ?_
     refine wL 46 rfl fun hl1 => ?_
     refine wF (by kernel_rfl) (F165_l1 n0 a0) (st165_1 x0 n0 a0) (R165_1 a0) w1 a0.Needs () hm1 rfl rfl (fun z1 hn1 => ?_) fun n1 a1 z1 w1b hi1 hx1 h hb1 hr1 => ?_
     ·clear hm1
      exact wx w1 (sa165_1 x0 n0) (Ra165_1) lv165 26 [false] [] [] 0 [] () hC [pq (cE hl1)] hn1
     ·unfold F165_l1 at h
      obtain ⟨y2, h3, h⟩ := bE h
      refine ws lv165 32 [true] [pt hx1 hl1, pc e112 (k112 a1 0 (w64 ((cnt 0 n0) - 1)) _ rfl) [], pR pI h3] [] 0 [0] [(2, dB false), (3, dI (cnt 0 n0)), (4, dO 0 0), (8, .d (DS q65 x0.Consumers)), (9, dI (ln x0.Consumers)), (10, dI (cnt 0 n0)), (46, .d (DS pI a0.Needs)), (47, dI (ln a0.Needs)), (48, dI (cnt 0 n1)), (71, dB (c165_5 n0 n1 a1 y2))] [.box 65 (d65 a0)] hC [pq (cL hi1 hl1)] ?_
      rcases bC ((c165_5 n0 n1 a1 y2)) with h4 | h4
      ·replace h := cT h4 h
       have hq := hret1 _ (hr1 _ (sI h).symm)
       replace hq := hret0 _ (hr0 _ (sI hq).symm)
       replace hq := sI hq
       subst hq
       exact wr lv165 24 [true] [] [] [.tmp 2] 0 [] hC [pq h4]
      ·replace h := cF h4 h
       exact wx w1b (st165_1 x0 n0 a0 (n1 + 1)) (R165_1 a0 (n1 + 1)) lv165 25 [false] [] [] 0 [0] () hC [pq h4] (sI h).symm
    ·have h := hnext1 _ hs1
     exact wx w0b (st165_0 x0 (n0 + 1)) (R165_0 (n0 + 1)) lv165 23 [] [] [] 0 [] () hC [] (sI h).symm
 ·have h := hnext0 _ hs0
  replace h := sI h
  subst h
  exact wr lv165 23 [] [] [] [.tmp 2] 0 [] hC []
theorem e165 : EN 165 := en Tryz.func165
theorem k198 (x0 : api_Arc) (r : Int) (h : F198 x0 = r) : CO 198 [.agg (d159 x0)] [] (.d (I r)) [] := by
 unfold F198 at h
 refine co 9 Tryz.func198 fun C hC => ?_
 subst h
 exact wr n3_ 25 [] [pc e229 (k229 (w64 (x0.To - x0.From)) _ rfl) []] [] [.tmp 2] 0 [] hC []
theorem e198 : EN 198 := en Tryz.func198
theorem k190 (x0 : List Int) (x1 : Int) (r : Bool) (h : F190 x0 x1 = some r) : CO 190 [.d (DS pI x0), .d (I x1)] [] (.d (Bo r)) [] := by
 unfold F190 at h
 refine co 9 Tryz.func190 fun C hC => ?_
 obtain ⟨y1, h2, h⟩ := bE h
 replace h := sI h
 subst h
 exact wr [0, 1, 4] 25 [] [pc e227 (k227 x0 x1 _ h2) []] [] [.tmp 4] 0 [] hC []
theorem e190 : EN 190 := en Tryz.func190
def lv228s0 : List Nat := [0, 1, 4, 5, 7, 8, 9, 16]
def st228s0_0 (x0 : List (List Int)) (n0 : Nat) (z0 : Unit) : St := [(0, .d (DS (pL pI) x0)), (1, .d (.fn (.func 192) [] [])), (4, dI 0), (7, dI (ln x0)), (8, dI (cnt 0 n0))]
def R228s0_0  (n0 : Nat) (z0 : Unit) : List Res := []
def sa228s0_0  (z0 : Unit) : St := [(4, dI 0)]
def Ra228s0_0  (z0 : Unit) : List Res := []
theorem k228s0 (x0 : List (List Int)) (r : Int) (h : F228s0 x0 = some r) : CO 228 [.d (DS (pL pI) x0), .d (.fn (.func 192) [] [])] [] (.d (I r)) [] := by
 unfold F228s0 at h
 refine co 19 Tryz.func228 fun C hC => ?_
 refine ws lv228s0 26 [] [pl (pL pI) x0] [] 0 [] (st228s0_0 x0 0 ()) (R228s0_0 0 ()) hC [] ?_
 obtain ⟨w0, hm0, hret0, hnext0⟩ := aIn h
 clear h
 refine wc w0 (sa228s0_0) (Ra228s0_0) ?_ fun z0 hs0 => ?_
 ·refine wb ?_
  refine wL 0 rfl fun hl0 => ?_
  refine wF (by kernel_rfl) F228s0_l0 (st228s0_0 x0) (R228s0_0) w0 x0 () hm0 rfl rfl (fun z0 hn0 => ?_) fun n0 a0 z0 w0b hi0 hx0 h hb0 hr0 => ?_
  ·clear hm0
   exact wx w0 (sa228s0_0) (Ra228s0_0) lv228s0 26 [false] [] [] 0 [] () hC [pq (cE hl0)] hn0
  ·unfold F228s0_l0 at h
   rcases bC (F192 a0) with h1 | h1
   ·replace h := cT h1 h
    have hq := hret0 _ (hr0 _ (sI h).symm)
    replace hq := sI hq
    subst hq
    exact wr lv228s0 35 [true, true] [pt hx0 hl0, pc e192 (k192 a0 _ rfl) []] [] [.tmp 4] 0 [] hC [pq (cL hi0 hl0), pq h1]
   ·replace h := cF h1 h
    exact wx w0b (st228s0_0 x0 (n0 + 1)) (R228s0_0 (n0 + 1)) lv228s0 36 [true, false] [pt hx0 hl0, pc e192 (k192 a0 _ rfl) []] [] 0 [] () hC [pq (cL hi0 hl0), pq h1] (sI h).symm
 ·have h := hnext0 _ hs0
  replace h := sI h
  subst h
  exact wr lv228s0 23 [] [] [] [.tmp 4] 0 [] hC []
theorem e228s0 : EN 228 := en Tryz.func228
theorem k137 (x0 : api_Source) (r : Bool) (h : F137 x0 = r) : CO 137 [.agg (d139 x0)] [] (.d (Bo r)) [] := by
 unfold F137 at h
 refine co 18 Tryz.func137 fun C hC => ?_
 subst h
 exact wr n3_ 25 [] [pc e99 (k99 x0.Rating 1 50000 _ rfl) [], ⟨.when [(F99 x0.Rating 1 50000, true)] (.call 99 [dI x0.Least, dI 0, dI x0.Rating] [] (dB (F99 x0.Least 0 x0.Rating)) [] []), fun hg => ⟨e99, (k99 x0.Least 0 x0.Rating _ rfl)⟩⟩, ⟨.when [(((F99 x0.Rating 1 50000) && (F99 x0.Least 0 x0.Rating)), true)] (.call 99 [dI x0.Start, dI 0, dI 600] [] (dB (F99 x0.Start 0 600)) [] []), fun hg => ⟨e99, (k99 x0.Start 0 600 _ rfl)⟩⟩] [] [.tmp 2] 0 [] hC []
theorem e137 : EN 137 := en Tryz.func137
def lv138 : List Nat := [0, 1, 2, 4, 5, 6, 8, 9, 10, 11, 33]
def st138_0 (x0 : api_Consumer) (x1 : Int) (n0 : Nat) (z0 : Unit) : St := [(1, dI x1), (2, dO 0 0), (4, dB false), (8, .d (DS pI x0.Needs)), (9, dI (ln x0.Needs)), (10, dI (cnt 0 n0))]
def R138_0 (x0 : api_Consumer) (n0 : Nat) (z0 : Unit) : List Res := [.box 65 (d65 x0)]
def sa138_0  (z0 : Unit) : St := [(2, dO 0 0), (4, dB false)]
def Ra138_0 (x0 : api_Consumer) (z0 : Unit) : List Res := [.box 65 (d65 x0)]
theorem k138 (x0 : api_Consumer) (x1 : Int) (r : Bool) (h : F138 x0 x1 = some r) : CO 138 [.agg (d65 x0), .d (I x1)] [] (.d (Bo r)) [] := by
 unfold F138 at h
 refine co 61 Tryz.func138 fun C hC => ?_
 refine ws lv138 26 [] [pl pI x0.Needs] [] 0 [0] (st138_0 x0 x1 0 ()) (R138_0 x0 0 ()) hC [] ?_
 obtain ⟨w0, hm0, hret0, hnext0⟩ := aIn h
 clear h
 refine wc w0 (sa138_0) (Ra138_0 x0) ?_ fun z0 hs0 => ?_
 ·refine wb ?_
  refine wL 8 rfl fun hl0 => ?_
  refine wF (by kernel_rfl) (F138_l0 x0 x1) (st138_0 x0 x1) (R138_0 x0) w0 x0.Needs () hm0 rfl rfl (fun z0 hn0 => ?_) fun n0 a0 z0 w0b hi0 hx0 h hb0 hr0 => ?_
  ·clear hm0
   exact wx w0 (sa138_0) (Ra138_0 x0) lv138 26 [false] [] [] 0 [0] () hC [pq (cE hl0)] hn0
  ·unfold F138_l0 at h
   obtain ⟨y1, h2, h⟩ := bE h
   refine ws lv138 32 [true] [pt hx0 hl0, pc e99 (k99 a0 0 (w64 (x1 - 1)) _ rfl) [], pR pI h2] [] 0 [0] [(1, dI x1), (2, dO 0 0), (4, dB false), (8, .d (DS pI x0.Needs)), (9, dI (ln x0.Needs)), (10, dI (cnt 0 n0)), (33, dB (c138_1 x1 n0 a0 y1))] [.box 65 (d65 x0)] hC [pq (cL hi0 hl0)] ?_
   rcases bC ((c138_1 x1 n0 a0 y1)) with h3 | h3
   ·replace h := cT h3 h
    have hq := hret0 _ (hr0 _ (sI h).symm)
    replace hq := sI hq
    subst hq
    exact wr lv138 24 [true] [] [] [.tmp 4] 0 [] hC [pq h3]
   ·replace h := cF h3 h
    exact wx w0b (st138_0 x0 x1 (n0 + 1)) (R138_0 x0 (n0 + 1)) lv138 25 [false] [] [] 0 [0] () hC [pq h3] (sI h).symm
 ·have h := hnext0 _ hs0
  replace h := sI h
  subst h
  exact wr lv138 23 [] [pc e99 (k99 x0.Load 0 50000 _ rfl) [], ⟨.when [(F99 x0.Load 0 50000, true)] (.call 99 [dI x0.Least, dI 0, dI x0.Load] [] (dB (F99 x0.Least 0 x0.Load)) [] []), fun hg => ⟨e99, (k99 x0.Least 0 x0.Load _ rfl)⟩⟩, ⟨.when [(((F99 x0.Load 0 50000) && (F99 x0.Least 0 x0.Load)), true)] (.call 99 [dI x0.Preference, dI 0, dI 15] [] (dB (F99 x0.Preference 0 15)) [] []), fun hg => ⟨e99, (k99 x0.Preference 0 15 _ rfl)⟩⟩, ⟨.when [((((F99 x0.Load 0 50000) && (F99 x0.Least 0 x0.Load)) && (F99 x0.Preference 0 15)), true)] (.call 99 [dI x0.Thruster, dI (-1), dI 7] [] (dB (F99 x0.Thruster (-1) 7)) [] []), fun hg => ⟨e99, (k99 x0.Thruster (-1) 7 _ rfl)⟩⟩, pL_ [(((((F99 x0.Load 0 50000) && (F99 x0.Least 0 x0.Load)) && (F99 x0.Preference 0 15)) && (F99 x0.Thruster (-1) 7)), true)] pI x0.Needs] [] [.tmp 4] 0 [] hC []
theorem e138 : EN 138 := en Tryz.func138
def lv154 : List Nat := [0, 1, 4, 5, 6, 11, 12, 13, 16, 19]
theorem k154 (x0 : Int) (x1 : Int) (r : Int) (h : F154 x0 x1 = r) : CO 154 [.d (I x0), .d (I x1)] [] (.d (I r)) [] := by
 unfold F154 at h
 refine co 20 Tryz.func154 fun C hC => ?_
 rcases bC (F199 x0) with h1 | h1
 ·replace h := cT h1 h
  rcases bC (F199 x1) with h2 | h2
  ·replace h := cT h2 h
   subst h
   exact wr lv154 37 [true, true] [pc e199 (k199 x0 _ rfl) [], pc e199 (k199 x1 _ rfl) []] [] [.tmp 4] 0 [] hC [pq h1, pq h2]
  ·replace h := cF h2 h
   subst h
   exact wr lv154 38 [true, false] [pc e199 (k199 x0 _ rfl) [], pc e199 (k199 x1 _ rfl) []] [] [.tmp 4] 0 [] hC [pq h1, pq h2]
 ·replace h := cF h1 h
  rcases bC (F199 x1) with h3 | h3
  ·replace h := cT h3 h
   subst h
   exact wr lv154 38 [false, true] [pc e199 (k199 x0 _ rfl) [], pc e199 (k199 x1 _ rfl) []] [] [.tmp 4] 0 [] hC [pq h1, pq h3]
  ·replace h := cF h3 h
   rcases bC (decide (x0 < x1)) with h4 | h4
   ·replace h := cT h4 h
    subst h
    exact wr lv154 43 [false, false, true] [pc e199 (k199 x0 _ rfl) [], pc e199 (k199 x1 _ rfl) []] [] [.tmp 4] 0 [] hC [pq h1, pq h3, pq h4]
   ·replace h := cF h4 h
    rcases bC (decide (x0 > x1)) with h5 | h5
    ·replace h := cT h5 h
     subst h
     exact wr lv154 48 [false, false, false, true] [pc e199 (k199 x0 _ rfl) [], pc e199 (k199 x1 _ rfl) []] [] [.tmp 4] 0 [] hC [pq h1, pq h3, pq h4, pq h5]
    ·replace h := cF h5 h
     subst h
     exact wr lv154 49 [false, false, false, false] [pc e199 (k199 x0 _ rfl) [], pc e199 (k199 x1 _ rfl) []] [] [.tmp 4] 0 [] hC [pq h1, pq h3, pq h4, pq h5]
theorem e154 : EN 154 := en Tryz.func154
theorem k98 (x0 : api_Running) (r : Bool) (h : F98 x0 = r) : CO 98 [.agg (d120 x0)] [] (.d (Bo r)) [] := by
 unfold F98 at h
 refine co 21 Tryz.func98 fun C hC => ?_
 subst h
 exact wr n3_ 25 [] [pc e99 (k99 x0.State 0 3 _ rfl) [], ⟨.when [(F99 x0.State 0 3, true)] (.call 99 [dI x0.Since, dI 0, dI 2147483648] [] (dB (F99 x0.Since 0 2147483648)) [] []), fun hg => ⟨e99, (k99 x0.Since 0 2147483648 _ rfl)⟩⟩, ⟨.when [(((F99 x0.State 0 3) && (F99 x0.Since 0 2147483648)), true)] (.call 99 [dI x0.Frequency, dI 0, dI 6000] [] (dB (F99 x0.Frequency 0 6000)) [] []), fun hg => ⟨e99, (k99 x0.Frequency 0 6000 _ rfl)⟩⟩, ⟨.when [((((F99 x0.State 0 3) && (F99 x0.Since 0 2147483648)) && (F99 x0.Frequency 0 6000)), true)] (.call 99 [dI x0.Phase, dI 0, dI 3599] [] (dB (F99 x0.Phase 0 3599)) [] []), fun hg => ⟨e99, (k99 x0.Phase 0 3599 _ rfl)⟩⟩] [] [.tmp 2] 0 [] hC []
theorem e98 : EN 98 := en Tryz.func98
def lv44s1 : List Nat := [0, 1, 4, 5, 7, 8, 9, 16]
def st44s1_0 (x0 : List api_Consumer) (n0 : Nat) (z0 : Unit) : St := [(0, .d (DS q65 x0)), (1, .d (.fn (.func 45) [] [.o 0 0])), (4, dI 0), (7, dI (ln x0)), (8, dI (cnt 0 n0))]
def R44s1_0 (x1c0 : Int) (n0 : Nat) (z0 : Unit) : List Res := [.box 3 [I x1c0]]
def sa44s1_0  (z0 : Unit) : St := [(4, dI 0)]
def Ra44s1_0 (x1c0 : Int) (z0 : Unit) : List Res := [.box 3 [I x1c0]]
theorem k44s1 (x0 : List api_Consumer) (x1c0 : Int) (r : Int × Int) (h : F44s1 x0 x1c0 = some r) : CO 44 [.d (DS q65 x0), .d (.fn (.func 45) [] [.o 0 0])] [.box 3 [I x1c0]] (.d (I r.1)) [.box 3 [I r.2]] := by
 unfold F44s1 at h
 refine co 19 Tryz.func44 fun C hC => ?_
 refine ws lv44s1 26 [] [pl q65 x0] [] 1 [0] (st44s1_0 x0 0 ()) (R44s1_0 x1c0 0 ()) hC [] ?_
 obtain ⟨w0, hm0, hret0, hnext0⟩ := aIn h
 clear h
 refine wc w0 (sa44s1_0) (Ra44s1_0 x1c0) ?_ fun z0 hs0 => ?_
 ·refine wb ?_
  refine wL 0 rfl fun hl0 => ?_
  refine wF (by kernel_rfl) (F44s1_l0 x1c0) (st44s1_0 x0) (R44s1_0 x1c0) w0 x0 () hm0 rfl rfl (fun z0 hn0 => ?_) fun n0 a0 z0 w0b hi0 hx0 h hb0 hr0 => ?_
  ·clear hm0
   exact wx w0 (sa44s1_0) (Ra44s1_0 x1c0) lv44s1 26 [false] [] [] 1 [0] () hC [pq (cE hl0)] hn0
  ·unfold F44s1_l0 at h
   refine ws lv44s1 32 [true] [pt hx0 hl0, pb e45s0 (k45s0 a0 x1c0 _ rfl)] [] 1 [0] [(0, .d (DS q65 x0)), (1, .d (.fn (.func 45) [] [.o 0 0])), (4, dI 0), (5, dI (cnt 0 n0)), (7, dI (ln x0)), (8, dI (cnt 0 n0)), (16, dB (F45s0 a0 x1c0))] [.box 3 [I x1c0]] hC [pq (cL hi0 hl0)] ?_
   rcases bC (F45s0 a0 x1c0) with h1 | h1
   ·replace h := cT h1 h
    have hq := hret0 _ (hr0 _ (sI h).symm)
    replace hq := sI hq
    subst hq
    exact wr lv44s1 24 [true] [] [] [.tmp 4] 1 [0] hC [pq h1]
   ·replace h := cF h1 h
    exact wx w0b (st44s1_0 x0 (n0 + 1)) (R44s1_0 x1c0 (n0 + 1)) lv44s1 25 [false] [] [] 1 [0] () hC [pq h1] (sI h).symm
 ·have h := hnext0 _ hs0
  replace h := sI h
  subst h
  exact wr lv44s1 23 [] [] [] [.tmp 4] 1 [0] hC []
theorem e44s1 : EN 44 := en Tryz.func44
theorem k144 (x0 : api_Board) (x1 : api_Power) (x2 : Int) (r : Int × Bool) (h : F144 x0 x1 x2 = some r) : CO 144 [.agg (d29 x0), .agg (d36 x1), .d (I x2)] [] (.tup [.d (I r.1), .d (Bo r.2)]) [] := by
 unfold F144 at h
 refine co 14 Tryz.func144 fun C hC => ?_
 obtain ⟨y1, h2, h⟩ := bE h
 replace h := sI h
 subst h
 exact wr [0, 1, 2, 3, 4, 6, 7] 25 [] [pc e195 (k195 x0 x1 3 x2 _ h2) []] [] [.tmp 6, .tmp 7] 0 [] hC []
theorem e144 : EN 144 := en Tryz.func144
def lv143 : List Nat := [0, 1, 2, 3, 4, 6, 7, 23]
theorem k143 (x0 : api_Board) (x1 : api_Power) (x2 : Int) (r : Int × Bool) (h : F143 x0 x1 x2 = some r) : CO 143 [.agg (d29 x0), .agg (d36 x1), .d (I x2)] [] (.tup [.d (I r.1), .d (Bo r.2)]) [] := by
 unfold F143 at h
 refine co 30 Tryz.func143 fun C hC => ?_
 obtain ⟨y1, h2, h⟩ := bE h
 refine ws lv143 26 [] [pl q120 x1.Sources, pc e99 (k99 x2 0 (w64 ((ln x1.Sources) - 1)) _ rfl) [], pR q120 h2] [] 0 [0, 1] [(2, dI x2), (3, dO 0 0), (4, dO 1 0), (6, dI 0), (7, dB false), (23, dB (c143_0 x1 x2 y1))] [.box 29 (d29 x0), .box 36 (d36 x1)] hC [] ?_
 rcases bC ((c143_0 x1 x2 y1)) with h3 | h3
 ·replace h := cT h3 h
  replace h := sI h
  subst h
  exact wr lv143 24 [true] [] [] [.tmp 6, .tmp 7] 0 [] hC [pq h3]
 ·replace h := cF h3 h
  obtain ⟨y4, h5, h⟩ := bE h
  replace h := sI h
  subst h
  exact wr lv143 25 [false] [pc e195 (k195 x0 x1 2 x2 _ h5) []] [] [.tmp 6, .tmp 7] 0 [] hC [pq h3]
theorem e143 : EN 143 := en Tryz.func143
def lv141s0 : List Nat := [0, 1, 4, 5, 7, 8, 9, 16]
def st141s0_0 (x0 : List api_Island) (n0 : Nat) (z0 : Unit) : St := [(0, .d (DS q84 x0)), (1, .d (.fn (.func 146) [] [])), (4, dI 0), (7, dI (ln x0)), (8, dI (cnt 0 n0))]
def R141s0_0  (n0 : Nat) (z0 : Unit) : List Res := []
def sa141s0_0  (z0 : Unit) : St := [(4, dI 0)]
def Ra141s0_0  (z0 : Unit) : List Res := []
theorem k141s0 (x0 : List api_Island) (r : Int) (h : F141s0 x0 = some r) : CO 141 [.d (DS q84 x0), .d (.fn (.func 146) [] [])] [] (.d (I r)) [] := by
 unfold F141s0 at h
 refine co 19 Tryz.func141 fun C hC => ?_
 refine ws lv141s0 26 [] [pl q84 x0] [] 0 [] (st141s0_0 x0 0 ()) (R141s0_0 0 ()) hC [] ?_
 obtain ⟨w0, hm0, hret0, hnext0⟩ := aIn h
 clear h
 refine wc w0 (sa141s0_0) (Ra141s0_0) ?_ fun z0 hs0 => ?_
 ·refine wb ?_
  refine wL 0 rfl fun hl0 => ?_
  refine wF (by kernel_rfl) F141s0_l0 (st141s0_0 x0) (R141s0_0) w0 x0 () hm0 rfl rfl (fun z0 hn0 => ?_) fun n0 a0 z0 w0b hi0 hx0 h hb0 hr0 => ?_
  ·clear hm0
   exact wx w0 (sa141s0_0) (Ra141s0_0) lv141s0 26 [false] [] [] 0 [] () hC [pq (cE hl0)] hn0
  ·unfold F141s0_l0 at h
   refine ws lv141s0 32 [true] [pt hx0 hl0, pc e146 (k146 a0 _ rfl) []] [] 0 [] [(0, .d (DS q84 x0)), (1, .d (.fn (.func 146) [] [])), (4, dI 0), (5, dI (cnt 0 n0)), (7, dI (ln x0)), (8, dI (cnt 0 n0)), (16, dB (F146 a0))] [] hC [pq (cL hi0 hl0)] ?_
   rcases bC (F146 a0) with h1 | h1
   ·replace h := cT h1 h
    have hq := hret0 _ (hr0 _ (sI h).symm)
    replace hq := sI hq
    subst hq
    exact wr lv141s0 24 [true] [] [] [.tmp 4] 0 [] hC [pq h1]
   ·replace h := cF h1 h
    exact wx w0b (st141s0_0 x0 (n0 + 1)) (R141s0_0 (n0 + 1)) lv141s0 25 [false] [] [] 0 [] () hC [pq h1] (sI h).symm
 ·have h := hnext0 _ hs0
  replace h := sI h
  subst h
  exact wr lv141s0 23 [] [] [] [.tmp 4] 0 [] hC []
theorem e141s0 : EN 141 := en Tryz.func141
theorem k157 (x0 : List api_Part) (x1 : api_Part) (r : Bool) (h : F157 x0 x1 = some r) : CO 157 [.d (DS q86 x0), .agg (d86 x1)] [] (.d (Bo r)) [] := by
 unfold F157 at h
 refine co 9 Tryz.func157 fun C hC => ?_
 obtain ⟨y1, h2, h⟩ := bE h
 replace h := sI h
 subst h
 exact wr [0, 1, 3, 4] 25 [] [pc e200 (k200 x0 x1 _ h2) []] [] [.tmp 4] 0 [] hC []
theorem e157 : EN 157 := en Tryz.func157
theorem k105s0 (rec46 : api_Board -> api_Power -> Int -> Option Bool) (ih46 : ∀ (x0 : api_Board) (x1 : api_Power) (x2 : Int) (r : Bool), rec46 x0 x1 x2 = some r -> CO 46 [.agg (d29 x0), .agg (d36 x1), .d (I x2)] [] (.d (Bo r)) []) (x0 : Int) (x1 : api_Board) (x2 : api_Power) (r : Bool) (h : F105s0 rec46 x0 x1 x2 = some r) : CO 105 [.d (I x0), .d (.ip [.v (.int .i64 x1.Buses), .s (x1.Breakers.map q147), .s (x1.Sources.map q139), .s (x1.Consumers.map q65), .v (.int .i64 x1.Phase), .v (.int .i64 x1.Frequency)]), .d (.ip [.s (x2.Closed.map pB), .s (x2.Sources.map q120), .s (x2.Limits.map pI), .s (x2.Broken.map q86)])] [] (.d (Bo r)) [] := by
 unfold F105s0 at h
 refine co 10 Tryz.func105 fun C hC => ?_
 obtain ⟨y1, h2, h⟩ := bE h
 replace h := sI h
 subst h
 exact wr [0, 1, 2, 4] 25 [] [pc e46 (ih46 x1 x2 x0 _ h2) []] [] [.tmp 4] 0 [] hC []
theorem e105s0 : EN 105 := en Tryz.func105
theorem k202 (x0 : Int) (x1 : Int) (r : Int) (h : F202 x0 x1 = some r) : CO 202 [.d (I x0), .d (I x1)] [] (.d (I r)) [] := by
 unfold F202 at h
 refine co 10 Tryz.func202 fun C hC => ?_
 obtain ⟨y1, h2, h⟩ := bE h
 replace h := sI h
 subst h
 exact wr [0, 1, 4] 25 [] [pc e203 (k203 (w64 (0 - x0)) x1 _ h2) []] [] [.tmp 4] 0 [] hC []
theorem e202 : EN 202 := en Tryz.func202
theorem k161 (x0 : api_Arc) (r : Int) (h : F161 x0 = r) : CO 161 [.agg (d159 x0)] [] (.d (I r)) [] := by
 unfold F161 at h
 refine co 9 Tryz.func161 fun C hC => ?_
 subst h
 exact wr n3_ 25 [] [pc e129 (k129 (w64 (x0.To - x0.From)) _ rfl) []] [] [.tmp 2] 0 [] hC []
theorem e161 : EN 161 := en Tryz.func161
theorem k109 (x0 : Int) (x1 : Int) (r : Bool) (h : F109 x0 x1 = r) : CO 109 [.d (I x0), .d (I x1)] [] (.d (Bo r)) [] := by
 unfold F109 at h
 refine co 15 Tryz.func109 fun C hC => ?_
 subst h
 exact wr [0, 1, 4] 25 [] [pc e162 (k162 x0 1000000000000000000 _ rfl) []] [] [.tmp 4] 0 [] hC []
theorem e109 : EN 109 := en Tryz.func109
theorem k140 (x0 : Int) (x1 : Int) (r : Int × Int) (h : F140 x0 x1 = r) : CO 140 [.d (.p (.v (.int .u64 x0))), .d (.p (.v (.int .u64 x1)))] [] (.tup [.d (.p (.v (.int .u64 r.1))), .d (.p (.v (.int .u64 r.2)))]) [] := by
 unfold F140 at h
 refine co 30 Tryz.func140 fun C hC => ?_
 subst h
 exact wr [0, 1, 4, 5, 6, 7, 8, 9] 30 [false] [pc e194 (k194 x0 x1 _ rfl) []] [] [.tmp 4, .tmp 5] 0 [] hC [⟨(false, false), rfl⟩]
theorem e140 : EN 140 := en Tryz.func140
theorem k116 (x0 : api_Power) (r : api_Power) (h : F116 x0 = some r) : CO 116 [.agg (d36 x0)] [] (.agg [.os 0, .os 1, .os 2, .os 3]) (zp r []) := by
 unfold F116 at h
 refine co 16 Tryz.func116 fun C hC => ?_
 obtain ⟨y1, h2, h⟩ := bE h
 obtain ⟨y3, h4, h⟩ := bE h
 obtain ⟨y5, h6, h⟩ := bE h
 obtain ⟨y7, h8, h⟩ := bE h
 replace h := sI h
 subst h
 exact wr n3_ 25 [] [pc e166 (k166 x0.Closed _ h2) [], pc e167 (k167 x0.Sources _ h4) [], pc e168 (k168 x0.Limits _ h6) [], pc e169 (k169 x0.Broken _ h8) []] [] [.cell 2 36] 0 [2, 3, 4, 5] hC []
theorem e116 : EN 116 := en Tryz.func116
theorem k60 (x0 : api_Power) (x1 : api_Power) (r : Bool) (h : F60 x0 x1 = some r) : CO 60 [.agg (d36 x0), .agg (d36 x1)] [] (.d (Bo r)) [] := by
 unfold F60 at h
 refine co 31 Tryz.func60 fun C hC => ?_
 obtain ⟨y1, h2, h⟩ := bE h
 obtain ⟨y3, h4, h⟩ := bE h
 obtain ⟨y5, h6, h⟩ := bE h
 obtain ⟨y7, h8, h⟩ := bE h
 replace h := sI h
 subst h
 exact wr n5_ 25 [] [pc e118 (k118 x0.Closed x1.Closed _ h2) [], pw e119 (fun hg => k119 x0.Sources x1.Sources _ (gg h4 hg)) [], pw e120 (fun hg => k120 x0.Limits x1.Limits _ (gg h6 hg)) [], pw e121 (fun hg => k121 x0.Broken x1.Broken _ (gg h8 hg)) []] [] [.tmp 4] 0 [] hC []
theorem e60 : EN 60 := en Tryz.func60
theorem k62s0 (x0 : api_Roster) (x1c0 : api_Plant) (r : Bool × api_Plant) (h : F62s0 x0 x1c0 = r) : CO 62 [.agg (d130 x0), .d (.o 0 0)] [.box 126 [.fn (.func 58) [] [.o 1 0]], .box 40 (d40 x1c0)] (.d (Bo r.1)) [.box 126 [.fn (.func 58) [] [.o 1 0]], .box 40 (d40 r.2)] := by
 unfold F62s0 at h
 refine co 16 Tryz.func62 fun C hC => ?_
 subst h
 exact wr n4_ 25 [] [pb e58s0 (k58s0 x0.High x1c0 _ rfl), ⟨.when [(!(F58s0 x0.High x1c0), false)] (.callB 58 [dI x0.Low, .d (.ip [.v (.int .i64 x1c0.Time), .s (x1c0.Power.Closed.map pB), .s (x1c0.Power.Sources.map q120), .s (x1c0.Power.Limits.map pI), .s (x1c0.Power.Broken.map q86), .s (x1c0.Rosters.map q130), .s (x1c0.Events.map q51)])] (dB (F58s0 x0.Low x1c0)) [[]] 0 []), fun hg => l0g ⟨e58s0, (k58s0 x0.Low x1c0 _ rfl)⟩⟩] [] [.tmp 3] 2 [0, 1] hC []
theorem e62s0 : EN 62 := en Tryz.func62
def lv134 : List Nat := [0, 1, 2, 3, 4, 6, 7, 14, 21, 27, 39]
def sa134_0 (x1 : api_Act) (z0 : Bool) : St := [(2, dO 0 0), (3, dO 1 0), (4, dB false), (6, dI x1.Kind), (7, dB z0)]
def Ra134_0 (x0 : api_Board) (x1 : api_Act) (z0 : Bool) : List Res := [.box 29 (d29 x0), .box 49 (d49 x1)]
def sa134_1 (x1 : api_Act) (z1 : Bool) : St := [(2, dO 0 0), (3, dO 1 0), (4, dB false), (6, dI x1.Kind), (14, dB z1)]
def Ra134_1 (x0 : api_Board) (x1 : api_Act) (z1 : Bool) : List Res := [.box 29 (d29 x0), .box 49 (d49 x1)]
theorem k134 (x0 : api_Board) (x1 : api_Act) (r : Bool) (h : F134 x0 x1 = some r) : CO 134 [.agg (d29 x0), .agg (d49 x1)] [] (.d (Bo r)) [] := by
 unfold F134 at h
 refine co 48 Tryz.func134 fun C hC => ?_
 refine ws lv134 30 [] [] [] 0 [0, 1] [(2, dO 0 0), (3, dO 1 0), (4, dB false), (6, dI x1.Kind), (7, dB (x1.Kind == 1))] [.box 29 (d29 x0), .box 49 (d49 x1)] hC [] ?_
 obtain ⟨w0, h, hret0, hnext0⟩ := aIn h
 refine wc w0 (sa134_0 x1) (Ra134_0 x0 x1) ?_ fun z0 hs0 => ?_
 ·unfold F134_m0 at h
  rcases bC ((x1.Kind == 1)) with h1 | h1
  ·replace h := cT h1 h
   exact wx w0 (sa134_0 x1) (Ra134_0 x0 x1) lv134 23 [true] [] [] 0 [0, 1] (x1.Kind == 1) hC [pq h1] (sI h).symm
  ·replace h := cF h1 h
   exact wx w0 (sa134_0 x1) (Ra134_0 x0 x1) lv134 23 [false] [] [] 0 [0, 1] (x1.Kind == 2) hC [pq h1] (sI h).symm
 ·clear h; have h := hnext0 _ hs0
  rcases bC (z0) with h2 | h2
  ·replace h := cT h2 h
   obtain ⟨y3, h4, h⟩ := bE h
   replace h := sI h
   subst h
   exact wr lv134 24 [true] [pc e181 (k181 x0 2 x1.Unit _ h4) []] [] [.tmp 4] 0 [] hC [pq h2]
  ·replace h := cF h2 h
   refine ws lv134 25 [false] [] [] 0 [0, 1] [(2, dO 0 0), (3, dO 1 0), (4, dB false), (6, dI x1.Kind), (14, dB (x1.Kind == 3))] [.box 29 (d29 x0), .box 49 (d49 x1)] hC [pq h2] ?_
   obtain ⟨w1, h, hret1, hnext1⟩ := aIn h
   refine wc w1 (sa134_1 x1) (Ra134_1 x0 x1) ?_ fun z1 hs1 => ?_
   ·unfold F134_m1 at h
    rcases bC ((x1.Kind == 3)) with h5 | h5
    ·replace h := cT h5 h
     exact wx w1 (sa134_1 x1) (Ra134_1 x0 x1) lv134 23 [true] [] [] 0 [0, 1] (x1.Kind == 3) hC [pq h5] (sI h).symm
    ·replace h := cF h5 h
     exact wx w1 (sa134_1 x1) (Ra134_1 x0 x1) lv134 23 [false] [] [] 0 [0, 1] (x1.Kind == 4) hC [pq h5] (sI h).symm
   ·clear h; have h := hnext1 _ hs1
    rcases bC (z1) with h6 | h6
    ·replace h := cT h6 h
     obtain ⟨y7, h8, h⟩ := bE h
     replace h := sI h
     subst h
     exact wr lv134 24 [true] [pc e181 (k181 x0 1 x1.Unit _ h8) []] [] [.tmp 4] 0 [] hC [pq h6]
    ·replace h := cF h6 h
     rcases bC ((x1.Kind == 5)) with h9 | h9
     ·replace h := cT h9 h
      cases h
     ·replace h := cF h9 h
      rcases bC ((x1.Kind == 6)) with h10 | h10
      ·replace h := cT h10 h
       cases h
      ·replace h := cF h10 h
       rcases bC ((x1.Kind == 8)) with h11 | h11
       ·replace h := cT h11 h
        obtain ⟨y12, h13, h⟩ := bE h
        replace h := sI h
        subst h
        exact wr lv134 36 [false, false, false, true, true] [pc e181 (k181 x0 x1.Value x1.Unit _ h13) []] [] [.tmp 4] 0 [] hC [pq h6, pq h9, pq h10, pq h11, pq h11]
       ·replace h := cF h11 h
        rcases bC ((x1.Kind == 9)) with h14 | h14
        ·replace h := cT h14 h
         obtain ⟨y15, h16, h⟩ := bE h
         replace h := sI h
         subst h
         exact wr lv134 36 [false, false, false, false, true] [pc e181 (k181 x0 x1.Value x1.Unit _ h16) []] [] [.tmp 4] 0 [] hC [pq h6, pq h9, pq h10, pq h11, pq h14]
        ·replace h := cF h14 h
         replace h := sI h
         subst h
         exact wr lv134 38 [false, false, false, false, false] [] [] [.tmp 4] 0 [] hC [pq h6, pq h9, pq h10, pq h11, pq h14]
theorem e134 : EN 134 := en Tryz.func134
theorem k248 (x0 : Int) (x1 : Int) (r : Int) (h : F248 x0 x1 = some r) : CO 248 [.d (I x0), .d (I x1)] [] (.d (I r)) [] := by
 unfold F248 at h
 refine co 17 Tryz.func248 fun C hC => ?_
 refine ws [0, 1, 4, 5, 13] 28 [] [pc e229 (k229 x1 _ rfl) [], pc e229 (k229 x0 _ rfl) [], pc e229 (k229 (w64 ((F229 x1) - (F229 x0))) _ rfl) []] [] 0 [] [(4, dI 0), (5, .d (I (F229 (w64 ((F229 x1) - (F229 x0)))))), (13, dB (c248_0 x0 x1))] [] hC [] ?_
 rcases bC ((c248_0 x0 x1)) with h1 | h1
 ·replace h := cT h1 h
  cases h
 ·replace h := cF h1 h
  replace h := sI h
  subst h
  exact wr [0, 1, 4, 5, 13] 25 [false] [] [] [.tmp 4] 0 [] hC [pq h1]
theorem e248 : EN 248 := en Tryz.func248
def lv218s1 : List Nat := [0, 1, 4, 5, 7, 8, 9, 16]
def st218s1_0 (x0 : List api_Breaker) (n0 : Nat) (z0 : Unit) : St := [(0, .d (DS q147 x0)), (1, .d (.fn (.func 244) [] [.o 0 0])), (4, dI 0), (7, dI (ln x0)), (8, dI (cnt 0 n0))]
def R218s1_0 (x1c0 : Int) (n0 : Nat) (z0 : Unit) : List Res := [.box 3 [I x1c0]]
def sa218s1_0  (z0 : Unit) : St := [(4, dI 0)]
def Ra218s1_0 (x1c0 : Int) (z0 : Unit) : List Res := [.box 3 [I x1c0]]
theorem k218s1 (x0 : List api_Breaker) (x1c0 : Int) (r : Int × Int) (h : F218s1 x0 x1c0 = some r) : CO 218 [.d (DS q147 x0), .d (.fn (.func 244) [] [.o 0 0])] [.box 3 [I x1c0]] (.d (I r.1)) [.box 3 [I r.2]] := by
 unfold F218s1 at h
 refine co 19 Tryz.func218 fun C hC => ?_
 refine ws lv218s1 26 [] [pl q147 x0] [] 1 [0] (st218s1_0 x0 0 ()) (R218s1_0 x1c0 0 ()) hC [] ?_
 obtain ⟨w0, hm0, hret0, hnext0⟩ := aIn h
 clear h
 refine wc w0 (sa218s1_0) (Ra218s1_0 x1c0) ?_ fun z0 hs0 => ?_
 ·refine wb ?_
  refine wL 0 rfl fun hl0 => ?_
  refine wF (by kernel_rfl) (F218s1_l0 x1c0) (st218s1_0 x0) (R218s1_0 x1c0) w0 x0 () hm0 rfl rfl (fun z0 hn0 => ?_) fun n0 a0 z0 w0b hi0 hx0 h hb0 hr0 => ?_
  ·clear hm0
   exact wx w0 (sa218s1_0) (Ra218s1_0 x1c0) lv218s1 26 [false] [] [] 1 [0] () hC [pq (cE hl0)] hn0
  ·unfold F218s1_l0 at h
   refine ws lv218s1 32 [true] [pt hx0 hl0, pb e244s0 (k244s0 a0 x1c0 _ rfl)] [] 1 [0] [(0, .d (DS q147 x0)), (1, .d (.fn (.func 244) [] [.o 0 0])), (4, dI 0), (5, dI (cnt 0 n0)), (7, dI (ln x0)), (8, dI (cnt 0 n0)), (16, dB (F244s0 a0 x1c0))] [.box 3 [I x1c0]] hC [pq (cL hi0 hl0)] ?_
   rcases bC (F244s0 a0 x1c0) with h1 | h1
   ·replace h := cT h1 h
    have hq := hret0 _ (hr0 _ (sI h).symm)
    replace hq := sI hq
    subst hq
    exact wr lv218s1 24 [true] [] [] [.tmp 4] 1 [0] hC [pq h1]
   ·replace h := cF h1 h
    exact wx w0b (st218s1_0 x0 (n0 + 1)) (R218s1_0 x1c0 (n0 + 1)) lv218s1 25 [false] [] [] 1 [0] () hC [pq h1] (sI h).symm
 ·have h := hnext0 _ hs0
  replace h := sI h
  subst h
  exact wr lv218s1 23 [] [] [] [.tmp 4] 1 [0] hC []
theorem e218s1 : EN 218 := en Tryz.func218
def lv223s0 : List Nat := [0, 1, 2, 4, 6, 7, 8, 9, 10, 11, 17, 31]
def st223s0_0 (x0 : List api_Part) (z0 : Unit) : St := [(0, .d (DS q86 x0)), (2, .d (.fn (.func 224) [] [])), (4, dO 0 0), (6, dI 0), (7, dB false), (8, dI (ln x0)), (9, dI 0), (10, dI (ln x0))]
def R223s0_0 (x1 : api_Part) (z0 : Unit) : List Res := [.box 86 (d86 x1)]
def sa223s0_0 (x0 : List api_Part) (z0 : Unit) : St := [(0, .d (DS q86 x0)), (2, .d (.fn (.func 224) [] [])), (4, dO 0 0), (6, dI 0), (7, dB false), (8, dI (ln x0)), (9, dI 0)]
def Ra223s0_0 (x1 : api_Part) (z0 : Unit) : List Res := [.box 86 (d86 x1)]
theorem k223s0 (x0 : List api_Part) (x1 : api_Part) (r : Int × Bool) (h : F223s0 x0 x1 = some r) : CO 223 [.d (DS q86 x0), .agg (d86 x1), .d (.fn (.func 224) [] [])] [] (.tup [.d (I r.1), .d (Bo r.2)]) [] := by
 unfold F223s0 at h
 refine co 49 Tryz.func223 fun C hC => ?_
 refine ws lv223s0 28 [] [pl q86 x0] [] 0 [0] (st223s0_0 x0 ()) (R223s0_0 x1 ()) hC [] ?_
 obtain ⟨w0, hm0, hret0, hnext0⟩ := aIn h
 clear h
 refine wc w0 (sa223s0_0 x0) (Ra223s0_0 x1) ?_ fun z0 hs0 => ?_
 ·refine wb ?_
  refine wW (by kernel_rfl) (F223s0_l0 x0) (st223s0_0 x0) (R223s0_0 x1) w0 1152921504606846976 () hm0 rfl rfl fun z0 w0b h hb0 hr0 => ?_
  unfold F223s0_l0 at h
  rcases bC (decide (0 < (ln x0))) with h1 | h1
  ·replace h := cT h1 h
   cases h
  ·replace h := cF h1 h
   exact wx w0 (sa223s0_0 x0) (Ra223s0_0 x1) lv223s0 26 [false] [] [] 0 [0] () hC [pq h1] (hb0 _ (sI h).symm)
 ·have h := hnext0 _ hs0
  obtain ⟨y2, h3, h⟩ := bE h
  replace h := sI h
  subst h
  exact wr lv223s0 23 [] [pR q86 h3, ⟨.when [(decide (0 < (ln x0)), true)] (.call 224 [.agg (d86 y2), .agg (d86 x1)] [] (dI (F224 y2 x1)) [] []), fun hg => ⟨e224, (k224 y2 x1 _ rfl)⟩⟩] [] [.tmp 6, .tmp 7] 0 [] hC []
theorem e223s0 : EN 223 := en Tryz.func223
theorem k78 (x0 : dynposmake_Src) (x1 : Int) (x2 : Int) (r : Int × dynposmake_Src) (h : F78 x0 x1 x2 = some r) : CO 78 [.d (.o 0 0), .d (I x1), .d (I x2)] [.box 90 (d90 x0)] (.d (I r.1)) [.box 90 (d90 r.2)] := by
 unfold F78 at h
 refine co 15 Tryz.func78 fun C hC => ?_
 obtain ⟨y1, h2, h⟩ := bE h
 replace h := sI h
 subst h
 exact wr [0, 1, 2, 6] 25 [] [pc e32 (k32 x0 (w64 ((w64 (x2 - x1)) + 1)) _ h2) [0]] [] [.tmp 6] 1 [0] hC []
theorem e78 : EN 78 := en Tryz.func78
theorem k40 (x0 : dynposmake_Src) (x1 : List Int) (r : Int × dynposmake_Src) (h : F40 x0 x1 = some r) : CO 40 [.d (.o 0 0), .d (DS pI x1)] [.box 90 (d90 x0)] (.d (I r.1)) [.box 90 (d90 r.2)] := by
 unfold F40 at h
 refine co 12 Tryz.func40 fun C hC => ?_
 obtain ⟨y1, h2, h⟩ := bE h
 obtain ⟨y3, h4, h⟩ := bE h
 replace h := sI h
 subst h
 exact wr [0, 1, 4] 25 [] [pl pI x1, pc e32 (k32 x0 (ln x1) _ h2) [0], pr pI h4] [] [.tmp 4] 1 [0] hC []
theorem e40 : EN 40 := en Tryz.func40
theorem k111 (x0 : api_Board) (r : Int) (h : F111 x0 = some r) : CO 111 [.agg (d29 x0)] [] (.d (I r)) [] := by
 unfold F111 at h
 refine co 62 Tryz.func111 fun C hC => ?_
 refine ws [0, 1, 2, 28, 61] 26 [] [pL_ [(((decide (x0.Buses < 1)) || (decide (x0.Buses > 6))), false)] q147 x0.Breakers, pL_ [((((decide (x0.Buses < 1)) || (decide (x0.Buses > 6))) || (decide ((ln x0.Breakers) > 24))), false)] q139 x0.Sources, pL_ [(((((decide (x0.Buses < 1)) || (decide (x0.Buses > 6))) || (decide ((ln x0.Breakers) > 24))) || (decide ((ln x0.Sources) > 8))), false)] q65 x0.Consumers] [] 0 [0] [(1, dO 0 0), (2, dI 0), (28, dB (c111_0 x0))] [.box 29 (d29 x0)] hC [] ?_
 rcases bC ((c111_0 x0)) with h1 | h1
 ·replace h := cT h1 h
  replace h := sI h
  subst h
  exact wr [0, 1, 2, 28, 61] 24 [true] [] [] [.tmp 2] 0 [] hC [pq h1]
 ·replace h := cF h1 h
  obtain ⟨y2, h3, h⟩ := bE h
  obtain ⟨y4, h5, h⟩ := bE h
  obtain ⟨y6, h7, h⟩ := bE h
  refine ws [0, 1, 2, 28, 61] 26 [false] [pc e163 (k163 x0 _ h3) [], pw e164 (fun hg => k164 x0 _ (gg h5 hg)) [], pw e165 (fun hg => k165 x0 _ (gg h7 hg)) []] [] 0 [] [(2, dI 0), (61, dB (c111_1 x0 y2 y4 y6))] [] hC [pq h1] ?_
  rcases bC ((c111_1 x0 y2 y4 y6)) with h8 | h8
  ·replace h := cT h8 h
   replace h := sI h
   subst h
   exact wr [0, 1, 2, 28, 61] 24 [true] [] [] [.tmp 2] 0 [] hC [pq h8]
  ·replace h := cF h8 h
   replace h := sI h
   subst h
   exact wr [0, 1, 2, 28, 61] 25 [false] [] [] [.tmp 2] 0 [] hC [pq h8]
theorem e111 : EN 111 := en Tryz.func111
def lv242s1 : List Nat := [0, 1, 2, 6, 7, 8, 9, 13, 30, 35, 54]
def st242s1_0 (x1 : Int) (z0 : Unit) : St := [(0, dS 0), (1, dI x1), (2, .d (.fn (.func 233) [] [.o 1 0])), (6, dI 20), (7, dI 0), (8, dI 20)]
def R242s1_0 (x0 : List Int) (x2c0 : api_Board) (z0 : Unit) : List Res := [v0_ x0, .box 29 (d29 x2c0)]
def sa242s1_0 (x1 : Int) (z0 : Unit) : St := [(0, dS 0), (1, dI x1), (2, .d (.fn (.func 233) [] [.o 1 0])), (6, dI 20), (7, dI 0), (8, dI 20)]
def Ra242s1_0 (x0 : List Int) (x2c0 : api_Board) (z0 : Unit) : List Res := [v0_ x0, .box 29 (d29 x2c0)]
def st242s1_1 (x1 : Int) (z1 : Unit) : St := [(0, dS 0), (1, dI x1), (2, .d (.fn (.func 233) [] [.o 1 0])), (6, dI 20), (7, dI 0), (8, dI 20)]
def R242s1_1 (x0 : List Int) (x2c0 : api_Board) (z1 : Unit) : List Res := [v0_ x0, .box 29 (d29 x2c0)]
def sa242s1_1  (z1 : Unit) : St := []
def Ra242s1_1 (x0 : List Int) (x2c0 : api_Board) (z1 : Unit) : List Res := [v0_ x0, .box 29 (d29 x2c0)]
theorem k242s1 (x0 : List Int) (x1 : Int) (x2c0 : api_Board) (r : api_Board) (h : F242s1 x0 x1 x2c0 = some r) : CO 242 [.d (.os 0), .d (I x1), .d (.fn (.func 233) [] [.o 1 0])] [v0_ x0, .box 29 (d29 x2c0)] (.tup []) [v0_ x0, .box 29 (d29 r)] := by
 unfold F242s1 at h
 refine co 63 Tryz.func242 fun C hC => ?_
 refine ws lv242s1 26 [] [] [] 2 [0, 1] (st242s1_0 x1 ()) (R242s1_0 x0 x2c0 ()) hC [] ?_
 obtain ⟨w0, hm0, hret0, hnext0⟩ := aIn h
 clear h
 refine wc w0 (sa242s1_0 x1) (Ra242s1_0 x0 x2c0) ?_ fun z0 hs0 => ?_
 ·refine wb ?_
  refine wW (by kernel_rfl) (F242s1_l0 x1) (st242s1_0 x1) (R242s1_0 x0 x2c0) w0 1152921504606846976 () hm0 rfl rfl fun z0 w0b h hb0 hr0 => ?_
  unfold F242s1_l0 at h
  rcases bC (decide (20 <= x1)) with h1 | h1
  ·replace h := cT h1 h
   cases h
  ·replace h := cF h1 h
   exact wx w0 (sa242s1_0 x1) (Ra242s1_0 x0 x2c0) lv242s1 26 [false] [] [] 2 [0, 1] () hC [pq h1] (hb0 _ (sI h).symm)
 ·have h := hnext0 _ hs0
  obtain ⟨y2, h3, h⟩ := bE h
  refine ws lv242s1 23 [] [pb e246s0 (k246s0 x0 0 x1 x2c0 _ h3)] [] 2 [0, 1] (st242s1_1 x1 ()) (R242s1_1 x0 x2c0 ()) hC [] ?_
  obtain ⟨w1, hm1, hret1, hnext1⟩ := aIn h
  clear h
  refine wc w1 (sa242s1_1) (Ra242s1_1 x0 x2c0) ?_ fun z1 hs1 => ?_
  ·refine wb ?_
   refine wW (by kernel_rfl) (F242s1_l1 x1) (st242s1_1 x1) (R242s1_1 x0 x2c0) w1 1152921504606846976 () hm1 rfl rfl fun z1 w1b h hb1 hr1 => ?_
   unfold F242s1_l1 at h
   rcases bC (decide (20 < x1)) with h4 | h4
   ·replace h := cT h4 h
    cases h
   ·replace h := cF h4 h
    exact wx w1 (sa242s1_1) (Ra242s1_1 x0 x2c0) lv242s1 26 [false] [] [] 2 [0, 1] () hC [pq h4] (hb1 _ (sI h).symm)
  ·have h := hnext1 _ hs1
   replace h := sI h
   subst h
   exact wf lv242s1 20 [] [] [] [] 2 [0, 1] hC []
theorem e242s1 : EN 242 := en Tryz.func242
def lv218s3 : List Nat := [0, 1, 4, 5, 7, 8, 9, 16]
def st218s3_0 (x0 : List api_Breaker) (n0 : Nat) (z0 : Unit) : St := [(0, .d (DS q147 x0)), (1, .d (.fn (.func 219) [] [.o 0 0])), (4, dI 0), (7, dI (ln x0)), (8, dI (cnt 0 n0))]
def R218s3_0 (x1c0 : Int) (n0 : Nat) (z0 : Unit) : List Res := [.box 3 [I x1c0]]
def sa218s3_0  (z0 : Unit) : St := [(4, dI 0)]
def Ra218s3_0 (x1c0 : Int) (z0 : Unit) : List Res := [.box 3 [I x1c0]]
theorem k218s3 (x0 : List api_Breaker) (x1c0 : Int) (r : Int × Int) (h : F218s3 x0 x1c0 = some r) : CO 218 [.d (DS q147 x0), .d (.fn (.func 219) [] [.o 0 0])] [.box 3 [I x1c0]] (.d (I r.1)) [.box 3 [I r.2]] := by
 unfold F218s3 at h
 refine co 19 Tryz.func218 fun C hC => ?_
 refine ws lv218s3 26 [] [pl q147 x0] [] 1 [0] (st218s3_0 x0 0 ()) (R218s3_0 x1c0 0 ()) hC [] ?_
 obtain ⟨w0, hm0, hret0, hnext0⟩ := aIn h
 clear h
 refine wc w0 (sa218s3_0) (Ra218s3_0 x1c0) ?_ fun z0 hs0 => ?_
 ·refine wb ?_
  refine wL 0 rfl fun hl0 => ?_
  refine wF (by kernel_rfl) (F218s3_l0 x1c0) (st218s3_0 x0) (R218s3_0 x1c0) w0 x0 () hm0 rfl rfl (fun z0 hn0 => ?_) fun n0 a0 z0 w0b hi0 hx0 h hb0 hr0 => ?_
  ·clear hm0
   exact wx w0 (sa218s3_0) (Ra218s3_0 x1c0) lv218s3 26 [false] [] [] 1 [0] () hC [pq (cE hl0)] hn0
  ·unfold F218s3_l0 at h
   refine ws lv218s3 32 [true] [pt hx0 hl0, pb e219s0 (k219s0 a0 x1c0 _ rfl)] [] 1 [0] [(0, .d (DS q147 x0)), (1, .d (.fn (.func 219) [] [.o 0 0])), (4, dI 0), (5, dI (cnt 0 n0)), (7, dI (ln x0)), (8, dI (cnt 0 n0)), (16, dB (F219s0 a0 x1c0))] [.box 3 [I x1c0]] hC [pq (cL hi0 hl0)] ?_
   rcases bC (F219s0 a0 x1c0) with h1 | h1
   ·replace h := cT h1 h
    have hq := hret0 _ (hr0 _ (sI h).symm)
    replace hq := sI hq
    subst hq
    exact wr lv218s3 24 [true] [] [] [.tmp 4] 1 [0] hC [pq h1]
   ·replace h := cF h1 h
    exact wx w0b (st218s3_0 x0 (n0 + 1)) (R218s3_0 x1c0 (n0 + 1)) lv218s3 25 [false] [] [] 1 [0] () hC [pq h1] (sI h).symm
 ·have h := hnext0 _ hs0
  replace h := sI h
  subst h
  exact wr lv218s3 23 [] [] [] [.tmp 4] 1 [0] hC []
theorem e218s3 : EN 218 := en Tryz.func218
def lv141s1 : List Nat := [0, 1, 4, 5, 7, 8, 9, 16]
def st141s1_0 (x0 : List api_Island) (n0 : Nat) (z0 : Unit) : St := [(0, .d (DS q84 x0)), (1, .d (.fn (.func 90) [] [])), (4, dI 0), (7, dI (ln x0)), (8, dI (cnt 0 n0))]
def R141s1_0  (n0 : Nat) (z0 : Unit) : List Res := []
def sa141s1_0  (z0 : Unit) : St := [(4, dI 0)]
def Ra141s1_0  (z0 : Unit) : List Res := []
theorem k141s1 (x0 : List api_Island) (r : Int) (h : F141s1 x0 = some r) : CO 141 [.d (DS q84 x0), .d (.fn (.func 90) [] [])] [] (.d (I r)) [] := by
 unfold F141s1 at h
 refine co 19 Tryz.func141 fun C hC => ?_
 refine ws lv141s1 26 [] [pl q84 x0] [] 0 [] (st141s1_0 x0 0 ()) (R141s1_0 0 ()) hC [] ?_
 obtain ⟨w0, hm0, hret0, hnext0⟩ := aIn h
 clear h
 refine wc w0 (sa141s1_0) (Ra141s1_0) ?_ fun z0 hs0 => ?_
 ·refine wb ?_
  refine wL 0 rfl fun hl0 => ?_
  refine wF (by kernel_rfl) F141s1_l0 (st141s1_0 x0) (R141s1_0) w0 x0 () hm0 rfl rfl (fun z0 hn0 => ?_) fun n0 a0 z0 w0b hi0 hx0 h hb0 hr0 => ?_
  ·clear hm0
   exact wx w0 (sa141s1_0) (Ra141s1_0) lv141s1 26 [false] [] [] 0 [] () hC [pq (cE hl0)] hn0
  ·unfold F141s1_l0 at h
   rcases bC (F90 a0) with h1 | h1
   ·replace h := cT h1 h
    have hq := hret0 _ (hr0 _ (sI h).symm)
    replace hq := sI hq
    subst hq
    exact wr lv141s1 35 [true, true] [pt hx0 hl0, pc e90 (k90 a0 _ rfl) []] [] [.tmp 4] 0 [] hC [pq (cL hi0 hl0), pq h1]
   ·replace h := cF h1 h
    exact wx w0b (st141s1_0 x0 (n0 + 1)) (R141s1_0 (n0 + 1)) lv141s1 36 [true, false] [pt hx0 hl0, pc e90 (k90 a0 _ rfl) []] [] 0 [] () hC [pq (cL hi0 hl0), pq h1] (sI h).symm
 ·have h := hnext0 _ hs0
  replace h := sI h
  subst h
  exact wr lv141s1 23 [] [] [] [.tmp 4] 0 [] hC []
theorem e141s1 : EN 141 := en Tryz.func141
theorem k151 (x0 : api_Arc) (r : Bool) (h : F151 x0 = r) : CO 151 [.agg (d159 x0)] [] (.d (Bo r)) [] := by
 unfold F151 at h
 refine co 19 Tryz.func151 fun C hC => ?_
 subst h
 exact wr n4_ 27 [] [pc e197 (k197 x0.From _ rfl) [], ⟨.when [(F197 x0.From, true)] (.call 197 [dI x0.To] [] (dB (F197 x0.To)) [] []), fun hg => ⟨e197, (k197 x0.To _ rfl)⟩⟩, ⟨.when [(((F197 x0.From) && (F197 x0.To)), true)] (.call 198 [.agg (d159 x0)] [] (dI (F198 x0)) [] []), fun hg => ⟨e198, (k198 x0 _ rfl)⟩⟩] [] [.tmp 2] 0 [] hC []
theorem e151 : EN 151 := en Tryz.func151
theorem k191s0 (x0 : List (List Int)) (r : Bool) (h : F191s0 x0 = some r) : CO 191 [.d (DS (pL pI) x0), .d (.fn (.func 192) [] [])] [] (.d (Bo r)) [] := by
 unfold F191s0 at h
 refine co 9 Tryz.func191 fun C hC => ?_
 obtain ⟨y1, h2, h⟩ := bE h
 replace h := sI h
 subst h
 exact wr [0, 1, 4] 25 [] [pc e228s0 (k228s0 x0 _ h2) []] [] [.tmp 4] 0 [] hC []
theorem e191s0 : EN 191 := en Tryz.func191
def lv95 : List Nat := [0, 1, 2, 4, 5, 6, 7, 8, 9, 10, 49]
def st95_0 (x1 : List api_Part) (n0 : Nat) (z0 : Unit) : St := [(1, .d (DS q86 x1)), (2, dO 0 0), (4, dB false), (7, .d (DS q86 x1)), (8, dI (ln x1)), (9, dI (cnt 0 n0))]
def R95_0 (x0 : api_Board) (n0 : Nat) (z0 : Unit) : List Res := [.box 29 (d29 x0)]
def sa95_0 (x1 : List api_Part) (z0 : Unit) : St := [(1, .d (DS q86 x1)), (4, dB false)]
def Ra95_0  (z0 : Unit) : List Res := []
theorem k95 (x0 : api_Board) (x1 : List api_Part) (r : Bool) (h : F95 x0 x1 = some r) : CO 95 [.agg (d29 x0), .d (DS q86 x1)] [] (.d (Bo r)) [] := by
 unfold F95 at h
 refine co 54 Tryz.func95 fun C hC => ?_
 refine ws lv95 26 [] [pl q86 x1] [] 0 [0] (st95_0 x1 0 ()) (R95_0 x0 0 ()) hC [] ?_
 obtain ⟨w0, hm0, hret0, hnext0⟩ := aIn h
 clear h
 refine wc w0 (sa95_0 x1) (Ra95_0) ?_ fun z0 hs0 => ?_
 ·refine wb ?_
  refine wL 7 rfl fun hl0 => ?_
  refine wF (by kernel_rfl) (F95_l0 x0 x1) (st95_0 x1) (R95_0 x0) w0 x1 () hm0 rfl rfl (fun z0 hn0 => ?_) fun n0 a0 z0 w0b hi0 hx0 h hb0 hr0 => ?_
  ·clear hm0
   exact wx w0 (sa95_0 x1) (Ra95_0) lv95 26 [false] [] [] 0 [] () hC [pq (cE hl0)] hn0
  ·unfold F95_l0 at h
   obtain ⟨y1, h2, h⟩ := bE h
   obtain ⟨y3, h4, h⟩ := bE h
   obtain ⟨y5, h6, h⟩ := bE h
   refine ws lv95 32 [true] [pt hx0 hl0, pc e152 (k152 x0 a0.Kind _ rfl) [], pc e99 (k99 a0.Number 0 (w64 ((F152 x0 a0.Kind) - 1)) _ rfl) [], pR q86 h2, ⟨.when [(!(F99 a0.Number 0 (w64 ((F152 x0 a0.Kind) - 1))), false), (decide ((cnt 0 n0) > 0), true)] (.call 154 [dI y1.Kind, dI a0.Kind] [] (dI (F154 y1.Kind a0.Kind)) [] []), fun hg => ⟨e154, (k154 y1.Kind a0.Kind _ rfl)⟩⟩, pR q86 h4, ⟨.when [(!(F99 a0.Number 0 (w64 ((F152 x0 a0.Kind) - 1))), false), (decide ((cnt 0 n0) > 0), true)] (.call 154 [dI y3.Number, dI a0.Number] [] (dI (F154 y3.Number a0.Number)) [] []), fun hg => ⟨e154, (k154 y3.Number a0.Number _ rfl)⟩⟩, pw e153 (fun hg => k153 [F154 y1.Kind a0.Kind, F154 y3.Number a0.Number] _ (gg h6 hg)) []] [] 0 [0] [(1, .d (DS q86 x1)), (2, dO 0 0), (4, dB false), (7, .d (DS q86 x1)), (8, dI (ln x1)), (9, dI (cnt 0 n0)), (49, dB (c95_1 x0 n0 a0 y5))] [.box 29 (d29 x0)] hC [pq (cL hi0 hl0)] ?_
   rcases bC ((c95_1 x0 n0 a0 y5)) with h7 | h7
   ·replace h := cT h7 h
    have hq := hret0 _ (hr0 _ (sI h).symm)
    replace hq := sI hq
    subst hq
    exact wr lv95 24 [true] [] [] [.tmp 4] 0 [] hC [pq h7]
   ·replace h := cF h7 h
    exact wx w0b (st95_0 x1 (n0 + 1)) (R95_0 x0 (n0 + 1)) lv95 25 [false] [] [] 0 [0] () hC [pq h7] (sI h).symm
 ·have h := hnext0 _ hs0
  replace h := sI h
  subst h
  exact wr lv95 23 [] [pl q86 x1] [] [.tmp 4] 0 [] hC []
theorem e95 : EN 95 := en Tryz.func95
theorem k97 (x0 : api_Running) (r : Bool) (h : F97 x0 = r) : CO 97 [.agg (d120 x0)] [] (.d (Bo r)) [] := by
 unfold F97 at h
 refine co 6 Tryz.func97 fun C hC => ?_
 subst h
 exact wr n3_ 25 [] [pc e98 (k98 x0 _ rfl) []] [] [.tmp 2] 0 [] hC []
theorem e97 : EN 97 := en Tryz.func97
def lv145s1 : List Nat := [0, 1, 4, 5, 6, 7, 12, 19, 29]
def st145s1_0  (z0 : Int × Int × (List api_Island)) : St := [(0, dS 0), (1, .d (.fn (.func 146) [] [])), (4, .d (DS q84 [])), (5, dI z0.1), (6, dI z0.2.1)]
def R145s1_0  (z0 : Int × Int × (List api_Island)) : List Res := [v8_ z0.2.2]
def sa145s1_0  (z0 : Int × Int × (List api_Island)) : St := [(0, dS 0), (4, .d (DS q84 [])), (5, dI z0.1)]
def Ra145s1_0  (z0 : Int × Int × (List api_Island)) : List Res := [v8_ z0.2.2]
theorem k145s1 (x0 : List api_Island) (r : (List api_Island)) (h : F145s1 x0 = some r) : CO 145 [.d (.os 0), .d (.fn (.func 146) [] [])] [.sl 84 3 (x0.map q84)] (.d (.os 1)) [.non, .sl 84 3 (r.map q84)] := by
 unfold F145s1 at h
 refine co 42 Tryz.func145 fun C hC => ?_
 obtain ⟨y1, h2, h⟩ := bE h
 rcases bC ((y1 == (-1))) with h3 | h3
 ·replace h := cT h3 h
  replace h := sI h
  subst h
  exact wr lv145s1 31 [true] [pb e141s0 (k141s0 x0 _ h2)] [.mv 0] [.tmp 4] 1 [0, 1] hC [pq h3]
 ·replace h := cF h3 h
  refine ws lv145s1 33 [false] [pb e141s0 (k141s0 x0 _ h2)] [] 1 [0] (st145s1_0 (y1, w64 (y1 + 1), x0)) (R145s1_0 (y1, w64 (y1 + 1), x0)) hC [pq h3] ?_
  obtain ⟨w0, hm0, hret0, hnext0⟩ := aIn h
  clear h
  refine wc w0 (sa145s1_0) (Ra145s1_0) ?_ fun z0 hs0 => ?_
  ·refine wb ?_
   refine wW (by kernel_rfl) F145s1_l0 (st145s1_0) (R145s1_0) w0 1152921504606846976 (y1, w64 (y1 + 1), x0) hm0 rfl rfl fun z0 w0b h hb0 hr0 => ?_
   unfold F145s1_l0 at h
   rcases bC ((c145s1_2 z0)) with h4 | h4
   ·replace h := cT h4 h
    obtain ⟨y5, h6, h⟩ := bE h
    refine ws lv145s1 32 [true] [pl q84 z0.2.2, pr q84 h6, pn q84 h6, pc e146 (k146 y5 _ rfl) []] [] 1 [0, 1] [(0, dS 0), (1, .d (.fn (.func 146) [] [])), (4, .d (DS q84 [])), (5, dI z0.1), (6, dI z0.2.1), (7, dO 1 0), (29, dB (!(F146 y5)))] [v8_ z0.2.2, .box 84 (d84 y5)] hC [pq h4] ?_
    rcases bC (!(F146 y5)) with h7 | h7
    ·replace h := cT h7 h
     obtain ⟨y8, h9, h⟩ := bE h
     obtain ⟨y10, h11, h⟩ := bE h
     exact wx w0b (st145s1_0) (R145s1_0) lv145s1 27 [true] [pr q84 h9, pu q84 h9 h11] [] 1 [0] (w64 (z0.1 + 1), w64 (z0.2.1 + 1), y10) hC [pq h7] (sI h).symm
    ·replace h := cF h7 h
     exact wx w0b (st145s1_0) (R145s1_0) lv145s1 25 [false] [] [] 1 [0] (z0.1, w64 (z0.2.1 + 1), z0.2.2) hC [pq h7] (sI h).symm
   ·replace h := cF h4 h
    exact wx w0 (sa145s1_0) (Ra145s1_0) lv145s1 26 [false] [pl q84 z0.2.2] [] 1 [0] (z0.1, z0.2.1, z0.2.2) hC [pq h4] (hb0 _ (sI h).symm)
  ·have h := hnext0 _ hs0
   obtain ⟨u13, h12, h⟩ := bE h
   obtain ⟨u15, h14, h⟩ := bE h
   replace h := sI h
   subst h
   (rw [List.map_take]; exact WI_ret (bs := []) mixed lv145s1 25 [] [.bnd (z0.2.2.map q84).length z0.1 (((z0.2.2.map q84).length : Nat) : Int) (ln z0.2.2), .eqr ((z0.2.2.map q84).take (Int.toNat z0.1) ++ (List.replicate ((Int.toNat (ln z0.2.2)) - (Int.toNat z0.1)) (q84 (⟨([] : List Int), ([] : List Int), ([] : List Int)⟩ : api_Island)) ++ (z0.2.2.map q84).drop ((Int.toNat z0.1) + ((Int.toNat (ln z0.2.2)) - (Int.toNat z0.1))))) ((clrI z0.2.2 (Int.toNat z0.1) ((Int.toNat (ln z0.2.2)) - (Int.toNat z0.1)) (⟨([] : List Int), ([] : List Int), ([] : List Int)⟩ : api_Island)).map q84), .bnd ((clrI z0.2.2 (Int.toNat z0.1) ((Int.toNat (ln z0.2.2)) - (Int.toNat z0.1)) (⟨([] : List Int), ([] : List Int), ([] : List Int)⟩ : api_Island)).map q84).length 0 z0.1 z0.1] [.trunc 4] [.tmp 4] 1 [0, 1] rfl hC ⟨bnd_get (by simp) (by simp) h12, clr_get q84 rfl, bnd_get (by simp) rfl h14, trivial⟩ trivial (by kernel_rfl))
theorem e145s1 : EN 145 := en Tryz.func145
theorem k103 (x0 : api_Power) (x1 : Int) (x2 : Int) (r : Bool) (h : F103 x0 x1 x2 = some r) : CO 103 [.agg (d36 x0), .d (I x1), .d (I x2)] [] (.d (Bo r)) [] := by
 unfold F103 at h
 refine co 13 Tryz.func103 fun C hC => ?_
 obtain ⟨y1, h2, h⟩ := bE h
 replace h := sI h
 subst h
 exact wr [0, 1, 2, 3, 6] 25 [] [pc e157 (k157 x0.Broken (⟨x1, x2⟩ : api_Part) _ h2) []] [] [.tmp 6] 0 [] hC []
theorem e103 : EN 103 := en Tryz.func103
def lv158s1 : List Nat := [0, 1, 4, 5, 7, 8, 9, 16]
def st158s1_0 (x0 : List Int) (n0 : Nat) (z0 : Unit) : St := [(0, .d (DS pI x0)), (1, .d (.fn (.func 105) [] [.o 0 0, .o 1 0])), (4, dI 0), (7, dI (ln x0)), (8, dI (cnt 0 n0))]
def R158s1_0 (x1c0 : api_Board) (x1c1 : api_Power) (n0 : Nat) (z0 : Unit) : List Res := [.box 29 (d29 x1c0), .box 36 (d36 x1c1)]
def sa158s1_0  (z0 : Unit) : St := [(4, dI 0)]
def Ra158s1_0 (x1c0 : api_Board) (x1c1 : api_Power) (z0 : Unit) : List Res := [.box 29 (d29 x1c0), .box 36 (d36 x1c1)]
theorem k158s1 (rec46 : api_Board -> api_Power -> Int -> Option Bool) (ih46 : ∀ (x0 : api_Board) (x1 : api_Power) (x2 : Int) (r : Bool), rec46 x0 x1 x2 = some r -> CO 46 [.agg (d29 x0), .agg (d36 x1), .d (I x2)] [] (.d (Bo r)) []) (x0 : List Int) (x1c0 : api_Board) (x1c1 : api_Power) (r : Int × api_Board × api_Power) (h : F158s1 rec46 x0 x1c0 x1c1 = some r) : CO 158 [.d (DS pI x0), .d (.fn (.func 105) [] [.o 0 0, .o 1 0])] [.box 29 (d29 x1c0), .box 36 (d36 x1c1)] (.d (I r.1)) [.box 29 (d29 r.2.1), .box 36 (d36 r.2.2)] := by
 unfold F158s1 at h
 refine co 19 Tryz.func158 fun C hC => ?_
 refine ws lv158s1 26 [] [pl pI x0] [] 2 [0, 1] (st158s1_0 x0 0 ()) (R158s1_0 x1c0 x1c1 0 ()) hC [] ?_
 obtain ⟨w0, hm0, hret0, hnext0⟩ := aIn h
 clear h
 refine wc w0 (sa158s1_0) (Ra158s1_0 x1c0 x1c1) ?_ fun z0 hs0 => ?_
 ·refine wb ?_
  refine wL 0 rfl fun hl0 => ?_
  refine wF (by kernel_rfl) (F158s1_l0 x1c0 x1c1 rec46) (st158s1_0 x0) (R158s1_0 x1c0 x1c1) w0 x0 () hm0 rfl rfl (fun z0 hn0 => ?_) fun n0 a0 z0 w0b hi0 hx0 h hb0 hr0 => ?_
  ·clear hm0
   exact wx w0 (sa158s1_0) (Ra158s1_0 x1c0 x1c1) lv158s1 26 [false] [] [] 2 [0, 1] () hC [pq (cE hl0)] hn0
  ·unfold F158s1_l0 at h
   obtain ⟨y1, h2, h⟩ := bE h
   refine ws lv158s1 32 [true] [pt hx0 hl0, pb e105s0 (k105s0 rec46 ih46 a0 x1c0 x1c1 _ h2)] [] 2 [0, 1] [(0, .d (DS pI x0)), (1, .d (.fn (.func 105) [] [.o 0 0, .o 1 0])), (4, dI 0), (5, dI (cnt 0 n0)), (7, dI (ln x0)), (8, dI (cnt 0 n0)), (16, dB y1)] [.box 29 (d29 x1c0), .box 36 (d36 x1c1)] hC [pq (cL hi0 hl0)] ?_
   rcases bC (y1) with h3 | h3
   ·replace h := cT h3 h
    have hq := hret0 _ (hr0 _ (sI h).symm)
    replace hq := sI hq
    subst hq
    exact wr lv158s1 24 [true] [] [] [.tmp 4] 2 [0, 1] hC [pq h3]
   ·replace h := cF h3 h
    exact wx w0b (st158s1_0 x0 (n0 + 1)) (R158s1_0 x1c0 x1c1 (n0 + 1)) lv158s1 25 [false] [] [] 2 [0, 1] () hC [pq h3] (sI h).symm
 ·have h := hnext0 _ hs0
  replace h := sI h
  subst h
  exact wr lv158s1 23 [] [] [] [.tmp 4] 2 [0, 1] hC []
theorem e158s1 : EN 158 := en Tryz.func158
theorem k201s0 (x0 : Int) (x1 : Int) (r : Int × Int) (h : F201s0 x0 x1 = some r) : CO 201 [.d (I x0), .d (I x1), .d (.fn (.func 202) [] [])] [] (.tup [.d (I r.1), .d (I r.2)]) [] := by
 unfold F201s0 at h
 refine co 26 Tryz.func201 fun C hC => ?_
 rcases bC ((c201s0_0 x0 x1)) with h1 | h1
 ·replace h := cT h1 h
  replace h := sI h
  subst h
  exact wr [0, 1, 2, 6, 7, 21] 29 [true] [] [] [.tmp 6, .tmp 7] 0 [] hC [pq h1]
 ·replace h := cF h1 h
  obtain ⟨y2, h3, h⟩ := bE h
  replace h := sI h
  subst h
  exact wr [0, 1, 2, 6, 7, 21] 30 [false] [pc e202 (k202 x0 x1 _ h3) []] [] [.tmp 6, .tmp 7] 0 [] hC [pq h1]
theorem e201s0 : EN 201 := en Tryz.func201
theorem k108 (x0 : api_Arc) (r : Bool) (h : F108 x0 = r) : CO 108 [.agg (d159 x0)] [] (.d (Bo r)) [] := by
 unfold F108 at h
 refine co 26 Tryz.func108 fun C hC => ?_
 subst h
 exact wr n3_ 25 [] [⟨.when [(((((decide (x0.From >= 0)) && (decide (x0.From < 3600))) && (decide (x0.To >= 0))) && (decide (x0.To < 3600))), true)] (.call 161 [.agg (d159 x0)] [] (dI (F161 x0)) [] []), fun hg => ⟨e161, (k161 x0 _ rfl)⟩⟩] [] [.tmp 2] 0 [] hC []
theorem e108 : EN 108 := en Tryz.func108
theorem k52 (x0 : Int) (x1 : Int) (r : Int × Int) (h : F52 x0 x1 = some r) : CO 52 [.d (I x0), .d (I x1)] [] (.tup [.d (I r.1), .d (I r.2)]) [] := by
 unfold F52 at h
 refine co 15 Tryz.func52 fun C hC => ?_
 rcases bC (!(F109 x0 x1)) with h1 | h1
 ·replace h := cT h1 h
  replace h := sI h
  subst h
  exact wr [0, 1, 4, 5, 9] 29 [true] [pc e109 (k109 x0 x1 _ rfl) []] [] [.tmp 4, .tmp 5] 0 [] hC [pq h1]
 ·replace h := cF h1 h
  obtain ⟨y2, h3, h⟩ := bE h
  replace h := sI h
  subst h
  exact wr [0, 1, 4, 5, 9] 30 [false] [pc e109 (k109 x0 x1 _ rfl) [], pc e110 (k110 (w64 (0 - x0)) x1 _ h3) []] [] [.tmp 4, .tmp 5] 0 [] hC [pq h1]
theorem e52 : EN 52 := en Tryz.func52
def lv139 : List Nat := [0, 1, 4, 5, 6, 7, 8, 10, 26, 37]
def sa139_0 (x0 : List api_Roster) (x1 : Int) (z0 : Unit) : St := [(0, .d (DS q130 x0)), (1, dI x1), (4, .d (DS q130 []))]
def Ra139_0  (z0 : Unit) : List Res := []
def sa139_1 (x0 : List api_Roster) (x1 : Int) (z1 : Unit) : St := [(0, .d (DS q130 x0)), (4, .d (DS q130 [])), (6, .d (.p (.v (.int .u64 ((F140 (IntKind.wrap .u64 (ln x0)) (IntKind.wrap .u64 x1)).2)))))]
def Ra139_1  (z1 : Unit) : List Res := []
def st139_2 (x0 : List api_Roster) (y3 : List api_Roster) (z2 : Unit) : St := [(4, .d (DS q130 [])), (7, dS 0), (8, dI ((Nat.min x0.length y3.length) : Int))]
def R139_2 (x0 : List api_Roster) (y3 : List api_Roster) (z2 : Unit) : List Res := [v5_ (cpyI y3 0 y3.length x0)]
def sa139_2  (z2 : Unit) : St := [(4, .d (DS q130 [])), (7, dS 0)]
def Ra139_2 (x0 : List api_Roster) (y3 : List api_Roster) (z2 : Unit) : List Res := [v5_ (cpyI y3 0 y3.length x0)]
theorem k139 (x0 : List api_Roster) (x1 : Int) (r : (List api_Roster)) (h : F139 x0 x1 = some r) : CO 139 [.d (DS q130 x0), .d (I x1)] [] (.d (.os 0)) [v5_ r] := by
 unfold F139 at h
 refine co 48 Tryz.func139 fun C hC => ?_
 refine ws lv139 26 [] [] [] 0 [] [(0, .d (DS q130 x0)), (1, dI x1), (4, .d (DS q130 [])), (10, dB (decide (x1 < 0)))] [] hC [] ?_
 obtain ⟨w0, h, hret0, hnext0⟩ := aIn h
 refine wc w0 (sa139_0 x0 x1) (Ra139_0) ?_ fun z0 hs0 => ?_
 ·unfold F139_m0 at h
  rcases bC (decide (x1 < 0)) with h1 | h1
  ·replace h := cT h1 h
   cases h
  ·replace h := cF h1 h
   exact wx w0 (sa139_0 x0 x1) (Ra139_0) lv139 23 [false] [] [] 0 [] () hC [pq h1] (sI h).symm
 ·clear h; have h := hnext0 _ hs0
  refine ws lv139 26 [] [pl q130 x0, pc e140 (k140 (IntKind.wrap .u64 (ln x0)) (IntKind.wrap .u64 x1) _ rfl) []] [] 0 [] [(0, .d (DS q130 x0)), (4, .d (DS q130 [])), (6, .d (.p (.v (.int .u64 ((F140 (IntKind.wrap .u64 (ln x0)) (IntKind.wrap .u64 x1)).2))))), (26, .d (Bo ((decide (((F140 (IntKind.wrap .u64 (ln x0)) (IntKind.wrap .u64 x1)).1) > 0)) || (decide (((F140 (IntKind.wrap .u64 (ln x0)) (IntKind.wrap .u64 x1)).2) > 9223372036854775807)))))] [] hC [] ?_
  obtain ⟨w1, h, hret1, hnext1⟩ := aIn h
  refine wc w1 (sa139_1 x0 x1) (Ra139_1) ?_ fun z1 hs1 => ?_
  ·unfold F139_m1 at h
   rcases bC ((c139_0 x0 x1)) with h2 | h2
   ·replace h := cT h2 h
    cases h
   ·replace h := cF h2 h
    exact wx w1 (sa139_1 x0 x1) (Ra139_1) lv139 23 [false] [] [] 0 [] () hC [pq h2] (sI h).symm
  ·clear h; have h := hnext1 _ hs1
   obtain ⟨y3, h4, h⟩ := bE h
   refine ws lv139 26 [] [⟨.room ((w64 ((F140 (IntKind.wrap .u64 (ln x0)) (IntKind.wrap .u64 x1)).2)) * (16 + 1)) (List.replicate (Int.toNat (w64 ((F140 (IntKind.wrap .u64 (ln x0)) (IntKind.wrap .u64 x1)).2))) (q130 (⟨0, 0⟩ : api_Roster))) (y3.map q130), make_get h4⟩, ⟨.cpy (x0.map q130) 2 ((y3.map q130).length) (Nat.min x0.length y3.length) ((y3.map q130).take 0 ++ ((x0.map q130).take (Nat.min x0.length y3.length) ++ (y3.map q130).drop (0 + (Nat.min x0.length y3.length)))) ((cpyI y3 0 y3.length x0).map q130), cpy_get q130 2 (fun _ => rfl) rfl (by simp)⟩] [] 0 [0] (st139_2 x0 y3 ()) (R139_2 x0 y3 ()) hC [] ?_
   obtain ⟨w2, hm2, hret2, hnext2⟩ := aIn h
   clear h
   refine wc w2 (sa139_2) (Ra139_2 x0 y3) ?_ fun z2 hs2 => ?_
   ·refine wb ?_
    refine wW (by kernel_rfl) (F139_l2 x0 y3) (st139_2 x0 y3) (R139_2 x0 y3) w2 1152921504606846976 () hm2 rfl rfl fun z2 w2b h hb2 hr2 => ?_
    unfold F139_l2 at h
    rcases bC ((c139_2 x0 y3)) with h5 | h5
    ·replace h := cT h5 h
     cases h
    ·replace h := cF h5 h
     exact wx w2 (sa139_2) (Ra139_2 x0 y3) lv139 26 [false] [pl q130 (cpyI y3 0 y3.length x0)] [] 0 [0] () hC [pq h5] (hb2 _ (sI h).symm)
   ·have h := hnext2 _ hs2
    replace h := sI h
    subst h
    exact wr lv139 23 [] [] [] [.tmp 4] 0 [0] hC []
theorem e139 : EN 139 := en Tryz.func139
def lv87 : List Nat := [0, 1, 4, 5, 6, 7, 8, 10, 26, 37]
def sa87_0 (x0 : List api_Running) (x1 : Int) (z0 : Unit) : St := [(0, .d (DS q120 x0)), (1, dI x1), (4, .d (DS q120 []))]
def Ra87_0  (z0 : Unit) : List Res := []
def sa87_1 (x0 : List api_Running) (x1 : Int) (z1 : Unit) : St := [(0, .d (DS q120 x0)), (4, .d (DS q120 [])), (6, .d (.p (.v (.int .u64 ((F140 (IntKind.wrap .u64 (ln x0)) (IntKind.wrap .u64 x1)).2)))))]
def Ra87_1  (z1 : Unit) : List Res := []
def st87_2  (z2 : Int × (List api_Running)) : St := [(4, .d (DS q120 [])), (7, dS 0), (8, dI z2.1)]
def R87_2  (z2 : Int × (List api_Running)) : List Res := [v3_ z2.2]
def sa87_2  (z2 : Int × (List api_Running)) : St := [(4, .d (DS q120 [])), (7, dS 0)]
def Ra87_2  (z2 : Int × (List api_Running)) : List Res := [v3_ z2.2]
theorem k87 (x0 : List api_Running) (x1 : Int) (r : (List api_Running)) (h : F87 x0 x1 = some r) : CO 87 [.d (DS q120 x0), .d (I x1)] [] (.d (.os 0)) [v3_ r] := by
 unfold F87 at h
 refine co 48 Tryz.func87 fun C hC => ?_
 refine ws lv87 26 [] [] [] 0 [] [(0, .d (DS q120 x0)), (1, dI x1), (4, .d (DS q120 [])), (10, dB (decide (x1 < 0)))] [] hC [] ?_
 obtain ⟨w0, h, hret0, hnext0⟩ := aIn h
 refine wc w0 (sa87_0 x0 x1) (Ra87_0) ?_ fun z0 hs0 => ?_
 ·unfold F87_m0 at h
  rcases bC (decide (x1 < 0)) with h1 | h1
  ·replace h := cT h1 h
   cases h
  ·replace h := cF h1 h
   exact wx w0 (sa87_0 x0 x1) (Ra87_0) lv87 23 [false] [] [] 0 [] () hC [pq h1] (sI h).symm
 ·clear h; have h := hnext0 _ hs0
  refine ws lv87 26 [] [pl q120 x0, pc e140 (k140 (IntKind.wrap .u64 (ln x0)) (IntKind.wrap .u64 x1) _ rfl) []] [] 0 [] [(0, .d (DS q120 x0)), (4, .d (DS q120 [])), (6, .d (.p (.v (.int .u64 ((F140 (IntKind.wrap .u64 (ln x0)) (IntKind.wrap .u64 x1)).2))))), (26, .d (Bo ((decide (((F140 (IntKind.wrap .u64 (ln x0)) (IntKind.wrap .u64 x1)).1) > 0)) || (decide (((F140 (IntKind.wrap .u64 (ln x0)) (IntKind.wrap .u64 x1)).2) > 9223372036854775807)))))] [] hC [] ?_
  obtain ⟨w1, h, hret1, hnext1⟩ := aIn h
  refine wc w1 (sa87_1 x0 x1) (Ra87_1) ?_ fun z1 hs1 => ?_
  ·unfold F87_m1 at h
   rcases bC ((c87_0 x0 x1)) with h2 | h2
   ·replace h := cT h2 h
    cases h
   ·replace h := cF h2 h
    exact wx w1 (sa87_1 x0 x1) (Ra87_1) lv87 23 [false] [] [] 0 [] () hC [pq h2] (sI h).symm
  ·clear h; have h := hnext1 _ hs1
   obtain ⟨y3, h4, h⟩ := bE h
   refine ws lv87 26 [] [⟨.room ((w64 ((F140 (IntKind.wrap .u64 (ln x0)) (IntKind.wrap .u64 x1)).2)) * (32 + 1)) (List.replicate (Int.toNat (w64 ((F140 (IntKind.wrap .u64 (ln x0)) (IntKind.wrap .u64 x1)).2))) (q120 (⟨0, 0, 0, 0⟩ : api_Running))) (y3.map q120), make_get h4⟩, ⟨.cpy (x0.map q120) 4 ((y3.map q120).length) (Nat.min x0.length y3.length) ((y3.map q120).take 0 ++ ((x0.map q120).take (Nat.min x0.length y3.length) ++ (y3.map q120).drop (0 + (Nat.min x0.length y3.length)))) ((cpyI y3 0 y3.length x0).map q120), cpy_get q120 4 (fun _ => rfl) rfl (by simp)⟩] [] 0 [0] (st87_2 (((Nat.min x0.length y3.length) : Int), (cpyI y3 0 y3.length x0))) (R87_2 (((Nat.min x0.length y3.length) : Int), (cpyI y3 0 y3.length x0))) hC [] ?_
   obtain ⟨w2, hm2, hret2, hnext2⟩ := aIn h
   clear h
   refine wc w2 (sa87_2) (Ra87_2) ?_ fun z2 hs2 => ?_
   ·refine wb ?_
    refine wW (by kernel_rfl) F87_l2 (st87_2) (R87_2) w2 1152921504606846976 (((Nat.min x0.length y3.length) : Int), (cpyI y3 0 y3.length x0)) hm2 rfl rfl fun z2 w2b h hb2 hr2 => ?_
    unfold F87_l2 at h
    rcases bC ((c87_3 z2)) with h5 | h5
    ·replace h := cT h5 h
     obtain ⟨u7, h6, h⟩ := bE h
     obtain ⟨u9, h8, h⟩ := bE h
     exact wx w2b (st87_2) (R87_2) lv87 29 [true] [pl q120 z2.2, ⟨.bnd (z2.2.map q120).length z2.1 (((z2.2.map q120).length : Nat) : Int) (ln z2.2), bnd_get (by simp) (by simp) h6⟩, ⟨.bnd (z2.2.map q120).length 0 z2.1 z2.1, bnd_get (by simp) rfl h8⟩, ⟨.cpy (((z2.2.map q120).drop 0).take ((Int.toNat z2.1) - 0)) 4 ((Int.toNat (ln z2.2)) - (Int.toNat z2.1)) (Nat.min ((z2.2.drop 0).take ((Int.toNat z2.1) - 0)).length ((Int.toNat (ln z2.2)) - (Int.toNat z2.1))) ((z2.2.map q120).take (Int.toNat z2.1) ++ ((((z2.2.map q120).drop 0).take ((Int.toNat z2.1) - 0)).take (Nat.min ((z2.2.drop 0).take ((Int.toNat z2.1) - 0)).length ((Int.toNat (ln z2.2)) - (Int.toNat z2.1))) ++ (z2.2.map q120).drop ((Int.toNat z2.1) + (Nat.min ((z2.2.drop 0).take ((Int.toNat z2.1) - 0)).length ((Int.toNat (ln z2.2)) - (Int.toNat z2.1)))))) ((cpyI z2.2 (Int.toNat z2.1) ((Int.toNat (ln z2.2)) - (Int.toNat z2.1)) ((z2.2.drop 0).take ((Int.toNat z2.1) - 0))).map q120), cpy_get q120 4 (fun _ => rfl) (part_map _ _ _ _) rfl⟩] [] 0 [0] (w64 (z2.1 + ((Nat.min ((z2.2.drop 0).take ((Int.toNat z2.1) - 0)).length ((Int.toNat (ln z2.2)) - (Int.toNat z2.1))) : Int)), (cpyI z2.2 (Int.toNat z2.1) ((Int.toNat (ln z2.2)) - (Int.toNat z2.1)) ((z2.2.drop 0).take ((Int.toNat z2.1) - 0)))) hC [pq h5] (sI h).symm
    ·replace h := cF h5 h
     exact wx w2 (sa87_2) (Ra87_2) lv87 26 [false] [pl q120 z2.2] [] 0 [0] (z2.1, z2.2) hC [pq h5] (hb2 _ (sI h).symm)
   ·have h := hnext2 _ hs2
    replace h := sI h
    subst h
    exact wr lv87 23 [] [] [] [.tmp 4] 0 [0] hC []
theorem e87 : EN 87 := en Tryz.func87
def lv122s0 : List Nat := [0, 1, 4, 5, 7, 8, 9, 16]
def st122s0_0 (x0 : List api_Roster) (n0 : Nat) (z0 : Sg0) : St := [(0, .d (DS q130 x0)), (1, .d (.fn (.func 62) [] [.o 0 0])), (4, dI 0), (7, dI (ln x0)), (8, dI (cnt 0 n0))]
def R122s0_0  (n0 : Nat) (z0 : Sg0) : List Res := [.box 126 [.fn (.func 58) [] [.o 1 0]], .box 40 [I z0.1, DS pB z0.2.1, DS q120 z0.2.2.1, DS pI (g3_ z0), DS q86 (g4_ z0), DS q130 (g5_ z0), DS q51 (g6z_ z0)]]
def sa122s0_0  (z0 : Sg0) : St := [(4, dI 0)]
def Ra122s0_0  (z0 : Sg0) : List Res := [.box 126 [.fn (.func 58) [] [.o 1 0]], .box 40 [I z0.1, DS pB z0.2.1, DS q120 z0.2.2.1, DS pI (g3_ z0), DS q86 (g4_ z0), DS q130 (g5_ z0), DS q51 (g6z_ z0)]]
theorem k122s0 (x0 : List api_Roster) (x1c0c0 : api_Plant) (r : Int × api_Plant) (h : F122s0 x0 x1c0c0 = some r) : CO 122 [.d (DS q130 x0), .d (.fn (.func 62) [] [.o 0 0])] [.box 126 [.fn (.func 58) [] [.o 1 0]], .box 40 (d40 x1c0c0)] (.d (I r.1)) [.box 126 [.fn (.func 58) [] [.o 1 0]], .box 40 (d40 r.2)] := by
 unfold F122s0 at h
 refine co 19 Tryz.func122 fun C hC => ?_
 refine ws lv122s0 26 [] [pl q130 x0] [] 2 [0, 1] (st122s0_0 x0 0 (x1c0c0.Time, zu x1c0c0.Power (x1c0c0.Rosters, x1c0c0.Events))) (R122s0_0 0 (x1c0c0.Time, zu x1c0c0.Power (x1c0c0.Rosters, x1c0c0.Events))) hC [] ?_
 obtain ⟨w0, hm0, hret0, hnext0⟩ := aIn h
 clear h
 refine wc w0 (sa122s0_0) (Ra122s0_0) ?_ fun z0 hs0 => ?_
 ·refine wb ?_
  refine wL 0 rfl fun hl0 => ?_
  refine wF (by kernel_rfl) F122s0_l0 (st122s0_0 x0) (R122s0_0) w0 x0 (x1c0c0.Time, zu x1c0c0.Power (x1c0c0.Rosters, x1c0c0.Events)) hm0 rfl rfl (fun z0 hn0 => ?_) fun n0 a0 z0 w0b hi0 hx0 h hb0 hr0 => ?_
  ·clear hm0
   exact wx w0 (sa122s0_0) (Ra122s0_0) lv122s0 26 [false] [] [] 2 [0, 1] (z0.1, z0.2.1, z0.2.2.1, (g3_ z0), (g4_ z0), (g5_ z0), (g6z_ z0)) hC [pq (cE hl0)] hn0
  ·unfold F122s0_l0 at h
   refine ws lv122s0 32 [true] [pt hx0 hl0, pc e62s0 (k62s0 a0 (⟨z0.1, (⟨z0.2.1, z0.2.2.1, (g3_ z0), (g4_ z0)⟩ : api_Power), (g5_ z0), (g6z_ z0)⟩ : api_Plant) _ rfl) [0, 1]] [] 2 [0, 1] [(0, .d (DS q130 x0)), (1, .d (.fn (.func 62) [] [.o 0 0])), (4, dI 0), (5, dI (cnt 0 n0)), (7, dI (ln x0)), (8, dI (cnt 0 n0)), (16, dB (c122s0_1 z0 a0))] [.box 126 [.fn (.func 58) [] [.o 1 0]], .box 40 [I (((F62s0 a0 (⟨z0.1, (⟨z0.2.1, z0.2.2.1, (g3_ z0), (g4_ z0)⟩ : api_Power), (g5_ z0), (g6z_ z0)⟩ : api_Plant)).2).Time), DS pB ((((F62s0 a0 (⟨z0.1, (⟨z0.2.1, z0.2.2.1, (g3_ z0), (g4_ z0)⟩ : api_Power), (g5_ z0), (g6z_ z0)⟩ : api_Plant)).2).Power).Closed), DS q120 ((((F62s0 a0 (⟨z0.1, (⟨z0.2.1, z0.2.2.1, (g3_ z0), (g4_ z0)⟩ : api_Power), (g5_ z0), (g6z_ z0)⟩ : api_Plant)).2).Power).Sources), DS pI ((((F62s0 a0 (⟨z0.1, (⟨z0.2.1, z0.2.2.1, (g3_ z0), (g4_ z0)⟩ : api_Power), (g5_ z0), (g6z_ z0)⟩ : api_Plant)).2).Power).Limits), DS q86 ((((F62s0 a0 (⟨z0.1, (⟨z0.2.1, z0.2.2.1, (g3_ z0), (g4_ z0)⟩ : api_Power), (g5_ z0), (g6z_ z0)⟩ : api_Plant)).2).Power).Broken), DS q130 (((F62s0 a0 (⟨z0.1, (⟨z0.2.1, z0.2.2.1, (g3_ z0), (g4_ z0)⟩ : api_Power), (g5_ z0), (g6z_ z0)⟩ : api_Plant)).2).Rosters), DS q51 (((F62s0 a0 (⟨z0.1, (⟨z0.2.1, z0.2.2.1, (g3_ z0), (g4_ z0)⟩ : api_Power), (g5_ z0), (g6z_ z0)⟩ : api_Plant)).2).Events)]] hC [pq (cL hi0 hl0)] ?_
   rcases bC ((c122s0_1 z0 a0)) with h1 | h1
   ·replace h := cT h1 h
    cases h
   ·replace h := cF h1 h
    exact wx w0b (st122s0_0 x0 (n0 + 1)) (R122s0_0 (n0 + 1)) lv122s0 25 [false] [] [] 2 [0, 1] (((F62s0 a0 (⟨z0.1, (⟨z0.2.1, z0.2.2.1, (g3_ z0), (g4_ z0)⟩ : api_Power), (g5_ z0), (g6z_ z0)⟩ : api_Plant)).2).Time, (((F62s0 a0 (⟨z0.1, (⟨z0.2.1, z0.2.2.1, (g3_ z0), (g4_ z0)⟩ : api_Power), (g5_ z0), (g6z_ z0)⟩ : api_Plant)).2).Power).Closed, (((F62s0 a0 (⟨z0.1, (⟨z0.2.1, z0.2.2.1, (g3_ z0), (g4_ z0)⟩ : api_Power), (g5_ z0), (g6z_ z0)⟩ : api_Plant)).2).Power).Sources, (((F62s0 a0 (⟨z0.1, (⟨z0.2.1, z0.2.2.1, (g3_ z0), (g4_ z0)⟩ : api_Power), (g5_ z0), (g6z_ z0)⟩ : api_Plant)).2).Power).Limits, (((F62s0 a0 (⟨z0.1, (⟨z0.2.1, z0.2.2.1, (g3_ z0), (g4_ z0)⟩ : api_Power), (g5_ z0), (g6z_ z0)⟩ : api_Plant)).2).Power).Broken, ((F62s0 a0 (⟨z0.1, (⟨z0.2.1, z0.2.2.1, (g3_ z0), (g4_ z0)⟩ : api_Power), (g5_ z0), (g6z_ z0)⟩ : api_Plant)).2).Rosters, ((F62s0 a0 (⟨z0.1, (⟨z0.2.1, z0.2.2.1, (g3_ z0), (g4_ z0)⟩ : api_Power), (g5_ z0), (g6z_ z0)⟩ : api_Plant)).2).Events) hC [pq h1] (sI h).symm
 ·have h := hnext0 _ hs0
  replace h := sI h
  subst h
  exact wr lv122s0 23 [] [] [] [.tmp 4] 2 [0, 1] hC []
theorem e122s0 : EN 122 := en Tryz.func122
theorem k63 (x0 : api_Board) (x1 : api_Plant) (r : plant_runner) (h : F63 x0 x1 = some r) : CO 63 [.agg (d29 x0), .agg (d40 x1)] [] (.d (.o 0 0)) (.box 100 (I r.Plant.Time :: .os 1 :: .os 2 :: .os 3 :: .os 4 :: .os 5 :: .os 6 :: zb r.board [.os 7, .os 8]) :: zp r.Plant.Power [v5_ r.Plant.Rosters, v1_ r.Plant.Events, v1_ r.events, v7_ r.states]) := by
 unfold F63 at h
 refine co 21 Tryz.func63 fun C hC => ?_
 obtain ⟨y1, h2, h⟩ := bE h
 obtain ⟨y3, h4, h⟩ := bE h
 obtain ⟨y5, h6, h⟩ := bE h
 replace h := sI h
 subst h
 exact wr n5_ 27 [] [pc e116 (k116 x1.Power _ h2) [], pc e123 (k123 x1.Rosters _ h4) [], pc e84 (k84 x1.Events _ h6) []] [.ownb 8 13 51 5, .ownb 8 14 36 4] [.tmp 4] 0 [8, 2, 3, 4, 5, 6, 7, 9, 10] hC []
theorem e63 : EN 63 := en Tryz.func63
theorem k81s1 (x0 : plant_runner) (x1 : api_Power) (r : plant_runner) (h : F81s1 x0 x1 = some r) : CO 81 [.d (.o 0 0), .agg (d36 x1)] (.box 100 (I x0.Plant.Time :: .os 1 :: .os 2 :: .os 3 :: .os 4 :: .os 5 :: .os 6 :: zb x0.board [.os 7, .os 8]) :: zp x0.Plant.Power [v5_ x0.Plant.Rosters, v1_ x0.Plant.Events, v1_ x0.events, v7_ x0.states]) (.tup []) (.box 100 (I r.Plant.Time :: .os 1 :: .os 2 :: .os 3 :: .os 4 :: .os 5 :: .os 6 :: zb r.board [.os 7, .os 9]) :: zp r.Plant.Power [v5_ r.Plant.Rosters, v1_ r.Plant.Events, v1_ r.events, .non, v7_ r.states]) := by
 unfold F81s1 at h
 refine co 15 Tryz.func81 fun C hC => ?_
 obtain ⟨y3, h4, h⟩ := bE h
 obtain ⟨y5, h6, h⟩ := bE h
 replace h := sI h
 subst h
 exact wf [0, 1, 3] 23 [] [⟨.call 116 [.agg (d36 x1)] [] (.agg (d36 y3)) [.non, .non, .non, .non] [], ⟨e116, (CK.frzAll n4_ (show CO 116 [.agg (d36 x1)] [] (.agg [.os 0, .os 1, .os 2, .os 3]) (zp y3 []) from (k116 x1 _ h4)) (by kernel_rfl))⟩⟩, pa q36 4 h6] [] [] 9 [0, 1, 2, 3, 4, 5, 6, 7, 8, 14] hC []
theorem e81s1 : EN 81 := en Tryz.func81
theorem k243 (x0 : api_Board) (x1 : api_Running) (x2 : api_Running) (r : Bool) (h : F243 x0 x1 x2 = some r) : CO 243 [.agg (d29 x0), .agg (d120 x1), .agg (d120 x2)] [] (.d (Bo r)) [] := by
 unfold F243 at h
 refine co 52 Tryz.func243 fun C hC => ?_
 rcases bC ((c243_0 x1 x2)) with h1 | h1
 ·replace h := cT h1 h
  cases h
 ·replace h := cF h1 h
  obtain ⟨y2, h3, h⟩ := bE h
  replace h := sI h
  subst h
  exact wr [0, 1, 2, 3, 4, 5, 6, 7, 8, 22] 34 [false] [pc e248 (k248 x1.Phase x2.Phase _ h3) []] [] [.tmp 6] 0 [] hC [pq h1]
theorem e243 : EN 243 := en Tryz.func243
theorem k239 (x0 : api_Board) (x1 : Int) (r : Int) (h : F239 x0 x1 = some r) : CO 239 [.agg (d29 x0), .d (I x1)] [] (.d (I r)) [] := by
 unfold F239 at h
 refine co 9 Tryz.func239 fun C hC => ?_
 obtain ⟨y1, h2, h⟩ := bE h
 replace h := sI h
 subst h
 exact wr n5_ 25 [] [pc e218s1 (k218s1 x0.Breakers x1 _ h2) [1]] [] [.tmp 4] 0 [] hC []
theorem e239 : EN 239 := en Tryz.func239
def lv189s1 : List Nat := [0, 1, 2, 4, 6, 7, 8, 32, 36, 47, 64, 74]
def sa189s1_0 (x2 : Bool) (z0 : (List api_Part)) : St := [(0, dO 0 0), (2, dB x2), (4, dO 5 0), (6, dI 0)]
def Ra189s1_0 (x0 : restore_worker) (x1 : api_Part) (z0 : (List api_Part)) : List Res := [.box 186 (zb x0.board [.os 6, .os 7, .os 8, .os 9, I x0.time]), .non, .non, .non, .non, .box 86 (d86 x1), v2_ x0.power.Closed, v3_ x0.power.Sources, v0_ x0.power.Limits, v4_ z0]
theorem k189s1 (x0 : restore_worker) (x1 : api_Part) (x2 : Bool) (r : Int × restore_worker) (h : F189s1 x0 x1 x2 = some r) : CO 189 [.d (.o 0 0), .agg (d86 x1), .d (Bo x2)] (.box 186 (zb x0.board [.os 1, .os 2, .os 3, .os 4, I x0.time]) :: zp x0.power []) (.d (I r.1)) (.box 186 (zb r.2.board [.os 5, .os 6, .os 7, .os 8, I r.2.time]) :: .non :: .non :: .non :: .non :: zp r.2.power []) := by
 unfold F189s1 at h
 refine co 84 Tryz.func189 fun C hC => ?_
 obtain ⟨y1, h2, h⟩ := bE h
 rcases bC ((y1.2 == x2)) with h3 | h3
 ·replace h := cT h3 h
  cases h
 ·replace h := cF h3 h
  refine ws lv189s1 32 [false] [pb e223s0 (k223s0 x0.power.Broken x1 _ h2), pL_ [(x2, true)] q86 x0.power.Broken] [.mv 1, .mv 2, .mv 3, .mv 4] 5 n10_ [(0, dO 0 0), (2, dB x2), (4, dO 5 0), (6, dI 0), (7, dI y1.1), (36, dB (c189s1_0 x0 x2))] (.box 186 (zb x0.board [.os 6, .os 7, .os 8, .os 9, I x0.time]) :: .non :: .non :: .non :: .non :: .box 86 (d86 x1) :: zp x0.power []) hC [pq h3] ?_
  rcases bC ((c189s1_0 x0 x2)) with h4 | h4
  ·replace h := cT h4 h
   cases h
  ·replace h := cF h4 h
   refine ws lv189s1 24 [false] [] [] 5 n10_ [(0, dO 0 0), (2, dB x2), (4, dO 5 0), (6, dI 0), (7, dI y1.1), (47, dB x2)] (.box 186 (zb x0.board [.os 6, .os 7, .os 8, .os 9, I x0.time]) :: .non :: .non :: .non :: .non :: .box 86 (d86 x1) :: zp x0.power []) hC [pq h4] ?_
   obtain ⟨w0, h, hret0, hnext0⟩ := aIn h
   refine wc w0 (sa189s1_0 x2) (Ra189s1_0 x0 x1) ?_ fun z0 hs0 => ?_
   ·unfold F189s1_m0 at h
    rcases bC (x2) with h5 | h5
    ·replace h := cT h5 h
     obtain ⟨y6, h7, h⟩ := bE h
     exact wx w0 (sa189s1_0 x2) (Ra189s1_0 x0 x1) lv189s1 23 [true] [pc e225s0 (k225s0 x0.power.Broken y1.1 [x1] _ h7) [9]] [] 5 [0, 1, 2, 3, 4, 5, 6, 7, 8, 10] y6 hC [pq h5] (sI h).symm
    ·replace h := cF h5 h
     cases h
   ·clear h; have h := hnext0 _ hs0
    rcases bC ((x1.Kind == 1)) with h8 | h8
    ·replace h := cT h8 h
     obtain ⟨y9, h10, h⟩ := bE h
     obtain ⟨y11, h12, h⟩ := bE h
     refine ws lv189s1 30 [true] [pr q120 h10, pu q120 h10 h12] [] 5 n10_ [(0, dO 0 0), (4, dO 5 0), (6, dI 0), (74, dB x2)] [.box 186 (zb x0.board [.os 6, .os 7, .os 8, .os 9, I x0.time]), .non, .non, .non, .non, .box 86 (d86 x1), v2_ x0.power.Closed, v3_ y11, v0_ x0.power.Limits, v4_ z0] hC [pq h8] ?_
     rcases bC (x2) with h13 | h13
     ·replace h := cT h13 h
      obtain ⟨y14, h15, h⟩ := bE h
      obtain ⟨y16, h17, h⟩ := bE h
      replace h := sI h
      subst h
      exact wr lv189s1 25 [true] [pr q120 h15, pu q120 h15 h17] [] [.tmp 6] 5 [0, 1, 2, 3, 4, 6, 7, 8, 9] hC [pq h13]
     ·replace h := cF h13 h
      cases h
    ·replace h := cF h8 h
     cases h
theorem e189s1 : EN 189 := en Tryz.func189
theorem k81s2 (x0 : plant_runner) (x1 : api_Power) (r : plant_runner) (h : F81s2 x0 x1 = some r) : CO 81 [.d (.o 0 0), .agg [.os 9, .os 10, .os 11, .os 12]] (.box 100 (I x0.Plant.Time :: .os 1 :: .os 2 :: .os 3 :: .os 4 :: .os 5 :: .os 6 :: zb x0.board [.os 7, .os 8]) :: zp x0.Plant.Power (v5_ x0.Plant.Rosters :: v1_ x0.Plant.Events :: v1_ x0.events :: v7_ x0.states :: zp x1 [])) (.tup []) (.box 100 (I r.Plant.Time :: .os 1 :: .os 2 :: .os 3 :: .os 4 :: .os 5 :: .os 6 :: zb r.board [.os 7, .os 13]) :: zp r.Plant.Power (v5_ r.Plant.Rosters :: v1_ r.Plant.Events :: v1_ r.events :: .non :: zp x1 [v7_ r.states])) := by
 unfold F81s2 at h
 refine co 15 Tryz.func81 fun C hC => ?_
 obtain ⟨y3, h4, h⟩ := bE h
 obtain ⟨y5, h6, h⟩ := bE h
 replace h := sI h
 subst h
 exact wf [0, 1, 3] 23 [] [⟨.call 116 [.agg [.os 0, .os 1, .os 2, .os 3]] (zp x1 []) (.agg (d36 y3)) (zp x1 [.non, .non, .non, .non]) [9, 10, 11, 12], ⟨e116, (CK.frzAll [4, 5, 6, 7] (show CO 116 [.agg [.os 0, .os 1, .os 2, .os 3]] (zp x1 []) (.agg [.os 4, .os 5, .os 6, .os 7]) (zp x1 (zp y3 [])) from ((k116 x1 _ h4).lend (by kernel_rfl) (by kernel_rfl) (by kernel_rfl) ⟨fS (fun _ => rfl), fS (fun _ => rfl), fS (fun _ => rfl), fS (fun _ => rfl), trivial⟩ (by kernel_rfl) (by kernel_rfl))) (by kernel_rfl))⟩⟩, pa q36 4 h6] [] [] 13 [0, 1, 2, 3, 4, 5, 6, 7, 8, 9, 10, 11, 12, 18] hC []
theorem e81s2 : EN 81 := en Tryz.func81
theorem k232s1 (x0 : List Int) (x1c0 : api_Board) (r : api_Board) (h : F232s1 x0 x1c0 = some r) : CO 232 [.d (.os 0), .d (.fn (.func 233) [] [.o 1 0])] [v0_ x0, .box 29 (d29 x1c0)] (.tup []) [v0_ x0, .box 29 (d29 r)] := by
 unfold F232s1 at h
 refine co 9 Tryz.func232 fun C hC => ?_
 obtain ⟨y1, h2, h⟩ := bE h
 replace h := sI h
 subst h
 exact wf [0, 1] 21 [] [pl pI x0, pc e242s1 (k242s1 x0 (ln x0) x1c0 _ h2) [0, 1]] [] [] 2 [0, 1] hC []
theorem e232s1 : EN 232 := en Tryz.func232
theorem k209s0 (x0 : Int) (x1 : api_Island) (r : Bool) (h : F209s0 x0 x1 = some r) : CO 209 [.d (I x0), .d (.ip [.s (x1.Buses.map pI), .s (x1.Sources.map pI), .s (x1.Consumers.map pI)])] [] (.d (Bo r)) [] := by
 unfold F209s0 at h
 refine co 9 Tryz.func209 fun C hC => ?_
 obtain ⟨y1, h2, h⟩ := bE h
 replace h := sI h
 subst h
 exact wr [0, 1, 3] 25 [] [pc e190 (k190 x1.Consumers x0 _ h2) []] [] [.tmp 3] 0 [] hC []
theorem e209s0 : EN 209 := en Tryz.func209
theorem k180 (x0 : api_Board) (x1 : Int) (r : Int) (h : F180 x0 x1 = some r) : CO 180 [.agg (d29 x0), .d (I x1)] [] (.d (I r)) [] := by
 unfold F180 at h
 refine co 9 Tryz.func180 fun C hC => ?_
 obtain ⟨y1, h2, h⟩ := bE h
 replace h := sI h
 subst h
 exact wr n5_ 25 [] [pc e218s3 (k218s3 x0.Breakers x1 _ h2) [1]] [] [.tmp 4] 0 [] hC []
theorem e180 : EN 180 := en Tryz.func180
theorem k81s3 (x0 : plant_runner) (x1 : api_Power) (r : plant_runner) (h : F81s3 x0 x1 = some r) : CO 81 [.d (.o 0 0), .agg [.os 1, .os 2, .os 3, .os 4]] (.box 100 (I x0.Plant.Time :: .os 1 :: .os 2 :: .os 3 :: .os 4 :: .os 5 :: .os 6 :: zb x0.board [.os 7, .os 8]) :: zp x0.Plant.Power [v5_ x0.Plant.Rosters, v1_ x0.Plant.Events, v1_ x0.events, v7_ x0.states]) (.tup []) (.box 100 (I r.Plant.Time :: .os 1 :: .os 2 :: .os 3 :: .os 4 :: .os 5 :: .os 6 :: zb r.board [.os 7, .os 9]) :: zp r.Plant.Power [v5_ r.Plant.Rosters, v1_ r.Plant.Events, v1_ r.events, .non, v7_ r.states]) := by
 unfold F81s3 at h
 refine co 15 Tryz.func81 fun C hC => ?_
 obtain ⟨y3, h4, h⟩ := bE h
 obtain ⟨y5, h6, h⟩ := bE h
 replace h := sI h
 subst h
 exact wf [0, 1, 3] 23 [] [⟨.call 116 [.agg [.os 0, .os 1, .os 2, .os 3]] (zp x0.Plant.Power []) (.agg (d36 y3)) (zp x0.Plant.Power [.non, .non, .non, .non]) [1, 2, 3, 4], ⟨e116, (CK.frzAll [4, 5, 6, 7] (show CO 116 [.agg [.os 0, .os 1, .os 2, .os 3]] (zp x0.Plant.Power []) (.agg [.os 4, .os 5, .os 6, .os 7]) (zp x0.Plant.Power (zp y3 [])) from ((k116 x0.Plant.Power _ h4).lend (by kernel_rfl) (by kernel_rfl) (by kernel_rfl) ⟨fS (fun _ => rfl), fS (fun _ => rfl), fS (fun _ => rfl), fS (fun _ => rfl), trivial⟩ (by kernel_rfl) (by kernel_rfl))) (by kernel_rfl))⟩⟩, pa q36 4 h6] [] [] 9 [0, 1, 2, 3, 4, 5, 6, 7, 8, 14] hC []
theorem e81s3 : EN 81 := en Tryz.func81
theorem k88s0 (x0 : List api_Island) (r : Bool) (h : F88s0 x0 = some r) : CO 88 [.d (DS q84 x0), .d (.fn (.func 90) [] [])] [] (.d (Bo r)) [] := by
 unfold F88s0 at h
 refine co 9 Tryz.func88 fun C hC => ?_
 obtain ⟨y1, h2, h⟩ := bE h
 replace h := sI h
 subst h
 exact wr [0, 1, 4] 25 [] [pc e141s1 (k141s1 x0 _ h2) []] [] [.tmp 4] 0 [] hC []
theorem e88s0 : EN 88 := en Tryz.func88
def lv29 : List Nat := [0, 2, 3, 4, 5, 6, 7, 8, 9, 10, 11, 24, 29, 47, 60, 96, 121, 155]
def st29_0  (z0 : Sg1) : St := [(0, dO 0 0), (2, dO 1 0), (3, dO 2 0), (4, dI z0.1)]
def R29_0 (y1 : Int × dynposmake_Src) (y3 : Int × dynposmake_Src) (y5 : Int × dynposmake_Src) (z0 : Sg1) : List Res := [.box 90 [DS pI z0.2.1, I z0.2.2.1], .box 29 [I 0, .os 3, .os 4, .os 5, I 0, I 0], .box 29 [I y1.1, .os 6, .os 7, .os 8, I y3.1, I y5.1], v9_ ([] : List api_Breaker), v10_ ([] : List api_Source), v11_ ([] : List api_Consumer), v9_ (g3z_ z0), v10_ ([] : List api_Source), v11_ ([] : List api_Consumer)]
def sa29_0  (z0 : Sg1) : St := [(0, dO 0 0), (2, dO 1 0), (3, dO 2 0)]
def Ra29_0 (y1 : Int × dynposmake_Src) (y3 : Int × dynposmake_Src) (y5 : Int × dynposmake_Src) (z0 : Sg1) : List Res := [.box 90 [DS pI z0.2.1, I z0.2.2.1], .box 29 [I 0, .os 3, .os 4, .os 5, I 0, I 0], .box 29 [I y1.1, .os 6, .os 7, .os 8, I y3.1, I y5.1], v9_ ([] : List api_Breaker), v10_ ([] : List api_Source), v11_ ([] : List api_Consumer), v9_ (g3z_ z0), v10_ ([] : List api_Source), v11_ ([] : List api_Consumer)]
def sa29_1  (z1 : (List api_Breaker)) : St := [(0, dO 0 0), (2, dO 1 0), (3, dO 2 0)]
def Ra29_1 (y1 : Int × dynposmake_Src) (y3 : Int × dynposmake_Src) (y5 : Int × dynposmake_Src) (y15 : Int × dynposmake_Src) (z1 : (List api_Breaker)) : List Res := [.box 90 (d90 y15.2), .box 29 [I 0, .os 3, .os 4, .os 5, I 0, I 0], .box 29 [I y1.1, .os 6, .os 7, .os 8, I y3.1, I y5.1], v9_ ([] : List api_Breaker), v10_ ([] : List api_Source), v11_ ([] : List api_Consumer), v9_ z1, v10_ ([] : List api_Source), v11_ ([] : List api_Consumer)]
def st29_2  (z2 : Sg3) : St := [(0, dO 0 0), (2, dO 1 0), (3, dO 2 0), (5, dI z2.1)]
def R29_2 (y1 : Int × dynposmake_Src) (y3 : Int × dynposmake_Src) (y5 : Int × dynposmake_Src) (z2 : Sg3) : List Res := [.box 90 [DS pI z2.2.1, I z2.2.2.1], .box 29 [I 0, .os 3, .os 4, .os 5, I 0, I 0], .box 29 [I y1.1, .os 6, .os 7, .os 8, I y3.1, I y5.1], v9_ ([] : List api_Breaker), v10_ ([] : List api_Source), v11_ ([] : List api_Consumer), v9_ (g3_ z2), v10_ (g4z_ z2), v11_ ([] : List api_Consumer)]
def sa29_2  (z2 : Sg3) : St := [(0, dO 0 0), (2, dO 1 0), (3, dO 2 0)]
def Ra29_2 (y1 : Int × dynposmake_Src) (y3 : Int × dynposmake_Src) (y5 : Int × dynposmake_Src) (z2 : Sg3) : List Res := [.box 90 [DS pI z2.2.1, I z2.2.2.1], .box 29 [I 0, .os 3, .os 4, .os 5, I 0, I 0], .box 29 [I y1.1, .os 6, .os 7, .os 8, I y3.1, I y5.1], v9_ ([] : List api_Breaker), v10_ ([] : List api_Source), v11_ ([] : List api_Consumer), v9_ (g3_ z2), v10_ (g4z_ z2), v11_ ([] : List api_Consumer)]
def st29_3  (z3 : Sg2) : St := [(0, dO 0 0), (2, dO 1 0), (3, dO 2 0), (7, dI z3.1)]
def R29_3 (y1 : Int × dynposmake_Src) (y3 : Int × dynposmake_Src) (y5 : Int × dynposmake_Src) (z2 : Sg3) (z3 : Sg2) : List Res := [.box 90 [DS pI z3.2.1, I z3.2.2.1], .box 29 [I 0, .os 3, .os 4, .os 5, I 0, I 0], .box 29 [I y1.1, .os 6, .os 7, .os 8, I y3.1, I y5.1], v9_ ([] : List api_Breaker), v10_ ([] : List api_Source), v11_ ([] : List api_Consumer), v9_ (g3_ z3), v10_ (g4z_ z2), v11_ (g4z_ z3)]
def sa29_3  (z3 : Sg2) : St := [(2, dO 1 0), (3, dO 2 0)]
def Ra29_3 (y1 : Int × dynposmake_Src) (y3 : Int × dynposmake_Src) (y5 : Int × dynposmake_Src) (z2 : Sg3) (z3 : Sg2) : List Res := [.box 90 [DS pI z3.2.1, I z3.2.2.1], .box 29 [I 0, .os 3, .os 4, .os 5, I 0, I 0], .box 29 [I y1.1, .os 6, .os 7, .os 8, I y3.1, I y5.1], v9_ ([] : List api_Breaker), v10_ ([] : List api_Source), v11_ ([] : List api_Consumer), v9_ (g3_ z3), v10_ (g4z_ z2), v11_ (g4z_ z3)]
def sa29_4 (z3 : Sg2) (z4 : (List api_Breaker)) : St := [(0, dO 0 0), (2, dO 1 0), (3, dO 2 0), (7, dI z3.1), (8, dI (ln (g4z_ z3)))]
def Ra29_4 (y1 : Int × dynposmake_Src) (y3 : Int × dynposmake_Src) (y5 : Int × dynposmake_Src) (z2 : Sg3) (z3 : Sg2) (y42 : Int × dynposmake_Src) (z4 : (List api_Breaker)) : List Res := [.box 90 (d90 y42.2), .box 29 [I 0, .os 3, .os 4, .os 5, I 0, I 0], .box 29 [I y1.1, .os 8, .os 6, .os 7, I y3.1, I y5.1], v9_ ([] : List api_Breaker), v10_ ([] : List api_Source), v11_ ([] : List api_Consumer), v10_ (g4z_ z2), v11_ (g4z_ z3), v9_ z4]
set_option maxHeartbeats 4000000 in
theorem k29 (x0 : dynposmake_Src) (r : api_Board × dynposmake_Src) (h : F29 x0 = some r) : CO 29 [.d (.o 0 0)] [.box 90 (d90 x0)] (.agg [I r.1.Buses, .os 1, .os 2, .os 3, I r.1.Phase, I r.1.Frequency]) (.box 90 (d90 r.2) :: zs r.1 []) := by
 unfold F29 at h
 refine co 168 Tryz.func29 fun C hC => ?_
 obtain ⟨y1, h2, h⟩ := bE h
 obtain ⟨y3, h4, h⟩ := bE h
 obtain ⟨y5, h6, h⟩ := bE h
 refine ws lv29 28 [] [pc e78 (k78 x0 1 4 _ h2) [0], pc e40 (k40 y1.2 [0, 50, 200, 1800] _ h4) [0], pc e40 (k40 y3.2 [0, 10, 50] _ h6) [0]] [.ownb 1 1 147 3, .ownb 1 2 139 3, .ownb 1 3 65 5, .ownb 2 1 147 3, .ownb 2 2 139 3, .ownb 2 3 65 5] 1 n9_ (st29_0 (1, y5.2.L, y5.2.At, ([] : List api_Breaker))) (R29_0 y1 y3 y5 (1, y5.2.L, y5.2.At, ([] : List api_Breaker))) hC [] ?_
 obtain ⟨w0, hm0, hret0, hnext0⟩ := aIn h
 clear h
 refine wc w0 (sa29_0) (Ra29_0 y1 y3 y5) ?_ fun z0 hs0 => ?_
 ·refine wb ?_
  refine wW (by kernel_rfl) (F29_l0 y1) (st29_0) (R29_0 y1 y3 y5) w0 1152921504606846976 (1, y5.2.L, y5.2.At, ([] : List api_Breaker)) hm0 rfl rfl fun z0 w0b h hb0 hr0 => ?_
  unfold F29_l0 at h
  rcases bC (decide (z0.1 < y1.1)) with h7 | h7
  ·replace h := cT h7 h
   obtain ⟨y8, h9, h⟩ := bE h
   rcases bC (decide (y8.1 < 5)) with h10 | h10
   ·replace h := cT h10 h
    obtain ⟨y11, h12, h⟩ := bE h
    obtain ⟨y13, h14, h⟩ := bE h
    exact wx w0b (st29_0) (R29_0 y1 y3 y5) lv29 34 [true, true] [pc e32 (k32 (⟨z0.2.1, z0.2.2.1⟩ : dynposmake_Src) 6 _ h9) [0], pc e32 (k32 y8.2 z0.1 _ h12) [0], pa q147 3 h14] [] 1 [0, 1, 2, 3, 4, 5, 9, 7, 8] (w64 (z0.1 + 1), y11.2.L, y11.2.At, y13) hC [pq h7, pq h10] (sI h).symm
   ·replace h := cF h10 h
    exact wx w0b (st29_0) (R29_0 y1 y3 y5) lv29 34 [true, false] [pc e32 (k32 (⟨z0.2.1, z0.2.2.1⟩ : dynposmake_Src) 6 _ h9) [0]] [] 1 n9_ (w64 (z0.1 + 1), y8.2.L, y8.2.At, (g3z_ z0)) hC [pq h7, pq h10] (sI h).symm
  ·replace h := cF h7 h
   exact wx w0 (sa29_0) (Ra29_0 y1 y3 y5) lv29 26 [false] [] [] 1 n9_ (z0.1, z0.2.1, z0.2.2.1, (g3z_ z0)) hC [pq h7] (hb0 _ (sI h).symm)
 ·have h := hnext0 _ hs0
  obtain ⟨y15, h16, h⟩ := bE h
  refine ws lv29 24 [] [⟨.whenR [(decide (y1.1 > 2), true)] (.call 32 [dO 0 0, dI 2] [.box 90 [DS pI z0.2.1, I z0.2.2.1]] (dI y15.1) [.box 90 (d90 y15.2)] [0]), ⟨fun hg => ⟨e32, (k32 (⟨z0.2.1, z0.2.2.1⟩ : dynposmake_Src) 2 _ (gg h16 hg))⟩, fun hg => by have e := guardO_not h16 hg; subst e; rfl⟩⟩] [] 1 n9_ [(0, dO 0 0), (2, dO 1 0), (3, dO 2 0), (47, dB ((decide (y1.1 > 2)) && (y15.1 == 1)))] [.box 90 (d90 y15.2), .box 29 [I 0, .os 3, .os 4, .os 5, I 0, I 0], .box 29 [I y1.1, .os 6, .os 7, .os 8, I y3.1, I y5.1], v9_ ([] : List api_Breaker), v10_ ([] : List api_Source), v11_ ([] : List api_Consumer), v9_ (g3z_ z0), v10_ ([] : List api_Source), v11_ ([] : List api_Consumer)] hC [] ?_
  obtain ⟨w1, h, hret1, hnext1⟩ := aIn h
  refine wc w1 (sa29_1) (Ra29_1 y1 y3 y5 y15) ?_ fun z1 hs1 => ?_
  ·unfold F29_m1 at h
   rcases bC (((decide (y1.1 > 2)) && (y15.1 == 1))) with h17 | h17
   ·replace h := cT h17 h
    obtain ⟨y18, h19, h⟩ := bE h
    exact wx w1 (sa29_1) (Ra29_1 y1 y3 y5 y15) lv29 23 [true] [pa q147 3 h19] [] 1 [0, 1, 2, 3, 4, 5, 9, 7, 8] y18 hC [pq h17] (sI h).symm
   ·replace h := cF h17 h
    exact wx w1 (sa29_1) (Ra29_1 y1 y3 y5 y15) lv29 23 [false] [] [] 1 n9_ (g3z_ z0) hC [pq h17] (sI h).symm
  ·clear h; have h := hnext1 _ hs1
   obtain ⟨y20, h21, h⟩ := bE h
   refine ws lv29 24 [] [pc e32 (k32 y15.2 5 _ h21) [0]] [] 1 n9_ (st29_2 (y20.1, y20.2.L, y20.2.At, z1, ([] : List api_Source))) (R29_2 y1 y3 y5 (y20.1, y20.2.L, y20.2.At, z1, ([] : List api_Source))) hC [] ?_
   obtain ⟨w2, hm2, hret2, hnext2⟩ := aIn h
   clear h
   refine wc w2 (sa29_2) (Ra29_2 y1 y3 y5) ?_ fun z2 hs2 => ?_
   ·refine wb ?_
    refine wW (by kernel_rfl) (F29_l2 y1) (st29_2) (R29_2 y1 y3 y5) w2 1152921504606846976 (y20.1, y20.2.L, y20.2.At, z1, ([] : List api_Source)) hm2 rfl rfl fun z2 w2b h hb2 hr2 => ?_
    unfold F29_l2 at h
    rcases bC (decide (z2.1 > 0)) with h22 | h22
    ·replace h := cT h22 h
     obtain ⟨y23, h24, h⟩ := bE h
     obtain ⟨y25, h26, h⟩ := bE h
     obtain ⟨y27, h28, h⟩ := bE h
     obtain ⟨y29, h30, h⟩ := bE h
     obtain ⟨y31, h32, h⟩ := bE h
     obtain ⟨y33, h34, h⟩ := bE h
     exact wx w2b (st29_2) (R29_2 y1 y3 y5) lv29 35 [true] [pc e32 (k32 (⟨z2.2.1, z2.2.2.1⟩ : dynposmake_Src) y1.1 _ h24) [0], pl q139 (g4z_ z2), pa q147 3 h26, pc e40 (k40 y23.2 [10, 50, 100] _ h28) [0], pc e40 (k40 y27.2 [0, 5, y27.1] _ h30) [0], pc e40 (k40 y29.2 [0, 1, 3] _ h32) [0], pa q139 3 h34] [] 1 [0, 1, 2, 3, 4, 5, 9, 10, 8] (w64 (z2.1 - 1), y31.2.L, y31.2.At, y25, y33) hC [pq h22] (sI h).symm
    ·replace h := cF h22 h
     exact wx w2 (sa29_2) (Ra29_2 y1 y3 y5) lv29 26 [false] [] [] 1 n9_ (z2.1, z2.2.1, z2.2.2.1, (g3_ z2), (g4z_ z2)) hC [pq h22] (hb2 _ (sI h).symm)
   ·have h := hnext2 _ hs2
    obtain ⟨y35, h36, h⟩ := bE h
    refine ws lv29 24 [] [pc e32 (k32 (⟨z2.2.1, z2.2.2.1⟩ : dynposmake_Src) 6 _ h36) [0]] [] 1 n9_ (st29_3 (y35.1, y35.2.L, y35.2.At, (g3_ z2), ([] : List api_Consumer))) (R29_3 y1 y3 y5 z2 (y35.1, y35.2.L, y35.2.At, (g3_ z2), ([] : List api_Consumer))) hC [] ?_
    obtain ⟨w3, hm3, hret3, hnext3⟩ := aIn h
    clear h
    refine wc w3 (sa29_3) (Ra29_3 y1 y3 y5 z2) ?_ fun z3 hs3 => ?_
    ·refine wb ?_
     refine wW (by kernel_rfl) (F29_l3 y1) (st29_3) (R29_3 y1 y3 y5 z2) w3 1152921504606846976 (y35.1, y35.2.L, y35.2.At, (g3_ z2), ([] : List api_Consumer)) hm3 rfl rfl fun z3 w3b h hb3 hr3 => ?_
     unfold F29_l3 at h
     rcases bC (decide (z3.1 > 0)) with h37 | h37
     ·replace h := cT h37 h
      obtain ⟨y38, h39, h⟩ := bE h
      obtain ⟨y40, h41, h⟩ := bE h
      obtain ⟨y42, h43, h⟩ := bE h
      refine ws lv29 37 [true] [pl q65 (g4z_ z3), pc e32 (k32 (⟨z3.2.1, z3.2.2.1⟩ : dynposmake_Src) y1.1 _ h39) [0], pa q147 3 h41, ⟨.whenR [(decide (y1.1 > 1), true)] (.call 32 [dO 0 0, dI 4] [.box 90 (d90 y38.2)] (dI y42.1) [.box 90 (d90 y42.2)] [0]), ⟨fun hg => ⟨e32, (k32 y38.2 4 _ (gg h43 hg))⟩, fun hg => by have e := guardO_not h43 hg; subst e; rfl⟩⟩] [] 1 [0, 1, 2, 3, 4, 5, 7, 8, 9] [(0, dO 0 0), (2, dO 1 0), (3, dO 2 0), (7, dI z3.1), (8, dI (ln (g4z_ z3))), (9, dI y38.1), (121, dB ((decide (y1.1 > 1)) && (y42.1 == 3)))] [.box 90 (d90 y42.2), .box 29 [I 0, .os 3, .os 4, .os 5, I 0, I 0], .box 29 [I y1.1, .os 8, .os 6, .os 7, I y3.1, I y5.1], v9_ ([] : List api_Breaker), v10_ ([] : List api_Source), v11_ ([] : List api_Consumer), v10_ (g4z_ z2), v11_ (g4z_ z3), v9_ y40] hC [pq h37] ?_
      obtain ⟨w4, h, hret4, hnext4⟩ := aIn h
      refine wc w4 (sa29_4 z3) (Ra29_4 y1 y3 y5 z2 z3 y42) ?_ fun z4 hs4 => ?_
      ·unfold F29_m4 at h
       rcases bC (((decide (y1.1 > 1)) && (y42.1 == 3))) with h44 | h44
       ·replace h := cT h44 h
        obtain ⟨u46, h45, h⟩ := bE h
        obtain ⟨y47, h48, h⟩ := bE h
        exact wx w4 (sa29_4 z3) (Ra29_4 y1 y3 y5 z2 z3 y42) lv29 23 [true] [⟨.nz y1.1, nz_get h45⟩, pa q147 3 h48] [] 1 [0, 1, 2, 3, 4, 5, 6, 7, 9] y47 hC [pq h44] (sI h).symm
       ·replace h := cF h44 h
        exact wx w4 (sa29_4 z3) (Ra29_4 y1 y3 y5 z2 z3 y42) lv29 23 [false] [] [] 1 n9_ y40 hC [pq h44] (sI h).symm
      ·clear h; have h := hnext4 _ hs4
       obtain ⟨y49, h50, h⟩ := bE h
       obtain ⟨y51, h52, h⟩ := bE h
       obtain ⟨y53, h54, h⟩ := bE h
       obtain ⟨y55, h56, h⟩ := bE h
       obtain ⟨y57, h58, h⟩ := bE h
       refine ws lv29 28 [] [pc e40 (k40 y42.2 [0, 5, 20, 40] _ h50) [0], ⟨.nz 2, nz_lit rfl⟩, pc e40 (k40 y49.2 [0, w64 (Int.tdiv y49.1 2), y49.1] _ h52) [0], pc e32 (k32 y51.2 3 _ h54) [0], pc e78 (k78 y53.2 (-1) 2 _ h56) [0], ⟨.whenR [(decide ((ln (g4z_ z3)) > 0), true)] (.call 32 [dO 0 0, dI 4] [.box 90 (d90 y55.2)] (dI y57.1) [.box 90 (d90 y57.2)] [0]), ⟨fun hg => ⟨e32, (k32 y55.2 4 _ (gg h58 hg))⟩, fun hg => by have e := guardO_not h58 hg; subst e; rfl⟩⟩] [.ownb 9 4 3 1] 1 n11_ [(0, dO 0 0), (2, dO 1 0), (3, dO 2 0), (7, dI z3.1), (8, dI (ln (g4z_ z3))), (11, dO 9 0), (155, dB (c29_2 z3 y57))] [.box 90 (d90 y57.2), .box 29 [I 0, .os 3, .os 4, .os 5, I 0, I 0], .box 29 [I y1.1, .os 8, .os 6, .os 7, I y3.1, I y5.1], v9_ ([] : List api_Breaker), v10_ ([] : List api_Source), v11_ ([] : List api_Consumer), v10_ (g4z_ z2), v11_ (g4z_ z3), v9_ z4, .box 65 [I y49.1, I y51.1, I y53.1, I y55.1, .os 10], v0_ ([] : List Int)] hC [] ?_
       rcases bC ((c29_2 z3 y57)) with h59 | h59
       ·replace h := cT h59 h
        obtain ⟨y60, h61, h⟩ := bE h
        obtain ⟨y62, h63, h⟩ := bE h
        exact wx w3b (st29_3) (R29_3 y1 y3 y5 z2) lv29 26 [true] [pc e32 (k32 y57.2 (ln (g4z_ z3)) _ h61) [0], pa q65 5 h63] [] 1 [0, 1, 2, 3, 4, 5, 8, 6, 11] (w64 (z3.1 - 1), y60.2.L, y60.2.At, z4, y62) hC [pq h59] (sI h).symm
       ·replace h := cF h59 h
        refine ws lv29 2 [false] [] [.frz 10] 1 n10_ [(0, dO 0 0), (2, dO 1 0), (3, dO 2 0), (7, dI z3.1), (11, dO 9 0)] [.box 90 (d90 y57.2), .box 29 [I 0, .os 3, .os 4, .os 5, I 0, I 0], .box 29 [I y1.1, .os 8, .os 6, .os 7, I y3.1, I y5.1], v9_ ([] : List api_Breaker), v10_ ([] : List api_Source), v11_ ([] : List api_Consumer), v10_ (g4z_ z2), v11_ (g4z_ z3), v9_ z4, .box 65 [I y49.1, I y51.1, I y53.1, I y55.1, DS pI ([] : List Int)]] hC [pq h59] ?_
        obtain ⟨y64, h65, h⟩ := bE h
        exact wx w3b (st29_3) (R29_3 y1 y3 y5 z2) lv29 24 [] [pa q65 5 h65] [] 1 [0, 1, 2, 3, 4, 5, 8, 6, 10] (w64 (z3.1 - 1), y57.2.L, y57.2.At, z4, y64) hC [] (sI h).symm
     ·replace h := cF h37 h
      exact wx w3 (sa29_3) (Ra29_3 y1 y3 y5 z2) lv29 26 [false] [] [] 1 n9_ (z3.1, z3.2.1, z3.2.2.1, (g3_ z3), (g4z_ z3)) hC [pq h37] (hb3 _ (sI h).symm)
    ·have h := hnext3 _ hs3
     replace h := sI h
     subst h
     exact wr lv29 23 [] [] [] [.cell 2 29] 1 [0, 6, 7, 8] hC []
theorem e29 : EN 29 := en Tryz.func29
theorem k30 (x0 : dynposmake_Src) (r : api_Table × dynposmake_Src) (h : F30 x0 = some r) : CO 30 [.d (.o 0 0)] [.box 90 (d90 x0)] (.agg (d31 r.1)) [.box 90 (d90 r.2)] := by
 unfold F30 at h
 refine co 13 Tryz.func30 fun C hC => ?_
 obtain ⟨y1, h2, h⟩ := bE h
 obtain ⟨y3, h4, h⟩ := bE h
 obtain ⟨y5, h6, h⟩ := bE h
 replace h := sI h
 subst h
 exact wr [0, 2] 25 [] [pc e40 (k40 x0 [60, 80, 100] _ h2) [0], pc e40 (k40 y1.2 [1, 30, 50] _ h4) [0], pc e40 (k40 y3.2 [0, 1, 3] _ h6) [0]] [] [.cell 2 31] 1 [0] hC []
theorem e30 : EN 30 := en Tryz.func30
end Go.Proofs.YthgnbpdjncbkfaaGreat
