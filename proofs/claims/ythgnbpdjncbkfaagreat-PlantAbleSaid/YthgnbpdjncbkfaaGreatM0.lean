import Derived.Test.YthgnbpdjncbkfaaGreatRows
import Derived.Test.YthgnbpdjncbkfaaGreatMo
import Derived.Test.YthgnbpdjncbkfaaGreatBw
set_option linter.unusedVariables false
namespace Go.Proofs.YthgnbpdjncbkfaaGreat
open Go.SL
abbrev v0_ (l : List Int) : Res := .sl 3 1 (l.map pI)
abbrev v1_ (l : List api_Event) : Res := .sl 51 5 (l.map q51)
abbrev v2_ (l : List api_Roster) : Res := .sl 130 2 (l.map q130)
abbrev v3_ (l : List Bool) : Res := .sl 4 1 (l.map pB)
abbrev v4_ (l : List api_Part) : Res := .sl 86 2 (l.map q86)
abbrev v5_ (l : List api_Running) : Res := .sl 120 4 (l.map q120)
abbrev v6_ (l : List api_Act) : Res := .sl 49 3 (l.map q49)
abbrev v7_ (l : List api_Power) : Res := .sl 36 4 (l.map q36)
abbrev v8_ (l : List api_Island) : Res := .sl 84 3 (l.map q84)
abbrev v9_ (l : List api_Breaker) : Res := .sl 147 3 (l.map q147)
abbrev v10_ (l : List api_Source) : Res := .sl 139 3 (l.map q139)
abbrev v11_ (l : List api_Consumer) : Res := .sl 65 5 (l.map q65)
abbrev v12_ (l : List api_Thruster) : Res := .sl 63 6 (l.map q63)
abbrev CO := CK Tryz.prog
abbrev g3z_ {α0 α1 α2 α3 : Type} (z : α0 × α1 × α2 × α3) : α3 := z.2.2.2
abbrev g3_ {α0 α1 α2 α3 α4 : Type} (z : α0 × α1 × α2 × α3 × α4) : α3 := z.2.2.2.1
abbrev g4z_ {α0 α1 α2 α3 α4 : Type} (z : α0 × α1 × α2 × α3 × α4) : α4 := z.2.2.2.2
abbrev g4_ {α0 α1 α2 α3 α4 α5 : Type} (z : α0 × α1 × α2 × α3 × α4 × α5) : α4 := z.2.2.2.2.1
abbrev g5_ {α0 α1 α2 α3 α4 α5 α6 : Type} (z : α0 × α1 × α2 × α3 × α4 × α5 × α6) : α5 := z.2.2.2.2.2.1
abbrev g6z_ {α0 α1 α2 α3 α4 α5 α6 : Type} (z : α0 × α1 × α2 × α3 × α4 × α5 × α6) : α6 := z.2.2.2.2.2.2
abbrev g6_ {α0 α1 α2 α3 α4 α5 α6 α7 : Type} (z : α0 × α1 × α2 × α3 × α4 × α5 × α6 × α7) : α6 := z.2.2.2.2.2.2.1
abbrev g7_ {α0 α1 α2 α3 α4 α5 α6 α7 α8 : Type} (z : α0 × α1 × α2 × α3 × α4 × α5 × α6 × α7 × α8) : α7 := z.2.2.2.2.2.2.2.1
abbrev g8_ {α0 α1 α2 α3 α4 α5 α6 α7 α8 α9 : Type} (z : α0 × α1 × α2 × α3 × α4 × α5 × α6 × α7 × α8 × α9) : α8 := z.2.2.2.2.2.2.2.2.1
abbrev g9_ {α0 α1 α2 α3 α4 α5 α6 α7 α8 α9 α10 : Type} (z : α0 × α1 × α2 × α3 × α4 × α5 × α6 × α7 × α8 × α9 × α10) : α9 := z.2.2.2.2.2.2.2.2.2.1
abbrev g10z_ {α0 α1 α2 α3 α4 α5 α6 α7 α8 α9 α10 : Type} (z : α0 × α1 × α2 × α3 × α4 × α5 × α6 × α7 × α8 × α9 × α10) : α10 := z.2.2.2.2.2.2.2.2.2.2
abbrev g10_ {α0 α1 α2 α3 α4 α5 α6 α7 α8 α9 α10 α11 : Type} (z : α0 × α1 × α2 × α3 × α4 × α5 × α6 × α7 × α8 × α9 × α10 × α11) : α10 := z.2.2.2.2.2.2.2.2.2.2.1
abbrev g11z_ {α0 α1 α2 α3 α4 α5 α6 α7 α8 α9 α10 α11 : Type} (z : α0 × α1 × α2 × α3 × α4 × α5 × α6 × α7 × α8 × α9 × α10 × α11) : α11 := z.2.2.2.2.2.2.2.2.2.2.2
abbrev g11_ {α0 α1 α2 α3 α4 α5 α6 α7 α8 α9 α10 α11 α12 : Type} (z : α0 × α1 × α2 × α3 × α4 × α5 × α6 × α7 × α8 × α9 × α10 × α11 × α12) : α11 := z.2.2.2.2.2.2.2.2.2.2.2.1
abbrev g12_ {α0 α1 α2 α3 α4 α5 α6 α7 α8 α9 α10 α11 α12 α13 : Type} (z : α0 × α1 × α2 × α3 × α4 × α5 × α6 × α7 × α8 × α9 × α10 × α11 × α12 × α13) : α12 := z.2.2.2.2.2.2.2.2.2.2.2.2.1
abbrev g13_ {α0 α1 α2 α3 α4 α5 α6 α7 α8 α9 α10 α11 α12 α13 α14 : Type} (z : α0 × α1 × α2 × α3 × α4 × α5 × α6 × α7 × α8 × α9 × α10 × α11 × α12 × α13 × α14) : α13 := z.2.2.2.2.2.2.2.2.2.2.2.2.2.1
abbrev g14z_ {α0 α1 α2 α3 α4 α5 α6 α7 α8 α9 α10 α11 α12 α13 α14 : Type} (z : α0 × α1 × α2 × α3 × α4 × α5 × α6 × α7 × α8 × α9 × α10 × α11 × α12 × α13 × α14) : α14 := z.2.2.2.2.2.2.2.2.2.2.2.2.2.2
abbrev g14_ {α0 α1 α2 α3 α4 α5 α6 α7 α8 α9 α10 α11 α12 α13 α14 α15 : Type} (z : α0 × α1 × α2 × α3 × α4 × α5 × α6 × α7 × α8 × α9 × α10 × α11 × α12 × α13 × α14 × α15) : α14 := z.2.2.2.2.2.2.2.2.2.2.2.2.2.2.1
abbrev g15z_ {α0 α1 α2 α3 α4 α5 α6 α7 α8 α9 α10 α11 α12 α13 α14 α15 : Type} (z : α0 × α1 × α2 × α3 × α4 × α5 × α6 × α7 × α8 × α9 × α10 × α11 × α12 × α13 × α14 × α15) : α15 := z.2.2.2.2.2.2.2.2.2.2.2.2.2.2.2
abbrev g15_ {α0 α1 α2 α3 α4 α5 α6 α7 α8 α9 α10 α11 α12 α13 α14 α15 α16 : Type} (z : α0 × α1 × α2 × α3 × α4 × α5 × α6 × α7 × α8 × α9 × α10 × α11 × α12 × α13 × α14 × α15 × α16) : α15 := z.2.2.2.2.2.2.2.2.2.2.2.2.2.2.2.1
abbrev g16z_ {α0 α1 α2 α3 α4 α5 α6 α7 α8 α9 α10 α11 α12 α13 α14 α15 α16 : Type} (z : α0 × α1 × α2 × α3 × α4 × α5 × α6 × α7 × α8 × α9 × α10 × α11 × α12 × α13 × α14 × α15 × α16) : α16 := z.2.2.2.2.2.2.2.2.2.2.2.2.2.2.2.2
theorem sI {α : Type} {a b : α} (h : some a = some b) : a = b := Option.some.inj h
abbrev zb (b : api_Board) (l : List D) : List D := I b.Buses :: DS q147 b.Breakers :: DS q139 b.Sources :: DS q65 b.Consumers :: I b.Phase :: I b.Frequency :: l
abbrev zp (p : api_Power) (l : List Res) : List Res := .sl 4 1 (p.Closed.map pB) :: .sl 120 4 (p.Sources.map q120) :: .sl 3 1 (p.Limits.map pI) :: .sl 86 2 (p.Broken.map q86) :: l
abbrev ze (l : List Res) : List Res := .sl 4 1 (([] : List Bool).map pB) :: .sl 120 4 (([] : List api_Running).map q120) :: .sl 3 1 (([] : List Int).map pI) :: .sl 86 2 (([] : List api_Part).map q86) :: l
abbrev zs (b : api_Board) (l : List Res) : List Res := .sl 147 3 (b.Breakers.map q147) :: .sl 139 3 (b.Sources.map q139) :: .sl 65 5 (b.Consumers.map q65) :: l
abbrev zt {α : Type} (b : api_Board) (r : α) : Int × List api_Breaker × List api_Source × List api_Consumer × Int × Int × α := (b.Buses, b.Breakers, b.Sources, b.Consumers, b.Phase, b.Frequency, r)
abbrev zu {α : Type} (p : api_Power) (r : α) : List Bool × List api_Running × List Int × List api_Part × α := (p.Closed, p.Sources, p.Limits, p.Broken, r)
abbrev n3_ : List Nat := [0, 1, 2]
abbrev n4_ : List Nat := [0, 1, 2, 3]
abbrev n5_ : List Nat := [0, 1, 2, 3, 4]
abbrev n6_ : List Nat := [0, 1, 2, 3, 4, 5]
abbrev n7_ : List Nat := [0, 1, 2, 3, 4, 5, 6]
abbrev n8_ : List Nat := [0, 1, 2, 3, 4, 5, 6, 7]
abbrev n9_ : List Nat := [0, 1, 2, 3, 4, 5, 6, 7, 8]
abbrev n10_ : List Nat := [0, 1, 2, 3, 4, 5, 6, 7, 8, 9]
abbrev n11_ : List Nat := [0, 1, 2, 3, 4, 5, 6, 7, 8, 9, 10]
abbrev n12_ : List Nat := [0, 1, 2, 3, 4, 5, 6, 7, 8, 9, 10, 11]
abbrev n13_ : List Nat := [0, 1, 2, 3, 4, 5, 6, 7, 8, 9, 10, 11, 12]
abbrev n14_ : List Nat := [0, 1, 2, 3, 4, 5, 6, 7, 8, 9, 10, 11, 12, 13]
abbrev n15_ : List Nat := [0, 1, 2, 3, 4, 5, 6, 7, 8, 9, 10, 11, 12, 13, 14]
abbrev n16_ : List Nat := [0, 1, 2, 3, 4, 5, 6, 7, 8, 9, 10, 11, 12, 13, 14, 15]
abbrev n19_ : List Nat := [0, 1, 2, 3, 4, 5, 6, 7, 8, 9, 10, 11, 12, 13, 14, 15, 16, 17, 18]
abbrev n20_ : List Nat := [0, 1, 2, 3, 4, 5, 6, 7, 8, 9, 10, 11, 12, 13, 14, 15, 16, 17, 18, 19]
abbrev n21_ : List Nat := [0, 1, 2, 3, 4, 5, 6, 7, 8, 9, 10, 11, 12, 13, 14, 15, 16, 17, 18, 19, 20]
abbrev n22_ : List Nat := [0, 1, 2, 3, 4, 5, 6, 7, 8, 9, 10, 11, 12, 13, 14, 15, 16, 17, 18, 19, 20, 21]
theorem mixed : Tryz.prog.follows .mixedOrders = true := by kernel_rfl
theorem ws (bs : List (Bool × Bool)) {ro : Option Nat} {n : Nat} {C : Ctx} {Q : Exit -> Act -> World -> Prop} {st : St} {R : List Res} {items : List It} (lv : List Nat) (fuel : Nat) (ds : List Bool) (cls : List Cl) (adj : List Adj) (k : Nat) (pi : List Nat) (st' : St) (R' : List Res) (hk : C.h.length <= k) (hok : AllOk Tryz.prog cls) (hbs : AllEq bs) (hW : WI ro Tryz.prog n C Q (skipTo fuel items ds) st' R') (h : wayStop Tryz.prog n lv fuel items st R ds cls adj k pi (keys st') = some (st', R', cls, bs) := by kernel_rfl) : WI ro Tryz.prog n C Q items st R := WI_stop mixed lv fuel ds cls adj k pi st' R' hk hok hbs h hW
theorem we (bs : List (Bool × Bool)) {ro : Option Nat} {n : Nat} {C : Ctx} {Q : Exit -> Act -> World -> Prop} {st : St} {R : List Res} {items : List It} {σ : Type} {φ : σ -> Prop} {st' : σ -> St} {R' : σ -> List Res} (lv : List Nat) (fuel : Nat) (ds : List Bool) (cls : List Cl) (adj : List Adj) (k : Nat) (pi : List Nat) (s : σ) (hk : C.h.length <= k) (hok : AllOk Tryz.prog cls) (hbs : AllEq bs) (h1 : φ s) (hi : hdK (skipTo fuel items ds) = Ex n C φ st' R' := by kernel_rfl) (h : wayStop Tryz.prog n lv fuel items st R ds cls adj k pi (keys (st' s)) = some (st' s, R' s, cls, bs) := by kernel_rfl) : WI ro Tryz.prog n C Q items st R := WI_end mixed lv fuel ds cls adj k pi s hk hok hbs hi h h1
theorem wx {σ : Type} (bs : List (Bool × Bool)) {τ : Type} (w : Ctl σ τ) (st' : σ -> St) (R' : σ -> List Res) {ro : Option Nat} {n : Nat} {C : Ctx} {Q : Exit -> Act -> World -> Prop} {st : St} {R : List Res} {items : List It} (lv : List Nat) (fuel : Nat) (ds : List Bool) (cls : List Cl) (adj : List Adj) (k : Nat) (pi : List Nat) (s : σ) (hk : C.h.length <= k) (hok : AllOk Tryz.prog cls) (hbs : AllEq bs) (h1 : w = .next s) (hi : hdK (skipTo fuel items ds) = Ex n C (fun s' => w = .next s') st' R' := by kernel_rfl) (h : wayStop Tryz.prog n lv fuel items st R ds cls adj k pi (keys (st' s)) = some (st' s, R' s, cls, bs) := by kernel_rfl) : WI ro Tryz.prog n C Q items st R := WI_end mixed lv fuel ds cls adj k pi s hk hok hbs hi h h1
theorem wc {ro : Option Nat} {n : Nat} {C : Ctx} {Q : Exit -> Act -> World -> Prop} {st : St} {R : List Res} {items : List It} {σ τ : Type} (w : Ctl σ τ) (st' : σ -> St) (R' : σ -> List Res) (h : WI ro Tryz.prog n C Q (.c (hdC items) :: .k (Ex n C (fun s => w = .next s) st' R') :: tlI items) st R) (hK : ∀ s, w = .next s -> WI ro Tryz.prog n C Q (tlI items) (st' s) (R' s)) (hi : isC items = true := by kernel_rfl) : WI ro Tryz.prog n C Q items st R := wC hi _ st' R' h hK
theorem wb {ro : Option Nat} {n : Nat} {C : Ctx} {Q : Exit -> Act -> World -> Prop} {st : St} {R : List Res} {items : List It} (h : WI ro Tryz.prog n C Q (.c (blkC items) :: .b (blkI items) :: tlI items) st R) (hi : isB items = true := by kernel_rfl) : WI ro Tryz.prog n C Q items st R := wB hi h
theorem co {f : FuncId} {fn : Func} {c : Code} {args : List AV} {res : AV} {R R2 : List Res} (n : Nat) (hf : Tryz.prog.funcs[f]? = some fn) (h : ∀ C : Ctx, C.h.length <= R.length -> WI none Tryz.prog n C.z (Post Tryz.prog fn C.z res R2) [.c c] (argSt 0 args) R) (hb : fn.body = some c := by rfl) (hn : fn.ntmps = n := by rfl) (hl : Nat.ble args.length n = true := by rfl) : CK Tryz.prog f args R res R2 := cOk n hf hb hn hl h
theorem wr (bs : List (Bool × Bool)) {ro : Option Nat} {n : Nat} {C : Ctx} {st : St} {R : List Res} {fn : Func} {res : AV} {R2 : List Res} {items : List It} (lv : List Nat) (fuel : Nat) (ds : List Bool) (cls : List Cl) (adj : List Adj) (results : List ResultVar) (k : Nat) (pi : List Nat) (hk : C.h.length <= k) (hok : AllOk Tryz.prog cls) (hbs : AllEq bs) (hf : fn.results.toList = results := by rfl) (h : wayRet Tryz.prog n lv fuel items st R ds cls adj results k pi = some (res, R2, cls, bs) := by kernel_rfl) : WI ro Tryz.prog n C.z (Post Tryz.prog fn C.z res R2) items st R := WI_ret mixed lv fuel ds cls adj results k pi hf hk hok hbs h
theorem wf (bs : List (Bool × Bool)) {ro : Option Nat} {n : Nat} {C : Ctx} {st : St} {R : List Res} {fn : Func} {res : AV} {R2 : List Res} {items : List It} (lv : List Nat) (fuel : Nat) (ds : List Bool) (cls : List Cl) (adj : List Adj) (results : List ResultVar) (k : Nat) (pi : List Nat) (hk : C.h.length <= k) (hok : AllOk Tryz.prog cls) (hbs : AllEq bs) (hf : fn.results.toList = results := by rfl) (hn : noIt (skipTo fuel items ds) = true := by kernel_rfl) (h : wayEnd Tryz.prog n lv fuel items st R ds cls adj results k pi = some (res, R2, cls, bs) := by kernel_rfl) : WI ro Tryz.prog n C.z (Post Tryz.prog fn C.z res R2) items st R := WI_endF mixed lv fuel ds cls adj results k pi hf hk hok hbs hn h
theorem en {f : FuncId} {fn : Func} (hf : Tryz.prog.funcs[f]? = some fn) (hb : fn.body.isNone = false := by kernel_rfl) (hn : (fn.name == "runtime.NumGoroutine") = false := by kernel_rfl) : En Tryz.prog f := Go.SL.enters_of hf hb hn
abbrev ln {α : Type} (l : List α) : Int := (l.length : Int)
abbrev dI (x : Int) : AV := .d (I x)
abbrev dB (x : Bool) : AV := .d (Bo x)
abbrev dO (a b : Nat) : AV := .d (.o a b)
abbrev dS (a : Nat) : AV := .d (.os a)
theorem k8 (x0 : List Int) (r : dynposmake_Src) (h : F8 x0 = some r) : CO 8 [.d (DS pI x0)] [] (.d (.o 0 0)) [.box 90 (d90 r)] := by
 unfold F8 at h
 refine co 10 Tryz.func8 fun C hC => ?_
 obtain ⟨y2, h1, h⟩ := bE h
 replace h := sI h
 subst h
 exact wr [] [0, 2] 25 [] [.len (ln (x0.map pI)) (ln x0), .cut (x0.map pI) 1 0 (min (ln x0) 600) (y2.map pI)] [] [.tmp 2] 0 [0] hC ⟨lM _ _, cut_get pI 1 (fun _ => rfl) h1, trivial⟩ trivial
def e8 := en Tryz.func8
theorem k80 (x0 : Int) (x1 : Int) (r : Int) (h : F80 x0 x1 = some r) : CO 80 [.d (I x0), .d (I x1)] [] (.d (I r)) [] := by
 unfold F80 at h
 refine co 14 Tryz.func80 fun C hC => ?_
 rcases bC (decide (x1 < 1)) with h1 | h1
 ·replace h := cT h1 h
  replace h := sI h
  subst h
  exact wr [(decide (x1 < 1), true)] [0, 1, 4, 6] 29 [true] [] [] [.tmp 4] 0 [] hC trivial ⟨h1, trivial⟩
 ·replace h := cF h1 h
  obtain ⟨u3, h2, h⟩ := bE h
  obtain ⟨u5, h4, h⟩ := bE h
  replace h := sI h
  subst h
  exact wr [(decide (x1 < 1), false)] [0, 1, 4, 6] 30 [false] [.nz x1, .nz x1] [] [.tmp 4] 0 [] hC ⟨nz_get h2, nz_get h4, trivial⟩ ⟨h1, trivial⟩
def e80 := en Tryz.func80
theorem k112 (x0 : Int) (x1 : Int) (x2 : Int) (r : Bool) (h : F112 x0 x1 x2 = r) : CO 112 [.d (I x0), .d (I x1), .d (I x2)] [] (.d (Bo r)) [] := by
 unfold F112 at h
 refine co 15 Tryz.func112 fun C hC => ?_
 subst h
 exact wr [] [0, 1, 2, 6] 25 [] [] [] [.tmp 6] 0 [] hC trivial trivial
def e112 := en Tryz.func112
def lv77 : List Nat := [0, 1, 2, 3, 6, 7, 8, 9, 11, 12, 13, 14, 37]
def st77_0 (x0 : api_Board) (x1 : Int) (x2 : Int) (n0 : Nat) (z0 : (List Int)) : St := [(1, dI x1), (2, dI x2), (6, .d (DS pI [])), (7, dS 0), (11, .d (DS q147 x0.Breakers)), (12, dI (ln x0.Breakers)), (13, dI (cnt 0 n0))]
def R77_0  (n0 : Nat) (z0 : (List Int)) : List Res := [v0_ z0]
def sa77_0  (z0 : (List Int)) : St := [(6, .d (DS pI [])), (7, dS 0)]
def Ra77_0  (z0 : (List Int)) : List Res := [v0_ z0]
theorem k77 (x0 : api_Board) (x1 : Int) (x2 : Int) (r : (List Int)) (h : F77 x0 x1 x2 = some r) : CO 77 [.agg (d29 x0), .d (I x1), .d (I x2)] [] (.d (.os 0)) [v0_ r] := by
 unfold F77 at h
 refine co 44 Tryz.func77 fun C hC => ?_
 refine ws [] lv77 28 [] [.len (ln (x0.Breakers.map q147)) (ln x0.Breakers)] [.own 7 3 1] 0 [1] (st77_0 x0 x1 x2 0 ([] : List Int)) (R77_0 0 ([] : List Int)) hC ⟨lM _ _, trivial⟩ trivial ?_
 obtain ⟨w0, hm0, hret0, hnext0⟩ := aIn h
 clear h
 refine wc w0 (sa77_0) (Ra77_0) ?_ fun z0 hs0 => ?_
 ·refine wb ?_
  refine wL 11 rfl fun hl0 => ?_
  refine wF (by kernel_rfl) (F77_l0 x1 x2) (st77_0 x0 x1 x2) (R77_0) w0 x0.Breakers ([] : List Int) hm0 rfl rfl (fun z0 hn0 => ?_) fun n0 a0 z0 w0b hi0 hx0 h hb0 hr0 => ?_
  ·clear hm0
   exact wx [(decide ((cnt 0 x0.Breakers.length) < (ln x0.Breakers)), false)] w0 (sa77_0) (Ra77_0) lv77 26 [false] [] [] 0 [0] z0 hC trivial ⟨(cE hl0), trivial⟩ hn0
  ·unfold F77_l0 at h
   rcases bC ((c77_2 x1 x2 a0)) with h1 | h1
   ·replace h := cT h1 h
    obtain ⟨y2, h3, h⟩ := bE h
    exact wx [(decide ((cnt 0 n0) < (ln x0.Breakers)), true), ((c77_2 x1 x2 a0), true)] w0b (st77_0 x0 x1 x2 (n0 + 1)) (R77_0 (n0 + 1)) lv77 36 [true, true] [.row (x0.Breakers.map q147) (cnt 0 n0) (q147 a0), .app (z0.map pI) ([cnt 0 n0].map pI) 1 (((z0.map pI).length + ([cnt 0 n0].map pI).length) * (8 + 1)) (y2.map pI)] [] 0 [2] y2 hC ⟨(rC hx0 hl0), aG pI 1 (fun _ => rfl) h3, trivial⟩ ⟨(cL hi0 hl0), h1, trivial⟩ (sI h).symm
   ·replace h := cF h1 h
    exact wx [(decide ((cnt 0 n0) < (ln x0.Breakers)), true), ((c77_2 x1 x2 a0), false)] w0b (st77_0 x0 x1 x2 (n0 + 1)) (R77_0 (n0 + 1)) lv77 36 [true, false] [.row (x0.Breakers.map q147) (cnt 0 n0) (q147 a0)] [] 0 [0] z0 hC ⟨(rC hx0 hl0), trivial⟩ ⟨(cL hi0 hl0), h1, trivial⟩ (sI h).symm
 ·have h := hnext0 _ hs0
  replace h := sI h
  subst h
  exact wr [] lv77 23 [] [] [] [.tmp 6] 0 [0] hC trivial trivial
def e77 := en Tryz.func77
theorem k113 (x0 : api_Part) (x1 : api_Part) (r : Bool) (h : F113 x0 x1 = r) : CO 113 [.agg (d86 x0), .agg (d86 x1)] [] (.d (Bo r)) [] := by
 unfold F113 at h
 refine co 24 Tryz.func113 fun C hC => ?_
 subst h
 exact wr [] n5_ 25 [] [] [] [.tmp 4] 0 [] hC trivial trivial
def e113 := en Tryz.func113
theorem k65 (x0 : api_Power) (r : api_Power) (h : F65 x0 = some r) : CO 65 [.agg (d36 x0)] [] (.agg [.os 0, .os 1, .os 2, .os 3]) (zp r []) := by
 unfold F65 at h
 refine co 16 Tryz.func65 fun C hC => ?_
 obtain ⟨y1, h2, h⟩ := bE h
 obtain ⟨y3, h4, h⟩ := bE h
 obtain ⟨y5, h6, h⟩ := bE h
 obtain ⟨y7, h8, h⟩ := bE h
 replace h := sI h
 subst h
 exact wr [] n3_ 25 [] [.app [] (x0.Closed.map pB) 1 ((x0.Closed.map pB).length * (1 + 1)) (y1.map pB), .app [] (x0.Sources.map q120) 4 ((x0.Sources.map q120).length * (32 + 1)) (y3.map q120), .app [] (x0.Limits.map pI) 1 ((x0.Limits.map pI).length * (8 + 1)) (y5.map pI), .app [] (x0.Broken.map q86) 2 ((x0.Broken.map q86).length * (16 + 1)) (y7.map q86)] [] [.cell 2 36] 0 [3, 5, 7, 9] hC ⟨app_get0 pB 1 (fun _ => rfl) h2, app_get0 q120 4 (fun _ => rfl) h4, app_get0 pI 1 (fun _ => rfl) h6, app_get0 q86 2 (fun _ => rfl) h8, trivial⟩ trivial
def e65 := en Tryz.func65
def lv114 : List Nat := [0, 1, 2, 3, 4, 6, 7, 8, 9, 10, 11, 19, 20, 21, 23, 24, 25, 26, 53, 65, 66, 67, 72]
def st114_0 (y5 : List Bool) (n0 : Nat) (z0 : (List Bool)) : St := [(3, dO 0 0), (4, dO 1 0), (6, .d (DS pI [])), (7, dS 2), (19, dI (ln y5)), (20, dI (cnt 0 n0))]
def R114_0 (x0 : api_Board) (x1 : api_Power) (n0 : Nat) (z0 : (List Bool)) : List Res := [.box 29 (d29 x0), .box 36 (d36 x1), v3_ z0]
def sa114_0  (z0 : (List Bool)) : St := [(6, .d (DS pI [])), (7, dS 0)]
def Ra114_0  (z0 : (List Bool)) : List Res := [v3_ z0]
def st114_1 (x0 : api_Board) (y5 : List Bool) (n0 : Nat) (n1 : Nat) (z1 : (List Bool)) : St := [(3, dO 0 0), (4, dO 1 0), (6, .d (DS pI [])), (7, dS 2), (19, dI (ln y5)), (20, dI (cnt 0 n0)), (23, .d (DS q147 x0.Breakers)), (24, dI (ln x0.Breakers)), (25, dI (cnt 0 n1))]
def R114_1 (x0 : api_Board) (x1 : api_Power) (n1 : Nat) (z1 : (List Bool)) : List Res := [.box 29 (d29 x0), .box 36 (d36 x1), v3_ z1]
def sa114_1 (y5 : List Bool) (n0 : Nat) (z1 : (List Bool)) : St := [(3, dO 0 0), (4, dO 1 0), (6, .d (DS pI [])), (7, dS 2), (19, dI (ln y5)), (20, dI (cnt 0 n0))]
def Ra114_1 (x0 : api_Board) (x1 : api_Power) (z1 : (List Bool)) : List Res := [.box 29 (d29 x0), .box 36 (d36 x1), v3_ z1]
def st114_2 (z0 : (List Bool)) (n2 : Nat) (z2 : (List Int)) : St := [(6, .d (DS pI [])), (7, dS 0), (10, dS 1), (65, dI (ln z0)), (66, dI (cnt 0 n2))]
def R114_2 (z0 : (List Bool)) (n2 : Nat) (z2 : (List Int)) : List Res := [v3_ z0, v0_ z2]
def sa114_2  (z2 : (List Int)) : St := [(6, .d (DS pI [])), (10, dS 0)]
def Ra114_2  (z2 : (List Int)) : List Res := [v0_ z2]
theorem k114 (x0 : api_Board) (x1 : api_Power) (x2 : Int) (r : (List Int)) (h : F114 x0 x1 x2 = some r) : CO 114 [.agg (d29 x0), .agg (d36 x1), .d (I x2)] [] (.d (.os 0)) [v0_ r] := by
 unfold F114 at h
 refine co 79 Tryz.func114 fun C hC => ?_
 obtain ⟨y1, h2, h⟩ := bE h
 obtain ⟨y3, h4, h⟩ := bE h
 obtain ⟨y5, h6, h⟩ := bE h
 refine ws [] lv114 30 [] [.room (x0.Buses * (1 + 1)) (List.replicate (Int.toNat x0.Buses) (pB false)) (y1.map pB), .row (y1.map pB) x2 (pB y3), .upd (y1.map pB) (Int.toNat x2) (pB y3) (pB true) (y5.map pB), .len (ln (y5.map pB)) (ln y5)] [] 0 n3_ (st114_0 y5 0 y5) (R114_0 x0 x1 0 y5) hC ⟨make_get h2, rg h4, uG h4 h6, lM _ _, trivial⟩ trivial ?_
 obtain ⟨w0, hm0, hret0, hnext0⟩ := aIn h
 clear h
 refine wc w0 (sa114_0) (Ra114_0) ?_ fun z0 hs0 => ?_
 ·refine wb ?_
  refine wO 7 2 rfl rfl fun hl0 => ?_
  refine wF (by kernel_rfl) (F114_l0 x0 x1) (st114_0 y5) (R114_0 x0 x1) w0 y5 y5 hm0 rfl rfl (fun z0 hn0 => ?_) fun n0 a0 z0 w0b hi0 hx0 h hb0 hr0 => ?_
  ·clear hm0
   exact wx [(decide ((cnt 0 y5.length) < (ln y5)), false)] w0 (sa114_0) (Ra114_0) lv114 26 [false] [] [] 0 [2] z0 hC trivial ⟨(cE hl0), trivial⟩ hn0
  ·unfold F114_l0 at h
   refine ws [(decide ((cnt 0 n0) < (ln y5)), true)] lv114 30 [true] [.len (ln (x0.Breakers.map q147)) (ln x0.Breakers)] [] 0 n3_ (st114_1 x0 y5 n0 0 z0) (R114_1 x0 x1 0 z0) hC ⟨lM _ _, trivial⟩ ⟨(cL hi0 hl0), trivial⟩ ?_
   obtain ⟨w1, hm1, hret1, hnext1⟩ := aIn h
   clear h
   refine wc w1 (sa114_1 y5 n0) (Ra114_1 x0 x1) ?_ fun z1 hs1 => ?_
   ·refine wb ?_
    refine wL 23 rfl fun hl1 => ?_
    refine wF (by kernel_rfl) (F114_l1 x1) (st114_1 x0 y5 n0) (R114_1 x0 x1) w1 x0.Breakers z0 hm1 rfl rfl (fun z1 hn1 => ?_) fun n1 a1 z1 w1b hi1 hx1 h hb1 hr1 => ?_
    ·clear hm1
     exact wx [(decide ((cnt 0 x0.Breakers.length) < (ln x0.Breakers)), false)] w1 (sa114_1 y5 n0) (Ra114_1 x0 x1) lv114 26 [false] [] [] 0 n3_ z1 hC trivial ⟨(cE hl1), trivial⟩ hn1
    ·unfold F114_l1 at h
     obtain ⟨y7, h8, h⟩ := bE h
     obtain ⟨y9, h10, h⟩ := bE h
     obtain ⟨y11, h12, h⟩ := bE h
     refine ws [(decide ((cnt 0 n1) < (ln x0.Breakers)), true)] lv114 32 [true] [.row (x0.Breakers.map q147) (cnt 0 n1) (q147 a1), .when [((a1.Kind == 1), true)] (.row (x1.Closed.map pB) (cnt 0 n1) (pB y7)), .when [(((a1.Kind == 1) && y7), true)] (.row (z1.map pB) a1.A (pB y9)), .when [(((a1.Kind == 1) && y7), true)] (.row (z1.map pB) (((Int.toNat a1.A) : Nat) : Int) (pB y9)), .when [(((a1.Kind == 1) && y7), true), (y9, false)] (.row (z1.map pB) a1.B (pB y11)), .when [(((a1.Kind == 1) && y7), true), (y9, false)] (.row (z1.map pB) (((Int.toNat a1.B) : Nat) : Int) (pB y11))] [] 0 n4_ [(3, dO 0 0), (4, dO 1 0), (6, .d (DS pI [])), (7, dS 2), (9, dO 3 0), (19, dI (ln y5)), (20, dI (cnt 0 n0)), (23, .d (DS q147 x0.Breakers)), (24, dI (ln x0.Breakers)), (25, dI (cnt 0 n1)), (53, dB (c114_8 a1 y7 y9 y11))] [.box 29 (d29 x0), .box 36 (d36 x1), v3_ z1, .box 147 (d147 a1)] hC ⟨(rC hx1 hl1), fun hg => rg (gg h8 hg), fun hg => rg (gg h10 hg), fun hg => rN (gg h10 hg), fun hg => rg (gg h12 hg), fun hg => rN (gg h12 hg), trivial⟩ ⟨(cL hi1 hl1), trivial⟩ ?_
     rcases bC ((c114_8 a1 y7 y9 y11)) with h13 | h13
     ·replace h := cT h13 h
      obtain ⟨y14, h15, h⟩ := bE h
      obtain ⟨y16, h17, h⟩ := bE h
      obtain ⟨y18, h19, h⟩ := bE h
      obtain ⟨y20, h21, h⟩ := bE h
      exact wx [((c114_8 a1 y7 y9 y11), true)] w1b (st114_1 x0 y5 n0 (n1 + 1)) (R114_1 x0 x1 (n1 + 1)) lv114 25 [true] [.row (z1.map pB) a1.A (pB y14), .upd (z1.map pB) (Int.toNat a1.A) (pB y14) (pB true) (y16.map pB), .row (y16.map pB) a1.B (pB y18), .upd (y16.map pB) (Int.toNat a1.B) (pB y18) (pB true) (y20.map pB)] [] 0 n3_ y20 hC ⟨rg h15, uG h15 h17, rg h19, uG h19 h21, trivial⟩ ⟨h13, trivial⟩ (sI h).symm
     ·replace h := cF h13 h
      exact wx [((c114_8 a1 y7 y9 y11), false)] w1b (st114_1 x0 y5 n0 (n1 + 1)) (R114_1 x0 x1 (n1 + 1)) lv114 25 [false] [] [] 0 n3_ z1 hC trivial ⟨h13, trivial⟩ (sI h).symm
   ·have h := hnext1 _ hs1
    exact wx [] w0b (st114_0 y5 (n0 + 1)) (R114_0 x0 x1 (n0 + 1)) lv114 23 [] [] [] 0 n3_ z1 hC trivial trivial (sI h).symm
 ·have h := hnext0 _ hs0
  refine ws [] lv114 26 [] [.len (ln (z0.map pB)) (ln z0)] [.own 10 3 1] 0 [0, 1] (st114_2 z0 0 ([] : List Int)) (R114_2 z0 0 ([] : List Int)) hC ⟨lM _ _, trivial⟩ trivial ?_
  obtain ⟨w2, hm2, hret2, hnext2⟩ := aIn h
  clear h
  refine wc w2 (sa114_2) (Ra114_2) ?_ fun z2 hs2 => ?_
  ·refine wb ?_
   refine wO 7 0 rfl rfl fun hl2 => ?_
   refine wF (by kernel_rfl) F114_l2 (st114_2 z0) (R114_2 z0) w2 z0 ([] : List Int) hm2 rfl rfl (fun z2 hn2 => ?_) fun n2 a2 z2 w2b hi2 hx2 h hb2 hr2 => ?_
   ·clear hm2
    exact wx [(decide ((cnt 0 z0.length) < (ln z0)), false)] w2 (sa114_2) (Ra114_2) lv114 26 [false] [] [] 0 [1] z2 hC trivial ⟨(cE hl2), trivial⟩ hn2
   ·unfold F114_l2 at h
    rcases bC (a2) with h22 | h22
    ·replace h := cT h22 h
     obtain ⟨y23, h24, h⟩ := bE h
     exact wx [(decide ((cnt 0 n2) < (ln z0)), true), (a2, true)] w2b (st114_2 z0 (n2 + 1)) (R114_2 z0 (n2 + 1)) lv114 36 [true, true] [.row (z0.map pB) (cnt 0 n2) (pB a2), .row (z0.map pB) (((Int.toNat (cnt 0 n2)) : Nat) : Int) (pB a2), .app (z2.map pI) ([cnt 0 n2].map pI) 1 (((z2.map pI).length + ([cnt 0 n2].map pI).length) * (8 + 1)) (y23.map pI)] [] 0 [0, 2] y23 hC ⟨rg (gC hx2 hl2), rN (gC hx2 hl2), aG pI 1 (fun _ => rfl) h24, trivial⟩ ⟨(cL hi2 hl2), h22, trivial⟩ (sI h).symm
    ·replace h := cF h22 h
     exact wx [(decide ((cnt 0 n2) < (ln z0)), true), (a2, false)] w2b (st114_2 z0 (n2 + 1)) (R114_2 z0 (n2 + 1)) lv114 36 [true, false] [.row (z0.map pB) (cnt 0 n2) (pB a2), .row (z0.map pB) (((Int.toNat (cnt 0 n2)) : Nat) : Int) (pB a2)] [] 0 [0, 1] z2 hC ⟨rg (gC hx2 hl2), rN (gC hx2 hl2), trivial⟩ ⟨(cL hi2 hl2), h22, trivial⟩ (sI h).symm
  ·have h := hnext2 _ hs2
   replace h := sI h
   subst h
   exact wr [] lv114 23 [] [] [] [.tmp 6] 0 [0] hC trivial trivial
def e114 := en Tryz.func114
def lv55 : List Nat := [0, 1, 4, 6, 7, 8, 9, 10, 15]
def st55_0 (x0 : List Int) (x1 : Int) (n0 : Nat) (z0 : Unit) : St := [(1, dI x1), (4, dB false), (7, .d (DS pI x0)), (8, dI (ln x0)), (9, dI (cnt 0 n0))]
def R55_0  (n0 : Nat) (z0 : Unit) : List Res := []
def sa55_0  (z0 : Unit) : St := [(4, dB false)]
def Ra55_0  (z0 : Unit) : List Res := []
theorem k55 (x0 : List Int) (x1 : Int) (r : Bool) (h : F55 x0 x1 = some r) : CO 55 [.d (DS pI x0), .d (I x1)] [] (.d (Bo r)) [] := by
 unfold F55 at h
 refine co 17 Tryz.func55 fun C hC => ?_
 refine ws [] lv55 26 [] [.len (ln (x0.map pI)) (ln x0)] [] 0 [] (st55_0 x0 x1 0 ()) (R55_0 0 ()) hC ⟨lM _ _, trivial⟩ trivial ?_
 obtain ⟨w0, hm0, hret0, hnext0⟩ := aIn h
 clear h
 refine wc w0 (sa55_0) (Ra55_0) ?_ fun z0 hs0 => ?_
 ·refine wb ?_
  refine wL 7 rfl fun hl0 => ?_
  refine wF (by kernel_rfl) (F55_l0 x1) (st55_0 x0 x1) (R55_0) w0 x0 () hm0 rfl rfl (fun z0 hn0 => ?_) fun n0 a0 z0 w0b hi0 hx0 h hb0 hr0 => ?_
  ·clear hm0
   exact wx [(decide ((cnt 0 x0.length) < (ln x0)), false)] w0 (sa55_0) (Ra55_0) lv55 26 [false] [] [] 0 [] () hC trivial ⟨(cE hl0), trivial⟩ hn0
  ·unfold F55_l0 at h
   rcases bC ((a0 == x1)) with h1 | h1
   ·replace h := cT h1 h
    have hq := hret0 _ (hr0 _ (sI h).symm)
    replace hq := sI hq
    subst hq
    exact wr [(decide ((cnt 0 n0) < (ln x0)), true), ((a0 == x1), true)] lv55 35 [true, true] [.row (x0.map pI) (cnt 0 n0) (pI a0)] [] [.tmp 4] 0 [] hC ⟨(rC hx0 hl0), trivial⟩ ⟨(cL hi0 hl0), h1, trivial⟩
   ·replace h := cF h1 h
    exact wx [(decide ((cnt 0 n0) < (ln x0)), true), ((a0 == x1), false)] w0b (st55_0 x0 x1 (n0 + 1)) (R55_0 (n0 + 1)) lv55 36 [true, false] [.row (x0.map pI) (cnt 0 n0) (pI a0)] [] 0 [] () hC ⟨(rC hx0 hl0), trivial⟩ ⟨(cL hi0 hl0), h1, trivial⟩ (sI h).symm
 ·have h := hnext0 _ hs0
  replace h := sI h
  subst h
  exact wr [] lv55 23 [] [] [] [.tmp 4] 0 [] hC trivial trivial
def e55 := en Tryz.func55
theorem k148 (x0 : Int) (x1 : Int) (x2 : Int) (r : Bool) (h : F148 x0 x1 x2 = r) : CO 148 [.d (I x0), .d (I x1), .d (I x2)] [] (.d (Bo r)) [] := by
 unfold F148 at h
 refine co 15 Tryz.func148 fun C hC => ?_
 subst h
 exact wr [] [0, 1, 2, 6] 25 [] [] [] [.tmp 6] 0 [] hC trivial trivial
def e148 := en Tryz.func148
theorem k197 (x0 : Int) (r : Bool) (h : F197 x0 = r) : CO 197 [.d (I x0)] [] (.d (Bo r)) [] := by
 unfold F197 at h
 refine co 9 Tryz.func197 fun C hC => ?_
 subst h
 exact wr [] [0, 2] 25 [] [] [] [.tmp 2] 0 [] hC trivial trivial
def e197 := en Tryz.func197
theorem k229 (x0 : Int) (r : Int) (h : F229 x0 = r) : CO 229 [.d (I x0)] [] (.d (I r)) [] := by
 unfold F229 at h
 refine co 10 Tryz.func229 fun C hC => ?_
 rcases bC (decide ((Int.tmod x0 3600) < 0)) with h1 | h1
 ·replace h := cT h1 h
  subst h
  exact wr [(decide ((Int.tmod x0 3600) < 0), true)] [0, 2, 6] 32 [true] [.nz 3600] [] [.tmp 2] 0 [] hC ⟨nz_lit rfl, trivial⟩ ⟨h1, trivial⟩
 ·replace h := cF h1 h
  subst h
  exact wr [(decide ((Int.tmod x0 3600) < 0), false)] [0, 2, 6] 32 [false] [.nz 3600] [] [.tmp 2] 0 [] hC ⟨nz_lit rfl, trivial⟩ ⟨h1, trivial⟩
def e229 := en Tryz.func229
theorem k99 (x0 : Int) (x1 : Int) (x2 : Int) (r : Bool) (h : F99 x0 x1 x2 = r) : CO 99 [.d (I x0), .d (I x1), .d (I x2)] [] (.d (Bo r)) [] := by
 unfold F99 at h
 refine co 15 Tryz.func99 fun C hC => ?_
 subst h
 exact wr [] [0, 1, 2, 6] 25 [] [] [] [.tmp 6] 0 [] hC trivial trivial
def e99 := en Tryz.func99
def lv227 : List Nat := [0, 1, 4, 5, 7, 8, 9, 16]
def st227_0 (x0 : List Int) (x1 : Int) (n0 : Nat) (z0 : Unit) : St := [(0, .d (DS pI x0)), (1, dI x1), (4, dI 0), (7, dI (ln x0)), (8, dI (cnt 0 n0))]
def R227_0  (n0 : Nat) (z0 : Unit) : List Res := []
def sa227_0  (z0 : Unit) : St := [(4, dI 0)]
def Ra227_0  (z0 : Unit) : List Res := []
theorem k227 (x0 : List Int) (x1 : Int) (r : Int) (h : F227 x0 x1 = some r) : CO 227 [.d (DS pI x0), .d (I x1)] [] (.d (I r)) [] := by
 unfold F227 at h
 refine co 19 Tryz.func227 fun C hC => ?_
 refine ws [] lv227 26 [] [.len (ln (x0.map pI)) (ln x0)] [] 0 [] (st227_0 x0 x1 0 ()) (R227_0 0 ()) hC ⟨lM _ _, trivial⟩ trivial ?_
 obtain ⟨w0, hm0, hret0, hnext0⟩ := aIn h
 clear h
 refine wc w0 (sa227_0) (Ra227_0) ?_ fun z0 hs0 => ?_
 ·refine wb ?_
  refine wL 0 rfl fun hl0 => ?_
  refine wF (by kernel_rfl) (F227_l0 x1) (st227_0 x0 x1) (R227_0) w0 x0 () hm0 rfl rfl (fun z0 hn0 => ?_) fun n0 a0 z0 w0b hi0 hx0 h hb0 hr0 => ?_
  ·clear hm0
   exact wx [(decide ((cnt 0 x0.length) < (ln x0)), false)] w0 (sa227_0) (Ra227_0) lv227 26 [false] [] [] 0 [] () hC trivial ⟨(cE hl0), trivial⟩ hn0
  ·unfold F227_l0 at h
   rcases bC ((x1 == a0)) with h1 | h1
   ·replace h := cT h1 h
    have hq := hret0 _ (hr0 _ (sI h).symm)
    replace hq := sI hq
    subst hq
    exact wr [(decide ((cnt 0 n0) < (ln x0)), true), ((x1 == a0), true)] lv227 35 [true, true] [.row (x0.map pI) (cnt 0 n0) (pI a0)] [] [.tmp 4] 0 [] hC ⟨(rC hx0 hl0), trivial⟩ ⟨(cL hi0 hl0), h1, trivial⟩
   ·replace h := cF h1 h
    exact wx [(decide ((cnt 0 n0) < (ln x0)), true), ((x1 == a0), false)] w0b (st227_0 x0 x1 (n0 + 1)) (R227_0 (n0 + 1)) lv227 36 [true, false] [.row (x0.map pI) (cnt 0 n0) (pI a0)] [] 0 [] () hC ⟨(rC hx0 hl0), trivial⟩ ⟨(cL hi0 hl0), h1, trivial⟩ (sI h).symm
 ·have h := hnext0 _ hs0
  replace h := sI h
  subst h
  exact wr [] lv227 23 [] [] [] [.tmp 4] 0 [] hC trivial trivial
def e227 := en Tryz.func227
theorem k192 (x0 : List Int) (r : Bool) (h : F192 x0 = r) : CO 192 [.d (DS pI x0)] [] (.d (Bo r)) [] := by
 unfold F192 at h
 refine co 6 Tryz.func192 fun C hC => ?_
 subst h
 exact wr [] [0, 2] 25 [] [.len (ln (x0.map pI)) (ln x0)] [] [.tmp 2] 0 [] hC ⟨lM _ _, trivial⟩ trivial
def e192 := en Tryz.func192
def lv152 : List Nat := [0, 1, 2, 4, 5, 6, 11, 16, 20]
theorem k152 (x0 : api_Board) (x1 : Int) (r : Int) (h : F152 x0 x1 = r) : CO 152 [.agg (d29 x0), .d (I x1)] [] (.d (I r)) [] := by
 unfold F152 at h
 refine co 25 Tryz.func152 fun C hC => ?_
 rcases bC ((x1 == 1)) with h1 | h1
 ·replace h := cT h1 h
  subst h
  exact wr [((x1 == 1), true)] lv152 32 [true] [.len (ln (x0.Sources.map q139)) (ln x0.Sources)] [] [.tmp 4] 0 [] hC ⟨lM _ _, trivial⟩ ⟨h1, trivial⟩
 ·replace h := cF h1 h
  rcases bC ((x1 == 2)) with h2 | h2
  ·replace h := cT h2 h
   subst h
   exact wr [((x1 == 1), false), ((x1 == 2), true)] lv152 35 [false, true] [.len (ln (x0.Breakers.map q147)) (ln x0.Breakers)] [] [.tmp 4] 0 [] hC ⟨lM _ _, trivial⟩ ⟨h1, h2, trivial⟩
  ·replace h := cF h2 h
   rcases bC ((x1 == 3)) with h3 | h3
   ·replace h := cT h3 h
    subst h
    exact wr [((x1 == 1), false), ((x1 == 2), false), ((x1 == 3), true)] lv152 38 [false, false, true] [] [] [.tmp 4] 0 [] hC trivial ⟨h1, h2, h3, trivial⟩
   ·replace h := cF h3 h
    rcases bC ((x1 == 4)) with h4 | h4
    ·replace h := cT h4 h
     subst h
     exact wr [((x1 == 1), false), ((x1 == 2), false), ((x1 == 3), false), ((x1 == 4), true)] lv152 41 [false, false, false, true] [.len (ln (x0.Consumers.map q65)) (ln x0.Consumers)] [] [.tmp 4] 0 [] hC ⟨lM _ _, trivial⟩ ⟨h1, h2, h3, h4, trivial⟩
    ·replace h := cF h4 h
     subst h
     exact wr [((x1 == 1), false), ((x1 == 2), false), ((x1 == 3), false), ((x1 == 4), false)] lv152 43 [false, false, false, false] [] [] [.tmp 4] 0 [] hC trivial ⟨h1, h2, h3, h4, trivial⟩
def e152 := en Tryz.func152
theorem k199 (x0 : Int) (r : Bool) (h : F199 x0 = r) : CO 199 [.d (I x0)] [] (.d (Bo r)) [] := by
 unfold F199 at h
 refine co 6 Tryz.func199 fun C hC => ?_
 subst h
 exact wr [] [0, 2] 25 [] [] [] [.tmp 2] 0 [] hC trivial trivial
def e199 := en Tryz.func199
def lv153 : List Nat := [0, 2, 3, 5, 6, 7, 8, 9, 14]
def st153_0 (x0 : List Int) (n0 : Nat) (z0 : Unit) : St := [(2, dI 0), (3, dI 0), (6, .d (DS pI x0)), (7, dI (ln x0)), (8, dI (cnt 0 n0))]
def R153_0  (n0 : Nat) (z0 : Unit) : List Res := []
def sa153_0  (z0 : Unit) : St := [(2, dI 0), (3, dI 0)]
def Ra153_0  (z0 : Unit) : List Res := []
theorem k153 (x0 : List Int) (r : Int) (h : F153 x0 = some r) : CO 153 [.d (DS pI x0)] [] (.d (I r)) [] := by
 unfold F153 at h
 refine co 18 Tryz.func153 fun C hC => ?_
 refine ws [] lv153 28 [] [.len (ln (x0.map pI)) (ln x0)] [] 0 [] (st153_0 x0 0 ()) (R153_0 0 ()) hC ⟨lM _ _, trivial⟩ trivial ?_
 obtain ⟨w0, hm0, hret0, hnext0⟩ := aIn h
 clear h
 refine wc w0 (sa153_0) (Ra153_0) ?_ fun z0 hs0 => ?_
 ·refine wb ?_
  refine wL 6 rfl fun hl0 => ?_
  refine wF (by kernel_rfl) F153_l0 (st153_0 x0) (R153_0) w0 x0 () hm0 rfl rfl (fun z0 hn0 => ?_) fun n0 a0 z0 w0b hi0 hx0 h hb0 hr0 => ?_
  ·clear hm0
   exact wx [(decide ((cnt 0 x0.length) < (ln x0)), false)] w0 (sa153_0) (Ra153_0) lv153 26 [false] [] [] 0 [] () hC trivial ⟨(cE hl0), trivial⟩ hn0
  ·unfold F153_l0 at h
   rcases bC ((a0 != 0)) with h1 | h1
   ·replace h := cT h1 h
    have hq := hret0 _ (hr0 _ (sI h).symm)
    replace hq := sI hq
    subst hq
    exact wr [(decide ((cnt 0 n0) < (ln x0)), true), ((a0 != 0), true)] lv153 35 [true, true] [.row (x0.map pI) (cnt 0 n0) (pI a0)] [] [.tmp 2] 0 [] hC ⟨(rC hx0 hl0), trivial⟩ ⟨(cL hi0 hl0), h1, trivial⟩
   ·replace h := cF h1 h
    exact wx [(decide ((cnt 0 n0) < (ln x0)), true), ((a0 != 0), false)] w0b (st153_0 x0 (n0 + 1)) (R153_0 (n0 + 1)) lv153 36 [true, false] [.row (x0.map pI) (cnt 0 n0) (pI a0)] [] 0 [] () hC ⟨(rC hx0 hl0), trivial⟩ ⟨(cL hi0 hl0), h1, trivial⟩ (sI h).symm
 ·have h := hnext0 _ hs0
  replace h := sI h
  subst h
  exact wr [] lv153 23 [] [] [] [.tmp 2] 0 [] hC trivial trivial
def e153 := en Tryz.func153
def lv100 : List Nat := [0, 1, 2, 3, 4, 6, 7, 8, 9, 11, 12, 13, 14, 33]
def st100_0 (x0 : api_Board) (x2 : Int) (n0 : Nat) (z0 : Int) : St := [(2, dI x2), (4, dO 0 0), (6, dI 0), (7, dI z0), (11, .d (DS q147 x0.Breakers)), (12, dI (ln x0.Breakers)), (13, dI (cnt 0 n0))]
def R100_0 (x1 : api_Power) (n0 : Nat) (z0 : Int) : List Res := [.box 36 (d36 x1)]
def sa100_0  (z0 : Int) : St := [(6, dI 0), (7, dI z0)]
def Ra100_0  (z0 : Int) : List Res := []
theorem k100 (x0 : api_Board) (x1 : api_Power) (x2 : Int) (r : Int) (h : F100 x0 x1 x2 = some r) : CO 100 [.agg (d29 x0), .agg (d36 x1), .d (I x2)] [] (.d (I r)) [] := by
 unfold F100 at h
 refine co 38 Tryz.func100 fun C hC => ?_
 refine ws [] lv100 28 [] [.len (ln (x0.Breakers.map q147)) (ln x0.Breakers)] [] 0 [1] (st100_0 x0 x2 0 0) (R100_0 x1 0 0) hC ⟨lM _ _, trivial⟩ trivial ?_
 obtain ⟨w0, hm0, hret0, hnext0⟩ := aIn h
 clear h
 refine wc w0 (sa100_0) (Ra100_0) ?_ fun z0 hs0 => ?_
 ·refine wb ?_
  refine wL 11 rfl fun hl0 => ?_
  refine wF (by kernel_rfl) (F100_l0 x1 x2) (st100_0 x0 x2) (R100_0 x1) w0 x0.Breakers 0 hm0 rfl rfl (fun z0 hn0 => ?_) fun n0 a0 z0 w0b hi0 hx0 h hb0 hr0 => ?_
  ·clear hm0
   exact wx [(decide ((cnt 0 x0.Breakers.length) < (ln x0.Breakers)), false)] w0 (sa100_0) (Ra100_0) lv100 26 [false] [] [] 0 [] z0 hC trivial ⟨(cE hl0), trivial⟩ hn0
  ·unfold F100_l0 at h
   obtain ⟨y1, h2, h⟩ := bE h
   rcases bC ((c100_2 x2 a0 y1)) with h3 | h3
   ·replace h := cT h3 h
    exact wx [(decide ((cnt 0 n0) < (ln x0.Breakers)), true), ((c100_2 x2 a0 y1), true)] w0b (st100_0 x0 x2 (n0 + 1)) (R100_0 x1 (n0 + 1)) lv100 36 [true, true] [.row (x0.Breakers.map q147) (cnt 0 n0) (q147 a0), .when [(((a0.Kind == 3) && (a0.B == x2)), true)] (.row (x1.Closed.map pB) (cnt 0 n0) (pB y1))] [] 0 [0] (w64 (z0 + 1)) hC ⟨(rC hx0 hl0), fun hg => rg (gg h2 hg), trivial⟩ ⟨(cL hi0 hl0), h3, trivial⟩ (sI h).symm
   ·replace h := cF h3 h
    exact wx [(decide ((cnt 0 n0) < (ln x0.Breakers)), true), ((c100_2 x2 a0 y1), false)] w0b (st100_0 x0 x2 (n0 + 1)) (R100_0 x1 (n0 + 1)) lv100 36 [true, false] [.row (x0.Breakers.map q147) (cnt 0 n0) (q147 a0), .when [(((a0.Kind == 3) && (a0.B == x2)), true)] (.row (x1.Closed.map pB) (cnt 0 n0) (pB y1))] [] 0 [0] z0 hC ⟨(rC hx0 hl0), fun hg => rg (gg h2 hg), trivial⟩ ⟨(cL hi0 hl0), h3, trivial⟩ (sI h).symm
 ·have h := hnext0 _ hs0
  replace h := sI h
  subst h
  exact wr [] lv100 23 [] [] [] [.tmp 6] 0 [] hC trivial trivial
def e100 := en Tryz.func100
theorem k45s0 (x0 : api_Consumer) (x1 : Int) (r : Bool) (h : F45s0 x0 x1 = r) : CO 45 [.agg (d65 x0), .d (.ip [.v (.int .i64 x1)])] [] (.d (Bo r)) [] := by
 unfold F45s0 at h
 refine co 8 Tryz.func45 fun C hC => ?_
 subst h
 exact wr [] n4_ 25 [] [] [] [.tmp 3] 0 [] hC trivial trivial
def e45s0 := en Tryz.func45
def lv195 : List Nat := [0, 1, 2, 3, 4, 5, 8, 9, 10, 11, 13, 14, 15, 16, 36]
def st195_0 (x0 : api_Board) (x2 : Int) (x3 : Int) (n0 : Nat) (z0 : Unit) : St := [(2, dI x2), (3, dI x3), (5, dO 0 0), (8, dI 0), (9, dB false), (13, .d (DS q147 x0.Breakers)), (14, dI (ln x0.Breakers)), (15, dI (cnt 0 n0))]
def R195_0 (x1 : api_Power) (n0 : Nat) (z0 : Unit) : List Res := [.box 36 (d36 x1)]
def sa195_0  (z0 : Unit) : St := [(8, dI 0), (9, dB false)]
def Ra195_0  (z0 : Unit) : List Res := []
theorem k195 (x0 : api_Board) (x1 : api_Power) (x2 : Int) (x3 : Int) (r : Int × Bool) (h : F195 x0 x1 x2 x3 = some r) : CO 195 [.agg (d29 x0), .agg (d36 x1), .d (I x2), .d (I x3)] [] (.tup [.d (I r.1), .d (Bo r.2)]) [] := by
 unfold F195 at h
 refine co 40 Tryz.func195 fun C hC => ?_
 refine ws [] lv195 26 [] [.len (ln (x0.Breakers.map q147)) (ln x0.Breakers)] [] 0 [1] (st195_0 x0 x2 x3 0 ()) (R195_0 x1 0 ()) hC ⟨lM _ _, trivial⟩ trivial ?_
 obtain ⟨w0, hm0, hret0, hnext0⟩ := aIn h
 clear h
 refine wc w0 (sa195_0) (Ra195_0) ?_ fun z0 hs0 => ?_
 ·refine wb ?_
  refine wL 13 rfl fun hl0 => ?_
  refine wF (by kernel_rfl) (F195_l0 x1 x2 x3) (st195_0 x0 x2 x3) (R195_0 x1) w0 x0.Breakers () hm0 rfl rfl (fun z0 hn0 => ?_) fun n0 a0 z0 w0b hi0 hx0 h hb0 hr0 => ?_
  ·clear hm0
   exact wx [(decide ((cnt 0 x0.Breakers.length) < (ln x0.Breakers)), false)] w0 (sa195_0) (Ra195_0) lv195 26 [false] [] [] 0 [] () hC trivial ⟨(cE hl0), trivial⟩ hn0
  ·unfold F195_l0 at h
   obtain ⟨y1, h2, h⟩ := bE h
   rcases bC ((c195_1 x2 x3 a0 y1)) with h3 | h3
   ·replace h := cT h3 h
    have hq := hret0 _ (hr0 _ (sI h).symm)
    replace hq := sI hq
    subst hq
    exact wr [(decide ((cnt 0 n0) < (ln x0.Breakers)), true), ((c195_1 x2 x3 a0 y1), true)] lv195 35 [true, true] [.row (x0.Breakers.map q147) (cnt 0 n0) (q147 a0), .when [(((a0.Kind == x2) && (a0.B == x3)), true)] (.row (x1.Closed.map pB) (cnt 0 n0) (pB y1))] [] [.tmp 8, .tmp 9] 0 [] hC ⟨(rC hx0 hl0), fun hg => rg (gg h2 hg), trivial⟩ ⟨(cL hi0 hl0), h3, trivial⟩
   ·replace h := cF h3 h
    exact wx [(decide ((cnt 0 n0) < (ln x0.Breakers)), true), ((c195_1 x2 x3 a0 y1), false)] w0b (st195_0 x0 x2 x3 (n0 + 1)) (R195_0 x1 (n0 + 1)) lv195 36 [true, false] [.row (x0.Breakers.map q147) (cnt 0 n0) (q147 a0), .when [(((a0.Kind == x2) && (a0.B == x3)), true)] (.row (x1.Closed.map pB) (cnt 0 n0) (pB y1))] [] 0 [0] () hC ⟨(rC hx0 hl0), fun hg => rg (gg h2 hg), trivial⟩ ⟨(cL hi0 hl0), h3, trivial⟩ (sI h).symm
 ·have h := hnext0 _ hs0
  replace h := sI h
  subst h
  exact wr [] lv195 23 [] [] [] [.tmp 8, .tmp 9] 0 [] hC trivial trivial
def e195 := en Tryz.func195
def lv142 : List Nat := [0, 1, 2, 3, 4, 5, 6, 7, 8, 9, 14, 15, 16, 24, 25, 26, 28, 29, 30, 31, 44]
def st142_0 (y1 : List Int) (n0 : Nat) (z0 : (List Int)) : St := [(2, dO 0 0), (3, dO 1 0), (4, .d (DS pI [])), (5, dS 2), (14, dI (ln y1)), (15, dI (cnt 0 n0))]
def R142_0 (x0 : api_Board) (x1 : api_Power) (n0 : Nat) (z0 : (List Int)) : List Res := [.box 29 (d29 x0), .box 36 (d36 x1), v0_ z0]
def sa142_0  (z0 : (List Int)) : St := [(2, dO 0 0), (3, dO 1 0), (4, .d (DS pI [])), (5, dS 2)]
def Ra142_0 (x0 : api_Board) (x1 : api_Power) (z0 : (List Int)) : List Res := [.box 29 (d29 x0), .box 36 (d36 x1), v0_ z0]
def st142_1 (z0 : (List Int)) (n1 : Nat) (z1 : (List Int)) : St := [(2, dO 0 0), (3, dO 1 0), (4, .d (DS pI [])), (5, dS 2), (24, dI (ln z0)), (25, dI (cnt 0 n1))]
def R142_1 (x0 : api_Board) (x1 : api_Power) (n1 : Nat) (z1 : (List Int)) : List Res := [.box 29 (d29 x0), .box 36 (d36 x1), v0_ z1]
def sa142_1  (z1 : (List Int)) : St := [(4, .d (DS pI [])), (5, dS 0)]
def Ra142_1  (z1 : (List Int)) : List Res := [v0_ z1]
def st142_2 (x0 : api_Board) (z0 : (List Int)) (n1 : Nat) (n2 : Nat) (z2 : (List Int)) : St := [(2, dO 0 0), (3, dO 1 0), (4, .d (DS pI [])), (5, dS 2), (24, dI (ln z0)), (25, dI (cnt 0 n1)), (28, .d (DS q147 x0.Breakers)), (29, dI (ln x0.Breakers)), (30, dI (cnt 0 n2))]
def R142_2 (x0 : api_Board) (x1 : api_Power) (n2 : Nat) (z2 : (List Int)) : List Res := [.box 29 (d29 x0), .box 36 (d36 x1), v0_ z2]
def sa142_2 (z0 : (List Int)) (n1 : Nat) (z2 : (List Int)) : St := [(2, dO 0 0), (3, dO 1 0), (4, .d (DS pI [])), (5, dS 2), (24, dI (ln z0)), (25, dI (cnt 0 n1))]
def Ra142_2 (x0 : api_Board) (x1 : api_Power) (z2 : (List Int)) : List Res := [.box 29 (d29 x0), .box 36 (d36 x1), v0_ z2]
theorem k142 (x0 : api_Board) (x1 : api_Power) (r : (List Int)) (h : F142 x0 x1 = some r) : CO 142 [.agg (d29 x0), .agg (d36 x1)] [] (.d (.os 0)) [v0_ r] := by
 unfold F142 at h
 refine co 69 Tryz.func142 fun C hC => ?_
 obtain ⟨y1, h2, h⟩ := bE h
 refine ws [] lv142 28 [] [.room (x0.Buses * (8 + 1)) (List.replicate (Int.toNat x0.Buses) (pI 0)) (y1.map pI), .len (ln (y1.map pI)) (ln y1)] [] 0 n3_ (st142_0 y1 0 y1) (R142_0 x0 x1 0 y1) hC ⟨make_get h2, lM _ _, trivial⟩ trivial ?_
 obtain ⟨w0, hm0, hret0, hnext0⟩ := aIn h
 clear h
 refine wc w0 (sa142_0) (Ra142_0 x0 x1) ?_ fun z0 hs0 => ?_
 ·refine wb ?_
  refine wO 5 2 rfl rfl fun hl0 => ?_
  refine wF (by kernel_rfl) F142_l0 (st142_0 y1) (R142_0 x0 x1) w0 y1 y1 hm0 rfl rfl (fun z0 hn0 => ?_) fun n0 a0 z0 w0b hi0 hx0 h hb0 hr0 => ?_
  ·clear hm0
   exact wx [(decide ((cnt 0 y1.length) < (ln y1)), false)] w0 (sa142_0) (Ra142_0 x0 x1) lv142 26 [false] [] [] 0 n3_ z0 hC trivial ⟨(cE hl0), trivial⟩ hn0
  ·unfold F142_l0 at h
   obtain ⟨y3, h4, h⟩ := bE h
   obtain ⟨y5, h6, h⟩ := bE h
   exact wx [(decide ((cnt 0 n0) < (ln y1)), true)] w0b (st142_0 y1 (n0 + 1)) (R142_0 x0 x1 (n0 + 1)) lv142 33 [true] [.row (z0.map pI) (cnt 0 n0) (pI y3), .upd (z0.map pI) (Int.toNat (cnt 0 n0)) (pI y3) (pI (cnt 0 n0)) (y5.map pI)] [] 0 n3_ y5 hC ⟨rg h4, uG h4 h6, trivial⟩ ⟨(cL hi0 hl0), trivial⟩ (sI h).symm
 ·have h := hnext0 _ hs0
  refine ws [] lv142 24 [] [.len (ln (z0.map pI)) (ln z0)] [] 0 n3_ (st142_1 z0 0 z0) (R142_1 x0 x1 0 z0) hC ⟨lM _ _, trivial⟩ trivial ?_
  obtain ⟨w1, hm1, hret1, hnext1⟩ := aIn h
  clear h
  refine wc w1 (sa142_1) (Ra142_1) ?_ fun z1 hs1 => ?_
  ·refine wb ?_
   refine wO 5 2 rfl rfl fun hl1 => ?_
   refine wF (by kernel_rfl) (F142_l1 x0 x1) (st142_1 z0) (R142_1 x0 x1) w1 z0 z0 hm1 rfl rfl (fun z1 hn1 => ?_) fun n1 a1 z1 w1b hi1 hx1 h hb1 hr1 => ?_
   ·clear hm1
    exact wx [(decide ((cnt 0 z0.length) < (ln z0)), false)] w1 (sa142_1) (Ra142_1) lv142 26 [false] [] [] 0 [2] z1 hC trivial ⟨(cE hl1), trivial⟩ hn1
   ·unfold F142_l1 at h
    refine ws [(decide ((cnt 0 n1) < (ln z0)), true)] lv142 30 [true] [.len (ln (x0.Breakers.map q147)) (ln x0.Breakers)] [] 0 n3_ (st142_2 x0 z0 n1 0 z1) (R142_2 x0 x1 0 z1) hC ⟨lM _ _, trivial⟩ ⟨(cL hi1 hl1), trivial⟩ ?_
    obtain ⟨w2, hm2, hret2, hnext2⟩ := aIn h
    clear h
    refine wc w2 (sa142_2 z0 n1) (Ra142_2 x0 x1) ?_ fun z2 hs2 => ?_
    ·refine wb ?_
     refine wL 28 rfl fun hl2 => ?_
     refine wF (by kernel_rfl) (F142_l2 x1) (st142_2 x0 z0 n1) (R142_2 x0 x1) w2 x0.Breakers z1 hm2 rfl rfl (fun z2 hn2 => ?_) fun n2 a2 z2 w2b hi2 hx2 h hb2 hr2 => ?_
     ·clear hm2
      exact wx [(decide ((cnt 0 x0.Breakers.length) < (ln x0.Breakers)), false)] w2 (sa142_2 z0 n1) (Ra142_2 x0 x1) lv142 26 [false] [] [] 0 n3_ z2 hC trivial ⟨(cE hl2), trivial⟩ hn2
     ·unfold F142_l2 at h
      obtain ⟨y7, h8, h⟩ := bE h
      rcases bC (((a2.Kind == 1) && y7)) with h9 | h9
      ·replace h := cT h9 h
       obtain ⟨y10, h11, h⟩ := bE h
       obtain ⟨y12, h13, h⟩ := bE h
       obtain ⟨y14, h15, h⟩ := bE h
       obtain ⟨y16, h17, h⟩ := bE h
       obtain ⟨y18, h19, h⟩ := bE h
       exact wx [(decide ((cnt 0 n2) < (ln x0.Breakers)), true), (((a2.Kind == 1) && y7), true)] w2b (st142_2 x0 z0 n1 (n2 + 1)) (R142_2 x0 x1 (n2 + 1)) lv142 38 [true, true] [.row (x0.Breakers.map q147) (cnt 0 n2) (q147 a2), .when [((a2.Kind == 1), true)] (.row (x1.Closed.map pB) (cnt 0 n2) (pB y7)), .row (z2.map pI) a2.A (pI y10), .row (z2.map pI) (((Int.toNat a2.A) : Nat) : Int) (pI y10), .row (z2.map pI) a2.B (pI y12), .row (z2.map pI) (((Int.toNat a2.B) : Nat) : Int) (pI y12), .row (z2.map pI) a2.A (pI y10), .upd (z2.map pI) (Int.toNat a2.A) (pI y10) (pI (min y10 y12)) (y14.map pI), .row (y14.map pI) a2.B (pI y16), .upd (y14.map pI) (Int.toNat a2.B) (pI y16) (pI (min y10 y12)) (y18.map pI)] [] 0 n3_ y18 hC ⟨(rC hx2 hl2), fun hg => rg (gg h8 hg), rg h11, rN h11, rg h13, rN h13, rg h11, uG h11 h15, rg h17, uG h17 h19, trivial⟩ ⟨(cL hi2 hl2), h9, trivial⟩ (sI h).symm
      ·replace h := cF h9 h
       exact wx [(decide ((cnt 0 n2) < (ln x0.Breakers)), true), (((a2.Kind == 1) && y7), false)] w2b (st142_2 x0 z0 n1 (n2 + 1)) (R142_2 x0 x1 (n2 + 1)) lv142 36 [true, false] [.row (x0.Breakers.map q147) (cnt 0 n2) (q147 a2), .when [((a2.Kind == 1), true)] (.row (x1.Closed.map pB) (cnt 0 n2) (pB y7))] [] 0 n3_ z2 hC ⟨(rC hx2 hl2), fun hg => rg (gg h8 hg), trivial⟩ ⟨(cL hi2 hl2), h9, trivial⟩ (sI h).symm
    ·have h := hnext2 _ hs2
     exact wx [] w1b (st142_1 z0 (n1 + 1)) (R142_1 x0 x1 (n1 + 1)) lv142 23 [] [] [] 0 n3_ z2 hC trivial trivial (sI h).symm
  ·have h := hnext1 _ hs1
   replace h := sI h
   subst h
   exact wr [] lv142 23 [] [] [] [.tmp 4] 0 [0] hC trivial trivial
def e142 := en Tryz.func142
theorem k146 (x0 : api_Island) (r : Bool) (h : F146 x0 = r) : CO 146 [.agg (d84 x0)] [] (.d (Bo r)) [] := by
 unfold F146 at h
 refine co 7 Tryz.func146 fun C hC => ?_
 subst h
 exact wr [] n3_ 25 [] [.len (ln (x0.Buses.map pI)) (ln x0.Buses)] [] [.tmp 2] 0 [] hC ⟨lM _ _, trivial⟩ trivial
def e146 := en Tryz.func146
def lv200 : List Nat := [0, 1, 3, 4, 5, 7, 8, 9, 16]
def st200_0 (x0 : List api_Part) (n0 : Nat) (z0 : Unit) : St := [(0, .d (DS q86 x0)), (3, dO 0 0), (4, dI 0), (7, dI (ln x0)), (8, dI (cnt 0 n0))]
def R200_0 (x1 : api_Part) (n0 : Nat) (z0 : Unit) : List Res := [.box 86 (d86 x1)]
def sa200_0  (z0 : Unit) : St := [(4, dI 0)]
def Ra200_0  (z0 : Unit) : List Res := []
theorem k200 (x0 : List api_Part) (x1 : api_Part) (r : Int) (h : F200 x0 x1 = some r) : CO 200 [.d (DS q86 x0), .agg (d86 x1)] [] (.d (I r)) [] := by
 unfold F200 at h
 refine co 19 Tryz.func200 fun C hC => ?_
 refine ws [] lv200 26 [] [.len (ln (x0.map q86)) (ln x0)] [] 0 [0] (st200_0 x0 0 ()) (R200_0 x1 0 ()) hC ⟨lM _ _, trivial⟩ trivial ?_
 obtain ⟨w0, hm0, hret0, hnext0⟩ := aIn h
 clear h
 refine wc w0 (sa200_0) (Ra200_0) ?_ fun z0 hs0 => ?_
 ·refine wb ?_
  refine wL 0 rfl fun hl0 => ?_
  refine wF (by kernel_rfl) (F200_l0 x1) (st200_0 x0) (R200_0 x1) w0 x0 () hm0 rfl rfl (fun z0 hn0 => ?_) fun n0 a0 z0 w0b hi0 hx0 h hb0 hr0 => ?_
  ·clear hm0
   exact wx [(decide ((cnt 0 x0.length) < (ln x0)), false)] w0 (sa200_0) (Ra200_0) lv200 26 [false] [] [] 0 [] () hC trivial ⟨(cE hl0), trivial⟩ hn0
  ·unfold F200_l0 at h
   rcases bC ((c200_1 x1 a0)) with h1 | h1
   ·replace h := cT h1 h
    have hq := hret0 _ (hr0 _ (sI h).symm)
    replace hq := sI hq
    subst hq
    exact wr [(decide ((cnt 0 n0) < (ln x0)), true), ((c200_1 x1 a0), true)] lv200 35 [true, true] [.row (x0.map q86) (cnt 0 n0) (q86 a0)] [] [.tmp 4] 0 [] hC ⟨(rC hx0 hl0), trivial⟩ ⟨(cL hi0 hl0), h1, trivial⟩
   ·replace h := cF h1 h
    exact wx [(decide ((cnt 0 n0) < (ln x0)), true), ((c200_1 x1 a0), false)] w0b (st200_0 x0 (n0 + 1)) (R200_0 x1 (n0 + 1)) lv200 36 [true, false] [.row (x0.map q86) (cnt 0 n0) (q86 a0)] [] 0 [0] () hC ⟨(rC hx0 hl0), trivial⟩ ⟨(cL hi0 hl0), h1, trivial⟩ (sI h).symm
 ·have h := hnext0 _ hs0
  replace h := sI h
  subst h
  exact wr [] lv200 23 [] [] [] [.tmp 4] 0 [] hC trivial trivial
def e200 := en Tryz.func200
def e46 := en Tryz.func46
theorem k159 (x0 : api_Thrust) (r : Bool) (h : F159 x0 = r) : CO 159 [.agg (d70 x0)] [] (.d (Bo r)) [] := by
 unfold F159 at h
 refine co 17 Tryz.func159 fun C hC => ?_
 subst h
 exact wr [] n3_ 25 [] [] [] [.tmp 2] 0 [] hC trivial trivial
def e159 := en Tryz.func159
theorem k203 (x0 : Int) (x1 : Int) (r : Int) (h : F203 x0 x1 = some r) : CO 203 [.d (I x0), .d (I x1)] [] (.d (I r)) [] := by
 unfold F203 at h
 refine co 16 Tryz.func203 fun C hC => ?_
 obtain ⟨u2, h1, h⟩ := bE h
 obtain ⟨u4, h3, h⟩ := bE h
 rcases bC (decide ((Int.tmod x0 x1) < 0)) with h5 | h5
 ·replace h := cT h5 h
  replace h := sI h
  subst h
  exact wr [(decide ((Int.tmod x0 x1) < 0), true)] [0, 1, 4, 5, 12] 32 [true] [.nz x1, .nz x1] [] [.tmp 4] 0 [] hC ⟨nz_get h1, nz_get h3, trivial⟩ ⟨h5, trivial⟩
 ·replace h := cF h5 h
  replace h := sI h
  subst h
  exact wr [(decide ((Int.tmod x0 x1) < 0), false)] [0, 1, 4, 5, 12] 32 [false] [.nz x1, .nz x1] [] [.tmp 4] 0 [] hC ⟨nz_get h1, nz_get h3, trivial⟩ ⟨h5, trivial⟩
def e203 := en Tryz.func203
def lv107 : List Nat := [0, 2, 3, 4, 5, 6, 12, 15, 25]
def st107_0 (x0 : Int) (z0 : Int × Int) : St := [(0, dI x0), (2, dI 0), (3, dI 0), (4, dI z0.1), (5, dI z0.2)]
def R107_0  (z0 : Int × Int) : List Res := []
def sa107_0  (z0 : Int × Int) : St := [(2, dI 0), (3, dI 0), (4, dI z0.1)]
def Ra107_0  (z0 : Int × Int) : List Res := []
theorem k107 (x0 : Int) (r : Int × Int) (h : F107 x0 = some r) : CO 107 [.d (I x0)] [] (.tup [.d (I r.1), .d (I r.2)]) [] := by
 unfold F107 at h
 refine co 30 Tryz.func107 fun C hC => ?_
 rcases bC ((c107_0 x0)) with h1 | h1
 ·replace h := cT h1 h
  replace h := sI h
  subst h
  exact wr [((c107_0 x0), true)] lv107 29 [true] [] [] [.tmp 2, .tmp 3] 0 [] hC trivial ⟨h1, trivial⟩
 ·replace h := cF h1 h
  refine ws [((c107_0 x0), false)] lv107 31 [false] [] [] 0 [] (st107_0 x0 (0, 1000000000)) (R107_0 (0, 1000000000)) hC trivial ⟨h1, trivial⟩ ?_
  obtain ⟨w0, hm0, hret0, hnext0⟩ := aIn h
  clear h
  refine wc w0 (sa107_0) (Ra107_0) ?_ fun z0 hs0 => ?_
  ·refine wb ?_
   refine wW (by kernel_rfl) (F107_l0 x0) (st107_0 x0) (R107_0) w0 1152921504606846976 (0, 1000000000) hm0 rfl rfl fun z0 w0b h hb0 hr0 => ?_
   unfold F107_l0 at h
   rcases bC (decide (z0.1 < z0.2)) with h2 | h2
   ·replace h := cT h2 h
    rcases bC ((c107_3 x0 z0)) with h3 | h3
    ·replace h := cT h3 h
     exact wx [(decide (z0.1 < z0.2), true), ((c107_3 x0 z0), true)] w0b (st107_0 x0) (R107_0) lv107 34 [true, true] [.nz 2] [] 0 [] (w64 (Int.tdiv (w64 ((w64 (z0.1 + z0.2)) + 1)) 2), z0.2) hC ⟨nz_lit rfl, trivial⟩ ⟨h2, h3, trivial⟩ (sI h).symm
    ·replace h := cF h3 h
     exact wx [(decide (z0.1 < z0.2), true), ((c107_3 x0 z0), false)] w0b (st107_0 x0) (R107_0) lv107 34 [true, false] [.nz 2] [] 0 [] (z0.1, w64 ((w64 (Int.tdiv (w64 ((w64 (z0.1 + z0.2)) + 1)) 2)) - 1)) hC ⟨nz_lit rfl, trivial⟩ ⟨h2, h3, trivial⟩ (sI h).symm
   ·replace h := cF h2 h
    exact wx [(decide (z0.1 < z0.2), false)] w0 (sa107_0) (Ra107_0) lv107 26 [false] [] [] 0 [] (z0.1, z0.2) hC trivial ⟨h2, trivial⟩ (hb0 _ (sI h).symm)
  ·have h := hnext0 _ hs0
   replace h := sI h
   subst h
   exact wr [] lv107 23 [] [] [] [.tmp 2, .tmp 3] 0 [] hC trivial trivial
def e107 := en Tryz.func107
def lv49 : List Nat := [0, 1, 2, 3, 6, 8, 10, 11, 12, 13, 25]
def st49_0 (x0 : api_Power) (x1 : Int) (x2 : Int) (n0 : Nat) (z0 : Unit) : St := [(1, dI x1), (2, dI x2), (6, dB false), (10, .d (DS q86 x0.Broken)), (11, dI (ln x0.Broken)), (12, dI (cnt 0 n0))]
def R49_0  (n0 : Nat) (z0 : Unit) : List Res := []
def sa49_0  (z0 : Unit) : St := [(6, dB false)]
def Ra49_0  (z0 : Unit) : List Res := []
theorem k49 (x0 : api_Power) (x1 : Int) (x2 : Int) (r : Bool) (h : F49 x0 x1 x2 = some r) : CO 49 [.agg (d36 x0), .d (I x1), .d (I x2)] [] (.d (Bo r)) [] := by
 unfold F49 at h
 refine co 27 Tryz.func49 fun C hC => ?_
 refine ws [] lv49 26 [] [.len (ln (x0.Broken.map q86)) (ln x0.Broken)] [] 0 [] (st49_0 x0 x1 x2 0 ()) (R49_0 0 ()) hC ⟨lM _ _, trivial⟩ trivial ?_
 obtain ⟨w0, hm0, hret0, hnext0⟩ := aIn h
 clear h
 refine wc w0 (sa49_0) (Ra49_0) ?_ fun z0 hs0 => ?_
 ·refine wb ?_
  refine wL 10 rfl fun hl0 => ?_
  refine wF (by kernel_rfl) (F49_l0 x1 x2) (st49_0 x0 x1 x2) (R49_0) w0 x0.Broken () hm0 rfl rfl (fun z0 hn0 => ?_) fun n0 a0 z0 w0b hi0 hx0 h hb0 hr0 => ?_
  ·clear hm0
   exact wx [(decide ((cnt 0 x0.Broken.length) < (ln x0.Broken)), false)] w0 (sa49_0) (Ra49_0) lv49 26 [false] [] [] 0 [] () hC trivial ⟨(cE hl0), trivial⟩ hn0
  ·unfold F49_l0 at h
   rcases bC ((c49_1 x1 x2 a0)) with h1 | h1
   ·replace h := cT h1 h
    have hq := hret0 _ (hr0 _ (sI h).symm)
    replace hq := sI hq
    subst hq
    exact wr [(decide ((cnt 0 n0) < (ln x0.Broken)), true), ((c49_1 x1 x2 a0), true)] lv49 35 [true, true] [.row (x0.Broken.map q86) (cnt 0 n0) (q86 a0)] [] [.tmp 6] 0 [] hC ⟨(rC hx0 hl0), trivial⟩ ⟨(cL hi0 hl0), h1, trivial⟩
   ·replace h := cF h1 h
    exact wx [(decide ((cnt 0 n0) < (ln x0.Broken)), true), ((c49_1 x1 x2 a0), false)] w0b (st49_0 x0 x1 x2 (n0 + 1)) (R49_0 (n0 + 1)) lv49 36 [true, false] [.row (x0.Broken.map q86) (cnt 0 n0) (q86 a0)] [] 0 [] () hC ⟨(rC hx0 hl0), trivial⟩ ⟨(cL hi0 hl0), h1, trivial⟩ (sI h).symm
 ·have h := hnext0 _ hs0
  replace h := sI h
  subst h
  exact wr [] lv49 23 [] [] [] [.tmp 6] 0 [] hC trivial trivial
def e49 := en Tryz.func49
def e16 := en Tryz.func16
theorem k129 (x0 : Int) (r : Int) (h : F129 x0 = r) : CO 129 [.d (I x0)] [] (.d (I r)) [] := by
 unfold F129 at h
 refine co 7 Tryz.func129 fun C hC => ?_
 subst h
 exact wr [] [0, 2] 25 [] [.nz 3600, .nz 3600] [] [.tmp 2] 0 [] hC ⟨nz_lit rfl, nz_lit rfl, trivial⟩ trivial
def e129 := en Tryz.func129
theorem k51 (x0 : api_Thrust) (r : Bool) (h : F51 x0 = r) : CO 51 [.agg (d70 x0)] [] (.d (Bo r)) [] := by
 unfold F51 at h
 refine co 21 Tryz.func51 fun C hC => ?_
 subst h
 exact wr [] n3_ 25 [] [] [] [.tmp 2] 0 [] hC trivial trivial
def e51 := en Tryz.func51
theorem k162 (x0 : Int) (x1 : Int) (r : Bool) (h : F162 x0 x1 = r) : CO 162 [.d (I x0), .d (I x1)] [] (.d (Bo r)) [] := by
 unfold F162 at h
 refine co 14 Tryz.func162 fun C hC => ?_
 subst h
 exact wr [] [0, 1, 4] 25 [] [] [] [.tmp 4] 0 [] hC trivial trivial
def e162 := en Tryz.func162
theorem k110 (x0 : Int) (x1 : Int) (r : Int) (h : F110 x0 x1 = some r) : CO 110 [.d (I x0), .d (I x1)] [] (.d (I r)) [] := by
 unfold F110 at h
 refine co 16 Tryz.func110 fun C hC => ?_
 obtain ⟨u2, h1, h⟩ := bE h
 obtain ⟨u4, h3, h⟩ := bE h
 rcases bC (decide ((Int.tmod x0 x1) < 0)) with h5 | h5
 ·replace h := cT h5 h
  replace h := sI h
  subst h
  exact wr [(decide ((Int.tmod x0 x1) < 0), true)] [0, 1, 4, 5, 12] 32 [true] [.nz x1, .nz x1] [] [.tmp 4] 0 [] hC ⟨nz_get h1, nz_get h3, trivial⟩ ⟨h5, trivial⟩
 ·replace h := cF h5 h
  replace h := sI h
  subst h
  exact wr [(decide ((Int.tmod x0 x1) < 0), false)] [0, 1, 4, 5, 12] 32 [false] [.nz x1, .nz x1] [] [.tmp 4] 0 [] hC ⟨nz_get h1, nz_get h3, trivial⟩ ⟨h5, trivial⟩
def e110 := en Tryz.func110
theorem k35  (r : api_Board × api_Table) (h : F35  = r) : CO 35 [] [] (.tup [.agg (d29 r.1), .agg (d31 r.2)]) [] := by
 unfold F35 at h
 refine co 13 Tryz.func35 fun C hC => ?_
 subst h
 exact wr [] [0, 1] 25 [] [] [] [.cell 0 29, .cell 1 31] 0 [] hC trivial trivial
def e35 := en Tryz.func35
theorem k59 (x0 : api_Table) (r : Bool) (h : F59 x0 = r) : CO 59 [.agg (d31 x0)] [] (.d (Bo r)) [] := by
 unfold F59 at h
 refine co 33 Tryz.func59 fun C hC => ?_
 subst h
 exact wr [] n3_ 25 [] [] [] [.tmp 2] 0 [] hC trivial trivial
def e59 := en Tryz.func59
theorem k194 (x0 : Int) (x1 : Int) (r : Int × Int) (h : F194 x0 x1 = r) : CO 194 [.d (.p (.v (.int .u64 x0))), .d (.p (.v (.int .u64 x1)))] [] (.tup [.d (.p (.v (.int .u64 r.1))), .d (.p (.v (.int .u64 r.2)))]) [] := by
 unfold F194 at h
 refine co 51 Tryz.func194 fun C hC => ?_
 subst h
 exact wr [] [0, 1, 4, 5, 6, 7, 8, 9, 10, 11, 12, 13] 45 [] [] [] [.tmp 4, .tmp 5] 0 [] hC trivial trivial
def e194 := en Tryz.func194
theorem k166 (x0 : List Bool) (r : List Bool) (h : F166 x0 = some r) : CO 166 [.d (.p (.s (x0.map pB)))] [] (.d (.os 0)) [v3_ r] := by
 unfold F166 at h
 refine co 8 Tryz.func166 fun C hC => ?_
 refine ws [] [0, 4] 40 [] [] [] 0 [] [(0, .d (.p (.s (x0.map pB)))), (4, .d (.nq (x0.map pB)))] [] hC trivial trivial ?_
 refine WI_nq 4 (by kernel_rfl) (by kernel_rfl) rfl (fun hn => ?_) ?_
 ·have hx : x0 = [] := by cases x0 with | nil => rfl | cons => cases hn
  subst hx
  have hr : r = [] := by simpa [appI] using h.symm
  subst hr
  exact wr [] [2] 40 [] [] [.own 2 4 1] [.tmp 2] 0 [0] hC trivial trivial
 ·exact wr [] [2] 40 [] [.own, (.app [] (x0.map pB) 1 ((([] : List (List Pd)).length + (x0.map pB).length) * (1 + 1)) (r.map pB))] [] [.tmp 2] 0 [1] hC ⟨trivial, aG (l := []) pB 1 (fun _ => rfl) h, trivial⟩ trivial
def e166 := en Tryz.func166
theorem k167 (x0 : List api_Running) (r : List api_Running) (h : F167 x0 = some r) : CO 167 [.d (.p (.s (x0.map q120)))] [] (.d (.os 0)) [v5_ r] := by
 unfold F167 at h
 refine co 8 Tryz.func167 fun C hC => ?_
 refine ws [] [0, 4] 40 [] [] [] 0 [] [(0, .d (.p (.s (x0.map q120)))), (4, .d (.nq (x0.map q120)))] [] hC trivial trivial ?_
 refine WI_nq 4 (by kernel_rfl) (by kernel_rfl) rfl (fun hn => ?_) ?_
 ·have hx : x0 = [] := by cases x0 with | nil => rfl | cons => cases hn
  subst hx
  have hr : r = [] := by simpa [appI] using h.symm
  subst hr
  exact wr [] [2] 40 [] [] [.own 2 120 4] [.tmp 2] 0 [0] hC trivial trivial
 ·exact wr [] [2] 40 [] [.own, (.app [] (x0.map q120) 4 ((([] : List (List Pd)).length + (x0.map q120).length) * (32 + 1)) (r.map q120))] [] [.tmp 2] 0 [1] hC ⟨trivial, aG (l := []) q120 4 (fun _ => rfl) h, trivial⟩ trivial
def e167 := en Tryz.func167
theorem k168 (x0 : List Int) (r : List Int) (h : F168 x0 = some r) : CO 168 [.d (.p (.s (x0.map pI)))] [] (.d (.os 0)) [v0_ r] := by
 unfold F168 at h
 refine co 8 Tryz.func168 fun C hC => ?_
 refine ws [] [0, 4] 40 [] [] [] 0 [] [(0, .d (.p (.s (x0.map pI)))), (4, .d (.nq (x0.map pI)))] [] hC trivial trivial ?_
 refine WI_nq 4 (by kernel_rfl) (by kernel_rfl) rfl (fun hn => ?_) ?_
 ·have hx : x0 = [] := by cases x0 with | nil => rfl | cons => cases hn
  subst hx
  have hr : r = [] := by simpa [appI] using h.symm
  subst hr
  exact wr [] [2] 40 [] [] [.own 2 3 1] [.tmp 2] 0 [0] hC trivial trivial
 ·exact wr [] [2] 40 [] [.own, (.app [] (x0.map pI) 1 ((([] : List (List Pd)).length + (x0.map pI).length) * (8 + 1)) (r.map pI))] [] [.tmp 2] 0 [1] hC ⟨trivial, aG (l := []) pI 1 (fun _ => rfl) h, trivial⟩ trivial
def e168 := en Tryz.func168
theorem k169 (x0 : List api_Part) (r : List api_Part) (h : F169 x0 = some r) : CO 169 [.d (.p (.s (x0.map q86)))] [] (.d (.os 0)) [v4_ r] := by
 unfold F169 at h
 refine co 8 Tryz.func169 fun C hC => ?_
 refine ws [] [0, 4] 40 [] [] [] 0 [] [(0, .d (.p (.s (x0.map q86)))), (4, .d (.nq (x0.map q86)))] [] hC trivial trivial ?_
 refine WI_nq 4 (by kernel_rfl) (by kernel_rfl) rfl (fun hn => ?_) ?_
 ·have hx : x0 = [] := by cases x0 with | nil => rfl | cons => cases hn
  subst hx
  have hr : r = [] := by simpa [appI] using h.symm
  subst hr
  exact wr [] [2] 40 [] [] [.own 2 86 2] [.tmp 2] 0 [0] hC trivial trivial
 ·exact wr [] [2] 40 [] [.own, (.app [] (x0.map q86) 2 ((([] : List (List Pd)).length + (x0.map q86).length) * (16 + 1)) (r.map q86))] [] [.tmp 2] 0 [1] hC ⟨trivial, aG (l := []) q86 2 (fun _ => rfl) h, trivial⟩ trivial
def e169 := en Tryz.func169
def lv117s0 : List Nat := [0, 1, 2, 3, 5, 7, 8, 9, 10, 11]
def st117s0_0 (x1 : List Int) (n0 : Nat) (z0 : (List api_Running)) : St := [(3, dO 4 0), (5, dO 5 0), (8, .d (DS pI x1)), (9, dI (ln x1)), (10, dI (cnt 0 n0))]
def R117s0_0 (x0 : api_Power) (x2 : api_Running) (n0 : Nat) (z0 : (List api_Running)) : List Res := [v3_ x0.Closed, v5_ z0, v0_ x0.Limits, v4_ x0.Broken, .box 36 [.os 0, .os 1, .os 2, .os 3], .box 120 (d120 x2)]
def sa117s0_0  (z0 : (List api_Running)) : St := []
def Ra117s0_0 (x0 : api_Power) (z0 : (List api_Running)) : List Res := [v3_ x0.Closed, v5_ z0, v0_ x0.Limits, v4_ x0.Broken]
theorem k117s0 (x0 : api_Power) (x1 : List Int) (x2 : api_Running) (r : (List api_Running)) (h : F117s0 x0 x1 x2 = some r) : CO 117 [.agg [.os 0, .os 1, .os 2, .os 3], .d (DS pI x1), .agg (d120 x2)] (zp x0 []) (.tup []) [v3_ x0.Closed, v5_ r, v0_ x0.Limits, v4_ x0.Broken] := by
 unfold F117s0 at h
 refine co 29 Tryz.func117 fun C hC => ?_
 refine ws [] lv117s0 25 [] [.len (ln (x1.map pI)) (ln x1)] [] 4 n6_ (st117s0_0 x1 0 x0.Sources) (R117s0_0 x0 x2 0 x0.Sources) hC ⟨lM _ _, trivial⟩ trivial ?_
 obtain ⟨w0, hm0, hret0, hnext0⟩ := aIn h
 clear h
 refine wc w0 (sa117s0_0) (Ra117s0_0 x0) ?_ fun z0 hs0 => ?_
 ·refine wb ?_
  refine wL 8 rfl fun hl0 => ?_
  refine wF (by kernel_rfl) (F117s0_l0 x2) (st117s0_0 x1) (R117s0_0 x0 x2) w0 x1 x0.Sources hm0 rfl rfl (fun z0 hn0 => ?_) fun n0 a0 z0 w0b hi0 hx0 h hb0 hr0 => ?_
  ·clear hm0
   exact wx [(decide ((cnt 0 x1.length) < (ln x1)), false)] w0 (sa117s0_0) (Ra117s0_0 x0) lv117s0 26 [false] [] [] 4 n4_ z0 hC trivial ⟨(cE hl0), trivial⟩ hn0
  ·unfold F117s0_l0 at h
   obtain ⟨y1, h2, h⟩ := bE h
   obtain ⟨y3, h4, h⟩ := bE h
   obtain ⟨y5, h6, h⟩ := bE h
   obtain ⟨y7, h8, h⟩ := bE h
   exact wx [(decide ((cnt 0 n0) < (ln x1)), true)] w0b (st117s0_0 x1 (n0 + 1)) (R117s0_0 x0 x2 (n0 + 1)) lv117s0 33 [true] [.row (x1.map pI) (cnt 0 n0) (pI a0), .row (z0.map q120) a0 (q120 y1), .upd (z0.map q120) (Int.toNat a0) (q120 y1) (q120 (⟨y1.State, y1.Since, x2.Frequency, y1.Phase⟩ : api_Running)) (y3.map q120), .row (y3.map q120) a0 (q120 y5), .upd (y3.map q120) (Int.toNat a0) (q120 y5) (q120 (⟨y5.State, y5.Since, y5.Frequency, x2.Phase⟩ : api_Running)) (y7.map q120)] [] 4 n6_ y7 hC ⟨(rC hx0 hl0), rg h2, uG h2 h4, rg h6, uG h6 h8, trivial⟩ ⟨(cL hi0 hl0), trivial⟩ (sI h).symm
 ·have h := hnext0 _ hs0
  replace h := sI h
  subst h
  exact wf [] lv117s0 20 [] [] [] [] 4 n4_ hC trivial trivial
def e117s0 := en Tryz.func117
def lv118 : List Nat := [0, 1, 4, 5, 10, 12, 13, 14, 24]
def st118_0 (x0 : List Bool) (x1 : List Bool) (n0 : Nat) (z0 : Unit) : St := [(0, .d (DS pB x0)), (1, .d (DS pB x1)), (4, dB false), (12, dI (ln x0)), (13, dI (cnt 0 n0))]
def R118_0  (n0 : Nat) (z0 : Unit) : List Res := []
def sa118_0  (z0 : Unit) : St := [(4, dB false)]
def Ra118_0  (z0 : Unit) : List Res := []
theorem k118 (x0 : List Bool) (x1 : List Bool) (r : Bool) (h : F118 x0 x1 = some r) : CO 118 [.d (DS pB x0), .d (DS pB x1)] [] (.d (Bo r)) [] := by
 unfold F118 at h
 refine co 26 Tryz.func118 fun C hC => ?_
 rcases bC (((ln x0) != (ln x1))) with h1 | h1
 ·replace h := cT h1 h
  cases h
 ·replace h := cF h1 h
  refine ws [(((ln x0) != (ln x1)), false)] lv118 31 [false] [.len (ln (x0.map pB)) (ln x0), .len (ln (x1.map pB)) (ln x1), .len (ln (x0.map pB)) (ln x0)] [] 0 [] (st118_0 x0 x1 0 ()) (R118_0 0 ()) hC ⟨lM _ _, lM _ _, lM _ _, trivial⟩ ⟨h1, trivial⟩ ?_
  obtain ⟨w0, hm0, hret0, hnext0⟩ := aIn h
  clear h
  refine wc w0 (sa118_0) (Ra118_0) ?_ fun z0 hs0 => ?_
  ·refine wb ?_
   refine wL 0 rfl fun hl0 => ?_
   refine wF (by kernel_rfl) (F118_l0 x1) (st118_0 x0 x1) (R118_0) w0 x0 () hm0 rfl rfl (fun z0 hn0 => ?_) fun n0 a0 z0 w0b hi0 hx0 h hb0 hr0 => ?_
   ·clear hm0
    exact wx [(decide ((cnt 0 x0.length) < (ln x0)), false)] w0 (sa118_0) (Ra118_0) lv118 26 [false] [] [] 0 [] () hC trivial ⟨(cE hl0), trivial⟩ hn0
   ·unfold F118_l0 at h
    obtain ⟨y2, h3, h⟩ := bE h
    rcases bC (!(a0 == y2)) with h4 | h4
    ·replace h := cT h4 h
     cases h
    ·replace h := cF h4 h
     exact wx [(decide ((cnt 0 n0) < (ln x0)), true), (!(a0 == y2), false)] w0b (st118_0 x0 x1 (n0 + 1)) (R118_0 (n0 + 1)) lv118 36 [true, false] [.row (x0.map pB) (cnt 0 n0) (pB a0), .row (x1.map pB) (cnt 0 n0) (pB y2)] [] 0 [] () hC ⟨(rC hx0 hl0), rg h3, trivial⟩ ⟨(cL hi0 hl0), h4, trivial⟩ (sI h).symm
  ·have h := hnext0 _ hs0
   replace h := sI h
   subst h
   exact wr [] lv118 23 [] [] [] [.tmp 4] 0 [] hC trivial trivial
def e118 := en Tryz.func118
def lv119 : List Nat := [0, 1, 4, 5, 10, 12, 13, 14, 24]
def st119_0 (x0 : List api_Running) (x1 : List api_Running) (n0 : Nat) (z0 : Unit) : St := [(0, .d (DS q120 x0)), (1, .d (DS q120 x1)), (4, dB false), (12, dI (ln x0)), (13, dI (cnt 0 n0))]
def R119_0  (n0 : Nat) (z0 : Unit) : List Res := []
def sa119_0  (z0 : Unit) : St := [(4, dB false)]
def Ra119_0  (z0 : Unit) : List Res := []
theorem k119 (x0 : List api_Running) (x1 : List api_Running) (r : Bool) (h : F119 x0 x1 = some r) : CO 119 [.d (DS q120 x0), .d (DS q120 x1)] [] (.d (Bo r)) [] := by
 unfold F119 at h
 refine co 26 Tryz.func119 fun C hC => ?_
 rcases bC (((ln x0) != (ln x1))) with h1 | h1
 ·replace h := cT h1 h
  cases h
 ·replace h := cF h1 h
  refine ws [(((ln x0) != (ln x1)), false)] lv119 31 [false] [.len (ln (x0.map q120)) (ln x0), .len (ln (x1.map q120)) (ln x1), .len (ln (x0.map q120)) (ln x0)] [] 0 [] (st119_0 x0 x1 0 ()) (R119_0 0 ()) hC ⟨lM _ _, lM _ _, lM _ _, trivial⟩ ⟨h1, trivial⟩ ?_
  obtain ⟨w0, hm0, hret0, hnext0⟩ := aIn h
  clear h
  refine wc w0 (sa119_0) (Ra119_0) ?_ fun z0 hs0 => ?_
  ·refine wb ?_
   refine wL 0 rfl fun hl0 => ?_
   refine wF (by kernel_rfl) (F119_l0 x1) (st119_0 x0 x1) (R119_0) w0 x0 () hm0 rfl rfl (fun z0 hn0 => ?_) fun n0 a0 z0 w0b hi0 hx0 h hb0 hr0 => ?_
   ·clear hm0
    exact wx [(decide ((cnt 0 x0.length) < (ln x0)), false)] w0 (sa119_0) (Ra119_0) lv119 26 [false] [] [] 0 [] () hC trivial ⟨(cE hl0), trivial⟩ hn0
   ·unfold F119_l0 at h
    obtain ⟨y2, h3, h⟩ := bE h
    rcases bC ((c119_1 a0 y2)) with h4 | h4
    ·replace h := cT h4 h
     cases h
    ·replace h := cF h4 h
     exact wx [(decide ((cnt 0 n0) < (ln x0)), true), ((c119_1 a0 y2), false)] w0b (st119_0 x0 x1 (n0 + 1)) (R119_0 (n0 + 1)) lv119 36 [true, false] [.row (x0.map q120) (cnt 0 n0) (q120 a0), .row (x1.map q120) (cnt 0 n0) (q120 y2)] [] 0 [] () hC ⟨(rC hx0 hl0), rg h3, trivial⟩ ⟨(cL hi0 hl0), h4, trivial⟩ (sI h).symm
  ·have h := hnext0 _ hs0
   replace h := sI h
   subst h
   exact wr [] lv119 23 [] [] [] [.tmp 4] 0 [] hC trivial trivial
def e119 := en Tryz.func119
def lv120 : List Nat := [0, 1, 4, 5, 10, 12, 13, 14, 24]
def st120_0 (x0 : List Int) (x1 : List Int) (n0 : Nat) (z0 : Unit) : St := [(0, .d (DS pI x0)), (1, .d (DS pI x1)), (4, dB false), (12, dI (ln x0)), (13, dI (cnt 0 n0))]
def R120_0  (n0 : Nat) (z0 : Unit) : List Res := []
def sa120_0  (z0 : Unit) : St := [(4, dB false)]
def Ra120_0  (z0 : Unit) : List Res := []
theorem k120 (x0 : List Int) (x1 : List Int) (r : Bool) (h : F120 x0 x1 = some r) : CO 120 [.d (DS pI x0), .d (DS pI x1)] [] (.d (Bo r)) [] := by
 unfold F120 at h
 refine co 26 Tryz.func120 fun C hC => ?_
 rcases bC (((ln x0) != (ln x1))) with h1 | h1
 ·replace h := cT h1 h
  cases h
 ·replace h := cF h1 h
  refine ws [(((ln x0) != (ln x1)), false)] lv120 31 [false] [.len (ln (x0.map pI)) (ln x0), .len (ln (x1.map pI)) (ln x1), .len (ln (x0.map pI)) (ln x0)] [] 0 [] (st120_0 x0 x1 0 ()) (R120_0 0 ()) hC ⟨lM _ _, lM _ _, lM _ _, trivial⟩ ⟨h1, trivial⟩ ?_
  obtain ⟨w0, hm0, hret0, hnext0⟩ := aIn h
  clear h
  refine wc w0 (sa120_0) (Ra120_0) ?_ fun z0 hs0 => ?_
  ·refine wb ?_
   refine wL 0 rfl fun hl0 => ?_
   refine wF (by kernel_rfl) (F120_l0 x1) (st120_0 x0 x1) (R120_0) w0 x0 () hm0 rfl rfl (fun z0 hn0 => ?_) fun n0 a0 z0 w0b hi0 hx0 h hb0 hr0 => ?_
   ·clear hm0
    exact wx [(decide ((cnt 0 x0.length) < (ln x0)), false)] w0 (sa120_0) (Ra120_0) lv120 26 [false] [] [] 0 [] () hC trivial ⟨(cE hl0), trivial⟩ hn0
   ·unfold F120_l0 at h
    obtain ⟨y2, h3, h⟩ := bE h
    rcases bC ((a0 != y2)) with h4 | h4
    ·replace h := cT h4 h
     cases h
    ·replace h := cF h4 h
     exact wx [(decide ((cnt 0 n0) < (ln x0)), true), ((a0 != y2), false)] w0b (st120_0 x0 x1 (n0 + 1)) (R120_0 (n0 + 1)) lv120 36 [true, false] [.row (x0.map pI) (cnt 0 n0) (pI a0), .row (x1.map pI) (cnt 0 n0) (pI y2)] [] 0 [] () hC ⟨(rC hx0 hl0), rg h3, trivial⟩ ⟨(cL hi0 hl0), h4, trivial⟩ (sI h).symm
  ·have h := hnext0 _ hs0
   replace h := sI h
   subst h
   exact wr [] lv120 23 [] [] [] [.tmp 4] 0 [] hC trivial trivial
def e120 := en Tryz.func120
def lv121 : List Nat := [0, 1, 4, 5, 10, 12, 13, 14, 24]
def st121_0 (x0 : List api_Part) (x1 : List api_Part) (n0 : Nat) (z0 : Unit) : St := [(0, .d (DS q86 x0)), (1, .d (DS q86 x1)), (4, dB false), (12, dI (ln x0)), (13, dI (cnt 0 n0))]
def R121_0  (n0 : Nat) (z0 : Unit) : List Res := []
def sa121_0  (z0 : Unit) : St := [(4, dB false)]
def Ra121_0  (z0 : Unit) : List Res := []
theorem k121 (x0 : List api_Part) (x1 : List api_Part) (r : Bool) (h : F121 x0 x1 = some r) : CO 121 [.d (DS q86 x0), .d (DS q86 x1)] [] (.d (Bo r)) [] := by
 unfold F121 at h
 refine co 26 Tryz.func121 fun C hC => ?_
 rcases bC (((ln x0) != (ln x1))) with h1 | h1
 ·replace h := cT h1 h
  cases h
 ·replace h := cF h1 h
  refine ws [(((ln x0) != (ln x1)), false)] lv121 31 [false] [.len (ln (x0.map q86)) (ln x0), .len (ln (x1.map q86)) (ln x1), .len (ln (x0.map q86)) (ln x0)] [] 0 [] (st121_0 x0 x1 0 ()) (R121_0 0 ()) hC ⟨lM _ _, lM _ _, lM _ _, trivial⟩ ⟨h1, trivial⟩ ?_
  obtain ⟨w0, hm0, hret0, hnext0⟩ := aIn h
  clear h
  refine wc w0 (sa121_0) (Ra121_0) ?_ fun z0 hs0 => ?_
  ·refine wb ?_
   refine wL 0 rfl fun hl0 => ?_
   refine wF (by kernel_rfl) (F121_l0 x1) (st121_0 x0 x1) (R121_0) w0 x0 () hm0 rfl rfl (fun z0 hn0 => ?_) fun n0 a0 z0 w0b hi0 hx0 h hb0 hr0 => ?_
   ·clear hm0
    exact wx [(decide ((cnt 0 x0.length) < (ln x0)), false)] w0 (sa121_0) (Ra121_0) lv121 26 [false] [] [] 0 [] () hC trivial ⟨(cE hl0), trivial⟩ hn0
   ·unfold F121_l0 at h
    obtain ⟨y2, h3, h⟩ := bE h
    rcases bC ((c121_1 a0 y2)) with h4 | h4
    ·replace h := cT h4 h
     cases h
    ·replace h := cF h4 h
     exact wx [(decide ((cnt 0 n0) < (ln x0)), true), ((c121_1 a0 y2), false)] w0b (st121_0 x0 x1 (n0 + 1)) (R121_0 (n0 + 1)) lv121 36 [true, false] [.row (x0.map q86) (cnt 0 n0) (q86 a0), .row (x1.map q86) (cnt 0 n0) (q86 y2)] [] 0 [] () hC ⟨(rC hx0 hl0), rg h3, trivial⟩ ⟨(cL hi0 hl0), h4, trivial⟩ (sI h).symm
  ·have h := hnext0 _ hs0
   replace h := sI h
   subst h
   exact wr [] lv121 23 [] [] [] [.tmp 4] 0 [] hC trivial trivial
def e121 := en Tryz.func121
theorem k58s0 (x0 : Int) (x1 : api_Plant) (r : Bool) (h : F58s0 x0 x1 = r) : CO 58 [.d (I x0), .d (.ip [.v (.int .i64 x1.Time), .s (x1.Power.Closed.map pB), .s (x1.Power.Sources.map q120), .s (x1.Power.Limits.map pI), .s (x1.Power.Broken.map q86), .s (x1.Rosters.map q130), .s (x1.Events.map q51)])] [] (.d (Bo r)) [] := by
 unfold F58s0 at h
 refine co 12 Tryz.func58 fun C hC => ?_
 subst h
 exact wr [] [0, 1, 3] 25 [] [] [] [.tmp 3] 0 [] hC trivial trivial
def e58s0 := en Tryz.func58
theorem k123 (x0 : List api_Roster) (r : List api_Roster) (h : F123 x0 = some r) : CO 123 [.d (.p (.s (x0.map q130)))] [] (.d (.os 0)) [v2_ r] := by
 unfold F123 at h
 refine co 8 Tryz.func123 fun C hC => ?_
 refine ws [] [0, 4] 40 [] [] [] 0 [] [(0, .d (.p (.s (x0.map q130)))), (4, .d (.nq (x0.map q130)))] [] hC trivial trivial ?_
 refine WI_nq 4 (by kernel_rfl) (by kernel_rfl) rfl (fun hn => ?_) ?_
 ·have hx : x0 = [] := by cases x0 with | nil => rfl | cons => cases hn
  subst hx
  have hr : r = [] := by simpa [appI] using h.symm
  subst hr
  exact wr [] [2] 40 [] [] [.own 2 130 2] [.tmp 2] 0 [0] hC trivial trivial
 ·exact wr [] [2] 40 [] [.own, (.app [] (x0.map q130) 2 ((([] : List (List Pd)).length + (x0.map q130).length) * (16 + 1)) (r.map q130))] [] [.tmp 2] 0 [1] hC ⟨trivial, aG (l := []) q130 2 (fun _ => rfl) h, trivial⟩ trivial
def e123 := en Tryz.func123
theorem k84 (x0 : List api_Event) (r : List api_Event) (h : F84 x0 = some r) : CO 84 [.d (.p (.s (x0.map q51)))] [] (.d (.os 0)) [v1_ r] := by
 unfold F84 at h
 refine co 8 Tryz.func84 fun C hC => ?_
 refine ws [] [0, 4] 40 [] [] [] 0 [] [(0, .d (.p (.s (x0.map q51)))), (4, .d (.nq (x0.map q51)))] [] hC trivial trivial ?_
 refine WI_nq 4 (by kernel_rfl) (by kernel_rfl) rfl (fun hn => ?_) ?_
 ·have hx : x0 = [] := by cases x0 with | nil => rfl | cons => cases hn
  subst hx
  have hr : r = [] := by simpa [appI] using h.symm
  subst hr
  exact wr [] [2] 40 [] [] [.own 2 51 5] [.tmp 2] 0 [0] hC trivial trivial
 ·exact wr [] [2] 40 [] [.own, (.app [] (x0.map q51) 5 ((([] : List (List Pd)).length + (x0.map q51).length) * (40 + 1)) (r.map q51))] [] [.tmp 2] 0 [1] hC ⟨trivial, aG (l := []) q51 5 (fun _ => rfl) h, trivial⟩ trivial
def e84 := en Tryz.func84
theorem k181 (x0 : api_Board) (x1 : Int) (x2 : Int) (r : Bool) (h : F181 x0 x1 x2 = some r) : CO 181 [.agg (d29 x0), .d (I x1), .d (I x2)] [] (.d (Bo r)) [] := by
 unfold F181 at h
 refine co 35 Tryz.func181 fun C hC => ?_
 rcases bC ((x1 == 1)) with h1 | h1
 ·replace h := cT h1 h
  replace h := sI h
  subst h
  exact wr [((x1 == 1), true)] [0, 1, 2, 3, 6, 7, 8, 9, 14, 19, 23] 36 [true] [.len (ln (x0.Sources.map q139)) (ln x0.Sources)] [] [.tmp 6] 0 [] hC ⟨lM _ _, trivial⟩ ⟨h1, trivial⟩
 ·replace h := cF h1 h
  rcases bC ((x1 == 2)) with h2 | h2
  ·replace h := cT h2 h
   replace h := sI h
   subst h
   exact wr [((x1 == 1), false), ((x1 == 2), true)] [0, 1, 2, 3, 6, 7, 8, 9, 14, 19, 23] 39 [false, true] [.len (ln (x0.Breakers.map q147)) (ln x0.Breakers)] [] [.tmp 6] 0 [] hC ⟨lM _ _, trivial⟩ ⟨h1, h2, trivial⟩
  ·replace h := cF h2 h
   cases h
def e181 := en Tryz.func181
theorem k244s0 (x0 : api_Breaker) (x1 : Int) (r : Bool) (h : F244s0 x0 x1 = r) : CO 244 [.agg (d147 x0), .d (.ip [.v (.int .i64 x1)])] [] (.d (Bo r)) [] := by
 unfold F244s0 at h
 refine co 13 Tryz.func244 fun C hC => ?_
 subst h
 exact wr [] n4_ 25 [] [] [] [.tmp 3] 0 [] hC trivial trivial
def e244s0 := en Tryz.func244
theorem k224 (x0 : api_Part) (x1 : api_Part) (r : Int) (h : F224 x0 x1 = r) : CO 224 [.agg (d86 x0), .agg (d86 x1)] [] (.d (I r)) [] := by
 unfold F224 at h
 refine co 20 Tryz.func224 fun C hC => ?_
 rcases bC ((x0.Kind != x1.Kind)) with h1 | h1
 ·replace h := cT h1 h
  subst h
  exact wr [((x0.Kind != x1.Kind), true)] [0, 1, 2, 3, 4, 9] 29 [true] [] [] [.tmp 4] 0 [] hC trivial ⟨h1, trivial⟩
 ·replace h := cF h1 h
  subst h
  exact wr [((x0.Kind != x1.Kind), false)] [0, 1, 2, 3, 4, 9] 30 [false] [] [] [.tmp 4] 0 [] hC trivial ⟨h1, trivial⟩
def e224 := en Tryz.func224
theorem k225s0 (x0 : List api_Part) (x1 : Int) (x2 : List api_Part) (r : (List api_Part)) (h : F225s0 x0 x1 x2 = some r) : CO 225 [.d (.os 0), .d (I x1), .d (DS q86 x2)] [v4_ x0] (.d (.os 1)) [.non, v4_ r] := by
 unfold F225s0 at h
 refine co 95 Tryz.func225 fun C hC => ?_
 obtain ⟨u2, h1, h⟩ := bE h
 rcases bC (((ln x2) == 0)) with h3 | h3
 ·replace h := cT h3 h
  cases h
 ·replace h := cF h3 h
  refine ws [(((ln x2) == 0), false)] [0, 1, 2, 6, 7, 8, 9, 16, 22, 31, 68] 37 [false] [.bnd (x0.map q86).length x1 (((x0.map q86).length : Nat) : Int) (ln x0), .len (ln (x2.map q86)) (ln x2), .len (ln (x0.map q86)) (ln x0)] [] 1 [0] [(0, dS 0), (1, dI x1), (2, .d (DS q86 x2)), (6, .d (DS q86 [])), (7, dI (ln x2)), (8, dI (ln x0)), (22, dB (x1 == (ln x0)))] [v4_ x0] hC ⟨bnd_get (by simp) (by simp) h1, lM _ _, lM _ _, trivial⟩ ⟨h3, trivial⟩ ?_
  rcases bC ((x1 == (ln x0))) with h4 | h4
  ·replace h := cT h4 h
   obtain ⟨y5, h6, h⟩ := bE h
   replace h := sI h
   subst h
   exact wr [((x1 == (ln x0)), true)] [0, 1, 2, 6, 7, 8, 9, 16, 22, 31, 68] 24 [true] [.app (x0.map q86) (x2.map q86) 2 (((x0.map q86).length + (x2.map q86).length) * (16 + 1)) (y5.map q86)] [] [.tmp 6] 1 [0, 1] hC ⟨aG q86 2 (fun _ => rfl) h6, trivial⟩ ⟨h4, trivial⟩
  ·replace h := cF h4 h
   cases h
def e225s0 := en Tryz.func225
theorem k124s1 (x0 : plant_runner) (x1 : api_Act) (x2 : Int) (r : plant_runner) (h : F124s1 x0 x1 x2 = some r) : CO 124 [.d (.o 0 0), .agg (d49 x1), .d (I x2)] (.box 100 (I x0.Plant.Time :: .os 1 :: .os 2 :: .os 3 :: .os 4 :: .os 5 :: .os 6 :: zb x0.board [.os 7, .os 8]) :: zp x0.Plant.Power [v2_ x0.Plant.Rosters, v1_ x0.Plant.Events, v1_ x0.events, v7_ x0.states]) (.tup []) (.box 100 (I r.Plant.Time :: .os 1 :: .os 2 :: .os 3 :: .os 4 :: .os 5 :: .os 6 :: zb r.board [.os 9, .os 8]) :: zp r.Plant.Power [v2_ r.Plant.Rosters, v1_ r.Plant.Events, .non, v7_ r.states, v1_ r.events]) := by
 unfold F124s1 at h
 refine co 23 Tryz.func124 fun C hC => ?_
 obtain ⟨y1, h2, h⟩ := bE h
 replace h := sI h
 subst h
 exact wf [] [0, 1, 2, 4] 23 [] [.app (x0.events.map q51) ([(⟨x0.Plant.Time, x1, x2⟩ : api_Event)].map q51) 5 (((x0.events.map q51).length + ([(⟨x0.Plant.Time, x1, x2⟩ : api_Event)].map q51).length) * (40 + 1)) (y1.map q51)] [] [] 9 [0, 1, 2, 3, 4, 5, 6, 7, 8, 10] hC ⟨aG q51 5 (fun _ => rfl) h2, trivial⟩ trivial
def e124s1 := en Tryz.func124
theorem k230s1 (x0 : shed_relief) (x1 : Int) (r : shed_relief) (h : F230s1 x0 x1 = some r) : CO 230 [.d (.o 0 0), .d (I x1)] (.box 235 (zb x0.board [.os 1, .os 2, .os 3, .os 4, .os 5]) :: zp x0.power [v6_ x0.acts]) (.tup []) (.box 235 (zb r.board [.os 1, .os 2, .os 3, .os 4, .os 6]) :: zp r.power [.non, v6_ r.acts]) := by
 unfold F230s1 at h
 refine co 22 Tryz.func230 fun C hC => ?_
 obtain ⟨y1, h2, h⟩ := bE h
 obtain ⟨y3, h4, h⟩ := bE h
 obtain ⟨y5, h6, h⟩ := bE h
 replace h := sI h
 subst h
 exact wf [] [0, 1] 23 [] [.row (x0.power.Closed.map pB) x1 (pB y1), .upd (x0.power.Closed.map pB) (Int.toNat x1) (pB y1) (pB false) (y3.map pB), .app (x0.acts.map q49) ([(⟨2, x1, 0⟩ : api_Act)].map q49) 3 (((x0.acts.map q49).length + ([(⟨2, x1, 0⟩ : api_Act)].map q49).length) * (24 + 1)) (y5.map q49)] [] [] 6 n7_ hC ⟨rg h2, uG h2 h4, aG q49 3 (fun _ => rfl) h6, trivial⟩ trivial
def e230s1 := en Tryz.func230
def lv246s0 : List Nat := [0, 1, 2, 3, 8, 9, 14, 34]
def st246s0_0 (x0 : List Int) (x1 : Int) (x2 : Int) (x3c0 : api_Board) (z0 : Unit) : St := [(0, .d (DS pI x0)), (1, dI x1), (2, dI x2), (3, .d (.fn (.func 233) [] [.ip [.v (.int .i64 x3c0.Buses), .s (x3c0.Breakers.map q147), .s (x3c0.Sources.map q139), .s (x3c0.Consumers.map q65), .v (.int .i64 x3c0.Phase), .v (.int .i64 x3c0.Frequency)]])), (8, dI (w64 (x1 + 1)))]
def R246s0_0  (z0 : Unit) : List Res := []
def sa246s0_0  (z0 : Unit) : St := []
def Ra246s0_0  (z0 : Unit) : List Res := []
theorem k246s0 (x0 : List Int) (x1 : Int) (x2 : Int) (x3c0 : api_Board) (r : Unit) (h : F246s0 x0 x1 x2 x3c0 = some r) : CO 246 [.d (DS pI x0), .d (I x1), .d (I x2), .d (.fn (.func 233) [] [.ip [.v (.int .i64 x3c0.Buses), .s (x3c0.Breakers.map q147), .s (x3c0.Sources.map q139), .s (x3c0.Consumers.map q65), .v (.int .i64 x3c0.Phase), .v (.int .i64 x3c0.Frequency)]])] [] (.tup []) [] := by
 unfold F246s0 at h
 refine co 53 Tryz.func246 fun C hC => ?_
 refine ws [] lv246s0 23 [] [] [] 0 [] (st246s0_0 x0 x1 x2 x3c0 ()) (R246s0_0 ()) hC trivial trivial ?_
 obtain ⟨w0, hm0, hret0, hnext0⟩ := aIn h
 clear h
 refine wc w0 (sa246s0_0) (Ra246s0_0) ?_ fun z0 hs0 => ?_
 ·refine wb ?_
  refine wW (by kernel_rfl) (F246s0_l0 x1 x2) (st246s0_0 x0 x1 x2 x3c0) (R246s0_0) w0 1152921504606846976 () hm0 rfl rfl fun z0 w0b h hb0 hr0 => ?_
  unfold F246s0_l0 at h
  rcases bC (decide ((w64 (x1 + 1)) < x2)) with h1 | h1
  ·replace h := cT h1 h
   cases h
  ·replace h := cF h1 h
   exact wx [(decide ((w64 (x1 + 1)) < x2), false)] w0 (sa246s0_0) (Ra246s0_0) lv246s0 26 [false] [] [] 0 [] () hC trivial ⟨h1, trivial⟩ (hb0 _ (sI h).symm)
 ·have h := hnext0 _ hs0
  replace h := sI h
  subst h
  exact wf [] lv246s0 20 [] [] [] [] 0 [] hC trivial trivial
def e246s0 := en Tryz.func246
theorem k174s0 (x0 : Int) (x1 : Int) (r : Bool) (h : F174s0 x0 x1 = r) : CO 174 [.d (I x0), .d (.ip [.v (.int .i64 x1)])] [] (.d (Bo r)) [] := by
 unfold F174s0 at h
 refine co 11 Tryz.func174 fun C hC => ?_
 subst h
 exact wr [] [0, 1, 3] 25 [] [] [] [.tmp 3] 0 [] hC trivial trivial
def e174s0 := en Tryz.func174
theorem k212 (x0 : List Int) : CO 212 [.d (.p (.s (x0.map pI)))] [] (.d (.fn (.func 236) [] [.o 0 0])) [.box 22 [.p (.s (x0.map pI))]] := by
 refine co 4 Tryz.func212 fun C hC => ?_
 exact wr [] [1, 2] 40 [] [] [] [.tmp 2] 0 [0] hC trivial trivial
def e212 := en Tryz.func212
theorem k219s0 (x0 : api_Breaker) (x1 : Int) (r : Bool) (h : F219s0 x0 x1 = r) : CO 219 [.agg (d147 x0), .d (.ip [.v (.int .i64 x1)])] [] (.d (Bo r)) [] := by
 unfold F219s0 at h
 refine co 13 Tryz.func219 fun C hC => ?_
 subst h
 exact wr [] n4_ 25 [] [] [] [.tmp 3] 0 [] hC trivial trivial
def e219s0 := en Tryz.func219
theorem k176 (x0 : Int) (x1 : Bool) (x2 : Int) (r : Int) (h : F176 x0 x1 x2 = some r) : CO 176 [.d (I x0), .d (Bo x1), .d (I x2)] [] (.d (I r)) [] := by
 unfold F176 at h
 refine co 15 Tryz.func176 fun C hC => ?_
 rcases bC (!x1) with h1 | h1
 ·replace h := cT h1 h
  replace h := sI h
  subst h
  exact wr [(!x1, true)] [0, 1, 2, 6, 7, 10] 30 [true] [] [] [.tmp 6] 0 [] hC trivial ⟨h1, trivial⟩
 ·replace h := cF h1 h
  cases h
def e176 := en Tryz.func176
def lv37 : List Nat := [0, 1, 4, 5, 10, 12, 13, 14, 24]
def st37_0 (x0 : List Bool) (x1 : List Bool) (n0 : Nat) (z0 : Unit) : St := [(0, .d (DS pB x0)), (1, .d (DS pB x1)), (4, dB false), (12, dI (ln x0)), (13, dI (cnt 0 n0))]
def R37_0  (n0 : Nat) (z0 : Unit) : List Res := []
def sa37_0  (z0 : Unit) : St := [(4, dB false)]
def Ra37_0  (z0 : Unit) : List Res := []
theorem k37 (x0 : List Bool) (x1 : List Bool) (r : Bool) (h : F37 x0 x1 = some r) : CO 37 [.d (DS pB x0), .d (DS pB x1)] [] (.d (Bo r)) [] := by
 unfold F37 at h
 refine co 26 Tryz.func37 fun C hC => ?_
 rcases bC (((ln x0) != (ln x1))) with h1 | h1
 ·replace h := cT h1 h
  cases h
 ·replace h := cF h1 h
  refine ws [(((ln x0) != (ln x1)), false)] lv37 31 [false] [.len (ln (x0.map pB)) (ln x0), .len (ln (x1.map pB)) (ln x1), .len (ln (x0.map pB)) (ln x0)] [] 0 [] (st37_0 x0 x1 0 ()) (R37_0 0 ()) hC ⟨lM _ _, lM _ _, lM _ _, trivial⟩ ⟨h1, trivial⟩ ?_
  obtain ⟨w0, hm0, hret0, hnext0⟩ := aIn h
  clear h
  refine wc w0 (sa37_0) (Ra37_0) ?_ fun z0 hs0 => ?_
  ·refine wb ?_
   refine wL 0 rfl fun hl0 => ?_
   refine wF (by kernel_rfl) (F37_l0 x1) (st37_0 x0 x1) (R37_0) w0 x0 () hm0 rfl rfl (fun z0 hn0 => ?_) fun n0 a0 z0 w0b hi0 hx0 h hb0 hr0 => ?_
   ·clear hm0
    exact wx [(decide ((cnt 0 x0.length) < (ln x0)), false)] w0 (sa37_0) (Ra37_0) lv37 26 [false] [] [] 0 [] () hC trivial ⟨(cE hl0), trivial⟩ hn0
   ·unfold F37_l0 at h
    obtain ⟨y2, h3, h⟩ := bE h
    rcases bC (!(a0 == y2)) with h4 | h4
    ·replace h := cT h4 h
     cases h
    ·replace h := cF h4 h
     exact wx [(decide ((cnt 0 n0) < (ln x0)), true), (!(a0 == y2), false)] w0b (st37_0 x0 x1 (n0 + 1)) (R37_0 (n0 + 1)) lv37 36 [true, false] [.row (x0.map pB) (cnt 0 n0) (pB a0), .row (x1.map pB) (cnt 0 n0) (pB y2)] [] 0 [] () hC ⟨(rC hx0 hl0), rg h3, trivial⟩ ⟨(cL hi0 hl0), h4, trivial⟩ (sI h).symm
  ·have h := hnext0 _ hs0
   replace h := sI h
   subst h
   exact wr [] lv37 23 [] [] [] [.tmp 4] 0 [] hC trivial trivial
def e37 := en Tryz.func37
def lv38 : List Nat := [0, 1, 4, 5, 10, 12, 13, 14, 24]
def st38_0 (x0 : List Int) (x1 : List Int) (n0 : Nat) (z0 : Unit) : St := [(0, .d (DS pI x0)), (1, .d (DS pI x1)), (4, dB false), (12, dI (ln x0)), (13, dI (cnt 0 n0))]
def R38_0  (n0 : Nat) (z0 : Unit) : List Res := []
def sa38_0  (z0 : Unit) : St := [(4, dB false)]
def Ra38_0  (z0 : Unit) : List Res := []
theorem k38 (x0 : List Int) (x1 : List Int) (r : Bool) (h : F38 x0 x1 = some r) : CO 38 [.d (DS pI x0), .d (DS pI x1)] [] (.d (Bo r)) [] := by
 unfold F38 at h
 refine co 26 Tryz.func38 fun C hC => ?_
 rcases bC (((ln x0) != (ln x1))) with h1 | h1
 ·replace h := cT h1 h
  cases h
 ·replace h := cF h1 h
  refine ws [(((ln x0) != (ln x1)), false)] lv38 31 [false] [.len (ln (x0.map pI)) (ln x0), .len (ln (x1.map pI)) (ln x1), .len (ln (x0.map pI)) (ln x0)] [] 0 [] (st38_0 x0 x1 0 ()) (R38_0 0 ()) hC ⟨lM _ _, lM _ _, lM _ _, trivial⟩ ⟨h1, trivial⟩ ?_
  obtain ⟨w0, hm0, hret0, hnext0⟩ := aIn h
  clear h
  refine wc w0 (sa38_0) (Ra38_0) ?_ fun z0 hs0 => ?_
  ·refine wb ?_
   refine wL 0 rfl fun hl0 => ?_
   refine wF (by kernel_rfl) (F38_l0 x1) (st38_0 x0 x1) (R38_0) w0 x0 () hm0 rfl rfl (fun z0 hn0 => ?_) fun n0 a0 z0 w0b hi0 hx0 h hb0 hr0 => ?_
   ·clear hm0
    exact wx [(decide ((cnt 0 x0.length) < (ln x0)), false)] w0 (sa38_0) (Ra38_0) lv38 26 [false] [] [] 0 [] () hC trivial ⟨(cE hl0), trivial⟩ hn0
   ·unfold F38_l0 at h
    obtain ⟨y2, h3, h⟩ := bE h
    rcases bC ((a0 != y2)) with h4 | h4
    ·replace h := cT h4 h
     cases h
    ·replace h := cF h4 h
     exact wx [(decide ((cnt 0 n0) < (ln x0)), true), ((a0 != y2), false)] w0b (st38_0 x0 x1 (n0 + 1)) (R38_0 (n0 + 1)) lv38 36 [true, false] [.row (x0.map pI) (cnt 0 n0) (pI a0), .row (x1.map pI) (cnt 0 n0) (pI y2)] [] 0 [] () hC ⟨(rC hx0 hl0), rg h3, trivial⟩ ⟨(cL hi0 hl0), h4, trivial⟩ (sI h).symm
  ·have h := hnext0 _ hs0
   replace h := sI h
   subst h
   exact wr [] lv38 23 [] [] [] [.tmp 4] 0 [] hC trivial trivial
def e38 := en Tryz.func38
theorem k90 (x0 : api_Island) (r : Bool) (h : F90 x0 = r) : CO 90 [.agg (d84 x0)] [] (.d (Bo r)) [] := by
 unfold F90 at h
 refine co 7 Tryz.func90 fun C hC => ?_
 subst h
 exact wr [] n3_ 25 [] [.len (ln (x0.Sources.map pI)) (ln x0.Sources)] [] [.tmp 2] 0 [] hC ⟨lM _ _, trivial⟩ trivial
def e90 := en Tryz.func90
theorem k32 (x0 : dynposmake_Src) (x1 : Int) (r : Int × dynposmake_Src) (h : F32 x0 x1 = some r) : CO 32 [.d (.o 0 0), .d (I x1)] [.box 90 (d90 x0)] (.d (I r.1)) [.box 90 (d90 r.2)] := by
 unfold F32 at h
 refine co 35 Tryz.func32 fun C hC => ?_
 rcases bC (decide (x0.At >= (ln x0.L))) with h1 | h1
 ·replace h := cT h1 h
  replace h := sI h
  subst h
  exact wr [(decide (x0.At >= (ln x0.L)), true)] [0, 1, 4, 14] 29 [true] [.len (ln (x0.L.map pI)) (ln x0.L)] [] [.tmp 4] 1 [0] hC ⟨lM _ _, trivial⟩ ⟨h1, trivial⟩
 ·replace h := cF h1 h
  obtain ⟨y2, h3, h⟩ := bE h
  obtain ⟨y4, h5, h⟩ := bE h
  replace h := sI h
  subst h
  exact wr [(decide (x0.At >= (ln x0.L)), false)] [0, 1, 4, 14] 32 [false] [.len (ln (x0.L.map pI)) (ln x0.L), .row (x0.L.map pI) (w64 ((w64 (x0.At + 1)) - 1)) (pI y2), .call 80 [dI y2, dI x1] [] (dI y4) [] []] [] [.tmp 4] 1 [0] hC ⟨lM _ _, rg h3, ⟨e80, (k80 y2 x1 _ h5)⟩, trivial⟩ ⟨h1, trivial⟩
def e32 := en Tryz.func32
def lv71 : List Nat := [0, 1, 2, 3, 4, 6, 7, 16, 25, 33]
theorem k71 (x0 : api_Board) (x1 : api_Part) (r : Bool) (h : F71 x0 x1 = r) : CO 71 [.agg (d29 x0), .agg (d86 x1)] [] (.d (Bo r)) [] := by
 unfold F71 at h
 refine co 42 Tryz.func71 fun C hC => ?_
 rcases bC ((x1.Kind == 1)) with h1 | h1
 ·replace h := cT h1 h
  subst h
  exact wr [((x1.Kind == 1), true)] lv71 32 [true] [.len (ln (x0.Sources.map q139)) (ln x0.Sources), .call 112 [dI x1.Number, dI 0, dI (w64 ((ln x0.Sources) - 1))] [] (.d (Bo (F112 x1.Number 0 (w64 ((ln x0.Sources) - 1))))) [] []] [] [.tmp 4] 0 [] hC ⟨lM _ _, ⟨e112, (k112 x1.Number 0 (w64 ((ln x0.Sources) - 1)) _ rfl)⟩, trivial⟩ ⟨h1, trivial⟩
 ·replace h := cF h1 h
  rcases bC ((x1.Kind == 2)) with h2 | h2
  ·replace h := cT h2 h
   subst h
   exact wr [((x1.Kind == 1), false), ((x1.Kind == 2), true)] lv71 35 [false, true] [.len (ln (x0.Breakers.map q147)) (ln x0.Breakers), .call 112 [dI x1.Number, dI 0, dI (w64 ((ln x0.Breakers) - 1))] [] (.d (Bo (F112 x1.Number 0 (w64 ((ln x0.Breakers) - 1))))) [] []] [] [.tmp 4] 0 [] hC ⟨lM _ _, ⟨e112, (k112 x1.Number 0 (w64 ((ln x0.Breakers) - 1)) _ rfl)⟩, trivial⟩ ⟨h1, h2, trivial⟩
  ·replace h := cF h2 h
   rcases bC ((x1.Kind == 3)) with h3 | h3
   ·replace h := cT h3 h
    subst h
    exact wr [((x1.Kind == 1), false), ((x1.Kind == 2), false), ((x1.Kind == 3), true)] lv71 38 [false, false, true] [.call 112 [dI x1.Number, dI 0, dI (w64 (x0.Buses - 1))] [] (dB (F112 x1.Number 0 (w64 (x0.Buses - 1)))) [] []] [] [.tmp 4] 0 [] hC ⟨⟨e112, (k112 x1.Number 0 (w64 (x0.Buses - 1)) _ rfl)⟩, trivial⟩ ⟨h1, h2, h3, trivial⟩
   ·replace h := cF h3 h
    rcases bC ((x1.Kind == 4)) with h4 | h4
    ·replace h := cT h4 h
     subst h
     exact wr [((x1.Kind == 1), false), ((x1.Kind == 2), false), ((x1.Kind == 3), false), ((x1.Kind == 4), true)] lv71 41 [false, false, false, true] [.len (ln (x0.Consumers.map q65)) (ln x0.Consumers), .call 112 [dI x1.Number, dI 0, dI (w64 ((ln x0.Consumers) - 1))] [] (.d (Bo (F112 x1.Number 0 (w64 ((ln x0.Consumers) - 1))))) [] []] [] [.tmp 4] 0 [] hC ⟨lM _ _, ⟨e112, (k112 x1.Number 0 (w64 ((ln x0.Consumers) - 1)) _ rfl)⟩, trivial⟩ ⟨h1, h2, h3, h4, trivial⟩
    ·replace h := cF h4 h
     subst h
     exact wr [((x1.Kind == 1), false), ((x1.Kind == 2), false), ((x1.Kind == 3), false), ((x1.Kind == 4), false)] lv71 43 [false, false, false, false] [] [] [.tmp 4] 0 [] hC trivial ⟨h1, h2, h3, h4, trivial⟩
def e71 := en Tryz.func71
def lv163 : List Nat := [0, 1, 2, 3, 4, 6, 7, 8, 10, 11, 12, 13, 23, 25, 26, 37, 38, 47, 48, 57, 61, 62, 63, 64, 69, 74, 75, 76, 82, 86, 87, 88, 94]
def st163_0 (x0 : api_Board) (n0 : Nat) (z0 : Unit) : St := [(1, dO 0 0), (2, dB false), (10, .d (DS q147 x0.Breakers)), (11, dI (ln x0.Breakers)), (12, dI (cnt 0 n0))]
def R163_0 (x0 : api_Board) (n0 : Nat) (z0 : Unit) : List Res := [.box 29 (d29 x0)]
def sa163_0  (z0 : Unit) : St := [(1, dO 0 0), (2, dB false)]
def Ra163_0 (x0 : api_Board) (z0 : Unit) : List Res := [.box 29 (d29 x0)]
def st163_1 (x0 : api_Board) (n0 : Nat) (y9 : List api_Breaker) (n1 : Nat) (z1 : Unit) : St := [(1, dO 0 0), (2, dB false), (4, dO 1 0), (10, .d (DS q147 x0.Breakers)), (11, dI (ln x0.Breakers)), (12, dI (cnt 0 n0)), (61, .d (DS q147 y9)), (62, dI (ln y9)), (63, dI (cnt 0 n1))]
def R163_1 (x0 : api_Board) (a0 : api_Breaker) (n1 : Nat) (z1 : Unit) : List Res := [.box 29 (d29 x0), .box 147 (d147 a0)]
def sa163_1 (x0 : api_Board) (n0 : Nat) (z1 : Unit) : St := [(1, dO 0 0), (2, dB false), (10, .d (DS q147 x0.Breakers)), (11, dI (ln x0.Breakers)), (12, dI (cnt 0 n0))]
def Ra163_1 (x0 : api_Board) (z1 : Unit) : List Res := [.box 29 (d29 x0)]
def st163_2 (x0 : api_Board) (z2 : Int) : St := [(1, dO 0 0), (2, dB false), (74, dI (ln x0.Sources)), (75, dI z2)]
def R163_2 (x0 : api_Board) (z2 : Int) : List Res := [.box 29 (d29 x0)]
def sa163_2  (z2 : Int) : St := [(1, dO 0 0), (2, dB false)]
def Ra163_2 (x0 : api_Board) (z2 : Int) : List Res := [.box 29 (d29 x0)]
def st163_3 (x0 : api_Board) (z3 : Int) : St := [(1, dO 0 0), (2, dB false), (86, dI (ln x0.Consumers)), (87, dI z3)]
def R163_3 (x0 : api_Board) (z3 : Int) : List Res := [.box 29 (d29 x0)]
def sa163_3  (z3 : Int) : St := [(2, dB false)]
def Ra163_3  (z3 : Int) : List Res := []
theorem k163 (x0 : api_Board) (r : Bool) (h : F163 x0 = some r) : CO 163 [.agg (d29 x0)] [] (.d (Bo r)) [] := by
 unfold F163 at h
 refine co 96 Tryz.func163 fun C hC => ?_
 refine ws [] lv163 26 [] [.len (ln (x0.Breakers.map q147)) (ln x0.Breakers)] [] 0 [0] (st163_0 x0 0 ()) (R163_0 x0 0 ()) hC ⟨lM _ _, trivial⟩ trivial ?_
 obtain ⟨w0, hm0, hret0, hnext0⟩ := aIn h
 clear h
 refine wc w0 (sa163_0) (Ra163_0 x0) ?_ fun z0 hs0 => ?_
 ·refine wb ?_
  refine wL 10 rfl fun hl0 => ?_
  refine wF (by kernel_rfl) (F163_l0 x0) (st163_0 x0) (R163_0 x0) w0 x0.Breakers () hm0 rfl rfl (fun z0 hn0 => ?_) fun n0 a0 z0 w0b hi0 hx0 h hb0 hr0 => ?_
  ·clear hm0
   exact wx [(decide ((cnt 0 x0.Breakers.length) < (ln x0.Breakers)), false)] w0 (sa163_0) (Ra163_0 x0) lv163 26 [false] [] [] 0 [0] () hC trivial ⟨(cE hl0), trivial⟩ hn0
  ·unfold F163_l0 at h
   refine ws [(decide ((cnt 0 n0) < (ln x0.Breakers)), true)] lv163 33 [true] [.row (x0.Breakers.map q147) (cnt 0 n0) (q147 a0), .call 112 [dI a0.A, dI 0, dI (w64 (x0.Buses - 1))] [] (dB (F112 a0.A 0 (w64 (x0.Buses - 1)))) [] []] [] 0 [0, 1] [(1, dO 0 0), (2, dB false), (3, dI (cnt 0 n0)), (4, dO 1 0), (10, .d (DS q147 x0.Breakers)), (11, dI (ln x0.Breakers)), (12, dI (cnt 0 n0)), (23, .d (Bo (!(F112 a0.A 0 (w64 (x0.Buses - 1))))))] [.box 29 (d29 x0), .box 147 (d147 a0)] hC ⟨(rC hx0 hl0), ⟨e112, (k112 a0.A 0 (w64 (x0.Buses - 1)) _ rfl)⟩, trivial⟩ ⟨(cL hi0 hl0), trivial⟩ ?_
   rcases bC (!(F112 a0.A 0 (w64 (x0.Buses - 1)))) with h1 | h1
   ·replace h := cT h1 h
    have hq := hret0 _ (hr0 _ (sI h).symm)
    replace hq := sI hq
    subst hq
    exact wr [(!(F112 a0.A 0 (w64 (x0.Buses - 1))), true)] lv163 24 [true] [] [] [.tmp 2] 0 [] hC trivial ⟨h1, trivial⟩
   ·replace h := cF h1 h
    rcases bC ((a0.Kind == 1)) with h2 | h2
    ·replace h := cT h2 h
     rcases bC ((c163_5 x0 a0)) with h3 | h3
     ·replace h := cT h3 h
      have hq := hret0 _ (hr0 _ (sI h).symm)
      replace hq := sI hq
      subst hq
      exact wr [(!(F112 a0.A 0 (w64 (x0.Buses - 1))), false), ((a0.Kind == 1), true), ((c163_5 x0 a0), true)] lv163 34 [false, true, true] [.call 112 [dI a0.B, dI (w64 (a0.A + 1)), dI (w64 (x0.Buses - 1))] [] (dB (F112 a0.B (w64 (a0.A + 1)) (w64 (x0.Buses - 1)))) [] []] [] [.tmp 2] 0 [] hC ⟨⟨e112, (k112 a0.B (w64 (a0.A + 1)) (w64 (x0.Buses - 1)) _ rfl)⟩, trivial⟩ ⟨h1, h2, h3, trivial⟩
     ·replace h := cF h3 h
      exact wx [(!(F112 a0.A 0 (w64 (x0.Buses - 1))), false), ((a0.Kind == 1), true), ((c163_5 x0 a0), false)] w0b (st163_0 x0 (n0 + 1)) (R163_0 x0 (n0 + 1)) lv163 36 [false, true, false] [.call 112 [dI a0.B, dI (w64 (a0.A + 1)), dI (w64 (x0.Buses - 1))] [] (dB (F112 a0.B (w64 (a0.A + 1)) (w64 (x0.Buses - 1)))) [] []] [] 0 [0] () hC ⟨⟨e112, (k112 a0.B (w64 (a0.A + 1)) (w64 (x0.Buses - 1)) _ rfl)⟩, trivial⟩ ⟨h1, h2, h3, trivial⟩ (sI h).symm
    ·replace h := cF h2 h
     rcases bC ((a0.Kind == 2)) with h4 | h4
     ·replace h := cT h4 h
      refine ws [(!(F112 a0.A 0 (w64 (x0.Buses - 1))), false), ((a0.Kind == 1), false), ((a0.Kind == 2), true)] lv163 34 [false, false, true] [.len (ln (x0.Sources.map q139)) (ln x0.Sources), .call 112 [dI a0.B, dI 0, dI (w64 ((ln x0.Sources) - 1))] [] (.d (Bo (F112 a0.B 0 (w64 ((ln x0.Sources) - 1))))) [] []] [] 0 [0] [(1, dO 0 0), (2, dB false), (10, .d (DS q147 x0.Breakers)), (11, dI (ln x0.Breakers)), (12, dI (cnt 0 n0)), (47, dB (c163_6 x0 a0))] [.box 29 (d29 x0)] hC ⟨lM _ _, ⟨e112, (k112 a0.B 0 (w64 ((ln x0.Sources) - 1)) _ rfl)⟩, trivial⟩ ⟨h1, h2, h4, trivial⟩ ?_
      rcases bC ((c163_6 x0 a0)) with h5 | h5
      ·replace h := cT h5 h
       have hq := hret0 _ (hr0 _ (sI h).symm)
       replace hq := sI hq
       subst hq
       exact wr [((c163_6 x0 a0), true)] lv163 24 [true] [] [] [.tmp 2] 0 [] hC trivial ⟨h5, trivial⟩
      ·replace h := cF h5 h
       exact wx [((c163_6 x0 a0), false)] w0b (st163_0 x0 (n0 + 1)) (R163_0 x0 (n0 + 1)) lv163 26 [false] [] [] 0 [0] () hC trivial ⟨h5, trivial⟩ (sI h).symm
     ·replace h := cF h4 h
      rcases bC ((a0.Kind == 3)) with h6 | h6
      ·replace h := cT h6 h
       refine ws [(!(F112 a0.A 0 (w64 (x0.Buses - 1))), false), ((a0.Kind == 1), false), ((a0.Kind == 2), false), ((a0.Kind == 3), true)] lv163 38 [false, false, false, true] [.len (ln (x0.Consumers.map q65)) (ln x0.Consumers), .call 112 [dI a0.B, dI 0, dI (w64 ((ln x0.Consumers) - 1))] [] (.d (Bo (F112 a0.B 0 (w64 ((ln x0.Consumers) - 1))))) [] []] [] 0 [0, 1] [(1, dO 0 0), (2, dB false), (3, dI (cnt 0 n0)), (4, dO 1 0), (10, .d (DS q147 x0.Breakers)), (11, dI (ln x0.Breakers)), (12, dI (cnt 0 n0)), (57, dB (c163_7 x0 a0))] [.box 29 (d29 x0), .box 147 (d147 a0)] hC ⟨lM _ _, ⟨e112, (k112 a0.B 0 (w64 ((ln x0.Consumers) - 1)) _ rfl)⟩, trivial⟩ ⟨h1, h2, h4, h6, trivial⟩ ?_
       rcases bC ((c163_7 x0 a0)) with h7 | h7
       ·replace h := cT h7 h
        have hq := hret0 _ (hr0 _ (sI h).symm)
        replace hq := sI hq
        subst hq
        exact wr [((c163_7 x0 a0), true)] lv163 24 [true] [] [] [.tmp 2] 0 [] hC trivial ⟨h7, trivial⟩
       ·replace h := cF h7 h
        obtain ⟨y9, h8, h⟩ := bE h
        refine ws [((c163_7 x0 a0), false)] lv163 25 [false] [.cut (x0.Breakers.map q147) 3 0 (cnt 0 n0) (y9.map q147), .len (ln (y9.map q147)) (ln y9)] [] 0 [0, 1] (st163_1 x0 n0 y9 0 ()) (R163_1 x0 a0 0 ()) hC ⟨cut_get q147 3 (fun _ => rfl) h8, lM _ _, trivial⟩ ⟨h7, trivial⟩ ?_
        obtain ⟨w1, hm1, hret1, hnext1⟩ := aIn h
        clear h
        refine wc w1 (sa163_1 x0 n0) (Ra163_1 x0) ?_ fun z1 hs1 => ?_
        ·refine wb ?_
         refine wL 61 rfl fun hl1 => ?_
         refine wF (by kernel_rfl) (F163_l1 a0) (st163_1 x0 n0 y9) (R163_1 x0 a0) w1 y9 () hm1 rfl rfl (fun z1 hn1 => ?_) fun n1 a1 z1 w1b hi1 hx1 h hb1 hr1 => ?_
         ·clear hm1
          exact wx [(decide ((cnt 0 y9.length) < (ln y9)), false)] w1 (sa163_1 x0 n0) (Ra163_1 x0) lv163 26 [false] [] [] 0 [0] () hC trivial ⟨(cE hl1), trivial⟩ hn1
         ·unfold F163_l1 at h
          rcases bC ((c163_9 a0 a1)) with h10 | h10
          ·replace h := cT h10 h
           have hq := hret1 _ (hr1 _ (sI h).symm)
           replace hq := hret0 _ (hr0 _ (sI hq).symm)
           replace hq := sI hq
           subst hq
           exact wr [(decide ((cnt 0 n1) < (ln y9)), true), ((c163_9 a0 a1), true)] lv163 35 [true, true] [.row (y9.map q147) (cnt 0 n1) (q147 a1)] [] [.tmp 2] 0 [] hC ⟨(rC hx1 hl1), trivial⟩ ⟨(cL hi1 hl1), h10, trivial⟩
          ·replace h := cF h10 h
           exact wx [(decide ((cnt 0 n1) < (ln y9)), true), ((c163_9 a0 a1), false)] w1b (st163_1 x0 n0 y9 (n1 + 1)) (R163_1 x0 a0 (n1 + 1)) lv163 36 [true, false] [.row (y9.map q147) (cnt 0 n1) (q147 a1)] [] 0 [0, 1] () hC ⟨(rC hx1 hl1), trivial⟩ ⟨(cL hi1 hl1), h10, trivial⟩ (sI h).symm
        ·have h := hnext1 _ hs1
         exact wx [] w0b (st163_0 x0 (n0 + 1)) (R163_0 x0 (n0 + 1)) lv163 24 [] [] [] 0 [0] () hC trivial trivial (sI h).symm
      ·replace h := cF h6 h
       have hq := hret0 _ (hr0 _ (sI h).symm)
       replace hq := sI hq
       subst hq
       exact wr [(!(F112 a0.A 0 (w64 (x0.Buses - 1))), false), ((a0.Kind == 1), false), ((a0.Kind == 2), false), ((a0.Kind == 3), false)] lv163 37 [false, false, false, false] [] [] [.tmp 2] 0 [] hC trivial ⟨h1, h2, h4, h6, trivial⟩
 ·have h := hnext0 _ hs0
  refine ws [] lv163 24 [] [.len (ln (x0.Sources.map q139)) (ln x0.Sources)] [] 0 [0] (st163_2 x0 0) (R163_2 x0 0) hC ⟨lM _ _, trivial⟩ trivial ?_
  obtain ⟨w2, hm2, hret2, hnext2⟩ := aIn h
  clear h
  refine wc w2 (sa163_2) (Ra163_2 x0) ?_ fun z2 hs2 => ?_
  ·refine wb ?_
   refine wW (by kernel_rfl) (F163_l2 x0) (st163_2 x0) (R163_2 x0) w2 1152921504606846976 0 hm2 rfl rfl fun z2 w2b h hb2 hr2 => ?_
   unfold F163_l2 at h
   rcases bC ((c163_11 x0 z2)) with h11 | h11
   ·replace h := cT h11 h
    obtain ⟨y12, h13, h⟩ := bE h
    refine ws [((c163_11 x0 z2), true)] lv163 32 [true] [.call 77 [.agg (d29 x0), dI 2, dI z2] [] (dS 0) [v0_ y12] [], .len (ln (y12.map pI)) (ln y12)] [] 0 [0] [(1, dO 0 0), (2, dB false), (74, dI (ln x0.Sources)), (75, dI z2), (82, dB ((ln y12) != 1))] [.box 29 (d29 x0)] hC ⟨⟨e77, (k77 x0 2 z2 _ h13)⟩, lM _ _, trivial⟩ ⟨h11, trivial⟩ ?_
    rcases bC (((ln y12) != 1)) with h14 | h14
    ·replace h := cT h14 h
     have hq := hret2 _ (hr2 _ (sI h).symm)
     replace hq := sI hq
     subst hq
     exact wr [(((ln y12) != 1), true)] lv163 24 [true] [] [] [.tmp 2] 0 [] hC trivial ⟨h14, trivial⟩
    ·replace h := cF h14 h
     exact wx [(((ln y12) != 1), false)] w2b (st163_2 x0) (R163_2 x0) lv163 25 [false] [] [] 0 [0] (w64 (z2 + 1)) hC trivial ⟨h14, trivial⟩ (sI h).symm
   ·replace h := cF h11 h
    exact wx [((c163_11 x0 z2), false)] w2 (sa163_2) (Ra163_2 x0) lv163 26 [false] [] [] 0 [0] z2 hC trivial ⟨h11, trivial⟩ (hb2 _ (sI h).symm)
  ·have h := hnext2 _ hs2
   refine ws [] lv163 24 [] [.len (ln (x0.Consumers.map q65)) (ln x0.Consumers)] [] 0 [0] (st163_3 x0 0) (R163_3 x0 0) hC ⟨lM _ _, trivial⟩ trivial ?_
   obtain ⟨w3, hm3, hret3, hnext3⟩ := aIn h
   clear h
   refine wc w3 (sa163_3) (Ra163_3) ?_ fun z3 hs3 => ?_
   ·refine wb ?_
    refine wW (by kernel_rfl) (F163_l3 x0) (st163_3 x0) (R163_3 x0) w3 1152921504606846976 0 hm3 rfl rfl fun z3 w3b h hb3 hr3 => ?_
    unfold F163_l3 at h
    rcases bC ((c163_13 x0 z3)) with h15 | h15
    ·replace h := cT h15 h
     obtain ⟨y16, h17, h⟩ := bE h
     refine ws [((c163_13 x0 z3), true)] lv163 32 [true] [.call 77 [.agg (d29 x0), dI 3, dI z3] [] (dS 0) [v0_ y16] [], .len (ln (y16.map pI)) (ln y16)] [] 0 [0] [(1, dO 0 0), (2, dB false), (86, dI (ln x0.Consumers)), (87, dI z3), (94, dB (decide ((ln y16) < 1)))] [.box 29 (d29 x0)] hC ⟨⟨e77, (k77 x0 3 z3 _ h17)⟩, lM _ _, trivial⟩ ⟨h15, trivial⟩ ?_
     rcases bC (decide ((ln y16) < 1)) with h18 | h18
     ·replace h := cT h18 h
      have hq := hret3 _ (hr3 _ (sI h).symm)
      replace hq := sI hq
      subst hq
      exact wr [(decide ((ln y16) < 1), true)] lv163 24 [true] [] [] [.tmp 2] 0 [] hC trivial ⟨h18, trivial⟩
     ·replace h := cF h18 h
      exact wx [(decide ((ln y16) < 1), false)] w3b (st163_3 x0) (R163_3 x0) lv163 25 [false] [] [] 0 [0] (w64 (z3 + 1)) hC trivial ⟨h18, trivial⟩ (sI h).symm
    ·replace h := cF h15 h
     exact wx [((c163_13 x0 z3), false)] w3 (sa163_3) (Ra163_3) lv163 26 [false] [] [] 0 [] z3 hC trivial ⟨h15, trivial⟩ (hb3 _ (sI h).symm)
   ·have h := hnext3 _ hs3
    replace h := sI h
    subst h
    exact wr [] lv163 23 [] [] [] [.tmp 2] 0 [] hC trivial trivial
def e163 := en Tryz.func163
def lv164 : List Nat := [0, 1, 2, 4, 6, 7, 8, 9, 29]
def st164_0 (x0 : api_Board) (n0 : Nat) (z0 : Unit) : St := [(2, dB false), (6, .d (DS q139 x0.Sources)), (7, dI (ln x0.Sources)), (8, dI (cnt 0 n0))]
def R164_0  (n0 : Nat) (z0 : Unit) : List Res := []
def sa164_0  (z0 : Unit) : St := [(2, dB false)]
def Ra164_0  (z0 : Unit) : List Res := []
theorem k164 (x0 : api_Board) (r : Bool) (h : F164 x0 = some r) : CO 164 [.agg (d29 x0)] [] (.d (Bo r)) [] := by
 unfold F164 at h
 refine co 31 Tryz.func164 fun C hC => ?_
 refine ws [] lv164 26 [] [.len (ln (x0.Sources.map q139)) (ln x0.Sources)] [] 0 [] (st164_0 x0 0 ()) (R164_0 0 ()) hC ⟨lM _ _, trivial⟩ trivial ?_
 obtain ⟨w0, hm0, hret0, hnext0⟩ := aIn h
 clear h
 refine wc w0 (sa164_0) (Ra164_0) ?_ fun z0 hs0 => ?_
 ·refine wb ?_
  refine wL 6 rfl fun hl0 => ?_
  refine wF (by kernel_rfl) F164_l0 (st164_0 x0) (R164_0) w0 x0.Sources () hm0 rfl rfl (fun z0 hn0 => ?_) fun n0 a0 z0 w0b hi0 hx0 h hb0 hr0 => ?_
  ·clear hm0
   exact wx [(decide ((cnt 0 x0.Sources.length) < (ln x0.Sources)), false)] w0 (sa164_0) (Ra164_0) lv164 26 [false] [] [] 0 [] () hC trivial ⟨(cE hl0), trivial⟩ hn0
  ·unfold F164_l0 at h
   refine ws [(decide ((cnt 0 n0) < (ln x0.Sources)), true)] lv164 32 [true] [.row (x0.Sources.map q139) (cnt 0 n0) (q139 a0), .call 112 [dI a0.Rating, dI 1, dI 50000] [] (dB (F112 a0.Rating 1 50000)) [] [], .when [(!(F112 a0.Rating 1 50000), false)] (.call 112 [dI a0.Least, dI 0, dI a0.Rating] [] (dB (F112 a0.Least 0 a0.Rating)) [] []), .when [(((!(F112 a0.Rating 1 50000)) || (!(F112 a0.Least 0 a0.Rating))), false)] (.call 112 [dI a0.Start, dI 0, dI 600] [] (dB (F112 a0.Start 0 600)) [] [])] [] 0 [] [(2, dB false), (6, .d (DS q139 x0.Sources)), (7, dI (ln x0.Sources)), (8, dI (cnt 0 n0)), (29, dB (c164_1 a0))] [] hC ⟨(rC hx0 hl0), ⟨e112, (k112 a0.Rating 1 50000 _ rfl)⟩, fun hg => ⟨e112, (k112 a0.Least 0 a0.Rating _ rfl)⟩, fun hg => ⟨e112, (k112 a0.Start 0 600 _ rfl)⟩, trivial⟩ ⟨(cL hi0 hl0), trivial⟩ ?_
   rcases bC ((c164_1 a0)) with h1 | h1
   ·replace h := cT h1 h
    have hq := hret0 _ (hr0 _ (sI h).symm)
    replace hq := sI hq
    subst hq
    exact wr [((c164_1 a0), true)] lv164 24 [true] [] [] [.tmp 2] 0 [] hC trivial ⟨h1, trivial⟩
   ·replace h := cF h1 h
    exact wx [((c164_1 a0), false)] w0b (st164_0 x0 (n0 + 1)) (R164_0 (n0 + 1)) lv164 25 [false] [] [] 0 [] () hC trivial ⟨h1, trivial⟩ (sI h).symm
 ·have h := hnext0 _ hs0
  replace h := sI h
  subst h
  exact wr [] lv164 23 [] [] [] [.tmp 2] 0 [] hC trivial trivial
def e164 := en Tryz.func164
def lv165 : List Nat := [0, 1, 2, 3, 4, 5, 6, 8, 9, 10, 11, 44, 46, 47, 48, 49, 71]
def st165_0 (x0 : api_Board) (n0 : Nat) (z0 : Unit) : St := [(2, dB false), (8, .d (DS q65 x0.Consumers)), (9, dI (ln x0.Consumers)), (10, dI (cnt 0 n0))]
def R165_0  (n0 : Nat) (z0 : Unit) : List Res := []
def sa165_0  (z0 : Unit) : St := [(2, dB false)]
def Ra165_0  (z0 : Unit) : List Res := []
def st165_1 (x0 : api_Board) (n0 : Nat) (a0 : api_Consumer) (n1 : Nat) (z1 : Unit) : St := [(2, dB false), (3, dI (cnt 0 n0)), (4, dO 0 0), (8, .d (DS q65 x0.Consumers)), (9, dI (ln x0.Consumers)), (10, dI (cnt 0 n0)), (46, .d (DS pI a0.Needs)), (47, dI (ln a0.Needs)), (48, dI (cnt 0 n1))]
def R165_1 (a0 : api_Consumer) (n1 : Nat) (z1 : Unit) : List Res := [.box 65 (d65 a0)]
def sa165_1 (x0 : api_Board) (n0 : Nat) (z1 : Unit) : St := [(2, dB false), (8, .d (DS q65 x0.Consumers)), (9, dI (ln x0.Consumers)), (10, dI (cnt 0 n0))]
def Ra165_1  (z1 : Unit) : List Res := []
theorem k165 (x0 : api_Board) (r : Bool) (h : F165 x0 = some r) : CO 165 [.agg (d29 x0)] [] (.d (Bo r)) [] := by
 unfold F165 at h
 refine co 74 Tryz.func165 fun C hC => ?_
 refine ws [] lv165 26 [] [.len (ln (x0.Consumers.map q65)) (ln x0.Consumers)] [] 0 [] (st165_0 x0 0 ()) (R165_0 0 ()) hC ⟨lM _ _, trivial⟩ trivial ?_
 obtain ⟨w0, hm0, hret0, hnext0⟩ := aIn h
 clear h
 refine wc w0 (sa165_0) (Ra165_0) ?_ fun z0 hs0 => ?_
 ·refine wb ?_
  refine wL 8 rfl fun hl0 => ?_
  refine wF (by kernel_rfl) F165_l0 (st165_0 x0) (R165_0) w0 x0.Consumers () hm0 rfl rfl (fun z0 hn0 => ?_) fun n0 a0 z0 w0b hi0 hx0 h hb0 hr0 => ?_
  ·clear hm0
   exact wx [(decide ((cnt 0 x0.Consumers.length) < (ln x0.Consumers)), false)] w0 (sa165_0) (Ra165_0) lv165 26 [false] [] [] 0 [] () hC trivial ⟨(cE hl0), trivial⟩ hn0
  ·unfold F165_l0 at h
   refine ws [(decide ((cnt 0 n0) < (ln x0.Consumers)), true)] lv165 33 [true] [.row (x0.Consumers.map q65) (cnt 0 n0) (q65 a0), .call 112 [dI a0.Load, dI 0, dI 50000] [] (dB (F112 a0.Load 0 50000)) [] [], .when [(!(F112 a0.Load 0 50000), false)] (.call 112 [dI a0.Least, dI 0, dI a0.Load] [] (dB (F112 a0.Least 0 a0.Load)) [] []), .when [(((!(F112 a0.Load 0 50000)) || (!(F112 a0.Least 0 a0.Load))), false)] (.call 112 [dI a0.Preference, dI 0, dI 15] [] (dB (F112 a0.Preference 0 15)) [] []), .when [((((!(F112 a0.Load 0 50000)) || (!(F112 a0.Least 0 a0.Load))) || (!(F112 a0.Preference 0 15))), false)] (.call 112 [dI a0.Thruster, dI (-1), dI 7] [] (dB (F112 a0.Thruster (-1) 7)) [] []), .when [(((((!(F112 a0.Load 0 50000)) || (!(F112 a0.Least 0 a0.Load))) || (!(F112 a0.Preference 0 15))) || (!(F112 a0.Thruster (-1) 7))), false)] (.len (ln (a0.Needs.map pI)) (ln a0.Needs))] [] 0 [0] [(2, dB false), (3, dI (cnt 0 n0)), (4, dO 0 0), (8, .d (DS q65 x0.Consumers)), (9, dI (ln x0.Consumers)), (10, dI (cnt 0 n0)), (44, dB (c165_3 a0))] [.box 65 (d65 a0)] hC ⟨(rC hx0 hl0), ⟨e112, (k112 a0.Load 0 50000 _ rfl)⟩, fun hg => ⟨e112, (k112 a0.Least 0 a0.Load _ rfl)⟩, fun hg => ⟨e112, (k112 a0.Preference 0 15 _ rfl)⟩, fun hg => ⟨e112, (k112 a0.Thruster (-1) 7 _ rfl)⟩, fun hg => lM _ _, trivial⟩ ⟨(cL hi0 hl0), trivial⟩ ?_
   rcases bC ((c165_3 a0)) with h1 | h1
   ·replace h := cT h1 h
    have hq := hret0 _ (hr0 _ (sI h).symm)
    replace hq := sI hq
    subst hq
    exact wr [((c165_3 a0), true)] lv165 24 [true] [] [] [.tmp 2] 0 [] hC trivial ⟨h1, trivial⟩
   ·replace h := cF h1 h
    refine ws [((c165_3 a0), false)] lv165 25 [false] [.len (ln (a0.Needs.map pI)) (ln a0.Needs)] [] 0 [0] (st165_1 x0 n0 a0 0 ()) (R165_1 a0 0 ()) hC ⟨lM _ _, trivial⟩ ⟨h1, trivial⟩ ?_
    obtain ⟨w1, hm1, hret1, hnext1⟩ := aIn h
    clear h
    refine wc w1 (sa165_1 x0 n0) (Ra165_1) ?_ fun z1 hs1 => ?_
    ·refine wb ?_
     refine wL 46 rfl fun hl1 => ?_
     refine wF (by kernel_rfl) (F165_l1 n0 a0) (st165_1 x0 n0 a0) (R165_1 a0) w1 a0.Needs () hm1 rfl rfl (fun z1 hn1 => ?_) fun n1 a1 z1 w1b hi1 hx1 h hb1 hr1 => ?_
     ·clear hm1
      exact wx [(decide ((cnt 0 a0.Needs.length) < (ln a0.Needs)), false)] w1 (sa165_1 x0 n0) (Ra165_1) lv165 26 [false] [] [] 0 [] () hC trivial ⟨(cE hl1), trivial⟩ hn1
     ·unfold F165_l1 at h
      obtain ⟨y2, h3, h⟩ := bE h
      refine ws [(decide ((cnt 0 n1) < (ln a0.Needs)), true)] lv165 32 [true] [.row (a0.Needs.map pI) (cnt 0 n1) (pI a1), .call 112 [dI a1, dI 0, dI (w64 ((cnt 0 n0) - 1))] [] (.d (Bo (F112 a1 0 (w64 ((cnt 0 n0) - 1))))) [] [], .when [(!(F112 a1 0 (w64 ((cnt 0 n0) - 1))), false), (decide ((cnt 0 n1) > 0), true)] (.row (a0.Needs.map pI) (w64 ((cnt 0 n1) - 1)) (pI y2))] [] 0 [0] [(2, dB false), (3, dI (cnt 0 n0)), (4, dO 0 0), (8, .d (DS q65 x0.Consumers)), (9, dI (ln x0.Consumers)), (10, dI (cnt 0 n0)), (46, .d (DS pI a0.Needs)), (47, dI (ln a0.Needs)), (48, dI (cnt 0 n1)), (71, dB (c165_5 n0 n1 a1 y2))] [.box 65 (d65 a0)] hC ⟨(rC hx1 hl1), ⟨e112, (k112 a1 0 (w64 ((cnt 0 n0) - 1)) _ rfl)⟩, fun hg => rg (gg h3 hg), trivial⟩ ⟨(cL hi1 hl1), trivial⟩ ?_
      rcases bC ((c165_5 n0 n1 a1 y2)) with h4 | h4
      ·replace h := cT h4 h
       have hq := hret1 _ (hr1 _ (sI h).symm)
       replace hq := hret0 _ (hr0 _ (sI hq).symm)
       replace hq := sI hq
       subst hq
       exact wr [((c165_5 n0 n1 a1 y2), true)] lv165 24 [true] [] [] [.tmp 2] 0 [] hC trivial ⟨h4, trivial⟩
      ·replace h := cF h4 h
       exact wx [((c165_5 n0 n1 a1 y2), false)] w1b (st165_1 x0 n0 a0 (n1 + 1)) (R165_1 a0 (n1 + 1)) lv165 25 [false] [] [] 0 [0] () hC trivial ⟨h4, trivial⟩ (sI h).symm
    ·have h := hnext1 _ hs1
     exact wx [] w0b (st165_0 x0 (n0 + 1)) (R165_0 (n0 + 1)) lv165 23 [] [] [] 0 [] () hC trivial trivial (sI h).symm
 ·have h := hnext0 _ hs0
  replace h := sI h
  subst h
  exact wr [] lv165 23 [] [] [] [.tmp 2] 0 [] hC trivial trivial
def e165 := en Tryz.func165
theorem k198 (x0 : api_Arc) (r : Int) (h : F198 x0 = r) : CO 198 [.agg (d159 x0)] [] (.d (I r)) [] := by
 unfold F198 at h
 refine co 9 Tryz.func198 fun C hC => ?_
 subst h
 exact wr [] n3_ 25 [] [.call 229 [dI (w64 (x0.To - x0.From))] [] (dI (F229 (w64 (x0.To - x0.From)))) [] []] [] [.tmp 2] 0 [] hC ⟨⟨e229, (k229 (w64 (x0.To - x0.From)) _ rfl)⟩, trivial⟩ trivial
def e198 := en Tryz.func198
theorem k190 (x0 : List Int) (x1 : Int) (r : Bool) (h : F190 x0 x1 = some r) : CO 190 [.d (DS pI x0), .d (I x1)] [] (.d (Bo r)) [] := by
 unfold F190 at h
 refine co 9 Tryz.func190 fun C hC => ?_
 obtain ⟨y1, h2, h⟩ := bE h
 replace h := sI h
 subst h
 exact wr [] [0, 1, 4] 25 [] [.call 227 [.d (DS pI x0), dI x1] [] (dI y1) [] []] [] [.tmp 4] 0 [] hC ⟨⟨e227, (k227 x0 x1 _ h2)⟩, trivial⟩ trivial
def e190 := en Tryz.func190
def lv228s0 : List Nat := [0, 1, 4, 5, 7, 8, 9, 16]
def st228s0_0 (x0 : List (List Int)) (n0 : Nat) (z0 : Unit) : St := [(0, .d (DS (pL pI) x0)), (1, .d (.fn (.func 192) [] [])), (4, dI 0), (7, dI (ln x0)), (8, dI (cnt 0 n0))]
def R228s0_0  (n0 : Nat) (z0 : Unit) : List Res := []
def sa228s0_0  (z0 : Unit) : St := [(4, dI 0)]
def Ra228s0_0  (z0 : Unit) : List Res := []
theorem k228s0 (x0 : List (List Int)) (r : Int) (h : F228s0 x0 = some r) : CO 228 [.d (DS (pL pI) x0), .d (.fn (.func 192) [] [])] [] (.d (I r)) [] := by
 unfold F228s0 at h
 refine co 19 Tryz.func228 fun C hC => ?_
 refine ws [] lv228s0 26 [] [.len (ln (x0.map (pL pI))) (ln x0)] [] 0 [] (st228s0_0 x0 0 ()) (R228s0_0 0 ()) hC ⟨lM _ _, trivial⟩ trivial ?_
 obtain ⟨w0, hm0, hret0, hnext0⟩ := aIn h
 clear h
 refine wc w0 (sa228s0_0) (Ra228s0_0) ?_ fun z0 hs0 => ?_
 ·refine wb ?_
  refine wL 0 rfl fun hl0 => ?_
  refine wF (by kernel_rfl) F228s0_l0 (st228s0_0 x0) (R228s0_0) w0 x0 () hm0 rfl rfl (fun z0 hn0 => ?_) fun n0 a0 z0 w0b hi0 hx0 h hb0 hr0 => ?_
  ·clear hm0
   exact wx [(decide ((cnt 0 x0.length) < (ln x0)), false)] w0 (sa228s0_0) (Ra228s0_0) lv228s0 26 [false] [] [] 0 [] () hC trivial ⟨(cE hl0), trivial⟩ hn0
  ·unfold F228s0_l0 at h
   rcases bC (F192 a0) with h1 | h1
   ·replace h := cT h1 h
    have hq := hret0 _ (hr0 _ (sI h).symm)
    replace hq := sI hq
    subst hq
    exact wr [(decide ((cnt 0 n0) < (ln x0)), true), (F192 a0, true)] lv228s0 35 [true, true] [.row (x0.map (pL pI)) (cnt 0 n0) ((pL pI) a0), .call 192 [.d (DS pI a0)] [] (dB (F192 a0)) [] []] [] [.tmp 4] 0 [] hC ⟨(rC hx0 hl0), ⟨e192, (k192 a0 _ rfl)⟩, trivial⟩ ⟨(cL hi0 hl0), h1, trivial⟩
   ·replace h := cF h1 h
    exact wx [(decide ((cnt 0 n0) < (ln x0)), true), (F192 a0, false)] w0b (st228s0_0 x0 (n0 + 1)) (R228s0_0 (n0 + 1)) lv228s0 36 [true, false] [.row (x0.map (pL pI)) (cnt 0 n0) ((pL pI) a0), .call 192 [.d (DS pI a0)] [] (dB (F192 a0)) [] []] [] 0 [] () hC ⟨(rC hx0 hl0), ⟨e192, (k192 a0 _ rfl)⟩, trivial⟩ ⟨(cL hi0 hl0), h1, trivial⟩ (sI h).symm
 ·have h := hnext0 _ hs0
  replace h := sI h
  subst h
  exact wr [] lv228s0 23 [] [] [] [.tmp 4] 0 [] hC trivial trivial
def e228s0 := en Tryz.func228
theorem k137 (x0 : api_Source) (r : Bool) (h : F137 x0 = r) : CO 137 [.agg (d139 x0)] [] (.d (Bo r)) [] := by
 unfold F137 at h
 refine co 18 Tryz.func137 fun C hC => ?_
 subst h
 exact wr [] n3_ 25 [] [.call 99 [dI x0.Rating, dI 1, dI 50000] [] (dB (F99 x0.Rating 1 50000)) [] [], .when [(F99 x0.Rating 1 50000, true)] (.call 99 [dI x0.Least, dI 0, dI x0.Rating] [] (dB (F99 x0.Least 0 x0.Rating)) [] []), .when [(((F99 x0.Rating 1 50000) && (F99 x0.Least 0 x0.Rating)), true)] (.call 99 [dI x0.Start, dI 0, dI 600] [] (dB (F99 x0.Start 0 600)) [] [])] [] [.tmp 2] 0 [] hC ⟨⟨e99, (k99 x0.Rating 1 50000 _ rfl)⟩, fun hg => ⟨e99, (k99 x0.Least 0 x0.Rating _ rfl)⟩, fun hg => ⟨e99, (k99 x0.Start 0 600 _ rfl)⟩, trivial⟩ trivial
def e137 := en Tryz.func137
def lv138 : List Nat := [0, 1, 2, 4, 5, 6, 8, 9, 10, 11, 33]
def st138_0 (x0 : api_Consumer) (x1 : Int) (n0 : Nat) (z0 : Unit) : St := [(1, dI x1), (2, dO 0 0), (4, dB false), (8, .d (DS pI x0.Needs)), (9, dI (ln x0.Needs)), (10, dI (cnt 0 n0))]
def R138_0 (x0 : api_Consumer) (n0 : Nat) (z0 : Unit) : List Res := [.box 65 (d65 x0)]
def sa138_0  (z0 : Unit) : St := [(2, dO 0 0), (4, dB false)]
def Ra138_0 (x0 : api_Consumer) (z0 : Unit) : List Res := [.box 65 (d65 x0)]
theorem k138 (x0 : api_Consumer) (x1 : Int) (r : Bool) (h : F138 x0 x1 = some r) : CO 138 [.agg (d65 x0), .d (I x1)] [] (.d (Bo r)) [] := by
 unfold F138 at h
 refine co 61 Tryz.func138 fun C hC => ?_
 refine ws [] lv138 26 [] [.len (ln (x0.Needs.map pI)) (ln x0.Needs)] [] 0 [0] (st138_0 x0 x1 0 ()) (R138_0 x0 0 ()) hC ⟨lM _ _, trivial⟩ trivial ?_
 obtain ⟨w0, hm0, hret0, hnext0⟩ := aIn h
 clear h
 refine wc w0 (sa138_0) (Ra138_0 x0) ?_ fun z0 hs0 => ?_
 ·refine wb ?_
  refine wL 8 rfl fun hl0 => ?_
  refine wF (by kernel_rfl) (F138_l0 x0 x1) (st138_0 x0 x1) (R138_0 x0) w0 x0.Needs () hm0 rfl rfl (fun z0 hn0 => ?_) fun n0 a0 z0 w0b hi0 hx0 h hb0 hr0 => ?_
  ·clear hm0
   exact wx [(decide ((cnt 0 x0.Needs.length) < (ln x0.Needs)), false)] w0 (sa138_0) (Ra138_0 x0) lv138 26 [false] [] [] 0 [0] () hC trivial ⟨(cE hl0), trivial⟩ hn0
  ·unfold F138_l0 at h
   obtain ⟨y1, h2, h⟩ := bE h
   refine ws [(decide ((cnt 0 n0) < (ln x0.Needs)), true)] lv138 32 [true] [.row (x0.Needs.map pI) (cnt 0 n0) (pI a0), .call 99 [dI a0, dI 0, dI (w64 (x1 - 1))] [] (dB (F99 a0 0 (w64 (x1 - 1)))) [] [], .when [(!(F99 a0 0 (w64 (x1 - 1))), false), (decide ((cnt 0 n0) > 0), true)] (.row (x0.Needs.map pI) (w64 ((cnt 0 n0) - 1)) (pI y1))] [] 0 [0] [(1, dI x1), (2, dO 0 0), (4, dB false), (8, .d (DS pI x0.Needs)), (9, dI (ln x0.Needs)), (10, dI (cnt 0 n0)), (33, dB (c138_1 x1 n0 a0 y1))] [.box 65 (d65 x0)] hC ⟨(rC hx0 hl0), ⟨e99, (k99 a0 0 (w64 (x1 - 1)) _ rfl)⟩, fun hg => rg (gg h2 hg), trivial⟩ ⟨(cL hi0 hl0), trivial⟩ ?_
   rcases bC ((c138_1 x1 n0 a0 y1)) with h3 | h3
   ·replace h := cT h3 h
    have hq := hret0 _ (hr0 _ (sI h).symm)
    replace hq := sI hq
    subst hq
    exact wr [((c138_1 x1 n0 a0 y1), true)] lv138 24 [true] [] [] [.tmp 4] 0 [] hC trivial ⟨h3, trivial⟩
   ·replace h := cF h3 h
    exact wx [((c138_1 x1 n0 a0 y1), false)] w0b (st138_0 x0 x1 (n0 + 1)) (R138_0 x0 (n0 + 1)) lv138 25 [false] [] [] 0 [0] () hC trivial ⟨h3, trivial⟩ (sI h).symm
 ·have h := hnext0 _ hs0
  replace h := sI h
  subst h
  exact wr [] lv138 23 [] [.call 99 [dI x0.Load, dI 0, dI 50000] [] (dB (F99 x0.Load 0 50000)) [] [], .when [(F99 x0.Load 0 50000, true)] (.call 99 [dI x0.Least, dI 0, dI x0.Load] [] (dB (F99 x0.Least 0 x0.Load)) [] []), .when [(((F99 x0.Load 0 50000) && (F99 x0.Least 0 x0.Load)), true)] (.call 99 [dI x0.Preference, dI 0, dI 15] [] (dB (F99 x0.Preference 0 15)) [] []), .when [((((F99 x0.Load 0 50000) && (F99 x0.Least 0 x0.Load)) && (F99 x0.Preference 0 15)), true)] (.call 99 [dI x0.Thruster, dI (-1), dI 7] [] (dB (F99 x0.Thruster (-1) 7)) [] []), .when [(((((F99 x0.Load 0 50000) && (F99 x0.Least 0 x0.Load)) && (F99 x0.Preference 0 15)) && (F99 x0.Thruster (-1) 7)), true)] (.len (ln (x0.Needs.map pI)) (ln x0.Needs))] [] [.tmp 4] 0 [] hC ⟨⟨e99, (k99 x0.Load 0 50000 _ rfl)⟩, fun hg => ⟨e99, (k99 x0.Least 0 x0.Load _ rfl)⟩, fun hg => ⟨e99, (k99 x0.Preference 0 15 _ rfl)⟩, fun hg => ⟨e99, (k99 x0.Thruster (-1) 7 _ rfl)⟩, fun hg => lM _ _, trivial⟩ trivial
def e138 := en Tryz.func138
def lv154 : List Nat := [0, 1, 4, 5, 6, 11, 12, 13, 16, 19]
theorem k154 (x0 : Int) (x1 : Int) (r : Int) (h : F154 x0 x1 = r) : CO 154 [.d (I x0), .d (I x1)] [] (.d (I r)) [] := by
 unfold F154 at h
 refine co 20 Tryz.func154 fun C hC => ?_
 rcases bC (F199 x0) with h1 | h1
 ·replace h := cT h1 h
  rcases bC (F199 x1) with h2 | h2
  ·replace h := cT h2 h
   subst h
   exact wr [(F199 x0, true), (F199 x1, true)] lv154 37 [true, true] [.call 199 [dI x0] [] (dB (F199 x0)) [] [], .call 199 [dI x1] [] (dB (F199 x1)) [] []] [] [.tmp 4] 0 [] hC ⟨⟨e199, (k199 x0 _ rfl)⟩, ⟨e199, (k199 x1 _ rfl)⟩, trivial⟩ ⟨h1, h2, trivial⟩
  ·replace h := cF h2 h
   subst h
   exact wr [(F199 x0, true), (F199 x1, false)] lv154 38 [true, false] [.call 199 [dI x0] [] (dB (F199 x0)) [] [], .call 199 [dI x1] [] (dB (F199 x1)) [] []] [] [.tmp 4] 0 [] hC ⟨⟨e199, (k199 x0 _ rfl)⟩, ⟨e199, (k199 x1 _ rfl)⟩, trivial⟩ ⟨h1, h2, trivial⟩
 ·replace h := cF h1 h
  rcases bC (F199 x1) with h3 | h3
  ·replace h := cT h3 h
   subst h
   exact wr [(F199 x0, false), (F199 x1, true)] lv154 38 [false, true] [.call 199 [dI x0] [] (dB (F199 x0)) [] [], .call 199 [dI x1] [] (dB (F199 x1)) [] []] [] [.tmp 4] 0 [] hC ⟨⟨e199, (k199 x0 _ rfl)⟩, ⟨e199, (k199 x1 _ rfl)⟩, trivial⟩ ⟨h1, h3, trivial⟩
  ·replace h := cF h3 h
   rcases bC (decide (x0 < x1)) with h4 | h4
   ·replace h := cT h4 h
    subst h
    exact wr [(F199 x0, false), (F199 x1, false), (decide (x0 < x1), true)] lv154 43 [false, false, true] [.call 199 [dI x0] [] (dB (F199 x0)) [] [], .call 199 [dI x1] [] (dB (F199 x1)) [] []] [] [.tmp 4] 0 [] hC ⟨⟨e199, (k199 x0 _ rfl)⟩, ⟨e199, (k199 x1 _ rfl)⟩, trivial⟩ ⟨h1, h3, h4, trivial⟩
   ·replace h := cF h4 h
    rcases bC (decide (x0 > x1)) with h5 | h5
    ·replace h := cT h5 h
     subst h
     exact wr [(F199 x0, false), (F199 x1, false), (decide (x0 < x1), false), (decide (x0 > x1), true)] lv154 48 [false, false, false, true] [.call 199 [dI x0] [] (dB (F199 x0)) [] [], .call 199 [dI x1] [] (dB (F199 x1)) [] []] [] [.tmp 4] 0 [] hC ⟨⟨e199, (k199 x0 _ rfl)⟩, ⟨e199, (k199 x1 _ rfl)⟩, trivial⟩ ⟨h1, h3, h4, h5, trivial⟩
    ·replace h := cF h5 h
     subst h
     exact wr [(F199 x0, false), (F199 x1, false), (decide (x0 < x1), false), (decide (x0 > x1), false)] lv154 49 [false, false, false, false] [.call 199 [dI x0] [] (dB (F199 x0)) [] [], .call 199 [dI x1] [] (dB (F199 x1)) [] []] [] [.tmp 4] 0 [] hC ⟨⟨e199, (k199 x0 _ rfl)⟩, ⟨e199, (k199 x1 _ rfl)⟩, trivial⟩ ⟨h1, h3, h4, h5, trivial⟩
def e154 := en Tryz.func154
theorem k98 (x0 : api_Running) (r : Bool) (h : F98 x0 = r) : CO 98 [.agg (d120 x0)] [] (.d (Bo r)) [] := by
 unfold F98 at h
 refine co 21 Tryz.func98 fun C hC => ?_
 subst h
 exact wr [] n3_ 25 [] [.call 99 [dI x0.State, dI 0, dI 3] [] (dB (F99 x0.State 0 3)) [] [], .when [(F99 x0.State 0 3, true)] (.call 99 [dI x0.Since, dI 0, dI 2147483648] [] (dB (F99 x0.Since 0 2147483648)) [] []), .when [(((F99 x0.State 0 3) && (F99 x0.Since 0 2147483648)), true)] (.call 99 [dI x0.Frequency, dI 0, dI 6000] [] (dB (F99 x0.Frequency 0 6000)) [] []), .when [((((F99 x0.State 0 3) && (F99 x0.Since 0 2147483648)) && (F99 x0.Frequency 0 6000)), true)] (.call 99 [dI x0.Phase, dI 0, dI 3599] [] (dB (F99 x0.Phase 0 3599)) [] [])] [] [.tmp 2] 0 [] hC ⟨⟨e99, (k99 x0.State 0 3 _ rfl)⟩, fun hg => ⟨e99, (k99 x0.Since 0 2147483648 _ rfl)⟩, fun hg => ⟨e99, (k99 x0.Frequency 0 6000 _ rfl)⟩, fun hg => ⟨e99, (k99 x0.Phase 0 3599 _ rfl)⟩, trivial⟩ trivial
def e98 := en Tryz.func98
def lv44s1 : List Nat := [0, 1, 4, 5, 7, 8, 9, 16]
def st44s1_0 (x0 : List api_Consumer) (n0 : Nat) (z0 : Unit) : St := [(0, .d (DS q65 x0)), (1, .d (.fn (.func 45) [] [.o 0 0])), (4, dI 0), (7, dI (ln x0)), (8, dI (cnt 0 n0))]
def R44s1_0 (x1c0 : Int) (n0 : Nat) (z0 : Unit) : List Res := [.box 3 [I x1c0]]
def sa44s1_0  (z0 : Unit) : St := [(4, dI 0)]
def Ra44s1_0 (x1c0 : Int) (z0 : Unit) : List Res := [.box 3 [I x1c0]]
theorem k44s1 (x0 : List api_Consumer) (x1c0 : Int) (r : Int × Int) (h : F44s1 x0 x1c0 = some r) : CO 44 [.d (DS q65 x0), .d (.fn (.func 45) [] [.o 0 0])] [.box 3 [I x1c0]] (.d (I r.1)) [.box 3 [I r.2]] := by
 unfold F44s1 at h
 refine co 19 Tryz.func44 fun C hC => ?_
 refine ws [] lv44s1 26 [] [.len (ln (x0.map q65)) (ln x0)] [] 1 [0] (st44s1_0 x0 0 ()) (R44s1_0 x1c0 0 ()) hC ⟨lM _ _, trivial⟩ trivial ?_
 obtain ⟨w0, hm0, hret0, hnext0⟩ := aIn h
 clear h
 refine wc w0 (sa44s1_0) (Ra44s1_0 x1c0) ?_ fun z0 hs0 => ?_
 ·refine wb ?_
  refine wL 0 rfl fun hl0 => ?_
  refine wF (by kernel_rfl) (F44s1_l0 x1c0) (st44s1_0 x0) (R44s1_0 x1c0) w0 x0 () hm0 rfl rfl (fun z0 hn0 => ?_) fun n0 a0 z0 w0b hi0 hx0 h hb0 hr0 => ?_
  ·clear hm0
   exact wx [(decide ((cnt 0 x0.length) < (ln x0)), false)] w0 (sa44s1_0) (Ra44s1_0 x1c0) lv44s1 26 [false] [] [] 1 [0] () hC trivial ⟨(cE hl0), trivial⟩ hn0
  ·unfold F44s1_l0 at h
   refine ws [(decide ((cnt 0 n0) < (ln x0)), true)] lv44s1 32 [true] [.row (x0.map q65) (cnt 0 n0) (q65 a0), .callB 45 [.agg (d65 a0), .d (.ip [.v (.int .i64 x1c0)])] (dB (F45s0 a0 x1c0)) [[]] 0 []] [] 1 [0] [(0, .d (DS q65 x0)), (1, .d (.fn (.func 45) [] [.o 0 0])), (4, dI 0), (5, dI (cnt 0 n0)), (7, dI (ln x0)), (8, dI (cnt 0 n0)), (16, dB (F45s0 a0 x1c0))] [.box 3 [I x1c0]] hC ⟨(rC hx0 hl0), l0g ⟨e45s0, (k45s0 a0 x1c0 _ rfl)⟩, trivial⟩ ⟨(cL hi0 hl0), trivial⟩ ?_
   rcases bC (F45s0 a0 x1c0) with h1 | h1
   ·replace h := cT h1 h
    have hq := hret0 _ (hr0 _ (sI h).symm)
    replace hq := sI hq
    subst hq
    exact wr [(F45s0 a0 x1c0, true)] lv44s1 24 [true] [] [] [.tmp 4] 1 [0] hC trivial ⟨h1, trivial⟩
   ·replace h := cF h1 h
    exact wx [(F45s0 a0 x1c0, false)] w0b (st44s1_0 x0 (n0 + 1)) (R44s1_0 x1c0 (n0 + 1)) lv44s1 25 [false] [] [] 1 [0] () hC trivial ⟨h1, trivial⟩ (sI h).symm
 ·have h := hnext0 _ hs0
  replace h := sI h
  subst h
  exact wr [] lv44s1 23 [] [] [] [.tmp 4] 1 [0] hC trivial trivial
def e44s1 := en Tryz.func44
theorem k144 (x0 : api_Board) (x1 : api_Power) (x2 : Int) (r : Int × Bool) (h : F144 x0 x1 x2 = some r) : CO 144 [.agg (d29 x0), .agg (d36 x1), .d (I x2)] [] (.tup [.d (I r.1), .d (Bo r.2)]) [] := by
 unfold F144 at h
 refine co 14 Tryz.func144 fun C hC => ?_
 obtain ⟨y1, h2, h⟩ := bE h
 replace h := sI h
 subst h
 exact wr [] [0, 1, 2, 3, 4, 6, 7] 25 [] [.call 195 [.agg (d29 x0), .agg (d36 x1), dI 3, dI x2] [] (.tup [dI y1.1, dB y1.2]) [] []] [] [.tmp 6, .tmp 7] 0 [] hC ⟨⟨e195, (k195 x0 x1 3 x2 _ h2)⟩, trivial⟩ trivial
def e144 := en Tryz.func144
def lv143 : List Nat := [0, 1, 2, 3, 4, 6, 7, 23]
theorem k143 (x0 : api_Board) (x1 : api_Power) (x2 : Int) (r : Int × Bool) (h : F143 x0 x1 x2 = some r) : CO 143 [.agg (d29 x0), .agg (d36 x1), .d (I x2)] [] (.tup [.d (I r.1), .d (Bo r.2)]) [] := by
 unfold F143 at h
 refine co 30 Tryz.func143 fun C hC => ?_
 obtain ⟨y1, h2, h⟩ := bE h
 refine ws [] lv143 26 [] [.len (ln (x1.Sources.map q120)) (ln x1.Sources), .call 99 [dI x2, dI 0, dI (w64 ((ln x1.Sources) - 1))] [] (.d (Bo (F99 x2 0 (w64 ((ln x1.Sources) - 1))))) [] [], .when [(!(F99 x2 0 (w64 ((ln x1.Sources) - 1))), false)] (.row (x1.Sources.map q120) x2 (q120 y1))] [] 0 [0, 1] [(2, dI x2), (3, dO 0 0), (4, dO 1 0), (6, dI 0), (7, dB false), (23, dB (c143_0 x1 x2 y1))] [.box 29 (d29 x0), .box 36 (d36 x1)] hC ⟨lM _ _, ⟨e99, (k99 x2 0 (w64 ((ln x1.Sources) - 1)) _ rfl)⟩, fun hg => rg (gg h2 hg), trivial⟩ trivial ?_
 rcases bC ((c143_0 x1 x2 y1)) with h3 | h3
 ·replace h := cT h3 h
  replace h := sI h
  subst h
  exact wr [((c143_0 x1 x2 y1), true)] lv143 24 [true] [] [] [.tmp 6, .tmp 7] 0 [] hC trivial ⟨h3, trivial⟩
 ·replace h := cF h3 h
  obtain ⟨y4, h5, h⟩ := bE h
  replace h := sI h
  subst h
  exact wr [((c143_0 x1 x2 y1), false)] lv143 25 [false] [.call 195 [.agg (d29 x0), .agg (d36 x1), dI 2, dI x2] [] (.tup [dI y4.1, dB y4.2]) [] []] [] [.tmp 6, .tmp 7] 0 [] hC ⟨⟨e195, (k195 x0 x1 2 x2 _ h5)⟩, trivial⟩ ⟨h3, trivial⟩
def e143 := en Tryz.func143
def lv141s0 : List Nat := [0, 1, 4, 5, 7, 8, 9, 16]
def st141s0_0 (x0 : List api_Island) (n0 : Nat) (z0 : Unit) : St := [(0, .d (DS q84 x0)), (1, .d (.fn (.func 146) [] [])), (4, dI 0), (7, dI (ln x0)), (8, dI (cnt 0 n0))]
def R141s0_0  (n0 : Nat) (z0 : Unit) : List Res := []
def sa141s0_0  (z0 : Unit) : St := [(4, dI 0)]
def Ra141s0_0  (z0 : Unit) : List Res := []
theorem k141s0 (x0 : List api_Island) (r : Int) (h : F141s0 x0 = some r) : CO 141 [.d (DS q84 x0), .d (.fn (.func 146) [] [])] [] (.d (I r)) [] := by
 unfold F141s0 at h
 refine co 19 Tryz.func141 fun C hC => ?_
 refine ws [] lv141s0 26 [] [.len (ln (x0.map q84)) (ln x0)] [] 0 [] (st141s0_0 x0 0 ()) (R141s0_0 0 ()) hC ⟨lM _ _, trivial⟩ trivial ?_
 obtain ⟨w0, hm0, hret0, hnext0⟩ := aIn h
 clear h
 refine wc w0 (sa141s0_0) (Ra141s0_0) ?_ fun z0 hs0 => ?_
 ·refine wb ?_
  refine wL 0 rfl fun hl0 => ?_
  refine wF (by kernel_rfl) F141s0_l0 (st141s0_0 x0) (R141s0_0) w0 x0 () hm0 rfl rfl (fun z0 hn0 => ?_) fun n0 a0 z0 w0b hi0 hx0 h hb0 hr0 => ?_
  ·clear hm0
   exact wx [(decide ((cnt 0 x0.length) < (ln x0)), false)] w0 (sa141s0_0) (Ra141s0_0) lv141s0 26 [false] [] [] 0 [] () hC trivial ⟨(cE hl0), trivial⟩ hn0
  ·unfold F141s0_l0 at h
   refine ws [(decide ((cnt 0 n0) < (ln x0)), true)] lv141s0 32 [true] [.row (x0.map q84) (cnt 0 n0) (q84 a0), .call 146 [.agg (d84 a0)] [] (dB (F146 a0)) [] []] [] 0 [] [(0, .d (DS q84 x0)), (1, .d (.fn (.func 146) [] [])), (4, dI 0), (5, dI (cnt 0 n0)), (7, dI (ln x0)), (8, dI (cnt 0 n0)), (16, dB (F146 a0))] [] hC ⟨(rC hx0 hl0), ⟨e146, (k146 a0 _ rfl)⟩, trivial⟩ ⟨(cL hi0 hl0), trivial⟩ ?_
   rcases bC (F146 a0) with h1 | h1
   ·replace h := cT h1 h
    have hq := hret0 _ (hr0 _ (sI h).symm)
    replace hq := sI hq
    subst hq
    exact wr [(F146 a0, true)] lv141s0 24 [true] [] [] [.tmp 4] 0 [] hC trivial ⟨h1, trivial⟩
   ·replace h := cF h1 h
    exact wx [(F146 a0, false)] w0b (st141s0_0 x0 (n0 + 1)) (R141s0_0 (n0 + 1)) lv141s0 25 [false] [] [] 0 [] () hC trivial ⟨h1, trivial⟩ (sI h).symm
 ·have h := hnext0 _ hs0
  replace h := sI h
  subst h
  exact wr [] lv141s0 23 [] [] [] [.tmp 4] 0 [] hC trivial trivial
def e141s0 := en Tryz.func141
theorem k157 (x0 : List api_Part) (x1 : api_Part) (r : Bool) (h : F157 x0 x1 = some r) : CO 157 [.d (DS q86 x0), .agg (d86 x1)] [] (.d (Bo r)) [] := by
 unfold F157 at h
 refine co 9 Tryz.func157 fun C hC => ?_
 obtain ⟨y1, h2, h⟩ := bE h
 replace h := sI h
 subst h
 exact wr [] [0, 1, 3, 4] 25 [] [.call 200 [.d (DS q86 x0), .agg (d86 x1)] [] (dI y1) [] []] [] [.tmp 4] 0 [] hC ⟨⟨e200, (k200 x0 x1 _ h2)⟩, trivial⟩ trivial
def e157 := en Tryz.func157
theorem k105s0 (rec46 : api_Board -> api_Power -> Int -> Option Bool) (ih46 : ∀ (x0 : api_Board) (x1 : api_Power) (x2 : Int) (r : Bool), rec46 x0 x1 x2 = some r -> CO 46 [.agg (d29 x0), .agg (d36 x1), .d (I x2)] [] (.d (Bo r)) []) (x0 : Int) (x1 : api_Board) (x2 : api_Power) (r : Bool) (h : F105s0 rec46 x0 x1 x2 = some r) : CO 105 [.d (I x0), .d (.ip [.v (.int .i64 x1.Buses), .s (x1.Breakers.map q147), .s (x1.Sources.map q139), .s (x1.Consumers.map q65), .v (.int .i64 x1.Phase), .v (.int .i64 x1.Frequency)]), .d (.ip [.s (x2.Closed.map pB), .s (x2.Sources.map q120), .s (x2.Limits.map pI), .s (x2.Broken.map q86)])] [] (.d (Bo r)) [] := by
 unfold F105s0 at h
 refine co 10 Tryz.func105 fun C hC => ?_
 obtain ⟨y1, h2, h⟩ := bE h
 replace h := sI h
 subst h
 exact wr [] [0, 1, 2, 4] 25 [] [.call 46 [.agg (d29 x1), .agg (d36 x2), dI x0] [] (dB y1) [] []] [] [.tmp 4] 0 [] hC ⟨⟨e46, (ih46 x1 x2 x0 _ h2)⟩, trivial⟩ trivial
def e105s0 := en Tryz.func105
theorem k202 (x0 : Int) (x1 : Int) (r : Int) (h : F202 x0 x1 = some r) : CO 202 [.d (I x0), .d (I x1)] [] (.d (I r)) [] := by
 unfold F202 at h
 refine co 10 Tryz.func202 fun C hC => ?_
 obtain ⟨y1, h2, h⟩ := bE h
 replace h := sI h
 subst h
 exact wr [] [0, 1, 4] 25 [] [.call 203 [dI (w64 (0 - x0)), dI x1] [] (dI y1) [] []] [] [.tmp 4] 0 [] hC ⟨⟨e203, (k203 (w64 (0 - x0)) x1 _ h2)⟩, trivial⟩ trivial
def e202 := en Tryz.func202
theorem k161 (x0 : api_Arc) (r : Int) (h : F161 x0 = r) : CO 161 [.agg (d159 x0)] [] (.d (I r)) [] := by
 unfold F161 at h
 refine co 9 Tryz.func161 fun C hC => ?_
 subst h
 exact wr [] n3_ 25 [] [.call 129 [dI (w64 (x0.To - x0.From))] [] (dI (F129 (w64 (x0.To - x0.From)))) [] []] [] [.tmp 2] 0 [] hC ⟨⟨e129, (k129 (w64 (x0.To - x0.From)) _ rfl)⟩, trivial⟩ trivial
def e161 := en Tryz.func161
theorem k109 (x0 : Int) (x1 : Int) (r : Bool) (h : F109 x0 x1 = r) : CO 109 [.d (I x0), .d (I x1)] [] (.d (Bo r)) [] := by
 unfold F109 at h
 refine co 15 Tryz.func109 fun C hC => ?_
 subst h
 exact wr [] [0, 1, 4] 25 [] [.call 162 [dI x0, dI 1000000000000000000] [] (dB (F162 x0 1000000000000000000)) [] []] [] [.tmp 4] 0 [] hC ⟨⟨e162, (k162 x0 1000000000000000000 _ rfl)⟩, trivial⟩ trivial
def e109 := en Tryz.func109
theorem k140 (x0 : Int) (x1 : Int) (r : Int × Int) (h : F140 x0 x1 = r) : CO 140 [.d (.p (.v (.int .u64 x0))), .d (.p (.v (.int .u64 x1)))] [] (.tup [.d (.p (.v (.int .u64 r.1))), .d (.p (.v (.int .u64 r.2)))]) [] := by
 unfold F140 at h
 refine co 30 Tryz.func140 fun C hC => ?_
 subst h
 exact wr [(false, false)] [0, 1, 4, 5, 6, 7, 8, 9] 30 [false] [.call 194 [.d (.p (.v (.int .u64 x0))), .d (.p (.v (.int .u64 x1)))] [] (.tup [.d (.p (.v (.int .u64 ((F194 x0 x1).1)))), .d (.p (.v (.int .u64 ((F194 x0 x1).2))))]) [] []] [] [.tmp 4, .tmp 5] 0 [] hC ⟨⟨e194, (k194 x0 x1 _ rfl)⟩, trivial⟩ ⟨rfl, trivial⟩
def e140 := en Tryz.func140
theorem k116 (x0 : api_Power) (r : api_Power) (h : F116 x0 = some r) : CO 116 [.agg (d36 x0)] [] (.agg [.os 0, .os 1, .os 2, .os 3]) (zp r []) := by
 unfold F116 at h
 refine co 16 Tryz.func116 fun C hC => ?_
 obtain ⟨y1, h2, h⟩ := bE h
 obtain ⟨y3, h4, h⟩ := bE h
 obtain ⟨y5, h6, h⟩ := bE h
 obtain ⟨y7, h8, h⟩ := bE h
 replace h := sI h
 subst h
 exact wr [] n3_ 25 [] [.call 166 [.d (DS pB x0.Closed)] [] (dS 0) [v3_ y1] [], .call 167 [.d (DS q120 x0.Sources)] [] (dS 0) [v5_ y3] [], .call 168 [.d (DS pI x0.Limits)] [] (dS 0) [v0_ y5] [], .call 169 [.d (DS q86 x0.Broken)] [] (dS 0) [v4_ y7] []] [] [.cell 2 36] 0 [2, 3, 4, 5] hC ⟨⟨e166, (k166 x0.Closed _ h2)⟩, ⟨e167, (k167 x0.Sources _ h4)⟩, ⟨e168, (k168 x0.Limits _ h6)⟩, ⟨e169, (k169 x0.Broken _ h8)⟩, trivial⟩ trivial
def e116 := en Tryz.func116
theorem k60 (x0 : api_Power) (x1 : api_Power) (r : Bool) (h : F60 x0 x1 = some r) : CO 60 [.agg (d36 x0), .agg (d36 x1)] [] (.d (Bo r)) [] := by
 unfold F60 at h
 refine co 31 Tryz.func60 fun C hC => ?_
 obtain ⟨y1, h2, h⟩ := bE h
 obtain ⟨y3, h4, h⟩ := bE h
 obtain ⟨y5, h6, h⟩ := bE h
 obtain ⟨y7, h8, h⟩ := bE h
 replace h := sI h
 subst h
 exact wr [] n5_ 25 [] [.call 118 [.d (DS pB x0.Closed), .d (DS pB x1.Closed)] [] (dB y1) [] [], .when [(y1, true)] (.call 119 [.d (DS q120 x0.Sources), .d (DS q120 x1.Sources)] [] (dB y3) [] []), .when [((y1 && y3), true)] (.call 120 [.d (DS pI x0.Limits), .d (DS pI x1.Limits)] [] (dB y5) [] []), .when [(((y1 && y3) && y5), true)] (.call 121 [.d (DS q86 x0.Broken), .d (DS q86 x1.Broken)] [] (dB y7) [] [])] [] [.tmp 4] 0 [] hC ⟨⟨e118, (k118 x0.Closed x1.Closed _ h2)⟩, fun hg => ⟨e119, (k119 x0.Sources x1.Sources _ (gg h4 hg))⟩, fun hg => ⟨e120, (k120 x0.Limits x1.Limits _ (gg h6 hg))⟩, fun hg => ⟨e121, (k121 x0.Broken x1.Broken _ (gg h8 hg))⟩, trivial⟩ trivial
def e60 := en Tryz.func60
theorem k62s0 (x0 : api_Roster) (x1c0 : api_Plant) (r : Bool × api_Plant) (h : F62s0 x0 x1c0 = r) : CO 62 [.agg (d130 x0), .d (.o 0 0)] [.box 126 [.fn (.func 58) [] [.o 1 0]], .box 40 (d40 x1c0)] (.d (Bo r.1)) [.box 126 [.fn (.func 58) [] [.o 1 0]], .box 40 (d40 r.2)] := by
 unfold F62s0 at h
 refine co 16 Tryz.func62 fun C hC => ?_
 subst h
 exact wr [] n4_ 25 [] [.callB 58 [dI x0.High, .d (.ip [.v (.int .i64 x1c0.Time), .s (x1c0.Power.Closed.map pB), .s (x1c0.Power.Sources.map q120), .s (x1c0.Power.Limits.map pI), .s (x1c0.Power.Broken.map q86), .s (x1c0.Rosters.map q130), .s (x1c0.Events.map q51)])] (dB (F58s0 x0.High x1c0)) [[]] 0 [], .when [(!(F58s0 x0.High x1c0), false)] (.callB 58 [dI x0.Low, .d (.ip [.v (.int .i64 x1c0.Time), .s (x1c0.Power.Closed.map pB), .s (x1c0.Power.Sources.map q120), .s (x1c0.Power.Limits.map pI), .s (x1c0.Power.Broken.map q86), .s (x1c0.Rosters.map q130), .s (x1c0.Events.map q51)])] (dB (F58s0 x0.Low x1c0)) [[]] 0 [])] [] [.tmp 3] 2 [0, 1] hC ⟨l0g ⟨e58s0, (k58s0 x0.High x1c0 _ rfl)⟩, fun hg => l0g ⟨e58s0, (k58s0 x0.Low x1c0 _ rfl)⟩, trivial⟩ trivial
def e62s0 := en Tryz.func62
def lv134 : List Nat := [0, 1, 2, 3, 4, 6, 7, 14, 21, 27, 39]
def sa134_0 (x1 : api_Act) (z0 : Bool) : St := [(2, dO 0 0), (3, dO 1 0), (4, dB false), (6, dI x1.Kind), (7, dB z0)]
def Ra134_0 (x0 : api_Board) (x1 : api_Act) (z0 : Bool) : List Res := [.box 29 (d29 x0), .box 49 (d49 x1)]
def sa134_1 (x1 : api_Act) (z1 : Bool) : St := [(2, dO 0 0), (3, dO 1 0), (4, dB false), (6, dI x1.Kind), (14, dB z1)]
def Ra134_1 (x0 : api_Board) (x1 : api_Act) (z1 : Bool) : List Res := [.box 29 (d29 x0), .box 49 (d49 x1)]
theorem k134 (x0 : api_Board) (x1 : api_Act) (r : Bool) (h : F134 x0 x1 = some r) : CO 134 [.agg (d29 x0), .agg (d49 x1)] [] (.d (Bo r)) [] := by
 unfold F134 at h
 refine co 48 Tryz.func134 fun C hC => ?_
 refine ws [] lv134 30 [] [] [] 0 [0, 1] [(2, dO 0 0), (3, dO 1 0), (4, dB false), (6, dI x1.Kind), (7, dB (x1.Kind == 1))] [.box 29 (d29 x0), .box 49 (d49 x1)] hC trivial trivial ?_
 obtain ⟨w0, h, hret0, hnext0⟩ := aIn h
 refine wc w0 (sa134_0 x1) (Ra134_0 x0 x1) ?_ fun z0 hs0 => ?_
 ·unfold F134_m0 at h
  rcases bC ((x1.Kind == 1)) with h1 | h1
  ·replace h := cT h1 h
   exact wx [((x1.Kind == 1), true)] w0 (sa134_0 x1) (Ra134_0 x0 x1) lv134 23 [true] [] [] 0 [0, 1] (x1.Kind == 1) hC trivial ⟨h1, trivial⟩ (sI h).symm
  ·replace h := cF h1 h
   exact wx [((x1.Kind == 1), false)] w0 (sa134_0 x1) (Ra134_0 x0 x1) lv134 23 [false] [] [] 0 [0, 1] (x1.Kind == 2) hC trivial ⟨h1, trivial⟩ (sI h).symm
 ·clear h; have h := hnext0 _ hs0
  rcases bC (z0) with h2 | h2
  ·replace h := cT h2 h
   obtain ⟨y3, h4, h⟩ := bE h
   replace h := sI h
   subst h
   exact wr [(z0, true)] lv134 24 [true] [.call 181 [.agg (d29 x0), dI 2, dI x1.Unit] [] (dB y3) [] []] [] [.tmp 4] 0 [] hC ⟨⟨e181, (k181 x0 2 x1.Unit _ h4)⟩, trivial⟩ ⟨h2, trivial⟩
  ·replace h := cF h2 h
   refine ws [(z0, false)] lv134 25 [false] [] [] 0 [0, 1] [(2, dO 0 0), (3, dO 1 0), (4, dB false), (6, dI x1.Kind), (14, dB (x1.Kind == 3))] [.box 29 (d29 x0), .box 49 (d49 x1)] hC trivial ⟨h2, trivial⟩ ?_
   obtain ⟨w1, h, hret1, hnext1⟩ := aIn h
   refine wc w1 (sa134_1 x1) (Ra134_1 x0 x1) ?_ fun z1 hs1 => ?_
   ·unfold F134_m1 at h
    rcases bC ((x1.Kind == 3)) with h5 | h5
    ·replace h := cT h5 h
     exact wx [((x1.Kind == 3), true)] w1 (sa134_1 x1) (Ra134_1 x0 x1) lv134 23 [true] [] [] 0 [0, 1] (x1.Kind == 3) hC trivial ⟨h5, trivial⟩ (sI h).symm
    ·replace h := cF h5 h
     exact wx [((x1.Kind == 3), false)] w1 (sa134_1 x1) (Ra134_1 x0 x1) lv134 23 [false] [] [] 0 [0, 1] (x1.Kind == 4) hC trivial ⟨h5, trivial⟩ (sI h).symm
   ·clear h; have h := hnext1 _ hs1
    rcases bC (z1) with h6 | h6
    ·replace h := cT h6 h
     obtain ⟨y7, h8, h⟩ := bE h
     replace h := sI h
     subst h
     exact wr [(z1, true)] lv134 24 [true] [.call 181 [.agg (d29 x0), dI 1, dI x1.Unit] [] (dB y7) [] []] [] [.tmp 4] 0 [] hC ⟨⟨e181, (k181 x0 1 x1.Unit _ h8)⟩, trivial⟩ ⟨h6, trivial⟩
    ·replace h := cF h6 h
     rcases bC ((x1.Kind == 5)) with h9 | h9
     ·replace h := cT h9 h
      cases h
     ·replace h := cF h9 h
      rcases bC ((x1.Kind == 6)) with h10 | h10
      ·replace h := cT h10 h
       cases h
      ·replace h := cF h10 h
       rcases bC ((x1.Kind == 8)) with h11 | h11
       ·replace h := cT h11 h
        obtain ⟨y12, h13, h⟩ := bE h
        replace h := sI h
        subst h
        exact wr [(z1, false), ((x1.Kind == 5), false), ((x1.Kind == 6), false), ((x1.Kind == 8), true), ((x1.Kind == 8), true)] lv134 36 [false, false, false, true, true] [.call 181 [.agg (d29 x0), dI x1.Value, dI x1.Unit] [] (dB y12) [] []] [] [.tmp 4] 0 [] hC ⟨⟨e181, (k181 x0 x1.Value x1.Unit _ h13)⟩, trivial⟩ ⟨h6, h9, h10, h11, h11, trivial⟩
       ·replace h := cF h11 h
        rcases bC ((x1.Kind == 9)) with h14 | h14
        ·replace h := cT h14 h
         obtain ⟨y15, h16, h⟩ := bE h
         replace h := sI h
         subst h
         exact wr [(z1, false), ((x1.Kind == 5), false), ((x1.Kind == 6), false), ((x1.Kind == 8), false), ((x1.Kind == 9), true)] lv134 36 [false, false, false, false, true] [.call 181 [.agg (d29 x0), dI x1.Value, dI x1.Unit] [] (dB y15) [] []] [] [.tmp 4] 0 [] hC ⟨⟨e181, (k181 x0 x1.Value x1.Unit _ h16)⟩, trivial⟩ ⟨h6, h9, h10, h11, h14, trivial⟩
        ·replace h := cF h14 h
         replace h := sI h
         subst h
         exact wr [(z1, false), ((x1.Kind == 5), false), ((x1.Kind == 6), false), ((x1.Kind == 8), false), ((x1.Kind == 9), false)] lv134 38 [false, false, false, false, false] [] [] [.tmp 4] 0 [] hC trivial ⟨h6, h9, h10, h11, h14, trivial⟩
def e134 := en Tryz.func134
theorem k248 (x0 : Int) (x1 : Int) (r : Int) (h : F248 x0 x1 = some r) : CO 248 [.d (I x0), .d (I x1)] [] (.d (I r)) [] := by
 unfold F248 at h
 refine co 17 Tryz.func248 fun C hC => ?_
 refine ws [] [0, 1, 4, 5, 13] 28 [] [.call 229 [dI x1] [] (dI (F229 x1)) [] [], .call 229 [dI x0] [] (dI (F229 x0)) [] [], .call 229 [dI (w64 ((F229 x1) - (F229 x0)))] [] (.d (I (F229 (w64 ((F229 x1) - (F229 x0)))))) [] []] [] 0 [] [(4, dI 0), (5, .d (I (F229 (w64 ((F229 x1) - (F229 x0)))))), (13, dB (c248_0 x0 x1))] [] hC ⟨⟨e229, (k229 x1 _ rfl)⟩, ⟨e229, (k229 x0 _ rfl)⟩, ⟨e229, (k229 (w64 ((F229 x1) - (F229 x0))) _ rfl)⟩, trivial⟩ trivial ?_
 rcases bC ((c248_0 x0 x1)) with h1 | h1
 ·replace h := cT h1 h
  cases h
 ·replace h := cF h1 h
  replace h := sI h
  subst h
  exact wr [((c248_0 x0 x1), false)] [0, 1, 4, 5, 13] 25 [false] [] [] [.tmp 4] 0 [] hC trivial ⟨h1, trivial⟩
def e248 := en Tryz.func248
def lv218s1 : List Nat := [0, 1, 4, 5, 7, 8, 9, 16]
def st218s1_0 (x0 : List api_Breaker) (n0 : Nat) (z0 : Unit) : St := [(0, .d (DS q147 x0)), (1, .d (.fn (.func 244) [] [.o 0 0])), (4, dI 0), (7, dI (ln x0)), (8, dI (cnt 0 n0))]
def R218s1_0 (x1c0 : Int) (n0 : Nat) (z0 : Unit) : List Res := [.box 3 [I x1c0]]
def sa218s1_0  (z0 : Unit) : St := [(4, dI 0)]
def Ra218s1_0 (x1c0 : Int) (z0 : Unit) : List Res := [.box 3 [I x1c0]]
theorem k218s1 (x0 : List api_Breaker) (x1c0 : Int) (r : Int × Int) (h : F218s1 x0 x1c0 = some r) : CO 218 [.d (DS q147 x0), .d (.fn (.func 244) [] [.o 0 0])] [.box 3 [I x1c0]] (.d (I r.1)) [.box 3 [I r.2]] := by
 unfold F218s1 at h
 refine co 19 Tryz.func218 fun C hC => ?_
 refine ws [] lv218s1 26 [] [.len (ln (x0.map q147)) (ln x0)] [] 1 [0] (st218s1_0 x0 0 ()) (R218s1_0 x1c0 0 ()) hC ⟨lM _ _, trivial⟩ trivial ?_
 obtain ⟨w0, hm0, hret0, hnext0⟩ := aIn h
 clear h
 refine wc w0 (sa218s1_0) (Ra218s1_0 x1c0) ?_ fun z0 hs0 => ?_
 ·refine wb ?_
  refine wL 0 rfl fun hl0 => ?_
  refine wF (by kernel_rfl) (F218s1_l0 x1c0) (st218s1_0 x0) (R218s1_0 x1c0) w0 x0 () hm0 rfl rfl (fun z0 hn0 => ?_) fun n0 a0 z0 w0b hi0 hx0 h hb0 hr0 => ?_
  ·clear hm0
   exact wx [(decide ((cnt 0 x0.length) < (ln x0)), false)] w0 (sa218s1_0) (Ra218s1_0 x1c0) lv218s1 26 [false] [] [] 1 [0] () hC trivial ⟨(cE hl0), trivial⟩ hn0
  ·unfold F218s1_l0 at h
   refine ws [(decide ((cnt 0 n0) < (ln x0)), true)] lv218s1 32 [true] [.row (x0.map q147) (cnt 0 n0) (q147 a0), .callB 244 [.agg (d147 a0), .d (.ip [.v (.int .i64 x1c0)])] (dB (F244s0 a0 x1c0)) [[]] 0 []] [] 1 [0] [(0, .d (DS q147 x0)), (1, .d (.fn (.func 244) [] [.o 0 0])), (4, dI 0), (5, dI (cnt 0 n0)), (7, dI (ln x0)), (8, dI (cnt 0 n0)), (16, dB (F244s0 a0 x1c0))] [.box 3 [I x1c0]] hC ⟨(rC hx0 hl0), l0g ⟨e244s0, (k244s0 a0 x1c0 _ rfl)⟩, trivial⟩ ⟨(cL hi0 hl0), trivial⟩ ?_
   rcases bC (F244s0 a0 x1c0) with h1 | h1
   ·replace h := cT h1 h
    have hq := hret0 _ (hr0 _ (sI h).symm)
    replace hq := sI hq
    subst hq
    exact wr [(F244s0 a0 x1c0, true)] lv218s1 24 [true] [] [] [.tmp 4] 1 [0] hC trivial ⟨h1, trivial⟩
   ·replace h := cF h1 h
    exact wx [(F244s0 a0 x1c0, false)] w0b (st218s1_0 x0 (n0 + 1)) (R218s1_0 x1c0 (n0 + 1)) lv218s1 25 [false] [] [] 1 [0] () hC trivial ⟨h1, trivial⟩ (sI h).symm
 ·have h := hnext0 _ hs0
  replace h := sI h
  subst h
  exact wr [] lv218s1 23 [] [] [] [.tmp 4] 1 [0] hC trivial trivial
def e218s1 := en Tryz.func218
def lv223s0 : List Nat := [0, 1, 2, 4, 6, 7, 8, 9, 10, 11, 17, 31]
def st223s0_0 (x0 : List api_Part) (z0 : Unit) : St := [(0, .d (DS q86 x0)), (2, .d (.fn (.func 224) [] [])), (4, dO 0 0), (6, dI 0), (7, dB false), (8, dI (ln x0)), (9, dI 0), (10, dI (ln x0))]
def R223s0_0 (x1 : api_Part) (z0 : Unit) : List Res := [.box 86 (d86 x1)]
def sa223s0_0 (x0 : List api_Part) (z0 : Unit) : St := [(0, .d (DS q86 x0)), (2, .d (.fn (.func 224) [] [])), (4, dO 0 0), (6, dI 0), (7, dB false), (8, dI (ln x0)), (9, dI 0)]
def Ra223s0_0 (x1 : api_Part) (z0 : Unit) : List Res := [.box 86 (d86 x1)]
theorem k223s0 (x0 : List api_Part) (x1 : api_Part) (r : Int × Bool) (h : F223s0 x0 x1 = some r) : CO 223 [.d (DS q86 x0), .agg (d86 x1), .d (.fn (.func 224) [] [])] [] (.tup [.d (I r.1), .d (Bo r.2)]) [] := by
 unfold F223s0 at h
 refine co 49 Tryz.func223 fun C hC => ?_
 refine ws [] lv223s0 28 [] [.len (ln (x0.map q86)) (ln x0)] [] 0 [0] (st223s0_0 x0 ()) (R223s0_0 x1 ()) hC ⟨lM _ _, trivial⟩ trivial ?_
 obtain ⟨w0, hm0, hret0, hnext0⟩ := aIn h
 clear h
 refine wc w0 (sa223s0_0 x0) (Ra223s0_0 x1) ?_ fun z0 hs0 => ?_
 ·refine wb ?_
  refine wW (by kernel_rfl) (F223s0_l0 x0) (st223s0_0 x0) (R223s0_0 x1) w0 1152921504606846976 () hm0 rfl rfl fun z0 w0b h hb0 hr0 => ?_
  unfold F223s0_l0 at h
  rcases bC (decide (0 < (ln x0))) with h1 | h1
  ·replace h := cT h1 h
   cases h
  ·replace h := cF h1 h
   exact wx [(decide (0 < (ln x0)), false)] w0 (sa223s0_0 x0) (Ra223s0_0 x1) lv223s0 26 [false] [] [] 0 [0] () hC trivial ⟨h1, trivial⟩ (hb0 _ (sI h).symm)
 ·have h := hnext0 _ hs0
  obtain ⟨y2, h3, h⟩ := bE h
  replace h := sI h
  subst h
  exact wr [] lv223s0 23 [] [.when [(decide (0 < (ln x0)), true)] (.row (x0.map q86) 0 (q86 y2)), .when [(decide (0 < (ln x0)), true)] (.call 224 [.agg (d86 y2), .agg (d86 x1)] [] (dI (F224 y2 x1)) [] [])] [] [.tmp 6, .tmp 7] 0 [] hC ⟨fun hg => rg (gg h3 hg), fun hg => ⟨e224, (k224 y2 x1 _ rfl)⟩, trivial⟩ trivial
def e223s0 := en Tryz.func223
theorem k78 (x0 : dynposmake_Src) (x1 : Int) (x2 : Int) (r : Int × dynposmake_Src) (h : F78 x0 x1 x2 = some r) : CO 78 [.d (.o 0 0), .d (I x1), .d (I x2)] [.box 90 (d90 x0)] (.d (I r.1)) [.box 90 (d90 r.2)] := by
 unfold F78 at h
 refine co 15 Tryz.func78 fun C hC => ?_
 obtain ⟨y1, h2, h⟩ := bE h
 replace h := sI h
 subst h
 exact wr [] [0, 1, 2, 6] 25 [] [.call 32 [dO 0 0, .d (I (w64 ((w64 (x2 - x1)) + 1)))] [.box 90 (d90 x0)] (dI y1.1) [.box 90 (d90 y1.2)] [0]] [] [.tmp 6] 1 [0] hC ⟨⟨e32, (k32 x0 (w64 ((w64 (x2 - x1)) + 1)) _ h2)⟩, trivial⟩ trivial
def e78 := en Tryz.func78
theorem k40 (x0 : dynposmake_Src) (x1 : List Int) (r : Int × dynposmake_Src) (h : F40 x0 x1 = some r) : CO 40 [.d (.o 0 0), .d (DS pI x1)] [.box 90 (d90 x0)] (.d (I r.1)) [.box 90 (d90 r.2)] := by
 unfold F40 at h
 refine co 12 Tryz.func40 fun C hC => ?_
 obtain ⟨y1, h2, h⟩ := bE h
 obtain ⟨y3, h4, h⟩ := bE h
 replace h := sI h
 subst h
 exact wr [] [0, 1, 4] 25 [] [.len (ln (x1.map pI)) (ln x1), .call 32 [dO 0 0, dI (ln x1)] [.box 90 (d90 x0)] (dI y1.1) [.box 90 (d90 y1.2)] [0], .row (x1.map pI) y1.1 (pI y3)] [] [.tmp 4] 1 [0] hC ⟨lM _ _, ⟨e32, (k32 x0 (ln x1) _ h2)⟩, rg h4, trivial⟩ trivial
def e40 := en Tryz.func40
theorem k111 (x0 : api_Board) (r : Int) (h : F111 x0 = some r) : CO 111 [.agg (d29 x0)] [] (.d (I r)) [] := by
 unfold F111 at h
 refine co 62 Tryz.func111 fun C hC => ?_
 refine ws [] [0, 1, 2, 28, 61] 26 [] [.when [(((decide (x0.Buses < 1)) || (decide (x0.Buses > 6))), false)] (.len (ln (x0.Breakers.map q147)) (ln x0.Breakers)), .when [((((decide (x0.Buses < 1)) || (decide (x0.Buses > 6))) || (decide ((ln x0.Breakers) > 24))), false)] (.len (ln (x0.Sources.map q139)) (ln x0.Sources)), .when [(((((decide (x0.Buses < 1)) || (decide (x0.Buses > 6))) || (decide ((ln x0.Breakers) > 24))) || (decide ((ln x0.Sources) > 8))), false)] (.len (ln (x0.Consumers.map q65)) (ln x0.Consumers))] [] 0 [0] [(1, dO 0 0), (2, dI 0), (28, dB (c111_0 x0))] [.box 29 (d29 x0)] hC ⟨fun hg => lM _ _, fun hg => lM _ _, fun hg => lM _ _, trivial⟩ trivial ?_
 rcases bC ((c111_0 x0)) with h1 | h1
 ·replace h := cT h1 h
  replace h := sI h
  subst h
  exact wr [((c111_0 x0), true)] [0, 1, 2, 28, 61] 24 [true] [] [] [.tmp 2] 0 [] hC trivial ⟨h1, trivial⟩
 ·replace h := cF h1 h
  obtain ⟨y2, h3, h⟩ := bE h
  obtain ⟨y4, h5, h⟩ := bE h
  obtain ⟨y6, h7, h⟩ := bE h
  refine ws [((c111_0 x0), false)] [0, 1, 2, 28, 61] 26 [false] [.call 163 [.agg (d29 x0)] [] (dB y2) [] [], .when [(!y2, false)] (.call 164 [.agg (d29 x0)] [] (dB y4) [] []), .when [(((!y2) || (!y4)), false)] (.call 165 [.agg (d29 x0)] [] (dB y6) [] [])] [] 0 [] [(2, dI 0), (61, dB (c111_1 x0 y2 y4 y6))] [] hC ⟨⟨e163, (k163 x0 _ h3)⟩, fun hg => ⟨e164, (k164 x0 _ (gg h5 hg))⟩, fun hg => ⟨e165, (k165 x0 _ (gg h7 hg))⟩, trivial⟩ ⟨h1, trivial⟩ ?_
  rcases bC ((c111_1 x0 y2 y4 y6)) with h8 | h8
  ·replace h := cT h8 h
   replace h := sI h
   subst h
   exact wr [((c111_1 x0 y2 y4 y6), true)] [0, 1, 2, 28, 61] 24 [true] [] [] [.tmp 2] 0 [] hC trivial ⟨h8, trivial⟩
  ·replace h := cF h8 h
   replace h := sI h
   subst h
   exact wr [((c111_1 x0 y2 y4 y6), false)] [0, 1, 2, 28, 61] 25 [false] [] [] [.tmp 2] 0 [] hC trivial ⟨h8, trivial⟩
def e111 := en Tryz.func111
def lv242s1 : List Nat := [0, 1, 2, 6, 7, 8, 9, 13, 30, 35, 54]
def st242s1_0 (x1 : Int) (z0 : Unit) : St := [(0, dS 0), (1, dI x1), (2, .d (.fn (.func 233) [] [.o 1 0])), (6, dI 20), (7, dI 0), (8, dI 20)]
def R242s1_0 (x0 : List Int) (x2c0 : api_Board) (z0 : Unit) : List Res := [v0_ x0, .box 29 (d29 x2c0)]
def sa242s1_0 (x1 : Int) (z0 : Unit) : St := [(0, dS 0), (1, dI x1), (2, .d (.fn (.func 233) [] [.o 1 0])), (6, dI 20), (7, dI 0), (8, dI 20)]
def Ra242s1_0 (x0 : List Int) (x2c0 : api_Board) (z0 : Unit) : List Res := [v0_ x0, .box 29 (d29 x2c0)]
def st242s1_1 (x1 : Int) (z1 : Unit) : St := [(0, dS 0), (1, dI x1), (2, .d (.fn (.func 233) [] [.o 1 0])), (6, dI 20), (7, dI 0), (8, dI 20)]
def R242s1_1 (x0 : List Int) (x2c0 : api_Board) (z1 : Unit) : List Res := [v0_ x0, .box 29 (d29 x2c0)]
def sa242s1_1  (z1 : Unit) : St := []
def Ra242s1_1 (x0 : List Int) (x2c0 : api_Board) (z1 : Unit) : List Res := [v0_ x0, .box 29 (d29 x2c0)]
theorem k242s1 (x0 : List Int) (x1 : Int) (x2c0 : api_Board) (r : api_Board) (h : F242s1 x0 x1 x2c0 = some r) : CO 242 [.d (.os 0), .d (I x1), .d (.fn (.func 233) [] [.o 1 0])] [v0_ x0, .box 29 (d29 x2c0)] (.tup []) [v0_ x0, .box 29 (d29 r)] := by
 unfold F242s1 at h
 refine co 63 Tryz.func242 fun C hC => ?_
 refine ws [] lv242s1 26 [] [] [] 2 [0, 1] (st242s1_0 x1 ()) (R242s1_0 x0 x2c0 ()) hC trivial trivial ?_
 obtain ⟨w0, hm0, hret0, hnext0⟩ := aIn h
 clear h
 refine wc w0 (sa242s1_0 x1) (Ra242s1_0 x0 x2c0) ?_ fun z0 hs0 => ?_
 ·refine wb ?_
  refine wW (by kernel_rfl) (F242s1_l0 x1) (st242s1_0 x1) (R242s1_0 x0 x2c0) w0 1152921504606846976 () hm0 rfl rfl fun z0 w0b h hb0 hr0 => ?_
  unfold F242s1_l0 at h
  rcases bC (decide (20 <= x1)) with h1 | h1
  ·replace h := cT h1 h
   cases h
  ·replace h := cF h1 h
   exact wx [(decide (20 <= x1), false)] w0 (sa242s1_0 x1) (Ra242s1_0 x0 x2c0) lv242s1 26 [false] [] [] 2 [0, 1] () hC trivial ⟨h1, trivial⟩ (hb0 _ (sI h).symm)
 ·have h := hnext0 _ hs0
  obtain ⟨y2, h3, h⟩ := bE h
  refine ws [] lv242s1 23 [] [.callB 246 [.d (DS pI x0), dI 0, dI x1, .d (.fn (.func 233) [] [.ip [.v (.int .i64 x2c0.Buses), .s (x2c0.Breakers.map q147), .s (x2c0.Sources.map q139), .s (x2c0.Consumers.map q65), .v (.int .i64 x2c0.Phase), .v (.int .i64 x2c0.Frequency)]])] (.tup []) [[]] 0 []] [] 2 [0, 1] (st242s1_1 x1 ()) (R242s1_1 x0 x2c0 ()) hC ⟨l0g ⟨e246s0, (k246s0 x0 0 x1 x2c0 _ h3)⟩, trivial⟩ trivial ?_
  obtain ⟨w1, hm1, hret1, hnext1⟩ := aIn h
  clear h
  refine wc w1 (sa242s1_1) (Ra242s1_1 x0 x2c0) ?_ fun z1 hs1 => ?_
  ·refine wb ?_
   refine wW (by kernel_rfl) (F242s1_l1 x1) (st242s1_1 x1) (R242s1_1 x0 x2c0) w1 1152921504606846976 () hm1 rfl rfl fun z1 w1b h hb1 hr1 => ?_
   unfold F242s1_l1 at h
   rcases bC (decide (20 < x1)) with h4 | h4
   ·replace h := cT h4 h
    cases h
   ·replace h := cF h4 h
    exact wx [(decide (20 < x1), false)] w1 (sa242s1_1) (Ra242s1_1 x0 x2c0) lv242s1 26 [false] [] [] 2 [0, 1] () hC trivial ⟨h4, trivial⟩ (hb1 _ (sI h).symm)
  ·have h := hnext1 _ hs1
   replace h := sI h
   subst h
   exact wf [] lv242s1 20 [] [] [] [] 2 [0, 1] hC trivial trivial
def e242s1 := en Tryz.func242
def lv218s3 : List Nat := [0, 1, 4, 5, 7, 8, 9, 16]
def st218s3_0 (x0 : List api_Breaker) (n0 : Nat) (z0 : Unit) : St := [(0, .d (DS q147 x0)), (1, .d (.fn (.func 219) [] [.o 0 0])), (4, dI 0), (7, dI (ln x0)), (8, dI (cnt 0 n0))]
def R218s3_0 (x1c0 : Int) (n0 : Nat) (z0 : Unit) : List Res := [.box 3 [I x1c0]]
def sa218s3_0  (z0 : Unit) : St := [(4, dI 0)]
def Ra218s3_0 (x1c0 : Int) (z0 : Unit) : List Res := [.box 3 [I x1c0]]
theorem k218s3 (x0 : List api_Breaker) (x1c0 : Int) (r : Int × Int) (h : F218s3 x0 x1c0 = some r) : CO 218 [.d (DS q147 x0), .d (.fn (.func 219) [] [.o 0 0])] [.box 3 [I x1c0]] (.d (I r.1)) [.box 3 [I r.2]] := by
 unfold F218s3 at h
 refine co 19 Tryz.func218 fun C hC => ?_
 refine ws [] lv218s3 26 [] [.len (ln (x0.map q147)) (ln x0)] [] 1 [0] (st218s3_0 x0 0 ()) (R218s3_0 x1c0 0 ()) hC ⟨lM _ _, trivial⟩ trivial ?_
 obtain ⟨w0, hm0, hret0, hnext0⟩ := aIn h
 clear h
 refine wc w0 (sa218s3_0) (Ra218s3_0 x1c0) ?_ fun z0 hs0 => ?_
 ·refine wb ?_
  refine wL 0 rfl fun hl0 => ?_
  refine wF (by kernel_rfl) (F218s3_l0 x1c0) (st218s3_0 x0) (R218s3_0 x1c0) w0 x0 () hm0 rfl rfl (fun z0 hn0 => ?_) fun n0 a0 z0 w0b hi0 hx0 h hb0 hr0 => ?_
  ·clear hm0
   exact wx [(decide ((cnt 0 x0.length) < (ln x0)), false)] w0 (sa218s3_0) (Ra218s3_0 x1c0) lv218s3 26 [false] [] [] 1 [0] () hC trivial ⟨(cE hl0), trivial⟩ hn0
  ·unfold F218s3_l0 at h
   refine ws [(decide ((cnt 0 n0) < (ln x0)), true)] lv218s3 32 [true] [.row (x0.map q147) (cnt 0 n0) (q147 a0), .callB 219 [.agg (d147 a0), .d (.ip [.v (.int .i64 x1c0)])] (dB (F219s0 a0 x1c0)) [[]] 0 []] [] 1 [0] [(0, .d (DS q147 x0)), (1, .d (.fn (.func 219) [] [.o 0 0])), (4, dI 0), (5, dI (cnt 0 n0)), (7, dI (ln x0)), (8, dI (cnt 0 n0)), (16, dB (F219s0 a0 x1c0))] [.box 3 [I x1c0]] hC ⟨(rC hx0 hl0), l0g ⟨e219s0, (k219s0 a0 x1c0 _ rfl)⟩, trivial⟩ ⟨(cL hi0 hl0), trivial⟩ ?_
   rcases bC (F219s0 a0 x1c0) with h1 | h1
   ·replace h := cT h1 h
    have hq := hret0 _ (hr0 _ (sI h).symm)
    replace hq := sI hq
    subst hq
    exact wr [(F219s0 a0 x1c0, true)] lv218s3 24 [true] [] [] [.tmp 4] 1 [0] hC trivial ⟨h1, trivial⟩
   ·replace h := cF h1 h
    exact wx [(F219s0 a0 x1c0, false)] w0b (st218s3_0 x0 (n0 + 1)) (R218s3_0 x1c0 (n0 + 1)) lv218s3 25 [false] [] [] 1 [0] () hC trivial ⟨h1, trivial⟩ (sI h).symm
 ·have h := hnext0 _ hs0
  replace h := sI h
  subst h
  exact wr [] lv218s3 23 [] [] [] [.tmp 4] 1 [0] hC trivial trivial
def e218s3 := en Tryz.func218
def lv141s1 : List Nat := [0, 1, 4, 5, 7, 8, 9, 16]
def st141s1_0 (x0 : List api_Island) (n0 : Nat) (z0 : Unit) : St := [(0, .d (DS q84 x0)), (1, .d (.fn (.func 90) [] [])), (4, dI 0), (7, dI (ln x0)), (8, dI (cnt 0 n0))]
def R141s1_0  (n0 : Nat) (z0 : Unit) : List Res := []
def sa141s1_0  (z0 : Unit) : St := [(4, dI 0)]
def Ra141s1_0  (z0 : Unit) : List Res := []
theorem k141s1 (x0 : List api_Island) (r : Int) (h : F141s1 x0 = some r) : CO 141 [.d (DS q84 x0), .d (.fn (.func 90) [] [])] [] (.d (I r)) [] := by
 unfold F141s1 at h
 refine co 19 Tryz.func141 fun C hC => ?_
 refine ws [] lv141s1 26 [] [.len (ln (x0.map q84)) (ln x0)] [] 0 [] (st141s1_0 x0 0 ()) (R141s1_0 0 ()) hC ⟨lM _ _, trivial⟩ trivial ?_
 obtain ⟨w0, hm0, hret0, hnext0⟩ := aIn h
 clear h
 refine wc w0 (sa141s1_0) (Ra141s1_0) ?_ fun z0 hs0 => ?_
 ·refine wb ?_
  refine wL 0 rfl fun hl0 => ?_
  refine wF (by kernel_rfl) F141s1_l0 (st141s1_0 x0) (R141s1_0) w0 x0 () hm0 rfl rfl (fun z0 hn0 => ?_) fun n0 a0 z0 w0b hi0 hx0 h hb0 hr0 => ?_
  ·clear hm0
   exact wx [(decide ((cnt 0 x0.length) < (ln x0)), false)] w0 (sa141s1_0) (Ra141s1_0) lv141s1 26 [false] [] [] 0 [] () hC trivial ⟨(cE hl0), trivial⟩ hn0
  ·unfold F141s1_l0 at h
   rcases bC (F90 a0) with h1 | h1
   ·replace h := cT h1 h
    have hq := hret0 _ (hr0 _ (sI h).symm)
    replace hq := sI hq
    subst hq
    exact wr [(decide ((cnt 0 n0) < (ln x0)), true), (F90 a0, true)] lv141s1 35 [true, true] [.row (x0.map q84) (cnt 0 n0) (q84 a0), .call 90 [.agg (d84 a0)] [] (dB (F90 a0)) [] []] [] [.tmp 4] 0 [] hC ⟨(rC hx0 hl0), ⟨e90, (k90 a0 _ rfl)⟩, trivial⟩ ⟨(cL hi0 hl0), h1, trivial⟩
   ·replace h := cF h1 h
    exact wx [(decide ((cnt 0 n0) < (ln x0)), true), (F90 a0, false)] w0b (st141s1_0 x0 (n0 + 1)) (R141s1_0 (n0 + 1)) lv141s1 36 [true, false] [.row (x0.map q84) (cnt 0 n0) (q84 a0), .call 90 [.agg (d84 a0)] [] (dB (F90 a0)) [] []] [] 0 [] () hC ⟨(rC hx0 hl0), ⟨e90, (k90 a0 _ rfl)⟩, trivial⟩ ⟨(cL hi0 hl0), h1, trivial⟩ (sI h).symm
 ·have h := hnext0 _ hs0
  replace h := sI h
  subst h
  exact wr [] lv141s1 23 [] [] [] [.tmp 4] 0 [] hC trivial trivial
def e141s1 := en Tryz.func141
theorem k151 (x0 : api_Arc) (r : Bool) (h : F151 x0 = r) : CO 151 [.agg (d159 x0)] [] (.d (Bo r)) [] := by
 unfold F151 at h
 refine co 19 Tryz.func151 fun C hC => ?_
 subst h
 exact wr [] n4_ 27 [] [.call 197 [dI x0.From] [] (dB (F197 x0.From)) [] [], .when [(F197 x0.From, true)] (.call 197 [dI x0.To] [] (dB (F197 x0.To)) [] []), .when [(((F197 x0.From) && (F197 x0.To)), true)] (.call 198 [.agg (d159 x0)] [] (dI (F198 x0)) [] [])] [] [.tmp 2] 0 [] hC ⟨⟨e197, (k197 x0.From _ rfl)⟩, fun hg => ⟨e197, (k197 x0.To _ rfl)⟩, fun hg => ⟨e198, (k198 x0 _ rfl)⟩, trivial⟩ trivial
def e151 := en Tryz.func151
theorem k191s0 (x0 : List (List Int)) (r : Bool) (h : F191s0 x0 = some r) : CO 191 [.d (DS (pL pI) x0), .d (.fn (.func 192) [] [])] [] (.d (Bo r)) [] := by
 unfold F191s0 at h
 refine co 9 Tryz.func191 fun C hC => ?_
 obtain ⟨y1, h2, h⟩ := bE h
 replace h := sI h
 subst h
 exact wr [] [0, 1, 4] 25 [] [.call 228 [.d (DS (pL pI) x0), .d (.fn (.func 192) [] [])] [] (dI y1) [] []] [] [.tmp 4] 0 [] hC ⟨⟨e228s0, (k228s0 x0 _ h2)⟩, trivial⟩ trivial
def e191s0 := en Tryz.func191
def lv95 : List Nat := [0, 1, 2, 4, 5, 6, 7, 8, 9, 10, 49]
def st95_0 (x1 : List api_Part) (n0 : Nat) (z0 : Unit) : St := [(1, .d (DS q86 x1)), (2, dO 0 0), (4, dB false), (7, .d (DS q86 x1)), (8, dI (ln x1)), (9, dI (cnt 0 n0))]
def R95_0 (x0 : api_Board) (n0 : Nat) (z0 : Unit) : List Res := [.box 29 (d29 x0)]
def sa95_0 (x1 : List api_Part) (z0 : Unit) : St := [(1, .d (DS q86 x1)), (4, dB false)]
def Ra95_0  (z0 : Unit) : List Res := []
theorem k95 (x0 : api_Board) (x1 : List api_Part) (r : Bool) (h : F95 x0 x1 = some r) : CO 95 [.agg (d29 x0), .d (DS q86 x1)] [] (.d (Bo r)) [] := by
 unfold F95 at h
 refine co 54 Tryz.func95 fun C hC => ?_
 refine ws [] lv95 26 [] [.len (ln (x1.map q86)) (ln x1)] [] 0 [0] (st95_0 x1 0 ()) (R95_0 x0 0 ()) hC ⟨lM _ _, trivial⟩ trivial ?_
 obtain ⟨w0, hm0, hret0, hnext0⟩ := aIn h
 clear h
 refine wc w0 (sa95_0 x1) (Ra95_0) ?_ fun z0 hs0 => ?_
 ·refine wb ?_
  refine wL 7 rfl fun hl0 => ?_
  refine wF (by kernel_rfl) (F95_l0 x0 x1) (st95_0 x1) (R95_0 x0) w0 x1 () hm0 rfl rfl (fun z0 hn0 => ?_) fun n0 a0 z0 w0b hi0 hx0 h hb0 hr0 => ?_
  ·clear hm0
   exact wx [(decide ((cnt 0 x1.length) < (ln x1)), false)] w0 (sa95_0 x1) (Ra95_0) lv95 26 [false] [] [] 0 [] () hC trivial ⟨(cE hl0), trivial⟩ hn0
  ·unfold F95_l0 at h
   obtain ⟨y1, h2, h⟩ := bE h
   obtain ⟨y3, h4, h⟩ := bE h
   obtain ⟨y5, h6, h⟩ := bE h
   refine ws [(decide ((cnt 0 n0) < (ln x1)), true)] lv95 32 [true] [.row (x1.map q86) (cnt 0 n0) (q86 a0), .call 152 [.agg (d29 x0), dI a0.Kind] [] (dI (F152 x0 a0.Kind)) [] [], .call 99 [dI a0.Number, dI 0, dI (w64 ((F152 x0 a0.Kind) - 1))] [] (.d (Bo (F99 a0.Number 0 (w64 ((F152 x0 a0.Kind) - 1))))) [] [], .when [(!(F99 a0.Number 0 (w64 ((F152 x0 a0.Kind) - 1))), false), (decide ((cnt 0 n0) > 0), true)] (.row (x1.map q86) (w64 ((cnt 0 n0) - 1)) (q86 y1)), .when [(!(F99 a0.Number 0 (w64 ((F152 x0 a0.Kind) - 1))), false), (decide ((cnt 0 n0) > 0), true)] (.call 154 [dI y1.Kind, dI a0.Kind] [] (dI (F154 y1.Kind a0.Kind)) [] []), .when [(!(F99 a0.Number 0 (w64 ((F152 x0 a0.Kind) - 1))), false), (decide ((cnt 0 n0) > 0), true)] (.row (x1.map q86) (w64 ((cnt 0 n0) - 1)) (q86 y3)), .when [(!(F99 a0.Number 0 (w64 ((F152 x0 a0.Kind) - 1))), false), (decide ((cnt 0 n0) > 0), true)] (.call 154 [dI y3.Number, dI a0.Number] [] (dI (F154 y3.Number a0.Number)) [] []), .when [(!(F99 a0.Number 0 (w64 ((F152 x0 a0.Kind) - 1))), false), (decide ((cnt 0 n0) > 0), true)] (.call 153 [.d (DS pI [F154 y1.Kind a0.Kind, F154 y3.Number a0.Number])] [] (dI y5) [] [])] [] 0 [0] [(1, .d (DS q86 x1)), (2, dO 0 0), (4, dB false), (7, .d (DS q86 x1)), (8, dI (ln x1)), (9, dI (cnt 0 n0)), (49, dB (c95_1 x0 n0 a0 y5))] [.box 29 (d29 x0)] hC ⟨(rC hx0 hl0), ⟨e152, (k152 x0 a0.Kind _ rfl)⟩, ⟨e99, (k99 a0.Number 0 (w64 ((F152 x0 a0.Kind) - 1)) _ rfl)⟩, fun hg => rg (gg h2 hg), fun hg => ⟨e154, (k154 y1.Kind a0.Kind _ rfl)⟩, fun hg => rg (gg h4 hg), fun hg => ⟨e154, (k154 y3.Number a0.Number _ rfl)⟩, fun hg => ⟨e153, (k153 [F154 y1.Kind a0.Kind, F154 y3.Number a0.Number] _ (gg h6 hg))⟩, trivial⟩ ⟨(cL hi0 hl0), trivial⟩ ?_
   rcases bC ((c95_1 x0 n0 a0 y5)) with h7 | h7
   ·replace h := cT h7 h
    have hq := hret0 _ (hr0 _ (sI h).symm)
    replace hq := sI hq
    subst hq
    exact wr [((c95_1 x0 n0 a0 y5), true)] lv95 24 [true] [] [] [.tmp 4] 0 [] hC trivial ⟨h7, trivial⟩
   ·replace h := cF h7 h
    exact wx [((c95_1 x0 n0 a0 y5), false)] w0b (st95_0 x1 (n0 + 1)) (R95_0 x0 (n0 + 1)) lv95 25 [false] [] [] 0 [0] () hC trivial ⟨h7, trivial⟩ (sI h).symm
 ·have h := hnext0 _ hs0
  replace h := sI h
  subst h
  exact wr [] lv95 23 [] [.len (ln (x1.map q86)) (ln x1)] [] [.tmp 4] 0 [] hC ⟨lM _ _, trivial⟩ trivial
def e95 := en Tryz.func95
theorem k97 (x0 : api_Running) (r : Bool) (h : F97 x0 = r) : CO 97 [.agg (d120 x0)] [] (.d (Bo r)) [] := by
 unfold F97 at h
 refine co 6 Tryz.func97 fun C hC => ?_
 subst h
 exact wr [] n3_ 25 [] [.call 98 [.agg (d120 x0)] [] (dB (F98 x0)) [] []] [] [.tmp 2] 0 [] hC ⟨⟨e98, (k98 x0 _ rfl)⟩, trivial⟩ trivial
def e97 := en Tryz.func97
def lv145s1 : List Nat := [0, 1, 4, 5, 6, 7, 12, 19, 29]
def st145s1_0  (z0 : Int × Int × (List api_Island)) : St := [(0, dS 0), (1, .d (.fn (.func 146) [] [])), (4, .d (DS q84 [])), (5, dI z0.1), (6, dI z0.2.1)]
def R145s1_0  (z0 : Int × Int × (List api_Island)) : List Res := [v8_ z0.2.2]
def sa145s1_0  (z0 : Int × Int × (List api_Island)) : St := [(0, dS 0), (4, .d (DS q84 [])), (5, dI z0.1)]
def Ra145s1_0  (z0 : Int × Int × (List api_Island)) : List Res := [v8_ z0.2.2]
theorem k145s1 (x0 : List api_Island) (r : (List api_Island)) (h : F145s1 x0 = some r) : CO 145 [.d (.os 0), .d (.fn (.func 146) [] [])] [v8_ x0] (.d (.os 1)) [.non, v8_ r] := by
 unfold F145s1 at h
 refine co 42 Tryz.func145 fun C hC => ?_
 obtain ⟨y1, h2, h⟩ := bE h
 rcases bC ((y1 == (-1))) with h3 | h3
 ·replace h := cT h3 h
  replace h := sI h
  subst h
  exact wr [((y1 == (-1)), true)] lv145s1 31 [true] [.callB 141 [.d (DS q84 x0), .d (.fn (.func 146) [] [])] (dI y1) [[]] 0 []] [.mv 0] [.tmp 4] 1 [0, 1] hC ⟨l0g ⟨e141s0, (k141s0 x0 _ h2)⟩, trivial⟩ ⟨h3, trivial⟩
 ·replace h := cF h3 h
  refine ws [((y1 == (-1)), false)] lv145s1 33 [false] [.callB 141 [.d (DS q84 x0), .d (.fn (.func 146) [] [])] (dI y1) [[]] 0 []] [] 1 [0] (st145s1_0 (y1, w64 (y1 + 1), x0)) (R145s1_0 (y1, w64 (y1 + 1), x0)) hC ⟨l0g ⟨e141s0, (k141s0 x0 _ h2)⟩, trivial⟩ ⟨h3, trivial⟩ ?_
  obtain ⟨w0, hm0, hret0, hnext0⟩ := aIn h
  clear h
  refine wc w0 (sa145s1_0) (Ra145s1_0) ?_ fun z0 hs0 => ?_
  ·refine wb ?_
   refine wW (by kernel_rfl) F145s1_l0 (st145s1_0) (R145s1_0) w0 1152921504606846976 (y1, w64 (y1 + 1), x0) hm0 rfl rfl fun z0 w0b h hb0 hr0 => ?_
   unfold F145s1_l0 at h
   rcases bC ((c145s1_2 z0)) with h4 | h4
   ·replace h := cT h4 h
    obtain ⟨y5, h6, h⟩ := bE h
    refine ws [((c145s1_2 z0), true)] lv145s1 32 [true] [.len (ln (z0.2.2.map q84)) (ln z0.2.2), .row (z0.2.2.map q84) z0.2.1 (q84 y5), .row (z0.2.2.map q84) (((Int.toNat z0.2.1) : Nat) : Int) (q84 y5), .call 146 [.agg (d84 y5)] [] (dB (F146 y5)) [] []] [] 1 [0, 1] [(0, dS 0), (1, .d (.fn (.func 146) [] [])), (4, .d (DS q84 [])), (5, dI z0.1), (6, dI z0.2.1), (7, dO 1 0), (29, dB (!(F146 y5)))] [v8_ z0.2.2, .box 84 (d84 y5)] hC ⟨lM _ _, rg h6, rN h6, ⟨e146, (k146 y5 _ rfl)⟩, trivial⟩ ⟨h4, trivial⟩ ?_
    rcases bC (!(F146 y5)) with h7 | h7
    ·replace h := cT h7 h
     obtain ⟨y8, h9, h⟩ := bE h
     obtain ⟨y10, h11, h⟩ := bE h
     exact wx [(!(F146 y5), true)] w0b (st145s1_0) (R145s1_0) lv145s1 27 [true] [.row (z0.2.2.map q84) z0.1 (q84 y8), .upd (z0.2.2.map q84) (Int.toNat z0.1) (q84 y8) (q84 y5) (y10.map q84)] [] 1 [0] (w64 (z0.1 + 1), w64 (z0.2.1 + 1), y10) hC ⟨rg h9, uG h9 h11, trivial⟩ ⟨h7, trivial⟩ (sI h).symm
    ·replace h := cF h7 h
     exact wx [(!(F146 y5), false)] w0b (st145s1_0) (R145s1_0) lv145s1 25 [false] [] [] 1 [0] (z0.1, w64 (z0.2.1 + 1), z0.2.2) hC trivial ⟨h7, trivial⟩ (sI h).symm
   ·replace h := cF h4 h
    exact wx [((c145s1_2 z0), false)] w0 (sa145s1_0) (Ra145s1_0) lv145s1 26 [false] [.len (ln (z0.2.2.map q84)) (ln z0.2.2)] [] 1 [0] (z0.1, z0.2.1, z0.2.2) hC ⟨lM _ _, trivial⟩ ⟨h4, trivial⟩ (hb0 _ (sI h).symm)
  ·have h := hnext0 _ hs0
   obtain ⟨u13, h12, h⟩ := bE h
   obtain ⟨u15, h14, h⟩ := bE h
   replace h := sI h
   subst h
   (rw [List.map_take]; exact WI_ret (bs := []) mixed lv145s1 25 [] [.bnd (z0.2.2.map q84).length z0.1 (((z0.2.2.map q84).length : Nat) : Int) (ln z0.2.2), .eqr ((z0.2.2.map q84).take (Int.toNat z0.1) ++ (List.replicate ((Int.toNat (ln z0.2.2)) - (Int.toNat z0.1)) (q84 (⟨([] : List Int), ([] : List Int), ([] : List Int)⟩ : api_Island)) ++ (z0.2.2.map q84).drop ((Int.toNat z0.1) + ((Int.toNat (ln z0.2.2)) - (Int.toNat z0.1))))) ((clrI z0.2.2 (Int.toNat z0.1) ((Int.toNat (ln z0.2.2)) - (Int.toNat z0.1)) (⟨([] : List Int), ([] : List Int), ([] : List Int)⟩ : api_Island)).map q84), .bnd ((clrI z0.2.2 (Int.toNat z0.1) ((Int.toNat (ln z0.2.2)) - (Int.toNat z0.1)) (⟨([] : List Int), ([] : List Int), ([] : List Int)⟩ : api_Island)).map q84).length 0 z0.1 z0.1] [.trunc 4] [.tmp 4] 1 [0, 1] rfl hC ⟨bnd_get (by simp) (by simp) h12, clr_get q84 rfl, bnd_get (by simp) rfl h14, trivial⟩ trivial (by kernel_rfl))
def e145s1 := en Tryz.func145
theorem k103 (x0 : api_Power) (x1 : Int) (x2 : Int) (r : Bool) (h : F103 x0 x1 x2 = some r) : CO 103 [.agg (d36 x0), .d (I x1), .d (I x2)] [] (.d (Bo r)) [] := by
 unfold F103 at h
 refine co 13 Tryz.func103 fun C hC => ?_
 obtain ⟨y1, h2, h⟩ := bE h
 replace h := sI h
 subst h
 exact wr [] [0, 1, 2, 3, 6] 25 [] [.call 157 [.d (DS q86 x0.Broken), .agg [I x1, I x2]] [] (dB y1) [] []] [] [.tmp 6] 0 [] hC ⟨⟨e157, (k157 x0.Broken (⟨x1, x2⟩ : api_Part) _ h2)⟩, trivial⟩ trivial
def e103 := en Tryz.func103
def lv158s1 : List Nat := [0, 1, 4, 5, 7, 8, 9, 16]
def st158s1_0 (x0 : List Int) (n0 : Nat) (z0 : Unit) : St := [(0, .d (DS pI x0)), (1, .d (.fn (.func 105) [] [.o 0 0, .o 1 0])), (4, dI 0), (7, dI (ln x0)), (8, dI (cnt 0 n0))]
def R158s1_0 (x1c0 : api_Board) (x1c1 : api_Power) (n0 : Nat) (z0 : Unit) : List Res := [.box 29 (d29 x1c0), .box 36 (d36 x1c1)]
def sa158s1_0  (z0 : Unit) : St := [(4, dI 0)]
def Ra158s1_0 (x1c0 : api_Board) (x1c1 : api_Power) (z0 : Unit) : List Res := [.box 29 (d29 x1c0), .box 36 (d36 x1c1)]
theorem k158s1 (rec46 : api_Board -> api_Power -> Int -> Option Bool) (ih46 : ∀ (x0 : api_Board) (x1 : api_Power) (x2 : Int) (r : Bool), rec46 x0 x1 x2 = some r -> CO 46 [.agg (d29 x0), .agg (d36 x1), .d (I x2)] [] (.d (Bo r)) []) (x0 : List Int) (x1c0 : api_Board) (x1c1 : api_Power) (r : Int × api_Board × api_Power) (h : F158s1 rec46 x0 x1c0 x1c1 = some r) : CO 158 [.d (DS pI x0), .d (.fn (.func 105) [] [.o 0 0, .o 1 0])] [.box 29 (d29 x1c0), .box 36 (d36 x1c1)] (.d (I r.1)) [.box 29 (d29 r.2.1), .box 36 (d36 r.2.2)] := by
 unfold F158s1 at h
 refine co 19 Tryz.func158 fun C hC => ?_
 refine ws [] lv158s1 26 [] [.len (ln (x0.map pI)) (ln x0)] [] 2 [0, 1] (st158s1_0 x0 0 ()) (R158s1_0 x1c0 x1c1 0 ()) hC ⟨lM _ _, trivial⟩ trivial ?_
 obtain ⟨w0, hm0, hret0, hnext0⟩ := aIn h
 clear h
 refine wc w0 (sa158s1_0) (Ra158s1_0 x1c0 x1c1) ?_ fun z0 hs0 => ?_
 ·refine wb ?_
  refine wL 0 rfl fun hl0 => ?_
  refine wF (by kernel_rfl) (F158s1_l0 x1c0 x1c1 rec46) (st158s1_0 x0) (R158s1_0 x1c0 x1c1) w0 x0 () hm0 rfl rfl (fun z0 hn0 => ?_) fun n0 a0 z0 w0b hi0 hx0 h hb0 hr0 => ?_
  ·clear hm0
   exact wx [(decide ((cnt 0 x0.length) < (ln x0)), false)] w0 (sa158s1_0) (Ra158s1_0 x1c0 x1c1) lv158s1 26 [false] [] [] 2 [0, 1] () hC trivial ⟨(cE hl0), trivial⟩ hn0
  ·unfold F158s1_l0 at h
   obtain ⟨y1, h2, h⟩ := bE h
   refine ws [(decide ((cnt 0 n0) < (ln x0)), true)] lv158s1 32 [true] [.row (x0.map pI) (cnt 0 n0) (pI a0), .callB 105 [dI a0, .d (.ip [.v (.int .i64 x1c0.Buses), .s (x1c0.Breakers.map q147), .s (x1c0.Sources.map q139), .s (x1c0.Consumers.map q65), .v (.int .i64 x1c0.Phase), .v (.int .i64 x1c0.Frequency)]), .d (.ip [.s (x1c1.Closed.map pB), .s (x1c1.Sources.map q120), .s (x1c1.Limits.map pI), .s (x1c1.Broken.map q86)])] (dB y1) [[]] 0 []] [] 2 [0, 1] [(0, .d (DS pI x0)), (1, .d (.fn (.func 105) [] [.o 0 0, .o 1 0])), (4, dI 0), (5, dI (cnt 0 n0)), (7, dI (ln x0)), (8, dI (cnt 0 n0)), (16, dB y1)] [.box 29 (d29 x1c0), .box 36 (d36 x1c1)] hC ⟨(rC hx0 hl0), l0g ⟨e105s0, (k105s0 rec46 ih46 a0 x1c0 x1c1 _ h2)⟩, trivial⟩ ⟨(cL hi0 hl0), trivial⟩ ?_
   rcases bC (y1) with h3 | h3
   ·replace h := cT h3 h
    have hq := hret0 _ (hr0 _ (sI h).symm)
    replace hq := sI hq
    subst hq
    exact wr [(y1, true)] lv158s1 24 [true] [] [] [.tmp 4] 2 [0, 1] hC trivial ⟨h3, trivial⟩
   ·replace h := cF h3 h
    exact wx [(y1, false)] w0b (st158s1_0 x0 (n0 + 1)) (R158s1_0 x1c0 x1c1 (n0 + 1)) lv158s1 25 [false] [] [] 2 [0, 1] () hC trivial ⟨h3, trivial⟩ (sI h).symm
 ·have h := hnext0 _ hs0
  replace h := sI h
  subst h
  exact wr [] lv158s1 23 [] [] [] [.tmp 4] 2 [0, 1] hC trivial trivial
def e158s1 := en Tryz.func158
theorem k201s0 (x0 : Int) (x1 : Int) (r : Int × Int) (h : F201s0 x0 x1 = some r) : CO 201 [.d (I x0), .d (I x1), .d (.fn (.func 202) [] [])] [] (.tup [.d (I r.1), .d (I r.2)]) [] := by
 unfold F201s0 at h
 refine co 26 Tryz.func201 fun C hC => ?_
 rcases bC ((c201s0_0 x0 x1)) with h1 | h1
 ·replace h := cT h1 h
  replace h := sI h
  subst h
  exact wr [((c201s0_0 x0 x1), true)] [0, 1, 2, 6, 7, 21] 29 [true] [] [] [.tmp 6, .tmp 7] 0 [] hC trivial ⟨h1, trivial⟩
 ·replace h := cF h1 h
  obtain ⟨y2, h3, h⟩ := bE h
  replace h := sI h
  subst h
  exact wr [((c201s0_0 x0 x1), false)] [0, 1, 2, 6, 7, 21] 30 [false] [.call 202 [dI x0, dI x1] [] (dI y2) [] []] [] [.tmp 6, .tmp 7] 0 [] hC ⟨⟨e202, (k202 x0 x1 _ h3)⟩, trivial⟩ ⟨h1, trivial⟩
def e201s0 := en Tryz.func201
theorem k108 (x0 : api_Arc) (r : Bool) (h : F108 x0 = r) : CO 108 [.agg (d159 x0)] [] (.d (Bo r)) [] := by
 unfold F108 at h
 refine co 26 Tryz.func108 fun C hC => ?_
 subst h
 exact wr [] n3_ 25 [] [.when [(((((decide (x0.From >= 0)) && (decide (x0.From < 3600))) && (decide (x0.To >= 0))) && (decide (x0.To < 3600))), true)] (.call 161 [.agg (d159 x0)] [] (dI (F161 x0)) [] [])] [] [.tmp 2] 0 [] hC ⟨fun hg => ⟨e161, (k161 x0 _ rfl)⟩, trivial⟩ trivial
def e108 := en Tryz.func108
theorem k52 (x0 : Int) (x1 : Int) (r : Int × Int) (h : F52 x0 x1 = some r) : CO 52 [.d (I x0), .d (I x1)] [] (.tup [.d (I r.1), .d (I r.2)]) [] := by
 unfold F52 at h
 refine co 15 Tryz.func52 fun C hC => ?_
 rcases bC (!(F109 x0 x1)) with h1 | h1
 ·replace h := cT h1 h
  replace h := sI h
  subst h
  exact wr [(!(F109 x0 x1), true)] [0, 1, 4, 5, 9] 29 [true] [.call 109 [dI x0, dI x1] [] (dB (F109 x0 x1)) [] []] [] [.tmp 4, .tmp 5] 0 [] hC ⟨⟨e109, (k109 x0 x1 _ rfl)⟩, trivial⟩ ⟨h1, trivial⟩
 ·replace h := cF h1 h
  obtain ⟨y2, h3, h⟩ := bE h
  replace h := sI h
  subst h
  exact wr [(!(F109 x0 x1), false)] [0, 1, 4, 5, 9] 30 [false] [.call 109 [dI x0, dI x1] [] (dB (F109 x0 x1)) [] [], .call 110 [dI (w64 (0 - x0)), dI x1] [] (dI y2) [] []] [] [.tmp 4, .tmp 5] 0 [] hC ⟨⟨e109, (k109 x0 x1 _ rfl)⟩, ⟨e110, (k110 (w64 (0 - x0)) x1 _ h3)⟩, trivial⟩ ⟨h1, trivial⟩
def e52 := en Tryz.func52
def lv139 : List Nat := [0, 1, 4, 5, 6, 7, 8, 10, 26, 37]
def sa139_0 (x0 : List api_Roster) (x1 : Int) (z0 : Unit) : St := [(0, .d (DS q130 x0)), (1, dI x1), (4, .d (DS q130 []))]
def Ra139_0  (z0 : Unit) : List Res := []
def sa139_1 (x0 : List api_Roster) (x1 : Int) (z1 : Unit) : St := [(0, .d (DS q130 x0)), (4, .d (DS q130 [])), (6, .d (.p (.v (.int .u64 ((F140 (IntKind.wrap .u64 (ln x0)) (IntKind.wrap .u64 x1)).2)))))]
def Ra139_1  (z1 : Unit) : List Res := []
def st139_2 (x0 : List api_Roster) (y3 : List api_Roster) (z2 : Unit) : St := [(4, .d (DS q130 [])), (7, dS 0), (8, dI ((Nat.min x0.length y3.length) : Int))]
def R139_2 (x0 : List api_Roster) (y3 : List api_Roster) (z2 : Unit) : List Res := [v2_ (cpyI y3 0 y3.length x0)]
def sa139_2  (z2 : Unit) : St := [(4, .d (DS q130 [])), (7, dS 0)]
def Ra139_2 (x0 : List api_Roster) (y3 : List api_Roster) (z2 : Unit) : List Res := [v2_ (cpyI y3 0 y3.length x0)]
theorem k139 (x0 : List api_Roster) (x1 : Int) (r : (List api_Roster)) (h : F139 x0 x1 = some r) : CO 139 [.d (DS q130 x0), .d (I x1)] [] (.d (.os 0)) [v2_ r] := by
 unfold F139 at h
 refine co 48 Tryz.func139 fun C hC => ?_
 refine ws [] lv139 26 [] [] [] 0 [] [(0, .d (DS q130 x0)), (1, dI x1), (4, .d (DS q130 [])), (10, dB (decide (x1 < 0)))] [] hC trivial trivial ?_
 obtain ⟨w0, h, hret0, hnext0⟩ := aIn h
 refine wc w0 (sa139_0 x0 x1) (Ra139_0) ?_ fun z0 hs0 => ?_
 ·unfold F139_m0 at h
  rcases bC (decide (x1 < 0)) with h1 | h1
  ·replace h := cT h1 h
   cases h
  ·replace h := cF h1 h
   exact wx [(decide (x1 < 0), false)] w0 (sa139_0 x0 x1) (Ra139_0) lv139 23 [false] [] [] 0 [] () hC trivial ⟨h1, trivial⟩ (sI h).symm
 ·clear h; have h := hnext0 _ hs0
  refine ws [] lv139 26 [] [.len (ln (x0.map q130)) (ln x0), .call 140 [.d (.p (.v (.int .u64 (IntKind.wrap .u64 (ln x0))))), .d (.p (.v (.int .u64 (IntKind.wrap .u64 x1))))] [] (.tup [.d (.p (.v (.int .u64 ((F140 (IntKind.wrap .u64 (ln x0)) (IntKind.wrap .u64 x1)).1)))), .d (.p (.v (.int .u64 ((F140 (IntKind.wrap .u64 (ln x0)) (IntKind.wrap .u64 x1)).2))))]) [] []] [] 0 [] [(0, .d (DS q130 x0)), (4, .d (DS q130 [])), (6, .d (.p (.v (.int .u64 ((F140 (IntKind.wrap .u64 (ln x0)) (IntKind.wrap .u64 x1)).2))))), (26, .d (Bo ((decide (((F140 (IntKind.wrap .u64 (ln x0)) (IntKind.wrap .u64 x1)).1) > 0)) || (decide (((F140 (IntKind.wrap .u64 (ln x0)) (IntKind.wrap .u64 x1)).2) > 9223372036854775807)))))] [] hC ⟨lM _ _, ⟨e140, (k140 (IntKind.wrap .u64 (ln x0)) (IntKind.wrap .u64 x1) _ rfl)⟩, trivial⟩ trivial ?_
  obtain ⟨w1, h, hret1, hnext1⟩ := aIn h
  refine wc w1 (sa139_1 x0 x1) (Ra139_1) ?_ fun z1 hs1 => ?_
  ·unfold F139_m1 at h
   rcases bC ((c139_0 x0 x1)) with h2 | h2
   ·replace h := cT h2 h
    cases h
   ·replace h := cF h2 h
    exact wx [((c139_0 x0 x1), false)] w1 (sa139_1 x0 x1) (Ra139_1) lv139 23 [false] [] [] 0 [] () hC trivial ⟨h2, trivial⟩ (sI h).symm
  ·clear h; have h := hnext1 _ hs1
   obtain ⟨y3, h4, h⟩ := bE h
   refine ws [] lv139 26 [] [.room ((w64 ((F140 (IntKind.wrap .u64 (ln x0)) (IntKind.wrap .u64 x1)).2)) * (16 + 1)) (List.replicate (Int.toNat (w64 ((F140 (IntKind.wrap .u64 (ln x0)) (IntKind.wrap .u64 x1)).2))) (q130 (⟨0, 0⟩ : api_Roster))) (y3.map q130), .cpy (x0.map q130) 2 ((y3.map q130).length) (Nat.min x0.length y3.length) ((y3.map q130).take 0 ++ ((x0.map q130).take (Nat.min x0.length y3.length) ++ (y3.map q130).drop (0 + (Nat.min x0.length y3.length)))) ((cpyI y3 0 y3.length x0).map q130)] [] 0 [0] (st139_2 x0 y3 ()) (R139_2 x0 y3 ()) hC ⟨make_get h4, cpy_get q130 2 (fun _ => rfl) rfl (by simp), trivial⟩ trivial ?_
   obtain ⟨w2, hm2, hret2, hnext2⟩ := aIn h
   clear h
   refine wc w2 (sa139_2) (Ra139_2 x0 y3) ?_ fun z2 hs2 => ?_
   ·refine wb ?_
    refine wW (by kernel_rfl) (F139_l2 x0 y3) (st139_2 x0 y3) (R139_2 x0 y3) w2 1152921504606846976 () hm2 rfl rfl fun z2 w2b h hb2 hr2 => ?_
    unfold F139_l2 at h
    rcases bC ((c139_2 x0 y3)) with h5 | h5
    ·replace h := cT h5 h
     cases h
    ·replace h := cF h5 h
     exact wx [((c139_2 x0 y3), false)] w2 (sa139_2) (Ra139_2 x0 y3) lv139 26 [false] [.len (ln ((cpyI y3 0 y3.length x0).map q130)) (ln (cpyI y3 0 y3.length x0))] [] 0 [0] () hC ⟨lM _ _, trivial⟩ ⟨h5, trivial⟩ (hb2 _ (sI h).symm)
   ·have h := hnext2 _ hs2
    replace h := sI h
    subst h
    exact wr [] lv139 23 [] [] [] [.tmp 4] 0 [0] hC trivial trivial
def e139 := en Tryz.func139
def lv87 : List Nat := [0, 1, 4, 5, 6, 7, 8, 10, 26, 37]
def sa87_0 (x0 : List api_Running) (x1 : Int) (z0 : Unit) : St := [(0, .d (DS q120 x0)), (1, dI x1), (4, .d (DS q120 []))]
def Ra87_0  (z0 : Unit) : List Res := []
def sa87_1 (x0 : List api_Running) (x1 : Int) (z1 : Unit) : St := [(0, .d (DS q120 x0)), (4, .d (DS q120 [])), (6, .d (.p (.v (.int .u64 ((F140 (IntKind.wrap .u64 (ln x0)) (IntKind.wrap .u64 x1)).2)))))]
def Ra87_1  (z1 : Unit) : List Res := []
def st87_2  (z2 : Int × (List api_Running)) : St := [(4, .d (DS q120 [])), (7, dS 0), (8, dI z2.1)]
def R87_2  (z2 : Int × (List api_Running)) : List Res := [v5_ z2.2]
def sa87_2  (z2 : Int × (List api_Running)) : St := [(4, .d (DS q120 [])), (7, dS 0)]
def Ra87_2  (z2 : Int × (List api_Running)) : List Res := [v5_ z2.2]
theorem k87 (x0 : List api_Running) (x1 : Int) (r : (List api_Running)) (h : F87 x0 x1 = some r) : CO 87 [.d (DS q120 x0), .d (I x1)] [] (.d (.os 0)) [v5_ r] := by
 unfold F87 at h
 refine co 48 Tryz.func87 fun C hC => ?_
 refine ws [] lv87 26 [] [] [] 0 [] [(0, .d (DS q120 x0)), (1, dI x1), (4, .d (DS q120 [])), (10, dB (decide (x1 < 0)))] [] hC trivial trivial ?_
 obtain ⟨w0, h, hret0, hnext0⟩ := aIn h
 refine wc w0 (sa87_0 x0 x1) (Ra87_0) ?_ fun z0 hs0 => ?_
 ·unfold F87_m0 at h
  rcases bC (decide (x1 < 0)) with h1 | h1
  ·replace h := cT h1 h
   cases h
  ·replace h := cF h1 h
   exact wx [(decide (x1 < 0), false)] w0 (sa87_0 x0 x1) (Ra87_0) lv87 23 [false] [] [] 0 [] () hC trivial ⟨h1, trivial⟩ (sI h).symm
 ·clear h; have h := hnext0 _ hs0
  refine ws [] lv87 26 [] [.len (ln (x0.map q120)) (ln x0), .call 140 [.d (.p (.v (.int .u64 (IntKind.wrap .u64 (ln x0))))), .d (.p (.v (.int .u64 (IntKind.wrap .u64 x1))))] [] (.tup [.d (.p (.v (.int .u64 ((F140 (IntKind.wrap .u64 (ln x0)) (IntKind.wrap .u64 x1)).1)))), .d (.p (.v (.int .u64 ((F140 (IntKind.wrap .u64 (ln x0)) (IntKind.wrap .u64 x1)).2))))]) [] []] [] 0 [] [(0, .d (DS q120 x0)), (4, .d (DS q120 [])), (6, .d (.p (.v (.int .u64 ((F140 (IntKind.wrap .u64 (ln x0)) (IntKind.wrap .u64 x1)).2))))), (26, .d (Bo ((decide (((F140 (IntKind.wrap .u64 (ln x0)) (IntKind.wrap .u64 x1)).1) > 0)) || (decide (((F140 (IntKind.wrap .u64 (ln x0)) (IntKind.wrap .u64 x1)).2) > 9223372036854775807)))))] [] hC ⟨lM _ _, ⟨e140, (k140 (IntKind.wrap .u64 (ln x0)) (IntKind.wrap .u64 x1) _ rfl)⟩, trivial⟩ trivial ?_
  obtain ⟨w1, h, hret1, hnext1⟩ := aIn h
  refine wc w1 (sa87_1 x0 x1) (Ra87_1) ?_ fun z1 hs1 => ?_
  ·unfold F87_m1 at h
   rcases bC ((c87_0 x0 x1)) with h2 | h2
   ·replace h := cT h2 h
    cases h
   ·replace h := cF h2 h
    exact wx [((c87_0 x0 x1), false)] w1 (sa87_1 x0 x1) (Ra87_1) lv87 23 [false] [] [] 0 [] () hC trivial ⟨h2, trivial⟩ (sI h).symm
  ·clear h; have h := hnext1 _ hs1
   obtain ⟨y3, h4, h⟩ := bE h
   refine ws [] lv87 26 [] [.room ((w64 ((F140 (IntKind.wrap .u64 (ln x0)) (IntKind.wrap .u64 x1)).2)) * (32 + 1)) (List.replicate (Int.toNat (w64 ((F140 (IntKind.wrap .u64 (ln x0)) (IntKind.wrap .u64 x1)).2))) (q120 (⟨0, 0, 0, 0⟩ : api_Running))) (y3.map q120), .cpy (x0.map q120) 4 ((y3.map q120).length) (Nat.min x0.length y3.length) ((y3.map q120).take 0 ++ ((x0.map q120).take (Nat.min x0.length y3.length) ++ (y3.map q120).drop (0 + (Nat.min x0.length y3.length)))) ((cpyI y3 0 y3.length x0).map q120)] [] 0 [0] (st87_2 (((Nat.min x0.length y3.length) : Int), (cpyI y3 0 y3.length x0))) (R87_2 (((Nat.min x0.length y3.length) : Int), (cpyI y3 0 y3.length x0))) hC ⟨make_get h4, cpy_get q120 4 (fun _ => rfl) rfl (by simp), trivial⟩ trivial ?_
   obtain ⟨w2, hm2, hret2, hnext2⟩ := aIn h
   clear h
   refine wc w2 (sa87_2) (Ra87_2) ?_ fun z2 hs2 => ?_
   ·refine wb ?_
    refine wW (by kernel_rfl) F87_l2 (st87_2) (R87_2) w2 1152921504606846976 (((Nat.min x0.length y3.length) : Int), (cpyI y3 0 y3.length x0)) hm2 rfl rfl fun z2 w2b h hb2 hr2 => ?_
    unfold F87_l2 at h
    rcases bC ((c87_3 z2)) with h5 | h5
    ·replace h := cT h5 h
     obtain ⟨u7, h6, h⟩ := bE h
     obtain ⟨u9, h8, h⟩ := bE h
     exact wx [((c87_3 z2), true)] w2b (st87_2) (R87_2) lv87 29 [true] [.len (ln (z2.2.map q120)) (ln z2.2), .bnd (z2.2.map q120).length z2.1 (((z2.2.map q120).length : Nat) : Int) (ln z2.2), .bnd (z2.2.map q120).length 0 z2.1 z2.1, .cpy (((z2.2.map q120).drop 0).take ((Int.toNat z2.1) - 0)) 4 ((Int.toNat (ln z2.2)) - (Int.toNat z2.1)) (Nat.min ((z2.2.drop 0).take ((Int.toNat z2.1) - 0)).length ((Int.toNat (ln z2.2)) - (Int.toNat z2.1))) ((z2.2.map q120).take (Int.toNat z2.1) ++ ((((z2.2.map q120).drop 0).take ((Int.toNat z2.1) - 0)).take (Nat.min ((z2.2.drop 0).take ((Int.toNat z2.1) - 0)).length ((Int.toNat (ln z2.2)) - (Int.toNat z2.1))) ++ (z2.2.map q120).drop ((Int.toNat z2.1) + (Nat.min ((z2.2.drop 0).take ((Int.toNat z2.1) - 0)).length ((Int.toNat (ln z2.2)) - (Int.toNat z2.1)))))) ((cpyI z2.2 (Int.toNat z2.1) ((Int.toNat (ln z2.2)) - (Int.toNat z2.1)) ((z2.2.drop 0).take ((Int.toNat z2.1) - 0))).map q120)] [] 0 [0] (w64 (z2.1 + ((Nat.min ((z2.2.drop 0).take ((Int.toNat z2.1) - 0)).length ((Int.toNat (ln z2.2)) - (Int.toNat z2.1))) : Int)), (cpyI z2.2 (Int.toNat z2.1) ((Int.toNat (ln z2.2)) - (Int.toNat z2.1)) ((z2.2.drop 0).take ((Int.toNat z2.1) - 0)))) hC ⟨lM _ _, bnd_get (by simp) (by simp) h6, bnd_get (by simp) rfl h8, cpy_get q120 4 (fun _ => rfl) (part_map _ _ _ _) rfl, trivial⟩ ⟨h5, trivial⟩ (sI h).symm
    ·replace h := cF h5 h
     exact wx [((c87_3 z2), false)] w2 (sa87_2) (Ra87_2) lv87 26 [false] [.len (ln (z2.2.map q120)) (ln z2.2)] [] 0 [0] (z2.1, z2.2) hC ⟨lM _ _, trivial⟩ ⟨h5, trivial⟩ (hb2 _ (sI h).symm)
   ·have h := hnext2 _ hs2
    replace h := sI h
    subst h
    exact wr [] lv87 23 [] [] [] [.tmp 4] 0 [0] hC trivial trivial
def e87 := en Tryz.func87
def lv122s0 : List Nat := [0, 1, 4, 5, 7, 8, 9, 16]
def st122s0_0 (x0 : List api_Roster) (n0 : Nat) (z0 : Sg0) : St := [(0, .d (DS q130 x0)), (1, .d (.fn (.func 62) [] [.o 0 0])), (4, dI 0), (7, dI (ln x0)), (8, dI (cnt 0 n0))]
def R122s0_0  (n0 : Nat) (z0 : Sg0) : List Res := [.box 126 [.fn (.func 58) [] [.o 1 0]], .box 40 [I z0.1, DS pB z0.2.1, DS q120 z0.2.2.1, DS pI (g3_ z0), DS q86 (g4_ z0), DS q130 (g5_ z0), DS q51 (g6z_ z0)]]
def sa122s0_0  (z0 : Sg0) : St := [(4, dI 0)]
def Ra122s0_0  (z0 : Sg0) : List Res := [.box 126 [.fn (.func 58) [] [.o 1 0]], .box 40 [I z0.1, DS pB z0.2.1, DS q120 z0.2.2.1, DS pI (g3_ z0), DS q86 (g4_ z0), DS q130 (g5_ z0), DS q51 (g6z_ z0)]]
theorem k122s0 (x0 : List api_Roster) (x1c0c0 : api_Plant) (r : Int × api_Plant) (h : F122s0 x0 x1c0c0 = some r) : CO 122 [.d (DS q130 x0), .d (.fn (.func 62) [] [.o 0 0])] [.box 126 [.fn (.func 58) [] [.o 1 0]], .box 40 (d40 x1c0c0)] (.d (I r.1)) [.box 126 [.fn (.func 58) [] [.o 1 0]], .box 40 (d40 r.2)] := by
 unfold F122s0 at h
 refine co 19 Tryz.func122 fun C hC => ?_
 refine ws [] lv122s0 26 [] [.len (ln (x0.map q130)) (ln x0)] [] 2 [0, 1] (st122s0_0 x0 0 (x1c0c0.Time, zu x1c0c0.Power (x1c0c0.Rosters, x1c0c0.Events))) (R122s0_0 0 (x1c0c0.Time, zu x1c0c0.Power (x1c0c0.Rosters, x1c0c0.Events))) hC ⟨lM _ _, trivial⟩ trivial ?_
 obtain ⟨w0, hm0, hret0, hnext0⟩ := aIn h
 clear h
 refine wc w0 (sa122s0_0) (Ra122s0_0) ?_ fun z0 hs0 => ?_
 ·refine wb ?_
  refine wL 0 rfl fun hl0 => ?_
  refine wF (by kernel_rfl) F122s0_l0 (st122s0_0 x0) (R122s0_0) w0 x0 (x1c0c0.Time, zu x1c0c0.Power (x1c0c0.Rosters, x1c0c0.Events)) hm0 rfl rfl (fun z0 hn0 => ?_) fun n0 a0 z0 w0b hi0 hx0 h hb0 hr0 => ?_
  ·clear hm0
   exact wx [(decide ((cnt 0 x0.length) < (ln x0)), false)] w0 (sa122s0_0) (Ra122s0_0) lv122s0 26 [false] [] [] 2 [0, 1] (z0.1, z0.2.1, z0.2.2.1, (g3_ z0), (g4_ z0), (g5_ z0), (g6z_ z0)) hC trivial ⟨(cE hl0), trivial⟩ hn0
  ·unfold F122s0_l0 at h
   refine ws [(decide ((cnt 0 n0) < (ln x0)), true)] lv122s0 32 [true] [.row (x0.map q130) (cnt 0 n0) (q130 a0), .call 62 [.agg (d130 a0), dO 0 0] [.box 126 [.fn (.func 58) [] [.o 1 0]], .box 40 [I z0.1, DS pB z0.2.1, DS q120 z0.2.2.1, DS pI (g3_ z0), DS q86 (g4_ z0), DS q130 (g5_ z0), DS q51 (g6z_ z0)]] (.d (Bo ((F62s0 a0 (⟨z0.1, (⟨z0.2.1, z0.2.2.1, (g3_ z0), (g4_ z0)⟩ : api_Power), (g5_ z0), (g6z_ z0)⟩ : api_Plant)).1))) [.box 126 [.fn (.func 58) [] [.o 1 0]], .box 40 [I (((F62s0 a0 (⟨z0.1, (⟨z0.2.1, z0.2.2.1, (g3_ z0), (g4_ z0)⟩ : api_Power), (g5_ z0), (g6z_ z0)⟩ : api_Plant)).2).Time), DS pB ((((F62s0 a0 (⟨z0.1, (⟨z0.2.1, z0.2.2.1, (g3_ z0), (g4_ z0)⟩ : api_Power), (g5_ z0), (g6z_ z0)⟩ : api_Plant)).2).Power).Closed), DS q120 ((((F62s0 a0 (⟨z0.1, (⟨z0.2.1, z0.2.2.1, (g3_ z0), (g4_ z0)⟩ : api_Power), (g5_ z0), (g6z_ z0)⟩ : api_Plant)).2).Power).Sources), DS pI ((((F62s0 a0 (⟨z0.1, (⟨z0.2.1, z0.2.2.1, (g3_ z0), (g4_ z0)⟩ : api_Power), (g5_ z0), (g6z_ z0)⟩ : api_Plant)).2).Power).Limits), DS q86 ((((F62s0 a0 (⟨z0.1, (⟨z0.2.1, z0.2.2.1, (g3_ z0), (g4_ z0)⟩ : api_Power), (g5_ z0), (g6z_ z0)⟩ : api_Plant)).2).Power).Broken), DS q130 (((F62s0 a0 (⟨z0.1, (⟨z0.2.1, z0.2.2.1, (g3_ z0), (g4_ z0)⟩ : api_Power), (g5_ z0), (g6z_ z0)⟩ : api_Plant)).2).Rosters), DS q51 (((F62s0 a0 (⟨z0.1, (⟨z0.2.1, z0.2.2.1, (g3_ z0), (g4_ z0)⟩ : api_Power), (g5_ z0), (g6z_ z0)⟩ : api_Plant)).2).Events)]] [0, 1]] [] 2 [0, 1] [(0, .d (DS q130 x0)), (1, .d (.fn (.func 62) [] [.o 0 0])), (4, dI 0), (5, dI (cnt 0 n0)), (7, dI (ln x0)), (8, dI (cnt 0 n0)), (16, dB (c122s0_1 z0 a0))] [.box 126 [.fn (.func 58) [] [.o 1 0]], .box 40 [I (((F62s0 a0 (⟨z0.1, (⟨z0.2.1, z0.2.2.1, (g3_ z0), (g4_ z0)⟩ : api_Power), (g5_ z0), (g6z_ z0)⟩ : api_Plant)).2).Time), DS pB ((((F62s0 a0 (⟨z0.1, (⟨z0.2.1, z0.2.2.1, (g3_ z0), (g4_ z0)⟩ : api_Power), (g5_ z0), (g6z_ z0)⟩ : api_Plant)).2).Power).Closed), DS q120 ((((F62s0 a0 (⟨z0.1, (⟨z0.2.1, z0.2.2.1, (g3_ z0), (g4_ z0)⟩ : api_Power), (g5_ z0), (g6z_ z0)⟩ : api_Plant)).2).Power).Sources), DS pI ((((F62s0 a0 (⟨z0.1, (⟨z0.2.1, z0.2.2.1, (g3_ z0), (g4_ z0)⟩ : api_Power), (g5_ z0), (g6z_ z0)⟩ : api_Plant)).2).Power).Limits), DS q86 ((((F62s0 a0 (⟨z0.1, (⟨z0.2.1, z0.2.2.1, (g3_ z0), (g4_ z0)⟩ : api_Power), (g5_ z0), (g6z_ z0)⟩ : api_Plant)).2).Power).Broken), DS q130 (((F62s0 a0 (⟨z0.1, (⟨z0.2.1, z0.2.2.1, (g3_ z0), (g4_ z0)⟩ : api_Power), (g5_ z0), (g6z_ z0)⟩ : api_Plant)).2).Rosters), DS q51 (((F62s0 a0 (⟨z0.1, (⟨z0.2.1, z0.2.2.1, (g3_ z0), (g4_ z0)⟩ : api_Power), (g5_ z0), (g6z_ z0)⟩ : api_Plant)).2).Events)]] hC ⟨(rC hx0 hl0), ⟨e62s0, (k62s0 a0 (⟨z0.1, (⟨z0.2.1, z0.2.2.1, (g3_ z0), (g4_ z0)⟩ : api_Power), (g5_ z0), (g6z_ z0)⟩ : api_Plant) _ rfl)⟩, trivial⟩ ⟨(cL hi0 hl0), trivial⟩ ?_
   rcases bC ((c122s0_1 z0 a0)) with h1 | h1
   ·replace h := cT h1 h
    cases h
   ·replace h := cF h1 h
    exact wx [((c122s0_1 z0 a0), false)] w0b (st122s0_0 x0 (n0 + 1)) (R122s0_0 (n0 + 1)) lv122s0 25 [false] [] [] 2 [0, 1] (((F62s0 a0 (⟨z0.1, (⟨z0.2.1, z0.2.2.1, (g3_ z0), (g4_ z0)⟩ : api_Power), (g5_ z0), (g6z_ z0)⟩ : api_Plant)).2).Time, (((F62s0 a0 (⟨z0.1, (⟨z0.2.1, z0.2.2.1, (g3_ z0), (g4_ z0)⟩ : api_Power), (g5_ z0), (g6z_ z0)⟩ : api_Plant)).2).Power).Closed, (((F62s0 a0 (⟨z0.1, (⟨z0.2.1, z0.2.2.1, (g3_ z0), (g4_ z0)⟩ : api_Power), (g5_ z0), (g6z_ z0)⟩ : api_Plant)).2).Power).Sources, (((F62s0 a0 (⟨z0.1, (⟨z0.2.1, z0.2.2.1, (g3_ z0), (g4_ z0)⟩ : api_Power), (g5_ z0), (g6z_ z0)⟩ : api_Plant)).2).Power).Limits, (((F62s0 a0 (⟨z0.1, (⟨z0.2.1, z0.2.2.1, (g3_ z0), (g4_ z0)⟩ : api_Power), (g5_ z0), (g6z_ z0)⟩ : api_Plant)).2).Power).Broken, ((F62s0 a0 (⟨z0.1, (⟨z0.2.1, z0.2.2.1, (g3_ z0), (g4_ z0)⟩ : api_Power), (g5_ z0), (g6z_ z0)⟩ : api_Plant)).2).Rosters, ((F62s0 a0 (⟨z0.1, (⟨z0.2.1, z0.2.2.1, (g3_ z0), (g4_ z0)⟩ : api_Power), (g5_ z0), (g6z_ z0)⟩ : api_Plant)).2).Events) hC trivial ⟨h1, trivial⟩ (sI h).symm
 ·have h := hnext0 _ hs0
  replace h := sI h
  subst h
  exact wr [] lv122s0 23 [] [] [] [.tmp 4] 2 [0, 1] hC trivial trivial
def e122s0 := en Tryz.func122
theorem k63 (x0 : api_Board) (x1 : api_Plant) (r : plant_runner) (h : F63 x0 x1 = some r) : CO 63 [.agg (d29 x0), .agg (d40 x1)] [] (.d (.o 0 0)) (.box 100 (I r.Plant.Time :: .os 1 :: .os 2 :: .os 3 :: .os 4 :: .os 5 :: .os 6 :: zb r.board [.os 7, .os 8]) :: zp r.Plant.Power [v2_ r.Plant.Rosters, v1_ r.Plant.Events, v1_ r.events, v7_ r.states]) := by
 unfold F63 at h
 refine co 21 Tryz.func63 fun C hC => ?_
 obtain ⟨y1, h2, h⟩ := bE h
 obtain ⟨y3, h4, h⟩ := bE h
 obtain ⟨y5, h6, h⟩ := bE h
 replace h := sI h
 subst h
 exact wr [] n5_ 27 [] [.call 116 [.agg (d36 x1.Power)] [] (.agg [.os 0, .os 1, .os 2, .os 3]) (zp y1 []) [], .call 123 [.d (DS q130 x1.Rosters)] [] (dS 0) [v2_ y3] [], .call 84 [.d (DS q51 x1.Events)] [] (dS 0) [v1_ y5] []] [.ownb 8 13 51 5, .ownb 8 14 36 4] [.tmp 4] 0 [8, 2, 3, 4, 5, 6, 7, 9, 10] hC ⟨⟨e116, (k116 x1.Power _ h2)⟩, ⟨e123, (k123 x1.Rosters _ h4)⟩, ⟨e84, (k84 x1.Events _ h6)⟩, trivial⟩ trivial
def e63 := en Tryz.func63
theorem k81s1 (x0 : plant_runner) (x1 : api_Power) (r : plant_runner) (h : F81s1 x0 x1 = some r) : CO 81 [.d (.o 0 0), .agg (d36 x1)] (.box 100 (I x0.Plant.Time :: .os 1 :: .os 2 :: .os 3 :: .os 4 :: .os 5 :: .os 6 :: zb x0.board [.os 7, .os 8]) :: zp x0.Plant.Power [v2_ x0.Plant.Rosters, v1_ x0.Plant.Events, v1_ x0.events, v7_ x0.states]) (.tup []) (.box 100 (I r.Plant.Time :: .os 1 :: .os 2 :: .os 3 :: .os 4 :: .os 5 :: .os 6 :: zb r.board [.os 7, .os 9]) :: zp r.Plant.Power [v2_ r.Plant.Rosters, v1_ r.Plant.Events, v1_ r.events, .non, v7_ r.states]) := by
 unfold F81s1 at h
 refine co 15 Tryz.func81 fun C hC => ?_
 obtain ⟨y3, h4, h⟩ := bE h
 obtain ⟨y5, h6, h⟩ := bE h
 replace h := sI h
 subst h
 exact wf [] [0, 1, 3] 23 [] [.call 116 [.agg (d36 x1)] [] (.agg (d36 y3)) [.non, .non, .non, .non] [], .app (x0.states.map q36) ([y3].map q36) 4 (((x0.states.map q36).length + ([y3].map q36).length) * (96 + 1)) (y5.map q36)] [] [] 9 [0, 1, 2, 3, 4, 5, 6, 7, 8, 14] hC ⟨⟨e116, (CK.frzAll n4_ (show CO 116 [.agg (d36 x1)] [] (.agg [.os 0, .os 1, .os 2, .os 3]) (zp y3 []) from (k116 x1 _ h4)) (by kernel_rfl))⟩, aG q36 4 (fun _ => rfl) h6, trivial⟩ trivial
def e81s1 := en Tryz.func81
theorem k243 (x0 : api_Board) (x1 : api_Running) (x2 : api_Running) (r : Bool) (h : F243 x0 x1 x2 = some r) : CO 243 [.agg (d29 x0), .agg (d120 x1), .agg (d120 x2)] [] (.d (Bo r)) [] := by
 unfold F243 at h
 refine co 52 Tryz.func243 fun C hC => ?_
 rcases bC ((c243_0 x1 x2)) with h1 | h1
 ·replace h := cT h1 h
  cases h
 ·replace h := cF h1 h
  obtain ⟨y2, h3, h⟩ := bE h
  replace h := sI h
  subst h
  exact wr [((c243_0 x1 x2), false)] [0, 1, 2, 3, 4, 5, 6, 7, 8, 22] 34 [false] [.call 248 [dI x1.Phase, dI x2.Phase] [] (dI y2) [] []] [] [.tmp 6] 0 [] hC ⟨⟨e248, (k248 x1.Phase x2.Phase _ h3)⟩, trivial⟩ ⟨h1, trivial⟩
def e243 := en Tryz.func243
theorem k239 (x0 : api_Board) (x1 : Int) (r : Int) (h : F239 x0 x1 = some r) : CO 239 [.agg (d29 x0), .d (I x1)] [] (.d (I r)) [] := by
 unfold F239 at h
 refine co 9 Tryz.func239 fun C hC => ?_
 obtain ⟨y1, h2, h⟩ := bE h
 replace h := sI h
 subst h
 exact wr [] n5_ 25 [] [.call 218 [.d (DS q147 x0.Breakers), .d (.fn (.func 244) [] [.o 0 0])] [.box 3 [I x1]] (dI y1.1) [.box 3 [I y1.2]] [1]] [] [.tmp 4] 0 [] hC ⟨⟨e218s1, (k218s1 x0.Breakers x1 _ h2)⟩, trivial⟩ trivial
def e239 := en Tryz.func239
def lv189s1 : List Nat := [0, 1, 2, 4, 6, 7, 8, 32, 36, 47, 64, 74]
def sa189s1_0 (x2 : Bool) (z0 : (List api_Part)) : St := [(0, dO 0 0), (2, dB x2), (4, dO 5 0), (6, dI 0)]
def Ra189s1_0 (x0 : restore_worker) (x1 : api_Part) (z0 : (List api_Part)) : List Res := [.box 186 (zb x0.board [.os 6, .os 7, .os 8, .os 9, I x0.time]), .non, .non, .non, .non, .box 86 (d86 x1), v3_ x0.power.Closed, v5_ x0.power.Sources, v0_ x0.power.Limits, v4_ z0]
theorem k189s1 (x0 : restore_worker) (x1 : api_Part) (x2 : Bool) (r : Int × restore_worker) (h : F189s1 x0 x1 x2 = some r) : CO 189 [.d (.o 0 0), .agg (d86 x1), .d (Bo x2)] (.box 186 (zb x0.board [.os 1, .os 2, .os 3, .os 4, I x0.time]) :: zp x0.power []) (.d (I r.1)) (.box 186 (zb r.2.board [.os 5, .os 6, .os 7, .os 8, I r.2.time]) :: .non :: .non :: .non :: .non :: zp r.2.power []) := by
 unfold F189s1 at h
 refine co 84 Tryz.func189 fun C hC => ?_
 obtain ⟨y1, h2, h⟩ := bE h
 rcases bC ((y1.2 == x2)) with h3 | h3
 ·replace h := cT h3 h
  cases h
 ·replace h := cF h3 h
  refine ws [((y1.2 == x2), false)] lv189s1 32 [false] [.callB 223 [.d (DS q86 x0.power.Broken), .agg (d86 x1), .d (.fn (.func 224) [] [])] (.tup [dI y1.1, dB y1.2]) [[]] 0 [], .when [(x2, true)] (.len (ln (x0.power.Broken.map q86)) (ln x0.power.Broken))] [.mv 1, .mv 2, .mv 3, .mv 4] 5 n10_ [(0, dO 0 0), (2, dB x2), (4, dO 5 0), (6, dI 0), (7, dI y1.1), (36, dB (c189s1_0 x0 x2))] (.box 186 (zb x0.board [.os 6, .os 7, .os 8, .os 9, I x0.time]) :: .non :: .non :: .non :: .non :: .box 86 (d86 x1) :: zp x0.power []) hC ⟨l0g ⟨e223s0, (k223s0 x0.power.Broken x1 _ h2)⟩, fun hg => lM _ _, trivial⟩ ⟨h3, trivial⟩ ?_
  rcases bC ((c189s1_0 x0 x2)) with h4 | h4
  ·replace h := cT h4 h
   cases h
  ·replace h := cF h4 h
   refine ws [((c189s1_0 x0 x2), false)] lv189s1 24 [false] [] [] 5 n10_ [(0, dO 0 0), (2, dB x2), (4, dO 5 0), (6, dI 0), (7, dI y1.1), (47, dB x2)] (.box 186 (zb x0.board [.os 6, .os 7, .os 8, .os 9, I x0.time]) :: .non :: .non :: .non :: .non :: .box 86 (d86 x1) :: zp x0.power []) hC trivial ⟨h4, trivial⟩ ?_
   obtain ⟨w0, h, hret0, hnext0⟩ := aIn h
   refine wc w0 (sa189s1_0 x2) (Ra189s1_0 x0 x1) ?_ fun z0 hs0 => ?_
   ·unfold F189s1_m0 at h
    rcases bC (x2) with h5 | h5
    ·replace h := cT h5 h
     obtain ⟨y6, h7, h⟩ := bE h
     exact wx [(x2, true)] w0 (sa189s1_0 x2) (Ra189s1_0 x0 x1) lv189s1 23 [true] [.call 225 [dS 0, dI y1.1, .d (DS q86 [x1])] [v4_ x0.power.Broken] (dS 1) [.non, v4_ y6] [9]] [] 5 [0, 1, 2, 3, 4, 5, 6, 7, 8, 10] y6 hC ⟨⟨e225s0, (k225s0 x0.power.Broken y1.1 [x1] _ h7)⟩, trivial⟩ ⟨h5, trivial⟩ (sI h).symm
    ·replace h := cF h5 h
     cases h
   ·clear h; have h := hnext0 _ hs0
    rcases bC ((x1.Kind == 1)) with h8 | h8
    ·replace h := cT h8 h
     obtain ⟨y9, h10, h⟩ := bE h
     obtain ⟨y11, h12, h⟩ := bE h
     refine ws [((x1.Kind == 1), true)] lv189s1 30 [true] [.row (x0.power.Sources.map q120) x1.Number (q120 y9), .upd (x0.power.Sources.map q120) (Int.toNat x1.Number) (q120 y9) (q120 (⟨0, y9.Since, y9.Frequency, y9.Phase⟩ : api_Running)) (y11.map q120)] [] 5 n10_ [(0, dO 0 0), (4, dO 5 0), (6, dI 0), (74, dB x2)] [.box 186 (zb x0.board [.os 6, .os 7, .os 8, .os 9, I x0.time]), .non, .non, .non, .non, .box 86 (d86 x1), v3_ x0.power.Closed, v5_ y11, v0_ x0.power.Limits, v4_ z0] hC ⟨rg h10, uG h10 h12, trivial⟩ ⟨h8, trivial⟩ ?_
     rcases bC (x2) with h13 | h13
     ·replace h := cT h13 h
      obtain ⟨y14, h15, h⟩ := bE h
      obtain ⟨y16, h17, h⟩ := bE h
      replace h := sI h
      subst h
      exact wr [(x2, true)] lv189s1 25 [true] [.row (y11.map q120) x1.Number (q120 y14), .upd (y11.map q120) (Int.toNat x1.Number) (q120 y14) (q120 (⟨3, y14.Since, y14.Frequency, y14.Phase⟩ : api_Running)) (y16.map q120)] [] [.tmp 6] 5 [0, 1, 2, 3, 4, 6, 7, 8, 9] hC ⟨rg h15, uG h15 h17, trivial⟩ ⟨h13, trivial⟩
     ·replace h := cF h13 h
      cases h
    ·replace h := cF h8 h
     cases h
def e189s1 := en Tryz.func189
theorem k81s2 (x0 : plant_runner) (x1 : api_Power) (r : plant_runner) (h : F81s2 x0 x1 = some r) : CO 81 [.d (.o 0 0), .agg [.os 9, .os 10, .os 11, .os 12]] (.box 100 (I x0.Plant.Time :: .os 1 :: .os 2 :: .os 3 :: .os 4 :: .os 5 :: .os 6 :: zb x0.board [.os 7, .os 8]) :: zp x0.Plant.Power (v2_ x0.Plant.Rosters :: v1_ x0.Plant.Events :: v1_ x0.events :: v7_ x0.states :: zp x1 [])) (.tup []) (.box 100 (I r.Plant.Time :: .os 1 :: .os 2 :: .os 3 :: .os 4 :: .os 5 :: .os 6 :: zb r.board [.os 7, .os 13]) :: zp r.Plant.Power (v2_ r.Plant.Rosters :: v1_ r.Plant.Events :: v1_ r.events :: .non :: zp x1 [v7_ r.states])) := by
 unfold F81s2 at h
 refine co 15 Tryz.func81 fun C hC => ?_
 obtain ⟨y3, h4, h⟩ := bE h
 obtain ⟨y5, h6, h⟩ := bE h
 replace h := sI h
 subst h
 exact wf [] [0, 1, 3] 23 [] [.call 116 [.agg [.os 0, .os 1, .os 2, .os 3]] (zp x1 []) (.agg (d36 y3)) (zp x1 [.non, .non, .non, .non]) [9, 10, 11, 12], .app (x0.states.map q36) ([y3].map q36) 4 (((x0.states.map q36).length + ([y3].map q36).length) * (96 + 1)) (y5.map q36)] [] [] 13 [0, 1, 2, 3, 4, 5, 6, 7, 8, 9, 10, 11, 12, 18] hC ⟨⟨e116, (CK.frzAll [4, 5, 6, 7] (show CO 116 [.agg [.os 0, .os 1, .os 2, .os 3]] (zp x1 []) (.agg [.os 4, .os 5, .os 6, .os 7]) (zp x1 (zp y3 [])) from ((k116 x1 _ h4).lend (by kernel_rfl) (by kernel_rfl) (by kernel_rfl) ⟨fS (fun _ => rfl), fS (fun _ => rfl), fS (fun _ => rfl), fS (fun _ => rfl), trivial⟩ (by kernel_rfl) (by kernel_rfl))) (by kernel_rfl))⟩, aG q36 4 (fun _ => rfl) h6, trivial⟩ trivial
def e81s2 := en Tryz.func81
theorem k232s1 (x0 : List Int) (x1c0 : api_Board) (r : api_Board) (h : F232s1 x0 x1c0 = some r) : CO 232 [.d (.os 0), .d (.fn (.func 233) [] [.o 1 0])] [v0_ x0, .box 29 (d29 x1c0)] (.tup []) [v0_ x0, .box 29 (d29 r)] := by
 unfold F232s1 at h
 refine co 9 Tryz.func232 fun C hC => ?_
 obtain ⟨y1, h2, h⟩ := bE h
 replace h := sI h
 subst h
 exact wf [] [0, 1] 21 [] [.len (ln (x0.map pI)) (ln x0), .call 242 [dS 0, dI (ln x0), .d (.fn (.func 233) [] [.o 1 0])] [v0_ x0, .box 29 (d29 x1c0)] (.tup []) [v0_ x0, .box 29 (d29 y1)] [0, 1]] [] [] 2 [0, 1] hC ⟨lM _ _, ⟨e242s1, (k242s1 x0 (ln x0) x1c0 _ h2)⟩, trivial⟩ trivial
def e232s1 := en Tryz.func232
theorem k209s0 (x0 : Int) (x1 : api_Island) (r : Bool) (h : F209s0 x0 x1 = some r) : CO 209 [.d (I x0), .d (.ip [.s (x1.Buses.map pI), .s (x1.Sources.map pI), .s (x1.Consumers.map pI)])] [] (.d (Bo r)) [] := by
 unfold F209s0 at h
 refine co 9 Tryz.func209 fun C hC => ?_
 obtain ⟨y1, h2, h⟩ := bE h
 replace h := sI h
 subst h
 exact wr [] [0, 1, 3] 25 [] [.call 190 [.d (DS pI x1.Consumers), dI x0] [] (dB y1) [] []] [] [.tmp 3] 0 [] hC ⟨⟨e190, (k190 x1.Consumers x0 _ h2)⟩, trivial⟩ trivial
def e209s0 := en Tryz.func209
theorem k180 (x0 : api_Board) (x1 : Int) (r : Int) (h : F180 x0 x1 = some r) : CO 180 [.agg (d29 x0), .d (I x1)] [] (.d (I r)) [] := by
 unfold F180 at h
 refine co 9 Tryz.func180 fun C hC => ?_
 obtain ⟨y1, h2, h⟩ := bE h
 replace h := sI h
 subst h
 exact wr [] n5_ 25 [] [.call 218 [.d (DS q147 x0.Breakers), .d (.fn (.func 219) [] [.o 0 0])] [.box 3 [I x1]] (dI y1.1) [.box 3 [I y1.2]] [1]] [] [.tmp 4] 0 [] hC ⟨⟨e218s3, (k218s3 x0.Breakers x1 _ h2)⟩, trivial⟩ trivial
def e180 := en Tryz.func180
theorem k81s3 (x0 : plant_runner) (x1 : api_Power) (r : plant_runner) (h : F81s3 x0 x1 = some r) : CO 81 [.d (.o 0 0), .agg [.os 1, .os 2, .os 3, .os 4]] (.box 100 (I x0.Plant.Time :: .os 1 :: .os 2 :: .os 3 :: .os 4 :: .os 5 :: .os 6 :: zb x0.board [.os 7, .os 8]) :: zp x0.Plant.Power [v2_ x0.Plant.Rosters, v1_ x0.Plant.Events, v1_ x0.events, v7_ x0.states]) (.tup []) (.box 100 (I r.Plant.Time :: .os 1 :: .os 2 :: .os 3 :: .os 4 :: .os 5 :: .os 6 :: zb r.board [.os 7, .os 9]) :: zp r.Plant.Power [v2_ r.Plant.Rosters, v1_ r.Plant.Events, v1_ r.events, .non, v7_ r.states]) := by
 unfold F81s3 at h
 refine co 15 Tryz.func81 fun C hC => ?_
 obtain ⟨y3, h4, h⟩ := bE h
 obtain ⟨y5, h6, h⟩ := bE h
 replace h := sI h
 subst h
 exact wf [] [0, 1, 3] 23 [] [.call 116 [.agg [.os 0, .os 1, .os 2, .os 3]] (zp x0.Plant.Power []) (.agg (d36 y3)) (zp x0.Plant.Power [.non, .non, .non, .non]) [1, 2, 3, 4], .app (x0.states.map q36) ([y3].map q36) 4 (((x0.states.map q36).length + ([y3].map q36).length) * (96 + 1)) (y5.map q36)] [] [] 9 [0, 1, 2, 3, 4, 5, 6, 7, 8, 14] hC ⟨⟨e116, (CK.frzAll [4, 5, 6, 7] (show CO 116 [.agg [.os 0, .os 1, .os 2, .os 3]] (zp x0.Plant.Power []) (.agg [.os 4, .os 5, .os 6, .os 7]) (zp x0.Plant.Power (zp y3 [])) from ((k116 x0.Plant.Power _ h4).lend (by kernel_rfl) (by kernel_rfl) (by kernel_rfl) ⟨fS (fun _ => rfl), fS (fun _ => rfl), fS (fun _ => rfl), fS (fun _ => rfl), trivial⟩ (by kernel_rfl) (by kernel_rfl))) (by kernel_rfl))⟩, aG q36 4 (fun _ => rfl) h6, trivial⟩ trivial
def e81s3 := en Tryz.func81
theorem k88s0 (x0 : List api_Island) (r : Bool) (h : F88s0 x0 = some r) : CO 88 [.d (DS q84 x0), .d (.fn (.func 90) [] [])] [] (.d (Bo r)) [] := by
 unfold F88s0 at h
 refine co 9 Tryz.func88 fun C hC => ?_
 obtain ⟨y1, h2, h⟩ := bE h
 replace h := sI h
 subst h
 exact wr [] [0, 1, 4] 25 [] [.call 141 [.d (DS q84 x0), .d (.fn (.func 90) [] [])] [] (dI y1) [] []] [] [.tmp 4] 0 [] hC ⟨⟨e141s1, (k141s1 x0 _ h2)⟩, trivial⟩ trivial
def e88s0 := en Tryz.func88
def lv29 : List Nat := [0, 2, 3, 4, 5, 6, 7, 8, 9, 10, 11, 24, 29, 47, 60, 96, 121, 155]
def st29_0  (z0 : Sg1) : St := [(0, dO 0 0), (2, dO 1 0), (3, dO 2 0), (4, dI z0.1)]
def R29_0 (y1 : Int × dynposmake_Src) (y3 : Int × dynposmake_Src) (y5 : Int × dynposmake_Src) (z0 : Sg1) : List Res := [.box 90 [DS pI z0.2.1, I z0.2.2.1], .box 29 [I 0, .os 3, .os 4, .os 5, I 0, I 0], .box 29 [I y1.1, .os 6, .os 7, .os 8, I y3.1, I y5.1], v9_ ([] : List api_Breaker), v10_ ([] : List api_Source), v11_ ([] : List api_Consumer), v9_ (g3z_ z0), v10_ ([] : List api_Source), v11_ ([] : List api_Consumer)]
def sa29_0  (z0 : Sg1) : St := [(0, dO 0 0), (2, dO 1 0), (3, dO 2 0)]
def Ra29_0 (y1 : Int × dynposmake_Src) (y3 : Int × dynposmake_Src) (y5 : Int × dynposmake_Src) (z0 : Sg1) : List Res := [.box 90 [DS pI z0.2.1, I z0.2.2.1], .box 29 [I 0, .os 3, .os 4, .os 5, I 0, I 0], .box 29 [I y1.1, .os 6, .os 7, .os 8, I y3.1, I y5.1], v9_ ([] : List api_Breaker), v10_ ([] : List api_Source), v11_ ([] : List api_Consumer), v9_ (g3z_ z0), v10_ ([] : List api_Source), v11_ ([] : List api_Consumer)]
def sa29_1  (z1 : (List api_Breaker)) : St := [(0, dO 0 0), (2, dO 1 0), (3, dO 2 0)]
def Ra29_1 (y1 : Int × dynposmake_Src) (y3 : Int × dynposmake_Src) (y5 : Int × dynposmake_Src) (y15 : Int × dynposmake_Src) (z1 : (List api_Breaker)) : List Res := [.box 90 (d90 y15.2), .box 29 [I 0, .os 3, .os 4, .os 5, I 0, I 0], .box 29 [I y1.1, .os 6, .os 7, .os 8, I y3.1, I y5.1], v9_ ([] : List api_Breaker), v10_ ([] : List api_Source), v11_ ([] : List api_Consumer), v9_ z1, v10_ ([] : List api_Source), v11_ ([] : List api_Consumer)]
def st29_2  (z2 : Sg3) : St := [(0, dO 0 0), (2, dO 1 0), (3, dO 2 0), (5, dI z2.1)]
def R29_2 (y1 : Int × dynposmake_Src) (y3 : Int × dynposmake_Src) (y5 : Int × dynposmake_Src) (z2 : Sg3) : List Res := [.box 90 [DS pI z2.2.1, I z2.2.2.1], .box 29 [I 0, .os 3, .os 4, .os 5, I 0, I 0], .box 29 [I y1.1, .os 6, .os 7, .os 8, I y3.1, I y5.1], v9_ ([] : List api_Breaker), v10_ ([] : List api_Source), v11_ ([] : List api_Consumer), v9_ (g3_ z2), v10_ (g4z_ z2), v11_ ([] : List api_Consumer)]
def sa29_2  (z2 : Sg3) : St := [(0, dO 0 0), (2, dO 1 0), (3, dO 2 0)]
def Ra29_2 (y1 : Int × dynposmake_Src) (y3 : Int × dynposmake_Src) (y5 : Int × dynposmake_Src) (z2 : Sg3) : List Res := [.box 90 [DS pI z2.2.1, I z2.2.2.1], .box 29 [I 0, .os 3, .os 4, .os 5, I 0, I 0], .box 29 [I y1.1, .os 6, .os 7, .os 8, I y3.1, I y5.1], v9_ ([] : List api_Breaker), v10_ ([] : List api_Source), v11_ ([] : List api_Consumer), v9_ (g3_ z2), v10_ (g4z_ z2), v11_ ([] : List api_Consumer)]
def st29_3  (z3 : Sg2) : St := [(0, dO 0 0), (2, dO 1 0), (3, dO 2 0), (7, dI z3.1)]
def R29_3 (y1 : Int × dynposmake_Src) (y3 : Int × dynposmake_Src) (y5 : Int × dynposmake_Src) (z2 : Sg3) (z3 : Sg2) : List Res := [.box 90 [DS pI z3.2.1, I z3.2.2.1], .box 29 [I 0, .os 3, .os 4, .os 5, I 0, I 0], .box 29 [I y1.1, .os 6, .os 7, .os 8, I y3.1, I y5.1], v9_ ([] : List api_Breaker), v10_ ([] : List api_Source), v11_ ([] : List api_Consumer), v9_ (g3_ z3), v10_ (g4z_ z2), v11_ (g4z_ z3)]
def sa29_3  (z3 : Sg2) : St := [(2, dO 1 0), (3, dO 2 0)]
def Ra29_3 (y1 : Int × dynposmake_Src) (y3 : Int × dynposmake_Src) (y5 : Int × dynposmake_Src) (z2 : Sg3) (z3 : Sg2) : List Res := [.box 90 [DS pI z3.2.1, I z3.2.2.1], .box 29 [I 0, .os 3, .os 4, .os 5, I 0, I 0], .box 29 [I y1.1, .os 6, .os 7, .os 8, I y3.1, I y5.1], v9_ ([] : List api_Breaker), v10_ ([] : List api_Source), v11_ ([] : List api_Consumer), v9_ (g3_ z3), v10_ (g4z_ z2), v11_ (g4z_ z3)]
def sa29_4 (z3 : Sg2) (z4 : (List api_Breaker)) : St := [(0, dO 0 0), (2, dO 1 0), (3, dO 2 0), (7, dI z3.1), (8, dI (ln (g4z_ z3)))]
def Ra29_4 (y1 : Int × dynposmake_Src) (y3 : Int × dynposmake_Src) (y5 : Int × dynposmake_Src) (z2 : Sg3) (z3 : Sg2) (y42 : Int × dynposmake_Src) (z4 : (List api_Breaker)) : List Res := [.box 90 (d90 y42.2), .box 29 [I 0, .os 3, .os 4, .os 5, I 0, I 0], .box 29 [I y1.1, .os 8, .os 6, .os 7, I y3.1, I y5.1], v9_ ([] : List api_Breaker), v10_ ([] : List api_Source), v11_ ([] : List api_Consumer), v10_ (g4z_ z2), v11_ (g4z_ z3), v9_ z4]
set_option maxHeartbeats 4000000 in
theorem k29 (x0 : dynposmake_Src) (r : api_Board × dynposmake_Src) (h : F29 x0 = some r) : CO 29 [.d (.o 0 0)] [.box 90 (d90 x0)] (.agg [I r.1.Buses, .os 1, .os 2, .os 3, I r.1.Phase, I r.1.Frequency]) (.box 90 (d90 r.2) :: zs r.1 []) := by
 unfold F29 at h
 refine co 168 Tryz.func29 fun C hC => ?_
 obtain ⟨y1, h2, h⟩ := bE h
 obtain ⟨y3, h4, h⟩ := bE h
 obtain ⟨y5, h6, h⟩ := bE h
 refine ws [] lv29 28 [] [.call 78 [dO 0 0, dI 1, dI 4] [.box 90 (d90 x0)] (dI y1.1) [.box 90 (d90 y1.2)] [0], .call 40 [dO 0 0, .d (DS pI [0, 50, 200, 1800])] [.box 90 (d90 y1.2)] (dI y3.1) [.box 90 (d90 y3.2)] [0], .call 40 [dO 0 0, .d (DS pI [0, 10, 50])] [.box 90 (d90 y3.2)] (dI y5.1) [.box 90 (d90 y5.2)] [0]] [.ownb 1 1 147 3, .ownb 1 2 139 3, .ownb 1 3 65 5, .ownb 2 1 147 3, .ownb 2 2 139 3, .ownb 2 3 65 5] 1 n9_ (st29_0 (1, y5.2.L, y5.2.At, ([] : List api_Breaker))) (R29_0 y1 y3 y5 (1, y5.2.L, y5.2.At, ([] : List api_Breaker))) hC ⟨⟨e78, (k78 x0 1 4 _ h2)⟩, ⟨e40, (k40 y1.2 [0, 50, 200, 1800] _ h4)⟩, ⟨e40, (k40 y3.2 [0, 10, 50] _ h6)⟩, trivial⟩ trivial ?_
 obtain ⟨w0, hm0, hret0, hnext0⟩ := aIn h
 clear h
 refine wc w0 (sa29_0) (Ra29_0 y1 y3 y5) ?_ fun z0 hs0 => ?_
 ·refine wb ?_
  refine wW (by kernel_rfl) (F29_l0 y1) (st29_0) (R29_0 y1 y3 y5) w0 1152921504606846976 (1, y5.2.L, y5.2.At, ([] : List api_Breaker)) hm0 rfl rfl fun z0 w0b h hb0 hr0 => ?_
  unfold F29_l0 at h
  rcases bC (decide (z0.1 < y1.1)) with h7 | h7
  ·replace h := cT h7 h
   obtain ⟨y8, h9, h⟩ := bE h
   rcases bC (decide (y8.1 < 5)) with h10 | h10
   ·replace h := cT h10 h
    obtain ⟨y11, h12, h⟩ := bE h
    obtain ⟨y13, h14, h⟩ := bE h
    exact wx [(decide (z0.1 < y1.1), true), (decide (y8.1 < 5), true)] w0b (st29_0) (R29_0 y1 y3 y5) lv29 34 [true, true] [.call 32 [dO 0 0, dI 6] [.box 90 [DS pI z0.2.1, I z0.2.2.1]] (dI y8.1) [.box 90 (d90 y8.2)] [0], .call 32 [dO 0 0, dI z0.1] [.box 90 (d90 y8.2)] (dI y11.1) [.box 90 (d90 y11.2)] [0], .app (z0.2.2.2.map q147) ([(⟨1, y11.1, z0.1⟩ : api_Breaker)].map q147) 3 (((z0.2.2.2.map q147).length + ([(⟨1, y11.1, z0.1⟩ : api_Breaker)].map q147).length) * (24 + 1)) (y13.map q147)] [] 1 [0, 1, 2, 3, 4, 5, 9, 7, 8] (w64 (z0.1 + 1), y11.2.L, y11.2.At, y13) hC ⟨⟨e32, (k32 (⟨z0.2.1, z0.2.2.1⟩ : dynposmake_Src) 6 _ h9)⟩, ⟨e32, (k32 y8.2 z0.1 _ h12)⟩, aG q147 3 (fun _ => rfl) h14, trivial⟩ ⟨h7, h10, trivial⟩ (sI h).symm
   ·replace h := cF h10 h
    exact wx [(decide (z0.1 < y1.1), true), (decide (y8.1 < 5), false)] w0b (st29_0) (R29_0 y1 y3 y5) lv29 34 [true, false] [.call 32 [dO 0 0, dI 6] [.box 90 [DS pI z0.2.1, I z0.2.2.1]] (dI y8.1) [.box 90 (d90 y8.2)] [0]] [] 1 n9_ (w64 (z0.1 + 1), y8.2.L, y8.2.At, (g3z_ z0)) hC ⟨⟨e32, (k32 (⟨z0.2.1, z0.2.2.1⟩ : dynposmake_Src) 6 _ h9)⟩, trivial⟩ ⟨h7, h10, trivial⟩ (sI h).symm
  ·replace h := cF h7 h
   exact wx [(decide (z0.1 < y1.1), false)] w0 (sa29_0) (Ra29_0 y1 y3 y5) lv29 26 [false] [] [] 1 n9_ (z0.1, z0.2.1, z0.2.2.1, (g3z_ z0)) hC trivial ⟨h7, trivial⟩ (hb0 _ (sI h).symm)
 ·have h := hnext0 _ hs0
  obtain ⟨y15, h16, h⟩ := bE h
  refine ws [] lv29 24 [] [.whenR [(decide (y1.1 > 2), true)] (.call 32 [dO 0 0, dI 2] [.box 90 [DS pI z0.2.1, I z0.2.2.1]] (dI y15.1) [.box 90 (d90 y15.2)] [0])] [] 1 n9_ [(0, dO 0 0), (2, dO 1 0), (3, dO 2 0), (47, dB ((decide (y1.1 > 2)) && (y15.1 == 1)))] [.box 90 (d90 y15.2), .box 29 [I 0, .os 3, .os 4, .os 5, I 0, I 0], .box 29 [I y1.1, .os 6, .os 7, .os 8, I y3.1, I y5.1], v9_ ([] : List api_Breaker), v10_ ([] : List api_Source), v11_ ([] : List api_Consumer), v9_ (g3z_ z0), v10_ ([] : List api_Source), v11_ ([] : List api_Consumer)] hC ⟨⟨fun hg => ⟨e32, (k32 (⟨z0.2.1, z0.2.2.1⟩ : dynposmake_Src) 2 _ (gg h16 hg))⟩, fun hg => by have e := guardO_not h16 hg; subst e; rfl⟩, trivial⟩ trivial ?_
  obtain ⟨w1, h, hret1, hnext1⟩ := aIn h
  refine wc w1 (sa29_1) (Ra29_1 y1 y3 y5 y15) ?_ fun z1 hs1 => ?_
  ·unfold F29_m1 at h
   rcases bC (((decide (y1.1 > 2)) && (y15.1 == 1))) with h17 | h17
   ·replace h := cT h17 h
    obtain ⟨y18, h19, h⟩ := bE h
    exact wx [(((decide (y1.1 > 2)) && (y15.1 == 1)), true)] w1 (sa29_1) (Ra29_1 y1 y3 y5 y15) lv29 23 [true] [.app (z0.2.2.2.map q147) ([(⟨1, 0, w64 (y1.1 - 1)⟩ : api_Breaker)].map q147) 3 (((z0.2.2.2.map q147).length + ([(⟨1, 0, w64 (y1.1 - 1)⟩ : api_Breaker)].map q147).length) * (24 + 1)) (y18.map q147)] [] 1 [0, 1, 2, 3, 4, 5, 9, 7, 8] y18 hC ⟨aG q147 3 (fun _ => rfl) h19, trivial⟩ ⟨h17, trivial⟩ (sI h).symm
   ·replace h := cF h17 h
    exact wx [(((decide (y1.1 > 2)) && (y15.1 == 1)), false)] w1 (sa29_1) (Ra29_1 y1 y3 y5 y15) lv29 23 [false] [] [] 1 n9_ (g3z_ z0) hC trivial ⟨h17, trivial⟩ (sI h).symm
  ·clear h; have h := hnext1 _ hs1
   obtain ⟨y20, h21, h⟩ := bE h
   refine ws [] lv29 24 [] [.call 32 [dO 0 0, dI 5] [.box 90 (d90 y15.2)] (dI y20.1) [.box 90 (d90 y20.2)] [0]] [] 1 n9_ (st29_2 (y20.1, y20.2.L, y20.2.At, z1, ([] : List api_Source))) (R29_2 y1 y3 y5 (y20.1, y20.2.L, y20.2.At, z1, ([] : List api_Source))) hC ⟨⟨e32, (k32 y15.2 5 _ h21)⟩, trivial⟩ trivial ?_
   obtain ⟨w2, hm2, hret2, hnext2⟩ := aIn h
   clear h
   refine wc w2 (sa29_2) (Ra29_2 y1 y3 y5) ?_ fun z2 hs2 => ?_
   ·refine wb ?_
    refine wW (by kernel_rfl) (F29_l2 y1) (st29_2) (R29_2 y1 y3 y5) w2 1152921504606846976 (y20.1, y20.2.L, y20.2.At, z1, ([] : List api_Source)) hm2 rfl rfl fun z2 w2b h hb2 hr2 => ?_
    unfold F29_l2 at h
    rcases bC (decide (z2.1 > 0)) with h22 | h22
    ·replace h := cT h22 h
     obtain ⟨y23, h24, h⟩ := bE h
     obtain ⟨y25, h26, h⟩ := bE h
     obtain ⟨y27, h28, h⟩ := bE h
     obtain ⟨y29, h30, h⟩ := bE h
     obtain ⟨y31, h32, h⟩ := bE h
     obtain ⟨y33, h34, h⟩ := bE h
     exact wx [(decide (z2.1 > 0), true)] w2b (st29_2) (R29_2 y1 y3 y5) lv29 35 [true] [.call 32 [dO 0 0, dI y1.1] [.box 90 [DS pI z2.2.1, I z2.2.2.1]] (dI y23.1) [.box 90 (d90 y23.2)] [0], .len (ln (z2.2.2.2.2.map q139)) (ln (g4z_ z2)), .app (z2.2.2.2.1.map q147) ([(⟨2, y23.1, (ln (g4z_ z2))⟩ : api_Breaker)].map q147) 3 (((z2.2.2.2.1.map q147).length + ([(⟨2, y23.1, (ln (g4z_ z2))⟩ : api_Breaker)].map q147).length) * (24 + 1)) (y25.map q147), .call 40 [dO 0 0, .d (DS pI [10, 50, 100])] [.box 90 (d90 y23.2)] (dI y27.1) [.box 90 (d90 y27.2)] [0], .call 40 [dO 0 0, .d (DS pI [0, 5, y27.1])] [.box 90 (d90 y27.2)] (dI y29.1) [.box 90 (d90 y29.2)] [0], .call 40 [dO 0 0, .d (DS pI [0, 1, 3])] [.box 90 (d90 y29.2)] (dI y31.1) [.box 90 (d90 y31.2)] [0], .app (z2.2.2.2.2.map q139) ([(⟨y27.1, y29.1, y31.1⟩ : api_Source)].map q139) 3 (((z2.2.2.2.2.map q139).length + ([(⟨y27.1, y29.1, y31.1⟩ : api_Source)].map q139).length) * (24 + 1)) (y33.map q139)] [] 1 [0, 1, 2, 3, 4, 5, 9, 10, 8] (w64 (z2.1 - 1), y31.2.L, y31.2.At, y25, y33) hC ⟨⟨e32, (k32 (⟨z2.2.1, z2.2.2.1⟩ : dynposmake_Src) y1.1 _ h24)⟩, lM _ _, aG q147 3 (fun _ => rfl) h26, ⟨e40, (k40 y23.2 [10, 50, 100] _ h28)⟩, ⟨e40, (k40 y27.2 [0, 5, y27.1] _ h30)⟩, ⟨e40, (k40 y29.2 [0, 1, 3] _ h32)⟩, aG q139 3 (fun _ => rfl) h34, trivial⟩ ⟨h22, trivial⟩ (sI h).symm
    ·replace h := cF h22 h
     exact wx [(decide (z2.1 > 0), false)] w2 (sa29_2) (Ra29_2 y1 y3 y5) lv29 26 [false] [] [] 1 n9_ (z2.1, z2.2.1, z2.2.2.1, (g3_ z2), (g4z_ z2)) hC trivial ⟨h22, trivial⟩ (hb2 _ (sI h).symm)
   ·have h := hnext2 _ hs2
    obtain ⟨y35, h36, h⟩ := bE h
    refine ws [] lv29 24 [] [.call 32 [dO 0 0, dI 6] [.box 90 [DS pI z2.2.1, I z2.2.2.1]] (dI y35.1) [.box 90 (d90 y35.2)] [0]] [] 1 n9_ (st29_3 (y35.1, y35.2.L, y35.2.At, (g3_ z2), ([] : List api_Consumer))) (R29_3 y1 y3 y5 z2 (y35.1, y35.2.L, y35.2.At, (g3_ z2), ([] : List api_Consumer))) hC ⟨⟨e32, (k32 (⟨z2.2.1, z2.2.2.1⟩ : dynposmake_Src) 6 _ h36)⟩, trivial⟩ trivial ?_
    obtain ⟨w3, hm3, hret3, hnext3⟩ := aIn h
    clear h
    refine wc w3 (sa29_3) (Ra29_3 y1 y3 y5 z2) ?_ fun z3 hs3 => ?_
    ·refine wb ?_
     refine wW (by kernel_rfl) (F29_l3 y1) (st29_3) (R29_3 y1 y3 y5 z2) w3 1152921504606846976 (y35.1, y35.2.L, y35.2.At, (g3_ z2), ([] : List api_Consumer)) hm3 rfl rfl fun z3 w3b h hb3 hr3 => ?_
     unfold F29_l3 at h
     rcases bC (decide (z3.1 > 0)) with h37 | h37
     ·replace h := cT h37 h
      obtain ⟨y38, h39, h⟩ := bE h
      obtain ⟨y40, h41, h⟩ := bE h
      obtain ⟨y42, h43, h⟩ := bE h
      refine ws [(decide (z3.1 > 0), true)] lv29 37 [true] [.len (ln (z3.2.2.2.2.map q65)) (ln (g4z_ z3)), .call 32 [dO 0 0, dI y1.1] [.box 90 [DS pI z3.2.1, I z3.2.2.1]] (dI y38.1) [.box 90 (d90 y38.2)] [0], .app (z3.2.2.2.1.map q147) ([(⟨3, y38.1, (ln (g4z_ z3))⟩ : api_Breaker)].map q147) 3 (((z3.2.2.2.1.map q147).length + ([(⟨3, y38.1, (ln (g4z_ z3))⟩ : api_Breaker)].map q147).length) * (24 + 1)) (y40.map q147), .whenR [(decide (y1.1 > 1), true)] (.call 32 [dO 0 0, dI 4] [.box 90 (d90 y38.2)] (dI y42.1) [.box 90 (d90 y42.2)] [0])] [] 1 [0, 1, 2, 3, 4, 5, 7, 8, 9] [(0, dO 0 0), (2, dO 1 0), (3, dO 2 0), (7, dI z3.1), (8, dI (ln (g4z_ z3))), (9, dI y38.1), (121, dB ((decide (y1.1 > 1)) && (y42.1 == 3)))] [.box 90 (d90 y42.2), .box 29 [I 0, .os 3, .os 4, .os 5, I 0, I 0], .box 29 [I y1.1, .os 8, .os 6, .os 7, I y3.1, I y5.1], v9_ ([] : List api_Breaker), v10_ ([] : List api_Source), v11_ ([] : List api_Consumer), v10_ (g4z_ z2), v11_ (g4z_ z3), v9_ y40] hC ⟨lM _ _, ⟨e32, (k32 (⟨z3.2.1, z3.2.2.1⟩ : dynposmake_Src) y1.1 _ h39)⟩, aG q147 3 (fun _ => rfl) h41, ⟨fun hg => ⟨e32, (k32 y38.2 4 _ (gg h43 hg))⟩, fun hg => by have e := guardO_not h43 hg; subst e; rfl⟩, trivial⟩ ⟨h37, trivial⟩ ?_
      obtain ⟨w4, h, hret4, hnext4⟩ := aIn h
      refine wc w4 (sa29_4 z3) (Ra29_4 y1 y3 y5 z2 z3 y42) ?_ fun z4 hs4 => ?_
      ·unfold F29_m4 at h
       rcases bC (((decide (y1.1 > 1)) && (y42.1 == 3))) with h44 | h44
       ·replace h := cT h44 h
        obtain ⟨u46, h45, h⟩ := bE h
        obtain ⟨y47, h48, h⟩ := bE h
        exact wx [(((decide (y1.1 > 1)) && (y42.1 == 3)), true)] w4 (sa29_4 z3) (Ra29_4 y1 y3 y5 z2 z3 y42) lv29 23 [true] [.nz y1.1, .app (y40.map q147) ([(⟨3, Int.tmod (w64 (y38.1 + 1)) y1.1, (ln (g4z_ z3))⟩ : api_Breaker)].map q147) 3 (((y40.map q147).length + ([(⟨3, Int.tmod (w64 (y38.1 + 1)) y1.1, (ln (g4z_ z3))⟩ : api_Breaker)].map q147).length) * (24 + 1)) (y47.map q147)] [] 1 [0, 1, 2, 3, 4, 5, 6, 7, 9] y47 hC ⟨nz_get h45, aG q147 3 (fun _ => rfl) h48, trivial⟩ ⟨h44, trivial⟩ (sI h).symm
       ·replace h := cF h44 h
        exact wx [(((decide (y1.1 > 1)) && (y42.1 == 3)), false)] w4 (sa29_4 z3) (Ra29_4 y1 y3 y5 z2 z3 y42) lv29 23 [false] [] [] 1 n9_ y40 hC trivial ⟨h44, trivial⟩ (sI h).symm
      ·clear h; have h := hnext4 _ hs4
       obtain ⟨y49, h50, h⟩ := bE h
       obtain ⟨y51, h52, h⟩ := bE h
       obtain ⟨y53, h54, h⟩ := bE h
       obtain ⟨y55, h56, h⟩ := bE h
       obtain ⟨y57, h58, h⟩ := bE h
       refine ws [] lv29 28 [] [.call 40 [dO 0 0, .d (DS pI [0, 5, 20, 40])] [.box 90 (d90 y42.2)] (dI y49.1) [.box 90 (d90 y49.2)] [0], .nz 2, .call 40 [dO 0 0, .d (DS pI [0, w64 (Int.tdiv y49.1 2), y49.1])] [.box 90 (d90 y49.2)] (dI y51.1) [.box 90 (d90 y51.2)] [0], .call 32 [dO 0 0, dI 3] [.box 90 (d90 y51.2)] (dI y53.1) [.box 90 (d90 y53.2)] [0], .call 78 [dO 0 0, dI (-1), dI 2] [.box 90 (d90 y53.2)] (dI y55.1) [.box 90 (d90 y55.2)] [0], .whenR [(decide ((ln (g4z_ z3)) > 0), true)] (.call 32 [dO 0 0, dI 4] [.box 90 (d90 y55.2)] (dI y57.1) [.box 90 (d90 y57.2)] [0])] [.ownb 9 4 3 1] 1 n11_ [(0, dO 0 0), (2, dO 1 0), (3, dO 2 0), (7, dI z3.1), (8, dI (ln (g4z_ z3))), (11, dO 9 0), (155, dB (c29_2 z3 y57))] [.box 90 (d90 y57.2), .box 29 [I 0, .os 3, .os 4, .os 5, I 0, I 0], .box 29 [I y1.1, .os 8, .os 6, .os 7, I y3.1, I y5.1], v9_ ([] : List api_Breaker), v10_ ([] : List api_Source), v11_ ([] : List api_Consumer), v10_ (g4z_ z2), v11_ (g4z_ z3), v9_ z4, .box 65 [I y49.1, I y51.1, I y53.1, I y55.1, .os 10], v0_ ([] : List Int)] hC ⟨⟨e40, (k40 y42.2 [0, 5, 20, 40] _ h50)⟩, nz_lit rfl, ⟨e40, (k40 y49.2 [0, w64 (Int.tdiv y49.1 2), y49.1] _ h52)⟩, ⟨e32, (k32 y51.2 3 _ h54)⟩, ⟨e78, (k78 y53.2 (-1) 2 _ h56)⟩, ⟨fun hg => ⟨e32, (k32 y55.2 4 _ (gg h58 hg))⟩, fun hg => by have e := guardO_not h58 hg; subst e; rfl⟩, trivial⟩ trivial ?_
       rcases bC ((c29_2 z3 y57)) with h59 | h59
       ·replace h := cT h59 h
        obtain ⟨y60, h61, h⟩ := bE h
        obtain ⟨y62, h63, h⟩ := bE h
        exact wx [((c29_2 z3 y57), true)] w3b (st29_3) (R29_3 y1 y3 y5 z2) lv29 26 [true] [.call 32 [dO 0 0, dI (ln (g4z_ z3))] [.box 90 (d90 y57.2)] (dI y60.1) [.box 90 (d90 y60.2)] [0], .app (z3.2.2.2.2.map q65) ([(⟨y49.1, y51.1, y53.1, y55.1, [y60.1]⟩ : api_Consumer)].map q65) 5 (((z3.2.2.2.2.map q65).length + ([(⟨y49.1, y51.1, y53.1, y55.1, [y60.1]⟩ : api_Consumer)].map q65).length) * (56 + 1)) (y62.map q65)] [] 1 [0, 1, 2, 3, 4, 5, 8, 6, 11] (w64 (z3.1 - 1), y60.2.L, y60.2.At, z4, y62) hC ⟨⟨e32, (k32 y57.2 (ln (g4z_ z3)) _ h61)⟩, aG q65 5 (fun _ => rfl) h63, trivial⟩ ⟨h59, trivial⟩ (sI h).symm
       ·replace h := cF h59 h
        refine ws [((c29_2 z3 y57), false)] lv29 2 [false] [] [.frz 10] 1 n10_ [(0, dO 0 0), (2, dO 1 0), (3, dO 2 0), (7, dI z3.1), (11, dO 9 0)] [.box 90 (d90 y57.2), .box 29 [I 0, .os 3, .os 4, .os 5, I 0, I 0], .box 29 [I y1.1, .os 8, .os 6, .os 7, I y3.1, I y5.1], v9_ ([] : List api_Breaker), v10_ ([] : List api_Source), v11_ ([] : List api_Consumer), v10_ (g4z_ z2), v11_ (g4z_ z3), v9_ z4, .box 65 [I y49.1, I y51.1, I y53.1, I y55.1, DS pI ([] : List Int)]] hC trivial ⟨h59, trivial⟩ ?_
        obtain ⟨y64, h65, h⟩ := bE h
        exact wx [] w3b (st29_3) (R29_3 y1 y3 y5 z2) lv29 24 [] [.app (z3.2.2.2.2.map q65) ([(⟨y49.1, y51.1, y53.1, y55.1, ([] : List Int)⟩ : api_Consumer)].map q65) 5 (((z3.2.2.2.2.map q65).length + ([(⟨y49.1, y51.1, y53.1, y55.1, ([] : List Int)⟩ : api_Consumer)].map q65).length) * (56 + 1)) (y64.map q65)] [] 1 [0, 1, 2, 3, 4, 5, 8, 6, 10] (w64 (z3.1 - 1), y57.2.L, y57.2.At, z4, y64) hC ⟨aG q65 5 (fun _ => rfl) h65, trivial⟩ trivial (sI h).symm
     ·replace h := cF h37 h
      exact wx [(decide (z3.1 > 0), false)] w3 (sa29_3) (Ra29_3 y1 y3 y5 z2) lv29 26 [false] [] [] 1 n9_ (z3.1, z3.2.1, z3.2.2.1, (g3_ z3), (g4z_ z3)) hC trivial ⟨h37, trivial⟩ (hb3 _ (sI h).symm)
    ·have h := hnext3 _ hs3
     replace h := sI h
     subst h
     exact wr [] lv29 23 [] [] [] [.cell 2 29] 1 [0, 6, 7, 8] hC trivial trivial
def e29 := en Tryz.func29
theorem k30 (x0 : dynposmake_Src) (r : api_Table × dynposmake_Src) (h : F30 x0 = some r) : CO 30 [.d (.o 0 0)] [.box 90 (d90 x0)] (.agg (d31 r.1)) [.box 90 (d90 r.2)] := by
 unfold F30 at h
 refine co 13 Tryz.func30 fun C hC => ?_
 obtain ⟨y1, h2, h⟩ := bE h
 obtain ⟨y3, h4, h⟩ := bE h
 obtain ⟨y5, h6, h⟩ := bE h
 replace h := sI h
 subst h
 exact wr [] [0, 2] 25 [] [.call 40 [dO 0 0, .d (DS pI [60, 80, 100])] [.box 90 (d90 x0)] (dI y1.1) [.box 90 (d90 y1.2)] [0], .call 40 [dO 0 0, .d (DS pI [1, 30, 50])] [.box 90 (d90 y1.2)] (dI y3.1) [.box 90 (d90 y3.2)] [0], .call 40 [dO 0 0, .d (DS pI [0, 1, 3])] [.box 90 (d90 y3.2)] (dI y5.1) [.box 90 (d90 y5.2)] [0]] [] [.cell 2 31] 1 [0] hC ⟨⟨e40, (k40 x0 [60, 80, 100] _ h2)⟩, ⟨e40, (k40 y1.2 [1, 30, 50] _ h4)⟩, ⟨e40, (k40 y3.2 [0, 1, 3] _ h6)⟩, trivial⟩ trivial
def e30 := en Tryz.func30
end Go.Proofs.YthgnbpdjncbkfaaGreat
