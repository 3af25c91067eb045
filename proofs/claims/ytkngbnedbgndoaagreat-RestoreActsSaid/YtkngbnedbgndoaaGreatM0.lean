import Derived.Test.YtkngbnedbgndoaaGreatRows
import Derived.Test.YtkngbnedbgndoaaGreatMo
import Derived.Test.YtkngbnedbgndoaaGreatBw
import Derived.Test.YtkngbnedbgndoaaGreatIn
set_option linter.unusedVariables false
namespace Go.Proofs.YtkngbnedbgndoaaGreat
open Go.SL
theorem sI {α : Type} {a b : α} (h : some a = some b) : a = b := Option.some.inj h
abbrev zb (b : api_Board) (l : List D) : List D := I b.Buses :: DS q66 b.Breakers :: DS q57 b.Sources :: DS q108 b.Consumers :: I b.Phase :: I b.Frequency :: l
abbrev zp (p : api_Power) (l : List Res) : List Res := .sl 4 1 (p.Closed.map pB) :: .sl 59 4 (p.Sources.map q59) :: .sl 3 1 (p.Limits.map pI) :: .sl 119 2 (p.Broken.map q119) :: l
abbrev ze (l : List Res) : List Res := .sl 4 1 (([] : List Bool).map pB) :: .sl 59 4 (([] : List api_Running).map q59) :: .sl 3 1 (([] : List Int).map pI) :: .sl 119 2 (([] : List api_Part).map q119) :: l
abbrev zs (b : api_Board) (l : List Res) : List Res := .sl 66 3 (b.Breakers.map q66) :: .sl 57 3 (b.Sources.map q57) :: .sl 108 5 (b.Consumers.map q108) :: l
abbrev zt {α : Type} (b : api_Board) (r : α) : Int × List api_Breaker × List api_Source × List api_Consumer × Int × Int × α := (b.Buses, b.Breakers, b.Sources, b.Consumers, b.Phase, b.Frequency, r)
abbrev zu {α : Type} (p : api_Power) (r : α) : List Bool × List api_Running × List Int × List api_Part × α := (p.Closed, p.Sources, p.Limits, p.Broken, r)
abbrev n3_ : List Nat := [0, 1, 2]
abbrev n4_ : List Nat := [0, 1, 2, 3]
abbrev n5_ : List Nat := [0, 1, 2, 3, 4]
abbrev n6_ : List Nat := [0, 1, 2, 3, 4, 5]
abbrev n7_ : List Nat := [0, 1, 2, 3, 4, 5, 6]
abbrev n8_ : List Nat := [0, 1, 2, 3, 4, 5, 6, 7]
abbrev n9_ : List Nat := [0, 1, 2, 3, 4, 5, 6, 7, 8]
abbrev n10_ : List Nat := [0, 1, 2, 3, 4, 5, 6, 7, 8, 9]
abbrev n11_ : List Nat := [0, 1, 2, 3, 4, 5, 6, 7, 8, 9, 10]
abbrev n12_ : List Nat := [0, 1, 2, 3, 4, 5, 6, 7, 8, 9, 10, 11]
abbrev n13_ : List Nat := [0, 1, 2, 3, 4, 5, 6, 7, 8, 9, 10, 11, 12]
abbrev n14_ : List Nat := [0, 1, 2, 3, 4, 5, 6, 7, 8, 9, 10, 11, 12, 13]
abbrev n15_ : List Nat := [0, 1, 2, 3, 4, 5, 6, 7, 8, 9, 10, 11, 12, 13, 14]
abbrev n16_ : List Nat := [0, 1, 2, 3, 4, 5, 6, 7, 8, 9, 10, 11, 12, 13, 14, 15]
abbrev n17_ : List Nat := [0, 1, 2, 3, 4, 5, 6, 7, 8, 9, 10, 11, 12, 13, 14, 15, 16]
abbrev n21_ : List Nat := [0, 1, 2, 3, 4, 5, 6, 7, 8, 9, 10, 11, 12, 13, 14, 15, 16, 17, 18, 19, 20]
theorem mixed : Tryz.prog.follows .mixedOrders = true := by kernel_rfl
theorem ws {ro : Option Nat} {n : Nat} {C : Ctx} {Q : Exit → Act → World → Prop} {st : St} {R : List Res} {items : List It} (lv : List Nat) (fuel : Nat) (ds : List Bool) (cls : List Cl) (adj : List Adj) (k : Nat) (pi : List Nat) (st' : St) (R' : List Res) {bs : List (Bool × Bool)} (hk : C.h.length ≤ k) (hok : AllOk Tryz.prog cls) (hbs : AllEq bs) (hW : WI ro Tryz.prog n C Q (skipTo fuel items ds) st' R') (h : wayStop Tryz.prog n lv fuel items st R ds cls adj k pi (keys st') = some (st', R', cls, bs) := by kernel_rfl) : WI ro Tryz.prog n C Q items st R := WI_stop mixed lv fuel ds cls adj k pi st' R' hk hok hbs h hW
theorem we {ro : Option Nat} {n : Nat} {C : Ctx} {Q : Exit → Act → World → Prop} {st : St} {R : List Res} {items : List It} {σ : Type} {φ : σ → Prop} {st' : σ → St} {R' : σ → List Res} (lv : List Nat) (fuel : Nat) (ds : List Bool) (cls : List Cl) (adj : List Adj) (k : Nat) (pi : List Nat) {bs : List (Bool × Bool)} (s : σ) (hk : C.h.length ≤ k) (hok : AllOk Tryz.prog cls) (hbs : AllEq bs) (h1 : φ s) (hi : hdK (skipTo fuel items ds) = Ex n C φ st' R' := by kernel_rfl) (h : wayStop Tryz.prog n lv fuel items st R ds cls adj k pi (keys (st' s)) = some (st' s, R' s, cls, bs) := by kernel_rfl) : WI ro Tryz.prog n C Q items st R := WI_end mixed lv fuel ds cls adj k pi s hk hok hbs hi h h1
theorem wr {ro : Option Nat} {n : Nat} {C : Ctx} {st : St} {R : List Res} {fn : Func} {res : AV} {R2 : List Res} {items : List It} (lv : List Nat) (fuel : Nat) (ds : List Bool) (cls : List Cl) (adj : List Adj) (results : List ResultVar) (k : Nat) (pi : List Nat) {bs : List (Bool × Bool)} (hk : C.h.length ≤ k) (hok : AllOk Tryz.prog cls) (hbs : AllEq bs) (hf : fn.results.toList = results := by rfl) (h : wayRet Tryz.prog n lv fuel items st R ds cls adj results k pi = some (res, R2, cls, bs) := by kernel_rfl) : WI ro Tryz.prog n C.z (Post Tryz.prog fn C.z res R2) items st R := WI_ret mixed lv fuel ds cls adj results k pi hf hk hok hbs h
theorem wf {ro : Option Nat} {n : Nat} {C : Ctx} {st : St} {R : List Res} {fn : Func} {res : AV} {R2 : List Res} {items : List It} (lv : List Nat) (fuel : Nat) (ds : List Bool) (cls : List Cl) (adj : List Adj) (results : List ResultVar) (k : Nat) (pi : List Nat) {bs : List (Bool × Bool)} (hk : C.h.length ≤ k) (hok : AllOk Tryz.prog cls) (hbs : AllEq bs) (hf : fn.results.toList = results := by rfl) (hn : noIt (skipTo fuel items ds) = true := by kernel_rfl) (h : wayEnd Tryz.prog n lv fuel items st R ds cls adj results k pi = some (res, R2, cls, bs) := by kernel_rfl) : WI ro Tryz.prog n C.z (Post Tryz.prog fn C.z res R2) items st R := WI_endF mixed lv fuel ds cls adj results k pi hf hk hok hbs hn h
theorem en {f : FuncId} {fn : Func} (hf : Tryz.prog.funcs[f]? = some fn) (hb : fn.body.isNone = false := by kernel_rfl) (hn : (fn.name == "runtime.NumGoroutine") = false := by kernel_rfl) : Enters Tryz.prog f := Go.SL.enters_of hf hb hn
abbrev ln {α : Type} (l : List α) : Int := (l.length : Int)
abbrev dI (x : Int) : AV := .d (I x)
abbrev dB (x : Bool) : AV := .d (Bo x)
abbrev dO (a b : Nat) : AV := .d (.o a b)
abbrev dS (a : Nat) : AV := .d (.os a)
theorem k15 (x0 : List Int) (r : dynposmake_Src) (h : F15 x0 = some r) : CallOk Tryz.prog 15 [.d (DS pI x0)] [] (.d (.o 0 0)) [.box 121 (d121 r)] := by
 unfold F15 at h
 refine callOk_of 10 Tryz.func15 rfl rfl rfl fun C hC => ?_
 obtain ⟨y2, h1, h⟩ := bindE h
 replace h := sI h
 subst h
 exact wr (bs := []) [0, 2] 25 [] [.len (ln (x0.map pI)) (ln x0), .cut (x0.map pI) 1 0 (min (ln x0) 600) (y2.map pI)] [] [.tmp 2] 0 [0] hC ⟨len_map _ _, cut_get pI 1 (fun _ => rfl) h1, trivial⟩ trivial
theorem e15 : Enters Tryz.prog 15 := en Tryz.func15
theorem k127 (x0 : Int) (x1 : Int) (r : Int) (h : F127 x0 x1 = some r) : CallOk Tryz.prog 127 [.d (I x0), .d (I x1)] [] (.d (I r)) [] := by
 unfold F127 at h
 refine callOk_of 14 Tryz.func127 rfl rfl rfl fun C hC => ?_
 rcases boolC (decide (x1 < 1)) with h1 | h1
 ·replace h := condT h1 h
  replace h := sI h
  subst h
  exact wr (bs := [(decide (x1 < 1), true)]) [0, 1, 4, 6] 29 [true] [] [] [.tmp 4] 0 [] hC trivial ⟨h1, trivial⟩
 ·replace h := condF h1 h
  obtain ⟨u3, h2, h⟩ := bindE h
  obtain ⟨u5, h4, h⟩ := bindE h
  replace h := sI h
  subst h
  exact wr (bs := [(decide (x1 < 1), false)]) [0, 1, 4, 6] 30 [false] [.nz x1, .nz x1] [] [.tmp 4] 0 [] hC ⟨nz_get h2, nz_get h4, trivial⟩ ⟨h1, trivial⟩
theorem e127 : Enters Tryz.prog 127 := en Tryz.func127
theorem k77 (x0 : Int) (x1 : Int) (x2 : Int) (r : Bool) (h : F77 x0 x1 x2 = r) : CallOk Tryz.prog 77 [.d (I x0), .d (I x1), .d (I x2)] [] (.d (Bo r)) [] := by
 unfold F77 at h
 refine callOk_of 15 Tryz.func77 rfl rfl rfl fun C hC => ?_
 subst h
 exact wr (bs := []) [0, 1, 2, 6] 25 [] [] [] [.tmp 6] 0 [] hC trivial trivial
theorem e77 : Enters Tryz.prog 77 := en Tryz.func77
def lv79 : List Nat := [0, 1, 2, 3, 6, 7, 8, 9, 11, 12, 13, 14, 37]
def st79_0 (x0 : api_Board) (x1 : Int) (x2 : Int) (n0 : Nat) (z0 : (List Int)) : St := [(1, dI x1), (2, dI x2), (6, .d (DS pI [])), (7, dS 0), (11, .d (DS q66 x0.Breakers)), (12, dI (ln x0.Breakers)), (13, dI (cnt 0 n0))]
def R79_0  (n0 : Nat) (z0 : (List Int)) : List Res := [.sl 3 1 (z0.map pI)]
def sa79_0  (z0 : (List Int)) : St := [(6, .d (DS pI [])), (7, dS 0)]
def Ra79_0  (z0 : (List Int)) : List Res := [.sl 3 1 (z0.map pI)]
theorem k79 (x0 : api_Board) (x1 : Int) (x2 : Int) (r : (List Int)) (h : F79 x0 x1 x2 = some r) : CallOk Tryz.prog 79 [.agg (d29 x0), .d (I x1), .d (I x2)] [] (.d (.os 0)) [.sl 3 1 (r.map pI)] := by
 unfold F79 at h
 refine callOk_of 44 Tryz.func79 rfl rfl rfl fun C hC => ?_
 refine ws (bs := []) lv79 28 [] [.len (ln (x0.Breakers.map q66)) (ln x0.Breakers)] [.own 7 3 1] 0 [1] (st79_0 x0 x1 x2 0 ([] : List Int)) (R79_0 0 ([] : List Int)) hC ⟨len_map _ _, trivial⟩ trivial ?_
 obtain ⟨w0, hm0, hret0, hnext0⟩ := andThen_inv h
 clear h
 refine WI_cut (by kernel_rfl) (fun s => w0 = .next s) (sa79_0) (Ra79_0) ?_ fun z0 hs0 => ?_
 ·refine WI_blk (by kernel_rfl) ?_
  refine WI_len 11 rfl fun hl0 => ?_
  refine WI_foldI (by kernel_rfl) (F79_l0 x1 x2) (st79_0 x0 x1 x2) (R79_0) w0 x0.Breakers ([] : List Int) hm0 rfl rfl (fun z0 hn0 => ?_) fun n0 a0 z0 w0b hi0 hx0 h hb0 hr0 => ?_
  ·clear hm0
   exact we (bs := [(decide ((cnt 0 x0.Breakers.length) < (ln x0.Breakers)), false)]) (φ := fun s' => w0 = .next s') (st' := (sa79_0)) (R' := (Ra79_0)) lv79 26 [false] [] [] 0 [0] z0 hC trivial ⟨(cnt_end hl0), trivial⟩ hn0
  ·unfold F79_l0 at h
   rcases boolC ((c79_2 x1 x2 a0)) with h1 | h1
   ·replace h := condT h1 h
    obtain ⟨y2, h3, h⟩ := bindE h
    exact we (bs := [(decide ((cnt 0 n0) < (ln x0.Breakers)), true), ((c79_2 x1 x2 a0), true)]) (φ := fun s' => w0b = .next s') (st' := (st79_0 x0 x1 x2 (n0 + 1))) (R' := (R79_0 (n0 + 1))) lv79 36 [true, true] [.row (x0.Breakers.map q66) (cnt 0 n0) (q66 a0), .app (z0.map pI) ([cnt 0 n0].map pI) 1 (((z0.map pI).length + ([cnt 0 n0].map pI).length) * (8 + 1)) (y2.map pI)] [] 0 [2] y2 hC ⟨(row_cnt hx0 hl0), app_get pI 1 (fun _ => rfl) h3, trivial⟩ ⟨(cnt_lt hi0 hl0), h1, trivial⟩ (sI h).symm
   ·replace h := condF h1 h
    exact we (bs := [(decide ((cnt 0 n0) < (ln x0.Breakers)), true), ((c79_2 x1 x2 a0), false)]) (φ := fun s' => w0b = .next s') (st' := (st79_0 x0 x1 x2 (n0 + 1))) (R' := (R79_0 (n0 + 1))) lv79 36 [true, false] [.row (x0.Breakers.map q66) (cnt 0 n0) (q66 a0)] [] 0 [0] z0 hC ⟨(row_cnt hx0 hl0), trivial⟩ ⟨(cnt_lt hi0 hl0), h1, trivial⟩ (sI h).symm
 ·have h := hnext0 _ hs0
  replace h := sI h
  subst h
  exact wr (bs := []) lv79 23 [] [] [] [.tmp 6] 0 [0] hC trivial trivial
theorem e79 : Enters Tryz.prog 79 := en Tryz.func79
theorem k78 (x0 : api_Part) (x1 : api_Part) (r : Bool) (h : F78 x0 x1 = r) : CallOk Tryz.prog 78 [.agg (d119 x0), .agg (d119 x1)] [] (.d (Bo r)) [] := by
 unfold F78 at h
 refine callOk_of 24 Tryz.func78 rfl rfl rfl fun C hC => ?_
 subst h
 exact wr (bs := []) n5_ 25 [] [] [] [.tmp 4] 0 [] hC trivial trivial
theorem e78 : Enters Tryz.prog 78 := en Tryz.func78
theorem k20 (x0 : api_Power) (r : api_Power) (h : F20 x0 = some r) : CallOk Tryz.prog 20 [.agg (d35 x0)] [] (.agg [.os 0, .os 1, .os 2, .os 3]) (zp r []) := by
 unfold F20 at h
 refine callOk_of 16 Tryz.func20 rfl rfl rfl fun C hC => ?_
 obtain ⟨y1, h2, h⟩ := bindE h
 obtain ⟨y3, h4, h⟩ := bindE h
 obtain ⟨y5, h6, h⟩ := bindE h
 obtain ⟨y7, h8, h⟩ := bindE h
 replace h := sI h
 subst h
 exact wr (bs := []) n3_ 25 [] [.app [] (x0.Closed.map pB) 1 ((x0.Closed.map pB).length * (1 + 1)) (y1.map pB), .app [] (x0.Sources.map q59) 4 ((x0.Sources.map q59).length * (32 + 1)) (y3.map q59), .app [] (x0.Limits.map pI) 1 ((x0.Limits.map pI).length * (8 + 1)) (y5.map pI), .app [] (x0.Broken.map q119) 2 ((x0.Broken.map q119).length * (16 + 1)) (y7.map q119)] [] [.cell 2 35] 0 [3, 5, 7, 9] hC ⟨app_get0 pB 1 (fun _ => rfl) h2, app_get0 q59 4 (fun _ => rfl) h4, app_get0 pI 1 (fun _ => rfl) h6, app_get0 q119 2 (fun _ => rfl) h8, trivial⟩ trivial
theorem e20 : Enters Tryz.prog 20 := en Tryz.func20
def lv171 : List Nat := [0, 1, 2, 3, 4, 6, 7, 8, 9, 10, 11, 19, 20, 21, 23, 24, 25, 26, 53, 65, 66, 67, 72]
def st171_0 (y5 : List Bool) (n0 : Nat) (z0 : (List Bool)) : St := [(3, dO 0 0), (4, dO 1 0), (6, .d (DS pI [])), (7, dS 2), (19, dI (ln y5)), (20, dI (cnt 0 n0))]
def R171_0 (x0 : api_Board) (x1 : api_Power) (n0 : Nat) (z0 : (List Bool)) : List Res := [.box 29 (d29 x0), .box 35 (d35 x1), .sl 4 1 (z0.map pB)]
def sa171_0  (z0 : (List Bool)) : St := [(6, .d (DS pI [])), (7, dS 0)]
def Ra171_0  (z0 : (List Bool)) : List Res := [.sl 4 1 (z0.map pB)]
def st171_1 (x0 : api_Board) (y5 : List Bool) (n0 : Nat) (n1 : Nat) (z1 : (List Bool)) : St := [(3, dO 0 0), (4, dO 1 0), (6, .d (DS pI [])), (7, dS 2), (19, dI (ln y5)), (20, dI (cnt 0 n0)), (23, .d (DS q66 x0.Breakers)), (24, dI (ln x0.Breakers)), (25, dI (cnt 0 n1))]
def R171_1 (x0 : api_Board) (x1 : api_Power) (n1 : Nat) (z1 : (List Bool)) : List Res := [.box 29 (d29 x0), .box 35 (d35 x1), .sl 4 1 (z1.map pB)]
def sa171_1 (y5 : List Bool) (n0 : Nat) (z1 : (List Bool)) : St := [(3, dO 0 0), (4, dO 1 0), (6, .d (DS pI [])), (7, dS 2), (19, dI (ln y5)), (20, dI (cnt 0 n0))]
def Ra171_1 (x0 : api_Board) (x1 : api_Power) (z1 : (List Bool)) : List Res := [.box 29 (d29 x0), .box 35 (d35 x1), .sl 4 1 (z1.map pB)]
def st171_2 (z0 : (List Bool)) (n2 : Nat) (z2 : (List Int)) : St := [(6, .d (DS pI [])), (7, dS 0), (10, dS 1), (65, dI (ln z0)), (66, dI (cnt 0 n2))]
def R171_2 (z0 : (List Bool)) (n2 : Nat) (z2 : (List Int)) : List Res := [.sl 4 1 (z0.map pB), .sl 3 1 (z2.map pI)]
def sa171_2  (z2 : (List Int)) : St := [(6, .d (DS pI [])), (10, dS 0)]
def Ra171_2  (z2 : (List Int)) : List Res := [.sl 3 1 (z2.map pI)]
theorem k171 (x0 : api_Board) (x1 : api_Power) (x2 : Int) (r : (List Int)) (h : F171 x0 x1 x2 = some r) : CallOk Tryz.prog 171 [.agg (d29 x0), .agg (d35 x1), .d (I x2)] [] (.d (.os 0)) [.sl 3 1 (r.map pI)] := by
 unfold F171 at h
 refine callOk_of 79 Tryz.func171 rfl rfl rfl fun C hC => ?_
 obtain ⟨y1, h2, h⟩ := bindE h
 obtain ⟨y3, h4, h⟩ := bindE h
 obtain ⟨y5, h6, h⟩ := bindE h
 refine ws (bs := []) lv171 30 [] [.room (x0.Buses * (1 + 1)) (List.replicate (Int.toNat x0.Buses) (pB false)) (y1.map pB), .row (y1.map pB) x2 (pB y3), .upd (y1.map pB) (Int.toNat x2) (pB y3) (pB true) (y5.map pB), .len (ln (y5.map pB)) (ln y5)] [] 0 n3_ (st171_0 y5 0 y5) (R171_0 x0 x1 0 y5) hC ⟨make_get h2, row_get h4, upd_get h4 h6, len_map _ _, trivial⟩ trivial ?_
 obtain ⟨w0, hm0, hret0, hnext0⟩ := andThen_inv h
 clear h
 refine WI_cut (by kernel_rfl) (fun s => w0 = .next s) (sa171_0) (Ra171_0) ?_ fun z0 hs0 => ?_
 ·refine WI_blk (by kernel_rfl) ?_
  refine WI_lenO 7 2 rfl rfl fun hl0 => ?_
  refine WI_foldI (by kernel_rfl) (F171_l0 x0 x1) (st171_0 y5) (R171_0 x0 x1) w0 y5 y5 hm0 rfl rfl (fun z0 hn0 => ?_) fun n0 a0 z0 w0b hi0 hx0 h hb0 hr0 => ?_
  ·clear hm0
   exact we (bs := [(decide ((cnt 0 y5.length) < (ln y5)), false)]) (φ := fun s' => w0 = .next s') (st' := (sa171_0)) (R' := (Ra171_0)) lv171 26 [false] [] [] 0 [2] z0 hC trivial ⟨(cnt_end hl0), trivial⟩ hn0
  ·unfold F171_l0 at h
   refine ws (bs := [(decide ((cnt 0 n0) < (ln y5)), true)]) lv171 30 [true] [.len (ln (x0.Breakers.map q66)) (ln x0.Breakers)] [] 0 n3_ (st171_1 x0 y5 n0 0 z0) (R171_1 x0 x1 0 z0) hC ⟨len_map _ _, trivial⟩ ⟨(cnt_lt hi0 hl0), trivial⟩ ?_
   obtain ⟨w1, hm1, hret1, hnext1⟩ := andThen_inv h
   clear h
   refine WI_cut (by kernel_rfl) (fun s => w1 = .next s) (sa171_1 y5 n0) (Ra171_1 x0 x1) ?_ fun z1 hs1 => ?_
   ·refine WI_blk (by kernel_rfl) ?_
    refine WI_len 23 rfl fun hl1 => ?_
    refine WI_foldI (by kernel_rfl) (F171_l1 x1) (st171_1 x0 y5 n0) (R171_1 x0 x1) w1 x0.Breakers z0 hm1 rfl rfl (fun z1 hn1 => ?_) fun n1 a1 z1 w1b hi1 hx1 h hb1 hr1 => ?_
    ·clear hm1
     exact we (bs := [(decide ((cnt 0 x0.Breakers.length) < (ln x0.Breakers)), false)]) (φ := fun s' => w1 = .next s') (st' := (sa171_1 y5 n0)) (R' := (Ra171_1 x0 x1)) lv171 26 [false] [] [] 0 n3_ z1 hC trivial ⟨(cnt_end hl1), trivial⟩ hn1
    ·unfold F171_l1 at h
     obtain ⟨y7, h8, h⟩ := bindE h
     obtain ⟨y9, h10, h⟩ := bindE h
     obtain ⟨y11, h12, h⟩ := bindE h
     refine ws (bs := [(decide ((cnt 0 n1) < (ln x0.Breakers)), true)]) lv171 32 [true] [.row (x0.Breakers.map q66) (cnt 0 n1) (q66 a1), .when [((a1.Kind == 1), true)] (.row (x1.Closed.map pB) (cnt 0 n1) (pB y7)), .when [(((a1.Kind == 1) && y7), true)] (.row (z1.map pB) a1.A (pB y9)), .when [(((a1.Kind == 1) && y7), true)] (.row (z1.map pB) (((Int.toNat a1.A) : Nat) : Int) (pB y9)), .when [(((a1.Kind == 1) && y7), true), (y9, false)] (.row (z1.map pB) a1.B (pB y11)), .when [(((a1.Kind == 1) && y7), true), (y9, false)] (.row (z1.map pB) (((Int.toNat a1.B) : Nat) : Int) (pB y11))] [] 0 n4_ [(3, dO 0 0), (4, dO 1 0), (6, .d (DS pI [])), (7, dS 2), (9, dO 3 0), (19, dI (ln y5)), (20, dI (cnt 0 n0)), (23, .d (DS q66 x0.Breakers)), (24, dI (ln x0.Breakers)), (25, dI (cnt 0 n1)), (53, dB (c171_8 a1 y7 y9 y11))] [.box 29 (d29 x0), .box 35 (d35 x1), .sl 4 1 (z1.map pB), .box 66 (d66 a1)] hC ⟨(row_cnt hx1 hl1), fun hg => row_get (guardO_get h8 hg), fun hg => row_get (guardO_get h10 hg), fun hg => row_getN (guardO_get h10 hg), fun hg => row_get (guardO_get h12 hg), fun hg => row_getN (guardO_get h12 hg), trivial⟩ ⟨(cnt_lt hi1 hl1), trivial⟩ ?_
     rcases boolC ((c171_8 a1 y7 y9 y11)) with h13 | h13
     ·replace h := condT h13 h
      obtain ⟨y14, h15, h⟩ := bindE h
      obtain ⟨y16, h17, h⟩ := bindE h
      obtain ⟨y18, h19, h⟩ := bindE h
      obtain ⟨y20, h21, h⟩ := bindE h
      exact we (bs := [((c171_8 a1 y7 y9 y11), true)]) (φ := fun s' => w1b = .next s') (st' := (st171_1 x0 y5 n0 (n1 + 1))) (R' := (R171_1 x0 x1 (n1 + 1))) lv171 25 [true] [.row (z1.map pB) a1.A (pB y14), .upd (z1.map pB) (Int.toNat a1.A) (pB y14) (pB true) (y16.map pB), .row (y16.map pB) a1.B (pB y18), .upd (y16.map pB) (Int.toNat a1.B) (pB y18) (pB true) (y20.map pB)] [] 0 n3_ y20 hC ⟨row_get h15, upd_get h15 h17, row_get h19, upd_get h19 h21, trivial⟩ ⟨h13, trivial⟩ (sI h).symm
     ·replace h := condF h13 h
      exact we (bs := [((c171_8 a1 y7 y9 y11), false)]) (φ := fun s' => w1b = .next s') (st' := (st171_1 x0 y5 n0 (n1 + 1))) (R' := (R171_1 x0 x1 (n1 + 1))) lv171 25 [false] [] [] 0 n3_ z1 hC trivial ⟨h13, trivial⟩ (sI h).symm
   ·have h := hnext1 _ hs1
    exact we (bs := []) (φ := fun s' => w0b = .next s') (st' := (st171_0 y5 (n0 + 1))) (R' := (R171_0 x0 x1 (n0 + 1))) lv171 23 [] [] [] 0 n3_ z1 hC trivial trivial (sI h).symm
 ·have h := hnext0 _ hs0
  refine ws (bs := []) lv171 26 [] [.len (ln (z0.map pB)) (ln z0)] [.own 10 3 1] 0 [0, 1] (st171_2 z0 0 ([] : List Int)) (R171_2 z0 0 ([] : List Int)) hC ⟨len_map _ _, trivial⟩ trivial ?_
  obtain ⟨w2, hm2, hret2, hnext2⟩ := andThen_inv h
  clear h
  refine WI_cut (by kernel_rfl) (fun s => w2 = .next s) (sa171_2) (Ra171_2) ?_ fun z2 hs2 => ?_
  ·refine WI_blk (by kernel_rfl) ?_
   refine WI_lenO 7 0 rfl rfl fun hl2 => ?_
   refine WI_foldI (by kernel_rfl) F171_l2 (st171_2 z0) (R171_2 z0) w2 z0 ([] : List Int) hm2 rfl rfl (fun z2 hn2 => ?_) fun n2 a2 z2 w2b hi2 hx2 h hb2 hr2 => ?_
   ·clear hm2
    exact we (bs := [(decide ((cnt 0 z0.length) < (ln z0)), false)]) (φ := fun s' => w2 = .next s') (st' := (sa171_2)) (R' := (Ra171_2)) lv171 26 [false] [] [] 0 [1] z2 hC trivial ⟨(cnt_end hl2), trivial⟩ hn2
   ·unfold F171_l2 at h
    rcases boolC (a2) with h22 | h22
    ·replace h := condT h22 h
     obtain ⟨y23, h24, h⟩ := bindE h
     exact we (bs := [(decide ((cnt 0 n2) < (ln z0)), true), (a2, true)]) (φ := fun s' => w2b = .next s') (st' := (st171_2 z0 (n2 + 1))) (R' := (R171_2 z0 (n2 + 1))) lv171 36 [true, true] [.row (z0.map pB) (cnt 0 n2) (pB a2), .row (z0.map pB) (((Int.toNat (cnt 0 n2)) : Nat) : Int) (pB a2), .app (z2.map pI) ([cnt 0 n2].map pI) 1 (((z2.map pI).length + ([cnt 0 n2].map pI).length) * (8 + 1)) (y23.map pI)] [] 0 [0, 2] y23 hC ⟨row_get (get_cnt hx2 hl2), row_getN (get_cnt hx2 hl2), app_get pI 1 (fun _ => rfl) h24, trivial⟩ ⟨(cnt_lt hi2 hl2), h22, trivial⟩ (sI h).symm
    ·replace h := condF h22 h
     exact we (bs := [(decide ((cnt 0 n2) < (ln z0)), true), (a2, false)]) (φ := fun s' => w2b = .next s') (st' := (st171_2 z0 (n2 + 1))) (R' := (R171_2 z0 (n2 + 1))) lv171 36 [true, false] [.row (z0.map pB) (cnt 0 n2) (pB a2), .row (z0.map pB) (((Int.toNat (cnt 0 n2)) : Nat) : Int) (pB a2)] [] 0 [0, 1] z2 hC ⟨row_get (get_cnt hx2 hl2), row_getN (get_cnt hx2 hl2), trivial⟩ ⟨(cnt_lt hi2 hl2), h22, trivial⟩ (sI h).symm
  ·have h := hnext2 _ hs2
   replace h := sI h
   subst h
   exact wr (bs := []) lv171 23 [] [] [] [.tmp 6] 0 [0] hC trivial trivial
theorem e171 : Enters Tryz.prog 171 := en Tryz.func171
def lv93 : List Nat := [0, 1, 4, 6, 7, 8, 9, 10, 15]
def st93_0 (x0 : List Int) (x1 : Int) (n0 : Nat) (z0 : Unit) : St := [(1, dI x1), (4, dB false), (7, .d (DS pI x0)), (8, dI (ln x0)), (9, dI (cnt 0 n0))]
def R93_0  (n0 : Nat) (z0 : Unit) : List Res := []
def sa93_0  (z0 : Unit) : St := [(4, dB false)]
def Ra93_0  (z0 : Unit) : List Res := []
theorem k93 (x0 : List Int) (x1 : Int) (r : Bool) (h : F93 x0 x1 = some r) : CallOk Tryz.prog 93 [.d (DS pI x0), .d (I x1)] [] (.d (Bo r)) [] := by
 unfold F93 at h
 refine callOk_of 17 Tryz.func93 rfl rfl rfl fun C hC => ?_
 refine ws (bs := []) lv93 26 [] [.len (ln (x0.map pI)) (ln x0)] [] 0 [] (st93_0 x0 x1 0 ()) (R93_0 0 ()) hC ⟨len_map _ _, trivial⟩ trivial ?_
 obtain ⟨w0, hm0, hret0, hnext0⟩ := andThen_inv h
 clear h
 refine WI_cut (by kernel_rfl) (fun s => w0 = .next s) (sa93_0) (Ra93_0) ?_ fun z0 hs0 => ?_
 ·refine WI_blk (by kernel_rfl) ?_
  refine WI_len 7 rfl fun hl0 => ?_
  refine WI_foldI (by kernel_rfl) (F93_l0 x1) (st93_0 x0 x1) (R93_0) w0 x0 () hm0 rfl rfl (fun z0 hn0 => ?_) fun n0 a0 z0 w0b hi0 hx0 h hb0 hr0 => ?_
  ·clear hm0
   exact we (bs := [(decide ((cnt 0 x0.length) < (ln x0)), false)]) (φ := fun s' => w0 = .next s') (st' := (sa93_0)) (R' := (Ra93_0)) lv93 26 [false] [] [] 0 [] () hC trivial ⟨(cnt_end hl0), trivial⟩ hn0
  ·unfold F93_l0 at h
   rcases boolC ((a0 == x1)) with h1 | h1
   ·replace h := condT h1 h
    have hq := hret0 _ (hr0 _ (sI h).symm)
    replace hq := sI hq
    subst hq
    exact wr (bs := [(decide ((cnt 0 n0) < (ln x0)), true), ((a0 == x1), true)]) lv93 35 [true, true] [.row (x0.map pI) (cnt 0 n0) (pI a0)] [] [.tmp 4] 0 [] hC ⟨(row_cnt hx0 hl0), trivial⟩ ⟨(cnt_lt hi0 hl0), h1, trivial⟩
   ·replace h := condF h1 h
    exact we (bs := [(decide ((cnt 0 n0) < (ln x0)), true), ((a0 == x1), false)]) (φ := fun s' => w0b = .next s') (st' := (st93_0 x0 x1 (n0 + 1))) (R' := (R93_0 (n0 + 1))) lv93 36 [true, false] [.row (x0.map pI) (cnt 0 n0) (pI a0)] [] 0 [] () hC ⟨(row_cnt hx0 hl0), trivial⟩ ⟨(cnt_lt hi0 hl0), h1, trivial⟩ (sI h).symm
 ·have h := hnext0 _ hs0
  replace h := sI h
  subst h
  exact wr (bs := []) lv93 23 [] [] [] [.tmp 4] 0 [] hC trivial trivial
theorem e93 : Enters Tryz.prog 93 := en Tryz.func93
theorem k132 (x0 : Int) (x1 : Int) (x2 : Int) (r : Bool) (h : F132 x0 x1 x2 = r) : CallOk Tryz.prog 132 [.d (I x0), .d (I x1), .d (I x2)] [] (.d (Bo r)) [] := by
 unfold F132 at h
 refine callOk_of 15 Tryz.func132 rfl rfl rfl fun C hC => ?_
 subst h
 exact wr (bs := []) [0, 1, 2, 6] 25 [] [] [] [.tmp 6] 0 [] hC trivial trivial
theorem e132 : Enters Tryz.prog 132 := en Tryz.func132
def lv177 : List Nat := [0, 1, 4, 5, 7, 8, 9, 16]
def st177_0 (x0 : List Int) (x1 : Int) (n0 : Nat) (z0 : Unit) : St := [(0, .d (DS pI x0)), (1, dI x1), (4, dI 0), (7, dI (ln x0)), (8, dI (cnt 0 n0))]
def R177_0  (n0 : Nat) (z0 : Unit) : List Res := []
def sa177_0  (z0 : Unit) : St := [(4, dI 0)]
def Ra177_0  (z0 : Unit) : List Res := []
theorem k177 (x0 : List Int) (x1 : Int) (r : Int) (h : F177 x0 x1 = some r) : CallOk Tryz.prog 177 [.d (DS pI x0), .d (I x1)] [] (.d (I r)) [] := by
 unfold F177 at h
 refine callOk_of 19 Tryz.func177 rfl rfl rfl fun C hC => ?_
 refine ws (bs := []) lv177 26 [] [.len (ln (x0.map pI)) (ln x0)] [] 0 [] (st177_0 x0 x1 0 ()) (R177_0 0 ()) hC ⟨len_map _ _, trivial⟩ trivial ?_
 obtain ⟨w0, hm0, hret0, hnext0⟩ := andThen_inv h
 clear h
 refine WI_cut (by kernel_rfl) (fun s => w0 = .next s) (sa177_0) (Ra177_0) ?_ fun z0 hs0 => ?_
 ·refine WI_blk (by kernel_rfl) ?_
  refine WI_len 0 rfl fun hl0 => ?_
  refine WI_foldI (by kernel_rfl) (F177_l0 x1) (st177_0 x0 x1) (R177_0) w0 x0 () hm0 rfl rfl (fun z0 hn0 => ?_) fun n0 a0 z0 w0b hi0 hx0 h hb0 hr0 => ?_
  ·clear hm0
   exact we (bs := [(decide ((cnt 0 x0.length) < (ln x0)), false)]) (φ := fun s' => w0 = .next s') (st' := (sa177_0)) (R' := (Ra177_0)) lv177 26 [false] [] [] 0 [] () hC trivial ⟨(cnt_end hl0), trivial⟩ hn0
  ·unfold F177_l0 at h
   rcases boolC ((x1 == a0)) with h1 | h1
   ·replace h := condT h1 h
    have hq := hret0 _ (hr0 _ (sI h).symm)
    replace hq := sI hq
    subst hq
    exact wr (bs := [(decide ((cnt 0 n0) < (ln x0)), true), ((x1 == a0), true)]) lv177 35 [true, true] [.row (x0.map pI) (cnt 0 n0) (pI a0)] [] [.tmp 4] 0 [] hC ⟨(row_cnt hx0 hl0), trivial⟩ ⟨(cnt_lt hi0 hl0), h1, trivial⟩
   ·replace h := condF h1 h
    exact we (bs := [(decide ((cnt 0 n0) < (ln x0)), true), ((x1 == a0), false)]) (φ := fun s' => w0b = .next s') (st' := (st177_0 x0 x1 (n0 + 1))) (R' := (R177_0 (n0 + 1))) lv177 36 [true, false] [.row (x0.map pI) (cnt 0 n0) (pI a0)] [] 0 [] () hC ⟨(row_cnt hx0 hl0), trivial⟩ ⟨(cnt_lt hi0 hl0), h1, trivial⟩ (sI h).symm
 ·have h := hnext0 _ hs0
  replace h := sI h
  subst h
  exact wr (bs := []) lv177 23 [] [] [] [.tmp 4] 0 [] hC trivial trivial
theorem e177 : Enters Tryz.prog 177 := en Tryz.func177
theorem k233 (x0 : List Int) (r : Bool) (h : F233 x0 = r) : CallOk Tryz.prog 233 [.d (DS pI x0)] [] (.d (Bo r)) [] := by
 unfold F233 at h
 refine callOk_of 6 Tryz.func233 rfl rfl rfl fun C hC => ?_
 subst h
 exact wr (bs := []) [0, 2] 25 [] [.len (ln (x0.map pI)) (ln x0)] [] [.tmp 2] 0 [] hC ⟨len_map _ _, trivial⟩ trivial
theorem e233 : Enters Tryz.prog 233 := en Tryz.func233
def lv208 : List Nat := [0, 1, 2, 4, 5, 6, 11, 16, 20]
theorem k208 (x0 : api_Board) (x1 : Int) (r : Int) (h : F208 x0 x1 = r) : CallOk Tryz.prog 208 [.agg (d29 x0), .d (I x1)] [] (.d (I r)) [] := by
 unfold F208 at h
 refine callOk_of 25 Tryz.func208 rfl rfl rfl fun C hC => ?_
 rcases boolC ((x1 == 1)) with h1 | h1
 ·replace h := condT h1 h
  subst h
  exact wr (bs := [((x1 == 1), true)]) lv208 32 [true] [.len (ln (x0.Sources.map q57)) (ln x0.Sources)] [] [.tmp 4] 0 [] hC ⟨len_map _ _, trivial⟩ ⟨h1, trivial⟩
 ·replace h := condF h1 h
  rcases boolC ((x1 == 2)) with h2 | h2
  ·replace h := condT h2 h
   subst h
   exact wr (bs := [((x1 == 1), false), ((x1 == 2), true)]) lv208 35 [false, true] [.len (ln (x0.Breakers.map q66)) (ln x0.Breakers)] [] [.tmp 4] 0 [] hC ⟨len_map _ _, trivial⟩ ⟨h1, h2, trivial⟩
  ·replace h := condF h2 h
   rcases boolC ((x1 == 3)) with h3 | h3
   ·replace h := condT h3 h
    subst h
    exact wr (bs := [((x1 == 1), false), ((x1 == 2), false), ((x1 == 3), true)]) lv208 38 [false, false, true] [] [] [.tmp 4] 0 [] hC trivial ⟨h1, h2, h3, trivial⟩
   ·replace h := condF h3 h
    rcases boolC ((x1 == 4)) with h4 | h4
    ·replace h := condT h4 h
     subst h
     exact wr (bs := [((x1 == 1), false), ((x1 == 2), false), ((x1 == 3), false), ((x1 == 4), true)]) lv208 41 [false, false, false, true] [.len (ln (x0.Consumers.map q108)) (ln x0.Consumers)] [] [.tmp 4] 0 [] hC ⟨len_map _ _, trivial⟩ ⟨h1, h2, h3, h4, trivial⟩
    ·replace h := condF h4 h
     subst h
     exact wr (bs := [((x1 == 1), false), ((x1 == 2), false), ((x1 == 3), false), ((x1 == 4), false)]) lv208 43 [false, false, false, false] [] [] [.tmp 4] 0 [] hC trivial ⟨h1, h2, h3, h4, trivial⟩
theorem e208 : Enters Tryz.prog 208 := en Tryz.func208
theorem k248 (x0 : Int) (r : Bool) (h : F248 x0 = r) : CallOk Tryz.prog 248 [.d (I x0)] [] (.d (Bo r)) [] := by
 unfold F248 at h
 refine callOk_of 6 Tryz.func248 rfl rfl rfl fun C hC => ?_
 subst h
 exact wr (bs := []) [0, 2] 25 [] [] [] [.tmp 2] 0 [] hC trivial trivial
theorem e248 : Enters Tryz.prog 248 := en Tryz.func248
def lv209 : List Nat := [0, 2, 3, 5, 6, 7, 8, 9, 14]
def st209_0 (x0 : List Int) (n0 : Nat) (z0 : Unit) : St := [(2, dI 0), (3, dI 0), (6, .d (DS pI x0)), (7, dI (ln x0)), (8, dI (cnt 0 n0))]
def R209_0  (n0 : Nat) (z0 : Unit) : List Res := []
def sa209_0  (z0 : Unit) : St := [(2, dI 0), (3, dI 0)]
def Ra209_0  (z0 : Unit) : List Res := []
theorem k209 (x0 : List Int) (r : Int) (h : F209 x0 = some r) : CallOk Tryz.prog 209 [.d (DS pI x0)] [] (.d (I r)) [] := by
 unfold F209 at h
 refine callOk_of 18 Tryz.func209 rfl rfl rfl fun C hC => ?_
 refine ws (bs := []) lv209 28 [] [.len (ln (x0.map pI)) (ln x0)] [] 0 [] (st209_0 x0 0 ()) (R209_0 0 ()) hC ⟨len_map _ _, trivial⟩ trivial ?_
 obtain ⟨w0, hm0, hret0, hnext0⟩ := andThen_inv h
 clear h
 refine WI_cut (by kernel_rfl) (fun s => w0 = .next s) (sa209_0) (Ra209_0) ?_ fun z0 hs0 => ?_
 ·refine WI_blk (by kernel_rfl) ?_
  refine WI_len 6 rfl fun hl0 => ?_
  refine WI_foldI (by kernel_rfl) F209_l0 (st209_0 x0) (R209_0) w0 x0 () hm0 rfl rfl (fun z0 hn0 => ?_) fun n0 a0 z0 w0b hi0 hx0 h hb0 hr0 => ?_
  ·clear hm0
   exact we (bs := [(decide ((cnt 0 x0.length) < (ln x0)), false)]) (φ := fun s' => w0 = .next s') (st' := (sa209_0)) (R' := (Ra209_0)) lv209 26 [false] [] [] 0 [] () hC trivial ⟨(cnt_end hl0), trivial⟩ hn0
  ·unfold F209_l0 at h
   rcases boolC ((a0 != 0)) with h1 | h1
   ·replace h := condT h1 h
    have hq := hret0 _ (hr0 _ (sI h).symm)
    replace hq := sI hq
    subst hq
    exact wr (bs := [(decide ((cnt 0 n0) < (ln x0)), true), ((a0 != 0), true)]) lv209 35 [true, true] [.row (x0.map pI) (cnt 0 n0) (pI a0)] [] [.tmp 2] 0 [] hC ⟨(row_cnt hx0 hl0), trivial⟩ ⟨(cnt_lt hi0 hl0), h1, trivial⟩
   ·replace h := condF h1 h
    exact we (bs := [(decide ((cnt 0 n0) < (ln x0)), true), ((a0 != 0), false)]) (φ := fun s' => w0b = .next s') (st' := (st209_0 x0 (n0 + 1))) (R' := (R209_0 (n0 + 1))) lv209 36 [true, false] [.row (x0.map pI) (cnt 0 n0) (pI a0)] [] 0 [] () hC ⟨(row_cnt hx0 hl0), trivial⟩ ⟨(cnt_lt hi0 hl0), h1, trivial⟩ (sI h).symm
 ·have h := hnext0 _ hs0
  replace h := sI h
  subst h
  exact wr (bs := []) lv209 23 [] [] [] [.tmp 2] 0 [] hC trivial trivial
theorem e209 : Enters Tryz.prog 209 := en Tryz.func209
def lv133 : List Nat := [0, 1, 2, 3, 4, 6, 7, 8, 9, 11, 12, 13, 14, 33]
def st133_0 (x0 : api_Board) (x2 : Int) (n0 : Nat) (z0 : Int) : St := [(2, dI x2), (4, dO 0 0), (6, dI 0), (7, dI z0), (11, .d (DS q66 x0.Breakers)), (12, dI (ln x0.Breakers)), (13, dI (cnt 0 n0))]
def R133_0 (x1 : api_Power) (n0 : Nat) (z0 : Int) : List Res := [.box 35 (d35 x1)]
def sa133_0  (z0 : Int) : St := [(6, dI 0), (7, dI z0)]
def Ra133_0  (z0 : Int) : List Res := []
theorem k133 (x0 : api_Board) (x1 : api_Power) (x2 : Int) (r : Int) (h : F133 x0 x1 x2 = some r) : CallOk Tryz.prog 133 [.agg (d29 x0), .agg (d35 x1), .d (I x2)] [] (.d (I r)) [] := by
 unfold F133 at h
 refine callOk_of 38 Tryz.func133 rfl rfl rfl fun C hC => ?_
 refine ws (bs := []) lv133 28 [] [.len (ln (x0.Breakers.map q66)) (ln x0.Breakers)] [] 0 [1] (st133_0 x0 x2 0 0) (R133_0 x1 0 0) hC ⟨len_map _ _, trivial⟩ trivial ?_
 obtain ⟨w0, hm0, hret0, hnext0⟩ := andThen_inv h
 clear h
 refine WI_cut (by kernel_rfl) (fun s => w0 = .next s) (sa133_0) (Ra133_0) ?_ fun z0 hs0 => ?_
 ·refine WI_blk (by kernel_rfl) ?_
  refine WI_len 11 rfl fun hl0 => ?_
  refine WI_foldI (by kernel_rfl) (F133_l0 x1 x2) (st133_0 x0 x2) (R133_0 x1) w0 x0.Breakers 0 hm0 rfl rfl (fun z0 hn0 => ?_) fun n0 a0 z0 w0b hi0 hx0 h hb0 hr0 => ?_
  ·clear hm0
   exact we (bs := [(decide ((cnt 0 x0.Breakers.length) < (ln x0.Breakers)), false)]) (φ := fun s' => w0 = .next s') (st' := (sa133_0)) (R' := (Ra133_0)) lv133 26 [false] [] [] 0 [] z0 hC trivial ⟨(cnt_end hl0), trivial⟩ hn0
  ·unfold F133_l0 at h
   obtain ⟨y1, h2, h⟩ := bindE h
   rcases boolC ((c133_2 x2 a0 y1)) with h3 | h3
   ·replace h := condT h3 h
    exact we (bs := [(decide ((cnt 0 n0) < (ln x0.Breakers)), true), ((c133_2 x2 a0 y1), true)]) (φ := fun s' => w0b = .next s') (st' := (st133_0 x0 x2 (n0 + 1))) (R' := (R133_0 x1 (n0 + 1))) lv133 36 [true, true] [.row (x0.Breakers.map q66) (cnt 0 n0) (q66 a0), .when [(((a0.Kind == 3) && (a0.B == x2)), true)] (.row (x1.Closed.map pB) (cnt 0 n0) (pB y1))] [] 0 [0] (w64 (z0 + 1)) hC ⟨(row_cnt hx0 hl0), fun hg => row_get (guardO_get h2 hg), trivial⟩ ⟨(cnt_lt hi0 hl0), h3, trivial⟩ (sI h).symm
   ·replace h := condF h3 h
    exact we (bs := [(decide ((cnt 0 n0) < (ln x0.Breakers)), true), ((c133_2 x2 a0 y1), false)]) (φ := fun s' => w0b = .next s') (st' := (st133_0 x0 x2 (n0 + 1))) (R' := (R133_0 x1 (n0 + 1))) lv133 36 [true, false] [.row (x0.Breakers.map q66) (cnt 0 n0) (q66 a0), .when [(((a0.Kind == 3) && (a0.B == x2)), true)] (.row (x1.Closed.map pB) (cnt 0 n0) (pB y1))] [] 0 [0] z0 hC ⟨(row_cnt hx0 hl0), fun hg => row_get (guardO_get h2 hg), trivial⟩ ⟨(cnt_lt hi0 hl0), h3, trivial⟩ (sI h).symm
 ·have h := hnext0 _ hs0
  replace h := sI h
  subst h
  exact wr (bs := []) lv133 23 [] [] [] [.tmp 6] 0 [] hC trivial trivial
theorem e133 : Enters Tryz.prog 133 := en Tryz.func133
theorem k138 (x0 : List Bool) (r : List Bool) (h : F138 x0 = some r) : CallOk Tryz.prog 138 [.d (.p (.s (x0.map pB)))] [] (.d (.os 0)) [.sl 4 1 (r.map pB)] := by
 unfold F138 at h
 refine callOk_of 8 Tryz.func138 rfl rfl rfl fun C hC => ?_
 refine ws (bs := []) [0, 4] 40 [] [] [] 0 [] [(0, .d (.p (.s (x0.map pB)))), (4, .d (.nq (x0.map pB)))] [] hC trivial trivial ?_
 refine WI_nq 4 (by kernel_rfl) (by kernel_rfl) rfl (fun hn => ?_) ?_
 ·have hx : x0 = [] := by cases x0 with | nil => rfl | cons => cases hn
  subst hx
  have hr : r = [] := by simpa [appI] using h.symm
  subst hr
  exact wr (bs := []) [2] 40 [] [] [.own 2 4 1] [.tmp 2] 0 [0] hC trivial trivial
 ·exact wr (bs := []) [2] 40 [] [.own, (.app [] (x0.map pB) 1 ((([] : List (List Pd)).length + (x0.map pB).length) * (1 + 1)) (r.map pB))] [] [.tmp 2] 0 [1] hC ⟨trivial, app_get (l := []) pB 1 (fun _ => rfl) h, trivial⟩ trivial
theorem e138 : Enters Tryz.prog 138 := en Tryz.func138
theorem k139 (x0 : List api_Running) (r : List api_Running) (h : F139 x0 = some r) : CallOk Tryz.prog 139 [.d (.p (.s (x0.map q59)))] [] (.d (.os 0)) [.sl 59 4 (r.map q59)] := by
 unfold F139 at h
 refine callOk_of 8 Tryz.func139 rfl rfl rfl fun C hC => ?_
 refine ws (bs := []) [0, 4] 40 [] [] [] 0 [] [(0, .d (.p (.s (x0.map q59)))), (4, .d (.nq (x0.map q59)))] [] hC trivial trivial ?_
 refine WI_nq 4 (by kernel_rfl) (by kernel_rfl) rfl (fun hn => ?_) ?_
 ·have hx : x0 = [] := by cases x0 with | nil => rfl | cons => cases hn
  subst hx
  have hr : r = [] := by simpa [appI] using h.symm
  subst hr
  exact wr (bs := []) [2] 40 [] [] [.own 2 59 4] [.tmp 2] 0 [0] hC trivial trivial
 ·exact wr (bs := []) [2] 40 [] [.own, (.app [] (x0.map q59) 4 ((([] : List (List Pd)).length + (x0.map q59).length) * (32 + 1)) (r.map q59))] [] [.tmp 2] 0 [1] hC ⟨trivial, app_get (l := []) q59 4 (fun _ => rfl) h, trivial⟩ trivial
theorem e139 : Enters Tryz.prog 139 := en Tryz.func139
theorem k140 (x0 : List Int) (r : List Int) (h : F140 x0 = some r) : CallOk Tryz.prog 140 [.d (.p (.s (x0.map pI)))] [] (.d (.os 0)) [.sl 3 1 (r.map pI)] := by
 unfold F140 at h
 refine callOk_of 8 Tryz.func140 rfl rfl rfl fun C hC => ?_
 refine ws (bs := []) [0, 4] 40 [] [] [] 0 [] [(0, .d (.p (.s (x0.map pI)))), (4, .d (.nq (x0.map pI)))] [] hC trivial trivial ?_
 refine WI_nq 4 (by kernel_rfl) (by kernel_rfl) rfl (fun hn => ?_) ?_
 ·have hx : x0 = [] := by cases x0 with | nil => rfl | cons => cases hn
  subst hx
  have hr : r = [] := by simpa [appI] using h.symm
  subst hr
  exact wr (bs := []) [2] 40 [] [] [.own 2 3 1] [.tmp 2] 0 [0] hC trivial trivial
 ·exact wr (bs := []) [2] 40 [] [.own, (.app [] (x0.map pI) 1 ((([] : List (List Pd)).length + (x0.map pI).length) * (8 + 1)) (r.map pI))] [] [.tmp 2] 0 [1] hC ⟨trivial, app_get (l := []) pI 1 (fun _ => rfl) h, trivial⟩ trivial
theorem e140 : Enters Tryz.prog 140 := en Tryz.func140
theorem k141 (x0 : List api_Part) (r : List api_Part) (h : F141 x0 = some r) : CallOk Tryz.prog 141 [.d (.p (.s (x0.map q119)))] [] (.d (.os 0)) [.sl 119 2 (r.map q119)] := by
 unfold F141 at h
 refine callOk_of 8 Tryz.func141 rfl rfl rfl fun C hC => ?_
 refine ws (bs := []) [0, 4] 40 [] [] [] 0 [] [(0, .d (.p (.s (x0.map q119)))), (4, .d (.nq (x0.map q119)))] [] hC trivial trivial ?_
 refine WI_nq 4 (by kernel_rfl) (by kernel_rfl) rfl (fun hn => ?_) ?_
 ·have hx : x0 = [] := by cases x0 with | nil => rfl | cons => cases hn
  subst hx
  have hr : r = [] := by simpa [appI] using h.symm
  subst hr
  exact wr (bs := []) [2] 40 [] [] [.own 2 119 2] [.tmp 2] 0 [0] hC trivial trivial
 ·exact wr (bs := []) [2] 40 [] [.own, (.app [] (x0.map q119) 2 ((([] : List (List Pd)).length + (x0.map q119).length) * (16 + 1)) (r.map q119))] [] [.tmp 2] 0 [1] hC ⟨trivial, app_get (l := []) q119 2 (fun _ => rfl) h, trivial⟩ trivial
theorem e141 : Enters Tryz.prog 141 := en Tryz.func141
def lv137 : List Nat := [0, 1, 2, 3, 6, 7, 8, 9, 14, 19, 23]
theorem k137 (x0 : api_Board) (x1 : Int) (x2 : Int) (r : Bool) (h : F137 x0 x1 x2 = r) : CallOk Tryz.prog 137 [.agg (d29 x0), .d (I x1), .d (I x2)] [] (.d (Bo r)) [] := by
 unfold F137 at h
 refine callOk_of 35 Tryz.func137 rfl rfl rfl fun C hC => ?_
 rcases boolC ((x1 == 1)) with h1 | h1
 ·replace h := condT h1 h
  subst h
  exact wr (bs := [((x1 == 1), true)]) lv137 36 [true] [.len (ln (x0.Sources.map q57)) (ln x0.Sources)] [] [.tmp 6] 0 [] hC ⟨len_map _ _, trivial⟩ ⟨h1, trivial⟩
 ·replace h := condF h1 h
  rcases boolC ((x1 == 2)) with h2 | h2
  ·replace h := condT h2 h
   subst h
   exact wr (bs := [((x1 == 1), false), ((x1 == 2), true)]) lv137 39 [false, true] [.len (ln (x0.Breakers.map q66)) (ln x0.Breakers)] [] [.tmp 6] 0 [] hC ⟨len_map _ _, trivial⟩ ⟨h1, h2, trivial⟩
  ·replace h := condF h2 h
   rcases boolC ((x1 == 3)) with h3 | h3
   ·replace h := condT h3 h
    subst h
    exact wr (bs := [((x1 == 1), false), ((x1 == 2), false), ((x1 == 3), true)]) lv137 42 [false, false, true] [] [] [.tmp 6] 0 [] hC trivial ⟨h1, h2, h3, trivial⟩
   ·replace h := condF h3 h
    rcases boolC ((x1 == 4)) with h4 | h4
    ·replace h := condT h4 h
     subst h
     exact wr (bs := [((x1 == 1), false), ((x1 == 2), false), ((x1 == 3), false), ((x1 == 4), true)]) lv137 45 [false, false, false, true] [.len (ln (x0.Consumers.map q108)) (ln x0.Consumers)] [] [.tmp 6] 0 [] hC ⟨len_map _ _, trivial⟩ ⟨h1, h2, h3, h4, trivial⟩
    ·replace h := condF h4 h
     subst h
     exact wr (bs := [((x1 == 1), false), ((x1 == 2), false), ((x1 == 3), false), ((x1 == 4), false)]) lv137 45 [false, false, false, false] [] [] [.tmp 6] 0 [] hC trivial ⟨h1, h2, h3, h4, trivial⟩
theorem e137 : Enters Tryz.prog 137 := en Tryz.func137
def lv249 : List Nat := [0, 1, 3, 4, 5, 7, 8, 9, 16]
def st249_0 (x0 : List api_Part) (n0 : Nat) (z0 : Unit) : St := [(0, .d (DS q119 x0)), (3, dO 0 0), (4, dI 0), (7, dI (ln x0)), (8, dI (cnt 0 n0))]
def R249_0 (x1 : api_Part) (n0 : Nat) (z0 : Unit) : List Res := [.box 119 (d119 x1)]
def sa249_0  (z0 : Unit) : St := [(4, dI 0)]
def Ra249_0  (z0 : Unit) : List Res := []
theorem k249 (x0 : List api_Part) (x1 : api_Part) (r : Int) (h : F249 x0 x1 = some r) : CallOk Tryz.prog 249 [.d (DS q119 x0), .agg (d119 x1)] [] (.d (I r)) [] := by
 unfold F249 at h
 refine callOk_of 19 Tryz.func249 rfl rfl rfl fun C hC => ?_
 refine ws (bs := []) lv249 26 [] [.len (ln (x0.map q119)) (ln x0)] [] 0 [0] (st249_0 x0 0 ()) (R249_0 x1 0 ()) hC ⟨len_map _ _, trivial⟩ trivial ?_
 obtain ⟨w0, hm0, hret0, hnext0⟩ := andThen_inv h
 clear h
 refine WI_cut (by kernel_rfl) (fun s => w0 = .next s) (sa249_0) (Ra249_0) ?_ fun z0 hs0 => ?_
 ·refine WI_blk (by kernel_rfl) ?_
  refine WI_len 0 rfl fun hl0 => ?_
  refine WI_foldI (by kernel_rfl) (F249_l0 x1) (st249_0 x0) (R249_0 x1) w0 x0 () hm0 rfl rfl (fun z0 hn0 => ?_) fun n0 a0 z0 w0b hi0 hx0 h hb0 hr0 => ?_
  ·clear hm0
   exact we (bs := [(decide ((cnt 0 x0.length) < (ln x0)), false)]) (φ := fun s' => w0 = .next s') (st' := (sa249_0)) (R' := (Ra249_0)) lv249 26 [false] [] [] 0 [] () hC trivial ⟨(cnt_end hl0), trivial⟩ hn0
  ·unfold F249_l0 at h
   rcases boolC ((c249_1 x1 a0)) with h1 | h1
   ·replace h := condT h1 h
    have hq := hret0 _ (hr0 _ (sI h).symm)
    replace hq := sI hq
    subst hq
    exact wr (bs := [(decide ((cnt 0 n0) < (ln x0)), true), ((c249_1 x1 a0), true)]) lv249 35 [true, true] [.row (x0.map q119) (cnt 0 n0) (q119 a0)] [] [.tmp 4] 0 [] hC ⟨(row_cnt hx0 hl0), trivial⟩ ⟨(cnt_lt hi0 hl0), h1, trivial⟩
   ·replace h := condF h1 h
    exact we (bs := [(decide ((cnt 0 n0) < (ln x0)), true), ((c249_1 x1 a0), false)]) (φ := fun s' => w0b = .next s') (st' := (st249_0 x0 (n0 + 1))) (R' := (R249_0 x1 (n0 + 1))) lv249 36 [true, false] [.row (x0.map q119) (cnt 0 n0) (q119 a0)] [] 0 [0] () hC ⟨(row_cnt hx0 hl0), trivial⟩ ⟨(cnt_lt hi0 hl0), h1, trivial⟩ (sI h).symm
 ·have h := hnext0 _ hs0
  replace h := sI h
  subst h
  exact wr (bs := []) lv249 23 [] [] [] [.tmp 4] 0 [] hC trivial trivial
theorem e249 : Enters Tryz.prog 249 := en Tryz.func249
def lv237 : List Nat := [0, 1, 2, 3, 4, 5, 8, 9, 10, 11, 13, 14, 15, 16, 36]
def st237_0 (x0 : api_Board) (x2 : Int) (x3 : Int) (n0 : Nat) (z0 : Unit) : St := [(2, dI x2), (3, dI x3), (5, dO 0 0), (8, dI 0), (9, dB false), (13, .d (DS q66 x0.Breakers)), (14, dI (ln x0.Breakers)), (15, dI (cnt 0 n0))]
def R237_0 (x1 : api_Power) (n0 : Nat) (z0 : Unit) : List Res := [.box 35 (d35 x1)]
def sa237_0  (z0 : Unit) : St := [(8, dI 0), (9, dB false)]
def Ra237_0  (z0 : Unit) : List Res := []
theorem k237 (x0 : api_Board) (x1 : api_Power) (x2 : Int) (x3 : Int) (r : Int × Bool) (h : F237 x0 x1 x2 x3 = some r) : CallOk Tryz.prog 237 [.agg (d29 x0), .agg (d35 x1), .d (I x2), .d (I x3)] [] (.tup [.d (I r.1), .d (Bo r.2)]) [] := by
 unfold F237 at h
 refine callOk_of 40 Tryz.func237 rfl rfl rfl fun C hC => ?_
 refine ws (bs := []) lv237 26 [] [.len (ln (x0.Breakers.map q66)) (ln x0.Breakers)] [] 0 [1] (st237_0 x0 x2 x3 0 ()) (R237_0 x1 0 ()) hC ⟨len_map _ _, trivial⟩ trivial ?_
 obtain ⟨w0, hm0, hret0, hnext0⟩ := andThen_inv h
 clear h
 refine WI_cut (by kernel_rfl) (fun s => w0 = .next s) (sa237_0) (Ra237_0) ?_ fun z0 hs0 => ?_
 ·refine WI_blk (by kernel_rfl) ?_
  refine WI_len 13 rfl fun hl0 => ?_
  refine WI_foldI (by kernel_rfl) (F237_l0 x1 x2 x3) (st237_0 x0 x2 x3) (R237_0 x1) w0 x0.Breakers () hm0 rfl rfl (fun z0 hn0 => ?_) fun n0 a0 z0 w0b hi0 hx0 h hb0 hr0 => ?_
  ·clear hm0
   exact we (bs := [(decide ((cnt 0 x0.Breakers.length) < (ln x0.Breakers)), false)]) (φ := fun s' => w0 = .next s') (st' := (sa237_0)) (R' := (Ra237_0)) lv237 26 [false] [] [] 0 [] () hC trivial ⟨(cnt_end hl0), trivial⟩ hn0
  ·unfold F237_l0 at h
   obtain ⟨y1, h2, h⟩ := bindE h
   rcases boolC ((c237_1 x2 x3 a0 y1)) with h3 | h3
   ·replace h := condT h3 h
    have hq := hret0 _ (hr0 _ (sI h).symm)
    replace hq := sI hq
    subst hq
    exact wr (bs := [(decide ((cnt 0 n0) < (ln x0.Breakers)), true), ((c237_1 x2 x3 a0 y1), true)]) lv237 35 [true, true] [.row (x0.Breakers.map q66) (cnt 0 n0) (q66 a0), .when [(((a0.Kind == x2) && (a0.B == x3)), true)] (.row (x1.Closed.map pB) (cnt 0 n0) (pB y1))] [] [.tmp 8, .tmp 9] 0 [] hC ⟨(row_cnt hx0 hl0), fun hg => row_get (guardO_get h2 hg), trivial⟩ ⟨(cnt_lt hi0 hl0), h3, trivial⟩
   ·replace h := condF h3 h
    exact we (bs := [(decide ((cnt 0 n0) < (ln x0.Breakers)), true), ((c237_1 x2 x3 a0 y1), false)]) (φ := fun s' => w0b = .next s') (st' := (st237_0 x0 x2 x3 (n0 + 1))) (R' := (R237_0 x1 (n0 + 1))) lv237 36 [true, false] [.row (x0.Breakers.map q66) (cnt 0 n0) (q66 a0), .when [(((a0.Kind == x2) && (a0.B == x3)), true)] (.row (x1.Closed.map pB) (cnt 0 n0) (pB y1))] [] 0 [0] () hC ⟨(row_cnt hx0 hl0), fun hg => row_get (guardO_get h2 hg), trivial⟩ ⟨(cnt_lt hi0 hl0), h3, trivial⟩ (sI h).symm
 ·have h := hnext0 _ hs0
  replace h := sI h
  subst h
  exact wr (bs := []) lv237 23 [] [] [] [.tmp 8, .tmp 9] 0 [] hC trivial trivial
theorem e237 : Enters Tryz.prog 237 := en Tryz.func237
def lv186 : List Nat := [0, 1, 2, 3, 4, 5, 6, 7, 8, 9, 14, 15, 16, 24, 25, 26, 28, 29, 30, 31, 44]
def st186_0 (y1 : List Int) (n0 : Nat) (z0 : (List Int)) : St := [(2, dO 0 0), (3, dO 1 0), (4, .d (DS pI [])), (5, dS 2), (14, dI (ln y1)), (15, dI (cnt 0 n0))]
def R186_0 (x0 : api_Board) (x1 : api_Power) (n0 : Nat) (z0 : (List Int)) : List Res := [.box 29 (d29 x0), .box 35 (d35 x1), .sl 3 1 (z0.map pI)]
def sa186_0  (z0 : (List Int)) : St := [(2, dO 0 0), (3, dO 1 0), (4, .d (DS pI [])), (5, dS 2)]
def Ra186_0 (x0 : api_Board) (x1 : api_Power) (z0 : (List Int)) : List Res := [.box 29 (d29 x0), .box 35 (d35 x1), .sl 3 1 (z0.map pI)]
def st186_1 (z0 : (List Int)) (n1 : Nat) (z1 : (List Int)) : St := [(2, dO 0 0), (3, dO 1 0), (4, .d (DS pI [])), (5, dS 2), (24, dI (ln z0)), (25, dI (cnt 0 n1))]
def R186_1 (x0 : api_Board) (x1 : api_Power) (n1 : Nat) (z1 : (List Int)) : List Res := [.box 29 (d29 x0), .box 35 (d35 x1), .sl 3 1 (z1.map pI)]
def sa186_1  (z1 : (List Int)) : St := [(4, .d (DS pI [])), (5, dS 0)]
def Ra186_1  (z1 : (List Int)) : List Res := [.sl 3 1 (z1.map pI)]
def st186_2 (x0 : api_Board) (z0 : (List Int)) (n1 : Nat) (n2 : Nat) (z2 : (List Int)) : St := [(2, dO 0 0), (3, dO 1 0), (4, .d (DS pI [])), (5, dS 2), (24, dI (ln z0)), (25, dI (cnt 0 n1)), (28, .d (DS q66 x0.Breakers)), (29, dI (ln x0.Breakers)), (30, dI (cnt 0 n2))]
def R186_2 (x0 : api_Board) (x1 : api_Power) (n2 : Nat) (z2 : (List Int)) : List Res := [.box 29 (d29 x0), .box 35 (d35 x1), .sl 3 1 (z2.map pI)]
def sa186_2 (z0 : (List Int)) (n1 : Nat) (z2 : (List Int)) : St := [(2, dO 0 0), (3, dO 1 0), (4, .d (DS pI [])), (5, dS 2), (24, dI (ln z0)), (25, dI (cnt 0 n1))]
def Ra186_2 (x0 : api_Board) (x1 : api_Power) (z2 : (List Int)) : List Res := [.box 29 (d29 x0), .box 35 (d35 x1), .sl 3 1 (z2.map pI)]
theorem k186 (x0 : api_Board) (x1 : api_Power) (r : (List Int)) (h : F186 x0 x1 = some r) : CallOk Tryz.prog 186 [.agg (d29 x0), .agg (d35 x1)] [] (.d (.os 0)) [.sl 3 1 (r.map pI)] := by
 unfold F186 at h
 refine callOk_of 69 Tryz.func186 rfl rfl rfl fun C hC => ?_
 obtain ⟨y1, h2, h⟩ := bindE h
 refine ws (bs := []) lv186 28 [] [.room (x0.Buses * (8 + 1)) (List.replicate (Int.toNat x0.Buses) (pI 0)) (y1.map pI), .len (ln (y1.map pI)) (ln y1)] [] 0 n3_ (st186_0 y1 0 y1) (R186_0 x0 x1 0 y1) hC ⟨make_get h2, len_map _ _, trivial⟩ trivial ?_
 obtain ⟨w0, hm0, hret0, hnext0⟩ := andThen_inv h
 clear h
 refine WI_cut (by kernel_rfl) (fun s => w0 = .next s) (sa186_0) (Ra186_0 x0 x1) ?_ fun z0 hs0 => ?_
 ·refine WI_blk (by kernel_rfl) ?_
  refine WI_lenO 5 2 rfl rfl fun hl0 => ?_
  refine WI_foldI (by kernel_rfl) F186_l0 (st186_0 y1) (R186_0 x0 x1) w0 y1 y1 hm0 rfl rfl (fun z0 hn0 => ?_) fun n0 a0 z0 w0b hi0 hx0 h hb0 hr0 => ?_
  ·clear hm0
   exact we (bs := [(decide ((cnt 0 y1.length) < (ln y1)), false)]) (φ := fun s' => w0 = .next s') (st' := (sa186_0)) (R' := (Ra186_0 x0 x1)) lv186 26 [false] [] [] 0 n3_ z0 hC trivial ⟨(cnt_end hl0), trivial⟩ hn0
  ·unfold F186_l0 at h
   obtain ⟨y3, h4, h⟩ := bindE h
   obtain ⟨y5, h6, h⟩ := bindE h
   exact we (bs := [(decide ((cnt 0 n0) < (ln y1)), true)]) (φ := fun s' => w0b = .next s') (st' := (st186_0 y1 (n0 + 1))) (R' := (R186_0 x0 x1 (n0 + 1))) lv186 33 [true] [.row (z0.map pI) (cnt 0 n0) (pI y3), .upd (z0.map pI) (Int.toNat (cnt 0 n0)) (pI y3) (pI (cnt 0 n0)) (y5.map pI)] [] 0 n3_ y5 hC ⟨row_get h4, upd_get h4 h6, trivial⟩ ⟨(cnt_lt hi0 hl0), trivial⟩ (sI h).symm
 ·have h := hnext0 _ hs0
  refine ws (bs := []) lv186 24 [] [.len (ln (z0.map pI)) (ln z0)] [] 0 n3_ (st186_1 z0 0 z0) (R186_1 x0 x1 0 z0) hC ⟨len_map _ _, trivial⟩ trivial ?_
  obtain ⟨w1, hm1, hret1, hnext1⟩ := andThen_inv h
  clear h
  refine WI_cut (by kernel_rfl) (fun s => w1 = .next s) (sa186_1) (Ra186_1) ?_ fun z1 hs1 => ?_
  ·refine WI_blk (by kernel_rfl) ?_
   refine WI_lenO 5 2 rfl rfl fun hl1 => ?_
   refine WI_foldI (by kernel_rfl) (F186_l1 x0 x1) (st186_1 z0) (R186_1 x0 x1) w1 z0 z0 hm1 rfl rfl (fun z1 hn1 => ?_) fun n1 a1 z1 w1b hi1 hx1 h hb1 hr1 => ?_
   ·clear hm1
    exact we (bs := [(decide ((cnt 0 z0.length) < (ln z0)), false)]) (φ := fun s' => w1 = .next s') (st' := (sa186_1)) (R' := (Ra186_1)) lv186 26 [false] [] [] 0 [2] z1 hC trivial ⟨(cnt_end hl1), trivial⟩ hn1
   ·unfold F186_l1 at h
    refine ws (bs := [(decide ((cnt 0 n1) < (ln z0)), true)]) lv186 30 [true] [.len (ln (x0.Breakers.map q66)) (ln x0.Breakers)] [] 0 n3_ (st186_2 x0 z0 n1 0 z1) (R186_2 x0 x1 0 z1) hC ⟨len_map _ _, trivial⟩ ⟨(cnt_lt hi1 hl1), trivial⟩ ?_
    obtain ⟨w2, hm2, hret2, hnext2⟩ := andThen_inv h
    clear h
    refine WI_cut (by kernel_rfl) (fun s => w2 = .next s) (sa186_2 z0 n1) (Ra186_2 x0 x1) ?_ fun z2 hs2 => ?_
    ·refine WI_blk (by kernel_rfl) ?_
     refine WI_len 28 rfl fun hl2 => ?_
     refine WI_foldI (by kernel_rfl) (F186_l2 x1) (st186_2 x0 z0 n1) (R186_2 x0 x1) w2 x0.Breakers z1 hm2 rfl rfl (fun z2 hn2 => ?_) fun n2 a2 z2 w2b hi2 hx2 h hb2 hr2 => ?_
     ·clear hm2
      exact we (bs := [(decide ((cnt 0 x0.Breakers.length) < (ln x0.Breakers)), false)]) (φ := fun s' => w2 = .next s') (st' := (sa186_2 z0 n1)) (R' := (Ra186_2 x0 x1)) lv186 26 [false] [] [] 0 n3_ z2 hC trivial ⟨(cnt_end hl2), trivial⟩ hn2
     ·unfold F186_l2 at h
      obtain ⟨y7, h8, h⟩ := bindE h
      rcases boolC (((a2.Kind == 1) && y7)) with h9 | h9
      ·replace h := condT h9 h
       obtain ⟨y10, h11, h⟩ := bindE h
       obtain ⟨y12, h13, h⟩ := bindE h
       obtain ⟨y14, h15, h⟩ := bindE h
       obtain ⟨y16, h17, h⟩ := bindE h
       obtain ⟨y18, h19, h⟩ := bindE h
       exact we (bs := [(decide ((cnt 0 n2) < (ln x0.Breakers)), true), (((a2.Kind == 1) && y7), true)]) (φ := fun s' => w2b = .next s') (st' := (st186_2 x0 z0 n1 (n2 + 1))) (R' := (R186_2 x0 x1 (n2 + 1))) lv186 38 [true, true] [.row (x0.Breakers.map q66) (cnt 0 n2) (q66 a2), .when [((a2.Kind == 1), true)] (.row (x1.Closed.map pB) (cnt 0 n2) (pB y7)), .row (z2.map pI) a2.A (pI y10), .row (z2.map pI) (((Int.toNat a2.A) : Nat) : Int) (pI y10), .row (z2.map pI) a2.B (pI y12), .row (z2.map pI) (((Int.toNat a2.B) : Nat) : Int) (pI y12), .row (z2.map pI) a2.A (pI y10), .upd (z2.map pI) (Int.toNat a2.A) (pI y10) (pI (min y10 y12)) (y14.map pI), .row (y14.map pI) a2.B (pI y16), .upd (y14.map pI) (Int.toNat a2.B) (pI y16) (pI (min y10 y12)) (y18.map pI)] [] 0 n3_ y18 hC ⟨(row_cnt hx2 hl2), fun hg => row_get (guardO_get h8 hg), row_get h11, row_getN h11, row_get h13, row_getN h13, row_get h11, upd_get h11 h15, row_get h17, upd_get h17 h19, trivial⟩ ⟨(cnt_lt hi2 hl2), h9, trivial⟩ (sI h).symm
      ·replace h := condF h9 h
       exact we (bs := [(decide ((cnt 0 n2) < (ln x0.Breakers)), true), (((a2.Kind == 1) && y7), false)]) (φ := fun s' => w2b = .next s') (st' := (st186_2 x0 z0 n1 (n2 + 1))) (R' := (R186_2 x0 x1 (n2 + 1))) lv186 36 [true, false] [.row (x0.Breakers.map q66) (cnt 0 n2) (q66 a2), .when [((a2.Kind == 1), true)] (.row (x1.Closed.map pB) (cnt 0 n2) (pB y7))] [] 0 n3_ z2 hC ⟨(row_cnt hx2 hl2), fun hg => row_get (guardO_get h8 hg), trivial⟩ ⟨(cnt_lt hi2 hl2), h9, trivial⟩ (sI h).symm
    ·have h := hnext2 _ hs2
     exact we (bs := []) (φ := fun s' => w1b = .next s') (st' := (st186_1 z0 (n1 + 1))) (R' := (R186_1 x0 x1 (n1 + 1))) lv186 23 [] [] [] 0 n3_ z2 hC trivial trivial (sI h).symm
  ·have h := hnext1 _ hs1
   replace h := sI h
   subst h
   exact wr (bs := []) lv186 23 [] [] [] [.tmp 4] 0 [0] hC trivial trivial
theorem e186 : Enters Tryz.prog 186 := en Tryz.func186
theorem k190 (x0 : api_Island) (r : Bool) (h : F190 x0 = r) : CallOk Tryz.prog 190 [.agg (d78 x0)] [] (.d (Bo r)) [] := by
 unfold F190 at h
 refine callOk_of 7 Tryz.func190 rfl rfl rfl fun C hC => ?_
 subst h
 exact wr (bs := []) n3_ 25 [] [.len (ln (x0.Buses.map pI)) (ln x0.Buses)] [] [.tmp 2] 0 [] hC ⟨len_map _ _, trivial⟩ trivial
theorem e190 : Enters Tryz.prog 190 := en Tryz.func190
theorem k252 (x0 : Int) (r : Int) (h : F252 x0 = r) : CallOk Tryz.prog 252 [.d (I x0)] [] (.d (I r)) [] := by
 unfold F252 at h
 refine callOk_of 10 Tryz.func252 rfl rfl rfl fun C hC => ?_
 rcases boolC (decide ((Int.tmod x0 3600) < 0)) with h1 | h1
 ·replace h := condT h1 h
  subst h
  exact wr (bs := [(decide ((Int.tmod x0 3600) < 0), true)]) [0, 2, 6] 32 [true] [.nz 3600] [] [.tmp 2] 0 [] hC ⟨nz_lit rfl, trivial⟩ ⟨h1, trivial⟩
 ·replace h := condF h1 h
  subst h
  exact wr (bs := [(decide ((Int.tmod x0 3600) < 0), false)]) [0, 2, 6] 32 [false] [.nz 3600] [] [.tmp 2] 0 [] hC ⟨nz_lit rfl, trivial⟩ ⟨h1, trivial⟩
theorem e252 : Enters Tryz.prog 252 := en Tryz.func252
def lv183s0 : List Nat := [0, 1, 2, 3, 5, 7, 8, 9, 10, 11]
def st183s0_0 (x1 : List Int) (n0 : Nat) (z0 : (List api_Running)) : St := [(3, dO 4 0), (5, dO 5 0), (8, .d (DS pI x1)), (9, dI (ln x1)), (10, dI (cnt 0 n0))]
def R183s0_0 (x0 : api_Power) (x2 : api_Running) (n0 : Nat) (z0 : (List api_Running)) : List Res := [.sl 4 1 (x0.Closed.map pB), .sl 59 4 (z0.map q59), .sl 3 1 (x0.Limits.map pI), .sl 119 2 (x0.Broken.map q119), .box 35 [.os 0, .os 1, .os 2, .os 3], .box 59 (d59 x2)]
def sa183s0_0  (z0 : (List api_Running)) : St := []
def Ra183s0_0 (x0 : api_Power) (z0 : (List api_Running)) : List Res := [.sl 4 1 (x0.Closed.map pB), .sl 59 4 (z0.map q59), .sl 3 1 (x0.Limits.map pI), .sl 119 2 (x0.Broken.map q119)]
theorem k183s0 (x0 : api_Power) (x1 : List Int) (x2 : api_Running) (r : (List api_Running)) (h : F183s0 x0 x1 x2 = some r) : CallOk Tryz.prog 183 [.agg [.os 0, .os 1, .os 2, .os 3], .d (DS pI x1), .agg (d59 x2)] (zp x0 []) (.tup []) [.sl 4 1 (x0.Closed.map pB), .sl 59 4 (r.map q59), .sl 3 1 (x0.Limits.map pI), .sl 119 2 (x0.Broken.map q119)] := by
 unfold F183s0 at h
 refine callOk_of 29 Tryz.func183 rfl rfl rfl fun C hC => ?_
 refine ws (bs := []) lv183s0 25 [] [.len (ln (x1.map pI)) (ln x1)] [] 4 n6_ (st183s0_0 x1 0 x0.Sources) (R183s0_0 x0 x2 0 x0.Sources) hC ⟨len_map _ _, trivial⟩ trivial ?_
 obtain ⟨w0, hm0, hret0, hnext0⟩ := andThen_inv h
 clear h
 refine WI_cut (by kernel_rfl) (fun s => w0 = .next s) (sa183s0_0) (Ra183s0_0 x0) ?_ fun z0 hs0 => ?_
 ·refine WI_blk (by kernel_rfl) ?_
  refine WI_len 8 rfl fun hl0 => ?_
  refine WI_foldI (by kernel_rfl) (F183s0_l0 x2) (st183s0_0 x1) (R183s0_0 x0 x2) w0 x1 x0.Sources hm0 rfl rfl (fun z0 hn0 => ?_) fun n0 a0 z0 w0b hi0 hx0 h hb0 hr0 => ?_
  ·clear hm0
   exact we (bs := [(decide ((cnt 0 x1.length) < (ln x1)), false)]) (φ := fun s' => w0 = .next s') (st' := (sa183s0_0)) (R' := (Ra183s0_0 x0)) lv183s0 26 [false] [] [] 4 n4_ z0 hC trivial ⟨(cnt_end hl0), trivial⟩ hn0
  ·unfold F183s0_l0 at h
   obtain ⟨y1, h2, h⟩ := bindE h
   obtain ⟨y3, h4, h⟩ := bindE h
   obtain ⟨y5, h6, h⟩ := bindE h
   obtain ⟨y7, h8, h⟩ := bindE h
   exact we (bs := [(decide ((cnt 0 n0) < (ln x1)), true)]) (φ := fun s' => w0b = .next s') (st' := (st183s0_0 x1 (n0 + 1))) (R' := (R183s0_0 x0 x2 (n0 + 1))) lv183s0 33 [true] [.row (x1.map pI) (cnt 0 n0) (pI a0), .row (z0.map q59) a0 (q59 y1), .upd (z0.map q59) (Int.toNat a0) (q59 y1) (q59 (⟨y1.State, y1.Since, x2.Frequency, y1.Phase⟩ : api_Running)) (y3.map q59), .row (y3.map q59) a0 (q59 y5), .upd (y3.map q59) (Int.toNat a0) (q59 y5) (q59 (⟨y5.State, y5.Since, y5.Frequency, x2.Phase⟩ : api_Running)) (y7.map q59)] [] 4 n6_ y7 hC ⟨(row_cnt hx0 hl0), row_get h2, upd_get h2 h4, row_get h6, upd_get h6 h8, trivial⟩ ⟨(cnt_lt hi0 hl0), trivial⟩ (sI h).symm
 ·have h := hnext0 _ hs0
  replace h := sI h
  subst h
  exact wf (bs := []) lv183s0 20 [] [] [] [] 4 n4_ hC trivial trivial
theorem e183s0 : Enters Tryz.prog 183 := en Tryz.func183
theorem k136s0 (x0 : api_Breaker) (x1 : Int) (r : Bool) (h : F136s0 x0 x1 = r) : CallOk Tryz.prog 136 [.agg (d66 x0), .d (.ip [.v (.int .i64 x1)])] [] (.d (Bo r)) [] := by
 unfold F136s0 at h
 refine callOk_of 13 Tryz.func136 rfl rfl rfl fun C hC => ?_
 subst h
 exact wr (bs := []) n4_ 25 [] [] [] [.tmp 3] 0 [] hC trivial trivial
theorem e136s0 : Enters Tryz.prog 136 := en Tryz.func136
theorem k147s1 (x0 : restore_worker) (x1 : Int) (x2 : Int) (r : Int × restore_worker) (h : F147s1 x0 x1 x2 = some r) : CallOk Tryz.prog 147 [.d (.o 0 0), .d (I x1), .d (I x2)] (.box 130 (zb x0.board [.os 1, .os 2, .os 3, .os 4, I x0.time]) :: zp x0.power []) (.d (I r.1)) (.box 130 (zb r.2.board [.os 1, .os 2, .os 3, .os 4, I r.2.time]) :: zp r.2.power []) := by
 unfold F147s1 at h
 refine callOk_of 30 Tryz.func147 rfl rfl rfl fun C hC => ?_
 obtain ⟨y1, h2, h⟩ := bindE h
 rcases boolC ((c147s1_0 x2 y1)) with h3 | h3
 ·replace h := condT h3 h
  replace h := sI h
  subst h
  exact wr (bs := [((c147s1_0 x2 y1), true)]) [0, 1, 2, 6, 21] 29 [true] [.when [(decide (x2 < 0), false)] (.row (x0.board.Consumers.map q108) x1 (q108 y1))] [] [.tmp 6] 5 n5_ hC ⟨fun hg => row_get (guardO_get h2 hg), trivial⟩ ⟨h3, trivial⟩
 ·replace h := condF h3 h
  obtain ⟨y4, h5, h⟩ := bindE h
  obtain ⟨y6, h7, h⟩ := bindE h
  replace h := sI h
  subst h
  exact wr (bs := [((c147s1_0 x2 y1), false)]) [0, 1, 2, 6, 21] 32 [false] [.when [(decide (x2 < 0), false)] (.row (x0.board.Consumers.map q108) x1 (q108 y1)), .row (x0.power.Limits.map pI) x1 (pI y4), .upd (x0.power.Limits.map pI) (Int.toNat x1) (pI y4) (pI x2) (y6.map pI)] [] [.tmp 6] 5 n5_ hC ⟨fun hg => row_get (guardO_get h2 hg), row_get h5, upd_get h5 h7, trivial⟩ ⟨h3, trivial⟩
theorem e147s1 : Enters Tryz.prog 147 := en Tryz.func147
theorem k219 (x0 : api_Part) (x1 : api_Part) (r : Int) (h : F219 x0 x1 = r) : CallOk Tryz.prog 219 [.agg (d119 x0), .agg (d119 x1)] [] (.d (I r)) [] := by
 unfold F219 at h
 refine callOk_of 20 Tryz.func219 rfl rfl rfl fun C hC => ?_
 rcases boolC ((x0.Kind != x1.Kind)) with h1 | h1
 ·replace h := condT h1 h
  subst h
  exact wr (bs := [((x0.Kind != x1.Kind), true)]) [0, 1, 2, 3, 4, 9] 29 [true] [] [] [.tmp 4] 0 [] hC trivial ⟨h1, trivial⟩
 ·replace h := condF h1 h
  subst h
  exact wr (bs := [((x0.Kind != x1.Kind), false)]) [0, 1, 2, 3, 4, 9] 30 [false] [] [] [.tmp 4] 0 [] hC trivial ⟨h1, trivial⟩
theorem e219 : Enters Tryz.prog 219 := en Tryz.func219
def lv220s0 : List Nat := [0, 1, 2, 6, 7, 8, 9, 16, 22, 31, 68]
theorem k220s0 (x0 : List api_Part) (x1 : Int) (x2 : List api_Part) (r : (List api_Part)) (h : F220s0 x0 x1 x2 = some r) : CallOk Tryz.prog 220 [.d (.os 0), .d (I x1), .d (DS q119 x2)] [.sl 119 2 (x0.map q119)] (.d (.os 1)) [.non, .sl 119 2 (r.map q119)] := by
 by_cases hh : ((ln x2) == 0) = false ∧ (x1 == (ln x0)) = false
 ·unfold F220s0 at h
  exact insertM (enc := q119) (fun _ => rfl) hh.1 hh.2 h
 unfold F220s0 at h
 refine callOk_of 95 Tryz.func220 rfl rfl rfl fun C hC => ?_
 obtain ⟨u2, h1, h⟩ := bindE h
 rcases boolC (((ln x2) == 0)) with h3 | h3
 ·replace h := condT h3 h
  replace h := sI h
  subst h
  exact wr (bs := [(((ln x2) == 0), true)]) lv220s0 33 [true] [.bnd (x0.map q119).length x1 (((x0.map q119).length : Nat) : Int) (ln x0), .len (ln (x2.map q119)) (ln x2)] [.mv 0] [.tmp 6] 1 [0, 1] hC ⟨bnd_get (by simp) (by simp) h1, len_map _ _, trivial⟩ ⟨h3, trivial⟩
 ·replace h := condF h3 h
  refine ws (bs := [(((ln x2) == 0), false)]) lv220s0 37 [false] [.bnd (x0.map q119).length x1 (((x0.map q119).length : Nat) : Int) (ln x0), .len (ln (x2.map q119)) (ln x2), .len (ln (x0.map q119)) (ln x0)] [] 1 [0] [(0, dS 0), (1, dI x1), (2, .d (DS q119 x2)), (6, .d (DS q119 [])), (7, dI (ln x2)), (8, dI (ln x0)), (22, dB (x1 == (ln x0)))] [.sl 119 2 (x0.map q119)] hC ⟨bnd_get (by simp) (by simp) h1, len_map _ _, len_map _ _, trivial⟩ ⟨h3, trivial⟩ ?_
  rcases boolC ((x1 == (ln x0))) with h4 | h4
  ·replace h := condT h4 h
   obtain ⟨y5, h6, h⟩ := bindE h
   replace h := sI h
   subst h
   exact wr (bs := [((x1 == (ln x0)), true)]) lv220s0 24 [true] [.app (x0.map q119) (x2.map q119) 2 (((x0.map q119).length + (x2.map q119).length) * (16 + 1)) (y5.map q119)] [] [.tmp 6] 1 [0, 1] hC ⟨app_get q119 2 (fun _ => rfl) h6, trivial⟩ ⟨h4, trivial⟩
  ·replace h := condF h4 h
   exact absurd ⟨h3, h4⟩ hh
theorem e220s0 : Enters Tryz.prog 220 := en Tryz.func220
theorem k221s0 (x0 : List api_Part) (x1 : Int) (x2 : Int) (r : (List api_Part)) (h : F221s0 x0 x1 x2 = some r) : CallOk Tryz.prog 221 [.d (.os 0), .d (I x1), .d (I x2)] [.sl 119 2 (x0.map q119)] (.d (.os 1)) [.non, .sl 119 2 (r.map q119)] := by
 unfold F221s0 at h
 refine callOk_of 33 Tryz.func221 rfl rfl rfl fun C hC => ?_
 obtain ⟨u2, h1, h⟩ := bindE h
 rcases boolC ((x1 == x2)) with h3 | h3
 ·replace h := condT h3 h
  replace h := sI h
  subst h
  exact wr (bs := [((x1 == x2), true)]) [0, 1, 2, 6, 7, 16] 31 [true] [.len (ln (x0.map q119)) (ln x0), .bnd3 (x0.map q119).length x1 x2 (ln x0)] [.mv 0] [.tmp 6] 1 [0, 1] hC ⟨len_map _ _, bnd3_get (by simp) h1, trivial⟩ ⟨h3, trivial⟩
 ·replace h := condF h3 h
  obtain ⟨u5, h4, h⟩ := bindE h
  obtain ⟨u7, h6, h⟩ := bindE h
  obtain ⟨y8, h9, h⟩ := bindE h
  obtain ⟨u11, h10, h⟩ := bindE h
  replace h := sI h
  subst h
  (rw [List.map_take]; exact WI_ret (bs := [((x1 == x2), false)]) mixed [0, 1, 2, 6, 7, 16] 38 [false] [.len (ln (x0.map q119)) (ln x0), .bnd3 (x0.map q119).length x1 x2 (ln x0), .len (ln (x0.map q119)) (ln x0), .bnd (x0.map q119).length 0 x1 x1, .bnd (x0.map q119).length x2 (((x0.map q119).length : Nat) : Int) (ln x0), .appP (x0.map q119) (((x0.map q119).drop (Int.toNat x2)).take ((Int.toNat (ln x0)) - (Int.toNat x2))) 2 ((Int.toNat x1) - 0) (((Int.toNat x1) - 0) + ((x0.drop (Int.toNat x2)).take ((Int.toNat (ln x0)) - (Int.toNat x2))).length) ((x0.map q119).take ((Int.toNat x1) - 0) ++ ((((x0.map q119).drop (Int.toNat x2)).take ((Int.toNat (ln x0)) - (Int.toNat x2))) ++ (x0.map q119).drop (((Int.toNat x1) - 0) + (((x0.map q119).drop (Int.toNat x2)).take ((Int.toNat (ln x0)) - (Int.toNat x2))).length))) (y8.map q119), .len (((((Int.toNat x1) - 0) + ((x0.drop (Int.toNat x2)).take ((Int.toNat (ln x0)) - (Int.toNat x2))).length) : Nat) : Int) (((((Int.toNat x1) - 0) + ((x0.drop (Int.toNat x2)).take ((Int.toNat (ln x0)) - (Int.toNat x2))).length) : Nat) : Int), .bnd ((y8.map q119).length - 0) (((((Int.toNat x1) - 0) + ((x0.drop (Int.toNat x2)).take ((Int.toNat (ln x0)) - (Int.toNat x2))).length) : Nat) : Int) (ln x0) (ln x0), .eqr ((y8.map q119).take (0 + (Int.toNat (((((Int.toNat x1) - 0) + ((x0.drop (Int.toNat x2)).take ((Int.toNat (ln x0)) - (Int.toNat x2))).length) : Nat) : Int))) ++ (List.replicate ((Int.toNat (ln x0)) - (Int.toNat (((((Int.toNat x1) - 0) + ((x0.drop (Int.toNat x2)).take ((Int.toNat (ln x0)) - (Int.toNat x2))).length) : Nat) : Int))) (q119 (⟨0, 0⟩ : api_Part)) ++ (y8.map q119).drop ((0 + (Int.toNat (((((Int.toNat x1) - 0) + ((x0.drop (Int.toNat x2)).take ((Int.toNat (ln x0)) - (Int.toNat x2))).length) : Nat) : Int))) + ((Int.toNat (ln x0)) - (Int.toNat (((((Int.toNat x1) - 0) + ((x0.drop (Int.toNat x2)).take ((Int.toNat (ln x0)) - (Int.toNat x2))).length) : Nat) : Int)))))) ((clrI y8 (0 + (Int.toNat (((((Int.toNat x1) - 0) + ((x0.drop (Int.toNat x2)).take ((Int.toNat (ln x0)) - (Int.toNat x2))).length) : Nat) : Int))) ((Int.toNat (ln x0)) - (Int.toNat (((((Int.toNat x1) - 0) + ((x0.drop (Int.toNat x2)).take ((Int.toNat (ln x0)) - (Int.toNat x2))).length) : Nat) : Int))) (⟨0, 0⟩ : api_Part)).map q119)] [.trunc 6] [.tmp 6] 1 [0, 1] rfl hC ⟨len_map _ _, bnd3_get (by simp) h1, len_map _ _, bnd_get (by simp) rfl h4, bnd_get (by simp) (by simp) h6, appP_get q119 2 (fun _ => rfl) (part_map _ _ _ _) h9, rfl, bnd_get (by simp) rfl h10, clr_get q119 rfl, trivial⟩ ⟨h3, trivial⟩ (by kernel_rfl))
theorem e221s0 : Enters Tryz.prog 221 := en Tryz.func221
def lv21 : List Nat := [0, 1, 4, 5, 10, 12, 13, 14, 24]
def st21_0 (x0 : List Bool) (x1 : List Bool) (n0 : Nat) (z0 : Unit) : St := [(0, .d (DS pB x0)), (1, .d (DS pB x1)), (4, dB false), (12, dI (ln x0)), (13, dI (cnt 0 n0))]
def R21_0  (n0 : Nat) (z0 : Unit) : List Res := []
def sa21_0  (z0 : Unit) : St := [(4, dB false)]
def Ra21_0  (z0 : Unit) : List Res := []
theorem k21 (x0 : List Bool) (x1 : List Bool) (r : Bool) (h : F21 x0 x1 = some r) : CallOk Tryz.prog 21 [.d (DS pB x0), .d (DS pB x1)] [] (.d (Bo r)) [] := by
 unfold F21 at h
 refine callOk_of 26 Tryz.func21 rfl rfl rfl fun C hC => ?_
 rcases boolC (((ln x0) != (ln x1))) with h1 | h1
 ·replace h := condT h1 h
  replace h := sI h
  subst h
  exact wr (bs := [(((ln x0) != (ln x1)), true)]) lv21 29 [true] [.len (ln (x0.map pB)) (ln x0), .len (ln (x1.map pB)) (ln x1)] [] [.tmp 4] 0 [] hC ⟨len_map _ _, len_map _ _, trivial⟩ ⟨h1, trivial⟩
 ·replace h := condF h1 h
  refine ws (bs := [(((ln x0) != (ln x1)), false)]) lv21 31 [false] [.len (ln (x0.map pB)) (ln x0), .len (ln (x1.map pB)) (ln x1), .len (ln (x0.map pB)) (ln x0)] [] 0 [] (st21_0 x0 x1 0 ()) (R21_0 0 ()) hC ⟨len_map _ _, len_map _ _, len_map _ _, trivial⟩ ⟨h1, trivial⟩ ?_
  obtain ⟨w0, hm0, hret0, hnext0⟩ := andThen_inv h
  clear h
  refine WI_cut (by kernel_rfl) (fun s => w0 = .next s) (sa21_0) (Ra21_0) ?_ fun z0 hs0 => ?_
  ·refine WI_blk (by kernel_rfl) ?_
   refine WI_len 0 rfl fun hl0 => ?_
   refine WI_foldI (by kernel_rfl) (F21_l0 x1) (st21_0 x0 x1) (R21_0) w0 x0 () hm0 rfl rfl (fun z0 hn0 => ?_) fun n0 a0 z0 w0b hi0 hx0 h hb0 hr0 => ?_
   ·clear hm0
    exact we (bs := [(decide ((cnt 0 x0.length) < (ln x0)), false)]) (φ := fun s' => w0 = .next s') (st' := (sa21_0)) (R' := (Ra21_0)) lv21 26 [false] [] [] 0 [] () hC trivial ⟨(cnt_end hl0), trivial⟩ hn0
   ·unfold F21_l0 at h
    obtain ⟨y2, h3, h⟩ := bindE h
    rcases boolC (!(a0 == y2)) with h4 | h4
    ·replace h := condT h4 h
     have hq := hret0 _ (hr0 _ (sI h).symm)
     replace hq := sI hq
     subst hq
     exact wr (bs := [(decide ((cnt 0 n0) < (ln x0)), true), (!(a0 == y2), true)]) lv21 35 [true, true] [.row (x0.map pB) (cnt 0 n0) (pB a0), .row (x1.map pB) (cnt 0 n0) (pB y2)] [] [.tmp 4] 0 [] hC ⟨(row_cnt hx0 hl0), row_get h3, trivial⟩ ⟨(cnt_lt hi0 hl0), h4, trivial⟩
    ·replace h := condF h4 h
     exact we (bs := [(decide ((cnt 0 n0) < (ln x0)), true), (!(a0 == y2), false)]) (φ := fun s' => w0b = .next s') (st' := (st21_0 x0 x1 (n0 + 1))) (R' := (R21_0 (n0 + 1))) lv21 36 [true, false] [.row (x0.map pB) (cnt 0 n0) (pB a0), .row (x1.map pB) (cnt 0 n0) (pB y2)] [] 0 [] () hC ⟨(row_cnt hx0 hl0), row_get h3, trivial⟩ ⟨(cnt_lt hi0 hl0), h4, trivial⟩ (sI h).symm
  ·have h := hnext0 _ hs0
   replace h := sI h
   subst h
   exact wr (bs := []) lv21 23 [] [] [] [.tmp 4] 0 [] hC trivial trivial
theorem e21 : Enters Tryz.prog 21 := en Tryz.func21
def lv75 : List Nat := [0, 1, 4, 5, 10, 12, 13, 14, 24]
def st75_0 (x0 : List Int) (x1 : List Int) (n0 : Nat) (z0 : Unit) : St := [(0, .d (DS pI x0)), (1, .d (DS pI x1)), (4, dB false), (12, dI (ln x0)), (13, dI (cnt 0 n0))]
def R75_0  (n0 : Nat) (z0 : Unit) : List Res := []
def sa75_0  (z0 : Unit) : St := [(4, dB false)]
def Ra75_0  (z0 : Unit) : List Res := []
theorem k75 (x0 : List Int) (x1 : List Int) (r : Bool) (h : F75 x0 x1 = some r) : CallOk Tryz.prog 75 [.d (DS pI x0), .d (DS pI x1)] [] (.d (Bo r)) [] := by
 unfold F75 at h
 refine callOk_of 26 Tryz.func75 rfl rfl rfl fun C hC => ?_
 rcases boolC (((ln x0) != (ln x1))) with h1 | h1
 ·replace h := condT h1 h
  replace h := sI h
  subst h
  exact wr (bs := [(((ln x0) != (ln x1)), true)]) lv75 29 [true] [.len (ln (x0.map pI)) (ln x0), .len (ln (x1.map pI)) (ln x1)] [] [.tmp 4] 0 [] hC ⟨len_map _ _, len_map _ _, trivial⟩ ⟨h1, trivial⟩
 ·replace h := condF h1 h
  refine ws (bs := [(((ln x0) != (ln x1)), false)]) lv75 31 [false] [.len (ln (x0.map pI)) (ln x0), .len (ln (x1.map pI)) (ln x1), .len (ln (x0.map pI)) (ln x0)] [] 0 [] (st75_0 x0 x1 0 ()) (R75_0 0 ()) hC ⟨len_map _ _, len_map _ _, len_map _ _, trivial⟩ ⟨h1, trivial⟩ ?_
  obtain ⟨w0, hm0, hret0, hnext0⟩ := andThen_inv h
  clear h
  refine WI_cut (by kernel_rfl) (fun s => w0 = .next s) (sa75_0) (Ra75_0) ?_ fun z0 hs0 => ?_
  ·refine WI_blk (by kernel_rfl) ?_
   refine WI_len 0 rfl fun hl0 => ?_
   refine WI_foldI (by kernel_rfl) (F75_l0 x1) (st75_0 x0 x1) (R75_0) w0 x0 () hm0 rfl rfl (fun z0 hn0 => ?_) fun n0 a0 z0 w0b hi0 hx0 h hb0 hr0 => ?_
   ·clear hm0
    exact we (bs := [(decide ((cnt 0 x0.length) < (ln x0)), false)]) (φ := fun s' => w0 = .next s') (st' := (sa75_0)) (R' := (Ra75_0)) lv75 26 [false] [] [] 0 [] () hC trivial ⟨(cnt_end hl0), trivial⟩ hn0
   ·unfold F75_l0 at h
    obtain ⟨y2, h3, h⟩ := bindE h
    rcases boolC ((a0 != y2)) with h4 | h4
    ·replace h := condT h4 h
     have hq := hret0 _ (hr0 _ (sI h).symm)
     replace hq := sI hq
     subst hq
     exact wr (bs := [(decide ((cnt 0 n0) < (ln x0)), true), ((a0 != y2), true)]) lv75 35 [true, true] [.row (x0.map pI) (cnt 0 n0) (pI a0), .row (x1.map pI) (cnt 0 n0) (pI y2)] [] [.tmp 4] 0 [] hC ⟨(row_cnt hx0 hl0), row_get h3, trivial⟩ ⟨(cnt_lt hi0 hl0), h4, trivial⟩
    ·replace h := condF h4 h
     exact we (bs := [(decide ((cnt 0 n0) < (ln x0)), true), ((a0 != y2), false)]) (φ := fun s' => w0b = .next s') (st' := (st75_0 x0 x1 (n0 + 1))) (R' := (R75_0 (n0 + 1))) lv75 36 [true, false] [.row (x0.map pI) (cnt 0 n0) (pI a0), .row (x1.map pI) (cnt 0 n0) (pI y2)] [] 0 [] () hC ⟨(row_cnt hx0 hl0), row_get h3, trivial⟩ ⟨(cnt_lt hi0 hl0), h4, trivial⟩ (sI h).symm
  ·have h := hnext0 _ hs0
   replace h := sI h
   subst h
   exact wr (bs := []) lv75 23 [] [] [] [.tmp 4] 0 [] hC trivial trivial
theorem e75 : Enters Tryz.prog 75 := en Tryz.func75
theorem k28  (r : api_Board × api_Power) (h : F28  = r) : CallOk Tryz.prog 28 [] [] (.tup [.agg (d29 r.1), .agg (d35 r.2)]) [] := by
 unfold F28 at h
 refine callOk_of 14 Tryz.func28 rfl rfl rfl fun C hC => ?_
 subst h
 exact wr (bs := []) n3_ 27 [] [] [.ownb 0 3 108 5, .frz 3, .ownb 1 2 3 1, .frz 4, .ownb 1 3 119 2, .frz 5] [.cell 0 29, .cell 1 35] 0 [] hC trivial trivial
theorem e28 : Enters Tryz.prog 28 := en Tryz.func28
theorem k255s1 (x0 : shed_relief) (x1 : Int) (r : shed_relief) (h : F255s1 x0 x1 = some r) : CallOk Tryz.prog 255 [.d (.o 0 0), .d (I x1)] (.box 244 (zb x0.board [.os 1, .os 2, .os 3, .os 4, .os 5]) :: zp x0.power [.sl 42 3 (x0.acts.map q42)]) (.tup []) (.box 244 (zb r.board [.os 1, .os 2, .os 3, .os 4, .os 6]) :: zp r.power [.non, .sl 42 3 (r.acts.map q42)]) := by
 unfold F255s1 at h
 refine callOk_of 22 Tryz.func255 rfl rfl rfl fun C hC => ?_
 obtain ⟨y1, h2, h⟩ := bindE h
 obtain ⟨y3, h4, h⟩ := bindE h
 obtain ⟨y5, h6, h⟩ := bindE h
 replace h := sI h
 subst h
 exact wf (bs := []) [0, 1] 23 [] [.row (x0.power.Closed.map pB) x1 (pB y1), .upd (x0.power.Closed.map pB) (Int.toNat x1) (pB y1) (pB false) (y3.map pB), .app (x0.acts.map q42) ([(⟨2, x1, 0⟩ : api_Act)].map q42) 3 (((x0.acts.map q42).length + ([(⟨2, x1, 0⟩ : api_Act)].map q42).length) * (24 + 1)) (y5.map q42)] [] [] 6 n7_ hC ⟨row_get h2, upd_get h2 h4, app_get q42 3 (fun _ => rfl) h6, trivial⟩ trivial
theorem e255s1 : Enters Tryz.prog 255 := en Tryz.func255
def lv276s0 : List Nat := [0, 1, 2, 3, 8, 9, 14, 34]
def st276s0_0 (x0 : List Int) (x1 : Int) (x2 : Int) (x3c0 : api_Board) (z0 : Unit) : St := [(0, .d (DS pI x0)), (1, dI x1), (2, dI x2), (3, .d (.fn (.func 231) [] [.ip [.v (.int .i64 x3c0.Buses), .s (x3c0.Breakers.map q66), .s (x3c0.Sources.map q57), .s (x3c0.Consumers.map q108), .v (.int .i64 x3c0.Phase), .v (.int .i64 x3c0.Frequency)]])), (8, dI (w64 (x1 + 1)))]
def R276s0_0  (z0 : Unit) : List Res := []
def sa276s0_0  (z0 : Unit) : St := []
def Ra276s0_0  (z0 : Unit) : List Res := []
theorem k276s0 (x0 : List Int) (x1 : Int) (x2 : Int) (x3c0 : api_Board) (r : Unit) (h : F276s0 x0 x1 x2 x3c0 = some r) : CallOk Tryz.prog 276 [.d (DS pI x0), .d (I x1), .d (I x2), .d (.fn (.func 231) [] [.ip [.v (.int .i64 x3c0.Buses), .s (x3c0.Breakers.map q66), .s (x3c0.Sources.map q57), .s (x3c0.Consumers.map q108), .v (.int .i64 x3c0.Phase), .v (.int .i64 x3c0.Frequency)]])] [] (.tup []) [] := by
 unfold F276s0 at h
 refine callOk_of 53 Tryz.func276 rfl rfl rfl fun C hC => ?_
 refine ws (bs := []) lv276s0 23 [] [] [] 0 [] (st276s0_0 x0 x1 x2 x3c0 ()) (R276s0_0 ()) hC trivial trivial ?_
 obtain ⟨w0, hm0, hret0, hnext0⟩ := andThen_inv h
 clear h
 refine WI_cut (by kernel_rfl) (fun s => w0 = .next s) (sa276s0_0) (Ra276s0_0) ?_ fun z0 hs0 => ?_
 ·refine WI_blk (by kernel_rfl) ?_
  refine WI_while (by kernel_rfl) (F276s0_l0 x1 x2) (st276s0_0 x0 x1 x2 x3c0) (R276s0_0) w0 1152921504606846976 () hm0 rfl rfl fun z0 w0b h hb0 hr0 => ?_
  unfold F276s0_l0 at h
  rcases boolC (decide ((w64 (x1 + 1)) < x2)) with h1 | h1
  ·replace h := condT h1 h
   cases h
  ·replace h := condF h1 h
   exact we (bs := [(decide ((w64 (x1 + 1)) < x2), false)]) (φ := fun s' => w0 = .next s') (st' := (sa276s0_0)) (R' := (Ra276s0_0)) lv276s0 26 [false] [] [] 0 [] () hC trivial ⟨h1, trivial⟩ (hb0 _ (sI h).symm)
 ·have h := hnext0 _ hs0
  replace h := sI h
  subst h
  exact wf (bs := []) lv276s0 20 [] [] [] [] 0 [] hC trivial trivial
theorem e276s0 : Enters Tryz.prog 276 := en Tryz.func276
def lv159 : List Nat := [0, 1, 4, 5, 10, 12, 13, 14, 24]
def st159_0 (x0 : List Bool) (x1 : List Bool) (n0 : Nat) (z0 : Unit) : St := [(0, .d (DS pB x0)), (1, .d (DS pB x1)), (4, dB false), (12, dI (ln x0)), (13, dI (cnt 0 n0))]
def R159_0  (n0 : Nat) (z0 : Unit) : List Res := []
def sa159_0  (z0 : Unit) : St := [(4, dB false)]
def Ra159_0  (z0 : Unit) : List Res := []
theorem k159 (x0 : List Bool) (x1 : List Bool) (r : Bool) (h : F159 x0 x1 = some r) : CallOk Tryz.prog 159 [.d (DS pB x0), .d (DS pB x1)] [] (.d (Bo r)) [] := by
 unfold F159 at h
 refine callOk_of 26 Tryz.func159 rfl rfl rfl fun C hC => ?_
 rcases boolC (((ln x0) != (ln x1))) with h1 | h1
 ·replace h := condT h1 h
  cases h
 ·replace h := condF h1 h
  refine ws (bs := [(((ln x0) != (ln x1)), false)]) lv159 31 [false] [.len (ln (x0.map pB)) (ln x0), .len (ln (x1.map pB)) (ln x1), .len (ln (x0.map pB)) (ln x0)] [] 0 [] (st159_0 x0 x1 0 ()) (R159_0 0 ()) hC ⟨len_map _ _, len_map _ _, len_map _ _, trivial⟩ ⟨h1, trivial⟩ ?_
  obtain ⟨w0, hm0, hret0, hnext0⟩ := andThen_inv h
  clear h
  refine WI_cut (by kernel_rfl) (fun s => w0 = .next s) (sa159_0) (Ra159_0) ?_ fun z0 hs0 => ?_
  ·refine WI_blk (by kernel_rfl) ?_
   refine WI_len 0 rfl fun hl0 => ?_
   refine WI_foldI (by kernel_rfl) (F159_l0 x1) (st159_0 x0 x1) (R159_0) w0 x0 () hm0 rfl rfl (fun z0 hn0 => ?_) fun n0 a0 z0 w0b hi0 hx0 h hb0 hr0 => ?_
   ·clear hm0
    exact we (bs := [(decide ((cnt 0 x0.length) < (ln x0)), false)]) (φ := fun s' => w0 = .next s') (st' := (sa159_0)) (R' := (Ra159_0)) lv159 26 [false] [] [] 0 [] () hC trivial ⟨(cnt_end hl0), trivial⟩ hn0
   ·unfold F159_l0 at h
    obtain ⟨y2, h3, h⟩ := bindE h
    rcases boolC (!(a0 == y2)) with h4 | h4
    ·replace h := condT h4 h
     cases h
    ·replace h := condF h4 h
     exact we (bs := [(decide ((cnt 0 n0) < (ln x0)), true), (!(a0 == y2), false)]) (φ := fun s' => w0b = .next s') (st' := (st159_0 x0 x1 (n0 + 1))) (R' := (R159_0 (n0 + 1))) lv159 36 [true, false] [.row (x0.map pB) (cnt 0 n0) (pB a0), .row (x1.map pB) (cnt 0 n0) (pB y2)] [] 0 [] () hC ⟨(row_cnt hx0 hl0), row_get h3, trivial⟩ ⟨(cnt_lt hi0 hl0), h4, trivial⟩ (sI h).symm
  ·have h := hnext0 _ hs0
   replace h := sI h
   subst h
   exact wr (bs := []) lv159 23 [] [] [] [.tmp 4] 0 [] hC trivial trivial
theorem e159 : Enters Tryz.prog 159 := en Tryz.func159
def lv160 : List Nat := [0, 1, 4, 5, 10, 12, 13, 14, 24]
def st160_0 (x0 : List api_Running) (x1 : List api_Running) (n0 : Nat) (z0 : Unit) : St := [(0, .d (DS q59 x0)), (1, .d (DS q59 x1)), (4, dB false), (12, dI (ln x0)), (13, dI (cnt 0 n0))]
def R160_0  (n0 : Nat) (z0 : Unit) : List Res := []
def sa160_0  (z0 : Unit) : St := [(4, dB false)]
def Ra160_0  (z0 : Unit) : List Res := []
theorem k160 (x0 : List api_Running) (x1 : List api_Running) (r : Bool) (h : F160 x0 x1 = some r) : CallOk Tryz.prog 160 [.d (DS q59 x0), .d (DS q59 x1)] [] (.d (Bo r)) [] := by
 unfold F160 at h
 refine callOk_of 26 Tryz.func160 rfl rfl rfl fun C hC => ?_
 rcases boolC (((ln x0) != (ln x1))) with h1 | h1
 ·replace h := condT h1 h
  cases h
 ·replace h := condF h1 h
  refine ws (bs := [(((ln x0) != (ln x1)), false)]) lv160 31 [false] [.len (ln (x0.map q59)) (ln x0), .len (ln (x1.map q59)) (ln x1), .len (ln (x0.map q59)) (ln x0)] [] 0 [] (st160_0 x0 x1 0 ()) (R160_0 0 ()) hC ⟨len_map _ _, len_map _ _, len_map _ _, trivial⟩ ⟨h1, trivial⟩ ?_
  obtain ⟨w0, hm0, hret0, hnext0⟩ := andThen_inv h
  clear h
  refine WI_cut (by kernel_rfl) (fun s => w0 = .next s) (sa160_0) (Ra160_0) ?_ fun z0 hs0 => ?_
  ·refine WI_blk (by kernel_rfl) ?_
   refine WI_len 0 rfl fun hl0 => ?_
   refine WI_foldI (by kernel_rfl) (F160_l0 x1) (st160_0 x0 x1) (R160_0) w0 x0 () hm0 rfl rfl (fun z0 hn0 => ?_) fun n0 a0 z0 w0b hi0 hx0 h hb0 hr0 => ?_
   ·clear hm0
    exact we (bs := [(decide ((cnt 0 x0.length) < (ln x0)), false)]) (φ := fun s' => w0 = .next s') (st' := (sa160_0)) (R' := (Ra160_0)) lv160 26 [false] [] [] 0 [] () hC trivial ⟨(cnt_end hl0), trivial⟩ hn0
   ·unfold F160_l0 at h
    obtain ⟨y2, h3, h⟩ := bindE h
    rcases boolC ((c160_1 a0 y2)) with h4 | h4
    ·replace h := condT h4 h
     cases h
    ·replace h := condF h4 h
     exact we (bs := [(decide ((cnt 0 n0) < (ln x0)), true), ((c160_1 a0 y2), false)]) (φ := fun s' => w0b = .next s') (st' := (st160_0 x0 x1 (n0 + 1))) (R' := (R160_0 (n0 + 1))) lv160 36 [true, false] [.row (x0.map q59) (cnt 0 n0) (q59 a0), .row (x1.map q59) (cnt 0 n0) (q59 y2)] [] 0 [] () hC ⟨(row_cnt hx0 hl0), row_get h3, trivial⟩ ⟨(cnt_lt hi0 hl0), h4, trivial⟩ (sI h).symm
  ·have h := hnext0 _ hs0
   replace h := sI h
   subst h
   exact wr (bs := []) lv160 23 [] [] [] [.tmp 4] 0 [] hC trivial trivial
theorem e160 : Enters Tryz.prog 160 := en Tryz.func160
def lv161 : List Nat := [0, 1, 4, 5, 10, 12, 13, 14, 24]
def st161_0 (x0 : List Int) (x1 : List Int) (n0 : Nat) (z0 : Unit) : St := [(0, .d (DS pI x0)), (1, .d (DS pI x1)), (4, dB false), (12, dI (ln x0)), (13, dI (cnt 0 n0))]
def R161_0  (n0 : Nat) (z0 : Unit) : List Res := []
def sa161_0  (z0 : Unit) : St := [(4, dB false)]
def Ra161_0  (z0 : Unit) : List Res := []
theorem k161 (x0 : List Int) (x1 : List Int) (r : Bool) (h : F161 x0 x1 = some r) : CallOk Tryz.prog 161 [.d (DS pI x0), .d (DS pI x1)] [] (.d (Bo r)) [] := by
 unfold F161 at h
 refine callOk_of 26 Tryz.func161 rfl rfl rfl fun C hC => ?_
 rcases boolC (((ln x0) != (ln x1))) with h1 | h1
 ·replace h := condT h1 h
  cases h
 ·replace h := condF h1 h
  refine ws (bs := [(((ln x0) != (ln x1)), false)]) lv161 31 [false] [.len (ln (x0.map pI)) (ln x0), .len (ln (x1.map pI)) (ln x1), .len (ln (x0.map pI)) (ln x0)] [] 0 [] (st161_0 x0 x1 0 ()) (R161_0 0 ()) hC ⟨len_map _ _, len_map _ _, len_map _ _, trivial⟩ ⟨h1, trivial⟩ ?_
  obtain ⟨w0, hm0, hret0, hnext0⟩ := andThen_inv h
  clear h
  refine WI_cut (by kernel_rfl) (fun s => w0 = .next s) (sa161_0) (Ra161_0) ?_ fun z0 hs0 => ?_
  ·refine WI_blk (by kernel_rfl) ?_
   refine WI_len 0 rfl fun hl0 => ?_
   refine WI_foldI (by kernel_rfl) (F161_l0 x1) (st161_0 x0 x1) (R161_0) w0 x0 () hm0 rfl rfl (fun z0 hn0 => ?_) fun n0 a0 z0 w0b hi0 hx0 h hb0 hr0 => ?_
   ·clear hm0
    exact we (bs := [(decide ((cnt 0 x0.length) < (ln x0)), false)]) (φ := fun s' => w0 = .next s') (st' := (sa161_0)) (R' := (Ra161_0)) lv161 26 [false] [] [] 0 [] () hC trivial ⟨(cnt_end hl0), trivial⟩ hn0
   ·unfold F161_l0 at h
    obtain ⟨y2, h3, h⟩ := bindE h
    rcases boolC ((a0 != y2)) with h4 | h4
    ·replace h := condT h4 h
     have hq := hret0 _ (hr0 _ (sI h).symm)
     replace hq := sI hq
     subst hq
     exact wr (bs := [(decide ((cnt 0 n0) < (ln x0)), true), ((a0 != y2), true)]) lv161 35 [true, true] [.row (x0.map pI) (cnt 0 n0) (pI a0), .row (x1.map pI) (cnt 0 n0) (pI y2)] [] [.tmp 4] 0 [] hC ⟨(row_cnt hx0 hl0), row_get h3, trivial⟩ ⟨(cnt_lt hi0 hl0), h4, trivial⟩
    ·replace h := condF h4 h
     exact we (bs := [(decide ((cnt 0 n0) < (ln x0)), true), ((a0 != y2), false)]) (φ := fun s' => w0b = .next s') (st' := (st161_0 x0 x1 (n0 + 1))) (R' := (R161_0 (n0 + 1))) lv161 36 [true, false] [.row (x0.map pI) (cnt 0 n0) (pI a0), .row (x1.map pI) (cnt 0 n0) (pI y2)] [] 0 [] () hC ⟨(row_cnt hx0 hl0), row_get h3, trivial⟩ ⟨(cnt_lt hi0 hl0), h4, trivial⟩ (sI h).symm
  ·have h := hnext0 _ hs0
   replace h := sI h
   subst h
   exact wr (bs := []) lv161 23 [] [] [] [.tmp 4] 0 [] hC trivial trivial
theorem e161 : Enters Tryz.prog 161 := en Tryz.func161
def lv162 : List Nat := [0, 1, 4, 5, 10, 12, 13, 14, 24]
def st162_0 (x0 : List api_Part) (x1 : List api_Part) (n0 : Nat) (z0 : Unit) : St := [(0, .d (DS q119 x0)), (1, .d (DS q119 x1)), (4, dB false), (12, dI (ln x0)), (13, dI (cnt 0 n0))]
def R162_0  (n0 : Nat) (z0 : Unit) : List Res := []
def sa162_0  (z0 : Unit) : St := [(4, dB false)]
def Ra162_0  (z0 : Unit) : List Res := []
theorem k162 (x0 : List api_Part) (x1 : List api_Part) (r : Bool) (h : F162 x0 x1 = some r) : CallOk Tryz.prog 162 [.d (DS q119 x0), .d (DS q119 x1)] [] (.d (Bo r)) [] := by
 unfold F162 at h
 refine callOk_of 26 Tryz.func162 rfl rfl rfl fun C hC => ?_
 rcases boolC (((ln x0) != (ln x1))) with h1 | h1
 ·replace h := condT h1 h
  cases h
 ·replace h := condF h1 h
  refine ws (bs := [(((ln x0) != (ln x1)), false)]) lv162 31 [false] [.len (ln (x0.map q119)) (ln x0), .len (ln (x1.map q119)) (ln x1), .len (ln (x0.map q119)) (ln x0)] [] 0 [] (st162_0 x0 x1 0 ()) (R162_0 0 ()) hC ⟨len_map _ _, len_map _ _, len_map _ _, trivial⟩ ⟨h1, trivial⟩ ?_
  obtain ⟨w0, hm0, hret0, hnext0⟩ := andThen_inv h
  clear h
  refine WI_cut (by kernel_rfl) (fun s => w0 = .next s) (sa162_0) (Ra162_0) ?_ fun z0 hs0 => ?_
  ·refine WI_blk (by kernel_rfl) ?_
   refine WI_len 0 rfl fun hl0 => ?_
   refine WI_foldI (by kernel_rfl) (F162_l0 x1) (st162_0 x0 x1) (R162_0) w0 x0 () hm0 rfl rfl (fun z0 hn0 => ?_) fun n0 a0 z0 w0b hi0 hx0 h hb0 hr0 => ?_
   ·clear hm0
    exact we (bs := [(decide ((cnt 0 x0.length) < (ln x0)), false)]) (φ := fun s' => w0 = .next s') (st' := (sa162_0)) (R' := (Ra162_0)) lv162 26 [false] [] [] 0 [] () hC trivial ⟨(cnt_end hl0), trivial⟩ hn0
   ·unfold F162_l0 at h
    obtain ⟨y2, h3, h⟩ := bindE h
    rcases boolC ((c162_1 a0 y2)) with h4 | h4
    ·replace h := condT h4 h
     have hq := hret0 _ (hr0 _ (sI h).symm)
     replace hq := sI hq
     subst hq
     exact wr (bs := [(decide ((cnt 0 n0) < (ln x0)), true), ((c162_1 a0 y2), true)]) lv162 35 [true, true] [.row (x0.map q119) (cnt 0 n0) (q119 a0), .row (x1.map q119) (cnt 0 n0) (q119 y2)] [] [.tmp 4] 0 [] hC ⟨(row_cnt hx0 hl0), row_get h3, trivial⟩ ⟨(cnt_lt hi0 hl0), h4, trivial⟩
    ·replace h := condF h4 h
     exact we (bs := [(decide ((cnt 0 n0) < (ln x0)), true), ((c162_1 a0 y2), false)]) (φ := fun s' => w0b = .next s') (st' := (st162_0 x0 x1 (n0 + 1))) (R' := (R162_0 (n0 + 1))) lv162 36 [true, false] [.row (x0.map q119) (cnt 0 n0) (q119 a0), .row (x1.map q119) (cnt 0 n0) (q119 y2)] [] 0 [] () hC ⟨(row_cnt hx0 hl0), row_get h3, trivial⟩ ⟨(cnt_lt hi0 hl0), h4, trivial⟩ (sI h).symm
  ·have h := hnext0 _ hs0
   replace h := sI h
   subst h
   exact wr (bs := []) lv162 23 [] [] [] [.tmp 4] 0 [] hC trivial trivial
theorem e162 : Enters Tryz.prog 162 := en Tryz.func162
def lv163 : List Nat := [0, 1, 4, 5, 7, 8, 9, 16]
def st163_0 (x0 : List Bool) (x1 : Bool) (n0 : Nat) (z0 : Unit) : St := [(0, .d (DS pB x0)), (1, dB x1), (4, dI 0), (7, dI (ln x0)), (8, dI (cnt 0 n0))]
def R163_0  (n0 : Nat) (z0 : Unit) : List Res := []
def sa163_0  (z0 : Unit) : St := [(4, dI 0)]
def Ra163_0  (z0 : Unit) : List Res := []
theorem k163 (x0 : List Bool) (x1 : Bool) (r : Int) (h : F163 x0 x1 = some r) : CallOk Tryz.prog 163 [.d (DS pB x0), .d (Bo x1)] [] (.d (I r)) [] := by
 unfold F163 at h
 refine callOk_of 19 Tryz.func163 rfl rfl rfl fun C hC => ?_
 refine ws (bs := []) lv163 26 [] [.len (ln (x0.map pB)) (ln x0)] [] 0 [] (st163_0 x0 x1 0 ()) (R163_0 0 ()) hC ⟨len_map _ _, trivial⟩ trivial ?_
 obtain ⟨w0, hm0, hret0, hnext0⟩ := andThen_inv h
 clear h
 refine WI_cut (by kernel_rfl) (fun s => w0 = .next s) (sa163_0) (Ra163_0) ?_ fun z0 hs0 => ?_
 ·refine WI_blk (by kernel_rfl) ?_
  refine WI_len 0 rfl fun hl0 => ?_
  refine WI_foldI (by kernel_rfl) (F163_l0 x1) (st163_0 x0 x1) (R163_0) w0 x0 () hm0 rfl rfl (fun z0 hn0 => ?_) fun n0 a0 z0 w0b hi0 hx0 h hb0 hr0 => ?_
  ·clear hm0
   exact we (bs := [(decide ((cnt 0 x0.length) < (ln x0)), false)]) (φ := fun s' => w0 = .next s') (st' := (sa163_0)) (R' := (Ra163_0)) lv163 26 [false] [] [] 0 [] () hC trivial ⟨(cnt_end hl0), trivial⟩ hn0
  ·unfold F163_l0 at h
   rcases boolC ((x1 == a0)) with h1 | h1
   ·replace h := condT h1 h
    have hq := hret0 _ (hr0 _ (sI h).symm)
    replace hq := sI hq
    subst hq
    exact wr (bs := [(decide ((cnt 0 n0) < (ln x0)), true), ((x1 == a0), true)]) lv163 35 [true, true] [.row (x0.map pB) (cnt 0 n0) (pB a0)] [] [.tmp 4] 0 [] hC ⟨(row_cnt hx0 hl0), trivial⟩ ⟨(cnt_lt hi0 hl0), h1, trivial⟩
   ·replace h := condF h1 h
    cases h
 ·have h := hnext0 _ hs0
  replace h := sI h
  subst h
  exact wr (bs := []) lv163 23 [] [] [] [.tmp 4] 0 [] hC trivial trivial
theorem e163 : Enters Tryz.prog 163 := en Tryz.func163
theorem k89s1 (x0 : restore_planner) (x1 : Int) (x2 : Int) (r : restore_planner) (h : F89s1 x0 x1 x2 = some r) : CallOk Tryz.prog 89 [.d (.o 0 0), .d (I x1), .d (I x2)] (.box 144 (zb x0.board [.os 1, .os 2, .os 3, .os 4, .os 5, .os 6]) :: zp x0.power [.sl 4 1 (x0.goal.map pB), .sl 42 3 (x0.acts.map q42)]) (.tup []) (.box 144 (zb r.board [.os 1, .os 2, .os 3, .os 4, .os 5, .os 7]) :: zp r.power [.sl 4 1 (r.goal.map pB), .non, .sl 42 3 (r.acts.map q42)]) := by
 unfold F89s1 at h
 refine callOk_of 27 Tryz.func89 rfl rfl rfl fun C hC => ?_
 obtain ⟨y1, h2, h⟩ := bindE h
 obtain ⟨y3, h4, h⟩ := bindE h
 obtain ⟨y5, h6, h⟩ := bindE h
 replace h := sI h
 subst h
 exact wf (bs := []) n3_ 23 [] [.app (x0.acts.map q42) ([(⟨x1, x2, 0⟩ : api_Act)].map q42) 3 (((x0.acts.map q42).length + ([(⟨x1, x2, 0⟩ : api_Act)].map q42).length) * (24 + 1)) (y1.map q42), .row (x0.power.Closed.map pB) x2 (pB y3), .upd (x0.power.Closed.map pB) (Int.toNat x2) (pB y3) (pB (x1 == 1)) (y5.map pB)] [] [] 7 n8_ hC ⟨app_get q42 3 (fun _ => rfl) h2, row_get h4, upd_get h4 h6, trivial⟩ trivial
theorem e89s1 : Enters Tryz.prog 89 := en Tryz.func89
theorem k235 (x0 : Int) (x1 : Int) (r : Int × Int) (h : F235 x0 x1 = r) : CallOk Tryz.prog 235 [.d (.p (.v (.int .u64 x0))), .d (.p (.v (.int .u64 x1)))] [] (.tup [.d (.p (.v (.int .u64 r.1))), .d (.p (.v (.int .u64 r.2)))]) [] := by
 unfold F235 at h
 refine callOk_of 51 Tryz.func235 rfl rfl rfl fun C hC => ?_
 subst h
 exact wr (bs := []) [0, 1, 4, 5, 6, 7, 8, 9, 10, 11, 12, 13] 45 [] [] [] [.tmp 4, .tmp 5] 0 [] hC trivial trivial
theorem e235 : Enters Tryz.prog 235 := en Tryz.func235
theorem k166 (x0 : List Int) : CallOk Tryz.prog 166 [.d (.p (.s (x0.map pI)))] [] (.d (.fn (.func 229) [] [.o 0 0])) [.box 22 [.p (.s (x0.map pI))]] := by
 refine callOk_of 4 Tryz.func166 rfl rfl rfl fun C hC => ?_
 exact wr (bs := []) [1, 2] 40 [] [] [] [.tmp 2] 0 [0] hC trivial trivial
theorem e166 : Enters Tryz.prog 166 := en Tryz.func166
def lv72 : List Nat := [0, 1, 4, 5, 10, 12, 13, 14, 24]
def st72_0 (x0 : List api_Act) (x1 : List api_Act) (n0 : Nat) (z0 : Unit) : St := [(0, .d (DS q42 x0)), (1, .d (DS q42 x1)), (4, dB false), (12, dI (ln x0)), (13, dI (cnt 0 n0))]
def R72_0  (n0 : Nat) (z0 : Unit) : List Res := []
def sa72_0  (z0 : Unit) : St := [(4, dB false)]
def Ra72_0  (z0 : Unit) : List Res := []
theorem k72 (x0 : List api_Act) (x1 : List api_Act) (r : Bool) (h : F72 x0 x1 = some r) : CallOk Tryz.prog 72 [.d (DS q42 x0), .d (DS q42 x1)] [] (.d (Bo r)) [] := by
 unfold F72 at h
 refine callOk_of 26 Tryz.func72 rfl rfl rfl fun C hC => ?_
 rcases boolC (((ln x0) != (ln x1))) with h1 | h1
 ·replace h := condT h1 h
  cases h
 ·replace h := condF h1 h
  refine ws (bs := [(((ln x0) != (ln x1)), false)]) lv72 31 [false] [.len (ln (x0.map q42)) (ln x0), .len (ln (x1.map q42)) (ln x1), .len (ln (x0.map q42)) (ln x0)] [] 0 [] (st72_0 x0 x1 0 ()) (R72_0 0 ()) hC ⟨len_map _ _, len_map _ _, len_map _ _, trivial⟩ ⟨h1, trivial⟩ ?_
  obtain ⟨w0, hm0, hret0, hnext0⟩ := andThen_inv h
  clear h
  refine WI_cut (by kernel_rfl) (fun s => w0 = .next s) (sa72_0) (Ra72_0) ?_ fun z0 hs0 => ?_
  ·refine WI_blk (by kernel_rfl) ?_
   refine WI_len 0 rfl fun hl0 => ?_
   refine WI_foldI (by kernel_rfl) (F72_l0 x1) (st72_0 x0 x1) (R72_0) w0 x0 () hm0 rfl rfl (fun z0 hn0 => ?_) fun n0 a0 z0 w0b hi0 hx0 h hb0 hr0 => ?_
   ·clear hm0
    exact we (bs := [(decide ((cnt 0 x0.length) < (ln x0)), false)]) (φ := fun s' => w0 = .next s') (st' := (sa72_0)) (R' := (Ra72_0)) lv72 26 [false] [] [] 0 [] () hC trivial ⟨(cnt_end hl0), trivial⟩ hn0
   ·unfold F72_l0 at h
    obtain ⟨y2, h3, h⟩ := bindE h
    rcases boolC ((c72_1 a0 y2)) with h4 | h4
    ·replace h := condT h4 h
     cases h
    ·replace h := condF h4 h
     exact we (bs := [(decide ((cnt 0 n0) < (ln x0)), true), ((c72_1 a0 y2), false)]) (φ := fun s' => w0b = .next s') (st' := (st72_0 x0 x1 (n0 + 1))) (R' := (R72_0 (n0 + 1))) lv72 36 [true, false] [.row (x0.map q42) (cnt 0 n0) (q42 a0), .row (x1.map q42) (cnt 0 n0) (q42 y2)] [] 0 [] () hC ⟨(row_cnt hx0 hl0), row_get h3, trivial⟩ ⟨(cnt_lt hi0 hl0), h4, trivial⟩ (sI h).symm
  ·have h := hnext0 _ hs0
   replace h := sI h
   subst h
   exact wr (bs := []) lv72 23 [] [] [] [.tmp 4] 0 [] hC trivial trivial
theorem e72 : Enters Tryz.prog 72 := en Tryz.func72
theorem k63 (x0 : dynposmake_Src) (x1 : Int) (r : Int × dynposmake_Src) (h : F63 x0 x1 = some r) : CallOk Tryz.prog 63 [.d (.o 0 0), .d (I x1)] [.box 121 (d121 x0)] (.d (I r.1)) [.box 121 (d121 r.2)] := by
 unfold F63 at h
 refine callOk_of 35 Tryz.func63 rfl rfl rfl fun C hC => ?_
 rcases boolC (decide (x0.At ≥ (ln x0.L))) with h1 | h1
 ·replace h := condT h1 h
  replace h := sI h
  subst h
  exact wr (bs := [(decide (x0.At ≥ (ln x0.L)), true)]) [0, 1, 4, 14] 29 [true] [.len (ln (x0.L.map pI)) (ln x0.L)] [] [.tmp 4] 1 [0] hC ⟨len_map _ _, trivial⟩ ⟨h1, trivial⟩
 ·replace h := condF h1 h
  obtain ⟨y2, h3, h⟩ := bindE h
  obtain ⟨y4, h5, h⟩ := bindE h
  replace h := sI h
  subst h
  exact wr (bs := [(decide (x0.At ≥ (ln x0.L)), false)]) [0, 1, 4, 14] 32 [false] [.len (ln (x0.L.map pI)) (ln x0.L), .row (x0.L.map pI) (w64 ((w64 (x0.At + 1)) - 1)) (pI y2), .call 127 [dI y2, dI x1] [] (dI y4) [] []] [] [.tmp 4] 1 [0] hC ⟨len_map _ _, row_get h3, ⟨e127, (k127 y2 x1 _ h5)⟩, trivial⟩ ⟨h1, trivial⟩
theorem e63 : Enters Tryz.prog 63 := en Tryz.func63
def lv64 : List Nat := [0, 1, 2, 3, 4, 6, 7, 16, 25, 33]
theorem k64 (x0 : api_Board) (x1 : api_Part) (r : Bool) (h : F64 x0 x1 = r) : CallOk Tryz.prog 64 [.agg (d29 x0), .agg (d119 x1)] [] (.d (Bo r)) [] := by
 unfold F64 at h
 refine callOk_of 42 Tryz.func64 rfl rfl rfl fun C hC => ?_
 rcases boolC ((x1.Kind == 1)) with h1 | h1
 ·replace h := condT h1 h
  subst h
  exact wr (bs := [((x1.Kind == 1), true)]) lv64 32 [true] [.len (ln (x0.Sources.map q57)) (ln x0.Sources), .call 77 [dI x1.Number, dI 0, dI (w64 ((ln x0.Sources) - 1))] [] (.d (Bo (F77 x1.Number 0 (w64 ((ln x0.Sources) - 1))))) [] []] [] [.tmp 4] 0 [] hC ⟨len_map _ _, ⟨e77, (k77 x1.Number 0 (w64 ((ln x0.Sources) - 1)) _ rfl)⟩, trivial⟩ ⟨h1, trivial⟩
 ·replace h := condF h1 h
  rcases boolC ((x1.Kind == 2)) with h2 | h2
  ·replace h := condT h2 h
   subst h
   exact wr (bs := [((x1.Kind == 1), false), ((x1.Kind == 2), true)]) lv64 35 [false, true] [.len (ln (x0.Breakers.map q66)) (ln x0.Breakers), .call 77 [dI x1.Number, dI 0, dI (w64 ((ln x0.Breakers) - 1))] [] (.d (Bo (F77 x1.Number 0 (w64 ((ln x0.Breakers) - 1))))) [] []] [] [.tmp 4] 0 [] hC ⟨len_map _ _, ⟨e77, (k77 x1.Number 0 (w64 ((ln x0.Breakers) - 1)) _ rfl)⟩, trivial⟩ ⟨h1, h2, trivial⟩
  ·replace h := condF h2 h
   rcases boolC ((x1.Kind == 3)) with h3 | h3
   ·replace h := condT h3 h
    subst h
    exact wr (bs := [((x1.Kind == 1), false), ((x1.Kind == 2), false), ((x1.Kind == 3), true)]) lv64 38 [false, false, true] [.call 77 [dI x1.Number, dI 0, dI (w64 (x0.Buses - 1))] [] (dB (F77 x1.Number 0 (w64 (x0.Buses - 1)))) [] []] [] [.tmp 4] 0 [] hC ⟨⟨e77, (k77 x1.Number 0 (w64 (x0.Buses - 1)) _ rfl)⟩, trivial⟩ ⟨h1, h2, h3, trivial⟩
   ·replace h := condF h3 h
    rcases boolC ((x1.Kind == 4)) with h4 | h4
    ·replace h := condT h4 h
     subst h
     exact wr (bs := [((x1.Kind == 1), false), ((x1.Kind == 2), false), ((x1.Kind == 3), false), ((x1.Kind == 4), true)]) lv64 41 [false, false, false, true] [.len (ln (x0.Consumers.map q108)) (ln x0.Consumers), .call 77 [dI x1.Number, dI 0, dI (w64 ((ln x0.Consumers) - 1))] [] (.d (Bo (F77 x1.Number 0 (w64 ((ln x0.Consumers) - 1))))) [] []] [] [.tmp 4] 0 [] hC ⟨len_map _ _, ⟨e77, (k77 x1.Number 0 (w64 ((ln x0.Consumers) - 1)) _ rfl)⟩, trivial⟩ ⟨h1, h2, h3, h4, trivial⟩
    ·replace h := condF h4 h
     subst h
     exact wr (bs := [((x1.Kind == 1), false), ((x1.Kind == 2), false), ((x1.Kind == 3), false), ((x1.Kind == 4), false)]) lv64 43 [false, false, false, false] [] [] [.tmp 4] 0 [] hC trivial ⟨h1, h2, h3, h4, trivial⟩
theorem e64 : Enters Tryz.prog 64 := en Tryz.func64
def lv151 : List Nat := [0, 1, 2, 3, 4, 6, 7, 8, 10, 11, 12, 13, 23, 25, 26, 37, 38, 47, 48, 57, 61, 62, 63, 64, 69, 74, 75, 76, 82, 86, 87, 88, 94]
def st151_0 (x0 : api_Board) (n0 : Nat) (z0 : Unit) : St := [(1, dO 0 0), (2, dB false), (10, .d (DS q66 x0.Breakers)), (11, dI (ln x0.Breakers)), (12, dI (cnt 0 n0))]
def R151_0 (x0 : api_Board) (n0 : Nat) (z0 : Unit) : List Res := [.box 29 (d29 x0)]
def sa151_0  (z0 : Unit) : St := [(1, dO 0 0), (2, dB false)]
def Ra151_0 (x0 : api_Board) (z0 : Unit) : List Res := [.box 29 (d29 x0)]
def st151_1 (x0 : api_Board) (n0 : Nat) (y9 : List api_Breaker) (n1 : Nat) (z1 : Unit) : St := [(1, dO 0 0), (2, dB false), (4, dO 1 0), (10, .d (DS q66 x0.Breakers)), (11, dI (ln x0.Breakers)), (12, dI (cnt 0 n0)), (61, .d (DS q66 y9)), (62, dI (ln y9)), (63, dI (cnt 0 n1))]
def R151_1 (x0 : api_Board) (a0 : api_Breaker) (n1 : Nat) (z1 : Unit) : List Res := [.box 29 (d29 x0), .box 66 (d66 a0)]
def sa151_1 (x0 : api_Board) (n0 : Nat) (z1 : Unit) : St := [(1, dO 0 0), (2, dB false), (10, .d (DS q66 x0.Breakers)), (11, dI (ln x0.Breakers)), (12, dI (cnt 0 n0))]
def Ra151_1 (x0 : api_Board) (z1 : Unit) : List Res := [.box 29 (d29 x0)]
def st151_2 (x0 : api_Board) (z2 : Int) : St := [(1, dO 0 0), (2, dB false), (74, dI (ln x0.Sources)), (75, dI z2)]
def R151_2 (x0 : api_Board) (z2 : Int) : List Res := [.box 29 (d29 x0)]
def sa151_2  (z2 : Int) : St := [(1, dO 0 0), (2, dB false)]
def Ra151_2 (x0 : api_Board) (z2 : Int) : List Res := [.box 29 (d29 x0)]
def st151_3 (x0 : api_Board) (z3 : Int) : St := [(1, dO 0 0), (2, dB false), (86, dI (ln x0.Consumers)), (87, dI z3)]
def R151_3 (x0 : api_Board) (z3 : Int) : List Res := [.box 29 (d29 x0)]
def sa151_3  (z3 : Int) : St := [(2, dB false)]
def Ra151_3  (z3 : Int) : List Res := []
theorem k151 (x0 : api_Board) (r : Bool) (h : F151 x0 = some r) : CallOk Tryz.prog 151 [.agg (d29 x0)] [] (.d (Bo r)) [] := by
 unfold F151 at h
 refine callOk_of 96 Tryz.func151 rfl rfl rfl fun C hC => ?_
 refine ws (bs := []) lv151 26 [] [.len (ln (x0.Breakers.map q66)) (ln x0.Breakers)] [] 0 [0] (st151_0 x0 0 ()) (R151_0 x0 0 ()) hC ⟨len_map _ _, trivial⟩ trivial ?_
 obtain ⟨w0, hm0, hret0, hnext0⟩ := andThen_inv h
 clear h
 refine WI_cut (by kernel_rfl) (fun s => w0 = .next s) (sa151_0) (Ra151_0 x0) ?_ fun z0 hs0 => ?_
 ·refine WI_blk (by kernel_rfl) ?_
  refine WI_len 10 rfl fun hl0 => ?_
  refine WI_foldI (by kernel_rfl) (F151_l0 x0) (st151_0 x0) (R151_0 x0) w0 x0.Breakers () hm0 rfl rfl (fun z0 hn0 => ?_) fun n0 a0 z0 w0b hi0 hx0 h hb0 hr0 => ?_
  ·clear hm0
   exact we (bs := [(decide ((cnt 0 x0.Breakers.length) < (ln x0.Breakers)), false)]) (φ := fun s' => w0 = .next s') (st' := (sa151_0)) (R' := (Ra151_0 x0)) lv151 26 [false] [] [] 0 [0] () hC trivial ⟨(cnt_end hl0), trivial⟩ hn0
  ·unfold F151_l0 at h
   refine ws (bs := [(decide ((cnt 0 n0) < (ln x0.Breakers)), true)]) lv151 33 [true] [.row (x0.Breakers.map q66) (cnt 0 n0) (q66 a0), .call 77 [dI a0.A, dI 0, dI (w64 (x0.Buses - 1))] [] (dB (F77 a0.A 0 (w64 (x0.Buses - 1)))) [] []] [] 0 [0, 1] [(1, dO 0 0), (2, dB false), (3, dI (cnt 0 n0)), (4, dO 1 0), (10, .d (DS q66 x0.Breakers)), (11, dI (ln x0.Breakers)), (12, dI (cnt 0 n0)), (23, .d (Bo (!(F77 a0.A 0 (w64 (x0.Buses - 1))))))] [.box 29 (d29 x0), .box 66 (d66 a0)] hC ⟨(row_cnt hx0 hl0), ⟨e77, (k77 a0.A 0 (w64 (x0.Buses - 1)) _ rfl)⟩, trivial⟩ ⟨(cnt_lt hi0 hl0), trivial⟩ ?_
   rcases boolC (!(F77 a0.A 0 (w64 (x0.Buses - 1)))) with h1 | h1
   ·replace h := condT h1 h
    have hq := hret0 _ (hr0 _ (sI h).symm)
    replace hq := sI hq
    subst hq
    exact wr (bs := [(!(F77 a0.A 0 (w64 (x0.Buses - 1))), true)]) lv151 24 [true] [] [] [.tmp 2] 0 [] hC trivial ⟨h1, trivial⟩
   ·replace h := condF h1 h
    rcases boolC ((a0.Kind == 1)) with h2 | h2
    ·replace h := condT h2 h
     rcases boolC ((c151_5 x0 a0)) with h3 | h3
     ·replace h := condT h3 h
      have hq := hret0 _ (hr0 _ (sI h).symm)
      replace hq := sI hq
      subst hq
      exact wr (bs := [(!(F77 a0.A 0 (w64 (x0.Buses - 1))), false), ((a0.Kind == 1), true), ((c151_5 x0 a0), true)]) lv151 34 [false, true, true] [.call 77 [dI a0.B, dI (w64 (a0.A + 1)), dI (w64 (x0.Buses - 1))] [] (dB (F77 a0.B (w64 (a0.A + 1)) (w64 (x0.Buses - 1)))) [] []] [] [.tmp 2] 0 [] hC ⟨⟨e77, (k77 a0.B (w64 (a0.A + 1)) (w64 (x0.Buses - 1)) _ rfl)⟩, trivial⟩ ⟨h1, h2, h3, trivial⟩
     ·replace h := condF h3 h
      exact we (bs := [(!(F77 a0.A 0 (w64 (x0.Buses - 1))), false), ((a0.Kind == 1), true), ((c151_5 x0 a0), false)]) (φ := fun s' => w0b = .next s') (st' := (st151_0 x0 (n0 + 1))) (R' := (R151_0 x0 (n0 + 1))) lv151 36 [false, true, false] [.call 77 [dI a0.B, dI (w64 (a0.A + 1)), dI (w64 (x0.Buses - 1))] [] (dB (F77 a0.B (w64 (a0.A + 1)) (w64 (x0.Buses - 1)))) [] []] [] 0 [0] () hC ⟨⟨e77, (k77 a0.B (w64 (a0.A + 1)) (w64 (x0.Buses - 1)) _ rfl)⟩, trivial⟩ ⟨h1, h2, h3, trivial⟩ (sI h).symm
    ·replace h := condF h2 h
     rcases boolC ((a0.Kind == 2)) with h4 | h4
     ·replace h := condT h4 h
      refine ws (bs := [(!(F77 a0.A 0 (w64 (x0.Buses - 1))), false), ((a0.Kind == 1), false), ((a0.Kind == 2), true)]) lv151 34 [false, false, true] [.len (ln (x0.Sources.map q57)) (ln x0.Sources), .call 77 [dI a0.B, dI 0, dI (w64 ((ln x0.Sources) - 1))] [] (.d (Bo (F77 a0.B 0 (w64 ((ln x0.Sources) - 1))))) [] []] [] 0 [0] [(1, dO 0 0), (2, dB false), (10, .d (DS q66 x0.Breakers)), (11, dI (ln x0.Breakers)), (12, dI (cnt 0 n0)), (47, dB (c151_6 x0 a0))] [.box 29 (d29 x0)] hC ⟨len_map _ _, ⟨e77, (k77 a0.B 0 (w64 ((ln x0.Sources) - 1)) _ rfl)⟩, trivial⟩ ⟨h1, h2, h4, trivial⟩ ?_
      rcases boolC ((c151_6 x0 a0)) with h5 | h5
      ·replace h := condT h5 h
       have hq := hret0 _ (hr0 _ (sI h).symm)
       replace hq := sI hq
       subst hq
       exact wr (bs := [((c151_6 x0 a0), true)]) lv151 24 [true] [] [] [.tmp 2] 0 [] hC trivial ⟨h5, trivial⟩
      ·replace h := condF h5 h
       exact we (bs := [((c151_6 x0 a0), false)]) (φ := fun s' => w0b = .next s') (st' := (st151_0 x0 (n0 + 1))) (R' := (R151_0 x0 (n0 + 1))) lv151 26 [false] [] [] 0 [0] () hC trivial ⟨h5, trivial⟩ (sI h).symm
     ·replace h := condF h4 h
      rcases boolC ((a0.Kind == 3)) with h6 | h6
      ·replace h := condT h6 h
       refine ws (bs := [(!(F77 a0.A 0 (w64 (x0.Buses - 1))), false), ((a0.Kind == 1), false), ((a0.Kind == 2), false), ((a0.Kind == 3), true)]) lv151 38 [false, false, false, true] [.len (ln (x0.Consumers.map q108)) (ln x0.Consumers), .call 77 [dI a0.B, dI 0, dI (w64 ((ln x0.Consumers) - 1))] [] (.d (Bo (F77 a0.B 0 (w64 ((ln x0.Consumers) - 1))))) [] []] [] 0 [0, 1] [(1, dO 0 0), (2, dB false), (3, dI (cnt 0 n0)), (4, dO 1 0), (10, .d (DS q66 x0.Breakers)), (11, dI (ln x0.Breakers)), (12, dI (cnt 0 n0)), (57, dB (c151_7 x0 a0))] [.box 29 (d29 x0), .box 66 (d66 a0)] hC ⟨len_map _ _, ⟨e77, (k77 a0.B 0 (w64 ((ln x0.Consumers) - 1)) _ rfl)⟩, trivial⟩ ⟨h1, h2, h4, h6, trivial⟩ ?_
       rcases boolC ((c151_7 x0 a0)) with h7 | h7
       ·replace h := condT h7 h
        have hq := hret0 _ (hr0 _ (sI h).symm)
        replace hq := sI hq
        subst hq
        exact wr (bs := [((c151_7 x0 a0), true)]) lv151 24 [true] [] [] [.tmp 2] 0 [] hC trivial ⟨h7, trivial⟩
       ·replace h := condF h7 h
        obtain ⟨y9, h8, h⟩ := bindE h
        refine ws (bs := [((c151_7 x0 a0), false)]) lv151 25 [false] [.cut (x0.Breakers.map q66) 3 0 (cnt 0 n0) (y9.map q66), .len (ln (y9.map q66)) (ln y9)] [] 0 [0, 1] (st151_1 x0 n0 y9 0 ()) (R151_1 x0 a0 0 ()) hC ⟨cut_get q66 3 (fun _ => rfl) h8, len_map _ _, trivial⟩ ⟨h7, trivial⟩ ?_
        obtain ⟨w1, hm1, hret1, hnext1⟩ := andThen_inv h
        clear h
        refine WI_cut (by kernel_rfl) (fun s => w1 = .next s) (sa151_1 x0 n0) (Ra151_1 x0) ?_ fun z1 hs1 => ?_
        ·refine WI_blk (by kernel_rfl) ?_
         refine WI_len 61 rfl fun hl1 => ?_
         refine WI_foldI (by kernel_rfl) (F151_l1 a0) (st151_1 x0 n0 y9) (R151_1 x0 a0) w1 y9 () hm1 rfl rfl (fun z1 hn1 => ?_) fun n1 a1 z1 w1b hi1 hx1 h hb1 hr1 => ?_
         ·clear hm1
          exact we (bs := [(decide ((cnt 0 y9.length) < (ln y9)), false)]) (φ := fun s' => w1 = .next s') (st' := (sa151_1 x0 n0)) (R' := (Ra151_1 x0)) lv151 26 [false] [] [] 0 [0] () hC trivial ⟨(cnt_end hl1), trivial⟩ hn1
         ·unfold F151_l1 at h
          rcases boolC ((c151_9 a0 a1)) with h10 | h10
          ·replace h := condT h10 h
           have hq := hret1 _ (hr1 _ (sI h).symm)
           replace hq := hret0 _ (hr0 _ (sI hq).symm)
           replace hq := sI hq
           subst hq
           exact wr (bs := [(decide ((cnt 0 n1) < (ln y9)), true), ((c151_9 a0 a1), true)]) lv151 35 [true, true] [.row (y9.map q66) (cnt 0 n1) (q66 a1)] [] [.tmp 2] 0 [] hC ⟨(row_cnt hx1 hl1), trivial⟩ ⟨(cnt_lt hi1 hl1), h10, trivial⟩
          ·replace h := condF h10 h
           exact we (bs := [(decide ((cnt 0 n1) < (ln y9)), true), ((c151_9 a0 a1), false)]) (φ := fun s' => w1b = .next s') (st' := (st151_1 x0 n0 y9 (n1 + 1))) (R' := (R151_1 x0 a0 (n1 + 1))) lv151 36 [true, false] [.row (y9.map q66) (cnt 0 n1) (q66 a1)] [] 0 [0, 1] () hC ⟨(row_cnt hx1 hl1), trivial⟩ ⟨(cnt_lt hi1 hl1), h10, trivial⟩ (sI h).symm
        ·have h := hnext1 _ hs1
         exact we (bs := []) (φ := fun s' => w0b = .next s') (st' := (st151_0 x0 (n0 + 1))) (R' := (R151_0 x0 (n0 + 1))) lv151 24 [] [] [] 0 [0] () hC trivial trivial (sI h).symm
      ·replace h := condF h6 h
       have hq := hret0 _ (hr0 _ (sI h).symm)
       replace hq := sI hq
       subst hq
       exact wr (bs := [(!(F77 a0.A 0 (w64 (x0.Buses - 1))), false), ((a0.Kind == 1), false), ((a0.Kind == 2), false), ((a0.Kind == 3), false)]) lv151 37 [false, false, false, false] [] [] [.tmp 2] 0 [] hC trivial ⟨h1, h2, h4, h6, trivial⟩
 ·have h := hnext0 _ hs0
  refine ws (bs := []) lv151 24 [] [.len (ln (x0.Sources.map q57)) (ln x0.Sources)] [] 0 [0] (st151_2 x0 0) (R151_2 x0 0) hC ⟨len_map _ _, trivial⟩ trivial ?_
  obtain ⟨w2, hm2, hret2, hnext2⟩ := andThen_inv h
  clear h
  refine WI_cut (by kernel_rfl) (fun s => w2 = .next s) (sa151_2) (Ra151_2 x0) ?_ fun z2 hs2 => ?_
  ·refine WI_blk (by kernel_rfl) ?_
   refine WI_while (by kernel_rfl) (F151_l2 x0) (st151_2 x0) (R151_2 x0) w2 1152921504606846976 0 hm2 rfl rfl fun z2 w2b h hb2 hr2 => ?_
   unfold F151_l2 at h
   rcases boolC ((c151_11 x0 z2)) with h11 | h11
   ·replace h := condT h11 h
    obtain ⟨y12, h13, h⟩ := bindE h
    refine ws (bs := [((c151_11 x0 z2), true)]) lv151 32 [true] [.call 79 [.agg (d29 x0), dI 2, dI z2] [] (dS 0) [.sl 3 1 (y12.map pI)] [], .len (ln (y12.map pI)) (ln y12)] [] 0 [0] [(1, dO 0 0), (2, dB false), (74, dI (ln x0.Sources)), (75, dI z2), (82, dB ((ln y12) != 1))] [.box 29 (d29 x0)] hC ⟨⟨e79, (k79 x0 2 z2 _ h13)⟩, len_map _ _, trivial⟩ ⟨h11, trivial⟩ ?_
    rcases boolC (((ln y12) != 1)) with h14 | h14
    ·replace h := condT h14 h
     have hq := hret2 _ (hr2 _ (sI h).symm)
     replace hq := sI hq
     subst hq
     exact wr (bs := [(((ln y12) != 1), true)]) lv151 24 [true] [] [] [.tmp 2] 0 [] hC trivial ⟨h14, trivial⟩
    ·replace h := condF h14 h
     exact we (bs := [(((ln y12) != 1), false)]) (φ := fun s' => w2b = .next s') (st' := (st151_2 x0)) (R' := (R151_2 x0)) lv151 25 [false] [] [] 0 [0] (w64 (z2 + 1)) hC trivial ⟨h14, trivial⟩ (sI h).symm
   ·replace h := condF h11 h
    exact we (bs := [((c151_11 x0 z2), false)]) (φ := fun s' => w2 = .next s') (st' := (sa151_2)) (R' := (Ra151_2 x0)) lv151 26 [false] [] [] 0 [0] z2 hC trivial ⟨h11, trivial⟩ (hb2 _ (sI h).symm)
  ·have h := hnext2 _ hs2
   refine ws (bs := []) lv151 24 [] [.len (ln (x0.Consumers.map q108)) (ln x0.Consumers)] [] 0 [0] (st151_3 x0 0) (R151_3 x0 0) hC ⟨len_map _ _, trivial⟩ trivial ?_
   obtain ⟨w3, hm3, hret3, hnext3⟩ := andThen_inv h
   clear h
   refine WI_cut (by kernel_rfl) (fun s => w3 = .next s) (sa151_3) (Ra151_3) ?_ fun z3 hs3 => ?_
   ·refine WI_blk (by kernel_rfl) ?_
    refine WI_while (by kernel_rfl) (F151_l3 x0) (st151_3 x0) (R151_3 x0) w3 1152921504606846976 0 hm3 rfl rfl fun z3 w3b h hb3 hr3 => ?_
    unfold F151_l3 at h
    rcases boolC ((c151_13 x0 z3)) with h15 | h15
    ·replace h := condT h15 h
     obtain ⟨y16, h17, h⟩ := bindE h
     refine ws (bs := [((c151_13 x0 z3), true)]) lv151 32 [true] [.call 79 [.agg (d29 x0), dI 3, dI z3] [] (dS 0) [.sl 3 1 (y16.map pI)] [], .len (ln (y16.map pI)) (ln y16)] [] 0 [0] [(1, dO 0 0), (2, dB false), (86, dI (ln x0.Consumers)), (87, dI z3), (94, dB (decide ((ln y16) < 1)))] [.box 29 (d29 x0)] hC ⟨⟨e79, (k79 x0 3 z3 _ h17)⟩, len_map _ _, trivial⟩ ⟨h15, trivial⟩ ?_
     rcases boolC (decide ((ln y16) < 1)) with h18 | h18
     ·replace h := condT h18 h
      have hq := hret3 _ (hr3 _ (sI h).symm)
      replace hq := sI hq
      subst hq
      exact wr (bs := [(decide ((ln y16) < 1), true)]) lv151 24 [true] [] [] [.tmp 2] 0 [] hC trivial ⟨h18, trivial⟩
     ·replace h := condF h18 h
      exact we (bs := [(decide ((ln y16) < 1), false)]) (φ := fun s' => w3b = .next s') (st' := (st151_3 x0)) (R' := (R151_3 x0)) lv151 25 [false] [] [] 0 [0] (w64 (z3 + 1)) hC trivial ⟨h18, trivial⟩ (sI h).symm
    ·replace h := condF h15 h
     exact we (bs := [((c151_13 x0 z3), false)]) (φ := fun s' => w3 = .next s') (st' := (sa151_3)) (R' := (Ra151_3)) lv151 26 [false] [] [] 0 [] z3 hC trivial ⟨h15, trivial⟩ (hb3 _ (sI h).symm)
   ·have h := hnext3 _ hs3
    replace h := sI h
    subst h
    exact wr (bs := []) lv151 23 [] [] [] [.tmp 2] 0 [] hC trivial trivial
theorem e151 : Enters Tryz.prog 151 := en Tryz.func151
def lv152 : List Nat := [0, 1, 2, 4, 6, 7, 8, 9, 29]
def st152_0 (x0 : api_Board) (n0 : Nat) (z0 : Unit) : St := [(2, dB false), (6, .d (DS q57 x0.Sources)), (7, dI (ln x0.Sources)), (8, dI (cnt 0 n0))]
def R152_0  (n0 : Nat) (z0 : Unit) : List Res := []
def sa152_0  (z0 : Unit) : St := [(2, dB false)]
def Ra152_0  (z0 : Unit) : List Res := []
theorem k152 (x0 : api_Board) (r : Bool) (h : F152 x0 = some r) : CallOk Tryz.prog 152 [.agg (d29 x0)] [] (.d (Bo r)) [] := by
 unfold F152 at h
 refine callOk_of 31 Tryz.func152 rfl rfl rfl fun C hC => ?_
 refine ws (bs := []) lv152 26 [] [.len (ln (x0.Sources.map q57)) (ln x0.Sources)] [] 0 [] (st152_0 x0 0 ()) (R152_0 0 ()) hC ⟨len_map _ _, trivial⟩ trivial ?_
 obtain ⟨w0, hm0, hret0, hnext0⟩ := andThen_inv h
 clear h
 refine WI_cut (by kernel_rfl) (fun s => w0 = .next s) (sa152_0) (Ra152_0) ?_ fun z0 hs0 => ?_
 ·refine WI_blk (by kernel_rfl) ?_
  refine WI_len 6 rfl fun hl0 => ?_
  refine WI_foldI (by kernel_rfl) F152_l0 (st152_0 x0) (R152_0) w0 x0.Sources () hm0 rfl rfl (fun z0 hn0 => ?_) fun n0 a0 z0 w0b hi0 hx0 h hb0 hr0 => ?_
  ·clear hm0
   exact we (bs := [(decide ((cnt 0 x0.Sources.length) < (ln x0.Sources)), false)]) (φ := fun s' => w0 = .next s') (st' := (sa152_0)) (R' := (Ra152_0)) lv152 26 [false] [] [] 0 [] () hC trivial ⟨(cnt_end hl0), trivial⟩ hn0
  ·unfold F152_l0 at h
   refine ws (bs := [(decide ((cnt 0 n0) < (ln x0.Sources)), true)]) lv152 32 [true] [.row (x0.Sources.map q57) (cnt 0 n0) (q57 a0), .call 77 [dI a0.Rating, dI 1, dI 50000] [] (dB (F77 a0.Rating 1 50000)) [] [], .when [(!(F77 a0.Rating 1 50000), false)] (.call 77 [dI a0.Least, dI 0, dI a0.Rating] [] (dB (F77 a0.Least 0 a0.Rating)) [] []), .when [(((!(F77 a0.Rating 1 50000)) || (!(F77 a0.Least 0 a0.Rating))), false)] (.call 77 [dI a0.Start, dI 0, dI 600] [] (dB (F77 a0.Start 0 600)) [] [])] [] 0 [] [(2, dB false), (6, .d (DS q57 x0.Sources)), (7, dI (ln x0.Sources)), (8, dI (cnt 0 n0)), (29, dB (c152_1 a0))] [] hC ⟨(row_cnt hx0 hl0), ⟨e77, (k77 a0.Rating 1 50000 _ rfl)⟩, fun hg => ⟨e77, (k77 a0.Least 0 a0.Rating _ rfl)⟩, fun hg => ⟨e77, (k77 a0.Start 0 600 _ rfl)⟩, trivial⟩ ⟨(cnt_lt hi0 hl0), trivial⟩ ?_
   rcases boolC ((c152_1 a0)) with h1 | h1
   ·replace h := condT h1 h
    have hq := hret0 _ (hr0 _ (sI h).symm)
    replace hq := sI hq
    subst hq
    exact wr (bs := [((c152_1 a0), true)]) lv152 24 [true] [] [] [.tmp 2] 0 [] hC trivial ⟨h1, trivial⟩
   ·replace h := condF h1 h
    exact we (bs := [((c152_1 a0), false)]) (φ := fun s' => w0b = .next s') (st' := (st152_0 x0 (n0 + 1))) (R' := (R152_0 (n0 + 1))) lv152 25 [false] [] [] 0 [] () hC trivial ⟨h1, trivial⟩ (sI h).symm
 ·have h := hnext0 _ hs0
  replace h := sI h
  subst h
  exact wr (bs := []) lv152 23 [] [] [] [.tmp 2] 0 [] hC trivial trivial
theorem e152 : Enters Tryz.prog 152 := en Tryz.func152
def lv153 : List Nat := [0, 1, 2, 3, 4, 5, 6, 8, 9, 10, 11, 44, 46, 47, 48, 49, 71]
def st153_0 (x0 : api_Board) (n0 : Nat) (z0 : Unit) : St := [(2, dB false), (8, .d (DS q108 x0.Consumers)), (9, dI (ln x0.Consumers)), (10, dI (cnt 0 n0))]
def R153_0  (n0 : Nat) (z0 : Unit) : List Res := []
def sa153_0  (z0 : Unit) : St := [(2, dB false)]
def Ra153_0  (z0 : Unit) : List Res := []
def st153_1 (x0 : api_Board) (n0 : Nat) (a0 : api_Consumer) (n1 : Nat) (z1 : Unit) : St := [(2, dB false), (3, dI (cnt 0 n0)), (4, dO 0 0), (8, .d (DS q108 x0.Consumers)), (9, dI (ln x0.Consumers)), (10, dI (cnt 0 n0)), (46, .d (DS pI a0.Needs)), (47, dI (ln a0.Needs)), (48, dI (cnt 0 n1))]
def R153_1 (a0 : api_Consumer) (n1 : Nat) (z1 : Unit) : List Res := [.box 108 (d108 a0)]
def sa153_1 (x0 : api_Board) (n0 : Nat) (z1 : Unit) : St := [(2, dB false), (8, .d (DS q108 x0.Consumers)), (9, dI (ln x0.Consumers)), (10, dI (cnt 0 n0))]
def Ra153_1  (z1 : Unit) : List Res := []
theorem k153 (x0 : api_Board) (r : Bool) (h : F153 x0 = some r) : CallOk Tryz.prog 153 [.agg (d29 x0)] [] (.d (Bo r)) [] := by
 unfold F153 at h
 refine callOk_of 74 Tryz.func153 rfl rfl rfl fun C hC => ?_
 refine ws (bs := []) lv153 26 [] [.len (ln (x0.Consumers.map q108)) (ln x0.Consumers)] [] 0 [] (st153_0 x0 0 ()) (R153_0 0 ()) hC ⟨len_map _ _, trivial⟩ trivial ?_
 obtain ⟨w0, hm0, hret0, hnext0⟩ := andThen_inv h
 clear h
 refine WI_cut (by kernel_rfl) (fun s => w0 = .next s) (sa153_0) (Ra153_0) ?_ fun z0 hs0 => ?_
 ·refine WI_blk (by kernel_rfl) ?_
  refine WI_len 8 rfl fun hl0 => ?_
  refine WI_foldI (by kernel_rfl) F153_l0 (st153_0 x0) (R153_0) w0 x0.Consumers () hm0 rfl rfl (fun z0 hn0 => ?_) fun n0 a0 z0 w0b hi0 hx0 h hb0 hr0 => ?_
  ·clear hm0
   exact we (bs := [(decide ((cnt 0 x0.Consumers.length) < (ln x0.Consumers)), false)]) (φ := fun s' => w0 = .next s') (st' := (sa153_0)) (R' := (Ra153_0)) lv153 26 [false] [] [] 0 [] () hC trivial ⟨(cnt_end hl0), trivial⟩ hn0
  ·unfold F153_l0 at h
   refine ws (bs := [(decide ((cnt 0 n0) < (ln x0.Consumers)), true)]) lv153 33 [true] [.row (x0.Consumers.map q108) (cnt 0 n0) (q108 a0), .call 77 [dI a0.Load, dI 0, dI 50000] [] (dB (F77 a0.Load 0 50000)) [] [], .when [(!(F77 a0.Load 0 50000), false)] (.call 77 [dI a0.Least, dI 0, dI a0.Load] [] (dB (F77 a0.Least 0 a0.Load)) [] []), .when [(((!(F77 a0.Load 0 50000)) || (!(F77 a0.Least 0 a0.Load))), false)] (.call 77 [dI a0.Preference, dI 0, dI 15] [] (dB (F77 a0.Preference 0 15)) [] []), .when [((((!(F77 a0.Load 0 50000)) || (!(F77 a0.Least 0 a0.Load))) || (!(F77 a0.Preference 0 15))), false)] (.call 77 [dI a0.Thruster, dI (-1), dI 7] [] (dB (F77 a0.Thruster (-1) 7)) [] []), .when [(((((!(F77 a0.Load 0 50000)) || (!(F77 a0.Least 0 a0.Load))) || (!(F77 a0.Preference 0 15))) || (!(F77 a0.Thruster (-1) 7))), false)] (.len (ln (a0.Needs.map pI)) (ln a0.Needs))] [] 0 [0] [(2, dB false), (3, dI (cnt 0 n0)), (4, dO 0 0), (8, .d (DS q108 x0.Consumers)), (9, dI (ln x0.Consumers)), (10, dI (cnt 0 n0)), (44, dB (c153_3 a0))] [.box 108 (d108 a0)] hC ⟨(row_cnt hx0 hl0), ⟨e77, (k77 a0.Load 0 50000 _ rfl)⟩, fun hg => ⟨e77, (k77 a0.Least 0 a0.Load _ rfl)⟩, fun hg => ⟨e77, (k77 a0.Preference 0 15 _ rfl)⟩, fun hg => ⟨e77, (k77 a0.Thruster (-1) 7 _ rfl)⟩, fun hg => len_map _ _, trivial⟩ ⟨(cnt_lt hi0 hl0), trivial⟩ ?_
   rcases boolC ((c153_3 a0)) with h1 | h1
   ·replace h := condT h1 h
    have hq := hret0 _ (hr0 _ (sI h).symm)
    replace hq := sI hq
    subst hq
    exact wr (bs := [((c153_3 a0), true)]) lv153 24 [true] [] [] [.tmp 2] 0 [] hC trivial ⟨h1, trivial⟩
   ·replace h := condF h1 h
    refine ws (bs := [((c153_3 a0), false)]) lv153 25 [false] [.len (ln (a0.Needs.map pI)) (ln a0.Needs)] [] 0 [0] (st153_1 x0 n0 a0 0 ()) (R153_1 a0 0 ()) hC ⟨len_map _ _, trivial⟩ ⟨h1, trivial⟩ ?_
    obtain ⟨w1, hm1, hret1, hnext1⟩ := andThen_inv h
    clear h
    refine WI_cut (by kernel_rfl) (fun s => w1 = .next s) (sa153_1 x0 n0) (Ra153_1) ?_ fun z1 hs1 => ?_
    ·refine WI_blk (by kernel_rfl) ?_
     refine WI_len 46 rfl fun hl1 => ?_
     refine WI_foldI (by kernel_rfl) (F153_l1 n0 a0) (st153_1 x0 n0 a0) (R153_1 a0) w1 a0.Needs () hm1 rfl rfl (fun z1 hn1 => ?_) fun n1 a1 z1 w1b hi1 hx1 h hb1 hr1 => ?_
     ·clear hm1
      exact we (bs := [(decide ((cnt 0 a0.Needs.length) < (ln a0.Needs)), false)]) (φ := fun s' => w1 = .next s') (st' := (sa153_1 x0 n0)) (R' := (Ra153_1)) lv153 26 [false] [] [] 0 [] () hC trivial ⟨(cnt_end hl1), trivial⟩ hn1
     ·unfold F153_l1 at h
      obtain ⟨y2, h3, h⟩ := bindE h
      refine ws (bs := [(decide ((cnt 0 n1) < (ln a0.Needs)), true)]) lv153 32 [true] [.row (a0.Needs.map pI) (cnt 0 n1) (pI a1), .call 77 [dI a1, dI 0, dI (w64 ((cnt 0 n0) - 1))] [] (.d (Bo (F77 a1 0 (w64 ((cnt 0 n0) - 1))))) [] [], .when [(!(F77 a1 0 (w64 ((cnt 0 n0) - 1))), false), (decide ((cnt 0 n1) > 0), true)] (.row (a0.Needs.map pI) (w64 ((cnt 0 n1) - 1)) (pI y2))] [] 0 [0] [(2, dB false), (3, dI (cnt 0 n0)), (4, dO 0 0), (8, .d (DS q108 x0.Consumers)), (9, dI (ln x0.Consumers)), (10, dI (cnt 0 n0)), (46, .d (DS pI a0.Needs)), (47, dI (ln a0.Needs)), (48, dI (cnt 0 n1)), (71, dB (c153_5 n0 n1 a1 y2))] [.box 108 (d108 a0)] hC ⟨(row_cnt hx1 hl1), ⟨e77, (k77 a1 0 (w64 ((cnt 0 n0) - 1)) _ rfl)⟩, fun hg => row_get (guardO_get h3 hg), trivial⟩ ⟨(cnt_lt hi1 hl1), trivial⟩ ?_
      rcases boolC ((c153_5 n0 n1 a1 y2)) with h4 | h4
      ·replace h := condT h4 h
       have hq := hret1 _ (hr1 _ (sI h).symm)
       replace hq := hret0 _ (hr0 _ (sI hq).symm)
       replace hq := sI hq
       subst hq
       exact wr (bs := [((c153_5 n0 n1 a1 y2), true)]) lv153 24 [true] [] [] [.tmp 2] 0 [] hC trivial ⟨h4, trivial⟩
      ·replace h := condF h4 h
       exact we (bs := [((c153_5 n0 n1 a1 y2), false)]) (φ := fun s' => w1b = .next s') (st' := (st153_1 x0 n0 a0 (n1 + 1))) (R' := (R153_1 a0 (n1 + 1))) lv153 25 [false] [] [] 0 [0] () hC trivial ⟨h4, trivial⟩ (sI h).symm
    ·have h := hnext1 _ hs1
     exact we (bs := []) (φ := fun s' => w0b = .next s') (st' := (st153_0 x0 (n0 + 1))) (R' := (R153_0 (n0 + 1))) lv153 23 [] [] [] 0 [] () hC trivial trivial (sI h).symm
 ·have h := hnext0 _ hs0
  replace h := sI h
  subst h
  exact wr (bs := []) lv153 23 [] [] [] [.tmp 2] 0 [] hC trivial trivial
theorem e153 : Enters Tryz.prog 153 := en Tryz.func153
theorem k96 (x0 : List Int) (x1 : Int) (r : Bool) (h : F96 x0 x1 = some r) : CallOk Tryz.prog 96 [.d (DS pI x0), .d (I x1)] [] (.d (Bo r)) [] := by
 unfold F96 at h
 refine callOk_of 9 Tryz.func96 rfl rfl rfl fun C hC => ?_
 obtain ⟨y1, h2, h⟩ := bindE h
 replace h := sI h
 subst h
 exact wr (bs := []) [0, 1, 4] 25 [] [.call 177 [.d (DS pI x0), dI x1] [] (dI y1) [] []] [] [.tmp 4] 0 [] hC ⟨⟨e177, (k177 x0 x1 _ h2)⟩, trivial⟩ trivial
theorem e96 : Enters Tryz.prog 96 := en Tryz.func96
def lv260s0 : List Nat := [0, 1, 4, 5, 7, 8, 9, 16]
def st260s0_0 (x0 : List (List Int)) (n0 : Nat) (z0 : Unit) : St := [(0, .d (DS (pL pI) x0)), (1, .d (.fn (.func 233) [] [])), (4, dI 0), (7, dI (ln x0)), (8, dI (cnt 0 n0))]
def R260s0_0  (n0 : Nat) (z0 : Unit) : List Res := []
def sa260s0_0  (z0 : Unit) : St := [(4, dI 0)]
def Ra260s0_0  (z0 : Unit) : List Res := []
theorem k260s0 (x0 : List (List Int)) (r : Int) (h : F260s0 x0 = some r) : CallOk Tryz.prog 260 [.d (DS (pL pI) x0), .d (.fn (.func 233) [] [])] [] (.d (I r)) [] := by
 unfold F260s0 at h
 refine callOk_of 19 Tryz.func260 rfl rfl rfl fun C hC => ?_
 refine ws (bs := []) lv260s0 26 [] [.len (ln (x0.map (pL pI))) (ln x0)] [] 0 [] (st260s0_0 x0 0 ()) (R260s0_0 0 ()) hC ⟨len_map _ _, trivial⟩ trivial ?_
 obtain ⟨w0, hm0, hret0, hnext0⟩ := andThen_inv h
 clear h
 refine WI_cut (by kernel_rfl) (fun s => w0 = .next s) (sa260s0_0) (Ra260s0_0) ?_ fun z0 hs0 => ?_
 ·refine WI_blk (by kernel_rfl) ?_
  refine WI_len 0 rfl fun hl0 => ?_
  refine WI_foldI (by kernel_rfl) F260s0_l0 (st260s0_0 x0) (R260s0_0) w0 x0 () hm0 rfl rfl (fun z0 hn0 => ?_) fun n0 a0 z0 w0b hi0 hx0 h hb0 hr0 => ?_
  ·clear hm0
   exact we (bs := [(decide ((cnt 0 x0.length) < (ln x0)), false)]) (φ := fun s' => w0 = .next s') (st' := (sa260s0_0)) (R' := (Ra260s0_0)) lv260s0 26 [false] [] [] 0 [] () hC trivial ⟨(cnt_end hl0), trivial⟩ hn0
  ·unfold F260s0_l0 at h
   rcases boolC (F233 a0) with h1 | h1
   ·replace h := condT h1 h
    have hq := hret0 _ (hr0 _ (sI h).symm)
    replace hq := sI hq
    subst hq
    exact wr (bs := [(decide ((cnt 0 n0) < (ln x0)), true), (F233 a0, true)]) lv260s0 35 [true, true] [.row (x0.map (pL pI)) (cnt 0 n0) ((pL pI) a0), .call 233 [.d (DS pI a0)] [] (dB (F233 a0)) [] []] [] [.tmp 4] 0 [] hC ⟨(row_cnt hx0 hl0), ⟨e233, (k233 a0 _ rfl)⟩, trivial⟩ ⟨(cnt_lt hi0 hl0), h1, trivial⟩
   ·replace h := condF h1 h
    exact we (bs := [(decide ((cnt 0 n0) < (ln x0)), true), (F233 a0, false)]) (φ := fun s' => w0b = .next s') (st' := (st260s0_0 x0 (n0 + 1))) (R' := (R260s0_0 (n0 + 1))) lv260s0 36 [true, false] [.row (x0.map (pL pI)) (cnt 0 n0) ((pL pI) a0), .call 233 [.d (DS pI a0)] [] (dB (F233 a0)) [] []] [] 0 [] () hC ⟨(row_cnt hx0 hl0), ⟨e233, (k233 a0 _ rfl)⟩, trivial⟩ ⟨(cnt_lt hi0 hl0), h1, trivial⟩ (sI h).symm
 ·have h := hnext0 _ hs0
  replace h := sI h
  subst h
  exact wr (bs := []) lv260s0 23 [] [] [] [.tmp 4] 0 [] hC trivial trivial
theorem e260s0 : Enters Tryz.prog 260 := en Tryz.func260
theorem k173 (x0 : api_Source) (r : Bool) (h : F173 x0 = r) : CallOk Tryz.prog 173 [.agg (d57 x0)] [] (.d (Bo r)) [] := by
 unfold F173 at h
 refine callOk_of 18 Tryz.func173 rfl rfl rfl fun C hC => ?_
 subst h
 exact wr (bs := []) n3_ 25 [] [.call 132 [dI x0.Rating, dI 1, dI 50000] [] (dB (F132 x0.Rating 1 50000)) [] [], .when [(F132 x0.Rating 1 50000, true)] (.call 132 [dI x0.Least, dI 0, dI x0.Rating] [] (dB (F132 x0.Least 0 x0.Rating)) [] []), .when [(((F132 x0.Rating 1 50000) && (F132 x0.Least 0 x0.Rating)), true)] (.call 132 [dI x0.Start, dI 0, dI 600] [] (dB (F132 x0.Start 0 600)) [] [])] [] [.tmp 2] 0 [] hC ⟨⟨e132, (k132 x0.Rating 1 50000 _ rfl)⟩, fun hg => ⟨e132, (k132 x0.Least 0 x0.Rating _ rfl)⟩, fun hg => ⟨e132, (k132 x0.Start 0 600 _ rfl)⟩, trivial⟩ trivial
theorem e173 : Enters Tryz.prog 173 := en Tryz.func173
def lv174 : List Nat := [0, 1, 2, 4, 5, 6, 8, 9, 10, 11, 33]
def st174_0 (x0 : api_Consumer) (x1 : Int) (n0 : Nat) (z0 : Unit) : St := [(1, dI x1), (2, dO 0 0), (4, dB false), (8, .d (DS pI x0.Needs)), (9, dI (ln x0.Needs)), (10, dI (cnt 0 n0))]
def R174_0 (x0 : api_Consumer) (n0 : Nat) (z0 : Unit) : List Res := [.box 108 (d108 x0)]
def sa174_0  (z0 : Unit) : St := [(2, dO 0 0), (4, dB false)]
def Ra174_0 (x0 : api_Consumer) (z0 : Unit) : List Res := [.box 108 (d108 x0)]
theorem k174 (x0 : api_Consumer) (x1 : Int) (r : Bool) (h : F174 x0 x1 = some r) : CallOk Tryz.prog 174 [.agg (d108 x0), .d (I x1)] [] (.d (Bo r)) [] := by
 unfold F174 at h
 refine callOk_of 61 Tryz.func174 rfl rfl rfl fun C hC => ?_
 refine ws (bs := []) lv174 26 [] [.len (ln (x0.Needs.map pI)) (ln x0.Needs)] [] 0 [0] (st174_0 x0 x1 0 ()) (R174_0 x0 0 ()) hC ⟨len_map _ _, trivial⟩ trivial ?_
 obtain ⟨w0, hm0, hret0, hnext0⟩ := andThen_inv h
 clear h
 refine WI_cut (by kernel_rfl) (fun s => w0 = .next s) (sa174_0) (Ra174_0 x0) ?_ fun z0 hs0 => ?_
 ·refine WI_blk (by kernel_rfl) ?_
  refine WI_len 8 rfl fun hl0 => ?_
  refine WI_foldI (by kernel_rfl) (F174_l0 x0 x1) (st174_0 x0 x1) (R174_0 x0) w0 x0.Needs () hm0 rfl rfl (fun z0 hn0 => ?_) fun n0 a0 z0 w0b hi0 hx0 h hb0 hr0 => ?_
  ·clear hm0
   exact we (bs := [(decide ((cnt 0 x0.Needs.length) < (ln x0.Needs)), false)]) (φ := fun s' => w0 = .next s') (st' := (sa174_0)) (R' := (Ra174_0 x0)) lv174 26 [false] [] [] 0 [0] () hC trivial ⟨(cnt_end hl0), trivial⟩ hn0
  ·unfold F174_l0 at h
   obtain ⟨y1, h2, h⟩ := bindE h
   refine ws (bs := [(decide ((cnt 0 n0) < (ln x0.Needs)), true)]) lv174 32 [true] [.row (x0.Needs.map pI) (cnt 0 n0) (pI a0), .call 132 [dI a0, dI 0, dI (w64 (x1 - 1))] [] (dB (F132 a0 0 (w64 (x1 - 1)))) [] [], .when [(!(F132 a0 0 (w64 (x1 - 1))), false), (decide ((cnt 0 n0) > 0), true)] (.row (x0.Needs.map pI) (w64 ((cnt 0 n0) - 1)) (pI y1))] [] 0 [0] [(1, dI x1), (2, dO 0 0), (4, dB false), (8, .d (DS pI x0.Needs)), (9, dI (ln x0.Needs)), (10, dI (cnt 0 n0)), (33, dB (c174_1 x1 n0 a0 y1))] [.box 108 (d108 x0)] hC ⟨(row_cnt hx0 hl0), ⟨e132, (k132 a0 0 (w64 (x1 - 1)) _ rfl)⟩, fun hg => row_get (guardO_get h2 hg), trivial⟩ ⟨(cnt_lt hi0 hl0), trivial⟩ ?_
   rcases boolC ((c174_1 x1 n0 a0 y1)) with h3 | h3
   ·replace h := condT h3 h
    have hq := hret0 _ (hr0 _ (sI h).symm)
    replace hq := sI hq
    subst hq
    exact wr (bs := [((c174_1 x1 n0 a0 y1), true)]) lv174 24 [true] [] [] [.tmp 4] 0 [] hC trivial ⟨h3, trivial⟩
   ·replace h := condF h3 h
    exact we (bs := [((c174_1 x1 n0 a0 y1), false)]) (φ := fun s' => w0b = .next s') (st' := (st174_0 x0 x1 (n0 + 1))) (R' := (R174_0 x0 (n0 + 1))) lv174 25 [false] [] [] 0 [0] () hC trivial ⟨h3, trivial⟩ (sI h).symm
 ·have h := hnext0 _ hs0
  replace h := sI h
  subst h
  exact wr (bs := []) lv174 23 [] [.call 132 [dI x0.Load, dI 0, dI 50000] [] (dB (F132 x0.Load 0 50000)) [] [], .when [(F132 x0.Load 0 50000, true)] (.call 132 [dI x0.Least, dI 0, dI x0.Load] [] (dB (F132 x0.Least 0 x0.Load)) [] []), .when [(((F132 x0.Load 0 50000) && (F132 x0.Least 0 x0.Load)), true)] (.call 132 [dI x0.Preference, dI 0, dI 15] [] (dB (F132 x0.Preference 0 15)) [] []), .when [((((F132 x0.Load 0 50000) && (F132 x0.Least 0 x0.Load)) && (F132 x0.Preference 0 15)), true)] (.call 132 [dI x0.Thruster, dI (-1), dI 7] [] (dB (F132 x0.Thruster (-1) 7)) [] []), .when [(((((F132 x0.Load 0 50000) && (F132 x0.Least 0 x0.Load)) && (F132 x0.Preference 0 15)) && (F132 x0.Thruster (-1) 7)), true)] (.len (ln (x0.Needs.map pI)) (ln x0.Needs))] [] [.tmp 4] 0 [] hC ⟨⟨e132, (k132 x0.Load 0 50000 _ rfl)⟩, fun hg => ⟨e132, (k132 x0.Least 0 x0.Load _ rfl)⟩, fun hg => ⟨e132, (k132 x0.Preference 0 15 _ rfl)⟩, fun hg => ⟨e132, (k132 x0.Thruster (-1) 7 _ rfl)⟩, fun hg => len_map _ _, trivial⟩ trivial
theorem e174 : Enters Tryz.prog 174 := en Tryz.func174
def lv210 : List Nat := [0, 1, 4, 5, 6, 11, 12, 13, 16, 19]
theorem k210 (x0 : Int) (x1 : Int) (r : Int) (h : F210 x0 x1 = r) : CallOk Tryz.prog 210 [.d (I x0), .d (I x1)] [] (.d (I r)) [] := by
 unfold F210 at h
 refine callOk_of 20 Tryz.func210 rfl rfl rfl fun C hC => ?_
 rcases boolC (F248 x0) with h1 | h1
 ·replace h := condT h1 h
  rcases boolC (F248 x1) with h2 | h2
  ·replace h := condT h2 h
   subst h
   exact wr (bs := [(F248 x0, true), (F248 x1, true)]) lv210 37 [true, true] [.call 248 [dI x0] [] (dB (F248 x0)) [] [], .call 248 [dI x1] [] (dB (F248 x1)) [] []] [] [.tmp 4] 0 [] hC ⟨⟨e248, (k248 x0 _ rfl)⟩, ⟨e248, (k248 x1 _ rfl)⟩, trivial⟩ ⟨h1, h2, trivial⟩
  ·replace h := condF h2 h
   subst h
   exact wr (bs := [(F248 x0, true), (F248 x1, false)]) lv210 38 [true, false] [.call 248 [dI x0] [] (dB (F248 x0)) [] [], .call 248 [dI x1] [] (dB (F248 x1)) [] []] [] [.tmp 4] 0 [] hC ⟨⟨e248, (k248 x0 _ rfl)⟩, ⟨e248, (k248 x1 _ rfl)⟩, trivial⟩ ⟨h1, h2, trivial⟩
 ·replace h := condF h1 h
  rcases boolC (F248 x1) with h3 | h3
  ·replace h := condT h3 h
   subst h
   exact wr (bs := [(F248 x0, false), (F248 x1, true)]) lv210 38 [false, true] [.call 248 [dI x0] [] (dB (F248 x0)) [] [], .call 248 [dI x1] [] (dB (F248 x1)) [] []] [] [.tmp 4] 0 [] hC ⟨⟨e248, (k248 x0 _ rfl)⟩, ⟨e248, (k248 x1 _ rfl)⟩, trivial⟩ ⟨h1, h3, trivial⟩
  ·replace h := condF h3 h
   rcases boolC (decide (x0 < x1)) with h4 | h4
   ·replace h := condT h4 h
    subst h
    exact wr (bs := [(F248 x0, false), (F248 x1, false), (decide (x0 < x1), true)]) lv210 43 [false, false, true] [.call 248 [dI x0] [] (dB (F248 x0)) [] [], .call 248 [dI x1] [] (dB (F248 x1)) [] []] [] [.tmp 4] 0 [] hC ⟨⟨e248, (k248 x0 _ rfl)⟩, ⟨e248, (k248 x1 _ rfl)⟩, trivial⟩ ⟨h1, h3, h4, trivial⟩
   ·replace h := condF h4 h
    rcases boolC (decide (x0 > x1)) with h5 | h5
    ·replace h := condT h5 h
     subst h
     exact wr (bs := [(F248 x0, false), (F248 x1, false), (decide (x0 < x1), false), (decide (x0 > x1), true)]) lv210 48 [false, false, false, true] [.call 248 [dI x0] [] (dB (F248 x0)) [] [], .call 248 [dI x1] [] (dB (F248 x1)) [] []] [] [.tmp 4] 0 [] hC ⟨⟨e248, (k248 x0 _ rfl)⟩, ⟨e248, (k248 x1 _ rfl)⟩, trivial⟩ ⟨h1, h3, h4, h5, trivial⟩
    ·replace h := condF h5 h
     subst h
     exact wr (bs := [(F248 x0, false), (F248 x1, false), (decide (x0 < x1), false), (decide (x0 > x1), false)]) lv210 49 [false, false, false, false] [.call 248 [dI x0] [] (dB (F248 x0)) [] [], .call 248 [dI x1] [] (dB (F248 x1)) [] []] [] [.tmp 4] 0 [] hC ⟨⟨e248, (k248 x0 _ rfl)⟩, ⟨e248, (k248 x1 _ rfl)⟩, trivial⟩ ⟨h1, h3, h4, h5, trivial⟩
theorem e210 : Enters Tryz.prog 210 := en Tryz.func210
theorem k131 (x0 : api_Running) (r : Bool) (h : F131 x0 = r) : CallOk Tryz.prog 131 [.agg (d59 x0)] [] (.d (Bo r)) [] := by
 unfold F131 at h
 refine callOk_of 21 Tryz.func131 rfl rfl rfl fun C hC => ?_
 subst h
 exact wr (bs := []) n3_ 25 [] [.call 132 [dI x0.State, dI 0, dI 3] [] (dB (F132 x0.State 0 3)) [] [], .when [(F132 x0.State 0 3, true)] (.call 132 [dI x0.Since, dI 0, dI 2147483648] [] (dB (F132 x0.Since 0 2147483648)) [] []), .when [(((F132 x0.State 0 3) && (F132 x0.Since 0 2147483648)), true)] (.call 132 [dI x0.Frequency, dI 0, dI 6000] [] (dB (F132 x0.Frequency 0 6000)) [] []), .when [((((F132 x0.State 0 3) && (F132 x0.Since 0 2147483648)) && (F132 x0.Frequency 0 6000)), true)] (.call 132 [dI x0.Phase, dI 0, dI 3599] [] (dB (F132 x0.Phase 0 3599)) [] [])] [] [.tmp 2] 0 [] hC ⟨⟨e132, (k132 x0.State 0 3 _ rfl)⟩, fun hg => ⟨e132, (k132 x0.Since 0 2147483648 _ rfl)⟩, fun hg => ⟨e132, (k132 x0.Frequency 0 6000 _ rfl)⟩, fun hg => ⟨e132, (k132 x0.Phase 0 3599 _ rfl)⟩, trivial⟩ trivial
theorem e131 : Enters Tryz.prog 131 := en Tryz.func131
theorem k70 (x0 : api_Power) (r : api_Power) (h : F70 x0 = some r) : CallOk Tryz.prog 70 [.agg (d35 x0)] [] (.agg [.os 0, .os 1, .os 2, .os 3]) (zp r []) := by
 unfold F70 at h
 refine callOk_of 16 Tryz.func70 rfl rfl rfl fun C hC => ?_
 obtain ⟨y1, h2, h⟩ := bindE h
 obtain ⟨y3, h4, h⟩ := bindE h
 obtain ⟨y5, h6, h⟩ := bindE h
 obtain ⟨y7, h8, h⟩ := bindE h
 replace h := sI h
 subst h
 exact wr (bs := []) n3_ 25 [] [.call 138 [.d (DS pB x0.Closed)] [] (dS 0) [.sl 4 1 (y1.map pB)] [], .call 139 [.d (DS q59 x0.Sources)] [] (dS 0) [.sl 59 4 (y3.map q59)] [], .call 140 [.d (DS pI x0.Limits)] [] (dS 0) [.sl 3 1 (y5.map pI)] [], .call 141 [.d (DS q119 x0.Broken)] [] (dS 0) [.sl 119 2 (y7.map q119)] []] [] [.cell 2 35] 0 [2, 3, 4, 5] hC ⟨⟨e138, (k138 x0.Closed _ h2)⟩, ⟨e139, (k139 x0.Sources _ h4)⟩, ⟨e140, (k140 x0.Limits _ h6)⟩, ⟨e141, (k141 x0.Broken _ h8)⟩, trivial⟩ trivial
theorem e70 : Enters Tryz.prog 70 := en Tryz.func70
def lv69 : List Nat := [0, 1, 2, 3, 4, 6, 7, 14, 21, 27, 39]
def sa69_0 (x1 : api_Act) (z0 : Bool) : St := [(2, dO 0 0), (3, dO 1 0), (4, dB false), (6, dI x1.Kind), (7, dB z0)]
def Ra69_0 (x0 : api_Board) (x1 : api_Act) (z0 : Bool) : List Res := [.box 29 (d29 x0), .box 42 (d42 x1)]
def sa69_1 (x1 : api_Act) (z1 : Bool) : St := [(2, dO 0 0), (3, dO 1 0), (4, dB false), (6, dI x1.Kind), (14, dB z1)]
def Ra69_1 (x0 : api_Board) (x1 : api_Act) (z1 : Bool) : List Res := [.box 29 (d29 x0), .box 42 (d42 x1)]
theorem k69 (x0 : api_Board) (x1 : api_Act) (r : Bool) (h : F69 x0 x1 = some r) : CallOk Tryz.prog 69 [.agg (d29 x0), .agg (d42 x1)] [] (.d (Bo r)) [] := by
 unfold F69 at h
 refine callOk_of 48 Tryz.func69 rfl rfl rfl fun C hC => ?_
 refine ws (bs := []) lv69 30 [] [] [] 0 [0, 1] [(2, dO 0 0), (3, dO 1 0), (4, dB false), (6, dI x1.Kind), (7, dB (x1.Kind == 1))] [.box 29 (d29 x0), .box 42 (d42 x1)] hC trivial trivial ?_
 obtain ⟨w0, h, hret0, hnext0⟩ := andThen_inv h
 refine WI_cut (by kernel_rfl) (fun s => w0 = .next s) (sa69_0 x1) (Ra69_0 x0 x1) ?_ fun z0 hs0 => ?_
 ·unfold F69_m0 at h
  rcases boolC ((x1.Kind == 1)) with h1 | h1
  ·replace h := condT h1 h
   exact we (bs := [((x1.Kind == 1), true)]) (φ := fun s' => w0 = .next s') (st' := (sa69_0 x1)) (R' := (Ra69_0 x0 x1)) lv69 23 [true] [] [] 0 [0, 1] (x1.Kind == 1) hC trivial ⟨h1, trivial⟩ (sI h).symm
  ·replace h := condF h1 h
   exact we (bs := [((x1.Kind == 1), false)]) (φ := fun s' => w0 = .next s') (st' := (sa69_0 x1)) (R' := (Ra69_0 x0 x1)) lv69 23 [false] [] [] 0 [0, 1] (x1.Kind == 2) hC trivial ⟨h1, trivial⟩ (sI h).symm
 ·clear h; have h := hnext0 _ hs0
  rcases boolC (z0) with h2 | h2
  ·replace h := condT h2 h
   replace h := sI h
   subst h
   exact wr (bs := [(z0, true)]) lv69 24 [true] [.call 137 [.agg (d29 x0), dI 2, dI x1.Unit] [] (dB (F137 x0 2 x1.Unit)) [] []] [] [.tmp 4] 0 [] hC ⟨⟨e137, (k137 x0 2 x1.Unit _ rfl)⟩, trivial⟩ ⟨h2, trivial⟩
  ·replace h := condF h2 h
   refine ws (bs := [(z0, false)]) lv69 25 [false] [] [] 0 [0, 1] [(2, dO 0 0), (3, dO 1 0), (4, dB false), (6, dI x1.Kind), (14, dB (x1.Kind == 3))] [.box 29 (d29 x0), .box 42 (d42 x1)] hC trivial ⟨h2, trivial⟩ ?_
   obtain ⟨w1, h, hret1, hnext1⟩ := andThen_inv h
   refine WI_cut (by kernel_rfl) (fun s => w1 = .next s) (sa69_1 x1) (Ra69_1 x0 x1) ?_ fun z1 hs1 => ?_
   ·unfold F69_m1 at h
    rcases boolC ((x1.Kind == 3)) with h3 | h3
    ·replace h := condT h3 h
     exact we (bs := [((x1.Kind == 3), true)]) (φ := fun s' => w1 = .next s') (st' := (sa69_1 x1)) (R' := (Ra69_1 x0 x1)) lv69 23 [true] [] [] 0 [0, 1] (x1.Kind == 3) hC trivial ⟨h3, trivial⟩ (sI h).symm
    ·replace h := condF h3 h
     exact we (bs := [((x1.Kind == 3), false)]) (φ := fun s' => w1 = .next s') (st' := (sa69_1 x1)) (R' := (Ra69_1 x0 x1)) lv69 23 [false] [] [] 0 [0, 1] (x1.Kind == 4) hC trivial ⟨h3, trivial⟩ (sI h).symm
   ·clear h; have h := hnext1 _ hs1
    rcases boolC (z1) with h4 | h4
    ·replace h := condT h4 h
     replace h := sI h
     subst h
     exact wr (bs := [(z1, true)]) lv69 24 [true] [.call 137 [.agg (d29 x0), dI 1, dI x1.Unit] [] (dB (F137 x0 1 x1.Unit)) [] []] [] [.tmp 4] 0 [] hC ⟨⟨e137, (k137 x0 1 x1.Unit _ rfl)⟩, trivial⟩ ⟨h4, trivial⟩
    ·replace h := condF h4 h
     rcases boolC ((x1.Kind == 5)) with h5 | h5
     ·replace h := condT h5 h
      replace h := sI h
      subst h
      exact wr (bs := [(z1, false), ((x1.Kind == 5), true)]) lv69 27 [false, true] [.call 137 [.agg (d29 x0), dI 4, dI x1.Unit] [] (dB (F137 x0 4 x1.Unit)) [] []] [] [.tmp 4] 0 [] hC ⟨⟨e137, (k137 x0 4 x1.Unit _ rfl)⟩, trivial⟩ ⟨h4, h5, trivial⟩
     ·replace h := condF h5 h
      rcases boolC ((x1.Kind == 6)) with h6 | h6
      ·replace h := condT h6 h
       replace h := sI h
       subst h
       exact wr (bs := [(z1, false), ((x1.Kind == 5), false), ((x1.Kind == 6), true)]) lv69 30 [false, false, true] [.call 137 [.agg (d29 x0), dI 1, dI x1.Unit] [] (dB (F137 x0 1 x1.Unit)) [] [], .when [(F137 x0 1 x1.Unit, true)] (.call 137 [.agg (d29 x0), dI 3, dI x1.Value] [] (dB (F137 x0 3 x1.Value)) [] [])] [] [.tmp 4] 0 [] hC ⟨⟨e137, (k137 x0 1 x1.Unit _ rfl)⟩, fun hg => ⟨e137, (k137 x0 3 x1.Value _ rfl)⟩, trivial⟩ ⟨h4, h5, h6, trivial⟩
      ·replace h := condF h6 h
       rcases boolC ((x1.Kind == 8)) with h7 | h7
       ·replace h := condT h7 h
        replace h := sI h
        subst h
        exact wr (bs := [(z1, false), ((x1.Kind == 5), false), ((x1.Kind == 6), false), ((x1.Kind == 8), true), ((x1.Kind == 8), true)]) lv69 36 [false, false, false, true, true] [.call 137 [.agg (d29 x0), dI x1.Value, dI x1.Unit] [] (dB (F137 x0 x1.Value x1.Unit)) [] []] [] [.tmp 4] 0 [] hC ⟨⟨e137, (k137 x0 x1.Value x1.Unit _ rfl)⟩, trivial⟩ ⟨h4, h5, h6, h7, h7, trivial⟩
       ·replace h := condF h7 h
        rcases boolC ((x1.Kind == 9)) with h8 | h8
        ·replace h := condT h8 h
         replace h := sI h
         subst h
         exact wr (bs := [(z1, false), ((x1.Kind == 5), false), ((x1.Kind == 6), false), ((x1.Kind == 8), false), ((x1.Kind == 9), true)]) lv69 36 [false, false, false, false, true] [.call 137 [.agg (d29 x0), dI x1.Value, dI x1.Unit] [] (dB (F137 x0 x1.Value x1.Unit)) [] []] [] [.tmp 4] 0 [] hC ⟨⟨e137, (k137 x0 x1.Value x1.Unit _ rfl)⟩, trivial⟩ ⟨h4, h5, h6, h7, h8, trivial⟩
        ·replace h := condF h8 h
         replace h := sI h
         subst h
         exact wr (bs := [(z1, false), ((x1.Kind == 5), false), ((x1.Kind == 6), false), ((x1.Kind == 8), false), ((x1.Kind == 9), false)]) lv69 38 [false, false, false, false, false] [] [] [.tmp 4] 0 [] hC trivial ⟨h4, h5, h6, h7, h8, trivial⟩
theorem e69 : Enters Tryz.prog 69 := en Tryz.func69
theorem k212 (x0 : List api_Part) (x1 : api_Part) (r : Bool) (h : F212 x0 x1 = some r) : CallOk Tryz.prog 212 [.d (DS q119 x0), .agg (d119 x1)] [] (.d (Bo r)) [] := by
 unfold F212 at h
 refine callOk_of 9 Tryz.func212 rfl rfl rfl fun C hC => ?_
 obtain ⟨y1, h2, h⟩ := bindE h
 replace h := sI h
 subst h
 exact wr (bs := []) [0, 1, 3, 4] 25 [] [.call 249 [.d (DS q119 x0), .agg (d119 x1)] [] (dI y1) [] []] [] [.tmp 4] 0 [] hC ⟨⟨e249, (k249 x0 x1 _ h2)⟩, trivial⟩ trivial
theorem e212 : Enters Tryz.prog 212 := en Tryz.func212
theorem k188 (x0 : api_Board) (x1 : api_Power) (x2 : Int) (r : Int × Bool) (h : F188 x0 x1 x2 = some r) : CallOk Tryz.prog 188 [.agg (d29 x0), .agg (d35 x1), .d (I x2)] [] (.tup [.d (I r.1), .d (Bo r.2)]) [] := by
 unfold F188 at h
 refine callOk_of 14 Tryz.func188 rfl rfl rfl fun C hC => ?_
 obtain ⟨y1, h2, h⟩ := bindE h
 replace h := sI h
 subst h
 exact wr (bs := []) [0, 1, 2, 3, 4, 6, 7] 25 [] [.call 237 [.agg (d29 x0), .agg (d35 x1), dI 3, dI x2] [] (.tup [dI y1.1, dB y1.2]) [] []] [] [.tmp 6, .tmp 7] 0 [] hC ⟨⟨e237, (k237 x0 x1 3 x2 _ h2)⟩, trivial⟩ trivial
theorem e188 : Enters Tryz.prog 188 := en Tryz.func188
def lv187 : List Nat := [0, 1, 2, 3, 4, 6, 7, 23]
theorem k187 (x0 : api_Board) (x1 : api_Power) (x2 : Int) (r : Int × Bool) (h : F187 x0 x1 x2 = some r) : CallOk Tryz.prog 187 [.agg (d29 x0), .agg (d35 x1), .d (I x2)] [] (.tup [.d (I r.1), .d (Bo r.2)]) [] := by
 unfold F187 at h
 refine callOk_of 30 Tryz.func187 rfl rfl rfl fun C hC => ?_
 obtain ⟨y1, h2, h⟩ := bindE h
 refine ws (bs := []) lv187 26 [] [.len (ln (x1.Sources.map q59)) (ln x1.Sources), .call 132 [dI x2, dI 0, dI (w64 ((ln x1.Sources) - 1))] [] (.d (Bo (F132 x2 0 (w64 ((ln x1.Sources) - 1))))) [] [], .when [(!(F132 x2 0 (w64 ((ln x1.Sources) - 1))), false)] (.row (x1.Sources.map q59) x2 (q59 y1))] [] 0 [0, 1] [(2, dI x2), (3, dO 0 0), (4, dO 1 0), (6, dI 0), (7, dB false), (23, dB (c187_0 x1 x2 y1))] [.box 29 (d29 x0), .box 35 (d35 x1)] hC ⟨len_map _ _, ⟨e132, (k132 x2 0 (w64 ((ln x1.Sources) - 1)) _ rfl)⟩, fun hg => row_get (guardO_get h2 hg), trivial⟩ trivial ?_
 rcases boolC ((c187_0 x1 x2 y1)) with h3 | h3
 ·replace h := condT h3 h
  replace h := sI h
  subst h
  exact wr (bs := [((c187_0 x1 x2 y1), true)]) lv187 24 [true] [] [] [.tmp 6, .tmp 7] 0 [] hC trivial ⟨h3, trivial⟩
 ·replace h := condF h3 h
  obtain ⟨y4, h5, h⟩ := bindE h
  replace h := sI h
  subst h
  exact wr (bs := [((c187_0 x1 x2 y1), false)]) lv187 25 [false] [.call 237 [.agg (d29 x0), .agg (d35 x1), dI 2, dI x2] [] (.tup [dI y4.1, dB y4.2]) [] []] [] [.tmp 6, .tmp 7] 0 [] hC ⟨⟨e237, (k237 x0 x1 2 x2 _ h5)⟩, trivial⟩ ⟨h3, trivial⟩
theorem e187 : Enters Tryz.prog 187 := en Tryz.func187
def lv185s0 : List Nat := [0, 1, 4, 5, 7, 8, 9, 16]
def st185s0_0 (x0 : List api_Island) (n0 : Nat) (z0 : Unit) : St := [(0, .d (DS q78 x0)), (1, .d (.fn (.func 190) [] [])), (4, dI 0), (7, dI (ln x0)), (8, dI (cnt 0 n0))]
def R185s0_0  (n0 : Nat) (z0 : Unit) : List Res := []
def sa185s0_0  (z0 : Unit) : St := [(4, dI 0)]
def Ra185s0_0  (z0 : Unit) : List Res := []
theorem k185s0 (x0 : List api_Island) (r : Int) (h : F185s0 x0 = some r) : CallOk Tryz.prog 185 [.d (DS q78 x0), .d (.fn (.func 190) [] [])] [] (.d (I r)) [] := by
 unfold F185s0 at h
 refine callOk_of 19 Tryz.func185 rfl rfl rfl fun C hC => ?_
 refine ws (bs := []) lv185s0 26 [] [.len (ln (x0.map q78)) (ln x0)] [] 0 [] (st185s0_0 x0 0 ()) (R185s0_0 0 ()) hC ⟨len_map _ _, trivial⟩ trivial ?_
 obtain ⟨w0, hm0, hret0, hnext0⟩ := andThen_inv h
 clear h
 refine WI_cut (by kernel_rfl) (fun s => w0 = .next s) (sa185s0_0) (Ra185s0_0) ?_ fun z0 hs0 => ?_
 ·refine WI_blk (by kernel_rfl) ?_
  refine WI_len 0 rfl fun hl0 => ?_
  refine WI_foldI (by kernel_rfl) F185s0_l0 (st185s0_0 x0) (R185s0_0) w0 x0 () hm0 rfl rfl (fun z0 hn0 => ?_) fun n0 a0 z0 w0b hi0 hx0 h hb0 hr0 => ?_
  ·clear hm0
   exact we (bs := [(decide ((cnt 0 x0.length) < (ln x0)), false)]) (φ := fun s' => w0 = .next s') (st' := (sa185s0_0)) (R' := (Ra185s0_0)) lv185s0 26 [false] [] [] 0 [] () hC trivial ⟨(cnt_end hl0), trivial⟩ hn0
  ·unfold F185s0_l0 at h
   refine ws (bs := [(decide ((cnt 0 n0) < (ln x0)), true)]) lv185s0 32 [true] [.row (x0.map q78) (cnt 0 n0) (q78 a0), .call 190 [.agg (d78 a0)] [] (dB (F190 a0)) [] []] [] 0 [] [(0, .d (DS q78 x0)), (1, .d (.fn (.func 190) [] [])), (4, dI 0), (5, dI (cnt 0 n0)), (7, dI (ln x0)), (8, dI (cnt 0 n0)), (16, dB (F190 a0))] [] hC ⟨(row_cnt hx0 hl0), ⟨e190, (k190 a0 _ rfl)⟩, trivial⟩ ⟨(cnt_lt hi0 hl0), trivial⟩ ?_
   rcases boolC (F190 a0) with h1 | h1
   ·replace h := condT h1 h
    have hq := hret0 _ (hr0 _ (sI h).symm)
    replace hq := sI hq
    subst hq
    exact wr (bs := [(F190 a0, true)]) lv185s0 24 [true] [] [] [.tmp 4] 0 [] hC trivial ⟨h1, trivial⟩
   ·replace h := condF h1 h
    exact we (bs := [(F190 a0, false)]) (φ := fun s' => w0b = .next s') (st' := (st185s0_0 x0 (n0 + 1))) (R' := (R185s0_0 (n0 + 1))) lv185s0 25 [false] [] [] 0 [] () hC trivial ⟨h1, trivial⟩ (sI h).symm
 ·have h := hnext0 _ hs0
  replace h := sI h
  subst h
  exact wr (bs := []) lv185s0 23 [] [] [] [.tmp 4] 0 [] hC trivial trivial
theorem e185s0 : Enters Tryz.prog 185 := en Tryz.func185
theorem k280 (x0 : Int) (x1 : Int) (r : Int) (h : F280 x0 x1 = r) : CallOk Tryz.prog 280 [.d (I x0), .d (I x1)] [] (.d (I r)) [] := by
 unfold F280 at h
 refine callOk_of 17 Tryz.func280 rfl rfl rfl fun C hC => ?_
 refine ws (bs := []) [0, 1, 4, 5, 13] 28 [] [.call 252 [dI x1] [] (dI (F252 x1)) [] [], .call 252 [dI x0] [] (dI (F252 x0)) [] [], .call 252 [dI (w64 ((F252 x1) - (F252 x0)))] [] (.d (I (F252 (w64 ((F252 x1) - (F252 x0)))))) [] []] [] 0 [] [(4, dI 0), (5, .d (I (F252 (w64 ((F252 x1) - (F252 x0)))))), (13, dB (c280_0 x0 x1))] [] hC ⟨⟨e252, (k252 x1 _ rfl)⟩, ⟨e252, (k252 x0 _ rfl)⟩, ⟨e252, (k252 (w64 ((F252 x1) - (F252 x0))) _ rfl)⟩, trivial⟩ trivial ?_
 rcases boolC ((c280_0 x0 x1)) with h1 | h1
 ·replace h := condT h1 h
  subst h
  exact wr (bs := [((c280_0 x0 x1), true)]) [0, 1, 4, 5, 13] 25 [true] [] [] [.tmp 4] 0 [] hC trivial ⟨h1, trivial⟩
 ·replace h := condF h1 h
  subst h
  exact wr (bs := [((c280_0 x0 x1), false)]) [0, 1, 4, 5, 13] 25 [false] [] [] [.tmp 4] 0 [] hC trivial ⟨h1, trivial⟩
theorem e280 : Enters Tryz.prog 280 := en Tryz.func280
def lv135s1 : List Nat := [0, 1, 4, 5, 7, 8, 9, 16]
def st135s1_0 (x0 : List api_Breaker) (n0 : Nat) (z0 : Unit) : St := [(0, .d (DS q66 x0)), (1, .d (.fn (.func 136) [] [.o 0 0])), (4, dI 0), (7, dI (ln x0)), (8, dI (cnt 0 n0))]
def R135s1_0 (x1c0 : Int) (n0 : Nat) (z0 : Unit) : List Res := [.box 3 [I x1c0]]
def sa135s1_0  (z0 : Unit) : St := [(4, dI 0)]
def Ra135s1_0 (x1c0 : Int) (z0 : Unit) : List Res := [.box 3 [I x1c0]]
theorem k135s1 (x0 : List api_Breaker) (x1c0 : Int) (r : Int × Int) (h : F135s1 x0 x1c0 = some r) : CallOk Tryz.prog 135 [.d (DS q66 x0), .d (.fn (.func 136) [] [.o 0 0])] [.box 3 [I x1c0]] (.d (I r.1)) [.box 3 [I r.2]] := by
 unfold F135s1 at h
 refine callOk_of 19 Tryz.func135 rfl rfl rfl fun C hC => ?_
 refine ws (bs := []) lv135s1 26 [] [.len (ln (x0.map q66)) (ln x0)] [] 1 [0] (st135s1_0 x0 0 ()) (R135s1_0 x1c0 0 ()) hC ⟨len_map _ _, trivial⟩ trivial ?_
 obtain ⟨w0, hm0, hret0, hnext0⟩ := andThen_inv h
 clear h
 refine WI_cut (by kernel_rfl) (fun s => w0 = .next s) (sa135s1_0) (Ra135s1_0 x1c0) ?_ fun z0 hs0 => ?_
 ·refine WI_blk (by kernel_rfl) ?_
  refine WI_len 0 rfl fun hl0 => ?_
  refine WI_foldI (by kernel_rfl) (F135s1_l0 x1c0) (st135s1_0 x0) (R135s1_0 x1c0) w0 x0 () hm0 rfl rfl (fun z0 hn0 => ?_) fun n0 a0 z0 w0b hi0 hx0 h hb0 hr0 => ?_
  ·clear hm0
   exact we (bs := [(decide ((cnt 0 x0.length) < (ln x0)), false)]) (φ := fun s' => w0 = .next s') (st' := (sa135s1_0)) (R' := (Ra135s1_0 x1c0)) lv135s1 26 [false] [] [] 1 [0] () hC trivial ⟨(cnt_end hl0), trivial⟩ hn0
  ·unfold F135s1_l0 at h
   refine ws (bs := [(decide ((cnt 0 n0) < (ln x0)), true)]) lv135s1 32 [true] [.row (x0.map q66) (cnt 0 n0) (q66 a0), .callB 136 [.agg (d66 a0), .d (.ip [.v (.int .i64 x1c0)])] (dB (F136s0 a0 x1c0)) [[]] 0 []] [] 1 [0] [(0, .d (DS q66 x0)), (1, .d (.fn (.func 136) [] [.o 0 0])), (4, dI 0), (5, dI (cnt 0 n0)), (7, dI (ln x0)), (8, dI (cnt 0 n0)), (16, dB (F136s0 a0 x1c0))] [.box 3 [I x1c0]] hC ⟨(row_cnt hx0 hl0), lend0_get ⟨e136s0, (k136s0 a0 x1c0 _ rfl)⟩, trivial⟩ ⟨(cnt_lt hi0 hl0), trivial⟩ ?_
   rcases boolC (F136s0 a0 x1c0) with h1 | h1
   ·replace h := condT h1 h
    have hq := hret0 _ (hr0 _ (sI h).symm)
    replace hq := sI hq
    subst hq
    exact wr (bs := [(F136s0 a0 x1c0, true)]) lv135s1 24 [true] [] [] [.tmp 4] 1 [0] hC trivial ⟨h1, trivial⟩
   ·replace h := condF h1 h
    exact we (bs := [(F136s0 a0 x1c0, false)]) (φ := fun s' => w0b = .next s') (st' := (st135s1_0 x0 (n0 + 1))) (R' := (R135s1_0 x1c0 (n0 + 1))) lv135s1 25 [false] [] [] 1 [0] () hC trivial ⟨h1, trivial⟩ (sI h).symm
 ·have h := hnext0 _ hs0
  replace h := sI h
  subst h
  exact wr (bs := []) lv135s1 23 [] [] [] [.tmp 4] 1 [0] hC trivial trivial
theorem e135s1 : Enters Tryz.prog 135 := en Tryz.func135
def lv218s0 : List Nat := [0, 1, 2, 4, 6, 7, 8, 9, 10, 11, 17, 31]
def st218s0_0 (x0 : List api_Part) (z0 : Int × Int) : St := [(0, .d (DS q119 x0)), (2, .d (.fn (.func 219) [] [])), (4, dO 0 0), (6, dI 0), (7, dB false), (8, dI (ln x0)), (9, dI z0.1), (10, dI z0.2)]
def R218s0_0 (x1 : api_Part) (z0 : Int × Int) : List Res := [.box 119 (d119 x1)]
def sa218s0_0 (x0 : List api_Part) (z0 : Int × Int) : St := [(0, .d (DS q119 x0)), (2, .d (.fn (.func 219) [] [])), (4, dO 0 0), (6, dI 0), (7, dB false), (8, dI (ln x0)), (9, dI z0.1)]
def Ra218s0_0 (x1 : api_Part) (z0 : Int × Int) : List Res := [.box 119 (d119 x1)]
theorem k218s0 (x0 : List api_Part) (x1 : api_Part) (r : Int × Bool) (h : F218s0 x0 x1 = some r) : CallOk Tryz.prog 218 [.d (DS q119 x0), .agg (d119 x1), .d (.fn (.func 219) [] [])] [] (.tup [.d (I r.1), .d (Bo r.2)]) [] := by
 unfold F218s0 at h
 refine callOk_of 49 Tryz.func218 rfl rfl rfl fun C hC => ?_
 refine ws (bs := []) lv218s0 28 [] [.len (ln (x0.map q119)) (ln x0)] [] 0 [0] (st218s0_0 x0 (0, (ln x0))) (R218s0_0 x1 (0, (ln x0))) hC ⟨len_map _ _, trivial⟩ trivial ?_
 obtain ⟨w0, hm0, hret0, hnext0⟩ := andThen_inv h
 clear h
 refine WI_cut (by kernel_rfl) (fun s => w0 = .next s) (sa218s0_0 x0) (Ra218s0_0 x1) ?_ fun z0 hs0 => ?_
 ·refine WI_blk (by kernel_rfl) ?_
  refine WI_while (by kernel_rfl) (F218s0_l0 x0 x1) (st218s0_0 x0) (R218s0_0 x1) w0 1152921504606846976 (0, (ln x0)) hm0 rfl rfl fun z0 w0b h hb0 hr0 => ?_
  unfold F218s0_l0 at h
  rcases boolC (decide (z0.1 < z0.2)) with h1 | h1
  ·replace h := condT h1 h
   obtain ⟨y2, h3, h⟩ := bindE h
   refine ws (bs := [(decide (z0.1 < z0.2), true)]) lv218s0 31 [true] [.row (x0.map q119) (w64 (shrI .u64 (IntKind.wrap .u64 (w64 (z0.1 + z0.2))) 1)) (q119 y2), .call 219 [.agg (d119 y2), .agg (d119 x1)] [] (dI (F219 y2 x1)) [] []] [] 0 [0] [(0, .d (DS q119 x0)), (2, .d (.fn (.func 219) [] [])), (4, dO 0 0), (6, dI 0), (7, dB false), (8, dI (ln x0)), (9, dI z0.1), (10, dI z0.2), (11, .d (I (w64 (shrI .u64 (IntKind.wrap .u64 (w64 (z0.1 + z0.2))) 1)))), (31, dB (decide ((F219 y2 x1) < 0)))] [.box 119 (d119 x1)] hC ⟨row_get h3, ⟨e219, (k219 y2 x1 _ rfl)⟩, trivial⟩ ⟨h1, trivial⟩ ?_
   rcases boolC (decide ((F219 y2 x1) < 0)) with h4 | h4
   ·replace h := condT h4 h
    exact we (bs := [(decide ((F219 y2 x1) < 0), true)]) (φ := fun s' => w0b = .next s') (st' := (st218s0_0 x0)) (R' := (R218s0_0 x1)) lv218s0 24 [true] [] [] 0 [0] (w64 ((w64 (shrI .u64 (IntKind.wrap .u64 (w64 (z0.1 + z0.2))) 1)) + 1), z0.2) hC trivial ⟨h4, trivial⟩ (sI h).symm
   ·replace h := condF h4 h
    exact we (bs := [(decide ((F219 y2 x1) < 0), false)]) (φ := fun s' => w0b = .next s') (st' := (st218s0_0 x0)) (R' := (R218s0_0 x1)) lv218s0 24 [false] [] [] 0 [0] (z0.1, w64 (shrI .u64 (IntKind.wrap .u64 (w64 (z0.1 + z0.2))) 1)) hC trivial ⟨h4, trivial⟩ (sI h).symm
  ·replace h := condF h1 h
   exact we (bs := [(decide (z0.1 < z0.2), false)]) (φ := fun s' => w0 = .next s') (st' := (sa218s0_0 x0)) (R' := (Ra218s0_0 x1)) lv218s0 26 [false] [] [] 0 [0] (z0.1, z0.2) hC trivial ⟨h1, trivial⟩ (hb0 _ (sI h).symm)
 ·have h := hnext0 _ hs0
  obtain ⟨y5, h6, h⟩ := bindE h
  replace h := sI h
  subst h
  exact wr (bs := []) lv218s0 23 [] [.when [(decide (z0.1 < (ln x0)), true)] (.row (x0.map q119) z0.1 (q119 y5)), .when [(decide (z0.1 < (ln x0)), true)] (.call 219 [.agg (d119 y5), .agg (d119 x1)] [] (dI (F219 y5 x1)) [] [])] [] [.tmp 6, .tmp 7] 0 [] hC ⟨fun hg => row_get (guardO_get h6 hg), fun hg => ⟨e219, (k219 y5 x1 _ rfl)⟩, trivial⟩ trivial
theorem e218s0 : Enters Tryz.prog 218 := en Tryz.func218
def lv26 : List Nat := [0, 1, 2, 3, 4, 5, 6, 38, 41, 42, 43, 55, 59, 60, 61, 73]
def st26_0 (x0 : api_Power) (z0 : Int) : St := [(2, dO 0 0), (3, dO 1 0), (4, dB false), (41, dI (ln x0.Sources)), (42, dI z0)]
def R26_0 (x0 : api_Power) (x1 : api_Power) (z0 : Int) : List Res := [.box 35 (d35 x0), .box 35 (d35 x1)]
def sa26_0  (z0 : Int) : St := [(2, dO 0 0), (3, dO 1 0), (4, dB false)]
def Ra26_0 (x0 : api_Power) (x1 : api_Power) (z0 : Int) : List Res := [.box 35 (d35 x0), .box 35 (d35 x1)]
def st26_1 (x0 : api_Power) (z1 : Int) : St := [(2, dO 0 0), (3, dO 1 0), (4, dB false), (59, dI (ln x0.Broken)), (60, dI z1)]
def R26_1 (x0 : api_Power) (x1 : api_Power) (z1 : Int) : List Res := [.box 35 (d35 x0), .box 35 (d35 x1)]
def sa26_1  (z1 : Int) : St := [(4, dB false)]
def Ra26_1  (z1 : Int) : List Res := []
theorem k26 (x0 : api_Power) (x1 : api_Power) (r : Bool) (h : F26 x0 x1 = some r) : CallOk Tryz.prog 26 [.agg (d35 x0), .agg (d35 x1)] [] (.d (Bo r)) [] := by
 unfold F26 at h
 refine callOk_of 75 Tryz.func26 rfl rfl rfl fun C hC => ?_
 obtain ⟨y1, h2, h⟩ := bindE h
 obtain ⟨y3, h4, h⟩ := bindE h
 refine ws (bs := []) lv26 26 [] [.call 21 [.d (DS pB x0.Closed), .d (DS pB x1.Closed)] [] (dB y1) [] [], .when [(!y1, false)] (.call 75 [.d (DS pI x0.Limits), .d (DS pI x1.Limits)] [] (dB y3) [] []), .when [(((!y1) || (!y3)), false)] (.len (ln (x0.Sources.map q59)) (ln x0.Sources)), .when [(((!y1) || (!y3)), false)] (.len (ln (x1.Sources.map q59)) (ln x1.Sources)), .when [((((!y1) || (!y3)) || ((ln x0.Sources) != (ln x1.Sources))), false)] (.len (ln (x0.Broken.map q119)) (ln x0.Broken)), .when [((((!y1) || (!y3)) || ((ln x0.Sources) != (ln x1.Sources))), false)] (.len (ln (x1.Broken.map q119)) (ln x1.Broken))] [] 0 [0, 1] [(2, dO 0 0), (3, dO 1 0), (4, dB false), (38, dB (c26_0 x0 x1 y1 y3))] [.box 35 (d35 x0), .box 35 (d35 x1)] hC ⟨⟨e21, (k21 x0.Closed x1.Closed _ h2)⟩, fun hg => ⟨e75, (k75 x0.Limits x1.Limits _ (guardO_get h4 hg))⟩, fun hg => len_map _ _, fun hg => len_map _ _, fun hg => len_map _ _, fun hg => len_map _ _, trivial⟩ trivial ?_
 rcases boolC ((c26_0 x0 x1 y1 y3)) with h5 | h5
 ·replace h := condT h5 h
  replace h := sI h
  subst h
  exact wr (bs := [((c26_0 x0 x1 y1 y3), true)]) lv26 24 [true] [] [] [.tmp 4] 0 [] hC trivial ⟨h5, trivial⟩
 ·replace h := condF h5 h
  refine ws (bs := [((c26_0 x0 x1 y1 y3), false)]) lv26 26 [false] [.len (ln (x0.Sources.map q59)) (ln x0.Sources)] [] 0 [0, 1] (st26_0 x0 0) (R26_0 x0 x1 0) hC ⟨len_map _ _, trivial⟩ ⟨h5, trivial⟩ ?_
  obtain ⟨w0, hm0, hret0, hnext0⟩ := andThen_inv h
  clear h
  refine WI_cut (by kernel_rfl) (fun s => w0 = .next s) (sa26_0) (Ra26_0 x0 x1) ?_ fun z0 hs0 => ?_
  ·refine WI_blk (by kernel_rfl) ?_
   refine WI_while (by kernel_rfl) (F26_l0 x0 x1) (st26_0 x0) (R26_0 x0 x1) w0 1152921504606846976 0 hm0 rfl rfl fun z0 w0b h hb0 hr0 => ?_
   unfold F26_l0 at h
   rcases boolC ((c26_4 x0 z0)) with h6 | h6
   ·replace h := condT h6 h
    obtain ⟨y7, h8, h⟩ := bindE h
    obtain ⟨y9, h10, h⟩ := bindE h
    rcases boolC ((c26_5 y7 y9)) with h11 | h11
    ·replace h := condT h11 h
     have hq := hret0 _ (hr0 _ (sI h).symm)
     replace hq := sI hq
     subst hq
     exact wr (bs := [((c26_4 x0 z0), true), ((c26_5 y7 y9), true)]) lv26 35 [true, true] [.row (x0.Sources.map q59) z0 (q59 y7), .row (x1.Sources.map q59) z0 (q59 y9)] [] [.tmp 4] 0 [] hC ⟨row_get h8, row_get h10, trivial⟩ ⟨h6, h11, trivial⟩
    ·replace h := condF h11 h
     exact we (bs := [((c26_4 x0 z0), true), ((c26_5 y7 y9), false)]) (φ := fun s' => w0b = .next s') (st' := (st26_0 x0)) (R' := (R26_0 x0 x1)) lv26 36 [true, false] [.row (x0.Sources.map q59) z0 (q59 y7), .row (x1.Sources.map q59) z0 (q59 y9)] [] 0 [0, 1] (w64 (z0 + 1)) hC ⟨row_get h8, row_get h10, trivial⟩ ⟨h6, h11, trivial⟩ (sI h).symm
   ·replace h := condF h6 h
    exact we (bs := [((c26_4 x0 z0), false)]) (φ := fun s' => w0 = .next s') (st' := (sa26_0)) (R' := (Ra26_0 x0 x1)) lv26 26 [false] [] [] 0 [0, 1] z0 hC trivial ⟨h6, trivial⟩ (hb0 _ (sI h).symm)
  ·have h := hnext0 _ hs0
   refine ws (bs := []) lv26 24 [] [.len (ln (x0.Broken.map q119)) (ln x0.Broken)] [] 0 [0, 1] (st26_1 x0 0) (R26_1 x0 x1 0) hC ⟨len_map _ _, trivial⟩ trivial ?_
   obtain ⟨w1, hm1, hret1, hnext1⟩ := andThen_inv h
   clear h
   refine WI_cut (by kernel_rfl) (fun s => w1 = .next s) (sa26_1) (Ra26_1) ?_ fun z1 hs1 => ?_
   ·refine WI_blk (by kernel_rfl) ?_
    refine WI_while (by kernel_rfl) (F26_l1 x0 x1) (st26_1 x0) (R26_1 x0 x1) w1 1152921504606846976 0 hm1 rfl rfl fun z1 w1b h hb1 hr1 => ?_
    unfold F26_l1 at h
    rcases boolC ((c26_9 x0 z1)) with h12 | h12
    ·replace h := condT h12 h
     obtain ⟨y13, h14, h⟩ := bindE h
     obtain ⟨y15, h16, h⟩ := bindE h
     rcases boolC ((c26_10 y13 y15)) with h17 | h17
     ·replace h := condT h17 h
      have hq := hret1 _ (hr1 _ (sI h).symm)
      replace hq := sI hq
      subst hq
      exact wr (bs := [((c26_9 x0 z1), true), ((c26_10 y13 y15), true)]) lv26 35 [true, true] [.row (x0.Broken.map q119) z1 (q119 y13), .row (x1.Broken.map q119) z1 (q119 y15)] [] [.tmp 4] 0 [] hC ⟨row_get h14, row_get h16, trivial⟩ ⟨h12, h17, trivial⟩
     ·replace h := condF h17 h
      exact we (bs := [((c26_9 x0 z1), true), ((c26_10 y13 y15), false)]) (φ := fun s' => w1b = .next s') (st' := (st26_1 x0)) (R' := (R26_1 x0 x1)) lv26 36 [true, false] [.row (x0.Broken.map q119) z1 (q119 y13), .row (x1.Broken.map q119) z1 (q119 y15)] [] 0 [0, 1] (w64 (z1 + 1)) hC ⟨row_get h14, row_get h16, trivial⟩ ⟨h12, h17, trivial⟩ (sI h).symm
    ·replace h := condF h12 h
     exact we (bs := [((c26_9 x0 z1), false)]) (φ := fun s' => w1 = .next s') (st' := (sa26_1)) (R' := (Ra26_1)) lv26 26 [false] [] [] 0 [] z1 hC trivial ⟨h12, trivial⟩ (hb1 _ (sI h).symm)
   ·have h := hnext1 _ hs1
    replace h := sI h
    subst h
    exact wr (bs := []) lv26 23 [] [] [] [.tmp 4] 0 [] hC trivial trivial
theorem e26 : Enters Tryz.prog 26 := en Tryz.func26
theorem k61 (x0 : dynposmake_Src) (x1 : Int) (x2 : Int) (r : Int × dynposmake_Src) (h : F61 x0 x1 x2 = some r) : CallOk Tryz.prog 61 [.d (.o 0 0), .d (I x1), .d (I x2)] [.box 121 (d121 x0)] (.d (I r.1)) [.box 121 (d121 r.2)] := by
 unfold F61 at h
 refine callOk_of 15 Tryz.func61 rfl rfl rfl fun C hC => ?_
 obtain ⟨y1, h2, h⟩ := bindE h
 replace h := sI h
 subst h
 exact wr (bs := []) [0, 1, 2, 6] 25 [] [.call 63 [dO 0 0, .d (I (w64 ((w64 (x2 - x1)) + 1)))] [.box 121 (d121 x0)] (dI y1.1) [.box 121 (d121 y1.2)] [0]] [] [.tmp 6] 1 [0] hC ⟨⟨e63, (k63 x0 (w64 ((w64 (x2 - x1)) + 1)) _ h2)⟩, trivial⟩ trivial
theorem e61 : Enters Tryz.prog 61 := en Tryz.func61
theorem k62 (x0 : dynposmake_Src) (x1 : List Int) (r : Int × dynposmake_Src) (h : F62 x0 x1 = some r) : CallOk Tryz.prog 62 [.d (.o 0 0), .d (DS pI x1)] [.box 121 (d121 x0)] (.d (I r.1)) [.box 121 (d121 r.2)] := by
 unfold F62 at h
 refine callOk_of 12 Tryz.func62 rfl rfl rfl fun C hC => ?_
 obtain ⟨y1, h2, h⟩ := bindE h
 obtain ⟨y3, h4, h⟩ := bindE h
 replace h := sI h
 subst h
 exact wr (bs := []) [0, 1, 4] 25 [] [.len (ln (x1.map pI)) (ln x1), .call 63 [dO 0 0, dI (ln x1)] [.box 121 (d121 x0)] (dI y1.1) [.box 121 (d121 y1.2)] [0], .row (x1.map pI) y1.1 (pI y3)] [] [.tmp 4] 1 [0] hC ⟨len_map _ _, ⟨e63, (k63 x0 (ln x1) _ h2)⟩, row_get h4, trivial⟩ trivial
theorem e62 : Enters Tryz.prog 62 := en Tryz.func62
theorem k76 (x0 : api_Board) (r : Int) (h : F76 x0 = some r) : CallOk Tryz.prog 76 [.agg (d29 x0)] [] (.d (I r)) [] := by
 unfold F76 at h
 refine callOk_of 62 Tryz.func76 rfl rfl rfl fun C hC => ?_
 refine ws (bs := []) [0, 1, 2, 28, 61] 26 [] [.when [(((decide (x0.Buses < 1)) || (decide (x0.Buses > 6))), false)] (.len (ln (x0.Breakers.map q66)) (ln x0.Breakers)), .when [((((decide (x0.Buses < 1)) || (decide (x0.Buses > 6))) || (decide ((ln x0.Breakers) > 24))), false)] (.len (ln (x0.Sources.map q57)) (ln x0.Sources)), .when [(((((decide (x0.Buses < 1)) || (decide (x0.Buses > 6))) || (decide ((ln x0.Breakers) > 24))) || (decide ((ln x0.Sources) > 8))), false)] (.len (ln (x0.Consumers.map q108)) (ln x0.Consumers))] [] 0 [0] [(1, dO 0 0), (2, dI 0), (28, dB (c76_0 x0))] [.box 29 (d29 x0)] hC ⟨fun hg => len_map _ _, fun hg => len_map _ _, fun hg => len_map _ _, trivial⟩ trivial ?_
 rcases boolC ((c76_0 x0)) with h1 | h1
 ·replace h := condT h1 h
  replace h := sI h
  subst h
  exact wr (bs := [((c76_0 x0), true)]) [0, 1, 2, 28, 61] 24 [true] [] [] [.tmp 2] 0 [] hC trivial ⟨h1, trivial⟩
 ·replace h := condF h1 h
  obtain ⟨y2, h3, h⟩ := bindE h
  obtain ⟨y4, h5, h⟩ := bindE h
  obtain ⟨y6, h7, h⟩ := bindE h
  refine ws (bs := [((c76_0 x0), false)]) [0, 1, 2, 28, 61] 26 [false] [.call 151 [.agg (d29 x0)] [] (dB y2) [] [], .when [(!y2, false)] (.call 152 [.agg (d29 x0)] [] (dB y4) [] []), .when [(((!y2) || (!y4)), false)] (.call 153 [.agg (d29 x0)] [] (dB y6) [] [])] [] 0 [] [(2, dI 0), (61, dB (c76_1 x0 y2 y4 y6))] [] hC ⟨⟨e151, (k151 x0 _ h3)⟩, fun hg => ⟨e152, (k152 x0 _ (guardO_get h5 hg))⟩, fun hg => ⟨e153, (k153 x0 _ (guardO_get h7 hg))⟩, trivial⟩ ⟨h1, trivial⟩ ?_
  rcases boolC ((c76_1 x0 y2 y4 y6)) with h8 | h8
  ·replace h := condT h8 h
   replace h := sI h
   subst h
   exact wr (bs := [((c76_1 x0 y2 y4 y6), true)]) [0, 1, 2, 28, 61] 24 [true] [] [] [.tmp 2] 0 [] hC trivial ⟨h8, trivial⟩
  ·replace h := condF h8 h
   replace h := sI h
   subst h
   exact wr (bs := [((c76_1 x0 y2 y4 y6), false)]) [0, 1, 2, 28, 61] 25 [false] [] [] [.tmp 2] 0 [] hC trivial ⟨h8, trivial⟩
theorem e76 : Enters Tryz.prog 76 := en Tryz.func76
theorem k232s0 (x0 : List (List Int)) (r : Bool) (h : F232s0 x0 = some r) : CallOk Tryz.prog 232 [.d (DS (pL pI) x0), .d (.fn (.func 233) [] [])] [] (.d (Bo r)) [] := by
 unfold F232s0 at h
 refine callOk_of 9 Tryz.func232 rfl rfl rfl fun C hC => ?_
 obtain ⟨y1, h2, h⟩ := bindE h
 replace h := sI h
 subst h
 exact wr (bs := []) [0, 1, 4] 25 [] [.call 260 [.d (DS (pL pI) x0), .d (.fn (.func 233) [] [])] [] (dI y1) [] []] [] [.tmp 4] 0 [] hC ⟨⟨e260s0, (k260s0 x0 _ h2)⟩, trivial⟩ trivial
theorem e232s0 : Enters Tryz.prog 232 := en Tryz.func232
def lv128 : List Nat := [0, 1, 2, 4, 5, 6, 7, 8, 9, 10, 49]
def st128_0 (x1 : List api_Part) (n0 : Nat) (z0 : Unit) : St := [(1, .d (DS q119 x1)), (2, dO 0 0), (4, dB false), (7, .d (DS q119 x1)), (8, dI (ln x1)), (9, dI (cnt 0 n0))]
def R128_0 (x0 : api_Board) (n0 : Nat) (z0 : Unit) : List Res := [.box 29 (d29 x0)]
def sa128_0 (x1 : List api_Part) (z0 : Unit) : St := [(1, .d (DS q119 x1)), (4, dB false)]
def Ra128_0  (z0 : Unit) : List Res := []
theorem k128 (x0 : api_Board) (x1 : List api_Part) (r : Bool) (h : F128 x0 x1 = some r) : CallOk Tryz.prog 128 [.agg (d29 x0), .d (DS q119 x1)] [] (.d (Bo r)) [] := by
 unfold F128 at h
 refine callOk_of 54 Tryz.func128 rfl rfl rfl fun C hC => ?_
 refine ws (bs := []) lv128 26 [] [.len (ln (x1.map q119)) (ln x1)] [] 0 [0] (st128_0 x1 0 ()) (R128_0 x0 0 ()) hC ⟨len_map _ _, trivial⟩ trivial ?_
 obtain ⟨w0, hm0, hret0, hnext0⟩ := andThen_inv h
 clear h
 refine WI_cut (by kernel_rfl) (fun s => w0 = .next s) (sa128_0 x1) (Ra128_0) ?_ fun z0 hs0 => ?_
 ·refine WI_blk (by kernel_rfl) ?_
  refine WI_len 7 rfl fun hl0 => ?_
  refine WI_foldI (by kernel_rfl) (F128_l0 x0 x1) (st128_0 x1) (R128_0 x0) w0 x1 () hm0 rfl rfl (fun z0 hn0 => ?_) fun n0 a0 z0 w0b hi0 hx0 h hb0 hr0 => ?_
  ·clear hm0
   exact we (bs := [(decide ((cnt 0 x1.length) < (ln x1)), false)]) (φ := fun s' => w0 = .next s') (st' := (sa128_0 x1)) (R' := (Ra128_0)) lv128 26 [false] [] [] 0 [] () hC trivial ⟨(cnt_end hl0), trivial⟩ hn0
  ·unfold F128_l0 at h
   obtain ⟨y1, h2, h⟩ := bindE h
   obtain ⟨y3, h4, h⟩ := bindE h
   obtain ⟨y5, h6, h⟩ := bindE h
   refine ws (bs := [(decide ((cnt 0 n0) < (ln x1)), true)]) lv128 32 [true] [.row (x1.map q119) (cnt 0 n0) (q119 a0), .call 208 [.agg (d29 x0), dI a0.Kind] [] (dI (F208 x0 a0.Kind)) [] [], .call 132 [dI a0.Number, dI 0, dI (w64 ((F208 x0 a0.Kind) - 1))] [] (.d (Bo (F132 a0.Number 0 (w64 ((F208 x0 a0.Kind) - 1))))) [] [], .when [(!(F132 a0.Number 0 (w64 ((F208 x0 a0.Kind) - 1))), false), (decide ((cnt 0 n0) > 0), true)] (.row (x1.map q119) (w64 ((cnt 0 n0) - 1)) (q119 y1)), .when [(!(F132 a0.Number 0 (w64 ((F208 x0 a0.Kind) - 1))), false), (decide ((cnt 0 n0) > 0), true)] (.call 210 [dI y1.Kind, dI a0.Kind] [] (dI (F210 y1.Kind a0.Kind)) [] []), .when [(!(F132 a0.Number 0 (w64 ((F208 x0 a0.Kind) - 1))), false), (decide ((cnt 0 n0) > 0), true)] (.row (x1.map q119) (w64 ((cnt 0 n0) - 1)) (q119 y3)), .when [(!(F132 a0.Number 0 (w64 ((F208 x0 a0.Kind) - 1))), false), (decide ((cnt 0 n0) > 0), true)] (.call 210 [dI y3.Number, dI a0.Number] [] (dI (F210 y3.Number a0.Number)) [] []), .when [(!(F132 a0.Number 0 (w64 ((F208 x0 a0.Kind) - 1))), false), (decide ((cnt 0 n0) > 0), true)] (.call 209 [.d (DS pI [F210 y1.Kind a0.Kind, F210 y3.Number a0.Number])] [] (dI y5) [] [])] [] 0 [0] [(1, .d (DS q119 x1)), (2, dO 0 0), (4, dB false), (7, .d (DS q119 x1)), (8, dI (ln x1)), (9, dI (cnt 0 n0)), (49, dB (c128_1 x0 n0 a0 y5))] [.box 29 (d29 x0)] hC ⟨(row_cnt hx0 hl0), ⟨e208, (k208 x0 a0.Kind _ rfl)⟩, ⟨e132, (k132 a0.Number 0 (w64 ((F208 x0 a0.Kind) - 1)) _ rfl)⟩, fun hg => row_get (guardO_get h2 hg), fun hg => ⟨e210, (k210 y1.Kind a0.Kind _ rfl)⟩, fun hg => row_get (guardO_get h4 hg), fun hg => ⟨e210, (k210 y3.Number a0.Number _ rfl)⟩, fun hg => ⟨e209, (k209 [F210 y1.Kind a0.Kind, F210 y3.Number a0.Number] _ (guardO_get h6 hg))⟩, trivial⟩ ⟨(cnt_lt hi0 hl0), trivial⟩ ?_
   rcases boolC ((c128_1 x0 n0 a0 y5)) with h7 | h7
   ·replace h := condT h7 h
    have hq := hret0 _ (hr0 _ (sI h).symm)
    replace hq := sI hq
    subst hq
    exact wr (bs := [((c128_1 x0 n0 a0 y5), true)]) lv128 24 [true] [] [] [.tmp 4] 0 [] hC trivial ⟨h7, trivial⟩
   ·replace h := condF h7 h
    exact we (bs := [((c128_1 x0 n0 a0 y5), false)]) (φ := fun s' => w0b = .next s') (st' := (st128_0 x1 (n0 + 1))) (R' := (R128_0 x0 (n0 + 1))) lv128 25 [false] [] [] 0 [0] () hC trivial ⟨h7, trivial⟩ (sI h).symm
 ·have h := hnext0 _ hs0
  replace h := sI h
  subst h
  exact wr (bs := []) lv128 23 [] [.len (ln (x1.map q119)) (ln x1)] [] [.tmp 4] 0 [] hC ⟨len_map _ _, trivial⟩ trivial
theorem e128 : Enters Tryz.prog 128 := en Tryz.func128
def lv259s1 : List Nat := [0, 1, 2, 6, 7, 8, 9, 13, 30, 35, 54]
def st259s1_0 (x1 : Int) (z0 : Unit) : St := [(0, dS 0), (1, dI x1), (2, .d (.fn (.func 231) [] [.o 1 0])), (6, dI 20), (7, dI 0), (8, dI 20)]
def R259s1_0 (x0 : List Int) (x2c0 : api_Board) (z0 : Unit) : List Res := [.sl 3 1 (x0.map pI), .box 29 (d29 x2c0)]
def sa259s1_0 (x1 : Int) (z0 : Unit) : St := [(0, dS 0), (1, dI x1), (2, .d (.fn (.func 231) [] [.o 1 0])), (6, dI 20), (7, dI 0), (8, dI 20)]
def Ra259s1_0 (x0 : List Int) (x2c0 : api_Board) (z0 : Unit) : List Res := [.sl 3 1 (x0.map pI), .box 29 (d29 x2c0)]
def st259s1_1 (x1 : Int) (z1 : Unit) : St := [(0, dS 0), (1, dI x1), (2, .d (.fn (.func 231) [] [.o 1 0])), (6, dI 20), (7, dI 0), (8, dI 20)]
def R259s1_1 (x0 : List Int) (x2c0 : api_Board) (z1 : Unit) : List Res := [.sl 3 1 (x0.map pI), .box 29 (d29 x2c0)]
def sa259s1_1  (z1 : Unit) : St := []
def Ra259s1_1 (x0 : List Int) (x2c0 : api_Board) (z1 : Unit) : List Res := [.sl 3 1 (x0.map pI), .box 29 (d29 x2c0)]
theorem k259s1 (x0 : List Int) (x1 : Int) (x2c0 : api_Board) (r : api_Board) (h : F259s1 x0 x1 x2c0 = some r) : CallOk Tryz.prog 259 [.d (.os 0), .d (I x1), .d (.fn (.func 231) [] [.o 1 0])] [.sl 3 1 (x0.map pI), .box 29 (d29 x2c0)] (.tup []) [.sl 3 1 (x0.map pI), .box 29 (d29 r)] := by
 unfold F259s1 at h
 refine callOk_of 63 Tryz.func259 rfl rfl rfl fun C hC => ?_
 refine ws (bs := []) lv259s1 26 [] [] [] 2 [0, 1] (st259s1_0 x1 ()) (R259s1_0 x0 x2c0 ()) hC trivial trivial ?_
 obtain ⟨w0, hm0, hret0, hnext0⟩ := andThen_inv h
 clear h
 refine WI_cut (by kernel_rfl) (fun s => w0 = .next s) (sa259s1_0 x1) (Ra259s1_0 x0 x2c0) ?_ fun z0 hs0 => ?_
 ·refine WI_blk (by kernel_rfl) ?_
  refine WI_while (by kernel_rfl) (F259s1_l0 x1) (st259s1_0 x1) (R259s1_0 x0 x2c0) w0 1152921504606846976 () hm0 rfl rfl fun z0 w0b h hb0 hr0 => ?_
  unfold F259s1_l0 at h
  rcases boolC (decide (20 ≤ x1)) with h1 | h1
  ·replace h := condT h1 h
   cases h
  ·replace h := condF h1 h
   exact we (bs := [(decide (20 ≤ x1), false)]) (φ := fun s' => w0 = .next s') (st' := (sa259s1_0 x1)) (R' := (Ra259s1_0 x0 x2c0)) lv259s1 26 [false] [] [] 2 [0, 1] () hC trivial ⟨h1, trivial⟩ (hb0 _ (sI h).symm)
 ·have h := hnext0 _ hs0
  obtain ⟨y2, h3, h⟩ := bindE h
  refine ws (bs := []) lv259s1 23 [] [.callB 276 [.d (DS pI x0), dI 0, dI x1, .d (.fn (.func 231) [] [.ip [.v (.int .i64 x2c0.Buses), .s (x2c0.Breakers.map q66), .s (x2c0.Sources.map q57), .s (x2c0.Consumers.map q108), .v (.int .i64 x2c0.Phase), .v (.int .i64 x2c0.Frequency)]])] (.tup []) [[]] 0 []] [] 2 [0, 1] (st259s1_1 x1 ()) (R259s1_1 x0 x2c0 ()) hC ⟨lend0_get ⟨e276s0, (k276s0 x0 0 x1 x2c0 _ h3)⟩, trivial⟩ trivial ?_
  obtain ⟨w1, hm1, hret1, hnext1⟩ := andThen_inv h
  clear h
  refine WI_cut (by kernel_rfl) (fun s => w1 = .next s) (sa259s1_1) (Ra259s1_1 x0 x2c0) ?_ fun z1 hs1 => ?_
  ·refine WI_blk (by kernel_rfl) ?_
   refine WI_while (by kernel_rfl) (F259s1_l1 x1) (st259s1_1 x1) (R259s1_1 x0 x2c0) w1 1152921504606846976 () hm1 rfl rfl fun z1 w1b h hb1 hr1 => ?_
   unfold F259s1_l1 at h
   rcases boolC (decide (20 < x1)) with h4 | h4
   ·replace h := condT h4 h
    cases h
   ·replace h := condF h4 h
    exact we (bs := [(decide (20 < x1), false)]) (φ := fun s' => w1 = .next s') (st' := (sa259s1_1)) (R' := (Ra259s1_1 x0 x2c0)) lv259s1 26 [false] [] [] 2 [0, 1] () hC trivial ⟨h4, trivial⟩ (hb1 _ (sI h).symm)
  ·have h := hnext1 _ hs1
   replace h := sI h
   subst h
   exact wf (bs := []) lv259s1 20 [] [] [] [] 2 [0, 1] hC trivial trivial
theorem e259s1 : Enters Tryz.prog 259 := en Tryz.func259
theorem k82 (x0 : api_Power) (x1 : api_Power) (r : Bool) (h : F82 x0 x1 = some r) : CallOk Tryz.prog 82 [.agg (d35 x0), .agg (d35 x1)] [] (.d (Bo r)) [] := by
 unfold F82 at h
 refine callOk_of 31 Tryz.func82 rfl rfl rfl fun C hC => ?_
 obtain ⟨y1, h2, h⟩ := bindE h
 obtain ⟨y3, h4, h⟩ := bindE h
 obtain ⟨y5, h6, h⟩ := bindE h
 obtain ⟨y7, h8, h⟩ := bindE h
 replace h := sI h
 subst h
 exact wr (bs := []) n5_ 25 [] [.call 159 [.d (DS pB x0.Closed), .d (DS pB x1.Closed)] [] (dB y1) [] [], .when [(y1, true)] (.call 160 [.d (DS q59 x0.Sources), .d (DS q59 x1.Sources)] [] (dB y3) [] []), .when [((y1 && y3), true)] (.call 161 [.d (DS pI x0.Limits), .d (DS pI x1.Limits)] [] (dB y5) [] []), .when [(((y1 && y3) && y5), true)] (.call 162 [.d (DS q119 x0.Broken), .d (DS q119 x1.Broken)] [] (dB y7) [] [])] [] [.tmp 4] 0 [] hC ⟨⟨e159, (k159 x0.Closed x1.Closed _ h2)⟩, fun hg => ⟨e160, (k160 x0.Sources x1.Sources _ (guardO_get h4 hg))⟩, fun hg => ⟨e161, (k161 x0.Limits x1.Limits _ (guardO_get h6 hg))⟩, fun hg => ⟨e162, (k162 x0.Broken x1.Broken _ (guardO_get h8 hg))⟩, trivial⟩ trivial
theorem e82 : Enters Tryz.prog 82 := en Tryz.func82
theorem k84 (x0 : List Bool) (x1 : Bool) (r : Bool) (h : F84 x0 x1 = some r) : CallOk Tryz.prog 84 [.d (DS pB x0), .d (Bo x1)] [] (.d (Bo r)) [] := by
 unfold F84 at h
 refine callOk_of 9 Tryz.func84 rfl rfl rfl fun C hC => ?_
 obtain ⟨y1, h2, h⟩ := bindE h
 replace h := sI h
 subst h
 exact wr (bs := []) [0, 1, 4] 25 [] [.call 163 [.d (DS pB x0), dB x1] [] (dI y1) [] []] [] [.tmp 4] 0 [] hC ⟨⟨e163, (k163 x0 x1 _ h2)⟩, trivial⟩ trivial
theorem e84 : Enters Tryz.prog 84 := en Tryz.func84
theorem k179 (x0 : Int) (x1 : Int) (r : Int × Int) (h : F179 x0 x1 = r) : CallOk Tryz.prog 179 [.d (.p (.v (.int .u64 x0))), .d (.p (.v (.int .u64 x1)))] [] (.tup [.d (.p (.v (.int .u64 r.1))), .d (.p (.v (.int .u64 r.2)))]) [] := by
 unfold F179 at h
 refine callOk_of 30 Tryz.func179 rfl rfl rfl fun C hC => ?_
 subst h
 exact wr (bs := [(false, false)]) [0, 1, 4, 5, 6, 7, 8, 9] 30 [false] [.call 235 [.d (.p (.v (.int .u64 x0))), .d (.p (.v (.int .u64 x1)))] [] (.tup [.d (.p (.v (.int .u64 ((F235 x0 x1).1)))), .d (.p (.v (.int .u64 ((F235 x0 x1).2))))]) [] []] [] [.tmp 4, .tmp 5] 0 [] hC ⟨⟨e235, (k235 x0 x1 _ rfl)⟩, trivial⟩ ⟨rfl, trivial⟩
theorem e179 : Enters Tryz.prog 179 := en Tryz.func179
theorem k130 (x0 : api_Running) (r : Bool) (h : F130 x0 = r) : CallOk Tryz.prog 130 [.agg (d59 x0)] [] (.d (Bo r)) [] := by
 unfold F130 at h
 refine callOk_of 6 Tryz.func130 rfl rfl rfl fun C hC => ?_
 subst h
 exact wr (bs := []) n3_ 25 [] [.call 131 [.agg (d59 x0)] [] (dB (F131 x0)) [] []] [] [.tmp 2] 0 [] hC ⟨⟨e131, (k131 x0 _ rfl)⟩, trivial⟩ trivial
theorem e130 : Enters Tryz.prog 130 := en Tryz.func130
theorem k134 (x0 : api_Power) (x1 : Int) (x2 : Int) (r : Bool) (h : F134 x0 x1 x2 = some r) : CallOk Tryz.prog 134 [.agg (d35 x0), .d (I x1), .d (I x2)] [] (.d (Bo r)) [] := by
 unfold F134 at h
 refine callOk_of 13 Tryz.func134 rfl rfl rfl fun C hC => ?_
 obtain ⟨y1, h2, h⟩ := bindE h
 replace h := sI h
 subst h
 exact wr (bs := []) [0, 1, 2, 3, 6] 25 [] [.call 212 [.d (DS q119 x0.Broken), .agg [I x1, I x2]] [] (dB y1) [] []] [] [.tmp 6] 0 [] hC ⟨⟨e212, (k212 x0.Broken (⟨x1, x2⟩ : api_Part) _ h2)⟩, trivial⟩ trivial
theorem e134 : Enters Tryz.prog 134 := en Tryz.func134
def lv189s1 : List Nat := [0, 1, 4, 5, 6, 7, 12, 19, 29]
def st189s1_0  (z0 : Int × Int × (List api_Island)) : St := [(0, dS 0), (1, .d (.fn (.func 190) [] [])), (4, .d (DS q78 [])), (5, dI z0.1), (6, dI z0.2.1)]
def R189s1_0  (z0 : Int × Int × (List api_Island)) : List Res := [.sl 78 3 (z0.2.2.map q78)]
def sa189s1_0  (z0 : Int × Int × (List api_Island)) : St := [(0, dS 0), (4, .d (DS q78 [])), (5, dI z0.1)]
def Ra189s1_0  (z0 : Int × Int × (List api_Island)) : List Res := [.sl 78 3 (z0.2.2.map q78)]
theorem k189s1 (x0 : List api_Island) (r : (List api_Island)) (h : F189s1 x0 = some r) : CallOk Tryz.prog 189 [.d (.os 0), .d (.fn (.func 190) [] [])] [.sl 78 3 (x0.map q78)] (.d (.os 1)) [.non, .sl 78 3 (r.map q78)] := by
 unfold F189s1 at h
 refine callOk_of 42 Tryz.func189 rfl rfl rfl fun C hC => ?_
 obtain ⟨y1, h2, h⟩ := bindE h
 rcases boolC ((y1 == (-1))) with h3 | h3
 ·replace h := condT h3 h
  replace h := sI h
  subst h
  exact wr (bs := [((y1 == (-1)), true)]) lv189s1 31 [true] [.callB 185 [.d (DS q78 x0), .d (.fn (.func 190) [] [])] (dI y1) [[]] 0 []] [.mv 0] [.tmp 4] 1 [0, 1] hC ⟨lend0_get ⟨e185s0, (k185s0 x0 _ h2)⟩, trivial⟩ ⟨h3, trivial⟩
 ·replace h := condF h3 h
  refine ws (bs := [((y1 == (-1)), false)]) lv189s1 33 [false] [.callB 185 [.d (DS q78 x0), .d (.fn (.func 190) [] [])] (dI y1) [[]] 0 []] [] 1 [0] (st189s1_0 (y1, w64 (y1 + 1), x0)) (R189s1_0 (y1, w64 (y1 + 1), x0)) hC ⟨lend0_get ⟨e185s0, (k185s0 x0 _ h2)⟩, trivial⟩ ⟨h3, trivial⟩ ?_
  obtain ⟨w0, hm0, hret0, hnext0⟩ := andThen_inv h
  clear h
  refine WI_cut (by kernel_rfl) (fun s => w0 = .next s) (sa189s1_0) (Ra189s1_0) ?_ fun z0 hs0 => ?_
  ·refine WI_blk (by kernel_rfl) ?_
   refine WI_while (by kernel_rfl) F189s1_l0 (st189s1_0) (R189s1_0) w0 1152921504606846976 (y1, w64 (y1 + 1), x0) hm0 rfl rfl fun z0 w0b h hb0 hr0 => ?_
   unfold F189s1_l0 at h
   rcases boolC ((c189s1_2 z0)) with h4 | h4
   ·replace h := condT h4 h
    obtain ⟨y5, h6, h⟩ := bindE h
    refine ws (bs := [((c189s1_2 z0), true)]) lv189s1 32 [true] [.len (ln (z0.2.2.map q78)) (ln z0.2.2), .row (z0.2.2.map q78) z0.2.1 (q78 y5), .row (z0.2.2.map q78) (((Int.toNat z0.2.1) : Nat) : Int) (q78 y5), .call 190 [.agg (d78 y5)] [] (dB (F190 y5)) [] []] [] 1 [0, 1] [(0, dS 0), (1, .d (.fn (.func 190) [] [])), (4, .d (DS q78 [])), (5, dI z0.1), (6, dI z0.2.1), (7, dO 1 0), (29, dB (!(F190 y5)))] [.sl 78 3 (z0.2.2.map q78), .box 78 (d78 y5)] hC ⟨len_map _ _, row_get h6, row_getN h6, ⟨e190, (k190 y5 _ rfl)⟩, trivial⟩ ⟨h4, trivial⟩ ?_
    rcases boolC (!(F190 y5)) with h7 | h7
    ·replace h := condT h7 h
     obtain ⟨y8, h9, h⟩ := bindE h
     obtain ⟨y10, h11, h⟩ := bindE h
     exact we (bs := [(!(F190 y5), true)]) (φ := fun s' => w0b = .next s') (st' := (st189s1_0)) (R' := (R189s1_0)) lv189s1 27 [true] [.row (z0.2.2.map q78) z0.1 (q78 y8), .upd (z0.2.2.map q78) (Int.toNat z0.1) (q78 y8) (q78 y5) (y10.map q78)] [] 1 [0] (w64 (z0.1 + 1), w64 (z0.2.1 + 1), y10) hC ⟨row_get h9, upd_get h9 h11, trivial⟩ ⟨h7, trivial⟩ (sI h).symm
    ·replace h := condF h7 h
     exact we (bs := [(!(F190 y5), false)]) (φ := fun s' => w0b = .next s') (st' := (st189s1_0)) (R' := (R189s1_0)) lv189s1 25 [false] [] [] 1 [0] (z0.1, w64 (z0.2.1 + 1), z0.2.2) hC trivial ⟨h7, trivial⟩ (sI h).symm
   ·replace h := condF h4 h
    exact we (bs := [((c189s1_2 z0), false)]) (φ := fun s' => w0 = .next s') (st' := (sa189s1_0)) (R' := (Ra189s1_0)) lv189s1 26 [false] [.len (ln (z0.2.2.map q78)) (ln z0.2.2)] [] 1 [0] (z0.1, z0.2.1, z0.2.2) hC ⟨len_map _ _, trivial⟩ ⟨h4, trivial⟩ (hb0 _ (sI h).symm)
  ·have h := hnext0 _ hs0
   obtain ⟨u13, h12, h⟩ := bindE h
   obtain ⟨u15, h14, h⟩ := bindE h
   replace h := sI h
   subst h
   (rw [List.map_take]; exact WI_ret (bs := []) mixed lv189s1 25 [] [.bnd (z0.2.2.map q78).length z0.1 (((z0.2.2.map q78).length : Nat) : Int) (ln z0.2.2), .eqr ((z0.2.2.map q78).take (Int.toNat z0.1) ++ (List.replicate ((Int.toNat (ln z0.2.2)) - (Int.toNat z0.1)) (q78 (⟨([] : List Int), ([] : List Int), ([] : List Int)⟩ : api_Island)) ++ (z0.2.2.map q78).drop ((Int.toNat z0.1) + ((Int.toNat (ln z0.2.2)) - (Int.toNat z0.1))))) ((clrI z0.2.2 (Int.toNat z0.1) ((Int.toNat (ln z0.2.2)) - (Int.toNat z0.1)) (⟨([] : List Int), ([] : List Int), ([] : List Int)⟩ : api_Island)).map q78), .bnd ((clrI z0.2.2 (Int.toNat z0.1) ((Int.toNat (ln z0.2.2)) - (Int.toNat z0.1)) (⟨([] : List Int), ([] : List Int), ([] : List Int)⟩ : api_Island)).map q78).length 0 z0.1 z0.1] [.trunc 4] [.tmp 4] 1 [0, 1] rfl hC ⟨bnd_get (by simp) (by simp) h12, clr_get q78 rfl, bnd_get (by simp) rfl h14, trivial⟩ trivial (by kernel_rfl))
theorem e189s1 : Enters Tryz.prog 189 := en Tryz.func189
theorem k274 (x0 : api_Board) (x1 : api_Running) (x2 : api_Running) (r : Bool) (h : F274 x0 x1 x2 = r) : CallOk Tryz.prog 274 [.agg (d29 x0), .agg (d59 x1), .agg (d59 x2)] [] (.d (Bo r)) [] := by
 unfold F274 at h
 refine callOk_of 52 Tryz.func274 rfl rfl rfl fun C hC => ?_
 rcases boolC ((c274_0 x1 x2)) with h1 | h1
 ·replace h := condT h1 h
  subst h
  exact wr (bs := [((c274_0 x1 x2), true)]) [0, 1, 2, 3, 4, 5, 6, 7, 8, 22] 29 [true] [] [] [.tmp 6] 0 [] hC trivial ⟨h1, trivial⟩
 ·replace h := condF h1 h
  subst h
  exact wr (bs := [((c274_0 x1 x2), false)]) [0, 1, 2, 3, 4, 5, 6, 7, 8, 22] 34 [false] [.call 280 [dI x1.Phase, dI x2.Phase] [] (dI (F280 x1.Phase x2.Phase)) [] []] [] [.tmp 6] 0 [] hC ⟨⟨e280, (k280 x1.Phase x2.Phase _ rfl)⟩, trivial⟩ ⟨h1, trivial⟩
theorem e274 : Enters Tryz.prog 274 := en Tryz.func274
theorem k67 (x0 : api_Board) (x1 : Int) (r : Int) (h : F67 x0 x1 = some r) : CallOk Tryz.prog 67 [.agg (d29 x0), .d (I x1)] [] (.d (I r)) [] := by
 unfold F67 at h
 refine callOk_of 9 Tryz.func67 rfl rfl rfl fun C hC => ?_
 obtain ⟨y1, h2, h⟩ := bindE h
 replace h := sI h
 subst h
 exact wr (bs := []) n5_ 25 [] [.call 135 [.d (DS q66 x0.Breakers), .d (.fn (.func 136) [] [.o 0 0])] [.box 3 [I x1]] (dI y1.1) [.box 3 [I y1.2]] [1]] [] [.tmp 4] 0 [] hC ⟨⟨e135s1, (k135s1 x0.Breakers x1 _ h2)⟩, trivial⟩ trivial
theorem e67 : Enters Tryz.prog 67 := en Tryz.func67
def lv149s1 : List Nat := [0, 1, 2, 4, 6, 7, 8, 32, 36, 47, 64, 74]
def sa149s1_0 (x2 : Bool) (z0 : (List api_Part)) : St := [(0, dO 0 0), (2, dB x2), (4, dO 5 0), (6, dI 0)]
def Ra149s1_0 (x0 : restore_worker) (x1 : api_Part) (z0 : (List api_Part)) : List Res := [.box 130 (zb x0.board [.os 6, .os 7, .os 8, .os 9, I x0.time]), .non, .non, .non, .non, .box 119 (d119 x1), .sl 4 1 (x0.power.Closed.map pB), .sl 59 4 (x0.power.Sources.map q59), .sl 3 1 (x0.power.Limits.map pI), .sl 119 2 (z0.map q119)]
theorem k149s1 (x0 : restore_worker) (x1 : api_Part) (x2 : Bool) (r : Int × restore_worker) (h : F149s1 x0 x1 x2 = some r) : CallOk Tryz.prog 149 [.d (.o 0 0), .agg (d119 x1), .d (Bo x2)] (.box 130 (zb x0.board [.os 1, .os 2, .os 3, .os 4, I x0.time]) :: zp x0.power []) (.d (I r.1)) (.box 130 (zb r.2.board [.os 5, .os 6, .os 7, .os 8, I r.2.time]) :: .non :: .non :: .non :: .non :: zp r.2.power []) := by
 unfold F149s1 at h
 refine callOk_of 84 Tryz.func149 rfl rfl rfl fun C hC => ?_
 obtain ⟨y1, h2, h⟩ := bindE h
 rcases boolC ((y1.2 == x2)) with h3 | h3
 ·replace h := condT h3 h
  replace h := sI h
  subst h
  exact wr (bs := [((y1.2 == x2), true)]) lv149s1 32 [true] [.callB 218 [.d (DS q119 x0.power.Broken), .agg (d119 x1), .d (.fn (.func 219) [] [])] (.tup [dI y1.1, dB y1.2]) [[]] 0 []] [.mv 1, .mv 2, .mv 3, .mv 4] [.tmp 6] 5 [0, 1, 2, 3, 4, 6, 7, 8, 9] hC ⟨lend0_get ⟨e218s0, (k218s0 x0.power.Broken x1 _ h2)⟩, trivial⟩ ⟨h3, trivial⟩
 ·replace h := condF h3 h
  refine ws (bs := [((y1.2 == x2), false)]) lv149s1 32 [false] [.callB 218 [.d (DS q119 x0.power.Broken), .agg (d119 x1), .d (.fn (.func 219) [] [])] (.tup [dI y1.1, dB y1.2]) [[]] 0 [], .when [(x2, true)] (.len (ln (x0.power.Broken.map q119)) (ln x0.power.Broken))] [.mv 1, .mv 2, .mv 3, .mv 4] 5 n10_ [(0, dO 0 0), (2, dB x2), (4, dO 5 0), (6, dI 0), (7, dI y1.1), (36, dB (c149s1_0 x0 x2))] (.box 130 (zb x0.board [.os 6, .os 7, .os 8, .os 9, I x0.time]) :: .non :: .non :: .non :: .non :: .box 119 (d119 x1) :: zp x0.power []) hC ⟨lend0_get ⟨e218s0, (k218s0 x0.power.Broken x1 _ h2)⟩, fun hg => len_map _ _, trivial⟩ ⟨h3, trivial⟩ ?_
  rcases boolC ((c149s1_0 x0 x2)) with h4 | h4
  ·replace h := condT h4 h
   replace h := sI h
   subst h
   exact wr (bs := [((c149s1_0 x0 x2), true)]) lv149s1 24 [true] [] [] [.tmp 6] 5 [0, 1, 2, 3, 4, 6, 7, 8, 9] hC trivial ⟨h4, trivial⟩
  ·replace h := condF h4 h
   refine ws (bs := [((c149s1_0 x0 x2), false)]) lv149s1 24 [false] [] [] 5 n10_ [(0, dO 0 0), (2, dB x2), (4, dO 5 0), (6, dI 0), (7, dI y1.1), (47, dB x2)] (.box 130 (zb x0.board [.os 6, .os 7, .os 8, .os 9, I x0.time]) :: .non :: .non :: .non :: .non :: .box 119 (d119 x1) :: zp x0.power []) hC trivial ⟨h4, trivial⟩ ?_
   obtain ⟨w0, h, hret0, hnext0⟩ := andThen_inv h
   refine WI_cut (by kernel_rfl) (fun s => w0 = .next s) (sa149s1_0 x2) (Ra149s1_0 x0 x1) ?_ fun z0 hs0 => ?_
   ·unfold F149s1_m0 at h
    rcases boolC (x2) with h5 | h5
    ·replace h := condT h5 h
     obtain ⟨y6, h7, h⟩ := bindE h
     exact we (bs := [(x2, true)]) (φ := fun s' => w0 = .next s') (st' := (sa149s1_0 x2)) (R' := (Ra149s1_0 x0 x1)) lv149s1 23 [true] [.call 220 [dS 0, dI y1.1, .d (DS q119 [x1])] [.sl 119 2 (x0.power.Broken.map q119)] (dS 1) [.non, .sl 119 2 (y6.map q119)] [9]] [] 5 [0, 1, 2, 3, 4, 5, 6, 7, 8, 10] y6 hC ⟨⟨e220s0, (k220s0 x0.power.Broken y1.1 [x1] _ h7)⟩, trivial⟩ ⟨h5, trivial⟩ (sI h).symm
    ·replace h := condF h5 h
     obtain ⟨y8, h9, h⟩ := bindE h
     exact we (bs := [(x2, false)]) (φ := fun s' => w0 = .next s') (st' := (sa149s1_0 x2)) (R' := (Ra149s1_0 x0 x1)) lv149s1 23 [false] [.call 221 [dS 0, dI y1.1, dI (w64 (y1.1 + 1))] [.sl 119 2 (x0.power.Broken.map q119)] (dS 1) [.non, .sl 119 2 (y8.map q119)] [9]] [] 5 [0, 1, 2, 3, 4, 5, 6, 7, 8, 10] y8 hC ⟨⟨e221s0, (k221s0 x0.power.Broken y1.1 (w64 (y1.1 + 1)) _ h9)⟩, trivial⟩ ⟨h5, trivial⟩ (sI h).symm
   ·clear h; have h := hnext0 _ hs0
    rcases boolC ((x1.Kind == 1)) with h10 | h10
    ·replace h := condT h10 h
     obtain ⟨y11, h12, h⟩ := bindE h
     obtain ⟨y13, h14, h⟩ := bindE h
     refine ws (bs := [((x1.Kind == 1), true)]) lv149s1 30 [true] [.row (x0.power.Sources.map q59) x1.Number (q59 y11), .upd (x0.power.Sources.map q59) (Int.toNat x1.Number) (q59 y11) (q59 (⟨0, y11.Since, y11.Frequency, y11.Phase⟩ : api_Running)) (y13.map q59)] [] 5 n10_ [(0, dO 0 0), (4, dO 5 0), (6, dI 0), (74, dB x2)] [.box 130 (zb x0.board [.os 6, .os 7, .os 8, .os 9, I x0.time]), .non, .non, .non, .non, .box 119 (d119 x1), .sl 4 1 (x0.power.Closed.map pB), .sl 59 4 (y13.map q59), .sl 3 1 (x0.power.Limits.map pI), .sl 119 2 (z0.map q119)] hC ⟨row_get h12, upd_get h12 h14, trivial⟩ ⟨h10, trivial⟩ ?_
     rcases boolC (x2) with h15 | h15
     ·replace h := condT h15 h
      obtain ⟨y16, h17, h⟩ := bindE h
      obtain ⟨y18, h19, h⟩ := bindE h
      replace h := sI h
      subst h
      exact wr (bs := [(x2, true)]) lv149s1 25 [true] [.row (y13.map q59) x1.Number (q59 y16), .upd (y13.map q59) (Int.toNat x1.Number) (q59 y16) (q59 (⟨3, y16.Since, y16.Frequency, y16.Phase⟩ : api_Running)) (y18.map q59)] [] [.tmp 6] 5 [0, 1, 2, 3, 4, 6, 7, 8, 9] hC ⟨row_get h17, upd_get h17 h19, trivial⟩ ⟨h15, trivial⟩
     ·replace h := condF h15 h
      replace h := sI h
      subst h
      exact wr (bs := [(x2, false)]) lv149s1 25 [false] [] [] [.tmp 6] 5 [0, 1, 2, 3, 4, 6, 7, 8, 9] hC trivial ⟨h15, trivial⟩
    ·replace h := condF h10 h
     replace h := sI h
     subst h
     exact wr (bs := [((x1.Kind == 1), false)]) lv149s1 29 [false] [] [] [.tmp 6] 5 [0, 1, 2, 3, 4, 6, 7, 8, 9] hC trivial ⟨h10, trivial⟩
theorem e149s1 : Enters Tryz.prog 149 := en Tryz.func149
theorem k230s1 (x0 : List Int) (x1c0 : api_Board) (r : api_Board) (h : F230s1 x0 x1c0 = some r) : CallOk Tryz.prog 230 [.d (.os 0), .d (.fn (.func 231) [] [.o 1 0])] [.sl 3 1 (x0.map pI), .box 29 (d29 x1c0)] (.tup []) [.sl 3 1 (x0.map pI), .box 29 (d29 r)] := by
 unfold F230s1 at h
 refine callOk_of 9 Tryz.func230 rfl rfl rfl fun C hC => ?_
 obtain ⟨y1, h2, h⟩ := bindE h
 replace h := sI h
 subst h
 exact wf (bs := []) [0, 1] 21 [] [.len (ln (x0.map pI)) (ln x0), .call 259 [dS 0, dI (ln x0), .d (.fn (.func 231) [] [.o 1 0])] [.sl 3 1 (x0.map pI), .box 29 (d29 x1c0)] (.tup []) [.sl 3 1 (x0.map pI), .box 29 (d29 y1)] [0, 1]] [] [] 2 [0, 1] hC ⟨len_map _ _, ⟨e259s1, (k259s1 x0 (ln x0) x1c0 _ h2)⟩, trivial⟩ trivial
theorem e230s1 : Enters Tryz.prog 230 := en Tryz.func230
theorem k226s0 (x0 : Int) (x1 : api_Island) (r : Bool) (h : F226s0 x0 x1 = some r) : CallOk Tryz.prog 226 [.d (I x0), .d (.ip [.s (x1.Buses.map pI), .s (x1.Sources.map pI), .s (x1.Consumers.map pI)])] [] (.d (Bo r)) [] := by
 unfold F226s0 at h
 refine callOk_of 9 Tryz.func226 rfl rfl rfl fun C hC => ?_
 obtain ⟨y1, h2, h⟩ := bindE h
 replace h := sI h
 subst h
 exact wr (bs := []) [0, 1, 3] 25 [] [.call 96 [.d (DS pI x1.Consumers), dI x0] [] (dB y1) [] []] [] [.tmp 3] 0 [] hC ⟨⟨e96, (k96 x1.Consumers x0 _ h2)⟩, trivial⟩ trivial
theorem e226s0 : Enters Tryz.prog 226 := en Tryz.func226
def lv165 : List Nat := [0, 1, 4, 5, 6, 7, 8, 10, 26, 37]
def sa165_0 (x0 : List api_Act) (x1 : Int) (z0 : Unit) : St := [(0, .d (DS q42 x0)), (1, dI x1), (4, .d (DS q42 []))]
def Ra165_0  (z0 : Unit) : List Res := []
def sa165_1 (x0 : List api_Act) (x1 : Int) (z1 : Unit) : St := [(0, .d (DS q42 x0)), (4, .d (DS q42 [])), (6, .d (.p (.v (.int .u64 ((F179 (IntKind.wrap .u64 (ln x0)) (IntKind.wrap .u64 x1)).2)))))]
def Ra165_1  (z1 : Unit) : List Res := []
def st165_2  (z2 : Int × (List api_Act)) : St := [(4, .d (DS q42 [])), (7, dS 0), (8, dI z2.1)]
def R165_2  (z2 : Int × (List api_Act)) : List Res := [.sl 42 3 (z2.2.map q42)]
def sa165_2  (z2 : Int × (List api_Act)) : St := [(4, .d (DS q42 [])), (7, dS 0)]
def Ra165_2  (z2 : Int × (List api_Act)) : List Res := [.sl 42 3 (z2.2.map q42)]
theorem k165 (x0 : List api_Act) (x1 : Int) (r : (List api_Act)) (h : F165 x0 x1 = some r) : CallOk Tryz.prog 165 [.d (DS q42 x0), .d (I x1)] [] (.d (.os 0)) [.sl 42 3 (r.map q42)] := by
 unfold F165 at h
 refine callOk_of 48 Tryz.func165 rfl rfl rfl fun C hC => ?_
 refine ws (bs := []) lv165 26 [] [] [] 0 [] [(0, .d (DS q42 x0)), (1, dI x1), (4, .d (DS q42 [])), (10, dB (decide (x1 < 0)))] [] hC trivial trivial ?_
 obtain ⟨w0, h, hret0, hnext0⟩ := andThen_inv h
 refine WI_cut (by kernel_rfl) (fun s => w0 = .next s) (sa165_0 x0 x1) (Ra165_0) ?_ fun z0 hs0 => ?_
 ·unfold F165_m0 at h
  rcases boolC (decide (x1 < 0)) with h1 | h1
  ·replace h := condT h1 h
   cases h
  ·replace h := condF h1 h
   exact we (bs := [(decide (x1 < 0), false)]) (φ := fun s' => w0 = .next s') (st' := (sa165_0 x0 x1)) (R' := (Ra165_0)) lv165 23 [false] [] [] 0 [] () hC trivial ⟨h1, trivial⟩ (sI h).symm
 ·clear h; have h := hnext0 _ hs0
  refine ws (bs := []) lv165 26 [] [.len (ln (x0.map q42)) (ln x0), .call 179 [.d (.p (.v (.int .u64 (IntKind.wrap .u64 (ln x0))))), .d (.p (.v (.int .u64 (IntKind.wrap .u64 x1))))] [] (.tup [.d (.p (.v (.int .u64 ((F179 (IntKind.wrap .u64 (ln x0)) (IntKind.wrap .u64 x1)).1)))), .d (.p (.v (.int .u64 ((F179 (IntKind.wrap .u64 (ln x0)) (IntKind.wrap .u64 x1)).2))))]) [] []] [] 0 [] [(0, .d (DS q42 x0)), (4, .d (DS q42 [])), (6, .d (.p (.v (.int .u64 ((F179 (IntKind.wrap .u64 (ln x0)) (IntKind.wrap .u64 x1)).2))))), (26, .d (Bo ((decide (((F179 (IntKind.wrap .u64 (ln x0)) (IntKind.wrap .u64 x1)).1) > 0)) || (decide (((F179 (IntKind.wrap .u64 (ln x0)) (IntKind.wrap .u64 x1)).2) > 9223372036854775807)))))] [] hC ⟨len_map _ _, ⟨e179, (k179 (IntKind.wrap .u64 (ln x0)) (IntKind.wrap .u64 x1) _ rfl)⟩, trivial⟩ trivial ?_
  obtain ⟨w1, h, hret1, hnext1⟩ := andThen_inv h
  refine WI_cut (by kernel_rfl) (fun s => w1 = .next s) (sa165_1 x0 x1) (Ra165_1) ?_ fun z1 hs1 => ?_
  ·unfold F165_m1 at h
   rcases boolC ((c165_0 x0 x1)) with h2 | h2
   ·replace h := condT h2 h
    cases h
   ·replace h := condF h2 h
    exact we (bs := [((c165_0 x0 x1), false)]) (φ := fun s' => w1 = .next s') (st' := (sa165_1 x0 x1)) (R' := (Ra165_1)) lv165 23 [false] [] [] 0 [] () hC trivial ⟨h2, trivial⟩ (sI h).symm
  ·clear h; have h := hnext1 _ hs1
   obtain ⟨y3, h4, h⟩ := bindE h
   refine ws (bs := []) lv165 26 [] [.room ((w64 ((F179 (IntKind.wrap .u64 (ln x0)) (IntKind.wrap .u64 x1)).2)) * (24 + 1)) (List.replicate (Int.toNat (w64 ((F179 (IntKind.wrap .u64 (ln x0)) (IntKind.wrap .u64 x1)).2))) (q42 (⟨0, 0, 0⟩ : api_Act))) (y3.map q42), .cpy (x0.map q42) 3 ((y3.map q42).length) (Nat.min x0.length y3.length) ((y3.map q42).take 0 ++ ((x0.map q42).take (Nat.min x0.length y3.length) ++ (y3.map q42).drop (0 + (Nat.min x0.length y3.length)))) ((cpyI y3 0 y3.length x0).map q42)] [] 0 [0] (st165_2 (((Nat.min x0.length y3.length) : Int), (cpyI y3 0 y3.length x0))) (R165_2 (((Nat.min x0.length y3.length) : Int), (cpyI y3 0 y3.length x0))) hC ⟨make_get h4, cpy_get q42 3 (fun _ => rfl) rfl (by simp), trivial⟩ trivial ?_
   obtain ⟨w2, hm2, hret2, hnext2⟩ := andThen_inv h
   clear h
   refine WI_cut (by kernel_rfl) (fun s => w2 = .next s) (sa165_2) (Ra165_2) ?_ fun z2 hs2 => ?_
   ·refine WI_blk (by kernel_rfl) ?_
    refine WI_while (by kernel_rfl) F165_l2 (st165_2) (R165_2) w2 1152921504606846976 (((Nat.min x0.length y3.length) : Int), (cpyI y3 0 y3.length x0)) hm2 rfl rfl fun z2 w2b h hb2 hr2 => ?_
    unfold F165_l2 at h
    rcases boolC ((c165_3 z2)) with h5 | h5
    ·replace h := condT h5 h
     obtain ⟨u7, h6, h⟩ := bindE h
     obtain ⟨u9, h8, h⟩ := bindE h
     exact we (bs := [((c165_3 z2), true)]) (φ := fun s' => w2b = .next s') (st' := (st165_2)) (R' := (R165_2)) lv165 29 [true] [.len (ln (z2.2.map q42)) (ln z2.2), .bnd (z2.2.map q42).length z2.1 (((z2.2.map q42).length : Nat) : Int) (ln z2.2), .bnd (z2.2.map q42).length 0 z2.1 z2.1, .cpy (((z2.2.map q42).drop 0).take ((Int.toNat z2.1) - 0)) 3 ((Int.toNat (ln z2.2)) - (Int.toNat z2.1)) (Nat.min ((z2.2.drop 0).take ((Int.toNat z2.1) - 0)).length ((Int.toNat (ln z2.2)) - (Int.toNat z2.1))) ((z2.2.map q42).take (Int.toNat z2.1) ++ ((((z2.2.map q42).drop 0).take ((Int.toNat z2.1) - 0)).take (Nat.min ((z2.2.drop 0).take ((Int.toNat z2.1) - 0)).length ((Int.toNat (ln z2.2)) - (Int.toNat z2.1))) ++ (z2.2.map q42).drop ((Int.toNat z2.1) + (Nat.min ((z2.2.drop 0).take ((Int.toNat z2.1) - 0)).length ((Int.toNat (ln z2.2)) - (Int.toNat z2.1)))))) ((cpyI z2.2 (Int.toNat z2.1) ((Int.toNat (ln z2.2)) - (Int.toNat z2.1)) ((z2.2.drop 0).take ((Int.toNat z2.1) - 0))).map q42)] [] 0 [0] (w64 (z2.1 + ((Nat.min ((z2.2.drop 0).take ((Int.toNat z2.1) - 0)).length ((Int.toNat (ln z2.2)) - (Int.toNat z2.1))) : Int)), (cpyI z2.2 (Int.toNat z2.1) ((Int.toNat (ln z2.2)) - (Int.toNat z2.1)) ((z2.2.drop 0).take ((Int.toNat z2.1) - 0)))) hC ⟨len_map _ _, bnd_get (by simp) (by simp) h6, bnd_get (by simp) rfl h8, cpy_get q42 3 (fun _ => rfl) (part_map _ _ _ _) rfl, trivial⟩ ⟨h5, trivial⟩ (sI h).symm
    ·replace h := condF h5 h
     exact we (bs := [((c165_3 z2), false)]) (φ := fun s' => w2 = .next s') (st' := (sa165_2)) (R' := (Ra165_2)) lv165 26 [false] [.len (ln (z2.2.map q42)) (ln z2.2)] [] 0 [0] (z2.1, z2.2) hC ⟨len_map _ _, trivial⟩ ⟨h5, trivial⟩ (hb2 _ (sI h).symm)
   ·have h := hnext2 _ hs2
    replace h := sI h
    subst h
    exact wr (bs := []) lv165 23 [] [] [] [.tmp 4] 0 [0] hC trivial trivial
theorem e165 : Enters Tryz.prog 165 := en Tryz.func165
def lv16 : List Nat := [0, 2, 3, 4, 5, 6, 7, 8, 9, 10, 11, 24, 29, 47, 60, 96, 121, 155]
def st16_0  (z0 : Sg1) : St := [(0, dO 0 0), (2, dO 1 0), (3, dO 2 0), (4, dI z0.1)]
def R16_0 (y1 : Int × dynposmake_Src) (y3 : Int × dynposmake_Src) (y5 : Int × dynposmake_Src) (z0 : Sg1) : List Res := [.box 121 [DS pI z0.2.1, I z0.2.2.1], .box 29 [I 0, .os 3, .os 4, .os 5, I 0, I 0], .box 29 [I y1.1, .os 6, .os 7, .os 8, I y3.1, I y5.1], .sl 66 3 (([] : List api_Breaker).map q66), .sl 57 3 (([] : List api_Source).map q57), .sl 108 5 (([] : List api_Consumer).map q108), .sl 66 3 (z0.2.2.2.map q66), .sl 57 3 (([] : List api_Source).map q57), .sl 108 5 (([] : List api_Consumer).map q108)]
def sa16_0  (z0 : Sg1) : St := [(0, dO 0 0), (2, dO 1 0), (3, dO 2 0)]
def Ra16_0 (y1 : Int × dynposmake_Src) (y3 : Int × dynposmake_Src) (y5 : Int × dynposmake_Src) (z0 : Sg1) : List Res := [.box 121 [DS pI z0.2.1, I z0.2.2.1], .box 29 [I 0, .os 3, .os 4, .os 5, I 0, I 0], .box 29 [I y1.1, .os 6, .os 7, .os 8, I y3.1, I y5.1], .sl 66 3 (([] : List api_Breaker).map q66), .sl 57 3 (([] : List api_Source).map q57), .sl 108 5 (([] : List api_Consumer).map q108), .sl 66 3 (z0.2.2.2.map q66), .sl 57 3 (([] : List api_Source).map q57), .sl 108 5 (([] : List api_Consumer).map q108)]
def sa16_1  (z1 : (List api_Breaker)) : St := [(0, dO 0 0), (2, dO 1 0), (3, dO 2 0)]
def Ra16_1 (y1 : Int × dynposmake_Src) (y3 : Int × dynposmake_Src) (y5 : Int × dynposmake_Src) (y15 : Int × dynposmake_Src) (z1 : (List api_Breaker)) : List Res := [.box 121 (d121 y15.2), .box 29 [I 0, .os 3, .os 4, .os 5, I 0, I 0], .box 29 [I y1.1, .os 6, .os 7, .os 8, I y3.1, I y5.1], .sl 66 3 (([] : List api_Breaker).map q66), .sl 57 3 (([] : List api_Source).map q57), .sl 108 5 (([] : List api_Consumer).map q108), .sl 66 3 (z1.map q66), .sl 57 3 (([] : List api_Source).map q57), .sl 108 5 (([] : List api_Consumer).map q108)]
def st16_2  (z2 : Sg3) : St := [(0, dO 0 0), (2, dO 1 0), (3, dO 2 0), (5, dI z2.1)]
def R16_2 (y1 : Int × dynposmake_Src) (y3 : Int × dynposmake_Src) (y5 : Int × dynposmake_Src) (z2 : Sg3) : List Res := [.box 121 [DS pI z2.2.1, I z2.2.2.1], .box 29 [I 0, .os 3, .os 4, .os 5, I 0, I 0], .box 29 [I y1.1, .os 6, .os 7, .os 8, I y3.1, I y5.1], .sl 66 3 (([] : List api_Breaker).map q66), .sl 57 3 (([] : List api_Source).map q57), .sl 108 5 (([] : List api_Consumer).map q108), .sl 66 3 (z2.2.2.2.1.map q66), .sl 57 3 (z2.2.2.2.2.map q57), .sl 108 5 (([] : List api_Consumer).map q108)]
def sa16_2  (z2 : Sg3) : St := [(0, dO 0 0), (2, dO 1 0), (3, dO 2 0)]
def Ra16_2 (y1 : Int × dynposmake_Src) (y3 : Int × dynposmake_Src) (y5 : Int × dynposmake_Src) (z2 : Sg3) : List Res := [.box 121 [DS pI z2.2.1, I z2.2.2.1], .box 29 [I 0, .os 3, .os 4, .os 5, I 0, I 0], .box 29 [I y1.1, .os 6, .os 7, .os 8, I y3.1, I y5.1], .sl 66 3 (([] : List api_Breaker).map q66), .sl 57 3 (([] : List api_Source).map q57), .sl 108 5 (([] : List api_Consumer).map q108), .sl 66 3 (z2.2.2.2.1.map q66), .sl 57 3 (z2.2.2.2.2.map q57), .sl 108 5 (([] : List api_Consumer).map q108)]
def st16_3  (z3 : Sg2) : St := [(0, dO 0 0), (2, dO 1 0), (3, dO 2 0), (7, dI z3.1)]
def R16_3 (y1 : Int × dynposmake_Src) (y3 : Int × dynposmake_Src) (y5 : Int × dynposmake_Src) (z2 : Sg3) (z3 : Sg2) : List Res := [.box 121 [DS pI z3.2.1, I z3.2.2.1], .box 29 [I 0, .os 3, .os 4, .os 5, I 0, I 0], .box 29 [I y1.1, .os 6, .os 7, .os 8, I y3.1, I y5.1], .sl 66 3 (([] : List api_Breaker).map q66), .sl 57 3 (([] : List api_Source).map q57), .sl 108 5 (([] : List api_Consumer).map q108), .sl 66 3 (z3.2.2.2.1.map q66), .sl 57 3 (z2.2.2.2.2.map q57), .sl 108 5 (z3.2.2.2.2.map q108)]
def sa16_3  (z3 : Sg2) : St := [(2, dO 1 0), (3, dO 2 0)]
def Ra16_3 (y1 : Int × dynposmake_Src) (y3 : Int × dynposmake_Src) (y5 : Int × dynposmake_Src) (z2 : Sg3) (z3 : Sg2) : List Res := [.box 121 [DS pI z3.2.1, I z3.2.2.1], .box 29 [I 0, .os 3, .os 4, .os 5, I 0, I 0], .box 29 [I y1.1, .os 6, .os 7, .os 8, I y3.1, I y5.1], .sl 66 3 (([] : List api_Breaker).map q66), .sl 57 3 (([] : List api_Source).map q57), .sl 108 5 (([] : List api_Consumer).map q108), .sl 66 3 (z3.2.2.2.1.map q66), .sl 57 3 (z2.2.2.2.2.map q57), .sl 108 5 (z3.2.2.2.2.map q108)]
def sa16_4 (z3 : Sg2) (z4 : (List api_Breaker)) : St := [(0, dO 0 0), (2, dO 1 0), (3, dO 2 0), (7, dI z3.1), (8, dI (ln z3.2.2.2.2))]
def Ra16_4 (y1 : Int × dynposmake_Src) (y3 : Int × dynposmake_Src) (y5 : Int × dynposmake_Src) (z2 : Sg3) (z3 : Sg2) (y42 : Int × dynposmake_Src) (z4 : (List api_Breaker)) : List Res := [.box 121 (d121 y42.2), .box 29 [I 0, .os 3, .os 4, .os 5, I 0, I 0], .box 29 [I y1.1, .os 8, .os 6, .os 7, I y3.1, I y5.1], .sl 66 3 (([] : List api_Breaker).map q66), .sl 57 3 (([] : List api_Source).map q57), .sl 108 5 (([] : List api_Consumer).map q108), .sl 57 3 (z2.2.2.2.2.map q57), .sl 108 5 (z3.2.2.2.2.map q108), .sl 66 3 (z4.map q66)]
set_option maxHeartbeats 4000000 in
theorem k16 (x0 : dynposmake_Src) (r : api_Board × dynposmake_Src) (h : F16 x0 = some r) : CallOk Tryz.prog 16 [.d (.o 0 0)] [.box 121 (d121 x0)] (.agg [I r.1.Buses, .os 1, .os 2, .os 3, I r.1.Phase, I r.1.Frequency]) (.box 121 (d121 r.2) :: zs r.1 []) := by
 unfold F16 at h
 refine callOk_of 168 Tryz.func16 rfl rfl rfl fun C hC => ?_
 obtain ⟨y1, h2, h⟩ := bindE h
 obtain ⟨y3, h4, h⟩ := bindE h
 obtain ⟨y5, h6, h⟩ := bindE h
 refine ws (bs := []) lv16 28 [] [.call 61 [dO 0 0, dI 1, dI 4] [.box 121 (d121 x0)] (dI y1.1) [.box 121 (d121 y1.2)] [0], .call 62 [dO 0 0, .d (DS pI [0, 50, 200, 1800])] [.box 121 (d121 y1.2)] (dI y3.1) [.box 121 (d121 y3.2)] [0], .call 62 [dO 0 0, .d (DS pI [0, 10, 50])] [.box 121 (d121 y3.2)] (dI y5.1) [.box 121 (d121 y5.2)] [0]] [.ownb 1 1 66 3, .ownb 1 2 57 3, .ownb 1 3 108 5, .ownb 2 1 66 3, .ownb 2 2 57 3, .ownb 2 3 108 5] 1 n9_ (st16_0 (1, y5.2.L, y5.2.At, ([] : List api_Breaker))) (R16_0 y1 y3 y5 (1, y5.2.L, y5.2.At, ([] : List api_Breaker))) hC ⟨⟨e61, (k61 x0 1 4 _ h2)⟩, ⟨e62, (k62 y1.2 [0, 50, 200, 1800] _ h4)⟩, ⟨e62, (k62 y3.2 [0, 10, 50] _ h6)⟩, trivial⟩ trivial ?_
 obtain ⟨w0, hm0, hret0, hnext0⟩ := andThen_inv h
 clear h
 refine WI_cut (by kernel_rfl) (fun s => w0 = .next s) (sa16_0) (Ra16_0 y1 y3 y5) ?_ fun z0 hs0 => ?_
 ·refine WI_blk (by kernel_rfl) ?_
  refine WI_while (by kernel_rfl) (F16_l0 y1) (st16_0) (R16_0 y1 y3 y5) w0 1152921504606846976 (1, y5.2.L, y5.2.At, ([] : List api_Breaker)) hm0 rfl rfl fun z0 w0b h hb0 hr0 => ?_
  unfold F16_l0 at h
  rcases boolC (decide (z0.1 < y1.1)) with h7 | h7
  ·replace h := condT h7 h
   obtain ⟨y8, h9, h⟩ := bindE h
   rcases boolC (decide (y8.1 < 5)) with h10 | h10
   ·replace h := condT h10 h
    obtain ⟨y11, h12, h⟩ := bindE h
    obtain ⟨y13, h14, h⟩ := bindE h
    exact we (bs := [(decide (z0.1 < y1.1), true), (decide (y8.1 < 5), true)]) (φ := fun s' => w0b = .next s') (st' := (st16_0)) (R' := (R16_0 y1 y3 y5)) lv16 34 [true, true] [.call 63 [dO 0 0, dI 6] [.box 121 [DS pI z0.2.1, I z0.2.2.1]] (dI y8.1) [.box 121 (d121 y8.2)] [0], .call 63 [dO 0 0, dI z0.1] [.box 121 (d121 y8.2)] (dI y11.1) [.box 121 (d121 y11.2)] [0], .app (z0.2.2.2.map q66) ([(⟨1, y11.1, z0.1⟩ : api_Breaker)].map q66) 3 (((z0.2.2.2.map q66).length + ([(⟨1, y11.1, z0.1⟩ : api_Breaker)].map q66).length) * (24 + 1)) (y13.map q66)] [] 1 [0, 1, 2, 3, 4, 5, 9, 7, 8] (w64 (z0.1 + 1), y11.2.L, y11.2.At, y13) hC ⟨⟨e63, (k63 (⟨z0.2.1, z0.2.2.1⟩ : dynposmake_Src) 6 _ h9)⟩, ⟨e63, (k63 y8.2 z0.1 _ h12)⟩, app_get q66 3 (fun _ => rfl) h14, trivial⟩ ⟨h7, h10, trivial⟩ (sI h).symm
   ·replace h := condF h10 h
    exact we (bs := [(decide (z0.1 < y1.1), true), (decide (y8.1 < 5), false)]) (φ := fun s' => w0b = .next s') (st' := (st16_0)) (R' := (R16_0 y1 y3 y5)) lv16 34 [true, false] [.call 63 [dO 0 0, dI 6] [.box 121 [DS pI z0.2.1, I z0.2.2.1]] (dI y8.1) [.box 121 (d121 y8.2)] [0]] [] 1 n9_ (w64 (z0.1 + 1), y8.2.L, y8.2.At, z0.2.2.2) hC ⟨⟨e63, (k63 (⟨z0.2.1, z0.2.2.1⟩ : dynposmake_Src) 6 _ h9)⟩, trivial⟩ ⟨h7, h10, trivial⟩ (sI h).symm
  ·replace h := condF h7 h
   exact we (bs := [(decide (z0.1 < y1.1), false)]) (φ := fun s' => w0 = .next s') (st' := (sa16_0)) (R' := (Ra16_0 y1 y3 y5)) lv16 26 [false] [] [] 1 n9_ (z0.1, z0.2.1, z0.2.2.1, z0.2.2.2) hC trivial ⟨h7, trivial⟩ (hb0 _ (sI h).symm)
 ·have h := hnext0 _ hs0
  obtain ⟨y15, h16, h⟩ := bindE h
  refine ws (bs := []) lv16 24 [] [.whenR [(decide (y1.1 > 2), true)] (.call 63 [dO 0 0, dI 2] [.box 121 [DS pI z0.2.1, I z0.2.2.1]] (dI y15.1) [.box 121 (d121 y15.2)] [0])] [] 1 n9_ [(0, dO 0 0), (2, dO 1 0), (3, dO 2 0), (47, dB ((decide (y1.1 > 2)) && (y15.1 == 1)))] [.box 121 (d121 y15.2), .box 29 [I 0, .os 3, .os 4, .os 5, I 0, I 0], .box 29 [I y1.1, .os 6, .os 7, .os 8, I y3.1, I y5.1], .sl 66 3 (([] : List api_Breaker).map q66), .sl 57 3 (([] : List api_Source).map q57), .sl 108 5 (([] : List api_Consumer).map q108), .sl 66 3 (z0.2.2.2.map q66), .sl 57 3 (([] : List api_Source).map q57), .sl 108 5 (([] : List api_Consumer).map q108)] hC ⟨⟨fun hg => ⟨e63, (k63 (⟨z0.2.1, z0.2.2.1⟩ : dynposmake_Src) 2 _ (guardO_get h16 hg))⟩, fun hg => by have e := guardO_not h16 hg; subst e; rfl⟩, trivial⟩ trivial ?_
  obtain ⟨w1, h, hret1, hnext1⟩ := andThen_inv h
  refine WI_cut (by kernel_rfl) (fun s => w1 = .next s) (sa16_1) (Ra16_1 y1 y3 y5 y15) ?_ fun z1 hs1 => ?_
  ·unfold F16_m1 at h
   rcases boolC (((decide (y1.1 > 2)) && (y15.1 == 1))) with h17 | h17
   ·replace h := condT h17 h
    obtain ⟨y18, h19, h⟩ := bindE h
    exact we (bs := [(((decide (y1.1 > 2)) && (y15.1 == 1)), true)]) (φ := fun s' => w1 = .next s') (st' := (sa16_1)) (R' := (Ra16_1 y1 y3 y5 y15)) lv16 23 [true] [.app (z0.2.2.2.map q66) ([(⟨1, 0, w64 (y1.1 - 1)⟩ : api_Breaker)].map q66) 3 (((z0.2.2.2.map q66).length + ([(⟨1, 0, w64 (y1.1 - 1)⟩ : api_Breaker)].map q66).length) * (24 + 1)) (y18.map q66)] [] 1 [0, 1, 2, 3, 4, 5, 9, 7, 8] y18 hC ⟨app_get q66 3 (fun _ => rfl) h19, trivial⟩ ⟨h17, trivial⟩ (sI h).symm
   ·replace h := condF h17 h
    exact we (bs := [(((decide (y1.1 > 2)) && (y15.1 == 1)), false)]) (φ := fun s' => w1 = .next s') (st' := (sa16_1)) (R' := (Ra16_1 y1 y3 y5 y15)) lv16 23 [false] [] [] 1 n9_ z0.2.2.2 hC trivial ⟨h17, trivial⟩ (sI h).symm
  ·clear h; have h := hnext1 _ hs1
   obtain ⟨y20, h21, h⟩ := bindE h
   refine ws (bs := []) lv16 24 [] [.call 63 [dO 0 0, dI 5] [.box 121 (d121 y15.2)] (dI y20.1) [.box 121 (d121 y20.2)] [0]] [] 1 n9_ (st16_2 (y20.1, y20.2.L, y20.2.At, z1, ([] : List api_Source))) (R16_2 y1 y3 y5 (y20.1, y20.2.L, y20.2.At, z1, ([] : List api_Source))) hC ⟨⟨e63, (k63 y15.2 5 _ h21)⟩, trivial⟩ trivial ?_
   obtain ⟨w2, hm2, hret2, hnext2⟩ := andThen_inv h
   clear h
   refine WI_cut (by kernel_rfl) (fun s => w2 = .next s) (sa16_2) (Ra16_2 y1 y3 y5) ?_ fun z2 hs2 => ?_
   ·refine WI_blk (by kernel_rfl) ?_
    refine WI_while (by kernel_rfl) (F16_l2 y1) (st16_2) (R16_2 y1 y3 y5) w2 1152921504606846976 (y20.1, y20.2.L, y20.2.At, z1, ([] : List api_Source)) hm2 rfl rfl fun z2 w2b h hb2 hr2 => ?_
    unfold F16_l2 at h
    rcases boolC (decide (z2.1 > 0)) with h22 | h22
    ·replace h := condT h22 h
     obtain ⟨y23, h24, h⟩ := bindE h
     obtain ⟨y25, h26, h⟩ := bindE h
     obtain ⟨y27, h28, h⟩ := bindE h
     obtain ⟨y29, h30, h⟩ := bindE h
     obtain ⟨y31, h32, h⟩ := bindE h
     obtain ⟨y33, h34, h⟩ := bindE h
     exact we (bs := [(decide (z2.1 > 0), true)]) (φ := fun s' => w2b = .next s') (st' := (st16_2)) (R' := (R16_2 y1 y3 y5)) lv16 35 [true] [.call 63 [dO 0 0, dI y1.1] [.box 121 [DS pI z2.2.1, I z2.2.2.1]] (dI y23.1) [.box 121 (d121 y23.2)] [0], .len (ln (z2.2.2.2.2.map q57)) (ln z2.2.2.2.2), .app (z2.2.2.2.1.map q66) ([(⟨2, y23.1, (ln z2.2.2.2.2)⟩ : api_Breaker)].map q66) 3 (((z2.2.2.2.1.map q66).length + ([(⟨2, y23.1, (ln z2.2.2.2.2)⟩ : api_Breaker)].map q66).length) * (24 + 1)) (y25.map q66), .call 62 [dO 0 0, .d (DS pI [10, 50, 100])] [.box 121 (d121 y23.2)] (dI y27.1) [.box 121 (d121 y27.2)] [0], .call 62 [dO 0 0, .d (DS pI [0, 5, y27.1])] [.box 121 (d121 y27.2)] (dI y29.1) [.box 121 (d121 y29.2)] [0], .call 62 [dO 0 0, .d (DS pI [0, 1, 3])] [.box 121 (d121 y29.2)] (dI y31.1) [.box 121 (d121 y31.2)] [0], .app (z2.2.2.2.2.map q57) ([(⟨y27.1, y29.1, y31.1⟩ : api_Source)].map q57) 3 (((z2.2.2.2.2.map q57).length + ([(⟨y27.1, y29.1, y31.1⟩ : api_Source)].map q57).length) * (24 + 1)) (y33.map q57)] [] 1 [0, 1, 2, 3, 4, 5, 9, 10, 8] (w64 (z2.1 - 1), y31.2.L, y31.2.At, y25, y33) hC ⟨⟨e63, (k63 (⟨z2.2.1, z2.2.2.1⟩ : dynposmake_Src) y1.1 _ h24)⟩, len_map _ _, app_get q66 3 (fun _ => rfl) h26, ⟨e62, (k62 y23.2 [10, 50, 100] _ h28)⟩, ⟨e62, (k62 y27.2 [0, 5, y27.1] _ h30)⟩, ⟨e62, (k62 y29.2 [0, 1, 3] _ h32)⟩, app_get q57 3 (fun _ => rfl) h34, trivial⟩ ⟨h22, trivial⟩ (sI h).symm
    ·replace h := condF h22 h
     exact we (bs := [(decide (z2.1 > 0), false)]) (φ := fun s' => w2 = .next s') (st' := (sa16_2)) (R' := (Ra16_2 y1 y3 y5)) lv16 26 [false] [] [] 1 n9_ (z2.1, z2.2.1, z2.2.2.1, z2.2.2.2.1, z2.2.2.2.2) hC trivial ⟨h22, trivial⟩ (hb2 _ (sI h).symm)
   ·have h := hnext2 _ hs2
    obtain ⟨y35, h36, h⟩ := bindE h
    refine ws (bs := []) lv16 24 [] [.call 63 [dO 0 0, dI 6] [.box 121 [DS pI z2.2.1, I z2.2.2.1]] (dI y35.1) [.box 121 (d121 y35.2)] [0]] [] 1 n9_ (st16_3 (y35.1, y35.2.L, y35.2.At, z2.2.2.2.1, ([] : List api_Consumer))) (R16_3 y1 y3 y5 z2 (y35.1, y35.2.L, y35.2.At, z2.2.2.2.1, ([] : List api_Consumer))) hC ⟨⟨e63, (k63 (⟨z2.2.1, z2.2.2.1⟩ : dynposmake_Src) 6 _ h36)⟩, trivial⟩ trivial ?_
    obtain ⟨w3, hm3, hret3, hnext3⟩ := andThen_inv h
    clear h
    refine WI_cut (by kernel_rfl) (fun s => w3 = .next s) (sa16_3) (Ra16_3 y1 y3 y5 z2) ?_ fun z3 hs3 => ?_
    ·refine WI_blk (by kernel_rfl) ?_
     refine WI_while (by kernel_rfl) (F16_l3 y1) (st16_3) (R16_3 y1 y3 y5 z2) w3 1152921504606846976 (y35.1, y35.2.L, y35.2.At, z2.2.2.2.1, ([] : List api_Consumer)) hm3 rfl rfl fun z3 w3b h hb3 hr3 => ?_
     unfold F16_l3 at h
     rcases boolC (decide (z3.1 > 0)) with h37 | h37
     ·replace h := condT h37 h
      obtain ⟨y38, h39, h⟩ := bindE h
      obtain ⟨y40, h41, h⟩ := bindE h
      obtain ⟨y42, h43, h⟩ := bindE h
      refine ws (bs := [(decide (z3.1 > 0), true)]) lv16 37 [true] [.len (ln (z3.2.2.2.2.map q108)) (ln z3.2.2.2.2), .call 63 [dO 0 0, dI y1.1] [.box 121 [DS pI z3.2.1, I z3.2.2.1]] (dI y38.1) [.box 121 (d121 y38.2)] [0], .app (z3.2.2.2.1.map q66) ([(⟨3, y38.1, (ln z3.2.2.2.2)⟩ : api_Breaker)].map q66) 3 (((z3.2.2.2.1.map q66).length + ([(⟨3, y38.1, (ln z3.2.2.2.2)⟩ : api_Breaker)].map q66).length) * (24 + 1)) (y40.map q66), .whenR [(decide (y1.1 > 1), true)] (.call 63 [dO 0 0, dI 4] [.box 121 (d121 y38.2)] (dI y42.1) [.box 121 (d121 y42.2)] [0])] [] 1 [0, 1, 2, 3, 4, 5, 7, 8, 9] [(0, dO 0 0), (2, dO 1 0), (3, dO 2 0), (7, dI z3.1), (8, dI (ln z3.2.2.2.2)), (9, dI y38.1), (121, dB ((decide (y1.1 > 1)) && (y42.1 == 3)))] [.box 121 (d121 y42.2), .box 29 [I 0, .os 3, .os 4, .os 5, I 0, I 0], .box 29 [I y1.1, .os 8, .os 6, .os 7, I y3.1, I y5.1], .sl 66 3 (([] : List api_Breaker).map q66), .sl 57 3 (([] : List api_Source).map q57), .sl 108 5 (([] : List api_Consumer).map q108), .sl 57 3 (z2.2.2.2.2.map q57), .sl 108 5 (z3.2.2.2.2.map q108), .sl 66 3 (y40.map q66)] hC ⟨len_map _ _, ⟨e63, (k63 (⟨z3.2.1, z3.2.2.1⟩ : dynposmake_Src) y1.1 _ h39)⟩, app_get q66 3 (fun _ => rfl) h41, ⟨fun hg => ⟨e63, (k63 y38.2 4 _ (guardO_get h43 hg))⟩, fun hg => by have e := guardO_not h43 hg; subst e; rfl⟩, trivial⟩ ⟨h37, trivial⟩ ?_
      obtain ⟨w4, h, hret4, hnext4⟩ := andThen_inv h
      refine WI_cut (by kernel_rfl) (fun s => w4 = .next s) (sa16_4 z3) (Ra16_4 y1 y3 y5 z2 z3 y42) ?_ fun z4 hs4 => ?_
      ·unfold F16_m4 at h
       rcases boolC (((decide (y1.1 > 1)) && (y42.1 == 3))) with h44 | h44
       ·replace h := condT h44 h
        obtain ⟨u46, h45, h⟩ := bindE h
        obtain ⟨y47, h48, h⟩ := bindE h
        exact we (bs := [(((decide (y1.1 > 1)) && (y42.1 == 3)), true)]) (φ := fun s' => w4 = .next s') (st' := (sa16_4 z3)) (R' := (Ra16_4 y1 y3 y5 z2 z3 y42)) lv16 23 [true] [.nz y1.1, .app (y40.map q66) ([(⟨3, Int.tmod (w64 (y38.1 + 1)) y1.1, (ln z3.2.2.2.2)⟩ : api_Breaker)].map q66) 3 (((y40.map q66).length + ([(⟨3, Int.tmod (w64 (y38.1 + 1)) y1.1, (ln z3.2.2.2.2)⟩ : api_Breaker)].map q66).length) * (24 + 1)) (y47.map q66)] [] 1 [0, 1, 2, 3, 4, 5, 6, 7, 9] y47 hC ⟨nz_get h45, app_get q66 3 (fun _ => rfl) h48, trivial⟩ ⟨h44, trivial⟩ (sI h).symm
       ·replace h := condF h44 h
        exact we (bs := [(((decide (y1.1 > 1)) && (y42.1 == 3)), false)]) (φ := fun s' => w4 = .next s') (st' := (sa16_4 z3)) (R' := (Ra16_4 y1 y3 y5 z2 z3 y42)) lv16 23 [false] [] [] 1 n9_ y40 hC trivial ⟨h44, trivial⟩ (sI h).symm
      ·clear h; have h := hnext4 _ hs4
       obtain ⟨y49, h50, h⟩ := bindE h
       obtain ⟨y51, h52, h⟩ := bindE h
       obtain ⟨y53, h54, h⟩ := bindE h
       obtain ⟨y55, h56, h⟩ := bindE h
       obtain ⟨y57, h58, h⟩ := bindE h
       refine ws (bs := []) lv16 28 [] [.call 62 [dO 0 0, .d (DS pI [0, 5, 20, 40])] [.box 121 (d121 y42.2)] (dI y49.1) [.box 121 (d121 y49.2)] [0], .nz 2, .call 62 [dO 0 0, .d (DS pI [0, w64 (Int.tdiv y49.1 2), y49.1])] [.box 121 (d121 y49.2)] (dI y51.1) [.box 121 (d121 y51.2)] [0], .call 63 [dO 0 0, dI 3] [.box 121 (d121 y51.2)] (dI y53.1) [.box 121 (d121 y53.2)] [0], .call 61 [dO 0 0, dI (-1), dI 2] [.box 121 (d121 y53.2)] (dI y55.1) [.box 121 (d121 y55.2)] [0], .whenR [(decide ((ln z3.2.2.2.2) > 0), true)] (.call 63 [dO 0 0, dI 4] [.box 121 (d121 y55.2)] (dI y57.1) [.box 121 (d121 y57.2)] [0])] [.ownb 9 4 3 1] 1 n11_ [(0, dO 0 0), (2, dO 1 0), (3, dO 2 0), (7, dI z3.1), (8, dI (ln z3.2.2.2.2)), (11, dO 9 0), (155, dB (c16_2 z3 y57))] [.box 121 (d121 y57.2), .box 29 [I 0, .os 3, .os 4, .os 5, I 0, I 0], .box 29 [I y1.1, .os 8, .os 6, .os 7, I y3.1, I y5.1], .sl 66 3 (([] : List api_Breaker).map q66), .sl 57 3 (([] : List api_Source).map q57), .sl 108 5 (([] : List api_Consumer).map q108), .sl 57 3 (z2.2.2.2.2.map q57), .sl 108 5 (z3.2.2.2.2.map q108), .sl 66 3 (z4.map q66), .box 108 [I y49.1, I y51.1, I y53.1, I y55.1, .os 10], .sl 3 1 (([] : List Int).map pI)] hC ⟨⟨e62, (k62 y42.2 [0, 5, 20, 40] _ h50)⟩, nz_lit rfl, ⟨e62, (k62 y49.2 [0, w64 (Int.tdiv y49.1 2), y49.1] _ h52)⟩, ⟨e63, (k63 y51.2 3 _ h54)⟩, ⟨e61, (k61 y53.2 (-1) 2 _ h56)⟩, ⟨fun hg => ⟨e63, (k63 y55.2 4 _ (guardO_get h58 hg))⟩, fun hg => by have e := guardO_not h58 hg; subst e; rfl⟩, trivial⟩ trivial ?_
       rcases boolC ((c16_2 z3 y57)) with h59 | h59
       ·replace h := condT h59 h
        obtain ⟨y60, h61, h⟩ := bindE h
        obtain ⟨y62, h63, h⟩ := bindE h
        exact we (bs := [((c16_2 z3 y57), true)]) (φ := fun s' => w3b = .next s') (st' := (st16_3)) (R' := (R16_3 y1 y3 y5 z2)) lv16 26 [true] [.call 63 [dO 0 0, dI (ln z3.2.2.2.2)] [.box 121 (d121 y57.2)] (dI y60.1) [.box 121 (d121 y60.2)] [0], .app (z3.2.2.2.2.map q108) ([(⟨y49.1, y51.1, y53.1, y55.1, [y60.1]⟩ : api_Consumer)].map q108) 5 (((z3.2.2.2.2.map q108).length + ([(⟨y49.1, y51.1, y53.1, y55.1, [y60.1]⟩ : api_Consumer)].map q108).length) * (56 + 1)) (y62.map q108)] [] 1 [0, 1, 2, 3, 4, 5, 8, 6, 11] (w64 (z3.1 - 1), y60.2.L, y60.2.At, z4, y62) hC ⟨⟨e63, (k63 y57.2 (ln z3.2.2.2.2) _ h61)⟩, app_get q108 5 (fun _ => rfl) h63, trivial⟩ ⟨h59, trivial⟩ (sI h).symm
       ·replace h := condF h59 h
        refine ws (bs := [((c16_2 z3 y57), false)]) lv16 2 [false] [] [.frz 10] 1 n10_ [(0, dO 0 0), (2, dO 1 0), (3, dO 2 0), (7, dI z3.1), (11, dO 9 0)] [.box 121 (d121 y57.2), .box 29 [I 0, .os 3, .os 4, .os 5, I 0, I 0], .box 29 [I y1.1, .os 8, .os 6, .os 7, I y3.1, I y5.1], .sl 66 3 (([] : List api_Breaker).map q66), .sl 57 3 (([] : List api_Source).map q57), .sl 108 5 (([] : List api_Consumer).map q108), .sl 57 3 (z2.2.2.2.2.map q57), .sl 108 5 (z3.2.2.2.2.map q108), .sl 66 3 (z4.map q66), .box 108 [I y49.1, I y51.1, I y53.1, I y55.1, DS pI ([] : List Int)]] hC trivial ⟨h59, trivial⟩ ?_
        obtain ⟨y64, h65, h⟩ := bindE h
        exact we (bs := []) (φ := fun s' => w3b = .next s') (st' := (st16_3)) (R' := (R16_3 y1 y3 y5 z2)) lv16 24 [] [.app (z3.2.2.2.2.map q108) ([(⟨y49.1, y51.1, y53.1, y55.1, ([] : List Int)⟩ : api_Consumer)].map q108) 5 (((z3.2.2.2.2.map q108).length + ([(⟨y49.1, y51.1, y53.1, y55.1, ([] : List Int)⟩ : api_Consumer)].map q108).length) * (56 + 1)) (y64.map q108)] [] 1 [0, 1, 2, 3, 4, 5, 8, 6, 10] (w64 (z3.1 - 1), y57.2.L, y57.2.At, z4, y64) hC ⟨app_get q108 5 (fun _ => rfl) h65, trivial⟩ trivial (sI h).symm
     ·replace h := condF h37 h
      exact we (bs := [(decide (z3.1 > 0), false)]) (φ := fun s' => w3 = .next s') (st' := (sa16_3)) (R' := (Ra16_3 y1 y3 y5 z2)) lv16 26 [false] [] [] 1 n9_ (z3.1, z3.2.1, z3.2.2.1, z3.2.2.2.1, z3.2.2.2.2) hC trivial ⟨h37, trivial⟩ (hb3 _ (sI h).symm)
    ·have h := hnext3 _ hs3
     replace h := sI h
     subst h
     exact wr (bs := []) lv16 23 [] [] [] [.cell 2 29] 1 [0, 6, 7, 8] hC trivial trivial
theorem e16 : Enters Tryz.prog 16 := en Tryz.func16
def lv17s1 : List Nat := [0, 1, 3, 4, 5, 6, 7, 8, 9, 11, 12, 13, 16, 17, 18, 30, 31, 32, 35, 36, 37, 38, 57, 67, 68, 69, 89, 90, 91, 92, 114, 119, 126]
def st17s1_0 (x1 : api_Board) (z0 : Int × (List Int) × Int × (List Bool)) : St := [(0, dO 0 0), (3, dO 4 0), (4, dO 5 0), (5, dO 6 0), (16, dI (ln x1.Breakers)), (17, dI z0.1)]
def R17s1_0 (x1 : api_Board) (z0 : Int × (List Int) × Int × (List Bool)) : List Res := (.box 121 [DS pI z0.2.1, I z0.2.2.1] :: zs x1 (.box 29 [I x1.Buses, .os 1, .os 2, .os 3, I x1.Phase, I x1.Frequency] :: .box 35 [.os 7, .os 8, .os 9, .os 10] :: .box 35 [.os 11, .os 12, .os 13, .os 14] :: ze [.sl 4 1 (z0.2.2.2.map pB), .sl 59 4 (([] : List api_Running).map q59), .sl 3 1 (([] : List Int).map pI), .sl 119 2 (([] : List api_Part).map q119)]))
def sa17s1_0  (z0 : Int × (List Int) × Int × (List Bool)) : St := [(0, dO 0 0), (3, dO 4 0), (4, dO 5 0), (5, dO 6 0)]
def Ra17s1_0 (x1 : api_Board) (z0 : Int × (List Int) × Int × (List Bool)) : List Res := (.box 121 [DS pI z0.2.1, I z0.2.2.1] :: zs x1 (.box 29 [I x1.Buses, .os 1, .os 2, .os 3, I x1.Phase, I x1.Frequency] :: .box 35 [.os 7, .os 8, .os 9, .os 10] :: .box 35 [.os 11, .os 12, .os 13, .os 14] :: ze [.sl 4 1 (z0.2.2.2.map pB), .sl 59 4 (([] : List api_Running).map q59), .sl 3 1 (([] : List Int).map pI), .sl 119 2 (([] : List api_Part).map q119)]))
def st17s1_1 (x1 : api_Board) (z1 : Int × (List Bool)) : St := [(0, dO 0 0), (3, dO 4 0), (4, dO 5 0), (5, dO 6 0), (30, dI (ln x1.Consumers)), (31, dI z1.1)]
def R17s1_1 (x1 : api_Board) (z0 : Int × (List Int) × Int × (List Bool)) (z1 : Int × (List Bool)) : List Res := (.box 121 [DS pI z0.2.1, I z0.2.2.1] :: zs x1 (.box 29 [I x1.Buses, .os 1, .os 2, .os 3, I x1.Phase, I x1.Frequency] :: .box 35 [.os 7, .os 8, .os 9, .os 10] :: .box 35 [.os 11, .os 12, .os 13, .os 14] :: ze [.sl 4 1 (z1.2.map pB), .sl 59 4 (([] : List api_Running).map q59), .sl 3 1 (([] : List Int).map pI), .sl 119 2 (([] : List api_Part).map q119)]))
def sa17s1_1  (z1 : Int × (List Bool)) : St := [(0, dO 0 0), (3, dO 4 0), (4, dO 5 0), (5, dO 6 0)]
def Ra17s1_1 (x1 : api_Board) (z0 : Int × (List Int) × Int × (List Bool)) (z1 : Int × (List Bool)) : List Res := (.box 121 [DS pI z0.2.1, I z0.2.2.1] :: zs x1 (.box 29 [I x1.Buses, .os 1, .os 2, .os 3, I x1.Phase, I x1.Frequency] :: .box 35 [.os 7, .os 8, .os 9, .os 10] :: .box 35 [.os 11, .os 12, .os 13, .os 14] :: ze [.sl 4 1 (z1.2.map pB), .sl 59 4 (([] : List api_Running).map q59), .sl 3 1 (([] : List Int).map pI), .sl 119 2 (([] : List api_Part).map q119)]))
def st17s1_2 (x1 : api_Board) (z1 : Int × (List Bool)) (n2 : Nat) (z2 : Bool × (List Bool)) : St := [(0, dO 0 0), (3, dO 4 0), (4, dO 5 0), (5, dO 6 0), (6, dI z1.1), (7, dB z2.1), (30, dI (ln x1.Consumers)), (31, dI z1.1), (35, dS 1), (36, dI (ln x1.Breakers)), (37, dI (cnt 0 n2))]
def R17s1_2 (x1 : api_Board) (z0 : Int × (List Int) × Int × (List Bool)) (n2 : Nat) (z2 : Bool × (List Bool)) : List Res := (.box 121 [DS pI z0.2.1, I z0.2.2.1] :: zs x1 (.box 29 [I x1.Buses, .os 1, .os 2, .os 3, I x1.Phase, I x1.Frequency] :: .box 35 [.os 7, .os 8, .os 9, .os 10] :: .box 35 [.os 11, .os 12, .os 13, .os 14] :: ze [.sl 4 1 (z2.2.map pB), .sl 59 4 (([] : List api_Running).map q59), .sl 3 1 (([] : List Int).map pI), .sl 119 2 (([] : List api_Part).map q119)]))
def sa17s1_2 (x1 : api_Board) (z1 : Int × (List Bool)) (z2 : Bool × (List Bool)) : St := [(0, dO 0 0), (3, dO 4 0), (4, dO 5 0), (5, dO 6 0), (30, dI (ln x1.Consumers)), (31, dI z1.1)]
def Ra17s1_2 (x1 : api_Board) (z0 : Int × (List Int) × Int × (List Bool)) (z2 : Bool × (List Bool)) : List Res := (.box 121 [DS pI z0.2.1, I z0.2.2.1] :: zs x1 (.box 29 [I x1.Buses, .os 1, .os 2, .os 3, I x1.Phase, I x1.Frequency] :: .box 35 [.os 7, .os 8, .os 9, .os 10] :: .box 35 [.os 11, .os 12, .os 13, .os 14] :: ze [.sl 4 1 (z2.2.map pB), .sl 59 4 (([] : List api_Running).map q59), .sl 3 1 (([] : List Int).map pI), .sl 119 2 (([] : List api_Part).map q119)]))
def st17s1_3 (x1 : api_Board) (z3 : Sg4) : St := [(0, dO 0 0), (3, dO 4 0), (4, dO 5 0), (5, dO 6 0), (67, dI (ln x1.Sources)), (68, dI z3.1)]
def R17s1_3 (x1 : api_Board) (z1 : Int × (List Bool)) (z3 : Sg4) : List Res := (.box 121 [DS pI z3.2.1, I z3.2.2.1] :: zs x1 (.box 29 [I x1.Buses, .os 1, .os 2, .os 3, I x1.Phase, I x1.Frequency] :: .box 35 [.os 7, .os 8, .os 9, .os 10] :: .box 35 [.os 11, .os 12, .os 13, .os 14] :: ze [.sl 4 1 (z1.2.map pB), .sl 59 4 (z3.2.2.2.map q59), .sl 3 1 (([] : List Int).map pI), .sl 119 2 (([] : List api_Part).map q119)]))
def sa17s1_3  (z3 : Sg4) : St := [(0, dO 0 0), (3, dO 4 0), (4, dO 5 0), (5, dO 6 0)]
def Ra17s1_3 (x1 : api_Board) (z1 : Int × (List Bool)) (z3 : Sg4) : List Res := (.box 121 [DS pI z3.2.1, I z3.2.2.1] :: zs x1 (.box 29 [I x1.Buses, .os 1, .os 2, .os 3, I x1.Phase, I x1.Frequency] :: .box 35 [.os 7, .os 8, .os 9, .os 10] :: .box 35 [.os 11, .os 12, .os 13, .os 14] :: ze [.sl 4 1 (z1.2.map pB), .sl 59 4 (z3.2.2.2.map q59), .sl 3 1 (([] : List Int).map pI), .sl 119 2 (([] : List api_Part).map q119)]))
def st17s1_4 (x1 : api_Board) (n4 : Nat) (z4 : (List Int) × Int × (List Int)) : St := [(0, dO 0 0), (3, dO 4 0), (4, dO 5 0), (5, dO 6 0), (89, dS 3), (90, dI (ln x1.Consumers)), (91, dI (cnt 0 n4))]
def R17s1_4 (x1 : api_Board) (z1 : Int × (List Bool)) (z3 : Sg4) (n4 : Nat) (z4 : (List Int) × Int × (List Int)) : List Res := (.box 121 [DS pI z4.1, I z4.2.1] :: zs x1 (.box 29 [I x1.Buses, .os 1, .os 2, .os 3, I x1.Phase, I x1.Frequency] :: .box 35 [.os 7, .os 8, .os 9, .os 10] :: .box 35 [.os 11, .os 12, .os 13, .os 14] :: ze [.sl 4 1 (z1.2.map pB), .sl 59 4 (z3.2.2.2.map q59), .sl 3 1 (z4.2.2.map pI), .sl 119 2 (([] : List api_Part).map q119)]))
def sa17s1_4  (z4 : (List Int) × Int × (List Int)) : St := [(0, dO 0 0), (3, dO 4 0), (4, dO 5 0), (5, dO 6 0)]
def Ra17s1_4 (x1 : api_Board) (z1 : Int × (List Bool)) (z3 : Sg4) (z4 : (List Int) × Int × (List Int)) : List Res := (.box 121 [DS pI z4.1, I z4.2.1] :: zs x1 (.box 29 [I x1.Buses, .os 1, .os 2, .os 3, I x1.Phase, I x1.Frequency] :: .box 35 [.os 7, .os 8, .os 9, .os 10] :: .box 35 [.os 11, .os 12, .os 13, .os 14] :: ze [.sl 4 1 (z1.2.map pB), .sl 59 4 (z3.2.2.2.map q59), .sl 3 1 (z4.2.2.map pI), .sl 119 2 (([] : List api_Part).map q119)]))
def st17s1_5  (z5 : Int × (List Int) × Int × (List api_Part)) : St := [(0, dO 0 0), (3, dO 4 0), (4, dO 5 0), (5, dO 6 0), (12, dI z5.1)]
def R17s1_5 (x1 : api_Board) (z1 : Int × (List Bool)) (z3 : Sg4) (z4 : (List Int) × Int × (List Int)) (z5 : Int × (List Int) × Int × (List api_Part)) : List Res := (.box 121 [DS pI z5.2.1, I z5.2.2.1] :: zs x1 (.box 29 [I x1.Buses, .os 1, .os 2, .os 3, I x1.Phase, I x1.Frequency] :: .box 35 [.os 7, .os 8, .os 9, .os 10] :: .box 35 [.os 11, .os 12, .os 13, .os 14] :: ze [.sl 4 1 (z1.2.map pB), .sl 59 4 (z3.2.2.2.map q59), .sl 3 1 (z4.2.2.map pI), .sl 119 2 (z5.2.2.2.map q119)]))
def sa17s1_5  (z5 : Int × (List Int) × Int × (List api_Part)) : St := [(4, dO 4 0), (5, dO 5 0)]
def Ra17s1_5 (x1 : api_Board) (z1 : Int × (List Bool)) (z3 : Sg4) (z4 : (List Int) × Int × (List Int)) (z5 : Int × (List Int) × Int × (List api_Part)) : List Res := (.box 121 [DS pI z5.2.1, I z5.2.2.1] :: zs x1 (.box 35 [.os 6, .os 7, .os 8, .os 9] :: .box 35 [.os 10, .os 11, .os 12, .os 13] :: ze [.sl 4 1 (z1.2.map pB), .sl 59 4 (z3.2.2.2.map q59), .sl 3 1 (z4.2.2.map pI), .sl 119 2 (z5.2.2.2.map q119)]))
set_option maxHeartbeats 4000000 in
theorem k17s1 (x0 : dynposmake_Src) (x1 : api_Board) (r : api_Power × dynposmake_Src) (h : F17s1 x0 x1 = some r) : CallOk Tryz.prog 17 [.d (.o 0 0), .agg [I x1.Buses, .os 1, .os 2, .os 3, I x1.Phase, I x1.Frequency]] (.box 121 (d121 x0) :: zs x1 []) (.agg [.os 4, .os 5, .os 6, .os 7]) (.box 121 (d121 r.2) :: zs x1 (zp r.1 [])) := by
 unfold F17s1 at h
 refine callOk_of 134 Tryz.func17 rfl rfl rfl fun C hC => ?_
 refine ws (bs := []) lv17s1 28 [] [.len (ln (x1.Breakers.map q66)) (ln x1.Breakers)] [.ownb 5 0 4 1, .ownb 5 1 59 4, .ownb 5 2 3 1, .ownb 5 3 119 2, .ownb 6 0 4 1, .ownb 6 1 59 4, .ownb 6 2 3 1, .ownb 6 3 119 2] 4 n15_ (st17s1_0 x1 (0, x0.L, x0.At, ([] : List Bool))) (R17s1_0 x1 (0, x0.L, x0.At, ([] : List Bool))) hC ⟨len_map _ _, trivial⟩ trivial ?_
 obtain ⟨w0, hm0, hret0, hnext0⟩ := andThen_inv h
 clear h
 refine WI_cut (by kernel_rfl) (fun s => w0 = .next s) (sa17s1_0) (Ra17s1_0 x1) ?_ fun z0 hs0 => ?_
 ·refine WI_blk (by kernel_rfl) ?_
  refine WI_while (by kernel_rfl) (F17s1_l0 x1) (st17s1_0 x1) (R17s1_0 x1) w0 1152921504606846976 (0, x0.L, x0.At, ([] : List Bool)) hm0 rfl rfl fun z0 w0b h hb0 hr0 => ?_
  unfold F17s1_l0 at h
  rcases boolC ((c17s1_1 x1 z0)) with h1 | h1
  ·replace h := condT h1 h
   obtain ⟨y2, h3, h⟩ := bindE h
   obtain ⟨y4, h5, h⟩ := bindE h
   exact we (bs := [((c17s1_1 x1 z0), true)]) (φ := fun s' => w0b = .next s') (st' := (st17s1_0 x1)) (R' := (R17s1_0 x1)) lv17s1 31 [true] [.call 63 [dO 0 0, dI 2] [.box 121 [DS pI z0.2.1, I z0.2.2.1]] (dI y2.1) [.box 121 (d121 y2.2)] [0], .app (z0.2.2.2.map pB) ([(y2.1 == 1)].map pB) 1 (((z0.2.2.2.map pB).length + ([(y2.1 == 1)].map pB).length) * (1 + 1)) (y4.map pB)] [] 4 [0, 1, 2, 3, 4, 5, 6, 7, 8, 9, 10, 15, 12, 13, 14] (w64 (z0.1 + 1), y2.2.L, y2.2.At, y4) hC ⟨⟨e63, (k63 (⟨z0.2.1, z0.2.2.1⟩ : dynposmake_Src) 2 _ h3)⟩, app_get pB 1 (fun _ => rfl) h5, trivial⟩ ⟨h1, trivial⟩ (sI h).symm
  ·replace h := condF h1 h
   exact we (bs := [((c17s1_1 x1 z0), false)]) (φ := fun s' => w0 = .next s') (st' := (sa17s1_0)) (R' := (Ra17s1_0 x1)) lv17s1 26 [false] [] [] 4 n15_ (z0.1, z0.2.1, z0.2.2.1, z0.2.2.2) hC trivial ⟨h1, trivial⟩ (hb0 _ (sI h).symm)
 ·have h := hnext0 _ hs0
  refine ws (bs := []) lv17s1 24 [] [.len (ln (x1.Consumers.map q108)) (ln x1.Consumers)] [] 4 n15_ (st17s1_1 x1 (0, z0.2.2.2)) (R17s1_1 x1 z0 (0, z0.2.2.2)) hC ⟨len_map _ _, trivial⟩ trivial ?_
  obtain ⟨w1, hm1, hret1, hnext1⟩ := andThen_inv h
  clear h
  refine WI_cut (by kernel_rfl) (fun s => w1 = .next s) (sa17s1_1) (Ra17s1_1 x1 z0) ?_ fun z1 hs1 => ?_
  ·refine WI_blk (by kernel_rfl) ?_
   refine WI_while (by kernel_rfl) (F17s1_l1 x1) (st17s1_1 x1) (R17s1_1 x1 z0) w1 1152921504606846976 (0, z0.2.2.2) hm1 rfl rfl fun z1 w1b h hb1 hr1 => ?_
   unfold F17s1_l1 at h
   rcases boolC ((c17s1_9 x1 z1)) with h6 | h6
   ·replace h := condT h6 h
    refine ws (bs := [((c17s1_9 x1 z1), true)]) lv17s1 34 [true] [.len (ln (x1.Breakers.map q66)) (ln x1.Breakers)] [] 4 n15_ (st17s1_2 x1 z1 0 (true, z1.2)) (R17s1_2 x1 z0 0 (true, z1.2)) hC ⟨len_map _ _, trivial⟩ ⟨h6, trivial⟩ ?_
    obtain ⟨w2, hm2, hret2, hnext2⟩ := andThen_inv h
    clear h
    refine WI_cut (by kernel_rfl) (fun s => w2 = .next s) (sa17s1_2 x1 z1) (Ra17s1_2 x1 z0) ?_ fun z2 hs2 => ?_
    ·refine WI_blk (by kernel_rfl) ?_
     refine WI_lenO 35 1 rfl rfl fun hl2 => ?_
     refine WI_foldI (by kernel_rfl) (F17s1_l2 z1) (st17s1_2 x1 z1) (R17s1_2 x1 z0) w2 x1.Breakers (true, z1.2) hm2 rfl rfl (fun z2 hn2 => ?_) fun n2 a2 z2 w2b hi2 hx2 h hb2 hr2 => ?_
     ·clear hm2
      exact we (bs := [(decide ((cnt 0 x1.Breakers.length) < (ln x1.Breakers)), false)]) (φ := fun s' => w2 = .next s') (st' := (sa17s1_2 x1 z1)) (R' := (Ra17s1_2 x1 z0)) lv17s1 26 [false] [] [] 4 n15_ (z2.1, z2.2) hC trivial ⟨(cnt_end hl2), trivial⟩ hn2
     ·unfold F17s1_l2 at h
      obtain ⟨y7, h8, h⟩ := bindE h
      refine ws (bs := [(decide ((cnt 0 n2) < (ln x1.Breakers)), true)]) lv17s1 32 [true] [.row (x1.Breakers.map q66) (cnt 0 n2) (q66 a2), .row (x1.Breakers.map q66) (((Int.toNat (cnt 0 n2)) : Nat) : Int) (q66 a2), .when [(((a2.Kind == 3) && (a2.B == z1.1)), true)] (.row (z2.2.map pB) (cnt 0 n2) (pB y7)), .when [(((a2.Kind == 3) && (a2.B == z1.1)), true)] (.row (z2.2.map pB) (((Int.toNat (cnt 0 n2)) : Nat) : Int) (pB y7))] [] 4 n15_ [(0, dO 0 0), (3, dO 4 0), (4, dO 5 0), (5, dO 6 0), (6, dI z1.1), (7, dB z2.1), (8, dI (cnt 0 n2)), (30, dI (ln x1.Consumers)), (31, dI z1.1), (35, dS 1), (36, dI (ln x1.Breakers)), (37, dI (cnt 0 n2)), (57, dB (c17s1_12 z1 a2 y7))] (.box 121 [DS pI z0.2.1, I z0.2.2.1] :: zs x1 (.box 29 [I x1.Buses, .os 1, .os 2, .os 3, I x1.Phase, I x1.Frequency] :: .box 35 [.os 7, .os 8, .os 9, .os 10] :: .box 35 [.os 11, .os 12, .os 13, .os 14] :: ze [.sl 4 1 (z2.2.map pB), .sl 59 4 (([] : List api_Running).map q59), .sl 3 1 (([] : List Int).map pI), .sl 119 2 (([] : List api_Part).map q119)])) hC ⟨row_get (get_cnt hx2 hl2), row_getN (get_cnt hx2 hl2), fun hg => row_get (guardO_get h8 hg), fun hg => row_getN (guardO_get h8 hg), trivial⟩ ⟨(cnt_lt hi2 hl2), trivial⟩ ?_
      rcases boolC ((c17s1_12 z1 a2 y7)) with h9 | h9
      ·replace h := condT h9 h
       obtain ⟨y10, h11, h⟩ := bindE h
       obtain ⟨y12, h13, h⟩ := bindE h
       exact we (bs := [((c17s1_12 z1 a2 y7), true)]) (φ := fun s' => w2b = .next s') (st' := (st17s1_2 x1 z1 (n2 + 1))) (R' := (R17s1_2 x1 z0 (n2 + 1))) lv17s1 27 [true] [.row (z2.2.map pB) (cnt 0 n2) (pB y10), .upd (z2.2.map pB) (Int.toNat (cnt 0 n2)) (pB y10) (pB z2.1) (y12.map pB)] [] 4 n15_ (false, y12) hC ⟨row_get h11, upd_get h11 h13, trivial⟩ ⟨h9, trivial⟩ (sI h).symm
      ·replace h := condF h9 h
       exact we (bs := [((c17s1_12 z1 a2 y7), false)]) (φ := fun s' => w2b = .next s') (st' := (st17s1_2 x1 z1 (n2 + 1))) (R' := (R17s1_2 x1 z0 (n2 + 1))) lv17s1 25 [false] [] [] 4 n15_ (z2.1, z2.2) hC trivial ⟨h9, trivial⟩ (sI h).symm
    ·have h := hnext2 _ hs2
     exact we (bs := []) (φ := fun s' => w1b = .next s') (st' := (st17s1_1 x1)) (R' := (R17s1_1 x1 z0)) lv17s1 23 [] [] [] 4 n15_ (w64 (z1.1 + 1), z2.2) hC trivial trivial (sI h).symm
   ·replace h := condF h6 h
    exact we (bs := [((c17s1_9 x1 z1), false)]) (φ := fun s' => w1 = .next s') (st' := (sa17s1_1)) (R' := (Ra17s1_1 x1 z0)) lv17s1 26 [false] [] [] 4 n15_ (z1.1, z1.2) hC trivial ⟨h6, trivial⟩ (hb1 _ (sI h).symm)
  ·have h := hnext1 _ hs1
   refine ws (bs := []) lv17s1 24 [] [.len (ln (x1.Sources.map q57)) (ln x1.Sources)] [] 4 n15_ (st17s1_3 x1 (0, z0.2.1, z0.2.2.1, ([] : List api_Running))) (R17s1_3 x1 z1 (0, z0.2.1, z0.2.2.1, ([] : List api_Running))) hC ⟨len_map _ _, trivial⟩ trivial ?_
   obtain ⟨w3, hm3, hret3, hnext3⟩ := andThen_inv h
   clear h
   refine WI_cut (by kernel_rfl) (fun s => w3 = .next s) (sa17s1_3) (Ra17s1_3 x1 z1) ?_ fun z3 hs3 => ?_
   ·refine WI_blk (by kernel_rfl) ?_
    refine WI_while (by kernel_rfl) (F17s1_l3 x1) (st17s1_3 x1) (R17s1_3 x1 z1) w3 1152921504606846976 (0, z0.2.1, z0.2.2.1, ([] : List api_Running)) hm3 rfl rfl fun z3 w3b h hb3 hr3 => ?_
    unfold F17s1_l3 at h
    rcases boolC ((c17s1_14 x1 z3)) with h14 | h14
    ·replace h := condT h14 h
     obtain ⟨y15, h16, h⟩ := bindE h
     obtain ⟨y17, h18, h⟩ := bindE h
     obtain ⟨y19, h20, h⟩ := bindE h
     obtain ⟨y21, h22, h⟩ := bindE h
     obtain ⟨y23, h24, h⟩ := bindE h
     exact we (bs := [((c17s1_14 x1 z3), true)]) (φ := fun s' => w3b = .next s') (st' := (st17s1_3 x1)) (R' := (R17s1_3 x1 z1)) lv17s1 31 [true] [.call 62 [dO 0 0, .d (DS pI [0, 1, 2, 2, 2, 3])] [.box 121 [DS pI z3.2.1, I z3.2.2.1]] (dI y15.1) [.box 121 (d121 y15.2)] [0], .call 63 [dO 0 0, dI 5] [.box 121 (d121 y15.2)] (dI y17.1) [.box 121 (d121 y17.2)] [0], .call 62 [dO 0 0, .d (DS pI [5000, 5000, 5005, 4950])] [.box 121 (d121 y17.2)] (dI y19.1) [.box 121 (d121 y19.2)] [0], .call 62 [dO 0 0, .d (DS pI [0, 0, 40, 1800, 3590])] [.box 121 (d121 y19.2)] (dI y21.1) [.box 121 (d121 y21.2)] [0], .app (z3.2.2.2.map q59) ([(⟨y15.1, y17.1, y19.1, y21.1⟩ : api_Running)].map q59) 4 (((z3.2.2.2.map q59).length + ([(⟨y15.1, y17.1, y19.1, y21.1⟩ : api_Running)].map q59).length) * (32 + 1)) (y23.map q59)] [] 4 [0, 1, 2, 3, 4, 5, 6, 7, 8, 9, 10, 11, 15, 13, 14] (w64 (z3.1 + 1), y21.2.L, y21.2.At, y23) hC ⟨⟨e62, (k62 (⟨z3.2.1, z3.2.2.1⟩ : dynposmake_Src) [0, 1, 2, 2, 2, 3] _ h16)⟩, ⟨e63, (k63 y15.2 5 _ h18)⟩, ⟨e62, (k62 y17.2 [5000, 5000, 5005, 4950] _ h20)⟩, ⟨e62, (k62 y19.2 [0, 0, 40, 1800, 3590] _ h22)⟩, app_get q59 4 (fun _ => rfl) h24, trivial⟩ ⟨h14, trivial⟩ (sI h).symm
    ·replace h := condF h14 h
     exact we (bs := [((c17s1_14 x1 z3), false)]) (φ := fun s' => w3 = .next s') (st' := (sa17s1_3)) (R' := (Ra17s1_3 x1 z1)) lv17s1 26 [false] [] [] 4 n15_ (z3.1, z3.2.1, z3.2.2.1, z3.2.2.2) hC trivial ⟨h14, trivial⟩ (hb3 _ (sI h).symm)
   ·have h := hnext3 _ hs3
    refine ws (bs := []) lv17s1 24 [] [.len (ln (x1.Consumers.map q108)) (ln x1.Consumers)] [] 4 n15_ (st17s1_4 x1 0 (z3.2.1, z3.2.2.1, ([] : List Int))) (R17s1_4 x1 z1 z3 0 (z3.2.1, z3.2.2.1, ([] : List Int))) hC ⟨len_map _ _, trivial⟩ trivial ?_
    obtain ⟨w4, hm4, hret4, hnext4⟩ := andThen_inv h
    clear h
    refine WI_cut (by kernel_rfl) (fun s => w4 = .next s) (sa17s1_4) (Ra17s1_4 x1 z1 z3) ?_ fun z4 hs4 => ?_
    ·refine WI_blk (by kernel_rfl) ?_
     refine WI_lenO 89 3 rfl rfl fun hl4 => ?_
     refine WI_foldI (by kernel_rfl) F17s1_l4 (st17s1_4 x1) (R17s1_4 x1 z1 z3) w4 x1.Consumers (z3.2.1, z3.2.2.1, ([] : List Int)) hm4 rfl rfl (fun z4 hn4 => ?_) fun n4 a4 z4 w4b hi4 hx4 h hb4 hr4 => ?_
     ·clear hm4
      exact we (bs := [(decide ((cnt 0 x1.Consumers.length) < (ln x1.Consumers)), false)]) (φ := fun s' => w4 = .next s') (st' := (sa17s1_4)) (R' := (Ra17s1_4 x1 z1 z3)) lv17s1 26 [false] [] [] 4 n15_ (z4.1, z4.2.1, z4.2.2) hC trivial ⟨(cnt_end hl4), trivial⟩ hn4
     ·unfold F17s1_l4 at h
      obtain ⟨y25, h26, h⟩ := bindE h
      obtain ⟨y27, h28, h⟩ := bindE h
      exact we (bs := [(decide ((cnt 0 n4) < (ln x1.Consumers)), true)]) (φ := fun s' => w4b = .next s') (st' := (st17s1_4 x1 (n4 + 1))) (R' := (R17s1_4 x1 z1 z3 (n4 + 1))) lv17s1 33 [true] [.row (x1.Consumers.map q108) (cnt 0 n4) (q108 a4), .row (x1.Consumers.map q108) (((Int.toNat (cnt 0 n4)) : Nat) : Int) (q108 a4), .nz 3, .call 62 [dO 0 0, .d (DS pI [a4.Load, a4.Load, a4.Least, w64 (Int.tdiv a4.Load 3)])] [.box 121 [DS pI z4.1, I z4.2.1]] (dI y25.1) [.box 121 (d121 y25.2)] [0], .app (z4.2.2.map pI) ([y25.1].map pI) 1 (((z4.2.2.map pI).length + ([y25.1].map pI).length) * (8 + 1)) (y27.map pI)] [] 4 [0, 1, 2, 3, 4, 5, 6, 7, 8, 9, 10, 11, 12, 16, 14] (y25.2.L, y25.2.At, y27) hC ⟨row_get (get_cnt hx4 hl4), row_getN (get_cnt hx4 hl4), nz_lit rfl, ⟨e62, (k62 (⟨z4.1, z4.2.1⟩ : dynposmake_Src) [a4.Load, a4.Load, a4.Least, w64 (Int.tdiv a4.Load 3)] _ h26)⟩, app_get pI 1 (fun _ => rfl) h28, trivial⟩ ⟨(cnt_lt hi4 hl4), trivial⟩ (sI h).symm
    ·have h := hnext4 _ hs4
     refine ws (bs := []) lv17s1 24 [] [] [] 4 n15_ (st17s1_5 (1, z4.1, z4.2.1, ([] : List api_Part))) (R17s1_5 x1 z1 z3 z4 (1, z4.1, z4.2.1, ([] : List api_Part))) hC trivial trivial ?_
     obtain ⟨w5, hm5, hret5, hnext5⟩ := andThen_inv h
     clear h
     refine WI_cut (by kernel_rfl) (fun s => w5 = .next s) (sa17s1_5) (Ra17s1_5 x1 z1 z3 z4) ?_ fun z5 hs5 => ?_
     ·refine WI_blk (by kernel_rfl) ?_
      refine WI_while (by kernel_rfl) (F17s1_l5 x1) (st17s1_5) (R17s1_5 x1 z1 z3 z4) w5 7 (1, z4.1, z4.2.1, ([] : List api_Part)) hm5 rfl rfl fun z5 w5b h hb5 hr5 => ?_
      unfold F17s1_l5 at h
      rcases boolC (decide (z5.1 ≤ 4)) with h29 | h29
      ·replace h := condT h29 h
       obtain ⟨y30, h31, h⟩ := bindE h
       rcases boolC ((y30.1 == 4)) with h32 | h32
       ·replace h := condT h32 h
        obtain ⟨y33, h34, h⟩ := bindE h
        refine ws (bs := [(decide (z5.1 ≤ 4), true), ((y30.1 == 4), true)]) lv17s1 35 [true, true] [.call 63 [dO 0 0, dI 5] [.box 121 [DS pI z5.2.1, I z5.2.2.1]] (dI y30.1) [.box 121 (d121 y30.2)] [0], .call 63 [dO 0 0, dI 4] [.box 121 (d121 y30.2)] (dI y33.1) [.box 121 (d121 y33.2)] [0], .callB 64 [.agg (d29 x1), .agg [I z5.1, I y33.1]] (dB (F64 x1 (⟨z5.1, y33.1⟩ : api_Part))) [[]] 0 []] [] 4 n16_ [(0, dO 0 0), (3, dO 4 0), (4, dO 5 0), (5, dO 6 0), (12, dI z5.1), (13, dO 15 0), (126, dB (F64 x1 (⟨z5.1, y33.1⟩ : api_Part)))] (.box 121 (d121 y33.2) :: zs x1 (.box 29 [I x1.Buses, .os 1, .os 2, .os 3, I x1.Phase, I x1.Frequency] :: .box 35 [.os 7, .os 8, .os 9, .os 10] :: .box 35 [.os 11, .os 12, .os 13, .os 14] :: ze [.sl 4 1 (z1.2.map pB), .sl 59 4 (z3.2.2.2.map q59), .sl 3 1 (z4.2.2.map pI), .sl 119 2 (z5.2.2.2.map q119), .box 119 [I z5.1, I y33.1]])) hC ⟨⟨e63, (k63 (⟨z5.2.1, z5.2.2.1⟩ : dynposmake_Src) 5 _ h31)⟩, ⟨e63, (k63 y30.2 4 _ h34)⟩, lend0_get ⟨e64, (k64 x1 (⟨z5.1, y33.1⟩ : api_Part) _ rfl)⟩, trivial⟩ ⟨h29, h32, trivial⟩ ?_
        rcases boolC (F64 x1 (⟨z5.1, y33.1⟩ : api_Part)) with h35 | h35
        ·replace h := condT h35 h
         obtain ⟨y36, h37, h⟩ := bindE h
         exact we (bs := [(F64 x1 (⟨z5.1, y33.1⟩ : api_Part), true)]) (φ := fun s' => w5b = .next s') (st' := (st17s1_5)) (R' := (R17s1_5 x1 z1 z3 z4)) lv17s1 25 [true] [.app (z5.2.2.2.map q119) ([(⟨z5.1, y33.1⟩ : api_Part)].map q119) 2 (((z5.2.2.2.map q119).length + ([(⟨z5.1, y33.1⟩ : api_Part)].map q119).length) * (16 + 1)) (y36.map q119)] [] 4 [0, 1, 2, 3, 4, 5, 6, 7, 8, 9, 10, 11, 12, 13, 16] (w64 (z5.1 + 1), y33.2.L, y33.2.At, y36) hC ⟨app_get q119 2 (fun _ => rfl) h37, trivial⟩ ⟨h35, trivial⟩ (sI h).symm
        ·replace h := condF h35 h
         exact we (bs := [(F64 x1 (⟨z5.1, y33.1⟩ : api_Part), false)]) (φ := fun s' => w5b = .next s') (st' := (st17s1_5)) (R' := (R17s1_5 x1 z1 z3 z4)) lv17s1 25 [false] [] [] 4 n15_ (w64 (z5.1 + 1), y33.2.L, y33.2.At, z5.2.2.2) hC trivial ⟨h35, trivial⟩ (sI h).symm
       ·replace h := condF h32 h
        exact we (bs := [(decide (z5.1 ≤ 4), true), ((y30.1 == 4), false)]) (φ := fun s' => w5b = .next s') (st' := (st17s1_5)) (R' := (R17s1_5 x1 z1 z3 z4)) lv17s1 34 [true, false] [.call 63 [dO 0 0, dI 5] [.box 121 [DS pI z5.2.1, I z5.2.2.1]] (dI y30.1) [.box 121 (d121 y30.2)] [0]] [] 4 n15_ (w64 (z5.1 + 1), y30.2.L, y30.2.At, z5.2.2.2) hC ⟨⟨e63, (k63 (⟨z5.2.1, z5.2.2.1⟩ : dynposmake_Src) 5 _ h31)⟩, trivial⟩ ⟨h29, h32, trivial⟩ (sI h).symm
      ·replace h := condF h29 h
       exact we (bs := [(decide (z5.1 ≤ 4), false)]) (φ := fun s' => w5 = .next s') (st' := (sa17s1_5)) (R' := (Ra17s1_5 x1 z1 z3 z4)) lv17s1 26 [false] [] [] 4 [0, 1, 2, 3, 5, 6, 7, 8, 9, 10, 11, 12, 13, 14] (z5.1, z5.2.1, z5.2.2.1, z5.2.2.2) hC trivial ⟨h29, trivial⟩ (hb5 _ (sI h).symm)
     ·have h := hnext5 _ hs5
      replace h := sI h
      subst h
      exact wr (bs := []) lv17s1 23 [] [] [] [.cell 4 35] 4 [0, 1, 2, 3, 10, 11, 12, 13] hC trivial trivial
theorem e17s1 : Enters Tryz.prog 17 := en Tryz.func17
end Go.Proofs.YtkngbnedbgndoaaGreat
