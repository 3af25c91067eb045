/-
  The law 'dynposlaw42.DrillInputs' answers true for every input,and each argument reads behind the call as it read before. No condition.
-/
import Derived.Test.YtedojeimigneaaaGreatDoorM1
import Derived.Test.YtedojeimigneaaaGreatDoorPl0
import Derived.Test.YtedojeimigneaaaGreatDoorTb
import Derived.Test.YtedojeimigneaaaGreatDoorFa
import Derived.Test.YtedojeimigneaaaGreatDoorSlW
import Derived.Test.YtedojeimigneaaaGreatDoorRows
import Derived.Test.YtedojeimigneaaaGreatDoorCards
import Derived.Test.YtedojeimigneaaaGreatDoorTie
import Derived.Deep.DeepHandedRow
import Derived.LaidLaws
namespace Go.Proofs.YtedojeimigneaaaGreatDoor.drillInputs
open Go.ChangeShapes Go.WideShapes Go.ChangeAt Go.RowKit Go.SL
set_option linter.unusedVariables false



set_option maxRecDepth 100000 in
theorem contract (H:Type) (enc:TypeId×Value→H) (W:World) (args:Array Value) (ds gs:List (DataW H)) (before:List MemPlace)
    {base:Nat} (hval:∀ (j:Nat) t v,Tryz.f3.params[j]? = some t→args[j]? = some v→Value.okWide Tryz.prog W .any base t v)
    (hW:DataW.Whole enc Tryz.prog Tryz.f3.params.toList Rows.drillInputsSpec.vars false W args.toList ds gs before) (hL:laidMetH Tryz.prog Rows.drillInputsRow.laid W) :
    Calls Tryz.prog 3 args W fun e W'=>∃ v,e = .returned v∧Rows.drillInputsSpec.post enc Tryz.prog Tryz.f3 false true false false W args v W':=by
  have hW':=hW
  obtain⟨p,q,hA0,hV,rfl,hfz,hnd⟩:=hW
  have hA:DataW.TrodAll enc Tryz.prog W 0 (fun _=>true) true Tryz.f3.params.toList args.toList ds p:=hA0
  have hA1:=hA
  rw [Tryz.params3] at hA hval hA1
  obtain⟨v0,vs0,d0,ds0,p0,pp0,hargs,rfl,rfl,h0,q0⟩:=trodAll_cons hA
  obtain⟨rfl,rfl,rfl⟩:=trodAll_nil q0
  obtain rfl:args = #[v0]:=by cases args;simp_all
  obtain⟨rfl,rfl⟩:=trodVars_none hV
  obtain⟨_,_,_,rfl⟩:=okWide_slice Tryz.underlying22 (hval 0 22 v0 rfl rfl)
  obtain⟨x0,w0,r0⟩:=Reads.one (Reads.slice Tryz.underlying22 (size:=1) (by kernel_rfl) (fun _=>rfl) (Reads.i64 Tryz.underlying3)) (fun _=>rfl) rfl h0
  have hk:=k3 x0 true (drillInputs_law rfl x0)
  refine Calls.mono (CallOk.law hk (glob hL) ⟨r0,trivial⟩) fun e W' hp=>?_
  obtain⟨he,bel⟩:=hp
  subst he
  exact⟨_,rfl,_,_,_,[],_,[],hW',trodAll_mk1 (shut_bool Tryz.underlying4 _),trodAll_below laidOut bel (by kernel_rfl) hA1,rfl,bel.frame _,fun h=>by cases h⟩

def litV:DataW Unit→Value
  | .lit (.int k n)=>.int k n
  | .lit (.bool b)=>.bool b
  | _=>undef
def rowV:DataW Unit→List Value
  | .agg l=>l.map litV
  | d=>[litV d]
def tabV:DataW Unit→Array Value
  | .agg l=>(l.flatMap rowV).toArray
  | _=>#[]
def setCells (vs:Array Value):Obj→Obj
  | .cells _ t frozen=>.cells vs t frozen
  | o=>o
noncomputable def laidWorld (os:Os):World:=
  {World.holding Tryz.prog os ⟨#[],#[],[]⟩ with heap:=(((((World.holding Tryz.prog os ⟨#[],#[],[]⟩).heap.modify 3 (setCells (tabV Rows.laid_math_bits_deBruijn32tab))).modify 4 (setCells (tabV Rows.laid_math_bits_deBruijn64tab))).modify 1 (setCells (tabV Rows.laid_internal_strconv_uint64pow10))).modify 0 (setCells (tabV Rows.laid_dynpos_operation_ways)))}
theorem laid_met (os:Os):laidMet Tryz.prog Rows.drillInputsRow.laid ((laidWorld os).forCall (fun _ _=>0) ⟨#[],#[Value.slice none 0 0],[]⟩).memory:=
  laidMet_of_run' 8 (by kernel_rfl) (by kernel_rfl)
theorem reads (os:Os) {H:Type} (enc:TypeId×Value→H):∃ places,DataW.whole enc Tryz.prog ((laidWorld os).forCall (fun _ _=>0) ⟨#[],#[Value.slice none 0 0],[]⟩).memory Tryz.f3.params.toList Rows.drillInputsSpec.vars false #[Value.slice none 0 0].toList 8=some ([.nil],[],places):=
  ⟨[],by kernel_rfl⟩

set_option maxRecDepth 100000 in
theorem lifted (os:Os) (started:os.Started) (H:Type) (enc:TypeId×Value→H) (F:Stop.Interp) :
    ReturnsInHanded {} Tryz.checked os 3 .any ((OpenSpec.ofChange Rows.drillInputsSpec).preRow enc Tryz.prog Tryz.f3 Rows.drillInputsRow.domain false Rows.drillInputsRow.laid) (((OpenSpec.ofChange Rows.drillInputsSpec).at F).post enc Tryz.prog Tryz.f3 false true false false):=by
  obtain⟨places,hx⟩:=reads os enc
  refine returnsInHanded_of_row (C:=Tryz.checked) (s:=OpenSpec.ofChange Rows.drillInputsSpec) own started (by kernel_rfl) Tryz.func3
    (witness_row_at (enc:=enc) (C:=Tryz.checked) false (laidWorld os) #[Value.slice none 0 0] rfl (by kernel_rfl) (by kernel_rfl) (by kernel_rfl)
      (OpenSpec.preRow_of_cond 8 hx (by kernel_rfl) (fun k hk=>by cases hk) (by kernel_rfl) (laid_met os))) ?_
  intro W base args ds gs before hval hW _ _ _ hL _ _
  exact contract H enc W args ds gs before hval hW hL

theorem andT {a b:Bool} (h1:a=true) (h2:b=true):(a&&b)=true:=by rw [h1,h2];rfl
set_option maxRecDepth 100000 in
theorem closed:joinedFacts Tryz.prog 3 Tryz.f3 Rows.drillInputsSpec Rows.drillInputsRow=true:=by
  delta joinedFacts
  exact (andT (andT (andT (andT (andT (andT (andT (andT (andT (andT (andT (andT (andT (andT (andT (andT (andT (andT (andT (andT (andT (andT (andT (andT (andT (andT (andT (andT (andT (andT (andT j0 j1) j2) j3) j4) j5) j6) j7) j8) j9) j10) j11) j12) j13) j14) j15) j16) j17) j18) j19) j20) j21) j22) j23) j24) j25) j26) j27) j28) j29) j30) j31)
theorem inst:Tryz.f3.isInstance Tryz.prog Rows.drillInputsRow.origin Rows.drillInputsRow.targs:=dW (by kernel_rfl)
theorem wrapper:Tryz.f3.isWrapper Tryz.prog Rows.drillInputsRow.wrapper Rows.drillInputsRow.mainSum:=by unfold Func.isWrapper;first | (rw [ei (by decide +kernel)];kernel_rfl) | (rw [em (by decide +kernel)];exact⟨rfl,rfl⟩)
theorem named:Tryz.prog.funcNamed Rows.drillInputsRow.func=some 3:=by kernel_rfl

set_option maxRecDepth 100000 in
theorem said:Rows.DrillInputsSaid:=
  OpenClaim.holds_of_cond 3 Tryz.f3 rfl rfl rfl rfl rfl rfl rfl ⟨rfl,rfl,rfl,rfl,rfl⟩ rfl rfl rfl rfl rfl named Tryz.func3 closed
    inst wrapper
    (fun os started H enc _ F=>by rw [OpenClaim.pre_eq_preRow];exact lifted os started H enc F)

theorem plain (f : FuncId) (fn : Func) (hf : Tryz.pinned.checked.prog.funcNamed "dynpos/dynposlaw42.DrillInputs" = some f) (hfn : Tryz.pinned.checked.prog.funcs[f]? = some fn) :
    false=Tryz.pinned.checked.prog.looks []∧∀ (j:Nat) t,fn.params[j]? = some t→Tryz.pinned.checked.prog.wantsStandIn t=false:=by
  obtain rfl : f = 3 := aQ ((show Tryz.prog.funcNamed "dynpos/dynposlaw42.DrillInputs" = some 3 by kernel_rfl).symm.trans hf) |>.symm
  obtain rfl:fn=Tryz.f3:=(aQ (Tryz.func3.symm.trans hfn)).symm
  refine⟨lookF,fun j t ht=>?_⟩
  rw [Tryz.params3] at ht
  have hm:=Array.mem_of_getElem? ht
  simp only [List.mem_toArray,ah,aV,or_false] at hm
  subst hm
  exact (show Tryz.prog.wantsStandIn 22=false by kernel_rfl)

theorem card:Rows.DrillInputsCardSaid:=
  Claim7.holds_tied_plain_at .later [] _ _ _ _ said (fun _ h=>by cases h) c1 (fun _ h=>by cases h) drillInputs_row_tie rfl ⟨rfl,rfl⟩ c2 rfl plain c3

end Go.Proofs.YtedojeimigneaaaGreatDoor.drillInputs
namespace Go.Proofs.YtedojeimigneaaaGreatDoor
theorem drillInputs_card:Rows.DrillInputsCardSaid:=drillInputs.card
end Go.Proofs.YtedojeimigneaaaGreatDoor

