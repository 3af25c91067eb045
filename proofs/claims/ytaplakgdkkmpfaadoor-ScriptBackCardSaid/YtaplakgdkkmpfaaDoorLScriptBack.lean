/-
  The law 'dynposlaw39.ScriptBack' answers true for every input,and each argument reads behind the call as it read before. No condition.
-/
import Derived.Test.YtaplakgdkkmpfaaDoorM0
import Derived.Test.YtaplakgdkkmpfaaDoorPl0
import Derived.Test.YtaplakgdkkmpfaaDoorTb
import Derived.Test.YtaplakgdkkmpfaaDoorSlW
import Derived.Test.YtaplakgdkkmpfaaDoorRows
import Derived.Test.YtaplakgdkkmpfaaDoorCards
import Derived.Test.YtaplakgdkkmpfaaDoorTie
import Derived.Deep.DeepHandedRow
import Derived.LaidLaws
namespace Go.Proofs.YtaplakgdkkmpfaaDoor.scriptBack
open Go.ChangeShapes Go.WideShapes Go.ChangeAt Go.RowKit Go.SL
set_option linter.unusedVariables false

theorem own:ownKnob Tryd.prog.godebug=none:=by kernel_rfl
theorem laidOut:laidOutB Tryd.prog=true:=by kernel_rfl


set_option maxRecDepth 100000 in
theorem contract (H:Type) (enc:TypeId×Value→H) (W:World) (args:Array Value) (ds gs:List (DataW H)) (before:List MemPlace)
    {base:Nat} (hval:∀ (j:Nat) t v,Tryd.f3.params[j]? = some t→args[j]? = some v→Value.okWide Tryd.prog W .any base t v)
    (hW:DataW.Whole enc Tryd.prog Tryd.f3.params.toList Rows.scriptBackSpec.vars false W args.toList ds gs before) (hL:laidMetH Tryd.prog Rows.scriptBackRow.laid W) :
    Calls Tryd.prog 3 args W fun e W'=>∃ v,e = .returned v∧Rows.scriptBackSpec.post enc Tryd.prog Tryd.f3 false true false false W args v W':=by
  have hW':=hW
  obtain⟨p,q,hA0,hV,rfl,hfz,hnd⟩:=hW
  have hA:DataW.TrodAll enc Tryd.prog W 0 (fun _=>true) true Tryd.f3.params.toList args.toList ds p:=hA0
  have hA1:=hA
  rw [Tryd.params3] at hA hval hA1
  obtain⟨v0,vs0,d0,ds0,p0,pp0,hargs,rfl,rfl,h0,q0⟩:=trodAll_cons hA
  obtain⟨rfl,rfl,rfl⟩:=trodAll_nil q0
  obtain rfl:args = #[v0]:=by cases args;simp_all
  obtain⟨rfl,rfl⟩:=trodVars_none hV
  obtain⟨_,_,_,rfl⟩:=okWide_slice Tryd.underlying22 (hval 0 22 v0 rfl rfl)
  obtain⟨x0,w0,r0⟩:=Reads.one (Reads.slice Tryd.underlying22 (size:=1) (by kernel_rfl) (fun _=>rfl) (Reads.i64 Tryd.underlying3)) (fun _=>rfl) rfl h0
  have hk:=k3 x0 true (back_ok x0)
  refine Calls.mono (cx hk (glob hL) ⟨r0,trivial⟩) fun e W' hp=>?_
  obtain⟨he,bel⟩:=hp
  subst he
  exact⟨_,rfl,_,_,_,[],_,[],hW',trodAll_mk1 (shut_bool Tryd.underlying4 _),trodAll_below laidOut bel (by kernel_rfl) hA1,rfl,bel.frame _,fun h=>by cases h⟩

def litV:DataW Unit→Value
  | .lit (.int k n)=>.int k n
  | _=>undef
def rowV:DataW Unit→List Value
  | .agg l=>l.map litV
  | d=>[litV d]
def tabV:DataW Unit→Array Value
  | .agg l=>(l.flatMap rowV).toArray
  | _=>#[]
def setCells (vs:Array Value):Obj→Obj
  | .cells _ t frozen=>.cells vs t frozen
  | o=>o
noncomputable def laidWorld (os:Os):World:=
  {World.holding Tryd.prog os ⟨#[],#[],[]⟩ with heap:=((((((((((World.holding Tryd.prog os ⟨#[],#[],[]⟩).heap.modify 6 (setCells (tabV Rows.laid_math_bits_deBruijn32tab))).modify 7 (setCells (tabV Rows.laid_math_bits_deBruijn64tab))).modify 3 (setCells (tabV Rows.laid_internal_strconv_uint64pow10))).modify 5 (setCells (tabV Rows.laid_unicode_utf8_acceptRanges))).modify 2 (setCells #[.iface 151 (.pointer (some ⟨13,0,none⟩))])).modify 1 (setCells #[.iface 151 (.pointer (some ⟨14,0,none⟩))])).modify 4 (setCells (tabV Rows.laid_unicode_utf8_first))).push (Obj.cells #[.string ⟨([118,97,108,117,101,32,111,117,116,32,111,102,32,114,97,110,103,101]:List UInt8).toArray⟩] 153 (0,0))).push (Obj.cells #[.string ⟨([105,110,118,97,108,105,100,32,115,121,110,116,97,120]:List UInt8).toArray⟩] 153 (0,0)))}
theorem laid_met (os:Os):laidMet Tryd.prog Rows.scriptBackRow.laid ((laidWorld os).forCall (fun _ _=>0) ⟨#[],#[Value.slice none 0 0],[]⟩).memory:=
  laidMet_of_run' 8 (by kernel_rfl) (by kernel_rfl)
theorem reads (os:Os) {H:Type} (enc:TypeId×Value→H):∃ places,DataW.whole enc Tryd.prog ((laidWorld os).forCall (fun _ _=>0) ⟨#[],#[Value.slice none 0 0],[]⟩).memory Tryd.f3.params.toList Rows.scriptBackSpec.vars false #[Value.slice none 0 0].toList 8=some ([.nil],[],places):=
  ⟨[],by kernel_rfl⟩

set_option maxRecDepth 100000 in
theorem lifted (os:Os) (started:os.Started) (H:Type) (enc:TypeId×Value→H) (F:Stop.Interp) :
    ReturnsInHanded {} Tryd.checked os 3 .any ((OpenSpec.ofChange Rows.scriptBackSpec).preRow enc Tryd.prog Tryd.f3 Rows.scriptBackRow.domain false Rows.scriptBackRow.laid) (((OpenSpec.ofChange Rows.scriptBackSpec).at F).post enc Tryd.prog Tryd.f3 false true false false):=by
  obtain⟨places,hx⟩:=reads os enc
  refine returnsInHanded_of_row (C:=Tryd.checked) (s:=OpenSpec.ofChange Rows.scriptBackSpec) own started (by kernel_rfl) Tryd.func3
    (witness_row_at (enc:=enc) (C:=Tryd.checked) false (laidWorld os) #[Value.slice none 0 0] rfl (by kernel_rfl) (by kernel_rfl) (by kernel_rfl)
      (OpenSpec.preRow_of_cond 8 hx (by kernel_rfl) (fun k hk=>by cases hk) (by kernel_rfl) (laid_met os))) ?_
  intro W base args ds gs before hval hW _ _ _ hL _ _
  exact contract H enc W args ds gs before hval hW hL

theorem andT {a b:Bool} (h1:a=true) (h2:b=true):(a&&b)=true:=by rw [h1,h2];rfl
theorem j0:(Rows.scriptBackRow.wf (OpenSpec.ofChange Rows.scriptBackSpec))=true:=by kernel_rfl
theorem j1:(laidOutB Tryd.prog)=true:=by kernel_rfl
theorem j2:(mapsRowed Tryd.prog)=true:=by kernel_rfl
theorem j3:(Tryd.f3.params.all (Tryd.prog.readableRec ·))=true:=by kernel_rfl
theorem j4:(namedTie Tryd.prog Rows.scriptBackRow.named Rows.scriptBackSpec.vars)=true:=by kernel_rfl
theorem j5:((Rows.scriptBackRow.stops==[]))=true:=by kernel_rfl
theorem j6:((Tryd.prog.stops==[]))=true:=by kernel_rfl
theorem j7:((Rows.scriptBackRow.knobs==[]))=true:=by kernel_rfl
theorem j8:((Tryd.prog.stopKnobs==[]))=true:=by kernel_rfl
theorem j9:((Rows.scriptBackRow.inPlace==Tryd.prog.inPlace 3))=true:=by kernel_rfl
theorem j10:((Rows.scriptBackRow.unfollowed==Tryd.prog.unfollowed 3))=true:=by kernel_rfl
theorem j11:((Rows.scriptBackRow.recurses==Tryd.prog.recurses 3))=true:=by kernel_rfl
theorem j12:((Rows.scriptBackRow.named==Tryd.prog.varsNamed 3))=true:=by kernel_rfl
theorem j13:((Rows.scriptBackRow.maps==(Tryd.f3.params.toList++Rows.scriptBackSpec.plain.varTypes Tryd.prog).any (Tryd.prog.mapsRec ·)))=true:=by kernel_rfl
theorem j14:((Rows.scriptBackRow.ifaces==(Tryd.f3.params.toList++Rows.scriptBackSpec.plain.varTypes Tryd.prog).any (Tryd.prog.ifacesRec ·)))=true:=by kernel_rfl
theorem j15:((Rows.scriptBackRow.mapsOut==Tryd.prog.mapsAmong Tryd.f3.resultTypes.toList))=true:=by kernel_rfl
theorem j16:((Rows.scriptBackRow.loops==(Tryd.f3.params.toList++Rows.scriptBackSpec.plain.varTypes Tryd.prog).any (Tryd.prog.loopsFrom ·)))=true:=by kernel_rfl
theorem j17:((Rows.scriptBackRow.wideKeys==(Tryd.f3.params.toList++Rows.scriptBackSpec.plain.varTypes Tryd.prog++Tryd.f3.resultTypes.toList).any (Tryd.prog.wideKeysFrom ·)))=true:=by kernel_rfl
theorem j18:(Rows.scriptBackSpec.vars.all (Tryd.prog.varReadable ·))=true:=by kernel_rfl
theorem j19:(Tryd.f3.resultTypes.all (fun t=>Tryd.prog.readableRec t&&decide (t<Tryd.prog.types.size)))=true:=by kernel_rfl
theorem j20:((Rows.scriptBackRow.ifacesOut==Tryd.f3.resultTypes.toList.any (Tryd.prog.ifacesRec ·)))=true:=by kernel_rfl
theorem j21:((Rows.scriptBackRow.loopsOut==Tryd.f3.resultTypes.toList.any (Tryd.prog.loopsFrom ·)))=true:=by kernel_rfl
theorem j22:((Rows.scriptBackRow.plainKeys==Tryd.prog.plainKeys))=true:=by kernel_rfl
theorem j23:(Rows.scriptBackRow.shortTexts.isNone)=true:=by kernel_rfl
theorem j24:(Tryd.prog.stopsHeard)=true:=by kernel_rfl
theorem j25:(Tryd.prog.mayEnter)=true:=by kernel_rfl
theorem j26:((Rows.scriptBackRow.lifted==Tryd.prog.liftsFinal))=true:=by kernel_rfl
theorem j27:((Tryd.prog.make==some Rows.scriptBackRow.make))=true:=by kernel_rfl
theorem j28:((Rows.scriptBackRow.kinds==(if Rows.scriptBackRow.domain.isEmpty then [] else Tryd.f3.params.toList.map fun t=>match Tryd.prog.underlying t with | some (.int k)=>some k | _=>none)))=true:=by kernel_rfl
theorem j29:((Rows.scriptBackRow.pinned==Rows.scriptBackRow.pinnedBy))=true:=by kernel_rfl
theorem j30:((Rows.scriptBackRow.veiled==(Tryd.f3.params.toList++Rows.scriptBackSpec.plain.varTypes Tryd.prog++Tryd.f3.resultTypes.toList).any (Tryd.prog.veiledRec ·)))=true:=by kernel_rfl
theorem j31:(Rows.scriptBackRow.veiledFits Tryd.prog Tryd.f3.params.toList (Tryd.f3.params.toList++Rows.scriptBackSpec.plain.varTypes Tryd.prog++Tryd.f3.resultTypes.toList))=true:=by kernel_rfl
set_option maxRecDepth 100000 in
theorem closed:joinedFacts Tryd.prog 3 Tryd.f3 Rows.scriptBackSpec Rows.scriptBackRow=true:=by
  delta joinedFacts
  exact (andT (andT (andT (andT (andT (andT (andT (andT (andT (andT (andT (andT (andT (andT (andT (andT (andT (andT (andT (andT (andT (andT (andT (andT (andT (andT (andT (andT (andT (andT (andT j0 j1) j2) j3) j4) j5) j6) j7) j8) j9) j10) j11) j12) j13) j14) j15) j16) j17) j18) j19) j20) j21) j22) j23) j24) j25) j26) j27) j28) j29) j30) j31)
theorem inst:Tryd.f3.isInstance Tryd.prog Rows.scriptBackRow.origin Rows.scriptBackRow.targs:=of_decide_eq_true (by kernel_rfl)
theorem wrapper:Tryd.f3.isWrapper Tryd.prog Rows.scriptBackRow.wrapper Rows.scriptBackRow.mainSum:=by unfold Func.isWrapper;first | (rw [if_pos (by decide +kernel)];kernel_rfl) | (rw [if_neg (by decide +kernel)];exact⟨rfl,rfl⟩)
theorem named:Tryd.prog.funcNamed Rows.scriptBackRow.func=some 3:=by kernel_rfl

set_option maxRecDepth 100000 in
theorem said:Rows.ScriptBackSaid:=
  OpenClaim.holds_of_cond 3 Tryd.f3 rfl rfl rfl rfl rfl rfl rfl ⟨rfl,rfl,rfl,rfl,rfl⟩ rfl rfl rfl rfl rfl named Tryd.func3 closed
    inst wrapper
    (fun os started H enc _ F=>by rw [OpenClaim.pre_eq_preRow];exact lifted os started H enc F)

theorem plain (f : FuncId) (fn : Func) (hf : Tryd.pinned.checked.prog.funcNamed "dynpos/dynposlaw39.ScriptBack" = some f) (hfn : Tryd.pinned.checked.prog.funcs[f]? = some fn) :
    true=Tryd.pinned.checked.prog.looks []∧∀ (j:Nat) t,fn.params[j]? = some t→Tryd.pinned.checked.prog.wantsStandIn t=false:=by
  obtain rfl : f = 3 := aN ((show Tryd.prog.funcNamed "dynpos/dynposlaw39.ScriptBack" = some 3 by kernel_rfl).symm.trans hf) |>.symm
  obtain rfl:fn=Tryd.f3:=(aN (Tryd.func3.symm.trans hfn)).symm
  refine⟨by kernel_rfl,fun j t ht=>?_⟩
  rw [Tryd.params3] at ht
  have hm:=Array.mem_of_getElem? ht
  simp only [List.mem_toArray,af,List.not_mem_nil,or_false] at hm
  subst hm
  exact (show Tryd.prog.wantsStandIn 22=false by kernel_rfl)

theorem card:Rows.ScriptBackCardSaid:=
  Claim7.holds_tied_plain_at .later [] _ _ _ _ said (fun _ h=>by cases h) (by kernel_rfl) (fun _ h=>by cases h) scriptBack_row_tie rfl ⟨rfl,rfl⟩ (by kernel_rfl) rfl plain (by kernel_rfl)

end Go.Proofs.YtaplakgdkkmpfaaDoor.scriptBack
namespace Go.Proofs.YtaplakgdkkmpfaaDoor
theorem scriptBack_card:Rows.ScriptBackCardSaid:=scriptBack.card
end Go.Proofs.YtaplakgdkkmpfaaDoor

