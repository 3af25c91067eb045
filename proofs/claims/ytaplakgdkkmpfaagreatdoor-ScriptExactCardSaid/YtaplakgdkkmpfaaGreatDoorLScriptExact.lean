/-
  The law 'dynposlaw39.ScriptExact' answers true for every input,and each argument reads behind the call as it read before. No condition.
-/
import Derived.Test.YtaplakgdkkmpfaaGreatDoorM1
import Derived.Test.YtaplakgdkkmpfaaGreatDoorPl0
import Derived.Test.YtaplakgdkkmpfaaGreatDoorTb
import Derived.Test.YtaplakgdkkmpfaaGreatDoorSlW
import Derived.Test.YtaplakgdkkmpfaaGreatDoorRows
import Derived.Test.YtaplakgdkkmpfaaGreatDoorCards
import Derived.Test.YtaplakgdkkmpfaaGreatDoorTie
import Derived.Deep.DeepHandedRow
import Derived.LaidLaws
namespace Go.Proofs.YtaplakgdkkmpfaaGreatDoor.scriptExact
open Go.ChangeShapes Go.WideShapes Go.ChangeAt Go.RowKit Go.SL
set_option linter.unusedVariables false

theorem own:ownKnob Tryz.prog.godebug=none:=by kernel_rfl
theorem laidOut:laidOutB Tryz.prog=true:=by kernel_rfl
def api_Command.ok (x:api_Command):Prop:=((Lit.int .i64 x.Kind).wf=true)∧((∀ a,a∈x.Numbers→(Lit.int .i64 a).wf=true)∧x.Numbers.length≤maxLen)
theorem rd26 (W:World):Reads Tryz.prog W 26 q26 api_Command.ok:=
  (Reads.struct Tryz.underlying26 (by kernel_rfl) (ReadsF.cons (size:=1) rfl (by kernel_rfl) (Reads.i64 Tryz.underlying3) (ReadsF.cons (size:=1) rfl (by kernel_rfl) (Reads.slice Tryz.underlying22 (size:=1) (by kernel_rfl) (fun _=>rfl) (Reads.i64 Tryz.underlying3)) ReadsF.nil))).map q26 api_Command.ok (fun x=>⟨x.1,x.2.1⟩) (fun _=>rfl) (fun _ h=>⟨h.1,h.2.1⟩)

set_option maxRecDepth 100000 in
theorem contract (H:Type) (enc:TypeId×Value→H) (W:World) (args:Array Value) (ds gs:List (DataW H)) (before:List MemPlace)
    {base:Nat} (hval:∀ (j:Nat) t v,Tryz.f3.params[j]? = some t→args[j]? = some v→Value.okWide Tryz.prog W .any base t v)
    (hW:DataW.Whole enc Tryz.prog Tryz.f3.params.toList Rows.scriptExactSpec.vars false W args.toList ds gs before) (hL:laidMetH Tryz.prog Rows.scriptExactRow.laid W) :
    Calls Tryz.prog 3 args W fun e W'=>∃ v,e = .returned v∧Rows.scriptExactSpec.post enc Tryz.prog Tryz.f3 false true false false W args v W':=by
  have hW':=hW
  obtain⟨p,q,hA0,hV,rfl,hfz,hnd⟩:=hW
  have hA:DataW.TrodAll enc Tryz.prog W 0 (fun _=>true) true Tryz.f3.params.toList args.toList ds p:=hA0
  have hA1:=hA
  rw [Tryz.params3] at hA hval hA1
  obtain⟨v0,vs0,d0,ds0,p0,pp0,hargs,rfl,rfl,h0,q0⟩:=trodAll_cons hA
  obtain⟨v1,vs1,d1,ds1,p1,pp1,rfl,rfl,rfl,h1,q1⟩:=trodAll_cons q0
  obtain⟨v2,vs2,d2,ds2,p2,pp2,rfl,rfl,rfl,h2,q2⟩:=trodAll_cons q1
  obtain⟨rfl,rfl,rfl⟩:=trodAll_nil q2
  obtain rfl:args = #[v0,v1,v2]:=by cases args;simp_all
  obtain⟨rfl,rfl⟩:=trodVars_none hV
  obtain⟨_,_,_,rfl⟩:=okWide_slice Tryz.underlying22 (hval 0 22 v0 rfl rfl)
  obtain⟨x0,w0,r0⟩:=Reads.one (Reads.slice Tryz.underlying22 (size:=1) (by kernel_rfl) (fun _=>rfl) (Reads.i64 Tryz.underlying3)) (fun _=>rfl) rfl h0
  obtain⟨_,_,_,rfl⟩:=okWide_slice Tryz.underlying23 (hval 1 23 v1 rfl rfl)
  obtain⟨x1,w1,r1⟩:=Reads.one (Reads.slice Tryz.underlying23 (size:=2) (by kernel_rfl) (fun _=>rfl) (rd26 W)) (fun _=>rfl) rfl h1
  obtain⟨_,rfl⟩:=okWide_int Tryz.underlying3 (hval 2 3 v2 rfl rfl)
  obtain⟨x2,w2,r2⟩:=Reads.one (Reads.i64 Tryz.underlying3) (fun _=>rfl) rfl h2
  have hk:=k3 x0 x1 x2 true (exact_ok x0 x1 x2)
  refine Calls.mono (cJ hk (glob hL) ⟨r0,r1,r2,trivial⟩) fun e W' hp=>?_
  obtain⟨he,bel⟩:=hp
  subst he
  exact⟨_,rfl,_,_,_,[],_,[],hW',trodAll_mk1 (shut_bool Tryz.underlying4 _),trodAll_below laidOut bel (by kernel_rfl) hA1,rfl,bel.frame _,fun h=>by cases h⟩

def litV:DataW Unit→Value
  | .lit (.int k n)=>.int k n
  | _=>undef
def rowV:DataW Unit→List Value
  | .agg l=>l.map litV
  | d=>[litV d]
def tabV:DataW Unit→Array Value
  | .agg l=>(l.flatMap rowV).toArray
  | _=>#[]
def setCells (vs:Array Value):Obj→Obj
  | .cells _ t frozen=>.cells vs t frozen
  | o=>o
noncomputable def laidWorld (os:Os):World:=
  {World.holding Tryz.prog os ⟨#[],#[],[]⟩ with heap:=((((((((((World.holding Tryz.prog os ⟨#[],#[],[]⟩).heap.modify 6 (setCells (tabV Rows.laid_math_bits_deBruijn32tab))).modify 7 (setCells (tabV Rows.laid_math_bits_deBruijn64tab))).modify 3 (setCells (tabV Rows.laid_internal_strconv_uint64pow10))).modify 5 (setCells (tabV Rows.laid_unicode_utf8_acceptRanges))).modify 2 (setCells #[.iface 162 (.pointer (some ⟨13,0,none⟩))])).modify 1 (setCells #[.iface 162 (.pointer (some ⟨14,0,none⟩))])).modify 4 (setCells (tabV Rows.laid_unicode_utf8_first))).push (Obj.cells #[.string ⟨([118,97,108,117,101,32,111,117,116,32,111,102,32,114,97,110,103,101]:List UInt8).toArray⟩] 164 (0,0))).push (Obj.cells #[.string ⟨([105,110,118,97,108,105,100,32,115,121,110,116,97,120]:List UInt8).toArray⟩] 164 (0,0)))}
theorem laid_met (os:Os):laidMet Tryz.prog Rows.scriptExactRow.laid ((laidWorld os).forCall (fun _ _=>0) ⟨#[],#[Value.slice none 0 0,Value.slice none 0 0,Value.int .i64 0],[]⟩).memory:=
  laidMet_of_run' 8 (by kernel_rfl) (by kernel_rfl)
theorem reads (os:Os) {H:Type} (enc:TypeId×Value→H):∃ places,DataW.whole enc Tryz.prog ((laidWorld os).forCall (fun _ _=>0) ⟨#[],#[Value.slice none 0 0,Value.slice none 0 0,Value.int .i64 0],[]⟩).memory Tryz.f3.params.toList Rows.scriptExactSpec.vars false #[Value.slice none 0 0,Value.slice none 0 0,Value.int .i64 0].toList 8=some ([.nil,.nil,.lit (.int .i64 0)],[],places):=
  ⟨[],by kernel_rfl⟩

set_option maxRecDepth 100000 in
theorem lifted (os:Os) (started:os.Started) (H:Type) (enc:TypeId×Value→H) (F:Stop.Interp) :
    ReturnsInHanded {} Tryz.checked os 3 .any ((OpenSpec.ofChange Rows.scriptExactSpec).preRow enc Tryz.prog Tryz.f3 Rows.scriptExactRow.domain false Rows.scriptExactRow.laid) (((OpenSpec.ofChange Rows.scriptExactSpec).at F).post enc Tryz.prog Tryz.f3 false true false false):=by
  obtain⟨places,hx⟩:=reads os enc
  refine returnsInHanded_of_row (C:=Tryz.checked) (s:=OpenSpec.ofChange Rows.scriptExactSpec) own started (by kernel_rfl) Tryz.func3
    (witness_row_at (enc:=enc) (C:=Tryz.checked) false (laidWorld os) #[Value.slice none 0 0,Value.slice none 0 0,Value.int .i64 0] rfl (by kernel_rfl) (by kernel_rfl) (by kernel_rfl)
      (OpenSpec.preRow_of_cond 8 hx (by kernel_rfl) (fun k hk=>by cases hk) (by kernel_rfl) (laid_met os))) ?_
  intro W base args ds gs before hval hW _ _ _ hL _ _
  exact contract H enc W args ds gs before hval hW hL

theorem andT {a b:Bool} (h1:a=true) (h2:b=true):(a&&b)=true:=by rw [h1,h2];rfl
theorem j0:(Rows.scriptExactRow.wf (OpenSpec.ofChange Rows.scriptExactSpec))=true:=by kernel_rfl
theorem j1:(laidOutB Tryz.prog)=true:=by kernel_rfl
theorem j2:(mapsRowed Tryz.prog)=true:=by kernel_rfl
theorem j3:(Tryz.f3.params.all (Tryz.prog.readableRec ·))=true:=by kernel_rfl
theorem j4:(namedTie Tryz.prog Rows.scriptExactRow.named Rows.scriptExactSpec.vars)=true:=by kernel_rfl
theorem j5:((Rows.scriptExactRow.stops==[]))=true:=by kernel_rfl
theorem j6:((Tryz.prog.stops==[]))=true:=by kernel_rfl
theorem j7:((Rows.scriptExactRow.knobs==[]))=true:=by kernel_rfl
theorem j8:((Tryz.prog.stopKnobs==[]))=true:=by kernel_rfl
theorem j9:((Rows.scriptExactRow.inPlace==Tryz.prog.inPlace 3))=true:=by kernel_rfl
theorem j10:((Rows.scriptExactRow.unfollowed==Tryz.prog.unfollowed 3))=true:=by kernel_rfl
theorem j11:((Rows.scriptExactRow.recurses==Tryz.prog.recurses 3))=true:=by kernel_rfl
theorem j12:((Rows.scriptExactRow.named==Tryz.prog.varsNamed 3))=true:=by kernel_rfl
theorem j13:((Rows.scriptExactRow.maps==(Tryz.f3.params.toList++Rows.scriptExactSpec.plain.varTypes Tryz.prog).any (Tryz.prog.mapsRec ·)))=true:=by kernel_rfl
theorem j14:((Rows.scriptExactRow.ifaces==(Tryz.f3.params.toList++Rows.scriptExactSpec.plain.varTypes Tryz.prog).any (Tryz.prog.ifacesRec ·)))=true:=by kernel_rfl
theorem j15:((Rows.scriptExactRow.mapsOut==Tryz.prog.mapsAmong Tryz.f3.resultTypes.toList))=true:=by kernel_rfl
theorem j16:((Rows.scriptExactRow.loops==(Tryz.f3.params.toList++Rows.scriptExactSpec.plain.varTypes Tryz.prog).any (Tryz.prog.loopsFrom ·)))=true:=by kernel_rfl
theorem j17:((Rows.scriptExactRow.wideKeys==(Tryz.f3.params.toList++Rows.scriptExactSpec.plain.varTypes Tryz.prog++Tryz.f3.resultTypes.toList).any (Tryz.prog.wideKeysFrom ·)))=true:=by kernel_rfl
theorem j18:(Rows.scriptExactSpec.vars.all (Tryz.prog.varReadable ·))=true:=by kernel_rfl
theorem j19:(Tryz.f3.resultTypes.all (fun t=>Tryz.prog.readableRec t&&decide (t<Tryz.prog.types.size)))=true:=by kernel_rfl
theorem j20:((Rows.scriptExactRow.ifacesOut==Tryz.f3.resultTypes.toList.any (Tryz.prog.ifacesRec ·)))=true:=by kernel_rfl
theorem j21:((Rows.scriptExactRow.loopsOut==Tryz.f3.resultTypes.toList.any (Tryz.prog.loopsFrom ·)))=true:=by kernel_rfl
theorem j22:((Rows.scriptExactRow.plainKeys==Tryz.prog.plainKeys))=true:=by kernel_rfl
theorem j23:(Rows.scriptExactRow.shortTexts.isNone)=true:=by kernel_rfl
theorem j24:(Tryz.prog.stopsHeard)=true:=by kernel_rfl
theorem j25:(Tryz.prog.mayEnter)=true:=by kernel_rfl
theorem j26:((Rows.scriptExactRow.lifted==Tryz.prog.liftsFinal))=true:=by kernel_rfl
theorem j27:((Tryz.prog.make==some Rows.scriptExactRow.make))=true:=by kernel_rfl
theorem j28:((Rows.scriptExactRow.kinds==(if Rows.scriptExactRow.domain.isEmpty then [] else Tryz.f3.params.toList.map fun t=>match Tryz.prog.underlying t with | some (.int k)=>some k | _=>none)))=true:=by kernel_rfl
theorem j29:((Rows.scriptExactRow.pinned==Rows.scriptExactRow.pinnedBy))=true:=by kernel_rfl
theorem j30:((Rows.scriptExactRow.veiled==(Tryz.f3.params.toList++Rows.scriptExactSpec.plain.varTypes Tryz.prog++Tryz.f3.resultTypes.toList).any (Tryz.prog.veiledRec ·)))=true:=by kernel_rfl
theorem j31:(Rows.scriptExactRow.veiledFits Tryz.prog Tryz.f3.params.toList (Tryz.f3.params.toList++Rows.scriptExactSpec.plain.varTypes Tryz.prog++Tryz.f3.resultTypes.toList))=true:=by kernel_rfl
set_option maxRecDepth 100000 in
theorem closed:joinedFacts Tryz.prog 3 Tryz.f3 Rows.scriptExactSpec Rows.scriptExactRow=true:=by
  delta joinedFacts
  exact (andT (andT (andT (andT (andT (andT (andT (andT (andT (andT (andT (andT (andT (andT (andT (andT (andT (andT (andT (andT (andT (andT (andT (andT (andT (andT (andT (andT (andT (andT (andT j0 j1) j2) j3) j4) j5) j6) j7) j8) j9) j10) j11) j12) j13) j14) j15) j16) j17) j18) j19) j20) j21) j22) j23) j24) j25) j26) j27) j28) j29) j30) j31)
theorem inst:Tryz.f3.isInstance Tryz.prog Rows.scriptExactRow.origin Rows.scriptExactRow.targs:=cT (by kernel_rfl)
theorem wrapper:Tryz.f3.isWrapper Tryz.prog Rows.scriptExactRow.wrapper Rows.scriptExactRow.mainSum:=by unfold Func.isWrapper;first | (rw [if_pos (by decide +kernel)];kernel_rfl) | (rw [if_neg (by decide +kernel)];exact⟨rfl,rfl⟩)
theorem named:Tryz.prog.funcNamed Rows.scriptExactRow.func=some 3:=by kernel_rfl

set_option maxRecDepth 100000 in
theorem said:Rows.ScriptExactSaid:=
  OpenClaim.holds_of_cond 3 Tryz.f3 rfl rfl rfl rfl rfl rfl rfl ⟨rfl,rfl,rfl,rfl,rfl⟩ rfl rfl rfl rfl rfl named Tryz.func3 closed
    inst wrapper
    (fun os started H enc _ F=>by rw [OpenClaim.pre_eq_preRow];exact lifted os started H enc F)

theorem plain (f : FuncId) (fn : Func) (hf : Tryz.pinned.checked.prog.funcNamed "dynpos/dynposlaw39.ScriptExact" = some f) (hfn : Tryz.pinned.checked.prog.funcs[f]? = some fn) :
    true=Tryz.pinned.checked.prog.looks []∧∀ (j:Nat) t,fn.params[j]? = some t→Tryz.pinned.checked.prog.wantsStandIn t=false:=by
  obtain rfl : f = 3 := aN ((show Tryz.prog.funcNamed "dynpos/dynposlaw39.ScriptExact" = some 3 by kernel_rfl).symm.trans hf) |>.symm
  obtain rfl:fn=Tryz.f3:=(aN (Tryz.func3.symm.trans hfn)).symm
  refine⟨by kernel_rfl,fun j t ht=>?_⟩
  rw [Tryz.params3] at ht
  have hm:=Array.mem_of_getElem? ht
  simp only [List.mem_toArray,ag,List.not_mem_nil,or_false] at hm
  rcases hm with rfl | rfl | rfl
  · exact (show Tryz.prog.wantsStandIn 22=false by kernel_rfl)
  · exact (show Tryz.prog.wantsStandIn 23=false by kernel_rfl)
  · exact (show Tryz.prog.wantsStandIn 3=false by kernel_rfl)

theorem card:Rows.ScriptExactCardSaid:=
  Claim7.holds_tied_plain_at .later [] _ _ _ _ said (fun _ h=>by cases h) (by kernel_rfl) (fun _ h=>by cases h) scriptExact_row_tie rfl ⟨rfl,rfl⟩ (by kernel_rfl) rfl plain (by kernel_rfl)

end Go.Proofs.YtaplakgdkkmpfaaGreatDoor.scriptExact
namespace Go.Proofs.YtaplakgdkkmpfaaGreatDoor
theorem scriptExact_card:Rows.ScriptExactCardSaid:=scriptExact.card
end Go.Proofs.YtaplakgdkkmpfaaGreatDoor

