/-
  The law 'dynposlaw39.ScriptParses' answers true for every input,and each argument reads behind the call as it read before. No condition.
-/
import Derived.Test.YtaplakgdkkmpfaaGreatDoorM0
import Derived.Test.YtaplakgdkkmpfaaGreatDoorPl0
import Derived.Test.YtaplakgdkkmpfaaGreatDoorTb
import Derived.Test.YtaplakgdkkmpfaaGreatDoorSlW
import Derived.Test.YtaplakgdkkmpfaaGreatDoorRows
import Derived.Test.YtaplakgdkkmpfaaGreatDoorCards
import Derived.Test.YtaplakgdkkmpfaaGreatDoorTie
import Derived.Deep.DeepHandedRow
import Derived.LaidLaws
namespace Go.Proofs.YtaplakgdkkmpfaaGreatDoor.scriptParses
open Go.ChangeShapes Go.WideShapes Go.ChangeAt Go.RowKit Go.SL
set_option linter.unusedVariables false

theorem own:ownKnob Tryz.prog.godebug=none:=by kernel_rfl
theorem laidOut:laidOutB Tryz.prog=true:=by kernel_rfl


set_option maxRecDepth 100000 in
theorem contract (H:Type) (enc:TypeId×Value→H) (W:World) (args:Array Value) (ds gs:List (DataW H)) (before:List MemPlace)
    {base:Nat} (hval:∀ (j:Nat) t v,Tryz.f4.params[j]? = some t→args[j]? = some v→Value.okWide Tryz.prog W .any base t v)
    (hW:DataW.Whole enc Tryz.prog Tryz.f4.params.toList Rows.scriptParsesSpec.vars false W args.toList ds gs before) (hL:laidMetH Tryz.prog Rows.scriptParsesRow.laid W) :
    Calls Tryz.prog 4 args W fun e W'=>∃ v,e = .returned v∧Rows.scriptParsesSpec.post enc Tryz.prog Tryz.f4 false true false false W args v W':=by
  have hW':=hW
  obtain⟨p,q,hA0,hV,rfl,hfz,hnd⟩:=hW
  have hA:DataW.TrodAll enc Tryz.prog W 0 (fun _=>true) true Tryz.f4.params.toList args.toList ds p:=hA0
  have hA1:=hA
  rw [Tryz.params4] at hA hval hA1
  obtain⟨v0,vs0,d0,ds0,p0,pp0,hargs,rfl,rfl,h0,q0⟩:=trodAll_cons hA
  obtain⟨v1,vs1,d1,ds1,p1,pp1,rfl,rfl,rfl,h1,q1⟩:=trodAll_cons q0
  obtain⟨v2,vs2,d2,ds2,p2,pp2,rfl,rfl,rfl,h2,q2⟩:=trodAll_cons q1
  obtain⟨v3,vs3,d3,ds3,p3,pp3,rfl,rfl,rfl,h3,q3⟩:=trodAll_cons q2
  obtain⟨v4,vs4,d4,ds4,p4,pp4,rfl,rfl,rfl,h4,q4⟩:=trodAll_cons q3
  obtain⟨rfl,rfl,rfl⟩:=trodAll_nil q4
  obtain rfl:args = #[v0,v1,v2,v3,v4]:=by cases args;simp_all
  obtain⟨rfl,rfl⟩:=trodVars_none hV
  obtain⟨_,_,_,rfl⟩:=okWide_slice Tryz.underlying22 (hval 0 22 v0 rfl rfl)
  obtain⟨x0,w0,r0⟩:=Reads.one (Reads.slice Tryz.underlying22 (size:=1) (by kernel_rfl) (fun _=>rfl) (Reads.i64 Tryz.underlying3)) (fun _=>rfl) rfl h0
  obtain⟨_,rfl⟩:=okWide_string Tryz.underlying9 (hval 1 9 v1 rfl rfl)
  obtain⟨x1,w1,r1⟩:=Reads.one (Reads.string Tryz.underlying9) (fun _=>rfl) rfl h1
  obtain⟨_,rfl⟩:=okWide_int Tryz.underlying3 (hval 2 3 v2 rfl rfl)
  obtain⟨x2,w2,r2⟩:=Reads.one (Reads.i64 Tryz.underlying3) (fun _=>rfl) rfl h2
  obtain⟨_,rfl⟩:=okWide_int Tryz.underlying5 (hval 3 5 v3 rfl rfl)
  obtain⟨x3,w3,r3⟩:=Reads.one (Reads.int Tryz.underlying5) (fun _=>rfl) rfl h3
  obtain⟨_,rfl⟩:=okWide_int Tryz.underlying5 (hval 4 5 v4 rfl rfl)
  obtain⟨x4,w4,r4⟩:=Reads.one (Reads.int Tryz.underlying5) (fun _=>rfl) rfl h4
  have hk:=k4 x0 x1 x2 x3 x4 true (parses_ok x0 x1 x2 x3 x4 (u8_of x3 w3) (u8_of x4 w4))
  refine Calls.mono (cM hk (glob hL) ⟨r0,r1,r2,r3,r4,trivial⟩) fun e W' hp=>?_
  obtain⟨he,bel⟩:=hp
  subst he
  exact⟨_,rfl,_,_,_,[],_,[],hW',trodAll_mk1 (shut_bool Tryz.underlying4 _),trodAll_below laidOut bel (by kernel_rfl) hA1,rfl,bel.frame _,fun h=>by cases h⟩

def litV:DataW Unit→Value
  | .lit (.int k n)=>.int k n
  | _=>undef
def rowV:DataW Unit→List Value
  | .agg l=>l.map litV
  | d=>[litV d]
def tabV:DataW Unit→Array Value
  | .agg l=>(l.flatMap rowV).toArray
  | _=>#[]
def setCells (vs:Array Value):Obj→Obj
  | .cells _ t frozen=>.cells vs t frozen
  | o=>o
noncomputable def laidWorld (os:Os):World:=
  {World.holding Tryz.prog os ⟨#[],#[],[]⟩ with heap:=((((((((((World.holding Tryz.prog os ⟨#[],#[],[]⟩).heap.modify 6 (setCells (tabV Rows.laid_math_bits_deBruijn32tab))).modify 7 (setCells (tabV Rows.laid_math_bits_deBruijn64tab))).modify 3 (setCells (tabV Rows.laid_internal_strconv_uint64pow10))).modify 5 (setCells (tabV Rows.laid_unicode_utf8_acceptRanges))).modify 2 (setCells #[.iface 162 (.pointer (some ⟨13,0,none⟩))])).modify 1 (setCells #[.iface 162 (.pointer (some ⟨14,0,none⟩))])).modify 4 (setCells (tabV Rows.laid_unicode_utf8_first))).push (Obj.cells #[.string ⟨([118,97,108,117,101,32,111,117,116,32,111,102,32,114,97,110,103,101]:List UInt8).toArray⟩] 164 (0,0))).push (Obj.cells #[.string ⟨([105,110,118,97,108,105,100,32,115,121,110,116,97,120]:List UInt8).toArray⟩] 164 (0,0)))}
theorem laid_met (os:Os):laidMet Tryz.prog Rows.scriptParsesRow.laid ((laidWorld os).forCall (fun _ _=>0) ⟨#[],#[Value.slice none 0 0,Value.string ByteArray.empty,Value.int .i64 0,Value.int .u8 0,Value.int .u8 0],[]⟩).memory:=
  laidMet_of_run' 8 (by kernel_rfl) (by kernel_rfl)
theorem reads (os:Os) {H:Type} (enc:TypeId×Value→H):∃ places,DataW.whole enc Tryz.prog ((laidWorld os).forCall (fun _ _=>0) ⟨#[],#[Value.slice none 0 0,Value.string ByteArray.empty,Value.int .i64 0,Value.int .u8 0,Value.int .u8 0],[]⟩).memory Tryz.f4.params.toList Rows.scriptParsesSpec.vars false #[Value.slice none 0 0,Value.string ByteArray.empty,Value.int .i64 0,Value.int .u8 0,Value.int .u8 0].toList 8=some ([.nil,.lit (.string []),.lit (.int .i64 0),.lit (.int .u8 0),.lit (.int .u8 0)],[],places):=
  ⟨[],by kernel_rfl⟩

set_option maxRecDepth 100000 in
theorem lifted (os:Os) (started:os.Started) (H:Type) (enc:TypeId×Value→H) (F:Stop.Interp) :
    ReturnsInHanded {} Tryz.checked os 4 .any ((OpenSpec.ofChange Rows.scriptParsesSpec).preRow enc Tryz.prog Tryz.f4 Rows.scriptParsesRow.domain false Rows.scriptParsesRow.laid) (((OpenSpec.ofChange Rows.scriptParsesSpec).at F).post enc Tryz.prog Tryz.f4 false true false false):=by
  obtain⟨places,hx⟩:=reads os enc
  refine returnsInHanded_of_row (C:=Tryz.checked) (s:=OpenSpec.ofChange Rows.scriptParsesSpec) own started (by kernel_rfl) Tryz.func4
    (witness_row_at (enc:=enc) (C:=Tryz.checked) false (laidWorld os) #[Value.slice none 0 0,Value.string ByteArray.empty,Value.int .i64 0,Value.int .u8 0,Value.int .u8 0] rfl (by kernel_rfl) (by kernel_rfl) (by kernel_rfl)
      (OpenSpec.preRow_of_cond 8 hx (by kernel_rfl) (fun k hk=>by cases hk) (by kernel_rfl) (laid_met os))) ?_
  intro W base args ds gs before hval hW _ _ _ hL _ _
  exact contract H enc W args ds gs before hval hW hL

theorem andT {a b:Bool} (h1:a=true) (h2:b=true):(a&&b)=true:=by rw [h1,h2];rfl
theorem j0:(Rows.scriptParsesRow.wf (OpenSpec.ofChange Rows.scriptParsesSpec))=true:=by kernel_rfl
theorem j1:(laidOutB Tryz.prog)=true:=by kernel_rfl
theorem j2:(mapsRowed Tryz.prog)=true:=by kernel_rfl
theorem j3:(Tryz.f4.params.all (Tryz.prog.readableRec ·))=true:=by kernel_rfl
theorem j4:(namedTie Tryz.prog Rows.scriptParsesRow.named Rows.scriptParsesSpec.vars)=true:=by kernel_rfl
theorem j5:((Rows.scriptParsesRow.stops==[]))=true:=by kernel_rfl
theorem j6:((Tryz.prog.stops==[]))=true:=by kernel_rfl
theorem j7:((Rows.scriptParsesRow.knobs==[]))=true:=by kernel_rfl
theorem j8:((Tryz.prog.stopKnobs==[]))=true:=by kernel_rfl
theorem j9:((Rows.scriptParsesRow.inPlace==Tryz.prog.inPlace 4))=true:=by kernel_rfl
theorem j10:((Rows.scriptParsesRow.unfollowed==Tryz.prog.unfollowed 4))=true:=by kernel_rfl
theorem j11:((Rows.scriptParsesRow.recurses==Tryz.prog.recurses 4))=true:=by kernel_rfl
theorem j12:((Rows.scriptParsesRow.named==Tryz.prog.varsNamed 4))=true:=by kernel_rfl
theorem j13:((Rows.scriptParsesRow.maps==(Tryz.f4.params.toList++Rows.scriptParsesSpec.plain.varTypes Tryz.prog).any (Tryz.prog.mapsRec ·)))=true:=by kernel_rfl
theorem j14:((Rows.scriptParsesRow.ifaces==(Tryz.f4.params.toList++Rows.scriptParsesSpec.plain.varTypes Tryz.prog).any (Tryz.prog.ifacesRec ·)))=true:=by kernel_rfl
theorem j15:((Rows.scriptParsesRow.mapsOut==Tryz.prog.mapsAmong Tryz.f4.resultTypes.toList))=true:=by kernel_rfl
theorem j16:((Rows.scriptParsesRow.loops==(Tryz.f4.params.toList++Rows.scriptParsesSpec.plain.varTypes Tryz.prog).any (Tryz.prog.loopsFrom ·)))=true:=by kernel_rfl
theorem j17:((Rows.scriptParsesRow.wideKeys==(Tryz.f4.params.toList++Rows.scriptParsesSpec.plain.varTypes Tryz.prog++Tryz.f4.resultTypes.toList).any (Tryz.prog.wideKeysFrom ·)))=true:=by kernel_rfl
theorem j18:(Rows.scriptParsesSpec.vars.all (Tryz.prog.varReadable ·))=true:=by kernel_rfl
theorem j19:(Tryz.f4.resultTypes.all (fun t=>Tryz.prog.readableRec t&&decide (t<Tryz.prog.types.size)))=true:=by kernel_rfl
theorem j20:((Rows.scriptParsesRow.ifacesOut==Tryz.f4.resultTypes.toList.any (Tryz.prog.ifacesRec ·)))=true:=by kernel_rfl
theorem j21:((Rows.scriptParsesRow.loopsOut==Tryz.f4.resultTypes.toList.any (Tryz.prog.loopsFrom ·)))=true:=by kernel_rfl
theorem j22:((Rows.scriptParsesRow.plainKeys==Tryz.prog.plainKeys))=true:=by kernel_rfl
theorem j23:(Rows.scriptParsesRow.shortTexts.isNone)=true:=by kernel_rfl
theorem j24:(Tryz.prog.stopsHeard)=true:=by kernel_rfl
theorem j25:(Tryz.prog.mayEnter)=true:=by kernel_rfl
theorem j26:((Rows.scriptParsesRow.lifted==Tryz.prog.liftsFinal))=true:=by kernel_rfl
theorem j27:((Tryz.prog.make==some Rows.scriptParsesRow.make))=true:=by kernel_rfl
theorem j28:((Rows.scriptParsesRow.kinds==(if Rows.scriptParsesRow.domain.isEmpty then [] else Tryz.f4.params.toList.map fun t=>match Tryz.prog.underlying t with | some (.int k)=>some k | _=>none)))=true:=by kernel_rfl
theorem j29:((Rows.scriptParsesRow.pinned==Rows.scriptParsesRow.pinnedBy))=true:=by kernel_rfl
theorem j30:((Rows.scriptParsesRow.veiled==(Tryz.f4.params.toList++Rows.scriptParsesSpec.plain.varTypes Tryz.prog++Tryz.f4.resultTypes.toList).any (Tryz.prog.veiledRec ·)))=true:=by kernel_rfl
theorem j31:(Rows.scriptParsesRow.veiledFits Tryz.prog Tryz.f4.params.toList (Tryz.f4.params.toList++Rows.scriptParsesSpec.plain.varTypes Tryz.prog++Tryz.f4.resultTypes.toList))=true:=by kernel_rfl
set_option maxRecDepth 100000 in
theorem closed:joinedFacts Tryz.prog 4 Tryz.f4 Rows.scriptParsesSpec Rows.scriptParsesRow=true:=by
  delta joinedFacts
  exact (andT (andT (andT (andT (andT (andT (andT (andT (andT (andT (andT (andT (andT (andT (andT (andT (andT (andT (andT (andT (andT (andT (andT (andT (andT (andT (andT (andT (andT (andT (andT j0 j1) j2) j3) j4) j5) j6) j7) j8) j9) j10) j11) j12) j13) j14) j15) j16) j17) j18) j19) j20) j21) j22) j23) j24) j25) j26) j27) j28) j29) j30) j31)
theorem inst:Tryz.f4.isInstance Tryz.prog Rows.scriptParsesRow.origin Rows.scriptParsesRow.targs:=cW (by kernel_rfl)
theorem wrapper:Tryz.f4.isWrapper Tryz.prog Rows.scriptParsesRow.wrapper Rows.scriptParsesRow.mainSum:=by unfold Func.isWrapper;first | (rw [if_pos (by decide +kernel)];kernel_rfl) | (rw [if_neg (by decide +kernel)];exact⟨rfl,rfl⟩)
theorem named:Tryz.prog.funcNamed Rows.scriptParsesRow.func=some 4:=by kernel_rfl

set_option maxRecDepth 100000 in
theorem said:Rows.ScriptParsesSaid:=
  OpenClaim.holds_of_cond 4 Tryz.f4 rfl rfl rfl rfl rfl rfl rfl ⟨rfl,rfl,rfl,rfl,rfl⟩ rfl rfl rfl rfl rfl named Tryz.func4 closed
    inst wrapper
    (fun os started H enc _ F=>by rw [OpenClaim.pre_eq_preRow];exact lifted os started H enc F)

theorem plain (f : FuncId) (fn : Func) (hf : Tryz.pinned.checked.prog.funcNamed "dynpos/dynposlaw39.ScriptParses" = some f) (hfn : Tryz.pinned.checked.prog.funcs[f]? = some fn) :
    true=Tryz.pinned.checked.prog.looks []∧∀ (j:Nat) t,fn.params[j]? = some t→Tryz.pinned.checked.prog.wantsStandIn t=false:=by
  obtain rfl : f = 4 := aP ((show Tryz.prog.funcNamed "dynpos/dynposlaw39.ScriptParses" = some 4 by kernel_rfl).symm.trans hf) |>.symm
  obtain rfl:fn=Tryz.f4:=(aP (Tryz.func4.symm.trans hfn)).symm
  refine⟨by kernel_rfl,fun j t ht=>?_⟩
  rw [Tryz.params4] at ht
  have hm:=Array.mem_of_getElem? ht
  simp only [List.mem_toArray,ag,bN,or_false] at hm
  rcases hm with rfl | rfl | rfl | rfl | rfl
  · exact (show Tryz.prog.wantsStandIn 22=false by kernel_rfl)
  · exact (show Tryz.prog.wantsStandIn 9=false by kernel_rfl)
  · exact (show Tryz.prog.wantsStandIn 3=false by kernel_rfl)
  · exact (show Tryz.prog.wantsStandIn 5=false by kernel_rfl)
  · exact (show Tryz.prog.wantsStandIn 5=false by kernel_rfl)

theorem card:Rows.ScriptParsesCardSaid:=
  Claim7.holds_tied_plain_at .later [] _ _ _ _ said (fun _ h=>by cases h) (by kernel_rfl) (fun _ h=>by cases h) scriptParses_row_tie rfl ⟨rfl,rfl⟩ (by kernel_rfl) rfl plain (by kernel_rfl)

end Go.Proofs.YtaplakgdkkmpfaaGreatDoor.scriptParses
namespace Go.Proofs.YtaplakgdkkmpfaaGreatDoor
theorem scriptParses_card:Rows.ScriptParsesCardSaid:=scriptParses.card
end Go.Proofs.YtaplakgdkkmpfaaGreatDoor

