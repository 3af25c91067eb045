import Derived.Maps.RangeWalk
import Derived.Maps.OwnOps
import Derived.DeepKeys5
import Derived.Test.YtiaaaghdkhnonaaGreatChecked
import Derived.Test.YtiaaaghdkhnonaaGreatDx
set_option linter.unusedVariables false
namespace Go.Proofs.YtiaaaghdkhnonaaGreat
open Go Go.RowKit Go.SL Go.Maps Go.WideMaps
theorem Awt:laidOutB Tryz.prog=true:=by kernel_rfl
theorem P1:Keyed Tryz.prog 88:=Keyed.of_law (deep_law_gate Awt (by decide +kernel) (by decide +kernel) (by kernel_rfl) (by kernel_rfl))
def ptV(p:a_):Value:=.agg #[.int .i64 p.Kind,.int .i64 p.Number]
def ptK(p:a_):Lit:=.string (keyBytes [.int .i64 p.Kind,.int .i64 p.Number])
def ptW(p:a_):Prop:=(Lit.int .i64 p.Kind).wf=true/\(Lit.int .i64 p.Number).wf=true
theorem O1{p:a_}(h:ptW p):keyOf Tryz.prog 88 (ptV p)=some (ptK p):=by
 obtain⟨h1,h2⟩:=h;have hk:Tryz.prog.keyType 88=true:=by kernel_rfl
 have hf:(ptV p).formed Tryz.prog 88=true:=by kernel_rfl
 unfold keyOf;rw[Tryz.underlying88];simp only;rw[hk,hf];simp only[Bool.and_self,if_true];obtain⟨m,hm⟩:∃m,Tryz.prog.types.size=m+1:=⟨Tryz.prog.types.size-1,by decide +kernel⟩;rw[hm];have hc:Tryz.prog.cellsOf 88=2:=by kernel_rfl
 have hi:Tryz.prog.cellsOf 3=1:=by kernel_rfl
 unfold Program.keyLits;rw[Tryz.underlying88];simp only;rw[eC ⟨by rw[hc];rfl,by kernel_rfl⟩];simp only[List.mapM_cons,List.mapM_nil,ptV,Value.cells,hi,List.take,List.drop];unfold Program.keyLits;simp[Tryz.underlying3,h1,h2,ptK]
end Go.Proofs.YtiaaaghdkhnonaaGreat
