import Derived.Test.YtedojeimigneaaaGreatDoorRows
import Derived.Test.YtedojeimigneaaaGreatDoorSlW
import Derived.Lib.LaidTab
import Derived.LaidLaws
import Derived.LaidSub
namespace Go.Proofs.YtedojeimigneaaaGreatDoor
open Go Go.RowKit Go.SL
variable{W:World}
abbrev Ajw : List (String × DataW Unit) := [("math/bits.deBruijn32tab", Rows.laid_math_bits_deBruijn32tab), ("math/bits.deBruijn64tab", Rows.laid_math_bits_deBruijn64tab), ("internal/strconv.uint64pow10", Rows.laid_internal_strconv_uint64pow10), ("dynpos/operation.ways", Rows.laid_dynpos_operation_ways)]
def dbT:ez:=[0,1,56,2,57,49,28,3,61,58,42,50,38,29,17,4,62,47,59,36,45,43,51,22,53,39,33,30,24,18,12,5,63,55,48,27,60,41,37,16,46,35,44,21,52,32,23,11,54,26,40,15,34,20,31,10,25,14,19,9,13,8,7,6]
theorem Aoi : Tryz.prog.globalNamed "math/bits.deBruijn64tab" = some 4 := by kernel_rfl
theorem Bcq:(Tryz.prog.globals[4]?).map (·.type)=some 695:=by kernel_rfl
theorem A8u(h : laidMet Tryz.prog Ajw W) : Lib.TabIs Tryz.prog W "math/bits.deBruijn64tab" .u8 dbT := by
 have h2 := h.filter (λ x => x.1 == "math/bits.deBruijn64tab")
 have e : List.filter (λ(x : String × DataW Unit) => x.1 == "math/bits.deBruijn64tab") Ajw = [("math/bits.deBruijn64tab", Lib.tabData .u8 dbT)] := by kernel_rfl
 rw[e]at h2;exact Lib.tabIs_of_head Aoi Bcq Tryz.underlying695 Tryz.underlying5 (by kernel_rfl) (by kernel_rfl) h2
theorem glob(h:laidMet Tryz.prog Ajw W):Tn (old W) W:=by
 have ht:=A8u h;unfold Lib.TabIs World.var? at ht;rw[Aoi]at ht;simp only[aj]at ht;obtain⟨vs,t,fr,hb,hv⟩:∃vs t fr,W.heap[4]?=some (.cells vs t fr)/\vs=(dbT.map λz=>Value.int .u8 z).toArray:=by
  split at ht
  .rename_i cs t fr hq;exact⟨cs,t,fr,hq,aQ ht⟩
  .cases ht
 have hlt:4<W.heap.size:=(aL.1 hb).1;have key:Fy (old W) W ⟨4,0,none⟩ (dbT.map λz=>Pd.v (.int .u8 z)):=λj d hj=>by
  rw[au]at hj;obtain⟨z,h1,rfl⟩:=Cv hj;refine⟨.int .u8 z,hlt,?_,.v _ rfl⟩;rw[Cn,aJ];have hc:W.cell? ⟨4,j,none⟩=vs[j]?:=by simp[World.cell?,hb]
  rw[hc,hv];simp[h1]
 refine⟨λg cells hg=>?_,λg hg=>?_⟩
 .unfold Qz at hg;split at hg
  .obtain rfl:=aQ hg;exact⟨key,hlt,vs,t,fr,hb,by rw[hv];rfl⟩
  .cases hg
 .cases hg
end Go.Proofs.YtedojeimigneaaaGreatDoor
