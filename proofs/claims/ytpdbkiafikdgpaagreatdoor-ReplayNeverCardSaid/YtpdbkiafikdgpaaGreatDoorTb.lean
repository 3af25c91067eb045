import Derived.Test.YtpdbkiafikdgpaaGreatDoorRows
import Derived.Test.YtpdbkiafikdgpaaGreatDoorTs
import Derived.Test.YtpdbkiafikdgpaaGreatDoorSlW
import Derived.LaidLaws
import Derived.LaidSub
namespace Go.Proofs.YtpdbkiafikdgpaaGreatDoor
open Go Go.RowKit Go.SL
theorem A6k:(Tryz.prog.globals[0]?).map (·.type)=some 236:=by kernel_rfl
theorem A20 {W : World} (h : laidMet Tryz.prog [("math/bits.deBruijn32tab", Rows.laid_math_bits_deBruijn32tab), ("math/bits.deBruijn64tab", Rows.laid_math_bits_deBruijn64tab), ("internal/strconv.uint64pow10", Rows.laid_internal_strconv_uint64pow10)] W) :
  Lib.TabIs Tryz.prog W "internal/strconv.uint64pow10" .u64 Lib.pow10Tab := by
 have h2 := h.filter (λ x => x.1 == "internal/strconv.uint64pow10")
 have e : List.filter (λ (x : String × DataW Unit) => x.1 == "internal/strconv.uint64pow10") [("math/bits.deBruijn32tab", Rows.laid_math_bits_deBruijn32tab), ("math/bits.deBruijn64tab", Rows.laid_math_bits_deBruijn64tab), ("internal/strconv.uint64pow10", Rows.laid_internal_strconv_uint64pow10)] = [("internal/strconv.uint64pow10", Lib.tabData .u64 Lib.pow10Tab)] := by kernel_rfl
 rw [e] at h2
 exact Lib.tabIs_of_head Vy A6k Tryz.underlying236 Tryz.underlying67 (by kernel_rfl) (by kernel_rfl) h2
theorem glob {W : World} (h : laidMet Tryz.prog [("math/bits.deBruijn32tab", Rows.laid_math_bits_deBruijn32tab), ("math/bits.deBruijn64tab", Rows.laid_math_bits_deBruijn64tab), ("internal/strconv.uint64pow10", Rows.laid_internal_strconv_uint64pow10)] W) : Q7 (old W) W := by
 have ht:=A20 h
 unfold Lib.TabIs World.var? at ht
 rw [Vy] at ht
 simp only [ac] at ht
 obtain⟨vs,t,fr,hb,hv⟩:∃ vs t fr,W.heap[0]? = some (.cells vs t fr)/\vs=(Lib.pow10Tab.map λ z=>Value.int .u64 z).toArray:=by
  split at ht
  ·rename_i cs t fr hq
   exact⟨cs,t,fr,hq,bN ht⟩
  ·cases ht
 have hlt:0<W.heap.size:=(aY.1 hb).1
 have key:Dw (old W) W ⟨0,0,none⟩ (Lib.pow10Tab.map λ z=>Pd.v (.int .u64 z)):=λ j d hj=>by
  rw [ax] at hj
  obtain⟨z,h1,rfl⟩:=Cx hj
  refine⟨.int .u64 z,hlt,?_,.v _ rfl⟩
  rw [Ca,aG]
  have hc:W.cell? ⟨0,j,none⟩=vs[j]?:=by simp [World.cell?,hb]
  rw [hc,hv]
  simp [h1]
 intro g cells hg
 match g,hg with
 | 0,hg=>
  obtain rfl:=bN hg
  exact⟨key,hlt,vs,t,fr,hb,by rw [hv];rfl⟩
 | g+1,hg=>cases hg
end Go.Proofs.YtpdbkiafikdgpaaGreatDoor
