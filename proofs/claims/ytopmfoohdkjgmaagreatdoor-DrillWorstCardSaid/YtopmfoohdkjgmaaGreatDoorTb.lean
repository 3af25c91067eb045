/-
  What the row's list says of the table of de Bruijn.
-/
import Derived.Test.YtopmfoohdkjgmaaGreatDoorRows
import Derived.Test.YtopmfoohdkjgmaaGreatDoorSlW
import Derived.Lib.LaidTab
import Derived.LaidLaws
import Derived.LaidSub
namespace Go.Proofs.YtopmfoohdkjgmaaGreatDoor
open Go Go.RowKit Go.SL
abbrev laid4 : List (String × DataW Unit) := [("math/bits.deBruijn32tab", Rows.laid_math_bits_deBruijn32tab), ("math/bits.deBruijn64tab", Rows.laid_math_bits_deBruijn64tab), ("internal/strconv.uint64pow10", Rows.laid_internal_strconv_uint64pow10), ("dynpos/operation.ways", Rows.laid_dynpos_operation_ways)]
def dbT : List Int := [0, 1, 56, 2, 57, 49, 28, 3, 61, 58, 42, 50, 38, 29, 17, 4, 62, 47, 59, 36, 45, 43, 51, 22, 53, 39, 33, 30, 24, 18, 12, 5, 63, 55, 48, 27, 60, 41, 37, 16, 46, 35, 44, 21, 52, 32, 23, 11, 54, 26, 40, 15, 34, 20, 31, 10, 25, 14, 19, 9, 13, 8, 7, 6]
theorem globDb : Tryz.prog.globalNamed "math/bits.deBruijn64tab" = some 4 := by kernel_rfl
theorem tyDb : (Tryz.prog.globals[4]?).map (·.type) = some 686 := by kernel_rfl
theorem db_of {W : World} (h : laidMet Tryz.prog laid4 W) : Lib.TabIs Tryz.prog W "math/bits.deBruijn64tab" .u8 dbT := by
  have h2 := h.filter (fun x => x.1 == "math/bits.deBruijn64tab")
  have e : List.filter (fun (x : String × DataW Unit) => x.1 == "math/bits.deBruijn64tab") laid4 = [("math/bits.deBruijn64tab", Lib.tabData .u8 dbT)] := by kernel_rfl
  rw [e] at h2
  exact Lib.tabIs_of_head globDb tyDb Tryz.underlying686 Tryz.underlying5 (by kernel_rfl) (by kernel_rfl) h2
theorem glob {W : World} (h : laidMet Tryz.prog laid4 W) : GlOk (old W) W := by
  have ht := db_of h
  unfold Lib.TabIs World.var? at ht
  rw [globDb] at ht
  simp only [Option.bind_some] at ht
  obtain ⟨vs, t, fr, hb, hv⟩ : ∃ vs t fr, W.heap[4]? = some (.cells vs t fr) ∧ vs = (dbT.map fun z => Value.int .u8 z).toArray := by
    split at ht
    · rename_i cs t fr hq
      exact ⟨cs, t, fr, hq, Option.some.inj ht⟩
    · cases ht
  have hlt : 4 < W.heap.size := (Array.getElem?_eq_some_iff.1 hb).1
  have key : CellsP (old W) W ⟨4, 0, none⟩ (dbT.map fun z => Pd.v (.int .u8 z)) := fun j d hj => by
    rw [List.getElem?_map] at hj
    obtain ⟨z, h1, rfl⟩ := mapE hj
    refine ⟨.int .u8 z, hlt, ?_, .v _ rfl⟩
    rw [add_mk, Nat.zero_add]
    have hc : W.cell? ⟨4, j, none⟩ = vs[j]? := by simp [World.cell?, hb]
    rw [hc, hv]
    simp [h1]
  refine ⟨fun g cells hg => ?_, fun g hg => ?_⟩
  · unfold globTab at hg
    split at hg
    · obtain rfl := Option.some.inj hg
      exact ⟨key, hlt, vs, t, fr, hb, by rw [hv]; rfl⟩
    · cases hg
  · cases hg
end Go.Proofs.YtopmfoohdkjgmaaGreatDoor
