import Derived.Lib.IndexBytes
import Derived.Lib.SplitLaws
import Derived.Test.YtaplakgdkkmpfaaDoorKi
set_option linter.unusedVariables false
set_option linter.unusedSimpArgs false
namespace Go.Proofs.YtaplakgdkkmpfaaDoor
open Go Go.RowKit Go.Shelf Go.SL
abbrev Cm:ByteArray:=⟨#[32]⟩
def Cw (s:ByteArray):List ByteArray:=Lib.splitB Cm 0 (Lib.countB s Cm) s
theorem G7 (s:ByteArray):(Cw s).length=Lib.countB s Cm+1:=Lib.splitB_all Cm (by decide) 0 _ s rfl
set_option maxRecDepth 100000 in
set_option maxHeartbeats 1000000 in
theorem Vs (s:ByteArray) (w:World) (hs:s.size<4294967281):Calls Tryd.prog 39 #[.string s,.string Cm] w λ e w'=>
  e = .returned (.slice (some ⟨w.heap.size,0,none⟩) (Cw s).length (Cw s).length)/\w'=w.alloc (.cells ((Cw s).map Value.string).toArray 9):=by
 have hle:=Lib.countB_le Cm (by decide) s.size s (ai _)
 have hlen:=G7 s
 have c:=Any.strings_genSplit_core {c6 with} (by kernel_rfl) s Cm 0 (-1) (Lib.countB s Cm+1) w hs (by decide) (bc _)
  (λ x c hx=>by
   have:=Any.strings_Index_one {c6 with} x 32 (w.alloc (.cells c 9))
   rw [←Lib.index_one] at this
   exact this)
  (by
   refine (Any.strings_Count_one {c6 with} s 32 w).mono λ e w' ⟨he,hw⟩=>⟨?_,hw⟩
   rw [he]
   show _=Ending.returned (Value.int .i64 ((Lib.count s.data.toList [32]:Nat):Int))
   rw [Lib.count_one]
   rfl)
  (by decide) (by decide) (by rw [if_pos (by decide)];omega)
 rw [Nat.add_sub_cancel] at c
 change Calls Tryd.prog 57 #[.string s,.string Cm,.int .i64 0,.int .i64 (-1)] w (λ e w'=>e = .returned (.slice (some ⟨w.heap.size,0,none⟩) (Cw s).length (Lib.countB s Cm+1))/\w'=w.alloc (.cells (Lib.cellsOf (Cw s) (Lib.countB s Cm+1)) 9)) at c
 rw [←hlen,Lib.cellsOf_full] at c
 clear hlen hle
 go_enter Tryd.func39,Tryd.ntmps39
 go_wp2_with (go_at_call 57;refine c.mono ?_;rintro e w' ⟨rfl,rfl⟩)
 go_ret
 exact⟨rfl,rfl⟩
end Go.Proofs.YtaplakgdkkmpfaaDoor
