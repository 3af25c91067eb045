import Derived.Lib.IndexBytes
import Derived.Lib.SplitLaws
import Derived.Test.YtaplakgdkkmpfaaDoorKi
set_option linter.unusedVariables false
set_option linter.unusedSimpArgs false
namespace Go.Proofs.YtaplakgdkkmpfaaDoor
open Go Go.RowKit Go.Shelf Go.SL
abbrev C_:ByteArray:=⟨#[32]⟩
def Dw (s:ByteArray):List ByteArray:=Lib.splitB C_ 0 (Lib.countB s C_) s
theorem Gu (s:ByteArray):(Dw s).length=Lib.countB s C_+1:=Lib.splitB_all C_ (by decide) 0 _ s rfl
set_option maxRecDepth 100000 in
set_option maxHeartbeats 1000000 in
theorem S7 (s:ByteArray) (w:World) (hs:s.size<4294967281):Calls Tryd.prog 39 #[.string s,.string C_] w λ e w'=>
  e = .returned (.slice (some ⟨w.heap.size,0,none⟩) (Dw s).length (Dw s).length)/\w'=w.alloc (.cells ((Dw s).map Value.string).toArray 9):=by
 have hle:=Lib.countB_le C_ (by decide) s.size s (ah _)
 have hlen:=Gu s
 have c:=Any.strings_genSplit_core {bP with} (by kernel_rfl) s C_ 0 (-1) (Lib.countB s C_+1) w hs (by decide) (aZ _)
  (λ x c hx=>by
   have:=Any.strings_Index_one {bP with} x 32 (w.alloc (.cells c 9))
   rw [←Lib.index_one] at this
   exact this)
  (by
   refine (Any.strings_Count_one {bP with} s 32 w).mono λ e w' ⟨he,hw⟩=>⟨?_,hw⟩
   rw [he]
   show _=Ending.returned (Value.int .i64 ((Lib.count s.data.toList [32]:Nat):Int))
   rw [Lib.count_one]
   rfl)
  (by decide) (by decide) (by rw [if_pos (by decide)];omega)
 rw [Nat.add_sub_cancel] at c
 change Calls Tryd.prog 57 #[.string s,.string C_,.int .i64 0,.int .i64 (-1)] w (λ e w'=>e = .returned (.slice (some ⟨w.heap.size,0,none⟩) (Dw s).length (Lib.countB s C_+1))/\w'=w.alloc (.cells (Lib.cellsOf (Dw s) (Lib.countB s C_+1)) 9)) at c
 rw [←hlen,Lib.cellsOf_full] at c
 clear hlen hle
 go_enter Tryd.func39,Tryd.ntmps39
 go_wp2_with (go_at_call 57;refine c.mono ?_;rintro e w' ⟨rfl,rfl⟩)
 go_ret
 exact⟨rfl,rfl⟩
end Go.Proofs.YtaplakgdkkmpfaaDoor
