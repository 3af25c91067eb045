import Derived.Lib.IndexBytes
import Derived.Lib.SplitLaws
import Derived.Test.YtaplakgdkkmpfaaDoorKi
set_option linter.unusedVariables false
set_option linter.unusedSimpArgs false
namespace Go.Proofs.YtaplakgdkkmpfaaDoor
open Go Go.RowKit Go.Shelf Go.SL
abbrev Dy:ByteArray:=⟨#[32]⟩
def Eh (s:ByteArray):List ByteArray:=Lib.splitB Dy 0 (Lib.countB s Dy) s
theorem Hd (s:ByteArray):(Eh s).length=Lib.countB s Dy+1:=Lib.splitB_all Dy (by decide) 0 _ s rfl
set_option maxRecDepth 100000 in
set_option maxHeartbeats 1000000 in
theorem Wx (s:ByteArray) (w:World) (hs:s.size<4294967281):Calls Tryd.prog 39 #[.string s,.string Dy] w λ e w'=>
  e = .returned (.slice (some ⟨w.heap.size,0,none⟩) (Eh s).length (Eh s).length)/\w'=w.alloc (.cells ((Eh s).map Value.string).toArray 9):=by
 have hle:=Lib.countB_le Dy (by decide) s.size s (ai _)
 have hlen:=Hd s
 have c:=Any.strings_genSplit_core {c7 with} (by kernel_rfl) s Dy 0 (-1) (Lib.countB s Dy+1) w hs (by decide) (aG _)
  (λ x c hx=>by
   have:=Any.strings_Index_one {c7 with} x 32 (w.alloc (.cells c 9))
   rw [←Lib.index_one] at this
   exact this)
  (by
   refine (Any.strings_Count_one {c7 with} s 32 w).mono λ e w' ⟨he,hw⟩=>⟨?_,hw⟩
   rw [he]
   show _=Ending.returned (Value.int .i64 ((Lib.count s.data.toList [32]:Nat):Int))
   rw [Lib.count_one]
   rfl)
  (by decide) (by decide) (by rw [if_pos (by decide)];omega)
 rw [Nat.add_sub_cancel] at c
 change Calls Tryd.prog 57 #[.string s,.string Dy,.int .i64 0,.int .i64 (-1)] w (λ e w'=>e = .returned (.slice (some ⟨w.heap.size,0,none⟩) (Eh s).length (Lib.countB s Dy+1))/\w'=w.alloc (.cells (Lib.cellsOf (Eh s) (Lib.countB s Dy+1)) 9)) at c
 rw [←hlen,Lib.cellsOf_full] at c
 clear hlen hle
 go_enter Tryd.func39,Tryd.ntmps39
 go_wp2_with (go_at_call 57;refine c.mono ?_;rintro e w' ⟨rfl,rfl⟩)
 go_ret
 exact⟨rfl,rfl⟩
end Go.Proofs.YtaplakgdkkmpfaaDoor
