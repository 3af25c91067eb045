import Derived.Lib.IndexBytes
import Derived.Lib.SplitLaws
import Derived.Test.YtaplakgdkkmpfaaGreatDoorKi
set_option linter.unusedVariables false
set_option linter.unusedSimpArgs false
namespace Go.Proofs.YtaplakgdkkmpfaaGreatDoor
open Go Go.RowKit Go.Shelf Go.SL
abbrev Ef:ByteArray:=⟨#[32]⟩
def E1 (s:ByteArray):List ByteArray:=Lib.splitB Ef 0 (Lib.countB s Ef) s
theorem Ih (s:ByteArray):(E1 s).length=Lib.countB s Ef+1:=Lib.splitB_all Ef (by decide) 0 _ s rfl
set_option maxRecDepth 100000 in
set_option maxHeartbeats 1000000 in
theorem qK (s:ByteArray) (w:World) (hs:s.size<4294967281):Calls Tryz.prog 48 #[.string s,.string Ef] w λ e w'=>
  e = .returned (.slice (some ⟨w.heap.size,0,none⟩) (E1 s).length (E1 s).length)/\w'=w.alloc (.cells ((E1 s).map Value.string).toArray 9):=by
 have hle:=Lib.countB_le Ef (by decide) s.size s (ai _)
 have hlen:=Ih s
 have c:=Any.strings_genSplit_core {ch with} (by kernel_rfl) s Ef 0 (-1) (Lib.countB s Ef+1) w hs (by decide) (aL _)
  (λ x c hx=>by
   have:=Any.strings_Index_one {ch with} x 32 (w.alloc (.cells c 9))
   rw [←Lib.index_one] at this
   exact this)
  (by
   refine (Any.strings_Count_one {ch with} s 32 w).mono λ e w' ⟨he,hw⟩=>⟨?_,hw⟩
   rw [he]
   show _=Ending.returned (Value.int .i64 ((Lib.count s.data.toList [32]:Nat):Int))
   rw [Lib.count_one]
   rfl)
  (by decide) (by decide) (by rw [if_pos (by decide)];omega)
 rw [Nat.add_sub_cancel] at c
 change Calls Tryz.prog 66 #[.string s,.string Ef,.int .i64 0,.int .i64 (-1)] w (λ e w'=>e = .returned (.slice (some ⟨w.heap.size,0,none⟩) (E1 s).length (Lib.countB s Ef+1))/\w'=w.alloc (.cells (Lib.cellsOf (E1 s) (Lib.countB s Ef+1)) 9)) at c
 rw [←hlen,Lib.cellsOf_full] at c
 clear hlen hle
 go_enter Tryz.func48,Tryz.ntmps48
 go_wp2_with (go_at_call 66;refine c.mono ?_;rintro e w' ⟨rfl,rfl⟩)
 go_ret
 exact⟨rfl,rfl⟩
end Go.Proofs.YtaplakgdkkmpfaaGreatDoor
