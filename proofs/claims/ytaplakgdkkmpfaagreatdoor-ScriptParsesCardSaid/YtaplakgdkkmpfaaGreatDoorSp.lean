import Derived.Lib.IndexBytes
import Derived.Lib.SplitLaws
import Derived.Test.YtaplakgdkkmpfaaGreatDoorKi
set_option linter.unusedVariables false
set_option linter.unusedSimpArgs false
namespace Go.Proofs.YtaplakgdkkmpfaaGreatDoor
open Go Go.RowKit Go.Shelf Go.SL
abbrev Cw:ByteArray:=⟨#[32]⟩
def C8 (s:ByteArray):List ByteArray:=Lib.splitB Cw 0 (Lib.countB s Cw) s
theorem Ij (s:ByteArray):(C8 s).length=Lib.countB s Cw+1:=Lib.splitB_all Cw (by decide) 0 _ s rfl
set_option maxRecDepth 100000 in
set_option maxHeartbeats 1000000 in
theorem Z6 (s:ByteArray) (w:World) (hs:s.size<4294967281):Calls Tryz.prog 48 #[.string s,.string Cw] w λ e w'=>
  e = .returned (.slice (some ⟨w.heap.size,0,none⟩) (C8 s).length (C8 s).length)/\w'=w.alloc (.cells ((C8 s).map Value.string).toArray 9):=by
 have hle:=Lib.countB_le Cw (by decide) s.size s (ae _)
 have hlen:=Ij s
 have c:=Any.strings_genSplit_core {cj with} (by kernel_rfl) s Cw 0 (-1) (Lib.countB s Cw+1) w hs (by decide) (ba _)
  (λ x c hx=>by
   have:=Any.strings_Index_one {cj with} x 32 (w.alloc (.cells c 9))
   rw [←Lib.index_one] at this
   exact this)
  (by
   refine (Any.strings_Count_one {cj with} s 32 w).mono λ e w' ⟨he,hw⟩=>⟨?_,hw⟩
   rw [he]
   show _=Ending.returned (Value.int .i64 ((Lib.count s.data.toList [32]:Nat):Int))
   rw [Lib.count_one]
   rfl)
  (by decide) (by decide) (by rw [if_pos (by decide)];omega)
 rw [Nat.add_sub_cancel] at c
 change Calls Tryz.prog 66 #[.string s,.string Cw,.int .i64 0,.int .i64 (-1)] w (λ e w'=>e = .returned (.slice (some ⟨w.heap.size,0,none⟩) (C8 s).length (Lib.countB s Cw+1))/\w'=w.alloc (.cells (Lib.cellsOf (C8 s) (Lib.countB s Cw+1)) 9)) at c
 rw [←hlen,Lib.cellsOf_full] at c
 clear hlen hle
 go_enter Tryz.func48,Tryz.ntmps48
 go_wp2_with (go_at_call 66;refine c.mono ?_;rintro e w' ⟨rfl,rfl⟩)
 go_ret
 exact⟨rfl,rfl⟩
end Go.Proofs.YtaplakgdkkmpfaaGreatDoor
