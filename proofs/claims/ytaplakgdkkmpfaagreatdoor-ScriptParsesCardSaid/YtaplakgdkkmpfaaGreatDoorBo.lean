import Derived.Lib.Strings
import Derived.Lib.Slices
import Derived.Lib.Walk
import Derived.Lib.Builder
import Derived.Below
import Derived.Lib.AppendStr
import Derived.Lib.UnsafeStr
import Derived.Lib.OthersKept
import Derived.WalkKit
import Derived.BigCall
import Derived.Laws.Externs
import Derived.Laws.IdiomCopy
import Derived.Laws.BitsLemmas
import Derived.Test.YtaplakgdkkmpfaaGreatDoorProg
set_option linter.unusedVariables false
set_option linter.unusedSimpArgs false
namespace Go.Proofs.YtaplakgdkkmpfaaGreatDoor
open Go Go.RowKit Go.Lib Go.Proofs
abbrev Oj (B b:Nat) (p:Value) (l:List UInt8) (w:World):Prop:=Lib.BuilderAt 67 5 B b p (Lib.byteCells l) w
abbrev Pg (B b:Nat) (l:List UInt8) (w:World):Prop:=Lib.IsBuilder 67 5 B b (Lib.byteCells l) w
theorem qL:∃ j,Tryz.prog.info? 67=some j/\j.size=2:=by
 have h:(Tryz.prog.info? 67).map (·.size)=some 2:=by kernel_rfl
 exact Option.map_eq_some_iff.1 h
theorem yM:∃ i,Tryz.prog.info? 5=some i/\i.zero=some (.int .u8 0)/\i.size=1/\i.bytes=1:=by
 have h1:(Tryz.prog.info? 5).map (·.size)=some 1:=by kernel_rfl
 have h2:(Tryz.prog.info? 5).map (·.bytes)=some 1:=by kernel_rfl
 have h3:(Tryz.prog.info? 5).bind (·.zero)=some (.int .u8 0):=by kernel_rfl
 obtain⟨i,h⟩:∃ i,Tryz.prog.info? 5=some i:=by
  cases hq:Tryz.prog.info? 5 with
  | none=>rw [hq] at h1;cases h1
  | some i=>exact⟨i,rfl⟩
 rw [h] at h1 h2 h3
 exact⟨i,h,by simpa using h3,by simpa using h1,by simpa using h2⟩
set_option maxHeartbeats 1000000 in
set_option maxRecDepth 100000 in
theorem jO (b:Nat) (w:World) (h0:w.cell? ⟨b,0,none⟩=some (.pointer (some ⟨b,0,none⟩))) :
  Calls Tryz.prog 40 #[.pointer (some ⟨b,0,none⟩)] w λ e w'=>e = .returned (.tuple #[])/\w'=w:=by
 obtain⟨j,hj,_⟩:=qL
 have mixed:Tryz.prog.follows .mixedOrders=true:=by kernel_rfl
 go_enter Tryz.func40,Tryz.ntmps40
 go_wp2
 rw [Lib.run_neq_ptr_same w _ Tryz.underlying65 hj]
 go_wp2
 go_end0
 exact⟨rfl,rfl⟩
set_option maxHeartbeats 1000000 in
set_option maxRecDepth 100000 in
theorem Y5 (b:Nat) (w:World) (h0:w.cell? ⟨b,0,none⟩=some (.pointer none)) (hsh:w.shape? b=some (67,2)) (hfz:w.frozen? ⟨b,0,none⟩=false) :
  Calls Tryz.prog 40 #[.pointer (some ⟨b,0,none⟩)] w λ e w'=>e = .returned (.tuple #[])/\w'=w.setCell ⟨b,0,none⟩ (.pointer (some ⟨b,0,none⟩)):=by
 obtain⟨j,hj,hjs⟩:=qL
 have mixed:Tryz.prog.follows .mixedOrders=true:=by kernel_rfl
 go_enter Tryz.func40,Tryz.ntmps40
 go_wp2
 rw [Lib.run_to_unsafe w ⟨b,0,none⟩ Tryz.underlying65 Tryz.underlying121 hj (by rw [hjs];decide) hsh (Nat.zero_lt_succ 1)]
 simp only [Result.andThen]
 rw [Oper.upon_value]
 go_wp2
 rw [run_callFunc_extern Tryz.func53 (by kernel_rfl) (by kernel_rfl) (by kernel_rfl) (e:=Extern.AbiNoEscape.same) (by kernel_rfl)]
 rw [Lib.run_noEscape]
 simp only [Result.andThen]
 rw [Oper.upon_value]
 go_wp2
 rw [Lib.run_from_unsafe w ⟨b,0,none⟩ Tryz.underlying121 Tryz.underlying65 hj hsh (by kernel_rfl)]
 simp only [Result.andThen]
 rw [Oper.upon_value]
 go_wp2
 go_end0
 exact⟨rfl,rfl⟩
theorem yI (B b:Nat) (l:List UInt8) (w:World) (h:Pg B b l w) :
  Calls Tryz.prog 40 #[.pointer (some ⟨b,0,none⟩)] w λ e w'=>e = .returned (.tuple #[])/\Oj B b (.pointer (some ⟨b,0,none⟩)) l w'/\Below B w w'/\Lib.OthersKept 5 (some b) w w':=by
 rcases h with h | h
 ·refine (Y5 b w h.cell0 h.shape h.frozen0).mono ?_
  rintro e w' ⟨rfl,rfl⟩
  exact⟨rfl,h.used _,(Below.refl B w).setCell (p:=⟨b,0,none⟩) h.1 _,(Lib.OthersKept.refl _ _ w).setCell ⟨b,0,none⟩ rfl _⟩
 ·refine (jO b w h.cell0).mono ?_
  rintro e w' ⟨rfl,rfl⟩
  exact⟨rfl,h,Below.refl B _,Lib.OthersKept.refl _ _ _⟩
theorem Yh {w:World} {B:Nat} {e:TypeId} {v:Value} {n:Nat} {xs:List Value} (h:w.ownsRow B e 1 v n xs) (g:Nat) (hg:v.ownBlock=some g):∃ c fz,w.heap[g]? = some (.cells c e fz):=by
 rcases h.2 with⟨rfl,_⟩ | ⟨g',cap,cur,rfl,_,hgg,_⟩
 ·simp [Value.ownBlock] at hg
 ·simp [Value.ownBlock] at hg
  subst hg
  exact⟨cur,_,hgg⟩
theorem qT {B b:Nat} {p v v':Value} {l:List UInt8} {w:World} (hB:B<=b) (hb:w.heap[b]? = some (.cells #[p,v] 67 (0,0))) (hown:w.ownsRow B 5 1 v' l.length (Lib.byteCells l)):Oj B b p l (w.setCell ⟨b,1,none⟩ v'):=
 Lib.BuilderAt.put (T:=67) (e:=5) hB hb (bs':=Lib.byteCells l) (by rw [Lib.byteCells_length];exact hown) (by decide)
set_option maxHeartbeats 2000000 in
set_option maxRecDepth 100000 in
theorem vC (B b:Nat) (l:List UInt8) (s:ByteArray) (w:World) (h:Pg B b l w) (hlen:l.length+s.size<=140737488355328) (hBw:B<=w.heap.size) :
  Calls Tryz.prog 25 #[.pointer (some ⟨b,0,none⟩),.string s] w λ e w'=>e = .returned (.tuple #[.int .i64 s.size,.nilIface])/\Oj B b (.pointer (some ⟨b,0,none⟩)) (l++s.data.toList) w'/\Below B w w'/\Lib.OthersKept 5 (some b) w w':=by
 obtain⟨i0,hi,hz0,hz1,hz2⟩:=yM
 have mixed:Tryz.prog.follows .mixedOrders=true:=by kernel_rfl
 go_enter Tryz.func25,Tryz.ntmps25
 go_wp2_with (go_at_call 40;refine (yI B b l _ h).mono ?_)
 rintro e w1 ⟨rfl,h1,hb1,hk1⟩
 obtain⟨hB,v,hbk,hown,hne⟩:=h1
 have c0:w1.cell? ⟨b,0,none⟩=some (.pointer (some ⟨b,0,none⟩)):=by rw [Lib.cell_of_heap hbk];rfl
 have c1:w1.cell? ⟨b,1,none⟩=some v:=by rw [Lib.cell_of_heap hbk];rfl
 have hlc:=Lib.byteCells_length l
 go_wp2_with (at_builtin;refine Lib.wpList_append_own_string _ rfl _ _ 44 9 rfl B 5 i0 Tryz.underlying44 Tryz.underlying9 hi hz0 hz1 hz2 _ _ _ rfl hown s rfl ?c3 ?c4 ?c5 ?_)
 case c3=>unfold maxLen;omega
 case c4=>omega
 case c5=>have:=hb1.size;omega
 intro v' w2 hown' hgrow _
 have hlt:b<w1.heap.size:=(Array.getElem?_eq_some_iff.1 hbk).1
 have hb2:w2.heap[b]? = some (.cells #[.pointer (some ⟨b,0,none⟩),v] 67 (0,0)):=by
  rw [hgrow.block b hlt (λ e=>hne e.symm)]
  exact hbk
 have d0:w2.cell? ⟨b,0,none⟩=some (.pointer (some ⟨b,0,none⟩)):=by rw [Lib.cell_of_heap hb2];rfl
 have d1:w2.cell? ⟨b,1,none⟩=some v:=by rw [Lib.cell_of_heap hb2];rfl
 have f1:w2.frozen? ⟨b,1,none⟩=false:=Lib.frozen_of_heap hb2 1
 have hsl:s.data.toList.length=s.size:=by rw [Array.length_toList];rfl
 have ho2:w2.ownsRow B 5 1 v' (l++s.data.toList).length (Lib.byteCells (l++s.data.toList)):=by
  rw [Lib.byteCells_append,List.length_append,hsl]
  rw [Lib.strCells_eq] at hown'
  first | exact hown' | simpa [Lib.byteCells_length] using hown'
 obtain⟨ao,n',cap,rfl⟩:∃ ao n' cap,v' = .slice ao n' cap:=by
  rcases hown'.2 with⟨hv,_⟩ | ⟨g,cap,cur,hv,_⟩
  ·exact⟨_,_,_,hv⟩
  ·exact⟨_,_,_,hv⟩
 have hs1:=hb1.size
 go_wp2
 go_ret2
 exact⟨rfl,qT hB hb2 ho2,(hb1.grown hgrow (by omega) (λ k hk=>(hown.lt k hk).1)).setCell (p:=⟨b,1,none⟩) hB _,(hk1.grown hgrow λ g hg=>Yh hown g hg).setCell ⟨b,1,none⟩ rfl _⟩
set_option maxHeartbeats 2000000 in
set_option maxRecDepth 100000 in
theorem Zj (B b:Nat) (p:Value) (l:List UInt8) (w:World) (h:Oj B b p l w) (h0:l≠[]) :
  Calls Tryz.prog 27 #[.pointer (some ⟨b,0,none⟩)] w λ e w'=>e = .returned (.string ⟨l.toArray⟩)/\Below B w w':=by
 obtain⟨hB,v,hbk,hown,hne⟩:=h
 have hl0:l.length≠0:=by simpa using h0
 rw [Lib.byteCells_length] at hown
 have hown0:=hown
 obtain⟨g,cap,cur,rfl,hbg,hg,hnc,hcm,hcs,htake⟩:∃ g cap cur,v = .slice (some ⟨g,0,none⟩) l.length cap/\B<=g/\w.heap[g]? = some (.cells cur 5 (0,0))/\l.length<=cap/\cap<=maxLen/\cur.size=cap*1/\cur.toList.take (l.length*1)=Lib.byteCells l:=by
  rcases hown.2 with⟨_,hz⟩ | ⟨g,cap,cur,hv,r⟩
  ·exact absurd hz hl0
  ·exact⟨g,cap,cur,hv,r⟩
 have hbd:w.drew.heap[b]? = some (.cells #[p,.slice (some ⟨g,0,none⟩) l.length cap] 67 (0,0)):=hbk
 have hgd:w.drew.heap[g]? = some (.cells cur 5 (0,0)):=hg
 have c1:w.drew.cell? ⟨b,1,none⟩=some (.slice (some ⟨g,0,none⟩) l.length cap):=by rw [Lib.cell_of_heap hbd];rfl
 have hSD:(Builtin.unsafeSliceData_ #[44] 108 #[.slice (some ⟨g,0,none⟩) l.length cap]).run Tryz.prog w.drew = .ok (.pointer (some ⟨g,0,none⟩)) w.drew:=
  Lib.run_unsafeSliceData_row _ _ _ _ _ _ (by omega)
 have hUS:(Builtin.unsafeString_ #[108,3] 9 #[.pointer (some ⟨g,0,none⟩),.int .i64 l.length]).run Tryz.prog w.drew = .ok (.string ⟨l.toArray⟩) (w.drew.freeze ⟨g,0,none⟩ l.length):=by
  refine Lib.run_unsafeString_row w.drew 108 3 9 5 Tryz.underlying108 (by kernel_rfl) g cur.size (by simp [World.shape?,hgd]) l h0 (by omega) (by unfold maxLen at hcm;omega) ?_
  intro j x hx
  exact hown.cells (g:=g) rfl j (.int .u8 x.toNat) (by simp [Lib.byteCells,hx])
 have mixed:Tryz.prog.follows .mixedOrders=true:=by kernel_rfl
 go_enter Tryz.func27,Tryz.ntmps27
 go_wp2
 go_region
 all_goals (go_wp2;go_ret;exact⟨rfl,Lib.below_freeze (Below.drew (Below.refl B w)) (p:=⟨g,0,none⟩) hbg _⟩)
theorem qO (B b:Nat) (l:List UInt8) (w:World) (h:Pg B b l w) (h0:l≠[]) :
  Calls Tryz.prog 27 #[.pointer (some ⟨b,0,none⟩)] w λ e w'=>e = .returned (.string ⟨l.toArray⟩)/\Below B w w':=by
 rcases h with h | h
 ·exact Zj B b _ l w h h0
 ·exact Zj B b _ l w h h0
end Go.Proofs.YtaplakgdkkmpfaaGreatDoor
