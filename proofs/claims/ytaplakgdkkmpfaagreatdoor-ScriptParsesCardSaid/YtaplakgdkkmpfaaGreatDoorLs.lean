import Derived.RangeFuncBox
import Derived.RangeFuncLeaves
import Derived.Shelf.Abstract
import Derived.Shelf.RegionOpen
import Derived.WalkKit
import Derived.OwnWalkIn
import Derived.TacticsInMore
import Derived.LoopNIn
import Derived.LoopIn
import Derived.Lib.Hide
import Derived.Test.YtaplakgdkkmpfaaGreatDoorIt
import Derived.Test.YtaplakgdkkmpfaaGreatDoorSx
set_option linter.unusedVariables false
set_option linter.unusedSimpArgs false
namespace Go.Proofs.YtaplakgdkkmpfaaGreatDoor
open Go Go.RowKit Go.Shelf Go.SL
attribute [local go_sem] Oper.semAt_some
def Ud (bx:Nat) (w:World):Nat:=match w.cell? ⟨bx,0,none⟩ with
 | some (.string s)=>s.size
 | _=>0
theorem jK (w:World):w.grownBy w.drew none:=⟨rfl,rfl,rfl,ae _,λ _ _ _=>rfl⟩
theorem jS (s:ByteArray) (k:Nat):(s.extract 0 k).data.toList=s.data.toList.take k:=by simp
theorem jT (s:ByteArray) (k:Nat):(s.extract k s.size).data.toList=s.data.toList.drop k:=by
 simp only [ByteArray.data_extract,Array.toList_extract]
 rw [List.extract_eq_take_drop]
 exact bF (by rw [bi,bo];exact ae _)
theorem ten:(10:Int).toNat.toUInt8=10:=by decide
theorem Iy {bx:Nat} {w:World} {s:ByteArray} (h:w.heap[bx]? = some (.cells #[.string s] 9 (0,0))):Ud bx w=s.size:=by simp [Ud,World.cell?,h]
set_option maxRecDepth 100000 in
set_option maxHeartbeats 2000000 in
theorem Yq (l bx N:Nat) (J:List (List UInt8)->ByteArray->World->Prop)
  (hc:∀ pre s W,J pre s W->W.heap[bx]? = some (.cells #[.string s] 9 (0,0)))
  (hst:∀ pre s s' W,J pre s W->J pre s' (W.setCell ⟨bx,0,none⟩ (.string s')))
  (hgr:∀ pre s W W',J pre s W->W.grownBy W' none->J pre s W')
  (hY:∀ pre s (x:ByteArray) W,J pre s W->pre.length<N->YieldAt Fence.wide 1 Tryz.prog l #[.string x] W λ e W'=>e = .returned (.bool true)/\J (pre++[x.data.toList]) s W')
  (s:ByteArray) (hN:(Aq s.data.toList).length<=N) (hs:s.size<=9223372036854775806) (W:World) (h0:J [] s W) :
  CallsIn Fence.wide 2 Tryz.prog 46 #[.func (.yield l) #[] #[],.pointer (some ⟨bx,0,none⟩)] W λ e W'=>(∃ v,e = .returned v)/\∃ s',J (Aq s.data.toList) s' W':=by
 refine callsIn_of_wp Tryz.func46 rfl trivial ?_ rfl
 simp only [Tryz.ntmps46,bh,ap,aZ,Nat.reduceAdd,Nat.reduceSub,Array.replicate_succ,Array.replicate_zero,List.push_toArray,List.append_toArray,bG,bq]
 gi_wp2
 gi_loopw [3] (λ _ wr=>∃ pre s',Aq s.data.toList=pre++Aq s'.data.toList/\s'.size<=s.size/\J pre s' wr) (λ _ wr=>Ud bx wr)
 case atStart=>exact⟨[],s,rfl,ae _,h0⟩
 case round =>
  obtain⟨pre,s',hl,hss,hJ⟩:=hrel
  have hbk:=hc _ _ _ hJ
  have hcell:wr.cell? ⟨bx,0,none⟩=some (.string s'):=by simp [World.cell?,hbk]
  have hfz:wr.frozen? ⟨bx,0,none⟩=false:=by simp [World.frozen?,hbk]
  have hlt:bx<wr.heap.size:=(aI.1 hbk).1
  clear hbk
  by_cases he:s'.size=0
  ·have e0:s'=ByteArray.empty:=by
    obtain⟨⟨l⟩⟩:=s'
    cases l with
    | nil=>rfl
    | cons a b=>simp [ByteArray.size] at he
   subst e0
   gi_wp2
   go_end0
   exact⟨⟨_,rfl⟩,ByteArray.empty,by rw [hl,show Aq ByteArray.empty.data.toList=[] from rfl,List.append_nil];exact hJ⟩
  ·have hne:s'.data.toList≠[]:=λ h=>he (by simp [ByteArray.size,←Array.length_toList,h])
   have hge:=Lib.indexByte_ge s'.data.toList 10
   by_cases hi:Lib.indexByte s'.data.toList 10 = -1
   ·have h1:=Ln _ hne hi
    rw [h1] at hl
    obtain⟨fn,tmps,assign,body,hy,hR⟩:=hY pre (ByteArray.mk #[]) s' _ (hst _ _ (ByteArray.mk #[]) _ hJ) (by have:=congrArg List.length hl;simp at this;omega)
    gi_wp2_with (first | (refine⟨trivial,?_⟩;gi_at_call 47;refine (callsIn_wide.2 (Tryz.strings_IndexByte s' 10 _)).mono ?_;rintro e w1 ⟨rfl,rfl⟩) | fail)
    refine hR.mono ?_
    rintro e W3 ⟨rfl,hJ3⟩
    gi_wp2
    go_roundw
    case rel=>exact⟨_,_,hl.trans (List.append_nil _).symm,ba _,hJ3⟩
    case measure=>
     rw [Iy (hc _ _ _ hJ3),Iy (hc _ _ _ hJ)]
     show 0<s'.size
     omega
   ·obtain⟨k,hk⟩:∃ k:Nat,Lib.indexByte s'.data.toList 10=k:=⟨(Lib.indexByte s'.data.toList 10).toNat,by omega⟩
    obtain⟨hkl,h1⟩:=Lm _ k hk
    have hsl:s'.data.toList.length=s'.size:=bo
    rw [hsl] at hkl
    rw [h1] at hl
    have hk63:(k:Int)+1<=9223372036854775807:=by omega
    obtain⟨fn,tmps,assign,body,hy,hR⟩:=hY pre (s'.extract (k+1) s'.size) (s'.extract 0 (k+1)) _ (hgr _ _ _ _ (hst _ _ _ _ hJ) (jK _)) (by have:=congrArg List.length hl;simp at this;omega)
    have HK:=Lib.hid hk
    clear hi hge hne h1 hk63
    gi_wp2_with (first | (refine⟨trivial,?_⟩;gi_at_call 47;refine (callsIn_wide.2 (Tryz.strings_IndexByte s' 10 _)).mono ?_;rintro e w1 ⟨rfl,rfl⟩;rw [ten,HK.out]) | fail)
    gi_region
    gi_wp2
    refine hR.mono ?_
    rintro e W3 ⟨rfl,hJ3⟩
    gi_wp2
    go_roundw
    case rel=>
     refine⟨_,_,?_,?_,hJ3⟩
     ·rw [hl]
      simp only [aY,List.singleton_append]
      rw [←jS,←jT]
     ·rw [ByteArray.size_extract]
      omega
    case measure=>
     rw [Iy (hc _ _ _ hJ3),Iy (hc _ _ _ hJ),ByteArray.size_extract]
     omega
end Go.Proofs.YtaplakgdkkmpfaaGreatDoor
