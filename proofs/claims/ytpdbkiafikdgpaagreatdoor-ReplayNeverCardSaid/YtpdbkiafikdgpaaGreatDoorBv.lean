import Derived.Test.YtpdbkiafikdgpaaGreatDoorBu
import Derived.Test.YtpdbkiafikdgpaaGreatDoorIt
import Derived.Test.YtpdbkiafikdgpaaGreatDoorTx
import Derived.Deep.RegionWith
set_option linter.unusedVariables false
set_option linter.unusedSimpArgs false
namespace Go.Proofs.YtpdbkiafikdgpaaGreatDoor
open Go Go.RowKit Go.Proofs Go.Sort Go.SL
theorem jJ (w:World) (k:Nat):(w.drewN k).heap=w.heap:=rfl
theorem L4 (w:World) (k:Nat) (os:Array Obj):w.grownBy (grow (w.drewN k) os) none:=
 ⟨rfl,rfl,rfl,by simp [grow,jJ],λ j hj _=>by
  show ((w.drewN k).heap++os)[j]? = _
  rw [jJ,Array.getElem?_append_left hj]⟩
theorem Alx {B b:Nat} {l:List UInt8} {w:World} (h:Pg B b l w) (k:Nat) (os:Array Obj):Pg B b l (grow (w.drewN k) os):=by
 have key:∀ p,J5 B b p l w->J5 B b p l (grow (w.drewN k) os):=by
  rintro p ⟨hB,v,hbk,hown,hne⟩
  refine⟨hB,v,?_,hown.kept (L4 w k os) ?_,hne⟩
  ·rw [(L4 w k os).block b (aY.1 hbk).1 (by simp)]
   exact hbk
  ·cases hq:v.ownBlock with
   | none=>exact .inl rfl
   | some g=>exact .inr (by simp)
 exact h.imp (key _) (key _)
theorem Ami {B:Nat} {w:World} (h:B<=w.heap.size) (k:Nat) (os:Array Obj):Below B w (grow (w.drewN k) os):=(Below.refl B w).grown (L4 w k os) h (λ j hj=>by cases hj)
theorem Alz {b:Option Nat} {w:World} (k:Nat) (os:Array Obj):Lib.OthersKept 5 b w (grow (w.drewN k) os):=(Lib.OthersKept.refl _ _ w).grown (L4 w k os) (λ j hj=>by cases hj)
set_option maxHeartbeats 4000000 in
set_option maxRecDepth 100000 in
theorem Azk (B b:Nat) (l:List UInt8) (ns:List Int) (ao:Option Addr) (cap:Nat) (w:World) (h:Pg B b l w) (hr:∀ x,x∈ns -> -9223372036854775808<=x/\x<=9223372036854775807)
  (hlen:l.length+(Dn ns).length+2<=140737488355328) (hn:ns.length<=cap) (hm:cap<=maxLen) (hBw:B<=w.heap.size)
  (htab : ∀ w', Below B w w' -> Lib.TabIs Tryz.prog w' "internal/strconv.uint64pow10" .u64 Lib.pow10Tab)
  (hc:∀ w',Below B w w'->Lib.OthersKept 5 (some b) w w'->∀ (i:Nat) x,ns[i]? = some x->∃ ab o,ao=some ⟨ab,o,none⟩/\w'.cell? ⟨ab,o+i,none⟩=some (.int .i64 x)) :
  Calls Tryz.prog 39 #[.pointer (some ⟨b,0,none⟩),.slice ao ns.length cap] w λ e w'=>e = .returned (.tuple #[])/\J5 B b (.pointer (some ⟨b,0,none⟩)) (l++Cy ns) w'/\Below B w w'/\Lib.OthersKept 5 (some b) w w':=by
 have mixed:Tryz.prog.follows .mixedOrders=true:=by kernel_rfl
 have hm63:ns.length<=9223372036854775807:=by unfold maxLen at hm;omega
 go_enter Tryz.func39,Tryz.ntmps39
 go_wp2
 go_loopw [8] (λ i wr=>∃ k:Nat,k<=ns.length/\i = .int .i64 k/\Pg B b (l++Dn (ns.take k)) wr/\Below B w wr/\Lib.OthersKept 5 (some b) w wr) (λ i _=>ns.length-(intOf i).toNat)
 case atStart=>exact⟨0,by omega,rfl,by simpa [Dn] using h,Below.refl _ _,Lib.OthersKept.refl _ _ _⟩
 case round=>
  obtain⟨k,hk,rfl,hI,hb,hok⟩:=hrel
  have hjl:=Aga ns k
  have hsz:=hb.size
  by_cases hkl:k<ns.length
  ·obtain⟨x,hx⟩:∃ x,ns[k]? = some x:=⟨_,ag hkl⟩
   obtain⟨ab,o,rfl,hcell⟩:=hc wr hb hok k _ hx
   obtain⟨h0,h1⟩:=hr _ (af hx)
   have hjt:=Aof hx
   have hjl2:=Aga ns (k+1)
   rw [hjt] at hjl2
   simp only [aA] at hjl2
   have hll:(l++Dn (ns.take k)).length+1+(Lib.itoa x).length<=140737488355328:=by
    simp only [aA]
    by_cases hk0:k=0
    ·rw [if_pos hk0] at hjl2
     simp only [bg] at hjl2
     omega
    ·rw [if_neg hk0] at hjl2
     simp only [aP,bg] at hjl2
     omega
   by_cases hk0:k=0
   ·subst hk0
    have hcell0:wr.cell? ⟨ab,o,none⟩=some (.int .i64 x):=by simpa using hcell
    clear hcell
    have hpg:∀ kk os,Pg B b (l++Dn (ns.take 0)) (grow (wr.drewN kk) os):=λ kk os=>Alx hI kk os
    have hsz2:∀ kk os,B<=(grow (wr.drewN kk) os).heap.size:=λ kk os=>by have:=(L4 wr kk os).size;omega
    have hl0:(l++Dn (ns.take 0)).length+(Lib.itoa x).length<=140737488355328:=by omega
    go_wp2
    go_region_with (first | (go_at_call 58;refine (Tryz.strconv_Itoa x h0 h1 _ (htab _ hb.drew)).mono ?_;rintro e W1 ⟨rfl,kk,os,rfl⟩) | (go_at_call 57;refine (Azc B b _ (Lib.itoa x) _ (hpg _ _) hl0 (hsz2 _ _)).mono ?_;rintro e W2 ⟨rfl,h2,b2,k2⟩))
    go_wp2
    go_roundw
    case rel=>
     refine⟨1,by omega,rfl,.inr ?_,(hb.trans (Ami (by omega) _ _)).trans b2,(hok.trans (Alz _ _)).trans k2⟩
     rw [aD] at h2
     rw [hjt]
     simpa using h2
    case measure=>simp only [RowKit.intOf];omega
   ·have hkn:0<k:=by omega
    go_wp2_with (go_at_call 56;refine (Aze B b _ 32 wr hI (by omega) (by omega)).mono ?_)
    rintro e W1 ⟨rfl,h3,b3,k3⟩
    have hs3:=b3.size
    have hpg:∀ kk os,Pg B b (l++Dn (ns.take k)++[32]) (grow (W1.drewN kk) os):=λ kk os=>Alx (.inr h3) kk os
    have hsz2:∀ kk os,B<=(grow (W1.drewN kk) os).heap.size:=λ kk os=>by have:=(L4 W1 kk os).size;omega
    have hl0:(l++Dn (ns.take k)++[32]).length+(Lib.itoa x).length<=140737488355328:=by simp only [aA,aP,bg] at hll ⊢;omega
    have hb3:=hb.trans b3
    go_wp2
    go_region_with (first | (go_at_call 58;refine (Tryz.strconv_Itoa x h0 h1 _ (htab _ hb3.drew)).mono ?_;rintro e W4 ⟨rfl,kk,os,rfl⟩) | (go_at_call 57;refine (Azc B b _ (Lib.itoa x) _ (hpg _ _) hl0 (hsz2 _ _)).mono ?_;rintro e W2 ⟨rfl,h2,b2,k2⟩))
    go_wp2
    go_roundw
    case rel=>
     refine⟨k+1,by omega,rfl,.inr ?_,(hb3.trans (Ami (by omega) _ _)).trans b2,((hok.trans k3).trans (Alz _ _)).trans k2⟩
     rw [aD,aD] at h2
     rw [hjt,if_neg hk0]
     exact h2
    case measure=>simp only [RowKit.intOf];omega
  ·go_wp2_with (go_at_call 56;refine (Aze B b _ 10 wr hI (by simp;omega) (by omega)).mono ?_)
   rintro e W1 ⟨rfl,h1,b1,k1⟩
   go_wp2
   go_end0
   have e:ns.take k=ns:=bv (by omega)
   rw [e,aD] at h1
   exact⟨rfl,h1,hb.trans b1,hok.trans k1⟩
end Go.Proofs.YtpdbkiafikdgpaaGreatDoor
