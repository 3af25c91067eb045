import Derived.Shelf.SlIter.Collect
import Derived.Test.YtaplakgdkkmpfaaGreatDoorLs
set_option linter.unusedVariables false
set_option linter.unusedSimpArgs false
namespace Go.Proofs.YtaplakgdkkmpfaaGreatDoor
open Go Go.RowKit Go.Shelf Go.SL
attribute [local go_sem] Oper.semAt_some
def rn:Ren:=⟨fun | 11=>45 | 8=>33 | n=>n,fun | 24=>46 | 26=>9 | 28=>98 | 33=>114 | n=>n,λ n=>n⟩
theorem vJ:SlLaysZ.n11 Tryz.prog rn:={
 mixed:=by kernel_rfl
 f11 := ⟨"slices.AppendSeq[[]string,string]", by kernel_rfl, Tryz.func45.trans (congrArg some (by kernel_rfl))⟩
 t0:=Tryz.underlying0
 a0:=Tryz.isAgg0
 z0:=Tryz.sizeOf0
 v0:=Tryz.zeroValue0
 t24:=Tryz.underlying46
 a24:=Tryz.isAgg46
 z24:=Tryz.sizeOf46
 v24:=Tryz.zeroValue46
 t26:=Tryz.underlying9
 a26:=Tryz.isAgg9
 z26:=Tryz.sizeOf9
 v26:=Tryz.zeroValue9
 t28:=Tryz.underlying98
 a28:=Tryz.isAgg98
 z28:=Tryz.sizeOf98
 v28:=Tryz.zeroValue98
 i26:=by kernel_rfl}
abbrev put (w:World) (bx:Nat) (s:ByteArray):World:=w.setCell ⟨bx,0,none⟩ (.string s)
theorem Br (w:World) (bx:Nat) (s:ByteArray):(put w bx s).heap.size=w.heap.size:=by simp [put]
theorem De (w:World) (bx:Nat) (s:ByteArray) {k:Nat} (h:k≠bx):(put w bx s).heap[k]? = w.heap[k]?:=Below.heap_setCell w ⟨bx,0,none⟩ _ k h
theorem Gc (w:World) {bx:Nat} {x:Value} (s:ByteArray) (h:w.heap[bx]? = some (.cells #[x] 9 (0,0))):(put w bx s).heap[bx]? = some (.cells #[.string s] 9 (0,0)):=heap_setCell_box_a _ h
theorem Xi {n bx:Nat} {w W:World} {s:ByteArray} (s':ByteArray) (hs:w.heap[bx]? = some (.cells #[.string s] 9 (0,0))) (x:ByteArray) (hn:n=w.heap.size) (h:Below n (put w bx x) W):Below n (put w bx s') (put W bx s'):=by
 subst hn
 have hlt:bx<w.heap.size:=(aI.1 hs).1
 refine⟨h.os,h.tape,h.output,by rw [Br,Br];have:=h.size;rwa [Br] at this,λ k hk=>?_⟩
 by_cases e:k=bx
 ·subst e
  rw [Gc w s' hs,Gc W s' ((h.block k hk).trans (Gc w x hs))]
 ·rw [De _ _ _ e,De _ _ _ e,h.block k hk,De _ _ _ e]
set_option maxRecDepth 100000 in
set_option maxHeartbeats 2000000 in
theorem Ta (w:World) (bx:Nat) (s:ByteArray) (hbx:w.heap[bx]? = some (.cells #[.string s] 9 (0,0))) (hs:s.size<=9223372036854775806) (hN:(Aq s.data.toList).length<=1000000) :
  CallsIn Fence.wide 3 Tryz.prog 45 #[.slice none 0 0,.func (.func 46) #[] #[.pointer (some ⟨bx,0,none⟩)]] w λ e w'=>∃ (v:Value) (s':ByteArray),e = .returned v/\w'.ownsRow w.heap.size 9 1 v (Aq s.data.toList).length ((Aq s.data.toList).map encStr)/\Below w.heap.size (put w bx s') w':=by
 have hlt:bx<w.heap.size:=(aI.1 hbx).1
 refine callsIn_of_wp_marks Tryz.func45 rfl trivial ?_ rfl
 simp only [Tryz.ntmps45,bh,ap,aZ,Nat.reduceAdd,Nat.reduceSub,Array.replicate_succ,Array.replicate_zero,List.push_toArray,List.append_toArray,bG,bq]
 gi_wp2
 refine wpIn_rangeFunc λ fn _=>?_
 obtain⟨sv,hsv⟩:∃ sv:Value,sv = .func (.func 46) #[] #[.pointer (some ⟨bx,0,none⟩)]:=⟨_,rfl⟩
 obtain⟨A,hA⟩:∃ A,w.alloc (.cells #[.slice none 0 0] 46)=A:=⟨_,rfl⟩
 have sA:A.heap.size=w.heap.size+1:=by rw [←hA];simp
 have bA:Below w.heap.size w A:=by rw [←hA];exact (Below.refl _ w).alloc (ae _) _
 have nA:A.heap[w.heap.size]? = some (.cells #[.slice none 0 0] 46 (0,0)):=by rw [←hA];exact World.alloc_heap_new w _
 rw [hA]
 obtain⟨B,hB⟩:∃ B,(A.alloc (.deferred (some []))).alloc (.loop (AnyZ.apRec rn fn sv w.heap.size A.heap.size .ready none))=B:=⟨_,rfl⟩
 have oB:∀ k,k<A.heap.size->B.heap[k]? = A.heap[k]?:=λ k hk=>by
  rw [←hB];exact (Below.heap_alloc _ _ k (by simp;omega)).trans (Below.heap_alloc _ _ k hk)
 have bB:Below w.heap.size w B:=by rw [←hB];exact (bA.alloc bA.size _).alloc (by have:=bA.size;simp;omega) _
 have sB:B.heap.size=A.heap.size+2:=by rw [←hB];simp
 have lB:B.heap[A.heap.size+1]? = some (.loop (AnyZ.apRec rn fn sv w.heap.size A.heap.size .ready none)):=by
  rw [←hB]
  have:=World.alloc_heap_new (A.alloc (.deferred (some []))) (.loop (AnyZ.apRec rn fn sv w.heap.size A.heap.size .ready none))
  rwa [World.size_alloc] at this
 have dB:B.heap[A.heap.size]? = some (.deferred (some [])):=by rw [←hB];exact (Below.heap_alloc _ _ _ (by simp)).trans (World.alloc_heap_new A _)
 have put_id:Below w.heap.size (put w bx s) B:=⟨bB.os,bB.tape,bB.output,by rw [Br];exact bB.size,λ k hk=>by
  by_cases e:k=bx
  ·subst e;rw [Gc w s hbx,bB.block k hk,hbx]
  ·rw [De _ _ _ e,bB.block k hk]⟩
 refine⟨A.heap.size+1,[{target:=.collected A.heap.size,args:=#[]}],B,{target:=.fn (.func 46) #[.pointer (some ⟨bx,0,none⟩)],args:=#[.func (.yield (A.heap.size+1)) #[] #[]]},B,46,
  #[.func (.yield (A.heap.size+1)) #[] #[]] ++ #[.pointer (some ⟨bx,0,none⟩)],B,?_,?_,λ _ _=>trivial,?_,λ _=>by decide,?_⟩
 ·rw [←hB,hsv];exact run_enterLoop_outer _ _ _ _ _
 ·simp [resolve,go_sem]
 ·simp [invoke,go_sem,enters_of Tryz.func46 (by kernel_rfl) rfl]
 ·refine (Yq (A.heap.size+1) bx 1000000 (λ pre x W=>AnyZ.ApAt rn (put w bx x) fn sv w.heap.size (A.heap.size+1) A.heap.size pre W) ?_ ?_ ?_ ?_ s hN hs B ?_).mono ?_
  ·intro pre x W h
   exact (h.below.block bx (by rw [Br];exact hlt)).trans (Gc w x hbx)
  ·intro pre x y W h
   have hW:=(h.below.block bx (by rw [Br];exact hlt)).trans (Gc w x hbx)
   obtain⟨v,hv,hr,hn⟩:=h.box
   have hg:W.grownBy (put W bx y) (some bx):=grownBy_setCell0_a _ _ _
   refine⟨⟨v,(De _ _ _ (by omega)).trans hv,?_,hn⟩,(De _ _ _ (by omega)).trans h.L,(De _ _ _ (by omega)).trans h.K,?_⟩
   ·rw [Br] at hr ⊢
    refine hr.kept hg ?_
    cases hq:v.ownBlock with
    | none=>exact .inl rfl
    | some g=>exact .inr (λ e=>by have:=(hr.lt g hq).1;cases e;omega)
   ·have:=h.below
    rw [Br] at this ⊢
    exact Xi y hbx x rfl this
  ·intro pre x W W' h hg
   exact AnyZ.ap_abides rn _ fn sv _ _ _ _ (ae _) pre W W' none h hg (λ r e=>by cases e)
  ·intro pre x y W h hl
   obtain⟨f,t,a,b,q1,q2⟩:=AnyZ.apYield vJ Fence.wide 1 (put w bx x) fn trivial sv w.heap.size (A.heap.size+1) A.heap.size (by omega) (by omega) (by omega) (by rw [Br];exact ae _) (by rw [Br];omega) 1000000 (by decide) (by decide) pre y.data.toList W h hl
   exact⟨f,t,a,b,q1,q2.mono λ e W' ⟨r1,r2,_⟩=>⟨r1,r2⟩⟩
  ·refine⟨⟨_,(oB _ (by omega)).trans nA,⟨rfl,.inl ⟨rfl,rfl⟩⟩,by simp⟩,lB,dB,?_⟩
   rw [Br];exact put_id
  ·rintro e W2 ⟨⟨v0,rfl⟩,s',h2⟩
   obtain⟨v,hv,hrow,hnil⟩:=h2.box
   have hend:=run_endLoop (P:=Tryz.prog) h2.L (by simp [AnyZ.apRec])
   obtain⟨W3,hW3⟩:∃ W3,W2.putObj (A.heap.size+1) (.loop {AnyZ.apRec rn fn sv w.heap.size A.heap.size .ready none with state:=.exhausted})=W3:=⟨_,rfl⟩
   rw [hW3] at hend
   have hg3:W2.grownBy W3 (some (A.heap.size+1)):=by rw [←hW3];exact grownBy_putObj_a _ _ _
   have hv3:W3.heap[w.heap.size]? = some (.cells #[v] 46 (0,0)):=by rw [←hW3];exact (World.putObj_heap_other (by omega)).trans hv
   have hK3:W3.heap[A.heap.size]? = some (.deferred (some [])):=by rw [←hW3];exact (World.putObj_heap_other (by omega)).trans h2.K
   rw [Br] at hrow
   have hne:(46:Nat)≠9:=by decide
   have hrow3:=hrow.kept hg3 (ownsRow_ne_a hrow h2.L (λ cur e=>by cases e))
   have hb2:=h2.below
   rw [Br] at hb2
   have hb3:Below w.heap.size (put w bx s') W3:=hb2.grown hg3 (by have:=hb2.size;rwa [Br] at this) (λ k e=>by cases e;omega)
   obtain⟨hc3,hf3⟩:=cell_of_box_a hv3
   clear hW3
   refine⟨none,W3,hend,?_⟩
   gi_wp2
   rw [←sA]
   refine⟨by simp,.inl ⟨_,_,rfl,run_takeDeferred hK3,?_⟩⟩
   refine⟨_,results_tmp rfl _ _ _,v,s',rfl,hrow3.kept (grownBy_putObj_a _ _ _) (ownsRow_ne_a hrow3 hK3 (λ cur e=>by cases e)),hb3.grown (grownBy_putObj_a _ _ _) (by have:=hb3.size;rwa [Br] at this) (λ k e=>by cases e;omega)⟩
set_option maxRecDepth 100000 in
set_option maxHeartbeats 1000000 in
theorem Rt (w:World) (bx:Nat) (s:ByteArray) (hbx:w.heap[bx]? = some (.cells #[.string s] 9 (0,0))) (hs:s.size<=9223372036854775806) (hN:(Aq s.data.toList).length<=1000000) :
  Calls Tryz.prog 33 #[.func (.func 46) #[] #[.pointer (some ⟨bx,0,none⟩)]] w λ e w'=>∃ (v:Value) (s':ByteArray),e = .returned v/\w'.ownsRow w.heap.size 9 1 v (Aq s.data.toList).length ((Aq s.data.toList).map encStr)/\Below w.heap.size (put w bx s') w':=by
 refine (callsIn_wide (n:=4)).1 ?_
 refine callsIn_of_wp Tryz.func33 rfl trivial ?_ rfl
 simp only [Tryz.ntmps33,bh,ap,aZ,Nat.reduceAdd,Nat.reduceSub,Array.replicate_succ,Array.replicate_zero,List.push_toArray,List.append_toArray,bG,bq]
 gi_wp2_with (first | (refine⟨trivial,?_⟩;gi_at_call 45;refine (Ta _ bx s hbx hs hN).mono ?_;rintro e w' ⟨v,s',rfl,hr,hb⟩) | fail)
 go_ret
 exact⟨v,s',rfl,hr,hb⟩
set_option maxRecDepth 100000 in
theorem jB (w:World) (s:ByteArray):Calls Tryz.prog 34 #[.string s] w λ e w'=>e = .returned (.func (.func 46) #[] #[.pointer (some ⟨w.heap.size,0,none⟩)])/\w'=w.alloc (.cells #[.string s] 9):=by
 go_enter Tryz.func34,Tryz.ntmps34
 go_wp2
 go_ret
 exact⟨rfl,rfl⟩
end Go.Proofs.YtaplakgdkkmpfaaGreatDoor
