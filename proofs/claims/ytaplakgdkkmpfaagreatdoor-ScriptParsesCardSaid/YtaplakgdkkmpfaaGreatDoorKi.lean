import Derived.Maps.OwnOps
import Derived.Test.YtaplakgdkkmpfaaGreatDoorCa
set_option linter.unusedVariables false
set_option linter.unusedSimpArgs false
namespace Go.Proofs.YtaplakgdkkmpfaaGreatDoor
open Go Go.RowKit Go.Shelf Go.SL Go.Maps Go.WideMaps
def kw:List (List UInt8):=[[97,99,116],[98,114,101,97,107],[109,101,110,100],[119,101,97,116,104,101,114],[102,105,120],[114,101,113,117,101,115,116],[115,101,101,110],[116,105,99,107]]
def N5 (k:Nat):ByteArray:=⟨(kw.getD k []).toArray⟩
def E7:Nat->DataW Unit
 | 0=>.map []
 | k+1=>(E7 k).put (.string (N5 k).data.toList) (.lit (.int .i64 ((k:Int)+1)))
theorem qZ:Keyed Tryz.prog 9:=string_keyed Tryz.underlying9
theorem Mi (w:World) (cs:Array Value) (t:TypeId) (j:Nat):(w.alloc (.cells cs t)).cell? ⟨w.heap.size,j,none⟩=cs[j]?:=by
 unfold World.cell?
 simp only [World.alloc_heap_new]
 rfl
theorem Oz {H:Type} {P:Program} {k:TypeId} {R:Value->Option (DataW H×List MemPlace)} {b n:Nat} {D:DataW H} {w w':World} (h:w.ownsMap P k R b n D) (e:w'.heap[b]? = w.heap[b]?):w'.ownsMap P k R b n D:=by
 obtain⟨es,clock,hb,F⟩:=h
 exact⟨es,clock,e.trans hb,F⟩
theorem vG (w:World) (a b c:Value) (t:TypeId) (f:FuncId):(store ⟨w.heap.size,2,none⟩ (.func (.func f) #[] #[])).run Tryz.prog (w.alloc (.cells #[a,b,c] t)) = .ok () (w.alloc (.cells #[a,b,.func (.func f) #[] #[]] t)):=by
 rw [run_store _ _ _ _ _ rfl]
 simp [go_sem]
theorem jC:∀ k,k<8->(N5 k).size<=maxLen
 | 0,_ | 1,_ | 2,_ | 3,_ | 4,_ | 5,_ | 6,_ | 7,_=>by decide
 | k+8,h=>by omega
set_option maxRecDepth 100000 in
theorem jI (w:World):Calls Tryz.prog 44 #[] w λ e w'=>e = .returned (.slice (some ⟨w.heap.size,0,none⟩) 8 8)/\Below w.heap.size w w'/\w'.heap.size=w.heap.size+1 /\
  ∀ k,k<8->w'.cell? ⟨w.heap.size,k*3,none⟩=some (.string (N5 k))/\∃ x y,w'.cell? ⟨w.heap.size,k*3+1,none⟩=some (.int .i64 x)/\w'.cell? ⟨w.heap.size,k*3+2,none⟩=some (.func (.func y) #[] #[]):=by
 go_enter Tryz.func44,Tryz.ntmps44
 go_wp2
 go_ret
 refine⟨rfl,(Below.refl _ _).alloc (ae _) _,by simp,λ k hk=>?_⟩
 match k,hk with
 | 0,_ | 1,_ | 2,_ | 3,_ | 4,_ | 5,_ | 6,_ | 7,_=>exact⟨(Mi w _ _ _).trans rfl,_,_,(Mi w _ _ _).trans rfl,(Mi w _ _ _).trans rfl⟩
 | k+8,h=>omega
set_option maxRecDepth 100000 in
theorem jD (w:World):Calls Tryz.prog 35 #[] w λ e w'=>e = .returned (.map (some w.heap.size))/\w'.ownsMap Tryz.prog 9 (plainElem Tryz.prog 3) w.heap.size 8 (E7 8)/\Below w.heap.size w w':=by
 have hmm:=@run_makeMap Tryz.prog
 go_enter Tryz.func35,Tryz.ntmps35
 go_wp2_with (go_at_call 44;refine (jI _).mono ?_;rintro e w1 ⟨rfl,hb1,hs1,hc⟩)
 rw [World.size_alloc] at hb1 hs1 hc
 have hm0:w1.ownsMap Tryz.prog 9 (plainElem Tryz.prog 3) w.heap.size 0 (E7 0):=Oz (World.ownsMap_made _ _ _ _) (hb1.block _ (by omega))
 have hB1:Below w.heap.size w w1:=((Below.refl w.heap.size w).alloc (ae _) _).trans (hb1.mono (by omega))
 clear hb1
 go_loopw [7] (λ i wr=>∃ k:Nat,k<=8/\i = .int .i64 k/\wr.ownsMap Tryz.prog 9 (plainElem Tryz.prog 3) w.heap.size k (E7 k)/\Below w.heap.size w wr/\wr.heap[w.heap.size+1]? = w1.heap[w.heap.size+1]? /\ w.heap.size+2<=wr.heap.size) (λ i _=>8-(intOf i).toNat)
 case atStart=>exact⟨0,by omega,rfl,hm0,hB1,rfl,by omega⟩
 case round=>
  obtain⟨k,hk,rfl,hown,hnx,hfb,hsz⟩:=hrel
  by_cases hlt:k<8
  ·obtain⟨c0,x,y,c1,c2⟩:=hc k hlt
   have d0:wr.cell? ⟨w.heap.size+1,k*3,none⟩=some (.string (N5 k)):=(World.cell?_of_block (a:=⟨w.heap.size+1,k*3,none⟩) hfb).trans c0
   have d1:wr.cell? ⟨w.heap.size+1,k*3+1,none⟩=some (.int .i64 x):=(World.cell?_of_block (a:=⟨w.heap.size+1,k*3+1,none⟩) hfb).trans c1
   have d2:wr.cell? ⟨w.heap.size+1,k*3+2,none⟩=some (.func (.func y) #[] #[]):=(World.cell?_of_block (a:=⟨w.heap.size+1,k*3+2,none⟩) hfb).trans c2
   have hkey:keyOf Tryz.prog 9 (.string (N5 k))=some (.string (N5 k).data.toList):=keyOf_string_mk Tryz.underlying9 (jC k hlt)
   have HF:=Lib.hid hfb
   clear hc c0 c1 c2 hm0 hB1 hfb
   have hst:=vG
   go_wp2_with (first
    | (at_mapUpdate;refine wpList_mapUpdate_own _ rfl _ _ _ 100 rfl 9 3 qZ Tryz.underlying100 _ w.heap.size k _ rfl (hown.alloc _) (by unfold maxLen;omega) _ _ _ rfl rfl hkey _ [] (plainElem_int Tryz.underlying3 (WalkArith.wf_i64 (by omega))) ?_)
    | go_in)
   intro w3 hown3 hgrow3
   have hb3:wr.grownBy w3 (some w.heap.size):=(World.grownBy_alloc wr _ _).trans hgrow3
   have R1:w3.ownsMap Tryz.prog 9 (plainElem Tryz.prog 3) w.heap.size (k+1) (E7 (k+1)):=hown3
   have R2:=hnx.grown hb3 (by omega) (λ j hj=>by cases hj;exact ae _)
   have R3:w3.heap[w.heap.size+1]? = w1.heap[w.heap.size+1]?:=(hb3.block _ (by omega) (by simp)).trans HF.out
   have R4:=hb3.size
   clear hown3 hgrow3 hown hb3 hst
   go_wp2
   go_roundw
   case rel=>exact⟨k+1,by omega,by go_num,R1,R2,R3,by omega⟩
   case measure=>simp [intOf];omega
  ·obtain rfl:k=8:=by omega
   go_wp2
   go_ret
   exact⟨rfl,hown,hnx⟩
end Go.Proofs.YtaplakgdkkmpfaaGreatDoor
