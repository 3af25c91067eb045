import Derived.Laws.MakeOwn
import Derived.Laws.OwnMore
import Derived.Test.YtpdbkiafikdgpaaGreatDoorBv
import Derived.Test.YtpdbkiafikdgpaaGreatDoorTr
set_option linter.unusedVariables false
set_option linter.unusedSimpArgs false
namespace Go.Proofs.YtpdbkiafikdgpaaGreatDoor
open Go Go.RowKit Go.Proofs Go.Sort Go.SL
theorem Xn {l:List (List Int)} {k:Nat} {r:List Int} (h:l[k]? = some r) (pre post:List (List Int)):pre++l++post=(pre++l.take k)++[r]++(l.drop (k+1)++post):=by
 have e:l=l.take k++([r]++l.drop (k+1)):=by
  have e2:l.take (k+1)=l.take k++[r]:=by rw [ce,h];rfl
  rw [←aD,←e2,cf]
 conv=>lhs;rw [e]
 simp
theorem A6z:∃ i,Tryz.prog.info? 3=some i/\i.zero=some (.int .i64 0)/\i.size=1/\i.bytes=8:=by
 have h1:(Tryz.prog.info? 3).map (·.size)=some 1:=by kernel_rfl
 have h2:(Tryz.prog.info? 3).map (·.bytes)=some 8:=by kernel_rfl
 have h3:(Tryz.prog.info? 3).bind (·.zero)=some (.int .i64 0):=by kernel_rfl
 obtain⟨i,h⟩:∃ i,Tryz.prog.info? 3=some i:=by
  cases hq:Tryz.prog.info? 3 with
  | none=>rw [hq] at h1;cases h1
  | some i=>exact⟨i,rfl⟩
 rw [h] at h1 h2 h3
 exact⟨i,h,by simpa using h3,by simpa using h1,by simpa using h2⟩
theorem A1j (w:World) (n:Nat) (h:n*8<=140737488355328):∃ Z:Array Value,Z.size=n/\(∀ j,j<n->Z[j]? = some (.int .i64 0)) /\
  (Instr.makeSlice 22 (.int .i64 (n:Int)) (.int .i64 (n:Int))).run Tryz.prog w = .ok (.slice (some ⟨w.heap.size,0,none⟩) n n) (w.alloc (.cells Z 3)):=by
 obtain⟨i,hi,hz,hs,hb⟩:=A6z
 have hr:=run_make (P:=Tryz.prog) w 22 3 i (.int .i64 0) Tryz.underlying22 hi hz .i64 .i64 (n:Int) (n:Int) (by omega) (Int.le_refl _) (by rw [hb];omega) (by omega)
 rw [aH,hs,Nat.mul_one] at hr
 refine⟨_,?_,λ j hj=>?_,hr⟩
 ·simp [madeCells]
 ·simp [madeCells,hj,Value.cells,Nat.mod_one]
def C4 (T:Int) (C:List Bool) (So:List (List Int)) (Li:List Int) (Br Ro:List (List Int)):List (List Int):=[[T],C.map Du]++So++[Li]++Br++Ro
theorem Qw (w:World) (o:Obj):w.grownBy (w.alloc o) none:=⟨rfl,rfl,rfl,by simp,λ j hj _=>Lib.alloc_old w o j hj⟩
theorem Zq {B b:Nat} {l:List UInt8} {w w':World} (h:Pg B b l w) (hg:w.grownBy w' none):Pg B b l w':=by
 have key:∀ p,J5 B b p l w->J5 B b p l w':=by
  rintro p ⟨hB,v,hbk,hown,hne⟩
  refine⟨hB,v,?_,hown.kept hg ?_,hne⟩
  ·rw [hg.block b (aY.1 hbk).1 (by simp)]
   exact hbk
  ·cases hq:v.ownBlock with
   | none=>exact .inl rfl
   | some g=>exact .inr (by simp)
 exact h.imp (key _) (key _)
theorem A07 {w:World} {K:Nat} {A:Array Value} {t:TypeId} (h:w.heap[K]? = some (.cells A t (0,0))) (k:Nat) (v:Value):(w.setCell ⟨K,k,none⟩ v).heap[K]? = some (.cells (A.setIfInBounds k v) t (0,0)):=by
 simp [World.setCell,Array.getElem?_modify,h]
theorem Ayp {w w':World} (h:Below w.heap.size w w'):w.grownBy w' none:=⟨h.os,h.tape,h.output,h.size,λ k hk _=>h.block k hk⟩
theorem Azl (B b:Nat) (l:List UInt8) (ns:List Int) (n:Nat) (ao:Option Addr) (cap:Nat) (w:World) (hnn:n=ns.length) (h:Pg B b l w) (hr:∀ x,x∈ns -> -9223372036854775808<=x/\x<=9223372036854775807)
  (hlen:l.length+(Cy ns).length+2<=140737488355328) (hn:n<=cap) (hm:cap<=maxLen) (hBw:B<=w.heap.size)
  (htab : ∀ w', Below B w w' -> Lib.TabIs Tryz.prog w' "internal/strconv.uint64pow10" .u64 Lib.pow10Tab)
  (hc:∀ w',Below B w w'->Lib.OthersKept 5 (some b) w w'->∀ (i:Nat) x,ns[i]? = some x->∃ ab o,ao=some ⟨ab,o,none⟩/\w'.cell? ⟨ab,o+i,none⟩=some (.int .i64 x)) :
  Calls Tryz.prog 39 #[.pointer (some ⟨b,0,none⟩),.slice ao n cap] w λ e w'=>e = .returned (.tuple #[])/\J5 B b (.pointer (some ⟨b,0,none⟩)) (l++Cy ns) w'/\Below B w w'/\Lib.OthersKept 5 (some b) w w':=by
 subst hnn
 exact Azk B b l ns ao cap w h hr (by unfold Cy at hlen;simp only [aA,aP,bg] at hlen;omega) hn hm hBw htab hc
theorem Z7 (B b K:Nat) (l:List UInt8) (ns:List Int) (vs:Array Value) (n:Nat) (w:World) (hK:K=w.heap.size) (hv:vs=(ns.map (Value.int .i64)).toArray) (hn:n=ns.length) (h:Pg B b l w) (hr:∀ x,x∈ns -> -9223372036854775808<=x/\x<=9223372036854775807)
  (hlen:l.length+(Cy ns).length+2<=140737488355328) (hm:ns.length<=100) (hBw:B<=w.heap.size)
  (htab : ∀ w', Below B w w' -> Lib.TabIs Tryz.prog w' "internal/strconv.uint64pow10" .u64 Lib.pow10Tab) :
  Calls Tryz.prog 39 #[.pointer (some ⟨b,0,none⟩),.slice (some ⟨K,0,none⟩) n n] (w.alloc (.cells vs 3)) λ e w'=>
   e = .returned (.tuple #[])/\J5 B b (.pointer (some ⟨b,0,none⟩)) (l++Cy ns) w'/\Below B w w'/\Lib.OthersKept 5 (some b) w w':=by
 subst hK hv hn
 have ha:Below B w (w.alloc (.cells (ns.map (Value.int .i64)).toArray 3)):=(Below.refl B w).alloc hBw _
 have hne:w.heap.size≠b:=by rcases h with h | h <;> (have:=h.lt;omega)
 refine (Azk B b l ns _ _ _ (Zq h (Qw _ _)) hr (by unfold Cy at hlen;simp only [aA,aP,bg] at hlen;omega) (an _) (by unfold maxLen;omega) (aJ hBw ha.size) (λ w' hb=>htab w' (ha.trans hb)) ?_).mono ?_
 ·intro w' hb hk i x hx
  have hn:=hk w.heap.size _ (heap_alloc_new w _) (by simpa using hne) (λ c fz he=>by cases he)
  refine⟨_,0,rfl,?_⟩
  simp [World.cell?,hn,hx]
 ·rintro e w' ⟨rfl,h1,h2,h3⟩
  exact⟨rfl,h1,ha.trans h2,((Lib.OthersKept.refl _ _ w).alloc _).trans h3⟩
set_option maxHeartbeats 8000000 in
set_option maxRecDepth 100000 in
theorem A6l (w : World) (T : Int) (C : List Bool) (So : List (List Int)) (Li : List Int) (Br Ro : List (List Int)) (aC aS aL aB aR aE : Option Addr) (kC kS kL kB kR kE nE : Nat)
  (hC:Ang w aC C) (hS:T5 w aS 4 So) (hL:T5 w aL 1 (Li.map λ x=>[x])) (hB:T5 w aB 2 Br) (hR:T5 w aR 2 Ro)
  (s4:∀ r,r∈So->r.length=4) (s2:∀ r,r∈Br->r.length=2) (r2:∀ r,r∈Ro->r.length=2)
  (nC:C.length<=kC/\kC<=maxLen) (nS:So.length<=kS/\kS<=maxLen) (nL:Li.length<=kL/\kL<=maxLen) (nB:Br.length<=kB/\kB<=maxLen) (nR:Ro.length<=kR/\kR<=maxLen)
  (cl:C.length*8<=140737488355328)
  (rng:∀ l,l∈C4 T C So Li Br Ro->∀ x,x∈l -> -9223372036854775808<=x/\x<=9223372036854775807)
  (len:(Bz (C4 T C So Li Br Ro)).length+2<=140737488355328)
  (htab : ∀ w', Below w.heap.size w w' -> Lib.TabIs Tryz.prog w' "internal/strconv.uint64pow10" .u64 Lib.pow10Tab) :
  Calls Tryz.prog 22 #[.agg #[.int .i64 T,.slice aC C.length kC,.slice aS So.length kS,.slice aL Li.length kL,.slice aB Br.length kB,.slice aR Ro.length kR,.slice aE nE kE]] w λ e w'=>
   e = .returned (.string ⟨(Bz (C4 T C So Li Br Ro)).toArray⟩)/\Below w.heap.size w w':=by
 have mixed:Tryz.prog.follows .mixedOrders=true:=by kernel_rfl
 generalize hbx:(#[.int .i64 T,.slice aC C.length kC,.slice aS So.length kS,.slice aL Li.length kL,.slice aB Br.length kB,.slice aR Ro.length kR,.slice aE nE kE]:Array Value)=bx
 have hb0:bx[0]? = some (.int .i64 T):=by rw [←hbx];rfl
 have hb1:bx[1]? = some (.slice aC C.length kC):=by rw [←hbx];rfl
 have hb2:bx[2]? = some (.slice aS So.length kS):=by rw [←hbx];rfl
 have hb3:bx[3]? = some (.slice aL Li.length kL):=by rw [←hbx];rfl
 have hb4:bx[4]? = some (.slice aB Br.length kB):=by rw [←hbx];rfl
 have hb5:bx[5]? = some (.slice aR Ro.length kR):=by rw [←hbx];rfl
 clear hbx
 go_enter Tryz.func22,Tryz.ntmps22
 have e1:(w.alloc (.cells bx 43)).heap.size=w.heap.size+1:=by simp
 have e2:((w.alloc (.cells bx 43)).alloc (.cells #[.pointer none,.slice none 0 0] 102)).heap.size=w.heap.size+1+1:=by simp
 have hp0:Pg (w.heap.size+1) (w.heap.size+1) [] ((w.alloc (.cells bx 43)).alloc (.cells #[.pointer none,.slice none 0 0] 102)):=by
  have:=Lib.fresh_isBuilder 102 5 (w.alloc (.cells bx 43))
  rw [e1] at this
  exact this
 have hw1:Below w.heap.size w (w.alloc (.cells bx 43)):=(Below.refl _ w).alloc (an _) _
 have hbox:∀ wr,Below (w.heap.size+1) (w.alloc (.cells bx 43)) wr->∀ (j:Nat) v,bx[j]? = some v->wr.cell? ⟨w.heap.size,j,none⟩=some v:=λ wr hb j v hj=>by
  rw [hb.cell (p:=⟨w.heap.size,j,none⟩) (by simp)]
  have hh:(w.alloc (.cells bx 43)).heap[w.heap.size]? = some (.cells bx 43 (0,0)):=heap_alloc_new w _
  rw [Lib.cell_of_heap hh];exact hj
 have hw2:Below (w.heap.size+1) (w.alloc (.cells bx 43)) ((w.alloc (.cells bx 43)).alloc (.cells #[.pointer none,.slice none 0 0] 102)):=(Below.refl _ _).alloc (by rw [e1];exact an _) _
 have tab1 : ∀ w', Below (w.heap.size + 1) (w.alloc (.cells bx 43)) w' -> Lib.TabIs Tryz.prog w' "internal/strconv.uint64pow10" .u64 Lib.pow10Tab := λ w' hb => htab w' (hw1.trans (hb.mono (bO _)))
 have fit:∀ pre x post,C4 T C So Li Br Ro=pre++[x]++post->(Bz pre).length+(Cy x).length+2<=140737488355328:=λ pre x post e=>by
  rw [e,Iu,Iu,Is] at len
  simp only [aA] at len
  omega
 have rg:∀ pre x post,C4 T C So Li Br Ro=pre++[x]++post->∀ y,y∈x -> -9223372036854775808<=y/\y<=9223372036854775807:=λ pre x post e=>rng x (by rw [e];simp)
 have q0:=hbox _ hw2 0 _ hb0
 have d1:C4 T C So Li Br Ro=[]++[[T]]++([C.map Du]++So++[Li]++Br++Ro):=by simp [C4]
 have f1:=fit _ _ _ d1
 have g1:=rg _ _ _ d1
 have l1:[T].length<=100:=by simp
 have z1:w.heap.size+1<=((w.alloc (.cells bx 43)).alloc (.cells #[.pointer none,.slice none 0 0] 102)).heap.size:=by rw [e2];omega
 have t1:=λ w' hb=>tab1 w' (hw2.trans hb)
 go_wp2_with (go_at_call 39;refine (Z7 (w.heap.size+1) (w.heap.size+1) (w.heap.size+1+1) [] [T] _ _ ((w.alloc (.cells bx 43)).alloc (.cells #[.pointer none,.slice none 0 0] 102)) e2.symm rfl rfl hp0 g1 f1 l1 z1 t1).mono ?_)
 rintro e W1 ⟨rfl,h1,b1,k1⟩
 have c1:=hw2.trans b1
 have q0:=hbox W1 c1 0 _ hb0
 have q1:=hbox W1 c1 1 _ hb1
 clear hp0 f1 g1 l1 z1 t1 q0 d1
 obtain⟨Z,z1,z2,hmk⟩:=A1j W1 C.length cl
 have s1:=c1.size
 rw [e1] at s1
 have c2:=c1.alloc (by omega) (.cells Z 3)
 have q2:=hbox _ c2 1 _ hb1
 have z3:(W1.alloc (.cells Z 3)).heap[W1.heap.size]? = some (.cells Z 3 (0,0)):=heap_alloc_new W1 _
 have hC63:C.length<=9223372036854775807:=by omega
 go_wp2
 go_loopw [26] (λ i wr=>∃ (k:Nat) (A:Array Value),k<=C.length/\i = .int .i64 k/\Below W1.heap.size W1 wr/\wr.heap[W1.heap.size]? = some (.cells A 3 (0,0))/\A.size=C.length/\(∀ (j:Nat) x,C[j]? = some x->A[j]? = some (.int .i64 (if j<k then Du x else 0)))) (λ i _=>C.length-(RowKit.intOf i).toNat)
 case atStart=>exact⟨0,Z,by omega,rfl,(Below.refl _ _).alloc (an _) _,z3,z1,λ j x hj=>z2 j (aa.1 hj).1⟩
 case round =>
  obtain⟨k,A,hk,rfl,hb,hA,hAs,hAx⟩:=hrel
  have hbw:=hw1.trans ((c1.trans (hb.mono (by omega))).mono (bO _))
  by_cases hkl:k<C.length
  ·obtain⟨x,hx⟩:∃ x,C[k]? = some x:=⟨_,ag hkl⟩
   obtain⟨ab,o,rfl,hab,hcell⟩:=hC k x hx
   have hcell2:wr.cell? ⟨ab,o+k,none⟩=some (.bool x):=by rw [hbw.cell (p:=⟨ab,o+k,none⟩) hab];exact hcell
   cases x with
   | true=>
    have hk1:wr.cell? ⟨W1.heap.size,k,none⟩=A[k]?:=Lib.cell_of_heap hA k
    rw [hAx k true hx] at hk1
    have hfz:wr.frozen? ⟨W1.heap.size,k,none⟩=false:=Lib.frozen_of_heap hA k
    go_wp2
    go_roundw
    case rel=>
     refine⟨k+1,A.setIfInBounds k (.int .i64 1),by omega,rfl,hb.setCell (p:=⟨W1.heap.size,k,none⟩) (an _) _,A07 hA k _,by simpa using hAs,λ j y hj=>?_⟩
     rw [Array.getElem?_setIfInBounds]
     by_cases hjk:k=j
     ·subst hjk
      rw [hx] at hj;cases hj
      rw [if_pos rfl,if_pos (by omega)]
      simp [Du]
     ·rw [if_neg hjk,hAx j y hj]
      have:(j<k+1)=(j<k):=by simp only [eq_iff_iff];omega
      simp only [this]
    case measure=>simp only [RowKit.intOf];omega
   | false=>
    go_wp2
    go_roundw
    case rel=>
     refine⟨k+1,A,by omega,rfl,hb,hA,hAs,λ j y hj=>?_⟩
     rw [hAx j y hj]
     by_cases hjk:j=k
     ·subst hjk
      rw [hx] at hj;cases hj
      simp [Du]
     ·have:(j<k+1)=(j<k):=by simp only [eq_iff_iff];omega
      simp only [this]
    case measure=>simp only [RowKit.intOf];omega
  ·have s10 := h1.lt
   have hAm:∀ (i:Nat) x,(C.map Du)[i]? = some x->A[i]? = some (.int .i64 x):=λ i x hi=>by
    rw [ax] at hi
    cases hq:C[i]? with
    | none=>rw [hq] at hi;cases hi
    | some y=>
     rw [hq] at hi;cases hi
     have:=(aa.1 hq).1
     rw [hAx i y hq,if_pos (by omega)]
   have c3:=c1.trans (hb.mono (by omega))
   have hp3:Pg (w.heap.size+1) (w.heap.size+1) (Cy [T]) wr:=Zq (.inr h1) (Ayp hb)
   have s3:=hb.size
   have d2:C4 T C So Li Br Ro=[[T]]++[C.map Du]++(So++[Li]++Br++Ro):=by simp [C4]
   have f2:=fit _ _ _ d2
   have g2:=rg _ _ _ d2
   rw [Is] at f2
   have f22:=f2
   have m2:C.length<=maxLen:=by unfold maxLen;omega
   have t2:=λ w' (hb':Below (w.heap.size+1) wr w')=>tab1 w' (c3.trans hb')
   have x2:w.heap.size+1<=wr.heap.size:=by omega
   have r2':∀ w',Below (w.heap.size+1) wr w'->Lib.OthersKept 5 (some (w.heap.size+1)) wr w'->∀ (i:Nat) x,(C.map Du)[i]? = some x->∃ ab o,some (⟨W1.heap.size,0,none⟩:Addr)=some ⟨ab,o,none⟩/\w'.cell? ⟨ab,o+i,none⟩=some (.int .i64 x):=λ w' _ hk' i x hi=>by
    refine⟨_,0,rfl,?_⟩
    have:=hk' W1.heap.size _ hA (by simp;omega) (λ c fz he=>by cases he)
    rw [Lib.cell_of_heap this,aG]
    exact hAm i x hi
   clear hAx hAs hAm hA z1 z2 z3 hmk q1 q2 f2
   go_wp2_with (go_at_call 39;refine (Azl (w.heap.size+1) (w.heap.size+1) (Cy [T]) (C.map Du) C.length (some ⟨W1.heap.size,0,none⟩) C.length wr (au Du).symm hp3 g2 f22 (an _) m2 x2 t2 r2').mono ?_)
   rintro e W3 ⟨rfl,h3,b3,k3⟩
   have c4:=c3.trans b3
   have q4:=hbox W3 c4 2 _ hb2
   have hp4:Pg (w.heap.size+1) (w.heap.size+1) (Bz ([[T],C.map Du]++So.take 0)) W3:=by
    have e:Bz ([[T],C.map Du]++So.take 0)=Cy [T]++Cy (C.map Du):=by simp [Bz]
    rw [e];exact .inr h3
   have hS63:So.length<=9223372036854775807:=by have:=nS;unfold maxLen at this;omega
   have s4':=c4.size
   rw [e1] at s4'
   clear hp3 f22 g2 m2 t2 x2 r2' d2 b3 h3 k3 c3 hb hk hkl
   go_wp2
   go_loopw [42] (λ i wr=>∃ (k:Nat),k<=So.length/\i = .int .i64 k/\Pg (w.heap.size+1) (w.heap.size+1) (Bz ([[T],C.map Du]++So.take k)) wr/\Below (w.heap.size+1) (w.alloc (.cells bx 43)) wr) (λ i _=>So.length-(RowKit.intOf i).toNat)
   case atStart=>exact⟨0,by omega,rfl,hp4,c4⟩
   case round =>
    obtain⟨k,hk,rfl,hp5,c5⟩:=hrel
    have s5:=c5.size
    rw [e1] at s5
    by_cases hkl:k<So.length
    ·obtain⟨r,hx⟩:∃ r,So[k]? = some r:=⟨_,ag hkl⟩
     obtain⟨ab,o,rfl,hab,hcell⟩:=hS k r hx
     have hl4:=s4 r (af hx)
     obtain⟨r0,r1,r2,r3,rfl⟩:∃ r0 r1 r2 r3,r=[r0,r1,r2,r3]:=by
      match r,hl4 with
      | [a,b,c,d],_=>exact⟨a,b,c,d,rfl⟩
     have hbw:=hw1.trans (c5.mono (bO _))
     have p0:wr.cell? ⟨ab,o+k*4,none⟩=some (.int .i64 r0):=by rw [hbw.cell (p:=⟨ab,o+k*4,none⟩) hab];exact hcell 0 r0 rfl
     have p1:wr.cell? ⟨ab,o+k*4+1,none⟩=some (.int .i64 r1):=by rw [hbw.cell (p:=⟨ab,o+k*4+1,none⟩) hab];exact hcell 1 r1 rfl
     have p2:wr.cell? ⟨ab,o+k*4+2,none⟩=some (.int .i64 r2):=by rw [hbw.cell (p:=⟨ab,o+k*4+2,none⟩) hab];exact hcell 2 r2 rfl
     have p3:wr.cell? ⟨ab,o+k*4+3,none⟩=some (.int .i64 r3):=by rw [hbw.cell (p:=⟨ab,o+k*4+3,none⟩) hab];exact hcell 3 r3 rfl
     have et:So.take (k+1)=So.take k++[[r0,r1,r2,r3]]:=by rw [ce,hx];rfl
     have d5:C4 T C So Li Br Ro=([[T],C.map Du]++So.take k)++[[r0,r1,r2,r3]]++(So.drop (k+1)++([Li]++Br++Ro)):=by
      rw [←Xn hx]
      simp [C4]
     have f5:=fit _ _ _ d5
     have g5:=rg _ _ _ d5
     have hp6:=Zq hp5 (Qw wr (.cells #[.int .i64 r0,.int .i64 r1,.int .i64 r2,.int .i64 r3] 93))
     have K5:(wr.alloc (.cells #[.int .i64 r0,.int .i64 r1,.int .i64 r2,.int .i64 r3] 93)).heap.size=wr.heap.size+1:=by simp
     have l5:[r0,r1,r2,r3].length<=100:=by simp
     have x5:w.heap.size+1<=(wr.alloc (.cells #[.int .i64 r0,.int .i64 r1,.int .i64 r2,.int .i64 r3] 93)).heap.size:=by omega
     have c6:=c5.alloc (by omega) (.cells #[.int .i64 r0,.int .i64 r1,.int .i64 r2,.int .i64 r3] 93)
     have t5:=λ w' hb'=>tab1 w' (c6.trans hb')
     go_wp2_with (go_at_call 39;refine (Z7 (w.heap.size+1) (w.heap.size+1) (wr.heap.size+1) _ [r0,r1,r2,r3] _ _ (wr.alloc (.cells #[.int .i64 r0,.int .i64 r1,.int .i64 r2,.int .i64 r3] 93)) K5.symm rfl rfl hp6 g5 f5 l5 x5 t5).mono ?_)
     rintro e W5 ⟨rfl,h6,b6,k6⟩
     have c7:=c6.trans b6
     go_wp2
     go_roundw
     case rel=>
      refine⟨k+1,by omega,rfl,?_,c7⟩
      rw [et,←aD,Iu,Is]
      exact .inr h6
     case measure=>simp only [RowKit.intOf];omega
    ·have ek : So.take k = So := bv (by omega)
     rw [ek] at hp5
     have q5:=hbox wr c5 3 _ hb3
     have d6:C4 T C So Li Br Ro=([[T],C.map Du]++So)++[Li]++(Br++Ro):=by simp [C4]
     have f6:=fit _ _ _ d6
     have g6:=rg _ _ _ d6
     have x6:w.heap.size+1<=wr.heap.size:=by omega
     have t6:=λ w' hb'=>tab1 w' (c5.trans hb')
     have r6:∀ w',Below (w.heap.size+1) wr w'->Lib.OthersKept 5 (some (w.heap.size+1)) wr w'->∀ (i:Nat) x,Li[i]? = some x->∃ ab o,aL=some ⟨ab,o,none⟩/\w'.cell? ⟨ab,o+i,none⟩=some (.int .i64 x):=λ w' hb' _ i x hi=>by
      obtain⟨ab,o,e,hab,hcell⟩:=hL i [x] (by rw [ax,hi];rfl)
      refine⟨ab,o,e,?_⟩
      have hbw:=hw1.trans ((c5.trans hb').mono (bO _))
      rw [hbw.cell (p:=⟨ab,o+i,none⟩) hab]
      have:=hcell 0 x rfl
      rwa [Nat.mul_one] at this
     go_wp2_with (go_at_call 39;refine (Azl (w.heap.size+1) (w.heap.size+1) _ Li Li.length aL kL wr rfl hp5 g6 f6 nL.1 nL.2 x6 t6 r6).mono ?_)
     rintro e W6 ⟨rfl,h7,b7,k7⟩
     have c8:=c5.trans b7
     have q8:=hbox W6 c8 4 _ hb4
     clear hp5 f6 g6 x6 t6 r6 d6 b7 k7 hk hkl ek
     have h63Br:Br.length<=9223372036854775807:=by have:=nB;unfold maxLen at this;omega
     have zBr:=c8.size
     rw [e1] at zBr
     have hpBr:Pg (w.heap.size+1) (w.heap.size+1) (Bz (([[T],C.map Du]++So++[Li])++Br.take 0)) W6:=by
      rw [List.take_zero,aV]
      rw [Iu _ [Li],Is]
      exact .inr h7
     go_wp2
     go_loopw [65] (λ i wr=>∃ (k:Nat),k<=Br.length/\i = .int .i64 k/\Pg (w.heap.size+1) (w.heap.size+1) (Bz (([[T],C.map Du]++So++[Li])++Br.take k)) wr/\Below (w.heap.size+1) (w.alloc (.cells bx 43)) wr) (λ i _=>Br.length-(RowKit.intOf i).toNat)
     case atStart=>exact⟨0,by omega,rfl,hpBr,c8⟩
     case round =>
      obtain⟨k,hk,rfl,hp5,c5⟩:=hrel
      have s5:=c5.size
      rw [e1] at s5
      by_cases hkl:k<Br.length
      ·obtain⟨r,hx⟩:∃ r,Br[k]? = some r:=⟨_,ag hkl⟩
       obtain⟨ab,o,rfl,hab,hcell⟩:=hB k r hx
       have hl2:=s2 r (af hx)
       obtain⟨r0,r1,rfl⟩:∃ r0 r1,r=[r0,r1]:=by
        match r,hl2 with
        | [a,b],_=>exact⟨a,b,rfl⟩
       have hbw:=hw1.trans (c5.mono (bO _))
       have p0:wr.cell? ⟨ab,o+k*2,none⟩=some (.int .i64 r0):=by rw [hbw.cell (p:=⟨ab,o+k*2,none⟩) hab];exact hcell 0 r0 rfl
       have p1:wr.cell? ⟨ab,o+k*2+1,none⟩=some (.int .i64 r1):=by rw [hbw.cell (p:=⟨ab,o+k*2+1,none⟩) hab];exact hcell 1 r1 rfl
       have et:Br.take (k+1)=Br.take k++[[r0,r1]]:=by rw [ce,hx];rfl
       have d5:C4 T C So Li Br Ro=(([[T],C.map Du]++So++[Li])++Br.take k)++[[r0,r1]]++(Br.drop (k+1)++Ro):=by
        rw [←Xn hx]
        simp [C4]
       have f5:=fit _ _ _ d5
       have g5:=rg _ _ _ d5
       have hp6:=Zq hp5 (Qw wr (.cells #[.int .i64 r0,.int .i64 r1] 96))
       have K5:(wr.alloc (.cells #[.int .i64 r0,.int .i64 r1] 96)).heap.size=wr.heap.size+1:=by simp
       have l5:[r0,r1].length<=100:=by simp
       have x5:w.heap.size+1<=(wr.alloc (.cells #[.int .i64 r0,.int .i64 r1] 96)).heap.size:=by omega
       have c6:=c5.alloc (by omega) (.cells #[.int .i64 r0,.int .i64 r1] 96)
       have t5:=λ w' hb'=>tab1 w' (c6.trans hb')
       go_wp2_with (go_at_call 39;refine (Z7 (w.heap.size+1) (w.heap.size+1) (wr.heap.size+1) _ [r0,r1] _ _ (wr.alloc (.cells #[.int .i64 r0,.int .i64 r1] 96)) K5.symm rfl rfl hp6 g5 f5 l5 x5 t5).mono ?_)
       rintro e W5 ⟨rfl,h6,b6,k6⟩
       have c7:=c6.trans b6
       go_wp2
       go_roundw
       case rel=>
        refine⟨k+1,by omega,rfl,?_,c7⟩
        rw [et,←aD,Iu,Is]
        exact .inr h6
       case measure=>simp only [RowKit.intOf];omega
      ·have ek:Br.take k=Br:=bv (by omega)
       rw [ek] at hp5
       have q9:=hbox wr c5 5 _ hb5
       have h63Ro:Ro.length<=9223372036854775807:=by have:=nR;unfold maxLen at this;omega
       have zRo:=c5.size
       rw [e1] at zRo
       have hpRo:Pg (w.heap.size+1) (w.heap.size+1) (Bz (([[T],C.map Du]++So++[Li]++Br)++Ro.take 0)) wr:=by
        rw [List.take_zero,aV]
        exact hp5
       go_wp2
       go_loopw [79] (λ i wr=>∃ (k:Nat),k<=Ro.length/\i = .int .i64 k/\Pg (w.heap.size+1) (w.heap.size+1) (Bz (([[T],C.map Du]++So++[Li]++Br)++Ro.take k)) wr/\Below (w.heap.size+1) (w.alloc (.cells bx 43)) wr) (λ i _=>Ro.length-(RowKit.intOf i).toNat)
       case atStart=>exact⟨0,by omega,rfl,hpRo,c5⟩
       case round=>
        obtain⟨k,hk,rfl,hp5,c5⟩:=hrel
        have s5:=c5.size
        rw [e1] at s5
        by_cases hkl:k<Ro.length
        ·obtain⟨r,hx⟩:∃ r,Ro[k]? = some r:=⟨_,ag hkl⟩
         obtain⟨ab,o,rfl,hab,hcell⟩:=hR k r hx
         have hl2:=r2 r (af hx)
         obtain⟨r0,r1,rfl⟩:∃ r0 r1,r=[r0,r1]:=by
          match r,hl2 with
          | [a,b],_=>exact⟨a,b,rfl⟩
         have hbw:=hw1.trans (c5.mono (bO _))
         have p0:wr.cell? ⟨ab,o+k*2,none⟩=some (.int .i64 r0):=by rw [hbw.cell (p:=⟨ab,o+k*2,none⟩) hab];exact hcell 0 r0 rfl
         have p1:wr.cell? ⟨ab,o+k*2+1,none⟩=some (.int .i64 r1):=by rw [hbw.cell (p:=⟨ab,o+k*2+1,none⟩) hab];exact hcell 1 r1 rfl
         have et:Ro.take (k+1)=Ro.take k++[[r0,r1]]:=by rw [ce,hx];rfl
         have d5:C4 T C So Li Br Ro=(([[T],C.map Du]++So++[Li]++Br)++Ro.take k)++[[r0,r1]]++(Ro.drop (k+1)++[]):=by
          rw [←Xn hx]
          simp [C4]
         have f5:=fit _ _ _ d5
         have g5:=rg _ _ _ d5
         have hp6:=Zq hp5 (Qw wr (.cells #[.int .i64 r0,.int .i64 r1] 84))
         have K5:(wr.alloc (.cells #[.int .i64 r0,.int .i64 r1] 84)).heap.size=wr.heap.size+1:=by simp
         have l5:[r0,r1].length<=100:=by simp
         have x5:w.heap.size+1<=(wr.alloc (.cells #[.int .i64 r0,.int .i64 r1] 84)).heap.size:=by omega
         have c6:=c5.alloc (by omega) (.cells #[.int .i64 r0,.int .i64 r1] 84)
         have t5:=λ w' hb'=>tab1 w' (c6.trans hb')
         go_wp2_with (go_at_call 39;refine (Z7 (w.heap.size+1) (w.heap.size+1) (wr.heap.size+1) _ [r0,r1] _ _ (wr.alloc (.cells #[.int .i64 r0,.int .i64 r1] 84)) K5.symm rfl rfl hp6 g5 f5 l5 x5 t5).mono ?_)
         rintro e W5 ⟨rfl,h6,b6,k6⟩
         have c7:=c6.trans b6
         go_wp2
         go_roundw
         case rel=>
          refine⟨k+1,by omega,rfl,?_,c7⟩
          rw [et,←aD,Iu,Is]
          exact .inr h6
         case measure=>simp only [RowKit.intOf];omega
        ·have ek:Ro.take k=Ro:=bv (by omega)
         rw [ek] at hp5
         have hall:C4 T C So Li Br Ro=[[T],C.map Du]++So++[Li]++Br++Ro:=by simp [C4]
         rw [←hall] at hp5
         clear hall
         have hne:Bz (C4 T C So Li Br Ro)≠[]:=by simp [C4,Bz,Cy]
         go_wp2_with (go_at_call 40;refine (A2v (w.heap.size+1) (w.heap.size+1) _ wr hp5 hne).mono ?_)
         rintro e W9 ⟨rfl,b9⟩
         go_wp2
         go_ret
         exact⟨rfl,hw1.trans ((c5.trans b9).mono (bO _))⟩
end Go.Proofs.YtpdbkiafikdgpaaGreatDoor
