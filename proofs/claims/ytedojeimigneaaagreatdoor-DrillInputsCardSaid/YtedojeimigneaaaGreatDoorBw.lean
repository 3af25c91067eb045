import Derived.RangeFuncBox
import Derived.RangeFuncLeaves
import Derived.Shelf.Abstract
import Derived.WalkKit
import Derived.OwnWalkIn
import Derived.TacticsInMore
import Derived.LoopNIn
import Derived.LoopIn
import Derived.Lib.Hide
import Derived.Test.YtedojeimigneaaaGreatDoorProg
import Derived.Test.YtedojeimigneaaaGreatDoorSlZ
set_option linter.unusedVariables false
set_option maxHeartbeats 8000000
namespace Go.Proofs.YtedojeimigneaaaGreatDoor
open Go Go.RowKit Go.Shelf Go.SL
attribute [local go_sem] Oper.semAt_some
variable{ps:Array Tmp}
def Ww(x:Int×Int):Array Value:=#[.int .i64 x.1,.int .i64 x.2]
theorem Qg(zs:ez)(k:Nat):Hv zs (k+1)=Hv zs k++[(((zs.length-1-k:Nat):Int),(zs[zs.length-1-k]?.getD 0))]:=by simp[Hv,List.range_succ]
theorem Ak8(zs:ez){k m:Nat}(h:k<m):∃rest,Hv zs m=Hv zs k++(((zs.length-1-k:Nat):Int),(zs[zs.length-1-k]?.getD 0))::rest:=by
 induction m with
 |zero=>omega
 | succ m ih=>
  rcases aR k m with h'|h'
  .obtain⟨rest,e⟩:=ih h';exact⟨rest++[(((zs.length-1-m:Nat):Int),(zs[zs.length-1-m]?.getD 0))],by rw[Qg,e];simp⟩
  .have:k=m:=by omega
   subst this;exact⟨[],by rw[Qg]⟩
set_option maxRecDepth 100000 in
theorem A0v(l Bs len cap:Nat)(ad:Addr)(zs:ez)(hlen:zs.length=len)(hreach:len<=9223372036854775807)(S:Nat->Prop)(hSb:S Bs)(hSs:0<len->S ad.block)(J:List (Int×Int)->World->Prop)(Jx:World->Prop)
  (W:World)(hY:∀pre x rest W1,J pre W1->Hv zs len=pre++x::rest->(∀k,S k->W1.heap[k]?=W.heap[k]?)->YieldAt Fence.wide 1 Tryz.prog l #[.int .i64 x.1,.int .i64 x.2] W1 λe W'=>(e=.returned (.bool true)/\J (pre++[x]) W'/\∀k,S k->W'.heap[k]?=W1.heap[k]?)\/(e=.returned (.bool false)/\Jx W'))
  (hBs:W.cell? ⟨Bs,0,none⟩=some (.slice (some ad) len cap))(hc:∀j,j<len->W.cell? (ad.add j)=some (.int .i64 (zs[j]?.getD 0)))(h0:J [] W) :
  CallsIn Fence.wide 2 Tryz.prog 224 #[.func (.yield l) #[] #[],.pointer (some ⟨Bs,0,none⟩)] W λe W'=>(∃v,e=.returned v)/\(J (Hv zs len) W'\/Jx W'):=by
 refine callsIn_of_wp Tryz.func224 rfl trivial ?_ rfl;simp only[Tryz.ntmps224,bB,aT,bn,Nat.reduceAdd,Nat.reduceSub,cK,cL,cM,cN,bG,cz]
 gi_wp2
 gi_loopw [3] (λi wr=>∃k:Nat,k<=len/\i=.int .i64 ((len:Int)-k-1)/\J (Hv zs k) wr/\∀q,S q->wr.heap[q]?=W.heap[q]?)
  (λi _=>((intOf i)+1).toNat)
 case atStart=>exact⟨0,bi _,by rw[show (len:Int)-((0:Nat):Int)-1=(len:Int)-1 from by omega],h0,λ_ _=>rfl⟩
 case round=>
  obtain⟨k,hk,rfl,hJs,hSk⟩:=hrel;by_cases hlt:k<len
  .obtain⟨rest,hrest⟩:=Ak8 zs hlt;obtain⟨m,hm⟩:∃m:Nat,m=len-1-k:=⟨_,rfl⟩;have hmi:(len:Int)-k-1=m:=by omega
   have hml:m<len:=by omega
   obtain⟨fn,tmps,assign,body,hy,hR⟩:=hY _ _ rest wr hJs hrest hSk;rw[hlen,←hm]at hy hR;dsimp only at hy;have hcx:wr.cell? (ad.add m)=some (.int .i64 (zs[m]?.getD 0)):=(World.cell?_of_block (a:=ad.add m) (by rw[Dh];exact hSk _ (hSs (by omega)))).trans (hc m hml);have hbx:wr.cell? ⟨Bs,0,none⟩=some (.slice (some ad) len cap):=(World.cell?_of_block (a:=⟨Bs,0,none⟩) (hSk Bs hSb)).trans hBs;rw[hmi];have hsucc:J (Hv zs k++[((m:Int),zs[m]?.getD 0)])=J (Hv zs (k+1)):=by rw[Qg,hlen,←hm]
   have hm1:(m:Int)-1=(len:Int)-((k+1:Nat):Int)-1:=by omega
   have HM:=Lib.hid hm1;clear hm1;have HS:=Lib.hid hsucc;clear hsucc;have HI:=Lib.hid hmi;clear hmi;have HR:=Lib.hid hrest;clear hrest;have Hm:=Lib.hid hm;clear hm;have Hl:=Lib.hid hlen;clear hlen;clear hc hSs;have HSK:=Lib.hid hSk;clear hSk
   gi_wp2
   refine hR.mono ?_;rintro e W3 (⟨rfl,hJ3,hk3⟩|⟨rfl,hJx3⟩)
   .have HK3:=Lib.hid hk3;clear hk3
    gi_wp2
    go_roundw
    case rel=>exact⟨k+1,by omega,by rw[←HM.out],by rw[←HS.out];exact hJ3,λq hq=>(HK3.out q hq).trans (HSK.out q hq)⟩
    case measure=>(simp[intOf];try omega)
   .gi_wp2
    refine bodyPost_ret (results_none rfl _ _ _) rfl ?_;exact⟨⟨_,rfl⟩,.inr hJx3⟩
  .obtain rfl:k=len:=by omega
   have hneg:((k:Int)-k-1) = -1:=by omega
   rw[hneg];clear hneg
   gi_wp2
   go_end0
   exact⟨⟨_,rfl⟩,.inl hJs⟩
set_option maxRecDepth 100000 in
theorem Ap8(l Bs:Nat)(J:List (Int×Int)->World->Prop)(W:World)(hBs:W.cell? ⟨Bs,0,none⟩=some (.slice none 0 0))(h0:J [] W) :
  CallsIn Fence.wide 2 Tryz.prog 224 #[.func (.yield l) #[] #[],.pointer (some ⟨Bs,0,none⟩)] W λe W'=>(∃v,e=.returned v)/\J [] W':=by
 refine callsIn_of_wp Tryz.func224 rfl trivial ?_ rfl;simp only[Tryz.ntmps224,bB,aT,bn,Nat.reduceAdd,Nat.reduceSub,cK,cL,cM,cN,bG,cz]
 gi_wp2
 gi_loopw [3] (λi wr=>i=.int .i64 (-1)/\J [] wr) (λ_ _=>0)
 case atStart=>exact⟨by first|rfl|go_num,h0⟩
 case round=>
  obtain⟨rfl,hJs⟩:=hrel
  gi_wp2
  go_end0
  exact⟨⟨_,rfl⟩,hJs⟩
theorem eBw:Dl Tryz.prog 224:=Go.SL.Ej Tryz.func224 (by kernel_rfl) (by kernel_rfl)
theorem A2j(zs:ez):Aqh Tryz.prog 224 (zs.map pI) Ww (bw zs):=by
 refine⟨eBw,λS b v l J Jx W hS hSb hv hr hJ hY h0=>?_⟩;have hp:=hr;cases hr with
 | s a ad cap size rows xs hc hm hz hsz hx hrr=>
  have hlen:(zs.map pI).length=zs.length:=by simp
  have hcell:∀j,j<zs.length->a=some ad/\S ad.block/\W.cell? (ad.add j)=some (.int .i64 (zs[j]?.getD 0)):=by
   intro j hj;have hrow:(zs.map pI)[j]?=some (pI zs[j]):=by simp[hj]
   obtain⟨h1,h2,h3⟩:=hx j _ hrow 0 (.v (.int .i64 zs[j])) rfl;have h4:=(hrr j _ hrow 0 (.v (.int .i64 zs[j])) rfl).v_form;have hs1:size=1:=(hsz _ (ag hrow)).symm;subst hs1;refine⟨h1,h2,?_⟩;rw[Nat.mul_one,bo]at h3;rw[h3,h4];simp[hj]
  rw[hlen]at hv hc;rcases Nat.eq_zero_or_pos zs.length with h|h
  .have hzs:zs=[]:=bm h;subst hzs;cases a with
   |none=>have:cap=0:=hz rfl;subst this;exact(Ap8 l b J W hv h0).mono λe W' ⟨he,hj⟩=>⟨he,.inl hj⟩
   |some a0=>exact A0v l b 0 cap a0 [] rfl (by omega) S hSb (λh=>absurd h (by omega)) J Jx W (λpre x rest W1 _ he=>by simp[Hv]at he) hv (λj hj=>absurd hj (by omega)) h0
  .obtain⟨h1,h2,_⟩:=hcell 0 h;subst h1;exact A0v l b zs.length cap ad zs rfl (by unfold maxLen at hm;omega) S hSb (λ_=>h2) J Jx W hY hv (λj hj=>(hcell j hj).2.2) h0
theorem A81{a b:Nat}(h:ps = #[a,b]):∀x:Int×Int,(Ww x).size=ps.size:=λx=>by rw[h];rfl
theorem A6u{n:Nat}(a b:Nat)(h:ps = #[a,b])(hb:b<n)(_:a≠b):∀(x:Int×Int)(tm:Array Value),tm.size=n->∃v,(Gg ps (Ww x) tm)[b]?=some v/\∀S w ρ,RdA S w ρ v (.d (I x.2)):=by
 intro x tm ht;refine⟨.int .i64 x.2,?_,λS w ρ=>.d (.p (.v _ rfl))⟩;subst h;have hz:(#[a,b].zip (Ww x)).toList=[(a,Value.int .i64 x.1),(b,Value.int .i64 x.2)]:=by simp[Ww]
 rw[Ms,hz];show ((tm.setIfInBounds a (.int .i64 x.1)).setIfInBounds b (.int .i64 x.2))[b]?=_;rw[Array.getElem?_setIfInBounds_self];simp[ht,hb]
end Go.Proofs.YtedojeimigneaaaGreatDoor
