import Derived.RangeFuncBox
import Derived.RangeFuncLeaves
import Derived.Shelf.Abstract
import Derived.WalkKit
import Derived.OwnWalkIn
import Derived.TacticsInMore
import Derived.LoopNIn
import Derived.LoopIn
import Derived.Lib.Hide
import Derived.Test.YtedojeimigneaaaGreatDoorProg
import Derived.Test.YtedojeimigneaaaGreatDoorSlEX
set_option linter.unusedVariables false
set_option maxHeartbeats 8000000
namespace Go.Proofs.YtedojeimigneaaaGreatDoor
open Go Go.RowKit Go.Shelf Go.SL
variable{rows:List (List Pd)}{w:World}
def Po(r:List Pd):AV:=match r with| [x]=>.d (.p x)|l=>.agg (l.map D.p)
def enR(rows:List (List Pd)):List (List AV):=((List.range rows.length).zip rows).reverse.map λx=>[.d (.p (xi (x.1:Int))),Po x.2]
attribute [local go_sem] Oper.semAt_some
theorem Rb{a b:Addr}{v:Value}(h:w.cell? a=some v)(h1:a.block=b.block)(h2:a.off=b.off)(h3:b.spot=none):w.cell? b=some v:=by
 unfold World.cell? at *;rw[←h1,←h2,h3];split at h
 .rename_i e;split at h
  .cases h
  .simpa using h
 .cases h
theorem Ate{S:Nat->Prop}{caps:eA}(h:Ay (Rd S w []) caps [.ip [.s rows]]):∃(p:Addr)(v:Value),caps=[.pointer (some p)]/\S p.block/\w.cell? p=some v/\RdP S w v (.s rows):=by
 match caps,h with
 | [c],⟨h1,_⟩=>
  cases h1 with
  | @ip p _ h=>
   obtain⟨x,h2,h3,h4⟩:=h 0 _ rfl;refine⟨p,x,rfl,h2,?_,h4⟩
   rwa [show p.add 0=p from by simp[Addr.add]]at h3
theorem uU(rows:List (List Pd)):(enR rows).length=rows.length:=by simp[enR]
theorem uV{k:Nat}(h:k<rows.length):(enR rows)[k]?=some [.d (.p (xi (((rows.length-1-k:Nat):Int)))),Po (rows[rows.length-1-k]'(by omega))]:=by unfold enR;rw[au,List.getElem?_reverse (by simpa using h)];simp only[List.length_zip,List.length_range,Nat.min_self];rw[(List.getElem?_zip_eq_some (z:=(rows.length-1-k,rows[rows.length-1-k]))).2 ⟨bA (by omega),ak (by omega)⟩];rfl
abbrev Ai1(cc:Nat->Nat->Value)(m:Nat):Value:=.agg #[cc m 0,cc m 1,cc m 2,cc m 3]
set_option maxRecDepth 100000 in
theorem Aut(l len cap:Nat)(p ad:Addr)(cc:Nat->Nat->Value)(hreach:len<=9223372036854775807)(S:Nat->Prop)(hSb:S p.block)(J:Nat->World->Prop)(Jx:World->Prop)
  (W:World)(hY:∀k W1,k<len->J k W1->(∀k,S k->W1.heap[k]?=W.heap[k]?)->YieldAt Fence.wide 1 Tryz.prog l #[.int .i64 (((len-1-k:Nat):Int)),Ai1 cc (len-1-k)] W1 λe W'=>(e=.returned (.bool true)/\J (k+1) W'/\∀k,S k->W'.heap[k]?=W1.heap[k]?)\/(e=.returned (.bool false)/\Jx W'))
  (hBs:W.cell? p=some (.slice (some ad) len cap))(hSs:0<len->S ad.block)(hl:∀m j,m<len->j<4->W.cell? (ad.add (m*4+j))=some (cc m j))(h0:J 0 W) :
  CallsIn Fence.wide 2 Tryz.prog 362 #[.func (.yield l) #[] #[],.pointer (some p)] W λe W'=>(∃v,e=.returned v)/\(J len W'\/Jx W'):=by
 refine callsIn_of_wp Tryz.func362 rfl trivial ?_ rfl;simp only[Tryz.ntmps362,bB,aT,bn,Nat.reduceAdd,Nat.reduceSub,cK,cL,cM,cN,bG,cz]
 gi_wp2
 gi_loopw [3] (λi wr=>∃k:Nat,k<=len/\i=.int .i64 ((len:Int)-k-1)/\J k wr/\∀q,S q->wr.heap[q]?=W.heap[q]?)
  (λi _=>((intOf i)+1).toNat)
 case atStart=>exact⟨0,bi _,by rw[show (len:Int)-((0:Nat):Int)-1=(len:Int)-1 from by omega],h0,λ_ _=>rfl⟩
 case round=>
  obtain⟨k,hk,rfl,hJs,hSk⟩:=hrel;by_cases hlt:k<len
  .obtain⟨m,hm⟩:∃m:Nat,m=len-1-k:=⟨_,rfl⟩;have hmi:(len:Int)-k-1=m:=by omega
   have hml:m<len:=by omega
   obtain⟨fn,tmps,assign,body,hy,hR⟩:=hY _ wr hlt hJs hSk;rw[←hm]at hy;dsimp only[Ai1]at hy;have hcl:∀j,j<4->wr.cell? (ad.add (m*4+j))=some (cc m j):=λj hj=>(World.cell?_of_block (a:=ad.add (m*4+j)) (by rw[Dh];exact hSk _ (hSs (by omega)))).trans (hl m j hml hj);have hx0:wr.cell? (ad.add (m*4))=some (cc m 0):=hcl 0 (by decide);have hx1:wr.cell? {block:=(ad.add (m*4)).block,off:=(ad.add (m*4)).off+1}=some (cc m 1):=Rb (hcl 1 (by decide)) (by simp only[Dh]) (by simp only[Addr.add];repeat' split <;> (first|omega|(simp;omega)|simp)) rfl;have hx2:wr.cell? {block:=(ad.add (m*4)).block,off:=(ad.add (m*4)).off+2}=some (cc m 2):=Rb (hcl 2 (by decide)) (by simp only[Dh]) (by simp only[Addr.add];repeat' split <;> (first|omega|(simp;omega)|simp)) rfl;have hx3:wr.cell? {block:=(ad.add (m*4)).block,off:=(ad.add (m*4)).off+3}=some (cc m 3):=Rb (hcl 3 (by decide)) (by simp only[Dh]) (by simp only[Addr.add];repeat' split <;> (first|omega|(simp;omega)|simp)) rfl;have hbx:wr.cell? p=some (.slice (some ad) len cap):=(World.cell?_of_block (a:=p) (hSk p.block hSb)).trans hBs;rw[hmi];have hm1:(m:Int)-1=(len:Int)-((k+1:Nat):Int)-1:=by omega
   have HM:=Lib.hid hm1;clear hm1;have HI:=Lib.hid hmi;clear hmi;have Hm:=Lib.hid hm;clear hm;have HSK:=Lib.hid hSk;clear hSk;clear hl hcl hSs
   gi_wp2
   refine hR.mono ?_;rintro e W3 (⟨rfl,hJ3,hk3⟩|⟨rfl,hJx3⟩)
   .have HK3:=Lib.hid hk3;clear hk3
    gi_wp2
    go_roundw
    case rel=>exact⟨k+1,by omega,by rw[←HM.out],hJ3,λq hq=>(HK3.out q hq).trans (HSK.out q hq)⟩
    case measure=>(simp[intOf];try omega)
   .gi_wp2
    refine bodyPost_ret (results_none rfl _ _ _) rfl ?_;exact⟨⟨_,rfl⟩,.inr hJx3⟩
  .obtain rfl:k=len:=by omega
   have hneg:((k:Int)-k-1) = -1:=by omega
   rw[hneg];clear hneg
   gi_wp2
   go_end0
   exact⟨⟨_,rfl⟩,.inl hJs⟩
theorem Ala(rows:List (List Pd))(h0:rows≠[])(hz:∀r,r∈rows->r.length=4):J5 Tryz.prog 362 [.ip [.s rows]] (enR rows):=by
 refine⟨Go.SL.Ej Tryz.func362 (by kernel_rfl) (by kernel_rfl),λS caps l J Jx W hgl hS hc hJ hY hst=>?_⟩;obtain⟨p,v,rfl,hp,hv,hr⟩:=Ate hc;have hpos:0<rows.length:=List.length_pos_iff.2 h0;cases hr with
 | s a ad cap size rows xs hcp hm hzc hsz hx hrr =>
  have hrow:∀m,m<rows.length->∃r,rows[m]?=some r/\r.length=4:=λm hm=>⟨rows[m],ak hm,hz _ (ck hm)⟩;have hs1:size=4:=by obtain⟨r,h1,h2⟩:=hrow 0 hpos;rw[←hsz r (ag h1)];exact h2
  subst hs1;have ha:a=some ad/\S ad.block:=by obtain⟨r,h1,h2⟩:=hrow 0 hpos;obtain⟨q1,q2,_⟩:=hx 0 r h1 0 r[0] (ak (by omega));exact⟨q1,q2⟩
  obtain⟨rfl,hsa⟩:=ha;refine(Aut l rows.length cap p ad xs (by unfold maxLen at hm;omega) S hp (λk W=>J ((enR rows).take k) (λ_=>False) W) Jx W (λk W1 hk hJk hSk=>?_) hv (λ_=>hsa) (λm j hm hj=>?_) (by simpa using hst)).mono ?_
  .have hg:=uV hk;have htk:(enR rows).take (k+1)=(enR rows).take k++[[.d (.p (xi (((rows.length-1-k:Nat):Int)))),Po (rows[rows.length-1-k]'(by omega))]]:=by
    rw[cO,hg];rfl
   have hdr:enR rows=(enR rows).take k++[.d (.p (xi (((rows.length-1-k:Nat):Int)))),Po (rows[rows.length-1-k]'(by omega))]::(enR rows).drop (k+1):=by have h1:=(bl (k+1) (enR rows)).symm;rw[htk]at h1;simpa using h1
   have hy:=hY ((enR rows).take k) _ ((enR rows).drop (k+1)) (λ_=>False) W1 #[.int .i64 (((rows.length-1-k:Nat):Int)),Ai1 xs (rows.length-1-k)] hJk hdr ⟨.d (.p (.v _ rfl)),?_,trivial⟩
   .obtain⟨fn,tmps,asg,bd,y1,y2⟩:=hy;refine⟨fn,tmps,asg,bd,y1,y2.mono ?_⟩;rintro e W' (⟨g1,g2,g3,_⟩|g)
    .exact .inl ⟨g1,by rw[htk];exact g2,λq hq=>g3 q (.inl hq)⟩
    .exact .inr g
   .have hb:rows.length-1-k<rows.length:=by omega
    obtain⟨r,h1,h2⟩:=hrow _ hb;have e1:rows[rows.length-1-k]=r:=by rw[ak hb]at h1;exact aQ h1
    rw[e1];have hcell:∀j(hj:j<r.length),RdP (λk=>S k\/False) W1 (xs (rows.length-1-k) j) r[j]:=λj hj=>(hrr _ r h1 j _ (ak hj)).mono (λ_ h=>.inl h) (λb hb=>hSk b hb)
    match r,h2,hcell with
    | [x0,x1,x2,x3],_,hcell=>exact .agg ⟨.p (hcell 0 (by simp)),.p (hcell 1 (by simp)),.p (hcell 2 (by simp)),.p (hcell 3 (by simp)),trivial⟩
  .obtain⟨r,h1,h2⟩:=hrow m hm;exact(hx m r h1 j r[j] (ak (by omega))).2.2
  .rintro e W' ⟨he,h|h⟩
   .refine⟨he,.inl ⟨λ_=>False,?_⟩⟩
    rwa [show rows.length=(enR rows).length from (uU rows).symm,be]at h
   .exact⟨he,.inr h⟩
abbrev Ai2(cc:Nat->Nat->Value)(m:Nat):Value:=cc m 0
set_option maxRecDepth 100000 in
theorem Auu(l len cap:Nat)(p ad:Addr)(cc:Nat->Nat->Value)(hreach:len<=9223372036854775807)(S:Nat->Prop)(hSb:S p.block)(J:Nat->World->Prop)(Jx:World->Prop)
  (W:World)(hY:∀k W1,k<len->J k W1->(∀k,S k->W1.heap[k]?=W.heap[k]?)->YieldAt Fence.wide 1 Tryz.prog l #[.int .i64 (((len-1-k:Nat):Int)),Ai2 cc (len-1-k)] W1 λe W'=>(e=.returned (.bool true)/\J (k+1) W'/\∀k,S k->W'.heap[k]?=W1.heap[k]?)\/(e=.returned (.bool false)/\Jx W'))
  (hBs:W.cell? p=some (.slice (some ad) len cap))(hSs:0<len->S ad.block)(hl:∀m j,m<len->j<1->W.cell? (ad.add (m*1+j))=some (cc m j))(h0:J 0 W) :
  CallsIn Fence.wide 2 Tryz.prog 224 #[.func (.yield l) #[] #[],.pointer (some p)] W λe W'=>(∃v,e=.returned v)/\(J len W'\/Jx W'):=by
 refine callsIn_of_wp Tryz.func224 rfl trivial ?_ rfl;simp only[Tryz.ntmps224,bB,aT,bn,Nat.reduceAdd,Nat.reduceSub,cK,cL,cM,cN,bG,cz]
 gi_wp2
 gi_loopw [3] (λi wr=>∃k:Nat,k<=len/\i=.int .i64 ((len:Int)-k-1)/\J k wr/\∀q,S q->wr.heap[q]?=W.heap[q]?)
  (λi _=>((intOf i)+1).toNat)
 case atStart=>exact⟨0,bi _,by rw[show (len:Int)-((0:Nat):Int)-1=(len:Int)-1 from by omega],h0,λ_ _=>rfl⟩
 case round=>
  obtain⟨k,hk,rfl,hJs,hSk⟩:=hrel;by_cases hlt:k<len
  .obtain⟨m,hm⟩:∃m:Nat,m=len-1-k:=⟨_,rfl⟩;have hmi:(len:Int)-k-1=m:=by omega
   have hml:m<len:=by omega
   obtain⟨fn,tmps,assign,body,hy,hR⟩:=hY _ wr hlt hJs hSk;rw[←hm]at hy;dsimp only[Ai2]at hy;have hcl:∀j,j<1->wr.cell? (ad.add (m*1+j))=some (cc m j):=λj hj=>(World.cell?_of_block (a:=ad.add (m*1+j)) (by rw[Dh];exact hSk _ (hSs (by omega)))).trans (hl m j hml hj);have hx0:wr.cell? (ad.add m)=some (cc m 0):=by have:=hcl 0 (by decide);rwa [Nat.mul_one,bo]at this
   have hbx:wr.cell? p=some (.slice (some ad) len cap):=(World.cell?_of_block (a:=p) (hSk p.block hSb)).trans hBs;rw[hmi];have hm1:(m:Int)-1=(len:Int)-((k+1:Nat):Int)-1:=by omega
   have HM:=Lib.hid hm1;clear hm1;have HI:=Lib.hid hmi;clear hmi;have Hm:=Lib.hid hm;clear hm;have HSK:=Lib.hid hSk;clear hSk;clear hl hcl hSs
   gi_wp2
   refine hR.mono ?_;rintro e W3 (⟨rfl,hJ3,hk3⟩|⟨rfl,hJx3⟩)
   .have HK3:=Lib.hid hk3;clear hk3
    gi_wp2
    go_roundw
    case rel=>exact⟨k+1,by omega,by rw[←HM.out],hJ3,λq hq=>(HK3.out q hq).trans (HSK.out q hq)⟩
    case measure=>(simp[intOf];try omega)
   .gi_wp2
    refine bodyPost_ret (results_none rfl _ _ _) rfl ?_;exact⟨⟨_,rfl⟩,.inr hJx3⟩
  .obtain rfl:k=len:=by omega
   have hneg:((k:Int)-k-1) = -1:=by omega
   rw[hneg];clear hneg
   gi_wp2
   go_end0
   exact⟨⟨_,rfl⟩,.inl hJs⟩
theorem Alb(rows:List (List Pd))(h0:rows≠[])(hz:∀r,r∈rows->r.length=1):J5 Tryz.prog 224 [.ip [.s rows]] (enR rows):=by
 refine⟨Go.SL.Ej Tryz.func224 (by kernel_rfl) (by kernel_rfl),λS caps l J Jx W hgl hS hc hJ hY hst=>?_⟩;obtain⟨p,v,rfl,hp,hv,hr⟩:=Ate hc;have hpos:0<rows.length:=List.length_pos_iff.2 h0;cases hr with
 | s a ad cap size rows xs hcp hm hzc hsz hx hrr =>
  have hrow:∀m,m<rows.length->∃r,rows[m]?=some r/\r.length=1:=λm hm=>⟨rows[m],ak hm,hz _ (ck hm)⟩;have hs1:size=1:=by obtain⟨r,h1,h2⟩:=hrow 0 hpos;rw[←hsz r (ag h1)];exact h2
  subst hs1;have ha:a=some ad/\S ad.block:=by obtain⟨r,h1,h2⟩:=hrow 0 hpos;obtain⟨q1,q2,_⟩:=hx 0 r h1 0 r[0] (ak (by omega));exact⟨q1,q2⟩
  obtain⟨rfl,hsa⟩:=ha;refine(Auu l rows.length cap p ad xs (by unfold maxLen at hm;omega) S hp (λk W=>J ((enR rows).take k) (λ_=>False) W) Jx W (λk W1 hk hJk hSk=>?_) hv (λ_=>hsa) (λm j hm hj=>?_) (by simpa using hst)).mono ?_
  .have hg:=uV hk;have htk:(enR rows).take (k+1)=(enR rows).take k++[[.d (.p (xi (((rows.length-1-k:Nat):Int)))),Po (rows[rows.length-1-k]'(by omega))]]:=by
    rw[cO,hg];rfl
   have hdr:enR rows=(enR rows).take k++[.d (.p (xi (((rows.length-1-k:Nat):Int)))),Po (rows[rows.length-1-k]'(by omega))]::(enR rows).drop (k+1):=by have h1:=(bl (k+1) (enR rows)).symm;rw[htk]at h1;simpa using h1
   have hy:=hY ((enR rows).take k) _ ((enR rows).drop (k+1)) (λ_=>False) W1 #[.int .i64 (((rows.length-1-k:Nat):Int)),Ai2 xs (rows.length-1-k)] hJk hdr ⟨.d (.p (.v _ rfl)),?_,trivial⟩
   .obtain⟨fn,tmps,asg,bd,y1,y2⟩:=hy;refine⟨fn,tmps,asg,bd,y1,y2.mono ?_⟩;rintro e W' (⟨g1,g2,g3,_⟩|g)
    .exact .inl ⟨g1,by rw[htk];exact g2,λq hq=>g3 q (.inl hq)⟩
    .exact .inr g
   .have hb:rows.length-1-k<rows.length:=by omega
    obtain⟨r,h1,h2⟩:=hrow _ hb;have e1:rows[rows.length-1-k]=r:=by rw[ak hb]at h1;exact aQ h1
    rw[e1];have hcell:∀j(hj:j<r.length),RdP (λk=>S k\/False) W1 (xs (rows.length-1-k) j) r[j]:=λj hj=>(hrr _ r h1 j _ (ak hj)).mono (λ_ h=>.inl h) (λb hb=>hSk b hb)
    match r,h2,hcell with
    | [x0],_,hcell=>exact .d (.p (hcell 0 (by simp)))
  .obtain⟨r,h1,h2⟩:=hrow m hm;exact(hx m r h1 j r[j] (ak (by omega))).2.2
  .rintro e W' ⟨he,h|h⟩
   .refine⟨he,.inl ⟨λ_=>False,?_⟩⟩
    rwa [show rows.length=(enR rows).length from (uU rows).symm,be]at h
   .exact⟨he,.inr h⟩
abbrev Ai0(cc:Nat->Nat->Value)(m:Nat):Value:=.agg #[cc m 0,cc m 1,cc m 2]
set_option maxRecDepth 100000 in
theorem Aus(l len cap:Nat)(p ad:Addr)(cc:Nat->Nat->Value)(hreach:len<=9223372036854775807)(S:Nat->Prop)(hSb:S p.block)(J:Nat->World->Prop)(Jx:World->Prop)
  (W:World)(hY:∀k W1,k<len->J k W1->(∀k,S k->W1.heap[k]?=W.heap[k]?)->YieldAt Fence.wide 1 Tryz.prog l #[.int .i64 (((len-1-k:Nat):Int)),Ai0 cc (len-1-k)] W1 λe W'=>(e=.returned (.bool true)/\J (k+1) W'/\∀k,S k->W'.heap[k]?=W1.heap[k]?)\/(e=.returned (.bool false)/\Jx W'))
  (hBs:W.cell? p=some (.slice (some ad) len cap))(hSs:0<len->S ad.block)(hl:∀m j,m<len->j<3->W.cell? (ad.add (m*3+j))=some (cc m j))(h0:J 0 W) :
  CallsIn Fence.wide 2 Tryz.prog 584 #[.func (.yield l) #[] #[],.pointer (some p)] W λe W'=>(∃v,e=.returned v)/\(J len W'\/Jx W'):=by
 refine callsIn_of_wp Tryz.func584 rfl trivial ?_ rfl;simp only[Tryz.ntmps584,bB,aT,bn,Nat.reduceAdd,Nat.reduceSub,cK,cL,cM,cN,bG,cz]
 gi_wp2
 gi_loopw [3] (λi wr=>∃k:Nat,k<=len/\i=.int .i64 ((len:Int)-k-1)/\J k wr/\∀q,S q->wr.heap[q]?=W.heap[q]?)
  (λi _=>((intOf i)+1).toNat)
 case atStart=>exact⟨0,bi _,by rw[show (len:Int)-((0:Nat):Int)-1=(len:Int)-1 from by omega],h0,λ_ _=>rfl⟩
 case round=>
  obtain⟨k,hk,rfl,hJs,hSk⟩:=hrel;by_cases hlt:k<len
  .obtain⟨m,hm⟩:∃m:Nat,m=len-1-k:=⟨_,rfl⟩;have hmi:(len:Int)-k-1=m:=by omega
   have hml:m<len:=by omega
   obtain⟨fn,tmps,assign,body,hy,hR⟩:=hY _ wr hlt hJs hSk;rw[←hm]at hy;dsimp only[Ai0]at hy;have hcl:∀j,j<3->wr.cell? (ad.add (m*3+j))=some (cc m j):=λj hj=>(World.cell?_of_block (a:=ad.add (m*3+j)) (by rw[Dh];exact hSk _ (hSs (by omega)))).trans (hl m j hml hj);have hx0:wr.cell? (ad.add (m*3))=some (cc m 0):=hcl 0 (by decide);have hx1:wr.cell? {block:=(ad.add (m*3)).block,off:=(ad.add (m*3)).off+1}=some (cc m 1):=Rb (hcl 1 (by decide)) (by simp only[Dh]) (by simp only[Addr.add];repeat' split <;> (first|omega|(simp;omega)|simp)) rfl;have hx2:wr.cell? {block:=(ad.add (m*3)).block,off:=(ad.add (m*3)).off+2}=some (cc m 2):=Rb (hcl 2 (by decide)) (by simp only[Dh]) (by simp only[Addr.add];repeat' split <;> (first|omega|(simp;omega)|simp)) rfl;have hbx:wr.cell? p=some (.slice (some ad) len cap):=(World.cell?_of_block (a:=p) (hSk p.block hSb)).trans hBs;rw[hmi];have hm1:(m:Int)-1=(len:Int)-((k+1:Nat):Int)-1:=by omega
   have HM:=Lib.hid hm1;clear hm1;have HI:=Lib.hid hmi;clear hmi;have Hm:=Lib.hid hm;clear hm;have HSK:=Lib.hid hSk;clear hSk;clear hl hcl hSs
   gi_wp2
   refine hR.mono ?_;rintro e W3 (⟨rfl,hJ3,hk3⟩|⟨rfl,hJx3⟩)
   .have HK3:=Lib.hid hk3;clear hk3
    gi_wp2
    go_roundw
    case rel=>exact⟨k+1,by omega,by rw[←HM.out],hJ3,λq hq=>(HK3.out q hq).trans (HSK.out q hq)⟩
    case measure=>(simp[intOf];try omega)
   .gi_wp2
    refine bodyPost_ret (results_none rfl _ _ _) rfl ?_;exact⟨⟨_,rfl⟩,.inr hJx3⟩
  .obtain rfl:k=len:=by omega
   have hneg:((k:Int)-k-1) = -1:=by omega
   rw[hneg];clear hneg
   gi_wp2
   go_end0
   exact⟨⟨_,rfl⟩,.inl hJs⟩
theorem Ak9(rows:List (List Pd))(h0:rows≠[])(hz:∀r,r∈rows->r.length=3):J5 Tryz.prog 584 [.ip [.s rows]] (enR rows):=by
 refine⟨Go.SL.Ej Tryz.func584 (by kernel_rfl) (by kernel_rfl),λS caps l J Jx W hgl hS hc hJ hY hst=>?_⟩;obtain⟨p,v,rfl,hp,hv,hr⟩:=Ate hc;have hpos:0<rows.length:=List.length_pos_iff.2 h0;cases hr with
 | s a ad cap size rows xs hcp hm hzc hsz hx hrr =>
  have hrow:∀m,m<rows.length->∃r,rows[m]?=some r/\r.length=3:=λm hm=>⟨rows[m],ak hm,hz _ (ck hm)⟩;have hs1:size=3:=by obtain⟨r,h1,h2⟩:=hrow 0 hpos;rw[←hsz r (ag h1)];exact h2
  subst hs1;have ha:a=some ad/\S ad.block:=by obtain⟨r,h1,h2⟩:=hrow 0 hpos;obtain⟨q1,q2,_⟩:=hx 0 r h1 0 r[0] (ak (by omega));exact⟨q1,q2⟩
  obtain⟨rfl,hsa⟩:=ha;refine(Aus l rows.length cap p ad xs (by unfold maxLen at hm;omega) S hp (λk W=>J ((enR rows).take k) (λ_=>False) W) Jx W (λk W1 hk hJk hSk=>?_) hv (λ_=>hsa) (λm j hm hj=>?_) (by simpa using hst)).mono ?_
  .have hg:=uV hk;have htk:(enR rows).take (k+1)=(enR rows).take k++[[.d (.p (xi (((rows.length-1-k:Nat):Int)))),Po (rows[rows.length-1-k]'(by omega))]]:=by
    rw[cO,hg];rfl
   have hdr:enR rows=(enR rows).take k++[.d (.p (xi (((rows.length-1-k:Nat):Int)))),Po (rows[rows.length-1-k]'(by omega))]::(enR rows).drop (k+1):=by have h1:=(bl (k+1) (enR rows)).symm;rw[htk]at h1;simpa using h1
   have hy:=hY ((enR rows).take k) _ ((enR rows).drop (k+1)) (λ_=>False) W1 #[.int .i64 (((rows.length-1-k:Nat):Int)),Ai0 xs (rows.length-1-k)] hJk hdr ⟨.d (.p (.v _ rfl)),?_,trivial⟩
   .obtain⟨fn,tmps,asg,bd,y1,y2⟩:=hy;refine⟨fn,tmps,asg,bd,y1,y2.mono ?_⟩;rintro e W' (⟨g1,g2,g3,_⟩|g)
    .exact .inl ⟨g1,by rw[htk];exact g2,λq hq=>g3 q (.inl hq)⟩
    .exact .inr g
   .have hb:rows.length-1-k<rows.length:=by omega
    obtain⟨r,h1,h2⟩:=hrow _ hb;have e1:rows[rows.length-1-k]=r:=by rw[ak hb]at h1;exact aQ h1
    rw[e1];have hcell:∀j(hj:j<r.length),RdP (λk=>S k\/False) W1 (xs (rows.length-1-k) j) r[j]:=λj hj=>(hrr _ r h1 j _ (ak hj)).mono (λ_ h=>.inl h) (λb hb=>hSk b hb)
    match r,h2,hcell with
    | [x0,x1,x2],_,hcell=>exact .agg ⟨.p (hcell 0 (by simp)),.p (hcell 1 (by simp)),.p (hcell 2 (by simp)),trivial⟩
  .obtain⟨r,h1,h2⟩:=hrow m hm;exact(hx m r h1 j r[j] (ak (by omega))).2.2
  .rintro e W' ⟨he,h|h⟩
   .refine⟨he,.inl ⟨λ_=>False,?_⟩⟩
    rwa [show rows.length=(enR rows).length from (uU rows).symm,be]at h
   .exact⟨he,.inr h⟩
end Go.Proofs.YtedojeimigneaaaGreatDoor
