import Derived.Test.YtiaaaghdkhnonaaGreatPl0
namespace Go.Proofs.YtiaaaghdkhnonaaGreat
open Go.SL
variable{α:Type}{b:Aa}{P p q r:Ab}{s:Af}{x:An}{t:Aw}{T c m v w:Int}{L:List A_}{D E:List An}{acts:List As}{C:eT}{d l s':eQ}{z:eQ×List As}{a broken fails:List a_}{i j k n:Nat}
def key(b:Aa)(c:Int):Int:=(b.Ae.getD c.toNat default).B1*100+c
theorem Vq{m:Nat}:(l.set m v).getD k 0=if m=k/\m<l.length then v else l.getD k 0:=by grind
theorem Vp(h:k<l.length:=by omega):getI l (k:Int)=some (l.getD k 0):=Bl (by grind)
structure Srt(b:Aa)(n i:Nat)(d:eQ):Prop where
 len:d.length=n
 low:∀k,k<i->k<n->0<=d.getD k 0/\d.getD k 0<(i:Int)
 asc:∀k m,k<m->m<i->m<n->key b (d.getD k 0)<key b (d.getD m 0)
 rest:∀k,i<=k->k<n->d.getD k 0=(k:Int)
 mem:∀v,v<n->∃k,k<n/\d.getD k 0=(v:Int)
structure Ins(b:Aa)(n i j:Nat)(d:eQ):Prop where
 len:d.length=n
 here:d.getD j 0=(i:Int)
 low:∀k,k<=i->k≠j->0<=d.getD k 0/\d.getD k 0<(i:Int)
 asc:∀k m,k<m->m<=i->k≠j->m≠j->key b (d.getD k 0)<key b (d.getD m 0)
 big:∀k,j<k->k<=i->key b (i:Int)<key b (d.getD k 0)
 rest:∀k,i<k->k<n->d.getD k 0=(k:Int)
 mem:∀v,v<n->∃k,k<n/\d.getD k 0=(v:Int)
theorem Srt.ins(h:Srt b n i d)(hi:i<n):Ins b n i i d where
 len:=h.len
 here:=h.rest i (af _) hi
 low k hk hne:=h.low k (by omega) (by omega)
 asc k m hkm hm hk hm2:=h.asc k m hkm (by omega) (by omega)
 big k h1 h2:=by omega
 rest k h1 h2:=h.rest k (by omega) h2
 mem:=h.mem
theorem Ins.done(h:Ins b n i j d)(hj:j<=i)(hk:0<j->key b (d.getD (j-1) 0)<key b (i:Int)):Srt b n (i+1) d:=by
 refine⟨h.len,λk h1 h2=>?_,λk m hkm hm hn=>?_,λk h1 h2=>h.rest k (by omega) h2,h.mem⟩
 .by_cases e:k=j
  .rw[e,h.here];omega
  .have:=h.low k (by omega) e;omega
 .have lo:∀k,k<j->key b (d.getD k 0)<key b (i:Int):=λk hkj=>by
   have h3:=hk (by omega);by_cases e:k=j-1
   .rw[e];exact h3
   .have:=h.asc k (j-1) (by omega) (by omega) (by omega) (by omega);omega
  by_cases e:k=j
  .subst e;rw[h.here];exact h.big m hkm (by omega)
  .by_cases e2:m=j
   .grind[Ins.here]
   .exact h.asc k m hkm (by omega) e e2
theorem Ins.step(h:Ins b n i j d)(hj:j<=i)(h0:0<j)(hi:i<n)(hk:key b (i:Int)<key b (d.getD (j-1) 0)):Ins b n i (j-1) ((d.set j (d.getD (j-1) 0)).set (j-1) (i:Int)):=by
 have hl:=h.len;have ev:∀k,((d.set j (d.getD (j-1) 0)).set (j-1) (i:Int)).getD k 0=if k=j-1 then (i:Int) else if k=j then d.getD (j-1) 0 else d.getD k 0:=λk=>by grind
 refine⟨by simp[hl],?_,λk h1 h2=>?_,λk m hkm hm hk1 hm1=>?_,λk h1 h2=>?_,λk h1 h2=>?_,λv hv=>?_⟩
 .rw[ev,eC rfl]
 .rw[ev,eF h2];split
  .exact h.low (j-1) (by omega) (by omega)
  .exact h.low k h1 (by omega)
 .rw[ev,ev,eF hk1,eF hm1];by_cases e1:k=j
  .rw[eC e1,eF (by omega)];subst e1;exact h.asc (k-1) m (by omega) hm (by omega) (by omega)
  .rw[eF e1];by_cases e2:m=j
   .rw[eC e2];exact h.asc k (j-1) (by omega) (by omega) e1 (by omega)
   .rw[eF e2];exact h.asc k m hkm hm e1 e2
 .rw[ev,eF (by omega)];split
  .exact hk
  .exact h.big k (by omega) h2
 .rw[ev,eF (by omega),eF (by omega)];exact h.rest k h1 h2
 .obtain⟨k,hk1,hk2⟩:=h.mem v hv;by_cases e1:k=j
  .grind[Ins.here]
  .by_cases e2:k=j-1
   .refine⟨j,by omega,?_⟩;rw[ev,eF (by omega),eC rfl,←hk2,e2]
   .refine⟨k,hk1,?_⟩;rw[ev,eF e2,eF e1];exact hk2
theorem Aqh{x y:Nat}(hx:x<b.Ae.length)(hy:y<b.Ae.length):R9 (x:Int) (y:Int) b=some (if(b.Ae.getD x default).B1<(b.Ae.getD y default).B1 then -1 else if(b.Ae.getD x default).B1>(b.Ae.getD y default).B1 then 1 else 0):=by unfold R9;rw[Bl (F2 hx),Bl (F2 hy)];simp only[ab,Pi]
theorem Aw2(h:Av b)(hi:i<b.Ae.length)(hd:Ins b b.Ae.length i i d) :
  Ok (whileN (Wj 0 b) 1152921504606846976 ((i:Int),d)) (D1 (λs=>Srt b b.Ae.length (i+1) s.2) λ(_:Unit)=>False):=by
 have hcl:=h.col;refine d4 (λs=>∃j:Nat,s.1=(j:Int)/\j<=i/\Ins b b.Ae.length i j s.2) (λs=>s.1.toNat) _ _ ⟨i,rfl,af _,hd⟩ (by dsimp only;omega) ?_;rintro⟨z,d⟩ ⟨j,hz,hj,hI⟩;dsimp only at hz hI;subst hz;have hl:=hI.len;unfold Wj;dsimp only;by_cases h0:0<j
 .have e1:decide ((j:Int)>0)=true:=dU (by omega);have e2:w64 ((j:Int)-1)=((j-1:Nat):Int):=by rw[Az];omega
  have hlow:=hI.low (j-1) (by omega) (by omega);obtain⟨v,hv⟩:∃v:Nat,d.getD (j-1) 0=(v:Int):=⟨(d.getD (j-1) 0).toNat,by omega⟩;have hvi:v<i:=by omega
  have ec:=Aqh (b:=b) hi (show v<b.Ae.length by omega);have g1:Au [(decide ((j:Int)>0),true)] (getI d (j:Int)) default=some (i:Int):=by rw[e1,Vp,hI.here];rfl
  have g2:Au [(decide ((j:Int)>0),true)] (getI d (w64 ((j:Int)-1))) default=some (v:Int):=by rw[e1,e2,Vp,hv];rfl
  rw[g1,g2];simp only[ab];have g3:Au [(decide ((j:Int)>0),true)] (R9 (i:Int) (v:Int) b) default=R9 (i:Int) (v:Int) b:=by rw[e1];rw[ec];rfl
  rw[g3,ec];simp only[ab];have hci:=h.co i _ (F2 hi);have hcv:=h.co v _ (F2 (show v<b.Ae.length by omega));have ki:key b (i:Int)=(b.Ae.getD i default).B1*100+(i:Int):=by unfold key;rw[ax]
  have kv:key b (v:Int)=(b.Ae.getD v default).B1*100+(v:Int):=by unfold key;rw[ax]
  refine c6 (λhq=>?_) (λhq=>?_)
  .simp only[Zi,ac,dM]at hq;have hlt:(b.Ae.getD i default).B1<(b.Ae.getD v default).B1:=by
    have:=hq.2;split at this
    .assumption
    .split at this <;> omega
   have e3:getI d (w64 ((j:Int)-1))=some (d.getD (j-1) 0):=by rw[e2,Vp]
   have e4:getI d (j:Int)=some (i:Int):=by rw[Vp,hI.here]
   rw[e3,e4];simp only[ab];rw[e2,Yy (by omega)];simp only[ab];rw[Vp (by rw[bz];omega)];simp only[ab];rw[Yy (by rw[bz];omega)];simp only[ab];refine c7 ⟨⟨j-1,rfl,by omega,hI.step hj h0 hi ?_⟩,by dsimp only;omega⟩;rw[hv,ki,kv];omega
  .refine d8 (hI.done hj λ_=>?_);simp only[Zi,bU,dN]at hq;have hge:¬(b.Ae.getD i default).B1<(b.Ae.getD v default).B1:=by
    intro hlt;rw[eC hlt]at hq;omega
   rw[hv,ki,kv];omega
 .have h00:j=0:=by omega
  subst h00;exact d8 (hI.done hj λhh=>by omega)
theorem A0p(h:Av b)(hd:Srt b b.Ae.length 0 d):Ok (uN d b) λy=>Srt b b.Ae.length b.Ae.length y.1:=by
 have hcl:=h.col;have hl:=hd.len;unfold uN Ag4;rw[hl];refine ef (P:=λy=>Srt b b.Ae.length b.Ae.length y.1) ?_ λy hy=>eo hy;refine ee (A:=λs=>s=((0:Int),(20:Int),d,b.Ao,b.Ah,b.Ad,b.Ae,b.Phase,b.Ar)) (B:=λ(_:Unit)=>False) ?_ (λs hs=>?_) eq
 .refine d4 (λs=>s=((0:Int),(20:Int),d,b.Ao,b.Ah,b.Ad,b.Ae,b.Phase,b.Ar)) (λ_=>0) _ _ rfl (by omega) ?_;intro s hs;subst hs;unfold Aca;dsimp only;refine c6 (λhq=>?_) (λ_=>d8 rfl);simp only[dM]at hq;omega
 .subst hs;dsimp only;refine ef (P:=λy=>Srt b b.Ae.length b.Ae.length y.1) ?_ λy hy=>?_
  .unfold uK;have e1:w64 (0+1)=1:=by rw[Az];rfl
   rw[e1];refine ee (A:=λs=>Srt b b.Ae.length b.Ae.length s.2) (B:=λ(_:Unit)=>False) ?_ (λs hs=>eo hs) eq;refine d4 (λs=>∃i:Nat,s.1=(i:Int)/\1<=i/\(i<=b.Ae.length\/b.Ae.length=0)/\Srt b b.Ae.length i s.2) (λs=>(100-s.1).toNat) _ _ ⟨1,rfl,by omega,by omega,?_⟩ (by dsimp only;omega) ?_
   .refine⟨hl,λk h1 h2=>?_,λk m h1 h2 h3=>by omega,λk h1 h2=>hd.rest k (by omega) h2,hd.mem⟩;have:k=0:=by omega
    subst this;have:=hd.rest 0 (af _) h2;dsimp only;rw[this];omega
   .rintro⟨z,d'⟩ ⟨i,hz,h1,h2,hS⟩;dsimp only at hz hS;subst hz;unfold Ab8;dsimp only;refine c6 (λhq=>?_) (λhq=>d8 ?_)
    .simp only[dM]at hq;have hin:i<b.Ae.length:=by omega
     refine Ok.inner (Aw2 h hin (hS.ins hin)) (λs hs=>?_) eq;have e2:w64 ((i:Int)+1)=((i+1:Nat):Int):=by rw[Az];omega
     rw[e2];exact c7 ⟨⟨i+1,rfl,by omega,by omega,hs⟩,by dsimp only;omega⟩
    .simp only[dN]at hq;dsimp only;have hge:b.Ae.length<=i:=by omega
     refine⟨hS.len,λk g1 g2=>?_,λk m g1 g2 g3=>hS.asc k m g1 (by omega) g3,λk g1 g2=>by omega,hS.mem⟩;obtain⟨w1,w2⟩:=hS.low k (by omega) g2;exact⟨w1,by omega⟩
  .refine ee (A:=λ_=>True) (B:=λ(_:Unit)=>False) ?_ (λs hs=>eo hy) eq;refine d4 (λ_=>True) (λ_=>0) _ _ trivial (by omega) ?_;intro s _;unfold Ab9;refine c6 (λhq=>?_) (λ_=>d8 trivial);simp only[dM]at hq;omega
def Ft(b:Aa):eQ:=(zP b).getD []
theorem L6(h:Av b):zP b=some (Ft b)/\Srt b b.Ae.length b.Ae.length (Ft b):=by
 have hcl:=h.col;have key:Ok (zP b) λy=>Srt b b.Ae.length b.Ae.length y:=by
  unfold zP;rw[Afl h];simp only[ab];refine c6 (λhc=>by simp at hc) (λ_=>?_);refine ee (A:=λs=>s.2=Dz b.Ae.length) (B:=λ(_:Unit)=>False) ?_ (λs hs=>?_) eq
  .refine d4 (λs=>∃i:Nat,s.1=(i:Int)/\i<=b.Ae.length/\s.2=Dz i) (λs=>(100-s.1).toNat) _ _ ⟨0,rfl,by omega,rfl⟩ (by dsimp only;omega) ?_;rintro⟨z,d⟩ ⟨i,hz,h1,h2⟩;dsimp only at hz h2;subst hz;subst h2;unfold Akp Asb;dsimp only;refine c6 (λhq=>?_) (λhq=>d8 ?_)
   .simp only[dM]at hq;refine(d7 (by simp[Dz];omega)).bind λy hy=>?_;have e2:w64 ((i:Int)+1)=((i+1:Nat):Int):=by rw[Az];omega
    rw[e2];refine c7 ⟨⟨i+1,rfl,by omega,?_⟩,by dsimp only;omega⟩;dsimp only;rw[hy];unfold Dz;rw[ci,bE];rfl
   grind
  .rw[hs];refine(A0p h ?_).bind λy hy=>eo hy;refine⟨by simp[Dz],λk h1=>by omega,λk m _ h1=>by omega,λk _ h2=>M1 h2,λv hv=>⟨v,hv,M1 hv⟩⟩
 obtain⟨r,e,hr⟩:=key;have:Ft b=r:=by unfold Ft;rw[e];rfl
 rw[this];exact⟨e,hr⟩
theorem U6(h:Av b)(hc:c∈Ft b):0<=c/\c<b.Ae.length:=by have hs:=(L6 h).2;obtain⟨k,hk⟩:=cZ.1 hc;have hlt:=(aa.1 hk).1;have:=hs.low k (by have:=hs.len;omega) (by have:=hs.len;omega);grind
theorem Xt(h:Av b):(Ft b).length=b.Ae.length:=(L6 h).2.len
theorem Abg(h:Av b):(Ft b).Nodup:=by have hs:=(L6 h).2;have hl:=hs.len;rw[cU,bm];intro i j hi hj hij e;have:=hs.asc i j hij (by omega) (by omega);grind
def K_(L:eQ)(l:eQ):Int:=l.foldl (λs c=>s+L.getD c.toNat 0) 0
theorem Pv(L:eQ)(l:eQ)(c:Int):K_ L (l++[c])=K_ L l+L.getD c.toNat 0:=by grind[K_]
def Cg(b:Aa)(p:Ab)(n:Nat):Nat:=((groups b p).getD n 0).toNat
def Cn(b:Aa)(p:Ab)(n:Nat):Int:=if 0<(isl b p (Cg b p n)).Ad.length then K_ p.Aj (isl b p (Cg b p n)).Ae else 0
def N5(b:Aa):eQ:=b.Ad.map (·.Rating)
def Ej(b:Aa)(p:Ab)(n:Nat):Int:=K_ (N5 b) (isl b p (Cg b p n)).Ad
variable{f:Nat}
theorem H_{i:Int}(hi:i∈(isl b p f).Ae):0<=i/\i<b.Ae.length:=by obtain⟨k,hk,rfl⟩:=an.1 hi;grind
theorem yL{i:Int}(hi:i∈(isl b p f).Ad):0<=i/\i<b.Ad.length:=by obtain⟨k,hk,rfl⟩:=an.1 hi;grind
theorem Qj(h:Av b)(hp:Ap b p)(h0:0<=c)(h1:c<b.Ae.length):getI p.Aj c=some (p.Aj.getD c.toNat 0)/\0<=p.Aj.getD c.toNat 0/\p.Aj.getD c.toNat 0<=(b.Ae.getD c.toNat default).Load/\p.Aj.getD c.toNat 0<=50000:=by have hn:=hp.nli;obtain⟨k,rfl⟩:∃k:Nat,c=(k:Int):=⟨c.toNat,by omega⟩;rw[ax];have hg:=F2 (b:=b) (i:=k);have hl:=hp.lim k _ _ (L9 (p:=p)) hg;have hc:=(h.co k _ hg).1;exact⟨Bl (L9),hl.1,hl.2,by omega⟩
theorem Axj(h0:0<=c)(h1:c<b.Ae.length):getI b.Ae c=some (b.Ae.getD c.toNat default):=by obtain⟨k,rfl⟩:∃k:Nat,c=(k:Int):=⟨c.toNat,by omega⟩;rw[ax];exact Bl (F2)
theorem Q8(h:Av b)(hp:Ap b p)(hn:n<b.Ao.toNat):Ag3 b p (n:Int)=some (Cn b p n)/\0<=Cn b p n/\Cn b p n<=800000:=by
 have hcl:=h.col;have hlen:(isl b p (Cg b p n)).Ae.length<=b.Ae.length:=E7 _ _;have key:Ok (Ag3 b p (n:Int)) λy=>y=Cn b p n/\0<=Cn b p n/\Cn b p n<=800000:=by
  unfold Ag3;have hof:Kr b p (n:Int)=some (isl b p (Cg b p n),true):=of_eq h hp hn;rw[hof];simp only[ab];refine ee (A:=λs=>s=Cn b p n/\0<=Cn b p n/\Cn b p n<=800000) (B:=λ(_:Unit)=>False) ?_ (λs hs=>eo hs) eq;by_cases hs:0<(isl b p (Cg b p n)).Ad.length
  .refine c8 (I:=λj s=>s=K_ p.Aj ((isl b p (Cg b p n)).Ae.take j)/\0<=s/\s<=50000*(j:Int)) ⟨rfl,by omega,by omega⟩ (λj c s hc hI=>?_) λs hI=>?_
   .obtain⟨h1,h2,h3⟩:=hI;have hj:j<(isl b p (Cg b p n)).Ae.length:=(aa.1 hc).1;have hcm:=H_ (ae hc);obtain⟨g1,g2,g3,g4⟩:=Qj h hp hcm.1 hcm.2;unfold zN;have e:decide (((isl b p (Cg b p n)).Ad.length:Int)>0)=true:=dU (by omega);show Ok (bif decide (((isl b p (Cg b p n)).Ad.length:Int)>0)then _ else _) _;rw[e,g1];simp only[ez,ab];rw[Az];refine c7 ⟨?_,by omega,by omega⟩;rw[Bc hc,Pv,h1]
   .rw[ay]at hI;have e:Cn b p n=K_ p.Aj (isl b p (Cg b p n)).Ae:=by unfold Cn;rw[eC hs]
    grind
  .have e:Cn b p n=0:=by unfold Cn;rw[eF hs]
   rw[e];refine c8 (I:=λ_ s=>s=0) rfl (λj c s hc hI=>?_) λs hI=>⟨hI,by omega,by omega⟩;unfold zN;have e:decide (((isl b p (Cg b p n)).Ad.length:Int)>0)=false:=dV (by omega);show Ok (bif decide (((isl b p (Cg b p n)).Ad.length:Int)>0)then _ else _) _;rw[e];exact c7 hI
 obtain⟨r,e,h1,h2⟩:=key;rw[h1]at e;exact⟨e,h2⟩
theorem M0(h:Av b)(hp:Ap b p)(hn:n<b.Ao.toNat):Ag2 b p (n:Int)=some (Ej b p n)/\0<=Ej b p n/\Ej b p n<=400000:=by
 have hcl:=h.sol;have hlen:(isl b p (Cg b p n)).Ad.length<=b.Ad.length:=E7 _ _;have key:Ok (Ag2 b p (n:Int)) λy=>y=Ej b p n/\0<=Ej b p n/\Ej b p n<=400000:=by
  unfold Ag2;have hof:Kr b p (n:Int)=some (isl b p (Cg b p n),true):=of_eq h hp hn;rw[hof];simp only[ab];refine ee (A:=λs=>s=Ej b p n/\0<=Ej b p n/\Ej b p n<=400000) (B:=λ(_:Unit)=>False) ?_ (λs hs=>eo hs) eq;refine c8 (I:=λj s=>s=K_ (N5 b) ((isl b p (Cg b p n)).Ad.take j)/\0<=s/\s<=50000*(j:Int)) ⟨rfl,by omega,by omega⟩ (λj c s hc hI=>?_) λs hI=>?_
  .obtain⟨h1,h2,h3⟩:=hI;have hj:j<(isl b p (Cg b p n)).Ad.length:=(aa.1 hc).1;have hcm:=yL (ae hc);unfold Akn;refine(d5 hcm.1 hcm.2).bind λy hy=>?_;have hr:=(h.so y (ae hy)).1;have e:(N5 b).getD c.toNat 0=y.Rating:=by simp[N5,List.getD,hy]
   rw[Az];refine c7 ⟨?_,by omega,by omega⟩;rw[Bc hc,Pv,h1,e]
  .rw[ay]at hI;unfold Ej;grind
 obtain⟨r,e,h1,h2⟩:=key;rw[h1]at e;exact⟨e,h2⟩
def Dx(b:Aa)(p:Ab)(n:Nat):Int:=max 0 (Cn b p n-Ej b p n)
theorem Abp(h:Av b)(hp:Ap b p)(acts:List As)(hn:n<b.Ao.toNat):Wm ⟨b,p,acts⟩ (n:Int)=some (Dx b p n):=by obtain⟨h1,h2,h3⟩:=Q8 h hp hn;obtain⟨h4,h5,h6⟩:=M0 h hp hn;unfold Wm;simp only[h1,h4,ab];rw[Az];rfl
theorem A1p(h:Av b)(hp:Ap b p)(hn:n<b.Ao.toNat):0<=Dx b p n/\Dx b p n<=800000:=by obtain⟨h1,h2,h3⟩:=Q8 h hp hn;obtain⟨h4,h5,h6⟩:=M0 h hp hn;unfold Dx;omega
def Bf(p:Ab)(L:eQ):Ab:=⟨p.Ag,p.Ad,L,p.Ai⟩
def Bs(p:Ab)(C:eT):Ab:=⟨C,p.Ad,p.Aj,p.Ai⟩
def D3(b:Aa)(p:Ab)(n:Nat)(c:Int):Int:=min (Dx b p n) (p.Aj.getD c.toNat 0-(b.Ae.getD c.toNat default).Least)
def Gt(b:Aa)(p:Ab)(n:Nat)(z:eQ×List As)(c:Int):eQ×List As:=
 if 0<D3 b (Bf p z.1) n c then (z.1.set c.toNat (z.1.getD c.toNat 0-D3 b (Bf p z.1) n c),z.2++[⟨5,c,z.1.getD c.toNat 0-D3 b (Bf p z.1) n c⟩]) else z
def Fw(b:Aa)(p:Ab)(n:Nat)(l:eQ)(z:eQ×List As):eQ×List As:=l.foldl (Gt b p n) z
theorem Aa9(hp:Ap b p){c:Nat}(hv:0<=v/\v<=(b.Ae.getD c default).Load):Ap b (Bf p (p.Aj.set c v)) where
 ncl:=hp.ncl
 nso:=hp.nso
 nli:=by simp[Bf,hp.nli]
 run:=hp.run
 lim i n x hn hx:=by
  simp only[Bf,aS]at hn;by_cases e:c=i
  .grind
  .rw[eF e]at hn;exact hp.lim i n x hn hx
 one:=hp.one
 brk:=hp.brk
theorem Xy(h:Av b)(hz:Ap b (Bf p z.1))(h0:0<=c)(h1:c<b.Ae.length):Ap b (Bf p (Gt b p n z c).1):=by
 unfold Gt;split
 .rename_i hl;obtain⟨_,g2,g3,_⟩:=Qj h hz h0 h1;have hco:=(h.co c.toNat _ (F2 (b:=b) (i:=c.toNat))).2.1;have hm:D3 b (Bf p z.1) n c<=z.1.getD c.toNat 0-(b.Ae.getD c.toNat default).Least:=Int.min_le_right _ _;exact Aa9 (p:=Bf p z.1) hz (c:=c.toNat) ⟨by omega,by have:(Bf p z.1).Aj.getD c.toNat 0=z.1.getD c.toNat 0:=rfl;omega⟩
 .exact hz
theorem Aec(h:Av b)(hp:Ap b p)(hl:∀c,c∈l->0<=c/\c<b.Ae.length)(ha:acts.length+l.length<=100000)(hn:n<b.Ao.toNat) :
  Wq ⟨b,p,acts⟩ l (n:Int)=some ⟨b,Bf p (Fw b p n l (p.Aj,acts)).1,(Fw b p n l (p.Aj,acts)).2⟩/\Ap b (Bf p (Fw b p n l (p.Aj,acts)).1)/\(Fw b p n l (p.Aj,acts)).2.length<=acts.length+l.length:=by
 have key : Ok (Wq ⟨b, p, acts⟩ l (n : Int)) λy => y = ⟨b, Bf p (Fw b p n l (p.Aj, acts)).1, (Fw b p n l (p.Aj, acts)).2⟩ /\ Ap b (Bf p (Fw b p n l (p.Aj, acts)).1) /\ (Fw b p n l (p.Aj, acts)).2.length <= acts.length + l.length := by
  unfold Wq;refine ee (A:=λs=>s=Fw b p n l (p.Aj,acts)/\Ap b (Bf p s.1)/\s.2.length<=acts.length+l.length) (B:=λ(_:Unit)=>False) ?_ (λs hs=>?_) eq
  .refine c8 (I:=λj s=>s=Fw b p n (l.take j) (p.Aj,acts)/\Ap b (Bf p s.1)/\s.2.length<=acts.length+j) ⟨rfl,hp,by simp⟩ (λj c s hc hI=>?_) λs hI=>?_
   .obtain⟨h1,h2,h3⟩:=hI;have hj:j<l.length:=(aa.1 hc).1;have hin:=hl c (ae hc);obtain⟨g1,g2,g3,g4⟩:=Qj h h2 hin.1 hin.2;have hco:=(h.co c.toNat _ (F2 (b:=b) (i:=c.toNat))).2.1;have hcl:=(h.co c.toNat _ (F2 (b:=b) (i:=c.toNat))).1;have hex:=A1p h h2 hn;have hE:=Abp h h2 s.2 hn;have hsucc:Fw b p n (l.take (j+1)) (p.Aj,acts)=Gt b p n s c:=by
     rw[Bc hc,h1];unfold Fw;rw[aI];rfl
    have hok:=Xy (n:=n) h h2 hin.1 hin.2;have hless:w64 ((Bf p s.1).Aj.getD c.toNat 0-(b.Ae.getD c.toNat default).Least)=(Bf p s.1).Aj.getD c.toNat 0-(b.Ae.getD c.toNat default).Least:=Az;have hlen:s.1.length=b.Ae.length:=h2.nli;unfold Ace;refine ef (P:=λy=>y=Dx b (Bf p s.1) n) (d6 hE rfl) λy hy=>?_;subst hy;refine ef (P:=λy=>y=(Bf p s.1).Aj.getD c.toNat 0) (d6 g1 rfl) λy hy=>?_;subst hy;refine ef (P:=λy=>y=b.Ae.getD c.toNat default) (d6 (Axj hin.1 hin.2) rfl) λy hy=>?_;subst hy;have em:min (Dx b (Bf p s.1) n) (w64 ((Bf p s.1).Aj.getD c.toNat 0-(b.Ae.getD c.toNat default).Least))=D3 b (Bf p s.1) n c:=by rw[hless];rfl
    have hlb:0<D3 b (Bf p s.1) n c->0<=(Bf p s.1).Aj.getD c.toNat 0-D3 b (Bf p s.1) n c/\(Bf p s.1).Aj.getD c.toNat 0-D3 b (Bf p s.1) n c<=50000:=λhh=>by have hm:D3 b (Bf p s.1) n c<=(Bf p s.1).Aj.getD c.toNat 0-(b.Ae.getD c.toNat default).Least:=Int.min_le_right _ _;omega
    refine c6 (λhq=>?_) (λhq=>?_)
    .simp only[Zk,em,dM,gt_iff_lt]at hq;have hb2:=hlb hq;rw[em,Az];have eS:Gt b p n s c=(s.1.set c.toNat (s.1.getD c.toNat 0-D3 b (Bf p s.1) n c),s.2++[⟨5,c,s.1.getD c.toNat 0-D3 b (Bf p s.1) n c⟩]):=by unfold Gt;rw[eC hq]
     refine(d9 hin.1).bind λy hy=>?_;subst hy;refine ef (P:=λv=>v=s.1.getD c.toNat 0-D3 b (Bf p s.1) n c) ?_ λv hv=>?_
     .refine(d5 hin.1 (by rw[bz];omega)).mono λv hv=>?_;rw[bT (by omega)]at hv;cases hv;rfl
     .subst hv;refine(d7 (by simp;omega)).bind λw hw=>c7 ?_;subst hw;rw[hsucc,eS];rw[eS]at hok;exact⟨rfl,hok,by simp;omega⟩
    .simp only[Zk,em,dN,gt_iff_lt]at hq;have eS:Gt b p n s c=s:=by unfold Gt;rw[eF hq]
     refine c7 ?_;rw[hsucc,eS];exact⟨rfl,h2,by show s.2.length<=_;omega⟩
   .rw[ay]at hI;exact hI
  .obtain⟨h1,h2,h3⟩:=hs;subst h1;exact eo ⟨rfl,h2,h3⟩
 obtain⟨r,e,h1,h2⟩:=key;rw[h1]at e;exact⟨e,h2⟩
def isC(c:Int)(x:Al):Bool:=x.Kind==3&&x.B==c
theorem Apw(h:Av b)(hp:Ap b p)(ha:acts.length<=100000)(c:Int):uR ⟨b,p,acts⟩ c=some (⟨b,Bs p (acC b p.Ag (isC c)),acts++acA b p.Ag (isC c)⟩,c):=by
 have hbl:=h.brl;have hnc:=hp.ncl;refine da ?_;unfold uR;refine ee (A:=λs=>s=Ck b p.Ag (isC c) b.Ah.length) (B:=λ(_:Unit)=>False) ?_ (λs hs=>?_) eq
 .refine c8 (I:=λj s=>s=Ck b p.Ag (isC c) j) rfl (λj x s hx hs=>?_) λs hs=>hs;have hj:j<b.Ah.length:=(aa.1 hx).1;have hfl:=F1 b p.Ag (isC c) j;have hfs:=Ll (C:=p.Ag) (q:=isC c) hx;subst hs;unfold Acf;rw[Cv (by omega),Bl (V6 hp hj)];simp only[ab];have e:Ag5 x c=isC c x:=rfl;rw[e,hfs];cases (p.Ag.getD j false&&isC c x) with
  |false=>refine c7 ?_;simp
  |true=>refine ef (P:=λy=>y=Ck b p.Ag (isC c) j++[(j:Int)]) (d7 (by simp;omega)) λy hy=>c7 ?_;rw[hy];simp
 .subst hs;have hfl:=F1 b p.Ag (isC c) b.Ah.length;refine ee (Y4 (b:=b) (p:=p) (acts:=acts) (l:=Ck b p.Ag (isC c) b.Ah.length) (by omega) λi hi=>?_) (λs hs=>?_) eq
  .obtain⟨k,rfl,hk,_⟩:=G2.1 hi;omega
  .subst hs;exact eo rfl
def Fq(b:Aa)(p:Ab)(n:Nat)(z:eT×List As)(c:Int):eT×List As:=
 if 0<p.Aj.getD c.toNat 0/\0<Dx b (Bs p z.1) n then (acC b z.1 (isC c),z.2++acA b z.1 (isC c)) else z
def Eb(b:Aa)(p:Ab)(n:Nat)(l:eQ)(z:eT×List As):eT×List As:=l.foldl (Fq b p n) z
theorem Ajg(h:Av b)(hp:Ap b p)(hl:∀c,c∈l->0<=c/\c<b.Ae.length)(ha:acts.length+24*l.length<=100000)(hn:n<b.Ao.toNat) :
  Wp ⟨b,p,acts⟩ l (n:Int)=some ⟨b,Bs p (Eb b p n l (p.Ag,acts)).1,(Eb b p n l (p.Ag,acts)).2⟩/\Ap b (Bs p (Eb b p n l (p.Ag,acts)).1)/\(Eb b p n l (p.Ag,acts)).2.length<=acts.length+24*l.length:=by
 have hbl:=h.brl
 have key : Ok (Wp ⟨b, p, acts⟩ l (n : Int)) λy => y = ⟨b, Bs p (Eb b p n l (p.Ag, acts)).1, (Eb b p n l (p.Ag, acts)).2⟩ /\ Ap b (Bs p (Eb b p n l (p.Ag, acts)).1) /\ (Eb b p n l (p.Ag, acts)).2.length <= acts.length + 24 * l.length := by
  unfold Wp;refine ee (A:=λs=>∃z:eT×List As,s=(b.Ao,b.Ah,b.Ad,b.Ae,b.Phase,b.Ar,z.1,p.Ad,p.Aj,p.Ai,z.2)/\z=Eb b p n l (p.Ag,acts)/\Ap b (Bs p z.1)/\z.2.length<=acts.length+24*l.length) (B:=λ(_:Unit)=>False) ?_ (λs hs=>?_) eq
  .refine c8 (I:=λj s=>∃z:eT×List As,s=(b.Ao,b.Ah,b.Ad,b.Ae,b.Phase,b.Ar,z.1,p.Ad,p.Aj,p.Ai,z.2)/\z=Eb b p n (l.take j) (p.Ag,acts)/\Ap b (Bs p z.1)/\z.2.length<=acts.length+24*j) ⟨(p.Ag,acts),rfl,rfl,hp,by simp⟩ (λj c s hc hI=>?_) λs hI=>?_
   .obtain⟨z,h0,h1,h2,h3⟩:=hI;subst h0;have hj:j<l.length:=(aa.1 hc).1;have hin:=hl c (ae hc);obtain⟨g1,g2,g3,g4⟩:=Qj h hp hin.1 hin.2;have hE:=Abp h h2 z.2 hn;have hsucc:Eb b p n (l.take (j+1)) (p.Ag,acts)=Fq b p n z c:=by
     rw[Bc hc,h1];unfold Eb;rw[aI];rfl
    unfold Acd;refine ef (P:=λy=>y=p.Aj.getD c.toNat 0) (d6 g1 rfl) λy hy=>?_;subst hy;have stay:¬(0<p.Aj.getD c.toNat 0/\0<Dx b (Bs p z.1) n)->∃w:eT×List As,(b.Ao,b.Ah,b.Ad,b.Ae,b.Phase,b.Ar,z.1,p.Ad,p.Aj,p.Ai,z.2)=(b.Ao,b.Ah,b.Ad,b.Ae,b.Phase,b.Ar,w.1,p.Ad,p.Aj,p.Ai,w.2)/\w=Eb b p n (l.take (j+1)) (p.Ag,acts)/\Ap b (Bs p w.1)/\w.2.length<=acts.length+24*(j+1):=λhh=>by
     have eS:Fq b p n z c=z:=by unfold Fq;rw[eF hh]
     exact⟨z,rfl,by rw[hsucc,eS],h2,by omega⟩
    cases hq:decide (p.Aj.getD c.toNat 0>0) with
    |false=>simp only[dN]at hq;exact c7 (stay λhh=>hq hh.1)
    | true=>
     simp only[dM]at hq;refine ef (P:=λy=>y=Dx b (Bs p z.1) n) (d6 hE rfl) λy hy=>?_;subst hy;cases hq2:decide (Dx b (Bs p z.1) n>0) with
     |false=>simp only[dN]at hq2;exact c7 (stay λhh=>hq2 hh.2)
     |true=>
      simp only[dM]at hq2;have hS:=Apw h h2 (acts:=z.2) (by omega) c;refine ef (P:=λy=>y=_) (d6 hS rfl) λy hy=>c7 ?_;subst hy;have eS:Fq b p n z c=(acC b z.1 (isC c),z.2++acA b z.1 (isC c)):=by unfold Fq;rw[eC ⟨hq,hq2⟩]
      refine⟨(acC b z.1 (isC c),z.2++acA b z.1 (isC c)),rfl,by rw[hsucc,eS],Nf h2 (isC c),?_⟩;have:=Rv b z.1 (isC c);grind
   .rw[ay]at hI;exact hI
  .obtain⟨z,h0,h1,h2,h3⟩:=hs;subst h0;subst h1;exact eo ⟨rfl,h2,h3⟩
 obtain⟨r,e,h1,h2⟩:=key;rw[h1]at e;exact⟨e,h2⟩
def Da(x:An)(c:Int):Bool:=x.Ae.any (c == ·)
theorem Azj(hx:x.Ae.length<=1000)(c:Int):Wr c x=some (!Da x c):=by unfold Wr;rw[He _ _ (by omega)];rfl
theorem Abv{x:An}(hx:x.Ae.length<=1000):∀(l:eQ)(k:Nat),foldI (Wy x) l k ()=match l.findIdx? λc=>!Da x c with
  |some j=>some (.ret (cnt 0 (k+j),x))
  |none=>some (.next ())
 | [],_=>rfl
 | c::l,k=>by
  simp only[foldI,Wy,Azj hx,ab,List.findIdx?_cons];cases hq:(!Da x c) with
  |true=>rfl
  |false=>simp only[eB,cR,if_false];rw[Abv hx l (k+1)];grind
theorem A1r(hx:x.Ae.length<=1000)(l:eQ)(hl:l.length<=1000):Wt l x=some (l.filter (Da x),x):=by
 refine da ?_;unfold Wt Ahh;rw[Abv hx];cases hf:l.findIdx? λc=>!Da x c with
 | none=>
  rw[cS]at hf;refine eo ?_;have:l.filter (Da x)=l:=by rw[cd];intro c hc;have:=hf c hc;simpa using this
  rw[this]
 | some i=>
  rw[cj]at hf;obtain⟨hi,hp,hn⟩:=hf;have e0:cnt 0 (0+i)=(i:Int):=by rw[aN];exact Cv (by omega)
  simp only[e0,andThen,ab];refine c6 (λhc=>?_) (λ_=>?_)
  .simp only[dQ]at hc;omega
  have e1:w64 ((i:Int)+1)=(i:Int)+1:=Az;rw[e1];refine ee (A:=λs=>0<=s.1/\s.1<=(l.length:Int)/\s.2.2.length=l.length/\s.2.2.take s.1.toNat=l.filter (Da x)) (B:=λ(_:Unit)=>False) ?_ ?_ eq
  .refine d4 (λs=>(0<=s.1/\s.1<s.2.1/\s.2.1<=(l.length:Int))/\s.2.2.length=l.length/\s.2.2.take s.1.toNat=(l.take s.2.1.toNat).filter (Da x)/\s.2.2.drop s.2.1.toNat=l.drop s.2.1.toNat) (λs=>((l.length:Int)-s.2.1).toNat) _ _ ?_ ?_ ?_
   .refine⟨by dsimp only;omega,rfl,?_,rfl⟩;dsimp only;have e2:((i:Int)+1).toNat=i+1:=by omega
    rw[e2,ax,Bc (aj hi),aY];have h1:(l.take i).filter (Da x)=l.take i:=by rw[cd];intro c hc;obtain⟨j,hj,rfl⟩:=cw hc;simp only[aV]at hj;rw[List.getElem_take];have:=hn j (by omega);simpa using this
    have h2:Da x l[i]=false:=by simpa using hp
    rw[h1];simp[h2]
   .dsimp only;omega
   .rintro⟨a,j,m⟩ ⟨⟨h1,h2,h3⟩,h4,h5,h6⟩;dsimp only at h1 h2 h3 h4 h5 h6;unfold Ws Afo;dsimp only;refine c6 (λhq=>?_) (λhq=>?_)
    .simp only[dM]at hq;have e1:w64 (j+1)=j+1:=Az;have e2:w64 (a+1)=a+1:=Az;have e3:(j+1).toNat=j.toNat+1:=by omega
     have e4:(a+1).toNat=a.toNat+1:=by omega
     refine(d5 (by omega) (by omega)).bind λy hy=>?_;have hyl:l[j.toNat]?=some y:=by have:=congrArg (·[0]?) h6;simp only[aw,bD]at this;rw[←this];exact hy
     have hdrop:∀(q:eQ),q.drop j.toNat=l.drop j.toNat->q.drop (j.toNat+1)=l.drop (j.toNat+1):=λq hq=>by rw[←bC,hq,bC]
     rw[Azj hx];simp only[ab,Bool.not_not];refine c6 (λhf=>?_) (λhf=>?_)
     .refine(d5 (by omega) (by omega)).bind λ_ _=>(d9 (by omega)).bind λz hz=>?_;rw[e1,e2];subst hz;refine c7 ⟨⟨by dsimp only;omega,by simpa using h4,?_,?_⟩,by dsimp only;omega⟩
      .dsimp only;rw[e3,e4,Bc hyl,aY,←h5];rw[Bc (x:=y) (by rw[bT (by omega)])];simp[hf,List.take_set_of_le]
      .dsimp only;rw[e3,List.drop_set_of_lt (by omega)];exact hdrop m h6
     .rw[e1];refine c7 ⟨⟨by dsimp only;omega,h4,?_,?_⟩,by dsimp only;omega⟩
      .dsimp only;rw[e3,Bc hyl,aY,←h5];simp[hf]
      .dsimp only;rw[e3];exact hdrop m h6
    .simp only[dN]at hq;have e:j.toNat=l.length:=by omega
     refine d8 ⟨h1,by dsimp only;omega,h4,?_⟩;dsimp only;rw[h5,e,ay]
  .rintro⟨a,j,m⟩ ⟨h1,h2,h3,h4⟩;dsimp only at h1 h2 h3 h4 ⊢;have hc:(Io m a.toNat ((Int.toNat (m.length:Int))-a.toNat) (0:Int)).length=l.length:=by
    simp[Io];omega
   refine(Ok.bndI h1 (by omega) (by omega)).bind λ_ _=>(Ok.bndI (by omega) h1 (by rw[hc];omega)).bind λ_ _=>eo ?_;rw[←h4];unfold Io;rw[Nat.sub_zero,cT (by simp;omega),List.take_take,Nat.min_self]
def Fl(b:Aa)(x:An):eQ:=(Ft b).filter (Da x)
theorem Oq(h:Av b)(hc:c∈Fl b x):0<=c/\c<b.Ae.length:=U6 h (ar.1 hc).1
theorem Ad3(h:Av b)(x:An):(Fl b x).length<=16:=by have h1:=bc (Da x) (Ft b);have h2:=Xt h;have h3:=h.col;unfold Fl;omega
def Cx(x:An):Nat:=(x.Ao.headD 0).toNat
def Gj(b:Aa)(x:An)(z:Ab×List As):eQ×List As:=Fw b z.1 (Cx x) (Fl b x) (z.1.Aj,z.2)
def I8(b:Aa)(x:An)(z:Ab×List As):eT×List As:=Eb b (Bf z.1 (Gj b x z).1) (Cx x) (Fl b x) (z.1.Ag,(Gj b x z).2)
def Gz(b:Aa)(z:Ab×List As)(x:An):Ab×List As:=
 if 0<x.Ad.length then (Bs (Bf z.1 (Gj b x z).1) (I8 b x z).1,(I8 b x z).2) else z
def Gk(b:Aa)(l:List An)(z:Ab×List As):Ab×List As:=l.foldl (Gz b) z
structure Adc(b:Aa)(x:An):Prop where
 cons:x.Ae.length<=16
 ne:x.Ao≠[]
 bus:∀n,n∈x.Ao->0<=n/\n<b.Ao
theorem Vh(h:Av b)(hx:x∈Bq b p):Adc b x:=by
 have hcl:=h.col;unfold Bq at hx;obtain⟨h1,h2⟩:=ar.1 hx;obtain⟨f,hf,rfl⟩:=an.1 h1;have hc:(isl b p f).Ae.length<=b.Ae.length:=E7 _ _;refine⟨by omega,λe=>?_,λn hn=>?_⟩
 .unfold Km at h2;rw[e]at h2;simp at h2
 .obtain⟨k,hk,rfl⟩:=an.1 hn;grind
theorem Tv(hx:Adc b x):getI x.Ao 0=some ((Cx x:Nat):Int)/\Cx x<b.Ao.toNat:=by
 unfold Cx;cases hb:x.Ao with
 |nil=>exact absurd hb hx.ne
 |cons n l=>
  have:=hx.bus n (by rw[hb];exact ai);simp only[List.headD_cons];refine⟨?_,by omega⟩;have e:(n.toNat:Int)=n:=by omega
  rw[e];rfl
theorem A0s(h:Av b)(hp:Ap b p)(ha:acts.length<=1000) :
  Wz ⟨b,p,acts⟩=some ⟨b,(Gk b (Bq b p) (p,acts)).1,(Gk b (Bq b p) (p,acts)).2⟩/\Ap b (Gk b (Bq b p) (p,acts)).1/\(Gk b (Bq b p) (p,acts)).2.length<=10000:=by
 have hil:=L_ b p;have hbu:=h.buses;have hcl:=h.col;have hol:=Xt h;have key:Ok (Wz ⟨b,p,acts⟩) λy=>y=⟨b,(Gk b (Bq b p) (p,acts)).1,(Gk b (Bq b p) (p,acts)).2⟩/\Ap b (Gk b (Bq b p) (p,acts)).1/\(Gk b (Bq b p) (p,acts)).2.length<=10000:=by
  unfold Wz;simp only[(L6 h).1,ab];have hi:Aao b p=some (Bq b p):=Lj h hp;refine ef (P:=λy=>y=Bq b p) (d6 hi rfl) λy hy=>?_;subst hy;refine ee (A:=λs=>∃z:Ab×List As,s=(b.Ao,b.Ah,b.Ad,b.Ae,b.Phase,b.Ar,z.1.Ag,z.1.Ad,z.1.Aj,z.1.Ai,z.2)/\z=Gk b (Bq b p) (p,acts)/\Ap b z.1/\z.2.length<=10000) (B:=λ(_:Unit)=>False) ?_ (λs hs=>?_) eq
  .refine c8 (I:=λj s=>∃z:Ab×List As,s=(b.Ao,b.Ah,b.Ad,b.Ae,b.Phase,b.Ar,z.1.Ag,z.1.Ad,z.1.Aj,z.1.Ai,z.2)/\z=Gk b ((Bq b p).take j) (p,acts)/\Ap b z.1/\z.2.length<=1000+400*j) ⟨(p,acts),rfl,rfl,hp,by simpa using ha⟩ (λj x s hx hI=>?_) λs hI=>?_
   .obtain⟨z,h0,h1,h2,h3⟩:=hI;subst h0;have hj:j<(Bq b p).length:=(aa.1 hx).1;have hin:=Vh h (ae hx);have hsucc:Gk b ((Bq b p).take (j+1)) (p,acts)=Gz b z x:=by
     rw[Bc hx,h1];unfold Gk;rw[aI];rfl
    have hc:=hin.cons;have hol2:=Ad3 h x;obtain⟨e0,hb0⟩:=Tv hin;unfold Ack;have ecl:Qy (Ft b)=some (Ft b):=by unfold Qy;rw[H3]
    rw[ecl];simp only[ab];rw[A1r (by omega) _ (by omega)];simp only[ab];refine c6 (λhq=>?_) (λhq=>?_)
    .simp only[dM]at hq;rw[e0];simp only[ab];obtain⟨l1,l2,l3⟩:=Aec h h2 (acts:=z.2) (l:=Fl b x) (λc hc=>Oq h hc) (by omega) hb0;refine ef (P:=λy=>y=_) (d6 l1 rfl) λy hy=>?_;subst hy;obtain⟨t1,t2,t3⟩:=Ajg h l2 (acts:=(Gj b x z).2) (l:=Fl b x) (λc hc=>Oq h hc) (by unfold Gj;omega) hb0;refine ef (P:=λy=>y=_) (d6 t1 rfl) λy hy=>c7 ?_;subst hy;have eS:Gz b z x=(Bs (Bf z.1 (Gj b x z).1) (I8 b x z).1,(I8 b x z).2):=by unfold Gz;rw[eC (by omega)]
     refine⟨(Bs (Bf z.1 (Gj b x z).1) (I8 b x z).1,(I8 b x z).2),rfl,by rw[hsucc,eS],t2,?_⟩;have t4:(I8 b x z).2.length<=(Gj b x z).2.length+24*(Fl b x).length:=t3;have l4:(Gj b x z).2.length<=z.2.length+(Fl b x).length:=l3;show (I8 b x z).2.length<=_;omega
    .simp only[dN]at hq;have eS:Gz b z x=z:=by unfold Gz;rw[eF (by omega)]
     exact c7 ⟨z,rfl,by rw[hsucc,eS],h2,by omega⟩
   .rw[ay]at hI;obtain⟨z,h0,h1,h2,h3⟩:=hI;exact⟨z,h0,h1,h2,by omega⟩
  .obtain⟨z,h0,h1,h2,h3⟩:=hs;subst h0;subst h1;exact eo ⟨rfl,h2,h3⟩
 obtain⟨r,e,h1,h2⟩:=key;rw[h1]at e;exact⟨e,h2⟩
def Av5(b:Aa)(p:Ab):Ab×List As:=Gk b (Bq b (J8 b p)) (J8 b p,Ns b p)
def Qg(b:Aa)(p:Ab):Ab:=(Av5 b p).1
def Dg(b:Aa)(p:Ab):List As:=(Av5 b p).2
theorem Ju(h:Av b)(hp:Ap b p):Ao5 b p=some (Qg b p,Dg b p,0)/\Ap b (Qg b p)/\(Dg b p).length<=10000:=by have hbl:=h.brl;have hcl:=Zh b p;obtain⟨s1,s2,s3⟩:=A0s h (zD hp) (acts:=Ns b p) (by omega);refine⟨?_,s2,s3⟩;unfold Ao5 Ahk Ahj;rw[Fs h hp,H1 h hp];simp only[ab,bne_self_eq_false,eB];rw[Axl h hp];simp only[ab];rw[s1];rfl
theorem Ax8(h:Av b){p:Am}(hp:Ap b p.Power)(h1:p.A0.length<=1000)(h2:p.A6.length<=10000000):Ape b p=some ⟨p,b,[],[]⟩:=by unfold Ape Aax Aaw;rw[H1 h hp,H3,H3];rfl
theorem P5{f:Nat->α->Unit->Option (Ctl Unit Bool)}{l m:List α}{e:α->α->Bool}(he:∀x y,e x y=true->x=y)
  (hf:∀(j:Nat) x y,l[j]?=some x->m[j]?=some y->f j x ()=bif !e x y then some (.ret false) else some (.next ()))(hl:l.length=m.length) :
  Ok (andThen (foldI f l 0 ()) some λ_=>some true) λv=>v=true->l=m:=by
 refine ee (A:=λ_=>l=m) (B:=λv=>v=false) ?_ (λ_ hs=>eo λ_=>hs) (λv hv=>eo λhh=>by rw[hv]at hh;cases hh);refine c8 (I:=λj _=>l.take j=m.take j) rfl (λj x _ hx hI=>?_) λ_ hI=>?_
 .have hj:=(aa.1 hx).1;have hy:m[j]?=some (m[j]'(by omega)):=aj (by omega);rw[hf j x _ hx hy];refine c6 (λ_=>Ok.ret rfl) (λhq=>c7 ?_);have:=he _ _ (by simpa using hq);rw[Bc hx,Bc hy,hI,←this]
 grind
theorem A4f{l m:eT}(h:l.length<=1000):Ok (Aan l m) λv=>v=true->l=m:=by
 unfold Aan;refine c6 (λ_=>eo λhh=>by cases hh) (λhq=>?_);have hl:l.length=m.length:=by grind
 refine P5 (e:=λx y=>x==y) (λx y hh=>by simpa using hh) (λj x y hx hy=>?_) hl;have hj:=(aa.1 hx).1;unfold Aam;rw[Cv (by omega),Bl hy];rfl
theorem A4e{m:eQ}(h:l.length<=1000):Ok (Aaj l m) λv=>v=true->l=m:=by
 unfold Aaj;refine c6 (λ_=>eo λhh=>by cases hh) (λhq=>?_);have hl:l.length=m.length:=by grind
 refine P5 (e:=λx y=>x==y) (λx y hh=>by simpa using hh) (λj x y hx hy=>?_) hl;have hj:=(aa.1 hx).1;unfold Aai;rw[Cv (by omega),Bl hy];rfl
theorem A4c{l m:List Ak}(h:l.length<=1000):Ok (Aal l m) λv=>v=true->l=m:=by
 unfold Aal;refine c6 (λ_=>eo λhh=>by cases hh) (λhq=>?_);have hl:l.length=m.length:=by grind
 refine P5 (e:=λx y=>(x.State==y.State)&&((x.Since==y.Since)&&((x.Ar==y.Ar)&&((x.Phase==y.Phase)&&true)))) (λx y hh=>?_) (λj x y hx hy=>?_) hl
 .simp only[ac,dQ]at hh;obtain⟨h1,h2,h3,h4,_⟩:=hh;cases x;cases y;simp_all
 .have hj:=(aa.1 hx).1;unfold Aak;rw[Cv (by omega),Bl hy];rfl
theorem A4d{l m:List a_}(h:l.length<=1000):Ok (Aah l m) λv=>v=true->l=m:=by
 unfold Aah;refine c6 (λ_=>eo λhh=>by cases hh) (λhq=>?_);have hl:l.length=m.length:=by grind
 refine P5 (e:=λx y=>(x.Kind==y.Kind)&&((x.Number==y.Number)&&true)) (λx y hh=>?_) (λj x y hx hy=>?_) hl
 .simp only[ac,dQ]at hh;obtain⟨h1,h2,_⟩:=hh;cases x;cases y;simp_all
 .have hj:=(aa.1 hx).1;unfold Aag;rw[Cv (by omega),Bl hy];rfl
def Ml(p q:Ab):Bool:=(F99 p q).getD false
theorem A0u(hp:zM p)(q:Ab):F99 p q=some (Ml p q)/\(Ml p q=true->p=q):=by
 have h1:=hp.c;have h2:=hp.s;have h3:=hp.l;have h4:=hp.k;have key:Ok (F99 p q) λv=>v=true->p=q:=by
  unfold F99;refine(A4f (l:=p.Ag) (m:=q.Ag) (by omega)).bind λv1 e1=>?_;cases v1 with
  |false=>exact eo λhh=>by simp at hh
  | true=>
   refine ef (P:=λv=>v=true->p.Ad=q.Ad) (A4c (by omega)) λv2 e2=>?_;cases v2 with
   |false=>exact eo λhh=>by simp at hh
   | true=>
    refine ef (P:=λv=>v=true->p.Aj=q.Aj) (A4e (by omega)) λv3 e3=>?_;cases v3 with
    |false=>exact eo λhh=>by simp at hh
    |true=>refine ef (P:=λv=>v=true->p.Ai=q.Ai) (A4d (by omega)) λv4 e4=>eo λhh=>?_;have w1:=e1 rfl;have w2:=e2 rfl;have w3:=e3 rfl;have w4:=e4 (by simpa using hh);cases p;cases q;simp_all
 obtain⟨r,e,hr⟩:=key;have:Ml p q=r:=by unfold Ml;rw[e];rfl
 rw[this];exact⟨e,hr⟩
def ap(p:Ab)(x:As):Ab:=if x.Kind=2 then Bs p (p.Ag.set x.Unit.toNat false) else Bf p (p.Aj.set x.Unit.toNat x.Value)
def Apl(b:Aa)(x:As):Prop:=(x.Kind=2/\0<=x.Unit/\x.Unit<b.Ah.length)\/(x.Kind=5/\(0<=x.Unit/\x.Unit<b.Ae.length)/\0<=x.Value/\x.Value<=(b.Ae.getD x.Unit.toNat default).Load)
theorem A0e(hp:Ap b p){x:As}(hx:Apl b x):Ap b (ap p x):=by
 unfold ap;rcases hx with⟨hk,_⟩|⟨hk,h1,h2⟩
 .rw[eC hk];exact Amj hp _
 .rw[eF (by omega)];exact Aa9 hp h2
def Gx(b:Aa)(p:Ab)(z:Ab×List As):Prop:=z.2.foldl ap p=⟨z.1.Ag,p.Ad,z.1.Aj,p.Ai⟩/\∀x,x∈z.2->Apl b x
theorem Aga{p q:Ab}:∀(l:eQ)(C:eT),q=Bs p C->(Fg l).foldl ap q=Bs p (Di C l)
 | [],C,hq=>hq
 |i::l,C,hq=>by subst hq;exact Aga l (C.set i.toNat false) rfl
theorem vU{z:Ab×List As}(hz:Gx b p z)(q:Al->Bool)(S:List Ak):Gx b p (⟨acC b z.1.Ag q,S,z.1.Aj,z.1.Ai⟩,z.2++acA b z.1.Ag q):=by
 refine⟨?_,λx hx=>?_⟩
 .dsimp only;rw[aI,hz.1];exact Aga (p:=⟨z.1.Ag,p.Ad,z.1.Aj,p.Ai⟩) (Ck b z.1.Ag q b.Ah.length) z.1.Ag rfl
 .rcases am.1 hx with hx|hx
  .exact hz.2 x hx
  .obtain⟨i,hi,rfl⟩:=an.1 hx;obtain⟨k,rfl,hk,_⟩:=G2.1 hi;exact .inl ⟨rfl,by dsimp only;omega,by dsimp only;omega⟩
theorem A8l{l:List As}(hz:Gx b p (q,l))(h1:r.Ag=q.Ag)(h2:r.Aj=q.Aj):Gx b p (r,l):=by refine⟨?_,hz.2⟩;have:=hz.1;grind
theorem Apu{b:Aa}(h:Av b){p q:Ab}(n:Nat):∀(l:eQ)(z:eQ×List As),(∀c,c∈l->0<=c/\c<b.Ae.length)->Ap b (Bf q z.1)->Gx b p (Bf q z.1,z.2)->Gx b p (Bf q (Fw b q n l z).1,(Fw b q n l z).2)
 | [],_,_,_,hz=>hz
 | c :: l, z, hl, hs, hz => by
  have hin:=hl c ai;have hok:=Xy (n:=n) h hs hin.1 hin.2;refine Apu h n l (Gt b q n z c) (λd hd=>hl d (al _ hd)) hok ?_;unfold Gt at hok ⊢;split
  .rename_i hq;rw[eC hq]at hok;obtain⟨_,w2,w3,_⟩:=Qj h hok hin.1 hin.2;have hlen:z.1.length=b.Ae.length:=hs.nli;have ev:∀v:Int,(z.1.set c.toNat v).getD c.toNat 0=v:=λv=>by grind
   have w2':0<=(z.1.set c.toNat (z.1.getD c.toNat 0-D3 b (Bf q z.1) n c)).getD c.toNat 0:=w2;have w3':(z.1.set c.toNat (z.1.getD c.toNat 0-D3 b (Bf q z.1) n c)).getD c.toNat 0<=(b.Ae.getD c.toNat default).Load:=w3;rw[ev]at w2' w3';refine⟨?_,λx hx=>?_⟩
   .dsimp only;rw[aI,hz.1];rfl
   .rcases am.1 hx with hx|hx
    .exact hz.2 x hx
    .simp only[aU]at hx;subst hx;exact .inr ⟨rfl,hin,w2',w3'⟩
  .exact hz
theorem Ajh{b:Aa}{p q:Ab}(n:Nat):∀(l:eQ)(z:eT×List As),Gx b p (Bs q z.1,z.2)->Gx b p (Bs q (Eb b q n l z).1,(Eb b q n l z).2)
 | [],_,hz=>hz
 |c::l,z,hz=>by
  refine Ajh n l (Fq b q n z c) ?_;unfold Fq;split
  .exact vU (z:=(Bs q z.1,z.2)) hz (isC c) q.Ad
  .exact hz
theorem A0w(h:Av b)(hx:Adc b x){z:Ab×List As}(hs:Ap b z.1)(ha:z.2.length<=10000)(hz:Gx b p z):Ap b (Gz b z x).1/\Gx b p (Gz b z x)/\(Gz b z x).2.length<=z.2.length+400:=by
 have hol2:=Ad3 h x;obtain⟨e0,hb0⟩:=Tv hx;unfold Gz;split
 .obtain⟨_,l2,l3⟩:=Aec h hs (acts:=z.2) (l:=Fl b x) (λc hc=>Oq h hc) (by omega) hb0;obtain⟨_,t2,t3⟩:=Ajg h l2 (acts:=(Gj b x z).2) (l:=Fl b x) (λc hc=>Oq h hc) (by unfold Gj;omega) hb0;have t4:(I8 b x z).2.length<=(Gj b x z).2.length+24*(Fl b x).length:=t3;have l4:(Gj b x z).2.length<=z.2.length+(Fl b x).length:=l3;refine⟨t2,?_,by dsimp only;omega⟩;have hl:Gx b p (Bf z.1 (Gj b x z).1,(Gj b x z).2):=Apu h (Cx x) (Fl b x) (z.1.Aj,z.2) (λc hc=>Oq h hc) hs hz;exact Ajh (Cx x) (Fl b x) (z.1.Ag,(Gj b x z).2) hl
 .exact⟨hs,hz,by omega⟩
theorem Ajo{b:Aa}(h:Av b){p:Ab}:∀(l:List An)(z:Ab×List As),(∀x,x∈l->Adc b x)->Ap b z.1->z.2.length+400*l.length<=10000->Gx b p z->Gx b p (Gk b l z)
 | [],_,_,_,_,hz=>hz
 |x::l,z,hl,hs,ha,hz=>by rw[bi]at ha;obtain⟨h1,h2,h3⟩:=A0w h (hl x ai) hs (by omega) hz;exact Ajo h l (Gz b z x) (λy hy=>hl y (al _ hy)) h1 (by omega) h2
theorem A5c(p:Ab):Gx b p (J8 b p,Ns b p):=by have h0:Gx b p (p,[]):=⟨rfl,λx hx=>by cases hx⟩;have h1:=vU h0 (Ct p) p.Ad;have h2:=vU h1 (Dp b (C3 b p)) p.Ad;exact A8l h2 rfl rfl
theorem Aqg(h:Av b)(hp:Ap b p):Gx b p (Qg b p,Dg b p):=by have hil:=L_ b (J8 b p);have hbu:=h.buses;have hbl:=h.brl;have hcl:=Zh b p;exact Ajo h (Bq b (J8 b p)) (J8 b p,Ns b p) (λx hx=>Vh h hx) (zD hp) (by dsimp only;omega) (A5c p)
def Hs:List As->Ab->List Ab
 | [],_=>[]
 |x::l,p=>ap p x::Hs l (ap p x)
theorem P3:∀(l:List As)(p:Ab),(Hs l p).length=l.length
 | [],_=>rfl
 |x::l,p=>by simp[Hs,P3 l]
theorem jQ:∀(l:List As)(x:As)(p:Ab),Hs (l++[x]) p=Hs l p++[ap (l.foldl ap p) x]
 | [],_,_=>rfl
 |y::l,x,p=>by show ap p y::Hs (l++[x]) (ap p y)=_;rw[jQ l x];rfl
def Cc(b:Aa)(p:Ab)(t:Int)(a:As):Ab×Int:=(W8 b p t a).getD default
theorem zI(h:Av b)(hp:Ap b p)(t:Int)(a:As):W8 b p t a=some (Cc b p t a)/\((Cc b p t a).2≠0\/Ap b (Cc b p t a).1):=by grind[Ok,Cc,A6n]
def Np(b:Aa)(p:Ab)(t:Int)(a:As):Int:=if a.Kind=7 then 1 else (Cc b p t a).2
def O2(b:Aa)(p:Ab)(t:Int)(a:As):Ab:=(Cc b p t a).1
def doP(b:Aa)(p:Ab)(t:Int)(a:As):Ab:=if Np b p t a=0 then Qg b (O2 b p t a) else p
def doE(b:Aa)(p:Ab)(t:Int)(a:As):List Bi:=⟨t,a,Np b p t a⟩::if Np b p t a=0 then (Dg b (O2 b p t a)).map (λx=>⟨t,x,0⟩) else []
def Sz(b:Aa)(p:Ab)(t:Int)(a:As):Ab:=(Dg b (O2 b p t a)).foldl ap (O2 b p t a)
def doS(b:Aa)(p:Ab)(t:Int)(a:As):List Ab:=
 if Np b p t a=0 then [O2 b p t a]++Hs (Dg b (O2 b p t a)) (O2 b p t a)++(if Ml (Sz b p t a) (doP b p t a)=true then [] else [doP b p t a]) else []
theorem qL(h:Av b)(hp:Ap b p){t:Int}{a:As}(he:Np b p t a=0):Ap b (O2 b p t a)/\(Cc b p t a).2=0/\a.Kind≠7:=by
 unfold Np at he;by_cases hk:a.Kind=7
 .rw[eC hk]at he;omega
 .rw[eF hk]at he;rcases(zI h hp t a).2 with h1|h1
  .exact absurd he h1
  .exact⟨h1,he,hk⟩
theorem Arw(h:Av b)(hp:Ap b p)(t:Int)(a:As):Ap b (doP b p t a):=by
 unfold doP;split
 .rename_i he;exact(Ju h (qL h hp he).1).2.1
 .exact hp
theorem S6(h:Av b){r:Cq}(hp:Ap b p)(h1:r.states.length<=10000000):Pt r p=some ⟨r.Bn,r.Aq,r.events,r.states++[p]⟩:=by refine da ?_;unfold Pt;rw[H1 h hp];simp only[ab];exact(d7 (by simp;omega)).bind λs hs=>eo (by rw[hs])
theorem Ajv{r:Cq}(h1:r.events.length<=10000000)(a:As)(e:Int):W7 r a e=some ⟨r.Bn,r.Aq,r.events++[⟨r.Bn.Time,a,e⟩],r.states⟩:=by refine da ?_;unfold W7;exact(d7 (by simp;omega)).bind λs hs=>eo (by rw[hs])
theorem Xo{b:Aa}:∀(l:List As){p:Ab},Ap b p->(∀x,x∈l->Apl b x)->Ap b (l.foldl ap p)
 | [],_,hp,_=>hp
 |x::l,p,hp,hl=>Xo l (A0e hp (hl x ai)) λy hy=>hl y (al _ hy)
theorem A8c(h:Av b){ros:List Bb}{evs ev:List Bi}{sts:List Ab}(hp:Ap b P)(h1:ev.length<=1000000)(h2:sts.length<=1000000)(a:As) :
  vO ⟨⟨T,P,ros,evs⟩,b,ev,sts⟩ a=some ⟨⟨T,doP b P T a,ros,evs⟩,b,ev++doE b P T a,sts++doS b P T a⟩:=by
 obtain⟨ha,_⟩:=zI h hp T a;refine da ?_;unfold vO;simp only[ha,ab];refine ee (A:=λs=>s=Np b P T a) (B:=λ(_:Unit)=>False) ?_ (λs hs=>?_) eq
 .unfold Acv Np;refine c6 (λhq=>dh ?_) (λhq=>dh ?_)
  .rw[eC (by simpa using hq)]
  .rw[eF (by simpa using hq)]
 subst hs;rw[Ajv (by dsimp only;omega)];simp only[ab];refine c6 (λhq=>eo ?_) (λhq=>?_)
 .have he:¬Np b P T a=0:=by simpa using hq
  unfold doP doE doS;rw[eF he,eF he,eF he];simp
 have he:Np b P T a=0:=by simpa using hq
 obtain⟨hn,_,_⟩:=qL h hp he;have hn':Ap b (Cc b P T a).1:=hn;rw[S6 h hn' (by dsimp only;omega)];simp only[ab];obtain⟨p1,p2,p3⟩:=Ju h hn';rw[p1];simp only[ab];have htr:=Aqg h hn';have eP:doP b P T a=Qg b (Cc b P T a).1:=by unfold doP O2;rw[eC he]
 have eE:doE b P T a=⟨T,a,0⟩::(Dg b (Cc b P T a).1).map (λx=>⟨T,x,0⟩):=by unfold doE O2;rw[eC he,he]
 have eL:Sz b P T a=(Dg b (Cc b P T a).1).foldl ap (Cc b P T a).1:=rfl;refine ee (A:=λs=>∃q:Ab,q=Sz b P T a/\s=(T,b.Ao,b.Ah,b.Ad,b.Ae,b.Phase,b.Ar,P.Ag,P.Ad,P.Aj,P.Ai,ros,evs,q.Ag,ev++doE b P T a,sts++([(Cc b P T a).1]++Hs (Dg b (Cc b P T a).1) (Cc b P T a).1),q.Aj)) (B:=λ(_:Unit)=>False) ?_ (λs hs=>?_) eq
 .refine c8 (I:=λj s=>∃q:Ab,q=((Dg b (Cc b P T a).1).take j).foldl ap (Cc b P T a).1/\(q.Ad=(Cc b P T a).1.Ad/\q.Ai=(Cc b P T a).1.Ai)/\s=(T,b.Ao,b.Ah,b.Ad,b.Ae,b.Phase,b.Ar,P.Ag,P.Ad,P.Aj,P.Ai,ros,evs,q.Ag,ev++(⟨T,a,0⟩::((Dg b (Cc b P T a).1).take j).map (λx=>(⟨T,x,0⟩:Bi))),sts++([(Cc b P T a).1]++Hs ((Dg b (Cc b P T a).1).take j) (Cc b P T a).1),q.Aj)) ⟨(Cc b P T a).1,rfl,⟨rfl,rfl⟩,?_⟩ (λj x s hx hI=>?_) λs hI=>?_
  .simp[Hs,he]
  .obtain⟨q,hq1,⟨hq2,hq3⟩,rfl⟩:=hI;have hj:j<(Dg b (Cc b P T a).1).length:=(aa.1 hx).1;have hin:=htr.2 x (ae hx);have hqok:Ap b q:=by
    rw[hq1];exact Xo _ hn' λy hy=>htr.2 y (bg hy)
   have hapok:=A0e hqok hin;have hcl:=hqok.ncl;have hli:=hqok.nli;unfold Acw;refine ef (P:=λy=>y=_) (d6 (Ajv (r:=⟨⟨T,P,ros,evs⟩,b,ev++(⟨T,a,0⟩::((Dg b (Cc b P T a).1).take j).map (λx=>(⟨T,x,0⟩:Bi))),sts++([(Cc b P T a).1]++Hs ((Dg b (Cc b P T a).1).take j) (Cc b P T a).1)⟩) (by simp;omega) x 0) rfl) λy hy=>?_;subst hy;have hfold:((Dg b (Cc b P T a).1).take (j+1)).foldl ap (Cc b P T a).1=ap q x:=by rw[Bc hx,aI,←hq1];rfl
   have hint:Hs ((Dg b (Cc b P T a).1).take (j+1)) (Cc b P T a).1=Hs ((Dg b (Cc b P T a).1).take j) (Cc b P T a).1++[ap q x]:=by rw[Bc hx,jQ,←hq1]
   refine c6 (λhk=>?_) (λhk=>?_)
   .have hk2:x.Kind=2:=by simpa using hk
    have hx1:0<=x.Unit/\x.Unit<b.Ah.length:=by
     rcases hin with⟨_,h3⟩|⟨h3,_⟩
     .exact h3
     .omega
    have eA:ap q x=⟨q.Ag.set x.Unit.toNat false,(Cc b P T a).1.Ad,q.Aj,(Cc b P T a).1.Ai⟩:=by unfold ap;rw[eC hk2,←hq2,←hq3];rfl
    refine(d5 (l:=q.Ag) hx1.1 (by omega)).bind λ_ _=>(d9 (l:=q.Ag) hx1.1).bind λC hC=>?_;subst hC;refine ef (P:=λy=>y=_) (d6 (S6 h (r:=⟨⟨T,P,ros,evs⟩,b,(ev++(⟨T,a,0⟩::((Dg b (Cc b P T a).1).take j).map (λx=>(⟨T,x,0⟩:Bi))))++[⟨T,x,0⟩],sts++([(Cc b P T a).1]++Hs ((Dg b (Cc b P T a).1).take j) (Cc b P T a).1)⟩) (p:=⟨q.Ag.set x.Unit.toNat false,(Cc b P T a).1.Ad,q.Aj,(Cc b P T a).1.Ai⟩) (by rw[←eA];exact hapok) (by simp[P3];omega)) rfl) λy hy=>c7 ?_;subst hy;refine⟨ap q x,hfold.symm,by rw[eA];exact⟨rfl,rfl⟩,?_⟩;rw[hint,eA,Bc hx];simp
   .have hk2:¬x.Kind=2:=by simpa using hk
    have hx1:0<=x.Unit/\x.Unit<b.Ae.length:=by
     rcases hin with⟨h3,_⟩|⟨_,h3,_⟩
     .omega
     .exact h3
    have eA:ap q x=⟨q.Ag,(Cc b P T a).1.Ad,q.Aj.set x.Unit.toNat x.Value,(Cc b P T a).1.Ai⟩:=by unfold ap;rw[eF hk2,←hq2,←hq3];rfl
    refine(d5 (l:=q.Aj) hx1.1 (by omega)).bind λ_ _=>(d9 (l:=q.Aj) hx1.1).bind λC hC=>?_;subst hC;refine ef (P:=λy=>y=_) (d6 (S6 h (r:=⟨⟨T,P,ros,evs⟩,b,(ev++(⟨T,a,0⟩::((Dg b (Cc b P T a).1).take j).map (λx=>(⟨T,x,0⟩:Bi))))++[⟨T,x,0⟩],sts++([(Cc b P T a).1]++Hs ((Dg b (Cc b P T a).1).take j) (Cc b P T a).1)⟩) (p:=⟨q.Ag,(Cc b P T a).1.Ad,q.Aj.set x.Unit.toNat x.Value,(Cc b P T a).1.Ai⟩) (by rw[←eA];exact hapok) (by simp[P3];omega)) rfl) λy hy=>c7 ?_;subst hy;refine⟨ap q x,hfold.symm,by rw[eA];exact⟨rfl,rfl⟩,?_⟩;rw[hint,eA,Bc hx];simp
  .obtain⟨q,hq1,_,rfl⟩:=hI;rw[ay]at hq1 ⊢;exact⟨q,hq1,by rw[eE]⟩
 .obtain⟨q,hq,rfl⟩:=hs;have hqok:Ap b q:=by rw[hq,eL];exact Xo _ hn' htr.2
  have hqS:q=⟨q.Ag,(Cc b P T a).1.Ad,q.Aj,(Cc b P T a).1.Ai⟩:=by have h3:=htr.1;rw[←eL,←hq]at h3;rw[h3]
  have hsm:=A0u (hqok.lens h) (Qg b (Cc b P T a).1);have hsm1:=hsm.1;rw[hqS]at hsm1;have e6:Ml ⟨q.Ag,(Cc b P T a).1.Ad,q.Aj,(Cc b P T a).1.Ai⟩ (Qg b (Cc b P T a).1)=Ml (Sz b P T a) (doP b P T a):=by rw[←hqS,hq,eP]
  refine ef (P:=λy=>y=Ml (Sz b P T a) (doP b P T a)) (d6 hsm1 e6) λy hy=>?_;subst hy;have eD:doS b P T a=[(Cc b P T a).1]++Hs (Dg b (Cc b P T a).1) (Cc b P T a).1++(if Ml (Sz b P T a) (doP b P T a)=true then [] else [doP b P T a]):=by unfold doS O2;rw[eC he]
  cases hsb:Ml (Sz b P T a) (doP b P T a) with
  |false=>rw[hsb]at eD;refine ef (P:=λy=>y=_) (d6 (S6 h (r:=⟨⟨T,P,ros,evs⟩,b,ev++doE b P T a,sts++([(Cc b P T a).1]++Hs (Dg b (Cc b P T a).1) (Cc b P T a).1)⟩) p2 (by simp[P3];omega)) rfl) λy hy=>eo ?_;subst hy;rw[eD,eP];simp
  |true=>rw[hsb]at eD;refine eo ?_;rw[eD,eP];simp

def Gi(b:Aa)(T:Int)(p:Ab)(l:List As):Ab:=l.foldl (λq a=>doP b q T a) p
theorem Oo{b:Aa}(h:Av b)(T:Int):∀(l:List As){p:Ab},Ap b p->Ap b (Gi b T p l)
 | [],_,hp=>hp
 |a::l,_,hp=>Oo h T l (Arw h hp T a)
def Par{α:Type}(o:Option α)(P:α->Prop):Prop:=∀r,o=some r->P r
variable{P:α->Prop}
theorem Par.pure{x:α}(h:P x):Par (some x) P:=λr e=>by cases e;exact h
theorem Par.none:Par (none:Option α) P:=λ_ e=>by cases e
theorem Par.bind{β:Type}{o:Option α}{f:α->Option β}{P:β->Prop}(h:∀x,o=some x->Par (f x) P):Par (o.bind f) P:=by
 cases o with
 |none=>exact Par.none
 |some x=>exact h x rfl
theorem Par.cond{c:Bool}{x y:Option α}(h:Par x P)(k:Par y P):Par (bif c then x else y) P:=by grind
theorem Par.andThen{σ τ:Type}{c:Option (Ctl σ τ)}{g:τ->Option α}{f:σ->Option α}(h:∀s,Par (f s) P)(k:∀v,Par (g v) P):Par (andThen c g f) P:=by
 cases c with
 |none=>exact Par.none
 |some r=>
  cases r with
  |next s=>exact h s
  |brk s=>exact h s
  |ret v=>exact k v
def cl(C:eT):Nat:=C.count true
theorem Ac1(h:Av b)(p:Ab):(Bq b p).Pairwise λx y=>∀c,¬(Da x c=true/\Da y c=true):=by rw[Iw h,cE];refine((cU.1 List.nodup_range).sublist cu).imp ?_;rintro f g hfg c ⟨hx,hy⟩;obtain⟨i,hi,e1⟩:=cr.1 hx;obtain⟨j,hj,e2⟩:=cr.1 hy;obtain⟨k,hk,rfl⟩:=an.1 hi;obtain⟨m,hm,rfl⟩:=an.1 hj;grind

def brN(b:Aa)(i:Nat):Nat:=(P8 b (i:Int)).toNat
theorem Zl(h:Av b)(hi:i<b.Ad.length):P8 b (i:Int)=(brN b i:Int)/\brN b i<b.Ah.length/\(b.Ah.getD (brN b i) default).Kind=2/\(b.Ah.getD (brN b i) default).B=(i:Int)/\b.Ah[brN b i]?=some (b.Ah.getD (brN b i) default):=by
 obtain⟨j,x,e,hx,hk,hB,_⟩:=uB h (i:=(i:Int)) (by omega) (by omega);have hj:=(aa.1 hx).1;have:brN b i=j:=by unfold brN;omega
 grind
theorem Axy(h:Av b)(hi:i<b.Ad.length){x:Al}(hx:b.Ah[j]?=some x)(hk:x.Kind=2)(hB:x.B=(i:Int)):j=brN b i:=by
 obtain⟨e,hlt,k2,kB,hg⟩:=Zl h hi;have hm:∀{m:Nat}{y:Al},b.Ah[m]?=some y->y.Kind=2->y.B=(i:Int)->(y,m)∈ofZ b 2 (i:Int):=fun {m y} hy h1 h2=>ar.2 ⟨by grind,by simp[h1,h2]⟩;have hlen:(ofZ b 2 (i:Int)).length=1:=by have:=Adi (λx:Al=>x.Kind==2&&x.B==(i:Int)) b.Ah 0;rw[←h.one i hi];exact this
 have m1:=hm hx hk hB;have m2:=hm hg k2 kB
 match hz:ofZ b 2 (i:Int),hlen,m1,m2 with
 | [v],_,m1,m2=>grind
theorem qR(h:Av b)(hp:Ap b p)(hi:i<b.Ad.length):F6 b p (i:Int)=if(p.Ad.getD i default).State=2/\p.Ag.getD (brN b i) false=true then some (b.Ah.getD (brN b i) default).A else none:=by
 obtain⟨e,hlt,k2,kB,hg⟩:=Zl h hi;have hn:=hp.nso;have hz:∀z,z∈ofZ b 2 (i:Int)->z.2=brN b i/\z.1=b.Ah.getD (brN b i) default:=λz hz=>by have h1:=Q7 hz;have h2:=(ar.1 hz).2;simp only[ac,dQ]at h2;have:=Axy h hi h1 h2.1 h2.2;grind
 have hin:(b.Ah.getD (brN b i) default,brN b i)∈ofZ b 2 (i:Int):=ar.2 ⟨by rw[cY];exact hg,by grind⟩
 have hled:E6 b p 2 (i:Int)=if p.Ag.getD (brN b i) false=true then some (b.Ah.getD (brN b i) default).A else none:=by
  rw[Ve hp.ncl];by_cases hc:p.Ag.getD (brN b i) false=true
  .rw[eC hc];cases hf:(ofZ b 2 (i:Int)).find? λz=>p.Ag.getD z.2 false with
   |none=>rw[List.find?_eq_none]at hf;exact absurd hc (hf _ hin)
   |some z=>rw[(hz z (List.mem_of_find?_eq_some hf)).2.symm];rfl
  grind
 unfold F6;grind
def tog(b:Aa)(p:Ab)(i j:Nat):Prop:=∃a c:Int,F6 b p (i:Int)=some a/\F6 b p (j:Int)=some c/\(groups b p).getD a.toNat 0=(groups b p).getD c.toNat 0
theorem tog.symm(t:tog b p i j):tog b p j i:=by grind[tog]
def C6(x y:Ak):Prop:=x.Ar=y.Ar/\x.Phase=y.Phase
structure Sub(b:Aa)(q p:Ab):Prop where
 con:∀i,i<b.Ad.length->(q.Ad.getD i default).State=2->q.Ag.getD (brN b i) false=true->(p.Ad.getD i default).State=2/\p.Ag.getD (brN b i) false=true
 tie:∀(k:Nat) x,b.Ah[k]?=some x->x.Kind=1->q.Ag.getD k false=true->p.Ag.getD k false=true
theorem Ar2{L M:Ey}(h:∀i j,Tie L i j->Tie M i j)(c:Hi L i j):Hi M i j:=by
 obtain⟨r,c⟩:=c;induction c with
 |refl=>exact .refl M i
 |stay _ ih=>exact ih
 |step _ t ih=>exact ih.tie (h _ _ t)
theorem Apm{α:Type}:∀{l:List α}{c:eT}{z:α×Bool},z∈l.zip c->∃k:Nat,l[k]?=some z.1/\c[k]?=some z.2
 | [],_,_,h=>by simp at h
 |_::_,[],_,h=>by simp at h
 | x::l,v::c,z,h=>by
  rw[bG,ag]at h;rcases h with rfl|h
  .exact⟨0,rfl,rfl⟩
  .obtain⟨k,h1,h2⟩:=Apm h;exact⟨k+1,h1,h2⟩
theorem Ate{α:Type}:∀{l:List α}{c:eT}{k:Nat}{x:α}{v:Bool},l[k]?=some x->c[k]?=some v->(x,v)∈l.zip c
 | [],_,_,_,_,h,_=>by simp at h
 |_::_,[],_,_,_,_,h=>by simp at h
 |y::l,w::c,0,x,v,h1,h2=>by simp at h1 h2;rw[bG,←h1,←h2];exact ai
 |y::l,w::c,k+1,x,v,h1,h2=>by rw[bG];exact al _ (Ate (k:=k) (by simpa using h1) (by simpa using h2))
theorem Aji(hp:p.Ag.length=b.Ah.length):Tie (Dy b p) i j↔∃(k:Nat)(x:Al),b.Ah[k]?=some x/\x.Kind=1/\p.Ag.getD k false=true/\((x.A.toNat=i/\x.B.toNat=j)\/(x.A.toNat=j/\x.B.toNat=i)):=by
 constructor
 .rintro⟨z,hz,h1,h2,h3⟩;obtain⟨k,g1,g2⟩:=Apm hz;grind
 .rintro⟨k,x,h1,h2,h3,h4⟩;have hk:=(aa.1 h1).1;refine⟨(x,true),Ate h1 ?_,h2,rfl,h4⟩;grind
theorem Sub.conn(hq:q.Ag.length=b.Ah.length)(hp:p.Ag.length=b.Ah.length)(s:Sub b q p)(c:Hi (Dy b q) i j):Hi (Dy b p) i j:=by refine Ar2 (λi j t=>?_) c;obtain⟨k,x,h1,h2,h3,h4⟩:=(Aji hq).1 t;exact(Aji hp).2 ⟨k,x,h1,h2,s.tie k x h1 h2 h3,h4⟩
theorem Sub.tog(h:Av b)(hq:Ap b q)(hp:Ap b p)(s:Sub b q p)(hi:i<b.Ad.length)(hj:j<b.Ad.length)(t:tog b q i j):tog b p i j:=by
 obtain⟨a,c,h1,h2,h3⟩:=t;have ha:=Tq h h1;have hc:=Tq h h2;have cc:=s.conn hq.ncl hp.ncl ((N_ h q (by omega) (by omega)).1 h3);have lift:∀{m:Nat}{v:Int},m<b.Ad.length->F6 b q (m:Int)=some v->F6 b p (m:Int)=some v:=fun {m v} hm e=>by
  rw[qR h hq hm]at e;rw[qR h hp hm];by_cases hh:(q.Ad.getD m default).State=2/\q.Ag.getD (brN b m) false=true
  .rw[eC hh]at e;rw[eC (s.con m hm hh.1 hh.2)];exact e
  .rw[eF hh]at e;cases e
 exact⟨a,c,lift hi h1,lift hj h2,(N_ h p (by omega) (by omega)).2 cc⟩
theorem Sub.refl(b:Aa)(p:Ab):Sub b p p:=⟨λ_ _ h1 h2=>⟨h1,h2⟩,λ_ _ _ _ h=>h⟩
theorem Sub.trans(s:Sub b p q)(t:Sub b q r):Sub b p r:=⟨λi hi h1 h2=>by obtain⟨g1,g2⟩:=s.con i hi h1 h2;exact t.con i hi g1 g2,λk x h1 h2 h3=>t.tie k x h1 h2 (s.tie k x h1 h2 h3)⟩
structure F7(b:Aa)(c q:Ab):Prop where
 src:q.Ad=c.Ad
 cl:∀(k:Nat) x,b.Ah[k]?=some x->x.Kind≠3->q.Ag.getD k false=c.Ag.getD k false
theorem F7.refl(b:Aa)(c:Ab):F7 b c c:=⟨rfl,λ_ _ _ _=>rfl⟩
theorem F7.trans{c:Ab}(s:F7 b c q)(t:F7 b q r):F7 b c r:=⟨t.src.trans s.src,λk x h1 h2=>(t.cl k x h1 h2).trans (s.cl k x h1 h2)⟩
theorem Vo:∀(l:List Al)(c d:eT)(s:eQ),c.length=l.length->d.length=l.length->(∀(k:Nat) x,l[k]?=some x->x.Kind=1->c.getD k false=d.getD k false)->Ds (l.zip c) s=Ds (l.zip d) s
 | [],_,_,_,_,_,_=>rfl
 |_::_,[],_,_,h,_,_=>by simp at h
 |_::_,_::_,[],_,_,h,_=>by simp at h
 | x::l,v::c,w::d,s,h1,h2,h3=>by
  show Ds (l.zip c) (F0 s (x,v))=Ds (l.zip d) (F0 s (x,w));have e:F0 s (x,v)=F0 s (x,w):=by
   by_cases hk:x.Kind=1
   .have:v=w:=h3 0 x rfl hk;rw[this]
   .unfold F0;grind
  rw[e];exact Vo l c d _ (by simpa using h1) (by simpa using h2) λk y hy hk=>h3 (k+1) y hy hk
theorem F7.groups{c:Ab}(hc:c.Ag.length=b.Ah.length)(hq:q.Ag.length=b.Ah.length)(s:F7 b c q):groups b q=groups b c:=by
 unfold Go.Proofs.YtiaaaghdkhnonaaGreat.groups;have key:∀(xs:eR)(t:eQ),xs.foldl (λs _=>Ds (b.Ah.zip q.Ag) s) t=xs.foldl (λs _=>Ds (b.Ah.zip c.Ag) s) t:=by
  intro xs;induction xs with
  |nil=>intro t;rfl
  |cons x xs ih=>intro t;simp only[bA];rw[Vo b.Ah q.Ag c.Ag t hq hc λk x hx hk=>s.cl k x hx (by omega)];exact ih _
 exact key _ _
theorem F7.con(h:Av b){c:Ab}(hc:Ap b c)(hq:Ap b q)(s:F7 b c q)(hi:i<b.Ad.length):F6 b q (i:Int)=F6 b c (i:Int):=by obtain⟨_,_,k2,_,hg⟩:=Zl h hi;rw[qR h hq hi,qR h hc hi,s.src,s.cl _ _ hg (by omega)]
theorem F7.sources(h:Av b){c:Ab}(hc:Ap b c)(hq:Ap b q)(s:F7 b c q)(f:Nat):(isl b q f).Ad=(isl b c f).Ad:=by show Gf b q b.Ad.length f=Gf b c b.Ad.length f;unfold Gf;congr 1;refine cm λi hi=>?_;rw[s.con h hc hq (ba.1 hi)];unfold G1;rw[s.groups hc.ncl hq.ncl]
def fg(b:Aa)(q:Ab)(m:Nat):Option Int:=G1 b q (E6 b q 3 (m:Int))
theorem Ev:m∈(isl b q f).Ae↔∃k:Nat,m=(k:Int)/\k<b.Ae.length/\fg b q k=some (f:Int):=by
 constructor
 .intro h;obtain⟨k,hk,e⟩:=an.1 h;obtain⟨h1,h2⟩:=ar.1 hk;exact⟨k,e.symm,ba.1 h1,by rwa [dQ]at h2⟩
 .rintro⟨k,e,h1,h2⟩;exact an.2 ⟨k,ar.2 ⟨ba.2 h1,by rw[dQ];exact h2⟩,e.symm⟩
theorem Tn(b:Aa)(q:Ab)(f:Nat):(isl b q f).Ae.Nodup:=by show (Fa b q b.Ae.length f).Nodup;unfold Fa;rw[cU,cE];exact((cU.1 List.nodup_range).sublist cu).imp λh e=>h (by omega)
theorem O7:Da x m=true↔m∈x.Ae:=by unfold Da;grind
theorem A3l(hq:Ap b q)(m:Nat)(n:Nat):E6 b (Bs q (acC b q.Ag (isC (m:Int)))) 3 (n:Int)=if n=m then none else E6 b q 3 (n:Int):=by
 have hq2:=Nf hq (isC (m:Int));rw[Ve (p:=Bs q (acC b q.Ag (isC (m:Int)))) hq2.ncl,Ve hq.ncl];have hz:∀z,z∈ofZ b 3 (n:Int)->(acC b q.Ag (isC (m:Int))).getD z.2 false=(q.Ag.getD z.2 false && !decide (n=m)):=λz hz=>by have h1:=Q7 hz;have h2:=(ar.1 hz).2;simp only[ac,dQ]at h2;have hk:=(aa.1 h1).1;rw[zJ b q.Ag _ hk,Wa h1];congr 2;unfold isC;grind
 by_cases e:n=m
 .rw[eC e];have:(ofZ b 3 (n:Int)).find? (λz=>(Bs q (acC b q.Ag (isC (m:Int)))).Ag.getD z.2 false)=none:=by
   rw[List.find?_eq_none];intro z hz2;have:=hz z hz2;show ¬(acC b q.Ag (isC (m:Int))).getD z.2 false=true;rw[this,dU e];simp
  rw[this];rfl
 .rw [eF e];congr 1;have:∀l:List (Al×Nat),(∀z,z∈l->z∈ofZ b 3 (n:Int))->l.find? (λz=>(Bs q (acC b q.Ag (isC (m:Int)))).Ag.getD z.2 false)=l.find? λz=>q.Ag.getD z.2 false:=by
   intro l;induction l with
   |nil=>intro _;rfl
   | cons z l ih=>
    intro hl;have h1:(Bs q (acC b q.Ag (isC (m:Int)))).Ag.getD z.2 false=q.Ag.getD z.2 false:=by show (acC b q.Ag (isC (m:Int))).getD z.2 false=_;rw[hz z (hl z ai),dV e];simp
    grind
  exact this _ λz hz=>hz
theorem Ty(m:Nat):F7 b q (Bs q (acC b q.Ag (isC (m:Int)))):=⟨rfl,λk x hx hk=>by
 have hlt:=(aa.1 hx).1;show (acC b q.Ag (isC (m:Int))).getD k false=_;rw[zJ b q.Ag _ hlt,Wa hx];have:isC (m:Int) x=false:=by unfold isC;rw[dR.2 hk];rfl
 rw[this];simp⟩
theorem Am6(hq:Ap b q)(m n:Nat):fg b (Bs q (acC b q.Ag (isC (m:Int)))) n=if n=m then none else fg b q n:=by
 unfold fg;rw[A3l hq];by_cases e:n=m
 .rw[eC e,eC e];rfl
 .rw[eF e,eF e];unfold G1;have:Go.Proofs.YtiaaaghdkhnonaaGreat.groups b (Bs q (acC b q.Ag (isC (m:Int))))=Go.Proofs.YtiaaaghdkhnonaaGreat.groups b q:=(Ty (b:=b) (q:=q) m).groups hq.ncl (Nf hq (isC (m:Int))).ncl;grind
def sm(g:Int->Int)(l:eQ):Int:=l.foldr (λm s=>g m+s) 0
theorem A0q(g:Int->Int){m:eQ}(p:l.Perm m):sm g l=sm g m:=by
 induction p with
 |nil=>rfl
 |cons x _ ih=>grind[sm]
 |swap x y l=>grind[sm]
 |trans _ _ i1 i2=>exact i1.trans i2
theorem Ajk(L:eQ)(l:eQ):K_ L l=sm (λm=>L.getD m.toNat 0) l:=by
 have key:∀(l:eQ)(s:Int),l.foldl (λs c=>s+L.getD c.toNat 0) s=s+sm (λm=>L.getD m.toNat 0) l:=by
  intro l;induction l with
  |nil=>intro s;simp[sm]
  |cons x l ih=>grind[sm]
 grind[K_]
theorem Yv{g g':Int->Int}:∀{l:eQ},(∀m,m∈l->g m=g' m)->sm g l=sm g' l
 | [],_=>rfl
 |x::l,h=>by show g x+sm g l=g' x+sm g' l;rw[h x ai,Yv λm hm=>h m (al _ hm)]
theorem Al1{g:Int->Int}:∀{l:eQ},(∀m,m∈l->0<=g m)->0<=sm g l
 | [],_=>by simp[sm]
 |x::l,h=>by have h1:=h x ai;have h2:=Al1 (l:=l) λm hm=>h m (al _ hm);show 0<=g x+sm g l;omega
theorem Ajl{g:Int->Int}:∀{l:eQ},(∀m,m∈l->g m=0)->sm g l=0
 | [],_=>rfl
 |x::l,h=>by show g x+sm g l=0;rw[h x ai,Ajl λm hm=>h m (al _ hm)];omega
theorem A3b{g g':Int->Int}{x:Int}(hn:l.Nodup)(hx:x∈l)(h:∀m,m∈l->m≠x->g m=g' m):sm g l=sm g' l+(g x-g' x):=by
 induction l with
 |nil=>cases hx
 |cons y l ih=>grind[sm,Yv]
theorem Ajt(h:Av b):m∈Ft b↔0<=m/\m<b.Ae.length:=by
 constructor
 .exact U6 h
 .intro hm;have hs:=(L6 h).2;obtain⟨k,hk,e⟩:=hs.mem m.toNat (by omega);have hl:=hs.len;grind
def N9(b:Aa)(m:Int):Int:=(b.Ae.getD m.toNat default).Least
abbrev Ew(b:Aa)(q:Ab)(n:Nat):eQ:=(isl b q (Cg b q n)).Ae
theorem Jv(b:Aa)(q:Ab)(n:Nat)(hs:0<(isl b q (Cg b q n)).Ad.length):Cn b q n=sm (λm=>q.Aj.getD m.toNat 0) (Ew b q n):=by unfold Cn;rw[eC hs,Ajk]
theorem yT(he:0<Dx b q n):0<(isl b q (Cg b q n)).Ad.length:=by
 by_cases hs:0<(isl b q (Cg b q n)).Ad.length
 .exact hs
 .exfalso;have e1:(isl b q (Cg b q n)).Ad=[]:=cL.1 (by omega);unfold Dx Cn Ej at he;rw[eF hs,e1]at he;simp[K_]at he
theorem Aj5{L:eQ}{a:Int}(ha:a∈Ew b q n)(hl:a.toNat<L.length)(hs:0<(isl b q (Cg b q n)).Ad.length) :
  Cn b (Bf q (L.set a.toNat v)) n=Cn b (Bf q L) n-(L.getD a.toNat 0-v):=by
 have h0:=H_ ha;rw[Jv b (Bf q (L.set a.toNat v)) n hs,Jv b (Bf q L) n hs];show sm (λm=>(L.set a.toNat v).getD m.toNat 0) (Ew b q n)=sm (λm=>L.getD m.toNat 0) (Ew b q n)-_;have e:(L.set a.toNat v).getD a.toNat 0=v:=by rw[Vq,eC ⟨rfl,hl⟩]
 rw[A3b (l:=Ew b q n) (g:=λm=>(L.set a.toNat v).getD m.toNat 0) (g':=λm=>L.getD m.toNat 0) (Tn b q _) ha λm hm hne=>?_]
 .rw[e];omega
 .have h1:=H_ hm;grind
theorem A73(b:Aa)(q:Ab)(L:eQ)(n:Nat):Ej b (Bf q L) n=Ej b q n:=rfl
structure Agh(b:Aa)(q:Ab)(n:Nat)(l:eQ)(j:Nat)(L:eQ):Prop where
 ok:Ap b (Bf q L)
 le:∀m:Nat,L.getD m 0<=q.Aj.getD m 0
 out:∀m:Nat,(m:Int)∉l.take j->L.getD m 0=q.Aj.getD m 0
 low:0<Dx b (Bf q L) n->∀m,m∈l.take j->L.getD m.toNat 0<=N9 b m
 ord:∀(i:Nat) k,i<j->l[i]?=some k->L.getD k.toNat 0≠q.Aj.getD k.toNat 0->∀(i':Nat) m,i'<i->l[i']?=some m->L.getD m.toNat 0<=N9 b m
theorem Kj:m∈l.take j↔∃i,i<j/\l[i]?=some m:=by
 rw[cZ];constructor
 .grind
 .rintro⟨i,hi,h⟩;exact⟨i,by grind⟩
theorem Agh.step(h:Av b)(hn:l.Nodup)(hl:∀c,c∈l->c∈Ew b q n)(hc:l[j]?=some c)(hI:Agh b q n l j z.1):Agh b q n l (j+1) (Gt b q n z c).1:=by
 have hcm:=hl c (ae hc);have hin:=H_ hcm;obtain⟨g1,g2,g3,g4⟩:=Qj h hI.ok hin.1 hin.2;have hlen:c.toNat<z.1.length:=by have:z.1.length=b.Ae.length:=hI.ok.nli;omega
 have hnot:∀m,m∈l.take j->m≠c:=λm hm e=>by subst e;obtain⟨i,hi,hm⟩:=Kj.1 hm;have:=(List.getElem?_inj (aa.1 hm).1 hn).1 (hm.trans hc.symm);omega
 have htk:∀m,m∈l.take (j+1)↔m∈l.take j\/m=c:=λm=>by rw[Bc hc,am,aU]
 have hok:=Xy (n:=n) h hI.ok hin.1 hin.2;have hpos:∀m,m∈l.take j->0<=m:=λm hm=>(H_ (hl m (bg hm))).1;by_cases hp:0<D3 b (Bf q z.1) n c
 .have e:(Gt b q n z c).1=z.1.set c.toNat (z.1.getD c.toNat 0-D3 b (Bf q z.1) n c):=by unfold Gt;rw[eC hp]
  rw[e]at hok ⊢;have hm1:D3 b (Bf q z.1) n c<=Dx b (Bf q z.1) n:=Int.min_le_left _ _;have hm2:D3 b (Bf q z.1) n c<=z.1.getD c.toNat 0-N9 b c:=Int.min_le_right _ _;have hm3:D3 b (Bf q z.1) n c=Dx b (Bf q z.1) n\/D3 b (Bf q z.1) n c=z.1.getD c.toNat 0-N9 b c:=by have:D3 b (Bf q z.1) n c=min (Dx b (Bf q z.1) n) (z.1.getD c.toNat 0-N9 b c):=rfl;omega
  have hs:=yT (b:=b) (q:=Bf q z.1) (n:=n) (by omega);have hload:=Aj5 (v:=z.1.getD c.toNat 0-D3 b (Bf q z.1) n c) hcm hlen hs;have hexc:Dx b (Bf q (z.1.set c.toNat (z.1.getD c.toNat 0-D3 b (Bf q z.1) n c))) n=Dx b (Bf q z.1) n-D3 b (Bf q z.1) n c:=by have e1:Dx b (Bf q z.1) n=max 0 (Cn b (Bf q z.1) n-Ej b q n):=rfl;have e2:∀L,Dx b (Bf q L) n=max 0 (Cn b (Bf q L) n-Ej b q n):=λ_=>rfl;rw[e2,hload];omega
  have hget:∀m:Nat,m≠c.toNat->(z.1.set c.toNat (z.1.getD c.toNat 0-D3 b (Bf q z.1) n c)).getD m 0=z.1.getD m 0:=λm hm=>by rw[Vq,eF λe=>hm e.1.symm]
  have hgc:(z.1.set c.toNat (z.1.getD c.toNat 0-D3 b (Bf q z.1) n c)).getD c.toNat 0=z.1.getD c.toNat 0-D3 b (Bf q z.1) n c:=by rw[Vq,eC ⟨rfl,hlen⟩]
  have hne:∀m,m∈l.take j->m.toNat≠c.toNat:=λm hm e=>hnot m hm (by have:=hpos m hm;omega);refine⟨hok,λm=>?_,λm hm=>?_,λhe m hm=>?_,λi k hi hk hch i' m hi' hm=>?_⟩
  .have:=hI.le m;by_cases em:m=c.toNat
   .subst em;rw[hgc];omega
   .rw[hget m em];exact this
  .have hmc:m≠c.toNat:=λe=>hm ((htk _).2 (.inr (by omega)));rw[hget m hmc];exact hI.out m λhh=>hm ((htk _).2 (.inl hh))
  .rcases(htk m).1 hm with h1|rfl
   .rw[hget _ (hne m h1)];exact hI.low (by omega) m h1
   .rw[hgc];omega
  .have hm':m∈l.take j:=Kj.2 ⟨i',by omega,hm⟩;rw[hget _ (hne m hm')];by_cases ei:i=j
   .exact hI.low (by omega) m hm'
   .have hk':k∈l.take j:=Kj.2 ⟨i,by omega,hk⟩;rw[hget _ (hne k hk')]at hch;exact hI.ord i k (by omega) hk hch i' m hi' hm
 .have e:Gt b q n z c=z:=by unfold Gt;rw[eF hp]
  rw[e];refine⟨hI.ok,hI.le,λm hm=>hI.out m λhh=>hm ((htk _).2 (.inl hh)),λhe m hm=>?_,λi k hi hk hch i' m hi' hm=>?_⟩
  .rcases(htk m).1 hm with h1|rfl
   .exact hI.low he m h1
   .have:D3 b (Bf q z.1) n m=min (Dx b (Bf q z.1) n) (z.1.getD m.toNat 0-N9 b m):=rfl;omega
  .by_cases ei:i=j
   .subst ei;rw[hc]at hk;cases hk;exfalso;refine hch (by have:=hI.out c.toNat λhh=>hnot _ hh (by omega);exact this)
   .exact hI.ord i k (by omega) hk hch i' m hi' hm
theorem A09(h:Av b)(hq:Ap b q)(hn:l.Nodup)(hl:∀c,c∈l->c∈Ew b q n)(acts:List As):Agh b q n l l.length (Fw b q n l (q.Aj,acts)).1:=by
 have key:∀j,j<=l.length->Agh b q n l j (Fw b q n (l.take j) (q.Aj,acts)).1:=by
  intro j;induction j with
  |zero=>intro _;exact⟨hq,λ_=>ck _,λ_ _=>rfl,λ_ m hm=>by simp at hm,λi _ hi=>by omega⟩
  | succ j ih=>
   intro hj;have hc:l[j]?=some l[j]:=aj (by omega);have e:Fw b q n (l.take (j+1)) (q.Aj,acts)=Gt b q n (Fw b q n (l.take j) (q.Aj,acts)) l[j]:=by rw[Bc hc];unfold Fw;rw[aI];rfl
   rw[e];exact(ih (by omega)).step h hn hl hc
 have:=key l.length (af _);grind
theorem Ap3{g:Int->Int}:∀{l' l:eQ},l'.Nodup->(∀m,m∈l'->m∈l)->(∀m,m∈l->0<=g m)->sm g l'<=sm g l
 | [],l,_,_,h=>Al1 h
 | x::l',l,hn,hs,h=>by
  obtain⟨n1,n2⟩:=cG.1 hn;have hp:=List.perm_cons_erase (hs x ai);have:=Ap3 (g:=g) (l':=l') (l:=l.erase x) n2 (λm hm=>by grind) λm hm=>h m (List.mem_of_mem_erase hm)
  rw[A0q g hp];grind[sm]
theorem G4(hq:Ap b q)(hr:Ap b r)(s:F7 b q r)(n:Nat):Cg b r n=Cg b q n:=by grind[Cg,F7.groups,Ap.ncl]
theorem Yw(h:Av b)(hq:Ap b q)(hr:Ap b r)(s:F7 b q r)(n:Nat):Ej b r n=Ej b q n:=by unfold Ej;rw[G4 hq hr s,s.sources h hq hr]
theorem Ajz(h:Av b)(hq:Ap b q):∀m,m∈Ew b q n->0<=q.Aj.getD m.toNat 0:=λm hm=>(Qj h hq (H_ hm).1 (H_ hm).2).2.1
theorem Aj4(h:Av b)(hq:Ap b q)(hr:Ap b r)(s:F7 b q r)(hL:r.Aj=q.Aj)(n:Nat)(hs:∀m,m∈Ew b r n->m∈Ew b q n):Dx b r n<=Dx b q n:=by
 unfold Dx;rw[Yw h hq hr s];have key:Cn b r n<=Cn b q n:=by
  by_cases hh:0<(isl b q (Cg b q n)).Ad.length
  .rw[Jv b q n hh,Jv b r n (by rw[G4 hq hr s,s.sources h hq hr];exact hh),hL];exact Ap3 (Tn b r _) hs (Ajz h hq)
  .have e1:Cn b q n=0:=by unfold Cn;rw[eF hh]
   have e2:Cn b r n=0:=by unfold Cn;rw[G4 hq hr s,s.sources h hq hr,eF hh]
   omega
 omega
structure Oi(b:Aa)(q:Ab)(n:Nat)(l:eQ)(j:Nat)(C:eT):Prop where
 ok:Ap b (Bs q C)
 skel:F7 b q (Bs q C)
 mono:∀k:Nat,C.getD k false=true->q.Ag.getD k false=true
 fgs:∀k:Nat,fg b (Bs q C) k=fg b q k\/fg b (Bs q C) k=none/\(k:Int)∈l.take j
 pos:0<Dx b (Bs q C) n->∀m,m∈l.take j->0<q.Aj.getD m.toNat 0->fg b (Bs q C) m.toNat=none
 ord:∀(i:Nat) k,i<j->l[i]?=some k->fg b (Bs q C) k.toNat=none->0<Dx b q n/\∀(i':Nat) m,i'<i->l[i']?=some m->fg b (Bs q C) m.toNat≠none->q.Aj.getD m.toNat 0<=0
theorem Oi.sub(hq:Ap b q)(hI:Oi b q n l j C):∀m,m∈Ew b (Bs q C) n->m∈Ew b q n:=λm hm=>by
 obtain⟨k,e,h1,h2⟩:=Ev.1 hm;rw[G4 hq hI.ok hI.skel]at h2;refine Ev.2 ⟨k,e,h1,?_⟩;rcases hI.fgs k with h3|h3
 .rw[←h3];exact h2
 .rw[h3.1]at h2;cases h2
theorem Oi.step(h:Av b)(hq:Ap b q)(hn:l.Nodup)(hl:∀c,c∈l->c∈Ew b q n)(hc:l[j]?=some c){z:eT×List As}(hI:Oi b q n l j z.1):Oi b q n l (j+1) (Fq b q n z c).1:=by
 have hcm:=hl c (ae hc);have hin:=H_ hcm;have htk:∀m,m∈l.take (j+1)↔m∈l.take j\/m=c:=λm=>by rw[Bc hc,am,aU]
 have hpos:∀m,m∈l.take j->0<=m:=λm hm=>(H_ (hl m (bg hm))).1;have hnot:∀m,m∈l.take j->m≠c:=λm hm e=>by subst e;obtain⟨i,hi,hm⟩:=Kj.1 hm;have:=(List.getElem?_inj (aa.1 hm).1 hn).1 (hm.trans hc.symm);omega
 have hexc:=Aj4 h hq hI.ok hI.skel rfl n (hI.sub hq);obtain⟨a,rfl⟩:∃a:Nat,c=(a:Int):=⟨c.toNat,by omega⟩;have hfc:fg b q a≠none:=by
  obtain⟨k,e,_,h2⟩:=Ev.1 hcm;have:k=a:=by omega
  subst this;rw[h2];intro hh;cases hh
 by_cases hp:0<q.Aj.getD (a:Int).toNat 0/\0<Dx b (Bs q z.1) n
 .have e:(Fq b q n z (a:Int)).1=acC b z.1 (isC (a:Int)):=by unfold Fq;rw[eC hp]
  rw[e];have hok:Ap b (Bs q (acC b z.1 (isC (a:Int)))):=Nf hI.ok (isC (a:Int));have hfg:∀k:Nat,fg b (Bs q (acC b z.1 (isC (a:Int)))) k=if k=a then none else fg b (Bs q z.1) k:=λk=>Am6 hI.ok a k
  have hsk:F7 b (Bs q z.1) (Bs q (acC b z.1 (isC (a:Int)))):=Ty (q:=Bs q z.1) a;have hsub:∀m,m∈Ew b (Bs q (acC b z.1 (isC (a:Int)))) n->m∈Ew b (Bs q z.1) n:=λm hm=>by
   obtain⟨k,e,h1,h2⟩:=Ev.1 hm;rw[G4 hI.ok hok hsk,hfg]at h2;split at h2
   .cases h2
   .exact Ev.2 ⟨k,e,h1,h2⟩
  have hle:=Aj4 h hI.ok hok hsk rfl n hsub;refine⟨hok,hI.skel.trans hsk,λk hk=>hI.mono k ?_,λk=>?_,λhe m hm hL=>?_,λi k hi hk hf=>⟨by omega,λi' m hi' hm hfm=>?_⟩⟩
  .by_cases hlt:k<b.Ah.length
   .rw[zJ b z.1 _ hlt,ac]at hk;exact hk.1
   .have:(acC b z.1 (isC (a:Int))).length=b.Ah.length:=hok.ncl;rw[List.getD,bP (by omega)]at hk;cases hk
  .rw[hfg];split
   .rename_i e;subst e;exact .inr ⟨rfl,(htk _).2 (.inr rfl)⟩
   .rcases hI.fgs k with h1|h1
    .exact .inl h1
    .exact .inr ⟨h1.1,(htk _).2 (.inl h1.2)⟩
  .rw[hfg];split
   .rfl
   .rename_i hne;rcases(htk m).1 hm with h1|h1
    .exact hI.pos (by omega) m h1 hL
    .exact absurd (by rw[h1];exact ax a) hne
  .rw[hfg]at hfm;split at hfm
   .exact absurd rfl hfm
   .have hm':m∈l.take j:=Kj.2 ⟨i',by omega,hm⟩;by_cases h0:0<q.Aj.getD m.toNat 0
    .exact absurd (hI.pos hp.2 m hm' h0) hfm
    .omega
 .have e:Fq b q n z (a:Int)=z:=by unfold Fq;rw[eF hp]
  rw[e];refine⟨hI.ok,hI.skel,hI.mono,λk=>?_,λhe m hm hL=>?_,λi k hi hk hf=>?_⟩
  .rcases hI.fgs k with h1|h1
   .exact .inl h1
   .exact .inr ⟨h1.1,(htk _).2 (.inl h1.2)⟩
  .rcases(htk m).1 hm with h1|h1
   .exact hI.pos he m h1 hL
   .subst h1;exact absurd ⟨hL,he⟩ hp
  .by_cases ei:i=j
   .exfalso;subst ei;rw[hc]at hk;cases hk;rw[ax]at hf;rcases hI.fgs a with h1|h1
    .exact hfc (h1.symm.trans hf)
    .exact hnot _ h1.2 rfl
   .exact hI.ord i k (by omega) hk hf
theorem Avr(h:Av b)(hq:Ap b q)(hn:l.Nodup)(hl:∀c,c∈l->c∈Ew b q n)(acts:List As):Oi b q n l l.length (Eb b q n l (q.Ag,acts)).1:=by
 have key:∀j,j<=l.length->Oi b q n l j (Eb b q n (l.take j) (q.Ag,acts)).1:=by
  intro j;induction j with
  |zero=>intro _;exact⟨hq,F7.refl b q,λ_ hk=>hk,λ_=>.inl rfl,λ_ m hm=>by simp at hm,λi _ hi=>by omega⟩
  | succ j ih=>
   intro hj;have hc:l[j]?=some l[j]:=aj (by omega);have e:Eb b q n (l.take (j+1)) (q.Ag,acts)=Fq b q n (Eb b q n (l.take j) (q.Ag,acts)) l[j]:=by rw[Bc hc];unfold Eb;rw[aI];rfl
   rw[e];exact(ih (by omega)).step h hq hn hl hc
 have:=key l.length (af _);grind
theorem Oi.none(h:Av b)(hq:Ap b q)(hl:∀c,c∈Ew b q n->c∈l)(hI:Oi b q n l l.length C):Dx b (Bs q C) n=0:=by
 have h0:0<=Dx b (Bs q C) n:=Int.le_max_left _ _;by_cases hp:0<Dx b (Bs q C) n
 .exfalso;have hs:=yT hp;have hz:Cn b (Bs q C) n=0:=by
   rw[Jv b (Bs q C) n hs];refine Ajl λm hm=>?_;have hnn:=Ajz h hI.ok m hm;by_cases hL:0<q.Aj.getD m.toNat 0
   .exfalso;have hf:=hI.pos hp m (by rw[ay];exact hl m (hI.sub hq m hm)) hL;obtain⟨k,e,_,h2⟩:=Ev.1 hm;grind
   .have:(Bs q C).Aj=q.Aj:=rfl;rw[this]at hnn ⊢;omega
  have hr:0<=Ej b (Bs q C) n:=by
   unfold Ej;rw[Ajk];refine Al1 λm hm=>?_;have hm2:=yL hm;have hg:b.Ad[m.toNat]?=some b.Ad[m.toNat]:=aj (by omega);have e:(N5 b).getD m.toNat 0=b.Ad[m.toNat].Rating:=by simp[N5,List.getD,hg]
   have hr:=(h.so _ (ae hg)).1;grind
  unfold Dx at hp;omega
 .omega
theorem Axx(h:Av b){c:Ab}(hx:isl b c f∈Bq b c):Cg b c (Cx (isl b c f))=f:=by
 have hm:((Cx (isl b c f):Nat):Int)∈Fc b c b.Ao.toNat f:=by
  have hI:=Vh h hx;have e:(isl b c f).Ao=Fc b c b.Ao.toNat f:=rfl;have hne:=hI.ne;have h0:((Cx (isl b c f):Nat):Int)=(isl b c f).Ao.headD 0:=by
   unfold Cx;cases hl:(isl b c f).Ao with
   |nil=>exact absurd hl hne
   |cons y l=>have:=(hI.bus y (by rw[hl];exact ai)).1;grind
  rw[h0,←e];cases hl:(isl b c f).Ao with
  |nil=>exact absurd hl hne
  |cons y l=>exact ai
 obtain⟨k,hk,e⟩:=an.1 hm;obtain⟨_,h2⟩:=ar.1 hk;have ek:k=Cx (isl b c f):=by omega
 subst ek;unfold Cg;grind
theorem Aq0(h:Av b){c:Ab}(hx:x∈Bq b c):x=isl b c (Cg b c (Cx x))/\Cx x<b.Ao.toNat:=by obtain⟨_,hlt⟩:=Tv (Vh h hx);obtain⟨h1,_⟩:=ar.1 hx;obtain⟨f,hf,rfl⟩:=an.1 h1;exact⟨by rw[Axx h hx],hlt⟩
structure Don(b:Aa)(c q:Ab)(x:An):Prop where
 exc:Dx b q (Cx x)=0
 ord:∀(i:Nat) k,(Fl b x)[i]?=some k->(fg b q k.toNat=none\/q.Aj.getD k.toNat 0≠c.Aj.getD k.toNat 0)->∀(i':Nat) m,i'<i->(Fl b x)[i']?=some m->fg b q m.toNat≠none->q.Aj.getD m.toNat 0<=N9 b m/\(fg b q k.toNat=none->q.Aj.getD m.toNat 0<=0)
structure Lu(b:Aa)(D:List An)(q r:Ab):Prop where
 ok:Ap b r
 skel:F7 b q r
 brk:r.Ai=q.Ai
 mono:∀k:Nat,r.Ag.getD k false=true->q.Ag.getD k false=true
 le:∀k:Nat,r.Aj.getD k 0<=q.Aj.getD k 0
 fgs:∀k:Nat,fg b r k=fg b q k\/fg b r k=none
 out:∀k:Nat,(∀x,x∈D->Da x (k:Int)=false)->fg b r k=fg b q k/\r.Aj.getD k 0=q.Aj.getD k 0
theorem Lu.refl(hq:Ap b q):Lu b [] q q:=⟨hq,F7.refl b q,rfl,λ_ hk=>hk,λ_=>ck _,λ_=>.inl rfl,λ_ _=>⟨rfl,rfl⟩⟩
theorem Lu.trans{s:Ab}(u:Lu b D q r)(v:Lu b E r s):Lu b (D++E) q s where
 ok:=v.ok
 skel:=u.skel.trans v.skel
 brk:=v.brk.trans u.brk
 mono k hk:=u.mono k (v.mono k hk)
 le k:=Int.le_trans (v.le k) (u.le k)
 fgs k:=by
  rcases v.fgs k with h1|h1
  .rw[h1];exact u.fgs k
  .exact .inr h1
 out k hk:=by obtain⟨a1,a2⟩:=u.out k λx hx=>hk x (am.2 (.inl hx));obtain⟨b1,b2⟩:=v.out k λx hx=>hk x (am.2 (.inr hx));exact⟨b1.trans a1,b2.trans a2⟩
theorem Lu.con(hq:Ap b q)(u:Lu b D q r)(n:Nat):∀m,m∈Ew b r n->m∈Ew b q n:=λm hm=>by
 obtain⟨k,e,h1,h2⟩:=Ev.1 hm;rw[G4 hq u.ok u.skel]at h2;refine Ev.2 ⟨k,e,h1,?_⟩;rcases u.fgs k with h3|h3
 .rw[←h3];exact h2
 .rw[h3]at h2;cases h2
theorem Y3{k:Int}(hk:k∈Fl b x):Da x k=true:=(ar.1 hk).2
theorem Av2(h:Av b){c:Ab}(hc:Ap b c)(u:Lu b D c q)(hq:Ap b q)(hx:x∈Bq b c)(hd:∀y,y∈D->∀k,¬(Da y k=true/\Da x k=true))(acts:List As) :
  Lu b [x] q (Gz b (q,acts) x).1/\Don b c (Gz b (q,acts) x).1 x:=by
 obtain⟨ex,hlt⟩:=Aq0 h hx;have hg:Cg b q (Cx x)=Cg b c (Cx x):=G4 hc hq u.skel _;have hso:(isl b q (Cg b q (Cx x))).Ad=x.Ad:=by rw[hg,u.skel.sources h hc hq,←ex]
 have hsame:∀k,k∈Fl b x->fg b q k.toNat=fg b c k.toNat/\q.Aj.getD k.toNat 0=c.Aj.getD k.toNat 0:=λk hk=>by
  refine u.out k.toNat λy hy=>?_;have h0:=(Oq h hk).1;have e:(k.toNat:Int)=k:=by omega
  rw[e];cases hy2:Da y k
  .rfl
  .exact absurd ⟨hy2,Y3 hk⟩ (hd y hy k)
 have hnd:(Fl b x).Nodup:=(Abg h).sublist cu;have hcon:∀k,k∈Fl b x->k∈Ew b q (Cx x):=λk hk=>by
  have h1:k∈(isl b c (Cg b c (Cx x))).Ae:=by rw[←ex];exact O7.1 (Y3 hk)
  obtain⟨a,e,h2,h3⟩:=Ev.1 h1;have h4:=(hsame k hk).1;have ea:k.toNat=a:=by omega
  rw[ea]at h4;exact Ev.2 ⟨a,e,h2,by rw[hg,h4];exact h3⟩
 have hrev:∀k,k∈Ew b q (Cx x)->k∈Fl b x:=λk hk=>by
  have h1:=u.con hc _ k hk;have h2:k∈x.Ae:=by rw[ex];exact h1
  exact ar.2 ⟨(Ajt h).2 (H_ h1),O7.2 h2⟩
 unfold Gz;split
 .rename_i hs;have hlow:=A09 h hq hnd hcon acts;have hq1:=hlow.ok;have htr:=Avr h hq1 (n:=Cx x) hnd hcon (Gj b x (q,acts)).2;have hex:=htr.none h hq1 hrev;show Lu b [x] q (Bs (Bf q (Gj b x (q,acts)).1) (I8 b x (q,acts)).1)/\Don b c (Bs (Bf q (Gj b x (q,acts)).1) (I8 b x (q,acts)).1) x;refine⟨⟨htr.ok,?_,rfl,htr.mono,hlow.le,λk=>?_,λk hk=>?_⟩,⟨hex,λi k hk hch i' m hi hm hf=>?_⟩⟩
  .exact⟨rfl,htr.skel.cl⟩
  .rcases htr.fgs k with h1|h1
   .exact .inl h1
   .exact .inr h1.1
  .have hkx:=hk x ai;have hno:(k:Int)∉Fl b x:=λhh=>by rw[Y3 hh]at hkx;cases hkx
   refine⟨?_,hlow.out k λhh=>hno (bg hh)⟩;rcases htr.fgs k with h1|h1
   .exact h1
   .exact absurd (bg h1.2) hno
  .have hi2:i<(Fl b x).length:=(aa.1 hk).1;have hmt:m∈(Fl b x).take (Fl b x).length:=by rw[ay];exact ae hm
   by_cases hn:fg b (Bs (Bf q (Gj b x (q,acts)).1) (I8 b x (q,acts)).1) k.toNat=none
   .obtain⟨h1,h2⟩:=htr.ord i k hi2 hk hn;exact⟨hlow.low h1 m hmt,λ_=>h2 i' m hi hm hf⟩
   .have hch2:(Gj b x (q,acts)).1.getD k.toNat 0≠q.Aj.getD k.toNat 0:=by
     rw[(hsame k (ae hk)).2];rcases hch with h1|h1
     .exact absurd h1 hn
     .exact h1
    exact⟨hlow.ord i k hi2 hk hch2 i' m hi hm,λhh=>absurd hh hn⟩
 .rename_i hs;have hex:Dx b q (Cx x)=0:=by
   have h0:0<=Dx b q (Cx x):=Int.le_max_left _ _;by_cases hp:0<Dx b q (Cx x)
   .have:=yT hp;rw[hso]at this;exact absurd this hs
   .omega
  refine⟨⟨hq,F7.refl b q,rfl,λ_ hk=>hk,λ_=>ck _,λ_=>.inl rfl,λ_ _=>⟨rfl,rfl⟩⟩,⟨hex,λi k hk hch=>?_⟩⟩;exfalso;obtain⟨a1,a2⟩:=hsame k (ae hk);rcases hch with h1|h1
  .have h1':fg b q k.toNat=none:=h1;obtain⟨a,e,_,h3⟩:=Ev.1 (hcon k (ae hk));have ea:k.toNat=a:=by omega
   rw[ea,h3]at h1';cases h1'
  .exact h1 a2
theorem Aqr(h:Av b)(hp:Ap b p)(hn:n<b.Ao.toNat):zS b p (n:Int)=some (Cn b p n):=by
 have hcl:=h.col;have hlen:(isl b p (Cg b p n)).Ae.length<=b.Ae.length:=E7 _ _;have hof:Ls b p (n:Int)=some (isl b p (Cg b p n),true):=Xw h hp hn;unfold zS;rw[hof];simp only[ab];by_cases hs:0<(isl b p (Cg b p n)).Ad.length
 .have e0:V7 (isl b p (Cg b p n),true)=false:=by
   unfold V7;grind
  rw[e0,eB];have key:Ok (andThen (foldI (zR p) (isl b p (Cg b p n)).Ae 0 0) (λ_=>none) λz0=>some z0) λy=>y=Cn b p n:=by
   refine ee (A:=λs=>s=Cn b p n) (B:=λ(_:Unit)=>False) ?_ (λs hs=>eo hs) eq;refine c8 (I:=λj s=>s=K_ p.Aj ((isl b p (Cg b p n)).Ae.take j)/\0<=s/\s<=50000*(j:Int)) ⟨rfl,by omega,by omega⟩ (λj c s hc hI=>?_) λs hI=>?_
   .obtain⟨h1,h2,h3⟩:=hI;have hj:j<(isl b p (Cg b p n)).Ae.length:=(aa.1 hc).1;have hcm:=H_ (ae hc);obtain⟨g1,g2,g3,g4⟩:=Qj h hp hcm.1 hcm.2;unfold zR;rw[g1];simp only[ab];rw[Az];refine c7 ⟨?_,by omega,by omega⟩;rw[Bc hc,Pv,h1]
   .rw[ay]at hI;unfold Cn;rw[eC hs];exact hI.1
  obtain⟨r,e,h1⟩:=key;rw[h1]at e;exact e
 .have e0:V7 (isl b p (Cg b p n),true)=true:=by
   unfold V7;grind
  rw[e0,ez];unfold Cn;rw[eF hs]
theorem Ain(h:Av b)(hp:Ap b p)(hn:n<b.Ao.toNat):Zs b p (n:Int)=some (Ej b p n):=by
 have hcl:=h.sol;have hlen:(isl b p (Cg b p n)).Ad.length<=b.Ad.length:=E7 _ _;have key:Ok (Zs b p (n:Int)) λy=>y=Ej b p n:=by
  unfold Zs;have hof:Ls b p (n:Int)=some (isl b p (Cg b p n),true):=Xw h hp hn;rw[hof];simp only[ab];refine ee (A:=λs=>s=Ej b p n) (B:=λ(_:Unit)=>False) ?_ (λs hs=>eo hs) eq;refine c8 (I:=λj s=>s=K_ (N5 b) ((isl b p (Cg b p n)).Ad.take j)/\0<=s/\s<=50000*(j:Int)) ⟨rfl,by omega,by omega⟩ (λj c s hc hI=>?_) λs hI=>?_
  .obtain⟨h1,h2,h3⟩:=hI;have hj:j<(isl b p (Cg b p n)).Ad.length:=(aa.1 hc).1;have hcm:=yL (ae hc);unfold Akq;refine(d5 hcm.1 hcm.2).bind λy hy=>?_;have hr:=(h.so y (ae hy)).1;have e:(N5 b).getD c.toNat 0=y.Rating:=by simp[N5,List.getD,hy]
   rw[Az];refine c7 ⟨?_,by omega,by omega⟩;rw[Bc hc,Pv,h1,e]
  .rw[ay]at hI;exact hI.1
 obtain⟨r,e,h1⟩:=key;rw[h1]at e;exact e
theorem zH{r:Int->Int}:∀{l m:eQ},l.Pairwise (λa b=>r a<r b)->m.Pairwise (λa b=>r a<r b)->(∀x,x∈l↔x∈m)->l=m
 | [],[],_,_,_=>rfl
 | [],b::m,_,_,h=>by have:=(h b).2 ai;cases this
 |a::l,[],_,_,h=>by have:=(h a).1 ai;cases this
 | a::l,b::m,h1,h2,h=>by
  obtain⟨p1,p2⟩:=aL.1 h1;obtain⟨q1,q2⟩:=aL.1 h2;have e:a=b:=by grind
  subst e;rw[zH p2 q2 λx=>⟨λhx=>?_,λhx=>?_⟩]
  .grind
  grind
theorem A00(h:Av b):(Ft b).Pairwise λx y=>key b x<key b y:=by have hs:=(L6 h).2;have hl:=hs.len;rw[bm];intro i j hi hj hij;have:=hs.asc i j hij (by omega) (by omega);grind
def Qh(b:Aa)(c:Int):Int:=(b.Ae.getD c.toNat default).B1
abbrev Aa0(b:Aa)(l:eQ):Prop:=l.Pairwise λx y=>key b x<key b y
theorem Ami(h:Av b):Ahf b=some (Ft b):=by
 have hcl:=h.col;have hpr:∀c:Int,0<=c->c<b.Ae.length->0<=Qh b c/\Qh b c<=15:=λc h0 h1=>(h.co c.toNat _ (F2 (b:=b) (i:=c.toNat))).2.2.1
 have key : Ok (Ahf b) λy => Aa0 b y /\ ∀x : Int, x ∈ y ↔ 0 <= x /\ x < b.Ae.length := by
  unfold Ahf;rw[Y0 h];simp only[ab];refine c6 (λhc=>by simp at hc) (λ_=>?_);refine ee (A:=λ(s:Int×eQ)=>Aa0 b s.2/\∀x:Int,x∈s.2↔0<=x/\x<b.Ae.length) (B:=λ(_:Unit)=>False) ?_ (λs hs=>eo hs) eq;refine d4 (λ(s:Int×eQ)=>(0<=s.1/\s.1<=16)/\(s.2.length:Int)<=16*s.1/\Aa0 b s.2/\∀x:Int,x∈s.2↔0<=x/\x<b.Ae.length/\Qh b x<s.1) (λs=>(16-s.1).toNat) _ _ ⟨by dsimp only;omega,by simp,bF,λx=>⟨λhx=>(by cases hx),λ⟨h0,h1,h2⟩=>?_⟩⟩ (by dsimp only;omega) ?_
  .exfalso;have:=(hpr x h0 h1).1;dsimp only at h2;omega
  rintro⟨k,d⟩ ⟨hk,hl,hd,hm⟩;dsimp only at hk hd hm hl;unfold Aks;dsimp only;refine c6 (λhq=>?_) (λhq=>?_)
  .simp only[dM]at hq;refine ee (A:=λ(s:eQ)=>(s.length:Int)<=16*(k+1)/\Aa0 b s/\∀x:Int,x∈s↔0<=x/\x<b.Ae.length/\Qh b x<k+1) (B:=λ(_:Unit)=>False) ?_ (λs hs=>?_) eq
   .refine c8 (I:=λj(s:eQ)=>(s.length:Int)<=16*k+j/\Aa0 b s/\∀x:Int,x∈s↔0<=x/\x<b.Ae.length/\(Qh b x<k\/Qh b x=k/\x<(j:Int))) ⟨by omega,hd,λx=>?_⟩ (λj c s hc hI=>?_) λs hI=>⟨by omega,hI.2.1,λx=>?_⟩
    .rw[hm];constructor
     .rintro⟨h0,h1,h2⟩;exact⟨h0,h1,.inl h2⟩
     .rintro⟨h0,h1,h2|⟨_,h2⟩⟩
      .exact⟨h0,h1,h2⟩
      .omega
    .obtain⟨i1,i2,i3⟩:=hI;have hj:j<b.Ae.length:=(aa.1 hc).1;have ep:Qh b (j:Int)=c.B1:=by simp[Qh,List.getD,hc]
     have ec:cnt 0 j=(j:Int):=Cv (by omega);unfold Akr;dsimp only;refine c6 (λhq2=>?_) (λhq2=>?_)
     .simp only[dQ]at hq2;refine(d7 (by simp;omega)).bind λy hy=>c7 ?_;rw[hy,ec];refine⟨by simp;omega,?_,λx=>?_⟩
      .unfold Aa0;rw[List.pairwise_append];refine⟨i2,List.pairwise_singleton _ _,λx hx y hy=>?_⟩;rw[aU.1 hy];obtain⟨x0,x1,x2⟩:=(i3 x).1 hx;have e1:key b x=Qh b x*100+x:=rfl;have e2:key b (j:Int)=Qh b (j:Int)*100+(j:Int):=rfl;rw[e1,e2,ep];omega
      grind
     .simp only[dR]at hq2;refine c7 ⟨by omega,i2,λx=>?_⟩;rw[i3];constructor
      .rintro⟨x0,x1,x2⟩;exact⟨x0,x1,by omega⟩
      .rintro⟨x0,x1,x2⟩;by_cases e:x=(j:Int)
       .subst e;exact⟨x0,x1,by omega⟩
       .exact⟨x0,x1,by omega⟩
    .rw[hI.2.2];constructor
     .rintro⟨x0,x1,x2⟩;exact⟨x0,x1,by omega⟩
     .rintro⟨x0,x1,x2⟩;exact⟨x0,x1,by omega⟩
   .have e2:w64 (k+1)=k+1:=Az;rw[e2];exact c7 ⟨⟨by dsimp only;omega,hs⟩,by dsimp only;omega⟩
  .simp only[dN]at hq;refine d8 ⟨hd,λx=>?_⟩;dsimp only;rw[hm];refine⟨λ⟨h0,h1,_⟩=>⟨h0,h1⟩,λ⟨h0,h1⟩=>⟨h0,h1,?_⟩⟩;have:=(hpr x h0 h1).2;omega
 obtain⟨r,e,h1,h2⟩:=key;rw[e,zH h1 (A00 h) λx=>(h2 x).trans (Ajt h).symm]
theorem Alw(h:Av b)(hp:Ap b p){x:Al}(hx:b.Ah[j]?=some x):Aoo b p (j:Int)=some (Ct p x):=by
 have hbr:=(h.br x (ae hx)).2;have hns:=hp.nso;unfold Aoo Ct;rw[Bl hx];simp only[Qp,ab];cases brk p.Ai 3 x.A with
 |true=>rfl
 | false=>
  simp only[eB,aQ];rcases hbr with⟨hk,_⟩|⟨hk,h0,h1⟩|⟨hk,_⟩
  .rw[hk];rfl
  .rw[hk];have e:p.Ad[x.B.toNat]?=some (p.Ad.getD x.B.toNat default):=by
    grind
   have e2:getI p.Ad x.B=some (p.Ad.getD x.B.toNat default):=by unfold getI;rw[dU h0];exact e
   rw[e2];cases brk p.Ai 1 x.B <;> rfl
  .rw[hk];rfl
theorem Aqs(h:Av b)(hq:Ap b q)(hr:Ap b r)(s:F7 b q r)(n:Nat):G0 b r n=G0 b q n:=by unfold G0;rw[s.groups hq.ncl hr.ncl,s.sources h hq hr]
theorem Abi{q:Al->Bool}:(Di C (Ck b C q j)).getD j false=C.getD j false:=by
 rw[M4];have:((Ck b C q j).any λi=>i.toNat==j)=false:=by rw[bN];intro i hi;obtain⟨k,e,hk,_⟩:=G2.1 hi;simp only[dQ];omega
 rw[this];simp
theorem Arz:F7 b p ⟨Di p.Ag (Ck b p.Ag (Dp b p) j),p.Ad,p.Aj,p.Ai⟩:=⟨rfl,λk x hx hk=>by
 show (Di p.Ag (Ck b p.Ag (Dp b p) j)).getD k false=_;rw[M4];have:((Ck b p.Ag (Dp b p) j).any λi=>i.toNat==k)=false:=by
  rw[bN];intro i hi;obtain⟨m,e,_,_,hd⟩:=G2.1 hi;simp only[dQ];intro e2;have:m=k:=by omega
  subst this;rw[Wa hx]at hd;simp only[Dp,ac,dQ]at hd;exact hk hd.1
 rw[this];simp⟩
set_option linter.unusedVariables false
theorem Afk(h:Av b)(hp:Ap b p):Ok (Ao0 b p) λy=>y=(J8 b p,Ns b p,0):=by
 have hbl:=h.brl;have hcl:=hp.ncl;unfold Ao0;rw[Hb h hp];simp only[ab];refine c6 (λhc=>by simp at hc) (λ_=>?_);rw[Rk h hp];simp only[ab];refine ee (A:=λ(s:Int×eT×List As)=>s.2.1=(C3 b p).Ag/\s.2.2=Fg (Ck b p.Ag (Ct p) b.Ah.length)) (B:=λ(_:Unit)=>False) ?_ (λs hs=>?_) eq
 .refine d4 (λ(s:Int×eT×List As)=>∃j:Nat,s.1=(j:Int)/\j<=b.Ah.length/\s.2.1=Di p.Ag (Ck b p.Ag (Ct p) j)/\s.2.2=Fg (Ck b p.Ag (Ct p) j)) (λs=>(100-s.1).toNat) _ _ ⟨0,rfl,by omega,rfl,rfl⟩ (by dsimp only;omega) ?_;rintro⟨z,C,az⟩ ⟨j,hz,h1,h2,h3⟩;dsimp only at hz h2 h3;subst hz;subst h2 h3;have hfl:=F1 b p.Ag (Ct p) j;unfold Alc Asq;dsimp only;have hlen:(Di p.Ag (Ck b p.Ag (Ct p) j)).length=b.Ah.length:=by rw[Kt];exact hcl
  refine c6 (λhq=>?_) (λhq=>?_)
  .simp only[dM]at hq;have hj:j<b.Ah.length:=by omega
   have hx:b.Ah[j]?=some (b.Ah.getD j default):=by rw[aj hj];simp[List.getD,List.getElem?_eq_getElem hj]
   have hg:getI (Di p.Ag (Ck b p.Ag (Ct p) j)) (j:Int)=some (p.Ag.getD j false):=by rw[←Abi (b:=b) (C:=p.Ag) (q:=Ct p)];refine Bl ?_;rw[aj (by omega)];simp[List.getD,List.getElem?_eq_getElem (show j<(Di p.Ag (Ck b p.Ag (Ct p) j)).length by omega)]
   rw[hg,Alw h hp hx];simp only[ab];have e2:w64 ((j:Int)+1)=((j+1:Nat):Int):=by rw[Az];omega
   have hsu:=Ll (C:=p.Ag) (q:=Ct p) hx;rw[e2];have eg:(Au [(p.Ag.getD j false,true)] (some (Ct p (b.Ah.getD j default))) default)=some (bif p.Ag.getD j false then Ct p (b.Ah.getD j default) else default):=by cases p.Ag.getD j false <;> rfl
   rw[eg];simp only[ab];have ec:(p.Ag.getD j false&&bif p.Ag.getD j false then Ct p (b.Ah.getD j default) else default)=(p.Ag.getD j false&&Ct p (b.Ah.getD j default)):=by cases p.Ag.getD j false <;> rfl
   rw[ec];refine c6 (λhc=>?_) (λhc=>?_)
   .refine(d9 (by omega)).bind λy hy=>?_;refine(d7 (by simp[Fg];omega)).bind λw hw=>c7 ⟨⟨j+1,rfl,by omega,?_,by rw[hw,hsu,eC hc];simp[Fg]⟩,by dsimp only;omega⟩;rw[hsu,eC hc,N6,hy]
   .refine c7 ⟨⟨j+1,rfl,by omega,?_,by dsimp only;rw[hsu,eF (by rw[hc];simp),aK]⟩,by dsimp only;omega⟩;rw[hsu,eF (by rw[hc];simp),aK]
  .simp only[dN]at hq;have:j=b.Ah.length:=by omega
   subst this;exact d8 ⟨rfl,rfl⟩
 .obtain⟨i,C,az⟩:=s;dsimp only at hs;obtain⟨hC,ha⟩:=hs;subst hC ha;have hfl1:=F1 b p.Ag (Ct p) b.Ah.length;have hq1:Ap b (C3 b p):=zE hp;have hlen1:(C3 b p).Ag.length=b.Ah.length:=hq1.ncl;refine ee (A:=λ(s:eT×List As)=>s.1=(Afj b p).Ag/\s.2=Ns b p) (B:=λ(_:Unit)=>False) ?_ (λs hs=>?_) eq
  .refine c8 (I:=λj(s:eT×List As)=>s.1=Di (C3 b p).Ag (Ck b (C3 b p).Ag (Dp b (C3 b p)) j)/\s.2=Fg (Ck b p.Ag (Ct p) b.Ah.length)++Fg (Ck b (C3 b p).Ag (Dp b (C3 b p)) j)) ⟨rfl,by simp[Ck,Fg]⟩ (λj x s hx hI=>?_) λs hI=>hI;obtain⟨D,as2⟩:=s;obtain⟨h1,h2⟩:=hI;dsimp only at h1 h2;subst h1 h2;have hfl2:=F1 b (C3 b p).Ag (Dp b (C3 b p)) j;have hj:j<b.Ah.length:=(aa.1 hx).1;have hlen:(Di (C3 b p).Ag (Ck b (C3 b p).Ag (Dp b (C3 b p)) j)).length=b.Ah.length:=by rw[Kt];exact hlen1
   have ec:cnt 0 j=(j:Int):=Cv (by omega);have hg:getI (Di (C3 b p).Ag (Ck b (C3 b p).Ag (Dp b (C3 b p)) j)) (j:Int)=some ((C3 b p).Ag.getD j false):=by rw[←Abi (b:=b) (C:=(C3 b p).Ag) (q:=Dp b (C3 b p))];refine Bl ?_;rw[aj (by omega)];simp[List.getD,List.getElem?_eq_getElem (show j<(Di (C3 b p).Ag (Ck b (C3 b p).Ag (Dp b (C3 b p)) j)).length by omega)]
   have hok:Ap b ⟨Di (C3 b p).Ag (Ck b (C3 b p).Ag (Dp b (C3 b p)) j),p.Ad,p.Aj,p.Ai⟩:=Y5 _ hq1;have hA:=(h.br x (ae hx)).1;have hlive:F74 b ⟨Di (C3 b p).Ag (Ck b (C3 b p).Ag (Dp b (C3 b p)) j),p.Ad,p.Aj,p.Ai⟩ x.A=some (G0 b (C3 b p) x.A.toNat):=by
    have e:x.A=((x.A.toNat:Nat):Int):=by omega
    have:=Abj h hok (n:=x.A.toNat) (by omega);rw[←e]at this;rw[this,←Aqs h hq1 hok Arz]
   have hsu:=Ll (C:=(C3 b p).Ag) (q:=Dp b (C3 b p)) hx;unfold Alb;dsimp only;rw[ec,hg,hlive];have e1:(Au [((x.Kind==3),true)] (some ((C3 b p).Ag.getD j false)) default)=some (bif x.Kind==3 then (C3 b p).Ag.getD j false else default):=by cases x.Kind==3 <;> rfl
   rw[e1];simp only[ab];have e2:∀g:Bool,(Au [(g,true)] (some (G0 b (C3 b p) x.A.toNat)) default)=some (bif g then G0 b (C3 b p) x.A.toNat else default):=by intro g;cases g <;> rfl
   rw[e2];simp only[ab];have e3:((x.Kind==3)&&(bif x.Kind==3 then (C3 b p).Ag.getD j false else default) && !(bif (x.Kind==3)&&(bif x.Kind==3 then (C3 b p).Ag.getD j false else default)then G0 b (C3 b p) x.A.toNat else default))=((C3 b p).Ag.getD j false&&Dp b (C3 b p) x):=by unfold Dp;cases x.Kind==3 <;> cases (C3 b p).Ag.getD j false <;> rfl
   rw[e3];refine c6 (λhc=>?_) (λhc=>?_)
   .refine(d9 (by omega)).bind λy hy=>?_;refine(d7 (by simp[Fg];omega)).bind λw hw=>c7 ⟨?_,by rw[hw,hsu,eC hc];simp[Fg]⟩;rw[hsu,eC hc,N6,hy]
   .refine c7 ⟨?_,by dsimp only;rw[hsu,eF (by rw[hc];simp),aK]⟩;rw[hsu,eF (by rw[hc];simp),aK]
  .rw[hs.1];have hf:=Ql h (X3 hp);have hf2:Zz b ⟨(Afj b p).Ag,p.Ad,p.Aj,p.Ai⟩=some (J8 b p,0):=hf;rw[hf2];exact eo (by rw[hs.2])
set_option linter.unusedVariables false
theorem Aed(b:Aa)(q:Ab)(n:Nat)(a:List As):∀(l:eQ)(z:eQ×List As),Fw b q n l (z.1,a++z.2)=((Fw b q n l z).1,a++(Fw b q n l z).2)
 | [],_=>rfl
 | c::l,z=>by
  have e:Gt b q n (z.1,a++z.2) c=((Gt b q n z c).1,a++(Gt b q n z c).2):=by unfold Gt;dsimp only;split <;> simp
  show Fw b q n l (Gt b q n (z.1,a++z.2) c)=_;rw[e];exact Aed b q n a l _
theorem Aa4(b:Aa)(q:Ab)(n:Nat)(a:List As):∀(l:eQ)(z:eT×List As),Eb b q n l (z.1,a++z.2)=((Eb b q n l z).1,a++(Eb b q n l z).2)
 | [],_=>rfl
 | c::l,z=>by
  have e:Fq b q n (z.1,a++z.2) c=((Fq b q n z c).1,a++(Fq b q n z c).2):=by unfold Fq;dsimp only;split <;> simp
  show Eb b q n l (Fq b q n (z.1,a++z.2) c)=_;rw[e];exact Aa4 b q n a l _
theorem Adt(b:Aa)(a:List As):∀(l:List An)(z:Ab×List As),Gk b l (z.1,a++z.2)=((Gk b l z).1,a++(Gk b l z).2)
 | [],_=>rfl
 | x::l,z=>by
  have e1:Gj b x (z.1,a++z.2)=((Gj b x z).1,a++(Gj b x z).2):=Aed b z.1 (Cx x) a (Fl b x) (z.1.Aj,z.2);have e2:I8 b x (z.1,a++z.2)=((I8 b x z).1,a++(I8 b x z).2):=by unfold I8;rw[e1];exact Aa4 b _ (Cx x) a (Fl b x) (z.1.Ag,(Gj b x z).2)
  have e:Gz b (z.1,a++z.2) x=((Gz b z x).1,a++(Gz b z x).2):=by unfold Gz;rw[e1,e2];split <;> rfl
  show Gk b l (Gz b (z.1,a++z.2) x)=_;rw[e];exact Adt b a l _
theorem Axi(h:Av b)(hp:Ap b p)(hq:Ap b q)(u:Lu b D p q)(hx:x∈Bq b p)(hd:∀y,y∈D->∀k,¬(Da y k=true/\Da x k=true)) :
  Ew b q (Cx x)=x.Ae/\(isl b q (Cg b q (Cx x))).Ad=x.Ad/\Cn b q (Cx x)=Cn b p (Cx x)/\Ej b q (Cx x)=Ej b p (Cx x):=by
 obtain⟨ex,hlt⟩:=Aq0 h hx;have hg:Cg b q (Cx x)=Cg b p (Cx x):=G4 hp hq u.skel _;have hmem:∀k:Nat,k<b.Ae.length->fg b p k=some ((Cg b p (Cx x):Nat):Int)->fg b q k=fg b p k/\q.Aj.getD k 0=p.Aj.getD k 0:=λk hk hf=>by
  refine u.out k λy hy=>?_;have:Da x (k:Int)=true:=by rw[O7,ex];exact Ev.2 ⟨k,rfl,hk,hf⟩
  grind
 have hc:Ew b q (Cx x)=Ew b p (Cx x):=by
  show Fa b q b.Ae.length (Cg b q (Cx x))=Fa b p b.Ae.length (Cg b p (Cx x));rw[hg];unfold Fa;congr 1;refine cm λk hk=>?_;have hk:=ba.1 hk;show (fg b q k==some ((Cg b p (Cx x):Nat):Int))=(fg b p k==some ((Cg b p (Cx x):Nat):Int));by_cases hf:fg b p k=some ((Cg b p (Cx x):Nat):Int)
  .rw[(hmem k hk hf).1]
  .rw[dR.2 hf];rcases u.fgs k with e|e
   .rw[e,dR.2 hf]
   .rw[e];rfl
 have hs:(isl b q (Cg b q (Cx x))).Ad=(isl b p (Cg b p (Cx x))).Ad:=by rw[hg,u.skel.sources h hp hq]
 refine⟨hc.trans (by grind),hs.trans (by rw[←ex]),?_,Yw h hp hq u.skel _⟩;by_cases hh:0<(isl b p (Cg b p (Cx x))).Ad.length
 .rw[Jv b p _ hh,Jv b q _ (by rw[hs];exact hh),hc];refine Yv λm hm=>?_;obtain⟨k,rfl,hk,hf⟩:=Ev.1 hm;exact(hmem k hk hf).2
 .unfold Cn;rw[eF hh,eF (by rw[hs];exact hh)]
theorem Agc(x:An)(c:Int):x.Ae.any (· == c)=Da x c:=by unfold Da;grind
theorem jP{L:eQ}(hL:Ap b (Bf q L))(h0:0<=c)(h1:c<b.Ae.length):getI L c=some (L.getD c.toNat 0):=by
 have hl:L.length=b.Ae.length:=hL.nli;have:=Bl (l:=L) (j:=c.toNat) (x:=L.getD c.toNat 0) (by grind)
 rwa [bh h0]at this
theorem A08(h:Av b)(hq:Ap b q)(hn:n<b.Ao.toNat)(hX:Ew b q n=x.Ae)(hs:0<(isl b q (Cg b q n)).Ad.length)(ha:acts.length<=100000) :
  Ok (foldI (Sf b x) (Ft b) 0 (Cn b q n-Ej b q n,q.Aj,acts)) (D1 (λz=>z.2=Fw b q n (Fl b x) (q.Aj,acts)/\z.1=Cn b (Bf q z.2.1) n-Ej b q n/\Ap b (Bf q z.2.1)/\z.2.2.length<=acts.length+16) λ(_:Unit)=>False):=by
 have hol:=Xt h;have hcl:=h.col;refine c8 (I:=λj z=>z.2=Fw b q n (((Ft b).take j).filter (Da x)) (q.Aj,acts)/\z.1=Cn b (Bf q z.2.1) n-Ej b q n/\Ap b (Bf q z.2.1)/\z.2.2.length<=acts.length+j) ⟨rfl,rfl,(show Ap b (Bf q q.Aj) from hq),by simp⟩ (λj c z hc hI=>?_) λz hI=>by rw[ay]at hI;exact⟨hI.1,hI.2.1,hI.2.2.1,by have:=hI.2.2.2;omega⟩
 obtain⟨much,L,as1⟩:=z;obtain⟨h1,h2,h3,h4⟩:=hI;dsimp only at h1 h2 h3 h4;have hj:=(aa.1 hc).1;have hcin:=U6 h (ae hc);have hlim:=Qj h h3 hcin.1 hcin.2;have hld:=Q8 h h3 hn;have hrt:=M0 h hq hn;obtain⟨_,g2,g3,g4⟩:=hlim;have g2:0<=L.getD c.toNat 0:=g2;have g4:L.getD c.toNat 0<=50000:=g4;have hLl:L.length=b.Ae.length:=h3.nli;have hco:=(h.co c.toNat _ (F2 (b:=b) (i:=c.toNat)));have hco1:=hco.1;have hco2:=hco.2.1;have hL1:(Ft b).take (j+1)=(Ft b).take j++[c]:=Bc hc;unfold Sf;dsimp only;rw[Axj hcin.1 hcin.2,ab,jU,Agc];have hskip:(Da x c=true->Gt b q n (L,as1) c=(L,as1))->(λz:Int×eQ×List As=>z.2=Fw b q n (((Ft b).take (j+1)).filter (Da x)) (q.Aj,acts)/\z.1=Cn b (Bf q z.2.1) n-Ej b q n/\Ap b (Bf q z.2.1)/\z.2.2.length<=acts.length+(j+1)) (much,L,as1):=λhk=>by
  refine⟨?_,h2,h3,by dsimp only;omega⟩;dsimp only;rw[hL1,aY];cases hkc:Da x c with
  |false=>rw[List.filter_cons_of_neg (by rw[hkc];simp),bV,aK];exact h1
  |true=>rw[cF hkc,bV];unfold Fw at h1 ⊢;rw[aI,←h1];exact(hk hkc).symm
 have hexc:Dx b (Bf q L) n=max 0 much:=by unfold Dx;rw[A73,h2]
 refine ef (P:=λy=>¬much<=0->y=Da x c) (c9 (λ_=>eo λ_=>rfl) λhg hm=>absurd ⟨dV hm,trivial⟩ hg) λy1 hy1=>?_;refine ef (P:=λy=>¬much<=0->y1=true->y=L.getD c.toNat 0) (c9 (λ_=>d6 (jP h3 hcin.1 hcin.2) λ_ _=>rfl) λhg hm hy=>absurd ⟨by rw[dV hm,hy];rfl,trivial⟩ hg) λy2 hy2=>c6 (λhcd=>c7 (hskip λhkc=>?_)) λhcd=>?_
 .unfold Gt;rw[eF];unfold D3;rw[hexc];show ¬0<min (max 0 much) (L.getD c.toNat 0-(b.Ae.getD c.toNat default).Least);by_cases hm:much<=0
  .omega
  .have e1:=hy1 hm;rw[hkc]at e1;have e2:=hy2 hm e1;simp only[X5,e1,e2,dV hm,aH,aQ,dM]at hcd;omega
 .simp only[X5,aZ,dN,ch]at hcd;obtain⟨⟨c1,c2⟩,c3⟩:=hcd;have e1:=hy1 c1;have e2:=hy2 c1 c2;rw[c2]at e1;rw[e2]at c3;have hcm:c∈Ew b q n:=by rw[hX];exact O7.1 e1.symm
  rw[jP h3 hcin.1 hcin.2,ab,Az (n:=L.getD c.toNat 0-(b.Ae.getD c.toNat default).Least)];generalize hcut:min much (L.getD c.toNat 0-(b.Ae.getD c.toNat default).Least)=cut;rw[Az (n:=L.getD c.toNat 0-cut),Az (n:=much-cut)];refine(d9 hcin.1).bind λy hy=>?_;subst hy;have hget:getI (L.set c.toNat (L.getD c.toNat 0-cut)) c=some (L.getD c.toNat 0-cut):=by
   have:=Bl (l:=L.set c.toNat (L.getD c.toNat 0-cut)) (j:=c.toNat) (x:=L.getD c.toNat 0-cut) (by rw[aS,eC rfl,eC (by omega)])
   rwa [bh hcin.1]at this
  rw[hget,ab];have hS:Gt b q n (L,as1) c=(L.set c.toNat (L.getD c.toNat 0-cut),as1++[⟨5,c,L.getD c.toNat 0-cut⟩]):=by
   have el:D3 b (Bf q L) n c=cut:=by unfold D3;rw[hexc];show min (max 0 much) (L.getD c.toNat 0-(b.Ae.getD c.toNat default).Least)=cut;omega
   unfold Gt;dsimp only;rw[el,eC (by omega)]
  refine(d7 (by simp;omega)).bind λw hw=>c7 ⟨?_,?_,?_,by rw[hw];simp;omega⟩
  .dsimp only;rw[hw,hL1,aY,cF e1.symm,bV];unfold Fw at h1 ⊢;rw[aI,←h1];exact hS.symm
  .dsimp only;rw[Aj5 hcm (by omega) hs,h2];omega
  .have:=Xy h (p:=q) (n:=n) (z:=(L,as1)) h3 hcin.1 hcin.2;rw[hS]at this;exact this
set_option linter.unusedVariables false
theorem Ap4{g:Int->Int}{c:Int}:∀{l:eQ},l.Nodup->c∈l->sm g l=g c+sm g (l.filter λm=>m != c)
 | [],_,h=>by cases h
 | a::l,hn,h=>by
  obtain⟨h1,h2⟩:=cG.1 hn;by_cases e:a=c
  .subst e;have:l.filter (λm=>m != a)=l:=cd.2 λm hm=>by
    grind
   grind[sm]
  .have hm:c∈l:=(ag.1 h).resolve_left λe2=>e e2.symm;rw[cF (by simp[e])];show g a+sm g l=g c+(g a+sm g _);rw[Ap4 h2 hm];omega
theorem Apt(h:Av b)(hr:Ap b r)(hc:c∈Ew b r n)(hs:0<(isl b r (Cg b r n)).Ad.length) :
  Cn b (Bs r (acC b r.Ag (isC c))) n=Cn b r n-r.Aj.getD c.toNat 0:=by
 obtain⟨k,rfl,hk,hf⟩:=Ev.1 hc;have hr2:Ap b (Bs r (acC b r.Ag (isC (k:Int)))):=Nf hr _;have hsk:=Ty (b:=b) (q:=r) k;have hg:=G4 hr hr2 hsk n;have hso:=hsk.sources h hr hr2 (Cg b r n);have hcon:Ew b (Bs r (acC b r.Ag (isC (k:Int)))) n=(Ew b r n).filter λm=>m != (k:Int):=by show Fa b _ b.Ae.length (Cg b _ n)=(Fa b r b.Ae.length (Cg b r n)).filter _;rw[hg];unfold Fa;rw[List.filter_map,List.filter_filter];congr 1;refine cm λm hm=>?_;show (fg b (Bs r (acC b r.Ag (isC (k:Int)))) m==some ((Cg b r n:Nat):Int))=(((m:Int) != (k:Int))&&(fg b r m==some ((Cg b r n:Nat):Int)));rw[Am6 hr k m];grind
 rw[Jv b r n hs,Jv b _ n (by rw[hg,hso];exact hs),hcon,Ap4 (c:=(k:Int)) (l:=Ew b r n) (Tn b r _) hc];show sm (λm=>r.Aj.getD m.toNat 0) _=_;omega
theorem Axb(h:Av b)(c:Int):Ok (Qw b 3 c) λl=>l.Pairwise (· < ·)/\∀i:Int,i∈l↔∃(k:Nat)(x:Al),i=(k:Int)/\b.Ah[k]?=some x/\x.Kind=3/\x.B=c:=by
 unfold Qw;rw[Y0 h,yG h];refine eo ⟨?_,λi=>?_⟩
 .unfold ofL;rw[cE];have hz:b.Ah.zipIdx.Pairwise λy z=>(y.2:Int)<z.2:=by
   rw[bm];grind
  exact hz.sublist cu
 .unfold ofL;rw[an];constructor
  .rintro⟨⟨x,k⟩,hz,rfl⟩;obtain⟨h1,h2⟩:=ar.1 hz;rw[cY]at h1;dsimp only at h2;rw[Adw 3 (by omega)]at h2;grind
  .rintro⟨k,x,rfl,hx,hk,hB⟩;refine⟨(x,k),ar.2 ⟨by rw[cY];exact hx,?_⟩,rfl⟩;show Kc 3 c x=true;rw[Adw 3 (by omega),hk,hB];simp
theorem Aq6(h1:l.Pairwise (· < ·))(h2:∀i:Int,i∈l↔∃(k:Nat)(x:Al),i=(k:Int)/\b.Ah[k]?=some x/\x.Kind=3/\x.B=c) :
  Ck b C (isC c) b.Ah.length=l.filter λi=>C.getD i.toNat false:=by
 refine zH (r:=id) ?_ (h1.sublist cu) λi=>?_
 .unfold Ck;rw[cE];exact(List.pairwise_lt_range.sublist cu).imp fun {i j} h=>by grind
 .rw[G2,ar,h2];constructor
  .rintro⟨k,rfl,hk,hC,hq⟩;have hx:b.Ah[k]?=some (b.Ah.getD k default):=by
    grind
   unfold isC at hq;grind
  .rintro⟨⟨k,x,rfl,hx,hk,hB⟩,hC⟩;rw[ax]at hC;refine⟨k,rfl,(aa.1 hx).1,hC,?_⟩;rw[Wa hx];unfold isC;rw[hk,hB];simp
theorem atD{l:List α}(d:α)(h:k<l.length):l[k]?=some (l.getD k d):=by grind
theorem Aqj(ha:acts.length<=1000000)(hl:l.Pairwise (· < ·))(hn:l.length<=100)(hin:∀i,i∈l->0<=i/\i<C.length) :
  Ok (foldI Aad l 0 (C,acts)) (D1 (λz=>z=(Di C (l.filter λi=>C.getD i.toNat false),acts++Fg (l.filter λi=>C.getD i.toNat false))) λ(_:Unit)=>False):=by
 refine c8 (I:=λm z=>z=(Di C ((l.take m).filter λi=>C.getD i.toNat false),acts++Fg ((l.take m).filter λi=>C.getD i.toNat false))) (by simp[Di,Fg]) (λm k z hk hz=>?_) λz hz=>by rw[ay]at hz;exact hz
 subst hz;have hm:=(aa.1 hk).1;have hki:=hin k (ae hk);have hfl:((l.take m).filter λi=>C.getD i.toNat false).length<=m:=aA (bc _ _) (by rw[aV];omega);have hget:getI (Di C ((l.take m).filter λi=>C.getD i.toNat false)) k=some (C.getD k.toNat false):=by
  have e:(Di C ((l.take m).filter λi=>C.getD i.toNat false)).getD k.toNat false=C.getD k.toNat false:=by
   rw[M4];have:((l.take m).filter λi=>C.getD i.toNat false).any (λi=>i.toNat==k.toNat)=false:=by rw[bN];intro i hi;obtain⟨hi,_⟩:=ar.1 hi;obtain⟨j,hj,hi⟩:=Kj.1 hi;have:=bm.1 hl j m (aa.1 hi).1 hm hj;grind
   rw[this];simp
  have hlen:=Kt ((l.take m).filter λi=>C.getD i.toNat false) C;have:=Bl (atD (l:=Di C ((l.take m).filter λi=>C.getD i.toNat false)) (k:=k.toNat) false (by omega))
  rwa [bh hki.1,e]at this
 have hlen:=Kt ((l.take m).filter λi=>C.getD i.toNat false) C;have hoa:(Fg ((l.take m).filter λi=>C.getD i.toNat false)).length<=m:=by unfold Fg;rw[ao];exact hfl
 unfold Aad;dsimp only;rw[hget,ab,Bc hk,aY];refine c6 (λhc=>?_) λhc=>c7 ?_
 .refine(d9 hki.1).bind λy hy=>(d7 (by rw[aE,List.length_singleton];omega)).bind λw hw=>c7 ?_;rw[cF (p:=λi:Int=>C.getD i.toNat false) hc,bV,N6,hy,hw];simp[Fg]
 grind
theorem Avq(h:Av b)(hq:Ap b q)(hn:n<b.Ao.toNat)(hX:Ew b q n=x.Ae)(hs:0<(isl b q (Cg b q n)).Ad.length)(ha:acts.length<=100000)(m0:Int)(a0:List As) :
  Ok (foldI (Se b x (m0,q.Aj,a0)) (Ft b) 0 (Cn b q n-Ej b q n,q.Ag,acts)) (D1 (λz=>z.2=Eb b q n (Fl b x) (q.Ag,acts)/\Ap b (Bs q z.2.1)/\z.2.2.length<=acts.length+384) λ(_:Unit)=>False):=by
 have hol:=Xt h;have hcl:=h.col;have hbl:=h.brl;have hnd:=Abg h;refine c8 (I:=λj z=>z.2=Eb b q n (((Ft b).take j).filter (Da x)) (q.Ag,acts)/\(Ap b (Bs q z.2.1)/\F7 b q (Bs q z.2.1))/\z.1=Cn b (Bs q z.2.1) n-Ej b q n/\(∀k:Nat,(k:Int)∉(Ft b).take j->fg b (Bs q z.2.1) k=fg b q k)/\z.2.2.length<=acts.length+24*j) ⟨rfl,⟨(show Ap b (Bs q q.Ag) from hq),(show F7 b q (Bs q q.Ag) from F7.refl b q)⟩,rfl,λ_ _=>rfl,by simp⟩ (λj c z hc hI=>?_) λz hI=>by rw[ay]at hI;exact⟨hI.1,hI.2.1.1,by have:=hI.2.2.2.2;omega⟩
 obtain⟨much,C,as1⟩:=z;obtain⟨h1,⟨h2,hsk⟩,h3,h4,h5⟩:=hI;dsimp only at h1 h2 hsk h3 h4 h5;have hj:=(aa.1 hc).1;have hcin:=U6 h (ae hc);obtain⟨_,g2,g3,g4⟩:=Qj h hq hcin.1 hcin.2;have hld:=Q8 h h2 hn;have hrt:=M0 h hq hn;have hL1:(Ft b).take (j+1)=(Ft b).take j++[c]:=Bc hc;have hnot:c∉(Ft b).take j:=λhm=>by obtain⟨i,hi,hm⟩:=Kj.1 hm;have:=(cU.1 hnd);have:=bm.1 this i j (aa.1 hm).1 hj hi;rw[(aa.1 hm).2,(aa.1 hc).2]at this;exact this rfl
 have hexc:Dx b (Bs q C) n=max 0 much:=by unfold Dx;rw[Yw h hq h2 hsk,h3]
 unfold Se;dsimp only;rw[jU,Agc];have hsub:∀k:Nat,(k:Int)∉(Ft b).take (j+1)->(k:Int)∉(Ft b).take j:=λk hk hm=>hk (by rw[hL1];exact bp _ hm);refine ef (P:=λy=>¬much<=0->y=Da x c) (c9 (λ_=>eo λ_=>rfl) λhg hm=>absurd ⟨dV hm,trivial⟩ hg) λy1 hy1=>?_;refine ef (P:=λy=>¬much<=0->y1=true->y=q.Aj.getD c.toNat 0) (c9 (λ_=>d6 (jP (q:=q) (L:=q.Aj) hq hcin.1 hcin.2) λ_ _=>rfl) λhg hm hy=>absurd ⟨by rw[dV hm,hy];rfl,trivial⟩ hg) λy2 hy2=>c6 (λhcd=>c7 ?_) λhcd=>?_
 .refine⟨?_,⟨h2,hsk⟩,h3,λk hk=>h4 k (hsub k hk),by dsimp only;omega⟩;dsimp only;rw[hL1,aY];cases hkc:Da x c with
  |false=>rw[List.filter_cons_of_neg (by rw[hkc];simp),bV,aK];exact h1
  |true=>
   rw[cF hkc,bV];unfold Eb at h1 ⊢;rw[aI,←h1];show _=Fq b q n (C,as1) c;unfold Fq;rw[eF];rintro⟨k1,k2⟩;rw[hexc]at k2;have hm:¬much<=0:=by omega
   have e1:=hy1 hm;rw[hkc]at e1;have e2:=hy2 hm e1;simp only[X4,e1,e2,dV hm,aH,aQ,dQ]at hcd;omega
 .simp only[X4,aZ,dN,ch,dR]at hcd;obtain⟨⟨c1,c2⟩,c3⟩:=hcd;have e1:=hy1 c1;have e2:=hy2 c1 c2;rw[c2]at e1;rw[e2]at c3;have hCl:C.length=b.Ah.length:=h2.ncl;refine(Axb h c).bind λl hl=>?_;obtain⟨l1,l2⟩:=hl;have hfnd:=Aq6 (C:=C) l1 l2;have hlin:∀i,i∈l->0<=i/\i<C.length:=λi hi=>by
   obtain⟨k,y,rfl,hy,_⟩:=(l2 i).1 hi;have:=(aa.1 hy).1;omega
  have hln:l.length<=24:=by
   have h6:∀i,i∈l->i∈(List.range b.Ah.length).map λ(k:Nat)=>(k:Int):=λi hi=>by obtain⟨k,y,rfl,hy,_⟩:=(l2 i).1 hi;exact an.2 ⟨k,ba.2 (aa.1 hy).1,rfl⟩
   have h7:l.Nodup:=l1.imp λh=>by omega
   have:=List.Nodup.length_le_of_subset h7 λi hi=>h6 i hi;rw[ao,List.length_range]at this;omega
  have hfl:=F1 b C (isC c) b.Ah.length;refine Ok.inner (A:=λz=>z=(acC b C (isC c),as1++acA b C (isC c))) (B:=λ(_:Unit)=>False) ?_ (λz hz=>?_) eq
  .have:=Aqj (C:=C) (acts:=as1) (by omega) l1 (by omega) hlin;rw[←hfnd]at this;exact this
  .subst hz;have hgc:getI q.Aj c=some (q.Aj.getD c.toNat 0):=jP (q:=q) (L:=q.Aj) hq hcin.1 hcin.2;dsimp only;rw[hgc,ab,Az];have hxm:c∈Ew b q n:=by rw[hX];exact O7.1 e1.symm
   obtain⟨k,ek,hk,hf⟩:=Ev.1 hxm;have hg:=G4 hq h2 hsk n;have hcr:c∈Ew b (Bs q C) n:=Ev.2 ⟨k,ek,hk,by rw[h4 k (by rw[←ek];exact hnot),hg];exact hf⟩;have hso:0<(isl b (Bs q C) (Cg b (Bs q C) n)).Ad.length:=by rw[hg,hsk.sources h hq h2];exact hs
   have hload:=Apt h h2 hcr hso;have hld2:Cn b (Bs q (acC b C (isC c))) n=Cn b (Bs q C) n-q.Aj.getD c.toNat 0:=hload;have hok2:Ap b (Bs q (acC b C (isC c))):=Nf h2 (isC c);refine c7 ⟨?_,⟨hok2,?_⟩,?_,λk2 hk2=>?_,?_⟩
   .dsimp only;rw[hL1,aY,cF e1.symm,bV];unfold Eb at h1 ⊢;rw[aI,←h1];show _=Fq b q n (C,as1) c;unfold Fq;dsimp only;rw[eC ⟨by omega,by rw[hexc];omega⟩]
   .rw[ek];exact hsk.trans (Ty (b:=b) (q:=Bs q C) k)
   .dsimp only;rw[hld2,h3];omega
   .dsimp only;have e3:=Am6 (b:=b) (q:=Bs q C) h2 k k2;rw[←ek]at e3;have hne:k2≠k:=λe=>by
     subst e;rw[←ek]at hk2;exact hk2 (by rw[hL1];exact bx _ (aU.2 rfl))
    rw[eF hne]at e3;exact e3.trans (h4 k2 (hsub k2 hk2))
   .have:(acA b C (isC c)).length<=b.Ah.length:=Rv b C (isC c);dsimp only;rw[aE];omega
theorem Awp(h:Av b)(hm:m<=0)(L:eQ)(acts:List As):Ok (foldI (Sf b x) (Ft b) 0 (m,L,acts)) (D1 (λz=>z=(m,L,acts)) λ(_:Unit)=>False):=by refine c8 (I:=λ_ z=>z=(m,L,acts)) rfl (λj c z hc hz=>?_) λz hz=>hz;subst hz;have hcin:=U6 h (ae hc);unfold Sf;dsimp only;rw[Axj hcin.1 hcin.2,ab];refine ef (P:=λ_=>True) (c9 (λhg=>by have:=hg.1;grind) λ_=>trivial) λy1 _=>ef (P:=λ_=>True) (c9 (λhg=>by have:=hg.1;grind) λ_=>trivial) λy2 _=>c6 (λ_=>c7 rfl) λhc=>?_;simp[X5,decide_eq_true hm]at hc
theorem Aps(hm:m<=0)(z1:Int×eQ×List As)(C:eT)(acts:List As):Ok (foldI (Se b x z1) (Ft b) 0 (m,C,acts)) (D1 (λz=>z=(m,C,acts)) λ(_:Unit)=>False):=by refine c8 (I:=λ_ z=>z=(m,C,acts)) rfl (λj c z hc hz=>?_) λz hz=>hz;subst hz;unfold Se;dsimp only;refine ef (P:=λ_=>True) (c9 (λhg=>by have:=hg.1;grind) λ_=>trivial) λy1 _=>ef (P:=λ_=>True) (c9 (λhg=>by have:=hg.1;grind) λ_=>trivial) λy2 _=>c6 (λ_=>c7 rfl) λhc=>?_;simp[X4,decide_eq_true hm]at hc
theorem Ap7(h:Av b)(hp:Ap b p):Aoz b p=some ((Gk b (Bq b p) (p,[])).1,(Gk b (Bq b p) (p,[])).2,0):=by
 have hbu:=h.buses;have hil:=L_ b p;have hap:=Ac1 h p;refine da ?_;unfold Aoz;rw[Hb h hp,Rk h hp];simp only[ab];refine c6 (λhc=>by simp at hc) (λ_=>?_);rw[Ami h];have hi:Zv b p=some (Bq b p):=Vg h hp;refine ef (P:=λv=>v=Bq b p) (d6 hi rfl) λv hv=>?_;subst hv;refine ee (A:=λz=>∃q az,z=(q.Ag,q.Aj,az)/\Gk b (Bq b p) (p,[])=(q,az)/\q.Ad=p.Ad/\q.Ai=p.Ai) (B:=λ(_:Unit)=>False) ?_ (λz hz=>?_) eq
 .refine c8 (I:=λj z=>∃q az,z=(q.Ag,q.Aj,az)/\Gk b ((Bq b p).take j) (p,[])=(q,az)/\Lu b ((Bq b p).take j) p q/\az.length<=400*j) ⟨p,[],rfl,rfl,Lu.refl hp,by simp⟩ (λj x z hx hI=>?_) λz hI=>?_
  .obtain⟨q,az,rfl,h1,h2,h3⟩:=hI;have hj:=(aa.1 hx).1;have hxm:=ae hx;have hin:=Vh h hxm;obtain⟨e0,hb0⟩:=Tv hin;have hd:∀y,y∈(Bq b p).take j->∀k,¬(Da y k=true/\Da x k=true):=λy hy=>by
    rw[cZ]at hy;obtain⟨i,hi⟩:=hy;rw[aq]at hi;split at hi
    .rename_i hij;have:=bm.1 hap i j (aa.1 hi).1 hj hij
     rwa [(aa.1 hi).2,(aa.1 hx).2]at this
    .cases hi
   obtain⟨k1,k2,k3,k4⟩:=Axi h hp h2.ok h2 hxm hd;have hdon:=(Av2 h hp h2 h2.ok hxm hd az).1;have hld:=Q8 h hp hb0;have hrt:=M0 h hp hb0;unfold Ala;rw[e0];simp only[ab];rw[Aqr h hp hb0,Ain h hp hb0];simp only[ab];rw[Az,←k3,←k4];have hrel:Gk b ((Bq b p).take (j+1)) (p,[])=Gz b (q,az) x:=by rw[Bc hx];unfold Gk at h1 ⊢;rw[aI,h1];rfl
   by_cases hs:0<x.Ad.length
   .refine Ok.inner (A08 h h2.ok hb0 k1 (by rw[k2];exact hs) (by omega)) (λz1 hz1=>?_) eq;obtain⟨m1,L1,a1⟩:=z1;obtain⟨g1,g2,g3,g4⟩:=hz1;dsimp only at g1 g2 g3 g4 ⊢;subst g2;have hR:Gj b x (q,az)=(L1,a1):=g1.symm;refine Ok.inner (Avq h (q:=Bf q L1) (x:=x) (n:=Cx x) g3 hb0 k1 (by rw[show (isl b (Bf q L1) (Cg b (Bf q L1) (Cx x))).Ad=(isl b q (Cg b q (Cx x))).Ad from rfl,k2];exact hs) (acts:=a1) (by omega) _ _) (λz2 hz2=>?_) eq;obtain⟨m2,C2,a2⟩:=z2;obtain⟨f1,f2,f3⟩:=hz2;dsimp only at f1 f2 f3 ⊢;have hC:I8 b x (q,az)=(C2,a2):=by
     unfold I8;rw[hR];exact f1.symm
    have hS:Gz b (q,az) x=(Bs (Bf q L1) C2,a2):=by unfold Gz;rw[eC hs,hR,hC]
    refine c7 ⟨Bs (Bf q L1) C2,a2,rfl,by rw[hrel,hS],?_,by omega⟩;rw[hS]at hdon;rw[Bc hx];exact h2.trans hdon
   .have hz0:x.Ad=[]:=cL.1 (by omega);have hm:Cn b q (Cx x)-Ej b q (Cx x)<=0:=by
     unfold Cn Ej;rw[k2,hz0];simp[K_]
    refine Ok.inner (Awp h hm _ _) (λz1 hz1=>?_) eq;subst hz1;refine Ok.inner (Aps hm _ _ _) (λz2 hz2=>?_) eq;subst hz2;have hS:Gz b (q,az) x=(q,az):=by unfold Gz;rw[eF hs]
    refine c7 ⟨q,az,rfl,by rw[hrel,hS],?_,by omega⟩;rw[hS]at hdon;rw[Bc hx];exact h2.trans hdon
  .obtain⟨q,az,e,h1,h2,_⟩:=hI;rw[ay]at h1;exact⟨q,az,e,h1,h2.skel.src,h2.brk⟩
 .obtain⟨q,az,rfl,h1,h2,h3⟩:=hz;refine eo ?_;rw[h1];dsimp only;rw[←h2,←h3]
theorem Adz(h:Av b)(hp:Ap b p):Ah8 b p=some (Qg b p,Dg b p,0):=by
 have hbl:=h.brl;have hcl:=Zh b p;have hpl:=(Ju h hp).2.2;have hpre:=Adt b (Ns b p) (Bq b (J8 b p)) (J8 b p,[]);dsimp only at hpre;rw[aK]at hpre;have hZ:Av5 b p=Gk b (Bq b (J8 b p)) (J8 b p,Ns b p):=rfl;refine da ?_;unfold Ah8;refine(Afk h hp).bind λy hy=>?_;subst hy;refine c6 (λhc=>by simp at hc) (λ_=>?_);rw[Ap7 h (zD hp),ab];have hlen:(Ns b p).length+(Gk b (Bq b (J8 b p)) (J8 b p,[])).2.length<=10000:=by unfold Dg at hpl;grind
 refine(d7 (by dsimp only;omega)).bind λw hw=>eo ?_;unfold Qg Dg;rw[hZ,hpre,hw]
set_option linter.unusedVariables false
theorem A1a(hs:A2 s):Ok (zX s) λy=>A2 y.2:=by unfold zX;refine(Ok.mkI (by omega) (by omega)).bind λl hl=>?_;subst hl;refine ee (A:=λz=>A2 ⟨z.1,z.2.1⟩) (B:=λ(_:Unit)=>False) ?_ (λz hz=>eo hz) eq;refine c8 (I:=λ_ z=>A2 ⟨z.1,z.2.1⟩/\z.2.2.length=12) ⟨hs,by simp⟩ (λj x z hx hz=>?_) λz hz=>hz.1;have hj:=(aa.1 hx).1;simp only[List.length_replicate]at hj;have hj2:j<12:=hj;unfold Aky;rw[Cv (by omega)];refine(C8 hz.1 _ (by simp) (by simp)).bind λy hy=>(d5 (by omega) (by omega)).bind λ_ _=>(d9 (by omega)).bind λw hw=>c7 ⟨hy.1,?_⟩;rw[hw,bz];exact hz.2
theorem Ze(hs:A2 s):Ok (Aap s) λy=>A2 y.2:=by grind[Aap,Ok.bind,A1a,Ok.pure]
theorem pick(hs:A2 s)(l:eQ)(h:1<=l.length)(h1:l.length<=1000):Ok (F20 s l) λy=>A2 y.2:=(C8 hs l h h1).mono λ_ h=>h.1
theorem A1k(hs:A2 s):Ok (F82 s) λy=>A2 y.2:=by unfold F82;exact(Ze hs).bind λa ha=>(Ze ha).bind λb hb=>(Ze hb).bind λc hc=>(pick hc _ (by simp) (by simp)).bind λd hd=>(pick hd _ (by simp) (by simp)).bind λe he=>(pick he _ (by simp) (by simp)).bind λf hf=>(pick hf _ (by simp) (by simp)).bind λg hg=>eo hg
theorem A0y(hs:A2 s){n:Int}(hn:0<=n/\n<=8):Ok (F86 s n) λy=>A2 y.2:=by unfold F86;rw[Az];refine(Df hs (n+1) (by omega) (by omega)).bind λk hk=>?_;refine ee (A:=λz=>A2 ⟨z.2.1,z.2.2.1⟩) (B:=λ(_:Unit)=>False) ?_ (λz hz=>eo hz) eq;have hk2:=hk.2;refine d4 (λz=>(0<=z.1/\z.1+(z.2.2.2.length:Int)<=n)/\A2 ⟨z.2.1,z.2.2.1⟩) (λz=>z.1.toNat) _ _ ⟨by simp;omega,hk.1⟩ (by dsimp only;omega) ?_;rintro⟨k,L,a,l⟩ ⟨⟨h1,h2⟩,h3⟩;dsimp only at h1 h2 h3;unfold Atn Ay8;refine c6 (λhc=>?_) (λ_=>d8 h3);simp only[dM]at hc;refine ef (P:=λy=>A2 y.2) ((Df h3 4 (by omega) (by omega)).bind λu hu=>(pick hu.1 _ (by simp) (by simp)).bind λv hv=>(pick hv _ (by simp) (by simp)).bind λw hw=>(pick hw _ (by simp) (by simp)).bind λx hx=>eo hx) λy hy=>(d7 (by simp;omega)).bind λm hm=>c7 ?_;subst hm;dsimp only;rw[Az (n:=k-1)];exact⟨⟨by simp;omega,hy⟩,by omega⟩
theorem Aw6(hs:A2 s):Ok (F87 s) λy=>A2 y.2:=by unfold F87;exact(pick hs _ (by simp) (by simp)).bind λa ha=>(pick ha _ (by simp) (by simp)).bind λb hb=>(pick hb _ (by simp) (by simp)).bind λc hc=>(pick hc _ (by simp) (by simp)).bind λd hd=>(pick hd _ (by simp) (by simp)).bind λe he=>(pick he _ (by simp) (by simp)).bind λf hf=>(pick hf _ (by simp) (by simp)).bind λg hg=>(pick hg _ (by simp) (by simp)).bind λi hi=>(pick hi _ (by simp) (by simp)).bind λj hj=>eo hj
theorem Ar8(hs:A2 s):Ok (Apa s) λy=>A2 y.2:=by unfold Apa;exact(pick hs _ (by simp) (by simp)).bind λa ha=>(pick ha _ (by simp) (by simp)).bind λb hb=>(pick hb _ (by simp) (by simp)).bind λc hc=>(pick hc _ (by simp) (by simp)).bind λd hd=>eo hd
theorem A3f(hs:A2 s):Ok (F88 s) λy=>A2 y.2:=by unfold F88 F79;refine ef (P:=λy=>A2 y.2) ((Df hs 3 (by omega) (by omega)).bind λa ha=>(d5 ha.2.1 (by have:=ha.2.2;simp;omega)).bind λt _=>eo ha.1) λb hb=>?_;exact(Gv hb 1 3 (by omega) (by omega)).bind λc hc=>(Ar8 hc.1).bind λd hd=>(pick hd _ (by simp) (by simp)).bind λe he=>eo he
theorem Ayd(hs:A2 s):Ok (F90 s) λy=>A2 y.2:=by unfold F90;exact(pick hs _ (by simp) (by simp)).bind λa ha=>eo ha
theorem Aqv{k:Int}(h0:0<=k)(h1:k<=4):Ok (Alz [IntKind.wrap .u8 (w64 (97+k))]) λs=>s.size=1:=by
 have h:k=0\/k=1\/k=2\/k=3\/k=4:=by omega
 rcases h with rfl|rfl|rfl|rfl|rfl
 .exact⟨⟨#[97]⟩,by kernel_rfl,rfl⟩
 .exact⟨⟨#[98]⟩,by kernel_rfl,rfl⟩
 .exact⟨⟨#[99]⟩,by kernel_rfl,rfl⟩
 .exact⟨⟨#[100]⟩,by kernel_rfl,rfl⟩
 .exact⟨⟨#[101]⟩,by kernel_rfl,rfl⟩
theorem A0t(hs:A2 s):Ok (F89 s) λy=>A2 y.2:=by
 unfold F89;refine ee (A:=λz=>A2 ⟨z.2.1,z.2.2.1⟩) (B:=λ(_:Unit)=>False) ?_ (λz hz=>eo hz) eq;refine d4 (λz=>(0<=z.1/\z.1<=5/\(z.2.2.2.length:Int)<=z.1)/\A2 ⟨z.2.1,z.2.2.1⟩) (λz=>(5-z.1).toNat) _ _ ⟨by simp,hs⟩ (by simp) ?_;rintro⟨k,L,a,l⟩ ⟨⟨h1,h2,h3⟩,h4⟩;dsimp only at h1 h2 h3 h4;unfold Atm;refine(Df h4 5 (by omega) (by omega)).bind λu hu=>c6 (λhc=>?_) (λ_=>d8 hu.1);have hu2:=hu.2;simp only[Azt,aC,dM,dQ]at hc;refine c6 (λ_=>d8 hu.1) (λ_=>?_);have hk:k<=4:=by omega
 refine(Aqv h1 hk).bind λt ht=>?_;have hcat:nzI (Afm (⟨#[115]⟩:ByteArray) t)=some ():=by unfold Afm;rw[ht];rfl
 refine ef (P:=λ_=>True) (d6 hcat trivial) λ_ _=>(pick hu.1 _ (by simp) (by simp)).bind λv hv=>(Gv hv 1 3 (by omega) (by omega)).bind λw hw=>(Akk hw.1 (by omega) (by omega)).bind λx hx=>(d7 (by simp;omega)).bind λm hm=>c7 ?_;subst hm;dsimp only;rw[Az (n:=k+1)];exact⟨⟨by simp;omega,hx.1⟩,by omega⟩
structure X8(v:Ba):Prop where
 ship:R5 v.Ship
 Aq:Av v.Board
 table:Rz v.Table
 des:Qb v.Design
theorem Av.thr(h:Av b){l:List A8}(hl:l.length=b.Ae.length)(hc:∀(i:Nat) x y,b.Ae[i]?=some x->l[i]?=some y->y=⟨x.Load,x.Least,x.B1,y.Thruster,x.Needs⟩ /\ -1<=y.Thruster/\y.Thruster<=7):Av ⟨b.Ao,b.Ah,b.Ad,l,b.Phase,b.Ar⟩ where
 buses:=h.buses
 brl:=h.brl
 sol:=h.sol
 col:=by dsimp only;rw[hl];exact h.col
 phase:=h.phase
 freq:=h.freq
 br:=by dsimp only;rw[hl];exact h.br
 one:=h.one
 any:=by dsimp only;rw[hl];exact h.any
 nodup:=h.nodup
 so:=h.so
 co i y hy:=by dsimp only at hy;have hi:=(aa.1 hy).1;have hx:b.Ae[i]?=some (b.Ae[i]'(by omega)):=aj (by omega);obtain⟨e,h1⟩:=hc i _ y hx hy;obtain⟨c1,c2,c3,c4,c5⟩:=h.co i _ hx;rw[e];exact⟨c1,c2,c3,h1,c5⟩
variable{x:Bw}
theorem Apq(h:Av b)(hx:x.A1.length<=7)(hs:A2 s)(t1 t2:Af) :
  Ok (whileN (Agx (x,t1) (b,t2)) 1152921504606846976 (0,s.L,s.At,b.Ae)) (D1 (λz=>Av ⟨b.Ao,b.Ah,b.Ad,z.2.2.2,b.Phase,b.Ar⟩/\z.2.2.2.length=b.Ae.length/\A2 ⟨z.2.1,z.2.2.1⟩) λ(_:Unit)=>False):=by
 have hcl:=h.col;refine d4 (λz=>(0<=z.1/\z.1<=(b.Ae.length:Int))/\A2 ⟨z.2.1,z.2.2.1⟩/\z.2.2.2.length=b.Ae.length/\∀(i:Nat) x y,b.Ae[i]?=some x->z.2.2.2[i]?=some y->y=⟨x.Load,x.Least,x.B1,y.Thruster,x.Needs⟩ /\ -1<=y.Thruster/\y.Thruster<=7) (λz=>((b.Ae.length:Int)-z.1).toNat) _ _ ⟨by dsimp only;omega,hs,rfl,λi x y hx hy=>?_⟩ (by dsimp only;omega) ?_
 .dsimp only at hy;rw[hx]at hy;cases hy;exact⟨rfl,(h.co i x hx).2.2.2.1⟩
 rintro⟨k,L,a,l⟩ ⟨⟨h1,h2⟩,h3,h4,h5⟩;dsimp only at h1 h2 h3 h4 h5;unfold Agx;refine c6 (λhc=>?_) (λ_=>d8 ⟨h.thr h4 h5,h4,h3⟩);simp only[Az7,dM]at hc;dsimp only;rw[Az (n:=(x.A1.length:Int)-1),Az (n:=k+1)];refine(Gv h3 (-1) _ (by omega) (by omega)).bind λu hu=>(d5 (by omega) (by omega)).bind λc hc2=>(d9 (by omega)).bind λm hm=>c7 ?_;subst hm;refine⟨⟨by dsimp only;omega,hu.1,by simpa using h4,λi x y hx hy=>?_⟩,by dsimp only;omega⟩;grind
theorem Ab5(hs:A2 s):Ok (F43 s) λy=>X8 y.1/\A2 y.2:=by unfold F43;refine(A1k hs).bind λy1 h1=>(Ayh h1 (n:=2) (by omega)).bind λy3 h3=>(Azb h3.2).bind λy5 h5=>(Ayg h5.2).bind λy7 h7=>(A0y h7.2 (n:=3) (by omega)).bind λy9 h9=>(Aw6 h9).bind λy11 h11=>(pick h11 _ (by simp) (by simp)).bind λy13 h13=>(A3f h13).bind λy15 h15=>(A0t h15).bind λy17 h17=>?_;refine(Gv h17 (-50) 50 (by omega) (by omega)).bind λy19 h19=>(Gv h19.1 (-50) 50 (by omega) (by omega)).bind λy21 h21=>(Ayd h21.1).bind λy23 h23=>?_;have hth:=h3.1.2;refine(Apq h5.1.ok (x:=y3.1) (by omega) h23 y3.2 y5.2).andThen (λz hz=>?_) eq;refine(App (C:=[0,(y5.1.Ad.length:Int),(y5.1.Ah.length:Int),y5.1.Ao,(z.2.2.2.length:Int),(y3.1.A1.length:Int),(y9.1.length:Int),0,0,2]) (by simp) rfl hz.2.2).andThen (λw hw=>?_) eq;have hwl:=hw.1.2.1;refine(Abk hw.1.1 (by omega) hw.2).bind λy36 h36=>(jV hw.1.1 (by omega) h36.2).bind λy38 h38=>eo ⟨⟨h3.1.1,hz.1,h7.1,⟨hw.1.1,hw.1.ptOk,by dsimp only;omega,h36.1,h38.1⟩⟩,h38.2⟩
def Q4:List a_:=[(⟨1,0⟩:a_),(⟨1,1⟩:a_),(⟨5,0⟩:a_),(⟨5,1⟩:a_),(⟨6,0⟩:a_),(⟨9,0⟩:a_)]
theorem Sw:D6 Q4:=by
 have h:Q4.Pairwise λa b=>Dv a b=true:=by decide +kernel
 exact h
variable{l:List a_}
theorem Amu(hl:D6 l)(hn:l.length<=40)(hs:A2 s):Ok (F92 s l) λy=>zL l y.1/\A2 y.2:=Abk hl hn hs
theorem Ait(hl:D6 l)(hn:l.length<=30)(hs:A2 s):Ok (F93 s l) λy=>Zq l y.1/\A2 y.2:=jV hl hn hs
theorem Ayi(hs:A2 s):Ok (F45 s) λy=>X8 y.1/\A2 y.2:=by
 unfold F45;refine(Ab5 hs).bind λy1 h1=>(d7 (by simp)).bind λb1 e1=>(Df h1.2 3 (by omega) (by omega)).bind λy5 h5=>(d7 (by simp)).bind λs1 e2=>(d7 (by subst e1;simp)).bind λb2 e3=>(Df h5.1 3 (by omega) (by omega)).bind λy11 h11=>(d7 (by subst e2;simp)).bind λs2 e4=>?_;subst e1;subst e2;subst e3;subst e4;have g0:Qv 2 [(⟨1,0,1⟩:Al)] []:=Nv.gens (λx hx=>by rw[aU.1 hx];exact⟨rfl,by decide,by decide,by decide⟩) (by simp);have hy5:=h5.2;have hy11:=h11.2;have g1:=g0.add (x:=(⟨2,0,0⟩:Al)) (y:=(⟨100,0,y5.1⟩:B6)) ⟨rfl,rfl,by decide,by decide⟩ ⟨by dsimp only;omega,by dsimp only;omega,by dsimp only;omega⟩;have g2:=g1.add (x:=(⟨2,1,1⟩:Al)) (y:=(⟨100,0,y11.1⟩:B6)) ⟨rfl,rfl,by decide,by decide⟩ ⟨by dsimp only;omega,by dsimp only;omega,by dsimp only;omega⟩;have g3:=g2.cons;have hg2:=g2.len;refine ee (A:=λz=>A2 ⟨z.2.1,z.2.2.1⟩/\(∀t,t∈z.2.2.2.2.1->Ir t)/\z.2.2.2.2.1.length=4/\Ub 2 z.2.2.2.1 2 z.2.2.2.2.2/\z.2.2.2.2.2.length=4) (B:=λ(_:Unit)=>False) ?_ (λz hz=>?_) eq
 .refine d4 (λz=>(0<=z.1/\z.1<=4)/\A2 ⟨z.2.1,z.2.2.1⟩/\(∀t,t∈z.2.2.2.2.1->Ir t)/\(z.2.2.2.2.1.length:Int)=z.1/\Ub 2 z.2.2.2.1 2 z.2.2.2.2.2/\(z.2.2.2.2.2.length:Int)=z.1) (λz=>(4-z.1).toNat) _ _ ⟨by simp,h11.1,by simp,by simp,g3,by simp⟩ (by simp) ?_;rintro⟨k,L,a,br,th,co⟩ ⟨⟨q1,q2⟩,q3,q4,q5,q6,q7⟩;dsimp only at q1 q2 q3 q4 q5 q6 q7;have hbl:=q6.len;unfold At9;refine c6 (λhc=>?_) (λhc=>?_)
  .simp only[dM]at hc;refine(d7 (by simp;omega)).bind λbr2 e1=>(C8 q3 _ (by simp) (by simp)).bind λu hu=>(Df hu.1 3 (by omega) (by omega)).bind λv hv=>(d7 (by simp;omega)).bind λco2 e2=>(C8 hv.1 _ (by simp) (by simp)).bind λw hw=>(C8 hw.1 _ (by simp) (by simp)).bind λx hx=>(d7 (by simp;omega)).bind λth2 e3=>c7 ?_;subst e1;subst e2;subst e3;rw[Az (n:=k+1)];have hu2:u.1=0\/u.1=5\/u.1=20:=by simpa using hu.2
   have hw2:w.1=50\/w.1=5:=by simpa using hw.2
   have hx2:x.1=1\/x.1=2:=by simpa using hx.2
   have hv2:=hv.2;have hm:=vW (x:=k) (n:=2) (by omega) q1;have hd:0<=Int.tdiv k 2/\Int.tdiv k 2<=1:=by have:Int.tdiv k 2=k / 2:=cQ q1;omega
   refine⟨⟨by dsimp only;omega,hx.1,λt ht=>?_,by simp;omega,q6.add (m:=[⟨3,Int.tmod k 2,k⟩]) (λz hz=>?_) (by simp) (by simp) (by simp) ⟨⟨by dsimp only;omega,by dsimp only;omega,by dsimp only;omega,by dsimp only;omega,by simp,by simp,by simp⟩,by dsimp only;omega⟩,by simp;omega⟩,by dsimp only;omega⟩
   .rcases am.1 ht with ht|ht
    .exact q4 t ht
    .rw[aU.1 ht];rw[Az (n:=Int.tdiv k 2)];exact⟨by dsimp only;omega,by dsimp only;omega,by dsimp only;omega,by dsimp only;omega,by dsimp only;omega,by simp,by simp⟩
   .rw[aU.1 hz];exact⟨rfl,by dsimp only;omega,hm⟩
  .simp only[dN]at hc;exact d8 ⟨q3,q4,by dsimp only;omega,q6,by dsimp only;omega⟩
 .obtain⟨z1,z2,z3,z4,z5⟩:=hz;refine(Amu Sw (by simp[Q4]) z1).bind λy30 h30=>(Ait Sw (by simp[Q4]) h30.2).bind λy32 h32=>eo ⟨⟨⟨by simp,by simp,by dsimp only;omega,z2⟩,?_,h1.1.table,⟨Sw,?_,by simp,h30.1,h32.1⟩⟩,h32.2⟩
  .have hbl:=z4.len;exact⟨by simp,by dsimp only;omega,by simp,by dsimp only;omega,by simp,by simp,by dsimp only;rw[z5];have:=z4.br;rw[z5]at this;exact this,z4.one,z4.any,z4.nodup,g2.so,λi x hx=>(z4.co i x hx).1⟩
  .intro p hp;have h:∀p,p∈Q4->G3 p:=by
    unfold G3 Q4;simp
   exact h p hp
theorem Alx(hs:A2 s):Ok (F11 s) λy=>X8 y.1/\((∀t,Mk y.1.Board t y.2.1)/\(5<=y.2.1.Time/\y.2.1.Time<=20)/\y.2.1.A6=[]/\y.2.1.Power.Ai.length<=4)/\A2 y.2.2:=by
 unfold F11;refine(Ab5 hs).bind λv hv=>(Df hv.2 2 (by omega) (by omega)).bind λu hu=>c6 (λ_=>?_) (λ_=>?_)
 .refine(Ayi hu.1).bind λw hw=>(Agf hw.1.Aq hw.2).bind λp hp=>eo ⟨hw.1,hp.1,hp.2⟩
 .refine(Agf hv.1.Aq hu.1).bind λp hp=>eo ⟨hv.1,hp.1,hp.2⟩
set_option linter.unusedVariables false
theorem Afc(h:Av b)(hp:Ap b p)(T:Int)(a:As):(doE b p T a).length<=10001:=by
 unfold doE;split
 .rename_i he;have:=(Ju h (qL h hp he).1).2.2;simp;omega
 .simp
theorem A7u(h:Av b){p:Am}(hp:Ap b p.Power)(h1:p.A0.length<=1000)(h2:p.A6.length<=9000000)(a:As) :
  F54 b p a=some (⟨p.Time,doP b p.Power p.Time a,p.A0,p.A6++doE b p.Power p.Time a⟩,doS b p.Power p.Time a,0):=by
 have hl:=Afc h hp p.Time a;refine da ?_;unfold F54;rw[Fs h hp];simp only[ab];refine c6 (λhc=>by simp at hc) (λ_=>?_);refine ef (P:=λv=>v=⟨p,b,[],[]⟩) (d6 (Ax8 h hp h1 (by omega)) rfl) λv hv=>?_;subst hv;have hd:=A8c h (T:=p.Time) (P:=p.Power) (ros:=p.A0) (evs:=p.A6) (ev:=[]) (sts:=[]) hp (by simp) (by simp) a;refine ef (P:=λv=>v=_) (d6 hd rfl) λv hv=>?_;subst hv;refine(d7 (l:=p.A6) (m:=[]++doE b p.Power p.Time a) (by simp;omega)).bind λu hu=>eo ?_;rw[hu];rfl
variable{p:a_}
theorem U5(h:G3 p):ptB p=true:=by
 unfold G3 at h;have e:∀n:Int,0<=n->n<=63->(Lit.int .i64 n).wf=true:=λn h1 h2=>by
  have m1:IntKind.i64.min = -9223372036854775808:=by decide +kernel
  have m2:IntKind.i64.max=9223372036854775807:=by decide +kernel
  simp only[Lit.wf,m1,m2,ac,dM];omega
 unfold ptB;grind
theorem Aiv{b:List a_}(h:p∈Er L b):p∈b\/∃x,x∈L/\x.To=p:=by
 have h2:=(Te L b p).1 h;clear h;induction h2 with
 | «at» h=>exact .inl h
 | «by» _ x hx _ e2 _=>exact .inr ⟨x,hx,e2⟩
theorem qE(L:List A_)(b:List a_):(Er L b).length<=b.length+L.length:=by
 have h:=Mv (Ob L b) (m:=b++L.map (·.To)) λp hp=>by
  rcases Aiv hp with h|⟨x,hx,e⟩
  .exact bp _ h
  grind
 simpa using h
theorem Aio(h:Av b)(hp:C1 b p):G3 p:=by have h1:=h.buses;have h2:=h.brl;have h3:=h.sol;have h4:=h.col;unfold C1 at hp;unfold G3;omega
theorem Afh(h:Av b){p:Am}(hp:Ap b p.Power)(h1:p.A0.length<=1000)(h2:p.A6.length<=10000000):F56 p=some p:=by have g1:=hp.ncl;have g2:=hp.nso;have g3:=hp.nli;have g4:=hp.brk.len;have k1:=h.brl;have k2:=h.sol;have k3:=h.col;unfold F56 Aax Aaw Aav Aau Qy Ua;rw[H3,H3,H3,H3,H3,H3];rfl
set_option linter.unusedVariables false
theorem U3(hs:Gy l)(hsm:∀x,x∈l->C5 x){x:a_}(hx:C5 x)(hl:l.length<=1000)(hat:At l x n)(hnot:l[n]? ≠ some x):Ao1 l x=some (Fo l n x):=by
 have hn:=hat.le;have hb:∀y,y∈l->T_ y x=decide (ks y<ks x):=λy hy=>by have h1:=hsm y hy;unfold C5 at h1 hx;rw[bL];unfold T_ ks;grind
 refine da ?_;unfold Ao1;refine ee (A:=λz=>z=(n:Int)) (B:=λ(_:Unit)=>False) ?_ (λz hz=>?_) eq
 .refine d4 (λz=>∃j:Nat,z=(j:Int)/\j<=n) (λz=>((n:Int)-z).toNat) _ _ ⟨0,rfl,by omega⟩ (by omega) ?_;rintro _ ⟨j,rfl,hj⟩;unfold Ald;by_cases hjl:j<l.length
  .have hy:l[j]?=some (l[j]'hjl):=aj hjl;generalize l[j]'hjl=y at hy;refine ef (P:=λu=>u=y) (c9 (λ_=>d6 (Bl hy) rfl) λhg=>absurd ⟨by simp;omega,trivial⟩ hg) λu hu=>?_;subst hu;have hbu:=hb u (ae hy);refine c6 (λhc=>c7 ⟨⟨j+1,by rw[Az];rfl,?_⟩,?_⟩) λhc=>d8 ?_
   .simp only[V9,hbu,ac,dM]at hc;by_cases e:j=n
    .subst e;have:=hat.hi j u (af _) hy;omega
    .omega
   .rw[Az];simp only[V9,hbu,ac,dM]at hc;by_cases e:j=n
    .subst e;have:=hat.hi j u (af _) hy;omega
    .omega
   .simp only[V9,hbu,bU,dN]at hc;by_cases e:j<n
    .have:=hat.lo j u e hy;omega
    .omega
  .refine ef (P:=λ_=>True) (c9 (λhg=>by have:=dX hg.1;omega) λ_=>trivial) λu _=>c6 (λhc=>?_) λ_=>d8 (by omega);simp only[V9,ac,dM]at hc;omega
 .subst hz;refine(Ok.cutI (by omega) (by omega) (by omega)).bind λa ha=>(d7 (by rw[ha];simp;omega)).bind λc hc=>(d7 (by rw[hc,ha];simp;omega)).bind λd hd=>(Ok.cutI (by omega) (by omega) (by omega)).bind λe he=>(d7 (by rw[hd,hc,ha,he];simp;omega)).bind λf hf=>eo ?_;rw[hf,he,hd,hc,ha];unfold Fo;simp
variable{p:Ab}
theorem An2(h:Av b)(hp:Ap b p)(t u v:Int):Aat b p t ⟨8,u,v⟩=W8 b p t ⟨8,u,v⟩:=by
 have hbl:=hp.brk.len;unfold Aat W8;rw[Hb h hp,Rk h hp,Fs h hp,A3m,H1 h hp];simp only[ab];have e0:As5 t ⟨8,u,v⟩=qZ t ⟨8,u,v⟩:=rfl;rw[e0];cases qZ t ⟨8,u,v⟩ with
 |true=>rfl
 | false=>
  have e8:V_ b ⟨8,u,v⟩ = !H4 b v u:=by unfold V_;congr 1;rw[bL,Tf h,Kl]
  cases hk:H4 b v u with
  |false=>rw[hk]at e8;show (bif V_ b ⟨8,u,v⟩ then _ else _)=_;rw[e8];rfl
  | true=>
   rw[hk]at e8;have hx:=(Kl b v u).1 hk;obtain⟨n,hat⟩:=A0d h hp.brk hx;have hdo:W0 ⟨b,p,t⟩ ⟨8,u,v⟩=(Hg ⟨b,p,t⟩ ⟨v,u⟩ true).bind λy=>some (y.1,y.2):=rfl;have hmem:brk p.Ai v u=true↔p.Ai[n]?=some ⟨v,u⟩:=by
    unfold brk;rw[cr];constructor
    .rintro⟨y,hy,e⟩;simp only[ac,dQ]at e;obtain⟨j,hj⟩:=bB hy;have ey:y=⟨v,u⟩:=by
      cases y;simp only at e;rw[e.1,e.2]
     rw[ey]at hj;by_cases h1:j<n
     .have:=hat.lo j _ h1 hj;omega
     .have hjl:=(aa.1 hj).1;have hz:p.Ai[n]?=some (p.Ai[n]'(by omega)):=aj _;generalize p.Ai[n]'(by omega)=z at hz;by_cases h2:j=n
      .rw[←h2];exact hj
      .have h3:=Gg h hp.brk n j z ⟨v,u⟩ (by omega) hz hj;have h4:=hat.hi n z (af _) hz;omega
    .intro e;exact⟨_,ae e,by simp⟩
   show (bif V_ b ⟨8,u,v⟩ then _ else _)=_;rw[e8,Qp,hdo];simp only[aH,eB,ab];by_cases hin:p.Ai[n]?=some ⟨v,u⟩
   .have hf:Ok (Hg ⟨b,p,t⟩ ⟨v,u⟩ true) λy=>y.1=11:=by
     unfold Hg;refine(Ks (Gg h hp.brk) (λy hy=>(hp.brk.mem y hy).small h) (hx.small h)).bind λy hy=>?_;obtain⟨m,e1,hat2,hf⟩:=hy;have e2:=hat.uniq hat2;subst e2;rw[hf.2 hin];exact c6 (λ_=>eo rfl) (λhc=>by simp at hc)
    obtain⟨y,ey,hy⟩:=hf;rw[ey,hmem.2 hin];simp only[ab,hy];rfl
   .have hnb:brk p.Ai v u=false:=by
     cases e:brk p.Ai v u
     .rfl
     .exact absurd (hmem.1 e) hin
    rw[hnb];by_cases hl:p.Ai.length<32
    .rw[Aj3 h hp hx t hat hin hl];have hput:=U3 (Gg h hp.brk) (λy hy=>(hp.brk.mem y hy).small h) (hx.small h) (by omega) hat hin;have hm:Si p ⟨8,u,v⟩ p=some (.next (Fo p.Ai n ⟨v,u⟩,3)):=by
      unfold Si;rw[hput,dV (by omega)];rfl
     rw[hm];simp only[ab,andThen];unfold Ln;dsimp only;by_cases hv:v=1
     .have hnu:0<=u/\u<p.Ad.length:=by
       have:=hp.nso;unfold C1 at hx;dsimp only at hx;omega
      have hg:getI p.Ad u=some (p.Ad.getD u.toNat default):=by
       have:=Bl (atD (l:=p.Ad) (k:=u.toNat) default (by omega))
       rwa [bh hnu.1]at this
      obtain⟨w,ew,hw⟩:=d9 (l:=p.Ad) (n:=u) (x:=(⟨3,(p.Ad.getD u.toNat default).Since,(p.Ad.getD u.toNat default).Ar,(p.Ad.getD u.toNat default).Phase⟩:Ak)) hnu.1;rw[hg,ab,ew,hw,eC hv,hv];rfl
     .rw[eF hv,dR.2 hv];rfl
    .have hf:Ok (Hg ⟨b,p,t⟩ ⟨v,u⟩ true) λy=>y.1=2:=by
      unfold Hg;refine(Ks (Gg h hp.brk) (λy hy=>(hp.brk.mem y hy).small h) (hx.small h)).bind λy hy=>?_;obtain⟨m,e1,hat2,hf⟩:=hy;have e2:=hat.uniq hat2;subst e2;have:y.2=false:=by
       cases e:y.2
       .rfl
       .exact absurd (hf.1 e) hin
      rw[this];refine c6 (λhc=>by simp at hc) λ_=>c6 (λ_=>eo rfl) λhc=>?_;simp[Pk]at hc;omega
     obtain⟨y,ey,hy⟩:=hf;have hm:Si p ⟨8,u,v⟩ p=some (.ret (⟨[],[],[],[]⟩,2)):=by unfold Si;rw[dU (by omega)];rfl
     rw[ey,hm];simp only[ab,hy];rfl
set_option linter.unusedVariables false
theorem Atc(l m:eT)(h:l.length<=1000):Ok (Aar l m) λ_=>True:=by unfold Aar;refine c6 (λ_=>eo trivial) λhc=>ee (A:=λ_=>True) (B:=λ_=>True) ?_ (λ_ _=>eo trivial) (λ_ _=>eo trivial);simp only[dW]at hc;refine c8 (I:=λ_ _=>True) trivial (λj x z hx _=>?_) λ_ _=>trivial;have hj:=(aa.1 hx).1;unfold Aaq;rw[Cv (by omega)];exact(d5 (by omega) (by omega)).bind λy _=>c6 (λ_=>Ok.ret trivial) λ_=>c7 trivial
theorem Awz(l m:eQ)(h:l.length<=1000):Ok (F16 l m) λ_=>True:=by unfold F16;refine c6 (λ_=>eo trivial) λhc=>ee (A:=λ_=>True) (B:=λ_=>True) ?_ (λ_ _=>eo trivial) (λ_ _=>eo trivial);simp only[dW]at hc;refine c8 (I:=λ_ _=>True) trivial (λj x z hx _=>?_) λ_ _=>trivial;have hj:=(aa.1 hx).1;unfold Ahz;rw[Cv (by omega)];exact(d5 (by omega) (by omega)).bind λy _=>c6 (λ_=>Ok.ret trivial) λ_=>c7 trivial
theorem Al5(h:zM p)(q:Ab):Ok (F63 p q) λ_=>True:=by
 have h1:=h.c;have h2:=h.s;have h3:=h.l;have h4:=h.k;unfold F63;refine(Atc _ _ (by omega)).bind λy1 _=>ef (P:=λ_=>True) (c9 (λ_=>Awz _ _ (by omega)) λ_=>trivial) λy3 _=>c6 (λ_=>eo trivial) λhc=>?_;simp only[Anq,aZ,dW]at hc;refine ee (A:=λ_=>True) (B:=λ_=>True) ?_ (λ_ _=>ee (A:=λ_=>True) (B:=λ_=>True) ?_ (λ_ _=>eo trivial) (λ_ _=>eo trivial)) (λ_ _=>eo trivial)
 .refine d4 (λs=>0<=s/\s<=(p.Ad.length:Int)) (λs=>((p.Ad.length:Int)-s).toNat) _ _ (by omega) (by omega) ?_;rintro i ⟨h5,h6⟩;unfold Ags Anp;refine c6 (λhq=>?_) (λ_=>d8 trivial);simp only[dM]at hq;refine(d5 h5 hq).bind λu _=>(d5 h5 (by omega)).bind λv _=>c6 (λ_=>Ok.ret trivial) λ_=>c7 ?_;rw[Az];omega
 .refine d4 (λs=>0<=s/\s<=(p.Ai.length:Int)) (λs=>((p.Ai.length:Int)-s).toNat) _ _ (by omega) (by omega) ?_;rintro i ⟨h5,h6⟩;unfold Agr Ano;refine c6 (λhq=>?_) (λ_=>d8 trivial);simp only[dM]at hq;refine(d5 h5 hq).bind λu _=>(d5 h5 (by omega)).bind λv _=>c6 (λ_=>Ok.ret trivial) λ_=>c7 ?_;rw[Az];omega
theorem Aqk{p:Am}(h:p.A6.length<=10000000)(a:As)(e:Int):Apc p a e=some ⟨p.Time,p.Power,p.A0,p.A6++[⟨p.Time,a,e⟩]⟩:=by unfold Apc;rw[H3,ab];obtain⟨y,ey,hy⟩:=d7 (B:=41) (l:=p.A6) (m:=[(⟨p.Time,a,e⟩:Bi)]) (by simp;omega);rw[ey,hy];rfl
theorem Arx(h:Av b){p:Am}(hp:Ap b p.Power)(he:p.A6.length<=5000000)(u v:Int) :
  Ok (F60 b p ⟨8,u,v⟩) λy=>y.1=⟨p.Time,doP b p.Power p.Time ⟨8,u,v⟩,p.A0,p.A6++doE b p.Power p.Time ⟨8,u,v⟩⟩/\y.2.2=0:=by
 have hact:=(zI h hp p.Time ⟨8,u,v⟩).1;have herr:Np b p.Power p.Time ⟨8,u,v⟩=(Cc b p.Power p.Time ⟨8,u,v⟩).2:=by unfold Np;rw[eF (by show ¬(8:Int)=7;omega)]
 unfold F60;rw[Hb h hp,ab];refine c6 (λhc=>by simp at hc) λ_=>?_;have hm0:Agt b p ⟨8,u,v⟩=some (.next ((Cc b p.Power p.Time ⟨8,u,v⟩).2,(Cc b p.Power p.Time ⟨8,u,v⟩).1.Ag,(Cc b p.Power p.Time ⟨8,u,v⟩).1.Ad,(Cc b p.Power p.Time ⟨8,u,v⟩).1.Aj,(Cc b p.Power p.Time ⟨8,u,v⟩).1.Ai)):=by unfold Agt;rw[An2 h hp,hact];rfl
 rw[hm0];simp only[andThen];rw[Aqk (by omega),ab];refine c6 (λhc=>eo ⟨?_,rfl⟩) λhc=>?_
 .simp only[bne_iff_ne,ne_eq]at hc;unfold doP doE;rw[herr,eF hc,eF hc]
 .simp only[dW]at hc;obtain⟨ho,_,_⟩:=qL h hp (t:=p.Time) (a:=⟨8,u,v⟩) (by rw[herr];exact hc);have ho2:Ap b (Cc b p.Power p.Time ⟨8,u,v⟩).1:=ho;have hdP:doP b p.Power p.Time ⟨8,u,v⟩=Qg b (Cc b p.Power p.Time ⟨8,u,v⟩).1:=by
   unfold doP;rw[herr,eC hc];rfl
  have hdE:doE b p.Power p.Time ⟨8,u,v⟩=⟨p.Time,⟨8,u,v⟩,0⟩::(Dg b (Cc b p.Power p.Time ⟨8,u,v⟩).1).map (λx=>⟨p.Time,x,0⟩):=by unfold doE;rw[herr,eC hc,hc];rfl
  rw[hdP,hdE,hc];generalize (Cc b p.Power p.Time ⟨8,u,v⟩).1=q at ho2;have hpl:=(Ju h ho2).2.2;have hpo:=(Ju h ho2).2.1;obtain⟨_,htr⟩:=Aqg h ho2;rw[Adz h ho2,ab];dsimp only;refine ee (A:=λz=>(z.1=p.Time/\z.2.2.2.2.2.1=p.A0/\z.2.2.2.2.2.2.1=p.A6++[⟨p.Time,⟨8,u,v⟩,0⟩]++(Dg b q).map (λx=>⟨p.Time,x,0⟩))/\z.2.2.2.2.2.2.2.1.length<=10001) (B:=λ(_:Unit)=>False) ?_ (λz hz=>?_) eq
  .refine c8 (I:=λj z=>∃st,z=(p.Time,p.Power.Ag,p.Power.Ad,p.Power.Aj,p.Power.Ai,p.A0,p.A6++[⟨p.Time,⟨8,u,v⟩,0⟩]++((Dg b q).take j).map (λx=>⟨p.Time,x,0⟩),st,(((Dg b q).take j).foldl ap q).Ag,(((Dg b q).take j).foldl ap q).Ad,(((Dg b q).take j).foldl ap q).Aj,(((Dg b q).take j).foldl ap q).Ai)/\st.length<=j+1) ⟨[q],by simp,by simp⟩ (λj a z ha hz=>?_) λz hz=>?_
   .obtain⟨st,rfl,hst⟩:=hz;have hj:=(aa.1 ha).1;have hain:=htr a (ae ha);have hok:Ap b (((Dg b q).take j).foldl ap q):=Xo _ ho2 λx hx=>htr x (bg hx);have hfo:((Dg b q).take (j+1)).foldl ap q=ap (((Dg b q).take j).foldl ap q) a:=by
     rw[Bc ha,aI];rfl
    have hmp:((Dg b q).take (j+1)).map (λx=>(⟨p.Time,x,0⟩:Bi))=((Dg b q).take j).map (λx=>⟨p.Time,x,0⟩)++[⟨p.Time,a,0⟩]:=by rw[Bc ha,bE];rfl
    have htl:((Dg b q).take j).length<=j:=by rw[aV];omega
    rw[hfo,hmp];generalize ((Dg b q).take j).foldl ap q=w at hok;unfold At1;dsimp only;rw[Rk h (p:=⟨w.Ag,w.Ad,w.Aj,w.Ai⟩) hok,ab];refine ee (A:=λz2=>z2=((ap w a).Ag,(ap w a).Aj)) (B:=λ(_:Unit)=>False) ?_ (λz2 hz2=>?_) eq
    .unfold At0;have h1:=hok.ncl;have h2:=hok.nli;dsimp only;rcases hain with⟨k1,k2,k3⟩|⟨k1,⟨k2,k3⟩,_⟩
     .rw[dQ.2 k1];refine(d5 k2 (by omega)).bind λ_ _=>(d9 k2).bind λc hc=>dh ?_;rw[hc];unfold ap;rw[eC k1];rfl
     .rw[dR.2 (by omega:a.Kind≠2)];refine(d5 k2 (by omega)).bind λ_ _=>(d9 k2).bind λc hc=>dh ?_;rw[hc];unfold ap;rw[eF (by omega)];rfl
    .subst hz2;have hS:(ap w a).Ad=w.Ad/\(ap w a).Ai=w.Ai:=by unfold ap;split <;> exact⟨rfl,rfl⟩
     refine(d7 (by simp;omega)).bind λs2 hs2=>?_;have hnote:=Aqk (p:=⟨p.Time,⟨p.Power.Ag,p.Power.Ad,p.Power.Aj,p.Power.Ai⟩,p.A0,p.A6++[⟨p.Time,⟨8,u,v⟩,0⟩]++((Dg b q).take j).map (λx=>⟨p.Time,x,0⟩)⟩) (by dsimp only;rw[aE,aE,ao,List.length_singleton];omega) a 0;have hnote2:Xk ⟨p.Time,⟨p.Power.Ag,p.Power.Ad,p.Power.Aj,p.Power.Ai⟩,p.A0,p.A6++[⟨p.Time,⟨8,u,v⟩,0⟩]++((Dg b q).take j).map (λx=>⟨p.Time,x,0⟩)⟩ a 0=_:=hnote;rw[hnote2,ab];refine c7 ⟨s2,?_,by rw[hs2];simp;omega⟩;dsimp only;rw[hS.1,hS.2,bo (p.A6++_)]
   .obtain⟨st,rfl,hst⟩:=hz;rw[ay]at *;exact⟨⟨rfl,rfl,rfl⟩,by dsimp only;omega⟩
  .obtain⟨⟨z1,z2,z3⟩,z4⟩:=hz;refine(Al5 (hpo.lens h) _).bind λy _=>c6 (λ_=>(d7 (by simp;omega)).bind λw hw=>eo ⟨?_,rfl⟩) λ_=>eo ⟨?_,rfl⟩
   .rw[z1,z2,z3,bo];rfl
   .rw[z1,z2,z3,bo];rfl
set_option linter.unusedVariables false
def Y2(t:Aw)(f:Int):Int:=(f*f*t.Cost+999) / 1000
theorem Awn{x:Aw}(h:Ir x)(h0:0<=w):Ok (Aay x w) λy=>(0<=y/\y<=x.Max)/\Y2 x y<=w/\∀f,y<f->f<=x.Max->w<Y2 x f:=by
 have hm:=h.max;have hc:=h.cost;have hci:=X2 h hm.1 (by omega);unfold Aay;rw[Awc h hm.1 (by omega)];simp only[ab];refine c6 (λhq=>?_) (λhq=>?_)
 .simp at hq;omega
 refine c6 (λha=>?_) (λha=>?_)
 .simp only[dM]at ha;exact eo ⟨⟨hm.1,by omega⟩,ha,λf h1 h2=>by omega⟩
 .simp only[dN]at ha;refine(Ok.nzI (by omega)).bind λ_ _=>?_;have hlt:1000*w<x.Max*x.Max*x.Cost:=by omega
  have hd0:0<=1000*w / x.Cost:=Int.ediv_nonneg (by omega) (by omega);have hd1:1000*w / x.Cost<=1000*w:=Int.ediv_le_self _ (by omega);rw[Az (n:=1000*w),cQ (by omega),Az (n:=1000*w / x.Cost)];refine(A0v hd0 (by omega)).bind λf hf=>eo ?_;obtain⟨_,f0,f1,f2⟩:=hf;have hmul:1000*w / x.Cost*x.Cost<=1000*w:=Int.ediv_mul_le _ (by omega);have hff:f.1*f.1*x.Cost<=1000*w / x.Cost*x.Cost:=Int.mul_le_mul_of_nonneg_right f1 (by omega);refine⟨⟨f0,?_⟩,by unfold Y2;omega,λg hg1 hg2=>?_⟩
  .rcases Int.lt_or_le x.Max f.1 with hgt|hle
   .exfalso;have:=Z5 hm.1 (Int.le_of_lt hgt);have:=Int.mul_le_mul_of_nonneg_right this (show 0<=x.Cost by omega);omega
   .exact hle
  .have e1:1000*w / x.Cost+1<=(f.1+1)*(f.1+1):=by omega
   have e2:=Z5 (show 0<=f.1+1 by omega) (show f.1+1<=g by omega);have e3:(1000*w / x.Cost+1)*x.Cost<=g*g*x.Cost:=Int.mul_le_mul_of_nonneg_right (by omega) (by omega);have e4:=Int.lt_mul_ediv_self_add (x:=1000*w) (k:=x.Cost) (by omega);have e5:(1000*w / x.Cost+1)*x.Cost=x.Cost*(1000*w / x.Cost)+x.Cost:=by grind
   unfold Y2;omega
theorem Aqp{x:Aw}(h:Ir x){y:Int}(h1:0<=y/\y<=x.Max)(h2:Y2 x y<=w)(h3:∀f,y<f->f<=x.Max->w<Y2 x f):Ah6 x w=some y:=by
 have hm:=h.max;refine da ?_;unfold Ah6;rw[vR h,ab];refine c6 (λhc=>by cases hc) λ_=>ee (A:=λ_=>y=0) (B:=λr=>r=y) ?_ (λ_ h=>eo h.symm) (λr h=>eo h);refine d4 (λz=>0<=z/\z<=x.Max/\y<=z) (λz=>z.toNat) _ _ ⟨hm.1,by omega,h1.2⟩ (by omega) λz hz=>?_;unfold Alq;refine c6 (λhc=>?_) λhc=>d8 ?_
 .simp only[dM]at hc;have hp:Ahu x ⟨z,0⟩=some (Y2 x z,0):=Amf h hz.1 (by omega);rw[hp,ab];refine c6 (λhq=>Ok.ret ?_) λhq=>c7 ?_
  .grind
  .simp only[dN]at hq;rw[Az];grind
 .simp only[dN]at hc;omega
def jL(t:Aw)(w:Int):Int:=match Aay t w with
 |some v=>v
 |none=>0
theorem Ad6(h:Ir t)(h0:0<=w):Aay t w=some (jL t w)/\Ah6 t w=some (jL t w):=by
 obtain⟨y,ey,h1,h2,h3⟩:=Awn h h0;have e:jL t w=y:=by unfold jL;rw[ey]
 rw[e];exact⟨ey,Aqp h h1 h2 h3⟩
def Mw(b:Aa)(p:Ab)(i:Nat)(t:Aw):Int:=if 0<=own b i/\svB b p 1000 (own b i).toNat=true then jL t (p.Aj.getD (own b i).toNat 0) else 0
def Abs(b:Aa)(p:Ab)(x:Bw)(j:Nat)(s:eQ):Prop:=s.length=x.A1.length/\(∀(i:Nat) t,i<j->x.A1[i]?=some t->s[i]?=some (Mw b p i t))/\∀(i:Nat) v,j<=i->s[i]?=some v->v=0
variable{s:eQ}
theorem Abs.same(h:Abs b p x j s)(ht:x.A1[j]?=some t)(h0:Mw b p j t=0):Abs b p x (j+1) s:=by
 refine⟨h.1,λi t' hi ht'=>?_,λi v hi hv=>h.2.2 i v (by omega) hv⟩;by_cases e:i=j
 .subst e;rw[ht]at ht';cases ht';have hil:=(aa.1 ht).1;have hs:s[i]?=some (s[i]'(by have:=h.1;omega)):=aj _;rw[hs,h.2.2 i _ (af _) hs,h0]
 .exact h.2.1 i t' (by omega) ht'
theorem Abs.set(h:Abs b p x j s)(ht:x.A1[j]?=some t)(hv:v=Mw b p j t):Abs b p x (j+1) (s.set j v):=by
 have hil:=(aa.1 ht).1;have hl:=h.1;refine⟨by rw[bz];exact h.1,λi t' hi ht'=>?_,λi u hi hu=>?_⟩
 .rw[aS];by_cases e:j=i
  .grind
  .rw[eF e];exact h.2.1 i t' (by omega) ht'
 .rw[aS,eF (by omega)]at hu;exact h.2.2 i u (by omega) hu
theorem A6o(b:Aa)(p:Ab)(x:Bw):Abs b p x 0 (List.replicate x.A1.length 0):=
 ⟨by simp,λi t hi=>by omega,λi v _ hv=>(List.mem_replicate.1 (ae hv)).2⟩
theorem Ath(h:Av b)(hp:Ap b p)(hx:R5 x):Ok (F55 x b p) λy=>y.2=0/\Abs b p x x.A1.length y.1:=by
 have hlen:=hx.len;have hnl:=hp.nli;unfold F55;rw[Ap6 hx,Fs h hp];simp only[ab];refine c6 (λhc=>by simp at hc) (λ_=>c6 (λhc=>by simp at hc) (λ_=>?_));refine(Ok.mkI (by omega) (by omega)).bind λz hz=>?_;refine ee (A:=Abs b p x x.A1.length) (B:=λ_=>False) ?_ (λs hs=>eo ⟨rfl,hs⟩) eq;refine c8 (I:=Abs b p x) (by rw[hz,ax];exact A6o b p x) (λj t s ht hs=>?_) λs hs=>hs;have hj:=(aa.1 ht).1;have hthr:=hx.thr t (ae ht);have hsl:=hs.1;unfold At8;rw[Cv (by omega),Axa h];simp only[ab];by_cases hq:0<=own b j
 .obtain⟨c,hc,hlt⟩:=A1j hq;have hown:own b j=(c:Int):=hc;have hsv:=Al4 h hp hlt;rw[hc,hsv];have e1:Au [(decide ((c:Int)>=0),true)] (some (svB b p 1000 c)) default=some (svB b p 1000 c):=by
   rw[dU (by omega)];rfl
  rw[e1];simp only[ab];refine c6 (λhcc=>?_) (λhcc=>c7 (hs.same ht ?_))
  .simp only[ac]at hcc;have hlim:=L9 (p:=p) (i:=c);rw[Bl hlim];simp only[ab];rw[(Ad6 hthr (Aqu hp hlt)).1,ab];refine(d5 (by omega) (by omega)).bind λ_ _=>(d9 (by omega)).bind λs' hs'=>c7 ?_;subst hs';rw[ax];refine hs.set ht ?_;unfold Mw;rw[hown,ax,eC ⟨by omega,hcc.2⟩]
  .unfold Mw;rw[hown,ax,eF];rintro⟨_,h2⟩;rw[h2,dU (by omega)]at hcc;cases hcc
 .have e0:decide (own b j>=0)=false:=dV (by omega);have hz0:Mw b p j t=0:=by unfold Mw;rw[eF (by omega)]
  show Ok ((Au [(decide (own b j>=0),true)] _ _).bind λy11=>bif (decide (own b j>=0)&&y11)then _ else _) _;rw[e0];exact c7 (hs.same ht hz0)
theorem Ayf(h:Av b)(hp:Ap b p)(hx:R5 x)(hck:Ah7 x=some 0):Ok (F61 x b p) λy=>y.2=0/\Abs b p x x.A1.length y.1:=by
 have hlen:=hx.len;have hnl:=hp.nli;have hcl:=h.col;unfold F61;rw[hck,Hb h hp];simp only[ab];refine c6 (λhc=>by simp at hc) (λ_=>c6 (λhc=>by simp at hc) (λ_=>?_));refine(Ok.mkI (by omega) (by omega)).bind λz hz=>?_;refine ee (A:=Abs b p x x.A1.length) (B:=λ_=>False) ?_ (λs hs=>eo ⟨rfl,hs⟩) eq;refine c8 (I:=Abs b p x) (by rw[hz,ax];exact A6o b p x) (λj t s ht hs=>?_) λs hs=>hs;have hj:=(aa.1 ht).1;have hthr:=hx.thr t (ae ht);have hsl:=hs.1;unfold Atz;refine Ok.inner (A:=Abs b p x (j+1)) (B:=λ(_:Unit)=>False) ?_ (λz hz=>c7 hz) eq;refine c8 (I:=λk z=>z=s/\∀(m:Nat) y,m<k->b.Ae[m]?=some y->(y.Thruster==(j:Int))=false) ⟨rfl,λm y hm=>by omega⟩ (λk c z hc hz=>?_) λz hz=>?_
 .obtain⟨rfl,hno⟩:=hz;have hk:=(aa.1 hc).1;unfold Aty;rw[Cv (i:=j) (by omega),Cv (i:=k) (by omega)];refine c6 (λhq=>?_) λhq=>c7 ⟨rfl,λm y hm hy=>?_⟩
  .have hown:own b j=(k:Int):=Amy (q:=λx:A8=>x.Thruster==(j:Int)) hc hq λm y hm hy=>hno m y hm hy;rw[(Ap9 h hp hk).2,ab];refine c6 (λhsv=>?_) λhsv=>d8 (hs.same ht ?_)
   .rw[Bl (L9 (p:=p) (i:=k)),ab,(Ad6 hthr (Aqu hp hk)).2,ab];refine(d5 (by omega) (by omega)).bind λ_ _=>(d9 (by omega)).bind λs' hs'=>d8 ?_;subst hs';rw[ax];refine hs.set ht ?_;unfold Mw;rw[hown,ax,eC ⟨by omega,hsv⟩]
   .unfold Mw;rw[hown,ax,eF];rintro⟨_,h2⟩;rw[h2]at hsv;cases hsv
  grind
 .obtain⟨rfl,hno⟩:=hz;refine hs.same ht ?_;have:own b j = -1:=A1i λm y hy=>hno m y (aa.1 hy).1 hy;unfold Mw;rw[eF (by omega)]
theorem Abs.unique(h:Abs b p x x.A1.length s)(h':Abs b p x x.A1.length s'):s=s':=by
 refine bK λi=>?_;by_cases hi:i<x.A1.length
 .have ht:x.A1[i]?=some (x.A1[i]'hi):=aj hi;rw[h.2.1 i _ hi ht,h'.2.1 i _ hi ht]
 .rw[bP (by have:=h.1;omega),bP (by have:=h'.1;omega)]
theorem A1x{s:Bw}(h:R5 s):Ah7 s=some 0:=by
 have h1:=h.bow;have h2:=h.stern;have h3:=h.len;refine da ?_;unfold Ah7;refine c6 (λhc=>by grind) λ_=>c6 (λhc=>?_) λ_=>ee (A:=λ_=>True) (B:=λ_=>False) ?_ (λ_ _=>eo rfl) eq
 .simp only[As4,Az (n:=s.Bow+s.Stern),aC,dM,dQ]at hc;omega
 .refine c8 (I:=λ_ _=>True) trivial (λj t z ht _=>?_) λ_ _=>trivial;unfold Alr;rw[vR (h.thr t (ae ht)),ab];exact c6 (λhc=>by cases hc) λ_=>c7 trivial
set_option linter.unusedVariables false
variable{b:List a_}
theorem Arc{d:A5}(h:Qb d)(hb:∀p,p∈b->ptB p=true)(hn:b.length<=1000):F51 d b=some (Er d.Links b):=by
 have h2:=h.links.len;unfold F51 qF;rw[Yn h];have e:Ua b=some b:=H3;rw[e];have e2:okF d.Links b=true:=by simp only[okF,ac,dM,aG];exact⟨⟨λp hp=>hb p hp,λx hx=>U5 (h.ok _ (h.links.mem x hx).2.1)⟩,by omega⟩
 simp only[ab,e2];rfl
theorem A1b{c:List a_}(h:∀x,x∈b->x∈c){p:a_}(hp:Led L b p):Led L c p:=by
 induction hp with
 | «at» hx=>exact .at (h _ hx)
 | «by» _ x hx e1 e2 ih=>exact .by ih x hx e1 e2
theorem Arb(h:∀x,x∈a↔x∈b):Er L a=Er L b:=Iq (Ob _ _) (Ob _ _) λx=>by grind[Te,A1b]
def Ff(b:Aa)(B:List a_)(z:Am)(x:a_):Am:=
 if x.Kind>4\/Dw B x=true then z else ⟨z.Time,doP b z.Power z.Time ⟨8,x.Number,x.Kind⟩,z.A0,z.A6++doE b z.Power z.Time ⟨8,x.Number,x.Kind⟩⟩
structure StF(b:Aa)(p z:Am)(j:Nat):Prop where
 st:Ap b z.Power
 ros:z.A0=p.A0
 ev:z.A6.length<=10001*j
variable{b:Aa}{p:Am}
theorem StF.step(h:Av b){z:Am}(hz:StF b p z j)(B:List a_)(x:a_):StF b p (Ff b B z x) (j+1):=by
 unfold Ff;split
 .exact⟨hz.st,hz.ros,by have:=hz.ev;omega⟩
 .have h1:=Afc h hz.st z.Time ⟨8,x.Number,x.Kind⟩;have h2:=hz.ev;exact⟨Arw h hz.st _ _,hz.ros,by grind⟩
def K9(l:List a_):eQ:=(l.filter λx=>x.Kind==5).map (·.Number)
theorem Aa6(l:List a_)(x:a_):K9 (l++[x])=K9 l++if x.Kind=5 then [x.Number] else []:=by unfold K9;grind
theorem Avs(l:List a_):(K9 l).length<=l.length:=by unfold K9;grind
def J5(l:eQ)(i:Int):eQ:=if 0<=i/\i<l.length then l.set i.toNat 0 else l
theorem Avp(l:eQ)(i:Int):(J5 l i).length=l.length:=by unfold J5;split <;> simp
theorem Xm:∀(m l:eQ),(m.foldl J5 l).length=l.length
 | [],_=>rfl
 |i::m,l=>(Xm m (J5 l i)).trans (Avp l i)
variable{l m:eQ}
theorem Adk{f:Nat->Int->eQ->Option (Ctl eQ Unit)}(hf:∀n i z,z.length<=1000->Ok (f n i z) (I7 (λw=>w=J5 z i) (λ_=>False) λ(_:Unit)=>False))(hl:l.length<=1000) :
  Ok (foldI f m 0 l) (D1 (λz=>z=m.foldl J5 l) λ(_:Unit)=>False):=by
 refine c8 (I:=λj z=>z=(m.take j).foldl J5 l) rfl (λj x z hx hz=>?_) λz hz=>by rw[ay]at hz;exact hz
 obtain⟨c,ec,hc⟩:=hf j x z (by rw[hz,Xm];exact hl);refine⟨c,ec,?_⟩;cases c with
 |next w=>show w=_;rw[show w=J5 z x from hc,hz,Bc hx,aI];rfl
 |brk w=>exact hc.elim
 |ret v=>exact hc.elim
theorem Aig(hl:l.length<=1000):F57 l m=some (m.foldl J5 l):=by
 refine da ?_;unfold F57;refine ef (P:=λy=>y=l) (d6 (H3) rfl) λy hy=>?_;subst hy;refine ee (Adk (λn i z hz=>?_) hl) (λz hz=>eo hz) eq;unfold At7 J5;refine c6 (λhc=>?_) λhc=>c7 ?_
 .simp only[Ant,ac,dM]at hc;refine(d5 hc.1 hc.2).bind λ_ _=>(d9 hc.1 hc.2).bind λw hw=>c7 ?_;rw[eC ⟨hc.1,hc.2⟩];exact hw
 .simp only[Ant,bU,dN]at hc;rw[eF (by omega)]
theorem Aif(hl:l.length<=1000):F62 l m=some (m.foldl J5 l):=by
 refine da ?_;unfold F62;rw[H3,ab];refine ee (Adk (λn i z hz=>?_) hl) (λz hz=>eo hz) eq;unfold Atx J5;refine c6 (λhc=>?_) λhc=>c7 ?_
 .simp only[Anr,ac,dM]at hc;refine(d5 hc.1 hc.2).bind λ_ _=>(d9 hc.1 hc.2).bind λw hw=>c7 ?_;rw[eC ⟨hc.1,hc.2⟩];exact hw
 .simp only[Anr,bU,dN]at hc;rw[eF (by omega)]
theorem A1w(h:Av b){y:B0}(hy:Rz y)(hp:Mk b y p):F58 b y p=some 0:=by
 have h1:=h.buses;have h2:=hp.time;have h3:=hp.nro;have ht:=Yf hy;refine da ?_;unfold F58;rw[Hb h hp.st,ab];refine c6 (λhc=>by simp at hc) λ_=>c6 (λhc=>?_) λ_=>c6 (λhc=>?_) λ_=>?_
 .have e:Jq y=true:=by
   have:=ht;unfold F98 at this;unfold Jq;grind
  simp only[Az5,e,aH,aQ,aC,dM]at hc;omega
 .simp only[bne_iff_ne,ne_eq]at hc;omega
 .refine ee (A:=λ_=>True) (B:=λ_=>False) ?_ (λ_ _=>?_) eq
  .refine c8 (I:=λ_ _=>True) trivial (λj r z hr _=>?_) λ_ _=>trivial;have:=hp.ros r (ae hr);unfold At6;refine c6 (λhc=>?_) λ_=>c7 trivial;simp only[Az4,aC,dM]at hc;unfold uG at this;omega
  .have hf:=Ql h hp.st;have e:(⟨p.Power.Ag,Gb b p.Power,p.Power.Aj,p.Power.Ai⟩:Ab)=p.Power:=by rw[hp.fol]
   rw[e]at hf;rw[hf];simp only[ab];rw[U1 (hp.st.lens h),ab];exact c6 (λhc=>by cases hc) λ_=>eo rfl
def An1(v:Ba)(p:Am)(all:List a_)(able:eQ):Am×eQ×Int:=(all.foldl (Ff v.Board p.Power.Ai) p,(K9 all).foldl J5 able,0)
variable{v:Ba}
theorem Apk(h:X8 v)(hp:Mk v.Board v.Table p)(he:p.A6=[])(hb:∀x,x∈broken->ptB x=true)(hf:∀x,x∈fails->ptB x=true)(hbn:broken.length<=20)(hfn:fails.length<=40) :
  Ok (F14 v p broken fails) λy=>∃able,y=An1 v p (Er v.Design.Links (broken++(p.Power.Ai++fails))) able/\Abs v.Board ((Er v.Design.Links (broken++(p.Power.Ai++fails))).foldl (Ff v.Board p.Power.Ai) p).Power v.Ship v.Ship.A1.length able/\StF v.Board p ((Er v.Design.Links (broken++(p.Power.Ai++fails))).foldl (Ff v.Board p.Power.Ai) p) 200:=by
 have hB:=h.Aq;have hS:=hp.st;have hbl:=hS.brk.len;have hlk:=h.des.links.len;have hro:=hp.nro;have hbu:=hB.buses;unfold F14;rw[Acy hB h.table hp,Yn h.des];simp only[ab];refine c6 (λhc=>by simp at hc) λ_=>c6 (λhc=>by simp at hc) λ_=>?_;have ec:F52 [broken,p.Power.Ai,fails]=some (broken++(p.Power.Ai++fails)):=by
  have e:[broken,p.Power.Ai,fails].flatten=broken++(p.Power.Ai++fails):=by simp
  unfold F52 K0;rw[e,dU (by simp;omega)];rfl
 rw[ec];have hall:∀x,x∈broken++(p.Power.Ai++fails)->ptB x=true:=λx hx=>by
  rcases am.1 hx with hx|hx
  .exact hb x hx
  .rcases am.1 hx with hx|hx
   .exact U5 (Aio hB (hS.brk.mem x hx))
   .exact hf x hx
 have hbase:(broken++(p.Power.Ai++fails)).length<=92:=by simp;omega
 generalize broken++(p.Power.Ai++fails)=base at hall hbase;simp only[ab];rw[Arc h.des hall (by omega)];simp only[ab];have hfl:=qE v.Design.Links base;generalize Er v.Design.Links base=all at hfl;have hal:all.length<=200:=by omega
 refine ee (A:=λz=>∃Z,z=(K9 all,Z.Time,Z.Power.Ag,Z.Power.Ad,Z.Power.Aj,Z.Power.Ai,Z.A0,Z.A6)/\Z=all.foldl (Ff v.Board p.Power.Ai) p/\StF v.Board p Z 200) (B:=λ_=>False) ?_ (λz hz=>?_) eq
 .refine c8 (I:=λj z=>∃Z,z=(K9 (all.take j),Z.Time,Z.Power.Ag,Z.Power.Ad,Z.Power.Aj,Z.Power.Ai,Z.A0,Z.A6)/\Z=(all.take j).foldl (Ff v.Board p.Power.Ai) p/\StF v.Board p Z j) ⟨p,rfl,rfl,hS,rfl,by rw[he];simp⟩ (λj x z hx hz=>?_) λz hz=>?_
  .obtain⟨Z,rfl,hZ,hst⟩:=hz;have hj:=(aa.1 hx).1;have htl:=Avs (all.take j);rw[aV]at htl;have hnx:(all.take (j+1)).foldl (Ff v.Board p.Power.Ai) p=Ff v.Board p.Power.Ai Z x:=by
    rw[Bc hx,aI,←hZ];rfl
   have hth:K9 (all.take (j+1))=K9 (all.take j)++if x.Kind=5 then [x.Number] else []:=by rw[Bc hx,Aa6]
   have hev:=hst.ev;unfold Ave;refine Ok.inner (A:=λw=>w=K9 (all.take (j+1))) (B:=λ(_:Unit)=>False) ?_ (λw hw=>?_) eq
   .unfold Avd;rw[hth];refine c6 (λhc=>(d7 (by simp;omega)).bind λm hm=>dh ?_) (λhc=>dh ?_)
    .rw[hm,eC (by simpa using hc)]
    .rw[eF (by simpa using hc),aK]
   .subst hw;refine ef (P:=λu=>¬x.Kind>4->u=Dw p.Power.Ai x) (c9 (λ_=>d6 (Xz _ _) λ_=>rfl) λhg hk=>absurd ⟨dV hk,trivial⟩ hg) λu hu=>c6 (λhc=>c7 ⟨Z,rfl,?_,⟨hst.st,hst.ros,by omega⟩⟩) (λhc=>?_)
    .rw[hnx];unfold Ff;rw[eC];by_cases hk:x.Kind>4
     .exact .inl hk
     .rw[dV hk,aQ,hu hk]at hc;exact .inr hc
    .simp only[aZ,dN]at hc;have hu2:=hu hc.1;rw[hc.2]at hu2;have hd:=A7u hB (p:=Z) hst.st (by rw[hst.ros];omega) (by omega) ⟨8,x.Number,x.Kind⟩;have hd2:F54 v.Board ⟨Z.Time,⟨Z.Power.Ag,Z.Power.Ad,Z.Power.Aj,Z.Power.Ai⟩,Z.A0,Z.A6⟩ ⟨8,x.Number,x.Kind⟩=_:=hd;dsimp only;rw[hd2,ab];have hs:=hst.step hB p.Power.Ai x;have hsx:Ff v.Board p.Power.Ai Z x=⟨Z.Time,doP v.Board Z.Power Z.Time ⟨8,x.Number,x.Kind⟩,Z.A0,Z.A6++doE v.Board Z.Power Z.Time ⟨8,x.Number,x.Kind⟩⟩:=by
      unfold Ff;rw[eF (by rintro (h1|h1);exact hc.1 h1;rw[←hu2]at h1;cases h1)]
     refine c6 (λhc=>by simp at hc) (λ_=>c7 ⟨Ff v.Board p.Power.Ai Z x,?_,hnx.symm,hs⟩);rw[hsx]
  .obtain⟨Z,e,hZ,hst⟩:=hz;rw[ay]at e hZ;exact⟨Z,e,hZ,hst.st,hst.ros,by have:=hst.ev;omega⟩
 .obtain⟨Z,rfl,hZ,hst⟩:=hz;have hev:=hst.ev;refine(Ath hB (p:=Z.Power) hst.st h.ship).bind λy hy=>?_;obtain⟨y1,y2⟩:=hy;have hsl:=h.ship.len;have hyl:=y2.1;refine c6 (λhc=>by simp[y1]at hc) (λ_=>?_);have hcp:=Afh hB (p:=Z) hst.st (by rw[hst.ros];omega) (by omega);have hcp2:F56 ⟨Z.Time,⟨Z.Power.Ag,Z.Power.Ad,Z.Power.Aj,Z.Power.Ai⟩,Z.A0,Z.A6⟩=some Z:=hcp;dsimp only;rw[hcp2,ab,Aig (by omega),ab];exact eo ⟨y.1,by unfold An1;rw[hZ],by rw[←hZ];exact y2,by rw[←hZ];exact hst⟩
theorem Avn(h:X8 v)(hp:Mk v.Board v.Table p)(he:p.A6=[])(hbn:broken.length<=20)(hfn:fails.length<=40) :
  Ok (Xc v p broken fails) λy=>∃able,y=An1 v p (Er v.Design.Links (broken++(p.Power.Ai++fails))) able/\Abs v.Board ((Er v.Design.Links (broken++(p.Power.Ai++fails))).foldl (Ff v.Board p.Power.Ai) p).Power v.Ship v.Ship.A1.length able:=by
 have hB:=h.Aq;have hS:=hp.st;have hbl:=hS.brk.len;have hlk:=h.des.links.len;have hro:=hp.nro;have hbu:=hB.buses;have hu1:=Sk broken p.Power.Ai;have hu2:=Sk (Iu broken p.Power.Ai) fails;unfold Xc;rw[A1w hB h.table hp,Uh h.des];simp only[ab];refine c6 (λhc=>by simp at hc) λ_=>c6 (λhc=>by simp at hc) λ_=>?_;rw[Sl (by omega),ab,Sl (by omega),ab,Am7 h.des (by omega),ab];have hset:Er v.Design.Links (Iu (Iu broken p.Power.Ai) fails)=Er v.Design.Links (broken++(p.Power.Ai++fails)):=Arb λx=>by rw[N1,N1,am,am,or_assoc]
 rw[hset];have hbase:(broken++(p.Power.Ai++fails)).length<=92:=by simp;omega
 generalize broken++(p.Power.Ai++fails)=base at hbase;have hfl:=qE v.Design.Links base;generalize Er v.Design.Links base=all at hfl;have hal:all.length<=200:=by omega
 refine ee (A:=λz=>∃Z,z=(Z.Time,Z.Power.Ag,Z.Power.Ad,Z.Power.Aj,Z.Power.Ai,Z.A0,Z.A6)/\Z=all.foldl (Ff v.Board p.Power.Ai) p/\StF v.Board p Z 200) (B:=λ_=>False) ?_ (λz hz=>?_) eq
 .refine c8 (I:=λj z=>∃Z,z=(Z.Time,Z.Power.Ag,Z.Power.Ad,Z.Power.Aj,Z.Power.Ai,Z.A0,Z.A6)/\Z=(all.take j).foldl (Ff v.Board p.Power.Ai) p/\StF v.Board p Z j) ⟨p,rfl,rfl,hS,rfl,by rw[he];simp⟩ (λj x z hx hz=>?_) λz hz=>?_
  .obtain⟨Z,rfl,hZ,hst⟩:=hz;have hj:=(aa.1 hx).1;have hnx:(all.take (j+1)).foldl (Ff v.Board p.Power.Ai) p=Ff v.Board p.Power.Ai Z x:=by
    rw[Bc hx,aI,←hZ];rfl
   have hev:=hst.ev;unfold Acr;refine ef (P:=λu=>¬x.Kind>4->u=Dw p.Power.Ai x) (c9 (λ_=>d6 (Me _ _) λ_=>rfl) λhg hk=>absurd ⟨dV hk,trivial⟩ hg) λu hu=>c6 (λhc=>c7 ⟨Z,rfl,?_,⟨hst.st,hst.ros,by omega⟩⟩) (λhc=>?_)
   .rw[hnx];unfold Ff;rw[eC];by_cases hk:x.Kind>4
    .exact .inl hk
    .rw[dV hk,aQ,hu hk]at hc;exact .inr hc
   .simp only[aZ,dN]at hc;have hu2:=hu hc.1;rw[hc.2]at hu2;have hd:=Arx hB (p:=Z) hst.st (by omega) x.Number x.Kind;have hs:=hst.step hB p.Power.Ai x;have hsx:Ff v.Board p.Power.Ai Z x=⟨Z.Time,doP v.Board Z.Power Z.Time ⟨8,x.Number,x.Kind⟩,Z.A0,Z.A6++doE v.Board Z.Power Z.Time ⟨8,x.Number,x.Kind⟩⟩:=by
     unfold Ff;rw[eF (by rintro (h1|h1);exact hc.1 h1;rw[←hu2]at h1;cases h1)]
    refine ef (P:=λy=>y.1=Ff v.Board p.Power.Ai Z x/\y.2.2=0) (by rw[hsx];exact hd) λy hy=>c6 (λhc=>by simp[hy.2]at hc) λ_=>c7 ⟨Ff v.Board p.Power.Ai Z x,?_,hnx.symm,hs⟩;rw[hy.1]
  .obtain⟨Z,e,hZ,hst⟩:=hz;rw[ay]at hZ;exact⟨Z,e,hZ,hst.st,hst.ros,by have:=hst.ev;omega⟩
 .obtain⟨Z,rfl,hZ,hst⟩:=hz;refine(Ayf hB (p:=Z.Power) hst.st h.ship (A1x h.ship)).bind λy hy=>?_;obtain⟨y1,y2⟩:=hy;have hsl:=h.ship.len;have hyl:=y2.1;refine c6 (λhc=>by simp[y1]at hc) (λ_=>?_);refine ee (A:=λz=>z=(K9 all).foldl J5 y.1) (B:=λ(_:Unit)=>False) ?_ (λz hz=>eo ⟨y.1,by unfold An1;rw[hz,←hZ],by rw[←hZ];exact y2⟩) eq;refine c8 (I:=λj z=>z=(K9 (all.take j)).foldl J5 y.1) rfl (λj x z hx hz=>?_) λz hz=>by rw[ay]at hz;exact hz
  have hzl:z.length<=1000:=by rw[hz,Xm];omega
  unfold Acp;rw[Bc hx,Aa6,aI,←hz];refine c6 (λhc=>?_) λhc=>c7 ?_
  .rw[Aif hzl,ab];refine c7 ?_;rw[eC (by simpa using hc)]
  .rw[eF (by simpa using hc)];rfl
set_option linter.unusedVariables false
theorem Amh{s:Af}(hs:A2 s):Ok (F12 s) λy=>(∀x,x∈y.1->G3 x)/\y.1.length<=3/\A2 y.2:=by
 unfold F12;refine(Agg hs (n:=3) (by omega)).bind λy hy=>?_;have hl:=hy.2.1;refine ee (A:=λz=>D6 z/\(∀x,x∈z->G3 x)/\z.length<=3) (B:=λ(_:Unit)=>False) ?_ (λz hz=>eo ⟨hz.2.1,hz.2.2,hy.2.2⟩) eq;refine c8 (I:=λj z=>D6 z/\(∀x,x∈z->G3 x)/\z.length<=j) ⟨bF,by simp,by simp⟩ (λj x z hx hz=>?_) λz hz=>⟨hz.1,hz.2.1,by have:=hz.2.2;omega⟩;obtain⟨z1,z2,z3⟩:=hz;have hj:=(aa.1 hx).1;unfold Avm;refine c6 (λhc=>?_) λ_=>c7 ⟨z1,z2,by omega⟩;rw[Qz z1 (by omega),ab];have hil:=Mb x z;refine c7 ⟨Ik _ z1,λu hu=>?_,by omega⟩;rcases(Fx _ _ _).1 hu with rfl|hu
 .exact(hy.1 _ (ae hx)).1
 .exact z2 u hu
theorem Aix{l:List Bi}(h:l.length<=100000000):F64 l l=some true:=by refine da ?_;unfold F64;refine c6 (λhc=>by simp at hc) λ_=>ee (A:=λ_=>True) (B:=λ_=>False) ?_ (λ_ _=>eo rfl) eq;refine c8 (I:=λ_ _=>True) trivial (λj x z hx _=>?_) λ_ _=>trivial;have hj:=(aa.1 hx).1;unfold Atw;rw[Cv (by omega),Bl hx,ab];exact c6 (λhc=>by simp[Azz]at hc) λ_=>c7 trivial
theorem Aik(h:zM p.Power)(h1:p.A0.length<=1000)(h2:p.A6.length<=100000000):F17 p p=some true:=by refine da ?_;unfold F17;rw[U1 h,Aix h2];refine ef (P:=λu=>u=true) (c9 (λ_=>eo rfl) λhg=>absurd ⟨by simp,trivial⟩ hg) λu hu=>ef (P:=λu=>u=true) (c9 (λ_=>eo rfl) λhg=>absurd ⟨by simp[hu],trivial⟩ hg) λu' hu'=>c6 (λhc=>by simp[A0b,hu,hu']at hc) λ_=>?_;refine ee (A:=λ_=>True) (B:=λ_=>False) ?_ (λ_ _=>eo rfl) eq;refine d4 (λs=>0<=s/\s<=(p.A0.length:Int)) (λs=>((p.A0.length:Int)-s).toNat) _ _ (by omega) (by omega) ?_;rintro i ⟨h5,h6⟩;unfold Au6 A0a;refine c6 (λhq=>?_) (λ_=>d8 trivial);simp only[dM]at hq;refine(d5 h5 hq).bind λu hu=>?_;refine ef (P:=λv=>v=u) ((d5 h5 hq).mono λv hv=>by rw[hu]at hv;cases hv;rfl) λv hv=>?_;subst hv;refine c6 (λhc=>by simp[Az9]at hc) (λ_=>c7 ?_);rw[Az];omega
theorem Ard(h:X8 v)(hp:Mk v.Board v.Table p)(he:p.A6=[])(hb:∀x,x∈broken->ptB x=true)(hf:∀x,x∈fails->ptB x=true)(hbn:broken.length<=20)(hfn:fails.length<=40) :
  ∃r,F14 v p broken fails=some r/\Xc v p broken fails=some r/\vI v p broken fails=some r/\F16 r.2.1 r.2.1=some true/\F17 r.1 r.1=some true:=by
 obtain⟨y,ey,a,hy,ha,hst⟩:=Apk h hp he hb hf hbn hfn;obtain⟨y',ey',a',hy',ha'⟩:=Avn h hp he (broken:=broken) (fails:=fails) hbn hfn;have e:=ha.unique ha';subst e;rw[←hy]at hy';subst hy';have hsl:=h.ship.len;have hro:=hp.nro;have hbu:=h.Aq.buses;have e1:y'.2.1.length<=1000:=by rw[hy];show ((K9 _).foldl J5 a).length<=1000;rw[Xm,ha.1];omega
 have e2:y'.1=(Er v.Design.Links (broken++(p.Power.Ai++fails))).foldl (Ff v.Board p.Power.Ai) p:=by rw[hy];rfl
 refine⟨y',ey,ey',ey',Abl _ (by omega),?_⟩;rw[e2];exact Aik (hst.st.lens h.Aq) (by rw[hst.ros];omega) (by have:=hst.ev;omega)
theorem Aqa:F9=some true:=by kernel_rfl
theorem consequenceFails_law(t:eQ)(raw:List a_)(hr:∀x,x∈raw->(Lit.int .i64 x.Kind).wf=true/\(Lit.int .i64 x.Number).wf=true):F3 t raw=some true:=by refine da ?_;unfold F3;refine c6 (λ_=>by rw[Aqa];exact eo rfl) (λhc=>(A6t t).bind λs hs=>(Alx hs).bind λw hw=>(Amh hw.2.2).bind λo ho=>(Agg ho.2.2 (n:=3) (by omega)).bind λf hf=>?_);simp only[A5j,aZ,dN]at hc;obtain⟨hv,⟨hp,hT,hE,_⟩,_⟩:=hw;have hdl:=hv.des.len;have hf2:=hf.2.1;have one:=λ(l:List a_)(h1:∀x,x∈l->ptB x=true)(h2:l.length<=40)=>Ard hv (hp w.1.Table) hE (broken:=o.1) (λx hx=>U5 (ho.1 x hx)) h1 (by have:=ho.2.1;omega) h2;obtain⟨r1,a1,a2,_,a4,a5⟩:=one f.1 (λx hx=>U5 (hf.1 x hx).1) (by omega);obtain⟨r2,b1,_,b3,b4,b5⟩:=one raw (λx hx=>by unfold ptB;rw[(hr x hx).1,(hr x hx).2];rfl) (by omega);obtain⟨r3,c1,_,c3,c4,c5⟩:=one w.1.Design.Parts (λx hx=>U5 (hv.des.ok x hx)) (by omega);rw[a1,ab,a2,ab];refine ef (P:=λu=>u=true) (c9 (λ_=>d6 a4 rfl) λhg=>absurd ⟨by simp,trivial⟩ hg) λu hu=>ef (P:=λu=>u=true) (c9 (λ_=>d6 a5 rfl) λhg=>absurd ⟨by simp[hu],trivial⟩ hg) λu' hu'=>c6 (λhc=>by simp[A5i,hu,hu']at hc) λ_=>?_;rw[b1,ab,b3,ab];refine ef (P:=λu=>u=true) (c9 (λ_=>d6 b4 rfl) λhg=>absurd ⟨by simp,trivial⟩ hg) λu hu=>ef (P:=λu=>u=true) (c9 (λ_=>d6 b5 rfl) λhg=>absurd ⟨by simp[hu],trivial⟩ hg) λu' hu'=>c6 (λhc=>by simp[A5h,hu,hu']at hc) λ_=>?_;rw[c1,ab,c3,ab];refine ef (P:=λu=>u=true) (c9 (λ_=>d6 c4 rfl) λhg=>absurd ⟨by simp,trivial⟩ hg) λu hu=>ef (P:=λu=>u=true) (c9 (λ_=>d6 c5 rfl) λhg=>absurd ⟨by simp[hu],trivial⟩ hg) λu' hu'=>c6 (λhc=>by simp[A5g,hu,hu']at hc) λ_=>?_;rw[Aqa];exact eo rfl
end Go.Proofs.YtiaaaghdkhnonaaGreat
