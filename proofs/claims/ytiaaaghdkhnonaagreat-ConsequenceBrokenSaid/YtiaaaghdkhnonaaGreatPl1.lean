import Derived.Test.YtiaaaghdkhnonaaGreatPl0
namespace Go.Proofs.YtiaaaghdkhnonaaGreat
open Go.SL
variable{v:A9}{b:Ab}{P p:Ad}{z:Ad×List Aw}{s:Af}{x:Ap}{t:Ay}{m:By}{r:Cm}{T c hi hi' lo:Int}{a broken fails l:List Aa}{acts:List Aw}{d y:List Int}{f i j k n:Nat}
def key(b:Ab)(c:Int):Int:=(b.Ag.getD c.toNat default).B2*100+c
variable{l:List Int}
theorem Ub(h:k<l.length):getI l (k:Int)=some (l.getD k 0):=B1 (by
 grind)
structure Srt(b:Ab)(n i:Nat)(d:List Int):Prop where
 len:d.length=n
 low:∀k,k<i->k<n->0<=d.getD k 0/\d.getD k 0<(i:Int)
 asc:∀k m,k<m->m<i->m<n->key b (d.getD k 0)<key b (d.getD m 0)
 rest:∀k,i<=k->k<n->d.getD k 0=(k:Int)
 mem:∀v,v<n->∃k,k<n/\d.getD k 0=(v:Int)
structure Ins(b:Ab)(n i j:Nat)(d:List Int):Prop where
 len:d.length=n
 here:d.getD j 0=(i:Int)
 low:∀k,k<=i->k≠j->0<=d.getD k 0/\d.getD k 0<(i:Int)
 asc:∀k m,k<m->m<=i->k≠j->m≠j->key b (d.getD k 0)<key b (d.getD m 0)
 big:∀k,j<k->k<=i->key b (i:Int)<key b (d.getD k 0)
 rest:∀k,i<k->k<n->d.getD k 0=(k:Int)
 mem:∀v,v<n->∃k,k<n/\d.getD k 0=(v:Int)
theorem Srt.ins(h:Srt b n i d)(hi:i<n):Ins b n i i d where
 len:=h.len
 here:=h.rest i (af _) hi
 low k hk hne:=h.low k (by omega) (by omega)
 asc k m hkm hm hk hm2:=h.asc k m hkm (by omega) (by omega)
 big k h1 h2:=by omega
 rest k h1 h2:=h.rest k (by omega) h2
 mem:=h.mem
theorem Ins.done(h:Ins b n i j d)(hj:j<=i)(hk:0<j->key b (d.getD (j-1) 0)<key b (i:Int)):Srt b n (i+1) d:=by
 refine⟨h.len,λk h1 h2=>?_,λk m hkm hm hn=>?_,λk h1 h2=>h.rest k (by omega) h2,h.mem⟩
 ·by_cases e:k=j
  ·rw[e,h.here];omega
  ·have:=h.low k (by omega) e;omega
 ·have lo:∀k,k<j->key b (d.getD k 0)<key b (i:Int):=λk hkj=>by
   have h3:=hk (by omega);by_cases e:k=j-1
   ·rw[e];exact h3
   ·have:=h.asc k (j-1) (by omega) (by omega) (by omega) (by omega);omega
  by_cases e:k=j
  ·subst e;rw[h.here];exact h.big m hkm (by omega)
  ·by_cases e2:m=j
   ·grind[Ins.here]
   ·exact h.asc k m hkm (by omega) e e2
theorem Ins.step(h:Ins b n i j d)(hj:j<=i)(h0:0<j)(hi:i<n)(hk:key b (i:Int)<key b (d.getD (j-1) 0)):Ins b n i (j-1) ((d.set j (d.getD (j-1) 0)).set (j-1) (i:Int)):=by
 have hl:=h.len;have ev:∀k,((d.set j (d.getD (j-1) 0)).set (j-1) (i:Int)).getD k 0=if k=j-1 then (i:Int) else if k=j then d.getD (j-1) 0 else d.getD k 0:=λk=>by
  grind
 refine⟨by simp[hl],?_,λk h1 h2=>?_,λk m hkm hm hk1 hm1=>?_,λk h1 h2=>?_,λk h1 h2=>?_,λv hv=>?_⟩
 ·rw[ev,if_pos rfl]
 ·rw[ev,if_neg h2];split
  ·exact h.low (j-1) (by omega) (by omega)
  ·exact h.low k h1 (by omega)
 ·rw[ev,ev,if_neg hk1,if_neg hm1];by_cases e1:k=j
  ·rw[if_pos e1,if_neg (by omega)];subst e1;exact h.asc (k-1) m (by omega) hm (by omega) (by omega)
  ·rw[if_neg e1];by_cases e2:m=j
   ·rw[if_pos e2];exact h.asc k (j-1) (by omega) (by omega) e1 (by omega)
   ·rw[if_neg e2];exact h.asc k m hkm hm e1 e2
 ·rw[ev,if_neg (by omega)];split
  ·exact hk
  ·exact h.big k (by omega) h2
 ·rw[ev,if_neg (by omega),if_neg (by omega)];exact h.rest k h1 h2
 ·obtain⟨k,hk1,hk2⟩:=h.mem v hv;by_cases e1:k=j
  ·grind[Ins.here]
  ·by_cases e2:k=j-1
   ·refine⟨j,by omega,?_⟩;rw[ev,if_neg (by omega),if_pos rfl,←hk2,e2]
   ·refine⟨k,hk1,?_⟩;rw[ev,if_neg e2,if_neg e1];exact hk2
theorem Aoe{x y:Nat}(hx:x<b.Ag.length)(hy:y<b.Ag.length):Qq (x:Int) (y:Int) b=some (if(b.Ag.getD x default).B2<(b.Ag.getD y default).B2 then -1 else if(b.Ag.getD x default).B2>(b.Ag.getD y default).B2 then 1 else 0):=by
 unfold Qq;rw[B1 (Ge hx),B1 (Ge hy)];simp only[ab,N5]
theorem Ats(h:Ax b)(hi:i<b.Ag.length)(hd:Ins b b.Ag.length i i d) :
  Ok (whileN (U3 0 b) 1152921504606846976 ((i:Int),d)) (Ep (λs=>Srt b b.Ag.length (i+1) s.2) λ(_:Unit)=>False):=by
 have hcl:=h.col;refine cO (λs=>∃j:Nat,s.1=(j:Int)/\j<=i/\Ins b b.Ag.length i j s.2) (λs=>s.1.toNat) _ _ ⟨i,rfl,af _,hd⟩ (by dsimp only;omega) ?_;rintro⟨z,d⟩ ⟨j,hz,hj,hI⟩;dsimp only at hz hI;subst hz;have hl:=hI.len;unfold U3;dsimp only;by_cases h0:0<j
 ·have e1:decide ((j:Int)>0)=true:=dD (by omega);have e2:w64 ((j:Int)-1)=((j-1:Nat):Int):=by rw[Az (by omega)];omega
  have hlow:=hI.low (j-1) (by omega) (by omega);obtain⟨v,hv⟩:∃v:Nat,d.getD (j-1) 0=(v:Int):=⟨(d.getD (j-1) 0).toNat,by omega⟩;have hvi:v<i:=by omega
  have ec:=Aoe (b:=b) hi (show v<b.Ag.length by omega);have g1:As [(decide ((j:Int)>0),true)] (getI d (j:Int)) default=some (i:Int):=by
   rw[e1,Ub (by omega),hI.here];rfl
  have g2:As [(decide ((j:Int)>0),true)] (getI d (w64 ((j:Int)-1))) default=some (v:Int):=by
   rw[e1,e2,Ub (by omega),hv];rfl
  rw[g1,g2];simp only[ab];have g3:As [(decide ((j:Int)>0),true)] (Qq (i:Int) (v:Int) b) default=Qq (i:Int) (v:Int) b:=by rw[e1];rw[ec];rfl
  rw[g3,ec];simp only[ab];have hci:=h.co i _ (Ge hi);have hcv:=h.co v _ (Ge (show v<b.Ag.length by omega));have ki:key b (i:Int)=(b.Ag.getD i default).B2*100+(i:Int):=by unfold key;rw[aE]
  have kv:key b (v:Int)=(b.Ag.getD v default).B2*100+(v:Int):=by unfold key;rw[aE]
  refine c6 (λhq=>?_) (λhq=>?_)
  ·simp only[Xs,ac,dy]at hq;have hlt:(b.Ag.getD i default).B2<(b.Ag.getD v default).B2:=by
    have:=hq.2;split at this
    ·assumption
    ·split at this <;> omega
   have e3:getI d (w64 ((j:Int)-1))=some (d.getD (j-1) 0):=by rw[e2,Ub (by omega)]
   have e4:getI d (j:Int)=some (i:Int):=by rw[Ub (by omega),hI.here]
   rw[e3,e4];simp only[ab];rw[e2,Xa (by omega)];simp only[ab];rw[Ub (by rw[bl];omega)];simp only[ab];rw[Xa (by rw[bl];omega)];simp only[ab];refine c7 ⟨⟨j-1,rfl,by omega,hI.step hj h0 hi ?_⟩,by dsimp only;omega⟩;rw[hv,ki,kv];omega
  ·refine cS (hI.done hj λ_=>?_);simp only[Xs,bZ,dz]at hq;have hge:¬(b.Ag.getD i default).B2<(b.Ag.getD v default).B2:=by
    intro hlt;rw[if_pos hlt]at hq;omega
   rw[hv,ki,kv];omega
 ·have h00:j=0:=by omega
  subst h00;exact cS (hI.done hj λhh=>by omega)
theorem Aw7(h:Ax b)(hd:Srt b b.Ag.length 0 d):Ok (Zo d b) λy=>Srt b b.Ag.length b.Ag.length y.1:=by
 have hcl:=h.col;have hl:=hd.len;unfold Zo Afd;rw[hl];refine Ok.bind (P:=λy=>Srt b b.Ag.length b.Ag.length y.1) ?_ λy hy=>Ok.pure hy;refine Ok.andThen (A:=λs=>s=((0:Int),(20:Int),d,b.Am,b.Ah,b.Ae,b.Ag,b.Phase,b.Aq)) (B:=λ(_:Unit)=>False) ?_ (λs hs=>?_) (λ_ h=>h.elim)
 ·refine cO (λs=>s=((0:Int),(20:Int),d,b.Am,b.Ah,b.Ae,b.Ag,b.Phase,b.Aq)) (λ_=>0) _ _ rfl (by omega) ?_;intro s hs;subst hs;unfold Aaa;dsimp only;refine c6 (λhq=>?_) (λ_=>cS rfl);simp only[dy]at hq;omega
 ·subst hs;dsimp only;refine Ok.bind (P:=λy=>Srt b b.Ag.length b.Ag.length y.1) ?_ λy hy=>?_
  ·unfold Zk;have e1:w64 (0+1)=1:=by rw[Az (by omega)];rfl
   rw[e1];refine Ok.andThen (A:=λs=>Srt b b.Ag.length b.Ag.length s.2) (B:=λ(_:Unit)=>False) ?_ (λs hs=>Ok.pure hs) (λ_ h=>h.elim);refine cO (λs=>∃i:Nat,s.1=(i:Int)/\1<=i/\(i<=b.Ag.length\/b.Ag.length=0)/\Srt b b.Ag.length i s.2) (λs=>(100-s.1).toNat) _ _ ⟨1,rfl,by omega,by omega,?_⟩ (by dsimp only;omega) ?_
   ·refine⟨hl,λk h1 h2=>?_,λk m h1 h2 h3=>by omega,λk h1 h2=>hd.rest k (by omega) h2,hd.mem⟩;have:k=0:=by omega
    subst this;have:=hd.rest 0 (af _) h2;dsimp only;rw[this];omega
   ·rintro⟨z,d'⟩ ⟨i,hz,h1,h2,hS⟩;dsimp only at hz hS;subst hz;unfold zU;dsimp only;refine c6 (λhq=>?_) (λhq=>cS ?_)
    ·simp only[dy]at hq;have hin:i<b.Ag.length:=by omega
     refine Ok.inner (Ats h hin (hS.ins hin)) (λs hs=>?_) (λ_ h=>h.elim);have e2:w64 ((i:Int)+1)=((i+1:Nat):Int):=by rw[Az (by omega)];omega
     rw[e2];exact c7 ⟨⟨i+1,rfl,by omega,by omega,hs⟩,by dsimp only;omega⟩
    ·simp only[dz]at hq;dsimp only;have hge:b.Ag.length<=i:=by omega
     refine⟨hS.len,λk g1 g2=>?_,λk m g1 g2 g3=>hS.asc k m g1 (by omega) g3,λk g1 g2=>by omega,hS.mem⟩;obtain⟨w1,w2⟩:=hS.low k (by omega) g2;exact⟨w1,by omega⟩
  ·refine Ok.andThen (A:=λ_=>True) (B:=λ(_:Unit)=>False) ?_ (λs hs=>Ok.pure hy) (λ_ h=>h.elim);refine cO (λ_=>True) (λ_=>0) _ _ trivial (by omega) ?_;intro s _;unfold zZ;refine c6 (λhq=>?_) (λ_=>cS trivial);simp only[dy]at hq;omega
def O6(b:Ab):List Int:=(vB b).getD []
theorem Xe(h:Ax b):vB b=some (O6 b)/\Srt b b.Ag.length b.Ag.length (O6 b):=by
 have hcl:=h.col;have key:Ok (vB b) λy=>Srt b b.Ag.length b.Ag.length y:=by
  unfold vB;rw[Adr h];simp only[ab];refine c6 (λhc=>by simp at hc) (λ_=>?_);refine Ok.andThen (A:=λs=>s.2=Dk b.Ag.length) (B:=λ(_:Unit)=>False) ?_ (λs hs=>?_) (λ_ h=>h.elim)
  ·refine cO (λs=>∃i:Nat,s.1=(i:Int)/\i<=b.Ag.length/\s.2=Dk i) (λs=>(100-s.1).toNat) _ _ ⟨0,rfl,by omega,rfl⟩ (by dsimp only;omega) ?_;rintro⟨z,d⟩ ⟨i,hz,h1,h2⟩;dsimp only at hz h2;subst hz;subst h2;unfold Ai3 Ap4;dsimp only;refine c6 (λhq=>?_) (λhq=>cS ?_)
   ·simp only[dy]at hq;refine(cQ (by simp[Dk];omega)).bind λy hy=>?_;have e2:w64 ((i:Int)+1)=((i+1:Nat):Int):=by rw[Az (by omega)];omega
    rw[e2];refine c7 ⟨⟨i+1,rfl,by omega,?_⟩,by dsimp only;omega⟩;dsimp only;rw[hy];unfold Dk;rw[cd,bE];rfl
   grind
  ·rw[hs];refine(Aw7 h ?_).bind λy hy=>Ok.pure hy;refine⟨by simp[Dk],λk h1=>by omega,λk m _ h1=>by omega,λk _ h2=>Lx h2,λv hv=>⟨v,hv,Lx hv⟩⟩
 obtain⟨r,e,hr⟩:=key;have:O6 b=r:=by unfold O6;rw[e];rfl
 rw[this];exact⟨e,hr⟩
theorem Azr(h:Ax b)(hc:c∈O6 b):0<=c/\c<b.Ag.length:=by
 have hs:=(Xe h).2;obtain⟨k,hk⟩:=List.mem_iff_getElem?.1 hc;have hlt:=(aa.1 hk).1;have:=hs.low k (by have:=hs.len;omega) (by have:=hs.len;omega);grind
theorem Ahv(h:Ax b):(O6 b).length=b.Ag.length:=(Xe h).2.len
def Tg(L:List Int)(l:List Int):Int:=l.foldl (λs c=>s+L.getD c.toNat 0) 0
theorem yI(L:List Int)(l:List Int)(c:Int):Tg L (l++[c])=Tg L l+L.getD c.toNat 0:=by
 grind[Tg]
def Io(b:Ab)(p:Ad)(n:Nat):Nat:=((groups b p).getD n 0).toNat
def H7(b:Ab)(p:Ad)(n:Nat):Int:=if 0<(isl b p (Io b p n)).Ae.length then Tg p.An (isl b p (Io b p n)).Ag else 0
def Aa8(b:Ab):List Int:=b.Ae.map (·.Rating)
def Nq(b:Ab)(p:Ad)(n:Nat):Int:=Tg (Aa8 b) (isl b p (Io b p n)).Ae
theorem Axr{i:Int}(hi:i∈(isl b p f).Ag):0<=i/\i<b.Ag.length:=by
 obtain⟨k,hk,rfl⟩:=an.1 hi;grind
theorem Axq{i:Int}(hi:i∈(isl b p f).Ae):0<=i/\i<b.Ae.length:=by
 obtain⟨k,hk,rfl⟩:=an.1 hi;grind
theorem Ace(h:Ax b)(hp:Av b p)(h0:0<=c)(h1:c<b.Ag.length):getI p.An c=some (p.An.getD c.toNat 0)/\0<=p.An.getD c.toNat 0/\p.An.getD c.toNat 0<=(b.Ag.getD c.toNat default).Load/\p.An.getD c.toNat 0<=50000:=by
 have hn:=hp.nli;obtain⟨k,rfl⟩:∃k:Nat,c=(k:Int):=⟨c.toNat,by omega⟩;rw[aE];have hg:=Ge (b:=b) (i:=k) (by omega);have hl:=hp.lim k _ _ (P1 (p:=p) (by omega)) hg;have hc:=(h.co k _ hg).1;exact⟨B1 (P1 (by omega)),hl.1,hl.2,by omega⟩
theorem A5t(h0:0<=c)(h1:c<b.Ag.length):getI b.Ag c=some (b.Ag.getD c.toNat default):=by
 obtain⟨k,rfl⟩:∃k:Nat,c=(k:Int):=⟨c.toNat,by omega⟩;rw[aE];exact B1 (Ge (by omega))
theorem Ah1(h:Ax b)(hp:Av b p)(hn:n<b.Am.toNat):Afc b p (n:Int)=some (H7 b p n)/\0<=H7 b p n/\H7 b p n<=800000:=by
 have hcl:=h.col;have hlen:(isl b p (Io b p n)).Ag.length<=b.Ag.length:=Fb _ _;have key:Ok (Afc b p (n:Int)) λy=>y=H7 b p n/\0<=H7 b p n/\H7 b p n<=800000:=by
  unfold Afc;have hof:J3 b p (n:Int)=some (isl b p (Io b p n),true):=of_eq h hp hn;rw[hof];simp only[ab];refine Ok.andThen (A:=λs=>s=H7 b p n/\0<=H7 b p n/\H7 b p n<=800000) (B:=λ(_:Unit)=>False) ?_ (λs hs=>Ok.pure hs) (λ_ h=>h.elim);by_cases hs:0<(isl b p (Io b p n)).Ae.length
  ·refine c8 (I:=λj s=>s=Tg p.An ((isl b p (Io b p n)).Ag.take j)/\0<=s/\s<=50000*(j:Int)) ⟨rfl,by omega,by omega⟩ (λj c s hc hI=>?_) λs hI=>?_
   ·obtain⟨h1,h2,h3⟩:=hI;have hj:j<(isl b p (Io b p n)).Ag.length:=(aa.1 hc).1;have hcm:=Axr (ae hc);obtain⟨g1,g2,g3,g4⟩:=Ace h hp hcm.1 hcm.2;unfold uW;have e:decide (((isl b p (Io b p n)).Ae.length:Int)>0)=true:=dD (by omega);show Ok (bif decide (((isl b p (Io b p n)).Ae.length:Int)>0)then _ else _) _;rw[e,g1];simp only[cond_true,ab];rw[Az (by omega)];refine c7 ⟨?_,by omega,by omega⟩;rw[Bm hc,yI,h1]
   ·rw[aJ]at hI;have e:H7 b p n=Tg p.An (isl b p (Io b p n)).Ag:=by unfold H7;rw[if_pos hs]
    grind
  ·have e:H7 b p n=0:=by unfold H7;rw[if_neg hs]
   rw[e];refine c8 (I:=λ_ s=>s=0) rfl (λj c s hc hI=>?_) λs hI=>⟨hI,by omega,by omega⟩;unfold uW;have e:decide (((isl b p (Io b p n)).Ae.length:Int)>0)=false:=dE (by omega);show Ok (bif decide (((isl b p (Io b p n)).Ae.length:Int)>0)then _ else _) _;rw[e];exact c7 hI
 obtain⟨r,e,h1,h2⟩:=key;rw[h1]at e;exact⟨e,h2⟩
theorem yR(h:Ax b)(hp:Av b p)(hn:n<b.Am.toNat):Afb b p (n:Int)=some (Nq b p n)/\0<=Nq b p n/\Nq b p n<=400000:=by
 have hcl:=h.sol;have hlen:(isl b p (Io b p n)).Ae.length<=b.Ae.length:=Fb _ _;have key:Ok (Afb b p (n:Int)) λy=>y=Nq b p n/\0<=Nq b p n/\Nq b p n<=400000:=by
  unfold Afb;have hof:J3 b p (n:Int)=some (isl b p (Io b p n),true):=of_eq h hp hn;rw[hof];simp only[ab];refine Ok.andThen (A:=λs=>s=Nq b p n/\0<=Nq b p n/\Nq b p n<=400000) (B:=λ(_:Unit)=>False) ?_ (λs hs=>Ok.pure hs) (λ_ h=>h.elim);refine c8 (I:=λj s=>s=Tg (Aa8 b) ((isl b p (Io b p n)).Ae.take j)/\0<=s/\s<=50000*(j:Int)) ⟨rfl,by omega,by omega⟩ (λj c s hc hI=>?_) λs hI=>?_
  ·obtain⟨h1,h2,h3⟩:=hI;have hj:j<(isl b p (Io b p n)).Ae.length:=(aa.1 hc).1;have hcm:=Axq (ae hc);unfold Aiu;refine(cP hcm.1 hcm.2).bind λy hy=>?_;have hr:=(h.so y (ae hy)).1;have e:(Aa8 b).getD c.toNat 0=y.Rating:=by simp[Aa8,List.getD,hy]
   rw[Az (by omega)];refine c7 ⟨?_,by omega,by omega⟩;rw[Bm hc,yI,h1,e]
  ·rw[aJ]at hI;unfold Nq;grind
 obtain⟨r,e,h1,h2⟩:=key;rw[h1]at e;exact⟨e,h2⟩
def N2(b:Ab)(p:Ad)(n:Nat):Int:=max 0 (H7 b p n-Nq b p n)
theorem zA(h:Ax b)(hp:Av b p)(acts:List Aw)(hn:n<b.Am.toNat):U5 ⟨b,p,acts⟩ (n:Int)=some (N2 b p n):=by
 obtain⟨h1,h2,h3⟩:=Ah1 h hp hn;obtain⟨h4,h5,h6⟩:=yR h hp hn;unfold U5;simp only[h1,h4,ab];rw[Az (by omega)];rfl
theorem Ax4(h:Ax b)(hp:Av b p)(hn:n<b.Am.toNat):0<=N2 b p n/\N2 b p n<=800000:=by
 obtain⟨h1,h2,h3⟩:=Ah1 h hp hn;obtain⟨h4,h5,h6⟩:=yR h hp hn;unfold N2;omega
def Ck(p:Ad)(L:List Int):Ad:=⟨p.Ai,p.Ae,L,p.Al⟩
def Ff(p:Ad)(C:List Bool):Ad:=⟨C,p.Ae,p.An,p.Al⟩
def H8(b:Ab)(p:Ad)(n:Nat)(c:Int):Int:=min (N2 b p n) (p.An.getD c.toNat 0-(b.Ag.getD c.toNat default).Least)
def O9(b:Ab)(p:Ad)(n:Nat)(z:List Int×List Aw)(c:Int):List Int×List Aw:=
 if 0<H8 b (Ck p z.1) n c then (z.1.set c.toNat (z.1.getD c.toNat 0-H8 b (Ck p z.1) n c),z.2++[⟨5,c,z.1.getD c.toNat 0-H8 b (Ck p z.1) n c⟩]) else z
def Js(b:Ab)(p:Ad)(n:Nat)(l:List Int)(z:List Int×List Aw):List Int×List Aw:=l.foldl (O9 b p n) z
theorem yL(hp:Av b p){c:Nat}{v:Int}(hv:0<=v/\v<=(b.Ag.getD c default).Load):Av b (Ck p (p.An.set c v)) where
 ncl:=hp.ncl
 nso:=hp.nso
 nli:=by simp[Ck,hp.nli]
 run:=hp.run
 lim i n x hn hx:=by
  simp only[Ck,aH]at hn;by_cases e:c=i
  ·grind
  ·rw[if_neg e]at hn;exact hp.lim i n x hn hx
 one:=hp.one
 brk:=hp.brk
theorem Ah0(h:Ax b){z:List Int×List Aw}(hz:Av b (Ck p z.1))(h0:0<=c)(h1:c<b.Ag.length):Av b (Ck p (O9 b p n z c).1):=by
 unfold O9;split
 ·rename_i hl;obtain⟨_,g2,g3,_⟩:=Ace h hz h0 h1;have hco:=(h.co c.toNat _ (Ge (b:=b) (i:=c.toNat) (by omega))).2.1;have hm:H8 b (Ck p z.1) n c<=z.1.getD c.toNat 0-(b.Ag.getD c.toNat default).Least:=Int.min_le_right _ _;exact yL (p:=Ck p z.1) hz (c:=c.toNat) ⟨by omega,by
   have:(Ck p z.1).An.getD c.toNat 0=z.1.getD c.toNat 0:=rfl;omega⟩
 ·exact hz
theorem Acd(h:Ax b)(hp:Av b p)(hl:∀c,c∈l->0<=c/\c<b.Ag.length)(ha:acts.length+l.length<=100000)(hn:n<b.Am.toNat) :
  U_ ⟨b,p,acts⟩ l (n:Int)=some ⟨b,Ck p (Js b p n l (p.An,acts)).1,(Js b p n l (p.An,acts)).2⟩/\Av b (Ck p (Js b p n l (p.An,acts)).1)/\(Js b p n l (p.An,acts)).2.length<=acts.length+l.length:=by
 have key : Ok (U_ ⟨b, p, acts⟩ l (n : Int)) λy => y = ⟨b, Ck p (Js b p n l (p.An, acts)).1, (Js b p n l (p.An, acts)).2⟩ /\ Av b (Ck p (Js b p n l (p.An, acts)).1) /\ (Js b p n l (p.An, acts)).2.length <= acts.length + l.length := by
  unfold U_;refine Ok.andThen (A:=λs=>s=Js b p n l (p.An,acts)/\Av b (Ck p s.1)/\s.2.length<=acts.length+l.length) (B:=λ(_:Unit)=>False) ?_ (λs hs=>?_) (λ_ h=>h.elim)
  ·refine c8 (I:=λj s=>s=Js b p n (l.take j) (p.An,acts)/\Av b (Ck p s.1)/\s.2.length<=acts.length+j) ⟨rfl,hp,by simp⟩ (λj c s hc hI=>?_) λs hI=>?_
   ·obtain⟨h1,h2,h3⟩:=hI;have hj:j<l.length:=(aa.1 hc).1;have hin:=hl c (ae hc);obtain⟨g1,g2,g3,g4⟩:=Ace h h2 hin.1 hin.2;have hco:=(h.co c.toNat _ (Ge (b:=b) (i:=c.toNat) (by omega))).2.1;have hcl:=(h.co c.toNat _ (Ge (b:=b) (i:=c.toNat) (by omega))).1;have hex:=Ax4 h h2 hn;have hE:=zA h h2 s.2 hn;have hsucc:Js b p n (l.take (j+1)) (p.An,acts)=O9 b p n s c:=by
     rw[Bm hc,h1];unfold Js;rw[bc];rfl
    have hok:=Ah0 (n:=n) h h2 hin.1 hin.2;have hless:w64 ((Ck p s.1).An.getD c.toNat 0-(b.Ag.getD c.toNat default).Least)=(Ck p s.1).An.getD c.toNat 0-(b.Ag.getD c.toNat default).Least:=Az (by omega);have hlen:s.1.length=b.Ag.length:=h2.nli;unfold Aah;refine Ok.bind (P:=λy=>y=N2 b (Ck p s.1) n) (cR hE rfl) λy hy=>?_;subst hy;refine Ok.bind (P:=λy=>y=(Ck p s.1).An.getD c.toNat 0) (cR g1 rfl) λy hy=>?_;subst hy;refine Ok.bind (P:=λy=>y=b.Ag.getD c.toNat default) (cR (A5t hin.1 hin.2) rfl) λy hy=>?_;subst hy;have em:min (N2 b (Ck p s.1) n) (w64 ((Ck p s.1).An.getD c.toNat 0-(b.Ag.getD c.toNat default).Least))=H8 b (Ck p s.1) n c:=by rw[hless];rfl
    have hlb:0<H8 b (Ck p s.1) n c->0<=(Ck p s.1).An.getD c.toNat 0-H8 b (Ck p s.1) n c/\(Ck p s.1).An.getD c.toNat 0-H8 b (Ck p s.1) n c<=50000:=λhh=>by
     have hm:H8 b (Ck p s.1) n c<=(Ck p s.1).An.getD c.toNat 0-(b.Ag.getD c.toNat default).Least:=Int.min_le_right _ _;omega
    refine c6 (λhq=>?_) (λhq=>?_)
    ·simp only[Xv,em,dy,gt_iff_lt]at hq;have hb2:=hlb hq;rw[em,Az (by omega)];have eS:O9 b p n s c=(s.1.set c.toNat (s.1.getD c.toNat 0-H8 b (Ck p s.1) n c),s.2++[⟨5,c,s.1.getD c.toNat 0-H8 b (Ck p s.1) n c⟩]):=by unfold O9;rw[if_pos hq]
     refine(cT hin.1 (by omega)).bind λy hy=>?_;subst hy;refine Ok.bind (P:=λv=>v=s.1.getD c.toNat 0-H8 b (Ck p s.1) n c) ?_ λv hv=>?_
     ·refine(cP hin.1 (by rw[bl];omega)).mono λv hv=>?_;rw[bI (by omega)]at hv;cases hv;rfl
     ·subst hv;refine(cQ (by simp;omega)).bind λw hw=>c7 ?_;subst hw;rw[hsucc,eS];rw[eS]at hok;exact⟨rfl,hok,by simp;omega⟩
    ·simp only[Xv,em,dz,gt_iff_lt]at hq;have eS:O9 b p n s c=s:=by unfold O9;rw[if_neg hq]
     refine c7 ?_;rw[hsucc,eS];exact⟨rfl,h2,by show s.2.length<=_;omega⟩
   ·rw[aJ]at hI;exact hI
  ·obtain⟨h1,h2,h3⟩:=hs;subst h1;exact Ok.pure ⟨rfl,h2,h3⟩
 obtain⟨r,e,h1,h2⟩:=key;rw[h1]at e;exact⟨e,h2⟩
def isC(c:Int)(x:Ak):Bool:=x.Kind==3&&x.B==c
theorem Ans(h:Ax b)(hp:Av b p)(ha:acts.length<=100000)(c:Int):Zt ⟨b,p,acts⟩ c=some (⟨b,Ff p (acC b p.Ai (isC c)),acts++acA b p.Ai (isC c)⟩,c):=by
 have hbl:=h.brl;have hnc:=hp.ncl;refine cU ?_;unfold Zt;refine Ok.andThen (A:=λs=>s=Ed b p.Ai (isC c) b.Ah.length) (B:=λ(_:Unit)=>False) ?_ (λs hs=>?_) (λ_ h=>h.elim)
 ·refine c8 (I:=λj s=>s=Ed b p.Ai (isC c) j) rfl (λj x s hx hs=>?_) λs hs=>hs;have hj:j<b.Ah.length:=(aa.1 hx).1;have hfl:=Hn b p.Ai (isC c) j;have hfs:=Rx (C:=p.Ai) (q:=isC c) hx;subst hs;unfold Aai;rw[Cn (by omega),B1 (Ut hp hj)];simp only[ab];have e:Afg x c=isC c x:=rfl;rw[e,hfs];cases (p.Ai.getD j false&&isC c x) with
  |false=>refine c7 ?_;simp
  |true=>
   refine Ok.bind (P:=λy=>y=Ed b p.Ai (isC c) j++[(j:Int)]) (cQ (by simp;omega)) λy hy=>c7 ?_;rw[hy];simp
 ·subst hs;have hfl:=Hn b p.Ai (isC c) b.Ah.length;refine Ok.andThen (Xf (b:=b) (p:=p) (acts:=acts) (l:=Ed b p.Ai (isC c) b.Ah.length) (by omega) λi hi=>?_) (λs hs=>?_) (λ_ h=>h.elim)
  ·obtain⟨k,rfl,hk,_⟩:=M0.1 hi;omega
  ·subst hs;exact Ok.pure rfl
def Oe(b:Ab)(p:Ad)(n:Nat)(z:List Bool×List Aw)(c:Int):List Bool×List Aw:=
 if 0<p.An.getD c.toNat 0/\0<N2 b (Ff p z.1) n then (acC b z.1 (isC c),z.2++acA b z.1 (isC c)) else z
def G3(b:Ab)(p:Ad)(n:Nat)(l:List Int)(z:List Bool×List Aw):List Bool×List Aw:=l.foldl (Oe b p n) z
theorem Ahm(h:Ax b)(hp:Av b p)(hl:∀c,c∈l->0<=c/\c<b.Ag.length)(ha:acts.length+24*l.length<=100000)(hn:n<b.Am.toNat) :
  U9 ⟨b,p,acts⟩ l (n:Int)=some ⟨b,Ff p (G3 b p n l (p.Ai,acts)).1,(G3 b p n l (p.Ai,acts)).2⟩/\Av b (Ff p (G3 b p n l (p.Ai,acts)).1)/\(G3 b p n l (p.Ai,acts)).2.length<=acts.length+24*l.length:=by
 have hbl:=h.brl
 have key : Ok (U9 ⟨b, p, acts⟩ l (n : Int)) λy => y = ⟨b, Ff p (G3 b p n l (p.Ai, acts)).1, (G3 b p n l (p.Ai, acts)).2⟩ /\ Av b (Ff p (G3 b p n l (p.Ai, acts)).1) /\ (G3 b p n l (p.Ai, acts)).2.length <= acts.length + 24 * l.length := by
  unfold U9;refine Ok.andThen (A:=λs=>∃z:List Bool×List Aw,s=(b.Am,b.Ah,b.Ae,b.Ag,b.Phase,b.Aq,z.1,p.Ae,p.An,p.Al,z.2)/\z=G3 b p n l (p.Ai,acts)/\Av b (Ff p z.1)/\z.2.length<=acts.length+24*l.length) (B:=λ(_:Unit)=>False) ?_ (λs hs=>?_) (λ_ h=>h.elim)
  ·refine c8 (I:=λj s=>∃z:List Bool×List Aw,s=(b.Am,b.Ah,b.Ae,b.Ag,b.Phase,b.Aq,z.1,p.Ae,p.An,p.Al,z.2)/\z=G3 b p n (l.take j) (p.Ai,acts)/\Av b (Ff p z.1)/\z.2.length<=acts.length+24*j) ⟨(p.Ai,acts),rfl,rfl,hp,by simp⟩ (λj c s hc hI=>?_) λs hI=>?_
   ·obtain⟨z,h0,h1,h2,h3⟩:=hI;subst h0;have hj:j<l.length:=(aa.1 hc).1;have hin:=hl c (ae hc);obtain⟨g1,g2,g3,g4⟩:=Ace h hp hin.1 hin.2;have hE:=zA h h2 z.2 hn;have hsucc:G3 b p n (l.take (j+1)) (p.Ai,acts)=Oe b p n z c:=by
     rw[Bm hc,h1];unfold G3;rw[bc];rfl
    unfold Aag;refine Ok.bind (P:=λy=>y=p.An.getD c.toNat 0) (cR g1 rfl) λy hy=>?_;subst hy;have stay:¬(0<p.An.getD c.toNat 0/\0<N2 b (Ff p z.1) n)->∃w:List Bool×List Aw,(b.Am,b.Ah,b.Ae,b.Ag,b.Phase,b.Aq,z.1,p.Ae,p.An,p.Al,z.2)=(b.Am,b.Ah,b.Ae,b.Ag,b.Phase,b.Aq,w.1,p.Ae,p.An,p.Al,w.2)/\w=G3 b p n (l.take (j+1)) (p.Ai,acts)/\Av b (Ff p w.1)/\w.2.length<=acts.length+24*(j+1):=λhh=>by
     have eS:Oe b p n z c=z:=by unfold Oe;rw[if_neg hh]
     exact⟨z,rfl,by rw[hsucc,eS],h2,by omega⟩
    cases hq:decide (p.An.getD c.toNat 0>0) with
    |false=>
     simp only[dz]at hq;exact c7 (stay λhh=>hq hh.1)
    | true=>
     simp only[dy]at hq;refine Ok.bind (P:=λy=>y=N2 b (Ff p z.1) n) (cR hE rfl) λy hy=>?_;subst hy;cases hq2:decide (N2 b (Ff p z.1) n>0) with
     |false=>
      simp only[dz]at hq2;exact c7 (stay λhh=>hq2 hh.2)
     |true=>
      simp only[dy]at hq2;have hS:=Ans h h2 (acts:=z.2) (by omega) c;refine Ok.bind (P:=λy=>y=_) (cR hS rfl) λy hy=>c7 ?_;subst hy;have eS:Oe b p n z c=(acC b z.1 (isC c),z.2++acA b z.1 (isC c)):=by unfold Oe;rw[if_pos ⟨hq,hq2⟩]
      refine⟨(acC b z.1 (isC c),z.2++acA b z.1 (isC c)),rfl,by rw[hsucc,eS],Aek h2 (isC c),?_⟩;have:=Wc b z.1 (isC c);grind
   ·rw[aJ]at hI;exact hI
  ·obtain⟨z,h0,h1,h2,h3⟩:=hs;subst h0;subst h1;exact Ok.pure ⟨rfl,h2,h3⟩
 obtain⟨r,e,h1,h2⟩:=key;rw[h1]at e;exact⟨e,h2⟩
def Iv(x:Ap)(c:Int):Bool:=x.Ag.any (c == ·)
theorem Av7(hx:x.Ag.length<=1000)(c:Int):Va c x=some (!Iv x c):=by
 unfold Va;rw[Gd _ _ (by omega)];rfl
theorem zG{x:Ap}(hx:x.Ag.length<=1000):∀(l:List Int)(k:Nat),foldI (Vi x) l k ()=match l.findIdx? λc=>!Iv x c with
  |some j=>some (.ret (cnt 0 (k+j),x))
  |none=>some (.next ())
 | [],_=>rfl
 | c::l,k=>by
  simp only[foldI,Vi,Av7 hx,ab,List.findIdx?_cons];cases hq:(!Iv x c) with
  |true=>rfl
  | false=>
   simp only[cond_false,bC,if_false];rw[zG hx l (k+1)];cases l.findIdx? λc=>!Iv x c with
   |none=>rfl
   |some j=>
    have e:k+1+j=k+(j+1):=by omega
    simp only[aS,e]
theorem Ax6(hx:x.Ag.length<=1000)(l:List Int)(hl:l.length<=1000):Vd l x=some (l.filter (Iv x),x):=by
 refine cU ?_;unfold Vd Afr;rw[zG hx];cases hf:l.findIdx? λc=>!Iv x c with
 | none=>
  rw[cN]at hf;refine Ok.pure ?_;have:l.filter (Iv x)=l:=by
   rw[ck];intro c hc;have:=hf c hc;simpa using this
  rw[this]
 | some i=>
  rw[cw]at hf;obtain⟨hi,hp,hn⟩:=hf;have e0:cnt 0 (0+i)=(i:Int):=by rw[aI];exact Cn (by omega)
  simp only[e0,andThen,ab];refine c6 (λhc=>?_) (λ_=>?_)
  ·simp only[dA]at hc;omega
  have e1:w64 ((i:Int)+1)=(i:Int)+1:=Az (by omega);rw[e1];refine Ok.andThen (A:=λs=>0<=s.1/\s.1<=(l.length:Int)/\s.2.2.length=l.length/\s.2.2.take s.1.toNat=l.filter (Iv x)) (B:=λ(_:Unit)=>False) ?_ ?_ (λ_ h=>h.elim)
  ·refine cO (λs=>(0<=s.1/\s.1<s.2.1/\s.2.1<=(l.length:Int))/\s.2.2.length=l.length/\s.2.2.take s.1.toNat=(l.take s.2.1.toNat).filter (Iv x)/\s.2.2.drop s.2.1.toNat=l.drop s.2.1.toNat) (λs=>((l.length:Int)-s.2.1).toNat) _ _ ?_ ?_ ?_
   ·refine⟨by dsimp only;omega,rfl,?_,rfl⟩;dsimp only;have e2:((i:Int)+1).toNat=i+1:=by omega
    rw[e2,aE,Bm (ai hi),bm];have h1:(l.take i).filter (Iv x)=l.take i:=by
     rw[ck];intro c hc;obtain⟨j,hj,rfl⟩:=cf hc;simp only[aY]at hj;rw[List.getElem_take];have:=hn j (by omega);simpa using this
    have h2:Iv x l[i]=false:=by simpa using hp
    rw[h1];simp[h2]
   ·dsimp only;omega
   ·rintro⟨a,j,m⟩ ⟨⟨h1,h2,h3⟩,h4,h5,h6⟩;dsimp only at h1 h2 h3 h4 h5 h6;unfold Vb Adx;dsimp only;refine c6 (λhq=>?_) (λhq=>?_)
    ·simp only[dy]at hq;have e1:w64 (j+1)=j+1:=Az (by omega);have e2:w64 (a+1)=a+1:=Az (by omega);have e3:(j+1).toNat=j.toNat+1:=by omega
     have e4:(a+1).toNat=a.toNat+1:=by omega
     refine(cP (by omega) (by omega)).bind λy hy=>?_;have hyl:l[j.toNat]? = some y:=by
      have:=congrArg (·[0]?) h6;simp only[au,bx]at this;rw[←this];exact hy
     have hdrop:∀(q:List Int),q.drop j.toNat=l.drop j.toNat->q.drop (j.toNat+1)=l.drop (j.toNat+1):=λq hq=>by
      rw[←bK,hq,bK]
     rw[Av7 hx];simp only[ab,Bool.not_not];refine c6 (λhf=>?_) (λhf=>?_)
     ·refine(cP (by omega) (by omega)).bind λ_ _=>(cT (by omega) (by omega)).bind λz hz=>?_;rw[e1,e2];subst hz;refine c7 ⟨⟨by dsimp only;omega,by simpa using h4,?_,?_⟩,by dsimp only;omega⟩
      ·dsimp only;rw[e3,e4,Bm hyl,bm,←h5];rw[Bm (x:=y) (by rw[bI (by omega)])];simp[hf,List.take_set_of_le]
      ·dsimp only;rw[e3,List.drop_set_of_lt (by omega)];exact hdrop m h6
     ·rw[e1];refine c7 ⟨⟨by dsimp only;omega,h4,?_,?_⟩,by dsimp only;omega⟩
      ·dsimp only;rw[e3,Bm hyl,bm,←h5];simp[hf]
      ·dsimp only;rw[e3];exact hdrop m h6
    ·simp only[dz]at hq;have e:j.toNat=l.length:=by omega
     refine cS ⟨h1,by dsimp only;omega,h4,?_⟩;dsimp only;rw[h5,e,aJ]
  ·rintro⟨a,j,m⟩ ⟨h1,h2,h3,h4⟩;dsimp only at h1 h2 h3 h4 ⊢;have hc:(Ho m a.toNat ((Int.toNat (m.length:Int))-a.toNat) (0:Int)).length=l.length:=by
    simp[Ho];omega
   refine(Ok.bndI h1 (by omega) (by omega)).bind λ_ _=>(Ok.bndI (by omega) h1 (by rw[hc];omega)).bind λ_ _=>Ok.pure ?_;rw[←h4];unfold Ho;rw[Nat.sub_zero,cI (by simp;omega),List.take_take,Nat.min_self]
def Jq(b:Ab)(x:Ap):List Int:=(O6 b).filter (Iv x)
theorem P0(h:Ax b)(hc:c∈Jq b x):0<=c/\c<b.Ag.length:=Azr h (ay.1 hc).1
theorem Ab3(h:Ax b)(x:Ap):(Jq b x).length<=16:=by
 have h1:=aV (Iv x) (O6 b);have h2:=Ahv h;have h3:=h.col;unfold Jq;omega
def Xw(x:Ap):Nat:=(x.Am.headD 0).toNat
def I7(b:Ab)(x:Ap)(z:Ad×List Aw):List Int×List Aw:=Js b z.1 (Xw x) (Jq b x) (z.1.An,z.2)
def Rc(b:Ab)(x:Ap)(z:Ad×List Aw):List Bool×List Aw:=G3 b (Ck z.1 (I7 b x z).1) (Xw x) (Jq b x) (z.1.Ai,(I7 b x z).2)
def Nn(b:Ab)(z:Ad×List Aw)(x:Ap):Ad×List Aw:=
 if 0<x.Ae.length then (Ff (Ck z.1 (I7 b x z).1) (Rc b x z).1,(Rc b x z).2) else z
def Kl(b:Ab)(l:List Ap)(z:Ad×List Aw):Ad×List Aw:=l.foldl (Nn b) z
structure Abf(b:Ab)(x:Ap):Prop where
 cons:x.Ag.length<=16
 ne:x.Am≠[]
 bus:∀n,n∈x.Am->0<=n/\n<b.Am
theorem Aot(h:Ax b)(hx:x∈Cd b p):Abf b x:=by
 have hcl:=h.col;unfold Cd at hx;obtain⟨h1,h2⟩:=ay.1 hx;obtain⟨f,hf,rfl⟩:=an.1 h1;have hc:(isl b p f).Ag.length<=b.Ag.length:=Fb _ _;refine⟨by omega,λe=>?_,λn hn=>?_⟩
 ·unfold Jv at h2;rw[e]at h2;simp at h2
 ·obtain⟨k,hk,rfl⟩:=an.1 hn;have:=be.1 (ay.1 hk).1;omega
theorem Aed(hx:Abf b x):getI x.Am 0=some ((Xw x:Nat):Int)/\Xw x<b.Am.toNat:=by
 unfold Xw;cases hb:x.Am with
 |nil=>exact absurd hb hx.ne
 |cons n l=>
  have:=hx.bus n (by rw[hb];exact aj);simp only[List.headD_cons];refine⟨?_,by omega⟩;have e:(n.toNat:Int)=n:=by omega
  rw[e];rfl
theorem Aw9(h:Ax b)(hp:Av b p)(ha:acts.length<=1000) :
  Vj ⟨b,p,acts⟩=some ⟨b,(Kl b (Cd b p) (p,acts)).1,(Kl b (Cd b p) (p,acts)).2⟩/\Av b (Kl b (Cd b p) (p,acts)).1/\(Kl b (Cd b p) (p,acts)).2.length<=10000:=by
 have hil:=P2 b p;have hbu:=h.buses;have hcl:=h.col;have hol:=Ahv h;have key:Ok (Vj ⟨b,p,acts⟩) λy=>y=⟨b,(Kl b (Cd b p) (p,acts)).1,(Kl b (Cd b p) (p,acts)).2⟩/\Av b (Kl b (Cd b p) (p,acts)).1/\(Kl b (Cd b p) (p,acts)).2.length<=10000:=by
  unfold Vj;simp only[(Xe h).1,ab];have hi:vW b p=some (Cd b p):=Kt h hp;refine Ok.bind (P:=λy=>y=Cd b p) (cR hi rfl) λy hy=>?_;subst hy;refine Ok.andThen (A:=λs=>∃z:Ad×List Aw,s=(b.Am,b.Ah,b.Ae,b.Ag,b.Phase,b.Aq,z.1.Ai,z.1.Ae,z.1.An,z.1.Al,z.2)/\z=Kl b (Cd b p) (p,acts)/\Av b z.1/\z.2.length<=10000) (B:=λ(_:Unit)=>False) ?_ (λs hs=>?_) (λ_ h=>h.elim)
  ·refine c8 (I:=λj s=>∃z:Ad×List Aw,s=(b.Am,b.Ah,b.Ae,b.Ag,b.Phase,b.Aq,z.1.Ai,z.1.Ae,z.1.An,z.1.Al,z.2)/\z=Kl b ((Cd b p).take j) (p,acts)/\Av b z.1/\z.2.length<=1000+400*j) ⟨(p,acts),rfl,rfl,hp,by simpa using ha⟩ (λj x s hx hI=>?_) λs hI=>?_
   ·obtain⟨z,h0,h1,h2,h3⟩:=hI;subst h0;have hj:j<(Cd b p).length:=(aa.1 hx).1;have hin:=Aot h (ae hx);have hsucc:Kl b ((Cd b p).take (j+1)) (p,acts)=Nn b z x:=by
     rw[Bm hx,h1];unfold Kl;rw[bc];rfl
    have hc:=hin.cons;have hol2:=Ab3 h x;obtain⟨e0,hb0⟩:=Aed hin;unfold Aao;have ecl:Pp (O6 b)=some (O6 b):=by
     unfold Pp;rw[Hf (by omega)]
    rw[ecl];simp only[ab];rw[Ax6 (by omega) _ (by omega)];simp only[ab];refine c6 (λhq=>?_) (λhq=>?_)
    ·simp only[dy]at hq;rw[e0];simp only[ab];obtain⟨l1,l2,l3⟩:=Acd h h2 (acts:=z.2) (l:=Jq b x) (λc hc=>P0 h hc) (by omega) hb0;refine Ok.bind (P:=λy=>y=_) (cR l1 rfl) λy hy=>?_;subst hy;obtain⟨t1,t2,t3⟩:=Ahm h l2 (acts:=(I7 b x z).2) (l:=Jq b x) (λc hc=>P0 h hc) (by unfold I7;omega) hb0;refine Ok.bind (P:=λy=>y=_) (cR t1 rfl) λy hy=>c7 ?_;subst hy;have eS:Nn b z x=(Ff (Ck z.1 (I7 b x z).1) (Rc b x z).1,(Rc b x z).2):=by unfold Nn;rw[if_pos (by omega)]
     refine⟨(Ff (Ck z.1 (I7 b x z).1) (Rc b x z).1,(Rc b x z).2),rfl,by rw[hsucc,eS],t2,?_⟩;have t4:(Rc b x z).2.length<=(I7 b x z).2.length+24*(Jq b x).length:=t3;have l4:(I7 b x z).2.length<=z.2.length+(Jq b x).length:=l3;show (Rc b x z).2.length<=_;omega
    ·simp only[dz]at hq;have eS:Nn b z x=z:=by unfold Nn;rw[if_neg (by omega)]
     exact c7 ⟨z,rfl,by rw[hsucc,eS],h2,by omega⟩
   ·rw[aJ]at hI;obtain⟨z,h0,h1,h2,h3⟩:=hI;exact⟨z,h0,h1,h2,by omega⟩
  ·obtain⟨z,h0,h1,h2,h3⟩:=hs;subst h0;subst h1;exact Ok.pure ⟨rfl,h2,h3⟩
 obtain⟨r,e,h1,h2⟩:=key;rw[h1]at e;exact⟨e,h2⟩
def Azq(b:Ab)(p:Ad):Ad×List Aw:=Kl b (Cd b (Ur b p)) (Ur b p,Xr b p)
def Xd(b:Ab)(p:Ad):Ad:=(Azq b p).1
def F1(b:Ab)(p:Ad):List Aw:=(Azq b p).2
theorem Rh(h:Ax b)(hp:Av b p):Am2 b p=some (Xd b p,F1 b p,0)/\Av b (Xd b p)/\(F1 b p).length<=10000:=by
 have hbl:=h.brl;have hcl:=Adq b p;obtain⟨s1,s2,s3⟩:=Aw9 h (Aie hp) (acts:=Xr b p) (by omega);refine⟨?_,s2,s3⟩;unfold Am2 Afv Afu;rw[E7 h hp,Hp h hp];simp only[ab,dG,cond_false];rw[Auc h hp];simp only[ab];rw[s1];rfl
theorem Auv(h:Ax b){p:Ar}(hp:Av b p.Power)(h1:p.Ba.length<=1000)(h2:p.Bh.length<=10000000):Anb b p=some ⟨p,b,[],[]⟩:=by
 unfold Anb yC yB;rw[Hp h hp,Hf (by omega),Hf (by omega)];rfl
theorem Ow{α:Type}{f:Nat->α->Unit->Option (Ctl Unit Bool)}{l m:List α}{e:α->α->Bool}(he:∀x y,e x y=true->x=y)
  (hf:∀(j:Nat) x y,l[j]? = some x->m[j]? = some y->f j x ()=bif !e x y then some (.ret false) else some (.next ()))(hl:l.length=m.length) :
  Ok (andThen (foldI f l 0 ()) some λ_=>some true) λv=>v=true->l=m:=by
 refine Ok.andThen (A:=λ_=>l=m) (B:=λv=>v=false) ?_ (λ_ hs=>Ok.pure λ_=>hs) (λv hv=>Ok.pure λhh=>by rw[hv]at hh;cases hh);refine c8 (I:=λj _=>l.take j=m.take j) rfl (λj x _ hx hI=>?_) λ_ hI=>?_
 ·have hj:=(aa.1 hx).1;have hy:m[j]? = some (m[j]'(by omega)):=ai (by omega);rw[hf j x _ hx hy];refine c6 (λ_=>Ok.ret rfl) (λhq=>c7 ?_);have:=he _ _ (by simpa using hq);rw[Bm hx,Bm hy,hI,←this]
 grind
theorem A0r{l m:List Bool}(h:l.length<=1000):Ok (vV l m) λv=>v=true->l=m:=by
 unfold vV;refine c6 (λ_=>Ok.pure λhh=>by cases hh) (λhq=>?_);have hl:l.length=m.length:=by grind
 refine Ow (e:=λx y=>x==y) (λx y hh=>by simpa using hh) (λj x y hx hy=>?_) hl;have hj:=(aa.1 hx).1;unfold vU;rw[Cn (by omega),B1 hy];rfl
theorem A0q{m:List Int}(h:l.length<=1000):Ok (vR l m) λv=>v=true->l=m:=by
 unfold vR;refine c6 (λ_=>Ok.pure λhh=>by cases hh) (λhq=>?_);have hl:l.length=m.length:=by grind
 refine Ow (e:=λx y=>x==y) (λx y hh=>by simpa using hh) (λj x y hx hy=>?_) hl;have hj:=(aa.1 hx).1;unfold vQ;rw[Cn (by omega),B1 hy];rfl
theorem A0o{l m:List Aj}(h:l.length<=1000):Ok (vT l m) λv=>v=true->l=m:=by
 unfold vT;refine c6 (λ_=>Ok.pure λhh=>by cases hh) (λhq=>?_);have hl:l.length=m.length:=by grind
 refine Ow (e:=λx y=>(x.State==y.State)&&((x.Since==y.Since)&&((x.Aq==y.Aq)&&((x.Phase==y.Phase)&&true)))) (λx y hh=>?_) (λj x y hx hy=>?_) hl
 ·simp only[ac,dA]at hh;obtain⟨h1,h2,h3,h4,_⟩:=hh;cases x;cases y;simp_all
 ·have hj:=(aa.1 hx).1;unfold vS;rw[Cn (by omega),B1 hy];rfl
variable{l:List Aa}
theorem A0p{m:List Aa}(h:l.length<=1000):Ok (vP l m) λv=>v=true->l=m:=by
 unfold vP;refine c6 (λ_=>Ok.pure λhh=>by cases hh) (λhq=>?_);have hl:l.length=m.length:=by grind
 refine Ow (e:=λx y=>(x.Kind==y.Kind)&&((x.Number==y.Number)&&true)) (λx y hh=>?_) (λj x y hx hy=>?_) hl
 ·simp only[ac,dA]at hh;obtain⟨h1,h2,_⟩:=hh;cases x;cases y;simp_all
 ·have hj:=(aa.1 hx).1;unfold vO;rw[Cn (by omega),B1 hy];rfl
def Lj(p q:Ad):Bool:=(F99 p q).getD false
theorem Ahq(hp:Au9 p)(q:Ad):F99 p q=some (Lj p q)/\(Lj p q=true->p=q):=by
 have h1:=hp.c;have h2:=hp.s;have h3:=hp.l;have h4:=hp.k;have key:Ok (F99 p q) λv=>v=true->p=q:=by
  unfold F99;refine(A0r (l:=p.Ai) (m:=q.Ai) (by omega)).bind λv1 e1=>?_;cases v1 with
  |false=>exact Ok.pure λhh=>by simp at hh
  | true=>
   refine Ok.bind (P:=λv=>v=true->p.Ae=q.Ae) (A0o (by omega)) λv2 e2=>?_;cases v2 with
   |false=>exact Ok.pure λhh=>by simp at hh
   | true=>
    refine Ok.bind (P:=λv=>v=true->p.An=q.An) (A0q (by omega)) λv3 e3=>?_;cases v3 with
    |false=>exact Ok.pure λhh=>by simp at hh
    |true=>
     refine Ok.bind (P:=λv=>v=true->p.Al=q.Al) (A0p (by omega)) λv4 e4=>Ok.pure λhh=>?_;have w1:=e1 rfl;have w2:=e2 rfl;have w3:=e3 rfl;have w4:=e4 (by simpa using hh);cases p;cases q;simp_all
 obtain⟨r,e,hr⟩:=key;have:Lj p q=r:=by unfold Lj;rw[e];rfl
 rw[this];exact⟨e,hr⟩
def ap(p:Ad)(x:Aw):Ad:=if x.Kind=2 then Ff p (p.Ai.set x.Unit.toNat false) else Ck p (p.An.set x.Unit.toNat x.Value)
def Ani(b:Ab)(x:Aw):Prop:=(x.Kind=2/\0<=x.Unit/\x.Unit<b.Ah.length)\/(x.Kind=5/\(0<=x.Unit/\x.Unit<b.Ag.length)/\0<=x.Value/\x.Value<=(b.Ag.getD x.Unit.toNat default).Load)
theorem Awv(hp:Av b p){x:Aw}(hx:Ani b x):Av b (ap p x):=by
 unfold ap;rcases hx with⟨hk,_⟩|⟨hk,h1,h2⟩
 ·rw[if_pos hk];exact Akm hp _
 ·rw[if_neg (by omega)];exact yL hp h2
def Fz(b:Ab)(p:Ad)(z:Ad×List Aw):Prop:=z.2.foldl ap p=⟨z.1.Ai,p.Ae,z.1.An,p.Al⟩/\∀x,x∈z.2->Ani b x
theorem Aei{p q:Ad}:∀(l:List Int)(C:List Bool),q=Ff p C->(Mx l).foldl ap q=Ff p (Ji C l)
 | [],C,hq=>hq
 |i::l,C,hq=>by
  subst hq;exact Aei l (C.set i.toNat false) rfl
theorem qA(hz:Fz b p z)(q:Ak->Bool)(S:List Aj):Fz b p (⟨acC b z.1.Ai q,S,z.1.An,z.1.Al⟩,z.2++acA b z.1.Ai q):=by
 refine⟨?_,λx hx=>?_⟩
 ·dsimp only;rw[bc,hz.1];exact Aei (p:=⟨z.1.Ai,p.Ae,z.1.An,p.Al⟩) (Ed b z.1.Ai q b.Ah.length) z.1.Ai rfl
 ·rcases am.1 hx with hx|hx
  ·exact hz.2 x hx
  ·obtain⟨i,hi,rfl⟩:=an.1 hx;obtain⟨k,rfl,hk,_⟩:=M0.1 hi;exact .inl ⟨rfl,by dsimp only;omega,by dsimp only;omega⟩
theorem A4l{q r:Ad}{l:List Aw}(hz:Fz b p (q,l))(h1:r.Ai=q.Ai)(h2:r.An=q.An):Fz b p (r,l):=by
 refine⟨?_,hz.2⟩;have:=hz.1;grind
theorem Anp{b:Ab}(h:Ax b){p q:Ad}(n:Nat):∀(l:List Int)(z:List Int×List Aw),(∀c,c∈l->0<=c/\c<b.Ag.length)->Av b (Ck q z.1)->Fz b p (Ck q z.1,z.2)->Fz b p (Ck q (Js b q n l z).1,(Js b q n l z).2)
 | [],_,_,_,hz=>hz
 | c :: l, z, hl, hs, hz => by
  have hin:=hl c aj;have hok:=Ah0 (n:=n) h hs hin.1 hin.2;refine Anp h n l (O9 b q n z c) (λd hd=>hl d (ak _ hd)) hok ?_;unfold O9 at hok ⊢;split
  ·rename_i hq;rw[if_pos hq]at hok;obtain⟨_,w2,w3,_⟩:=Ace h hok hin.1 hin.2;have hlen:z.1.length=b.Ag.length:=hs.nli;have ev:∀v:Int,(z.1.set c.toNat v).getD c.toNat 0=v:=λv=>by grind
   have w2':0<=(z.1.set c.toNat (z.1.getD c.toNat 0-H8 b (Ck q z.1) n c)).getD c.toNat 0:=w2;have w3':(z.1.set c.toNat (z.1.getD c.toNat 0-H8 b (Ck q z.1) n c)).getD c.toNat 0<=(b.Ag.getD c.toNat default).Load:=w3;rw[ev]at w2' w3';refine⟨?_,λx hx=>?_⟩
   ·dsimp only;rw[bc,hz.1];rfl
   ·rcases am.1 hx with hx|hx
    ·exact hz.2 x hx
    ·simp only[aC]at hx;subst hx;exact .inr ⟨rfl,hin,w2',w3'⟩
  ·exact hz
theorem Ahn{b:Ab}{p q:Ad}(n:Nat):∀(l:List Int)(z:List Bool×List Aw),Fz b p (Ff q z.1,z.2)->Fz b p (Ff q (G3 b q n l z).1,(G3 b q n l z).2)
 | [],_,hz=>hz
 |c::l,z,hz=>by
  refine Ahn n l (Oe b q n z c) ?_;unfold Oe;split
  ·exact qA (z:=(Ff q z.1,z.2)) hz (isC c) q.Ae
  ·exact hz
theorem Axc(h:Ax b)(hx:Abf b x)(hs:Av b z.1)(ha:z.2.length<=10000)(hz:Fz b p z):Av b (Nn b z x).1/\Fz b p (Nn b z x)/\(Nn b z x).2.length<=z.2.length+400:=by
 have hol2:=Ab3 h x;obtain⟨e0,hb0⟩:=Aed hx;unfold Nn;split
 ·obtain⟨_,l2,l3⟩:=Acd h hs (acts:=z.2) (l:=Jq b x) (λc hc=>P0 h hc) (by omega) hb0;obtain⟨_,t2,t3⟩:=Ahm h l2 (acts:=(I7 b x z).2) (l:=Jq b x) (λc hc=>P0 h hc) (by unfold I7;omega) hb0;have t4:(Rc b x z).2.length<=(I7 b x z).2.length+24*(Jq b x).length:=t3;have l4:(I7 b x z).2.length<=z.2.length+(Jq b x).length:=l3;refine⟨t2,?_,by dsimp only;omega⟩;have hl:Fz b p (Ck z.1 (I7 b x z).1,(I7 b x z).2):=Anp h (Xw x) (Jq b x) (z.1.An,z.2) (λc hc=>P0 h hc) hs hz;exact Ahn (Xw x) (Jq b x) (z.1.Ai,(I7 b x z).2) hl
 ·exact⟨hs,hz,by omega⟩
theorem Ahr{b:Ab}(h:Ax b){p:Ad}:∀(l:List Ap)(z:Ad×List Aw),(∀x,x∈l->Abf b x)->Av b z.1->z.2.length+400*l.length<=10000->Fz b p z->Fz b p (Kl b l z)
 | [],_,_,_,_,hz=>hz
 |x::l,z,hl,hs,ha,hz=>by
  rw[aR]at ha;obtain⟨h1,h2,h3⟩:=Axc h (hl x aj) hs (by omega) hz;exact Ahr h l (Nn b z x) (λy hy=>hl y (ak _ hy)) h1 (by omega) h2
theorem A1n(p:Ad):Fz b p (Ur b p,Xr b p):=by
 have h0:Fz b p (p,[]):=⟨rfl,λx hx=>by cases hx⟩;have h1:=qA h0 (E2 p) p.Ae;have h2:=qA h1 (Gx b (Us b p)) p.Ae;exact A4l h2 rfl rfl
theorem Azp(h:Ax b)(hp:Av b p):Fz b p (Xd b p,F1 b p):=by
 have hil:=P2 b (Ur b p);have hbu:=h.buses;have hbl:=h.brl;have hcl:=Adq b p;exact Ahr h (Cd b (Ur b p)) (Ur b p,Xr b p) (λx hx=>Aot h hx) (Aie hp) (by dsimp only;omega) (A1n p)
def Gu:List Aw->Ad->List Ad
 | [],_=>[]
 |x::l,p=>ap p x::Gu l (ap p x)
theorem Oq:∀(l:List Aw)(p:Ad),(Gu l p).length=l.length
 | [],_=>rfl
 |x::l,p=>by simp[Gu,Oq l]
theorem Ym:∀(l:List Aw)(x:Aw)(p:Ad),Gu (l++[x]) p=Gu l p++[ap (l.foldl ap p) x]
 | [],_,_=>rfl
 |y::l,x,p=>by
  show ap p y::Gu (l++[x]) (ap p y)=_;rw[Ym l x];rfl
def Ci(b:Ab)(p:Ad)(t:Int)(a:Aw):Ad×Int:=(vM b p t a).getD default
theorem Aio(h:Ax b)(hp:Av b p)(t:Int)(a:Aw):vM b p t a=some (Ci b p t a)/\((Ci b p t a).2≠0\/Av b (Ci b p t a).1):=by
 grind[Ok,Ci,A2r]
def Pg(b:Ab)(p:Ad)(t:Int)(a:Aw):Int:=if a.Kind=7 then 1 else (Ci b p t a).2
def Nt(b:Ab)(p:Ad)(t:Int)(a:Aw):Ad:=(Ci b p t a).1
def doP(b:Ab)(p:Ad)(t:Int)(a:Aw):Ad:=if Pg b p t a=0 then Xd b (Nt b p t a) else p
def doE(b:Ab)(p:Ad)(t:Int)(a:Aw):List Bv:=⟨t,a,Pg b p t a⟩::if Pg b p t a=0 then (F1 b (Nt b p t a)).map (λx=>⟨t,x,0⟩) else []
def Rm(b:Ab)(p:Ad)(t:Int)(a:Aw):Ad:=(F1 b (Nt b p t a)).foldl ap (Nt b p t a)
def doS(b:Ab)(p:Ad)(t:Int)(a:Aw):List Ad:=
 if Pg b p t a=0 then [Nt b p t a]++Gu (F1 b (Nt b p t a)) (Nt b p t a)++(if Lj (Rm b p t a) (doP b p t a)=true then [] else [doP b p t a]) else []
theorem Adg(h:Ax b)(hp:Av b p){t:Int}{a:Aw}(he:Pg b p t a=0):Av b (Nt b p t a)/\(Ci b p t a).2=0/\a.Kind≠7:=by
 unfold Pg at he;by_cases hk:a.Kind=7
 ·rw[if_pos hk]at he;omega
 ·rw[if_neg hk]at he;rcases(Aio h hp t a).2 with h1|h1
  ·exact absurd he h1
  ·exact⟨h1,he,hk⟩
theorem Apn(h:Ax b)(hp:Av b p)(t:Int)(a:Aw):Av b (doP b p t a):=by
 unfold doP;split
 ·rename_i he;exact(Rh h (Adg h hp he).1).2.1
 ·exact hp
theorem Ro(h:Ax b)(hp:Av b p)(h1:r.states.length<=10000000):Od r p=some ⟨r.Bi,r.Ao,r.events,r.states++[p]⟩:=by
 refine cU ?_;unfold Od;rw[Hp h hp];simp only[ab];exact(cQ (by simp;omega)).bind λs hs=>Ok.pure (by rw[hs])
theorem Ahx(h1:r.events.length<=10000000)(a:Aw)(e:Int):Vl r a e=some ⟨r.Bi,r.Ao,r.events++[⟨r.Bi.Time,a,e⟩],r.states⟩:=by
 refine cU ?_;unfold Vl;exact(cQ (by simp;omega)).bind λs hs=>Ok.pure (by rw[hs])
theorem qE{b:Ab}:∀(l:List Aw){p:Ad},Av b p->(∀x,x∈l->Ani b x)->Av b (l.foldl ap p)
 | [],_,hp,_=>hp
 |x::l,p,hp,hl=>qE l (Awv hp (hl x aj)) λy hy=>hl y (ak _ hy)
theorem A36(h:Ax b){ros:List A_}{evs ev:List Bv}{sts:List Ad}(hp:Av b P)(h1:ev.length<=1000000)(h2:sts.length<=1000000)(a:Aw) :
  jP ⟨⟨T,P,ros,evs⟩,b,ev,sts⟩ a=some ⟨⟨T,doP b P T a,ros,evs⟩,b,ev++doE b P T a,sts++doS b P T a⟩:=by
 obtain⟨ha,_⟩:=Aio h hp T a;refine cU ?_;unfold jP;simp only[ha,ab];refine Ok.andThen (A:=λs=>s=Pg b P T a) (B:=λ(_:Unit)=>False) ?_ (λs hs=>?_) (λ_ h=>h.elim)
 ·unfold Aav Pg;refine c6 (λhq=>cY ?_) (λhq=>cY ?_)
  ·rw[if_pos (by simpa using hq)]
  ·rw[if_neg (by simpa using hq)]
 subst hs;rw[Ahx (by dsimp only;omega)];simp only[ab];refine c6 (λhq=>Ok.pure ?_) (λhq=>?_)
 ·have he:¬Pg b P T a=0:=by simpa using hq
  unfold doP doE doS;rw[if_neg he,if_neg he,if_neg he];simp
 have he:Pg b P T a=0:=by simpa using hq
 obtain⟨hn,_,_⟩:=Adg h hp he;have hn':Av b (Ci b P T a).1:=hn;rw[Ro h hn' (by dsimp only;omega)];simp only[ab];obtain⟨p1,p2,p3⟩:=Rh h hn';rw[p1];simp only[ab];have htr:=Azp h hn';have eP:doP b P T a=Xd b (Ci b P T a).1:=by unfold doP Nt;rw[if_pos he]
 have eE:doE b P T a=⟨T,a,0⟩::(F1 b (Ci b P T a).1).map (λx=>⟨T,x,0⟩):=by unfold doE Nt;rw[if_pos he,he]
 have eL:Rm b P T a=(F1 b (Ci b P T a).1).foldl ap (Ci b P T a).1:=rfl;refine Ok.andThen (A:=λs=>∃q:Ad,q=Rm b P T a/\s=(T,b.Am,b.Ah,b.Ae,b.Ag,b.Phase,b.Aq,P.Ai,P.Ae,P.An,P.Al,ros,evs,q.Ai,ev++doE b P T a,sts++([(Ci b P T a).1]++Gu (F1 b (Ci b P T a).1) (Ci b P T a).1),q.An)) (B:=λ(_:Unit)=>False) ?_ (λs hs=>?_) (λ_ h=>h.elim)
 ·refine c8 (I:=λj s=>∃q:Ad,q=((F1 b (Ci b P T a).1).take j).foldl ap (Ci b P T a).1/\(q.Ae=(Ci b P T a).1.Ae/\q.Al=(Ci b P T a).1.Al)/\s=(T,b.Am,b.Ah,b.Ae,b.Ag,b.Phase,b.Aq,P.Ai,P.Ae,P.An,P.Al,ros,evs,q.Ai,ev++(⟨T,a,0⟩::((F1 b (Ci b P T a).1).take j).map (λx=>(⟨T,x,0⟩:Bv))),sts++([(Ci b P T a).1]++Gu ((F1 b (Ci b P T a).1).take j) (Ci b P T a).1),q.An)) ⟨(Ci b P T a).1,rfl,⟨rfl,rfl⟩,?_⟩ (λj x s hx hI=>?_) λs hI=>?_
  ·simp[Gu,he]
  ·obtain⟨q,hq1,⟨hq2,hq3⟩,rfl⟩:=hI;have hj:j<(F1 b (Ci b P T a).1).length:=(aa.1 hx).1;have hin:=htr.2 x (ae hx);have hqok:Av b q:=by
    rw[hq1];exact qE _ hn' λy hy=>htr.2 y (bz hy)
   have hapok:=Awv hqok hin;have hcl:=hqok.ncl;have hli:=hqok.nli;unfold Aaw;refine Ok.bind (P:=λy=>y=_) (cR (Ahx (r:=⟨⟨T,P,ros,evs⟩,b,ev++(⟨T,a,0⟩::((F1 b (Ci b P T a).1).take j).map (λx=>(⟨T,x,0⟩:Bv))),sts++([(Ci b P T a).1]++Gu ((F1 b (Ci b P T a).1).take j) (Ci b P T a).1)⟩) (by simp;omega) x 0) rfl) λy hy=>?_;subst hy;have hfold:((F1 b (Ci b P T a).1).take (j+1)).foldl ap (Ci b P T a).1=ap q x:=by rw[Bm hx,bc,←hq1];rfl
   have hint:Gu ((F1 b (Ci b P T a).1).take (j+1)) (Ci b P T a).1=Gu ((F1 b (Ci b P T a).1).take j) (Ci b P T a).1++[ap q x]:=by rw[Bm hx,Ym,←hq1]
   refine c6 (λhk=>?_) (λhk=>?_)
   ·have hk2:x.Kind=2:=by simpa using hk
    have hx1:0<=x.Unit/\x.Unit<b.Ah.length:=by
     rcases hin with⟨_,h3⟩|⟨h3,_⟩
     ·exact h3
     ·omega
    have eA:ap q x=⟨q.Ai.set x.Unit.toNat false,(Ci b P T a).1.Ae,q.An,(Ci b P T a).1.Al⟩:=by
     unfold ap;rw[if_pos hk2,←hq2,←hq3];rfl
    refine(cP (l:=q.Ai) hx1.1 (by omega)).bind λ_ _=>(cT (l:=q.Ai) hx1.1 (by omega)).bind λC hC=>?_;subst hC;refine Ok.bind (P:=λy=>y=_) (cR (Ro h (r:=⟨⟨T,P,ros,evs⟩,b,(ev++(⟨T,a,0⟩::((F1 b (Ci b P T a).1).take j).map (λx=>(⟨T,x,0⟩:Bv))))++[⟨T,x,0⟩],sts++([(Ci b P T a).1]++Gu ((F1 b (Ci b P T a).1).take j) (Ci b P T a).1)⟩) (p:=⟨q.Ai.set x.Unit.toNat false,(Ci b P T a).1.Ae,q.An,(Ci b P T a).1.Al⟩) (by rw[←eA];exact hapok) (by simp[Oq];omega)) rfl) λy hy=>c7 ?_;subst hy;refine⟨ap q x,hfold.symm,by rw[eA];exact⟨rfl,rfl⟩,?_⟩;rw[hint,eA,Bm hx];simp
   ·have hk2:¬x.Kind=2:=by simpa using hk
    have hx1:0<=x.Unit/\x.Unit<b.Ag.length:=by
     rcases hin with⟨h3,_⟩|⟨_,h3,_⟩
     ·omega
     ·exact h3
    have eA:ap q x=⟨q.Ai,(Ci b P T a).1.Ae,q.An.set x.Unit.toNat x.Value,(Ci b P T a).1.Al⟩:=by
     unfold ap;rw[if_neg hk2,←hq2,←hq3];rfl
    refine(cP (l:=q.An) hx1.1 (by omega)).bind λ_ _=>(cT (l:=q.An) hx1.1 (by omega)).bind λC hC=>?_;subst hC;refine Ok.bind (P:=λy=>y=_) (cR (Ro h (r:=⟨⟨T,P,ros,evs⟩,b,(ev++(⟨T,a,0⟩::((F1 b (Ci b P T a).1).take j).map (λx=>(⟨T,x,0⟩:Bv))))++[⟨T,x,0⟩],sts++([(Ci b P T a).1]++Gu ((F1 b (Ci b P T a).1).take j) (Ci b P T a).1)⟩) (p:=⟨q.Ai,(Ci b P T a).1.Ae,q.An.set x.Unit.toNat x.Value,(Ci b P T a).1.Al⟩) (by rw[←eA];exact hapok) (by simp[Oq];omega)) rfl) λy hy=>c7 ?_;subst hy;refine⟨ap q x,hfold.symm,by rw[eA];exact⟨rfl,rfl⟩,?_⟩;rw[hint,eA,Bm hx];simp
  ·obtain⟨q,hq1,_,rfl⟩:=hI;rw[aJ]at hq1 ⊢;exact⟨q,hq1,by rw[eE]⟩
 ·obtain⟨q,hq,rfl⟩:=hs;have hqok:Av b q:=by rw[hq,eL];exact qE _ hn' htr.2
  have hqS:q=⟨q.Ai,(Ci b P T a).1.Ae,q.An,(Ci b P T a).1.Al⟩:=by
   have h3:=htr.1;rw[←eL,←hq]at h3;rw[h3]
  have hsm:=Ahq (hqok.lens h) (Xd b (Ci b P T a).1);have hsm1:=hsm.1;rw[hqS]at hsm1;have e6:Lj ⟨q.Ai,(Ci b P T a).1.Ae,q.An,(Ci b P T a).1.Al⟩ (Xd b (Ci b P T a).1)=Lj (Rm b P T a) (doP b P T a):=by rw[←hqS,hq,eP]
  refine Ok.bind (P:=λy=>y=Lj (Rm b P T a) (doP b P T a)) (cR hsm1 e6) λy hy=>?_;subst hy;have eD:doS b P T a=[(Ci b P T a).1]++Gu (F1 b (Ci b P T a).1) (Ci b P T a).1++(if Lj (Rm b P T a) (doP b P T a)=true then [] else [doP b P T a]):=by unfold doS Nt;rw[if_pos he]
  cases hsb:Lj (Rm b P T a) (doP b P T a) with
  |false=>
   rw[hsb]at eD;refine Ok.bind (P:=λy=>y=_) (cR (Ro h (r:=⟨⟨T,P,ros,evs⟩,b,ev++doE b P T a,sts++([(Ci b P T a).1]++Gu (F1 b (Ci b P T a).1) (Ci b P T a).1)⟩) p2 (by simp[Oq];omega)) rfl) λy hy=>Ok.pure ?_;subst hy;rw[eD,eP];simp
  |true=>
   rw[hsb]at eD;refine Ok.pure ?_;rw[eD,eP];simp
set_option linter.unusedVariables false
theorem Axp(hs:A1 s):Ok (vH s) λy=>A1 y.2:=by
 unfold vH;refine(Ok.mkI (by omega) (by omega)).bind λl hl=>?_;subst hl;refine Ok.andThen (A:=λz=>A1 ⟨z.1,z.2.1⟩) (B:=λ(_:Unit)=>False) ?_ (λz hz=>Ok.pure hz) (λ_ h=>h.elim);refine c8 (I:=λ_ z=>A1 ⟨z.1,z.2.1⟩/\z.2.2.length=12) ⟨hs,by simp⟩ (λj x z hx hz=>?_) λz hz=>hz.1;have hj:=(aa.1 hx).1;simp only[List.length_replicate]at hj;have hj2:j<12:=hj;unfold Ajb;rw[Cn (by omega)];refine(Cx hz.1 _ (by simp) (by simp)).bind λy hy=>(cP (by omega) (by omega)).bind λ_ _=>(cT (by omega) (by omega)).bind λw hw=>c7 ⟨hy.1,?_⟩;rw[hw,bl];exact hz.2
theorem Xo(hs:A1 s):Ok (vX s) λy=>A1 y.2:=by
 grind[vX,Ok.bind,Axp,Ok.pure]
theorem pick(hs:A1 s)(l:List Int)(h:1<=l.length)(h1:l.length<=1000):Ok (F20 s l) λy=>A1 y.2:=(Cx hs l h h1).mono λ_ h=>h.1
theorem Axy(hs:A1 s):Ok (F82 s) λy=>A1 y.2:=by
 unfold F82;exact(Xo hs).bind λa ha=>(Xo ha).bind λb hb=>(Xo hb).bind λc hc=>(pick hc _ (by simp) (by simp)).bind λd hd=>(pick hd _ (by simp) (by simp)).bind λe he=>(pick he _ (by simp) (by simp)).bind λf hf=>(pick hf _ (by simp) (by simp)).bind λg hg=>Ok.pure hg
theorem Axe(hs:A1 s){n:Int}(hn:0<=n/\n<=8):Ok (F86 s n) λy=>A1 y.2:=by
 unfold F86;rw[Az (by omega)];refine(C6 hs (n+1) (by omega) (by omega)).bind λk hk=>?_;refine Ok.andThen (A:=λz=>A1 ⟨z.2.1,z.2.2.1⟩) (B:=λ(_:Unit)=>False) ?_ (λz hz=>Ok.pure hz) (λ_ h=>h.elim);have hk2:=hk.2;refine cO (λz=>(0<=z.1/\z.1+(z.2.2.2.length:Int)<=n)/\A1 ⟨z.2.1,z.2.2.1⟩) (λz=>z.1.toNat) _ _ ⟨by simp;omega,hk.1⟩ (by dsimp only;omega) ?_;rintro⟨k,L,a,l⟩ ⟨⟨h1,h2⟩,h3⟩;dsimp only at h1 h2 h3;unfold Ara Avu;refine c6 (λhc=>?_) (λ_=>cS h3);simp only[dy]at hc;refine Ok.bind (P:=λy=>A1 y.2) ((C6 h3 4 (by omega) (by omega)).bind λu hu=>(pick hu.1 _ (by simp) (by simp)).bind λv hv=>(pick hv _ (by simp) (by simp)).bind λw hw=>(pick hw _ (by simp) (by simp)).bind λx hx=>Ok.pure hx) λy hy=>(cQ (by simp;omega)).bind λm hm=>c7 ?_;subst hm;dsimp only;rw[Az (n:=k-1) (by omega)];exact⟨⟨by simp;omega,hy⟩,by omega⟩
theorem Atw(hs:A1 s):Ok (F87 s) λy=>A1 y.2:=by
 unfold F87;exact(pick hs _ (by simp) (by simp)).bind λa ha=>(pick ha _ (by simp) (by simp)).bind λb hb=>(pick hb _ (by simp) (by simp)).bind λc hc=>(pick hc _ (by simp) (by simp)).bind λd hd=>(pick hd _ (by simp) (by simp)).bind λe he=>(pick he _ (by simp) (by simp)).bind λf hf=>(pick hf _ (by simp) (by simp)).bind λg hg=>(pick hg _ (by simp) (by simp)).bind λi hi=>(pick hi _ (by simp) (by simp)).bind λj hj=>Ok.pure hj
theorem Apw(hs:A1 s):Ok (Am7 s) λy=>A1 y.2:=by
 unfold Am7;exact(pick hs _ (by simp) (by simp)).bind λa ha=>(pick ha _ (by simp) (by simp)).bind λb hb=>(pick hb _ (by simp) (by simp)).bind λc hc=>(pick hc _ (by simp) (by simp)).bind λd hd=>Ok.pure hd
theorem Azt(hs:A1 s):Ok (F88 s) λy=>A1 y.2:=by
 unfold F88 F79;refine Ok.bind (P:=λy=>A1 y.2) ((C6 hs 3 (by omega) (by omega)).bind λa ha=>(cP ha.2.1 (by have:=ha.2.2;simp;omega)).bind λt _=>Ok.pure ha.1) λb hb=>?_;exact(Fe hb 1 3 (by omega) (by omega) (by omega)).bind λc hc=>(Apw hc.1).bind λd hd=>(pick hd _ (by simp) (by simp)).bind λe he=>Ok.pure he
theorem Au1(hs:A1 s):Ok (F90 s) λy=>A1 y.2:=by
 unfold F90;exact(pick hs _ (by simp) (by simp)).bind λa ha=>Ok.pure ha
theorem Aoo{k:Int}(h0:0<=k)(h1:k<=4):Ok (Aj5 [IntKind.wrap .u8 (w64 (97+k))]) λs=>s.size=1:=by
 have h:k=0\/k=1\/k=2\/k=3\/k=4:=by omega
 rcases h with rfl|rfl|rfl|rfl|rfl
 ·exact⟨⟨#[97]⟩,by kernel_rfl,rfl⟩
 ·exact⟨⟨#[98]⟩,by kernel_rfl,rfl⟩
 ·exact⟨⟨#[99]⟩,by kernel_rfl,rfl⟩
 ·exact⟨⟨#[100]⟩,by kernel_rfl,rfl⟩
 ·exact⟨⟨#[101]⟩,by kernel_rfl,rfl⟩
theorem Axa(hs:A1 s):Ok (F89 s) λy=>A1 y.2:=by
 unfold F89;refine Ok.andThen (A:=λz=>A1 ⟨z.2.1,z.2.2.1⟩) (B:=λ(_:Unit)=>False) ?_ (λz hz=>Ok.pure hz) (λ_ h=>h.elim);refine cO (λz=>(0<=z.1/\z.1<=5/\(z.2.2.2.length:Int)<=z.1)/\A1 ⟨z.2.1,z.2.2.1⟩) (λz=>(5-z.1).toNat) _ _ ⟨by simp,hs⟩ (by simp) ?_;rintro⟨k,L,a,l⟩ ⟨⟨h1,h2,h3⟩,h4⟩;dsimp only at h1 h2 h3 h4;unfold Aq9;refine(C6 h4 5 (by omega) (by omega)).bind λu hu=>c6 (λhc=>?_) (λ_=>cS hu.1);have hu2:=hu.2;simp only[Awh,az,dy,dA]at hc;refine c6 (λ_=>cS hu.1) (λ_=>?_);have hk:k<=4:=by omega
 refine(Aoo h1 hk).bind λt ht=>?_;have hcat:nzI (Ads (⟨#[115]⟩:ByteArray) t)=some ():=by
  unfold Ads;rw[ht];rfl
 refine Ok.bind (P:=λ_=>True) (cR hcat trivial) λ_ _=>(pick hu.1 _ (by simp) (by simp)).bind λv hv=>(Fe hv 1 3 (by omega) (by omega) (by omega)).bind λw hw=>(Aiq hw.1 (by omega) (by omega)).bind λx hx=>(cQ (by simp;omega)).bind λm hm=>c7 ?_;subst hm;dsimp only;rw[Az (n:=k+1) (by omega)];exact⟨⟨by simp;omega,hx.1⟩,by omega⟩
structure O2(v:A9):Prop where
 ship:Jf v.Ship
 Ao:Ax v.Board
 table:We v.Table
 des:O3 v.Design
theorem Ax.thr(h:Ax b){l:List A7}(hl:l.length=b.Ag.length)(hc:∀(i:Nat) x y,b.Ag[i]? = some x->l[i]? = some y->y=⟨x.Load,x.Least,x.B2,y.Thruster,x.Needs⟩ /\ -1<=y.Thruster/\y.Thruster<=7):Ax ⟨b.Am,b.Ah,b.Ae,l,b.Phase,b.Aq⟩ where
 buses:=h.buses
 brl:=h.brl
 sol:=h.sol
 col:=by dsimp only;rw[hl];exact h.col
 phase:=h.phase
 freq:=h.freq
 br:=by dsimp only;rw[hl];exact h.br
 one:=h.one
 any:=by dsimp only;rw[hl];exact h.any
 nodup:=h.nodup
 so:=h.so
 co i y hy:=by
  dsimp only at hy;have hi:=(aa.1 hy).1;have hx:b.Ag[i]? = some (b.Ag[i]'(by omega)):=ai (by omega);obtain⟨e,h1⟩:=hc i _ y hx hy;obtain⟨c1,c2,c3,c4,c5⟩:=h.co i _ hx;rw[e];exact⟨c1,c2,c3,h1,c5⟩
theorem Ann(h:Ax b){x:B3}(hx:x.A4.length<=7)(hs:A1 s)(t1 t2:Af) :
  Ok (whileN (Aez (x,t1) (b,t2)) 1152921504606846976 (0,s.L,s.At,b.Ag)) (Ep (λz=>Ax ⟨b.Am,b.Ah,b.Ae,z.2.2.2,b.Phase,b.Aq⟩/\z.2.2.2.length=b.Ag.length/\A1 ⟨z.2.1,z.2.2.1⟩) λ(_:Unit)=>False):=by
 have hcl:=h.col;refine cO (λz=>(0<=z.1/\z.1<=(b.Ag.length:Int))/\A1 ⟨z.2.1,z.2.2.1⟩/\z.2.2.2.length=b.Ag.length/\∀(i:Nat) x y,b.Ag[i]? = some x->z.2.2.2[i]? = some y->y=⟨x.Load,x.Least,x.B2,y.Thruster,x.Needs⟩ /\ -1<=y.Thruster/\y.Thruster<=7) (λz=>((b.Ag.length:Int)-z.1).toNat) _ _ ⟨by dsimp only;omega,hs,rfl,λi x y hx hy=>?_⟩ (by dsimp only;omega) ?_
 ·dsimp only at hy;rw[hx]at hy;cases hy;exact⟨rfl,(h.co i x hx).2.2.2.1⟩
 rintro⟨k,L,a,l⟩ ⟨⟨h1,h2⟩,h3,h4,h5⟩;dsimp only at h1 h2 h3 h4 h5;unfold Aez;refine c6 (λhc=>?_) (λ_=>cS ⟨h.thr h4 h5,h4,h3⟩);simp only[Awr,dy]at hc;dsimp only;rw[Az (n:=(x.A4.length:Int)-1) (by omega),Az (n:=k+1) (by omega)];refine(Fe h3 (-1) _ (by omega) (by omega) (by omega)).bind λu hu=>(cP (by omega) (by omega)).bind λc hc2=>(cT (by omega) (by omega)).bind λm hm=>c7 ?_;subst hm;refine⟨⟨by dsimp only;omega,hu.1,by simpa using h4,λi x y hx hy=>?_⟩,by dsimp only;omega⟩;grind
theorem zR(hs:A1 s):Ok (F43 s) λy=>O2 y.1/\A1 y.2:=by
 unfold F43;refine(Axy hs).bind λy1 h1=>(Au5 h1 (n:=2) (by omega)).bind λy3 h3=>(Avy h3.2).bind λy5 h5=>(Au4 h5.2).bind λy7 h7=>(Axe h7.2 (n:=3) (by omega)).bind λy9 h9=>(Atw h9).bind λy11 h11=>(pick h11 _ (by simp) (by simp)).bind λy13 h13=>(Azt h13).bind λy15 h15=>(Axa h15).bind λy17 h17=>?_;refine(Fe h17 (-50) 50 (by omega) (by omega) (by omega)).bind λy19 h19=>(Fe h19.1 (-50) 50 (by omega) (by omega) (by omega)).bind λy21 h21=>(Au1 h21.1).bind λy23 h23=>?_;have hth:=h3.1.2;refine(Ann h5.1.ok (x:=y3.1) (by omega) h23 y3.2 y5.2).andThen (λz hz=>?_) (λ_ h=>h.elim);refine(Anm (C:=[0,(y5.1.Ae.length:Int),(y5.1.Ah.length:Int),y5.1.Am,(z.2.2.2.length:Int),(y3.1.A4.length:Int),(y9.1.length:Int),0,0,2]) (by simp) rfl hz.2.2).andThen (λw hw=>?_) (λ_ h=>h.elim);have hwl:=hw.1.2.1;refine(yW hw.1.1 (by omega) hw.2).bind λy36 h36=>(Yo hw.1.1 (by omega) h36.2).bind λy38 h38=>Ok.pure ⟨⟨h3.1.1,hz.1,h7.1,⟨hw.1.1,hw.1.ptOk,by dsimp only;omega,h36.1,h38.1⟩⟩,h38.2⟩
def Px:List Aa:=[(⟨1,0⟩:Aa),(⟨1,1⟩:Aa),(⟨5,0⟩:Aa),(⟨5,1⟩:Aa),(⟨6,0⟩:Aa),(⟨9,0⟩:Aa)]
theorem Rf:Di Px:=by
 have h:Px.Pairwise λa b=>Dg a b=true:=by decide +kernel
 exact h
theorem Akv(hl:Di l)(hn:l.length<=40)(hs:A1 s):Ok (F92 s l) λy=>uU l y.1/\A1 y.2:=yW hl hn hs
theorem Agy(hl:Di l)(hn:l.length<=30)(hs:A1 s):Ok (F93 s l) λy=>X0 l y.1/\A1 y.2:=Yo hl hn hs
theorem Au6(hs:A1 s):Ok (F45 s) λy=>O2 y.1/\A1 y.2:=by
 unfold F45;refine(zR hs).bind λy1 h1=>(cQ (by simp)).bind λb1 e1=>(C6 h1.2 3 (by omega) (by omega)).bind λy5 h5=>(cQ (by simp)).bind λs1 e2=>(cQ (by subst e1;simp)).bind λb2 e3=>(C6 h5.1 3 (by omega) (by omega)).bind λy11 h11=>(cQ (by subst e2;simp)).bind λs2 e4=>?_;subst e1;subst e2;subst e3;subst e4;have g0:Pl 2 [(⟨1,0,1⟩:Ak)] []:=Mn.gens (λx hx=>by rw[aC.1 hx];exact⟨rfl,by decide,by decide,by decide⟩) (by simp);have hy5:=h5.2;have hy11:=h11.2;have g1:=g0.add (x:=(⟨2,0,0⟩:Ak)) (y:=(⟨100,0,y5.1⟩:B5)) ⟨rfl,rfl,by decide,by decide⟩ ⟨by dsimp only;omega,by dsimp only;omega,by dsimp only;omega⟩;have g2:=g1.add (x:=(⟨2,1,1⟩:Ak)) (y:=(⟨100,0,y11.1⟩:B5)) ⟨rfl,rfl,by decide,by decide⟩ ⟨by dsimp only;omega,by dsimp only;omega,by dsimp only;omega⟩;have g3:=g2.cons;have hg2:=g2.len;refine Ok.andThen (A:=λz=>A1 ⟨z.2.1,z.2.2.1⟩/\(∀t,t∈z.2.2.2.2.1->G0 t)/\z.2.2.2.2.1.length=4/\Sw 2 z.2.2.2.1 2 z.2.2.2.2.2/\z.2.2.2.2.2.length=4) (B:=λ(_:Unit)=>False) ?_ (λz hz=>?_) (λ_ h=>h.elim)
 ·refine cO (λz=>(0<=z.1/\z.1<=4)/\A1 ⟨z.2.1,z.2.2.1⟩/\(∀t,t∈z.2.2.2.2.1->G0 t)/\(z.2.2.2.2.1.length:Int)=z.1/\Sw 2 z.2.2.2.1 2 z.2.2.2.2.2/\(z.2.2.2.2.2.length:Int)=z.1) (λz=>(4-z.1).toNat) _ _ ⟨by simp,h11.1,by simp,by simp,g3,by simp⟩ (by simp) ?_;rintro⟨k,L,a,br,th,co⟩ ⟨⟨q1,q2⟩,q3,q4,q5,q6,q7⟩;dsimp only at q1 q2 q3 q4 q5 q6 q7;have hbl:=q6.len;unfold Arq;refine c6 (λhc=>?_) (λhc=>?_)
  ·simp only[dy]at hc;refine(cQ (by simp;omega)).bind λbr2 e1=>(Cx q3 _ (by simp) (by simp)).bind λu hu=>(C6 hu.1 3 (by omega) (by omega)).bind λv hv=>(cQ (by simp;omega)).bind λco2 e2=>(Cx hv.1 _ (by simp) (by simp)).bind λw hw=>(Cx hw.1 _ (by simp) (by simp)).bind λx hx=>(cQ (by simp;omega)).bind λth2 e3=>c7 ?_;subst e1;subst e2;subst e3;rw[Az (n:=k+1) (by omega)];have hu2:u.1=0\/u.1=5\/u.1=20:=by simpa using hu.2
   have hw2:w.1=50\/w.1=5:=by simpa using hw.2
   have hx2:x.1=1\/x.1=2:=by simpa using hx.2
   have hv2:=hv.2;have hm:=qC (x:=k) (n:=2) (by omega) q1;have hd:0<=Int.tdiv k 2/\Int.tdiv k 2<=1:=by
    have:Int.tdiv k 2=k / 2:=cr q1;omega
   refine⟨⟨by dsimp only;omega,hx.1,λt ht=>?_,by simp;omega,q6.add (m:=[⟨3,Int.tmod k 2,k⟩]) (λz hz=>?_) (by simp) (by simp) (by simp) ⟨⟨by dsimp only;omega,by dsimp only;omega,by dsimp only;omega,by dsimp only;omega,by simp,by simp,by simp⟩,by dsimp only;omega⟩,by simp;omega⟩,by dsimp only;omega⟩
   ·rcases am.1 ht with ht|ht
    ·exact q4 t ht
    ·rw[aC.1 ht];rw[Az (n:=Int.tdiv k 2) (by omega)];exact⟨by dsimp only;omega,by dsimp only;omega,by dsimp only;omega,by dsimp only;omega,by dsimp only;omega,by simp,by simp⟩
   ·rw[aC.1 hz];exact⟨rfl,by dsimp only;omega,hm⟩
  ·simp only[dz]at hc;exact cS ⟨q3,q4,by dsimp only;omega,q6,by dsimp only;omega⟩
 ·obtain⟨z1,z2,z3,z4,z5⟩:=hz;refine(Akv Rf (by simp[Px]) z1).bind λy30 h30=>(Agy Rf (by simp[Px]) h30.2).bind λy32 h32=>Ok.pure ⟨⟨⟨by simp,by simp,by dsimp only;omega,z2⟩,?_,h1.1.table,⟨Rf,?_,by simp,h30.1,h32.1⟩⟩,h32.2⟩
  ·have hbl:=z4.len;exact⟨by simp,by dsimp only;omega,by simp,by dsimp only;omega,by simp,by simp,by dsimp only;rw[z5];have:=z4.br;rw[z5]at this;exact this,z4.one,z4.any,z4.nodup,g2.so,λi x hx=>(z4.co i x hx).1⟩
  ·intro p hp;have h:∀p,p∈Px->Ds p:=by
    unfold Ds Px;simp
   exact h p hp
theorem Aj2(hs:A1 s):Ok (F11 s) λy=>O2 y.1/\((∀t,Ql y.1.Board t y.2.1)/\(5<=y.2.1.Time/\y.2.1.Time<=20)/\y.2.1.Bh=[]/\y.2.1.Power.Al.length<=4)/\A1 y.2.2:=by
 unfold F11;refine(zR hs).bind λv hv=>(C6 hv.2 2 (by omega) (by omega)).bind λu hu=>c6 (λ_=>?_) (λ_=>?_)
 ·refine(Au6 hu.1).bind λw hw=>(Aem hw.1.Ao hw.2).bind λp hp=>Ok.pure ⟨hw.1,hp.1,hp.2⟩
 ·refine(Aem hv.1.Ao hu.1).bind λp hp=>Ok.pure ⟨hv.1,hp.1,hp.2⟩
set_option linter.unusedVariables false
theorem Xm(h:Ax b)(hp:Av b p)(T:Int)(a:Aw):(doE b p T a).length<=10001:=by
 unfold doE;split
 ·rename_i he;have:=(Rh h (Adg h hp he).1).2.2;simp;omega
 ·simp
theorem A3r(h:Ax b){p:Ar}(hp:Av b p.Power)(h1:p.Ba.length<=1000)(h2:p.Bh.length<=9000000)(a:Aw) :
  F54 b p a=some (⟨p.Time,doP b p.Power p.Time a,p.Ba,p.Bh++doE b p.Power p.Time a⟩,doS b p.Power p.Time a,0):=by
 have hl:=Xm h hp p.Time a;refine cU ?_;unfold F54;rw[E7 h hp];simp only[ab];refine c6 (λhc=>by simp at hc) (λ_=>?_);refine Ok.bind (P:=λv=>v=⟨p,b,[],[]⟩) (cR (Auv h hp h1 (by omega)) rfl) λv hv=>?_;subst hv;have hd:=A36 h (T:=p.Time) (P:=p.Power) (ros:=p.Ba) (evs:=p.Bh) (ev:=[]) (sts:=[]) hp (by simp) (by simp) a;refine Ok.bind (P:=λv=>v=_) (cR hd rfl) λv hv=>?_;subst hv;refine(cQ (l:=p.Bh) (m:=[]++doE b p.Power p.Time a) (by simp;omega)).bind λu hu=>Ok.pure ?_;rw[hu];rfl
variable{p:Aa}
theorem Aod(h:Ds p):ptB p=true:=by
 unfold Ds at h;have e:∀n:Int,0<=n->n<=63->(Lit.int .i64 n).wf=true:=λn h1 h2=>by
  have m1:IntKind.i64.min = -9223372036854775808:=by decide +kernel
  have m2:IntKind.i64.max=9223372036854775807:=by decide +kernel
  simp only[Lit.wf,m1,m2,ac,dy];omega
 unfold ptB;rw[e _ (by omega) (by omega),e _ (by omega) (by omega)];rfl
theorem Ag2{L:List A6}{b:List Aa}(h:p∈El L b):p∈b\/∃x,x∈L/\x.To=p:=by
 have h2:=(M2 L b p).1 h;clear h;induction h2 with
 | «at» h=>exact .inl h
 | «by» _ x hx _ e2 _=>exact .inr ⟨x,hx,e2⟩
theorem R6(L:List A6)(b:List Aa):(El L b).length<=b.length+L.length:=by
 have h:=Lt (M3 L b) (m:=b++L.map (·.To)) λp hp=>by
  rcases Ag2 hp with h|⟨x,hx,e⟩
  ·exact bh _ h
  ·exact bk _ (an.2 ⟨x,hx,e⟩)
 simpa using h
theorem Ac3{d:A3}(h:O3 d){b:List Aa}(hb:∀p,p∈b->Ds p)(hn:b.length<=1000):F51 d b=some (El d.Links b):=by
 have h2:=h.links.len;unfold F51 Yv;rw[Wx h];have e:Sv b=some b:=Hf (by omega);rw[e];have e2:okF d.Links b=true:=by
  simp only[okF,ac,dy,aF];exact⟨⟨λp hp=>Aod (hb p hp),λx hx=>Aod (h.ok _ (h.links.mem x hx).2.1)⟩,by omega⟩
 simp only[ab,e2];rfl
theorem Wt(h:Ax b)(hp:Cu b p):Ds p:=by
 have h1:=h.buses;have h2:=h.brl;have h3:=h.sol;have h4:=h.col;unfold Cu at hp;unfold Ds;omega
theorem Aj3{l m:List Int}(hl:l.length<=1000):Ok (F57 l m) λy=>y.length=l.length/\∀(i:Nat) v,y[i]? = some v->(l[i]? = some v/\¬(i:Int)∈m)\/v=0:=by
 unfold F57;refine Ok.bind (P:=λy=>y=l) (cR (Hf (by omega)) rfl) λy hy=>?_;subst hy;refine Ok.andThen (A:=λz=>z.length=y.length/\∀(i:Nat) v,z[i]? = some v->(y[i]? = some v/\¬(i:Int)∈m)\/v=0) (B:=λ(_:Unit)=>False) ?_ (λz hz=>Ok.pure hz) (λ_ h=>h.elim);refine c8 (I:=λj z=>z.length=y.length/\∀(i:Nat) v,z[i]? = some v->(y[i]? = some v/\¬(i:Int)∈m.take j)\/v=0) ⟨rfl,λi v hv=>.inl ⟨hv,by simp⟩⟩ (λj x z hx hz=>?_) λz hz=>by rw[aJ]at hz;exact hz
 unfold Aro;rw[Bm hx];refine c6 (λhc=>?_) (λhc=>c7 ⟨hz.1,λi v hv=>(hz.2 i v hv).imp (λh=>⟨h.1,λhm=>?_⟩) id⟩)
 ·simp only[Alp,ac,dy]at hc;refine(cP hc.1 hc.2).bind λ_ _=>(cT hc.1 hc.2).bind λw hw=>c7 ?_;subst hw;refine⟨by rw[bl];exact hz.1,λi v hv=>?_⟩;rw[aH]at hv;split at hv
  ·split at hv
   ·cases hv;exact .inr rfl
   ·cases hv
  ·refine(hz.2 i v hv).imp (λh=>⟨h.1,λhm=>?_⟩) id;rcases am.1 hm with hm|hm
   ·exact h.2 hm
   ·rw[aC]at hm;omega
 ·rcases am.1 hm with hm|hm
  ·exact h.2 hm
  ·rw[aC]at hm;have hi:=(aa.1 hv).1;simp only[Alp,bZ,dz]at hc;omega
variable{p:Ar}
theorem Adn(h:Ax b)(hp:Av b p.Power)(h1:p.Ba.length<=1000)(h2:p.Bh.length<=10000000):F56 p=some p:=by
 have g1:=hp.ncl;have g2:=hp.nso;have g3:=hp.nli;have g4:=hp.brk.len;have k1:=h.brl;have k2:=h.sol;have k3:=h.col;unfold F56 yC yB yA vZ Pp Sv;rw[Hf (by omega),Hf (by omega),Hf (by omega),Hf (by omega),Hf (by omega),Hf (by omega)];rfl
structure Aft(v:A9)(all:List Aa)(y:Ar×List Int×Int):Prop where
 err:y.2.2=0
 st:Av v.Board y.1.Power
 len:y.2.1.length=v.Ship.A4.length
 able:∀(i:Nat) t n,v.Ship.A4[i]? = some t->y.2.1[i]? = some n->(0<=n/\n<=t.Max)/\(n≠0->(∃j:Nat,own v.Board i=(j:Int)/\svB v.Board y.1.Power 1000 j=true)/\¬(⟨5,(i:Int)⟩:Aa)∈all)
theorem Aax(h:O2 v)(hS:Av v.Board p.Power)(hro:p.Ba.length<=1000)(he:p.Bh.length<=100000)(hck:F49 v.Board v.Table p=some c)(hb:∀x,x∈broken->Ds x)(hf:∀x,x∈fails->Ds x)(hbn:broken.length<=20)(hfn:fails.length<=40) :
  Ok (F14 v p broken fails) λy=>c=0->Aft v (El v.Design.Links (broken++(p.Power.Al++fails))) y:=by
 have hB:=h.Ao;have hbl:=hS.brk.len;have hlk:=h.des.links.len;unfold F14;rw[hck,Wx h.des];simp only[ab];refine c6 (λhc=>Ok.pure λe=>by rw[e]at hc;cases hc) (λ_=>c6 (λhc=>by simp at hc) (λ_=>Ok.mono ?_ λ_ h _=>h));have ec:F52 [broken,p.Power.Al,fails]=some (broken++(p.Power.Al++fails)):=by
  have e:[broken,p.Power.Al,fails].flatten=broken++(p.Power.Al++fails):=by simp
  unfold F52 I0;rw[e,dD (by simp;omega)];rfl
 rw[ec];have hall:∀x,x∈broken++(p.Power.Al++fails)->Ds x:=λx hx=>by
  rcases am.1 hx with hx|hx
  ·exact hb x hx
  ·rcases am.1 hx with hx|hx
   ·exact Wt hB (hS.brk.mem x hx)
   ·exact hf x hx
 have hbase:(broken++(p.Power.Al++fails)).length<=92:=by simp;omega
 generalize broken++(p.Power.Al++fails)=base at hall hbase;simp only[ab];rw[Ac3 h.des hall (by omega)];simp only[ab];have hfl:=R6 v.Design.Links base;generalize El v.Design.Links base=all at hfl;refine Ok.andThen (A:=λz=>Av v.Board ⟨z.2.2.1,z.2.2.2.1,z.2.2.2.2.1,z.2.2.2.2.2.1⟩/\z.2.2.2.2.2.2.1=p.Ba/\z.2.2.2.2.2.2.2.length<=2000000/\∀x,x∈all->x.Kind=5->x.Number∈z.1) (B:=λ_=>False) ?_ (λz hz=>?_) (λ_ h=>h.elim)
 ·refine c8 (I:=λj z=>(Av v.Board ⟨z.2.2.1,z.2.2.2.1,z.2.2.2.2.1,z.2.2.2.2.2.1⟩/\z.2.2.2.2.2.2.1=p.Ba/\z.2.2.2.2.2.2.2.length<=100000+10001*j/\∀x,x∈all.take j->x.Kind=5->x.Number∈z.1)/\z.1.length<=j) ⟨⟨hS,rfl,by dsimp only;omega,by simp⟩,by simp⟩ (λj x z hx hz=>?_) λz hz=>?_
  ·obtain⟨⟨z1,z2,z3,z4⟩,z5⟩:=hz;have hj:=(aa.1 hx).1;unfold Ar8;refine Ok.inner (A:=λw=>w.length<=j+1/\∀y,y∈all.take (j+1)->y.Kind=5->y.Number∈w) (B:=λ(_:Unit)=>False) ?_ (λw hw=>?_) (λ_ h=>h.elim)
   ·unfold Ar7;refine c6 (λhc=>(cQ (by simp;omega)).bind λm hm=>cY ?_) (λhc=>cY ?_)
    ·subst hm;refine⟨by simp;omega,λy hy hk=>?_⟩;rw[Bm hx]at hy;rcases am.1 hy with hy|hy
     ·exact bh _ (z4 y hy hk)
     ·rw[aC.1 hy];exact bk _ (aC.2 rfl)
    ·refine⟨by omega,λy hy hk=>?_⟩;rw[Bm hx]at hy;rcases am.1 hy with hy|hy
     ·exact z4 y hy hk
     ·rw[aC.1 hy]at hk;rw[hk]at hc;cases hc
   ·refine Ok.bind (P:=λ_=>True) (c9 (λ_=>cR (P5 _ _ (by omega)) trivial) λ_=>trivial) λu _=>c6 (λ_=>c7 ⟨⟨z1,z2,by dsimp only;omega,hw.2⟩,hw.1⟩) (λ_=>?_);have hd:=A3r hB (p:=⟨z.2.1,⟨z.2.2.1,z.2.2.2.1,z.2.2.2.2.1,z.2.2.2.2.2.1⟩,z.2.2.2.2.2.2.1,z.2.2.2.2.2.2.2⟩) z1 (by dsimp only;rw[z2];omega) (by dsimp only;omega) ⟨8,x.Number,x.Kind⟩;refine Ok.bind (P:=λy=>y=_) (cR hd rfl) λy hy=>?_;subst hy;refine c6 (λhc=>by simp at hc) (λ_=>c7 ⟨⟨Apn hB z1 _ _,z2,?_,hw.2⟩,hw.1⟩);have:=Xm hB z1 z.2.1 ⟨8,x.Number,x.Kind⟩;dsimp only;rw[aB];omega
  ·rw[aJ]at hz;exact⟨hz.1.1,hz.1.2.1,by omega,hz.1.2.2.2⟩
 ·obtain⟨z1,z2,z3,z4⟩:=hz;refine(Aym hB z1 h.ship).bind λy hy=>?_;obtain⟨y1,y2,y3⟩:=hy;refine c6 (λhc=>by simp[y1]at hc) (λ_=>?_);rw[Adn hB (p:=⟨z.2.1,⟨z.2.2.1,z.2.2.2.1,z.2.2.2.2.1,z.2.2.2.2.2.1⟩,z.2.2.2.2.2.2.1,z.2.2.2.2.2.2.2⟩) z1 (by dsimp only;rw[z2];omega) (by dsimp only;omega)];have hsl:=h.ship.len;refine(Aj3 (m:=z.1) (by omega)).bind λw hw=>Ok.pure ⟨rfl,z1,by rw[←y2];exact hw.1,λi t n ht hn=>?_⟩;have htm:=(h.ship.thr t (ae ht)).max;rcases hw.2 i n hn with⟨g1,g2⟩|rfl
  ·obtain⟨a1,a2,a3⟩:=y3 i t n ht g1;exact⟨a1,λh0=>⟨a3 h0,λhm=>g2 (z4 _ hm rfl)⟩⟩
  ·exact⟨⟨by omega,htm.1⟩,λh0=>absurd rfl h0⟩
theorem Avz(h:O2 v)(hp:Ql v.Board v.Table p)(he:p.Bh.length<=200)(hb:∀x,x∈broken->Ds x)(hf:∀x,x∈fails->Ds x)(hbn:broken.length<=20)(hfn:fails.length<=40) :
  Ok (F14 v p broken fails) (Aft v (El v.Design.Links (broken++(p.Power.Al++fails)))):=by
 have h1:=hp.nro;have h2:=h.Ao.buses;exact(Aax h hp.st (by omega) (by omega) (Aaz h.Ao h.table hp) hb hf hbn hfn).mono λy hy=>hy rfl
set_option linter.unusedVariables false
theorem Ys(n:Int){d:Int}(hd:d≠0):Ok (U7 n d) λ_=>True:=by
 unfold U7;exact(Ok.nzI hd).bind λ_ _=>(Ok.nzI hd).bind λ_ _=>c6 (λ_=>Ok.pure trivial) λ_=>Ok.pure trivial
theorem Acm(n d:Int):Ok (Aff n d) λ_=>True:=by
 unfold Aff Afk;refine Ok.bind (P:=λ_=>True) (c6 (λ_=>Ok.pure trivial) λhc=>?_) λ_ _=>Ok.pure trivial;simp only[Adw,ba,dz]at hc;refine Ok.bind (P:=λ_=>True) ?_ λ_ _=>Ok.pure trivial;unfold Ave;have e:w64 (2*d)=2*d:=Az (by omega);rw[e];exact(Ys _ (by omega)).bind λ_ _=>Ok.pure trivial
theorem Ao2(n d:Int):Ok (X1 n d) λ_=>True:=by
 unfold X1 Zq;refine Ok.bind (P:=λ_=>True) (c6 (λ_=>Ok.pure trivial) λhc=>?_) λ_ _=>Ok.pure trivial;simp only[Xt,ba,dz]at hc;exact(Ys _ (by omega)).bind λ_ _=>Ok.pure trivial
theorem Ao1{n:Int}(h:-10000000<=n/\n<=10000000):X1 n 2=some (n / 2,0):=by
 refine cU ?_;unfold X1 Zq;refine Ok.bind (P:=λy=>y=(n / 2,0)) (c6 (λhc=>?_) λhc=>?_) λy hy=>Ok.pure (by rw[hy])
 ·simp only[Xt,az,dy]at hc;omega
 ·unfold U7;refine Ok.bind (P:=λy=>y=n / 2) ((Ok.nzI (by omega)).bind λ_ _=>(Ok.nzI (by omega)).bind λ_ _=>?_) λy hy=>Ok.pure (by rw[hy]);have h1:Int.tmod n 2=n-2*Int.tdiv n 2:=by grind
  have h2:=Int.tmod_lt_of_pos n (b:=2) (by omega);have h3:=Int.lt_tmod_of_pos n (b:=2) (by omega);refine c6 (λhq=>Ok.pure ?_) (λhq=>Ok.pure ?_)
  ·simp only[dy]at hq;rw[Az (n:=Int.tdiv n 2) (by omega),Az (by omega)];omega
  ·simp only[dz]at hq;rw[Az (by omega)];omega
theorem Aud(x:Int)(h:lo<=hi):lo<=J2 x lo hi/\J2 x lo hi<=hi:=by
 unfold J2;omega
theorem qG(a:Int):Ok (uV a) λ_=>True:=by
 unfold uV;refine Ok.andThen (A:=λ_=>True) (B:=λ(_:Unit)=>False) ?_ (λz _=>(Acm _ _).bind λ_ _=>Ok.pure trivial) (λ_ h=>h.elim);unfold Ais;exact c6 (λ_=>cY trivial) λ_=>cY trivial
theorem Aic(a:Int):Ok (Ae0 a) λ_=>True:=by
 unfold Ae0;exact(qG _).bind λ_ _=>Ok.pure trivial
theorem zJ(a x y:Int):Ok (Ae1 a x y) λ_=>True:=by
 unfold Ae1;exact c6 (λ_=>Ok.pure trivial) λ_=>(Aic _).bind λ_ _=>(qG _).bind λ_ _=>Ok.pure trivial
theorem Agm(a:Ce)(x y:Int):Ok (Al3 a x y) λ_=>True:=by
 unfold Al3;exact c6 (λ_=>Ok.pure trivial) λ_=>(zJ _ _ _).bind λ_ _=>Ok.bind (P:=λ_=>True) (c9 (λ_=>Aic _) λ_=>trivial) λ_ _=>Ok.bind (P:=λ_=>True) (c9 (λ_=>qG _) λ_=>trivial) λ_ _=>Ok.bind (P:=λ_=>True) (c9 (λ_=>zJ _ _ _) λ_=>trivial) λ_ _=>Ok.pure trivial
theorem Auw(l:List Ce)(x y:Int):Ok (Z2 l x y) λ_=>True:=by
 unfold Z2 Afm;refine Ok.bind (P:=λ_=>True) ?_ λ_ _=>Ok.pure trivial;refine Ok.andThen (A:=λ_=>True) (B:=λ_=>True) ?_ (λ_ _=>Ok.pure trivial) (λ_ _=>Ok.pure trivial);refine c8 (I:=λ_ _=>True) trivial (λj a z _ _=>?_) λ_ _=>trivial;unfold Aae Ae3;refine Ok.bind (P:=λ_=>True) ((Agm _ _ _).bind λ_ _=>Ok.pure trivial) λ_ _=>c6 (λ_=>Ok.ret trivial) λ_=>c7 trivial
theorem Zf(h0:0<=t.Max/\t.Max<=5000)(x y:Int):Ok (Ae7 t x y) λb=>b=true->(-t.Max<=x/\x<=t.Max) /\ -t.Max<=y/\y<=t.Max:=by
 unfold Ae7;refine c6 (λ_=>Ok.pure λh=>by cases h) λhc=>(Auw _ _ _).bind λ_ _=>Ok.pure λ_=>?_;simp only[Apy,ba,dz]at hc;have e:w64 (0-t.Max) = -t.Max:=by rw[Az (by omega)];omega
 rw[e]at hc;omega
theorem Akw(ht:Ss t=some true)(h0:0<=t.Max/\t.Max<=5000):Ok (Amb t) λr=>(-t.Max<=r.1/\r.1<=0)/\0<=r.2/\r.2<=t.Max:=by
 unfold Amb;rw[ht,ab];refine c6 (λhc=>by cases hc) λ_=>Ok.bind (P:=λr=>(-t.Max<=r.1/\r.1<=0)/\0<=r.2.1/\r.2.1<=t.Max) ?_ λr hr=>Ok.pure hr;unfold Ae9;have hA:∀z,Ok (Qp z t) λb=>b=true -> -t.Max<=z/\z<=t.Max:=λz=>by
  unfold Qp;exact(Zf h0 0 z).bind λb hb=>Ok.pure λh=>(hb h).2
 refine(hA 0).bind λ_ _=>c6 (λ_=>Ok.pure ⟨by dsimp only;omega,by dsimp only;omega⟩) λ_=>?_;refine Ok.andThen (A:=λz=>-t.Max<=z/\z<=0) (B:=λ(_:Unit)=>False) ?_ (λz hz=>Ok.andThen (A:=λw=>0<=w/\w<=t.Max) (B:=λ(_:Unit)=>False) ?_ (λw hw=>Ok.pure ⟨hz,hw⟩) (λ_ h=>h.elim)) (λ_ h=>h.elim)
 ·refine cO (λz=>-t.Max<=z/\z<=0) (λz=>(z+5000).toNat) _ _ ⟨by omega,by omega⟩ (by omega) λz hz=>?_;unfold zY;rw[Az (n:=z-1) (by omega)];exact(hA (z-1)).bind λb hb=>c6 (λh=>c7 (by have:=hb h;omega)) λ_=>cS hz
 ·refine cO (λz=>0<=z/\z<=t.Max) (λz=>(5000-z).toNat) _ _ ⟨by omega,by omega⟩ (by omega) λz hz=>?_;unfold zX;rw[Az (n:=z+1) (by omega)];exact(hA (z+1)).bind λb hb=>c6 (λh=>c7 (by have:=hb h;omega)) λ_=>cS hz
theorem Atg(ht:Ss t=some true)(h0:0<=t.Max/\t.Max<=5000)(y:Int):Ok (Ama t y) λr=>(-t.Max<=r.1/\r.1<=0)/\0<=r.2/\r.2<=t.Max:=by
 unfold Ama;rw[ht,ab];refine c6 (λhc=>by cases hc) λ_=>Ok.bind (P:=λr=>(-t.Max<=r.1/\r.1<=0)/\0<=r.2.1/\r.2.1<=t.Max) ?_ λr hr=>Ok.pure hr;unfold Ae8;have hA:∀z,Ok (Qo z t y) λb=>b=true -> -t.Max<=z/\z<=t.Max:=λz=>by
  unfold Qo;exact(Zf h0 z y).bind λb hb=>Ok.pure λh=>(hb h).1
 refine(hA 0).bind λ_ _=>c6 (λ_=>Ok.pure ⟨by dsimp only;omega,by dsimp only;omega⟩) λ_=>?_;refine Ok.andThen (A:=λz=>-t.Max<=z/\z<=0) (B:=λ(_:Unit)=>False) ?_ (λz hz=>Ok.andThen (A:=λw=>0<=w/\w<=t.Max) (B:=λ(_:Unit)=>False) ?_ (λw hw=>Ok.pure ⟨hz,hw⟩) (λ_ h=>h.elim)) (λ_ h=>h.elim)
 ·refine cO (λz=>-t.Max<=z/\z<=0) (λz=>(z+5000).toNat) _ _ ⟨by omega,by omega⟩ (by omega) λz hz=>?_;unfold zW;rw[Az (n:=z-1) (by omega)];exact(hA (z-1)).bind λb hb=>c6 (λh=>c7 (by have:=hb h;omega)) λ_=>cS hz
 ·refine cO (λz=>0<=z/\z<=t.Max) (λz=>(5000-z).toNat) _ _ ⟨by omega,by omega⟩ (by omega) λz hz=>?_;unfold zV;rw[Az (n:=z+1) (by omega)];exact(hA (z+1)).bind λb hb=>c6 (λh=>c7 (by have:=hb h;omega)) λ_=>cS hz
def G1(s:Br):Prop:=(-5000<=s.Low/\s.Low<=s.High/\s.High<=5000)/\1<=s.Cost/\s.Cost<=100
variable{l:List Br}
theorem An2(hl:l.length<=8)(h:∀s,s∈l->G1 s):Al5 l=some 0:=by
 refine cU ?_;unfold Al5;refine c6 (λhc=>by grind) λ_=>Ok.andThen (A:=λ_=>True) (B:=λ_=>False) ?_ (λ_ _=>Ok.pure rfl) (λ_ h=>h.elim);refine c8 (I:=λ_ _=>True) trivial (λj s z hs _=>?_) λ_ _=>trivial;have:=h s (ae hs);unfold G1 at this;unfold Ait;refine c6 (λhc=>?_) λ_=>c7 trivial;simp only[Apz,az,dy]at hc;omega
theorem An9(hl:l.length<=8)(h:∀s,s∈l->G1 s):Ok (Amc l) λy=>y.2.2=0:=by
 unfold Amc;rw[An2 hl h,ab];refine c6 (λhc=>by cases hc) λ_=>Ok.andThen (A:=λ_=>True) (B:=λ(_:Unit)=>False) ?_ (λ_ _=>Ok.pure rfl) (λ_ h=>h.elim);exact c8 (I:=λ_ _=>True) trivial (λj s z hs _=>c7 trivial) λ_ _=>trivial
theorem yT(hl:l.length<=8)(h:∀s,s∈l->G1 s)(p:Int):Ok (Afe l p) λy=>y.1.length=l.length/\∀(i:Nat) s v,l[i]? = some s->y.1[i]? = some v->s.Low<=v/\v<=s.High:=by
 unfold Afe;refine Ok.andThen (A:=λz=>z.2.length=l.length/\∀(i:Nat) s v,l[i]? = some s->z.2[i]? = some v->s.Low<=v/\v<=s.High) (B:=λ(_:Unit)=>False) ?_ (λz hz=>Ok.pure hz) (λ_ h=>h.elim);refine c8 (I:=λj z=>z.2.length=j/\∀(i:Nat) s v,l[i]? = some s->z.2[i]? = some v->s.Low<=v/\v<=s.High) ⟨rfl,by simp⟩ (λj s z hs hz=>?_) λz hz=>hz;have hj:=(aa.1 hs).1;unfold Aiv;have hok:=h s (ae hs);refine(Ao2 _ _).bind λy _=>(cQ (by simp;omega)).bind λm hm=>c7 ?_;subst hm;refine⟨by simp;omega,λi s' v hi hv=>?_⟩;rw[cj]at hv;split at hv
 ·exact hz.2 i s' v hi hv
 ·have hi2:i=j:=by
   grind
  subst hi2;rw[hs]at hi;cases hi;rw[hz.1,Nat.sub_self]at hv;cases hv;exact Aud _ hok.1.2.1
theorem Q_(hl:l.length<=8)(h:∀s,s∈l->G1 s){t:Int}(ht:-500000<=t/\t<=500000):Ok (vA l t) λy=>y.1.length=l.length/\∀v,v∈y.1 -> -5000<=v/\v<=5000:=by
 unfold vA;refine(An9 hl h).bind λy1 hy1=>?_;refine c6 (λhc=>by rw[hy1]at hc;cases hc) λ_=>c6 (λhc=>?_) λ_=>?_
 ·simp only[Ap3,az,dy]at hc;omega
 refine Ok.andThen (A:=λ_=>True) (B:=λ(_:Unit)=>False) ?_ (λz0 _=>?_) (λ_ h=>h.elim)
 ·refine cO (λz=>-1000200<=z.2/\z.2<=z.1/\z.1<=1000200) (λz=>(z.1-z.2).toNat) _ _ ⟨by decide,by decide,by decide⟩ (by decide) ?_;rintro⟨b,a⟩ ⟨h1,h2,h3⟩;dsimp only at h1 h2 h3;unfold Ai2;refine c6 (λhc=>?_) λ_=>cS trivial;simp only[dy]at hc;dsimp only;rw[Az (n:=a+b) (by omega),Ao1 (by omega)];simp only[ab];refine(yT hl h _).bind λ_ _=>c6 (λ_=>c7 ⟨⟨h1,by dsimp only;omega,by dsimp only;omega⟩,by dsimp only;omega⟩) λ_=>c7 ?_;rw[Az (by omega)];exact⟨⟨by dsimp only;omega,by dsimp only;omega,h3⟩,by dsimp only;omega⟩
 ·refine(yT hl h _).bind λy hy=>?_;refine Ok.andThen (A:=λz=>z.2.length=l.length/\∀(i:Nat) s v,l[i]? = some s->z.2[i]? = some v->s.Low<=v/\v<=s.High) (B:=λ(_:Unit)=>False) ?_ (λz hz=>Ok.pure ⟨hz.1,λv hv=>?_⟩) (λ_ h=>h.elim)
  ·refine c8 (I:=λ_ z=>z.2.length=l.length/\∀(i:Nat) s v,l[i]? = some s->z.2[i]? = some v->s.Low<=v/\v<=s.High) hy (λj s z hs hz=>?_) λz hz=>hz;have hj:=(aa.1 hs).1;have hok:=h s (ae hs);unfold Ai1;rw[Cn (by omega)];have hg:Ok (getI z.2 (j:Int)) λx=>z.2[j]? = some x:=(cP (by omega) (by omega)).mono λx hx=>by simpa using hx
   refine Ok.bind (P:=λv=>z.1<J2 t y1.1 y1.2.1->z.2[j]? = some v) (c9 (λ_=>hg.mono λx hx _=>hx) λhn hlt=>absurd ⟨by simpa using hlt,trivial⟩ hn) λv hv=>?_;refine Ok.bind (P:=λ_=>True) (c9 (λ_=>hg.mono λ_ _=>trivial) λ_=>trivial) λu _=>c6 (λhc=>?_) λ_=>c7 hz;simp only[Ap2,ac,dy]at hc;have ev:=hv hc.1.1;refine hg.bind λx hx=>(cT (by omega) (by omega)).bind λw hw=>c7 ?_;rw[ev]at hx;cases hx;subst hw;have hr:=hz.2 j s v hs ev;have hb:-5000<=s.Low/\s.High<=5000:=⟨hok.1.1,hok.1.2.2⟩;rw[aE,Az (n:=v+1) (by omega)];grind
  ·obtain⟨i,hi⟩:=bv hv;have hil:=(aa.1 hi).1;have hs:l[i]? = some (l[i]'(by have:=hz.1;dsimp only at hil;omega)):=ai _;have hr:=hz.2 i _ v hs hi;have hok:=h _ (ae hs);unfold G1 at hok;omega
set_option linter.unusedVariables false
theorem Hj(l:List Int)(a b:Int):Ok (Pm l a b) λy=>l.length<=1000->y=true->∀x,x∈l->a<=x/\x<=b:=by
 unfold Pm Af6 Afp;refine Ok.bind (P:=λy=>l.length<=1000->y.1=false->∀x,x∈l->a<=x/\x<=b) (Ok.bind (P:=λy=>l.length<=1000->y.1<0->∀x,x∈l->a<=x/\x<=b) ?_ λy hy=>Ok.pure λhl h=>hy hl (by simpa using h)) λy hy=>Ok.pure λhl h=>hy hl (by simpa using h);refine Ok.andThen (A:=λ_=>∀x,x∈l->a<=x/\x<=b) (B:=λr=>l.length<=1000->0<=r.1) ?_ (λ_ h=>Ok.pure λ_ _=>h) (λr h=>Ok.pure λhl hr=>by have:=h hl;omega);refine c8 (I:=λj _=>∀x,x∈l.take j->a<=x/\x<=b) (by simp) (λj x z hx hz=>?_) λz hz=>by rw[aJ]at hz;exact hz
 have hj:=(aa.1 hx).1;unfold Aam;refine c6 (λ_=>Ok.ret λhl=>?_) λhc=>c7 λy hy=>?_
 ·rw[Cn (by omega)];dsimp only;omega
 ·rw[Bm hx]at hy;rcases am.1 hy with hy|hy
  ·exact hz y hy
  ·rw[aC.1 hy];simp only[Afa,ba,dz]at hc;omega
structure Wf(n:Nat)(m:By):Prop where
 len:m.thrusters.length=n
 few:n<=8
 last:m.last=[]\/m.last.length=n
 thr:∀t,t∈m.thrusters->G0 t
theorem Abw(h:lo<=hi)(l r:Int):lo<=(Mo lo hi l r).1/\(Mo lo hi l r).1<=(Mo lo hi l r).2/\(Mo lo hi l r).2<=hi:=by
 unfold Mo;cases Apx lo hi l r with
 |true=>simp only[cond_true];omega
 | false=>
  simp only[cond_false];cases hc:Adu lo hi l r with
  |true=>
   simp only[Adu,dy]at hc;simp only[cond_true];omega
  |false=>cases decide (l<lo) <;> simp only[cond_true,cond_false] <;> omega
theorem Aob(hm:Wf n m)(hi:i<n)(h:-5000<=lo/\lo<=hi'/\hi'<=5000):Ok (Zm m (i:Int) lo hi') G1:=by
 unfold Zm;have hl:=hm.len;refine(cP (by omega) (by omega)).bind λt ht=>?_;have hc:=(hm.thr t (ae ht)).cost;refine c6 (λhp=>?_) λ_=>Ok.pure ⟨h,hc⟩;simp only[dy]at hp;have hl2:m.last.length=n:=hm.last.resolve_left λe=>by rw[e]at hp;simp at hp
 refine(cP (by omega) (by omega)).bind λv _=>Ok.pure ⟨?_,hc⟩;have:=Abw h.2.1 (uY v) t.Rate;dsimp only;omega
theorem Aoa(hm:Wf n m)(hi:i<n)(h:-5000<=lo/\lo<=hi'/\hi'<=5000):Ok (Zl m (i:Int) lo hi') G1:=by
 unfold Zl;have hl:=hm.len;refine(cP (by omega) (by omega)).bind λt ht=>?_;have hc:=(hm.thr t (ae ht)).cost;refine c6 (λhp=>?_) λ_=>Ok.pure ⟨h,hc⟩;simp only[dy]at hp;have hl2:m.last.length=n:=hm.last.resolve_left λe=>by rw[e]at hp;simp at hp
 refine(cP (by omega) (by omega)).bind λv _=>Ok.pure ⟨?_,hc⟩;have:=Abw h.2.1 (uX v) t.Rate;dsimp only;omega
theorem Wv(hm:Wf n m)(st:Int):Ok (Afi m st) λl=>l.length=n/\∀s,s∈l->G1 s:=by
 unfold Afi;have hlen:=hm.len;have hf:=hm.few;refine Ok.andThen (A:=λl=>l.length=n/\∀s,s∈l->G1 s) (B:=λ(_:Unit)=>False) ?_ (λ_ h=>Ok.pure h) (λ_ h=>h.elim);refine c8 (I:=λj l=>l.length=j/\∀s,s∈l->G1 s) ⟨rfl,by simp⟩ (λj t l ht hl=>?_) λl hl=>by rw[hlen]at hl;exact hl
 have hj:=(aa.1 ht).1;have hok:=hm.thr t (ae ht);have hmx:=hok.max;unfold Ai0;have fin:∀{x:Br},G1 x->Ok ((appI 25 l [x]).bind λy=>some (Ctl.next y:Ctl (List Br) Unit)) (Hg (λl=>l.length=j+1/\∀s,s∈l->G1 s) (λl=>l.length=n/\∀s,s∈l->G1 s) λ(_:Unit)=>False):=fun {x} hx=>(cQ (by simp;omega)).bind λw hw=>c7 (by
  subst hw;refine⟨by simp;omega,λs hs=>?_⟩;rcases am.1 hs with hs|hs
  ·exact hl.2 s hs
  ·rw[aC.1 hs];exact hx)
 refine c6 (λ_=>fin ⟨by dsimp only;omega,hok.cost⟩) λ_=>(Akw (Li hok) (by omega)).bind λr hr=>?_;rw[Cn (by omega)];exact(Aob hm (by omega) (by omega)).bind λx hx=>fin hx
theorem Anv(hm:Wf n m)(hy:y.length=n):Ok (Amg m y) λl=>l.length=n/\∀s,s∈l->G1 s:=by
 unfold Amg;have hlen:=hm.len;have hf:=hm.few;refine Ok.andThen (A:=λl=>l.length=n/\∀s,s∈l->G1 s) (B:=λ(_:Unit)=>False) ?_ (λ_ h=>Ok.pure h) (λ_ h=>h.elim);refine c8 (I:=λj l=>l.length=j/\∀s,s∈l->G1 s) ⟨rfl,by simp⟩ (λj t l ht hl=>?_) λl hl=>by rw[hlen]at hl;exact hl
 have hj:=(aa.1 ht).1;have hok:=hm.thr t (ae ht);have hmx:=hok.max;unfold Aiz;rw[Cn (by omega)];refine(cP (by omega) (by omega)).bind λv _=>(Atg (Li hok) (by omega) v).bind λr hr=>(Aoa hm (by omega) (by omega)).bind λx hx=>(cQ (by simp;omega)).bind λw hw=>c7 ?_;subst hw;refine⟨by simp;omega,λs hs=>?_⟩;rcases am.1 hs with hs|hs
 ·exact hl.2 s hs
 ·rw[aC.1 hs];exact hx
theorem Asi(h:G0 t)(n:Int):Al6 t n=some ⟨t.Kind,t.Station,min t.Max (max n 0),t.Rate,t.Cost,t.Cy⟩/\G0 ⟨t.Kind,t.Station,min t.Max (max n 0),t.Rate,t.Cost,t.Cy⟩:=by
 have h1:=h.arcs;have h2:=h.max;refine⟨?_,h.kind,h.station,by dsimp only;omega,h.rate,h.cost,h.arcs,h.arc⟩;unfold Al6 Al4;rw[Hf (by omega)];rfl
variable{s:B3}
theorem Auu(hs:Jf s)(most:List Int)(last:List Bz)(ns:List Int):Ok (Zn s most last ns) λy=>y.2=0->Wf s.A4.length y.1:=by
 have hl:=hs.len;unfold Zn;rw[Oh hs,ab];refine c6 (λhc=>by cases hc) λ_=>c6 (λ_=>Ok.pure λh=>by cases h) λhc=>(Hj _ _ _).bind λa _=>Ok.bind (P:=λ_=>True) (c9 (λ_=>(Hj _ _ _).mono λ_ _=>trivial) λ_=>trivial) λb _=>c6 (λ_=>Ok.pure λh=>by cases h) λ_=>?_;simp only[Adv,ba,bZ,dF,dz]at hc;refine Ok.andThen (A:=λz=>z.length=s.A4.length/\∀t,t∈z->G0 t) (B:=λ(_:Unit)=>False) ?_ (λz hz=>?_) (λ_ h=>h.elim)
 ·refine c8 (I:=λj z=>z.length=j/\∀t,t∈z->G0 t) ⟨rfl,by simp⟩ (λj t z ht hz=>?_) λz hz=>hz;have hj:=(aa.1 ht).1;unfold Aac;rw[Cn (by omega)];refine(cP (by omega) (by omega)).bind λv _=>?_;obtain⟨w1,w2⟩:=Asi (hs.thr t (ae ht)) v;rw[w1,ab];refine(cQ (by simp;omega)).bind λw hw=>c7 ?_;subst hw;refine⟨by simp;omega,λx hx=>?_⟩;rcases am.1 hx with hx|hx
  ·exact hz.2 x hx
  ·rw[aC.1 hx];exact w2
 ·refine Ok.andThen (A:=λ_=>True) (B:=λr=>r.2≠0) ?_ (λ_ _=>Ok.pure λ_=>⟨hz.1,hl,?_,hz.2⟩) (λr h=>Ok.pure λe=>absurd e h)
  ·refine c8 (I:=λ_ _=>True) trivial (λj v z _ _=>?_) λ_ _=>trivial;unfold Aab;exact(Hj _ _ _).bind λ_ _=>c6 (λ_=>Ok.ret (by decide)) λ_=>c7 trivial
  ·rcases hc.1.2 with h|h
   ·exact .inl (by cases h2:last with
     |nil=>rfl
     |cons a b=>rw[h2]at h;simp at h)
   ·exact .inr (by dsimp only;omega)
theorem As4(hs:Jf s)(most:List Int)(last:List Bz)(d:Ch):Ok (Amh s most last d) λy=>y.2=0->Wf s.A4.length y.1/\(-500000<=d.Bow/\d.Bow<=500000)/\(-500000<=d.Stern/\d.Stern<=500000) /\ -500000<=d.Surge/\d.Surge<=500000:=by
 have hl:=hs.len;unfold Amh;refine(Ok.mkI (by omega) (by omega)).bind λz _=>(Auu hs most last z).bind λy hy=>?_;refine Ok.bind (P:=λb=>y.2=0->b=true->∀x,x∈[d.Surge,d.Bow,d.Stern] -> -500000<=x/\x<=500000) (c9 (λ_=>(Hj _ _ _).mono λb hb _=>hb (by simp)) λhn he=>absurd ⟨by simpa using he,trivial⟩ hn) λb hb=>c6 (λ_=>Ok.pure λh=>by cases h) λhc=>Ok.pure λhe=>?_;have he2:y.2=0:=he;have hbt:b=true:=by
  simp only[he2,beq_self_eq_true,bt,cv]at hc;exact hc
 have:=hb he2 hbt;exact⟨hy he2,this _ (by simp),this _ (by simp),this _ (by simp)⟩
theorem Anq(hs:Jf s)(l:List Bz):Ok (Amf s l) λ_=>True:=by
 have hl:=hs.len;unfold Amf;rw[Oh hs,ab];refine c6 (λhc=>by cases hc) λ_=>c6 (λ_=>Ok.pure trivial) λhc=>?_;simp only[Ap1,dF]at hc;refine Ok.andThen (A:=λ_=>True) (B:=λ_=>True) ?_ (λ_ _=>Ok.pure trivial) (λ_ _=>Ok.pure trivial);refine c8 (I:=λ_ _=>True) trivial (λj v z hv _=>?_) λ_ _=>trivial;have hj:=(aa.1 hv).1;unfold Aiy;refine c6 (λ_=>Ok.ret trivial) λ_=>?_;rw[Cn (by omega)];exact(cP (by omega) (by omega)).bind λ_ _=>c6 (λ_=>c7 trivial) λ_=>c7 trivial
theorem Ahg(hs:Jf s)(most:List Int)(last:List Bz)(d:Ch):Ok (Amm s most last d) λy=>y.2=0->y.1.Thrusts.length=s.A4.length:=by
 have hl:=hs.len;unfold Amm;refine(As4 hs most last d).bind λy hy=>c6 (λhc=>Ok.pure λh=>?_) λhc=>?_
 ·have h2:y.2=0:=h;rw[h2]at hc;cases hc
 simp only[dF]at hc;obtain⟨hm,h1,h2,h3⟩:=hy hc;refine(Wv hm 0).bind λa ha=>(Q_ (by omega) ha.2 h1).bind λb hb=>(Wv hm 1).bind λc hc=>(Q_ (by omega) hc.2 h2).bind λe he=>?_;refine Ok.andThen (A:=λz=>z.length=s.A4.length) (B:=λ(_:Unit)=>False) ?_ (λz hz=>?_) (λ_ h=>h.elim)
 ·refine c8 (I:=λ_ z=>z.length=s.A4.length) (by omega) (λj v z hv hz=>?_) λz hz=>hz;have hj:=(aa.1 hv).1;unfold Ai5;rw[Cn (by omega)];refine(cP (by omega) (by omega)).bind λ_ _=>(cP (by omega) (by omega)).bind λ_ _=>(cT (by omega) (by omega)).bind λw hw=>c7 ?_;rw[hw,bl];exact hz
 ·refine(Anv hm hz).bind λf hf=>(Q_ (by omega) hf.2 h3).bind λg hg=>?_;refine Ok.andThen (A:=λw=>w.length=s.A4.length) (B:=λ(_:Unit)=>False) ?_ (λw hw=>(Anq hs w).bind λ_ _=>Ok.pure λ_=>hw) (λ_ h=>h.elim);refine c8 (I:=λj w=>w.length=j) rfl (λj v w hv hw=>?_) λw hw=>by rw[hz]at hw;exact hw
  have hj:=(aa.1 hv).1;unfold Ai4;rw[Cn (by omega)];refine(cP (by omega) (by omega)).bind λ_ _=>(cQ (by simp;omega)).bind λu hu=>c7 ?_;rw[hu];simp;omega
theorem Abn(hs:Jf s)(f:Bd):Ok (Ami s f) λ_=>True:=by
 unfold Ami;rw[Oh hs,ab];exact c6 (λhc=>by cases hc) λ_=>(Hj _ _ _).bind λ_ _=>Ok.bind (P:=λ_=>True) (c9 (λ_=>(Hj _ _ _).mono λ_ _=>trivial) λ_=>trivial) λ_ _=>c6 (λ_=>Ok.pure trivial) λ_=>(Acm _ _).bind λ_ _=>(Hj _ _ _).bind λ_ _=>c6 (λ_=>Ok.pure trivial) λ_=>Ok.pure trivial
theorem Aok(hs:Jf s)(able:List Int)(f:Bd):Ok (Am9 s able f) λ_=>True:=by
 unfold Am9 Avq Avp Avk Avg;refine Ok.bind (P:=λ_=>True) (Ok.bind (P:=λ_=>True) (Ok.bind (P:=λ_=>True) (Ok.bind (P:=λ_=>True) ?_ λ_ _=>Ok.pure trivial) λ_ _=>c6 (λ_=>Ok.pure trivial) λ_=>(Abn hs _).bind λ_ _=>Ok.pure trivial) λd _=>c6 (λ_=>Ok.pure trivial) λ_=>(Ahg hs able [] d.1).bind λ_ _=>c6 (λ_=>Ok.pure trivial) λ_=>Ok.pure trivial) λ_ _=>Ok.pure trivial;refine Ok.andThen (A:=λ_=>True) (B:=λ_=>True) ?_ (λ_ _=>Ok.pure trivial) (λ_ _=>Ok.pure trivial);refine c8 (I:=λ_ _=>True) trivial (λj x z _ _=>?_) λ_ _=>trivial;unfold Aiw;exact c6 (λ_=>Ok.ret trivial) λ_=>c7 trivial
set_option linter.unusedVariables false
theorem Ags(p:Ar)(l:List A_):Ok (Qz l p) λ_=>True:=by
 unfold Qz jH;refine Ok.bind (P:=λ_=>True) ?_ (λ_ _=>Ok.pure trivial);refine Ok.andThen (A:=λ_=>True) (B:=λ_=>True) ?_ (λ_ _=>Ok.pure trivial) (λ_ _=>Ok.pure trivial);refine c8 (I:=λ_ _=>True) trivial (λj x s hx _=>?_) λ_ _=>trivial;unfold Vq;exact c6 (λ_=>Ok.ret trivial) λ_=>c7 trivial
theorem qM(h:Ax b)(y:Bu)(hp:Av b p.Power):Ok (F49 b y p) λ_=>True:=by
 unfold F49;rw[Ou h hp];simp only[ab];refine c6 (λ_=>Ok.pure trivial) λ_=>c6 (λ_=>Ok.pure trivial) λ_=>c6 (λ_=>Ok.pure trivial) λ_=>?_;rw[(Ahq (hp.lens h) _).1];simp only[ab];exact Ok.bind (P:=λ_=>True) (c9 (λ_=>Ags _ _) λ_=>trivial) λ_ _=>c6 (λ_=>Ok.pure trivial) λ_=>Ok.pure trivial
variable{l:List Aa}
theorem Alk(hl:Di l)(hn:l.length<=1000):Qy l=some l:=by
 refine cU ?_;unfold Qy;refine c6 (λ_=>Ok.pure rfl) λ_=>Ok.andThen (A:=λ_=>True) (B:=λ(_:Unit)=>False) ?_ (λ_ _=>Ok.pure rfl) (λ_ h=>h.elim);refine cO (λz=>1<=z/\z<=1001) (λz=>((l.length:Int)-z).toNat) _ _ ⟨by omega,by omega⟩ (by omega) λz hz=>?_;unfold Aau;refine c6 (λhc=>?_) (λ_=>cS trivial);simp only[dy]at hc;rw[Az (n:=z-1) (by omega),Az (n:=z+1) (by omega)];refine(cP (by omega) hc).bind λa ha=>(cP (by omega) (by omega)).bind λb hb=>c6 (λhe=>?_) λ_=>c7 ⟨by omega,by omega⟩;simp only[Ad9,H1]at he;have:=N9 hl hb ha (by omega);rw[C7.1 he,Jp]at this;cases this
theorem Ano{b:List Aa}(h:(a++b).Nodup)(hn:(a++b).length<=900):F68 a b=some (E5 a b):=by
 unfold F68 Abm I0;have e:([a,b]:List (List Aa)).flatten=a++b:=by simp
 rw[e,dD (by omega)];have hs:=Ki a b;rw[aB]at hn;show Qy (Hk (a++b))=_;rw[Wp h];exact Alk (Ya a b) (by show (E5 a b).length<=1000;omega)
structure Aly(v:A9)(n:Nat)(p:Ar):Prop where
 st:Av v.Board p.Power
 ros:p.Ba.length<=1000
 ev:p.Bh.length<=10001*n
def nxP(v:A9)(p:Ar)(a:Aw):Ar:=⟨p.Time,doP v.Board p.Power p.Time a,p.Ba,p.Bh++doE v.Board p.Power p.Time a⟩
theorem Aly.next(h:Ax v.Board)(hp:Aly v n p)(a:Aw):Aly v (n+1) (nxP v p a) where
 st:=Apn h hp.st _ _
 ros:=hp.ros
 ev:=by
  have h1:=Xm h hp.st p.Time a;have h2:=hp.ev;show (p.Bh++_).length<=_;rw[aB];omega
theorem Ate(h:O2 v)(hn:n<=9)(hp:Aly v n p)(hb:∀x,x∈broken->Ds x)(hf:∀x,x∈fails->Ds x)(hbn:broken.length<=20)(hfn:fails.length<=40)(f:Bd):Ok (F69 v p broken fails f) λ_=>True:=by
 have he:=hp.ev;obtain⟨c,hc,_⟩:=qM h.Ao v.Table hp.st;unfold F69;exact(Aax h hp.st hp.ros (by omega) hc hb hf hbn hfn).bind λy _=>Ok.bind (P:=λ_=>True) (c9 (λ_=>Aok h.ship _ _) λ_=>trivial) λ_ _=>Ok.pure trivial
theorem Aq0(h:D8 b l):l.Nodup:=by
 have ha:∀(n i:Nat) x y,l[i]? = some x->l[i+n+1]? = some y->K0 x y:=by
  intro n;induction n with
  |zero=>intro i x y hx hy;exact h.asc i x y hx hy
  |succ n ih=>
   intro i x y hx hy;have hl:=(aa.1 hy).1;have hz:l[i+n+1]? = some (l[i+n+1]'(by omega)):=ai (by omega);have h1:=ih i x _ hx hz;have h2:=h.asc (i+n+1) _ y hz (by rw[show i+n+1+1=i+(n+1)+1 from by omega];exact hy);unfold K0 at h1 h2 ⊢;omega
 refine bH.2 λi j hi hj hij=>?_;have h1:=ha (j-i-1) i _ _ (ai hi) (by rw[show i+(j-i-1)+1=j from by omega];exact ai hj);intro e;rw[e]at h1;unfold K0 at h1;omega
theorem Aog(h:O2 v)(hS:Av v.Board p.Power)(hb:∀x,x∈broken->Ds x)(hbn:broken.length<=20)(hd:∀x,x∈broken->4<x.Kind)(ha:broken.Nodup):F21 v.Design p broken=some (El v.Design.Links (E5 broken p.Power.Al)):=by
 have hbl:=hS.brk.len;have hul:=Ki broken p.Power.Al;have hnd:(broken++p.Power.Al).Nodup:=List.nodup_append.2 ⟨ha,Aq0 hS.brk,λx hx y hy e=>by
  have h1:=hd x hx;have h2:=hS.brk.mem y hy;unfold Cu at h2;rw[e]at h1;omega⟩
 unfold F21;rw[Ano hnd (by simp;omega),ab,Ac3 h.des (λx hx=>?_) (by omega)]
 ·rfl
 ·rcases Q3.1 hx with hx|hx
  ·exact hb x hx
  ·exact Wt h.Ao (hS.brk.mem x hx)
set_option linter.unusedVariables false
variable{s:Af}
theorem Akk(hs:A1 s):Ok (F12 s) λy=>Di y.1/\(∀x,x∈y.1->Ds x/\4<x.Kind)/\y.1.length<=3/\A1 y.2:=by
 unfold F12;refine(Au8 hs (n:=3) (by omega)).bind λy hy=>?_;have hl:=hy.2.1;refine Ok.andThen (A:=λz=>Di z/\(∀x,x∈z->Ds x/\4<x.Kind)/\z.length<=3) (B:=λ(_:Unit)=>False) ?_ (λz hz=>Ok.pure ⟨hz.1,hz.2.1,hz.2.2,hy.2.2⟩) (λ_ h=>h.elim);refine c8 (I:=λj z=>Di z/\(∀x,x∈z->Ds x/\4<x.Kind)/\z.length<=j) ⟨bG,by simp,by simp⟩ (λj x z hx hz=>?_) λz hz=>⟨hz.1,hz.2.1,by have:=hz.2.2;omega⟩;obtain⟨z1,z2,z3⟩:=hz;have hj:=(aa.1 hx).1;unfold Asg;refine c6 (λhc=>?_) λ_=>c7 ⟨z1,z2,by omega⟩;simp only[dy]at hc;rw[Pr z1 (by omega),ab];have hil:=Lb x z;refine c7 ⟨Hm _ z1,λu hu=>?_,by omega⟩;rcases(Ez _ _ _).1 hu with rfl|hu
 ·exact⟨(hy.1 _ (ae hx)).1,by omega⟩
 ·exact z2 u hu
theorem Ag1(L:List A6)(b:List Aa):El L (El L b)=El L b:=Hr (M3 _ _) (M3 _ _) λx=>by
 rw[M2];refine⟨λh=>?_,λh=>.at h⟩;induction h with
 | «at» h=>exact h
 | «by» _ x hx e1 e2 ih=>rw[M2]at ih ⊢;exact .by ih x hx e1 e2
theorem Agq(h:l.length<=1000):F27 l l=some true:=by
 refine cU ?_;unfold F27;refine c6 (λhc=>by simp at hc) λ_=>Ok.andThen (A:=λ_=>True) (B:=λ_=>False) ?_ (λ_ _=>Ok.pure rfl) (λ_ h=>h.elim);refine c8 (I:=λ_ _=>True) trivial (λj x z hx _=>?_) λ_ _=>trivial;have hj:=(aa.1 hx).1;unfold Ar0;rw[Cn (by omega)];refine(cP (by omega) (by omega)).bind λy hy=>c6 (λhc=>?_) λ_=>c7 trivial;rw[aE,hx]at hy;cases hy;simp[Aws]at hc
theorem Ah7{H:List Aa->Aa->Option Bool}{M:List Aa->Option Bool}{now:List Aa}(hH:∀x,H now x=some (Ct now x))(hM:∀x,Ds x->Ok (M [x]) λ_=>True) :
  ∀l:List Aa,(∀x,x∈l->Ds x)->Ok (Rz H M now l) λus=>us.map (·.Part)=l.filter λx=>!Ct now x
 | [],_=>Ok.pure rfl
 |x::l,hl=>by
  unfold Rz;rw[hH,ab];obtain⟨us,e,h⟩:=Ah7 hH hM l λy hy=>hl y (ak _ hy);rw[e];cases hx:Ct now x with
  |true=>exact Ok.pure (by rw[h];simp[hx])
  |false=>exact(hM x (hl x aj)).bind λm _=>Ok.pure (by simp[hx,h])
theorem Anh(h:O2 v)(hp:Ql v.Board v.Table p)(he:p.Bh=[])(hb:∀x,x∈broken->Ds x)(hbn:broken.length<=20)(hd:∀x,x∈broken->4<x.Kind)(ha:broken.Nodup)(f:Bd) :
  Ok (F26 v p broken f) λy=>y.2=0/\y.1.map (·.Part)=v.Design.Parts.filter λx=>!Ct (El v.Design.Links (E5 broken p.Power.Al)) x:=by
 have hbu:=h.Ao.buses;have hro:=hp.nro;have hbl:=hp.st.brk.len;have hlk:=h.des.links.len;have hul:=Ki broken p.Power.Al;have hfl:=R6 v.Design.Links (E5 broken p.Power.Al);unfold F26 Sk Yr;refine(Avz h hp (by rw[he];simp) hb (fails:=[]) (by simp) hbn (by simp)).bind λy hy=>?_;rw[hy.err,Aog h hp.st hb hbn hd ha];generalize El v.Design.Links (E5 broken p.Power.Al)=now at hfl;obtain⟨us,e,hm⟩:=Ah7 (H:=F53) (M:=λl=>F69 v p broken l f) (now:=now) (λx=>P5 _ x (by omega)) (λx hx=>Ate h (n:=0) (by omega) ⟨hp.st,by omega,by rw[he];simp⟩ hb (fails:=[x]) (λy hy=>by rw[aC.1 hy];exact hx) hbn (by simp) f) v.Design.Parts h.des.ok;have hl:us.length<=v.Design.Parts.length:=by
  have:=congrArg List.length hm;have h2:=aV (λx=>!Ct now x) v.Design.Parts;rw[ar]at this;omega
 have hn:=h.des.len;have ec:uN us=some us:=by
  unfold uN;rw[dD (by omega)];rfl
 simp only[ab,e,ec];exact Ok.pure ⟨rfl,hm⟩
theorem Ava(hs:A1 s):Ok (F19 s) λy=>A1 y.2:=by
 grind[F19,Ok.bind,Fe,Ok.pure]
theorem An4:F9=some true:=by kernel_rfl
theorem consequenceBroken_law(t:List Int):F5 t=some true:=by
 refine cU ?_;unfold F5;refine c6 (λ_=>by rw[An4];exact Ok.pure rfl) (λ_=>(A2w t).bind λs hs=>(Aj2 hs).bind λw hw=>(Akk hw.2.2).bind λo ho=>?_);obtain⟨hv,⟨hp,hT,hE,_⟩,_⟩:=hw;obtain⟨o1,o2,o3,o4⟩:=ho;have hS:=(hp w.1.Table).st;have hbl:=hS.brk.len;have hlk:=hv.des.links.len;have hul:=Ki o.1 w.2.1.Power.Al;have hfl:=R6 w.1.Design.Links (E5 o.1 w.2.1.Power.Al);have hid:=Ag1 w.1.Design.Links (E5 o.1 w.2.1.Power.Al);rw[Aog hv hS (λx hx=>(o2 x hx).1) (by omega) (λx hx=>(o2 x hx).2) (o1.imp qK),ab];refine(Ava o4).bind λf _=>(Anh hv (hp w.1.Table) hE (λx hx=>(o2 x hx).1) (by omega) (λx hx=>(o2 x hx).2) (o1.imp qK) f.1).bind λy hy=>?_;obtain⟨y1,y2⟩:=hy;generalize El w.1.Design.Links (E5 o.1 w.2.1.Power.Al)=now at hfl hid y2;have hn:=hv.des.len;have hyl:y.1.length=(w.1.Design.Parts.filter λx=>!Ct now x).length:=by rw[←y2,ar]
 have hyl2:=aV (λx=>!Ct now x) w.1.Design.Parts;have hasc:Di (y.1.map (·.Part)):=by rw[y2];exact List.Pairwise.filter _ hv.des.asc
 have hnot:∀x,x∈y.1->Ct now x.Part=false:=λx hx=>by
  have:x.Part∈y.1.map (·.Part):=an.2 ⟨x,hx,rfl⟩;rw[y2,ay]at this;simpa using this.2
 rw[Ak7 hv.des (by omega),hid,y1];refine Ok.bind (P:=λu=>u=now) (c9 (λ_=>Ok.pure rfl) λhn=>absurd ⟨rfl,trivial⟩ hn) λu hu=>?_;subst hu;rw[Agq (by omega)];refine Ok.bind (P:=λu=>u=true) (c9 (λ_=>Ok.pure rfl) λhn=>absurd ⟨rfl,trivial⟩ hn) λb hb=>?_;subst hb;refine c6 (λhc=>by simp at hc) λ_=>?_;refine Ok.andThen (A:=λz=>z=(y.1.length:Int)) (B:=λ(_:Unit)=>False) ?_ (λz hz=>?_) (λ_ h=>h.elim)
 ·refine c8 (I:=λj z=>z=(((w.1.Design.Parts.take j).filter λx=>!Ct u x).length:Int)/\((w.1.Design.Parts.take j).filter λx=>!Ct u x).length<=j) ⟨rfl,by simp⟩ (λj x z hx hz=>?_) λz hz=>by rw[hz.1,aJ,hyl]
  obtain⟨rfl,hz⟩:=hz;have hj:=(aa.1 hx).1;unfold Aw0;rw[Ju,ab,Bm hx,bm,aB];rw[Az (by omega)];cases hh:Ct u x with
  |true=>exact c7 (by simp[hh];omega)
  |false=>exact c7 (by simp[hh];omega)
 ·subst hz;refine Ok.andThen (A:=λ_=>True) (B:=λ_=>False) ?_ (λ_ _=>?_) (λ_ h=>h.elim)
  ·refine c8 (I:=λ_ _=>True) trivial (λj x z hx _=>?_) λ_ _=>trivial;have hj:=(aa.1 hx).1;unfold Awz;rw[Cn (by omega),Ju,ab,hnot x (ae hx)];refine Ok.bind (P:=λa=>0<j->Dg a.Part x.Part=true) (c9 (λhg=>?_) λhg h0=>absurd ⟨rfl,by simp;omega,trivial⟩ hg) λa ha=>c6 (λhc=>?_) λ_=>c7 trivial
   ·have h0:0<(j:Int):=dH hg.2.1;rw[Az (by omega)];refine(cP (by omega) (by omega)).mono λa ha _=>?_;refine N9 hasc (i:=((j:Int)-1).toNat) (j:=j) (by rw[ax,ha];rfl) (by rw[ax,hx];rfl) (by omega)
   ·exfalso;simp only[A1p,aT,ac,dy,aU]at hc;rw[Cn (by omega)]at hc;rw[Acf,ha (by omega)]at hc;cases hc.2
  ·refine Ok.bind (P:=λb=>b=true) (c9 (λ_=>by rw[An4];exact Ok.pure rfl) λhg=>absurd ⟨by simp,trivial⟩ hg) λb hb=>Ok.pure (by subst hb;simp)
end Go.Proofs.YtiaaaghdkhnonaaGreat
