import Derived.Test.YtiaaaghdkhnonaaGreatPl0
namespace Go.Proofs.YtiaaaghdkhnonaaGreat
open Go.SL
variable{α:Type}{s:A3}{b:Aa}{P p:Ad}{z:Ad×List A0}{t:An}{m:B0}{v:Ba}{r:Co}{T a c d hi hi' k lo st:Int}{acts:List A0}{broken fails:List Ab}{l:List Ay}{most ns x x0 y:List Int}{i j n:Nat}
def Uk(L:List Int)(l:List Int):Int:=l.foldl (λs c=>s+L.getD c.toNat 0) 0
theorem Ab0(L:List Int)(l:List Int)(c:Int):Uk L (l++[c])=Uk L l+L.getD c.toNat 0:=by
 grind[Uk]
def Ix(b:Aa)(p:Ad)(n:Nat):Nat:=((groups b p).getD n 0).toNat
def Ia(b:Aa)(p:Ad)(n:Nat):Int:=if 0<(isl b p (Ix b p n)).Ae.length then Uk p.Ao (isl b p (Ix b p n)).Ag else 0
def Ad5(b:Aa):List Int:=b.Ae.map (·.Rating)
def N8(b:Aa)(p:Ad)(n:Nat):Int:=Uk (Ad5 b) (isl b p (Ix b p n)).Ae
variable{f:Nat}
theorem A1d{i:Int}(hi:i∈(isl b p f).Ag):0<=i/\i<b.Ag.length:=by
 obtain⟨k,hk,rfl⟩:=ao.1 hi;grind
theorem A1c{i:Int}(hi:i∈(isl b p f).Ae):0<=i/\i<b.Ae.length:=by
 obtain⟨k,hk,rfl⟩:=ao.1 hi;grind
theorem Afh(h:A1 b)(hp:Ax b p)(h0:0<=c)(h1:c<b.Ag.length):getI p.Ao c=some (p.Ao.getD c.toNat 0)/\0<=p.Ao.getD c.toNat 0/\p.Ao.getD c.toNat 0<=(b.Ag.getD c.toNat default).Load/\p.Ao.getD c.toNat 0<=50000:=by
 have hn:=hp.nli;obtain⟨k,rfl⟩:∃k:Nat,c=(k:Int):=⟨c.toNat,by omega⟩;rw[aB];have hg:=Gn (b:=b) (i:=k) (by omega);have hl:=hp.lim k _ _ (Qq (p:=p) (by omega)) hg;have hc:=(h.co k _ hg).1;exact⟨B4 (Qq (by omega)),hl.1,hl.2,by omega⟩
theorem A9y(h0:0<=c)(h1:c<b.Ag.length):getI b.Ag c=some (b.Ag.getD c.toNat default):=by
 obtain⟨k,rfl⟩:∃k:Nat,c=(k:Int):=⟨c.toNat,by omega⟩;rw[aB];exact B4 (Gn (by omega))
theorem Ak7(h:A1 b)(hp:Ax b p)(hn:n<b.Am.toNat):Aii b p (n:Int)=some (Ia b p n)/\0<=Ia b p n/\Ia b p n<=800000:=by
 have hcl:=h.col;have hlen:(isl b p (Ix b p n)).Ag.length<=b.Ag.length:=Ff _ _;have key:Ok (Aii b p (n:Int)) λy=>y=Ia b p n/\0<=Ia b p n/\Ia b p n<=800000:=by
  unfold Aii;have hof:J7 b p (n:Int)=some (isl b p (Ix b p n),true):=of_eq h hp hn;rw[hof];simp only[aa];refine Ok.andThen (A:=λs=>s=Ia b p n/\0<=Ia b p n/\Ia b p n<=800000) (B:=λ(_:Unit)=>False) ?_ (λs hs=>Ok.pure hs) (λ_ h=>h.elim);by_cases hs:0<(isl b p (Ix b p n)).Ae.length
  ·refine c8 (I:=λj s=>s=Uk p.Ao ((isl b p (Ix b p n)).Ag.take j)/\0<=s/\s<=50000*(j:Int)) ⟨rfl,by omega,by omega⟩ (λj c s hc hI=>?_) λs hI=>?_
   ·obtain⟨h1,h2,h3⟩:=hI;have hj:j<(isl b p (Ix b p n)).Ag.length:=(ab.1 hc).1;have hcm:=A1d (ae hc);obtain⟨g1,g2,g3,g4⟩:=Afh h hp hcm.1 hcm.2;unfold zY;have e:decide (((isl b p (Ix b p n)).Ae.length:Int)>0)=true:=dN (by omega);show Ok (bif decide (((isl b p (Ix b p n)).Ae.length:Int)>0)then _ else _) _;rw[e,g1];simp only[cond_true,aa];rw[Az (by omega)];refine c7 ⟨?_,by omega,by omega⟩;rw[Bp hc,Ab0,h1]
   ·rw[aE]at hI;have e:Ia b p n=Uk p.Ao (isl b p (Ix b p n)).Ag:=by unfold Ia;rw[if_pos hs]
    grind
  ·have e:Ia b p n=0:=by unfold Ia;rw[if_neg hs]
   rw[e];refine c8 (I:=λ_ s=>s=0) rfl (λj c s hc hI=>?_) λs hI=>⟨hI,by omega,by omega⟩;unfold zY;have e:decide (((isl b p (Ix b p n)).Ae.length:Int)>0)=false:=dQ (by omega);show Ok (bif decide (((isl b p (Ix b p n)).Ae.length:Int)>0)then _ else _) _;rw[e];exact c7 hI
 obtain⟨r,e,h1,h2⟩:=key;rw[h1]at e;exact⟨e,h2⟩
theorem Aca(h:A1 b)(hp:Ax b p)(hn:n<b.Am.toNat):Aih b p (n:Int)=some (N8 b p n)/\0<=N8 b p n/\N8 b p n<=400000:=by
 have hcl:=h.sol;have hlen:(isl b p (Ix b p n)).Ae.length<=b.Ae.length:=Ff _ _;have key:Ok (Aih b p (n:Int)) λy=>y=N8 b p n/\0<=N8 b p n/\N8 b p n<=400000:=by
  unfold Aih;have hof:J7 b p (n:Int)=some (isl b p (Ix b p n),true):=of_eq h hp hn;rw[hof];simp only[aa];refine Ok.andThen (A:=λs=>s=N8 b p n/\0<=N8 b p n/\N8 b p n<=400000) (B:=λ(_:Unit)=>False) ?_ (λs hs=>Ok.pure hs) (λ_ h=>h.elim);refine c8 (I:=λj s=>s=Uk (Ad5 b) ((isl b p (Ix b p n)).Ae.take j)/\0<=s/\s<=50000*(j:Int)) ⟨rfl,by omega,by omega⟩ (λj c s hc hI=>?_) λs hI=>?_
  ·obtain⟨h1,h2,h3⟩:=hI;have hj:j<(isl b p (Ix b p n)).Ae.length:=(ab.1 hc).1;have hcm:=A1c (ae hc);unfold Alz;refine(cW hcm.1 hcm.2).bind λy hy=>?_;have hr:=(h.so y (ae hy)).1;have e:(Ad5 b).getD c.toNat 0=y.Rating:=by simp[Ad5,List.getD,hy]
   rw[Az (by omega)];refine c7 ⟨?_,by omega,by omega⟩;rw[Bp hc,Ab0,h1,e]
  ·rw[aE]at hI;unfold N8;grind
 obtain⟨r,e,h1,h2⟩:=key;rw[h1]at e;exact⟨e,h2⟩
def Oj(b:Aa)(p:Ad)(n:Nat):Int:=max 0 (Ia b p n-N8 b p n)
theorem Acn(h:A1 b)(hp:Ax b p)(acts:List A0)(hn:n<b.Am.toNat):Wd ⟨b,p,acts⟩ (n:Int)=some (Oj b p n):=by
 obtain⟨h1,h2,h3⟩:=Ak7 h hp hn;obtain⟨h4,h5,h6⟩:=Aca h hp hn;unfold Wd;simp only[h1,h4,aa];rw[Az (by omega)];rfl
theorem A1q(h:A1 b)(hp:Ax b p)(hn:n<b.Am.toNat):0<=Oj b p n/\Oj b p n<=800000:=by
 obtain⟨h1,h2,h3⟩:=Ak7 h hp hn;obtain⟨h4,h5,h6⟩:=Aca h hp hn;unfold Oj;omega
def Cn(p:Ad)(L:List Int):Ad:=⟨p.Ai,p.Ae,L,p.Al⟩
def Fj(p:Ad)(C:List Bool):Ad:=⟨C,p.Ae,p.Ao,p.Al⟩
def Ib(b:Aa)(p:Ad)(n:Nat)(c:Int):Int:=min (Oj b p n) (p.Ao.getD c.toNat 0-(b.Ag.getD c.toNat default).Least)
def Px(b:Aa)(p:Ad)(n:Nat)(z:List Int×List A0)(c:Int):List Int×List A0:=
 if 0<Ib b (Cn p z.1) n c then (z.1.set c.toNat (z.1.getD c.toNat 0-Ib b (Cn p z.1) n c),z.2++[⟨5,c,z.1.getD c.toNat 0-Ib b (Cn p z.1) n c⟩]) else z
def Jz(b:Aa)(p:Ad)(n:Nat)(l:List Int)(z:List Int×List A0):List Int×List A0:=l.foldl (Px b p n) z
theorem Ab4(hp:Ax b p){c:Nat}{v:Int}(hv:0<=v/\v<=(b.Ag.getD c default).Load):Ax b (Cn p (p.Ao.set c v)) where
 ncl:=hp.ncl
 nso:=hp.nso
 nli:=by simp[Cn,hp.nli]
 run:=hp.run
 lim i n x hn hx:=by
  simp only[Cn,aD]at hn;by_cases e:c=i
  ·grind
  ·rw[if_neg e]at hn;exact hp.lim i n x hn hx
 one:=hp.one
 brk:=hp.brk
theorem Ak6(h:A1 b){z:List Int×List A0}(hz:Ax b (Cn p z.1))(h0:0<=c)(h1:c<b.Ag.length):Ax b (Cn p (Px b p n z c).1):=by
 unfold Px;split
 ·rename_i hl;obtain⟨_,g2,g3,_⟩:=Afh h hz h0 h1;have hco:=(h.co c.toNat _ (Gn (b:=b) (i:=c.toNat) (by omega))).2.1;have hm:Ib b (Cn p z.1) n c<=z.1.getD c.toNat 0-(b.Ag.getD c.toNat default).Least:=Int.min_le_right _ _;exact Ab4 (p:=Cn p z.1) hz (c:=c.toNat) ⟨by omega,by
   have:(Cn p z.1).Ao.getD c.toNat 0=z.1.getD c.toNat 0:=rfl;omega⟩
 ·exact hz
variable{l:List Int}
theorem Aff(h:A1 b)(hp:Ax b p)(hl:∀c,c∈l->0<=c/\c<b.Ag.length)(ha:acts.length+l.length<=100000)(hn:n<b.Am.toNat) :
  Wk ⟨b,p,acts⟩ l (n:Int)=some ⟨b,Cn p (Jz b p n l (p.Ao,acts)).1,(Jz b p n l (p.Ao,acts)).2⟩/\Ax b (Cn p (Jz b p n l (p.Ao,acts)).1)/\(Jz b p n l (p.Ao,acts)).2.length<=acts.length+l.length:=by
 have key : Ok (Wk ⟨b, p, acts⟩ l (n : Int)) λy => y = ⟨b, Cn p (Jz b p n l (p.Ao, acts)).1, (Jz b p n l (p.Ao, acts)).2⟩ /\ Ax b (Cn p (Jz b p n l (p.Ao, acts)).1) /\ (Jz b p n l (p.Ao, acts)).2.length <= acts.length + l.length := by
  unfold Wk;refine Ok.andThen (A:=λs=>s=Jz b p n l (p.Ao,acts)/\Ax b (Cn p s.1)/\s.2.length<=acts.length+l.length) (B:=λ(_:Unit)=>False) ?_ (λs hs=>?_) (λ_ h=>h.elim)
  ·refine c8 (I:=λj s=>s=Jz b p n (l.take j) (p.Ao,acts)/\Ax b (Cn p s.1)/\s.2.length<=acts.length+j) ⟨rfl,hp,by simp⟩ (λj c s hc hI=>?_) λs hI=>?_
   ·obtain⟨h1,h2,h3⟩:=hI;have hj:j<l.length:=(ab.1 hc).1;have hin:=hl c (ae hc);obtain⟨g1,g2,g3,g4⟩:=Afh h h2 hin.1 hin.2;have hco:=(h.co c.toNat _ (Gn (b:=b) (i:=c.toNat) (by omega))).2.1;have hcl:=(h.co c.toNat _ (Gn (b:=b) (i:=c.toNat) (by omega))).1;have hex:=A1q h h2 hn;have hE:=Acn h h2 s.2 hn;have hsucc:Jz b p n (l.take (j+1)) (p.Ao,acts)=Px b p n s c:=by
     rw[Bp hc,h1];unfold Jz;rw[bc];rfl
    have hok:=Ak6 (n:=n) h h2 hin.1 hin.2;have hless:w64 ((Cn p s.1).Ao.getD c.toNat 0-(b.Ag.getD c.toNat default).Least)=(Cn p s.1).Ao.getD c.toNat 0-(b.Ag.getD c.toNat default).Least:=Az (by omega);have hlen:s.1.length=b.Ag.length:=h2.nli;unfold Adf;refine Ok.bind (P:=λy=>y=Oj b (Cn p s.1) n) (cX hE rfl) λy hy=>?_;subst hy;refine Ok.bind (P:=λy=>y=(Cn p s.1).Ao.getD c.toNat 0) (cX g1 rfl) λy hy=>?_;subst hy;refine Ok.bind (P:=λy=>y=b.Ag.getD c.toNat default) (cX (A9y hin.1 hin.2) rfl) λy hy=>?_;subst hy;have em:min (Oj b (Cn p s.1) n) (w64 ((Cn p s.1).Ao.getD c.toNat 0-(b.Ag.getD c.toNat default).Least))=Ib b (Cn p s.1) n c:=by rw[hless];rfl
    have hlb:0<Ib b (Cn p s.1) n c->0<=(Cn p s.1).Ao.getD c.toNat 0-Ib b (Cn p s.1) n c/\(Cn p s.1).Ao.getD c.toNat 0-Ib b (Cn p s.1) n c<=50000:=λhh=>by
     have hm:Ib b (Cn p s.1) n c<=(Cn p s.1).Ao.getD c.toNat 0-(b.Ag.getD c.toNat default).Least:=Int.min_le_right _ _;omega
    refine c6 (λhq=>?_) (λhq=>?_)
    ·simp only[Zh,em,dJ,gt_iff_lt]at hq;have hb2:=hlb hq;rw[em,Az (by omega)];have eS:Px b p n s c=(s.1.set c.toNat (s.1.getD c.toNat 0-Ib b (Cn p s.1) n c),s.2++[⟨5,c,s.1.getD c.toNat 0-Ib b (Cn p s.1) n c⟩]):=by unfold Px;rw[if_pos hq]
     refine(d7 hin.1 (by omega)).bind λy hy=>?_;subst hy;refine Ok.bind (P:=λv=>v=s.1.getD c.toNat 0-Ib b (Cn p s.1) n c) ?_ λv hv=>?_
     ·refine(cW hin.1 (by rw[ba];omega)).mono λv hv=>?_;rw[bN (by omega)]at hv;cases hv;rfl
     ·subst hv;refine(cV (by simp;omega)).bind λw hw=>c7 ?_;subst hw;rw[hsucc,eS];rw[eS]at hok;exact⟨rfl,hok,by simp;omega⟩
    ·simp only[Zh,em,dK,gt_iff_lt]at hq;have eS:Px b p n s c=s:=by unfold Px;rw[if_neg hq]
     refine c7 ?_;rw[hsucc,eS];exact⟨rfl,h2,by show s.2.length<=_;omega⟩
   ·rw[aE]at hI;exact hI
  ·obtain⟨h1,h2,h3⟩:=hs;subst h1;exact Ok.pure ⟨rfl,h2,h3⟩
 obtain⟨r,e,h1,h2⟩:=key;rw[h1]at e;exact⟨e,h2⟩
def isC(c:Int)(x:Ak):Bool:=x.Kind==3&&x.B==c
theorem Aq9(h:A1 b)(hp:Ax b p)(ha:acts.length<=100000)(c:Int):uW ⟨b,p,acts⟩ c=some (⟨b,Fj p (acC b p.Ai (isC c)),acts++acA b p.Ai (isC c)⟩,c):=by
 have hbl:=h.brl;have hnc:=hp.ncl;refine cZ ?_;unfold uW;refine Ok.andThen (A:=λs=>s=Em b p.Ai (isC c) b.Ah.length) (B:=λ(_:Unit)=>False) ?_ (λs hs=>?_) (λ_ h=>h.elim)
 ·refine c8 (I:=λj s=>s=Em b p.Ai (isC c) j) rfl (λj x s hx hs=>?_) λs hs=>hs;have hj:j<b.Ah.length:=(ab.1 hx).1;have hfl:=Hs b p.Ai (isC c) j;have hfs:=Sw (C:=p.Ai) (q:=isC c) hx;subst hs;unfold Adg;rw[Ck (by omega),B4 (Vu hp hj)];simp only[aa];have e:Ail x c=isC c x:=rfl;rw[e,hfs];cases (p.Ai.getD j false&&isC c x) with
  |false=>refine c7 ?_;simp
  |true=>
   refine Ok.bind (P:=λy=>y=Em b p.Ai (isC c) j++[(j:Int)]) (cV (by simp;omega)) λy hy=>c7 ?_;rw[hy];simp
 ·subst hs;have hfl:=Hs b p.Ai (isC c) b.Ah.length;refine Ok.andThen (Y0 (b:=b) (p:=p) (acts:=acts) (l:=Em b p.Ai (isC c) b.Ah.length) (by omega) λi hi=>?_) (λs hs=>?_) (λ_ h=>h.elim)
  ·obtain⟨k,rfl,hk,_⟩:=Nm.1 hi;omega
  ·subst hs;exact Ok.pure rfl
def Oz(b:Aa)(p:Ad)(n:Nat)(z:List Bool×List A0)(c:Int):List Bool×List A0:=
 if 0<p.Ao.getD c.toNat 0/\0<Oj b (Fj p z.1) n then (acC b z.1 (isC c),z.2++acA b z.1 (isC c)) else z
def Hb(b:Aa)(p:Ad)(n:Nat)(l:List Int)(z:List Bool×List A0):List Bool×List A0:=l.foldl (Oz b p n) z
theorem Akq(h:A1 b)(hp:Ax b p)(hl:∀c,c∈l->0<=c/\c<b.Ag.length)(ha:acts.length+24*l.length<=100000)(hn:n<b.Am.toNat) :
  Wj ⟨b,p,acts⟩ l (n:Int)=some ⟨b,Fj p (Hb b p n l (p.Ai,acts)).1,(Hb b p n l (p.Ai,acts)).2⟩/\Ax b (Fj p (Hb b p n l (p.Ai,acts)).1)/\(Hb b p n l (p.Ai,acts)).2.length<=acts.length+24*l.length:=by
 have hbl:=h.brl
 have key : Ok (Wj ⟨b, p, acts⟩ l (n : Int)) λy => y = ⟨b, Fj p (Hb b p n l (p.Ai, acts)).1, (Hb b p n l (p.Ai, acts)).2⟩ /\ Ax b (Fj p (Hb b p n l (p.Ai, acts)).1) /\ (Hb b p n l (p.Ai, acts)).2.length <= acts.length + 24 * l.length := by
  unfold Wj;refine Ok.andThen (A:=λs=>∃z:List Bool×List A0,s=(b.Am,b.Ah,b.Ae,b.Ag,b.Phase,b.Ar,z.1,p.Ae,p.Ao,p.Al,z.2)/\z=Hb b p n l (p.Ai,acts)/\Ax b (Fj p z.1)/\z.2.length<=acts.length+24*l.length) (B:=λ(_:Unit)=>False) ?_ (λs hs=>?_) (λ_ h=>h.elim)
  ·refine c8 (I:=λj s=>∃z:List Bool×List A0,s=(b.Am,b.Ah,b.Ae,b.Ag,b.Phase,b.Ar,z.1,p.Ae,p.Ao,p.Al,z.2)/\z=Hb b p n (l.take j) (p.Ai,acts)/\Ax b (Fj p z.1)/\z.2.length<=acts.length+24*j) ⟨(p.Ai,acts),rfl,rfl,hp,by simp⟩ (λj c s hc hI=>?_) λs hI=>?_
   ·obtain⟨z,h0,h1,h2,h3⟩:=hI;subst h0;have hj:j<l.length:=(ab.1 hc).1;have hin:=hl c (ae hc);obtain⟨g1,g2,g3,g4⟩:=Afh h hp hin.1 hin.2;have hE:=Acn h h2 z.2 hn;have hsucc:Hb b p n (l.take (j+1)) (p.Ai,acts)=Oz b p n z c:=by
     rw[Bp hc,h1];unfold Hb;rw[bc];rfl
    unfold Ade;refine Ok.bind (P:=λy=>y=p.Ao.getD c.toNat 0) (cX g1 rfl) λy hy=>?_;subst hy;have stay:¬(0<p.Ao.getD c.toNat 0/\0<Oj b (Fj p z.1) n)->∃w:List Bool×List A0,(b.Am,b.Ah,b.Ae,b.Ag,b.Phase,b.Ar,z.1,p.Ae,p.Ao,p.Al,z.2)=(b.Am,b.Ah,b.Ae,b.Ag,b.Phase,b.Ar,w.1,p.Ae,p.Ao,p.Al,w.2)/\w=Hb b p n (l.take (j+1)) (p.Ai,acts)/\Ax b (Fj p w.1)/\w.2.length<=acts.length+24*(j+1):=λhh=>by
     have eS:Oz b p n z c=z:=by unfold Oz;rw[if_neg hh]
     exact⟨z,rfl,by rw[hsucc,eS],h2,by omega⟩
    cases hq:decide (p.Ao.getD c.toNat 0>0) with
    |false=>
     simp only[dK]at hq;exact c7 (stay λhh=>hq hh.1)
    | true=>
     simp only[dJ]at hq;refine Ok.bind (P:=λy=>y=Oj b (Fj p z.1) n) (cX hE rfl) λy hy=>?_;subst hy;cases hq2:decide (Oj b (Fj p z.1) n>0) with
     |false=>
      simp only[dK]at hq2;exact c7 (stay λhh=>hq2 hh.2)
     |true=>
      simp only[dJ]at hq2;have hS:=Aq9 h h2 (acts:=z.2) (by omega) c;refine Ok.bind (P:=λy=>y=_) (cX hS rfl) λy hy=>c7 ?_;subst hy;have eS:Oz b p n z c=(acC b z.1 (isC c),z.2++acA b z.1 (isC c)):=by unfold Oz;rw[if_pos ⟨hq,hq2⟩]
      refine⟨(acC b z.1 (isC c),z.2++acA b z.1 (isC c)),rfl,by rw[hsucc,eS],Ahu h2 (isC c),?_⟩;have:=Xx b z.1 (isC c);grind
   ·rw[aE]at hI;exact hI
  ·obtain⟨z,h0,h1,h2,h3⟩:=hs;subst h0;subst h1;exact Ok.pure ⟨rfl,h2,h3⟩
 obtain⟨r,e,h1,h2⟩:=key;rw[h1]at e;exact⟨e,h2⟩
def I8(x:Aq)(c:Int):Bool:=x.Ag.any (c == ·)
variable{x:Aq}
theorem Azr(hx:x.Ag.length<=1000)(c:Int):Wl c x=some (!I8 x c):=by
 unfold Wl;rw[Gm _ _ (by omega)];rfl
theorem Acu{x:Aq}(hx:x.Ag.length<=1000):∀(l:List Int)(k:Nat),foldI (Wv x) l k ()=match l.findIdx? λc=>!I8 x c with
  |some j=>some (.ret (cnt 0 (k+j),x))
  |none=>some (.next ())
 | [],_=>rfl
 | c::l,k=>by
  simp only[foldI,Wv,Azr hx,aa,List.findIdx?_cons];cases hq:(!I8 x c) with
  |true=>rfl
  | false=>
   simp only[cond_false,bI,if_false];rw[Acu hx l (k+1)];cases l.findIdx? λc=>!I8 x c with
   |none=>rfl
   |some j=>
    have e:k+1+j=k+(j+1):=by omega
    simp only[aT,e]
theorem A1s(hx:x.Ag.length<=1000)(l:List Int)(hl:l.length<=1000):Wn l x=some (l.filter (I8 x),x):=by
 refine cZ ?_;unfold Wn Aiw;rw[Acu hx];cases hf:l.findIdx? λc=>!I8 x c with
 | none=>
  rw[cT]at hf;refine Ok.pure ?_;have:l.filter (I8 x)=l:=by
   rw[cv];intro c hc;have:=hf c hc;simpa using this
  rw[this]
 | some i=>
  rw[cC]at hf;obtain⟨hi,hp,hn⟩:=hf;have e0:cnt 0 (0+i)=(i:Int):=by rw[aJ];exact Ck (by omega)
  simp only[e0,andThen,aa];refine c6 (λhc=>?_) (λ_=>?_)
  ·simp only[dL]at hc;omega
  have e1:w64 ((i:Int)+1)=(i:Int)+1:=Az (by omega);rw[e1];refine Ok.andThen (A:=λs=>0<=s.1/\s.1<=(l.length:Int)/\s.2.2.length=l.length/\s.2.2.take s.1.toNat=l.filter (I8 x)) (B:=λ(_:Unit)=>False) ?_ ?_ (λ_ h=>h.elim)
  ·refine cU (λs=>(0<=s.1/\s.1<s.2.1/\s.2.1<=(l.length:Int))/\s.2.2.length=l.length/\s.2.2.take s.1.toNat=(l.take s.2.1.toNat).filter (I8 x)/\s.2.2.drop s.2.1.toNat=l.drop s.2.1.toNat) (λs=>((l.length:Int)-s.2.1).toNat) _ _ ?_ ?_ ?_
   ·refine⟨by dsimp only;omega,rfl,?_,rfl⟩;dsimp only;have e2:((i:Int)+1).toNat=i+1:=by omega
    rw[e2,aB,Bp (ai hi),bp];have h1:(l.take i).filter (I8 x)=l.take i:=by
     rw[cv];intro c hc;obtain⟨j,hj,rfl⟩:=cm hc;simp only[aY]at hj;rw[List.getElem_take];have:=hn j (by omega);simpa using this
    have h2:I8 x l[i]=false:=by simpa using hp
    rw[h1];simp[h2]
   ·dsimp only;omega
   ·rintro⟨a,j,m⟩ ⟨⟨h1,h2,h3⟩,h4,h5,h6⟩;dsimp only at h1 h2 h3 h4 h5 h6;unfold Wm Ag1;dsimp only;refine c6 (λhq=>?_) (λhq=>?_)
    ·simp only[dJ]at hq;have e1:w64 (j+1)=j+1:=Az (by omega);have e2:w64 (a+1)=a+1:=Az (by omega);have e3:(j+1).toNat=j.toNat+1:=by omega
     have e4:(a+1).toNat=a.toNat+1:=by omega
     refine(cW (by omega) (by omega)).bind λy hy=>?_;have hyl:l[j.toNat]? = some y:=by
      have:=congrArg (·[0]?) h6;simp only[ax,bJ]at this;rw[←this];exact hy
     have hdrop:∀(q:List Int),q.drop j.toNat=l.drop j.toNat->q.drop (j.toNat+1)=l.drop (j.toNat+1):=λq hq=>by
      rw[←bP,hq,bP]
     rw[Azr hx];simp only[aa,Bool.not_not];refine c6 (λhf=>?_) (λhf=>?_)
     ·refine(cW (by omega) (by omega)).bind λ_ _=>(d7 (by omega) (by omega)).bind λz hz=>?_;rw[e1,e2];subst hz;refine c7 ⟨⟨by dsimp only;omega,by simpa using h4,?_,?_⟩,by dsimp only;omega⟩
      ·dsimp only;rw[e3,e4,Bp hyl,bp,←h5];rw[Bp (x:=y) (by rw[bN (by omega)])];simp[hf,List.take_set_of_le]
      ·dsimp only;rw[e3,List.drop_set_of_lt (by omega)];exact hdrop m h6
     ·rw[e1];refine c7 ⟨⟨by dsimp only;omega,h4,?_,?_⟩,by dsimp only;omega⟩
      ·dsimp only;rw[e3,Bp hyl,bp,←h5];simp[hf]
      ·dsimp only;rw[e3];exact hdrop m h6
    ·simp only[dK]at hq;have e:j.toNat=l.length:=by omega
     refine cY ⟨h1,by dsimp only;omega,h4,?_⟩;dsimp only;rw[h5,e,aE]
  ·rintro⟨a,j,m⟩ ⟨h1,h2,h3,h4⟩;dsimp only at h1 h2 h3 h4 ⊢;have hc:(Ht m a.toNat ((Int.toNat (m.length:Int))-a.toNat) (0:Int)).length=l.length:=by
    simp[Ht];omega
   refine(Ok.bndI h1 (by omega) (by omega)).bind λ_ _=>(Ok.bndI (by omega) h1 (by rw[hc];omega)).bind λ_ _=>Ok.pure ?_;rw[←h4];unfold Ht;rw[Nat.sub_zero,cM (by simp;omega),List.take_take,Nat.min_self]
def Jv(b:Aa)(x:Aq):List Int:=(Ps b).filter (I8 x)
theorem Qo(h:A1 b)(hc:c∈Jv b x):0<=c/\c<b.Ag.length:=A3f h (az.1 hc).1
theorem Ae4(h:A1 b)(x:Aq):(Jv b x).length<=16:=by
 have h1:=bg (I8 x) (Ps b);have h2:=Ak0 h;have h3:=h.col;unfold Jv;omega
def Zi(x:Aq):Nat:=(x.Am.headD 0).toNat
def Je(b:Aa)(x:Aq)(z:Ad×List A0):List Int×List A0:=Jz b z.1 (Zi x) (Jv b x) (z.1.Ao,z.2)
def Sd(b:Aa)(x:Aq)(z:Ad×List A0):List Bool×List A0:=Hb b (Cn z.1 (Je b x z).1) (Zi x) (Jv b x) (z.1.Ai,(Je b x z).2)
def N6(b:Aa)(z:Ad×List A0)(x:Aq):Ad×List A0:=
 if 0<x.Ae.length then (Fj (Cn z.1 (Je b x z).1) (Sd b x z).1,(Sd b x z).2) else z
def Kr(b:Aa)(l:List Aq)(z:Ad×List A0):Ad×List A0:=l.foldl (N6 b) z
structure Aec(b:Aa)(x:Aq):Prop where
 cons:x.Ag.length<=16
 ne:x.Am≠[]
 bus:∀n,n∈x.Am->0<=n/\n<b.Am
theorem Ar9(h:A1 b)(hx:x∈Cf b p):Aec b x:=by
 have hcl:=h.col;unfold Cf at hx;obtain⟨h1,h2⟩:=az.1 hx;obtain⟨f,hf,rfl⟩:=ao.1 h1;have hc:(isl b p f).Ag.length<=b.Ag.length:=Ff _ _;refine⟨by omega,λe=>?_,λn hn=>?_⟩
 ·unfold J3 at h2;rw[e]at h2;simp at h2
 ·obtain⟨k,hk,rfl⟩:=ao.1 hn;have:=be.1 (az.1 hk).1;omega
theorem Ahn(hx:Aec b x):getI x.Am 0=some ((Zi x:Nat):Int)/\Zi x<b.Am.toNat:=by
 unfold Zi;cases hb:x.Am with
 |nil=>exact absurd hb hx.ne
 |cons n l=>
  have:=hx.bus n (by rw[hb];exact aj);simp only[List.headD_cons];refine⟨?_,by omega⟩;have e:(n.toNat:Int)=n:=by omega
  rw[e];rfl
theorem A0t(h:A1 b)(hp:Ax b p)(ha:acts.length<=1000) :
  Ww ⟨b,p,acts⟩=some ⟨b,(Kr b (Cf b p) (p,acts)).1,(Kr b (Cf b p) (p,acts)).2⟩/\Ax b (Kr b (Cf b p) (p,acts)).1/\(Kr b (Cf b p) (p,acts)).2.length<=10000:=by
 have hil:=Qr b p;have hbu:=h.buses;have hcl:=h.col;have hol:=Ak0 h;have key:Ok (Ww ⟨b,p,acts⟩) λy=>y=⟨b,(Kr b (Cf b p) (p,acts)).1,(Kr b (Cf b p) (p,acts)).2⟩/\Ax b (Kr b (Cf b p) (p,acts)).1/\(Kr b (Cf b p) (p,acts)).2.length<=10000:=by
  unfold Ww;simp only[(Yz h).1,aa];have hi:Abk b p=some (Cf b p):=Kz h hp;refine Ok.bind (P:=λy=>y=Cf b p) (cX hi rfl) λy hy=>?_;subst hy;refine Ok.andThen (A:=λs=>∃z:Ad×List A0,s=(b.Am,b.Ah,b.Ae,b.Ag,b.Phase,b.Ar,z.1.Ai,z.1.Ae,z.1.Ao,z.1.Al,z.2)/\z=Kr b (Cf b p) (p,acts)/\Ax b z.1/\z.2.length<=10000) (B:=λ(_:Unit)=>False) ?_ (λs hs=>?_) (λ_ h=>h.elim)
  ·refine c8 (I:=λj s=>∃z:Ad×List A0,s=(b.Am,b.Ah,b.Ae,b.Ag,b.Phase,b.Ar,z.1.Ai,z.1.Ae,z.1.Ao,z.1.Al,z.2)/\z=Kr b ((Cf b p).take j) (p,acts)/\Ax b z.1/\z.2.length<=1000+400*j) ⟨(p,acts),rfl,rfl,hp,by simpa using ha⟩ (λj x s hx hI=>?_) λs hI=>?_
   ·obtain⟨z,h0,h1,h2,h3⟩:=hI;subst h0;have hj:j<(Cf b p).length:=(ab.1 hx).1;have hin:=Ar9 h (ae hx);have hsucc:Kr b ((Cf b p).take (j+1)) (p,acts)=N6 b z x:=by
     rw[Bp hx,h1];unfold Kr;rw[bc];rfl
    have hc:=hin.cons;have hol2:=Ae4 h x;obtain⟨e0,hb0⟩:=Ahn hin;unfold Adm;have ecl:Qe (Ps b)=some (Ps b):=by
     unfold Qe;rw[Hk (by omega)]
    rw[ecl];simp only[aa];rw[A1s (by omega) _ (by omega)];simp only[aa];refine c6 (λhq=>?_) (λhq=>?_)
    ·simp only[dJ]at hq;rw[e0];simp only[aa];obtain⟨l1,l2,l3⟩:=Aff h h2 (acts:=z.2) (l:=Jv b x) (λc hc=>Qo h hc) (by omega) hb0;refine Ok.bind (P:=λy=>y=_) (cX l1 rfl) λy hy=>?_;subst hy;obtain⟨t1,t2,t3⟩:=Akq h l2 (acts:=(Je b x z).2) (l:=Jv b x) (λc hc=>Qo h hc) (by unfold Je;omega) hb0;refine Ok.bind (P:=λy=>y=_) (cX t1 rfl) λy hy=>c7 ?_;subst hy;have eS:N6 b z x=(Fj (Cn z.1 (Je b x z).1) (Sd b x z).1,(Sd b x z).2):=by unfold N6;rw[if_pos (by omega)]
     refine⟨(Fj (Cn z.1 (Je b x z).1) (Sd b x z).1,(Sd b x z).2),rfl,by rw[hsucc,eS],t2,?_⟩;have t4:(Sd b x z).2.length<=(Je b x z).2.length+24*(Jv b x).length:=t3;have l4:(Je b x z).2.length<=z.2.length+(Jv b x).length:=l3;show (Sd b x z).2.length<=_;omega
    ·simp only[dK]at hq;have eS:N6 b z x=z:=by unfold N6;rw[if_neg (by omega)]
     exact c7 ⟨z,rfl,by rw[hsucc,eS],h2,by omega⟩
   ·rw[aE]at hI;obtain⟨z,h0,h1,h2,h3⟩:=hI;exact⟨z,h0,h1,h2,by omega⟩
  ·obtain⟨z,h0,h1,h2,h3⟩:=hs;subst h0;subst h1;exact Ok.pure ⟨rfl,h2,h3⟩
 obtain⟨r,e,h1,h2⟩:=key;rw[h1]at e;exact⟨e,h2⟩
def A3e(b:Aa)(p:Ad):Ad×List A0:=Kr b (Cf b (Vs b p)) (Vs b p,Zd b p)
def Yy(b:Aa)(p:Ad):Ad:=(A3e b p).1
def F7(b:Aa)(p:Ad):List A0:=(A3e b p).2
theorem Sg(h:A1 b)(hp:Ax b p):Aql b p=some (Yy b p,F7 b p,0)/\Ax b (Yy b p)/\(F7 b p).length<=10000:=by
 have hbl:=h.brl;have hcl:=Agt b p;obtain⟨s1,s2,s3⟩:=A0t h (Alj hp) (acts:=Zd b p) (by omega);refine⟨?_,s2,s3⟩;unfold Aql Aiz Aiy;rw[E_ h hp,Hu h hp];simp only[aa,dU,cond_false];rw[Ax0 h hp];simp only[aa];rw[s1];rfl
theorem Ayj(h:A1 b){p:As}(hp:Ax b p.Power)(h1:p.Be.length<=1000)(h2:p.Bm.length<=10000000):Aqu b p=some ⟨p,b,[],[]⟩:=by
 unfold Aqu Abt Abs;rw[Hu h hp,Hk (by omega),Hk (by omega)];rfl
theorem Pf{f:Nat->α->Unit->Option (Ctl Unit Bool)}{l m:List α}{e:α->α->Bool}(he:∀x y,e x y=true->x=y)
  (hf:∀(j:Nat) x y,l[j]? = some x->m[j]? = some y->f j x ()=bif !e x y then some (.ret false) else some (.next ()))(hl:l.length=m.length) :
  Ok (andThen (foldI f l 0 ()) some λ_=>some true) λv=>v=true->l=m:=by
 refine Ok.andThen (A:=λ_=>l=m) (B:=λv=>v=false) ?_ (λ_ hs=>Ok.pure λ_=>hs) (λv hv=>Ok.pure λhh=>by rw[hv]at hh;cases hh);refine c8 (I:=λj _=>l.take j=m.take j) rfl (λj x _ hx hI=>?_) λ_ hI=>?_
 ·have hj:=(ab.1 hx).1;have hy:m[j]? = some (m[j]'(by omega)):=ai (by omega);rw[hf j x _ hx hy];refine c6 (λ_=>Ok.ret rfl) (λhq=>c7 ?_);have:=he _ _ (by simpa using hq);rw[Bp hx,Bp hy,hI,←this]
 grind
theorem A4i{l m:List Bool}(h:l.length<=1000):Ok (Abj l m) λv=>v=true->l=m:=by
 unfold Abj;refine c6 (λ_=>Ok.pure λhh=>by cases hh) (λhq=>?_);have hl:l.length=m.length:=by grind
 refine Pf (e:=λx y=>x==y) (λx y hh=>by simpa using hh) (λj x y hx hy=>?_) hl;have hj:=(ab.1 hx).1;unfold Abi;rw[Ck (by omega),B4 hy];rfl
theorem A4h{m:List Int}(h:l.length<=1000):Ok (Abf l m) λv=>v=true->l=m:=by
 unfold Abf;refine c6 (λ_=>Ok.pure λhh=>by cases hh) (λhq=>?_);have hl:l.length=m.length:=by grind
 refine Pf (e:=λx y=>x==y) (λx y hh=>by simpa using hh) (λj x y hx hy=>?_) hl;have hj:=(ab.1 hx).1;unfold Abe;rw[Ck (by omega),B4 hy];rfl
theorem A4f{l m:List Aj}(h:l.length<=1000):Ok (Abh l m) λv=>v=true->l=m:=by
 unfold Abh;refine c6 (λ_=>Ok.pure λhh=>by cases hh) (λhq=>?_);have hl:l.length=m.length:=by grind
 refine Pf (e:=λx y=>(x.State==y.State)&&((x.Since==y.Since)&&((x.Ar==y.Ar)&&((x.Phase==y.Phase)&&true)))) (λx y hh=>?_) (λj x y hx hy=>?_) hl
 ·simp only[ac,dL]at hh;obtain⟨h1,h2,h3,h4,_⟩:=hh;cases x;cases y;simp_all
 ·have hj:=(ab.1 hx).1;unfold Abg;rw[Ck (by omega),B4 hy];rfl
variable{l:List Ab}
theorem A4g{m:List Ab}(h:l.length<=1000):Ok (Abd l m) λv=>v=true->l=m:=by
 unfold Abd;refine c6 (λ_=>Ok.pure λhh=>by cases hh) (λhq=>?_);have hl:l.length=m.length:=by grind
 refine Pf (e:=λx y=>(x.Kind==y.Kind)&&((x.Number==y.Number)&&true)) (λx y hh=>?_) (λj x y hx hy=>?_) hl
 ·simp only[ac,dL]at hh;obtain⟨h1,h2,_⟩:=hh;cases x;cases y;simp_all
 ·have hj:=(ab.1 hx).1;unfold Abc;rw[Ck (by omega),B4 hy];rfl
def Lu(p q:Ad):Bool:=(F99 p q).getD false
theorem Aku(hp:Ayy p)(q:Ad):F99 p q=some (Lu p q)/\(Lu p q=true->p=q):=by
 have h1:=hp.c;have h2:=hp.s;have h3:=hp.l;have h4:=hp.k;have key:Ok (F99 p q) λv=>v=true->p=q:=by
  unfold F99;refine(A4i (l:=p.Ai) (m:=q.Ai) (by omega)).bind λv1 e1=>?_;cases v1 with
  |false=>exact Ok.pure λhh=>by simp at hh
  | true=>
   refine Ok.bind (P:=λv=>v=true->p.Ae=q.Ae) (A4f (by omega)) λv2 e2=>?_;cases v2 with
   |false=>exact Ok.pure λhh=>by simp at hh
   | true=>
    refine Ok.bind (P:=λv=>v=true->p.Ao=q.Ao) (A4h (by omega)) λv3 e3=>?_;cases v3 with
    |false=>exact Ok.pure λhh=>by simp at hh
    |true=>
     refine Ok.bind (P:=λv=>v=true->p.Al=q.Al) (A4g (by omega)) λv4 e4=>Ok.pure λhh=>?_;have w1:=e1 rfl;have w2:=e2 rfl;have w3:=e3 rfl;have w4:=e4 (by simpa using hh);cases p;cases q;simp_all
 obtain⟨r,e,hr⟩:=key;have:Lu p q=r:=by unfold Lu;rw[e];rfl
 rw[this];exact⟨e,hr⟩
def ap(p:Ad)(x:A0):Ad:=if x.Kind=2 then Fj p (p.Ai.set x.Unit.toNat false) else Cn p (p.Ao.set x.Unit.toNat x.Value)
def Aq0(b:Aa)(x:A0):Prop:=(x.Kind=2/\0<=x.Unit/\x.Unit<b.Ah.length)\/(x.Kind=5/\(0<=x.Unit/\x.Unit<b.Ag.length)/\0<=x.Value/\x.Value<=(b.Ag.getD x.Unit.toNat default).Load)
theorem A0e(hp:Ax b p){x:A0}(hx:Aq0 b x):Ax b (ap p x):=by
 unfold ap;rcases hx with⟨hk,_⟩|⟨hk,h1,h2⟩
 ·rw[if_pos hk];exact Anw hp _
 ·rw[if_neg (by omega)];exact Ab4 hp h2
def F5(b:Aa)(p:Ad)(z:Ad×List A0):Prop:=z.2.foldl ap p=⟨z.1.Ai,p.Ae,z.1.Ao,p.Al⟩/\∀x,x∈z.2->Aq0 b x
theorem Ahs{p q:Ad}:∀(l:List Int)(C:List Bool),q=Fj p C->(Nj l).foldl ap q=Fj p (Jn C l)
 | [],C,hq=>hq
 |i::l,C,hq=>by
  subst hq;exact Ahs l (C.set i.toNat false) rfl
theorem vY(hz:F5 b p z)(q:Ak->Bool)(S:List Aj):F5 b p (⟨acC b z.1.Ai q,S,z.1.Ao,z.1.Al⟩,z.2++acA b z.1.Ai q):=by
 refine⟨?_,λx hx=>?_⟩
 ·dsimp only;rw[bc,hz.1];exact Ahs (p:=⟨z.1.Ai,p.Ae,z.1.Ao,p.Al⟩) (Em b z.1.Ai q b.Ah.length) z.1.Ai rfl
 ·rcases am.1 hx with hx|hx
  ·exact hz.2 x hx
  ·obtain⟨i,hi,rfl⟩:=ao.1 hx;obtain⟨k,rfl,hk,_⟩:=Nm.1 hi;exact .inl ⟨rfl,by dsimp only;omega,by dsimp only;omega⟩
theorem A8p{q r:Ad}{l:List A0}(hz:F5 b p (q,l))(h1:r.Ai=q.Ai)(h2:r.Ao=q.Ao):F5 b p (r,l):=by
 refine⟨?_,hz.2⟩;have:=hz.1;grind
theorem Aq7{b:Aa}(h:A1 b){p q:Ad}(n:Nat):∀(l:List Int)(z:List Int×List A0),(∀c,c∈l->0<=c/\c<b.Ag.length)->Ax b (Cn q z.1)->F5 b p (Cn q z.1,z.2)->F5 b p (Cn q (Jz b q n l z).1,(Jz b q n l z).2)
 | [],_,_,_,hz=>hz
 | c :: l, z, hl, hs, hz => by
  have hin:=hl c aj;have hok:=Ak6 (n:=n) h hs hin.1 hin.2;refine Aq7 h n l (Px b q n z c) (λd hd=>hl d (ak _ hd)) hok ?_;unfold Px at hok ⊢;split
  ·rename_i hq;rw[if_pos hq]at hok;obtain⟨_,w2,w3,_⟩:=Afh h hok hin.1 hin.2;have hlen:z.1.length=b.Ag.length:=hs.nli;have ev:∀v:Int,(z.1.set c.toNat v).getD c.toNat 0=v:=λv=>by grind
   have w2':0<=(z.1.set c.toNat (z.1.getD c.toNat 0-Ib b (Cn q z.1) n c)).getD c.toNat 0:=w2;have w3':(z.1.set c.toNat (z.1.getD c.toNat 0-Ib b (Cn q z.1) n c)).getD c.toNat 0<=(b.Ag.getD c.toNat default).Load:=w3;rw[ev]at w2' w3';refine⟨?_,λx hx=>?_⟩
   ·dsimp only;rw[bc,hz.1];rfl
   ·rcases am.1 hx with hx|hx
    ·exact hz.2 x hx
    ·simp only[aK]at hx;subst hx;exact .inr ⟨rfl,hin,w2',w3'⟩
  ·exact hz
theorem Akr{b:Aa}{p q:Ad}(n:Nat):∀(l:List Int)(z:List Bool×List A0),F5 b p (Fj q z.1,z.2)->F5 b p (Fj q (Hb b q n l z).1,(Hb b q n l z).2)
 | [],_,hz=>hz
 |c::l,z,hz=>by
  refine Akr n l (Oz b q n z c) ?_;unfold Oz;split
  ·exact vY (z:=(Fj q z.1,z.2)) hz (isC c) q.Ae
  ·exact hz
theorem A0w(h:A1 b)(hx:Aec b x)(hs:Ax b z.1)(ha:z.2.length<=10000)(hz:F5 b p z):Ax b (N6 b z x).1/\F5 b p (N6 b z x)/\(N6 b z x).2.length<=z.2.length+400:=by
 have hol2:=Ae4 h x;obtain⟨e0,hb0⟩:=Ahn hx;unfold N6;split
 ·obtain⟨_,l2,l3⟩:=Aff h hs (acts:=z.2) (l:=Jv b x) (λc hc=>Qo h hc) (by omega) hb0;obtain⟨_,t2,t3⟩:=Akq h l2 (acts:=(Je b x z).2) (l:=Jv b x) (λc hc=>Qo h hc) (by unfold Je;omega) hb0;have t4:(Sd b x z).2.length<=(Je b x z).2.length+24*(Jv b x).length:=t3;have l4:(Je b x z).2.length<=z.2.length+(Jv b x).length:=l3;refine⟨t2,?_,by dsimp only;omega⟩;have hl:F5 b p (Cn z.1 (Je b x z).1,(Je b x z).2):=Aq7 h (Zi x) (Jv b x) (z.1.Ao,z.2) (λc hc=>Qo h hc) hs hz;exact Akr (Zi x) (Jv b x) (z.1.Ai,(Je b x z).2) hl
 ·exact⟨hs,hz,by omega⟩
theorem Akv{b:Aa}(h:A1 b){p:Ad}:∀(l:List Aq)(z:Ad×List A0),(∀x,x∈l->Aec b x)->Ax b z.1->z.2.length+400*l.length<=10000->F5 b p z->F5 b p (Kr b l z)
 | [],_,_,_,_,hz=>hz
 |x::l,z,hl,hs,ha,hz=>by
  rw[aU]at ha;obtain⟨h1,h2,h3⟩:=A0w h (hl x aj) hs (by omega) hz;exact Akv h l (N6 b z x) (λy hy=>hl y (ak _ hy)) h1 (by omega) h2
theorem A5f(p:Ad):F5 b p (Vs b p,Zd b p):=by
 have h0:F5 b p (p,[]):=⟨rfl,λx hx=>by cases hx⟩;have h1:=vY h0 (E5 p) p.Ae;have h2:=vY h1 (G8 b (Vt b p)) p.Ae;exact A8p h2 rfl rfl
theorem A3d(h:A1 b)(hp:Ax b p):F5 b p (Yy b p,F7 b p):=by
 have hil:=Qr b (Vs b p);have hbu:=h.buses;have hbl:=h.brl;have hcl:=Agt b p;exact Akv h (Cf b (Vs b p)) (Vs b p,Zd b p) (λx hx=>Ar9 h hx) (Alj hp) (by dsimp only;omega) (A5f p)
def G4:List A0->Ad->List Ad
 | [],_=>[]
 |x::l,p=>ap p x::G4 l (ap p x)
theorem O9:∀(l:List A0)(p:Ad),(G4 l p).length=l.length
 | [],_=>rfl
 |x::l,p=>by simp[G4,O9 l]
theorem jP:∀(l:List A0)(x:A0)(p:Ad),G4 (l++[x]) p=G4 l p++[ap (l.foldl ap p) x]
 | [],_,_=>rfl
 |y::l,x,p=>by
  show ap p y::G4 (l++[x]) (ap p y)=_;rw[jP l x];rfl
def Cj(b:Aa)(p:Ad)(t:Int)(a:A0):Ad×Int:=(Aba b p t a).getD default
theorem Alu(h:A1 b)(hp:Ax b p)(t:Int)(a:A0):Aba b p t a=some (Cj b p t a)/\((Cj b p t a).2≠0\/Ax b (Cj b p t a).1):=by
 grind[Ok,Cj,A6p]
def P2(b:Aa)(p:Ad)(t:Int)(a:A0):Int:=if a.Kind=7 then 1 else (Cj b p t a).2
def Oa(b:Aa)(p:Ad)(t:Int)(a:A0):Ad:=(Cj b p t a).1
def doP(b:Aa)(p:Ad)(t:Int)(a:A0):Ad:=if P2 b p t a=0 then Yy b (Oa b p t a) else p
def doE(b:Aa)(p:Ad)(t:Int)(a:A0):List B1:=⟨t,a,P2 b p t a⟩::if P2 b p t a=0 then (F7 b (Oa b p t a)).map (λx=>⟨t,x,0⟩) else []
def Sm(b:Aa)(p:Ad)(t:Int)(a:A0):Ad:=(F7 b (Oa b p t a)).foldl ap (Oa b p t a)
def doS(b:Aa)(p:Ad)(t:Int)(a:A0):List Ad:=
 if P2 b p t a=0 then [Oa b p t a]++G4 (F7 b (Oa b p t a)) (Oa b p t a)++(if Lu (Sm b p t a) (doP b p t a)=true then [] else [doP b p t a]) else []
theorem Agi(h:A1 b)(hp:Ax b p){t:Int}{a:A0}(he:P2 b p t a=0):Ax b (Oa b p t a)/\(Cj b p t a).2=0/\a.Kind≠7:=by
 unfold P2 at he;by_cases hk:a.Kind=7
 ·rw[if_pos hk]at he;omega
 ·rw[if_neg hk]at he;rcases(Alu h hp t a).2 with h1|h1
  ·exact absurd he h1
  ·exact⟨h1,he,hk⟩
theorem As5(h:A1 b)(hp:Ax b p)(t:Int)(a:A0):Ax b (doP b p t a):=by
 unfold doP;split
 ·rename_i he;exact(Sg h (Agi h hp he).1).2.1
 ·exact hp
theorem Sp(h:A1 b)(hp:Ax b p)(h1:r.states.length<=10000000):Oy r p=some ⟨r.Bq,r.Ap,r.events,r.states++[p]⟩:=by
 refine cZ ?_;unfold Oy;rw[Hu h hp];simp only[aa];exact(cV (by simp;omega)).bind λs hs=>Ok.pure (by rw[hs])
theorem Ak3(h1:r.events.length<=10000000)(a:A0)(e:Int):Wy r a e=some ⟨r.Bq,r.Ap,r.events++[⟨r.Bq.Time,a,e⟩],r.states⟩:=by
 refine cZ ?_;unfold Wy;exact(cV (by simp;omega)).bind λs hs=>Ok.pure (by rw[hs])
theorem yC{b:Aa}:∀(l:List A0){p:Ad},Ax b p->(∀x,x∈l->Aq0 b x)->Ax b (l.foldl ap p)
 | [],_,hp,_=>hp
 |x::l,p,hp,hl=>yC l (A0e hp (hl x aj)) λy hy=>hl y (ak _ hy)
theorem A77(h:A1 b){ros:List Bb}{evs ev:List B1}{sts:List Ad}(hp:Ax b P)(h1:ev.length<=1000000)(h2:sts.length<=1000000)(a:A0) :
  vU ⟨⟨T,P,ros,evs⟩,b,ev,sts⟩ a=some ⟨⟨T,doP b P T a,ros,evs⟩,b,ev++doE b P T a,sts++doS b P T a⟩:=by
 obtain⟨ha,_⟩:=Alu h hp T a;refine cZ ?_;unfold vU;simp only[ha,aa];refine Ok.andThen (A:=λs=>s=P2 b P T a) (B:=λ(_:Unit)=>False) ?_ (λs hs=>?_) (λ_ h=>h.elim)
 ·unfold Adt P2;refine c6 (λhq=>db ?_) (λhq=>db ?_)
  ·rw[if_pos (by simpa using hq)]
  ·rw[if_neg (by simpa using hq)]
 subst hs;rw[Ak3 (by dsimp only;omega)];simp only[aa];refine c6 (λhq=>Ok.pure ?_) (λhq=>?_)
 ·have he:¬P2 b P T a=0:=by simpa using hq
  unfold doP doE doS;rw[if_neg he,if_neg he,if_neg he];simp
 have he:P2 b P T a=0:=by simpa using hq
 obtain⟨hn,_,_⟩:=Agi h hp he;have hn':Ax b (Cj b P T a).1:=hn;rw[Sp h hn' (by dsimp only;omega)];simp only[aa];obtain⟨p1,p2,p3⟩:=Sg h hn';rw[p1];simp only[aa];have htr:=A3d h hn';have eP:doP b P T a=Yy b (Cj b P T a).1:=by unfold doP Oa;rw[if_pos he]
 have eE:doE b P T a=⟨T,a,0⟩::(F7 b (Cj b P T a).1).map (λx=>⟨T,x,0⟩):=by unfold doE Oa;rw[if_pos he,he]
 have eL:Sm b P T a=(F7 b (Cj b P T a).1).foldl ap (Cj b P T a).1:=rfl;refine Ok.andThen (A:=λs=>∃q:Ad,q=Sm b P T a/\s=(T,b.Am,b.Ah,b.Ae,b.Ag,b.Phase,b.Ar,P.Ai,P.Ae,P.Ao,P.Al,ros,evs,q.Ai,ev++doE b P T a,sts++([(Cj b P T a).1]++G4 (F7 b (Cj b P T a).1) (Cj b P T a).1),q.Ao)) (B:=λ(_:Unit)=>False) ?_ (λs hs=>?_) (λ_ h=>h.elim)
 ·refine c8 (I:=λj s=>∃q:Ad,q=((F7 b (Cj b P T a).1).take j).foldl ap (Cj b P T a).1/\(q.Ae=(Cj b P T a).1.Ae/\q.Al=(Cj b P T a).1.Al)/\s=(T,b.Am,b.Ah,b.Ae,b.Ag,b.Phase,b.Ar,P.Ai,P.Ae,P.Ao,P.Al,ros,evs,q.Ai,ev++(⟨T,a,0⟩::((F7 b (Cj b P T a).1).take j).map (λx=>(⟨T,x,0⟩:B1))),sts++([(Cj b P T a).1]++G4 ((F7 b (Cj b P T a).1).take j) (Cj b P T a).1),q.Ao)) ⟨(Cj b P T a).1,rfl,⟨rfl,rfl⟩,?_⟩ (λj x s hx hI=>?_) λs hI=>?_
  ·simp[G4,he]
  ·obtain⟨q,hq1,⟨hq2,hq3⟩,rfl⟩:=hI;have hj:j<(F7 b (Cj b P T a).1).length:=(ab.1 hx).1;have hin:=htr.2 x (ae hx);have hqok:Ax b q:=by
    rw[hq1];exact yC _ hn' λy hy=>htr.2 y (bC hy)
   have hapok:=A0e hqok hin;have hcl:=hqok.ncl;have hli:=hqok.nli;unfold Adu;refine Ok.bind (P:=λy=>y=_) (cX (Ak3 (r:=⟨⟨T,P,ros,evs⟩,b,ev++(⟨T,a,0⟩::((F7 b (Cj b P T a).1).take j).map (λx=>(⟨T,x,0⟩:B1))),sts++([(Cj b P T a).1]++G4 ((F7 b (Cj b P T a).1).take j) (Cj b P T a).1)⟩) (by simp;omega) x 0) rfl) λy hy=>?_;subst hy;have hfold:((F7 b (Cj b P T a).1).take (j+1)).foldl ap (Cj b P T a).1=ap q x:=by rw[Bp hx,bc,←hq1];rfl
   have hint:G4 ((F7 b (Cj b P T a).1).take (j+1)) (Cj b P T a).1=G4 ((F7 b (Cj b P T a).1).take j) (Cj b P T a).1++[ap q x]:=by rw[Bp hx,jP,←hq1]
   refine c6 (λhk=>?_) (λhk=>?_)
   ·have hk2:x.Kind=2:=by simpa using hk
    have hx1:0<=x.Unit/\x.Unit<b.Ah.length:=by
     rcases hin with⟨_,h3⟩|⟨h3,_⟩
     ·exact h3
     ·omega
    have eA:ap q x=⟨q.Ai.set x.Unit.toNat false,(Cj b P T a).1.Ae,q.Ao,(Cj b P T a).1.Al⟩:=by
     unfold ap;rw[if_pos hk2,←hq2,←hq3];rfl
    refine(cW (l:=q.Ai) hx1.1 (by omega)).bind λ_ _=>(d7 (l:=q.Ai) hx1.1 (by omega)).bind λC hC=>?_;subst hC;refine Ok.bind (P:=λy=>y=_) (cX (Sp h (r:=⟨⟨T,P,ros,evs⟩,b,(ev++(⟨T,a,0⟩::((F7 b (Cj b P T a).1).take j).map (λx=>(⟨T,x,0⟩:B1))))++[⟨T,x,0⟩],sts++([(Cj b P T a).1]++G4 ((F7 b (Cj b P T a).1).take j) (Cj b P T a).1)⟩) (p:=⟨q.Ai.set x.Unit.toNat false,(Cj b P T a).1.Ae,q.Ao,(Cj b P T a).1.Al⟩) (by rw[←eA];exact hapok) (by simp[O9];omega)) rfl) λy hy=>c7 ?_;subst hy;refine⟨ap q x,hfold.symm,by rw[eA];exact⟨rfl,rfl⟩,?_⟩;rw[hint,eA,Bp hx];simp
   ·have hk2:¬x.Kind=2:=by simpa using hk
    have hx1:0<=x.Unit/\x.Unit<b.Ag.length:=by
     rcases hin with⟨h3,_⟩|⟨_,h3,_⟩
     ·omega
     ·exact h3
    have eA:ap q x=⟨q.Ai,(Cj b P T a).1.Ae,q.Ao.set x.Unit.toNat x.Value,(Cj b P T a).1.Al⟩:=by
     unfold ap;rw[if_neg hk2,←hq2,←hq3];rfl
    refine(cW (l:=q.Ao) hx1.1 (by omega)).bind λ_ _=>(d7 (l:=q.Ao) hx1.1 (by omega)).bind λC hC=>?_;subst hC;refine Ok.bind (P:=λy=>y=_) (cX (Sp h (r:=⟨⟨T,P,ros,evs⟩,b,(ev++(⟨T,a,0⟩::((F7 b (Cj b P T a).1).take j).map (λx=>(⟨T,x,0⟩:B1))))++[⟨T,x,0⟩],sts++([(Cj b P T a).1]++G4 ((F7 b (Cj b P T a).1).take j) (Cj b P T a).1)⟩) (p:=⟨q.Ai,(Cj b P T a).1.Ae,q.Ao.set x.Unit.toNat x.Value,(Cj b P T a).1.Al⟩) (by rw[←eA];exact hapok) (by simp[O9];omega)) rfl) λy hy=>c7 ?_;subst hy;refine⟨ap q x,hfold.symm,by rw[eA];exact⟨rfl,rfl⟩,?_⟩;rw[hint,eA,Bp hx];simp
  ·obtain⟨q,hq1,_,rfl⟩:=hI;rw[aE]at hq1 ⊢;exact⟨q,hq1,by rw[eE]⟩
 ·obtain⟨q,hq,rfl⟩:=hs;have hqok:Ax b q:=by rw[hq,eL];exact yC _ hn' htr.2
  have hqS:q=⟨q.Ai,(Cj b P T a).1.Ae,q.Ao,(Cj b P T a).1.Al⟩:=by
   have h3:=htr.1;rw[←eL,←hq]at h3;rw[h3]
  have hsm:=Aku (hqok.lens h) (Yy b (Cj b P T a).1);have hsm1:=hsm.1;rw[hqS]at hsm1;have e6:Lu ⟨q.Ai,(Cj b P T a).1.Ae,q.Ao,(Cj b P T a).1.Al⟩ (Yy b (Cj b P T a).1)=Lu (Sm b P T a) (doP b P T a):=by rw[←hqS,hq,eP]
  refine Ok.bind (P:=λy=>y=Lu (Sm b P T a) (doP b P T a)) (cX hsm1 e6) λy hy=>?_;subst hy;have eD:doS b P T a=[(Cj b P T a).1]++G4 (F7 b (Cj b P T a).1) (Cj b P T a).1++(if Lu (Sm b P T a) (doP b P T a)=true then [] else [doP b P T a]):=by unfold doS Oa;rw[if_pos he]
  cases hsb:Lu (Sm b P T a) (doP b P T a) with
  |false=>
   rw[hsb]at eD;refine Ok.bind (P:=λy=>y=_) (cX (Sp h (r:=⟨⟨T,P,ros,evs⟩,b,ev++doE b P T a,sts++([(Cj b P T a).1]++G4 (F7 b (Cj b P T a).1) (Cj b P T a).1)⟩) p2 (by simp[O9];omega)) rfl) λy hy=>Ok.pure ?_;subst hy;rw[eD,eP];simp
  |true=>
   rw[hsb]at eD;refine Ok.pure ?_;rw[eD,eP];simp
set_option linter.unusedVariables false
variable{s:Af}
theorem A1b(hs:A5 s):Ok (Aa3 s) λy=>A5 y.2:=by
 unfold Aa3;refine(Ok.mkI (by omega) (by omega)).bind λl hl=>?_;subst hl;refine Ok.andThen (A:=λz=>A5 ⟨z.1,z.2.1⟩) (B:=λ(_:Unit)=>False) ?_ (λz hz=>Ok.pure hz) (λ_ h=>h.elim);refine c8 (I:=λ_ z=>A5 ⟨z.1,z.2.1⟩/\z.2.2.length=12) ⟨hs,by simp⟩ (λj x z hx hz=>?_) λz hz=>hz.1;have hj:=(ab.1 hx).1;simp only[List.length_replicate]at hj;have hj2:j<12:=hj;unfold Ama;rw[Ck (by omega)];refine(Cx hz.1 _ (by simp) (by simp)).bind λy hy=>(cW (by omega) (by omega)).bind λ_ _=>(d7 (by omega) (by omega)).bind λw hw=>c7 ⟨hy.1,?_⟩;rw[hw,ba];exact hz.2
theorem Za(hs:A5 s):Ok (Abm s) λy=>A5 y.2:=by
 grind[Abm,Ok.bind,A1b,Ok.pure]
theorem pick(hs:A5 s)(l:List Int)(h:1<=l.length)(h1:l.length<=1000):Ok (F20 s l) λy=>A5 y.2:=(Cx hs l h h1).mono λ_ h=>h.1
theorem A1k(hs:A5 s):Ok (F82 s) λy=>A5 y.2:=by
 unfold F82;exact(Za hs).bind λa ha=>(Za ha).bind λb hb=>(Za hb).bind λc hc=>(pick hc _ (by simp) (by simp)).bind λd hd=>(pick hd _ (by simp) (by simp)).bind λe he=>(pick he _ (by simp) (by simp)).bind λf hf=>(pick hf _ (by simp) (by simp)).bind λg hg=>Ok.pure hg
theorem A0y(hs:A5 s){n:Int}(hn:0<=n/\n<=8):Ok (F86 s n) λy=>A5 y.2:=by
 unfold F86;rw[Az (by omega)];refine(C8 hs (n+1) (by omega) (by omega)).bind λk hk=>?_;refine Ok.andThen (A:=λz=>A5 ⟨z.2.1,z.2.2.1⟩) (B:=λ(_:Unit)=>False) ?_ (λz hz=>Ok.pure hz) (λ_ h=>h.elim);have hk2:=hk.2;refine cU (λz=>(0<=z.1/\z.1+(z.2.2.2.length:Int)<=n)/\A5 ⟨z.2.1,z.2.2.1⟩) (λz=>z.1.toNat) _ _ ⟨by simp;omega,hk.1⟩ (by dsimp only;omega) ?_;rintro⟨k,L,a,l⟩ ⟨⟨h1,h2⟩,h3⟩;dsimp only at h1 h2 h3;unfold Au1 Aze;refine c6 (λhc=>?_) (λ_=>cY h3);simp only[dJ]at hc;refine Ok.bind (P:=λy=>A5 y.2) ((C8 h3 4 (by omega) (by omega)).bind λu hu=>(pick hu.1 _ (by simp) (by simp)).bind λv hv=>(pick hv _ (by simp) (by simp)).bind λw hw=>(pick hw _ (by simp) (by simp)).bind λx hx=>Ok.pure hx) λy hy=>(cV (by simp;omega)).bind λm hm=>c7 ?_;subst hm;dsimp only;rw[Az (n:=k-1) (by omega)];exact⟨⟨by simp;omega,hy⟩,by omega⟩
theorem Axi(hs:A5 s):Ok (F87 s) λy=>A5 y.2:=by
 unfold F87;exact(pick hs _ (by simp) (by simp)).bind λa ha=>(pick ha _ (by simp) (by simp)).bind λb hb=>(pick hb _ (by simp) (by simp)).bind λc hc=>(pick hc _ (by simp) (by simp)).bind λd hd=>(pick hd _ (by simp) (by simp)).bind λe he=>(pick he _ (by simp) (by simp)).bind λf hf=>(pick hf _ (by simp) (by simp)).bind λg hg=>(pick hg _ (by simp) (by simp)).bind λi hi=>(pick hi _ (by simp) (by simp)).bind λj hj=>Ok.pure hj
theorem Ath(hs:A5 s):Ok (Aqq s) λy=>A5 y.2:=by
 unfold Aqq;exact(pick hs _ (by simp) (by simp)).bind λa ha=>(pick ha _ (by simp) (by simp)).bind λb hb=>(pick hb _ (by simp) (by simp)).bind λc hc=>(pick hc _ (by simp) (by simp)).bind λd hd=>Ok.pure hd
theorem A3h(hs:A5 s):Ok (F88 s) λy=>A5 y.2:=by
 unfold F88 F79;refine Ok.bind (P:=λy=>A5 y.2) ((C8 hs 3 (by omega) (by omega)).bind λa ha=>(cW ha.2.1 (by have:=ha.2.2;simp;omega)).bind λt _=>Ok.pure ha.1) λb hb=>?_;exact(Fi hb 1 3 (by omega) (by omega) (by omega)).bind λc hc=>(Ath hc.1).bind λd hd=>(pick hd _ (by simp) (by simp)).bind λe he=>Ok.pure he
theorem Ayp(hs:A5 s):Ok (F90 s) λy=>A5 y.2:=by
 unfold F90;exact(pick hs _ (by simp) (by simp)).bind λa ha=>Ok.pure ha
theorem Ar4(h0:0<=k)(h1:k<=4):Ok (Ane [IntKind.wrap .u8 (w64 (97+k))]) λs=>s.size=1:=by
 have h:k=0\/k=1\/k=2\/k=3\/k=4:=by omega
 rcases h with rfl|rfl|rfl|rfl|rfl
 ·exact⟨⟨#[97]⟩,by kernel_rfl,rfl⟩
 ·exact⟨⟨#[98]⟩,by kernel_rfl,rfl⟩
 ·exact⟨⟨#[99]⟩,by kernel_rfl,rfl⟩
 ·exact⟨⟨#[100]⟩,by kernel_rfl,rfl⟩
 ·exact⟨⟨#[101]⟩,by kernel_rfl,rfl⟩
theorem A0u(hs:A5 s):Ok (F89 s) λy=>A5 y.2:=by
 unfold F89;refine Ok.andThen (A:=λz=>A5 ⟨z.2.1,z.2.2.1⟩) (B:=λ(_:Unit)=>False) ?_ (λz hz=>Ok.pure hz) (λ_ h=>h.elim);refine cU (λz=>(0<=z.1/\z.1<=5/\(z.2.2.2.length:Int)<=z.1)/\A5 ⟨z.2.1,z.2.2.1⟩) (λz=>(5-z.1).toNat) _ _ ⟨by simp,hs⟩ (by simp) ?_;rintro⟨k,L,a,l⟩ ⟨⟨h1,h2,h3⟩,h4⟩;dsimp only at h1 h2 h3 h4;unfold Au0;refine(C8 h4 5 (by omega) (by omega)).bind λu hu=>c6 (λhc=>?_) (λ_=>cY hu.1);have hu2:=hu.2;simp only[Az1,an,dJ,dL]at hc;refine c6 (λ_=>cY hu.1) (λ_=>?_);have hk:k<=4:=by omega
 refine(Ar4 h1 hk).bind λt ht=>?_;have hcat:nzI (Agv (⟨#[115]⟩:ByteArray) t)=some ():=by
  unfold Agv;rw[ht];rfl
 refine Ok.bind (P:=λ_=>True) (cX hcat trivial) λ_ _=>(pick hu.1 _ (by simp) (by simp)).bind λv hv=>(Fi hv 1 3 (by omega) (by omega) (by omega)).bind λw hw=>(Alw hw.1 (by omega) (by omega)).bind λx hx=>(cV (by simp;omega)).bind λm hm=>c7 ?_;subst hm;dsimp only;rw[Az (n:=k+1) (by omega)];exact⟨⟨by simp;omega,hx.1⟩,by omega⟩
structure Pm(v:Ba):Prop where
 ship:Dw v.Ship
 Ap:A1 v.Board
 table:Xz v.Table
 des:X7 v.Design
theorem A1.thr(h:A1 b){l:List A_}(hl:l.length=b.Ag.length)(hc:∀(i:Nat) x y,b.Ag[i]? = some x->l[i]? = some y->y=⟨x.Load,x.Least,x.B6,y.Thruster,x.Needs⟩ /\ -1<=y.Thruster/\y.Thruster<=7):A1 ⟨b.Am,b.Ah,b.Ae,l,b.Phase,b.Ar⟩ where
 buses:=h.buses
 brl:=h.brl
 sol:=h.sol
 col:=by dsimp only;rw[hl];exact h.col
 phase:=h.phase
 freq:=h.freq
 br:=by dsimp only;rw[hl];exact h.br
 one:=h.one
 any:=by dsimp only;rw[hl];exact h.any
 nodup:=h.nodup
 so:=h.so
 co i y hy:=by
  dsimp only at hy;have hi:=(ab.1 hy).1;have hx:b.Ag[i]? = some (b.Ag[i]'(by omega)):=ai (by omega);obtain⟨e,h1⟩:=hc i _ y hx hy;obtain⟨c1,c2,c3,c4,c5⟩:=h.co i _ hx;rw[e];exact⟨c1,c2,c3,h1,c5⟩
theorem Aq5(h:A1 b){x:A3}(hx:x.Av.length<=7)(hs:A5 s)(t1 t2:Af) :
  Ok (whileN (Aia (x,t1) (b,t2)) 1152921504606846976 (0,s.L,s.At,b.Ag)) (D5 (λz=>A1 ⟨b.Am,b.Ah,b.Ae,z.2.2.2,b.Phase,b.Ar⟩/\z.2.2.2.length=b.Ag.length/\A5 ⟨z.2.1,z.2.2.1⟩) λ(_:Unit)=>False):=by
 have hcl:=h.col;refine cU (λz=>(0<=z.1/\z.1<=(b.Ag.length:Int))/\A5 ⟨z.2.1,z.2.2.1⟩/\z.2.2.2.length=b.Ag.length/\∀(i:Nat) x y,b.Ag[i]? = some x->z.2.2.2[i]? = some y->y=⟨x.Load,x.Least,x.B6,y.Thruster,x.Needs⟩ /\ -1<=y.Thruster/\y.Thruster<=7) (λz=>((b.Ag.length:Int)-z.1).toNat) _ _ ⟨by dsimp only;omega,hs,rfl,λi x y hx hy=>?_⟩ (by dsimp only;omega) ?_
 ·dsimp only at hy;rw[hx]at hy;cases hy;exact⟨rfl,(h.co i x hx).2.2.2.1⟩
 rintro⟨k,L,a,l⟩ ⟨⟨h1,h2⟩,h3,h4,h5⟩;dsimp only at h1 h2 h3 h4 h5;unfold Aia;refine c6 (λhc=>?_) (λ_=>cY ⟨h.thr h4 h5,h4,h3⟩);simp only[A0b,dJ]at hc;dsimp only;rw[Az (n:=(x.Av.length:Int)-1) (by omega),Az (n:=k+1) (by omega)];refine(Fi h3 (-1) _ (by omega) (by omega) (by omega)).bind λu hu=>(cW (by omega) (by omega)).bind λc hc2=>(d7 (by omega) (by omega)).bind λm hm=>c7 ?_;subst hm;refine⟨⟨by dsimp only;omega,hu.1,by simpa using h4,λi x y hx hy=>?_⟩,by dsimp only;omega⟩;grind
theorem Ac5(hs:A5 s):Ok (F43 s) λy=>Pm y.1/\A5 y.2:=by
 unfold F43;refine(A1k hs).bind λy1 h1=>(Ayu h1 (n:=2) (by omega)).bind λy3 h3=>(Azh h3.2).bind λy5 h5=>(Ayt h5.2).bind λy7 h7=>(A0y h7.2 (n:=3) (by omega)).bind λy9 h9=>(Axi h9).bind λy11 h11=>(pick h11 _ (by simp) (by simp)).bind λy13 h13=>(A3h h13).bind λy15 h15=>(A0u h15).bind λy17 h17=>?_;refine(Fi h17 (-50) 50 (by omega) (by omega) (by omega)).bind λy19 h19=>(Fi h19.1 (-50) 50 (by omega) (by omega) (by omega)).bind λy21 h21=>(Ayp h21.1).bind λy23 h23=>?_;have hth:=h3.1.2;refine(Aq5 h5.1.ok (x:=y3.1) (by omega) h23 y3.2 y5.2).andThen (λz hz=>?_) (λ_ h=>h.elim);refine(Aq4 (C:=[0,(y5.1.Ae.length:Int),(y5.1.Ah.length:Int),y5.1.Am,(z.2.2.2.length:Int),(y3.1.Av.length:Int),(y9.1.length:Int),0,0,2]) (by simp) rfl hz.2.2).andThen (λw hw=>?_) (λ_ h=>h.elim);have hwl:=hw.1.2.1;refine(Ach hw.1.1 (by omega) hw.2).bind λy36 h36=>(jU hw.1.1 (by omega) h36.2).bind λy38 h38=>Ok.pure ⟨⟨h3.1.1,hz.1,h7.1,⟨hw.1.1,hw.1.ptOk,by dsimp only;omega,h36.1,h38.1⟩⟩,h38.2⟩
def Ql:List Ab:=[(⟨1,0⟩:Ab),(⟨1,1⟩:Ab),(⟨5,0⟩:Ab),(⟨5,1⟩:Ab),(⟨6,0⟩:Ab),(⟨9,0⟩:Ab)]
theorem Sf:Eg Ql:=by
 have h:Ql.Pairwise λa b=>Dm a b=true:=by decide +kernel
 exact h
theorem An8(hl:Eg l)(hn:l.length<=40)(hs:A5 s):Ok (F92 s l) λy=>zV l y.1/\A5 y.2:=Ach hl hn hs
theorem Aj2(hl:Eg l)(hn:l.length<=30)(hs:A5 s):Ok (F93 s l) λy=>Zo l y.1/\A5 y.2:=jU hl hn hs
theorem Ayv(hs:A5 s):Ok (F45 s) λy=>Pm y.1/\A5 y.2:=by
 unfold F45;refine(Ac5 hs).bind λy1 h1=>(cV (by simp)).bind λb1 e1=>(C8 h1.2 3 (by omega) (by omega)).bind λy5 h5=>(cV (by simp)).bind λs1 e2=>(cV (by subst e1;simp)).bind λb2 e3=>(C8 h5.1 3 (by omega) (by omega)).bind λy11 h11=>(cV (by subst e2;simp)).bind λs2 e4=>?_;subst e1;subst e2;subst e3;subst e4;have g0:P7 2 [(⟨1,0,1⟩:Ak)] []:=M5.gens (λx hx=>by rw[aK.1 hx];exact⟨rfl,by decide,by decide,by decide⟩) (by simp);have hy5:=h5.2;have hy11:=h11.2;have g1:=g0.add (x:=(⟨2,0,0⟩:Ak)) (y:=(⟨100,0,y5.1⟩:B9)) ⟨rfl,rfl,by decide,by decide⟩ ⟨by dsimp only;omega,by dsimp only;omega,by dsimp only;omega⟩;have g2:=g1.add (x:=(⟨2,1,1⟩:Ak)) (y:=(⟨100,0,y11.1⟩:B9)) ⟨rfl,rfl,by decide,by decide⟩ ⟨by dsimp only;omega,by dsimp only;omega,by dsimp only;omega⟩;have g3:=g2.cons;have hg2:=g2.len;refine Ok.andThen (A:=λz=>A5 ⟨z.2.1,z.2.2.1⟩/\(∀t,t∈z.2.2.2.2.1->E6 t)/\z.2.2.2.2.1.length=4/\T6 2 z.2.2.2.1 2 z.2.2.2.2.2/\z.2.2.2.2.2.length=4) (B:=λ(_:Unit)=>False) ?_ (λz hz=>?_) (λ_ h=>h.elim)
 ·refine cU (λz=>(0<=z.1/\z.1<=4)/\A5 ⟨z.2.1,z.2.2.1⟩/\(∀t,t∈z.2.2.2.2.1->E6 t)/\(z.2.2.2.2.1.length:Int)=z.1/\T6 2 z.2.2.2.1 2 z.2.2.2.2.2/\(z.2.2.2.2.2.length:Int)=z.1) (λz=>(4-z.1).toNat) _ _ ⟨by simp,h11.1,by simp,by simp,g3,by simp⟩ (by simp) ?_;rintro⟨k,L,a,br,th,co⟩ ⟨⟨q1,q2⟩,q3,q4,q5,q6,q7⟩;dsimp only at q1 q2 q3 q4 q5 q6 q7;have hbl:=q6.len;unfold Avc;refine c6 (λhc=>?_) (λhc=>?_)
  ·simp only[dJ]at hc;refine(cV (by simp;omega)).bind λbr2 e1=>(Cx q3 _ (by simp) (by simp)).bind λu hu=>(C8 hu.1 3 (by omega) (by omega)).bind λv hv=>(cV (by simp;omega)).bind λco2 e2=>(Cx hv.1 _ (by simp) (by simp)).bind λw hw=>(Cx hw.1 _ (by simp) (by simp)).bind λx hx=>(cV (by simp;omega)).bind λth2 e3=>c7 ?_;subst e1;subst e2;subst e3;rw[Az (n:=k+1) (by omega)];have hu2:u.1=0\/u.1=5\/u.1=20:=by simpa using hu.2
   have hw2:w.1=50\/w.1=5:=by simpa using hw.2
   have hx2:x.1=1\/x.1=2:=by simpa using hx.2
   have hv2:=hv.2;have hm:=yA (x:=k) (n:=2) (by omega) q1;have hd:0<=Int.tdiv k 2/\Int.tdiv k 2<=1:=by
    have:Int.tdiv k 2=k / 2:=cz q1;omega
   refine⟨⟨by dsimp only;omega,hx.1,λt ht=>?_,by simp;omega,q6.add (m:=[⟨3,Int.tmod k 2,k⟩]) (λz hz=>?_) (by simp) (by simp) (by simp) ⟨⟨by dsimp only;omega,by dsimp only;omega,by dsimp only;omega,by dsimp only;omega,by simp,by simp,by simp⟩,by dsimp only;omega⟩,by simp;omega⟩,by dsimp only;omega⟩
   ·rcases am.1 ht with ht|ht
    ·exact q4 t ht
    ·rw[aK.1 ht];rw[Az (n:=Int.tdiv k 2) (by omega)];exact⟨by dsimp only;omega,by dsimp only;omega,by dsimp only;omega,by dsimp only;omega,by dsimp only;omega,by simp,by simp⟩
   ·rw[aK.1 hz];exact⟨rfl,by dsimp only;omega,hm⟩
  ·simp only[dK]at hc;exact cY ⟨q3,q4,by dsimp only;omega,q6,by dsimp only;omega⟩
 ·obtain⟨z1,z2,z3,z4,z5⟩:=hz;refine(An8 Sf (by simp[Ql]) z1).bind λy30 h30=>(Aj2 Sf (by simp[Ql]) h30.2).bind λy32 h32=>Ok.pure ⟨⟨⟨by simp,by simp,by dsimp only;omega,z2⟩,?_,h1.1.table,⟨Sf,?_,by simp,h30.1,h32.1⟩⟩,h32.2⟩
  ·have hbl:=z4.len;exact⟨by simp,by dsimp only;omega,by simp,by dsimp only;omega,by simp,by simp,by dsimp only;rw[z5];have:=z4.br;rw[z5]at this;exact this,z4.one,z4.any,z4.nodup,g2.so,λi x hx=>(z4.co i x hx).1⟩
  ·intro p hp;have h:∀p,p∈Ql->Dy p:=by
    unfold Dy Ql;simp
   exact h p hp
theorem Am9(hs:A5 s):Ok (F11 s) λy=>Pm y.1/\((∀t,Rf y.1.Board t y.2.1)/\(5<=y.2.1.Time/\y.2.1.Time<=20)/\y.2.1.Bm=[]/\y.2.1.Power.Al.length<=4)/\A5 y.2.2:=by
 unfold F11;refine(Ac5 hs).bind λv hv=>(C8 hv.2 2 (by omega) (by omega)).bind λu hu=>c6 (λ_=>?_) (λ_=>?_)
 ·refine(Ayv hu.1).bind λw hw=>(Ahx hw.1.Ap hw.2).bind λp hp=>Ok.pure ⟨hw.1,hp.1,hp.2⟩
 ·refine(Ahx hv.1.Ap hu.1).bind λp hp=>Ok.pure ⟨hv.1,hp.1,hp.2⟩
set_option linter.unusedVariables false
theorem Y9(h:A1 b)(hp:Ax b p)(T:Int)(a:A0):(doE b p T a).length<=10001:=by
 unfold doE;split
 ·rename_i he;have:=(Sg h (Agi h hp he).1).2.2;simp;omega
 ·simp
theorem A7q(h:A1 b){p:As}(hp:Ax b p.Power)(h1:p.Be.length<=1000)(h2:p.Bm.length<=9000000)(a:A0) :
  F54 b p a=some (⟨p.Time,doP b p.Power p.Time a,p.Be,p.Bm++doE b p.Power p.Time a⟩,doS b p.Power p.Time a,0):=by
 have hl:=Y9 h hp p.Time a;refine cZ ?_;unfold F54;rw[E_ h hp];simp only[aa];refine c6 (λhc=>by simp at hc) (λ_=>?_);refine Ok.bind (P:=λv=>v=⟨p,b,[],[]⟩) (cX (Ayj h hp h1 (by omega)) rfl) λv hv=>?_;subst hv;have hd:=A77 h (T:=p.Time) (P:=p.Power) (ros:=p.Be) (evs:=p.Bm) (ev:=[]) (sts:=[]) hp (by simp) (by simp) a;refine Ok.bind (P:=λv=>v=_) (cX hd rfl) λv hv=>?_;subst hv;refine(cV (l:=p.Bm) (m:=[]++doE b p.Power p.Time a) (by simp;omega)).bind λu hu=>Ok.pure ?_;rw[hu];rfl
variable{p:Ab}
theorem Aru(h:Dy p):ptB p=true:=by
 unfold Dy at h;have e:∀n:Int,0<=n->n<=63->(Lit.int .i64 n).wf=true:=λn h1 h2=>by
  have m1:IntKind.i64.min = -9223372036854775808:=by decide +kernel
  have m2:IntKind.i64.max=9223372036854775807:=by decide +kernel
  simp only[Lit.wf,m1,m2,ac,dJ];omega
 unfold ptB;rw[e _ (by omega) (by omega),e _ (by omega) (by omega)];rfl
theorem Aj5{L:List Bh}{b:List Ab}(h:p∈G6 L b):p∈b\/∃x,x∈L/\x.To=p:=by
 have h2:=(Aol L b p).1 h;clear h;induction h2 with
 | «at» h=>exact .inl h
 | «by» _ x hx _ e2 _=>exact .inr ⟨x,hx,e2⟩
theorem qG(L:List Bh)(b:List Ab):(G6 L b).length<=b.length+L.length:=by
 have h:=L8 (Aom L b) (m:=b++L.map (·.To)) λp hp=>by
  rcases Aj5 hp with h|⟨x,hx,e⟩
  ·exact bh _ h
  ·exact bo _ (ao.2 ⟨x,hx,e⟩)
 simpa using h
theorem Af5{d:Bf}(h:X7 d){b:List Ab}(hb:∀p,p∈b->Dy p)(hn:b.length<=1000):F51 d b=some (G6 d.Links b):=by
 have h2:=h.links.len;unfold F51 qH;rw[Yl h];have e:T5 b=some b:=Hk (by omega);rw[e];have e2:okF d.Links b=true:=by
  simp only[okF,ac,dJ,aC];exact⟨⟨λp hp=>Aru (hb p hp),λx hx=>Aru (h.ok _ (h.links.mem x hx).2.1)⟩,by omega⟩
 simp only[aa,e2];rfl
theorem Yh(h:A1 b)(hp:Cv b p):Dy p:=by
 have h1:=h.buses;have h2:=h.brl;have h3:=h.sol;have h4:=h.col;unfold Cv at hp;unfold Dy;omega
theorem Ana{l m:List Int}(hl:l.length<=1000):Ok (F57 l m) λy=>y.length=l.length/\∀(i:Nat) v,y[i]? = some v->(l[i]? = some v/\¬(i:Int)∈m)\/v=0:=by
 unfold F57;refine Ok.bind (P:=λy=>y=l) (cX (Hk (by omega)) rfl) λy hy=>?_;subst hy;refine Ok.andThen (A:=λz=>z.length=y.length/\∀(i:Nat) v,z[i]? = some v->(y[i]? = some v/\¬(i:Int)∈m)\/v=0) (B:=λ(_:Unit)=>False) ?_ (λz hz=>Ok.pure hz) (λ_ h=>h.elim);refine c8 (I:=λj z=>z.length=y.length/\∀(i:Nat) v,z[i]? = some v->(y[i]? = some v/\¬(i:Int)∈m.take j)\/v=0) ⟨rfl,λi v hv=>.inl ⟨hv,by simp⟩⟩ (λj x z hx hz=>?_) λz hz=>by rw[aE]at hz;exact hz
 unfold Ava;rw[Bp hx];refine c6 (λhc=>?_) (λhc=>c7 ⟨hz.1,λi v hv=>(hz.2 i v hv).imp (λh=>⟨h.1,λhm=>?_⟩) id⟩)
 ·simp only[Ao7,ac,dJ]at hc;refine(cW hc.1 hc.2).bind λ_ _=>(d7 hc.1 hc.2).bind λw hw=>c7 ?_;subst hw;refine⟨by rw[ba];exact hz.1,λi v hv=>?_⟩;rw[aD]at hv;split at hv
  ·split at hv
   ·cases hv;exact .inr rfl
   ·cases hv
  ·refine(hz.2 i v hv).imp (λh=>⟨h.1,λhm=>?_⟩) id;rcases am.1 hm with hm|hm
   ·exact h.2 hm
   ·rw[aK]at hm;omega
 ·rcases am.1 hm with hm|hm
  ·exact h.2 hm
  ·rw[aK]at hm;have hi:=(ab.1 hv).1;simp only[Ao7,bD,dK]at hc;omega
variable{p:As}
theorem Agq(h:A1 b)(hp:Ax b p.Power)(h1:p.Be.length<=1000)(h2:p.Bm.length<=10000000):F56 p=some p:=by
 have g1:=hp.ncl;have g2:=hp.nso;have g3:=hp.nli;have g4:=hp.brk.len;have k1:=h.brl;have k2:=h.sol;have k3:=h.col;unfold F56 Abt Abs Abr Abq Qe T5;rw[Hk (by omega),Hk (by omega),Hk (by omega),Hk (by omega),Hk (by omega),Hk (by omega)];rfl
structure Aft(v:Ba)(all:List Ab)(y:As×List Int×Int):Prop where
 err:y.2.2=0
 st:Ax v.Board y.1.Power
 len:y.2.1.length=v.Ship.Av.length
 able:∀(i:Nat) t n,v.Ship.Av[i]? = some t->y.2.1[i]? = some n->(0<=n/\n<=t.Max)/\(n≠0->(∃j:Nat,own v.Board i=(j:Int)/\svB v.Board y.1.Power 1000 j=true)/\¬(⟨5,(i:Int)⟩:Ab)∈all)
theorem Adv(h:Pm v)(hS:Ax v.Board p.Power)(hro:p.Be.length<=1000)(he:p.Bm.length<=100000)(hck:F49 v.Board v.Table p=some c)(hb:∀x,x∈broken->Dy x)(hf:∀x,x∈fails->Dy x)(hbn:broken.length<=20)(hfn:fails.length<=40) :
  Ok (F14 v p broken fails) λy=>c=0->Aft v (G6 v.Design.Links (broken++(p.Power.Al++fails))) y:=by
 have hB:=h.Ap;have hbl:=hS.brk.len;have hlk:=h.des.links.len;unfold F14;rw[hck,Yl h.des];simp only[aa];refine c6 (λhc=>Ok.pure λe=>by rw[e]at hc;cases hc) (λ_=>c6 (λhc=>by simp at hc) (λ_=>Ok.mono ?_ λ_ h _=>h));have ec:F52 [broken,p.Power.Al,fails]=some (broken++(p.Power.Al++fails)):=by
  have e:[broken,p.Power.Al,fails].flatten=broken++(p.Power.Al++fails):=by simp
  unfold F52 Jc;rw[e,dN (by simp;omega)];rfl
 rw[ec];have hall:∀x,x∈broken++(p.Power.Al++fails)->Dy x:=λx hx=>by
  rcases am.1 hx with hx|hx
  ·exact hb x hx
  ·rcases am.1 hx with hx|hx
   ·exact Yh hB (hS.brk.mem x hx)
   ·exact hf x hx
 have hbase:(broken++(p.Power.Al++fails)).length<=92:=by simp;omega
 generalize broken++(p.Power.Al++fails)=base at hall hbase;simp only[aa];rw[Af5 h.des hall (by omega)];simp only[aa];have hfl:=qG v.Design.Links base;generalize G6 v.Design.Links base=all at hfl;refine Ok.andThen (A:=λz=>Ax v.Board ⟨z.2.2.1,z.2.2.2.1,z.2.2.2.2.1,z.2.2.2.2.2.1⟩/\z.2.2.2.2.2.2.1=p.Be/\z.2.2.2.2.2.2.2.length<=2000000/\∀x,x∈all->x.Kind=5->x.Number∈z.1) (B:=λ_=>False) ?_ (λz hz=>?_) (λ_ h=>h.elim)
 ·refine c8 (I:=λj z=>(Ax v.Board ⟨z.2.2.1,z.2.2.2.1,z.2.2.2.2.1,z.2.2.2.2.2.1⟩/\z.2.2.2.2.2.2.1=p.Be/\z.2.2.2.2.2.2.2.length<=100000+10001*j/\∀x,x∈all.take j->x.Kind=5->x.Number∈z.1)/\z.1.length<=j) ⟨⟨hS,rfl,by dsimp only;omega,by simp⟩,by simp⟩ (λj x z hx hz=>?_) λz hz=>?_
  ·obtain⟨⟨z1,z2,z3,z4⟩,z5⟩:=hz;have hj:=(ab.1 hx).1;unfold Avp;refine Ok.inner (A:=λw=>w.length<=j+1/\∀y,y∈all.take (j+1)->y.Kind=5->y.Number∈w) (B:=λ(_:Unit)=>False) ?_ (λw hw=>?_) (λ_ h=>h.elim)
   ·unfold Avo;refine c6 (λhc=>(cV (by simp;omega)).bind λm hm=>db ?_) (λhc=>db ?_)
    ·subst hm;refine⟨by simp;omega,λy hy hk=>?_⟩;rw[Bp hx]at hy;rcases am.1 hy with hy|hy
     ·exact bh _ (z4 y hy hk)
     ·rw[aK.1 hy];exact bo _ (aK.2 rfl)
    ·refine⟨by omega,λy hy hk=>?_⟩;rw[Bp hx]at hy;rcases am.1 hy with hy|hy
     ·exact z4 y hy hk
     ·rw[aK.1 hy]at hk;rw[hk]at hc;cases hc
   ·refine Ok.bind (P:=λ_=>True) (c9 (λ_=>cX (Qv _ _ (by omega)) trivial) λ_=>trivial) λu _=>c6 (λ_=>c7 ⟨⟨z1,z2,by dsimp only;omega,hw.2⟩,hw.1⟩) (λ_=>?_);have hd:=A7q hB (p:=⟨z.2.1,⟨z.2.2.1,z.2.2.2.1,z.2.2.2.2.1,z.2.2.2.2.2.1⟩,z.2.2.2.2.2.2.1,z.2.2.2.2.2.2.2⟩) z1 (by dsimp only;rw[z2];omega) (by dsimp only;omega) ⟨8,x.Number,x.Kind⟩;refine Ok.bind (P:=λy=>y=_) (cX hd rfl) λy hy=>?_;subst hy;refine c6 (λhc=>by simp at hc) (λ_=>c7 ⟨⟨As5 hB z1 _ _,z2,?_,hw.2⟩,hw.1⟩);have:=Y9 hB z1 z.2.1 ⟨8,x.Number,x.Kind⟩;dsimp only;rw[aF];omega
  ·rw[aE]at hz;exact⟨hz.1.1,hz.1.2.1,by omega,hz.1.2.2.2⟩
 ·obtain⟨z1,z2,z3,z4⟩:=hz;refine(A18 hB z1 h.ship).bind λy hy=>?_;obtain⟨y1,y2,y3⟩:=hy;refine c6 (λhc=>by simp[y1]at hc) (λ_=>?_);rw[Agq hB (p:=⟨z.2.1,⟨z.2.2.1,z.2.2.2.1,z.2.2.2.2.1,z.2.2.2.2.2.1⟩,z.2.2.2.2.2.2.1,z.2.2.2.2.2.2.2⟩) z1 (by dsimp only;rw[z2];omega) (by dsimp only;omega)];have hsl:=h.ship.len;refine(Ana (m:=z.1) (by omega)).bind λw hw=>Ok.pure ⟨rfl,z1,by rw[←y2];exact hw.1,λi t n ht hn=>?_⟩;have htm:=(h.ship.thr t (ae ht)).max;rcases hw.2 i n hn with⟨g1,g2⟩|rfl
  ·obtain⟨a1,a2,a3⟩:=y3 i t n ht g1;exact⟨a1,λh0=>⟨a3 h0,λhm=>g2 (z4 _ hm rfl)⟩⟩
  ·exact⟨⟨by omega,htm.1⟩,λh0=>absurd rfl h0⟩
theorem Azj(h:Pm v)(hp:Rf v.Board v.Table p)(he:p.Bm.length<=200)(hb:∀x,x∈broken->Dy x)(hf:∀x,x∈fails->Dy x)(hbn:broken.length<=20)(hfn:fails.length<=40) :
  Ok (F14 v p broken fails) (Aft v (G6 v.Design.Links (broken++(p.Power.Al++fails)))):=by
 have h1:=hp.nro;have h2:=h.Ap.buses;exact(Adv h hp.st (by omega) (by omega) (Adx h.Ap h.table hp) hb hf hbn hfn).mono λy hy=>hy rfl
set_option linter.unusedVariables false
theorem qC(n:Int)(hd:d≠0):Ok (M9 n d) λ_=>True:=by
 unfold M9;exact(Ok.nzI hd).bind λ_ _=>(Ok.nzI hd).bind λ_ _=>c6 (λ_=>Ok.pure trivial) λ_=>Ok.pure trivial
theorem Y5(n d:Int):Ok (M7 n d) λ_=>True:=by
 unfold M7 Wh;refine Ok.bind (P:=λ_=>True) (c6 (λ_=>Ok.pure trivial) λhc=>?_) λ_ _=>Ok.pure trivial;simp only[Lo,aQ,dK]at hc;refine Ok.bind (P:=λ_=>True) ?_ λ_ _=>Ok.pure trivial;unfold Aig;have e:w64 (2*d)=2*d:=Az (by omega);rw[e];exact(qC _ (by omega)).bind λ_ _=>Ok.pure trivial
theorem Asj(n d:Int):Ok (Tu n d) λ_=>True:=by
 unfold Tu Wg;refine Ok.bind (P:=λ_=>True) (c6 (λ_=>Ok.pure trivial) λhc=>?_) λ_ _=>Ok.pure trivial;simp only[Oo,aQ,dK]at hc;exact(qC _ (by omega)).bind λ_ _=>Ok.pure trivial
theorem Asi{n:Int}(h:-10000000<=n/\n<=10000000):Tu n 2=some (n / 2,0):=by
 refine cZ ?_;unfold Tu Wg;refine Ok.bind (P:=λy=>y=(n / 2,0)) (c6 (λhc=>?_) λhc=>?_) λy hy=>Ok.pure (by rw[hy])
 ·simp only[Oo,an,dJ]at hc;omega
 ·unfold M9;refine Ok.bind (P:=λy=>y=n / 2) ((Ok.nzI (by omega)).bind λ_ _=>(Ok.nzI (by omega)).bind λ_ _=>?_) λy hy=>Ok.pure (by rw[hy]);have h1:Int.tmod n 2=n-2*Int.tdiv n 2:=by grind
  have h2:=cJ n (b:=2) (by omega);have h3:=cK n (b:=2) (by omega);refine c6 (λhq=>Ok.pure ?_) (λhq=>Ok.pure ?_)
  ·simp only[dJ]at hq;rw[Az (n:=Int.tdiv n 2) (by omega),Az (by omega)];omega
  ·simp only[dK]at hq;rw[Az (by omega)];omega
theorem Ax1(x:Int)(h:lo<=hi):lo<=Ga x lo hi/\Ga x lo hi<=hi:=by
 unfold Ga;omega
theorem Xj(a:Int):Ok (V6 a) λ_=>True:=by
 unfold V6;refine Ok.andThen (A:=λ_=>True) (B:=λ(_:Unit)=>False) ?_ (λz _=>(Y5 _ _).bind λ_ _=>Ok.pure trivial) (λ_ h=>h.elim);unfold zW;exact c6 (λ_=>db trivial) λ_=>db trivial
theorem zM(a:Int):Ok (Zp a) λ_=>True:=by
 unfold Zp;exact(Xj _).bind λ_ _=>Ok.pure trivial
theorem Pi(a x y:Int):Ok (Zq a x y) λ_=>True:=by
 unfold Zq;exact c6 (λ_=>Ok.pure trivial) λ_=>(zM _).bind λ_ _=>(Xj _).bind λ_ _=>Ok.pure trivial
theorem X_(a:Bu)(x y:Int):Ok (P8 a x y) λ_=>True:=by
 unfold P8;exact c6 (λ_=>Ok.pure trivial) λ_=>(Pi _ _ _).bind λ_ _=>Ok.bind (P:=λ_=>True) (c9 (λ_=>zM _) λ_=>trivial) λ_ _=>Ok.bind (P:=λ_=>True) (c9 (λ_=>Xj _) λ_=>trivial) λ_ _=>Ok.bind (P:=λ_=>True) (c9 (λ_=>Pi _ _ _) λ_=>trivial) λ_ _=>Ok.pure trivial
theorem Ayk(l:List Bu)(x y:Int):Ok (Rs l x y) λ_=>True:=by
 unfold Rs uT;refine Ok.bind (P:=λ_=>True) ?_ λ_ _=>Ok.pure trivial;refine Ok.andThen (A:=λ_=>True) (B:=λ_=>True) ?_ (λ_ _=>Ok.pure trivial) (λ_ _=>Ok.pure trivial);refine c8 (I:=λ_ _=>True) trivial (λj a z _ _=>?_) λ_ _=>trivial;unfold Wi uM;refine Ok.bind (P:=λ_=>True) ((X_ _ _ _).bind λ_ _=>Ok.pure trivial) λ_ _=>c6 (λ_=>Ok.ret trivial) λ_=>c7 trivial
theorem uH(h0:0<=t.Max/\t.Max<=5000)(x y:Int):Ok (P9 t x y) λb=>b=true->(-t.Max<=x/\x<=t.Max) /\ -t.Max<=y/\y<=t.Max:=by
 unfold P9;refine c6 (λ_=>Ok.pure λh=>by cases h) λhc=>(Ayk _ _ _).bind λ_ _=>Ok.pure λ_=>?_;simp only[Q7,aQ,dK]at hc;have e:w64 (0-t.Max) = -t.Max:=by rw[Az (by omega)];omega
 rw[e]at hc;omega
theorem jO(ht:Qc t=some true)(h0:0<=t.Max/\t.Max<=5000):Ok (Tt t) λr=>(-t.Max<=r.1/\r.1<=0)/\0<=r.2/\r.2<=t.Max:=by
 unfold Tt;rw[ht,aa];refine c6 (λhc=>by cases hc) λ_=>Ok.bind (P:=λr=>(-t.Max<=r.1/\r.1<=0)/\0<=r.2.1/\r.2.1<=t.Max) ?_ λr hr=>Ok.pure hr;unfold uP;have hA:∀z,Ok (K_ z t) λb=>b=true -> -t.Max<=z/\z<=t.Max:=λz=>by
  unfold K_;exact(uH h0 0 z).bind λb hb=>Ok.pure λh=>(hb h).2
 refine(hA 0).bind λ_ _=>c6 (λ_=>Ok.pure ⟨by dsimp only;omega,by dsimp only;omega⟩) λ_=>?_;refine Ok.andThen (A:=λz=>-t.Max<=z/\z<=0) (B:=λ(_:Unit)=>False) ?_ (λz hz=>Ok.andThen (A:=λw=>0<=w/\w<=t.Max) (B:=λ(_:Unit)=>False) ?_ (λw hw=>Ok.pure ⟨hz,hw⟩) (λ_ h=>h.elim)) (λ_ h=>h.elim)
 ·refine cU (λz=>-t.Max<=z/\z<=0) (λz=>(z+5000).toNat) _ _ ⟨by omega,by omega⟩ (by omega) λz hz=>?_;unfold Ms;rw[Az (n:=z-1) (by omega)];exact(hA (z-1)).bind λb hb=>c6 (λh=>c7 (by have:=hb h;omega)) λ_=>cY hz
 ·refine cU (λz=>0<=z/\z<=t.Max) (λz=>(5000-z).toNat) _ _ ⟨by omega,by omega⟩ (by omega) λz hz=>?_;unfold Mr;rw[Az (n:=z+1) (by omega)];exact(hA (z+1)).bind λb hb=>c6 (λh=>c7 (by have:=hb h;omega)) λ_=>cY hz
theorem Afg(ht:Qc t=some true)(h0:0<=t.Max/\t.Max<=5000)(y:Int):Ok (Ts t y) λr=>(-t.Max<=r.1/\r.1<=0)/\0<=r.2/\r.2<=t.Max:=by
 unfold Ts;rw[ht,aa];refine c6 (λhc=>by cases hc) λ_=>Ok.bind (P:=λr=>(-t.Max<=r.1/\r.1<=0)/\0<=r.2.1/\r.2.1<=t.Max) ?_ λr hr=>Ok.pure hr;unfold uO;have hA:∀z,Ok (K9 z t y) λb=>b=true -> -t.Max<=z/\z<=t.Max:=λz=>by
  unfold K9;exact(uH h0 z y).bind λb hb=>Ok.pure λh=>(hb h).1
 refine(hA 0).bind λ_ _=>c6 (λ_=>Ok.pure ⟨by dsimp only;omega,by dsimp only;omega⟩) λ_=>?_;refine Ok.andThen (A:=λz=>-t.Max<=z/\z<=0) (B:=λ(_:Unit)=>False) ?_ (λz hz=>Ok.andThen (A:=λw=>0<=w/\w<=t.Max) (B:=λ(_:Unit)=>False) ?_ (λw hw=>Ok.pure ⟨hz,hw⟩) (λ_ h=>h.elim)) (λ_ h=>h.elim)
 ·refine cU (λz=>-t.Max<=z/\z<=0) (λz=>(z+5000).toNat) _ _ ⟨by omega,by omega⟩ (by omega) λz hz=>?_;unfold Mq;rw[Az (n:=z-1) (by omega)];exact(hA (z-1)).bind λb hb=>c6 (λh=>c7 (by have:=hb h;omega)) λ_=>cY hz
 ·refine cU (λz=>0<=z/\z<=t.Max) (λz=>(5000-z).toNat) _ _ ⟨by omega,by omega⟩ (by omega) λz hz=>?_;unfold Mp;rw[Az (n:=z+1) (by omega)];exact(hA (z+1)).bind λb hb=>c6 (λh=>c7 (by have:=hb h;omega)) λ_=>cY hz
def Cu(s:Ay):Prop:=(-5000<=s.Low/\s.Low<=s.High/\s.High<=5000)/\1<=s.Cost/\s.Cost<=100
variable{l:List Ay}
theorem Ab3(hl:l.length<=8)(h:∀s,s∈l->Cu s):Apm l=some 0:=by
 refine cZ ?_;unfold Apm;refine c6 (λhc=>by grind) λ_=>Ok.andThen (A:=λ_=>True) (B:=λ_=>False) ?_ (λ_ _=>Ok.pure rfl) (λ_ h=>h.elim);refine c8 (I:=λ_ _=>True) trivial (λj s z hs _=>?_) λ_ _=>trivial;have:=h s (ae hs);unfold Cu at this;unfold Aly;refine c6 (λhc=>?_) λ_=>c7 trivial;simp only[Atj,an,dJ]at hc;omega
theorem Arp(hl:l.length<=8)(h:∀s,s∈l->Cu s):Ok (Aac l) λy=>y.2.2=0:=by
 unfold Aac;rw[Ab3 hl h,aa];refine c6 (λhc=>by cases hc) λ_=>Ok.andThen (A:=λ_=>True) (B:=λ(_:Unit)=>False) ?_ (λ_ _=>Ok.pure rfl) (λ_ h=>h.elim);exact c8 (I:=λ_ _=>True) trivial (λj s z hs _=>c7 trivial) λ_ _=>trivial
theorem Acc(hl:l.length<=8)(h:∀s,s∈l->Cu s)(p:Int):Ok (Zs l p) λy=>y.1.length=l.length/\∀(i:Nat) s v,l[i]? = some s->y.1[i]? = some v->s.Low<=v/\v<=s.High:=by
 unfold Zs;refine Ok.andThen (A:=λz=>z.2.length=l.length/\∀(i:Nat) s v,l[i]? = some s->z.2[i]? = some v->s.Low<=v/\v<=s.High) (B:=λ(_:Unit)=>False) ?_ (λz hz=>Ok.pure hz) (λ_ h=>h.elim);refine c8 (I:=λj z=>z.2.length=j/\∀(i:Nat) s v,l[i]? = some s->z.2[i]? = some v->s.Low<=v/\v<=s.High) ⟨rfl,by simp⟩ (λj s z hs hz=>?_) λz hz=>hz;have hj:=(ab.1 hs).1;unfold Aab;have hok:=h s (ae hs);refine(Asj _ _).bind λy _=>(cV (by simp;omega)).bind λm hm=>c7 ?_;subst hm;refine⟨by simp;omega,λi s' v hi hv=>?_⟩;rw[cd]at hv;split at hv
 ·exact hz.2 i s' v hi hv
 ·have hi2:i=j:=by
   grind
  subst hi2;rw[hs]at hi;cases hi;rw[hz.1,Nat.sub_self]at hv;cases hv;exact Ax1 _ hok.1.2.1
variable{t:Int}
theorem Sb(hl:l.length<=8)(h:∀s,s∈l->Cu s)(ht:-500000<=t/\t<=500000):Ok (Tw l t) λy=>y.1.length=l.length/\∀v,v∈y.1 -> -5000<=v/\v<=5000:=by
 unfold Tw;refine(Arp hl h).bind λy1 hy1=>?_;refine c6 (λhc=>by rw[hy1]at hc;cases hc) λ_=>c6 (λhc=>?_) λ_=>?_
 ·simp only[Ag0,an,dJ]at hc;omega
 refine Ok.andThen (A:=λ_=>True) (B:=λ(_:Unit)=>False) ?_ (λz0 _=>?_) (λ_ h=>h.elim)
 ·refine cU (λz=>-1000200<=z.2/\z.2<=z.1/\z.1<=1000200) (λz=>(z.1-z.2).toNat) _ _ ⟨by decide,by decide,by decide⟩ (by decide) ?_;rintro⟨b,a⟩ ⟨h1,h2,h3⟩;dsimp only at h1 h2 h3;unfold Aaj;refine c6 (λhc=>?_) λ_=>cY trivial;simp only[dJ]at hc;dsimp only;rw[Az (n:=a+b) (by omega),Asi (by omega)];simp only[aa];refine(Acc hl h _).bind λ_ _=>c6 (λ_=>c7 ⟨⟨h1,by dsimp only;omega,by dsimp only;omega⟩,by dsimp only;omega⟩) λ_=>c7 ?_;rw[Az (by omega)];exact⟨⟨by dsimp only;omega,by dsimp only;omega,h3⟩,by dsimp only;omega⟩
 ·refine(Acc hl h _).bind λy hy=>?_;refine Ok.andThen (A:=λz=>z.2.length=l.length/\∀(i:Nat) s v,l[i]? = some s->z.2[i]? = some v->s.Low<=v/\v<=s.High) (B:=λ(_:Unit)=>False) ?_ (λz hz=>Ok.pure ⟨hz.1,λv hv=>?_⟩) (λ_ h=>h.elim)
  ·refine c8 (I:=λ_ z=>z.2.length=l.length/\∀(i:Nat) s v,l[i]? = some s->z.2[i]? = some v->s.Low<=v/\v<=s.High) hy (λj s z hs hz=>?_) λz hz=>hz;have hj:=(ab.1 hs).1;have hok:=h s (ae hs);unfold X4;rw[Ck (by omega)];have hg:Ok (getI z.2 (j:Int)) λx=>z.2[j]? = some x:=(cW (by omega) (by omega)).mono λx hx=>by simpa using hx
   refine Ok.bind (P:=λv=>z.1<Ga t y1.1 y1.2.1->z.2[j]? = some v) (c9 (λ_=>hg.mono λx hx _=>hx) λhn hlt=>absurd ⟨by simpa using hlt,trivial⟩ hn) λv hv=>?_;refine Ok.bind (P:=λ_=>True) (c9 (λ_=>hg.mono λ_ _=>trivial) λ_=>trivial) λu _=>c6 (λhc=>?_) λ_=>c7 hz;simp only[uB,ac,dJ]at hc;have ev:=hv hc.1.1;refine hg.bind λx hx=>(d7 (by omega) (by omega)).bind λw hw=>c7 ?_;rw[ev]at hx;cases hx;subst hw;have hr:=hz.2 j s v hs ev;have hb:-5000<=s.Low/\s.High<=5000:=⟨hok.1.1,hok.1.2.2⟩;rw[aB,Az (n:=v+1) (by omega)];grind
  ·obtain⟨i,hi⟩:=bm hv;have hil:=(ab.1 hi).1;have hs:l[i]? = some (l[i]'(by have:=hz.1;dsimp only at hil;omega)):=ai _;have hr:=hz.2 i _ v hs hi;have hok:=h _ (ae hs);unfold Cu at hok;omega
set_option linter.unusedVariables false
theorem Hn(l:List Int)(a b:Int):Ok (M8 l a b) λy=>l.length<=1000->y=true->∀x,x∈l->a<=x/\x<=b:=by
 unfold M8 vJ vF;refine Ok.bind (P:=λy=>l.length<=1000->y.1=false->∀x,x∈l->a<=x/\x<=b) (Ok.bind (P:=λy=>l.length<=1000->y.1<0->∀x,x∈l->a<=x/\x<=b) ?_ λy hy=>Ok.pure λhl h=>hy hl (by simpa using h)) λy hy=>Ok.pure λhl h=>hy hl (by simpa using h);refine Ok.andThen (A:=λ_=>∀x,x∈l->a<=x/\x<=b) (B:=λr=>l.length<=1000->0<=r.1) ?_ (λ_ h=>Ok.pure λ_ _=>h) (λr h=>Ok.pure λhl hr=>by have:=h hl;omega);refine c8 (I:=λj _=>∀x,x∈l.take j->a<=x/\x<=b) (by simp) (λj x z hx hz=>?_) λz hz=>by rw[aE]at hz;exact hz
 have hj:=(ab.1 hx).1;unfold Wt;refine c6 (λ_=>Ok.ret λhl=>?_) λhc=>c7 λy hy=>?_
 ·rw[Ck (by omega)];dsimp only;omega
 ·rw[Bp hx]at hy;rcases am.1 hy with hy|hy
  ·exact hz y hy
  ·rw[aK.1 hy];simp only[V_,aQ,dK]at hc;omega
structure X0(n:Nat)(m:B0):Prop where
 len:m.thrusters.length=n
 few:n<=8
 last:m.last=[]\/m.last.length=n
 thr:∀t,t∈m.thrusters->E6 t
theorem Aex(h:lo<=hi)(l r:Int):lo<=(M6 lo hi l r).1/\(M6 lo hi l r).1<=(M6 lo hi l r).2/\(M6 lo hi l r).2<=hi:=by
 unfold M6;cases Ati lo hi l r with
 |true=>simp only[cond_true];omega
 | false=>
  simp only[cond_false];cases hc:Agx lo hi l r with
  |true=>
   simp only[Agx,dJ]at hc;simp only[cond_true];omega
  |false=>cases decide (l<lo) <;> simp only[cond_true,cond_false] <;> omega
theorem Ars(hm:X0 n m)(hi:i<n)(h:-5000<=lo/\lo<=hi'/\hi'<=5000):Ok (Wb m (i:Int) lo hi') Cu:=by
 unfold Wb;have hl:=hm.len;refine(cW (by omega) (by omega)).bind λt ht=>?_;have hc:=(hm.thr t (ae ht)).cost;refine c6 (λhp=>?_) λ_=>Ok.pure ⟨h,hc⟩;simp only[dJ]at hp;have hl2:m.last.length=n:=hm.last.resolve_left λe=>by rw[e]at hp;simp at hp
 refine(cW (by omega) (by omega)).bind λv _=>Ok.pure ⟨?_,hc⟩;have:=Aex h.2.1 (Aaa v) t.Rate;dsimp only;omega
theorem Arr(hm:X0 n m)(hi:i<n)(h:-5000<=lo/\lo<=hi'/\hi'<=5000):Ok (Wa m (i:Int) lo hi') Cu:=by
 unfold Wa;have hl:=hm.len;refine(cW (by omega) (by omega)).bind λt ht=>?_;have hc:=(hm.thr t (ae ht)).cost;refine c6 (λhp=>?_) λ_=>Ok.pure ⟨h,hc⟩;simp only[dJ]at hp;have hl2:m.last.length=n:=hm.last.resolve_left λe=>by rw[e]at hp;simp at hp
 refine(cW (by omega) (by omega)).bind λv _=>Ok.pure ⟨?_,hc⟩;have:=Aex h.2.1 (zZ v) t.Rate;dsimp only;omega
theorem Yj(hm:X0 n m)(st:Int):Ok (Zt m st) λl=>l.length=n/\∀s,s∈l->Cu s:=by
 unfold Zt;have hlen:=hm.len;have hf:=hm.few;refine Ok.andThen (A:=λl=>l.length=n/\∀s,s∈l->Cu s) (B:=λ(_:Unit)=>False) ?_ (λ_ h=>Ok.pure h) (λ_ h=>h.elim);refine c8 (I:=λj l=>l.length=j/\∀s,s∈l->Cu s) ⟨rfl,by simp⟩ (λj t l ht hl=>?_) λl hl=>by rw[hlen]at hl;exact hl
 have hj:=(ab.1 ht).1;have hok:=hm.thr t (ae ht);have hmx:=hok.max;unfold Aai;have fin:∀{x:Ay},Cu x->Ok ((appI 25 l [x]).bind λy=>some (Ctl.next y:Ctl (List Ay) Unit)) (Gg (λl=>l.length=j+1/\∀s,s∈l->Cu s) (λl=>l.length=n/\∀s,s∈l->Cu s) λ(_:Unit)=>False):=fun {x} hx=>(cV (by simp;omega)).bind λw hw=>c7 (by
  subst hw;refine⟨by simp;omega,λs hs=>?_⟩;rcases am.1 hs with hs|hs
  ·exact hl.2 s hs
  ·rw[aK.1 hs];exact hx)
 refine c6 (λ_=>fin ⟨by dsimp only;omega,hok.cost⟩) λ_=>(jO (Ha hok) (by omega)).bind λr hr=>?_;rw[Ck (by omega)];exact(Ars hm (by omega) (by omega)).bind λx hx=>fin hx
theorem Arc(hm:X0 n m)(hy:y.length=n):Ok (Aah m y) λl=>l.length=n/\∀s,s∈l->Cu s:=by
 unfold Aah;have hlen:=hm.len;have hf:=hm.few;refine Ok.andThen (A:=λl=>l.length=n/\∀s,s∈l->Cu s) (B:=λ(_:Unit)=>False) ?_ (λ_ h=>Ok.pure h) (λ_ h=>h.elim);refine c8 (I:=λj l=>l.length=j/\∀s,s∈l->Cu s) ⟨rfl,by simp⟩ (λj t l ht hl=>?_) λl hl=>by rw[hlen]at hl;exact hl
 have hj:=(ab.1 ht).1;have hok:=hm.thr t (ae ht);have hmx:=hok.max;unfold Aag;rw[Ck (by omega)];refine(cW (by omega) (by omega)).bind λv _=>(Afg (Ha hok) (by omega) v).bind λr hr=>(Arr hm (by omega) (by omega)).bind λx hx=>(cV (by simp;omega)).bind λw hw=>c7 ?_;subst hw;refine⟨by simp;omega,λs hs=>?_⟩;rcases am.1 hs with hs|hs
 ·exact hl.2 s hs
 ·rw[aK.1 hs];exact hx
theorem Ie{t:An}(h:E6 t)(n:Int):Apn t n=some ⟨t.Kind,t.Station,min t.Max (max n 0),t.Rate,t.Cost,t.B5⟩/\E6 ⟨t.Kind,t.Station,min t.Max (max n 0),t.Rate,t.Cost,t.B5⟩:=by
 have h1:=h.arcs;have h2:=h.max;refine⟨?_,h.kind,h.station,by dsimp only;omega,h.rate,h.cost,h.arcs,h.arc⟩;unfold Apn Apl;rw[Hk (by omega)];rfl
variable{s:A3}
theorem Ayi(hs:Dw s)(most:List Int)(last:List A6)(ns:List Int):Ok (Rj s most last ns) λy=>y.2=0->X0 s.Av.length y.1:=by
 have hl:=hs.len;unfold Rj;rw[Ii hs,aa];refine c6 (λhc=>by cases hc) λ_=>c6 (λ_=>Ok.pure λh=>by cases h) λhc=>(Hn _ _ _).bind λa _=>Ok.bind (P:=λ_=>True) (c9 (λ_=>(Hn _ _ _).mono λ_ _=>trivial) λ_=>trivial) λb _=>c6 (λ_=>Ok.pure λh=>by cases h) λ_=>?_;simp only[Zf,aQ,bD,dR,dK]at hc;refine Ok.andThen (A:=λz=>z.length=s.Av.length/\∀t,t∈z->E6 t) (B:=λ(_:Unit)=>False) ?_ (λz hz=>?_) (λ_ h=>h.elim)
 ·refine c8 (I:=λj z=>z.length=j/\∀t,t∈z->E6 t) ⟨rfl,by simp⟩ (λj t z ht hz=>?_) λz hz=>hz;have hj:=(ab.1 ht).1;unfold Wc;rw[Ck (by omega)];refine(cW (by omega) (by omega)).bind λv _=>?_;obtain⟨w1,w2⟩:=Ie (hs.thr t (ae ht)) v;rw[w1,aa];refine(cV (by simp;omega)).bind λw hw=>c7 ?_;subst hw;refine⟨by simp;omega,λx hx=>?_⟩;rcases am.1 hx with hx|hx
  ·exact hz.2 x hx
  ·rw[aK.1 hx];exact w2
 ·refine Ok.andThen (A:=λ_=>True) (B:=λr=>r.2≠0) ?_ (λ_ _=>Ok.pure λ_=>⟨hz.1,hl,?_,hz.2⟩) (λr h=>Ok.pure λe=>absurd e h)
  ·refine c8 (I:=λ_ _=>True) trivial (λj v z _ _=>?_) λ_ _=>trivial;unfold Adb;exact(Hn _ _ _).bind λ_ _=>c6 (λ_=>Ok.ret (by decide)) λ_=>c7 trivial
  ·rcases hc.1.2 with h|h
   ·exact .inl (by cases h2:last with
     |nil=>rfl
     |cons a b=>rw[h2]at h;simp at h)
   ·exact .inr (by dsimp only;omega)
theorem Awl(hs:Dw s)(most:List Int)(last:List A6)(d:Bc):Ok (Aak s most last d) λy=>y.2=0->X0 s.Av.length y.1/\(-500000<=d.Bow/\d.Bow<=500000)/\(-500000<=d.Stern/\d.Stern<=500000) /\ -500000<=d.Surge/\d.Surge<=500000:=by
 have hl:=hs.len;unfold Aak;refine(Ok.mkI (by omega) (by omega)).bind λz _=>(Ayi hs most last z).bind λy hy=>?_;refine Ok.bind (P:=λb=>y.2=0->b=true->∀x,x∈[d.Surge,d.Bow,d.Stern] -> -500000<=x/\x<=500000) (c9 (λ_=>(Hn _ _ _).mono λb hb _=>hb (by simp)) λhn he=>absurd ⟨by simpa using he,trivial⟩ hn) λb hb=>c6 (λ_=>Ok.pure λh=>by cases h) λhc=>Ok.pure λhe=>?_;have he2:y.2=0:=he;have hbt:b=true:=by
  simp only[he2,beq_self_eq_true,bu,cN]at hc;exact hc
 have:=hb he2 hbt;exact⟨hy he2,this _ (by simp),this _ (by simp),this _ (by simp)⟩
theorem Abz(hs:Dw s)(l:List A6):Ok (Aaf s l) λ_=>True:=by
 have hl:=hs.len;unfold Aaf;rw[Ii hs,aa];refine c6 (λhc=>by cases hc) λ_=>c6 (λ_=>Ok.pure trivial) λhc=>?_;simp only[Atl,dR]at hc;refine Ok.andThen (A:=λ_=>True) (B:=λ_=>True) ?_ (λ_ _=>Ok.pure trivial) (λ_ _=>Ok.pure trivial);refine c8 (I:=λ_ _=>True) trivial (λj v z hv _=>?_) λ_ _=>trivial;have hj:=(ab.1 hv).1;unfold X3;refine c6 (λ_=>Ok.ret trivial) λ_=>?_;rw[Ck (by omega)];exact(cW (by omega) (by omega)).bind λ_ _=>c6 (λ_=>c7 trivial) λ_=>c7 trivial
theorem Akj(hs:Dw s)(most:List Int)(last:List A6)(d:Bc):Ok (Wr s most last d) λy=>y.2=0->y.1.Thrusts.length=s.Av.length:=by
 have hl:=hs.len;unfold Wr;refine(Awl hs most last d).bind λy hy=>c6 (λhc=>Ok.pure λh=>?_) λhc=>?_
 ·have h2:y.2=0:=h;rw[h2]at hc;cases hc
 simp only[dR]at hc;obtain⟨hm,h1,h2,h3⟩:=hy hc;refine(Yj hm 0).bind λa ha=>(Sb (by omega) ha.2 h1).bind λb hb=>(Yj hm 1).bind λc hc=>(Sb (by omega) hc.2 h2).bind λe he=>?_;refine Ok.andThen (A:=λz=>z.length=s.Av.length) (B:=λ(_:Unit)=>False) ?_ (λz hz=>?_) (λ_ h=>h.elim)
 ·refine c8 (I:=λ_ z=>z.length=s.Av.length) (by omega) (λj v z hv hz=>?_) λz hz=>hz;have hj:=(ab.1 hv).1;unfold Aax;rw[Ck (by omega)];refine(cW (by omega) (by omega)).bind λ_ _=>(cW (by omega) (by omega)).bind λ_ _=>(d7 (by omega) (by omega)).bind λw hw=>c7 ?_;rw[hw,ba];exact hz
 ·refine(Arc hm hz).bind λf hf=>(Sb (by omega) hf.2 h3).bind λg hg=>?_;refine Ok.andThen (A:=λw=>w.length=s.Av.length) (B:=λ(_:Unit)=>False) ?_ (λw hw=>(Abz hs w).bind λ_ _=>Ok.pure λ_=>hw) (λ_ h=>h.elim);refine c8 (I:=λj w=>w.length=j) rfl (λj v w hv hw=>?_) λw hw=>by rw[hz]at hw;exact hw
  have hj:=(ab.1 hv).1;unfold Aaw;rw[Ck (by omega)];refine(cW (by omega) (by omega)).bind λ_ _=>(cV (by simp;omega)).bind λu hu=>c7 ?_;rw[hu];simp;omega
theorem Ael(hs:Dw s)(f:A4):Ok (Aal s f) λ_=>True:=by
 unfold Aal;rw[Ii hs,aa];exact c6 (λhc=>by cases hc) λ_=>(Hn _ _ _).bind λ_ _=>Ok.bind (P:=λ_=>True) (c9 (λ_=>(Hn _ _ _).mono λ_ _=>trivial) λ_=>trivial) λ_ _=>c6 (λ_=>Ok.pure trivial) λ_=>(Y5 _ _).bind λ_ _=>(Hn _ _ _).bind λ_ _=>c6 (λ_=>Ok.pure trivial) λ_=>Ok.pure trivial
theorem Acg(hs:Dw s)(able:List Int)(f:A4):Ok (Abn s able f) λ_=>True:=by
 unfold Abn Aqh Aay Ain Aps;refine Ok.bind (P:=λ_=>True) (Ok.bind (P:=λ_=>True) (Ok.bind (P:=λ_=>True) (Ok.bind (P:=λ_=>True) ?_ λ_ _=>Ok.pure trivial) λ_ _=>c6 (λ_=>Ok.pure trivial) λ_=>(Ael hs _).bind λ_ _=>Ok.pure trivial) λd _=>c6 (λ_=>Ok.pure trivial) λ_=>(Akj hs able [] d.1).bind λ_ _=>c6 (λ_=>Ok.pure trivial) λ_=>Ok.pure trivial) λ_ _=>Ok.pure trivial;refine Ok.andThen (A:=λ_=>True) (B:=λ_=>True) ?_ (λ_ _=>Ok.pure trivial) (λ_ _=>Ok.pure trivial);refine c8 (I:=λ_ _=>True) trivial (λj x z _ _=>?_) λ_ _=>trivial;unfold Aad;exact c6 (λ_=>Ok.ret trivial) λ_=>c7 trivial
set_option linter.unusedVariables false
theorem Ajw(p:As)(l:List Bb):Ok (Rw l p) λ_=>True:=by
 unfold Rw vQ;refine Ok.bind (P:=λ_=>True) ?_ (λ_ _=>Ok.pure trivial);refine Ok.andThen (A:=λ_=>True) (B:=λ_=>True) ?_ (λ_ _=>Ok.pure trivial) (λ_ _=>Ok.pure trivial);refine c8 (I:=λ_ _=>True) trivial (λj x s hx _=>?_) λ_ _=>trivial;unfold W7;exact c6 (λ_=>Ok.ret trivial) λ_=>c7 trivial
theorem yL(h:A1 b)(y:By)(hp:Ax b p.Power):Ok (F49 b y p) λ_=>True:=by
 unfold F49;rw[Pb h hp];simp only[aa];refine c6 (λ_=>Ok.pure trivial) λ_=>c6 (λ_=>Ok.pure trivial) λ_=>c6 (λ_=>Ok.pure trivial) λ_=>?_;rw[(Aku (hp.lens h) _).1];simp only[aa];exact Ok.bind (P:=λ_=>True) (c9 (λ_=>Ajw _ _) λ_=>trivial) λ_ _=>c6 (λ_=>Ok.pure trivial) λ_=>Ok.pure trivial
theorem Ao2{l:List Ab}(hl:Eg l)(hn:l.length<=1000):Rv l=some l:=by
 refine cZ ?_;unfold Rv;refine c6 (λ_=>Ok.pure rfl) λ_=>Ok.andThen (A:=λ_=>True) (B:=λ(_:Unit)=>False) ?_ (λ_ _=>Ok.pure rfl) (λ_ h=>h.elim);refine cU (λz=>1<=z/\z<=1001) (λz=>((l.length:Int)-z).toNat) _ _ ⟨by omega,by omega⟩ (by omega) λz hz=>?_;unfold Ads;refine c6 (λhc=>?_) (λ_=>cY trivial);simp only[dJ]at hc;rw[Az (n:=z-1) (by omega),Az (n:=z+1) (by omega)];refine(cW (by omega) hc).bind λa ha=>(cW (by omega) (by omega)).bind λb hb=>c6 (λhe=>?_) λ_=>c7 ⟨by omega,by omega⟩;simp only[Ahj,Lg]at he;have:=V0 hl hb ha (by omega);rw[Dn.1 he,Ju]at this;cases this
theorem Aq6{a b:List Ab}(h:(a++b).Nodup)(hn:(a++b).length<=900):F68 a b=some (Kn a b):=by
 unfold F68 Aej Jc;have e:([a,b]:List (List Ab)).flatten=a++b:=by simp
 rw[e,dN (by omega)];have hs:=R5 a b;rw[aF]at hn;show Rv (Ho (a++b))=_;rw[Yd h];exact Ao2 (Anc a b) (by show (Kn a b).length<=1000;omega)
structure Aph(v:Ba)(n:Nat)(p:As):Prop where
 st:Ax v.Board p.Power
 ros:p.Be.length<=1000
 ev:p.Bm.length<=10001*n
def nxP(v:Ba)(p:As)(a:A0):As:=⟨p.Time,doP v.Board p.Power p.Time a,p.Be,p.Bm++doE v.Board p.Power p.Time a⟩
theorem Aph.next(h:A1 v.Board)(hp:Aph v n p)(a:A0):Aph v (n+1) (nxP v p a) where
 st:=As5 h hp.st _ _
 ros:=hp.ros
 ev:=by
  have h1:=Y9 h hp.st p.Time a;have h2:=hp.ev;show (p.Bm++_).length<=_;rw[aF];omega
theorem Awu(h:Pm v)(hn:n<=9)(hp:Aph v n p)(hb:∀x,x∈broken->Dy x)(hf:∀x,x∈fails->Dy x)(hbn:broken.length<=20)(hfn:fails.length<=40)(f:A4):Ok (F69 v p broken fails f) λ_=>True:=by
 have he:=hp.ev;obtain⟨c,hc,_⟩:=yL h.Ap v.Table hp.st;unfold F69;exact(Adv h hp.st hp.ros (by omega) hc hb hf hbn hfn).bind λy _=>Ok.bind (P:=λ_=>True) (c9 (λ_=>Acg h.ship _ _) λ_=>trivial) λ_ _=>Ok.pure trivial
theorem Aur{l:List Ab}(h:Ef b l):l.Nodup:=by
 have ha:∀(n i:Nat) x y,l[i]? = some x->l[i+n+1]? = some y->K8 x y:=by
  intro n;induction n with
  |zero=>intro i x y hx hy;exact h.asc i x y hx hy
  |succ n ih=>
   intro i x y hx hy;have hl:=(ab.1 hy).1;have hz:l[i+n+1]? = some (l[i+n+1]'(by omega)):=ai (by omega);have h1:=ih i x _ hx hz;have h2:=h.asc (i+n+1) _ y hz (by rw[show i+n+1+1=i+(n+1)+1 from by omega];exact hy);unfold K8 at h1 h2 ⊢;omega
 refine bY.2 λi j hi hj hij=>?_;have h1:=ha (j-i-1) i _ _ (ai hi) (by rw[show i+(j-i-1)+1=j from by omega];exact ai hj);intro e;rw[e]at h1;unfold K8 at h1;omega
theorem A3l(h:Pm v)(hS:Ax v.Board p.Power)(hb:∀x,x∈broken->Dy x)(hbn:broken.length<=20)(hd:∀x,x∈broken->4<x.Kind)(ha:broken.Nodup):F21 v.Design p broken=some (G6 v.Design.Links (Kn broken p.Power.Al)):=by
 have hbl:=hS.brk.len;have hul:=R5 broken p.Power.Al;have hnd:(broken++p.Power.Al).Nodup:=List.nodup_append.2 ⟨ha,Aur hS.brk,λx hx y hy e=>by
  have h1:=hd x hx;have h2:=hS.brk.mem y hy;unfold Cv at h2;rw[e]at h1;omega⟩
 unfold F21;rw[Aq6 hnd (by simp;omega),aa,Af5 h.des (λx hx=>?_) (by omega)]
 ·rfl
 ·rcases Anb.1 hx with hx|hx
  ·exact hb x hx
  ·exact Yh h.Ap (hS.brk.mem x hx)
set_option linter.unusedVariables false
variable{s:Af}
theorem Anu(hs:A5 s):Ok (F12 s) λy=>Eg y.1/\(∀x,x∈y.1->Dy x/\4<x.Kind)/\y.1.length<=3/\A5 y.2:=by
 unfold F12;refine(Ayx hs (n:=3) (by omega)).bind λy hy=>?_;have hl:=hy.2.1;refine Ok.andThen (A:=λz=>Eg z/\(∀x,x∈z->Dy x/\4<x.Kind)/\z.length<=3) (B:=λ(_:Unit)=>False) ?_ (λz hz=>Ok.pure ⟨hz.1,hz.2.1,hz.2.2,hy.2.2⟩) (λ_ h=>h.elim);refine c8 (I:=λj z=>Eg z/\(∀x,x∈z->Dy x/\4<x.Kind)/\z.length<=j) ⟨bS,by simp,by simp⟩ (λj x z hx hz=>?_) λz hz=>⟨hz.1,hz.2.1,by have:=hz.2.2;omega⟩;obtain⟨z1,z2,z3⟩:=hz;have hj:=(ab.1 hx).1;unfold Avw;refine c6 (λhc=>?_) λ_=>c7 ⟨z1,z2,by omega⟩;simp only[dJ]at hc;rw[Akm z1 (by omega),aa];have hil:=Y4 x z;refine c7 ⟨Ll _ z1,λu hu=>?_,by omega⟩;rcases(Iv _ _ _).1 hu with rfl|hu
 ·exact⟨(hy.1 _ (ae hx)).1,by omega⟩
 ·exact z2 u hu
theorem Ayz(hs:A5 s):Ok (F19 s) λy=>A5 y.2:=by
 grind[F19,Ok.bind,Fi,Ok.pure]
theorem Ark:F9=some true:=by kernel_rfl
set_option linter.unusedVariables false
structure Lt(l:List Ay)(x:List Int):Prop where
 len:x.length=l.length
 rng:∀(i:Nat) s v,l[i]? = some s->x[i]? = some v->s.Low<=v/\v<=s.High
 fair:∀(i j:Nat) s v t w,l[i]? = some s->x[i]? = some v->l[j]? = some t->x[j]? = some w->s.Low<v->w<t.High->s.Cost*(2*v-1)<t.Cost*(2*w+1)\/s.Cost*(2*v-1)=t.Cost*(2*w+1)/\i<j
theorem Li{b:Int}(hc:1<=c)(h:a<=b):c*a<=c*b:=Int.mul_le_mul_of_nonneg_left h (by omega)
theorem yQ(hc:0<=c/\c<=100)(h:-k<=a/\a<=k):-(100*k)<=c*a/\c*a<=100*k:=by
 have h1:c*a<=c*k:=Int.mul_le_mul_of_nonneg_left h.2 hc.1;have h2:c*k<=100*k:=cO hc.2 (by omega);have h3:c*(-k)<=c*a:=Int.mul_le_mul_of_nonneg_left h.1 hc.1;rw[Int.mul_neg]at h3;omega
theorem Qg:∀(x y:List Int),x.length=y.length->(∀(i:Nat) v w,x[i]? = some v->y[i]? = some w->v<=w)->x.sum<=y.sum/\(x.sum=y.sum->x=y)
 | [],[],_,_=>⟨Int.le_refl _,λ_=>rfl⟩
 | [],b::y,hl,_=>by simp at hl
 |a::x,[],hl,_=>by simp at hl
 |a::x,b::y,hl,h=>by
  have h0:=h 0 a b rfl rfl;obtain⟨h1,h2⟩:=Qg x y (by simpa using hl) λi v w hv hw=>h (i+1) v w hv hw;simp only[List.sum_cons];refine⟨by omega,λe=>?_⟩;have e1:a=b:=by omega
  rw[e1,h2 (by omega)]
variable{x:List Int}
theorem Lt.unique(hc:∀s,s∈l->1<=s.Cost)(hx:Lt l x)(hy:Lt l y)(hs:x.sum=y.sum):x=y:=by
 by_cases h1:∀(i:Nat) v w,x[i]? = some v->y[i]? = some w->v<=w
 ·exact(Qg x y (hx.len.trans hy.len.symm) h1).2 hs
 by_cases h2:∀(i:Nat) v w,y[i]? = some v->x[i]? = some w->v<=w
 ·exact((Qg y x (hy.len.trans hx.len.symm) h2).2 hs.symm).symm
 exfalso;simp only[Classical.not_forall,Int.not_le]at h1 h2;obtain⟨i,v,w,hv,hw,hlt⟩:=h1;obtain⟨j,b,a,hb,ha,hlt2⟩:=h2;have hl:=hx.len;have hi:=(ab.1 hv).1;have hj:=(ab.1 ha).1;have es:l[i]? = some (l[i]'(by omega)):=ai _;have et:l[j]? = some (l[j]'(by omega)):=ai _;have r1:=hx.rng i _ _ es hv;have r2:=hy.rng i _ _ es hw;have r3:=hx.rng j _ _ et ha;have r4:=hy.rng j _ _ et hb;have f1:=hx.fair i j _ _ _ _ es hv et ha (by omega) (by omega);have f2:=hy.fair j i _ _ _ _ et hb es hw (by omega) (by omega);have m1:=Li (hc _ (ae es)) (a:=2*w+1) (b:=2*v-1) (by omega);have m2:=Li (hc _ (ae et)) (a:=2*a+1) (b:=2*b-1) (by omega);omega
def AtU(p:Int)(s:Ay)(v:Int):Prop:=(s.Low<=v/\v<=s.High)/\(s.Low<v->s.Cost*(2*v-1)<=p)/\(v<s.High->p<s.Cost*(2*v+1))
structure AtP(l:List Ay)(p:Int)(x:List Int):Prop where
 len:x.length=l.length
 all:∀(i:Nat) s v,l[i]? = some s->x[i]? = some v->AtU p s v
variable{s:Ay}{p v:Int}
theorem AtU.unique(hc:1<=s.Cost){w:Int}(hv:AtU p s v)(hw:AtU p s w):v=w:=by
 obtain⟨a1,a2,a3⟩:=hv;obtain⟨b1,b2,b3⟩:=hw;have m1:=Li hc (a:=2*v+1) (b:=2*w-1);have m2:=Li hc (a:=2*w+1) (b:=2*v-1);omega
theorem AtP.unique(hc:∀s,s∈l->1<=s.Cost)(hx:AtP l p x)(hy:AtP l p y):x=y:=by
 have hl:=hx.len;have hl2:=hy.len;refine List.ext_getElem (by omega) λi h1 h2=>?_;have es:l[i]? = some (l[i]'(by omega)):=ai _;exact AtU.unique (hc _ (ae es)) (hx.all i _ _ es (ai h1)) (hy.all i _ _ es (ai h2))
theorem A0l(h:Cu s)(p:Int):AtU p s (Ga ((p+s.Cost) / (2*s.Cost)) s.Low s.High):=by
 obtain⟨h1,h2,h3⟩:=h;have e1:=Int.mul_ediv_self_le (x:=p+s.Cost) (k:=2*s.Cost) (by omega);have e2:=Int.lt_mul_ediv_self_add (x:=p+s.Cost) (k:=2*s.Cost) (by omega);unfold Ga AtU;generalize (p+s.Cost) / (2*s.Cost)=q at e1 e2;have e3:s.Cost*(2*q-1)=2*s.Cost*q-s.Cost:=by grind
 have e4:s.Cost*(2*q+1)=2*s.Cost*q+s.Cost:=by grind
 have m1:=Li h2 (a:=2*(max s.Low (min q s.High))-1) (b:=2*q-1);have m2:=Li h2 (a:=2*q+1) (b:=2*(max s.Low (min q s.High))+1);omega
variable{n:Int}
theorem Acl(hn:-1000000000000000<=n/\n<=1000000000000000)(hd:1<=d):M9 n d=some (n / d):=by
 refine cZ ?_;unfold M9;refine(Ok.nzI (by omega)).bind λ_ _=>(Ok.nzI (by omega)).bind λ_ _=>?_;have h1:=Int.tmod_add_mul_tdiv n d;have h2:=cJ n (b:=d) (by omega);have h3:=cK n (b:=d) (by omega);have h4:=Int.natAbs_tdiv_le_natAbs n d;rw[Az (n:=Int.tdiv n d) (by omega),Az (by omega)];have e1:d*(Int.tdiv n d-1)=d*Int.tdiv n d-d:=by grind
 refine c6 (λhq=>Ok.pure ?_) (λhq=>Ok.pure ?_)
 ·simp only[dJ]at hq;exact((Int.ediv_emod_unique (a:=n) (b:=d) (r:=Int.tmod n d+d) (by omega)).2 ⟨by omega,by omega,by omega⟩).1.symm
 ·simp only[dK]at hq;exact((Int.ediv_emod_unique (a:=n) (b:=d) (r:=Int.tmod n d) (by omega)).2 ⟨h1,by omega,h2⟩).1.symm
theorem Afx(hn:-10000000<=n/\n<=10000000)(hd:1<=d/\d<=1000):Tu n d=some (n / d,0):=by
 unfold Tu Wg;have hc:Oo n d=false:=by
  simp only[Oo,aQ,dK];omega
 rw[hc,Acl (by omega) hd.1];rfl
theorem Acd(hl:l.length<=8)(h:∀s,s∈l->Cu s)(hp:-2000000<=p/\p<=2000000):Ok (Zs l p) λy=>AtP l p y.1/\y.2=y.1.sum:=by
 unfold Zs;refine Ok.andThen (A:=λz=>AtP l p z.2/\z.1=z.2.sum) (B:=λ(_:Unit)=>False) ?_ (λz hz=>Ok.pure hz) (λ_ h=>h.elim);refine c8 (I:=λj z=>z.2.length=j/\(∀(i:Nat) s v,l[i]? = some s->z.2[i]? = some v->AtU p s v)/\z.1=z.2.sum /\ -(5000*(j:Int))<=z.1/\z.1<=5000*(j:Int)) ⟨rfl,by simp,rfl,by simp,by simp⟩ (λj s z hs hz=>?_) λz hz=>⟨⟨hz.1,hz.2.1⟩,hz.2.2.1⟩;obtain⟨z1,z2,z3,z4⟩:=hz;have hj:=(ab.1 hs).1;unfold Aab;have hok:=h s (ae hs);have hu:=A0l hok p;have hok2:=hok;unfold Cu at hok2;rw[Az (n:=p+s.Cost) (by omega),Az (n:=2*s.Cost) (by omega),Afx (by omega) (by omega),aa];generalize Ga ((p+s.Cost) / (2*s.Cost),(0:Int)).1 s.Low s.High=u at hu;have hu1:=hu.1;refine(cV (by simp;omega)).bind λm hm=>c7 ?_;subst hm;rw[Az (n:=z.1+u) (by omega)];refine⟨by simp;omega,λi s' v hi hv=>?_,by dsimp only;rw[List.sum_append,z3];simp,by dsimp only;omega⟩;dsimp only at hv;rw[cd]at hv;split at hv
 ·exact z2 i s' v hi hv
 ·have hi2:i=j:=by grind
  subst hi2;rw[hs]at hi;cases hi;rw[z1,Nat.sub_self]at hv;cases hv;exact hu
def F8(l:List Ay):Int:=(l.map (·.Low)).sum
def F_(l:List Ay):Int:=(l.map (·.High)).sum
theorem Arq(hl:l.length<=8)(h:∀s,s∈l->Cu s){f:Nat->Ay->Int×Int->Option (Ctl (Int×Int) Unit)}(hf:∀n a z,f n a z=some (.next (w64 (z.1+a.Low),w64 (z.2+a.High)))) :
  Ok (foldI f l 0 (0,0)) (D5 (λz=>z=(F8 l,F_ l)/\(-40000<=F8 l/\F8 l<=F_ l)/\F_ l<=40000) λ(_:Unit)=>False):=by
 refine c8 (I:=λj z=>(z.1=F8 (l.take j)/\z.2=F_ (l.take j))/\(-(5000*(j:Int))<=z.1/\z.1<=z.2)/\z.2<=5000*(j:Int)) ⟨⟨rfl,rfl⟩,by simp⟩ (λj s z hs hz=>?_) λz hz=>?_
 ·obtain⟨⟨z1,z2⟩,z3,z4⟩:=hz;have hok:=h s (ae hs);have hj:=(ab.1 hs).1;unfold Cu at hok;rw[hf,Az (by omega),Az (by omega),Bp hs];refine c7 ⟨⟨?_,?_⟩,by dsimp only;omega⟩
  ·simp[z1,F8,List.sum_append]
  ·simp[z2,F_,List.sum_append]
 ·rw[aE]at hz;obtain⟨⟨z1,z2⟩,z3,z4⟩:=hz;exact⟨Prod.ext z1 z2,by omega⟩
theorem Zl(hl:l.length<=8)(h:∀s,s∈l->Cu s):Aac l=some (F8 l,F_ l,0)/\(-40000<=F8 l/\F8 l<=F_ l)/\F_ l<=40000:=by
 have hg:=Arq hl h (f:=Al0) λ_ _ _=>rfl;have h2:(-40000<=F8 l/\F8 l<=F_ l)/\F_ l<=40000:=by
  obtain⟨c,_,hc⟩:=hg;cases c with
  |next s=>exact hc.2
  |brk s=>exact hc.2
  |ret v=>exact hc.elim
 refine⟨cZ ?_,h2⟩;unfold Aac;rw[Ab3 hl h,aa];exact c6 (λhc=>by cases hc) λ_=>Ok.andThen hg (λz hz=>Ok.pure (by rw[hz.1])) (λ_ h=>h.elim)
theorem Apg(hl:l.length<=8)(h:∀s,s∈l->Cu s):Ay9 l=some (F8 l,F_ l,0):=(Zl hl h).1
theorem yG(h:Cu s)(hv:s.Low<=v/\v<=s.High):Aik s v=s.Cost*(2*v+1):=by
 unfold Cu at h;have:=yQ (c:=s.Cost) (a:=2*v+1) (k:=10001) (by omega) (by omega);unfold Aik;rw[Az (n:=2*v) (by omega),Az (n:=2*v+1) (by omega),Az (by omega)]
theorem O5(h:Cu s)(hv:s.Low<=v/\v<=s.High):Aas s v=s.Cost*(2*v+1):=yG h hv
theorem Ar1(hl:x.length=l.length)(h:∀(i:Nat) s v,l[i]? = some s->x[i]? = some v->s.High<=v):F_ l<=x.sum:=by
 refine(Qg (l.map λs:Ay=>s.High) x (by simp[hl]) λi v w hv hw=>?_).1;rw[au,bx]at hv;obtain⟨s,hs,rfl⟩:=hv;exact h i s w hs hw
theorem Awx(hl:x.length=l.length)(h:∀(i:Nat) s v,l[i]? = some s->x[i]? = some v->v<=s.Low):x.sum<=F8 l:=by
 refine(Qg x (l.map λs:Ay=>s.Low) (by simp[hl]) λi v w hv hw=>?_).1;rw[au,bx]at hw;obtain⟨s,hs,rfl⟩:=hw;exact h i s v hs hv
theorem yD:∀(x:List Int)(i:Nat){v:Int},x[i]? = some v->(x.set i (v+1)).sum=x.sum+1
 |a::x,0,v,h=>by
  cases h;simp only[List.set_cons_zero,List.sum_cons];omega
 |a::x,i+1,v,h=>by
  simp only[List.set_cons_succ,List.sum_cons,yD x i (by simpa using h)];omega
set_option linter.unusedVariables false
theorem Hr{l:List α}{x:α}(h:l[i]? = some x):getI l (i:Int)=some x:=
 cZ ((cW (by omega) (by have:=(ab.1 h).1;omega)).mono λy hy=>by rw[aB,h]at hy;exact(aR hy).symm)
theorem Lt.step(hc:∀s,s∈l->1<=s.Cost)(hx:Lt l x){b:Nat}(hs:l[b]? = some s)(hv:x[b]? = some v)(hlt:v<s.High)
  (hb:∀(i:Nat) t w,l[i]? = some t->x[i]? = some w->w<t.High->s.Cost*(2*v+1)<t.Cost*(2*w+1)\/s.Cost*(2*v+1)=t.Cost*(2*w+1)/\b<=i):Lt l (x.set b (v+1)):=by
 have hr:=hx.rng b s v hs hv;have hcs:=hc s (ae hs);have hbl:=(ab.1 hv).1;have e1:s.Cost*(2*(v+1)-1)=s.Cost*(2*v+1):=by grind
 have e2:s.Cost*(2*(v+1)+1)=s.Cost*(2*v+1)+2*s.Cost:=by grind
 have hg:∀(i:Nat) u,(x.set b (v+1))[i]? = some u->(i=b/\u=v+1)\/(i≠b/\x[i]? = some u):=λi u hu=>by
  rw[aD]at hu;by_cases e:b=i
  ·rw[if_pos e,if_pos (by omega)]at hu;exact .inl ⟨e.symm,(aR hu).symm⟩
  ·rw[if_neg e]at hu;exact .inr ⟨λh=>e h.symm,hu⟩
 refine⟨by rw[ba];exact hx.len,λi t u ht hu=>?_,λi j t u t' u' ht hu ht' hu' h1 h2=>?_⟩
 ·rcases hg i u hu with⟨rfl,rfl⟩|⟨_,hu⟩
  ·rw[hs]at ht;cases ht;omega
  ·exact hx.rng i t u ht hu
 ·rcases hg i u hu with⟨rfl,rfl⟩|⟨hi,hu2⟩
  ·rw[hs]at ht;cases ht;rcases hg j u' hu' with⟨rfl,rfl⟩|⟨hj,hu'⟩
   ·rw[hs]at ht';cases ht';omega
   ·have:=hb j t' u' ht' hu' h2;omega
  ·rcases hg j u' hu' with⟨e3,e4⟩|⟨hj,hu'⟩
   ·subst e3 e4;rw[hs]at ht';cases ht';have:=hx.fair i _ t u _ v ht hu2 hs hv h1 (by omega);omega
   ·exact hx.fair i j t u t' u' ht hu2 ht' hu' h1 h2
theorem Axq(l:List Ay)(h:∀s,s∈l->Cu s):Lt l (l.map (·.Low)):=by
 have hg:∀(i:Nat) s v,l[i]? = some s->(l.map (·.Low))[i]? = some v->v=s.Low:=λi s v hs hv=>by
  rw[au,hs]at hv;exact(aR hv).symm
 refine⟨by simp,λi s v hs hv=>?_,λi j s v t w hs hv _ _ h1 _=>?_⟩
 ·rw[hg i s v hs hv];have:=(h s (ae hs)).1;omega
 ·rw[hg i s v hs hv]at h1;omega
def Azi(l:List Ay)(x:List Int)(j:Nat)(z:Int):Prop:=
 (z = -1/\∀(i:Nat) t w,i<j->l[i]? = some t->x[i]? = some w->t.High<=w) \/
 ∃(b:Nat)(s:Ay)(v:Int),z=(b:Int)/\b<j/\l[b]? = some s/\x[b]? = some v/\v<s.High/\∀(i:Nat) t w,i<j->l[i]? = some t->x[i]? = some w->w<t.High->s.Cost*(2*v+1)<t.Cost*(2*w+1)\/s.Cost*(2*v+1)=t.Cost*(2*w+1)/\b<=i
theorem A13(hl:l.length<=8)(h:∀s,s∈l->Cu s)(hx:Lt l x):Ok (foldI (Aa8 l (n,x)) l 0 (-1)) (D5 (Azi l x l.length) λ(_:Unit)=>False):=by
 refine c8 (I:=λj z=>Azi l x j z) (.inl ⟨rfl,by omega⟩) (λj s z hs hz=>?_) λz hz=>hz;have hj:=(ab.1 hs).1;have hlx:=hx.len;have hv:x[j]? = some (x[j]'(by omega)):=ai _;generalize x[j]'(by omega)=v at hv;have hr:=hx.rng j _ _ hs hv;have hok:=h s (ae hs);unfold Aa8;rw[Ck (by omega),Hr hv,aa];rcases hz with⟨rfl,hz⟩|⟨b,s',v',rfl,hb,hs',hv',hlt,hz⟩
 ·refine Ok.bind (P:=λ_=>True) (c9 (λhg=>by have:=hg.2.1;cases this) λ_=>trivial) λa _=>Ok.bind (P:=λ_=>True) (c9 (λhg=>by have:=hg.2.1;cases this) λ_=>trivial) λc _=>c6 (λhc=>c7 ?_) λhc=>c7 ?_
  ·simp only[Vw,ac,dJ]at hc;refine .inr ⟨j,s,v,rfl,by omega,hs,hv,hc.1,λi t w hi ht hw hlt=>?_⟩;by_cases e:i=j
   ·subst e;rw[hs]at ht;cases ht;rw[hv]at hw;cases hw;exact .inr ⟨rfl,af _⟩
   ·have:=hz i t w (by omega) ht hw;omega
  ·have hge:s.High<=v:=by
    simp only[Vw,bD,dK,aQ]at hc;omega
   refine .inl ⟨rfl,λi t w hi ht hw=>?_⟩;by_cases e:i=j
   ·subst e;rw[hs]at ht;cases ht;rw[hv]at hw;cases hw;exact hge
   ·exact hz i t w (by omega) ht hw
 ·have hr':=hx.rng b _ _ hs' hv';refine Ok.bind (P:=λy=>v<s.High->y=s') (c9 (λ_=>cX (Hr hs') λ_=>rfl) λhn hlt=>absurd ⟨by simpa using hlt,by simp,trivial⟩ hn) λy hy=>Ok.bind (P:=λu=>v<s.High->u=v') (c9 (λ_=>cX (Hr hv') λ_=>rfl) λhn hlt=>absurd ⟨by simpa using hlt,by simp,trivial⟩ hn) λu hu=>c6 (λhc=>c7 ?_) λhc=>c7 ?_
  ·simp only[Vw,ac,an,dJ]at hc;obtain⟨h1,h2⟩:=hc;rw[hy h1,hu h1,O5 hok hr,O5 (h s' (ae hs')) hr']at h2;refine .inr ⟨j,s,v,rfl,by omega,hs,hv,h1,λi t w hi ht hw hl2=>?_⟩;by_cases e:i=j
   ·subst e;rw[hs]at ht;cases ht;rw[hv]at hw;cases hw;exact .inr ⟨rfl,af _⟩
   ·have:=hz i t w (by omega) ht hw hl2;omega
  ·refine .inr ⟨b,s',v',rfl,by omega,hs',hv',hlt,λi t w hi ht hw hl2=>?_⟩;by_cases e:i=j
   ·subst e;rw[hs]at ht;cases ht;rw[hv]at hw;cases hw;have h3:¬s.Cost*(2*v+1)<s'.Cost*(2*v'+1):=λh3=>by
     rw[←O5 hok hr,←O5 (h s' (ae hs')) hr',←hy hl2,←hu hl2]at h3;simp[Vw,hl2,h3]at hc
    omega
   ·exact hz i t w (by omega) ht hw hl2
theorem Aoy(hl:l.length<=8)(h:∀s,s∈l->Cu s)(ht:-500000<=t/\t<=500000):Ok (Zx l t) λy=>Lt l y.1/\y.1.sum=max (F8 l) (min t (F_ l)):=by
 obtain⟨_,hlo,hhi⟩:=Zl hl h;have hcost:∀s,s∈l->1<=s.Cost:=λs hs=>(h s hs).2.1;unfold Zx;rw[Apg hl h,aa];refine c6 (λhc=>by cases hc) λ_=>c6 (λhc=>?_) λ_=>?_
 ·simp only[At1,an,dJ]at hc;omega
 refine Ok.andThen (A:=λz=>z=l.map (·.Low)) (B:=λ(_:Unit)=>False) ?_ (λz0 hz0=>?_) (λ_ h=>h.elim)
 ·refine c8 (I:=λj z=>z=(l.take j).map (·.Low)) rfl (λj s z hs hz=>?_) λz hz=>by rw[hz,aE]
  have hj:=(ab.1 hs).1;unfold Amo;subst hz;refine(cV (by simp;omega)).bind λm hm=>c7 ?_;rw[hm,Bp hs];simp
 ·subst hz0;refine Ok.andThen (A:=λz=>Lt l z.2/\z.2.sum=max (F8 l) (min t (F_ l))) (B:=λ(_:Unit)=>False) ?_ (λz hz=>Ok.pure hz) (λ_ h=>h.elim);refine cU (λz=>Lt l z.2/\z.2.sum=z.1 /\ -40000<=z.1/\z.1<=max (F8 l) (min t (F_ l))) (λz=>(40000-z.1).toNat) _ _ ⟨Axq l h,rfl,by dsimp only;omega,by dsimp only;omega⟩ (by dsimp only;omega) ?_;rintro⟨n,x⟩ ⟨h1,h2,h3,h4⟩;dsimp only at h1 h2 h3 h4;unfold Amn;refine c6 (λhc=>?_) λhc=>cY ⟨h1,?_⟩
  ·simp only[Ag9,dJ]at hc;refine Ok.inner (A:=Azi l x l.length) (B:=λ(_:Unit)=>False) (A13 hl h h1) (λz hz=>?_) (λ_ h=>h.elim);rcases hz with⟨_,hz⟩|⟨b,s,v,rfl,hb,hs,hv,hlt,hz⟩
   ·have:=Ar1 h1.len λi s v hs hv=>hz i s v (ab.1 hs).1 hs hv;omega
   ·have hr:=h1.rng b s v hs hv;have hok:=(h s (ae hs)).1;have hx:=h1.len;dsimp only;rw[Hr hv,aa,Az (n:=v+1) (by omega),Az (n:=n+1) (by omega)];refine(d7 (by omega) (by omega)).bind λw hw=>c7 ?_;rw[aB]at hw;subst hw;have hsum:=yD x b hv;exact⟨⟨h1.step hcost hs hv hlt λi t w ht hw=>hz i t w (ab.1 ht).1 ht hw,by dsimp only;omega,by dsimp only;omega,by dsimp only;omega⟩,by dsimp only;omega⟩
  ·simp only[Ag9,dK]at hc;dsimp only;omega
def Lvl(l:List Ay)(p S:Int)(j:Nat)(n:Int)(x:List Int):Prop:=
 x.length=l.length/\n=x.sum/\n<=S/\∀(i:Nat) s v,l[i]? = some s->x[i]? = some v->(s.Low<=v/\v<=s.High)/\(s.Low<v->s.Cost*(2*v-1)<p\/s.Cost*(2*v-1)=p/\i<j) /\
  (v<s.High->p<=s.Cost*(2*v+1)/\(i<j->s.Cost*(2*v+1)=p->n=S/\∀(i':Nat) s' v',l[i']? = some s'->x[i']? = some v'->s'.Low<v'->s'.Cost*(2*v'-1)=p->i'<i))
theorem Lvl.fair(hc:∀s,s∈l->1<=s.Cost){S:Int}(h:Lvl l p S l.length n x)(h0:AtP l p x0)(hS:S<=x0.sum):Lt l x/\x.sum=S:=by
 obtain⟨h1,h2,h3,h4⟩:=h;refine⟨⟨h1,λi s v hs hv=>(h4 i s v hs hv).1,λi j s v t w hs hv ht hw hlo hhi=>?_⟩,?_⟩
 ·have a:=(h4 i s v hs hv).2.1 hlo;obtain⟨b1,b2⟩:=(h4 j t w ht hw).2.2 hhi;rcases a with a|⟨a,_⟩
  ·omega
  ·by_cases e:t.Cost*(2*w+1)=p
   ·have:=(b2 (ab.1 ht).1 e).2 i s v hs hv hlo a;omega
   ·omega
 ·by_cases e:n=S
  ·omega
  ·have hA:AtP l p x:=⟨h1,λi s v hs hv=>by
    obtain⟨g1,g2,g3⟩:=h4 i s v hs hv;refine⟨g1,λhlo=>by have:=g2 hlo;omega,λhhi=>?_⟩;obtain⟨b1,b2⟩:=g3 hhi;have:=b2 (ab.1 hs).1;by_cases e2:s.Cost*(2*v+1)=p
    ·exact absurd (this e2).1 e
    ·omega⟩
   rw[hA.unique hc h0]at h2 ⊢;omega
theorem A3p(hl:l.length<=8)(h:∀s,s∈l->Cu s){q:Int}{y1:Int×Int×Int}(hy:y1=(F8 l,F_ l,0))(hx:Lvl l p (Ga t y1.1 y1.2.1) 0 n x)(hS:Ga t y1.1 y1.2.1<=40000 /\ -40000<=n) :
  Ok (foldI (X4 t y1 (q,p)) l 0 (n,x)) (D5 (λz=>Lvl l p (Ga t y1.1 y1.2.1) l.length z.1 z.2) λ(_:Unit)=>False):=by
 generalize eS:Ga t y1.1 y1.2.1=S at hx hS;refine c8 (I:=λj z=>Lvl l p S j z.1 z.2 /\ -40000<=z.1) ⟨hx,hS.2⟩ (λj s z hs hz=>?_) λz hz=>hz.1;obtain⟨n,x⟩:=z;obtain⟨hz,hn⟩:=hz;dsimp only at hz hn;have hj:=(ab.1 hs).1;obtain⟨h1,h2,h3,h4⟩:=hz;have hv:x[j]? = some (x[j]'(by omega)):=ai _;generalize x[j]'(by omega)=v at hv;have hok:=h s (ae hs);obtain⟨r1,r2,r3⟩:=h4 j s v hs hv;have hb:=hok.1;unfold X4;rw[Ck (by omega),eS];dsimp only;rw[Hr hv];refine Ok.bind (P:=λu=>n<S->u=v) (c9 (λ_=>Ok.pure λ_=>rfl) λhn hlt=>absurd ⟨by simpa using hlt,trivial⟩ hn) λu hu=>Ok.bind (P:=λu'=>n<S->u<s.High->u'=v) (c9 (λ_=>Ok.pure λ_ _=>rfl) λhn hlt hlt2=>absurd ⟨by simp[hlt,hlt2],trivial⟩ hn) λu' hu'=>c6 (λhc=>?_) λhc=>c7 ⟨⟨h1,h2,h3,λi s' v' hs' hv'=>?_⟩,hn⟩
 ·simp only[uB,eS,ac,dJ,dL]at hc;obtain⟨⟨c1,c2⟩,c3⟩:=hc;have e1:=hu' c1 c2;have e2:=hu c1;rw[e2]at c2;rw[e1,yG hok r1]at c3;rw[aa,Az (n:=v+1) (by omega),Az (n:=n+1) (by omega)];refine(d7 (by omega) (by omega)).bind λw hw=>c7 ?_;rw[aB]at hw;subst hw;have hsum:=yD x j hv;have hc1:=hok.2.1;have k1:s.Cost*(2*(v+1)-1)=s.Cost*(2*v+1):=by grind
  have k2:s.Cost*(2*(v+1)+1)=s.Cost*(2*v+1)+2*s.Cost:=by grind
  refine⟨⟨by rw[ba];exact h1,by dsimp only;omega,by dsimp only;omega,λi s' v' hs' hv'=>?_⟩,by dsimp only;omega⟩;dsimp only at hv' ⊢;rw[aD]at hv';by_cases e:j=i
  ·subst e;rw[if_pos rfl,if_pos (by omega)]at hv';cases hv';rw[hs]at hs';cases hs';exact⟨by omega,λ_=>.inr ⟨by omega,by omega⟩,λ_=>⟨by omega,λ_ _=>by omega⟩⟩
  ·rw[if_neg e]at hv';obtain⟨g1,g2,g3⟩:=h4 i s' v' hs' hv';refine⟨g1,λhlo=>(g2 hlo).imp id λg=>⟨g.1,by omega⟩,λhhi=>⟨(g3 hhi).1,λhi he=>?_⟩⟩;have:=((g3 hhi).2 (by omega) he).1;omega
 ·obtain⟨g1,g2,g3⟩:=h4 i s' v' hs' hv';refine⟨g1,λhlo=>(g2 hlo).imp id λg=>⟨g.1,by omega⟩,λhhi=>⟨(g3 hhi).1,λhi he=>?_⟩⟩;by_cases e:i=j
  ·subst e;rw[hs]at hs';cases hs';rw[hv]at hv';cases hv';refine⟨?_,λi' s'' w hs'' hw hlo hp=>?_⟩
   ·by_cases hlt:n<S
    ·exfalso;have e2:=hu hlt;subst e2;have e1:=hu' hlt hhi;subst e1;have:=yG hok r1;simp[uB,eS,hlt,hhi,this,he]at hc
    ·omega
   ·rcases(h4 i' s'' w hs'' hw).2.1 hlo with g|g
    ·omega
    ·exact g.2
  ·exact(g3 hhi).2 (by omega) he
theorem Axv(hl:l.length<=8)(h:∀s,s∈l->Cu s)(ht:-500000<=t/\t<=500000):Ok (Tw l t) λy=>Lt l y.1/\y.1.sum=max (F8 l) (min t (F_ l)):=by
 obtain⟨hR,hlo,hhi⟩:=Zl hl h;have hcost:∀s,s∈l->1<=s.Cost:=λs hs=>(h s hs).2.1;unfold Tw;rw[hR,aa];refine c6 (λhc=>by cases hc) λ_=>c6 (λhc=>?_) λ_=>?_
 ·simp only[Ag0,an,dJ]at hc;omega
 have eS:Ga t (F8 l,F_ l,(0:Int)).1 (F8 l,F_ l,(0:Int)).2.1=max (F8 l) (min t (F_ l)):=rfl;generalize hS:max (F8 l) (min t (F_ l))=S at eS;refine Ok.andThen (A:=λz=>z.1=z.2/\(-1000200<=z.2/\z.2<=1000200)/\(∃x,AtP l z.2 x/\S<=x.sum)/\(z.2 = -1000200\/∃x,AtP l (z.2-1) x/\x.sum<S)) (B:=λ(_:Unit)=>False) ?_ (λz0 hz0=>?_) (λ_ h=>h.elim)
 ·refine cU (λz=>(-1000200<=z.2/\z.2<=z.1/\z.1<=1000200)/\(∃x,AtP l z.1 x/\S<=x.sum)/\(z.2 = -1000200\/∃x,AtP l (z.2-1) x/\x.sum<S)) (λz=>(z.1-z.2).toNat) _ _ ⟨by decide,⟨l.map (·.High),⟨by simp,λi s v hs hv=>?_⟩,?_⟩,.inl rfl⟩ (by decide) ?_
  ·rw[au,hs]at hv;have e:s.High=v:=aR hv;subst e;have hok:=h s (ae hs);have hb:=hok.1;have:=yQ (c:=s.Cost) (a:=2*s.High-1) (k:=10001) ⟨by have:=hok.2.1;omega,hok.2.2⟩ (by omega);exact⟨by omega,λ_=>by dsimp only;omega,λhlt=>by omega⟩
  ·show S<=F_ l;omega
  ·rintro⟨b,a⟩ ⟨⟨h1,h2,h3⟩,h4,h5⟩;dsimp only at h1 h2 h3 h4 h5;unfold Aaj;refine c6 (λhc=>?_) λhc=>cY ?_
   ·simp only[dJ]at hc;dsimp only at hc ⊢;rw[Az (n:=a+b) (by omega),Afx (by omega) (by omega)];simp only[aa];refine(Acd hl h (p:=(a+b) / 2) (by omega)).bind λy hy=>c6 (λhc2=>c7 ?_) λhc2=>c7 ?_
    ·rw[eS,dJ]at hc2;exact⟨⟨⟨h1,by dsimp only;omega,by dsimp only;omega⟩,⟨y.1,hy.1,by omega⟩,h5⟩,by dsimp only;omega⟩
    ·rw[eS,dK]at hc2;rw[Az (by omega)];refine⟨⟨⟨by dsimp only;omega,by dsimp only;omega,h3⟩,h4,.inr ⟨y.1,?_,by omega⟩⟩,by dsimp only;omega⟩;dsimp only;rw[show (a+b) / 2+1-1=(a+b) / 2 from by omega];exact hy.1
   ·simp only[dK]at hc;have e:b=a:=by omega
    subst e;exact⟨rfl,⟨h1,h3⟩,h4,h5⟩
 ·obtain⟨q,p⟩:=z0;obtain⟨_,hb,⟨x0,hx0,hs0⟩,hle⟩:=hz0;dsimp only at hb hx0 hle ⊢;rw[Az (n:=p-1) (by omega)];refine(Acd hl h (p:=p-1) (by omega)).bind λy hy=>?_;have hys:y.1.sum<=S:=by
   rcases hle with e|⟨x,hx,hlt⟩
   ·have:=Awx hy.1.len λi s v hs hv=>by
     obtain⟨g1,g2,_⟩:=hy.1.all i s v hs hv;by_cases hlo:s.Low<v
     ·exfalso;have hok:=h s (ae hs);have hb:=hok.1;have:=yQ (c:=s.Cost) (a:=2*v-1) (k:=10001) ⟨by have:=hok.2.1;omega,hok.2.2⟩ (by omega);have:=g2 hlo;omega
     ·omega
    omega
   ·rw[hy.1.unique hcost hx];omega
  have hyl:-40000<=y.2:=by
   have:=(Qg (l.map (·.Low)) y.1 (by simp[hy.1.len]) λi v w hv hw=>by
    rw[au,bx]at hv;obtain⟨s,hs,rfl⟩:=hv;exact(hy.1.all i s w hs hw).1.1).1
   have e:(l.map (·.Low)).sum=F8 l:=rfl;omega
  have hx:Lvl l p (Ga t (F8 l,F_ l,(0:Int)).1 (F8 l,F_ l,(0:Int)).2.1) 0 y.2 y.1:=by
   rw[eS];refine⟨hy.1.len,hy.2,by omega,λi s v hs hv=>?_⟩;obtain⟨g1,g2,g3⟩:=hy.1.all i s v hs hv;exact⟨g1,λhlo=>.inl (by have:=g2 hlo;omega),λhhi=>⟨by have:=g3 hhi;omega,λhi=>by omega⟩⟩
  refine Ok.andThen (A3p hl h rfl hx (by rw[eS];omega)) (λz hz=>Ok.pure ?_) (λ_ h=>h.elim);rw[eS]at hz;exact hz.fair hcost hx0 hs0
theorem Agk(hl:l.length<=8)(h:∀s,s∈l->Cu s)(ht:-500000<=t/\t<=500000):∃(x:List Int)(a b:Int×Int),Tw l t=some (x,a)/\Zx l t=some (x,b)/\x.length=l.length/\∀(i:Nat) s v,l[i]? = some s->x[i]? = some v->s.Low<=v/\v<=s.High:=by
 obtain⟨⟨x,a⟩,e1,f1,s1⟩:=Axv hl h ht;obtain⟨⟨y,b⟩,e2,f2,s2⟩:=Aoy hl h ht;dsimp only at f1 s1 f2 s2;have:y=x:=f2.unique (λs hs=>(h s hs).2.1) f1 (by omega);subst this;exact⟨y,a,b,e1,e2,f1.len,f1.rng⟩
set_option linter.unusedVariables false
theorem Qp(a:Int):Er a=C6 a:=by
 have h1:=cJ a (b:=3600) (by omega);have h2:=cK a (b:=3600) (by omega);unfold Er C6;generalize Int.tmod a 3600=r at h1 h2;rw[Az (by omega),Int.tmod_eq_emod_of_nonneg (by omega)];cases hr:decide (r<0) with
 |true=>simp only[dJ]at hr;simp only[cond_true];omega
 |false=>simp only[dK]at hr;simp only[cond_false];omega
theorem A05(a:Int):0<=C6 a/\C6 a<3600:=by
 have h1:=cJ a (b:=3600) (by omega);have h2:=cK a (b:=3600) (by omega);unfold C6;generalize Int.tmod a 3600=r at h1 h2;cases hr:decide (r<0) with
 |true=>simp only[dJ]at hr;simp only[cond_true];rw[Az (by omega)];omega
 |false=>simp only[dK]at hr;simp only[cond_false];omega
theorem A06(h:0<=a/\a<3600):C6 a=a:=by
 unfold C6;rw[Int.tmod_eq_of_lt h.1 h.2];cases hr:decide (a<0) with
 |true=>simp only[dJ]at hr;omega
 |false=>rfl
theorem Aok(n d:Int):Ay5 n d=M9 n d:=rfl
theorem U9(n d:Int):Ait n d=M7 n d:=by
 unfold Ait M7 Wh Aig;have e:Lo n d = !Aam n d:=by
  rw[bk];simp only[Lo,Aam,Apt,show w64 (0-1000000000000000000) = -1000000000000000000 from by decide +kernel,an,ac,aV,bD,dJ,dK];omega
 rw[e,Aok];cases Aam n d with
 |false=>rfl
 |true=>
  simp only[aH,cond_false];cases M9 (w64 (w64 (2*n)+d)) (w64 (2*d)) <;> rfl
theorem Axe(hn:0<=n/\n<=1000000000000)(hd:1<=d/\d<=1000000000):∃v,M7 n d=some (v,0)/\0<=v/\v<=10000000000000:=by
 refine⟨(2*n+d) / (2*d),?_,Int.ediv_nonneg (by omega) (by omega),?_⟩
 ·unfold M7 Wh Aig;have hc:Lo n d=false:=by
   simp only[Lo,aQ,dK];omega
  rw[hc,Az (n:=2*n) (by omega),Az (n:=2*n+d) (by omega),Az (n:=2*d) (by omega),Acl (by omega) (by omega)];rfl
 ·have:=Int.ediv_le_self (a:=2*n+d) (2*d) (by omega);omega
def Um(p:Int):Int:=match M7 (w64 (40000*w64 (p*w64 (1800-p)))) (w64 (4050000-w64 (p*w64 (1800-p)))) with
 |some v=>v.1
 |none=>0
theorem yF(h:0<=p/\p<=1800):M7 (w64 (40000*w64 (p*w64 (1800-p)))) (w64 (4050000-w64 (p*w64 (1800-p))))=some (Um p,0)/\0<=Um p/\Um p<=10000000000000:=by
 have h1:0<=p*(1800-p):=cj h.1 (by omega);have h2:p*(1800-p)<=1800*(1800-p):=cO h.2 (by omega);have h3:p*(1800-p)<=3240000:=by omega
 obtain⟨v,e,hv⟩:=Axe (n:=40000*(p*(1800-p))) (d:=4050000-p*(1800-p)) (by omega) (by omega);have e2:M7 (w64 (40000*w64 (p*w64 (1800-p)))) (w64 (4050000-w64 (p*w64 (1800-p))))=some (v,0):=by
  rw[Az (n:=1800-p) (by omega),Az (n:=p*(1800-p)) (by omega),Az (n:=40000*(p*(1800-p))) (by omega),Az (n:=4050000-p*(1800-p)) (by omega),e]
 unfold Um;rw[e2];exact⟨rfl,hv⟩
theorem Aeo(a:Int):zX a=V6 a:=by
 have hn:=A05 a;have hb:∀rec:Int->Option Int,(C6 a<=1800->L9 rec a=some (Um (C6 a))):=λrec h=>by
  unfold L9;rw[Qp,dQ (by omega),U9,(yF ⟨hn.1,h⟩).1];rfl
 unfold zX V6 zW;by_cases h:C6 a<=1800
 ·obtain⟨e,h1,h2⟩:=yF ⟨hn.1,h⟩;show L9 (Tr 999) a=_;rw[hb _ h,dQ (by omega)];simp only[cond_false,andThen,e,aa];rw[Int.one_mul,Az (by omega)]
 ·obtain⟨e,h1,h2⟩:=yF (p:=C6 a-1800) (by omega);show L9 (Tr 999) a=_;have hi:Tr 999 (C6 a-1800)=some (Um (C6 a-1800)):=by
   show L9 (Tr 998) _=_;unfold L9;rw[Qp,A06 (a:=C6 a-1800) (by omega),dQ (by omega),U9,e];rfl
  unfold L9;rw[Qp,dN (by omega),Az (n:=C6 a-1800) (by omega)];simp only[cond_true,hi,andThen,e,aa];rw[show -1*Um (C6 a-1800)=0-Um (C6 a-1800) from by omega]
theorem Atb(a:Int):Aie a=Zp a:=by
 unfold Aie Zp;rw[Qp,Aeo]
theorem Aem(x y:Int):Zr x y=V7 x y:=by
 rw[bk];simp only[Zr,V7,ac,dJ];omega
theorem Agp(a x y:Int):Aif a x y=Zq a x y:=by
 unfold Aif Zq;rw[Aem,Atb,Aeo]
theorem Auu(a:Bu):Ws a=P_ a:=by
 unfold Ws P_ Apx Apy Tx;rw[Qp,bk];simp only[ac,dJ];omega
theorem Aq3(a:Bu)(x y:Int):Apr a x y=P8 a x y:=by
 have e0:Agy a x y=Q6 a x y:=by
  unfold Agy Q6;rw[Auu,Aem];cases P_ a <;> cases V7 x y <;> simp
 obtain⟨c1,k1,_⟩:=Pi a.From x y;obtain⟨c2,k2,_⟩:=Pi a.To x y;obtain⟨c3,k3,_⟩:=zM a.From;obtain⟨c4,k4,_⟩:=Xj a.From;unfold Apr P8;rw[e0,Agp,Agp,Atb,Aeo,k1,k2,k3,k4];cases Q6 a x y with
 |true=>rfl
 |false=>
  simp only[cond_false,aa];by_cases h1:c1>0 <;> by_cases h2:c2<=0 <;> by_cases h3:c1>=0 <;> simp[Au,Dv,h1,h2,h3]
def Mt(a:Bu)(x y:Int):Bool:=match P8 a x y with
 |some b=>b
 |none=>false
theorem Akn(a:Bu)(x y:Int):P8 a x y=some (Mt a x y):=by
 obtain⟨b,e,_⟩:=X_ a x y;unfold Mt;rw[e]
theorem Alr(l:List Bu)(hl:l.length<=100)(x y:Int):Ok (Rs l x y) λr=>r.1=l.any λa=>Mt a x y:=by
 unfold Rs uT;refine Ok.bind (P:=λr=>decide (r.1>=0)=l.any λa=>Mt a x y) ?_ λr hr=>Ok.pure hr;refine Ok.andThen (A:=λ_=>l.any (λa=>Mt a x y)=false) (B:=λr=>0<=r.1/\l.any (λa=>Mt a x y)=true) ?_ (λ_ h=>Ok.pure (by rw[h];rfl)) (λr h=>Ok.pure (by rw[h.2];exact dN h.1));refine c8 (I:=λj _=>(l.take j).any (λa=>Mt a x y)=false) rfl (λj a z ha hz=>?_) λz hz=>by rw[aE]at hz;exact hz
 have hj:=(ab.1 ha).1;unfold Wi uM;rw[Akn];simp only[aa];refine c6 (λhc=>Ok.ret ⟨by rw[Ck (by omega)];dsimp only;omega,cu.2 ⟨a,ae ha,hc⟩⟩) λhc=>c7 ?_;rw[Bp ha,List.any_append,hz];simp[hc]
structure Ahw(t:An):Prop where
 pv:Qc t=some true
 rv:Aja t=some true
 max:0<=t.Max/\t.Max<=5000
 arcs:t.B5.length<=100
variable{t:An}
theorem Aek(h:E6 t):Ahw t where
 pv:=Ha h
 rv:=by
  have h1:=h.kind;have h2:=h.station;have h3:=h.max;have h4:=h.rate;have h5:=h.cost;have h6:=h.arcs;refine cZ ?_;unfold Aja;refine c6 (λhc=>?_) λ_=>Ok.andThen (A:=λ_=>True) (B:=λ_=>False) ?_ (λ_ _=>Ok.pure rfl) (λ_ h=>h.elim)
  ·simp only[At7,an,dJ]at hc;omega
  ·refine c8 (I:=λ_ _=>True) trivial (λj a z ha _=>?_) λ_ _=>trivial;unfold Amq;refine c6 (λhc=>?_) λ_=>c7 trivial;rw[Auu,Ac3 (h.arc a (ae ha))]at hc;cases hc
 max:=by have:=h.max;omega
 arcs:=by have:=h.arcs;omega
theorem K7(h:Ahw t)(x y:Int):Wf t x y=P9 t x y:=by
 unfold Wf P9;rw[h.rv,aa];have e:Q7 t x y=(qZ t x y true || qY t x y):=by
  rw[bk];simp only[Q7,qZ,qY,an,ac,dJ,aH];grind
 rw[e];cases qZ t x y true with
 |true=>rfl
 | false=>
  cases qY t x y with
  |true=>rfl
  |false=>
   simp only[cond_false,Bool.or_false];obtain⟨r,er,hr⟩:=Alr t.B5 h.arcs x y;rw[er,aa,hr];refine cZ ?_;refine Ok.andThen (A:=λ_=>t.B5.any (λa=>Mt a x y)=false) (B:=λb=>b=false/\t.B5.any (λa=>Mt a x y)=true) ?_ (λ_ h=>Ok.pure (by rw[h];rfl)) (λb h=>Ok.pure (by rw[h.1,h.2];rfl));refine c8 (I:=λj _=>(t.B5.take j).any (λa=>Mt a x y)=false) rfl (λj a z ha hz=>?_) λz hz=>by rw[aE]at hz;exact hz
   unfold Al2;rw[Aq3,Akn,aa];refine c6 (λhc=>Ok.ret ⟨rfl,cu.2 ⟨a,ae ha,hc⟩⟩) λhc=>c7 ?_;rw[Bp ha,List.any_append,hz];simp[hc]
theorem Xv(o:Option α):(o.bind λy=>some y)=o:=by cases o <;> rfl
theorem Ayr(h:Ahw t):P9 t 0 0=some true:=by
 have hm:=h.max;have h1:t.Max*t.Max<=5000*t.Max:=cO hm.2 hm.1;have h2:0<=t.Max*t.Max:=cj hm.1 hm.1;unfold P9;have e:Q7 t 0 0=false:=by
  simp only[Q7];rw[Az (n:=0-t.Max) (by omega),Az (n:=t.Max*t.Max) (by omega),show w64 (w64 (0*0)+w64 (0*0))=0 from by decide +kernel];simp only[aQ,dK,dU,Bool.and_false,and_true];omega
 rw[e,cond_false];obtain⟨r,er,hr⟩:=Alr t.B5 h.arcs 0 0;rw[er,aa,hr];have:(t.B5.any λa=>Mt a 0 0)=false:=by
  rw[ch];intro a _;have:P8 a 0 0=some false:=by
   unfold P8;have:Q6 a 0 0=true:=by simp[Q6]
   rw[this];rfl
  unfold Mt;rw[this];simp
 rw[this];rfl
theorem An9(h:Ahw t):Aav t=Tt t:=by
 have e1:Aau t=Ms t:=by
  funext z;unfold Aau Ms K_;rw[K7 h,Xv]
 have e2:Aat t=Mr t:=by
  funext z;unfold Aat Mr K_;rw[K7 h,Xv]
 unfold Aav Tt uP K_;rw[h.pv,Ayr h,e1,e2];simp only[aa,aH,cond_false];cases whileN (Ms t) 1152921504606846976 0 with
 |none=>rfl
 | some c=>
  cases c with
  |ret v=>rfl
  |next z|brk z=>
   simp only[andThen];cases whileN (Mr t) 1152921504606846976 0 with
   |none=>rfl
   |some c=>cases c <;> rfl
theorem Awy(h:Ahw t)(y:Int):Aar t y=Ts t y:=by
 have e1:Aaq t y=Mq t y:=by
  funext z;unfold Aaq Mq K9;rw[K7 h,Xv]
 have e2:Aap t y=Mp t y:=by
  funext z;unfold Aap Mp K9;rw[K7 h,Xv]
 unfold Aar Ts uO K9;rw[h.pv,K7 h,e1,e2];simp only[aa,aH,cond_false];cases P9 t 0 y with
 |none=>rfl
 | some b=>
  simp only[aa];cases b with
  |false=>rfl
  | true=>
   simp only[aH,cond_false];cases whileN (Mq t y) 1152921504606846976 0 with
   |none=>rfl
   | some c=>
    cases c with
    |ret v=>rfl
    |next z|brk z=>
     simp only[andThen];cases whileN (Mp t y) 1152921504606846976 0 with
     |none=>rfl
     |some c=>cases c <;> rfl
set_option linter.unusedVariables false
variable{s:A3}
theorem Pp(h:Dw s):Abo s=some 0:=by
 have h1:=h.bow;have h2:=h.stern;have h3:=h.len;refine cZ ?_;unfold Abo;refine c6 (λhc=>by simp only[dJ]at hc;omega) λ_=>c6 (λhc=>?_) λ_=>Ok.andThen (A:=λ_=>True) (B:=λ_=>False) ?_ (λ_ _=>Ok.pure rfl) (λ_ h=>h.elim)
 ·simp only[Aul,Az (n:=s.Bow+s.Stern) (by omega),an,dJ,dL]at hc;omega
 ·refine c8 (I:=λ_ _=>True) trivial (λj t z ht _=>?_) λ_ _=>trivial;unfold Am5;rw[(Aek (h.thr t (ae ht))).rv,aa];exact c6 (λhc=>by cases hc) λ_=>c7 trivial
theorem Xr(l:List Int)(a b:Int)(hl:l.length<=1000):M8 l a b=some (l.all λx=>decide (a<=x)&&decide (x<=b)):=by
 refine cZ ?_;unfold M8 vJ vF;refine Ok.bind (P:=λy=>(!y.1)=l.all λx=>decide (a<=x)&&decide (x<=b)) (Ok.bind (P:=λy=>(!decide (y.1>=0))=l.all λx=>decide (a<=x)&&decide (x<=b)) ?_ λy hy=>Ok.pure hy) λy hy=>Ok.pure hy;refine Ok.andThen (A:=λ_=>(l.all λx=>decide (a<=x)&&decide (x<=b))=true) (B:=λr=>0<=r.1/\(l.all λx=>decide (a<=x)&&decide (x<=b))=false) ?_ (λ_ h=>Ok.pure (by rw[h];rfl)) (λr h=>Ok.pure (by rw[h.2,dN h.1];rfl));refine c8 (I:=λj _=>((l.take j).all λx=>decide (a<=x)&&decide (x<=b))=true) rfl (λj x z hx hz=>?_) λz hz=>by rw[aE]at hz;exact hz
 have hj:=(ab.1 hx).1;unfold Wt;refine c6 (λhc=>Ok.ret ⟨by rw[Ck (by omega)];dsimp only;omega,?_⟩) λhc=>c7 ?_
 ·rw[List.all_eq_false];refine⟨x,ae hx,λhh=>?_⟩;simp only[V_,an,ac,dJ]at hc hh;omega
 ·simp only[V_,aQ,dK]at hc;rw[Bp hx,List.all_append,hz];simp;omega
theorem A6l:∀a b c:Bool,(bif a then false else bif b then false else bif c then false else true)=(!a&&(!b && !c)):=by decide
theorem Ae9(d:Bc):Qb d=[d.Surge,d.Bow,d.Stern].all λx=>decide (-500000<=x)&&decide (x<=500000):=by
 unfold Qb;rw[A6l,bk];simp only[At4,At3,At2,bH,List.all_nil,bl,ac,aV,aQ,dJ,dK];omega
def M1(t:An):Int×Int:=match Tt t with
 |some r=>r
 |none=>(0,0)
def M0(t:An)(y:Int):Int×Int:=match Ts t y with
 |some r=>r
 |none=>(0,0)
theorem yW(h:E6 t):Tt t=some (M1 t)/\Aav t=some (M1 t)/\(-t.Max<=(M1 t).1/\(M1 t).1<=0)/\0<=(M1 t).2/\(M1 t).2<=t.Max:=by
 obtain⟨r,e,hr⟩:=jO (Ha h) (Aek h).max;rw[An9 (Aek h)];have e2:M1 t=r:=by unfold M1;rw[e]
 rw[e2];exact⟨e,e,hr⟩
theorem yU(h:E6 t)(y:Int):Ts t y=some (M0 t y)/\Aar t y=some (M0 t y)/\(-t.Max<=(M0 t y).1/\(M0 t y).1<=0)/\0<=(M0 t y).2/\(M0 t y).2<=t.Max:=by
 obtain⟨r,e,hr⟩:=Afg (Ha h) (Aek h).max y;rw[Awy (Aek h)];have e2:M0 t y=r:=by unfold M0;rw[e]
 rw[e2];exact⟨e,e,hr⟩
def shL(st:Int)(t:An)(k:Int):Ay:=bif t.Station==st then ⟨(M1 (Hl t k)).1,(M1 (Hl t k)).2,t.Cost⟩ else ⟨0,0,t.Cost⟩
def shX(t:An)(k y:Int):Ay:=⟨(M0 (Hl t k) y).1,(M0 (Hl t k) y).2,t.Cost⟩
theorem Aep(h:E6 t)(st k:Int):Cu (shL st t k):=by
 have hw:=(Ie h k).2;obtain⟨_,_,h1⟩:=yW hw;have h2:=hw.max;have h3:=h.cost;unfold shL Cu;show _;have e:Hl t k=⟨t.Kind,t.Station,min t.Max (max k 0),t.Rate,t.Cost,t.B5⟩:=rfl;rw[e];cases t.Station==st with
 |true=>simp only[cond_true];dsimp only at h1 h2 ⊢;omega
 |false=>simp only[cond_false];omega
theorem A3a(h:E6 t)(k y:Int):Cu (shX t k y):=by
 have hw:=(Ie h k).2;obtain⟨_,_,h1⟩:=yU hw y;have h2:=hw.max;have h3:=h.cost;have e:Hl t k=⟨t.Kind,t.Station,min t.Max (max k 0),t.Rate,t.Cost,t.B5⟩:=rfl;unfold shX Cu;rw[e];dsimp only at h1 h2 ⊢;omega
structure Abl(s:A3)(most:List Int):Prop where
 len:most.length=s.Av.length
 rng:∀x,x∈most->0<=x/\x<=5000
def Ti(s:A3)(i:Nat):An:=s.Av.getD i default
def mkN{α:Type}(n:Nat)(f:Nat->α):List α:=(List.range n).map f
variable{f:Nat->α}{x:α}
theorem Iq(h:x=f j):mkN j f++[x]=mkN (j+1) f:=by
 unfold mkN;rw[h,bV,bB];rfl
theorem Ej(n:Nat)(f:Nat->α):(mkN n f).length=n:=by simp[mkN]
variable{n:Nat}
theorem Xq(h:(mkN n f)[i]? = some x):i<n/\x=f i:=by
 have hi:=(ab.1 h).1;rw[Ej]at hi;refine⟨hi,?_⟩;unfold mkN at h;rw[au,bG hi]at h;exact(aR h).symm
theorem jJ(f:Nat->α)(h:i<n):(mkN n f)[i]? = some (f i):=by
 unfold mkN;rw[au,bG h];rfl
variable{l:List α}
theorem Ald{d:α}(h:l[i]? = some x):l.getD i d=x:=by simp[List.getD,h]
theorem Fh(d:α)(h:i<l.length):l[i]? = some (l.getD i d):=by
 rw[ai h];simp[List.getD,List.getElem?_eq_getElem h]
theorem And(h:s.Av[i]? = some t):Ti s i=t:=Ald h
theorem Z3(hs:Dw s)(h:i<s.Av.length):E6 (Ti s i):=by
 unfold Ti;exact hs.thr _ (ae (Fh default h))
def Pw(s:A3)(most:List Int):B0:=⟨mkN s.Av.length λi=>Hl (Ti s i) (most.getD i 0),[]⟩
theorem Aut(hs:Dw s)(ha:Abl s most)(hn:ns=List.replicate s.Av.length 0):Rj s most [] ns=some (Pw s most,0):=by
 have hl:=hs.len;have hml:=ha.len;refine cZ ?_;unfold Rj;rw[Ii hs,aa];have e1:(most.all λx=>decide (0<=x)&&decide (x<=5000))=true:=aC.2 λx hx=>by simpa using ha.rng x hx
 have e2:(ns.all λx=>decide (-5000<=x)&&decide (x<=5000))=true:=aC.2 λx hx=>by
  rw[hn]at hx;rw[bT hx];rfl
 have hnl:ns.length=s.Av.length:=by rw[hn,List.length_replicate]
 rw[Xr _ _ _ (by omega),Xr _ _ _ (by omega),e1,e2];refine c6 (λhc=>by cases hc) λ_=>c6 (λhc=>?_) λ_=>?_
 ·simp[Zf,hml,hnl]at hc
 simp only[aa];refine Ok.bind (P:=λb=>b=true) (c9 (λ_=>Ok.pure rfl) λhn=>absurd ⟨rfl,trivial⟩ hn) λb hb=>?_;subst hb;refine c6 (λhc=>by cases hc) λ_=>?_;refine Ok.andThen (A:=λz=>z=mkN s.Av.length λi=>Hl (Ti s i) (most.getD i 0)) (B:=λ(_:Unit)=>False) ?_ (λz hz=>?_) (λ_ h=>h.elim)
 ·refine c8 (I:=λj z=>z=mkN j λi=>Hl (Ti s i) (most.getD i 0)) rfl (λj t z ht hz=>?_) λz hz=>hz;have hj:=(ab.1 ht).1;subst hz;unfold Wc;rw[Ck (by omega),Hr (Fh 0 (by omega)),aa,(Ie (hs.thr t (ae ht)) _).1,aa];refine(cV (by rw[Ej];simp;omega)).bind λw hw=>c7 ?_;rw[hw,Iq];rw[And ht];rfl
 ·subst hz;exact Ok.andThen (A:=λ_=>True) (B:=λ_=>False) ⟨_,rfl,trivial⟩ (λ_ _=>Ok.pure rfl) (λ_ h=>h.elim)
theorem Ak1(hs:Dw s)(ha:Abl s most)(d:Bc):Aak s most [] d=some (Pw s most,bif Qb d then 0 else 1):=by
 have hl:=hs.len;refine cZ ?_;unfold Aak;refine(Ok.mkI (by omega) (by omega)).bind λz hz=>?_;rw[Aut hs ha (by rw[hz,aB]),aa,Xr _ _ _ (by simp),←Ae9];cases Qb d <;> exact Ok.pure rfl
theorem Afj(hs:Dw s)(st:Int):Zt (Pw s most) st=some (mkN s.Av.length λi=>shL st (Ti s i) (most.getD i 0)):=by
 have hl:=hs.len;refine cZ ?_;unfold Zt;refine Ok.andThen (A:=λz=>z=mkN s.Av.length λi=>shL st (Ti s i) (most.getD i 0)) (B:=λ(_:Unit)=>False) ?_ (λz hz=>Ok.pure hz) (λ_ h=>h.elim);refine c8 (I:=λj z=>z=mkN j λi=>shL st (Ti s i) (most.getD i 0)) rfl (λj t z ht hz=>?_) λz hz=>by rw[hz];unfold Pw;rw[Ej]
 obtain⟨hj,et⟩:=Xq ht;subst hz;have hw:=(Ie (Z3 hs hj) (most.getD j 0)).2;obtain⟨h1,_⟩:=yW hw;have es:t.Station=(Ti s j).Station:=by rw[et];rfl
 have ec:t.Cost=(Ti s j).Cost:=by rw[et];rfl
 unfold Aai Wb;rw[Ck (by omega),es,ec];have fin:∀{x:Ay},x=shL st (Ti s j) (most.getD j 0)->Ok ((appI 25 (mkN j λi=>shL st (Ti s i) (most.getD i 0)) [x]).bind λy=>some (Ctl.next y:Ctl (List Ay) Unit)) (Gg (λz=>z=mkN (j+1) λi=>shL st (Ti s i) (most.getD i 0)) (λz=>z=mkN s.Av.length λi=>shL st (Ti s i) (most.getD i 0)) λ(_:Unit)=>False):=fun {x} hx=>(cV (by rw[Ej];simp;omega)).bind λw hw=>c7 (by rw[hw,Iq hx]);refine c6 (λhc=>fin ?_) λhc=>?_
 ·unfold shL;simp only[bne_iff_ne,ne_eq]at hc;rw[dM.2 hc];rfl
 ·have e2:Tt t=some (M1 (Hl (Ti s j) (most.getD j 0))):=by rw[et];exact h1
  rw[e2,aa];have e3:getI (Pw s most).thrusters (j:Int)=some t:=Hr ht;rw[e3,aa];simp only[dR]at hc;refine Ok.bind (P:=λx=>x=shL st (Ti s j) (most.getD j 0)) ?_ λx hx=>fin hx;refine c6 (λhp=>by simp[Pw]at hp) λ_=>Ok.pure ?_;unfold shL;rw[hc,beq_self_eq_true,ec];rfl
theorem Av0(hs:Dw s)(hy:y.length=s.Av.length):Aah (Pw s most) y=some (mkN s.Av.length λi=>shX (Ti s i) (most.getD i 0) (y.getD i 0)):=by
 have hl:=hs.len;refine cZ ?_;unfold Aah;refine Ok.andThen (A:=λz=>z=mkN s.Av.length λi=>shX (Ti s i) (most.getD i 0) (y.getD i 0)) (B:=λ(_:Unit)=>False) ?_ (λz hz=>Ok.pure hz) (λ_ h=>h.elim);refine c8 (I:=λj z=>z=mkN j λi=>shX (Ti s i) (most.getD i 0) (y.getD i 0)) rfl (λj t z ht hz=>?_) λz hz=>by rw[hz];unfold Pw;rw[Ej]
 obtain⟨hj,et⟩:=Xq ht;subst hz;have hw:=(Ie (Z3 hs hj) (most.getD j 0)).2;obtain⟨h1,_⟩:=yU hw (y.getD j 0);unfold Aag Wa;rw[Ck (by omega),Hr (Fh 0 (by omega)),aa];have e2:Ts t (y.getD j 0)=some (M0 (Hl (Ti s j) (most.getD j 0)) (y.getD j 0)):=by rw[et];exact h1
 have e3:getI (Pw s most).thrusters (j:Int)=some t:=Hr ht;rw[e2,aa,e3,aa];refine Ok.bind (P:=λx=>x=shX (Ti s j) (most.getD j 0) (y.getD j 0)) ?_ λx hx=>(cV (by rw[Ej];simp;omega)).bind λw hw=>c7 (by rw[hw,Iq hx]);exact c6 (λhp=>by simp[Pw]at hp) λ_=>Ok.pure (by unfold shX;rw[et];rfl)
theorem Tg(hs:Dw s)(ha:Abl s most):Ais s most []=some 0/\Air most []=some true:=by
 refine⟨?_,cZ ?_⟩
 ·unfold Ais;rw[Pp hs];have:Ag4 s most []=false:=by simp[Ag4,ha.len]
  simp only[aa,this];rfl
 ·unfold Air;refine Ok.andThen (A:=λ_=>True) (B:=λ_=>False) ?_ (λ_ _=>⟨_,rfl,rfl⟩) (λ_ h=>h.elim);refine c8 (I:=λ_ _=>True) trivial (λj x z hx _=>?_) λ_ _=>trivial;unfold Al4;refine c6 (λhc=>?_) λ_=>c7 trivial;have:=ha.rng x (ae hx);simp only[Atq,an,dJ]at hc;omega
theorem yV(hs:Dw s)(ha:Abl s most)(hst:0<=st/\st<=1):Ai8 s most [] st=some (mkN s.Av.length λi=>shL st (Ti s i) (most.getD i 0),0):=by
 have hl:=hs.len;have hml:=ha.len;refine cZ ?_;unfold Ai8;rw[(Tg hs ha).1,(Tg hs ha).2];simp only[aa];refine c6 (λhc=>by cases hc) λ_=>c6 (λhc=>?_) λ_=>?_
 ·simp only[At5,aH,aW,an,dJ]at hc;omega
 refine Ok.andThen (A:=λz=>z=mkN s.Av.length λi=>shL st (Ti s i) (most.getD i 0)) (B:=λ(_:Unit)=>False) ?_ (λz hz=>Ok.pure (by rw[hz])) (λ_ h=>h.elim);refine c8 (I:=λj z=>z=mkN j λi=>shL st (Ti s i) (most.getD i 0)) rfl (λj t z ht hz=>?_) λz hz=>hz;have hj:=(ab.1 ht).1;have et:=And ht;subst hz;have hw:=(Ie (hs.thr t (ae ht)) (most.getD j 0)).2;obtain⟨_,h1,_⟩:=yW hw;unfold Amp;rw[Ck (by omega),Hr (Fh 0 (by omega))];have fin:∀{x:Ay},x=shL st (Ti s j) (most.getD j 0)->Ok ((appI 25 (mkN j λi=>shL st (Ti s i) (most.getD i 0)) [x]).bind λy=>some (Ctl.next y:Ctl (List Ay) Unit)) (Gg (λz=>z=mkN (j+1) λi=>shL st (Ti s i) (most.getD i 0)) (λz=>z=mkN s.Av.length λi=>shL st (Ti s i) (most.getD i 0)) λ(_:Unit)=>False):=fun {x} hx=>(cV (by rw[Ej];simp;omega)).bind λw hw=>c7 (by rw[hw,Iq hx]);simp only[aa];refine c6 (λhc=>?_) λhc=>fin (by unfold shL;rw[et,hc];rfl);have e2:Aav (Hl t (most.getD j 0))=some (M1 (Hl t (most.getD j 0))):=h1;rw[e2,aa];exact c6 (λhp=>by simp at hp) λ_=>fin (by unfold shL;rw[et,hc];rfl)
theorem A0p(hs:Dw s)(ha:Abl s most)(hy:y.length=s.Av.length)(hr:∀x,x∈y -> -5000<=x/\x<=5000):Aqf s most [] y=some (mkN s.Av.length λi=>shX (Ti s i) (most.getD i 0) (y.getD i 0),0):=by
 have hl:=hs.len;have hml:=ha.len;refine cZ ?_;unfold Aqf;rw[(Tg hs ha).1,(Tg hs ha).2];simp only[aa];refine c6 (λhc=>by cases hc) λ_=>c6 (λhc=>?_) λ_=>c6 (λhc=>by cases hc) λ_=>?_
 ·simp[At0,hy]at hc
 refine Ok.andThen (A:=λ_=>True) (B:=λ_=>False) ?_ (λ_ _=>?_) (λ_ h=>h.elim)
 ·refine c8 (I:=λ_ _=>True) trivial (λj x z hx _=>?_) λ_ _=>trivial;unfold Amm;refine c6 (λhc=>?_) λ_=>c7 trivial;have:=hr x (ae hx);simp only[Atz,an,dJ]at hc;omega
 refine Ok.andThen (A:=λz=>z=mkN s.Av.length λi=>shX (Ti s i) (most.getD i 0) (y.getD i 0)) (B:=λ(_:Unit)=>False) ?_ (λz hz=>Ok.pure (by rw[hz])) (λ_ h=>h.elim);refine c8 (I:=λj z=>z=mkN j λi=>shX (Ti s i) (most.getD i 0) (y.getD i 0)) rfl (λj t z ht hz=>?_) λz hz=>hz;have hj:=(ab.1 ht).1;have et:=And ht;subst hz;have hw:=(Ie (hs.thr t (ae ht)) (most.getD j 0)).2;obtain⟨_,h1,_⟩:=yU hw (y.getD j 0);unfold Aml;rw[Ck (by omega),Hr (Fh 0 (by omega)),Hr (Fh 0 (by omega))];have e2:Aar (Hl t (most.getD j 0)) (y.getD j 0)=some (M0 (Hl t (most.getD j 0)) (y.getD j 0)):=h1;simp only[aa,e2];exact c6 (λhp=>by simp at hp) λ_=>(cV (by rw[Ej];simp;omega)).bind λw hw=>c7 (by rw[hw,Iq];unfold shX;rw[et])
set_option linter.unusedVariables false
theorem Avy(hs:Dw s)(l:List A6):Aqe s l=Aaf s l:=by
 have e:Aa7 s=X3 s:=by
  funext n a z;have e1:Aiu a=Ty a:=by
   rw[bk];simp only[Aiu,Ty,ac,dJ];omega
  unfold Aa7 X3;rw[e1]
 unfold Aqe Aaf;rw[Ii hs,Pp hs,e];rfl
theorem Alt{f:Nat->Ay}(h:∀i,i<n->Cu (f i)):∀x,x∈mkN n f->Cu x:=λx hx=>by
 obtain⟨i,hi⟩:=bm hx;obtain⟨h1,h2⟩:=Xq hi;rw[h2];exact h i h1
theorem Awz(hl:l.length=n)(h:∀i,i<n->l[i]? = some (f i)):l=mkN n f:=by
 refine bL λi=>?_;by_cases hi:i<n
 ·rw[jJ _ hi,h i hi]
 ·rw[bX (by omega),bX (by rw[Ej];omega)]
theorem As6(hs:Dw s)(ha:Abl s most)(d:Bc):Ajk s most [] d=Wr s most [] d:=by
 have hl:=hs.len;cases hm:Qb d with
 |false=>
  unfold Ajk Wr;rw[Ak1 hs ha,hm,yV hs ha (by omega)];simp only[aa];rfl
 | true=>
  have hd:=hm;rw[Ae9]at hd;simp only[bH,List.all_nil,bl,ac,dJ]at hd;obtain⟨⟨d1,d2⟩,⟨d3,d4⟩,d5,d6⟩:=hd;generalize hn:s.Av.length=n at hl;have hL:∀st,∀x,x∈mkN n (λi=>shL st (Ti s i) (most.getD i 0))->Cu x:=λst=>Alt λi hi=>Aep (Z3 hs (by omega)) _ _;obtain⟨b,b1,b2,eb1,eb2,lb,rb⟩:=Agk (by rw[Ej];exact hl) (hL 0) (t:=d.Bow) ⟨d3,d4⟩;obtain⟨c,c1,c2,ec1,ec2,lc,rc⟩:=Agk (by rw[Ej];exact hl) (hL 1) (t:=d.Stern) ⟨d5,d6⟩;rw[Ej]at lb lc;have hr:∀i,i<n -> -5000<=b.getD i 0+c.getD i 0/\b.getD i 0+c.getD i 0<=5000:=λi hi=>by
   have k1:=rb i _ _ (jJ _ hi) (Fh 0 (by omega));have k2:=rc i _ _ (jJ _ hi) (Fh 0 (by omega));have ht:=Z3 hs (i:=i) (by omega);have o1:=(Aep ht 0 (most.getD i 0)).1;have o2:=(Aep ht 1 (most.getD i 0)).1;have hst:=ht.station;generalize b.getD i 0=u at k1 ⊢;generalize c.getD i 0=w at k2 ⊢;unfold shL at k1 k2 o1 o2;rcases(by omega:(Ti s i).Station=0\/(Ti s i).Station=1) with e|e <;> rw[e]at k1 k2 o1 o2 <;> simp at k1 k2 o1 o2 <;> omega
  generalize hy:mkN n (λi=>b.getD i 0+c.getD i 0)=y;have ly:y.length=n:=by rw[←hy,Ej]
  have hyi:∀i,i<n->y[i]? = some (b.getD i 0+c.getD i 0):=λi hi=>by rw[←hy];exact jJ _ hi
  have hyr:∀x,x∈y -> -5000<=x/\x<=5000:=λx hx=>by
   obtain⟨i,hi⟩:=bm hx;rw[←hy]at hi;obtain⟨g1,g2⟩:=Xq hi;rw[g2];exact hr i g1
  obtain⟨x,x1,x2,ex1,ex2,lx,_⟩:=Agk (l:=mkN n λi=>shX (Ti s i) (most.getD i 0) (y.getD i 0)) (by rw[Ej];exact hl) (Alt λi hi=>A3a (Z3 hs (by omega)) _ _) (t:=d.Surge) ⟨d1,d2⟩;rw[Ej]at lx;generalize hT:mkN n (λi=>(⟨x.getD i 0,y.getD i 0⟩:A6))=T;obtain⟨r,er,_⟩:=Abz hs T;have hp:Wr s most [] d=some (⟨T,r.1,Apw d r.1⟩,0):=by
   refine cZ ?_;unfold Wr;rw[Ak1 hs ha,hm,aa];refine c6 (λhc=>by cases hc) λ_=>?_;rw[Afj hs,hn,aa,eb1,aa,Afj hs,hn,aa,ec1,aa];dsimp only;refine Ok.andThen (A:=λz=>z=y) (B:=λ(_:Unit)=>False) ?_ (λz hz=>?_) (λ_ h=>h.elim)
   ·refine c8 (I:=λj z=>z.length=n/\∀i,i<n->z[i]? = some (if i<j then b.getD i 0+c.getD i 0 else c.getD i 0)) ⟨lc,λi hi=>Fh 0 (by omega)⟩ (λj v z hv hz=>?_) λz hz=>?_
    ·have hj:=(ab.1 hv).1;unfold Aax;dsimp only;have hzj:=hz.2 j (by omega);rw[if_neg (Nat.lt_irrefl j)]at hzj;have hrj:=hr j (by omega);rw[Ck (by omega),Hr hzj,aa,Hr (Fh 0 (by omega)),aa,Az (by omega)];refine(d7 (by omega) (by have:=hz.1;omega)).bind λw hw=>c7 ?_;rw[aB]at hw;subst hw;refine⟨by rw[ba];exact hz.1,λi hi=>?_⟩;rw[aD];by_cases e:j=i
     ·subst e;rw[if_pos rfl,if_pos (by have:=hz.1;omega),if_pos (by omega),Int.add_comm]
     ·rw[if_neg e,hz.2 i hi];by_cases e2:i<j
      ·rw[if_pos e2,if_pos (by omega)]
      ·rw[if_neg e2,if_neg (by omega)]
    ·rw[←hy];refine Awz hz.1 λi hi=>?_;rw[hz.2 i hi,if_pos (by omega)]
   ·subst hz;rw[Av0 hs (by omega),hn,aa,ex1,aa];refine Ok.andThen (A:=λw=>w=T) (B:=λ(_:Unit)=>False) ?_ (λw hw=>by subst hw;rw[er];exact Ok.pure rfl) (λ_ h=>h.elim);refine c8 (I:=λj w=>w=mkN j λi=>(⟨x.getD i 0,z.getD i 0⟩:A6)) rfl (λj v w hv hw=>?_) λw hw=>by rw[hw,ly,hT]
    have hj:=(ab.1 hv).1;unfold Aaw;dsimp only;subst hw;rw[Ck (by omega),Hr (Fh 0 (by omega)),aa];exact(cV (by rw[Ej];simp;omega)).bind λu hu=>c7 (by rw[hu,Iq];rw[Ald hv])
  rw[hp];refine cZ ?_;unfold Ajk;rw[yV hs ha (by omega),hn,aa];refine c6 (λhc=>by cases hc) λ_=>c6 (λhc=>by rw[hm]at hc;cases hc) λ_=>?_;rw[yV hs ha (by omega),hn,aa,eb2,aa,ec2,aa];refine Ok.andThen (A:=λz=>z.2=y) (B:=λ(_:Unit)=>False) ?_ (λz hz=>?_) (λ_ h=>h.elim)
  ·refine cU (λz=>∃j:Nat,z=((j:Int),mkN j λi=>b.getD i 0+c.getD i 0)/\j<=n) (λz=>((n:Int)-z.1).toNat) _ _ ⟨0,rfl,by omega⟩ (by dsimp only;omega) ?_;rintro _ ⟨j,rfl,hj⟩;unfold Am4;dsimp only;refine c6 (λhc=>?_) λhc=>cY ?_
   ·simp only[Ahi,hn,dJ]at hc;have hrj:=hr j (by omega);rw[Hr (Fh 0 (by omega)),aa,Hr (Fh 0 (by omega)),aa,Az (n:=b.getD j 0+c.getD j 0) (by omega)];refine(cV (by rw[Ej];simp;omega)).bind λu hu=>c7 ⟨⟨j+1,?_,by omega⟩,?_⟩
    ·rw[hu,Iq rfl];rw[Az (by omega)];rfl
    ·dsimp only;rw[Az (by omega)];omega
   ·simp only[Ahi,hn,dK]at hc;rw[←hy,show j=n from by omega]
  ·rw[hz,A0p hs ha (by omega) hyr,hn,aa,ex2,aa];refine Ok.andThen (A:=λz=>z.2=T) (B:=λ(_:Unit)=>False) ?_ (λw hw=>by rw[hw,Avy hs,er];exact Ok.pure rfl) (λ_ h=>h.elim);refine cU (λz=>∃j:Nat,z=((j:Int),mkN j λi=>(⟨x.getD i 0,y.getD i 0⟩:A6))/\j<=n) (λz=>((n:Int)-z.1).toNat) _ _ ⟨0,rfl,by omega⟩ (by dsimp only;omega) ?_;rintro _ ⟨j,rfl,hj⟩;unfold Am3;dsimp only;refine c6 (λhc=>?_) λhc=>cY ?_
   ·simp only[Ahh,hn,dJ]at hc;rw[Hr (Fh 0 (by omega)),aa,hz,Hr (Fh 0 (by omega)),aa];refine(cV (by rw[Ej];simp;omega)).bind λu hu=>c7 ⟨⟨j+1,?_,by omega⟩,?_⟩
    ·rw[hu,Iq rfl];rw[Az (by omega)];rfl
    ·dsimp only;rw[Az (by omega)];omega
   ·simp only[Ahh,hn,dK]at hc;rw[←hT,show j=n from by omega]
theorem Ajs(hs:Dw s)(f:A4):Aqg s f=Aal s f:=by
 have e1:Ahb f=((!([f.Surge,f.Sway].all λx=>decide (-5000<=x)&&decide (x<=5000))) || (!([f.Yaw].all λx=>decide (-500000<=x)&&decide (x<=500000)))):=by
  rw[bk];simp only[Ahb,bH,List.all_nil,bl,an,aV,bD,dJ,dK];omega
 unfold Aqg Aal;rw[Ii hs,Pp hs,Xr _ _ _ (by simp),Xr _ _ _ (by simp),e1,U9];simp only[aa];cases h1:([f.Surge,f.Sway].all λx=>decide (-5000<=x)&&decide (x<=5000)) with
 |false=>rfl
 | true=>
  cases h2:([f.Yaw].all λx=>decide (-500000<=x)&&decide (x<=500000)) with
  |false=>rfl
  | true=>
   obtain⟨y,ey,_⟩:=Y5 (w64 (f.Yaw+w64 (f.Sway*s.Stern))) (w64 (s.Bow+s.Stern));have e2:Aha f y = !([y.1,w64 (f.Sway-y.1)].all λx=>decide (-500000<=x)&&decide (x<=500000)):=by
    unfold Aha;rw[Ae9];congr 1;simp only[bH,List.all_nil,bl,ac,dJ]at h1 ⊢;rw[dN (by omega),dN (by omega)];rfl
   rw[ey];simp only[Au,Dv,aa,Xr _ _ _ (show [y.1,w64 (f.Sway-y.1)].length<=1000 from by simp),e2];cases ([y.1,w64 (f.Sway-y.1)].all λx=>decide (-500000<=x)&&decide (x<=500000)) <;> rfl
theorem Av8(f:A4):Ain f=some (F65 f):=by
 refine cZ ?_;unfold Ain Aps;have e:F65 f=([f.Surge,f.Sway,f.Yaw].all λx=>decide (-1000000<=x)&&decide (x<=1000000)):=by
  unfold F65;rw[A6l,bk];simp only[Az9,Az8,Az7,bH,List.all_nil,bl,ac,aV,aQ,dJ,dK];omega
 rw[e];generalize [f.Surge,f.Sway,f.Yaw]=l;refine Ok.bind (P:=λy=>y=l.all λx=>decide (-1000000<=x)&&decide (x<=1000000)) ?_ λy hy=>Ok.pure hy;refine Ok.andThen (A:=λ_=>(l.all λx=>decide (-1000000<=x)&&decide (x<=1000000))=true) (B:=λr=>r=false/\(l.all λx=>decide (-1000000<=x)&&decide (x<=1000000))=false) ?_ (λ_ h=>Ok.pure h.symm) (λr h=>Ok.pure (h.1.trans h.2.symm));refine c8 (I:=λj _=>((l.take j).all λx=>decide (-1000000<=x)&&decide (x<=1000000))=true) rfl (λj x z hx hz=>?_) λz hz=>by rw[aE]at hz;exact hz
 unfold Aad;refine c6 (λhc=>Ok.ret ⟨rfl,?_⟩) λhc=>c7 ?_
 ·rw[List.all_eq_false];refine⟨x,ae hx,λhh=>?_⟩;simp only[Agz,show w64 (0-1000000) = -1000000 from by decide +kernel,an,ac,dJ]at hc hh;omega
 ·simp only[Agz,show w64 (0-1000000) = -1000000 from by decide +kernel,aQ,dK]at hc;rw[Bp hx,List.all_append,hz];simp;omega
theorem As7(hs:Dw s)(f:A4):Aqs s f=Aay s f:=by
 unfold Aqs Aay uS;rw[Av8,aa,Ajs hs];rfl
theorem Awv(hs:Dw s)(ha:Abl s most)(f:A4):F24 s most f=Abn s most f:=by
 unfold F24 Abn F70 Aqh;rw[As7 hs];cases Aay s f with
 |none=>rfl
 |some y=>simp only[aa,As6 hs ha]
set_option linter.unusedVariables false
theorem Ack{H:Ab->Option Bool}{H2:List Ab->Ab->Option Bool}{M:List Ab->Option Bool}{mB:Ab->Bool}{now:List Ab}(hH:∀x,H2 now x=some (Di now x))(hM:∀x,Dy x->M [x]=some (mB x)) :
  ∀l:List Ab,(∀x,x∈l->Dy x)->Sy H2 M now l=some ((l.filter λx=>!Di now x).map λx=>⟨x,mB x⟩)
 | [],_=>rfl
 |x::l,hl=>by
  unfold Sy;rw[hH,aa,Ack (H:=H) hH hM l λy hy=>hl y (ak _ hy)];cases hx:Di now x with
  |true=>simp[hx]
  |false=>simp[hx,hM x (hl x List.mem_cons_self)]
theorem Afz:∀us:List Bi,(!(K2 us).2)=us.all λf=>f.Holds
 | []=>rfl
 |f::l=>by
  unfold K2;cases h:f.Holds with
  |false=>simp[h]
  |true=>simp only[aH,cond_false,bH,h,bu];exact Afz l
theorem A8m{s:Af}(hs:A5 s):Ok (F20 s [0,10,50,100]) λ_=>True:=(Cx hs _ (by simp) (by simp)).mono λ_ _=>trivial
theorem Ut(n:Int):Ok (F66 n 100) λ_=>True:=by
 unfold F66;rw[Az (n:=2*100) (by omega)];exact(Ok.nzI (by omega)).bind λ_ _=>(Ok.nzI (by omega)).bind λ_ _=>c6 (λ_=>Ok.pure trivial) λ_=>Ok.pure trivial
theorem Ans(f:A4)(n:Int):Ok (F18 f n) λ_=>True:=by
 unfold F18;exact c6 (λ_=>Ok.pure trivial) λ_=>(Ut _).bind λ_ _=>(Ut _).bind λ_ _=>(Ut _).bind λ_ _=>Ok.pure trivial
theorem A3j{v:Ba}(h:Pm v){p:As}(hp:Rf v.Board v.Table p)(he:p.Bm=[])(hb:∀x,x∈broken->Dy x)(hbn:broken.length<=20)(f:A4){x:Ab}(hx:Dy x) :
  ∃y b,F14 v p broken [x]=some y/\y.2.2=0/\F24 v.Ship y.2.1 f=some b/\F69 v p broken [x] f=some b:=by
 obtain⟨y,ey,hy⟩:=Azj h hp (by rw[he];simp) hb (fails:=[x]) (λz hz=>by rw[aK.1 hz];exact hx) hbn (by simp);obtain⟨b,eb,_⟩:=Acg h.ship y.2.1 f;have ha:Abl v.Ship y.2.1:=⟨hy.len,λn hn=>by
  obtain⟨i,hi⟩:=bm hn;have hil:=(ab.1 hi).1;have hln:=hy.len;have et:v.Ship.Av[i]? = some (v.Ship.Av[i]'(by omega)):=ai _;have:=(hy.able i _ n et hi).1;have:=(h.ship.thr _ (ae et)).max;omega⟩
 refine⟨y,b,ey,hy.err,by rw[Awv h.ship ha,eb],?_⟩;unfold F69;rw[ey,aa,hy.err,eb];simp[Au,Dv]
theorem consequenceSingles_law(t:List Int):F4 t=some true:=by
 refine cZ ?_;unfold F4;refine c6 (λ_=>by rw[Ark];exact Ok.pure rfl) (λ_=>(A6u t).bind λs hs=>(Am9 hs).bind λw hw=>(Anu hw.2.2).bind λo ho=>?_);obtain⟨hv,⟨hp0,hT,hE,_⟩,_⟩:=hw;obtain⟨o1,o2,o3,o4⟩:=ho;have hp:=hp0 w.1.Table;have hS:=hp.st;have hbu:=hv.Ap.buses;have hro:=hp.nro;have hbl:=hS.brk.len;have hlk:=hv.des.links.len;have hul:=R5 o.1 w.2.1.Power.Al;have hfl:=qG w.1.Design.Links (Kn o.1 w.2.1.Power.Al);have hnow:=A3l hv hS (λx hx=>(o2 x hx).1) (by omega) (λx hx=>(o2 x hx).2) (o1.imp Aky);generalize G6 w.1.Design.Links (Kn o.1 w.2.1.Power.Al)=now at hfl hnow;refine(Ayz o4).bind λf hf=>(A8m hf).bind λk _=>(Ans f.1 k.1).bind λg _=>?_;rw[hnow,aa];obtain⟨hb,ehb,_⟩:=Awu hv (n:=0) (by omega) ⟨hS,by omega,by rw[hE];simp⟩ (λx hx=>(o2 x hx).1) (fails:=[]) (by simp) (by omega) (by simp) g;have eh:F22 w.1 w.2.1 o.1 g=some hb:=by
  unfold F22;rw[ehb];rfl
 have one:=λ(x:Ab)(hx:Dy x)=>A3j hv hp hE (λx hx=>(o2 x hx).1) (by omega) g hx;generalize hmB:(λx:Ab=>match F69 w.1 w.2.1 o.1 [x] g with|some b=>b|none=>false)=mB;have hM:∀x,Dy x->F69 w.1 w.2.1 o.1 [x] g=some (mB x):=λx hx=>by
  obtain⟨y,b,_,_,_,e⟩:=one x hx;rw[←hmB];simp only[e]
 have eS:F25 w.1 w.2.1 o.1 g=some (hb&&(w.1.Design.Parts.filter λx=>!Di now x).all mB):=by
  unfold F25 F71 qE qB;rw[eh,hnow,aa,aa,Ack (H:=λ_=>none) (λx=>Qv now x (by omega)) hM w.1.Design.Parts hv.des.ok];cases hb with
  |false=>rfl
  |true=>
   simp only[aH,cond_false,aT,aa,Afz,List.all_map,bu];rfl
 rw[eh,aa];refine Ok.andThen (A:=λz=>z=(hb&&(w.1.Design.Parts.filter λx=>!Di now x).all mB)) (B:=λ_=>False) ?_ (λz hz=>?_) (λ_ h=>h.elim)
 ·refine c8 (I:=λj z=>z=(hb&&((w.1.Design.Parts.take j).filter λx=>!Di now x).all mB)) (by simp) (λj x z hx hz=>?_) λz hz=>by rw[aE]at hz;exact hz
  have hok:=hv.des.ok x (ae hx);obtain⟨y,b,e1,e2,e3,e4⟩:=one x hok;have eb:b=mB x:=aR (e4.symm.trans (hM x hok));subst eb;unfold A0i;rw[Axd,aa,Bp hx,bp,List.all_append,←Bool.and_assoc,←hz];refine c6 (λhc=>c7 (by simp[hc])) λhc=>?_;rw[e1,aa,e2,e3];refine c6 (λhc=>by cases hc) λ_=>Ok.bind (P:=λu=>z=true->u=mB x) (c9 (λ_=>Ok.pure λ_=>rfl) λhn ht=>absurd ⟨ht,trivial⟩ hn) λu hu=>c7 ?_;cases z with
  |false=>rfl
  |true=>rw[hu rfl];simp[hc]
 ·rw[eS,aa,←hz];refine Ok.bind (P:=λb=>b=true) (c9 (λ_=>by rw[Ark];exact Ok.pure rfl) λhg=>absurd ⟨by simp,trivial⟩ hg) λb hb=>Ok.pure (by subst hb;simp)
end Go.Proofs.YtiaaaghdkhnonaaGreat
