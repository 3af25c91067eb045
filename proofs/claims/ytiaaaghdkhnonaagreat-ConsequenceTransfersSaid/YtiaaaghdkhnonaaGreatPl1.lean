import Derived.Test.YtiaaaghdkhnonaaGreatPl0
namespace Go.Proofs.YtiaaaghdkhnonaaGreat
open Go.SL
variable{v:A5}{b:Aa}{P p:Ad}{z:Ad×List As}{s:Af}{x:Aq}{t:Ay}{m:By}{r:Cm}{c d hi hi' i k lo:Int}{a broken fails l:List Ab}{acts:List As}{f n:Nat}
def S5(L:List Int)(l:List Int):Int:=l.foldl (λs c=>s+L.getD c.toNat 0) 0
theorem yA(L:List Int)(l:List Int)(c:Int):S5 L (l++[c])=S5 L l+L.getD c.toNat 0:=by
 grind[S5]
def Ib(b:Aa)(p:Ad)(n:Nat):Nat:=((groups b p).getD n 0).toNat
def Hw(b:Aa)(p:Ad)(n:Nat):Int:=if 0<(isl b p (Ib b p n)).Ae.length then S5 p.Ao (isl b p (Ib b p n)).Ag else 0
def Aa0(b:Aa):List Int:=b.Ae.map (·.Rating)
def Nf(b:Aa)(p:Ad)(n:Nat):Int:=S5 (Aa0 b) (isl b p (Ib b p n)).Ae
theorem Aw2(hi:i∈(isl b p f).Ag):0<=i/\i<b.Ag.length:=by
 obtain⟨k,hk,rfl⟩:=ao.1 hi;grind
theorem Aw1(hi:i∈(isl b p f).Ae):0<=i/\i<b.Ae.length:=by
 obtain⟨k,hk,rfl⟩:=ao.1 hi;grind
theorem Ab9(h:Ax b)(hp:Aw b p)(h0:0<=c)(h1:c<b.Ag.length):getI p.Ao c=some (p.Ao.getD c.toNat 0)/\0<=p.Ao.getD c.toNat 0/\p.Ao.getD c.toNat 0<=(b.Ag.getD c.toNat default).Load/\p.Ao.getD c.toNat 0<=50000:=by
 have hn:=hp.nli;obtain⟨k,rfl⟩:∃k:Nat,c=(k:Int):=⟨c.toNat,by omega⟩;rw[aI];have hg:=Gb (b:=b) (i:=k) (by omega);have hl:=hp.lim k _ _ (Po (p:=p) (by omega)) hg;have hc:=(h.co k _ hg).1;exact⟨B1 (Po (by omega)),hl.1,hl.2,by omega⟩
theorem A46(h0:0<=c)(h1:c<b.Ag.length):getI b.Ag c=some (b.Ag.getD c.toNat default):=by
 obtain⟨k,rfl⟩:∃k:Nat,c=(k:Int):=⟨c.toNat,by omega⟩;rw[aI];exact B1 (Gb (by omega))
theorem Ahu(h:Ax b)(hp:Aw b p)(hn:n<b.An.toNat):Ae8 b p (n:Int)=some (Hw b p n)/\0<=Hw b p n/\Hw b p n<=800000:=by
 have hcl:=h.col;have hlen:(isl b p (Ib b p n)).Ag.length<=b.Ag.length:=E8 _ _;have key:Ok (Ae8 b p (n:Int)) λy=>y=Hw b p n/\0<=Hw b p n/\Hw b p n<=800000:=by
  unfold Ae8;have hof:Js b p (n:Int)=some (isl b p (Ib b p n),true):=of_eq h hp hn;rw[hof];simp only[ab];refine Ok.andThen (A:=λs=>s=Hw b p n/\0<=Hw b p n/\Hw b p n<=800000) (B:=λ(_:Unit)=>False) ?_ (λs hs=>Ok.pure hs) (λ_ h=>h.elim);by_cases hs:0<(isl b p (Ib b p n)).Ae.length
  ·refine c8 (I:=λj s=>s=S5 p.Ao ((isl b p (Ib b p n)).Ag.take j)/\0<=s/\s<=50000*(j:Int)) ⟨rfl,by omega,by omega⟩ (λj c s hc hI=>?_) λs hI=>?_
   ·obtain⟨h1,h2,h3⟩:=hI;have hj:j<(isl b p (Ib b p n)).Ag.length:=(aa.1 hc).1;have hcm:=Aw2 (af hc);obtain⟨g1,g2,g3,g4⟩:=Ab9 h hp hcm.1 hcm.2;unfold uO;have e:decide (((isl b p (Ib b p n)).Ae.length:Int)>0)=true:=dF (by omega);show Ok (bif decide (((isl b p (Ib b p n)).Ae.length:Int)>0)then _ else _) _;rw[e,g1];simp only[cond_true,ab];rw[Az (by omega)];refine c7 ⟨?_,by omega,by omega⟩;rw[Bs hc,yA,h1]
   ·rw[aP]at hI;have e:Hw b p n=S5 p.Ao (isl b p (Ib b p n)).Ag:=by unfold Hw;rw[if_pos hs]
    grind
  ·have e:Hw b p n=0:=by unfold Hw;rw[if_neg hs]
   rw[e];refine c8 (I:=λ_ s=>s=0) rfl (λj c s hc hI=>?_) λs hI=>⟨hI,by omega,by omega⟩;unfold uO;have e:decide (((isl b p (Ib b p n)).Ae.length:Int)>0)=false:=dG (by omega);show Ok (bif decide (((isl b p (Ib b p n)).Ae.length:Int)>0)then _ else _) _;rw[e];exact c7 hI
 obtain⟨r,e,h1,h2⟩:=key;rw[h1]at e;exact⟨e,h2⟩
theorem yJ(h:Ax b)(hp:Aw b p)(hn:n<b.An.toNat):Ae7 b p (n:Int)=some (Nf b p n)/\0<=Nf b p n/\Nf b p n<=400000:=by
 have hcl:=h.sol;have hlen:(isl b p (Ib b p n)).Ae.length<=b.Ae.length:=E8 _ _;have key:Ok (Ae7 b p (n:Int)) λy=>y=Nf b p n/\0<=Nf b p n/\Nf b p n<=400000:=by
  unfold Ae7;have hof:Js b p (n:Int)=some (isl b p (Ib b p n),true):=of_eq h hp hn;rw[hof];simp only[ab];refine Ok.andThen (A:=λs=>s=Nf b p n/\0<=Nf b p n/\Nf b p n<=400000) (B:=λ(_:Unit)=>False) ?_ (λs hs=>Ok.pure hs) (λ_ h=>h.elim);refine c8 (I:=λj s=>s=S5 (Aa0 b) ((isl b p (Ib b p n)).Ae.take j)/\0<=s/\s<=50000*(j:Int)) ⟨rfl,by omega,by omega⟩ (λj c s hc hI=>?_) λs hI=>?_
  ·obtain⟨h1,h2,h3⟩:=hI;have hj:j<(isl b p (Ib b p n)).Ae.length:=(aa.1 hc).1;have hcm:=Aw1 (af hc);unfold Ail;refine(cR hcm.1 hcm.2).bind λy hy=>?_;have hr:=(h.so y (af hy)).1;have e:(Aa0 b).getD c.toNat 0=y.Rating:=by simp[Aa0,List.getD,hy]
   rw[Az (by omega)];refine c7 ⟨?_,by omega,by omega⟩;rw[Bs hc,yA,h1,e]
  ·rw[aP]at hI;unfold Nf;grind
 obtain⟨r,e,h1,h2⟩:=key;rw[h1]at e;exact⟨e,h2⟩
def Nt(b:Aa)(p:Ad)(n:Nat):Int:=max 0 (Hw b p n-Nf b p n)
theorem yS(h:Ax b)(hp:Aw b p)(acts:List As)(hn:n<b.An.toNat):Ux ⟨b,p,acts⟩ (n:Int)=some (Nt b p n):=by
 obtain⟨h1,h2,h3⟩:=Ahu h hp hn;obtain⟨h4,h5,h6⟩:=yJ h hp hn;unfold Ux;simp only[h1,h4,ab];rw[Az (by omega)];rfl
theorem Axf(h:Ax b)(hp:Aw b p)(hn:n<b.An.toNat):0<=Nt b p n/\Nt b p n<=800000:=by
 obtain⟨h1,h2,h3⟩:=Ahu h hp hn;obtain⟨h4,h5,h6⟩:=yJ h hp hn;unfold Nt;omega
def Ck(p:Ad)(L:List Int):Ad:=⟨p.Ai,p.Ae,L,p.Al⟩
def E_(p:Ad)(C:List Bool):Ad:=⟨C,p.Ae,p.Ao,p.Al⟩
def Hy(b:Aa)(p:Ad)(n:Nat)(c:Int):Int:=min (Nt b p n) (p.Ao.getD c.toNat 0-(b.Ag.getD c.toNat default).Least)
def Oy(b:Aa)(p:Ad)(n:Nat)(z:List Int×List As)(c:Int):List Int×List As:=
 if 0<Hy b (Ck p z.1) n c then (z.1.set c.toNat (z.1.getD c.toNat 0-Hy b (Ck p z.1) n c),z.2++[⟨5,c,z.1.getD c.toNat 0-Hy b (Ck p z.1) n c⟩]) else z
def Ji(b:Aa)(p:Ad)(n:Nat)(l:List Int)(z:List Int×List As):List Int×List As:=l.foldl (Oy b p n) z
theorem yD(hp:Aw b p){c:Nat}{v:Int}(hv:0<=v/\v<=(b.Ag.getD c default).Load):Aw b (Ck p (p.Ao.set c v)) where
 ncl:=hp.ncl
 nso:=hp.nso
 nli:=by simp[Ck,hp.nli]
 run:=hp.run
 lim i n x hn hx:=by
  simp only[Ck,aH]at hn;by_cases e:c=i
  ·grind
  ·rw[if_neg e]at hn;exact hp.lim i n x hn hx
 one:=hp.one
 brk:=hp.brk
theorem Aht(h:Ax b){z:List Int×List As}(hz:Aw b (Ck p z.1))(h0:0<=c)(h1:c<b.Ag.length):Aw b (Ck p (Oy b p n z c).1):=by
 unfold Oy;split
 ·rename_i hl;obtain⟨_,g2,g3,_⟩:=Ab9 h hz h0 h1;have hco:=(h.co c.toNat _ (Gb (b:=b) (i:=c.toNat) (by omega))).2.1;have hm:Hy b (Ck p z.1) n c<=z.1.getD c.toNat 0-(b.Ag.getD c.toNat default).Least:=Int.min_le_right _ _;exact yD (p:=Ck p z.1) hz (c:=c.toNat) ⟨by omega,by
   have:(Ck p z.1).Ao.getD c.toNat 0=z.1.getD c.toNat 0:=rfl;omega⟩
 ·exact hz
variable{l:List Int}
theorem Ab8(h:Ax b)(hp:Aw b p)(hl:∀c,c∈l->0<=c/\c<b.Ag.length)(ha:acts.length+l.length<=100000)(hn:n<b.An.toNat) :
  U2 ⟨b,p,acts⟩ l (n:Int)=some ⟨b,Ck p (Ji b p n l (p.Ao,acts)).1,(Ji b p n l (p.Ao,acts)).2⟩/\Aw b (Ck p (Ji b p n l (p.Ao,acts)).1)/\(Ji b p n l (p.Ao,acts)).2.length<=acts.length+l.length:=by
 have key : Ok (U2 ⟨b, p, acts⟩ l (n : Int)) λy => y = ⟨b, Ck p (Ji b p n l (p.Ao, acts)).1, (Ji b p n l (p.Ao, acts)).2⟩ /\ Aw b (Ck p (Ji b p n l (p.Ao, acts)).1) /\ (Ji b p n l (p.Ao, acts)).2.length <= acts.length + l.length := by
  unfold U2;refine Ok.andThen (A:=λs=>s=Ji b p n l (p.Ao,acts)/\Aw b (Ck p s.1)/\s.2.length<=acts.length+l.length) (B:=λ(_:Unit)=>False) ?_ (λs hs=>?_) (λ_ h=>h.elim)
  ·refine c8 (I:=λj s=>s=Ji b p n (l.take j) (p.Ao,acts)/\Aw b (Ck p s.1)/\s.2.length<=acts.length+j) ⟨rfl,hp,by simp⟩ (λj c s hc hI=>?_) λs hI=>?_
   ·obtain⟨h1,h2,h3⟩:=hI;have hj:j<l.length:=(aa.1 hc).1;have hin:=hl c (af hc);obtain⟨g1,g2,g3,g4⟩:=Ab9 h h2 hin.1 hin.2;have hco:=(h.co c.toNat _ (Gb (b:=b) (i:=c.toNat) (by omega))).2.1;have hcl:=(h.co c.toNat _ (Gb (b:=b) (i:=c.toNat) (by omega))).1;have hex:=Axf h h2 hn;have hE:=yS h h2 s.2 hn;have hsucc:Ji b p n (l.take (j+1)) (p.Ao,acts)=Oy b p n s c:=by
     rw[Bs hc,h1];unfold Ji;rw[aY];rfl
    have hok:=Aht (n:=n) h h2 hin.1 hin.2;have hless:w64 ((Ck p s.1).Ao.getD c.toNat 0-(b.Ag.getD c.toNat default).Least)=(Ck p s.1).Ao.getD c.toNat 0-(b.Ag.getD c.toNat default).Least:=Az (by omega);have hlen:s.1.length=b.Ag.length:=h2.nli;unfold zZ;refine Ok.bind (P:=λy=>y=Nt b (Ck p s.1) n) (cT hE rfl) λy hy=>?_;subst hy;refine Ok.bind (P:=λy=>y=(Ck p s.1).Ao.getD c.toNat 0) (cT g1 rfl) λy hy=>?_;subst hy;refine Ok.bind (P:=λy=>y=b.Ag.getD c.toNat default) (cT (A46 hin.1 hin.2) rfl) λy hy=>?_;subst hy;have em:min (Nt b (Ck p s.1) n) (w64 ((Ck p s.1).Ao.getD c.toNat 0-(b.Ag.getD c.toNat default).Least))=Hy b (Ck p s.1) n c:=by rw[hless];rfl
    have hlb:0<Hy b (Ck p s.1) n c->0<=(Ck p s.1).Ao.getD c.toNat 0-Hy b (Ck p s.1) n c/\(Ck p s.1).Ao.getD c.toNat 0-Hy b (Ck p s.1) n c<=50000:=λhh=>by
     have hm:Hy b (Ck p s.1) n c<=(Ck p s.1).Ao.getD c.toNat 0-(b.Ag.getD c.toNat default).Least:=Int.min_le_right _ _;omega
    refine c6 (λhq=>?_) (λhq=>?_)
    ·simp only[Xn,em,dA,gt_iff_lt]at hq;have hb2:=hlb hq;rw[em,Az (by omega)];have eS:Oy b p n s c=(s.1.set c.toNat (s.1.getD c.toNat 0-Hy b (Ck p s.1) n c),s.2++[⟨5,c,s.1.getD c.toNat 0-Hy b (Ck p s.1) n c⟩]):=by unfold Oy;rw[if_pos hq]
     refine(cV hin.1 (by omega)).bind λy hy=>?_;subst hy;refine Ok.bind (P:=λv=>v=s.1.getD c.toNat 0-Hy b (Ck p s.1) n c) ?_ λv hv=>?_
     ·refine(cR hin.1 (by rw[bm];omega)).mono λv hv=>?_;rw[bH (by omega)]at hv;cases hv;rfl
     ·subst hv;refine(cS (by simp;omega)).bind λw hw=>c7 ?_;subst hw;rw[hsucc,eS];rw[eS]at hok;exact⟨rfl,hok,by simp;omega⟩
    ·simp only[Xn,em,dC,gt_iff_lt]at hq;have eS:Oy b p n s c=s:=by unfold Oy;rw[if_neg hq]
     refine c7 ?_;rw[hsucc,eS];exact⟨rfl,h2,by show s.2.length<=_;omega⟩
   ·rw[aP]at hI;exact hI
  ·obtain⟨h1,h2,h3⟩:=hs;subst h1;exact Ok.pure ⟨rfl,h2,h3⟩
 obtain⟨r,e,h1,h2⟩:=key;rw[h1]at e;exact⟨e,h2⟩
def isC(c:Int)(x:Ak):Bool:=x.Kind==3&&x.B==c
theorem Anj(h:Ax b)(hp:Aw b p)(ha:acts.length<=100000)(c:Int):Zo ⟨b,p,acts⟩ c=some (⟨b,E_ p (acC b p.Ai (isC c)),acts++acA b p.Ai (isC c)⟩,c):=by
 have hbl:=h.brl;have hnc:=hp.ncl;refine cY ?_;unfold Zo;refine Ok.andThen (A:=λs=>s=Ea b p.Ai (isC c) b.Ah.length) (B:=λ(_:Unit)=>False) ?_ (λs hs=>?_) (λ_ h=>h.elim)
 ·refine c8 (I:=λj s=>s=Ea b p.Ai (isC c) j) rfl (λj x s hx hs=>?_) λs hs=>hs;have hj:j<b.Ah.length:=(aa.1 hx).1;have hfl:=He b p.Ai (isC c) j;have hfs:=Rj (C:=p.Ai) (q:=isC c) hx;subst hs;unfold Aaa;rw[Cv (by omega),B1 (Ui hp hj)];simp only[ab];have e:Afc x c=isC c x:=rfl;rw[e,hfs];cases (p.Ai.getD j false&&isC c x) with
  |false=>refine c7 ?_;simp
  |true=>
   refine Ok.bind (P:=λy=>y=Ea b p.Ai (isC c) j++[(j:Int)]) (cS (by simp;omega)) λy hy=>c7 ?_;rw[hy];simp
 ·subst hs;have hfl:=He b p.Ai (isC c) b.Ah.length;refine Ok.andThen (W8 (b:=b) (p:=p) (acts:=acts) (l:=Ea b p.Ai (isC c) b.Ah.length) (by omega) λi hi=>?_) (λs hs=>?_) (λ_ h=>h.elim)
  ·obtain⟨k,rfl,hk,_⟩:=Ms.1 hi;omega
  ·subst hs;exact Ok.pure rfl
def N6(b:Aa)(p:Ad)(n:Nat)(z:List Bool×List As)(c:Int):List Bool×List As:=
 if 0<p.Ao.getD c.toNat 0/\0<Nt b (E_ p z.1) n then (acC b z.1 (isC c),z.2++acA b z.1 (isC c)) else z
def Gz(b:Aa)(p:Ad)(n:Nat)(l:List Int)(z:List Bool×List As):List Bool×List As:=l.foldl (N6 b p n) z
theorem Ahf(h:Ax b)(hp:Aw b p)(hl:∀c,c∈l->0<=c/\c<b.Ag.length)(ha:acts.length+24*l.length<=100000)(hn:n<b.An.toNat) :
  U1 ⟨b,p,acts⟩ l (n:Int)=some ⟨b,E_ p (Gz b p n l (p.Ai,acts)).1,(Gz b p n l (p.Ai,acts)).2⟩/\Aw b (E_ p (Gz b p n l (p.Ai,acts)).1)/\(Gz b p n l (p.Ai,acts)).2.length<=acts.length+24*l.length:=by
 have hbl:=h.brl
 have key : Ok (U1 ⟨b, p, acts⟩ l (n : Int)) λy => y = ⟨b, E_ p (Gz b p n l (p.Ai, acts)).1, (Gz b p n l (p.Ai, acts)).2⟩ /\ Aw b (E_ p (Gz b p n l (p.Ai, acts)).1) /\ (Gz b p n l (p.Ai, acts)).2.length <= acts.length + 24 * l.length := by
  unfold U1;refine Ok.andThen (A:=λs=>∃z:List Bool×List As,s=(b.An,b.Ah,b.Ae,b.Ag,b.Phase,b.Ar,z.1,p.Ae,p.Ao,p.Al,z.2)/\z=Gz b p n l (p.Ai,acts)/\Aw b (E_ p z.1)/\z.2.length<=acts.length+24*l.length) (B:=λ(_:Unit)=>False) ?_ (λs hs=>?_) (λ_ h=>h.elim)
  ·refine c8 (I:=λj s=>∃z:List Bool×List As,s=(b.An,b.Ah,b.Ae,b.Ag,b.Phase,b.Ar,z.1,p.Ae,p.Ao,p.Al,z.2)/\z=Gz b p n (l.take j) (p.Ai,acts)/\Aw b (E_ p z.1)/\z.2.length<=acts.length+24*j) ⟨(p.Ai,acts),rfl,rfl,hp,by simp⟩ (λj c s hc hI=>?_) λs hI=>?_
   ·obtain⟨z,h0,h1,h2,h3⟩:=hI;subst h0;have hj:j<l.length:=(aa.1 hc).1;have hin:=hl c (af hc);obtain⟨g1,g2,g3,g4⟩:=Ab9 h hp hin.1 hin.2;have hE:=yS h h2 z.2 hn;have hsucc:Gz b p n (l.take (j+1)) (p.Ai,acts)=N6 b p n z c:=by
     rw[Bs hc,h1];unfold Gz;rw[aY];rfl
    unfold zY;refine Ok.bind (P:=λy=>y=p.Ao.getD c.toNat 0) (cT g1 rfl) λy hy=>?_;subst hy;have stay:¬(0<p.Ao.getD c.toNat 0/\0<Nt b (E_ p z.1) n)->∃w:List Bool×List As,(b.An,b.Ah,b.Ae,b.Ag,b.Phase,b.Ar,z.1,p.Ae,p.Ao,p.Al,z.2)=(b.An,b.Ah,b.Ae,b.Ag,b.Phase,b.Ar,w.1,p.Ae,p.Ao,p.Al,w.2)/\w=Gz b p n (l.take (j+1)) (p.Ai,acts)/\Aw b (E_ p w.1)/\w.2.length<=acts.length+24*(j+1):=λhh=>by
     have eS:N6 b p n z c=z:=by unfold N6;rw[if_neg hh]
     exact⟨z,rfl,by rw[hsucc,eS],h2,by omega⟩
    cases hq:decide (p.Ao.getD c.toNat 0>0) with
    |false=>
     simp only[dC]at hq;exact c7 (stay λhh=>hq hh.1)
    | true=>
     simp only[dA]at hq;refine Ok.bind (P:=λy=>y=Nt b (E_ p z.1) n) (cT hE rfl) λy hy=>?_;subst hy;cases hq2:decide (Nt b (E_ p z.1) n>0) with
     |false=>
      simp only[dC]at hq2;exact c7 (stay λhh=>hq2 hh.2)
     |true=>
      simp only[dA]at hq2;have hS:=Anj h h2 (acts:=z.2) (by omega) c;refine Ok.bind (P:=λy=>y=_) (cT hS rfl) λy hy=>c7 ?_;subst hy;have eS:N6 b p n z c=(acC b z.1 (isC c),z.2++acA b z.1 (isC c)):=by unfold N6;rw[if_pos ⟨hq,hq2⟩]
      refine⟨(acC b z.1 (isC c),z.2++acA b z.1 (isC c)),rfl,by rw[hsucc,eS],Aee h2 (isC c),?_⟩;have:=V5 b z.1 (isC c);grind
   ·rw[aP]at hI;exact hI
  ·obtain⟨z,h0,h1,h2,h3⟩:=hs;subst h0;subst h1;exact Ok.pure ⟨rfl,h2,h3⟩
 obtain⟨r,e,h1,h2⟩:=key;rw[h1]at e;exact⟨e,h2⟩
def Ik(x:Aq)(c:Int):Bool:=x.Ag.any (c == ·)
theorem Avk(hx:x.Ag.length<=1000)(c:Int):U3 c x=some (!Ik x c):=by
 unfold U3;rw[Ga _ _ (by omega)];rfl
theorem yX{x:Aq}(hx:x.Ag.length<=1000):∀(l:List Int)(k:Nat),foldI (U_ x) l k ()=match l.findIdx? λc=>!Ik x c with
  |some j=>some (.ret (cnt 0 (k+j),x))
  |none=>some (.next ())
 | [],_=>rfl
 | c::l,k=>by
  simp only[foldI,U_,Avk hx,ab,List.findIdx?_cons];cases hq:(!Ik x c) with
  |true=>rfl
  | false=>
   simp only[cond_false,bC,if_false];rw[yX hx l (k+1)];cases l.findIdx? λc=>!Ik x c with
   |none=>rfl
   |some j=>
    have e:k+1+j=k+(j+1):=by omega
    simp only[aT,e]
theorem Axh(hx:x.Ag.length<=1000)(l:List Int)(hl:l.length<=1000):U5 l x=some (l.filter (Ik x),x):=by
 refine cY ?_;unfold U5 Afo;rw[yX hx];cases hf:l.findIdx? λc=>!Ik x c with
 | none=>
  rw[cP]at hf;refine Ok.pure ?_;have:l.filter (Ik x)=l:=by
   rw[cm];intro c hc;have:=hf c hc;simpa using this
  rw[this]
 | some i=>
  rw[cw]at hf;obtain⟨hi,hp,hn⟩:=hf;have e0:cnt 0 (0+i)=(i:Int):=by rw[aF];exact Cv (by omega)
  simp only[e0,andThen,ab];refine c6 (λhc=>?_) (λ_=>?_)
  ·simp only[dD]at hc;omega
  have e1:w64 ((i:Int)+1)=(i:Int)+1:=Az (by omega);rw[e1];refine Ok.andThen (A:=λs=>0<=s.1/\s.1<=(l.length:Int)/\s.2.2.length=l.length/\s.2.2.take s.1.toNat=l.filter (Ik x)) (B:=λ(_:Unit)=>False) ?_ ?_ (λ_ h=>h.elim)
  ·refine cQ (λs=>(0<=s.1/\s.1<s.2.1/\s.2.1<=(l.length:Int))/\s.2.2.length=l.length/\s.2.2.take s.1.toNat=(l.take s.2.1.toNat).filter (Ik x)/\s.2.2.drop s.2.1.toNat=l.drop s.2.1.toNat) (λs=>((l.length:Int)-s.2.1).toNat) _ _ ?_ ?_ ?_
   ·refine⟨by dsimp only;omega,rfl,?_,rfl⟩;dsimp only;have e2:((i:Int)+1).toNat=i+1:=by omega
    rw[e2,aI,Bs (aj hi),bp];have h1:(l.take i).filter (Ik x)=l.take i:=by
     rw[cm];intro c hc;obtain⟨j,hj,rfl⟩:=cg hc;simp only[aV]at hj;rw[List.getElem_take];have:=hn j (by omega);simpa using this
    have h2:Ik x l[i]=false:=by simpa using hp
    rw[h1];simp[h2]
   ·dsimp only;omega
   ·rintro⟨a,j,m⟩ ⟨⟨h1,h2,h3⟩,h4,h5,h6⟩;dsimp only at h1 h2 h3 h4 h5 h6;unfold U4 Adr;dsimp only;refine c6 (λhq=>?_) (λhq=>?_)
    ·simp only[dA]at hq;have e1:w64 (j+1)=j+1:=Az (by omega);have e2:w64 (a+1)=a+1:=Az (by omega);have e3:(j+1).toNat=j.toNat+1:=by omega
     have e4:(a+1).toNat=a.toNat+1:=by omega
     refine(cR (by omega) (by omega)).bind λy hy=>?_;have hyl:l[j.toNat]? = some y:=by
      have:=congrArg (·[0]?) h6;simp only[aw,bD]at this;rw[←this];exact hy
     have hdrop:∀(q:List Int),q.drop j.toNat=l.drop j.toNat->q.drop (j.toNat+1)=l.drop (j.toNat+1):=λq hq=>by
      rw[←bJ,hq,bJ]
     rw[Avk hx];simp only[ab,Bool.not_not];refine c6 (λhf=>?_) (λhf=>?_)
     ·refine(cR (by omega) (by omega)).bind λ_ _=>(cV (by omega) (by omega)).bind λz hz=>?_;rw[e1,e2];subst hz;refine c7 ⟨⟨by dsimp only;omega,by simpa using h4,?_,?_⟩,by dsimp only;omega⟩
      ·dsimp only;rw[e3,e4,Bs hyl,bp,←h5];rw[Bs (x:=y) (by rw[bH (by omega)])];simp[hf,List.take_set_of_le]
      ·dsimp only;rw[e3,List.drop_set_of_lt (by omega)];exact hdrop m h6
     ·rw[e1];refine c7 ⟨⟨by dsimp only;omega,h4,?_,?_⟩,by dsimp only;omega⟩
      ·dsimp only;rw[e3,Bs hyl,bp,←h5];simp[hf]
      ·dsimp only;rw[e3];exact hdrop m h6
    ·simp only[dC]at hq;have e:j.toNat=l.length:=by omega
     refine cU ⟨h1,by dsimp only;omega,h4,?_⟩;dsimp only;rw[h5,e,aP]
  ·rintro⟨a,j,m⟩ ⟨h1,h2,h3,h4⟩;dsimp only at h1 h2 h3 h4 ⊢;have hc:(Hf m a.toNat ((Int.toNat (m.length:Int))-a.toNat) (0:Int)).length=l.length:=by
    simp[Hf];omega
   refine(Ok.bndI h1 (by omega) (by omega)).bind λ_ _=>(Ok.bndI (by omega) h1 (by rw[hc];omega)).bind λ_ _=>Ok.pure ?_;rw[←h4];unfold Hf;rw[Nat.sub_zero,cI (by simp;omega),List.take_take,Nat.min_self]
def Jg(b:Aa)(x:Aq):List Int:=(Ov b).filter (Ik x)
theorem Pn(h:Ax b)(hc:c∈Jg b x):0<=c/\c<b.Ag.length:=Ay0 h (az.1 hc).1
theorem Abx(h:Ax b)(x:Aq):(Jg b x).length<=16:=by
 have h1:=bf (Ik x) (Ov b);have h2:=Aho h;have h3:=h.col;unfold Jg;omega
def Xo(x:Aq):Nat:=(x.An.headD 0).toNat
def Iu(b:Aa)(x:Aq)(z:Ad×List As):List Int×List As:=Ji b z.1 (Xo x) (Jg b x) (z.1.Ao,z.2)
def Q1(b:Aa)(x:Aq)(z:Ad×List As):List Bool×List As:=Gz b (Ck z.1 (Iu b x z).1) (Xo x) (Jg b x) (z.1.Ai,(Iu b x z).2)
def Nb(b:Aa)(z:Ad×List As)(x:Aq):Ad×List As:=
 if 0<x.Ae.length then (E_ (Ck z.1 (Iu b x z).1) (Q1 b x z).1,(Q1 b x z).2) else z
def Kd(b:Aa)(l:List Aq)(z:Ad×List As):Ad×List As:=l.foldl (Nb b) z
structure Aa7(b:Aa)(x:Aq):Prop where
 cons:x.Ag.length<=16
 ne:x.An≠[]
 bus:∀n,n∈x.An->0<=n/\n<b.An
theorem Aoi(h:Ax b)(hx:x∈Cc b p):Aa7 b x:=by
 have hcl:=h.col;unfold Cc at hx;obtain⟨h1,h2⟩:=az.1 hx;obtain⟨f,hf,rfl⟩:=ao.1 h1;have hc:(isl b p f).Ag.length<=b.Ag.length:=E8 _ _;refine⟨by omega,λe=>?_,λn hn=>?_⟩
 ·unfold Jn at h2;rw[e]at h2;simp at h2
 ·obtain⟨k,hk,rfl⟩:=ao.1 hn;have:=aZ.1 (az.1 hk).1;omega
theorem Ad7(hx:Aa7 b x):getI x.An 0=some ((Xo x:Nat):Int)/\Xo x<b.An.toNat:=by
 unfold Xo;cases hb:x.An with
 |nil=>exact absurd hb hx.ne
 |cons n l=>
  have:=hx.bus n (by rw[hb];exact ak);simp only[List.headD_cons];refine⟨?_,by omega⟩;have e:(n.toNat:Int)=n:=by omega
  rw[e];rfl
theorem Awi(h:Ax b)(hp:Aw b p)(ha:acts.length<=1000) :
  Va ⟨b,p,acts⟩=some ⟨b,(Kd b (Cc b p) (p,acts)).1,(Kd b (Cc b p) (p,acts)).2⟩/\Aw b (Kd b (Cc b p) (p,acts)).1/\(Kd b (Cc b p) (p,acts)).2.length<=10000:=by
 have hil:=Pp b p;have hbu:=h.buses;have hcl:=h.col;have hol:=Aho h;have key:Ok (Va ⟨b,p,acts⟩) λy=>y=⟨b,(Kd b (Cc b p) (p,acts)).1,(Kd b (Cc b p) (p,acts)).2⟩/\Aw b (Kd b (Cc b p) (p,acts)).1/\(Kd b (Cc b p) (p,acts)).2.length<=10000:=by
  unfold Va;simp only[(W7 h).1,ab];have hi:vO b p=some (Cc b p):=Kk h hp;refine Ok.bind (P:=λy=>y=Cc b p) (cT hi rfl) λy hy=>?_;subst hy;refine Ok.andThen (A:=λs=>∃z:Ad×List As,s=(b.An,b.Ah,b.Ae,b.Ag,b.Phase,b.Ar,z.1.Ai,z.1.Ae,z.1.Ao,z.1.Al,z.2)/\z=Kd b (Cc b p) (p,acts)/\Aw b z.1/\z.2.length<=10000) (B:=λ(_:Unit)=>False) ?_ (λs hs=>?_) (λ_ h=>h.elim)
  ·refine c8 (I:=λj s=>∃z:Ad×List As,s=(b.An,b.Ah,b.Ae,b.Ag,b.Phase,b.Ar,z.1.Ai,z.1.Ae,z.1.Ao,z.1.Al,z.2)/\z=Kd b ((Cc b p).take j) (p,acts)/\Aw b z.1/\z.2.length<=1000+400*j) ⟨(p,acts),rfl,rfl,hp,by simpa using ha⟩ (λj x s hx hI=>?_) λs hI=>?_
   ·obtain⟨z,h0,h1,h2,h3⟩:=hI;subst h0;have hj:j<(Cc b p).length:=(aa.1 hx).1;have hin:=Aoi h (af hx);have hsucc:Kd b ((Cc b p).take (j+1)) (p,acts)=Nb b z x:=by
     rw[Bs hx,h1];unfold Kd;rw[aY];rfl
    have hc:=hin.cons;have hol2:=Abx h x;obtain⟨e0,hb0⟩:=Ad7 hin;unfold Aag;have ecl:Pe (Ov b)=some (Ov b):=by
     unfold Pe;rw[G9 (by omega)]
    rw[ecl];simp only[ab];rw[Axh (by omega) _ (by omega)];simp only[ab];refine c6 (λhq=>?_) (λhq=>?_)
    ·simp only[dA]at hq;rw[e0];simp only[ab];obtain⟨l1,l2,l3⟩:=Ab8 h h2 (acts:=z.2) (l:=Jg b x) (λc hc=>Pn h hc) (by omega) hb0;refine Ok.bind (P:=λy=>y=_) (cT l1 rfl) λy hy=>?_;subst hy;obtain⟨t1,t2,t3⟩:=Ahf h l2 (acts:=(Iu b x z).2) (l:=Jg b x) (λc hc=>Pn h hc) (by unfold Iu;omega) hb0;refine Ok.bind (P:=λy=>y=_) (cT t1 rfl) λy hy=>c7 ?_;subst hy;have eS:Nb b z x=(E_ (Ck z.1 (Iu b x z).1) (Q1 b x z).1,(Q1 b x z).2):=by unfold Nb;rw[if_pos (by omega)]
     refine⟨(E_ (Ck z.1 (Iu b x z).1) (Q1 b x z).1,(Q1 b x z).2),rfl,by rw[hsucc,eS],t2,?_⟩;have t4:(Q1 b x z).2.length<=(Iu b x z).2.length+24*(Jg b x).length:=t3;have l4:(Iu b x z).2.length<=z.2.length+(Jg b x).length:=l3;show (Q1 b x z).2.length<=_;omega
    ·simp only[dC]at hq;have eS:Nb b z x=z:=by unfold Nb;rw[if_neg (by omega)]
     exact c7 ⟨z,rfl,by rw[hsucc,eS],h2,by omega⟩
   ·rw[aP]at hI;obtain⟨z,h0,h1,h2,h3⟩:=hI;exact⟨z,h0,h1,h2,by omega⟩
  ·obtain⟨z,h0,h1,h2,h3⟩:=hs;subst h0;subst h1;exact Ok.pure ⟨rfl,h2,h3⟩
 obtain⟨r,e,h1,h2⟩:=key;rw[h1]at e;exact⟨e,h2⟩
def Ayz(b:Aa)(p:Ad):Ad×List As:=Kd b (Cc b (Ug b p)) (Ug b p,Xj b p)
def W6(b:Aa)(p:Ad):Ad:=(Ayz b p).1
def Fx(b:Aa)(p:Ad):List As:=(Ayz b p).2
theorem Q4(h:Ax b)(hp:Aw b p):Amt b p=some (W6 b p,Fx b p,0)/\Aw b (W6 b p)/\(Fx b p).length<=10000:=by
 have hbl:=h.brl;have hcl:=Adk b p;obtain⟨s1,s2,s3⟩:=Awi h (Ah6 hp) (acts:=Xj b p) (by omega);refine⟨?_,s2,s3⟩;unfold Amt Afr Afq;rw[E4 h hp,Hg h hp];simp only[ab,dJ,cond_false];rw[Atq h hp];simp only[ab];rw[s1];rfl
theorem At9(h:Ax b){p:Am}(hp:Aw b p.Power)(h1:p.A_.length<=1000)(h2:p.Be.length<=10000000):Am2 b p=some ⟨p,b,[],[]⟩:=by
 unfold Am2 vU vT;rw[Hg h hp,G9 (by omega),G9 (by omega)];rfl
theorem Oj{α:Type}{f:Nat->α->Unit->Option (Ctl Unit Bool)}{l m:List α}{e:α->α->Bool}(he:∀x y,e x y=true->x=y)
  (hf:∀(j:Nat) x y,l[j]? = some x->m[j]? = some y->f j x ()=bif !e x y then some (.ret false) else some (.next ()))(hl:l.length=m.length) :
  Ok (andThen (foldI f l 0 ()) some λ_=>some true) λv=>v=true->l=m:=by
 refine Ok.andThen (A:=λ_=>l=m) (B:=λv=>v=false) ?_ (λ_ hs=>Ok.pure λ_=>hs) (λv hv=>Ok.pure λhh=>by rw[hv]at hh;cases hh);refine c8 (I:=λj _=>l.take j=m.take j) rfl (λj x _ hx hI=>?_) λ_ hI=>?_
 ·have hj:=(aa.1 hx).1;have hy:m[j]? = some (m[j]'(by omega)):=aj (by omega);rw[hf j x _ hx hy];refine c6 (λ_=>Ok.ret rfl) (λhq=>c7 ?_);have:=he _ _ (by simpa using hq);rw[Bs hx,Bs hy,hI,←this]
 grind
theorem Az1{l m:List Bool}(h:l.length<=1000):Ok (vN l m) λv=>v=true->l=m:=by
 unfold vN;refine c6 (λ_=>Ok.pure λhh=>by cases hh) (λhq=>?_);have hl:l.length=m.length:=by grind
 refine Oj (e:=λx y=>x==y) (λx y hh=>by simpa using hh) (λj x y hx hy=>?_) hl;have hj:=(aa.1 hx).1;unfold vM;rw[Cv (by omega),B1 hy];rfl
theorem Az0{m:List Int}(h:l.length<=1000):Ok (vJ l m) λv=>v=true->l=m:=by
 unfold vJ;refine c6 (λ_=>Ok.pure λhh=>by cases hh) (λhq=>?_);have hl:l.length=m.length:=by grind
 refine Oj (e:=λx y=>x==y) (λx y hh=>by simpa using hh) (λj x y hx hy=>?_) hl;have hj:=(aa.1 hx).1;unfold vI;rw[Cv (by omega),B1 hy];rfl
theorem Azy{l m:List Aj}(h:l.length<=1000):Ok (vL l m) λv=>v=true->l=m:=by
 unfold vL;refine c6 (λ_=>Ok.pure λhh=>by cases hh) (λhq=>?_);have hl:l.length=m.length:=by grind
 refine Oj (e:=λx y=>(x.State==y.State)&&((x.Since==y.Since)&&((x.Ar==y.Ar)&&((x.Phase==y.Phase)&&true)))) (λx y hh=>?_) (λj x y hx hy=>?_) hl
 ·simp only[ae,dD]at hh;obtain⟨h1,h2,h3,h4,_⟩:=hh;cases x;cases y;simp_all
 ·have hj:=(aa.1 hx).1;unfold vK;rw[Cv (by omega),B1 hy];rfl
variable{l:List Ab}
theorem Azz{m:List Ab}(h:l.length<=1000):Ok (vH l m) λv=>v=true->l=m:=by
 unfold vH;refine c6 (λ_=>Ok.pure λhh=>by cases hh) (λhq=>?_);have hl:l.length=m.length:=by grind
 refine Oj (e:=λx y=>(x.Kind==y.Kind)&&((x.Number==y.Number)&&true)) (λx y hh=>?_) (λj x y hx hy=>?_) hl
 ·simp only[ae,dD]at hh;obtain⟨h1,h2,_⟩:=hh;cases x;cases y;simp_all
 ·have hj:=(aa.1 hx).1;unfold vG;rw[Cv (by omega),B1 hy];rfl
def Lc(p q:Ad):Bool:=(F99 p q).getD false
theorem Ahj(hp:Aum p)(q:Ad):F99 p q=some (Lc p q)/\(Lc p q=true->p=q):=by
 have h1:=hp.c;have h2:=hp.s;have h3:=hp.l;have h4:=hp.k;have key:Ok (F99 p q) λv=>v=true->p=q:=by
  unfold F99;refine(Az1 (l:=p.Ai) (m:=q.Ai) (by omega)).bind λv1 e1=>?_;cases v1 with
  |false=>exact Ok.pure λhh=>by simp at hh
  | true=>
   refine Ok.bind (P:=λv=>v=true->p.Ae=q.Ae) (Azy (by omega)) λv2 e2=>?_;cases v2 with
   |false=>exact Ok.pure λhh=>by simp at hh
   | true=>
    refine Ok.bind (P:=λv=>v=true->p.Ao=q.Ao) (Az0 (by omega)) λv3 e3=>?_;cases v3 with
    |false=>exact Ok.pure λhh=>by simp at hh
    |true=>
     refine Ok.bind (P:=λv=>v=true->p.Al=q.Al) (Azz (by omega)) λv4 e4=>Ok.pure λhh=>?_;have w1:=e1 rfl;have w2:=e2 rfl;have w3:=e3 rfl;have w4:=e4 (by simpa using hh);cases p;cases q;simp_all
 obtain⟨r,e,hr⟩:=key;have:Lc p q=r:=by unfold Lc;rw[e];rfl
 rw[this];exact⟨e,hr⟩
def ap(p:Ad)(x:As):Ad:=if x.Kind=2 then E_ p (p.Ai.set x.Unit.toNat false) else Ck p (p.Ao.set x.Unit.toNat x.Value)
def Am8(b:Aa)(x:As):Prop:=(x.Kind=2/\0<=x.Unit/\x.Unit<b.Ah.length)\/(x.Kind=5/\(0<=x.Unit/\x.Unit<b.Ag.length)/\0<=x.Value/\x.Value<=(b.Ag.getD x.Unit.toNat default).Load)
theorem Av5(hp:Aw b p){x:As}(hx:Am8 b x):Aw b (ap p x):=by
 unfold ap;rcases hx with⟨hk,_⟩|⟨hk,h1,h2⟩
 ·rw[if_pos hk];exact Akd hp _
 ·rw[if_neg (by omega)];exact yD hp h2
def Fu(b:Aa)(p:Ad)(z:Ad×List As):Prop:=z.2.foldl ap p=⟨z.1.Ai,p.Ae,z.1.Ao,p.Al⟩/\∀x,x∈z.2->Am8 b x
theorem Aec{p q:Ad}:∀(l:List Int)(C:List Bool),q=E_ p C->(Mp l).foldl ap q=E_ p (I9 C l)
 | [],C,hq=>hq
 |i::l,C,hq=>by
  subst hq;exact Aec l (C.set i.toNat false) rfl
theorem jO(hz:Fu b p z)(q:Ak->Bool)(S:List Aj):Fu b p (⟨acC b z.1.Ai q,S,z.1.Ao,z.1.Al⟩,z.2++acA b z.1.Ai q):=by
 refine⟨?_,λx hx=>?_⟩
 ·dsimp only;rw[aY,hz.1];exact Aec (p:=⟨z.1.Ai,p.Ae,z.1.Ao,p.Al⟩) (Ea b z.1.Ai q b.Ah.length) z.1.Ai rfl
 ·rcases an.1 hx with hx|hx
  ·exact hz.2 x hx
  ·obtain⟨i,hi,rfl⟩:=ao.1 hx;obtain⟨k,rfl,hk,_⟩:=Ms.1 hi;exact .inl ⟨rfl,by dsimp only;omega,by dsimp only;omega⟩
theorem A3y{q r:Ad}{l:List As}(hz:Fu b p (q,l))(h1:r.Ai=q.Ai)(h2:r.Ao=q.Ao):Fu b p (r,l):=by
 refine⟨?_,hz.2⟩;have:=hz.1;grind
theorem Ang{b:Aa}(h:Ax b){p q:Ad}(n:Nat):∀(l:List Int)(z:List Int×List As),(∀c,c∈l->0<=c/\c<b.Ag.length)->Aw b (Ck q z.1)->Fu b p (Ck q z.1,z.2)->Fu b p (Ck q (Ji b q n l z).1,(Ji b q n l z).2)
 | [],_,_,_,hz=>hz
 | c :: l, z, hl, hs, hz => by
  have hin:=hl c ak;have hok:=Aht (n:=n) h hs hin.1 hin.2;refine Ang h n l (Oy b q n z c) (λd hd=>hl d (al _ hd)) hok ?_;unfold Oy at hok ⊢;split
  ·rename_i hq;rw[if_pos hq]at hok;obtain⟨_,w2,w3,_⟩:=Ab9 h hok hin.1 hin.2;have hlen:z.1.length=b.Ag.length:=hs.nli;have ev:∀v:Int,(z.1.set c.toNat v).getD c.toNat 0=v:=λv=>by grind
   have w2':0<=(z.1.set c.toNat (z.1.getD c.toNat 0-Hy b (Ck q z.1) n c)).getD c.toNat 0:=w2;have w3':(z.1.set c.toNat (z.1.getD c.toNat 0-Hy b (Ck q z.1) n c)).getD c.toNat 0<=(b.Ag.getD c.toNat default).Load:=w3;rw[ev]at w2' w3';refine⟨?_,λx hx=>?_⟩
   ·dsimp only;rw[aY,hz.1];rfl
   ·rcases an.1 hx with hx|hx
    ·exact hz.2 x hx
    ·simp only[aL]at hx;subst hx;exact .inr ⟨rfl,hin,w2',w3'⟩
  ·exact hz
theorem Ahg{b:Aa}{p q:Ad}(n:Nat):∀(l:List Int)(z:List Bool×List As),Fu b p (E_ q z.1,z.2)->Fu b p (E_ q (Gz b q n l z).1,(Gz b q n l z).2)
 | [],_,hz=>hz
 |c::l,z,hz=>by
  refine Ahg n l (N6 b q n z c) ?_;unfold N6;split
  ·exact jO (z:=(E_ q z.1,z.2)) hz (isC c) q.Ae
  ·exact hz
theorem Awm(h:Ax b)(hx:Aa7 b x)(hs:Aw b z.1)(ha:z.2.length<=10000)(hz:Fu b p z):Aw b (Nb b z x).1/\Fu b p (Nb b z x)/\(Nb b z x).2.length<=z.2.length+400:=by
 have hol2:=Abx h x;obtain⟨e0,hb0⟩:=Ad7 hx;unfold Nb;split
 ·obtain⟨_,l2,l3⟩:=Ab8 h hs (acts:=z.2) (l:=Jg b x) (λc hc=>Pn h hc) (by omega) hb0;obtain⟨_,t2,t3⟩:=Ahf h l2 (acts:=(Iu b x z).2) (l:=Jg b x) (λc hc=>Pn h hc) (by unfold Iu;omega) hb0;have t4:(Q1 b x z).2.length<=(Iu b x z).2.length+24*(Jg b x).length:=t3;have l4:(Iu b x z).2.length<=z.2.length+(Jg b x).length:=l3;refine⟨t2,?_,by dsimp only;omega⟩;have hl:Fu b p (Ck z.1 (Iu b x z).1,(Iu b x z).2):=Ang h (Xo x) (Jg b x) (z.1.Ao,z.2) (λc hc=>Pn h hc) hs hz;exact Ahg (Xo x) (Jg b x) (z.1.Ai,(Iu b x z).2) hl
 ·exact⟨hs,hz,by omega⟩
theorem Ahk{b:Aa}(h:Ax b){p:Ad}:∀(l:List Aq)(z:Ad×List As),(∀x,x∈l->Aa7 b x)->Aw b z.1->z.2.length+400*l.length<=10000->Fu b p z->Fu b p (Kd b l z)
 | [],_,_,_,_,hz=>hz
 |x::l,z,hl,hs,ha,hz=>by
  rw[aS]at ha;obtain⟨h1,h2,h3⟩:=Awm h (hl x ak) hs (by omega) hz;exact Ahk h l (Nb b z x) (λy hy=>hl y (al _ hy)) h1 (by omega) h2
theorem A0x(p:Ad):Fu b p (Ug b p,Xj b p):=by
 have h0:Fu b p (p,[]):=⟨rfl,λx hx=>by cases hx⟩;have h1:=jO h0 (Ez p) p.Ae;have h2:=jO h1 (Gu b (Uh b p)) p.Ae;exact A3y h2 rfl rfl
theorem Ayy(h:Ax b)(hp:Aw b p):Fu b p (W6 b p,Fx b p):=by
 have hil:=Pp b (Ug b p);have hbu:=h.buses;have hbl:=h.brl;have hcl:=Adk b p;exact Ahk h (Cc b (Ug b p)) (Ug b p,Xj b p) (λx hx=>Aoi h hx) (Ah6 hp) (by dsimp only;omega) (A0x p)
def Gq:List As->Ad->List Ad
 | [],_=>[]
 |x::l,p=>ap p x::Gq l (ap p x)
theorem Of:∀(l:List As)(p:Ad),(Gq l p).length=l.length
 | [],_=>rfl
 |x::l,p=>by simp[Gq,Of l]
theorem Ye:∀(l:List As)(x:As)(p:Ad),Gq (l++[x]) p=Gq l p++[ap (l.foldl ap p) x]
 | [],_,_=>rfl
 |y::l,x,p=>by
  show ap p y::Gq (l++[x]) (ap p y)=_;rw[Ye l x];rfl
def Ch(b:Aa)(p:Ad)(t:Int)(a:As):Ad×Int:=(vE b p t a).getD default
theorem Aif(h:Ax b)(hp:Aw b p)(t:Int)(a:As):vE b p t a=some (Ch b p t a)/\((Ch b p t a).2≠0\/Aw b (Ch b p t a).1):=by
 grind[Ok,Ch,A1z]
def O3(b:Aa)(p:Ad)(t:Int)(a:As):Int:=if a.Kind=7 then 1 else (Ch b p t a).2
def Ni(b:Aa)(p:Ad)(t:Int)(a:As):Ad:=(Ch b p t a).1
def doP(b:Aa)(p:Ad)(t:Int)(a:As):Ad:=if O3 b p t a=0 then W6 b (Ni b p t a) else p
def doE(b:Aa)(p:Ad)(t:Int)(a:As):List Bq:=⟨t,a,O3 b p t a⟩::if O3 b p t a=0 then (Fx b (Ni b p t a)).map (λx=>⟨t,x,0⟩) else []
def Q9(b:Aa)(p:Ad)(t:Int)(a:As):Ad:=(Fx b (Ni b p t a)).foldl ap (Ni b p t a)
def doS(b:Aa)(p:Ad)(t:Int)(a:As):List Ad:=
 if O3 b p t a=0 then [Ni b p t a]++Gq (Fx b (Ni b p t a)) (Ni b p t a)++(if Lc (Q9 b p t a) (doP b p t a)=true then [] else [doP b p t a]) else []
theorem Ada(h:Ax b)(hp:Aw b p){t:Int}{a:As}(he:O3 b p t a=0):Aw b (Ni b p t a)/\(Ch b p t a).2=0/\a.Kind≠7:=by
 unfold O3 at he;by_cases hk:a.Kind=7
 ·rw[if_pos hk]at he;omega
 ·rw[if_neg hk]at he;rcases(Aif h hp t a).2 with h1|h1
  ·exact absurd he h1
  ·exact⟨h1,he,hk⟩
theorem Apc(h:Ax b)(hp:Aw b p)(t:Int)(a:As):Aw b (doP b p t a):=by
 unfold doP;split
 ·rename_i he;exact(Q4 h (Ada h hp he).1).2.1
 ·exact hp
theorem Rb(h:Ax b)(hp:Aw b p)(h1:r.states.length<=10000000):N5 r p=some ⟨r.Bi,r.Ap,r.events,r.states++[p]⟩:=by
 refine cY ?_;unfold N5;rw[Hg h hp];simp only[ab];exact(cS (by simp;omega)).bind λs hs=>Ok.pure (by rw[hs])
theorem Ahq(h1:r.events.length<=10000000)(a:As)(e:Int):Vd r a e=some ⟨r.Bi,r.Ap,r.events++[⟨r.Bi.Time,a,e⟩],r.states⟩:=by
 refine cY ?_;unfold Vd;exact(cS (by simp;omega)).bind λs hs=>Ok.pure (by rw[hs])
theorem jV{b:Aa}:∀(l:List As){p:Ad},Aw b p->(∀x,x∈l->Am8 b x)->Aw b (l.foldl ap p)
 | [],_,hp,_=>hp
 |x::l,p,hp,hl=>jV l (Av5 hp (hl x ak)) λy hy=>hl y (al _ hy)
theorem A3e(h:Ax b){T:Int}{ros:List A8}{evs ev:List Bq}{sts:List Ad}(hp:Aw b P)(h1:ev.length<=1000000)(h2:sts.length<=1000000)(a:As) :
  jA ⟨⟨T,P,ros,evs⟩,b,ev,sts⟩ a=some ⟨⟨T,doP b P T a,ros,evs⟩,b,ev++doE b P T a,sts++doS b P T a⟩:=by
 obtain⟨ha,_⟩:=Aif h hp T a;refine cY ?_;unfold jA;simp only[ha,ab];refine Ok.andThen (A:=λs=>s=O3 b P T a) (B:=λ(_:Unit)=>False) ?_ (λs hs=>?_) (λ_ h=>h.elim)
 ·unfold Aan O3;refine c6 (λhq=>cZ ?_) (λhq=>cZ ?_)
  ·rw[if_pos (by simpa using hq)]
  ·rw[if_neg (by simpa using hq)]
 subst hs;rw[Ahq (by dsimp only;omega)];simp only[ab];refine c6 (λhq=>Ok.pure ?_) (λhq=>?_)
 ·have he:¬O3 b P T a=0:=by simpa using hq
  unfold doP doE doS;rw[if_neg he,if_neg he,if_neg he];simp
 have he:O3 b P T a=0:=by simpa using hq
 obtain⟨hn,_,_⟩:=Ada h hp he;have hn':Aw b (Ch b P T a).1:=hn;rw[Rb h hn' (by dsimp only;omega)];simp only[ab];obtain⟨p1,p2,p3⟩:=Q4 h hn';rw[p1];simp only[ab];have htr:=Ayy h hn';have eP:doP b P T a=W6 b (Ch b P T a).1:=by unfold doP Ni;rw[if_pos he]
 have eE:doE b P T a=⟨T,a,0⟩::(Fx b (Ch b P T a).1).map (λx=>⟨T,x,0⟩):=by unfold doE Ni;rw[if_pos he,he]
 have eL:Q9 b P T a=(Fx b (Ch b P T a).1).foldl ap (Ch b P T a).1:=rfl;refine Ok.andThen (A:=λs=>∃q:Ad,q=Q9 b P T a/\s=(T,b.An,b.Ah,b.Ae,b.Ag,b.Phase,b.Ar,P.Ai,P.Ae,P.Ao,P.Al,ros,evs,q.Ai,ev++doE b P T a,sts++([(Ch b P T a).1]++Gq (Fx b (Ch b P T a).1) (Ch b P T a).1),q.Ao)) (B:=λ(_:Unit)=>False) ?_ (λs hs=>?_) (λ_ h=>h.elim)
 ·refine c8 (I:=λj s=>∃q:Ad,q=((Fx b (Ch b P T a).1).take j).foldl ap (Ch b P T a).1/\(q.Ae=(Ch b P T a).1.Ae/\q.Al=(Ch b P T a).1.Al)/\s=(T,b.An,b.Ah,b.Ae,b.Ag,b.Phase,b.Ar,P.Ai,P.Ae,P.Ao,P.Al,ros,evs,q.Ai,ev++(⟨T,a,0⟩::((Fx b (Ch b P T a).1).take j).map (λx=>(⟨T,x,0⟩:Bq))),sts++([(Ch b P T a).1]++Gq ((Fx b (Ch b P T a).1).take j) (Ch b P T a).1),q.Ao)) ⟨(Ch b P T a).1,rfl,⟨rfl,rfl⟩,?_⟩ (λj x s hx hI=>?_) λs hI=>?_
  ·simp[Gq,he]
  ·obtain⟨q,hq1,⟨hq2,hq3⟩,rfl⟩:=hI;have hj:j<(Fx b (Ch b P T a).1).length:=(aa.1 hx).1;have hin:=htr.2 x (af hx);have hqok:Aw b q:=by
    rw[hq1];exact jV _ hn' λy hy=>htr.2 y (bx hy)
   have hapok:=Av5 hqok hin;have hcl:=hqok.ncl;have hli:=hqok.nli;unfold Aao;refine Ok.bind (P:=λy=>y=_) (cT (Ahq (r:=⟨⟨T,P,ros,evs⟩,b,ev++(⟨T,a,0⟩::((Fx b (Ch b P T a).1).take j).map (λx=>(⟨T,x,0⟩:Bq))),sts++([(Ch b P T a).1]++Gq ((Fx b (Ch b P T a).1).take j) (Ch b P T a).1)⟩) (by simp;omega) x 0) rfl) λy hy=>?_;subst hy;have hfold:((Fx b (Ch b P T a).1).take (j+1)).foldl ap (Ch b P T a).1=ap q x:=by rw[Bs hx,aY,←hq1];rfl
   have hint:Gq ((Fx b (Ch b P T a).1).take (j+1)) (Ch b P T a).1=Gq ((Fx b (Ch b P T a).1).take j) (Ch b P T a).1++[ap q x]:=by rw[Bs hx,Ye,←hq1]
   refine c6 (λhk=>?_) (λhk=>?_)
   ·have hk2:x.Kind=2:=by simpa using hk
    have hx1:0<=x.Unit/\x.Unit<b.Ah.length:=by
     rcases hin with⟨_,h3⟩|⟨h3,_⟩
     ·exact h3
     ·omega
    have eA:ap q x=⟨q.Ai.set x.Unit.toNat false,(Ch b P T a).1.Ae,q.Ao,(Ch b P T a).1.Al⟩:=by
     unfold ap;rw[if_pos hk2,←hq2,←hq3];rfl
    refine(cR (l:=q.Ai) hx1.1 (by omega)).bind λ_ _=>(cV (l:=q.Ai) hx1.1 (by omega)).bind λC hC=>?_;subst hC;refine Ok.bind (P:=λy=>y=_) (cT (Rb h (r:=⟨⟨T,P,ros,evs⟩,b,(ev++(⟨T,a,0⟩::((Fx b (Ch b P T a).1).take j).map (λx=>(⟨T,x,0⟩:Bq))))++[⟨T,x,0⟩],sts++([(Ch b P T a).1]++Gq ((Fx b (Ch b P T a).1).take j) (Ch b P T a).1)⟩) (p:=⟨q.Ai.set x.Unit.toNat false,(Ch b P T a).1.Ae,q.Ao,(Ch b P T a).1.Al⟩) (by rw[←eA];exact hapok) (by simp[Of];omega)) rfl) λy hy=>c7 ?_;subst hy;refine⟨ap q x,hfold.symm,by rw[eA];exact⟨rfl,rfl⟩,?_⟩;rw[hint,eA,Bs hx];simp
   ·have hk2:¬x.Kind=2:=by simpa using hk
    have hx1:0<=x.Unit/\x.Unit<b.Ag.length:=by
     rcases hin with⟨h3,_⟩|⟨_,h3,_⟩
     ·omega
     ·exact h3
    have eA:ap q x=⟨q.Ai,(Ch b P T a).1.Ae,q.Ao.set x.Unit.toNat x.Value,(Ch b P T a).1.Al⟩:=by
     unfold ap;rw[if_neg hk2,←hq2,←hq3];rfl
    refine(cR (l:=q.Ao) hx1.1 (by omega)).bind λ_ _=>(cV (l:=q.Ao) hx1.1 (by omega)).bind λC hC=>?_;subst hC;refine Ok.bind (P:=λy=>y=_) (cT (Rb h (r:=⟨⟨T,P,ros,evs⟩,b,(ev++(⟨T,a,0⟩::((Fx b (Ch b P T a).1).take j).map (λx=>(⟨T,x,0⟩:Bq))))++[⟨T,x,0⟩],sts++([(Ch b P T a).1]++Gq ((Fx b (Ch b P T a).1).take j) (Ch b P T a).1)⟩) (p:=⟨q.Ai,(Ch b P T a).1.Ae,q.Ao.set x.Unit.toNat x.Value,(Ch b P T a).1.Al⟩) (by rw[←eA];exact hapok) (by simp[Of];omega)) rfl) λy hy=>c7 ?_;subst hy;refine⟨ap q x,hfold.symm,by rw[eA];exact⟨rfl,rfl⟩,?_⟩;rw[hint,eA,Bs hx];simp
  ·obtain⟨q,hq1,_,rfl⟩:=hI;rw[aP]at hq1 ⊢;exact⟨q,hq1,by rw[eE]⟩
 ·obtain⟨q,hq,rfl⟩:=hs;have hqok:Aw b q:=by rw[hq,eL];exact jV _ hn' htr.2
  have hqS:q=⟨q.Ai,(Ch b P T a).1.Ae,q.Ao,(Ch b P T a).1.Al⟩:=by
   have h3:=htr.1;rw[←eL,←hq]at h3;rw[h3]
  have hsm:=Ahj (hqok.lens h) (W6 b (Ch b P T a).1);have hsm1:=hsm.1;rw[hqS]at hsm1;have e6:Lc ⟨q.Ai,(Ch b P T a).1.Ae,q.Ao,(Ch b P T a).1.Al⟩ (W6 b (Ch b P T a).1)=Lc (Q9 b P T a) (doP b P T a):=by rw[←hqS,hq,eP]
  refine Ok.bind (P:=λy=>y=Lc (Q9 b P T a) (doP b P T a)) (cT hsm1 e6) λy hy=>?_;subst hy;have eD:doS b P T a=[(Ch b P T a).1]++Gq (Fx b (Ch b P T a).1) (Ch b P T a).1++(if Lc (Q9 b P T a) (doP b P T a)=true then [] else [doP b P T a]):=by unfold doS Ni;rw[if_pos he]
  cases hsb:Lc (Q9 b P T a) (doP b P T a) with
  |false=>
   rw[hsb]at eD;refine Ok.bind (P:=λy=>y=_) (cT (Rb h (r:=⟨⟨T,P,ros,evs⟩,b,ev++doE b P T a,sts++([(Ch b P T a).1]++Gq (Fx b (Ch b P T a).1) (Ch b P T a).1)⟩) p2 (by simp[Of];omega)) rfl) λy hy=>Ok.pure ?_;subst hy;rw[eD,eP];simp
  |true=>
   rw[hsb]at eD;refine Ok.pure ?_;rw[eD,eP];simp
set_option linter.unusedVariables false
theorem Aw0(hs:A1 s):Ok (uZ s) λy=>A1 y.2:=by
 unfold uZ;refine(Ok.mkI (by omega) (by omega)).bind λl hl=>?_;subst hl;refine Ok.andThen (A:=λz=>A1 ⟨z.1,z.2.1⟩) (B:=λ(_:Unit)=>False) ?_ (λz hz=>Ok.pure hz) (λ_ h=>h.elim);refine c8 (I:=λ_ z=>A1 ⟨z.1,z.2.1⟩/\z.2.2.length=12) ⟨hs,by simp⟩ (λj x z hx hz=>?_) λz hz=>hz.1;have hj:=(aa.1 hx).1;simp only[List.length_replicate]at hj;have hj2:j<12:=hj;unfold Ai2;rw[Cv (by omega)];refine(Ct hz.1 _ (by simp) (by simp)).bind λy hy=>(cR (by omega) (by omega)).bind λ_ _=>(cV (by omega) (by omega)).bind λw hw=>c7 ⟨hy.1,?_⟩;rw[hw,bm];exact hz.2
theorem Xg(hs:A1 s):Ok (vP s) λy=>A1 y.2:=by
 grind[vP,Ok.bind,Aw0,Ok.pure]
theorem pick(hs:A1 s)(l:List Int)(h:1<=l.length)(h1:l.length<=1000):Ok (F20 s l) λy=>A1 y.2:=(Ct hs l h h1).mono λ_ h=>h.1
theorem Aw9(hs:A1 s):Ok (F82 s) λy=>A1 y.2:=by
 unfold F82;exact(Xg hs).bind λa ha=>(Xg ha).bind λb hb=>(Xg hb).bind λc hc=>(pick hc _ (by simp) (by simp)).bind λd hd=>(pick hd _ (by simp) (by simp)).bind λe he=>(pick he _ (by simp) (by simp)).bind λf hf=>(pick hf _ (by simp) (by simp)).bind λg hg=>Ok.pure hg
theorem Awo(hs:A1 s){n:Int}(hn:0<=n/\n<=8):Ok (F86 s n) λy=>A1 y.2:=by
 unfold F86;rw[Az (by omega)];refine(C9 hs (n+1) (by omega) (by omega)).bind λk hk=>?_;refine Ok.andThen (A:=λz=>A1 ⟨z.2.1,z.2.2.1⟩) (B:=λ(_:Unit)=>False) ?_ (λz hz=>Ok.pure hz) (λ_ h=>h.elim);have hk2:=hk.2;refine cQ (λz=>(0<=z.1/\z.1+(z.2.2.2.length:Int)<=n)/\A1 ⟨z.2.1,z.2.2.1⟩) (λz=>z.1.toNat) _ _ ⟨by simp;omega,hk.1⟩ (by dsimp only;omega) ?_;rintro⟨k,L,a,l⟩ ⟨⟨h1,h2⟩,h3⟩;dsimp only at h1 h2 h3;unfold Aqx Au7;refine c6 (λhc=>?_) (λ_=>cU h3);simp only[dA]at hc;refine Ok.bind (P:=λy=>A1 y.2) ((C9 h3 4 (by omega) (by omega)).bind λu hu=>(pick hu.1 _ (by simp) (by simp)).bind λv hv=>(pick hv _ (by simp) (by simp)).bind λw hw=>(pick hw _ (by simp) (by simp)).bind λx hx=>Ok.pure hx) λy hy=>(cS (by simp;omega)).bind λm hm=>c7 ?_;subst hm;dsimp only;rw[Az (n:=k-1) (by omega)];exact⟨⟨by simp;omega,hy⟩,by omega⟩
theorem As9(hs:A1 s):Ok (F87 s) λy=>A1 y.2:=by
 unfold F87;exact(pick hs _ (by simp) (by simp)).bind λa ha=>(pick ha _ (by simp) (by simp)).bind λb hb=>(pick hb _ (by simp) (by simp)).bind λc hc=>(pick hc _ (by simp) (by simp)).bind λd hd=>(pick hd _ (by simp) (by simp)).bind λe he=>(pick he _ (by simp) (by simp)).bind λf hf=>(pick hf _ (by simp) (by simp)).bind λg hg=>(pick hg _ (by simp) (by simp)).bind λi hi=>(pick hi _ (by simp) (by simp)).bind λj hj=>Ok.pure hj
theorem Apl(hs:A1 s):Ok (Amy s) λy=>A1 y.2:=by
 unfold Amy;exact(pick hs _ (by simp) (by simp)).bind λa ha=>(pick ha _ (by simp) (by simp)).bind λb hb=>(pick hb _ (by simp) (by simp)).bind λc hc=>(pick hc _ (by simp) (by simp)).bind λd hd=>Ok.pure hd
theorem Ay2(hs:A1 s):Ok (F88 s) λy=>A1 y.2:=by
 unfold F88 F79;refine Ok.bind (P:=λy=>A1 y.2) ((C9 hs 3 (by omega) (by omega)).bind λa ha=>(cR ha.2.1 (by have:=ha.2.2;simp;omega)).bind λt _=>Ok.pure ha.1) λb hb=>?_;exact(Eh hb 1 3 (by omega) (by omega) (by omega)).bind λc hc=>(Apl hc.1).bind λd hd=>(pick hd _ (by simp) (by simp)).bind λe he=>Ok.pure he
theorem Auf(hs:A1 s):Ok (F90 s) λy=>A1 y.2:=by
 unfold F90;exact(pick hs _ (by simp) (by simp)).bind λa ha=>Ok.pure ha
theorem Aod(h0:0<=k)(h1:k<=4):Ok (Ajw [IntKind.wrap .u8 (w64 (97+k))]) λs=>s.size=1:=by
 have h:k=0\/k=1\/k=2\/k=3\/k=4:=by omega
 rcases h with rfl|rfl|rfl|rfl|rfl
 ·exact⟨⟨#[97]⟩,by kernel_rfl,rfl⟩
 ·exact⟨⟨#[98]⟩,by kernel_rfl,rfl⟩
 ·exact⟨⟨#[99]⟩,by kernel_rfl,rfl⟩
 ·exact⟨⟨#[100]⟩,by kernel_rfl,rfl⟩
 ·exact⟨⟨#[101]⟩,by kernel_rfl,rfl⟩
theorem Awj(hs:A1 s):Ok (F89 s) λy=>A1 y.2:=by
 unfold F89;refine Ok.andThen (A:=λz=>A1 ⟨z.2.1,z.2.2.1⟩) (B:=λ(_:Unit)=>False) ?_ (λz hz=>Ok.pure hz) (λ_ h=>h.elim);refine cQ (λz=>(0<=z.1/\z.1<=5/\(z.2.2.2.length:Int)<=z.1)/\A1 ⟨z.2.1,z.2.2.1⟩) (λz=>(5-z.1).toNat) _ _ ⟨by simp,hs⟩ (by simp) ?_;rintro⟨k,L,a,l⟩ ⟨⟨h1,h2,h3⟩,h4⟩;dsimp only at h1 h2 h3 h4;unfold Aqw;refine(C9 h4 5 (by omega) (by omega)).bind λu hu=>c6 (λhc=>?_) (λ_=>cU hu.1);have hu2:=hu.2;simp only[Avu,ay,dA,dD]at hc;refine c6 (λ_=>cU hu.1) (λ_=>?_);have hk:k<=4:=by omega
 refine(Aod h1 hk).bind λt ht=>?_;have hcat:nzI (Adm (⟨#[115]⟩:ByteArray) t)=some ():=by
  unfold Adm;rw[ht];rfl
 refine Ok.bind (P:=λ_=>True) (cT hcat trivial) λ_ _=>(pick hu.1 _ (by simp) (by simp)).bind λv hv=>(Eh hv 1 3 (by omega) (by omega) (by omega)).bind λw hw=>(Aih hw.1 (by omega) (by omega)).bind λx hx=>(cS (by simp;omega)).bind λm hm=>c7 ?_;subst hm;dsimp only;rw[Az (n:=k+1) (by omega)];exact⟨⟨by simp;omega,hx.1⟩,by omega⟩
structure Ks(v:A5):Prop where
 ship:I6 v.Ship
 Ap:Ax v.Board
 table:V7 v.Table
 des:Wb v.Design
theorem Ax.thr(h:Ax b){l:List A7}(hl:l.length=b.Ag.length)(hc:∀(i:Nat) x y,b.Ag[i]? = some x->l[i]? = some y->y=⟨x.Load,x.Least,x.B2,y.Thruster,x.Needs⟩ /\ -1<=y.Thruster/\y.Thruster<=7):Ax ⟨b.An,b.Ah,b.Ae,l,b.Phase,b.Ar⟩ where
 buses:=h.buses
 brl:=h.brl
 sol:=h.sol
 col:=by dsimp only;rw[hl];exact h.col
 phase:=h.phase
 freq:=h.freq
 br:=by dsimp only;rw[hl];exact h.br
 one:=h.one
 any:=by dsimp only;rw[hl];exact h.any
 nodup:=h.nodup
 so:=h.so
 co i y hy:=by
  dsimp only at hy;have hi:=(aa.1 hy).1;have hx:b.Ag[i]? = some (b.Ag[i]'(by omega)):=aj (by omega);obtain⟨e,h1⟩:=hc i _ y hx hy;obtain⟨c1,c2,c3,c4,c5⟩:=h.co i _ hx;rw[e];exact⟨c1,c2,c3,h1,c5⟩
theorem Anc(h:Ax b){x:B3}(hx:x.A3.length<=7)(hs:A1 s)(t1 t2:Af) :
  Ok (whileN (Aev (x,t1) (b,t2)) 1152921504606846976 (0,s.L,s.At,b.Ag)) (Em (λz=>Ax ⟨b.An,b.Ah,b.Ae,z.2.2.2,b.Phase,b.Ar⟩/\z.2.2.2.length=b.Ag.length/\A1 ⟨z.2.1,z.2.2.1⟩) λ(_:Unit)=>False):=by
 have hcl:=h.col;refine cQ (λz=>(0<=z.1/\z.1<=(b.Ag.length:Int))/\A1 ⟨z.2.1,z.2.2.1⟩/\z.2.2.2.length=b.Ag.length/\∀(i:Nat) x y,b.Ag[i]? = some x->z.2.2.2[i]? = some y->y=⟨x.Load,x.Least,x.B2,y.Thruster,x.Needs⟩ /\ -1<=y.Thruster/\y.Thruster<=7) (λz=>((b.Ag.length:Int)-z.1).toNat) _ _ ⟨by dsimp only;omega,hs,rfl,λi x y hx hy=>?_⟩ (by dsimp only;omega) ?_
 ·dsimp only at hy;rw[hx]at hy;cases hy;exact⟨rfl,(h.co i x hx).2.2.2.1⟩
 rintro⟨k,L,a,l⟩ ⟨⟨h1,h2⟩,h3,h4,h5⟩;dsimp only at h1 h2 h3 h4 h5;unfold Aev;refine c6 (λhc=>?_) (λ_=>cU ⟨h.thr h4 h5,h4,h3⟩);simp only[Av1,dA]at hc;dsimp only;rw[Az (n:=(x.A3.length:Int)-1) (by omega),Az (n:=k+1) (by omega)];refine(Eh h3 (-1) _ (by omega) (by omega) (by omega)).bind λu hu=>(cR (by omega) (by omega)).bind λc hc2=>(cV (by omega) (by omega)).bind λm hm=>c7 ?_;subst hm;refine⟨⟨by dsimp only;omega,hu.1,by simpa using h4,λi x y hx hy=>?_⟩,by dsimp only;omega⟩;grind
theorem zJ(hs:A1 s):Ok (F43 s) λy=>Ks y.1/\A1 y.2:=by
 unfold F43;refine(Aw9 hs).bind λy1 h1=>(Auj h1 (n:=2) (by omega)).bind λy3 h3=>(Ava h3.2).bind λy5 h5=>(Aui h5.2).bind λy7 h7=>(Awo h7.2 (n:=3) (by omega)).bind λy9 h9=>(As9 h9).bind λy11 h11=>(pick h11 _ (by simp) (by simp)).bind λy13 h13=>(Ay2 h13).bind λy15 h15=>(Awj h15).bind λy17 h17=>?_;refine(Eh h17 (-50) 50 (by omega) (by omega) (by omega)).bind λy19 h19=>(Eh h19.1 (-50) 50 (by omega) (by omega) (by omega)).bind λy21 h21=>(Auf h21.1).bind λy23 h23=>?_;have hth:=h3.1.2;refine(Anc h5.1.ok (x:=y3.1) (by omega) h23 y3.2 y5.2).andThen (λz hz=>?_) (λ_ h=>h.elim);refine(Anb (C:=[0,(y5.1.Ae.length:Int),(y5.1.Ah.length:Int),y5.1.An,(z.2.2.2.length:Int),(y3.1.A3.length:Int),(y9.1.length:Int),0,0,2]) (by simp) rfl hz.2.2).andThen (λw hw=>?_) (λ_ h=>h.elim);have hwl:=hw.1.2.1;refine(yO hw.1.1 (by omega) hw.2).bind λy36 h36=>(Yg hw.1.1 (by omega) h36.2).bind λy38 h38=>Ok.pure ⟨⟨h3.1.1,hz.1,h7.1,⟨hw.1.1,hw.1.ptOk,by dsimp only;omega,h36.1,h38.1⟩⟩,h38.2⟩
def Pk:List Ab:=[(⟨1,0⟩:Ab),(⟨1,1⟩:Ab),(⟨5,0⟩:Ab),(⟨5,1⟩:Ab),(⟨6,0⟩:Ab),(⟨9,0⟩:Ab)]
theorem Q3:Es Pk:=by
 have h:Pk.Pairwise λa b=>Dh a b=true:=by decide +kernel
 exact h
theorem Akm(hl:Es l)(hn:l.length<=40)(hs:A1 s):Ok (F92 s l) λy=>uM l y.1/\A1 y.2:=yO hl hn hs
theorem Ags(hl:Es l)(hn:l.length<=30)(hs:A1 s):Ok (F93 s l) λy=>Xt l y.1/\A1 y.2:=Yg hl hn hs
theorem Auk(hs:A1 s):Ok (F45 s) λy=>Ks y.1/\A1 y.2:=by
 unfold F45;refine(zJ hs).bind λy1 h1=>(cS (by simp)).bind λb1 e1=>(C9 h1.2 3 (by omega) (by omega)).bind λy5 h5=>(cS (by simp)).bind λs1 e2=>(cS (by subst e1;simp)).bind λb2 e3=>(C9 h5.1 3 (by omega) (by omega)).bind λy11 h11=>(cS (by subst e2;simp)).bind λs2 e4=>?_;subst e1;subst e2;subst e3;subst e4;have g0:O8 2 [(⟨1,0,1⟩:Ak)] []:=Mf.gens (λx hx=>by rw[aL.1 hx];exact⟨rfl,by decide,by decide,by decide⟩) (by simp);have hy5:=h5.2;have hy11:=h11.2;have g1:=g0.add (x:=(⟨2,0,0⟩:Ak)) (y:=(⟨100,0,y5.1⟩:B5)) ⟨rfl,rfl,by decide,by decide⟩ ⟨by dsimp only;omega,by dsimp only;omega,by dsimp only;omega⟩;have g2:=g1.add (x:=(⟨2,1,1⟩:Ak)) (y:=(⟨100,0,y11.1⟩:B5)) ⟨rfl,rfl,by decide,by decide⟩ ⟨by dsimp only;omega,by dsimp only;omega,by dsimp only;omega⟩;have g3:=g2.cons;have hg2:=g2.len;refine Ok.andThen (A:=λz=>A1 ⟨z.2.1,z.2.2.1⟩/\(∀t,t∈z.2.2.2.2.1->Gx t)/\z.2.2.2.2.1.length=4/\Sg 2 z.2.2.2.1 2 z.2.2.2.2.2/\z.2.2.2.2.2.length=4) (B:=λ(_:Unit)=>False) ?_ (λz hz=>?_) (λ_ h=>h.elim)
 ·refine cQ (λz=>(0<=z.1/\z.1<=4)/\A1 ⟨z.2.1,z.2.2.1⟩/\(∀t,t∈z.2.2.2.2.1->Gx t)/\(z.2.2.2.2.1.length:Int)=z.1/\Sg 2 z.2.2.2.1 2 z.2.2.2.2.2/\(z.2.2.2.2.2.length:Int)=z.1) (λz=>(4-z.1).toNat) _ _ ⟨by simp,h11.1,by simp,by simp,g3,by simp⟩ (by simp) ?_;rintro⟨k,L,a,br,th,co⟩ ⟨⟨q1,q2⟩,q3,q4,q5,q6,q7⟩;dsimp only at q1 q2 q3 q4 q5 q6 q7;have hbl:=q6.len;unfold Aq8;refine c6 (λhc=>?_) (λhc=>?_)
  ·simp only[dA]at hc;refine(cS (by simp;omega)).bind λbr2 e1=>(Ct q3 _ (by simp) (by simp)).bind λu hu=>(C9 hu.1 3 (by omega) (by omega)).bind λv hv=>(cS (by simp;omega)).bind λco2 e2=>(Ct hv.1 _ (by simp) (by simp)).bind λw hw=>(Ct hw.1 _ (by simp) (by simp)).bind λx hx=>(cS (by simp;omega)).bind λth2 e3=>c7 ?_;subst e1;subst e2;subst e3;rw[Az (n:=k+1) (by omega)];have hu2:u.1=0\/u.1=5\/u.1=20:=by simpa using hu.2
   have hw2:w.1=50\/w.1=5:=by simpa using hw.2
   have hx2:x.1=1\/x.1=2:=by simpa using hx.2
   have hv2:=hv.2;have hm:=jQ (x:=k) (n:=2) (by omega) q1;have hd:0<=Int.tdiv k 2/\Int.tdiv k 2<=1:=by
    have:Int.tdiv k 2=k / 2:=cu q1;omega
   refine⟨⟨by dsimp only;omega,hx.1,λt ht=>?_,by simp;omega,q6.add (m:=[⟨3,Int.tmod k 2,k⟩]) (λz hz=>?_) (by simp) (by simp) (by simp) ⟨⟨by dsimp only;omega,by dsimp only;omega,by dsimp only;omega,by dsimp only;omega,by simp,by simp,by simp⟩,by dsimp only;omega⟩,by simp;omega⟩,by dsimp only;omega⟩
   ·rcases an.1 ht with ht|ht
    ·exact q4 t ht
    ·rw[aL.1 ht];rw[Az (n:=Int.tdiv k 2) (by omega)];exact⟨by dsimp only;omega,by dsimp only;omega,by dsimp only;omega,by dsimp only;omega,by dsimp only;omega,by simp,by simp⟩
   ·rw[aL.1 hz];exact⟨rfl,by dsimp only;omega,hm⟩
  ·simp only[dC]at hc;exact cU ⟨q3,q4,by dsimp only;omega,q6,by dsimp only;omega⟩
 ·obtain⟨z1,z2,z3,z4,z5⟩:=hz;refine(Akm Q3 (by simp[Pk]) z1).bind λy30 h30=>(Ags Q3 (by simp[Pk]) h30.2).bind λy32 h32=>Ok.pure ⟨⟨⟨by simp,by simp,by dsimp only;omega,z2⟩,?_,h1.1.table,⟨Q3,?_,by simp,h30.1,h32.1⟩⟩,h32.2⟩
  ·have hbl:=z4.len;exact⟨by simp,by dsimp only;omega,by simp,by dsimp only;omega,by simp,by simp,by dsimp only;rw[z5];have:=z4.br;rw[z5]at this;exact this,z4.one,z4.any,z4.nodup,g2.so,λi x hx=>(z4.co i x hx).1⟩
  ·intro p hp;have h:∀p,p∈Pk->Fy p:=by
    unfold Fy Pk;simp
   exact h p hp
theorem Ajs(hs:A1 s):Ok (F11 s) λy=>Ks y.1/\((∀t,Qa y.1.Board t y.2.1)/\(5<=y.2.1.Time/\y.2.1.Time<=20)/\y.2.1.Be=[]/\y.2.1.Power.Al.length<=4)/\A1 y.2.2:=by
 unfold F11;refine(zJ hs).bind λv hv=>(C9 hv.2 2 (by omega) (by omega)).bind λu hu=>c6 (λ_=>?_) (λ_=>?_)
 ·refine(Auk hu.1).bind λw hw=>(Aeg hw.1.Ap hw.2).bind λp hp=>Ok.pure ⟨hw.1,hp.1,hp.2⟩
 ·refine(Aeg hv.1.Ap hu.1).bind λp hp=>Ok.pure ⟨hv.1,hp.1,hp.2⟩
set_option linter.unusedVariables false
theorem Xe(h:Ax b)(hp:Aw b p)(T:Int)(a:As):(doE b p T a).length<=10001:=by
 unfold doE;split
 ·rename_i he;have:=(Q4 h (Ada h hp he).1).2.2;simp;omega
 ·simp
theorem Art(h:Ax b){p:Am}(hp:Aw b p.Power)(h1:p.A_.length<=1000)(h2:p.Be.length<=9000000)(a:As) :
  F54 b p a=some (⟨p.Time,doP b p.Power p.Time a,p.A_,p.Be++doE b p.Power p.Time a⟩,doS b p.Power p.Time a,0):=by
 have hl:=Xe h hp p.Time a;refine cY ?_;unfold F54;rw[E4 h hp];simp only[ab];refine c6 (λhc=>by simp at hc) (λ_=>?_);refine Ok.bind (P:=λv=>v=⟨p,b,[],[]⟩) (cT (At9 h hp h1 (by omega)) rfl) λv hv=>?_;subst hv;have hd:=A3e h (T:=p.Time) (P:=p.Power) (ros:=p.A_) (evs:=p.Be) (ev:=[]) (sts:=[]) hp (by simp) (by simp) a;refine Ok.bind (P:=λv=>v=_) (cT hd rfl) λv hv=>?_;subst hv;refine(cS (l:=p.Be) (m:=[]++doE b p.Power p.Time a) (by simp;omega)).bind λu hu=>Ok.pure ?_;rw[hu];rfl
variable{p:Ab}
theorem An3(h:Fy p):ptB p=true:=by
 unfold Fy at h;have e:∀n:Int,0<=n->n<=63->(Lit.int .i64 n).wf=true:=λn h1 h2=>by
  have m1:IntKind.i64.min = -9223372036854775808:=by decide +kernel
  have m2:IntKind.i64.max=9223372036854775807:=by decide +kernel
  simp only[Lit.wf,m1,m2,ae,dA];omega
 unfold ptB;rw[e _ (by omega) (by omega),e _ (by omega) (by omega)];rfl
theorem Agv{L:List Bc}{b:List Ab}(h:p∈Gs L b):p∈b\/∃x,x∈L/\x.To=p:=by
 have h2:=(Aky L b p).1 h;clear h;induction h2 with
 | «at» h=>exact .inl h
 | «by» _ x hx _ e2 _=>exact .inr ⟨x,hx,e2⟩
theorem Yo(L:List Bc)(b:List Ab):(Gs L b).length<=b.length+L.length:=by
 have h:=Lm (Akz L b) (m:=b++L.map (·.To)) λp hp=>by
  rcases Agv hp with h|⟨x,hx,e⟩
  ·exact bg _ h
  ·exact bl _ (ao.2 ⟨x,hx,e⟩)
 simpa using h
theorem Acx{d:Ba}(h:Wb d){b:List Ab}(hb:∀p,p∈b->Fy p)(hn:b.length<=1000):F51 d b=some (Gs d.Links b):=by
 have h2:=h.links.len;unfold F51 Yp;rw[Wp h];have e:Sf b=some b:=G9 (by omega);rw[e];have e2:okF d.Links b=true:=by
  simp only[okF,ae,dA,aE];exact⟨⟨λp hp=>An3 (hb p hp),λx hx=>An3 (h.ok _ (h.links.mem x hx).2.1)⟩,by omega⟩
 simp only[ab,e2];rfl
theorem Wl(h:Ax b)(hp:Cs b p):Fy p:=by
 have h1:=h.buses;have h2:=h.brl;have h3:=h.sol;have h4:=h.col;unfold Cs at hp;unfold Fy;omega
theorem Ajt{l m:List Int}(hl:l.length<=1000):Ok (F57 l m) λy=>y.length=l.length/\∀(i:Nat) v,y[i]? = some v->(l[i]? = some v/\¬(i:Int)∈m)\/v=0:=by
 unfold F57;refine Ok.bind (P:=λy=>y=l) (cT (G9 (by omega)) rfl) λy hy=>?_;subst hy;refine Ok.andThen (A:=λz=>z.length=y.length/\∀(i:Nat) v,z[i]? = some v->(y[i]? = some v/\¬(i:Int)∈m)\/v=0) (B:=λ(_:Unit)=>False) ?_ (λz hz=>Ok.pure hz) (λ_ h=>h.elim);refine c8 (I:=λj z=>z.length=y.length/\∀(i:Nat) v,z[i]? = some v->(y[i]? = some v/\¬(i:Int)∈m.take j)\/v=0) ⟨rfl,λi v hv=>.inl ⟨hv,by simp⟩⟩ (λj x z hx hz=>?_) λz hz=>by rw[aP]at hz;exact hz
 unfold Aq6;rw[Bs hx];refine c6 (λhc=>?_) (λhc=>c7 ⟨hz.1,λi v hv=>(hz.2 i v hv).imp (λh=>⟨h.1,λhm=>?_⟩) id⟩)
 ·simp only[Ali,ae,dA]at hc;refine(cR hc.1 hc.2).bind λ_ _=>(cV hc.1 hc.2).bind λw hw=>c7 ?_;subst hw;refine⟨by rw[bm];exact hz.1,λi v hv=>?_⟩;rw[aH]at hv;split at hv
  ·split at hv
   ·cases hv;exact .inr rfl
   ·cases hv
  ·refine(hz.2 i v hv).imp (λh=>⟨h.1,λhm=>?_⟩) id;rcases an.1 hm with hm|hm
   ·exact h.2 hm
   ·rw[aL]at hm;omega
 ·rcases an.1 hm with hm|hm
  ·exact h.2 hm
  ·rw[aL]at hm;have hi:=(aa.1 hv).1;simp only[Ali,b9,dC]at hc;omega
variable{p:Am}
theorem Adg(h:Ax b)(hp:Aw b p.Power)(h1:p.A_.length<=1000)(h2:p.Be.length<=10000000):F56 p=some p:=by
 have g1:=hp.ncl;have g2:=hp.nso;have g3:=hp.nli;have g4:=hp.brk.len;have k1:=h.brl;have k2:=h.sol;have k3:=h.col;unfold F56 vU vT vS vR Pe Sf;rw[G9 (by omega),G9 (by omega),G9 (by omega),G9 (by omega),G9 (by omega),G9 (by omega)];rfl
structure Aft(v:A5)(all:List Ab)(y:Am×List Int×Int):Prop where
 err:y.2.2=0
 st:Aw v.Board y.1.Power
 len:y.2.1.length=v.Ship.A3.length
 able:∀(i:Nat) t n,v.Ship.A3[i]? = some t->y.2.1[i]? = some n->(0<=n/\n<=t.Max)/\(n≠0->(∃j:Nat,own v.Board i=(j:Int)/\svB v.Board y.1.Power 1000 j=true)/\¬(⟨5,(i:Int)⟩:Ab)∈all)
theorem Aap(h:Ks v)(hS:Aw v.Board p.Power)(hro:p.A_.length<=1000)(he:p.Be.length<=100000)(hck:F49 v.Board v.Table p=some c)(hb:∀x,x∈broken->Fy x)(hf:∀x,x∈fails->Fy x)(hbn:broken.length<=20)(hfn:fails.length<=40) :
  Ok (F14 v p broken fails) λy=>c=0->Aft v (Gs v.Design.Links (broken++(p.Power.Al++fails))) y:=by
 have hB:=h.Ap;have hbl:=hS.brk.len;have hlk:=h.des.links.len;unfold F14;rw[hck,Wp h.des];simp only[ab];refine c6 (λhc=>Ok.pure λe=>by rw[e]at hc;cases hc) (λ_=>c6 (λhc=>by simp at hc) (λ_=>Ok.mono ?_ λ_ h _=>h));have ec:F52 [broken,p.Power.Al,fails]=some (broken++(p.Power.Al++fails)):=by
  have e:[broken,p.Power.Al,fails].flatten=broken++(p.Power.Al++fails):=by simp
  unfold F52 Iq;rw[e,dF (by simp;omega)];rfl
 rw[ec];have hall:∀x,x∈broken++(p.Power.Al++fails)->Fy x:=λx hx=>by
  rcases an.1 hx with hx|hx
  ·exact hb x hx
  ·rcases an.1 hx with hx|hx
   ·exact Wl hB (hS.brk.mem x hx)
   ·exact hf x hx
 have hbase:(broken++(p.Power.Al++fails)).length<=92:=by simp;omega
 generalize broken++(p.Power.Al++fails)=base at hall hbase;simp only[ab];rw[Acx h.des hall (by omega)];simp only[ab];have hfl:=Yo v.Design.Links base;generalize Gs v.Design.Links base=all at hfl;refine Ok.andThen (A:=λz=>Aw v.Board ⟨z.2.2.1,z.2.2.2.1,z.2.2.2.2.1,z.2.2.2.2.2.1⟩/\z.2.2.2.2.2.2.1=p.A_/\z.2.2.2.2.2.2.2.length<=2000000/\∀x,x∈all->x.Kind=5->x.Number∈z.1) (B:=λ_=>False) ?_ (λz hz=>?_) (λ_ h=>h.elim)
 ·refine c8 (I:=λj z=>(Aw v.Board ⟨z.2.2.1,z.2.2.2.1,z.2.2.2.2.1,z.2.2.2.2.2.1⟩/\z.2.2.2.2.2.2.1=p.A_/\z.2.2.2.2.2.2.2.length<=100000+10001*j/\∀x,x∈all.take j->x.Kind=5->x.Number∈z.1)/\z.1.length<=j) ⟨⟨hS,rfl,by dsimp only;omega,by simp⟩,by simp⟩ (λj x z hx hz=>?_) λz hz=>?_
  ·obtain⟨⟨z1,z2,z3,z4⟩,z5⟩:=hz;have hj:=(aa.1 hx).1;unfold Arn;refine Ok.inner (A:=λw=>w.length<=j+1/\∀y,y∈all.take (j+1)->y.Kind=5->y.Number∈w) (B:=λ(_:Unit)=>False) ?_ (λw hw=>?_) (λ_ h=>h.elim)
   ·unfold Arm;refine c6 (λhc=>(cS (by simp;omega)).bind λm hm=>cZ ?_) (λhc=>cZ ?_)
    ·subst hm;refine⟨by simp;omega,λy hy hk=>?_⟩;rw[Bs hx]at hy;rcases an.1 hy with hy|hy
     ·exact bg _ (z4 y hy hk)
     ·rw[aL.1 hy];exact bl _ (aL.2 rfl)
    ·refine⟨by omega,λy hy hk=>?_⟩;rw[Bs hx]at hy;rcases an.1 hy with hy|hy
     ·exact z4 y hy hk
     ·rw[aL.1 hy]at hk;rw[hk]at hc;cases hc
   ·refine Ok.bind (P:=λ_=>True) (c9 (λ_=>cT (Ps _ _ (by omega)) trivial) λ_=>trivial) λu _=>c6 (λ_=>c7 ⟨⟨z1,z2,by dsimp only;omega,hw.2⟩,hw.1⟩) (λ_=>?_);have hd:=Art hB (p:=⟨z.2.1,⟨z.2.2.1,z.2.2.2.1,z.2.2.2.2.1,z.2.2.2.2.2.1⟩,z.2.2.2.2.2.2.1,z.2.2.2.2.2.2.2⟩) z1 (by dsimp only;rw[z2];omega) (by dsimp only;omega) ⟨8,x.Number,x.Kind⟩;refine Ok.bind (P:=λy=>y=_) (cT hd rfl) λy hy=>?_;subst hy;refine c6 (λhc=>by simp at hc) (λ_=>c7 ⟨⟨Apc hB z1 _ _,z2,?_,hw.2⟩,hw.1⟩);have:=Xe hB z1 z.2.1 ⟨8,x.Number,x.Kind⟩;dsimp only;rw[aC];omega
  ·rw[aP]at hz;exact⟨hz.1.1,hz.1.2.1,by omega,hz.1.2.2.2⟩
 ·obtain⟨z1,z2,z3,z4⟩:=hz;refine(Axw hB z1 h.ship).bind λy hy=>?_;obtain⟨y1,y2,y3⟩:=hy;refine c6 (λhc=>by simp[y1]at hc) (λ_=>?_);rw[Adg hB (p:=⟨z.2.1,⟨z.2.2.1,z.2.2.2.1,z.2.2.2.2.1,z.2.2.2.2.2.1⟩,z.2.2.2.2.2.2.1,z.2.2.2.2.2.2.2⟩) z1 (by dsimp only;rw[z2];omega) (by dsimp only;omega)];have hsl:=h.ship.len;refine(Ajt (m:=z.1) (by omega)).bind λw hw=>Ok.pure ⟨rfl,z1,by rw[←y2];exact hw.1,λi t n ht hn=>?_⟩;have htm:=(h.ship.thr t (af ht)).max;rcases hw.2 i n hn with⟨g1,g2⟩|rfl
  ·obtain⟨a1,a2,a3⟩:=y3 i t n ht g1;exact⟨a1,λh0=>⟨a3 h0,λhm=>g2 (z4 _ hm rfl)⟩⟩
  ·exact⟨⟨by omega,htm.1⟩,λh0=>absurd rfl h0⟩
theorem Avb(h:Ks v)(hp:Qa v.Board v.Table p)(he:p.Be.length<=200)(hb:∀x,x∈broken->Fy x)(hf:∀x,x∈fails->Fy x)(hbn:broken.length<=20)(hfn:fails.length<=40) :
  Ok (F14 v p broken fails) (Aft v (Gs v.Design.Links (broken++(p.Power.Al++fails)))):=by
 have h1:=hp.nro;have h2:=h.Ap.buses;exact(Aap h hp.st (by omega) (by omega) (Aas h.Ap h.table hp) hb hf hbn hfn).mono λy hy=>hy rfl
set_option linter.unusedVariables false
theorem Yk(n:Int)(hd:d≠0):Ok (Uz n d) λ_=>True:=by
 unfold Uz;exact(Ok.nzI hd).bind λ_ _=>(Ok.nzI hd).bind λ_ _=>c6 (λ_=>Ok.pure trivial) λ_=>Ok.pure trivial
theorem Ach(n d:Int):Ok (Afb n d) λ_=>True:=by
 unfold Afb Afh;refine Ok.bind (P:=λ_=>True) (c6 (λ_=>Ok.pure trivial) λhc=>?_) λ_ _=>Ok.pure trivial;simp only[Adq,bj,dC]at hc;refine Ok.bind (P:=λ_=>True) ?_ λ_ _=>Ok.pure trivial;unfold Aur;have e:w64 (2*d)=2*d:=Az (by omega);rw[e];exact(Yk _ (by omega)).bind λ_ _=>Ok.pure trivial
theorem Aor(n d:Int):Ok (Xu n d) λ_=>True:=by
 unfold Xu Zl;refine Ok.bind (P:=λ_=>True) (c6 (λ_=>Ok.pure trivial) λhc=>?_) λ_ _=>Ok.pure trivial;simp only[Xl,bj,dC]at hc;exact(Yk _ (by omega)).bind λ_ _=>Ok.pure trivial
theorem Aoq{n:Int}(h:-10000000<=n/\n<=10000000):Xu n 2=some (n / 2,0):=by
 refine cY ?_;unfold Xu Zl;refine Ok.bind (P:=λy=>y=(n / 2,0)) (c6 (λhc=>?_) λhc=>?_) λy hy=>Ok.pure (by rw[hy])
 ·simp only[Xl,ay,dA]at hc;omega
 ·unfold Uz;refine Ok.bind (P:=λy=>y=n / 2) ((Ok.nzI (by omega)).bind λ_ _=>(Ok.nzI (by omega)).bind λ_ _=>?_) λy hy=>Ok.pure (by rw[hy]);have h1:Int.tmod n 2=n-2*Int.tdiv n 2:=by grind
  have h2:=Int.tmod_lt_of_pos n (b:=2) (by omega);have h3:=Int.lt_tmod_of_pos n (b:=2) (by omega);refine c6 (λhq=>Ok.pure ?_) (λhq=>Ok.pure ?_)
  ·simp only[dA]at hq;rw[Az (n:=Int.tdiv n 2) (by omega),Az (by omega)];omega
  ·simp only[dC]at hq;rw[Az (by omega)];omega
theorem Atr(x:Int)(h:lo<=hi):lo<=Jr x lo hi/\Jr x lo hi<=hi:=by
 unfold Jr;omega
theorem qB(a:Int):Ok (uN a) λ_=>True:=by
 unfold uN;refine Ok.andThen (A:=λ_=>True) (B:=λ(_:Unit)=>False) ?_ (λz _=>(Ach _ _).bind λ_ _=>Ok.pure trivial) (λ_ h=>h.elim);unfold Aij;exact c6 (λ_=>cZ trivial) λ_=>cZ trivial
theorem Ah4(a:Int):Ok (Aew a) λ_=>True:=by
 unfold Aew;exact(qB _).bind λ_ _=>Ok.pure trivial
theorem zA(a x y:Int):Ok (Aex a x y) λ_=>True:=by
 unfold Aex;exact c6 (λ_=>Ok.pure trivial) λ_=>(Ah4 _).bind λ_ _=>(qB _).bind λ_ _=>Ok.pure trivial
theorem Agh(a:Cd)(x y:Int):Ok (Alu a x y) λ_=>True:=by
 unfold Alu;exact c6 (λ_=>Ok.pure trivial) λ_=>(zA _ _ _).bind λ_ _=>Ok.bind (P:=λ_=>True) (c9 (λ_=>Ah4 _) λ_=>trivial) λ_ _=>Ok.bind (P:=λ_=>True) (c9 (λ_=>qB _) λ_=>trivial) λ_ _=>Ok.bind (P:=λ_=>True) (c9 (λ_=>zA _ _ _) λ_=>trivial) λ_ _=>Ok.pure trivial
theorem Aua(l:List Cd)(x y:Int):Ok (Zx l x y) λ_=>True:=by
 unfold Zx Afj;refine Ok.bind (P:=λ_=>True) ?_ λ_ _=>Ok.pure trivial;refine Ok.andThen (A:=λ_=>True) (B:=λ_=>True) ?_ (λ_ _=>Ok.pure trivial) (λ_ _=>Ok.pure trivial);refine c8 (I:=λ_ _=>True) trivial (λj a z _ _=>?_) λ_ _=>trivial;unfold zW Aez;refine Ok.bind (P:=λ_=>True) ((Agh _ _ _).bind λ_ _=>Ok.pure trivial) λ_ _=>c6 (λ_=>Ok.ret trivial) λ_=>c7 trivial
theorem Y_(h0:0<=t.Max/\t.Max<=5000)(x y:Int):Ok (Ae3 t x y) λb=>b=true->(-t.Max<=x/\x<=t.Max) /\ -t.Max<=y/\y<=t.Max:=by
 unfold Ae3;refine c6 (λ_=>Ok.pure λh=>by cases h) λhc=>(Aua _ _ _).bind λ_ _=>Ok.pure λ_=>?_;simp only[Apn,bj,dC]at hc;have e:w64 (0-t.Max) = -t.Max:=by rw[Az (by omega)];omega
 rw[e]at hc;omega
theorem Akn(ht:Sd t=some true)(h0:0<=t.Max/\t.Max<=5000):Ok (Al2 t) λr=>(-t.Max<=r.1/\r.1<=0)/\0<=r.2/\r.2<=t.Max:=by
 unfold Al2;rw[ht,ab];refine c6 (λhc=>by cases hc) λ_=>Ok.bind (P:=λr=>(-t.Max<=r.1/\r.1<=0)/\0<=r.2.1/\r.2.1<=t.Max) ?_ λr hr=>Ok.pure hr;unfold Ae5;have hA:∀z,Ok (Qe z t) λb=>b=true -> -t.Max<=z/\z<=t.Max:=λz=>by
  unfold Qe;exact(Y_ h0 0 z).bind λb hb=>Ok.pure λh=>(hb h).2
 refine(hA 0).bind λ_ _=>c6 (λ_=>Ok.pure ⟨by dsimp only;omega,by dsimp only;omega⟩) λ_=>?_;refine Ok.andThen (A:=λz=>-t.Max<=z/\z<=0) (B:=λ(_:Unit)=>False) ?_ (λz hz=>Ok.andThen (A:=λw=>0<=w/\w<=t.Max) (B:=λ(_:Unit)=>False) ?_ (λw hw=>Ok.pure ⟨hz,hw⟩) (λ_ h=>h.elim)) (λ_ h=>h.elim)
 ·refine cQ (λz=>-t.Max<=z/\z<=0) (λz=>(z+5000).toNat) _ _ ⟨by omega,by omega⟩ (by omega) λz hz=>?_;unfold zQ;rw[Az (n:=z-1) (by omega)];exact(hA (z-1)).bind λb hb=>c6 (λh=>c7 (by have:=hb h;omega)) λ_=>cU hz
 ·refine cQ (λz=>0<=z/\z<=t.Max) (λz=>(5000-z).toNat) _ _ ⟨by omega,by omega⟩ (by omega) λz hz=>?_;unfold zP;rw[Az (n:=z+1) (by omega)];exact(hA (z+1)).bind λb hb=>c6 (λh=>c7 (by have:=hb h;omega)) λ_=>cU hz
theorem Ast(ht:Sd t=some true)(h0:0<=t.Max/\t.Max<=5000)(y:Int):Ok (Al1 t y) λr=>(-t.Max<=r.1/\r.1<=0)/\0<=r.2/\r.2<=t.Max:=by
 unfold Al1;rw[ht,ab];refine c6 (λhc=>by cases hc) λ_=>Ok.bind (P:=λr=>(-t.Max<=r.1/\r.1<=0)/\0<=r.2.1/\r.2.1<=t.Max) ?_ λr hr=>Ok.pure hr;unfold Ae4;have hA:∀z,Ok (Qd z t y) λb=>b=true -> -t.Max<=z/\z<=t.Max:=λz=>by
  unfold Qd;exact(Y_ h0 z y).bind λb hb=>Ok.pure λh=>(hb h).1
 refine(hA 0).bind λ_ _=>c6 (λ_=>Ok.pure ⟨by dsimp only;omega,by dsimp only;omega⟩) λ_=>?_;refine Ok.andThen (A:=λz=>-t.Max<=z/\z<=0) (B:=λ(_:Unit)=>False) ?_ (λz hz=>Ok.andThen (A:=λw=>0<=w/\w<=t.Max) (B:=λ(_:Unit)=>False) ?_ (λw hw=>Ok.pure ⟨hz,hw⟩) (λ_ h=>h.elim)) (λ_ h=>h.elim)
 ·refine cQ (λz=>-t.Max<=z/\z<=0) (λz=>(z+5000).toNat) _ _ ⟨by omega,by omega⟩ (by omega) λz hz=>?_;unfold zO;rw[Az (n:=z-1) (by omega)];exact(hA (z-1)).bind λb hb=>c6 (λh=>c7 (by have:=hb h;omega)) λ_=>cU hz
 ·refine cQ (λz=>0<=z/\z<=t.Max) (λz=>(5000-z).toNat) _ _ ⟨by omega,by omega⟩ (by omega) λz hz=>?_;unfold zN;rw[Az (n:=z+1) (by omega)];exact(hA (z+1)).bind λb hb=>c6 (λh=>c7 (by have:=hb h;omega)) λ_=>cU hz
def Gy(s:Bp):Prop:=(-5000<=s.Low/\s.Low<=s.High/\s.High<=5000)/\1<=s.Cost/\s.Cost<=100
variable{l:List Bp}
theorem Ans(hl:l.length<=8)(h:∀s,s∈l->Gy s):Alw l=some 0:=by
 refine cY ?_;unfold Alw;refine c6 (λhc=>by grind) λ_=>Ok.andThen (A:=λ_=>True) (B:=λ_=>False) ?_ (λ_ _=>Ok.pure rfl) (λ_ h=>h.elim);refine c8 (I:=λ_ _=>True) trivial (λj s z hs _=>?_) λ_ _=>trivial;have:=h s (af hs);unfold Gy at this;unfold Aik;refine c6 (λhc=>?_) λ_=>c7 trivial;simp only[Apo,ay,dA]at hc;omega
theorem Anz(hl:l.length<=8)(h:∀s,s∈l->Gy s):Ok (Al3 l) λy=>y.2.2=0:=by
 unfold Al3;rw[Ans hl h,ab];refine c6 (λhc=>by cases hc) λ_=>Ok.andThen (A:=λ_=>True) (B:=λ(_:Unit)=>False) ?_ (λ_ _=>Ok.pure rfl) (λ_ h=>h.elim);exact c8 (I:=λ_ _=>True) trivial (λj s z hs _=>c7 trivial) λ_ _=>trivial
theorem yL(hl:l.length<=8)(h:∀s,s∈l->Gy s)(p:Int):Ok (Afa l p) λy=>y.1.length=l.length/\∀(i:Nat) s v,l[i]? = some s->y.1[i]? = some v->s.Low<=v/\v<=s.High:=by
 unfold Afa;refine Ok.andThen (A:=λz=>z.2.length=l.length/\∀(i:Nat) s v,l[i]? = some s->z.2[i]? = some v->s.Low<=v/\v<=s.High) (B:=λ(_:Unit)=>False) ?_ (λz hz=>Ok.pure hz) (λ_ h=>h.elim);refine c8 (I:=λj z=>z.2.length=j/\∀(i:Nat) s v,l[i]? = some s->z.2[i]? = some v->s.Low<=v/\v<=s.High) ⟨rfl,by simp⟩ (λj s z hs hz=>?_) λz hz=>hz;have hj:=(aa.1 hs).1;unfold Aim;have hok:=h s (af hs);refine(Aor _ _).bind λy _=>(cS (by simp;omega)).bind λm hm=>c7 ?_;subst hm;refine⟨by simp;omega,λi s' v hi hv=>?_⟩;rw[ck]at hv;split at hv
 ·exact hz.2 i s' v hi hv
 ·have hi2:i=j:=by
   grind
  subst hi2;rw[hs]at hi;cases hi;rw[hz.1,Nat.sub_self]at hv;cases hv;exact Atr _ hok.1.2.1
theorem Qz(hl:l.length<=8)(h:∀s,s∈l->Gy s){t:Int}(ht:-500000<=t/\t<=500000):Ok (uS l t) λy=>y.1.length=l.length/\∀v,v∈y.1 -> -5000<=v/\v<=5000:=by
 unfold uS;refine(Anz hl h).bind λy1 hy1=>?_;refine c6 (λhc=>by rw[hy1]at hc;cases hc) λ_=>c6 (λhc=>?_) λ_=>?_
 ·simp only[Aps,ay,dA]at hc;omega
 refine Ok.andThen (A:=λ_=>True) (B:=λ(_:Unit)=>False) ?_ (λz0 _=>?_) (λ_ h=>h.elim)
 ·refine cQ (λz=>-1000200<=z.2/\z.2<=z.1/\z.1<=1000200) (λz=>(z.1-z.2).toNat) _ _ ⟨by decide,by decide,by decide⟩ (by decide) ?_;rintro⟨b,a⟩ ⟨h1,h2,h3⟩;dsimp only at h1 h2 h3;unfold Ait;refine c6 (λhc=>?_) λ_=>cU trivial;simp only[dA]at hc;dsimp only;rw[Az (n:=a+b) (by omega),Aoq (by omega)];simp only[ab];refine(yL hl h _).bind λ_ _=>c6 (λ_=>c7 ⟨⟨h1,by dsimp only;omega,by dsimp only;omega⟩,by dsimp only;omega⟩) λ_=>c7 ?_;rw[Az (by omega)];exact⟨⟨by dsimp only;omega,by dsimp only;omega,h3⟩,by dsimp only;omega⟩
 ·refine(yL hl h _).bind λy hy=>?_;refine Ok.andThen (A:=λz=>z.2.length=l.length/\∀(i:Nat) s v,l[i]? = some s->z.2[i]? = some v->s.Low<=v/\v<=s.High) (B:=λ(_:Unit)=>False) ?_ (λz hz=>Ok.pure ⟨hz.1,λv hv=>?_⟩) (λ_ h=>h.elim)
  ·refine c8 (I:=λ_ z=>z.2.length=l.length/\∀(i:Nat) s v,l[i]? = some s->z.2[i]? = some v->s.Low<=v/\v<=s.High) hy (λj s z hs hz=>?_) λz hz=>hz;have hj:=(aa.1 hs).1;have hok:=h s (af hs);unfold Ais;rw[Cv (by omega)];have hg:Ok (getI z.2 (j:Int)) λx=>z.2[j]? = some x:=(cR (by omega) (by omega)).mono λx hx=>by simpa using hx
   refine Ok.bind (P:=λv=>z.1<Jr t y1.1 y1.2.1->z.2[j]? = some v) (c9 (λ_=>hg.mono λx hx _=>hx) λhn hlt=>absurd ⟨by simpa using hlt,trivial⟩ hn) λv hv=>?_;refine Ok.bind (P:=λ_=>True) (c9 (λ_=>hg.mono λ_ _=>trivial) λ_=>trivial) λu _=>c6 (λhc=>?_) λ_=>c7 hz;simp only[Apr,ae,dA]at hc;have ev:=hv hc.1.1;refine hg.bind λx hx=>(cV (by omega) (by omega)).bind λw hw=>c7 ?_;rw[ev]at hx;cases hx;subst hw;have hr:=hz.2 j s v hs ev;have hb:-5000<=s.Low/\s.High<=5000:=⟨hok.1.1,hok.1.2.2⟩;rw[aI,Az (n:=v+1) (by omega)];grind
  ·obtain⟨i,hi⟩:=bv hv;have hil:=(aa.1 hi).1;have hs:l[i]? = some (l[i]'(by have:=hz.1;dsimp only at hil;omega)):=aj _;have hr:=hz.2 i _ v hs hi;have hok:=h _ (af hs);unfold Gy at hok;omega
set_option linter.unusedVariables false
theorem Hb(l:List Int)(a b:Int):Ok (O9 l a b) λy=>l.length<=1000->y=true->∀x,x∈l->a<=x/\x<=b:=by
 unfold O9 Af2 Afm;refine Ok.bind (P:=λy=>l.length<=1000->y.1=false->∀x,x∈l->a<=x/\x<=b) (Ok.bind (P:=λy=>l.length<=1000->y.1<0->∀x,x∈l->a<=x/\x<=b) ?_ λy hy=>Ok.pure λhl h=>hy hl (by simpa using h)) λy hy=>Ok.pure λhl h=>hy hl (by simpa using h);refine Ok.andThen (A:=λ_=>∀x,x∈l->a<=x/\x<=b) (B:=λr=>l.length<=1000->0<=r.1) ?_ (λ_ h=>Ok.pure λ_ _=>h) (λr h=>Ok.pure λhl hr=>by have:=h hl;omega);refine c8 (I:=λj _=>∀x,x∈l.take j->a<=x/\x<=b) (by simp) (λj x z hx hz=>?_) λz hz=>by rw[aP]at hz;exact hz
 have hj:=(aa.1 hx).1;unfold Aae;refine c6 (λ_=>Ok.ret λhl=>?_) λhc=>c7 λy hy=>?_
 ·rw[Cv (by omega)];dsimp only;omega
 ·rw[Bs hx]at hy;rcases an.1 hy with hy|hy
  ·exact hz y hy
  ·rw[aL.1 hy];simp only[Ae6,bj,dC]at hc;omega
structure V8(n:Nat)(m:By):Prop where
 len:m.thrusters.length=n
 few:n<=8
 last:m.last=[]\/m.last.length=n
 thr:∀t,t∈m.thrusters->Gx t
theorem Abq(h:lo<=hi)(l r:Int):lo<=(Mg lo hi l r).1/\(Mg lo hi l r).1<=(Mg lo hi l r).2/\(Mg lo hi l r).2<=hi:=by
 unfold Mg;cases Apm lo hi l r with
 |true=>simp only[cond_true];omega
 | false=>
  simp only[cond_false];cases hc:Ado lo hi l r with
  |true=>
   simp only[Ado,dA]at hc;simp only[cond_true];omega
  |false=>cases decide (l<lo) <;> simp only[cond_true,cond_false] <;> omega
variable{i:Nat}
theorem An1(hm:V8 n m)(hi:i<n)(h:-5000<=lo/\lo<=hi'/\hi'<=5000):Ok (Zh m (i:Int) lo hi') Gy:=by
 unfold Zh;have hl:=hm.len;refine(cR (by omega) (by omega)).bind λt ht=>?_;have hc:=(hm.thr t (af ht)).cost;refine c6 (λhp=>?_) λ_=>Ok.pure ⟨h,hc⟩;simp only[dA]at hp;have hl2:m.last.length=n:=hm.last.resolve_left λe=>by rw[e]at hp;simp at hp
 refine(cR (by omega) (by omega)).bind λv _=>Ok.pure ⟨?_,hc⟩;have:=Abq h.2.1 (uQ v) t.Rate;dsimp only;omega
theorem An0(hm:V8 n m)(hi:i<n)(h:-5000<=lo/\lo<=hi'/\hi'<=5000):Ok (Zg m (i:Int) lo hi') Gy:=by
 unfold Zg;have hl:=hm.len;refine(cR (by omega) (by omega)).bind λt ht=>?_;have hc:=(hm.thr t (af ht)).cost;refine c6 (λhp=>?_) λ_=>Ok.pure ⟨h,hc⟩;simp only[dA]at hp;have hl2:m.last.length=n:=hm.last.resolve_left λe=>by rw[e]at hp;simp at hp
 refine(cR (by omega) (by omega)).bind λv _=>Ok.pure ⟨?_,hc⟩;have:=Abq h.2.1 (uP v) t.Rate;dsimp only;omega
theorem Wn(hm:V8 n m)(st:Int):Ok (Aff m st) λl=>l.length=n/\∀s,s∈l->Gy s:=by
 unfold Aff;have hlen:=hm.len;have hf:=hm.few;refine Ok.andThen (A:=λl=>l.length=n/\∀s,s∈l->Gy s) (B:=λ(_:Unit)=>False) ?_ (λ_ h=>Ok.pure h) (λ_ h=>h.elim);refine c8 (I:=λj l=>l.length=j/\∀s,s∈l->Gy s) ⟨rfl,by simp⟩ (λj t l ht hl=>?_) λl hl=>by rw[hlen]at hl;exact hl
 have hj:=(aa.1 ht).1;have hok:=hm.thr t (af ht);have hmx:=hok.max;unfold Air;have fin:∀{x:Bp},Gy x->Ok ((appI 25 l [x]).bind λy=>some (Ctl.next y:Ctl (List Bp) Unit)) (G_ (λl=>l.length=j+1/\∀s,s∈l->Gy s) (λl=>l.length=n/\∀s,s∈l->Gy s) λ(_:Unit)=>False):=fun {x} hx=>(cS (by simp;omega)).bind λw hw=>c7 (by
  subst hw;refine⟨by simp;omega,λs hs=>?_⟩;rcases an.1 hs with hs|hs
  ·exact hl.2 s hs
  ·rw[aL.1 hs];exact hx)
 refine c6 (λ_=>fin ⟨by dsimp only;omega,hok.cost⟩) λ_=>(Akn (Lb hok) (by omega)).bind λr hr=>?_;rw[Cv (by omega)];exact(An1 hm (by omega) (by omega)).bind λx hx=>fin hx
theorem Anm(hm:V8 n m){y:List Int}(hy:y.length=n):Ok (Al7 m y) λl=>l.length=n/\∀s,s∈l->Gy s:=by
 unfold Al7;have hlen:=hm.len;have hf:=hm.few;refine Ok.andThen (A:=λl=>l.length=n/\∀s,s∈l->Gy s) (B:=λ(_:Unit)=>False) ?_ (λ_ h=>Ok.pure h) (λ_ h=>h.elim);refine c8 (I:=λj l=>l.length=j/\∀s,s∈l->Gy s) ⟨rfl,by simp⟩ (λj t l ht hl=>?_) λl hl=>by rw[hlen]at hl;exact hl
 have hj:=(aa.1 ht).1;have hok:=hm.thr t (af ht);have hmx:=hok.max;unfold Aiq;rw[Cv (by omega)];refine(cR (by omega) (by omega)).bind λv _=>(Ast (Lb hok) (by omega) v).bind λr hr=>(An0 hm (by omega) (by omega)).bind λx hx=>(cS (by simp;omega)).bind λw hw=>c7 ?_;subst hw;refine⟨by simp;omega,λs hs=>?_⟩;rcases an.1 hs with hs|hs
 ·exact hl.2 s hs
 ·rw[aL.1 hs];exact hx
theorem Arv(h:Gx t)(n:Int):Alx t n=some ⟨t.Kind,t.Station,min t.Max (max n 0),t.Rate,t.Cost,t.Cx⟩/\Gx ⟨t.Kind,t.Station,min t.Max (max n 0),t.Rate,t.Cost,t.Cx⟩:=by
 have h1:=h.arcs;have h2:=h.max;refine⟨?_,h.kind,h.station,by dsimp only;omega,h.rate,h.cost,h.arcs,h.arc⟩;unfold Alx Alv;rw[G9 (by omega)];rfl
variable{s:B3}
theorem At8(hs:I6 s)(most:List Int)(last:List Bz)(ns:List Int):Ok (Zi s most last ns) λy=>y.2=0->V8 s.A3.length y.1:=by
 have hl:=hs.len;unfold Zi;rw[N9 hs,ab];refine c6 (λhc=>by cases hc) λ_=>c6 (λ_=>Ok.pure λh=>by cases h) λhc=>(Hb _ _ _).bind λa _=>Ok.bind (P:=λ_=>True) (c9 (λ_=>(Hb _ _ _).mono λ_ _=>trivial) λ_=>trivial) λb _=>c6 (λ_=>Ok.pure λh=>by cases h) λ_=>?_;simp only[Adp,bj,b9,dH,dC]at hc;refine Ok.andThen (A:=λz=>z.length=s.A3.length/\∀t,t∈z->Gx t) (B:=λ(_:Unit)=>False) ?_ (λz hz=>?_) (λ_ h=>h.elim)
 ·refine c8 (I:=λj z=>z.length=j/\∀t,t∈z->Gx t) ⟨rfl,by simp⟩ (λj t z ht hz=>?_) λz hz=>hz;have hj:=(aa.1 ht).1;unfold zU;rw[Cv (by omega)];refine(cR (by omega) (by omega)).bind λv _=>?_;obtain⟨w1,w2⟩:=Arv (hs.thr t (af ht)) v;rw[w1,ab];refine(cS (by simp;omega)).bind λw hw=>c7 ?_;subst hw;refine⟨by simp;omega,λx hx=>?_⟩;rcases an.1 hx with hx|hx
  ·exact hz.2 x hx
  ·rw[aL.1 hx];exact w2
 ·refine Ok.andThen (A:=λ_=>True) (B:=λr=>r.2≠0) ?_ (λ_ _=>Ok.pure λ_=>⟨hz.1,hl,?_,hz.2⟩) (λr h=>Ok.pure λe=>absurd e h)
  ·refine c8 (I:=λ_ _=>True) trivial (λj v z _ _=>?_) λ_ _=>trivial;unfold zT;exact(Hb _ _ _).bind λ_ _=>c6 (λ_=>Ok.ret (by decide)) λ_=>c7 trivial
  ·rcases hc.1.2 with h|h
   ·exact .inl (by cases h2:last with
     |nil=>rfl
     |cons a b=>rw[h2]at h;simp at h)
   ·exact .inr (by dsimp only;omega)
theorem Ash(hs:I6 s)(most:List Int)(last:List Bz)(d:Cg):Ok (Al8 s most last d) λy=>y.2=0->V8 s.A3.length y.1/\(-500000<=d.Bow/\d.Bow<=500000)/\(-500000<=d.Stern/\d.Stern<=500000) /\ -500000<=d.Surge/\d.Surge<=500000:=by
 have hl:=hs.len;unfold Al8;refine(Ok.mkI (by omega) (by omega)).bind λz _=>(At8 hs most last z).bind λy hy=>?_;refine Ok.bind (P:=λb=>y.2=0->b=true->∀x,x∈[d.Surge,d.Bow,d.Stern] -> -500000<=x/\x<=500000) (c9 (λ_=>(Hb _ _ _).mono λb hb _=>hb (by simp)) λhn he=>absurd ⟨by simpa using he,trivial⟩ hn) λb hb=>c6 (λ_=>Ok.pure λh=>by cases h) λhc=>Ok.pure λhe=>?_;have he2:y.2=0:=he;have hbt:b=true:=by
  simp only[he2,beq_self_eq_true,bz,cJ]at hc;exact hc
 have:=hb he2 hbt;exact⟨hy he2,this _ (by simp),this _ (by simp),this _ (by simp)⟩
theorem Anh(hs:I6 s)(l:List Bz):Ok (Al6 s l) λ_=>True:=by
 have hl:=hs.len;unfold Al6;rw[N9 hs,ab];refine c6 (λhc=>by cases hc) λ_=>c6 (λ_=>Ok.pure trivial) λhc=>?_;simp only[Apq,dH]at hc;refine Ok.andThen (A:=λ_=>True) (B:=λ_=>True) ?_ (λ_ _=>Ok.pure trivial) (λ_ _=>Ok.pure trivial);refine c8 (I:=λ_ _=>True) trivial (λj v z hv _=>?_) λ_ _=>trivial;have hj:=(aa.1 hv).1;unfold Aip;refine c6 (λ_=>Ok.ret trivial) λ_=>?_;rw[Cv (by omega)];exact(cR (by omega) (by omega)).bind λ_ _=>c6 (λ_=>c7 trivial) λ_=>c7 trivial
theorem Ag9(hs:I6 s)(most:List Int)(last:List Bz)(d:Cg):Ok (Amd s most last d) λy=>y.2=0->y.1.Thrusts.length=s.A3.length:=by
 have hl:=hs.len;unfold Amd;refine(Ash hs most last d).bind λy hy=>c6 (λhc=>Ok.pure λh=>?_) λhc=>?_
 ·have h2:y.2=0:=h;rw[h2]at hc;cases hc
 simp only[dH]at hc;obtain⟨hm,h1,h2,h3⟩:=hy hc;refine(Wn hm 0).bind λa ha=>(Qz (by omega) ha.2 h1).bind λb hb=>(Wn hm 1).bind λc hc=>(Qz (by omega) hc.2 h2).bind λe he=>?_;refine Ok.andThen (A:=λz=>z.length=s.A3.length) (B:=λ(_:Unit)=>False) ?_ (λz hz=>?_) (λ_ h=>h.elim)
 ·refine c8 (I:=λ_ z=>z.length=s.A3.length) (by omega) (λj v z hv hz=>?_) λz hz=>hz;have hj:=(aa.1 hv).1;unfold Aiw;rw[Cv (by omega)];refine(cR (by omega) (by omega)).bind λ_ _=>(cR (by omega) (by omega)).bind λ_ _=>(cV (by omega) (by omega)).bind λw hw=>c7 ?_;rw[hw,bm];exact hz
 ·refine(Anm hm hz).bind λf hf=>(Qz (by omega) hf.2 h3).bind λg hg=>?_;refine Ok.andThen (A:=λw=>w.length=s.A3.length) (B:=λ(_:Unit)=>False) ?_ (λw hw=>(Anh hs w).bind λ_ _=>Ok.pure λ_=>hw) (λ_ h=>h.elim);refine c8 (I:=λj w=>w.length=j) rfl (λj v w hv hw=>?_) λw hw=>by rw[hz]at hw;exact hw
  have hj:=(aa.1 hv).1;unfold Aiv;rw[Cv (by omega)];refine(cR (by omega) (by omega)).bind λ_ _=>(cS (by simp;omega)).bind λu hu=>c7 ?_;rw[hu];simp;omega
theorem Abh(hs:I6 s)(f:A4):Ok (Al9 s f) λ_=>True:=by
 unfold Al9;rw[N9 hs,ab];exact c6 (λhc=>by cases hc) λ_=>(Hb _ _ _).bind λ_ _=>Ok.bind (P:=λ_=>True) (c9 (λ_=>(Hb _ _ _).mono λ_ _=>trivial) λ_=>trivial) λ_ _=>c6 (λ_=>Ok.pure trivial) λ_=>(Ach _ _).bind λ_ _=>(Hb _ _ _).bind λ_ _=>c6 (λ_=>Ok.pure trivial) λ_=>Ok.pure trivial
theorem An9(hs:I6 s)(able:List Int)(f:A4):Ok (Am0 s able f) λ_=>True:=by
 unfold Am0 Au3 Au2 Aux Aut;refine Ok.bind (P:=λ_=>True) (Ok.bind (P:=λ_=>True) (Ok.bind (P:=λ_=>True) (Ok.bind (P:=λ_=>True) ?_ λ_ _=>Ok.pure trivial) λ_ _=>c6 (λ_=>Ok.pure trivial) λ_=>(Abh hs _).bind λ_ _=>Ok.pure trivial) λd _=>c6 (λ_=>Ok.pure trivial) λ_=>(Ag9 hs able [] d.1).bind λ_ _=>c6 (λ_=>Ok.pure trivial) λ_=>Ok.pure trivial) λ_ _=>Ok.pure trivial;refine Ok.andThen (A:=λ_=>True) (B:=λ_=>True) ?_ (λ_ _=>Ok.pure trivial) (λ_ _=>Ok.pure trivial);refine c8 (I:=λ_ _=>True) trivial (λj x z _ _=>?_) λ_ _=>trivial;unfold Ain;exact c6 (λ_=>Ok.ret trivial) λ_=>c7 trivial
set_option linter.unusedVariables false
theorem Agm(p:Am)(l:List A8):Ok (Qn l p) λ_=>True:=by
 unfold Qn Z7;refine Ok.bind (P:=λ_=>True) ?_ (λ_ _=>Ok.pure trivial);refine Ok.andThen (A:=λ_=>True) (B:=λ_=>True) ?_ (λ_ _=>Ok.pure trivial) (λ_ _=>Ok.pure trivial);refine c8 (I:=λ_ _=>True) trivial (λj x s hx _=>?_) λ_ _=>trivial;unfold Vi;exact c6 (λ_=>Ok.ret trivial) λ_=>c7 trivial
theorem qG(h:Ax b)(y:Bt)(hp:Aw b p.Power):Ok (F49 b y p) λ_=>True:=by
 unfold F49;rw[Oh h hp];simp only[ab];refine c6 (λ_=>Ok.pure trivial) λ_=>c6 (λ_=>Ok.pure trivial) λ_=>c6 (λ_=>Ok.pure trivial) λ_=>?_;rw[(Ahj (hp.lens h) _).1];simp only[ab];exact Ok.bind (P:=λ_=>True) (c9 (λ_=>Agm _ _) λ_=>trivial) λ_ _=>c6 (λ_=>Ok.pure trivial) λ_=>Ok.pure trivial
variable{l:List Ab}
theorem Alc(hl:Es l)(hn:l.length<=1000):Qm l=some l:=by
 refine cY ?_;unfold Qm;refine c6 (λ_=>Ok.pure rfl) λ_=>Ok.andThen (A:=λ_=>True) (B:=λ(_:Unit)=>False) ?_ (λ_ _=>Ok.pure rfl) (λ_ h=>h.elim);refine cQ (λz=>1<=z/\z<=1001) (λz=>((l.length:Int)-z).toNat) _ _ ⟨by omega,by omega⟩ (by omega) λz hz=>?_;unfold Aam;refine c6 (λhc=>?_) (λ_=>cU trivial);simp only[dA]at hc;rw[Az (n:=z-1) (by omega),Az (n:=z+1) (by omega)];refine(cR (by omega) hc).bind λa ha=>(cR (by omega) (by omega)).bind λb hb=>c6 (λhe=>?_) λ_=>c7 ⟨by omega,by omega⟩;simp only[Ad3,M3]at he;have:=Un hl hb ha (by omega);rw[Di.1 he,Jf]at this;cases this
theorem And{b:List Ab}(h:(a++b).Nodup)(hn:(a++b).length<=900):F68 a b=some (Ka a b):=by
 unfold F68 Abg Iq;have e:([a,b]:List (List Ab)).flatten=a++b:=by simp
 rw[e,dF (by omega)];have hs:=Qr a b;rw[aC]at hn;show Qm (Hc (a++b))=_;rw[Wh h];exact Alc (Ajv a b) (by show (Ka a b).length<=1000;omega)
structure O6(v:A5)(n:Nat)(p:Am):Prop where
 st:Aw v.Board p.Power
 ros:p.A_.length<=1000
 ev:p.Be.length<=10001*n
def nxP(v:A5)(p:Am)(a:As):Am:=⟨p.Time,doP v.Board p.Power p.Time a,p.A_,p.Be++doE v.Board p.Power p.Time a⟩
theorem O6.next(h:Ax v.Board)(hp:O6 v n p)(a:As):O6 v (n+1) (nxP v p a) where
 st:=Apc h hp.st _ _
 ros:=hp.ros
 ev:=by
  have h1:=Xe h hp.st p.Time a;have h2:=hp.ev;show (p.Be++_).length<=_;rw[aC];omega
theorem Ab5(h:Ks v)(hn:n<=9)(hp:O6 v n p)(hb:∀x,x∈broken->Fy x)(hf:∀x,x∈fails->Fy x)(hbn:broken.length<=20)(hfn:fails.length<=40)(f:A4):Ok (F69 v p broken fails f) λ_=>True:=by
 have he:=hp.ev;obtain⟨c,hc,_⟩:=qG h.Ap v.Table hp.st;unfold F69;exact(Aap h hp.st hp.ros (by omega) hc hb hf hbn hfn).bind λy _=>Ok.bind (P:=λ_=>True) (c9 (λ_=>An9 h.ship _ _) λ_=>trivial) λ_ _=>Ok.pure trivial
theorem Aqo(h:D6 b l):l.Nodup:=by
 have ha:∀(n i:Nat) x y,l[i]? = some x->l[i+n+1]? = some y->Kt x y:=by
  intro n;induction n with
  |zero=>intro i x y hx hy;exact h.asc i x y hx hy
  |succ n ih=>
   intro i x y hx hy;have hl:=(aa.1 hy).1;have hz:l[i+n+1]? = some (l[i+n+1]'(by omega)):=aj (by omega);have h1:=ih i x _ hx hz;have h2:=h.asc (i+n+1) _ y hz (by rw[show i+n+1+1=i+(n+1)+1 from by omega];exact hy);unfold Kt at h1 h2 ⊢;omega
 refine bT.2 λi j hi hj hij=>?_;have h1:=ha (j-i-1) i _ _ (aj hi) (by rw[show i+(j-i-1)+1=j from by omega];exact aj hj);intro e;rw[e]at h1;unfold Kt at h1;omega
theorem Ay5(h:Ks v)(hS:Aw v.Board p.Power)(hb:∀x,x∈broken->Fy x)(hbn:broken.length<=20)(hd:∀x,x∈broken->4<x.Kind)(ha:broken.Nodup):F21 v.Design p broken=some (Gs v.Design.Links (Ka broken p.Power.Al)):=by
 have hbl:=hS.brk.len;have hul:=Qr broken p.Power.Al;have hnd:(broken++p.Power.Al).Nodup:=List.nodup_append.2 ⟨ha,Aqo hS.brk,λx hx y hy e=>by
  have h1:=hd x hx;have h2:=hS.brk.mem y hy;unfold Cs at h2;rw[e]at h1;omega⟩
 unfold F21;rw[And hnd (by simp;omega),ab,Acx h.des (λx hx=>?_) (by omega)]
 ·rfl
 ·rcases Aju.1 hx with hx|hx
  ·exact hb x hx
  ·exact Wl h.Ap (hS.brk.mem x hx)
theorem Atf(h:Ks v)(hn:n<=9)(hp:O6 v n p)(hb:∀x,x∈broken->Fy x)(hbn:broken.length<=20)(hd:∀x,x∈broken->4<x.Kind)(ha:broken.Nodup)(f:A4):Ok (F71 v p broken f) λy=>y.2=false->y.1=⟨0,0⟩:=by
 unfold F71 Ym Yj;rw[Ay5 h hp.st hb hbn hd ha];have hfl:=Yo v.Design.Links (Ka broken p.Power.Al);have hul:=Qr broken p.Power.Al;have hbl:=hp.st.brk.len;have hlk:=h.des.links.len;generalize Gs v.Design.Links (Ka broken p.Power.Al)=now at hfl;have hall:∀l:List Ab,(∀x,x∈l->Fy x)->Ok (Rl F53 (λl=>F69 v p broken l f) now l) λ_=>True:=by
  intro l;induction l with
  |nil=>intro _;exact Ok.pure trivial
  |cons x l ih=>
   intro hl;unfold Rl;rw[Ps _ _ (by omega),ab];have ihl:=ih λy hy=>hl y (al _ hy);refine c6 (λ_=>ihl) λ_=>(Ab5 h hn hp hb (fails:=[x]) (λy hy=>by rw[aL.1 hy];exact hl x ak) hbn (by simp) f).bind λm _=>?_;obtain⟨us,e,_⟩:=ihl;rw[e];exact⟨_,rfl,trivial⟩
 obtain⟨us,e,_⟩:=hall v.Design.Parts h.des.ok;rw[ab,e];refine⟨_,rfl,?_⟩;clear e;induction us with
 |nil=>intro _;rfl
 |cons u us ih=>
  unfold K7;cases !u.Holds with
  |true=>intro hh;cases hh
  |false=>exact ih
set_option linter.unusedVariables false
def trF(bd:Am->Bool×Ab)(nx:Am->As->Am):Nat->Am->List As->Int×Ab×Bool
 |k,p,[]=>bif (bd p).1 then ((k:Int),(bd p).2,true) else (0,⟨0,0⟩,false)
 |k,p,a::l=>bif (bd p).1 then ((k:Int),(bd p).2,true) else trF bd nx (k+1) (nx p a) l
section
variable{bd:Am->Bool×Ab}{nx:Am->As->Am}
theorem Sw{k:Nat}{l:List As}(h:(bd p).1=true):trF bd nx k p l=((k:Int),(bd p).2,true):=by
 cases l <;> simp[trF,h]
theorem Ave:∀(l:List As)(k:Nat)(p:Am),(trF bd nx k p l).2.2=false->trF bd nx k p l=(0,⟨0,0⟩,false)
 | [],k,p,h=>by
  grind[trF]
 | a::l,k,p,h=>by
  cases hb:(bd p).1 with
  |true=>rw[Sw hb]at h;cases h
  |false=>
   have e:trF bd nx k p (a::l)=trF bd nx (k+1) (nx p a) l:=by simp[trF,hb]
   rw[e]at h ⊢;exact Ave l (k+1) (nx p a) h
theorem Ane:∀(l:List As)(k:Nat)(p:Am),(trF bd nx k p l).2.2=true->∃j:Nat,j<=l.length/\(trF bd nx k p l).1=((k+j:Nat):Int)/\trF bd nx k p (l.take j)=trF bd nx k p l/\∀i,i<j->(trF bd nx k p (l.take i)).2.2=false
 | [],k,p,h=>by
  grind[trF]
 | a::l,k,p,h=>by
  cases hb:(bd p).1 with
  |true=>grind[trF]
  |false=>
   have e:∀m,trF bd nx k p (a::m)=trF bd nx (k+1) (nx p a) m:=λm=>by simp[trF,hb]
   rw[e]at h;obtain⟨j,h1,h2,h3,h4⟩:=Ane l (k+1) (nx p a) h;refine⟨j+1,by simpa using h1,by rw[e,h2];congr 1;omega,by grind,λi hi=>?_⟩;cases i with
   |zero=>simp[trF,hb]
   |succ i=>grind
end
def bdP(v:A5)(f:A4)(p:Am):Bool×Ab:=match F22 v p [] f,F71 v p [] f with
 |some h,some y=>bif !h then (true,⟨0,0⟩) else (y.2,y.1)
 |_,_=>(false,⟨0,0⟩)
theorem Av4(h:Ks v)(hn:n<=9)(hp:O6 v n p)(f:A4):∃a y,F22 v p [] f=some a/\F71 v p [] f=some y/\bdP v f p=bif !a then (true,⟨0,0⟩) else (y.2,y.1):=by
 have h1:Ok (F22 v p [] f) λ_=>True:=by
  unfold F22;exact(Ab5 h hn hp (broken:=[]) (fails:=[]) (by simp) (by simp) (by simp) (by simp) f).bind λ_ _=>Ok.pure trivial
 obtain⟨a,ea,_⟩:=h1;obtain⟨y,ey,_⟩:=Atf h hn hp (broken:=[]) (by simp) (by simp) (by simp) (by simp) f;exact⟨a,y,ea,ey,by unfold bdP;rw[ea,ey]⟩
theorem Aha(h:Ks v)(hp:Qa v.Board v.Table p)(he:p.Be=[])(ha:acts.length<=5)(f:A4):F40 v p [] acts f=some (trF (bdP v f) (nxP v) 0 p acts):=by
 have hbu:=h.Ap.buses;have hro:=hp.nro;have hp0:O6 v 0 p:=⟨hp.st,by omega,by rw[he];simp⟩;refine cY ?_;unfold F40;refine(Avb h hp (by rw[he];simp) (broken:=[]) (fails:=[]) (by simp) (by simp) (by simp) (by simp)).bind λy hy=>c6 (λhc=>?_) λ_=>?_
 ·simp only[Av2,hy.err,ay,dA]at hc;rcases hc with hc|hc
  ·cases hc
  ·omega
 refine Ok.andThen (A:=λ_=>False) (B:=λr=>r=trF (bdP v f) (nxP v) 0 p acts) ?_ (λ_ h=>h.elim) (λr hr=>Ok.pure hr);refine cQ (λz=>∃(k:Nat)(q:Am),z=((k:Int),q.Time,q.Power.Ai,q.Power.Ae,q.Power.Ao,q.Power.Al,q.A_,q.Be)/\k<=acts.length/\O6 v k q/\trF (bdP v f) (nxP v) k q (acts.drop k)=trF (bdP v f) (nxP v) 0 p acts) (λz=>((acts.length:Int)-z.1).toNat) _ _ ⟨0,p,rfl,by omega,hp0,rfl⟩ (by dsimp only;omega) ?_;rintro _ ⟨k,q,rfl,hk,hq,hT⟩;obtain⟨a,y,ea,ey,eb⟩:=Av4 h (by omega) hq f;unfold Ara;refine Ok.bind (P:=λx=>x=a) (cT ea rfl) λx hx=>?_;subst hx;refine c6 (λhc=>Ok.ret ?_) λhc=>Ok.bind (P:=λu=>u=y) (cT ey rfl) λu hu=>?_
 ·rw[hc]at eb;rw[←hT,Sw (by rw[eb];rfl),eb];rfl
 subst hu;rw[hc,cond_false]at eb;refine c6 (λhy2=>Ok.ret ?_) λhy2=>?_
 ·rw[←hT,Sw (by rw[eb];exact hy2),eb]
 have hb:(bdP v f q).1=false:=by rw[eb];exact hy2
 by_cases hkl:k=acts.length
 ·subst hkl;refine c6 (λ_=>Ok.ret ?_) λhn=>by simp at hn
  rw[←hT,List.drop_length];simp[trF,hb]
 ·refine c6 (λhn=>by simp at hn;omega) λ_=>(cR (by dsimp only;omega) (by dsimp only;omega)).bind λc hc2=>?_;have hev:=hq.ev;refine Ok.bind (P:=λw=>w=(nxP v q c,doS v.Board q.Power q.Time c,0)) (cT (Art h.Ap hq.st hq.ros (by omega) c) rfl) λw hw=>?_;subst hw;refine c6 (λ_=>c7 ⟨⟨k+1,nxP v q c,?_,by omega,hq.next h.Ap c,?_⟩,?_⟩) λhn=>by simp at hn
  ·dsimp only;rw[Az (by omega)];rfl
  ·rw[←hT];have hk2:k<acts.length:=by omega
   rw[aI]at hc2;obtain⟨_,ec⟩:=aa.1 hc2;rw[cN hk2,ec];simp[trF,hb]
  ·dsimp only;rw[Az (by omega)];omega
theorem Awk(h:Ks v)(hn:n<=9)(hp:O6 v n p)(f:A4):F25 v p [] f=some (!(bdP v f p).1):=by
 obtain⟨a,y,ea,ey,eb⟩:=Av4 h hn hp f;unfold F25;grind
theorem Tb(n:Int):Ok (F66 n 100) λ_=>True:=by
 unfold F66;rw[Az (n:=2*100) (by omega)];exact(Ok.nzI (by omega)).bind λ_ _=>(Ok.nzI (by omega)).bind λ_ _=>c6 (λ_=>Ok.pure trivial) λ_=>Ok.pure trivial
theorem Aka(f:A4)(n:Int):Ok (F18 f n) λ_=>True:=by
 unfold F18;exact c6 (λ_=>Ok.pure trivial) λ_=>(Tb _).bind λ_ _=>(Tb _).bind λ_ _=>(Tb _).bind λ_ _=>Ok.pure trivial
theorem Aun{s:Af}(hs:A1 s):Ok (F19 s) λy=>A1 y.2:=by
 grind[F19,Ok.bind,Eh,Ok.pure]
theorem X6:F9=some true:=by kernel_rfl
theorem Anf{bd:Am->Bool×Ab}{nx:Am->As->Am}(p:Am):(trF bd nx 0 p []).2.2=(bd p).1:=by
 cases h:(bd p).1 <;> simp[trF,h]
theorem Aaq(bd:Am->Bool×Ab)(nx:Am->As->Am)(p:Am)(y14:List As×Af)(hl:y14.1.length<=3){T:List As->Option (Int×Ab×Bool)}(hT:∀l:List As,l.length<=3->T l=some (trF bd nx 0 p l)) :
  (bif (uI y14 (trF bd nx 0 p []) (trF bd nx 0 p y14.1) (!(bd p).1))then some false else bif !(trF bd nx 0 p y14.1).2.2 then (Au [((((trF bd nx 0 p y14.1).1==0)&&(((trF bd nx 0 p y14.1).2.1.Kind==0)&&(((trF bd nx 0 p y14.1).2.1.Number==0)&&true))),true)] (F9) default).bind λy24=>some ((((trF bd nx 0 p y14.1).1==0)&&(((trF bd nx 0 p y14.1).2.1.Kind==0)&&(((trF bd nx 0 p y14.1).2.1.Number==0)&&true)))&&y24) else (cutI y14.1 0 (trF bd nx 0 p y14.1).1).bind λy27=>(T y27).bind λy28=>bif (Alh (trF bd nx 0 p y14.1) y28)then some false else bif decide ((trF bd nx 0 p y14.1).1>0)then (cutI y14.1 0 (w64 ((trF bd nx 0 p y14.1).1-1))).bind λy33=>(T y33).bind λy34=>(Au [(!y34.2.2,true)] (F9) default).bind λy36=>some ((!y34.2.2)&&y36) else (F9).bind λy38=>some y38)=some true:=by
 cases hb:(trF bd nx 0 p y14.1).2.2 with
 | false=>
  have e:=Ave y14.1 0 p hb;have hp:(bd p).1=false:=by
   cases h:(bd p).1 with
   |false=>rfl
   |true=>rw[Sw h]at hb;cases hb
  have hc:uI y14 (trF bd nx 0 p []) (trF bd nx 0 p y14.1) (!(bd p).1)=false:=by
   simp only[uI,Anf,hp,e];simp
  rw[hc,e,X6];rfl
 | true=>
  obtain⟨j,h1,h2,h3,h4⟩:=Ane y14.1 0 p hb;rw[aF]at h2;have hc:uI y14 (trF bd nx 0 p []) (trF bd nx 0 p y14.1) (!(bd p).1)=false:=by
   simp only[uI,Anf,hb,h2];cases h:(bd p).1 with
   |false=>simp;omega
   |true=>rw[Sw h]at h2;simp at h2;simp;omega
  have hcut:∀i:Nat,i<=j->cutI y14.1 0 (i:Int)=some (y14.1.take i):=λi hi=>
   cY ((Ok.cutI (by omega) (by omega) (by omega)).mono λy hy=>by rw[hy];simp)
  have hc1:Alh (trF bd nx 0 p y14.1) (trF bd nx 0 p y14.1)=false:=by
   simp[Alh,hb]
  rw[hc,cond_false,aR,cond_false,h2,hcut j (by omega),ab,hT _ (by simp;omega),ab,h3,hc1,cond_false];cases j with
  |zero=>rw[X6];rfl
  |succ i=>
   have e1:w64 (((i+1:Nat):Int)-1)=(i:Int):=by rw[Az (by omega)];omega
   have e2:decide (((i+1:Nat):Int)>0)=true:=dF (by omega);rw[e1,e2,cond_true,hcut i (by omega),ab,hT _ (by simp;omega),ab,h4 i (by omega),X6];rfl
theorem consequenceTransfers_law(t:List Int):F8 t=some true:=by
 refine cY ?_;unfold F8;refine c6 (λ_=>(cT X6 rfl).bind λ_ h=>Ok.pure h.symm) (λ_=>(A14 t).bind λs hs=>(Ajs hs).bind λw hw=>(Aun hw.2.2).bind λu hu=>(Ct hu _ (by simp) (by simp)).bind λpc hpc=>(Aka _ _).bind λf _=>(Ayr hw.1.Ap hpc.1 (n:=3) (by omega) (by omega)).bind λac hac=>?_);obtain⟨hv,⟨hp,_,hE,_⟩,_⟩:=hw;have hp0:O6 w.1 0 w.2.1:=⟨(hp w.1.Table).st,by have:=(hp w.1.Table).nro;have:=hv.Ap.buses;omega,by rw[hE];simp⟩;have hT:∀l:List As,l.length<=3->F40 w.1 w.2.1 [] l f=some (trF (bdP w.1 f) (nxP w.1) 0 w.2.1 l):=λl hl=>Aha hv (hp w.1.Table) hE (by omega) f;have hl:ac.1.length<=3:=by have:=hac.2;omega
 rw[hT [] (by simp),ab,hT ac.1 hl,ab,Awk hv (by omega) hp0 f,ab];exact cT (Aaq (bdP w.1 f) (nxP w.1) w.2.1 ac hl hT) rfl
end Go.Proofs.YtiaaaghdkhnonaaGreat
