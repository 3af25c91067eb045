import Derived.Test.YtiaaaghdkhnonaaGreatMo
import Derived.Test.YtiaaaghdkhnonaaGreatHo
import Derived.Test.YtiaaaghdkhnonaaGreatDx
namespace Go.Proofs.YtiaaaghdkhnonaaGreat
open Go.SL
variable{α ρ:Type}{d:A3}{x y:Aa}{b:Ab}{p:Ad}{s s0:Af}{like:Aj}{q:Ak->Bool}{z:Ak×Bool}{a hi k lo nb st:Int}{l:List Aa}{ss:List Aj}{l0:List Ak}{acts:List Aw}{so:List B5}{C c t:List Bool}{idx:List Int}{B f i j m n ns r:Nat}
variable{n x:Int}
theorem Q6(h:0<n):-n<Int.tmod x n/\Int.tmod x n<n:=by
 have h1:=Int.tmod_lt_of_pos x h;have h2:=Int.lt_tmod_of_pos x h;exact⟨h2,h1⟩
theorem qC(h:0<n)(h0:0<=x):0<=Int.tmod x n/\Int.tmod x n<n:=⟨Int.tmod_nonneg n h0,(Q6 h).2⟩
structure A1(s:Af):Prop where
 lo:0<=s.At
 hi:s.At<=s.L.length
 len:s.L.length<=600
def InR(n r:Int):Prop:=(1<=n->0<=r/\r<n)/\(n<1->r=0)
theorem A2x(x n:Int)(h:n<=4611686018427387904):Ok (F94 x n) (InR n):=by
 unfold F94;refine c6 (λh1=>?_) λh1=>?_
 ·simp only[dy]at h1;exact Ok.pure ⟨λh2=>by omega,λ_=>rfl⟩
 ·simp only[dz]at h1;refine(Ok.nzI (by omega)).bind λ_ _=>(Ok.nzI (by omega)).bind λ_ _=>Ok.pure ⟨λ_=>?_,λh2=>by omega⟩;have h2:=Q6 (x:=x) (n:=n) (by omega);rw[Az (by omega)];exact qC (by omega) (by omega)
theorem A5u(hs:A1 s)(n:Int)(h:n<=4611686018427387904):Ok (F44 s n) λy=>A1 y.2/\InR n y.1:=by
 obtain⟨h1,h2,h3⟩:=hs;unfold F44;refine c6 (λh4=>?_) λh4=>?_
 ·exact Ok.pure ⟨⟨h1,h2,h3⟩,λh5=>⟨by simp,by show (0:Int)<n;omega⟩,λ_=>rfl⟩
 ·simp only[dz]at h4;have e:w64 (s.At+1)=s.At+1:=Az (by omega);rw[e,Az (n:=s.At+1-1) (by omega)];refine(cP (by omega) (by omega)).bind λx _=>(A2x x n h).bind λr hr=>Ok.pure ⟨⟨?_,?_,h3⟩,hr⟩
  ·show 0<=s.At+1;omega
  grind
theorem C6(hs:A1 s)(n:Int)(h0:1<=n)(h:n<=4611686018427387904):Ok (F44 s n) λy=>A1 y.2/\0<=y.1/\y.1<n:=
 (A5u hs n h).mono λ_ h=>⟨h.1,h.2.1 h0⟩
theorem Fe(hs:A1 s)(lo hi:Int)(h:lo<=hi)(h0:-1000000000000<=lo)(h1:hi<=1000000000000):Ok (F67 s lo hi) λy=>A1 y.2/\lo<=y.1/\y.1<=hi:=by
 unfold F67;have e:w64 (w64 (hi-lo)+1)=hi-lo+1:=by rw[Az (n:=hi-lo) (by omega),Az (by omega)]
 rw[e];refine(C6 hs _ (by omega) (by omega)).bind λy hy=>Ok.pure ⟨hy.1,?_⟩;have:=hy.2;show lo<=w64 (lo+y.1)/\w64 (lo+y.1)<=hi;rw[Az (by omega)];omega
theorem Cx(hs:A1 s)(l:List Int)(h:1<=l.length)(h1:l.length<=1000):Ok (F20 s l) λy=>A1 y.2/\y.1∈l:=by
 unfold F20;grind[Ok.bind,C6,cP,Ok.pure]
theorem A2w(l:List Int):Ok (F10 l) A1:=by
 unfold F10;refine(Ok.cutI (by omega) (by omega) (by omega)).bind λy hy=>Ok.pure ⟨by simp,by simp,?_⟩;grind
def Sx(nb:Int)(ns nc:Nat)(x:Ak):Prop:=
 (0<=x.A/\x.A<nb)/\((x.Kind=1/\x.A<x.B/\x.B<nb)\/(x.Kind=2/\0<=x.B/\x.B<ns)\/(x.Kind=3/\0<=x.B/\x.B<nc))
def brs(l:List Ak)(k:Int)(i:Nat):List Ak:=l.filter λx=>x.Kind==k&&x.B==(i:Int)
def Alv(x:B5):Prop:=(1<=x.Rating/\x.Rating<=50000)/\(0<=x.Least/\x.Least<=x.Rating)/\0<=x.Start/\x.Start<=600
def Ang(i:Nat)(x:A7):Prop:=
 (0<=x.Load/\x.Load<=50000)/\(0<=x.Least/\x.Least<=x.Load)/\(0<=x.B2/\x.B2<=15)/\(-1<=x.Thruster/\x.Thruster<=7)/\x.Needs.length<=4 /\
 (∀n,n∈x.Needs->0<=n/\n<(i:Int))/\∀(j:Nat) a b,x.Needs[j]? = some a->x.Needs[j+1]? = some b->a<b
structure Ax(b:Ab):Prop where
 buses:1<=b.Am/\b.Am<=6
 brl:b.Ah.length<=24
 sol:b.Ae.length<=8
 col:b.Ag.length<=16
 phase:0<=b.Phase/\b.Phase<=1800
 freq:0<=b.Aq/\b.Aq<=6000
 br:∀x,x∈b.Ah->Sx b.Am b.Ae.length b.Ag.length x
 one:∀i,i<b.Ae.length->(brs b.Ah 2 i).length=1
 any:∀i,i<b.Ag.length->brs b.Ah 3 i≠[]
 nodup:∀i,((brs b.Ah 3 i).map (·.A)).Nodup
 so:∀x,x∈b.Ae->Alv x
 co:∀(i:Nat) x,b.Ag[i]? = some x->Ang i x
theorem Hq(l m:List Ak)(k:Int)(i:Nat):brs (l++m) k i=brs l k i++brs m k i:=by unfold brs;rw[bm]
theorem Ail(x:Ak)(k:Int)(i:Nat):brs [x] k i=if x.Kind=k/\x.B=(i:Int)then [x] else []:=by
 unfold brs;grind
variable{l:List Ak}
theorem Le(h:∀x,x∈l->x.Kind=k->x.B≠(i:Int)):brs l k i=[]:=by
 unfold brs;rw[cH];grind
def Mn(nb:Int)(l:List Ak):Prop:=∀x,x∈l->x.Kind=1/\0<=x.A/\x.A<x.B/\x.B<nb
structure Pl(nb:Int)(l:List Ak)(so:List B5):Prop where
 len:l.length<=4+so.length
 br:∀x,x∈l->(0<=x.A/\x.A<nb)/\((x.Kind=1/\x.A<x.B/\x.B<nb)\/(x.Kind=2/\0<=x.B/\x.B<so.length))
 one:∀i,i<so.length->(brs l 2 i).length=1
 so:∀x,x∈so->Alv x
structure Sw(nb:Int)(l:List Ak)(ns:Nat)(co:List A7):Prop where
 len:l.length<=4+ns+2*co.length
 br:∀x,x∈l->Sx nb ns co.length x
 one:∀i,i<ns->(brs l 2 i).length=1
 any:∀i,i<co.length->brs l 3 i≠[]
 nodup:∀i,((brs l 3 i).map (·.A)).Nodup
 co:∀(i:Nat) x,co[i]? = some x->Ang i x/\x.Thruster<=7
theorem Pl.cons(h:Pl nb l so):Sw nb l so.length [] where
 len:=by have:=h.len;simp;omega
 br x hx:=by
  obtain⟨h1,h2⟩:=h.br x hx;exact⟨h1,h2.imp id .inl⟩
 one:=h.one
 any i hi:=by simp at hi
 nodup i:=by
  rw[Le]
  ·simp
  ·intro x hx h3;obtain⟨_,h2⟩:=h.br x hx;omega
 co i x hx:=by simp at hx
theorem Pl.add(h:Pl nb l so){x:Ak}{y:B5}(hx:x.Kind=2/\x.B=so.length/\0<=x.A/\x.A<nb)(hy:Alv y):Pl nb (l++[x]) (so++[y]) where
 len:=by have:=h.len;simp;omega
 br z hz:=by
  rcases am.1 hz with hz|hz
  ·obtain⟨h1,h2⟩:=h.br z hz;grind
  grind
 one i hi:=by
  rw[aB]at hi;simp only[aR,bP]at hi;rw[Hq,Ail,aB];by_cases e:i=so.length
  ·rw[Le,if_pos ⟨hx.1,by omega⟩]
   ·rfl
   ·intro z hz h2;obtain⟨_,h3⟩:=h.br z hz;omega
  ·rw[h.one i (by omega),if_neg (by omega)];rfl
 so z hz:=by
  rcases am.1 hz with hz|hz
  ·exact h.so z hz
  ·simp at hz;subst hz;exact hy
theorem Sw.add{m:List Ak}{co:List A7}(h:Sw nb l ns co){y:A7}(hm:∀x,x∈m->x.Kind=3/\x.B=co.length/\0<=x.A/\x.A<nb)(h1:m≠[])(h2:m.length<=2)(h3:(m.map (·.A)).Nodup)
  (hy:Ang co.length y/\y.Thruster<=7):Sw nb (l++m) ns (co++[y]):=by
 have e1:brs m 3 co.length=m:=by
  unfold brs;rw[ck];intro x hx;obtain⟨g1,g2,_⟩:=hm x hx;simp[g1,g2]
 have e2:∀i,i≠co.length->brs m 3 i=[]:=λi hi=>Le λx hx _ e=>by
  have:=(hm x hx).2.1;omega
 have e3:brs l 3 co.length=[]:=Le λx hx h3 e=>by
  obtain⟨_,g⟩:=h.br x hx;omega
 have hlen:(co++[y]).length=co.length+1:=by simp
 refine⟨?_,λz hz=>?_,λi hi=>?_,λi hi=>?_,λi=>?_,λi x hx=>?_⟩
 ·have:=h.len;rw[aB,hlen];omega
 ·rw[hlen];rcases am.1 hz with hz|hz
  ·obtain⟨g1,g2⟩:=h.br z hz;exact⟨g1,by omega⟩
  ·obtain⟨g1,g2,g3⟩:=hm z hz;exact⟨g3,by omega⟩
 ·have:brs m 2 i=[]:=Le λx hx h2=>by have:=(hm x hx).1;omega
  rw[Hq,this,aX];exact h.one i hi
 ·rw[Hq];rw[hlen]at hi;by_cases e:i=co.length
  ·subst e;rw[e1];simp[h1]
  ·have:=h.any i (by omega);simp[this]
 ·rw[Hq];by_cases e:i=co.length
  ·subst e;rw[e1,e3];simpa using h3
  ·rw[e2 i e,aX];exact h.nodup i
 ·rw[cj]at hx;split at hx
  ·exact h.co i x hx
  grind
theorem Mn.nil(nb:Int):Mn nb []:=λx hx=>by cases hx
theorem Mn.add(h:Mn nb l){x:Ak}(hx:x.Kind=1/\0<=x.A/\x.A<x.B/\x.B<nb):Mn nb (l++[x]):=λz hz=>by
 rcases am.1 hz with hz|hz
 ·exact h z hz
 ·simp at hz;subst hz;exact hx
theorem Mn.gens(h:Mn nb l)(hl:l.length<=4):Pl nb l [] where
 len:=by simpa using hl
 br x hx:=by have:=h x hx;exact⟨by omega,.inl (by omega)⟩
 one i hi:=by simp at hi
 so x hx:=by cases hx
variable{y:Int×Af}
theorem Aun(hy:1<=y.1/\y.1<=4)(hs0:A1 s0) :
  Ok (whileN (Aev y) 1152921504606846976 (1,s0.L,s0.At,([]:List Ak))) (Ep (λs=>A1 ⟨s.2.1,s.2.2.1⟩/\Mn y.1 s.2.2.2/\s.2.2.2.length<=3) (λ(_:Unit)=>False)):=by
 refine cO (λs=>(1<=s.1/\s.1<=4/\s.1<=y.1)/\A1 ⟨s.2.1,s.2.2.1⟩/\Mn y.1 s.2.2.2/\(s.2.2.2.length:Int)+1<=s.1) (λs=>(y.1-s.1).toNat) _ _ ?_ ?_ ?_
 ·exact⟨by dsimp only;omega,hs0,Mn.nil _,by simp⟩
 ·dsimp only;omega
 ·rintro⟨i,L,a,l⟩ ⟨⟨h1,h2,h3⟩,h4,h5,h6⟩;dsimp only at h1 h2 h3 h4 h5 h6;unfold Aev;refine c6 (λh=>?_) (λh=>?_)
  ·simp only[dy]at h;have e:w64 (i+1)=i+1:=Az (by omega);dsimp only;rw[e];refine(C6 h4 6 (by omega) (by omega)).bind λu hu=>c6 (λ_=>?_) (λ_=>?_)
   ·refine(C6 hu.1 i h1 (by omega)).bind λv hv=>(cQ (by simp;omega)).bind λm hm=>c7 ?_;subst hm;have:=hv.2;refine⟨⟨by dsimp only;omega,hv.1,h5.add ⟨rfl,by dsimp only;omega,by dsimp only;omega,by dsimp only;omega⟩,by simp;omega⟩,by dsimp only;omega⟩
   ·refine c7 ⟨⟨by dsimp only;omega,hu.1,h5,by dsimp only;omega⟩,by dsimp only;omega⟩
  ·exact cS ⟨h4,h5,by dsimp only;omega⟩
theorem Aum(hy:1<=y.1/\y.1<=4)(hs0:A1 s0)(hk:0<=k/\k<5)(hl0:Pl y.1 l0 []) :
  Ok (whileN (Aeu y) 1152921504606846976 (k,s0.L,s0.At,l0,([]:List B5))) (Ep (λs=>A1 ⟨s.2.1,s.2.2.1⟩/\Pl y.1 s.2.2.2.1 s.2.2.2.2/\s.2.2.2.2.length<=4) (λ(_:Unit)=>False)):=by
 refine cO (λs=>(0<=s.1/\s.1+(s.2.2.2.2.length:Int)<=4)/\A1 ⟨s.2.1,s.2.2.1⟩/\Pl y.1 s.2.2.2.1 s.2.2.2.2) (λs=>s.1.toNat) _ _ ?_ ?_ ?_
 ·exact⟨by simp;omega,hs0,hl0⟩
 ·dsimp only;omega
 ·rintro⟨i,L,a,l,so⟩ ⟨⟨h1,h2⟩,h4,h5⟩;dsimp only at h1 h2 h4 h5;unfold Aeu;refine c6 (λh=>?_) (λh=>?_)
  ·simp only[dy]at h;have e:w64 (i-1)=i-1:=Az (by omega);have hl:=h5.len;dsimp only;rw[e];refine(C6 h4 y.1 hy.1 (by omega)).bind λu hu=>(cQ (by simp;omega)).bind λm hm=>?_;refine(Cx hu.1 _ (by simp) (by simp)).bind λv hv=>(Cx hv.1 _ (by simp) (by simp)).bind λp hp=>(Cx hp.1 _ (by simp) (by simp)).bind λq hq=>(cQ (by simp;omega)).bind λo ho=>c7 ?_;subst hm;subst ho;have g1:=hu.2;have g2:v.1=10\/v.1=50\/v.1=100:=by simpa using hv.2
   have g3:p.1=0\/p.1=5\/p.1=v.1:=by simpa using hp.2
   have g4:q.1=0\/q.1=1\/q.1=3:=by simpa using hq.2
   refine⟨⟨by simp;omega,hq.1,h5.add ⟨rfl,rfl,g1⟩ ⟨by dsimp only;omega,by dsimp only;omega,by dsimp only;omega⟩⟩,by dsimp only;omega⟩
  ·exact cS ⟨h4,h5,by dsimp only;omega⟩
theorem Axz(h:0<=x)(h2:x<=50000):0<=w64 (Int.tdiv x 2)/\w64 (Int.tdiv x 2)<=x:=by
 have:Int.tdiv x 2=x / 2:=cr h;rw[this,Az (by omega)];omega
theorem Asj(h:0<=x)(h2:x<=50000):0<=w64 (Int.tdiv x 3)/\w64 (Int.tdiv x 3)<=x:=by
 have:Int.tdiv x 3=x / 3:=cr h;rw[this,Az (by omega)];omega
theorem Aul(hy:1<=y.1/\y.1<=4)(hs0:A1 s0)(hk:0<=k/\k<6)(hns:ns<=4)(hl0:Sw y.1 l0 ns []) :
  Ok (whileN (Aet y) 1152921504606846976 (k,s0.L,s0.At,l0,([]:List A7))) (Ep (λs=>A1 ⟨s.2.1,s.2.2.1⟩/\Sw y.1 s.2.2.2.1 ns s.2.2.2.2/\s.2.2.2.2.length<=5) (λ(_:Unit)=>False)):=by
 refine cO (λs=>(0<=s.1/\s.1+(s.2.2.2.2.length:Int)<=5)/\A1 ⟨s.2.1,s.2.2.1⟩/\Sw y.1 s.2.2.2.1 ns s.2.2.2.2) (λs=>s.1.toNat) _ _ ?_ ?_ ?_
 ·exact⟨by simp;omega,hs0,hl0⟩
 ·dsimp only;omega
 ·rintro⟨i,L,a,l,co⟩ ⟨⟨h1,h2⟩,h4,h5⟩;dsimp only at h1 h2 h4 h5;unfold Aet;refine c6 (λh=>?_) (λh=>?_)
  ·simp only[dy]at h;have e:w64 (i-1)=i-1:=Az (by omega);have hl:=h5.len;dsimp only;rw[e];refine(C6 h4 y.1 hy.1 (by omega)).bind λu hu=>(cQ (by simp;omega)).bind λm hm=>?_;subst hm;have g1:=hu.2;refine Ok.bind (P:=λv=>A1 v.2) (c9 (λ_=>(C6 hu.1 4 (by omega) (by omega)).mono λ_ h=>h.1) λ_=>hu.1) λv hv=>?_;refine Ok.inner (A:=λ(r:List Ak)=>∃m,r=l++m/\(∀x,x∈m->x.Kind=3/\x.B=co.length/\0<=x.A/\x.A<y.1)/\m≠[]/\m.length<=2/\(m.map (·.A)).Nodup) (B:=λ(_:Unit)=>False) ?_ (λr hr=>?_) (λ_ h=>h.elim)
   ·unfold Arb;refine c6 (λhc=>?_) (λhc=>?_)
    ·simp only[ac,dy]at hc;have e2:w64 (u.1+1)=u.1+1:=Az (by omega);rw[e2];refine(Ok.nzI (by omega)).bind λ_ _=>(cQ (by simp;omega)).bind λm hm=>cY ?_;subst hm;have g2:=qC (x:=u.1+1) (n:=y.1) (by omega) (by omega);have g3:Int.tmod (u.1+1) y.1≠u.1:=by
      rw[Int.tmod_eq_emod_of_nonneg (by omega)];intro e3;by_cases g4:u.1+1=y.1
      ·rw[g4,Int.emod_self]at e3;omega
      ·rw[Int.emod_eq_of_lt (by omega) (by omega)]at e3;omega
     refine⟨_,bw _ _ _,?_,by simp,by simp,?_⟩
     ·intro x hx;simp at hx;rcases hx with rfl|rfl
      ·exact⟨rfl,rfl,g1⟩
      ·exact⟨rfl,rfl,g2⟩
     ·simp;exact λh=>g3 h.symm
    ·exact cY ⟨_,rfl,λx hx=>by simp at hx;subst hx;exact⟨rfl,rfl,g1⟩,by simp,by simp,by simp⟩
   ·obtain⟨m,rfl,hm,hm1,hm2,hm3⟩:=hr;refine(Cx hv _ (by simp) (by simp)).bind λp hp=>(Cx hp.1 _ (by simp) (by simp)).bind λq hq=>(C6 hq.1 3 (by omega) (by omega)).bind λpr hpr=>(Fe hpr.1 (-1) 2 (by omega) (by omega) (by omega)).bind λth hth=>?_;have k1:p.1=0\/p.1=5\/p.1=20\/p.1=40:=by simpa using hp.2
    have k2:q.1=0\/q.1=w64 (Int.tdiv p.1 2)\/q.1=p.1:=by simpa using hq.2
    have k3:=Axz (x:=p.1) (by omega) (by omega);have k4:=hpr.2;have k5:=hth.2;refine Ok.bind (P:=λv=>A1 v.2) (c9 (λ_=>(C6 hth.1 4 (by omega) (by omega)).mono λ_ h=>h.1) λ_=>hth.1) λw hw=>c6 (λhc=>?_) (λhc=>?_)
    ·simp only[Awi,ac,dy]at hc;refine(C6 hw _ (by omega) (by omega)).bind λn hn=>(cQ (by simp;omega)).bind λo ho=>c7 ?_;subst ho;have k6:=hn.2;refine⟨⟨by simp;omega,hn.1,h5.add hm hm1 hm2 hm3 ⟨⟨by dsimp only;omega,by dsimp only;omega,by dsimp only;omega,by dsimp only;omega,by simp,?_,?_⟩,by dsimp only;omega⟩⟩,by dsimp only;omega⟩
     ·intro z hz;simp at hz;subst hz;exact k6
     ·intro j a b ha hb;simp at hb
    ·refine(cQ (by simp;omega)).bind λo ho=>c7 ?_;subst ho;refine⟨⟨by simp;omega,hw,h5.add hm hm1 hm2 hm3 ⟨⟨by dsimp only;omega,by dsimp only;omega,by dsimp only;omega,by dsimp only;omega,by simp,?_,?_⟩,by dsimp only;omega⟩⟩,by dsimp only;omega⟩
     ·intro z hz;simp at hz
     ·intro j a b ha hb;simp at ha
  ·exact cS ⟨h4,h5,by dsimp only;omega⟩
structure A5v(b:Ab):Prop where
 ok:Ax b
 buses:b.Am<=4
 brl:b.Ah.length<=18
 sol:b.Ae.length<=4
 col:b.Ag.length<=5
 thr:∀x,x∈b.Ag->x.Thruster<=7
theorem Avy(hs:A1 s):Ok (F84 s) λy=>A5v y.1/\A1 y.2:=by
 unfold F84;refine(Fe hs 1 4 (by omega) (by omega) (by omega)).bind λy1 h1=>(Cx h1.1 _ (by simp) (by simp)).bind λy3 h3=>(Cx h3.1 _ (by simp) (by simp)).bind λy5 h5=>?_;refine(Aun h1.2 h5.1).andThen (λs0 hs0=>?_) (λ_ h=>h.elim);refine Ok.bind (P:=λv=>A1 v.2) (c9 (λ_=>(C6 hs0.1 2 (by omega) (by omega)).mono λ_ h=>h.1) λ_=>hs0.1) λy15 h15=>?_;have hb:=h1.2;refine Ok.andThen (A:=λ(l:List Ak)=>Mn y1.1 l/\l.length<=4) (B:=λ(_:Unit)=>False) ?_ (λl hl=>?_) (λ_ h=>h.elim)
 ·unfold Arc;refine c6 (λhc=>?_) (λhc=>cY ⟨hs0.2.1,by omega⟩);simp only[ac,dy]at hc;have e:w64 (y1.1-1)=y1.1-1:=Az (by omega);rw[e];have:=hs0.2.2;refine(cQ (by simp;omega)).bind λm hm=>cY ?_;subst hm;exact⟨hs0.2.1.add ⟨rfl,by simp,by dsimp only;omega,by dsimp only;omega⟩,by simp;omega⟩
 ·refine(C6 h15 5 (by omega) (by omega)).bind λy20 h20=>?_;refine(Aum h1.2 h20.1 h20.2 (hl.1.gens hl.2)).andThen (λs2 hs2=>?_) (λ_ h=>h.elim);refine(C6 hs2.1 6 (by omega) (by omega)).bind λy35 h35=>?_;refine(Aul h1.2 h35.1 h35.2 hs2.2.2 hs2.2.1.cons).andThen (λs3 hs3=>Ok.pure ⟨?_,hs3.1⟩) (λ_ h=>h.elim);obtain⟨_,hc,hl5⟩:=hs3;have hl4:=hs2.2.2;have hlen:=hc.len;have p3:y3.1=0\/y3.1=50\/y3.1=200\/y3.1=1800:=by simpa using h3.2
  have p5:y5.1=0\/y5.1=10\/y5.1=50:=by simpa using h5.2
  refine⟨⟨by dsimp only;omega,by dsimp only;omega,by dsimp only;omega,by dsimp only;omega,by dsimp only;omega,by dsimp only;omega,hc.br,hc.one,hc.any,hc.nodup,hs2.2.1.so,λi x hx=>(hc.co i x hx).1⟩,by dsimp only;omega,by dsimp only;omega,hl4,hl5,λx hx=>?_⟩;obtain⟨i,hi⟩:=bv hx;exact(hc.co i x hi).2
set_option linter.unusedVariables false
def Ds(p:Aa):Prop:=(1<=p.Kind/\p.Kind<=9)/\0<=p.Number/\p.Number<=63
def Aku(x y:A6):Prop:=Dg x.From y.From=true\/x.From=y.From/\Dg x.To y.To=true
structure uU(l:List Aa)(L:List A6):Prop where
 len:L.length<=20
 mem:∀x,x∈L->x.From∈l/\x.To∈l/\x.From≠x.To
 asc:L.Pairwise Aku
def Hb:List ByteArray:=[(⟨#[111,110,101]⟩:ByteArray),(⟨#[116,119,111]⟩:ByteArray),(⟨#[103,45,51]⟩:ByteArray),(⟨#[120]⟩:ByteArray)]
structure X0(l:List Aa)(G:List Bp):Prop where
 len:G.length<=3
 mem:∀g,g∈G->g.Name∈Hb/\g.Parts≠[]/\Di g.Parts/\(∀p,p∈g.Parts->p∈l)/\g.Parts.length<=40
 dist:G.Pairwise λa b=>a.Name≠b.Name
structure O3(d:A3):Prop where
 asc:Di d.Parts
 ok:∀p,p∈d.Parts->Ds p
 len:d.Parts.length<=30
 links:uU d.Parts d.Links
 groups:X0 d.Parts d.Groups
theorem H1(x y:Aa):((x.Kind==y.Kind)&&((x.Number==y.Number)&&true))=Ei x y:=by
 unfold Ei;rw[bL]
variable{x y:Aa}{l:List Aa}
theorem N9(hl:Di l)(hx:l[i]? = some x)(hy:l[j]? = some y)(h:i<j):Dg x y=true:=by
 obtain⟨h1,rfl⟩:=aa.1 hx;obtain⟨h2,rfl⟩:=aa.1 hy;exact bH.1 hl i j h1 h2 h
theorem V5{R:α->α->Prop}{l:List α}{x:α}(h:l.Pairwise R)(hx:∀y,y∈l->R y x):(l++[x]).Pairwise R:=
 List.pairwise_append.2 ⟨h,List.pairwise_singleton _ _,λa ha b hb=>by grind⟩
theorem Aiq(hs:A1 s)(hn:n<=1000)(hk:1<=k/\k<=1000):Ok (F91 s n k) λy=>A1 y.2/\y.1.Pairwise (· < ·)/\(∀x,x∈y.1->0<=x/\x<n)/\(y.1.length:Int)<=max n 0:=by
 unfold F91;refine Ok.andThen (A:=λs=>A1 ⟨s.2.1,s.2.2.1⟩/\s.2.2.2.Pairwise (· < ·)/\(∀x,x∈s.2.2.2->0<=x/\x<n)/\(s.2.2.2.length:Int)<=max n 0) (B:=λ(_:Unit)=>False) ?_ (λz hz=>Ok.pure hz) (λ_ h=>h.elim);refine cO (λs=>(0<=s.1/\s.1<=max n 0/\(s.2.2.2.length:Int)<=s.1)/\A1 ⟨s.2.1,s.2.2.1⟩/\s.2.2.2.Pairwise (· < ·)/\(∀x,x∈s.2.2.2->0<=x/\x<s.1/\x<n)) (λs=>(n-s.1).toNat) _ _ ?_ ?_ ?_
 ·exact⟨⟨by omega,by dsimp only;omega,by simp⟩,hs,bG,by simp⟩
 ·dsimp only;omega
 ·rintro⟨i,L,a,l⟩ ⟨⟨h1,h2,h3⟩,h4,h5,h6⟩;dsimp only at h1 h2 h3 h4 h5 h6;unfold Aq8;refine c6 (λh=>?_) (λh=>?_)
  ·simp only[dy]at h;have e:w64 (i+1)=i+1:=Az (by omega);dsimp only;rw[e];refine(C6 h4 k hk.1 (by omega)).bind λu hu=>c6 (λ_=>?_) (λ_=>?_)
   ·refine(cQ (by simp;omega)).bind λm hm=>c7 ?_;subst hm;refine⟨⟨⟨by dsimp only;omega,by dsimp only;omega,by simp;omega⟩,hu.1,V5 h5 λy hy=>(h6 y hy).2.1,λx hx=>?_⟩,by dsimp only;omega⟩;grind
   ·exact c7 ⟨⟨⟨by dsimp only;omega,by dsimp only;omega,by dsimp only;omega⟩,hu.1,h5,λx hx=>by have:=h6 x hx;dsimp only;omega⟩,by dsimp only;omega⟩
  ·simp only[dz]at h;exact cS ⟨h4,h5,λx hx=>by have:=h6 x hx;omega,by dsimp only;omega⟩
def Xz(l:List Aa)(i j:Nat)(L:List A6):Prop:=
 L.length<=20/\(∀x,x∈L->x.From∈l/\x.To∈l/\x.From≠x.To)/\L.Pairwise Aku /\
 ∀x,x∈L->(∃k,k<i/\l[k]? = some x.From)\/l[i]? = some x.From/\∃k,k<j/\l[k]? = some x.To
theorem Xz.mono{L:List A6}(h:Xz l i j L):Xz l i (j+1) L:=
 ⟨h.1,h.2.1,h.2.2.1,λx hx=>(h.2.2.2 x hx).imp id λ⟨h1,k,h2,h3⟩=>⟨h1,k,by omega,h3⟩⟩
theorem yW(hl:Di l)(hn:l.length<=40)(hs:A1 s):Ok (Abi s l) λy=>uU l y.1/\A1 y.2:=by
 unfold Abi;refine Ok.andThen (A:=λz=>Xz l l.length 0 z.2.2/\A1 ⟨z.1,z.2.1⟩) (B:=λ(_:Unit)=>False) ?_ (λz hz=>Ok.pure ⟨⟨hz.1.1,hz.1.2.1,hz.1.2.2.1⟩,hz.2⟩) (λ_ h=>h.elim);refine c8 (I:=λi z=>Xz l i 0 z.2.2/\A1 ⟨z.1,z.2.1⟩) ⟨⟨by simp,by simp,bG,by simp⟩,hs⟩ (λi x z hx hz=>?_) λz hz=>hz;unfold Aes;refine Ok.inner (A:=λz=>Xz l i l.length z.2.2/\A1 ⟨z.1,z.2.1⟩) (B:=λ(_:Unit)=>False) ?_ (λz hz=>c7 ⟨⟨hz.1.1,hz.1.2.1,hz.1.2.2.1,λy hy=>.inl ?_⟩,hz.2⟩) (λ_ h=>h.elim)
 ·refine c8 (I:=λj z=>Xz l i j z.2.2/\A1 ⟨z.1,z.2.1⟩) hz (λj y z hy hz=>?_) λz hz=>hz;unfold Aer;refine Ok.bind (P:=λv=>A1 v.2) (c9 (λ_=>(C6 hz.2 7 (by omega) (by omega)).mono λ_ h=>h.1) λ_=>hz.2) λv hv=>c6 (λhc=>?_) (λ_=>c7 ⟨hz.1.mono,hv⟩);simp only[Aii,ac,dy,aU,H1]at hc;obtain⟨h1,h2,h3,h4⟩:=hz.1;refine(cQ (by simp;omega)).bind λm hm=>c7 ?_;subst hm;have hne:x≠y:=λe=>by
   have:=C7.2 e;rw[hc.1.1]at this;cases this
  refine⟨⟨by simp;omega,λw hw=>?_,V5 h3 λw hw=>?_,λw hw=>?_⟩,hv⟩
  ·grind
  ·rcases h4 w hw with⟨k,hk,e⟩|⟨e,k,hk,e2⟩
   ·exact .inl (N9 hl e hx hk)
   ·rw[hx]at e;exact .inr ⟨(bf e).symm,N9 hl e2 hy hk⟩
  grind
 ·rcases hz.1.2.2.2 y hy with⟨k,hk,e⟩|⟨e,_⟩
  ·exact⟨k,by omega,e⟩
  ·exact⟨i,by omega,e⟩
theorem qK{a b:Aa}(h:Dg a b=true):a≠b:=λe=>by rw[e,Jp]at h;cases h
theorem Pr(hl:Di l)(hn:l.length<=1000)(p:Aa):M_ l p=some (G_ p l):=by
 refine cU ?_;unfold M_;refine Ok.andThen (A:=λz=>∃k:Nat,z=(k:Int)/\k<=l.length/\(∀(i:Nat) x,i<k->l[i]? = some x->Dg x p=true)/\∀x,l[k]? = some x->Dg x p=false) (B:=λ(_:Unit)=>False) ?_ (λz hz=>?_) (λ_ h=>h.elim)
 ·refine cO (λz=>∃k:Nat,z=(k:Int)/\k<=l.length/\∀(i:Nat) x,i<k->l[i]? = some x->Dg x p=true) (λz=>(l.length-z).toNat) _ _ ⟨0,rfl,by omega,by omega⟩ (by omega) λz hz=>?_;obtain⟨k,rfl,h1,h2⟩:=hz;unfold Aew;refine Ok.bind (P:=λv=>k<l.length->l[k]? = some v) (c9 (λha=>?_) λha=>?_) λv hv=>c6 (λhc=>c7 ?_) (λhc=>cS ?_)
  ·have h3:(k:Int)<l.length:=by simpa using ha.1
   exact(cP (by omega) h3).mono λx hx _=>by simpa using hx
  ·intro h3;exact absurd ⟨by simpa using h3,trivial⟩ ha
  ·simp only[uS,ac,dy]at hc;have e:w64 ((k:Int)+1)=(k:Int)+1:=Az (by omega);rw[e];have hk:k<l.length:=by omega
   refine⟨⟨k+1,rfl,by omega,λi x hi hx=>?_⟩,by omega⟩;by_cases hik:i=k
   ·subst hik;rw[hv hk]at hx;have hc2:=hc.2;rw[bf hx]at hc2;exact hc2
   ·exact h2 i x (by omega) hx
  ·refine⟨k,rfl,h1,h2,λx hx=>?_⟩;have hk:=(aa.1 hx).1;have e:=hv hk;rw[hx]at e;cases e;simp only[uS,bZ,dz]at hc;rcases hc with hc|hc
   ·omega
   ·exact hc
 ·obtain⟨k,rfl,h1,h2,h3⟩:=hz;have hmem:∀x,x∈l.take k->Dg x p=true:=λx hx=>by
   obtain⟨i,hi⟩:=bv hx;rw[ao]at hi;split at hi
   ·exact h2 i x (by assumption) hi
   ·cases hi
  refine Ok.bind (P:=λv=>k<l.length->l[k]? = some v) (c9 (λha=>?_) λha=>?_) λv hv=>c6 (λhc=>Ok.pure ?_) (λhc=>?_)
  ·have h4:(k:Int)<l.length:=by simpa using ha.1
   exact(cP (by omega) h4).mono λx hx _=>by simpa using hx
  ·intro h4;exact absurd ⟨by simpa using h4,trivial⟩ ha
  ·simp only[uR,ac,dy,H1]at hc;have hk:k<l.length:=by omega
   have e:=hv hk;rw[C7.1 hc.2]at e;refine Hr hl (Hm p hl) λx=>?_;rw[Ez];exact⟨.inr,λh=>h.elim (λh=>h ▸ ae e) id⟩
  ·refine(Ok.bndI (by omega) (by omega) (by omega)).bind λ_ _=>(Ok.bndI (by omega) (by omega) (by omega)).bind λ_ _=>?_;have ht:List.take ((l.length:Int).toNat-(k:Int).toNat) (List.drop (k:Int).toNat l)=l.drop k:=by
    rw[aE,aE,cD (by simp)]
   rw[ht];refine(cQ (by simp;omega)).bind λa ha=>?_;subst ha;refine(cQ (by simp;omega)).bind λa ha=>Ok.pure ?_;subst ha;rw[aE,Nat.sub_zero];have hgt:∀x,x∈l.drop k->Dg p x=true:=λx hx=>by
    obtain⟨i,hi⟩:=bv hx;rw[au]at hi;have hk:k<l.length:=by have:=(aa.1 hi).1;omega
    have e:=hv hk;have hlt:=h3 v e;have hne:Ei v p=false:=by
     simp only[uR,bZ,dz,H1]at hc;rcases hc with hc|hc
     ·omega
     ·exact hc
    have hpv:Dg p v=true:=by
     rcases Xc v p with h|h|h
     ·rw[hlt]at h;cases h
     ·rw[C7.2 h]at hne;cases hne
     ·exact h
    by_cases h0:i=0
    ·subst h0;rw[bx,e]at hi;cases hi;exact hpv
    ·exact Km hpv (N9 hl e hi (by omega))
   refine Hr ?_ (Hm p hl) λx=>?_
   ·refine List.pairwise_append.2 ⟨hl.sublist (List.take_sublist _ _),aO.2 ⟨hgt,hl.sublist (List.drop_sublist _ _)⟩,λa ha b hb=>?_⟩;rcases ag.1 hb with hb|hb
    ·rw[hb];exact hmem a ha
    ·exact Km (hmem a ha) (hgt b hb)
   ·rw[Ez];have hm:x∈l↔x∈l.take k\/x∈l.drop k:=by rw[←am,bO]
    rw[hm];simp only[am,ag,List.singleton_append];constructor
    ·rintro (h|h|h)
     ·exact .inr (.inl h)
     ·exact .inl h
     ·exact .inr (.inr h)
    ·rintro (h|h|h)
     ·exact .inr (.inl h)
     ·exact .inl h
     ·exact .inr (.inr h)
theorem Lb(p:Aa):∀l:List Aa,(G_ p l).length<=l.length+1
 | []=>by simp[G_]
 | q::l=>by
  unfold G_;cases Dg p q with
  |true=>simp
  |false=>
   cases Dg q p with
   |true=>have:=Lb p l;simp;omega
   |false=>simp
theorem Axx(p:Aa)(l:List Aa):G_ p l≠[]:=λe=>by
 have:p∈G_ p l:=(Ez p l p).2 (.inl rfl);rw[e]at this;cases this
theorem Atv(h0:0<=k)(h1:k<4):Ok (getI Hb k) λx=>Hb[k.toNat]? = some x:=cP h0 (by simp[Hb];omega)
theorem Ak3{x:ByteArray}(hi:Hb[i]? = some x)(hj:Hb[j]? = some x):i=j:=by
 grind[Hb]
def A2y(l:List Aa)(k:Int)(G:List Bp):Prop:=
 (G.length:Int)<=3-k/\(∀g,g∈G->g.Name∈Hb/\g.Parts≠[]/\Di g.Parts/\(∀p,p∈g.Parts->p∈l)/\g.Parts.length<=41)/\(G.Pairwise λa b=>a.Name≠b.Name) /\
 ∀g,g∈G->∃j:Nat,k<j/\Hb[j]? = some g.Name
theorem Lt{m:List Aa}(hl:Di l)(h:∀p,p∈l->p∈m):l.length<=m.length:=
 List.Nodup.length_le_of_subset (hl.imp λh=>qK h) λp hp=>h p hp
theorem Yo(hl:Di l)(hn:l.length<=30)(hs:A1 s):Ok (Abh s l) λy=>X0 l y.1/\A1 y.2:=by
 unfold Abh;refine(C6 hs 4 (by omega) (by omega)).bind λy hy=>?_;refine Ok.andThen (A:=λz=>(∃k,0<=k/\A2y l k z.2.2.2)/\A1 ⟨z.2.1,z.2.2.1⟩) (B:=λ(_:Unit)=>False) ?_ (λz hz=>Ok.pure ⟨?_,hz.2⟩) (λ_ h=>h.elim)
 ·refine cO (λz=>(0<=z.1/\z.1<4)/\A2y l z.1 z.2.2.2/\A1 ⟨z.2.1,z.2.2.1⟩) (λz=>z.1.toNat) _ _ ⟨hy.2,⟨by simp;omega,by simp,bG,by simp⟩,hy.1⟩ (by dsimp only;omega) ?_;rintro⟨k,L,a,G⟩ ⟨⟨h1,h2⟩,⟨h3,h4,h5,h6⟩,h7⟩;dsimp only at h1 h2 h3 h4 h5 h6 h7;unfold Aeq;refine c6 (λhc=>?_) (λhc=>cS ⟨⟨k,h1,h3,h4,h5,h6⟩,h7⟩);simp only[Aih,ac,dy]at hc;refine(Atv h1 h2).bind λnm hnm=>(C6 h7 (l.length:Int) (by omega) (by omega)).bind λu hu=>(cP hu.2.1 hu.2.2).bind λp hp=>?_;refine Ok.inner (A:=λz=>A1 ⟨z.1,z.2.1⟩/\Di z.2.2/\(∀q,q∈z.2.2->q∈l)/\z.2.2≠[]) (B:=λ(_:Unit)=>False) ?_ (λz hz=>?_) (λ_ h=>h.elim)
  ·refine c8 (I:=λ_ z=>A1 ⟨z.1,z.2.1⟩/\Di z.2.2/\(∀q,q∈z.2.2->q∈l)/\z.2.2≠[]) ⟨hu.1,show Di [p] from List.pairwise_singleton _ _,λq hq=>by rw[aC.1 hq];exact ae hp,by simp⟩ (λj q z hq hz=>?_) λz hz=>hz;unfold Aep;refine(C6 hz.1 4 (by omega) (by omega)).bind λv hv=>c6 (λ_=>?_) (λ_=>c7 ⟨hv.1,hz.2⟩);have:=Lt hz.2.1 hz.2.2.1;refine Ok.bind (P:=λx=>x=_) (cR (Pr hz.2.1 (by omega) q) rfl) λx hx=>c7 ?_;subst hx;refine⟨hv.1,Hm _ hz.2.1,λx hx=>?_,Axx _ _⟩;rcases(Ez _ _ _).1 hx with hx|hx
   ·rw[hx];exact ae hq
   ·exact hz.2.2.1 x hx
  ·refine(cQ (by simp;omega)).bind λm hm=>c7 ?_;subst hm;have e:w64 (k-1)=k-1:=Az (by omega);dsimp only;rw[e];have:=Lt hz.2.1 hz.2.2.1;refine⟨⟨by omega,⟨by simp;omega,λg hg=>?_,V5 h5 λg hg=>?_,λg hg=>?_⟩,hz.1⟩,by omega⟩
   ·rcases am.1 hg with hg|hg
    ·exact h4 g hg
    ·rw[aC.1 hg];exact⟨ae hnm,hz.2.2.2,hz.2.1,hz.2.2.1,by dsimp only;omega⟩
   ·obtain⟨j,hj,e⟩:=h6 g hg;intro he;rw[he]at e;have:=Ak3 e hnm;omega
   grind
 ·obtain⟨⟨k,h0,h3,h4,h5,_⟩,_⟩:=hz;exact⟨by dsimp only;omega,λg hg=>by
   obtain⟨g1,g2,g3,g4,g5⟩:=h4 g hg;have:=Lt g3 g4;exact⟨g1,g2,g3,g4,by omega⟩,h5⟩
def Ob(C:List Int)(k:Nat)(z:List Aa):Prop:=Di z/\z.length<=3*k/\∀p,p∈z->(1<=p.Kind/\p.Kind<k)/\(0<=p.Number/\p.Number<=2)/\∃c,C[p.Kind.toNat]? = some c/\p.Number<c
theorem Anm{C:List Int}(hC:C.length<=10)(h0:C[0]? = some 0)(hs:A1 s) :
  Ok (foldI Aey C 0 (s.L,s.At,([]:List Aa))) (Ep (λz=>Ob C 10 z.2.2/\A1 ⟨z.1,z.2.1⟩) λ(_:Unit)=>False):=by
 refine c8 (I:=λj z=>Ob C j z.2.2/\A1 ⟨z.1,z.2.1⟩) ⟨⟨show Di [] from bG,by simp,by simp⟩,hs⟩ (λj c z hc hz=>?_) λz hz=>⟨⟨hz.1.1,by have:=hz.1.2.1;omega,λp hp=>by have:=hz.1.2.2 p hp;exact⟨by omega,this.2⟩⟩,hz.2⟩;obtain⟨⟨h1,h2,h3⟩,h4⟩:=hz;have hj:j<C.length:=(aa.1 hc).1;unfold Aey;refine(Aiq h4 (n:=min c 3) (by omega) (k:=2) (by omega)).bind λy hy=>?_;obtain⟨y1,y2,y3,y4⟩:=hy;refine Ok.inner (A:=λw=>Ob C (j+1) w) (B:=λ(_:Unit)=>False) ?_ (λw hw=>c7 ⟨hw,y1⟩) (λ_ h=>h.elim);refine c8 (I:=λi w=>Di w/\w.length=z.2.2.length+i/\∀p,p∈w->((1<=p.Kind/\p.Kind<j)/\(0<=p.Number/\p.Number<=2)/\∃c,C[p.Kind.toNat]? = some c/\p.Number<c)\/(p.Kind=j/\∃k,k<i/\y.1[k]? = some p.Number)) ⟨h1,by simp,λp hp=>.inl (h3 p hp)⟩ (λi x w hx hw=>?_) λw hw=>?_
 ·obtain⟨w1,w2,w3⟩:=hw;have hi:i<y.1.length:=(aa.1 hx).1;unfold Arr;rw[Cn (by omega)];refine(cQ (by simp;omega)).bind λm hm=>c7 ?_;subst hm;refine⟨V5 w1 λp hp=>?_,by simp;omega,λp hp=>?_⟩
  ·rw[Gb];rcases w3 p hp with⟨h,_⟩|⟨h,k,hk,e⟩
   ·exact .inl h.2
   ·refine .inr ⟨h,?_⟩;obtain⟨q1,q2⟩:=aa.1 e;obtain⟨q3,q4⟩:=aa.1 hx;have:=bH.1 y2 k i q1 q3 hk;rw[q2,q4]at this;exact this
  grind
 ·obtain⟨w1,w2,w3⟩:=hw;refine⟨w1,by omega,λp hp=>?_⟩;grind
theorem Ob.ptOk{C:List Int}{z:List Aa}(h:Ob C 10 z):∀p,p∈z->Ds p:=λp hp=>by
 have:=h.2.2 p hp;unfold Ds;omega
theorem Ayt(hs:A1 s):Ok (F48 s) λy=>Ds y.1/\y.1.Number<=3/\A1 y.2:=by
 unfold F48;refine(Fe hs 1 9 (by omega) (by omega) (by omega)).bind λy hy=>(C6 hy.1 4 (by omega) (by omega)).bind λu hu=>Ok.pure ⟨?_,by have:=hu.2;dsimp only;omega,hu.1⟩;have h1:=hy.2;have h2:=hu.2;unfold Ds;dsimp only;omega
theorem Au8(hs:A1 s)(hn:0<=n/\n<=100):Ok (F13 s n) λy=>(∀p,p∈y.1->Ds p/\p.Number<=3)/\(y.1.length:Int)<=n/\A1 y.2:=by
 unfold F13;rw[Az (by omega)];refine(C6 hs (n+1) (by omega) (by omega)).bind λy hy=>?_;refine Ok.andThen (A:=λz=>(∀p,p∈z.2.2.2->Ds p/\p.Number<=3)/\(z.2.2.2.length:Int)<=n/\A1 ⟨z.2.1,z.2.2.1⟩) (B:=λ(_:Unit)=>False) ?_ (λz hz=>Ok.pure hz) (λ_ h=>h.elim);have hy2:=hy.2;refine cO (λz=>(0<=z.1/\z.1+(z.2.2.2.length:Int)<=n)/\(∀p,p∈z.2.2.2->Ds p/\p.Number<=3)/\A1 ⟨z.2.1,z.2.2.1⟩) (λz=>z.1.toNat) _ _ ⟨by simp;omega,by simp,hy.1⟩ (by dsimp only;omega) ?_;rintro⟨k,L,a,l⟩ ⟨⟨h1,h2⟩,h3,h4⟩;dsimp only at h1 h2 h3 h4;unfold Asf;refine c6 (λhc=>?_) (λhc=>cS ⟨h3,by dsimp only;omega,h4⟩);simp only[dy]at hc;refine(Ayt h4).bind λu hu=>(cQ (by simp;omega)).bind λm hm=>c7 ?_;subst hm;dsimp only;rw[Az (n:=k-1) (by omega)];refine⟨⟨by simp;omega,λp hp=>?_,hu.2.2⟩,by omega⟩;rcases am.1 hp with hp|hp
 ·exact h3 p hp
 ·rw[aC.1 hp];exact⟨hu.1,hu.2.1⟩
theorem Im(x lo hi:Int):Bn x lo hi=true↔lo<=x/\x<=hi:=by
 simp[Bn]
theorem qV{x:Int}(h:lo<=x/\x<=hi):Bn x lo hi=true:=(Im x lo hi).2 h
theorem Gd(l:List Int)(x:Int)(h:l.length<=9223372036854775807):Vg l x=some (l.any (x == ·)):=by
 unfold Vg Avi;rw[Ib (λy=>x==y) (λi y=>rfl) l h];simp only[ab,Lc]
theorem Ahc(l:List (List Int))(h:l.length<=9223372036854775807):Z0 l=some (l.any λx=>(x.length:Int)==0):=by
 unfold Z0 Afh;rw[Ib (λy=>(y.length:Int)==0) (λi y=>rfl) l h];simp only[ab,Lc]
theorem Ahe(h:Ax b):Ok (Ams b) (· = true):=by
 unfold Ams;have hs:=h.sol;have hc:=h.col;have hb:=h.buses;refine(Ok.mkI (by omega) (by omega)).bind λys hys=>(Ok.mkI (by omega) (by omega)).bind λzs hzs=>?_;rw[aE]at hys hzs;refine Ok.andThen (A:=λs=>s.1=(List.range b.Ae.length).map (λi=>((brs b.Ah 2 i).length:Int))/\s.2=(List.range b.Ag.length).map (λi=>(brs b.Ah 3 i).map (·.A))) (B:=λ_=>False) ?_ ?_ (λ_ h=>h.elim)
 ·refine c8 (I:=λj s=>s.1=(List.range b.Ae.length).map (λi=>((brs (b.Ah.take j) 2 i).length:Int))/\s.2=(List.range b.Ag.length).map (λi=>(brs (b.Ah.take j) 3 i).map (·.A))) ?_ ?_ ?_
  ·exact⟨by rw[hys,Om];rfl,by rw[hzs,Om];rfl⟩
  ·rintro j x ⟨us,vs⟩ hx ⟨hu,hv⟩;dsimp only at hu hv;subst hu;subst hv;have hmem:=ae hx;obtain⟨⟨a0,a1⟩,hk⟩:=h.br x hmem;have htk:∀k i,brs (b.Ah.take (j+1)) k i=brs (b.Ah.take j) k i++if x.Kind=k/\x.B=(i:Int)then [x] else []:=λk i=>by rw[Bm hx,Hq,Ail]
   have hall:∀k i,brs b.Ah k i=brs (b.Ah.take (j+1)) k i++brs (b.Ah.drop (j+1)) k i:=λk i=>by rw[←Hq,bO]
   unfold Ai8;have e1:w64 (b.Am-1)=b.Am-1:=Az (by omega);have e2:w64 (x.A+1)=x.A+1:=Az (by omega);refine c6 (λhq=>?_) (λ_=>?_)
   ·rw[e1,qV (by omega)]at hq;simp at hq
   refine c6 (λhq=>?_) (λhq=>?_)
   ·simp only[Ad1,ac,dA,Im]at hq;refine c7 ⟨bi λi _=>?_,bi λi _=>?_⟩
    ·rw[htk,if_neg (by omega),aX]
    ·rw[htk,if_neg (by omega),aX]
   have hq:=ff hq;simp only[Ad1,ac,dA,Im,e1,e2]at hq;rcases hk with hk|hk|hk
   ·exact absurd ⟨hk.1,by omega⟩ hq
   ·have hBn:x.B=(x.B.toNat:Int):=by omega
    have hone:=h.one x.B.toNat (by omega);have hz:(brs (b.Ah.take j) 2 x.B.toNat).length=0:=by
     rw[hall,htk,if_pos ⟨hk.1,hBn⟩]at hone;simp at hone;omega
    have hg:((x.Kind==2)&&(Bn x.B 0 (w64 ((((List.range b.Ae.length).map (λi=>((brs (b.Ah.take j) 2 i).length:Int))).length:Int)-1))))=true:=by
     rw[ac,dA,Im,ar,List.length_range,Az (by omega)];omega
    dsimp only;refine Ok.bind (P:=λy=>y=0) (c9 (λ_=>(db (by omega) (by omega)).mono λy hy=>by rw[hy,hz];rfl) λhn=>(V8 hg hn).elim) λy hy=>?_;refine c6 (λhq2=>?_) (λhq2=>?_)
    ·refine(db (by omega) (by omega)).bind λy2 hy2=>(di (by omega) (by omega)).bind λy3 hy3=>c7 ⟨?_,bi λi _=>?_⟩
     ·rw[hy3];refine bi λi hi=>?_;by_cases e:i=x.B.toNat
      ·subst e;rw[if_pos rfl,hy2,htk,if_pos ⟨hk.1,hBn⟩,hz,aB,hz];rfl
      ·rw[if_neg e,htk,if_neg (by omega),aX]
     ·rw[htk,if_neg (by omega),aX]
    ·have hq2:=ff hq2;simp only[Ad0,ac,hy]at hq2;rw[ac]at hg;exact absurd ⟨hg,by simp⟩ hq2
   ·have hBn:x.B=(x.B.toNat:Int):=by omega
    have hnod:=h.nodup x.B.toNat;have hnot:x.A∉(brs (b.Ah.take j) 3 x.B.toNat).map (·.A):=by
     rw[hall,htk,if_pos ⟨hk.1,hBn⟩]at hnod;simp only[bE,bq,List.map_nil]at hnod;rw[List.nodup_append]at hnod;have:=hnod.1;rw[List.nodup_append]at this;intro hm;exact this.2.2 _ hm _ (by simp) rfl
    have hg0:((x.Kind==2)&&(Bn x.B 0 (w64 ((((List.range b.Ae.length).map (λi=>((brs (b.Ah.take j) 2 i).length:Int))).length:Int)-1))))=false:=by
     have:(x.Kind==2)=false:=by rw[dC];omega
     rw[this];rfl
    have hg:((x.Kind==3)&&(Bn x.B 0 (w64 ((((List.range b.Ag.length).map (λi=>(brs (b.Ah.take j) 3 i).map (·.A))).length:Int)-1))))=true:=by
     rw[ac,dA,Im,ar,List.length_range,Az (by omega)];omega
    dsimp only;refine Ok.bind (P:=λ_=>True) (c9 (λhn=>absurd hn.1 (by rw[hg0];simp)) λ_=>trivial) λy _=>?_;refine c6 (λhq2=>?_) (λ_=>?_)
    ·simp only[Ad0,ac,dA]at hq2;omega
    refine Ok.bind (P:=λy=>y=(brs (b.Ah.take j) 3 x.B.toNat).map (·.A)) (c9 (λ_=>db (by omega) (by omega)) λhn=>(V8 hg hn).elim) λy14 hy14=>?_;have hyl:y14.length<=24:=by
     rw[hy14,ar];have:=aV (λx=>x.Kind==3&&x.B==((x.B.toNat:Nat):Int)) (b.Ah.take j);have h1:(brs (b.Ah.take j) 3 x.B.toNat).length<=(b.Ah.take j).length:=aV _ _;have h2:=h.brl;rw[aY]at h1;omega
    refine Ok.bind (P:=λy=>y=false) (c9 (λ_=>?_) λhn=>(V8 hg hn).elim) λy16 hy16=>?_
    ·rw[Gd _ _ (by omega)];refine Ok.pure ?_;rw[cu];intro z hz;rw[hy14]at hz;simp only[dA];rintro rfl;exact hnot hz
    refine c6 (λhq2=>?_) (λhq2=>?_)
    ·refine(db (by omega) (by omega)).bind λy19 hy19=>?_;rw[hy19,←hy14];refine(cQ (by simp;omega)).bind λy21 hy21=>(di (by omega) (by omega)).bind λy23 hy23=>c7 ⟨bi λi _=>?_,?_⟩
     ·rw[htk,if_neg (by omega),aX]
     ·rw[hy23];refine bi λi hi=>?_;by_cases e:i=x.B.toNat
      ·subst e;rw[if_pos rfl,hy21,hy14,htk,if_pos ⟨hk.1,hBn⟩,bE];rfl
      ·rw[if_neg e,htk,if_neg (by omega),aX]
    ·have hq2:=ff hq2;simp only[Ap9,ac,hy16]at hq2;rw[ac]at hg;exact absurd ⟨hg,by simp⟩ hq2
  ·rintro⟨us,vs⟩ ⟨hu,hv⟩;rw[aJ]at hu hv;exact⟨hu,hv⟩
 ·rintro⟨us,vs⟩ ⟨hu,hv⟩;dsimp only at hu hv ⊢;rw[Gd _ _ (by rw[hu];simp;omega)];have h0:us.any (λy=>0==y)=false:=by
   rw[cu,hu];intro z hz;obtain⟨i,hi,rfl⟩:=an.1 hz;rw[h.one i (by simpa using hi)];simp
  have h1:vs.any (λx=>(x.length:Int)==0)=false:=by
   rw[cu,hv];intro z hz;obtain⟨i,hi,rfl⟩:=an.1 hz;have:=h.any i (by simpa using hi);simp only[ar,dA];intro e;exact this (bo (by omega))
  simp only[h0,ab];refine Ok.bind (P:=λy=>y=false) (c9 (λ_=>?_) λhn=>(V8 rfl hn).elim) λy hy=>Ok.pure (by rw[hy];rfl);rw[Ahc _ (by rw[hv];simp;omega)];exact Ok.pure h1
theorem An0{x:B5}(h:Alv x):Afy x=true:=by
 obtain⟨h1,h2,h3⟩:=h;simp only[Afy,ac,Im];omega
theorem Ahd{x:A7}(h:Ang i x)(hi:i<=1000):Afx x (i:Int)=some true:=by
 obtain⟨h1,h2,h3,h4,h5,h6,h7⟩:=h;unfold Afx;have hf:foldI (vD x (i:Int)) x.Needs 0 ()=some (.next ()):=by
  refine Dw _ _ λj n hj=>?_;rw[aI];have hn:=h6 n (ae hj);have hjl:=(aa.1 hj).1;have hcnt:cnt 0 j=(j:Int):=Cn (by omega);have hin:Bn n 0 (w64 ((i:Int)-1))=true:=by rw[Im,Az (by omega)];omega
  unfold vD Ap8;rw[hcnt,hin];cases j with
  |zero=>simp[As,Ef]
  | succ j=>
   obtain⟨p,hp⟩:∃p,x.Needs[j]? = some p:=⟨_,ai (by omega)⟩;have hlt:=h7 j p n hp hj;have e:w64 ((((j+1:Nat):Int))-1)=(j:Int):=by rw[Az (by omega)];omega
   have hg:getI x.Needs (j:Int)=some p:=by
    unfold getI;simp[hp]
   have hd:decide (((j+1:Nat):Int)>0)=true:=dD (by omega);have hd2:decide (p>=n)=false:=by simp;omega
   rw[e,hg,hd];simp[As,Ef,hd2]
 rw[hf];have:(((((Bn x.Load 0 50000)&&(Bn x.Least 0 x.Load))&&(Bn x.B2 0 15))&&(Bn x.Thruster (-1) 7))&&(decide ((x.Needs.length:Int)<=4)))=true:=by
  simp only[ac,Im,dy];omega
 simp[andThen,this]
theorem Adr(h:Ax b):Af9 b=some 0:=by
 refine cU ?_;unfold Af9;have h1:=h.buses;have h2:=h.brl;have h3:=h.sol;have h4:=h.col;have h5:=h.phase;have h6:=h.freq;refine c6 (λhc=>?_) (λ_=>?_)
 ·have:Bn b.Am 1 6=true:=qV (by omega);simp only[Aqm,this,az,dy,aP,bC,false_or]at hc;omega
 refine(Ahe h).bind λy hy=>?_;subst hy;rw[qV (x:=b.Phase) (by omega),qV (x:=b.Aq) (by omega)];refine Ok.andThen (A:=λs=>s=true) (B:=λ(_:Unit)=>False) ?_ ?_ (λ_ h=>h.elim)
 ·refine c8 (I:=λ_ s=>s=true) rfl (λj x s hx hs=>?_) λ_ h=>h;subst hs;refine c7 ?_;rw[An0 (h.so x (ae hx))];rfl
 ·rintro s rfl;refine Ok.andThen (A:=λs=>s=true) (B:=λ(_:Unit)=>False) ?_ ?_ (λ_ h=>h.elim)
  ·refine c8 (I:=λ_ s=>s=true) rfl (λj x s hx hs=>?_) λ_ h=>h;subst hs;have hj:=(aa.1 hx).1;unfold Ajq;have:As [(true,true)] (Afx x (cnt 0 j)) default=some true:=by
    rw[Cn (by omega),Ahd (h.co j x hx) (by omega)];rfl
   rw[this];exact c7 rfl
  ·rintro s rfl;exact Ok.pure rfl
def D9(x:Aj):Prop:=(0<=x.State/\x.State<=3)/\(0<=x.Since/\x.Since<=2147483648)/\(0<=x.Aq/\x.Aq<=6000)/\0<=x.Phase/\x.Phase<=3599
def Cu(b:Ab)(x:Aa):Prop:=
 0<=x.Number/\((x.Kind=1/\x.Number<b.Ae.length)\/(x.Kind=2/\x.Number<b.Ah.length)\/(x.Kind=3/\x.Number<b.Am)\/(x.Kind=4/\x.Number<b.Ag.length))
def K0(x y:Aa):Prop:=x.Kind<y.Kind\/x.Kind=y.Kind/\x.Number<y.Number
structure D8(b:Ab)(l:List Aa):Prop where
 len:l.length<=32
 mem:∀x,x∈l->Cu b x
 asc:∀(j:Nat) x y,l[j]? = some x->l[j+1]? = some y->K0 x y
def C_(l:List Ak)(c:List Bool)(i:Nat):List (Ak×Bool):=(l.zip c).filter λz=>(z.1.Kind==3&&z.1.B==(i:Int))&&z.2
structure Av(b:Ab)(p:Ad):Prop where
 ncl:p.Ai.length=b.Ah.length
 nso:p.Ae.length=b.Ae.length
 nli:p.An.length=b.Ag.length
 run:∀x,x∈p.Ae->D9 x
 lim:∀(i:Nat) n c,p.An[i]? = some n->b.Ag[i]? = some c->0<=n/\n<=c.Load
 one:∀i,i<b.Ag.length->(C_ b.Ah p.Ai i).length<=1
 brk:D8 b p.Al
theorem Aka{x:Aj}(h:D9 x):Vm x=true:=by
 obtain⟨h1,h2,h3,h4⟩:=h;simp only[Vm,ac,Im];omega
theorem Ako(l:List Aj)(h:l.length<=9223372036854775807):Vn l=some (l.any λx=>!Vm x):=by
 unfold Vn Afw;rw[Ib (λy=>!Vm y) (λi y=>rfl) l h];simp only[ab,Lc]
theorem N5(x y:Int):Ir x y=if x<y then -1 else if x>y then 1 else 0:=by
 grind[Sr,Ir]
theorem V6(x y:Int):Vo [x,y]=some (if x=0 then y else x):=by
 grind[Vo,andThen,foldI,Wh]
theorem Aw8(h:Ax b)(hx:Cu b x):Bn x.Number 0 (w64 ((Mp b x.Kind)-1))=true:=by
 have h1:=h.buses;have h2:=h.brl;have h3:=h.sol;have h4:=h.col;obtain⟨hn,hk⟩:=hx;have hsz:∃n,Mp b x.Kind=n/\x.Number<n/\n<=100:=by
  unfold Mp;grind
 obtain⟨n,e,g1,g2⟩:=hsz;rw[e,Im,Az (by omega)];omega
theorem Aqz(h:Ax b)(hl:D8 b l):Am4 b l=some true:=by
 have hlen:=hl.len;unfold Am4;have hf:foldI (vN b l) l 0 ()=some (.next ()):=by
  refine Dw _ _ λj x hj=>?_;rw[aI];have hjl:=(aa.1 hj).1;have hcnt:cnt 0 j=(j:Int):=Cn (by omega);have hin:=Aw8 h (hl.mem x (ae hj));unfold vN Aql;rw[hcnt,hin];cases j with
  |zero=>simp[As,Ef]
  | succ j=>
   obtain⟨p,hp⟩:∃p,l[j]? = some p:=⟨_,ai (by omega)⟩;have hlt:=hl.asc j p x hp hj;have e:w64 ((((j+1:Nat):Int))-1)=(j:Int):=by rw[Az (by omega)];omega
   have hg:getI l (j:Int)=some p:=by unfold getI;simp[hp]
   have hd:decide (((j+1:Nat):Int)>0)=true:=dD (by omega);have ho:Vo [Ir p.Kind x.Kind,Ir p.Number x.Number]=some (-1):=by
    rw[V6,N5,N5];rcases hlt with h1|⟨h1,h2⟩
    ·simp[h1]
    ·simp[h1,h2]
   rw[e,hg,hd];simp[As,Ef,ho]
 rw[hf];have:decide ((l.length:Int)<=32)=true:=by simp;omega
 simp[andThen,this]
theorem M1{l:List Ak}{x:Ak}{v:Bool}(hx:l[j]? = some x)(hv:c[j]? = some v)(i:Nat) :
  C_ (l.take (j+1)) (c.take (j+1)) i=C_ (l.take j) (c.take j) i++if((x.Kind==3&&x.B==(i:Int))&&v)=true then [(x,v)] else []:=by
 unfold C_;rw[Bm hx,Bm hv,List.zip_append (by
  grind),bm]
 congr 1;simp only[b9,List.zip_nil_right,aW,List.filter_nil]
theorem Apv(h:Ax b)(hc:p.Ai.length=b.Ah.length)(i:Nat):Am3 b p (i:Int)=some (((C_ b.Ah p.Ai i).length:Nat):Int):=by
 refine cU ?_;unfold Am3;have hb:=h.brl;refine Ok.andThen (A:=λs=>s=(((C_ b.Ah p.Ai i).length:Nat):Int)) (B:=λ(_:Unit)=>False) ?_ (λs hs=>Ok.pure hs) (λ_ h=>h.elim);refine c8 (I:=λj s=>s=(((C_ (b.Ah.take j) (p.Ai.take j) i).length:Nat):Int)) ?_ (λj x s hx hs=>?_) λs hs=>?_
 ·simp[C_]
 ·have hj:=(aa.1 hx).1;obtain⟨v,hv⟩:∃v,p.Ai[j]? = some v:=⟨_,ai (by omega)⟩;have hcnt:cnt 0 j=(j:Int):=Cn (by omega);have hg:getI p.Ai (j:Int)=some v:=by unfold getI;simp[hv]
  have hle:(C_ (b.Ah.take j) (p.Ai.take j) i).length<=24:=by
   have h1:(C_ (b.Ah.take j) (p.Ai.take j) i).length<=((b.Ah.take j).zip (p.Ai.take j)).length:=aV _ _;simp at h1;omega
  subst hs;unfold Ajp Aqk;rw[hcnt,hg,M1 hx hv];cases hk:(x.Kind==3&&x.B==(i:Int)) with
  |false=>
   simp only[As,Ef,Bool.false_and];exact c7 (by simp)
  | true=>
   simp only[As,Ef,bt];cases v with
   |false=>exact c7 (by simp)
   |true=>
    refine c7 ?_;show w64 _=_;rw[Az (by omega)];simp
 grind
theorem E7(h:Ax b)(hp:Av b p):Jb b p=some 0:=by
 refine cU ?_;unfold Jb;have h1:=hp.ncl;have h2:=hp.nso;have h3:=hp.nli;have h4:=h.col;have h5:=h.sol;rw[Adr h];simp only[ab];have c0:Aeb b p=false:=by
  simp[Aeb,h1,h2,h3]
 have c1:((0:Int) != 0)=false:=rfl;rw[c1,c0,Aqz h hp.brk];simp only[cond_false,ab];have hr:(p.Ae.any λx=>!Vm x)=false:=by
  rw[cu];intro x hx;rw[Aka (hp.run x hx)];simp
 have:As [(true,true)] (Vn p.Ae) default=some false:=by
  rw[Ako _ (by omega),hr];rfl
 rw[this];simp only[ab];refine Ok.andThen (A:=λs=>s=true) (B:=λ(_:Unit)=>False) ?_ ?_ (λ_ h=>h.elim)
 ·refine c8 (I:=λ_ s=>s=true) rfl (λj x s hx hs=>?_) λ_ h=>h;subst hs;have hj:=(aa.1 hx).1;obtain⟨c,hc⟩:∃c,b.Ag[j]? = some c:=⟨_,ai (by omega)⟩;have hcnt:cnt 0 j=(j:Int):=Cn (by omega);have hg:getI b.Ag (j:Int)=some c:=by unfold getI;simp[hc]
  have hl:=hp.lim j x c hx hc;have hone:=hp.one j (by omega);unfold Ajz;rw[hcnt,hg];have e1:As [(true,true)] (some c) default=some c:=rfl;rw[e1];simp only[ab];have e2:(true&&Bn x 0 c.Load)=true:=by rw[qV hl];rfl
  rw[e2,Apv h h1];have e3:As [(true,true)] (some (((C_ b.Ah p.Ai j).length:Nat):Int)) default=some (((C_ b.Ah p.Ai j).length:Nat):Int):=rfl;rw[e3];simp only[ab];refine c7 ?_;simp;omega
 ·rintro s rfl;exact Ok.pure rfl
set_option linter.unusedVariables false
theorem Au0(l:List Aa)(p:Aa):l.any (λx=>Ei p x)=Ct l p:=by
 unfold Ct;congr 1;funext x;unfold Ei;grind
theorem P5(l:List Aa)(p:Aa)(h:l.length<=9223372036854775807):F53 l p=some (Ct l p):=by
 unfold F53 Agi Am5;rw[Ib (λy=>Ei p y) (λi y=>by rw[←H1];rfl) l h];simp only[ab,Lc,Au0]
theorem Ju(l:List Aa)(p:Aa):F23 l p=some (Ct l p):=by
 unfold F23;have:∀(l:List Aa)(k:Nat),foldI (Afz p) l k ()=bif Ct l p then some (.ret true) else some (.next ()):=by
  intro l;induction l with
  |nil=>intro k;rfl
  |cons x l ih=>
   intro k;unfold foldI Afz Awt;rw[H1];have e:Ct (x::l) p=(Ei x p || Ct l p):=rfl;rw[e];cases Ei x p with
   |true=>rfl
   |false=>exact ih (k+1)
 rw[this];cases Ct l p <;> rfl
variable{p:Aa}
theorem Ha(h:p∈l):Ct l p=true:=G2.2 h
theorem Acl(h:¬p∈l):Ct l p=false:=by
 grind[G2]
theorem uM(h:Dg x y=true):Ms x y=some (-1):=by
 unfold Ms;rw[V6,N5,N5];rw[Gb]at h;grind
theorem Aps(x:Aa):Ms x x=some 0:=by
 unfold Ms;rw[V6,N5,N5];simp
theorem Apr{x y:A6}(h:Aku x y):Ok (Am6 x y) (· = -1):=by
 unfold Am6;have hc:∀a b:Aa,Ok (Ms a b) λ_=>True:=λa b=>by
  unfold Ms;rw[V6];exact⟨_,rfl,trivial⟩
 rcases h with h|⟨h1,h2⟩
 ·refine Ok.bind (P:=λv=>v = -1) (cR (uM h) rfl) λv hv=>(hc _ _).bind λu _=>?_;subst hv;rw[V6];exact Ok.pure rfl
 ·rw[h1];refine Ok.bind (P:=λv=>v=0) (cR (Aps _) rfl) λv hv=>Ok.bind (P:=λv=>v = -1) (cR (uM h2) rfl) λu hu=>?_;subst hv;subst hu;rw[V6];exact Ok.pure rfl
theorem Aim(hl:Di l)(hn:l.length<=1000):Vp l=some true:=by
 refine cU ?_;unfold Vp;refine Ok.andThen (A:=λ_=>True) (B:=λ_=>False) ?_ (λ_ _=>Ok.pure rfl) (λ_ h=>h.elim);refine cO (λz=>1<=z/\z<=1001) (λz=>((l.length:Int)-z).toNat) _ _ ⟨by omega,by omega⟩ (by omega) λz hz=>?_;unfold Aas;refine c6 (λhc=>?_) (λ_=>cS trivial);simp only[dy]at hc;rw[Az (n:=z-1) (by omega),Az (n:=z+1) (by omega)];refine(cP (by omega) (by omega)).bind λa ha=>(cP (by omega) hc).bind λb hb=>?_;refine Ok.bind (P:=λv=>v = -1) (cR (uM (N9 hl ha hb (by omega))) rfl) λv hv=>?_;subst hv;exact c7 ⟨by omega,by omega⟩
theorem Ayk{l:List A6}(hl:l.Pairwise Aku)(hn:l.length<=1000):Z9 l=some true:=by
 refine cU ?_;unfold Z9;refine Ok.andThen (A:=λ_=>True) (B:=λ_=>False) ?_ (λ_ _=>Ok.pure rfl) (λ_ h=>h.elim);refine cO (λz=>1<=z/\z<=1001) (λz=>((l.length:Int)-z).toNat) _ _ ⟨by omega,by omega⟩ (by omega) λz hz=>?_;unfold Aar;refine c6 (λhc=>?_) (λ_=>cS trivial);simp only[dy]at hc;rw[Az (n:=z-1) (by omega),Az (n:=z+1) (by omega)];refine(cP (by omega) (by omega)).bind λa ha=>(cP (by omega) hc).bind λb hb=>?_;obtain⟨h1,e1⟩:=aa.1 ha;obtain⟨h2,e2⟩:=aa.1 hb;have:=bH.1 hl _ _ h1 h2 (by omega);rw[e1,e2]at this;refine(Apr this).bind λv hv=>?_;subst hv;exact c7 ⟨by omega,by omega⟩
theorem Azo(h:Ds p):Agc p=true:=by
 unfold Ds at h;simp only[Agc,ac,dy];omega
theorem As7(h:∀p,p∈l->Ds p)(hn:l.length<=1000):jA l=some false:=by
 unfold jA Af2;rw[Ib (λy=>Agd y) (λi y=>rfl) l (by omega)];grind[Agd,Lc,Azo]
theorem Aj6(hl:Di l)(h:∀p,p∈l->Ds p)(hn:l.length<=1000):Ane l=some true:=by
 unfold Ane;rw[As7 h hn,Aim hl hn];rfl
theorem Aom(h:O3 d):And d=some true:=by
 have hl:=h.len;have hk:=h.links.len;refine cU ?_;unfold And;refine Ok.andThen (A:=λ_=>True) (B:=λ_=>False) ?_ (λ_ _=>?_) (λ_ h=>h.elim)
 ·refine c8 (I:=λ_ _=>True) trivial (λj x _ hx _=>?_) λ_ _=>trivial;obtain⟨h1,h2,h3⟩:=h.links.mem x (ae hx);unfold Aj1;refine Ok.bind (P:=λv=>v=true) (cR (P5 _ _ (by omega)) (Ha h1)) λv hv=>?_;subst hv;refine Ok.bind (P:=λv=>v=true) (c9 (λ_=>cR (P5 _ _ (by omega)) (Ha h2)) (λhn=>absurd ⟨rfl,trivial⟩ hn)) λv hv=>?_;subst hv;refine c6 (λhc=>?_) (λ_=>c7 trivial);simp only[Aqw,aP,Bool.or_self,aT,H1]at hc;exact absurd (C7.1 hc) h3
 ·rw[Ayk h.links.asc (by omega)];exact Ok.pure rfl
variable{s:ByteArray}
theorem Aw1(h:s∈Hb):Avt s=some true:=by
 simp only[Hb,ag,List.not_mem_nil,or_false]at h;rcases h with rfl|rfl|rfl|rfl <;> kernel_rfl
theorem Aoh(h:O3 d)(hl:∀p,p∈l->p∈d.Parts):Z_ l d=some (false,d):=by
 have hn:=h.len;refine cU ?_;unfold Z_ Af1;refine Ok.bind (P:=λy=>y=(-1,d)) ?_ (λy hy=>Ok.pure (by rw[hy];rfl));refine Ok.andThen (A:=λ_=>True) (B:=λ_=>False) ?_ (λ_ _=>Ok.pure rfl) (λ_ h=>h.elim);refine c8 (I:=λ_ _=>True) trivial (λj x _ hx _=>?_) λ_ _=>trivial;unfold Aaq Aga;rw[P5 _ _ (by omega),Ha (hl x (ae hx))];exact c7 trivial
theorem Aq2{a b:ByteArray}(h:a.toList=b.toList):a=b:=by
 rw[ByteArray.toList_eq,ByteArray.toList_eq]at h;exact ByteArray.ext (Array.toList_inj.1 h)
theorem Azw{l:List Bp}{g:Bp}(h:∀x,x∈l->x.Name≠g.Name):Z8 l g=some (false,g):=by
 refine cU ?_;unfold Z8 Af0;refine Ok.bind (P:=λy=>y=(-1,g)) ?_ (λy hy=>Ok.pure (by rw[hy];rfl));refine Ok.andThen (A:=λ_=>True) (B:=λ_=>False) ?_ (λ_ _=>Ok.pure rfl) (λ_ h=>h.elim);refine c8 (I:=λ_ _=>True) trivial (λj x _ hx _=>?_) λ_ _=>trivial;unfold Aap;refine c6 (λhc=>?_) (λ_=>c7 trivial);simp only[Agb,dA]at hc;exact absurd (Aq2 hc) (h x (ae hx))
theorem Ak2(h:O3 d):Anc d=some true:=by
 have hl:=h.len;have hk:=h.groups.len;refine cU ?_;unfold Anc;refine Ok.andThen (A:=λ_=>True) (B:=λ_=>False) ?_ (λ_ _=>Ok.pure rfl) (λ_ h=>h.elim);refine c8 (I:=λ_ z=>z=(d.Parts,d.Links,d.Groups)) rfl (λj g z hg hz=>?_) λ_ _=>trivial;subst hz;obtain⟨h1,h2,h3,h4,h5⟩:=h.groups.mem g (ae hg);have hj:=(aa.1 hg).1;unfold Aj0;refine Ok.bind (P:=λv=>v=true) (cR (Aw1 h1) rfl) λv hv=>?_;subst hv;refine Ok.bind (P:=λv=>v=d.Groups.take j) (c9 (λ_=>(Ok.cutI (by omega) (by rw[Cn (by omega)];omega) (by rw[Cn (by omega)];dsimp only;omega)).mono λy hy=>?_) (λhn=>absurd ⟨rfl,trivial⟩ hn)) λv hv=>?_
 ·rw[hy,Cn (by omega)];simp
 subst hv;refine Ok.bind (P:=λv=>v=(false,g)) (c9 (λ_=>cR (Azw λx hx=>?_) rfl) (λhn=>absurd ⟨rfl,trivial⟩ hn)) λv hv=>?_
 ·obtain⟨i,hi⟩:=bv hx;rw[ao]at hi;split at hi
  ·obtain⟨q1,q2⟩:=aa.1 hi;obtain⟨q3,q4⟩:=aa.1 hg;have:=bH.1 h.groups.dist i j q1 q3 (by assumption);rw[q2,q4]at this;exact this
  ·cases hi
 subst hv;have hne:((g.Parts.length:Int)==0)=false:=by
  cases e:g.Parts with
  |nil=>exact absurd e h2
  |cons a b=>grind
 refine Ok.bind (P:=λv=>v=(false,d)) (c9 (λ_=>cR (Aoh h h4) rfl) (λhn=>absurd ⟨by simp[hne],trivial⟩ hn)) λv hv=>?_;subst hv;refine Ok.bind (P:=λv=>v=true) (c9 (λ_=>cR (Aim (l:=g.Parts) h3 (by omega)) rfl) (λhn=>absurd ⟨by simp[hne],trivial⟩ hn)) λv hv=>?_;subst hv;refine c6 (λhc=>?_) (λ_=>c7 rfl);simp[Aqv,hne]at hc
theorem Wx(h:O3 d):F50 d=some 0:=by
 have h1:=h.len;have h2:=h.links.len;have h3:=h.groups.len;unfold F50;have e:Alq d=false:=by
  simp only[Alq,ba,dz];omega
 rw[e,Aj6 h.asc h.ok (by omega),Aom h,Ak2 h];rfl
theorem Acf(x y:Aa):F29 x y=Dg x y:=rfl
theorem Ahk(h:Ds p):X7 p=true:=by
 unfold Ds at h;simp only[X7,ac,dy];omega
theorem Wo(hl:Di l)(h:∀p,p∈l->Ds p)(hn:l.length<=1000):Agg l=some true:=by
 refine cU ?_;unfold Agg;refine Ok.andThen (A:=λ_=>True) (B:=λ_=>False) ?_ (λ_ _=>Ok.pure rfl) (λ_ h=>h.elim);refine c8 (I:=λ_ _=>True) trivial (λj x _ hx _=>?_) λ_ _=>trivial;have hj:=(aa.1 hx).1;unfold Ajy;rw[Cn (by omega),Ahk (h x (ae hx))];refine Ok.bind (P:=λv=>0<j->l[j-1]? = some v) (c9 (λha=>?_) (λhn hp=>absurd ⟨rfl,by simpa using hp,trivial⟩ hn)) λv hv=>c6 (λhc=>?_) (λ_=>c7 trivial)
 ·have hp:0<j:=by simpa using ha.2.1
  rw[Az (by omega)];refine(cP (by omega) (by omega)).mono λy hy _=>?_;rw[←hy];congr 1;omega
 ·simp only[Aqu,Ahk (h x (ae hx)),aP,aT,ac,aU,Acf]at hc;rw[Cn (by omega)]at hc;simp only[dy]at hc;have:=N9 hl (hv (by omega)) hx (by omega);rw[hc.2]at this;cases this
theorem Anl(h:s∈Hb):Avw s=some true:=by
 simp only[Hb,ag,List.not_mem_nil,or_false]at h;rcases h with rfl|rfl|rfl|rfl <;> kernel_rfl
theorem Aa6(h:O3 d):F59 d=some 0:=by
 have h1:=h.len;have h2:=h.links.len;have h3:=h.groups.len;refine cU ?_;unfold F59;have e:Alo d=false:=by
  simp only[Alo,ba,dz];omega
 rw[e,Wo h.asc h.ok (by omega)];simp only[cond_false,ab,aP];refine Ok.andThen (A:=λ_=>True) (B:=λ_=>False) ?_ (λ_ _=>Ok.andThen (A:=λ_=>True) (B:=λ_=>False) ?_ (λ_ _=>Ok.pure rfl) (λ_ h=>h.elim)) (λ_ h=>h.elim)
 ·refine c8 (I:=λ_ _=>True) trivial (λj x _ hx _=>?_) λ_ _=>trivial;obtain⟨q1,q2,q3⟩:=h.links.mem x (ae hx);have hj:=(aa.1 hx).1;unfold Arn;refine Ok.bind (P:=λv=>v=true) (cR (Ju _ _) (Ha q1)) λv hv=>?_;subst hv;refine Ok.bind (P:=λv=>v=true) (c9 (λ_=>cR (Ju _ _) (Ha q2)) (λhn=>absurd ⟨rfl,trivial⟩ hn)) λv hv=>?_;subst hv;refine c6 (λhc=>?_) (λ_=>?_)
  ·simp only[Awp,aP,Bool.or_self,aT,H1]at hc;exact absurd (C7.1 hc) q3
  rw[Cn (by omega)];have hg:∀m:List (Bool×Bool),Ok (As ((decide ((j:Int)>0),true)::m) (getI d.Links (w64 ((j:Int)-1))) default) λv=>0<j->De m->d.Links[j-1]? = some v:=λm=>by
   refine c9 (λha=>?_) (λhn hp hm=>absurd ⟨by simpa using hp,hm⟩ hn);have hp:0<j:=by simpa using ha.1
   rw[Az (by omega)];refine(cP (by omega) (by omega)).mono λy hy _ _=>?_;rw[←hy];congr 1;omega
  refine(hg _).bind λa ha=>(hg _).bind λb hb=>(hg _).bind λc hc=>c6 (λhcc=>?_) (λ_=>c7 trivial);simp only[Awo,ac,aU,ba,Acf]at hcc;rw[Cn (by omega)]at hcc;simp only[dy,H1]at hcc;obtain⟨g1,g2,g3⟩:=hcc;have hj0:0<j:=by omega
  have ea:=ha hj0 trivial;have eb:=hb hj0 ⟨g2,trivial⟩;rw[ea]at eb;cases eb;obtain⟨r1,r2⟩:=aa.1 ea;obtain⟨r3,r4⟩:=aa.1 hx;have hlt:=bH.1 h.links.asc (j-1) j r1 r3 (by omega);rw[r2,r4]at hlt;rcases hlt with hlt|⟨hlt,hlt2⟩
  ·rw[g2]at hlt;cases hlt
  ·have et:Ei a.From x.From=true:=C7.2 hlt;have ec:=hc hj0 ⟨g2,by rw[H1];exact et,trivial⟩;rw[ea]at ec;cases ec;rw[et,hlt2]at g3;cases g3
 ·refine c8 (I:=λ_ _=>True) trivial (λj g _ hg _=>?_) λ_ _=>trivial;obtain⟨q1,q2,q3,q4,q5⟩:=h.groups.mem g (ae hg);have hj:=(aa.1 hg).1;have hne:((g.Parts.length:Int)==0)=false:=by
   cases e:g.Parts with
   |nil=>exact absurd e q2
   |cons a b=>rw[aR,dC];omega
  unfold Arm;refine Ok.bind (P:=λv=>v=true) (cR (Anl q1) rfl) λv hv=>?_;subst hv;refine Ok.bind (P:=λv=>v=true) (c9 (λ_=>cR (Wo q3 (λp hp=>h.ok p (q4 p hp)) (by omega)) rfl) (λhn=>absurd ⟨by simp[hne],trivial⟩ hn)) λv hv=>?_;subst hv;refine c6 (λhc=>by simp[Awn,hne]at hc) (λ_=>?_);refine Ok.inner (A:=λ_=>True) (B:=λ_=>False) ?_ (λ_ _=>Ok.inner (A:=λ_=>True) (B:=λ_=>False) ?_ (λ_ _=>c7 trivial) (λ_ h=>h.elim)) (λ_ h=>h.elim)
  ·refine c8 (I:=λ_ _=>True) trivial (λi x _ hx _=>?_) λ_ _=>trivial;unfold Arl;refine Ok.bind (P:=λv=>v=true) (cR (Ju _ _) (Ha (q4 x (ae hx)))) λv hv=>?_;subst hv;exact c7 trivial
  ·refine cO (λz=>0<=z/\z<=1000) (λz=>((j:Int)-z).toNat) _ _ ⟨by omega,by omega⟩ (by omega) λz hz=>?_;unfold Ark;rw[Cn (by omega)];refine c6 (λhc=>?_) (λ_=>cS trivial);simp only[dy]at hc;rw[Az (n:=z+1) (by omega)];refine(cP hz.1 (by omega)).bind λy hy=>c6 (λhc2=>?_) (λ_=>c7 ⟨by omega,by omega⟩);obtain⟨r1,r2⟩:=aa.1 hy;obtain⟨r3,r4⟩:=aa.1 hg;have hd:=bH.1 h.groups.dist z.toNat j r1 r3 (by omega);rw[r2,r4]at hd;exact absurd (Aq2 (by simpa using hc2)) hd
variable{b:List Aa}
theorem Aj4{a:List Aa}(h:a.length+b.length<=900):F31 a b=some (E5 a b):=by
 refine cU ?_;unfold F31;refine Ok.andThen (A:=λz=>Di z.2/\z.2.length<=a.length/\∀x,x∈z.2↔x∈a) (B:=λ(_:Unit)=>False) ?_ (λy hy=>Ok.andThen (A:=λz=>Di z.2/\∀x,x∈z.2↔x∈a\/x∈b) (B:=λ(_:Unit)=>False) ?_ (λz hz=>Ok.pure ?_) (λ_ h=>h.elim)) (λ_ h=>h.elim)
 ·refine cO (λz=>∃k:Nat,z.1=(k:Int)/\k<=a.length/\Di z.2/\z.2.length<=k/\∀x,x∈z.2↔x∈a.take k) (λz=>((a.length:Int)-z.1).toNat) _ _ ⟨0,rfl,by omega,show Di [] from bG,by simp,by simp⟩ (by dsimp only;omega) ?_;rintro⟨_,l⟩ ⟨k,rfl,h1,h2,h3,h4⟩;dsimp only at h2 h3 h4;unfold Aru;refine c6 (λhc=>?_) (λhc=>cS ⟨h2,by dsimp only;omega,?_⟩)
  ·simp only[dy]at hc;refine(cP (by omega) hc).bind λx hx=>Ok.bind (P:=λv=>v=G_ x l) (cR (Pr h2 (by omega) x) rfl) λv hv=>c7 ?_;subst hv;rw[Az (by omega)];rw[aE]at hx;refine⟨⟨k+1,by omega,by omega,Hm _ h2,by have:=Lb x l;dsimp only;omega,λy=>?_⟩,by omega⟩;rw[Ez,h4,Bm hx];simp only[am,aC];exact or_comm
  ·simp only[dz]at hc;have e:k=a.length:=by omega
   subst e;rw[aJ]at h4;exact h4
 ·obtain⟨y1,y2,y3⟩:=hy;refine cO (λz=>∃k:Nat,z.1=(k:Int)/\k<=b.length/\Di z.2/\z.2.length<=a.length+k/\∀x,x∈z.2↔x∈a\/x∈b.take k) (λz=>((b.length:Int)-z.1).toNat) _ _ ⟨0,rfl,by omega,y1,by simpa using y2,by simpa using y3⟩ (by dsimp only;omega) ?_;rintro⟨_,l⟩ ⟨k,rfl,h1,h2,h3,h4⟩;dsimp only at h2 h3 h4;unfold Art;refine c6 (λhc=>?_) (λhc=>cS ⟨h2,?_⟩)
  ·simp only[dy]at hc;refine(cP (by omega) hc).bind λx hx=>Ok.bind (P:=λv=>v=G_ x l) (cR (Pr h2 (by omega) x) rfl) λv hv=>c7 ?_;subst hv;rw[Az (by omega)];rw[aE]at hx;refine⟨⟨k+1,by omega,by omega,Hm _ h2,by have:=Lb x l;dsimp only;omega,λy=>?_⟩,by omega⟩;rw[Ez,h4,Bm hx];simp only[am,aC];constructor
   ·rintro (h|h|h)
    ·exact .inr (.inr h)
    ·exact .inl h
    ·exact .inr (.inl h)
   ·rintro (h|h|h)
    ·exact .inr (.inl h)
    ·exact .inr (.inr h)
    ·exact .inl h
  ·simp only[dz]at hc;have e:k=b.length:=by omega
   subst e;rw[aJ]at h4;exact h4
 ·refine Hr hz.1 (Hh _) λx=>?_;unfold E5;rw[hz.2,Ia,am]
theorem Q3{a:List Aa}:x∈E5 a b↔x∈a\/x∈b:=by
 grind[E5,Ia]
theorem Ya(a b:List Aa):Di (E5 a b):=Hh _
theorem yJ:∀l:List Aa,(Jh l).length<=l.length
 | []=>by simp[Jh]
 |x::l=>by
  have h1:=yJ l;have h2:=Lb x (Jh l);grind[Jh]
theorem Ki(a b:List Aa):(E5 a b).length<=a.length+b.length:=by
 have:=yJ (a++b);rw[aB]at this;exact this
def Ja(L:List A6)(l:List Aa):Nat:=(L.filter λx=>!Ct l x.To).length
theorem Ayc(L:List A6){m:List Aa}(h:∀x,x∈l->x∈m):Ja L m<=Ja L l:=by
 unfold Ja;induction L with
 |nil=>simp
 | cons x L ih=>
  rw[aW,aW];by_cases hx:x.To∈l
  ·rw[Ha hx,Ha (h _ hx)];exact ih
  ·rw[Acl hx];grind
theorem Aig{x:A6}{l:List Aa}(hl:¬x.To∈l):∀{L:List A6},x∈L->Ja L (G_ x.To l)+1<=Ja L l
 | y::L,h=>by
  have hi:∀z,z∈l->z∈G_ x.To l:=λz hz=>(Ez _ _ _).2 (.inr hz);have hle:=Ayc L hi;unfold Ja at hle ⊢;rw[aW,aW];rcases ag.1 h with e|h
  ·subst e;rw[Acl hl,Ha ((Ez _ _ _).2 (.inl rfl))];simp;omega
  ·have ih:=Aig hl h;unfold Ja at ih;by_cases hy:y.To∈l
   ·rw[Ha hy,Ha (hi _ hy)];exact ih
   ·rw[Acl hy];grind
def Al0(d:A3)(b:List Aa)(l:List Aa):Prop:=Di l/\(∀x,x∈l->Led d.Links b x)/\(∀x,x∈b->x∈l)/\l.length+Ja d.Links l<=b.length+d.Links.length
theorem Ak7(h:O3 d)(hb:b.length<=800):F28 d b=some (El d.Links b):=by
 have h2:=h.links.len;refine cU ?_;unfold F28;rw[Aj4 (a:=b) (b:=[]) (by simpa using by omega),Aa6 h];refine Ok.andThen (A:=λz=>Al0 d b z.2/\∀x,x∈d.Links->x.From∈z.2->x.To∈z.2) (B:=λ(_:Unit)=>False) ?_ (λz hz=>Ok.pure ?_) (λ_ h=>h.elim)
 ·refine cO (λz=>Al0 d b z.2/\(z.1=false->∀x,x∈d.Links->x.From∈z.2->x.To∈z.2)) (λz=>2*Ja d.Links z.2+z.1.toNat) _ _ ⟨⟨Ya _ _,λx hx=>?_,λx hx=>Q3.2 (.inl hx),?_⟩,λe=>by cases e⟩ ?_ ?_
  ·rcases Q3.1 hx with hx|hx
   ·exact .at hx
   ·cases hx
  ·have h3:=Ki b [];have h4:Ja d.Links (E5 b [])<=d.Links.length:=aV _ _;simp only[bP,bx]at h3;dsimp only;omega
  ·have h4:Ja d.Links (E5 b [])<=d.Links.length:=aV _ _;show 2*Ja d.Links (E5 b [])+1<1152921504606846976;omega
  rintro⟨m,l⟩ ⟨⟨h3,h4,h5,h6⟩,h7⟩;unfold Arz;dsimp only at h3 h4 h5 h6 h7 ⊢;refine c6 (λhc=>?_) (λhc=>cS ⟨⟨h3,h4,h5,h6⟩,h7 hc⟩);subst hc;refine Ok.inner (A:=λz=>(Al0 d b z.2/\(z.1=false->z.2=l/\∀x,x∈d.Links->x.From∈l->x.To∈l))/\2*Ja d.Links z.2+z.1.toNat<2*Ja d.Links l+1) (B:=λ(_:Unit)=>False) ?_ (λz hz=>c7 ⟨⟨hz.1.1,λe=>?_⟩,hz.2⟩) (λ_ h=>h.elim)
  ·refine c8 (I:=λj z=>(Al0 d b z.2/\(z.1=false->z.2=l/\∀x,x∈d.Links.take j->x.From∈l->x.To∈l))/\2*Ja d.Links z.2+z.1.toNat<2*Ja d.Links l+1) ⟨⟨⟨h3,h4,h5,h6⟩,λ_=>⟨rfl,by simp⟩⟩,by simp only[Bool.toNat_false];omega⟩ (λj x z hx hz=>?_) λz hz=>?_
   ·obtain⟨⟨⟨z1,z2,z3,z4⟩,z5⟩,z6⟩:=hz;have hxm:=ae hx;unfold Ary;refine Ok.bind (P:=λv=>v=Ct z.2 x.From) (cR (Ju _ _) rfl) λv hv=>Ok.bind (P:=λu=>v=true->u=Ct z.2 x.To) (c9 (λ_=>cR (Ju _ _) λ_=>rfl) (λhn hv=>absurd ⟨hv,trivial⟩ hn)) λu hu=>c6 (λhc=>?_) (λhc=>c7 ⟨⟨⟨z1,z2,z3,z4⟩,λe=>⟨(z5 e).1,λy hy hf=>?_⟩⟩,z6⟩)
    ·simp only[ac,aU]at hc;have e1:=hu hc.1;rw[hc.2]at e1;rw[hc.1]at hv;have hfrom:=G2.1 hv.symm;have hto:¬x.To∈z.2:=λhm=>by rw[Ha hm]at e1;cases e1
     refine Ok.bind (P:=λv=>v=G_ x.To z.2) (cR (Pr z1 (by omega) _) rfl) λv hv=>c7 ?_;subst hv;have hlt:=Aig hto hxm;have hil:=Lb x.To z.2;refine⟨⟨⟨Hm _ z1,λy hy=>?_,λy hy=>(Ez _ _ _).2 (.inr (z3 y hy)),by dsimp only;omega⟩,λe=>by cases e⟩,by simp only[Bool.toNat_true];have:z.1.toNat<=1:=Bool.toNat_le z.1;omega⟩;rcases(Ez _ _ _).1 hy with hy|hy
     ·rw[hy];exact .by (z2 _ hfrom) x hxm rfl rfl
     ·exact z2 y hy
    ·obtain⟨e1,e2⟩:=z5 e;rw[Bm hx]at hy;rcases am.1 hy with hy|hy
     ·exact e2 y hy hf
     ·rw[aC.1 hy]at hf ⊢;rw[e1,Ha hf]at hv;rw[hv]at hc;simp only[bt,cv]at hc;have e3:=hu hv;rw[hc,e1]at e3;exact G2.1 e3.symm
   ·rw[aJ]at hz;exact hz
  ·rw[(hz.1.2 e).1];exact(hz.1.2 e).2
 ·obtain⟨⟨z1,z2,z3,_⟩,z4⟩:=hz;refine Hr z1 (M3 _ _) λx=>?_;rw[M2];refine⟨z2 x,λhx=>?_⟩;induction hx with
  | «at» h=>exact z3 _ h
  | «by» _ x hx e1 e2 ih=>subst e2;exact z4 x hx (e1 ▸ ih)
theorem Kf(x lo hi:Int):Cg x lo hi=true↔lo<=x/\x<=hi:=by
 simp[Cg]
variable{b:Ab}
theorem Yw(h:Ax b)(x:Aa):Vy b x=true↔Cu b x:=by
 have h1:=h.buses;have h2:=h.brl;have h3:=h.sol;have h4:=h.col;unfold Vy Cu;rw[Az (n:=(b.Ae.length:Int)-1) (by omega),Az (n:=(b.Ah.length:Int)-1) (by omega),Az (n:=b.Am-1) (by omega),Az (n:=(b.Ag.length:Int)-1) (by omega)];by_cases k1:x.Kind=1
 ·rw[dA.2 k1,cond_true,Kf];omega
 rw[dC.2 k1,cond_false];by_cases k2:x.Kind=2
 ·rw[dA.2 k2,cond_true,Kf];omega
 rw[dC.2 k2,cond_false];by_cases k3:x.Kind=3
 ·rw[dA.2 k3,cond_true,Kf];omega
 rw[dC.2 k3,cond_false];by_cases k4:x.Kind=4
 ·rw[dA.2 k4,cond_true,Kf];omega
 grind
theorem Ac1{l:List Ak}:∀{c d:List Bool},c.length=d.length->(∀k:Nat,c[k]? = some true->d[k]? = some true)->∀i,(C_ l c i).length<=(C_ l d i).length:=by
 induction l with
 |nil=>intro c d _ _ i;simp[C_]
 | cons x l ih=>
  intro c d hl h i;cases c with
  |nil=>simp[C_]
  | cons v c=>cases d with
   |nil=>simp at hl
   |cons u d=>
    have:=ih (c:=c) (d:=d) (by simpa using hl) (λk hk=>by have:=h (k+1) (by simpa using hk);simpa using this) i;have h0:v=true->u=true:=λe=>by have:=h 0 (by simp[e]);simpa using this
    unfold C_ at this ⊢;simp only[b9,aW];grind
theorem As2(h:Ax b)(hs0:A1 s0) :
  Ok (whileN (Vw b) 1152921504606846976 (0,s0.L,s0.At,([]:List Bool))) (Ep (λs=>A1 ⟨s.2.1,s.2.2.1⟩/\s.2.2.2.length=b.Ah.length) (λ(_:Unit)=>False)):=by
 have hb:=h.brl;refine cO (λs=>(0<=s.1/\s.1<=(b.Ah.length:Int))/\A1 ⟨s.2.1,s.2.2.1⟩/\(s.2.2.2.length:Int)=s.1) (λs=>((b.Ah.length:Int)-s.1).toNat) _ _ ?_ ?_ ?_
 ·exact⟨by dsimp only;omega,hs0,by simp⟩
 ·dsimp only;omega
 ·rintro⟨i,L,a,l⟩ ⟨⟨h1,h2⟩,h4,h5⟩;dsimp only at h1 h2 h4 h5;unfold Vw Ad6;refine c6 (λh=>?_) (λh=>?_)
  ·simp only[dy]at h;have e:w64 (i+1)=i+1:=Az (by omega);dsimp only;rw[e];refine(C6 h4 2 (by omega) (by omega)).bind λu hu=>(cQ (by simp;omega)).bind λm hm=>c7 ?_;subst hm;exact⟨⟨by dsimp only;omega,hu.1,by simp;omega⟩,by dsimp only;omega⟩
  ·simp only[dz]at h;exact cS ⟨h4,by dsimp only;omega⟩
variable{l:List α}
theorem B1{x:α}(h:l[j]? = some x):getI l (j:Int)=some x:=by unfold getI;simp[h]
theorem Xa{x:α}(h:j<l.length):setI l (j:Int) x=some (l.set j x):=by
 grind[setI]
theorem As0(h:Ax b)(hn:n=(i:Int))(hc:c.length=b.Ah.length)(w:Int×List Bool)(hw:w.1=n) :
  Ok (foldI (Vu w) b.Ah 0 (true,c)) (Ep (λs=>s.2.length=b.Ah.length/\(∀k:Nat,s.2[k]? = some true->c[k]? = some true)/\(C_ b.Ah s.2 i).length<=1) (λ(_:Unit)=>False)):=by
 have hb:=h.brl;refine c8 (I:=λj s=>s.2.length=b.Ah.length/\(∀k:Nat,s.2[k]? = some true->c[k]? = some true)/\(s.1=true->C_ (b.Ah.take j) (s.2.take j) i=[])/\(C_ (b.Ah.take j) (s.2.take j) i).length<=1) ?_ (λj x s hx hs=>?_) λs hs=>?_
 ·exact⟨hc,λ_ h=>h,λ_=>by simp[C_],by simp[C_]⟩
 ·obtain⟨f,d⟩:=s;obtain⟨h1,h2,h3,h4⟩:=hs;dsimp only at h1 h2 h3 h4;have hj:=(aa.1 hx).1;obtain⟨v,hv⟩:∃v,d[j]? = some v:=⟨_,ai (by omega)⟩;have hcnt:cnt 0 j=(j:Int):=Cn (by omega);unfold Vu zN;dsimp only;rw[hcnt,B1 hv,Xa (by omega),hw,hn];cases hk:(x.Kind==3&&x.B==(i:Int)) with
  |false=>
   simp only[As,Ef,Bool.false_and];refine c7 ⟨h1,h2,λe=>?_,?_⟩ <;> dsimp only <;> rw[M1 hx hv,hk]
   ·simpa using h3 e
   ·simpa using h4
  | true=>
   simp only[As,Ef,bt];cases v with
   |false=>
    refine c7 ⟨h1,h2,λe=>?_,?_⟩ <;> dsimp only <;> rw[M1 hx hv,hk]
    ·simpa using h3 e
    ·simpa using h4
   | true=>
    have hset:(d.set j f)[j]? = some f:=by rw[bI (by omega)]
    have htake:(d.set j f).take j=d.take j:=by rw[List.take_set_of_le (af j)]
    refine c7 ⟨by simpa using h1,λk hk2=>?_,λe=>?_,?_⟩
    ·grind
    ·cases e
    ·dsimp only;rw[M1 hx hset,hk,htake];cases f with
     |false=>simpa using h4
     |true=>simp[h3 rfl]
 grind
theorem As1(h:Ax b)(hc:c.length=b.Ah.length) :
  Ok (whileN (Vv b) 1152921504606846976 (0,c)) (Ep (λs=>s.2.length=b.Ah.length/\∀i,i<b.Ag.length->(C_ b.Ah s.2 i).length<=1) (λ(_:Unit)=>False)):=by
 have hco:=h.col;refine cO (λs=>(0<=s.1/\s.1<=(b.Ag.length:Int))/\s.2.length=b.Ah.length/\∀i:Nat,(i:Int)<s.1->(C_ b.Ah s.2 i).length<=1) (λs=>((b.Ag.length:Int)-s.1).toNat) _ _ ?_ ?_ ?_
 ·grind
 ·dsimp only;omega
 ·rintro⟨n,d⟩ ⟨⟨h1,h2⟩,h3,h4⟩;dsimp only at h1 h2 h3 h4;unfold Vv Ad5;refine c6 (λhq=>?_) (λhq=>?_)
  ·simp only[dy]at hq;have e:w64 (n+1)=n+1:=Az (by omega);dsimp only;refine(As0 h (n:=n) (i:=n.toNat) (by omega) h3 (n,d) rfl).inner (λs hs=>?_) (λ_ h=>h.elim);rw[e];obtain⟨g1,g2,g3⟩:=hs;refine c7 ⟨⟨by dsimp only;omega,g1,λi hi=>?_⟩,by dsimp only;omega⟩;dsimp only at hi ⊢;by_cases e:(i:Int)=n
   ·have:i=n.toNat:=by omega
    subst this;exact g3
   ·exact aw (Ac1 (by omega) g2 i) (h4 i (by omega))
  ·simp only[dz]at hq;exact cS ⟨h3,λi hi=>h4 i (by omega)⟩
theorem Asz(h:Ax b)(hs0:A1 s0) :
  Ok (whileN (Vt b) 1152921504606846976 (0,s0.L,s0.At,([]:List Aj))) (Ep (λs=>A1 ⟨s.2.1,s.2.2.1⟩/\s.2.2.2.length=b.Ae.length/\∀x,x∈s.2.2.2->D9 x/\x.Since<=4) (λ(_:Unit)=>False)):=by
 have hb:=h.sol;refine cO (λs=>(0<=s.1/\s.1<=(b.Ae.length:Int))/\A1 ⟨s.2.1,s.2.2.1⟩/\(s.2.2.2.length:Int)=s.1/\∀x,x∈s.2.2.2->D9 x/\x.Since<=4) (λs=>((b.Ae.length:Int)-s.1).toNat) _ _ ?_ ?_ ?_
 ·exact⟨by dsimp only;omega,hs0,by simp,λx hx=>by simp at hx⟩
 ·dsimp only;omega
 ·rintro⟨i,L,a,l⟩ ⟨⟨h1,h2⟩,h4,h5,h6⟩;dsimp only at h1 h2 h4 h5 h6;unfold Vt zM;refine c6 (λh=>?_) (λh=>?_)
  ·simp only[dy]at h;have e:w64 (i+1)=i+1:=Az (by omega);dsimp only;rw[e];refine(Cx h4 _ (by simp) (by simp)).bind λu hu=>(C6 hu.1 5 (by omega) (by omega)).bind λv hv=>(Cx hv.1 _ (by simp) (by simp)).bind λp hp=>(Cx hp.1 _ (by simp) (by simp)).bind λq hq=>(cQ (by simp;omega)).bind λm hm=>c7 ?_;subst hm;have g1:u.1=0\/u.1=1\/u.1=2\/u.1=2\/u.1=2\/u.1=3:=by simpa using hu.2
   have g2:=hv.2;have g3:p.1=5000\/p.1=5000\/p.1=5005\/p.1=4950:=by simpa using hp.2
   have g4:q.1=0\/q.1=0\/q.1=40\/q.1=1800\/q.1=3590:=by simpa using hq.2
   refine⟨⟨by dsimp only;omega,hq.1,by simp;omega,λx hx=>?_⟩,by dsimp only;omega⟩;rcases am.1 hx with hx|hx
   ·exact h6 x hx
   ·simp at hx;subst hx;exact⟨⟨by dsimp only;omega,by dsimp only;omega,by dsimp only;omega,by dsimp only;omega⟩,by dsimp only;omega⟩
  ·simp only[dz]at h;exact cS ⟨h4,by dsimp only;omega,h6⟩
theorem Asy(h:Ax b)(hs0:A1 s0) :
  Ok (foldI Vs b.Ag 0 (s0.L,s0.At,([]:List Int))) (Ep (λs=>A1 ⟨s.1,s.2.1⟩/\s.2.2.length=b.Ag.length/\∀(i:Nat) n c,s.2.2[i]? = some n->b.Ag[i]? = some c->0<=n/\n<=c.Load) (λ(_:Unit)=>False)):=by
 have hb:=h.col;refine c8 (I:=λj s=>A1 ⟨s.1,s.2.1⟩/\s.2.2.length=j/\∀(i:Nat) n c,s.2.2[i]? = some n->b.Ag[i]? = some c->0<=n/\n<=c.Load) ?_ (λj x s hx hs=>?_) λs hs=>hs
 ·exact⟨hs0,rfl,λi n c hn=>by simp at hn⟩
 ·obtain⟨L,a,l⟩:=s;obtain⟨h1,h2,h3⟩:=hs;dsimp only at h1 h2 h3;have hj:=(aa.1 hx).1;unfold Vs;dsimp only;refine(Cx h1 _ (by simp) (by simp)).bind λu hu=>(cQ (by simp;omega)).bind λm hm=>c7 ⟨hu.1,?_,λi n c hn hc=>?_⟩
  ·subst hm;simp[h2]
  ·dsimp only at hn;subst hm;rw[cj]at hn;split at hn
   ·exact h3 i n c hn hc
   ·rename_i hi;have hlt:=(aa.1 hn).1;simp at hlt;have:i=j:=by omega
    subst this;rw[hx]at hc;cases hc;rw[h2]at hn;simp at hn;subst hn;obtain⟨g1,g2,_⟩:=h.co _ x hx;have g3:=Asj (x:=x.Load) (by omega) (by omega);grind
theorem Asx(h:Ax b)(hs0:A1 s0) :
  Ok (whileN (Vr b) 7 (1,s0.L,s0.At,([]:List Aa))) (Ep (λs=>A1 ⟨s.2.1,s.2.2.1⟩/\D8 b s.2.2.2/\s.2.2.2.length<=4) (λ(_:Unit)=>False)):=by
 refine cO (λs=>(1<=s.1/\s.1<=5)/\A1 ⟨s.2.1,s.2.2.1⟩/\((s.2.2.2.length:Int)<s.1)/\(∀x,x∈s.2.2.2->Cu b x/\x.Kind<s.1)/\∀(j:Nat) x y,s.2.2.2[j]? = some x->s.2.2.2[j+1]? = some y->K0 x y) (λs=>(5-s.1).toNat) _ _ ?_ ?_ ?_
 ·exact⟨by dsimp only;omega,hs0,by simp,λx hx=>by simp at hx,λj x y hx=>by simp at hx⟩
 ·dsimp only;omega
 ·rintro⟨i,L,a,l⟩ ⟨⟨h1,h2⟩,h4,h5,h6,h7⟩;dsimp only at h1 h2 h4 h5 h6 h7;unfold Vr;refine c6 (λhq=>?_) (λhq=>?_)
  ·simp only[dy]at hq;have e:w64 (i+1)=i+1:=Az (by omega);dsimp only;rw[e];have skip:∀{u:Af},A1 u->Ok (some (.next (i+1,u.L,u.At,l)):Option (Ctl (Int×List Int×Int×List Aa) Unit)) (Hg (λs=>((1<=s.1/\s.1<=5)/\A1 ⟨s.2.1,s.2.2.1⟩/\((s.2.2.2.length:Int)<s.1)/\(∀x,x∈s.2.2.2->Cu b x/\x.Kind<s.1)/\∀(j:Nat) x y,s.2.2.2[j]? = some x->s.2.2.2[j+1]? = some y->K0 x y)/\(5-s.1).toNat<(5-i).toNat) (λs=>A1 ⟨s.2.1,s.2.2.1⟩/\D8 b s.2.2.2/\s.2.2.2.length<=4) (λ_=>False)):=λhu=>
    c7 ⟨⟨by dsimp only;omega,hu,by dsimp only;omega,λx hx=>⟨(h6 x hx).1,by have:=(h6 x hx).2;dsimp only;omega⟩,h7⟩,by dsimp only;omega⟩
   refine(C6 h4 5 (by omega) (by omega)).bind λu hu=>c6 (λ_=>?_) (λ_=>skip hu.1);refine(C6 hu.1 4 (by omega) (by omega)).bind λv hv=>c6 (λhe=>?_) (λ_=>skip hv.1);rw[Yw h]at he;refine(cQ (by simp;omega)).bind λm hm=>c7 ?_;subst hm;refine⟨⟨by dsimp only;omega,hv.1,by simp;omega,λx hx=>?_,λj x y hx hy=>?_⟩,by dsimp only;omega⟩
   ·rcases am.1 hx with hx|hx
    ·exact⟨(h6 x hx).1,by have:=(h6 x hx).2;dsimp only;omega⟩
    ·simp at hx;subst hx;exact⟨he,by dsimp only;omega⟩
   ·dsimp only at hx hy;have hyl:=(aa.1 hy).1;simp at hyl;rw[aA (by omega)]at hx;rw[cj]at hy;split at hy
    ·exact h7 j x y hx hy
    ·rename_i hn;have e0:j+1-l.length=0:=by omega
     rw[e0]at hy;simp at hy;subst hy;exact .inl (h6 x (ae hx)).2
  ·simp only[dz]at hq;exact cS ⟨h4,⟨by dsimp only;omega,λx hx=>(h6 x hx).1,h7⟩,by dsimp only;omega⟩
variable{s:Af}
theorem Aq5(h:Ax b)(hs:A1 s):Ok (Vx s b) λy=>((Av b y.1/\y.1.Al.length<=4)/\A1 y.2)/\∀x,x∈y.1.Ae->x.Since<=4:=by
 unfold Vx;refine(As2 h hs).andThen (λs0 h0=>?_) (λ_ h=>h.elim);refine(As1 h h0.2).andThen (λs1 h1=>?_) (λ_ h=>h.elim);refine(Asz h h0.1).andThen (λs3 h3=>?_) (λ_ h=>h.elim);refine(Asy h h3.1).andThen (λs4 h4=>?_) (λ_ h=>h.elim);refine(Asx h h4.1).andThen (λs5 h5=>?_) (λ_ h=>h.elim);exact Ok.pure ⟨⟨⟨⟨h1.1,h3.2.1,h4.2.1,λx hx=>(h3.2.2 x hx).1,h4.2.2,h1.2,h5.2.1⟩,h5.2.2⟩,h5.1⟩,λx hx=>(h3.2.2 x hx).2⟩
theorem Au7(h:Ax b)(hs:A1 s):Ok (Vx s b) λy=>(Av b y.1/\y.1.Al.length<=4)/\A1 y.2:=(Aq5 h hs).mono λ_ hy=>hy.1
def Fl(b:Ab)(p:Ad)(k i:Int):Option Int:=((b.Ah.zip p.Ai).find? λz=>(z.1.Kind==k&&z.1.B==i)&&z.2).map (·.1.A)
def Fp(o:Option Int):Int×Bool:=match o with
 |some a=>(a,true)
 |none=>(0,false)
theorem Acg{p:Ad}{k i:Int}:∀(l:List Ak)(c:List Bool)(n:Nat),n+l.length<=9223372036854775807->l.length=c.length->p.Ai.drop n=c ->
  foldI (vC p k i) l n ()=match ((l.zip c).find? λz=>(z.1.Kind==k&&z.1.B==i)&&z.2) with
   |some z=>some (.ret (z.1.A,true))
   |none=>some (.next ())
 | [],c,n,_,_,_=>by simp[foldI]
 |x::l,[],n,_,h,_=>by simp at h
 | x::l,v::c,n,hn,h,hd=>by
  simp only[aR]at hn h;have hv:p.Ai[n]? = some v:=by
   have:=congrArg (·[0]?) hd;simpa[List.getElem?_drop]using this
  have hd':p.Ai.drop (n+1)=c:=by rw[←bK,hd];rfl
  have ih:=Acg (p:=p) (k:=k) (i:=i) l c (n+1) (by omega) (by omega) hd';have hcnt:cnt 0 n=(n:Int):=Cn (by omega);simp only[foldI,vC,Ap7,hcnt,B1 hv,b9,List.find?_cons];cases hk:(x.Kind==k&&x.B==i) with
  |false=>simpa[As,Ef]using ih
  |true=>
   cases v with
   |false=>simpa[As,Ef]using ih
   |true=>simp[As,Ef]
variable{p:Ad}
theorem Aop(h:Ax b)(hc:p.Ai.length=b.Ah.length)(k i:Int):Afo b p k i=some (Fp (Fl b p k i)):=by
 have hb:=h.brl;unfold Afo;rw[Acg b.Ah p.Ai 0 (by omega) (by omega) rfl];unfold Fl;cases (b.Ah.zip p.Ai).find? λz=>(z.1.Kind==k&&z.1.B==i)&&z.2 with
 |none=>rfl
 |some z=>rfl
theorem Ac2(h:Ax b)(hc:p.Ai.length=b.Ah.length)(i:Int):vE b p i=some (Fp (Fl b p 3 i)):=by
 unfold vE;rw[Aop h hc];rfl
def Hd(b:Ab)(p:Ad)(i:Int):Option Int:=
 if 0<=i/\i<p.Ae.length/\(p.Ae.getD i.toNat default).State=2 then Fl b p 2 i else none
theorem Uo(h:Ax b)(hp:Av b p)(i:Int):vF b p i=some (Fp (Hd b p i)):=by
 have hs:=h.sol;have hn:=hp.nso;refine cU ?_;unfold vF;have e1:w64 ((p.Ae.length:Int)-1)=(p.Ae.length:Int)-1:=Az (by omega);by_cases hi:0<=i/\i<p.Ae.length
 ·have hin:Bn i 0 (w64 ((p.Ae.length:Int)-1))=true:=by rw[e1];exact qV (by omega)
  obtain⟨x,hx⟩:∃x,p.Ae[i.toNat]? = some x:=⟨_,ai (by omega)⟩;have hg:getI p.Ae i=some x:=by have:=B1 hx;rwa [bA hi.1]at this
  have hd:p.Ae.getD i.toNat default=x:=by simp[List.getD,hx]
  rw[hin,hg];refine Ok.bind (P:=λy=>y=x) (c9 (λ_=>Ok.pure rfl) λhn=>(hn ⟨rfl,trivial⟩).elim) λy hy=>?_;subst hy;unfold Hd;refine c6 (λhc=>?_) (λhc=>?_)
  ·simp only[Zb,hin,az,aP,bC,false_or,bne_iff_ne,ne_eq]at hc;rw[hd,if_neg (λhh=>hc hh.2.2)];exact Ok.pure rfl
  ·have hc:=ff hc;simp only[Zb,hin,az,aP,bC,false_or,bne_iff_ne,ne_eq,Decidable.not_not]at hc;rw[hd,if_pos ⟨hi.1,hi.2,hc⟩,Aop h hp.ncl];exact Ok.pure rfl
 ·have hin:Bn i 0 (w64 ((p.Ae.length:Int)-1))=false:=by
   cases hq:Bn i 0 (w64 ((p.Ae.length:Int)-1)) with
   |false=>rfl
   |true=>rw[Im,e1]at hq;omega
  rw[hin];unfold Hd;rw[if_neg (λhh=>hi ⟨hh.1,hh.2.1⟩)];refine Ok.bind (P:=λ_=>True) (c9 (λhg=>absurd hg.1 (by simp)) λ_=>trivial) λy _=>?_;refine c6 (λ_=>Ok.pure rfl) (λhc=>?_);simp[Zb,hin]at hc
variable{i:Int}
theorem Rl(h:Ax b)(e:Fl b p k i=some a):0<=a/\a<b.Am:=by
 unfold Fl at e;rw[bQ]at e;obtain⟨z,hz,rfl⟩:=e;exact(h.br z.1 (bS (List.mem_of_find?_eq_some hz)).1).1
theorem Ado(h:Ax b)(e:Hd b p i=some a):0<=a/\a<b.Am:=by
 unfold Hd at e;split at e
 ·exact Rl h e
 ·cases e
def Gj(s:List Int)(z:Ak×Bool):List Int:=
 if z.1.Kind=1/\z.2=true then (s.set z.1.A.toNat (min (s.getD z.1.A.toNat 0) (s.getD z.1.B.toNat 0))).set z.1.B.toNat (min (s.getD z.1.A.toNat 0) (s.getD z.1.B.toNat 0)) else s
def Eb(l:List (Ak×Bool))(s:List Int):List Int:=l.foldl Gj s
def Dk(n:Nat):List Int:=(List.range n).map λ(i:Nat)=>(i:Int)
def groups(b:Ab)(p:Ad):List Int:=(List.range b.Am.toNat).foldl (λs _=>Eb (b.Ah.zip p.Ai) s) (Dk b.Am.toNat)
theorem Fo(s:List Int)(z:Ak×Bool):(Gj s z).length=s.length:=by
 unfold Gj;split <;> simp
theorem Gn(l:List (Ak×Bool)):∀s:List Int,(Eb l s).length=s.length:=by
 induction l with
 |nil=>intro s;rfl
 |cons z l ih=>grind[Eb,Fo]
theorem O_{b:Ab}{p:Ad}{n:Nat}:∀(xs:List Nat)(s:List Int),s.length=n->(xs.foldl (λs _=>Eb (b.Ah.zip p.Ai) s) s).length=n
 | [],s,h=>h
 |_::xs,s,h=>O_ xs _ (by rw[Gn];exact h)
theorem Jk(b:Ab)(p:Ad):(groups b p).length=b.Am.toNat:=O_ _ _ (by simp[Dk])
variable{s:List Int}
theorem Atu(h:Ax b)(hc:p.Ai.length=b.Ah.length)(hs:s.length=b.Am.toNat) :
  Ok (foldI (vG p) b.Ah 0 s) (Ep (λr=>r=Eb (b.Ah.zip p.Ai) s) (λ(_:Unit)=>False)):=by
 have hb:=h.brl;have hbu:=h.buses;refine c8 (I:=λj r=>r=Eb ((b.Ah.take j).zip (p.Ai.take j)) s) (by simp[Eb]) (λj x r hx hr=>?_) λr hr=>?_
 ·have hj:=(aa.1 hx).1;obtain⟨v,hv⟩:∃v,p.Ai[j]? = some v:=⟨_,ai (by omega)⟩;have hcnt:cnt 0 j=(j:Int):=Cn (by omega);have hl:r.length=b.Am.toNat:=by rw[hr,Gn,hs]
  have hnext:Eb ((b.Ah.take (j+1)).zip (p.Ai.take (j+1))) s=Gj r (x,v):=by
   rw[Bm hx,Bm hv,List.zip_append (by simp;omega)];unfold Eb at hr ⊢;rw[bc,←hr];rfl
  rw[hnext];unfold vG;rw[hcnt,B1 hv];obtain⟨⟨a0,a1⟩,hk⟩:=h.br x (ae hx);by_cases k1:x.Kind=1
  ·rw[dA.2 k1];refine Ok.bind (P:=λy=>y=v) (c9 (λ_=>Ok.pure rfl) λhn=>(hn ⟨rfl,trivial⟩).elim) λy hy=>?_;subst hy;have hB:x.A<x.B/\x.B<b.Am:=by omega
   cases y with
   |false=>
    refine c6 (λhq=>by simp at hq) (λ_=>c7 ?_);simp[Gj]
   |true=>
    refine c6 (λ_=>?_) (λhq=>by simp at hq);refine(cP a0 (by omega)).bind λu hu=>(cP (by omega) (by omega)).bind λw hw=>(cT a0 (by omega)).bind λt ht=>?_;subst ht;refine(cP (by omega) (by simp;omega)).bind λ_ _=>(cT (by omega) (by simp;omega)).bind λt ht=>c7 ?_;subst ht;simp[Gj,k1,List.getD,hu,hw]
  ·rw[dC.2 k1];refine Ok.bind (P:=λ_=>True) (c9 (λhg=>absurd hg.1 (by simp)) λ_=>trivial) λy _=>?_;refine c6 (λhq=>by simp at hq) (λ_=>c7 ?_);simp[Gj,k1]
 grind
theorem Aoz(h:Ax b)(hc:p.Ai.length=b.Ah.length):Af3 b p=some (groups b p):=by
 have hbu:=h.buses;refine cU ?_;unfold Af3;refine(Ok.mkI (by omega) (by omega)).bind λy hy=>?_;refine Ok.andThen (A:=λs=>s=Dk b.Am.toNat) (B:=λ(_:Unit)=>False) ?_ ?_ (λ_ h=>h.elim)
 ·refine c8 (I:=λj s=>s=(List.range b.Am.toNat).map λi=>if i<j then (i:Int) else 0) ?_ (λj x s hx hs=>?_) λs hs=>?_
  ·rw[hy,Om];exact bi λi _=>by simp
  ·have hj:=(aa.1 hx).1;have hjl:j<b.Am.toNat:=by rw[hy]at hj;simpa using hj
   have hcnt:cnt 0 j=(j:Int):=Cn (by omega);subst hs;unfold Aja;rw[hcnt];refine(db (by omega) (by omega)).bind λ_ _=>(di (by omega) (by omega)).bind λz hz=>c7 ?_;grind
  ·rw[hs];unfold Dk;refine bi λi hi=>?_;rw[hy];simp at hi;simp[hi]
 ·rintro s rfl;refine Ok.andThen (A:=λs=>s=groups b p) (B:=λ(_:Unit)=>False) ?_ (λs hs=>Ok.pure hs) (λ_ h=>h.elim);refine c8 (I:=λj s=>s=(List.range j).foldl (λs _=>Eb (b.Ah.zip p.Ai) s) (Dk b.Am.toNat)) rfl (λj x s hx hs=>?_) λs hs=>?_
  ·unfold Ai9;have hl:s.length=b.Am.toNat:=by rw[hs];exact O_ _ _ (by simp[Dk])
   refine(Atu h hc hl).inner (λr hr=>c7 ?_) (λ_ h=>h.elim);rw[hr,cd,bc,←hs];rfl
  ·rw[hs];unfold groups;congr 2;simp[Dk]
theorem Att(h:∀(i:Nat) v,s[i]? = some v->0<=v/\v<=i)(hz:z.1.Kind=1->0<=z.1.A/\z.1.A<z.1.B/\z.1.B<s.length):∀(i:Nat) v,(Gj s z)[i]? = some v->0<=v/\v<=i:=by
 unfold Gj;grind
theorem yX{n:Nat}:∀(l:List (Ak×Bool))(s:List Int),s.length=n->(∀z,z∈l->z.1.Kind=1->0<=z.1.A/\z.1.A<z.1.B/\z.1.B<n)->(∀(i:Nat) v,s[i]? = some v->0<=v/\v<=i)->∀(i:Nat) v,(Eb l s)[i]? = some v->0<=v/\v<=i
 | [],s,_,_,h=>h
 |z::l,s,hs,hz,h=>yX l (Gj s z) (by rw[Fo];exact hs) (λy hy=>hz y (ak _ hy)) (Att h (by rw[hs];exact hz z aj))
theorem Ua(h:Ax b)(p:Ad):∀(i:Nat) v,(groups b p)[i]? = some v->0<=v/\v<=i:=by
 have hbu:=h.buses;have hz:∀z,z∈b.Ah.zip p.Ai->z.1.Kind=1->0<=z.1.A/\z.1.A<z.1.B/\z.1.B<(b.Am.toNat:Int):=by
  intro z hz hk;have:=h.br z.1 (bS hz).1;unfold Sx at this;omega
 have key:∀(xs:List Nat)(s:List Int),s.length=b.Am.toNat->(∀(i:Nat) v,s[i]? = some v->0<=v/\v<=i)->∀(i:Nat) v,(xs.foldl (λs _=>Eb (b.Ah.zip p.Ai) s) s)[i]? = some v->0<=v/\v<=i:=by
  intro xs;induction xs with
  |nil=>intro s _ h;exact h
  |cons x xs ih=>intro s hl h;exact ih _ (by rw[Gn];exact hl) (yX _ s hl hz h)
 refine key _ _ (by simp[Dk]) ?_;intro i v hv;simp only[Dk,ax]at hv;grind
def Jv(x:Ap):Bool:=!((x.Am.length:Int)==0)
theorem At7(l:List Ap)(h:l.length<=9223372036854775807):Z1 l=some (Jt (λx=>(x.Am.length:Int)==0) l):=by
 unfold Z1;exact Ib (λx:Ap=>(x.Am.length:Int)==0) (λi y=>rfl) l h
theorem Ax5(l:List Ap)(hl:l.length<=1000):Qw l=some (l.filter Jv):=by
 refine cU ?_;unfold Qw;rw[At7 l (by omega)];simp only[ab];unfold Jt;cases hf:l.findIdx? λx=>(x.Am.length:Int)==0 with
 |none=>
  rw[cN]at hf;refine c6 (λ_=>Ok.pure ?_) (λhc=>by simp at hc);rw[eq_comm,ck];intro x hx;simp only[Jv,hf x hx];rfl
 | some i=>
  rw[cw]at hf;obtain⟨hi,hp,hn⟩:=hf;refine c6 (λhc=>?_) (λ_=>?_)
  ·simp only[dA]at hc;omega
  have e1:w64 ((i:Int)+1)=(i:Int)+1:=Az (by omega);simp only[e1];refine Ok.andThen (A:=λs=>0<=s.1/\s.1<=(l.length:Int)/\s.2.2.length=l.length/\s.2.2.take s.1.toNat=l.filter Jv) (B:=λ(_:Unit)=>False) ?_ ?_ (λ_ h=>h.elim)
  ·refine cO (λs=>(0<=s.1/\s.1<s.2.1/\s.2.1<=(l.length:Int))/\s.2.2.length=l.length/\s.2.2.take s.1.toNat=(l.take s.2.1.toNat).filter Jv/\s.2.2.drop s.2.1.toNat=l.drop s.2.1.toNat) (λs=>((l.length:Int)-s.2.1).toNat) _ _ ?_ ?_ ?_
   ·refine⟨by dsimp only;omega,rfl,?_,rfl⟩;dsimp only;have e2:((i:Int)+1).toNat=i+1:=by omega
    rw[e2,aE,Bm (ai hi),bm];have h1:(l.take i).filter Jv=l.take i:=by
     rw[ck];intro x hx;obtain⟨j,hj,rfl⟩:=cf hx;simp only[aY]at hj;rw[List.getElem_take];have:=hn j (by omega);simp only[Jv];simpa using this
    have h2:Jv l[i]=false:=by simp only[Jv,hp];rfl
    rw[h1];simp[h2]
   ·dsimp only;omega
   ·rintro⟨a,j,m⟩ ⟨⟨h1,h2,h3⟩,h4,h5,h6⟩;dsimp only at h1 h2 h3 h4 h5 h6;unfold Vk Ad2;dsimp only;refine c6 (λhq=>?_) (λhq=>?_)
    ·simp only[dy]at hq;have e1:w64 (j+1)=j+1:=Az (by omega);have e2:w64 (a+1)=a+1:=Az (by omega);have e3:(j+1).toNat=j.toNat+1:=by omega
     have e4:(a+1).toNat=a.toNat+1:=by omega
     refine(cP (by omega) (by omega)).bind λy hy=>?_;have hyl:l[j.toNat]? = some y:=by
      have:=congrArg (·[0]?) h6;simp only[au,bx]at this;rw[←this];exact hy
     have hdrop:∀(q:List Ap),q.drop j.toNat=l.drop j.toNat->q.drop (j.toNat+1)=l.drop (j.toNat+1):=λq hq=>by
      rw[←bK,hq,bK]
     refine c6 (λhf=>?_) (λhf=>?_)
     ·refine(cP (by omega) (by omega)).bind λ_ _=>(cT (by omega) (by omega)).bind λz hz=>?_;rw[e1,e2];subst hz;refine c7 ⟨⟨by dsimp only;omega,by simpa using h4,?_,?_⟩,by dsimp only;omega⟩
      ·dsimp only;rw[e3,e4,Bm hyl,bm,←h5];have hfl:Jv y=true:=hf;rw[Bm (x:=y) (by rw[bI (by omega)])];simp[hfl,List.take_set_of_le]
      ·dsimp only;rw[e3,List.drop_set_of_lt (by omega)];exact hdrop m h6
     ·rw[e1];refine c7 ⟨⟨by dsimp only;omega,h4,?_,?_⟩,by dsimp only;omega⟩
      ·dsimp only;have hfl:Jv y=false:=hf;rw[e3,Bm hyl,bm,←h5];simp[hfl]
      ·dsimp only;rw[e3];exact hdrop m h6
    ·simp only[dz]at hq;have e:j.toNat=l.length:=by omega
     refine cS ⟨h1,by dsimp only;omega,h4,?_⟩;dsimp only;rw[h5,e,aJ]
  ·rintro⟨a,j,m⟩ ⟨h1,h2,h3,h4⟩;dsimp only at h1 h2 h3 h4 ⊢;have hc:(Ho m a.toNat ((Int.toNat (m.length:Int))-a.toNat) (⟨([]:List Int),([]:List Int),([]:List Int)⟩:Ap)).length=l.length:=by
    simp[Ho];omega
   refine(Ok.bndI h1 (by omega) (by omega)).bind λ_ _=>(Ok.bndI (by omega) h1 (by rw[hc];omega)).bind λ_ _=>Ok.pure ?_;rw[←h4];unfold Ho;rw[Nat.sub_zero,cI (by simp;omega),List.take_take,Nat.min_self]
def G6(b:Ab)(p:Ad)(o:Option Int):Option Int:=o.map λa=>(groups b p).getD a.toNat 0
def Fc(b:Ab)(p:Ad)(n f:Nat):List Int:=((List.range n).filter λ(i:Nat)=>(groups b p).getD i 0==(f:Int)).map λ(i:Nat)=>(i:Int)
def Gs(b:Ab)(p:Ad)(n f:Nat):List Int:=((List.range n).filter λ(i:Nat)=>G6 b p (Hd b p (i:Int))==some (f:Int)).map λ(i:Nat)=>(i:Int)
def Hv(b:Ab)(p:Ad)(n f:Nat):List Int:=((List.range n).filter λ(i:Nat)=>G6 b p (Fl b p 3 (i:Int))==some (f:Int)).map λ(i:Nat)=>(i:Int)
def isl(b:Ab)(p:Ad)(f:Nat):Ap:=⟨Fc b p b.Am.toNat f,Gs b p b.Ae.length f,Hv b p b.Ag.length f⟩
def Cd(b:Ab)(p:Ad):List Ap:=((List.range b.Am.toNat).map (isl b p)).filter Jv
theorem Gv(q:Nat->Bool)(n:Nat):((List.range (n+1)).filter q).map (λ(i:Nat)=>(i:Int))=((List.range n).filter q).map (λ(i:Nat)=>(i:Int))++if q n=true then [(n:Int)] else []:=by
 rw[cd,bm,bE];congr 1;cases h:q n <;> simp[h]
theorem Fb(q:Nat->Bool)(n:Nat):(((List.range n).filter q).map (λ(i:Nat)=>(i:Int))).length<=n:=by
 grind
theorem Kt(h : Ax b)(hp : Av b p) : vW b p = some (Cd b p) := by
 have hbu:=h.buses;have hso:=h.sol;have hco:=h.col;have hgl:=Jk b p;have hglo:=Ua h p;refine cU ?_;unfold vW;rw[E7 h hp];simp only[ab];refine c6 (λhc=>by simp at hc) (λ_=>?_);rw[Aoz h hp.ncl];simp only[ab];refine(Ok.mkI (by omega) (by omega)).bind λy hy=>?_;have hget:∀(i:Nat),i<b.Am.toNat->(groups b p)[i]? = some ((groups b p).getD i 0):=λi hi=>by
  have:i<(groups b p).length:=by omega
  simp[List.getD,List.getElem?_eq_getElem this]
 refine Ok.andThen (A:=λs=>s=(List.range b.Am.toNat).map λf=>(⟨Fc b p b.Am.toNat f,[],[]⟩:Ap)) (B:=λ(_:Unit)=>False) ?_ ?_ (λ_ h=>h.elim)
 ·refine c8 (I:=λj s=>s=(List.range b.Am.toNat).map λf=>(⟨Fc b p j f,[],[]⟩:Ap)) ?_ (λj x s hx hs=>?_) λs hs=>?_
  ·rw[hy,Om];rfl
  ·subst hs;have hj:j<b.Am.toNat:=by have:=(aa.1 hx).1;omega
   have hlo:=hglo j x hx;have hxe:(groups b p).getD j 0=x:=by simp[List.getD,hx]
   have hcnt:cnt 0 j=(j:Int):=Cn (by omega);unfold Ajt;rw[hcnt];refine(db (by omega) (by omega)).bind λu hu=>?_;subst hu;have hl:(Fc b p j x.toNat).length<=j:=Fb _ _;refine(cQ (by simp;omega)).bind λv hv=>(di (by omega) (by omega)).bind λw hw=>c7 ?_;rw[hw];refine bi λf _=>?_;unfold Fc;rw[Gv,hxe];by_cases e:f=x.toNat
   ·subst e;rw[if_pos rfl,if_pos (by simp;omega),hv];rfl
   ·rw[if_neg e,if_neg (by simp;omega),aX]
  ·rw[hgl]at hs;exact hs
 ·rintro s rfl;refine Ok.andThen (A:=λs=>s.2=(List.range b.Am.toNat).map λf=>(⟨Fc b p b.Am.toNat f,Gs b p b.Ae.length f,[]⟩:Ap)) (B:=λ(_:Unit)=>False) ?_ ?_ (λ_ h=>h.elim)
  ·refine cO (λs=>(0<=s.1/\s.1<=(b.Ae.length:Int))/\s.2=(List.range b.Am.toNat).map λf=>(⟨Fc b p b.Am.toNat f,Gs b p s.1.toNat f,[]⟩:Ap)) (λs=>((b.Ae.length:Int)-s.1).toNat) _ _ ?_ ?_ ?_
   ·exact⟨by dsimp only;omega,rfl⟩
   ·dsimp only;omega
   ·rintro⟨i,s⟩ ⟨⟨h1,h2⟩,h3⟩;dsimp only at h1 h2 h3;subst h3;unfold Ajs Aqq;dsimp only;refine c6 (λhq=>?_) (λhq=>?_)
    ·simp only[dy]at hq;have e1:w64 (i+1)=i+1:=Az (by omega);have e2:(i+1).toNat=i.toNat+1:=by omega
     have e3:((i.toNat:Nat):Int)=i:=by omega
     rw[Uo h hp];simp only[ab];cases hcn:Hd b p i with
     |none=>
      refine c6 (λhc=>by simp[Fp]at hc) (λ_=>?_);rw[e1];refine c7 ⟨⟨by dsimp only;omega,?_⟩,by dsimp only;omega⟩;dsimp only;rw[e2];refine bi λf _=>?_;unfold Gs;rw[Gv,e3,hcn,if_neg (by simp[G6]),aX]
     | some a=>
      have hab:=Ado h hcn;have hga:=hget a.toNat (by omega);have hgla:=hglo _ _ hga;refine c6 (λ_=>?_) (λhc=>by simp[Fp]at hc);have hg2:getI (groups b p) a=some ((groups b p).getD a.toNat 0):=by have:=B1 hga;rwa [bA hab.1]at this
      simp only[Fp,hg2,ab];generalize hge:(groups b p).getD a.toNat 0=ga at hgla;refine(db (by omega) (by omega)).bind λu hu=>?_;subst hu;have hl:(Gs b p i.toNat ga.toNat).length<=i.toNat:=Fb _ _;refine(cQ (by simp;omega)).bind λv hv=>(di (by omega) (by omega)).bind λw hw=>?_;rw[e1];refine c7 ⟨⟨by dsimp only;omega,?_⟩,by dsimp only;omega⟩;dsimp only;rw[hw,e2];refine bi λf _=>?_;unfold Gs;rw[Gv,e3,hcn];simp only[G6,aS,hge];by_cases e:f=ga.toNat
      ·subst e;rw[if_pos rfl,if_pos (by simp;omega),hv];rfl
      ·rw[if_neg e,if_neg (by simp;omega),aX]
    ·simp only[dz]at hq;have e:i.toNat=b.Ae.length:=by omega
     rw[e];exact cS rfl
  ·rintro⟨i0,s⟩ hs;dsimp only at hs;subst hs;dsimp only;refine Ok.andThen (A:=λs=>s.2=(List.range b.Am.toNat).map (isl b p)) (B:=λ(_:Unit)=>False) ?_ ?_ (λ_ h=>h.elim)
   ·refine cO (λs=>(0<=s.1/\s.1<=(b.Ag.length:Int))/\s.2=(List.range b.Am.toNat).map λf=>(⟨Fc b p b.Am.toNat f,Gs b p b.Ae.length f,Hv b p s.1.toNat f⟩:Ap)) (λs=>((b.Ag.length:Int)-s.1).toNat) _ _ ?_ ?_ ?_
    ·exact⟨by dsimp only;omega,rfl⟩
    ·dsimp only;omega
    ·rintro⟨i,s⟩ ⟨⟨h1,h2⟩,h3⟩;dsimp only at h1 h2 h3;subst h3;unfold Ajr Aqp;dsimp only;refine c6 (λhq=>?_) (λhq=>?_)
     ·simp only[dy]at hq;have e1:w64 (i+1)=i+1:=Az (by omega);have e2:(i+1).toNat=i.toNat+1:=by omega
      have e3:((i.toNat:Nat):Int)=i:=by omega
      rw[Ac2 h hp.ncl];simp only[ab];cases hcn:Fl b p 3 i with
      |none=>
       refine c6 (λhc=>by simp[Fp]at hc) (λ_=>?_);rw[e1];refine c7 ⟨⟨by dsimp only;omega,?_⟩,by dsimp only;omega⟩;dsimp only;rw[e2];refine bi λf _=>?_;unfold Hv;rw[Gv,e3,hcn,if_neg (by simp[G6]),aX]
      | some a=>
       have hab:=Rl h hcn;have hga:=hget a.toNat (by omega);have hgla:=hglo _ _ hga;refine c6 (λ_=>?_) (λhc=>by simp[Fp]at hc);have hg2:getI (groups b p) a=some ((groups b p).getD a.toNat 0):=by have:=B1 hga;rwa [bA hab.1]at this
       simp only[Fp,hg2,ab];generalize hge:(groups b p).getD a.toNat 0=ga at hgla;refine(db (by omega) (by omega)).bind λu hu=>?_;subst hu;have hl:(Hv b p i.toNat ga.toNat).length<=i.toNat:=Fb _ _;refine(cQ (by simp;omega)).bind λv hv=>(di (by omega) (by omega)).bind λw hw=>?_;rw[e1];refine c7 ⟨⟨by dsimp only;omega,?_⟩,by dsimp only;omega⟩;dsimp only;rw[hw,e2];refine bi λf _=>?_;unfold Hv;rw[Gv,e3,hcn];simp only[G6,aS,hge];by_cases e:f=ga.toNat
       ·subst e;rw[if_pos rfl,if_pos (by simp;omega),hv];rfl
       ·rw[if_neg e,if_neg (by simp;omega),aX]
     ·simp only[dz]at hq;have e:i.toNat=b.Ag.length:=by omega
      rw[e];exact cS rfl
   ·rintro⟨i1,s⟩ hs;dsimp only at hs;subst hs;dsimp only;rw[Ax5 _ (by simp;omega)];exact Ok.pure rfl
theorem Hf(h:l.length*B<=140737488355328):appI B [] l=some l:=by
 unfold appI;have:decide ((([]:List α).length+l.length)*B<=140737488355328)=true:=by simpa using h
 rw[this];rfl
theorem Hp(h:Ax b)(hp:Av b p):Mr p=some p:=by
 have h1:=hp.ncl;have h2:=hp.nso;have h3:=hp.nli;have h4:=hp.brk.len;have h5:=h.brl;have h6:=h.sol;have h7:=h.col;unfold Mr yA vZ Pp Sv;rw[Hf (by omega),Hf (by omega),Hf (by omega),Hf (by omega)];rfl
theorem eqB(l:List Bool)(h:l.length<=9223372036854775807):vV l l=some true:=by
 unfold vV;rw[Dw l 0 λj x hj=>?_]
 ·simp[andThen]
 ·have hjl:=(aa.1 hj).1;unfold vU;rw[aI,Cn (by omega),B1 hj];simp
theorem eqI(l:List Int)(h:l.length<=9223372036854775807):vR l l=some true:=by
 unfold vR;rw[Dw l 0 λj x hj=>?_]
 ·simp[andThen]
 ·have hjl:=(aa.1 hj).1;unfold vQ;rw[aI,Cn (by omega),B1 hj];simp
theorem eqR(l:List Aj)(h:l.length<=9223372036854775807):vT l l=some true:=by
 unfold vT;rw[Dw l 0 λj x hj=>?_]
 ·simp[andThen]
 ·have hjl:=(aa.1 hj).1;unfold vS Aqo;rw[aI,Cn (by omega),B1 hj];simp
theorem eqP(l:List Aa)(h:l.length<=9223372036854775807):vP l l=some true:=by
 unfold vP;rw[Dw l 0 λj x hj=>?_]
 ·simp[andThen]
 ·have hjl:=(aa.1 hj).1;unfold vO Aqn;rw[aI,Cn (by omega),B1 hj];simp
structure Au9(p:Ad):Prop where
 c:p.Ai.length<=1000
 s:p.Ae.length<=1000
 l:p.An.length<=1000
 k:p.Al.length<=1000
theorem Av.lens(h:Ax b)(hp:Av b p):Au9 p:=by
 have h1:=hp.ncl;have h2:=hp.nso;have h3:=hp.nli;have h4:=hp.brk.len;have h5:=h.brl;have h6:=h.sol;have h7:=h.col;exact⟨by omega,by omega,by omega,by omega⟩
theorem An5(h:Au9 p):F99 p p=some true:=by
 have h1:=h.c;have h2:=h.s;have h3:=h.l;have h4:=h.k;unfold F99;rw[eqB _ (by omega),eqI _ (by omega),eqR _ (by omega),eqP _ (by omega)];rfl
def W9(like x:Aj):Aj:=⟨x.State,x.Since,like.Aq,like.Phase⟩
def Fu(like:Aj)(idx:List Int)(ss:List Aj):List Aj:=idx.foldl (λs i=>s.set i.toNat (W9 like (s.getD i.toNat default))) ss
theorem H0(like:Aj):∀(idx:List Int)(ss:List Aj),(Fu like idx ss).length=ss.length
 | [],_=>rfl
 |i::idx,ss=>by
  show (Fu like idx _).length=_;rw[H0 like idx,bl]
theorem yM(h:idx[j]? = some i)(ss:List Aj):Fu like (idx.take (j+1)) ss=(Fu like (idx.take j) ss).set i.toNat (W9 like ((Fu like (idx.take j) ss).getD i.toNat default)):=by
 unfold Fu;rw[Bm h,bc];rfl
theorem Abp(h:∀i,i∈idx->0<=i/\i<p.Ae.length):Qx p idx like=some (Fu like idx p.Ae):=by
 refine cU ?_;unfold Qx;refine Ok.andThen (A:=λs=>s=Fu like idx p.Ae) (B:=λ(_:Unit)=>False) ?_ (λs hs=>Ok.pure hs) (λ_ h=>h.elim);refine c8 (I:=λj s=>s=Fu like (idx.take j) p.Ae) rfl (λj x s hx hs=>?_) λs hs=>?_
 ·have hi:=h x (ae hx);have hl:s.length=p.Ae.length:=by rw[hs,H0]
  unfold Aat;refine(cP hi.1 (by omega)).bind λu hu=>(cT hi.1 (by omega)).bind λv hv=>?_;have hvg:v[x.toNat]? = some (⟨u.State,u.Since,like.Aq,u.Phase⟩:Aj):=by rw[hv,bI (by omega)]
  refine Ok.bind (P:=λw=>w=(⟨u.State,u.Since,like.Aq,u.Phase⟩:Aj)) ((cP hi.1 (by rw[hv];simpa using by omega)).mono λw hw=>by rw[hvg]at hw;cases hw;rfl) λw hw=>?_;refine(cT hi.1 (by rw[hv];simpa using by omega)).bind λz hz=>c7 ?_;rw[yM hx,←hs,hz,hv,hw,List.set_set];have:s.getD x.toNat default=u:=by simp[List.getD,hu]
  rw[this];rfl
 ·rw[aJ]at hs;exact hs
def Ft(b:Ab)(p:Ad):List Aj:=(Cd b p).foldl (λs x=>match x.Ae with| []=>s|i::_=>Fu (p.Ae.getD i.toNat default) x.Ae s) p.Ae
theorem P3{x:Ap}(h:x∈Cd b p):∀i,i∈x.Ae->0<=i/\i<b.Ae.length:=by
 unfold Cd at h;obtain⟨f,_,rfl⟩:=an.1 (ay.1 h).1;intro i hi;obtain⟨k,hk,rfl⟩:=an.1 hi;have:=be.1 (ay.1 hk).1;omega
theorem P2(b:Ab)(p:Ad):(Cd b p).length<=b.Am.toNat:=by
 have:=aV Jv ((List.range b.Am.toNat).map (isl b p));simpa[Cd]using this
def Dq(p:Ad)(s:List Aj)(x:Ap):List Aj:=match x.Ae with
 | []=>s
 |i::_=>Fu (p.Ae.getD i.toNat default) x.Ae s
theorem Nz(p:Ad)(s:List Aj)(x:Ap):(Dq p s x).length=s.length:=by
 unfold Dq;split
 ·rfl
 ·rw[H0]
theorem Lp(p:Ad):∀(l:List Ap)(s:List Aj),(l.foldl (Dq p) s).length=s.length
 | [],_=>rfl
 |x::l,s=>by show (l.foldl (Dq p) _).length=_;rw[Lp p l,Nz]
theorem Ix(b:Ab)(p:Ad):(Ft b p).length=p.Ae.length:=Lp p _ _
theorem Ou(h:Ax b)(hp:Av b p):F96 b p=some (⟨p.Ai,Ft b p,p.An,p.Al⟩,0):=by
 refine cU ?_;unfold F96;rw[E7 h hp,Hp h hp,Kt h hp];simp only[ab];refine c6 (λhc=>by simp at hc) (λ_=>?_);refine Ok.andThen (A:=λs=>s=Ft b p) (B:=λ(_:Unit)=>False) ?_ (λs hs=>Ok.pure (by rw[hs])) (λ_ h=>h.elim);refine c8 (I:=λj s=>s=((Cd b p).take j).foldl (Dq p) p.Ae) rfl (λj x s hx hs=>?_) λs hs=>?_
 ·have hi:=P3 (ae hx);have hl:s.length=p.Ae.length:=by rw[hs,Lp]
  have hn:=hp.nso;have hnext:((Cd b p).take (j+1)).foldl (Dq p) p.Ae=Dq p s x:=by rw[Bm hx,bc,←hs];rfl
  unfold Aq7 Awg;cases hsrc:x.Ae with
  |nil=>
   refine c6 (λhc=>by simp at hc) (λ_=>c7 ?_);rw[hnext];simp[Dq,hsrc]
  | cons i l=>
   have hi0:=hi i (by rw[hsrc];exact aj);refine c6 (λ_=>?_) (λhc=>by simp at hc);have hg:getI (i::l) 0=some i:=rfl;obtain⟨u,hu⟩:∃u,p.Ae[i.toNat]? = some u:=⟨_,ai (by omega)⟩;have hg2:getI p.Ae i=some u:=by have:=B1 hu;rwa [bA hi0.1]at this
   rw[hg];simp only[ab];rw[hg2];simp only[ab];rw[Abp (by
    intro k hk;have:=hi k (by rw[hsrc];exact hk);dsimp only;omega)]
   refine c7 ?_;rw[hnext];have:p.Ae.getD i.toNat default=u:=by simp[List.getD,hu]
   simp only[Dq,hsrc,this]
 ·rw[aJ]at hs;exact hs
structure We(y:Bu):Prop where
 stop:1<=y.Stop/\y.Stop<=99
 start:y.Stop<y.Start/\y.Start<=100
 delay:0<=y.Delay/\y.Delay<=600
theorem Agn{y:Bu}(h:We y):F98 y=true:=by
 have h1:=h.stop;have h2:=h.start;have h3:=h.delay;simp only[F98,ac,dy];omega
theorem Au4{s:Af}(hs:A1 s):Ok (F85 s) λy=>We y.1/\A1 y.2:=by
 unfold F85;refine(Cx hs _ (by simp) (by simp)).bind λu hu=>(Cx hu.1 _ (by simp) (by simp)).bind λv hv=>(Cx hv.1 _ (by simp) (by simp)).bind λw hw=>Ok.pure ⟨?_,hw.1⟩;have g1:u.1=60\/u.1=80\/u.1=100:=by simpa using hu.2
 have g2:v.1=1\/v.1=30\/v.1=50:=by simpa using hv.2
 have g3:w.1=0\/w.1=1\/w.1=3:=by simpa using hw.2
 exact⟨by dsimp only;omega,by dsimp only;omega,by dsimp only;omega⟩
def Abd(t:Int)(x:A_):Prop:=(-1<=x.High/\x.High<=t) /\ -1<=x.Low/\x.Low<=t
theorem Akd{p:Ar}{l:List A_}(h:∀x,x∈l->Abd p.Time x):Qz l p=some (false,p):=by
 refine cU ?_;unfold Qz jH;refine Ok.bind (P:=λy=>y=(-1,p)) ?_ (λy hy=>Ok.pure (by rw[hy];rfl));refine Ok.andThen (A:=λs=>s=(p.Time,p.Power.Ai,p.Power.Ae,p.Power.An,p.Power.Al,p.Ba,p.Bh)) (B:=λ_=>False) ?_ (λs hs=>Ok.pure (by rw[hs])) (λ_ h=>h.elim);refine c8 (I:=λ_ s=>s=(p.Time,p.Power.Ai,p.Power.Ae,p.Power.An,p.Power.Al,p.Ba,p.Bh)) rfl (λj x s hx hs=>?_) λs hs=>hs;have hr:=h x (ae hx);unfold Abd at hr;subst hs;unfold Vq;refine c6 (λhc=>?_) (λ_=>c7 rfl);simp only[Ad4,Gh,Zi,az,aU,bZ,dz]at hc;omega
structure Ql(b:Ab)(y:Bu)(p:Ar):Prop where
 st:Av b p.Power
 fol:Ft b p.Power=p.Power.Ae
 time:0<=p.Time/\p.Time<=2147483648
 nro:p.Ba.length=b.Am.toNat
 ros:∀x,x∈p.Ba->Abd p.Time x
theorem Aaz(h:Ax b){y:Bu}(hy:We y){p:Ar}(hp:Ql b y p):F49 b y p=some 0:=by
 have h1:=h.buses;have h2:=hp.time;have h3:=hp.nro;refine cU ?_;unfold F49;rw[Ou h hp.st];simp only[ab,hp.fol];refine c6 (λhc=>by simp at hc) (λ_=>c6 (λhc=>?_) (λ_=>c6 (λhc=>?_) (λ_=>?_)))
 ·simp only[Awq,Agn hy,aP,aT,az,dy]at hc;omega
 ·simp only[bne_iff_ne,ne_eq]at hc;omega
 ·have e:(⟨p.Power.Ai,p.Power.Ae,p.Power.An,p.Power.Al⟩:Ad)=p.Power:=rfl;rw[e,An5 (hp.st.lens h)];simp only[ab];rw[Akd hp.ros];have e2:As [((!true),false)] (some (false,p)) (default,p)=some (false,p):=rfl;rw[e2];exact Ok.pure rfl
def brk(l:List Aa)(k n:Int):Bool:=l.any λx=>k==x.Kind&&n==x.Number
theorem Gy(h:p.Al.length<=1000)(k n:Int):Mq p k n=some (brk p.Al k n):=by
 unfold Mq Agi Am5;rw[Ib (λx:Aa=>(k==x.Kind)&&((n==x.Number)&&true)) (λi y=>rfl) p.Al (by omega)];simp only[ab,Lc,brk,bL]
def Wa(b:Ab)(i:Int):Int:=Jt (λx:Ak=>x.Kind==2&&x.B==i) b.Ah
theorem Als(h:Ax b)(i:Int):Al7 b i=some (Wa b i):=by
 have hb:=h.brl;unfold Al7 Ae5;refine cU ?_;refine Ok.bind (P:=λy=>y=(Wa b i,i)) ?_ (λy hy=>Ok.pure (by rw[hy]));have key:=O4 (f:=λn(a:Ak)(z:Unit)=>(bif (a.Kind==2&&a.B==i)then some (.ret (cnt 0 n)) else some (.next ()):Option (Ctl Unit Int))) (p:=λx:Ak=>x.Kind==2&&x.B==i) (λ_ _=>rfl) b.Ah 0 (by omega);have:∀(xs:List Ak)(k:Nat),foldI (U4 i) xs k ()=match foldI (λn(a:Ak)(z:Unit)=>(bif (a.Kind==2&&a.B==i)then some (.ret (cnt 0 n)) else some (.next ()):Option (Ctl Unit Int))) xs k () with
   |some (.ret r)=>some (.ret (r,i))
   |some (.next _)=>some (.next ())
   |some (.brk _)=>some (.brk ())
   |none=>none:=by
  intro xs;induction xs with
  |nil=>intro k;rfl
  |cons x xs ih=>
   intro k;simp only[foldI,U4,Ae4];cases hq:(x.Kind==2&&x.B==i) with
   |true=>rfl
   |false=>simp only[cond_false];exact ih (k+1)
 rw[this,key];unfold Wa Jt;cases b.Ah.findIdx? (λx:Ak=>x.Kind==2&&x.B==i) with
 |none=>exact Ok.pure rfl
 |some j=>exact Ok.pure rfl
theorem Alr(h:Ax b)(h0:0<=i)(h1:i<b.Ae.length):∃(j:Nat)(x:Ak),Wa b i=(j:Int)/\b.Ah[j]? = some x/\x.Kind=2/\x.B=i/\j<24:=by
 have hone:=h.one i.toNat (by omega);have hb:=h.brl;unfold Wa Jt;cases hf:b.Ah.findIdx? (λx:Ak=>x.Kind==2&&x.B==i) with
 | none=>
  exfalso;rw[cN]at hf;have:brs b.Ah 2 i.toNat=[]:=Le λx hx hk e=>by
   have:=hf x hx;simp[hk]at this;omega
  rw[this]at hone;simp at hone
 |some j=>
  rw[cw]at hf;obtain⟨hj,hp,_⟩:=hf;simp only[ac,dA]at hp;exact⟨j,b.Ah[j],rfl,ai hj,hp.1,hp.2,by omega⟩
def lit(b:Ab)(u:Int->Bool)(s:List Bool)(i:Nat):List Bool:=if u (i:Int)then s.set (b.Ah.getD (Wa b (i:Int)).toNat default).A.toNat true else s
def LeB(s t:List Bool):Prop:=s.length=t.length/\∀i:Nat,s[i]? = some true->t[i]? = some true
theorem LeB.refl(s:List Bool):LeB s s:=⟨rfl,λ_ h=>h⟩
theorem LeB.trans{s r:List Bool}(h:LeB s t)(k:LeB t r):LeB s r:=⟨h.1.trans k.1,λi e=>k.2 i (h.2 i e)⟩
theorem LeB.set{s:List Bool}(h:LeB s t)(n:Nat){x y:Bool}(hx:x=true->y=true):LeB (s.set n x) (t.set n y):=by
 refine⟨by simp[h.1],λi e=>?_⟩;rw[aH]at e ⊢;split at e
 ·rename_i hn;rw[if_pos hn];split at e
  ·rename_i hl;rw[if_pos (by rw[←h.1];exact hl)];cases e;rw[hx rfl]
  ·cases e
 ·rename_i hn;rw[if_neg hn];exact h.2 i e
theorem LeB.getD{s:List Bool}(h:LeB s t)(n:Nat):s.getD n false=true->t.getD n false=true:=by
 intro e;have:s[n]? = some true:=by
  unfold List.getD at e;cases hs:s[n]? with
  |none=>rw[hs]at e;cases e
  |some v=>rw[hs]at e;simp at e;rw[e]
 simp[List.getD,h.2 n this]
theorem LeB.up(s:List Bool)(n:Nat){y:Bool}(hy:s.getD n false=true->y=true):LeB s (s.set n y):=by
 refine⟨by simp,λi e=>?_⟩;rw[aH];split
 ·rename_i hn;subst hn;have hl:=(aa.1 e).1;rw[if_pos hl,hy (by simp[List.getD,e])]
 ·exact e
def ks(x:Aa):Int:=x.Kind*1000+x.Number
def Dd(x:Aa):Prop:=(1<=x.Kind/\x.Kind<=4)/\0<=x.Number/\x.Number<=100
theorem Cu.small(h:Ax b)(hx:Cu b x):Dd x:=by
 have h1:=h.buses;have h2:=h.brl;have h3:=h.sol;have h4:=h.col;unfold Cu at hx;unfold Dd;omega
theorem Aba(hx:Dd x)(hy:Dd y):K0 x y↔ks x<ks y:=by
 unfold K0 ks;unfold Dd at hx hy;omega
theorem Awa(hx:Dd x)(hy:Dd y)(h:ks x=ks y):x=y:=by
 unfold ks at h;unfold Dd at hx hy;cases x;cases y;grind
theorem zO(hx:Dd x)(hy:Dd y):(decide (Sq x y<0)=decide (ks x<ks y))/\((Sq x y==0)=(ks x==ks y)):=by
 unfold Dd at hx hy;unfold Sq ks;by_cases hk:x.Kind=y.Kind
 ·have:(x.Kind != y.Kind)=false:=by simp[hk]
  rw[this,cond_false,Az (by omega)];grind
 ·have:(x.Kind != y.Kind)=true:=by simp[hk]
  rw[this,cond_true,Az (by omega)];grind
def Gg(l:List Aa):Prop:=∀(j k:Nat) x y,j<k->l[j]? = some x->l[k]? = some y->ks x<ks y
variable{l:List Aa}
theorem H_(h:Ax b)(hl:D8 b l):Gg l:=by
 have hs:∀x,x∈l->Dd x:=λx hx=>(hl.mem x hx).small h;intro j k;induction k with
 |zero=>intro x y hj;omega
 |succ k ih=>
  intro x y hj hx hy;have hk:=(aa.1 hy).1;obtain⟨z,hz⟩:∃z,l[k]? = some z:=⟨_,ai (by omega)⟩;have h1:=(Aba (hs z (ae hz)) (hs y (ae hy))).1 (hl.asc k z y hz hy);grind
theorem Ax0(h0:0<=n)(h1:n<=1000000):w64 (Tj .u64 (IntKind.wrap .u64 (w64 n)) 1)=n / 2:=by
 have e1:w64 n=n:=Az (by omega);have e2:IntKind.wrap .u64 n=n:=by
  simp[IntKind.wrap,IntKind.signed,IntKind.bits];omega
 have e3:Tj .u64 n 1=n / 2:=by
  unfold Tj;have:(2:Int) ^ min 1 (IntKind.u64).bits=2:=by decide
  grind
 rw[e1,e2,e3,Az (by omega)]
structure At(l:List Aa)(x:Aa)(n:Nat):Prop where
 le:n<=l.length
 lo:∀(j:Nat) y,j<n->l[j]? = some y->ks y<ks x
 hi:∀(j:Nat) y,n<=j->l[j]? = some y->ks x<=ks y
theorem Oj(hs:Gg l)(hsm:∀x,x∈l->Dd x)(hx:Dd x)(hl:l.length<=1000) :
  Ok (Zp l x) λy=>∃n:Nat,y.1=(n:Int)/\At l x n/\(y.2=true↔l[n]? = some x):=by
 unfold Zp;refine Ok.andThen (A:=λs=>∃n:Nat,s.1=(n:Int)/\At l x n) (B:=λ(_:Unit)=>False) ?_ ?_ (λ_ h=>h.elim)
 ·refine cO (λs=>(0<=s.1/\s.1<=s.2/\s.2<=(l.length:Int))/\(∀(j:Nat) y,(j:Int)<s.1->l[j]? = some y->ks y<ks x)/\∀(j:Nat) y,s.2<=(j:Int)->l[j]? = some y->ks x<=ks y) (λs=>(s.2-s.1).toNat) _ _ ?_ ?_ ?_
  ·refine⟨by dsimp only;omega,λj y hj=>by dsimp only at hj;omega,λj y hj hy=>?_⟩;have:=(aa.1 hy).1;dsimp only at hj;omega
  ·dsimp only;omega
  ·rintro⟨i,j⟩ ⟨⟨h1,h2,h3⟩,h4,h5⟩;dsimp only at h1 h2 h3 h4 h5;unfold Aad;dsimp only;refine c6 (λhq=>?_) (λhq=>?_)
   ·simp only[dy]at hq;rw[Ax0 (by omega) (by omega)];refine(cP (by omega) (by omega)).bind λy hy=>?_;have hym:=hsm y (ae hy);rw[(zO hym hx).1];refine c6 (λhc=>?_) (λhc=>?_)
    ·simp only[dy]at hc;rw[Az (by omega)];refine c7 ⟨⟨by dsimp only;omega,λk z hk hz=>?_,h5⟩,by dsimp only;omega⟩;dsimp only at hk;by_cases e:k=((i+j) / 2).toNat
     ·subst e;rw[hy]at hz;cases hz;exact hc
     ·have:=hs k _ z y (by omega) hz hy;omega
    ·simp only[dz]at hc;refine c7 ⟨⟨by dsimp only;omega,h4,λk z hk hz=>?_⟩,by dsimp only;omega⟩;dsimp only at hk;by_cases e:k=((i+j) / 2).toNat
     ·subst e;rw[hy]at hz;cases hz;omega
     ·have:=hs _ k y z (by omega) hy hz;omega
   ·simp only[dz]at hq;refine cS ⟨i.toNat,by dsimp only;omega,by omega,λk y hk hy=>h4 k y (by omega) hy,λk y hk hy=>h5 k y (by omega) hy⟩
 ·rintro⟨i,j⟩ ⟨n,hn,hat⟩;dsimp only at hn;subst hn;dsimp only;by_cases hlt:n<l.length
  ·obtain⟨y,hy⟩:∃y,l[n]? = some y:=⟨_,ai hlt⟩;have hd:decide ((n:Int)<(l.length:Int))=true:=by simp;omega
   rw[hd,B1 hy];refine Ok.bind (P:=λz=>z=y) (c9 (λ_=>Ok.pure rfl) λhn=>(hn ⟨rfl,trivial⟩).elim) λz hz=>Ok.pure ⟨n,rfl,hat,?_⟩;subst hz;have hym:=hsm z (ae hy);show (true&&(Sq z x==0))=true↔_;rw[bt,(zO hym hx).2,dA,hy];constructor
   ·intro e;rw[Awa hym hx e]
   ·intro e;cases e;rfl
  ·have hd:decide ((n:Int)<(l.length:Int))=false:=by simp;omega
   rw[hd];refine Ok.bind (P:=λ_=>True) (c9 (λhg=>absurd hg.1 (by simp)) λ_=>trivial) λz _=>Ok.pure ⟨n,rfl,hat,?_⟩;rw[cC (by omega)];simp
variable{n:Nat}
theorem At.uniq(h:At l x n)(k:At l x m):n=m:=by
 rcases bJ n m with e|e|e
 ·obtain⟨y,hy⟩:∃y,l[n]? = some y:=⟨_,ai (by have:=k.le;omega)⟩;have:=h.hi n y (af _) hy;have:=k.lo n y e hy;omega
 ·exact e
 ·obtain⟨y,hy⟩:∃y,l[m]? = some y:=⟨_,ai (by have:=h.le;omega)⟩;have:=k.hi m y (af _) hy;have:=h.lo m y e hy;omega
def Fa(l:List Aa)(n:Nat)(x:Aa):List Aa:=l.take n++(x::l.drop n)
theorem Aou(hn:n<=l.length)(hl:l.length<=1000)(x:Aa):Qt l (n:Int) [x]=some (Fa l n x):=by
 refine cU ?_;unfold Qt;refine(Ok.bndI (by omega) (by omega) (by omega)).bind λ_ _=>?_;refine c6 (λhc=>by simp at hc) (λ_=>c6 (λhc=>?_) (λ_=>?_))
 ·simp only[dA]at hc;have e:n=l.length:=by omega
  refine(cQ (by simp;omega)).bind λy hy=>Ok.pure ?_;rw[hy,Fa,e];simp
 ·refine(Ok.insI (by simp;omega)).mono λy hy=>?_;rw[hy,aE];rfl
theorem Apo(hn:n<=l.length)(x:Aa):U6 (Fa l n x) (n:Int) ((n:Int)+1)=some l:=by
 have hlen:(Fa l n x).length=l.length+1:=by simp[Fa];omega
 refine cU ?_;unfold U6;have e1:((n:Int)+1).toNat=n+1:=by omega
 have hdrop:(Fa l n x).drop (n+1)=l.drop n:=by
  unfold Fa;rw[List.drop_append,List.drop_of_length_le (by simp;omega)];have:n+1-(l.take n).length=1:=by simp;omega
  rw[this];simp
 have htake:(Fa l n x).take n=l.take n:=by
  unfold Fa;grind
 refine(Ok.bnd3I (by omega) (by omega) (by omega) (by omega)).bind λ_ _=>c6 (λhc=>?_) (λ_=>?_)
 ·simp only[dA]at hc;omega
 refine(Ok.bndI (by omega) (by omega) (by omega)).bind λ_ _=>(Ok.bndI (by omega) (by omega) (by omega)).bind λ_ _=>?_;simp only[aE,e1,hdrop,Nat.sub_zero];have hpl:((l.drop n).take ((Fa l n x).length-(n+1))).length=l.length-n:=by simp[hlen]
 have hpe:(l.drop n).take ((Fa l n x).length-(n+1))=l.drop n:=cD (by simp[hlen]);rw[hpe];have hdl:(l.drop n).length=l.length-n:=by simp
 refine(Ok.appPI (by rw[hlen,hdl];omega)).bind λy hy=>?_;have hyl:y.length=l.length+1:=by rw[hy];simp[hlen];omega
 refine(Ok.bndI (by omega) (by rw[hlen,hdl];omega) (by rw[hlen,hyl];omega)).bind λ_ _=>Ok.pure ?_;have e2:n+(l.drop n).length=l.length:=by rw[hdl];omega
 rw[e2];unfold Ho;simp only[aI];rw[cI (by simp;omega),List.take_take,Nat.min_self,hy,htake,←bw,cI (by simp),bO,aJ]
theorem Rt(hn:n<=l.length)(h:(Fa l n x)[j]? = some y):(j<n/\l[j]? = some y)\/(j=n/\y=x)\/(n<j/\l[j-1]? = some y):=by
 grind[Fa]
theorem Atr(h:y∈Fa l n x):y=x\/y∈l:=by
 grind[Fa]
theorem Ah3(h:Ax b)(hl:D8 b l)(hx:Cu b x)(hat:At l x n)(hnot:l[n]? ≠ some x)(hlen:l.length<32):D8 b (Fa l n x):=by
 have hs:=H_ h hl;have hsm:∀y,y∈l->Dd y:=λy hy=>(hl.mem y hy).small h;have hxs:=hx.small h;refine⟨by simp[Fa];omega,λy hy=>?_,λj y z hy hz=>?_⟩
 ·rcases Atr hy with rfl|hy
  ·exact hx
  ·exact hl.mem y hy
 ·rcases Rt hat.le hy with⟨a1,a2⟩|⟨a1,a2⟩|⟨a1,a2⟩ <;> rcases Rt hat.le hz with⟨b1,b2⟩|⟨b1,b2⟩|⟨b1,b2⟩
  ·exact hl.asc j y z a2 b2
  ·subst b2;exact(Aba (hsm y (ae a2)) hxs).2 (hat.lo j y a1 a2)
  ·omega
  ·omega
  ·omega
  ·subst a2;have e:j+1-1=n:=by omega
   rw[e]at b2;have hzm:=hsm z (ae b2);refine(Aba hxs hzm).2 ?_;have h1:=hat.hi n z (af _) b2;grind[Awa]
  ·omega
  ·omega
  grind[D8.asc]
theorem At.ins(hat:At l x n):At (Fa l n x) x n:=by
 refine⟨by have:=hat.le;simp[Fa];omega,λj y hj hy=>?_,λj y hj hy=>?_⟩
 ·rcases Rt hat.le hy with⟨_,a2⟩|⟨a1,_⟩|⟨a1,_⟩
  ·exact hat.lo j y hj a2
  ·omega
  ·omega
 ·rcases Rt hat.le hy with⟨a1,_⟩|⟨_,a2⟩|⟨a1,a2⟩
  ·omega
  ·subst a2;exact Int.le_refl _
  ·exact hat.hi (j-1) y (by omega) a2
theorem Axw(hn:n<=l.length)(x:Aa):(Fa l n x)[n]? = some x:=by
 grind[Fa]
def Lr(ss:List Aj)(x:Aa)(st:Int):List Aj:=if x.Kind=1 then ss.set x.Number.toNat ⟨st,(ss.getD x.Number.toNat default).Since,(ss.getD x.Number.toNat default).Aq,(ss.getD x.Number.toNat default).Phase⟩ else ss
theorem Ud(ss:List Aj)(x:Aa)(st:Int):(Lr ss x st).length=ss.length:=by unfold Lr;split <;> simp
theorem Ac4(h:∀x,x∈ss->D9 x)(hx:x.Kind=1->0<=x.Number/\x.Number<ss.length)(hst:0<=st/\st<=3):∀y,y∈Lr ss x st->D9 y:=by
 unfold Lr;split
 ·rename_i hk;have hn:=hx hk;obtain⟨u,hu⟩:∃u,ss[x.Number.toNat]? = some u:=⟨_,ai (by omega)⟩;have hd:ss.getD x.Number.toNat default=u:=by simp[List.getD,hu]
  intro y hy;rcases cG hy with hy|hy
  ·exact h y hy
  ·subst hy;rw[hd];have:=h u (ae hu);exact⟨hst,this.2⟩
 ·exact h
theorem Ax3(h:Ax b)(hp:Av b p)(hx:Cu b x)(t:Int)(hat:At p.Al x n)(hnot:p.Al[n]? ≠ some x)(hlen:p.Al.length<32) :
  Jg ⟨b,p,t⟩ x true=some (0,⟨b,⟨p.Ai,Lr p.Ae x 3,p.An,Fa p.Al n x⟩,t⟩):=by
 have hs:=H_ h hp.brk;have hsm:∀y,y∈p.Al->Dd y:=λy hy=>(hp.brk.mem y hy).small h;refine cU ?_;unfold Jg;refine(Oj hs hsm (hx.small h) (by omega)).bind λy hy=>?_;obtain⟨m,e1,hat2,hf⟩:=hy;have e2:=hat.uniq hat2;subst e2;have hf2:y.2=false:=by
  grind
 refine c6 (λhc=>by rw[hf2]at hc;simp at hc) (λ_=>c6 (λhc=>?_) (λ_=>?_))
 ·simp[Sf]at hc;omega
 refine Ok.andThen (A:=λz=>z=Fa p.Al n x) (B:=λ(_:Unit)=>False) ?_ ?_ (λ_ h=>h.elim)
 ·unfold Vf;rw[e1,Aou hat.le (by omega)];exact cY rfl
 ·rintro z rfl;unfold Lr;refine c6 (λhk=>?_) (λhk=>?_)
  ·simp only[dA]at hk;have hn:0<=x.Number/\x.Number<p.Ae.length:=by
    have:=hp.nso;unfold Cu at hx;omega
   rw[if_pos hk];refine(cP hn.1 hn.2).bind λu hu=>(cT hn.1 hn.2).bind λv hv=>?_;have hd:p.Ae.getD x.Number.toNat default=u:=by simp[List.getD,hu]
   have hvg:v[x.Number.toNat]? = some (⟨0,u.Since,u.Aq,u.Phase⟩:Aj):=by rw[hv,bI (by omega)]
   simp only[cond_true];refine Ok.bind (P:=λw=>w=(⟨0,u.Since,u.Aq,u.Phase⟩:Aj)) ((cP hn.1 (by rw[hv];simpa using hn.2)).mono λw hw=>by rw[hvg]at hw;cases hw;rfl) λw hw=>?_;subst hw;refine(cT hn.1 (by rw[hv];simpa using hn.2)).bind λz hz=>Ok.pure ?_;rw[hz,hv,List.set_set,hd]
  ·simp only[dC,ne_eq]at hk;rw[if_neg hk];exact Ok.pure rfl
theorem Axn(h:Ax b)(hbl:D8 b p.Al){q:Ad}(hx:Cu b x)(t:Int)(hat:At p.Al x n)(hnot:p.Al[n]? ≠ some x)(hlen:p.Al.length<32)
  (hq:q.Al=Fa p.Al n x)(hqs:q.Ae.length=b.Ae.length):Jg ⟨b,q,t⟩ x false=some (0,⟨b,⟨q.Ai,Lr q.Ae x 0,q.An,p.Al⟩,t⟩):=by
 have hbl2:D8 b q.Al:=by rw[hq];exact Ah3 h hbl hx hat hnot hlen
 have hs:=H_ h hbl2;have hsm:∀y,y∈q.Al->Dd y:=λy hy=>(hbl2.mem y hy).small h;refine cU ?_;unfold Jg;refine(Oj hs hsm (hx.small h) (by have:=hbl2.len;omega)).bind λy hy=>?_;obtain⟨m,e1,hat2,hf⟩:=hy;rw[hq]at hat2 hf;have e2:=hat.ins.uniq hat2;subst e2;have hf2:y.2=true:=hf.2 (Axw hat.le x);refine c6 (λhc=>by rw[hf2]at hc;simp at hc) (λ_=>c6 (λhc=>?_) (λ_=>?_))
 ·simp[Sf]at hc
 refine Ok.andThen (A:=λz=>z=p.Al) (B:=λ(_:Unit)=>False) ?_ ?_ (λ_ h=>h.elim)
 ·unfold Vf;have hle:=hat.le;rw[e1,Az (by omega)];simp only[cond_false,hq];rw[Apo hat.le];exact cY rfl
 ·rintro z rfl;unfold Lr;refine c6 (λhk=>?_) (λhk=>?_)
  ·simp only[dA]at hk;have hn:0<=x.Number/\x.Number<q.Ae.length:=by
    unfold Cu at hx;omega
   rw[if_pos hk];refine(cP hn.1 hn.2).bind λu hu=>(cT hn.1 hn.2).bind λv hv=>?_;have hd:q.Ae.getD x.Number.toNat default=u:=by simp[List.getD,hu]
   simp only[cond_false];exact Ok.pure (by rw[hv,hd])
  ·simp only[dC,ne_eq]at hk;rw[if_neg hk];exact Ok.pure rfl
def Ax1(p:Ad)(x:Aa)(n:Nat):Ad:=⟨p.Ai,Lr p.Ae x 3,p.An,Fa p.Al n x⟩
theorem Ak8(h:Ax b)(hp:Av b p)(hx:Cu b x)(hat:At p.Al x n)(hnot:p.Al[n]? ≠ some x)(hlen:p.Al.length<32):Av b (Ax1 p x n) where
 ncl:=hp.ncl
 nso:=by show (Lr p.Ae x 3).length=_;rw[Ud];exact hp.nso
 nli:=hp.nli
 run:=Ac4 hp.run (λhk=>by have:=hp.nso;unfold Cu at hx;omega) (by omega)
 lim:=hp.lim
 one:=hp.one
 brk:=Ah3 h hp.brk hx hat hnot hlen
theorem Ns(b:Ab)(k n:Int):H4 b k n=true↔Cu b ⟨k,n⟩:=by
 unfold H4 Cu;dsimp only;by_cases h1:k=1
 ·subst h1;simp
 rw[dC.2 h1,cond_false];by_cases h2:k=2
 ·subst h2;simp
 rw[dC.2 h2,cond_false];by_cases h3:k=3
 ·subst h3;simp
 rw[dC.2 h3,cond_false];by_cases h4:k=4
 ·subst h4;simp
 rw[dC.2 h4,cond_false];simp only[ac,dy];omega
theorem A4i(h:Ax b)(hl:D8 b l)(hx:Cu b x):∃n,At l x n:=by
 have hs:=H_ h hl;obtain⟨y,_,n,_,hat,_⟩:=Oj hs (λy hy=>(hl.mem y hy).small h) (hx.small h) (by have:=hl.len;omega);exact⟨n,hat⟩
theorem LeB.get{s:List Bool}(h:LeB s t){i:Nat}{x y:Bool}(hx:s[i]? = some x)(hy:t[i]? = some y):(x && !y)=false:=by
 cases x with
 |false=>rfl
 |true=>
  have:=h.2 i hx;rw[hy]at this;cases this;rfl
theorem Ax8(h:Ax b)(hp:Av b p):F76 p=some p:=by
 have hl:=hp.lens h;have h1:=hl.c;have h2:=hl.s;have h3:=hl.l;have h4:=hl.k;unfold F76;rw[Hf (by omega),Hf (by omega),Hf (by omega),Hf (by omega)];rfl
variable{x:Option α}
theorem d4{l:List (Bool×Bool)}{d:α}{P:α->Prop}(hx:De l->Ok x λ_=>True)(hr:∀y,P y):Ok (As l x d) P:=
 c9 (λh=>(hx h).mono λy _=>hr y) λ_=>hr d
theorem d8{v:α}(h:x=some v):Ok x λ_=>True:=⟨v,h,trivial⟩
theorem Aw4{x:Aj}(hx:D9 x)(hl:D9 like):D9 (W9 like x):=⟨hx.1,hx.2.1,hl.2.2.1,hl.2.2.2⟩
theorem Nb(h:∀x,x∈ss->D9 x){y:Aj}(hy:D9 y):∀x,x∈ss.set n y->D9 x:=λx hx=>by
 grind
theorem Acp(h:∀x,x∈ss->D9 x)(hn:n<ss.length):D9 (ss.getD n default):=by
 grind
theorem Q8{like:Aj}(hl:D9 like):∀(idx:List Int)(ss:List Aj),(∀i,i∈idx->0<=i/\i<ss.length)->(∀x,x∈ss->D9 x)->∀x,x∈Fu like idx ss->D9 x
 | [],_,_,h=>h
 |i::idx,ss,hi,h=>by
  have h0:=hi i aj;refine Q8 hl idx _ (λj hj=>?_) (Nb h (Aw4 (Acp h (by omega)) hl));grind
theorem Acs{b:Ab}{p:Ad}(hp:Av b p):∀(l:List Ap)(s:List Aj),(∀x,x∈l->∀i,i∈x.Ae->0<=i/\i<b.Ae.length)->s.length=p.Ae.length->(∀x,x∈s->D9 x)->∀x,x∈l.foldl (Dq p) s->D9 x
 | [],_,_,_,h=>h
 | y::l,s,hi,hs,h=>by
  refine Acs hp l _ (λx hx=>hi x (ak _ hx)) (by rw[Nz,hs]) ?_;have h0:=hi y aj;have hn:=hp.nso;unfold Dq;split
  ·exact h
  ·rename_i i r e;rw[e]at h0;have h1:=h0 i aj;rw[e];exact Q8 (Acp hp.run (by omega)) _ _ (λj hj=>by have:=h0 j hj;omega) h
theorem Ry(hp:Av b p):∀x,x∈Ft b p->D9 x:=
 Acs hp _ _ (λ_ hx=>P3 hx) rfl hp.run
theorem Kg(hp:Av b p)(hl:ss.length=p.Ae.length)(hr:∀x,x∈ss->D9 x):Av b ⟨p.Ai,ss,p.An,p.Al⟩ where
 ncl:=hp.ncl
 nso:=hl.trans hp.nso
 nli:=hp.nli
 run:=hr
 lim:=hp.lim
 one:=hp.one
 brk:=hp.brk
theorem Akm(hp:Av b p)(j:Nat):Av b ⟨p.Ai.set j false,p.Ae,p.An,p.Al⟩ where
 ncl:=by simpa using hp.ncl
 nso:=hp.nso
 nli:=hp.nli
 run:=hp.run
 lim:=hp.lim
 one i hi:=by
  refine aw (Ac1 (by simp) (λk hk=>?_) i) (hp.one i hi);grind
 brk:=hp.brk
theorem Ao3{l:List Ak}:∀{c:List Bool}{j:Nat}{x:Ak},l[j]? = some x->∀i:Nat,(C_ l (c.set j true) i).length<=(C_ l c i).length+(if x.Kind=3/\x.B=(i:Int)then 1 else 0):=by
 induction l with
 |nil=>intro c j x h;simp at h
 | cons y l ih=>
  intro c j x h i;cases c with
  |nil=>simp[C_]
  | cons v c=>
   cases j with
   |zero=>
    simp only[List.getElem?_cons_zero,ah]at h;subst h;simp only[List.set_cons_zero,C_,b9,aW];grind
   |succ j=>
    simp only[cE]at h;have:=ih (c:=c) h i;simp only[List.set_cons_succ,C_,b9,aW]at this ⊢;split <;> simp at this ⊢ <;> omega
theorem Ao4{i:Nat}(h:Fl b p 3 (i:Int)=none):C_ b.Ah p.Ai i=[]:=by
 unfold Fl at h;rw[Option.map_eq_none_iff,List.find?_eq_none]at h;unfold C_;rw[cH];exact h
variable{x:Ak}
theorem A1o(hp:Av b p)(hx:b.Ah[j]? = some x)(hf:x.Kind=3->Fl b p 3 x.B=none):Av b ⟨p.Ai.set j true,p.Ae,p.An,p.Al⟩ where
 ncl:=by simpa using hp.ncl
 nso:=hp.nso
 nli:=hp.nli
 run:=hp.run
 lim:=hp.lim
 one i hi:=by
  have h1:=Ao3 (c:=p.Ai) hx i;have h2:=hp.one i hi;dsimp only;split at h1
  ·rename_i hk;have h3:=hf hk.1;rw[hk.2]at h3;rw[Ao4 h3]at h1;simpa using h1
  ·omega
 brk:=hp.brk
theorem Axg(h:Ax b)(hp:Av b p)(i:Int):Ok (Amk b p i) λy=>y.2≠0\/Av b y.1:=by
 have hbl:p.Al.length<=1000:=by have:=hp.brk.len;omega
 have hn:=hp.ncl;unfold Amk;rw[E7 h hp,Hp h hp];simp only[ab];refine c6 (λhc=>by simp at hc) (λ_=>c6 (λ_=>Ok.pure (.inl (by simp))) (λhr=>?_));simp only[Ap6,ba,dz]at hr;refine(cP (by omega) (by omega)).bind λv _=>Ok.bind (P:=λ_=>True) (d4 (λ_=>d8 (Gy hbl _ _)) λ_=>trivial) λ_ _=>?_;refine c6 (λ_=>Ok.pure (.inl (by simp))) (λ_=>?_);exact(cP (by omega) (by omega)).bind λ_ _=>(cT (by omega) (by omega)).bind λz hz=>Ok.pure (.inr (by rw[hz];exact Akm hp _))
theorem Av5(h:Ax b)(hp:Av b p)(n:Int):Ok (J3 b p n) λy=>∀i,i∈y.1.Ae->0<=i/\i<p.Ae.length:=by
 have hn:=hp.nso;unfold J3;rw[Kt h hp];simp only[ab];refine Ok.andThen (A:=λ_=>True) (B:=λy=>∀i,i∈y.1.Ae->0<=i/\i<p.Ae.length) ?_ (λ_ _=>Ok.pure (λi hi=>by cases hi)) (λv hv=>Ok.pure hv);refine c8 (I:=λ_ _=>True) trivial (λj x s hx _=>?_) λs _=>trivial;have hmem:=ae hx;have hbl:x.Am.length<=9223372036854775807:=by
  unfold Cd at hmem;obtain⟨f,_,rfl⟩:=an.1 (ay.1 hmem).1;have:=Fb (λi=>(groups b p).getD i 0==(f:Int)) b.Am.toNat;have:=h.buses;simp only[isl,Fc];omega
 unfold Qv;rw[Gd _ _ hbl];simp only[ab];refine c6 (λ_=>Ok.ret λi hi=>?_) (λ_=>c7 trivial);have:=P3 hmem i hi;omega
theorem A41(h:Ax b)(hp:Av b p)(n:Int):Ok (J3 b p n) λy=>y.1.Am.length<=9223372036854775807:=by
 unfold J3;rw[Kt h hp];simp only[ab];refine Ok.andThen (A:=λ_=>True) (B:=λy=>y.1.Am.length<=9223372036854775807) ?_ (λ_ _=>Ok.pure (by simp)) (λv hv=>Ok.pure hv);refine c8 (I:=λ_ _=>True) trivial (λj x s hx _=>?_) λs _=>trivial;have hmem:=ae hx;have hbl:x.Am.length<=9223372036854775807:=by
  unfold Cd at hmem;obtain⟨f,_,rfl⟩:=an.1 (ay.1 hmem).1;have:=Fb (λi=>(groups b p).getD i 0==(f:Int)) b.Am.toNat;have:=h.buses;simp only[isl,Fc];omega
 unfold Qv;rw[Gd _ _ hbl];simp only[ab];exact c6 (λ_=>Ok.ret hbl) (λ_=>c7 trivial)
theorem T5(h:Ax b)(hp:Av b p)(n:Int):Ok (uZ b p n) λy=>y.2=true->0<=y.1/\y.1<p.Ae.length:=by
 unfold uZ;refine(Av5 h hp n).bind λy hy=>?_;refine c6 (λ_=>Ok.pure (λe=>by cases e)) (λhc=>?_);simp only[dC,ne_eq]at hc;exact(cP (by omega) (by omega)).bind λz hz=>Ok.pure λ_=>hy z (ae hz)
theorem cZ{l:List α}(h0:0<=i)(h1:i<l.length):Ok (getI l i) λ_=>True:=(cP h0 h1).mono λ_ _=>trivial
theorem Aw5(h:Ax b)(hp:Av b p)(hx:b.Ah[j]? = some x):Ok (Al8 b p x) λ_=>True:=by
 have hn:=hp.nso;have hb:=h.br x (ae hx);unfold Sx at hb;unfold Al8;refine(T5 h hp _).bind λy hy=>?_;refine c6 (λ_=>Ok.pure trivial) (λh2=>?_);simp only[cv]at h2;have hy:=hy h2;refine c6 (λ_=>?_) (λ_=>c6 (λhk=>?_) (λ_=>Ok.pure trivial))
 ·refine(T5 h hp _).bind λz hz=>?_;refine Ok.bind (P:=λ_=>True) (d4 (λ_=>cZ hy.1 hy.2) λ_=>trivial) λ_ _=>?_;refine Ok.bind (P:=λ_=>True) (d4 (λhg=>?_) λ_=>trivial) λ_ _=>Ok.pure trivial;have:=hz (by have:=hg.1;simpa using this);exact cZ this.1 this.2
 ·simp only[dA]at hk;exact(cZ hy.1 hy.2).bind λ_ _=>(cZ (by omega) (by omega)).bind λ_ _=>Ok.pure trivial
theorem Aoq{o:Option Int}:(Fp o).2=false->o=none:=by
 cases o with
 |none=>intro _;rfl
 |some a=>intro e;cases e
theorem Aso(h:Ax b)(hp:Av b p){j:Int}(h0:0<=j)(h1:j<b.Ah.length):Ok (Al9 b p j) λy=>y=true->∀x,b.Ah[j.toNat]? = some x->x.Kind=3->Fl b p 3 x.B=none:=by
 have hbl:p.Al.length<=1000:=by have:=hp.brk.len;omega
 have hn:=hp.nso;have hc:=hp.ncl;unfold Al9;refine(cP h0 h1).bind λx hx=>(cZ h0 (by omega)).bind λ_ _=>?_;have hb:=h.br x (ae hx);unfold Sx at hb;refine Ok.bind (P:=λ_=>True) (d4 (λ_=>d8 (Gy hbl _ _)) λ_=>trivial) λ_ _=>?_;refine Ok.bind (P:=λ_=>True) (d4 (λ_=>d8 (Gy hbl _ _)) λ_=>trivial) λ_ _=>?_;refine c6 (λ_=>Ok.pure (λe=>by cases e)) (λ_=>?_);refine c6 (λhk=>?_) (λhk1=>c6 (λhk=>?_) (λhk2=>?_))
 ·simp only[dA]at hk;rw[Gy hbl];refine Ok.pure λ_ y hy hy3=>?_;rw[hx]at hy;cases hy;omega
 ·simp only[dA]at hk;rw[Gy hbl];simp only[ab];refine Ok.bind (P:=λ_=>True) (d4 (λ_=>cZ (by omega) (by omega)) λ_=>trivial) λ_ _=>Ok.pure λ_ y hy hy3=>?_;rw[hx]at hy;cases hy;omega
 ·unfold Af8;rw[E7 h hp,Ac2 h hc,Gy hbl];simp only[ab,dG,cond_false];refine Ok.pure λe y hy hy3=>?_;rw[hx]at hy;cases hy;simp only[ac,aU]at e;exact Aoq e.2
theorem Azy(h:Ax b)(hp:Av b p)(j:Int):Ok (Ame b p j) λy=>y≠0\/((0<=j/\j<b.Ah.length)/\∀x,b.Ah[j.toNat]? = some x->x.Kind=3->Fl b p 3 x.B=none):=by
 unfold Ame;rw[E7 h hp];simp only[ab];refine c6 (λhc=>by simp at hc) (λ_=>c6 (λ_=>Ok.pure (.inl (by simp))) (λhr=>?_));simp only[Ap0,ba,dz]at hr;refine(Aso h hp (by omega) (by omega)).bind λy hy=>?_;refine c6 (λ_=>Ok.pure (.inl (by simp))) (λh2=>?_);simp only[cv]at h2;have hy:=hy h2;refine(cP (by omega) (by omega)).bind λx hx=>(A41 h hp x.A).bind λz hz=>?_;refine Ok.bind (P:=λ_=>True) (d4 (λ_=>d8 (Gd _ _ hz)) λ_=>trivial) λ_ _=>?_;refine Ok.bind (P:=λ_=>True) (d4 (λ_=>Aw5 h hp hx) λ_=>trivial) λ_ _=>?_;exact c6 (λ_=>Ok.pure (.inl (by simp))) (λ_=>Ok.pure (.inr ⟨⟨by omega,by omega⟩,hy⟩))
theorem Aub(h:Ax b)(hp:Av b p)(i:Int):Ok (Aml b p i) λy=>y.2≠0\/Av b y.1:=by
 have hn:=hp.ncl;unfold Aml;rw[Hp h hp];simp only[ab];refine(Azy h hp i).bind λy hy=>c6 (λhc=>Ok.pure (.inl (by simpa using hc))) (λhc=>?_);simp only[dF]at hc;rcases hy with hy|⟨hr,hf⟩
 ·exact absurd hc hy
 ·refine(cP hr.1 (by omega)).bind λ_ _=>(cT hr.1 (by omega)).bind λz hz=>?_;obtain⟨x,hx⟩:∃x,b.Ah[i.toNat]? = some x:=⟨_,ai (by omega)⟩;have hq:=A1o hp hx (hf x hx);rw[←hz]at hq;rw[Ou h hq];exact Ok.pure (.inr (Kg hq (Ix _ _) (Ry hq)))
theorem Atf(h:Ax b)(hp:Av b p)(i n:Int):Ok (Amj b p i n) λy=>y.2≠0\/Av b y.1:=by
 have hn:=hp.nso;unfold Amj;rw[E7 h hp,Hp h hp];simp only[ab];refine c6 (λhc=>by simp at hc) (λ_=>c6 (λ_=>Ok.pure (.inl (by simp))) (λhr=>?_));simp only[Ap5,ba,dz]at hr;refine(T5 h hp n).bind λy hy=>?_;refine Ok.bind (P:=λ_=>True) (d4 (λ_=>cZ (by omega) (by omega)) λ_=>trivial) λu _=>?_;refine c6 (λ_=>Ok.pure (.inl (by simp))) (λhc=>?_);simp only[ba,cv]at hc;have hy:=hy hc.1;unfold Avh;rw[E7 h hp,Uo h hp];simp only[ab,dG,cond_false];have hrun:∀w,p.Ae[y.1.toNat]? = some w->D9 w:=λw hw=>hp.run w (ae hw);refine c6 (λ_=>?_) (λ_=>?_)
 ·refine(Av5 h hp _).bind λz hz=>(cP hy.1 hy.2).bind λw hw=>?_;rw[Abp hz];exact Ok.pure (.inr (Kg hp (H0 _ _ _) (Q8 (hrun w hw) _ _ hz hp.run)))
 ·refine(cP hy.1 hy.2).bind λw hw=>?_;have hz:∀k,k∈[i]->0<=k/\k<p.Ae.length:=λk hk=>by
   grind
  rw[Abp hz];exact Ok.pure (.inr (Kg hp (H0 _ _ _) (Q8 (hrun w hw) _ _ hz hp.run)))
theorem T6(h:Ax b)(hc:p.Ai.length=b.Ah.length)(t:Int)(h0:0<=i)(h1:i<b.Ae.length):Ok (Qu ⟨b,p,t⟩ i) λ_=>True:=by
 obtain⟨j,x,e,hx,_⟩:=Alr h h0 h1;have hj:=(aa.1 hx).1;unfold Qu;rw[Als h,e];simp only[ab];exact(cZ (by omega) (by omega)).bind λ_ _=>Ok.pure trivial
def Wk(b:Ab)(y:Int×Bc):Prop:=y.1≠0\/Av b y.2.Au
variable{t:Int}
theorem Asm(h:Ax b)(hp:Av b p)(ht:0<=t/\t<=2147483648)(h0:0<=i)(h1:i<b.Ae.length):Ok (Zz ⟨b,p,t⟩ i) (Wk b):=by
 have hn:=hp.nso;have hbl:p.Al.length<=1000:=by have:=hp.brk.len;omega
 unfold Zz;refine(cZ h0 (by dsimp only;omega)).bind λu _=>Ok.bind (P:=λ_=>True) (d4 (λ_=>d8 (Gy hbl _ _)) λ_=>trivial) λ_ _=>?_;refine c6 (λ_=>Ok.pure (.inl (by simp))) (λ_=>(cZ h0 h1).bind λs _=>?_);refine Ok.bind (P:=λ_=>True) (d4 (λ_=>T6 h hp.ncl t h0 h1) λ_=>trivial) λ_ _=>?_;refine c6 (λ_=>?_) (λ_=>?_)
 ·exact(cT h0 (by dsimp only;omega)).bind λz hz=>Ok.pure (.inr (by
   rw[hz];exact Kg hp (by simp) (Nb hp.run ⟨by dsimp only;omega,ht,by dsimp only;omega,by dsimp only;omega⟩)))
 ·exact(cT h0 (by dsimp only;omega)).bind λz hz=>Ok.pure (.inr (by
   rw[hz];exact Kg hp (by simp) (Nb hp.run ⟨by dsimp only;omega,ht,by dsimp only;omega,by dsimp only;omega⟩)))
theorem Aw6(h:Ax b)(hp:Av b p)(h0:0<=i)(h1:i<b.Ae.length):Ok (Zy ⟨b,p,t⟩ i) (Wk b):=by
 have hn:=hp.nso;unfold Zy;refine(cP h0 (by dsimp only;omega)).bind λu hu=>?_;have hr:=hp.run u (ae hu);refine Ok.bind (P:=λ_=>True) (d4 (λ_=>T6 h hp.ncl t h0 h1) λ_=>trivial) λ_ _=>?_;refine c6 (λ_=>Ok.pure (.inl (by simp))) (λ_=>(cT h0 (by dsimp only;omega)).bind λz hz=>Ok.pure (.inr ?_));rw[hz];exact Kg hp (by simp) (Nb hp.run ⟨by dsimp only;omega,hr.2⟩)
theorem Ath(hp:Av b p){v:Int}(h0:0<=i)(h1:i<b.Ag.length):Ok (Zx ⟨b,p,t⟩ i v) (Wk b):=by
 have hn:=hp.nli;unfold Zx;refine Ok.bind (P:=λy=>0<=v->b.Ag[i.toNat]? = some y) (c9 (λ_=>(cP h0 h1).mono λy hy _=>hy) λhg hv=>(hg ⟨by simp;omega,trivial⟩).elim) λc hc=>?_;refine c6 (λ_=>Ok.pure (.inl (by simp))) (λhr=>?_);simp only[Adz,ba,dz]at hr;have hc:=hc (by omega);refine(cZ h0 (by dsimp only;omega)).bind λ_ _=>(cT h0 (by dsimp only;omega)).bind λz hz=>Ok.pure (.inr ?_);subst hz;exact {
  ncl:=hp.ncl
  nso:=hp.nso
  nli:=by simpa using hp.nli
  run:=hp.run
  lim:=λk m y hk hy=>by
   dsimp only at hk;rw[aH]at hk;split at hk
   ·grind
   ·exact hp.lim k m y hk hy
  one:=hp.one
  brk:=hp.brk}
theorem Axk(x:Int):0<=E4 x/\E4 x<=3599:=by
 have:=Q6 (x:=x) (n:=3600) (by omega);unfold E4;by_cases h:Int.tmod x 3600<0
 ·rw[dD h,cond_true,Az (by omega)];omega
 grind
theorem Aw3(h:Ax b)(hp:Av b p):Ok (Amd b p) λy=>Av b y.1/\y.1.Ai=p.Ai/\y.2=0:=by
 have hs:=h.sol;have hn:=hp.nso;unfold Amd;rw[E7 h hp,Hp h hp];simp only[ab];refine c6 (λhc=>by simp at hc) (λ_=>?_);refine Ok.andThen (A:=λs=>s.length=p.Ae.length/\∀x,x∈s->D9 x) (B:=λ(_:Unit)=>False) ?_ (λs hs=>Ok.pure ⟨Kg hp hs.1 hs.2,rfl,rfl⟩) (λ_ h=>h.elim);refine c8 (I:=λ_ s=>s.length=p.Ae.length/\∀x,x∈s->D9 x) ⟨rfl,hp.run⟩ (λj x s hx hs=>?_) λs hs=>hs;have hj:=(aa.1 hx).1;have hcnt:cnt 0 j=(j:Int):=Cn (by omega);unfold Aix;rw[hcnt];refine c6 (λ_=>?_) (λ_=>c7 hs);refine(cP (by omega) (by omega)).bind λu hu=>(cT (by omega) (by omega)).bind λz hz=>c7 ?_;have hr:=hs.2 u (ae hu);rw[hz];exact⟨by simpa using hs.1,Nb hs.2 ⟨hr.1,hr.2.1,hr.2.2.1,Axk _⟩⟩
theorem Aw2(h:Ax b)(hp:Av b p)(t:Int):Ok (Zw ⟨b,p,t⟩) λy=>Av b y.Au:=by
 have hso:=h.sol;unfold Zw;refine(Aw3 h hp).bind λ⟨q,e⟩ hq=>?_;dsimp only at hq ⊢;obtain⟨hq,_,_⟩:=hq;have hn:=hq.nso;refine Ok.andThen (A:=λs=>s.2.length=q.Ae.length/\∀x,x∈s.2->D9 x) (B:=λ(_:Unit)=>False) ?_ (λs hs=>Ok.pure (Kg hq hs.1 hs.2)) (λ_ h=>h.elim);refine cO (λs=>(0<=s.1/\s.1<=(q.Ae.length:Int))/\s.2.length=q.Ae.length/\∀x,x∈s.2->D9 x) (λs=>((q.Ae.length:Int)-s.1).toNat) _ _ ?_ ?_ ?_
 ·exact⟨by dsimp only;omega,rfl,hq.run⟩
 ·dsimp only;omega
 ·rintro⟨i,s⟩ ⟨⟨h1,h2⟩,h3,h4⟩;dsimp only at h1 h2 h3 h4;unfold Aal Ady;dsimp only;refine c6 (λhc=>?_) (λ_=>cS ⟨h3,h4⟩);simp only[dy]at hc;have e1:w64 (i+1)=i+1:=Az (by omega);refine(cP h1 (by omega)).bind λu hu=>?_;have hr:=h4 u (ae hu);refine Ok.bind (P:=λ_=>True) (d4 (λ_=>T6 h hq.ncl t h1 (by omega)) λ_=>trivial) λ_ _=>?_;refine Ok.bind (P:=λ_=>True) (d4 (λ_=>cZ h1 (by omega)) λ_=>trivial) λ_ _=>?_;rw[e1];refine c6 (λ_=>?_) (λ_=>c7 ⟨⟨by dsimp only;omega,h3,h4⟩,by dsimp only;omega⟩);refine(cT h1 (by omega)).bind λz hz=>c7 ⟨⟨by dsimp only;omega,?_,?_⟩,by dsimp only;omega⟩
  ·dsimp only;rw[hz];simpa using h3
  ·dsimp only;rw[hz];exact Nb h4 ⟨by dsimp only;omega,hr.2⟩
theorem bet{x:Int}(h:lo<=x/\x<=hi):Cg x lo hi=true:=(Kf x lo hi).2 h
def ofL(b:Ab)(q:Ak->Bool):List Int:=(b.Ah.zipIdx.filter λz=>q z.1).map λz=>(z.2:Int)
theorem Ab7(h:Ax b)(k i:Int):Su b k i=some (ofL b λx=>Kx k i x):=by
 have hb:=h.brl;refine cU ?_;unfold Su;refine Ok.andThen (A:=λs=>s=ofL b λx=>Kx k i x) (B:=λ(_:Unit)=>False) ?_ (λs hs=>Ok.pure hs) (λ_ h=>h.elim);refine c8 (I:=λj s=>s=((b.Ah.zipIdx.take j).filter λz=>Kx k i z.1).map λz=>(z.2:Int)) rfl (λj x s hx hs=>?_) λs hs=>?_
 ·have hj:=(aa.1 hx).1;have hcnt:cnt 0 j=(j:Int):=Cn (by omega);have hz:b.Ah.zipIdx[j]? = some (x,j):=by rw[List.getElem?_zipIdx,hx];simp
  have hsl:s.length<=j:=by
   grind
  unfold Ajv;rw[hcnt,Bm hz,bm,bE,←hs];refine c6 (λhq=>?_) (λhq=>c7 (by simp[hq]));exact(cQ (by simp;omega)).bind λy hy=>c7 (by rw[hy];simp[hq])
 ·rw[hs,show b.Ah.length=b.Ah.zipIdx.length from by simp,aJ];rfl
theorem Anj(q:Ak->Bool):∀(l:List Ak)(k:Nat),((l.zipIdx k).filter λz=>q z.1).length=(l.filter q).length
 | [],_=>rfl
 |x::l,k=>by
  simp only[List.zipIdx_cons,aW];split <;> simp[Anj q l (k+1)]
theorem Axi(b:Ab)(q:Ak->Bool):(ofL b q).length=(b.Ah.filter q).length:=by
 unfold ofL;rw[ar,Anj]
theorem Asw(k:Int)(hk:k≠1)(i:Int)(x:Ak):Kx k i x=(x.Kind==k&&x.B==i):=by
 unfold Kx;grind
theorem qP(hk:k≠1)(i:Nat):(ofL b λx=>Kx k (i:Int) x).length=(brs b.Ah k i).length:=by
 rw[Axi];unfold brs;congr 1;exact List.filter_congr λx _=>Asw k hk i x
theorem Abu(h:Ax b):Amx b=some true:=by
 have hs:=h.sol;have hc:=h.col;have hb:=h.buses;have hbl:=h.brl;refine cU ?_;unfold Amx;rw[Dw b.Ah 0 λj x hj=>?_]
 ·rw[show ∀(f:Unit->Option Bool),andThen (some (Ctl.next ()):Option (Ctl Unit Bool)) some f=f () from λ_=>rfl];refine Ok.andThen (A:=λ_=>True) (B:=λ(_:Bool)=>False) ?_ (λ_ _=>?_) (λ_ h=>h.elim)
  ·refine cO (λs=>0<=s/\s<=(b.Ae.length:Int)) (λs=>((b.Ae.length:Int)-s).toNat) _ (0:Int) (by omega) (by omega) ?_;rintro i ⟨h1,h2⟩;unfold Ajh Aik;refine c6 (λhq=>?_) (λ_=>cS trivial);simp only[dy]at hq;obtain⟨n,rfl⟩:∃n:Nat,i=(n:Int):=⟨i.toNat,by omega⟩;rw[Ab7 h];simp only[ab];have hone:=h.one n (by omega);rw[qP (by decide),hone,Az (by omega)];refine c6 (λhc=>by simp at hc) (λ_=>c7 ⟨by omega,by omega⟩)
  ·refine Ok.andThen (A:=λ_=>True) (B:=λ(_:Bool)=>False) ?_ (λ_ _=>Ok.pure rfl) (λ_ h=>h.elim);refine cO (λs=>0<=s/\s<=(b.Ag.length:Int)) (λs=>((b.Ag.length:Int)-s).toNat) _ (0:Int) (by omega) (by omega) ?_;rintro i ⟨h1,h2⟩;unfold Ajg Aij;refine c6 (λhq=>?_) (λ_=>cS trivial);simp only[dy]at hq;obtain⟨n,rfl⟩:∃n:Nat,i=(n:Int):=⟨i.toNat,by omega⟩;rw[Ab7 h];simp only[ab];have hany:=h.any n (by omega);have hpos:0<(brs b.Ah 3 n).length:=List.length_pos_iff.2 hany;rw[qP (by decide),Az (by omega)];refine c6 (λhc=>?_) (λ_=>c7 ⟨by omega,by omega⟩);simp only[dy]at hc;omega
 ·have hjl := (aa.1 hj).1;obtain⟨⟨a0,a1⟩,hk⟩:=h.br x (ae hj);rw[aI];have hcnt:cnt 0 j=(j:Int):=Cn (by omega);have e1:w64 (b.Am-1)=b.Am-1:=Az (by omega);have e2:w64 (x.A+1)=x.A+1:=Az (by omega);have e3:w64 ((b.Ae.length:Int)-1)=(b.Ae.length:Int)-1:=Az (by omega);have e4:w64 ((b.Ag.length:Int)-1)=(b.Ag.length:Int)-1:=Az (by omega);unfold Aji Aqf Aqe Aqd;rw[e1,e2,e3,e4,hcnt,bet (x:=x.A) (by omega)];simp only[aP,cond_false];rcases hk with⟨hk,h1,h2⟩|⟨hk,h1,h2⟩|⟨hk,h1,h2⟩
  ·rw[hk,bet (x:=x.B) (lo:=x.A+1) (by omega)];rfl
  ·rw[hk,bet (x:=x.B) (lo:=0) (hi:=(b.Ae.length:Int)-1) (by omega)];rfl
  ·rw [hk, bet (x := x.B) (lo := 0) (hi := (b.Ag.length : Int) - 1) (by omega)];have hcut:cutI b.Ah 0 (j:Int)=some (b.Ah.take j):=by
    refine cU ((Ok.cutI (by omega) (by omega) (by omega)).mono λy hy=>?_);rw[hy];simp
   show ((cutI b.Ah 0 (j:Int)).bind λy9=>andThen (foldI (vJ x) y9 0 ()) (λv=>some (Ctl.ret v)) λz1=>some (Ctl.next ()))=some (Ctl.next ());rw[hcut];simp only[ab];rw[Dw _ 0 λm y hy=>?_]
   ·rfl
   ·have hml:m<j:=by
     have:=(aa.1 hy).1;simp only[aY]at this;omega
    have hyb:b.Ah[m]? = some y:=by
     rw[ao,if_pos hml]at hy;exact hy
    unfold vJ;have hne:Ad3 x y=false:=by
     unfold Ad3;rw[cy];intro e;simp only[bL,ac,dA]at e;obtain⟨e1,e2,e3⟩:=e;have hn:=h.nodup x.B.toNat;have hsplit:b.Ah=b.Ah.take j++(x::b.Ah.drop (j+1)):=by
      conv=>lhs;rw[←bO j b.Ah]
      rw[List.drop_eq_getElem_cons hjl];have:b.Ah[j]=x:=by
       rw[ai hjl]at hj;cases hj;rfl
      rw[this]
     rw[hsplit,Hq,bE]at hn;have hBn:x.B=(x.B.toNat:Int):=by omega
     have hmem1:y.A∈(brs (b.Ah.take j) 3 x.B.toNat).map (·.A):=by
      refine an.2 ⟨y,?_,rfl⟩;unfold brs;refine ay.2 ⟨ae hy,?_⟩;rw[e1,hk,e3,←hBn];simp
     have hmem2:x.A∈(brs (x::b.Ah.drop (j+1)) 3 x.B.toNat).map (·.A):=by
      refine an.2 ⟨x,?_,rfl⟩;unfold brs;refine ay.2 ⟨aj,?_⟩;rw[hk,←hBn];simp
     exact(List.nodup_append.1 hn).2.2 _ hmem1 _ hmem2 e2
    rw[hne];rfl
theorem Agt(h:Ax b):Amw b=some true:=by
 unfold Amw;rw[Dw b.Ae 0 λj x hj=>?_]
 ·rfl
 ·obtain⟨h1,h2,h3⟩:=h.so x (ae hj);unfold Ajf Aqc;rw[bet h1,bet h2,bet h3];rfl
theorem Aay(h:Ax b):Amv b=some true:=by
 have hcl:=h.col;unfold Amv;rw[Dw b.Ag 0 λj x hj=>?_]
 ·rfl
 ·obtain⟨h1,h2,h3,h4,h5,h6,h7⟩:=h.co j x hj;have hjl:=(aa.1 hj).1;rw[aI];have hcnt:cnt 0 j=(j:Int):=Cn (by omega);unfold Aje Aqb;rw[bet h1,bet h2,bet h3,bet h4];have hd:decide ((x.Needs.length:Int)>4)=false:=by simp;omega
  rw[hd];simp only[aP,Bool.or_false,cond_false];rw[Dw x.Needs 0 λm n hm=>?_]
  ·rfl
  ·have hml:=(aa.1 hm).1;rw[aI];have hcm:cnt 0 m=(m:Int):=Cn (by omega);have hn:=h6 n (ae hm);unfold Ajd Aqa;rw[hcnt,hcm,Az (n:=(j:Int)-1) (by omega),bet (x:=n) (by omega)];cases m with
   |zero=>rfl
   |succ m=>
    obtain⟨a,ha⟩:∃a,x.Needs[m]? = some a:=⟨_,ai (by omega)⟩;have hlt:=h7 m a n ha hm;have e:w64 (((m+1:Nat):Int)-1)=(m:Int):=by rw[Az (by omega)];omega
    have hp:decide (((m+1:Nat):Int)>0)=true:=dD (by omega);have hq:decide (a>=n)=false:=by simp;omega
    rw[e,B1 ha,hp];simp[As,Ef,hq]
theorem Ast(h:Ax b):X8 b=some 0:=by
 have h1:=h.buses;have h2:=h.brl;have h3:=h.sol;have h4:=h.col;have h5:=h.phase;have h6:=h.freq;unfold X8;rw[Abu h,Agt h,Aay h];have e:Ad8 b=false:=by
  rw[cy];intro e;simp[Ad8]at e;omega
 have e2:Ad7 b true true true=false:=by
  rw[cy];intro e;simp[Ad7]at e;omega
 rw[e];simp only[cond_false,ab];have g1:(As [(!true,false)] (some true) default:Option Bool)=some true:=rfl;grind
theorem yE(i:Nat)(C:List Bool):∀(l:List Ak)(c:List Bool)(k:Nat),C.drop k=c->l.length=c.length ->
  (((l.zipIdx k).filter λz=>z.1.Kind==3&&z.1.B==(i:Int)).filter λz=>C.getD z.2 false).length=(C_ l c i).length
 | [],_,_,_,_=>by simp[C_]
 |x::l,[],_,_,h=>by simp at h
 | x::l,v::c,k,hd,h=>by
  have hv:C[k]? = some v:=by
   have:=congrArg (·[0]?) hd;simpa[List.getElem?_drop]using this
  have hd':C.drop (k+1)=c:=by rw[←bK,hd];rfl
  have ih:=yE i C l c (k+1) hd' (by simpa using h);have hg:C.getD k false=v:=by simp[List.getD,hv]
  simp only[List.zipIdx_cons,aW,C_,b9]at ih ⊢;grind
theorem Np(h:Ax b)(hp:Av b p):F75 b p=some 0:=by
 have h3:=h.sol;have h4:=h.col;have hbl:=h.brl;have hncl:=hp.ncl;have hnso:=hp.nso;have hnli:=hp.nli;refine cU ?_;unfold F75;rw[Ast h];simp only[ab];refine c6 (λhc=>by simp at hc) (λ_=>c6 (λhc=>?_) (λ_=>?_))
 ·simp[Awm,hncl,hnso,hnli]at hc
 rw[Dw p.Ae 0 λj x hj=>?_]
 ·rw [show ∀(f : Unit -> Option Int), andThen (some (Ctl.next ()) : Option (Ctl Unit Int)) some f = f () from λ_ => rfl];rw[Dw p.An 0 λj x hj=>?_]
  ·rw [show ∀(f : Unit -> Option Int), andThen (some (Ctl.next ()) : Option (Ctl Unit Int)) some f = f () from λ_ => rfl];have hlen:=hp.brk.len;refine c6 (λhc=>?_) (λ_=>?_)
   ·simp only[dy]at hc;omega
   rw[Dw p.Al 0 λj x hj=>?_]
   ·rw[show ∀(f:Unit->Option Int),andThen (some (Ctl.next ()):Option (Ctl Unit Int)) some f=f () from λ_=>rfl];refine Ok.andThen (A:=λ_=>True) (B:=λ(_:Int)=>False) ?_ (λ_ _=>Ok.pure rfl) (λ_ h=>h.elim);refine cO (λs=>0<=s/\s<=(b.Ag.length:Int)) (λs=>((b.Ag.length:Int)-s).toNat) _ (0:Int) (by omega) (by omega) ?_;rintro i ⟨g1,g2⟩;unfold Arf Awj;refine c6 (λhq=>?_) (λ_=>cS trivial);simp only[dy]at hq;obtain⟨n,rfl⟩:∃n:Nat,i=(n:Int):=⟨i.toNat,by omega⟩;rw[Ab7 h];simp only[ab];have hone:=hp.one n (by omega);have hz:ofL b (λx=>Kx 3 (n:Int) x)=((b.Ah.zipIdx.filter λz=>z.1.Kind==3&&z.1.B==(n:Int)).map λz=>(z.2:Int)):=by
     unfold ofL;congr 1;exact List.filter_congr λz _=>Asw 3 (by decide) n z.1
    have hzf:=yE n p.Ai b.Ah p.Ai 0 rfl (by omega);rw[hz];have hin:∀z,z∈(b.Ah.zipIdx.filter λz=>z.1.Kind==3&&z.1.B==(n:Int))->z.2<p.Ai.length:=by
     rintro⟨x,j⟩ hm;have:=(ay.1 hm).1;rw[List.mem_zipIdx_iff_getElem?]at this;have:=(aa.1 this).1;dsimp only;omega
    have hsz:(b.Ah.zipIdx.filter λz=>z.1.Kind==3&&z.1.B==(n:Int)).length<=24:=aw (aV _ _) (by simpa using hbl);generalize hm:(b.Ah.zipIdx.filter λz=>z.1.Kind==3&&z.1.B==(n:Int))=m at hin hsz hzf;refine(c8 (xs:=m.map λz=>(z.2:Int)) (I:=λj s=>s=(((m.take j).filter λz=>p.Ai.getD z.2 false).length:Int)) (A:=λs=>s=((m.filter λz=>p.Ai.getD z.2 false).length:Int)) (B:=λ(_:Unit)=>False) rfl (λj x s hx hs=>?_) λs hs=>?_).inner (λs hs=>?_) (λ_ h=>h.elim)
    ·rw[ax,bQ]at hx;obtain⟨z,hz,rfl⟩:=hx;have hzl:=hin z (ae hz);obtain⟨v,hv⟩:∃v,p.Ai[z.2]? = some v:=⟨_,ai hzl⟩;have hg:p.Ai.getD z.2 false=v:=by simp[List.getD,hv]
     have hle:((m.take j).filter λz=>p.Ai.getD z.2 false).length<=24:=aw (aV _ _) (by simp;omega);unfold Are;rw[B1 hv,Bm hz,bm];simp only[ab];refine c6 (λhq=>c7 ?_) (λhq=>c7 ?_)
     ·rw[hs,Az (by omega),aW,hg,if_pos hq];simp
     ·rw[hs,aW,hg,if_neg (ff hq)];simp
    ·rw[ar,aJ]at hs;exact hs
    ·rw[hs,hzf,Az (by omega)];refine c6 (λhc=>?_) (λ_=>c7 ⟨by omega,by omega⟩);simp only[dy]at hc;omega
   ·have hjl:=(aa.1 hj).1;rw[aI];have hcnt:cnt 0 j=(j:Int):=Cn (by omega);unfold Arh Awk;rw[(Yw h x).2 (hp.brk.mem x (ae hj)),hcnt];cases j with
    |zero=>rfl
    | succ j=>
     obtain⟨a,ha⟩:∃a,p.Al[j]? = some a:=⟨_,ai (by omega)⟩;have hlt:=hp.brk.asc j a x ha hj;have e:w64 (((j+1:Nat):Int)-1)=(j:Int):=by rw[Az (by omega)];omega
     have hpz:decide (((j+1:Nat):Int)>0)=true:=dD (by omega);have hb:Age a x=true:=by
      unfold Age;unfold K0 at hlt;simp only[az,ac,dy,dA];exact hlt
     rw[e,B1 ha,hpz];simp[As,Ef,hb]
  ·have hjl:=(aa.1 hj).1;rw[aI];have hcnt:cnt 0 j=(j:Int):=Cn (by omega);obtain⟨c,hc⟩:∃c,b.Ag[j]? = some c:=⟨_,ai (by omega)⟩;unfold Ari;rw[hcnt,B1 hc];simp only[ab];rw[bet (hp.lim j x c hj hc)];rfl
 ·have hr:=hp.run x (ae hj);unfold Arj Awl;rw[bet hr.1,bet hr.2.1,bet hr.2.2.1,bet hr.2.2.2];rfl
variable{x:Aa}
theorem Api(h:l[n]? = some x):Fa (l.take n++l.drop (n+1)) n x=l:=by
 have hn:=(aa.1 h).1;have ht:(l.take n).length=n:=by simp;omega
 unfold Fa;rw[cI (by omega),List.take_take,Nat.min_self,List.drop_append_of_le_length (by omega),List.drop_of_length_le (by omega),List.nil_append]
 conv=>rhs;rw[←bO n l]
 rw[List.drop_eq_getElem_cons hn];grind
theorem Ul(hn:n<l.length)(h:(l.take n++l.drop (n+1))[j]? = some y):(j<n/\l[j]? = some y)\/(n<=j/\l[j+1]? = some y):=by
 grind
theorem At4(h:Ax b)(hl:D8 b l)(hn:n<l.length):D8 b (l.take n++l.drop (n+1)):=by
 have hs:=H_ h hl;have hsm:∀y,y∈l->Dd y:=λy hy=>(hl.mem y hy).small h;have hlen:=hl.len;refine⟨by simp;omega,λy hy=>?_,λj y z hy hz=>?_⟩
 ·grind[D8.mem]
 ·rcases Ul hn hy with⟨a1,a2⟩|⟨a1,a2⟩ <;> rcases Ul hn hz with⟨b1,b2⟩|⟨b1,b2⟩
  ·exact hl.asc j y z a2 b2
  ·exact(Aba (hsm y (ae a2)) (hsm z (ae b2))).2 (hs j (j+1+1) y z (by omega) a2 b2)
  ·omega
  ·exact hl.asc (j+1) y z a2 b2
theorem At5(h:Ax b)(hl:D8 b l)(hx:l[n]? = some x):At (l.take n++l.drop (n+1)) x n/\(l.take n++l.drop (n+1))[n]? ≠ some x:=by
 have hs:=H_ h hl;have hn:=(aa.1 hx).1;refine⟨⟨by simp;omega,λj y hj hy=>?_,λj y hj hy=>?_⟩,λe=>?_⟩
 ·grind[Gg]
 ·grind[Gg]
 ·rcases Ul hn e with⟨a1,_⟩|⟨_,a2⟩
  ·omega
  ·have:=hs n (n+1) x x (by omega) hx a2;omega
theorem Ax2(h:Ax b)(hp:Av b p)(t:Int)(hx:Cu b x)(v:Bool):Ok (Jg ⟨b,p,t⟩ x v) (Wk b):=by
 obtain⟨n,hat⟩:=A4i h hp.brk hx;have hlen:=hp.brk.len;have hsearch:=Oj (H_ h hp.brk) (λy hy=>(hp.brk.mem y hy).small h) (hx.small h) (by omega);have hbad:∀(hv:(p.Al[n]? = some x)↔v=true),Ok (Jg ⟨b,p,t⟩ x v) (Wk b):=by
  intro hv;unfold Jg;refine hsearch.bind λy hy=>?_;obtain⟨m,e1,hat2,hf⟩:=hy;have e2:=hat.uniq hat2;subst e2;have:y.2=v:=by
   rw[cg];exact hf.trans hv
  rw[this];exact c6 (λ_=>Ok.pure (.inl (by simp))) (λhc=>by simp at hc)
 by_cases hin:p.Al[n]? = some x
 ·cases v with
  |true=>exact hbad ⟨λ_=>rfl,λ_=>hin⟩
  |false=>
   have hn:=(aa.1 hin).1;have he:=At5 h hp.brk hin;have hq:Av b ⟨p.Ai,p.Ae,p.An,p.Al.take n++p.Al.drop (n+1)⟩:={ncl:=hp.ncl,nso:=hp.nso,nli:=hp.nli,run:=hp.run,lim:=hp.lim,one:=hp.one,brk:=At4 h hp.brk hn};have:=Axn h (p:=⟨p.Ai,p.Ae,p.An,p.Al.take n++p.Al.drop (n+1)⟩) hq.brk (q:=p) hx t he.1 he.2 (by simp;omega) (Api hin).symm hp.nso;rw[this];refine Ok.pure (.inr ?_);exact Kg hq (Ud _ _ _) (Ac4 hp.run (λhk=>by have:=hp.nso;unfold Cu at hx;omega) (by omega))
 ·cases v with
  |false=>grind
  | true=>
   by_cases hl:p.Al.length<32
   ·rw[Ax3 h hp hx t hat hin hl];exact Ok.pure (.inr (Ak8 h hp hx hat hin hl))
   ·unfold Jg;refine hsearch.bind λy _=>c6 (λ_=>Ok.pure (.inl (by simp))) (λ_=>c6 (λ_=>Ok.pure (.inl (by simp))) (λhc=>?_));simp[Sf]at hc;omega
def A0s:Ad:=⟨[],[],[],[]⟩
theorem Atl(a:Aw):Ok (Amr b a) λy=>y=true->((a.Kind=1\/a.Kind=2)->Cu b ⟨2,a.Unit⟩)/\((a.Kind=3\/a.Kind=4)->Cu b ⟨1,a.Unit⟩)/\(a.Kind=5->Cu b ⟨4,a.Unit⟩)/\((a.Kind=8\/a.Kind=9)->Cu b ⟨a.Value,a.Unit⟩):=by
 unfold Amr;refine Ok.andThen (A:=λz=>z=true↔(a.Kind=1\/a.Kind=2)) (B:=λ(_:Unit)=>False) ?_ (λz hz=>?_) (λ_ h=>h.elim)
 ·unfold Ai7;refine c6 (λhk=>cY ?_) (λhk=>cY ?_)
  ·simp only[dA]at hk ⊢;omega
  ·simp only[dC,ne_eq]at hk;simp only[dA];omega
 refine c6 (λhq=>Ok.pure λhk=>?_) (λhq=>?_)
 ·have:=hz.1 hq;have hk:=(Ns b _ _).1 hk;exact⟨λ_=>hk,λe=>by omega,λe=>by omega,λe=>by omega⟩
 have hn12:¬(a.Kind=1\/a.Kind=2):=λe=>by rw[hz.2 e]at hq;cases hq
 refine Ok.andThen (A:=λz=>z=true↔(a.Kind=3\/a.Kind=4)) (B:=λ(_:Unit)=>False) ?_ (λz hz=>?_) (λ_ h=>h.elim)
 ·unfold Ai6;refine c6 (λhk=>cY ?_) (λhk=>cY ?_)
  ·simp only[dA]at hk ⊢;omega
  ·simp only[dC,ne_eq]at hk;simp only[dA];omega
 refine c6 (λhq=>Ok.pure λhk=>?_) (λhq=>?_)
 ·have:=hz.1 hq;have hk:=(Ns b _ _).1 hk;exact⟨λe=>by omega,λ_=>hk,λe=>by omega,λe=>by omega⟩
 have hn34:¬(a.Kind=3\/a.Kind=4):=λe=>by rw[hz.2 e]at hq;cases hq
 refine c6 (λhq=>Ok.pure λhk=>?_) (λhq5=>c6 (λhq=>Ok.pure λ_=>?_) (λhq6=>c6 (λhq=>Ok.pure λhk=>?_) (λhq8=>c6 (λhq=>Ok.pure λhk=>?_) (λhq9=>Ok.pure λ_=>?_))))
 ·simp only[dA]at hq;have hk:=(Ns b _ _).1 hk;exact⟨λe=>by omega,λe=>by omega,λ_=>hk,λe=>by omega⟩
 ·simp only[dA]at hq;exact⟨λe=>by omega,λe=>by omega,λe=>by omega,λe=>by omega⟩
 ·have hk:=(Ns b _ _).1 hk;simp only[dA]at hq;exact⟨λe=>by omega,λe=>by omega,λe=>by omega,λ_=>hk⟩
 ·have hk:=(Ns b _ _).1 hk;simp only[dA]at hq;exact⟨λe=>by omega,λe=>by omega,λe=>by omega,λ_=>hk⟩
 grind
theorem A35(h:Ax b)(hp:Av b p)(ht:0<=t/\t<=2147483648){a:Aw}(hk:1<=a.Kind/\a.Kind<=9)
  (hw:((a.Kind=1\/a.Kind=2)->Cu b ⟨2,a.Unit⟩)/\((a.Kind=3\/a.Kind=4)->Cu b ⟨1,a.Unit⟩)/\(a.Kind=5->Cu b ⟨4,a.Unit⟩)/\((a.Kind=8\/a.Kind=9)->Cu b ⟨a.Value,a.Unit⟩)):Ok (Z5 ⟨b,p,t⟩ a) (Wk b):=by
 obtain⟨w1,w2,w3,w4⟩:=hw;unfold Cu at w2 w3;dsimp only at w2 w3;unfold Z5;refine c6 (λ_=>(Aub h hp _).bind λy hy=>Ok.pure hy) (λq1=>?_);refine c6 (λ_=>(Axg h hp _).bind λy hy=>Ok.pure hy) (λq2=>?_);refine c6 (λ_=>(Atf h hp _ _).bind λy hy=>Ok.pure hy) (λq6=>?_);refine c6 (λq=>?_) (λq3=>?_)
 ·simp only[dA]at q;exact(Asm h hp ht (by omega) (by omega)).bind λy hy=>Ok.pure hy
 refine c6 (λq=>?_) (λq4=>?_)
 ·simp only[dA]at q;exact(Aw6 h hp (by omega) (by omega)).bind λy hy=>Ok.pure hy
 refine c6 (λq=>?_) (λq5=>?_)
 ·simp only[dA]at q;exact(Ath hp (by omega) (by omega)).bind λy hy=>Ok.pure hy
 refine c6 (λ_=>(Aw2 h hp t).bind λy hy=>Ok.pure (.inr hy)) (λq7=>?_);simp only[dC,ne_eq]at q1 q2 q3 q4 q5 q6 q7;exact(Ax2 h hp t (w4 (by omega)) _).bind λy hy=>Ok.pure hy
theorem A2r(h:Ax b)(hp:Av b p)(t:Int)(a:Aw):Ok (vM b p t a) λy=>(y.2≠0/\y.1=A0s)\/(y.2=0/\Av b y.1):=by
 unfold vM;rw[E7 h hp,Hp h hp];simp only[ab];refine c6 (λhc=>by simp at hc) (λ_=>c6 (λ_=>Ok.pure (.inl ⟨by simp,rfl⟩)) (λhr=>?_));simp only[Aqj,ba,dz]at hr;refine(Atl a).bind λy hy=>c6 (λ_=>Ok.pure (.inl ⟨by simp,rfl⟩)) (λhk=>?_);simp only[cv]at hk;refine(A35 h hp (by omega) (by omega) (hy hk)).bind λz hz=>c6 (λhc=>Ok.pure (.inl ⟨by simpa using hc,rfl⟩)) (λhc=>?_);simp only[dF]at hc;rcases hz with hz|hz
 ·exact absurd hc hz
 ·exact Ok.pure (.inr ⟨rfl,hz⟩)

abbrev Eg:=List (Ak×Bool)
def Tie(L:Eg)(i j:Nat):Prop:=∃z,z∈L/\z.1.Kind=1/\z.2=true/\((z.1.A.toNat=i/\z.1.B.toNat=j)\/(z.1.A.toNat=j/\z.1.B.toNat=i))
variable{L:Eg}{i:Nat}
theorem Tie.symm(h:Tie L i j):Tie L j i:=by
 obtain⟨z,h1,h2,h3,h4⟩:=h;exact⟨z,h1,h2,h3,h4.symm⟩
inductive D1(L:Eg)(i:Nat):Nat->Nat->Prop
 |refl:D1 L i 0 i
 |stay {r j:Nat}:D1 L i r j->D1 L i (r+1) j
 |step {r j k:Nat}:D1 L i r j->Tie L j k->D1 L i (r+1) k
def Ht(L:Eg)(i j:Nat):Prop:=∃r,D1 L i r j
theorem Ht.refl(L:Eg)(i:Nat):Ht L i i:=⟨0,.refl⟩
theorem Ht.tie{k:Nat}(h:Ht L i j)(t:Tie L j k):Ht L i k:=by
 obtain⟨r,h⟩:=h;exact⟨r+1,h.step t⟩
theorem Ht.trans{k:Nat}(h:Ht L i j)(h2:Ht L j k):Ht L i k:=by
 obtain⟨r,h2⟩:=h2;induction h2 with
 |refl=>exact h
 |stay _ ih=>exact ih
 |step _ t ih=>exact ih.tie t
theorem Ht.symm(h:Ht L i j):Ht L j i:=by
 obtain⟨r,h⟩:=h;induction h with
 |refl=>exact .refl L i
 |stay _ ih=>exact ih
 |step _ t ih=>exact(Ht.tie (.refl L _) t.symm).trans ih
theorem D1.le{s:Nat}(h:D1 L i r j)(hs:r<=s):D1 L i s j:=by
 induction s with
 |zero=>
  grind
 |succ s ih=>
  by_cases e:r=s+1
  ·subst e;exact h
  ·exact(ih (by omega)).stay
open Classical in
noncomputable def cn (p:Nat->Prop):Nat->Nat
 |0=>0
 |n+1=>cn p n+if p n then 1 else 0
theorem Awe(p:Nat->Prop):∀n,cn p n<=n
 |0=>af _
 |n+1=>by have:=Awe p n;unfold cn;split <;> omega
theorem uO{p q:Nat->Prop}:∀n,(∀k,k<n->p k->q k)->cn p n<=cn q n
 |0,_=>af _
 |n+1,h=>by
  have:=uO n λk hk=>h k (by omega);grind[cn]
theorem Alm{p q:Nat->Prop}:∀n,(∀k,k<n->p k->q k)->cn p n=cn q n->∀k,k<n->q k->p k
 |0,_,_,k,hk,_=>by omega
 | n+1,h,e,k,hk,hq=>by
  have hm:=uO n λk hk=>h k (by omega);have h1:=h n (by omega);unfold cn at e;by_cases hp:p n
  ·rw[if_pos hp,if_pos (h1 hp)]at e;by_cases ek:k=n
   ·subst ek;exact hp
   ·exact Alm n (λk hk=>h k (by omega)) (by omega) k (by omega) hq
  ·rw[if_neg hp]at e;by_cases hqn:q n
   ·rw[if_pos hqn]at e;omega
   ·rw[if_neg hqn]at e;by_cases ek:k=n
    ·subst ek;exact absurd hq hqn
    ·exact Alm n (λk hk=>h k (by omega)) (by omega) k (by omega) hq
def Zg(L:Eg)(n:Nat):Prop:=∀i j,Tie L i j->i<n/\j<n
theorem D1.lt(hL:Zg L n)(hi:i<n)(h:D1 L i r j):j<n:=by
 induction h with
 |refl=>exact hi
 |stay _ ih=>exact ih
 |step _ t _=>exact(hL _ _ t).2
theorem Y6(hL:Zg L n)(_:i<n)(h:Ht L i j):D1 L i n j:=by
 have hst:∃r,r<=n/\∀k,k<n->D1 L i (r+1) k->D1 L i r k:=by
  by_cases hex:∃r,r<=n/\∀k,k<n->D1 L i (r+1) k->D1 L i r k
  ·exact hex
  exfalso;have hgrow:∀r,r<=n->cn (D1 L i r) n<cn (D1 L i (r+1)) n:=by
   intro r hr;have hm:=uO (p:=D1 L i r) (q:=D1 L i (r+1)) n λk _ h=>h.stay;rcases Nat.lt_or_eq_of_le hm with h|h
   ·exact h
   ·exact absurd ⟨r,hr,Alm n (λk _ h=>h.stay) h⟩ hex
  have hge:∀r,r<=n+1->r<=cn (D1 L i r) n:=by
   intro r;induction r with
   |zero=>intro _;omega
   |succ r ih=>grind
  have h1:=hge (n+1) (af _);have h2:=Awe (D1 L i (n+1)) n;omega
 obtain⟨r,hr,hs⟩:=hst;obtain⟨s,h⟩:=h;have key:∀s k,D1 L i s k->D1 L i r k:=by
  intro s k h;induction h with
  |refl=>exact D1.refl.le (by omega)
  |stay _ ih=>exact ih
  |step h0 t ih=>exact hs _ (hL _ _ t).2 (ih.step t)
 exact(key s j h).le hr
def Du(b:Ab)(p:Ad):Eg:=b.Ah.zip p.Ai
theorem qD(h:Ax b)(p:Ad):Zg (Du b p) b.Am.toNat:=by
 rintro i j ⟨z,hz,hk,_,he⟩;have:=h.br z.1 (bS hz).1;unfold Sx at this;omega
theorem A46(h:i<s.length):s[i]? = some (s.getD i 0):=by
 grind
theorem T9(hi:i<s.length):(Gj s z).getD i 0=if(z.1.Kind=1/\z.2=true)/\(i=z.1.A.toNat\/i=z.1.B.toNat)then min (s.getD z.1.A.toNat 0) (s.getD z.1.B.toNat 0) else s.getD i 0:=by
 unfold Gj;grind
def Lab(L:Eg)(s:List Int):Prop:=∀i,i<s.length->Ht L (s.getD i 0).toNat i
theorem Aoy(h:Lab L s)(hz:z∈L)(hr:z.1.Kind=1->z.1.A.toNat<s.length/\z.1.B.toNat<s.length):Lab L (Gj s z):=by
 intro i hi;rw[Fo]at hi;rw[T9 hi];split
 ·rename_i hc;obtain⟨⟨hk,hv⟩,hab⟩:=hc;obtain⟨ha,hb⟩:=hr hk;have tAB:Tie L z.1.A.toNat z.1.B.toNat:=⟨z,hz,hk,hv,.inl ⟨rfl,rfl⟩⟩;have c1:=h _ ha;have c2:=h _ hb;rcases Int.le_total (s.getD z.1.A.toNat 0) (s.getD z.1.B.toNat 0) with e|e
  ·rw[Int.min_eq_left e];rcases hab with rfl|rfl
   ·exact c1
   ·exact c1.tie tAB
  ·rw[Int.min_eq_right e];rcases hab with rfl|rfl
   ·exact c2.tie tAB.symm
   ·exact c2
 ·exact h i hi
theorem Rv{L:Eg}{n:Nat}:∀(l:Eg)(s:List Int),s.length=n->(∀z,z∈l->z∈L/\(z.1.Kind=1->z.1.A.toNat<n/\z.1.B.toNat<n))->Lab L s->Lab L (Eb l s)
 | [],_,_,_,h=>h
 |z::l,s,hs,hz,h=>Rv l (Gj s z) (by rw[Fo];exact hs) (λy hy=>hz y (ak _ hy)) (Aoy h (hz z aj).1 (by grind))
theorem T_(z:Ak×Bool)(hi:i<s.length):(Gj s z).getD i 0<=s.getD i 0:=by
 rw[T9 hi];grind
theorem Rw:∀(l:Eg)(s:List Int){i:Nat},i<s.length->(Eb l s).getD i 0<=s.getD i 0
 | [],_,_,_=>Int.le_refl _
 |z::l,s,i,hi=>Int.le_trans (Rw l (Gj s z) (by rw[Fo];exact hi)) (T_ z hi)
theorem Yp:∀(l:Eg)(s:List Int){z:Ak×Bool},z∈l->z.1.Kind=1->z.2=true->z.1.A.toNat<s.length->z.1.B.toNat<s.length->∀i,i=z.1.A.toNat\/i=z.1.B.toNat->(Eb l s).getD i 0<=min (s.getD z.1.A.toNat 0) (s.getD z.1.B.toNat 0)
 | [],_,_,h,_,_,_,_,_,_=>by cases h
 | y::l,s,z,hz,hk,hv,ha,hb,i,hi=>by
  show (Eb l (Gj s y)).getD i 0<=_;have hil:i<s.length:=by rcases hi with rfl|rfl <;> assumption
  by_cases e:z=y
  ·subst e;refine Int.le_trans (Rw l _ (by rw[Fo];exact hil)) ?_;rw[T9 hil,if_pos ⟨⟨hk,hv⟩,hi⟩];exact Int.le_refl _
  ·have hz':z∈l:=by
    grind
   refine Int.le_trans (Yp l (Gj s y) hz' hk hv (by rw[Fo];exact ha) (by rw[Fo];exact hb) i hi) ?_;have h1:=T_ y ha;have h2:=T_ y hb;omega
theorem Lx(h:i<n):(Dk n).getD i 0=(i:Int):=by
 grind[Dk]
theorem Ak1(hL:Zg L n):∀r i j,i<n->j<n->D1 L j r i->((List.range r).foldl (λs _=>Eb L s) (Dk n)).getD i 0<=(j:Int):=by
 intro r;have hlen:∀r,((List.range r).foldl (λs _=>Eb L s) (Dk n)).length=n:=by
  intro r;induction r with
  |zero=>simp[Dk]
  |succ r ih=>rw[cd,bc];simp only[bu,List.foldl_nil,Gn];exact ih
 induction r with
 |zero=>
  intro i j hi hj h;cases h;show (Dk n).getD i 0<=_;rw[Lx hi];exact Int.le_refl _
 | succ r ih=>
  intro i j hi hj h;have hrl:=hlen r;rw[cd,bc];simp only[bu,List.foldl_nil];generalize (List.range r).foldl (λs _=>Eb L s) (Dk n)=s at *;cases h with
  |stay h=>exact Int.le_trans (Rw L s (by omega)) (ih i j hi hj h)
  |step h t=>
   rename_i k;have hk:=hL _ _ t;have h1:=ih k j hk.1 hj h;obtain⟨z,hz,hz1,hz2,he⟩:=t;have hA:z.1.A.toNat<s.length:=by omega
   have hB:z.1.B.toNat<s.length:=by omega
   have h2:=Yp L s hz hz1 hz2 hA hB i (by omega);grind
theorem Yn(h:Ax b)(p:Ad)(hi:i<b.Am.toNat)(hj:j<b.Am.toNat):(groups b p).getD i 0=(groups b p).getD j 0↔Ht (Du b p) i j:=by
 have hL:=qD h p;have hlen:=Jk b p;have hlab:Lab (Du b p) (groups b p):=by
  have hz:∀z,z∈Du b p->z∈Du b p/\(z.1.Kind=1->z.1.A.toNat<b.Am.toNat/\z.1.B.toNat<b.Am.toNat):=by
   intro z hz;refine⟨hz,λhk=>?_⟩;have:=h.br z.1 (bS hz).1;unfold Sx at this;omega
  have key:∀(xs:List Nat)(s:List Int),s.length=b.Am.toNat->Lab (Du b p) s->Lab (Du b p) (xs.foldl (λs _=>Eb (b.Ah.zip p.Ai) s) s):=by
   intro xs;induction xs with
   |nil=>intro s _ h;exact h
   |cons x xs ih=>intro s hl h;exact ih _ (by rw[Gn];exact hl) (Rv _ s hl hz h)
  refine key _ _ (by simp[Dk]) ?_;intro k hk;have hk':k<b.Am.toNat:=by simpa[Dk]using hk
  rw[Lx hk'];exact .refl _ k
 have hlow:∀i j,i<b.Am.toNat->j<b.Am.toNat->Ht (Du b p) j i->(groups b p).getD i 0<=(j:Int):=λi j hi hj hc=>Ak1 hL _ i j hi hj (Y6 hL hj hc);have hlo:=Ua h p;have hrange:∀i,i<b.Am.toNat->0<=(groups b p).getD i 0/\((groups b p).getD i 0).toNat<b.Am.toNat:=by
  grind
 constructor
 ·intro e;have c1:=hlab i (by omega);have c2:=hlab j (by omega);rw[e]at c1;exact c1.symm.trans c2
 ·intro hc;have r1:=hrange i hi;have r2:=hrange j hj;have c1:=hlab i (by omega);have c2:=hlab j (by omega);have l1:=hlow j _ hj r1.2 (c1.trans hc);have l2:=hlow i _ hi r2.2 (c2.trans hc.symm);omega
def G5(s:List Bool)(z:Ak×Bool):List Bool:=
 if(z.1.Kind=1/\z.2=true)/\(s.getD z.1.A.toNat false || s.getD z.1.B.toNat false)=true then (s.set z.1.A.toNat true).set z.1.B.toNat true else s
theorem F_(s:List Bool)(z:Ak×Bool):(G5 s z).length=s.length:=by unfold G5;split <;> simp
def Hu(L:Eg)(s:List Bool):List Bool:=L.foldl G5 s
theorem Mg:∀(l:Eg)(s:List Bool),(Hu l s).length=s.length
 | [],_=>rfl
 |z::l,s=>by show (Hu l (G5 s z)).length=_;rw[Mg l,F_]
variable{s:List Bool}
theorem A4m(hi:i<s.length):(s.set m true).getD i false=(decide (m=i) || s.getD i false):=by
 grind
theorem Lv(hi:i<s.length):(G5 s z).getD i false=true↔s.getD i false=true\/(((z.1.Kind=1/\z.2=true)/\(s.getD z.1.A.toNat false || s.getD z.1.B.toNat false)=true)/\(i=z.1.A.toNat\/i=z.1.B.toNat)):=by
 unfold G5;grind
def Got(L:Eg)(n:Nat)(s:List Bool):Prop:=∀i,i<s.length->s.getD i false=true->Ht L n i
theorem An7(h:Got L n s)(hz:z∈L)(hr:z.1.Kind=1->z.1.A.toNat<s.length/\z.1.B.toNat<s.length):Got L n (G5 s z):=by
 intro i hi e;rw[F_]at hi;rcases(Lv hi).1 e with e|⟨⟨⟨hk,hv⟩,ho⟩,hab⟩
 ·exact h i hi e
 ·obtain⟨ha,hb⟩:=hr hk;have t:Tie L z.1.A.toNat z.1.B.toNat:=⟨z,hz,hk,hv,.inl ⟨rfl,rfl⟩⟩;simp only[az]at ho;rcases ho with ho|ho
  ·have c:=h _ ha ho;rcases hab with rfl|rfl
   ·exact c
   ·exact c.tie t
  ·have c:=h _ hb ho;rcases hab with rfl|rfl
   ·exact c.tie t.symm
   ·exact c
theorem Yh{L:Eg}{n m:Nat}:∀(l:Eg)(s:List Bool),s.length=m->(∀z,z∈l->z∈L/\(z.1.Kind=1->z.1.A.toNat<m/\z.1.B.toNat<m))->Got L n s->Got L n (Hu l s)
 | [],_,_,_,h=>h
 |z::l,s,hs,hz,h=>Yh l (G5 s z) (by rw[F_];exact hs) (λy hy=>hz y (ak _ hy)) (An7 h (hz z aj).1 (by grind))
theorem Rb:∀(l:Eg)(s:List Bool){i:Nat},i<s.length->s.getD i false=true->(Hu l s).getD i false=true
 | [],_,_,_,h=>h
 |z::l,s,_,hi,h=>Rb l (G5 s z) (by rw[F_];exact hi) ((Lv hi).2 (.inl h))
theorem Yg:∀(l:Eg)(s:List Bool){z:Ak×Bool},z∈l->z.1.Kind=1->z.2=true->z.1.A.toNat<s.length->z.1.B.toNat<s.length->(s.getD z.1.A.toNat false || s.getD z.1.B.toNat false)=true->∀i,i=z.1.A.toNat\/i=z.1.B.toNat->(Hu l s).getD i false=true
 | [],_,_,h,_,_,_,_,_,_,_=>by cases h
 | y::l,s,z,hz,hk,hv,ha,hb,ho,i,hi=>by
  show (Hu l (G5 s y)).getD i false=true;have hil:i<s.length:=by rcases hi with rfl|rfl <;> assumption
  by_cases e:z=y
  ·subst e;exact Rb l _ (by rw[F_];exact hil) ((Lv hil).2 (.inr ⟨⟨⟨hk,hv⟩,ho⟩,hi⟩))
  ·have hz':z∈l:=by
    grind
   refine Yg l (G5 s y) hz' hk hv (by rw[F_];exact ha) (by rw[F_];exact hb) ?_ i hi;simp only[az]at ho ⊢;exact ho.imp (λe=>(Lv ha).2 (.inl e)) (λe=>(Lv hb).2 (.inl e))
def Lw(L:Eg)(r:Nat)(s:List Bool):List Bool:=(List.range r).foldl (λs _=>Hu L s) s
theorem Ll(L:Eg)(r:Nat)(s:List Bool):Lw L (r+1) s=Hu L (Lw L r s):=by
 unfold Lw;rw[cd,bc];rfl
theorem Iu(L:Eg)(s:List Bool):∀r,(Lw L r s).length=s.length
 |0=>rfl
 |r+1=>by rw[Ll,Mg,Iu L s r]
theorem Akc(hL:Zg L m)(hs:s.length=m)(hn:s.getD n false=true):∀r i,i<m->D1 L n r i->(Lw L r s).getD i false=true:=by
 intro r;induction r with
 |zero=>intro i _ h;cases h;exact hn
 | succ r ih=>
  intro i hi h;rw[Ll];have hl:=Iu L s r;cases h with
  |stay h=>exact Rb L _ (by omega) (ih i hi h)
  |step h t=>
   rename_i k;have hk:=hL _ _ t;have h1:=ih k hk.1 h;obtain⟨z,hz,hz1,hz2,he⟩:=t;refine Yg L _ hz hz1 hz2 (by omega) (by omega) ?_ i (by omega);grind
def Kj(b:Ab)(p:Ad)(n:Nat):List Int:=((List.range b.Am.toNat).filter λi=>(groups b p).getD i 0==(groups b p).getD n 0).map λ(i:Nat)=>(i:Int)
theorem Asu(h:Ax b)(hp:Av b p)(hn:n<b.Am.toNat):Amy b p (n:Int)=some (Kj b p n):=by
 have hbu:=h.buses;have hbl:=h.brl;have hncl:=hp.ncl;have hL:=qD h p;refine cU ?_;unfold Amy;refine(Ok.mkI (by omega) (by omega)).bind λy hy=>?_;have hyl:y.length=b.Am.toNat:=by rw[hy];simp
 refine(cZ (by omega) (by omega)).bind λ_ _=>(cT (by omega) (by omega)).bind λz hz=>?_;rw[aE]at hz;have hzl:z.length=b.Am.toNat:=by rw[hz];simpa using hyl
 have hzn:z.getD n false=true:=by rw[hz];simp[List.getD,hyl,hn]
 have hzg:Got (Du b p) n z:=by
  intro i hi e;have hiy:i<y.length:=by omega
  rw[hz,A4m hiy]at e;simp only[az,dy]at e;rcases e with e|e
  ·subst e;exact .refl _ _
  ·rw[hy]at e;simp[List.getD,show i<b.Am.toNat by omega]at e
 clear hz;refine Ok.andThen (A:=λs=>s=Lw (Du b p) b.Am.toNat z) (B:=λ(_:Unit)=>False) ?_ (λs hs=>?_) (λ_ h=>h.elim)
 ·refine c8 (I:=λj s=>s=Lw (Du b p) j z) rfl (λj x s hx hs=>?_) λs hs=>by rw[hs,hzl]
  unfold Ajl;have hsl:s.length=b.Am.toNat:=by rw[hs,Iu,hzl]
  refine(c8 (I:=λk r=>r=Hu ((Du b p).take k) s) (A:=λr=>r=Hu (Du b p) s) (B:=λ(_:Unit)=>False) rfl (λk u r hu hr=>?_) λr hr=>?_).inner (λr hr=>c7 (by rw[hr,hs,Ll])) (λ_ h=>h.elim)
  ·have hk:=(aa.1 hu).1;have hcnt:cnt 0 k=(k:Int):=Cn (by omega);have hrl:r.length=b.Am.toNat:=by rw[hr,Mg,hsl]
   obtain⟨⟨a0,a1⟩,hkind⟩:=h.br u (ae hu);obtain⟨v,hv⟩:∃v,p.Ai[k]? = some v:=⟨_,ai (by omega)⟩;have hzk:(Du b p)[k]? = some (u,v):=by unfold Du;rw[List.getElem?_zip_eq_some];exact⟨hu,hv⟩
   have hnext:Hu ((Du b p).take (k+1)) s=G5 r (u,v):=by
    rw[Bm hzk,Hu,bc,hr];rfl
   rw[hnext];have hB:u.Kind=1->0<=u.B/\u.B<b.Am:=λe=>by omega
   unfold Ajk;rw[hcnt,B1 hv];by_cases k1:u.Kind=1
   ·have h2:=hB k1;obtain⟨ga,hga⟩:∃ga,r[u.A.toNat]? = some ga:=⟨_,ai (by omega)⟩;obtain⟨gb,hgb⟩:∃gb,r[u.B.toNat]? = some gb:=⟨_,ai (by omega)⟩;have hda:r.getD u.A.toNat false=ga:=by simp[List.getD,hga]
    have hdb:r.getD u.B.toNat false=gb:=by simp[List.getD,hgb]
    have ea:getI r u.A=some ga:=by have:=B1 hga;rwa [bA a0]at this
    have eb:getI r u.B=some gb:=by have:=B1 hgb;rwa [bA h2.1]at this
    rw[dA.2 k1];refine Ok.bind (P:=λw=>w=v) (c9 (λ_=>Ok.pure rfl) λhn=>(hn ⟨rfl,trivial⟩).elim) λw hw=>?_;subst hw;cases w with
    |false=>
     refine Ok.bind (P:=λ_=>True) (d4 (λ_=>cZ a0 (by omega)) λ_=>trivial) λ_ _=>?_;refine Ok.bind (P:=λ_=>True) (d4 (λ_=>cZ h2.1 (by omega)) λ_=>trivial) λ_ _=>?_;refine c6 (λhq=>by simp[Uu]at hq) (λ_=>c7 ?_);unfold G5;rw[if_neg (by simp)]
    | true=>
     rw[ea,eb];refine Ok.bind (P:=λw=>w=ga) (c9 (λ_=>Ok.pure rfl) λhn=>(hn ⟨rfl,trivial⟩).elim) λw hw=>?_;subst hw;refine Ok.bind (P:=λx=>(w || x)=(w || gb)) (c9 (λ_=>Ok.pure rfl) λhn=>?_) λx hx=>?_
     ·cases w with
      |true=>rfl
      |false=>exact(hn ⟨rfl,rfl,trivial⟩).elim
     have hc8:Uu u true w x=(w || gb):=by
      unfold Uu;rw[hx,dA.2 k1];rfl
     rw[hc8];refine c6 (λhq=>?_) (λhq=>c7 ?_)
     ·refine Ok.bind (P:=λ_=>True) (d8 rfl) λ_ _=>(cT a0 (by omega)).bind λr1 e1=>?_;refine(cZ h2.1 (by rw[e1];simp;omega)).bind λ_ _=>(cT h2.1 (by rw[e1];simp;omega)).bind λr2 e2=>c7 ?_;rw[e2,e1];unfold G5;rw[if_pos ⟨⟨k1,rfl⟩,by rw[hda,hdb];exact hq⟩]
     ·unfold G5;rw[if_neg (λe=>by have:=e.2;rw[hda,hdb,hq]at this;cases this)]
   ·have k0:(u.Kind==1)=false:=dC.2 k1;rw[k0];refine Ok.bind (P:=λ_=>True) (c9 (λhg=>absurd hg.1 (by simp)) λ_=>trivial) λy7 _=>?_;refine Ok.bind (P:=λ_=>True) (c9 (λhg=>absurd hg.1 (by simp)) λ_=>trivial) λy9 _=>?_;refine Ok.bind (P:=λ_=>True) (c9 (λhg=>absurd hg.1 (by simp)) λ_=>trivial) λy11 _=>?_;refine c6 (λhq=>by simp[Uu,k0]at hq) (λ_=>c7 ?_);unfold G5;rw[if_neg (λe=>k1 e.1.1)]
  ·have:b.Ah.length=(Du b p).length:=by unfold Du;rw[List.length_zip];omega
   rw[hr,this,aJ]
 ·have hsl:s.length=b.Am.toNat:=by rw[hs,Iu,hzl]
  have hval:∀i,i<b.Am.toNat->s.getD i false=((groups b p).getD i 0==(groups b p).getD n 0):=by
   intro i hi;rw[cg,dA,Yn h p hi hn];have hg:∀r,Got (Du b p) n (Lw (Du b p) r z):=by
    intro r;induction r with
    |zero=>exact hzg
    |succ r ih=>
     rw[Ll];refine Yh (m:=b.Am.toNat) _ _ (by rw[Iu,hzl]) (λy hy=>⟨hy,λhk=>?_⟩) ih;have:=h.br y.1 (bS hy).1;unfold Sx at this;omega
   constructor
   ·intro e;rw[hs]at e;exact(hg _ i (by rw[Iu,hzl];exact hi) e).symm
   ·intro c;rw[hs];exact Akc hL hzl hzn _ i hi (Y6 hL hn c.symm)
  refine Ok.andThen (A:=λy=>y=Kj b p n) (B:=λ(_:Unit)=>False) ?_ (λy hy=>Ok.pure hy) (λ_ h=>h.elim);refine c8 (I:=λj y=>y=((List.range j).filter λi=>(groups b p).getD i 0==(groups b p).getD n 0).map λ(i:Nat)=>(i:Int)) rfl (λj x y hx hy=>?_) λy hy=>?_
  ·have hj:=(aa.1 hx).1;have hcnt:cnt 0 j=(j:Int):=Cn (by omega);have hv:=hval j (by omega);have hxd:s.getD j false=x:=by simp[List.getD,hx]
   rw[hxd]at hv;have hyl2:y.length<=j:=by rw[hy];exact Fb _ j
   rw[Gv,←hy];unfold Ajj;refine c6 (λhq=>?_) (λhq=>c7 ?_)
   ·refine(cQ (by simp;omega)).bind λw hw=>c7 ?_;rw[hw,hcnt,if_pos (by rw[←hv];exact hq)]
   ·rw[if_neg (by rw[←hv,hq];simp),aX]
  ·rw[hy,hsl];rfl
def ofZ(b:Ab)(k i:Int):List (Ak×Nat):=b.Ah.zipIdx.filter λz=>z.1.Kind==k&&z.1.B==i
theorem Akn(hk:k≠1)(i:Int):(ofL b λx=>Kx k i x)=(ofZ b k i).map λz=>(z.2:Int):=by
 unfold ofL ofZ;congr 1;exact List.filter_congr λz _=>Asw k hk i z.1
variable{z:Ak×Nat}{i:Int}
theorem qO(h:z∈ofZ b k i):b.Ah[z.2]? = some z.1:=by
 have:=(ay.1 h).1;grind
theorem Abk(q:Ak->Bool)(C:List Bool):∀(l:List Ak)(c:List Bool)(k:Nat),C.drop k=c->l.length=c.length ->
  (((l.zipIdx k).filter λz=>q z.1).find? λz=>C.getD z.2 false).map (·.1)=((l.zip c).find? λz=>q z.1&&z.2).map (·.1)
 | [],_,_,_,_=>by simp
 |x::l,[],_,_,h=>by simp at h
 | x::l,v::c,k,hd,h=>by
  have hv:C[k]? = some v:=by
   have:=congrArg (·[0]?) hd;simpa[List.getElem?_drop]using this
  have hd':C.drop (k+1)=c:=by rw[←bK,hd];rfl
  have ih:=Abk q C l c (k+1) hd' (by simpa using h);have hg:C.getD k false=v:=by simp[List.getD,hv]
  simp only[List.zipIdx_cons,aW,b9,List.find?_cons];grind
theorem Aor(hc:p.Ai.length=b.Ah.length)(k i:Int):Fl b p k i=((ofZ b k i).find? λz=>p.Ai.getD z.2 false).map (·.1.A):=by
 have:=Abk (λx=>x.Kind==k&&x.B==i) p.Ai b.Ah p.Ai 0 rfl (by omega);unfold Fl ofZ;have h2:=congrArg (Option.map (·.A)) this;simp only[Option.map_map]at h2;exact h2.symm
theorem Y7(hc:p.Ai.length=b.Ah.length)(h:z∈ofZ b k i):p.Ai[z.2]? = some (p.Ai.getD z.2 false):=by
 have:=(aa.1 (qO h)).1;grind
theorem uL(h:Ax b)(hp:Av b p)(i:Int):X5 b p i=some (Fp (Hd b p i)):=by
 have hn:=hp.nso;have hc:=hp.ncl;refine cU ?_;unfold X5;rw[Np h hp];simp only[ab];by_cases hi:0<=i/\i<b.Ae.length
 ·obtain⟨x,hx⟩:∃x,p.Ae[i.toNat]? = some x:=⟨_,ai (by omega)⟩;have hg:getI p.Ae i=some x:=by have:=B1 hx;rwa [bA hi.1]at this
  have hd:p.Ae.getD i.toNat default=x:=by simp[List.getD,hx]
  have hcond:((((0:Int) != 0) || (decide (i<0))) || (decide (i>=(b.Ae.length:Int))))=false:=by
   rw[cy];intro e;simp at e;omega
  rw[hcond,hg];refine Ok.bind (P:=λy=>y=x) (c9 (λ_=>Ok.pure rfl) λhn=>(hn ⟨rfl,trivial⟩).elim) λy hy=>?_;subst hy;refine c6 (λhq=>Ok.pure ?_) (λhq=>?_)
  ·simp only[Zc,hcond,aT,bne_iff_ne,ne_eq]at hq;unfold Hd;rw[if_neg (λe=>by rw[hd]at e;exact hq e.2.2)];rfl
  ·simp only[Zc,hcond,aT,dF]at hq;have hcon:Hd b p i=Fl b p 2 i:=by
    unfold Hd;rw[if_pos ⟨hi.1,by omega,by rw[hd];exact hq⟩]
   rw[Ab7 h,Akn (by decide),hcon,Aor hc];simp only[ab];obtain⟨n,rfl⟩:∃n:Nat,i=(n:Int):=⟨i.toNat,by omega⟩;have hlen:=qP (b:=b) (k:=2) (by decide) n;rw[Akn (by decide),h.one n (by omega),ar]at hlen;obtain⟨z,hz⟩:=List.length_eq_one_iff.1 hlen;have hzm:z∈ofZ b 2 (n:Int):=by rw[hz];exact aj
   have hcz:=Y7 hc hzm;have hbz:=qO hzm;rw[hz];show Ok ((getI [(z.2:Int)] 0).bind _) _;rw[show getI [(z.2:Int)] 0=some (z.2:Int) from rfl];simp only[ab,B1 hcz,List.find?_cons,List.find?_nil];cases hv:p.Ai.getD z.2 false with
   |false=>exact Ok.pure rfl
   |true=>
    simp only[aP,cond_false,B1 hbz,ab];exact Ok.pure rfl
 ·refine Ok.bind (P:=λ_=>True) (c9 (λhg=>?_) λ_=>trivial) λy _=>?_
  ·have:=hg.1;simp at this;omega
  refine c6 (λhq=>Ok.pure ?_) (λhq=>?_)
  ·unfold Hd;rw[if_neg (λe=>hi (by omega))];rfl
  ·simp[Zc]at hq;omega
theorem At3(h:Ax b)(hp:Av b p)(h0:0<=i)(h1:i<b.Ag.length):Af4 b p i=some (Fp (Fl b p 3 i)):=by
 have hc:=hp.ncl;refine cU ?_;unfold Af4;rw[Np h hp];simp only[ab];refine c6 (λhq=>?_) (λ_=>?_)
 ·simp[Aqg]at hq;omega
 rw[Ab7 h,Akn (by decide),Aor hc];simp only[ab];have key:∀(m:List (Ak×Nat))(k:Nat),(∀z,z∈m->b.Ah[z.2]? = some z.1/\p.Ai[z.2]? = some (p.Ai.getD z.2 false)) ->
   foldI (vL b p) (m.map λz=>(z.2:Int)) k ()=match m.find? λz=>p.Ai.getD z.2 false with
    |some z=>some (.ret (z.1.A,true))
    |none=>some (.next ()):=by
  intro m;induction m with
  |nil=>intro k _;rfl
  |cons z m ih=>
   intro k hm;obtain⟨e1,e2⟩:=hm z aj;simp only[bq,foldI,vL,B1 e1,B1 e2,ab,List.find?_cons];grind
 rw[key _ 0 λz hz=>⟨qO hz,Y7 hc hz⟩];cases (ofZ b 3 i).find? λz=>p.Ai.getD z.2 false with
 |none=>exact Ok.pure rfl
 |some z=>exact Ok.pure rfl
theorem Aow(l:List Int)(x:Int):Pn l x=some (l.any (· == x)):=by
 unfold Pn;have:∀(l:List Int)(k:Nat),foldI (vK x) l k ()=bif l.any (· == x)then some (.ret true) else some (.next ()):=by
  intro l;induction l with
  |nil=>intro k;rfl
  |cons y l ih=>
   grind[foldI,vK]
 grind[andThen]
theorem Abq(h0:0<=a)(h1:a<b.Am):(Kj b p n).any (· == a)=((groups b p).getD a.toNat 0==(groups b p).getD n 0):=by
 rw[cg,List.any_eq_true];constructor
 ·rintro⟨x,hx,e⟩;rw[dA]at e;subst e;obtain⟨i,hi,rfl⟩:=an.1 hx;grind
 ·intro e;refine⟨a,an.2 ⟨a.toNat,ay.2 ⟨be.2 (by omega),e⟩,by omega⟩,by simp⟩
theorem J8(h:Ax b)(p:Ad)(hn:n<b.Am.toNat):0<=(groups b p).getD n 0/\((groups b p).getD n 0).toNat<=n/\(((groups b p).getD n 0).toNat:Int)=(groups b p).getD n 0:=by
 have:=Ua h p n _ (A46 (by rw[Jk];exact hn));omega
theorem Axj(h:Ax b)(hp:Av b p)(hn:n<b.Am.toNat):Po b p (n:Int)=some (isl b p ((groups b p).getD n 0).toNat,true):=by
 have hso:=h.sol;have hco:=h.col;have hg:=J8 h p hn;refine cU ?_;unfold Po;rw[Np h hp];simp only[ab];refine c6 (λhc=>?_) (λ_=>?_)
 ·simp[Aqt]at hc;omega
 rw[Asu h hp hn];simp only[ab];refine Ok.andThen (A:=λs=>s.2=Gs b p b.Ae.length ((groups b p).getD n 0).toNat) (B:=λ(_:Unit)=>False) ?_ (λs hs=>?_) (λ_ h=>h.elim)
 ·refine cO (λs=>(0<=s.1/\s.1<=(b.Ae.length:Int))/\s.2=Gs b p s.1.toNat ((groups b p).getD n 0).toNat) (λs=>((b.Ae.length:Int)-s.1).toNat) _ _ ?_ ?_ ?_
  ·exact⟨by dsimp only;omega,rfl⟩
  ·dsimp only;omega
  ·rintro⟨i,s⟩ ⟨⟨g1,g2⟩,g3⟩;dsimp only at g1 g2 g3;unfold Ajx Aqs;dsimp only;have hsl:s.length<=i.toNat:=by rw[g3];exact Fb _ _
   refine c6 (λhq=>?_) (λhq=>cS ?_)
   ·simp only[dy]at hq;have e1:w64 (i+1)=i+1:=Az (by omega);have e2:(i+1).toNat=i.toNat+1:=by omega
    have e3:((i.toNat:Nat):Int)=i:=by omega
    rw[e1,uL h hp];simp only[ab,Aow];have hnext:Gs b p (i.toNat+1) ((groups b p).getD n 0).toNat=s++if(G6 b p (Hd b p i)==some (((groups b p).getD n 0).toNat:Int))=true then [i] else []:=by
     unfold Gs at g3 ⊢;rw[Gv,←g3,e3]
    have hskip:(G6 b p (Hd b p i)==some (((groups b p).getD n 0).toNat:Int))=false->Ok (some (.next (i+1,s)):Option (Ctl (Int×List Int) Unit)) (Hg (λs'=>((0<=s'.1/\s'.1<=(b.Ae.length:Int))/\s'.2=Gs b p s'.1.toNat ((groups b p).getD n 0).toNat)/\((b.Ae.length:Int)-s'.1).toNat<((b.Ae.length:Int)-i).toNat) (λs=>s.2=Gs b p b.Ae.length ((groups b p).getD n 0).toNat) (λ_=>False)):=by
     intro hf;refine c7 ⟨⟨by dsimp only;omega,?_⟩,by dsimp only;omega⟩;dsimp only;rw[e2,hnext,hf];simp
    cases hco:Hd b p i with
    |none=>
     refine Ok.bind (P:=λ_=>True) (c9 (λhg=>absurd hg.1 (by simp[Fp])) λ_=>trivial) λy _=>?_;refine c6 (λhq=>by simp[Fp]at hq) (λ_=>hskip (by rw[hco];rfl))
    | some a=>
     have ha:=Ado h hco;refine Ok.bind (P:=λy=>y=(Kj b p n).any (· == a)) (c9 (λ_=>Ok.pure rfl) λhn=>(hn ⟨rfl,trivial⟩).elim) λy hy=>?_;rw[Abq ha.1 ha.2]at hy;have hgr:(G6 b p (Hd b p i)==some (((groups b p).getD n 0).toNat:Int))=((groups b p).getD a.toNat 0==(groups b p).getD n 0):=by
      rw[hco,hg.2.2];rfl
     refine c6 (λhq=>?_) (λhq=>?_)
     ·simp only[Fp,bt]at hq;refine(cQ (by simp;omega)).bind λw hw=>c7 ⟨⟨by dsimp only;omega,?_⟩,by dsimp only;omega⟩;dsimp only;rw[e2,hnext,hgr,←hy,hq,hw];rfl
     ·simp only[Fp,bt]at hq;exact hskip (by rw[hgr,←hy,hq])
   ·simp only[dz]at hq;dsimp only;rw[g3];have:i.toNat=b.Ae.length:=by omega
    rw[this]
 ·refine Ok.andThen (A:=λs=>s.2=Hv b p b.Ag.length ((groups b p).getD n 0).toNat) (B:=λ(_:Unit)=>False) ?_ (λt ht=>Ok.pure ?_) (λ_ h=>h.elim)
  ·refine cO (λs=>(0<=s.1/\s.1<=(b.Ag.length:Int))/\s.2=Hv b p s.1.toNat ((groups b p).getD n 0).toNat) (λs=>((b.Ag.length:Int)-s.1).toNat) _ _ ?_ ?_ ?_
   ·exact⟨by dsimp only;omega,rfl⟩
   ·dsimp only;omega
   ·rintro⟨i,s⟩ ⟨⟨g1,g2⟩,g3⟩;dsimp only at g1 g2 g3;unfold Ajw Aqr;dsimp only;have hsl:s.length<=i.toNat:=by rw[g3];exact Fb _ _
    refine c6 (λhq=>?_) (λhq=>cS ?_)
    ·simp only[dy]at hq;have e1:w64 (i+1)=i+1:=Az (by omega);have e2:(i+1).toNat=i.toNat+1:=by omega
     have e3:((i.toNat:Nat):Int)=i:=by omega
     rw[e1,At3 h hp g1 hq];simp only[ab,Aow];have hnext:Hv b p (i.toNat+1) ((groups b p).getD n 0).toNat=s++if(G6 b p (Fl b p 3 i)==some (((groups b p).getD n 0).toNat:Int))=true then [i] else []:=by
      unfold Hv at g3 ⊢;rw[Gv,←g3,e3]
     have hskip:(G6 b p (Fl b p 3 i)==some (((groups b p).getD n 0).toNat:Int))=false->Ok (some (.next (i+1,s)):Option (Ctl (Int×List Int) Unit)) (Hg (λs'=>((0<=s'.1/\s'.1<=(b.Ag.length:Int))/\s'.2=Hv b p s'.1.toNat ((groups b p).getD n 0).toNat)/\((b.Ag.length:Int)-s'.1).toNat<((b.Ag.length:Int)-i).toNat) (λs=>s.2=Hv b p b.Ag.length ((groups b p).getD n 0).toNat) (λ_=>False)):=by
      intro hf;refine c7 ⟨⟨by dsimp only;omega,?_⟩,by dsimp only;omega⟩;dsimp only;rw[e2,hnext,hf];simp
     cases hco:Fl b p 3 i with
     |none=>
      refine Ok.bind (P:=λ_=>True) (c9 (λhg=>absurd hg.1 (by simp[Fp])) λ_=>trivial) λy _=>?_;refine c6 (λhq=>by simp[Fp]at hq) (λ_=>hskip (by rw[hco];rfl))
     | some a=>
      have ha:=Rl h hco;refine Ok.bind (P:=λy=>y=(Kj b p n).any (· == a)) (c9 (λ_=>Ok.pure rfl) λhn=>(hn ⟨rfl,trivial⟩).elim) λy hy=>?_;rw[Abq ha.1 ha.2]at hy;have hgr:(G6 b p (Fl b p 3 i)==some (((groups b p).getD n 0).toNat:Int))=((groups b p).getD a.toNat 0==(groups b p).getD n 0):=by
       rw[hco,hg.2.2];rfl
      refine c6 (λhq=>?_) (λhq=>?_)
      ·simp only[Fp,bt]at hq;refine(cQ (by simp;omega)).bind λw hw=>c7 ⟨⟨by dsimp only;omega,?_⟩,by dsimp only;omega⟩;dsimp only;rw[e2,hnext,hgr,←hy,hq,hw];rfl
      ·simp only[Fp,bt]at hq;exact hskip (by rw[hgr,←hy,hq])
    ·simp only[dz]at hq;dsimp only;rw[g3];have:i.toNat=b.Ag.length:=by omega
     rw[this]
  ·rw[hs,ht];unfold isl Fc Kj;rw[hg.2.2]
def Il(b:Ab)(p:Ad)(f:Nat):Bool:=(groups b p).getD f 0==(f:Int)
theorem Ld(h:Ax b)(p:Ad)(hn:n<b.Am.toNat):Il b p ((groups b p).getD n 0).toNat=true:=by
 have hg:=J8 h p hn;unfold Il;rw[dA,hg.2.2];have hm:((groups b p).getD n 0).toNat<b.Am.toNat:=by omega
 have hL:=qD h p;have hself:Ht (Du b p) ((groups b p).getD n 0).toNat n:=by
  have hlab:∀(xs:List Nat)(s:List Int),s.length=b.Am.toNat->Lab (Du b p) s->Lab (Du b p) (xs.foldl (λs _=>Eb (b.Ah.zip p.Ai) s) s):=by
   intro xs;induction xs with
   |nil=>intro s _ h;exact h
   |cons x xs ih=>
    intro s hl h2;refine ih _ (by rw[Gn];exact hl) (Rv _ s hl (λz hz=>⟨hz,λhk=>?_⟩) h2);have:=h.br z.1 (bS hz).1;unfold Sx at this;omega
  refine hlab (List.range b.Am.toNat) (Dk b.Am.toNat) (by simp[Dk]) ?_ n ?_
  ·intro k hk;rw[Lx (by simpa[Dk]using hk)];exact .refl _ k
  ·have:=Jk b p;unfold groups at this;rw[this];exact hn
 exact(Yn h p hm hn).2 hself
theorem Aty(h:Ax b)(p:Ad)(hf:f<b.Am.toNat):Jv (isl b p f)=Il b p f:=by
 rw[cg];unfold Jv isl Fc;simp only[aU,dC,ne_eq,ar];constructor
 ·intro e;have hne:(List.range b.Am.toNat).filter (λi=>(groups b p).getD i 0==(f:Int))≠[]:=λe2=>e (by rw[e2];rfl);obtain⟨i,hi⟩:=List.exists_mem_of_ne_nil _ hne;obtain⟨h1,h2⟩:=ay.1 hi;rw[dA]at h2;have:=Ld h p (be.1 h1);grind
 ·intro e e2;have hm:f∈(List.range b.Am.toNat).filter (λi=>(groups b p).getD i 0==(f:Int)):=ay.2 ⟨be.2 hf,e⟩;grind
def Lm(b:Ab)(p:Ad)(n:Nat):List Nat:=(List.range n).filter (Il b p)
theorem Jj(h:Ax b)(p:Ad):Cd b p=(Lm b p b.Am.toNat).map (isl b p):=by
 unfold Cd Lm;rw[List.filter_map];congr 1;exact List.filter_congr λf hf=>Aty h p (be.1 hf)
theorem An6(h:Ax b)(p:Ad)(hn:n<b.Am.toNat):∃m:Nat,(Kj b p n)[0]? = some (m:Int)/\(m=n↔Il b p n=true):=by
 have hg:=J8 h p hn;have hm:((groups b p).getD n 0).toNat<b.Am.toNat:=by omega
 have hgg:=Ld h p hn;unfold Il at hgg;rw[dA,hg.2.2]at hgg;have hfind:(List.range b.Am.toNat).find? (λi=>(groups b p).getD i 0==(groups b p).getD n 0)=some ((groups b p).getD n 0).toNat:=by
  rw[List.find?_range_eq_some];refine⟨by rw[dA];exact hgg,be.2 hm,λj hj=>?_⟩;simp only[aU,dC,ne_eq];intro e;have:=J8 h p (n:=j) (by omega);omega
 refine⟨((groups b p).getD n 0).toNat,?_,?_⟩
 ·unfold Kj;rw[ax,←List.head?_eq_getElem?,List.head?_filter,hfind];rfl
 ·unfold Il;rw[dA];omega
theorem Ach(h:Ax b)(hp:Av b p):vI b p=some (Cd b p):=by
 have hbu:=h.buses;rw[Jj h];refine cU ?_;unfold vI;rw[Np h hp];simp only[ab];refine c6 (λhc=>by simp at hc) (λ_=>?_);refine Ok.andThen (A:=λs=>s.2=(Lm b p b.Am.toNat).map (isl b p)) (B:=λ(_:Unit)=>False) ?_ (λs hs=>Ok.pure hs) (λ_ h=>h.elim);refine cO (λs=>(0<=s.1/\s.1<=b.Am)/\s.2=(Lm b p s.1.toNat).map (isl b p)) (λs=>(b.Am-s.1).toNat) _ _ ?_ ?_ ?_
 ·exact⟨by dsimp only;omega,rfl⟩
 ·dsimp only;omega
 ·rintro⟨i,s⟩ ⟨⟨g1,g2⟩,g3⟩;dsimp only at g1 g2 g3;unfold Ajc;dsimp only;refine c6 (λhq=>?_) (λhq=>cS ?_)
  ·simp only[dy]at hq;obtain⟨n,rfl⟩:∃n:Nat,i=(n:Int):=⟨i.toNat,by omega⟩;have hn:n<b.Am.toNat:=by omega
   have e1:w64 ((n:Int)+1)=(n:Int)+1:=Az (by omega);have e2:((n:Int)+1).toNat=n+1:=by omega
   have hg:=J8 h p hn;obtain⟨m,hm,hmn⟩:=An6 h p hn;have hbuses:(isl b p ((groups b p).getD n 0).toNat).Am=Kj b p n:=by
    unfold isl Fc Kj;rw[hg.2.2]
   rw[aE]at g3;have hsl:s.length<=n:=by
    rw[g3,ar];exact aw (aV _ _) (by simp)
   have hnext:Lm b p (n+1)=Lm b p n++if Il b p n=true then [n] else []:=by
    unfold Lm;rw[cd,bm];congr 1;cases hq:Il b p n <;> simp[hq]
   rw[e1,Axj h hp hn];simp only[ab,hbuses];have hg0:getI (Kj b p n) 0=some (m:Int):=B1 (j:=0) hm;rw[hg0];simp only[ab];refine c6 (λhq=>?_) (λhq=>c7 ⟨⟨by dsimp only;omega,?_⟩,by dsimp only;omega⟩)
   ·simp only[dA]at hq;have hle:=hmn.1 (by omega);refine(cQ (by simp;omega)).bind λw hw=>c7 ⟨⟨by dsimp only;omega,?_⟩,by dsimp only;omega⟩;dsimp only;have hgn:((groups b p).getD n 0).toNat=n:=by
     unfold Il at hle;rw[dA]at hle;omega
    rw[e2,hnext,if_pos hle,hw,g3,bE,hgn];rfl
   ·simp only[dC,ne_eq]at hq;have hle:¬Il b p n=true:=λe=>hq (by rw[hmn.2 e]);dsimp only;rw[e2,hnext,if_neg hle,aX,g3]
  ·simp only[dz]at hq;dsimp only;have:i.toNat=b.Am.toNat:=by omega
   rw[g3,this]
theorem Ag0(h:Ax b)(hp:Av b p):vY b p=some (⟨p.Ai,Ft b p,p.An,p.Al⟩,0):=by
 have hn:=hp.nso;refine cU ?_;unfold vY;rw[Np h hp];simp only[ab];refine c6 (λhc=>by simp at hc) (λ_=>?_);refine Ok.bind (P:=λy=>y=⟨p.Ai,Ft b p,p.An,p.Al⟩) ?_ λy hy=>Ok.pure (by rw[hy]);unfold Amz;rw[Ax8 h hp,Ach h hp];simp only[ab];refine Ok.andThen (A:=λs=>s=Ft b p) (B:=λ(_:Unit)=>False) ?_ (λs hs=>Ok.pure (by rw[hs])) (λ_ h=>h.elim);refine c8 (I:=λj s=>s=((Cd b p).take j).foldl (Dq p) p.Ae) rfl (λj x s hx hs=>?_) λs hs=>?_
 ·have hi:=P3 (ae hx);have hl:s.length=p.Ae.length:=by rw[hs,Lp]
  have hnext:((Cd b p).take (j+1)).foldl (Dq p) p.Ae=Dq p s x:=by rw[Bm hx,bc,←hs];rfl
  rw[hnext];unfold Ajn;cases hsrc:x.Ae with
  |nil=>exact c7 (by unfold Dq;rw[hsrc])
  | cons m l=>
   have hm:=hi m (by rw[hsrc];exact aj);obtain⟨u,hu⟩:∃u,p.Ae[m.toNat]? = some u:=⟨_,ai (by omega)⟩;have hgu:getI p.Ae m=some u:=by have:=B1 hu;rwa [bA hm.1]at this
   have hd:p.Ae.getD m.toNat default=u:=by simp[List.getD,hu]
   have hf:Dq p s x=Fu u (m::l) s:=by unfold Dq;rw[hsrc];simp only[hd]
   rw[hf];have hin:∀k,k∈m::l->0<=k/\k<p.Ae.length:=λk hk=>by
    grind
   refine(c8 (I:=λk r=>r=Fu u ((m::l).take k) s) (A:=λr=>r=Fu u (m::l) s) (B:=λ(_:Unit)=>False) rfl (λk n r hk hr=>?_) λr hr=>by rw[hr,aJ]).inner (λr hr=>c7 hr) (λ_ h=>h.elim);have hnk:=hin n (ae hk);have hrl:r.length=p.Ae.length:=by rw[hr,H0,hl]
   unfold Ajm;rw[hsrc,show getI (m::l) 0=some m from rfl];simp only[ab,hgu];refine(cP hnk.1 (by omega)).bind λv hv=>(cT hnk.1 (by omega)).bind λr1 e1=>?_;have hvg:r1[n.toNat]? = some (⟨v.State,v.Since,u.Aq,v.Phase⟩:Aj):=by rw[e1,bI (by omega)]
   refine Ok.bind (P:=λw=>w=(⟨v.State,v.Since,u.Aq,v.Phase⟩:Aj)) ((cP hnk.1 (by rw[e1];simp;omega)).mono λw hw=>by rw[hvg]at hw;cases hw;rfl) λw hw=>?_;refine(cT hnk.1 (by rw[e1];simp;omega)).bind λr2 e2=>c7 ?_;have hdv:r.getD n.toNat default=v:=by simp[List.getD,hv]
   rw[yM hk,←hr,hdv,e2,e1,hw,List.set_set];rfl
 ·rw[aJ]at hs;exact hs
theorem Asp(h:n<ss.length):ss.set n (ss.getD n default)=ss:=by
 apply bM;intro i;rw[aH];split
 ·rename_i e;subst e;simp[List.getD,List.getElem?_eq_getElem h]
 ·rfl
theorem yN{like:Aj}:∀(idx:List Int)(ss:List Aj),(∀i,i∈idx->i.toNat<ss.length/\W9 like (ss.getD i.toNat default)=ss.getD i.toNat default)->Fu like idx ss=ss
 | [],_,_=>rfl
 |i::idx,ss,h=>by
  obtain⟨h1,h2⟩:=h i aj;show Fu like idx (ss.set i.toNat (W9 like (ss.getD i.toNat default)))=ss;rw[h2,Asp h1];exact yN idx ss λj hj=>h j (ak _ hj)
theorem Xj{y:Aj}:(ss.set m y).getD n default=if m=n/\m<ss.length then y else ss.getD n default:=by
 unfold List.getD;rw[aH];by_cases e:m=n
 ·subst e;by_cases hl:m<ss.length
  ·simp[hl]
  ·simp[hl]
 ·simp[e]
theorem Yd(like:Aj):∀(idx:List Int)(ss:List Aj)(n:Nat),((Fu like idx ss).getD n default).State=(ss.getD n default).State
 | [],_,_=>rfl
 |i::idx,ss,n=>by
  show ((Fu like idx _).getD n default).State=_;rw[Yd like idx,Xj];split
  ·rename_i e;rw[←e.1];rfl
  ·rfl
theorem W_{like:Aj}:∀(idx:List Int)(ss:List Aj){n:Nat},(∀i,i∈idx->i.toNat≠n)->(Fu like idx ss).getD n default=ss.getD n default
 | [],_,_,_=>rfl
 |i::idx,ss,n,h=>by
  show (Fu like idx _).getD n default=_;rw[W_ idx _ (λj hj=>h j (ak _ hj)),Xj,if_neg (λe=>h i aj e.1)]
theorem Ahp{like:Aj}:∀(idx:List Int)(ss:List Aj){n:Nat},n<ss.length->(∃i,i∈idx/\i.toNat=n)->((Fu like idx ss).getD n default).Aq=like.Aq/\((Fu like idx ss).getD n default).Phase=like.Phase
 | [],_,_,_,h=>by obtain⟨_,h,_⟩:=h;cases h
 | i::idx,ss,n,hn,h=>by
  by_cases hr:∃j,j∈idx/\j.toNat=n
  ·exact Ahp idx _ (by simpa using hn) hr
  ·have hi:i.toNat=n:=by
    obtain⟨j,hj,e⟩:=h;rcases ag.1 hj with rfl|hj
    ·exact e
    ·exact absurd ⟨j,hj,e⟩ hr
   have:(Fu like (i::idx) ss).getD n default=W9 like (ss.getD i.toNat default):=by
    show (Fu like idx _).getD n default=_;rw[W_ idx _ (λj hj e=>hr ⟨j,hj,e⟩),Xj,if_pos ⟨hi,by omega⟩]
   rw[this];exact⟨rfl,rfl⟩
def Agk(b:Ab)(p:Ad):Prop:=∀x,x∈Cd b p->∀i j,i∈x.Ae->j∈x.Ae ->
 (p.Ae.getD i.toNat default).Aq=(p.Ae.getD j.toNat default).Aq/\(p.Ae.getD i.toNat default).Phase=(p.Ae.getD j.toNat default).Phase
theorem Acr(hn:p.Ae.length=b.Ae.length)(h:Agk b p):Ft b p=p.Ae:=by
 have key:∀l:List Ap,(∀x,x∈l->x∈Cd b p)->l.foldl (Dq p) p.Ae=p.Ae:=by
  intro l;induction l with
  |nil=>intro _;rfl
  | cons x l ih=>
   intro hl;have hx:=hl x aj;have hst:Dq p p.Ae x=p.Ae:=by
    unfold Dq;split
    ·rfl
    ·rename_i i r e;refine yN _ _ λj hj=>?_;have hj2:=P3 hx j hj;have ha:=h x hx i j (by rw[e];exact aj) hj;refine⟨by omega,?_⟩;unfold W9;rw[ha.1,ha.2]
   rw[bu,hst];exact ih λy hy=>hl y (ak _ hy)
 exact key _ λ_ hx=>hx
theorem Agz(p:Ad)(s:List Aj)(x:Ap)(n:Nat):((Dq p s x).getD n default).State=(s.getD n default).State:=by
 unfold Dq;split
 ·rfl
 ·exact Yd _ _ _ _
theorem Aa2(b:Ab)(p:Ad)(n:Nat):((Ft b p).getD n default).State=(p.Ae.getD n default).State:=by
 have key:∀(l:List Ap)(s:List Aj),((l.foldl (Dq p) s).getD n default).State=(s.getD n default).State:=by
  intro l;induction l with
  |nil=>intro s;rfl
  |cons x l ih=>intro s;rw[bu,ih,Agz]
 exact key _ _
theorem Aa1{q:Ad}(hc:q.Ai=p.Ai)(hl:q.Ae.length=p.Ae.length)(hs:∀n:Nat,(q.Ae.getD n default).State=(p.Ae.getD n default).State):Cd b q=Cd b p:=by
 have hled:∀k i,Fl b q k i=Fl b p k i:=λk i=>by unfold Fl;rw[hc]
 have hgr:groups b q=groups b p:=by unfold groups;rw[hc]
 have hcon:∀i,Hd b q i=Hd b p i:=λi=>by unfold Hd;rw[hled,hl,hs]
 have hgo:∀o,G6 b q o=G6 b p o:=λo=>by unfold G6;rw[hgr]
 have hisl:isl b q=isl b p:=by
  funext f;unfold isl Fc Gs Hv;simp only[hgr,hled,hcon,hgo]
 unfold Cd;rw[hisl]
theorem qF:i∈(isl b p f).Ae↔∃k:Nat,i=(k:Int)/\k<b.Ae.length/\G6 b p (Hd b p (k:Int))=some (f:Int):=by
 constructor
 ·intro h;obtain⟨k,hk,e⟩:=an.1 h;obtain⟨h1,h2⟩:=ay.1 hk;exact⟨k,e.symm,be.1 h1,by rwa [dA]at h2⟩
 ·rintro⟨k,e,h1,h2⟩;exact an.2 ⟨k,ay.2 ⟨be.2 h1,by rw[dA];exact h2⟩,e.symm⟩
theorem Asn{g:Nat}(hfg:f≠g){j:Int}(hi:i∈(isl b p f).Ae)(hj:j∈(isl b p g).Ae):i.toNat≠j.toNat:=by
 obtain⟨k,rfl,_,e1⟩:=qF.1 hi;obtain⟨m,rfl,_,e2⟩:=qF.1 hj;rw[aE,aE];intro e;subst e;rw[e1]at e2;have:=bf e2;exact hfg (by omega)
def Abb(b:Ab)(p:Ad)(f:Nat):Aj:=p.Ae.getD ((isl b p f).Ae.headD 0).toNat default
theorem Acu{b:Ab}{p:Ad}{n:Nat}:∀(fs:List Nat)(s:List Aj),(∀f,f∈fs->∀i,i∈(isl b p f).Ae->i.toNat≠n)->((fs.map (isl b p)).foldl (Dq p) s).getD n default=s.getD n default
 | [],_,_=>rfl
 |f::fs,s,h=>by
  rw[bq,bu,Acu fs _ (λg hg=>h g (ak _ hg))];have hf:=h f aj;unfold Dq;split
  ·rfl
  ·exact W_ _ _ hf
theorem uC{b:Ab}{p:Ad}(hn:p.Ae.length=b.Ae.length):∀(fs:List Nat)(s:List Aj),s.length=p.Ae.length->fs.Nodup->∀f,f∈fs->∀i,i∈(isl b p f).Ae ->
  (((fs.map (isl b p)).foldl (Dq p) s).getD i.toNat default).Aq=(Abb b p f).Aq/\(((fs.map (isl b p)).foldl (Dq p) s).getD i.toNat default).Phase=(Abb b p f).Phase
 | [],_,_,_,_,h,_,_=>by cases h
 | g::fs,s,hs,hnd,f,hf,i,hi=>by
  obtain⟨h1,h2⟩:=List.nodup_cons.1 hnd;rw[bq,bu];by_cases e:f=g
  ·subst e;rw[Acu fs _ (λk hk j hj=>Asn (λe=>h1 (by rw[←e];exact hk)) hj hi)];obtain⟨k,rfl,hk,_⟩:=qF.1 hi;unfold Dq;split
   ·rename_i e;rw[e]at hi;cases hi
   ·rename_i m r e;have:Abb b p f=p.Ae.getD m.toNat default:=by unfold Abb;rw[e];rfl
    rw[this];exact Ahp _ _ (by rw[aE];omega) ⟨_,hi,rfl⟩
  ·rcases ag.1 hf with h|hf
   ·exact absurd h e
   ·exact uC hn fs _ (by rw[Nz];exact hs) h2 f hf i hi
theorem qZ(h:Ax b)(hn:p.Ae.length=b.Ae.length):Agk b ⟨p.Ai,Ft b p,p.An,p.Al⟩:=by
 have hisl:Cd b ⟨p.Ai,Ft b p,p.An,p.Al⟩=Cd b p:=Aa1 rfl (Ix b p) (Aa2 b p);intro x hx i j hi hj;rw[hisl,Jj h]at hx;obtain⟨f,hf,rfl⟩:=an.1 hx;have hnd:(Lm b p b.Am.toNat).Nodup:=(List.nodup_range).sublist List.filter_sublist;have hfl:Ft b p=((Lm b p b.Am.toNat).map (isl b p)).foldl (Dq p) p.Ae:=by
  rw[←Jj h];rfl
 have e1:=uC hn _ p.Ae rfl hnd f hf i hi;have e2:=uC hn _ p.Ae rfl hnd f hf j hj;dsimp only;rw[hfl];exact⟨e1.1.trans e2.1.symm,e1.2.trans e2.2.symm⟩
def Rk(b:Ab)(p:Ad)(n:Nat):Bool:=decide (((isl b p ((groups b p).getD n 0).toNat).Ae.length:Int)>0)
theorem Aqy(hn:n<b.Am.toNat):(isl b p f).Am.any ((n:Int) == ·)=((groups b p).getD n 0==(f:Int)):=by
 rw[cg,List.any_eq_true];constructor
 ·rintro⟨x,hx,e⟩;rw[dA]at e;subst e;obtain⟨i,hi,e⟩:=an.1 hx;have:i=n:=by omega
  subst this;exact(ay.1 hi).2
 ·intro e;exact⟨n,an.2 ⟨n,ay.2 ⟨be.2 hn,e⟩,rfl⟩,by simp⟩
theorem of_eq(h:Ax b)(hp:Av b p)(hn:n<b.Am.toNat):J3 b p (n:Int)=some (isl b p ((groups b p).getD n 0).toNat,true):=by
 have hg:=J8 h p hn;have hbu:=h.buses;unfold J3;rw[Kt h hp,Jj h];simp only[ab];have key:∀(fs:List Nat)(k:Nat),foldI (Qv (n:Int)) (fs.map (isl b p)) k ()=if((groups b p).getD n 0).toNat∈fs then some (.ret (isl b p ((groups b p).getD n 0).toNat,true)) else some (.next ()):=by
  intro fs;induction fs with
  |nil=>intro k;rfl
  | cons f fs ih=>
   intro k;have hbl:(isl b p f).Am.length<=9223372036854775807:=by
    have:=Fb (λi=>(groups b p).getD i 0==(f:Int)) b.Am.toNat;simp only[isl,Fc];omega
   simp only[bq,foldI,Qv,Gd _ _ hbl,ab,Aqy hn];by_cases e:(groups b p).getD n 0=(f:Int)
   ·have e2:((groups b p).getD n 0).toNat=f:=by omega
    rw[dA.2 e,e2,if_pos aj];rfl
   ·have e2:((groups b p).getD n 0).toNat≠f:=by omega
    rw[dC.2 e];simp only[cond_false];rw[ih];by_cases hm:((groups b p).getD n 0).toNat∈fs
    ·rw[if_pos hm,if_pos (ak _ hm)]
    ·rw[if_neg hm,if_neg (λhh=>(ag.1 hh).elim e2 hm)]
 have hm:((groups b p).getD n 0).toNat∈Lm b p b.Am.toNat:=ay.2 ⟨be.2 (by omega),Ld h p hn⟩;rw[key,if_pos hm];rfl
theorem Ah2(h:Ax b)(hp:Av b p)(hn:n<b.Am.toNat):Af7 b p (n:Int)=some (Rk b p n):=by
 unfold Af7;rw[of_eq h hp hn];simp[Rk]
variable{s:Af}
theorem Ahi(h:Ax b)(hs:A1 s):Ok (Abg s b) λy=>(Av b y.1/\Agk b y.1/\y.1.Al.length<=4)/\A1 y.2:=by
 unfold Abg;refine(Au7 h hs).bind λy hy=>?_;rw[Ag0 h hy.1.1];exact Ok.pure ⟨⟨Kg hy.1.1 (Ix b _) (Ry hy.1.1),qZ h hy.1.1.nso,hy.1.2⟩,hy.2⟩
theorem Aem(h:Ax b)(hs:A1 s):Ok (Zj s b) λy=>((∀t,Ql b t y.1)/\(5<=y.1.Time/\y.1.Time<=20)/\y.1.Bh=[]/\y.1.Power.Al.length<=4)/\A1 y.2:=by
 have hbu:=h.buses;unfold Zj;refine(Fe hs 5 20 (by omega) (by omega) (by omega)).bind λy hy=>(Ahi h hy.1).bind λz hz=>?_;refine Ok.andThen (A:=λs=>A1 ⟨s.2.1,s.2.2.1⟩/\s.2.2.2.length=b.Am.toNat/\∀x,x∈s.2.2.2->(-1<=x.High/\x.High<=4) /\ -1<=x.Low/\x.Low<=4) (B:=λ(_:Unit)=>False) ?_ (λs hs=>?_) (λ_ h=>h.elim)
 ·refine cO (λs=>(0<=s.1/\s.1<=b.Am)/\A1 ⟨s.2.1,s.2.2.1⟩/\(s.2.2.2.length:Int)=s.1/\∀x,x∈s.2.2.2->(-1<=x.High/\x.High<=4) /\ -1<=x.Low/\x.Low<=4) (λs=>(b.Am-s.1).toNat) _ _ ?_ ?_ ?_
  ·exact⟨by dsimp only;omega,hz.2,by simp,λx hx=>by cases hx⟩
  ·dsimp only;omega
  ·rintro⟨i,L,a,l⟩ ⟨⟨g1,g2⟩,g3,g4,g5⟩;dsimp only at g1 g2 g3 g4 g5;unfold Aex;dsimp only;refine c6 (λhq=>?_) (λhq=>cS ?_)
   ·simp only[dy]at hq;have e1:w64 (i+1)=i+1:=Az (by omega);rw[e1];refine(Fe g3 (-1) 4 (by omega) (by omega) (by omega)).bind λu hu=>(Fe hu.1 (-1) 4 (by omega) (by omega) (by omega)).bind λv hv=>(cQ (by simp;omega)).bind λw hw=>c7 ?_;refine⟨⟨by dsimp only;omega,hv.1,by rw[hw];simp;omega,λx hx=>?_⟩,by dsimp only;omega⟩;rw[hw]at hx;rcases am.1 hx with hx|hx
    ·exact g5 x hx
    ·simp only[aC]at hx;subst hx;exact⟨hu.2,hv.2⟩
   ·simp only[dz]at hq;exact⟨g3,by dsimp only;omega,g5⟩
 ·refine Ok.pure ⟨⟨λt=>?_,hy.2,rfl,hz.1.2.2⟩,hs.1⟩;exact {
   st:=hz.1.1
   fol:=Acr hz.1.1.nso hz.1.2.1
   time:=by have:=hy.2;dsimp only;omega
   nro:=hs.2.1
   ros:=λx hx=>by
    have:=hs.2.2 x hx;have:=hy.2;unfold Abd;dsimp only;omega}
def Si(b:Ab)(p:Ad)(i:Nat):Bool:=match Fl b p 3 (i:Int) with
 |none=>false
 |some a=>(Rk b p a.toNat && !brk p.Al 4 (i:Int)) && !decide (p.An.getD i 0<(b.Ag.getD i default).Least)
def svB(b:Ab)(p:Ad):Nat->Nat->Bool
 |0,_=>false
 |k+1,i=>Si b p i&&(b.Ag.getD i default).Needs.all λn=>svB b p k n.toNat
theorem Aoi(f:Int->Bool)(l:List Int)(k:Nat)(g:Nat->Int->Unit->Option (Ctl Unit ρ))(r:Nat->ρ)(hg:∀i x,x∈l->g i x ()=bif !f x then some (.ret (r i)) else some (.next ())):(l.all f=true/\foldI g l k ()=some (.next ()))\/(l.all f=false/\∃j,k<=j/\j<k+l.length/\foldI g l k ()=some (.ret (r j))):=by
 induction l generalizing k with
 |nil=>exact .inl ⟨rfl,rfl⟩
 | cons x l ih=>
  simp only[foldI,hg k x aj,List.all_cons];cases f x with
  |true=>
   simp only[aP,cond_false,bt];rcases ih (k+1) (λi y hy=>hg i y (ak _ hy)) with h|⟨h,j,h1,h2,h3⟩
   ·exact .inl h
   ·exact .inr ⟨h,j,by omega,by simp only[aR];omega,h3⟩
  |false=>exact .inr ⟨rfl,k,by omega,by simp only[aR];omega,rfl⟩
variable{i:Nat}
theorem Ge(h:i<b.Ag.length):b.Ag[i]? = some (b.Ag.getD i default):=by
 rw[ai h];simp[List.getD,List.getElem?_eq_getElem h]
theorem P1(h:i<p.An.length):p.An[i]? = some (p.An.getD i 0):=by
 rw[ai h];simp[List.getD,List.getElem?_eq_getElem h]
theorem Axl{rec:Ab->Ad->Int->Option Bool}{f:Int->Bool}{l:List Int}(hl:l.length<=1000)(hr:∀x,x∈l->rec b p x=some (f x)):Z6 rec l b p=some (!l.all f,b,p):=by
 unfold Z6 Afq;have key:=Aoi f l 0 (Vh b p rec) (λi=>(cnt 0 i,b,p)) (λi x hx=>by
  unfold Vh Af5;rw[hr x hx];rfl)
 rcases key with⟨h1,h2⟩|⟨h1,j,_,hj,h2⟩
 ·rw[h2,h1];rfl
 ·have hc:cnt 0 j=(j:Int):=Cn (by omega);rw[h2,h1,hc];show some (decide ((j:Int)>=0),b,p)=_;rw[dD (by omega)];rfl
theorem Asq(h:Ax b)(hp:Av b p):∀(k i:Nat),i<k->i<b.Ag.length->jJ k b p (i:Int)=some (svB b p k i):=by
 intro k;induction k with
 |zero=>intro i hi;omega
 | succ k ih=>
  intro i hi hc;have hnl:=hp.nli;have hbl:p.Al.length<=1000:=by have:=hp.brk.len;omega
  have hcg:=Ge hc;have hlg:=P1 (p:=p) (i:=i) (by omega);have hco:=h.co i _ hcg;refine cU ?_;show Ok (jL (jJ k) b p (i:Int)) _;unfold jL Af8;rw[E7 h hp,Ac2 h hp.ncl,B1 hlg,B1 hcg];simp only[ab,dG,cond_false];cases hl:Fl b p 3 (i:Int) with
  |none=>
   refine Ok.bind (P:=λ_=>True) (c9 (λhg=>absurd hg.1 (by simp[Fp])) λ_=>trivial) λy3 _=>?_;refine Ok.bind (P:=λ_=>True) (c9 (λhg=>absurd hg.1 (by simp[Fp])) λ_=>trivial) λy5 _=>?_;refine Ok.bind (P:=λ_=>True) (c9 (λhg=>absurd hg.1 (by simp[Fp])) λ_=>trivial) λy7 _=>?_;refine Ok.bind (P:=λ_=>True) (c9 (λhg=>absurd hg.1 (by simp[Fp])) λ_=>trivial) λy9 _=>?_;refine c6 (λ_=>Ok.pure ?_) (λhq=>by simp[Qf,Fp]at hq);simp[svB,Si,hl]
  | some a=>
   have ha:=Rl h hl;obtain⟨m,rfl⟩:∃m:Nat,a=(m:Int):=⟨a.toNat,by omega⟩;have hlive:=Ah2 h hp (n:=m) (by omega);simp only[Fp,hlive,Gy hbl];refine Ok.bind (P:=λy=>y=Rk b p m) (c9 (λ_=>Ok.pure rfl) λhn=>(hn ⟨rfl,trivial⟩).elim) λy3 h3=>?_;subst h3;have hbase:Si b p i=((Rk b p m && !brk p.Al 4 (i:Int)) && !decide (p.An.getD i 0<(b.Ag.getD i default).Least)):=by
    unfold Si;rw[hl];simp
   cases hlv:Rk b p m with
   |false=>
    refine Ok.bind (P:=λ_=>True) (d4 (λ_=>d8 rfl) λ_=>trivial) λy5 _=>?_;refine Ok.bind (P:=λ_=>True) (d4 (λ_=>d8 rfl) λ_=>trivial) λy7 _=>?_;refine Ok.bind (P:=λ_=>True) (d4 (λ_=>d8 rfl) λ_=>trivial) λy9 _=>?_;refine c6 (λ_=>Ok.pure ?_) (λhq=>by simp[Qf]at hq);simp[svB,hbase,hlv]
   | true=>
    refine Ok.bind (P:=λy=>y=brk p.Al 4 (i:Int)) (c9 (λ_=>Ok.pure rfl) λhn=>(hn ⟨rfl,trivial⟩).elim) λy5 h5=>?_;subst h5;cases hbr:brk p.Al 4 (i:Int) with
    |true=>
     refine Ok.bind (P:=λ_=>True) (d4 (λ_=>d8 rfl) λ_=>trivial) λy7 _=>?_;refine Ok.bind (P:=λ_=>True) (d4 (λ_=>d8 rfl) λ_=>trivial) λy9 _=>?_;refine c6 (λ_=>Ok.pure ?_) (λhq=>by simp[Qf]at hq);simp[svB,hbase,hbr]
    | false=>
     refine Ok.bind (P:=λy=>y=p.An.getD i 0) (c9 (λ_=>Ok.pure rfl) λhn=>(hn ⟨rfl,trivial⟩).elim) λy7 h7=>?_;refine Ok.bind (P:=λy=>y=b.Ag.getD i default) (c9 (λ_=>Ok.pure rfl) λhn=>(hn ⟨rfl,trivial⟩).elim) λy9 h9=>?_;subst h7;subst h9;refine c6 (λhq=>Ok.pure ?_) (λhq=>?_)
     ·simp only[Qf,aP,aT]at hq;show false=(Si b p i&&_);rw[hbase,hq];simp
     ·simp only[Qf,aP,aT]at hq;have hb1:Si b p i=true:=by rw[hbase,hlv,hbr,hq];rfl
      have hsv:svB b p (k+1) i=(b.Ag.getD i default).Needs.all λn=>svB b p k n.toNat:=by
       show (Si b p i&&_)=_;rw[hb1,bt]
      rw[Axl (f:=λn=>svB b p k n.toNat) (by have:=hco.2.2.2.2.1;omega) (λx hx=>?_)]
      ·rw[hsv];refine Ok.pure ?_;simp
      ·have hx2:=hco.2.2.2.2.2.1 x hx;have hih:=ih x.toNat (by omega) (by omega)
       rwa [bA hx2.1]at hih
theorem Aj9(h:Ax b)(hp:Av b p)(hi:i<b.Ag.length):Avx b p (i:Int)=some (svB b p 1000 i):=by
 have:=h.col;exact Asq h hp 1000 i (by omega) hi
variable{n:Int}
theorem Aa7{m:Int}(h0:0<=m)(h:m<=n):m*m<=n*n:=Int.mul_le_mul h h h0 (by omega)
theorem Axb{x:Int}(h0:0<=x)(h1:x<=1000000000000000000):Ok (Am0 x) λy=>y.2=0/\0<=y.1/\y.1*y.1<=x/\x<(y.1+1)*(y.1+1):=by
 unfold Am0;refine c6 (λhc=>?_) (λ_=>?_)
 ·simp only[Aqi,az,dy]at hc;omega
 refine Ok.andThen (A:=λs=>0<=s.1/\s.1*s.1<=x/\x<(s.1+1)*(s.1+1)) (B:=λ(_:Unit)=>False) ?_ (λs hs=>Ok.pure ⟨rfl,hs⟩) (λ_ h=>h.elim);refine cO (λs=>(0<=s.1/\s.1<=s.2/\s.2<=1000000000)/\s.1*s.1<=x/\x<(s.2+1)*(s.2+1)) (λs=>(s.2-s.1).toNat) _ _ ?_ ?_ ?_
 ·refine⟨by dsimp only;omega,by dsimp only;omega,by dsimp only;omega⟩
 ·dsimp only;omega
 ·rintro⟨l,u⟩ ⟨⟨g1,g2,g3⟩,g4,g5⟩;dsimp only at g1 g2 g3 g4 g5;unfold Ajo Aqh;dsimp only;refine c6 (λhq=>?_) (λhq=>cS ?_)
  ·simp only[dy]at hq;obtain⟨m,hm⟩:∃m,m=(l+u+1) / 2:=⟨_,rfl⟩;have e1:w64 (Int.tdiv (w64 (w64 (l+u)+1)) 2)=m:=by
    rw[Az (n:=l+u) (by omega),Az (n:=l+u+1) (by omega),cr (by omega),←hm,Az (by omega)]
   have hmm:m*m<=1000000000*1000000000:=Aa7 (by omega) (by omega);have hm0:0<=m*m:=Int.mul_nonneg (by omega) (by omega);rw[e1,Az (n:=m*m) (by omega)];refine c6 (λhc=>?_) (λhc=>?_)
   ·simp only[dy]at hc;exact c7 ⟨⟨by dsimp only;omega,hc,g5⟩,by dsimp only;omega⟩
   ·simp only[dz]at hc;rw[Az (n:=m-1) (by omega)];refine c7 ⟨⟨by dsimp only;omega,g4,?_⟩,by dsimp only;omega⟩;dsimp only;have:m-1+1=m:=by omega
    rw[this];omega
  ·simp only[dz]at hq;have:l=u:=by omega
   subst this;exact⟨g1,g4,g5⟩
theorem At0(h0:0<=n)(h1:n<=1000000000000000000):(bif decide ((Int.tmod (-n) 1000)<0)then some (w64 ((w64 (Int.tdiv (-n) 1000))-1)) else some (w64 (Int.tdiv (-n) 1000)):Option Int)=some (-((n+999) / 1000)):=by
 have e1:Int.tmod (-n) 1000 = -(n % 1000):=by rw[Int.neg_tmod,Int.tmod_eq_emod_of_nonneg h0]
 have e2:Int.tdiv (-n) 1000 = -(n / 1000):=by rw[Int.neg_tdiv,cr h0]
 rw[e1,e2,Az (n:=-(n / 1000)) (by omega)];by_cases h:-(n % 1000)<0
 ·rw[dD h,cond_true,Az (by omega)];congr 1;omega
 ·rw[dE h,cond_false];congr 1;omega
theorem A3v(h0:0<=n)(h1:n<=1000000000000000000):Amp n 1000=some ((n+999) / 1000,0):=by
 unfold Amp Afl Avl U7;have e:Xu n 1000=false:=by
  rw[cy];intro e;simp[Xu]at e;omega
 have e0:w64 (0-n) = -n:=by rw[Az (by omega)];omega
 have en:nzI (1000:Int)=some ():=rfl;rw[e,e0,en];simp only[cond_false,ab];rw[At0 h0 h1];simp only[ab];rw[Az (by omega)];congr 2;omega
def Wj(x:Ce):Prop:=∃f,f∈([0,450,800,1350,1800,2600,3500]:List Int)/\∃v,v∈([0,100,300,900,1799]:List Int)/\x=⟨f,(f+v) % 3600⟩
theorem A3s(hs:A1 s):Ok (Amu s) λy=>Wj y.1/\A1 y.2:=by
 unfold Amu;refine(Cx hs _ (by simp) (by simp)).bind λu hu=>(Cx hu.1 _ (by simp) (by simp)).bind λv hv=>Ok.pure ⟨⟨u.1,hu.2,v.1,hv.2,?_⟩,hv.1⟩;have h1:u.1=0\/u.1=450\/u.1=800\/u.1=1350\/u.1=1800\/u.1=2600\/u.1=3500:=by simpa using hu.2
 have h2:v.1=0\/v.1=100\/v.1=300\/v.1=900\/v.1=1799:=by simpa using hv.2
 rcases h1 with e|e|e|e|e|e|e <;> rcases h2 with e2|e2|e2|e2|e2 <;> rw[e,e2] <;> rfl
theorem Aq3{x:Ce}(h:Wj x):X4 x=true:=by
 obtain⟨f,hf,v,hv,rfl⟩:=h;have h1:f=0\/f=450\/f=800\/f=1350\/f=1800\/f=2600\/f=3500:=by simpa using hf
 have h2:v=0\/v=100\/v=300\/v=900\/v=1799:=by simpa using hv
 rcases h1 with e|e|e|e|e|e|e <;> rcases h2 with e2|e2|e2|e2|e2 <;> rw[e,e2] <;> rfl
structure G0(x:Ay):Prop where
 kind:1<=x.Kind/\x.Kind<=3
 station:0<=x.Station/\x.Station<=1
 max:0<=x.Max/\x.Max<=40
 rate:0<=x.Rate/\x.Rate<=50
 cost:1<=x.Cost/\x.Cost<=100
 arcs:x.Cy.length<=4
 arc:∀a,a∈x.Cy->Wj a
theorem Ahh(hs:A1 s):Ok (Am8 s) λy=>G0 y.1/\A1 y.2:=by
 unfold Am8;refine(Fe hs 1 3 (by omega) (by omega) (by omega)).bind λk hk=>(C6 hk.1 2 (by omega) (by omega)).bind λst hst=>(Cx hst.1 _ (by simp) (by simp)).bind λm hm=>(Cx hm.1 _ (by simp) (by simp)).bind λr hr=>(Cx hr.1 _ (by simp) (by simp)).bind λc hc=>(C6 hc.1 3 (by omega) (by omega)).bind λn hn=>?_;have h1:m.1=0\/m.1=1\/m.1=7\/m.1=20\/m.1=40:=by simpa using hm.2
 have h2:r.1=0\/r.1=1\/r.1=5\/r.1=50:=by simpa using hr.2
 have h3:c.1=1\/c.1=2\/c.1=3\/c.1=100:=by simpa using hc.2
 refine Ok.andThen (A:=λs=>A1 ⟨s.2.1,s.2.2.1⟩/\s.2.2.2.length<=4/\∀a,a∈s.2.2.2->Wj a) (B:=λ(_:Unit)=>False) ?_ (λs hs=>Ok.pure ⟨⟨hk.2,by dsimp only;omega,by dsimp only;omega,by dsimp only;omega,by dsimp only;omega,hs.2.1,hs.2.2⟩,hs.1⟩) (λ_ h=>h.elim);refine cO (λs=>(0<=s.1/\s.1+(s.2.2.2.length:Int)<=2)/\A1 ⟨s.2.1,s.2.2.1⟩/\∀a,a∈s.2.2.2->Wj a) (λs=>s.1.toNat) _ _ ?_ ?_ ?_
 ·exact⟨⟨by dsimp only;omega,by simp;omega⟩,hn.1,λa ha=>by cases ha⟩
 ·dsimp only;omega
 ·rintro⟨i,L,a,l⟩ ⟨⟨g1,g2⟩,g3,g4⟩;dsimp only at g1 g2 g3 g4;unfold Aju;dsimp only;refine c6 (λhq=>?_) (λ_=>cS ⟨g3,by dsimp only;omega,g4⟩);simp only[dy]at hq;have e1:w64 (i-1)=i-1:=Az (by omega);rw[e1];refine(A3s g3).bind λu hu=>(cQ (by simp;omega)).bind λw hw=>c7 ⟨⟨⟨by dsimp only;omega,by rw[hw];simp;omega⟩,hu.2,λx hx=>?_⟩,by dsimp only;omega⟩;rw[hw]at hx;rcases am.1 hx with hx|hx
  ·exact g4 x hx
  ·simp only[aC]at hx;subst hx;exact hu.1
theorem Ayi{l:List Ce}(h:∀a,a∈l->Wj a):Z3 l=some false:=by
 unfold Z3 Afn;rw[Dw l 0 λj a ha=>?_]
 ·rfl
 ·unfold Aaf Amq;rw[Aq3 (h a (ae ha))];rfl
variable{x:Ay}
theorem Li(h:G0 x):Ss x=some true:=by
 obtain⟨h1,h2,h3,h4,h5,h6,h7⟩:=h;unfold Ss;have e:((((((Dp x.Kind 1 3)&&(Dp x.Station 0 1))&&(Dp x.Max 0 5000))&&(Dp x.Rate 0 5000))&&(Dp x.Cost 1 100))&&(decide ((x.Cy.length:Int)<=4)))=true:=by
  unfold Dp;simp only[ac,dy];omega
 rw[e,Ayi h7];rfl
structure Jf(x:B3):Prop where
 bow:0<=x.Bow/\x.Bow<=60
 stern:1<=x.Stern/\x.Stern<=40
 len:x.A4.length<=8
 thr:∀t,t∈x.A4->G0 t
theorem Au5(hs:A1 s)(h0:0<=n/\n<=8):Ok (F83 s n) λy=>(Jf y.1/\(y.1.A4.length:Int)<=n)/\A1 y.2:=by
 unfold F83;rw[Az (by omega)];refine(Cx hs _ (by simp) (by simp)).bind λu hu=>(Cx hu.1 _ (by simp) (by simp)).bind λv hv=>(C6 hv.1 (n+1) (by omega) (by omega)).bind λk hn=>?_;have h1:u.1=0\/u.1=1\/u.1=30\/u.1=60:=by simpa using hu.2
 have h2:v.1=1\/v.1=25\/v.1=40:=by simpa using hv.2
 refine Ok.andThen (A:=λs=>A1 ⟨s.2.1,s.2.2.1⟩/\(s.2.2.2.length:Int)<=n/\∀a,a∈s.2.2.2->G0 a) (B:=λ(_:Unit)=>False) ?_ (λs hs=>Ok.pure ⟨⟨⟨by dsimp only;omega,by dsimp only;omega,by have:=hs.2.1;dsimp only;omega,hs.2.2⟩,hs.2.1⟩,hs.1⟩) (λ_ h=>h.elim);refine cO (λs=>(0<=s.1/\s.1+(s.2.2.2.length:Int)<=n)/\A1 ⟨s.2.1,s.2.2.1⟩/\∀a,a∈s.2.2.2->G0 a) (λs=>s.1.toNat) _ _ ?_ ?_ ?_
 ·have:=hn.2;exact⟨⟨by dsimp only;omega,by simp;omega⟩,hn.1,λa ha=>by cases ha⟩
 ·dsimp only;omega
 ·rintro⟨i,L,a,l⟩ ⟨⟨g1,g2⟩,g3,g4⟩;dsimp only at g1 g2 g3 g4;unfold Ard;dsimp only;refine c6 (λhq=>?_) (λ_=>cS ⟨g3,by dsimp only;omega,g4⟩);simp only[dy]at hq;have e1:w64 (i-1)=i-1:=Az (by omega);rw[e1];refine(Ahh g3).bind λu hu=>(cQ (by simp;omega)).bind λw hw=>c7 ⟨⟨⟨by dsimp only;omega,by rw[hw];simp;omega⟩,hu.2,λx hx=>?_⟩,by dsimp only;omega⟩;rw[hw]at hx;rcases am.1 hx with hx|hx
  ·exact g4 x hx
  ·simp only[aC]at hx;subst hx;exact hu.1
theorem Oh{x:B3}(h:Jf x):Pq x=some 0:=by
 have h1:=h.bow;have h2:=h.stern;have h3:=h.len;unfold Pq;have e1:decide ((x.A4.length:Int)>8)=false:=dE (by omega);have e2:Aea x=false:=by
  rw[cy];intro e;simp only[Aea,az,ac,dy,dA]at e;omega
 have e3:Z7 x.A4=some false:=by
  unfold Z7 Afs;rw[Dw x.A4 0 λj a ha=>?_]
  ·rfl
  ·unfold Aan Avr;rw[Li (h.thr a (ae ha))];rfl
 rw[e1,e2,e3];rfl
variable{l:Int}
theorem uK(h:G0 x)(h0:0<=l)(h1:l<=5000):0<=l*l*x.Cost/\l*l*x.Cost<=2500000000:=by
 have hc:=h.cost;have h2:l*l<=5000*5000:=Aa7 h0 h1;have h3:0<=l*l:=Int.mul_nonneg h0 h0;have h4:l*l*x.Cost<=25000000*100:=Int.mul_le_mul (by omega) (by omega) (by omega) (by omega);exact⟨Int.mul_nonneg h3 (by omega),by omega⟩
theorem Axf(h:G0 x)(h0:0<=l)(h1:l<=5000):w64 ((w64 ((w64 (l*l))+(w64 (0*0))))*x.Cost)=l*l*x.Cost:=by
 have hc:=uK h h0 h1;have h2:l*l<=5000*5000:=Aa7 h0 h1;have h3:0<=l*l:=Int.mul_nonneg h0 h0;have e0:w64 (0*0)=0:=by rw[Az (by omega)];rfl
 rw[Az (n:=l*l) (by omega),e0,Int.add_zero,Az (n:=l*l) (by omega),Az (by omega)]
theorem As3(h:G0 x)(h0:0<=l)(h1:l<=5000):Am1 x ⟨l,0⟩=some ((l*l*x.Cost+999) / 1000,0):=by
 have hc:=uK h h0 h1;unfold Am1;have e:X3 ⟨l,0⟩=true:=by
  unfold X3;simp only[ac,dy];omega
 rw[Li h,e];simp only[ab,aP,Bool.or_self,cond_false];rw[Axf h h0 h1,A3v hc.1 (by omega)];rfl
theorem Axm(h:G0 x)(w:Int):Ok (Ana x w) λy=>(0<=y/\y<=x.Max)/\(0<=w->(y*y*x.Cost+999) / 1000<=w):=by
 have hm:=h.max;have hc:=h.cost;have hci:=uK h hm.1 (by omega);unfold Ana;rw[As3 h hm.1 (by omega)];simp only[ab];refine c6 (λhq=>Ok.pure ⟨⟨by omega,hm.1⟩,λhw=>by simp only[Int.mul_zero,Int.zero_mul];omega⟩) (λhq=>?_);simp only[dG,aT,dz]at hq;refine c6 (λha=>?_) (λha=>?_)
 ·simp only[dy]at ha;exact Ok.pure ⟨⟨hm.1,by omega⟩,λ_=>by omega⟩
 ·simp only[dz]at ha;refine(Ok.nzI (by omega)).bind λ_ _=>?_;have hlt:1000*w<x.Max*x.Max*x.Cost:=by omega
  have hd0:0<=1000*w / x.Cost:=Int.ediv_nonneg (by omega) (by omega);have hd1:1000*w / x.Cost<=1000*w:=Int.ediv_le_self _ (by omega);rw[Az (n:=1000*w) (by omega),cr (by omega),Az (n:=1000*w / x.Cost) (by omega)];refine(Axb hd0 (by omega)).bind λf hf=>Ok.pure ?_;obtain⟨_,f0,f1,_⟩:=hf;have hmul:1000*w / x.Cost*x.Cost<=1000*w:=Int.ediv_mul_le _ (by omega);have hff:f.1*f.1*x.Cost<=1000*w / x.Cost*x.Cost:=Int.mul_le_mul_of_nonneg_right f1 (by omega);refine⟨⟨f0,?_⟩,λ_=>by omega⟩;rcases Int.lt_or_le x.Max f.1 with hgt|hle
  ·exfalso;have:=Aa7 hm.1 (Int.le_of_lt hgt);have:=Int.mul_le_mul_of_nonneg_right this (show 0<=x.Cost by omega);omega
  ·exact hle
theorem Yt(n:Int):∀(l:List A7)(k:Nat),foldI (Vz n) l k ()=match l.findIdx? λx=>x.Thruster==n with
  |some j=>some (.ret (cnt 0 (k+j),n))
  |none=>some (.next ())
 | [],_=>rfl
 | x::l,k=>by
  simp only[foldI,Vz,Agh,List.findIdx?_cons];cases hq:(x.Thruster==n) with
  |true=>rfl
  | false=>
   simp only[cond_false,bC,if_false];rw[Yt n l (k+1)];cases l.findIdx? λx=>x.Thruster==n with
   |none=>rfl
   |some j=>
    have e:k+1+j=k+(j+1):=by omega
    simp only[aS,e]
theorem At2(h:Ax b)(n:Int):jO b.Ag n=some (Jt (λx:A7=>x.Thruster==n) b.Ag,n):=by
 have hc:=h.col;unfold jO Jt;rw[Yt];cases hf:b.Ag.findIdx? λx=>x.Thruster==n with
 |none=>rfl
 |some j=>
  rw[cw]at hf;obtain⟨hj,_⟩:=hf;have e:cnt 0 (0+j)=(j:Int):=by rw[aI];exact Cn (by omega)
  simp only[e];rfl
theorem Ah5{q:α->Bool}{xs:List α}(h:0<=Jt q xs):∃j:Nat,Jt q xs=(j:Int)/\j<xs.length:=by
 unfold Jt at h ⊢;cases hf:xs.findIdx? q with
 |none=>rw[hf]at h;simp at h
 |some j=>
  rw[cw]at hf;exact⟨j,rfl,hf.1⟩
def own(b:Ab)(i:Nat):Int:=Jt (λx:A7=>x.Thruster==(i:Int)) b.Ag
def Q0(b:Ab)(p:Ad)(i:Nat)(t:Ay)(v:Int):Prop:=
 (0<=v/\v<=t.Max)/\(∀j:Nat,own b i=(j:Int)->(v*v*t.Cost+999) / 1000<=p.An.getD j 0)/\(v≠0->∃j:Nat,own b i=(j:Int)/\svB b p 1000 j=true)
theorem Aon(hp:Av b p)(hj:j<b.Ag.length):0<=p.An.getD j 0:=by
 have h2:=hp.nli;exact(hp.lim j _ _ (P1 (p:=p) (by omega)) (Ge hj)).1
theorem Au3(hp:Av b p){t:Ay}(ht:G0 t)(i:Nat):Q0 b p i t 0:=by
 refine⟨⟨by omega,ht.max.1⟩,λj hj=>?_,λhh=>absurd rfl hh⟩;obtain⟨k,hk,hlt⟩:=Ah5 (q:=λx:A7=>x.Thruster==(i:Int)) (xs:=b.Ag) (by unfold own at hj;omega);unfold own at hj;have:k=j:=by omega
 subst this;have:=Aon hp hlt;simp only[Int.mul_zero,Int.zero_mul];omega
theorem Aym(h:Ax b)(hp:Av b p){x:B3}(hx:Jf x):Ok (F55 x b p) λy=>y.2=0/\y.1.length=x.A4.length/\∀(i:Nat) t v,x.A4[i]? = some t->y.1[i]? = some v->Q0 b p i t v:=by
 have hlen:=hx.len;have hnl:=hp.nli;unfold F55;rw[Oh hx,E7 h hp];simp only[ab];refine c6 (λhc=>by simp at hc) (λ_=>c6 (λhc=>by simp at hc) (λ_=>?_));refine(Ok.mkI (by omega) (by omega)).bind λz hz=>?_;refine Ok.andThen (A:=λs=>s.length=x.A4.length/\∀(i:Nat) t v,x.A4[i]? = some t->s[i]? = some v->Q0 b p i t v) (B:=λ_=>False) ?_ (λs hs=>Ok.pure ⟨rfl,hs⟩) (λ_ h=>h.elim);refine c8 (I:=λj s=>s.length=x.A4.length/\(∀(i:Nat) t v,i<j->x.A4[i]? = some t->s[i]? = some v->Q0 b p i t v)/\∀(i:Nat) v,j<=i->s[i]? = some v->v=0) ?_ (λj t s ht hs=>?_) λs hs=>?_
 ·rw[hz];refine⟨by simp,λi t v hi=>by omega,λi v _ hv=>?_⟩;have:=ae hv;exact(List.mem_replicate.1 this).2
 ·obtain⟨g1,g2,g3⟩:=hs;have hj:=(aa.1 ht).1;have hthr:=hx.thr t (ae ht);have hcnt:cnt 0 j=(j:Int):=Cn (by omega);unfold Arp;rw[hcnt,At2 h];simp only[ab];have stay:Hg (λs=>s.length=x.A4.length/\(∀(i:Nat) t v,i<j+1->x.A4[i]? = some t->s[i]? = some v->Q0 b p i t v)/\∀(i:Nat) v,j+1<=i->s[i]? = some v->v=0) (λs=>s.length=x.A4.length/\∀(i:Nat) t v,x.A4[i]? = some t->s[i]? = some v->Q0 b p i t v) (λ(_:Unit)=>False) (.next s):=by
   refine⟨g1,λi t' v hi ht' hv=>?_,λi v hi hv=>g3 i v (by omega) hv⟩;by_cases e:i=j
   ·subst e;rw[ht]at ht';cases ht';have:=g3 i v (by omega) hv;subst this;exact Au3 hp hthr i
   ·exact g2 i t' v (by omega) ht' hv
  by_cases hq:0<=own b j
  ·obtain⟨c,hc,hlt⟩:=Ah5 hq;have hown:own b j=(c:Int):=hc;have hsv:=Aj9 h hp hlt;rw[hc];rw[hsv];have e1:As [(decide ((c:Int)>=0),true)] (some (svB b p 1000 c)) default=some (svB b p 1000 c):=by
    rw[dD (by omega)];rfl
   rw[e1];simp only[ab];refine c6 (λhcc=>?_) (λ_=>⟨_,rfl,stay⟩);simp only[ac]at hcc;have hlim:=P1 (p:=p) (i:=c) (by omega);rw[B1 hlim];simp only[ab];refine(Axm hthr _).bind λm hm=>(cP (by omega) (by omega)).bind λ_ _=>(cT (by omega) (by omega)).bind λs' hs'=>c7 ?_;subst hs';rw[aE];refine⟨by rw[bl];exact g1,λi t' v hi ht' hv=>?_,λi v hi hv=>?_⟩
   ·rw[aH]at hv;by_cases e:j=i
    ·subst e;rw[ht]at ht';cases ht';rw[if_pos rfl,if_pos (by omega)]at hv;cases hv;refine⟨hm.1,λk hk=>?_,λ_=>⟨c,hown,hcc.2⟩⟩;have:k=c:=by omega
     subst this;exact hm.2 (Aon hp hlt)
    ·rw[if_neg e]at hv;exact g2 i t' v (by omega) ht' hv
   ·rw[aH,if_neg (by omega)]at hv;exact g3 i v (by omega) hv
  ·have e0:decide (own b j>=0)=false:=dE (by omega);show Ok ((As [(decide (own b j>=0),true)] _ _).bind λy11=>bif (decide (own b j>=0)&&y11)then _ else _) _;rw[e0];exact⟨_,rfl,stay⟩
 ·exact⟨hs.1,λi t v ht hv=>hs.2.1 i t v (aa.1 ht).1 ht hv⟩
theorem Ut(hp:Av b p)(hj:j<b.Ah.length):p.Ai[j]? = some (p.Ai.getD j false):=by
 have:=hp.ncl;rw[ai (by omega)];simp[List.getD,List.getElem?_eq_getElem (show j<p.Ai.length by omega)]
variable{x:Ak}
theorem A2m(hx:b.Ah[j]? = some x):b.Ah.getD j default=x:=by simp[List.getD,hx]
def E2(p:Ad)(x:Ak):Bool:=
 brk p.Al 3 x.A || (if x.Kind=1 then brk p.Al 3 x.B else if x.Kind=2 then brk p.Al 1 x.B || ((p.Ae.getD x.B.toNat default).State != 2) else brk p.Al 4 x.B)
theorem Ayf(hp:Av b p)(k n:Int)(acts:List Aw):Oc k n ⟨b,p,acts⟩=some (brk p.Al k n,⟨b,p,acts⟩):=by
 have:=hp.brk.len;unfold Oc;rw[Gy (by dsimp only;omega)];rfl
theorem App(h:Ax b)(hp:Av b p)(acts:List Aw)(hx:x∈b.Ah):Zs ⟨b,p,acts⟩ x=some (E2 p x,⟨b,p,acts⟩):=by
 have hbr:=(h.br x hx).2;have hns:=hp.nso;unfold Zs E2;simp only[Ayf hp,ab];cases brk p.Al 3 x.A with
 |true=>rfl
 | false=>
  simp only[cond_false,aT];rcases hbr with⟨hk,_⟩|⟨hk,h0,h1⟩|⟨hk,_⟩
  ·rw[hk];rfl
  ·rw[hk];have e:p.Ae[x.B.toNat]? = some (p.Ae.getD x.B.toNat default):=by
    rw[ai (by omega)];simp[List.getD,List.getElem?_eq_getElem (show x.B.toNat<p.Ae.length by omega)]
   have e2:getI p.Ae x.B=some (p.Ae.getD x.B.toNat default):=by
    unfold getI;rw[dD h0];exact e
   rw[e2];cases brk p.Al 1 x.B <;> rfl
  ·rw[hk];rfl
def Ed(b:Ab)(C:List Bool)(q:Ak->Bool)(n:Nat):List Int:=((List.range n).filter λi=>C.getD i false&&q (b.Ah.getD i default)).map λ(i:Nat)=>(i:Int)
variable{i:Int}
theorem M0{n:Nat}:i∈Ed b C q n↔∃k:Nat,i=(k:Int)/\k<n/\C.getD k false=true/\q (b.Ah.getD k default)=true:=by
 unfold Ed;simp only[an,ay,be,ac];constructor
 ·rintro⟨k,⟨h1,h2,h3⟩,rfl⟩;exact⟨k,rfl,h1,h2,h3⟩
 ·rintro⟨k,rfl,h1,h2,h3⟩;exact⟨k,⟨h1,h2,h3⟩,rfl⟩
theorem Hn(b:Ab)(C:List Bool)(q:Ak->Bool)(n:Nat):(Ed b C q n).length<=n:=Fb _ n
def Ji(C:List Bool)(l:List Int):List Bool:=l.foldl (λc i=>c.set i.toNat false) C
def Mx(l:List Int):List Aw:=l.map λi=>⟨2,i,0⟩
theorem yV:∀(l:List Int)(C:List Bool),(Ji C l).length=C.length
 | [],_=>rfl
 |i::l,C=>by
  show (Ji (C.set i.toNat false) l).length=_;rw[yV l];simp
theorem Akl(C:List Bool)(l:List Int)(i:Int):Ji C (l++[i])=(Ji C l).set i.toNat false:=by
 unfold Ji;rw[bc];rfl
theorem Ab6{b:Ab}:∀(l:List Int){p:Ad},Av b p->Av b ⟨Ji p.Ai l,p.Ae,p.An,p.Al⟩
 | [],_,hp=>hp
 |i::l,p,hp=>Ab6 l (p:=⟨p.Ai.set i.toNat false,p.Ae,p.An,p.Al⟩) (Akm hp i.toNat)
theorem As5(ha:acts.length<=1000000)(h0:0<=i)(h1:i<p.Ai.length):Qr ⟨b,p,acts⟩ i=some ⟨b,⟨p.Ai.set i.toNat false,p.Ae,p.An,p.Al⟩,acts++[⟨2,i,0⟩]⟩:=by
 refine cU ?_;unfold Qr;refine(cP h0 h1).bind λ_ _=>(cT h0 h1).bind λy hy=>(cQ (by simp;omega)).bind λz hz=>Ok.pure ?_;rw[hy,hz]
theorem Xf{l:List Int}(ha:acts.length+l.length<=1000000)(hl:∀i,i∈l->0<=i/\i<p.Ai.length) :
  Ok (foldI Ve l 0 (b.Am,b.Ah,b.Ae,b.Ag,b.Phase,b.Aq,p.Ai,p.Ae,p.An,p.Al,acts)) (Ep (λs=>s=(b.Am,b.Ah,b.Ae,b.Ag,b.Phase,b.Aq,Ji p.Ai l,p.Ae,p.An,p.Al,acts++Mx l)) λ(_:Unit)=>False):=by
 refine c8 (I:=λj s=>s=(b.Am,b.Ah,b.Ae,b.Ag,b.Phase,b.Aq,Ji p.Ai (l.take j),p.Ae,p.An,p.Al,acts++Mx (l.take j))) (by simp[Ji,Mx]) (λj i s hi hs=>?_) λs hs=>?_
 ·have hj:=(aa.1 hi).1;have hin:=hl i (ae hi);subst hs;unfold Ve;have e:=As5 (b:=b) (p:=⟨Ji p.Ai (l.take j),p.Ae,p.An,p.Al⟩) (acts:=acts++Mx (l.take j)) (by simp[Mx];omega) hin.1 (by rw[yV];exact hin.2);refine Ok.bind (P:=λy=>y=_) (cR e rfl) λy hy=>c7 ?_;subst hy;rw[Bm hi,Akl];simp[Mx]
 ·rw[aJ]at hs;exact hs
def acA(b:Ab)(C:List Bool)(q:Ak->Bool):List Aw:=Mx (Ed b C q b.Ah.length)
def acC(b:Ab)(C:List Bool)(q:Ak->Bool):List Bool:=Ji C (Ed b C q b.Ah.length)
theorem Wc(b:Ab)(C:List Bool)(q:Ak->Bool):(acA b C q).length<=b.Ah.length:=by
 unfold acA Mx;rw[ar];exact Hn b C q _
theorem Aek(hp:Av b p)(q:Ak->Bool):Av b ⟨acC b p.Ai q,p.Ae,p.An,p.Al⟩:=Ab6 _ hp
theorem Rx(hx:b.Ah[j]? = some x):Ed b C q (j+1)=Ed b C q j++if(C.getD j false&&q x)=true then [(j:Int)] else []:=by
 unfold Ed;rw[Gv,A2m hx]
theorem Anu(h:Ax b)(hp:Av b p)(ha:acts.length<=1000):Zv ⟨b,p,acts⟩=some ⟨b,⟨acC b p.Ai (E2 p),p.Ae,p.An,p.Al⟩,acts++acA b p.Ai (E2 p)⟩:=by
 have hbl:=h.brl;have hnc:=hp.ncl;refine cU ?_;unfold Zv;refine Ok.andThen (A:=λs=>s=(b.Am,b.Ah,b.Ae,b.Ag,b.Phase,b.Aq,Ed b p.Ai (E2 p) b.Ah.length,p.Ai,p.Ae,p.An,p.Al,acts)) (B:=λ(_:Unit)=>False) ?_ (λs hs=>?_) (λ_ h=>h.elim)
 ·refine c8 (I:=λj s=>s=(b.Am,b.Ah,b.Ae,b.Ag,b.Phase,b.Aq,Ed b p.Ai (E2 p) j,p.Ai,p.Ae,p.An,p.Al,acts)) rfl (λj x s hx hs=>?_) λs hs=>hs;have hj:j<b.Ah.length:=(aa.1 hx).1;have hfl:=Hn b p.Ai (E2 p) j;have hfs:=Rx (C:=p.Ai) (q:=E2 p) hx;subst hs;unfold Aak;rw[Cn (by omega),B1 (Ut hp hj)];simp only[ab];have hd:=App h hp acts (ae hx);cases hC:p.Ai.getD j false with
  |false=>
   rw[hC]at hfs;refine c7 ?_;rw[hfs];simp
  | true=>
   rw[hC]at hfs;refine Ok.bind (P:=λy=>y=(E2 p x,(⟨b,p,acts⟩:A2))) (cR hd rfl) λy hy=>?_;subst hy;cases hq:E2 p x with
   |false=>
    rw[hq]at hfs;refine c7 ?_;rw[hfs];simp
   |true=>
    rw[hq]at hfs;refine Ok.bind (P:=λy=>y=Ed b p.Ai (E2 p) j++[(j:Int)]) (cQ (by simp;omega)) λy hy=>c7 ?_;rw[hy,hfs];simp
 ·subst hs;have hfl:=Hn b p.Ai (E2 p) b.Ah.length;refine Ok.andThen (Xf (b:=b) (p:=p) (acts:=acts) (l:=Ed b p.Ai (E2 p) b.Ah.length) (by omega) λi hi=>?_) (λs hs=>?_) (λ_ h=>h.elim)
  ·obtain⟨k,rfl,hk,_⟩:=M0.1 hi;omega
  ·subst hs;exact Ok.pure rfl
def Gx(b:Ab)(p:Ad)(x:Ak):Bool:=x.Kind==3 && !Rk b p x.A.toNat
theorem Ax7(h:Ax b)(hp:Av b p)(acts:List Aw)(hx:x∈b.Ah):Zr x ⟨b,p,acts⟩=some (Gx b p x,⟨b,p,acts⟩):=by
 have hA:=(h.br x hx).1;have hl:=Ah2 h hp (n:=x.A.toNat) (by omega);rw[bA hA.1]at hl;unfold Zr Gx;rw[hl];cases x.Kind==3 <;> rfl
theorem Ant(h:Ax b)(hp:Av b p)(ha:acts.length<=1000):Zu ⟨b,p,acts⟩=some ⟨b,⟨acC b p.Ai (Gx b p),p.Ae,p.An,p.Al⟩,acts++acA b p.Ai (Gx b p)⟩:=by
 have hbl:=h.brl;have hnc:=hp.ncl;refine cU ?_;unfold Zu;refine Ok.andThen (A:=λs=>s=(b.Am,b.Ah,b.Ae,b.Ag,b.Phase,b.Aq,Ed b p.Ai (Gx b p) b.Ah.length,p.Ai,p.Ae,p.An,p.Al,acts)) (B:=λ(_:Unit)=>False) ?_ (λs hs=>?_) (λ_ h=>h.elim)
 ·refine c8 (I:=λj s=>s=(b.Am,b.Ah,b.Ae,b.Ag,b.Phase,b.Aq,Ed b p.Ai (Gx b p) j,p.Ai,p.Ae,p.An,p.Al,acts)) rfl (λj x s hx hs=>?_) λs hs=>hs;have hj:j<b.Ah.length:=(aa.1 hx).1;have hfl:=Hn b p.Ai (Gx b p) j;have hfs:=Rx (C:=p.Ai) (q:=Gx b p) hx;subst hs;unfold Aaj;rw[Cn (by omega),B1 (Ut hp hj)];simp only[ab];have hd:=Ax7 h hp acts (ae hx);cases hC:p.Ai.getD j false with
  |false=>
   rw[hC]at hfs;refine c7 ?_;rw[hfs];simp
  | true=>
   rw[hC]at hfs;refine Ok.bind (P:=λy=>y=(Gx b p x,(⟨b,p,acts⟩:A2))) (cR hd rfl) λy hy=>?_;subst hy;cases hq:Gx b p x with
   |false=>
    rw[hq]at hfs;refine c7 ?_;rw[hfs];simp
   |true=>
    rw[hq]at hfs;refine Ok.bind (P:=λy=>y=Ed b p.Ai (Gx b p) j++[(j:Int)]) (cQ (by simp;omega)) λy hy=>c7 ?_;rw[hy,hfs];simp
 ·subst hs;have hfl:=Hn b p.Ai (Gx b p) b.Ah.length;refine Ok.andThen (Xf (b:=b) (p:=p) (acts:=acts) (l:=Ed b p.Ai (Gx b p) b.Ah.length) (by omega) λi hi=>?_) (λs hs=>?_) (λ_ h=>h.elim)
  ·obtain⟨k,rfl,hk,_⟩:=M0.1 hi;omega
  ·subst hs;exact Ok.pure rfl
def Us(b:Ab)(p:Ad):Ad:=⟨acC b p.Ai (E2 p),p.Ae,p.An,p.Al⟩
def Aua(b:Ab)(p:Ad):Ad:=⟨acC b (Us b p).Ai (Gx b (Us b p)),p.Ae,p.An,p.Al⟩
def Ur(b:Ab)(p:Ad):Ad:=⟨(Aua b p).Ai,Ft b (Aua b p),p.An,p.Al⟩
def Xr(b:Ab)(p:Ad):List Aw:=acA b p.Ai (E2 p)++acA b (Us b p).Ai (Gx b (Us b p))
theorem Aif(hp:Av b p):Av b (Us b p):=Aek hp _
theorem uQ(hp:Av b p):Av b (Aua b p):=Aek (Aif hp) _
theorem Aie(hp:Av b p):Av b (Ur b p):=Kg (uQ hp) (Ix b _) (Ry (uQ hp))
theorem Adq(b:Ab)(p:Ad):(Xr b p).length<=2*b.Ah.length:=by
 have h1:=Wc b p.Ai (E2 p);have h2:=Wc b (Us b p).Ai (Gx b (Us b p));unfold Xr;rw[aB];omega
theorem Auc(h:Ax b)(hp:Av b p):Z4 ⟨b,p,[]⟩=some ⟨b,Ur b p,Xr b p⟩:=by
 have hbl:=h.brl;have hl:=Wc b p.Ai (E2 p);unfold Z4;rw[Anu h hp (by simp)];simp only[ab,List.nil_append];have e2:=Ant h (Aif hp) (acts:=acA b p.Ai (E2 p)) (by omega);have e3:=Ou h (uQ hp);refine cU ?_;refine Ok.bind (P:=λy=>y=_) (cR e2 rfl) λy hy=>?_;subst hy;refine Ok.bind (P:=λy=>y=_) (cR e3 rfl) λy hy=>?_;subst hy;exact Ok.pure rfl
end Go.Proofs.YtiaaaghdkhnonaaGreat
