import Derived.Test.YtiaaaghdkhnonaaGreatMo
import Derived.Test.YtiaaaghdkhnonaaGreatHo
import Derived.Test.YtiaaaghdkhnonaaGreatDx
namespace Go.Proofs.YtiaaaghdkhnonaaGreat
open Go.SL
variable{α ρ:Type}{b:Aa}{x y:Ab}{p:Ad}{s s0:Af}{like:Aj}{q:Ak->Bool}{z:Ak×Bool}{a hi k lo nb st:Int}{l:List Ab}{ss:List Aj}{l0:List Ak}{acts:List As}{so:List B5}{C c t:List Bool}{d idx:List Int}{B f i j m n ns r:Nat}
variable{n x:Int}
theorem Qv(h:0<n):-n<Int.tmod x n/\Int.tmod x n<n:=by
 have h1:=Int.tmod_lt_of_pos x h;have h2:=Int.lt_tmod_of_pos x h;exact⟨h2,h1⟩
theorem jQ(h:0<n)(h0:0<=x):0<=Int.tmod x n/\Int.tmod x n<n:=⟨Int.tmod_nonneg n h0,(Qv h).2⟩
structure A1(s:Af):Prop where
 lo:0<=s.At
 hi:s.At<=s.L.length
 len:s.L.length<=600
def InR(n r:Int):Prop:=(1<=n->0<=r/\r<n)/\(n<1->r=0)
theorem A15(x n:Int)(h:n<=4611686018427387904):Ok (F94 x n) (InR n):=by
 unfold F94;refine c6 (λh1=>?_) λh1=>?_
 ·simp only[dA]at h1;exact Ok.pure ⟨λh2=>by omega,λ_=>rfl⟩
 ·simp only[dC]at h1;refine(Ok.nzI (by omega)).bind λ_ _=>(Ok.nzI (by omega)).bind λ_ _=>Ok.pure ⟨λ_=>?_,λh2=>by omega⟩;have h2:=Qv (x:=x) (n:=n) (by omega);rw[Az (by omega)];exact jQ (by omega) (by omega)
theorem Uu(hs:A1 s)(n:Int)(h:n<=4611686018427387904):Ok (F44 s n) λy=>A1 y.2/\InR n y.1:=by
 obtain⟨h1,h2,h3⟩:=hs;unfold F44;refine c6 (λh4=>?_) λh4=>?_
 ·exact Ok.pure ⟨⟨h1,h2,h3⟩,λh5=>⟨by simp,by show (0:Int)<n;omega⟩,λ_=>rfl⟩
 ·simp only[dC]at h4;have e:w64 (s.At+1)=s.At+1:=Az (by omega);rw[e,Az (n:=s.At+1-1) (by omega)];refine(cR (by omega) (by omega)).bind λx _=>(A15 x n h).bind λr hr=>Ok.pure ⟨⟨?_,?_,h3⟩,hr⟩
  ·show 0<=s.At+1;omega
  grind
theorem C9(hs:A1 s)(n:Int)(h0:1<=n)(h:n<=4611686018427387904):Ok (F44 s n) λy=>A1 y.2/\0<=y.1/\y.1<n:=
 (Uu hs n h).mono λ_ h=>⟨h.1,h.2.1 h0⟩
theorem Eh(hs:A1 s)(lo hi:Int)(h:lo<=hi)(h0:-1000000000000<=lo)(h1:hi<=1000000000000):Ok (F67 s lo hi) λy=>A1 y.2/\lo<=y.1/\y.1<=hi:=by
 unfold F67;have e:w64 (w64 (hi-lo)+1)=hi-lo+1:=by rw[Az (n:=hi-lo) (by omega),Az (by omega)]
 rw[e];refine(C9 hs _ (by omega) (by omega)).bind λy hy=>Ok.pure ⟨hy.1,?_⟩;have:=hy.2;show lo<=w64 (lo+y.1)/\w64 (lo+y.1)<=hi;rw[Az (by omega)];omega
theorem Ct(hs:A1 s)(l:List Int)(h:1<=l.length)(h1:l.length<=1000):Ok (F20 s l) λy=>A1 y.2/\y.1∈l:=by
 unfold F20;grind[Ok.bind,C9,cR,Ok.pure]
theorem A14(l:List Int):Ok (F10 l) A1:=by
 unfold F10;refine(Ok.cutI (by omega) (by omega) (by omega)).bind λy hy=>Ok.pure ⟨by simp,by simp,?_⟩;grind
def Si(nb:Int)(ns nc:Nat)(x:Ak):Prop:=
 (0<=x.A/\x.A<nb)/\((x.Kind=1/\x.A<x.B/\x.B<nb)\/(x.Kind=2/\0<=x.B/\x.B<ns)\/(x.Kind=3/\0<=x.B/\x.B<nc))
def brs(l:List Ak)(k:Int)(i:Nat):List Ak:=l.filter λx=>x.Kind==k&&x.B==(i:Int)
def Alo(x:B5):Prop:=(1<=x.Rating/\x.Rating<=50000)/\(0<=x.Least/\x.Least<=x.Rating)/\0<=x.Start/\x.Start<=600
def Am7(i:Nat)(x:A7):Prop:=
 (0<=x.Load/\x.Load<=50000)/\(0<=x.Least/\x.Least<=x.Load)/\(0<=x.B2/\x.B2<=15)/\(-1<=x.Thruster/\x.Thruster<=7)/\x.Needs.length<=4 /\
 (∀n,n∈x.Needs->0<=n/\n<(i:Int))/\∀(j:Nat) a b,x.Needs[j]? = some a->x.Needs[j+1]? = some b->a<b
structure Ax(b:Aa):Prop where
 buses:1<=b.An/\b.An<=6
 brl:b.Ah.length<=24
 sol:b.Ae.length<=8
 col:b.Ag.length<=16
 phase:0<=b.Phase/\b.Phase<=1800
 freq:0<=b.Ar/\b.Ar<=6000
 br:∀x,x∈b.Ah->Si b.An b.Ae.length b.Ag.length x
 one:∀i,i<b.Ae.length->(brs b.Ah 2 i).length=1
 any:∀i,i<b.Ag.length->brs b.Ah 3 i≠[]
 nodup:∀i,((brs b.Ah 3 i).map (·.A)).Nodup
 so:∀x,x∈b.Ae->Alo x
 co:∀(i:Nat) x,b.Ag[i]? = some x->Am7 i x
theorem Hh(l m:List Ak)(k:Int)(i:Nat):brs (l++m) k i=brs l k i++brs m k i:=by unfold brs;rw[bp]
theorem Aic(x:Ak)(k:Int)(i:Nat):brs [x] k i=if x.Kind=k/\x.B=(i:Int)then [x] else []:=by
 unfold brs;grind
variable{l:List Ak}
theorem K8(h:∀x,x∈l->x.Kind=k->x.B≠(i:Int)):brs l k i=[]:=by
 unfold brs;rw[cH];grind
def Mf(nb:Int)(l:List Ak):Prop:=∀x,x∈l->x.Kind=1/\0<=x.A/\x.A<x.B/\x.B<nb
structure O8(nb:Int)(l:List Ak)(so:List B5):Prop where
 len:l.length<=4+so.length
 br:∀x,x∈l->(0<=x.A/\x.A<nb)/\((x.Kind=1/\x.A<x.B/\x.B<nb)\/(x.Kind=2/\0<=x.B/\x.B<so.length))
 one:∀i,i<so.length->(brs l 2 i).length=1
 so:∀x,x∈so->Alo x
structure Sg(nb:Int)(l:List Ak)(ns:Nat)(co:List A7):Prop where
 len:l.length<=4+ns+2*co.length
 br:∀x,x∈l->Si nb ns co.length x
 one:∀i,i<ns->(brs l 2 i).length=1
 any:∀i,i<co.length->brs l 3 i≠[]
 nodup:∀i,((brs l 3 i).map (·.A)).Nodup
 co:∀(i:Nat) x,co[i]? = some x->Am7 i x/\x.Thruster<=7
theorem O8.cons(h:O8 nb l so):Sg nb l so.length [] where
 len:=by have:=h.len;simp;omega
 br x hx:=by
  obtain⟨h1,h2⟩:=h.br x hx;exact⟨h1,h2.imp id .inl⟩
 one:=h.one
 any i hi:=by simp at hi
 nodup i:=by
  rw[K8]
  ·simp
  ·intro x hx h3;obtain⟨_,h2⟩:=h.br x hx;omega
 co i x hx:=by simp at hx
theorem O8.add(h:O8 nb l so){x:Ak}{y:B5}(hx:x.Kind=2/\x.B=so.length/\0<=x.A/\x.A<nb)(hy:Alo y):O8 nb (l++[x]) (so++[y]) where
 len:=by have:=h.len;simp;omega
 br z hz:=by
  rcases an.1 hz with hz|hz
  ·obtain⟨h1,h2⟩:=h.br z hz;grind
  grind
 one i hi:=by
  rw[aC]at hi;simp only[aS,bZ]at hi;rw[Hh,Aic,aC];by_cases e:i=so.length
  ·rw[K8,if_pos ⟨hx.1,by omega⟩]
   ·rfl
   ·intro z hz h2;obtain⟨_,h3⟩:=h.br z hz;omega
  ·rw[h.one i (by omega),if_neg (by omega)];rfl
 so z hz:=by
  rcases an.1 hz with hz|hz
  ·exact h.so z hz
  ·simp at hz;subst hz;exact hy
theorem Sg.add{m:List Ak}{co:List A7}(h:Sg nb l ns co){y:A7}(hm:∀x,x∈m->x.Kind=3/\x.B=co.length/\0<=x.A/\x.A<nb)(h1:m≠[])(h2:m.length<=2)(h3:(m.map (·.A)).Nodup)
  (hy:Am7 co.length y/\y.Thruster<=7):Sg nb (l++m) ns (co++[y]):=by
 have e1:brs m 3 co.length=m:=by
  unfold brs;rw[cm];intro x hx;obtain⟨g1,g2,_⟩:=hm x hx;simp[g1,g2]
 have e2:∀i,i≠co.length->brs m 3 i=[]:=λi hi=>K8 λx hx _ e=>by
  have:=(hm x hx).2.1;omega
 have e3:brs l 3 co.length=[]:=K8 λx hx h3 e=>by
  obtain⟨_,g⟩:=h.br x hx;omega
 have hlen:(co++[y]).length=co.length+1:=by simp
 refine⟨?_,λz hz=>?_,λi hi=>?_,λi hi=>?_,λi=>?_,λi x hx=>?_⟩
 ·have:=h.len;rw[aC,hlen];omega
 ·rw[hlen];rcases an.1 hz with hz|hz
  ·obtain⟨g1,g2⟩:=h.br z hz;exact⟨g1,by omega⟩
  ·obtain⟨g1,g2,g3⟩:=hm z hz;exact⟨g3,by omega⟩
 ·have:brs m 2 i=[]:=K8 λx hx h2=>by have:=(hm x hx).1;omega
  rw[Hh,this,aU];exact h.one i hi
 ·rw[Hh];rw[hlen]at hi;by_cases e:i=co.length
  ·subst e;rw[e1];simp[h1]
  ·have:=h.any i (by omega);simp[this]
 ·rw[Hh];by_cases e:i=co.length
  ·subst e;rw[e1,e3];simpa using h3
  ·rw[e2 i e,aU];exact h.nodup i
 ·rw[ck]at hx;split at hx
  ·exact h.co i x hx
  grind
theorem Mf.nil(nb:Int):Mf nb []:=λx hx=>by cases hx
theorem Mf.add(h:Mf nb l){x:Ak}(hx:x.Kind=1/\0<=x.A/\x.A<x.B/\x.B<nb):Mf nb (l++[x]):=λz hz=>by
 rcases an.1 hz with hz|hz
 ·exact h z hz
 ·simp at hz;subst hz;exact hx
theorem Mf.gens(h:Mf nb l)(hl:l.length<=4):O8 nb l [] where
 len:=by simpa using hl
 br x hx:=by have:=h x hx;exact⟨by omega,.inl (by omega)⟩
 one i hi:=by simp at hi
 so x hx:=by cases hx
variable{y:Int×Af}
theorem At1(hy:1<=y.1/\y.1<=4)(hs0:A1 s0) :
  Ok (whileN (Aep y) 1152921504606846976 (1,s0.L,s0.At,([]:List Ak))) (Em (λs=>A1 ⟨s.2.1,s.2.2.1⟩/\Mf y.1 s.2.2.2/\s.2.2.2.length<=3) (λ(_:Unit)=>False)):=by
 refine cQ (λs=>(1<=s.1/\s.1<=4/\s.1<=y.1)/\A1 ⟨s.2.1,s.2.2.1⟩/\Mf y.1 s.2.2.2/\(s.2.2.2.length:Int)+1<=s.1) (λs=>(y.1-s.1).toNat) _ _ ?_ ?_ ?_
 ·exact⟨by dsimp only;omega,hs0,Mf.nil _,by simp⟩
 ·dsimp only;omega
 ·rintro⟨i,L,a,l⟩ ⟨⟨h1,h2,h3⟩,h4,h5,h6⟩;dsimp only at h1 h2 h3 h4 h5 h6;unfold Aep;refine c6 (λh=>?_) (λh=>?_)
  ·simp only[dA]at h;have e:w64 (i+1)=i+1:=Az (by omega);dsimp only;rw[e];refine(C9 h4 6 (by omega) (by omega)).bind λu hu=>c6 (λ_=>?_) (λ_=>?_)
   ·refine(C9 hu.1 i h1 (by omega)).bind λv hv=>(cS (by simp;omega)).bind λm hm=>c7 ?_;subst hm;have:=hv.2;refine⟨⟨by dsimp only;omega,hv.1,h5.add ⟨rfl,by dsimp only;omega,by dsimp only;omega,by dsimp only;omega⟩,by simp;omega⟩,by dsimp only;omega⟩
   ·refine c7 ⟨⟨by dsimp only;omega,hu.1,h5,by dsimp only;omega⟩,by dsimp only;omega⟩
  ·exact cU ⟨h4,h5,by dsimp only;omega⟩
theorem At0(hy:1<=y.1/\y.1<=4)(hs0:A1 s0)(hk:0<=k/\k<5)(hl0:O8 y.1 l0 []) :
  Ok (whileN (Aeo y) 1152921504606846976 (k,s0.L,s0.At,l0,([]:List B5))) (Em (λs=>A1 ⟨s.2.1,s.2.2.1⟩/\O8 y.1 s.2.2.2.1 s.2.2.2.2/\s.2.2.2.2.length<=4) (λ(_:Unit)=>False)):=by
 refine cQ (λs=>(0<=s.1/\s.1+(s.2.2.2.2.length:Int)<=4)/\A1 ⟨s.2.1,s.2.2.1⟩/\O8 y.1 s.2.2.2.1 s.2.2.2.2) (λs=>s.1.toNat) _ _ ?_ ?_ ?_
 ·exact⟨by simp;omega,hs0,hl0⟩
 ·dsimp only;omega
 ·rintro⟨i,L,a,l,so⟩ ⟨⟨h1,h2⟩,h4,h5⟩;dsimp only at h1 h2 h4 h5;unfold Aeo;refine c6 (λh=>?_) (λh=>?_)
  ·simp only[dA]at h;have e:w64 (i-1)=i-1:=Az (by omega);have hl:=h5.len;dsimp only;rw[e];refine(C9 h4 y.1 hy.1 (by omega)).bind λu hu=>(cS (by simp;omega)).bind λm hm=>?_;refine(Ct hu.1 _ (by simp) (by simp)).bind λv hv=>(Ct hv.1 _ (by simp) (by simp)).bind λp hp=>(Ct hp.1 _ (by simp) (by simp)).bind λq hq=>(cS (by simp;omega)).bind λo ho=>c7 ?_;subst hm;subst ho;have g1:=hu.2;have g2:v.1=10\/v.1=50\/v.1=100:=by simpa using hv.2
   have g3:p.1=0\/p.1=5\/p.1=v.1:=by simpa using hp.2
   have g4:q.1=0\/q.1=1\/q.1=3:=by simpa using hq.2
   refine⟨⟨by simp;omega,hq.1,h5.add ⟨rfl,rfl,g1⟩ ⟨by dsimp only;omega,by dsimp only;omega,by dsimp only;omega⟩⟩,by dsimp only;omega⟩
  ·exact cU ⟨h4,h5,by dsimp only;omega⟩
theorem Axa(h:0<=x)(h2:x<=50000):0<=w64 (Int.tdiv x 2)/\w64 (Int.tdiv x 2)<=x:=by
 have:Int.tdiv x 2=x / 2:=cu h;rw[this,Az (by omega)];omega
theorem Arw(h:0<=x)(h2:x<=50000):0<=w64 (Int.tdiv x 3)/\w64 (Int.tdiv x 3)<=x:=by
 have:Int.tdiv x 3=x / 3:=cu h;rw[this,Az (by omega)];omega
theorem Atz(hy:1<=y.1/\y.1<=4)(hs0:A1 s0)(hk:0<=k/\k<6)(hns:ns<=4)(hl0:Sg y.1 l0 ns []) :
  Ok (whileN (Aen y) 1152921504606846976 (k,s0.L,s0.At,l0,([]:List A7))) (Em (λs=>A1 ⟨s.2.1,s.2.2.1⟩/\Sg y.1 s.2.2.2.1 ns s.2.2.2.2/\s.2.2.2.2.length<=5) (λ(_:Unit)=>False)):=by
 refine cQ (λs=>(0<=s.1/\s.1+(s.2.2.2.2.length:Int)<=5)/\A1 ⟨s.2.1,s.2.2.1⟩/\Sg y.1 s.2.2.2.1 ns s.2.2.2.2) (λs=>s.1.toNat) _ _ ?_ ?_ ?_
 ·exact⟨by simp;omega,hs0,hl0⟩
 ·dsimp only;omega
 ·rintro⟨i,L,a,l,co⟩ ⟨⟨h1,h2⟩,h4,h5⟩;dsimp only at h1 h2 h4 h5;unfold Aen;refine c6 (λh=>?_) (λh=>?_)
  ·simp only[dA]at h;have e:w64 (i-1)=i-1:=Az (by omega);have hl:=h5.len;dsimp only;rw[e];refine(C9 h4 y.1 hy.1 (by omega)).bind λu hu=>(cS (by simp;omega)).bind λm hm=>?_;subst hm;have g1:=hu.2;refine Ok.bind (P:=λv=>A1 v.2) (c9 (λ_=>(C9 hu.1 4 (by omega) (by omega)).mono λ_ h=>h.1) λ_=>hu.1) λv hv=>?_;refine Ok.inner (A:=λ(r:List Ak)=>∃m,r=l++m/\(∀x,x∈m->x.Kind=3/\x.B=co.length/\0<=x.A/\x.A<y.1)/\m≠[]/\m.length<=2/\(m.map (·.A)).Nodup) (B:=λ(_:Unit)=>False) ?_ (λr hr=>?_) (λ_ h=>h.elim)
   ·unfold Aqy;refine c6 (λhc=>?_) (λhc=>?_)
    ·simp only[ae,dA]at hc;have e2:w64 (u.1+1)=u.1+1:=Az (by omega);rw[e2];refine(Ok.nzI (by omega)).bind λ_ _=>(cS (by simp;omega)).bind λm hm=>cZ ?_;subst hm;have g2:=jQ (x:=u.1+1) (n:=y.1) (by omega) (by omega);have g3:Int.tmod (u.1+1) y.1≠u.1:=by
      rw[Int.tmod_eq_emod_of_nonneg (by omega)];intro e3;by_cases g4:u.1+1=y.1
      ·rw[g4,Int.emod_self]at e3;omega
      ·rw[Int.emod_eq_of_lt (by omega) (by omega)]at e3;omega
     refine⟨_,bw _ _ _,?_,by simp,by simp,?_⟩
     ·intro x hx;simp at hx;rcases hx with rfl|rfl
      ·exact⟨rfl,rfl,g1⟩
      ·exact⟨rfl,rfl,g2⟩
     ·simp;exact λh=>g3 h.symm
    ·exact cZ ⟨_,rfl,λx hx=>by simp at hx;subst hx;exact⟨rfl,rfl,g1⟩,by simp,by simp,by simp⟩
   ·obtain⟨m,rfl,hm,hm1,hm2,hm3⟩:=hr;refine(Ct hv _ (by simp) (by simp)).bind λp hp=>(Ct hp.1 _ (by simp) (by simp)).bind λq hq=>(C9 hq.1 3 (by omega) (by omega)).bind λpr hpr=>(Eh hpr.1 (-1) 2 (by omega) (by omega) (by omega)).bind λth hth=>?_;have k1:p.1=0\/p.1=5\/p.1=20\/p.1=40:=by simpa using hp.2
    have k2:q.1=0\/q.1=w64 (Int.tdiv p.1 2)\/q.1=p.1:=by simpa using hq.2
    have k3:=Axa (x:=p.1) (by omega) (by omega);have k4:=hpr.2;have k5:=hth.2;refine Ok.bind (P:=λv=>A1 v.2) (c9 (λ_=>(C9 hth.1 4 (by omega) (by omega)).mono λ_ h=>h.1) λ_=>hth.1) λw hw=>c6 (λhc=>?_) (λhc=>?_)
    ·simp only[Avv,ae,dA]at hc;refine(C9 hw _ (by omega) (by omega)).bind λn hn=>(cS (by simp;omega)).bind λo ho=>c7 ?_;subst ho;have k6:=hn.2;refine⟨⟨by simp;omega,hn.1,h5.add hm hm1 hm2 hm3 ⟨⟨by dsimp only;omega,by dsimp only;omega,by dsimp only;omega,by dsimp only;omega,by simp,?_,?_⟩,by dsimp only;omega⟩⟩,by dsimp only;omega⟩
     ·intro z hz;simp at hz;subst hz;exact k6
     ·intro j a b ha hb;simp at hb
    ·refine(cS (by simp;omega)).bind λo ho=>c7 ?_;subst ho;refine⟨⟨by simp;omega,hw,h5.add hm hm1 hm2 hm3 ⟨⟨by dsimp only;omega,by dsimp only;omega,by dsimp only;omega,by dsimp only;omega,by simp,?_,?_⟩,by dsimp only;omega⟩⟩,by dsimp only;omega⟩
     ·intro z hz;simp at hz
     ·intro j a b ha hb;simp at ha
  ·exact cU ⟨h4,h5,by dsimp only;omega⟩
structure A47(b:Aa):Prop where
 ok:Ax b
 buses:b.An<=4
 brl:b.Ah.length<=18
 sol:b.Ae.length<=4
 col:b.Ag.length<=5
 thr:∀x,x∈b.Ag->x.Thruster<=7
theorem Ava(hs:A1 s):Ok (F84 s) λy=>A47 y.1/\A1 y.2:=by
 unfold F84;refine(Eh hs 1 4 (by omega) (by omega) (by omega)).bind λy1 h1=>(Ct h1.1 _ (by simp) (by simp)).bind λy3 h3=>(Ct h3.1 _ (by simp) (by simp)).bind λy5 h5=>?_;refine(At1 h1.2 h5.1).andThen (λs0 hs0=>?_) (λ_ h=>h.elim);refine Ok.bind (P:=λv=>A1 v.2) (c9 (λ_=>(C9 hs0.1 2 (by omega) (by omega)).mono λ_ h=>h.1) λ_=>hs0.1) λy15 h15=>?_;have hb:=h1.2;refine Ok.andThen (A:=λ(l:List Ak)=>Mf y1.1 l/\l.length<=4) (B:=λ(_:Unit)=>False) ?_ (λl hl=>?_) (λ_ h=>h.elim)
 ·unfold Aqz;refine c6 (λhc=>?_) (λhc=>cZ ⟨hs0.2.1,by omega⟩);simp only[ae,dA]at hc;have e:w64 (y1.1-1)=y1.1-1:=Az (by omega);rw[e];have:=hs0.2.2;refine(cS (by simp;omega)).bind λm hm=>cZ ?_;subst hm;exact⟨hs0.2.1.add ⟨rfl,by simp,by dsimp only;omega,by dsimp only;omega⟩,by simp;omega⟩
 ·refine(C9 h15 5 (by omega) (by omega)).bind λy20 h20=>?_;refine(At0 h1.2 h20.1 h20.2 (hl.1.gens hl.2)).andThen (λs2 hs2=>?_) (λ_ h=>h.elim);refine(C9 hs2.1 6 (by omega) (by omega)).bind λy35 h35=>?_;refine(Atz h1.2 h35.1 h35.2 hs2.2.2 hs2.2.1.cons).andThen (λs3 hs3=>Ok.pure ⟨?_,hs3.1⟩) (λ_ h=>h.elim);obtain⟨_,hc,hl5⟩:=hs3;have hl4:=hs2.2.2;have hlen:=hc.len;have p3:y3.1=0\/y3.1=50\/y3.1=200\/y3.1=1800:=by simpa using h3.2
  have p5:y5.1=0\/y5.1=10\/y5.1=50:=by simpa using h5.2
  refine⟨⟨by dsimp only;omega,by dsimp only;omega,by dsimp only;omega,by dsimp only;omega,by dsimp only;omega,by dsimp only;omega,hc.br,hc.one,hc.any,hc.nodup,hs2.2.1.so,λi x hx=>(hc.co i x hx).1⟩,by dsimp only;omega,by dsimp only;omega,hl4,hl5,λx hx=>?_⟩;obtain⟨i,hi⟩:=bv hx;exact(hc.co i x hi).2
set_option linter.unusedVariables false
def Fy(p:Ab):Prop:=(1<=p.Kind/\p.Kind<=9)/\0<=p.Number/\p.Number<=63
def Akl(x y:Bc):Prop:=Dh x.From y.From=true\/x.From=y.From/\Dh x.To y.To=true
structure uM(l:List Ab)(L:List Bc):Prop where
 len:L.length<=20
 mem:∀x,x∈L->x.From∈l/\x.To∈l/\x.From≠x.To
 asc:L.Pairwise Akl
def Ic:List ByteArray:=[(⟨#[111,110,101]⟩:ByteArray),(⟨#[116,119,111]⟩:ByteArray),(⟨#[103,45,51]⟩:ByteArray),(⟨#[120]⟩:ByteArray)]
structure Xt(l:List Ab)(G:List Bu):Prop where
 len:G.length<=3
 mem:∀g,g∈G->g.Name∈Ic/\g.Parts≠[]/\Es g.Parts/\(∀p,p∈g.Parts->p∈l)/\g.Parts.length<=40
 dist:G.Pairwise λa b=>a.Name≠b.Name
structure Wb(d:Ba):Prop where
 asc:Es d.Parts
 ok:∀p,p∈d.Parts->Fy p
 len:d.Parts.length<=30
 links:uM d.Parts d.Links
 groups:Xt d.Parts d.Groups
theorem M3(x y:Ab):((x.Kind==y.Kind)&&((x.Number==y.Number)&&true))=E1 x y:=by
 unfold E1;rw[bK]
variable{x y:Ab}{l:List Ab}
theorem Un(hl:Es l)(hx:l[i]? = some x)(hy:l[j]? = some y)(h:i<j):Dh x y=true:=by
 obtain⟨h1,rfl⟩:=aa.1 hx;obtain⟨h2,rfl⟩:=aa.1 hy;exact bT.1 hl i j h1 h2 h
theorem Vx{R:α->α->Prop}{l:List α}{x:α}(h:l.Pairwise R)(hx:∀y,y∈l->R y x):(l++[x]).Pairwise R:=
 List.pairwise_append.2 ⟨h,List.pairwise_singleton _ _,λa ha b hb=>by grind⟩
theorem Aih(hs:A1 s)(hn:n<=1000)(hk:1<=k/\k<=1000):Ok (F91 s n k) λy=>A1 y.2/\y.1.Pairwise (· < ·)/\(∀x,x∈y.1->0<=x/\x<n)/\(y.1.length:Int)<=max n 0:=by
 unfold F91;refine Ok.andThen (A:=λs=>A1 ⟨s.2.1,s.2.2.1⟩/\s.2.2.2.Pairwise (· < ·)/\(∀x,x∈s.2.2.2->0<=x/\x<n)/\(s.2.2.2.length:Int)<=max n 0) (B:=λ(_:Unit)=>False) ?_ (λz hz=>Ok.pure hz) (λ_ h=>h.elim);refine cQ (λs=>(0<=s.1/\s.1<=max n 0/\(s.2.2.2.length:Int)<=s.1)/\A1 ⟨s.2.1,s.2.2.1⟩/\s.2.2.2.Pairwise (· < ·)/\(∀x,x∈s.2.2.2->0<=x/\x<s.1/\x<n)) (λs=>(n-s.1).toNat) _ _ ?_ ?_ ?_
 ·exact⟨⟨by omega,by dsimp only;omega,by simp⟩,hs,bS,by simp⟩
 ·dsimp only;omega
 ·rintro⟨i,L,a,l⟩ ⟨⟨h1,h2,h3⟩,h4,h5,h6⟩;dsimp only at h1 h2 h3 h4 h5 h6;unfold Aqv;refine c6 (λh=>?_) (λh=>?_)
  ·simp only[dA]at h;have e:w64 (i+1)=i+1:=Az (by omega);dsimp only;rw[e];refine(C9 h4 k hk.1 (by omega)).bind λu hu=>c6 (λ_=>?_) (λ_=>?_)
   ·refine(cS (by simp;omega)).bind λm hm=>c7 ?_;subst hm;refine⟨⟨⟨by dsimp only;omega,by dsimp only;omega,by simp;omega⟩,hu.1,Vx h5 λy hy=>(h6 y hy).2.1,λx hx=>?_⟩,by dsimp only;omega⟩;grind
   ·exact c7 ⟨⟨⟨by dsimp only;omega,by dsimp only;omega,by dsimp only;omega⟩,hu.1,h5,λx hx=>by have:=h6 x hx;dsimp only;omega⟩,by dsimp only;omega⟩
  ·simp only[dC]at h;exact cU ⟨h4,h5,λx hx=>by have:=h6 x hx;omega,by dsimp only;omega⟩
def Xs(l:List Ab)(i j:Nat)(L:List Bc):Prop:=
 L.length<=20/\(∀x,x∈L->x.From∈l/\x.To∈l/\x.From≠x.To)/\L.Pairwise Akl /\
 ∀x,x∈L->(∃k,k<i/\l[k]? = some x.From)\/l[i]? = some x.From/\∃k,k<j/\l[k]? = some x.To
theorem Xs.mono{L:List Bc}(h:Xs l i j L):Xs l i (j+1) L:=
 ⟨h.1,h.2.1,h.2.2.1,λx hx=>(h.2.2.2 x hx).imp id λ⟨h1,k,h2,h3⟩=>⟨h1,k,by omega,h3⟩⟩
theorem yO(hl:Es l)(hn:l.length<=40)(hs:A1 s):Ok (Aba s l) λy=>uM l y.1/\A1 y.2:=by
 unfold Aba;refine Ok.andThen (A:=λz=>Xs l l.length 0 z.2.2/\A1 ⟨z.1,z.2.1⟩) (B:=λ(_:Unit)=>False) ?_ (λz hz=>Ok.pure ⟨⟨hz.1.1,hz.1.2.1,hz.1.2.2.1⟩,hz.2⟩) (λ_ h=>h.elim);refine c8 (I:=λi z=>Xs l i 0 z.2.2/\A1 ⟨z.1,z.2.1⟩) ⟨⟨by simp,by simp,bS,by simp⟩,hs⟩ (λi x z hx hz=>?_) λz hz=>hz;unfold Aem;refine Ok.inner (A:=λz=>Xs l i l.length z.2.2/\A1 ⟨z.1,z.2.1⟩) (B:=λ(_:Unit)=>False) ?_ (λz hz=>c7 ⟨⟨hz.1.1,hz.1.2.1,hz.1.2.2.1,λy hy=>.inl ?_⟩,hz.2⟩) (λ_ h=>h.elim)
 ·refine c8 (I:=λj z=>Xs l i j z.2.2/\A1 ⟨z.1,z.2.1⟩) hz (λj y z hy hz=>?_) λz hz=>hz;unfold Ael;refine Ok.bind (P:=λv=>A1 v.2) (c9 (λ_=>(C9 hz.2 7 (by omega) (by omega)).mono λ_ h=>h.1) λ_=>hz.2) λv hv=>c6 (λhc=>?_) (λ_=>c7 ⟨hz.1.mono,hv⟩);simp only[Ah9,ae,dA,be,M3]at hc;obtain⟨h1,h2,h3,h4⟩:=hz.1;refine(cS (by simp;omega)).bind λm hm=>c7 ?_;subst hm;have hne:x≠y:=λe=>by
   have:=Di.2 e;rw[hc.1.1]at this;cases this
  refine⟨⟨by simp;omega,λw hw=>?_,Vx h3 λw hw=>?_,λw hw=>?_⟩,hv⟩
  ·grind
  ·rcases h4 w hw with⟨k,hk,e⟩|⟨e,k,hk,e2⟩
   ·exact .inl (Un hl e hx hk)
   ·rw[hx]at e;exact .inr ⟨(ba e).symm,Un hl e2 hy hk⟩
  grind
 ·rcases hz.1.2.2.2 y hy with⟨k,hk,e⟩|⟨e,_⟩
  ·exact⟨k,by omega,e⟩
  ·exact⟨i,by omega,e⟩
theorem Awp{a b:Ab}(h:Dh a b=true):a≠b:=λe=>by rw[e,Jf]at h;cases h
theorem Awa(hl:Es l)(hn:l.length<=1000)(p:Ab):Zd l p=some (Jk p l):=by
 refine cY ?_;unfold Zd;refine Ok.andThen (A:=λz=>∃k:Nat,z=(k:Int)/\k<=l.length/\(∀(i:Nat) x,i<k->l[i]? = some x->Dh x p=true)/\∀x,l[k]? = some x->Dh x p=false) (B:=λ(_:Unit)=>False) ?_ (λz hz=>?_) (λ_ h=>h.elim)
 ·refine cQ (λz=>∃k:Nat,z=(k:Int)/\k<=l.length/\∀(i:Nat) x,i<k->l[i]? = some x->Dh x p=true) (λz=>(l.length-z).toNat) _ _ ⟨0,rfl,by omega,by omega⟩ (by omega) λz hz=>?_;obtain⟨k,rfl,h1,h2⟩:=hz;unfold Aes;refine Ok.bind (P:=λv=>k<l.length->l[k]? = some v) (c9 (λha=>?_) λha=>?_) λv hv=>c6 (λhc=>c7 ?_) (λhc=>cU ?_)
  ·have h3:(k:Int)<l.length:=by simpa using ha.1
   exact(cR (by omega) h3).mono λx hx _=>by simpa using hx
  ·intro h3;exact absurd ⟨by simpa using h3,trivial⟩ ha
  ·simp only[uK,ae,dA]at hc;have e:w64 ((k:Int)+1)=(k:Int)+1:=Az (by omega);rw[e];have hk:k<l.length:=by omega
   refine⟨⟨k+1,rfl,by omega,λi x hi hx=>?_⟩,by omega⟩;by_cases hik:i=k
   ·subst hik;rw[hv hk]at hx;have hc2:=hc.2;rw[ba hx]at hc2;exact hc2
   ·exact h2 i x (by omega) hx
  ·refine⟨k,rfl,h1,h2,λx hx=>?_⟩;have hk:=(aa.1 hx).1;have e:=hv hk;rw[hx]at e;cases e;simp only[uK,b9,dC]at hc;rcases hc with hc|hc
   ·omega
   ·exact hc
 ·obtain⟨k,rfl,h1,h2,h3⟩:=hz;have hmem:∀x,x∈l.take k->Dh x p=true:=λx hx=>by
   obtain⟨i,hi⟩:=bv hx;rw[aq]at hi;split at hi
   ·exact h2 i x (by assumption) hi
   ·cases hi
  refine Ok.bind (P:=λv=>k<l.length->l[k]? = some v) (c9 (λha=>?_) λha=>?_) λv hv=>c6 (λhc=>Ok.pure ?_) (λhc=>?_)
  ·have h4:(k:Int)<l.length:=by simpa using ha.1
   exact(cR (by omega) h4).mono λx hx _=>by simpa using hx
  ·intro h4;exact absurd ⟨by simpa using h4,trivial⟩ ha
  ·simp only[uJ,ae,dA,M3]at hc;have hk:k<l.length:=by omega
   have e:=hv hk;rw[Di.1 hc.2]at e;refine My hl (Nn p hl) λx=>?_;rw[Jj];exact⟨.inr,λh=>h.elim (λh=>h ▸ af e) id⟩
  ·refine(Ok.bndI (by omega) (by omega) (by omega)).bind λ_ _=>(Ok.bndI (by omega) (by omega) (by omega)).bind λ_ _=>?_;have ht:List.take ((l.length:Int).toNat-(k:Int).toNat) (List.drop (k:Int).toNat l)=l.drop k:=by
    rw[aI,aI,cD (by simp)]
   rw[ht];refine(cS (by simp;omega)).bind λa ha=>?_;subst ha;refine(cS (by simp;omega)).bind λa ha=>Ok.pure ?_;subst ha;rw[aI,Nat.sub_zero];have hgt:∀x,x∈l.drop k->Dh p x=true:=λx hx=>by
    obtain⟨i,hi⟩:=bv hx;rw[aw]at hi;have hk:k<l.length:=by have:=(aa.1 hi).1;omega
    have e:=hv hk;have hlt:=h3 v e;have hne:E1 v p=false:=by
     simp only[uJ,b9,dC,M3]at hc;rcases hc with hc|hc
     ·omega
     ·exact hc
    have hpv:Dh p v=true:=by
     rcases W5 v p with h|h|h
     ·rw[hlt]at h;cases h
     ·rw[Di.2 h]at hne;cases hne
     ·exact h
    by_cases h0:i=0
    ·subst h0;rw[bD,e]at hi;cases hi;exact hpv
    ·exact Ke hpv (Un hl e hi (by omega))
   refine My ?_ (Nn p hl) λx=>?_
   ·refine List.pairwise_append.2 ⟨hl.sublist (List.take_sublist _ _),aO.2 ⟨hgt,hl.sublist (List.drop_sublist _ _)⟩,λa ha b hb=>?_⟩;rcases ah.1 hb with hb|hb
    ·rw[hb];exact hmem a ha
    ·exact Ke (hmem a ha) (hgt b hb)
   ·rw[Jj];have hm:x∈l↔x∈l.take k\/x∈l.drop k:=by rw[←an,bN]
    rw[hm];simp only[an,ah,List.singleton_append];constructor
    ·rintro (h|h|h)
     ·exact .inr (.inl h)
     ·exact .inl h
     ·exact .inr (.inr h)
    ·rintro (h|h|h)
     ·exact .inr (.inl h)
     ·exact .inl h
     ·exact .inr (.inr h)
theorem Acf(p:Ab):∀l:List Ab,(Jk p l).length<=l.length+1
 | []=>by simp[Jk]
 | q::l=>by
  unfold Jk;cases Dh p q with
  |true=>simp
  |false=>
   cases Dh q p with
   |true=>have:=Acf p l;simp;omega
   |false=>simp
theorem Aw8(p:Ab)(l:List Ab):Jk p l≠[]:=λe=>by
 have:p∈Jk p l:=(Jj p l p).2 (.inl rfl);rw[e]at this;cases this
theorem As8(h0:0<=k)(h1:k<4):Ok (getI Ic k) λx=>Ic[k.toNat]? = some x:=cR h0 (by simp[Ic];omega)
theorem Aku{x:ByteArray}(hi:Ic[i]? = some x)(hj:Ic[j]? = some x):i=j:=by
 grind[Ic]
def A16(l:List Ab)(k:Int)(G:List Bu):Prop:=
 (G.length:Int)<=3-k/\(∀g,g∈G->g.Name∈Ic/\g.Parts≠[]/\Es g.Parts/\(∀p,p∈g.Parts->p∈l)/\g.Parts.length<=41)/\(G.Pairwise λa b=>a.Name≠b.Name) /\
 ∀g,g∈G->∃j:Nat,k<j/\Ic[j]? = some g.Name
theorem Lm{m:List Ab}(hl:Es l)(h:∀p,p∈l->p∈m):l.length<=m.length:=
 List.Nodup.length_le_of_subset (hl.imp λh=>Awp h) λp hp=>h p hp
theorem Yg(hl:Es l)(hn:l.length<=30)(hs:A1 s):Ok (Aa9 s l) λy=>Xt l y.1/\A1 y.2:=by
 unfold Aa9;refine(C9 hs 4 (by omega) (by omega)).bind λy hy=>?_;refine Ok.andThen (A:=λz=>(∃k,0<=k/\A16 l k z.2.2.2)/\A1 ⟨z.2.1,z.2.2.1⟩) (B:=λ(_:Unit)=>False) ?_ (λz hz=>Ok.pure ⟨?_,hz.2⟩) (λ_ h=>h.elim)
 ·refine cQ (λz=>(0<=z.1/\z.1<4)/\A16 l z.1 z.2.2.2/\A1 ⟨z.2.1,z.2.2.1⟩) (λz=>z.1.toNat) _ _ ⟨hy.2,⟨by simp;omega,by simp,bS,by simp⟩,hy.1⟩ (by dsimp only;omega) ?_;rintro⟨k,L,a,G⟩ ⟨⟨h1,h2⟩,⟨h3,h4,h5,h6⟩,h7⟩;dsimp only at h1 h2 h3 h4 h5 h6 h7;unfold Aek;refine c6 (λhc=>?_) (λhc=>cU ⟨⟨k,h1,h3,h4,h5,h6⟩,h7⟩);simp only[Ah8,ae,dA]at hc;refine(As8 h1 h2).bind λnm hnm=>(C9 h7 (l.length:Int) (by omega) (by omega)).bind λu hu=>(cR hu.2.1 hu.2.2).bind λp hp=>?_;refine Ok.inner (A:=λz=>A1 ⟨z.1,z.2.1⟩/\Es z.2.2/\(∀q,q∈z.2.2->q∈l)/\z.2.2≠[]) (B:=λ(_:Unit)=>False) ?_ (λz hz=>?_) (λ_ h=>h.elim)
  ·refine c8 (I:=λ_ z=>A1 ⟨z.1,z.2.1⟩/\Es z.2.2/\(∀q,q∈z.2.2->q∈l)/\z.2.2≠[]) ⟨hu.1,show Es [p] from List.pairwise_singleton _ _,λq hq=>by rw[aL.1 hq];exact af hp,by simp⟩ (λj q z hq hz=>?_) λz hz=>hz;unfold Aej;refine(C9 hz.1 4 (by omega) (by omega)).bind λv hv=>c6 (λ_=>?_) (λ_=>c7 ⟨hv.1,hz.2⟩);have:=Lm hz.2.1 hz.2.2.1;refine Ok.bind (P:=λx=>x=_) (cT (Awa hz.2.1 (by omega) q) rfl) λx hx=>c7 ?_;subst hx;refine⟨hv.1,Nn _ hz.2.1,λx hx=>?_,Aw8 _ _⟩;rcases(Jj _ _ _).1 hx with hx|hx
   ·rw[hx];exact af hq
   ·exact hz.2.2.1 x hx
  ·refine(cS (by simp;omega)).bind λm hm=>c7 ?_;subst hm;have e:w64 (k-1)=k-1:=Az (by omega);dsimp only;rw[e];have:=Lm hz.2.1 hz.2.2.1;refine⟨⟨by omega,⟨by simp;omega,λg hg=>?_,Vx h5 λg hg=>?_,λg hg=>?_⟩,hz.1⟩,by omega⟩
   ·rcases an.1 hg with hg|hg
    ·exact h4 g hg
    ·rw[aL.1 hg];exact⟨af hnm,hz.2.2.2,hz.2.1,hz.2.2.1,by dsimp only;omega⟩
   ·obtain⟨j,hj,e⟩:=h6 g hg;intro he;rw[he]at e;have:=Aku e hnm;omega
   grind
 ·obtain⟨⟨k,h0,h3,h4,h5,_⟩,_⟩:=hz;exact⟨by dsimp only;omega,λg hg=>by
   obtain⟨g1,g2,g3,g4,g5⟩:=h4 g hg;have:=Lm g3 g4;exact⟨g1,g2,g3,g4,by omega⟩,h5⟩
def N3(C:List Int)(k:Nat)(z:List Ab):Prop:=Es z/\z.length<=3*k/\∀p,p∈z->(1<=p.Kind/\p.Kind<k)/\(0<=p.Number/\p.Number<=2)/\∃c,C[p.Kind.toNat]? = some c/\p.Number<c
theorem Anb{C:List Int}(hC:C.length<=10)(h0:C[0]? = some 0)(hs:A1 s) :
  Ok (foldI Aeu C 0 (s.L,s.At,([]:List Ab))) (Em (λz=>N3 C 10 z.2.2/\A1 ⟨z.1,z.2.1⟩) λ(_:Unit)=>False):=by
 refine c8 (I:=λj z=>N3 C j z.2.2/\A1 ⟨z.1,z.2.1⟩) ⟨⟨show Es [] from bS,by simp,by simp⟩,hs⟩ (λj c z hc hz=>?_) λz hz=>⟨⟨hz.1.1,by have:=hz.1.2.1;omega,λp hp=>by have:=hz.1.2.2 p hp;exact⟨by omega,this.2⟩⟩,hz.2⟩;obtain⟨⟨h1,h2,h3⟩,h4⟩:=hz;have hj:j<C.length:=(aa.1 hc).1;unfold Aeu;refine(Aih h4 (n:=min c 3) (by omega) (k:=2) (by omega)).bind λy hy=>?_;obtain⟨y1,y2,y3,y4⟩:=hy;refine Ok.inner (A:=λw=>N3 C (j+1) w) (B:=λ(_:Unit)=>False) ?_ (λw hw=>c7 ⟨hw,y1⟩) (λ_ h=>h.elim);refine c8 (I:=λi w=>Es w/\w.length=z.2.2.length+i/\∀p,p∈w->((1<=p.Kind/\p.Kind<j)/\(0<=p.Number/\p.Number<=2)/\∃c,C[p.Kind.toNat]? = some c/\p.Number<c)\/(p.Kind=j/\∃k,k<i/\y.1[k]? = some p.Number)) ⟨h1,by simp,λp hp=>.inl (h3 p hp)⟩ (λi x w hx hw=>?_) λw hw=>?_
 ·obtain⟨w1,w2,w3⟩:=hw;have hi:i<y.1.length:=(aa.1 hx).1;unfold Aq9;rw[Cv (by omega)];refine(cS (by simp;omega)).bind λm hm=>c7 ?_;subst hm;refine⟨Vx w1 λp hp=>?_,by simp;omega,λp hp=>?_⟩
  ·rw[F7];rcases w3 p hp with⟨h,_⟩|⟨h,k,hk,e⟩
   ·exact .inl h.2
   ·refine .inr ⟨h,?_⟩;obtain⟨q1,q2⟩:=aa.1 e;obtain⟨q3,q4⟩:=aa.1 hx;have:=bT.1 y2 k i q1 q3 hk;rw[q2,q4]at this;exact this
  grind
 ·obtain⟨w1,w2,w3⟩:=hw;refine⟨w1,by omega,λp hp=>?_⟩;grind
theorem N3.ptOk{C:List Int}{z:List Ab}(h:N3 C 10 z):∀p,p∈z->Fy p:=λp hp=>by
 have:=h.2.2 p hp;unfold Fy;omega
theorem Ia(x lo hi:Int):Bl x lo hi=true↔lo<=x/\x<=hi:=by
 simp[Bl]
theorem qP{x:Int}(h:lo<=x/\x<=hi):Bl x lo hi=true:=(Ia x lo hi).2 h
theorem Ga(l:List Int)(x:Int)(h:l.length<=9223372036854775807):U8 l x=some (l.any (x == ·)):=by
 unfold U8 Auv;rw[H2 (λy=>x==y) (λi y=>rfl) l h];simp only[ab,K5]
theorem Ag5(l:List (List Int))(h:l.length<=9223372036854775807):Zv l=some (l.any λx=>(x.length:Int)==0):=by
 unfold Zv Afd;rw[H2 (λy=>(y.length:Int)==0) (λi y=>rfl) l h];simp only[ab,K5]
theorem Ag7(h:Ax b):Ok (Amj b) (· = true):=by
 unfold Amj;have hs:=h.sol;have hc:=h.col;have hb:=h.buses;refine(Ok.mkI (by omega) (by omega)).bind λys hys=>(Ok.mkI (by omega) (by omega)).bind λzs hzs=>?_;rw[aI]at hys hzs;refine Ok.andThen (A:=λs=>s.1=(List.range b.Ae.length).map (λi=>((brs b.Ah 2 i).length:Int))/\s.2=(List.range b.Ag.length).map (λi=>(brs b.Ah 3 i).map (·.A))) (B:=λ_=>False) ?_ ?_ (λ_ h=>h.elim)
 ·refine c8 (I:=λj s=>s.1=(List.range b.Ae.length).map (λi=>((brs (b.Ah.take j) 2 i).length:Int))/\s.2=(List.range b.Ag.length).map (λi=>(brs (b.Ah.take j) 3 i).map (·.A))) ?_ ?_ ?_
  ·exact⟨by rw[hys,Oc];rfl,by rw[hzs,Oc];rfl⟩
  ·rintro j x ⟨us,vs⟩ hx ⟨hu,hv⟩;dsimp only at hu hv;subst hu;subst hv;have hmem:=af hx;obtain⟨⟨a0,a1⟩,hk⟩:=h.br x hmem;have htk:∀k i,brs (b.Ah.take (j+1)) k i=brs (b.Ah.take j) k i++if x.Kind=k/\x.B=(i:Int)then [x] else []:=λk i=>by rw[Bs hx,Hh,Aic]
   have hall:∀k i,brs b.Ah k i=brs (b.Ah.take (j+1)) k i++brs (b.Ah.drop (j+1)) k i:=λk i=>by rw[←Hh,bN]
   unfold Aiz;have e1:w64 (b.An-1)=b.An-1:=Az (by omega);have e2:w64 (x.A+1)=x.A+1:=Az (by omega);refine c6 (λhq=>?_) (λ_=>?_)
   ·rw[e1,qP (by omega)]at hq;simp at hq
   refine c6 (λhq=>?_) (λhq=>?_)
   ·simp only[Adv,ae,dD,Ia]at hq;refine c7 ⟨bh λi _=>?_,bh λi _=>?_⟩
    ·rw[htk,if_neg (by omega),aU]
    ·rw[htk,if_neg (by omega),aU]
   have hq:=ff hq;simp only[Adv,ae,dD,Ia,e1,e2]at hq;rcases hk with hk|hk|hk
   ·exact absurd ⟨hk.1,by omega⟩ hq
   ·have hBn:x.B=(x.B.toNat:Int):=by omega
    have hone:=h.one x.B.toNat (by omega);have hz:(brs (b.Ah.take j) 2 x.B.toNat).length=0:=by
     rw[hall,htk,if_pos ⟨hk.1,hBn⟩]at hone;simp at hone;omega
    have hg:((x.Kind==2)&&(Bl x.B 0 (w64 ((((List.range b.Ae.length).map (λi=>((brs (b.Ah.take j) 2 i).length:Int))).length:Int)-1))))=true:=by
     rw[ae,dD,Ia,au,List.length_range,Az (by omega)];omega
    dsimp only;refine Ok.bind (P:=λy=>y=0) (c9 (λ_=>(dg (by omega) (by omega)).mono λy hy=>by rw[hy,hz];rfl) λhn=>(V0 hg hn).elim) λy hy=>?_;refine c6 (λhq2=>?_) (λhq2=>?_)
    ·refine(dg (by omega) (by omega)).bind λy2 hy2=>(dl (by omega) (by omega)).bind λy3 hy3=>c7 ⟨?_,bh λi _=>?_⟩
     ·rw[hy3];refine bh λi hi=>?_;by_cases e:i=x.B.toNat
      ·subst e;rw[if_pos rfl,hy2,htk,if_pos ⟨hk.1,hBn⟩,hz,aC,hz];rfl
      ·rw[if_neg e,htk,if_neg (by omega),aU]
     ·rw[htk,if_neg (by omega),aU]
    ·have hq2:=ff hq2;simp only[Adu,ae,hy]at hq2;rw[ae]at hg;exact absurd ⟨hg,by simp⟩ hq2
   ·have hBn:x.B=(x.B.toNat:Int):=by omega
    have hnod:=h.nodup x.B.toNat;have hnot:x.A∉(brs (b.Ah.take j) 3 x.B.toNat).map (·.A):=by
     rw[hall,htk,if_pos ⟨hk.1,hBn⟩]at hnod;simp only[bF,bt,List.map_nil]at hnod;rw[List.nodup_append]at hnod;have:=hnod.1;rw[List.nodup_append]at this;intro hm;exact this.2.2 _ hm _ (by simp) rfl
    have hg0:((x.Kind==2)&&(Bl x.B 0 (w64 ((((List.range b.Ae.length).map (λi=>((brs (b.Ah.take j) 2 i).length:Int))).length:Int)-1))))=false:=by
     have:(x.Kind==2)=false:=by rw[dE];omega
     rw[this];rfl
    have hg:((x.Kind==3)&&(Bl x.B 0 (w64 ((((List.range b.Ag.length).map (λi=>(brs (b.Ah.take j) 3 i).map (·.A))).length:Int)-1))))=true:=by
     rw[ae,dD,Ia,au,List.length_range,Az (by omega)];omega
    dsimp only;refine Ok.bind (P:=λ_=>True) (c9 (λhn=>absurd hn.1 (by rw[hg0];simp)) λ_=>trivial) λy _=>?_;refine c6 (λhq2=>?_) (λ_=>?_)
    ·simp only[Adu,ae,dD]at hq2;omega
    refine Ok.bind (P:=λy=>y=(brs (b.Ah.take j) 3 x.B.toNat).map (·.A)) (c9 (λ_=>dg (by omega) (by omega)) λhn=>(V0 hg hn).elim) λy14 hy14=>?_;have hyl:y14.length<=24:=by
     rw[hy14,au];have:=bf (λx=>x.Kind==3&&x.B==((x.B.toNat:Nat):Int)) (b.Ah.take j);have h1:(brs (b.Ah.take j) 3 x.B.toNat).length<=(b.Ah.take j).length:=bf _ _;have h2:=h.brl;rw[aV]at h1;omega
    refine Ok.bind (P:=λy=>y=false) (c9 (λ_=>?_) λhn=>(V0 hg hn).elim) λy16 hy16=>?_
    ·rw[Ga _ _ (by omega)];refine Ok.pure ?_;rw[cv];intro z hz;rw[hy14]at hz;simp only[dD];rintro rfl;exact hnot hz
    refine c6 (λhq2=>?_) (λhq2=>?_)
    ·refine(dg (by omega) (by omega)).bind λy19 hy19=>?_;rw[hy19,←hy14];refine(cS (by simp;omega)).bind λy21 hy21=>(dl (by omega) (by omega)).bind λy23 hy23=>c7 ⟨bh λi _=>?_,?_⟩
     ·rw[htk,if_neg (by omega),aU]
     ·rw[hy23];refine bh λi hi=>?_;by_cases e:i=x.B.toNat
      ·subst e;rw[if_pos rfl,hy21,hy14,htk,if_pos ⟨hk.1,hBn⟩,bF];rfl
      ·rw[if_neg e,htk,if_neg (by omega),aU]
    ·have hq2:=ff hq2;simp only[Apy,ae,hy16]at hq2;rw[ae]at hg;exact absurd ⟨hg,by simp⟩ hq2
  ·rintro⟨us,vs⟩ ⟨hu,hv⟩;rw[aP]at hu hv;exact⟨hu,hv⟩
 ·rintro⟨us,vs⟩ ⟨hu,hv⟩;dsimp only at hu hv ⊢;rw[Ga _ _ (by rw[hu];simp;omega)];have h0:us.any (λy=>0==y)=false:=by
   rw[cv,hu];intro z hz;obtain⟨i,hi,rfl⟩:=ao.1 hz;rw[h.one i (by simpa using hi)];simp
  have h1:vs.any (λx=>(x.length:Int)==0)=false:=by
   rw[cv,hv];intro z hz;obtain⟨i,hi,rfl⟩:=ao.1 hz;have:=h.any i (by simpa using hi);simp only[au,dD];intro e;exact this (bo (by omega))
  simp only[h0,ab];refine Ok.bind (P:=λy=>y=false) (c9 (λ_=>?_) λhn=>(V0 rfl hn).elim) λy hy=>Ok.pure (by rw[hy];rfl);rw[Ag5 _ (by rw[hv];simp;omega)];exact Ok.pure h1
theorem Anq{x:B5}(h:Alo x):Afv x=true:=by
 obtain⟨h1,h2,h3⟩:=h;simp only[Afv,ae,Ia];omega
theorem Ag6{x:A7}(h:Am7 i x)(hi:i<=1000):Afu x (i:Int)=some true:=by
 obtain⟨h1,h2,h3,h4,h5,h6,h7⟩:=h;unfold Afu;have hf:foldI (uV x (i:Int)) x.Needs 0 ()=some (.next ()):=by
  refine Du _ _ λj n hj=>?_;rw[aF];have hn:=h6 n (af hj);have hjl:=(aa.1 hj).1;have hcnt:cnt 0 j=(j:Int):=Cv (by omega);have hin:Bl n 0 (w64 ((i:Int)-1))=true:=by rw[Ia,Az (by omega)];omega
  unfold uV Apx;rw[hcnt,hin];cases j with
  |zero=>simp[Au,Ed]
  | succ j=>
   obtain⟨p,hp⟩:∃p,x.Needs[j]? = some p:=⟨_,aj (by omega)⟩;have hlt:=h7 j p n hp hj;have e:w64 ((((j+1:Nat):Int))-1)=(j:Int):=by rw[Az (by omega)];omega
   have hg:getI x.Needs (j:Int)=some p:=by
    unfold getI;simp[hp]
   have hd:decide (((j+1:Nat):Int)>0)=true:=dF (by omega);have hd2:decide (p>=n)=false:=by simp;omega
   rw[e,hg,hd];simp[Au,Ed,hd2]
 rw[hf];have:(((((Bl x.Load 0 50000)&&(Bl x.Least 0 x.Load))&&(Bl x.B2 0 15))&&(Bl x.Thruster (-1) 7))&&(decide ((x.Needs.length:Int)<=4)))=true:=by
  simp only[ae,Ia,dA];omega
 simp[andThen,this]
theorem Adl(h:Ax b):Af5 b=some 0:=by
 refine cY ?_;unfold Af5;have h1:=h.buses;have h2:=h.brl;have h3:=h.sol;have h4:=h.col;have h5:=h.phase;have h6:=h.freq;refine c6 (λhc=>?_) (λ_=>?_)
 ·have:Bl b.An 1 6=true:=qP (by omega);simp only[Aqb,this,ay,dA,aR,bC,false_or]at hc;omega
 refine(Ag7 h).bind λy hy=>?_;subst hy;rw[qP (x:=b.Phase) (by omega),qP (x:=b.Ar) (by omega)];refine Ok.andThen (A:=λs=>s=true) (B:=λ(_:Unit)=>False) ?_ ?_ (λ_ h=>h.elim)
 ·refine c8 (I:=λ_ s=>s=true) rfl (λj x s hx hs=>?_) λ_ h=>h;subst hs;refine c7 ?_;rw[Anq (h.so x (af hx))];rfl
 ·rintro s rfl;refine Ok.andThen (A:=λs=>s=true) (B:=λ(_:Unit)=>False) ?_ ?_ (λ_ h=>h.elim)
  ·refine c8 (I:=λ_ s=>s=true) rfl (λj x s hx hs=>?_) λ_ h=>h;subst hs;have hj:=(aa.1 hx).1;unfold Ajh;have:Au [(true,true)] (Afu x (cnt 0 j)) default=some true:=by
    rw[Cv (by omega),Ag6 (h.co j x hx) (by omega)];rfl
   rw[this];exact c7 rfl
  ·rintro s rfl;exact Ok.pure rfl
def D7(x:Aj):Prop:=(0<=x.State/\x.State<=3)/\(0<=x.Since/\x.Since<=2147483648)/\(0<=x.Ar/\x.Ar<=6000)/\0<=x.Phase/\x.Phase<=3599
def Cs(b:Aa)(x:Ab):Prop:=
 0<=x.Number/\((x.Kind=1/\x.Number<b.Ae.length)\/(x.Kind=2/\x.Number<b.Ah.length)\/(x.Kind=3/\x.Number<b.An)\/(x.Kind=4/\x.Number<b.Ag.length))
def Kt(x y:Ab):Prop:=x.Kind<y.Kind\/x.Kind=y.Kind/\x.Number<y.Number
structure D6(b:Aa)(l:List Ab):Prop where
 len:l.length<=32
 mem:∀x,x∈l->Cs b x
 asc:∀(j:Nat) x y,l[j]? = some x->l[j+1]? = some y->Kt x y
def C7(l:List Ak)(c:List Bool)(i:Nat):List (Ak×Bool):=(l.zip c).filter λz=>(z.1.Kind==3&&z.1.B==(i:Int))&&z.2
structure Aw(b:Aa)(p:Ad):Prop where
 ncl:p.Ai.length=b.Ah.length
 nso:p.Ae.length=b.Ae.length
 nli:p.Ao.length=b.Ag.length
 run:∀x,x∈p.Ae->D7 x
 lim:∀(i:Nat) n c,p.Ao[i]? = some n->b.Ag[i]? = some c->0<=n/\n<=c.Load
 one:∀i,i<b.Ag.length->(C7 b.Ah p.Ai i).length<=1
 brk:D6 b p.Al
theorem Aj1{x:Aj}(h:D7 x):Ve x=true:=by
 obtain⟨h1,h2,h3,h4⟩:=h;simp only[Ve,ae,Ia];omega
theorem Akf(l:List Aj)(h:l.length<=9223372036854775807):Vf l=some (l.any λx=>!Ve x):=by
 unfold Vf Afs;rw[H2 (λy=>!Ve y) (λi y=>rfl) l h];simp only[ab,K5]
theorem Nx(x y:Int):Ih x y=if x<y then -1 else if x>y then 1 else 0:=by
 grind[Sc,Ih]
theorem Vy(x y:Int):Vg [x,y]=some (if x=0 then y else x):=by
 grind[Vg,andThen,foldI,V_]
theorem Awh(h:Ax b)(hx:Cs b x):Bl x.Number 0 (w64 ((Mh b x.Kind)-1))=true:=by
 have h1:=h.buses;have h2:=h.brl;have h3:=h.sol;have h4:=h.col;obtain⟨hn,hk⟩:=hx;have hsz:∃n,Mh b x.Kind=n/\x.Number<n/\n<=100:=by
  unfold Mh;grind
 obtain⟨n,e,g1,g2⟩:=hsz;rw[e,Ia,Az (by omega)];omega
theorem Aqn(h:Ax b)(hl:D6 b l):Amv b l=some true:=by
 have hlen:=hl.len;unfold Amv;have hf:foldI (vF b l) l 0 ()=some (.next ()):=by
  refine Du _ _ λj x hj=>?_;rw[aF];have hjl:=(aa.1 hj).1;have hcnt:cnt 0 j=(j:Int):=Cv (by omega);have hin:=Awh h (hl.mem x (af hj));unfold vF Aqa;rw[hcnt,hin];cases j with
  |zero=>simp[Au,Ed]
  | succ j=>
   obtain⟨p,hp⟩:∃p,l[j]? = some p:=⟨_,aj (by omega)⟩;have hlt:=hl.asc j p x hp hj;have e:w64 ((((j+1:Nat):Int))-1)=(j:Int):=by rw[Az (by omega)];omega
   have hg:getI l (j:Int)=some p:=by unfold getI;simp[hp]
   have hd:decide (((j+1:Nat):Int)>0)=true:=dF (by omega);have ho:Vg [Ih p.Kind x.Kind,Ih p.Number x.Number]=some (-1):=by
    rw[Vy,Nx,Nx];rcases hlt with h1|⟨h1,h2⟩
    ·simp[h1]
    ·simp[h1,h2]
   rw[e,hg,hd];simp[Au,Ed,ho]
 rw[hf];have:decide ((l.length:Int)<=32)=true:=by simp;omega
 simp[andThen,this]
theorem Mt{l:List Ak}{x:Ak}{v:Bool}(hx:l[j]? = some x)(hv:c[j]? = some v)(i:Nat) :
  C7 (l.take (j+1)) (c.take (j+1)) i=C7 (l.take j) (c.take j) i++if((x.Kind==3&&x.B==(i:Int))&&v)=true then [(x,v)] else []:=by
 unfold C7;rw[Bs hx,Bs hv,List.zip_append (by
  grind),bp]
 congr 1;simp only[cd,List.zip_nil_right,bk,List.filter_nil]
theorem Apk(h:Ax b)(hc:p.Ai.length=b.Ah.length)(i:Nat):Amu b p (i:Int)=some (((C7 b.Ah p.Ai i).length:Nat):Int):=by
 refine cY ?_;unfold Amu;have hb:=h.brl;refine Ok.andThen (A:=λs=>s=(((C7 b.Ah p.Ai i).length:Nat):Int)) (B:=λ(_:Unit)=>False) ?_ (λs hs=>Ok.pure hs) (λ_ h=>h.elim);refine c8 (I:=λj s=>s=(((C7 (b.Ah.take j) (p.Ai.take j) i).length:Nat):Int)) ?_ (λj x s hx hs=>?_) λs hs=>?_
 ·simp[C7]
 ·have hj:=(aa.1 hx).1;obtain⟨v,hv⟩:∃v,p.Ai[j]? = some v:=⟨_,aj (by omega)⟩;have hcnt:cnt 0 j=(j:Int):=Cv (by omega);have hg:getI p.Ai (j:Int)=some v:=by unfold getI;simp[hv]
  have hle:(C7 (b.Ah.take j) (p.Ai.take j) i).length<=24:=by
   have h1:(C7 (b.Ah.take j) (p.Ai.take j) i).length<=((b.Ah.take j).zip (p.Ai.take j)).length:=bf _ _;simp at h1;omega
  subst hs;unfold Ajg Ap9;rw[hcnt,hg,Mt hx hv];cases hk:(x.Kind==3&&x.B==(i:Int)) with
  |false=>
   simp only[Au,Ed,Bool.false_and];exact c7 (by simp)
  | true=>
   simp only[Au,Ed,bz];cases v with
   |false=>exact c7 (by simp)
   |true=>
    refine c7 ?_;show w64 _=_;rw[Az (by omega)];simp
 grind
theorem E4(h:Ax b)(hp:Aw b p):Iy b p=some 0:=by
 refine cY ?_;unfold Iy;have h1:=hp.ncl;have h2:=hp.nso;have h3:=hp.nli;have h4:=h.col;have h5:=h.sol;rw[Adl h];simp only[ab];have c0:Ad5 b p=false:=by
  simp[Ad5,h1,h2,h3]
 have c1:((0:Int) != 0)=false:=rfl;rw[c1,c0,Aqn h hp.brk];simp only[cond_false,ab];have hr:(p.Ae.any λx=>!Ve x)=false:=by
  rw[cv];intro x hx;rw[Aj1 (hp.run x hx)];simp
 have:Au [(true,true)] (Vf p.Ae) default=some false:=by
  rw[Akf _ (by omega),hr];rfl
 rw[this];simp only[ab];refine Ok.andThen (A:=λs=>s=true) (B:=λ(_:Unit)=>False) ?_ ?_ (λ_ h=>h.elim)
 ·refine c8 (I:=λ_ s=>s=true) rfl (λj x s hx hs=>?_) λ_ h=>h;subst hs;have hj:=(aa.1 hx).1;obtain⟨c,hc⟩:∃c,b.Ag[j]? = some c:=⟨_,aj (by omega)⟩;have hcnt:cnt 0 j=(j:Int):=Cv (by omega);have hg:getI b.Ag (j:Int)=some c:=by unfold getI;simp[hc]
  have hl:=hp.lim j x c hx hc;have hone:=hp.one j (by omega);unfold Ajp;rw[hcnt,hg];have e1:Au [(true,true)] (some c) default=some c:=rfl;rw[e1];simp only[ab];have e2:(true&&Bl x 0 c.Load)=true:=by rw[qP hl];rfl
  rw[e2,Apk h h1];have e3:Au [(true,true)] (some (((C7 b.Ah p.Ai j).length:Nat):Int)) default=some (((C7 b.Ah p.Ai j).length:Nat):Int):=rfl;rw[e3];simp only[ab];refine c7 ?_;simp;omega
 ·rintro s rfl;exact Ok.pure rfl
set_option linter.unusedVariables false
theorem Aue(l:List Ab)(p:Ab):l.any (λx=>E1 p x)=Er l p:=by
 unfold Er;congr 1;funext x;unfold E1;grind
theorem Ps(l:List Ab)(p:Ab)(h:l.length<=9223372036854775807):F53 l p=some (Er l p):=by
 unfold F53 Agd Amw;rw[H2 (λy=>E1 p y) (λi y=>by rw[←M3];rfl) l h];simp only[ab,K5,Aue]
theorem Acg{p:Ab}(h:p∈l):Er l p=true:=Jm.2 h
theorem uD(h:Dh x y=true):Mk x y=some (-1):=by
 unfold Mk;rw[Vy,Nx,Nx];rw[F7]at h;grind
theorem Aph(x:Ab):Mk x x=some 0:=by
 unfold Mk;rw[Vy,Nx,Nx];simp
theorem Apg{x y:Bc}(h:Akl x y):Ok (Amx x y) (· = -1):=by
 unfold Amx;have hc:∀a b:Ab,Ok (Mk a b) λ_=>True:=λa b=>by
  unfold Mk;rw[Vy];exact⟨_,rfl,trivial⟩
 rcases h with h|⟨h1,h2⟩
 ·refine Ok.bind (P:=λv=>v = -1) (cT (uD h) rfl) λv hv=>(hc _ _).bind λu _=>?_;subst hv;rw[Vy];exact Ok.pure rfl
 ·rw[h1];refine Ok.bind (P:=λv=>v=0) (cT (Aph _) rfl) λv hv=>Ok.bind (P:=λv=>v = -1) (cT (uD h2) rfl) λu hu=>?_;subst hv;subst hu;rw[Vy];exact Ok.pure rfl
theorem Aid(hl:Es l)(hn:l.length<=1000):Vh l=some true:=by
 refine cY ?_;unfold Vh;refine Ok.andThen (A:=λ_=>True) (B:=λ_=>False) ?_ (λ_ _=>Ok.pure rfl) (λ_ h=>h.elim);refine cQ (λz=>1<=z/\z<=1001) (λz=>((l.length:Int)-z).toNat) _ _ ⟨by omega,by omega⟩ (by omega) λz hz=>?_;unfold Aak;refine c6 (λhc=>?_) (λ_=>cU trivial);simp only[dA]at hc;rw[Az (n:=z-1) (by omega),Az (n:=z+1) (by omega)];refine(cR (by omega) (by omega)).bind λa ha=>(cR (by omega) hc).bind λb hb=>?_;refine Ok.bind (P:=λv=>v = -1) (cT (uD (Un hl ha hb (by omega))) rfl) λv hv=>?_;subst hv;exact c7 ⟨by omega,by omega⟩
theorem Axu{l:List Bc}(hl:l.Pairwise Akl)(hn:l.length<=1000):Z4 l=some true:=by
 refine cY ?_;unfold Z4;refine Ok.andThen (A:=λ_=>True) (B:=λ_=>False) ?_ (λ_ _=>Ok.pure rfl) (λ_ h=>h.elim);refine cQ (λz=>1<=z/\z<=1001) (λz=>((l.length:Int)-z).toNat) _ _ ⟨by omega,by omega⟩ (by omega) λz hz=>?_;unfold Aaj;refine c6 (λhc=>?_) (λ_=>cU trivial);simp only[dA]at hc;rw[Az (n:=z-1) (by omega),Az (n:=z+1) (by omega)];refine(cR (by omega) (by omega)).bind λa ha=>(cR (by omega) hc).bind λb hb=>?_;obtain⟨h1,e1⟩:=aa.1 ha;obtain⟨h2,e2⟩:=aa.1 hb;have:=bT.1 hl _ _ h1 h2 (by omega);rw[e1,e2]at this;refine(Apg this).bind λv hv=>?_;subst hv;exact c7 ⟨by omega,by omega⟩
theorem Ayx{p:Ab}(h:Fy p):Af8 p=true:=by
 unfold Fy at h;simp only[Af8,ae,dA];omega
theorem Asl(h:∀p,p∈l->Fy p)(hn:l.length<=1000):Z6 l=some false:=by
 unfold Z6 Afy;rw[H2 (λy=>Af9 y) (λi y=>rfl) l (by omega)];grind[Af9,K5,Ayx]
theorem Ajx(hl:Es l)(h:∀p,p∈l->Fy p)(hn:l.length<=1000):Am5 l=some true:=by
 unfold Am5;rw[Asl h hn,Aid hl hn];rfl
theorem Aob{d:Ba}(h:Wb d):Am4 d=some true:=by
 have hl:=h.len;have hk:=h.links.len;refine cY ?_;unfold Am4;refine Ok.andThen (A:=λ_=>True) (B:=λ_=>False) ?_ (λ_ _=>?_) (λ_ h=>h.elim)
 ·refine c8 (I:=λ_ _=>True) trivial (λj x _ hx _=>?_) λ_ _=>trivial;obtain⟨h1,h2,h3⟩:=h.links.mem x (af hx);unfold Ajr;refine Ok.bind (P:=λv=>v=true) (cT (Ps _ _ (by omega)) (Acg h1)) λv hv=>?_;subst hv;refine Ok.bind (P:=λv=>v=true) (c9 (λ_=>cT (Ps _ _ (by omega)) (Acg h2)) (λhn=>absurd ⟨rfl,trivial⟩ hn)) λv hv=>?_;subst hv;refine c6 (λhc=>?_) (λ_=>c7 trivial);simp only[Aqk,aR,Bool.or_self,aX,M3]at hc;exact absurd (Di.1 hc) h3
 ·rw[Axu h.links.asc (by omega)];exact Ok.pure rfl
theorem Av9{s:ByteArray}(h:s∈Ic):Au6 s=some true:=by
 simp only[Ic,ah,List.not_mem_nil,or_false]at h;rcases h with rfl|rfl|rfl|rfl <;> kernel_rfl
theorem An6{d:Ba}(h:Wb d)(hl:∀p,p∈l->p∈d.Parts):Z5 l d=some (false,d):=by
 have hn:=h.len;refine cY ?_;unfold Z5 Afx;refine Ok.bind (P:=λy=>y=(-1,d)) ?_ (λy hy=>Ok.pure (by rw[hy];rfl));refine Ok.andThen (A:=λ_=>True) (B:=λ_=>False) ?_ (λ_ _=>Ok.pure rfl) (λ_ h=>h.elim);refine c8 (I:=λ_ _=>True) trivial (λj x _ hx _=>?_) λ_ _=>trivial;unfold Aai Af6;rw[Ps _ _ (by omega),Acg (hl x (af hx))];exact c7 trivial
theorem A1w{a b:ByteArray}(h:a.toList=b.toList):a=b:=by
 rw[ByteArray.toList_eq,ByteArray.toList_eq]at h;exact ByteArray.ext (Array.toList_inj.1 h)
theorem Ay6{l:List Bu}{g:Bu}(h:∀x,x∈l->x.Name≠g.Name):Z3 l g=some (false,g):=by
 refine cY ?_;unfold Z3 Afw;refine Ok.bind (P:=λy=>y=(-1,g)) ?_ (λy hy=>Ok.pure (by rw[hy];rfl));refine Ok.andThen (A:=λ_=>True) (B:=λ_=>False) ?_ (λ_ _=>Ok.pure rfl) (λ_ h=>h.elim);refine c8 (I:=λ_ _=>True) trivial (λj x _ hx _=>?_) λ_ _=>trivial;unfold Aah;refine c6 (λhc=>?_) (λ_=>c7 trivial);simp only[Af7,dD]at hc;exact absurd (A1w hc) (h x (af hx))
theorem Akt{d:Ba}(h:Wb d):Am3 d=some true:=by
 have hl:=h.len;have hk:=h.groups.len;refine cY ?_;unfold Am3;refine Ok.andThen (A:=λ_=>True) (B:=λ_=>False) ?_ (λ_ _=>Ok.pure rfl) (λ_ h=>h.elim);refine c8 (I:=λ_ z=>z=(d.Parts,d.Links,d.Groups)) rfl (λj g z hg hz=>?_) λ_ _=>trivial;subst hz;obtain⟨h1,h2,h3,h4,h5⟩:=h.groups.mem g (af hg);have hj:=(aa.1 hg).1;unfold Ajq;refine Ok.bind (P:=λv=>v=true) (cT (Av9 h1) rfl) λv hv=>?_;subst hv;refine Ok.bind (P:=λv=>v=d.Groups.take j) (c9 (λ_=>(Ok.cutI (by omega) (by rw[Cv (by omega)];omega) (by rw[Cv (by omega)];dsimp only;omega)).mono λy hy=>?_) (λhn=>absurd ⟨rfl,trivial⟩ hn)) λv hv=>?_
 ·rw[hy,Cv (by omega)];simp
 subst hv;refine Ok.bind (P:=λv=>v=(false,g)) (c9 (λ_=>cT (Ay6 λx hx=>?_) rfl) (λhn=>absurd ⟨rfl,trivial⟩ hn)) λv hv=>?_
 ·obtain⟨i,hi⟩:=bv hx;rw[aq]at hi;split at hi
  ·obtain⟨q1,q2⟩:=aa.1 hi;obtain⟨q3,q4⟩:=aa.1 hg;have:=bT.1 h.groups.dist i j q1 q3 (by assumption);rw[q2,q4]at this;exact this
  ·cases hi
 subst hv;have hne:((g.Parts.length:Int)==0)=false:=by
  cases e:g.Parts with
  |nil=>exact absurd e h2
  |cons a b=>grind
 refine Ok.bind (P:=λv=>v=(false,d)) (c9 (λ_=>cT (An6 h h4) rfl) (λhn=>absurd ⟨by simp[hne],trivial⟩ hn)) λv hv=>?_;subst hv;refine Ok.bind (P:=λv=>v=true) (c9 (λ_=>cT (Aid (l:=g.Parts) h3 (by omega)) rfl) (λhn=>absurd ⟨by simp[hne],trivial⟩ hn)) λv hv=>?_;subst hv;refine c6 (λhc=>?_) (λ_=>c7 rfl);simp[Aqj,hne]at hc
theorem Wp{d:Ba}(h:Wb d):F50 d=some 0:=by
 have h1:=h.len;have h2:=h.links.len;have h3:=h.groups.len;unfold F50;have e:Alj d=false:=by
  simp only[Alj,bj,dC];omega
 rw[e,Ajx h.asc h.ok (by omega),Aob h,Akt h];rfl
theorem Aju{a b:List Ab}:x∈Ka a b↔x∈a\/x∈b:=by
 grind[Ka,Ju]
theorem Ajv(a b:List Ab):Es (Ka a b):=H1 _
theorem yB:∀l:List Ab,(I8 l).length<=l.length
 | []=>by simp[I8]
 |x::l=>by
  have h1:=yB l;have h2:=Acf x (I8 l);grind[I8]
theorem Qr(a b:List Ab):(Ka a b).length<=a.length+b.length:=by
 have:=yB (a++b);rw[aC]at this;exact this
theorem J8(x lo hi:Int):Cf x lo hi=true↔lo<=x/\x<=hi:=by
 simp[Cf]
theorem Yq(h:Ax b)(x:Ab):Vq b x=true↔Cs b x:=by
 have h1:=h.buses;have h2:=h.brl;have h3:=h.sol;have h4:=h.col;unfold Vq Cs;rw[Az (n:=(b.Ae.length:Int)-1) (by omega),Az (n:=(b.Ah.length:Int)-1) (by omega),Az (n:=b.An-1) (by omega),Az (n:=(b.Ag.length:Int)-1) (by omega)];by_cases k1:x.Kind=1
 ·rw[dD.2 k1,cond_true,J8];omega
 rw[dE.2 k1,cond_false];by_cases k2:x.Kind=2
 ·rw[dD.2 k2,cond_true,J8];omega
 rw[dE.2 k2,cond_false];by_cases k3:x.Kind=3
 ·rw[dD.2 k3,cond_true,J8];omega
 rw[dE.2 k3,cond_false];by_cases k4:x.Kind=4
 ·rw[dD.2 k4,cond_true,J8];omega
 grind
theorem Acv{l:List Ak}:∀{c d:List Bool},c.length=d.length->(∀k:Nat,c[k]? = some true->d[k]? = some true)->∀i,(C7 l c i).length<=(C7 l d i).length:=by
 induction l with
 |nil=>intro c d _ _ i;simp[C7]
 | cons x l ih=>
  intro c d hl h i;cases c with
  |nil=>simp[C7]
  | cons v c=>cases d with
   |nil=>simp at hl
   |cons u d=>
    have:=ih (c:=c) (d:=d) (by simpa using hl) (λk hk=>by have:=h (k+1) (by simpa using hk);simpa using this) i;have h0:v=true->u=true:=λe=>by have:=h 0 (by simp[e]);simpa using this
    unfold C7 at this ⊢;simp only[cd,bk];grind
theorem Asf(h:Ax b)(hs0:A1 s0) :
  Ok (whileN (Vo b) 1152921504606846976 (0,s0.L,s0.At,([]:List Bool))) (Em (λs=>A1 ⟨s.2.1,s.2.2.1⟩/\s.2.2.2.length=b.Ah.length) (λ(_:Unit)=>False)):=by
 have hb:=h.brl;refine cQ (λs=>(0<=s.1/\s.1<=(b.Ah.length:Int))/\A1 ⟨s.2.1,s.2.2.1⟩/\(s.2.2.2.length:Int)=s.1) (λs=>((b.Ah.length:Int)-s.1).toNat) _ _ ?_ ?_ ?_
 ·exact⟨by dsimp only;omega,hs0,by simp⟩
 ·dsimp only;omega
 ·rintro⟨i,L,a,l⟩ ⟨⟨h1,h2⟩,h4,h5⟩;dsimp only at h1 h2 h4 h5;unfold Vo Ad0;refine c6 (λh=>?_) (λh=>?_)
  ·simp only[dA]at h;have e:w64 (i+1)=i+1:=Az (by omega);dsimp only;rw[e];refine(C9 h4 2 (by omega) (by omega)).bind λu hu=>(cS (by simp;omega)).bind λm hm=>c7 ?_;subst hm;exact⟨⟨by dsimp only;omega,hu.1,by simp;omega⟩,by dsimp only;omega⟩
  ·simp only[dC]at h;exact cU ⟨h4,by dsimp only;omega⟩
variable{l:List α}
theorem B1{x:α}(h:l[j]? = some x):getI l (j:Int)=some x:=by unfold getI;simp[h]
theorem Wz{x:α}(h:j<l.length):setI l (j:Int) x=some (l.set j x):=by
 grind[setI]
theorem Asd(h:Ax b)(hn:n=(i:Int))(hc:c.length=b.Ah.length)(w:Int×List Bool)(hw:w.1=n) :
  Ok (foldI (Vm w) b.Ah 0 (true,c)) (Em (λs=>s.2.length=b.Ah.length/\(∀k:Nat,s.2[k]? = some true->c[k]? = some true)/\(C7 b.Ah s.2 i).length<=1) (λ(_:Unit)=>False)):=by
 have hb:=h.brl;refine c8 (I:=λj s=>s.2.length=b.Ah.length/\(∀k:Nat,s.2[k]? = some true->c[k]? = some true)/\(s.1=true->C7 (b.Ah.take j) (s.2.take j) i=[])/\(C7 (b.Ah.take j) (s.2.take j) i).length<=1) ?_ (λj x s hx hs=>?_) λs hs=>?_
 ·exact⟨hc,λ_ h=>h,λ_=>by simp[C7],by simp[C7]⟩
 ·obtain⟨f,d⟩:=s;obtain⟨h1,h2,h3,h4⟩:=hs;dsimp only at h1 h2 h3 h4;have hj:=(aa.1 hx).1;obtain⟨v,hv⟩:∃v,d[j]? = some v:=⟨_,aj (by omega)⟩;have hcnt:cnt 0 j=(j:Int):=Cv (by omega);unfold Vm zF;dsimp only;rw[hcnt,B1 hv,Wz (by omega),hw,hn];cases hk:(x.Kind==3&&x.B==(i:Int)) with
  |false=>
   simp only[Au,Ed,Bool.false_and];refine c7 ⟨h1,h2,λe=>?_,?_⟩ <;> dsimp only <;> rw[Mt hx hv,hk]
   ·simpa using h3 e
   ·simpa using h4
  | true=>
   simp only[Au,Ed,bz];cases v with
   |false=>
    refine c7 ⟨h1,h2,λe=>?_,?_⟩ <;> dsimp only <;> rw[Mt hx hv,hk]
    ·simpa using h3 e
    ·simpa using h4
   | true=>
    have hset:(d.set j f)[j]? = some f:=by rw[bH (by omega)]
    have htake:(d.set j f).take j=d.take j:=by rw[List.take_set_of_le (ag j)]
    refine c7 ⟨by simpa using h1,λk hk2=>?_,λe=>?_,?_⟩
    ·grind
    ·cases e
    ·dsimp only;rw[Mt hx hset,hk,htake];cases f with
     |false=>simpa using h4
     |true=>simp[h3 rfl]
 grind
theorem Ase(h:Ax b)(hc:c.length=b.Ah.length) :
  Ok (whileN (Vn b) 1152921504606846976 (0,c)) (Em (λs=>s.2.length=b.Ah.length/\∀i,i<b.Ag.length->(C7 b.Ah s.2 i).length<=1) (λ(_:Unit)=>False)):=by
 have hco:=h.col;refine cQ (λs=>(0<=s.1/\s.1<=(b.Ag.length:Int))/\s.2.length=b.Ah.length/\∀i:Nat,(i:Int)<s.1->(C7 b.Ah s.2 i).length<=1) (λs=>((b.Ag.length:Int)-s.1).toNat) _ _ ?_ ?_ ?_
 ·grind
 ·dsimp only;omega
 ·rintro⟨n,d⟩ ⟨⟨h1,h2⟩,h3,h4⟩;dsimp only at h1 h2 h3 h4;unfold Vn Adz;refine c6 (λhq=>?_) (λhq=>?_)
  ·simp only[dA]at hq;have e:w64 (n+1)=n+1:=Az (by omega);dsimp only;refine(Asd h (n:=n) (i:=n.toNat) (by omega) h3 (n,d) rfl).inner (λs hs=>?_) (λ_ h=>h.elim);rw[e];obtain⟨g1,g2,g3⟩:=hs;refine c7 ⟨⟨by dsimp only;omega,g1,λi hi=>?_⟩,by dsimp only;omega⟩;dsimp only at hi ⊢;by_cases e:(i:Int)=n
   ·have:i=n.toNat:=by omega
    subst this;exact g3
   ·exact ax (Acv (by omega) g2 i) (h4 i (by omega))
  ·simp only[dC]at hq;exact cU ⟨h3,λi hi=>h4 i (by omega)⟩
theorem Asb(h:Ax b)(hs0:A1 s0) :
  Ok (whileN (Vl b) 1152921504606846976 (0,s0.L,s0.At,([]:List Aj))) (Em (λs=>A1 ⟨s.2.1,s.2.2.1⟩/\s.2.2.2.length=b.Ae.length/\∀x,x∈s.2.2.2->D7 x/\x.Since<=4) (λ(_:Unit)=>False)):=by
 have hb:=h.sol;refine cQ (λs=>(0<=s.1/\s.1<=(b.Ae.length:Int))/\A1 ⟨s.2.1,s.2.2.1⟩/\(s.2.2.2.length:Int)=s.1/\∀x,x∈s.2.2.2->D7 x/\x.Since<=4) (λs=>((b.Ae.length:Int)-s.1).toNat) _ _ ?_ ?_ ?_
 ·exact⟨by dsimp only;omega,hs0,by simp,λx hx=>by simp at hx⟩
 ·dsimp only;omega
 ·rintro⟨i,L,a,l⟩ ⟨⟨h1,h2⟩,h4,h5,h6⟩;dsimp only at h1 h2 h4 h5 h6;unfold Vl zE;refine c6 (λh=>?_) (λh=>?_)
  ·simp only[dA]at h;have e:w64 (i+1)=i+1:=Az (by omega);dsimp only;rw[e];refine(Ct h4 _ (by simp) (by simp)).bind λu hu=>(C9 hu.1 5 (by omega) (by omega)).bind λv hv=>(Ct hv.1 _ (by simp) (by simp)).bind λp hp=>(Ct hp.1 _ (by simp) (by simp)).bind λq hq=>(cS (by simp;omega)).bind λm hm=>c7 ?_;subst hm;have g1:u.1=0\/u.1=1\/u.1=2\/u.1=2\/u.1=2\/u.1=3:=by simpa using hu.2
   have g2:=hv.2;have g3:p.1=5000\/p.1=5000\/p.1=5005\/p.1=4950:=by simpa using hp.2
   have g4:q.1=0\/q.1=0\/q.1=40\/q.1=1800\/q.1=3590:=by simpa using hq.2
   refine⟨⟨by dsimp only;omega,hq.1,by simp;omega,λx hx=>?_⟩,by dsimp only;omega⟩;rcases an.1 hx with hx|hx
   ·exact h6 x hx
   ·simp at hx;subst hx;exact⟨⟨by dsimp only;omega,by dsimp only;omega,by dsimp only;omega,by dsimp only;omega⟩,by dsimp only;omega⟩
  ·simp only[dC]at h;exact cU ⟨h4,by dsimp only;omega,h6⟩
theorem Asa(h:Ax b)(hs0:A1 s0) :
  Ok (foldI Vk b.Ag 0 (s0.L,s0.At,([]:List Int))) (Em (λs=>A1 ⟨s.1,s.2.1⟩/\s.2.2.length=b.Ag.length/\∀(i:Nat) n c,s.2.2[i]? = some n->b.Ag[i]? = some c->0<=n/\n<=c.Load) (λ(_:Unit)=>False)):=by
 have hb:=h.col;refine c8 (I:=λj s=>A1 ⟨s.1,s.2.1⟩/\s.2.2.length=j/\∀(i:Nat) n c,s.2.2[i]? = some n->b.Ag[i]? = some c->0<=n/\n<=c.Load) ?_ (λj x s hx hs=>?_) λs hs=>hs
 ·exact⟨hs0,rfl,λi n c hn=>by simp at hn⟩
 ·obtain⟨L,a,l⟩:=s;obtain⟨h1,h2,h3⟩:=hs;dsimp only at h1 h2 h3;have hj:=(aa.1 hx).1;unfold Vk;dsimp only;refine(Ct h1 _ (by simp) (by simp)).bind λu hu=>(cS (by simp;omega)).bind λm hm=>c7 ⟨hu.1,?_,λi n c hn hc=>?_⟩
  ·subst hm;simp[h2]
  ·dsimp only at hn;subst hm;rw[ck]at hn;split at hn
   ·exact h3 i n c hn hc
   ·rename_i hi;have hlt:=(aa.1 hn).1;simp at hlt;have:i=j:=by omega
    subst this;rw[hx]at hc;cases hc;rw[h2]at hn;simp at hn;subst hn;obtain⟨g1,g2,_⟩:=h.co _ x hx;have g3:=Arw (x:=x.Load) (by omega) (by omega);grind
theorem Ar9(h:Ax b)(hs0:A1 s0) :
  Ok (whileN (Vj b) 7 (1,s0.L,s0.At,([]:List Ab))) (Em (λs=>A1 ⟨s.2.1,s.2.2.1⟩/\D6 b s.2.2.2/\s.2.2.2.length<=4) (λ(_:Unit)=>False)):=by
 refine cQ (λs=>(1<=s.1/\s.1<=5)/\A1 ⟨s.2.1,s.2.2.1⟩/\((s.2.2.2.length:Int)<s.1)/\(∀x,x∈s.2.2.2->Cs b x/\x.Kind<s.1)/\∀(j:Nat) x y,s.2.2.2[j]? = some x->s.2.2.2[j+1]? = some y->Kt x y) (λs=>(5-s.1).toNat) _ _ ?_ ?_ ?_
 ·exact⟨by dsimp only;omega,hs0,by simp,λx hx=>by simp at hx,λj x y hx=>by simp at hx⟩
 ·dsimp only;omega
 ·rintro⟨i,L,a,l⟩ ⟨⟨h1,h2⟩,h4,h5,h6,h7⟩;dsimp only at h1 h2 h4 h5 h6 h7;unfold Vj;refine c6 (λhq=>?_) (λhq=>?_)
  ·simp only[dA]at hq;have e:w64 (i+1)=i+1:=Az (by omega);dsimp only;rw[e];have skip:∀{u:Af},A1 u->Ok (some (.next (i+1,u.L,u.At,l)):Option (Ctl (Int×List Int×Int×List Ab) Unit)) (G_ (λs=>((1<=s.1/\s.1<=5)/\A1 ⟨s.2.1,s.2.2.1⟩/\((s.2.2.2.length:Int)<s.1)/\(∀x,x∈s.2.2.2->Cs b x/\x.Kind<s.1)/\∀(j:Nat) x y,s.2.2.2[j]? = some x->s.2.2.2[j+1]? = some y->Kt x y)/\(5-s.1).toNat<(5-i).toNat) (λs=>A1 ⟨s.2.1,s.2.2.1⟩/\D6 b s.2.2.2/\s.2.2.2.length<=4) (λ_=>False)):=λhu=>
    c7 ⟨⟨by dsimp only;omega,hu,by dsimp only;omega,λx hx=>⟨(h6 x hx).1,by have:=(h6 x hx).2;dsimp only;omega⟩,h7⟩,by dsimp only;omega⟩
   refine(C9 h4 5 (by omega) (by omega)).bind λu hu=>c6 (λ_=>?_) (λ_=>skip hu.1);refine(C9 hu.1 4 (by omega) (by omega)).bind λv hv=>c6 (λhe=>?_) (λ_=>skip hv.1);rw[Yq h]at he;refine(cS (by simp;omega)).bind λm hm=>c7 ?_;subst hm;refine⟨⟨by dsimp only;omega,hv.1,by simp;omega,λx hx=>?_,λj x y hx hy=>?_⟩,by dsimp only;omega⟩
   ·rcases an.1 hx with hx|hx
    ·exact⟨(h6 x hx).1,by have:=(h6 x hx).2;dsimp only;omega⟩
    ·simp at hx;subst hx;exact⟨he,by dsimp only;omega⟩
   ·dsimp only at hx hy;have hyl:=(aa.1 hy).1;simp at hyl;rw[aB (by omega)]at hx;rw[ck]at hy;split at hy
    ·exact h7 j x y hx hy
    ·rename_i hn;have e0:j+1-l.length=0:=by omega
     rw[e0]at hy;simp at hy;subst hy;exact .inl (h6 x (af hx)).2
  ·simp only[dC]at hq;exact cU ⟨h4,⟨by dsimp only;omega,λx hx=>(h6 x hx).1,h7⟩,by dsimp only;omega⟩
theorem Aqs(h:Ax b)(hs:A1 s):Ok (Vp s b) λy=>((Aw b y.1/\y.1.Al.length<=4)/\A1 y.2)/\∀x,x∈y.1.Ae->x.Since<=4:=by
 unfold Vp;refine(Asf h hs).andThen (λs0 h0=>?_) (λ_ h=>h.elim);refine(Ase h h0.2).andThen (λs1 h1=>?_) (λ_ h=>h.elim);refine(Asb h h0.1).andThen (λs3 h3=>?_) (λ_ h=>h.elim);refine(Asa h h3.1).andThen (λs4 h4=>?_) (λ_ h=>h.elim);refine(Ar9 h h4.1).andThen (λs5 h5=>?_) (λ_ h=>h.elim);exact Ok.pure ⟨⟨⟨⟨h1.1,h3.2.1,h4.2.1,λx hx=>(h3.2.2 x hx).1,h4.2.2,h1.2,h5.2.1⟩,h5.2.2⟩,h5.1⟩,λx hx=>(h3.2.2 x hx).2⟩
theorem Aul(h:Ax b)(hs:A1 s):Ok (Vp s b) λy=>(Aw b y.1/\y.1.Al.length<=4)/\A1 y.2:=(Aqs h hs).mono λ_ hy=>hy.1
def Ff(b:Aa)(p:Ad)(k i:Int):Option Int:=((b.Ah.zip p.Ai).find? λz=>(z.1.Kind==k&&z.1.B==i)&&z.2).map (·.1.A)
def Fh(o:Option Int):Int×Bool:=match o with
 |some a=>(a,true)
 |none=>(0,false)
theorem Aca{p:Ad}{k i:Int}:∀(l:List Ak)(c:List Bool)(n:Nat),n+l.length<=9223372036854775807->l.length=c.length->p.Ai.drop n=c ->
  foldI (uU p k i) l n ()=match ((l.zip c).find? λz=>(z.1.Kind==k&&z.1.B==i)&&z.2) with
   |some z=>some (.ret (z.1.A,true))
   |none=>some (.next ())
 | [],c,n,_,_,_=>by simp[foldI]
 |x::l,[],n,_,h,_=>by simp at h
 | x::l,v::c,n,hn,h,hd=>by
  simp only[aS]at hn h;have hv:p.Ai[n]? = some v:=by
   have:=congrArg (·[0]?) hd;simpa[List.getElem?_drop]using this
  have hd':p.Ai.drop (n+1)=c:=by rw[←bJ,hd];rfl
  have ih:=Aca (p:=p) (k:=k) (i:=i) l c (n+1) (by omega) (by omega) hd';have hcnt:cnt 0 n=(n:Int):=Cv (by omega);simp only[foldI,uU,Apw,hcnt,B1 hv,cd,List.find?_cons];cases hk:(x.Kind==k&&x.B==i) with
  |false=>simpa[Au,Ed]using ih
  |true=>
   cases v with
   |false=>simpa[Au,Ed]using ih
   |true=>simp[Au,Ed]
theorem Aoe(h:Ax b)(hc:p.Ai.length=b.Ah.length)(k i:Int):Afl b p k i=some (Fh (Ff b p k i)):=by
 have hb:=h.brl;unfold Afl;rw[Aca b.Ah p.Ai 0 (by omega) (by omega) rfl];unfold Ff;cases (b.Ah.zip p.Ai).find? λz=>(z.1.Kind==k&&z.1.B==i)&&z.2 with
 |none=>rfl
 |some z=>rfl
theorem Acw(h:Ax b)(hc:p.Ai.length=b.Ah.length)(i:Int):uW b p i=some (Fh (Ff b p 3 i)):=by
 unfold uW;rw[Aoe h hc];rfl
def G7(b:Aa)(p:Ad)(i:Int):Option Int:=
 if 0<=i/\i<p.Ae.length/\(p.Ae.getD i.toNat default).State=2 then Ff b p 2 i else none
theorem Ue(h:Ax b)(hp:Aw b p)(i:Int):uX b p i=some (Fh (G7 b p i)):=by
 have hs:=h.sol;have hn:=hp.nso;refine cY ?_;unfold uX;have e1:w64 ((p.Ae.length:Int)-1)=(p.Ae.length:Int)-1:=Az (by omega);by_cases hi:0<=i/\i<p.Ae.length
 ·have hin:Bl i 0 (w64 ((p.Ae.length:Int)-1))=true:=by rw[e1];exact qP (by omega)
  obtain⟨x,hx⟩:∃x,p.Ae[i.toNat]? = some x:=⟨_,aj (by omega)⟩;have hg:getI p.Ae i=some x:=by have:=B1 hx;rwa [bA hi.1]at this
  have hd:p.Ae.getD i.toNat default=x:=by simp[List.getD,hx]
  rw[hin,hg];refine Ok.bind (P:=λy=>y=x) (c9 (λ_=>Ok.pure rfl) λhn=>(hn ⟨rfl,trivial⟩).elim) λy hy=>?_;subst hy;unfold G7;refine c6 (λhc=>?_) (λhc=>?_)
  ·simp only[Y6,hin,ay,aR,bC,false_or,bne_iff_ne,ne_eq]at hc;rw[hd,if_neg (λhh=>hc hh.2.2)];exact Ok.pure rfl
  ·have hc:=ff hc;simp only[Y6,hin,ay,aR,bC,false_or,bne_iff_ne,ne_eq,Decidable.not_not]at hc;rw[hd,if_pos ⟨hi.1,hi.2,hc⟩,Aoe h hp.ncl];exact Ok.pure rfl
 ·have hin:Bl i 0 (w64 ((p.Ae.length:Int)-1))=false:=by
   cases hq:Bl i 0 (w64 ((p.Ae.length:Int)-1)) with
   |false=>rfl
   |true=>rw[Ia,e1]at hq;omega
  rw[hin];unfold G7;rw[if_neg (λhh=>hi ⟨hh.1,hh.2.1⟩)];refine Ok.bind (P:=λ_=>True) (c9 (λhg=>absurd hg.1 (by simp)) λ_=>trivial) λy _=>?_;refine c6 (λ_=>Ok.pure rfl) (λhc=>?_);simp[Y6,hin]at hc
variable{i:Int}
theorem Q8(h:Ax b)(e:Ff b p k i=some a):0<=a/\a<b.An:=by
 unfold Ff at e;rw[bO]at e;obtain⟨z,hz,rfl⟩:=e;exact(h.br z.1 (bP (List.mem_of_find?_eq_some hz)).1).1
theorem Adh(h:Ax b)(e:G7 b p i=some a):0<=a/\a<b.An:=by
 unfold G7 at e;split at e
 ·exact Q8 h e
 ·cases e
def Gg(s:List Int)(z:Ak×Bool):List Int:=
 if z.1.Kind=1/\z.2=true then (s.set z.1.A.toNat (min (s.getD z.1.A.toNat 0) (s.getD z.1.B.toNat 0))).set z.1.B.toNat (min (s.getD z.1.A.toNat 0) (s.getD z.1.B.toNat 0)) else s
def D_(l:List (Ak×Bool))(s:List Int):List Int:=l.foldl Gg s
def Dg(n:Nat):List Int:=(List.range n).map λ(i:Nat)=>(i:Int)
def groups(b:Aa)(p:Ad):List Int:=(List.range b.An.toNat).foldl (λs _=>D_ (b.Ah.zip p.Ai) s) (Dg b.An.toNat)
theorem Fg(s:List Int)(z:Ak×Bool):(Gg s z).length=s.length:=by
 unfold Gg;split <;> simp
theorem Gj(l:List (Ak×Bool)):∀s:List Int,(D_ l s).length=s.length:=by
 induction l with
 |nil=>intro s;rfl
 |cons z l ih=>grind[D_,Fg]
theorem Oz{b:Aa}{p:Ad}{n:Nat}:∀(xs:List Nat)(s:List Int),s.length=n->(xs.foldl (λs _=>D_ (b.Ah.zip p.Ai) s) s).length=n
 | [],s,h=>h
 |_::xs,s,h=>Oz xs _ (by rw[Gj];exact h)
theorem Ja(b:Aa)(p:Ad):(groups b p).length=b.An.toNat:=Oz _ _ (by simp[Dg])
variable{s:List Int}
theorem As7(h:Ax b)(hc:p.Ai.length=b.Ah.length)(hs:s.length=b.An.toNat) :
  Ok (foldI (uY p) b.Ah 0 s) (Em (λr=>r=D_ (b.Ah.zip p.Ai) s) (λ(_:Unit)=>False)):=by
 have hb:=h.brl;have hbu:=h.buses;refine c8 (I:=λj r=>r=D_ ((b.Ah.take j).zip (p.Ai.take j)) s) (by simp[D_]) (λj x r hx hr=>?_) λr hr=>?_
 ·have hj:=(aa.1 hx).1;obtain⟨v,hv⟩:∃v,p.Ai[j]? = some v:=⟨_,aj (by omega)⟩;have hcnt:cnt 0 j=(j:Int):=Cv (by omega);have hl:r.length=b.An.toNat:=by rw[hr,Gj,hs]
  have hnext:D_ ((b.Ah.take (j+1)).zip (p.Ai.take (j+1))) s=Gg r (x,v):=by
   rw[Bs hx,Bs hv,List.zip_append (by simp;omega)];unfold D_ at hr ⊢;rw[aY,←hr];rfl
  rw[hnext];unfold uY;rw[hcnt,B1 hv];obtain⟨⟨a0,a1⟩,hk⟩:=h.br x (af hx);by_cases k1:x.Kind=1
  ·rw[dD.2 k1];refine Ok.bind (P:=λy=>y=v) (c9 (λ_=>Ok.pure rfl) λhn=>(hn ⟨rfl,trivial⟩).elim) λy hy=>?_;subst hy;have hB:x.A<x.B/\x.B<b.An:=by omega
   cases y with
   |false=>
    refine c6 (λhq=>by simp at hq) (λ_=>c7 ?_);simp[Gg]
   |true=>
    refine c6 (λ_=>?_) (λhq=>by simp at hq);refine(cR a0 (by omega)).bind λu hu=>(cR (by omega) (by omega)).bind λw hw=>(cV a0 (by omega)).bind λt ht=>?_;subst ht;refine(cR (by omega) (by simp;omega)).bind λ_ _=>(cV (by omega) (by simp;omega)).bind λt ht=>c7 ?_;subst ht;simp[Gg,k1,List.getD,hu,hw]
  ·rw[dE.2 k1];refine Ok.bind (P:=λ_=>True) (c9 (λhg=>absurd hg.1 (by simp)) λ_=>trivial) λy _=>?_;refine c6 (λhq=>by simp at hq) (λ_=>c7 ?_);simp[Gg,k1]
 grind
theorem Aoo(h:Ax b)(hc:p.Ai.length=b.Ah.length):Afz b p=some (groups b p):=by
 have hbu:=h.buses;refine cY ?_;unfold Afz;refine(Ok.mkI (by omega) (by omega)).bind λy hy=>?_;refine Ok.andThen (A:=λs=>s=Dg b.An.toNat) (B:=λ(_:Unit)=>False) ?_ ?_ (λ_ h=>h.elim)
 ·refine c8 (I:=λj s=>s=(List.range b.An.toNat).map λi=>if i<j then (i:Int) else 0) ?_ (λj x s hx hs=>?_) λs hs=>?_
  ·rw[hy,Oc];exact bh λi _=>by simp
  ·have hj:=(aa.1 hx).1;have hjl:j<b.An.toNat:=by rw[hy]at hj;simpa using hj
   have hcnt:cnt 0 j=(j:Int):=Cv (by omega);subst hs;unfold Ai1;rw[hcnt];refine(dg (by omega) (by omega)).bind λ_ _=>(dl (by omega) (by omega)).bind λz hz=>c7 ?_;grind
  ·rw[hs];unfold Dg;refine bh λi hi=>?_;rw[hy];simp at hi;simp[hi]
 ·rintro s rfl;refine Ok.andThen (A:=λs=>s=groups b p) (B:=λ(_:Unit)=>False) ?_ (λs hs=>Ok.pure hs) (λ_ h=>h.elim);refine c8 (I:=λj s=>s=(List.range j).foldl (λs _=>D_ (b.Ah.zip p.Ai) s) (Dg b.An.toNat)) rfl (λj x s hx hs=>?_) λs hs=>?_
  ·unfold Ai0;have hl:s.length=b.An.toNat:=by rw[hs];exact Oz _ _ (by simp[Dg])
   refine(As7 h hc hl).inner (λr hr=>c7 ?_) (λ_ h=>h.elim);rw[hr,ce,aY,←hs];rfl
  ·rw[hs];unfold groups;congr 2;simp[Dg]
theorem As6(h:∀(i:Nat) v,s[i]? = some v->0<=v/\v<=i)(hz:z.1.Kind=1->0<=z.1.A/\z.1.A<z.1.B/\z.1.B<s.length):∀(i:Nat) v,(Gg s z)[i]? = some v->0<=v/\v<=i:=by
 unfold Gg;grind
theorem yP{n:Nat}:∀(l:List (Ak×Bool))(s:List Int),s.length=n->(∀z,z∈l->z.1.Kind=1->0<=z.1.A/\z.1.A<z.1.B/\z.1.B<n)->(∀(i:Nat) v,s[i]? = some v->0<=v/\v<=i)->∀(i:Nat) v,(D_ l s)[i]? = some v->0<=v/\v<=i
 | [],s,_,_,h=>h
 |z::l,s,hs,hz,h=>yP l (Gg s z) (by rw[Fg];exact hs) (λy hy=>hz y (al _ hy)) (As6 h (by rw[hs];exact hz z ak))
theorem Tw(h:Ax b)(p:Ad):∀(i:Nat) v,(groups b p)[i]? = some v->0<=v/\v<=i:=by
 have hbu:=h.buses;have hz:∀z,z∈b.Ah.zip p.Ai->z.1.Kind=1->0<=z.1.A/\z.1.A<z.1.B/\z.1.B<(b.An.toNat:Int):=by
  intro z hz hk;have:=h.br z.1 (bP hz).1;unfold Si at this;omega
 have key:∀(xs:List Nat)(s:List Int),s.length=b.An.toNat->(∀(i:Nat) v,s[i]? = some v->0<=v/\v<=i)->∀(i:Nat) v,(xs.foldl (λs _=>D_ (b.Ah.zip p.Ai) s) s)[i]? = some v->0<=v/\v<=i:=by
  intro xs;induction xs with
  |nil=>intro s _ h;exact h
  |cons x xs ih=>intro s hl h;exact ih _ (by rw[Gj];exact hl) (yP _ s hl hz h)
 refine key _ _ (by simp[Dg]) ?_;intro i v hv;simp only[Dg,aA]at hv;grind
def Jn(x:Aq):Bool:=!((x.An.length:Int)==0)
theorem Atl(l:List Aq)(h:l.length<=9223372036854775807):Zw l=some (Jl (λx=>(x.An.length:Int)==0) l):=by
 unfold Zw;exact H2 (λx:Aq=>(x.An.length:Int)==0) (λi y=>rfl) l h
theorem Axg(l:List Aq)(hl:l.length<=1000):Qk l=some (l.filter Jn):=by
 refine cY ?_;unfold Qk;rw[Atl l (by omega)];simp only[ab];unfold Jl;cases hf:l.findIdx? λx=>(x.An.length:Int)==0 with
 |none=>
  rw[cP]at hf;refine c6 (λ_=>Ok.pure ?_) (λhc=>by simp at hc);rw[eq_comm,cm];intro x hx;simp only[Jn,hf x hx];rfl
 | some i=>
  rw[cw]at hf;obtain⟨hi,hp,hn⟩:=hf;refine c6 (λhc=>?_) (λ_=>?_)
  ·simp only[dD]at hc;omega
  have e1:w64 ((i:Int)+1)=(i:Int)+1:=Az (by omega);simp only[e1];refine Ok.andThen (A:=λs=>0<=s.1/\s.1<=(l.length:Int)/\s.2.2.length=l.length/\s.2.2.take s.1.toNat=l.filter Jn) (B:=λ(_:Unit)=>False) ?_ ?_ (λ_ h=>h.elim)
  ·refine cQ (λs=>(0<=s.1/\s.1<s.2.1/\s.2.1<=(l.length:Int))/\s.2.2.length=l.length/\s.2.2.take s.1.toNat=(l.take s.2.1.toNat).filter Jn/\s.2.2.drop s.2.1.toNat=l.drop s.2.1.toNat) (λs=>((l.length:Int)-s.2.1).toNat) _ _ ?_ ?_ ?_
   ·refine⟨by dsimp only;omega,rfl,?_,rfl⟩;dsimp only;have e2:((i:Int)+1).toNat=i+1:=by omega
    rw[e2,aI,Bs (aj hi),bp];have h1:(l.take i).filter Jn=l.take i:=by
     rw[cm];intro x hx;obtain⟨j,hj,rfl⟩:=cg hx;simp only[aV]at hj;rw[List.getElem_take];have:=hn j (by omega);simp only[Jn];simpa using this
    have h2:Jn l[i]=false:=by simp only[Jn,hp];rfl
    rw[h1];simp[h2]
   ·dsimp only;omega
   ·rintro⟨a,j,m⟩ ⟨⟨h1,h2,h3⟩,h4,h5,h6⟩;dsimp only at h1 h2 h3 h4 h5 h6;unfold Vb Adw;dsimp only;refine c6 (λhq=>?_) (λhq=>?_)
    ·simp only[dA]at hq;have e1:w64 (j+1)=j+1:=Az (by omega);have e2:w64 (a+1)=a+1:=Az (by omega);have e3:(j+1).toNat=j.toNat+1:=by omega
     have e4:(a+1).toNat=a.toNat+1:=by omega
     refine(cR (by omega) (by omega)).bind λy hy=>?_;have hyl:l[j.toNat]? = some y:=by
      have:=congrArg (·[0]?) h6;simp only[aw,bD]at this;rw[←this];exact hy
     have hdrop:∀(q:List Aq),q.drop j.toNat=l.drop j.toNat->q.drop (j.toNat+1)=l.drop (j.toNat+1):=λq hq=>by
      rw[←bJ,hq,bJ]
     refine c6 (λhf=>?_) (λhf=>?_)
     ·refine(cR (by omega) (by omega)).bind λ_ _=>(cV (by omega) (by omega)).bind λz hz=>?_;rw[e1,e2];subst hz;refine c7 ⟨⟨by dsimp only;omega,by simpa using h4,?_,?_⟩,by dsimp only;omega⟩
      ·dsimp only;rw[e3,e4,Bs hyl,bp,←h5];have hfl:Jn y=true:=hf;rw[Bs (x:=y) (by rw[bH (by omega)])];simp[hfl,List.take_set_of_le]
      ·dsimp only;rw[e3,List.drop_set_of_lt (by omega)];exact hdrop m h6
     ·rw[e1];refine c7 ⟨⟨by dsimp only;omega,h4,?_,?_⟩,by dsimp only;omega⟩
      ·dsimp only;have hfl:Jn y=false:=hf;rw[e3,Bs hyl,bp,←h5];simp[hfl]
      ·dsimp only;rw[e3];exact hdrop m h6
    ·simp only[dC]at hq;have e:j.toNat=l.length:=by omega
     refine cU ⟨h1,by dsimp only;omega,h4,?_⟩;dsimp only;rw[h5,e,aP]
  ·rintro⟨a,j,m⟩ ⟨h1,h2,h3,h4⟩;dsimp only at h1 h2 h3 h4 ⊢;have hc:(Hf m a.toNat ((Int.toNat (m.length:Int))-a.toNat) (⟨([]:List Int),([]:List Int),([]:List Int)⟩:Aq)).length=l.length:=by
    simp[Hf];omega
   refine(Ok.bndI h1 (by omega) (by omega)).bind λ_ _=>(Ok.bndI (by omega) h1 (by rw[hc];omega)).bind λ_ _=>Ok.pure ?_;rw[←h4];unfold Hf;rw[Nat.sub_zero,cI (by simp;omega),List.take_take,Nat.min_self]
def G2(b:Aa)(p:Ad)(o:Option Int):Option Int:=o.map λa=>(groups b p).getD a.toNat 0
def E9(b:Aa)(p:Ad)(n f:Nat):List Int:=((List.range n).filter λ(i:Nat)=>(groups b p).getD i 0==(f:Int)).map λ(i:Nat)=>(i:Int)
def Gn(b:Aa)(p:Ad)(n f:Nat):List Int:=((List.range n).filter λ(i:Nat)=>G2 b p (G7 b p (i:Int))==some (f:Int)).map λ(i:Nat)=>(i:Int)
def Hl(b:Aa)(p:Ad)(n f:Nat):List Int:=((List.range n).filter λ(i:Nat)=>G2 b p (Ff b p 3 (i:Int))==some (f:Int)).map λ(i:Nat)=>(i:Int)
def isl(b:Aa)(p:Ad)(f:Nat):Aq:=⟨E9 b p b.An.toNat f,Gn b p b.Ae.length f,Hl b p b.Ag.length f⟩
def Cc(b:Aa)(p:Ad):List Aq:=((List.range b.An.toNat).map (isl b p)).filter Jn
theorem Gr(q:Nat->Bool)(n:Nat):((List.range (n+1)).filter q).map (λ(i:Nat)=>(i:Int))=((List.range n).filter q).map (λ(i:Nat)=>(i:Int))++if q n=true then [(n:Int)] else []:=by
 rw[ce,bp,bF];congr 1;cases h:q n <;> simp[h]
theorem E8(q:Nat->Bool)(n:Nat):(((List.range n).filter q).map (λ(i:Nat)=>(i:Int))).length<=n:=by
 grind
theorem Kk(h : Ax b)(hp : Aw b p) : vO b p = some (Cc b p) := by
 have hbu:=h.buses;have hso:=h.sol;have hco:=h.col;have hgl:=Ja b p;have hglo:=Tw h p;refine cY ?_;unfold vO;rw[E4 h hp];simp only[ab];refine c6 (λhc=>by simp at hc) (λ_=>?_);rw[Aoo h hp.ncl];simp only[ab];refine(Ok.mkI (by omega) (by omega)).bind λy hy=>?_;have hget:∀(i:Nat),i<b.An.toNat->(groups b p)[i]? = some ((groups b p).getD i 0):=λi hi=>by
  have:i<(groups b p).length:=by omega
  simp[List.getD,List.getElem?_eq_getElem this]
 refine Ok.andThen (A:=λs=>s=(List.range b.An.toNat).map λf=>(⟨E9 b p b.An.toNat f,[],[]⟩:Aq)) (B:=λ(_:Unit)=>False) ?_ ?_ (λ_ h=>h.elim)
 ·refine c8 (I:=λj s=>s=(List.range b.An.toNat).map λf=>(⟨E9 b p j f,[],[]⟩:Aq)) ?_ (λj x s hx hs=>?_) λs hs=>?_
  ·rw[hy,Oc];rfl
  ·subst hs;have hj:j<b.An.toNat:=by have:=(aa.1 hx).1;omega
   have hlo:=hglo j x hx;have hxe:(groups b p).getD j 0=x:=by simp[List.getD,hx]
   have hcnt:cnt 0 j=(j:Int):=Cv (by omega);unfold Ajk;rw[hcnt];refine(dg (by omega) (by omega)).bind λu hu=>?_;subst hu;have hl:(E9 b p j x.toNat).length<=j:=E8 _ _;refine(cS (by simp;omega)).bind λv hv=>(dl (by omega) (by omega)).bind λw hw=>c7 ?_;rw[hw];refine bh λf _=>?_;unfold E9;rw[Gr,hxe];by_cases e:f=x.toNat
   ·subst e;rw[if_pos rfl,if_pos (by simp;omega),hv];rfl
   ·rw[if_neg e,if_neg (by simp;omega),aU]
  ·rw[hgl]at hs;exact hs
 ·rintro s rfl;refine Ok.andThen (A:=λs=>s.2=(List.range b.An.toNat).map λf=>(⟨E9 b p b.An.toNat f,Gn b p b.Ae.length f,[]⟩:Aq)) (B:=λ(_:Unit)=>False) ?_ ?_ (λ_ h=>h.elim)
  ·refine cQ (λs=>(0<=s.1/\s.1<=(b.Ae.length:Int))/\s.2=(List.range b.An.toNat).map λf=>(⟨E9 b p b.An.toNat f,Gn b p s.1.toNat f,[]⟩:Aq)) (λs=>((b.Ae.length:Int)-s.1).toNat) _ _ ?_ ?_ ?_
   ·exact⟨by dsimp only;omega,rfl⟩
   ·dsimp only;omega
   ·rintro⟨i,s⟩ ⟨⟨h1,h2⟩,h3⟩;dsimp only at h1 h2 h3;subst h3;unfold Ajj Aqf;dsimp only;refine c6 (λhq=>?_) (λhq=>?_)
    ·simp only[dA]at hq;have e1:w64 (i+1)=i+1:=Az (by omega);have e2:(i+1).toNat=i.toNat+1:=by omega
     have e3:((i.toNat:Nat):Int)=i:=by omega
     rw[Ue h hp];simp only[ab];cases hcn:G7 b p i with
     |none=>
      refine c6 (λhc=>by simp[Fh]at hc) (λ_=>?_);rw[e1];refine c7 ⟨⟨by dsimp only;omega,?_⟩,by dsimp only;omega⟩;dsimp only;rw[e2];refine bh λf _=>?_;unfold Gn;rw[Gr,e3,hcn,if_neg (by simp[G2]),aU]
     | some a=>
      have hab:=Adh h hcn;have hga:=hget a.toNat (by omega);have hgla:=hglo _ _ hga;refine c6 (λ_=>?_) (λhc=>by simp[Fh]at hc);have hg2:getI (groups b p) a=some ((groups b p).getD a.toNat 0):=by have:=B1 hga;rwa [bA hab.1]at this
      simp only[Fh,hg2,ab];generalize hge:(groups b p).getD a.toNat 0=ga at hgla;refine(dg (by omega) (by omega)).bind λu hu=>?_;subst hu;have hl:(Gn b p i.toNat ga.toNat).length<=i.toNat:=E8 _ _;refine(cS (by simp;omega)).bind λv hv=>(dl (by omega) (by omega)).bind λw hw=>?_;rw[e1];refine c7 ⟨⟨by dsimp only;omega,?_⟩,by dsimp only;omega⟩;dsimp only;rw[hw,e2];refine bh λf _=>?_;unfold Gn;rw[Gr,e3,hcn];simp only[G2,aT,hge];by_cases e:f=ga.toNat
      ·subst e;rw[if_pos rfl,if_pos (by simp;omega),hv];rfl
      ·rw[if_neg e,if_neg (by simp;omega),aU]
    ·simp only[dC]at hq;have e:i.toNat=b.Ae.length:=by omega
     rw[e];exact cU rfl
  ·rintro⟨i0,s⟩ hs;dsimp only at hs;subst hs;dsimp only;refine Ok.andThen (A:=λs=>s.2=(List.range b.An.toNat).map (isl b p)) (B:=λ(_:Unit)=>False) ?_ ?_ (λ_ h=>h.elim)
   ·refine cQ (λs=>(0<=s.1/\s.1<=(b.Ag.length:Int))/\s.2=(List.range b.An.toNat).map λf=>(⟨E9 b p b.An.toNat f,Gn b p b.Ae.length f,Hl b p s.1.toNat f⟩:Aq)) (λs=>((b.Ag.length:Int)-s.1).toNat) _ _ ?_ ?_ ?_
    ·exact⟨by dsimp only;omega,rfl⟩
    ·dsimp only;omega
    ·rintro⟨i,s⟩ ⟨⟨h1,h2⟩,h3⟩;dsimp only at h1 h2 h3;subst h3;unfold Aji Aqe;dsimp only;refine c6 (λhq=>?_) (λhq=>?_)
     ·simp only[dA]at hq;have e1:w64 (i+1)=i+1:=Az (by omega);have e2:(i+1).toNat=i.toNat+1:=by omega
      have e3:((i.toNat:Nat):Int)=i:=by omega
      rw[Acw h hp.ncl];simp only[ab];cases hcn:Ff b p 3 i with
      |none=>
       refine c6 (λhc=>by simp[Fh]at hc) (λ_=>?_);rw[e1];refine c7 ⟨⟨by dsimp only;omega,?_⟩,by dsimp only;omega⟩;dsimp only;rw[e2];refine bh λf _=>?_;unfold Hl;rw[Gr,e3,hcn,if_neg (by simp[G2]),aU]
      | some a=>
       have hab:=Q8 h hcn;have hga:=hget a.toNat (by omega);have hgla:=hglo _ _ hga;refine c6 (λ_=>?_) (λhc=>by simp[Fh]at hc);have hg2:getI (groups b p) a=some ((groups b p).getD a.toNat 0):=by have:=B1 hga;rwa [bA hab.1]at this
       simp only[Fh,hg2,ab];generalize hge:(groups b p).getD a.toNat 0=ga at hgla;refine(dg (by omega) (by omega)).bind λu hu=>?_;subst hu;have hl:(Hl b p i.toNat ga.toNat).length<=i.toNat:=E8 _ _;refine(cS (by simp;omega)).bind λv hv=>(dl (by omega) (by omega)).bind λw hw=>?_;rw[e1];refine c7 ⟨⟨by dsimp only;omega,?_⟩,by dsimp only;omega⟩;dsimp only;rw[hw,e2];refine bh λf _=>?_;unfold Hl;rw[Gr,e3,hcn];simp only[G2,aT,hge];by_cases e:f=ga.toNat
       ·subst e;rw[if_pos rfl,if_pos (by simp;omega),hv];rfl
       ·rw[if_neg e,if_neg (by simp;omega),aU]
     ·simp only[dC]at hq;have e:i.toNat=b.Ag.length:=by omega
      rw[e];exact cU rfl
   ·rintro⟨i1,s⟩ hs;dsimp only at hs;subst hs;dsimp only;rw[Axg _ (by simp;omega)];exact Ok.pure rfl
theorem G9(h:l.length*B<=140737488355328):appI B [] l=some l:=by
 unfold appI;have:decide ((([]:List α).length+l.length)*B<=140737488355328)=true:=by simpa using h
 rw[this];rfl
theorem Hg(h:Ax b)(hp:Aw b p):Mj p=some p:=by
 have h1:=hp.ncl;have h2:=hp.nso;have h3:=hp.nli;have h4:=hp.brk.len;have h5:=h.brl;have h6:=h.sol;have h7:=h.col;unfold Mj vS vR Pe Sf;rw[G9 (by omega),G9 (by omega),G9 (by omega),G9 (by omega)];rfl
theorem eqB(l:List Bool)(h:l.length<=9223372036854775807):vN l l=some true:=by
 unfold vN;rw[Du l 0 λj x hj=>?_]
 ·simp[andThen]
 ·have hjl:=(aa.1 hj).1;unfold vM;rw[aF,Cv (by omega),B1 hj];simp
theorem eqI(l:List Int)(h:l.length<=9223372036854775807):vJ l l=some true:=by
 unfold vJ;rw[Du l 0 λj x hj=>?_]
 ·simp[andThen]
 ·have hjl:=(aa.1 hj).1;unfold vI;rw[aF,Cv (by omega),B1 hj];simp
theorem eqR(l:List Aj)(h:l.length<=9223372036854775807):vL l l=some true:=by
 unfold vL;rw[Du l 0 λj x hj=>?_]
 ·simp[andThen]
 ·have hjl:=(aa.1 hj).1;unfold vK Aqd;rw[aF,Cv (by omega),B1 hj];simp
theorem eqP(l:List Ab)(h:l.length<=9223372036854775807):vH l l=some true:=by
 unfold vH;rw[Du l 0 λj x hj=>?_]
 ·simp[andThen]
 ·have hjl:=(aa.1 hj).1;unfold vG Aqc;rw[aF,Cv (by omega),B1 hj];simp
structure Aum(p:Ad):Prop where
 c:p.Ai.length<=1000
 s:p.Ae.length<=1000
 l:p.Ao.length<=1000
 k:p.Al.length<=1000
theorem Aw.lens(h:Ax b)(hp:Aw b p):Aum p:=by
 have h1:=hp.ncl;have h2:=hp.nso;have h3:=hp.nli;have h4:=hp.brk.len;have h5:=h.brl;have h6:=h.sol;have h7:=h.col;exact⟨by omega,by omega,by omega,by omega⟩
theorem Anu(h:Aum p):F99 p p=some true:=by
 have h1:=h.c;have h2:=h.s;have h3:=h.l;have h4:=h.k;unfold F99;rw[eqB _ (by omega),eqI _ (by omega),eqR _ (by omega),eqP _ (by omega)];rfl
def Wx(like x:Aj):Aj:=⟨x.State,x.Since,like.Ar,like.Phase⟩
def Fo(like:Aj)(idx:List Int)(ss:List Aj):List Aj:=idx.foldl (λs i=>s.set i.toNat (Wx like (s.getD i.toNat default))) ss
theorem Hp(like:Aj):∀(idx:List Int)(ss:List Aj),(Fo like idx ss).length=ss.length
 | [],_=>rfl
 |i::idx,ss=>by
  show (Fo like idx _).length=_;rw[Hp like idx,bm]
theorem yE(h:idx[j]? = some i)(ss:List Aj):Fo like (idx.take (j+1)) ss=(Fo like (idx.take j) ss).set i.toNat (Wx like ((Fo like (idx.take j) ss).getD i.toNat default)):=by
 unfold Fo;rw[Bs h,aY];rfl
theorem Abj(h:∀i,i∈idx->0<=i/\i<p.Ae.length):Ql p idx like=some (Fo like idx p.Ae):=by
 refine cY ?_;unfold Ql;refine Ok.andThen (A:=λs=>s=Fo like idx p.Ae) (B:=λ(_:Unit)=>False) ?_ (λs hs=>Ok.pure hs) (λ_ h=>h.elim);refine c8 (I:=λj s=>s=Fo like (idx.take j) p.Ae) rfl (λj x s hx hs=>?_) λs hs=>?_
 ·have hi:=h x (af hx);have hl:s.length=p.Ae.length:=by rw[hs,Hp]
  unfold Aal;refine(cR hi.1 (by omega)).bind λu hu=>(cV hi.1 (by omega)).bind λv hv=>?_;have hvg:v[x.toNat]? = some (⟨u.State,u.Since,like.Ar,u.Phase⟩:Aj):=by rw[hv,bH (by omega)]
  refine Ok.bind (P:=λw=>w=(⟨u.State,u.Since,like.Ar,u.Phase⟩:Aj)) ((cR hi.1 (by rw[hv];simpa using by omega)).mono λw hw=>by rw[hvg]at hw;cases hw;rfl) λw hw=>?_;refine(cV hi.1 (by rw[hv];simpa using by omega)).bind λz hz=>c7 ?_;rw[yE hx,←hs,hz,hv,hw,List.set_set];have:s.getD x.toNat default=u:=by simp[List.getD,hu]
  rw[this];rfl
 ·rw[aP]at hs;exact hs
def Fl(b:Aa)(p:Ad):List Aj:=(Cc b p).foldl (λs x=>match x.Ae with| []=>s|i::_=>Fo (p.Ae.getD i.toNat default) x.Ae s) p.Ae
theorem Pq{x:Aq}(h:x∈Cc b p):∀i,i∈x.Ae->0<=i/\i<b.Ae.length:=by
 unfold Cc at h;obtain⟨f,_,rfl⟩:=ao.1 (az.1 h).1;intro i hi;obtain⟨k,hk,rfl⟩:=ao.1 hi;have:=aZ.1 (az.1 hk).1;omega
theorem Pp(b:Aa)(p:Ad):(Cc b p).length<=b.An.toNat:=by
 have:=bf Jn ((List.range b.An.toNat).map (isl b p));simpa[Cc]using this
def Dn(p:Ad)(s:List Aj)(x:Aq):List Aj:=match x.Ae with
 | []=>s
 |i::_=>Fo (p.Ae.getD i.toNat default) x.Ae s
theorem Nq(p:Ad)(s:List Aj)(x:Aq):(Dn p s x).length=s.length:=by
 unfold Dn;split
 ·rfl
 ·rw[Hp]
theorem Li(p:Ad):∀(l:List Aq)(s:List Aj),(l.foldl (Dn p) s).length=s.length
 | [],_=>rfl
 |x::l,s=>by show (l.foldl (Dn p) _).length=_;rw[Li p l,Nq]
theorem Im(b:Aa)(p:Ad):(Fl b p).length=p.Ae.length:=Li p _ _
theorem Oh(h:Ax b)(hp:Aw b p):F96 b p=some (⟨p.Ai,Fl b p,p.Ao,p.Al⟩,0):=by
 refine cY ?_;unfold F96;rw[E4 h hp,Hg h hp,Kk h hp];simp only[ab];refine c6 (λhc=>by simp at hc) (λ_=>?_);refine Ok.andThen (A:=λs=>s=Fl b p) (B:=λ(_:Unit)=>False) ?_ (λs hs=>Ok.pure (by rw[hs])) (λ_ h=>h.elim);refine c8 (I:=λj s=>s=((Cc b p).take j).foldl (Dn p) p.Ae) rfl (λj x s hx hs=>?_) λs hs=>?_
 ·have hi:=Pq (af hx);have hl:s.length=p.Ae.length:=by rw[hs,Li]
  have hn:=hp.nso;have hnext:((Cc b p).take (j+1)).foldl (Dn p) p.Ae=Dn p s x:=by rw[Bs hx,aY,←hs];rfl
  unfold Aqu Avt;cases hsrc:x.Ae with
  |nil=>
   refine c6 (λhc=>by simp at hc) (λ_=>c7 ?_);rw[hnext];simp[Dn,hsrc]
  | cons i l=>
   have hi0:=hi i (by rw[hsrc];exact ak);refine c6 (λ_=>?_) (λhc=>by simp at hc);have hg:getI (i::l) 0=some i:=rfl;obtain⟨u,hu⟩:∃u,p.Ae[i.toNat]? = some u:=⟨_,aj (by omega)⟩;have hg2:getI p.Ae i=some u:=by have:=B1 hu;rwa [bA hi0.1]at this
   rw[hg];simp only[ab];rw[hg2];simp only[ab];rw[Abj (by
    intro k hk;have:=hi k (by rw[hsrc];exact hk);dsimp only;omega)]
   refine c7 ?_;rw[hnext];have:p.Ae.getD i.toNat default=u:=by simp[List.getD,hu]
   simp only[Dn,hsrc,this]
 ·rw[aP]at hs;exact hs
structure V7(y:Bt):Prop where
 stop:1<=y.Stop/\y.Stop<=99
 start:y.Stop<y.Start/\y.Start<=100
 delay:0<=y.Delay/\y.Delay<=600
theorem Agi{y:Bt}(h:V7 y):F98 y=true:=by
 have h1:=h.stop;have h2:=h.start;have h3:=h.delay;simp only[F98,ae,dA];omega
theorem Aui{s:Af}(hs:A1 s):Ok (F85 s) λy=>V7 y.1/\A1 y.2:=by
 unfold F85;refine(Ct hs _ (by simp) (by simp)).bind λu hu=>(Ct hu.1 _ (by simp) (by simp)).bind λv hv=>(Ct hv.1 _ (by simp) (by simp)).bind λw hw=>Ok.pure ⟨?_,hw.1⟩;have g1:u.1=60\/u.1=80\/u.1=100:=by simpa using hu.2
 have g2:v.1=1\/v.1=30\/v.1=50:=by simpa using hv.2
 have g3:w.1=0\/w.1=1\/w.1=3:=by simpa using hw.2
 exact⟨by dsimp only;omega,by dsimp only;omega,by dsimp only;omega⟩
def Aa5(t:Int)(x:A8):Prop:=(-1<=x.High/\x.High<=t) /\ -1<=x.Low/\x.Low<=t
theorem Aj4{p:Am}{l:List A8}(h:∀x,x∈l->Aa5 p.Time x):Qn l p=some (false,p):=by
 refine cY ?_;unfold Qn Z7;refine Ok.bind (P:=λy=>y=(-1,p)) ?_ (λy hy=>Ok.pure (by rw[hy];rfl));refine Ok.andThen (A:=λs=>s=(p.Time,p.Power.Ai,p.Power.Ae,p.Power.Ao,p.Power.Al,p.A_,p.Be)) (B:=λ_=>False) ?_ (λs hs=>Ok.pure (by rw[hs])) (λ_ h=>h.elim);refine c8 (I:=λ_ s=>s=(p.Time,p.Power.Ai,p.Power.Ae,p.Power.Ao,p.Power.Al,p.A_,p.Be)) rfl (λj x s hx hs=>?_) λs hs=>hs;have hr:=h x (af hx);unfold Aa5 at hr;subst hs;unfold Vi;refine c6 (λhc=>?_) (λ_=>c7 rfl);simp only[Ady,Ge,Zc,ay,be,b9,dC]at hc;omega
structure Qa(b:Aa)(y:Bt)(p:Am):Prop where
 st:Aw b p.Power
 fol:Fl b p.Power=p.Power.Ae
 time:0<=p.Time/\p.Time<=2147483648
 nro:p.A_.length=b.An.toNat
 ros:∀x,x∈p.A_->Aa5 p.Time x
theorem Aas(h:Ax b){y:Bt}(hy:V7 y){p:Am}(hp:Qa b y p):F49 b y p=some 0:=by
 have h1:=h.buses;have h2:=hp.time;have h3:=hp.nro;refine cY ?_;unfold F49;rw[Oh h hp.st];simp only[ab,hp.fol];refine c6 (λhc=>by simp at hc) (λ_=>c6 (λhc=>?_) (λ_=>c6 (λhc=>?_) (λ_=>?_)))
 ·simp only[Av0,Agi hy,aR,aX,ay,dA]at hc;omega
 ·simp only[bne_iff_ne,ne_eq]at hc;omega
 ·have e:(⟨p.Power.Ai,p.Power.Ae,p.Power.Ao,p.Power.Al⟩:Ad)=p.Power:=rfl;rw[e,Anu (hp.st.lens h)];simp only[ab];rw[Aj4 hp.ros];have e2:Au [((!true),false)] (some (false,p)) (default,p)=some (false,p):=rfl;rw[e2];exact Ok.pure rfl
def brk(l:List Ab)(k n:Int):Bool:=l.any λx=>k==x.Kind&&n==x.Number
theorem Gv(h:p.Al.length<=1000)(k n:Int):Mi p k n=some (brk p.Al k n):=by
 unfold Mi Agd Amw;rw[H2 (λx:Ab=>(k==x.Kind)&&((n==x.Number)&&true)) (λi y=>rfl) p.Al (by omega)];simp only[ab,K5,brk,bK]
def V3(b:Aa)(i:Int):Int:=Jl (λx:Ak=>x.Kind==2&&x.B==i) b.Ah
theorem All(h:Ax b)(i:Int):Aly b i=some (V3 b i):=by
 have hb:=h.brl;unfold Aly Ae1;refine cY ?_;refine Ok.bind (P:=λy=>y=(V3 b i,i)) ?_ (λy hy=>Ok.pure (by rw[hy]));have key:=Ot (f:=λn(a:Ak)(z:Unit)=>(bif (a.Kind==2&&a.B==i)then some (.ret (cnt 0 n)) else some (.next ()):Option (Ctl Unit Int))) (p:=λx:Ak=>x.Kind==2&&x.B==i) (λ_ _=>rfl) b.Ah 0 (by omega);have:∀(xs:List Ak)(k:Nat),foldI (Uw i) xs k ()=match foldI (λn(a:Ak)(z:Unit)=>(bif (a.Kind==2&&a.B==i)then some (.ret (cnt 0 n)) else some (.next ()):Option (Ctl Unit Int))) xs k () with
   |some (.ret r)=>some (.ret (r,i))
   |some (.next _)=>some (.next ())
   |some (.brk _)=>some (.brk ())
   |none=>none:=by
  intro xs;induction xs with
  |nil=>intro k;rfl
  |cons x xs ih=>
   intro k;simp only[foldI,Uw,Ae0];cases hq:(x.Kind==2&&x.B==i) with
   |true=>rfl
   |false=>simp only[cond_false];exact ih (k+1)
 rw[this,key];unfold V3 Jl;cases b.Ah.findIdx? (λx:Ak=>x.Kind==2&&x.B==i) with
 |none=>exact Ok.pure rfl
 |some j=>exact Ok.pure rfl
theorem Alk(h:Ax b)(h0:0<=i)(h1:i<b.Ae.length):∃(j:Nat)(x:Ak),V3 b i=(j:Int)/\b.Ah[j]? = some x/\x.Kind=2/\x.B=i/\j<24:=by
 have hone:=h.one i.toNat (by omega);have hb:=h.brl;unfold V3 Jl;cases hf:b.Ah.findIdx? (λx:Ak=>x.Kind==2&&x.B==i) with
 | none=>
  exfalso;rw[cP]at hf;have:brs b.Ah 2 i.toNat=[]:=K8 λx hx hk e=>by
   have:=hf x hx;simp[hk]at this;omega
  rw[this]at hone;simp at hone
 |some j=>
  rw[cw]at hf;obtain⟨hj,hp,_⟩:=hf;simp only[ae,dD]at hp;exact⟨j,b.Ah[j],rfl,aj hj,hp.1,hp.2,by omega⟩
def lit(b:Aa)(u:Int->Bool)(s:List Bool)(i:Nat):List Bool:=if u (i:Int)then s.set (b.Ah.getD (V3 b (i:Int)).toNat default).A.toNat true else s
def LeB(s t:List Bool):Prop:=s.length=t.length/\∀i:Nat,s[i]? = some true->t[i]? = some true
theorem LeB.refl(s:List Bool):LeB s s:=⟨rfl,λ_ h=>h⟩
variable{s:List Bool}
theorem LeB.trans{r:List Bool}(h:LeB s t)(k:LeB t r):LeB s r:=⟨h.1.trans k.1,λi e=>k.2 i (h.2 i e)⟩
theorem LeB.set(h:LeB s t)(n:Nat){x y:Bool}(hx:x=true->y=true):LeB (s.set n x) (t.set n y):=by
 refine⟨by simp[h.1],λi e=>?_⟩;rw[aH]at e ⊢;split at e
 ·rename_i hn;rw[if_pos hn];split at e
  ·rename_i hl;rw[if_pos (by rw[←h.1];exact hl)];cases e;rw[hx rfl]
  ·cases e
 ·rename_i hn;rw[if_neg hn];exact h.2 i e
theorem LeB.getD(h:LeB s t)(n:Nat):s.getD n false=true->t.getD n false=true:=by
 intro e;have:s[n]? = some true:=by
  unfold List.getD at e;cases hs:s[n]? with
  |none=>rw[hs]at e;cases e
  |some v=>rw[hs]at e;simp at e;rw[e]
 simp[List.getD,h.2 n this]
theorem LeB.up(s:List Bool)(n:Nat){y:Bool}(hy:s.getD n false=true->y=true):LeB s (s.set n y):=by
 refine⟨by simp,λi e=>?_⟩;rw[aH];split
 ·rename_i hn;subst hn;have hl:=(aa.1 e).1;rw[if_pos hl,hy (by simp[List.getD,e])]
 ·exact e
def ks(x:Ab):Int:=x.Kind*1000+x.Number
def Db(x:Ab):Prop:=(1<=x.Kind/\x.Kind<=4)/\0<=x.Number/\x.Number<=100
theorem Cs.small(h:Ax b)(hx:Cs b x):Db x:=by
 have h1:=h.buses;have h2:=h.brl;have h3:=h.sol;have h4:=h.col;unfold Cs at hx;unfold Db;omega
theorem Aa2(hx:Db x)(hy:Db y):Kt x y↔ks x<ks y:=by
 unfold Kt ks;unfold Db at hx hy;omega
theorem Avn(hx:Db x)(hy:Db y)(h:ks x=ks y):x=y:=by
 unfold ks at h;unfold Db at hx hy;cases x;cases y;grind
theorem zG(hx:Db x)(hy:Db y):(decide (Sb x y<0)=decide (ks x<ks y))/\((Sb x y==0)=(ks x==ks y)):=by
 unfold Db at hx hy;unfold Sb ks;by_cases hk:x.Kind=y.Kind
 ·have:(x.Kind != y.Kind)=false:=by simp[hk]
  rw[this,cond_false,Az (by omega)];grind
 ·have:(x.Kind != y.Kind)=true:=by simp[hk]
  rw[this,cond_true,Az (by omega)];grind
def Gd(l:List Ab):Prop:=∀(j k:Nat) x y,j<k->l[j]? = some x->l[k]? = some y->ks x<ks y
variable{l:List Ab}
theorem H0(h:Ax b)(hl:D6 b l):Gd l:=by
 have hs:∀x,x∈l->Db x:=λx hx=>(hl.mem x hx).small h;intro j k;induction k with
 |zero=>intro x y hj;omega
 |succ k ih=>
  intro x y hj hx hy;have hk:=(aa.1 hy).1;obtain⟨z,hz⟩:∃z,l[k]? = some z:=⟨_,aj (by omega)⟩;have h1:=(Aa2 (hs z (af hz)) (hs y (af hy))).1 (hl.asc k z y hz hy);grind
theorem Axb(h0:0<=n)(h1:n<=1000000):w64 (S7 .u64 (IntKind.wrap .u64 (w64 n)) 1)=n / 2:=by
 have e1:w64 n=n:=Az (by omega);have e2:IntKind.wrap .u64 n=n:=by
  simp[IntKind.wrap,IntKind.signed,IntKind.bits];omega
 have e3:S7 .u64 n 1=n / 2:=by
  unfold S7;have:(2:Int) ^ min 1 (IntKind.u64).bits=2:=by decide
  grind
 rw[e1,e2,e3,Az (by omega)]
structure At(l:List Ab)(x:Ab)(n:Nat):Prop where
 le:n<=l.length
 lo:∀(j:Nat) y,j<n->l[j]? = some y->ks y<ks x
 hi:∀(j:Nat) y,n<=j->l[j]? = some y->ks x<=ks y
theorem Oa(hs:Gd l)(hsm:∀x,x∈l->Db x)(hx:Db x)(hl:l.length<=1000) :
  Ok (Zk l x) λy=>∃n:Nat,y.1=(n:Int)/\At l x n/\(y.2=true↔l[n]? = some x):=by
 unfold Zk;refine Ok.andThen (A:=λs=>∃n:Nat,s.1=(n:Int)/\At l x n) (B:=λ(_:Unit)=>False) ?_ ?_ (λ_ h=>h.elim)
 ·refine cQ (λs=>(0<=s.1/\s.1<=s.2/\s.2<=(l.length:Int))/\(∀(j:Nat) y,(j:Int)<s.1->l[j]? = some y->ks y<ks x)/\∀(j:Nat) y,s.2<=(j:Int)->l[j]? = some y->ks x<=ks y) (λs=>(s.2-s.1).toNat) _ _ ?_ ?_ ?_
  ·refine⟨by dsimp only;omega,λj y hj=>by dsimp only at hj;omega,λj y hj hy=>?_⟩;have:=(aa.1 hy).1;dsimp only at hj;omega
  ·dsimp only;omega
  ·rintro⟨i,j⟩ ⟨⟨h1,h2,h3⟩,h4,h5⟩;dsimp only at h1 h2 h3 h4 h5;unfold zV;dsimp only;refine c6 (λhq=>?_) (λhq=>?_)
   ·simp only[dA]at hq;rw[Axb (by omega) (by omega)];refine(cR (by omega) (by omega)).bind λy hy=>?_;have hym:=hsm y (af hy);rw[(zG hym hx).1];refine c6 (λhc=>?_) (λhc=>?_)
    ·simp only[dA]at hc;rw[Az (by omega)];refine c7 ⟨⟨by dsimp only;omega,λk z hk hz=>?_,h5⟩,by dsimp only;omega⟩;dsimp only at hk;by_cases e:k=((i+j) / 2).toNat
     ·subst e;rw[hy]at hz;cases hz;exact hc
     ·have:=hs k _ z y (by omega) hz hy;omega
    ·simp only[dC]at hc;refine c7 ⟨⟨by dsimp only;omega,h4,λk z hk hz=>?_⟩,by dsimp only;omega⟩;dsimp only at hk;by_cases e:k=((i+j) / 2).toNat
     ·subst e;rw[hy]at hz;cases hz;omega
     ·have:=hs _ k y z (by omega) hy hz;omega
   ·simp only[dC]at hq;refine cU ⟨i.toNat,by dsimp only;omega,by omega,λk y hk hy=>h4 k y (by omega) hy,λk y hk hy=>h5 k y (by omega) hy⟩
 ·rintro⟨i,j⟩ ⟨n,hn,hat⟩;dsimp only at hn;subst hn;dsimp only;by_cases hlt:n<l.length
  ·obtain⟨y,hy⟩:∃y,l[n]? = some y:=⟨_,aj hlt⟩;have hd:decide ((n:Int)<(l.length:Int))=true:=by simp;omega
   rw[hd,B1 hy];refine Ok.bind (P:=λz=>z=y) (c9 (λ_=>Ok.pure rfl) λhn=>(hn ⟨rfl,trivial⟩).elim) λz hz=>Ok.pure ⟨n,rfl,hat,?_⟩;subst hz;have hym:=hsm z (af hy);show (true&&(Sb z x==0))=true↔_;rw[bz,(zG hym hx).2,dD,hy];constructor
   ·intro e;rw[Avn hym hx e]
   ·intro e;cases e;rfl
  ·have hd:decide ((n:Int)<(l.length:Int))=false:=by simp;omega
   rw[hd];refine Ok.bind (P:=λ_=>True) (c9 (λhg=>absurd hg.1 (by simp)) λ_=>trivial) λz _=>Ok.pure ⟨n,rfl,hat,?_⟩;rw[cC (by omega)];simp
variable{n:Nat}
theorem At.uniq(h:At l x n)(k:At l x m):n=m:=by
 rcases bI n m with e|e|e
 ·obtain⟨y,hy⟩:∃y,l[n]? = some y:=⟨_,aj (by have:=k.le;omega)⟩;have:=h.hi n y (ag _) hy;have:=k.lo n y e hy;omega
 ·exact e
 ·obtain⟨y,hy⟩:∃y,l[m]? = some y:=⟨_,aj (by have:=h.le;omega)⟩;have:=k.hi m y (ag _) hy;have:=h.lo m y e hy;omega
def E7(l:List Ab)(n:Nat)(x:Ab):List Ab:=l.take n++(x::l.drop n)
theorem Aoj(hn:n<=l.length)(hl:l.length<=1000)(x:Ab):Qh l (n:Int) [x]=some (E7 l n x):=by
 refine cY ?_;unfold Qh;refine(Ok.bndI (by omega) (by omega) (by omega)).bind λ_ _=>?_;refine c6 (λhc=>by simp at hc) (λ_=>c6 (λhc=>?_) (λ_=>?_))
 ·simp only[dD]at hc;have e:n=l.length:=by omega
  refine(cS (by simp;omega)).bind λy hy=>Ok.pure ?_;rw[hy,E7,e];simp
 ·refine(Ok.insI (by simp;omega)).mono λy hy=>?_;rw[hy,aI];rfl
theorem Apd(hn:n<=l.length)(x:Ab):Uy (E7 l n x) (n:Int) ((n:Int)+1)=some l:=by
 have hlen:(E7 l n x).length=l.length+1:=by simp[E7];omega
 refine cY ?_;unfold Uy;have e1:((n:Int)+1).toNat=n+1:=by omega
 have hdrop:(E7 l n x).drop (n+1)=l.drop n:=by
  unfold E7;rw[List.drop_append,List.drop_of_length_le (by simp;omega)];have:n+1-(l.take n).length=1:=by simp;omega
  rw[this];simp
 have htake:(E7 l n x).take n=l.take n:=by
  unfold E7;grind
 refine(Ok.bnd3I (by omega) (by omega) (by omega) (by omega)).bind λ_ _=>c6 (λhc=>?_) (λ_=>?_)
 ·simp only[dD]at hc;omega
 refine(Ok.bndI (by omega) (by omega) (by omega)).bind λ_ _=>(Ok.bndI (by omega) (by omega) (by omega)).bind λ_ _=>?_;simp only[aI,e1,hdrop,Nat.sub_zero];have hpl:((l.drop n).take ((E7 l n x).length-(n+1))).length=l.length-n:=by simp[hlen]
 have hpe:(l.drop n).take ((E7 l n x).length-(n+1))=l.drop n:=cD (by simp[hlen]);rw[hpe];have hdl:(l.drop n).length=l.length-n:=by simp
 refine(Ok.appPI (by rw[hlen,hdl];omega)).bind λy hy=>?_;have hyl:y.length=l.length+1:=by rw[hy];simp[hlen];omega
 refine(Ok.bndI (by omega) (by rw[hlen,hdl];omega) (by rw[hlen,hyl];omega)).bind λ_ _=>Ok.pure ?_;have e2:n+(l.drop n).length=l.length:=by rw[hdl];omega
 rw[e2];unfold Hf;simp only[aF];rw[cI (by simp;omega),List.take_take,Nat.min_self,hy,htake,←bw,cI (by simp),bN,aP]
theorem Re(hn:n<=l.length)(h:(E7 l n x)[j]? = some y):(j<n/\l[j]? = some y)\/(j=n/\y=x)\/(n<j/\l[j-1]? = some y):=by
 grind[E7]
theorem As4(h:y∈E7 l n x):y=x\/y∈l:=by
 grind[E7]
theorem Ahw(h:Ax b)(hl:D6 b l)(hx:Cs b x)(hat:At l x n)(hnot:l[n]? ≠ some x)(hlen:l.length<32):D6 b (E7 l n x):=by
 have hs:=H0 h hl;have hsm:∀y,y∈l->Db y:=λy hy=>(hl.mem y hy).small h;have hxs:=hx.small h;refine⟨by simp[E7];omega,λy hy=>?_,λj y z hy hz=>?_⟩
 ·rcases As4 hy with rfl|hy
  ·exact hx
  ·exact hl.mem y hy
 ·rcases Re hat.le hy with⟨a1,a2⟩|⟨a1,a2⟩|⟨a1,a2⟩ <;> rcases Re hat.le hz with⟨b1,b2⟩|⟨b1,b2⟩|⟨b1,b2⟩
  ·exact hl.asc j y z a2 b2
  ·subst b2;exact(Aa2 (hsm y (af a2)) hxs).2 (hat.lo j y a1 a2)
  ·omega
  ·omega
  ·omega
  ·subst a2;have e:j+1-1=n:=by omega
   rw[e]at b2;have hzm:=hsm z (af b2);refine(Aa2 hxs hzm).2 ?_;have h1:=hat.hi n z (ag _) b2;grind[Avn]
  ·omega
  ·omega
  grind[D6.asc]
theorem At.ins(hat:At l x n):At (E7 l n x) x n:=by
 refine⟨by have:=hat.le;simp[E7];omega,λj y hj hy=>?_,λj y hj hy=>?_⟩
 ·rcases Re hat.le hy with⟨_,a2⟩|⟨a1,_⟩|⟨a1,_⟩
  ·exact hat.lo j y hj a2
  ·omega
  ·omega
 ·rcases Re hat.le hy with⟨a1,_⟩|⟨_,a2⟩|⟨a1,a2⟩
  ·omega
  ·subst a2;exact Int.le_refl _
  ·exact hat.hi (j-1) y (by omega) a2
theorem Aw7(hn:n<=l.length)(x:Ab):(E7 l n x)[n]? = some x:=by
 grind[E7]
def Lk(ss:List Aj)(x:Ab)(st:Int):List Aj:=if x.Kind=1 then ss.set x.Number.toNat ⟨st,(ss.getD x.Number.toNat default).Since,(ss.getD x.Number.toNat default).Ar,(ss.getD x.Number.toNat default).Phase⟩ else ss
theorem T0(ss:List Aj)(x:Ab)(st:Int):(Lk ss x st).length=ss.length:=by unfold Lk;split <;> simp
theorem Acy(h:∀x,x∈ss->D7 x)(hx:x.Kind=1->0<=x.Number/\x.Number<ss.length)(hst:0<=st/\st<=3):∀y,y∈Lk ss x st->D7 y:=by
 unfold Lk;split
 ·rename_i hk;have hn:=hx hk;obtain⟨u,hu⟩:∃u,ss[x.Number.toNat]? = some u:=⟨_,aj (by omega)⟩;have hd:ss.getD x.Number.toNat default=u:=by simp[List.getD,hu]
  intro y hy;rcases cG hy with hy|hy
  ·exact h y hy
  ·subst hy;rw[hd];have:=h u (af hu);exact⟨hst,this.2⟩
 ·exact h
theorem Axe(h:Ax b)(hp:Aw b p)(hx:Cs b x)(t:Int)(hat:At p.Al x n)(hnot:p.Al[n]? ≠ some x)(hlen:p.Al.length<32) :
  I7 ⟨b,p,t⟩ x true=some (0,⟨b,⟨p.Ai,Lk p.Ae x 3,p.Ao,E7 p.Al n x⟩,t⟩):=by
 have hs:=H0 h hp.brk;have hsm:∀y,y∈p.Al->Db y:=λy hy=>(hp.brk.mem y hy).small h;refine cY ?_;unfold I7;refine(Oa hs hsm (hx.small h) (by omega)).bind λy hy=>?_;obtain⟨m,e1,hat2,hf⟩:=hy;have e2:=hat.uniq hat2;subst e2;have hf2:y.2=false:=by
  grind
 refine c6 (λhc=>by rw[hf2]at hc;simp at hc) (λ_=>c6 (λhc=>?_) (λ_=>?_))
 ·simp[Rz]at hc;omega
 refine Ok.andThen (A:=λz=>z=E7 p.Al n x) (B:=λ(_:Unit)=>False) ?_ ?_ (λ_ h=>h.elim)
 ·unfold U7;rw[e1,Aoj hat.le (by omega)];exact cZ rfl
 ·rintro z rfl;unfold Lk;refine c6 (λhk=>?_) (λhk=>?_)
  ·simp only[dD]at hk;have hn:0<=x.Number/\x.Number<p.Ae.length:=by
    have:=hp.nso;unfold Cs at hx;omega
   rw[if_pos hk];refine(cR hn.1 hn.2).bind λu hu=>(cV hn.1 hn.2).bind λv hv=>?_;have hd:p.Ae.getD x.Number.toNat default=u:=by simp[List.getD,hu]
   have hvg:v[x.Number.toNat]? = some (⟨0,u.Since,u.Ar,u.Phase⟩:Aj):=by rw[hv,bH (by omega)]
   simp only[cond_true];refine Ok.bind (P:=λw=>w=(⟨0,u.Since,u.Ar,u.Phase⟩:Aj)) ((cR hn.1 (by rw[hv];simpa using hn.2)).mono λw hw=>by rw[hvg]at hw;cases hw;rfl) λw hw=>?_;subst hw;refine(cV hn.1 (by rw[hv];simpa using hn.2)).bind λz hz=>Ok.pure ?_;rw[hz,hv,List.set_set,hd]
  ·simp only[dE,ne_eq]at hk;rw[if_neg hk];exact Ok.pure rfl
theorem Awy(h:Ax b)(hbl:D6 b p.Al){q:Ad}(hx:Cs b x)(t:Int)(hat:At p.Al x n)(hnot:p.Al[n]? ≠ some x)(hlen:p.Al.length<32)
  (hq:q.Al=E7 p.Al n x)(hqs:q.Ae.length=b.Ae.length):I7 ⟨b,q,t⟩ x false=some (0,⟨b,⟨q.Ai,Lk q.Ae x 0,q.Ao,p.Al⟩,t⟩):=by
 have hbl2:D6 b q.Al:=by rw[hq];exact Ahw h hbl hx hat hnot hlen
 have hs:=H0 h hbl2;have hsm:∀y,y∈q.Al->Db y:=λy hy=>(hbl2.mem y hy).small h;refine cY ?_;unfold I7;refine(Oa hs hsm (hx.small h) (by have:=hbl2.len;omega)).bind λy hy=>?_;obtain⟨m,e1,hat2,hf⟩:=hy;rw[hq]at hat2 hf;have e2:=hat.ins.uniq hat2;subst e2;have hf2:y.2=true:=hf.2 (Aw7 hat.le x);refine c6 (λhc=>by rw[hf2]at hc;simp at hc) (λ_=>c6 (λhc=>?_) (λ_=>?_))
 ·simp[Rz]at hc
 refine Ok.andThen (A:=λz=>z=p.Al) (B:=λ(_:Unit)=>False) ?_ ?_ (λ_ h=>h.elim)
 ·unfold U7;have hle:=hat.le;rw[e1,Az (by omega)];simp only[cond_false,hq];rw[Apd hat.le];exact cZ rfl
 ·rintro z rfl;unfold Lk;refine c6 (λhk=>?_) (λhk=>?_)
  ·simp only[dD]at hk;have hn:0<=x.Number/\x.Number<q.Ae.length:=by
    unfold Cs at hx;omega
   rw[if_pos hk];refine(cR hn.1 hn.2).bind λu hu=>(cV hn.1 hn.2).bind λv hv=>?_;have hd:q.Ae.getD x.Number.toNat default=u:=by simp[List.getD,hu]
   simp only[cond_false];exact Ok.pure (by rw[hv,hd])
  ·simp only[dE,ne_eq]at hk;rw[if_neg hk];exact Ok.pure rfl
def Axc(p:Ad)(x:Ab)(n:Nat):Ad:=⟨p.Ai,Lk p.Ae x 3,p.Ao,E7 p.Al n x⟩
theorem Ak0(h:Ax b)(hp:Aw b p)(hx:Cs b x)(hat:At p.Al x n)(hnot:p.Al[n]? ≠ some x)(hlen:p.Al.length<32):Aw b (Axc p x n) where
 ncl:=hp.ncl
 nso:=by show (Lk p.Ae x 3).length=_;rw[T0];exact hp.nso
 nli:=hp.nli
 run:=Acy hp.run (λhk=>by have:=hp.nso;unfold Cs at hx;omega) (by omega)
 lim:=hp.lim
 one:=hp.one
 brk:=Ahw h hp.brk hx hat hnot hlen
theorem Nh(b:Aa)(k n:Int):Ht b k n=true↔Cs b ⟨k,n⟩:=by
 unfold Ht Cs;dsimp only;by_cases h1:k=1
 ·subst h1;simp
 rw[dE.2 h1,cond_false];by_cases h2:k=2
 ·subst h2;simp
 rw[dE.2 h2,cond_false];by_cases h3:k=3
 ·subst h3;simp
 rw[dE.2 h3,cond_false];by_cases h4:k=4
 ·subst h4;simp
 rw[dE.2 h4,cond_false];simp only[ae,dA];omega
theorem A3v(h:Ax b)(hl:D6 b l)(hx:Cs b x):∃n,At l x n:=by
 have hs:=H0 h hl;obtain⟨y,_,n,_,hat,_⟩:=Oa hs (λy hy=>(hl.mem y hy).small h) (hx.small h) (by have:=hl.len;omega);exact⟨n,hat⟩
theorem LeB.get(h:LeB s t){i:Nat}{x y:Bool}(hx:s[i]? = some x)(hy:t[i]? = some y):(x && !y)=false:=by
 cases x with
 |false=>rfl
 |true=>
  have:=h.2 i hx;rw[hy]at this;cases this;rfl
theorem Axj(h:Ax b)(hp:Aw b p):F76 p=some p:=by
 have hl:=hp.lens h;have h1:=hl.c;have h2:=hl.s;have h3:=hl.l;have h4:=hl.k;unfold F76;rw[G9 (by omega),G9 (by omega),G9 (by omega),G9 (by omega)];rfl
variable{x:Option α}
theorem d6{l:List (Bool×Bool)}{d:α}{P:α->Prop}(hx:Df l->Ok x λ_=>True)(hr:∀y,P y):Ok (Au l x d) P:=
 c9 (λh=>(hx h).mono λy _=>hr y) λ_=>hr d
theorem da{v:α}(h:x=some v):Ok x λ_=>True:=⟨v,h,trivial⟩
theorem Awd{x:Aj}(hx:D7 x)(hl:D7 like):D7 (Wx like x):=⟨hx.1,hx.2.1,hl.2.2.1,hl.2.2.2⟩
theorem M1(h:∀x,x∈ss->D7 x){y:Aj}(hy:D7 y):∀x,x∈ss.set n y->D7 x:=λx hx=>by
 grind
theorem Ack(h:∀x,x∈ss->D7 x)(hn:n<ss.length):D7 (ss.getD n default):=by
 grind
theorem Qx{like:Aj}(hl:D7 like):∀(idx:List Int)(ss:List Aj),(∀i,i∈idx->0<=i/\i<ss.length)->(∀x,x∈ss->D7 x)->∀x,x∈Fo like idx ss->D7 x
 | [],_,_,h=>h
 |i::idx,ss,hi,h=>by
  have h0:=hi i ak;refine Qx hl idx _ (λj hj=>?_) (M1 h (Awd (Ack h (by omega)) hl));grind
theorem Acm{b:Aa}{p:Ad}(hp:Aw b p):∀(l:List Aq)(s:List Aj),(∀x,x∈l->∀i,i∈x.Ae->0<=i/\i<b.Ae.length)->s.length=p.Ae.length->(∀x,x∈s->D7 x)->∀x,x∈l.foldl (Dn p) s->D7 x
 | [],_,_,_,h=>h
 | y::l,s,hi,hs,h=>by
  refine Acm hp l _ (λx hx=>hi x (al _ hx)) (by rw[Nq,hs]) ?_;have h0:=hi y ak;have hn:=hp.nso;unfold Dn;split
  ·exact h
  ·rename_i i r e;rw[e]at h0;have h1:=h0 i ak;rw[e];exact Qx (Ack hp.run (by omega)) _ _ (λj hj=>by have:=h0 j hj;omega) h
theorem Rk(hp:Aw b p):∀x,x∈Fl b p->D7 x:=
 Acm hp _ _ (λ_ hx=>Pq hx) rfl hp.run
theorem J9(hp:Aw b p)(hl:ss.length=p.Ae.length)(hr:∀x,x∈ss->D7 x):Aw b ⟨p.Ai,ss,p.Ao,p.Al⟩ where
 ncl:=hp.ncl
 nso:=hl.trans hp.nso
 nli:=hp.nli
 run:=hr
 lim:=hp.lim
 one:=hp.one
 brk:=hp.brk
theorem Akd(hp:Aw b p)(j:Nat):Aw b ⟨p.Ai.set j false,p.Ae,p.Ao,p.Al⟩ where
 ncl:=by simpa using hp.ncl
 nso:=hp.nso
 nli:=hp.nli
 run:=hp.run
 lim:=hp.lim
 one i hi:=by
  refine ax (Acv (by simp) (λk hk=>?_) i) (hp.one i hi);grind
 brk:=hp.brk
theorem Aos{l:List Ak}:∀{c:List Bool}{j:Nat}{x:Ak},l[j]? = some x->∀i:Nat,(C7 l (c.set j true) i).length<=(C7 l c i).length+(if x.Kind=3/\x.B=(i:Int)then 1 else 0):=by
 induction l with
 |nil=>intro c j x h;simp at h
 | cons y l ih=>
  intro c j x h i;cases c with
  |nil=>simp[C7]
  | cons v c=>
   cases j with
   |zero=>
    simp only[List.getElem?_cons_zero,ai]at h;subst h;simp only[List.set_cons_zero,C7,cd,bk];grind
   |succ j=>
    simp only[cE]at h;have:=ih (c:=c) h i;simp only[List.set_cons_succ,C7,cd,bk]at this ⊢;split <;> simp at this ⊢ <;> omega
theorem Aot{i:Nat}(h:Ff b p 3 (i:Int)=none):C7 b.Ah p.Ai i=[]:=by
 unfold Ff at h;rw[Option.map_eq_none_iff,List.find?_eq_none]at h;unfold C7;rw[cH];exact h
variable{x:Ak}
theorem A0y(hp:Aw b p)(hx:b.Ah[j]? = some x)(hf:x.Kind=3->Ff b p 3 x.B=none):Aw b ⟨p.Ai.set j true,p.Ae,p.Ao,p.Al⟩ where
 ncl:=by simpa using hp.ncl
 nso:=hp.nso
 nli:=hp.nli
 run:=hp.run
 lim:=hp.lim
 one i hi:=by
  have h1:=Aos (c:=p.Ai) hx i;have h2:=hp.one i hi;dsimp only;split at h1
  ·rename_i hk;have h3:=hf hk.1;rw[hk.2]at h3;rw[Aot h3]at h1;simpa using h1
  ·omega
 brk:=hp.brk
theorem Awr(h:Ax b)(hp:Aw b p)(i:Int):Ok (Amb b p i) λy=>y.2≠0\/Aw b y.1:=by
 have hbl:p.Al.length<=1000:=by have:=hp.brk.len;omega
 have hn:=hp.ncl;unfold Amb;rw[E4 h hp,Hg h hp];simp only[ab];refine c6 (λhc=>by simp at hc) (λ_=>c6 (λ_=>Ok.pure (.inl (by simp))) (λhr=>?_));simp only[Apv,bj,dC]at hr;refine(cR (by omega) (by omega)).bind λv _=>Ok.bind (P:=λ_=>True) (d6 (λ_=>da (Gv hbl _ _)) λ_=>trivial) λ_ _=>?_;refine c6 (λ_=>Ok.pure (.inl (by simp))) (λ_=>?_);exact(cR (by omega) (by omega)).bind λ_ _=>(cV (by omega) (by omega)).bind λz hz=>Ok.pure (.inr (by rw[hz];exact Akd hp _))
theorem Avi(h:Ax b)(hp:Aw b p)(n:Int):Ok (Js b p n) λy=>∀i,i∈y.1.Ae->0<=i/\i<p.Ae.length:=by
 have hn:=hp.nso;unfold Js;rw[Kk h hp];simp only[ab];refine Ok.andThen (A:=λ_=>True) (B:=λy=>∀i,i∈y.1.Ae->0<=i/\i<p.Ae.length) ?_ (λ_ _=>Ok.pure (λi hi=>by cases hi)) (λv hv=>Ok.pure hv);refine c8 (I:=λ_ _=>True) trivial (λj x s hx _=>?_) λs _=>trivial;have hmem:=af hx;have hbl:x.An.length<=9223372036854775807:=by
  unfold Cc at hmem;obtain⟨f,_,rfl⟩:=ao.1 (az.1 hmem).1;have:=E8 (λi=>(groups b p).getD i 0==(f:Int)) b.An.toNat;have:=h.buses;simp only[isl,E9];omega
 unfold Qj;rw[Ga _ _ hbl];simp only[ab];refine c6 (λ_=>Ok.ret λi hi=>?_) (λ_=>c7 trivial);have:=Pq hmem i hi;omega
theorem A4e(h:Ax b)(hp:Aw b p)(n:Int):Ok (Js b p n) λy=>y.1.An.length<=9223372036854775807:=by
 unfold Js;rw[Kk h hp];simp only[ab];refine Ok.andThen (A:=λ_=>True) (B:=λy=>y.1.An.length<=9223372036854775807) ?_ (λ_ _=>Ok.pure (by simp)) (λv hv=>Ok.pure hv);refine c8 (I:=λ_ _=>True) trivial (λj x s hx _=>?_) λs _=>trivial;have hmem:=af hx;have hbl:x.An.length<=9223372036854775807:=by
  unfold Cc at hmem;obtain⟨f,_,rfl⟩:=ao.1 (az.1 hmem).1;have:=E8 (λi=>(groups b p).getD i 0==(f:Int)) b.An.toNat;have:=h.buses;simp only[isl,E9];omega
 unfold Qj;rw[Ga _ _ hbl];simp only[ab];exact c6 (λ_=>Ok.ret hbl) (λ_=>c7 trivial)
theorem Tq(h:Ax b)(hp:Aw b p)(n:Int):Ok (uR b p n) λy=>y.2=true->0<=y.1/\y.1<p.Ae.length:=by
 unfold uR;refine(Avi h hp n).bind λy hy=>?_;refine c6 (λ_=>Ok.pure (λe=>by cases e)) (λhc=>?_);simp only[dE,ne_eq]at hc;exact(cR (by omega) (by omega)).bind λz hz=>Ok.pure λ_=>hy z (af hz)
theorem d5{l:List α}(h0:0<=i)(h1:i<l.length):Ok (getI l i) λ_=>True:=(cR h0 h1).mono λ_ _=>trivial
theorem Awe(h:Ax b)(hp:Aw b p)(hx:b.Ah[j]? = some x):Ok (Alz b p x) λ_=>True:=by
 have hn:=hp.nso;have hb:=h.br x (af hx);unfold Si at hb;unfold Alz;refine(Tq h hp _).bind λy hy=>?_;refine c6 (λ_=>Ok.pure trivial) (λh2=>?_);simp only[cJ]at h2;have hy:=hy h2;refine c6 (λ_=>?_) (λ_=>c6 (λhk=>?_) (λ_=>Ok.pure trivial))
 ·refine(Tq h hp _).bind λz hz=>?_;refine Ok.bind (P:=λ_=>True) (d6 (λ_=>d5 hy.1 hy.2) λ_=>trivial) λ_ _=>?_;refine Ok.bind (P:=λ_=>True) (d6 (λhg=>?_) λ_=>trivial) λ_ _=>Ok.pure trivial;have:=hz (by have:=hg.1;simpa using this);exact d5 this.1 this.2
 ·simp only[dD]at hk;exact(d5 hy.1 hy.2).bind λ_ _=>(d5 (by omega) (by omega)).bind λ_ _=>Ok.pure trivial
theorem Aof{o:Option Int}:(Fh o).2=false->o=none:=by
 cases o with
 |none=>intro _;rfl
 |some a=>intro e;cases e
theorem Ar0(h:Ax b)(hp:Aw b p){j:Int}(h0:0<=j)(h1:j<b.Ah.length):Ok (Al0 b p j) λy=>y=true->∀x,b.Ah[j.toNat]? = some x->x.Kind=3->Ff b p 3 x.B=none:=by
 have hbl:p.Al.length<=1000:=by have:=hp.brk.len;omega
 have hn:=hp.nso;have hc:=hp.ncl;unfold Al0;refine(cR h0 h1).bind λx hx=>(d5 h0 (by omega)).bind λ_ _=>?_;have hb:=h.br x (af hx);unfold Si at hb;refine Ok.bind (P:=λ_=>True) (d6 (λ_=>da (Gv hbl _ _)) λ_=>trivial) λ_ _=>?_;refine Ok.bind (P:=λ_=>True) (d6 (λ_=>da (Gv hbl _ _)) λ_=>trivial) λ_ _=>?_;refine c6 (λ_=>Ok.pure (λe=>by cases e)) (λ_=>?_);refine c6 (λhk=>?_) (λhk1=>c6 (λhk=>?_) (λhk2=>?_))
 ·simp only[dD]at hk;rw[Gv hbl];refine Ok.pure λ_ y hy hy3=>?_;rw[hx]at hy;cases hy;omega
 ·simp only[dD]at hk;rw[Gv hbl];simp only[ab];refine Ok.bind (P:=λ_=>True) (d6 (λ_=>d5 (by omega) (by omega)) λ_=>trivial) λ_ _=>Ok.pure λ_ y hy hy3=>?_;rw[hx]at hy;cases hy;omega
 ·unfold Af4;rw[E4 h hp,Acw h hc,Gv hbl];simp only[ab,dJ,cond_false];refine Ok.pure λe y hy hy3=>?_;rw[hx]at hy;cases hy;simp only[ae,be]at e;exact Aof e.2
theorem Ay8(h:Ax b)(hp:Aw b p)(j:Int):Ok (Al5 b p j) λy=>y≠0\/((0<=j/\j<b.Ah.length)/\∀x,b.Ah[j.toNat]? = some x->x.Kind=3->Ff b p 3 x.B=none):=by
 unfold Al5;rw[E4 h hp];simp only[ab];refine c6 (λhc=>by simp at hc) (λ_=>c6 (λ_=>Ok.pure (.inl (by simp))) (λhr=>?_));simp only[App,bj,dC]at hr;refine(Ar0 h hp (by omega) (by omega)).bind λy hy=>?_;refine c6 (λ_=>Ok.pure (.inl (by simp))) (λh2=>?_);simp only[cJ]at h2;have hy:=hy h2;refine(cR (by omega) (by omega)).bind λx hx=>(A4e h hp x.A).bind λz hz=>?_;refine Ok.bind (P:=λ_=>True) (d6 (λ_=>da (Ga _ _ hz)) λ_=>trivial) λ_ _=>?_;refine Ok.bind (P:=λ_=>True) (d6 (λ_=>Awe h hp hx) λ_=>trivial) λ_ _=>?_;exact c6 (λ_=>Ok.pure (.inl (by simp))) (λ_=>Ok.pure (.inr ⟨⟨by omega,by omega⟩,hy⟩))
theorem Atp(h:Ax b)(hp:Aw b p)(i:Int):Ok (Amc b p i) λy=>y.2≠0\/Aw b y.1:=by
 have hn:=hp.ncl;unfold Amc;rw[Hg h hp];simp only[ab];refine(Ay8 h hp i).bind λy hy=>c6 (λhc=>Ok.pure (.inl (by simpa using hc))) (λhc=>?_);simp only[dH]at hc;rcases hy with hy|⟨hr,hf⟩
 ·exact absurd hc hy
 ·refine(cR hr.1 (by omega)).bind λ_ _=>(cV hr.1 (by omega)).bind λz hz=>?_;obtain⟨x,hx⟩:∃x,b.Ah[i.toNat]? = some x:=⟨_,aj (by omega)⟩;have hq:=A0y hp hx (hf x hx);rw[←hz]at hq;rw[Oh h hq];exact Ok.pure (.inr (J9 hq (Im _ _) (Rk hq)))
theorem Ass(h:Ax b)(hp:Aw b p)(i n:Int):Ok (Ama b p i n) λy=>y.2≠0\/Aw b y.1:=by
 have hn:=hp.nso;unfold Ama;rw[E4 h hp,Hg h hp];simp only[ab];refine c6 (λhc=>by simp at hc) (λ_=>c6 (λ_=>Ok.pure (.inl (by simp))) (λhr=>?_));simp only[Apu,bj,dC]at hr;refine(Tq h hp n).bind λy hy=>?_;refine Ok.bind (P:=λ_=>True) (d6 (λ_=>d5 (by omega) (by omega)) λ_=>trivial) λu _=>?_;refine c6 (λ_=>Ok.pure (.inl (by simp))) (λhc=>?_);simp only[bj,cJ]at hc;have hy:=hy hc.1;unfold Auu;rw[E4 h hp,Ue h hp];simp only[ab,dJ,cond_false];have hrun:∀w,p.Ae[y.1.toNat]? = some w->D7 w:=λw hw=>hp.run w (af hw);refine c6 (λ_=>?_) (λ_=>?_)
 ·refine(Avi h hp _).bind λz hz=>(cR hy.1 hy.2).bind λw hw=>?_;rw[Abj hz];exact Ok.pure (.inr (J9 hp (Hp _ _ _) (Qx (hrun w hw) _ _ hz hp.run)))
 ·refine(cR hy.1 hy.2).bind λw hw=>?_;have hz:∀k,k∈[i]->0<=k/\k<p.Ae.length:=λk hk=>by
   grind
  rw[Abj hz];exact Ok.pure (.inr (J9 hp (Hp _ _ _) (Qx (hrun w hw) _ _ hz hp.run)))
theorem Tr(h:Ax b)(hc:p.Ai.length=b.Ah.length)(t:Int)(h0:0<=i)(h1:i<b.Ae.length):Ok (Qi ⟨b,p,t⟩ i) λ_=>True:=by
 obtain⟨j,x,e,hx,_⟩:=Alk h h0 h1;have hj:=(aa.1 hx).1;unfold Qi;rw[All h,e];simp only[ab];exact(d5 (by omega) (by omega)).bind λ_ _=>Ok.pure trivial
def Wd(b:Aa)(y:Int×Bb):Prop:=y.1≠0\/Aw b y.2.Av
variable{t:Int}
theorem Ary(h:Ax b)(hp:Aw b p)(ht:0<=t/\t<=2147483648)(h0:0<=i)(h1:i<b.Ae.length):Ok (Zu ⟨b,p,t⟩ i) (Wd b):=by
 have hn:=hp.nso;have hbl:p.Al.length<=1000:=by have:=hp.brk.len;omega
 unfold Zu;refine(d5 h0 (by dsimp only;omega)).bind λu _=>Ok.bind (P:=λ_=>True) (d6 (λ_=>da (Gv hbl _ _)) λ_=>trivial) λ_ _=>?_;refine c6 (λ_=>Ok.pure (.inl (by simp))) (λ_=>(d5 h0 h1).bind λs _=>?_);refine Ok.bind (P:=λ_=>True) (d6 (λ_=>Tr h hp.ncl t h0 h1) λ_=>trivial) λ_ _=>?_;refine c6 (λ_=>?_) (λ_=>?_)
 ·exact(cV h0 (by dsimp only;omega)).bind λz hz=>Ok.pure (.inr (by
   rw[hz];exact J9 hp (by simp) (M1 hp.run ⟨by dsimp only;omega,ht,by dsimp only;omega,by dsimp only;omega⟩)))
 ·exact(cV h0 (by dsimp only;omega)).bind λz hz=>Ok.pure (.inr (by
   rw[hz];exact J9 hp (by simp) (M1 hp.run ⟨by dsimp only;omega,ht,by dsimp only;omega,by dsimp only;omega⟩)))
theorem Awf(h:Ax b)(hp:Aw b p)(h0:0<=i)(h1:i<b.Ae.length):Ok (Zt ⟨b,p,t⟩ i) (Wd b):=by
 have hn:=hp.nso;unfold Zt;refine(cR h0 (by dsimp only;omega)).bind λu hu=>?_;have hr:=hp.run u (af hu);refine Ok.bind (P:=λ_=>True) (d6 (λ_=>Tr h hp.ncl t h0 h1) λ_=>trivial) λ_ _=>?_;refine c6 (λ_=>Ok.pure (.inl (by simp))) (λ_=>(cV h0 (by dsimp only;omega)).bind λz hz=>Ok.pure (.inr ?_));rw[hz];exact J9 hp (by simp) (M1 hp.run ⟨by dsimp only;omega,hr.2⟩)
theorem Asu(hp:Aw b p){v:Int}(h0:0<=i)(h1:i<b.Ag.length):Ok (Zs ⟨b,p,t⟩ i v) (Wd b):=by
 have hn:=hp.nli;unfold Zs;refine Ok.bind (P:=λy=>0<=v->b.Ag[i.toNat]? = some y) (c9 (λ_=>(cR h0 h1).mono λy hy _=>hy) λhg hv=>(hg ⟨by simp;omega,trivial⟩).elim) λc hc=>?_;refine c6 (λ_=>Ok.pure (.inl (by simp))) (λhr=>?_);simp only[Adt,bj,dC]at hr;have hc:=hc (by omega);refine(d5 h0 (by dsimp only;omega)).bind λ_ _=>(cV h0 (by dsimp only;omega)).bind λz hz=>Ok.pure (.inr ?_);subst hz;exact {
  ncl:=hp.ncl
  nso:=hp.nso
  nli:=by simpa using hp.nli
  run:=hp.run
  lim:=λk m y hk hy=>by
   dsimp only at hk;rw[aH]at hk;split at hk
   ·grind
   ·exact hp.lim k m y hk hy
  one:=hp.one
  brk:=hp.brk}
theorem Awv(x:Int):0<=E2 x/\E2 x<=3599:=by
 have:=Qv (x:=x) (n:=3600) (by omega);unfold E2;by_cases h:Int.tmod x 3600<0
 ·rw[dF h,cond_true,Az (by omega)];omega
 grind
theorem Awc(h:Ax b)(hp:Aw b p):Ok (Al4 b p) λy=>Aw b y.1/\y.1.Ai=p.Ai/\y.2=0:=by
 have hs:=h.sol;have hn:=hp.nso;unfold Al4;rw[E4 h hp,Hg h hp];simp only[ab];refine c6 (λhc=>by simp at hc) (λ_=>?_);refine Ok.andThen (A:=λs=>s.length=p.Ae.length/\∀x,x∈s->D7 x) (B:=λ(_:Unit)=>False) ?_ (λs hs=>Ok.pure ⟨J9 hp hs.1 hs.2,rfl,rfl⟩) (λ_ h=>h.elim);refine c8 (I:=λ_ s=>s.length=p.Ae.length/\∀x,x∈s->D7 x) ⟨rfl,hp.run⟩ (λj x s hx hs=>?_) λs hs=>hs;have hj:=(aa.1 hx).1;have hcnt:cnt 0 j=(j:Int):=Cv (by omega);unfold Aio;rw[hcnt];refine c6 (λ_=>?_) (λ_=>c7 hs);refine(cR (by omega) (by omega)).bind λu hu=>(cV (by omega) (by omega)).bind λz hz=>c7 ?_;have hr:=hs.2 u (af hu);rw[hz];exact⟨by simpa using hs.1,M1 hs.2 ⟨hr.1,hr.2.1,hr.2.2.1,Awv _⟩⟩
theorem Awb(h:Ax b)(hp:Aw b p)(t:Int):Ok (Zr ⟨b,p,t⟩) λy=>Aw b y.Av:=by
 have hso:=h.sol;unfold Zr;refine(Awc h hp).bind λ⟨q,e⟩ hq=>?_;dsimp only at hq ⊢;obtain⟨hq,_,_⟩:=hq;have hn:=hq.nso;refine Ok.andThen (A:=λs=>s.2.length=q.Ae.length/\∀x,x∈s.2->D7 x) (B:=λ(_:Unit)=>False) ?_ (λs hs=>Ok.pure (J9 hq hs.1 hs.2)) (λ_ h=>h.elim);refine cQ (λs=>(0<=s.1/\s.1<=(q.Ae.length:Int))/\s.2.length=q.Ae.length/\∀x,x∈s.2->D7 x) (λs=>((q.Ae.length:Int)-s.1).toNat) _ _ ?_ ?_ ?_
 ·exact⟨by dsimp only;omega,rfl,hq.run⟩
 ·dsimp only;omega
 ·rintro⟨i,s⟩ ⟨⟨h1,h2⟩,h3,h4⟩;dsimp only at h1 h2 h3 h4;unfold Aad Ads;dsimp only;refine c6 (λhc=>?_) (λ_=>cU ⟨h3,h4⟩);simp only[dA]at hc;have e1:w64 (i+1)=i+1:=Az (by omega);refine(cR h1 (by omega)).bind λu hu=>?_;have hr:=h4 u (af hu);refine Ok.bind (P:=λ_=>True) (d6 (λ_=>Tr h hq.ncl t h1 (by omega)) λ_=>trivial) λ_ _=>?_;refine Ok.bind (P:=λ_=>True) (d6 (λ_=>d5 h1 (by omega)) λ_=>trivial) λ_ _=>?_;rw[e1];refine c6 (λ_=>?_) (λ_=>c7 ⟨⟨by dsimp only;omega,h3,h4⟩,by dsimp only;omega⟩);refine(cV h1 (by omega)).bind λz hz=>c7 ⟨⟨by dsimp only;omega,?_,?_⟩,by dsimp only;omega⟩
  ·dsimp only;rw[hz];simpa using h3
  ·dsimp only;rw[hz];exact M1 h4 ⟨by dsimp only;omega,hr.2⟩
theorem bet{x:Int}(h:lo<=x/\x<=hi):Cf x lo hi=true:=(J8 x lo hi).2 h
def ofL(b:Aa)(q:Ak->Bool):List Int:=(b.Ah.zipIdx.filter λz=>q z.1).map λz=>(z.2:Int)
theorem Ab1(h:Ax b)(k i:Int):Se b k i=some (ofL b λx=>Ko k i x):=by
 have hb:=h.brl;refine cY ?_;unfold Se;refine Ok.andThen (A:=λs=>s=ofL b λx=>Ko k i x) (B:=λ(_:Unit)=>False) ?_ (λs hs=>Ok.pure hs) (λ_ h=>h.elim);refine c8 (I:=λj s=>s=((b.Ah.zipIdx.take j).filter λz=>Ko k i z.1).map λz=>(z.2:Int)) rfl (λj x s hx hs=>?_) λs hs=>?_
 ·have hj:=(aa.1 hx).1;have hcnt:cnt 0 j=(j:Int):=Cv (by omega);have hz:b.Ah.zipIdx[j]? = some (x,j):=by rw[List.getElem?_zipIdx,hx];simp
  have hsl:s.length<=j:=by
   grind
  unfold Ajm;rw[hcnt,Bs hz,bp,bF,←hs];refine c6 (λhq=>?_) (λhq=>c7 (by simp[hq]));exact(cS (by simp;omega)).bind λy hy=>c7 (by rw[hy];simp[hq])
 ·rw[hs,show b.Ah.length=b.Ah.zipIdx.length from by simp,aP];rfl
theorem Am9(q:Ak->Bool):∀(l:List Ak)(k:Nat),((l.zipIdx k).filter λz=>q z.1).length=(l.filter q).length
 | [],_=>rfl
 |x::l,k=>by
  simp only[List.zipIdx_cons,bk];split <;> simp[Am9 q l (k+1)]
theorem Awt(b:Aa)(q:Ak->Bool):(ofL b q).length=(b.Ah.filter q).length:=by
 unfold ofL;rw[au,Am9]
theorem Ar8(k:Int)(hk:k≠1)(i:Int)(x:Ak):Ko k i x=(x.Kind==k&&x.B==i):=by
 unfold Ko;grind
theorem qJ(hk:k≠1)(i:Nat):(ofL b λx=>Ko k (i:Int) x).length=(brs b.Ah k i).length:=by
 rw[Awt];unfold brs;congr 1;exact List.filter_congr λx _=>Ar8 k hk i x
theorem Abo(h:Ax b):Amo b=some true:=by
 have hs:=h.sol;have hc:=h.col;have hb:=h.buses;have hbl:=h.brl;refine cY ?_;unfold Amo;rw[Du b.Ah 0 λj x hj=>?_]
 ·rw[show ∀(f:Unit->Option Bool),andThen (some (Ctl.next ()):Option (Ctl Unit Bool)) some f=f () from λ_=>rfl];refine Ok.andThen (A:=λ_=>True) (B:=λ(_:Bool)=>False) ?_ (λ_ _=>?_) (λ_ h=>h.elim)
  ·refine cQ (λs=>0<=s/\s<=(b.Ae.length:Int)) (λs=>((b.Ae.length:Int)-s).toNat) _ (0:Int) (by omega) (by omega) ?_;rintro i ⟨h1,h2⟩;unfold Ai8 Aib;refine c6 (λhq=>?_) (λ_=>cU trivial);simp only[dA]at hq;obtain⟨n,rfl⟩:∃n:Nat,i=(n:Int):=⟨i.toNat,by omega⟩;rw[Ab1 h];simp only[ab];have hone:=h.one n (by omega);rw[qJ (by decide),hone,Az (by omega)];refine c6 (λhc=>by simp at hc) (λ_=>c7 ⟨by omega,by omega⟩)
  ·refine Ok.andThen (A:=λ_=>True) (B:=λ(_:Bool)=>False) ?_ (λ_ _=>Ok.pure rfl) (λ_ h=>h.elim);refine cQ (λs=>0<=s/\s<=(b.Ag.length:Int)) (λs=>((b.Ag.length:Int)-s).toNat) _ (0:Int) (by omega) (by omega) ?_;rintro i ⟨h1,h2⟩;unfold Ai7 Aia;refine c6 (λhq=>?_) (λ_=>cU trivial);simp only[dA]at hq;obtain⟨n,rfl⟩:∃n:Nat,i=(n:Int):=⟨i.toNat,by omega⟩;rw[Ab1 h];simp only[ab];have hany:=h.any n (by omega);have hpos:0<(brs b.Ah 3 n).length:=List.length_pos_iff.2 hany;rw[qJ (by decide),Az (by omega)];refine c6 (λhc=>?_) (λ_=>c7 ⟨by omega,by omega⟩);simp only[dA]at hc;omega
 ·have hjl := (aa.1 hj).1;obtain⟨⟨a0,a1⟩,hk⟩:=h.br x (af hj);rw[aF];have hcnt:cnt 0 j=(j:Int):=Cv (by omega);have e1:w64 (b.An-1)=b.An-1:=Az (by omega);have e2:w64 (x.A+1)=x.A+1:=Az (by omega);have e3:w64 ((b.Ae.length:Int)-1)=(b.Ae.length:Int)-1:=Az (by omega);have e4:w64 ((b.Ag.length:Int)-1)=(b.Ag.length:Int)-1:=Az (by omega);unfold Ai9 Ap4 Ap3 Ap2;rw[e1,e2,e3,e4,hcnt,bet (x:=x.A) (by omega)];simp only[aR,cond_false];rcases hk with⟨hk,h1,h2⟩|⟨hk,h1,h2⟩|⟨hk,h1,h2⟩
  ·rw[hk,bet (x:=x.B) (lo:=x.A+1) (by omega)];rfl
  ·rw[hk,bet (x:=x.B) (lo:=0) (hi:=(b.Ae.length:Int)-1) (by omega)];rfl
  ·rw [hk, bet (x := x.B) (lo := 0) (hi := (b.Ag.length : Int) - 1) (by omega)];have hcut:cutI b.Ah 0 (j:Int)=some (b.Ah.take j):=by
    refine cY ((Ok.cutI (by omega) (by omega) (by omega)).mono λy hy=>?_);rw[hy];simp
   show ((cutI b.Ah 0 (j:Int)).bind λy9=>andThen (foldI (vB x) y9 0 ()) (λv=>some (Ctl.ret v)) λz1=>some (Ctl.next ()))=some (Ctl.next ());rw[hcut];simp only[ab];rw[Du _ 0 λm y hy=>?_]
   ·rfl
   ·have hml:m<j:=by
     have:=(aa.1 hy).1;simp only[aV]at this;omega
    have hyb:b.Ah[m]? = some y:=by
     rw[aq,if_pos hml]at hy;exact hy
    unfold vB;have hne:Adx x y=false:=by
     unfold Adx;rw[cy];intro e;simp only[bK,ae,dD]at e;obtain⟨e1,e2,e3⟩:=e;have hn:=h.nodup x.B.toNat;have hsplit:b.Ah=b.Ah.take j++(x::b.Ah.drop (j+1)):=by
      conv=>lhs;rw[←bN j b.Ah]
      rw[cN hjl];have:b.Ah[j]=x:=by
       rw[aj hjl]at hj;cases hj;rfl
      rw[this]
     rw[hsplit,Hh,bF]at hn;have hBn:x.B=(x.B.toNat:Int):=by omega
     have hmem1:y.A∈(brs (b.Ah.take j) 3 x.B.toNat).map (·.A):=by
      refine ao.2 ⟨y,?_,rfl⟩;unfold brs;refine az.2 ⟨af hy,?_⟩;rw[e1,hk,e3,←hBn];simp
     have hmem2:x.A∈(brs (x::b.Ah.drop (j+1)) 3 x.B.toNat).map (·.A):=by
      refine ao.2 ⟨x,?_,rfl⟩;unfold brs;refine az.2 ⟨ak,?_⟩;rw[hk,←hBn];simp
     exact(List.nodup_append.1 hn).2.2 _ hmem1 _ hmem2 e2
    rw[hne];rfl
theorem Agn(h:Ax b):Amn b=some true:=by
 unfold Amn;rw[Du b.Ae 0 λj x hj=>?_]
 ·rfl
 ·obtain⟨h1,h2,h3⟩:=h.so x (af hj);unfold Ai6 Ap1;rw[bet h1,bet h2,bet h3];rfl
theorem Aar(h:Ax b):Amm b=some true:=by
 have hcl:=h.col;unfold Amm;rw[Du b.Ag 0 λj x hj=>?_]
 ·rfl
 ·obtain⟨h1,h2,h3,h4,h5,h6,h7⟩:=h.co j x hj;have hjl:=(aa.1 hj).1;rw[aF];have hcnt:cnt 0 j=(j:Int):=Cv (by omega);unfold Ai5 Ap0;rw[bet h1,bet h2,bet h3,bet h4];have hd:decide ((x.Needs.length:Int)>4)=false:=by simp;omega
  rw[hd];simp only[aR,Bool.or_false,cond_false];rw[Du x.Needs 0 λm n hm=>?_]
  ·rfl
  ·have hml:=(aa.1 hm).1;rw[aF];have hcm:cnt 0 m=(m:Int):=Cv (by omega);have hn:=h6 n (af hm);unfold Ai4 Apz;rw[hcnt,hcm,Az (n:=(j:Int)-1) (by omega),bet (x:=n) (by omega)];cases m with
   |zero=>rfl
   |succ m=>
    obtain⟨a,ha⟩:∃a,x.Needs[m]? = some a:=⟨_,aj (by omega)⟩;have hlt:=h7 m a n ha hm;have e:w64 (((m+1:Nat):Int)-1)=(m:Int):=by rw[Az (by omega)];omega
    have hp:decide (((m+1:Nat):Int)>0)=true:=dF (by omega);have hq:decide (a>=n)=false:=by simp;omega
    rw[e,B1 ha,hp];simp[Au,Ed,hq]
theorem Ar5(h:Ax b):X0 b=some 0:=by
 have h1:=h.buses;have h2:=h.brl;have h3:=h.sol;have h4:=h.col;have h5:=h.phase;have h6:=h.freq;unfold X0;rw[Abo h,Agn h,Aar h];have e:Ad2 b=false:=by
  rw[cy];intro e;simp[Ad2]at e;omega
 have e2:Ad1 b true true true=false:=by
  rw[cy];intro e;simp[Ad1]at e;omega
 rw[e];simp only[cond_false,ab];have g1:(Au [(!true,false)] (some true) default:Option Bool)=some true:=rfl;grind
theorem vW(i:Nat)(C:List Bool):∀(l:List Ak)(c:List Bool)(k:Nat),C.drop k=c->l.length=c.length ->
  (((l.zipIdx k).filter λz=>z.1.Kind==3&&z.1.B==(i:Int)).filter λz=>C.getD z.2 false).length=(C7 l c i).length
 | [],_,_,_,_=>by simp[C7]
 |x::l,[],_,_,h=>by simp at h
 | x::l,v::c,k,hd,h=>by
  have hv:C[k]? = some v:=by
   have:=congrArg (·[0]?) hd;simpa[List.getElem?_drop]using this
  have hd':C.drop (k+1)=c:=by rw[←bJ,hd];rfl
  have ih:=vW i C l c (k+1) hd' (by simpa using h);have hg:C.getD k false=v:=by simp[List.getD,hv]
  simp only[List.zipIdx_cons,bk,C7,cd]at ih ⊢;grind
theorem Nc(h:Ax b)(hp:Aw b p):F75 b p=some 0:=by
 have h3:=h.sol;have h4:=h.col;have hbl:=h.brl;have hncl:=hp.ncl;have hnso:=hp.nso;have hnli:=hp.nli;refine cY ?_;unfold F75;rw[Ar5 h];simp only[ab];refine c6 (λhc=>by simp at hc) (λ_=>c6 (λhc=>?_) (λ_=>?_))
 ·simp[Avz,hncl,hnso,hnli]at hc
 rw[Du p.Ae 0 λj x hj=>?_]
 ·rw [show ∀(f : Unit -> Option Int), andThen (some (Ctl.next ()) : Option (Ctl Unit Int)) some f = f () from λ_ => rfl];rw[Du p.Ao 0 λj x hj=>?_]
  ·rw [show ∀(f : Unit -> Option Int), andThen (some (Ctl.next ()) : Option (Ctl Unit Int)) some f = f () from λ_ => rfl];have hlen:=hp.brk.len;refine c6 (λhc=>?_) (λ_=>?_)
   ·simp only[dA]at hc;omega
   rw[Du p.Al 0 λj x hj=>?_]
   ·rw[show ∀(f:Unit->Option Int),andThen (some (Ctl.next ()):Option (Ctl Unit Int)) some f=f () from λ_=>rfl];refine Ok.andThen (A:=λ_=>True) (B:=λ(_:Int)=>False) ?_ (λ_ _=>Ok.pure rfl) (λ_ h=>h.elim);refine cQ (λs=>0<=s/\s<=(b.Ag.length:Int)) (λs=>((b.Ag.length:Int)-s).toNat) _ (0:Int) (by omega) (by omega) ?_;rintro i ⟨g1,g2⟩;unfold Aq2 Avw;refine c6 (λhq=>?_) (λ_=>cU trivial);simp only[dA]at hq;obtain⟨n,rfl⟩:∃n:Nat,i=(n:Int):=⟨i.toNat,by omega⟩;rw[Ab1 h];simp only[ab];have hone:=hp.one n (by omega);have hz:ofL b (λx=>Ko 3 (n:Int) x)=((b.Ah.zipIdx.filter λz=>z.1.Kind==3&&z.1.B==(n:Int)).map λz=>(z.2:Int)):=by
     unfold ofL;congr 1;exact List.filter_congr λz _=>Ar8 3 (by decide) n z.1
    have hzf:=vW n p.Ai b.Ah p.Ai 0 rfl (by omega);rw[hz];have hin:∀z,z∈(b.Ah.zipIdx.filter λz=>z.1.Kind==3&&z.1.B==(n:Int))->z.2<p.Ai.length:=by
     rintro⟨x,j⟩ hm;have:=(az.1 hm).1;rw[List.mem_zipIdx_iff_getElem?]at this;have:=(aa.1 this).1;dsimp only;omega
    have hsz:(b.Ah.zipIdx.filter λz=>z.1.Kind==3&&z.1.B==(n:Int)).length<=24:=ax (bf _ _) (by simpa using hbl);generalize hm:(b.Ah.zipIdx.filter λz=>z.1.Kind==3&&z.1.B==(n:Int))=m at hin hsz hzf;refine(c8 (xs:=m.map λz=>(z.2:Int)) (I:=λj s=>s=(((m.take j).filter λz=>p.Ai.getD z.2 false).length:Int)) (A:=λs=>s=((m.filter λz=>p.Ai.getD z.2 false).length:Int)) (B:=λ(_:Unit)=>False) rfl (λj x s hx hs=>?_) λs hs=>?_).inner (λs hs=>?_) (λ_ h=>h.elim)
    ·rw[aA,bO]at hx;obtain⟨z,hz,rfl⟩:=hx;have hzl:=hin z (af hz);obtain⟨v,hv⟩:∃v,p.Ai[z.2]? = some v:=⟨_,aj hzl⟩;have hg:p.Ai.getD z.2 false=v:=by simp[List.getD,hv]
     have hle:((m.take j).filter λz=>p.Ai.getD z.2 false).length<=24:=ax (bf _ _) (by simp;omega);unfold Aq1;rw[B1 hv,Bs hz,bp];simp only[ab];refine c6 (λhq=>c7 ?_) (λhq=>c7 ?_)
     ·rw[hs,Az (by omega),bk,hg,if_pos hq];simp
     ·rw[hs,bk,hg,if_neg (ff hq)];simp
    ·rw[au,aP]at hs;exact hs
    ·rw[hs,hzf,Az (by omega)];refine c6 (λhc=>?_) (λ_=>c7 ⟨by omega,by omega⟩);simp only[dA]at hc;omega
   ·have hjl:=(aa.1 hj).1;rw[aF];have hcnt:cnt 0 j=(j:Int):=Cv (by omega);unfold Aq3 Avx;rw[(Yq h x).2 (hp.brk.mem x (af hj)),hcnt];cases j with
    |zero=>rfl
    | succ j=>
     obtain⟨a,ha⟩:∃a,p.Al[j]? = some a:=⟨_,aj (by omega)⟩;have hlt:=hp.brk.asc j a x ha hj;have e:w64 (((j+1:Nat):Int)-1)=(j:Int):=by rw[Az (by omega)];omega
     have hpz:decide (((j+1:Nat):Int)>0)=true:=dF (by omega);have hb:Aga a x=true:=by
      unfold Aga;unfold Kt at hlt;simp only[ay,ae,dA,dD];exact hlt
     rw[e,B1 ha,hpz];simp[Au,Ed,hb]
  ·have hjl:=(aa.1 hj).1;rw[aF];have hcnt:cnt 0 j=(j:Int):=Cv (by omega);obtain⟨c,hc⟩:∃c,b.Ag[j]? = some c:=⟨_,aj (by omega)⟩;unfold Aq4;rw[hcnt,B1 hc];simp only[ab];rw[bet (hp.lim j x c hj hc)];rfl
 ·have hr:=hp.run x (af hj);unfold Aq5 Avy;rw[bet hr.1,bet hr.2.1,bet hr.2.2.1,bet hr.2.2.2];rfl
variable{x:Ab}
theorem Ao7(h:l[n]? = some x):E7 (l.take n++l.drop (n+1)) n x=l:=by
 have hn:=(aa.1 h).1;have ht:(l.take n).length=n:=by simp;omega
 unfold E7;rw[cI (by omega),List.take_take,Nat.min_self,List.drop_append_of_le_length (by omega),List.drop_of_length_le (by omega),List.nil_append]
 conv=>rhs;rw[←bN n l]
 rw[cN hn];grind
theorem Ub(hn:n<l.length)(h:(l.take n++l.drop (n+1))[j]? = some y):(j<n/\l[j]? = some y)\/(n<=j/\l[j+1]? = some y):=by
 grind
theorem Ati(h:Ax b)(hl:D6 b l)(hn:n<l.length):D6 b (l.take n++l.drop (n+1)):=by
 have hs:=H0 h hl;have hsm:∀y,y∈l->Db y:=λy hy=>(hl.mem y hy).small h;have hlen:=hl.len;refine⟨by simp;omega,λy hy=>?_,λj y z hy hz=>?_⟩
 ·grind[D6.mem]
 ·rcases Ub hn hy with⟨a1,a2⟩|⟨a1,a2⟩ <;> rcases Ub hn hz with⟨b1,b2⟩|⟨b1,b2⟩
  ·exact hl.asc j y z a2 b2
  ·exact(Aa2 (hsm y (af a2)) (hsm z (af b2))).2 (hs j (j+1+1) y z (by omega) a2 b2)
  ·omega
  ·exact hl.asc (j+1) y z a2 b2
theorem Atj(h:Ax b)(hl:D6 b l)(hx:l[n]? = some x):At (l.take n++l.drop (n+1)) x n/\(l.take n++l.drop (n+1))[n]? ≠ some x:=by
 have hs:=H0 h hl;have hn:=(aa.1 hx).1;refine⟨⟨by simp;omega,λj y hj hy=>?_,λj y hj hy=>?_⟩,λe=>?_⟩
 ·grind[Gd]
 ·grind[Gd]
 ·rcases Ub hn e with⟨a1,_⟩|⟨_,a2⟩
  ·omega
  ·have:=hs n (n+1) x x (by omega) hx a2;omega
theorem Axd(h:Ax b)(hp:Aw b p)(t:Int)(hx:Cs b x)(v:Bool):Ok (I7 ⟨b,p,t⟩ x v) (Wd b):=by
 obtain⟨n,hat⟩:=A3v h hp.brk hx;have hlen:=hp.brk.len;have hsearch:=Oa (H0 h hp.brk) (λy hy=>(hp.brk.mem y hy).small h) (hx.small h) (by omega);have hbad:∀(hv:(p.Al[n]? = some x)↔v=true),Ok (I7 ⟨b,p,t⟩ x v) (Wd b):=by
  intro hv;unfold I7;refine hsearch.bind λy hy=>?_;obtain⟨m,e1,hat2,hf⟩:=hy;have e2:=hat.uniq hat2;subst e2;have:y.2=v:=by
   rw[ch];exact hf.trans hv
  rw[this];exact c6 (λ_=>Ok.pure (.inl (by simp))) (λhc=>by simp at hc)
 by_cases hin:p.Al[n]? = some x
 ·cases v with
  |true=>exact hbad ⟨λ_=>rfl,λ_=>hin⟩
  |false=>
   have hn:=(aa.1 hin).1;have he:=Atj h hp.brk hin;have hq:Aw b ⟨p.Ai,p.Ae,p.Ao,p.Al.take n++p.Al.drop (n+1)⟩:={ncl:=hp.ncl,nso:=hp.nso,nli:=hp.nli,run:=hp.run,lim:=hp.lim,one:=hp.one,brk:=Ati h hp.brk hn};have:=Awy h (p:=⟨p.Ai,p.Ae,p.Ao,p.Al.take n++p.Al.drop (n+1)⟩) hq.brk (q:=p) hx t he.1 he.2 (by simp;omega) (Ao7 hin).symm hp.nso;rw[this];refine Ok.pure (.inr ?_);exact J9 hq (T0 _ _ _) (Acy hp.run (λhk=>by have:=hp.nso;unfold Cs at hx;omega) (by omega))
 ·cases v with
  |false=>grind
  | true=>
   by_cases hl:p.Al.length<32
   ·rw[Axe h hp hx t hat hin hl];exact Ok.pure (.inr (Ak0 h hp hx hat hin hl))
   ·unfold I7;refine hsearch.bind λy _=>c6 (λ_=>Ok.pure (.inl (by simp))) (λ_=>c6 (λ_=>Ok.pure (.inl (by simp))) (λhc=>?_));simp[Rz]at hc;omega
def Az2:Ad:=⟨[],[],[],[]⟩
theorem Asy(a:As):Ok (Ami b a) λy=>y=true->((a.Kind=1\/a.Kind=2)->Cs b ⟨2,a.Unit⟩)/\((a.Kind=3\/a.Kind=4)->Cs b ⟨1,a.Unit⟩)/\(a.Kind=5->Cs b ⟨4,a.Unit⟩)/\((a.Kind=8\/a.Kind=9)->Cs b ⟨a.Value,a.Unit⟩):=by
 unfold Ami;refine Ok.andThen (A:=λz=>z=true↔(a.Kind=1\/a.Kind=2)) (B:=λ(_:Unit)=>False) ?_ (λz hz=>?_) (λ_ h=>h.elim)
 ·unfold Aiy;refine c6 (λhk=>cZ ?_) (λhk=>cZ ?_)
  ·simp only[dD]at hk ⊢;omega
  ·simp only[dE,ne_eq]at hk;simp only[dD];omega
 refine c6 (λhq=>Ok.pure λhk=>?_) (λhq=>?_)
 ·have:=hz.1 hq;have hk:=(Nh b _ _).1 hk;exact⟨λ_=>hk,λe=>by omega,λe=>by omega,λe=>by omega⟩
 have hn12:¬(a.Kind=1\/a.Kind=2):=λe=>by rw[hz.2 e]at hq;cases hq
 refine Ok.andThen (A:=λz=>z=true↔(a.Kind=3\/a.Kind=4)) (B:=λ(_:Unit)=>False) ?_ (λz hz=>?_) (λ_ h=>h.elim)
 ·unfold Aix;refine c6 (λhk=>cZ ?_) (λhk=>cZ ?_)
  ·simp only[dD]at hk ⊢;omega
  ·simp only[dE,ne_eq]at hk;simp only[dD];omega
 refine c6 (λhq=>Ok.pure λhk=>?_) (λhq=>?_)
 ·have:=hz.1 hq;have hk:=(Nh b _ _).1 hk;exact⟨λe=>by omega,λ_=>hk,λe=>by omega,λe=>by omega⟩
 have hn34:¬(a.Kind=3\/a.Kind=4):=λe=>by rw[hz.2 e]at hq;cases hq
 refine c6 (λhq=>Ok.pure λhk=>?_) (λhq5=>c6 (λhq=>Ok.pure λ_=>?_) (λhq6=>c6 (λhq=>Ok.pure λhk=>?_) (λhq8=>c6 (λhq=>Ok.pure λhk=>?_) (λhq9=>Ok.pure λ_=>?_))))
 ·simp only[dD]at hq;have hk:=(Nh b _ _).1 hk;exact⟨λe=>by omega,λe=>by omega,λ_=>hk,λe=>by omega⟩
 ·simp only[dD]at hq;exact⟨λe=>by omega,λe=>by omega,λe=>by omega,λe=>by omega⟩
 ·have hk:=(Nh b _ _).1 hk;simp only[dD]at hq;exact⟨λe=>by omega,λe=>by omega,λe=>by omega,λ_=>hk⟩
 ·have hk:=(Nh b _ _).1 hk;simp only[dD]at hq;exact⟨λe=>by omega,λe=>by omega,λe=>by omega,λ_=>hk⟩
 grind
theorem A3d(h:Ax b)(hp:Aw b p)(ht:0<=t/\t<=2147483648){a:As}(hk:1<=a.Kind/\a.Kind<=9)
  (hw:((a.Kind=1\/a.Kind=2)->Cs b ⟨2,a.Unit⟩)/\((a.Kind=3\/a.Kind=4)->Cs b ⟨1,a.Unit⟩)/\(a.Kind=5->Cs b ⟨4,a.Unit⟩)/\((a.Kind=8\/a.Kind=9)->Cs b ⟨a.Value,a.Unit⟩)):Ok (Z0 ⟨b,p,t⟩ a) (Wd b):=by
 obtain⟨w1,w2,w3,w4⟩:=hw;unfold Cs at w2 w3;dsimp only at w2 w3;unfold Z0;refine c6 (λ_=>(Atp h hp _).bind λy hy=>Ok.pure hy) (λq1=>?_);refine c6 (λ_=>(Awr h hp _).bind λy hy=>Ok.pure hy) (λq2=>?_);refine c6 (λ_=>(Ass h hp _ _).bind λy hy=>Ok.pure hy) (λq6=>?_);refine c6 (λq=>?_) (λq3=>?_)
 ·simp only[dD]at q;exact(Ary h hp ht (by omega) (by omega)).bind λy hy=>Ok.pure hy
 refine c6 (λq=>?_) (λq4=>?_)
 ·simp only[dD]at q;exact(Awf h hp (by omega) (by omega)).bind λy hy=>Ok.pure hy
 refine c6 (λq=>?_) (λq5=>?_)
 ·simp only[dD]at q;exact(Asu hp (by omega) (by omega)).bind λy hy=>Ok.pure hy
 refine c6 (λ_=>(Awb h hp t).bind λy hy=>Ok.pure (.inr hy)) (λq7=>?_);simp only[dE,ne_eq]at q1 q2 q3 q4 q5 q6 q7;exact(Axd h hp t (w4 (by omega)) _).bind λy hy=>Ok.pure hy
theorem A1z(h:Ax b)(hp:Aw b p)(t:Int)(a:As):Ok (vE b p t a) λy=>(y.2≠0/\y.1=Az2)\/(y.2=0/\Aw b y.1):=by
 unfold vE;rw[E4 h hp,Hg h hp];simp only[ab];refine c6 (λhc=>by simp at hc) (λ_=>c6 (λ_=>Ok.pure (.inl ⟨by simp,rfl⟩)) (λhr=>?_));simp only[Ap8,bj,dC]at hr;refine(Asy a).bind λy hy=>c6 (λ_=>Ok.pure (.inl ⟨by simp,rfl⟩)) (λhk=>?_);simp only[cJ]at hk;refine(A3d h hp (by omega) (by omega) (hy hk)).bind λz hz=>c6 (λhc=>Ok.pure (.inl ⟨by simpa using hc,rfl⟩)) (λhc=>?_);simp only[dH]at hc;rcases hz with hz|hz
 ·exact absurd hc hz
 ·exact Ok.pure (.inr ⟨rfl,hz⟩)
variable{s:Af}
theorem A20(h:Ax b)(hs:A1 s):Ok (Abb s b) λy=>A1 y.2:=by
 have hbu:=h.buses;have hbl:=h.brl;have hso:=h.sol;have hco:=h.col;unfold Abb;refine(Eh hs 1 9 (by omega) (by omega) (by omega)).bind λy hy=>?_;refine Ok.andThen (A:=λ_=>True) (B:=λ(_:Unit)=>False) ?_ (λz _=>?_) (λ_ h=>h.elim)
 ·unfold Aer;exact c6 (λ_=>cZ trivial) (λ_=>cZ trivial)
 refine c6 (λ_=>?_) (λ_=>?_)
 ·exact(Uu hy.1 _ (by rw[Az (by omega)];omega)).bind λu hu=>Ok.pure hu.1
 refine Ok.andThen (A:=λ_=>True) (B:=λ(_:Unit)=>False) ?_ (λz _=>?_) (λ_ h=>h.elim)
 ·unfold Aeq;exact c6 (λ_=>cZ trivial) (λ_=>cZ trivial)
 refine c6 (λ_=>?_) (λ_=>c6 (λ_=>?_) (λ_=>c6 (λ_=>?_) (λ_=>c6 (λ_=>?_) (λ_=>c6 (λ_=>?_) (λ_=>Ok.pure hy.1)))))
 ·exact(Uu hy.1 _ (by rw[Az (by omega)];omega)).bind λu hu=>Ok.pure hu.1
 ·exact(Uu hy.1 _ (by rw[Az (by omega)];omega)).bind λu hu=>(Ct hu.1 _ (by simp) (by simp)).bind λv hv=>Ok.pure hv.1
 ·exact(Uu hy.1 _ (by rw[Az (by omega)];omega)).bind λu hu=>(Uu hu.1 _ (by rw[Az (by omega)];omega)).bind λv hv=>Ok.pure hv.1
 ·exact(Eh hy.1 1 4 (by omega) (by omega) (by omega)).bind λu hu=>(Uu hu.1 _ (by omega)).bind λv hv=>Ok.pure hv.1
 ·exact(Eh hy.1 1 4 (by omega) (by omega) (by omega)).bind λu hu=>(Uu hu.1 _ (by omega)).bind λv hv=>Ok.pure hv.1
theorem Ayr(h:Ax b)(hs:A1 s){n:Int}(h0:0<=n)(h8:n<=8):Ok (Abc s b n) λy=>A1 y.2/\(y.1.length:Int)<=n:=by
 unfold Abc;have e:w64 (n+1)=n+1:=Az (by omega);rw[e];refine(C9 hs (n+1) (by omega) (by omega)).bind λy hy=>?_;refine Ok.andThen (A:=λs=>A1 ⟨s.2.1,s.2.2.1⟩/\(s.2.2.2.length:Int)<=n) (B:=λ(_:Unit)=>False) ?_ (λs hs=>Ok.pure hs) (λ_ h=>h.elim);refine cQ (λs=>(0<=s.1/\s.1+(s.2.2.2.length:Int)<=n)/\A1 ⟨s.2.1,s.2.2.1⟩) (λs=>s.1.toNat) _ _ ?_ ?_ ?_
 ·have h2:=hy.2;exact⟨⟨by dsimp only;omega,by dsimp only[List.length_nil];omega⟩,hy.1⟩
 ·have h2:=hy.2;dsimp only;omega
 ·rintro⟨i,L,a,l⟩ ⟨⟨g1,g3⟩,g4⟩;dsimp only at g1 g3 g4;unfold Afe;dsimp only;refine c6 (λhq=>?_) (λ_=>cU ⟨g4,by dsimp only;omega⟩);simp only[dA]at hq;have e1:w64 (i-1)=i-1:=Az (by omega);rw[e1];refine(A20 h g4).bind λu hu=>(cS (by simp;omega)).bind λw hw=>c7 ⟨⟨⟨by dsimp only;omega,by rw[hw];simp;omega⟩,hu⟩,by dsimp only;omega⟩
abbrev Ee:=List (Ak×Bool)
def Tie(L:Ee)(i j:Nat):Prop:=∃z,z∈L/\z.1.Kind=1/\z.2=true/\((z.1.A.toNat=i/\z.1.B.toNat=j)\/(z.1.A.toNat=j/\z.1.B.toNat=i))
variable{L:Ee}{i:Nat}
theorem Tie.symm(h:Tie L i j):Tie L j i:=by
 obtain⟨z,h1,h2,h3,h4⟩:=h;exact⟨z,h1,h2,h3,h4.symm⟩
inductive Dy(L:Ee)(i:Nat):Nat->Nat->Prop
 |refl:Dy L i 0 i
 |stay {r j:Nat}:Dy L i r j->Dy L i (r+1) j
 |step {r j k:Nat}:Dy L i r j->Tie L j k->Dy L i (r+1) k
def Hj(L:Ee)(i j:Nat):Prop:=∃r,Dy L i r j
theorem Hj.refl(L:Ee)(i:Nat):Hj L i i:=⟨0,.refl⟩
theorem Hj.tie{k:Nat}(h:Hj L i j)(t:Tie L j k):Hj L i k:=by
 obtain⟨r,h⟩:=h;exact⟨r+1,h.step t⟩
theorem Hj.trans{k:Nat}(h:Hj L i j)(h2:Hj L j k):Hj L i k:=by
 obtain⟨r,h2⟩:=h2;induction h2 with
 |refl=>exact h
 |stay _ ih=>exact ih
 |step _ t ih=>exact ih.tie t
theorem Hj.symm(h:Hj L i j):Hj L j i:=by
 obtain⟨r,h⟩:=h;induction h with
 |refl=>exact .refl L i
 |stay _ ih=>exact ih
 |step _ t ih=>exact(Hj.tie (.refl L _) t.symm).trans ih
theorem Dy.le{s:Nat}(h:Dy L i r j)(hs:r<=s):Dy L i s j:=by
 induction s with
 |zero=>
  grind
 |succ s ih=>
  by_cases e:r=s+1
  ·subst e;exact h
  ·exact(ih (by omega)).stay
open Classical in
noncomputable def cn (p:Nat->Prop):Nat->Nat
 |0=>0
 |n+1=>cn p n+if p n then 1 else 0
theorem Avr(p:Nat->Prop):∀n,cn p n<=n
 |0=>ag _
 |n+1=>by have:=Avr p n;unfold cn;split <;> omega
theorem uE{p q:Nat->Prop}:∀n,(∀k,k<n->p k->q k)->cn p n<=cn q n
 |0,_=>ag _
 |n+1,h=>by
  have:=uE n λk hk=>h k (by omega);grind[cn]
theorem Alf{p q:Nat->Prop}:∀n,(∀k,k<n->p k->q k)->cn p n=cn q n->∀k,k<n->q k->p k
 |0,_,_,k,hk,_=>by omega
 | n+1,h,e,k,hk,hq=>by
  have hm:=uE n λk hk=>h k (by omega);have h1:=h n (by omega);unfold cn at e;by_cases hp:p n
  ·rw[if_pos hp,if_pos (h1 hp)]at e;by_cases ek:k=n
   ·subst ek;exact hp
   ·exact Alf n (λk hk=>h k (by omega)) (by omega) k (by omega) hq
  ·rw[if_neg hp]at e;by_cases hqn:q n
   ·rw[if_pos hqn]at e;omega
   ·rw[if_neg hqn]at e;by_cases ek:k=n
    ·subst ek;exact absurd hq hqn
    ·exact Alf n (λk hk=>h k (by omega)) (by omega) k (by omega) hq
def Za(L:Ee)(n:Nat):Prop:=∀i j,Tie L i j->i<n/\j<n
theorem Dy.lt(hL:Za L n)(hi:i<n)(h:Dy L i r j):j<n:=by
 induction h with
 |refl=>exact hi
 |stay _ ih=>exact ih
 |step _ t _=>exact(hL _ _ t).2
theorem Y0(hL:Za L n)(_:i<n)(h:Hj L i j):Dy L i n j:=by
 have hst:∃r,r<=n/\∀k,k<n->Dy L i (r+1) k->Dy L i r k:=by
  by_cases hex:∃r,r<=n/\∀k,k<n->Dy L i (r+1) k->Dy L i r k
  ·exact hex
  exfalso;have hgrow:∀r,r<=n->cn (Dy L i r) n<cn (Dy L i (r+1)) n:=by
   intro r hr;have hm:=uE (p:=Dy L i r) (q:=Dy L i (r+1)) n λk _ h=>h.stay;rcases Nat.lt_or_eq_of_le hm with h|h
   ·exact h
   ·exact absurd ⟨r,hr,Alf n (λk _ h=>h.stay) h⟩ hex
  have hge:∀r,r<=n+1->r<=cn (Dy L i r) n:=by
   intro r;induction r with
   |zero=>intro _;omega
   |succ r ih=>grind
  have h1:=hge (n+1) (ag _);have h2:=Avr (Dy L i (n+1)) n;omega
 obtain⟨r,hr,hs⟩:=hst;obtain⟨s,h⟩:=h;have key:∀s k,Dy L i s k->Dy L i r k:=by
  intro s k h;induction h with
  |refl=>exact Dy.refl.le (by omega)
  |stay _ ih=>exact ih
  |step h0 t ih=>exact hs _ (hL _ _ t).2 (ih.step t)
 exact(key s j h).le hr
def Dr(b:Aa)(p:Ad):Ee:=b.Ah.zip p.Ai
theorem jU(h:Ax b)(p:Ad):Za (Dr b p) b.An.toNat:=by
 rintro i j ⟨z,hz,hk,_,he⟩;have:=h.br z.1 (bP hz).1;unfold Si at this;omega
variable{s:List Int}
theorem A4j(h:i<s.length):s[i]? = some (s.getD i 0):=by
 grind
theorem Tu(hi:i<s.length):(Gg s z).getD i 0=if(z.1.Kind=1/\z.2=true)/\(i=z.1.A.toNat\/i=z.1.B.toNat)then min (s.getD z.1.A.toNat 0) (s.getD z.1.B.toNat 0) else s.getD i 0:=by
 unfold Gg;grind
def Lab(L:Ee)(s:List Int):Prop:=∀i,i<s.length->Hj L (s.getD i 0).toNat i
theorem Aon(h:Lab L s)(hz:z∈L)(hr:z.1.Kind=1->z.1.A.toNat<s.length/\z.1.B.toNat<s.length):Lab L (Gg s z):=by
 intro i hi;rw[Fg]at hi;rw[Tu hi];split
 ·rename_i hc;obtain⟨⟨hk,hv⟩,hab⟩:=hc;obtain⟨ha,hb⟩:=hr hk;have tAB:Tie L z.1.A.toNat z.1.B.toNat:=⟨z,hz,hk,hv,.inl ⟨rfl,rfl⟩⟩;have c1:=h _ ha;have c2:=h _ hb;rcases Int.le_total (s.getD z.1.A.toNat 0) (s.getD z.1.B.toNat 0) with e|e
  ·rw[Int.min_eq_left e];rcases hab with rfl|rfl
   ·exact c1
   ·exact c1.tie tAB
  ·rw[Int.min_eq_right e];rcases hab with rfl|rfl
   ·exact c2.tie tAB.symm
   ·exact c2
 ·exact h i hi
theorem Rh{L:Ee}{n:Nat}:∀(l:Ee)(s:List Int),s.length=n->(∀z,z∈l->z∈L/\(z.1.Kind=1->z.1.A.toNat<n/\z.1.B.toNat<n))->Lab L s->Lab L (D_ l s)
 | [],_,_,_,h=>h
 |z::l,s,hs,hz,h=>Rh l (Gg s z) (by rw[Fg];exact hs) (λy hy=>hz y (al _ hy)) (Aon h (hz z ak).1 (by grind))
theorem Tv(z:Ak×Bool)(hi:i<s.length):(Gg s z).getD i 0<=s.getD i 0:=by
 rw[Tu hi];grind
theorem Ri:∀(l:Ee)(s:List Int){i:Nat},i<s.length->(D_ l s).getD i 0<=s.getD i 0
 | [],_,_,_=>Int.le_refl _
 |z::l,s,i,hi=>Int.le_trans (Ri l (Gg s z) (by rw[Fg];exact hi)) (Tv z hi)
theorem Yh:∀(l:Ee)(s:List Int){z:Ak×Bool},z∈l->z.1.Kind=1->z.2=true->z.1.A.toNat<s.length->z.1.B.toNat<s.length->∀i,i=z.1.A.toNat\/i=z.1.B.toNat->(D_ l s).getD i 0<=min (s.getD z.1.A.toNat 0) (s.getD z.1.B.toNat 0)
 | [],_,_,h,_,_,_,_,_,_=>by cases h
 | y::l,s,z,hz,hk,hv,ha,hb,i,hi=>by
  show (D_ l (Gg s y)).getD i 0<=_;have hil:i<s.length:=by rcases hi with rfl|rfl <;> assumption
  by_cases e:z=y
  ·subst e;refine Int.le_trans (Ri l _ (by rw[Fg];exact hil)) ?_;rw[Tu hil,if_pos ⟨⟨hk,hv⟩,hi⟩];exact Int.le_refl _
  ·have hz':z∈l:=by
    grind
   refine Int.le_trans (Yh l (Gg s y) hz' hk hv (by rw[Fg];exact ha) (by rw[Fg];exact hb) i hi) ?_;have h1:=Tv y ha;have h2:=Tv y hb;omega
theorem Lq(h:i<n):(Dg n).getD i 0=(i:Int):=by
 grind[Dg]
theorem Aks(hL:Za L n):∀r i j,i<n->j<n->Dy L j r i->((List.range r).foldl (λs _=>D_ L s) (Dg n)).getD i 0<=(j:Int):=by
 intro r;have hlen:∀r,((List.range r).foldl (λs _=>D_ L s) (Dg n)).length=n:=by
  intro r;induction r with
  |zero=>simp[Dg]
  |succ r ih=>rw[ce,aY];simp only[bu,List.foldl_nil,Gj];exact ih
 induction r with
 |zero=>
  intro i j hi hj h;cases h;show (Dg n).getD i 0<=_;rw[Lq hi];exact Int.le_refl _
 | succ r ih=>
  intro i j hi hj h;have hrl:=hlen r;rw[ce,aY];simp only[bu,List.foldl_nil];generalize (List.range r).foldl (λs _=>D_ L s) (Dg n)=s at *;cases h with
  |stay h=>exact Int.le_trans (Ri L s (by omega)) (ih i j hi hj h)
  |step h t=>
   rename_i k;have hk:=hL _ _ t;have h1:=ih k j hk.1 hj h;obtain⟨z,hz,hz1,hz2,he⟩:=t;have hA:z.1.A.toNat<s.length:=by omega
   have hB:z.1.B.toNat<s.length:=by omega
   have h2:=Yh L s hz hz1 hz2 hA hB i (by omega);grind
theorem Yf(h:Ax b)(p:Ad)(hi:i<b.An.toNat)(hj:j<b.An.toNat):(groups b p).getD i 0=(groups b p).getD j 0↔Hj (Dr b p) i j:=by
 have hL:=jU h p;have hlen:=Ja b p;have hlab:Lab (Dr b p) (groups b p):=by
  have hz:∀z,z∈Dr b p->z∈Dr b p/\(z.1.Kind=1->z.1.A.toNat<b.An.toNat/\z.1.B.toNat<b.An.toNat):=by
   intro z hz;refine⟨hz,λhk=>?_⟩;have:=h.br z.1 (bP hz).1;unfold Si at this;omega
  have key:∀(xs:List Nat)(s:List Int),s.length=b.An.toNat->Lab (Dr b p) s->Lab (Dr b p) (xs.foldl (λs _=>D_ (b.Ah.zip p.Ai) s) s):=by
   intro xs;induction xs with
   |nil=>intro s _ h;exact h
   |cons x xs ih=>intro s hl h;exact ih _ (by rw[Gj];exact hl) (Rh _ s hl hz h)
  refine key _ _ (by simp[Dg]) ?_;intro k hk;have hk':k<b.An.toNat:=by simpa[Dg]using hk
  rw[Lq hk'];exact .refl _ k
 have hlow:∀i j,i<b.An.toNat->j<b.An.toNat->Hj (Dr b p) j i->(groups b p).getD i 0<=(j:Int):=λi j hi hj hc=>Aks hL _ i j hi hj (Y0 hL hj hc);have hlo:=Tw h p;have hrange:∀i,i<b.An.toNat->0<=(groups b p).getD i 0/\((groups b p).getD i 0).toNat<b.An.toNat:=by
  grind
 constructor
 ·intro e;have c1:=hlab i (by omega);have c2:=hlab j (by omega);rw[e]at c1;exact c1.symm.trans c2
 ·intro hc;have r1:=hrange i hi;have r2:=hrange j hj;have c1:=hlab i (by omega);have c2:=hlab j (by omega);have l1:=hlow j _ hj r1.2 (c1.trans hc);have l2:=hlow i _ hi r2.2 (c2.trans hc.symm);omega
def G1(s:List Bool)(z:Ak×Bool):List Bool:=
 if(z.1.Kind=1/\z.2=true)/\(s.getD z.1.A.toNat false || s.getD z.1.B.toNat false)=true then (s.set z.1.A.toNat true).set z.1.B.toNat true else s
theorem F5(s:List Bool)(z:Ak×Bool):(G1 s z).length=s.length:=by unfold G1;split <;> simp
def Hk(L:Ee)(s:List Bool):List Bool:=L.foldl G1 s
theorem L9:∀(l:Ee)(s:List Bool),(Hk l s).length=s.length
 | [],_=>rfl
 |z::l,s=>by show (Hk l (G1 s z)).length=_;rw[L9 l,F5]
variable{s:List Bool}
theorem A3z(hi:i<s.length):(s.set m true).getD i false=(decide (m=i) || s.getD i false):=by
 grind
theorem Lo(hi:i<s.length):(G1 s z).getD i false=true↔s.getD i false=true\/(((z.1.Kind=1/\z.2=true)/\(s.getD z.1.A.toNat false || s.getD z.1.B.toNat false)=true)/\(i=z.1.A.toNat\/i=z.1.B.toNat)):=by
 unfold G1;grind
def Got(L:Ee)(n:Nat)(s:List Bool):Prop:=∀i,i<s.length->s.getD i false=true->Hj L n i
theorem Anw(h:Got L n s)(hz:z∈L)(hr:z.1.Kind=1->z.1.A.toNat<s.length/\z.1.B.toNat<s.length):Got L n (G1 s z):=by
 intro i hi e;rw[F5]at hi;rcases(Lo hi).1 e with e|⟨⟨⟨hk,hv⟩,ho⟩,hab⟩
 ·exact h i hi e
 ·obtain⟨ha,hb⟩:=hr hk;have t:Tie L z.1.A.toNat z.1.B.toNat:=⟨z,hz,hk,hv,.inl ⟨rfl,rfl⟩⟩;simp only[ay]at ho;rcases ho with ho|ho
  ·have c:=h _ ha ho;rcases hab with rfl|rfl
   ·exact c
   ·exact c.tie t
  ·have c:=h _ hb ho;rcases hab with rfl|rfl
   ·exact c.tie t.symm
   ·exact c
theorem X_{L:Ee}{n m:Nat}:∀(l:Ee)(s:List Bool),s.length=m->(∀z,z∈l->z∈L/\(z.1.Kind=1->z.1.A.toNat<m/\z.1.B.toNat<m))->Got L n s->Got L n (Hk l s)
 | [],_,_,_,h=>h
 |z::l,s,hs,hz,h=>X_ l (G1 s z) (by rw[F5];exact hs) (λy hy=>hz y (al _ hy)) (Anw h (hz z ak).1 (by grind))
theorem Q0:∀(l:Ee)(s:List Bool){i:Nat},i<s.length->s.getD i false=true->(Hk l s).getD i false=true
 | [],_,_,_,h=>h
 |z::l,s,_,hi,h=>Q0 l (G1 s z) (by rw[F5];exact hi) ((Lo hi).2 (.inl h))
theorem X9:∀(l:Ee)(s:List Bool){z:Ak×Bool},z∈l->z.1.Kind=1->z.2=true->z.1.A.toNat<s.length->z.1.B.toNat<s.length->(s.getD z.1.A.toNat false || s.getD z.1.B.toNat false)=true->∀i,i=z.1.A.toNat\/i=z.1.B.toNat->(Hk l s).getD i false=true
 | [],_,_,h,_,_,_,_,_,_,_=>by cases h
 | y::l,s,z,hz,hk,hv,ha,hb,ho,i,hi=>by
  show (Hk l (G1 s y)).getD i false=true;have hil:i<s.length:=by rcases hi with rfl|rfl <;> assumption
  by_cases e:z=y
  ·subst e;exact Q0 l _ (by rw[F5];exact hil) ((Lo hil).2 (.inr ⟨⟨⟨hk,hv⟩,ho⟩,hi⟩))
  ·have hz':z∈l:=by
    grind
   refine X9 l (G1 s y) hz' hk hv (by rw[F5];exact ha) (by rw[F5];exact hb) ?_ i hi;simp only[ay]at ho ⊢;exact ho.imp (λe=>(Lo ha).2 (.inl e)) (λe=>(Lo hb).2 (.inl e))
def Lp(L:Ee)(r:Nat)(s:List Bool):List Bool:=(List.range r).foldl (λs _=>Hk L s) s
theorem Le(L:Ee)(r:Nat)(s:List Bool):Lp L (r+1) s=Hk L (Lp L r s):=by
 unfold Lp;rw[ce,aY];rfl
theorem Ij(L:Ee)(s:List Bool):∀r,(Lp L r s).length=s.length
 |0=>rfl
 |r+1=>by rw[Le,L9,Ij L s r]
theorem Aj3(hL:Za L m)(hs:s.length=m)(hn:s.getD n false=true):∀r i,i<m->Dy L n r i->(Lp L r s).getD i false=true:=by
 intro r;induction r with
 |zero=>intro i _ h;cases h;exact hn
 | succ r ih=>
  intro i hi h;rw[Le];have hl:=Ij L s r;cases h with
  |stay h=>exact Q0 L _ (by omega) (ih i hi h)
  |step h t=>
   rename_i k;have hk:=hL _ _ t;have h1:=ih k hk.1 h;obtain⟨z,hz,hz1,hz2,he⟩:=t;refine X9 L _ hz hz1 hz2 (by omega) (by omega) ?_ i (by omega);grind
def Kb(b:Aa)(p:Ad)(n:Nat):List Int:=((List.range b.An.toNat).filter λi=>(groups b p).getD i 0==(groups b p).getD n 0).map λ(i:Nat)=>(i:Int)
theorem Ar6(h:Ax b)(hp:Aw b p)(hn:n<b.An.toNat):Amp b p (n:Int)=some (Kb b p n):=by
 have hbu:=h.buses;have hbl:=h.brl;have hncl:=hp.ncl;have hL:=jU h p;refine cY ?_;unfold Amp;refine(Ok.mkI (by omega) (by omega)).bind λy hy=>?_;have hyl:y.length=b.An.toNat:=by rw[hy];simp
 refine(d5 (by omega) (by omega)).bind λ_ _=>(cV (by omega) (by omega)).bind λz hz=>?_;rw[aI]at hz;have hzl:z.length=b.An.toNat:=by rw[hz];simpa using hyl
 have hzn:z.getD n false=true:=by rw[hz];simp[List.getD,hyl,hn]
 have hzg:Got (Dr b p) n z:=by
  intro i hi e;have hiy:i<y.length:=by omega
  rw[hz,A3z hiy]at e;simp only[ay,dA]at e;rcases e with e|e
  ·subst e;exact .refl _ _
  ·rw[hy]at e;simp[List.getD,show i<b.An.toNat by omega]at e
 clear hz;refine Ok.andThen (A:=λs=>s=Lp (Dr b p) b.An.toNat z) (B:=λ(_:Unit)=>False) ?_ (λs hs=>?_) (λ_ h=>h.elim)
 ·refine c8 (I:=λj s=>s=Lp (Dr b p) j z) rfl (λj x s hx hs=>?_) λs hs=>by rw[hs,hzl]
  unfold Ajc;have hsl:s.length=b.An.toNat:=by rw[hs,Ij,hzl]
  refine(c8 (I:=λk r=>r=Hk ((Dr b p).take k) s) (A:=λr=>r=Hk (Dr b p) s) (B:=λ(_:Unit)=>False) rfl (λk u r hu hr=>?_) λr hr=>?_).inner (λr hr=>c7 (by rw[hr,hs,Le])) (λ_ h=>h.elim)
  ·have hk:=(aa.1 hu).1;have hcnt:cnt 0 k=(k:Int):=Cv (by omega);have hrl:r.length=b.An.toNat:=by rw[hr,L9,hsl]
   obtain⟨⟨a0,a1⟩,hkind⟩:=h.br u (af hu);obtain⟨v,hv⟩:∃v,p.Ai[k]? = some v:=⟨_,aj (by omega)⟩;have hzk:(Dr b p)[k]? = some (u,v):=by unfold Dr;rw[List.getElem?_zip_eq_some];exact⟨hu,hv⟩
   have hnext:Hk ((Dr b p).take (k+1)) s=G1 r (u,v):=by
    rw[Bs hzk,Hk,aY,hr];rfl
   rw[hnext];have hB:u.Kind=1->0<=u.B/\u.B<b.An:=λe=>by omega
   unfold Ajb;rw[hcnt,B1 hv];by_cases k1:u.Kind=1
   ·have h2:=hB k1;obtain⟨ga,hga⟩:∃ga,r[u.A.toNat]? = some ga:=⟨_,aj (by omega)⟩;obtain⟨gb,hgb⟩:∃gb,r[u.B.toNat]? = some gb:=⟨_,aj (by omega)⟩;have hda:r.getD u.A.toNat false=ga:=by simp[List.getD,hga]
    have hdb:r.getD u.B.toNat false=gb:=by simp[List.getD,hgb]
    have ea:getI r u.A=some ga:=by have:=B1 hga;rwa [bA a0]at this
    have eb:getI r u.B=some gb:=by have:=B1 hgb;rwa [bA h2.1]at this
    rw[dD.2 k1];refine Ok.bind (P:=λw=>w=v) (c9 (λ_=>Ok.pure rfl) λhn=>(hn ⟨rfl,trivial⟩).elim) λw hw=>?_;subst hw;cases w with
    |false=>
     refine Ok.bind (P:=λ_=>True) (d6 (λ_=>d5 a0 (by omega)) λ_=>trivial) λ_ _=>?_;refine Ok.bind (P:=λ_=>True) (d6 (λ_=>d5 h2.1 (by omega)) λ_=>trivial) λ_ _=>?_;refine c6 (λhq=>by simp[Uj]at hq) (λ_=>c7 ?_);unfold G1;rw[if_neg (by simp)]
    | true=>
     rw[ea,eb];refine Ok.bind (P:=λw=>w=ga) (c9 (λ_=>Ok.pure rfl) λhn=>(hn ⟨rfl,trivial⟩).elim) λw hw=>?_;subst hw;refine Ok.bind (P:=λx=>(w || x)=(w || gb)) (c9 (λ_=>Ok.pure rfl) λhn=>?_) λx hx=>?_
     ·cases w with
      |true=>rfl
      |false=>exact(hn ⟨rfl,rfl,trivial⟩).elim
     have hc8:Uj u true w x=(w || gb):=by
      unfold Uj;rw[hx,dD.2 k1];rfl
     rw[hc8];refine c6 (λhq=>?_) (λhq=>c7 ?_)
     ·refine Ok.bind (P:=λ_=>True) (da rfl) λ_ _=>(cV a0 (by omega)).bind λr1 e1=>?_;refine(d5 h2.1 (by rw[e1];simp;omega)).bind λ_ _=>(cV h2.1 (by rw[e1];simp;omega)).bind λr2 e2=>c7 ?_;rw[e2,e1];unfold G1;rw[if_pos ⟨⟨k1,rfl⟩,by rw[hda,hdb];exact hq⟩]
     ·unfold G1;rw[if_neg (λe=>by have:=e.2;rw[hda,hdb,hq]at this;cases this)]
   ·have k0:(u.Kind==1)=false:=dE.2 k1;rw[k0];refine Ok.bind (P:=λ_=>True) (c9 (λhg=>absurd hg.1 (by simp)) λ_=>trivial) λy7 _=>?_;refine Ok.bind (P:=λ_=>True) (c9 (λhg=>absurd hg.1 (by simp)) λ_=>trivial) λy9 _=>?_;refine Ok.bind (P:=λ_=>True) (c9 (λhg=>absurd hg.1 (by simp)) λ_=>trivial) λy11 _=>?_;refine c6 (λhq=>by simp[Uj,k0]at hq) (λ_=>c7 ?_);unfold G1;rw[if_neg (λe=>k1 e.1.1)]
  ·have:b.Ah.length=(Dr b p).length:=by unfold Dr;rw[List.length_zip];omega
   rw[hr,this,aP]
 ·have hsl:s.length=b.An.toNat:=by rw[hs,Ij,hzl]
  have hval:∀i,i<b.An.toNat->s.getD i false=((groups b p).getD i 0==(groups b p).getD n 0):=by
   intro i hi;rw[ch,dD,Yf h p hi hn];have hg:∀r,Got (Dr b p) n (Lp (Dr b p) r z):=by
    intro r;induction r with
    |zero=>exact hzg
    |succ r ih=>
     rw[Le];refine X_ (m:=b.An.toNat) _ _ (by rw[Ij,hzl]) (λy hy=>⟨hy,λhk=>?_⟩) ih;have:=h.br y.1 (bP hy).1;unfold Si at this;omega
   constructor
   ·intro e;rw[hs]at e;exact(hg _ i (by rw[Ij,hzl];exact hi) e).symm
   ·intro c;rw[hs];exact Aj3 hL hzl hzn _ i hi (Y0 hL hn c.symm)
  refine Ok.andThen (A:=λy=>y=Kb b p n) (B:=λ(_:Unit)=>False) ?_ (λy hy=>Ok.pure hy) (λ_ h=>h.elim);refine c8 (I:=λj y=>y=((List.range j).filter λi=>(groups b p).getD i 0==(groups b p).getD n 0).map λ(i:Nat)=>(i:Int)) rfl (λj x y hx hy=>?_) λy hy=>?_
  ·have hj:=(aa.1 hx).1;have hcnt:cnt 0 j=(j:Int):=Cv (by omega);have hv:=hval j (by omega);have hxd:s.getD j false=x:=by simp[List.getD,hx]
   rw[hxd]at hv;have hyl2:y.length<=j:=by rw[hy];exact E8 _ j
   rw[Gr,←hy];unfold Aja;refine c6 (λhq=>?_) (λhq=>c7 ?_)
   ·refine(cS (by simp;omega)).bind λw hw=>c7 ?_;rw[hw,hcnt,if_pos (by rw[←hv];exact hq)]
   ·rw[if_neg (by rw[←hv,hq];simp),aU]
  ·rw[hy,hsl];rfl
def ofZ(b:Aa)(k i:Int):List (Ak×Nat):=b.Ah.zipIdx.filter λz=>z.1.Kind==k&&z.1.B==i
theorem Ake(hk:k≠1)(i:Int):(ofL b λx=>Ko k i x)=(ofZ b k i).map λz=>(z.2:Int):=by
 unfold ofL ofZ;congr 1;exact List.filter_congr λz _=>Ar8 k hk i z.1
variable{z:Ak×Nat}{i:Int}
theorem qI(h:z∈ofZ b k i):b.Ah[z.2]? = some z.1:=by
 have:=(az.1 h).1;grind
theorem Abe(q:Ak->Bool)(C:List Bool):∀(l:List Ak)(c:List Bool)(k:Nat),C.drop k=c->l.length=c.length ->
  (((l.zipIdx k).filter λz=>q z.1).find? λz=>C.getD z.2 false).map (·.1)=((l.zip c).find? λz=>q z.1&&z.2).map (·.1)
 | [],_,_,_,_=>by simp
 |x::l,[],_,_,h=>by simp at h
 | x::l,v::c,k,hd,h=>by
  have hv:C[k]? = some v:=by
   have:=congrArg (·[0]?) hd;simpa[List.getElem?_drop]using this
  have hd':C.drop (k+1)=c:=by rw[←bJ,hd];rfl
  have ih:=Abe q C l c (k+1) hd' (by simpa using h);have hg:C.getD k false=v:=by simp[List.getD,hv]
  simp only[List.zipIdx_cons,bk,cd,List.find?_cons];grind
theorem Aog(hc:p.Ai.length=b.Ah.length)(k i:Int):Ff b p k i=((ofZ b k i).find? λz=>p.Ai.getD z.2 false).map (·.1.A):=by
 have:=Abe (λx=>x.Kind==k&&x.B==i) p.Ai b.Ah p.Ai 0 rfl (by omega);unfold Ff ofZ;have h2:=congrArg (Option.map (·.A)) this;simp only[Option.map_map]at h2;exact h2.symm
theorem Y1(hc:p.Ai.length=b.Ah.length)(h:z∈ofZ b k i):p.Ai[z.2]? = some (p.Ai.getD z.2 false):=by
 have:=(aa.1 (qI h)).1;grind
theorem uC(h:Ax b)(hp:Aw b p)(i:Int):Xy b p i=some (Fh (G7 b p i)):=by
 have hn:=hp.nso;have hc:=hp.ncl;refine cY ?_;unfold Xy;rw[Nc h hp];simp only[ab];by_cases hi:0<=i/\i<b.Ae.length
 ·obtain⟨x,hx⟩:∃x,p.Ae[i.toNat]? = some x:=⟨_,aj (by omega)⟩;have hg:getI p.Ae i=some x:=by have:=B1 hx;rwa [bA hi.1]at this
  have hd:p.Ae.getD i.toNat default=x:=by simp[List.getD,hx]
  have hcond:((((0:Int) != 0) || (decide (i<0))) || (decide (i>=(b.Ae.length:Int))))=false:=by
   rw[cy];intro e;simp at e;omega
  rw[hcond,hg];refine Ok.bind (P:=λy=>y=x) (c9 (λ_=>Ok.pure rfl) λhn=>(hn ⟨rfl,trivial⟩).elim) λy hy=>?_;subst hy;refine c6 (λhq=>Ok.pure ?_) (λhq=>?_)
  ·simp only[Y7,hcond,aX,bne_iff_ne,ne_eq]at hq;unfold G7;rw[if_neg (λe=>by rw[hd]at e;exact hq e.2.2)];rfl
  ·simp only[Y7,hcond,aX,dH]at hq;have hcon:G7 b p i=Ff b p 2 i:=by
    unfold G7;rw[if_pos ⟨hi.1,by omega,by rw[hd];exact hq⟩]
   rw[Ab1 h,Ake (by decide),hcon,Aog hc];simp only[ab];obtain⟨n,rfl⟩:∃n:Nat,i=(n:Int):=⟨i.toNat,by omega⟩;have hlen:=qJ (b:=b) (k:=2) (by decide) n;rw[Ake (by decide),h.one n (by omega),au]at hlen;obtain⟨z,hz⟩:=List.length_eq_one_iff.1 hlen;have hzm:z∈ofZ b 2 (n:Int):=by rw[hz];exact ak
   have hcz:=Y1 hc hzm;have hbz:=qI hzm;rw[hz];show Ok ((getI [(z.2:Int)] 0).bind _) _;rw[show getI [(z.2:Int)] 0=some (z.2:Int) from rfl];simp only[ab,B1 hcz,List.find?_cons,List.find?_nil];cases hv:p.Ai.getD z.2 false with
   |false=>exact Ok.pure rfl
   |true=>
    simp only[aR,cond_false,B1 hbz,ab];exact Ok.pure rfl
 ·refine Ok.bind (P:=λ_=>True) (c9 (λhg=>?_) λ_=>trivial) λy _=>?_
  ·have:=hg.1;simp at this;omega
  refine c6 (λhq=>Ok.pure ?_) (λhq=>?_)
  ·unfold G7;rw[if_neg (λe=>hi (by omega))];rfl
  ·simp[Y7]at hq;omega
theorem Ath(h:Ax b)(hp:Aw b p)(h0:0<=i)(h1:i<b.Ag.length):Af0 b p i=some (Fh (Ff b p 3 i)):=by
 have hc:=hp.ncl;refine cY ?_;unfold Af0;rw[Nc h hp];simp only[ab];refine c6 (λhq=>?_) (λ_=>?_)
 ·simp[Ap5]at hq;omega
 rw[Ab1 h,Ake (by decide),Aog hc];simp only[ab];have key:∀(m:List (Ak×Nat))(k:Nat),(∀z,z∈m->b.Ah[z.2]? = some z.1/\p.Ai[z.2]? = some (p.Ai.getD z.2 false)) ->
   foldI (vD b p) (m.map λz=>(z.2:Int)) k ()=match m.find? λz=>p.Ai.getD z.2 false with
    |some z=>some (.ret (z.1.A,true))
    |none=>some (.next ()):=by
  intro m;induction m with
  |nil=>intro k _;rfl
  |cons z m ih=>
   intro k hm;obtain⟨e1,e2⟩:=hm z ak;simp only[bt,foldI,vD,B1 e1,B1 e2,ab,List.find?_cons];grind
 rw[key _ 0 λz hz=>⟨qI hz,Y1 hc hz⟩];cases (ofZ b 3 i).find? λz=>p.Ai.getD z.2 false with
 |none=>exact Ok.pure rfl
 |some z=>exact Ok.pure rfl
theorem Aol(l:List Int)(x:Int):O_ l x=some (l.any (· == x)):=by
 unfold O_;have:∀(l:List Int)(k:Nat),foldI (vC x) l k ()=bif l.any (· == x)then some (.ret true) else some (.next ()):=by
  intro l;induction l with
  |nil=>intro k;rfl
  |cons y l ih=>
   grind[foldI,vC]
 grind[andThen]
theorem Abk(h0:0<=a)(h1:a<b.An):(Kb b p n).any (· == a)=((groups b p).getD a.toNat 0==(groups b p).getD n 0):=by
 rw[ch,List.any_eq_true];constructor
 ·rintro⟨x,hx,e⟩;rw[dD]at e;subst e;obtain⟨i,hi,rfl⟩:=ao.1 hx;grind
 ·intro e;refine⟨a,ao.2 ⟨a.toNat,az.2 ⟨aZ.2 (by omega),e⟩,by omega⟩,by simp⟩
theorem J0(h:Ax b)(p:Ad)(hn:n<b.An.toNat):0<=(groups b p).getD n 0/\((groups b p).getD n 0).toNat<=n/\(((groups b p).getD n 0).toNat:Int)=(groups b p).getD n 0:=by
 have:=Tw h p n _ (A4j (by rw[Ja];exact hn));omega
theorem Awu(h:Ax b)(hp:Aw b p)(hn:n<b.An.toNat):Pb b p (n:Int)=some (isl b p ((groups b p).getD n 0).toNat,true):=by
 have hso:=h.sol;have hco:=h.col;have hg:=J0 h p hn;refine cY ?_;unfold Pb;rw[Nc h hp];simp only[ab];refine c6 (λhc=>?_) (λ_=>?_)
 ·simp[Aqi]at hc;omega
 rw[Ar6 h hp hn];simp only[ab];refine Ok.andThen (A:=λs=>s.2=Gn b p b.Ae.length ((groups b p).getD n 0).toNat) (B:=λ(_:Unit)=>False) ?_ (λs hs=>?_) (λ_ h=>h.elim)
 ·refine cQ (λs=>(0<=s.1/\s.1<=(b.Ae.length:Int))/\s.2=Gn b p s.1.toNat ((groups b p).getD n 0).toNat) (λs=>((b.Ae.length:Int)-s.1).toNat) _ _ ?_ ?_ ?_
  ·exact⟨by dsimp only;omega,rfl⟩
  ·dsimp only;omega
  ·rintro⟨i,s⟩ ⟨⟨g1,g2⟩,g3⟩;dsimp only at g1 g2 g3;unfold Ajo Aqh;dsimp only;have hsl:s.length<=i.toNat:=by rw[g3];exact E8 _ _
   refine c6 (λhq=>?_) (λhq=>cU ?_)
   ·simp only[dA]at hq;have e1:w64 (i+1)=i+1:=Az (by omega);have e2:(i+1).toNat=i.toNat+1:=by omega
    have e3:((i.toNat:Nat):Int)=i:=by omega
    rw[e1,uC h hp];simp only[ab,Aol];have hnext:Gn b p (i.toNat+1) ((groups b p).getD n 0).toNat=s++if(G2 b p (G7 b p i)==some (((groups b p).getD n 0).toNat:Int))=true then [i] else []:=by
     unfold Gn at g3 ⊢;rw[Gr,←g3,e3]
    have hskip:(G2 b p (G7 b p i)==some (((groups b p).getD n 0).toNat:Int))=false->Ok (some (.next (i+1,s)):Option (Ctl (Int×List Int) Unit)) (G_ (λs'=>((0<=s'.1/\s'.1<=(b.Ae.length:Int))/\s'.2=Gn b p s'.1.toNat ((groups b p).getD n 0).toNat)/\((b.Ae.length:Int)-s'.1).toNat<((b.Ae.length:Int)-i).toNat) (λs=>s.2=Gn b p b.Ae.length ((groups b p).getD n 0).toNat) (λ_=>False)):=by
     intro hf;refine c7 ⟨⟨by dsimp only;omega,?_⟩,by dsimp only;omega⟩;dsimp only;rw[e2,hnext,hf];simp
    cases hco:G7 b p i with
    |none=>
     refine Ok.bind (P:=λ_=>True) (c9 (λhg=>absurd hg.1 (by simp[Fh])) λ_=>trivial) λy _=>?_;refine c6 (λhq=>by simp[Fh]at hq) (λ_=>hskip (by rw[hco];rfl))
    | some a=>
     have ha:=Adh h hco;refine Ok.bind (P:=λy=>y=(Kb b p n).any (· == a)) (c9 (λ_=>Ok.pure rfl) λhn=>(hn ⟨rfl,trivial⟩).elim) λy hy=>?_;rw[Abk ha.1 ha.2]at hy;have hgr:(G2 b p (G7 b p i)==some (((groups b p).getD n 0).toNat:Int))=((groups b p).getD a.toNat 0==(groups b p).getD n 0):=by
      rw[hco,hg.2.2];rfl
     refine c6 (λhq=>?_) (λhq=>?_)
     ·simp only[Fh,bz]at hq;refine(cS (by simp;omega)).bind λw hw=>c7 ⟨⟨by dsimp only;omega,?_⟩,by dsimp only;omega⟩;dsimp only;rw[e2,hnext,hgr,←hy,hq,hw];rfl
     ·simp only[Fh,bz]at hq;exact hskip (by rw[hgr,←hy,hq])
   ·simp only[dC]at hq;dsimp only;rw[g3];have:i.toNat=b.Ae.length:=by omega
    rw[this]
 ·refine Ok.andThen (A:=λs=>s.2=Hl b p b.Ag.length ((groups b p).getD n 0).toNat) (B:=λ(_:Unit)=>False) ?_ (λt ht=>Ok.pure ?_) (λ_ h=>h.elim)
  ·refine cQ (λs=>(0<=s.1/\s.1<=(b.Ag.length:Int))/\s.2=Hl b p s.1.toNat ((groups b p).getD n 0).toNat) (λs=>((b.Ag.length:Int)-s.1).toNat) _ _ ?_ ?_ ?_
   ·exact⟨by dsimp only;omega,rfl⟩
   ·dsimp only;omega
   ·rintro⟨i,s⟩ ⟨⟨g1,g2⟩,g3⟩;dsimp only at g1 g2 g3;unfold Ajn Aqg;dsimp only;have hsl:s.length<=i.toNat:=by rw[g3];exact E8 _ _
    refine c6 (λhq=>?_) (λhq=>cU ?_)
    ·simp only[dA]at hq;have e1:w64 (i+1)=i+1:=Az (by omega);have e2:(i+1).toNat=i.toNat+1:=by omega
     have e3:((i.toNat:Nat):Int)=i:=by omega
     rw[e1,Ath h hp g1 hq];simp only[ab,Aol];have hnext:Hl b p (i.toNat+1) ((groups b p).getD n 0).toNat=s++if(G2 b p (Ff b p 3 i)==some (((groups b p).getD n 0).toNat:Int))=true then [i] else []:=by
      unfold Hl at g3 ⊢;rw[Gr,←g3,e3]
     have hskip:(G2 b p (Ff b p 3 i)==some (((groups b p).getD n 0).toNat:Int))=false->Ok (some (.next (i+1,s)):Option (Ctl (Int×List Int) Unit)) (G_ (λs'=>((0<=s'.1/\s'.1<=(b.Ag.length:Int))/\s'.2=Hl b p s'.1.toNat ((groups b p).getD n 0).toNat)/\((b.Ag.length:Int)-s'.1).toNat<((b.Ag.length:Int)-i).toNat) (λs=>s.2=Hl b p b.Ag.length ((groups b p).getD n 0).toNat) (λ_=>False)):=by
      intro hf;refine c7 ⟨⟨by dsimp only;omega,?_⟩,by dsimp only;omega⟩;dsimp only;rw[e2,hnext,hf];simp
     cases hco:Ff b p 3 i with
     |none=>
      refine Ok.bind (P:=λ_=>True) (c9 (λhg=>absurd hg.1 (by simp[Fh])) λ_=>trivial) λy _=>?_;refine c6 (λhq=>by simp[Fh]at hq) (λ_=>hskip (by rw[hco];rfl))
     | some a=>
      have ha:=Q8 h hco;refine Ok.bind (P:=λy=>y=(Kb b p n).any (· == a)) (c9 (λ_=>Ok.pure rfl) λhn=>(hn ⟨rfl,trivial⟩).elim) λy hy=>?_;rw[Abk ha.1 ha.2]at hy;have hgr:(G2 b p (Ff b p 3 i)==some (((groups b p).getD n 0).toNat:Int))=((groups b p).getD a.toNat 0==(groups b p).getD n 0):=by
       rw[hco,hg.2.2];rfl
      refine c6 (λhq=>?_) (λhq=>?_)
      ·simp only[Fh,bz]at hq;refine(cS (by simp;omega)).bind λw hw=>c7 ⟨⟨by dsimp only;omega,?_⟩,by dsimp only;omega⟩;dsimp only;rw[e2,hnext,hgr,←hy,hq,hw];rfl
      ·simp only[Fh,bz]at hq;exact hskip (by rw[hgr,←hy,hq])
    ·simp only[dC]at hq;dsimp only;rw[g3];have:i.toNat=b.Ag.length:=by omega
     rw[this]
  ·rw[hs,ht];unfold isl E9 Kb;rw[hg.2.2]
def H_(b:Aa)(p:Ad)(f:Nat):Bool:=(groups b p).getD f 0==(f:Int)
theorem K6(h:Ax b)(p:Ad)(hn:n<b.An.toNat):H_ b p ((groups b p).getD n 0).toNat=true:=by
 have hg:=J0 h p hn;unfold H_;rw[dD,hg.2.2];have hm:((groups b p).getD n 0).toNat<b.An.toNat:=by omega
 have hL:=jU h p;have hself:Hj (Dr b p) ((groups b p).getD n 0).toNat n:=by
  have hlab:∀(xs:List Nat)(s:List Int),s.length=b.An.toNat->Lab (Dr b p) s->Lab (Dr b p) (xs.foldl (λs _=>D_ (b.Ah.zip p.Ai) s) s):=by
   intro xs;induction xs with
   |nil=>intro s _ h;exact h
   |cons x xs ih=>
    intro s hl h2;refine ih _ (by rw[Gj];exact hl) (Rh _ s hl (λz hz=>⟨hz,λhk=>?_⟩) h2);have:=h.br z.1 (bP hz).1;unfold Si at this;omega
  refine hlab (List.range b.An.toNat) (Dg b.An.toNat) (by simp[Dg]) ?_ n ?_
  ·intro k hk;rw[Lq (by simpa[Dg]using hk)];exact .refl _ k
  ·have:=Ja b p;unfold groups at this;rw[this];exact hn
 exact(Yf h p hm hn).2 hself
theorem Atb(h:Ax b)(p:Ad)(hf:f<b.An.toNat):Jn (isl b p f)=H_ b p f:=by
 rw[ch];unfold Jn isl E9;simp only[be,dE,ne_eq,au];constructor
 ·intro e;have hne:(List.range b.An.toNat).filter (λi=>(groups b p).getD i 0==(f:Int))≠[]:=λe2=>e (by rw[e2];rfl);obtain⟨i,hi⟩:=List.exists_mem_of_ne_nil _ hne;obtain⟨h1,h2⟩:=az.1 hi;rw[dD]at h2;have:=K6 h p (aZ.1 h1);grind
 ·intro e e2;have hm:f∈(List.range b.An.toNat).filter (λi=>(groups b p).getD i 0==(f:Int)):=az.2 ⟨aZ.2 hf,e⟩;grind
def Lf(b:Aa)(p:Ad)(n:Nat):List Nat:=(List.range n).filter (H_ b p)
theorem I_(h:Ax b)(p:Ad):Cc b p=(Lf b p b.An.toNat).map (isl b p):=by
 unfold Cc Lf;rw[List.filter_map];congr 1;exact List.filter_congr λf hf=>Atb h p (aZ.1 hf)
theorem Anv(h:Ax b)(p:Ad)(hn:n<b.An.toNat):∃m:Nat,(Kb b p n)[0]? = some (m:Int)/\(m=n↔H_ b p n=true):=by
 have hg:=J0 h p hn;have hm:((groups b p).getD n 0).toNat<b.An.toNat:=by omega
 have hgg:=K6 h p hn;unfold H_ at hgg;rw[dD,hg.2.2]at hgg;have hfind:(List.range b.An.toNat).find? (λi=>(groups b p).getD i 0==(groups b p).getD n 0)=some ((groups b p).getD n 0).toNat:=by
  rw[List.find?_range_eq_some];refine⟨by rw[dD];exact hgg,aZ.2 hm,λj hj=>?_⟩;simp only[be,dE,ne_eq];intro e;have:=J0 h p (n:=j) (by omega);omega
 refine⟨((groups b p).getD n 0).toNat,?_,?_⟩
 ·unfold Kb;rw[aA,←List.head?_eq_getElem?,List.head?_filter,hfind];rfl
 ·unfold H_;rw[dD];omega
theorem Acb(h:Ax b)(hp:Aw b p):vA b p=some (Cc b p):=by
 have hbu:=h.buses;rw[I_ h];refine cY ?_;unfold vA;rw[Nc h hp];simp only[ab];refine c6 (λhc=>by simp at hc) (λ_=>?_);refine Ok.andThen (A:=λs=>s.2=(Lf b p b.An.toNat).map (isl b p)) (B:=λ(_:Unit)=>False) ?_ (λs hs=>Ok.pure hs) (λ_ h=>h.elim);refine cQ (λs=>(0<=s.1/\s.1<=b.An)/\s.2=(Lf b p s.1.toNat).map (isl b p)) (λs=>(b.An-s.1).toNat) _ _ ?_ ?_ ?_
 ·exact⟨by dsimp only;omega,rfl⟩
 ·dsimp only;omega
 ·rintro⟨i,s⟩ ⟨⟨g1,g2⟩,g3⟩;dsimp only at g1 g2 g3;unfold Ai3;dsimp only;refine c6 (λhq=>?_) (λhq=>cU ?_)
  ·simp only[dA]at hq;obtain⟨n,rfl⟩:∃n:Nat,i=(n:Int):=⟨i.toNat,by omega⟩;have hn:n<b.An.toNat:=by omega
   have e1:w64 ((n:Int)+1)=(n:Int)+1:=Az (by omega);have e2:((n:Int)+1).toNat=n+1:=by omega
   have hg:=J0 h p hn;obtain⟨m,hm,hmn⟩:=Anv h p hn;have hbuses:(isl b p ((groups b p).getD n 0).toNat).An=Kb b p n:=by
    unfold isl E9 Kb;rw[hg.2.2]
   rw[aI]at g3;have hsl:s.length<=n:=by
    rw[g3,au];exact ax (bf _ _) (by simp)
   have hnext:Lf b p (n+1)=Lf b p n++if H_ b p n=true then [n] else []:=by
    unfold Lf;rw[ce,bp];congr 1;cases hq:H_ b p n <;> simp[hq]
   rw[e1,Awu h hp hn];simp only[ab,hbuses];have hg0:getI (Kb b p n) 0=some (m:Int):=B1 (j:=0) hm;rw[hg0];simp only[ab];refine c6 (λhq=>?_) (λhq=>c7 ⟨⟨by dsimp only;omega,?_⟩,by dsimp only;omega⟩)
   ·simp only[dD]at hq;have hle:=hmn.1 (by omega);refine(cS (by simp;omega)).bind λw hw=>c7 ⟨⟨by dsimp only;omega,?_⟩,by dsimp only;omega⟩;dsimp only;have hgn:((groups b p).getD n 0).toNat=n:=by
     unfold H_ at hle;rw[dD]at hle;omega
    rw[e2,hnext,if_pos hle,hw,g3,bF,hgn];rfl
   ·simp only[dE,ne_eq]at hq;have hle:¬H_ b p n=true:=λe=>hq (by rw[hmn.2 e]);dsimp only;rw[e2,hnext,if_neg hle,aU,g3]
  ·simp only[dC]at hq;dsimp only;have:i.toNat=b.An.toNat:=by omega
   rw[g3,this]
theorem Agu(h:Ax b)(hp:Aw b p):vQ b p=some (⟨p.Ai,Fl b p,p.Ao,p.Al⟩,0):=by
 have hn:=hp.nso;refine cY ?_;unfold vQ;rw[Nc h hp];simp only[ab];refine c6 (λhc=>by simp at hc) (λ_=>?_);refine Ok.bind (P:=λy=>y=⟨p.Ai,Fl b p,p.Ao,p.Al⟩) ?_ λy hy=>Ok.pure (by rw[hy]);unfold Amq;rw[Axj h hp,Acb h hp];simp only[ab];refine Ok.andThen (A:=λs=>s=Fl b p) (B:=λ(_:Unit)=>False) ?_ (λs hs=>Ok.pure (by rw[hs])) (λ_ h=>h.elim);refine c8 (I:=λj s=>s=((Cc b p).take j).foldl (Dn p) p.Ae) rfl (λj x s hx hs=>?_) λs hs=>?_
 ·have hi:=Pq (af hx);have hl:s.length=p.Ae.length:=by rw[hs,Li]
  have hnext:((Cc b p).take (j+1)).foldl (Dn p) p.Ae=Dn p s x:=by rw[Bs hx,aY,←hs];rfl
  rw[hnext];unfold Aje;cases hsrc:x.Ae with
  |nil=>exact c7 (by unfold Dn;rw[hsrc])
  | cons m l=>
   have hm:=hi m (by rw[hsrc];exact ak);obtain⟨u,hu⟩:∃u,p.Ae[m.toNat]? = some u:=⟨_,aj (by omega)⟩;have hgu:getI p.Ae m=some u:=by have:=B1 hu;rwa [bA hm.1]at this
   have hd:p.Ae.getD m.toNat default=u:=by simp[List.getD,hu]
   have hf:Dn p s x=Fo u (m::l) s:=by unfold Dn;rw[hsrc];simp only[hd]
   rw[hf];have hin:∀k,k∈m::l->0<=k/\k<p.Ae.length:=λk hk=>by
    grind
   refine(c8 (I:=λk r=>r=Fo u ((m::l).take k) s) (A:=λr=>r=Fo u (m::l) s) (B:=λ(_:Unit)=>False) rfl (λk n r hk hr=>?_) λr hr=>by rw[hr,aP]).inner (λr hr=>c7 hr) (λ_ h=>h.elim);have hnk:=hin n (af hk);have hrl:r.length=p.Ae.length:=by rw[hr,Hp,hl]
   unfold Ajd;rw[hsrc,show getI (m::l) 0=some m from rfl];simp only[ab,hgu];refine(cR hnk.1 (by omega)).bind λv hv=>(cV hnk.1 (by omega)).bind λr1 e1=>?_;have hvg:r1[n.toNat]? = some (⟨v.State,v.Since,u.Ar,v.Phase⟩:Aj):=by rw[e1,bH (by omega)]
   refine Ok.bind (P:=λw=>w=(⟨v.State,v.Since,u.Ar,v.Phase⟩:Aj)) ((cR hnk.1 (by rw[e1];simp;omega)).mono λw hw=>by rw[hvg]at hw;cases hw;rfl) λw hw=>?_;refine(cV hnk.1 (by rw[e1];simp;omega)).bind λr2 e2=>c7 ?_;have hdv:r.getD n.toNat default=v:=by simp[List.getD,hv]
   rw[yE hk,←hr,hdv,e2,e1,hw,List.set_set];rfl
 ·rw[aP]at hs;exact hs
theorem Ar1(h:n<ss.length):ss.set n (ss.getD n default)=ss:=by
 apply bL;intro i;rw[aH];split
 ·rename_i e;subst e;simp[List.getD,List.getElem?_eq_getElem h]
 ·rfl
theorem yF{like:Aj}:∀(idx:List Int)(ss:List Aj),(∀i,i∈idx->i.toNat<ss.length/\Wx like (ss.getD i.toNat default)=ss.getD i.toNat default)->Fo like idx ss=ss
 | [],_,_=>rfl
 |i::idx,ss,h=>by
  obtain⟨h1,h2⟩:=h i ak;show Fo like idx (ss.set i.toNat (Wx like (ss.getD i.toNat default)))=ss;rw[h2,Ar1 h1];exact yF idx ss λj hj=>h j (al _ hj)
theorem Xb{y:Aj}:(ss.set m y).getD n default=if m=n/\m<ss.length then y else ss.getD n default:=by
 unfold List.getD;rw[aH];by_cases e:m=n
 ·subst e;by_cases hl:m<ss.length
  ·simp[hl]
  ·simp[hl]
 ·simp[e]
theorem X5(like:Aj):∀(idx:List Int)(ss:List Aj)(n:Nat),((Fo like idx ss).getD n default).State=(ss.getD n default).State
 | [],_,_=>rfl
 |i::idx,ss,n=>by
  show ((Fo like idx _).getD n default).State=_;rw[X5 like idx,Xb];split
  ·rename_i e;rw[←e.1];rfl
  ·rfl
theorem Wy{like:Aj}:∀(idx:List Int)(ss:List Aj){n:Nat},(∀i,i∈idx->i.toNat≠n)->(Fo like idx ss).getD n default=ss.getD n default
 | [],_,_,_=>rfl
 |i::idx,ss,n,h=>by
  show (Fo like idx _).getD n default=_;rw[Wy idx _ (λj hj=>h j (al _ hj)),Xb,if_neg (λe=>h i ak e.1)]
theorem Ahi{like:Aj}:∀(idx:List Int)(ss:List Aj){n:Nat},n<ss.length->(∃i,i∈idx/\i.toNat=n)->((Fo like idx ss).getD n default).Ar=like.Ar/\((Fo like idx ss).getD n default).Phase=like.Phase
 | [],_,_,_,h=>by obtain⟨_,h,_⟩:=h;cases h
 | i::idx,ss,n,hn,h=>by
  by_cases hr:∃j,j∈idx/\j.toNat=n
  ·exact Ahi idx _ (by simpa using hn) hr
  ·have hi:i.toNat=n:=by
    obtain⟨j,hj,e⟩:=h;rcases ah.1 hj with rfl|hj
    ·exact e
    ·exact absurd ⟨j,hj,e⟩ hr
   have:(Fo like (i::idx) ss).getD n default=Wx like (ss.getD i.toNat default):=by
    show (Fo like idx _).getD n default=_;rw[Wy idx _ (λj hj e=>hr ⟨j,hj,e⟩),Xb,if_pos ⟨hi,by omega⟩]
   rw[this];exact⟨rfl,rfl⟩
def Agf(b:Aa)(p:Ad):Prop:=∀x,x∈Cc b p->∀i j,i∈x.Ae->j∈x.Ae ->
 (p.Ae.getD i.toNat default).Ar=(p.Ae.getD j.toNat default).Ar/\(p.Ae.getD i.toNat default).Phase=(p.Ae.getD j.toNat default).Phase
theorem Acl(hn:p.Ae.length=b.Ae.length)(h:Agf b p):Fl b p=p.Ae:=by
 have key:∀l:List Aq,(∀x,x∈l->x∈Cc b p)->l.foldl (Dn p) p.Ae=p.Ae:=by
  intro l;induction l with
  |nil=>intro _;rfl
  | cons x l ih=>
   intro hl;have hx:=hl x ak;have hst:Dn p p.Ae x=p.Ae:=by
    unfold Dn;split
    ·rfl
    ·rename_i i r e;refine yF _ _ λj hj=>?_;have hj2:=Pq hx j hj;have ha:=h x hx i j (by rw[e];exact ak) hj;refine⟨by omega,?_⟩;unfold Wx;rw[ha.1,ha.2]
   rw[bu,hst];exact ih λy hy=>hl y (al _ hy)
 exact key _ λ_ hx=>hx
theorem Agt(p:Ad)(s:List Aj)(x:Aq)(n:Nat):((Dn p s x).getD n default).State=(s.getD n default).State:=by
 unfold Dn;split
 ·rfl
 ·exact X5 _ _ _ _
theorem Aav(b:Aa)(p:Ad)(n:Nat):((Fl b p).getD n default).State=(p.Ae.getD n default).State:=by
 have key:∀(l:List Aq)(s:List Aj),((l.foldl (Dn p) s).getD n default).State=(s.getD n default).State:=by
  intro l;induction l with
  |nil=>intro s;rfl
  |cons x l ih=>intro s;rw[bu,ih,Agt]
 exact key _ _
theorem Aau{q:Ad}(hc:q.Ai=p.Ai)(hl:q.Ae.length=p.Ae.length)(hs:∀n:Nat,(q.Ae.getD n default).State=(p.Ae.getD n default).State):Cc b q=Cc b p:=by
 have hled:∀k i,Ff b q k i=Ff b p k i:=λk i=>by unfold Ff;rw[hc]
 have hgr:groups b q=groups b p:=by unfold groups;rw[hc]
 have hcon:∀i,G7 b q i=G7 b p i:=λi=>by unfold G7;rw[hled,hl,hs]
 have hgo:∀o,G2 b q o=G2 b p o:=λo=>by unfold G2;rw[hgr]
 have hisl:isl b q=isl b p:=by
  funext f;unfold isl E9 Gn Hl;simp only[hgr,hled,hcon,hgo]
 unfold Cc;rw[hisl]
theorem qA:i∈(isl b p f).Ae↔∃k:Nat,i=(k:Int)/\k<b.Ae.length/\G2 b p (G7 b p (k:Int))=some (f:Int):=by
 constructor
 ·intro h;obtain⟨k,hk,e⟩:=ao.1 h;obtain⟨h1,h2⟩:=az.1 hk;exact⟨k,e.symm,aZ.1 h1,by rwa [dD]at h2⟩
 ·rintro⟨k,e,h1,h2⟩;exact ao.2 ⟨k,az.2 ⟨aZ.2 h1,by rw[dD];exact h2⟩,e.symm⟩
theorem Arz{g:Nat}(hfg:f≠g){j:Int}(hi:i∈(isl b p f).Ae)(hj:j∈(isl b p g).Ae):i.toNat≠j.toNat:=by
 obtain⟨k,rfl,_,e1⟩:=qA.1 hi;obtain⟨m,rfl,_,e2⟩:=qA.1 hj;rw[aI,aI];intro e;subst e;rw[e1]at e2;have:=ba e2;exact hfg (by omega)
def Aa3(b:Aa)(p:Ad)(f:Nat):Aj:=p.Ae.getD ((isl b p f).Ae.headD 0).toNat default
theorem Acn{b:Aa}{p:Ad}{n:Nat}:∀(fs:List Nat)(s:List Aj),(∀f,f∈fs->∀i,i∈(isl b p f).Ae->i.toNat≠n)->((fs.map (isl b p)).foldl (Dn p) s).getD n default=s.getD n default
 | [],_,_=>rfl
 |f::fs,s,h=>by
  rw[bt,bu,Acn fs _ (λg hg=>h g (al _ hg))];have hf:=h f ak;unfold Dn;split
  ·rfl
  ·exact Wy _ _ hf
theorem qU{b:Aa}{p:Ad}(hn:p.Ae.length=b.Ae.length):∀(fs:List Nat)(s:List Aj),s.length=p.Ae.length->fs.Nodup->∀f,f∈fs->∀i,i∈(isl b p f).Ae ->
  (((fs.map (isl b p)).foldl (Dn p) s).getD i.toNat default).Ar=(Aa3 b p f).Ar/\(((fs.map (isl b p)).foldl (Dn p) s).getD i.toNat default).Phase=(Aa3 b p f).Phase
 | [],_,_,_,_,h,_,_=>by cases h
 | g::fs,s,hs,hnd,f,hf,i,hi=>by
  obtain⟨h1,h2⟩:=List.nodup_cons.1 hnd;rw[bt,bu];by_cases e:f=g
  ·subst e;rw[Acn fs _ (λk hk j hj=>Arz (λe=>h1 (by rw[←e];exact hk)) hj hi)];obtain⟨k,rfl,hk,_⟩:=qA.1 hi;unfold Dn;split
   ·rename_i e;rw[e]at hi;cases hi
   ·rename_i m r e;have:Aa3 b p f=p.Ae.getD m.toNat default:=by unfold Aa3;rw[e];rfl
    rw[this];exact Ahi _ _ (by rw[aI];omega) ⟨_,hi,rfl⟩
  ·rcases ah.1 hf with h|hf
   ·exact absurd h e
   ·exact qU hn fs _ (by rw[Nq];exact hs) h2 f hf i hi
theorem qS(h:Ax b)(hn:p.Ae.length=b.Ae.length):Agf b ⟨p.Ai,Fl b p,p.Ao,p.Al⟩:=by
 have hisl:Cc b ⟨p.Ai,Fl b p,p.Ao,p.Al⟩=Cc b p:=Aau rfl (Im b p) (Aav b p);intro x hx i j hi hj;rw[hisl,I_ h]at hx;obtain⟨f,hf,rfl⟩:=ao.1 hx;have hnd:(Lf b p b.An.toNat).Nodup:=(List.nodup_range).sublist List.filter_sublist;have hfl:Fl b p=((Lf b p b.An.toNat).map (isl b p)).foldl (Dn p) p.Ae:=by
  rw[←I_ h];rfl
 have e1:=qU hn _ p.Ae rfl hnd f hf i hi;have e2:=qU hn _ p.Ae rfl hnd f hf j hj;dsimp only;rw[hfl];exact⟨e1.1.trans e2.1.symm,e1.2.trans e2.2.symm⟩
def Q7(b:Aa)(p:Ad)(n:Nat):Bool:=decide (((isl b p ((groups b p).getD n 0).toNat).Ae.length:Int)>0)
theorem Aqm(hn:n<b.An.toNat):(isl b p f).An.any ((n:Int) == ·)=((groups b p).getD n 0==(f:Int)):=by
 rw[ch,List.any_eq_true];constructor
 ·rintro⟨x,hx,e⟩;rw[dD]at e;subst e;obtain⟨i,hi,e⟩:=ao.1 hx;have:i=n:=by omega
  subst this;exact(az.1 hi).2
 ·intro e;exact⟨n,ao.2 ⟨n,az.2 ⟨aZ.2 hn,e⟩,rfl⟩,by simp⟩
theorem of_eq(h:Ax b)(hp:Aw b p)(hn:n<b.An.toNat):Js b p (n:Int)=some (isl b p ((groups b p).getD n 0).toNat,true):=by
 have hg:=J0 h p hn;have hbu:=h.buses;unfold Js;rw[Kk h hp,I_ h];simp only[ab];have key:∀(fs:List Nat)(k:Nat),foldI (Qj (n:Int)) (fs.map (isl b p)) k ()=if((groups b p).getD n 0).toNat∈fs then some (.ret (isl b p ((groups b p).getD n 0).toNat,true)) else some (.next ()):=by
  intro fs;induction fs with
  |nil=>intro k;rfl
  | cons f fs ih=>
   intro k;have hbl:(isl b p f).An.length<=9223372036854775807:=by
    have:=E8 (λi=>(groups b p).getD i 0==(f:Int)) b.An.toNat;simp only[isl,E9];omega
   simp only[bt,foldI,Qj,Ga _ _ hbl,ab,Aqm hn];by_cases e:(groups b p).getD n 0=(f:Int)
   ·have e2:((groups b p).getD n 0).toNat=f:=by omega
    rw[dD.2 e,e2,if_pos ak];rfl
   ·have e2:((groups b p).getD n 0).toNat≠f:=by omega
    rw[dE.2 e];simp only[cond_false];rw[ih];by_cases hm:((groups b p).getD n 0).toNat∈fs
    ·rw[if_pos hm,if_pos (al _ hm)]
    ·rw[if_neg hm,if_neg (λhh=>(ah.1 hh).elim e2 hm)]
 have hm:((groups b p).getD n 0).toNat∈Lf b p b.An.toNat:=az.2 ⟨aZ.2 (by omega),K6 h p hn⟩;rw[key,if_pos hm];rfl
theorem Ahv(h:Ax b)(hp:Aw b p)(hn:n<b.An.toNat):Af3 b p (n:Int)=some (Q7 b p n):=by
 unfold Af3;rw[of_eq h hp hn];simp[Q7]
variable{s:Af}
theorem Ahc(h:Ax b)(hs:A1 s):Ok (Aa8 s b) λy=>(Aw b y.1/\Agf b y.1/\y.1.Al.length<=4)/\A1 y.2:=by
 unfold Aa8;refine(Aul h hs).bind λy hy=>?_;rw[Agu h hy.1.1];exact Ok.pure ⟨⟨J9 hy.1.1 (Im b _) (Rk hy.1.1),qS h hy.1.1.nso,hy.1.2⟩,hy.2⟩
theorem Aeg(h:Ax b)(hs:A1 s):Ok (Ze s b) λy=>((∀t,Qa b t y.1)/\(5<=y.1.Time/\y.1.Time<=20)/\y.1.Be=[]/\y.1.Power.Al.length<=4)/\A1 y.2:=by
 have hbu:=h.buses;unfold Ze;refine(Eh hs 5 20 (by omega) (by omega) (by omega)).bind λy hy=>(Ahc h hy.1).bind λz hz=>?_;refine Ok.andThen (A:=λs=>A1 ⟨s.2.1,s.2.2.1⟩/\s.2.2.2.length=b.An.toNat/\∀x,x∈s.2.2.2->(-1<=x.High/\x.High<=4) /\ -1<=x.Low/\x.Low<=4) (B:=λ(_:Unit)=>False) ?_ (λs hs=>?_) (λ_ h=>h.elim)
 ·refine cQ (λs=>(0<=s.1/\s.1<=b.An)/\A1 ⟨s.2.1,s.2.2.1⟩/\(s.2.2.2.length:Int)=s.1/\∀x,x∈s.2.2.2->(-1<=x.High/\x.High<=4) /\ -1<=x.Low/\x.Low<=4) (λs=>(b.An-s.1).toNat) _ _ ?_ ?_ ?_
  ·exact⟨by dsimp only;omega,hz.2,by simp,λx hx=>by cases hx⟩
  ·dsimp only;omega
  ·rintro⟨i,L,a,l⟩ ⟨⟨g1,g2⟩,g3,g4,g5⟩;dsimp only at g1 g2 g3 g4 g5;unfold Aet;dsimp only;refine c6 (λhq=>?_) (λhq=>cU ?_)
   ·simp only[dA]at hq;have e1:w64 (i+1)=i+1:=Az (by omega);rw[e1];refine(Eh g3 (-1) 4 (by omega) (by omega) (by omega)).bind λu hu=>(Eh hu.1 (-1) 4 (by omega) (by omega) (by omega)).bind λv hv=>(cS (by simp;omega)).bind λw hw=>c7 ?_;refine⟨⟨by dsimp only;omega,hv.1,by rw[hw];simp;omega,λx hx=>?_⟩,by dsimp only;omega⟩;rw[hw]at hx;rcases an.1 hx with hx|hx
    ·exact g5 x hx
    ·simp only[aL]at hx;subst hx;exact⟨hu.2,hv.2⟩
   ·simp only[dC]at hq;exact⟨g3,by dsimp only;omega,g5⟩
 ·refine Ok.pure ⟨⟨λt=>?_,hy.2,rfl,hz.1.2.2⟩,hs.1⟩;exact {
   st:=hz.1.1
   fol:=Acl hz.1.1.nso hz.1.2.1
   time:=by have:=hy.2;dsimp only;omega
   nro:=hs.2.1
   ros:=λx hx=>by
    have:=hs.2.2 x hx;have:=hy.2;unfold Aa5;dsimp only;omega}
def R6(b:Aa)(p:Ad)(i:Nat):Bool:=match Ff b p 3 (i:Int) with
 |none=>false
 |some a=>(Q7 b p a.toNat && !brk p.Al 4 (i:Int)) && !decide (p.Ao.getD i 0<(b.Ag.getD i default).Least)
def svB(b:Aa)(p:Ad):Nat->Nat->Bool
 |0,_=>false
 |k+1,i=>R6 b p i&&(b.Ag.getD i default).Needs.all λn=>svB b p k n.toNat
theorem An7(f:Int->Bool)(l:List Int)(k:Nat)(g:Nat->Int->Unit->Option (Ctl Unit ρ))(r:Nat->ρ)(hg:∀i x,x∈l->g i x ()=bif !f x then some (.ret (r i)) else some (.next ())):(l.all f=true/\foldI g l k ()=some (.next ()))\/(l.all f=false/\∃j,k<=j/\j<k+l.length/\foldI g l k ()=some (.ret (r j))):=by
 induction l generalizing k with
 |nil=>exact .inl ⟨rfl,rfl⟩
 | cons x l ih=>
  simp only[foldI,hg k x ak,List.all_cons];cases f x with
  |true=>
   simp only[aR,cond_false,bz];rcases ih (k+1) (λi y hy=>hg i y (al _ hy)) with h|⟨h,j,h1,h2,h3⟩
   ·exact .inl h
   ·exact .inr ⟨h,j,by omega,by simp only[aS];omega,h3⟩
  |false=>exact .inr ⟨rfl,k,by omega,by simp only[aS];omega,rfl⟩
variable{i:Nat}
theorem Gb(h:i<b.Ag.length):b.Ag[i]? = some (b.Ag.getD i default):=by
 rw[aj h];simp[List.getD,List.getElem?_eq_getElem h]
theorem Po(h:i<p.Ao.length):p.Ao[i]? = some (p.Ao.getD i 0):=by
 rw[aj h];simp[List.getD,List.getElem?_eq_getElem h]
variable{l:List Int}
theorem Aww{rec:Aa->Ad->Int->Option Bool}{f:Int->Bool}(hl:l.length<=1000)(hr:∀x,x∈l->rec b p x=some (f x)):Z1 rec l b p=some (!l.all f,b,p):=by
 unfold Z1 Afn;have key:=An7 f l 0 (U9 b p rec) (λi=>(cnt 0 i,b,p)) (λi x hx=>by
  unfold U9 Af1;rw[hr x hx];rfl)
 rcases key with⟨h1,h2⟩|⟨h1,j,_,hj,h2⟩
 ·rw[h2,h1];rfl
 ·have hc:cnt 0 j=(j:Int):=Cv (by omega);rw[h2,h1,hc];show some (decide ((j:Int)>=0),b,p)=_;rw[dF (by omega)];rfl
theorem Ar2(h:Ax b)(hp:Aw b p):∀(k i:Nat),i<k->i<b.Ag.length->Z8 k b p (i:Int)=some (svB b p k i):=by
 intro k;induction k with
 |zero=>intro i hi;omega
 | succ k ih=>
  intro i hi hc;have hnl:=hp.nli;have hbl:p.Al.length<=1000:=by have:=hp.brk.len;omega
  have hcg:=Gb hc;have hlg:=Po (p:=p) (i:=i) (by omega);have hco:=h.co i _ hcg;refine cY ?_;show Ok (Z9 (Z8 k) b p (i:Int)) _;unfold Z9 Af4;rw[E4 h hp,Acw h hp.ncl,B1 hlg,B1 hcg];simp only[ab,dJ,cond_false];cases hl:Ff b p 3 (i:Int) with
  |none=>
   refine Ok.bind (P:=λ_=>True) (c9 (λhg=>absurd hg.1 (by simp[Fh])) λ_=>trivial) λy3 _=>?_;refine Ok.bind (P:=λ_=>True) (c9 (λhg=>absurd hg.1 (by simp[Fh])) λ_=>trivial) λy5 _=>?_;refine Ok.bind (P:=λ_=>True) (c9 (λhg=>absurd hg.1 (by simp[Fh])) λ_=>trivial) λy7 _=>?_;refine Ok.bind (P:=λ_=>True) (c9 (λhg=>absurd hg.1 (by simp[Fh])) λ_=>trivial) λy9 _=>?_;refine c6 (λ_=>Ok.pure ?_) (λhq=>by simp[P5,Fh]at hq);simp[svB,R6,hl]
  | some a=>
   have ha:=Q8 h hl;obtain⟨m,rfl⟩:∃m:Nat,a=(m:Int):=⟨a.toNat,by omega⟩;have hlive:=Ahv h hp (n:=m) (by omega);simp only[Fh,hlive,Gv hbl];refine Ok.bind (P:=λy=>y=Q7 b p m) (c9 (λ_=>Ok.pure rfl) λhn=>(hn ⟨rfl,trivial⟩).elim) λy3 h3=>?_;subst h3;have hbase:R6 b p i=((Q7 b p m && !brk p.Al 4 (i:Int)) && !decide (p.Ao.getD i 0<(b.Ag.getD i default).Least)):=by
    unfold R6;rw[hl];simp
   cases hlv:Q7 b p m with
   |false=>
    refine Ok.bind (P:=λ_=>True) (d6 (λ_=>da rfl) λ_=>trivial) λy5 _=>?_;refine Ok.bind (P:=λ_=>True) (d6 (λ_=>da rfl) λ_=>trivial) λy7 _=>?_;refine Ok.bind (P:=λ_=>True) (d6 (λ_=>da rfl) λ_=>trivial) λy9 _=>?_;refine c6 (λ_=>Ok.pure ?_) (λhq=>by simp[P5]at hq);simp[svB,hbase,hlv]
   | true=>
    refine Ok.bind (P:=λy=>y=brk p.Al 4 (i:Int)) (c9 (λ_=>Ok.pure rfl) λhn=>(hn ⟨rfl,trivial⟩).elim) λy5 h5=>?_;subst h5;cases hbr:brk p.Al 4 (i:Int) with
    |true=>
     refine Ok.bind (P:=λ_=>True) (d6 (λ_=>da rfl) λ_=>trivial) λy7 _=>?_;refine Ok.bind (P:=λ_=>True) (d6 (λ_=>da rfl) λ_=>trivial) λy9 _=>?_;refine c6 (λ_=>Ok.pure ?_) (λhq=>by simp[P5]at hq);simp[svB,hbase,hbr]
    | false=>
     refine Ok.bind (P:=λy=>y=p.Ao.getD i 0) (c9 (λ_=>Ok.pure rfl) λhn=>(hn ⟨rfl,trivial⟩).elim) λy7 h7=>?_;refine Ok.bind (P:=λy=>y=b.Ag.getD i default) (c9 (λ_=>Ok.pure rfl) λhn=>(hn ⟨rfl,trivial⟩).elim) λy9 h9=>?_;subst h7;subst h9;refine c6 (λhq=>Ok.pure ?_) (λhq=>?_)
     ·simp only[P5,aR,aX]at hq;show false=(R6 b p i&&_);rw[hbase,hq];simp
     ·simp only[P5,aR,aX]at hq;have hb1:R6 b p i=true:=by rw[hbase,hlv,hbr,hq];rfl
      have hsv:svB b p (k+1) i=(b.Ag.getD i default).Needs.all λn=>svB b p k n.toNat:=by
       show (R6 b p i&&_)=_;rw[hb1,bz]
      rw[Aww (f:=λn=>svB b p k n.toNat) (by have:=hco.2.2.2.2.1;omega) (λx hx=>?_)]
      ·rw[hsv];refine Ok.pure ?_;simp
      ·have hx2:=hco.2.2.2.2.2.1 x hx;have hih:=ih x.toNat (by omega) (by omega)
       rwa [bA hx2.1]at hih
theorem Aj0(h:Ax b)(hp:Aw b p)(hi:i<b.Ag.length):Au9 b p (i:Int)=some (svB b p 1000 i):=by
 have:=h.col;exact Ar2 h hp 1000 i (by omega) hi
variable{n:Int}
theorem Aaz{m:Int}(h0:0<=m)(h:m<=n):m*m<=n*n:=Int.mul_le_mul h h h0 (by omega)
theorem Awl{x:Int}(h0:0<=x)(h1:x<=1000000000000000000):Ok (Amr x) λy=>y.2=0/\0<=y.1/\y.1*y.1<=x/\x<(y.1+1)*(y.1+1):=by
 unfold Amr;refine c6 (λhc=>?_) (λ_=>?_)
 ·simp only[Ap7,ay,dA]at hc;omega
 refine Ok.andThen (A:=λs=>0<=s.1/\s.1*s.1<=x/\x<(s.1+1)*(s.1+1)) (B:=λ(_:Unit)=>False) ?_ (λs hs=>Ok.pure ⟨rfl,hs⟩) (λ_ h=>h.elim);refine cQ (λs=>(0<=s.1/\s.1<=s.2/\s.2<=1000000000)/\s.1*s.1<=x/\x<(s.2+1)*(s.2+1)) (λs=>(s.2-s.1).toNat) _ _ ?_ ?_ ?_
 ·refine⟨by dsimp only;omega,by dsimp only;omega,by dsimp only;omega⟩
 ·dsimp only;omega
 ·rintro⟨l,u⟩ ⟨⟨g1,g2,g3⟩,g4,g5⟩;dsimp only at g1 g2 g3 g4 g5;unfold Ajf Ap6;dsimp only;refine c6 (λhq=>?_) (λhq=>cU ?_)
  ·simp only[dA]at hq;obtain⟨m,hm⟩:∃m,m=(l+u+1) / 2:=⟨_,rfl⟩;have e1:w64 (Int.tdiv (w64 (w64 (l+u)+1)) 2)=m:=by
    rw[Az (n:=l+u) (by omega),Az (n:=l+u+1) (by omega),cu (by omega),←hm,Az (by omega)]
   have hmm:m*m<=1000000000*1000000000:=Aaz (by omega) (by omega);have hm0:0<=m*m:=Int.mul_nonneg (by omega) (by omega);rw[e1,Az (n:=m*m) (by omega)];refine c6 (λhc=>?_) (λhc=>?_)
   ·simp only[dA]at hc;exact c7 ⟨⟨by dsimp only;omega,hc,g5⟩,by dsimp only;omega⟩
   ·simp only[dC]at hc;rw[Az (n:=m-1) (by omega)];refine c7 ⟨⟨by dsimp only;omega,g4,?_⟩,by dsimp only;omega⟩;dsimp only;have:m-1+1=m:=by omega
    rw[this];omega
  ·simp only[dC]at hq;have:l=u:=by omega
   subst this;exact⟨g1,g4,g5⟩
theorem Atd(h0:0<=n)(h1:n<=1000000000000000000):(bif decide ((Int.tmod (-n) 1000)<0)then some (w64 ((w64 (Int.tdiv (-n) 1000))-1)) else some (w64 (Int.tdiv (-n) 1000)):Option Int)=some (-((n+999) / 1000)):=by
 have e1:Int.tmod (-n) 1000 = -(n % 1000):=by rw[Int.neg_tmod,Int.tmod_eq_emod_of_nonneg h0]
 have e2:Int.tdiv (-n) 1000 = -(n / 1000):=by rw[Int.neg_tdiv,cu h0]
 rw[e1,e2,Az (n:=-(n / 1000)) (by omega)];by_cases h:-(n % 1000)<0
 ·rw[dF h,cond_true,Az (by omega)];congr 1;omega
 ·rw[dG h,cond_false];congr 1;omega
theorem A23(h0:0<=n)(h1:n<=1000000000000000000):Amg n 1000=some ((n+999) / 1000,0):=by
 unfold Amg Afi Auy Uz;have e:Xm n 1000=false:=by
  rw[cy];intro e;simp[Xm]at e;omega
 have e0:w64 (0-n) = -n:=by rw[Az (by omega)];omega
 have en:nzI (1000:Int)=some ():=rfl;rw[e,e0,en];simp only[cond_false,ab];rw[Atd h0 h1];simp only[ab];rw[Az (by omega)];congr 2;omega
def Wc(x:Cd):Prop:=∃f,f∈([0,450,800,1350,1800,2600,3500]:List Int)/\∃v,v∈([0,100,300,900,1799]:List Int)/\x=⟨f,(f+v) % 3600⟩
theorem A2z(hs:A1 s):Ok (Aml s) λy=>Wc y.1/\A1 y.2:=by
 unfold Aml;refine(Ct hs _ (by simp) (by simp)).bind λu hu=>(Ct hu.1 _ (by simp) (by simp)).bind λv hv=>Ok.pure ⟨⟨u.1,hu.2,v.1,hv.2,?_⟩,hv.1⟩;have h1:u.1=0\/u.1=450\/u.1=800\/u.1=1350\/u.1=1800\/u.1=2600\/u.1=3500:=by simpa using hu.2
 have h2:v.1=0\/v.1=100\/v.1=300\/v.1=900\/v.1=1799:=by simpa using hv.2
 rcases h1 with e|e|e|e|e|e|e <;> rcases h2 with e2|e2|e2|e2|e2 <;> rw[e,e2] <;> rfl
theorem Aqq{x:Cd}(h:Wc x):Xx x=true:=by
 obtain⟨f,hf,v,hv,rfl⟩:=h;have h1:f=0\/f=450\/f=800\/f=1350\/f=1800\/f=2600\/f=3500:=by simpa using hf
 have h2:v=0\/v=100\/v=300\/v=900\/v=1799:=by simpa using hv
 rcases h1 with e|e|e|e|e|e|e <;> rcases h2 with e2|e2|e2|e2|e2 <;> rw[e,e2] <;> rfl
structure Gx(x:Ay):Prop where
 kind:1<=x.Kind/\x.Kind<=3
 station:0<=x.Station/\x.Station<=1
 max:0<=x.Max/\x.Max<=40
 rate:0<=x.Rate/\x.Rate<=50
 cost:1<=x.Cost/\x.Cost<=100
 arcs:x.Cx.length<=4
 arc:∀a,a∈x.Cx->Wc a
theorem Ahb(hs:A1 s):Ok (Amz s) λy=>Gx y.1/\A1 y.2:=by
 unfold Amz;refine(Eh hs 1 3 (by omega) (by omega) (by omega)).bind λk hk=>(C9 hk.1 2 (by omega) (by omega)).bind λst hst=>(Ct hst.1 _ (by simp) (by simp)).bind λm hm=>(Ct hm.1 _ (by simp) (by simp)).bind λr hr=>(Ct hr.1 _ (by simp) (by simp)).bind λc hc=>(C9 hc.1 3 (by omega) (by omega)).bind λn hn=>?_;have h1:m.1=0\/m.1=1\/m.1=7\/m.1=20\/m.1=40:=by simpa using hm.2
 have h2:r.1=0\/r.1=1\/r.1=5\/r.1=50:=by simpa using hr.2
 have h3:c.1=1\/c.1=2\/c.1=3\/c.1=100:=by simpa using hc.2
 refine Ok.andThen (A:=λs=>A1 ⟨s.2.1,s.2.2.1⟩/\s.2.2.2.length<=4/\∀a,a∈s.2.2.2->Wc a) (B:=λ(_:Unit)=>False) ?_ (λs hs=>Ok.pure ⟨⟨hk.2,by dsimp only;omega,by dsimp only;omega,by dsimp only;omega,by dsimp only;omega,hs.2.1,hs.2.2⟩,hs.1⟩) (λ_ h=>h.elim);refine cQ (λs=>(0<=s.1/\s.1+(s.2.2.2.length:Int)<=2)/\A1 ⟨s.2.1,s.2.2.1⟩/\∀a,a∈s.2.2.2->Wc a) (λs=>s.1.toNat) _ _ ?_ ?_ ?_
 ·exact⟨⟨by dsimp only;omega,by simp;omega⟩,hn.1,λa ha=>by cases ha⟩
 ·dsimp only;omega
 ·rintro⟨i,L,a,l⟩ ⟨⟨g1,g2⟩,g3,g4⟩;dsimp only at g1 g2 g3 g4;unfold Ajl;dsimp only;refine c6 (λhq=>?_) (λ_=>cU ⟨g3,by dsimp only;omega,g4⟩);simp only[dA]at hq;have e1:w64 (i-1)=i-1:=Az (by omega);rw[e1];refine(A2z g3).bind λu hu=>(cS (by simp;omega)).bind λw hw=>c7 ⟨⟨⟨by dsimp only;omega,by rw[hw];simp;omega⟩,hu.2,λx hx=>?_⟩,by dsimp only;omega⟩;rw[hw]at hx;rcases an.1 hx with hx|hx
  ·exact g4 x hx
  ·simp only[aL]at hx;subst hx;exact hu.1
theorem Axs{l:List Cd}(h:∀a,a∈l->Wc a):Zy l=some false:=by
 unfold Zy Afk;rw[Du l 0 λj a ha=>?_]
 ·rfl
 ·unfold zX Amh;rw[Aqq (h a (af ha))];rfl
variable{x:Ay}
theorem Lb(h:Gx x):Sd x=some true:=by
 obtain⟨h1,h2,h3,h4,h5,h6,h7⟩:=h;unfold Sd;have e:((((((Dm x.Kind 1 3)&&(Dm x.Station 0 1))&&(Dm x.Max 0 5000))&&(Dm x.Rate 0 5000))&&(Dm x.Cost 1 100))&&(decide ((x.Cx.length:Int)<=4)))=true:=by
  unfold Dm;simp only[ae,dA];omega
 rw[e,Axs h7];rfl
structure I6(x:B3):Prop where
 bow:0<=x.Bow/\x.Bow<=60
 stern:1<=x.Stern/\x.Stern<=40
 len:x.A3.length<=8
 thr:∀t,t∈x.A3->Gx t
theorem Auj(hs:A1 s)(h0:0<=n/\n<=8):Ok (F83 s n) λy=>(I6 y.1/\(y.1.A3.length:Int)<=n)/\A1 y.2:=by
 unfold F83;rw[Az (by omega)];refine(Ct hs _ (by simp) (by simp)).bind λu hu=>(Ct hu.1 _ (by simp) (by simp)).bind λv hv=>(C9 hv.1 (n+1) (by omega) (by omega)).bind λk hn=>?_;have h1:u.1=0\/u.1=1\/u.1=30\/u.1=60:=by simpa using hu.2
 have h2:v.1=1\/v.1=25\/v.1=40:=by simpa using hv.2
 refine Ok.andThen (A:=λs=>A1 ⟨s.2.1,s.2.2.1⟩/\(s.2.2.2.length:Int)<=n/\∀a,a∈s.2.2.2->Gx a) (B:=λ(_:Unit)=>False) ?_ (λs hs=>Ok.pure ⟨⟨⟨by dsimp only;omega,by dsimp only;omega,by have:=hs.2.1;dsimp only;omega,hs.2.2⟩,hs.2.1⟩,hs.1⟩) (λ_ h=>h.elim);refine cQ (λs=>(0<=s.1/\s.1+(s.2.2.2.length:Int)<=n)/\A1 ⟨s.2.1,s.2.2.1⟩/\∀a,a∈s.2.2.2->Gx a) (λs=>s.1.toNat) _ _ ?_ ?_ ?_
 ·have:=hn.2;exact⟨⟨by dsimp only;omega,by simp;omega⟩,hn.1,λa ha=>by cases ha⟩
 ·dsimp only;omega
 ·rintro⟨i,L,a,l⟩ ⟨⟨g1,g2⟩,g3,g4⟩;dsimp only at g1 g2 g3 g4;unfold Aq0;dsimp only;refine c6 (λhq=>?_) (λ_=>cU ⟨g3,by dsimp only;omega,g4⟩);simp only[dA]at hq;have e1:w64 (i-1)=i-1:=Az (by omega);rw[e1];refine(Ahb g3).bind λu hu=>(cS (by simp;omega)).bind λw hw=>c7 ⟨⟨⟨by dsimp only;omega,by rw[hw];simp;omega⟩,hu.2,λx hx=>?_⟩,by dsimp only;omega⟩;rw[hw]at hx;rcases an.1 hx with hx|hx
  ·exact g4 x hx
  ·simp only[aL]at hx;subst hx;exact hu.1
theorem N9{x:B3}(h:I6 x):Pf x=some 0:=by
 have h1:=h.bow;have h2:=h.stern;have h3:=h.len;unfold Pf;have e1:decide ((x.A3.length:Int)>8)=false:=dG (by omega);have e2:Ad4 x=false:=by
  rw[cy];intro e;simp only[Ad4,ay,ae,dA,dD]at e;omega
 have e3:Z2 x.A3=some false:=by
  unfold Z2 Afp;rw[Du x.A3 0 λj a ha=>?_]
  ·rfl
  ·unfold Aaf Au4;rw[Lb (h.thr a (af ha))];rfl
 rw[e1,e2,e3];rfl
theorem uB(h:Gx x){l:Int}(h0:0<=l)(h1:l<=5000):0<=l*l*x.Cost/\l*l*x.Cost<=2500000000:=by
 have hc:=h.cost;have h2:l*l<=5000*5000:=Aaz h0 h1;have h3:0<=l*l:=Int.mul_nonneg h0 h0;have h4:l*l*x.Cost<=25000000*100:=Int.mul_le_mul (by omega) (by omega) (by omega) (by omega);exact⟨Int.mul_nonneg h3 (by omega),by omega⟩
theorem Awq(h:Gx x){l:Int}(h0:0<=l)(h1:l<=5000):w64 ((w64 ((w64 (l*l))+(w64 (0*0))))*x.Cost)=l*l*x.Cost:=by
 have hc:=uB h h0 h1;have h2:l*l<=5000*5000:=Aaz h0 h1;have h3:0<=l*l:=Int.mul_nonneg h0 h0;have e0:w64 (0*0)=0:=by rw[Az (by omega)];rfl
 rw[Az (n:=l*l) (by omega),e0,Int.add_zero,Az (n:=l*l) (by omega),Az (by omega)]
theorem Asg(h:Gx x){l:Int}(h0:0<=l)(h1:l<=5000):Ams x ⟨l,0⟩=some ((l*l*x.Cost+999) / 1000,0):=by
 have hc:=uB h h0 h1;unfold Ams;have e:Xw ⟨l,0⟩=true:=by
  unfold Xw;simp only[ae,dA];omega
 rw[Lb h,e];simp only[ab,aR,Bool.or_self,cond_false];rw[Awq h h0 h1,A23 hc.1 (by omega)];rfl
theorem Awx(h:Gx x)(w:Int):Ok (Am1 x w) λy=>(0<=y/\y<=x.Max)/\(0<=w->(y*y*x.Cost+999) / 1000<=w):=by
 have hm:=h.max;have hc:=h.cost;have hci:=uB h hm.1 (by omega);unfold Am1;rw[Asg h hm.1 (by omega)];simp only[ab];refine c6 (λhq=>Ok.pure ⟨⟨by omega,hm.1⟩,λhw=>by simp only[Int.mul_zero,Int.zero_mul];omega⟩) (λhq=>?_);simp only[dJ,aX,dC]at hq;refine c6 (λha=>?_) (λha=>?_)
 ·simp only[dA]at ha;exact Ok.pure ⟨⟨hm.1,by omega⟩,λ_=>by omega⟩
 ·simp only[dC]at ha;refine(Ok.nzI (by omega)).bind λ_ _=>?_;have hlt:1000*w<x.Max*x.Max*x.Cost:=by omega
  have hd0:0<=1000*w / x.Cost:=Int.ediv_nonneg (by omega) (by omega);have hd1:1000*w / x.Cost<=1000*w:=Int.ediv_le_self _ (by omega);rw[Az (n:=1000*w) (by omega),cu (by omega),Az (n:=1000*w / x.Cost) (by omega)];refine(Awl hd0 (by omega)).bind λf hf=>Ok.pure ?_;obtain⟨_,f0,f1,_⟩:=hf;have hmul:1000*w / x.Cost*x.Cost<=1000*w:=Int.ediv_mul_le _ (by omega);have hff:f.1*f.1*x.Cost<=1000*w / x.Cost*x.Cost:=Int.mul_le_mul_of_nonneg_right f1 (by omega);refine⟨⟨f0,?_⟩,λ_=>by omega⟩;rcases Int.lt_or_le x.Max f.1 with hgt|hle
  ·exfalso;have:=Aaz hm.1 (Int.le_of_lt hgt);have:=Int.mul_le_mul_of_nonneg_right this (show 0<=x.Cost by omega);omega
  ·exact hle
theorem Yl(n:Int):∀(l:List A7)(k:Nat),foldI (Vr n) l k ()=match l.findIdx? λx=>x.Thruster==n with
  |some j=>some (.ret (cnt 0 (k+j),n))
  |none=>some (.next ())
 | [],_=>rfl
 | x::l,k=>by
  simp only[foldI,Vr,Agc,List.findIdx?_cons];cases hq:(x.Thruster==n) with
  |true=>rfl
  | false=>
   simp only[cond_false,bC,if_false];rw[Yl n l (k+1)];cases l.findIdx? λx=>x.Thruster==n with
   |none=>rfl
   |some j=>
    have e:k+1+j=k+(j+1):=by omega
    simp only[aT,e]
theorem Atg(h:Ax b)(n:Int):Z_ b.Ag n=some (Jl (λx:A7=>x.Thruster==n) b.Ag,n):=by
 have hc:=h.col;unfold Z_ Jl;rw[Yl];cases hf:b.Ag.findIdx? λx=>x.Thruster==n with
 |none=>rfl
 |some j=>
  rw[cw]at hf;obtain⟨hj,_⟩:=hf;have e:cnt 0 (0+j)=(j:Int):=by rw[aF];exact Cv (by omega)
  simp only[e];rfl
theorem Ahy{q:α->Bool}{xs:List α}(h:0<=Jl q xs):∃j:Nat,Jl q xs=(j:Int)/\j<xs.length:=by
 unfold Jl at h ⊢;cases hf:xs.findIdx? q with
 |none=>rw[hf]at h;simp at h
 |some j=>
  rw[cw]at hf;exact⟨j,rfl,hf.1⟩
def own(b:Aa)(i:Nat):Int:=Jl (λx:A7=>x.Thruster==(i:Int)) b.Ag
def Qo(b:Aa)(p:Ad)(i:Nat)(t:Ay)(v:Int):Prop:=
 (0<=v/\v<=t.Max)/\(∀j:Nat,own b i=(j:Int)->(v*v*t.Cost+999) / 1000<=p.Ao.getD j 0)/\(v≠0->∃j:Nat,own b i=(j:Int)/\svB b p 1000 j=true)
theorem Aoc(hp:Aw b p)(hj:j<b.Ag.length):0<=p.Ao.getD j 0:=by
 have h2:=hp.nli;exact(hp.lim j _ _ (Po (p:=p) (by omega)) (Gb hj)).1
theorem Auh(hp:Aw b p){t:Ay}(ht:Gx t)(i:Nat):Qo b p i t 0:=by
 refine⟨⟨by omega,ht.max.1⟩,λj hj=>?_,λhh=>absurd rfl hh⟩;obtain⟨k,hk,hlt⟩:=Ahy (q:=λx:A7=>x.Thruster==(i:Int)) (xs:=b.Ag) (by unfold own at hj;omega);unfold own at hj;have:k=j:=by omega
 subst this;have:=Aoc hp hlt;simp only[Int.mul_zero,Int.zero_mul];omega
theorem Axw(h:Ax b)(hp:Aw b p){x:B3}(hx:I6 x):Ok (F55 x b p) λy=>y.2=0/\y.1.length=x.A3.length/\∀(i:Nat) t v,x.A3[i]? = some t->y.1[i]? = some v->Qo b p i t v:=by
 have hlen:=hx.len;have hnl:=hp.nli;unfold F55;rw[N9 hx,E4 h hp];simp only[ab];refine c6 (λhc=>by simp at hc) (λ_=>c6 (λhc=>by simp at hc) (λ_=>?_));refine(Ok.mkI (by omega) (by omega)).bind λz hz=>?_;refine Ok.andThen (A:=λs=>s.length=x.A3.length/\∀(i:Nat) t v,x.A3[i]? = some t->s[i]? = some v->Qo b p i t v) (B:=λ_=>False) ?_ (λs hs=>Ok.pure ⟨rfl,hs⟩) (λ_ h=>h.elim);refine c8 (I:=λj s=>s.length=x.A3.length/\(∀(i:Nat) t v,i<j->x.A3[i]? = some t->s[i]? = some v->Qo b p i t v)/\∀(i:Nat) v,j<=i->s[i]? = some v->v=0) ?_ (λj t s ht hs=>?_) λs hs=>?_
 ·rw[hz];refine⟨by simp,λi t v hi=>by omega,λi v _ hv=>?_⟩;have:=af hv;exact(List.mem_replicate.1 this).2
 ·obtain⟨g1,g2,g3⟩:=hs;have hj:=(aa.1 ht).1;have hthr:=hx.thr t (af ht);have hcnt:cnt 0 j=(j:Int):=Cv (by omega);unfold Aq7;rw[hcnt,Atg h];simp only[ab];have stay:G_ (λs=>s.length=x.A3.length/\(∀(i:Nat) t v,i<j+1->x.A3[i]? = some t->s[i]? = some v->Qo b p i t v)/\∀(i:Nat) v,j+1<=i->s[i]? = some v->v=0) (λs=>s.length=x.A3.length/\∀(i:Nat) t v,x.A3[i]? = some t->s[i]? = some v->Qo b p i t v) (λ(_:Unit)=>False) (.next s):=by
   refine⟨g1,λi t' v hi ht' hv=>?_,λi v hi hv=>g3 i v (by omega) hv⟩;by_cases e:i=j
   ·subst e;rw[ht]at ht';cases ht';have:=g3 i v (by omega) hv;subst this;exact Auh hp hthr i
   ·exact g2 i t' v (by omega) ht' hv
  by_cases hq:0<=own b j
  ·obtain⟨c,hc,hlt⟩:=Ahy hq;have hown:own b j=(c:Int):=hc;have hsv:=Aj0 h hp hlt;rw[hc];rw[hsv];have e1:Au [(decide ((c:Int)>=0),true)] (some (svB b p 1000 c)) default=some (svB b p 1000 c):=by
    rw[dF (by omega)];rfl
   rw[e1];simp only[ab];refine c6 (λhcc=>?_) (λ_=>⟨_,rfl,stay⟩);simp only[ae]at hcc;have hlim:=Po (p:=p) (i:=c) (by omega);rw[B1 hlim];simp only[ab];refine(Awx hthr _).bind λm hm=>(cR (by omega) (by omega)).bind λ_ _=>(cV (by omega) (by omega)).bind λs' hs'=>c7 ?_;subst hs';rw[aI];refine⟨by rw[bm];exact g1,λi t' v hi ht' hv=>?_,λi v hi hv=>?_⟩
   ·rw[aH]at hv;by_cases e:j=i
    ·subst e;rw[ht]at ht';cases ht';rw[if_pos rfl,if_pos (by omega)]at hv;cases hv;refine⟨hm.1,λk hk=>?_,λ_=>⟨c,hown,hcc.2⟩⟩;have:k=c:=by omega
     subst this;exact hm.2 (Aoc hp hlt)
    ·rw[if_neg e]at hv;exact g2 i t' v (by omega) ht' hv
   ·rw[aH,if_neg (by omega)]at hv;exact g3 i v (by omega) hv
  ·have e0:decide (own b j>=0)=false:=dG (by omega);show Ok ((Au [(decide (own b j>=0),true)] _ _).bind λy11=>bif (decide (own b j>=0)&&y11)then _ else _) _;rw[e0];exact⟨_,rfl,stay⟩
 ·exact⟨hs.1,λi t v ht hv=>hs.2.1 i t v (aa.1 ht).1 ht hv⟩
theorem Ui(hp:Aw b p)(hj:j<b.Ah.length):p.Ai[j]? = some (p.Ai.getD j false):=by
 have:=hp.ncl;rw[aj (by omega)];simp[List.getD,List.getElem?_eq_getElem (show j<p.Ai.length by omega)]
variable{x:Ak}
theorem A1t(hx:b.Ah[j]? = some x):b.Ah.getD j default=x:=by simp[List.getD,hx]
def Ez(p:Ad)(x:Ak):Bool:=
 brk p.Al 3 x.A || (if x.Kind=1 then brk p.Al 3 x.B else if x.Kind=2 then brk p.Al 1 x.B || ((p.Ae.getD x.B.toNat default).State != 2) else brk p.Al 4 x.B)
theorem Axp(hp:Aw b p)(k n:Int)(acts:List As):N4 k n ⟨b,p,acts⟩=some (brk p.Al k n,⟨b,p,acts⟩):=by
 have:=hp.brk.len;unfold N4;rw[Gv (by dsimp only;omega)];rfl
theorem Ape(h:Ax b)(hp:Aw b p)(acts:List As)(hx:x∈b.Ah):Zn ⟨b,p,acts⟩ x=some (Ez p x,⟨b,p,acts⟩):=by
 have hbr:=(h.br x hx).2;have hns:=hp.nso;unfold Zn Ez;simp only[Axp hp,ab];cases brk p.Al 3 x.A with
 |true=>rfl
 | false=>
  simp only[cond_false,aX];rcases hbr with⟨hk,_⟩|⟨hk,h0,h1⟩|⟨hk,_⟩
  ·rw[hk];rfl
  ·rw[hk];have e:p.Ae[x.B.toNat]? = some (p.Ae.getD x.B.toNat default):=by
    rw[aj (by omega)];simp[List.getD,List.getElem?_eq_getElem (show x.B.toNat<p.Ae.length by omega)]
   have e2:getI p.Ae x.B=some (p.Ae.getD x.B.toNat default):=by
    unfold getI;rw[dF h0];exact e
   rw[e2];cases brk p.Al 1 x.B <;> rfl
  ·rw[hk];rfl
def Ea(b:Aa)(C:List Bool)(q:Ak->Bool)(n:Nat):List Int:=((List.range n).filter λi=>C.getD i false&&q (b.Ah.getD i default)).map λ(i:Nat)=>(i:Int)
variable{n:Nat}
theorem Ms{i:Int}:i∈Ea b C q n↔∃k:Nat,i=(k:Int)/\k<n/\C.getD k false=true/\q (b.Ah.getD k default)=true:=by
 unfold Ea;simp only[ao,az,aZ,ae];constructor
 ·rintro⟨k,⟨h1,h2,h3⟩,rfl⟩;exact⟨k,rfl,h1,h2,h3⟩
 ·rintro⟨k,rfl,h1,h2,h3⟩;exact⟨k,⟨h1,h2,h3⟩,rfl⟩
theorem He(b:Aa)(C:List Bool)(q:Ak->Bool)(n:Nat):(Ea b C q n).length<=n:=E8 _ n
def I9(C:List Bool)(l:List Int):List Bool:=l.foldl (λc i=>c.set i.toNat false) C
def Mp(l:List Int):List As:=l.map λi=>⟨2,i,0⟩
theorem yN:∀(l:List Int)(C:List Bool),(I9 C l).length=C.length
 | [],_=>rfl
 |i::l,C=>by
  show (I9 (C.set i.toNat false) l).length=_;rw[yN l];simp
theorem Akc(C:List Bool)(l:List Int)(i:Int):I9 C (l++[i])=(I9 C l).set i.toNat false:=by
 unfold I9;rw[aY];rfl
theorem Ab0{b:Aa}:∀(l:List Int){p:Ad},Aw b p->Aw b ⟨I9 p.Ai l,p.Ae,p.Ao,p.Al⟩
 | [],_,hp=>hp
 |i::l,p,hp=>Ab0 l (p:=⟨p.Ai.set i.toNat false,p.Ae,p.Ao,p.Al⟩) (Akd hp i.toNat)
theorem Asi(ha:acts.length<=1000000){i:Int}(h0:0<=i)(h1:i<p.Ai.length):Qg ⟨b,p,acts⟩ i=some ⟨b,⟨p.Ai.set i.toNat false,p.Ae,p.Ao,p.Al⟩,acts++[⟨2,i,0⟩]⟩:=by
 refine cY ?_;unfold Qg;refine(cR h0 h1).bind λ_ _=>(cV h0 h1).bind λy hy=>(cS (by simp;omega)).bind λz hz=>Ok.pure ?_;rw[hy,hz]
theorem W8(ha:acts.length+l.length<=1000000)(hl:∀i,i∈l->0<=i/\i<p.Ai.length) :
  Ok (foldI U6 l 0 (b.An,b.Ah,b.Ae,b.Ag,b.Phase,b.Ar,p.Ai,p.Ae,p.Ao,p.Al,acts)) (Em (λs=>s=(b.An,b.Ah,b.Ae,b.Ag,b.Phase,b.Ar,I9 p.Ai l,p.Ae,p.Ao,p.Al,acts++Mp l)) λ(_:Unit)=>False):=by
 refine c8 (I:=λj s=>s=(b.An,b.Ah,b.Ae,b.Ag,b.Phase,b.Ar,I9 p.Ai (l.take j),p.Ae,p.Ao,p.Al,acts++Mp (l.take j))) (by simp[I9,Mp]) (λj i s hi hs=>?_) λs hs=>?_
 ·have hj:=(aa.1 hi).1;have hin:=hl i (af hi);subst hs;unfold U6;have e:=Asi (b:=b) (p:=⟨I9 p.Ai (l.take j),p.Ae,p.Ao,p.Al⟩) (acts:=acts++Mp (l.take j)) (by simp[Mp];omega) hin.1 (by rw[yN];exact hin.2);refine Ok.bind (P:=λy=>y=_) (cT e rfl) λy hy=>c7 ?_;subst hy;rw[Bs hi,Akc];simp[Mp]
 ·rw[aP]at hs;exact hs
def acA(b:Aa)(C:List Bool)(q:Ak->Bool):List As:=Mp (Ea b C q b.Ah.length)
def acC(b:Aa)(C:List Bool)(q:Ak->Bool):List Bool:=I9 C (Ea b C q b.Ah.length)
theorem V5(b:Aa)(C:List Bool)(q:Ak->Bool):(acA b C q).length<=b.Ah.length:=by
 unfold acA Mp;rw[au];exact He b C q _
theorem Aee(hp:Aw b p)(q:Ak->Bool):Aw b ⟨acC b p.Ai q,p.Ae,p.Ao,p.Al⟩:=Ab0 _ hp
theorem Rj(hx:b.Ah[j]? = some x):Ea b C q (j+1)=Ea b C q j++if(C.getD j false&&q x)=true then [(j:Int)] else []:=by
 unfold Ea;rw[Gr,A1t hx]
theorem Anl(h:Ax b)(hp:Aw b p)(ha:acts.length<=1000):Zq ⟨b,p,acts⟩=some ⟨b,⟨acC b p.Ai (Ez p),p.Ae,p.Ao,p.Al⟩,acts++acA b p.Ai (Ez p)⟩:=by
 have hbl:=h.brl;have hnc:=hp.ncl;refine cY ?_;unfold Zq;refine Ok.andThen (A:=λs=>s=(b.An,b.Ah,b.Ae,b.Ag,b.Phase,b.Ar,Ea b p.Ai (Ez p) b.Ah.length,p.Ai,p.Ae,p.Ao,p.Al,acts)) (B:=λ(_:Unit)=>False) ?_ (λs hs=>?_) (λ_ h=>h.elim)
 ·refine c8 (I:=λj s=>s=(b.An,b.Ah,b.Ae,b.Ag,b.Phase,b.Ar,Ea b p.Ai (Ez p) j,p.Ai,p.Ae,p.Ao,p.Al,acts)) rfl (λj x s hx hs=>?_) λs hs=>hs;have hj:j<b.Ah.length:=(aa.1 hx).1;have hfl:=He b p.Ai (Ez p) j;have hfs:=Rj (C:=p.Ai) (q:=Ez p) hx;subst hs;unfold Aac;rw[Cv (by omega),B1 (Ui hp hj)];simp only[ab];have hd:=Ape h hp acts (af hx);cases hC:p.Ai.getD j false with
  |false=>
   rw[hC]at hfs;refine c7 ?_;rw[hfs];simp
  | true=>
   rw[hC]at hfs;refine Ok.bind (P:=λy=>y=(Ez p x,(⟨b,p,acts⟩:A2))) (cT hd rfl) λy hy=>?_;subst hy;cases hq:Ez p x with
   |false=>
    rw[hq]at hfs;refine c7 ?_;rw[hfs];simp
   |true=>
    rw[hq]at hfs;refine Ok.bind (P:=λy=>y=Ea b p.Ai (Ez p) j++[(j:Int)]) (cS (by simp;omega)) λy hy=>c7 ?_;rw[hy,hfs];simp
 ·subst hs;have hfl:=He b p.Ai (Ez p) b.Ah.length;refine Ok.andThen (W8 (b:=b) (p:=p) (acts:=acts) (l:=Ea b p.Ai (Ez p) b.Ah.length) (by omega) λi hi=>?_) (λs hs=>?_) (λ_ h=>h.elim)
  ·obtain⟨k,rfl,hk,_⟩:=Ms.1 hi;omega
  ·subst hs;exact Ok.pure rfl
def Gu(b:Aa)(p:Ad)(x:Ak):Bool:=x.Kind==3 && !Q7 b p x.A.toNat
theorem Axi(h:Ax b)(hp:Aw b p)(acts:List As)(hx:x∈b.Ah):Zm x ⟨b,p,acts⟩=some (Gu b p x,⟨b,p,acts⟩):=by
 have hA:=(h.br x hx).1;have hl:=Ahv h hp (n:=x.A.toNat) (by omega);rw[bA hA.1]at hl;unfold Zm Gu;rw[hl];cases x.Kind==3 <;> rfl
theorem Ank(h:Ax b)(hp:Aw b p)(ha:acts.length<=1000):Zp ⟨b,p,acts⟩=some ⟨b,⟨acC b p.Ai (Gu b p),p.Ae,p.Ao,p.Al⟩,acts++acA b p.Ai (Gu b p)⟩:=by
 have hbl:=h.brl;have hnc:=hp.ncl;refine cY ?_;unfold Zp;refine Ok.andThen (A:=λs=>s=(b.An,b.Ah,b.Ae,b.Ag,b.Phase,b.Ar,Ea b p.Ai (Gu b p) b.Ah.length,p.Ai,p.Ae,p.Ao,p.Al,acts)) (B:=λ(_:Unit)=>False) ?_ (λs hs=>?_) (λ_ h=>h.elim)
 ·refine c8 (I:=λj s=>s=(b.An,b.Ah,b.Ae,b.Ag,b.Phase,b.Ar,Ea b p.Ai (Gu b p) j,p.Ai,p.Ae,p.Ao,p.Al,acts)) rfl (λj x s hx hs=>?_) λs hs=>hs;have hj:j<b.Ah.length:=(aa.1 hx).1;have hfl:=He b p.Ai (Gu b p) j;have hfs:=Rj (C:=p.Ai) (q:=Gu b p) hx;subst hs;unfold Aab;rw[Cv (by omega),B1 (Ui hp hj)];simp only[ab];have hd:=Axi h hp acts (af hx);cases hC:p.Ai.getD j false with
  |false=>
   rw[hC]at hfs;refine c7 ?_;rw[hfs];simp
  | true=>
   rw[hC]at hfs;refine Ok.bind (P:=λy=>y=(Gu b p x,(⟨b,p,acts⟩:A2))) (cT hd rfl) λy hy=>?_;subst hy;cases hq:Gu b p x with
   |false=>
    rw[hq]at hfs;refine c7 ?_;rw[hfs];simp
   |true=>
    rw[hq]at hfs;refine Ok.bind (P:=λy=>y=Ea b p.Ai (Gu b p) j++[(j:Int)]) (cS (by simp;omega)) λy hy=>c7 ?_;rw[hy,hfs];simp
 ·subst hs;have hfl:=He b p.Ai (Gu b p) b.Ah.length;refine Ok.andThen (W8 (b:=b) (p:=p) (acts:=acts) (l:=Ea b p.Ai (Gu b p) b.Ah.length) (by omega) λi hi=>?_) (λs hs=>?_) (λ_ h=>h.elim)
  ·obtain⟨k,rfl,hk,_⟩:=Ms.1 hi;omega
  ·subst hs;exact Ok.pure rfl
def Uh(b:Aa)(p:Ad):Ad:=⟨acC b p.Ai (Ez p),p.Ae,p.Ao,p.Al⟩
def Ato(b:Aa)(p:Ad):Ad:=⟨acC b (Uh b p).Ai (Gu b (Uh b p)),p.Ae,p.Ao,p.Al⟩
def Ug(b:Aa)(p:Ad):Ad:=⟨(Ato b p).Ai,Fl b (Ato b p),p.Ao,p.Al⟩
def Xj(b:Aa)(p:Ad):List As:=acA b p.Ai (Ez p)++acA b (Uh b p).Ai (Gu b (Uh b p))
theorem Ah7(hp:Aw b p):Aw b (Uh b p):=Aee hp _
theorem uH(hp:Aw b p):Aw b (Ato b p):=Aee (Ah7 hp) _
theorem Ah6(hp:Aw b p):Aw b (Ug b p):=J9 (uH hp) (Im b _) (Rk (uH hp))
theorem Adk(b:Aa)(p:Ad):(Xj b p).length<=2*b.Ah.length:=by
 have h1:=V5 b p.Ai (Ez p);have h2:=V5 b (Uh b p).Ai (Gu b (Uh b p));unfold Xj;rw[aC];omega
theorem Atq(h:Ax b)(hp:Aw b p):Zz ⟨b,p,[]⟩=some ⟨b,Ug b p,Xj b p⟩:=by
 have hbl:=h.brl;have hl:=V5 b p.Ai (Ez p);unfold Zz;rw[Anl h hp (by simp)];simp only[ab,List.nil_append];have e2:=Ank h (Ah7 hp) (acts:=acA b p.Ai (Ez p)) (by omega);have e3:=Oh h (uH hp);refine cY ?_;refine Ok.bind (P:=λy=>y=_) (cT e2 rfl) λy hy=>?_;subst hy;refine Ok.bind (P:=λy=>y=_) (cT e3 rfl) λy hy=>?_;subst hy;exact Ok.pure rfl
def key(b:Aa)(c:Int):Int:=(b.Ag.getD c.toNat default).B2*100+c
theorem Tx{k:Nat}(h:k<l.length):getI l (k:Int)=some (l.getD k 0):=B1 (by
 grind)
structure Srt(b:Aa)(n i:Nat)(d:List Int):Prop where
 len:d.length=n
 low:∀k,k<i->k<n->0<=d.getD k 0/\d.getD k 0<(i:Int)
 asc:∀k m,k<m->m<i->m<n->key b (d.getD k 0)<key b (d.getD m 0)
 rest:∀k,i<=k->k<n->d.getD k 0=(k:Int)
 mem:∀v,v<n->∃k,k<n/\d.getD k 0=(v:Int)
structure Ins(b:Aa)(n i j:Nat)(d:List Int):Prop where
 len:d.length=n
 here:d.getD j 0=(i:Int)
 low:∀k,k<=i->k≠j->0<=d.getD k 0/\d.getD k 0<(i:Int)
 asc:∀k m,k<m->m<=i->k≠j->m≠j->key b (d.getD k 0)<key b (d.getD m 0)
 big:∀k,j<k->k<=i->key b (i:Int)<key b (d.getD k 0)
 rest:∀k,i<k->k<n->d.getD k 0=(k:Int)
 mem:∀v,v<n->∃k,k<n/\d.getD k 0=(v:Int)
theorem Srt.ins(h:Srt b n i d)(hi:i<n):Ins b n i i d where
 len:=h.len
 here:=h.rest i (ag _) hi
 low k hk hne:=h.low k (by omega) (by omega)
 asc k m hkm hm hk hm2:=h.asc k m hkm (by omega) (by omega)
 big k h1 h2:=by omega
 rest k h1 h2:=h.rest k (by omega) h2
 mem:=h.mem
theorem Ins.done(h:Ins b n i j d)(hj:j<=i)(hk:0<j->key b (d.getD (j-1) 0)<key b (i:Int)):Srt b n (i+1) d:=by
 refine⟨h.len,λk h1 h2=>?_,λk m hkm hm hn=>?_,λk h1 h2=>h.rest k (by omega) h2,h.mem⟩
 ·by_cases e:k=j
  ·rw[e,h.here];omega
  ·have:=h.low k (by omega) e;omega
 ·have lo:∀k,k<j->key b (d.getD k 0)<key b (i:Int):=λk hkj=>by
   have h3:=hk (by omega);by_cases e:k=j-1
   ·rw[e];exact h3
   ·have:=h.asc k (j-1) (by omega) (by omega) (by omega) (by omega);omega
  by_cases e:k=j
  ·subst e;rw[h.here];exact h.big m hkm (by omega)
  ·by_cases e2:m=j
   ·grind[Ins.here]
   ·exact h.asc k m hkm (by omega) e e2
theorem Ins.step(h:Ins b n i j d)(hj:j<=i)(h0:0<j)(hi:i<n)(hk:key b (i:Int)<key b (d.getD (j-1) 0)):Ins b n i (j-1) ((d.set j (d.getD (j-1) 0)).set (j-1) (i:Int)):=by
 have hl:=h.len;have ev:∀k,((d.set j (d.getD (j-1) 0)).set (j-1) (i:Int)).getD k 0=if k=j-1 then (i:Int) else if k=j then d.getD (j-1) 0 else d.getD k 0:=λk=>by
  grind
 refine⟨by simp[hl],?_,λk h1 h2=>?_,λk m hkm hm hk1 hm1=>?_,λk h1 h2=>?_,λk h1 h2=>?_,λv hv=>?_⟩
 ·rw[ev,if_pos rfl]
 ·rw[ev,if_neg h2];split
  ·exact h.low (j-1) (by omega) (by omega)
  ·exact h.low k h1 (by omega)
 ·rw[ev,ev,if_neg hk1,if_neg hm1];by_cases e1:k=j
  ·rw[if_pos e1,if_neg (by omega)];subst e1;exact h.asc (k-1) m (by omega) hm (by omega) (by omega)
  ·rw[if_neg e1];by_cases e2:m=j
   ·rw[if_pos e2];exact h.asc k (j-1) (by omega) (by omega) e1 (by omega)
   ·rw[if_neg e2];exact h.asc k m hkm hm e1 e2
 ·rw[ev,if_neg (by omega)];split
  ·exact hk
  ·exact h.big k (by omega) h2
 ·rw[ev,if_neg (by omega),if_neg (by omega)];exact h.rest k h1 h2
 ·obtain⟨k,hk1,hk2⟩:=h.mem v hv;by_cases e1:k=j
  ·grind[Ins.here]
  ·by_cases e2:k=j-1
   ·refine⟨j,by omega,?_⟩;rw[ev,if_neg (by omega),if_pos rfl,←hk2,e2]
   ·refine⟨k,hk1,?_⟩;rw[ev,if_neg e2,if_neg e1];exact hk2
theorem An4{x y:Nat}(hx:x<b.Ag.length)(hy:y<b.Ag.length):Qf (x:Int) (y:Int) b=some (if(b.Ag.getD x default).B2<(b.Ag.getD y default).B2 then -1 else if(b.Ag.getD x default).B2>(b.Ag.getD y default).B2 then 1 else 0):=by
 unfold Qf;rw[B1 (Gb hx),B1 (Gb hy)];simp only[ab,Nx]
theorem As5(h:Ax b)(hi:i<b.Ag.length)(hd:Ins b b.Ag.length i i d) :
  Ok (whileN (Uv 0 b) 1152921504606846976 ((i:Int),d)) (Em (λs=>Srt b b.Ag.length (i+1) s.2) λ(_:Unit)=>False):=by
 have hcl:=h.col;refine cQ (λs=>∃j:Nat,s.1=(j:Int)/\j<=i/\Ins b b.Ag.length i j s.2) (λs=>s.1.toNat) _ _ ⟨i,rfl,ag _,hd⟩ (by dsimp only;omega) ?_;rintro⟨z,d⟩ ⟨j,hz,hj,hI⟩;dsimp only at hz hI;subst hz;have hl:=hI.len;unfold Uv;dsimp only;by_cases h0:0<j
 ·have e1:decide ((j:Int)>0)=true:=dF (by omega);have e2:w64 ((j:Int)-1)=((j-1:Nat):Int):=by rw[Az (by omega)];omega
  have hlow:=hI.low (j-1) (by omega) (by omega);obtain⟨v,hv⟩:∃v:Nat,d.getD (j-1) 0=(v:Int):=⟨(d.getD (j-1) 0).toNat,by omega⟩;have hvi:v<i:=by omega
  have ec:=An4 (b:=b) hi (show v<b.Ag.length by omega);have g1:Au [(decide ((j:Int)>0),true)] (getI d (j:Int)) default=some (i:Int):=by
   rw[e1,Tx (by omega),hI.here];rfl
  have g2:Au [(decide ((j:Int)>0),true)] (getI d (w64 ((j:Int)-1))) default=some (v:Int):=by
   rw[e1,e2,Tx (by omega),hv];rfl
  rw[g1,g2];simp only[ab];have g3:Au [(decide ((j:Int)>0),true)] (Qf (i:Int) (v:Int) b) default=Qf (i:Int) (v:Int) b:=by rw[e1];rw[ec];rfl
  rw[g3,ec];simp only[ab];have hci:=h.co i _ (Gb hi);have hcv:=h.co v _ (Gb (show v<b.Ag.length by omega));have ki:key b (i:Int)=(b.Ag.getD i default).B2*100+(i:Int):=by unfold key;rw[aI]
  have kv:key b (v:Int)=(b.Ag.getD v default).B2*100+(v:Int):=by unfold key;rw[aI]
  refine c6 (λhq=>?_) (λhq=>?_)
  ·simp only[Xk,ae,dA]at hq;have hlt:(b.Ag.getD i default).B2<(b.Ag.getD v default).B2:=by
    have:=hq.2;split at this
    ·assumption
    ·split at this <;> omega
   have e3:getI d (w64 ((j:Int)-1))=some (d.getD (j-1) 0):=by rw[e2,Tx (by omega)]
   have e4:getI d (j:Int)=some (i:Int):=by rw[Tx (by omega),hI.here]
   rw[e3,e4];simp only[ab];rw[e2,Wz (by omega)];simp only[ab];rw[Tx (by rw[bm];omega)];simp only[ab];rw[Wz (by rw[bm];omega)];simp only[ab];refine c7 ⟨⟨j-1,rfl,by omega,hI.step hj h0 hi ?_⟩,by dsimp only;omega⟩;rw[hv,ki,kv];omega
  ·refine cU (hI.done hj λ_=>?_);simp only[Xk,b9,dC]at hq;have hge:¬(b.Ag.getD i default).B2<(b.Ag.getD v default).B2:=by
    intro hlt;rw[if_pos hlt]at hq;omega
   rw[hv,ki,kv];omega
 ·have h00:j=0:=by omega
  subst h00;exact cU (hI.done hj λhh=>by omega)
theorem Awg(h:Ax b)(hd:Srt b b.Ag.length 0 d):Ok (Zj d b) λy=>Srt b b.Ag.length b.Ag.length y.1:=by
 have hcl:=h.col;have hl:=hd.len;unfold Zj Ae9;rw[hl];refine Ok.bind (P:=λy=>Srt b b.Ag.length b.Ag.length y.1) ?_ λy hy=>Ok.pure hy;refine Ok.andThen (A:=λs=>s=((0:Int),(20:Int),d,b.An,b.Ah,b.Ae,b.Ag,b.Phase,b.Ar)) (B:=λ(_:Unit)=>False) ?_ (λs hs=>?_) (λ_ h=>h.elim)
 ·refine cQ (λs=>s=((0:Int),(20:Int),d,b.An,b.Ah,b.Ae,b.Ag,b.Phase,b.Ar)) (λ_=>0) _ _ rfl (by omega) ?_;intro s hs;subst hs;unfold zS;dsimp only;refine c6 (λhq=>?_) (λ_=>cU rfl);simp only[dA]at hq;omega
 ·subst hs;dsimp only;refine Ok.bind (P:=λy=>Srt b b.Ag.length b.Ag.length y.1) ?_ λy hy=>?_
  ·unfold Zf;have e1:w64 (0+1)=1:=by rw[Az (by omega)];rfl
   rw[e1];refine Ok.andThen (A:=λs=>Srt b b.Ag.length b.Ag.length s.2) (B:=λ(_:Unit)=>False) ?_ (λs hs=>Ok.pure hs) (λ_ h=>h.elim);refine cQ (λs=>∃i:Nat,s.1=(i:Int)/\1<=i/\(i<=b.Ag.length\/b.Ag.length=0)/\Srt b b.Ag.length i s.2) (λs=>(100-s.1).toNat) _ _ ⟨1,rfl,by omega,by omega,?_⟩ (by dsimp only;omega) ?_
   ·refine⟨hl,λk h1 h2=>?_,λk m h1 h2 h3=>by omega,λk h1 h2=>hd.rest k (by omega) h2,hd.mem⟩;have:k=0:=by omega
    subst this;have:=hd.rest 0 (ag _) h2;dsimp only;rw[this];omega
   ·rintro⟨z,d'⟩ ⟨i,hz,h1,h2,hS⟩;dsimp only at hz hS;subst hz;unfold zM;dsimp only;refine c6 (λhq=>?_) (λhq=>cU ?_)
    ·simp only[dA]at hq;have hin:i<b.Ag.length:=by omega
     refine Ok.inner (As5 h hin (hS.ins hin)) (λs hs=>?_) (λ_ h=>h.elim);have e2:w64 ((i:Int)+1)=((i+1:Nat):Int):=by rw[Az (by omega)];omega
     rw[e2];exact c7 ⟨⟨i+1,rfl,by omega,by omega,hs⟩,by dsimp only;omega⟩
    ·simp only[dC]at hq;dsimp only;have hge:b.Ag.length<=i:=by omega
     refine⟨hS.len,λk g1 g2=>?_,λk m g1 g2 g3=>hS.asc k m g1 (by omega) g3,λk g1 g2=>by omega,hS.mem⟩;obtain⟨w1,w2⟩:=hS.low k (by omega) g2;exact⟨w1,by omega⟩
  ·refine Ok.andThen (A:=λ_=>True) (B:=λ(_:Unit)=>False) ?_ (λs hs=>Ok.pure hy) (λ_ h=>h.elim);refine cQ (λ_=>True) (λ_=>0) _ _ trivial (by omega) ?_;intro s _;unfold zR;refine c6 (λhq=>?_) (λ_=>cU trivial);simp only[dA]at hq;omega
def Ov(b:Aa):List Int:=(uT b).getD []
theorem W7(h:Ax b):uT b=some (Ov b)/\Srt b b.Ag.length b.Ag.length (Ov b):=by
 have hcl:=h.col;have key:Ok (uT b) λy=>Srt b b.Ag.length b.Ag.length y:=by
  unfold uT;rw[Adl h];simp only[ab];refine c6 (λhc=>by simp at hc) (λ_=>?_);refine Ok.andThen (A:=λs=>s.2=Dg b.Ag.length) (B:=λ(_:Unit)=>False) ?_ (λs hs=>?_) (λ_ h=>h.elim)
  ·refine cQ (λs=>∃i:Nat,s.1=(i:Int)/\i<=b.Ag.length/\s.2=Dg i) (λs=>(100-s.1).toNat) _ _ ⟨0,rfl,by omega,rfl⟩ (by dsimp only;omega) ?_;rintro⟨z,d⟩ ⟨i,hz,h1,h2⟩;dsimp only at hz h2;subst hz;subst h2;unfold Aiu Apt;dsimp only;refine c6 (λhq=>?_) (λhq=>cU ?_)
   ·simp only[dA]at hq;refine(cS (by simp[Dg];omega)).bind λy hy=>?_;have e2:w64 ((i:Int)+1)=((i+1:Nat):Int):=by rw[Az (by omega)];omega
    rw[e2];refine c7 ⟨⟨i+1,rfl,by omega,?_⟩,by dsimp only;omega⟩;dsimp only;rw[hy];unfold Dg;rw[ce,bF];rfl
   grind
  ·rw[hs];refine(Awg h ?_).bind λy hy=>Ok.pure hy;refine⟨by simp[Dg],λk h1=>by omega,λk m _ h1=>by omega,λk _ h2=>Lq h2,λv hv=>⟨v,hv,Lq hv⟩⟩
 obtain⟨r,e,hr⟩:=key;have:Ov b=r:=by unfold Ov;rw[e];rfl
 rw[this];exact⟨e,hr⟩
theorem Ay0(h:Ax b){c:Int}(hc:c∈Ov b):0<=c/\c<b.Ag.length:=by
 have hs:=(W7 h).2;obtain⟨k,hk⟩:=List.mem_iff_getElem?.1 hc;have hlt:=(aa.1 hk).1;have:=hs.low k (by have:=hs.len;omega) (by have:=hs.len;omega);grind
theorem Aho(h:Ax b):(Ov b).length=b.Ag.length:=(W7 h).2.len
end Go.Proofs.YtiaaaghdkhnonaaGreat
