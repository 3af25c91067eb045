import Derived.Test.YtiaaaghdkhnonaaGreatMo
import Derived.Test.YtiaaaghdkhnonaaGreatHo
import Derived.Test.YtiaaaghdkhnonaaGreatDx
namespace Go.Proofs.YtiaaaghdkhnonaaGreat
open Go.SL
variable{α ρ:Type}{b:Aa}{x y:Ab}{p:Ad}{s s0:Af}{like:Aj}{q:Ak->Bool}{z:Ak×Bool}{a hi k lo nb st:Int}{acts:List A0}{l:List Ab}{ss:List Aj}{l0:List Ak}{so:List B9}{C c t:List Bool}{d idx:List Int}{B f i j m n ns r:Nat}
variable{n x:Int}
theorem R8(h:0<n):-n<Int.tmod x n/\Int.tmod x n<n:=by
 have h1:=cJ x h;have h2:=cK x h;exact⟨h2,h1⟩
theorem yA(h:0<n)(h0:0<=x):0<=Int.tmod x n/\Int.tmod x n<n:=⟨Int.tmod_nonneg n h0,(R8 h).2⟩
structure A5(s:Af):Prop where
 lo:0<=s.At
 hi:s.At<=s.L.length
 len:s.L.length<=600
def InR(n r:Int):Prop:=(1<=n->0<=r/\r<n)/\(n<1->r=0)
theorem A6v(x n:Int)(h:n<=4611686018427387904):Ok (F94 x n) (InR n):=by
 unfold F94;refine c6 (λh1=>?_) λh1=>?_
 ·simp only[dJ]at h1;exact Ok.pure ⟨λh2=>by omega,λ_=>rfl⟩
 ·simp only[dK]at h1;refine(Ok.nzI (by omega)).bind λ_ _=>(Ok.nzI (by omega)).bind λ_ _=>Ok.pure ⟨λ_=>?_,λh2=>by omega⟩;have h2:=R8 (x:=x) (n:=n) (by omega);rw[Az (by omega)];exact yA (by omega) (by omega)
theorem A9z(hs:A5 s)(n:Int)(h:n<=4611686018427387904):Ok (F44 s n) λy=>A5 y.2/\InR n y.1:=by
 obtain⟨h1,h2,h3⟩:=hs;unfold F44;refine c6 (λh4=>?_) λh4=>?_
 ·exact Ok.pure ⟨⟨h1,h2,h3⟩,λh5=>⟨by simp,by show (0:Int)<n;omega⟩,λ_=>rfl⟩
 ·simp only[dK]at h4;have e:w64 (s.At+1)=s.At+1:=Az (by omega);rw[e,Az (n:=s.At+1-1) (by omega)];refine(cW (by omega) (by omega)).bind λx _=>(A6v x n h).bind λr hr=>Ok.pure ⟨⟨?_,?_,h3⟩,hr⟩
  ·show 0<=s.At+1;omega
  grind
theorem C8(hs:A5 s)(n:Int)(h0:1<=n)(h:n<=4611686018427387904):Ok (F44 s n) λy=>A5 y.2/\0<=y.1/\y.1<n:=
 (A9z hs n h).mono λ_ h=>⟨h.1,h.2.1 h0⟩
theorem Fi(hs:A5 s)(lo hi:Int)(h:lo<=hi)(h0:-1000000000000<=lo)(h1:hi<=1000000000000):Ok (F67 s lo hi) λy=>A5 y.2/\lo<=y.1/\y.1<=hi:=by
 unfold F67;have e:w64 (w64 (hi-lo)+1)=hi-lo+1:=by rw[Az (n:=hi-lo) (by omega),Az (by omega)]
 rw[e];refine(C8 hs _ (by omega) (by omega)).bind λy hy=>Ok.pure ⟨hy.1,?_⟩;have:=hy.2;show lo<=w64 (lo+y.1)/\w64 (lo+y.1)<=hi;rw[Az (by omega)];omega
theorem Cx(hs:A5 s)(l:List Int)(h:1<=l.length)(h1:l.length<=1000):Ok (F20 s l) λy=>A5 y.2/\y.1∈l:=by
 unfold F20;grind[Ok.bind,C8,cW,Ok.pure]
theorem A6u(l:List Int):Ok (F10 l) A5:=by
 unfold F10;refine(Ok.cutI (by omega) (by omega) (by omega)).bind λy hy=>Ok.pure ⟨by simp,by simp,?_⟩;grind
def T7(nb:Int)(ns nc:Nat)(x:Ak):Prop:=
 (0<=x.A/\x.A<nb)/\((x.Kind=1/\x.A<x.B/\x.B<nb)\/(x.Kind=2/\0<=x.B/\x.B<ns)\/(x.Kind=3/\0<=x.B/\x.B<nc))
def brs(l:List Ak)(k:Int)(i:Nat):List Ak:=l.filter λx=>x.Kind==k&&x.B==(i:Int)
def Apd(x:B9):Prop:=(1<=x.Rating/\x.Rating<=50000)/\(0<=x.Least/\x.Least<=x.Rating)/\0<=x.Start/\x.Start<=600
def Aqz(i:Nat)(x:A_):Prop:=
 (0<=x.Load/\x.Load<=50000)/\(0<=x.Least/\x.Least<=x.Load)/\(0<=x.B6/\x.B6<=15)/\(-1<=x.Thruster/\x.Thruster<=7)/\x.Needs.length<=4 /\
 (∀n,n∈x.Needs->0<=n/\n<(i:Int))/\∀(j:Nat) a b,x.Needs[j]? = some a->x.Needs[j+1]? = some b->a<b
structure A1(b:Aa):Prop where
 buses:1<=b.Am/\b.Am<=6
 brl:b.Ah.length<=24
 sol:b.Ae.length<=8
 col:b.Ag.length<=16
 phase:0<=b.Phase/\b.Phase<=1800
 freq:0<=b.Ar/\b.Ar<=6000
 br:∀x,x∈b.Ah->T7 b.Am b.Ae.length b.Ag.length x
 one:∀i,i<b.Ae.length->(brs b.Ah 2 i).length=1
 any:∀i,i<b.Ag.length->brs b.Ah 3 i≠[]
 nodup:∀i,((brs b.Ah 3 i).map (·.A)).Nodup
 so:∀x,x∈b.Ae->Apd x
 co:∀(i:Nat) x,b.Ag[i]? = some x->Aqz i x
theorem Hv(l m:List Ak)(k:Int)(i:Nat):brs (l++m) k i=brs l k i++brs m k i:=by unfold brs;rw[bp]
theorem Alp(x:Ak)(k:Int)(i:Nat):brs [x] k i=if x.Kind=k/\x.B=(i:Int)then [x] else []:=by
 unfold brs;grind
variable{l:List Ak}
theorem Lp(h:∀x,x∈l->x.Kind=k->x.B≠(i:Int)):brs l k i=[]:=by
 unfold brs;rw[cL];grind
def M5(nb:Int)(l:List Ak):Prop:=∀x,x∈l->x.Kind=1/\0<=x.A/\x.A<x.B/\x.B<nb
structure P7(nb:Int)(l:List Ak)(so:List B9):Prop where
 len:l.length<=4+so.length
 br:∀x,x∈l->(0<=x.A/\x.A<nb)/\((x.Kind=1/\x.A<x.B/\x.B<nb)\/(x.Kind=2/\0<=x.B/\x.B<so.length))
 one:∀i,i<so.length->(brs l 2 i).length=1
 so:∀x,x∈so->Apd x
structure T6(nb:Int)(l:List Ak)(ns:Nat)(co:List A_):Prop where
 len:l.length<=4+ns+2*co.length
 br:∀x,x∈l->T7 nb ns co.length x
 one:∀i,i<ns->(brs l 2 i).length=1
 any:∀i,i<co.length->brs l 3 i≠[]
 nodup:∀i,((brs l 3 i).map (·.A)).Nodup
 co:∀(i:Nat) x,co[i]? = some x->Aqz i x/\x.Thruster<=7
theorem P7.cons(h:P7 nb l so):T6 nb l so.length [] where
 len:=by have:=h.len;simp;omega
 br x hx:=by
  obtain⟨h1,h2⟩:=h.br x hx;exact⟨h1,h2.imp id .inl⟩
 one:=h.one
 any i hi:=by simp at hi
 nodup i:=by
  rw[Lp]
  ·simp
  ·intro x hx h3;obtain⟨_,h2⟩:=h.br x hx;omega
 co i x hx:=by simp at hx
theorem P7.add(h:P7 nb l so){x:Ak}{y:B9}(hx:x.Kind=2/\x.B=so.length/\0<=x.A/\x.A<nb)(hy:Apd y):P7 nb (l++[x]) (so++[y]) where
 len:=by have:=h.len;simp;omega
 br z hz:=by
  rcases am.1 hz with hz|hz
  ·obtain⟨h1,h2⟩:=h.br z hz;grind
  grind
 one i hi:=by
  rw[aF]at hi;simp only[aU,cg]at hi;rw[Hv,Alp,aF];by_cases e:i=so.length
  ·rw[Lp,if_pos ⟨hx.1,by omega⟩]
   ·rfl
   ·intro z hz h2;obtain⟨_,h3⟩:=h.br z hz;omega
  ·rw[h.one i (by omega),if_neg (by omega)];rfl
 so z hz:=by
  rcases am.1 hz with hz|hz
  ·exact h.so z hz
  ·simp at hz;subst hz;exact hy
theorem T6.add{m:List Ak}{co:List A_}(h:T6 nb l ns co){y:A_}(hm:∀x,x∈m->x.Kind=3/\x.B=co.length/\0<=x.A/\x.A<nb)(h1:m≠[])(h2:m.length<=2)(h3:(m.map (·.A)).Nodup)
  (hy:Aqz co.length y/\y.Thruster<=7):T6 nb (l++m) ns (co++[y]):=by
 have e1:brs m 3 co.length=m:=by
  unfold brs;rw[cv];intro x hx;obtain⟨g1,g2,_⟩:=hm x hx;simp[g1,g2]
 have e2:∀i,i≠co.length->brs m 3 i=[]:=λi hi=>Lp λx hx _ e=>by
  have:=(hm x hx).2.1;omega
 have e3:brs l 3 co.length=[]:=Lp λx hx h3 e=>by
  obtain⟨_,g⟩:=h.br x hx;omega
 have hlen:(co++[y]).length=co.length+1:=by simp
 refine⟨?_,λz hz=>?_,λi hi=>?_,λi hi=>?_,λi=>?_,λi x hx=>?_⟩
 ·have:=h.len;rw[aF,hlen];omega
 ·rw[hlen];rcases am.1 hz with hz|hz
  ·obtain⟨g1,g2⟩:=h.br z hz;exact⟨g1,by omega⟩
  ·obtain⟨g1,g2,g3⟩:=hm z hz;exact⟨g3,by omega⟩
 ·have:brs m 2 i=[]:=Lp λx hx h2=>by have:=(hm x hx).1;omega
  rw[Hv,this,aX];exact h.one i hi
 ·rw[Hv];rw[hlen]at hi;by_cases e:i=co.length
  ·subst e;rw[e1];simp[h1]
  ·have:=h.any i (by omega);simp[this]
 ·rw[Hv];by_cases e:i=co.length
  ·subst e;rw[e1,e3];simpa using h3
  ·rw[e2 i e,aX];exact h.nodup i
 ·rw[cd]at hx;split at hx
  ·exact h.co i x hx
  grind
theorem M5.nil(nb:Int):M5 nb []:=λx hx=>by cases hx
theorem M5.add(h:M5 nb l){x:Ak}(hx:x.Kind=1/\0<=x.A/\x.A<x.B/\x.B<nb):M5 nb (l++[x]):=λz hz=>by
 rcases am.1 hz with hz|hz
 ·exact h z hz
 ·simp at hz;subst hz;exact hx
theorem M5.gens(h:M5 nb l)(hl:l.length<=4):P7 nb l [] where
 len:=by simpa using hl
 br x hx:=by have:=h x hx;exact⟨by omega,.inl (by omega)⟩
 one i hi:=by simp at hi
 so x hx:=by cases hx
variable{y:Int×Af}
theorem Ayb(hy:1<=y.1/\y.1<=4)(hs0:A5 s0) :
  Ok (whileN (Ah6 y) 1152921504606846976 (1,s0.L,s0.At,([]:List Ak))) (D5 (λs=>A5 ⟨s.2.1,s.2.2.1⟩/\M5 y.1 s.2.2.2/\s.2.2.2.length<=3) (λ(_:Unit)=>False)):=by
 refine cU (λs=>(1<=s.1/\s.1<=4/\s.1<=y.1)/\A5 ⟨s.2.1,s.2.2.1⟩/\M5 y.1 s.2.2.2/\(s.2.2.2.length:Int)+1<=s.1) (λs=>(y.1-s.1).toNat) _ _ ?_ ?_ ?_
 ·exact⟨by dsimp only;omega,hs0,M5.nil _,by simp⟩
 ·dsimp only;omega
 ·rintro⟨i,L,a,l⟩ ⟨⟨h1,h2,h3⟩,h4,h5,h6⟩;dsimp only at h1 h2 h3 h4 h5 h6;unfold Ah6;refine c6 (λh=>?_) (λh=>?_)
  ·simp only[dJ]at h;have e:w64 (i+1)=i+1:=Az (by omega);dsimp only;rw[e];refine(C8 h4 6 (by omega) (by omega)).bind λu hu=>c6 (λ_=>?_) (λ_=>?_)
   ·refine(C8 hu.1 i h1 (by omega)).bind λv hv=>(cV (by simp;omega)).bind λm hm=>c7 ?_;subst hm;have:=hv.2;refine⟨⟨by dsimp only;omega,hv.1,h5.add ⟨rfl,by dsimp only;omega,by dsimp only;omega,by dsimp only;omega⟩,by simp;omega⟩,by dsimp only;omega⟩
   ·refine c7 ⟨⟨by dsimp only;omega,hu.1,h5,by dsimp only;omega⟩,by dsimp only;omega⟩
  ·exact cY ⟨h4,h5,by dsimp only;omega⟩
theorem Aya(hy:1<=y.1/\y.1<=4)(hs0:A5 s0)(hk:0<=k/\k<5)(hl0:P7 y.1 l0 []) :
  Ok (whileN (Ah5 y) 1152921504606846976 (k,s0.L,s0.At,l0,([]:List B9))) (D5 (λs=>A5 ⟨s.2.1,s.2.2.1⟩/\P7 y.1 s.2.2.2.1 s.2.2.2.2/\s.2.2.2.2.length<=4) (λ(_:Unit)=>False)):=by
 refine cU (λs=>(0<=s.1/\s.1+(s.2.2.2.2.length:Int)<=4)/\A5 ⟨s.2.1,s.2.2.1⟩/\P7 y.1 s.2.2.2.1 s.2.2.2.2) (λs=>s.1.toNat) _ _ ?_ ?_ ?_
 ·exact⟨by simp;omega,hs0,hl0⟩
 ·dsimp only;omega
 ·rintro⟨i,L,a,l,so⟩ ⟨⟨h1,h2⟩,h4,h5⟩;dsimp only at h1 h2 h4 h5;unfold Ah5;refine c6 (λh=>?_) (λh=>?_)
  ·simp only[dJ]at h;have e:w64 (i-1)=i-1:=Az (by omega);have hl:=h5.len;dsimp only;rw[e];refine(C8 h4 y.1 hy.1 (by omega)).bind λu hu=>(cV (by simp;omega)).bind λm hm=>?_;refine(Cx hu.1 _ (by simp) (by simp)).bind λv hv=>(Cx hv.1 _ (by simp) (by simp)).bind λp hp=>(Cx hp.1 _ (by simp) (by simp)).bind λq hq=>(cV (by simp;omega)).bind λo ho=>c7 ?_;subst hm;subst ho;have g1:=hu.2;have g2:v.1=10\/v.1=50\/v.1=100:=by simpa using hv.2
   have g3:p.1=0\/p.1=5\/p.1=v.1:=by simpa using hp.2
   have g4:q.1=0\/q.1=1\/q.1=3:=by simpa using hq.2
   refine⟨⟨by simp;omega,hq.1,h5.add ⟨rfl,rfl,g1⟩ ⟨by dsimp only;omega,by dsimp only;omega,by dsimp only;omega⟩⟩,by dsimp only;omega⟩
  ·exact cY ⟨h4,h5,by dsimp only;omega⟩
theorem A1l(h:0<=x)(h2:x<=50000):0<=w64 (Int.tdiv x 2)/\w64 (Int.tdiv x 2)<=x:=by
 have:Int.tdiv x 2=x / 2:=cz h;rw[this,Az (by omega)];omega
theorem Avz(h:0<=x)(h2:x<=50000):0<=w64 (Int.tdiv x 3)/\w64 (Int.tdiv x 3)<=x:=by
 have:Int.tdiv x 3=x / 3:=cz h;rw[this,Az (by omega)];omega
theorem Ax9(hy:1<=y.1/\y.1<=4)(hs0:A5 s0)(hk:0<=k/\k<6)(hns:ns<=4)(hl0:T6 y.1 l0 ns []) :
  Ok (whileN (Ah4 y) 1152921504606846976 (k,s0.L,s0.At,l0,([]:List A_))) (D5 (λs=>A5 ⟨s.2.1,s.2.2.1⟩/\T6 y.1 s.2.2.2.1 ns s.2.2.2.2/\s.2.2.2.2.length<=5) (λ(_:Unit)=>False)):=by
 refine cU (λs=>(0<=s.1/\s.1+(s.2.2.2.2.length:Int)<=5)/\A5 ⟨s.2.1,s.2.2.1⟩/\T6 y.1 s.2.2.2.1 ns s.2.2.2.2) (λs=>s.1.toNat) _ _ ?_ ?_ ?_
 ·exact⟨by simp;omega,hs0,hl0⟩
 ·dsimp only;omega
 ·rintro⟨i,L,a,l,co⟩ ⟨⟨h1,h2⟩,h4,h5⟩;dsimp only at h1 h2 h4 h5;unfold Ah4;refine c6 (λh=>?_) (λh=>?_)
  ·simp only[dJ]at h;have e:w64 (i-1)=i-1:=Az (by omega);have hl:=h5.len;dsimp only;rw[e];refine(C8 h4 y.1 hy.1 (by omega)).bind λu hu=>(cV (by simp;omega)).bind λm hm=>?_;subst hm;have g1:=hu.2;refine Ok.bind (P:=λv=>A5 v.2) (c9 (λ_=>(C8 hu.1 4 (by omega) (by omega)).mono λ_ h=>h.1) λ_=>hu.1) λv hv=>?_;refine Ok.inner (A:=λ(r:List Ak)=>∃m,r=l++m/\(∀x,x∈m->x.Kind=3/\x.B=co.length/\0<=x.A/\x.A<y.1)/\m≠[]/\m.length<=2/\(m.map (·.A)).Nodup) (B:=λ(_:Unit)=>False) ?_ (λr hr=>?_) (λ_ h=>h.elim)
   ·unfold Au2;refine c6 (λhc=>?_) (λhc=>?_)
    ·simp only[ac,dJ]at hc;have e2:w64 (u.1+1)=u.1+1:=Az (by omega);rw[e2];refine(Ok.nzI (by omega)).bind λ_ _=>(cV (by simp;omega)).bind λm hm=>db ?_;subst hm;have g2:=yA (x:=u.1+1) (n:=y.1) (by omega) (by omega);have g3:Int.tmod (u.1+1) y.1≠u.1:=by
      rw[Int.tmod_eq_emod_of_nonneg (by omega)];intro e3;by_cases g4:u.1+1=y.1
      ·rw[g4,Int.emod_self]at e3;omega
      ·rw[Int.emod_eq_of_lt (by omega) (by omega)]at e3;omega
     refine⟨_,bA _ _ _,?_,by simp,by simp,?_⟩
     ·intro x hx;simp at hx;rcases hx with rfl|rfl
      ·exact⟨rfl,rfl,g1⟩
      ·exact⟨rfl,rfl,g2⟩
     ·simp;exact λh=>g3 h.symm
    ·exact db ⟨_,rfl,λx hx=>by simp at hx;subst hx;exact⟨rfl,rfl,g1⟩,by simp,by simp,by simp⟩
   ·obtain⟨m,rfl,hm,hm1,hm2,hm3⟩:=hr;refine(Cx hv _ (by simp) (by simp)).bind λp hp=>(Cx hp.1 _ (by simp) (by simp)).bind λq hq=>(C8 hq.1 3 (by omega) (by omega)).bind λpr hpr=>(Fi hpr.1 (-1) 2 (by omega) (by omega) (by omega)).bind λth hth=>?_;have k1:p.1=0\/p.1=5\/p.1=20\/p.1=40:=by simpa using hp.2
    have k2:q.1=0\/q.1=w64 (Int.tdiv p.1 2)\/q.1=p.1:=by simpa using hq.2
    have k3:=A1l (x:=p.1) (by omega) (by omega);have k4:=hpr.2;have k5:=hth.2;refine Ok.bind (P:=λv=>A5 v.2) (c9 (λ_=>(C8 hth.1 4 (by omega) (by omega)).mono λ_ h=>h.1) λ_=>hth.1) λw hw=>c6 (λhc=>?_) (λhc=>?_)
    ·simp only[Az2,ac,dJ]at hc;refine(C8 hw _ (by omega) (by omega)).bind λn hn=>(cV (by simp;omega)).bind λo ho=>c7 ?_;subst ho;have k6:=hn.2;refine⟨⟨by simp;omega,hn.1,h5.add hm hm1 hm2 hm3 ⟨⟨by dsimp only;omega,by dsimp only;omega,by dsimp only;omega,by dsimp only;omega,by simp,?_,?_⟩,by dsimp only;omega⟩⟩,by dsimp only;omega⟩
     ·intro z hz;simp at hz;subst hz;exact k6
     ·intro j a b ha hb;simp at hb
    ·refine(cV (by simp;omega)).bind λo ho=>c7 ?_;subst ho;refine⟨⟨by simp;omega,hw,h5.add hm hm1 hm2 hm3 ⟨⟨by dsimp only;omega,by dsimp only;omega,by dsimp only;omega,by dsimp only;omega,by simp,?_,?_⟩,by dsimp only;omega⟩⟩,by dsimp only;omega⟩
     ·intro z hz;simp at hz
     ·intro j a b ha hb;simp at ha
  ·exact cY ⟨h4,h5,by dsimp only;omega⟩
structure A90(b:Aa):Prop where
 ok:A1 b
 buses:b.Am<=4
 brl:b.Ah.length<=18
 sol:b.Ae.length<=4
 col:b.Ag.length<=5
 thr:∀x,x∈b.Ag->x.Thruster<=7
theorem Azh(hs:A5 s):Ok (F84 s) λy=>A90 y.1/\A5 y.2:=by
 unfold F84;refine(Fi hs 1 4 (by omega) (by omega) (by omega)).bind λy1 h1=>(Cx h1.1 _ (by simp) (by simp)).bind λy3 h3=>(Cx h3.1 _ (by simp) (by simp)).bind λy5 h5=>?_;refine(Ayb h1.2 h5.1).andThen (λs0 hs0=>?_) (λ_ h=>h.elim);refine Ok.bind (P:=λv=>A5 v.2) (c9 (λ_=>(C8 hs0.1 2 (by omega) (by omega)).mono λ_ h=>h.1) λ_=>hs0.1) λy15 h15=>?_;have hb:=h1.2;refine Ok.andThen (A:=λ(l:List Ak)=>M5 y1.1 l/\l.length<=4) (B:=λ(_:Unit)=>False) ?_ (λl hl=>?_) (λ_ h=>h.elim)
 ·unfold Au3;refine c6 (λhc=>?_) (λhc=>db ⟨hs0.2.1,by omega⟩);simp only[ac,dJ]at hc;have e:w64 (y1.1-1)=y1.1-1:=Az (by omega);rw[e];have:=hs0.2.2;refine(cV (by simp;omega)).bind λm hm=>db ?_;subst hm;exact⟨hs0.2.1.add ⟨rfl,by simp,by dsimp only;omega,by dsimp only;omega⟩,by simp;omega⟩
 ·refine(C8 h15 5 (by omega) (by omega)).bind λy20 h20=>?_;refine(Aya h1.2 h20.1 h20.2 (hl.1.gens hl.2)).andThen (λs2 hs2=>?_) (λ_ h=>h.elim);refine(C8 hs2.1 6 (by omega) (by omega)).bind λy35 h35=>?_;refine(Ax9 h1.2 h35.1 h35.2 hs2.2.2 hs2.2.1.cons).andThen (λs3 hs3=>Ok.pure ⟨?_,hs3.1⟩) (λ_ h=>h.elim);obtain⟨_,hc,hl5⟩:=hs3;have hl4:=hs2.2.2;have hlen:=hc.len;have p3:y3.1=0\/y3.1=50\/y3.1=200\/y3.1=1800:=by simpa using h3.2
  have p5:y5.1=0\/y5.1=10\/y5.1=50:=by simpa using h5.2
  refine⟨⟨by dsimp only;omega,by dsimp only;omega,by dsimp only;omega,by dsimp only;omega,by dsimp only;omega,by dsimp only;omega,hc.br,hc.one,hc.any,hc.nodup,hs2.2.1.so,λi x hx=>(hc.co i x hx).1⟩,by dsimp only;omega,by dsimp only;omega,hl4,hl5,λx hx=>?_⟩;obtain⟨i,hi⟩:=bm hx;exact(hc.co i x hi).2
set_option linter.unusedVariables false
def Dy(p:Ab):Prop:=(1<=p.Kind/\p.Kind<=9)/\0<=p.Number/\p.Number<=63
def An7(x y:Bh):Prop:=Dm x.From y.From=true\/x.From=y.From/\Dm x.To y.To=true
structure zV(l:List Ab)(L:List Bh):Prop where
 len:L.length<=20
 mem:∀x,x∈L->x.From∈l/\x.To∈l/\x.From≠x.To
 asc:L.Pairwise An7
def Iy:List ByteArray:=[(⟨#[111,110,101]⟩:ByteArray),(⟨#[116,119,111]⟩:ByteArray),(⟨#[103,45,51]⟩:ByteArray),(⟨#[120]⟩:ByteArray)]
structure Zo(l:List Ab)(G:List Bz):Prop where
 len:G.length<=3
 mem:∀g,g∈G->g.Name∈Iy/\g.Parts≠[]/\Eg g.Parts/\(∀p,p∈g.Parts->p∈l)/\g.Parts.length<=40
 dist:G.Pairwise λa b=>a.Name≠b.Name
structure X7(d:Bf):Prop where
 asc:Eg d.Parts
 ok:∀p,p∈d.Parts->Dy p
 len:d.Parts.length<=30
 links:zV d.Parts d.Links
 groups:Zo d.Parts d.Groups
theorem Lg(x y:Ab):((x.Kind==y.Kind)&&((x.Number==y.Number)&&true))=Ez x y:=by
 unfold Ez;rw[bl]
variable{x y:Ab}{l:List Ab}
theorem V0(hl:Eg l)(hx:l[i]? = some x)(hy:l[j]? = some y)(h:i<j):Dm x y=true:=by
 obtain⟨h1,rfl⟩:=ab.1 hx;obtain⟨h2,rfl⟩:=ab.1 hy;exact bY.1 hl i j h1 h2 h
theorem Xm{R:α->α->Prop}{l:List α}{x:α}(h:l.Pairwise R)(hx:∀y,y∈l->R y x):(l++[x]).Pairwise R:=
 List.pairwise_append.2 ⟨h,List.pairwise_singleton _ _,λa ha b hb=>by grind⟩
theorem Alw(hs:A5 s)(hn:n<=1000)(hk:1<=k/\k<=1000):Ok (F91 s n k) λy=>A5 y.2/\y.1.Pairwise (· < ·)/\(∀x,x∈y.1->0<=x/\x<n)/\(y.1.length:Int)<=max n 0:=by
 unfold F91;refine Ok.andThen (A:=λs=>A5 ⟨s.2.1,s.2.2.1⟩/\s.2.2.2.Pairwise (· < ·)/\(∀x,x∈s.2.2.2->0<=x/\x<n)/\(s.2.2.2.length:Int)<=max n 0) (B:=λ(_:Unit)=>False) ?_ (λz hz=>Ok.pure hz) (λ_ h=>h.elim);refine cU (λs=>(0<=s.1/\s.1<=max n 0/\(s.2.2.2.length:Int)<=s.1)/\A5 ⟨s.2.1,s.2.2.1⟩/\s.2.2.2.Pairwise (· < ·)/\(∀x,x∈s.2.2.2->0<=x/\x<s.1/\x<n)) (λs=>(n-s.1).toNat) _ _ ?_ ?_ ?_
 ·exact⟨⟨by omega,by dsimp only;omega,by simp⟩,hs,bS,by simp⟩
 ·dsimp only;omega
 ·rintro⟨i,L,a,l⟩ ⟨⟨h1,h2,h3⟩,h4,h5,h6⟩;dsimp only at h1 h2 h3 h4 h5 h6;unfold Auz;refine c6 (λh=>?_) (λh=>?_)
  ·simp only[dJ]at h;have e:w64 (i+1)=i+1:=Az (by omega);dsimp only;rw[e];refine(C8 h4 k hk.1 (by omega)).bind λu hu=>c6 (λ_=>?_) (λ_=>?_)
   ·refine(cV (by simp;omega)).bind λm hm=>c7 ?_;subst hm;refine⟨⟨⟨by dsimp only;omega,by dsimp only;omega,by simp;omega⟩,hu.1,Xm h5 λy hy=>(h6 y hy).2.1,λx hx=>?_⟩,by dsimp only;omega⟩;grind
   ·exact c7 ⟨⟨⟨by dsimp only;omega,by dsimp only;omega,by dsimp only;omega⟩,hu.1,h5,λx hx=>by have:=h6 x hx;dsimp only;omega⟩,by dsimp only;omega⟩
  ·simp only[dK]at h;exact cY ⟨h4,h5,λx hx=>by have:=h6 x hx;omega,by dsimp only;omega⟩
def Zn(l:List Ab)(i j:Nat)(L:List Bh):Prop:=
 L.length<=20/\(∀x,x∈L->x.From∈l/\x.To∈l/\x.From≠x.To)/\L.Pairwise An7 /\
 ∀x,x∈L->(∃k,k<i/\l[k]? = some x.From)\/l[i]? = some x.From/\∃k,k<j/\l[k]? = some x.To
theorem Zn.mono{L:List Bh}(h:Zn l i j L):Zn l i (j+1) L:=
 ⟨h.1,h.2.1,h.2.2.1,λx hx=>(h.2.2.2 x hx).imp id λ⟨h1,k,h2,h3⟩=>⟨h1,k,by omega,h3⟩⟩
theorem Ach(hl:Eg l)(hn:l.length<=40)(hs:A5 s):Ok (Aef s l) λy=>zV l y.1/\A5 y.2:=by
 unfold Aef;refine Ok.andThen (A:=λz=>Zn l l.length 0 z.2.2/\A5 ⟨z.1,z.2.1⟩) (B:=λ(_:Unit)=>False) ?_ (λz hz=>Ok.pure ⟨⟨hz.1.1,hz.1.2.1,hz.1.2.2.1⟩,hz.2⟩) (λ_ h=>h.elim);refine c8 (I:=λi z=>Zn l i 0 z.2.2/\A5 ⟨z.1,z.2.1⟩) ⟨⟨by simp,by simp,bS,by simp⟩,hs⟩ (λi x z hx hz=>?_) λz hz=>hz;unfold Ah3;refine Ok.inner (A:=λz=>Zn l i l.length z.2.2/\A5 ⟨z.1,z.2.1⟩) (B:=λ(_:Unit)=>False) ?_ (λz hz=>c7 ⟨⟨hz.1.1,hz.1.2.1,hz.1.2.2.1,λy hy=>.inl ?_⟩,hz.2⟩) (λ_ h=>h.elim)
 ·refine c8 (I:=λj z=>Zn l i j z.2.2/\A5 ⟨z.1,z.2.1⟩) hz (λj y z hy hz=>?_) λz hz=>hz;unfold Ah2;refine Ok.bind (P:=λv=>A5 v.2) (c9 (λ_=>(C8 hz.2 7 (by omega) (by omega)).mono λ_ h=>h.1) λ_=>hz.2) λv hv=>c6 (λhc=>?_) (λ_=>c7 ⟨hz.1.mono,hv⟩);simp only[Alm,ac,dJ,aV,Lg]at hc;obtain⟨h1,h2,h3,h4⟩:=hz.1;refine(cV (by simp;omega)).bind λm hm=>c7 ?_;subst hm;have hne:x≠y:=λe=>by
   have:=Dn.2 e;rw[hc.1.1]at this;cases this
  refine⟨⟨by simp;omega,λw hw=>?_,Xm h3 λw hw=>?_,λw hw=>?_⟩,hv⟩
  ·grind
  ·rcases h4 w hw with⟨k,hk,e⟩|⟨e,k,hk,e2⟩
   ·exact .inl (V0 hl e hx hk)
   ·rw[hx]at e;exact .inr ⟨(aR e).symm,V0 hl e2 hy hk⟩
  grind
 ·rcases hz.1.2.2.2 y hy with⟨k,hk,e⟩|⟨e,_⟩
  ·exact⟨k,by omega,e⟩
  ·exact⟨i,by omega,e⟩
theorem Aky{a b:Ab}(h:Dm a b=true):a≠b:=λe=>by rw[e,Ju]at h;cases h
theorem Akm(hl:Eg l)(hn:l.length<=1000)(p:Ab):X2 l p=some (J0 p l):=by
 refine cZ ?_;unfold X2;refine Ok.andThen (A:=λz=>∃k:Nat,z=(k:Int)/\k<=l.length/\(∀(i:Nat) x,i<k->l[i]? = some x->Dm x p=true)/\∀x,l[k]? = some x->Dm x p=false) (B:=λ(_:Unit)=>False) ?_ (λz hz=>?_) (λ_ h=>h.elim)
 ·refine cU (λz=>∃k:Nat,z=(k:Int)/\k<=l.length/\∀(i:Nat) x,i<k->l[i]? = some x->Dm x p=true) (λz=>(l.length-z).toNat) _ _ ⟨0,rfl,by omega,by omega⟩ (by omega) λz hz=>?_;obtain⟨k,rfl,h1,h2⟩:=hz;unfold Ah7;refine Ok.bind (P:=λv=>k<l.length->l[k]? = some v) (c9 (λha=>?_) λha=>?_) λv hv=>c6 (λhc=>c7 ?_) (λhc=>cY ?_)
  ·have h3:(k:Int)<l.length:=by simpa using ha.1
   exact(cW (by omega) h3).mono λx hx _=>by simpa using hx
  ·intro h3;exact absurd ⟨by simpa using h3,trivial⟩ ha
  ·simp only[zT,ac,dJ]at hc;have e:w64 ((k:Int)+1)=(k:Int)+1:=Az (by omega);rw[e];have hk:k<l.length:=by omega
   refine⟨⟨k+1,rfl,by omega,λi x hi hx=>?_⟩,by omega⟩;by_cases hik:i=k
   ·subst hik;rw[hv hk]at hx;have hc2:=hc.2;rw[aR hx]at hc2;exact hc2
   ·exact h2 i x (by omega) hx
  ·refine⟨k,rfl,h1,h2,λx hx=>?_⟩;have hk:=(ab.1 hx).1;have e:=hv hk;rw[hx]at e;cases e;simp only[zT,bD,dK]at hc;rcases hc with hc|hc
   ·omega
   ·exact hc
 ·obtain⟨k,rfl,h1,h2,h3⟩:=hz;have hmem:∀x,x∈l.take k->Dm x p=true:=λx hx=>by
   obtain⟨i,hi⟩:=bm hx;rw[aq]at hi;split at hi
   ·exact h2 i x (by assumption) hi
   ·cases hi
  refine Ok.bind (P:=λv=>k<l.length->l[k]? = some v) (c9 (λha=>?_) λha=>?_) λv hv=>c6 (λhc=>Ok.pure ?_) (λhc=>?_)
  ·have h4:(k:Int)<l.length:=by simpa using ha.1
   exact(cW (by omega) h4).mono λx hx _=>by simpa using hx
  ·intro h4;exact absurd ⟨by simpa using h4,trivial⟩ ha
  ·simp only[zS,ac,dJ,Lg]at hc;have hk:k<l.length:=by omega
   have e:=hv hk;rw[Dn.1 hc.2]at e;refine Nt hl (Ll p hl) λx=>?_;rw[Iv];exact⟨.inr,λh=>h.elim (λh=>h ▸ ae e) id⟩
  ·refine(Ok.bndI (by omega) (by omega) (by omega)).bind λ_ _=>(Ok.bndI (by omega) (by omega) (by omega)).bind λ_ _=>?_;have ht:List.take ((l.length:Int).toNat-(k:Int).toNat) (List.drop (k:Int).toNat l)=l.drop k:=by
    rw[aB,aB,cF (by simp)]
   rw[ht];refine(cV (by simp;omega)).bind λa ha=>?_;subst ha;refine(cV (by simp;omega)).bind λa ha=>Ok.pure ?_;subst ha;rw[aB,Nat.sub_zero];have hgt:∀x,x∈l.drop k->Dm p x=true:=λx hx=>by
    obtain⟨i,hi⟩:=bm hx;rw[ax]at hi;have hk:k<l.length:=by have:=(ab.1 hi).1;omega
    have e:=hv hk;have hlt:=h3 v e;have hne:Ez v p=false:=by
     simp only[zS,bD,dK,Lg]at hc;rcases hc with hc|hc
     ·omega
     ·exact hc
    have hpv:Dm p v=true:=by
     rcases Yx v p with h|h|h
     ·rw[hlt]at h;cases h
     ·rw[Dn.2 h]at hne;cases hne
     ·exact h
    by_cases h0:i=0
    ·subst h0;rw[bJ,e]at hi;cases hi;exact hpv
    ·exact Kt hpv (V0 hl e hi (by omega))
   refine Nt ?_ (Ll p hl) λx=>?_
   ·refine List.pairwise_append.2 ⟨hl.sublist (List.take_sublist _ _),aP.2 ⟨hgt,hl.sublist (List.drop_sublist _ _)⟩,λa ha b hb=>?_⟩;rcases ag.1 hb with hb|hb
    ·rw[hb];exact hmem a ha
    ·exact Kt (hmem a ha) (hgt b hb)
   ·rw[Iv];have hm:x∈l↔x∈l.take k\/x∈l.drop k:=by rw[←am,bU]
    rw[hm];simp only[am,ag,List.singleton_append];constructor
    ·rintro (h|h|h)
     ·exact .inr (.inl h)
     ·exact .inl h
     ·exact .inr (.inr h)
    ·rintro (h|h|h)
     ·exact .inr (.inl h)
     ·exact .inl h
     ·exact .inr (.inr h)
theorem Y4(p:Ab):∀l:List Ab,(J0 p l).length<=l.length+1
 | []=>by simp[J0]
 | q::l=>by
  unfold J0;cases Dm p q with
  |true=>simp
  |false=>
   cases Dm q p with
   |true=>have:=Y4 p l;simp;omega
   |false=>simp
theorem A1j(p:Ab)(l:List Ab):J0 p l≠[]:=λe=>by
 have:p∈J0 p l:=(Iv p l p).2 (.inl rfl);rw[e]at this;cases this
theorem Axh(h0:0<=k)(h1:k<4):Ok (getI Iy k) λx=>Iy[k.toNat]? = some x:=cW h0 (by simp[Iy];omega)
theorem Aog{x:ByteArray}(hi:Iy[i]? = some x)(hj:Iy[j]? = some x):i=j:=by
 grind[Iy]
def A6w(l:List Ab)(k:Int)(G:List Bz):Prop:=
 (G.length:Int)<=3-k/\(∀g,g∈G->g.Name∈Iy/\g.Parts≠[]/\Eg g.Parts/\(∀p,p∈g.Parts->p∈l)/\g.Parts.length<=41)/\(G.Pairwise λa b=>a.Name≠b.Name) /\
 ∀g,g∈G->∃j:Nat,k<j/\Iy[j]? = some g.Name
theorem L8{m:List Ab}(hl:Eg l)(h:∀p,p∈l->p∈m):l.length<=m.length:=
 List.Nodup.length_le_of_subset (hl.imp λh=>Aky h) λp hp=>h p hp
theorem jU(hl:Eg l)(hn:l.length<=30)(hs:A5 s):Ok (Aee s l) λy=>Zo l y.1/\A5 y.2:=by
 unfold Aee;refine(C8 hs 4 (by omega) (by omega)).bind λy hy=>?_;refine Ok.andThen (A:=λz=>(∃k,0<=k/\A6w l k z.2.2.2)/\A5 ⟨z.2.1,z.2.2.1⟩) (B:=λ(_:Unit)=>False) ?_ (λz hz=>Ok.pure ⟨?_,hz.2⟩) (λ_ h=>h.elim)
 ·refine cU (λz=>(0<=z.1/\z.1<4)/\A6w l z.1 z.2.2.2/\A5 ⟨z.2.1,z.2.2.1⟩) (λz=>z.1.toNat) _ _ ⟨hy.2,⟨by simp;omega,by simp,bS,by simp⟩,hy.1⟩ (by dsimp only;omega) ?_;rintro⟨k,L,a,G⟩ ⟨⟨h1,h2⟩,⟨h3,h4,h5,h6⟩,h7⟩;dsimp only at h1 h2 h3 h4 h5 h6 h7;unfold Ah1;refine c6 (λhc=>?_) (λhc=>cY ⟨⟨k,h1,h3,h4,h5,h6⟩,h7⟩);simp only[All,ac,dJ]at hc;refine(Axh h1 h2).bind λnm hnm=>(C8 h7 (l.length:Int) (by omega) (by omega)).bind λu hu=>(cW hu.2.1 hu.2.2).bind λp hp=>?_;refine Ok.inner (A:=λz=>A5 ⟨z.1,z.2.1⟩/\Eg z.2.2/\(∀q,q∈z.2.2->q∈l)/\z.2.2≠[]) (B:=λ(_:Unit)=>False) ?_ (λz hz=>?_) (λ_ h=>h.elim)
  ·refine c8 (I:=λ_ z=>A5 ⟨z.1,z.2.1⟩/\Eg z.2.2/\(∀q,q∈z.2.2->q∈l)/\z.2.2≠[]) ⟨hu.1,show Eg [p] from List.pairwise_singleton _ _,λq hq=>by rw[aK.1 hq];exact ae hp,by simp⟩ (λj q z hq hz=>?_) λz hz=>hz;unfold Ah0;refine(C8 hz.1 4 (by omega) (by omega)).bind λv hv=>c6 (λ_=>?_) (λ_=>c7 ⟨hv.1,hz.2⟩);have:=L8 hz.2.1 hz.2.2.1;refine Ok.bind (P:=λx=>x=_) (cX (Akm hz.2.1 (by omega) q) rfl) λx hx=>c7 ?_;subst hx;refine⟨hv.1,Ll _ hz.2.1,λx hx=>?_,A1j _ _⟩;rcases(Iv _ _ _).1 hx with hx|hx
   ·rw[hx];exact ae hq
   ·exact hz.2.2.1 x hx
  ·refine(cV (by simp;omega)).bind λm hm=>c7 ?_;subst hm;have e:w64 (k-1)=k-1:=Az (by omega);dsimp only;rw[e];have:=L8 hz.2.1 hz.2.2.1;refine⟨⟨by omega,⟨by simp;omega,λg hg=>?_,Xm h5 λg hg=>?_,λg hg=>?_⟩,hz.1⟩,by omega⟩
   ·rcases am.1 hg with hg|hg
    ·exact h4 g hg
    ·rw[aK.1 hg];exact⟨ae hnm,hz.2.2.2,hz.2.1,hz.2.2.1,by dsimp only;omega⟩
   ·obtain⟨j,hj,e⟩:=h6 g hg;intro he;rw[he]at e;have:=Aog e hnm;omega
   grind
 ·obtain⟨⟨k,h0,h3,h4,h5,_⟩,_⟩:=hz;exact⟨by dsimp only;omega,λg hg=>by
   obtain⟨g1,g2,g3,g4,g5⟩:=h4 g hg;have:=L8 g3 g4;exact⟨g1,g2,g3,g4,by omega⟩,h5⟩
def Ow(C:List Int)(k:Nat)(z:List Ab):Prop:=Eg z/\z.length<=3*k/\∀p,p∈z->(1<=p.Kind/\p.Kind<k)/\(0<=p.Number/\p.Number<=2)/\∃c,C[p.Kind.toNat]? = some c/\p.Number<c
theorem Aq4{C:List Int}(hC:C.length<=10)(h0:C[0]? = some 0)(hs:A5 s) :
  Ok (foldI Ah9 C 0 (s.L,s.At,([]:List Ab))) (D5 (λz=>Ow C 10 z.2.2/\A5 ⟨z.1,z.2.1⟩) λ(_:Unit)=>False):=by
 refine c8 (I:=λj z=>Ow C j z.2.2/\A5 ⟨z.1,z.2.1⟩) ⟨⟨show Eg [] from bS,by simp,by simp⟩,hs⟩ (λj c z hc hz=>?_) λz hz=>⟨⟨hz.1.1,by have:=hz.1.2.1;omega,λp hp=>by have:=hz.1.2.2 p hp;exact⟨by omega,this.2⟩⟩,hz.2⟩;obtain⟨⟨h1,h2,h3⟩,h4⟩:=hz;have hj:j<C.length:=(ab.1 hc).1;unfold Ah9;refine(Alw h4 (n:=min c 3) (by omega) (k:=2) (by omega)).bind λy hy=>?_;obtain⟨y1,y2,y3,y4⟩:=hy;refine Ok.inner (A:=λw=>Ow C (j+1) w) (B:=λ(_:Unit)=>False) ?_ (λw hw=>c7 ⟨hw,y1⟩) (λ_ h=>h.elim);refine c8 (I:=λi w=>Eg w/\w.length=z.2.2.length+i/\∀p,p∈w->((1<=p.Kind/\p.Kind<j)/\(0<=p.Number/\p.Number<=2)/\∃c,C[p.Kind.toNat]? = some c/\p.Number<c)\/(p.Kind=j/\∃k,k<i/\y.1[k]? = some p.Number)) ⟨h1,by simp,λp hp=>.inl (h3 p hp)⟩ (λi x w hx hw=>?_) λw hw=>?_
 ·obtain⟨w1,w2,w3⟩:=hw;have hi:i<y.1.length:=(ab.1 hx).1;unfold Avd;rw[Ck (by omega)];refine(cV (by simp;omega)).bind λm hm=>c7 ?_;subst hm;refine⟨Xm w1 λp hp=>?_,by simp;omega,λp hp=>?_⟩
  ·rw[Gk];rcases w3 p hp with⟨h,_⟩|⟨h,k,hk,e⟩
   ·exact .inl h.2
   ·refine .inr ⟨h,?_⟩;obtain⟨q1,q2⟩:=ab.1 e;obtain⟨q3,q4⟩:=ab.1 hx;have:=bY.1 y2 k i q1 q3 hk;rw[q2,q4]at this;exact this
  grind
 ·obtain⟨w1,w2,w3⟩:=hw;refine⟨w1,by omega,λp hp=>?_⟩;grind
theorem Ow.ptOk{C:List Int}{z:List Ab}(h:Ow C 10 z):∀p,p∈z->Dy p:=λp hp=>by
 have:=h.2.2 p hp;unfold Dy;omega
theorem A2f(hs:A5 s):Ok (F48 s) λy=>Dy y.1/\y.1.Number<=3/\A5 y.2:=by
 unfold F48;refine(Fi hs 1 9 (by omega) (by omega) (by omega)).bind λy hy=>(C8 hy.1 4 (by omega) (by omega)).bind λu hu=>Ok.pure ⟨?_,by have:=hu.2;dsimp only;omega,hu.1⟩;have h1:=hy.2;have h2:=hu.2;unfold Dy;dsimp only;omega
theorem Ayx(hs:A5 s)(hn:0<=n/\n<=100):Ok (F13 s n) λy=>(∀p,p∈y.1->Dy p/\p.Number<=3)/\(y.1.length:Int)<=n/\A5 y.2:=by
 unfold F13;rw[Az (by omega)];refine(C8 hs (n+1) (by omega) (by omega)).bind λy hy=>?_;refine Ok.andThen (A:=λz=>(∀p,p∈z.2.2.2->Dy p/\p.Number<=3)/\(z.2.2.2.length:Int)<=n/\A5 ⟨z.2.1,z.2.2.1⟩) (B:=λ(_:Unit)=>False) ?_ (λz hz=>Ok.pure hz) (λ_ h=>h.elim);have hy2:=hy.2;refine cU (λz=>(0<=z.1/\z.1+(z.2.2.2.length:Int)<=n)/\(∀p,p∈z.2.2.2->Dy p/\p.Number<=3)/\A5 ⟨z.2.1,z.2.2.1⟩) (λz=>z.1.toNat) _ _ ⟨by simp;omega,by simp,hy.1⟩ (by dsimp only;omega) ?_;rintro⟨k,L,a,l⟩ ⟨⟨h1,h2⟩,h3,h4⟩;dsimp only at h1 h2 h3 h4;unfold Avv;refine c6 (λhc=>?_) (λhc=>cY ⟨h3,by dsimp only;omega,h4⟩);simp only[dJ]at hc;refine(A2f h4).bind λu hu=>(cV (by simp;omega)).bind λm hm=>c7 ?_;subst hm;dsimp only;rw[Az (n:=k-1) (by omega)];refine⟨⟨by simp;omega,λp hp=>?_,hu.2.2⟩,by omega⟩;rcases am.1 hp with hp|hp
 ·exact h3 p hp
 ·rw[aK.1 hp];exact⟨hu.1,hu.2.1⟩
theorem Iw(x lo hi:Int):Br x lo hi=true↔lo<=x/\x<=hi:=by
 simp[Br]
theorem yY{x:Int}(h:lo<=x/\x<=hi):Br x lo hi=true:=(Iw x lo hi).2 h
theorem Gm(l:List Int)(x:Int)(h:l.length<=9223372036854775807):Wq l x=some (l.any (x == ·)):=by
 unfold Wq Ay4;rw[Ij (λy=>x==y) (λi y=>rfl) l h];simp only[aa,Lm]
theorem Akf(l:List (List Int))(h:l.length<=9223372036854775807):vD l=some (l.any λx=>(x.length:Int)==0):=by
 unfold vD Aim;rw[Ij (λy=>(y.length:Int)==0) (λi y=>rfl) l h];simp only[aa,Lm]
theorem Akh(h:A1 b):Ok (Ap7 b) (· = true):=by
 unfold Ap7;have hs:=h.sol;have hc:=h.col;have hb:=h.buses;refine(Ok.mkI (by omega) (by omega)).bind λys hys=>(Ok.mkI (by omega) (by omega)).bind λzs hzs=>?_;rw[aB]at hys hzs;refine Ok.andThen (A:=λs=>s.1=(List.range b.Ae.length).map (λi=>((brs b.Ah 2 i).length:Int))/\s.2=(List.range b.Ag.length).map (λi=>(brs b.Ah 3 i).map (·.A))) (B:=λ_=>False) ?_ ?_ (λ_ h=>h.elim)
 ·refine c8 (I:=λj s=>s.1=(List.range b.Ae.length).map (λi=>((brs (b.Ah.take j) 2 i).length:Int))/\s.2=(List.range b.Ag.length).map (λi=>(brs (b.Ah.take j) 3 i).map (·.A))) ?_ ?_ ?_
  ·exact⟨by rw[hys,O6];rfl,by rw[hzs,O6];rfl⟩
  ·rintro j x ⟨us,vs⟩ hx ⟨hu,hv⟩;dsimp only at hu hv;subst hu;subst hv;have hmem:=ae hx;obtain⟨⟨a0,a1⟩,hk⟩:=h.br x hmem;have htk:∀k i,brs (b.Ah.take (j+1)) k i=brs (b.Ah.take j) k i++if x.Kind=k/\x.B=(i:Int)then [x] else []:=λk i=>by rw[Bp hx,Hv,Alp]
   have hall:∀k i,brs b.Ah k i=brs (b.Ah.take (j+1)) k i++brs (b.Ah.drop (j+1)) k i:=λk i=>by rw[←Hv,bU]
   unfold Al7;have e1:w64 (b.Am-1)=b.Am-1:=Az (by omega);have e2:w64 (x.A+1)=x.A+1:=Az (by omega);refine c6 (λhq=>?_) (λ_=>?_)
   ·rw[e1,yY (by omega)]at hq;simp at hq
   refine c6 (λhq=>?_) (λhq=>?_)
   ·simp only[Ag6,ac,dL,Iw]at hq;refine c7 ⟨bi λi _=>?_,bi λi _=>?_⟩
    ·rw[htk,if_neg (by omega),aX]
    ·rw[htk,if_neg (by omega),aX]
   have hq:=ff hq;simp only[Ag6,ac,dL,Iw,e1,e2]at hq;rcases hk with hk|hk|hk
   ·exact absurd ⟨hk.1,by omega⟩ hq
   ·have hBn:x.B=(x.B.toNat:Int):=by omega
    have hone:=h.one x.B.toNat (by omega);have hz:(brs (b.Ah.take j) 2 x.B.toNat).length=0:=by
     rw[hall,htk,if_pos ⟨hk.1,hBn⟩]at hone;simp at hone;omega
    have hg:((x.Kind==2)&&(Br x.B 0 (w64 ((((List.range b.Ae.length).map (λi=>((brs (b.Ah.take j) 2 i).length:Int))).length:Int)-1))))=true:=by
     rw[ac,dL,Iw,aw,List.length_range,Az (by omega)];omega
    dsimp only;refine Ok.bind (P:=λy=>y=0) (c9 (λ_=>(dp (by omega) (by omega)).mono λy hy=>by rw[hy,hz];rfl) λhn=>(Xp hg hn).elim) λy hy=>?_;refine c6 (λhq2=>?_) (λhq2=>?_)
    ·refine(dp (by omega) (by omega)).bind λy2 hy2=>(dv (by omega) (by omega)).bind λy3 hy3=>c7 ⟨?_,bi λi _=>?_⟩
     ·rw[hy3];refine bi λi hi=>?_;by_cases e:i=x.B.toNat
      ·subst e;rw[if_pos rfl,hy2,htk,if_pos ⟨hk.1,hBn⟩,hz,aF,hz];rfl
      ·rw[if_neg e,htk,if_neg (by omega),aX]
     ·rw[htk,if_neg (by omega),aX]
    ·have hq2:=ff hq2;simp only[Ag5,ac,hy]at hq2;rw[ac]at hg;exact absurd ⟨hg,by simp⟩ hq2
   ·have hBn:x.B=(x.B.toNat:Int):=by omega
    have hnod:=h.nodup x.B.toNat;have hnot:x.A∉(brs (b.Ah.take j) 3 x.B.toNat).map (·.A):=by
     rw[hall,htk,if_pos ⟨hk.1,hBn⟩]at hnod;simp only[bB,bw,List.map_nil]at hnod;rw[List.nodup_append]at hnod;have:=hnod.1;rw[List.nodup_append]at this;intro hm;exact this.2.2 _ hm _ (by simp) rfl
    have hg0:((x.Kind==2)&&(Br x.B 0 (w64 ((((List.range b.Ae.length).map (λi=>((brs (b.Ah.take j) 2 i).length:Int))).length:Int)-1))))=false:=by
     have:(x.Kind==2)=false:=by rw[dM];omega
     rw[this];rfl
    have hg:((x.Kind==3)&&(Br x.B 0 (w64 ((((List.range b.Ag.length).map (λi=>(brs (b.Ah.take j) 3 i).map (·.A))).length:Int)-1))))=true:=by
     rw[ac,dL,Iw,aw,List.length_range,Az (by omega)];omega
    dsimp only;refine Ok.bind (P:=λ_=>True) (c9 (λhn=>absurd hn.1 (by rw[hg0];simp)) λ_=>trivial) λy _=>?_;refine c6 (λhq2=>?_) (λ_=>?_)
    ·simp only[Ag5,ac,dL]at hq2;omega
    refine Ok.bind (P:=λy=>y=(brs (b.Ah.take j) 3 x.B.toNat).map (·.A)) (c9 (λ_=>dp (by omega) (by omega)) λhn=>(Xp hg hn).elim) λy14 hy14=>?_;have hyl:y14.length<=24:=by
     rw[hy14,aw];have:=bg (λx=>x.Kind==3&&x.B==((x.B.toNat:Nat):Int)) (b.Ah.take j);have h1:(brs (b.Ah.take j) 3 x.B.toNat).length<=(b.Ah.take j).length:=bg _ _;have h2:=h.brl;rw[aY]at h1;omega
    refine Ok.bind (P:=λy=>y=false) (c9 (λ_=>?_) λhn=>(Xp hg hn).elim) λy16 hy16=>?_
    ·rw[Gm _ _ (by omega)];refine Ok.pure ?_;rw[ch];intro z hz;rw[hy14]at hz;simp only[dL];rintro rfl;exact hnot hz
    refine c6 (λhq2=>?_) (λhq2=>?_)
    ·refine(dp (by omega) (by omega)).bind λy19 hy19=>?_;rw[hy19,←hy14];refine(cV (by simp;omega)).bind λy21 hy21=>(dv (by omega) (by omega)).bind λy23 hy23=>c7 ⟨bi λi _=>?_,?_⟩
     ·rw[htk,if_neg (by omega),aX]
     ·rw[hy23];refine bi λi hi=>?_;by_cases e:i=x.B.toNat
      ·subst e;rw[if_pos rfl,hy21,hy14,htk,if_pos ⟨hk.1,hBn⟩,bB];rfl
      ·rw[if_neg e,htk,if_neg (by omega),aX]
    ·have hq2:=ff hq2;simp only[Ats,ac,hy16]at hq2;rw[ac]at hg;exact absurd ⟨hg,by simp⟩ hq2
  ·rintro⟨us,vs⟩ ⟨hu,hv⟩;rw[aE]at hu hv;exact⟨hu,hv⟩
 ·rintro⟨us,vs⟩ ⟨hu,hv⟩;dsimp only at hu hv ⊢;rw[Gm _ _ (by rw[hu];simp;omega)];have h0:us.any (λy=>0==y)=false:=by
   rw[ch,hu];intro z hz;obtain⟨i,hi,rfl⟩:=ao.1 hz;rw[h.one i (by simpa using hi)];simp
  have h1:vs.any (λx=>(x.length:Int)==0)=false:=by
   rw[ch,hv];intro z hz;obtain⟨i,hi,rfl⟩:=ao.1 hz;have:=h.any i (by simpa using hi);simp only[aw,dL];intro e;exact this (bt (by omega))
  simp only[h0,aa];refine Ok.bind (P:=λy=>y=false) (c9 (λ_=>?_) λhn=>(Xp rfl hn).elim) λy hy=>Ok.pure (by rw[hy];rfl);rw[Akf _ (by rw[hv];simp;omega)];exact Ok.pure h1
theorem Arh{x:B9}(h:Apd x):Ai2 x=true:=by
 obtain⟨h1,h2,h3⟩:=h;simp only[Ai2,ac,Iw];omega
theorem Akg{x:A_}(h:Aqz i x)(hi:i<=1000):Ai1 x (i:Int)=some true:=by
 obtain⟨h1,h2,h3,h4,h5,h6,h7⟩:=h;unfold Ai1;have hf:foldI (Aaz x (i:Int)) x.Needs 0 ()=some (.next ()):=by
  refine D4 _ _ λj n hj=>?_;rw[aJ];have hn:=h6 n (ae hj);have hjl:=(ab.1 hj).1;have hcnt:cnt 0 j=(j:Int):=Ck (by omega);have hin:Br n 0 (w64 ((i:Int)-1))=true:=by rw[Iw,Az (by omega)];omega
  unfold Aaz Atr;rw[hcnt,hin];cases j with
  |zero=>simp[Au,Dv]
  | succ j=>
   obtain⟨p,hp⟩:∃p,x.Needs[j]? = some p:=⟨_,ai (by omega)⟩;have hlt:=h7 j p n hp hj;have e:w64 ((((j+1:Nat):Int))-1)=(j:Int):=by rw[Az (by omega)];omega
   have hg:getI x.Needs (j:Int)=some p:=by
    unfold getI;simp[hp]
   have hd:decide (((j+1:Nat):Int)>0)=true:=dN (by omega);have hd2:decide (p>=n)=false:=by simp;omega
   rw[e,hg,hd];simp[Au,Dv,hd2]
 rw[hf];have:(((((Br x.Load 0 50000)&&(Br x.Least 0 x.Load))&&(Br x.B6 0 15))&&(Br x.Thruster (-1) 7))&&(decide ((x.Needs.length:Int)<=4)))=true:=by
  simp only[ac,Iw,dJ];omega
 simp[andThen,this]
theorem Agu(h:A1 b):Aje b=some 0:=by
 refine cZ ?_;unfold Aje;have h1:=h.buses;have h2:=h.brl;have h3:=h.sol;have h4:=h.col;have h5:=h.phase;have h6:=h.freq;refine c6 (λhc=>?_) (λ_=>?_)
 ·have:Br b.Am 1 6=true:=yY (by omega);simp only[Aud,this,an,dJ,aH,bI,false_or]at hc;omega
 refine(Akh h).bind λy hy=>?_;subst hy;rw[yY (x:=b.Phase) (by omega),yY (x:=b.Ar) (by omega)];refine Ok.andThen (A:=λs=>s=true) (B:=λ(_:Unit)=>False) ?_ ?_ (λ_ h=>h.elim)
 ·refine c8 (I:=λ_ s=>s=true) rfl (λj x s hx hs=>?_) λ_ h=>h;subst hs;refine c7 ?_;rw[Arh (h.so x (ae hx))];rfl
 ·rintro s rfl;refine Ok.andThen (A:=λs=>s=true) (B:=λ(_:Unit)=>False) ?_ ?_ (λ_ h=>h.elim)
  ·refine c8 (I:=λ_ s=>s=true) rfl (λj x s hx hs=>?_) λ_ h=>h;subst hs;have hj:=(ab.1 hx).1;unfold Amv;have:Au [(true,true)] (Ai1 x (cnt 0 j)) default=some true:=by
    rw[Ck (by omega),Akg (h.co j x hx) (by omega)];rfl
   rw[this];exact c7 rfl
  ·rintro s rfl;exact Ok.pure rfl
def Eh(x:Aj):Prop:=(0<=x.State/\x.State<=3)/\(0<=x.Since/\x.Since<=2147483648)/\(0<=x.Ar/\x.Ar<=6000)/\0<=x.Phase/\x.Phase<=3599
def Cv(b:Aa)(x:Ab):Prop:=
 0<=x.Number/\((x.Kind=1/\x.Number<b.Ae.length)\/(x.Kind=2/\x.Number<b.Ah.length)\/(x.Kind=3/\x.Number<b.Am)\/(x.Kind=4/\x.Number<b.Ag.length))
def K8(x y:Ab):Prop:=x.Kind<y.Kind\/x.Kind=y.Kind/\x.Number<y.Number
structure Ef(b:Aa)(l:List Ab):Prop where
 len:l.length<=32
 mem:∀x,x∈l->Cv b x
 asc:∀(j:Nat) x y,l[j]? = some x->l[j+1]? = some y->K8 x y
def Da(l:List Ak)(c:List Bool)(i:Nat):List (Ak×Bool):=(l.zip c).filter λz=>(z.1.Kind==3&&z.1.B==(i:Int))&&z.2
structure Ax(b:Aa)(p:Ad):Prop where
 ncl:p.Ai.length=b.Ah.length
 nso:p.Ae.length=b.Ae.length
 nli:p.Ao.length=b.Ag.length
 run:∀x,x∈p.Ae->Eh x
 lim:∀(i:Nat) n c,p.Ao[i]? = some n->b.Ag[i]? = some c->0<=n/\n<=c.Load
 one:∀i,i<b.Ag.length->(Da b.Ah p.Ai i).length<=1
 brk:Ef b p.Al
theorem Anj{x:Aj}(h:Eh x):Wz x=true:=by
 obtain⟨h1,h2,h3,h4⟩:=h;simp only[Wz,ac,Iw];omega
theorem Anz(l:List Aj)(h:l.length<=9223372036854775807):W0 l=some (l.any λx=>!Wz x):=by
 unfold W0 Ai0;rw[Ij (λy=>!Wz y) (λi y=>rfl) l h];simp only[aa,Lm]
theorem Om(x y:Int):I5 x y=if x<y then -1 else if x>y then 1 else 0:=by
 grind[Tz,I5]
theorem Xn(x y:Int):W5 [x,y]=some (if x=0 then y else x):=by
 grind[W5,andThen,foldI,X5]
theorem A0s(h:A1 b)(hx:Cv b x):Br x.Number 0 (w64 ((M_ b x.Kind)-1))=true:=by
 have h1:=h.buses;have h2:=h.brl;have h3:=h.sol;have h4:=h.col;obtain⟨hn,hk⟩:=hx;have hsz:∃n,M_ b x.Kind=n/\x.Number<n/\n<=100:=by
  unfold M_;grind
 obtain⟨n,e,g1,g2⟩:=hsz;rw[e,Iw,Az (by omega)];omega
theorem Auq(h:A1 b)(hl:Ef b l):Aqn b l=some true:=by
 have hlen:=hl.len;unfold Aqn;have hf:foldI (Abb b l) l 0 ()=some (.next ()):=by
  refine D4 _ _ λj x hj=>?_;rw[aJ];have hjl:=(ab.1 hj).1;have hcnt:cnt 0 j=(j:Int):=Ck (by omega);have hin:=A0s h (hl.mem x (ae hj));unfold Abb Auc;rw[hcnt,hin];cases j with
  |zero=>simp[Au,Dv]
  | succ j=>
   obtain⟨p,hp⟩:∃p,l[j]? = some p:=⟨_,ai (by omega)⟩;have hlt:=hl.asc j p x hp hj;have e:w64 ((((j+1:Nat):Int))-1)=(j:Int):=by rw[Az (by omega)];omega
   have hg:getI l (j:Int)=some p:=by unfold getI;simp[hp]
   have hd:decide (((j+1:Nat):Int)>0)=true:=dN (by omega);have ho:W5 [I5 p.Kind x.Kind,I5 p.Number x.Number]=some (-1):=by
    rw[Xn,Om,Om];rcases hlt with h1|⟨h1,h2⟩
    ·simp[h1]
    ·simp[h1,h2]
   rw[e,hg,hd];simp[Au,Dv,ho]
 rw[hf];have:decide ((l.length:Int)<=32)=true:=by simp;omega
 simp[andThen,this]
theorem Nn{l:List Ak}{x:Ak}{v:Bool}(hx:l[j]? = some x)(hv:c[j]? = some v)(i:Nat) :
  Da (l.take (j+1)) (c.take (j+1)) i=Da (l.take j) (c.take j) i++if((x.Kind==3&&x.B==(i:Int))&&v)=true then [(x,v)] else []:=by
 unfold Da;rw[Bp hx,Bp hv,List.zip_append (by
  grind),bp]
 congr 1;simp only[ci,List.zip_nil_right,bn,List.filter_nil]
theorem Atg(h:A1 b)(hc:p.Ai.length=b.Ah.length)(i:Nat):Aqm b p (i:Int)=some (((Da b.Ah p.Ai i).length:Nat):Int):=by
 refine cZ ?_;unfold Aqm;have hb:=h.brl;refine Ok.andThen (A:=λs=>s=(((Da b.Ah p.Ai i).length:Nat):Int)) (B:=λ(_:Unit)=>False) ?_ (λs hs=>Ok.pure hs) (λ_ h=>h.elim);refine c8 (I:=λj s=>s=(((Da (b.Ah.take j) (p.Ai.take j) i).length:Nat):Int)) ?_ (λj x s hx hs=>?_) λs hs=>?_
 ·simp[Da]
 ·have hj:=(ab.1 hx).1;obtain⟨v,hv⟩:∃v,p.Ai[j]? = some v:=⟨_,ai (by omega)⟩;have hcnt:cnt 0 j=(j:Int):=Ck (by omega);have hg:getI p.Ai (j:Int)=some v:=by unfold getI;simp[hv]
  have hle:(Da (b.Ah.take j) (p.Ai.take j) i).length<=24:=by
   have h1:(Da (b.Ah.take j) (p.Ai.take j) i).length<=((b.Ah.take j).zip (p.Ai.take j)).length:=bg _ _;simp at h1;omega
  subst hs;unfold Amu Aub;rw[hcnt,hg,Nn hx hv];cases hk:(x.Kind==3&&x.B==(i:Int)) with
  |false=>
   simp only[Au,Dv,Bool.false_and];exact c7 (by simp)
  | true=>
   simp only[Au,Dv,bu];cases v with
   |false=>exact c7 (by simp)
   |true=>
    refine c7 ?_;show w64 _=_;rw[Az (by omega)];simp
 grind
theorem E_(h:A1 b)(hp:Ax b p):Jh b p=some 0:=by
 refine cZ ?_;unfold Jh;have h1:=hp.ncl;have h2:=hp.nso;have h3:=hp.nli;have h4:=h.col;have h5:=h.sol;rw[Agu h];simp only[aa];have c0:Ahl b p=false:=by
  simp[Ahl,h1,h2,h3]
 have c1:((0:Int) != 0)=false:=rfl;rw[c1,c0,Auq h hp.brk];simp only[cond_false,aa];have hr:(p.Ae.any λx=>!Wz x)=false:=by
  rw[ch];intro x hx;rw[Anj (hp.run x hx)];simp
 have:Au [(true,true)] (W0 p.Ae) default=some false:=by
  rw[Anz _ (by omega),hr];rfl
 rw[this];simp only[aa];refine Ok.andThen (A:=λs=>s=true) (B:=λ(_:Unit)=>False) ?_ ?_ (λ_ h=>h.elim)
 ·refine c8 (I:=λ_ s=>s=true) rfl (λj x s hx hs=>?_) λ_ h=>h;subst hs;have hj:=(ab.1 hx).1;obtain⟨c,hc⟩:∃c,b.Ag[j]? = some c:=⟨_,ai (by omega)⟩;have hcnt:cnt 0 j=(j:Int):=Ck (by omega);have hg:getI b.Ag (j:Int)=some c:=by unfold getI;simp[hc]
  have hl:=hp.lim j x c hx hc;have hone:=hp.one j (by omega);unfold Am6;rw[hcnt,hg];have e1:Au [(true,true)] (some c) default=some c:=rfl;rw[e1];simp only[aa];have e2:(true&&Br x 0 c.Load)=true:=by rw[yY hl];rfl
  rw[e2,Atg h h1];have e3:Au [(true,true)] (some (((Da b.Ah p.Ai j).length:Nat):Int)) default=some (((Da b.Ah p.Ai j).length:Nat):Int):=rfl;rw[e3];simp only[aa];refine c7 ?_;simp;omega
 ·rintro s rfl;exact Ok.pure rfl
set_option linter.unusedVariables false
theorem Ayo(l:List Ab)(p:Ab):l.any (λx=>Ez p x)=Di l p:=by
 unfold Di;congr 1;funext x;unfold Ez;grind
theorem Qv(l:List Ab)(p:Ab)(h:l.length<=9223372036854775807):F53 l p=some (Di l p):=by
 unfold F53 Ajn Aqo;rw[Ij (λy=>Ez p y) (λi y=>by rw[←Lg];rfl) l h];simp only[aa,Lm,Ayo]
theorem Axd(l:List Ab)(p:Ab):F23 l p=some (Di l p):=by
 unfold F23;have:∀(l:List Ab)(k:Nat),foldI (Ai3 p) l k ()=bif Di l p then some (.ret true) else some (.next ()):=by
  intro l;induction l with
  |nil=>intro k;rfl
  |cons x l ih=>
   intro k;unfold foldI Ai3 A0c;rw[Lg];have e:Di (x::l) p=(Ez x p || Di l p):=rfl;rw[e];cases Ez x p with
   |true=>rfl
   |false=>exact ih (k+1)
 rw[this];cases Di l p <;> rfl
theorem Afo{p:Ab}(h:p∈l):Di l p=true:=J2.2 h
theorem zO(h:Dm x y=true):Nc x y=some (-1):=by
 unfold Nc;rw[Xn,Om,Om];rw[Gk]at h;grind
theorem Atd(x:Ab):Nc x x=some 0:=by
 unfold Nc;rw[Xn,Om,Om];simp
theorem Atc{x y:Bh}(h:An7 x y):Ok (Aqp x y) (· = -1):=by
 unfold Aqp;have hc:∀a b:Ab,Ok (Nc a b) λ_=>True:=λa b=>by
  unfold Nc;rw[Xn];exact⟨_,rfl,trivial⟩
 rcases h with h|⟨h1,h2⟩
 ·refine Ok.bind (P:=λv=>v = -1) (cX (zO h) rfl) λv hv=>(hc _ _).bind λu _=>?_;subst hv;rw[Xn];exact Ok.pure rfl
 ·rw[h1];refine Ok.bind (P:=λv=>v=0) (cX (Atd _) rfl) λv hv=>Ok.bind (P:=λv=>v = -1) (cX (zO h2) rfl) λu hu=>?_;subst hv;subst hu;rw[Xn];exact Ok.pure rfl
theorem Alq(hl:Eg l)(hn:l.length<=1000):W6 l=some true:=by
 refine cZ ?_;unfold W6;refine Ok.andThen (A:=λ_=>True) (B:=λ_=>False) ?_ (λ_ _=>Ok.pure rfl) (λ_ h=>h.elim);refine cU (λz=>1<=z/\z<=1001) (λz=>((l.length:Int)-z).toNat) _ _ ⟨by omega,by omega⟩ (by omega) λz hz=>?_;unfold Adq;refine c6 (λhc=>?_) (λ_=>cY trivial);simp only[dJ]at hc;rw[Az (n:=z-1) (by omega),Az (n:=z+1) (by omega)];refine(cW (by omega) (by omega)).bind λa ha=>(cW (by omega) hc).bind λb hb=>?_;refine Ok.bind (P:=λv=>v = -1) (cX (zO (V0 hl ha hb (by omega))) rfl) λv hv=>?_;subst hv;exact c7 ⟨by omega,by omega⟩
theorem A16{l:List Bh}(hl:l.Pairwise An7)(hn:l.length<=1000):vN l=some true:=by
 refine cZ ?_;unfold vN;refine Ok.andThen (A:=λ_=>True) (B:=λ_=>False) ?_ (λ_ _=>Ok.pure rfl) (λ_ h=>h.elim);refine cU (λz=>1<=z/\z<=1001) (λz=>((l.length:Int)-z).toNat) _ _ ⟨by omega,by omega⟩ (by omega) λz hz=>?_;unfold Adp;refine c6 (λhc=>?_) (λ_=>cY trivial);simp only[dJ]at hc;rw[Az (n:=z-1) (by omega),Az (n:=z+1) (by omega)];refine(cW (by omega) (by omega)).bind λa ha=>(cW (by omega) hc).bind λb hb=>?_;obtain⟨h1,e1⟩:=ab.1 ha;obtain⟨h2,e2⟩:=ab.1 hb;have:=bY.1 hl _ _ h1 h2 (by omega);rw[e1,e2]at this;refine(Atc this).bind λv hv=>?_;subst hv;exact c7 ⟨by omega,by omega⟩
theorem A3c{p:Ab}(h:Dy p):Ajh p=true:=by
 unfold Dy at h;simp only[Ajh,ac,dJ];omega
theorem Awo(h:∀p,p∈l->Dy p)(hn:l.length<=1000):vP l=some false:=by
 unfold vP Ai6;rw[Ij (λy=>Aji y) (λi y=>rfl) l (by omega)];grind[Aji,Lm,A3c]
theorem Anf(hl:Eg l)(h:∀p,p∈l->Dy p)(hn:l.length<=1000):Aqx l=some true:=by
 unfold Aqx;rw[Awo h hn,Alq hl hn];rfl
theorem Ar2{d:Bf}(h:X7 d):Aqw d=some true:=by
 have hl:=h.len;have hk:=h.links.len;refine cZ ?_;unfold Aqw;refine Ok.andThen (A:=λ_=>True) (B:=λ_=>False) ?_ (λ_ _=>?_) (λ_ h=>h.elim)
 ·refine c8 (I:=λ_ _=>True) trivial (λj x _ hx _=>?_) λ_ _=>trivial;obtain⟨h1,h2,h3⟩:=h.links.mem x (ae hx);unfold Am8;refine Ok.bind (P:=λv=>v=true) (cX (Qv _ _ (by omega)) (Afo h1)) λv hv=>?_;subst hv;refine Ok.bind (P:=λv=>v=true) (c9 (λ_=>cX (Qv _ _ (by omega)) (Afo h2)) (λhn=>absurd ⟨rfl,trivial⟩ hn)) λv hv=>?_;subst hv;refine c6 (λhc=>?_) (λ_=>c7 trivial);simp only[Aun,aH,Bool.or_self,aW,Lg]at hc;exact absurd (Dn.1 hc) h3
 ·rw[A16 h.links.asc (by omega)];exact Ok.pure rfl
theorem A0j{s:ByteArray}(h:s∈Iy):Azd s=some true:=by
 simp only[Iy,ag,List.not_mem_nil,or_false]at h;rcases h with rfl|rfl|rfl|rfl <;> kernel_rfl
theorem Arx{d:Bf}(h:X7 d)(hl:∀p,p∈l->p∈d.Parts):vO l d=some (false,d):=by
 have hn:=h.len;refine cZ ?_;unfold vO Ai5;refine Ok.bind (P:=λy=>y=(-1,d)) ?_ (λy hy=>Ok.pure (by rw[hy];rfl));refine Ok.andThen (A:=λ_=>True) (B:=λ_=>False) ?_ (λ_ _=>Ok.pure rfl) (λ_ h=>h.elim);refine c8 (I:=λ_ _=>True) trivial (λj x _ hx _=>?_) λ_ _=>trivial;unfold Ado Ajf;rw[Qv _ _ (by omega),Afo (hl x (ae hx))];exact c7 trivial
theorem A6m{a b:ByteArray}(h:a.toList=b.toList):a=b:=by
 rw[ByteArray.toList_eq,ByteArray.toList_eq]at h;exact ByteArray.ext (Array.toList_inj.1 h)
theorem A3m{l:List Bz}{g:Bz}(h:∀x,x∈l->x.Name≠g.Name):vM l g=some (false,g):=by
 refine cZ ?_;unfold vM Ai4;refine Ok.bind (P:=λy=>y=(-1,g)) ?_ (λy hy=>Ok.pure (by rw[hy];rfl));refine Ok.andThen (A:=λ_=>True) (B:=λ_=>False) ?_ (λ_ _=>Ok.pure rfl) (λ_ h=>h.elim);refine c8 (I:=λ_ _=>True) trivial (λj x _ hx _=>?_) λ_ _=>trivial;unfold Adn;refine c6 (λhc=>?_) (λ_=>c7 trivial);simp only[Ajg,dL]at hc;exact absurd (A6m hc) (h x (ae hx))
theorem Aof{d:Bf}(h:X7 d):Aqv d=some true:=by
 have hl:=h.len;have hk:=h.groups.len;refine cZ ?_;unfold Aqv;refine Ok.andThen (A:=λ_=>True) (B:=λ_=>False) ?_ (λ_ _=>Ok.pure rfl) (λ_ h=>h.elim);refine c8 (I:=λ_ z=>z=(d.Parts,d.Links,d.Groups)) rfl (λj g z hg hz=>?_) λ_ _=>trivial;subst hz;obtain⟨h1,h2,h3,h4,h5⟩:=h.groups.mem g (ae hg);have hj:=(ab.1 hg).1;unfold Am7;refine Ok.bind (P:=λv=>v=true) (cX (A0j h1) rfl) λv hv=>?_;subst hv;refine Ok.bind (P:=λv=>v=d.Groups.take j) (c9 (λ_=>(Ok.cutI (by omega) (by rw[Ck (by omega)];omega) (by rw[Ck (by omega)];dsimp only;omega)).mono λy hy=>?_) (λhn=>absurd ⟨rfl,trivial⟩ hn)) λv hv=>?_
 ·rw[hy,Ck (by omega)];simp
 subst hv;refine Ok.bind (P:=λv=>v=(false,g)) (c9 (λ_=>cX (A3m λx hx=>?_) rfl) (λhn=>absurd ⟨rfl,trivial⟩ hn)) λv hv=>?_
 ·obtain⟨i,hi⟩:=bm hx;rw[aq]at hi;split at hi
  ·obtain⟨q1,q2⟩:=ab.1 hi;obtain⟨q3,q4⟩:=ab.1 hg;have:=bY.1 h.groups.dist i j q1 q3 (by assumption);rw[q2,q4]at this;exact this
  ·cases hi
 subst hv;have hne:((g.Parts.length:Int)==0)=false:=by
  cases e:g.Parts with
  |nil=>exact absurd e h2
  |cons a b=>grind
 refine Ok.bind (P:=λv=>v=(false,d)) (c9 (λ_=>cX (Arx h h4) rfl) (λhn=>absurd ⟨by simp[hne],trivial⟩ hn)) λv hv=>?_;subst hv;refine Ok.bind (P:=λv=>v=true) (c9 (λ_=>cX (Alq (l:=g.Parts) h3 (by omega)) rfl) (λhn=>absurd ⟨by simp[hne],trivial⟩ hn)) λv hv=>?_;subst hv;refine c6 (λhc=>?_) (λ_=>c7 rfl);simp[Aum,hne]at hc
theorem Yl{d:Bf}(h:X7 d):F50 d=some 0:=by
 have h1:=h.len;have h2:=h.links.len;have h3:=h.groups.len;unfold F50;have e:Ao8 d=false:=by
  simp only[Ao8,aQ,dK];omega
 rw[e,Anf h.asc h.ok (by omega),Ar2 h,Aof h];rfl
theorem Anb{a b:List Ab}:x∈Kn a b↔x∈a\/x∈b:=by
 grind[Kn,J9]
theorem Anc(a b:List Ab):Eg (Kn a b):=Ih _
theorem Ab1:∀l:List Ab,(Jm l).length<=l.length
 | []=>by simp[Jm]
 |x::l=>by
  have h1:=Ab1 l;have h2:=Y4 x (Jm l);grind[Jm]
theorem R5(a b:List Ab):(Kn a b).length<=a.length+b.length:=by
 have:=Ab1 (a++b);rw[aF]at this;exact this
theorem Kk(x lo hi:Int):Ch x lo hi=true↔lo<=x/\x<=hi:=by
 simp[Ch]
theorem qI(h:A1 b)(x:Ab):Xe b x=true↔Cv b x:=by
 have h1:=h.buses;have h2:=h.brl;have h3:=h.sol;have h4:=h.col;unfold Xe Cv;rw[Az (n:=(b.Ae.length:Int)-1) (by omega),Az (n:=(b.Ah.length:Int)-1) (by omega),Az (n:=b.Am-1) (by omega),Az (n:=(b.Ag.length:Int)-1) (by omega)];by_cases k1:x.Kind=1
 ·rw[dL.2 k1,cond_true,Kk];omega
 rw[dM.2 k1,cond_false];by_cases k2:x.Kind=2
 ·rw[dL.2 k2,cond_true,Kk];omega
 rw[dM.2 k2,cond_false];by_cases k3:x.Kind=3
 ·rw[dL.2 k3,cond_true,Kk];omega
 rw[dM.2 k3,cond_false];by_cases k4:x.Kind=4
 ·rw[dL.2 k4,cond_true,Kk];omega
 grind
theorem Af3{l:List Ak}:∀{c d:List Bool},c.length=d.length->(∀k:Nat,c[k]? = some true->d[k]? = some true)->∀i,(Da l c i).length<=(Da l d i).length:=by
 induction l with
 |nil=>intro c d _ _ i;simp[Da]
 | cons x l ih=>
  intro c d hl h i;cases c with
  |nil=>simp[Da]
  | cons v c=>cases d with
   |nil=>simp at hl
   |cons u d=>
    have:=ih (c:=c) (d:=d) (by simpa using hl) (λk hk=>by have:=h (k+1) (by simpa using hk);simpa using this) i;have h0:v=true->u=true:=λe=>by have:=h 0 (by simp[e]);simpa using this
    unfold Da at this ⊢;simp only[ci,bn];grind
theorem Awj(h:A1 b)(hs0:A5 s0) :
  Ok (whileN (Xc b) 1152921504606846976 (0,s0.L,s0.At,([]:List Bool))) (D5 (λs=>A5 ⟨s.2.1,s.2.2.1⟩/\s.2.2.2.length=b.Ah.length) (λ(_:Unit)=>False)):=by
 have hb:=h.brl;refine cU (λs=>(0<=s.1/\s.1<=(b.Ah.length:Int))/\A5 ⟨s.2.1,s.2.2.1⟩/\(s.2.2.2.length:Int)=s.1) (λs=>((b.Ah.length:Int)-s.1).toNat) _ _ ?_ ?_ ?_
 ·exact⟨by dsimp only;omega,hs0,by simp⟩
 ·dsimp only;omega
 ·rintro⟨i,L,a,l⟩ ⟨⟨h1,h2⟩,h4,h5⟩;dsimp only at h1 h2 h4 h5;unfold Xc Ahe;refine c6 (λh=>?_) (λh=>?_)
  ·simp only[dJ]at h;have e:w64 (i+1)=i+1:=Az (by omega);dsimp only;rw[e];refine(C8 h4 2 (by omega) (by omega)).bind λu hu=>(cV (by simp;omega)).bind λm hm=>c7 ?_;subst hm;exact⟨⟨by dsimp only;omega,hu.1,by simp;omega⟩,by dsimp only;omega⟩
  ·simp only[dK]at h;exact cY ⟨h4,by dsimp only;omega⟩
variable{l:List α}
theorem B4{x:α}(h:l[j]? = some x):getI l (j:Int)=some x:=by unfold getI;simp[h]
theorem Yv{x:α}(h:j<l.length):setI l (j:Int) x=some (l.set j x):=by
 grind[setI]
theorem Awh(h:A1 b)(hn:n=(i:Int))(hc:c.length=b.Ah.length)(w:Int×List Bool)(hw:w.1=n) :
  Ok (foldI (Xa w) b.Ah 0 (true,c)) (D5 (λs=>s.2.length=b.Ah.length/\(∀k:Nat,s.2[k]? = some true->c[k]? = some true)/\(Da b.Ah s.2 i).length<=1) (λ(_:Unit)=>False)):=by
 have hb:=h.brl;refine c8 (I:=λj s=>s.2.length=b.Ah.length/\(∀k:Nat,s.2[k]? = some true->c[k]? = some true)/\(s.1=true->Da (b.Ah.take j) (s.2.take j) i=[])/\(Da (b.Ah.take j) (s.2.take j) i).length<=1) ?_ (λj x s hx hs=>?_) λs hs=>?_
 ·exact⟨hc,λ_ h=>h,λ_=>by simp[Da],by simp[Da]⟩
 ·obtain⟨f,d⟩:=s;obtain⟨h1,h2,h3,h4⟩:=hs;dsimp only at h1 h2 h3 h4;have hj:=(ab.1 hx).1;obtain⟨v,hv⟩:∃v,d[j]? = some v:=⟨_,ai (by omega)⟩;have hcnt:cnt 0 j=(j:Int):=Ck (by omega);unfold Xa Ac0;dsimp only;rw[hcnt,B4 hv,Yv (by omega),hw,hn];cases hk:(x.Kind==3&&x.B==(i:Int)) with
  |false=>
   simp only[Au,Dv,Bool.false_and];refine c7 ⟨h1,h2,λe=>?_,?_⟩ <;> dsimp only <;> rw[Nn hx hv,hk]
   ·simpa using h3 e
   ·simpa using h4
  | true=>
   simp only[Au,Dv,bu];cases v with
   |false=>
    refine c7 ⟨h1,h2,λe=>?_,?_⟩ <;> dsimp only <;> rw[Nn hx hv,hk]
    ·simpa using h3 e
    ·simpa using h4
   | true=>
    have hset:(d.set j f)[j]? = some f:=by rw[bN (by omega)]
    have htake:(d.set j f).take j=d.take j:=by rw[List.take_set_of_le (af j)]
    refine c7 ⟨by simpa using h1,λk hk2=>?_,λe=>?_,?_⟩
    ·grind
    ·cases e
    ·dsimp only;rw[Nn hx hset,hk,htake];cases f with
     |false=>simpa using h4
     |true=>simp[h3 rfl]
 grind
theorem Awi(h:A1 b)(hc:c.length=b.Ah.length) :
  Ok (whileN (Xb b) 1152921504606846976 (0,c)) (D5 (λs=>s.2.length=b.Ah.length/\∀i,i<b.Ag.length->(Da b.Ah s.2 i).length<=1) (λ(_:Unit)=>False)):=by
 have hco:=h.col;refine cU (λs=>(0<=s.1/\s.1<=(b.Ag.length:Int))/\s.2.length=b.Ah.length/\∀i:Nat,(i:Int)<s.1->(Da b.Ah s.2 i).length<=1) (λs=>((b.Ag.length:Int)-s.1).toNat) _ _ ?_ ?_ ?_
 ·grind
 ·dsimp only;omega
 ·rintro⟨n,d⟩ ⟨⟨h1,h2⟩,h3,h4⟩;dsimp only at h1 h2 h3 h4;unfold Xb Ahd;refine c6 (λhq=>?_) (λhq=>?_)
  ·simp only[dJ]at hq;have e:w64 (n+1)=n+1:=Az (by omega);dsimp only;refine(Awh h (n:=n) (i:=n.toNat) (by omega) h3 (n,d) rfl).inner (λs hs=>?_) (λ_ h=>h.elim);rw[e];obtain⟨g1,g2,g3⟩:=hs;refine c7 ⟨⟨by dsimp only;omega,g1,λi hi=>?_⟩,by dsimp only;omega⟩;dsimp only at hi ⊢;by_cases e:(i:Int)=n
   ·have:i=n.toNat:=by omega
    subst this;exact g3
   ·exact ay (Af3 (by omega) g2 i) (h4 i (by omega))
  ·simp only[dK]at hq;exact cY ⟨h3,λi hi=>h4 i (by omega)⟩
theorem Awg(h:A1 b)(hs0:A5 s0) :
  Ok (whileN (W_ b) 1152921504606846976 (0,s0.L,s0.At,([]:List Aj))) (D5 (λs=>A5 ⟨s.2.1,s.2.2.1⟩/\s.2.2.2.length=b.Ae.length/\∀x,x∈s.2.2.2->Eh x/\x.Since<=4) (λ(_:Unit)=>False)):=by
 have hb:=h.sol;refine cU (λs=>(0<=s.1/\s.1<=(b.Ae.length:Int))/\A5 ⟨s.2.1,s.2.2.1⟩/\(s.2.2.2.length:Int)=s.1/\∀x,x∈s.2.2.2->Eh x/\x.Since<=4) (λs=>((b.Ae.length:Int)-s.1).toNat) _ _ ?_ ?_ ?_
 ·exact⟨by dsimp only;omega,hs0,by simp,λx hx=>by simp at hx⟩
 ·dsimp only;omega
 ·rintro⟨i,L,a,l⟩ ⟨⟨h1,h2⟩,h4,h5,h6⟩;dsimp only at h1 h2 h4 h5 h6;unfold W_ Acz;refine c6 (λh=>?_) (λh=>?_)
  ·simp only[dJ]at h;have e:w64 (i+1)=i+1:=Az (by omega);dsimp only;rw[e];refine(Cx h4 _ (by simp) (by simp)).bind λu hu=>(C8 hu.1 5 (by omega) (by omega)).bind λv hv=>(Cx hv.1 _ (by simp) (by simp)).bind λp hp=>(Cx hp.1 _ (by simp) (by simp)).bind λq hq=>(cV (by simp;omega)).bind λm hm=>c7 ?_;subst hm;have g1:u.1=0\/u.1=1\/u.1=2\/u.1=2\/u.1=2\/u.1=3:=by simpa using hu.2
   have g2:=hv.2;have g3:p.1=5000\/p.1=5000\/p.1=5005\/p.1=4950:=by simpa using hp.2
   have g4:q.1=0\/q.1=0\/q.1=40\/q.1=1800\/q.1=3590:=by simpa using hq.2
   refine⟨⟨by dsimp only;omega,hq.1,by simp;omega,λx hx=>?_⟩,by dsimp only;omega⟩;rcases am.1 hx with hx|hx
   ·exact h6 x hx
   ·simp at hx;subst hx;exact⟨⟨by dsimp only;omega,by dsimp only;omega,by dsimp only;omega,by dsimp only;omega⟩,by dsimp only;omega⟩
  ·simp only[dK]at h;exact cY ⟨h4,by dsimp only;omega,h6⟩
theorem Awf(h:A1 b)(hs0:A5 s0) :
  Ok (foldI W9 b.Ag 0 (s0.L,s0.At,([]:List Int))) (D5 (λs=>A5 ⟨s.1,s.2.1⟩/\s.2.2.length=b.Ag.length/\∀(i:Nat) n c,s.2.2[i]? = some n->b.Ag[i]? = some c->0<=n/\n<=c.Load) (λ(_:Unit)=>False)):=by
 have hb:=h.col;refine c8 (I:=λj s=>A5 ⟨s.1,s.2.1⟩/\s.2.2.length=j/\∀(i:Nat) n c,s.2.2[i]? = some n->b.Ag[i]? = some c->0<=n/\n<=c.Load) ?_ (λj x s hx hs=>?_) λs hs=>hs
 ·exact⟨hs0,rfl,λi n c hn=>by simp at hn⟩
 ·obtain⟨L,a,l⟩:=s;obtain⟨h1,h2,h3⟩:=hs;dsimp only at h1 h2 h3;have hj:=(ab.1 hx).1;unfold W9;dsimp only;refine(Cx h1 _ (by simp) (by simp)).bind λu hu=>(cV (by simp;omega)).bind λm hm=>c7 ⟨hu.1,?_,λi n c hn hc=>?_⟩
  ·subst hm;simp[h2]
  ·dsimp only at hn;subst hm;rw[cd]at hn;split at hn
   ·exact h3 i n c hn hc
   ·rename_i hi;have hlt:=(ab.1 hn).1;simp at hlt;have:i=j:=by omega
    subst this;rw[hx]at hc;cases hc;rw[h2]at hn;simp at hn;subst hn;obtain⟨g1,g2,_⟩:=h.co _ x hx;have g3:=Avz (x:=x.Load) (by omega) (by omega);grind
theorem Awe(h:A1 b)(hs0:A5 s0) :
  Ok (whileN (W8 b) 7 (1,s0.L,s0.At,([]:List Ab))) (D5 (λs=>A5 ⟨s.2.1,s.2.2.1⟩/\Ef b s.2.2.2/\s.2.2.2.length<=4) (λ(_:Unit)=>False)):=by
 refine cU (λs=>(1<=s.1/\s.1<=5)/\A5 ⟨s.2.1,s.2.2.1⟩/\((s.2.2.2.length:Int)<s.1)/\(∀x,x∈s.2.2.2->Cv b x/\x.Kind<s.1)/\∀(j:Nat) x y,s.2.2.2[j]? = some x->s.2.2.2[j+1]? = some y->K8 x y) (λs=>(5-s.1).toNat) _ _ ?_ ?_ ?_
 ·exact⟨by dsimp only;omega,hs0,by simp,λx hx=>by simp at hx,λj x y hx=>by simp at hx⟩
 ·dsimp only;omega
 ·rintro⟨i,L,a,l⟩ ⟨⟨h1,h2⟩,h4,h5,h6,h7⟩;dsimp only at h1 h2 h4 h5 h6 h7;unfold W8;refine c6 (λhq=>?_) (λhq=>?_)
  ·simp only[dJ]at hq;have e:w64 (i+1)=i+1:=Az (by omega);dsimp only;rw[e];have skip:∀{u:Af},A5 u->Ok (some (.next (i+1,u.L,u.At,l)):Option (Ctl (Int×List Int×Int×List Ab) Unit)) (Gg (λs=>((1<=s.1/\s.1<=5)/\A5 ⟨s.2.1,s.2.2.1⟩/\((s.2.2.2.length:Int)<s.1)/\(∀x,x∈s.2.2.2->Cv b x/\x.Kind<s.1)/\∀(j:Nat) x y,s.2.2.2[j]? = some x->s.2.2.2[j+1]? = some y->K8 x y)/\(5-s.1).toNat<(5-i).toNat) (λs=>A5 ⟨s.2.1,s.2.2.1⟩/\Ef b s.2.2.2/\s.2.2.2.length<=4) (λ_=>False)):=λhu=>
    c7 ⟨⟨by dsimp only;omega,hu,by dsimp only;omega,λx hx=>⟨(h6 x hx).1,by have:=(h6 x hx).2;dsimp only;omega⟩,h7⟩,by dsimp only;omega⟩
   refine(C8 h4 5 (by omega) (by omega)).bind λu hu=>c6 (λ_=>?_) (λ_=>skip hu.1);refine(C8 hu.1 4 (by omega) (by omega)).bind λv hv=>c6 (λhe=>?_) (λ_=>skip hv.1);rw[qI h]at he;refine(cV (by simp;omega)).bind λm hm=>c7 ?_;subst hm;refine⟨⟨by dsimp only;omega,hv.1,by simp;omega,λx hx=>?_,λj x y hx hy=>?_⟩,by dsimp only;omega⟩
   ·rcases am.1 hx with hx|hx
    ·exact⟨(h6 x hx).1,by have:=(h6 x hx).2;dsimp only;omega⟩
    ·simp at hx;subst hx;exact⟨he,by dsimp only;omega⟩
   ·dsimp only at hx hy;have hyl:=(ab.1 hy).1;simp at hyl;rw[aA (by omega)]at hx;rw[cd]at hy;split at hy
    ·exact h7 j x y hx hy
    ·rename_i hn;have e0:j+1-l.length=0:=by omega
     rw[e0]at hy;simp at hy;subst hy;exact .inl (h6 x (ae hx)).2
  ·simp only[dK]at hq;exact cY ⟨h4,⟨by dsimp only;omega,λx hx=>(h6 x hx).1,h7⟩,by dsimp only;omega⟩
theorem Auw(h:A1 b)(hs:A5 s):Ok (Xd s b) λy=>((Ax b y.1/\y.1.Al.length<=4)/\A5 y.2)/\∀x,x∈y.1.Ae->x.Since<=4:=by
 unfold Xd;refine(Awj h hs).andThen (λs0 h0=>?_) (λ_ h=>h.elim);refine(Awi h h0.2).andThen (λs1 h1=>?_) (λ_ h=>h.elim);refine(Awg h h0.1).andThen (λs3 h3=>?_) (λ_ h=>h.elim);refine(Awf h h3.1).andThen (λs4 h4=>?_) (λ_ h=>h.elim);refine(Awe h h4.1).andThen (λs5 h5=>?_) (λ_ h=>h.elim);exact Ok.pure ⟨⟨⟨⟨h1.1,h3.2.1,h4.2.1,λx hx=>(h3.2.2 x hx).1,h4.2.2,h1.2,h5.2.1⟩,h5.2.2⟩,h5.1⟩,λx hx=>(h3.2.2 x hx).2⟩
theorem Ayw(h:A1 b)(hs:A5 s):Ok (Xd s b) λy=>(Ax b y.1/\y.1.Al.length<=4)/\A5 y.2:=(Auw h hs).mono λ_ hy=>hy.1
def Ft(b:Aa)(p:Ad)(k i:Int):Option Int:=((b.Ah.zip p.Ai).find? λz=>(z.1.Kind==k&&z.1.B==i)&&z.2).map (·.1.A)
def Fw(o:Option Int):Int×Bool:=match o with
 |some a=>(a,true)
 |none=>(0,false)
theorem Afi{p:Ad}{k i:Int}:∀(l:List Ak)(c:List Bool)(n:Nat),n+l.length<=9223372036854775807->l.length=c.length->p.Ai.drop n=c ->
  foldI (Aao p k i) l n ()=match ((l.zip c).find? λz=>(z.1.Kind==k&&z.1.B==i)&&z.2) with
   |some z=>some (.ret (z.1.A,true))
   |none=>some (.next ())
 | [],c,n,_,_,_=>by simp[foldI]
 |x::l,[],n,_,h,_=>by simp at h
 | x::l,v::c,n,hn,h,hd=>by
  simp only[aU]at hn h;have hv:p.Ai[n]? = some v:=by
   have:=congrArg (·[0]?) hd;simpa[List.getElem?_drop]using this
  have hd':p.Ai.drop (n+1)=c:=by rw[←bP,hd];rfl
  have ih:=Afi (p:=p) (k:=k) (i:=i) l c (n+1) (by omega) (by omega) hd';have hcnt:cnt 0 n=(n:Int):=Ck (by omega);simp only[foldI,Aao,Atp,hcnt,B4 hv,ci,List.find?_cons];cases hk:(x.Kind==k&&x.B==i) with
  |false=>simpa[Au,Dv]using ih
  |true=>
   cases v with
   |false=>simpa[Au,Dv]using ih
   |true=>simp[Au,Dv]
theorem Ar5(h:A1 b)(hc:p.Ai.length=b.Ah.length)(k i:Int):Aiq b p k i=some (Fw (Ft b p k i)):=by
 have hb:=h.brl;unfold Aiq;rw[Afi b.Ah p.Ai 0 (by omega) (by omega) rfl];unfold Ft;cases (b.Ah.zip p.Ai).find? λz=>(z.1.Kind==k&&z.1.B==i)&&z.2 with
 |none=>rfl
 |some z=>rfl
theorem Af4(h:A1 b)(hc:p.Ai.length=b.Ah.length)(i:Int):Aa0 b p i=some (Fw (Ft b p 3 i)):=by
 unfold Aa0;rw[Ar5 h hc];rfl
def Hi(b:Aa)(p:Ad)(i:Int):Option Int:=
 if 0<=i/\i<p.Ae.length/\(p.Ae.getD i.toNat default).State=2 then Ft b p 2 i else none
theorem Vq(h:A1 b)(hp:Ax b p)(i:Int):Aa1 b p i=some (Fw (Hi b p i)):=by
 have hs:=h.sol;have hn:=hp.nso;refine cZ ?_;unfold Aa1;have e1:w64 ((p.Ae.length:Int)-1)=(p.Ae.length:Int)-1:=Az (by omega);by_cases hi:0<=i/\i<p.Ae.length
 ·have hin:Br i 0 (w64 ((p.Ae.length:Int)-1))=true:=by rw[e1];exact yY (by omega)
  obtain⟨x,hx⟩:∃x,p.Ae[i.toNat]? = some x:=⟨_,ai (by omega)⟩;have hg:getI p.Ae i=some x:=by have:=B4 hx;rwa [bE hi.1]at this
  have hd:p.Ae.getD i.toNat default=x:=by simp[List.getD,hx]
  rw[hin,hg];refine Ok.bind (P:=λy=>y=x) (c9 (λ_=>Ok.pure rfl) λhn=>(hn ⟨rfl,trivial⟩).elim) λy hy=>?_;subst hy;unfold Hi;refine c6 (λhc=>?_) (λhc=>?_)
  ·simp only[uC,hin,an,aH,bI,false_or,bne_iff_ne,ne_eq]at hc;rw[hd,if_neg (λhh=>hc hh.2.2)];exact Ok.pure rfl
  ·have hc:=ff hc;simp only[uC,hin,an,aH,bI,false_or,bne_iff_ne,ne_eq,Decidable.not_not]at hc;rw[hd,if_pos ⟨hi.1,hi.2,hc⟩,Ar5 h hp.ncl];exact Ok.pure rfl
 ·have hin:Br i 0 (w64 ((p.Ae.length:Int)-1))=false:=by
   cases hq:Br i 0 (w64 ((p.Ae.length:Int)-1)) with
   |false=>rfl
   |true=>rw[Iw,e1]at hq;omega
  rw[hin];unfold Hi;rw[if_neg (λhh=>hi ⟨hh.1,hh.2.1⟩)];refine Ok.bind (P:=λ_=>True) (c9 (λhg=>absurd hg.1 (by simp)) λ_=>trivial) λy _=>?_;refine c6 (λ_=>Ok.pure rfl) (λhc=>?_);simp[uC,hin]at hc
variable{i:Int}
theorem Sl(h:A1 b)(e:Ft b p k i=some a):0<=a/\a<b.Am:=by
 unfold Ft at e;rw[bx]at e;obtain⟨z,hz,rfl⟩:=e;exact(h.br z.1 (bW (List.mem_of_find?_eq_some hz)).1).1
theorem Agr(h:A1 b)(e:Hi b p i=some a):0<=a/\a<b.Am:=by
 unfold Hi at e;split at e
 ·exact Sl h e
 ·cases e
def Gt(s:List Int)(z:Ak×Bool):List Int:=
 if z.1.Kind=1/\z.2=true then (s.set z.1.A.toNat (min (s.getD z.1.A.toNat 0) (s.getD z.1.B.toNat 0))).set z.1.B.toNat (min (s.getD z.1.A.toNat 0) (s.getD z.1.B.toNat 0)) else s
def El(l:List (Ak×Bool))(s:List Int):List Int:=l.foldl Gt s
def Dl(n:Nat):List Int:=(List.range n).map λ(i:Nat)=>(i:Int)
def groups(b:Aa)(p:Ad):List Int:=(List.range b.Am.toNat).foldl (λs _=>El (b.Ah.zip p.Ai) s) (Dl b.Am.toNat)
theorem Fu(s:List Int)(z:Ak×Bool):(Gt s z).length=s.length:=by
 unfold Gt;split <;> simp
theorem Gy(l:List (Ak×Bool)):∀s:List Int,(El l s).length=s.length:=by
 induction l with
 |nil=>intro s;rfl
 |cons z l ih=>grind[El,Fu]
theorem Py{b:Aa}{p:Ad}{n:Nat}:∀(xs:List Nat)(s:List Int),s.length=n->(xs.foldl (λs _=>El (b.Ah.zip p.Ai) s) s).length=n
 | [],s,h=>h
 |_::xs,s,h=>Py xs _ (by rw[Gy];exact h)
theorem Jp(b:Aa)(p:Ad):(groups b p).length=b.Am.toNat:=Py _ _ (by simp[Dl])
variable{s:List Int}
theorem Axg(h:A1 b)(hc:p.Ai.length=b.Ah.length)(hs:s.length=b.Am.toNat) :
  Ok (foldI (Aa2 p) b.Ah 0 s) (D5 (λr=>r=El (b.Ah.zip p.Ai) s) (λ(_:Unit)=>False)):=by
 have hb:=h.brl;have hbu:=h.buses;refine c8 (I:=λj r=>r=El ((b.Ah.take j).zip (p.Ai.take j)) s) (by simp[El]) (λj x r hx hr=>?_) λr hr=>?_
 ·have hj:=(ab.1 hx).1;obtain⟨v,hv⟩:∃v,p.Ai[j]? = some v:=⟨_,ai (by omega)⟩;have hcnt:cnt 0 j=(j:Int):=Ck (by omega);have hl:r.length=b.Am.toNat:=by rw[hr,Gy,hs]
  have hnext:El ((b.Ah.take (j+1)).zip (p.Ai.take (j+1))) s=Gt r (x,v):=by
   rw[Bp hx,Bp hv,List.zip_append (by simp;omega)];unfold El at hr ⊢;rw[bc,←hr];rfl
  rw[hnext];unfold Aa2;rw[hcnt,B4 hv];obtain⟨⟨a0,a1⟩,hk⟩:=h.br x (ae hx);by_cases k1:x.Kind=1
  ·rw[dL.2 k1];refine Ok.bind (P:=λy=>y=v) (c9 (λ_=>Ok.pure rfl) λhn=>(hn ⟨rfl,trivial⟩).elim) λy hy=>?_;subst hy;have hB:x.A<x.B/\x.B<b.Am:=by omega
   cases y with
   |false=>
    refine c6 (λhq=>by simp at hq) (λ_=>c7 ?_);simp[Gt]
   |true=>
    refine c6 (λ_=>?_) (λhq=>by simp at hq);refine(cW a0 (by omega)).bind λu hu=>(cW (by omega) (by omega)).bind λw hw=>(d7 a0 (by omega)).bind λt ht=>?_;subst ht;refine(cW (by omega) (by simp;omega)).bind λ_ _=>(d7 (by omega) (by simp;omega)).bind λt ht=>c7 ?_;subst ht;simp[Gt,k1,List.getD,hu,hw]
  ·rw[dM.2 k1];refine Ok.bind (P:=λ_=>True) (c9 (λhg=>absurd hg.1 (by simp)) λ_=>trivial) λy _=>?_;refine c6 (λhq=>by simp at hq) (λ_=>c7 ?_);simp[Gt,k1]
 grind
theorem Asg(h:A1 b)(hc:p.Ai.length=b.Ah.length):Ai7 b p=some (groups b p):=by
 have hbu:=h.buses;refine cZ ?_;unfold Ai7;refine(Ok.mkI (by omega) (by omega)).bind λy hy=>?_;refine Ok.andThen (A:=λs=>s=Dl b.Am.toNat) (B:=λ(_:Unit)=>False) ?_ ?_ (λ_ h=>h.elim)
 ·refine c8 (I:=λj s=>s=(List.range b.Am.toNat).map λi=>if i<j then (i:Int) else 0) ?_ (λj x s hx hs=>?_) λs hs=>?_
  ·rw[hy,O6];exact bi λi _=>by simp
  ·have hj:=(ab.1 hx).1;have hjl:j<b.Am.toNat:=by rw[hy]at hj;simpa using hj
   have hcnt:cnt 0 j=(j:Int):=Ck (by omega);subst hs;unfold Al9;rw[hcnt];refine(dp (by omega) (by omega)).bind λ_ _=>(dv (by omega) (by omega)).bind λz hz=>c7 ?_;grind
  ·rw[hs];unfold Dl;refine bi λi hi=>?_;rw[hy];simp at hi;simp[hi]
 ·rintro s rfl;refine Ok.andThen (A:=λs=>s=groups b p) (B:=λ(_:Unit)=>False) ?_ (λs hs=>Ok.pure hs) (λ_ h=>h.elim);refine c8 (I:=λj s=>s=(List.range j).foldl (λs _=>El (b.Ah.zip p.Ai) s) (Dl b.Am.toNat)) rfl (λj x s hx hs=>?_) λs hs=>?_
  ·unfold Al8;have hl:s.length=b.Am.toNat:=by rw[hs];exact Py _ _ (by simp[Dl])
   refine(Axg h hc hl).inner (λr hr=>c7 ?_) (λ_ h=>h.elim);rw[hr,bV,bc,←hs];rfl
  ·rw[hs];unfold groups;congr 2;simp[Dl]
theorem Axf(h:∀(i:Nat) v,s[i]? = some v->0<=v/\v<=i)(hz:z.1.Kind=1->0<=z.1.A/\z.1.A<z.1.B/\z.1.B<s.length):∀(i:Nat) v,(Gt s z)[i]? = some v->0<=v/\v<=i:=by
 unfold Gt;grind
theorem Aci{n:Nat}:∀(l:List (Ak×Bool))(s:List Int),s.length=n->(∀z,z∈l->z.1.Kind=1->0<=z.1.A/\z.1.A<z.1.B/\z.1.B<n)->(∀(i:Nat) v,s[i]? = some v->0<=v/\v<=i)->∀(i:Nat) v,(El l s)[i]? = some v->0<=v/\v<=i
 | [],s,_,_,h=>h
 |z::l,s,hs,hz,h=>Aci l (Gt s z) (by rw[Fu];exact hs) (λy hy=>hz y (ak _ hy)) (Axf h (by rw[hs];exact hz z aj))
theorem Vb(h:A1 b)(p:Ad):∀(i:Nat) v,(groups b p)[i]? = some v->0<=v/\v<=i:=by
 have hbu:=h.buses;have hz:∀z,z∈b.Ah.zip p.Ai->z.1.Kind=1->0<=z.1.A/\z.1.A<z.1.B/\z.1.B<(b.Am.toNat:Int):=by
  intro z hz hk;have:=h.br z.1 (bW hz).1;unfold T7 at this;omega
 have key:∀(xs:List Nat)(s:List Int),s.length=b.Am.toNat->(∀(i:Nat) v,s[i]? = some v->0<=v/\v<=i)->∀(i:Nat) v,(xs.foldl (λs _=>El (b.Ah.zip p.Ai) s) s)[i]? = some v->0<=v/\v<=i:=by
  intro xs;induction xs with
  |nil=>intro s _ h;exact h
  |cons x xs ih=>intro s hl h;exact ih _ (by rw[Gy];exact hl) (Aci _ s hl hz h)
 refine key _ _ (by simp[Dl]) ?_;intro i v hv;simp only[Dl,au]at hv;grind
def J3(x:Aq):Bool:=!((x.Am.length:Int)==0)
theorem Axw(l:List Aq)(h:l.length<=9223372036854775807):vE l=some (J1 (λx=>(x.Am.length:Int)==0) l):=by
 unfold vE;exact Ij (λx:Aq=>(x.Am.length:Int)==0) (λi y=>rfl) l h
theorem A1r(l:List Aq)(hl:l.length<=1000):Rt l=some (l.filter J3):=by
 refine cZ ?_;unfold Rt;rw[Axw l (by omega)];simp only[aa];unfold J1;cases hf:l.findIdx? λx=>(x.Am.length:Int)==0 with
 |none=>
  rw[cT]at hf;refine c6 (λ_=>Ok.pure ?_) (λhc=>by simp at hc);rw[eq_comm,cv];intro x hx;simp only[J3,hf x hx];rfl
 | some i=>
  rw[cC]at hf;obtain⟨hi,hp,hn⟩:=hf;refine c6 (λhc=>?_) (λ_=>?_)
  ·simp only[dL]at hc;omega
  have e1:w64 ((i:Int)+1)=(i:Int)+1:=Az (by omega);simp only[e1];refine Ok.andThen (A:=λs=>0<=s.1/\s.1<=(l.length:Int)/\s.2.2.length=l.length/\s.2.2.take s.1.toNat=l.filter J3) (B:=λ(_:Unit)=>False) ?_ ?_ (λ_ h=>h.elim)
  ·refine cU (λs=>(0<=s.1/\s.1<s.2.1/\s.2.1<=(l.length:Int))/\s.2.2.length=l.length/\s.2.2.take s.1.toNat=(l.take s.2.1.toNat).filter J3/\s.2.2.drop s.2.1.toNat=l.drop s.2.1.toNat) (λs=>((l.length:Int)-s.2.1).toNat) _ _ ?_ ?_ ?_
   ·refine⟨by dsimp only;omega,rfl,?_,rfl⟩;dsimp only;have e2:((i:Int)+1).toNat=i+1:=by omega
    rw[e2,aB,Bp (ai hi),bp];have h1:(l.take i).filter J3=l.take i:=by
     rw[cv];intro x hx;obtain⟨j,hj,rfl⟩:=cm hx;simp only[aY]at hj;rw[List.getElem_take];have:=hn j (by omega);simp only[J3];simpa using this
    have h2:J3 l[i]=false:=by simp only[J3,hp];rfl
    rw[h1];simp[h2]
   ·dsimp only;omega
   ·rintro⟨a,j,m⟩ ⟨⟨h1,h2,h3⟩,h4,h5,h6⟩;dsimp only at h1 h2 h3 h4 h5 h6;unfold Wx Ag7;dsimp only;refine c6 (λhq=>?_) (λhq=>?_)
    ·simp only[dJ]at hq;have e1:w64 (j+1)=j+1:=Az (by omega);have e2:w64 (a+1)=a+1:=Az (by omega);have e3:(j+1).toNat=j.toNat+1:=by omega
     have e4:(a+1).toNat=a.toNat+1:=by omega
     refine(cW (by omega) (by omega)).bind λy hy=>?_;have hyl:l[j.toNat]? = some y:=by
      have:=congrArg (·[0]?) h6;simp only[ax,bJ]at this;rw[←this];exact hy
     have hdrop:∀(q:List Aq),q.drop j.toNat=l.drop j.toNat->q.drop (j.toNat+1)=l.drop (j.toNat+1):=λq hq=>by
      rw[←bP,hq,bP]
     refine c6 (λhf=>?_) (λhf=>?_)
     ·refine(cW (by omega) (by omega)).bind λ_ _=>(d7 (by omega) (by omega)).bind λz hz=>?_;rw[e1,e2];subst hz;refine c7 ⟨⟨by dsimp only;omega,by simpa using h4,?_,?_⟩,by dsimp only;omega⟩
      ·dsimp only;rw[e3,e4,Bp hyl,bp,←h5];have hfl:J3 y=true:=hf;rw[Bp (x:=y) (by rw[bN (by omega)])];simp[hfl,List.take_set_of_le]
      ·dsimp only;rw[e3,List.drop_set_of_lt (by omega)];exact hdrop m h6
     ·rw[e1];refine c7 ⟨⟨by dsimp only;omega,h4,?_,?_⟩,by dsimp only;omega⟩
      ·dsimp only;have hfl:J3 y=false:=hf;rw[e3,Bp hyl,bp,←h5];simp[hfl]
      ·dsimp only;rw[e3];exact hdrop m h6
    ·simp only[dK]at hq;have e:j.toNat=l.length:=by omega
     refine cY ⟨h1,by dsimp only;omega,h4,?_⟩;dsimp only;rw[h5,e,aE]
  ·rintro⟨a,j,m⟩ ⟨h1,h2,h3,h4⟩;dsimp only at h1 h2 h3 h4 ⊢;have hc:(Ht m a.toNat ((Int.toNat (m.length:Int))-a.toNat) (⟨([]:List Int),([]:List Int),([]:List Int)⟩:Aq)).length=l.length:=by
    simp[Ht];omega
   refine(Ok.bndI h1 (by omega) (by omega)).bind λ_ _=>(Ok.bndI (by omega) h1 (by rw[hc];omega)).bind λ_ _=>Ok.pure ?_;rw[←h4];unfold Ht;rw[Nat.sub_zero,cM (by simp;omega),List.take_take,Nat.min_self]
def He(b:Aa)(p:Ad)(o:Option Int):Option Int:=o.map λa=>(groups b p).getD a.toNat 0
def Fg(b:Aa)(p:Ad)(n f:Nat):List Int:=((List.range n).filter λ(i:Nat)=>(groups b p).getD i 0==(f:Int)).map λ(i:Nat)=>(i:Int)
def G2(b:Aa)(p:Ad)(n f:Nat):List Int:=((List.range n).filter λ(i:Nat)=>He b p (Hi b p (i:Int))==some (f:Int)).map λ(i:Nat)=>(i:Int)
def H0(b:Aa)(p:Ad)(n f:Nat):List Int:=((List.range n).filter λ(i:Nat)=>He b p (Ft b p 3 (i:Int))==some (f:Int)).map λ(i:Nat)=>(i:Int)
def isl(b:Aa)(p:Ad)(f:Nat):Aq:=⟨Fg b p b.Am.toNat f,G2 b p b.Ae.length f,H0 b p b.Ag.length f⟩
def Cf(b:Aa)(p:Ad):List Aq:=((List.range b.Am.toNat).map (isl b p)).filter J3
theorem G5(q:Nat->Bool)(n:Nat):((List.range (n+1)).filter q).map (λ(i:Nat)=>(i:Int))=((List.range n).filter q).map (λ(i:Nat)=>(i:Int))++if q n=true then [(n:Int)] else []:=by
 rw[bV,bp,bB];congr 1;cases h:q n <;> simp[h]
theorem Ff(q:Nat->Bool)(n:Nat):(((List.range n).filter q).map (λ(i:Nat)=>(i:Int))).length<=n:=by
 grind
theorem Kz(h : A1 b)(hp : Ax b p) : Abk b p = some (Cf b p) := by
 have hbu:=h.buses;have hso:=h.sol;have hco:=h.col;have hgl:=Jp b p;have hglo:=Vb h p;refine cZ ?_;unfold Abk;rw[E_ h hp];simp only[aa];refine c6 (λhc=>by simp at hc) (λ_=>?_);rw[Asg h hp.ncl];simp only[aa];refine(Ok.mkI (by omega) (by omega)).bind λy hy=>?_;have hget:∀(i:Nat),i<b.Am.toNat->(groups b p)[i]? = some ((groups b p).getD i 0):=λi hi=>by
  have:i<(groups b p).length:=by omega
  simp[List.getD,List.getElem?_eq_getElem this]
 refine Ok.andThen (A:=λs=>s=(List.range b.Am.toNat).map λf=>(⟨Fg b p b.Am.toNat f,[],[]⟩:Aq)) (B:=λ(_:Unit)=>False) ?_ ?_ (λ_ h=>h.elim)
 ·refine c8 (I:=λj s=>s=(List.range b.Am.toNat).map λf=>(⟨Fg b p j f,[],[]⟩:Aq)) ?_ (λj x s hx hs=>?_) λs hs=>?_
  ·rw[hy,O6];rfl
  ·subst hs;have hj:j<b.Am.toNat:=by have:=(ab.1 hx).1;omega
   have hlo:=hglo j x hx;have hxe:(groups b p).getD j 0=x:=by simp[List.getD,hx]
   have hcnt:cnt 0 j=(j:Int):=Ck (by omega);unfold Amy;rw[hcnt];refine(dp (by omega) (by omega)).bind λu hu=>?_;subst hu;have hl:(Fg b p j x.toNat).length<=j:=Ff _ _;refine(cV (by simp;omega)).bind λv hv=>(dv (by omega) (by omega)).bind λw hw=>c7 ?_;rw[hw];refine bi λf _=>?_;unfold Fg;rw[G5,hxe];by_cases e:f=x.toNat
   ·subst e;rw[if_pos rfl,if_pos (by simp;omega),hv];rfl
   ·rw[if_neg e,if_neg (by simp;omega),aX]
  ·rw[hgl]at hs;exact hs
 ·rintro s rfl;refine Ok.andThen (A:=λs=>s.2=(List.range b.Am.toNat).map λf=>(⟨Fg b p b.Am.toNat f,G2 b p b.Ae.length f,[]⟩:Aq)) (B:=λ(_:Unit)=>False) ?_ ?_ (λ_ h=>h.elim)
  ·refine cU (λs=>(0<=s.1/\s.1<=(b.Ae.length:Int))/\s.2=(List.range b.Am.toNat).map λf=>(⟨Fg b p b.Am.toNat f,G2 b p s.1.toNat f,[]⟩:Aq)) (λs=>((b.Ae.length:Int)-s.1).toNat) _ _ ?_ ?_ ?_
   ·exact⟨by dsimp only;omega,rfl⟩
   ·dsimp only;omega
   ·rintro⟨i,s⟩ ⟨⟨h1,h2⟩,h3⟩;dsimp only at h1 h2 h3;subst h3;unfold Amx Auh;dsimp only;refine c6 (λhq=>?_) (λhq=>?_)
    ·simp only[dJ]at hq;have e1:w64 (i+1)=i+1:=Az (by omega);have e2:(i+1).toNat=i.toNat+1:=by omega
     have e3:((i.toNat:Nat):Int)=i:=by omega
     rw[Vq h hp];simp only[aa];cases hcn:Hi b p i with
     |none=>
      refine c6 (λhc=>by simp[Fw]at hc) (λ_=>?_);rw[e1];refine c7 ⟨⟨by dsimp only;omega,?_⟩,by dsimp only;omega⟩;dsimp only;rw[e2];refine bi λf _=>?_;unfold G2;rw[G5,e3,hcn,if_neg (by simp[He]),aX]
     | some a=>
      have hab:=Agr h hcn;have hga:=hget a.toNat (by omega);have hgla:=hglo _ _ hga;refine c6 (λ_=>?_) (λhc=>by simp[Fw]at hc);have hg2:getI (groups b p) a=some ((groups b p).getD a.toNat 0):=by have:=B4 hga;rwa [bE hab.1]at this
      simp only[Fw,hg2,aa];generalize hge:(groups b p).getD a.toNat 0=ga at hgla;refine(dp (by omega) (by omega)).bind λu hu=>?_;subst hu;have hl:(G2 b p i.toNat ga.toNat).length<=i.toNat:=Ff _ _;refine(cV (by simp;omega)).bind λv hv=>(dv (by omega) (by omega)).bind λw hw=>?_;rw[e1];refine c7 ⟨⟨by dsimp only;omega,?_⟩,by dsimp only;omega⟩;dsimp only;rw[hw,e2];refine bi λf _=>?_;unfold G2;rw[G5,e3,hcn];simp only[He,aT,hge];by_cases e:f=ga.toNat
      ·subst e;rw[if_pos rfl,if_pos (by simp;omega),hv];rfl
      ·rw[if_neg e,if_neg (by simp;omega),aX]
    ·simp only[dK]at hq;have e:i.toNat=b.Ae.length:=by omega
     rw[e];exact cY rfl
  ·rintro⟨i0,s⟩ hs;dsimp only at hs;subst hs;dsimp only;refine Ok.andThen (A:=λs=>s.2=(List.range b.Am.toNat).map (isl b p)) (B:=λ(_:Unit)=>False) ?_ ?_ (λ_ h=>h.elim)
   ·refine cU (λs=>(0<=s.1/\s.1<=(b.Ag.length:Int))/\s.2=(List.range b.Am.toNat).map λf=>(⟨Fg b p b.Am.toNat f,G2 b p b.Ae.length f,H0 b p s.1.toNat f⟩:Aq)) (λs=>((b.Ag.length:Int)-s.1).toNat) _ _ ?_ ?_ ?_
    ·exact⟨by dsimp only;omega,rfl⟩
    ·dsimp only;omega
    ·rintro⟨i,s⟩ ⟨⟨h1,h2⟩,h3⟩;dsimp only at h1 h2 h3;subst h3;unfold Amw Aug;dsimp only;refine c6 (λhq=>?_) (λhq=>?_)
     ·simp only[dJ]at hq;have e1:w64 (i+1)=i+1:=Az (by omega);have e2:(i+1).toNat=i.toNat+1:=by omega
      have e3:((i.toNat:Nat):Int)=i:=by omega
      rw[Af4 h hp.ncl];simp only[aa];cases hcn:Ft b p 3 i with
      |none=>
       refine c6 (λhc=>by simp[Fw]at hc) (λ_=>?_);rw[e1];refine c7 ⟨⟨by dsimp only;omega,?_⟩,by dsimp only;omega⟩;dsimp only;rw[e2];refine bi λf _=>?_;unfold H0;rw[G5,e3,hcn,if_neg (by simp[He]),aX]
      | some a=>
       have hab:=Sl h hcn;have hga:=hget a.toNat (by omega);have hgla:=hglo _ _ hga;refine c6 (λ_=>?_) (λhc=>by simp[Fw]at hc);have hg2:getI (groups b p) a=some ((groups b p).getD a.toNat 0):=by have:=B4 hga;rwa [bE hab.1]at this
       simp only[Fw,hg2,aa];generalize hge:(groups b p).getD a.toNat 0=ga at hgla;refine(dp (by omega) (by omega)).bind λu hu=>?_;subst hu;have hl:(H0 b p i.toNat ga.toNat).length<=i.toNat:=Ff _ _;refine(cV (by simp;omega)).bind λv hv=>(dv (by omega) (by omega)).bind λw hw=>?_;rw[e1];refine c7 ⟨⟨by dsimp only;omega,?_⟩,by dsimp only;omega⟩;dsimp only;rw[hw,e2];refine bi λf _=>?_;unfold H0;rw[G5,e3,hcn];simp only[He,aT,hge];by_cases e:f=ga.toNat
       ·subst e;rw[if_pos rfl,if_pos (by simp;omega),hv];rfl
       ·rw[if_neg e,if_neg (by simp;omega),aX]
     ·simp only[dK]at hq;have e:i.toNat=b.Ag.length:=by omega
      rw[e];exact cY rfl
   ·rintro⟨i1,s⟩ hs;dsimp only at hs;subst hs;dsimp only;rw[A1r _ (by simp;omega)];exact Ok.pure rfl
theorem Hk(h:l.length*B<=140737488355328):appI B [] l=some l:=by
 unfold appI;have:decide ((([]:List α).length+l.length)*B<=140737488355328)=true:=by simpa using h
 rw[this];rfl
theorem Hu(h:A1 b)(hp:Ax b p):Nb p=some p:=by
 have h1:=hp.ncl;have h2:=hp.nso;have h3:=hp.nli;have h4:=hp.brk.len;have h5:=h.brl;have h6:=h.sol;have h7:=h.col;unfold Nb Abr Abq Qe T5;rw[Hk (by omega),Hk (by omega),Hk (by omega),Hk (by omega)];rfl
theorem eqB(l:List Bool)(h:l.length<=9223372036854775807):Abj l l=some true:=by
 unfold Abj;rw[D4 l 0 λj x hj=>?_]
 ·simp[andThen]
 ·have hjl:=(ab.1 hj).1;unfold Abi;rw[aJ,Ck (by omega),B4 hj];simp
theorem eqI(l:List Int)(h:l.length<=9223372036854775807):Abf l l=some true:=by
 unfold Abf;rw[D4 l 0 λj x hj=>?_]
 ·simp[andThen]
 ·have hjl:=(ab.1 hj).1;unfold Abe;rw[aJ,Ck (by omega),B4 hj];simp
theorem eqR(l:List Aj)(h:l.length<=9223372036854775807):Abh l l=some true:=by
 unfold Abh;rw[D4 l 0 λj x hj=>?_]
 ·simp[andThen]
 ·have hjl:=(ab.1 hj).1;unfold Abg Auf;rw[aJ,Ck (by omega),B4 hj];simp
theorem eqP(l:List Ab)(h:l.length<=9223372036854775807):Abd l l=some true:=by
 unfold Abd;rw[D4 l 0 λj x hj=>?_]
 ·simp[andThen]
 ·have hjl:=(ab.1 hj).1;unfold Abc Aue;rw[aJ,Ck (by omega),B4 hj];simp
structure Ayy(p:Ad):Prop where
 c:p.Ai.length<=1000
 s:p.Ae.length<=1000
 l:p.Ao.length<=1000
 k:p.Al.length<=1000
theorem Ax.lens(h:A1 b)(hp:Ax b p):Ayy p:=by
 have h1:=hp.ncl;have h2:=hp.nso;have h3:=hp.nli;have h4:=hp.brk.len;have h5:=h.brl;have h6:=h.sol;have h7:=h.col;exact⟨by omega,by omega,by omega,by omega⟩
theorem Arl(h:Ayy p):F99 p p=some true:=by
 have h1:=h.c;have h2:=h.s;have h3:=h.l;have h4:=h.k;unfold F99;rw[eqB _ (by omega),eqI _ (by omega),eqR _ (by omega),eqP _ (by omega)];rfl
def Yt(like x:Aj):Aj:=⟨x.State,x.Since,like.Ar,like.Phase⟩
def F0(like:Aj)(idx:List Int)(ss:List Aj):List Aj:=idx.foldl (λs i=>s.set i.toNat (Yt like (s.getD i.toNat default))) ss
theorem H5(like:Aj):∀(idx:List Int)(ss:List Aj),(F0 like idx ss).length=ss.length
 | [],_=>rfl
 |i::idx,ss=>by
  show (F0 like idx _).length=_;rw[H5 like idx,ba]
theorem Ab5(h:idx[j]? = some i)(ss:List Aj):F0 like (idx.take (j+1)) ss=(F0 like (idx.take j) ss).set i.toNat (Yt like ((F0 like (idx.take j) ss).getD i.toNat default)):=by
 unfold F0;rw[Bp h,bc];rfl
theorem Aeq(h:∀i,i∈idx->0<=i/\i<p.Ae.length):Ru p idx like=some (F0 like idx p.Ae):=by
 refine cZ ?_;unfold Ru;refine Ok.andThen (A:=λs=>s=F0 like idx p.Ae) (B:=λ(_:Unit)=>False) ?_ (λs hs=>Ok.pure hs) (λ_ h=>h.elim);refine c8 (I:=λj s=>s=F0 like (idx.take j) p.Ae) rfl (λj x s hx hs=>?_) λs hs=>?_
 ·have hi:=h x (ae hx);have hl:s.length=p.Ae.length:=by rw[hs,H5]
  unfold Adr;refine(cW hi.1 (by omega)).bind λu hu=>(d7 hi.1 (by omega)).bind λv hv=>?_;have hvg:v[x.toNat]? = some (⟨u.State,u.Since,like.Ar,u.Phase⟩:Aj):=by rw[hv,bN (by omega)]
  refine Ok.bind (P:=λw=>w=(⟨u.State,u.Since,like.Ar,u.Phase⟩:Aj)) ((cW hi.1 (by rw[hv];simpa using by omega)).mono λw hw=>by rw[hvg]at hw;cases hw;rfl) λw hw=>?_;refine(d7 hi.1 (by rw[hv];simpa using by omega)).bind λz hz=>c7 ?_;rw[Ab5 hx,←hs,hz,hv,hw,List.set_set];have:s.getD x.toNat default=u:=by simp[List.getD,hu]
  rw[this];rfl
 ·rw[aE]at hs;exact hs
def Fz(b:Aa)(p:Ad):List Aj:=(Cf b p).foldl (λs x=>match x.Ae with| []=>s|i::_=>F0 (p.Ae.getD i.toNat default) x.Ae s) p.Ae
theorem Qt{x:Aq}(h:x∈Cf b p):∀i,i∈x.Ae->0<=i/\i<b.Ae.length:=by
 unfold Cf at h;obtain⟨f,_,rfl⟩:=ao.1 (az.1 h).1;intro i hi;obtain⟨k,hk,rfl⟩:=ao.1 hi;have:=be.1 (az.1 hk).1;omega
theorem Qr(b:Aa)(p:Ad):(Cf b p).length<=b.Am.toNat:=by
 have:=bg J3 ((List.range b.Am.toNat).map (isl b p));simpa[Cf]using this
def Du(p:Ad)(s:List Aj)(x:Aq):List Aj:=match x.Ae with
 | []=>s
 |i::_=>F0 (p.Ae.getD i.toNat default) x.Ae s
theorem Og(p:Ad)(s:List Aj)(x:Aq):(Du p s x).length=s.length:=by
 unfold Du;split
 ·rfl
 ·rw[H5]
theorem L3(p:Ad):∀(l:List Aq)(s:List Aj),(l.foldl (Du p) s).length=s.length
 | [],_=>rfl
 |x::l,s=>by show (l.foldl (Du p) _).length=_;rw[L3 p l,Og]
theorem I_(b:Aa)(p:Ad):(Fz b p).length=p.Ae.length:=L3 p _ _
theorem Pb(h:A1 b)(hp:Ax b p):F96 b p=some (⟨p.Ai,Fz b p,p.Ao,p.Al⟩,0):=by
 refine cZ ?_;unfold F96;rw[E_ h hp,Hu h hp,Kz h hp];simp only[aa];refine c6 (λhc=>by simp at hc) (λ_=>?_);refine Ok.andThen (A:=λs=>s=Fz b p) (B:=λ(_:Unit)=>False) ?_ (λs hs=>Ok.pure (by rw[hs])) (λ_ h=>h.elim);refine c8 (I:=λj s=>s=((Cf b p).take j).foldl (Du p) p.Ae) rfl (λj x s hx hs=>?_) λs hs=>?_
 ·have hi:=Qt (ae hx);have hl:s.length=p.Ae.length:=by rw[hs,L3]
  have hn:=hp.nso;have hnext:((Cf b p).take (j+1)).foldl (Du p) p.Ae=Du p s x:=by rw[Bp hx,bc,←hs];rfl
  unfold Auy Az0;cases hsrc:x.Ae with
  |nil=>
   refine c6 (λhc=>by simp at hc) (λ_=>c7 ?_);rw[hnext];simp[Du,hsrc]
  | cons i l=>
   have hi0:=hi i (by rw[hsrc];exact aj);refine c6 (λ_=>?_) (λhc=>by simp at hc);have hg:getI (i::l) 0=some i:=rfl;obtain⟨u,hu⟩:∃u,p.Ae[i.toNat]? = some u:=⟨_,ai (by omega)⟩;have hg2:getI p.Ae i=some u:=by have:=B4 hu;rwa [bE hi0.1]at this
   rw[hg];simp only[aa];rw[hg2];simp only[aa];rw[Aeq (by
    intro k hk;have:=hi k (by rw[hsrc];exact hk);dsimp only;omega)]
   refine c7 ?_;rw[hnext];have:p.Ae.getD i.toNat default=u:=by simp[List.getD,hu]
   simp only[Du,hsrc,this]
 ·rw[aE]at hs;exact hs
structure Xz(y:By):Prop where
 stop:1<=y.Stop/\y.Stop<=99
 start:y.Stop<y.Start/\y.Start<=100
 delay:0<=y.Delay/\y.Delay<=600
theorem Ajr{y:By}(h:Xz y):F98 y=true:=by
 have h1:=h.stop;have h2:=h.start;have h3:=h.delay;simp only[F98,ac,dJ];omega
theorem Ayt{s:Af}(hs:A5 s):Ok (F85 s) λy=>Xz y.1/\A5 y.2:=by
 unfold F85;refine(Cx hs _ (by simp) (by simp)).bind λu hu=>(Cx hu.1 _ (by simp) (by simp)).bind λv hv=>(Cx hv.1 _ (by simp) (by simp)).bind λw hw=>Ok.pure ⟨?_,hw.1⟩;have g1:u.1=60\/u.1=80\/u.1=100:=by simpa using hu.2
 have g2:v.1=1\/v.1=30\/v.1=50:=by simpa using hv.2
 have g3:w.1=0\/w.1=1\/w.1=3:=by simpa using hw.2
 exact⟨by dsimp only;omega,by dsimp only;omega,by dsimp only;omega⟩
def Aea(t:Int)(x:Bb):Prop:=(-1<=x.High/\x.High<=t) /\ -1<=x.Low/\x.Low<=t
theorem Anm{p:As}{l:List Bb}(h:∀x,x∈l->Aea p.Time x):Rw l p=some (false,p):=by
 refine cZ ?_;unfold Rw vQ;refine Ok.bind (P:=λy=>y=(-1,p)) ?_ (λy hy=>Ok.pure (by rw[hy];rfl));refine Ok.andThen (A:=λs=>s=(p.Time,p.Power.Ai,p.Power.Ae,p.Power.Ao,p.Power.Al,p.Be,p.Bm)) (B:=λ_=>False) ?_ (λs hs=>Ok.pure (by rw[hs])) (λ_ h=>h.elim);refine c8 (I:=λ_ s=>s=(p.Time,p.Power.Ai,p.Power.Ae,p.Power.Ao,p.Power.Al,p.Be,p.Bm)) rfl (λj x s hx hs=>?_) λs hs=>hs;have hr:=h x (ae hx);unfold Aea at hr;subst hs;unfold W7;refine c6 (λhc=>?_) (λ_=>c7 rfl);simp only[Ahc,Gr,uK,an,aV,bD,dK]at hc;omega
structure Rf(b:Aa)(y:By)(p:As):Prop where
 st:Ax b p.Power
 fol:Fz b p.Power=p.Power.Ae
 time:0<=p.Time/\p.Time<=2147483648
 nro:p.Be.length=b.Am.toNat
 ros:∀x,x∈p.Be->Aea p.Time x
theorem Adx(h:A1 b){y:By}(hy:Xz y){p:As}(hp:Rf b y p):F49 b y p=some 0:=by
 have h1:=h.buses;have h2:=hp.time;have h3:=hp.nro;refine cZ ?_;unfold F49;rw[Pb h hp.st];simp only[aa,hp.fol];refine c6 (λhc=>by simp at hc) (λ_=>c6 (λhc=>?_) (λ_=>c6 (λhc=>?_) (λ_=>?_)))
 ·simp only[A0a,Ajr hy,aH,aW,an,dJ]at hc;omega
 ·simp only[bne_iff_ne,ne_eq]at hc;omega
 ·have e:(⟨p.Power.Ai,p.Power.Ae,p.Power.Ao,p.Power.Al⟩:Ad)=p.Power:=rfl;rw[e,Arl (hp.st.lens h)];simp only[aa];rw[Anm hp.ros];have e2:Au [((!true),false)] (some (false,p)) (default,p)=some (false,p):=rfl;rw[e2];exact Ok.pure rfl
def brk(l:List Ab)(k n:Int):Bool:=l.any λx=>k==x.Kind&&n==x.Number
theorem G9(h:p.Al.length<=1000)(k n:Int):Na p k n=some (brk p.Al k n):=by
 unfold Na Ajn Aqo;rw[Ij (λx:Ab=>(k==x.Kind)&&((n==x.Number)&&true)) (λi y=>rfl) p.Al (by omega)];simp only[aa,Lm,brk,bl]
def Xu(b:Aa)(i:Int):Int:=J1 (λx:Ak=>x.Kind==2&&x.B==i) b.Ah
theorem Apa(h:A1 b)(i:Int):Apo b i=some (Xu b i):=by
 have hb:=h.brl;unfold Apo Aic;refine cZ ?_;refine Ok.bind (P:=λy=>y=(Xu b i,i)) ?_ (λy hy=>Ok.pure (by rw[hy]));have key:=Pq (f:=λn(a:Ak)(z:Unit)=>(bif (a.Kind==2&&a.B==i)then some (.ret (cnt 0 n)) else some (.next ()):Option (Ctl Unit Int))) (p:=λx:Ak=>x.Kind==2&&x.B==i) (λ_ _=>rfl) b.Ah 0 (by omega);have:∀(xs:List Ak)(k:Nat),foldI (V9 i) xs k ()=match foldI (λn(a:Ak)(z:Unit)=>(bif (a.Kind==2&&a.B==i)then some (.ret (cnt 0 n)) else some (.next ()):Option (Ctl Unit Int))) xs k () with
   |some (.ret r)=>some (.ret (r,i))
   |some (.next _)=>some (.next ())
   |some (.brk _)=>some (.brk ())
   |none=>none:=by
  intro xs;induction xs with
  |nil=>intro k;rfl
  |cons x xs ih=>
   intro k;simp only[foldI,V9,Aib];cases hq:(x.Kind==2&&x.B==i) with
   |true=>rfl
   |false=>simp only[cond_false];exact ih (k+1)
 rw[this,key];unfold Xu J1;cases b.Ah.findIdx? (λx:Ak=>x.Kind==2&&x.B==i) with
 |none=>exact Ok.pure rfl
 |some j=>exact Ok.pure rfl
theorem Ao9(h:A1 b)(h0:0<=i)(h1:i<b.Ae.length):∃(j:Nat)(x:Ak),Xu b i=(j:Int)/\b.Ah[j]? = some x/\x.Kind=2/\x.B=i/\j<24:=by
 have hone:=h.one i.toNat (by omega);have hb:=h.brl;unfold Xu J1;cases hf:b.Ah.findIdx? (λx:Ak=>x.Kind==2&&x.B==i) with
 | none=>
  exfalso;rw[cT]at hf;have:brs b.Ah 2 i.toNat=[]:=Lp λx hx hk e=>by
   have:=hf x hx;simp[hk]at this;omega
  rw[this]at hone;simp at hone
 |some j=>
  rw[cC]at hf;obtain⟨hj,hp,_⟩:=hf;simp only[ac,dL]at hp;exact⟨j,b.Ah[j],rfl,ai hj,hp.1,hp.2,by omega⟩
def lit(b:Aa)(u:Int->Bool)(s:List Bool)(i:Nat):List Bool:=if u (i:Int)then s.set (b.Ah.getD (Xu b (i:Int)).toNat default).A.toNat true else s
def LeB(s t:List Bool):Prop:=s.length=t.length/\∀i:Nat,s[i]? = some true->t[i]? = some true
theorem LeB.refl(s:List Bool):LeB s s:=⟨rfl,λ_ h=>h⟩
theorem LeB.trans{s r:List Bool}(h:LeB s t)(k:LeB t r):LeB s r:=⟨h.1.trans k.1,λi e=>k.2 i (h.2 i e)⟩
theorem LeB.set{s:List Bool}(h:LeB s t)(n:Nat){x y:Bool}(hx:x=true->y=true):LeB (s.set n x) (t.set n y):=by
 refine⟨by simp[h.1],λi e=>?_⟩;rw[aD]at e ⊢;split at e
 ·rename_i hn;rw[if_pos hn];split at e
  ·rename_i hl;rw[if_pos (by rw[←h.1];exact hl)];cases e;rw[hx rfl]
  ·cases e
 ·rename_i hn;rw[if_neg hn];exact h.2 i e
theorem LeB.getD{s:List Bool}(h:LeB s t)(n:Nat):s.getD n false=true->t.getD n false=true:=by
 intro e;have:s[n]? = some true:=by
  unfold List.getD at e;cases hs:s[n]? with
  |none=>rw[hs]at e;cases e
  |some v=>rw[hs]at e;simp at e;rw[e]
 simp[List.getD,h.2 n this]
theorem LeB.up(s:List Bool)(n:Nat){y:Bool}(hy:s.getD n false=true->y=true):LeB s (s.set n y):=by
 refine⟨by simp,λi e=>?_⟩;rw[aD];split
 ·rename_i hn;subst hn;have hl:=(ab.1 e).1;rw[if_pos hl,hy (by simp[List.getD,e])]
 ·exact e
def ks(x:Ab):Int:=x.Kind*1000+x.Number
def Dg(x:Ab):Prop:=(1<=x.Kind/\x.Kind<=4)/\0<=x.Number/\x.Number<=100
theorem Cv.small(h:A1 b)(hx:Cv b x):Dg x:=by
 have h1:=h.buses;have h2:=h.brl;have h3:=h.sol;have h4:=h.col;unfold Cv at hx;unfold Dg;omega
theorem Ad7(hx:Dg x)(hy:Dg y):K8 x y↔ks x<ks y:=by
 unfold K8 ks;unfold Dg at hx hy;omega
theorem Azu(hx:Dg x)(hy:Dg y)(h:ks x=ks y):x=y:=by
 unfold ks at h;unfold Dg at hx hy;cases x;cases y;grind
theorem Ac1(hx:Dg x)(hy:Dg y):(decide (Tv x y<0)=decide (ks x<ks y))/\((Tv x y==0)=(ks x==ks y)):=by
 unfold Dg at hx hy;unfold Tv ks;by_cases hk:x.Kind=y.Kind
 ·have:(x.Kind != y.Kind)=false:=by simp[hk]
  rw[this,cond_false,Az (by omega)];grind
 ·have:(x.Kind != y.Kind)=true:=by simp[hk]
  rw[this,cond_true,Az (by omega)];grind
def Gq(l:List Ab):Prop:=∀(j k:Nat) x y,j<k->l[j]? = some x->l[k]? = some y->ks x<ks y
variable{l:List Ab}
theorem Ig(h:A1 b)(hl:Ef b l):Gq l:=by
 have hs:∀x,x∈l->Dg x:=λx hx=>(hl.mem x hx).small h;intro j k;induction k with
 |zero=>intro x y hj;omega
 |succ k ih=>
  intro x y hj hx hy;have hk:=(ab.1 hy).1;obtain⟨z,hz⟩:∃z,l[k]? = some z:=⟨_,ai (by omega)⟩;have h1:=(Ad7 (hs z (ae hz)) (hs y (ae hy))).1 (hl.asc k z y hz hy);grind
theorem A1m(h0:0<=n)(h1:n<=1000000):w64 (Un .u64 (IntKind.wrap .u64 (w64 n)) 1)=n / 2:=by
 have e1:w64 n=n:=Az (by omega);have e2:IntKind.wrap .u64 n=n:=by
  simp[IntKind.wrap,IntKind.signed,IntKind.bits];omega
 have e3:Un .u64 n 1=n / 2:=by
  unfold Un;have:(2:Int) ^ min 1 (IntKind.u64).bits=2:=by decide
  grind
 rw[e1,e2,e3,Az (by omega)]
structure At(l:List Ab)(x:Ab)(n:Nat):Prop where
 le:n<=l.length
 lo:∀(j:Nat) y,j<n->l[j]? = some y->ks y<ks x
 hi:∀(j:Nat) y,n<=j->l[j]? = some y->ks x<=ks y
theorem O3(hs:Gq l)(hsm:∀x,x∈l->Dg x)(hx:Dg x)(hl:l.length<=1000) :
  Ok (uR l x) λy=>∃n:Nat,y.1=(n:Int)/\At l x n/\(y.2=true↔l[n]? = some x):=by
 unfold uR;refine Ok.andThen (A:=λs=>∃n:Nat,s.1=(n:Int)/\At l x n) (B:=λ(_:Unit)=>False) ?_ ?_ (λ_ h=>h.elim)
 ·refine cU (λs=>(0<=s.1/\s.1<=s.2/\s.2<=(l.length:Int))/\(∀(j:Nat) y,(j:Int)<s.1->l[j]? = some y->ks y<ks x)/\∀(j:Nat) y,s.2<=(j:Int)->l[j]? = some y->ks x<=ks y) (λs=>(s.2-s.1).toNat) _ _ ?_ ?_ ?_
  ·refine⟨by dsimp only;omega,λj y hj=>by dsimp only at hj;omega,λj y hj hy=>?_⟩;have:=(ab.1 hy).1;dsimp only at hj;omega
  ·dsimp only;omega
  ·rintro⟨i,j⟩ ⟨⟨h1,h2,h3⟩,h4,h5⟩;dsimp only at h1 h2 h3 h4 h5;unfold Adc;dsimp only;refine c6 (λhq=>?_) (λhq=>?_)
   ·simp only[dJ]at hq;rw[A1m (by omega) (by omega)];refine(cW (by omega) (by omega)).bind λy hy=>?_;have hym:=hsm y (ae hy);rw[(Ac1 hym hx).1];refine c6 (λhc=>?_) (λhc=>?_)
    ·simp only[dJ]at hc;rw[Az (by omega)];refine c7 ⟨⟨by dsimp only;omega,λk z hk hz=>?_,h5⟩,by dsimp only;omega⟩;dsimp only at hk;by_cases e:k=((i+j) / 2).toNat
     ·subst e;rw[hy]at hz;cases hz;exact hc
     ·have:=hs k _ z y (by omega) hz hy;omega
    ·simp only[dK]at hc;refine c7 ⟨⟨by dsimp only;omega,h4,λk z hk hz=>?_⟩,by dsimp only;omega⟩;dsimp only at hk;by_cases e:k=((i+j) / 2).toNat
     ·subst e;rw[hy]at hz;cases hz;omega
     ·have:=hs _ k y z (by omega) hy hz;omega
   ·simp only[dK]at hq;refine cY ⟨i.toNat,by dsimp only;omega,by omega,λk y hk hy=>h4 k y (by omega) hy,λk y hk hy=>h5 k y (by omega) hy⟩
 ·rintro⟨i,j⟩ ⟨n,hn,hat⟩;dsimp only at hn;subst hn;dsimp only;by_cases hlt:n<l.length
  ·obtain⟨y,hy⟩:∃y,l[n]? = some y:=⟨_,ai hlt⟩;have hd:decide ((n:Int)<(l.length:Int))=true:=by simp;omega
   rw[hd,B4 hy];refine Ok.bind (P:=λz=>z=y) (c9 (λ_=>Ok.pure rfl) λhn=>(hn ⟨rfl,trivial⟩).elim) λz hz=>Ok.pure ⟨n,rfl,hat,?_⟩;subst hz;have hym:=hsm z (ae hy);show (true&&(Tv z x==0))=true↔_;rw[bu,(Ac1 hym hx).2,dL,hy];constructor
   ·intro e;rw[Azu hym hx e]
   ·intro e;cases e;rfl
  ·have hd:decide ((n:Int)<(l.length:Int))=false:=by simp;omega
   rw[hd];refine Ok.bind (P:=λ_=>True) (c9 (λhg=>absurd hg.1 (by simp)) λ_=>trivial) λz _=>Ok.pure ⟨n,rfl,hat,?_⟩;rw[bX (by omega)];simp
variable{n:Nat}
theorem At.uniq(h:At l x n)(k:At l x m):n=m:=by
 rcases bO n m with e|e|e
 ·obtain⟨y,hy⟩:∃y,l[n]? = some y:=⟨_,ai (by have:=k.le;omega)⟩;have:=h.hi n y (af _) hy;have:=k.lo n y e hy;omega
 ·exact e
 ·obtain⟨y,hy⟩:∃y,l[m]? = some y:=⟨_,ai (by have:=h.le;omega)⟩;have:=k.hi m y (af _) hy;have:=h.lo m y e hy;omega
def Fe(l:List Ab)(n:Nat)(x:Ab):List Ab:=l.take n++(x::l.drop n)
theorem Asa(hn:n<=l.length)(hl:l.length<=1000)(x:Ab):Rm l (n:Int) [x]=some (Fe l n x):=by
 refine cZ ?_;unfold Rm;refine(Ok.bndI (by omega) (by omega) (by omega)).bind λ_ _=>?_;refine c6 (λhc=>by simp at hc) (λ_=>c6 (λhc=>?_) (λ_=>?_))
 ·simp only[dL]at hc;have e:n=l.length:=by omega
  refine(cV (by simp;omega)).bind λy hy=>Ok.pure ?_;rw[hy,Fe,e];simp
 ·refine(Ok.insI (by simp;omega)).mono λy hy=>?_;rw[hy,aB];rfl
theorem As8(hn:n<=l.length)(x:Ab):We (Fe l n x) (n:Int) ((n:Int)+1)=some l:=by
 have hlen:(Fe l n x).length=l.length+1:=by simp[Fe];omega
 refine cZ ?_;unfold We;have e1:((n:Int)+1).toNat=n+1:=by omega
 have hdrop:(Fe l n x).drop (n+1)=l.drop n:=by
  unfold Fe;rw[List.drop_append,List.drop_of_length_le (by simp;omega)];have:n+1-(l.take n).length=1:=by simp;omega
  rw[this];simp
 have htake:(Fe l n x).take n=l.take n:=by
  unfold Fe;grind
 refine(Ok.bnd3I (by omega) (by omega) (by omega) (by omega)).bind λ_ _=>c6 (λhc=>?_) (λ_=>?_)
 ·simp only[dL]at hc;omega
 refine(Ok.bndI (by omega) (by omega) (by omega)).bind λ_ _=>(Ok.bndI (by omega) (by omega) (by omega)).bind λ_ _=>?_;simp only[aB,e1,hdrop,Nat.sub_zero];have hpl:((l.drop n).take ((Fe l n x).length-(n+1))).length=l.length-n:=by simp[hlen]
 have hpe:(l.drop n).take ((Fe l n x).length-(n+1))=l.drop n:=cF (by simp[hlen]);rw[hpe];have hdl:(l.drop n).length=l.length-n:=by simp
 refine(Ok.appPI (by rw[hlen,hdl];omega)).bind λy hy=>?_;have hyl:y.length=l.length+1:=by rw[hy];simp[hlen];omega
 refine(Ok.bndI (by omega) (by rw[hlen,hdl];omega) (by rw[hlen,hyl];omega)).bind λ_ _=>Ok.pure ?_;have e2:n+(l.drop n).length=l.length:=by rw[hdl];omega
 rw[e2];unfold Ht;simp only[aJ];rw[cM (by simp;omega),List.take_take,Nat.min_self,hy,htake,←bA,cM (by simp),bU,aE]
theorem Sr(hn:n<=l.length)(h:(Fe l n x)[j]? = some y):(j<n/\l[j]? = some y)\/(j=n/\y=x)\/(n<j/\l[j-1]? = some y):=by
 grind[Fe]
theorem Axb(h:y∈Fe l n x):y=x\/y∈l:=by
 grind[Fe]
theorem Ak9(h:A1 b)(hl:Ef b l)(hx:Cv b x)(hat:At l x n)(hnot:l[n]? ≠ some x)(hlen:l.length<32):Ef b (Fe l n x):=by
 have hs:=Ig h hl;have hsm:∀y,y∈l->Dg y:=λy hy=>(hl.mem y hy).small h;have hxs:=hx.small h;refine⟨by simp[Fe];omega,λy hy=>?_,λj y z hy hz=>?_⟩
 ·rcases Axb hy with rfl|hy
  ·exact hx
  ·exact hl.mem y hy
 ·rcases Sr hat.le hy with⟨a1,a2⟩|⟨a1,a2⟩|⟨a1,a2⟩ <;> rcases Sr hat.le hz with⟨b1,b2⟩|⟨b1,b2⟩|⟨b1,b2⟩
  ·exact hl.asc j y z a2 b2
  ·subst b2;exact(Ad7 (hsm y (ae a2)) hxs).2 (hat.lo j y a1 a2)
  ·omega
  ·omega
  ·omega
  ·subst a2;have e:j+1-1=n:=by omega
   rw[e]at b2;have hzm:=hsm z (ae b2);refine(Ad7 hxs hzm).2 ?_;have h1:=hat.hi n z (af _) b2;grind[Azu]
  ·omega
  ·omega
  grind[Ef.asc]
theorem At.ins(hat:At l x n):At (Fe l n x) x n:=by
 refine⟨by have:=hat.le;simp[Fe];omega,λj y hj hy=>?_,λj y hj hy=>?_⟩
 ·rcases Sr hat.le hy with⟨_,a2⟩|⟨a1,_⟩|⟨a1,_⟩
  ·exact hat.lo j y hj a2
  ·omega
  ·omega
 ·rcases Sr hat.le hy with⟨a1,_⟩|⟨_,a2⟩|⟨a1,a2⟩
  ·omega
  ·subst a2;exact Int.le_refl _
  ·exact hat.hi (j-1) y (by omega) a2
theorem A1i(hn:n<=l.length)(x:Ab):(Fe l n x)[n]? = some x:=by
 grind[Fe]
def L5(ss:List Aj)(x:Ab)(st:Int):List Aj:=if x.Kind=1 then ss.set x.Number.toNat ⟨st,(ss.getD x.Number.toNat default).Since,(ss.getD x.Number.toNat default).Ar,(ss.getD x.Number.toNat default).Phase⟩ else ss
theorem Vf(ss:List Aj)(x:Ab)(st:Int):(L5 ss x st).length=ss.length:=by unfold L5;split <;> simp
theorem Af6(h:∀x,x∈ss->Eh x)(hx:x.Kind=1->0<=x.Number/\x.Number<ss.length)(hst:0<=st/\st<=3):∀y,y∈L5 ss x st->Eh y:=by
 unfold L5;split
 ·rename_i hk;have hn:=hx hk;obtain⟨u,hu⟩:∃u,ss[x.Number.toNat]? = some u:=⟨_,ai (by omega)⟩;have hd:ss.getD x.Number.toNat default=u:=by simp[List.getD,hu]
  intro y hy;rcases cI hy with hy|hy
  ·exact h y hy
  ·subst hy;rw[hd];have:=h u (ae hu);exact⟨hst,this.2⟩
 ·exact h
theorem A1p(h:A1 b)(hp:Ax b p)(hx:Cv b x)(t:Int)(hat:At p.Al x n)(hnot:p.Al[n]? ≠ some x)(hlen:p.Al.length<32) :
  Jl ⟨b,p,t⟩ x true=some (0,⟨b,⟨p.Ai,L5 p.Ae x 3,p.Ao,Fe p.Al n x⟩,t⟩):=by
 have hs:=Ig h hp.brk;have hsm:∀y,y∈p.Al->Dg y:=λy hy=>(hp.brk.mem y hy).small h;refine cZ ?_;unfold Jl;refine(O3 hs hsm (hx.small h) (by omega)).bind λy hy=>?_;obtain⟨m,e1,hat2,hf⟩:=hy;have e2:=hat.uniq hat2;subst e2;have hf2:y.2=false:=by
  grind
 refine c6 (λhc=>by rw[hf2]at hc;simp at hc) (λ_=>c6 (λhc=>?_) (λ_=>?_))
 ·simp[Te]at hc;omega
 refine Ok.andThen (A:=λz=>z=Fe p.Al n x) (B:=λ(_:Unit)=>False) ?_ ?_ (λ_ h=>h.elim)
 ·unfold Wp;rw[e1,Asa hat.le (by omega)];exact db rfl
 ·rintro z rfl;unfold L5;refine c6 (λhk=>?_) (λhk=>?_)
  ·simp only[dL]at hk;have hn:0<=x.Number/\x.Number<p.Ae.length:=by
    have:=hp.nso;unfold Cv at hx;omega
   rw[if_pos hk];refine(cW hn.1 hn.2).bind λu hu=>(d7 hn.1 hn.2).bind λv hv=>?_;have hd:p.Ae.getD x.Number.toNat default=u:=by simp[List.getD,hu]
   have hvg:v[x.Number.toNat]? = some (⟨0,u.Since,u.Ar,u.Phase⟩:Aj):=by rw[hv,bN (by omega)]
   simp only[cond_true];refine Ok.bind (P:=λw=>w=(⟨0,u.Since,u.Ar,u.Phase⟩:Aj)) ((cW hn.1 (by rw[hv];simpa using hn.2)).mono λw hw=>by rw[hvg]at hw;cases hw;rfl) λw hw=>?_;subst hw;refine(d7 hn.1 (by rw[hv];simpa using hn.2)).bind λz hz=>Ok.pure ?_;rw[hz,hv,List.set_set,hd]
  ·simp only[dM,ne_eq]at hk;rw[if_neg hk];exact Ok.pure rfl
theorem A09(h:A1 b)(hbl:Ef b p.Al){q:Ad}(hx:Cv b x)(t:Int)(hat:At p.Al x n)(hnot:p.Al[n]? ≠ some x)(hlen:p.Al.length<32)
  (hq:q.Al=Fe p.Al n x)(hqs:q.Ae.length=b.Ae.length):Jl ⟨b,q,t⟩ x false=some (0,⟨b,⟨q.Ai,L5 q.Ae x 0,q.Ao,p.Al⟩,t⟩):=by
 have hbl2:Ef b q.Al:=by rw[hq];exact Ak9 h hbl hx hat hnot hlen
 have hs:=Ig h hbl2;have hsm:∀y,y∈q.Al->Dg y:=λy hy=>(hbl2.mem y hy).small h;refine cZ ?_;unfold Jl;refine(O3 hs hsm (hx.small h) (by have:=hbl2.len;omega)).bind λy hy=>?_;obtain⟨m,e1,hat2,hf⟩:=hy;rw[hq]at hat2 hf;have e2:=hat.ins.uniq hat2;subst e2;have hf2:y.2=true:=hf.2 (A1i hat.le x);refine c6 (λhc=>by rw[hf2]at hc;simp at hc) (λ_=>c6 (λhc=>?_) (λ_=>?_))
 ·simp[Te]at hc
 refine Ok.andThen (A:=λz=>z=p.Al) (B:=λ(_:Unit)=>False) ?_ ?_ (λ_ h=>h.elim)
 ·unfold Wp;have hle:=hat.le;rw[e1,Az (by omega)];simp only[cond_false,hq];rw[As8 hat.le];exact db rfl
 ·rintro z rfl;unfold L5;refine c6 (λhk=>?_) (λhk=>?_)
  ·simp only[dL]at hk;have hn:0<=x.Number/\x.Number<q.Ae.length:=by
    unfold Cv at hx;omega
   rw[if_pos hk];refine(cW hn.1 hn.2).bind λu hu=>(d7 hn.1 hn.2).bind λv hv=>?_;have hd:q.Ae.getD x.Number.toNat default=u:=by simp[List.getD,hu]
   simp only[cond_false];exact Ok.pure (by rw[hv,hd])
  ·simp only[dM,ne_eq]at hk;rw[if_neg hk];exact Ok.pure rfl
def A1n(p:Ad)(x:Ab)(n:Nat):Ad:=⟨p.Ai,L5 p.Ae x 3,p.Ao,Fe p.Al n x⟩
theorem Aon(h:A1 b)(hp:Ax b p)(hx:Cv b x)(hat:At p.Al x n)(hnot:p.Al[n]? ≠ some x)(hlen:p.Al.length<32):Ax b (A1n p x n) where
 ncl:=hp.ncl
 nso:=by show (L5 p.Ae x 3).length=_;rw[Vf];exact hp.nso
 nli:=hp.nli
 run:=Af6 hp.run (λhk=>by have:=hp.nso;unfold Cv at hx;omega) (by omega)
 lim:=hp.lim
 one:=hp.one
 brk:=Ak9 h hp.brk hx hat hnot hlen
theorem N_(b:Aa)(k n:Int):H8 b k n=true↔Cv b ⟨k,n⟩:=by
 unfold H8 Cv;dsimp only;by_cases h1:k=1
 ·subst h1;simp
 rw[dM.2 h1,cond_false];by_cases h2:k=2
 ·subst h2;simp
 rw[dM.2 h2,cond_false];by_cases h3:k=3
 ·subst h3;simp
 rw[dM.2 h3,cond_false];by_cases h4:k=4
 ·subst h4;simp
 rw[dM.2 h4,cond_false];simp only[ac,dJ];omega
theorem A8l(h:A1 b)(hl:Ef b l)(hx:Cv b x):∃n,At l x n:=by
 have hs:=Ig h hl;obtain⟨y,_,n,_,hat,_⟩:=O3 hs (λy hy=>(hl.mem y hy).small h) (hx.small h) (by have:=hl.len;omega);exact⟨n,hat⟩
theorem LeB.get{s:List Bool}(h:LeB s t){i:Nat}{x y:Bool}(hx:s[i]? = some x)(hy:t[i]? = some y):(x && !y)=false:=by
 cases x with
 |false=>rfl
 |true=>
  have:=h.2 i hx;rw[hy]at this;cases this;rfl
theorem A1u(h:A1 b)(hp:Ax b p):F76 p=some p:=by
 have hl:=hp.lens h;have h1:=hl.c;have h2:=hl.s;have h3:=hl.l;have h4:=hl.k;unfold F76;rw[Hk (by omega),Hk (by omega),Hk (by omega),Hk (by omega)];rfl
variable{x:Option α}
theorem dg{l:List (Bool×Bool)}{d:α}{P:α->Prop}(hx:Dk l->Ok x λ_=>True)(hr:∀y,P y):Ok (Au l x d) P:=
 c9 (λh=>(hx h).mono λy _=>hr y) λ_=>hr d
theorem dl{v:α}(h:x=some v):Ok x λ_=>True:=⟨v,h,trivial⟩
theorem A0n{x:Aj}(hx:Eh x)(hl:Eh like):Eh (Yt like x):=⟨hx.1,hx.2.1,hl.2.2.1,hl.2.2.2⟩
theorem Nw(h:∀x,x∈ss->Eh x){y:Aj}(hy:Eh y):∀x,x∈ss.set n y->Eh x:=λx hx=>by
 grind
theorem Afr(h:∀x,x∈ss->Eh x)(hn:n<ss.length):Eh (ss.getD n default):=by
 grind
theorem R_{like:Aj}(hl:Eh like):∀(idx:List Int)(ss:List Aj),(∀i,i∈idx->0<=i/\i<ss.length)->(∀x,x∈ss->Eh x)->∀x,x∈F0 like idx ss->Eh x
 | [],_,_,h=>h
 |i::idx,ss,hi,h=>by
  have h0:=hi i aj;refine R_ hl idx _ (λj hj=>?_) (Nw h (A0n (Afr h (by omega)) hl));grind
theorem Afu{b:Aa}{p:Ad}(hp:Ax b p):∀(l:List Aq)(s:List Aj),(∀x,x∈l->∀i,i∈x.Ae->0<=i/\i<b.Ae.length)->s.length=p.Ae.length->(∀x,x∈s->Eh x)->∀x,x∈l.foldl (Du p) s->Eh x
 | [],_,_,_,h=>h
 | y::l,s,hi,hs,h=>by
  refine Afu hp l _ (λx hx=>hi x (ak _ hx)) (by rw[Og,hs]) ?_;have h0:=hi y aj;have hn:=hp.nso;unfold Du;split
  ·exact h
  ·rename_i i r e;rw[e]at h0;have h1:=h0 i aj;rw[e];exact R_ (Afr hp.run (by omega)) _ _ (λj hj=>by have:=h0 j hj;omega) h
theorem Sx(hp:Ax b p):∀x,x∈Fz b p->Eh x:=
 Afu hp _ _ (λ_ hx=>Qt hx) rfl hp.run
theorem Kl(hp:Ax b p)(hl:ss.length=p.Ae.length)(hr:∀x,x∈ss->Eh x):Ax b ⟨p.Ai,ss,p.Ao,p.Al⟩ where
 ncl:=hp.ncl
 nso:=hl.trans hp.nso
 nli:=hp.nli
 run:=hr
 lim:=hp.lim
 one:=hp.one
 brk:=hp.brk
theorem Anw(hp:Ax b p)(j:Nat):Ax b ⟨p.Ai.set j false,p.Ae,p.Ao,p.Al⟩ where
 ncl:=by simpa using hp.ncl
 nso:=hp.nso
 nli:=hp.nli
 run:=hp.run
 lim:=hp.lim
 one i hi:=by
  refine ay (Af3 (by simp) (λk hk=>?_) i) (hp.one i hi);grind
 brk:=hp.brk
theorem Asl{l:List Ak}:∀{c:List Bool}{j:Nat}{x:Ak},l[j]? = some x->∀i:Nat,(Da l (c.set j true) i).length<=(Da l c i).length+(if x.Kind=3/\x.B=(i:Int)then 1 else 0):=by
 induction l with
 |nil=>intro c j x h;simp at h
 | cons y l ih=>
  intro c j x h i;cases c with
  |nil=>simp[Da]
  | cons v c=>
   cases j with
   |zero=>
    simp only[List.getElem?_cons_zero,ah]at h;subst h;simp only[List.set_cons_zero,Da,ci,bn];grind
   |succ j=>
    simp only[cG]at h;have:=ih (c:=c) h i;simp only[List.set_cons_succ,Da,ci,bn]at this ⊢;split <;> simp at this ⊢ <;> omega
theorem Asm{i:Nat}(h:Ft b p 3 (i:Int)=none):Da b.Ah p.Ai i=[]:=by
 unfold Ft at h;rw[Option.map_eq_none_iff,List.find?_eq_none]at h;unfold Da;rw[cL];exact h
variable{x:Ak}
theorem A5g(hp:Ax b p)(hx:b.Ah[j]? = some x)(hf:x.Kind=3->Ft b p 3 x.B=none):Ax b ⟨p.Ai.set j true,p.Ae,p.Ao,p.Al⟩ where
 ncl:=by simpa using hp.ncl
 nso:=hp.nso
 nli:=hp.nli
 run:=hp.run
 lim:=hp.lim
 one i hi:=by
  have h1:=Asl (c:=p.Ai) hx i;have h2:=hp.one i hi;dsimp only;split at h1
  ·rename_i hk;have h3:=hf hk.1;rw[hk.2]at h3;rw[Asm h3]at h1;simpa using h1
  ·omega
 brk:=hp.brk
theorem A00(h:A1 b)(hp:Ax b p)(i:Int):Ok (Ap0 b p i) λy=>y.2≠0\/Ax b y.1:=by
 have hbl:p.Al.length<=1000:=by have:=hp.brk.len;omega
 have hn:=hp.ncl;unfold Ap0;rw[E_ h hp,Hu h hp];simp only[aa];refine c6 (λhc=>by simp at hc) (λ_=>c6 (λ_=>Ok.pure (.inl (by simp))) (λhr=>?_));simp only[Ato,aQ,dK]at hr;refine(cW (by omega) (by omega)).bind λv _=>Ok.bind (P:=λ_=>True) (dg (λ_=>dl (G9 hbl _ _)) λ_=>trivial) λ_ _=>?_;refine c6 (λ_=>Ok.pure (.inl (by simp))) (λ_=>?_);exact(cW (by omega) (by omega)).bind λ_ _=>(d7 (by omega) (by omega)).bind λz hz=>Ok.pure (.inr (by rw[hz];exact Anw hp _))
theorem Azp(h:A1 b)(hp:Ax b p)(n:Int):Ok (J7 b p n) λy=>∀i,i∈y.1.Ae->0<=i/\i<p.Ae.length:=by
 have hn:=hp.nso;unfold J7;rw[Kz h hp];simp only[aa];refine Ok.andThen (A:=λ_=>True) (B:=λy=>∀i,i∈y.1.Ae->0<=i/\i<p.Ae.length) ?_ (λ_ _=>Ok.pure (λi hi=>by cases hi)) (λv hv=>Ok.pure hv);refine c8 (I:=λ_ _=>True) trivial (λj x s hx _=>?_) λs _=>trivial;have hmem:=ae hx;have hbl:x.Am.length<=9223372036854775807:=by
  unfold Cf at hmem;obtain⟨f,_,rfl⟩:=ao.1 (az.1 hmem).1;have:=Ff (λi=>(groups b p).getD i 0==(f:Int)) b.Am.toNat;have:=h.buses;simp only[isl,Fg];omega
 unfold Ro;rw[Gm _ _ hbl];simp only[aa];refine c6 (λ_=>Ok.ret λi hi=>?_) (λ_=>c7 trivial);have:=Qt hmem i hi;omega
theorem A84(h:A1 b)(hp:Ax b p)(n:Int):Ok (J7 b p n) λy=>y.1.Am.length<=9223372036854775807:=by
 unfold J7;rw[Kz h hp];simp only[aa];refine Ok.andThen (A:=λ_=>True) (B:=λy=>y.1.Am.length<=9223372036854775807) ?_ (λ_ _=>Ok.pure (by simp)) (λv hv=>Ok.pure hv);refine c8 (I:=λ_ _=>True) trivial (λj x s hx _=>?_) λs _=>trivial;have hmem:=ae hx;have hbl:x.Am.length<=9223372036854775807:=by
  unfold Cf at hmem;obtain⟨f,_,rfl⟩:=ao.1 (az.1 hmem).1;have:=Ff (λi=>(groups b p).getD i 0==(f:Int)) b.Am.toNat;have:=h.buses;simp only[isl,Fg];omega
 unfold Ro;rw[Gm _ _ hbl];simp only[aa];exact c6 (λ_=>Ok.ret hbl) (λ_=>c7 trivial)
theorem U5(h:A1 b)(hp:Ax b p)(n:Int):Ok (Aae b p n) λy=>y.2=true->0<=y.1/\y.1<p.Ae.length:=by
 unfold Aae;refine(Azp h hp n).bind λy hy=>?_;refine c6 (λ_=>Ok.pure (λe=>by cases e)) (λhc=>?_);simp only[dM,ne_eq]at hc;exact(cW (by omega) (by omega)).bind λz hz=>Ok.pure λ_=>hy z (ae hz)
theorem de{l:List α}(h0:0<=i)(h1:i<l.length):Ok (getI l i) λ_=>True:=(cW h0 h1).mono λ_ _=>trivial
theorem A0o(h:A1 b)(hp:Ax b p)(hx:b.Ah[j]? = some x):Ok (App b p x) λ_=>True:=by
 have hn:=hp.nso;have hb:=h.br x (ae hx);unfold T7 at hb;unfold App;refine(U5 h hp _).bind λy hy=>?_;refine c6 (λ_=>Ok.pure trivial) (λh2=>?_);simp only[cN]at h2;have hy:=hy h2;refine c6 (λ_=>?_) (λ_=>c6 (λhk=>?_) (λ_=>Ok.pure trivial))
 ·refine(U5 h hp _).bind λz hz=>?_;refine Ok.bind (P:=λ_=>True) (dg (λ_=>de hy.1 hy.2) λ_=>trivial) λ_ _=>?_;refine Ok.bind (P:=λ_=>True) (dg (λhg=>?_) λ_=>trivial) λ_ _=>Ok.pure trivial;have:=hz (by have:=hg.1;simpa using this);exact de this.1 this.2
 ·simp only[dL]at hk;exact(de hy.1 hy.2).bind λ_ _=>(de (by omega) (by omega)).bind λ_ _=>Ok.pure trivial
theorem Ar6{o:Option Int}:(Fw o).2=false->o=none:=by
 cases o with
 |none=>intro _;rfl
 |some a=>intro e;cases e
theorem Av4(h:A1 b)(hp:Ax b p){j:Int}(h0:0<=j)(h1:j<b.Ah.length):Ok (Apq b p j) λy=>y=true->∀x,b.Ah[j.toNat]? = some x->x.Kind=3->Ft b p 3 x.B=none:=by
 have hbl:p.Al.length<=1000:=by have:=hp.brk.len;omega
 have hn:=hp.nso;have hc:=hp.ncl;unfold Apq;refine(cW h0 h1).bind λx hx=>(de h0 (by omega)).bind λ_ _=>?_;have hb:=h.br x (ae hx);unfold T7 at hb;refine Ok.bind (P:=λ_=>True) (dg (λ_=>dl (G9 hbl _ _)) λ_=>trivial) λ_ _=>?_;refine Ok.bind (P:=λ_=>True) (dg (λ_=>dl (G9 hbl _ _)) λ_=>trivial) λ_ _=>?_;refine c6 (λ_=>Ok.pure (λe=>by cases e)) (λ_=>?_);refine c6 (λhk=>?_) (λhk1=>c6 (λhk=>?_) (λhk2=>?_))
 ·simp only[dL]at hk;rw[G9 hbl];refine Ok.pure λ_ y hy hy3=>?_;rw[hx]at hy;cases hy;omega
 ·simp only[dL]at hk;rw[G9 hbl];simp only[aa];refine Ok.bind (P:=λ_=>True) (dg (λ_=>de (by omega) (by omega)) λ_=>trivial) λ_ _=>Ok.pure λ_ y hy hy3=>?_;rw[hx]at hy;cases hy;omega
 ·unfold Ajd;rw[E_ h hp,Af4 h hc,G9 hbl];simp only[aa,dU,cond_false];refine Ok.pure λe y hy hy3=>?_;rw[hx]at hy;cases hy;simp only[ac,aV]at e;exact Ar6 e.2
theorem A3o(h:A1 b)(hp:Ax b p)(j:Int):Ok (Apv b p j) λy=>y≠0\/((0<=j/\j<b.Ah.length)/\∀x,b.Ah[j.toNat]? = some x->x.Kind=3->Ft b p 3 x.B=none):=by
 unfold Apv;rw[E_ h hp];simp only[aa];refine c6 (λhc=>by simp at hc) (λ_=>c6 (λ_=>Ok.pure (.inl (by simp))) (λhr=>?_));simp only[Atk,aQ,dK]at hr;refine(Av4 h hp (by omega) (by omega)).bind λy hy=>?_;refine c6 (λ_=>Ok.pure (.inl (by simp))) (λh2=>?_);simp only[cN]at h2;have hy:=hy h2;refine(cW (by omega) (by omega)).bind λx hx=>(A84 h hp x.A).bind λz hz=>?_;refine Ok.bind (P:=λ_=>True) (dg (λ_=>dl (Gm _ _ hz)) λ_=>trivial) λ_ _=>?_;refine Ok.bind (P:=λ_=>True) (dg (λ_=>A0o h hp hx) λ_=>trivial) λ_ _=>?_;exact c6 (λ_=>Ok.pure (.inl (by simp))) (λ_=>Ok.pure (.inr ⟨⟨by omega,by omega⟩,hy⟩))
theorem Axz(h:A1 b)(hp:Ax b p)(i:Int):Ok (Ap1 b p i) λy=>y.2≠0\/Ax b y.1:=by
 have hn:=hp.ncl;unfold Ap1;rw[Hu h hp];simp only[aa];refine(A3o h hp i).bind λy hy=>c6 (λhc=>Ok.pure (.inl (by simpa using hc))) (λhc=>?_);simp only[dR]at hc;rcases hy with hy|⟨hr,hf⟩
 ·exact absurd hc hy
 ·refine(cW hr.1 (by omega)).bind λ_ _=>(d7 hr.1 (by omega)).bind λz hz=>?_;obtain⟨x,hx⟩:∃x,b.Ah[i.toNat]? = some x:=⟨_,ai (by omega)⟩;have hq:=A5g hp hx (hf x hx);rw[←hz]at hq;rw[Pb h hq];exact Ok.pure (.inr (Kl hq (I_ _ _) (Sx hq)))
theorem Aww(h:A1 b)(hp:Ax b p)(i n:Int):Ok (Apz b p i n) λy=>y.2≠0\/Ax b y.1:=by
 have hn:=hp.nso;unfold Apz;rw[E_ h hp,Hu h hp];simp only[aa];refine c6 (λhc=>by simp at hc) (λ_=>c6 (λ_=>Ok.pure (.inl (by simp))) (λhr=>?_));simp only[Atn,aQ,dK]at hr;refine(U5 h hp n).bind λy hy=>?_;refine Ok.bind (P:=λ_=>True) (dg (λ_=>de (by omega) (by omega)) λ_=>trivial) λu _=>?_;refine c6 (λ_=>Ok.pure (.inl (by simp))) (λhc=>?_);simp only[aQ,cN]at hc;have hy:=hy hc.1;unfold Ay3;rw[E_ h hp,Vq h hp];simp only[aa,dU,cond_false];have hrun:∀w,p.Ae[y.1.toNat]? = some w->Eh w:=λw hw=>hp.run w (ae hw);refine c6 (λ_=>?_) (λ_=>?_)
 ·refine(Azp h hp _).bind λz hz=>(cW hy.1 hy.2).bind λw hw=>?_;rw[Aeq hz];exact Ok.pure (.inr (Kl hp (H5 _ _ _) (R_ (hrun w hw) _ _ hz hp.run)))
 ·refine(cW hy.1 hy.2).bind λw hw=>?_;have hz:∀k,k∈[i]->0<=k/\k<p.Ae.length:=λk hk=>by
   grind
  rw[Aeq hz];exact Ok.pure (.inr (Kl hp (H5 _ _ _) (R_ (hrun w hw) _ _ hz hp.run)))
theorem U6(h:A1 b)(hc:p.Ai.length=b.Ah.length)(t:Int)(h0:0<=i)(h1:i<b.Ae.length):Ok (Rn ⟨b,p,t⟩ i) λ_=>True:=by
 obtain⟨j,x,e,hx,_⟩:=Ao9 h h0 h1;have hj:=(ab.1 hx).1;unfold Rn;rw[Apa h,e];simp only[aa];exact(de (by omega) (by omega)).bind λ_ _=>Ok.pure trivial
def X9(b:Aa)(y:Int×Bg):Prop:=y.1≠0\/Ax b y.2.Aw
variable{t:Int}
theorem Av2(h:A1 b)(hp:Ax b p)(ht:0<=t/\t<=2147483648)(h0:0<=i)(h1:i<b.Ae.length):Ok (vC ⟨b,p,t⟩ i) (X9 b):=by
 have hn:=hp.nso;have hbl:p.Al.length<=1000:=by have:=hp.brk.len;omega
 unfold vC;refine(de h0 (by dsimp only;omega)).bind λu _=>Ok.bind (P:=λ_=>True) (dg (λ_=>dl (G9 hbl _ _)) λ_=>trivial) λ_ _=>?_;refine c6 (λ_=>Ok.pure (.inl (by simp))) (λ_=>(de h0 h1).bind λs _=>?_);refine Ok.bind (P:=λ_=>True) (dg (λ_=>U6 h hp.ncl t h0 h1) λ_=>trivial) λ_ _=>?_;refine c6 (λ_=>?_) (λ_=>?_)
 ·exact(d7 h0 (by dsimp only;omega)).bind λz hz=>Ok.pure (.inr (by
   rw[hz];exact Kl hp (by simp) (Nw hp.run ⟨by dsimp only;omega,ht,by dsimp only;omega,by dsimp only;omega⟩)))
 ·exact(d7 h0 (by dsimp only;omega)).bind λz hz=>Ok.pure (.inr (by
   rw[hz];exact Kl hp (by simp) (Nw hp.run ⟨by dsimp only;omega,ht,by dsimp only;omega,by dsimp only;omega⟩)))
theorem A0q(h:A1 b)(hp:Ax b p)(h0:0<=i)(h1:i<b.Ae.length):Ok (vB ⟨b,p,t⟩ i) (X9 b):=by
 have hn:=hp.nso;unfold vB;refine(cW h0 (by dsimp only;omega)).bind λu hu=>?_;have hr:=hp.run u (ae hu);refine Ok.bind (P:=λ_=>True) (dg (λ_=>U6 h hp.ncl t h0 h1) λ_=>trivial) λ_ _=>?_;refine c6 (λ_=>Ok.pure (.inl (by simp))) (λ_=>(d7 h0 (by dsimp only;omega)).bind λz hz=>Ok.pure (.inr ?_));rw[hz];exact Kl hp (by simp) (Nw hp.run ⟨by dsimp only;omega,hr.2⟩)
theorem Aw0(hp:Ax b p){v:Int}(h0:0<=i)(h1:i<b.Ag.length):Ok (vA ⟨b,p,t⟩ i v) (X9 b):=by
 have hn:=hp.nli;unfold vA;refine Ok.bind (P:=λy=>0<=v->b.Ag[i.toNat]? = some y) (c9 (λ_=>(cW h0 h1).mono λy hy _=>hy) λhg hv=>(hg ⟨by simp;omega,trivial⟩).elim) λc hc=>?_;refine c6 (λ_=>Ok.pure (.inl (by simp))) (λhr=>?_);simp only[Ag3,aQ,dK]at hr;have hc:=hc (by omega);refine(de h0 (by dsimp only;omega)).bind λ_ _=>(d7 h0 (by dsimp only;omega)).bind λz hz=>Ok.pure (.inr ?_);subst hz;exact {
  ncl:=hp.ncl
  nso:=hp.nso
  nli:=by simpa using hp.nli
  run:=hp.run
  lim:=λk m y hk hy=>by
   dsimp only at hk;rw[aD]at hk;split at hk
   ·grind
   ·exact hp.lim k m y hk hy
  one:=hp.one
  brk:=hp.brk}
theorem A04(x:Int):0<=C6 x/\C6 x<=3599:=by
 have:=R8 (x:=x) (n:=3600) (by omega);unfold C6;by_cases h:Int.tmod x 3600<0
 ·rw[dN h,cond_true,Az (by omega)];omega
 grind
theorem A0m(h:A1 b)(hp:Ax b p):Ok (Apu b p) λy=>Ax b y.1/\y.1.Ai=p.Ai/\y.2=0:=by
 have hs:=h.sol;have hn:=hp.nso;unfold Apu;rw[E_ h hp,Hu h hp];simp only[aa];refine c6 (λhc=>by simp at hc) (λ_=>?_);refine Ok.andThen (A:=λs=>s.length=p.Ae.length/\∀x,x∈s->Eh x) (B:=λ(_:Unit)=>False) ?_ (λs hs=>Ok.pure ⟨Kl hp hs.1 hs.2,rfl,rfl⟩) (λ_ h=>h.elim);refine c8 (I:=λ_ s=>s.length=p.Ae.length/\∀x,x∈s->Eh x) ⟨rfl,hp.run⟩ (λj x s hx hs=>?_) λs hs=>hs;have hj:=(ab.1 hx).1;have hcnt:cnt 0 j=(j:Int):=Ck (by omega);unfold Al1;rw[hcnt];refine c6 (λ_=>?_) (λ_=>c7 hs);refine(cW (by omega) (by omega)).bind λu hu=>(d7 (by omega) (by omega)).bind λz hz=>c7 ?_;have hr:=hs.2 u (ae hu);rw[hz];exact⟨by simpa using hs.1,Nw hs.2 ⟨hr.1,hr.2.1,hr.2.2.1,A04 _⟩⟩
theorem A0k(h:A1 b)(hp:Ax b p)(t:Int):Ok (uZ ⟨b,p,t⟩) λy=>Ax b y.Aw:=by
 have hso:=h.sol;unfold uZ;refine(A0m h hp).bind λ⟨q,e⟩ hq=>?_;dsimp only at hq ⊢;obtain⟨hq,_,_⟩:=hq;have hn:=hq.nso;refine Ok.andThen (A:=λs=>s.2.length=q.Ae.length/\∀x,x∈s.2->Eh x) (B:=λ(_:Unit)=>False) ?_ (λs hs=>Ok.pure (Kl hq hs.1 hs.2)) (λ_ h=>h.elim);refine cU (λs=>(0<=s.1/\s.1<=(q.Ae.length:Int))/\s.2.length=q.Ae.length/\∀x,x∈s.2->Eh x) (λs=>((q.Ae.length:Int)-s.1).toNat) _ _ ?_ ?_ ?_
 ·exact⟨by dsimp only;omega,rfl,hq.run⟩
 ·dsimp only;omega
 ·rintro⟨i,s⟩ ⟨⟨h1,h2⟩,h3,h4⟩;dsimp only at h1 h2 h3 h4;unfold Adk Ag2;dsimp only;refine c6 (λhc=>?_) (λ_=>cY ⟨h3,h4⟩);simp only[dJ]at hc;have e1:w64 (i+1)=i+1:=Az (by omega);refine(cW h1 (by omega)).bind λu hu=>?_;have hr:=h4 u (ae hu);refine Ok.bind (P:=λ_=>True) (dg (λ_=>U6 h hq.ncl t h1 (by omega)) λ_=>trivial) λ_ _=>?_;refine Ok.bind (P:=λ_=>True) (dg (λ_=>de h1 (by omega)) λ_=>trivial) λ_ _=>?_;rw[e1];refine c6 (λ_=>?_) (λ_=>c7 ⟨⟨by dsimp only;omega,h3,h4⟩,by dsimp only;omega⟩);refine(d7 h1 (by omega)).bind λz hz=>c7 ⟨⟨by dsimp only;omega,?_,?_⟩,by dsimp only;omega⟩
  ·dsimp only;rw[hz];simpa using h3
  ·dsimp only;rw[hz];exact Nw h4 ⟨by dsimp only;omega,hr.2⟩
theorem bet{x:Int}(h:lo<=x/\x<=hi):Ch x lo hi=true:=(Kk x lo hi).2 h
def ofL(b:Aa)(q:Ak->Bool):List Int:=(b.Ah.zipIdx.filter λz=>q z.1).map λz=>(z.2:Int)
theorem Ae8(h:A1 b)(k i:Int):T0 b k i=some (ofL b λx=>K4 k i x):=by
 have hb:=h.brl;refine cZ ?_;unfold T0;refine Ok.andThen (A:=λs=>s=ofL b λx=>K4 k i x) (B:=λ(_:Unit)=>False) ?_ (λs hs=>Ok.pure hs) (λ_ h=>h.elim);refine c8 (I:=λj s=>s=((b.Ah.zipIdx.take j).filter λz=>K4 k i z.1).map λz=>(z.2:Int)) rfl (λj x s hx hs=>?_) λs hs=>?_
 ·have hj:=(ab.1 hx).1;have hcnt:cnt 0 j=(j:Int):=Ck (by omega);have hz:b.Ah.zipIdx[j]? = some (x,j):=by rw[List.getElem?_zipIdx,hx];simp
  have hsl:s.length<=j:=by
   grind
  unfold Am0;rw[hcnt,Bp hz,bp,bB,←hs];refine c6 (λhq=>?_) (λhq=>c7 (by simp[hq]));exact(cV (by simp;omega)).bind λy hy=>c7 (by rw[hy];simp[hq])
 ·rw[hs,show b.Ah.length=b.Ah.zipIdx.length from by simp,aE];rfl
theorem Aq1(q:Ak->Bool):∀(l:List Ak)(k:Nat),((l.zipIdx k).filter λz=>q z.1).length=(l.filter q).length
 | [],_=>rfl
 |x::l,k=>by
  simp only[List.zipIdx_cons,bn];split <;> simp[Aq1 q l (k+1)]
theorem A02(b:Aa)(q:Ak->Bool):(ofL b q).length=(b.Ah.filter q).length:=by
 unfold ofL;rw[aw,Aq1]
theorem Awd(k:Int)(hk:k≠1)(i:Int)(x:Ak):K4 k i x=(x.Kind==k&&x.B==i):=by
 unfold K4;grind
theorem yO(hk:k≠1)(i:Nat):(ofL b λx=>K4 k (i:Int) x).length=(brs b.Ah k i).length:=by
 rw[A02];unfold brs;congr 1;exact List.filter_congr λx _=>Awd k hk i x
theorem Aev(h:A1 b):Aqc b=some true:=by
 have hs:=h.sol;have hc:=h.col;have hb:=h.buses;have hbl:=h.brl;refine cZ ?_;unfold Aqc;rw[D4 b.Ah 0 λj x hj=>?_]
 ·rw[show ∀(f:Unit->Option Bool),andThen (some (Ctl.next ()):Option (Ctl Unit Bool)) some f=f () from λ_=>rfl];refine Ok.andThen (A:=λ_=>True) (B:=λ(_:Bool)=>False) ?_ (λ_ _=>?_) (λ_ h=>h.elim)
  ·refine cU (λs=>0<=s/\s<=(b.Ae.length:Int)) (λs=>((b.Ae.length:Int)-s).toNat) _ (0:Int) (by omega) (by omega) ?_;rintro i ⟨h1,h2⟩;unfold Amg Alo;refine c6 (λhq=>?_) (λ_=>cY trivial);simp only[dJ]at hq;obtain⟨n,rfl⟩:∃n:Nat,i=(n:Int):=⟨i.toNat,by omega⟩;rw[Ae8 h];simp only[aa];have hone:=h.one n (by omega);rw[yO (by decide),hone,Az (by omega)];refine c6 (λhc=>by simp at hc) (λ_=>c7 ⟨by omega,by omega⟩)
  ·refine Ok.andThen (A:=λ_=>True) (B:=λ(_:Bool)=>False) ?_ (λ_ _=>Ok.pure rfl) (λ_ h=>h.elim);refine cU (λs=>0<=s/\s<=(b.Ag.length:Int)) (λs=>((b.Ag.length:Int)-s).toNat) _ (0:Int) (by omega) (by omega) ?_;rintro i ⟨h1,h2⟩;unfold Amf Aln;refine c6 (λhq=>?_) (λ_=>cY trivial);simp only[dJ]at hq;obtain⟨n,rfl⟩:∃n:Nat,i=(n:Int):=⟨i.toNat,by omega⟩;rw[Ae8 h];simp only[aa];have hany:=h.any n (by omega);have hpos:0<(brs b.Ah 3 n).length:=List.length_pos_iff.2 hany;rw[yO (by decide),Az (by omega)];refine c6 (λhc=>?_) (λ_=>c7 ⟨by omega,by omega⟩);simp only[dJ]at hc;omega
 ·have hjl := (ab.1 hj).1;obtain⟨⟨a0,a1⟩,hk⟩:=h.br x (ae hj);rw[aJ];have hcnt:cnt 0 j=(j:Int):=Ck (by omega);have e1:w64 (b.Am-1)=b.Am-1:=Az (by omega);have e2:w64 (x.A+1)=x.A+1:=Az (by omega);have e3:w64 ((b.Ae.length:Int)-1)=(b.Ae.length:Int)-1:=Az (by omega);have e4:w64 ((b.Ag.length:Int)-1)=(b.Ag.length:Int)-1:=Az (by omega);unfold Amh Aty Atx Atw;rw[e1,e2,e3,e4,hcnt,bet (x:=x.A) (by omega)];simp only[aH,cond_false];rcases hk with⟨hk,h1,h2⟩|⟨hk,h1,h2⟩|⟨hk,h1,h2⟩
  ·rw[hk,bet (x:=x.B) (lo:=x.A+1) (by omega)];rfl
  ·rw[hk,bet (x:=x.B) (lo:=0) (hi:=(b.Ae.length:Int)-1) (by omega)];rfl
  ·rw [hk, bet (x := x.B) (lo := 0) (hi := (b.Ag.length : Int) - 1) (by omega)];have hcut:cutI b.Ah 0 (j:Int)=some (b.Ah.take j):=by
    refine cZ ((Ok.cutI (by omega) (by omega) (by omega)).mono λy hy=>?_);rw[hy];simp
   show ((cutI b.Ah 0 (j:Int)).bind λy9=>andThen (foldI (Aa5 x) y9 0 ()) (λv=>some (Ctl.ret v)) λz1=>some (Ctl.next ()))=some (Ctl.next ());rw[hcut];simp only[aa];rw[D4 _ 0 λm y hy=>?_]
   ·rfl
   ·have hml:m<j:=by
     have:=(ab.1 hy).1;simp only[aY]at this;omega
    have hyb:b.Ah[m]? = some y:=by
     rw[aq,if_pos hml]at hy;exact hy
    unfold Aa5;have hne:Ag8 x y=false:=by
     unfold Ag8;rw[cD];intro e;simp only[bl,ac,dL]at e;obtain⟨e1,e2,e3⟩:=e;have hn:=h.nodup x.B.toNat;have hsplit:b.Ah=b.Ah.take j++(x::b.Ah.drop (j+1)):=by
      conv=>lhs;rw[←bU j b.Ah]
      rw[List.drop_eq_getElem_cons hjl];have:b.Ah[j]=x:=by
       rw[ai hjl]at hj;cases hj;rfl
      rw[this]
     rw[hsplit,Hv,bB]at hn;have hBn:x.B=(x.B.toNat:Int):=by omega
     have hmem1:y.A∈(brs (b.Ah.take j) 3 x.B.toNat).map (·.A):=by
      refine ao.2 ⟨y,?_,rfl⟩;unfold brs;refine az.2 ⟨ae hy,?_⟩;rw[e1,hk,e3,←hBn];simp
     have hmem2:x.A∈(brs (x::b.Ah.drop (j+1)) 3 x.B.toNat).map (·.A):=by
      refine ao.2 ⟨x,?_,rfl⟩;unfold brs;refine az.2 ⟨aj,?_⟩;rw[hk,←hBn];simp
     exact(List.nodup_append.1 hn).2.2 _ hmem1 _ hmem2 e2
    rw[hne];rfl
theorem Ajx(h:A1 b):Aqb b=some true:=by
 unfold Aqb;rw[D4 b.Ae 0 λj x hj=>?_]
 ·rfl
 ·obtain⟨h1,h2,h3⟩:=h.so x (ae hj);unfold Ame Atv;rw[bet h1,bet h2,bet h3];rfl
theorem Adw(h:A1 b):Aqa b=some true:=by
 have hcl:=h.col;unfold Aqa;rw[D4 b.Ag 0 λj x hj=>?_]
 ·rfl
 ·obtain⟨h1,h2,h3,h4,h5,h6,h7⟩:=h.co j x hj;have hjl:=(ab.1 hj).1;rw[aJ];have hcnt:cnt 0 j=(j:Int):=Ck (by omega);unfold Amd Atu;rw[bet h1,bet h2,bet h3,bet h4];have hd:decide ((x.Needs.length:Int)>4)=false:=by simp;omega
  rw[hd];simp only[aH,Bool.or_false,cond_false];rw[D4 x.Needs 0 λm n hm=>?_]
  ·rfl
  ·have hml:=(ab.1 hm).1;rw[aJ];have hcm:cnt 0 m=(m:Int):=Ck (by omega);have hn:=h6 n (ae hm);unfold Amc Att;rw[hcnt,hcm,Az (n:=(j:Int)-1) (by omega),bet (x:=n) (by omega)];cases m with
   |zero=>rfl
   |succ m=>
    obtain⟨a,ha⟩:∃a,x.Needs[m]? = some a:=⟨_,ai (by omega)⟩;have hlt:=h7 m a n ha hm;have e:w64 (((m+1:Nat):Int)-1)=(m:Int):=by rw[Az (by omega)];omega
    have hp:decide (((m+1:Nat):Int)>0)=true:=dN (by omega);have hq:decide (a>=n)=false:=by simp;omega
    rw[e,B4 ha,hp];simp[Au,Dv,hq]
theorem Awa(h:A1 b):Zz b=some 0:=by
 have h1:=h.buses;have h2:=h.brl;have h3:=h.sol;have h4:=h.col;have h5:=h.phase;have h6:=h.freq;unfold Zz;rw[Aev h,Ajx h,Adw h];have e:Ahg b=false:=by
  rw[cD];intro e;simp[Ahg]at e;omega
 have e2:Ahf b true true true=false:=by
  rw[cD];intro e;simp[Ahf]at e;omega
 rw[e];simp only[cond_false,aa];have g1:(Au [(!true,false)] (some true) default:Option Bool)=some true:=rfl;grind
theorem Abv(i:Nat)(C:List Bool):∀(l:List Ak)(c:List Bool)(k:Nat),C.drop k=c->l.length=c.length ->
  (((l.zipIdx k).filter λz=>z.1.Kind==3&&z.1.B==(i:Int)).filter λz=>C.getD z.2 false).length=(Da l c i).length
 | [],_,_,_,_=>by simp[Da]
 |x::l,[],_,_,h=>by simp at h
 | x::l,v::c,k,hd,h=>by
  have hv:C[k]? = some v:=by
   have:=congrArg (·[0]?) hd;simpa[List.getElem?_drop]using this
  have hd':C.drop (k+1)=c:=by rw[←bP,hd];rfl
  have ih:=Abv i C l c (k+1) hd' (by simpa using h);have hg:C.getD k false=v:=by simp[List.getD,hv]
  simp only[List.zipIdx_cons,bn,Da,ci]at ih ⊢;grind
theorem N7(h:A1 b)(hp:Ax b p):F75 b p=some 0:=by
 have h3:=h.sol;have h4:=h.col;have hbl:=h.brl;have hncl:=hp.ncl;have hnso:=hp.nso;have hnli:=hp.nli;refine cZ ?_;unfold F75;rw[Awa h];simp only[aa];refine c6 (λhc=>by simp at hc) (λ_=>c6 (λhc=>?_) (λ_=>?_))
 ·simp[Az6,hncl,hnso,hnli]at hc
 rw[D4 p.Ae 0 λj x hj=>?_]
 ·rw [show ∀(f : Unit -> Option Int), andThen (some (Ctl.next ()) : Option (Ctl Unit Int)) some f = f () from λ_ => rfl];rw[D4 p.Ao 0 λj x hj=>?_]
  ·rw [show ∀(f : Unit -> Option Int), andThen (some (Ctl.next ()) : Option (Ctl Unit Int)) some f = f () from λ_ => rfl];have hlen:=hp.brk.len;refine c6 (λhc=>?_) (λ_=>?_)
   ·simp only[dJ]at hc;omega
   rw[D4 p.Al 0 λj x hj=>?_]
   ·rw[show ∀(f:Unit->Option Int),andThen (some (Ctl.next ()):Option (Ctl Unit Int)) some f=f () from λ_=>rfl];refine Ok.andThen (A:=λ_=>True) (B:=λ(_:Int)=>False) ?_ (λ_ _=>Ok.pure rfl) (λ_ h=>h.elim);refine cU (λs=>0<=s/\s<=(b.Ag.length:Int)) (λs=>((b.Ag.length:Int)-s).toNat) _ (0:Int) (by omega) (by omega) ?_;rintro i ⟨g1,g2⟩;unfold Au6 Az3;refine c6 (λhq=>?_) (λ_=>cY trivial);simp only[dJ]at hq;obtain⟨n,rfl⟩:∃n:Nat,i=(n:Int):=⟨i.toNat,by omega⟩;rw[Ae8 h];simp only[aa];have hone:=hp.one n (by omega);have hz:ofL b (λx=>K4 3 (n:Int) x)=((b.Ah.zipIdx.filter λz=>z.1.Kind==3&&z.1.B==(n:Int)).map λz=>(z.2:Int)):=by
     unfold ofL;congr 1;exact List.filter_congr λz _=>Awd 3 (by decide) n z.1
    have hzf:=Abv n p.Ai b.Ah p.Ai 0 rfl (by omega);rw[hz];have hin:∀z,z∈(b.Ah.zipIdx.filter λz=>z.1.Kind==3&&z.1.B==(n:Int))->z.2<p.Ai.length:=by
     rintro⟨x,j⟩ hm;have:=(az.1 hm).1;rw[List.mem_zipIdx_iff_getElem?]at this;have:=(ab.1 this).1;dsimp only;omega
    have hsz:(b.Ah.zipIdx.filter λz=>z.1.Kind==3&&z.1.B==(n:Int)).length<=24:=ay (bg _ _) (by simpa using hbl);generalize hm:(b.Ah.zipIdx.filter λz=>z.1.Kind==3&&z.1.B==(n:Int))=m at hin hsz hzf;refine(c8 (xs:=m.map λz=>(z.2:Int)) (I:=λj s=>s=(((m.take j).filter λz=>p.Ai.getD z.2 false).length:Int)) (A:=λs=>s=((m.filter λz=>p.Ai.getD z.2 false).length:Int)) (B:=λ(_:Unit)=>False) rfl (λj x s hx hs=>?_) λs hs=>?_).inner (λs hs=>?_) (λ_ h=>h.elim)
    ·rw[au,bx]at hx;obtain⟨z,hz,rfl⟩:=hx;have hzl:=hin z (ae hz);obtain⟨v,hv⟩:∃v,p.Ai[z.2]? = some v:=⟨_,ai hzl⟩;have hg:p.Ai.getD z.2 false=v:=by simp[List.getD,hv]
     have hle:((m.take j).filter λz=>p.Ai.getD z.2 false).length<=24:=ay (bg _ _) (by simp;omega);unfold Au5;rw[B4 hv,Bp hz,bp];simp only[aa];refine c6 (λhq=>c7 ?_) (λhq=>c7 ?_)
     ·rw[hs,Az (by omega),bn,hg,if_pos hq];simp
     ·rw[hs,bn,hg,if_neg (ff hq)];simp
    ·rw[aw,aE]at hs;exact hs
    ·rw[hs,hzf,Az (by omega)];refine c6 (λhc=>?_) (λ_=>c7 ⟨by omega,by omega⟩);simp only[dJ]at hc;omega
   ·have hjl:=(ab.1 hj).1;rw[aJ];have hcnt:cnt 0 j=(j:Int):=Ck (by omega);unfold Au7 Az4;rw[(qI h x).2 (hp.brk.mem x (ae hj)),hcnt];cases j with
    |zero=>rfl
    | succ j=>
     obtain⟨a,ha⟩:∃a,p.Al[j]? = some a:=⟨_,ai (by omega)⟩;have hlt:=hp.brk.asc j a x ha hj;have e:w64 (((j+1:Nat):Int)-1)=(j:Int):=by rw[Az (by omega)];omega
     have hpz:decide (((j+1:Nat):Int)>0)=true:=dN (by omega);have hb:Ajj a x=true:=by
      unfold Ajj;unfold K8 at hlt;simp only[an,ac,dJ,dL];exact hlt
     rw[e,B4 ha,hpz];simp[Au,Dv,hb]
  ·have hjl:=(ab.1 hj).1;rw[aJ];have hcnt:cnt 0 j=(j:Int):=Ck (by omega);obtain⟨c,hc⟩:∃c,b.Ag[j]? = some c:=⟨_,ai (by omega)⟩;unfold Au8;rw[hcnt,B4 hc];simp only[aa];rw[bet (hp.lim j x c hj hc)];rfl
 ·have hr:=hp.run x (ae hj);unfold Au9 Az5;rw[bet hr.1,bet hr.2.1,bet hr.2.2.1,bet hr.2.2.2];rfl
variable{x:Ab}
theorem As0(h:l[n]? = some x):Fe (l.take n++l.drop (n+1)) n x=l:=by
 have hn:=(ab.1 h).1;have ht:(l.take n).length=n:=by simp;omega
 unfold Fe;rw[cM (by omega),List.take_take,Nat.min_self,List.drop_append_of_le_length (by omega),List.drop_of_length_le (by omega),List.nil_append]
 conv=>rhs;rw[←bU n l]
 rw[List.drop_eq_getElem_cons hn];grind
theorem Vn(hn:n<l.length)(h:(l.take n++l.drop (n+1))[j]? = some y):(j<n/\l[j]? = some y)\/(n<=j/\l[j+1]? = some y):=by
 grind
theorem Axr(h:A1 b)(hl:Ef b l)(hn:n<l.length):Ef b (l.take n++l.drop (n+1)):=by
 have hs:=Ig h hl;have hsm:∀y,y∈l->Dg y:=λy hy=>(hl.mem y hy).small h;have hlen:=hl.len;refine⟨by simp;omega,λy hy=>?_,λj y z hy hz=>?_⟩
 ·grind[Ef.mem]
 ·rcases Vn hn hy with⟨a1,a2⟩|⟨a1,a2⟩ <;> rcases Vn hn hz with⟨b1,b2⟩|⟨b1,b2⟩
  ·exact hl.asc j y z a2 b2
  ·exact(Ad7 (hsm y (ae a2)) (hsm z (ae b2))).2 (hs j (j+1+1) y z (by omega) a2 b2)
  ·omega
  ·exact hl.asc (j+1) y z a2 b2
theorem Axs(h:A1 b)(hl:Ef b l)(hx:l[n]? = some x):At (l.take n++l.drop (n+1)) x n/\(l.take n++l.drop (n+1))[n]? ≠ some x:=by
 have hs:=Ig h hl;have hn:=(ab.1 hx).1;refine⟨⟨by simp;omega,λj y hj hy=>?_,λj y hj hy=>?_⟩,λe=>?_⟩
 ·grind[Gq]
 ·grind[Gq]
 ·rcases Vn hn e with⟨a1,_⟩|⟨_,a2⟩
  ·omega
  ·have:=hs n (n+1) x x (by omega) hx a2;omega
theorem A1o(h:A1 b)(hp:Ax b p)(t:Int)(hx:Cv b x)(v:Bool):Ok (Jl ⟨b,p,t⟩ x v) (X9 b):=by
 obtain⟨n,hat⟩:=A8l h hp.brk hx;have hlen:=hp.brk.len;have hsearch:=O3 (Ig h hp.brk) (λy hy=>(hp.brk.mem y hy).small h) (hx.small h) (by omega);have hbad:∀(hv:(p.Al[n]? = some x)↔v=true),Ok (Jl ⟨b,p,t⟩ x v) (X9 b):=by
  intro hv;unfold Jl;refine hsearch.bind λy hy=>?_;obtain⟨m,e1,hat2,hf⟩:=hy;have e2:=hat.uniq hat2;subst e2;have:y.2=v:=by
   rw[bk];exact hf.trans hv
  rw[this];exact c6 (λ_=>Ok.pure (.inl (by simp))) (λhc=>by simp at hc)
 by_cases hin:p.Al[n]? = some x
 ·cases v with
  |true=>exact hbad ⟨λ_=>rfl,λ_=>hin⟩
  |false=>
   have hn:=(ab.1 hin).1;have he:=Axs h hp.brk hin;have hq:Ax b ⟨p.Ai,p.Ae,p.Ao,p.Al.take n++p.Al.drop (n+1)⟩:={ncl:=hp.ncl,nso:=hp.nso,nli:=hp.nli,run:=hp.run,lim:=hp.lim,one:=hp.one,brk:=Axr h hp.brk hn};have:=A09 h (p:=⟨p.Ai,p.Ae,p.Ao,p.Al.take n++p.Al.drop (n+1)⟩) hq.brk (q:=p) hx t he.1 he.2 (by simp;omega) (As0 hin).symm hp.nso;rw[this];refine Ok.pure (.inr ?_);exact Kl hq (Vf _ _ _) (Af6 hp.run (λhk=>by have:=hp.nso;unfold Cv at hx;omega) (by omega))
 ·cases v with
  |false=>grind
  | true=>
   by_cases hl:p.Al.length<32
   ·rw[A1p h hp hx t hat hin hl];exact Ok.pure (.inr (Aon h hp hx hat hin hl))
   ·unfold Jl;refine hsearch.bind λy _=>c6 (λ_=>Ok.pure (.inl (by simp))) (λ_=>c6 (λ_=>Ok.pure (.inl (by simp))) (λhc=>?_));simp[Te]at hc;omega
def A4j:Ad:=⟨[],[],[],[]⟩
theorem Aw4(a:A0):Ok (Ap6 b a) λy=>y=true->((a.Kind=1\/a.Kind=2)->Cv b ⟨2,a.Unit⟩)/\((a.Kind=3\/a.Kind=4)->Cv b ⟨1,a.Unit⟩)/\(a.Kind=5->Cv b ⟨4,a.Unit⟩)/\((a.Kind=8\/a.Kind=9)->Cv b ⟨a.Value,a.Unit⟩):=by
 unfold Ap6;refine Ok.andThen (A:=λz=>z=true↔(a.Kind=1\/a.Kind=2)) (B:=λ(_:Unit)=>False) ?_ (λz hz=>?_) (λ_ h=>h.elim)
 ·unfold Al6;refine c6 (λhk=>db ?_) (λhk=>db ?_)
  ·simp only[dL]at hk ⊢;omega
  ·simp only[dM,ne_eq]at hk;simp only[dL];omega
 refine c6 (λhq=>Ok.pure λhk=>?_) (λhq=>?_)
 ·have:=hz.1 hq;have hk:=(N_ b _ _).1 hk;exact⟨λ_=>hk,λe=>by omega,λe=>by omega,λe=>by omega⟩
 have hn12:¬(a.Kind=1\/a.Kind=2):=λe=>by rw[hz.2 e]at hq;cases hq
 refine Ok.andThen (A:=λz=>z=true↔(a.Kind=3\/a.Kind=4)) (B:=λ(_:Unit)=>False) ?_ (λz hz=>?_) (λ_ h=>h.elim)
 ·unfold Al5;refine c6 (λhk=>db ?_) (λhk=>db ?_)
  ·simp only[dL]at hk ⊢;omega
  ·simp only[dM,ne_eq]at hk;simp only[dL];omega
 refine c6 (λhq=>Ok.pure λhk=>?_) (λhq=>?_)
 ·have:=hz.1 hq;have hk:=(N_ b _ _).1 hk;exact⟨λe=>by omega,λ_=>hk,λe=>by omega,λe=>by omega⟩
 have hn34:¬(a.Kind=3\/a.Kind=4):=λe=>by rw[hz.2 e]at hq;cases hq
 refine c6 (λhq=>Ok.pure λhk=>?_) (λhq5=>c6 (λhq=>Ok.pure λ_=>?_) (λhq6=>c6 (λhq=>Ok.pure λhk=>?_) (λhq8=>c6 (λhq=>Ok.pure λhk=>?_) (λhq9=>Ok.pure λ_=>?_))))
 ·simp only[dL]at hq;have hk:=(N_ b _ _).1 hk;exact⟨λe=>by omega,λe=>by omega,λ_=>hk,λe=>by omega⟩
 ·simp only[dL]at hq;exact⟨λe=>by omega,λe=>by omega,λe=>by omega,λe=>by omega⟩
 ·have hk:=(N_ b _ _).1 hk;simp only[dL]at hq;exact⟨λe=>by omega,λe=>by omega,λe=>by omega,λ_=>hk⟩
 ·have hk:=(N_ b _ _).1 hk;simp only[dL]at hq;exact⟨λe=>by omega,λe=>by omega,λe=>by omega,λ_=>hk⟩
 grind
theorem A76(h:A1 b)(hp:Ax b p)(ht:0<=t/\t<=2147483648){a:A0}(hk:1<=a.Kind/\a.Kind<=9)
  (hw:((a.Kind=1\/a.Kind=2)->Cv b ⟨2,a.Unit⟩)/\((a.Kind=3\/a.Kind=4)->Cv b ⟨1,a.Unit⟩)/\(a.Kind=5->Cv b ⟨4,a.Unit⟩)/\((a.Kind=8\/a.Kind=9)->Cv b ⟨a.Value,a.Unit⟩)):Ok (vI ⟨b,p,t⟩ a) (X9 b):=by
 obtain⟨w1,w2,w3,w4⟩:=hw;unfold Cv at w2 w3;dsimp only at w2 w3;unfold vI;refine c6 (λ_=>(Axz h hp _).bind λy hy=>Ok.pure hy) (λq1=>?_);refine c6 (λ_=>(A00 h hp _).bind λy hy=>Ok.pure hy) (λq2=>?_);refine c6 (λ_=>(Aww h hp _ _).bind λy hy=>Ok.pure hy) (λq6=>?_);refine c6 (λq=>?_) (λq3=>?_)
 ·simp only[dL]at q;exact(Av2 h hp ht (by omega) (by omega)).bind λy hy=>Ok.pure hy
 refine c6 (λq=>?_) (λq4=>?_)
 ·simp only[dL]at q;exact(A0q h hp (by omega) (by omega)).bind λy hy=>Ok.pure hy
 refine c6 (λq=>?_) (λq5=>?_)
 ·simp only[dL]at q;exact(Aw0 hp (by omega) (by omega)).bind λy hy=>Ok.pure hy
 refine c6 (λ_=>(A0k h hp t).bind λy hy=>Ok.pure (.inr hy)) (λq7=>?_);simp only[dM,ne_eq]at q1 q2 q3 q4 q5 q6 q7;exact(A1o h hp t (w4 (by omega)) _).bind λy hy=>Ok.pure hy
theorem A6p(h:A1 b)(hp:Ax b p)(t:Int)(a:A0):Ok (Aba b p t a) λy=>(y.2≠0/\y.1=A4j)\/(y.2=0/\Ax b y.1):=by
 unfold Aba;rw[E_ h hp,Hu h hp];simp only[aa];refine c6 (λhc=>by simp at hc) (λ_=>c6 (λ_=>Ok.pure (.inl ⟨by simp,rfl⟩)) (λhr=>?_));simp only[Aua,aQ,dK]at hr;refine(Aw4 a).bind λy hy=>c6 (λ_=>Ok.pure (.inl ⟨by simp,rfl⟩)) (λhk=>?_);simp only[cN]at hk;refine(A76 h hp (by omega) (by omega) (hy hk)).bind λz hz=>c6 (λhc=>Ok.pure (.inl ⟨by simpa using hc,rfl⟩)) (λhc=>?_);simp only[dR]at hc;rcases hz with hz|hz
 ·exact absurd hc hz
 ·exact Ok.pure (.inr ⟨rfl,hz⟩)

abbrev Ep:=List (Ak×Bool)
def Tie(L:Ep)(i j:Nat):Prop:=∃z,z∈L/\z.1.Kind=1/\z.2=true/\((z.1.A.toNat=i/\z.1.B.toNat=j)\/(z.1.A.toNat=j/\z.1.B.toNat=i))
variable{L:Ep}{i:Nat}
theorem Tie.symm(h:Tie L i j):Tie L j i:=by
 obtain⟨z,h1,h2,h3,h4⟩:=h;exact⟨z,h1,h2,h3,h4.symm⟩
inductive D9(L:Ep)(i:Nat):Nat->Nat->Prop
 |refl:D9 L i 0 i
 |stay {r j:Nat}:D9 L i r j->D9 L i (r+1) j
 |step {r j k:Nat}:D9 L i r j->Tie L j k->D9 L i (r+1) k
def Hy(L:Ep)(i j:Nat):Prop:=∃r,D9 L i r j
theorem Hy.refl(L:Ep)(i:Nat):Hy L i i:=⟨0,.refl⟩
theorem Hy.tie{k:Nat}(h:Hy L i j)(t:Tie L j k):Hy L i k:=by
 obtain⟨r,h⟩:=h;exact⟨r+1,h.step t⟩
theorem Hy.trans{k:Nat}(h:Hy L i j)(h2:Hy L j k):Hy L i k:=by
 obtain⟨r,h2⟩:=h2;induction h2 with
 |refl=>exact h
 |stay _ ih=>exact ih
 |step _ t ih=>exact ih.tie t
theorem Hy.symm(h:Hy L i j):Hy L j i:=by
 obtain⟨r,h⟩:=h;induction h with
 |refl=>exact .refl L i
 |stay _ ih=>exact ih
 |step _ t ih=>exact(Hy.tie (.refl L _) t.symm).trans ih
theorem D9.le{s:Nat}(h:D9 L i r j)(hs:r<=s):D9 L i s j:=by
 induction s with
 |zero=>
  grind
 |succ s ih=>
  by_cases e:r=s+1
  ·subst e;exact h
  ·exact(ih (by omega)).stay
open Classical in
noncomputable def cn (p:Nat->Prop):Nat->Nat
 |0=>0
 |n+1=>cn p n+if p n then 1 else 0
theorem Azy(p:Nat->Prop):∀n,cn p n<=n
 |0=>af _
 |n+1=>by have:=Azy p n;unfold cn;split <;> omega
theorem zP{p q:Nat->Prop}:∀n,(∀k,k<n->p k->q k)->cn p n<=cn q n
 |0,_=>af _
 |n+1,h=>by
  have:=zP n λk hk=>h k (by omega);grind[cn]
theorem Ao5{p q:Nat->Prop}:∀n,(∀k,k<n->p k->q k)->cn p n=cn q n->∀k,k<n->q k->p k
 |0,_,_,k,hk,_=>by omega
 | n+1,h,e,k,hk,hq=>by
  have hm:=zP n λk hk=>h k (by omega);have h1:=h n (by omega);unfold cn at e;by_cases hp:p n
  ·rw[if_pos hp,if_pos (h1 hp)]at e;by_cases ek:k=n
   ·subst ek;exact hp
   ·exact Ao5 n (λk hk=>h k (by omega)) (by omega) k (by omega) hq
  ·rw[if_neg hp]at e;by_cases hqn:q n
   ·rw[if_pos hqn]at e;omega
   ·rw[if_neg hqn]at e;by_cases ek:k=n
    ·subst ek;exact absurd hq hqn
    ·exact Ao5 n (λk hk=>h k (by omega)) (by omega) k (by omega) hq
def uI(L:Ep)(n:Nat):Prop:=∀i j,Tie L i j->i<n/\j<n
theorem D9.lt(hL:uI L n)(hi:i<n)(h:D9 L i r j):j<n:=by
 induction h with
 |refl=>exact hi
 |stay _ ih=>exact ih
 |step _ t _=>exact(hL _ _ t).2
theorem qS(hL:uI L n)(_:i<n)(h:Hy L i j):D9 L i n j:=by
 have hst:∃r,r<=n/\∀k,k<n->D9 L i (r+1) k->D9 L i r k:=by
  by_cases hex:∃r,r<=n/\∀k,k<n->D9 L i (r+1) k->D9 L i r k
  ·exact hex
  exfalso;have hgrow:∀r,r<=n->cn (D9 L i r) n<cn (D9 L i (r+1)) n:=by
   intro r hr;have hm:=zP (p:=D9 L i r) (q:=D9 L i (r+1)) n λk _ h=>h.stay;rcases Nat.lt_or_eq_of_le hm with h|h
   ·exact h
   ·exact absurd ⟨r,hr,Ao5 n (λk _ h=>h.stay) h⟩ hex
  have hge:∀r,r<=n+1->r<=cn (D9 L i r) n:=by
   intro r;induction r with
   |zero=>intro _;omega
   |succ r ih=>grind
  have h1:=hge (n+1) (af _);have h2:=Azy (D9 L i (n+1)) n;omega
 obtain⟨r,hr,hs⟩:=hst;obtain⟨s,h⟩:=h;have key:∀s k,D9 L i s k->D9 L i r k:=by
  intro s k h;induction h with
  |refl=>exact D9.refl.le (by omega)
  |stay _ ih=>exact ih
  |step h0 t ih=>exact hs _ (hL _ _ t).2 (ih.step t)
 exact(key s j h).le hr
def D1(b:Aa)(p:Ad):Ep:=b.Ah.zip p.Ai
theorem yB(h:A1 b)(p:Ad):uI (D1 b p) b.Am.toNat:=by
 rintro i j ⟨z,hz,hk,_,he⟩;have:=h.br z.1 (bW hz).1;unfold T7 at this;omega
theorem A89(h:i<s.length):s[i]? = some (s.getD i 0):=by
 grind
theorem U_(hi:i<s.length):(Gt s z).getD i 0=if(z.1.Kind=1/\z.2=true)/\(i=z.1.A.toNat\/i=z.1.B.toNat)then min (s.getD z.1.A.toNat 0) (s.getD z.1.B.toNat 0) else s.getD i 0:=by
 unfold Gt;grind
def Lab(L:Ep)(s:List Int):Prop:=∀i,i<s.length->Hy L (s.getD i 0).toNat i
theorem Asf(h:Lab L s)(hz:z∈L)(hr:z.1.Kind=1->z.1.A.toNat<s.length/\z.1.B.toNat<s.length):Lab L (Gt s z):=by
 intro i hi;rw[Fu]at hi;rw[U_ hi];split
 ·rename_i hc;obtain⟨⟨hk,hv⟩,hab⟩:=hc;obtain⟨ha,hb⟩:=hr hk;have tAB:Tie L z.1.A.toNat z.1.B.toNat:=⟨z,hz,hk,hv,.inl ⟨rfl,rfl⟩⟩;have c1:=h _ ha;have c2:=h _ hb;rcases Int.le_total (s.getD z.1.A.toNat 0) (s.getD z.1.B.toNat 0) with e|e
  ·rw[Int.min_eq_left e];rcases hab with rfl|rfl
   ·exact c1
   ·exact c1.tie tAB
  ·rw[Int.min_eq_right e];rcases hab with rfl|rfl
   ·exact c2.tie tAB.symm
   ·exact c2
 ·exact h i hi
theorem Su{L:Ep}{n:Nat}:∀(l:Ep)(s:List Int),s.length=n->(∀z,z∈l->z∈L/\(z.1.Kind=1->z.1.A.toNat<n/\z.1.B.toNat<n))->Lab L s->Lab L (El l s)
 | [],_,_,_,h=>h
 |z::l,s,hs,hz,h=>Su l (Gt s z) (by rw[Fu];exact hs) (λy hy=>hz y (ak _ hy)) (Asf h (hz z aj).1 (by grind))
theorem Va(z:Ak×Bool)(hi:i<s.length):(Gt s z).getD i 0<=s.getD i 0:=by
 rw[U_ hi];grind
theorem Sv:∀(l:Ep)(s:List Int){i:Nat},i<s.length->(El l s).getD i 0<=s.getD i 0
 | [],_,_,_=>Int.le_refl _
 |z::l,s,i,hi=>Int.le_trans (Sv l (Gt s z) (by rw[Fu];exact hi)) (Va z hi)
theorem jV:∀(l:Ep)(s:List Int){z:Ak×Bool},z∈l->z.1.Kind=1->z.2=true->z.1.A.toNat<s.length->z.1.B.toNat<s.length->∀i,i=z.1.A.toNat\/i=z.1.B.toNat->(El l s).getD i 0<=min (s.getD z.1.A.toNat 0) (s.getD z.1.B.toNat 0)
 | [],_,_,h,_,_,_,_,_,_=>by cases h
 | y::l,s,z,hz,hk,hv,ha,hb,i,hi=>by
  show (El l (Gt s y)).getD i 0<=_;have hil:i<s.length:=by rcases hi with rfl|rfl <;> assumption
  by_cases e:z=y
  ·subst e;refine Int.le_trans (Sv l _ (by rw[Fu];exact hil)) ?_;rw[U_ hil,if_pos ⟨⟨hk,hv⟩,hi⟩];exact Int.le_refl _
  ·have hz':z∈l:=by
    grind
   refine Int.le_trans (jV l (Gt s y) hz' hk hv (by rw[Fu];exact ha) (by rw[Fu];exact hb) i hi) ?_;have h1:=Va y ha;have h2:=Va y hb;omega
theorem Mc(h:i<n):(Dl n).getD i 0=(i:Int):=by
 grind[Dl]
theorem Aoe(hL:uI L n):∀r i j,i<n->j<n->D9 L j r i->((List.range r).foldl (λs _=>El L s) (Dl n)).getD i 0<=(j:Int):=by
 intro r;have hlen:∀r,((List.range r).foldl (λs _=>El L s) (Dl n)).length=n:=by
  intro r;induction r with
  |zero=>simp[Dl]
  |succ r ih=>rw[bV,bc];simp only[bz,List.foldl_nil,Gy];exact ih
 induction r with
 |zero=>
  intro i j hi hj h;cases h;show (Dl n).getD i 0<=_;rw[Mc hi];exact Int.le_refl _
 | succ r ih=>
  intro i j hi hj h;have hrl:=hlen r;rw[bV,bc];simp only[bz,List.foldl_nil];generalize (List.range r).foldl (λs _=>El L s) (Dl n)=s at *;cases h with
  |stay h=>exact Int.le_trans (Sv L s (by omega)) (ih i j hi hj h)
  |step h t=>
   rename_i k;have hk:=hL _ _ t;have h1:=ih k j hk.1 hj h;obtain⟨z,hz,hz1,hz2,he⟩:=t;have hA:z.1.A.toNat<s.length:=by omega
   have hB:z.1.B.toNat<s.length:=by omega
   have h2:=jV L s hz hz1 hz2 hA hB i (by omega);grind
theorem jQ(h:A1 b)(p:Ad)(hi:i<b.Am.toNat)(hj:j<b.Am.toNat):(groups b p).getD i 0=(groups b p).getD j 0↔Hy (D1 b p) i j:=by
 have hL:=yB h p;have hlen:=Jp b p;have hlab:Lab (D1 b p) (groups b p):=by
  have hz:∀z,z∈D1 b p->z∈D1 b p/\(z.1.Kind=1->z.1.A.toNat<b.Am.toNat/\z.1.B.toNat<b.Am.toNat):=by
   intro z hz;refine⟨hz,λhk=>?_⟩;have:=h.br z.1 (bW hz).1;unfold T7 at this;omega
  have key:∀(xs:List Nat)(s:List Int),s.length=b.Am.toNat->Lab (D1 b p) s->Lab (D1 b p) (xs.foldl (λs _=>El (b.Ah.zip p.Ai) s) s):=by
   intro xs;induction xs with
   |nil=>intro s _ h;exact h
   |cons x xs ih=>intro s hl h;exact ih _ (by rw[Gy];exact hl) (Su _ s hl hz h)
  refine key _ _ (by simp[Dl]) ?_;intro k hk;have hk':k<b.Am.toNat:=by simpa[Dl]using hk
  rw[Mc hk'];exact .refl _ k
 have hlow:∀i j,i<b.Am.toNat->j<b.Am.toNat->Hy (D1 b p) j i->(groups b p).getD i 0<=(j:Int):=λi j hi hj hc=>Aoe hL _ i j hi hj (qS hL hj hc);have hlo:=Vb h p;have hrange:∀i,i<b.Am.toNat->0<=(groups b p).getD i 0/\((groups b p).getD i 0).toNat<b.Am.toNat:=by
  grind
 constructor
 ·intro e;have c1:=hlab i (by omega);have c2:=hlab j (by omega);rw[e]at c1;exact c1.symm.trans c2
 ·intro hc;have r1:=hrange i hi;have r2:=hrange j hj;have c1:=hlab i (by omega);have c2:=hlab j (by omega);have l1:=hlow j _ hj r1.2 (c1.trans hc);have l2:=hlow i _ hi r2.2 (c2.trans hc.symm);omega
def Hd(s:List Bool)(z:Ak×Bool):List Bool:=
 if(z.1.Kind=1/\z.2=true)/\(s.getD z.1.A.toNat false || s.getD z.1.B.toNat false)=true then (s.set z.1.A.toNat true).set z.1.B.toNat true else s
theorem Gj(s:List Bool)(z:Ak×Bool):(Hd s z).length=s.length:=by unfold Hd;split <;> simp
def Hz(L:Ep)(s:List Bool):List Bool:=L.foldl Hd s
theorem Mx:∀(l:Ep)(s:List Bool),(Hz l s).length=s.length
 | [],_=>rfl
 |z::l,s=>by show (Hz l (Hd s z)).length=_;rw[Mx l,Gj]
variable{s:List Bool}
theorem A8q(hi:i<s.length):(s.set m true).getD i false=(decide (m=i) || s.getD i false):=by
 grind
theorem Ma(hi:i<s.length):(Hd s z).getD i false=true↔s.getD i false=true\/(((z.1.Kind=1/\z.2=true)/\(s.getD z.1.A.toNat false || s.getD z.1.B.toNat false)=true)/\(i=z.1.A.toNat\/i=z.1.B.toNat)):=by
 unfold Hd;grind
def Got(L:Ep)(n:Nat)(s:List Bool):Prop:=∀i,i<s.length->s.getD i false=true->Hy L n i
theorem Arn(h:Got L n s)(hz:z∈L)(hr:z.1.Kind=1->z.1.A.toNat<s.length/\z.1.B.toNat<s.length):Got L n (Hd s z):=by
 intro i hi e;rw[Gj]at hi;rcases(Ma hi).1 e with e|⟨⟨⟨hk,hv⟩,ho⟩,hab⟩
 ·exact h i hi e
 ·obtain⟨ha,hb⟩:=hr hk;have t:Tie L z.1.A.toNat z.1.B.toNat:=⟨z,hz,hk,hv,.inl ⟨rfl,rfl⟩⟩;simp only[an]at ho;rcases ho with ho|ho
  ·have c:=h _ ha ho;rcases hab with rfl|rfl
   ·exact c
   ·exact c.tie t
  ·have c:=h _ hb ho;rcases hab with rfl|rfl
   ·exact c.tie t.symm
   ·exact c
theorem Z9{L:Ep}{n m:Nat}:∀(l:Ep)(s:List Bool),s.length=m->(∀z,z∈l->z∈L/\(z.1.Kind=1->z.1.A.toNat<m/\z.1.B.toNat<m))->Got L n s->Got L n (Hz l s)
 | [],_,_,_,h=>h
 |z::l,s,hs,hz,h=>Z9 l (Hd s z) (by rw[Gj];exact hs) (λy hy=>hz y (ak _ hy)) (Arn h (hz z aj).1 (by grind))
theorem Sc:∀(l:Ep)(s:List Bool){i:Nat},i<s.length->s.getD i false=true->(Hz l s).getD i false=true
 | [],_,_,_,h=>h
 |z::l,s,_,hi,h=>Sc l (Hd s z) (by rw[Gj];exact hi) ((Ma hi).2 (.inl h))
theorem Z8:∀(l:Ep)(s:List Bool){z:Ak×Bool},z∈l->z.1.Kind=1->z.2=true->z.1.A.toNat<s.length->z.1.B.toNat<s.length->(s.getD z.1.A.toNat false || s.getD z.1.B.toNat false)=true->∀i,i=z.1.A.toNat\/i=z.1.B.toNat->(Hz l s).getD i false=true
 | [],_,_,h,_,_,_,_,_,_,_=>by cases h
 | y::l,s,z,hz,hk,hv,ha,hb,ho,i,hi=>by
  show (Hz l (Hd s y)).getD i false=true;have hil:i<s.length:=by rcases hi with rfl|rfl <;> assumption
  by_cases e:z=y
  ·subst e;exact Sc l _ (by rw[Gj];exact hil) ((Ma hil).2 (.inr ⟨⟨⟨hk,hv⟩,ho⟩,hi⟩))
  ·have hz':z∈l:=by
    grind
   refine Z8 l (Hd s y) hz' hk hv (by rw[Gj];exact ha) (by rw[Gj];exact hb) ?_ i hi;simp only[an]at ho ⊢;exact ho.imp (λe=>(Ma ha).2 (.inl e)) (λe=>(Ma hb).2 (.inl e))
def Mb(L:Ep)(r:Nat)(s:List Bool):List Bool:=(List.range r).foldl (λs _=>Hz L s) s
theorem Lw(L:Ep)(r:Nat)(s:List Bool):Mb L (r+1) s=Hz L (Mb L r s):=by
 unfold Mb;rw[bV,bc];rfl
theorem I7(L:Ep)(s:List Bool):∀r,(Mb L r s).length=s.length
 |0=>rfl
 |r+1=>by rw[Lw,Mx,I7 L s r]
theorem Anl(hL:uI L m)(hs:s.length=m)(hn:s.getD n false=true):∀r i,i<m->D9 L n r i->(Mb L r s).getD i false=true:=by
 intro r;induction r with
 |zero=>intro i _ h;cases h;exact hn
 | succ r ih=>
  intro i hi h;rw[Lw];have hl:=I7 L s r;cases h with
  |stay h=>exact Sc L _ (by omega) (ih i hi h)
  |step h t=>
   rename_i k;have hk:=hL _ _ t;have h1:=ih k hk.1 h;obtain⟨z,hz,hz1,hz2,he⟩:=t;refine Z8 L _ hz hz1 hz2 (by omega) (by omega) ?_ i (by omega);grind
def Ko(b:Aa)(p:Ad)(n:Nat):List Int:=((List.range b.Am.toNat).filter λi=>(groups b p).getD i 0==(groups b p).getD n 0).map λ(i:Nat)=>(i:Int)
theorem Awb(h:A1 b)(hp:Ax b p)(hn:n<b.Am.toNat):Aqd b p (n:Int)=some (Ko b p n):=by
 have hbu:=h.buses;have hbl:=h.brl;have hncl:=hp.ncl;have hL:=yB h p;refine cZ ?_;unfold Aqd;refine(Ok.mkI (by omega) (by omega)).bind λy hy=>?_;have hyl:y.length=b.Am.toNat:=by rw[hy];simp
 refine(de (by omega) (by omega)).bind λ_ _=>(d7 (by omega) (by omega)).bind λz hz=>?_;rw[aB]at hz;have hzl:z.length=b.Am.toNat:=by rw[hz];simpa using hyl
 have hzn:z.getD n false=true:=by rw[hz];simp[List.getD,hyl,hn]
 have hzg:Got (D1 b p) n z:=by
  intro i hi e;have hiy:i<y.length:=by omega
  rw[hz,A8q hiy]at e;simp only[an,dJ]at e;rcases e with e|e
  ·subst e;exact .refl _ _
  ·rw[hy]at e;simp[List.getD,show i<b.Am.toNat by omega]at e
 clear hz;refine Ok.andThen (A:=λs=>s=Mb (D1 b p) b.Am.toNat z) (B:=λ(_:Unit)=>False) ?_ (λs hs=>?_) (λ_ h=>h.elim)
 ·refine c8 (I:=λj s=>s=Mb (D1 b p) j z) rfl (λj x s hx hs=>?_) λs hs=>by rw[hs,hzl]
  unfold Amk;have hsl:s.length=b.Am.toNat:=by rw[hs,I7,hzl]
  refine(c8 (I:=λk r=>r=Hz ((D1 b p).take k) s) (A:=λr=>r=Hz (D1 b p) s) (B:=λ(_:Unit)=>False) rfl (λk u r hu hr=>?_) λr hr=>?_).inner (λr hr=>c7 (by rw[hr,hs,Lw])) (λ_ h=>h.elim)
  ·have hk:=(ab.1 hu).1;have hcnt:cnt 0 k=(k:Int):=Ck (by omega);have hrl:r.length=b.Am.toNat:=by rw[hr,Mx,hsl]
   obtain⟨⟨a0,a1⟩,hkind⟩:=h.br u (ae hu);obtain⟨v,hv⟩:∃v,p.Ai[k]? = some v:=⟨_,ai (by omega)⟩;have hzk:(D1 b p)[k]? = some (u,v):=by unfold D1;rw[List.getElem?_zip_eq_some];exact⟨hu,hv⟩
   have hnext:Hz ((D1 b p).take (k+1)) s=Hd r (u,v):=by
    rw[Bp hzk,Hz,bc,hr];rfl
   rw[hnext];have hB:u.Kind=1->0<=u.B/\u.B<b.Am:=λe=>by omega
   unfold Amj;rw[hcnt,B4 hv];by_cases k1:u.Kind=1
   ·have h2:=hB k1;obtain⟨ga,hga⟩:∃ga,r[u.A.toNat]? = some ga:=⟨_,ai (by omega)⟩;obtain⟨gb,hgb⟩:∃gb,r[u.B.toNat]? = some gb:=⟨_,ai (by omega)⟩;have hda:r.getD u.A.toNat false=ga:=by simp[List.getD,hga]
    have hdb:r.getD u.B.toNat false=gb:=by simp[List.getD,hgb]
    have ea:getI r u.A=some ga:=by have:=B4 hga;rwa [bE a0]at this
    have eb:getI r u.B=some gb:=by have:=B4 hgb;rwa [bE h2.1]at this
    rw[dL.2 k1];refine Ok.bind (P:=λw=>w=v) (c9 (λ_=>Ok.pure rfl) λhn=>(hn ⟨rfl,trivial⟩).elim) λw hw=>?_;subst hw;cases w with
    |false=>
     refine Ok.bind (P:=λ_=>True) (dg (λ_=>de a0 (by omega)) λ_=>trivial) λ_ _=>?_;refine Ok.bind (P:=λ_=>True) (dg (λ_=>de h2.1 (by omega)) λ_=>trivial) λ_ _=>?_;refine c6 (λhq=>by simp[Vv]at hq) (λ_=>c7 ?_);unfold Hd;rw[if_neg (by simp)]
    | true=>
     rw[ea,eb];refine Ok.bind (P:=λw=>w=ga) (c9 (λ_=>Ok.pure rfl) λhn=>(hn ⟨rfl,trivial⟩).elim) λw hw=>?_;subst hw;refine Ok.bind (P:=λx=>(w || x)=(w || gb)) (c9 (λ_=>Ok.pure rfl) λhn=>?_) λx hx=>?_
     ·cases w with
      |true=>rfl
      |false=>exact(hn ⟨rfl,rfl,trivial⟩).elim
     have hc8:Vv u true w x=(w || gb):=by
      unfold Vv;rw[hx,dL.2 k1];rfl
     rw[hc8];refine c6 (λhq=>?_) (λhq=>c7 ?_)
     ·refine Ok.bind (P:=λ_=>True) (dl rfl) λ_ _=>(d7 a0 (by omega)).bind λr1 e1=>?_;refine(de h2.1 (by rw[e1];simp;omega)).bind λ_ _=>(d7 h2.1 (by rw[e1];simp;omega)).bind λr2 e2=>c7 ?_;rw[e2,e1];unfold Hd;rw[if_pos ⟨⟨k1,rfl⟩,by rw[hda,hdb];exact hq⟩]
     ·unfold Hd;rw[if_neg (λe=>by have:=e.2;rw[hda,hdb,hq]at this;cases this)]
   ·have k0:(u.Kind==1)=false:=dM.2 k1;rw[k0];refine Ok.bind (P:=λ_=>True) (c9 (λhg=>absurd hg.1 (by simp)) λ_=>trivial) λy7 _=>?_;refine Ok.bind (P:=λ_=>True) (c9 (λhg=>absurd hg.1 (by simp)) λ_=>trivial) λy9 _=>?_;refine Ok.bind (P:=λ_=>True) (c9 (λhg=>absurd hg.1 (by simp)) λ_=>trivial) λy11 _=>?_;refine c6 (λhq=>by simp[Vv,k0]at hq) (λ_=>c7 ?_);unfold Hd;rw[if_neg (λe=>k1 e.1.1)]
  ·have:b.Ah.length=(D1 b p).length:=by unfold D1;rw[List.length_zip];omega
   rw[hr,this,aE]
 ·have hsl:s.length=b.Am.toNat:=by rw[hs,I7,hzl]
  have hval:∀i,i<b.Am.toNat->s.getD i false=((groups b p).getD i 0==(groups b p).getD n 0):=by
   intro i hi;rw[bk,dL,jQ h p hi hn];have hg:∀r,Got (D1 b p) n (Mb (D1 b p) r z):=by
    intro r;induction r with
    |zero=>exact hzg
    |succ r ih=>
     rw[Lw];refine Z9 (m:=b.Am.toNat) _ _ (by rw[I7,hzl]) (λy hy=>⟨hy,λhk=>?_⟩) ih;have:=h.br y.1 (bW hy).1;unfold T7 at this;omega
   constructor
   ·intro e;rw[hs]at e;exact(hg _ i (by rw[I7,hzl];exact hi) e).symm
   ·intro c;rw[hs];exact Anl hL hzl hzn _ i hi (qS hL hn c.symm)
  refine Ok.andThen (A:=λy=>y=Ko b p n) (B:=λ(_:Unit)=>False) ?_ (λy hy=>Ok.pure hy) (λ_ h=>h.elim);refine c8 (I:=λj y=>y=((List.range j).filter λi=>(groups b p).getD i 0==(groups b p).getD n 0).map λ(i:Nat)=>(i:Int)) rfl (λj x y hx hy=>?_) λy hy=>?_
  ·have hj:=(ab.1 hx).1;have hcnt:cnt 0 j=(j:Int):=Ck (by omega);have hv:=hval j (by omega);have hxd:s.getD j false=x:=by simp[List.getD,hx]
   rw[hxd]at hv;have hyl2:y.length<=j:=by rw[hy];exact Ff _ j
   rw[G5,←hy];unfold Ami;refine c6 (λhq=>?_) (λhq=>c7 ?_)
   ·refine(cV (by simp;omega)).bind λw hw=>c7 ?_;rw[hw,hcnt,if_pos (by rw[←hv];exact hq)]
   ·rw[if_neg (by rw[←hv,hq];simp),aX]
  ·rw[hy,hsl];rfl
def ofZ(b:Aa)(k i:Int):List (Ak×Nat):=b.Ah.zipIdx.filter λz=>z.1.Kind==k&&z.1.B==i
theorem Anx(hk:k≠1)(i:Int):(ofL b λx=>K4 k i x)=(ofZ b k i).map λz=>(z.2:Int):=by
 unfold ofL ofZ;congr 1;exact List.filter_congr λz _=>Awd k hk i z.1
variable{z:Ak×Nat}{i:Int}
theorem yN(h:z∈ofZ b k i):b.Ah[z.2]? = some z.1:=by
 have:=(az.1 h).1;grind
theorem Aeh(q:Ak->Bool)(C:List Bool):∀(l:List Ak)(c:List Bool)(k:Nat),C.drop k=c->l.length=c.length ->
  (((l.zipIdx k).filter λz=>q z.1).find? λz=>C.getD z.2 false).map (·.1)=((l.zip c).find? λz=>q z.1&&z.2).map (·.1)
 | [],_,_,_,_=>by simp
 |x::l,[],_,_,h=>by simp at h
 | x::l,v::c,k,hd,h=>by
  have hv:C[k]? = some v:=by
   have:=congrArg (·[0]?) hd;simpa[List.getElem?_drop]using this
  have hd':C.drop (k+1)=c:=by rw[←bP,hd];rfl
  have ih:=Aeh q C l c (k+1) hd' (by simpa using h);have hg:C.getD k false=v:=by simp[List.getD,hv]
  simp only[List.zipIdx_cons,bn,ci,List.find?_cons];grind
theorem Ar7(hc:p.Ai.length=b.Ah.length)(k i:Int):Ft b p k i=((ofZ b k i).find? λz=>p.Ai.getD z.2 false).map (·.1.A):=by
 have:=Aeh (λx=>x.Kind==k&&x.B==i) p.Ai b.Ah p.Ai 0 rfl (by omega);unfold Ft ofZ;have h2:=congrArg (Option.map (·.A)) this;simp only[Option.map_map]at h2;exact h2.symm
theorem qT(hc:p.Ai.length=b.Ah.length)(h:z∈ofZ b k i):p.Ai[z.2]? = some (p.Ai.getD z.2 false):=by
 have:=(ab.1 (yN h)).1;grind
theorem zN(h:A1 b)(hp:Ax b p)(i:Int):Zw b p i=some (Fw (Hi b p i)):=by
 have hn:=hp.nso;have hc:=hp.ncl;refine cZ ?_;unfold Zw;rw[N7 h hp];simp only[aa];by_cases hi:0<=i/\i<b.Ae.length
 ·obtain⟨x,hx⟩:∃x,p.Ae[i.toNat]? = some x:=⟨_,ai (by omega)⟩;have hg:getI p.Ae i=some x:=by have:=B4 hx;rwa [bE hi.1]at this
  have hd:p.Ae.getD i.toNat default=x:=by simp[List.getD,hx]
  have hcond:((((0:Int) != 0) || (decide (i<0))) || (decide (i>=(b.Ae.length:Int))))=false:=by
   rw[cD];intro e;simp at e;omega
  rw[hcond,hg];refine Ok.bind (P:=λy=>y=x) (c9 (λ_=>Ok.pure rfl) λhn=>(hn ⟨rfl,trivial⟩).elim) λy hy=>?_;subst hy;refine c6 (λhq=>Ok.pure ?_) (λhq=>?_)
  ·simp only[uD,hcond,aW,bne_iff_ne,ne_eq]at hq;unfold Hi;rw[if_neg (λe=>by rw[hd]at e;exact hq e.2.2)];rfl
  ·simp only[uD,hcond,aW,dR]at hq;have hcon:Hi b p i=Ft b p 2 i:=by
    unfold Hi;rw[if_pos ⟨hi.1,by omega,by rw[hd];exact hq⟩]
   rw[Ae8 h,Anx (by decide),hcon,Ar7 hc];simp only[aa];obtain⟨n,rfl⟩:∃n:Nat,i=(n:Int):=⟨i.toNat,by omega⟩;have hlen:=yO (b:=b) (k:=2) (by decide) n;rw[Anx (by decide),h.one n (by omega),aw]at hlen;obtain⟨z,hz⟩:=List.length_eq_one_iff.1 hlen;have hzm:z∈ofZ b 2 (n:Int):=by rw[hz];exact aj
   have hcz:=qT hc hzm;have hbz:=yN hzm;rw[hz];show Ok ((getI [(z.2:Int)] 0).bind _) _;rw[show getI [(z.2:Int)] 0=some (z.2:Int) from rfl];simp only[aa,B4 hcz,List.find?_cons,List.find?_nil];cases hv:p.Ai.getD z.2 false with
   |false=>exact Ok.pure rfl
   |true=>
    simp only[aH,cond_false,B4 hbz,aa];exact Ok.pure rfl
 ·refine Ok.bind (P:=λ_=>True) (c9 (λhg=>?_) λ_=>trivial) λy _=>?_
  ·have:=hg.1;simp at this;omega
  refine c6 (λhq=>Ok.pure ?_) (λhq=>?_)
  ·unfold Hi;rw[if_neg (λe=>hi (by omega))];rfl
  ·simp[uD]at hq;omega
theorem Axp(h:A1 b)(hp:Ax b p)(h0:0<=i)(h1:i<b.Ag.length):Ai9 b p i=some (Fw (Ft b p 3 i)):=by
 have hc:=hp.ncl;refine cZ ?_;unfold Ai9;rw[N7 h hp];simp only[aa];refine c6 (λhq=>?_) (λ_=>?_)
 ·simp[At6]at hq;omega
 rw[Ae8 h,Anx (by decide),Ar7 hc];simp only[aa];have key:∀(m:List (Ak×Nat))(k:Nat),(∀z,z∈m->b.Ah[z.2]? = some z.1/\p.Ai[z.2]? = some (p.Ai.getD z.2 false)) ->
   foldI (Aa9 b p) (m.map λz=>(z.2:Int)) k ()=match m.find? λz=>p.Ai.getD z.2 false with
    |some z=>some (.ret (z.1.A,true))
    |none=>some (.next ()):=by
  intro m;induction m with
  |nil=>intro k _;rfl
  |cons z m ih=>
   intro k hm;obtain⟨e1,e2⟩:=hm z aj;simp only[bw,foldI,Aa9,B4 e1,B4 e2,aa,List.find?_cons];grind
 rw[key _ 0 λz hz=>⟨yN hz,qT hc hz⟩];cases (ofZ b 3 i).find? λz=>p.Ai.getD z.2 false with
 |none=>exact Ok.pure rfl
 |some z=>exact Ok.pure rfl
theorem Asd(l:List Int)(x:Int):Qa l x=some (l.any (· == x)):=by
 unfold Qa;have:∀(l:List Int)(k:Nat),foldI (Aa6 x) l k ()=bif l.any (· == x)then some (.ret true) else some (.next ()):=by
  intro l;induction l with
  |nil=>intro k;rfl
  |cons y l ih=>
   grind[foldI,Aa6]
 grind[andThen]
theorem Aer(h0:0<=a)(h1:a<b.Am):(Ko b p n).any (· == a)=((groups b p).getD a.toNat 0==(groups b p).getD n 0):=by
 rw[bk,cu];constructor
 ·rintro⟨x,hx,e⟩;rw[dL]at e;subst e;obtain⟨i,hi,rfl⟩:=ao.1 hx;grind
 ·intro e;refine⟨a,ao.2 ⟨a.toNat,az.2 ⟨be.2 (by omega),e⟩,by omega⟩,by simp⟩
theorem Kc(h:A1 b)(p:Ad)(hn:n<b.Am.toNat):0<=(groups b p).getD n 0/\((groups b p).getD n 0).toNat<=n/\(((groups b p).getD n 0).toNat:Int)=(groups b p).getD n 0:=by
 have:=Vb h p n _ (A89 (by rw[Jp];exact hn));omega
theorem A03(h:A1 b)(hp:Ax b p)(hn:n<b.Am.toNat):Qd b p (n:Int)=some (isl b p ((groups b p).getD n 0).toNat,true):=by
 have hso:=h.sol;have hco:=h.col;have hg:=Kc h p hn;refine cZ ?_;unfold Qd;rw[N7 h hp];simp only[aa];refine c6 (λhc=>?_) (λ_=>?_)
 ·simp[Auk]at hc;omega
 rw[Awb h hp hn];simp only[aa];refine Ok.andThen (A:=λs=>s.2=G2 b p b.Ae.length ((groups b p).getD n 0).toNat) (B:=λ(_:Unit)=>False) ?_ (λs hs=>?_) (λ_ h=>h.elim)
 ·refine cU (λs=>(0<=s.1/\s.1<=(b.Ae.length:Int))/\s.2=G2 b p s.1.toNat ((groups b p).getD n 0).toNat) (λs=>((b.Ae.length:Int)-s.1).toNat) _ _ ?_ ?_ ?_
  ·exact⟨by dsimp only;omega,rfl⟩
  ·dsimp only;omega
  ·rintro⟨i,s⟩ ⟨⟨g1,g2⟩,g3⟩;dsimp only at g1 g2 g3;unfold Am2 Auj;dsimp only;have hsl:s.length<=i.toNat:=by rw[g3];exact Ff _ _
   refine c6 (λhq=>?_) (λhq=>cY ?_)
   ·simp only[dJ]at hq;have e1:w64 (i+1)=i+1:=Az (by omega);have e2:(i+1).toNat=i.toNat+1:=by omega
    have e3:((i.toNat:Nat):Int)=i:=by omega
    rw[e1,zN h hp];simp only[aa,Asd];have hnext:G2 b p (i.toNat+1) ((groups b p).getD n 0).toNat=s++if(He b p (Hi b p i)==some (((groups b p).getD n 0).toNat:Int))=true then [i] else []:=by
     unfold G2 at g3 ⊢;rw[G5,←g3,e3]
    have hskip:(He b p (Hi b p i)==some (((groups b p).getD n 0).toNat:Int))=false->Ok (some (.next (i+1,s)):Option (Ctl (Int×List Int) Unit)) (Gg (λs'=>((0<=s'.1/\s'.1<=(b.Ae.length:Int))/\s'.2=G2 b p s'.1.toNat ((groups b p).getD n 0).toNat)/\((b.Ae.length:Int)-s'.1).toNat<((b.Ae.length:Int)-i).toNat) (λs=>s.2=G2 b p b.Ae.length ((groups b p).getD n 0).toNat) (λ_=>False)):=by
     intro hf;refine c7 ⟨⟨by dsimp only;omega,?_⟩,by dsimp only;omega⟩;dsimp only;rw[e2,hnext,hf];simp
    cases hco:Hi b p i with
    |none=>
     refine Ok.bind (P:=λ_=>True) (c9 (λhg=>absurd hg.1 (by simp[Fw])) λ_=>trivial) λy _=>?_;refine c6 (λhq=>by simp[Fw]at hq) (λ_=>hskip (by rw[hco];rfl))
    | some a=>
     have ha:=Agr h hco;refine Ok.bind (P:=λy=>y=(Ko b p n).any (· == a)) (c9 (λ_=>Ok.pure rfl) λhn=>(hn ⟨rfl,trivial⟩).elim) λy hy=>?_;rw[Aer ha.1 ha.2]at hy;have hgr:(He b p (Hi b p i)==some (((groups b p).getD n 0).toNat:Int))=((groups b p).getD a.toNat 0==(groups b p).getD n 0):=by
      rw[hco,hg.2.2];rfl
     refine c6 (λhq=>?_) (λhq=>?_)
     ·simp only[Fw,bu]at hq;refine(cV (by simp;omega)).bind λw hw=>c7 ⟨⟨by dsimp only;omega,?_⟩,by dsimp only;omega⟩;dsimp only;rw[e2,hnext,hgr,←hy,hq,hw];rfl
     ·simp only[Fw,bu]at hq;exact hskip (by rw[hgr,←hy,hq])
   ·simp only[dK]at hq;dsimp only;rw[g3];have:i.toNat=b.Ae.length:=by omega
    rw[this]
 ·refine Ok.andThen (A:=λs=>s.2=H0 b p b.Ag.length ((groups b p).getD n 0).toNat) (B:=λ(_:Unit)=>False) ?_ (λt ht=>Ok.pure ?_) (λ_ h=>h.elim)
  ·refine cU (λs=>(0<=s.1/\s.1<=(b.Ag.length:Int))/\s.2=H0 b p s.1.toNat ((groups b p).getD n 0).toNat) (λs=>((b.Ag.length:Int)-s.1).toNat) _ _ ?_ ?_ ?_
   ·exact⟨by dsimp only;omega,rfl⟩
   ·dsimp only;omega
   ·rintro⟨i,s⟩ ⟨⟨g1,g2⟩,g3⟩;dsimp only at g1 g2 g3;unfold Am1 Aui;dsimp only;have hsl:s.length<=i.toNat:=by rw[g3];exact Ff _ _
    refine c6 (λhq=>?_) (λhq=>cY ?_)
    ·simp only[dJ]at hq;have e1:w64 (i+1)=i+1:=Az (by omega);have e2:(i+1).toNat=i.toNat+1:=by omega
     have e3:((i.toNat:Nat):Int)=i:=by omega
     rw[e1,Axp h hp g1 hq];simp only[aa,Asd];have hnext:H0 b p (i.toNat+1) ((groups b p).getD n 0).toNat=s++if(He b p (Ft b p 3 i)==some (((groups b p).getD n 0).toNat:Int))=true then [i] else []:=by
      unfold H0 at g3 ⊢;rw[G5,←g3,e3]
     have hskip:(He b p (Ft b p 3 i)==some (((groups b p).getD n 0).toNat:Int))=false->Ok (some (.next (i+1,s)):Option (Ctl (Int×List Int) Unit)) (Gg (λs'=>((0<=s'.1/\s'.1<=(b.Ag.length:Int))/\s'.2=H0 b p s'.1.toNat ((groups b p).getD n 0).toNat)/\((b.Ag.length:Int)-s'.1).toNat<((b.Ag.length:Int)-i).toNat) (λs=>s.2=H0 b p b.Ag.length ((groups b p).getD n 0).toNat) (λ_=>False)):=by
      intro hf;refine c7 ⟨⟨by dsimp only;omega,?_⟩,by dsimp only;omega⟩;dsimp only;rw[e2,hnext,hf];simp
     cases hco:Ft b p 3 i with
     |none=>
      refine Ok.bind (P:=λ_=>True) (c9 (λhg=>absurd hg.1 (by simp[Fw])) λ_=>trivial) λy _=>?_;refine c6 (λhq=>by simp[Fw]at hq) (λ_=>hskip (by rw[hco];rfl))
     | some a=>
      have ha:=Sl h hco;refine Ok.bind (P:=λy=>y=(Ko b p n).any (· == a)) (c9 (λ_=>Ok.pure rfl) λhn=>(hn ⟨rfl,trivial⟩).elim) λy hy=>?_;rw[Aer ha.1 ha.2]at hy;have hgr:(He b p (Ft b p 3 i)==some (((groups b p).getD n 0).toNat:Int))=((groups b p).getD a.toNat 0==(groups b p).getD n 0):=by
       rw[hco,hg.2.2];rfl
      refine c6 (λhq=>?_) (λhq=>?_)
      ·simp only[Fw,bu]at hq;refine(cV (by simp;omega)).bind λw hw=>c7 ⟨⟨by dsimp only;omega,?_⟩,by dsimp only;omega⟩;dsimp only;rw[e2,hnext,hgr,←hy,hq,hw];rfl
      ·simp only[Fw,bu]at hq;exact hskip (by rw[hgr,←hy,hq])
    ·simp only[dK]at hq;dsimp only;rw[g3];have:i.toNat=b.Ag.length:=by omega
     rw[this]
  ·rw[hs,ht];unfold isl Fg Ko;rw[hg.2.2]
def Iu(b:Aa)(p:Ad)(f:Nat):Bool:=(groups b p).getD f 0==(f:Int)
theorem Ln(h:A1 b)(p:Ad)(hn:n<b.Am.toNat):Iu b p ((groups b p).getD n 0).toNat=true:=by
 have hg:=Kc h p hn;unfold Iu;rw[dL,hg.2.2];have hm:((groups b p).getD n 0).toNat<b.Am.toNat:=by omega
 have hL:=yB h p;have hself:Hy (D1 b p) ((groups b p).getD n 0).toNat n:=by
  have hlab:∀(xs:List Nat)(s:List Int),s.length=b.Am.toNat->Lab (D1 b p) s->Lab (D1 b p) (xs.foldl (λs _=>El (b.Ah.zip p.Ai) s) s):=by
   intro xs;induction xs with
   |nil=>intro s _ h;exact h
   |cons x xs ih=>
    intro s hl h2;refine ih _ (by rw[Gy];exact hl) (Su _ s hl (λz hz=>⟨hz,λhk=>?_⟩) h2);have:=h.br z.1 (bW hz).1;unfold T7 at this;omega
  refine hlab (List.range b.Am.toNat) (Dl b.Am.toNat) (by simp[Dl]) ?_ n ?_
  ·intro k hk;rw[Mc (by simpa[Dl]using hk)];exact .refl _ k
  ·have:=Jp b p;unfold groups at this;rw[this];exact hn
 exact(jQ h p hm hn).2 hself
theorem Axk(h:A1 b)(p:Ad)(hf:f<b.Am.toNat):J3 (isl b p f)=Iu b p f:=by
 rw[bk];unfold J3 isl Fg;simp only[aV,dM,ne_eq,aw];constructor
 ·intro e;have hne:(List.range b.Am.toNat).filter (λi=>(groups b p).getD i 0==(f:Int))≠[]:=λe2=>e (by rw[e2];rfl);obtain⟨i,hi⟩:=List.exists_mem_of_ne_nil _ hne;obtain⟨h1,h2⟩:=az.1 hi;rw[dL]at h2;have:=Ln h p (be.1 h1);grind
 ·intro e e2;have hm:f∈(List.range b.Am.toNat).filter (λi=>(groups b p).getD i 0==(f:Int)):=az.2 ⟨be.2 hf,e⟩;grind
def Lx(b:Aa)(p:Ad)(n:Nat):List Nat:=(List.range n).filter (Iu b p)
theorem Jo(h:A1 b)(p:Ad):Cf b p=(Lx b p b.Am.toNat).map (isl b p):=by
 unfold Cf Lx;rw[List.filter_map];congr 1;exact List.filter_congr λf hf=>Axk h p (be.1 hf)
theorem Arm(h:A1 b)(p:Ad)(hn:n<b.Am.toNat):∃m:Nat,(Ko b p n)[0]? = some (m:Int)/\(m=n↔Iu b p n=true):=by
 have hg:=Kc h p hn;have hm:((groups b p).getD n 0).toNat<b.Am.toNat:=by omega
 have hgg:=Ln h p hn;unfold Iu at hgg;rw[dL,hg.2.2]at hgg;have hfind:(List.range b.Am.toNat).find? (λi=>(groups b p).getD i 0==(groups b p).getD n 0)=some ((groups b p).getD n 0).toNat:=by
  rw[List.find?_range_eq_some];refine⟨by rw[dL];exact hgg,be.2 hm,λj hj=>?_⟩;simp only[aV,dM,ne_eq];intro e;have:=Kc h p (n:=j) (by omega);omega
 refine⟨((groups b p).getD n 0).toNat,?_,?_⟩
 ·unfold Ko;rw[au,←List.head?_eq_getElem?,List.head?_filter,hfind];rfl
 ·unfold Iu;rw[dL];omega
theorem Afk(h:A1 b)(hp:Ax b p):Aa4 b p=some (Cf b p):=by
 have hbu:=h.buses;rw[Jo h];refine cZ ?_;unfold Aa4;rw[N7 h hp];simp only[aa];refine c6 (λhc=>by simp at hc) (λ_=>?_);refine Ok.andThen (A:=λs=>s.2=(Lx b p b.Am.toNat).map (isl b p)) (B:=λ(_:Unit)=>False) ?_ (λs hs=>Ok.pure hs) (λ_ h=>h.elim);refine cU (λs=>(0<=s.1/\s.1<=b.Am)/\s.2=(Lx b p s.1.toNat).map (isl b p)) (λs=>(b.Am-s.1).toNat) _ _ ?_ ?_ ?_
 ·exact⟨by dsimp only;omega,rfl⟩
 ·dsimp only;omega
 ·rintro⟨i,s⟩ ⟨⟨g1,g2⟩,g3⟩;dsimp only at g1 g2 g3;unfold Amb;dsimp only;refine c6 (λhq=>?_) (λhq=>cY ?_)
  ·simp only[dJ]at hq;obtain⟨n,rfl⟩:∃n:Nat,i=(n:Int):=⟨i.toNat,by omega⟩;have hn:n<b.Am.toNat:=by omega
   have e1:w64 ((n:Int)+1)=(n:Int)+1:=Az (by omega);have e2:((n:Int)+1).toNat=n+1:=by omega
   have hg:=Kc h p hn;obtain⟨m,hm,hmn⟩:=Arm h p hn;have hbuses:(isl b p ((groups b p).getD n 0).toNat).Am=Ko b p n:=by
    unfold isl Fg Ko;rw[hg.2.2]
   rw[aB]at g3;have hsl:s.length<=n:=by
    rw[g3,aw];exact ay (bg _ _) (by simp)
   have hnext:Lx b p (n+1)=Lx b p n++if Iu b p n=true then [n] else []:=by
    unfold Lx;rw[bV,bp];congr 1;cases hq:Iu b p n <;> simp[hq]
   rw[e1,A03 h hp hn];simp only[aa,hbuses];have hg0:getI (Ko b p n) 0=some (m:Int):=B4 (j:=0) hm;rw[hg0];simp only[aa];refine c6 (λhq=>?_) (λhq=>c7 ⟨⟨by dsimp only;omega,?_⟩,by dsimp only;omega⟩)
   ·simp only[dL]at hq;have hle:=hmn.1 (by omega);refine(cV (by simp;omega)).bind λw hw=>c7 ⟨⟨by dsimp only;omega,?_⟩,by dsimp only;omega⟩;dsimp only;have hgn:((groups b p).getD n 0).toNat=n:=by
     unfold Iu at hle;rw[dL]at hle;omega
    rw[e2,hnext,if_pos hle,hw,g3,bB,hgn];rfl
   ·simp only[dM,ne_eq]at hq;have hle:¬Iu b p n=true:=λe=>hq (by rw[hmn.2 e]);dsimp only;rw[e2,hnext,if_neg hle,aX,g3]
  ·simp only[dK]at hq;dsimp only;have:i.toNat=b.Am.toNat:=by omega
   rw[g3,this]
theorem Aj4(h:A1 b)(hp:Ax b p):Abp b p=some (⟨p.Ai,Fz b p,p.Ao,p.Al⟩,0):=by
 have hn:=hp.nso;refine cZ ?_;unfold Abp;rw[N7 h hp];simp only[aa];refine c6 (λhc=>by simp at hc) (λ_=>?_);refine Ok.bind (P:=λy=>y=⟨p.Ai,Fz b p,p.Ao,p.Al⟩) ?_ λy hy=>Ok.pure (by rw[hy]);unfold Aqi;rw[A1u h hp,Afk h hp];simp only[aa];refine Ok.andThen (A:=λs=>s=Fz b p) (B:=λ(_:Unit)=>False) ?_ (λs hs=>Ok.pure (by rw[hs])) (λ_ h=>h.elim);refine c8 (I:=λj s=>s=((Cf b p).take j).foldl (Du p) p.Ae) rfl (λj x s hx hs=>?_) λs hs=>?_
 ·have hi:=Qt (ae hx);have hl:s.length=p.Ae.length:=by rw[hs,L3]
  have hnext:((Cf b p).take (j+1)).foldl (Du p) p.Ae=Du p s x:=by rw[Bp hx,bc,←hs];rfl
  rw[hnext];unfold Ams;cases hsrc:x.Ae with
  |nil=>exact c7 (by unfold Du;rw[hsrc])
  | cons m l=>
   have hm:=hi m (by rw[hsrc];exact aj);obtain⟨u,hu⟩:∃u,p.Ae[m.toNat]? = some u:=⟨_,ai (by omega)⟩;have hgu:getI p.Ae m=some u:=by have:=B4 hu;rwa [bE hm.1]at this
   have hd:p.Ae.getD m.toNat default=u:=by simp[List.getD,hu]
   have hf:Du p s x=F0 u (m::l) s:=by unfold Du;rw[hsrc];simp only[hd]
   rw[hf];have hin:∀k,k∈m::l->0<=k/\k<p.Ae.length:=λk hk=>by
    grind
   refine(c8 (I:=λk r=>r=F0 u ((m::l).take k) s) (A:=λr=>r=F0 u (m::l) s) (B:=λ(_:Unit)=>False) rfl (λk n r hk hr=>?_) λr hr=>by rw[hr,aE]).inner (λr hr=>c7 hr) (λ_ h=>h.elim);have hnk:=hin n (ae hk);have hrl:r.length=p.Ae.length:=by rw[hr,H5,hl]
   unfold Amr;rw[hsrc,show getI (m::l) 0=some m from rfl];simp only[aa,hgu];refine(cW hnk.1 (by omega)).bind λv hv=>(d7 hnk.1 (by omega)).bind λr1 e1=>?_;have hvg:r1[n.toNat]? = some (⟨v.State,v.Since,u.Ar,v.Phase⟩:Aj):=by rw[e1,bN (by omega)]
   refine Ok.bind (P:=λw=>w=(⟨v.State,v.Since,u.Ar,v.Phase⟩:Aj)) ((cW hnk.1 (by rw[e1];simp;omega)).mono λw hw=>by rw[hvg]at hw;cases hw;rfl) λw hw=>?_;refine(d7 hnk.1 (by rw[e1];simp;omega)).bind λr2 e2=>c7 ?_;have hdv:r.getD n.toNat default=v:=by simp[List.getD,hv]
   rw[Ab5 hk,←hr,hdv,e2,e1,hw,List.set_set];rfl
 ·rw[aE]at hs;exact hs
theorem Av5(h:n<ss.length):ss.set n (ss.getD n default)=ss:=by
 apply bL;intro i;rw[aD];split
 ·rename_i e;subst e;simp[List.getD,List.getElem?_eq_getElem h]
 ·rfl
theorem Ab6{like:Aj}:∀(idx:List Int)(ss:List Aj),(∀i,i∈idx->i.toNat<ss.length/\Yt like (ss.getD i.toNat default)=ss.getD i.toNat default)->F0 like idx ss=ss
 | [],_,_=>rfl
 |i::idx,ss,h=>by
  obtain⟨h1,h2⟩:=h i aj;show F0 like idx (ss.set i.toNat (Yt like (ss.getD i.toNat default)))=ss;rw[h2,Av5 h1];exact Ab6 idx ss λj hj=>h j (ak _ hj)
theorem Y6{y:Aj}:(ss.set m y).getD n default=if m=n/\m<ss.length then y else ss.getD n default:=by
 unfold List.getD;rw[aD];by_cases e:m=n
 ·subst e;by_cases hl:m<ss.length
  ·simp[hl]
  ·simp[hl]
 ·simp[e]
theorem Z5(like:Aj):∀(idx:List Int)(ss:List Aj)(n:Nat),((F0 like idx ss).getD n default).State=(ss.getD n default).State
 | [],_,_=>rfl
 |i::idx,ss,n=>by
  show ((F0 like idx _).getD n default).State=_;rw[Z5 like idx,Y6];split
  ·rename_i e;rw[←e.1];rfl
  ·rfl
theorem Yu{like:Aj}:∀(idx:List Int)(ss:List Aj){n:Nat},(∀i,i∈idx->i.toNat≠n)->(F0 like idx ss).getD n default=ss.getD n default
 | [],_,_,_=>rfl
 |i::idx,ss,n,h=>by
  show (F0 like idx _).getD n default=_;rw[Yu idx _ (λj hj=>h j (ak _ hj)),Y6,if_neg (λe=>h i aj e.1)]
theorem Akt{like:Aj}:∀(idx:List Int)(ss:List Aj){n:Nat},n<ss.length->(∃i,i∈idx/\i.toNat=n)->((F0 like idx ss).getD n default).Ar=like.Ar/\((F0 like idx ss).getD n default).Phase=like.Phase
 | [],_,_,_,h=>by obtain⟨_,h,_⟩:=h;cases h
 | i::idx,ss,n,hn,h=>by
  by_cases hr:∃j,j∈idx/\j.toNat=n
  ·exact Akt idx _ (by simpa using hn) hr
  ·have hi:i.toNat=n:=by
    obtain⟨j,hj,e⟩:=h;rcases ag.1 hj with rfl|hj
    ·exact e
    ·exact absurd ⟨j,hj,e⟩ hr
   have:(F0 like (i::idx) ss).getD n default=Yt like (ss.getD i.toNat default):=by
    show (F0 like idx _).getD n default=_;rw[Yu idx _ (λj hj e=>hr ⟨j,hj,e⟩),Y6,if_pos ⟨hi,by omega⟩]
   rw[this];exact⟨rfl,rfl⟩
def Ajp(b:Aa)(p:Ad):Prop:=∀x,x∈Cf b p->∀i j,i∈x.Ae->j∈x.Ae ->
 (p.Ae.getD i.toNat default).Ar=(p.Ae.getD j.toNat default).Ar/\(p.Ae.getD i.toNat default).Phase=(p.Ae.getD j.toNat default).Phase
theorem Afs(hn:p.Ae.length=b.Ae.length)(h:Ajp b p):Fz b p=p.Ae:=by
 have key:∀l:List Aq,(∀x,x∈l->x∈Cf b p)->l.foldl (Du p) p.Ae=p.Ae:=by
  intro l;induction l with
  |nil=>intro _;rfl
  | cons x l ih=>
   intro hl;have hx:=hl x aj;have hst:Du p p.Ae x=p.Ae:=by
    unfold Du;split
    ·rfl
    ·rename_i i r e;refine Ab6 _ _ λj hj=>?_;have hj2:=Qt hx j hj;have ha:=h x hx i j (by rw[e];exact aj) hj;refine⟨by omega,?_⟩;unfold Yt;rw[ha.1,ha.2]
   rw[bz,hst];exact ih λy hy=>hl y (ak _ hy)
 exact key _ λ_ hx=>hx
theorem Aj3(p:Ad)(s:List Aj)(x:Aq)(n:Nat):((Du p s x).getD n default).State=(s.getD n default).State:=by
 unfold Du;split
 ·rfl
 ·exact Z5 _ _ _ _
theorem Ad0(b:Aa)(p:Ad)(n:Nat):((Fz b p).getD n default).State=(p.Ae.getD n default).State:=by
 have key:∀(l:List Aq)(s:List Aj),((l.foldl (Du p) s).getD n default).State=(s.getD n default).State:=by
  intro l;induction l with
  |nil=>intro s;rfl
  |cons x l ih=>intro s;rw[bz,ih,Aj3]
 exact key _ _
theorem Adz{q:Ad}(hc:q.Ai=p.Ai)(hl:q.Ae.length=p.Ae.length)(hs:∀n:Nat,(q.Ae.getD n default).State=(p.Ae.getD n default).State):Cf b q=Cf b p:=by
 have hled:∀k i,Ft b q k i=Ft b p k i:=λk i=>by unfold Ft;rw[hc]
 have hgr:groups b q=groups b p:=by unfold groups;rw[hc]
 have hcon:∀i,Hi b q i=Hi b p i:=λi=>by unfold Hi;rw[hled,hl,hs]
 have hgo:∀o,He b q o=He b p o:=λo=>by unfold He;rw[hgr]
 have hisl:isl b q=isl b p:=by
  funext f;unfold isl Fg G2 H0;simp only[hgr,hled,hcon,hgo]
 unfold Cf;rw[hisl]
theorem yE:i∈(isl b p f).Ae↔∃k:Nat,i=(k:Int)/\k<b.Ae.length/\He b p (Hi b p (k:Int))=some (f:Int):=by
 constructor
 ·intro h;obtain⟨k,hk,e⟩:=ao.1 h;obtain⟨h1,h2⟩:=az.1 hk;exact⟨k,e.symm,be.1 h1,by rwa [dL]at h2⟩
 ·rintro⟨k,e,h1,h2⟩;exact ao.2 ⟨k,az.2 ⟨be.2 h1,by rw[dL];exact h2⟩,e.symm⟩
theorem Av3{g:Nat}(hfg:f≠g){j:Int}(hi:i∈(isl b p f).Ae)(hj:j∈(isl b p g).Ae):i.toNat≠j.toNat:=by
 obtain⟨k,rfl,_,e1⟩:=yE.1 hi;obtain⟨m,rfl,_,e2⟩:=yE.1 hj;rw[aB,aB];intro e;subst e;rw[e1]at e2;have:=aR e2;exact hfg (by omega)
def Ad8(b:Aa)(p:Ad)(f:Nat):Aj:=p.Ae.getD ((isl b p f).Ae.headD 0).toNat default
theorem Afv{b:Aa}{p:Ad}{n:Nat}:∀(fs:List Nat)(s:List Aj),(∀f,f∈fs->∀i,i∈(isl b p f).Ae->i.toNat≠n)->((fs.map (isl b p)).foldl (Du p) s).getD n default=s.getD n default
 | [],_,_=>rfl
 |f::fs,s,h=>by
  rw[bw,bz,Afv fs _ (λg hg=>h g (ak _ hg))];have hf:=h f aj;unfold Du;split
  ·rfl
  ·exact Yu _ _ hf
theorem zF{b:Aa}{p:Ad}(hn:p.Ae.length=b.Ae.length):∀(fs:List Nat)(s:List Aj),s.length=p.Ae.length->fs.Nodup->∀f,f∈fs->∀i,i∈(isl b p f).Ae ->
  (((fs.map (isl b p)).foldl (Du p) s).getD i.toNat default).Ar=(Ad8 b p f).Ar/\(((fs.map (isl b p)).foldl (Du p) s).getD i.toNat default).Phase=(Ad8 b p f).Phase
 | [],_,_,_,_,h,_,_=>by cases h
 | g::fs,s,hs,hnd,f,hf,i,hi=>by
  obtain⟨h1,h2⟩:=List.nodup_cons.1 hnd;rw[bw,bz];by_cases e:f=g
  ·subst e;rw[Afv fs _ (λk hk j hj=>Av3 (λe=>h1 (by rw[←e];exact hk)) hj hi)];obtain⟨k,rfl,hk,_⟩:=yE.1 hi;unfold Du;split
   ·rename_i e;rw[e]at hi;cases hi
   ·rename_i m r e;have:Ad8 b p f=p.Ae.getD m.toNat default:=by unfold Ad8;rw[e];rfl
    rw[this];exact Akt _ _ (by rw[aB];omega) ⟨_,hi,rfl⟩
  ·rcases ag.1 hf with h|hf
   ·exact absurd h e
   ·exact zF hn fs _ (by rw[Og];exact hs) h2 f hf i hi
theorem zD(h:A1 b)(hn:p.Ae.length=b.Ae.length):Ajp b ⟨p.Ai,Fz b p,p.Ao,p.Al⟩:=by
 have hisl:Cf b ⟨p.Ai,Fz b p,p.Ao,p.Al⟩=Cf b p:=Adz rfl (I_ b p) (Ad0 b p);intro x hx i j hi hj;rw[hisl,Jo h]at hx;obtain⟨f,hf,rfl⟩:=ao.1 hx;have hnd:(Lx b p b.Am.toNat).Nodup:=(List.nodup_range).sublist List.filter_sublist;have hfl:Fz b p=((Lx b p b.Am.toNat).map (isl b p)).foldl (Du p) p.Ae:=by
  rw[←Jo h];rfl
 have e1:=zF hn _ p.Ae rfl hnd f hf i hi;have e2:=zF hn _ p.Ae rfl hnd f hf j hj;dsimp only;rw[hfl];exact⟨e1.1.trans e2.1.symm,e1.2.trans e2.2.symm⟩
def Sk(b:Aa)(p:Ad)(n:Nat):Bool:=decide (((isl b p ((groups b p).getD n 0).toNat).Ae.length:Int)>0)
theorem Aup(hn:n<b.Am.toNat):(isl b p f).Am.any ((n:Int) == ·)=((groups b p).getD n 0==(f:Int)):=by
 rw[bk,cu];constructor
 ·rintro⟨x,hx,e⟩;rw[dL]at e;subst e;obtain⟨i,hi,e⟩:=ao.1 hx;have:i=n:=by omega
  subst this;exact(az.1 hi).2
 ·intro e;exact⟨n,ao.2 ⟨n,az.2 ⟨be.2 hn,e⟩,rfl⟩,by simp⟩
theorem of_eq(h:A1 b)(hp:Ax b p)(hn:n<b.Am.toNat):J7 b p (n:Int)=some (isl b p ((groups b p).getD n 0).toNat,true):=by
 have hg:=Kc h p hn;have hbu:=h.buses;unfold J7;rw[Kz h hp,Jo h];simp only[aa];have key:∀(fs:List Nat)(k:Nat),foldI (Ro (n:Int)) (fs.map (isl b p)) k ()=if((groups b p).getD n 0).toNat∈fs then some (.ret (isl b p ((groups b p).getD n 0).toNat,true)) else some (.next ()):=by
  intro fs;induction fs with
  |nil=>intro k;rfl
  | cons f fs ih=>
   intro k;have hbl:(isl b p f).Am.length<=9223372036854775807:=by
    have:=Ff (λi=>(groups b p).getD i 0==(f:Int)) b.Am.toNat;simp only[isl,Fg];omega
   simp only[bw,foldI,Ro,Gm _ _ hbl,aa,Aup hn];by_cases e:(groups b p).getD n 0=(f:Int)
   ·have e2:((groups b p).getD n 0).toNat=f:=by omega
    rw[dL.2 e,e2,if_pos aj];rfl
   ·have e2:((groups b p).getD n 0).toNat≠f:=by omega
    rw[dM.2 e];simp only[cond_false];rw[ih];by_cases hm:((groups b p).getD n 0).toNat∈fs
    ·rw[if_pos hm,if_pos (ak _ hm)]
    ·rw[if_neg hm,if_neg (λhh=>(ag.1 hh).elim e2 hm)]
 have hm:((groups b p).getD n 0).toNat∈Lx b p b.Am.toNat:=az.2 ⟨be.2 (by omega),Ln h p hn⟩;rw[key,if_pos hm];rfl
theorem Ak8(h:A1 b)(hp:Ax b p)(hn:n<b.Am.toNat):Ajc b p (n:Int)=some (Sk b p n):=by
 unfold Ajc;rw[of_eq h hp hn];simp[Sk]
variable{s:Af}
theorem Akl(h:A1 b)(hs:A5 s):Ok (Aed s b) λy=>(Ax b y.1/\Ajp b y.1/\y.1.Al.length<=4)/\A5 y.2:=by
 unfold Aed;refine(Ayw h hs).bind λy hy=>?_;rw[Aj4 h hy.1.1];exact Ok.pure ⟨⟨Kl hy.1.1 (I_ b _) (Sx hy.1.1),zD h hy.1.1.nso,hy.1.2⟩,hy.2⟩
theorem Ahx(h:A1 b)(hs:A5 s):Ok (uL s b) λy=>((∀t,Rf b t y.1)/\(5<=y.1.Time/\y.1.Time<=20)/\y.1.Bm=[]/\y.1.Power.Al.length<=4)/\A5 y.2:=by
 have hbu:=h.buses;unfold uL;refine(Fi hs 5 20 (by omega) (by omega) (by omega)).bind λy hy=>(Akl h hy.1).bind λz hz=>?_;refine Ok.andThen (A:=λs=>A5 ⟨s.2.1,s.2.2.1⟩/\s.2.2.2.length=b.Am.toNat/\∀x,x∈s.2.2.2->(-1<=x.High/\x.High<=4) /\ -1<=x.Low/\x.Low<=4) (B:=λ(_:Unit)=>False) ?_ (λs hs=>?_) (λ_ h=>h.elim)
 ·refine cU (λs=>(0<=s.1/\s.1<=b.Am)/\A5 ⟨s.2.1,s.2.2.1⟩/\(s.2.2.2.length:Int)=s.1/\∀x,x∈s.2.2.2->(-1<=x.High/\x.High<=4) /\ -1<=x.Low/\x.Low<=4) (λs=>(b.Am-s.1).toNat) _ _ ?_ ?_ ?_
  ·exact⟨by dsimp only;omega,hz.2,by simp,λx hx=>by cases hx⟩
  ·dsimp only;omega
  ·rintro⟨i,L,a,l⟩ ⟨⟨g1,g2⟩,g3,g4,g5⟩;dsimp only at g1 g2 g3 g4 g5;unfold Ah8;dsimp only;refine c6 (λhq=>?_) (λhq=>cY ?_)
   ·simp only[dJ]at hq;have e1:w64 (i+1)=i+1:=Az (by omega);rw[e1];refine(Fi g3 (-1) 4 (by omega) (by omega) (by omega)).bind λu hu=>(Fi hu.1 (-1) 4 (by omega) (by omega) (by omega)).bind λv hv=>(cV (by simp;omega)).bind λw hw=>c7 ?_;refine⟨⟨by dsimp only;omega,hv.1,by rw[hw];simp;omega,λx hx=>?_⟩,by dsimp only;omega⟩;rw[hw]at hx;rcases am.1 hx with hx|hx
    ·exact g5 x hx
    ·simp only[aK]at hx;subst hx;exact⟨hu.2,hv.2⟩
   ·simp only[dK]at hq;exact⟨g3,by dsimp only;omega,g5⟩
 ·refine Ok.pure ⟨⟨λt=>?_,hy.2,rfl,hz.1.2.2⟩,hs.1⟩;exact {
   st:=hz.1.1
   fol:=Afs hz.1.1.nso hz.1.2.1
   time:=by have:=hy.2;dsimp only;omega
   nro:=hs.2.1
   ros:=λx hx=>by
    have:=hs.2.2 x hx;have:=hy.2;unfold Aea;dsimp only;omega}
def Tj(b:Aa)(p:Ad)(i:Nat):Bool:=match Ft b p 3 (i:Int) with
 |none=>false
 |some a=>(Sk b p a.toNat && !brk p.Al 4 (i:Int)) && !decide (p.Ao.getD i 0<(b.Ag.getD i default).Least)
def svB(b:Aa)(p:Ad):Nat->Nat->Bool
 |0,_=>false
 |k+1,i=>Tj b p i&&(b.Ag.getD i default).Needs.all λn=>svB b p k n.toNat
theorem Ary(f:Int->Bool)(l:List Int)(k:Nat)(g:Nat->Int->Unit->Option (Ctl Unit ρ))(r:Nat->ρ)(hg:∀i x,x∈l->g i x ()=bif !f x then some (.ret (r i)) else some (.next ())):(l.all f=true/\foldI g l k ()=some (.next ()))\/(l.all f=false/\∃j,k<=j/\j<k+l.length/\foldI g l k ()=some (.ret (r j))):=by
 induction l generalizing k with
 |nil=>exact .inl ⟨rfl,rfl⟩
 | cons x l ih=>
  simp only[foldI,hg k x aj,bH];cases f x with
  |true=>
   simp only[aH,cond_false,bu];rcases ih (k+1) (λi y hy=>hg i y (ak _ hy)) with h|⟨h,j,h1,h2,h3⟩
   ·exact .inl h
   ·exact .inr ⟨h,j,by omega,by simp only[aU];omega,h3⟩
  |false=>exact .inr ⟨rfl,k,by omega,by simp only[aU];omega,rfl⟩
variable{i:Nat}
theorem Gn(h:i<b.Ag.length):b.Ag[i]? = some (b.Ag.getD i default):=by
 rw[ai h];simp[List.getD,List.getElem?_eq_getElem h]
theorem Qq(h:i<p.Ao.length):p.Ao[i]? = some (p.Ao.getD i 0):=by
 rw[ai h];simp[List.getD,List.getElem?_eq_getElem h]
variable{l:List Int}
theorem A07{rec:Aa->Ad->Int->Option Bool}{f:Int->Bool}(hl:l.length<=1000)(hr:∀x,x∈l->rec b p x=some (f x)):vK rec l b p=some (!l.all f,b,p):=by
 unfold vK Aiv;have key:=Ary f l 0 (Wu b p rec) (λi=>(cnt 0 i,b,p)) (λi x hx=>by
  unfold Wu Ajb;rw[hr x hx];rfl)
 rcases key with⟨h1,h2⟩|⟨h1,j,_,hj,h2⟩
 ·rw[h2,h1];rfl
 ·have hc:cnt 0 j=(j:Int):=Ck (by omega);rw[h2,h1,hc];show some (decide ((j:Int)>=0),b,p)=_;rw[dN (by omega)];rfl
theorem Av6(h:A1 b)(hp:Ax b p):∀(k i:Nat),i<k->i<b.Ag.length->vR k b p (i:Int)=some (svB b p k i):=by
 intro k;induction k with
 |zero=>intro i hi;omega
 | succ k ih=>
  intro i hi hc;have hnl:=hp.nli;have hbl:p.Al.length<=1000:=by have:=hp.brk.len;omega
  have hcg:=Gn hc;have hlg:=Qq (p:=p) (i:=i) (by omega);have hco:=h.co i _ hcg;refine cZ ?_;show Ok (vS (vR k) b p (i:Int)) _;unfold vS Ajd;rw[E_ h hp,Af4 h hp.ncl,B4 hlg,B4 hcg];simp only[aa,dU,cond_false];cases hl:Ft b p 3 (i:Int) with
  |none=>
   refine Ok.bind (P:=λ_=>True) (c9 (λhg=>absurd hg.1 (by simp[Fw])) λ_=>trivial) λy3 _=>?_;refine Ok.bind (P:=λ_=>True) (c9 (λhg=>absurd hg.1 (by simp[Fw])) λ_=>trivial) λy5 _=>?_;refine Ok.bind (P:=λ_=>True) (c9 (λhg=>absurd hg.1 (by simp[Fw])) λ_=>trivial) λy7 _=>?_;refine Ok.bind (P:=λ_=>True) (c9 (λhg=>absurd hg.1 (by simp[Fw])) λ_=>trivial) λy9 _=>?_;refine c6 (λ_=>Ok.pure ?_) (λhq=>by simp[Q8,Fw]at hq);simp[svB,Tj,hl]
  | some a=>
   have ha:=Sl h hl;obtain⟨m,rfl⟩:∃m:Nat,a=(m:Int):=⟨a.toNat,by omega⟩;have hlive:=Ak8 h hp (n:=m) (by omega);simp only[Fw,hlive,G9 hbl];refine Ok.bind (P:=λy=>y=Sk b p m) (c9 (λ_=>Ok.pure rfl) λhn=>(hn ⟨rfl,trivial⟩).elim) λy3 h3=>?_;subst h3;have hbase:Tj b p i=((Sk b p m && !brk p.Al 4 (i:Int)) && !decide (p.Ao.getD i 0<(b.Ag.getD i default).Least)):=by
    unfold Tj;rw[hl];simp
   cases hlv:Sk b p m with
   |false=>
    refine Ok.bind (P:=λ_=>True) (dg (λ_=>dl rfl) λ_=>trivial) λy5 _=>?_;refine Ok.bind (P:=λ_=>True) (dg (λ_=>dl rfl) λ_=>trivial) λy7 _=>?_;refine Ok.bind (P:=λ_=>True) (dg (λ_=>dl rfl) λ_=>trivial) λy9 _=>?_;refine c6 (λ_=>Ok.pure ?_) (λhq=>by simp[Q8]at hq);simp[svB,hbase,hlv]
   | true=>
    refine Ok.bind (P:=λy=>y=brk p.Al 4 (i:Int)) (c9 (λ_=>Ok.pure rfl) λhn=>(hn ⟨rfl,trivial⟩).elim) λy5 h5=>?_;subst h5;cases hbr:brk p.Al 4 (i:Int) with
    |true=>
     refine Ok.bind (P:=λ_=>True) (dg (λ_=>dl rfl) λ_=>trivial) λy7 _=>?_;refine Ok.bind (P:=λ_=>True) (dg (λ_=>dl rfl) λ_=>trivial) λy9 _=>?_;refine c6 (λ_=>Ok.pure ?_) (λhq=>by simp[Q8]at hq);simp[svB,hbase,hbr]
    | false=>
     refine Ok.bind (P:=λy=>y=p.Ao.getD i 0) (c9 (λ_=>Ok.pure rfl) λhn=>(hn ⟨rfl,trivial⟩).elim) λy7 h7=>?_;refine Ok.bind (P:=λy=>y=b.Ag.getD i default) (c9 (λ_=>Ok.pure rfl) λhn=>(hn ⟨rfl,trivial⟩).elim) λy9 h9=>?_;subst h7;subst h9;refine c6 (λhq=>Ok.pure ?_) (λhq=>?_)
     ·simp only[Q8,aH,aW]at hq;show false=(Tj b p i&&_);rw[hbase,hq];simp
     ·simp only[Q8,aH,aW]at hq;have hb1:Tj b p i=true:=by rw[hbase,hlv,hbr,hq];rfl
      have hsv:svB b p (k+1) i=(b.Ag.getD i default).Needs.all λn=>svB b p k n.toNat:=by
       show (Tj b p i&&_)=_;rw[hb1,bu]
      rw[A07 (f:=λn=>svB b p k n.toNat) (by have:=hco.2.2.2.2.1;omega) (λx hx=>?_)]
      ·rw[hsv];refine Ok.pure ?_;simp
      ·have hx2:=hco.2.2.2.2.2.1 x hx;have hih:=ih x.toNat (by omega) (by omega)
       rwa [bE hx2.1]at hih
theorem Ani(h:A1 b)(hp:Ax b p)(hi:i<b.Ag.length):Azg b p (i:Int)=some (svB b p 1000 i):=by
 have:=h.col;exact Av6 h hp 1000 i (by omega) hi
variable{n:Int}
theorem Ad4{m:Int}(h0:0<=m)(h:m<=n):m*m<=n*n:=Int.mul_le_mul h h h0 (by omega)
theorem A0v{x:Int}(h0:0<=x)(h1:x<=1000000000000000000):Ok (Aqj x) λy=>y.2=0/\0<=y.1/\y.1*y.1<=x/\x<(y.1+1)*(y.1+1):=by
 unfold Aqj;refine c6 (λhc=>?_) (λ_=>?_)
 ·simp only[At9,an,dJ]at hc;omega
 refine Ok.andThen (A:=λs=>0<=s.1/\s.1*s.1<=x/\x<(s.1+1)*(s.1+1)) (B:=λ(_:Unit)=>False) ?_ (λs hs=>Ok.pure ⟨rfl,hs⟩) (λ_ h=>h.elim);refine cU (λs=>(0<=s.1/\s.1<=s.2/\s.2<=1000000000)/\s.1*s.1<=x/\x<(s.2+1)*(s.2+1)) (λs=>(s.2-s.1).toNat) _ _ ?_ ?_ ?_
 ·refine⟨by dsimp only;omega,by dsimp only;omega,by dsimp only;omega⟩
 ·dsimp only;omega
 ·rintro⟨l,u⟩ ⟨⟨g1,g2,g3⟩,g4,g5⟩;dsimp only at g1 g2 g3 g4 g5;unfold Amt At8;dsimp only;refine c6 (λhq=>?_) (λhq=>cY ?_)
  ·simp only[dJ]at hq;obtain⟨m,hm⟩:∃m,m=(l+u+1) / 2:=⟨_,rfl⟩;have e1:w64 (Int.tdiv (w64 (w64 (l+u)+1)) 2)=m:=by
    rw[Az (n:=l+u) (by omega),Az (n:=l+u+1) (by omega),cz (by omega),←hm,Az (by omega)]
   have hmm:m*m<=1000000000*1000000000:=Ad4 (by omega) (by omega);have hm0:0<=m*m:=cj (by omega) (by omega);rw[e1,Az (n:=m*m) (by omega)];refine c6 (λhc=>?_) (λhc=>?_)
   ·simp only[dJ]at hc;exact c7 ⟨⟨by dsimp only;omega,hc,g5⟩,by dsimp only;omega⟩
   ·simp only[dK]at hc;rw[Az (n:=m-1) (by omega)];refine c7 ⟨⟨by dsimp only;omega,g4,?_⟩,by dsimp only;omega⟩;dsimp only;have:m-1+1=m:=by omega
    rw[this];omega
  ·simp only[dK]at hq;have:l=u:=by omega
   subst this;exact⟨g1,g4,g5⟩
theorem Axm(h0:0<=n)(h1:n<=1000000000000000000):(bif decide ((Int.tmod (-n) 1000)<0)then some (w64 ((w64 (Int.tdiv (-n) 1000))-1)) else some (w64 (Int.tdiv (-n) 1000)):Option Int)=some (-((n+999) / 1000)):=by
 have e1:Int.tmod (-n) 1000 = -(n % 1000):=by rw[Int.neg_tmod,Int.tmod_eq_emod_of_nonneg h0]
 have e2:Int.tdiv (-n) 1000 = -(n / 1000):=by rw[Int.neg_tdiv,cz h0]
 rw[e1,e2,Az (n:=-(n / 1000)) (by omega)];by_cases h:-(n % 1000)<0
 ·rw[dN h,cond_true,Az (by omega)];congr 1;omega
 ·rw[dQ h,cond_false];congr 1;omega
theorem A7u(h0:0<=n)(h1:n<=1000000000000000000):Ap4 n 1000=some ((n+999) / 1000,0):=by
 unfold Ap4 Aio Ay6 M9;have e:Zg n 1000=false:=by
  rw[cD];intro e;simp[Zg]at e;omega
 have e0:w64 (0-n) = -n:=by rw[Az (by omega)];omega
 have en:nzI (1000:Int)=some ():=rfl;rw[e,e0,en];simp only[cond_false,aa];rw[Axm h0 h1];simp only[aa];rw[Az (by omega)];congr 2;omega
def X8(x:Bu):Prop:=∃f,f∈([0,450,800,1350,1800,2600,3500]:List Int)/\∃v,v∈([0,100,300,900,1799]:List Int)/\x=⟨f,(f+v) % 3600⟩
theorem A7r(hs:A5 s):Ok (Ap9 s) λy=>X8 y.1/\A5 y.2:=by
 unfold Ap9;refine(Cx hs _ (by simp) (by simp)).bind λu hu=>(Cx hu.1 _ (by simp) (by simp)).bind λv hv=>Ok.pure ⟨⟨u.1,hu.2,v.1,hv.2,?_⟩,hv.1⟩;have h1:u.1=0\/u.1=450\/u.1=800\/u.1=1350\/u.1=1800\/u.1=2600\/u.1=3500:=by simpa using hu.2
 have h2:v.1=0\/v.1=100\/v.1=300\/v.1=900\/v.1=1799:=by simpa using hv.2
 rcases h1 with e|e|e|e|e|e|e <;> rcases h2 with e2|e2|e2|e2|e2 <;> rw[e,e2] <;> rfl
theorem Ac3{x:Bu}(h:X8 x):P_ x=true:=by
 obtain⟨f,hf,v,hv,rfl⟩:=h;have h1:f=0\/f=450\/f=800\/f=1350\/f=1800\/f=2600\/f=3500:=by simpa using hf
 have h2:v=0\/v=100\/v=300\/v=900\/v=1799:=by simpa using hv
 rcases h1 with e|e|e|e|e|e|e <;> rcases h2 with e2|e2|e2|e2|e2 <;> rw[e,e2] <;> rfl
structure E6(x:An):Prop where
 kind:1<=x.Kind/\x.Kind<=3
 station:0<=x.Station/\x.Station<=1
 max:0<=x.Max/\x.Max<=40
 rate:0<=x.Rate/\x.Rate<=50
 cost:1<=x.Cost/\x.Cost<=100
 arcs:x.B5.length<=4
 arc:∀a,a∈x.B5->X8 a
theorem Akk(hs:A5 s):Ok (Aqr s) λy=>E6 y.1/\A5 y.2:=by
 unfold Aqr;refine(Fi hs 1 3 (by omega) (by omega) (by omega)).bind λk hk=>(C8 hk.1 2 (by omega) (by omega)).bind λst hst=>(Cx hst.1 _ (by simp) (by simp)).bind λm hm=>(Cx hm.1 _ (by simp) (by simp)).bind λr hr=>(Cx hr.1 _ (by simp) (by simp)).bind λc hc=>(C8 hc.1 3 (by omega) (by omega)).bind λn hn=>?_;have h1:m.1=0\/m.1=1\/m.1=7\/m.1=20\/m.1=40:=by simpa using hm.2
 have h2:r.1=0\/r.1=1\/r.1=5\/r.1=50:=by simpa using hr.2
 have h3:c.1=1\/c.1=2\/c.1=3\/c.1=100:=by simpa using hc.2
 refine Ok.andThen (A:=λs=>A5 ⟨s.2.1,s.2.2.1⟩/\s.2.2.2.length<=4/\∀a,a∈s.2.2.2->X8 a) (B:=λ(_:Unit)=>False) ?_ (λs hs=>Ok.pure ⟨⟨hk.2,by dsimp only;omega,by dsimp only;omega,by dsimp only;omega,by dsimp only;omega,hs.2.1,hs.2.2⟩,hs.1⟩) (λ_ h=>h.elim);refine cU (λs=>(0<=s.1/\s.1+(s.2.2.2.length:Int)<=2)/\A5 ⟨s.2.1,s.2.2.1⟩/\∀a,a∈s.2.2.2->X8 a) (λs=>s.1.toNat) _ _ ?_ ?_ ?_
 ·exact⟨⟨by dsimp only;omega,by simp;omega⟩,hn.1,λa ha=>by cases ha⟩
 ·dsimp only;omega
 ·rintro⟨i,L,a,l⟩ ⟨⟨g1,g2⟩,g3,g4⟩;dsimp only at g1 g2 g3 g4;unfold Amz;dsimp only;refine c6 (λhq=>?_) (λ_=>cY ⟨g3,by dsimp only;omega,g4⟩);simp only[dJ]at hq;have e1:w64 (i-1)=i-1:=Az (by omega);rw[e1];refine(A7r g3).bind λu hu=>(cV (by simp;omega)).bind λw hw=>c7 ⟨⟨⟨by dsimp only;omega,by rw[hw];simp;omega⟩,hu.2,λx hx=>?_⟩,by dsimp only;omega⟩;rw[hw]at hx;rcases am.1 hx with hx|hx
  ·exact g4 x hx
  ·simp only[aK]at hx;subst hx;exact hu.1
theorem A14{l:List Bu}(h:∀a,a∈l->X8 a):vG l=some false:=by
 unfold vG Aip;rw[D4 l 0 λj a ha=>?_]
 ·rfl
 ·unfold Add Ap5;rw[Ac3 (h a (ae ha))];rfl
variable{x:An}
theorem Ha(h:E6 x):Qc x=some true:=by
 obtain⟨h1,h2,h3,h4,h5,h6,h7⟩:=h;unfold Qc;have e:((((((Dt x.Kind 1 3)&&(Dt x.Station 0 1))&&(Dt x.Max 0 5000))&&(Dt x.Rate 0 5000))&&(Dt x.Cost 1 100))&&(decide ((x.B5.length:Int)<=4)))=true:=by
  unfold Dt;simp only[ac,dJ];omega
 rw[e,A14 h7];rfl
structure Dw(x:A3):Prop where
 bow:0<=x.Bow/\x.Bow<=60
 stern:1<=x.Stern/\x.Stern<=40
 len:x.Av.length<=8
 thr:∀t,t∈x.Av->E6 t
theorem Ayu(hs:A5 s)(h0:0<=n/\n<=8):Ok (F83 s n) λy=>(Dw y.1/\(y.1.Av.length:Int)<=n)/\A5 y.2:=by
 unfold F83;rw[Az (by omega)];refine(Cx hs _ (by simp) (by simp)).bind λu hu=>(Cx hu.1 _ (by simp) (by simp)).bind λv hv=>(C8 hv.1 (n+1) (by omega) (by omega)).bind λk hn=>?_;have h1:u.1=0\/u.1=1\/u.1=30\/u.1=60:=by simpa using hu.2
 have h2:v.1=1\/v.1=25\/v.1=40:=by simpa using hv.2
 refine Ok.andThen (A:=λs=>A5 ⟨s.2.1,s.2.2.1⟩/\(s.2.2.2.length:Int)<=n/\∀a,a∈s.2.2.2->E6 a) (B:=λ(_:Unit)=>False) ?_ (λs hs=>Ok.pure ⟨⟨⟨by dsimp only;omega,by dsimp only;omega,by have:=hs.2.1;dsimp only;omega,hs.2.2⟩,hs.2.1⟩,hs.1⟩) (λ_ h=>h.elim);refine cU (λs=>(0<=s.1/\s.1+(s.2.2.2.length:Int)<=n)/\A5 ⟨s.2.1,s.2.2.1⟩/\∀a,a∈s.2.2.2->E6 a) (λs=>s.1.toNat) _ _ ?_ ?_ ?_
 ·have:=hn.2;exact⟨⟨by dsimp only;omega,by simp;omega⟩,hn.1,λa ha=>by cases ha⟩
 ·dsimp only;omega
 ·rintro⟨i,L,a,l⟩ ⟨⟨g1,g2⟩,g3,g4⟩;dsimp only at g1 g2 g3 g4;unfold Au4;dsimp only;refine c6 (λhq=>?_) (λ_=>cY ⟨g3,by dsimp only;omega,g4⟩);simp only[dJ]at hq;have e1:w64 (i-1)=i-1:=Az (by omega);rw[e1];refine(Akk g3).bind λu hu=>(cV (by simp;omega)).bind λw hw=>c7 ⟨⟨⟨by dsimp only;omega,by rw[hw];simp;omega⟩,hu.2,λx hx=>?_⟩,by dsimp only;omega⟩;rw[hw]at hx;rcases am.1 hx with hx|hx
  ·exact g4 x hx
  ·simp only[aK]at hx;subst hx;exact hu.1
theorem Ii{x:A3}(h:Dw x):Qf x=some 0:=by
 have h1:=h.bow;have h2:=h.stern;have h3:=h.len;unfold Qf;have e1:decide ((x.Av.length:Int)>8)=false:=dQ (by omega);have e2:Ahk x=false:=by
  rw[cD];intro e;simp only[Ahk,an,ac,dJ,dL]at e;omega
 have e3:vL x.Av=some false:=by
  unfold vL Aix;rw[D4 x.Av 0 λj a ha=>?_]
  ·rfl
  ·unfold Adl Azb;rw[Ha (h.thr a (ae ha))];rfl
 rw[e1,e2,e3];rfl
theorem zL(h:E6 x){l:Int}(h0:0<=l)(h1:l<=5000):0<=l*l*x.Cost/\l*l*x.Cost<=2500000000:=by
 have hc:=h.cost;have h2:l*l<=5000*5000:=Ad4 h0 h1;have h3:0<=l*l:=cj h0 h0;have h4:l*l*x.Cost<=25000000*100:=Int.mul_le_mul (by omega) (by omega) (by omega) (by omega);exact⟨cj h3 (by omega),by omega⟩
theorem A0z(h:E6 x){l:Int}(h0:0<=l)(h1:l<=5000):w64 ((w64 ((w64 (l*l))+(w64 (0*0))))*x.Cost)=l*l*x.Cost:=by
 have hc:=zL h h0 h1;have h2:l*l<=5000*5000:=Ad4 h0 h1;have h3:0<=l*l:=cj h0 h0;have e0:w64 (0*0)=0:=by rw[Az (by omega)];rfl
 rw[Az (n:=l*l) (by omega),e0,Int.add_zero,Az (n:=l*l) (by omega),Az (by omega)]
theorem Awk(h:E6 x){l:Int}(h0:0<=l)(h1:l<=5000):Aqk x ⟨l,0⟩=some ((l*l*x.Cost+999) / 1000,0):=by
 have hc:=zL h h0 h1;unfold Aqk;have e:Ty ⟨l,0⟩=true:=by
  unfold Ty;simp only[ac,dJ];omega
 rw[Ha h,e];simp only[aa,aH,Bool.or_self,cond_false];rw[A0z h h0 h1,A7u hc.1 (by omega)];rfl
theorem A08(h:E6 x)(w:Int):Ok (Aqt x w) λy=>(0<=y/\y<=x.Max)/\(0<=w->(y*y*x.Cost+999) / 1000<=w):=by
 have hm:=h.max;have hc:=h.cost;have hci:=zL h hm.1 (by omega);unfold Aqt;rw[Awk h hm.1 (by omega)];simp only[aa];refine c6 (λhq=>Ok.pure ⟨⟨by omega,hm.1⟩,λhw=>by simp only[Int.mul_zero,Int.zero_mul];omega⟩) (λhq=>?_);simp only[dU,aW,dK]at hq;refine c6 (λha=>?_) (λha=>?_)
 ·simp only[dJ]at ha;exact Ok.pure ⟨⟨hm.1,by omega⟩,λ_=>by omega⟩
 ·simp only[dK]at ha;refine(Ok.nzI (by omega)).bind λ_ _=>?_;have hlt:1000*w<x.Max*x.Max*x.Cost:=by omega
  have hd0:0<=1000*w / x.Cost:=Int.ediv_nonneg (by omega) (by omega);have hd1:1000*w / x.Cost<=1000*w:=Int.ediv_le_self _ (by omega);rw[Az (n:=1000*w) (by omega),cz (by omega),Az (n:=1000*w / x.Cost) (by omega)];refine(A0v hd0 (by omega)).bind λf hf=>Ok.pure ?_;obtain⟨_,f0,f1,_⟩:=hf;have hmul:1000*w / x.Cost*x.Cost<=1000*w:=Int.ediv_mul_le _ (by omega);have hff:f.1*f.1*x.Cost<=1000*w / x.Cost*x.Cost:=cO f1 (by omega);refine⟨⟨f0,?_⟩,λ_=>by omega⟩;rcases Int.lt_or_le x.Max f.1 with hgt|hle
  ·exfalso;have:=Ad4 hm.1 (Int.le_of_lt hgt);have:=cO this (show 0<=x.Cost by omega);omega
  ·exact hle
theorem qD(n:Int):∀(l:List A_)(k:Nat),foldI (Xf n) l k ()=match l.findIdx? λx=>x.Thruster==n with
  |some j=>some (.ret (cnt 0 (k+j),n))
  |none=>some (.next ())
 | [],_=>rfl
 | x::l,k=>by
  simp only[foldI,Xf,Ajm,List.findIdx?_cons];cases hq:(x.Thruster==n) with
  |true=>rfl
  | false=>
   simp only[cond_false,bI,if_false];rw[qD n l (k+1)];cases l.findIdx? λx=>x.Thruster==n with
   |none=>rfl
   |some j=>
    have e:k+1+j=k+(j+1):=by omega
    simp only[aT,e]
theorem Axo(h:A1 b)(n:Int):vT b.Ag n=some (J1 (λx:A_=>x.Thruster==n) b.Ag,n):=by
 have hc:=h.col;unfold vT J1;rw[qD];cases hf:b.Ag.findIdx? λx=>x.Thruster==n with
 |none=>rfl
 |some j=>
  rw[cC]at hf;obtain⟨hj,_⟩:=hf;have e:cnt 0 (0+j)=(j:Int):=by rw[aJ];exact Ck (by omega)
  simp only[e];rfl
theorem Alb{q:α->Bool}{xs:List α}(h:0<=J1 q xs):∃j:Nat,J1 q xs=(j:Int)/\j<xs.length:=by
 unfold J1 at h ⊢;cases hf:xs.findIdx? q with
 |none=>rw[hf]at h;simp at h
 |some j=>
  rw[cC]at hf;exact⟨j,rfl,hf.1⟩
def own(b:Aa)(i:Nat):Int:=J1 (λx:A_=>x.Thruster==(i:Int)) b.Ag
def Rx(b:Aa)(p:Ad)(i:Nat)(t:An)(v:Int):Prop:=
 (0<=v/\v<=t.Max)/\(∀j:Nat,own b i=(j:Int)->(v*v*t.Cost+999) / 1000<=p.Ao.getD j 0)/\(v≠0->∃j:Nat,own b i=(j:Int)/\svB b p 1000 j=true)
theorem Ar3(hp:Ax b p)(hj:j<b.Ag.length):0<=p.Ao.getD j 0:=by
 have h2:=hp.nli;exact(hp.lim j _ _ (Qq (p:=p) (by omega)) (Gn hj)).1
theorem Ays(hp:Ax b p){t:An}(ht:E6 t)(i:Nat):Rx b p i t 0:=by
 refine⟨⟨by omega,ht.max.1⟩,λj hj=>?_,λhh=>absurd rfl hh⟩;obtain⟨k,hk,hlt⟩:=Alb (q:=λx:A_=>x.Thruster==(i:Int)) (xs:=b.Ag) (by unfold own at hj;omega);unfold own at hj;have:k=j:=by omega
 subst this;have:=Ar3 hp hlt;simp only[Int.mul_zero,Int.zero_mul];omega
theorem A18(h:A1 b)(hp:Ax b p){x:A3}(hx:Dw x):Ok (F55 x b p) λy=>y.2=0/\y.1.length=x.Av.length/\∀(i:Nat) t v,x.Av[i]? = some t->y.1[i]? = some v->Rx b p i t v:=by
 have hlen:=hx.len;have hnl:=hp.nli;unfold F55;rw[Ii hx,E_ h hp];simp only[aa];refine c6 (λhc=>by simp at hc) (λ_=>c6 (λhc=>by simp at hc) (λ_=>?_));refine(Ok.mkI (by omega) (by omega)).bind λz hz=>?_;refine Ok.andThen (A:=λs=>s.length=x.Av.length/\∀(i:Nat) t v,x.Av[i]? = some t->s[i]? = some v->Rx b p i t v) (B:=λ_=>False) ?_ (λs hs=>Ok.pure ⟨rfl,hs⟩) (λ_ h=>h.elim);refine c8 (I:=λj s=>s.length=x.Av.length/\(∀(i:Nat) t v,i<j->x.Av[i]? = some t->s[i]? = some v->Rx b p i t v)/\∀(i:Nat) v,j<=i->s[i]? = some v->v=0) ?_ (λj t s ht hs=>?_) λs hs=>?_
 ·rw[hz];refine⟨by simp,λi t v hi=>by omega,λi v _ hv=>?_⟩;have:=ae hv;exact(List.mem_replicate.1 this).2
 ·obtain⟨g1,g2,g3⟩:=hs;have hj:=(ab.1 ht).1;have hthr:=hx.thr t (ae ht);have hcnt:cnt 0 j=(j:Int):=Ck (by omega);unfold Avb;rw[hcnt,Axo h];simp only[aa];have stay:Gg (λs=>s.length=x.Av.length/\(∀(i:Nat) t v,i<j+1->x.Av[i]? = some t->s[i]? = some v->Rx b p i t v)/\∀(i:Nat) v,j+1<=i->s[i]? = some v->v=0) (λs=>s.length=x.Av.length/\∀(i:Nat) t v,x.Av[i]? = some t->s[i]? = some v->Rx b p i t v) (λ(_:Unit)=>False) (.next s):=by
   refine⟨g1,λi t' v hi ht' hv=>?_,λi v hi hv=>g3 i v (by omega) hv⟩;by_cases e:i=j
   ·subst e;rw[ht]at ht';cases ht';have:=g3 i v (by omega) hv;subst this;exact Ays hp hthr i
   ·exact g2 i t' v (by omega) ht' hv
  by_cases hq:0<=own b j
  ·obtain⟨c,hc,hlt⟩:=Alb hq;have hown:own b j=(c:Int):=hc;have hsv:=Ani h hp hlt;rw[hc];rw[hsv];have e1:Au [(decide ((c:Int)>=0),true)] (some (svB b p 1000 c)) default=some (svB b p 1000 c):=by
    rw[dN (by omega)];rfl
   rw[e1];simp only[aa];refine c6 (λhcc=>?_) (λ_=>⟨_,rfl,stay⟩);simp only[ac]at hcc;have hlim:=Qq (p:=p) (i:=c) (by omega);rw[B4 hlim];simp only[aa];refine(A08 hthr _).bind λm hm=>(cW (by omega) (by omega)).bind λ_ _=>(d7 (by omega) (by omega)).bind λs' hs'=>c7 ?_;subst hs';rw[aB];refine⟨by rw[ba];exact g1,λi t' v hi ht' hv=>?_,λi v hi hv=>?_⟩
   ·rw[aD]at hv;by_cases e:j=i
    ·subst e;rw[ht]at ht';cases ht';rw[if_pos rfl,if_pos (by omega)]at hv;cases hv;refine⟨hm.1,λk hk=>?_,λ_=>⟨c,hown,hcc.2⟩⟩;have:k=c:=by omega
     subst this;exact hm.2 (Ar3 hp hlt)
    ·rw[if_neg e]at hv;exact g2 i t' v (by omega) ht' hv
   ·rw[aD,if_neg (by omega)]at hv;exact g3 i v (by omega) hv
  ·have e0:decide (own b j>=0)=false:=dQ (by omega);show Ok ((Au [(decide (own b j>=0),true)] _ _).bind λy11=>bif (decide (own b j>=0)&&y11)then _ else _) _;rw[e0];exact⟨_,rfl,stay⟩
 ·exact⟨hs.1,λi t v ht hv=>hs.2.1 i t v (ab.1 ht).1 ht hv⟩
theorem Vu(hp:Ax b p)(hj:j<b.Ah.length):p.Ai[j]? = some (p.Ai.getD j false):=by
 have:=hp.ncl;rw[ai (by omega)];simp[List.getD,List.getElem?_eq_getElem (show j<p.Ai.length by omega)]
variable{x:Ak}
theorem A6i(hx:b.Ah[j]? = some x):b.Ah.getD j default=x:=by simp[List.getD,hx]
def E5(p:Ad)(x:Ak):Bool:=
 brk p.Al 3 x.A || (if x.Kind=1 then brk p.Al 3 x.B else if x.Kind=2 then brk p.Al 1 x.B || ((p.Ae.getD x.B.toNat default).State != 2) else brk p.Al 4 x.B)
theorem A10(hp:Ax b p)(k n:Int)(acts:List A0):Ox k n ⟨b,p,acts⟩=some (brk p.Al k n,⟨b,p,acts⟩):=by
 have:=hp.brk.len;unfold Ox;rw[G9 (by dsimp only;omega)];rfl
theorem As9(h:A1 b)(hp:Ax b p)(acts:List A0)(hx:x∈b.Ah):uV ⟨b,p,acts⟩ x=some (E5 p x,⟨b,p,acts⟩):=by
 have hbr:=(h.br x hx).2;have hns:=hp.nso;unfold uV E5;simp only[A10 hp,aa];cases brk p.Al 3 x.A with
 |true=>rfl
 | false=>
  simp only[cond_false,aW];rcases hbr with⟨hk,_⟩|⟨hk,h0,h1⟩|⟨hk,_⟩
  ·rw[hk];rfl
  ·rw[hk];have e:p.Ae[x.B.toNat]? = some (p.Ae.getD x.B.toNat default):=by
    rw[ai (by omega)];simp[List.getD,List.getElem?_eq_getElem (show x.B.toNat<p.Ae.length by omega)]
   have e2:getI p.Ae x.B=some (p.Ae.getD x.B.toNat default):=by
    unfold getI;rw[dN h0];exact e
   rw[e2];cases brk p.Al 1 x.B <;> rfl
  ·rw[hk];rfl
def Em(b:Aa)(C:List Bool)(q:Ak->Bool)(n:Nat):List Int:=((List.range n).filter λi=>C.getD i false&&q (b.Ah.getD i default)).map λ(i:Nat)=>(i:Int)
variable{n:Nat}
theorem Nm{i:Int}:i∈Em b C q n↔∃k:Nat,i=(k:Int)/\k<n/\C.getD k false=true/\q (b.Ah.getD k default)=true:=by
 unfold Em;simp only[ao,az,be,ac];constructor
 ·rintro⟨k,⟨h1,h2,h3⟩,rfl⟩;exact⟨k,rfl,h1,h2,h3⟩
 ·rintro⟨k,rfl,h1,h2,h3⟩;exact⟨k,⟨h1,h2,h3⟩,rfl⟩
theorem Hs(b:Aa)(C:List Bool)(q:Ak->Bool)(n:Nat):(Em b C q n).length<=n:=Ff _ n
def Jn(C:List Bool)(l:List Int):List Bool:=l.foldl (λc i=>c.set i.toNat false) C
def Nj(l:List Int):List A0:=l.map λi=>⟨2,i,0⟩
theorem Acf:∀(l:List Int)(C:List Bool),(Jn C l).length=C.length
 | [],_=>rfl
 |i::l,C=>by
  show (Jn (C.set i.toNat false) l).length=_;rw[Acf l];simp
theorem Anv(C:List Bool)(l:List Int)(i:Int):Jn C (l++[i])=(Jn C l).set i.toNat false:=by
 unfold Jn;rw[bc];rfl
theorem Ae7{b:Aa}:∀(l:List Int){p:Ad},Ax b p->Ax b ⟨Jn p.Ai l,p.Ae,p.Ao,p.Al⟩
 | [],_,hp=>hp
 |i::l,p,hp=>Ae7 l (p:=⟨p.Ai.set i.toNat false,p.Ae,p.Ao,p.Al⟩) (Anw hp i.toNat)
theorem Awm(ha:acts.length<=1000000){i:Int}(h0:0<=i)(h1:i<p.Ai.length):Rl ⟨b,p,acts⟩ i=some ⟨b,⟨p.Ai.set i.toNat false,p.Ae,p.Ao,p.Al⟩,acts++[⟨2,i,0⟩]⟩:=by
 refine cZ ?_;unfold Rl;refine(cW h0 h1).bind λ_ _=>(d7 h0 h1).bind λy hy=>(cV (by simp;omega)).bind λz hz=>Ok.pure ?_;rw[hy,hz]
theorem Y0(ha:acts.length+l.length<=1000000)(hl:∀i,i∈l->0<=i/\i<p.Ai.length) :
  Ok (foldI Wo l 0 (b.Am,b.Ah,b.Ae,b.Ag,b.Phase,b.Ar,p.Ai,p.Ae,p.Ao,p.Al,acts)) (D5 (λs=>s=(b.Am,b.Ah,b.Ae,b.Ag,b.Phase,b.Ar,Jn p.Ai l,p.Ae,p.Ao,p.Al,acts++Nj l)) λ(_:Unit)=>False):=by
 refine c8 (I:=λj s=>s=(b.Am,b.Ah,b.Ae,b.Ag,b.Phase,b.Ar,Jn p.Ai (l.take j),p.Ae,p.Ao,p.Al,acts++Nj (l.take j))) (by simp[Jn,Nj]) (λj i s hi hs=>?_) λs hs=>?_
 ·have hj:=(ab.1 hi).1;have hin:=hl i (ae hi);subst hs;unfold Wo;have e:=Awm (b:=b) (p:=⟨Jn p.Ai (l.take j),p.Ae,p.Ao,p.Al⟩) (acts:=acts++Nj (l.take j)) (by simp[Nj];omega) hin.1 (by rw[Acf];exact hin.2);refine Ok.bind (P:=λy=>y=_) (cX e rfl) λy hy=>c7 ?_;subst hy;rw[Bp hi,Anv];simp[Nj]
 ·rw[aE]at hs;exact hs
def acA(b:Aa)(C:List Bool)(q:Ak->Bool):List A0:=Nj (Em b C q b.Ah.length)
def acC(b:Aa)(C:List Bool)(q:Ak->Bool):List Bool:=Jn C (Em b C q b.Ah.length)
theorem Xx(b:Aa)(C:List Bool)(q:Ak->Bool):(acA b C q).length<=b.Ah.length:=by
 unfold acA Nj;rw[aw];exact Hs b C q _
theorem Ahu(hp:Ax b p)(q:Ak->Bool):Ax b ⟨acC b p.Ai q,p.Ae,p.Ao,p.Al⟩:=Ae7 _ hp
theorem Sw(hx:b.Ah[j]? = some x):Em b C q (j+1)=Em b C q j++if(C.getD j false&&q x)=true then [(j:Int)] else []:=by
 unfold Em;rw[G5,A6i hx]
theorem Arb(h:A1 b)(hp:Ax b p)(ha:acts.length<=1000):uY ⟨b,p,acts⟩=some ⟨b,⟨acC b p.Ai (E5 p),p.Ae,p.Ao,p.Al⟩,acts++acA b p.Ai (E5 p)⟩:=by
 have hbl:=h.brl;have hnc:=hp.ncl;refine cZ ?_;unfold uY;refine Ok.andThen (A:=λs=>s=(b.Am,b.Ah,b.Ae,b.Ag,b.Phase,b.Ar,Em b p.Ai (E5 p) b.Ah.length,p.Ai,p.Ae,p.Ao,p.Al,acts)) (B:=λ(_:Unit)=>False) ?_ (λs hs=>?_) (λ_ h=>h.elim)
 ·refine c8 (I:=λj s=>s=(b.Am,b.Ah,b.Ae,b.Ag,b.Phase,b.Ar,Em b p.Ai (E5 p) j,p.Ai,p.Ae,p.Ao,p.Al,acts)) rfl (λj x s hx hs=>?_) λs hs=>hs;have hj:j<b.Ah.length:=(ab.1 hx).1;have hfl:=Hs b p.Ai (E5 p) j;have hfs:=Sw (C:=p.Ai) (q:=E5 p) hx;subst hs;unfold Adi;rw[Ck (by omega),B4 (Vu hp hj)];simp only[aa];have hd:=As9 h hp acts (ae hx);cases hC:p.Ai.getD j false with
  |false=>
   rw[hC]at hfs;refine c7 ?_;rw[hfs];simp
  | true=>
   rw[hC]at hfs;refine Ok.bind (P:=λy=>y=(E5 p x,(⟨b,p,acts⟩:A7))) (cX hd rfl) λy hy=>?_;subst hy;cases hq:E5 p x with
   |false=>
    rw[hq]at hfs;refine c7 ?_;rw[hfs];simp
   |true=>
    rw[hq]at hfs;refine Ok.bind (P:=λy=>y=Em b p.Ai (E5 p) j++[(j:Int)]) (cV (by simp;omega)) λy hy=>c7 ?_;rw[hy,hfs];simp
 ·subst hs;have hfl:=Hs b p.Ai (E5 p) b.Ah.length;refine Ok.andThen (Y0 (b:=b) (p:=p) (acts:=acts) (l:=Em b p.Ai (E5 p) b.Ah.length) (by omega) λi hi=>?_) (λs hs=>?_) (λ_ h=>h.elim)
  ·obtain⟨k,rfl,hk,_⟩:=Nm.1 hi;omega
  ·subst hs;exact Ok.pure rfl
def G8(b:Aa)(p:Ad)(x:Ak):Bool:=x.Kind==3 && !Sk b p x.A.toNat
theorem A1t(h:A1 b)(hp:Ax b p)(acts:List A0)(hx:x∈b.Ah):uU x ⟨b,p,acts⟩=some (G8 b p x,⟨b,p,acts⟩):=by
 have hA:=(h.br x hx).1;have hl:=Ak8 h hp (n:=x.A.toNat) (by omega);rw[bE hA.1]at hl;unfold uU G8;rw[hl];cases x.Kind==3 <;> rfl
theorem Ara(h:A1 b)(hp:Ax b p)(ha:acts.length<=1000):uX ⟨b,p,acts⟩=some ⟨b,⟨acC b p.Ai (G8 b p),p.Ae,p.Ao,p.Al⟩,acts++acA b p.Ai (G8 b p)⟩:=by
 have hbl:=h.brl;have hnc:=hp.ncl;refine cZ ?_;unfold uX;refine Ok.andThen (A:=λs=>s=(b.Am,b.Ah,b.Ae,b.Ag,b.Phase,b.Ar,Em b p.Ai (G8 b p) b.Ah.length,p.Ai,p.Ae,p.Ao,p.Al,acts)) (B:=λ(_:Unit)=>False) ?_ (λs hs=>?_) (λ_ h=>h.elim)
 ·refine c8 (I:=λj s=>s=(b.Am,b.Ah,b.Ae,b.Ag,b.Phase,b.Ar,Em b p.Ai (G8 b p) j,p.Ai,p.Ae,p.Ao,p.Al,acts)) rfl (λj x s hx hs=>?_) λs hs=>hs;have hj:j<b.Ah.length:=(ab.1 hx).1;have hfl:=Hs b p.Ai (G8 b p) j;have hfs:=Sw (C:=p.Ai) (q:=G8 b p) hx;subst hs;unfold Adh;rw[Ck (by omega),B4 (Vu hp hj)];simp only[aa];have hd:=A1t h hp acts (ae hx);cases hC:p.Ai.getD j false with
  |false=>
   rw[hC]at hfs;refine c7 ?_;rw[hfs];simp
  | true=>
   rw[hC]at hfs;refine Ok.bind (P:=λy=>y=(G8 b p x,(⟨b,p,acts⟩:A7))) (cX hd rfl) λy hy=>?_;subst hy;cases hq:G8 b p x with
   |false=>
    rw[hq]at hfs;refine c7 ?_;rw[hfs];simp
   |true=>
    rw[hq]at hfs;refine Ok.bind (P:=λy=>y=Em b p.Ai (G8 b p) j++[(j:Int)]) (cV (by simp;omega)) λy hy=>c7 ?_;rw[hy,hfs];simp
 ·subst hs;have hfl:=Hs b p.Ai (G8 b p) b.Ah.length;refine Ok.andThen (Y0 (b:=b) (p:=p) (acts:=acts) (l:=Em b p.Ai (G8 b p) b.Ah.length) (by omega) λi hi=>?_) (λs hs=>?_) (λ_ h=>h.elim)
  ·obtain⟨k,rfl,hk,_⟩:=Nm.1 hi;omega
  ·subst hs;exact Ok.pure rfl
def Vt(b:Aa)(p:Ad):Ad:=⟨acC b p.Ai (E5 p),p.Ae,p.Ao,p.Al⟩
def Axy(b:Aa)(p:Ad):Ad:=⟨acC b (Vt b p).Ai (G8 b (Vt b p)),p.Ae,p.Ao,p.Al⟩
def Vs(b:Aa)(p:Ad):Ad:=⟨(Axy b p).Ai,Fz b (Axy b p),p.Ao,p.Al⟩
def Zd(b:Aa)(p:Ad):List A0:=acA b p.Ai (E5 p)++acA b (Vt b p).Ai (G8 b (Vt b p))
theorem Alk(hp:Ax b p):Ax b (Vt b p):=Ahu hp _
theorem zR(hp:Ax b p):Ax b (Axy b p):=Ahu (Alk hp) _
theorem Alj(hp:Ax b p):Ax b (Vs b p):=Kl (zR hp) (I_ b _) (Sx (zR hp))
theorem Agt(b:Aa)(p:Ad):(Zd b p).length<=2*b.Ah.length:=by
 have h1:=Xx b p.Ai (E5 p);have h2:=Xx b (Vt b p).Ai (G8 b (Vt b p));unfold Zd;rw[aF];omega
theorem Ax0(h:A1 b)(hp:Ax b p):vH ⟨b,p,[]⟩=some ⟨b,Vs b p,Zd b p⟩:=by
 have hbl:=h.brl;have hl:=Xx b p.Ai (E5 p);unfold vH;rw[Arb h hp (by simp)];simp only[aa,List.nil_append];have e2:=Ara h (Alk hp) (acts:=acA b p.Ai (E5 p)) (by omega);have e3:=Pb h (zR hp);refine cZ ?_;refine Ok.bind (P:=λy=>y=_) (cX e2 rfl) λy hy=>?_;subst hy;refine Ok.bind (P:=λy=>y=_) (cX e3 rfl) λy hy=>?_;subst hy;exact Ok.pure rfl
def key(b:Aa)(c:Int):Int:=(b.Ag.getD c.toNat default).B6*100+c
theorem Vd{k:Nat}(h:k<l.length):getI l (k:Int)=some (l.getD k 0):=B4 (by
 grind)
structure Srt(b:Aa)(n i:Nat)(d:List Int):Prop where
 len:d.length=n
 low:∀k,k<i->k<n->0<=d.getD k 0/\d.getD k 0<(i:Int)
 asc:∀k m,k<m->m<i->m<n->key b (d.getD k 0)<key b (d.getD m 0)
 rest:∀k,i<=k->k<n->d.getD k 0=(k:Int)
 mem:∀v,v<n->∃k,k<n/\d.getD k 0=(v:Int)
structure Ins(b:Aa)(n i j:Nat)(d:List Int):Prop where
 len:d.length=n
 here:d.getD j 0=(i:Int)
 low:∀k,k<=i->k≠j->0<=d.getD k 0/\d.getD k 0<(i:Int)
 asc:∀k m,k<m->m<=i->k≠j->m≠j->key b (d.getD k 0)<key b (d.getD m 0)
 big:∀k,j<k->k<=i->key b (i:Int)<key b (d.getD k 0)
 rest:∀k,i<k->k<n->d.getD k 0=(k:Int)
 mem:∀v,v<n->∃k,k<n/\d.getD k 0=(v:Int)
theorem Srt.ins(h:Srt b n i d)(hi:i<n):Ins b n i i d where
 len:=h.len
 here:=h.rest i (af _) hi
 low k hk hne:=h.low k (by omega) (by omega)
 asc k m hkm hm hk hm2:=h.asc k m hkm (by omega) (by omega)
 big k h1 h2:=by omega
 rest k h1 h2:=h.rest k (by omega) h2
 mem:=h.mem
theorem Ins.done(h:Ins b n i j d)(hj:j<=i)(hk:0<j->key b (d.getD (j-1) 0)<key b (i:Int)):Srt b n (i+1) d:=by
 refine⟨h.len,λk h1 h2=>?_,λk m hkm hm hn=>?_,λk h1 h2=>h.rest k (by omega) h2,h.mem⟩
 ·by_cases e:k=j
  ·rw[e,h.here];omega
  ·have:=h.low k (by omega) e;omega
 ·have lo:∀k,k<j->key b (d.getD k 0)<key b (i:Int):=λk hkj=>by
   have h3:=hk (by omega);by_cases e:k=j-1
   ·rw[e];exact h3
   ·have:=h.asc k (j-1) (by omega) (by omega) (by omega) (by omega);omega
  by_cases e:k=j
  ·subst e;rw[h.here];exact h.big m hkm (by omega)
  ·by_cases e2:m=j
   ·grind[Ins.here]
   ·exact h.asc k m hkm (by omega) e e2
theorem Ins.step(h:Ins b n i j d)(hj:j<=i)(h0:0<j)(hi:i<n)(hk:key b (i:Int)<key b (d.getD (j-1) 0)):Ins b n i (j-1) ((d.set j (d.getD (j-1) 0)).set (j-1) (i:Int)):=by
 have hl:=h.len;have ev:∀k,((d.set j (d.getD (j-1) 0)).set (j-1) (i:Int)).getD k 0=if k=j-1 then (i:Int) else if k=j then d.getD (j-1) 0 else d.getD k 0:=λk=>by
  grind
 refine⟨by simp[hl],?_,λk h1 h2=>?_,λk m hkm hm hk1 hm1=>?_,λk h1 h2=>?_,λk h1 h2=>?_,λv hv=>?_⟩
 ·rw[ev,if_pos rfl]
 ·rw[ev,if_neg h2];split
  ·exact h.low (j-1) (by omega) (by omega)
  ·exact h.low k h1 (by omega)
 ·rw[ev,ev,if_neg hk1,if_neg hm1];by_cases e1:k=j
  ·rw[if_pos e1,if_neg (by omega)];subst e1;exact h.asc (k-1) m (by omega) hm (by omega) (by omega)
  ·rw[if_neg e1];by_cases e2:m=j
   ·rw[if_pos e2];exact h.asc k (j-1) (by omega) (by omega) e1 (by omega)
   ·rw[if_neg e2];exact h.asc k m hkm hm e1 e2
 ·rw[ev,if_neg (by omega)];split
  ·exact hk
  ·exact h.big k (by omega) h2
 ·rw[ev,if_neg (by omega),if_neg (by omega)];exact h.rest k h1 h2
 ·obtain⟨k,hk1,hk2⟩:=h.mem v hv;by_cases e1:k=j
  ·grind[Ins.here]
  ·by_cases e2:k=j-1
   ·refine⟨j,by omega,?_⟩;rw[ev,if_neg (by omega),if_pos rfl,←hk2,e2]
   ·refine⟨k,hk1,?_⟩;rw[ev,if_neg e2,if_neg e1];exact hk2
theorem Arv{x y:Nat}(hx:x<b.Ag.length)(hy:y<b.Ag.length):Rk (x:Int) (y:Int) b=some (if(b.Ag.getD x default).B6<(b.Ag.getD y default).B6 then -1 else if(b.Ag.getD x default).B6>(b.Ag.getD y default).B6 then 1 else 0):=by
 unfold Rk;rw[B4 (Gn hx),B4 (Gn hy)];simp only[aa,Om]
theorem Axc(h:A1 b)(hi:i<b.Ag.length)(hd:Ins b b.Ag.length i i d) :
  Ok (whileN (V8 0 b) 1152921504606846976 ((i:Int),d)) (D5 (λs=>Srt b b.Ag.length (i+1) s.2) λ(_:Unit)=>False):=by
 have hcl:=h.col;refine cU (λs=>∃j:Nat,s.1=(j:Int)/\j<=i/\Ins b b.Ag.length i j s.2) (λs=>s.1.toNat) _ _ ⟨i,rfl,af _,hd⟩ (by dsimp only;omega) ?_;rintro⟨z,d⟩ ⟨j,hz,hj,hI⟩;dsimp only at hz hI;subst hz;have hl:=hI.len;unfold V8;dsimp only;by_cases h0:0<j
 ·have e1:decide ((j:Int)>0)=true:=dN (by omega);have e2:w64 ((j:Int)-1)=((j-1:Nat):Int):=by rw[Az (by omega)];omega
  have hlow:=hI.low (j-1) (by omega) (by omega);obtain⟨v,hv⟩:∃v:Nat,d.getD (j-1) 0=(v:Int):=⟨(d.getD (j-1) 0).toNat,by omega⟩;have hvi:v<i:=by omega
  have ec:=Arv (b:=b) hi (show v<b.Ag.length by omega);have g1:Au [(decide ((j:Int)>0),true)] (getI d (j:Int)) default=some (i:Int):=by
   rw[e1,Vd (by omega),hI.here];rfl
  have g2:Au [(decide ((j:Int)>0),true)] (getI d (w64 ((j:Int)-1))) default=some (v:Int):=by
   rw[e1,e2,Vd (by omega),hv];rfl
  rw[g1,g2];simp only[aa];have g3:Au [(decide ((j:Int)>0),true)] (Rk (i:Int) (v:Int) b) default=Rk (i:Int) (v:Int) b:=by rw[e1];rw[ec];rfl
  rw[g3,ec];simp only[aa];have hci:=h.co i _ (Gn hi);have hcv:=h.co v _ (Gn (show v<b.Ag.length by omega));have ki:key b (i:Int)=(b.Ag.getD i default).B6*100+(i:Int):=by unfold key;rw[aB]
  have kv:key b (v:Int)=(b.Ag.getD v default).B6*100+(v:Int):=by unfold key;rw[aB]
  refine c6 (λhq=>?_) (λhq=>?_)
  ·simp only[Ze,ac,dJ]at hq;have hlt:(b.Ag.getD i default).B6<(b.Ag.getD v default).B6:=by
    have:=hq.2;split at this
    ·assumption
    ·split at this <;> omega
   have e3:getI d (w64 ((j:Int)-1))=some (d.getD (j-1) 0):=by rw[e2,Vd (by omega)]
   have e4:getI d (j:Int)=some (i:Int):=by rw[Vd (by omega),hI.here]
   rw[e3,e4];simp only[aa];rw[e2,Yv (by omega)];simp only[aa];rw[Vd (by rw[ba];omega)];simp only[aa];rw[Yv (by rw[ba];omega)];simp only[aa];refine c7 ⟨⟨j-1,rfl,by omega,hI.step hj h0 hi ?_⟩,by dsimp only;omega⟩;rw[hv,ki,kv];omega
  ·refine cY (hI.done hj λ_=>?_);simp only[Ze,bD,dK]at hq;have hge:¬(b.Ag.getD i default).B6<(b.Ag.getD v default).B6:=by
    intro hlt;rw[if_pos hlt]at hq;omega
   rw[hv,ki,kv];omega
 ·have h00:j=0:=by omega
  subst h00;exact cY (hI.done hj λhh=>by omega)
theorem A0r(h:A1 b)(hd:Srt b b.Ag.length 0 d):Ok (uQ d b) λy=>Srt b b.Ag.length b.Ag.length y.1:=by
 have hcl:=h.col;have hl:=hd.len;unfold uQ Aij;rw[hl];refine Ok.bind (P:=λy=>Srt b b.Ag.length b.Ag.length y.1) ?_ λy hy=>Ok.pure hy;refine Ok.andThen (A:=λs=>s=((0:Int),(20:Int),d,b.Am,b.Ah,b.Ae,b.Ag,b.Phase,b.Ar)) (B:=λ(_:Unit)=>False) ?_ (λs hs=>?_) (λ_ h=>h.elim)
 ·refine cU (λs=>s=((0:Int),(20:Int),d,b.Am,b.Ah,b.Ae,b.Ag,b.Phase,b.Ar)) (λ_=>0) _ _ rfl (by omega) ?_;intro s hs;subst hs;unfold Ada;dsimp only;refine c6 (λhq=>?_) (λ_=>cY rfl);simp only[dJ]at hq;omega
 ·subst hs;dsimp only;refine Ok.bind (P:=λy=>Srt b b.Ag.length b.Ag.length y.1) ?_ λy hy=>?_
  ·unfold uN;have e1:w64 (0+1)=1:=by rw[Az (by omega)];rfl
   rw[e1];refine Ok.andThen (A:=λs=>Srt b b.Ag.length b.Ag.length s.2) (B:=λ(_:Unit)=>False) ?_ (λs hs=>Ok.pure hs) (λ_ h=>h.elim);refine cU (λs=>∃i:Nat,s.1=(i:Int)/\1<=i/\(i<=b.Ag.length\/b.Ag.length=0)/\Srt b b.Ag.length i s.2) (λs=>(100-s.1).toNat) _ _ ⟨1,rfl,by omega,by omega,?_⟩ (by dsimp only;omega) ?_
   ·refine⟨hl,λk h1 h2=>?_,λk m h1 h2 h3=>by omega,λk h1 h2=>hd.rest k (by omega) h2,hd.mem⟩;have:k=0:=by omega
    subst this;have:=hd.rest 0 (af _) h2;dsimp only;rw[this];omega
   ·rintro⟨z,d'⟩ ⟨i,hz,h1,h2,hS⟩;dsimp only at hz hS;subst hz;unfold Ac8;dsimp only;refine c6 (λhq=>?_) (λhq=>cY ?_)
    ·simp only[dJ]at hq;have hin:i<b.Ag.length:=by omega
     refine Ok.inner (Axc h hin (hS.ins hin)) (λs hs=>?_) (λ_ h=>h.elim);have e2:w64 ((i:Int)+1)=((i+1:Nat):Int):=by rw[Az (by omega)];omega
     rw[e2];exact c7 ⟨⟨i+1,rfl,by omega,by omega,hs⟩,by dsimp only;omega⟩
    ·simp only[dK]at hq;dsimp only;have hge:b.Ag.length<=i:=by omega
     refine⟨hS.len,λk g1 g2=>?_,λk m g1 g2 g3=>hS.asc k m g1 (by omega) g3,λk g1 g2=>by omega,hS.mem⟩;obtain⟨w1,w2⟩:=hS.low k (by omega) g2;exact⟨w1,by omega⟩
  ·refine Ok.andThen (A:=λ_=>True) (B:=λ(_:Unit)=>False) ?_ (λs hs=>Ok.pure hy) (λ_ h=>h.elim);refine cU (λ_=>True) (λ_=>0) _ _ trivial (by omega) ?_;intro s _;unfold Ac9;refine c6 (λhq=>?_) (λ_=>cY trivial);simp only[dJ]at hq;omega
def Ps(b:Aa):List Int:=(Aan b).getD []
theorem Yz(h:A1 b):Aan b=some (Ps b)/\Srt b b.Ag.length b.Ag.length (Ps b):=by
 have hcl:=h.col;have key:Ok (Aan b) λy=>Srt b b.Ag.length b.Ag.length y:=by
  unfold Aan;rw[Agu h];simp only[aa];refine c6 (λhc=>by simp at hc) (λ_=>?_);refine Ok.andThen (A:=λs=>s.2=Dl b.Ag.length) (B:=λ(_:Unit)=>False) ?_ (λs hs=>?_) (λ_ h=>h.elim)
  ·refine cU (λs=>∃i:Nat,s.1=(i:Int)/\i<=b.Ag.length/\s.2=Dl i) (λs=>(100-s.1).toNat) _ _ ⟨0,rfl,by omega,rfl⟩ (by dsimp only;omega) ?_;rintro⟨z,d⟩ ⟨i,hz,h1,h2⟩;dsimp only at hz h2;subst hz;subst h2;unfold Al3 Atm;dsimp only;refine c6 (λhq=>?_) (λhq=>cY ?_)
   ·simp only[dJ]at hq;refine(cV (by simp[Dl];omega)).bind λy hy=>?_;have e2:w64 ((i:Int)+1)=((i+1:Nat):Int):=by rw[Az (by omega)];omega
    rw[e2];refine c7 ⟨⟨i+1,rfl,by omega,?_⟩,by dsimp only;omega⟩;dsimp only;rw[hy];unfold Dl;rw[bV,bB];rfl
   grind
  ·rw[hs];refine(A0r h ?_).bind λy hy=>Ok.pure hy;refine⟨by simp[Dl],λk h1=>by omega,λk m _ h1=>by omega,λk _ h2=>Mc h2,λv hv=>⟨v,hv,Mc hv⟩⟩
 obtain⟨r,e,hr⟩:=key;have:Ps b=r:=by unfold Ps;rw[e];rfl
 rw[this];exact⟨e,hr⟩
theorem A3f(h:A1 b){c:Int}(hc:c∈Ps b):0<=c/\c<b.Ag.length:=by
 have hs:=(Yz h).2;obtain⟨k,hk⟩:=List.mem_iff_getElem?.1 hc;have hlt:=(ab.1 hk).1;have:=hs.low k (by have:=hs.len;omega) (by have:=hs.len;omega);grind
theorem Ak0(h:A1 b):(Ps b).length=b.Ag.length:=(Yz h).2.len
end Go.Proofs.YtiaaaghdkhnonaaGreat
