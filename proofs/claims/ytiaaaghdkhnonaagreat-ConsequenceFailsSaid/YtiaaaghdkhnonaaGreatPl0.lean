import Derived.Test.YtiaaaghdkhnonaaGreatMo
import Derived.Test.YtiaaaghdkhnonaaGreatHo
import Derived.Test.YtiaaaghdkhnonaaGreatDx
namespace Go.Proofs.YtiaaaghdkhnonaaGreat
open Go.SL
variable{α ρ:Type}{d:A5}{b:Aa}{p:Ab}{s s0:Af}{C6:Ak}{q:Al->Bool}{z:Al×Bool}{hi k lo nb st:Int}{ss:List Ak}{l0:List Al}{acts:List As}{so:List B6}{C c t:eT}{idx:eQ}{a l m:List a_}{B f i j n ns r:Nat}{x y:a_}
variable{n:Int}
theorem eq{A:Type}{Q:A->Prop}(v:A)(h:False):Q v:=h.elim
theorem Sp{x:Int}(h:0<n):-n<Int.tmod x n/\Int.tmod x n<n:=by have h1:=Int.tmod_lt_of_pos x h;have h2:=Int.lt_tmod_of_pos x h;exact⟨h2,h1⟩
theorem vW{x:Int}(h:0<n)(h0:0<=x):0<=Int.tmod x n/\Int.tmod x n<n:=⟨Int.tmod_nonneg n h0,(Sp h).2⟩
structure A2(s:Af):Prop where
 lo:0<=s.At
 hi:s.At<=s.L.length
 len:s.L.length<=600
def InR(n r:Int):Prop:=(1<=n->0<=r/\r<n)/\(n<1->r=0)
theorem A6u(x n:Int)(h:n<=4611686018427387904):Ok (F94 x n) (InR n):=by
 unfold F94;refine c6 (λh1=>?_) λh1=>?_
 .simp only[dM]at h1;exact eo ⟨λh2=>by omega,λ_=>rfl⟩
 .simp only[dN]at h1;refine(Ok.nzI (by omega)).bind λ_ _=>(Ok.nzI (by omega)).bind λ_ _=>eo ⟨λ_=>?_,λh2=>by omega⟩;have h2:=Sp (x:=x) (n:=n) (by omega);rw[Az];exact vW (by omega) (by omega)
theorem A9w(hs:A2 s)(n:Int)(h:n<=4611686018427387904):Ok (F44 s n) λy=>A2 y.2/\InR n y.1:=by
 obtain⟨h1,h2,h3⟩:=hs;unfold F44;refine c6 (λh4=>?_) λh4=>?_
 .exact eo ⟨⟨h1,h2,h3⟩,λh5=>⟨by simp,by show (0:Int)<n;omega⟩,λ_=>rfl⟩
 .simp only[dN]at h4;have e:w64 (s.At+1)=s.At+1:=Az;rw[e,Az (n:=s.At+1-1)];refine(d5 (by omega) (by omega)).bind λx _=>(A6u x n h).bind λr hr=>eo ⟨⟨?_,?_,h3⟩,hr⟩
  .show 0<=s.At+1;omega
  grind
theorem Df(hs:A2 s)(n:Int)(h0:1<=n)(h:n<=4611686018427387904):Ok (F44 s n) λy=>A2 y.2/\0<=y.1/\y.1<n:=
 (A9w hs n h).mono λ_ h=>⟨h.1,h.2.1 h0⟩
theorem Gv(hs:A2 s)(lo hi:Int)(h:lo<=hi)(h0:-1000000000000<=lo)(h1:hi<=1000000000000:=by omega):Ok (F67 s lo hi) λy=>A2 y.2/\lo<=y.1/\y.1<=hi:=by
 unfold F67;have e:w64 (w64 (hi-lo)+1)=hi-lo+1:=by rw[Az (n:=hi-lo),Az]
 rw[e];refine(Df hs _ (by omega) (by omega)).bind λy hy=>eo ⟨hy.1,?_⟩;have:=hy.2;show lo<=w64 (lo+y.1)/\w64 (lo+y.1)<=hi;rw[Az];omega
theorem C8(hs:A2 s)(l:eQ)(h:1<=l.length)(h1:l.length<=1000):Ok (F20 s l) λy=>A2 y.2/\y.1∈l:=by unfold F20;grind[Ok.bind,Df,d5,Ok.pure]
theorem A6t(l:eQ):Ok (F10 l) A2:=by unfold F10;refine(Ok.cutI (by omega) (by omega) (by omega)).bind λy hy=>eo ⟨by simp,by simp,?_⟩;grind
def Uc(nb:Int)(ns nc:Nat)(x:Al):Prop:=
 (0<=x.A/\x.A<nb)/\((x.Kind=1/\x.A<x.B/\x.B<nb)\/(x.Kind=2/\0<=x.B/\x.B<ns)\/(x.Kind=3/\0<=x.B/\x.B<nc))
def brs(l:List Al)(k:Int)(i:Nat):List Al:=l.filter λx=>x.Kind==k&&x.B==(i:Int)
def An3(x:B6):Prop:=(1<=x.Rating/\x.Rating<=50000)/\(0<=x.Least/\x.Least<=x.Rating)/\0<=x.Start/\x.Start<=600
def Apj(i:Nat)(x:A8):Prop:=
 (0<=x.Load/\x.Load<=50000)/\(0<=x.Least/\x.Least<=x.Load)/\(0<=x.B1/\x.B1<=15)/\(-1<=x.Thruster/\x.Thruster<=7)/\x.Needs.length<=4 /\
 (∀n,n∈x.Needs->0<=n/\n<(i:Int))/\∀(j:Nat) a b,x.Needs[j]?=some a->x.Needs[j+1]?=some b->a<b
structure Av(b:Aa):Prop where
 buses:1<=b.Ao/\b.Ao<=6
 brl:b.Ah.length<=24
 sol:b.Ad.length<=8
 col:b.Ae.length<=16
 phase:0<=b.Phase/\b.Phase<=1800
 freq:0<=b.Ar/\b.Ar<=6000
 br:∀x,x∈b.Ah->Uc b.Ao b.Ad.length b.Ae.length x
 one:∀i,i<b.Ad.length->(brs b.Ah 2 i).length=1
 any:∀i,i<b.Ae.length->brs b.Ah 3 i≠[]
 nodup:∀i,((brs b.Ah 3 i).map (·.A)).Nodup
 so:∀x,x∈b.Ad->An3 x
 co:∀(i:Nat) x,b.Ae[i]?=some x->Apj i x
theorem Ip(l m:List Al)(k:Int)(i:Nat):brs (l++m) k i=brs l k i++brs m k i:=by unfold brs;rw[aY]
theorem Akg(x:Al)(k:Int)(i:Nat):brs [x] k i=if x.Kind=k/\x.B=(i:Int)then [x] else []:=by unfold brs;grind
variable{l:List Al}
theorem Mg(h:∀x,x∈l->x.Kind=k->x.B≠(i:Int)):brs l k i=[]:=by unfold brs;rw[cP];grind
def Nv(nb:Int)(l:List Al):Prop:=∀x,x∈l->x.Kind=1/\0<=x.A/\x.A<x.B/\x.B<nb
structure Qv(nb:Int)(l:List Al)(so:List B6):Prop where
 len:l.length<=4+so.length
 br:∀x,x∈l->(0<=x.A/\x.A<nb)/\((x.Kind=1/\x.A<x.B/\x.B<nb)\/(x.Kind=2/\0<=x.B/\x.B<so.length))
 one:∀i,i<so.length->(brs l 2 i).length=1
 so:∀x,x∈so->An3 x
structure Ub(nb:Int)(l:List Al)(ns:Nat)(co:List A8):Prop where
 len:l.length<=4+ns+2*co.length
 br:∀x,x∈l->Uc nb ns co.length x
 one:∀i,i<ns->(brs l 2 i).length=1
 any:∀i,i<co.length->brs l 3 i≠[]
 nodup:∀i,((brs l 3 i).map (·.A)).Nodup
 co:∀(i:Nat) x,co[i]?=some x->Apj i x/\x.Thruster<=7
theorem Qv.cons(h:Qv nb l so):Ub nb l so.length [] where
 len:=by have:=h.len;simp;omega
 br x hx:=by obtain⟨h1,h2⟩:=h.br x hx;exact⟨h1,h2.imp id .inl⟩
 one:=h.one
 any i hi:=by simp at hi
 nodup i:=by
  rw[Mg]
  .simp
  .intro x hx h3;obtain⟨_,h2⟩:=h.br x hx;omega
 co i x hx:=by simp at hx
theorem Qv.add(h:Qv nb l so){x:Al}{y:B6}(hx:x.Kind=2/\x.B=so.length/\0<=x.A/\x.A<nb)(hy:An3 y):Qv nb (l++[x]) (so++[y]) where
 len:=by have:=h.len;simp;omega
 br z hz:=by
  rcases am.1 hz with hz|hz
  .obtain⟨h1,h2⟩:=h.br z hz;grind
  grind
 one i hi:=by
  rw[aE]at hi;simp only[bi,cD]at hi;rw[Ip,Akg,aE];by_cases e:i=so.length
  .rw[Mg,eC ⟨hx.1,by omega⟩]
   .rfl
   .intro z hz h2;obtain⟨_,h3⟩:=h.br z hz;omega
  .rw[h.one i (by omega),eF (by omega)];rfl
 so z hz:=by
  rcases am.1 hz with hz|hz
  .exact h.so z hz
  .simp at hz;subst hz;exact hy
theorem Ub.add{m:List Al}{co:List A8}(h:Ub nb l ns co){y:A8}(hm:∀x,x∈m->x.Kind=3/\x.B=co.length/\0<=x.A/\x.A<nb)(h1:m≠[])(h2:m.length<=2)(h3:(m.map (·.A)).Nodup)
  (hy:Apj co.length y/\y.Thruster<=7):Ub nb (l++m) ns (co++[y]):=by
 have e1:brs m 3 co.length=m:=by unfold brs;rw[cd];intro x hx;obtain⟨g1,g2,_⟩:=hm x hx;simp[g1,g2]
 have e2:∀i,i≠co.length->brs m 3 i=[]:=λi hi=>Mg λx hx _ e=>by have:=(hm x hx).2.1;omega
 have e3:brs l 3 co.length=[]:=Mg λx hx h3 e=>by obtain⟨_,g⟩:=h.br x hx;omega
 have hlen:(co++[y]).length=co.length+1:=by simp
 refine⟨?_,λz hz=>?_,λi hi=>?_,λi hi=>?_,λi=>?_,λi x hx=>?_⟩
 .have:=h.len;rw[aE,hlen];omega
 .rw[hlen];rcases am.1 hz with hz|hz
  .obtain⟨g1,g2⟩:=h.br z hz;exact⟨g1,by omega⟩
  .obtain⟨g1,g2,g3⟩:=hm z hz;exact⟨g3,by omega⟩
 .have:brs m 2 i=[]:=Mg λx hx h2=>by have:=(hm x hx).1;omega
  rw[Ip,this,aK];exact h.one i hi
 .rw[Ip];rw[hlen]at hi;by_cases e:i=co.length
  .subst e;rw[e1];simp[h1]
  .have:=h.any i (by omega);simp[this]
 .rw[Ip];by_cases e:i=co.length
  .subst e;rw[e1,e3];simpa using h3
  .rw[e2 i e,aK];exact h.nodup i
 .rw[cM]at hx;split at hx
  .exact h.co i x hx
  grind
theorem Nv.nil(nb:Int):Nv nb []:=λx hx=>by cases hx
theorem Nv.add(h:Nv nb l){x:Al}(hx:x.Kind=1/\0<=x.A/\x.A<x.B/\x.B<nb):Nv nb (l++[x]):=λz hz=>by
 rcases am.1 hz with hz|hz
 .exact h z hz
 .simp at hz;subst hz;exact hx
theorem Nv.gens(h:Nv nb l)(hl:l.length<=4):Qv nb l [] where
 len:=by simpa using hl
 br x hx:=by have:=h x hx;exact⟨by omega,.inl (by omega)⟩
 one i hi:=by simp at hi
 so x hx:=by cases hx
variable{y:Int×Af}
theorem Ax1(hy:1<=y.1/\y.1<=4)(hs0:A2 s0) :
  Ok (whileN (Agq y) 1152921504606846976 (1,s0.L,s0.At,([]:List Al))) (D1 (λs=>A2 ⟨s.2.1,s.2.2.1⟩/\Nv y.1 s.2.2.2/\s.2.2.2.length<=3) (λ(_:Unit)=>False)):=by
 refine d4 (λs=>(1<=s.1/\s.1<=4/\s.1<=y.1)/\A2 ⟨s.2.1,s.2.2.1⟩/\Nv y.1 s.2.2.2/\(s.2.2.2.length:Int)+1<=s.1) (λs=>(y.1-s.1).toNat) _ _ ?_ ?_ ?_
 .exact⟨by dsimp only;omega,hs0,Nv.nil _,by simp⟩
 .dsimp only;omega
 .rintro⟨i,L,a,l⟩ ⟨⟨h1,h2,h3⟩,h4,h5,h6⟩;dsimp only at h1 h2 h3 h4 h5 h6;unfold Agq;refine c6 (λh=>?_) (λh=>?_)
  .simp only[dM]at h;have e:w64 (i+1)=i+1:=Az;dsimp only;rw[e];refine(Df h4 6 (by omega) (by omega)).bind λu hu=>c6 (λ_=>?_) (λ_=>?_)
   .refine(Df hu.1 i h1 (by omega)).bind λv hv=>(d7 (by simp;omega)).bind λm hm=>c7 ?_;subst hm;have:=hv.2;refine⟨⟨by dsimp only;omega,hv.1,h5.add ⟨rfl,by dsimp only;omega,by dsimp only;omega,by dsimp only;omega⟩,by simp;omega⟩,by dsimp only;omega⟩
   .refine c7 ⟨⟨by dsimp only;omega,hu.1,h5,by dsimp only;omega⟩,by dsimp only;omega⟩
  .exact d8 ⟨h4,h5,by dsimp only;omega⟩
theorem Ax0(hy:1<=y.1/\y.1<=4)(hs0:A2 s0)(hk:0<=k/\k<5)(hl0:Qv y.1 l0 []) :
  Ok (whileN (Agp y) 1152921504606846976 (k,s0.L,s0.At,l0,([]:List B6))) (D1 (λs=>A2 ⟨s.2.1,s.2.2.1⟩/\Qv y.1 s.2.2.2.1 s.2.2.2.2/\s.2.2.2.2.length<=4) (λ(_:Unit)=>False)):=by
 refine d4 (λs=>(0<=s.1/\s.1+(s.2.2.2.2.length:Int)<=4)/\A2 ⟨s.2.1,s.2.2.1⟩/\Qv y.1 s.2.2.2.1 s.2.2.2.2) (λs=>s.1.toNat) _ _ ?_ ?_ ?_
 .exact⟨by simp;omega,hs0,hl0⟩
 .dsimp only;omega
 .rintro⟨i,L,a,l,so⟩ ⟨⟨h1,h2⟩,h4,h5⟩;dsimp only at h1 h2 h4 h5;unfold Agp;refine c6 (λh=>?_) (λh=>?_)
  .simp only[dM]at h;have e:w64 (i-1)=i-1:=Az;have hl:=h5.len;dsimp only;rw[e];refine(Df h4 y.1 hy.1 (by omega)).bind λu hu=>(d7 (by simp;omega)).bind λm hm=>?_;refine(C8 hu.1 _ (by simp) (by simp)).bind λv hv=>(C8 hv.1 _ (by simp) (by simp)).bind λp hp=>(C8 hp.1 _ (by simp) (by simp)).bind λq hq=>(d7 (by simp;omega)).bind λo ho=>c7 ?_;subst hm;subst ho;have g1:=hu.2;have g2:v.1=10\/v.1=50\/v.1=100:=by simpa using hv.2
   have g3:p.1=0\/p.1=5\/p.1=v.1:=by simpa using hp.2
   have g4:q.1=0\/q.1=1\/q.1=3:=by simpa using hq.2
   refine⟨⟨by simp;omega,hq.1,h5.add ⟨rfl,rfl,g1⟩ ⟨by dsimp only;omega,by dsimp only;omega,by dsimp only;omega⟩⟩,by dsimp only;omega⟩
  .exact d8 ⟨h4,h5,by dsimp only;omega⟩
theorem A1l{x:Int}(h:0<=x)(h2:x<=50000):0<=w64 (Int.tdiv x 2)/\w64 (Int.tdiv x 2)<=x:=by have:Int.tdiv x 2=x / 2:=cQ h;rw[this,Az];omega
theorem Avt{x:Int}(h:0<=x)(h2:x<=50000):0<=w64 (Int.tdiv x 3)/\w64 (Int.tdiv x 3)<=x:=by have:Int.tdiv x 3=x / 3:=cQ h;rw[this,Az];omega
theorem Axz(hy:1<=y.1/\y.1<=4)(hs0:A2 s0)(hk:0<=k/\k<6)(hns:ns<=4)(hl0:Ub y.1 l0 ns []) :
  Ok (whileN (Ago y) 1152921504606846976 (k,s0.L,s0.At,l0,([]:List A8))) (D1 (λs=>A2 ⟨s.2.1,s.2.2.1⟩/\Ub y.1 s.2.2.2.1 ns s.2.2.2.2/\s.2.2.2.2.length<=5) (λ(_:Unit)=>False)):=by
 refine d4 (λs=>(0<=s.1/\s.1+(s.2.2.2.2.length:Int)<=5)/\A2 ⟨s.2.1,s.2.2.1⟩/\Ub y.1 s.2.2.2.1 ns s.2.2.2.2) (λs=>s.1.toNat) _ _ ?_ ?_ ?_
 .exact⟨by simp;omega,hs0,hl0⟩
 .dsimp only;omega
 .rintro⟨i,L,a,l,co⟩ ⟨⟨h1,h2⟩,h4,h5⟩;dsimp only at h1 h2 h4 h5;unfold Ago;refine c6 (λh=>?_) (λh=>?_)
  .simp only[dM]at h;have e:w64 (i-1)=i-1:=Az;have hl:=h5.len;dsimp only;rw[e];refine(Df h4 y.1 hy.1 (by omega)).bind λu hu=>(d7 (by simp;omega)).bind λm hm=>?_;subst hm;have g1:=hu.2;refine ef (P:=λv=>A2 v.2) (c9 (λ_=>(Df hu.1 4 (by omega) (by omega)).mono λ_ h=>h.1) λ_=>hu.1) λv hv=>?_;refine Ok.inner (A:=λ(r:List Al)=>∃m,r=l++m/\(∀x,x∈m->x.Kind=3/\x.B=co.length/\0<=x.A/\x.A<y.1)/\m≠[]/\m.length<=2/\(m.map (·.A)).Nodup) (B:=λ(_:Unit)=>False) ?_ (λr hr=>?_) eq
   .unfold Ato;refine c6 (λhc=>?_) (λhc=>?_)
    .simp only[ac,dM]at hc;have e2:w64 (u.1+1)=u.1+1:=Az;rw[e2];refine(Ok.nzI (by omega)).bind λ_ _=>(d7 (by simp;omega)).bind λm hm=>dh ?_;subst hm;have g2:=vW (x:=u.1+1) (n:=y.1) (by omega) (by omega);have g3:Int.tmod (u.1+1) y.1≠u.1:=by
      rw[Int.tmod_eq_emod_of_nonneg (by omega)];intro e3;by_cases g4:u.1+1=y.1
      .rw[g4,Int.emod_self]at e3;omega
      .rw[Int.emod_eq_of_lt (by omega) (by omega)]at e3;omega
     refine⟨_,bo _ _ _,?_,by simp,by simp,?_⟩
     .intro x hx;simp at hx;rcases hx with rfl|rfl
      .exact⟨rfl,rfl,g1⟩
      .exact⟨rfl,rfl,g2⟩
     .simp;exact λh=>g3 h.symm
    .exact dh ⟨_,rfl,λx hx=>by simp at hx;subst hx;exact⟨rfl,rfl,g1⟩,by simp,by simp,by simp⟩
   .obtain⟨m,rfl,hm,hm1,hm2,hm3⟩:=hr;refine(C8 hv _ (by simp) (by simp)).bind λp hp=>(C8 hp.1 _ (by simp) (by simp)).bind λq hq=>(Df hq.1 3 (by omega) (by omega)).bind λpr hpr=>(Gv hpr.1 (-1) 2 (by omega) (by omega)).bind λth hth=>?_;have k1:p.1=0\/p.1=5\/p.1=20\/p.1=40:=by simpa using hp.2
    have k2:q.1=0\/q.1=w64 (Int.tdiv p.1 2)\/q.1=p.1:=by simpa using hq.2
    have k3:=A1l (x:=p.1) (by omega) (by omega);have k4:=hpr.2;have k5:=hth.2;refine ef (P:=λv=>A2 v.2) (c9 (λ_=>(Df hth.1 4 (by omega) (by omega)).mono λ_ h=>h.1) λ_=>hth.1) λw hw=>c6 (λhc=>?_) (λhc=>?_)
    .simp only[Azu,ac,dM]at hc;refine(Df hw _ (by omega) (by omega)).bind λn hn=>(d7 (by simp;omega)).bind λo ho=>c7 ?_;subst ho;have k6:=hn.2;refine⟨⟨by simp;omega,hn.1,h5.add hm hm1 hm2 hm3 ⟨⟨by dsimp only;omega,by dsimp only;omega,by dsimp only;omega,by dsimp only;omega,by simp,?_,?_⟩,by dsimp only;omega⟩⟩,by dsimp only;omega⟩
     .intro z hz;simp at hz;subst hz;exact k6
     .intro j a b ha hb;simp at hb
    .refine(d7 (by simp;omega)).bind λo ho=>c7 ?_;subst ho;refine⟨⟨by simp;omega,hw,h5.add hm hm1 hm2 hm3 ⟨⟨by dsimp only;omega,by dsimp only;omega,by dsimp only;omega,by dsimp only;omega,by simp,?_,?_⟩,by dsimp only;omega⟩⟩,by dsimp only;omega⟩
     .intro z hz;simp at hz
     .intro j a b ha hb;simp at ha
  .exact d8 ⟨h4,h5,by dsimp only;omega⟩
structure A9x(b:Aa):Prop where
 ok:Av b
 buses:b.Ao<=4
 brl:b.Ah.length<=18
 sol:b.Ad.length<=4
 col:b.Ae.length<=5
 thr:∀x,x∈b.Ae->x.Thruster<=7
theorem Azb(hs:A2 s):Ok (F84 s) λy=>A9x y.1/\A2 y.2:=by
 unfold F84;refine(Gv hs 1 4 (by omega) (by omega)).bind λy1 h1=>(C8 h1.1 _ (by simp) (by simp)).bind λy3 h3=>(C8 h3.1 _ (by simp) (by simp)).bind λy5 h5=>?_;refine(Ax1 h1.2 h5.1).andThen (λs0 hs0=>?_) eq;refine ef (P:=λv=>A2 v.2) (c9 (λ_=>(Df hs0.1 2 (by omega) (by omega)).mono λ_ h=>h.1) λ_=>hs0.1) λy15 h15=>?_;have hb:=h1.2;refine ee (A:=λ(l:List Al)=>Nv y1.1 l/\l.length<=4) (B:=λ(_:Unit)=>False) ?_ (λl hl=>?_) eq
 .unfold Atp;refine c6 (λhc=>?_) (λhc=>dh ⟨hs0.2.1,by omega⟩);simp only[ac,dM]at hc;have e:w64 (y1.1-1)=y1.1-1:=Az;rw[e];have:=hs0.2.2;refine(d7 (by simp;omega)).bind λm hm=>dh ?_;subst hm;exact⟨hs0.2.1.add ⟨rfl,by simp,by dsimp only;omega,by dsimp only;omega⟩,by simp;omega⟩
 .refine(Df h15 5 (by omega) (by omega)).bind λy20 h20=>?_;refine(Ax0 h1.2 h20.1 h20.2 (hl.1.gens hl.2)).andThen (λs2 hs2=>?_) eq;refine(Df hs2.1 6 (by omega) (by omega)).bind λy35 h35=>?_;refine(Axz h1.2 h35.1 h35.2 hs2.2.2 hs2.2.1.cons).andThen (λs3 hs3=>eo ⟨?_,hs3.1⟩) eq;obtain⟨_,hc,hl5⟩:=hs3;have hl4:=hs2.2.2;have hlen:=hc.len;have p3:y3.1=0\/y3.1=50\/y3.1=200\/y3.1=1800:=by simpa using h3.2
  have p5:y5.1=0\/y5.1=10\/y5.1=50:=by simpa using h5.2
  refine⟨⟨by dsimp only;omega,by dsimp only;omega,by dsimp only;omega,by dsimp only;omega,by dsimp only;omega,by dsimp only;omega,hc.br,hc.one,hc.any,hc.nodup,hs2.2.1.so,λi x hx=>(hc.co i x hx).1⟩,by dsimp only;omega,by dsimp only;omega,hl4,hl5,λx hx=>?_⟩;obtain⟨i,hi⟩:=bB hx;exact(hc.co i x hi).2
set_option linter.unusedVariables false
def G3(p:a_):Prop:=(1<=p.Kind/\p.Kind<=9)/\0<=p.Number/\p.Number<=63
def Amt(x y:A_):Prop:=Dv x.From y.From=true\/x.From=y.From/\Dv x.To y.To=true
structure zL(l:List a_)(L:List A_):Prop where
 len:L.length<=20
 mem:∀x,x∈L->x.From∈l/\x.To∈l/\x.From≠x.To
 asc:L.Pairwise Amt
def Ie:List ByteArray:=[(⟨#[111,110,101]⟩:ByteArray),(⟨#[116,119,111]⟩:ByteArray),(⟨#[103,45,51]⟩:ByteArray),(⟨#[120]⟩:ByteArray)]
structure Zq(l:List a_)(G:List Bu):Prop where
 len:G.length<=3
 mem:∀g,g∈G->g.Name∈Ie/\g.Parts≠[]/\D6 g.Parts/\(∀p,p∈g.Parts->p∈l)/\g.Parts.length<=40
 dist:G.Pairwise λa b=>a.Name≠b.Name
structure Qb(d:A5):Prop where
 asc:D6 d.Parts
 ok:∀p,p∈d.Parts->G3 p
 len:d.Parts.length<=30
 links:zL d.Parts d.Links
 groups:Zq d.Parts d.Groups
theorem Jt(x y:a_):((x.Kind==y.Kind)&&((x.Number==y.Number)&&true))=Fj x y:=by unfold Fj;rw[bO]
variable{l:List a_}{y:a_}
theorem We(hl:D6 l)(hx:l[i]?=some x)(hy:l[j]?=some y)(h:i<j):Dv x y=true:=by obtain⟨h1,rfl⟩:=aa.1 hx;obtain⟨h2,rfl⟩:=aa.1 hy;exact bm.1 hl i j h1 h2 h
theorem Xs{R:α->α->Prop}{l:List α}{x:α}(h:l.Pairwise R)(hx:∀y,y∈l->R y x):(l++[x]).Pairwise R:=
 List.pairwise_append.2 ⟨h,List.pairwise_singleton _ _,λa ha b hb=>by grind⟩
theorem Akk(hs:A2 s)(hn:n<=1000)(hk:1<=k/\k<=1000):Ok (F91 s n k) λy=>A2 y.2/\y.1.Pairwise (· < ·)/\(∀x,x∈y.1->0<=x/\x<n)/\(y.1.length:Int)<=max n 0:=by
 unfold F91;refine ee (A:=λs=>A2 ⟨s.2.1,s.2.2.1⟩/\s.2.2.2.Pairwise (· < ·)/\(∀x,x∈s.2.2.2->0<=x/\x<n)/\(s.2.2.2.length:Int)<=max n 0) (B:=λ(_:Unit)=>False) ?_ (λz hz=>eo hz) eq;refine d4 (λs=>(0<=s.1/\s.1<=max n 0/\(s.2.2.2.length:Int)<=s.1)/\A2 ⟨s.2.1,s.2.2.1⟩/\s.2.2.2.Pairwise (· < ·)/\(∀x,x∈s.2.2.2->0<=x/\x<s.1/\x<n)) (λs=>(n-s.1).toNat) _ _ ?_ ?_ ?_
 .exact⟨⟨by omega,by dsimp only;omega,by simp⟩,hs,bF,by simp⟩
 .dsimp only;omega
 .rintro⟨i,L,a,l⟩ ⟨⟨h1,h2,h3⟩,h4,h5,h6⟩;dsimp only at h1 h2 h3 h4 h5 h6;unfold Atl;refine c6 (λh=>?_) (λh=>?_)
  .simp only[dM]at h;have e:w64 (i+1)=i+1:=Az;dsimp only;rw[e];refine(Df h4 k hk.1 (by omega)).bind λu hu=>c6 (λ_=>?_) (λ_=>?_)
   .refine(d7 (by simp;omega)).bind λm hm=>c7 ?_;subst hm;refine⟨⟨⟨by dsimp only;omega,by dsimp only;omega,by simp;omega⟩,hu.1,Xs h5 λy hy=>(h6 y hy).2.1,λx hx=>?_⟩,by dsimp only;omega⟩;grind
   .exact c7 ⟨⟨⟨by dsimp only;omega,by dsimp only;omega,by dsimp only;omega⟩,hu.1,h5,λx hx=>by have:=h6 x hx;dsimp only;omega⟩,by dsimp only;omega⟩
  .simp only[dN]at h;exact d8 ⟨h4,h5,λx hx=>by have:=h6 x hx;omega,by dsimp only;omega⟩
def Zp(l:List a_)(i j:Nat)(L:List A_):Prop:=
 L.length<=20/\(∀x,x∈L->x.From∈l/\x.To∈l/\x.From≠x.To)/\L.Pairwise Amt /\
 ∀x,x∈L->(∃k,k<i/\l[k]?=some x.From)\/l[i]?=some x.From/\∃k,k<j/\l[k]?=some x.To
theorem Zp.mono{L:List A_}(h:Zp l i j L):Zp l i (j+1) L:=
 ⟨h.1,h.2.1,h.2.2.1,λx hx=>(h.2.2.2 x hx).imp id λ⟨h1,k,h2,h3⟩=>⟨h1,k,by omega,h3⟩⟩
theorem Abk(hl:D6 l)(hn:l.length<=40)(hs:A2 s):Ok (Adf s l) λy=>zL l y.1/\A2 y.2:=by
 unfold Adf;refine ee (A:=λz=>Zp l l.length 0 z.2.2/\A2 ⟨z.1,z.2.1⟩) (B:=λ(_:Unit)=>False) ?_ (λz hz=>eo ⟨⟨hz.1.1,hz.1.2.1,hz.1.2.2.1⟩,hz.2⟩) eq;refine c8 (I:=λi z=>Zp l i 0 z.2.2/\A2 ⟨z.1,z.2.1⟩) ⟨⟨by simp,by simp,bF,by simp⟩,hs⟩ (λi x z hx hz=>?_) λz hz=>hz;unfold Agn;refine Ok.inner (A:=λz=>Zp l i l.length z.2.2/\A2 ⟨z.1,z.2.1⟩) (B:=λ(_:Unit)=>False) ?_ (λz hz=>c7 ⟨⟨hz.1.1,hz.1.2.1,hz.1.2.2.1,λy hy=>.inl ?_⟩,hz.2⟩) eq
 .refine c8 (I:=λj z=>Zp l i j z.2.2/\A2 ⟨z.1,z.2.1⟩) hz (λj y z hy hz=>?_) λz hz=>hz;unfold Agm;refine ef (P:=λv=>A2 v.2) (c9 (λ_=>(Df hz.2 7 (by omega) (by omega)).mono λ_ h=>h.1) λ_=>hz.2) λv hv=>c6 (λhc=>?_) (λ_=>c7 ⟨hz.1.mono,hv⟩);simp only[Akd,ac,dM,aW,Jt]at hc;obtain⟨h1,h2,h3,h4⟩:=hz.1;refine(d7 (by simp;omega)).bind λm hm=>c7 ?_;subst hm;have hne:x≠y:=λe=>by
   have:=D8.2 e;rw[hc.1.1]at this;cases this
  refine⟨⟨by simp;omega,λw hw=>?_,Xs h3 λw hw=>?_,λw hw=>?_⟩,hv⟩
  .grind
  .rcases h4 w hw with⟨k,hk,e⟩|⟨e,k,hk,e2⟩
   .exact .inl (We hl e hx hk)
   .rw[hx]at e;exact .inr ⟨(bj e).symm,We hl e2 hy hk⟩
  grind
 .rcases hz.1.2.2.2 y hy with⟨k,hk,e⟩|⟨e,_⟩
  .exact⟨k,by omega,e⟩
  .exact⟨i,by omega,e⟩
theorem A0z{a b:a_}(h:Dv a b=true):a≠b:=λe=>by rw[e,L4]at h;cases h
theorem Qz(hl:D6 l)(hn:l.length<=1000)(p:a_):Oj l p=some (Ib p l):=by
 refine da ?_;unfold Oj;refine ee (A:=λz=>∃k:Nat,z=(k:Int)/\k<=l.length/\(∀(i:Nat) x,i<k->l[i]?=some x->Dv x p=true)/\∀x,l[k]?=some x->Dv x p=false) (B:=λ(_:Unit)=>False) ?_ (λz hz=>?_) eq
 .refine d4 (λz=>∃k:Nat,z=(k:Int)/\k<=l.length/\∀(i:Nat) x,i<k->l[i]?=some x->Dv x p=true) (λz=>(l.length-z).toNat) _ _ ⟨0,rfl,by omega,by omega⟩ (by omega) λz hz=>?_;obtain⟨k,rfl,h1,h2⟩:=hz;unfold Agu;refine ef (P:=λv=>k<l.length->l[k]?=some v) (c9 (λha=>?_) λha=>?_) λv hv=>c6 (λhc=>c7 ?_) (λhc=>d8 ?_)
  .have h3:(k:Int)<l.length:=by simpa using ha.1
   exact(d5 (by omega) h3).mono λx hx _=>by simpa using hx
  .intro h3;exact absurd ⟨by simpa using h3,trivial⟩ ha
  .simp only[zG,ac,dM]at hc;have e:w64 ((k:Int)+1)=(k:Int)+1:=Az;rw[e];have hk:k<l.length:=by omega
   refine⟨⟨k+1,rfl,by omega,λi x hi hx=>?_⟩,by omega⟩;by_cases hik:i=k
   .subst hik;rw[hv hk]at hx;have hc2:=hc.2;rw[bj hx]at hc2;exact hc2
   .exact h2 i x (by omega) hx
  .refine⟨k,rfl,h1,h2,λx hx=>?_⟩;have hk:=(aa.1 hx).1;have e:=hv hk;rw[hx]at e;cases e;simp only[zG,bU,dN]at hc;rcases hc with hc|hc
   .omega
   .exact hc
 .obtain⟨k,rfl,h1,h2,h3⟩:=hz;have hmem:∀x,x∈l.take k->Dv x p=true:=λx hx=>by
   obtain⟨i,hi⟩:=bB hx;rw[aq]at hi;split at hi
   .exact h2 i x (by assumption) hi
   .cases hi
  refine ef (P:=λv=>k<l.length->l[k]?=some v) (c9 (λha=>?_) λha=>?_) λv hv=>c6 (λhc=>eo ?_) (λhc=>?_)
  .have h4:(k:Int)<l.length:=by simpa using ha.1
   exact(d5 (by omega) h4).mono λx hx _=>by simpa using hx
  .intro h4;exact absurd ⟨by simpa using h4,trivial⟩ ha
  .simp only[zF,ac,dM,Jt]at hc;have hk:k<l.length:=by omega
   have e:=hv hk;rw[D8.1 hc.2]at e;refine Iq hl (Ik p hl) λx=>?_;rw[Fx];exact⟨.inr,λh=>h.elim (λh=>h ▸ ae e) id⟩
  .refine(Ok.bndI (by omega) (by omega) (by omega)).bind λ_ _=>(Ok.bndI (by omega) (by omega) (by omega)).bind λ_ _=>?_;have ht:List.take ((l.length:Int).toNat-(k:Int).toNat) (List.drop (k:Int).toNat l)=l.drop k:=by
    rw[ax,ax,cI (by simp)]
   rw[ht];refine(d7 (by simp;omega)).bind λa ha=>?_;subst ha;refine(d7 (by simp;omega)).bind λa ha=>eo ?_;subst ha;rw[ax,Nat.sub_zero];have hgt:∀x,x∈l.drop k->Dv p x=true:=λx hx=>by
    obtain⟨i,hi⟩:=bB hx;rw[aw]at hi;have hk:k<l.length:=by have:=(aa.1 hi).1;omega
    have e:=hv hk;have hlt:=h3 v e;have hne:Fj v p=false:=by
     simp only[zF,bU,dN,Jt]at hc;rcases hc with hc|hc
     .omega
     .exact hc
    have hpv:Dv p v=true:=by
     rcases Y1 v p with h|h|h
     .rw[hlt]at h;cases h
     .rw[D8.2 h]at hne;cases hne
     .exact h
    by_cases h0:i=0
    .subst h0;rw[bD,e]at hi;cases hi;exact hpv
    .exact Ld hpv (We hl e hi (by omega))
   refine Iq ?_ (Ik p hl) λx=>?_
   .refine List.pairwise_append.2 ⟨hl.sublist (List.take_sublist _ _),aL.2 ⟨hgt,hl.sublist (List.drop_sublist _ _)⟩,λa ha b hb=>?_⟩;rcases ag.1 hb with hb|hb
    .rw[hb];exact hmem a ha
    .exact Ld (hmem a ha) (hgt b hb)
   .rw[Fx];have hm:x∈l↔x∈l.take k\/x∈l.drop k:=by rw[←am,bI]
    rw[hm];simp only[am,ag,List.singleton_append];constructor
    .rintro (h|h|h)
     .exact .inr (.inl h)
     .exact .inl h
     .exact .inr (.inr h)
    .rintro (h|h|h)
     .exact .inr (.inl h)
     .exact .inl h
     .exact .inr (.inr h)
theorem Mb(p:a_):∀l:List a_,(Ib p l).length<=l.length+1
 | []=>by simp[Ib]
 | q::l=>by
  unfold Ib;cases Dv p q with
  |true=>simp
  |false=>
   cases Dv q p with
   |true=>have:=Mb p l;simp;omega
   |false=>simp
theorem A1h(p:a_)(l:List a_):Ib p l≠[]:=λe=>by have:p∈Ib p l:=(Fx p l p).2 (.inl rfl);rw[e]at this;cases this
theorem Aw5(h0:0<=k)(h1:k<4):Ok (getI Ie k) λx=>Ie[k.toNat]?=some x:=d5 h0 (by simp[Ie];omega)
theorem Am2{x:ByteArray}(hi:Ie[i]?=some x)(hj:Ie[j]?=some x):i=j:=by grind[Ie]
def A6v(l:List a_)(k:Int)(G:List Bu):Prop:=
 (G.length:Int)<=3-k/\(∀g,g∈G->g.Name∈Ie/\g.Parts≠[]/\D6 g.Parts/\(∀p,p∈g.Parts->p∈l)/\g.Parts.length<=41)/\(G.Pairwise λa b=>a.Name≠b.Name) /\
 ∀g,g∈G->∃j:Nat,k<j/\Ie[j]?=some g.Name
theorem Mv(hl:D6 l)(h:∀p,p∈l->p∈m):l.length<=m.length:=
 List.Nodup.length_le_of_subset (hl.imp λh=>A0z h) λp hp=>h p hp
theorem jV(hl:D6 l)(hn:l.length<=30)(hs:A2 s):Ok (Ade s l) λy=>Zq l y.1/\A2 y.2:=by
 unfold Ade;refine(Df hs 4 (by omega) (by omega)).bind λy hy=>?_;refine ee (A:=λz=>(∃k,0<=k/\A6v l k z.2.2.2)/\A2 ⟨z.2.1,z.2.2.1⟩) (B:=λ(_:Unit)=>False) ?_ (λz hz=>eo ⟨?_,hz.2⟩) eq
 .refine d4 (λz=>(0<=z.1/\z.1<4)/\A6v l z.1 z.2.2.2/\A2 ⟨z.2.1,z.2.2.1⟩) (λz=>z.1.toNat) _ _ ⟨hy.2,⟨by simp;omega,by simp,bF,by simp⟩,hy.1⟩ (by dsimp only;omega) ?_;rintro⟨k,L,a,G⟩ ⟨⟨h1,h2⟩,⟨h3,h4,h5,h6⟩,h7⟩;dsimp only at h1 h2 h3 h4 h5 h6 h7;unfold Agl;refine c6 (λhc=>?_) (λhc=>d8 ⟨⟨k,h1,h3,h4,h5,h6⟩,h7⟩);simp only[Akc,ac,dM]at hc;refine(Aw5 h1 h2).bind λnm hnm=>(Df h7 (l.length:Int) (by omega) (by omega)).bind λu hu=>(d5 hu.2.1 hu.2.2).bind λp hp=>?_;refine Ok.inner (A:=λz=>A2 ⟨z.1,z.2.1⟩/\D6 z.2.2/\(∀q,q∈z.2.2->q∈l)/\z.2.2≠[]) (B:=λ(_:Unit)=>False) ?_ (λz hz=>?_) eq
  .refine c8 (I:=λ_ z=>A2 ⟨z.1,z.2.1⟩/\D6 z.2.2/\(∀q,q∈z.2.2->q∈l)/\z.2.2≠[]) ⟨hu.1,show D6 [p] from List.pairwise_singleton _ _,λq hq=>by rw[aU.1 hq];exact ae hp,by simp⟩ (λj q z hq hz=>?_) λz hz=>hz;unfold Agk;refine(Df hz.1 4 (by omega) (by omega)).bind λv hv=>c6 (λ_=>?_) (λ_=>c7 ⟨hv.1,hz.2⟩);have:=Mv hz.2.1 hz.2.2.1;refine ef (P:=λx=>x=_) (d6 (Qz hz.2.1 (by omega) q) rfl) λx hx=>c7 ?_;subst hx;refine⟨hv.1,Ik _ hz.2.1,λx hx=>?_,A1h _ _⟩;rcases(Fx _ _ _).1 hx with hx|hx
   .rw[hx];exact ae hq
   .exact hz.2.2.1 x hx
  .refine(d7 (by simp;omega)).bind λm hm=>c7 ?_;subst hm;have e:w64 (k-1)=k-1:=Az;dsimp only;rw[e];have:=Mv hz.2.1 hz.2.2.1;refine⟨⟨by omega,⟨by simp;omega,λg hg=>?_,Xs h5 λg hg=>?_,λg hg=>?_⟩,hz.1⟩,by omega⟩
   .rcases am.1 hg with hg|hg
    .exact h4 g hg
    .rw[aU.1 hg];exact⟨ae hnm,hz.2.2.2,hz.2.1,hz.2.2.1,by dsimp only;omega⟩
   .obtain⟨j,hj,e⟩:=h6 g hg;intro he;rw[he]at e;have:=Am2 e hnm;omega
   grind
 .obtain⟨⟨k,h0,h3,h4,h5,_⟩,_⟩:=hz;exact⟨by dsimp only;omega,λg hg=>by obtain⟨g1,g2,g3,g4,g5⟩:=h4 g hg;have:=Mv g3 g4;exact⟨g1,g2,g3,g4,by omega⟩,h5⟩
def Pp(C:eQ)(k:Nat)(z:List a_):Prop:=D6 z/\z.length<=3*k/\∀p,p∈z->(1<=p.Kind/\p.Kind<k)/\(0<=p.Number/\p.Number<=2)/\∃c,C[p.Kind.toNat]?=some c/\p.Number<c
theorem App{C:eQ}(hC:C.length<=10)(h0:C[0]?=some 0)(hs:A2 s) :
  Ok (foldI Agw C 0 (s.L,s.At,([]:List a_))) (D1 (λz=>Pp C 10 z.2.2/\A2 ⟨z.1,z.2.1⟩) λ(_:Unit)=>False):=by
 refine c8 (I:=λj z=>Pp C j z.2.2/\A2 ⟨z.1,z.2.1⟩) ⟨⟨show D6 [] from bF,by simp,by simp⟩,hs⟩ (λj c z hc hz=>?_) λz hz=>⟨⟨hz.1.1,by have:=hz.1.2.1;omega,λp hp=>by have:=hz.1.2.2 p hp;exact⟨by omega,this.2⟩⟩,hz.2⟩;obtain⟨⟨h1,h2,h3⟩,h4⟩:=hz;have hj:j<C.length:=(aa.1 hc).1;unfold Agw;refine(Akk h4 (n:=min c 3) (by omega) (k:=2) (by omega)).bind λy hy=>?_;obtain⟨y1,y2,y3,y4⟩:=hy;refine Ok.inner (A:=λw=>Pp C (j+1) w) (B:=λ(_:Unit)=>False) ?_ (λw hw=>c7 ⟨hw,y1⟩) eq;refine c8 (I:=λi w=>D6 w/\w.length=z.2.2.length+i/\∀p,p∈w->((1<=p.Kind/\p.Kind<j)/\(0<=p.Number/\p.Number<=2)/\∃c,C[p.Kind.toNat]?=some c/\p.Number<c)\/(p.Kind=j/\∃k,k<i/\y.1[k]?=some p.Number)) ⟨h1,by simp,λp hp=>.inl (h3 p hp)⟩ (λi x w hx hw=>?_) λw hw=>?_
 .obtain⟨w1,w2,w3⟩:=hw;have hi:i<y.1.length:=(aa.1 hx).1;unfold Aua;rw[Cv (by omega)];refine(d7 (by simp;omega)).bind λm hm=>c7 ?_;subst hm;refine⟨Xs w1 λp hp=>?_,by simp;omega,λp hp=>?_⟩
  .rw[Hc];rcases w3 p hp with⟨h,_⟩|⟨h,k,hk,e⟩
   .exact .inl h.2
   .refine .inr ⟨h,?_⟩;obtain⟨q1,q2⟩:=aa.1 e;obtain⟨q3,q4⟩:=aa.1 hx;have:=bm.1 y2 k i q1 q3 hk;rw[q2,q4]at this;exact this
  grind
 .obtain⟨w1,w2,w3⟩:=hw;refine⟨w1,by omega,λp hp=>?_⟩;grind
theorem Pp.ptOk{C:eQ}{z:List a_}(h:Pp C 10 z):∀p,p∈z->G3 p:=λp hp=>by have:=h.2.2 p hp;unfold G3;omega
theorem A2f(hs:A2 s):Ok (F48 s) λy=>G3 y.1/\y.1.Number<=3/\A2 y.2:=by unfold F48;refine(Gv hs 1 9 (by omega) (by omega)).bind λy hy=>(Df hy.1 4 (by omega) (by omega)).bind λu hu=>eo ⟨?_,by have:=hu.2;dsimp only;omega,hu.1⟩;have h1:=hy.2;have h2:=hu.2;unfold G3;dsimp only;omega
theorem Agg(hs:A2 s)(hn:0<=n/\n<=100):Ok (F13 s n) λy=>(∀p,p∈y.1->G3 p/\p.Number<=3)/\(y.1.length:Int)<=n/\A2 y.2:=by
 unfold F13;rw[Az];refine(Df hs (n+1) (by omega) (by omega)).bind λy hy=>?_;refine ee (A:=λz=>(∀p,p∈z.2.2.2->G3 p/\p.Number<=3)/\(z.2.2.2.length:Int)<=n/\A2 ⟨z.2.1,z.2.2.1⟩) (B:=λ(_:Unit)=>False) ?_ (λz hz=>eo hz) eq;have hy2:=hy.2;refine d4 (λz=>(0<=z.1/\z.1+(z.2.2.2.length:Int)<=n)/\(∀p,p∈z.2.2.2->G3 p/\p.Number<=3)/\A2 ⟨z.2.1,z.2.2.1⟩) (λz=>z.1.toNat) _ _ ⟨by simp;omega,by simp,hy.1⟩ (by dsimp only;omega) ?_;rintro⟨k,L,a,l⟩ ⟨⟨h1,h2⟩,h3,h4⟩;dsimp only at h1 h2 h3 h4;unfold Avk;refine c6 (λhc=>?_) (λhc=>d8 ⟨h3,by dsimp only;omega,h4⟩);simp only[dM]at hc;refine(A2f h4).bind λu hu=>(d7 (by simp;omega)).bind λm hm=>c7 ?_;subst hm;dsimp only;rw[Az (n:=k-1)];refine⟨⟨by simp;omega,λp hp=>?_,hu.2.2⟩,by omega⟩;rcases am.1 hp with hp|hp
 .exact h3 p hp
 .rw[aU.1 hp];exact⟨hu.1,hu.2.1⟩
theorem Jm(x lo hi:Int):Bt x lo hi=true↔lo<=x/\x<=hi:=by simp[Bt]
theorem yN{x:Int}(h:lo<=x/\x<=hi:=by omega):Bt x lo hi=true:=(Jm x lo hi).2 h
theorem He(l:eQ)(x:Int)(h:l.length<=9223372036854775807):Ww l x=some (l.any (x == ·)):=by unfold Ww Ayw;rw[Je (λy=>x==y) (λi y=>rfl) l h];simp only[ab,Mc]
theorem Ai7(l:List eQ)(h:l.length<=9223372036854775807):uY l=some (l.any λx=>(x.length:Int)==0):=by unfold uY Ag6;rw[Je (λy=>(y.length:Int)==0) (λi y=>rfl) l h];simp only[ab,Mc]
theorem Ai9(h:Av b):Ok (Aos b) (· = true):=by
 unfold Aos;have hs:=h.sol;have hc:=h.col;have hb:=h.buses;refine(Ok.mkI (by omega) (by omega)).bind λys hys=>(Ok.mkI (by omega) (by omega)).bind λzs hzs=>?_;rw[ax]at hys hzs;refine ee (A:=λs=>s.1=(List.range b.Ad.length).map (λi=>((brs b.Ah 2 i).length:Int))/\s.2=(List.range b.Ae.length).map (λi=>(brs b.Ah 3 i).map (·.A))) (B:=λ_=>False) ?_ ?_ eq
 .refine c8 (I:=λj s=>s.1=(List.range b.Ad.length).map (λi=>((brs (b.Ah.take j) 2 i).length:Int))/\s.2=(List.range b.Ae.length).map (λi=>(brs (b.Ah.take j) 3 i).map (·.A))) ?_ ?_ ?_
  .exact⟨by rw[hys,P0];rfl,by rw[hzs,P0];rfl⟩
  .rintro j x ⟨us,vs⟩ hx ⟨hu,hv⟩;dsimp only at hu hv;subst hu;subst hv;have hmem:=ae hx;obtain⟨⟨a0,a1⟩,hk⟩:=h.br x hmem;have htk:∀k i,brs (b.Ah.take (j+1)) k i=brs (b.Ah.take j) k i++if x.Kind=k/\x.B=(i:Int)then [x] else []:=λk i=>by rw[Bc hx,Ip,Akg]
   have hall:∀k i,brs b.Ah k i=brs (b.Ah.take (j+1)) k i++brs (b.Ah.drop (j+1)) k i:=λk i=>by rw[←Ip,bI]
   unfold Akv;have e1:w64 (b.Ao-1)=b.Ao-1:=Az;have e2:w64 (x.A+1)=x.A+1:=Az;refine c6 (λhq=>?_) (λ_=>?_)
   .rw[e1,yN]at hq;simp at hq
   refine c6 (λhq=>?_) (λhq=>?_)
   .simp only[Afs,ac,dQ,Jm]at hq;refine c7 ⟨bk λi _=>?_,bk λi _=>?_⟩
    .rw[htk,eF (by omega),aK]
    .rw[htk,eF (by omega),aK]
   have hq:=ff hq;simp only[Afs,ac,dQ,Jm,e1,e2]at hq;rcases hk with hk|hk|hk
   .exact absurd ⟨hk.1,by omega⟩ hq
   .have hBn:x.B=(x.B.toNat:Int):=by omega
    have hone:=h.one x.B.toNat (by omega);have hz:(brs (b.Ah.take j) 2 x.B.toNat).length=0:=by rw[hall,htk,eC ⟨hk.1,hBn⟩]at hone;simp at hone;omega
    have hg:((x.Kind==2)&&(Bt x.B 0 (w64 ((((List.range b.Ad.length).map (λi=>((brs (b.Ah.take j) 2 i).length:Int))).length:Int)-1))))=true:=by rw[ac,dQ,Jm,ao,List.length_range,Az];omega
    dsimp only;refine ef (P:=λy=>y=0) (c9 (λ_=>(du (by omega)).mono λy hy=>by rw[hy,hz];rfl) λhn=>(Xx hg hn).elim) λy hy=>?_;refine c6 (λhq2=>?_) (λhq2=>?_)
    .refine(du (by omega)).bind λy2 hy2=>(dy (by omega)).bind λy3 hy3=>c7 ⟨?_,bk λi _=>?_⟩
     .rw[hy3];refine bk λi hi=>?_;by_cases e:i=x.B.toNat
      .subst e;rw[eC rfl,hy2,htk,eC ⟨hk.1,hBn⟩,hz,aE,hz];rfl
      .rw[eF e,htk,eF (by omega),aK]
     .rw[htk,eF (by omega),aK]
    .have hq2:=ff hq2;simp only[Afr,ac,hy]at hq2;rw[ac]at hg;exact absurd ⟨hg,by simp⟩ hq2
   .have hBn:x.B=(x.B.toNat:Int):=by omega
    have hnod:=h.nodup x.B.toNat;have hnot:x.A∉(brs (b.Ah.take j) 3 x.B.toNat).map (·.A):=by rw[hall,htk,eC ⟨hk.1,hBn⟩]at hnod;simp only[bE,bw,List.map_nil]at hnod;rw[List.nodup_append]at hnod;have:=hnod.1;rw[List.nodup_append]at this;intro hm;exact this.2.2 _ hm _ (by simp) rfl
    have hg0:((x.Kind==2)&&(Bt x.B 0 (w64 ((((List.range b.Ad.length).map (λi=>((brs (b.Ah.take j) 2 i).length:Int))).length:Int)-1))))=false:=by
     have:(x.Kind==2)=false:=by rw[dR];omega
     rw[this];rfl
    have hg:((x.Kind==3)&&(Bt x.B 0 (w64 ((((List.range b.Ae.length).map (λi=>(brs (b.Ah.take j) 3 i).map (·.A))).length:Int)-1))))=true:=by rw[ac,dQ,Jm,ao,List.length_range,Az];omega
    dsimp only;refine ef (P:=λ_=>True) (c9 (λhn=>absurd hn.1 (by rw[hg0];simp)) λ_=>trivial) λy _=>?_;refine c6 (λhq2=>?_) (λ_=>?_)
    .simp only[Afr,ac,dQ]at hq2;omega
    refine ef (P:=λy=>y=(brs (b.Ah.take j) 3 x.B.toNat).map (·.A)) (c9 (λ_=>du (by omega)) λhn=>(Xx hg hn).elim) λy14 hy14=>?_;have hyl:y14.length<=24:=by rw[hy14,ao];have:=bc (λx=>x.Kind==3&&x.B==((x.B.toNat:Nat):Int)) (b.Ah.take j);have h1:(brs (b.Ah.take j) 3 x.B.toNat).length<=(b.Ah.take j).length:=bc _ _;have h2:=h.brl;rw[aV]at h1;omega
    refine ef (P:=λy=>y=false) (c9 (λ_=>?_) λhn=>(Xx hg hn).elim) λy16 hy16=>?_
    .rw[He _ _ (by omega)];refine eo ?_;rw[bN];intro z hz;rw[hy14]at hz;simp only[dQ];rintro rfl;exact hnot hz
    refine c6 (λhq2=>?_) (λhq2=>?_)
    .refine(du (by omega)).bind λy19 hy19=>?_;rw[hy19,←hy14];refine(d7 (by simp;omega)).bind λy21 hy21=>(dy (by omega)).bind λy23 hy23=>c7 ⟨bk λi _=>?_,?_⟩
     .rw[htk,eF (by omega),aK]
     .rw[hy23];refine bk λi hi=>?_;by_cases e:i=x.B.toNat
      .subst e;rw[eC rfl,hy21,hy14,htk,eC ⟨hk.1,hBn⟩,bE];rfl
      .rw[eF e,htk,eF (by omega),aK]
    .have hq2:=ff hq2;simp only[Ash,ac,hy16]at hq2;rw[ac]at hg;exact absurd ⟨hg,by simp⟩ hq2
  .rintro⟨us,vs⟩ ⟨hu,hv⟩;rw[ay]at hu hv;exact⟨hu,hv⟩
 .rintro⟨us,vs⟩ ⟨hu,hv⟩;dsimp only at hu hv ⊢;rw[He _ _ (by rw[hu];simp;omega)];have h0:us.any (λy=>0==y)=false:=by
   rw[bN,hu];intro z hz;obtain⟨i,hi,rfl⟩:=an.1 hz;rw[h.one i (by simpa using hi)];simp
  have h1:vs.any (λx=>(x.length:Int)==0)=false:=by rw[bN,hv];intro z hz;obtain⟨i,hi,rfl⟩:=an.1 hz;have:=h.any i (by simpa using hi);simp only[ao,dQ];intro e;exact this (bt (by omega))
  simp only[h0,ab];refine ef (P:=λy=>y=false) (c9 (λ_=>?_) λhn=>(Xx rfl hn).elim) λy hy=>eo (by rw[hy];rfl);rw[Ai7 _ (by rw[hv];simp;omega)];exact eo h1
theorem Ap2{x:B6}(h:An3 x):Aho x=true:=by obtain⟨h1,h2,h3⟩:=h;simp only[Aho,ac,Jm];omega
theorem Ai8{x:A8}(h:Apj i x)(hi:i<=1000):Ahn x (i:Int)=some true:=by
 obtain⟨h1,h2,h3,h4,h5,h6,h7⟩:=h;unfold Ahn;have hf:foldI (zT x (i:Int)) x.Needs 0 ()=some (.next ()):=by
  refine Du _ _ λj n hj=>?_;rw[aN];have hn:=h6 n (ae hj);have hjl:=(aa.1 hj).1;have hcnt:cnt 0 j=(j:Int):=Cv (by omega);have hin:Bt n 0 (w64 ((i:Int)-1))=true:=by rw[Jm,Az];omega
  unfold zT Asg;rw[hcnt,hin];cases j with
  |zero=>simp[Au,E4]
  | succ j=>
   obtain⟨p,hp⟩:∃p,x.Needs[j]?=some p:=⟨_,aj (by omega)⟩;have hlt:=h7 j p n hp hj;have e:w64 ((((j+1:Nat):Int))-1)=(j:Int):=by rw[Az];omega
   have hg:getI x.Needs (j:Int)=some p:=by unfold getI;simp[hp]
   have hd:decide (((j+1:Nat):Int)>0)=true:=dU (by omega);have hd2:decide (p>=n)=false:=by simp;omega
   rw[e,hg,hd];simp[Au,E4,hd2]
 rw[hf];have:(((((Bt x.Load 0 50000)&&(Bt x.Least 0 x.Load))&&(Bt x.B1 0 15))&&(Bt x.Thruster (-1) 7))&&(decide ((x.Needs.length:Int)<=4)))=true:=by simp only[ac,Jm,dM];omega
 simp[andThen,this]
theorem Afl(h:Av b):Ahy b=some 0:=by
 refine da ?_;unfold Ahy;have h1:=h.buses;have h2:=h.brl;have h3:=h.sol;have h4:=h.col;have h5:=h.phase;have h6:=h.freq;refine c6 (λhc=>?_) (λ_=>?_)
 .have:Bt b.Ao 1 6=true:=yN;simp only[Asw,this,aC,dM,aH,cR,false_or]at hc;omega
 refine(Ai9 h).bind λy hy=>?_;subst hy;rw[yN (x:=b.Phase),yN (x:=b.Ar)];refine ee (A:=λs=>s=true) (B:=λ(_:Unit)=>False) ?_ ?_ eq
 .refine c8 (I:=λ_ s=>s=true) rfl (λj x s hx hs=>?_) λ_ h=>h;subst hs;refine c7 ?_;rw[Ap2 (h.so x (ae hx))];rfl
 .rintro s rfl;refine ee (A:=λs=>s=true) (B:=λ(_:Unit)=>False) ?_ ?_ eq
  .refine c8 (I:=λ_ s=>s=true) rfl (λj x s hx hs=>?_) λ_ h=>h;subst hs;have hj:=(aa.1 hx).1;unfold Ali;have:Au [(true,true)] (Ahn x (cnt 0 j)) default=some true:=by
    rw[Cv (by omega),Ai8 (h.co j x hx) (by omega)];rfl
   rw[this];exact c7 rfl
  .rintro s rfl;exact eo rfl
def Ez(x:Ak):Prop:=(0<=x.State/\x.State<=3)/\(0<=x.Since/\x.Since<=2147483648)/\(0<=x.Ar/\x.Ar<=6000)/\0<=x.Phase/\x.Phase<=3599
def C1(b:Aa)(x:a_):Prop:=
 0<=x.Number/\((x.Kind=1/\x.Number<b.Ad.length)\/(x.Kind=2/\x.Number<b.Ah.length)\/(x.Kind=3/\x.Number<b.Ao)\/(x.Kind=4/\x.Number<b.Ae.length))
def R6(x y:a_):Prop:=x.Kind<y.Kind\/x.Kind=y.Kind/\x.Number<y.Number
structure E8(b:Aa)(l:List a_):Prop where
 len:l.length<=32
 mem:∀x,x∈l->C1 b x
 asc:∀(j:Nat) x y,l[j]?=some x->l[j+1]?=some y->R6 x y
def Dk(l:List Al)(c:eT)(i:Nat):List (Al×Bool):=(l.zip c).filter λz=>(z.1.Kind==3&&z.1.B==(i:Int))&&z.2
structure Ap(b:Aa)(p:Ab):Prop where
 ncl:p.Ag.length=b.Ah.length
 nso:p.Ad.length=b.Ad.length
 nli:p.Aj.length=b.Ae.length
 run:∀x,x∈p.Ad->Ez x
 lim:∀(i:Nat) n c,p.Aj[i]?=some n->b.Ae[i]?=some c->0<=n/\n<=c.Load
 one:∀i,i<b.Ae.length->(Dk b.Ah p.Ag i).length<=1
 brk:E8 b p.Ai
theorem Al6{x:Ak}(h:Ez x):W9 x=true:=by obtain⟨h1,h2,h3,h4⟩:=h;simp only[W9,ac,Jm];omega
theorem Aml(l:List Ak)(h:l.length<=9223372036854775807):W_ l=some (l.any λx=>!W9 x):=by unfold W_ Ahm;rw[Je (λy=>!W9 y) (λi y=>rfl) l h];simp only[ab,Mc]
theorem Pi(x y:Int):Jp x y=if x<y then -1 else if x>y then 1 else 0:=by grind[T8,Jp]
theorem Xu(x y:Int):Xa [x,y]=some (if x=0 then y else x):=by grind[Xa,andThen,foldI,X_]
theorem A0r(h:Av b)(hx:C1 b x):Bt x.Number 0 (w64 ((Nw b x.Kind)-1))=true:=by
 have h1:=h.buses;have h2:=h.brl;have h3:=h.sol;have h4:=h.col;obtain⟨hn,hk⟩:=hx;have hsz:∃n,Nw b x.Kind=n/\x.Number<n/\n<=100:=by unfold Nw;grind
 obtain⟨n,e,g1,g2⟩:=hsz;rw[e,Jm,Az];omega
theorem Atb(h:Av b)(hl:E8 b l):Ao7 b l=some true:=by
 have hlen:=hl.len;unfold Ao7;have hf:foldI (Aaf b l) l 0 ()=some (.next ()):=by
  refine Du _ _ λj x hj=>?_;rw[aN];have hjl:=(aa.1 hj).1;have hcnt:cnt 0 j=(j:Int):=Cv (by omega);have hin:=A0r h (hl.mem x (ae hj));unfold Aaf Asv;rw[hcnt,hin];cases j with
  |zero=>simp[Au,E4]
  | succ j=>
   obtain⟨p,hp⟩:∃p,l[j]?=some p:=⟨_,aj (by omega)⟩;have hlt:=hl.asc j p x hp hj;have e:w64 ((((j+1:Nat):Int))-1)=(j:Int):=by rw[Az];omega
   have hg:getI l (j:Int)=some p:=by unfold getI;simp[hp]
   have hd:decide (((j+1:Nat):Int)>0)=true:=dU (by omega);have ho:Xa [Jp p.Kind x.Kind,Jp p.Number x.Number]=some (-1):=by
    rw[Xu,Pi,Pi];rcases hlt with h1|⟨h1,h2⟩
    .simp[h1]
    .simp[h1,h2]
   rw[e,hg,hd];simp[Au,E4,ho]
 rw[hf];have:decide ((l.length:Int)<=32)=true:=by simp;omega
 simp[andThen,this]
theorem Oa{l:List Al}{x:Al}{v:Bool}(hx:l[j]?=some x)(hv:c[j]?=some v)(i:Nat) :
  Dk (l.take (j+1)) (c.take (j+1)) i=Dk (l.take j) (c.take j) i++if((x.Kind==3&&x.B==(i:Int))&&v)=true then [(x,v)] else []:=by
 unfold Dk;rw[Bc hx,Bc hv,List.zip_append (by grind),aY]
 congr 1;simp only[bG,List.zip_nil_right,aX,bV]
theorem Ar7(h:Av b)(hc:p.Ag.length=b.Ah.length)(i:Nat):Ao6 b p (i:Int)=some (((Dk b.Ah p.Ag i).length:Nat):Int):=by
 refine da ?_;unfold Ao6;have hb:=h.brl;refine ee (A:=λs=>s=(((Dk b.Ah p.Ag i).length:Nat):Int)) (B:=λ(_:Unit)=>False) ?_ (λs hs=>eo hs) eq;refine c8 (I:=λj s=>s=(((Dk (b.Ah.take j) (p.Ag.take j) i).length:Nat):Int)) ?_ (λj x s hx hs=>?_) λs hs=>?_
 .simp[Dk]
 .have hj:=(aa.1 hx).1;obtain⟨v,hv⟩:∃v,p.Ag[j]?=some v:=⟨_,aj (by omega)⟩;have hcnt:cnt 0 j=(j:Int):=Cv (by omega);have hg:getI p.Ag (j:Int)=some v:=by unfold getI;simp[hv]
  have hle:(Dk (b.Ah.take j) (p.Ag.take j) i).length<=24:=by have h1:(Dk (b.Ah.take j) (p.Ag.take j) i).length<=((b.Ah.take j).zip (p.Ag.take j)).length:=bc _ _;simp at h1;omega
  subst hs;unfold Alh Asu;rw[hcnt,hg,Oa hx hv];cases hk:(x.Kind==3&&x.B==(i:Int)) with
  |false=>simp only[Au,E4,Bool.false_and];exact c7 (by simp)
  | true=>
   simp only[Au,E4,bu];cases v with
   |false=>exact c7 (by simp)
   |true=>refine c7 ?_;show w64 _=_;rw[Az];simp
 grind
theorem Fs(h:Av b)(hp:Ap b p):J_ b p=some 0:=by
 refine da ?_;unfold J_;have h1:=hp.ncl;have h2:=hp.nso;have h3:=hp.nli;have h4:=h.col;have h5:=h.sol;rw[Afl h];simp only[ab];have c0:Af3 b p=false:=by simp[Af3,h1,h2,h3]
 have c1:((0:Int) != 0)=false:=rfl;rw[c1,c0,Atb h hp.brk];simp only[eB,ab];have hr:(p.Ad.any λx=>!W9 x)=false:=by rw[bN];intro x hx;rw[Al6 (hp.run x hx)];simp
 have:Au [(true,true)] (W_ p.Ad) default=some false:=by rw[Aml _ (by omega),hr];rfl
 rw[this];simp only[ab];refine ee (A:=λs=>s=true) (B:=λ(_:Unit)=>False) ?_ ?_ eq
 .refine c8 (I:=λ_ s=>s=true) rfl (λj x s hx hs=>?_) λ_ h=>h;subst hs;have hj:=(aa.1 hx).1;obtain⟨c,hc⟩:∃c,b.Ae[j]?=some c:=⟨_,aj (by omega)⟩;have hcnt:cnt 0 j=(j:Int):=Cv (by omega);have hg:getI b.Ae (j:Int)=some c:=by unfold getI;simp[hc]
  have hl:=hp.lim j x c hx hc;have hone:=hp.one j (by omega);unfold Alt;rw[hcnt,hg];have e1:Au [(true,true)] (some c) default=some c:=rfl;rw[e1];simp only[ab];have e2:(true&&Bt x 0 c.Load)=true:=by rw[yN hl];rfl
  rw[e2,Ar7 h h1];have e3:Au [(true,true)] (some (((Dk b.Ah p.Ag j).length:Nat):Int)) default=some (((Dk b.Ah p.Ag j).length:Nat):Int):=rfl;rw[e3];simp only[ab];refine c7 ?_;simp;omega
 .rintro s rfl;exact eo rfl
set_option linter.unusedVariables false
theorem Ayc(l:List a_)(p:a_):l.any (λx=>Fj p x)=Dw l p:=by unfold Dw;congr 1;funext x;unfold Fj;grind
theorem Xz(l:List a_)(p:a_)(h:l.length<=9223372036854775807:=by omega):F53 l p=some (Dw l p):=by unfold F53 Aib Ao8;rw[Je (λy=>Fj p y) (λi y=>by rw[←Jt];rfl) l h];simp only[ab,Mc,Ayc]
theorem Me(l:List a_)(p:a_):F23 l p=some (Dw l p):=by
 unfold F23;have:∀(l:List a_)(k:Nat),foldI (Ahp p) l k ()=bif Dw l p then some (.ret true) else some (.next ()):=by
  intro l;induction l with
  |nil=>intro k;rfl
  |cons x l ih=>
   intro k;unfold foldI Ahp Az8;rw[Jt];have e:Dw (x::l) p=(Fj x p || Dw l p):=rfl;rw[e];cases Fj x p with
   |true=>rfl
   |false=>exact ih (k+1)
 rw[this];cases Dw l p <;> rfl
variable{p:a_}
theorem Ic(h:p∈l):Dw l p=true:=H0.2 h
theorem Aei(h:¬p∈l):Dw l p=false:=by grind[H0]
theorem yZ(h:Dv x y=true):Nz x y=some (-1):=by unfold Nz;rw[Xu,Pi,Pi];rw[Hc]at h;grind
theorem Ar4(x:a_):Nz x x=some 0:=by unfold Nz;rw[Xu,Pi,Pi];simp
theorem Ar3{x y:A_}(h:Amt x y):Ok (Ao9 x y) (· = -1):=by
 unfold Ao9;have hc:∀a b:a_,Ok (Nz a b) λ_=>True:=λa b=>by unfold Nz;rw[Xu];exact⟨_,rfl,trivial⟩
 rcases h with h|⟨h1,h2⟩
 .refine ef (P:=λv=>v = -1) (d6 (yZ h) rfl) λv hv=>(hc _ _).bind λu _=>?_;subst hv;rw[Xu];exact eo rfl
 .rw[h1];refine ef (P:=λv=>v=0) (d6 (Ar4 _) rfl) λv hv=>ef (P:=λv=>v = -1) (d6 (yZ h2) rfl) λu hu=>?_;subst hv;subst hu;rw[Xu];exact eo rfl
theorem Akh(hl:D6 l)(hn:l.length<=1000):Xb l=some true:=by refine da ?_;unfold Xb;refine ee (A:=λ_=>True) (B:=λ_=>False) ?_ (λ_ _=>eo rfl) eq;refine d4 (λz=>1<=z/\z<=1001) (λz=>((l.length:Int)-z).toNat) _ _ ⟨by omega,by omega⟩ (by omega) λz hz=>?_;unfold Aco;refine c6 (λhc=>?_) (λ_=>d8 trivial);simp only[dM]at hc;rw[Az (n:=z-1),Az (n:=z+1)];refine(d5 (by omega) (by omega)).bind λa ha=>(d5 (by omega) hc).bind λb hb=>?_;refine ef (P:=λv=>v = -1) (d6 (yZ (We hl ha hb (by omega))) rfl) λv hv=>?_;subst hv;exact c7 ⟨by omega,by omega⟩
theorem A17{l:List A_}(hl:l.Pairwise Amt)(hn:l.length<=1000):vF l=some true:=by refine da ?_;unfold vF;refine ee (A:=λ_=>True) (B:=λ_=>False) ?_ (λ_ _=>eo rfl) eq;refine d4 (λz=>1<=z/\z<=1001) (λz=>((l.length:Int)-z).toNat) _ _ ⟨by omega,by omega⟩ (by omega) λz hz=>?_;unfold Acn;refine c6 (λhc=>?_) (λ_=>d8 trivial);simp only[dM]at hc;rw[Az (n:=z-1),Az (n:=z+1)];refine(d5 (by omega) (by omega)).bind λa ha=>(d5 (by omega) hc).bind λb hb=>?_;obtain⟨h1,e1⟩:=aa.1 ha;obtain⟨h2,e2⟩:=aa.1 hb;have:=bm.1 hl _ _ h1 h2 (by omega);rw[e1,e2]at this;refine(Ar3 this).bind λv hv=>?_;subst hv;exact c7 ⟨by omega,by omega⟩
theorem A3e(h:G3 p):Ah2 p=true:=by unfold G3 at h;simp only[Ah2,ac,dM];omega
theorem Awg(h:∀p,p∈l->G3 p)(hn:l.length<=1000):vH l=some false:=by unfold vH Ahs;rw[Je (λy=>Ah3 y) (λi y=>rfl) l (by omega)];grind[Ah3,Mc,A3e]
theorem Al0(hl:D6 l)(h:∀p,p∈l->G3 p)(hn:l.length<=1000):Aph l=some true:=by unfold Aph;rw[Awg h hn,Akh hl hn];rfl
theorem Aqt(h:Qb d):Apg d=some true:=by
 have hl:=h.len;have hk:=h.links.len;refine da ?_;unfold Apg;refine ee (A:=λ_=>True) (B:=λ_=>False) ?_ (λ_ _=>?_) eq
 .refine c8 (I:=λ_ _=>True) trivial (λj x _ hx _=>?_) λ_ _=>trivial;obtain⟨h1,h2,h3⟩:=h.links.mem x (ae hx);unfold Alv;refine ef (P:=λv=>v=true) (d6 (Xz _ _) (Ic h1)) λv hv=>?_;subst hv;refine ef (P:=λv=>v=true) (c9 (λ_=>d6 (Xz _ _) (Ic h2)) (λhn=>absurd ⟨rfl,trivial⟩ hn)) λv hv=>?_;subst hv;refine c6 (λhc=>?_) (λ_=>c7 trivial);simp only[As8,aH,Bool.or_self,aQ,Jt]at hc;exact absurd (D8.1 hc) h3
 .rw[A17 h.links.asc (by omega)];exact eo rfl
variable{s:ByteArray}
theorem A0i(h:s∈Ie):Ay7 s=some true:=by simp only[Ie,ag,List.not_mem_nil,or_false]at h;rcases h with rfl|rfl|rfl|rfl <;> kernel_rfl
theorem Aql(h:Qb d)(hl:∀p,p∈l->p∈d.Parts):vG l d=some (false,d):=by have hn:=h.len;refine da ?_;unfold vG Ahr;refine ef (P:=λy=>y=(-1,d)) ?_ (λy hy=>eo (by rw[hy];rfl));refine ee (A:=λ_=>True) (B:=λ_=>False) ?_ (λ_ _=>eo rfl) eq;refine c8 (I:=λ_ _=>True) trivial (λj x _ hx _=>?_) λ_ _=>trivial;unfold Acm Ah0;rw[Xz _ _,Ic (hl x (ae hx))];exact c7 trivial
theorem Atd{a b:ByteArray}(h:a.toList=b.toList):a=b:=by rw[ByteArray.toList_eq,ByteArray.toList_eq]at h;exact ByteArray.ext (Array.toList_inj.1 h)
theorem A3i{l:List Bu}{g:Bu}(h:∀x,x∈l->x.Name≠g.Name):vE l g=some (false,g):=by refine da ?_;unfold vE Ahq;refine ef (P:=λy=>y=(-1,g)) ?_ (λy hy=>eo (by rw[hy];rfl));refine ee (A:=λ_=>True) (B:=λ_=>False) ?_ (λ_ _=>eo rfl) eq;refine c8 (I:=λ_ _=>True) trivial (λj x _ hx _=>?_) λ_ _=>trivial;unfold Acl;refine c6 (λhc=>?_) (λ_=>c7 trivial);simp only[Ah1,dQ]at hc;exact absurd (Atd hc) (h x (ae hx))
theorem Am1(h:Qb d):Apf d=some true:=by
 have hl:=h.len;have hk:=h.groups.len;refine da ?_;unfold Apf;refine ee (A:=λ_=>True) (B:=λ_=>False) ?_ (λ_ _=>eo rfl) eq;refine c8 (I:=λ_ z=>z=(d.Parts,d.Links,d.Groups)) rfl (λj g z hg hz=>?_) λ_ _=>trivial;subst hz;obtain⟨h1,h2,h3,h4,h5⟩:=h.groups.mem g (ae hg);have hj:=(aa.1 hg).1;unfold Alu;refine ef (P:=λv=>v=true) (d6 (A0i h1) rfl) λv hv=>?_;subst hv;refine ef (P:=λv=>v=d.Groups.take j) (c9 (λ_=>(Ok.cutI (by omega) (by rw[Cv (by omega)];omega) (by rw[Cv (by omega)];dsimp only;omega)).mono λy hy=>?_) (λhn=>absurd ⟨rfl,trivial⟩ hn)) λv hv=>?_
 .rw[hy,Cv (by omega)];simp
 subst hv;refine ef (P:=λv=>v=(false,g)) (c9 (λ_=>d6 (A3i λx hx=>?_) rfl) (λhn=>absurd ⟨rfl,trivial⟩ hn)) λv hv=>?_
 .obtain⟨i,hi⟩:=bB hx;rw[aq]at hi;split at hi
  .obtain⟨q1,q2⟩:=aa.1 hi;obtain⟨q3,q4⟩:=aa.1 hg;have:=bm.1 h.groups.dist i j q1 q3 (by assumption);rw[q2,q4]at this;exact this
  .cases hi
 subst hv;have hne:((g.Parts.length:Int)==0)=false:=by
  cases e:g.Parts with
  |nil=>exact absurd e h2
  |cons a b=>grind
 refine ef (P:=λv=>v=(false,d)) (c9 (λ_=>d6 (Aql h h4) rfl) (λhn=>absurd ⟨by simp[hne],trivial⟩ hn)) λv hv=>?_;subst hv;refine ef (P:=λv=>v=true) (c9 (λ_=>d6 (Akh (l:=g.Parts) h3 (by omega)) rfl) (λhn=>absurd ⟨by simp[hne],trivial⟩ hn)) λv hv=>?_;subst hv;refine c6 (λhc=>?_) (λ_=>c7 rfl);simp[As7,hne]at hc
theorem Yn(h:Qb d):F50 d=some 0:=by
 have h1:=h.len;have h2:=h.links.len;have h3:=h.groups.len;unfold F50;have e:Anu d=false:=by simp only[Anu,aZ,dN];omega
 rw[e,Al0 h.asc h.ok (by omega),Aqt h,Am1 h];rfl
theorem Aqw(x y:a_):F29 x y=Dv x y:=rfl
theorem Aje(h:G3 p):Zw p=true:=by unfold G3 at h;simp only[Zw,ac,dM];omega
theorem Yg(hl:D6 l)(h:∀p,p∈l->G3 p)(hn:l.length<=1000):Ah9 l=some true:=by
 refine da ?_;unfold Ah9;refine ee (A:=λ_=>True) (B:=λ_=>False) ?_ (λ_ _=>eo rfl) eq;refine c8 (I:=λ_ _=>True) trivial (λj x _ hx _=>?_) λ_ _=>trivial;have hj:=(aa.1 hx).1;unfold Als;rw[Cv (by omega),Aje (h x (ae hx))];refine ef (P:=λv=>0<j->l[j-1]?=some v) (c9 (λha=>?_) (λhn hp=>absurd ⟨rfl,by simpa using hp,trivial⟩ hn)) λv hv=>c6 (λhc=>?_) (λ_=>c7 trivial)
 .have hp:0<j:=by simpa using ha.2.1
  rw[Az];refine(d5 (by omega) (by omega)).mono λy hy _=>?_;rw[←hy];congr 1;omega
 .simp only[As6,Aje (h x (ae hx)),aH,aQ,ac,aW,Aqw]at hc;rw[Cv (by omega)]at hc;simp only[dM]at hc;have:=We hl (hv (by omega)) hx (by omega);rw[hc.2]at this;cases this
theorem Apo(h:s∈Ie):Aza s=some true:=by simp only[Ie,ag,List.not_mem_nil,or_false]at h;rcases h with rfl|rfl|rfl|rfl <;> kernel_rfl
theorem Uh(h:Qb d):F59 d=some 0:=by
 have h1:=h.len;have h2:=h.links.len;have h3:=h.groups.len;refine da ?_;unfold F59;have e:Ans d=false:=by simp only[Ans,aZ,dN];omega
 rw[e,Yg h.asc h.ok (by omega)];simp only[eB,ab,aH];refine ee (A:=λ_=>True) (B:=λ_=>False) ?_ (λ_ _=>ee (A:=λ_=>True) (B:=λ_=>False) ?_ (λ_ _=>eo rfl) eq) eq
 .refine c8 (I:=λ_ _=>True) trivial (λj x _ hx _=>?_) λ_ _=>trivial;obtain⟨q1,q2,q3⟩:=h.links.mem x (ae hx);have hj:=(aa.1 hx).1;unfold At5;refine ef (P:=λv=>v=true) (d6 (Me _ _) (Ic q1)) λv hv=>?_;subst hv;refine ef (P:=λv=>v=true) (c9 (λ_=>d6 (Me _ _) (Ic q2)) (λhn=>absurd ⟨rfl,trivial⟩ hn)) λv hv=>?_;subst hv;refine c6 (λhc=>?_) (λ_=>?_)
  .simp only[Az3,aH,Bool.or_self,aQ,Jt]at hc;exact absurd (D8.1 hc) q3
  rw[Cv (by omega)];have hg:∀m:List (Bool×Bool),Ok (Au ((decide ((j:Int)>0),true)::m) (getI d.Links (w64 ((j:Int)-1))) default) λv=>0<j->Dq m->d.Links[j-1]?=some v:=λm=>by
   refine c9 (λha=>?_) (λhn hp hm=>absurd ⟨by simpa using hp,hm⟩ hn);have hp:0<j:=by simpa using ha.1
   rw[Az];refine(d5 (by omega) (by omega)).mono λy hy _ _=>?_;rw[←hy];congr 1;omega
  refine(hg _).bind λa ha=>(hg _).bind λb hb=>(hg _).bind λc hc=>c6 (λhcc=>?_) (λ_=>c7 trivial);simp only[Az2,ac,aW,aZ,Aqw]at hcc;rw[Cv (by omega)]at hcc;simp only[dM,Jt]at hcc;obtain⟨g1,g2,g3⟩:=hcc;have hj0:0<j:=by omega
  have ea:=ha hj0 trivial;have eb:=hb hj0 ⟨g2,trivial⟩;rw[ea]at eb;cases eb;obtain⟨r1,r2⟩:=aa.1 ea;obtain⟨r3,r4⟩:=aa.1 hx;have hlt:=bm.1 h.links.asc (j-1) j r1 r3 (by omega);rw[r2,r4]at hlt;rcases hlt with hlt|⟨hlt,hlt2⟩
  .rw[g2]at hlt;cases hlt
  .have et:Fj a.From x.From=true:=D8.2 hlt;have ec:=hc hj0 ⟨g2,by rw[Jt];exact et,trivial⟩;rw[ea]at ec;cases ec;rw[et,hlt2]at g3;cases g3
 .refine c8 (I:=λ_ _=>True) trivial (λj g _ hg _=>?_) λ_ _=>trivial;obtain⟨q1,q2,q3,q4,q5⟩:=h.groups.mem g (ae hg);have hj:=(aa.1 hg).1;have hne:((g.Parts.length:Int)==0)=false:=by
   cases e:g.Parts with
   |nil=>exact absurd e q2
   |cons a b=>rw[bi,dR];omega
  unfold At4;refine ef (P:=λv=>v=true) (d6 (Apo q1) rfl) λv hv=>?_;subst hv;refine ef (P:=λv=>v=true) (c9 (λ_=>d6 (Yg q3 (λp hp=>h.ok p (q4 p hp)) (by omega)) rfl) (λhn=>absurd ⟨by simp[hne],trivial⟩ hn)) λv hv=>?_;subst hv;refine c6 (λhc=>by simp[Az1,hne]at hc) (λ_=>?_);refine Ok.inner (A:=λ_=>True) (B:=λ_=>False) ?_ (λ_ _=>Ok.inner (A:=λ_=>True) (B:=λ_=>False) ?_ (λ_ _=>c7 trivial) eq) eq
  .refine c8 (I:=λ_ _=>True) trivial (λi x _ hx _=>?_) λ_ _=>trivial;unfold At3;refine ef (P:=λv=>v=true) (d6 (Me _ _) (Ic (q4 x (ae hx)))) λv hv=>?_;subst hv;exact c7 trivial
  .refine d4 (λz=>0<=z/\z<=1000) (λz=>((j:Int)-z).toNat) _ _ ⟨by omega,by omega⟩ (by omega) λz hz=>?_;unfold At2;rw[Cv (by omega)];refine c6 (λhc=>?_) (λ_=>d8 trivial);simp only[dM]at hc;rw[Az (n:=z+1)];refine(d5 hz.1 (by omega)).bind λy hy=>c6 (λhc2=>?_) (λ_=>c7 ⟨by omega,by omega⟩);obtain⟨r1,r2⟩:=aa.1 hy;obtain⟨r3,r4⟩:=aa.1 hg;have hd:=bm.1 h.groups.dist z.toNat j r1 r3 (by omega);rw[r2,r4]at hd;exact absurd (Atd (by simpa using hc2)) hd
variable{b:List a_}
theorem Sl(h:a.length+b.length<=900):F31 a b=some (Iu a b):=by
 refine da ?_;unfold F31;refine ee (A:=λz=>D6 z.2/\z.2.length<=a.length/\∀x,x∈z.2↔x∈a) (B:=λ(_:Unit)=>False) ?_ (λy hy=>ee (A:=λz=>D6 z.2/\∀x,x∈z.2↔x∈a\/x∈b) (B:=λ(_:Unit)=>False) ?_ (λz hz=>eo ?_) eq) eq
 .refine d4 (λz=>∃k:Nat,z.1=(k:Int)/\k<=a.length/\D6 z.2/\z.2.length<=k/\∀x,x∈z.2↔x∈a.take k) (λz=>((a.length:Int)-z.1).toNat) _ _ ⟨0,rfl,by omega,show D6 [] from bF,by simp,by simp⟩ (by dsimp only;omega) ?_;rintro⟨_,l⟩ ⟨k,rfl,h1,h2,h3,h4⟩;dsimp only at h2 h3 h4;unfold Aus;refine c6 (λhc=>?_) (λhc=>d8 ⟨h2,by dsimp only;omega,?_⟩)
  .simp only[dM]at hc;refine(d5 (by omega) hc).bind λx hx=>ef (P:=λv=>v=Ib x l) (d6 (Qz h2 (by omega) x) rfl) λv hv=>c7 ?_;subst hv;rw[Az];rw[ax]at hx;refine⟨⟨k+1,by omega,by omega,Ik _ h2,by have:=Mb x l;dsimp only;omega,λy=>?_⟩,by omega⟩;rw[Fx,h4,Bc hx];simp only[am,aU];exact or_comm
  .simp only[dN]at hc;have e:k=a.length:=by omega
   subst e;rw[ay]at h4;exact h4
 .obtain⟨y1,y2,y3⟩:=hy;refine d4 (λz=>∃k:Nat,z.1=(k:Int)/\k<=b.length/\D6 z.2/\z.2.length<=a.length+k/\∀x,x∈z.2↔x∈a\/x∈b.take k) (λz=>((b.length:Int)-z.1).toNat) _ _ ⟨0,rfl,by omega,y1,by simpa using y2,by simpa using y3⟩ (by dsimp only;omega) ?_;rintro⟨_,l⟩ ⟨k,rfl,h1,h2,h3,h4⟩;dsimp only at h2 h3 h4;unfold Aur;refine c6 (λhc=>?_) (λhc=>d8 ⟨h2,?_⟩)
  .simp only[dM]at hc;refine(d5 (by omega) hc).bind λx hx=>ef (P:=λv=>v=Ib x l) (d6 (Qz h2 (by omega) x) rfl) λv hv=>c7 ?_;subst hv;rw[Az];rw[ax]at hx;refine⟨⟨k+1,by omega,by omega,Ik _ h2,by have:=Mb x l;dsimp only;omega,λy=>?_⟩,by omega⟩;rw[Fx,h4,Bc hx];simp only[am,aU];constructor
   .rintro (h|h|h)
    .exact .inr (.inr h)
    .exact .inl h
    .exact .inr (.inl h)
   .rintro (h|h|h)
    .exact .inr (.inl h)
    .exact .inr (.inr h)
    .exact .inl h
  .simp only[dN]at hc;have e:k=b.length:=by omega
   subst e;rw[ay]at h4;exact h4
 .refine Iq hz.1 (Ii _) λx=>?_;unfold Iu;rw[hz.2,Jd,am]
theorem N1:x∈Iu a b↔x∈a\/x∈b:=by grind[Iu,Jd]
theorem Aly(a b:List a_):D6 (Iu a b):=Ii _
theorem Aa7:∀l:List a_,(Ke l).length<=l.length
 | []=>by simp[Ke]
 |x::l=>by have h1:=Aa7 l;have h2:=Mb x (Ke l);grind[Ke]
theorem Sk(a b:List a_):(Iu a b).length<=a.length+b.length:=by have:=Aa7 (a++b);rw[aE]at this;exact this
def J9(L:List A_)(l:List a_):Nat:=(L.filter λx=>!Dw l x.To).length
theorem A1y(L:List A_)(h:∀x,x∈l->x∈m):J9 L m<=J9 L l:=by
 unfold J9;induction L with
 |nil=>simp
 | cons x L ih=>
  rw[aX,aX];by_cases hx:x.To∈l
  .rw[Ic hx,Ic (h _ hx)];exact ih
  .rw[Aei hx];grind
theorem Akb{x:A_}{l:List a_}(hl:¬x.To∈l):∀{L:List A_},x∈L->J9 L (Ib x.To l)+1<=J9 L l
 | y::L,h=>by
  have hi:∀z,z∈l->z∈Ib x.To l:=λz hz=>(Fx _ _ _).2 (.inr hz);have hle:=A1y L hi;unfold J9 at hle ⊢;rw[aX,aX];rcases ag.1 h with e|h
  .subst e;rw[Aei hl,Ic ((Fx _ _ _).2 (.inl rfl))];simp;omega
  .have ih:=Akb hl h;unfold J9 at ih;by_cases hy:y.To∈l
   .rw[Ic hy,Ic (hi _ hy)];exact ih
   .rw[Aei hy];grind
def An7(d:A5)(b:List a_)(l:List a_):Prop:=D6 l/\(∀x,x∈l->Led d.Links b x)/\(∀x,x∈b->x∈l)/\l.length+J9 d.Links l<=b.length+d.Links.length
theorem Am7(h:Qb d)(hb:b.length<=800):F28 d b=some (Er d.Links b):=by
 have h2:=h.links.len;refine da ?_;unfold F28;rw[Sl (a:=b) (b:=[]) (by simpa using by omega),Uh h];refine ee (A:=λz=>An7 d b z.2/\∀x,x∈d.Links->x.From∈z.2->x.To∈z.2) (B:=λ(_:Unit)=>False) ?_ (λz hz=>eo ?_) eq
 .refine d4 (λz=>An7 d b z.2/\(z.1=false->∀x,x∈d.Links->x.From∈z.2->x.To∈z.2)) (λz=>2*J9 d.Links z.2+z.1.toNat) _ _ ⟨⟨Aly _ _,λx hx=>?_,λx hx=>N1.2 (.inl hx),?_⟩,λe=>by cases e⟩ ?_ ?_
  .rcases N1.1 hx with hx|hx
   .exact .at hx
   .cases hx
  .have h3:=Sk b [];have h4:J9 d.Links (Iu b [])<=d.Links.length:=bc _ _;simp only[cD,bD]at h3;dsimp only;omega
  .have h4:J9 d.Links (Iu b [])<=d.Links.length:=bc _ _;show 2*J9 d.Links (Iu b [])+1<1152921504606846976;omega
  rintro⟨m,l⟩ ⟨⟨h3,h4,h5,h6⟩,h7⟩;unfold Auz;dsimp only at h3 h4 h5 h6 h7 ⊢;refine c6 (λhc=>?_) (λhc=>d8 ⟨⟨h3,h4,h5,h6⟩,h7 hc⟩);subst hc;refine Ok.inner (A:=λz=>(An7 d b z.2/\(z.1=false->z.2=l/\∀x,x∈d.Links->x.From∈l->x.To∈l))/\2*J9 d.Links z.2+z.1.toNat<2*J9 d.Links l+1) (B:=λ(_:Unit)=>False) ?_ (λz hz=>c7 ⟨⟨hz.1.1,λe=>?_⟩,hz.2⟩) eq
  .refine c8 (I:=λj z=>(An7 d b z.2/\(z.1=false->z.2=l/\∀x,x∈d.Links.take j->x.From∈l->x.To∈l))/\2*J9 d.Links z.2+z.1.toNat<2*J9 d.Links l+1) ⟨⟨⟨h3,h4,h5,h6⟩,λ_=>⟨rfl,by simp⟩⟩,by simp only[Bool.toNat_false];omega⟩ (λj x z hx hz=>?_) λz hz=>?_
   .obtain⟨⟨⟨z1,z2,z3,z4⟩,z5⟩,z6⟩:=hz;have hxm:=ae hx;unfold Auy;refine ef (P:=λv=>v=Dw z.2 x.From) (d6 (Me _ _) rfl) λv hv=>ef (P:=λu=>v=true->u=Dw z.2 x.To) (c9 (λ_=>d6 (Me _ _) λ_=>rfl) (λhn hv=>absurd ⟨hv,trivial⟩ hn)) λu hu=>c6 (λhc=>?_) (λhc=>c7 ⟨⟨⟨z1,z2,z3,z4⟩,λe=>⟨(z5 e).1,λy hy hf=>?_⟩⟩,z6⟩)
    .simp only[ac,aW]at hc;have e1:=hu hc.1;rw[hc.2]at e1;rw[hc.1]at hv;have hfrom:=H0.1 hv.symm;have hto:¬x.To∈z.2:=λhm=>by rw[Ic hm]at e1;cases e1
     refine ef (P:=λv=>v=Ib x.To z.2) (d6 (Qz z1 (by omega) _) rfl) λv hv=>c7 ?_;subst hv;have hlt:=Akb hto hxm;have hil:=Mb x.To z.2;refine⟨⟨⟨Ik _ z1,λy hy=>?_,λy hy=>(Fx _ _ _).2 (.inr (z3 y hy)),by dsimp only;omega⟩,λe=>by cases e⟩,by simp only[Bool.toNat_true];have:z.1.toNat<=1:=Bool.toNat_le z.1;omega⟩;rcases(Fx _ _ _).1 hy with hy|hy
     .rw[hy];exact .by (z2 _ hfrom) x hxm rfl rfl
     .exact z2 y hy
    .obtain⟨e1,e2⟩:=z5 e;rw[Bc hx]at hy;rcases am.1 hy with hy|hy
     .exact e2 y hy hf
     .rw[aU.1 hy]at hf ⊢;rw[e1,Ic hf]at hv;rw[hv]at hc;simp only[bu,ch]at hc;have e3:=hu hv;rw[hc,e1]at e3;exact H0.1 e3.symm
   .rw[ay]at hz;exact hz
  .rw[(hz.1.2 e).1];exact(hz.1.2 e).2
 .obtain⟨⟨z1,z2,z3,_⟩,z4⟩:=hz;refine Iq z1 (Ob _ _) λx=>?_;rw[Te];refine⟨z2 x,λhx=>?_⟩;induction hx with
  | «at» h=>exact z3 _ h
  | «by» _ x hx e1 e2 ih=>subst e2;exact z4 x hx (e1 ▸ ih)
theorem K6(x lo hi:Int):Cj x lo hi=true↔lo<=x/\x<=hi:=by simp[Cj]
variable{b:Aa}
theorem Tf(h:Av b)(x:a_):Qx b x=true↔C1 b x:=by
 have h1:=h.buses;have h2:=h.brl;have h3:=h.sol;have h4:=h.col;unfold Qx C1;rw[Az (n:=(b.Ad.length:Int)-1),Az (n:=(b.Ah.length:Int)-1),Az (n:=b.Ao-1),Az (n:=(b.Ae.length:Int)-1)];by_cases k1:x.Kind=1
 .rw[dQ.2 k1,ez,K6];omega
 rw[dR.2 k1,eB];by_cases k2:x.Kind=2
 .rw[dQ.2 k2,ez,K6];omega
 rw[dR.2 k2,eB];by_cases k3:x.Kind=3
 .rw[dQ.2 k3,ez,K6];omega
 rw[dR.2 k3,eB];by_cases k4:x.Kind=4
 .rw[dQ.2 k4,ez,K6];omega
 grind
theorem Aew{l:List Al}:∀{c d:eT},c.length=d.length->(∀k:Nat,c[k]?=some true->d[k]?=some true)->∀i,(Dk l c i).length<=(Dk l d i).length:=by
 induction l with
 |nil=>intro c d _ _ i;simp[Dk]
 | cons x l ih=>
  intro c d hl h i;cases c with
  |nil=>simp[Dk]
  | cons v c=>cases d with
   |nil=>simp at hl
   |cons u d=>
    have:=ih (c:=c) (d:=d) (by simpa using hl) (λk hk=>by have:=h (k+1) (by simpa using hk);simpa using this) i;have h0:v=true->u=true:=λe=>by have:=h 0 (by simp[e]);simpa using this
    unfold Dk at this ⊢;simp only[bG,aX];grind
theorem Awb(h:Av b)(hs0:A2 s0) :
  Ok (whileN (Xi b) 1152921504606846976 (0,s0.L,s0.At,([]:eT))) (D1 (λs=>A2 ⟨s.2.1,s.2.2.1⟩/\s.2.2.2.length=b.Ah.length) (λ(_:Unit)=>False)):=by
 have hb:=h.brl;refine d4 (λs=>(0<=s.1/\s.1<=(b.Ah.length:Int))/\A2 ⟨s.2.1,s.2.2.1⟩/\(s.2.2.2.length:Int)=s.1) (λs=>((b.Ah.length:Int)-s.1).toNat) _ _ ?_ ?_ ?_
 .exact⟨by dsimp only;omega,hs0,by simp⟩
 .dsimp only;omega
 .rintro⟨i,L,a,l⟩ ⟨⟨h1,h2⟩,h4,h5⟩;dsimp only at h1 h2 h4 h5;unfold Xi Afz;refine c6 (λh=>?_) (λh=>?_)
  .simp only[dM]at h;have e:w64 (i+1)=i+1:=Az;dsimp only;rw[e];refine(Df h4 2 (by omega) (by omega)).bind λu hu=>(d7 (by simp;omega)).bind λm hm=>c7 ?_;subst hm;exact⟨⟨by dsimp only;omega,hu.1,by simp;omega⟩,by dsimp only;omega⟩
  .simp only[dN]at h;exact d8 ⟨h4,by dsimp only;omega⟩
theorem Bl{l:List α}{x:α}(h:l[j]?=some x):getI l (j:Int)=some x:=by unfold getI;simp[h]
theorem Yy{l:List α}{x:α}(h:j<l.length):setI l (j:Int) x=some (l.set j x):=by grind[setI]
theorem Av9(h:Av b)(hn:n=(i:Int))(hc:c.length=b.Ah.length)(w:Int×eT)(hw:w.1=n) :
  Ok (foldI (Xg w) b.Ah 0 (true,c)) (D1 (λs=>s.2.length=b.Ah.length/\(∀k:Nat,s.2[k]?=some true->c[k]?=some true)/\(Dk b.Ah s.2 i).length<=1) (λ(_:Unit)=>False)):=by
 have hb:=h.brl;refine c8 (I:=λj s=>s.2.length=b.Ah.length/\(∀k:Nat,s.2[k]?=some true->c[k]?=some true)/\(s.1=true->Dk (b.Ah.take j) (s.2.take j) i=[])/\(Dk (b.Ah.take j) (s.2.take j) i).length<=1) ?_ (λj x s hx hs=>?_) λs hs=>?_
 .exact⟨hc,λ_ h=>h,λ_=>by simp[Dk],by simp[Dk]⟩
 .obtain⟨f,d⟩:=s;obtain⟨h1,h2,h3,h4⟩:=hs;dsimp only at h1 h2 h3 h4;have hj:=(aa.1 hx).1;obtain⟨v,hv⟩:∃v,d[j]?=some v:=⟨_,aj (by omega)⟩;have hcnt:cnt 0 j=(j:Int):=Cv (by omega);unfold Xg Ab1;dsimp only;rw[hcnt,Bl hv,Yy (by omega),hw,hn];cases hk:(x.Kind==3&&x.B==(i:Int)) with
  |false=>
   simp only[Au,E4,Bool.false_and];refine c7 ⟨h1,h2,λe=>?_,?_⟩ <;> dsimp only <;> rw[Oa hx hv,hk]
   .simpa using h3 e
   .simpa using h4
  | true=>
   simp only[Au,E4,bu];cases v with
   |false=>
    refine c7 ⟨h1,h2,λe=>?_,?_⟩ <;> dsimp only <;> rw[Oa hx hv,hk]
    .simpa using h3 e
    .simpa using h4
   | true=>
    have hset:(d.set j f)[j]?=some f:=by rw[bT (by omega)]
    have htake:(d.set j f).take j=d.take j:=by rw[List.take_set_of_le (af j)]
    refine c7 ⟨by simpa using h1,λk hk2=>?_,λe=>?_,?_⟩
    .grind
    .cases e
    .dsimp only;rw[Oa hx hset,hk,htake];cases f with
     |false=>simpa using h4
     |true=>simp[h3 rfl]
 grind
theorem Awa(h:Av b)(hc:c.length=b.Ah.length) :
  Ok (whileN (Xh b) 1152921504606846976 (0,c)) (D1 (λs=>s.2.length=b.Ah.length/\∀i,i<b.Ae.length->(Dk b.Ah s.2 i).length<=1) (λ(_:Unit)=>False)):=by
 have hco:=h.col;refine d4 (λs=>(0<=s.1/\s.1<=(b.Ae.length:Int))/\s.2.length=b.Ah.length/\∀i:Nat,(i:Int)<s.1->(Dk b.Ah s.2 i).length<=1) (λs=>((b.Ae.length:Int)-s.1).toNat) _ _ ?_ ?_ ?_
 .grind
 .dsimp only;omega
 .rintro⟨n,d⟩ ⟨⟨h1,h2⟩,h3,h4⟩;dsimp only at h1 h2 h3 h4;unfold Xh Afy;refine c6 (λhq=>?_) (λhq=>?_)
  .simp only[dM]at hq;have e:w64 (n+1)=n+1:=Az;dsimp only;refine(Av9 h (n:=n) (i:=n.toNat) (by omega) h3 (n,d) rfl).inner (λs hs=>?_) eq;rw[e];obtain⟨g1,g2,g3⟩:=hs;refine c7 ⟨⟨by dsimp only;omega,g1,λi hi=>?_⟩,by dsimp only;omega⟩;dsimp only at hi ⊢;by_cases e:(i:Int)=n
   .have:i=n.toNat:=by omega
    subst this;exact g3
   .exact aA (Aew (by omega) g2 i) (h4 i (by omega))
  .simp only[dN]at hq;exact d8 ⟨h3,λi hi=>h4 i (by omega)⟩
theorem Av8(h:Av b)(hs0:A2 s0) :
  Ok (whileN (Xf b) 1152921504606846976 (0,s0.L,s0.At,([]:List Ak))) (D1 (λs=>A2 ⟨s.2.1,s.2.2.1⟩/\s.2.2.2.length=b.Ad.length/\∀x,x∈s.2.2.2->Ez x/\x.Since<=4) (λ(_:Unit)=>False)):=by
 have hb:=h.sol;refine d4 (λs=>(0<=s.1/\s.1<=(b.Ad.length:Int))/\A2 ⟨s.2.1,s.2.2.1⟩/\(s.2.2.2.length:Int)=s.1/\∀x,x∈s.2.2.2->Ez x/\x.Since<=4) (λs=>((b.Ad.length:Int)-s.1).toNat) _ _ ?_ ?_ ?_
 .exact⟨by dsimp only;omega,hs0,by simp,λx hx=>by simp at hx⟩
 .dsimp only;omega
 .rintro⟨i,L,a,l⟩ ⟨⟨h1,h2⟩,h4,h5,h6⟩;dsimp only at h1 h2 h4 h5 h6;unfold Xf Ab0;refine c6 (λh=>?_) (λh=>?_)
  .simp only[dM]at h;have e:w64 (i+1)=i+1:=Az;dsimp only;rw[e];refine(C8 h4 _ (by simp) (by simp)).bind λu hu=>(Df hu.1 5 (by omega) (by omega)).bind λv hv=>(C8 hv.1 _ (by simp) (by simp)).bind λp hp=>(C8 hp.1 _ (by simp) (by simp)).bind λq hq=>(d7 (by simp;omega)).bind λm hm=>c7 ?_;subst hm;have g1:u.1=0\/u.1=1\/u.1=2\/u.1=2\/u.1=2\/u.1=3:=by simpa using hu.2
   have g2:=hv.2;have g3:p.1=5000\/p.1=5000\/p.1=5005\/p.1=4950:=by simpa using hp.2
   have g4:q.1=0\/q.1=0\/q.1=40\/q.1=1800\/q.1=3590:=by simpa using hq.2
   refine⟨⟨by dsimp only;omega,hq.1,by simp;omega,λx hx=>?_⟩,by dsimp only;omega⟩;rcases am.1 hx with hx|hx
   .exact h6 x hx
   .simp at hx;subst hx;exact⟨⟨by dsimp only;omega,by dsimp only;omega,by dsimp only;omega,by dsimp only;omega⟩,by dsimp only;omega⟩
  .simp only[dN]at h;exact d8 ⟨h4,by dsimp only;omega,h6⟩
theorem Av7(h:Av b)(hs0:A2 s0) :
  Ok (foldI Xe b.Ae 0 (s0.L,s0.At,([]:eQ))) (D1 (λs=>A2 ⟨s.1,s.2.1⟩/\s.2.2.length=b.Ae.length/\∀(i:Nat) n c,s.2.2[i]?=some n->b.Ae[i]?=some c->0<=n/\n<=c.Load) (λ(_:Unit)=>False)):=by
 have hb:=h.col;refine c8 (I:=λj s=>A2 ⟨s.1,s.2.1⟩/\s.2.2.length=j/\∀(i:Nat) n c,s.2.2[i]?=some n->b.Ae[i]?=some c->0<=n/\n<=c.Load) ?_ (λj x s hx hs=>?_) λs hs=>hs
 .exact⟨hs0,rfl,λi n c hn=>by simp at hn⟩
 .obtain⟨L,a,l⟩:=s;obtain⟨h1,h2,h3⟩:=hs;dsimp only at h1 h2 h3;have hj:=(aa.1 hx).1;unfold Xe;dsimp only;refine(C8 h1 _ (by simp) (by simp)).bind λu hu=>(d7 (by simp;omega)).bind λm hm=>c7 ⟨hu.1,?_,λi n c hn hc=>?_⟩
  .subst hm;simp[h2]
  .dsimp only at hn;subst hm;rw[cM]at hn;split at hn
   .exact h3 i n c hn hc
   .rename_i hi;have hlt:=(aa.1 hn).1;simp at hlt;have:i=j:=by omega
    subst this;rw[hx]at hc;cases hc;rw[h2]at hn;simp at hn;subst hn;obtain⟨g1,g2,_⟩:=h.co _ x hx;have g3:=Avt (x:=x.Load) (by omega) (by omega);grind
theorem Av6(h:Av b)(hs0:A2 s0) :
  Ok (whileN (Xd b) 7 (1,s0.L,s0.At,([]:List a_))) (D1 (λs=>A2 ⟨s.2.1,s.2.2.1⟩/\E8 b s.2.2.2/\s.2.2.2.length<=4) (λ(_:Unit)=>False)):=by
 refine d4 (λs=>(1<=s.1/\s.1<=5)/\A2 ⟨s.2.1,s.2.2.1⟩/\((s.2.2.2.length:Int)<s.1)/\(∀x,x∈s.2.2.2->C1 b x/\x.Kind<s.1)/\∀(j:Nat) x y,s.2.2.2[j]?=some x->s.2.2.2[j+1]?=some y->R6 x y) (λs=>(5-s.1).toNat) _ _ ?_ ?_ ?_
 .exact⟨by dsimp only;omega,hs0,by simp,λx hx=>by simp at hx,λj x y hx=>by simp at hx⟩
 .dsimp only;omega
 .rintro⟨i,L,a,l⟩ ⟨⟨h1,h2⟩,h4,h5,h6,h7⟩;dsimp only at h1 h2 h4 h5 h6 h7;unfold Xd;refine c6 (λhq=>?_) (λhq=>?_)
  .simp only[dM]at hq;have e:w64 (i+1)=i+1:=Az;dsimp only;rw[e];have skip:∀{u:Af},A2 u->Ok (some (.next (i+1,u.L,u.At,l)):Option (Ctl (Int×eQ×Int×List a_) Unit)) (I7 (λs=>((1<=s.1/\s.1<=5)/\A2 ⟨s.2.1,s.2.2.1⟩/\((s.2.2.2.length:Int)<s.1)/\(∀x,x∈s.2.2.2->C1 b x/\x.Kind<s.1)/\∀(j:Nat) x y,s.2.2.2[j]?=some x->s.2.2.2[j+1]?=some y->R6 x y)/\(5-s.1).toNat<(5-i).toNat) (λs=>A2 ⟨s.2.1,s.2.2.1⟩/\E8 b s.2.2.2/\s.2.2.2.length<=4) (λ_=>False)):=λhu=>
    c7 ⟨⟨by dsimp only;omega,hu,by dsimp only;omega,λx hx=>⟨(h6 x hx).1,by have:=(h6 x hx).2;dsimp only;omega⟩,h7⟩,by dsimp only;omega⟩
   refine(Df h4 5 (by omega) (by omega)).bind λu hu=>c6 (λ_=>?_) (λ_=>skip hu.1);refine(Df hu.1 4 (by omega) (by omega)).bind λv hv=>c6 (λhe=>?_) (λ_=>skip hv.1);rw[Tf h]at he;refine(d7 (by simp;omega)).bind λm hm=>c7 ?_;subst hm;refine⟨⟨by dsimp only;omega,hv.1,by simp;omega,λx hx=>?_,λj x y hx hy=>?_⟩,by dsimp only;omega⟩
   .rcases am.1 hx with hx|hx
    .exact⟨(h6 x hx).1,by have:=(h6 x hx).2;dsimp only;omega⟩
    .simp at hx;subst hx;exact⟨he,by dsimp only;omega⟩
   .dsimp only at hx hy;have hyl:=(aa.1 hy).1;simp at hyl;rw[aD (by omega)]at hx;rw[cM]at hy;split at hy
    .exact h7 j x y hx hy
    .rename_i hn;have e0:j+1-l.length=0:=by omega
     rw[e0]at hy;simp at hy;subst hy;exact .inl (h6 x (ae hx)).2
  .simp only[dN]at hq;exact d8 ⟨h4,⟨by dsimp only;omega,λx hx=>(h6 x hx).1,h7⟩,by dsimp only;omega⟩
variable{s:Af}
theorem Ati(h:Av b)(hs:A2 s):Ok (Xj s b) λy=>((Ap b y.1/\y.1.Ai.length<=4)/\A2 y.2)/\∀x,x∈y.1.Ad->x.Since<=4:=by unfold Xj;refine(Awb h hs).andThen (λs0 h0=>?_) eq;refine(Awa h h0.2).andThen (λs1 h1=>?_) eq;refine(Av8 h h0.1).andThen (λs3 h3=>?_) eq;refine(Av7 h h3.1).andThen (λs4 h4=>?_) eq;refine(Av6 h h4.1).andThen (λs5 h5=>?_) eq;exact eo ⟨⟨⟨⟨h1.1,h3.2.1,h4.2.1,λx hx=>(h3.2.2 x hx).1,h4.2.2,h1.2,h5.2.1⟩,h5.2.2⟩,h5.1⟩,λx hx=>(h3.2.2 x hx).2⟩
theorem Ayj(h:Av b)(hs:A2 s):Ok (Xj s b) λy=>(Ap b y.1/\y.1.Ai.length<=4)/\A2 y.2:=(Ati h hs).mono λ_ hy=>hy.1
def E6(b:Aa)(p:Ab)(k i:Int):Option Int:=((b.Ah.zip p.Ag).find? λz=>(z.1.Kind==k&&z.1.B==i)&&z.2).map (·.1.A)
def E2(o:Option Int):Int×Bool:=match o with
 |some a=>(a,true)
 |none=>(0,false)
theorem Aee{p:Ab}{k i:Int}:∀(l:List Al)(c:eT)(n:Nat),n+l.length<=9223372036854775807->l.length=c.length->p.Ag.drop n=c ->
  foldI (zQ p k i) l n ()=match ((l.zip c).find? λz=>(z.1.Kind==k&&z.1.B==i)&&z.2) with
   |some z=>some (.ret (z.1.A,true))
   |none=>some (.next ())
 | [],c,n,_,_,_=>by simp[foldI]
 |x::l,[],n,_,h,_=>by simp at h
 | x::l,v::c,n,hn,h,hd=>by
  simp only[bi]at hn h;have hv:p.Ag[n]?=some v:=by have:=congrArg (·[0]?) hd;simpa[List.getElem?_drop]using this
  have hd':p.Ag.drop (n+1)=c:=by rw[←bC,hd];rfl
  have ih:=Aee (p:=p) (k:=k) (i:=i) l c (n+1) (by omega) (by omega) hd';have hcnt:cnt 0 n=(n:Int):=Cv (by omega);simp only[foldI,zQ,Asf,hcnt,Bl hv,bG,List.find?_cons];cases hk:(x.Kind==k&&x.B==i) with
  |false=>simpa[Au,E4]using ih
  |true=>
   cases v with
   |false=>simpa[Au,E4]using ih
   |true=>simp[Au,E4]
variable{p:Ab}
theorem Aqx(h:Av b)(hc:p.Ag.length=b.Ah.length)(k i:Int):Ahd b p k i=some (E2 (E6 b p k i)):=by
 have hb:=h.brl;unfold Ahd;rw[Aee b.Ah p.Ag 0 (by omega) (by omega) rfl];unfold E6;cases (b.Ah.zip p.Ag).find? λz=>(z.1.Kind==k&&z.1.B==i)&&z.2 with
 |none=>rfl
 |some z=>rfl
theorem Aex(h:Av b)(hc:p.Ag.length=b.Ah.length)(i:Int):zU b p i=some (E2 (E6 b p 3 i)):=by unfold zU;rw[Aqx h hc];rfl
def F6(b:Aa)(p:Ab)(i:Int):Option Int:=
 if 0<=i/\i<p.Ad.length/\(p.Ad.getD i.toNat default).State=2 then E6 b p 2 i else none
theorem V4(h:Av b)(hp:Ap b p)(i:Int):zV b p i=some (E2 (F6 b p i)):=by
 have hs:=h.sol;have hn:=hp.nso;refine da ?_;unfold zV;have e1:w64 ((p.Ad.length:Int)-1)=(p.Ad.length:Int)-1:=Az;by_cases hi:0<=i/\i<p.Ad.length
 .have hin:Bt i 0 (w64 ((p.Ad.length:Int)-1))=true:=by rw[e1];exact yN
  obtain⟨x,hx⟩:∃x,p.Ad[i.toNat]?=some x:=⟨_,aj (by omega)⟩;have hg:getI p.Ad i=some x:=by have:=Bl hx;rwa [bh hi.1]at this
  have hd:p.Ad.getD i.toNat default=x:=by simp[List.getD,hx]
  rw[hin,hg];refine ef (P:=λy=>y=x) (c9 (λ_=>eo rfl) λhn=>(hn ⟨rfl,trivial⟩).elim) λy hy=>?_;subst hy;unfold F6;refine c6 (λhc=>?_) (λhc=>?_)
  .simp only[qX,hin,aC,aH,cR,false_or,bne_iff_ne,ne_eq]at hc;rw[hd,eF (λhh=>hc hh.2.2)];exact eo rfl
  .have hc:=ff hc;simp only[qX,hin,aC,aH,cR,false_or,bne_iff_ne,ne_eq,Decidable.not_not]at hc;rw[hd,eC ⟨hi.1,hi.2,hc⟩,Aqx h hp.ncl];exact eo rfl
 .have hin:Bt i 0 (w64 ((p.Ad.length:Int)-1))=false:=by
   cases hq:Bt i 0 (w64 ((p.Ad.length:Int)-1)) with
   |false=>rfl
   |true=>rw[Jm,e1]at hq;omega
  rw[hin];unfold F6;rw[eF (λhh=>hi ⟨hh.1,hh.2.1⟩)];refine ef (P:=λ_=>True) (c9 (λhg=>absurd hg.1 (by simp)) λ_=>trivial) λy _=>?_;refine c6 (λ_=>eo rfl) (λhc=>?_);simp[qX,hin]at hc
variable{a i:Int}
theorem O6(h:Av b)(e:E6 b p k i=some a):0<=a/\a<b.Ao:=by unfold E6 at e;rw[bW]at e;obtain⟨z,hz,rfl⟩:=e;exact(h.br z.1 (bX (List.mem_of_find?_eq_some hz)).1).1
theorem Tq(h:Av b)(e:F6 b p i=some a):0<=a/\a<b.Ao:=by
 unfold F6 at e;split at e
 .exact O6 h e
 .cases e
def F0(s:eQ)(z:Al×Bool):eQ:=
 if z.1.Kind=1/\z.2=true then (s.set z.1.A.toNat (min (s.getD z.1.A.toNat 0) (s.getD z.1.B.toNat 0))).set z.1.B.toNat (min (s.getD z.1.A.toNat 0) (s.getD z.1.B.toNat 0)) else s
def Ds(l:List (Al×Bool))(s:eQ):eQ:=l.foldl F0 s
def Dz(n:Nat):eQ:=(List.range n).map λ(i:Nat)=>(i:Int)
def groups(b:Aa)(p:Ab):eQ:=(List.range b.Ao.toNat).foldl (λs _=>Ds (b.Ah.zip p.Ag) s) (Dz b.Ao.toNat)
theorem Gm(s:eQ)(z:Al×Bool):(F0 s z).length=s.length:=by unfold F0;split <;> simp
theorem Hn(l:List (Al×Bool)):∀s:eQ,(Ds l s).length=s.length:=by
 induction l with
 |nil=>intro s;rfl
 |cons z l ih=>grind[Ds,Gm]
theorem Qk{b:Aa}{p:Ab}{n:Nat}:∀(xs:eR)(s:eQ),s.length=n->(xs.foldl (λs _=>Ds (b.Ah.zip p.Ag) s) s).length=n
 | [],s,h=>h
 |_::xs,s,h=>Qk xs _ (by rw[Hn];exact h)
theorem Kf(b:Aa)(p:Ab):(groups b p).length=b.Ao.toNat:=Qk _ _ (by simp[Dz])
variable{s:eQ}
theorem Aw4(h:Av b)(hc:p.Ag.length=b.Ah.length)(hs:s.length=b.Ao.toNat) :
  Ok (foldI (zW p) b.Ah 0 s) (D1 (λr=>r=Ds (b.Ah.zip p.Ag) s) (λ(_:Unit)=>False)):=by
 have hb:=h.brl;have hbu:=h.buses;refine c8 (I:=λj r=>r=Ds ((b.Ah.take j).zip (p.Ag.take j)) s) (by simp[Ds]) (λj x r hx hr=>?_) λr hr=>?_
 .have hj:=(aa.1 hx).1;obtain⟨v,hv⟩:∃v,p.Ag[j]?=some v:=⟨_,aj (by omega)⟩;have hcnt:cnt 0 j=(j:Int):=Cv (by omega);have hl:r.length=b.Ao.toNat:=by rw[hr,Hn,hs]
  have hnext:Ds ((b.Ah.take (j+1)).zip (p.Ag.take (j+1))) s=F0 r (x,v):=by rw[Bc hx,Bc hv,List.zip_append (by simp;omega)];unfold Ds at hr ⊢;rw[aI,←hr];rfl
  rw[hnext];unfold zW;rw[hcnt,Bl hv];obtain⟨⟨a0,a1⟩,hk⟩:=h.br x (ae hx);by_cases k1:x.Kind=1
  .rw[dQ.2 k1];refine ef (P:=λy=>y=v) (c9 (λ_=>eo rfl) λhn=>(hn ⟨rfl,trivial⟩).elim) λy hy=>?_;subst hy;have hB:x.A<x.B/\x.B<b.Ao:=by omega
   cases y with
   |false=>refine c6 (λhq=>by simp at hq) (λ_=>c7 ?_);simp[F0]
   |true=>refine c6 (λ_=>?_) (λhq=>by simp at hq);refine(d5 a0 (by omega)).bind λu hu=>(d5 (by omega) (by omega)).bind λw hw=>(d9 a0).bind λt ht=>?_;subst ht;refine(d5 (by omega) (by simp;omega)).bind λ_ _=>(d9 (by omega) (by simp;omega)).bind λt ht=>c7 ?_;subst ht;simp[F0,k1,List.getD,hu,hw]
  .rw[dR.2 k1];refine ef (P:=λ_=>True) (c9 (λhg=>absurd hg.1 (by simp)) λ_=>trivial) λy _=>?_;refine c6 (λhq=>by simp at hq) (λ_=>c7 ?_);simp[F0,k1]
 grind
theorem Aq5(h:Av b)(hc:p.Ag.length=b.Ah.length):Aht b p=some (groups b p):=by
 have hbu:=h.buses;refine da ?_;unfold Aht;refine(Ok.mkI (by omega) (by omega)).bind λy hy=>?_;refine ee (A:=λs=>s=Dz b.Ao.toNat) (B:=λ(_:Unit)=>False) ?_ ?_ eq
 .refine c8 (I:=λj s=>s=(List.range b.Ao.toNat).map λi=>if i<j then (i:Int) else 0) ?_ (λj x s hx hs=>?_) λs hs=>?_
  .rw[hy,P0];exact bk λi _=>by simp
  .have hj:=(aa.1 hx).1;have hjl:j<b.Ao.toNat:=by rw[hy]at hj;simpa using hj
   have hcnt:cnt 0 j=(j:Int):=Cv (by omega);subst hs;unfold Akx;rw[hcnt];refine(du (by omega)).bind λ_ _=>(dy (by omega)).bind λz hz=>c7 ?_;grind
  .rw[hs];unfold Dz;refine bk λi hi=>?_;rw[hy];simp at hi;simp[hi]
 .rintro s rfl;refine ee (A:=λs=>s=groups b p) (B:=λ(_:Unit)=>False) ?_ (λs hs=>eo hs) eq;refine c8 (I:=λj s=>s=(List.range j).foldl (λs _=>Ds (b.Ah.zip p.Ag) s) (Dz b.Ao.toNat)) rfl (λj x s hx hs=>?_) λs hs=>?_
  .unfold Akw;have hl:s.length=b.Ao.toNat:=by rw[hs];exact Qk _ _ (by simp[Dz])
   refine(Aw4 h hc hl).inner (λr hr=>c7 ?_) eq;rw[hr,ci,aI,←hs];rfl
  .rw[hs];unfold groups;congr 2;simp[Dz]
theorem Aw3(h:∀(i:Nat) v,s[i]?=some v->0<=v/\v<=i)(hz:z.1.Kind=1->0<=z.1.A/\z.1.A<z.1.B/\z.1.B<s.length):∀(i:Nat) v,(F0 s z)[i]?=some v->0<=v/\v<=i:=by unfold F0;grind
theorem Abm{n:Nat}:∀(l:List (Al×Bool))(s:eQ),s.length=n->(∀z,z∈l->z.1.Kind=1->0<=z.1.A/\z.1.A<z.1.B/\z.1.B<n)->(∀(i:Nat) v,s[i]?=some v->0<=v/\v<=i)->∀(i:Nat) v,(Ds l s)[i]?=some v->0<=v/\v<=i
 | [],s,_,_,h=>h
 |z::l,s,hs,hz,h=>Abm l (F0 s z) (by rw[Gm];exact hs) (λy hy=>hz y (al _ hy)) (Aw3 h (by rw[hs];exact hz z ai))
theorem Vn(h:Av b)(p:Ab):∀(i:Nat) v,(groups b p)[i]?=some v->0<=v/\v<=i:=by
 have hbu:=h.buses;have hz:∀z,z∈b.Ah.zip p.Ag->z.1.Kind=1->0<=z.1.A/\z.1.A<z.1.B/\z.1.B<(b.Ao.toNat:Int):=by intro z hz hk;have:=h.br z.1 (bX hz).1;unfold Uc at this;omega
 have key:∀(xs:eR)(s:eQ),s.length=b.Ao.toNat->(∀(i:Nat) v,s[i]?=some v->0<=v/\v<=i)->∀(i:Nat) v,(xs.foldl (λs _=>Ds (b.Ah.zip p.Ag) s) s)[i]?=some v->0<=v/\v<=i:=by
  intro xs;induction xs with
  |nil=>intro s _ h;exact h
  |cons x xs ih=>intro s hl h;exact ih _ (by rw[Hn];exact hl) (Abm _ s hl hz h)
 refine key _ _ (by simp[Dz]) ?_;intro i v hv;simp only[Dz,aB]at hv;grind
def Km(x:An):Bool:=!((x.Ao.length:Int)==0)
theorem Axf(l:List An)(h:l.length<=9223372036854775807):uZ l=some (Il (λx=>(x.Ao.length:Int)==0) l):=by unfold uZ;exact Je (λx:An=>(x.Ao.length:Int)==0) (λi y=>rfl) l h
theorem A1q(l:List An)(hl:l.length<=1000):Sd l=some (l.filter Km):=by
 refine da ?_;unfold Sd;rw[Axf l (by omega)];simp only[ab];unfold Il;cases hf:l.findIdx? λx=>(x.Ao.length:Int)==0 with
 |none=>rw[cS]at hf;refine c6 (λ_=>eo ?_) (λhc=>by simp at hc);rw[eq_comm,cd];intro x hx;simp only[Km,hf x hx];rfl
 | some i=>
  rw[cj]at hf;obtain⟨hi,hp,hn⟩:=hf;refine c6 (λhc=>?_) (λ_=>?_)
  .simp only[dQ]at hc;omega
  have e1:w64 ((i:Int)+1)=(i:Int)+1:=Az;simp only[e1];refine ee (A:=λs=>0<=s.1/\s.1<=(l.length:Int)/\s.2.2.length=l.length/\s.2.2.take s.1.toNat=l.filter Km) (B:=λ(_:Unit)=>False) ?_ ?_ eq
  .refine d4 (λs=>(0<=s.1/\s.1<s.2.1/\s.2.1<=(l.length:Int))/\s.2.2.length=l.length/\s.2.2.take s.1.toNat=(l.take s.2.1.toNat).filter Km/\s.2.2.drop s.2.1.toNat=l.drop s.2.1.toNat) (λs=>((l.length:Int)-s.2.1).toNat) _ _ ?_ ?_ ?_
   .refine⟨by dsimp only;omega,rfl,?_,rfl⟩;dsimp only;have e2:((i:Int)+1).toNat=i+1:=by omega
    rw[e2,ax,Bc (aj hi),aY];have h1:(l.take i).filter Km=l.take i:=by rw[cd];intro x hx;obtain⟨j,hj,rfl⟩:=cw hx;simp only[aV]at hj;rw[List.getElem_take];have:=hn j (by omega);simp only[Km];simpa using this
    have h2:Km l[i]=false:=by simp only[Km,hp];rfl
    rw[h1];simp[h2]
   .dsimp only;omega
   .rintro⟨a,j,m⟩ ⟨⟨h1,h2,h3⟩,h4,h5,h6⟩;dsimp only at h1 h2 h3 h4 h5 h6;unfold W5 Afu;dsimp only;refine c6 (λhq=>?_) (λhq=>?_)
    .simp only[dM]at hq;have e1:w64 (j+1)=j+1:=Az;have e2:w64 (a+1)=a+1:=Az;have e3:(j+1).toNat=j.toNat+1:=by omega
     have e4:(a+1).toNat=a.toNat+1:=by omega
     refine(d5 (by omega) (by omega)).bind λy hy=>?_;have hyl:l[j.toNat]?=some y:=by have:=congrArg (·[0]?) h6;simp only[aw,bD]at this;rw[←this];exact hy
     have hdrop:∀(q:List An),q.drop j.toNat=l.drop j.toNat->q.drop (j.toNat+1)=l.drop (j.toNat+1):=λq hq=>by rw[←bC,hq,bC]
     refine c6 (λhf=>?_) (λhf=>?_)
     .refine(d5 (by omega) (by omega)).bind λ_ _=>(d9 (by omega)).bind λz hz=>?_;rw[e1,e2];subst hz;refine c7 ⟨⟨by dsimp only;omega,by simpa using h4,?_,?_⟩,by dsimp only;omega⟩
      .dsimp only;rw[e3,e4,Bc hyl,aY,←h5];have hfl:Km y=true:=hf;rw[Bc (x:=y) (by rw[bT (by omega)])];simp[hfl,List.take_set_of_le]
      .dsimp only;rw[e3,List.drop_set_of_lt (by omega)];exact hdrop m h6
     .rw[e1];refine c7 ⟨⟨by dsimp only;omega,h4,?_,?_⟩,by dsimp only;omega⟩
      .dsimp only;have hfl:Km y=false:=hf;rw[e3,Bc hyl,aY,←h5];simp[hfl]
      .dsimp only;rw[e3];exact hdrop m h6
    .simp only[dN]at hq;have e:j.toNat=l.length:=by omega
     refine d8 ⟨h1,by dsimp only;omega,h4,?_⟩;dsimp only;rw[h5,e,ay]
  .rintro⟨a,j,m⟩ ⟨h1,h2,h3,h4⟩;dsimp only at h1 h2 h3 h4 ⊢;have hc:(Io m a.toNat ((Int.toNat (m.length:Int))-a.toNat) (⟨([]:eQ),([]:eQ),([]:eQ)⟩:An)).length=l.length:=by
    simp[Io];omega
   refine(Ok.bndI h1 (by omega) (by omega)).bind λ_ _=>(Ok.bndI (by omega) h1 (by rw[hc];omega)).bind λ_ _=>eo ?_;rw[←h4];unfold Io;rw[Nat.sub_zero,cT (by simp;omega),List.take_take,Nat.min_self]
def G1(b:Aa)(p:Ab)(o:Option Int):Option Int:=o.map λa=>(groups b p).getD a.toNat 0
def Fc(b:Aa)(p:Ab)(n f:Nat):eQ:=((List.range n).filter λ(i:Nat)=>(groups b p).getD i 0==(f:Int)).map λ(i:Nat)=>(i:Int)
def Gf(b:Aa)(p:Ab)(n f:Nat):eQ:=((List.range n).filter λ(i:Nat)=>G1 b p (F6 b p (i:Int))==some (f:Int)).map λ(i:Nat)=>(i:Int)
def Fa(b:Aa)(p:Ab)(n f:Nat):eQ:=((List.range n).filter λ(i:Nat)=>G1 b p (E6 b p 3 (i:Int))==some (f:Int)).map λ(i:Nat)=>(i:Int)
def isl(b:Aa)(p:Ab)(f:Nat):An:=⟨Fc b p b.Ao.toNat f,Gf b p b.Ad.length f,Fa b p b.Ae.length f⟩
def Bq(b:Aa)(p:Ab):List An:=((List.range b.Ao.toNat).map (isl b p)).filter Km
theorem Ht(q:Nat->Bool)(n:Nat):((List.range (n+1)).filter q).map (λ(i:Nat)=>(i:Int))=((List.range n).filter q).map (λ(i:Nat)=>(i:Int))++if q n=true then [(n:Int)] else []:=by rw[ci,aY,bE];congr 1;cases h:q n <;> simp[h]
theorem E7(q:Nat->Bool)(n:Nat):(((List.range n).filter q).map (λ(i:Nat)=>(i:Int))).length<=n:=by grind
theorem Lj(h : Av b)(hp : Ap b p) : Aao b p = some (Bq b p) := by
 have hbu:=h.buses;have hso:=h.sol;have hco:=h.col;have hgl:=Kf b p;have hglo:=Vn h p;refine da ?_;unfold Aao;rw[Fs h hp];simp only[ab];refine c6 (λhc=>by simp at hc) (λ_=>?_);rw[Aq5 h hp.ncl];simp only[ab];refine(Ok.mkI (by omega) (by omega)).bind λy hy=>?_;have hget:∀(i:Nat),i<b.Ao.toNat->(groups b p)[i]?=some ((groups b p).getD i 0):=λi hi=>by
  have:i<(groups b p).length:=by omega
  simp[List.getD,List.getElem?_eq_getElem this]
 refine ee (A:=λs=>s=(List.range b.Ao.toNat).map λf=>(⟨Fc b p b.Ao.toNat f,[],[]⟩:An)) (B:=λ(_:Unit)=>False) ?_ ?_ eq
 .refine c8 (I:=λj s=>s=(List.range b.Ao.toNat).map λf=>(⟨Fc b p j f,[],[]⟩:An)) ?_ (λj x s hx hs=>?_) λs hs=>?_
  .rw[hy,P0];rfl
  .subst hs;have hj:j<b.Ao.toNat:=by have:=(aa.1 hx).1;omega
   have hlo:=hglo j x hx;have hxe:(groups b p).getD j 0=x:=by simp[List.getD,hx]
   have hcnt:cnt 0 j=(j:Int):=Cv (by omega);unfold All;rw[hcnt];refine(du (by omega)).bind λu hu=>?_;subst hu;have hl:(Fc b p j x.toNat).length<=j:=E7 _ _;refine(d7 (by simp;omega)).bind λv hv=>(dy (by omega)).bind λw hw=>c7 ?_;rw[hw];refine bk λf _=>?_;unfold Fc;rw[Ht,hxe];by_cases e:f=x.toNat
   .subst e;rw[eC rfl,eC (by simp;omega),hv];rfl
   .rw[eF e,eF (by simp;omega),aK]
  .rw[hgl]at hs;exact hs
 .rintro s rfl;refine ee (A:=λs=>s.2=(List.range b.Ao.toNat).map λf=>(⟨Fc b p b.Ao.toNat f,Gf b p b.Ad.length f,[]⟩:An)) (B:=λ(_:Unit)=>False) ?_ ?_ eq
  .refine d4 (λs=>(0<=s.1/\s.1<=(b.Ad.length:Int))/\s.2=(List.range b.Ao.toNat).map λf=>(⟨Fc b p b.Ao.toNat f,Gf b p s.1.toNat f,[]⟩:An)) (λs=>((b.Ad.length:Int)-s.1).toNat) _ _ ?_ ?_ ?_
   .exact⟨by dsimp only;omega,rfl⟩
   .dsimp only;omega
   .rintro⟨i,s⟩ ⟨⟨h1,h2⟩,h3⟩;dsimp only at h1 h2 h3;subst h3;unfold Alk As0;dsimp only;refine c6 (λhq=>?_) (λhq=>?_)
    .simp only[dM]at hq;have e1:w64 (i+1)=i+1:=Az;have e2:(i+1).toNat=i.toNat+1:=by omega
     have e3:((i.toNat:Nat):Int)=i:=by omega
     rw[V4 h hp];simp only[ab];cases hcn:F6 b p i with
     |none=>refine c6 (λhc=>by simp[E2]at hc) (λ_=>?_);rw[e1];refine c7 ⟨⟨by dsimp only;omega,?_⟩,by dsimp only;omega⟩;dsimp only;rw[e2];refine bk λf _=>?_;unfold Gf;rw[Ht,e3,hcn,eF (by simp[G1]),aK]
     | some a=>
      have hab:=Tq h hcn;have hga:=hget a.toNat (by omega);have hgla:=hglo _ _ hga;refine c6 (λ_=>?_) (λhc=>by simp[E2]at hc);have hg2:getI (groups b p) a=some ((groups b p).getD a.toNat 0):=by have:=Bl hga;rwa [bh hab.1]at this
      simp only[E2,hg2,ab];generalize hge:(groups b p).getD a.toNat 0=ga at hgla;refine(du (by omega)).bind λu hu=>?_;subst hu;have hl:(Gf b p i.toNat ga.toNat).length<=i.toNat:=E7 _ _;refine(d7 (by simp;omega)).bind λv hv=>(dy (by omega)).bind λw hw=>?_;rw[e1];refine c7 ⟨⟨by dsimp only;omega,?_⟩,by dsimp only;omega⟩;dsimp only;rw[hw,e2];refine bk λf _=>?_;unfold Gf;rw[Ht,e3,hcn];simp only[G1,be,hge];by_cases e:f=ga.toNat
      .subst e;rw[eC rfl,eC (by simp;omega),hv];rfl
      .rw[eF e,eF (by simp;omega),aK]
    .simp only[dN]at hq;have e:i.toNat=b.Ad.length:=by omega
     rw[e];exact d8 rfl
  .rintro⟨i0,s⟩ hs;dsimp only at hs;subst hs;dsimp only;refine ee (A:=λs=>s.2=(List.range b.Ao.toNat).map (isl b p)) (B:=λ(_:Unit)=>False) ?_ ?_ eq
   .refine d4 (λs=>(0<=s.1/\s.1<=(b.Ae.length:Int))/\s.2=(List.range b.Ao.toNat).map λf=>(⟨Fc b p b.Ao.toNat f,Gf b p b.Ad.length f,Fa b p s.1.toNat f⟩:An)) (λs=>((b.Ae.length:Int)-s.1).toNat) _ _ ?_ ?_ ?_
    .exact⟨by dsimp only;omega,rfl⟩
    .dsimp only;omega
    .rintro⟨i,s⟩ ⟨⟨h1,h2⟩,h3⟩;dsimp only at h1 h2 h3;subst h3;unfold Alj Asz;dsimp only;refine c6 (λhq=>?_) (λhq=>?_)
     .simp only[dM]at hq;have e1:w64 (i+1)=i+1:=Az;have e2:(i+1).toNat=i.toNat+1:=by omega
      have e3:((i.toNat:Nat):Int)=i:=by omega
      rw[Aex h hp.ncl];simp only[ab];cases hcn:E6 b p 3 i with
      |none=>refine c6 (λhc=>by simp[E2]at hc) (λ_=>?_);rw[e1];refine c7 ⟨⟨by dsimp only;omega,?_⟩,by dsimp only;omega⟩;dsimp only;rw[e2];refine bk λf _=>?_;unfold Fa;rw[Ht,e3,hcn,eF (by simp[G1]),aK]
      | some a=>
       have hab:=O6 h hcn;have hga:=hget a.toNat (by omega);have hgla:=hglo _ _ hga;refine c6 (λ_=>?_) (λhc=>by simp[E2]at hc);have hg2:getI (groups b p) a=some ((groups b p).getD a.toNat 0):=by have:=Bl hga;rwa [bh hab.1]at this
       simp only[E2,hg2,ab];generalize hge:(groups b p).getD a.toNat 0=ga at hgla;refine(du (by omega)).bind λu hu=>?_;subst hu;have hl:(Fa b p i.toNat ga.toNat).length<=i.toNat:=E7 _ _;refine(d7 (by simp;omega)).bind λv hv=>(dy (by omega)).bind λw hw=>?_;rw[e1];refine c7 ⟨⟨by dsimp only;omega,?_⟩,by dsimp only;omega⟩;dsimp only;rw[hw,e2];refine bk λf _=>?_;unfold Fa;rw[Ht,e3,hcn];simp only[G1,be,hge];by_cases e:f=ga.toNat
       .subst e;rw[eC rfl,eC (by simp;omega),hv];rfl
       .rw[eF e,eF (by simp;omega),aK]
     .simp only[dN]at hq;have e:i.toNat=b.Ae.length:=by omega
      rw[e];exact d8 rfl
   .rintro⟨i1,s⟩ hs;dsimp only at hs;subst hs;dsimp only;rw[A1q _ (by simp;omega)];exact eo rfl
theorem H3{l:List α}(h:l.length*B<=140737488355328:=by omega):appI B [] l=some l:=by grind[appI]
theorem H1(h:Av b)(hp:Ap b p):Ny p=some p:=by have h1:=hp.ncl;have h2:=hp.nso;have h3:=hp.nli;have h4:=hp.brk.len;have h5:=h.brl;have h6:=h.sol;have h7:=h.col;unfold Ny Aav Aau Qy Ua;rw[H3,H3,H3,H3];rfl
theorem eqB(l:eT)(h:l.length<=9223372036854775807):Aan l l=some true:=by grind[Aan,andThen,Aam,Du,Cv,Bl]
theorem eqI(l:eQ)(h:l.length<=9223372036854775807):Aaj l l=some true:=by grind[Aaj,andThen,Aai,Du,Cv,Bl]
theorem eqR(l:List Ak)(h:l.length<=9223372036854775807):Aal l l=some true:=by
 unfold Aal;rw[Du l 0 λj x hj=>?_]
 .simp[andThen]
 .have hjl:=(aa.1 hj).1;unfold Aak Asy;rw[aN,Cv (by omega),Bl hj];simp
theorem eqP(l:List a_)(h:l.length<=9223372036854775807):Aah l l=some true:=by
 unfold Aah;rw[Du l 0 λj x hj=>?_]
 .simp[andThen]
 .have hjl:=(aa.1 hj).1;unfold Aag Asx;rw[aN,Cv (by omega),Bl hj];simp
structure zM(p:Ab):Prop where
 c:p.Ag.length<=1000
 s:p.Ad.length<=1000
 l:p.Aj.length<=1000
 k:p.Ai.length<=1000
theorem Ap.lens(h:Av b)(hp:Ap b p):zM p:=by have h1:=hp.ncl;have h2:=hp.nso;have h3:=hp.nli;have h4:=hp.brk.len;have h5:=h.brl;have h6:=h.sol;have h7:=h.col;exact⟨by omega,by omega,by omega,by omega⟩
theorem Aqb(h:zM p):F99 p p=some true:=by have h1:=h.c;have h2:=h.s;have h3:=h.l;have h4:=h.k;unfold F99;rw[eqB _ (by omega),eqI _ (by omega),eqR _ (by omega),eqP _ (by omega)];rfl
theorem Anw(l:eT)(h:l.length<=9223372036854775807):Aar l l=some true:=by grind[Aar,andThen,Aaq,Du,Cv,Bl]
theorem Abl(l:eQ)(h:l.length<=9223372036854775807):F16 l l=some true:=by grind[F16,andThen,Ahz,Du,Cv,Bl]
theorem U1(h:zM p):F63 p p=some true:=by
 have h1:=h.c;have h2:=h.s;have h3:=h.l;have h4:=h.k;refine da ?_;unfold F63;rw[Anw _ (by omega),Abl _ (by omega)];have e:(Au [((!true),false)] (some true) default:Option Bool)=some true:=rfl;simp only[ab];rw[e];simp only[ab];refine c6 (λhc=>by simp[Anq]at hc) (λ_=>?_);refine ee (A:=λ_=>True) (B:=λ_=>False) ?_ ?_ eq
 .refine d4 (λs=>0<=s/\s<=(p.Ad.length:Int)) (λs=>((p.Ad.length:Int)-s).toNat) _ _ (by omega) (by omega) ?_;rintro i ⟨h5,h6⟩;unfold Ags Anp;refine c6 (λhq=>?_) (λ_=>d8 trivial);simp only[dM]at hq;refine(d5 h5 hq).bind λu hu=>?_;refine ef (P:=λv=>v=u) ((d5 h5 hq).mono λv hv=>by rw[hu]at hv;cases hv;rfl) λv hv=>?_;subst hv;refine c6 (λhc=>by simp[Az0]at hc) (λ_=>c7 ?_);rw[Az];omega
 .intro _ _;refine ee (A:=λ_=>True) (B:=λ_=>False) ?_ (λ_ _=>eo rfl) eq;refine d4 (λs=>0<=s/\s<=(p.Ai.length:Int)) (λs=>((p.Ai.length:Int)-s).toNat) _ _ (by omega) (by omega) ?_;rintro i ⟨h5,h6⟩;unfold Agr Ano;refine c6 (λhq=>?_) (λ_=>d8 trivial);simp only[dM]at hq;refine(d5 h5 hq).bind λu hu=>?_;refine ef (P:=λv=>v=u) ((d5 h5 hq).mono λv hv=>by rw[hu]at hv;cases hv;rfl) λv hv=>?_;subst hv;refine c6 (λhc=>by simp[Ar9]at hc) (λ_=>c7 ?_);rw[Az];omega
def Yu(C6 x:Ak):Ak:=⟨x.State,x.Since,C6.Ar,C6.Phase⟩
def Gr(C6:Ak)(idx:eQ)(ss:List Ak):List Ak:=idx.foldl (λs i=>s.set i.toNat (Yu C6 (s.getD i.toNat default))) ss
theorem I0(C6:Ak):∀(idx:eQ)(ss:List Ak),(Gr C6 idx ss).length=ss.length
 | [],_=>rfl
 |i::idx,ss=>by show (Gr C6 idx _).length=_;rw[I0 C6 idx,bz]
theorem Aba(h:idx[j]?=some i)(ss:List Ak):Gr C6 (idx.take (j+1)) ss=(Gr C6 (idx.take j) ss).set i.toNat (Yu C6 ((Gr C6 (idx.take j) ss).getD i.toNat default)):=by unfold Gr;rw[Bc h,aI];rfl
theorem Adn(h:∀i,i∈idx->0<=i/\i<p.Ad.length):Sg p idx C6=some (Gr C6 idx p.Ad):=by
 refine da ?_;unfold Sg;refine ee (A:=λs=>s=Gr C6 idx p.Ad) (B:=λ(_:Unit)=>False) ?_ (λs hs=>eo hs) eq;refine c8 (I:=λj s=>s=Gr C6 (idx.take j) p.Ad) rfl (λj x s hx hs=>?_) λs hs=>?_
 .have hi:=h x (ae hx);have hl:s.length=p.Ad.length:=by rw[hs,I0]
  unfold Acu;refine(d5 hi.1 (by omega)).bind λu hu=>(d9 hi.1).bind λv hv=>?_;have hvg:v[x.toNat]?=some (⟨u.State,u.Since,C6.Ar,u.Phase⟩:Ak):=by grind
  refine ef (P:=λw=>w=(⟨u.State,u.Since,C6.Ar,u.Phase⟩:Ak)) ((d5 hi.1 (by rw[hv];simpa using by omega)).mono λw hw=>by rw[hvg]at hw;cases hw;rfl) λw hw=>?_;refine(d9 hi.1 (by rw[hv];simpa using by omega)).bind λz hz=>c7 ?_;rw[Aba hx,←hs,hz,hv,hw,List.set_set];have:s.getD x.toNat default=u:=by simp[List.getD,hu]
  rw[this];rfl
 grind
def Gb(b:Aa)(p:Ab):List Ak:=(Bq b p).foldl (λs x=>match x.Ad with| []=>s|i::_=>Gr (p.Ad.getD i.toNat default) x.Ad s) p.Ad
theorem Q9{x:An}(h:x∈Bq b p):∀i,i∈x.Ad->0<=i/\i<b.Ad.length:=by unfold Bq at h;obtain⟨f,_,rfl⟩:=an.1 (ar.1 h).1;intro i hi;obtain⟨k,hk,rfl⟩:=an.1 hi;grind
theorem L_(b:Aa)(p:Ab):(Bq b p).length<=b.Ao.toNat:=by have:=bc Km ((List.range b.Ao.toNat).map (isl b p));simpa[Bq]using this
def Ed(p:Ab)(s:List Ak)(x:An):List Ak:=match x.Ad with
 | []=>s
 |i::_=>Gr (p.Ad.getD i.toNat default) x.Ad s
theorem O_(p:Ab)(s:List Ak)(x:An):(Ed p s x).length=s.length:=by
 unfold Ed;split
 .rfl
 .rw[I0]
theorem Ms(p:Ab):∀(l:List An)(s:List Ak),(l.foldl (Ed p) s).length=s.length
 | [],_=>rfl
 |x::l,s=>by show (l.foldl (Ed p) _).length=_;rw[Ms p l,O_]
theorem Jz(b:Aa)(p:Ab):(Gb b p).length=p.Ad.length:=Ms p _ _
theorem Vr(h:Av b)(hp:Ap b p):F96 b p=some (⟨p.Ag,Gb b p,p.Aj,p.Ai⟩,0):=by
 refine da ?_;unfold F96;rw[Fs h hp,H1 h hp,Lj h hp];simp only[ab];refine c6 (λhc=>by simp at hc) (λ_=>?_);refine ee (A:=λs=>s=Gb b p) (B:=λ(_:Unit)=>False) ?_ (λs hs=>eo (by rw[hs])) eq;refine c8 (I:=λj s=>s=((Bq b p).take j).foldl (Ed p) p.Ad) rfl (λj x s hx hs=>?_) λs hs=>?_
 .have hi:=Q9 (ae hx);have hl:s.length=p.Ad.length:=by rw[hs,Ms]
  have hn:=hp.nso;have hnext:((Bq b p).take (j+1)).foldl (Ed p) p.Ad=Ed p s x:=by rw[Bc hx,aI,←hs];rfl
  unfold Atk Azs;cases hsrc:x.Ad with
  |nil=>refine c6 (λhc=>by simp at hc) (λ_=>c7 ?_);rw[hnext];simp[Ed,hsrc]
  | cons i l=>
   have hi0:=hi i (by rw[hsrc];exact ai);refine c6 (λ_=>?_) (λhc=>by simp at hc);have hg:getI (i::l) 0=some i:=rfl;obtain⟨u,hu⟩:∃u,p.Ad[i.toNat]?=some u:=⟨_,aj (by omega)⟩;have hg2:getI p.Ad i=some u:=by have:=Bl hu;rwa [bh hi0.1]at this
   rw[hg];simp only[ab];rw[hg2];simp only[ab];rw[Adn (by grind)]
   refine c7 ?_;rw[hnext];have:p.Ad.getD i.toNat default=u:=by simp[List.getD,hu]
   simp only[Ed,hsrc,this]
 .rw[ay]at hs;exact hs
structure Rz(y:B0):Prop where
 stop:1<=y.Stop/\y.Stop<=99
 start:y.Stop<y.Start/\y.Start<=100
 delay:0<=y.Delay/\y.Delay<=600
theorem Yf{y:B0}(h:Rz y):F98 y=true:=by have h1:=h.stop;have h2:=h.start;have h3:=h.delay;simp only[F98,ac,dM];omega
theorem Ayg{s:Af}(hs:A2 s):Ok (F85 s) λy=>Rz y.1/\A2 y.2:=by
 unfold F85;refine(C8 hs _ (by simp) (by simp)).bind λu hu=>(C8 hu.1 _ (by simp) (by simp)).bind λv hv=>(C8 hv.1 _ (by simp) (by simp)).bind λw hw=>eo ⟨?_,hw.1⟩;have g1:u.1=60\/u.1=80\/u.1=100:=by simpa using hu.2
 have g2:v.1=1\/v.1=30\/v.1=50:=by simpa using hv.2
 have g3:w.1=0\/w.1=1\/w.1=3:=by simpa using hw.2
 exact⟨by dsimp only;omega,by dsimp only;omega,by dsimp only;omega⟩
def uG(t:Int)(x:Bb):Prop:=(-1<=x.High/\x.High<=t) /\ -1<=x.Low/\x.Low<=t
theorem Al9{p:Am}{l:List Bb}(h:∀x,x∈l->uG p.Time x):vP l p=some (false,p):=by refine da ?_;unfold vP Ah4;refine ef (P:=λy=>y=(-1,p)) ?_ (λy hy=>eo (by rw[hy];rfl));refine ee (A:=λs=>s=(p.Time,p.Power.Ag,p.Power.Ad,p.Power.Aj,p.Power.Ai,p.A0,p.A6)) (B:=λ_=>False) ?_ (λs hs=>eo (by rw[hs])) eq;refine c8 (I:=λ_ s=>s=(p.Time,p.Power.Ag,p.Power.Ad,p.Power.Aj,p.Power.Ai,p.A0,p.A6)) rfl (λj x s hx hs=>?_) λs hs=>hs;have hr:=h x (ae hx);unfold uG at hr;subst hs;unfold Acs;refine c6 (λhc=>?_) (λ_=>c7 rfl);simp only[Afx,Hh,uI,aC,aW,bU,dN]at hc;omega
structure Mk(b:Aa)(y:B0)(p:Am):Prop where
 st:Ap b p.Power
 fol:Gb b p.Power=p.Power.Ad
 time:0<=p.Time/\p.Time<=2147483648
 nro:p.A0.length=b.Ao.toNat
 ros:∀x,x∈p.A0->uG p.Time x
theorem Acy(h:Av b){y:B0}(hy:Rz y){p:Am}(hp:Mk b y p):F49 b y p=some 0:=by
 have h1:=h.buses;have h2:=hp.time;have h3:=hp.nro;refine da ?_;unfold F49;rw[Vr h hp.st];simp only[ab,hp.fol];refine c6 (λhc=>by simp at hc) (λ_=>c6 (λhc=>?_) (λ_=>c6 (λhc=>?_) (λ_=>?_)))
 .simp only[Az6,Yf hy,aH,aQ,aC,dM]at hc;omega
 .grind
 .have e:(⟨p.Power.Ag,p.Power.Ad,p.Power.Aj,p.Power.Ai⟩:Ab)=p.Power:=rfl;rw[e,Aqb (hp.st.lens h)];simp only[ab];rw[Al9 hp.ros];have e2:Au [((!true),false)] (some (false,p)) (default,p)=some (false,p):=rfl;rw[e2];exact eo rfl
def brk(l:List a_)(k n:Int):Bool:=l.any λx=>k==x.Kind&&n==x.Number
theorem Hv(h:p.Ai.length<=1000)(k n:Int):Nx p k n=some (brk p.Ai k n):=by unfold Nx Aib Ao8;rw[Je (λx:a_=>(k==x.Kind)&&((n==x.Number)&&true)) (λi y=>rfl) p.Ai (by omega)];simp only[ab,Mc,brk,bO]
def P8(b:Aa)(i:Int):Int:=Il (λx:Al=>x.Kind==2&&x.B==i) b.Ah
theorem Anv(h:Av b)(i:Int):Aob b i=some (P8 b i):=by
 have hb:=h.brl;unfold Aob Ag0;refine da ?_;refine ef (P:=λy=>y=(P8 b i,i)) ?_ (λy hy=>eo (by rw[hy]));have key:=Qe (f:=λn(a:Al)(z:Unit)=>(bif (a.Kind==2&&a.B==i)then some (.ret (cnt 0 n)) else some (.next ()):Option (Ctl Unit Int))) (p:=λx:Al=>x.Kind==2&&x.B==i) (λ_ _=>rfl) b.Ah 0 (by omega);have:∀(xs:List Al)(k:Nat),foldI (Wk i) xs k ()=match foldI (λn(a:Al)(z:Unit)=>(bif (a.Kind==2&&a.B==i)then some (.ret (cnt 0 n)) else some (.next ()):Option (Ctl Unit Int))) xs k () with
   |some (.ret r)=>some (.ret (r,i))
   |some (.next _)=>some (.next ())
   |some (.brk _)=>some (.brk ())
   |none=>none:=by
  intro xs;induction xs with
  |nil=>intro k;rfl
  |cons x xs ih=>intro k;simp only[foldI,Wk,Agz];grind
 rw[this,key];unfold P8 Il;cases b.Ah.findIdx? (λx:Al=>x.Kind==2&&x.B==i) with
 |none=>exact eo rfl
 |some j=>exact eo rfl
theorem uB(h:Av b)(h0:0<=i)(h1:i<b.Ad.length):∃(j:Nat)(x:Al),P8 b i=(j:Int)/\b.Ah[j]?=some x/\x.Kind=2/\x.B=i/\j<24:=by
 have hone:=h.one i.toNat (by omega);have hb:=h.brl;unfold P8 Il;cases hf:b.Ah.findIdx? (λx:Al=>x.Kind==2&&x.B==i) with
 | none=>
  exfalso;rw[cS]at hf;have:brs b.Ah 2 i.toNat=[]:=Mg λx hx hk e=>by grind
  rw[this]at hone;simp at hone
 |some j=>rw[cj]at hf;grind
def lit(b:Aa)(u:Int->Bool)(s:eT)(i:Nat):eT:=if u (i:Int)then s.set (b.Ah.getD (P8 b (i:Int)).toNat default).A.toNat true else s
def LeB(s t:eT):Prop:=s.length=t.length/\∀i:Nat,s[i]?=some true->t[i]?=some true
theorem LeB.refl(s:eT):LeB s s:=⟨rfl,λ_ h=>h⟩
theorem LeB.trans{s r:eT}(h:LeB s t)(k:LeB t r):LeB s r:=⟨h.1.trans k.1,λi e=>k.2 i (h.2 i e)⟩
theorem LeB.set{s:eT}(h:LeB s t)(n:Nat){x y:Bool}(hx:x=true->y=true):LeB (s.set n x) (t.set n y):=by grind[LeB]
theorem LeB.getD{s:eT}(h:LeB s t)(n:Nat):s.getD n false=true->t.getD n false=true:=by grind[LeB]
theorem LeB.up(s:eT)(n:Nat){y:Bool}(hy:s.getD n false=true->y=true):LeB s (s.set n y):=by refine⟨by simp,λi e=>?_⟩;grind
def ks(x:a_):Int:=x.Kind*1000+x.Number
def C5(x:a_):Prop:=(1<=x.Kind/\x.Kind<=4)/\0<=x.Number/\x.Number<=100
theorem C1.small(h:Av b)(hx:C1 b x):C5 x:=by have h1:=h.buses;have h2:=h.brl;have h3:=h.sol;have h4:=h.col;unfold C1 at hx;unfold C5;omega
theorem Ac7(hx:C5 x)(hy:C5 y):R6 x y↔ks x<ks y:=by unfold R6 ks;unfold C5 at hx hy;omega
theorem Azm(hx:C5 x)(hy:C5 y)(h:ks x=ks y):x=y:=by unfold ks at h;unfold C5 at hx hy;cases x;cases y;grind
theorem Ab2(hx:C5 x)(hy:C5 y):(decide (T7 x y<0)=decide (ks x<ks y))/\((T7 x y==0)=(ks x==ks y)):=by
 unfold C5 at hx hy;unfold T7 ks;by_cases hk:x.Kind=y.Kind
 .have:(x.Kind != y.Kind)=false:=by simp[hk]
  rw[this,eB,Az];grind
 .have:(x.Kind != y.Kind)=true:=by simp[hk]
  rw[this,ez,Az];grind
def Gy(l:List a_):Prop:=∀(j k:Nat) x y,j<k->l[j]?=some x->l[k]?=some y->ks x<ks y
theorem Gg(h:Av b)(hl:E8 b l):Gy l:=by
 have hs:∀x,x∈l->C5 x:=λx hx=>(hl.mem x hx).small h;intro j k;induction k with
 |zero=>intro x y hj;omega
 |succ k ih=>intro x y hj hx hy;have hk:=(aa.1 hy).1;obtain⟨z,hz⟩:∃z,l[k]?=some z:=⟨_,aj (by omega)⟩;have h1:=(Ac7 (hs z (ae hz)) (hs y (ae hy))).1 (hl.asc k z y hz hy);grind
theorem A1m(h0:0<=n)(h1:n<=1000000):w64 (Uu .u64 (IntKind.wrap .u64 (w64 n)) 1)=n / 2:=by
 have e1:w64 n=n:=Az;have e2:IntKind.wrap .u64 n=n:=by simp[IntKind.wrap,IntKind.signed,IntKind.bits];omega
 have e3:Uu .u64 n 1=n / 2:=by
  unfold Uu;have:(2:Int) ^ min 1 (IntKind.u64).bits=2:=by decide
  grind
 rw[e1,e2,e3,Az]
structure At(l:List a_)(x:a_)(n:Nat):Prop where
 le:n<=l.length
 lo:∀(j:Nat) y,j<n->l[j]?=some y->ks y<ks x
 hi:∀(j:Nat) y,n<=j->l[j]?=some y->ks x<=ks y
theorem Ks(hs:Gy l)(hsm:∀x,x∈l->C5 x)(hx:C5 x)(hl:l.length<=1000:=by omega) :
  Ok (uO l x) λy=>∃n:Nat,y.1=(n:Int)/\At l x n/\(y.2=true↔l[n]?=some x):=by
 unfold uO;refine ee (A:=λs=>∃n:Nat,s.1=(n:Int)/\At l x n) (B:=λ(_:Unit)=>False) ?_ ?_ eq
 .refine d4 (λs=>(0<=s.1/\s.1<=s.2/\s.2<=(l.length:Int))/\(∀(j:Nat) y,(j:Int)<s.1->l[j]?=some y->ks y<ks x)/\∀(j:Nat) y,s.2<=(j:Int)->l[j]?=some y->ks x<=ks y) (λs=>(s.2-s.1).toNat) _ _ ?_ ?_ ?_
  .refine⟨by dsimp only;omega,λj y hj=>by dsimp only at hj;omega,λj y hj hy=>?_⟩;have:=(aa.1 hy).1;dsimp only at hj;omega
  .dsimp only;omega
  .rintro⟨i,j⟩ ⟨⟨h1,h2,h3⟩,h4,h5⟩;dsimp only at h1 h2 h3 h4 h5;unfold Acb;dsimp only;refine c6 (λhq=>?_) (λhq=>?_)
   .simp only[dM]at hq;rw[A1m (by omega) (by omega)];refine(d5 (by omega) (by omega)).bind λy hy=>?_;have hym:=hsm y (ae hy);rw[(Ab2 hym hx).1];refine c6 (λhc=>?_) (λhc=>?_)
    .simp only[dM]at hc;rw[Az];refine c7 ⟨⟨by dsimp only;omega,λk z hk hz=>?_,h5⟩,by dsimp only;omega⟩;dsimp only at hk;by_cases e:k=((i+j) / 2).toNat
     .subst e;rw[hy]at hz;cases hz;exact hc
     .have:=hs k _ z y (by omega) hz hy;omega
    .simp only[dN]at hc;refine c7 ⟨⟨by dsimp only;omega,h4,λk z hk hz=>?_⟩,by dsimp only;omega⟩;dsimp only at hk;by_cases e:k=((i+j) / 2).toNat
     .subst e;rw[hy]at hz;cases hz;omega
     .have:=hs _ k y z (by omega) hy hz;omega
   .simp only[dN]at hq;refine d8 ⟨i.toNat,by dsimp only;omega,by omega,λk y hk hy=>h4 k y (by omega) hy,λk y hk hy=>h5 k y (by omega) hy⟩
 .rintro⟨i,j⟩ ⟨n,hn,hat⟩;dsimp only at hn;subst hn;dsimp only;by_cases hlt:n<l.length
  .obtain⟨y,hy⟩:∃y,l[n]?=some y:=⟨_,aj hlt⟩;have hd:decide ((n:Int)<(l.length:Int))=true:=by simp;omega
   rw[hd,Bl hy];refine ef (P:=λz=>z=y) (c9 (λ_=>eo rfl) λhn=>(hn ⟨rfl,trivial⟩).elim) λz hz=>eo ⟨n,rfl,hat,?_⟩;subst hz;have hym:=hsm z (ae hy);show (true&&(T7 z x==0))=true↔_;rw[bu,(Ab2 hym hx).2,dQ,hy];constructor
   .intro e;rw[Azm hym hx e]
   .intro e;cases e;rfl
  .have hd:decide ((n:Int)<(l.length:Int))=false:=by simp;omega
   rw[hd];refine ef (P:=λ_=>True) (c9 (λhg=>absurd hg.1 (by simp)) λ_=>trivial) λz _=>eo ⟨n,rfl,hat,?_⟩;rw[bP (by omega)];simp
variable{m n:Nat}
theorem At.uniq(h:At l x n)(k:At l x m):n=m:=by
 rcases bM n m with e|e|e
 .obtain⟨y,hy⟩:∃y,l[n]?=some y:=⟨_,aj (by have:=k.le;omega)⟩;have:=h.hi n y (af _) hy;have:=k.lo n y e hy;omega
 .exact e
 .obtain⟨y,hy⟩:∃y,l[m]?=some y:=⟨_,aj (by have:=h.le;omega)⟩;have:=k.hi m y (af _) hy;have:=h.lo m y e hy;omega
def Fo(l:List a_)(n:Nat)(x:a_):List a_:=l.take n++(x::l.drop n)
theorem Aq1(hn:n<=l.length)(hl:l.length<=1000)(x:a_):Sa l (n:Int) [x]=some (Fo l n x):=by
 refine da ?_;unfold Sa;refine(Ok.bndI (by omega) (by omega) (by omega)).bind λ_ _=>?_;refine c6 (λhc=>by simp at hc) (λ_=>c6 (λhc=>?_) (λ_=>?_))
 .simp only[dQ]at hc;have e:n=l.length:=by omega
  refine(d7 (by simp;omega)).bind λy hy=>eo ?_;rw[hy,Fo,e];simp
 .refine(Ok.insI (by simp;omega)).mono λy hy=>?_;rw[hy,ax];rfl
theorem Ary(hn:n<=l.length)(x:a_):Wn (Fo l n x) (n:Int) ((n:Int)+1)=some l:=by
 have hlen:(Fo l n x).length=l.length+1:=by simp[Fo];omega
 refine da ?_;unfold Wn;have e1:((n:Int)+1).toNat=n+1:=by omega
 have hdrop:(Fo l n x).drop (n+1)=l.drop n:=by
  unfold Fo;rw[List.drop_append,List.drop_of_length_le (by simp;omega)];have:n+1-(l.take n).length=1:=by simp;omega
  rw[this];simp
 have htake:(Fo l n x).take n=l.take n:=by unfold Fo;grind
 refine(Ok.bnd3I (by omega) (by omega) (by omega) (by omega)).bind λ_ _=>c6 (λhc=>?_) (λ_=>?_)
 .simp only[dQ]at hc;omega
 refine(Ok.bndI (by omega) (by omega) (by omega)).bind λ_ _=>(Ok.bndI (by omega) (by omega) (by omega)).bind λ_ _=>?_;simp only[ax,e1,hdrop,Nat.sub_zero];have hpl:((l.drop n).take ((Fo l n x).length-(n+1))).length=l.length-n:=by simp[hlen]
 have hpe:(l.drop n).take ((Fo l n x).length-(n+1))=l.drop n:=cI (by simp[hlen]);rw[hpe];have hdl:(l.drop n).length=l.length-n:=by simp
 refine(Ok.appPI (by rw[hlen,hdl];omega)).bind λy hy=>?_;have hyl:y.length=l.length+1:=by rw[hy];simp[hlen];omega
 refine(Ok.bndI (by omega) (by rw[hlen,hdl];omega) (by rw[hlen,hyl];omega)).bind λ_ _=>eo ?_;have e2:n+(l.drop n).length=l.length:=by rw[hdl];omega
 rw[e2];unfold Io;simp only[aN];rw[cT (by simp;omega),List.take_take,Nat.min_self,hy,htake,←bo,cT (by simp),bI,ay]
theorem S8(hn:n<=l.length)(h:(Fo l n x)[j]?=some y):(j<n/\l[j]?=some y)\/(j=n/\y=x)\/(n<j/\l[j-1]?=some y):=by grind[Fo]
theorem Aw1(h:y∈Fo l n x):y=x\/y∈l:=by grind[Fo]
theorem Aj0(h:Av b)(hl:E8 b l)(hx:C1 b x)(hat:At l x n)(hnot:l[n]? ≠ some x)(hlen:l.length<32):E8 b (Fo l n x):=by
 have hs:=Gg h hl;have hsm:∀y,y∈l->C5 y:=λy hy=>(hl.mem y hy).small h;have hxs:=hx.small h;refine⟨by simp[Fo];omega,λy hy=>?_,λj y z hy hz=>?_⟩
 .rcases Aw1 hy with rfl|hy
  .exact hx
  .exact hl.mem y hy
 .rcases S8 hat.le hy with⟨a1,a2⟩|⟨a1,a2⟩|⟨a1,a2⟩ <;> rcases S8 hat.le hz with⟨b1,b2⟩|⟨b1,b2⟩|⟨b1,b2⟩
  .exact hl.asc j y z a2 b2
  .subst b2;exact(Ac7 (hsm y (ae a2)) hxs).2 (hat.lo j y a1 a2)
  .omega
  .omega
  .omega
  .subst a2;have e:j+1-1=n:=by omega
   rw[e]at b2;have hzm:=hsm z (ae b2);refine(Ac7 hxs hzm).2 ?_;have h1:=hat.hi n z (af _) b2;grind[Azm]
  .omega
  .omega
  grind[E8.asc]
theorem At.ins(hat:At l x n):At (Fo l n x) x n:=by
 refine⟨by have:=hat.le;simp[Fo];omega,λj y hj hy=>?_,λj y hj hy=>?_⟩
 .rcases S8 hat.le hy with⟨_,a2⟩|⟨a1,_⟩|⟨a1,_⟩
  .exact hat.lo j y hj a2
  .omega
  .omega
 .rcases S8 hat.le hy with⟨a1,_⟩|⟨_,a2⟩|⟨a1,a2⟩
  .omega
  .subst a2;exact ck _
  .exact hat.hi (j-1) y (by omega) a2
theorem A1g(hn:n<=l.length)(x:a_):(Fo l n x)[n]?=some x:=by grind[Fo]
def Ln(ss:List Ak)(x:a_)(st:Int):List Ak:=if x.Kind=1 then ss.set x.Number.toNat ⟨st,(ss.getD x.Number.toNat default).Since,(ss.getD x.Number.toNat default).Ar,(ss.getD x.Number.toNat default).Phase⟩ else ss
theorem Vt(ss:List Ak)(x:a_)(st:Int):(Ln ss x st).length=ss.length:=by unfold Ln;split <;> simp
theorem Aez(h:∀x,x∈ss->Ez x)(hx:x.Kind=1->0<=x.Number/\x.Number<ss.length)(hst:0<=st/\st<=3):∀y,y∈Ln ss x st->Ez y:=by
 unfold Ln;split
 .rename_i hk;have hn:=hx hk;obtain⟨u,hu⟩:∃u,ss[x.Number.toNat]?=some u:=⟨_,aj (by omega)⟩;have hd:ss.getD x.Number.toNat default=u:=by simp[List.getD,hu]
  intro y hy;rcases cO hy with hy|hy
  .exact h y hy
  .subst hy;rw[hd];have:=h u (ae hu);exact⟨hst,this.2⟩
 .exact h
theorem Aj3(h:Av b)(hp:Ap b p)(hx:C1 b x)(t:Int)(hat:At p.Ai x n)(hnot:p.Ai[n]? ≠ some x)(hlen:p.Ai.length<32) :
  Hg ⟨b,p,t⟩ x true=some (0,⟨b,⟨p.Ag,Ln p.Ad x 3,p.Aj,Fo p.Ai n x⟩,t⟩):=by
 have hs:=Gg h hp.brk;have hsm:∀y,y∈p.Ai->C5 y:=λy hy=>(hp.brk.mem y hy).small h;refine da ?_;unfold Hg;refine(Ks hs hsm (hx.small h)).bind λy hy=>?_;obtain⟨m,e1,hat2,hf⟩:=hy;have e2:=hat.uniq hat2;subst e2;have hf2:y.2=false:=by grind
 refine c6 (λhc=>by rw[hf2]at hc;simp at hc) (λ_=>c6 (λhc=>?_) (λ_=>?_))
 .simp[Pk]at hc;omega
 refine ee (A:=λz=>z=Fo p.Ai n x) (B:=λ(_:Unit)=>False) ?_ ?_ eq
 .unfold Wv;rw[e1,Aq1 hat.le (by omega)];exact dh rfl
 .rintro z rfl;unfold Ln;refine c6 (λhk=>?_) (λhk=>?_)
  .simp only[dQ]at hk;have hn:0<=x.Number/\x.Number<p.Ad.length:=by
    have:=hp.nso;unfold C1 at hx;omega
   rw[eC hk];refine(d5 hn.1 hn.2).bind λu hu=>(d9 hn.1 hn.2).bind λv hv=>?_;have hd:p.Ad.getD x.Number.toNat default=u:=by simp[List.getD,hu]
   have hvg:v[x.Number.toNat]?=some (⟨0,u.Since,u.Ar,u.Phase⟩:Ak):=by rw[hv,bT (by omega)]
   simp only[ez];refine ef (P:=λw=>w=(⟨0,u.Since,u.Ar,u.Phase⟩:Ak)) ((d5 hn.1 (by rw[hv];simpa using hn.2)).mono λw hw=>by rw[hvg]at hw;cases hw;rfl) λw hw=>?_;subst hw;refine(d9 hn.1 (by rw[hv];simpa using hn.2)).bind λz hz=>eo ?_;rw[hz,hv,List.set_set,hd]
  .simp only[dR,ne_eq]at hk;rw[eF hk];exact eo rfl
variable{q:Ab}
theorem A06(h:Av b)(hbl:E8 b p.Ai)(hx:C1 b x)(t:Int)(hat:At p.Ai x n)(hnot:p.Ai[n]? ≠ some x)(hlen:p.Ai.length<32)
  (hq:q.Ai=Fo p.Ai n x)(hqs:q.Ad.length=b.Ad.length):Hg ⟨b,q,t⟩ x false=some (0,⟨b,⟨q.Ag,Ln q.Ad x 0,q.Aj,p.Ai⟩,t⟩):=by
 have hbl2:E8 b q.Ai:=by rw[hq];exact Aj0 h hbl hx hat hnot hlen
 have hs:=Gg h hbl2;have hsm:∀y,y∈q.Ai->C5 y:=λy hy=>(hbl2.mem y hy).small h;refine da ?_;unfold Hg;refine(Ks hs hsm (hx.small h) (by have:=hbl2.len;omega)).bind λy hy=>?_;obtain⟨m,e1,hat2,hf⟩:=hy;rw[hq]at hat2 hf;have e2:=hat.ins.uniq hat2;subst e2;have hf2:y.2=true:=hf.2 (A1g hat.le x);refine c6 (λhc=>by rw[hf2]at hc;simp at hc) (λ_=>c6 (λhc=>?_) (λ_=>?_))
 .simp[Pk]at hc
 refine ee (A:=λz=>z=p.Ai) (B:=λ(_:Unit)=>False) ?_ ?_ eq
 .unfold Wv;have hle:=hat.le;rw[e1,Az];simp only[eB,hq];rw[Ary hat.le];exact dh rfl
 .rintro z rfl;unfold Ln;refine c6 (λhk=>?_) (λhk=>?_)
  .simp only[dQ]at hk;have hn:0<=x.Number/\x.Number<q.Ad.length:=by
    unfold C1 at hx;omega
   rw[eC hk];refine(d5 hn.1 hn.2).bind λu hu=>(d9 hn.1 hn.2).bind λv hv=>?_;have hd:q.Ad.getD x.Number.toNat default=u:=by simp[List.getD,hu]
   simp only[eB];exact eo (by rw[hv,hd])
  .simp only[dR,ne_eq]at hk;rw[eF hk];exact eo rfl
def A1n(p:Ab)(x:a_)(n:Nat):Ab:=⟨p.Ag,Ln p.Ad x 3,p.Aj,Fo p.Ai n x⟩
theorem Am8(h:Av b)(hp:Ap b p)(hx:C1 b x)(hat:At p.Ai x n)(hnot:p.Ai[n]? ≠ some x)(hlen:p.Ai.length<32):Ap b (A1n p x n) where
 ncl:=hp.ncl
 nso:=by show (Ln p.Ad x 3).length=_;rw[Vt];exact hp.nso
 nli:=hp.nli
 run:=Aez hp.run (λhk=>by have:=hp.nso;unfold C1 at hx;omega) (by omega)
 lim:=hp.lim
 one:=hp.one
 brk:=Aj0 h hp.brk hx hat hnot hlen
theorem A3m(b:Aa)(u v:Int):Ahl b ⟨8,u,v⟩=some (H4 b v u):=rfl
theorem Kl(b:Aa)(k n:Int):H4 b k n=true↔C1 b ⟨k,n⟩:=by unfold H4 C1;grind
theorem A0d(h:Av b)(hl:E8 b l)(hx:C1 b x):∃n,At l x n:=by have hs:=Gg h hl;obtain⟨y,_,n,_,hat,_⟩:=Ks hs (λy hy=>(hl.mem y hy).small h) (hx.small h) (by have:=hl.len;omega);exact⟨n,hat⟩
theorem LeB.get{s:eT}(h:LeB s t){i:Nat}{x y:Bool}(hx:s[i]?=some x)(hy:t[i]?=some y):(x && !y)=false:=by grind[LeB]
theorem Rk(h:Av b)(hp:Ap b p):F76 p=some p:=by have hl:=hp.lens h;have h1:=hl.c;have h2:=hl.s;have h3:=hl.l;have h4:=hl.k;unfold F76;rw[H3,H3,H3,H3];rfl
theorem dl{l:List (Bool×Bool)}{x:Option α}{d:α}{P:α->Prop}(hx:Dq l->Ok x λ_=>True)(hr:∀y,P y):Ok (Au l x d) P:=
 c9 (λh=>(hx h).mono λy _=>hr y) λ_=>hr d
theorem di{x:Option α}{v:α}(h:x=some v):Ok x λ_=>True:=⟨v,h,trivial⟩
theorem A0m{x:Ak}(hx:Ez x)(hl:Ez C6):Ez (Yu C6 x):=⟨hx.1,hx.2.1,hl.2.2.1,hl.2.2.2⟩
theorem Om(h:∀x,x∈ss->Ez x){y:Ak}(hy:Ez y):∀x,x∈ss.set n y->Ez x:=λx hx=>by grind
theorem Ael(h:∀x,x∈ss->Ez x)(hn:n<ss.length):Ez (ss.getD n default):=by grind
theorem Sr{C6:Ak}(hl:Ez C6):∀(idx:eQ)(ss:List Ak),(∀i,i∈idx->0<=i/\i<ss.length)->(∀x,x∈ss->Ez x)->∀x,x∈Gr C6 idx ss->Ez x
 | [],_,_,h=>h
 |i::idx,ss,hi,h=>by have h0:=hi i ai;refine Sr hl idx _ (λj hj=>?_) (Om h (A0m (Ael h (by omega)) hl));grind
theorem Aen{b:Aa}{p:Ab}(hp:Ap b p):∀(l:List An)(s:List Ak),(∀x,x∈l->∀i,i∈x.Ad->0<=i/\i<b.Ad.length)->s.length=p.Ad.length->(∀x,x∈s->Ez x)->∀x,x∈l.foldl (Ed p) s->Ez x
 | [],_,_,_,h=>h
 | y::l,s,hi,hs,h=>by
  refine Aen hp l _ (λx hx=>hi x (al _ hx)) (by rw[O_,hs]) ?_;have h0:=hi y ai;have hn:=hp.nso;unfold Ed;split
  .exact h
  .rename_i i r e;rw[e]at h0;have h1:=h0 i ai;rw[e];exact Sr (Ael hp.run (by omega)) _ _ (λj hj=>by have:=h0 j hj;omega) h
theorem Tc(hp:Ap b p):∀x,x∈Gb b p->Ez x:=
 Aen hp _ _ (λ_ hx=>Q9 hx) rfl hp.run
theorem K7(hp:Ap b p)(hl:ss.length=p.Ad.length)(hr:∀x,x∈ss->Ez x):Ap b ⟨p.Ag,ss,p.Aj,p.Ai⟩ where
 ncl:=hp.ncl
 nso:=hl.trans hp.nso
 nli:=hp.nli
 run:=hr
 lim:=hp.lim
 one:=hp.one
 brk:=hp.brk
theorem Amj(hp:Ap b p)(j:Nat):Ap b ⟨p.Ag.set j false,p.Ad,p.Aj,p.Ai⟩ where
 ncl:=by simpa using hp.ncl
 nso:=hp.nso
 nli:=hp.nli
 run:=hp.run
 lim:=hp.lim
 one i hi:=by refine aA (Aew (by simp) (λk hk=>?_) i) (hp.one i hi);grind
 brk:=hp.brk
theorem Aq8{l:List Al}:∀{c:eT}{j:Nat}{x:Al},l[j]?=some x->∀i:Nat,(Dk l (c.set j true) i).length<=(Dk l c i).length+(if x.Kind=3/\x.B=(i:Int)then 1 else 0):=by
 induction l with
 |nil=>intro c j x h;simp at h
 | cons y l ih=>
  intro c j x h i;cases c with
  |nil=>simp[Dk]
  | cons v c=>
   cases j with
   |zero=>simp only[List.getElem?_cons_zero,ah]at h;subst h;simp only[List.set_cons_zero,Dk,bG,aX];grind
   |succ j=>simp only[cJ]at h;have:=ih (c:=c) h i;simp only[List.set_cons_succ,Dk,bG,aX]at this ⊢;split <;> simp at this ⊢ <;> omega
theorem Aq9{i:Nat}(h:E6 b p 3 (i:Int)=none):Dk b.Ah p.Ag i=[]:=by unfold E6 at h;rw[Option.map_eq_none_iff,List.find?_eq_none]at h;unfold Dk;rw[cP];exact h
theorem A5d(hp:Ap b p){x:Al}(hx:b.Ah[j]?=some x)(hf:x.Kind=3->E6 b p 3 x.B=none):Ap b ⟨p.Ag.set j true,p.Ad,p.Aj,p.Ai⟩ where
 ncl:=by simpa using hp.ncl
 nso:=hp.nso
 nli:=hp.nli
 run:=hp.run
 lim:=hp.lim
 one i hi:=by
  have h1:=Aq8 (c:=p.Ag) hx i;have h2:=hp.one i hi;dsimp only;split at h1
  .rename_i hk;have h3:=hf hk.1;rw[hk.2]at h3;rw[Aq9 h3]at h1;simpa using h1
  .omega
 brk:=hp.brk
theorem A01(h:Av b)(hp:Ap b p)(i:Int):Ok (Aok b p i) λy=>y.2≠0\/Ap b y.1:=by
 have hbl:p.Ai.length<=1000:=by have:=hp.brk.len;omega
 have hn:=hp.ncl;unfold Aok;rw[Fs h hp,H1 h hp];simp only[ab];refine c6 (λhc=>by simp at hc) (λ_=>c6 (λ_=>eo (.inl (by simp))) (λhr=>?_));simp only[Ase,aZ,dN]at hr;refine(d5 (by omega) (by omega)).bind λv _=>ef (P:=λ_=>True) (dl (λ_=>di (Hv hbl _ _)) λ_=>trivial) λ_ _=>?_;refine c6 (λ_=>eo (.inl (by simp))) (λ_=>?_);exact(d5 (by omega) (by omega)).bind λ_ _=>(d9 (by omega)).bind λz hz=>eo (.inr (by rw[hz];exact Amj hp _))
theorem Azh(h:Av b)(hp:Ap b p)(n:Int):Ok (Kr b p n) λy=>∀i,i∈y.1.Ad->0<=i/\i<p.Ad.length:=by
 have hn:=hp.nso;unfold Kr;rw[Lj h hp];simp only[ab];refine ee (A:=λ_=>True) (B:=λy=>∀i,i∈y.1.Ad->0<=i/\i<p.Ad.length) ?_ (λ_ _=>eo (λi hi=>by cases hi)) (λv hv=>eo hv);refine c8 (I:=λ_ _=>True) trivial (λj x s hx _=>?_) λs _=>trivial;have hmem:=ae hx;have hbl:x.Ao.length<=9223372036854775807:=by unfold Bq at hmem;obtain⟨f,_,rfl⟩:=an.1 (ar.1 hmem).1;have:=E7 (λi=>(groups b p).getD i 0==(f:Int)) b.Ao.toNat;have:=h.buses;simp only[isl,Fc];omega
 unfold Sc;rw[He _ _ hbl];simp only[ab];refine c6 (λ_=>Ok.ret λi hi=>?_) (λ_=>c7 trivial);have:=Q9 hmem i hi;omega
theorem A81(h:Av b)(hp:Ap b p)(n:Int):Ok (Kr b p n) λy=>y.1.Ao.length<=9223372036854775807:=by
 unfold Kr;rw[Lj h hp];simp only[ab];refine ee (A:=λ_=>True) (B:=λy=>y.1.Ao.length<=9223372036854775807) ?_ (λ_ _=>eo (by simp)) (λv hv=>eo hv);refine c8 (I:=λ_ _=>True) trivial (λj x s hx _=>?_) λs _=>trivial;have hmem:=ae hx;have hbl:x.Ao.length<=9223372036854775807:=by unfold Bq at hmem;obtain⟨f,_,rfl⟩:=an.1 (ar.1 hmem).1;have:=E7 (λi=>(groups b p).getD i 0==(f:Int)) b.Ao.toNat;have:=h.buses;simp only[isl,Fc];omega
 unfold Sc;rw[He _ _ hbl];simp only[ab];exact c6 (λ_=>Ok.ret hbl) (λ_=>c7 trivial)
theorem Vf(h:Av b)(hp:Ap b p)(n:Int):Ok (zO b p n) λy=>y.2=true->0<=y.1/\y.1<p.Ad.length:=by unfold zO;refine(Azh h hp n).bind λy hy=>?_;refine c6 (λ_=>eo (λe=>by cases e)) (λhc=>?_);simp only[dR,ne_eq]at hc;exact(d5 (by omega) (by omega)).bind λz hz=>eo λ_=>hy z (ae hz)
theorem dj{l:List α}(h0:0<=i)(h1:i<l.length:=by omega):Ok (getI l i) λ_=>True:=(d5 h0 h1).mono λ_ _=>trivial
theorem A0n(h:Av b)(hp:Ap b p){x:Al}(hx:b.Ah[j]?=some x):Ok (Aoc b p x) λ_=>True:=by
 have hn:=hp.nso;have hb:=h.br x (ae hx);unfold Uc at hb;unfold Aoc;refine(Vf h hp _).bind λy hy=>?_;refine c6 (λ_=>eo trivial) (λh2=>?_);simp only[ch]at h2;have hy:=hy h2;refine c6 (λ_=>?_) (λ_=>c6 (λhk=>?_) (λ_=>eo trivial))
 .refine(Vf h hp _).bind λz hz=>?_;refine ef (P:=λ_=>True) (dl (λ_=>dj hy.1 hy.2) λ_=>trivial) λ_ _=>?_;refine ef (P:=λ_=>True) (dl (λhg=>?_) λ_=>trivial) λ_ _=>eo trivial;have:=hz (by have:=hg.1;simpa using this);exact dj this.1 this.2
 .simp only[dQ]at hk;exact(dj hy.1 hy.2).bind λ_ _=>(dj (by omega)).bind λ_ _=>eo trivial
theorem Aqy{o:Option Int}:(E2 o).2=false->o=none:=by
 cases o with
 |none=>intro _;rfl
 |some a=>intro e;cases e
theorem Avx(h:Av b)(hp:Ap b p){j:Int}(h0:0<=j)(h1:j<b.Ah.length):Ok (Aod b p j) λy=>y=true->∀x,b.Ah[j.toNat]?=some x->x.Kind=3->E6 b p 3 x.B=none:=by
 have hbl:p.Ai.length<=1000:=by have:=hp.brk.len;omega
 have hn:=hp.nso;have hc:=hp.ncl;unfold Aod;refine(d5 h0 h1).bind λx hx=>(dj h0).bind λ_ _=>?_;have hb:=h.br x (ae hx);unfold Uc at hb;refine ef (P:=λ_=>True) (dl (λ_=>di (Hv hbl _ _)) λ_=>trivial) λ_ _=>?_;refine ef (P:=λ_=>True) (dl (λ_=>di (Hv hbl _ _)) λ_=>trivial) λ_ _=>?_;refine c6 (λ_=>eo (λe=>by cases e)) (λ_=>?_);refine c6 (λhk=>?_) (λhk1=>c6 (λhk=>?_) (λhk2=>?_))
 .simp only[dQ]at hk;rw[Hv hbl];refine eo λ_ y hy hy3=>?_;rw[hx]at hy;cases hy;omega
 .simp only[dQ]at hk;rw[Hv hbl];simp only[ab];refine ef (P:=λ_=>True) (dl (λ_=>dj (by omega)) λ_=>trivial) λ_ _=>eo λ_ y hy hy3=>?_;rw[hx]at hy;cases hy;omega
 .unfold Ahx;rw[Fs h hp,Aex h hc,Hv hbl];simp only[ab,bne_self_eq_false,eB];refine eo λe y hy hy3=>?_;rw[hx]at hy;cases hy;simp only[ac,aW]at e;exact Aqy e.2
theorem A3k(h:Av b)(hp:Ap b p)(j:Int):Ok (Aoh b p j) λy=>y≠0\/((0<=j/\j<b.Ah.length)/\∀x,b.Ah[j.toNat]?=some x->x.Kind=3->E6 b p 3 x.B=none):=by unfold Aoh;rw[Fs h hp];simp only[ab];refine c6 (λhc=>by simp at hc) (λ_=>c6 (λ_=>eo (.inl (by simp))) (λhr=>?_));simp only[Asa,aZ,dN]at hr;refine(Avx h hp (by omega) (by omega)).bind λy hy=>?_;refine c6 (λ_=>eo (.inl (by simp))) (λh2=>?_);simp only[ch]at h2;have hy:=hy h2;refine(d5 (by omega) (by omega)).bind λx hx=>(A81 h hp x.A).bind λz hz=>?_;refine ef (P:=λ_=>True) (dl (λ_=>di (He _ _ hz)) λ_=>trivial) λ_ _=>?_;refine ef (P:=λ_=>True) (dl (λ_=>A0n h hp hx) λ_=>trivial) λ_ _=>?_;exact c6 (λ_=>eo (.inl (by simp))) (λ_=>eo (.inr ⟨⟨by omega,by omega⟩,hy⟩))
theorem Axk(h:Av b)(hp:Ap b p)(i:Int):Ok (Aol b p i) λy=>y.2≠0\/Ap b y.1:=by
 have hn:=hp.ncl;unfold Aol;rw[H1 h hp];simp only[ab];refine(A3k h hp i).bind λy hy=>c6 (λhc=>eo (.inl (by simpa using hc))) (λhc=>?_);simp only[dW]at hc;rcases hy with hy|⟨hr,hf⟩
 .exact absurd hc hy
 .refine(d5 hr.1 (by omega)).bind λ_ _=>(d9 hr.1).bind λz hz=>?_;obtain⟨x,hx⟩:∃x,b.Ah[i.toNat]?=some x:=⟨_,aj (by omega)⟩;have hq:=A5d hp hx (hf x hx);rw[←hz]at hq;rw[Vr h hq];exact eo (.inr (K7 hq (Jz _ _) (Tc hq)))
theorem Awo(h:Av b)(hp:Ap b p)(i n:Int):Ok (Aoj b p i n) λy=>y.2≠0\/Ap b y.1:=by
 have hn:=hp.nso;unfold Aoj;rw[Fs h hp,H1 h hp];simp only[ab];refine c6 (λhc=>by simp at hc) (λ_=>c6 (λ_=>eo (.inl (by simp))) (λhr=>?_));simp only[Asd,aZ,dN]at hr;refine(Vf h hp n).bind λy hy=>?_;refine ef (P:=λ_=>True) (dl (λ_=>dj (by omega)) λ_=>trivial) λu _=>?_;refine c6 (λ_=>eo (.inl (by simp))) (λhc=>?_);simp only[aZ,ch]at hc;have hy:=hy hc.1;unfold Ayv;rw[Fs h hp,V4 h hp];simp only[ab,bne_self_eq_false,eB];have hrun:∀w,p.Ad[y.1.toNat]?=some w->Ez w:=λw hw=>hp.run w (ae hw);refine c6 (λ_=>?_) (λ_=>?_)
 .refine(Azh h hp _).bind λz hz=>(d5 hy.1 hy.2).bind λw hw=>?_;rw[Adn hz];exact eo (.inr (K7 hp (I0 _ _ _) (Sr (hrun w hw) _ _ hz hp.run)))
 .refine(d5 hy.1 hy.2).bind λw hw=>?_;have hz:∀k,k∈[i]->0<=k/\k<p.Ad.length:=λk hk=>by
   grind
  rw[Adn hz];exact eo (.inr (K7 hp (I0 _ _ _) (Sr (hrun w hw) _ _ hz hp.run)))
theorem Vi(h:Av b)(hc:p.Ag.length=b.Ah.length)(t:Int)(h0:0<=i)(h1:i<b.Ad.length):Ok (Sb ⟨b,p,t⟩ i) λ_=>True:=by obtain⟨j,x,e,hx,_⟩:=uB h h0 h1;have hj:=(aa.1 hx).1;unfold Sb;rw[Anv h,e];simp only[ab];exact(dj (by omega)).bind λ_ _=>eo trivial
def Yb(b:Aa)(y:Int×Bg):Prop:=y.1≠0\/Ap b y.2.Ax
variable{t:Int}
theorem Avv(h:Av b)(hp:Ap b p)(ht:0<=t/\t<=2147483648)(h0:0<=i)(h1:i<b.Ad.length):Ok (uX ⟨b,p,t⟩ i) (Yb b):=by
 have hn:=hp.nso;have hbl:p.Ai.length<=1000:=by have:=hp.brk.len;omega
 unfold uX;refine(dj h0 (by dsimp only;omega)).bind λu _=>ef (P:=λ_=>True) (dl (λ_=>di (Hv hbl _ _)) λ_=>trivial) λ_ _=>?_;refine c6 (λ_=>eo (.inl (by simp))) (λ_=>(dj h0 h1).bind λs _=>?_);refine ef (P:=λ_=>True) (dl (λ_=>Vi h hp.ncl t h0 h1) λ_=>trivial) λ_ _=>?_;refine c6 (λ_=>?_) (λ_=>?_)
 .exact(d9 h0 (by dsimp only;omega)).bind λz hz=>eo (.inr (by rw[hz];exact K7 hp (by simp) (Om hp.run ⟨by dsimp only;omega,ht,by dsimp only;omega,by dsimp only;omega⟩)))
 .exact(d9 h0 (by dsimp only;omega)).bind λz hz=>eo (.inr (by rw[hz];exact K7 hp (by simp) (Om hp.run ⟨by dsimp only;omega,ht,by dsimp only;omega,by dsimp only;omega⟩)))
theorem A0o(h:Av b)(hp:Ap b p)(h0:0<=i)(h1:i<b.Ad.length):Ok (uW ⟨b,p,t⟩ i) (Yb b):=by have hn:=hp.nso;unfold uW;refine(d5 h0 (by dsimp only;omega)).bind λu hu=>?_;have hr:=hp.run u (ae hu);refine ef (P:=λ_=>True) (dl (λ_=>Vi h hp.ncl t h0 h1) λ_=>trivial) λ_ _=>?_;refine c6 (λ_=>eo (.inl (by simp))) (λ_=>(d9 h0 (by dsimp only;omega)).bind λz hz=>eo (.inr ?_));rw[hz];exact K7 hp (by simp) (Om hp.run ⟨by dsimp only;omega,hr.2⟩)
theorem Awq(hp:Ap b p){v:Int}(h0:0<=i)(h1:i<b.Ae.length):Ok (uV ⟨b,p,t⟩ i v) (Yb b):=by
 have hn:=hp.nli;unfold uV;refine ef (P:=λy=>0<=v->b.Ae[i.toNat]?=some y) (c9 (λ_=>(d5 h0 h1).mono λy hy _=>hy) λhg hv=>(hg ⟨by simp;omega,trivial⟩).elim) λc hc=>?_;refine c6 (λ_=>eo (.inl (by simp))) (λhr=>?_);simp only[Afq,aZ,dN]at hr;have hc:=hc (by omega);refine(dj h0 (by dsimp only;omega)).bind λ_ _=>(d9 h0 (by dsimp only;omega)).bind λz hz=>eo (.inr ?_);subst hz;exact {
  ncl:=hp.ncl
  nso:=hp.nso
  nli:=by simpa using hp.nli
  run:=hp.run
  lim:=λk m y hk hy=>by
   dsimp only at hk;rw[aS]at hk;split at hk
   .grind
   .exact hp.lim k m y hk hy
  one:=hp.one
  brk:=hp.brk}
theorem A04(x:Int):0<=F8 x/\F8 x<=3599:=by
 have:=Sp (x:=x) (n:=3600) (by omega);unfold F8;by_cases h:Int.tmod x 3600<0
 .rw[dU h,ez,Az];omega
 grind
theorem A0l(h:Av b)(hp:Ap b p):Ok (Aog b p) λy=>Ap b y.1/\y.1.Ag=p.Ag/\y.2=0:=by have hs:=h.sol;have hn:=hp.nso;unfold Aog;rw[Fs h hp,H1 h hp];simp only[ab];refine c6 (λhc=>by simp at hc) (λ_=>?_);refine ee (A:=λs=>s.length=p.Ad.length/\∀x,x∈s->Ez x) (B:=λ(_:Unit)=>False) ?_ (λs hs=>eo ⟨K7 hp hs.1 hs.2,rfl,rfl⟩) eq;refine c8 (I:=λ_ s=>s.length=p.Ad.length/\∀x,x∈s->Ez x) ⟨rfl,hp.run⟩ (λj x s hx hs=>?_) λs hs=>hs;have hj:=(aa.1 hx).1;have hcnt:cnt 0 j=(j:Int):=Cv (by omega);unfold Ako;rw[hcnt];refine c6 (λ_=>?_) (λ_=>c7 hs);refine(d5 (by omega) (by omega)).bind λu hu=>(d9 (by omega)).bind λz hz=>c7 ?_;have hr:=hs.2 u (ae hu);rw[hz];exact⟨by simpa using hs.1,Om hs.2 ⟨hr.1,hr.2.1,hr.2.2.1,A04 _⟩⟩
theorem A0j(h:Av b)(hp:Ap b p)(t:Int):Ok (uU ⟨b,p,t⟩) λy=>Ap b y.Ax:=by
 have hso:=h.sol;unfold uU;refine(A0l h hp).bind λ⟨q,e⟩ hq=>?_;dsimp only at hq ⊢;obtain⟨hq,_,_⟩:=hq;have hn:=hq.nso;refine ee (A:=λs=>s.2.length=q.Ad.length/\∀x,x∈s.2->Ez x) (B:=λ(_:Unit)=>False) ?_ (λs hs=>eo (K7 hq hs.1 hs.2)) eq;refine d4 (λs=>(0<=s.1/\s.1<=(q.Ad.length:Int))/\s.2.length=q.Ad.length/\∀x,x∈s.2->Ez x) (λs=>((q.Ad.length:Int)-s.1).toNat) _ _ ?_ ?_ ?_
 .exact⟨by dsimp only;omega,rfl,hq.run⟩
 .dsimp only;omega
 .rintro⟨i,s⟩ ⟨⟨h1,h2⟩,h3,h4⟩;dsimp only at h1 h2 h3 h4;unfold Aci Afp;dsimp only;refine c6 (λhc=>?_) (λ_=>d8 ⟨h3,h4⟩);simp only[dM]at hc;have e1:w64 (i+1)=i+1:=Az;refine(d5 h1 (by omega)).bind λu hu=>?_;have hr:=h4 u (ae hu);refine ef (P:=λ_=>True) (dl (λ_=>Vi h hq.ncl t h1 (by omega)) λ_=>trivial) λ_ _=>?_;refine ef (P:=λ_=>True) (dl (λ_=>dj h1) λ_=>trivial) λ_ _=>?_;rw[e1];refine c6 (λ_=>?_) (λ_=>c7 ⟨⟨by dsimp only;omega,h3,h4⟩,by dsimp only;omega⟩);refine(d9 h1).bind λz hz=>c7 ⟨⟨by dsimp only;omega,?_,?_⟩,by dsimp only;omega⟩
  .dsimp only;rw[hz];simpa using h3
  .dsimp only;rw[hz];exact Om h4 ⟨by dsimp only;omega,hr.2⟩
theorem bet{x:Int}(h:lo<=x/\x<=hi):Cj x lo hi=true:=(K6 x lo hi).2 h
def ofL(b:Aa)(q:Al->Bool):eQ:=(b.Ah.zipIdx.filter λz=>q z.1).map λz=>(z.2:Int)
theorem yG(h:Av b)(k i:Int):T9 b k i=some (ofL b λx=>Kc k i x):=by
 have hb:=h.brl;refine da ?_;unfold T9;refine ee (A:=λs=>s=ofL b λx=>Kc k i x) (B:=λ(_:Unit)=>False) ?_ (λs hs=>eo hs) eq;refine c8 (I:=λj s=>s=((b.Ah.zipIdx.take j).filter λz=>Kc k i z.1).map λz=>(z.2:Int)) rfl (λj x s hx hs=>?_) λs hs=>?_
 .have hj:=(aa.1 hx).1;have hcnt:cnt 0 j=(j:Int):=Cv (by omega);have hz:b.Ah.zipIdx[j]?=some (x,j):=by rw[List.getElem?_zipIdx,hx];simp
  have hsl:s.length<=j:=by grind
  unfold Aln;rw[hcnt,Bc hz,aY,bE,←hs];refine c6 (λhq=>?_) (λhq=>c7 (by simp[hq]));exact(d7 (by simp;omega)).bind λy hy=>c7 (by rw[hy];simp[hq])
 .rw[hs,show b.Ah.length=b.Ah.zipIdx.length from by simp,ay];rfl
theorem Adi(q:Al->Bool):∀(l:List Al)(k:Nat),((l.zipIdx k).filter λz=>q z.1).length=(l.filter q).length
 | [],_=>rfl
 |x::l,k=>by simp only[List.zipIdx_cons,aX];split <;> simp[Adi q l (k+1)]
theorem A03(b:Aa)(q:Al->Bool):(ofL b q).length=(b.Ah.filter q).length:=by unfold ofL;rw[ao,Adi]
theorem Adw(k:Int)(hk:k≠1)(i:Int)(x:Al):Kc k i x=(x.Kind==k&&x.B==i):=by unfold Kc;grind
theorem yF(hk:k≠1)(i:Nat):(ofL b λx=>Kc k (i:Int) x).length=(brs b.Ah k i).length:=by rw[A03];unfold brs;congr 1;exact cm λx _=>Adw k hk i x
theorem Adu(h:Av b):Aox b=some true:=by
 have hs:=h.sol;have hc:=h.col;have hb:=h.buses;have hbl:=h.brl;refine da ?_;unfold Aox;rw[Du b.Ah 0 λj x hj=>?_]
 .rw[show ∀(f:Unit->Option Bool),andThen (some (Ctl.next ()):Option (Ctl Unit Bool)) some f=f () from λ_=>rfl];refine ee (A:=λ_=>True) (B:=λ(_:Bool)=>False) ?_ (λ_ _=>?_) eq
  .refine d4 (λs=>0<=s/\s<=(b.Ad.length:Int)) (λs=>((b.Ad.length:Int)-s).toNat) _ (0:Int) (by omega) (by omega) ?_;rintro i ⟨h1,h2⟩;unfold Ak4 Akf;refine c6 (λhq=>?_) (λ_=>d8 trivial);simp only[dM]at hq;obtain⟨n,rfl⟩:∃n:Nat,i=(n:Int):=⟨i.toNat,by omega⟩;rw[yG h];simp only[ab];have hone:=h.one n (by omega);rw[yF (by decide),hone,Az];refine c6 (λhc=>by simp at hc) (λ_=>c7 ⟨by omega,by omega⟩)
  .refine ee (A:=λ_=>True) (B:=λ(_:Bool)=>False) ?_ (λ_ _=>eo rfl) eq;refine d4 (λs=>0<=s/\s<=(b.Ae.length:Int)) (λs=>((b.Ae.length:Int)-s).toNat) _ (0:Int) (by omega) (by omega) ?_;rintro i ⟨h1,h2⟩;unfold Ak3 Ake;refine c6 (λhq=>?_) (λ_=>d8 trivial);simp only[dM]at hq;obtain⟨n,rfl⟩:∃n:Nat,i=(n:Int):=⟨i.toNat,by omega⟩;rw[yG h];simp only[ab];have hany:=h.any n (by omega);have hpos:0<(brs b.Ah 3 n).length:=List.length_pos_iff.2 hany;rw[yF (by decide),Az];refine c6 (λhc=>?_) (λ_=>c7 ⟨by omega,by omega⟩);simp only[dM]at hc;omega
 .have hjl := (aa.1 hj).1;obtain⟨⟨a0,a1⟩,hk⟩:=h.br x (ae hj);rw[aN];have hcnt:cnt 0 j=(j:Int):=Cv (by omega);have e1:w64 (b.Ao-1)=b.Ao-1:=Az;have e2:w64 (x.A+1)=x.A+1:=Az;have e3:w64 ((b.Ad.length:Int)-1)=(b.Ad.length:Int)-1:=Az;have e4:w64 ((b.Ae.length:Int)-1)=(b.Ae.length:Int)-1:=Az;unfold Ak5 Aso Asn Asm;rw[e1,e2,e3,e4,hcnt,bet (x:=x.A) (by omega)];simp only[aH,eB];rcases hk with⟨hk,h1,h2⟩|⟨hk,h1,h2⟩|⟨hk,h1,h2⟩
  .rw[hk,bet (x:=x.B) (lo:=x.A+1) (by omega)];rfl
  .rw[hk,bet (x:=x.B) (lo:=0) (hi:=(b.Ad.length:Int)-1) (by omega)];rfl
  .rw [hk, bet (x := x.B) (lo := 0) (hi := (b.Ae.length : Int) - 1) (by omega)];have hcut:cutI b.Ah 0 (j:Int)=some (b.Ah.take j):=by
    refine da ((Ok.cutI (by omega) (by omega) (by omega)).mono λy hy=>?_);rw[hy];simp
   show ((cutI b.Ah 0 (j:Int)).bind λy9=>andThen (foldI (zY x) y9 0 ()) (λv=>some (Ctl.ret v)) λz1=>some (Ctl.next ()))=some (Ctl.next ());rw[hcut];simp only[ab];rw[Du _ 0 λm y hy=>?_]
   .rfl
   .have hml:m<j:=by
     have:=(aa.1 hy).1;simp only[aV]at this;omega
    have hyb:b.Ah[m]?=some y:=by rw[aq,eC hml]at hy;exact hy
    unfold zY;have hne:Afv x y=false:=by
     unfold Afv;rw[cq];intro e;simp only[bO,ac,dQ]at e;obtain⟨e1,e2,e3⟩:=e;have hn:=h.nodup x.B.toNat;have hsplit:b.Ah=b.Ah.take j++(x::b.Ah.drop (j+1)):=by
      conv=>lhs;rw[←bI j b.Ah]
      rw[List.drop_eq_getElem_cons hjl];have:b.Ah[j]=x:=by rw[aj hjl]at hj;cases hj;rfl
      rw[this]
     rw[hsplit,Ip,bE]at hn;have hBn:x.B=(x.B.toNat:Int):=by omega
     have hmem1:y.A∈(brs (b.Ah.take j) 3 x.B.toNat).map (·.A):=by refine an.2 ⟨y,?_,rfl⟩;unfold brs;refine ar.2 ⟨ae hy,?_⟩;rw[e1,hk,e3,←hBn];simp
     have hmem2:x.A∈(brs (x::b.Ah.drop (j+1)) 3 x.B.toNat).map (·.A):=by refine an.2 ⟨x,?_,rfl⟩;unfold brs;refine ar.2 ⟨ai,?_⟩;rw[hk,←hBn];simp
     exact(List.nodup_append.1 hn).2.2 _ hmem1 _ hmem2 e2
    rw[hne];rfl
theorem Aim(h:Av b):Aow b=some true:=by
 unfold Aow;rw[Du b.Ad 0 λj x hj=>?_]
 .rfl
 .obtain⟨h1,h2,h3⟩:=h.so x (ae hj);unfold Ak2 Asl;rw[bet h1,bet h2,bet h3];rfl
theorem Acx(h:Av b):Aov b=some true:=by
 have hcl:=h.col;unfold Aov;rw[Du b.Ae 0 λj x hj=>?_]
 .rfl
 .obtain⟨h1,h2,h3,h4,h5,h6,h7⟩:=h.co j x hj;have hjl:=(aa.1 hj).1;rw[aN];have hcnt:cnt 0 j=(j:Int):=Cv (by omega);unfold Ak1 Asj;rw[bet h1,bet h2,bet h3,bet h4];have hd:decide ((x.Needs.length:Int)>4)=false:=by simp;omega
  rw[hd];simp only[aH,Bool.or_false,eB];rw[Du x.Needs 0 λm n hm=>?_]
  .rfl
  .have hml:=(aa.1 hm).1;rw[aN];have hcm:cnt 0 m=(m:Int):=Cv (by omega);have hn:=h6 n (ae hm);unfold Ak0 Asi;rw[hcnt,hcm,Az (n:=(j:Int)-1),bet (x:=n) (by omega)];cases m with
   |zero=>rfl
   |succ m=>
    obtain⟨a,ha⟩:∃a,x.Needs[m]?=some a:=⟨_,aj (by omega)⟩;have hlt:=h7 m a n ha hm;have e:w64 (((m+1:Nat):Int)-1)=(m:Int):=by rw[Az];omega
    have hp:decide (((m+1:Nat):Int)>0)=true:=dU (by omega);have hq:decide (a>=n)=false:=by simp;omega
    rw[e,Bl ha,hp];simp[Au,E4,hq]
theorem Y0(h:Av b):Zy b=some 0:=by
 have h1:=h.buses;have h2:=h.brl;have h3:=h.sol;have h4:=h.col;have h5:=h.phase;have h6:=h.freq;unfold Zy;rw[Adu h,Aim h,Acx h];have e:Af1 b=false:=by rw[cq];intro e;simp[Af1]at e;omega
 have e2:Af0 b true true true=false:=by rw[cq];intro e;simp[Af0]at e;omega
 rw[e];simp only[eB,ab];have g1:(Au [(!true,false)] (some true) default:Option Bool)=some true:=rfl;grind
theorem Aa1(i:Nat)(C:eT):∀(l:List Al)(c:eT)(k:Nat),C.drop k=c->l.length=c.length ->
  (((l.zipIdx k).filter λz=>z.1.Kind==3&&z.1.B==(i:Int)).filter λz=>C.getD z.2 false).length=(Dk l c i).length
 | [],_,_,_,_=>by simp[Dk]
 |x::l,[],_,_,h=>by simp at h
 | x::l,v::c,k,hd,h=>by
  have hv:C[k]?=some v:=by have:=congrArg (·[0]?) hd;simpa[List.getElem?_drop]using this
  have hd':C.drop (k+1)=c:=by rw[←bC,hd];rfl
  have ih:=Aa1 i C l c (k+1) hd' (by simpa using h);have hg:C.getD k false=v:=by simp[List.getD,hv]
  simp only[List.zipIdx_cons,aX,Dk,bG]at ih ⊢;grind
theorem Hb(h:Av b)(hp:Ap b p):F75 b p=some 0:=by
 have h3:=h.sol;have h4:=h.col;have hbl:=h.brl;have hncl:=hp.ncl;have hnso:=hp.nso;have hnli:=hp.nli;refine da ?_;unfold F75;rw[Y0 h];simp only[ab];refine c6 (λhc=>by simp at hc) (λ_=>c6 (λhc=>?_) (λ_=>?_))
 .simp[Azy,hncl,hnso,hnli]at hc
 rw[Du p.Ad 0 λj x hj=>?_]
 .rw [show ∀(f : Unit -> Option Int), andThen (some (Ctl.next ()) : Option (Ctl Unit Int)) some f = f () from λ_ => rfl];rw[Du p.Aj 0 λj x hj=>?_]
  .rw [show ∀(f : Unit -> Option Int), andThen (some (Ctl.next ()) : Option (Ctl Unit Int)) some f = f () from λ_ => rfl];have hlen:=hp.brk.len;refine c6 (λhc=>?_) (λ_=>?_)
   .simp only[dM]at hc;omega
   rw[Du p.Ai 0 λj x hj=>?_]
   .rw[show ∀(f:Unit->Option Int),andThen (some (Ctl.next ()):Option (Ctl Unit Int)) some f=f () from λ_=>rfl];refine ee (A:=λ_=>True) (B:=λ(_:Int)=>False) ?_ (λ_ _=>eo rfl) eq;refine d4 (λs=>0<=s/\s<=(b.Ae.length:Int)) (λs=>((b.Ae.length:Int)-s).toNat) _ (0:Int) (by omega) (by omega) ?_;rintro i ⟨g1,g2⟩;unfold Ats Azv;refine c6 (λhq=>?_) (λ_=>d8 trivial);simp only[dM]at hq;obtain⟨n,rfl⟩:∃n:Nat,i=(n:Int):=⟨i.toNat,by omega⟩;rw[yG h];simp only[ab];have hone:=hp.one n (by omega);have hz:ofL b (λx=>Kc 3 (n:Int) x)=((b.Ah.zipIdx.filter λz=>z.1.Kind==3&&z.1.B==(n:Int)).map λz=>(z.2:Int)):=by
     unfold ofL;congr 1;exact cm λz _=>Adw 3 (by decide) n z.1
    have hzf:=Aa1 n p.Ag b.Ah p.Ag 0 rfl (by omega);rw[hz];have hin:∀z,z∈(b.Ah.zipIdx.filter λz=>z.1.Kind==3&&z.1.B==(n:Int))->z.2<p.Ag.length:=by rintro⟨x,j⟩ hm;have:=(ar.1 hm).1;rw[cY]at this;have:=(aa.1 this).1;dsimp only;omega
    have hsz:(b.Ah.zipIdx.filter λz=>z.1.Kind==3&&z.1.B==(n:Int)).length<=24:=aA (bc _ _) (by simpa using hbl);generalize hm:(b.Ah.zipIdx.filter λz=>z.1.Kind==3&&z.1.B==(n:Int))=m at hin hsz hzf;refine(c8 (xs:=m.map λz=>(z.2:Int)) (I:=λj s=>s=(((m.take j).filter λz=>p.Ag.getD z.2 false).length:Int)) (A:=λs=>s=((m.filter λz=>p.Ag.getD z.2 false).length:Int)) (B:=λ(_:Unit)=>False) rfl (λj x s hx hs=>?_) λs hs=>?_).inner (λs hs=>?_) eq
    .rw[aB,bW]at hx;obtain⟨z,hz,rfl⟩:=hx;have hzl:=hin z (ae hz);obtain⟨v,hv⟩:∃v,p.Ag[z.2]?=some v:=⟨_,aj hzl⟩;have hg:p.Ag.getD z.2 false=v:=by simp[List.getD,hv]
     have hle:((m.take j).filter λz=>p.Ag.getD z.2 false).length<=24:=aA (bc _ _) (by simp;omega);unfold Atr;rw[Bl hv,Bc hz,aY];simp only[ab];refine c6 (λhq=>c7 ?_) (λhq=>c7 ?_)
     .rw[hs,Az,aX,hg,eC hq];simp
     .rw[hs,aX,hg,eF (ff hq)];simp
    .rw[ao,ay]at hs;exact hs
    .rw[hs,hzf,Az];refine c6 (λhc=>?_) (λ_=>c7 ⟨by omega,by omega⟩);simp only[dM]at hc;omega
   .have hjl:=(aa.1 hj).1;rw[aN];have hcnt:cnt 0 j=(j:Int):=Cv (by omega);unfold Att Azw;rw[(Tf h x).2 (hp.brk.mem x (ae hj)),hcnt];cases j with
    |zero=>rfl
    | succ j=>
     obtain⟨a,ha⟩:∃a,p.Ai[j]?=some a:=⟨_,aj (by omega)⟩;have hlt:=hp.brk.asc j a x ha hj;have e:w64 (((j+1:Nat):Int)-1)=(j:Int):=by rw[Az];omega
     have hpz:decide (((j+1:Nat):Int)>0)=true:=dU (by omega);have hb:T_ a x=true:=by unfold T_;unfold R6 at hlt;simp only[aC,ac,dM,dQ];exact hlt
     rw[e,Bl ha,hpz];simp[Au,E4,hb]
  .have hjl:=(aa.1 hj).1;rw[aN];have hcnt:cnt 0 j=(j:Int):=Cv (by omega);obtain⟨c,hc⟩:∃c,b.Ae[j]?=some c:=⟨_,aj (by omega)⟩;unfold Atu;rw[hcnt,Bl hc];simp only[ab];rw[bet (hp.lim j x c hj hc)];rfl
 .have hr:=hp.run x (ae hj);unfold Atv Azx;rw[bet hr.1,bet hr.2.1,bet hr.2.2.1,bet hr.2.2.2];rfl
theorem Arr(h:l[n]?=some x):Fo (l.take n++l.drop (n+1)) n x=l:=by
 have hn:=(aa.1 h).1;have ht:(l.take n).length=n:=by simp;omega
 unfold Fo;rw[cT (by omega),List.take_take,Nat.min_self,List.drop_append_of_le_length (by omega),List.drop_of_length_le (by omega),List.nil_append]
 conv=>rhs;rw[←bI n l]
 rw[List.drop_eq_getElem_cons hn];grind
theorem V1(hn:n<l.length)(h:(l.take n++l.drop (n+1))[j]?=some y):(j<n/\l[j]?=some y)\/(n<=j/\l[j+1]?=some y):=by grind
theorem Axc(h:Av b)(hl:E8 b l)(hn:n<l.length):E8 b (l.take n++l.drop (n+1)):=by
 have hs:=Gg h hl;have hsm:∀y,y∈l->C5 y:=λy hy=>(hl.mem y hy).small h;have hlen:=hl.len;refine⟨by simp;omega,λy hy=>?_,λj y z hy hz=>?_⟩
 .grind[E8.mem]
 .rcases V1 hn hy with⟨a1,a2⟩|⟨a1,a2⟩ <;> rcases V1 hn hz with⟨b1,b2⟩|⟨b1,b2⟩
  .exact hl.asc j y z a2 b2
  .exact(Ac7 (hsm y (ae a2)) (hsm z (ae b2))).2 (hs j (j+1+1) y z (by omega) a2 b2)
  .omega
  .exact hl.asc (j+1) y z a2 b2
theorem Axd(h:Av b)(hl:E8 b l)(hx:l[n]?=some x):At (l.take n++l.drop (n+1)) x n/\(l.take n++l.drop (n+1))[n]? ≠ some x:=by
 have hs:=Gg h hl;have hn:=(aa.1 hx).1;refine⟨⟨by simp;omega,λj y hj hy=>?_,λj y hj hy=>?_⟩,λe=>?_⟩
 .grind[Gy]
 .grind[Gy]
 .rcases V1 hn e with⟨a1,_⟩|⟨_,a2⟩
  .omega
  .have:=hs n (n+1) x x (by omega) hx a2;omega
theorem A1o(h:Av b)(hp:Ap b p)(t:Int)(hx:C1 b x)(v:Bool):Ok (Hg ⟨b,p,t⟩ x v) (Yb b):=by
 obtain⟨n,hat⟩:=A0d h hp.brk hx;have hlen:=hp.brk.len;have hsearch:=Ks (Gg h hp.brk) (λy hy=>(hp.brk.mem y hy).small h) (hx.small h);have hbad:∀(hv:(p.Ai[n]?=some x)↔v=true),Ok (Hg ⟨b,p,t⟩ x v) (Yb b):=by
  intro hv;unfold Hg;refine hsearch.bind λy hy=>?_;obtain⟨m,e1,hat2,hf⟩:=hy;have e2:=hat.uniq hat2;subst e2;have:y.2=v:=by rw[bL];exact hf.trans hv
  rw[this];exact c6 (λ_=>eo (.inl (by simp))) (λhc=>by simp at hc)
 by_cases hin:p.Ai[n]?=some x
 .cases v with
  |true=>exact hbad ⟨λ_=>rfl,λ_=>hin⟩
  |false=>have hn:=(aa.1 hin).1;have he:=Axd h hp.brk hin;have hq:Ap b ⟨p.Ag,p.Ad,p.Aj,p.Ai.take n++p.Ai.drop (n+1)⟩:={ncl:=hp.ncl,nso:=hp.nso,nli:=hp.nli,run:=hp.run,lim:=hp.lim,one:=hp.one,brk:=Axc h hp.brk hn};have:=A06 h (p:=⟨p.Ag,p.Ad,p.Aj,p.Ai.take n++p.Ai.drop (n+1)⟩) hq.brk (q:=p) hx t he.1 he.2 (by simp;omega) (Arr hin).symm hp.nso;rw[this];refine eo (.inr ?_);exact K7 hq (Vt _ _ _) (Aez hp.run (λhk=>by have:=hp.nso;unfold C1 at hx;omega) (by omega))
 .cases v with
  |false=>grind
  | true=>
   by_cases hl:p.Ai.length<32
   .rw[Aj3 h hp hx t hat hin hl];exact eo (.inr (Am8 h hp hx hat hin hl))
   .unfold Hg;refine hsearch.bind λy _=>c6 (λ_=>eo (.inl (by simp))) (λ_=>c6 (λ_=>eo (.inl (by simp))) (λhc=>?_));simp[Pk]at hc;omega
def A4g:Ab:=⟨[],[],[],[]⟩
theorem Awu(a:As):Ok (Ahl b a) λy=>y=true->((a.Kind=1\/a.Kind=2)->C1 b ⟨2,a.Unit⟩)/\((a.Kind=3\/a.Kind=4)->C1 b ⟨1,a.Unit⟩)/\(a.Kind=5->C1 b ⟨4,a.Unit⟩)/\((a.Kind=8\/a.Kind=9)->C1 b ⟨a.Value,a.Unit⟩):=by
 unfold Ahl;refine ee (A:=λz=>z=true↔(a.Kind=1\/a.Kind=2)) (B:=λ(_:Unit)=>False) ?_ (λz hz=>?_) eq
 .unfold Aku;refine c6 (λhk=>dh ?_) (λhk=>dh ?_)
  .simp only[dQ]at hk ⊢;omega
  .simp only[dR,ne_eq]at hk;simp only[dQ];omega
 refine c6 (λhq=>eo λhk=>?_) (λhq=>?_)
 .have:=hz.1 hq;have hk:=(Kl b _ _).1 hk;exact⟨λ_=>hk,λe=>by omega,λe=>by omega,λe=>by omega⟩
 have hn12:¬(a.Kind=1\/a.Kind=2):=λe=>by rw[hz.2 e]at hq;cases hq
 refine ee (A:=λz=>z=true↔(a.Kind=3\/a.Kind=4)) (B:=λ(_:Unit)=>False) ?_ (λz hz=>?_) eq
 .unfold Akt;refine c6 (λhk=>dh ?_) (λhk=>dh ?_)
  .simp only[dQ]at hk ⊢;omega
  .simp only[dR,ne_eq]at hk;simp only[dQ];omega
 refine c6 (λhq=>eo λhk=>?_) (λhq=>?_)
 .have:=hz.1 hq;have hk:=(Kl b _ _).1 hk;exact⟨λe=>by omega,λ_=>hk,λe=>by omega,λe=>by omega⟩
 have hn34:¬(a.Kind=3\/a.Kind=4):=λe=>by rw[hz.2 e]at hq;cases hq
 refine c6 (λhq=>eo λhk=>?_) (λhq5=>c6 (λhq=>eo λ_=>?_) (λhq6=>c6 (λhq=>eo λhk=>?_) (λhq8=>c6 (λhq=>eo λhk=>?_) (λhq9=>eo λ_=>?_))))
 .simp only[dQ]at hq;have hk:=(Kl b _ _).1 hk;exact⟨λe=>by omega,λe=>by omega,λ_=>hk,λe=>by omega⟩
 .simp only[dQ]at hq;exact⟨λe=>by omega,λe=>by omega,λe=>by omega,λe=>by omega⟩
 .have hk:=(Kl b _ _).1 hk;simp only[dQ]at hq;exact⟨λe=>by omega,λe=>by omega,λe=>by omega,λ_=>hk⟩
 .have hk:=(Kl b _ _).1 hk;simp only[dQ]at hq;exact⟨λe=>by omega,λe=>by omega,λe=>by omega,λ_=>hk⟩
 grind
theorem A8b(h:Av b)(hp:Ap b p)(ht:0<=t/\t<=2147483648){a:As}(hk:1<=a.Kind/\a.Kind<=9)
  (hw:((a.Kind=1\/a.Kind=2)->C1 b ⟨2,a.Unit⟩)/\((a.Kind=3\/a.Kind=4)->C1 b ⟨1,a.Unit⟩)/\(a.Kind=5->C1 b ⟨4,a.Unit⟩)/\((a.Kind=8\/a.Kind=9)->C1 b ⟨a.Value,a.Unit⟩)):Ok (W0 ⟨b,p,t⟩ a) (Yb b):=by
 obtain⟨w1,w2,w3,w4⟩:=hw;unfold C1 at w2 w3;dsimp only at w2 w3;unfold W0;refine c6 (λ_=>(Axk h hp _).bind λy hy=>eo hy) (λq1=>?_);refine c6 (λ_=>(A01 h hp _).bind λy hy=>eo hy) (λq2=>?_);refine c6 (λ_=>(Awo h hp _ _).bind λy hy=>eo hy) (λq6=>?_);refine c6 (λq=>?_) (λq3=>?_)
 .simp only[dQ]at q;exact(Avv h hp ht (by omega) (by omega)).bind λy hy=>eo hy
 refine c6 (λq=>?_) (λq4=>?_)
 .simp only[dQ]at q;exact(A0o h hp (by omega) (by omega)).bind λy hy=>eo hy
 refine c6 (λq=>?_) (λq5=>?_)
 .simp only[dQ]at q;exact(Awq hp (by omega) (by omega)).bind λy hy=>eo hy
 refine c6 (λ_=>(A0j h hp t).bind λy hy=>eo (.inr hy)) (λq7=>?_);simp only[dR,ne_eq]at q1 q2 q3 q4 q5 q6 q7;exact(A1o h hp t (w4 (by omega)) _).bind λy hy=>eo hy
theorem A6n(h:Av b)(hp:Ap b p)(t:Int)(a:As):Ok (W8 b p t a) λy=>(y.2≠0/\y.1=A4g)\/(y.2=0/\Ap b y.1):=by
 unfold W8;rw[Fs h hp,H1 h hp];simp only[ab];refine c6 (λhc=>by simp at hc) (λ_=>c6 (λ_=>eo (.inl ⟨by simp,rfl⟩)) (λhr=>?_));simp only[qZ,aZ,dN]at hr;refine(Awu a).bind λy hy=>c6 (λ_=>eo (.inl ⟨by simp,rfl⟩)) (λhk=>?_);simp only[ch]at hk;refine(A8b h hp (by omega) (by omega) (hy hk)).bind λz hz=>c6 (λhc=>eo (.inl ⟨by simpa using hc,rfl⟩)) (λhc=>?_);simp only[dW]at hc;rcases hz with hz|hz
 .exact absurd hc hz
 .exact eo (.inr ⟨rfl,hz⟩)

abbrev Ey:=List (Al×Bool)
def Tie(L:Ey)(i j:Nat):Prop:=∃z,z∈L/\z.1.Kind=1/\z.2=true/\((z.1.A.toNat=i/\z.1.B.toNat=j)\/(z.1.A.toNat=j/\z.1.B.toNat=i))
variable{L:Ey}{i:Nat}
theorem Tie.symm(h:Tie L i j):Tie L j i:=by obtain⟨z,h1,h2,h3,h4⟩:=h;exact⟨z,h1,h2,h3,h4.symm⟩
inductive Eo(L:Ey)(i:Nat):Nat->Nat->Prop
 |refl:Eo L i 0 i
 |stay {r j:Nat}:Eo L i r j->Eo L i (r+1) j
 |step {r j k:Nat}:Eo L i r j->Tie L j k->Eo L i (r+1) k
def Hi(L:Ey)(i j:Nat):Prop:=∃r,Eo L i r j
theorem Hi.refl(L:Ey)(i:Nat):Hi L i i:=⟨0,.refl⟩
theorem Hi.tie{k:Nat}(h:Hi L i j)(t:Tie L j k):Hi L i k:=by obtain⟨r,h⟩:=h;exact⟨r+1,h.step t⟩
theorem Hi.trans{k:Nat}(h:Hi L i j)(h2:Hi L j k):Hi L i k:=by
 obtain⟨r,h2⟩:=h2;induction h2 with
 |refl=>exact h
 |stay _ ih=>exact ih
 |step _ t ih=>exact ih.tie t
theorem Hi.symm(h:Hi L i j):Hi L j i:=by
 obtain⟨r,h⟩:=h;induction h with
 |refl=>exact .refl L i
 |stay _ ih=>exact ih
 |step _ t ih=>exact(Hi.tie (.refl L _) t.symm).trans ih
theorem Eo.le{s:Nat}(h:Eo L i r j)(hs:r<=s):Eo L i s j:=by
 induction s with
 |zero=>grind
 |succ s ih=>
  by_cases e:r=s+1
  .subst e;exact h
  .exact(ih (by omega)).stay
open Classical in
noncomputable def cn (p:Nat->Prop):Nat->Nat
 |0=>0
 |n+1=>cn p n+if p n then 1 else 0
theorem Azq(p:Nat->Prop):∀n,cn p n<=n
 |0=>af _
 |n+1=>by have:=Azq p n;unfold cn;split <;> omega
theorem zA{p q:Nat->Prop}:∀n,(∀k,k<n->p k->q k)->cn p n<=cn q n
 |0,_=>af _
 |n+1,h=>by have:=zA n λk hk=>h k (by omega);grind[cn]
theorem Anm{p q:Nat->Prop}:∀n,(∀k,k<n->p k->q k)->cn p n=cn q n->∀k,k<n->q k->p k
 |0,_,_,k,hk,_=>by omega
 | n+1,h,e,k,hk,hq=>by
  have hm:=zA n λk hk=>h k (by omega);have h1:=h n (by omega);unfold cn at e;by_cases hp:p n
  .rw[eC hp,eC (h1 hp)]at e;by_cases ek:k=n
   .subst ek;exact hp
   .exact Anm n (λk hk=>h k (by omega)) (by omega) k (by omega) hq
  .rw[eF hp]at e;by_cases hqn:q n
   .rw[eC hqn]at e;omega
   .rw[eF hqn]at e;by_cases ek:k=n
    .subst ek;exact absurd hq hqn
    .exact Anm n (λk hk=>h k (by omega)) (by omega) k (by omega) hq
def uE(L:Ey)(n:Nat):Prop:=∀i j,Tie L i j->i<n/\j<n
theorem Eo.lt(hL:uE L n)(hi:i<n)(h:Eo L i r j):j<n:=by
 induction h with
 |refl=>exact hi
 |stay _ ih=>exact ih
 |step _ t _=>exact(hL _ _ t).2
theorem qQ(hL:uE L n)(_:i<n)(h:Hi L i j):Eo L i n j:=by
 have hst:∃r,r<=n/\∀k,k<n->Eo L i (r+1) k->Eo L i r k:=by
  by_cases hex:∃r,r<=n/\∀k,k<n->Eo L i (r+1) k->Eo L i r k
  .exact hex
  exfalso;have hgrow:∀r,r<=n->cn (Eo L i r) n<cn (Eo L i (r+1)) n:=by
   intro r hr;have hm:=zA (p:=Eo L i r) (q:=Eo L i (r+1)) n λk _ h=>h.stay;rcases Nat.lt_or_eq_of_le hm with h|h
   .exact h
   .exact absurd ⟨r,hr,Anm n (λk _ h=>h.stay) h⟩ hex
  have hge:∀r,r<=n+1->r<=cn (Eo L i r) n:=by
   intro r;induction r with
   |zero=>intro _;omega
   |succ r ih=>grind
  have h1:=hge (n+1) (af _);have h2:=Azq (Eo L i (n+1)) n;omega
 obtain⟨r,hr,hs⟩:=hst;obtain⟨s,h⟩:=h;have key:∀s k,Eo L i s k->Eo L i r k:=by
  intro s k h;induction h with
  |refl=>exact Eo.refl.le (by omega)
  |stay _ ih=>exact ih
  |step h0 t ih=>exact hs _ (hL _ _ t).2 (ih.step t)
 exact(key s j h).le hr
def Dy(b:Aa)(p:Ab):Ey:=b.Ah.zip p.Ag
theorem vX(h:Av b)(p:Ab):uE (Dy b p) b.Ao.toNat:=by rintro i j ⟨z,hz,hk,_,he⟩;have:=h.br z.1 (bX hz).1;unfold Uc at this;omega
theorem A86(h:i<s.length):s[i]?=some (s.getD i 0):=by grind
theorem Vl(hi:i<s.length):(F0 s z).getD i 0=if(z.1.Kind=1/\z.2=true)/\(i=z.1.A.toNat\/i=z.1.B.toNat)then min (s.getD z.1.A.toNat 0) (s.getD z.1.B.toNat 0) else s.getD i 0:=by unfold F0;grind
def Lab(L:Ey)(s:eQ):Prop:=∀i,i<s.length->Hi L (s.getD i 0).toNat i
theorem Aq4(h:Lab L s)(hz:z∈L)(hr:z.1.Kind=1->z.1.A.toNat<s.length/\z.1.B.toNat<s.length):Lab L (F0 s z):=by
 intro i hi;rw[Gm]at hi;rw[Vl hi];split
 .rename_i hc;obtain⟨⟨hk,hv⟩,hab⟩:=hc;obtain⟨ha,hb⟩:=hr hk;have tAB:Tie L z.1.A.toNat z.1.B.toNat:=⟨z,hz,hk,hv,.inl ⟨rfl,rfl⟩⟩;have c1:=h _ ha;have c2:=h _ hb;rcases Int.le_total (s.getD z.1.A.toNat 0) (s.getD z.1.B.toNat 0) with e|e
  .rw[Int.min_eq_left e];rcases hab with rfl|rfl
   .exact c1
   .exact c1.tie tAB
  .rw[Int.min_eq_right e];rcases hab with rfl|rfl
   .exact c2.tie tAB.symm
   .exact c2
 .exact h i hi
theorem S_{L:Ey}{n:Nat}:∀(l:Ey)(s:eQ),s.length=n->(∀z,z∈l->z∈L/\(z.1.Kind=1->z.1.A.toNat<n/\z.1.B.toNat<n))->Lab L s->Lab L (Ds l s)
 | [],_,_,_,h=>h
 |z::l,s,hs,hz,h=>S_ l (F0 s z) (by rw[Gm];exact hs) (λy hy=>hz y (al _ hy)) (Aq4 h (hz z ai).1 (by grind))
theorem Vm(z:Al×Bool)(hi:i<s.length):(F0 s z).getD i 0<=s.getD i 0:=by rw[Vl hi];grind
theorem Ta:∀(l:Ey)(s:eQ){i:Nat},i<s.length->(Ds l s).getD i 0<=s.getD i 0
 | [],_,_,_=>ck _
 |z::l,s,i,hi=>Int.le_trans (Ta l (F0 s z) (by rw[Gm];exact hi)) (Vm z hi)
theorem qA:∀(l:Ey)(s:eQ){z:Al×Bool},z∈l->z.1.Kind=1->z.2=true->z.1.A.toNat<s.length->z.1.B.toNat<s.length->∀i,i=z.1.A.toNat\/i=z.1.B.toNat->(Ds l s).getD i 0<=min (s.getD z.1.A.toNat 0) (s.getD z.1.B.toNat 0)
 | [],_,_,h,_,_,_,_,_,_=>by cases h
 | y::l,s,z,hz,hk,hv,ha,hb,i,hi=>by
  show (Ds l (F0 s y)).getD i 0<=_;have hil:i<s.length:=by rcases hi with rfl|rfl <;> assumption
  by_cases e:z=y
  .subst e;refine Int.le_trans (Ta l _ (by rw[Gm];exact hil)) ?_;rw[Vl hil,eC ⟨⟨hk,hv⟩,hi⟩];exact ck _
  .have hz':z∈l:=by
    grind
   refine Int.le_trans (qA l (F0 s y) hz' hk hv (by rw[Gm];exact ha) (by rw[Gm];exact hb) i hi) ?_;have h1:=Vm y ha;have h2:=Vm y hb;omega
theorem M1(h:i<n):(Dz n).getD i 0=(i:Int):=by grind[Dz]
theorem Am0(hL:uE L n):∀r i j,i<n->j<n->Eo L j r i->((List.range r).foldl (λs _=>Ds L s) (Dz n)).getD i 0<=(j:Int):=by
 intro r;have hlen:∀r,((List.range r).foldl (λs _=>Ds L s) (Dz n)).length=n:=by
  intro r;induction r with
  |zero=>simp[Dz]
  |succ r ih=>rw[ci,aI];simp only[bA,List.foldl_nil,Hn];exact ih
 induction r with
 |zero=>intro i j hi hj h;cases h;show (Dz n).getD i 0<=_;rw[M1 hi];exact ck _
 | succ r ih=>
  intro i j hi hj h;have hrl:=hlen r;rw[ci,aI];simp only[bA,List.foldl_nil];generalize (List.range r).foldl (λs _=>Ds L s) (Dz n)=s at *;cases h with
  |stay h=>exact Int.le_trans (Ta L s (by omega)) (ih i j hi hj h)
  |step h t=>
   rename_i k;have hk:=hL _ _ t;have h1:=ih k j hk.1 hj h;obtain⟨z,hz,hz1,hz2,he⟩:=t;have hA:z.1.A.toNat<s.length:=by omega
   have hB:z.1.B.toNat<s.length:=by omega
   have h2:=qA L s hz hz1 hz2 hA hB i (by omega);grind
theorem N_(h:Av b)(p:Ab)(hi:i<b.Ao.toNat)(hj:j<b.Ao.toNat):(groups b p).getD i 0=(groups b p).getD j 0↔Hi (Dy b p) i j:=by
 have hL:=vX h p;have hlen:=Kf b p;have hlab:Lab (Dy b p) (groups b p):=by
  have hz:∀z,z∈Dy b p->z∈Dy b p/\(z.1.Kind=1->z.1.A.toNat<b.Ao.toNat/\z.1.B.toNat<b.Ao.toNat):=by intro z hz;refine⟨hz,λhk=>?_⟩;have:=h.br z.1 (bX hz).1;unfold Uc at this;omega
  have key:∀(xs:eR)(s:eQ),s.length=b.Ao.toNat->Lab (Dy b p) s->Lab (Dy b p) (xs.foldl (λs _=>Ds (b.Ah.zip p.Ag) s) s):=by
   intro xs;induction xs with
   |nil=>intro s _ h;exact h
   |cons x xs ih=>intro s hl h;exact ih _ (by rw[Hn];exact hl) (S_ _ s hl hz h)
  refine key _ _ (by simp[Dz]) ?_;intro k hk;have hk':k<b.Ao.toNat:=by simpa[Dz]using hk
  rw[M1 hk'];exact .refl _ k
 have hlow:∀i j,i<b.Ao.toNat->j<b.Ao.toNat->Hi (Dy b p) j i->(groups b p).getD i 0<=(j:Int):=λi j hi hj hc=>Am0 hL _ i j hi hj (qQ hL hj hc);have hlo:=Vn h p;have hrange:∀i,i<b.Ao.toNat->0<=(groups b p).getD i 0/\((groups b p).getD i 0).toNat<b.Ao.toNat:=by grind
 constructor
 .intro e;have c1:=hlab i (by omega);have c2:=hlab j (by omega);rw[e]at c1;exact c1.symm.trans c2
 .intro hc;have r1:=hrange i hi;have r2:=hrange j hj;have c1:=hlab i (by omega);have c2:=hlab j (by omega);have l1:=hlow j _ hj r1.2 (c1.trans hc);have l2:=hlow i _ hi r2.2 (c2.trans hc.symm);omega
def H6(s:eT)(z:Al×Bool):eT:=
 if(z.1.Kind=1/\z.2=true)/\(s.getD z.1.A.toNat false || s.getD z.1.B.toNat false)=true then (s.set z.1.A.toNat true).set z.1.B.toNat true else s
theorem Ha(s:eT)(z:Al×Bool):(H6 s z).length=s.length:=by unfold H6;split <;> simp
def Iv(L:Ey)(s:eT):eT:=L.foldl H6 s
theorem Nj:∀(l:Ey)(s:eT),(Iv l s).length=s.length
 | [],_=>rfl
 |z::l,s=>by show (Iv l (H6 s z)).length=_;rw[Nj l,Ha]
variable{s:eT}
theorem A8m(hi:i<s.length):(s.set m true).getD i false=(decide (m=i) || s.getD i false):=by grind
theorem My(hi:i<s.length):(H6 s z).getD i false=true↔s.getD i false=true\/(((z.1.Kind=1/\z.2=true)/\(s.getD z.1.A.toNat false || s.getD z.1.B.toNat false)=true)/\(i=z.1.A.toNat\/i=z.1.B.toNat)):=by unfold H6;grind
def Got(L:Ey)(n:Nat)(s:eT):Prop:=∀i,i<s.length->s.getD i false=true->Hi L n i
theorem Aqd(h:Got L n s)(hz:z∈L)(hr:z.1.Kind=1->z.1.A.toNat<s.length/\z.1.B.toNat<s.length):Got L n (H6 s z):=by
 intro i hi e;rw[Ha]at hi;rcases(My hi).1 e with e|⟨⟨⟨hk,hv⟩,ho⟩,hab⟩
 .exact h i hi e
 .obtain⟨ha,hb⟩:=hr hk;have t:Tie L z.1.A.toNat z.1.B.toNat:=⟨z,hz,hk,hv,.inl ⟨rfl,rfl⟩⟩;simp only[aC]at ho;rcases ho with ho|ho
  .have c:=h _ ha ho;rcases hab with rfl|rfl
   .exact c
   .exact c.tie t
  .have c:=h _ hb ho;rcases hab with rfl|rfl
   .exact c.tie t.symm
   .exact c
theorem Z_{L:Ey}{n m:Nat}:∀(l:Ey)(s:eT),s.length=m->(∀z,z∈l->z∈L/\(z.1.Kind=1->z.1.A.toNat<m/\z.1.B.toNat<m))->Got L n s->Got L n (Iv l s)
 | [],_,_,_,h=>h
 |z::l,s,hs,hz,h=>Z_ l (H6 s z) (by rw[Ha];exact hs) (λy hy=>hz y (al _ hy)) (Aqd h (hz z ai).1 (by grind))
theorem Su:∀(l:Ey)(s:eT){i:Nat},i<s.length->s.getD i false=true->(Iv l s).getD i false=true
 | [],_,_,_,h=>h
 |z::l,s,_,hi,h=>Su l (H6 s z) (by rw[Ha];exact hi) ((My hi).2 (.inl h))
theorem Z9:∀(l:Ey)(s:eT){z:Al×Bool},z∈l->z.1.Kind=1->z.2=true->z.1.A.toNat<s.length->z.1.B.toNat<s.length->(s.getD z.1.A.toNat false || s.getD z.1.B.toNat false)=true->∀i,i=z.1.A.toNat\/i=z.1.B.toNat->(Iv l s).getD i false=true
 | [],_,_,h,_,_,_,_,_,_,_=>by cases h
 | y::l,s,z,hz,hk,hv,ha,hb,ho,i,hi=>by
  show (Iv l (H6 s y)).getD i false=true;have hil:i<s.length:=by rcases hi with rfl|rfl <;> assumption
  by_cases e:z=y
  .subst e;exact Su l _ (by rw[Ha];exact hil) ((My hil).2 (.inr ⟨⟨⟨hk,hv⟩,ho⟩,hi⟩))
  .have hz':z∈l:=by
    grind
   refine Z9 l (H6 s y) hz' hk hv (by rw[Ha];exact ha) (by rw[Ha];exact hb) ?_ i hi;simp only[aC]at ho ⊢;exact ho.imp (λe=>(My ha).2 (.inl e)) (λe=>(My hb).2 (.inl e))
def Mz(L:Ey)(r:Nat)(s:eT):eT:=(List.range r).foldl (λs _=>Iv L s) s
theorem Mn(L:Ey)(r:Nat)(s:eT):Mz L (r+1) s=Iv L (Mz L r s):=by unfold Mz;rw[ci,aI];rfl
theorem Js(L:Ey)(s:eT):∀r,(Mz L r s).length=s.length
 |0=>rfl
 |r+1=>by rw[Mn,Nj,Js L s r]
theorem Al8(hL:uE L m)(hs:s.length=m)(hn:s.getD n false=true):∀r i,i<m->Eo L n r i->(Mz L r s).getD i false=true:=by
 intro r;induction r with
 |zero=>intro i _ h;cases h;exact hn
 | succ r ih=>
  intro i hi h;rw[Mn];have hl:=Js L s r;cases h with
  |stay h=>exact Su L _ (by omega) (ih i hi h)
  |step h t=>rename_i k;have hk:=hL _ _ t;have h1:=ih k hk.1 h;obtain⟨z,hz,hz1,hz2,he⟩:=t;refine Z9 L _ hz hz1 hz2 (by omega) (by omega) ?_ i (by omega);grind
def La(b:Aa)(p:Ab)(n:Nat):eQ:=((List.range b.Ao.toNat).filter λi=>(groups b p).getD i 0==(groups b p).getD n 0).map λ(i:Nat)=>(i:Int)
theorem Av3(h:Av b)(hp:Ap b p)(hn:n<b.Ao.toNat):Aoy b p (n:Int)=some (La b p n):=by
 have hbu:=h.buses;have hbl:=h.brl;have hncl:=hp.ncl;have hL:=vX h p;refine da ?_;unfold Aoy;refine(Ok.mkI (by omega) (by omega)).bind λy hy=>?_;have hyl:y.length=b.Ao.toNat:=by rw[hy];simp
 refine(dj (by omega)).bind λ_ _=>(d9 (by omega)).bind λz hz=>?_;rw[ax]at hz;have hzl:z.length=b.Ao.toNat:=by rw[hz];simpa using hyl
 have hzn:z.getD n false=true:=by rw[hz];simp[List.getD,hyl,hn]
 have hzg:Got (Dy b p) n z:=by
  intro i hi e;have hiy:i<y.length:=by omega
  rw[hz,A8m hiy]at e;simp only[aC,dM]at e;rcases e with e|e
  .subst e;exact .refl _ _
  .rw[hy]at e;simp[List.getD,show i<b.Ao.toNat by omega]at e
 clear hz;refine ee (A:=λs=>s=Mz (Dy b p) b.Ao.toNat z) (B:=λ(_:Unit)=>False) ?_ (λs hs=>?_) eq
 .refine c8 (I:=λj s=>s=Mz (Dy b p) j z) rfl (λj x s hx hs=>?_) λs hs=>by rw[hs,hzl]
  unfold Ak8;have hsl:s.length=b.Ao.toNat:=by rw[hs,Js,hzl]
  refine(c8 (I:=λk r=>r=Iv ((Dy b p).take k) s) (A:=λr=>r=Iv (Dy b p) s) (B:=λ(_:Unit)=>False) rfl (λk u r hu hr=>?_) λr hr=>?_).inner (λr hr=>c7 (by rw[hr,hs,Mn])) eq
  .have hk:=(aa.1 hu).1;have hcnt:cnt 0 k=(k:Int):=Cv (by omega);have hrl:r.length=b.Ao.toNat:=by rw[hr,Nj,hsl]
   obtain⟨⟨a0,a1⟩,hkind⟩:=h.br u (ae hu);obtain⟨v,hv⟩:∃v,p.Ag[k]?=some v:=⟨_,aj (by omega)⟩;have hzk:(Dy b p)[k]?=some (u,v):=by unfold Dy;rw[List.getElem?_zip_eq_some];exact⟨hu,hv⟩
   have hnext:Iv ((Dy b p).take (k+1)) s=H6 r (u,v):=by rw[Bc hzk,Iv,aI,hr];rfl
   rw[hnext];have hB:u.Kind=1->0<=u.B/\u.B<b.Ao:=λe=>by omega
   unfold Ak7;rw[hcnt,Bl hv];by_cases k1:u.Kind=1
   .have h2:=hB k1;obtain⟨ga,hga⟩:∃ga,r[u.A.toNat]?=some ga:=⟨_,aj (by omega)⟩;obtain⟨gb,hgb⟩:∃gb,r[u.B.toNat]?=some gb:=⟨_,aj (by omega)⟩;have hda:r.getD u.A.toNat false=ga:=by simp[List.getD,hga]
    have hdb:r.getD u.B.toNat false=gb:=by simp[List.getD,hgb]
    have ea:getI r u.A=some ga:=by have:=Bl hga;rwa [bh a0]at this
    have eb:getI r u.B=some gb:=by have:=Bl hgb;rwa [bh h2.1]at this
    rw[dQ.2 k1];refine ef (P:=λw=>w=v) (c9 (λ_=>eo rfl) λhn=>(hn ⟨rfl,trivial⟩).elim) λw hw=>?_;subst hw;cases w with
    |false=>refine ef (P:=λ_=>True) (dl (λ_=>dj a0) λ_=>trivial) λ_ _=>?_;refine ef (P:=λ_=>True) (dl (λ_=>dj h2.1) λ_=>trivial) λ_ _=>?_;refine c6 (λhq=>by simp[V8]at hq) (λ_=>c7 ?_);unfold H6;rw[eF (by simp)]
    | true=>
     rw[ea,eb];refine ef (P:=λw=>w=ga) (c9 (λ_=>eo rfl) λhn=>(hn ⟨rfl,trivial⟩).elim) λw hw=>?_;subst hw;refine ef (P:=λx=>(w || x)=(w || gb)) (c9 (λ_=>eo rfl) λhn=>?_) λx hx=>?_
     .cases w with
      |true=>rfl
      |false=>exact(hn ⟨rfl,rfl,trivial⟩).elim
     have hc8:V8 u true w x=(w || gb):=by unfold V8;rw[hx,dQ.2 k1];rfl
     rw[hc8];refine c6 (λhq=>?_) (λhq=>c7 ?_)
     .refine ef (P:=λ_=>True) (di rfl) λ_ _=>(d9 a0).bind λr1 e1=>?_;refine(dj h2.1 (by rw[e1];simp;omega)).bind λ_ _=>(d9 h2.1 (by rw[e1];simp;omega)).bind λr2 e2=>c7 ?_;rw[e2,e1];unfold H6;rw[eC ⟨⟨k1,rfl⟩,by rw[hda,hdb];exact hq⟩]
     .unfold H6;rw[eF (λe=>by have:=e.2;rw[hda,hdb,hq]at this;cases this)]
   .have k0:(u.Kind==1)=false:=dR.2 k1;rw[k0];refine ef (P:=λ_=>True) (c9 (λhg=>absurd hg.1 (by simp)) λ_=>trivial) λy7 _=>?_;refine ef (P:=λ_=>True) (c9 (λhg=>absurd hg.1 (by simp)) λ_=>trivial) λy9 _=>?_;refine ef (P:=λ_=>True) (c9 (λhg=>absurd hg.1 (by simp)) λ_=>trivial) λy11 _=>?_;refine c6 (λhq=>by simp[V8,k0]at hq) (λ_=>c7 ?_);unfold H6;rw[eF (λe=>k1 e.1.1)]
  .have:b.Ah.length=(Dy b p).length:=by unfold Dy;rw[List.length_zip];omega
   rw[hr,this,ay]
 .have hsl:s.length=b.Ao.toNat:=by rw[hs,Js,hzl]
  have hval:∀i,i<b.Ao.toNat->s.getD i false=((groups b p).getD i 0==(groups b p).getD n 0):=by
   intro i hi;rw[bL,dQ,N_ h p hi hn];have hg:∀r,Got (Dy b p) n (Mz (Dy b p) r z):=by
    intro r;induction r with
    |zero=>exact hzg
    |succ r ih=>rw[Mn];refine Z_ (m:=b.Ao.toNat) _ _ (by rw[Js,hzl]) (λy hy=>⟨hy,λhk=>?_⟩) ih;have:=h.br y.1 (bX hy).1;unfold Uc at this;omega
   constructor
   .intro e;rw[hs]at e;exact(hg _ i (by rw[Js,hzl];exact hi) e).symm
   .intro c;rw[hs];exact Al8 hL hzl hzn _ i hi (qQ hL hn c.symm)
  refine ee (A:=λy=>y=La b p n) (B:=λ(_:Unit)=>False) ?_ (λy hy=>eo hy) eq;refine c8 (I:=λj y=>y=((List.range j).filter λi=>(groups b p).getD i 0==(groups b p).getD n 0).map λ(i:Nat)=>(i:Int)) rfl (λj x y hx hy=>?_) λy hy=>?_
  .have hj:=(aa.1 hx).1;have hcnt:cnt 0 j=(j:Int):=Cv (by omega);have hv:=hval j (by omega);have hxd:s.getD j false=x:=by simp[List.getD,hx]
   rw[hxd]at hv;have hyl2:y.length<=j:=by rw[hy];exact E7 _ j
   rw[Ht,←hy];unfold Ak6;refine c6 (λhq=>?_) (λhq=>c7 ?_)
   .refine(d7 (by simp;omega)).bind λw hw=>c7 ?_;rw[hw,hcnt,eC (by rw[←hv];exact hq)]
   .rw[eF (by rw[←hv,hq];simp),aK]
  .rw[hy,hsl];rfl
def ofZ(b:Aa)(k i:Int):List (Al×Nat):=b.Ah.zipIdx.filter λz=>z.1.Kind==k&&z.1.B==i
theorem Amk(hk:k≠1)(i:Int):(ofL b λx=>Kc k i x)=(ofZ b k i).map λz=>(z.2:Int):=by unfold ofL ofZ;congr 1;exact cm λz _=>Adw k hk i z.1
variable{z:Al×Nat}{i:Int}
theorem Q7(h:z∈ofZ b k i):b.Ah[z.2]?=some z.1:=by have:=(ar.1 h).1;grind
theorem Adh(q:Al->Bool)(C:eT):∀(l:List Al)(c:eT)(k:Nat),C.drop k=c->l.length=c.length ->
  (((l.zipIdx k).filter λz=>q z.1).find? λz=>C.getD z.2 false).map (·.1)=((l.zip c).find? λz=>q z.1&&z.2).map (·.1)
 | [],_,_,_,_=>by simp
 |x::l,[],_,_,h=>by simp at h
 | x::l,v::c,k,hd,h=>by
  have hv:C[k]?=some v:=by have:=congrArg (·[0]?) hd;simpa[List.getElem?_drop]using this
  have hd':C.drop (k+1)=c:=by rw[←bC,hd];rfl
  have ih:=Adh q C l c (k+1) hd' (by simpa using h);have hg:C.getD k false=v:=by simp[List.getD,hv]
  simp only[List.zipIdx_cons,aX,bG,List.find?_cons];grind
theorem Ve(hc:p.Ag.length=b.Ah.length)(k i:Int):E6 b p k i=((ofZ b k i).find? λz=>p.Ag.getD z.2 false).map (·.1.A):=by have:=Adh (λx=>x.Kind==k&&x.B==i) p.Ag b.Ah p.Ag 0 rfl (by omega);unfold E6 ofZ;have h2:=congrArg (Option.map (·.A)) this;simp only[Option.map_map]at h2;exact h2.symm
theorem qS(hc:p.Ag.length=b.Ah.length)(h:z∈ofZ b k i):p.Ag[z.2]?=some (p.Ag.getD z.2 false):=by have:=(aa.1 (Q7 h)).1;grind
theorem yY(h:Av b)(hp:Ap b p)(i:Int):W6 b p i=some (E2 (F6 b p i)):=by
 have hn:=hp.nso;have hc:=hp.ncl;refine da ?_;unfold W6;rw[Hb h hp];simp only[ab];by_cases hi:0<=i/\i<b.Ad.length
 .obtain⟨x,hx⟩:∃x,p.Ad[i.toNat]?=some x:=⟨_,aj (by omega)⟩;have hg:getI p.Ad i=some x:=by have:=Bl hx;rwa [bh hi.1]at this
  have hd:p.Ad.getD i.toNat default=x:=by simp[List.getD,hx]
  have hcond:((((0:Int) != 0) || (decide (i<0))) || (decide (i>=(b.Ad.length:Int))))=false:=by rw[cq];intro e;simp at e;omega
  rw[hcond,hg];refine ef (P:=λy=>y=x) (c9 (λ_=>eo rfl) λhn=>(hn ⟨rfl,trivial⟩).elim) λy hy=>?_;subst hy;refine c6 (λhq=>eo ?_) (λhq=>?_)
  .simp only[qY,hcond,aQ,bne_iff_ne,ne_eq]at hq;unfold F6;rw[eF (λe=>by rw[hd]at e;exact hq e.2.2)];rfl
  .simp only[qY,hcond,aQ,dW]at hq;have hcon:F6 b p i=E6 b p 2 i:=by
    unfold F6;rw[eC ⟨hi.1,by omega,by rw[hd];exact hq⟩]
   rw[yG h,Amk (by decide),hcon,Ve hc];simp only[ab];obtain⟨n,rfl⟩:∃n:Nat,i=(n:Int):=⟨i.toNat,by omega⟩;have hlen:=yF (b:=b) (k:=2) (by decide) n;rw[Amk (by decide),h.one n (by omega),ao]at hlen;obtain⟨z,hz⟩:=List.length_eq_one_iff.1 hlen;have hzm:z∈ofZ b 2 (n:Int):=by rw[hz];exact ai
   have hcz:=qS hc hzm;have hbz:=Q7 hzm;rw[hz];show Ok ((getI [(z.2:Int)] 0).bind _) _;rw[show getI [(z.2:Int)] 0=some (z.2:Int) from rfl];simp only[ab,Bl hcz,List.find?_cons,List.find?_nil];cases hv:p.Ag.getD z.2 false with
   |false=>exact eo rfl
   |true=>simp only[aH,eB,Bl hbz,ab];exact eo rfl
 .refine ef (P:=λ_=>True) (c9 (λhg=>?_) λ_=>trivial) λy _=>?_
  .have:=hg.1;simp at this;omega
  refine c6 (λhq=>eo ?_) (λhq=>?_)
  .unfold F6;rw[eF (λe=>hi (by omega))];rfl
  .simp[qY]at hq;omega
theorem Aey(h:Av b)(hp:Ap b p)(h0:0<=i)(h1:i<b.Ae.length):Aab b p i=some (E2 (E6 b p 3 i)):=by
 have hc:=hp.ncl;refine da ?_;unfold Aab;rw[Hb h hp];simp only[ab];refine c6 (λhq=>?_) (λ_=>?_)
 .simp[Asp]at hq;omega
 rw[yG h,Amk (by decide),Ve hc];simp only[ab];have key:∀(m:List (Al×Nat))(k:Nat),(∀z,z∈m->b.Ah[z.2]?=some z.1/\p.Ag[z.2]?=some (p.Ag.getD z.2 false)) ->
   foldI (Aaa b p) (m.map λz=>(z.2:Int)) k ()=match m.find? λz=>p.Ag.getD z.2 false with
    |some z=>some (.ret (z.1.A,true))
    |none=>some (.next ()):=by
  intro m;induction m with
  |nil=>intro k _;rfl
  |cons z m ih=>intro k hm;obtain⟨e1,e2⟩:=hm z ai;simp only[bw,foldI,Aaa,Bl e1,Bl e2,ab,List.find?_cons];grind
 rw[key _ 0 λz hz=>⟨Q7 hz,qS hc hz⟩];cases (ofZ b 3 i).find? λz=>p.Ag.getD z.2 false with
 |none=>exact eo rfl
 |some z=>exact eo rfl
theorem jU(l:eQ)(x:Int):Ps l x=some (l.any (· == x)):=by
 unfold Ps;have:∀(l:eQ)(k:Nat),foldI (zZ x) l k ()=bif l.any (· == x)then some (.ret true) else some (.next ()):=by
  intro l;induction l with
  |nil=>intro k;rfl
  |cons y l ih=>grind[foldI,zZ]
 grind[andThen]
theorem Adp(h0:0<=a)(h1:a<b.Ao):(La b p n).any (· == a)=((groups b p).getD a.toNat 0==(groups b p).getD n 0):=by
 rw[bL,cr];constructor
 .rintro⟨x,hx,e⟩;rw[dQ]at e;subst e;obtain⟨i,hi,rfl⟩:=an.1 hx;grind
 .intro e;refine⟨a,an.2 ⟨a.toNat,ar.2 ⟨ba.2 (by omega),e⟩,by omega⟩,by simp⟩
theorem Kx(h:Av b)(p:Ab)(hn:n<b.Ao.toNat):0<=(groups b p).getD n 0/\((groups b p).getD n 0).toNat<=n/\(((groups b p).getD n 0).toNat:Int)=(groups b p).getD n 0:=by have:=Vn h p n _ (A86 (by rw[Kf];exact hn));omega
theorem Xw(h:Av b)(hp:Ap b p)(hn:n<b.Ao.toNat):Ls b p (n:Int)=some (isl b p ((groups b p).getD n 0).toNat,true):=by
 have hso:=h.sol;have hco:=h.col;have hg:=Kx h p hn;refine da ?_;unfold Ls;rw[Hb h hp];simp only[ab];refine c6 (λhc=>?_) (λ_=>?_)
 .simp[As3]at hc;omega
 rw[Av3 h hp hn];simp only[ab];refine ee (A:=λs=>s.2=Gf b p b.Ad.length ((groups b p).getD n 0).toNat) (B:=λ(_:Unit)=>False) ?_ (λs hs=>?_) eq
 .refine d4 (λs=>(0<=s.1/\s.1<=(b.Ad.length:Int))/\s.2=Gf b p s.1.toNat ((groups b p).getD n 0).toNat) (λs=>((b.Ad.length:Int)-s.1).toNat) _ _ ?_ ?_ ?_
  .exact⟨by dsimp only;omega,rfl⟩
  .dsimp only;omega
  .rintro⟨i,s⟩ ⟨⟨g1,g2⟩,g3⟩;dsimp only at g1 g2 g3;unfold Alp As2;dsimp only;have hsl:s.length<=i.toNat:=by rw[g3];exact E7 _ _
   refine c6 (λhq=>?_) (λhq=>d8 ?_)
   .simp only[dM]at hq;have e1:w64 (i+1)=i+1:=Az;have e2:(i+1).toNat=i.toNat+1:=by omega
    have e3:((i.toNat:Nat):Int)=i:=by omega
    rw[e1,yY h hp];simp only[ab,jU];have hnext:Gf b p (i.toNat+1) ((groups b p).getD n 0).toNat=s++if(G1 b p (F6 b p i)==some (((groups b p).getD n 0).toNat:Int))=true then [i] else []:=by unfold Gf at g3 ⊢;rw[Ht,←g3,e3]
    have hskip:(G1 b p (F6 b p i)==some (((groups b p).getD n 0).toNat:Int))=false->Ok (some (.next (i+1,s)):Option (Ctl (Int×eQ) Unit)) (I7 (λs'=>((0<=s'.1/\s'.1<=(b.Ad.length:Int))/\s'.2=Gf b p s'.1.toNat ((groups b p).getD n 0).toNat)/\((b.Ad.length:Int)-s'.1).toNat<((b.Ad.length:Int)-i).toNat) (λs=>s.2=Gf b p b.Ad.length ((groups b p).getD n 0).toNat) (λ_=>False)):=by intro hf;refine c7 ⟨⟨by dsimp only;omega,?_⟩,by dsimp only;omega⟩;dsimp only;rw[e2,hnext,hf];simp
    cases hco:F6 b p i with
    |none=>refine ef (P:=λ_=>True) (c9 (λhg=>absurd hg.1 (by simp[E2])) λ_=>trivial) λy _=>?_;refine c6 (λhq=>by simp[E2]at hq) (λ_=>hskip (by rw[hco];rfl))
    | some a=>
     have ha:=Tq h hco;refine ef (P:=λy=>y=(La b p n).any (· == a)) (c9 (λ_=>eo rfl) λhn=>(hn ⟨rfl,trivial⟩).elim) λy hy=>?_;rw[Adp ha.1 ha.2]at hy;have hgr:(G1 b p (F6 b p i)==some (((groups b p).getD n 0).toNat:Int))=((groups b p).getD a.toNat 0==(groups b p).getD n 0):=by rw[hco,hg.2.2];rfl
     refine c6 (λhq=>?_) (λhq=>?_)
     .simp only[E2,bu]at hq;refine(d7 (by simp;omega)).bind λw hw=>c7 ⟨⟨by dsimp only;omega,?_⟩,by dsimp only;omega⟩;dsimp only;rw[e2,hnext,hgr,←hy,hq,hw];rfl
     .simp only[E2,bu]at hq;exact hskip (by rw[hgr,←hy,hq])
   .simp only[dN]at hq;dsimp only;rw[g3];have:i.toNat=b.Ad.length:=by omega
    rw[this]
 .refine ee (A:=λs=>s.2=Fa b p b.Ae.length ((groups b p).getD n 0).toNat) (B:=λ(_:Unit)=>False) ?_ (λt ht=>eo ?_) eq
  .refine d4 (λs=>(0<=s.1/\s.1<=(b.Ae.length:Int))/\s.2=Fa b p s.1.toNat ((groups b p).getD n 0).toNat) (λs=>((b.Ae.length:Int)-s.1).toNat) _ _ ?_ ?_ ?_
   .exact⟨by dsimp only;omega,rfl⟩
   .dsimp only;omega
   .rintro⟨i,s⟩ ⟨⟨g1,g2⟩,g3⟩;dsimp only at g1 g2 g3;unfold Alo As1;dsimp only;have hsl:s.length<=i.toNat:=by rw[g3];exact E7 _ _
    refine c6 (λhq=>?_) (λhq=>d8 ?_)
    .simp only[dM]at hq;have e1:w64 (i+1)=i+1:=Az;have e2:(i+1).toNat=i.toNat+1:=by omega
     have e3:((i.toNat:Nat):Int)=i:=by omega
     rw[e1,Aey h hp g1 hq];simp only[ab,jU];have hnext:Fa b p (i.toNat+1) ((groups b p).getD n 0).toNat=s++if(G1 b p (E6 b p 3 i)==some (((groups b p).getD n 0).toNat:Int))=true then [i] else []:=by unfold Fa at g3 ⊢;rw[Ht,←g3,e3]
     have hskip:(G1 b p (E6 b p 3 i)==some (((groups b p).getD n 0).toNat:Int))=false->Ok (some (.next (i+1,s)):Option (Ctl (Int×eQ) Unit)) (I7 (λs'=>((0<=s'.1/\s'.1<=(b.Ae.length:Int))/\s'.2=Fa b p s'.1.toNat ((groups b p).getD n 0).toNat)/\((b.Ae.length:Int)-s'.1).toNat<((b.Ae.length:Int)-i).toNat) (λs=>s.2=Fa b p b.Ae.length ((groups b p).getD n 0).toNat) (λ_=>False)):=by intro hf;refine c7 ⟨⟨by dsimp only;omega,?_⟩,by dsimp only;omega⟩;dsimp only;rw[e2,hnext,hf];simp
     cases hco:E6 b p 3 i with
     |none=>refine ef (P:=λ_=>True) (c9 (λhg=>absurd hg.1 (by simp[E2])) λ_=>trivial) λy _=>?_;refine c6 (λhq=>by simp[E2]at hq) (λ_=>hskip (by rw[hco];rfl))
     | some a=>
      have ha:=O6 h hco;refine ef (P:=λy=>y=(La b p n).any (· == a)) (c9 (λ_=>eo rfl) λhn=>(hn ⟨rfl,trivial⟩).elim) λy hy=>?_;rw[Adp ha.1 ha.2]at hy;have hgr:(G1 b p (E6 b p 3 i)==some (((groups b p).getD n 0).toNat:Int))=((groups b p).getD a.toNat 0==(groups b p).getD n 0):=by rw[hco,hg.2.2];rfl
      refine c6 (λhq=>?_) (λhq=>?_)
      .simp only[E2,bu]at hq;refine(d7 (by simp;omega)).bind λw hw=>c7 ⟨⟨by dsimp only;omega,?_⟩,by dsimp only;omega⟩;dsimp only;rw[e2,hnext,hgr,←hy,hq,hw];rfl
      .simp only[E2,bu]at hq;exact hskip (by rw[hgr,←hy,hq])
    .simp only[dN]at hq;dsimp only;rw[g3];have:i.toNat=b.Ae.length:=by omega
     rw[this]
  .rw[hs,ht];unfold isl Fc La;rw[hg.2.2]
def Jl(b:Aa)(p:Ab)(f:Nat):Bool:=(groups b p).getD f 0==(f:Int)
theorem Mf(h:Av b)(p:Ab)(hn:n<b.Ao.toNat):Jl b p ((groups b p).getD n 0).toNat=true:=by
 have hg:=Kx h p hn;unfold Jl;rw[dQ,hg.2.2];have hm:((groups b p).getD n 0).toNat<b.Ao.toNat:=by omega
 have hL:=vX h p;have hself:Hi (Dy b p) ((groups b p).getD n 0).toNat n:=by
  have hlab:∀(xs:eR)(s:eQ),s.length=b.Ao.toNat->Lab (Dy b p) s->Lab (Dy b p) (xs.foldl (λs _=>Ds (b.Ah.zip p.Ag) s) s):=by
   intro xs;induction xs with
   |nil=>intro s _ h;exact h
   |cons x xs ih=>intro s hl h2;refine ih _ (by rw[Hn];exact hl) (S_ _ s hl (λz hz=>⟨hz,λhk=>?_⟩) h2);have:=h.br z.1 (bX hz).1;unfold Uc at this;omega
  refine hlab (List.range b.Ao.toNat) (Dz b.Ao.toNat) (by simp[Dz]) ?_ n ?_
  .intro k hk;rw[M1 (by simpa[Dz]using hk)];exact .refl _ k
  .have:=Kf b p;unfold groups at this;rw[this];exact hn
 exact(N_ h p hm hn).2 hself
theorem Aw7(h:Av b)(p:Ab)(hf:f<b.Ao.toNat):Km (isl b p f)=Jl b p f:=by
 rw[bL];unfold Km isl Fc;simp only[aW,dR,ne_eq,ao];constructor
 .intro e;have hne:(List.range b.Ao.toNat).filter (λi=>(groups b p).getD i 0==(f:Int))≠[]:=λe2=>e (by rw[e2];rfl);obtain⟨i,hi⟩:=List.exists_mem_of_ne_nil _ hne;obtain⟨h1,h2⟩:=ar.1 hi;rw[dQ]at h2;have:=Mf h p (ba.1 h1);grind
 .intro e e2;have hm:f∈(List.range b.Ao.toNat).filter (λi=>(groups b p).getD i 0==(f:Int)):=ar.2 ⟨ba.2 hf,e⟩;grind
def Mo(b:Aa)(p:Ab)(n:Nat):eR:=(List.range n).filter (Jl b p)
theorem Iw(h:Av b)(p:Ab):Bq b p=(Mo b p b.Ao.toNat).map (isl b p):=by unfold Bq Mo;rw[List.filter_map];congr 1;exact cm λf hf=>Aw7 h p (ba.1 hf)
theorem Aqc(h:Av b)(p:Ab)(hn:n<b.Ao.toNat):∃m:Nat,(La b p n)[0]?=some (m:Int)/\(m=n↔Jl b p n=true):=by
 have hg:=Kx h p hn;have hm:((groups b p).getD n 0).toNat<b.Ao.toNat:=by omega
 have hgg:=Mf h p hn;unfold Jl at hgg;rw[dQ,hg.2.2]at hgg;have hfind:(List.range b.Ao.toNat).find? (λi=>(groups b p).getD i 0==(groups b p).getD n 0)=some ((groups b p).getD n 0).toNat:=by rw[List.find?_range_eq_some];refine⟨by rw[dQ];exact hgg,ba.2 hm,λj hj=>?_⟩;simp only[aW,dR,ne_eq];intro e;have:=Kx h p (n:=j) (by omega);omega
 refine⟨((groups b p).getD n 0).toNat,?_,?_⟩
 .unfold La;rw[aB,←List.head?_eq_getElem?,List.head?_filter,hfind];rfl
 .unfold Jl;rw[dQ];omega
theorem Vg(h:Av b)(hp:Ap b p):Zv b p=some (Bq b p):=by
 have hbu:=h.buses;rw[Iw h];refine da ?_;unfold Zv;rw[Hb h hp];simp only[ab];refine c6 (λhc=>by simp at hc) (λ_=>?_);refine ee (A:=λs=>s.2=(Mo b p b.Ao.toNat).map (isl b p)) (B:=λ(_:Unit)=>False) ?_ (λs hs=>eo hs) eq;refine d4 (λs=>(0<=s.1/\s.1<=b.Ao)/\s.2=(Mo b p s.1.toNat).map (isl b p)) (λs=>(b.Ao-s.1).toNat) _ _ ?_ ?_ ?_
 .exact⟨by dsimp only;omega,rfl⟩
 .dsimp only;omega
 .rintro⟨i,s⟩ ⟨⟨g1,g2⟩,g3⟩;dsimp only at g1 g2 g3;unfold Akz;dsimp only;refine c6 (λhq=>?_) (λhq=>d8 ?_)
  .simp only[dM]at hq;obtain⟨n,rfl⟩:∃n:Nat,i=(n:Int):=⟨i.toNat,by omega⟩;have hn:n<b.Ao.toNat:=by omega
   have e1:w64 ((n:Int)+1)=(n:Int)+1:=Az;have e2:((n:Int)+1).toNat=n+1:=by omega
   have hg:=Kx h p hn;obtain⟨m,hm,hmn⟩:=Aqc h p hn;have hbuses:(isl b p ((groups b p).getD n 0).toNat).Ao=La b p n:=by unfold isl Fc La;rw[hg.2.2]
   rw[ax]at g3;have hsl:s.length<=n:=by rw[g3,ao];exact aA (bc _ _) (by simp)
   have hnext:Mo b p (n+1)=Mo b p n++if Jl b p n=true then [n] else []:=by unfold Mo;rw[ci,aY];congr 1;cases hq:Jl b p n <;> simp[hq]
   rw[e1,Xw h hp hn];simp only[ab,hbuses];have hg0:getI (La b p n) 0=some (m:Int):=Bl (j:=0) hm;rw[hg0];simp only[ab];refine c6 (λhq=>?_) (λhq=>c7 ⟨⟨by dsimp only;omega,?_⟩,by dsimp only;omega⟩)
   .simp only[dQ]at hq;have hle:=hmn.1 (by omega);refine(d7 (by simp;omega)).bind λw hw=>c7 ⟨⟨by dsimp only;omega,?_⟩,by dsimp only;omega⟩;dsimp only;have hgn:((groups b p).getD n 0).toNat=n:=by
     unfold Jl at hle;rw[dQ]at hle;omega
    rw[e2,hnext,eC hle,hw,g3,bE,hgn];rfl
   .simp only[dR,ne_eq]at hq;have hle:¬Jl b p n=true:=λe=>hq (by rw[hmn.2 e]);dsimp only;rw[e2,hnext,eF hle,aK,g3]
  .simp only[dN]at hq;dsimp only;have:i.toNat=b.Ao.toNat:=by omega
   rw[g3,this]
theorem Ql(h:Av b)(hp:Ap b p):Zz b p=some (⟨p.Ag,Gb b p,p.Aj,p.Ai⟩,0):=by
 have hn:=hp.nso;refine da ?_;unfold Zz;rw[Hb h hp];simp only[ab];refine c6 (λhc=>by simp at hc) (λ_=>?_);refine ef (P:=λy=>y=⟨p.Ag,Gb b p,p.Aj,p.Ai⟩) ?_ λy hy=>eo (by rw[hy]);unfold Ao2;rw[Rk h hp,Vg h hp];simp only[ab];refine ee (A:=λs=>s=Gb b p) (B:=λ(_:Unit)=>False) ?_ (λs hs=>eo (by rw[hs])) eq;refine c8 (I:=λj s=>s=((Bq b p).take j).foldl (Ed p) p.Ad) rfl (λj x s hx hs=>?_) λs hs=>?_
 .have hi:=Q9 (ae hx);have hl:s.length=p.Ad.length:=by rw[hs,Ms]
  have hnext:((Bq b p).take (j+1)).foldl (Ed p) p.Ad=Ed p s x:=by rw[Bc hx,aI,←hs];rfl
  rw[hnext];unfold Alf;cases hsrc:x.Ad with
  |nil=>exact c7 (by unfold Ed;rw[hsrc])
  | cons m l=>
   have hm:=hi m (by rw[hsrc];exact ai);obtain⟨u,hu⟩:∃u,p.Ad[m.toNat]?=some u:=⟨_,aj (by omega)⟩;have hgu:getI p.Ad m=some u:=by have:=Bl hu;rwa [bh hm.1]at this
   have hd:p.Ad.getD m.toNat default=u:=by simp[List.getD,hu]
   have hf:Ed p s x=Gr u (m::l) s:=by unfold Ed;rw[hsrc];simp only[hd]
   rw[hf];have hin:∀k,k∈m::l->0<=k/\k<p.Ad.length:=λk hk=>by grind
   refine(c8 (I:=λk r=>r=Gr u ((m::l).take k) s) (A:=λr=>r=Gr u (m::l) s) (B:=λ(_:Unit)=>False) rfl (λk n r hk hr=>?_) λr hr=>by rw[hr,ay]).inner (λr hr=>c7 hr) eq;have hnk:=hin n (ae hk);have hrl:r.length=p.Ad.length:=by rw[hr,I0,hl]
   unfold Ale;rw[hsrc,show getI (m::l) 0=some m from rfl];simp only[ab,hgu];refine(d5 hnk.1 (by omega)).bind λv hv=>(d9 hnk.1).bind λr1 e1=>?_;have hvg:r1[n.toNat]?=some (⟨v.State,v.Since,u.Ar,v.Phase⟩:Ak):=by rw[e1,bT (by omega)]
   refine ef (P:=λw=>w=(⟨v.State,v.Since,u.Ar,v.Phase⟩:Ak)) ((d5 hnk.1 (by rw[e1];simp;omega)).mono λw hw=>by rw[hvg]at hw;cases hw;rfl) λw hw=>?_;refine(d9 hnk.1 (by rw[e1];simp;omega)).bind λr2 e2=>c7 ?_;have hdv:r.getD n.toNat default=v:=by simp[List.getD,hv]
   rw[Aba hk,←hr,hdv,e2,e1,hw,List.set_set];rfl
 .rw[ay]at hs;exact hs
theorem Avy(h:n<ss.length):ss.set n (ss.getD n default)=ss:=by apply bK;grind
theorem Abb{C6:Ak}:∀(idx:eQ)(ss:List Ak),(∀i,i∈idx->i.toNat<ss.length/\Yu C6 (ss.getD i.toNat default)=ss.getD i.toNat default)->Gr C6 idx ss=ss
 | [],_,_=>rfl
 |i::idx,ss,h=>by obtain⟨h1,h2⟩:=h i ai;show Gr C6 idx (ss.set i.toNat (Yu C6 (ss.getD i.toNat default)))=ss;rw[h2,Avy h1];exact Abb idx ss λj hj=>h j (al _ hj)
theorem Y9{y:Ak}:(ss.set m y).getD n default=if m=n/\m<ss.length then y else ss.getD n default:=by grind
theorem Z6(C6:Ak):∀(idx:eQ)(ss:List Ak)(n:Nat),((Gr C6 idx ss).getD n default).State=(ss.getD n default).State
 | [],_,_=>rfl
 |i::idx,ss,n=>by
  show ((Gr C6 idx _).getD n default).State=_;rw[Z6 C6 idx,Y9];split
  .rename_i e;rw[←e.1];rfl
  .rfl
theorem Yx{C6:Ak}:∀(idx:eQ)(ss:List Ak){n:Nat},(∀i,i∈idx->i.toNat≠n)->(Gr C6 idx ss).getD n default=ss.getD n default
 | [],_,_,_=>rfl
 |i::idx,ss,n,h=>by show (Gr C6 idx _).getD n default=_;rw[Yx idx _ (λj hj=>h j (al _ hj)),Y9,eF (λe=>h i ai e.1)]
theorem Ajm{C6:Ak}:∀(idx:eQ)(ss:List Ak){n:Nat},n<ss.length->(∃i,i∈idx/\i.toNat=n)->((Gr C6 idx ss).getD n default).Ar=C6.Ar/\((Gr C6 idx ss).getD n default).Phase=C6.Phase
 | [],_,_,_,h=>by obtain⟨_,h,_⟩:=h;cases h
 | i::idx,ss,n,hn,h=>by
  by_cases hr:∃j,j∈idx/\j.toNat=n
  .exact Ajm idx _ (by simpa using hn) hr
  .have hi:i.toNat=n:=by
    grind
   have:(Gr C6 (i::idx) ss).getD n default=Yu C6 (ss.getD i.toNat default):=by show (Gr C6 idx _).getD n default=_;rw[Yx idx _ (λj hj e=>hr ⟨j,hj,e⟩),Y9,eC ⟨hi,by omega⟩]
   rw[this];exact⟨rfl,rfl⟩
def Aid(b:Aa)(p:Ab):Prop:=∀x,x∈Bq b p->∀i j,i∈x.Ad->j∈x.Ad ->
 (p.Ad.getD i.toNat default).Ar=(p.Ad.getD j.toNat default).Ar/\(p.Ad.getD i.toNat default).Phase=(p.Ad.getD j.toNat default).Phase
theorem Aem(hn:p.Ad.length=b.Ad.length)(h:Aid b p):Gb b p=p.Ad:=by
 have key:∀l:List An,(∀x,x∈l->x∈Bq b p)->l.foldl (Ed p) p.Ad=p.Ad:=by
  intro l;induction l with
  |nil=>intro _;rfl
  | cons x l ih=>
   intro hl;have hx:=hl x ai;have hst:Ed p p.Ad x=p.Ad:=by
    unfold Ed;split
    .rfl
    .rename_i i r e;refine Abb _ _ λj hj=>?_;have hj2:=Q9 hx j hj;have ha:=h x hx i j (by rw[e];exact ai) hj;refine⟨by omega,?_⟩;unfold Yu;rw[ha.1,ha.2]
   grind
 exact key _ λ_ hx=>hx
theorem Aiu(p:Ab)(s:List Ak)(x:An)(n:Nat):((Ed p s x).getD n default).State=(s.getD n default).State:=by
 unfold Ed;split
 .rfl
 .exact Z6 _ _ _ _
theorem Ac2(b:Aa)(p:Ab)(n:Nat):((Gb b p).getD n default).State=(p.Ad.getD n default).State:=by
 have key:∀(l:List An)(s:List Ak),((l.foldl (Ed p) s).getD n default).State=(s.getD n default).State:=by
  intro l;induction l with
  |nil=>intro s;rfl
  |cons x l ih=>intro s;rw[bA,ih,Aiu]
 exact key _ _
theorem Ac0(hc:q.Ag=p.Ag)(hl:q.Ad.length=p.Ad.length)(hs:∀n:Nat,(q.Ad.getD n default).State=(p.Ad.getD n default).State):Bq b q=Bq b p:=by
 have hled:∀k i,E6 b q k i=E6 b p k i:=λk i=>by unfold E6;rw[hc]
 have hgr:groups b q=groups b p:=by unfold groups;rw[hc]
 have hcon:∀i,F6 b q i=F6 b p i:=λi=>by unfold F6;rw[hled,hl,hs]
 have hgo:∀o,G1 b q o=G1 b p o:=λo=>by unfold G1;rw[hgr]
 have hisl:isl b q=isl b p:=by funext f;unfold isl Fc Gf Fa;simp only[hgr,hled,hcon,hgo]
 unfold Bq;rw[hisl]
theorem vZ:i∈(isl b p f).Ad↔∃k:Nat,i=(k:Int)/\k<b.Ad.length/\G1 b p (F6 b p (k:Int))=some (f:Int):=by
 constructor
 .intro h;obtain⟨k,hk,e⟩:=an.1 h;grind
 .rintro⟨k,e,h1,h2⟩;exact an.2 ⟨k,ar.2 ⟨ba.2 h1,by rw[dQ];exact h2⟩,e.symm⟩
theorem Avw{g:Nat}(hfg:f≠g){j:Int}(hi:i∈(isl b p f).Ad)(hj:j∈(isl b p g).Ad):i.toNat≠j.toNat:=by obtain⟨k,rfl,_,e1⟩:=vZ.1 hi;obtain⟨m,rfl,_,e2⟩:=vZ.1 hj;grind
def Ac8(b:Aa)(p:Ab)(f:Nat):Ak:=p.Ad.getD ((isl b p f).Ad.headD 0).toNat default
theorem Aeo{b:Aa}{p:Ab}{n:Nat}:∀(fs:eR)(s:List Ak),(∀f,f∈fs->∀i,i∈(isl b p f).Ad->i.toNat≠n)->((fs.map (isl b p)).foldl (Ed p) s).getD n default=s.getD n default
 | [],_,_=>rfl
 |f::fs,s,h=>by
  rw[bw,bA,Aeo fs _ (λg hg=>h g (al _ hg))];have hf:=h f ai;unfold Ed;split
  .rfl
  .exact Yx _ _ hf
theorem yS{b:Aa}{p:Ab}(hn:p.Ad.length=b.Ad.length):∀(fs:eR)(s:List Ak),s.length=p.Ad.length->fs.Nodup->∀f,f∈fs->∀i,i∈(isl b p f).Ad ->
  (((fs.map (isl b p)).foldl (Ed p) s).getD i.toNat default).Ar=(Ac8 b p f).Ar/\(((fs.map (isl b p)).foldl (Ed p) s).getD i.toNat default).Phase=(Ac8 b p f).Phase
 | [],_,_,_,_,h,_,_=>by cases h
 | g::fs,s,hs,hnd,f,hf,i,hi=>by
  obtain⟨h1,h2⟩:=cG.1 hnd;rw[bw,bA];by_cases e:f=g
  .subst e;rw[Aeo fs _ (λk hk j hj=>Avw (λe=>h1 (by rw[←e];exact hk)) hj hi)];obtain⟨k,rfl,hk,_⟩:=vZ.1 hi;unfold Ed;split
   .rename_i e;rw[e]at hi;cases hi
   .rename_i m r e;have:Ac8 b p f=p.Ad.getD m.toNat default:=by unfold Ac8;rw[e];rfl
    rw[this];exact Ajm _ _ (by rw[ax];omega) ⟨_,hi,rfl⟩
  .rcases ag.1 hf with h|hf
   .exact absurd h e
   .exact yS hn fs _ (by rw[O_];exact hs) h2 f hf i hi
theorem yQ(h:Av b)(hn:p.Ad.length=b.Ad.length):Aid b ⟨p.Ag,Gb b p,p.Aj,p.Ai⟩:=by
 have hisl:Bq b ⟨p.Ag,Gb b p,p.Aj,p.Ai⟩=Bq b p:=Ac0 rfl (Jz b p) (Ac2 b p);intro x hx i j hi hj;rw[hisl,Iw h]at hx;obtain⟨f,hf,rfl⟩:=an.1 hx;have hnd:(Mo b p b.Ao.toNat).Nodup:=(List.nodup_range).sublist cu;have hfl:Gb b p=((Mo b p b.Ao.toNat).map (isl b p)).foldl (Ed p) p.Ad:=by rw[←Iw h];rfl
 have e1:=yS hn _ p.Ad rfl hnd f hf i hi;have e2:=yS hn _ p.Ad rfl hnd f hf j hj;grind
def G0(b:Aa)(p:Ab)(n:Nat):Bool:=decide (((isl b p ((groups b p).getD n 0).toNat).Ad.length:Int)>0)
theorem Abj(h:Av b)(hp:Ap b p)(hn:n<b.Ao.toNat):F74 b p (n:Int)=some (G0 b p n):=by unfold F74;rw[Xw h hp hn];simp[G0]
theorem Ata(hn:n<b.Ao.toNat):(isl b p f).Ao.any ((n:Int) == ·)=((groups b p).getD n 0==(f:Int)):=by
 rw[bL,cr];constructor
 .rintro⟨x,hx,e⟩;rw[dQ]at e;subst e;obtain⟨i,hi,e⟩:=an.1 hx;grind
 .intro e;exact⟨n,an.2 ⟨n,ar.2 ⟨ba.2 hn,e⟩,rfl⟩,by simp⟩
theorem of_eq(h:Av b)(hp:Ap b p)(hn:n<b.Ao.toNat):Kr b p (n:Int)=some (isl b p ((groups b p).getD n 0).toNat,true):=by
 have hg:=Kx h p hn;have hbu:=h.buses;unfold Kr;rw[Lj h hp,Iw h];simp only[ab];have key:∀(fs:eR)(k:Nat),foldI (Sc (n:Int)) (fs.map (isl b p)) k ()=if((groups b p).getD n 0).toNat∈fs then some (.ret (isl b p ((groups b p).getD n 0).toNat,true)) else some (.next ()):=by
  intro fs;induction fs with
  |nil=>intro k;rfl
  | cons f fs ih=>
   intro k;have hbl:(isl b p f).Ao.length<=9223372036854775807:=by have:=E7 (λi=>(groups b p).getD i 0==(f:Int)) b.Ao.toNat;simp only[isl,Fc];omega
   simp only[bw,foldI,Sc,He _ _ hbl,ab,Ata hn];grind
 have hm:((groups b p).getD n 0).toNat∈Mo b p b.Ao.toNat:=ar.2 ⟨ba.2 (by omega),Mf h p hn⟩;rw[key,eC hm];rfl
theorem Ajy(h:Av b)(hp:Ap b p)(hn:n<b.Ao.toNat):Ahw b p (n:Int)=some (G0 b p n):=by unfold Ahw;rw[of_eq h hp hn];simp[G0]
variable{s:Af}
theorem Ajc(h:Av b)(hs:A2 s):Ok (Add s b) λy=>(Ap b y.1/\Aid b y.1/\y.1.Ai.length<=4)/\A2 y.2:=by unfold Add;refine(Ayj h hs).bind λy hy=>?_;rw[Ql h hy.1.1];exact eo ⟨⟨K7 hy.1.1 (Jz b _) (Tc hy.1.1),yQ h hy.1.1.nso,hy.1.2⟩,hy.2⟩
theorem Agf(h:Av b)(hs:A2 s):Ok (uJ s b) λy=>((∀t,Mk b t y.1)/\(5<=y.1.Time/\y.1.Time<=20)/\y.1.A6=[]/\y.1.Power.Ai.length<=4)/\A2 y.2:=by
 have hbu:=h.buses;unfold uJ;refine(Gv hs 5 20 (by omega) (by omega)).bind λy hy=>(Ajc h hy.1).bind λz hz=>?_;refine ee (A:=λs=>A2 ⟨s.2.1,s.2.2.1⟩/\s.2.2.2.length=b.Ao.toNat/\∀x,x∈s.2.2.2->(-1<=x.High/\x.High<=4) /\ -1<=x.Low/\x.Low<=4) (B:=λ(_:Unit)=>False) ?_ (λs hs=>?_) eq
 .refine d4 (λs=>(0<=s.1/\s.1<=b.Ao)/\A2 ⟨s.2.1,s.2.2.1⟩/\(s.2.2.2.length:Int)=s.1/\∀x,x∈s.2.2.2->(-1<=x.High/\x.High<=4) /\ -1<=x.Low/\x.Low<=4) (λs=>(b.Ao-s.1).toNat) _ _ ?_ ?_ ?_
  .exact⟨by dsimp only;omega,hz.2,by simp,λx hx=>by cases hx⟩
  .dsimp only;omega
  .rintro⟨i,L,a,l⟩ ⟨⟨g1,g2⟩,g3,g4,g5⟩;dsimp only at g1 g2 g3 g4 g5;unfold Agv;dsimp only;refine c6 (λhq=>?_) (λhq=>d8 ?_)
   .simp only[dM]at hq;have e1:w64 (i+1)=i+1:=Az;rw[e1];refine(Gv g3 (-1) 4 (by omega) (by omega)).bind λu hu=>(Gv hu.1 (-1) 4 (by omega) (by omega)).bind λv hv=>(d7 (by simp;omega)).bind λw hw=>c7 ?_;refine⟨⟨by dsimp only;omega,hv.1,by rw[hw];simp;omega,λx hx=>?_⟩,by dsimp only;omega⟩;grind
   .simp only[dN]at hq;exact⟨g3,by dsimp only;omega,g5⟩
 .refine eo ⟨⟨λt=>?_,hy.2,rfl,hz.1.2.2⟩,hs.1⟩;exact {
   st:=hz.1.1
   fol:=Aem hz.1.1.nso hz.1.2.1
   time:=by have:=hy.2;dsimp only;omega
   nro:=hs.2.1
   ros:=λx hx=>by have:=hs.2.2 x hx;have:=hy.2;unfold uG;dsimp only;omega}
theorem Qp(k n:Int):Gp p k n=some (brk p.Ai k n):=by
 unfold Gp brk;have:∀(l:List a_)(i:Nat),foldI (Aae k n) l i ()=bif l.any (λx=>k==x.Kind&&n==x.Number)then some (.ret true) else some (.next ()):=by
  intro l;induction l with
  |nil=>intro i;rfl
  |cons x l ih=>intro i;simp only[foldI,Aae,Asr,List.any_cons];grind
 rw[this];cases p.Ai.any λx=>k==x.Kind&&n==x.Number <;> rfl
def J2(b:Aa)(p:Ab)(i:Nat):Bool:=match E6 b p 3 (i:Int) with
 |none=>false
 |some a=>(G0 b p a.toNat && !brk p.Ai 4 (i:Int)) && !decide (p.Aj.getD i 0<(b.Ae.getD i default).Least)
def svB(b:Aa)(p:Ab):Nat->Nat->Bool
 |0,_=>false
 |k+1,i=>J2 b p i&&(b.Ae.getD i default).Needs.all λn=>svB b p k n.toNat
theorem Aqn(f:Int->Bool)(l:eQ)(k:Nat)(g:Nat->Int->Unit->Option (Ctl Unit Bool))(hg:∀i x,x∈l->g i x ()=bif !f x then some (.ret false) else some (.next ())):foldI g l k ()=bif l.all f then some (.next ()) else some (.ret false):=by
 induction l generalizing k with
 |nil=>rfl
 |cons x l ih=>grind[foldI]
theorem Aqm(f:Int->Bool)(l:eQ)(k:Nat)(g:Nat->Int->Unit->Option (Ctl Unit ρ))(r:Nat->ρ)(hg:∀i x,x∈l->g i x ()=bif !f x then some (.ret (r i)) else some (.next ())):(l.all f=true/\foldI g l k ()=some (.next ()))\/(l.all f=false/\∃j,k<=j/\j<k+l.length/\foldI g l k ()=some (.ret (r j))):=by
 induction l generalizing k with
 |nil=>exact .inl ⟨rfl,rfl⟩
 |cons x l ih=>grind[foldI]
variable{i:Nat}
theorem F2(h:i<b.Ae.length:=by omega):b.Ae[i]?=some (b.Ae.getD i default):=by grind
theorem L9(h:i<p.Aj.length:=by omega):p.Aj[i]?=some (p.Aj.getD i 0):=by grind
theorem Avz(h : Av b)(hp : Ap b p) : ∀(k i : Nat), i < k -> i < b.Ae.length -> vJ k b p (i : Int) = some (svB b p k i) := by
 intro k;induction k with
 |zero=>intro i hi;omega
 | succ k ih =>
  intro i hi hc;have hnl:=hp.nli;have hcg:=F2 hc;have hlg:=L9 (p:=p) (i:=i);have hco:=h.co i _ hcg;refine da ?_;show Ok (vK (vJ k) b p (i:Int)) _;unfold vK;rw[Aey h hp (by omega) (by omega),Bl hlg,Bl hcg];simp only[ab];cases hl:E6 b p 3 (i:Int) with
  |none=>refine ef (P:=λ_=>True) (c9 (λhg=>absurd hg.1 (by simp[E2])) λ_=>trivial) λy3 _=>?_;refine ef (P:=λ_=>True) (c9 (λhg=>absurd hg.1 (by simp[E2])) λ_=>trivial) λy5 _=>?_;refine ef (P:=λ_=>True) (c9 (λhg=>absurd hg.1 (by simp[E2])) λ_=>trivial) λy7 _=>?_;refine ef (P:=λ_=>True) (c9 (λhg=>absurd hg.1 (by simp[E2])) λ_=>trivial) λy9 _=>?_;refine c6 (λ_=>eo ?_) (λhq=>by simp[Rn,E2]at hq);simp[svB,J2,hl]
  | some a=>
   have ha:=O6 h hl;obtain⟨m,rfl⟩:∃m:Nat,a=(m:Int):=⟨a.toNat,by omega⟩;have hlive:=Abj h hp (n:=m) (by omega);simp only[E2,hlive,Qp];refine ef (P:=λy=>y=G0 b p m) (c9 (λ_=>eo rfl) λhn=>(hn ⟨rfl,trivial⟩).elim) λy3 h3=>?_;subst h3;have hbase:J2 b p i=((G0 b p m && !brk p.Ai 4 (i:Int)) && !decide (p.Aj.getD i 0<(b.Ae.getD i default).Least)):=by unfold J2;rw[hl];simp
   cases hlv:G0 b p m with
   |false=>refine ef (P:=λ_=>True) (dl (λ_=>di rfl) λ_=>trivial) λy5 _=>?_;refine ef (P:=λ_=>True) (dl (λ_=>di rfl) λ_=>trivial) λy7 _=>?_;refine ef (P:=λ_=>True) (dl (λ_=>di rfl) λ_=>trivial) λy9 _=>?_;refine c6 (λ_=>eo ?_) (λhq=>by simp[Rn]at hq);simp[svB,hbase,hlv]
   | true=>
    refine ef (P:=λy=>y=brk p.Ai 4 (i:Int)) (c9 (λ_=>eo rfl) λhn=>(hn ⟨rfl,trivial⟩).elim) λy5 h5=>?_;subst h5;cases hbr:brk p.Ai 4 (i:Int) with
    |true=>refine ef (P:=λ_=>True) (dl (λ_=>di rfl) λ_=>trivial) λy7 _=>?_;refine ef (P:=λ_=>True) (dl (λ_=>di rfl) λ_=>trivial) λy9 _=>?_;refine c6 (λ_=>eo ?_) (λhq=>by simp[Rn]at hq);simp[svB,hbase,hbr]
    | false=>
     refine ef (P:=λy=>y=p.Aj.getD i 0) (c9 (λ_=>eo rfl) λhn=>(hn ⟨rfl,trivial⟩).elim) λy7 h7=>?_;refine ef (P:=λy=>y=b.Ae.getD i default) (c9 (λ_=>eo rfl) λhn=>(hn ⟨rfl,trivial⟩).elim) λy9 h9=>?_;subst h7;subst h9;refine c6 (λhq=>eo ?_) (λhq=>?_)
     .simp only[Rn,aH,aQ]at hq;show false=(J2 b p i&&_);rw[hbase,hq];simp
     .simp only[Rn,aH,aQ]at hq;have hb1:J2 b p i=true:=by rw[hbase,hlv,hbr,hq];rfl
      rw[Aqn (λn=>svB b p k n.toNat) _ 0 _ (λj x hx=>?_)]
      .show Ok (andThen (bif _ then some (Ctl.next ()) else some (Ctl.ret false)) some λz0=>some true) _;have hsv:svB b p (k+1) i=(b.Ae.getD i default).Needs.all λn=>svB b p k n.toNat:=by
        show (J2 b p i&&_)=_;rw[hb1,bu]
       rw[hsv];cases (b.Ae.getD i default).Needs.all λn=>svB b p k n.toNat <;> exact eo rfl
      .have hx2:=hco.2.2.2.2.2.1 x hx;have hih:=ih x.toNat (by omega) (by omega);rw[bh hx2.1]at hih;unfold Aas;rw[hih];rfl
theorem A05{rec:Aa->Ab->Int->Option Bool}{f:Int->Bool}{l:eQ}(hl:l.length<=1000)(hr:∀x,x∈l->rec b p x=some (f x)):vC rec l b p=some (!l.all f,b,p):=by
 unfold vC Ahg;have key:=Aqm f l 0 (Wx b p rec) (λi=>(cnt 0 i,b,p)) (λi x hx=>by unfold Wx Ahv;rw[hr x hx];rfl)
 rcases key with⟨h1,h2⟩|⟨h1,j,_,hj,h2⟩
 .rw[h2,h1];rfl
 .have hc:cnt 0 j=(j:Int):=Cv (by omega);rw[h2,h1,hc];show some (decide ((j:Int)>=0),b,p)=_;rw[dU (by omega)];rfl
theorem Ado(h:Av b)(hp:Ap b p):∀(k i:Nat),i<k->i<b.Ae.length->vL k b p (i:Int)=some (svB b p k i):=by
 intro k;induction k with
 |zero=>intro i hi;omega
 | succ k ih=>
  intro i hi hc;have hnl:=hp.nli;have hbl:p.Ai.length<=1000:=by have:=hp.brk.len;omega
  have hcg:=F2 hc;have hlg:=L9 (p:=p) (i:=i);have hco:=h.co i _ hcg;refine da ?_;show Ok (vM (vL k) b p (i:Int)) _;unfold vM Ahx;rw[Fs h hp,Aex h hp.ncl,Bl hlg,Bl hcg];simp only[ab,bne_self_eq_false,eB];cases hl:E6 b p 3 (i:Int) with
  |none=>refine ef (P:=λ_=>True) (c9 (λhg=>absurd hg.1 (by simp[E2])) λ_=>trivial) λy3 _=>?_;refine ef (P:=λ_=>True) (c9 (λhg=>absurd hg.1 (by simp[E2])) λ_=>trivial) λy5 _=>?_;refine ef (P:=λ_=>True) (c9 (λhg=>absurd hg.1 (by simp[E2])) λ_=>trivial) λy7 _=>?_;refine ef (P:=λ_=>True) (c9 (λhg=>absurd hg.1 (by simp[E2])) λ_=>trivial) λy9 _=>?_;refine c6 (λ_=>eo ?_) (λhq=>by simp[Ro,E2]at hq);simp[svB,J2,hl]
  | some a=>
   have ha:=O6 h hl;obtain⟨m,rfl⟩:∃m:Nat,a=(m:Int):=⟨a.toNat,by omega⟩;have hlive:=Ajy h hp (n:=m) (by omega);simp only[E2,hlive,Hv hbl];refine ef (P:=λy=>y=G0 b p m) (c9 (λ_=>eo rfl) λhn=>(hn ⟨rfl,trivial⟩).elim) λy3 h3=>?_;subst h3;have hbase:J2 b p i=((G0 b p m && !brk p.Ai 4 (i:Int)) && !decide (p.Aj.getD i 0<(b.Ae.getD i default).Least)):=by unfold J2;rw[hl];simp
   cases hlv:G0 b p m with
   |false=>refine ef (P:=λ_=>True) (dl (λ_=>di rfl) λ_=>trivial) λy5 _=>?_;refine ef (P:=λ_=>True) (dl (λ_=>di rfl) λ_=>trivial) λy7 _=>?_;refine ef (P:=λ_=>True) (dl (λ_=>di rfl) λ_=>trivial) λy9 _=>?_;refine c6 (λ_=>eo ?_) (λhq=>by simp[Ro]at hq);simp[svB,hbase,hlv]
   | true=>
    refine ef (P:=λy=>y=brk p.Ai 4 (i:Int)) (c9 (λ_=>eo rfl) λhn=>(hn ⟨rfl,trivial⟩).elim) λy5 h5=>?_;subst h5;cases hbr:brk p.Ai 4 (i:Int) with
    |true=>refine ef (P:=λ_=>True) (dl (λ_=>di rfl) λ_=>trivial) λy7 _=>?_;refine ef (P:=λ_=>True) (dl (λ_=>di rfl) λ_=>trivial) λy9 _=>?_;refine c6 (λ_=>eo ?_) (λhq=>by simp[Ro]at hq);simp[svB,hbase,hbr]
    | false=>
     refine ef (P:=λy=>y=p.Aj.getD i 0) (c9 (λ_=>eo rfl) λhn=>(hn ⟨rfl,trivial⟩).elim) λy7 h7=>?_;refine ef (P:=λy=>y=b.Ae.getD i default) (c9 (λ_=>eo rfl) λhn=>(hn ⟨rfl,trivial⟩).elim) λy9 h9=>?_;subst h7;subst h9;refine c6 (λhq=>eo ?_) (λhq=>?_)
     .simp only[Ro,aH,aQ]at hq;show false=(J2 b p i&&_);rw[hbase,hq];simp
     .simp only[Ro,aH,aQ]at hq;have hb1:J2 b p i=true:=by rw[hbase,hlv,hbr,hq];rfl
      have hsv:svB b p (k+1) i=(b.Ae.getD i default).Needs.all λn=>svB b p k n.toNat:=by show (J2 b p i&&_)=_;rw[hb1,bu]
      rw[A05 (f:=λn=>svB b p k n.toNat) (by have:=hco.2.2.2.2.1;omega) (λx hx=>?_)]
      .rw[hsv];refine eo ?_;simp
      .have hx2:=hco.2.2.2.2.2.1 x hx;have hih:=ih x.toNat (by omega) (by omega)
       rwa [bh hx2.1]at hih
theorem Al4(h:Av b)(hp:Ap b p)(hi:i<b.Ae.length):Apd b p (i:Int)=some (svB b p 1000 i):=by have:=h.col;exact Ado h hp 1000 i (by omega) hi
theorem Ap9(h:Av b)(hp:Ap b p)(hi:i<b.Ae.length):Apd b p (i:Int)=some (svB b p 1000 i)/\Ay9 b p (i:Int)=some (svB b p 1000 i):=by have:=h.col;exact⟨Ado h hp 1000 i (by omega) hi,Avz h hp 1000 i (by omega) hi⟩
variable{n:Int}
theorem Z5{m:Int}(h0:0<=m)(h:m<=n):m*m<=n*n:=Int.mul_le_mul h h h0 (by omega)
theorem A0v{x:Int}(h0:0<=x)(h1:x<=1000000000000000000):Ok (Ao3 x) λy=>y.2=0/\0<=y.1/\y.1*y.1<=x/\x<(y.1+1)*(y.1+1):=by
 unfold Ao3;refine c6 (λhc=>?_) (λ_=>?_)
 .simp only[Ast,aC,dM]at hc;omega
 refine ee (A:=λs=>0<=s.1/\s.1*s.1<=x/\x<(s.1+1)*(s.1+1)) (B:=λ(_:Unit)=>False) ?_ (λs hs=>eo ⟨rfl,hs⟩) eq;refine d4 (λs=>(0<=s.1/\s.1<=s.2/\s.2<=1000000000)/\s.1*s.1<=x/\x<(s.2+1)*(s.2+1)) (λs=>(s.2-s.1).toNat) _ _ ?_ ?_ ?_
 .refine⟨by dsimp only;omega,by dsimp only;omega,by dsimp only;omega⟩
 .dsimp only;omega
 .rintro⟨l,u⟩ ⟨⟨g1,g2,g3⟩,g4,g5⟩;dsimp only at g1 g2 g3 g4 g5;unfold Alg Ass;dsimp only;refine c6 (λhq=>?_) (λhq=>d8 ?_)
  .simp only[dM]at hq;obtain⟨m,hm⟩:∃m,m=(l+u+1) / 2:=⟨_,rfl⟩;have e1:w64 (Int.tdiv (w64 (w64 (l+u)+1)) 2)=m:=by
    rw[Az (n:=l+u),Az (n:=l+u+1),cQ (by omega),←hm,Az]
   have hmm:m*m<=1000000000*1000000000:=Z5 (by omega) (by omega);have hm0:0<=m*m:=Int.mul_nonneg (by omega) (by omega);rw[e1,Az (n:=m*m)];refine c6 (λhc=>?_) (λhc=>?_)
   .simp only[dM]at hc;exact c7 ⟨⟨by dsimp only;omega,hc,g5⟩,by dsimp only;omega⟩
   .simp only[dN]at hc;rw[Az (n:=m-1)];refine c7 ⟨⟨by dsimp only;omega,g4,?_⟩,by dsimp only;omega⟩;dsimp only;have:m-1+1=m:=by omega
    rw[this];omega
  grind
theorem Aeq(h0:0<=n)(h1:n<=1000000000000000000):(bif decide ((Int.tmod (-n) 1000)<0)then some (w64 ((w64 (Int.tdiv (-n) 1000))-1)) else some (w64 (Int.tdiv (-n) 1000)):Option Int)=some (-((n+999) / 1000)):=by
 have e1:Int.tmod (-n) 1000 = -(n % 1000):=by grind
 have e2:Int.tdiv (-n) 1000 = -(n / 1000):=by grind
 rw[e1,e2,Az (n:=-(n / 1000))];by_cases h:-(n % 1000)<0
 .rw[dU h,ez,Az];congr 1;omega
 grind
theorem A7y(h0:0<=n)(h1:n<=1000000000000000000):Aoq n 1000=some ((n+999) / 1000,0):=by
 unfold Aoq Ahb Ay1 Aha;have e:Zj n 1000=false:=by rw[cq];intro e;simp[Zj]at e;omega
 have e0:w64 (0-n) = -n:=by rw[Az];omega
 have en:nzI (1000:Int)=some ():=rfl;rw[e,e0,en];simp only[eB,ab];rw[Aeq h0 h1];simp only[ab];rw[Az];congr 2;omega
theorem A0k(h0:0<=n)(h1:n<=1000000000000000000):Aom n 1000=some ((n+999) / 1000,0):=by
 unfold Aom;have e:Ag8 n 1000=true:=by unfold Ag8 Aoe;rw[Az (n:=0-1000000000000000000)];simp;omega
 have e0:w64 (0-n) = -n:=by rw[Az];omega
 have en:nzI (1000:Int)=some ():=rfl;unfold Ayz;rw[e,e0,en];simp only[aH,eB,ab];rw[Aeq h0 h1];simp only[ab];rw[Az];congr 2;omega
def Ud(x:B7):Prop:=∃f,f∈([0,450,800,1350,1800,2600,3500]:eQ)/\∃v,v∈([0,100,300,900,1799]:eQ)/\x=⟨f,(f+v) % 3600⟩
theorem A7v(hs:A2 s):Ok (Aou s) λy=>Ud y.1/\A2 y.2:=by
 unfold Aou;refine(C8 hs _ (by simp) (by simp)).bind λu hu=>(C8 hu.1 _ (by simp) (by simp)).bind λv hv=>eo ⟨⟨u.1,hu.2,v.1,hv.2,?_⟩,hv.1⟩;have h1:u.1=0\/u.1=450\/u.1=800\/u.1=1350\/u.1=1800\/u.1=2600\/u.1=3500:=by simpa using hu.2
 have h2:v.1=0\/v.1=100\/v.1=300\/v.1=900\/v.1=1799:=by simpa using hv.2
 rcases h1 with e|e|e|e|e|e|e <;> rcases h2 with e2|e2|e2|e2|e2 <;> rw[e,e2] <;> rfl
variable{x:B7}
theorem Atf(h:Ud x):Zu x=true:=by
 obtain⟨f,hf,v,hv,rfl⟩:=h;have h1:f=0\/f=450\/f=800\/f=1350\/f=1800\/f=2600\/f=3500:=by simpa using hf
 have h2:v=0\/v=100\/v=300\/v=900\/v=1799:=by simpa using hv
 rcases h1 with e|e|e|e|e|e|e <;> rcases h2 with e2|e2|e2|e2|e2 <;> rw[e,e2] <;> rfl
theorem Anz(h:Ud x):Aon x=true:=by
 obtain⟨f,hf,v,hv,rfl⟩:=h;have h1:f=0\/f=450\/f=800\/f=1350\/f=1800\/f=2600\/f=3500:=by simpa using hf
 have h2:v=0\/v=100\/v=300\/v=900\/v=1799:=by simpa using hv
 rcases h1 with e|e|e|e|e|e|e <;> rcases h2 with e2|e2|e2|e2|e2 <;> rw[e,e2] <;> rfl
structure Ir(x:Aw):Prop where
 kind:1<=x.Kind/\x.Kind<=3
 station:0<=x.Station/\x.Station<=1
 max:0<=x.Max/\x.Max<=40
 rate:0<=x.Rate/\x.Rate<=50
 cost:1<=x.Cost/\x.Cost<=100
 arcs:x.Cy.length<=4
 arc:∀a,a∈x.Cy->Ud a
theorem Ajb(hs:A2 s):Ok (Apb s) λy=>Ir y.1/\A2 y.2:=by
 unfold Apb;refine(Gv hs 1 3 (by omega) (by omega)).bind λk hk=>(Df hk.1 2 (by omega) (by omega)).bind λst hst=>(C8 hst.1 _ (by simp) (by simp)).bind λm hm=>(C8 hm.1 _ (by simp) (by simp)).bind λr hr=>(C8 hr.1 _ (by simp) (by simp)).bind λc hc=>(Df hc.1 3 (by omega) (by omega)).bind λn hn=>?_;have h1:m.1=0\/m.1=1\/m.1=7\/m.1=20\/m.1=40:=by simpa using hm.2
 have h2:r.1=0\/r.1=1\/r.1=5\/r.1=50:=by simpa using hr.2
 have h3:c.1=1\/c.1=2\/c.1=3\/c.1=100:=by simpa using hc.2
 refine ee (A:=λs=>A2 ⟨s.2.1,s.2.2.1⟩/\s.2.2.2.length<=4/\∀a,a∈s.2.2.2->Ud a) (B:=λ(_:Unit)=>False) ?_ (λs hs=>eo ⟨⟨hk.2,by dsimp only;omega,by dsimp only;omega,by dsimp only;omega,by dsimp only;omega,hs.2.1,hs.2.2⟩,hs.1⟩) eq;refine d4 (λs=>(0<=s.1/\s.1+(s.2.2.2.length:Int)<=2)/\A2 ⟨s.2.1,s.2.2.1⟩/\∀a,a∈s.2.2.2->Ud a) (λs=>s.1.toNat) _ _ ?_ ?_ ?_
 .exact⟨⟨by dsimp only;omega,by simp;omega⟩,hn.1,λa ha=>by cases ha⟩
 .dsimp only;omega
 .rintro⟨i,L,a,l⟩ ⟨⟨g1,g2⟩,g3,g4⟩;dsimp only at g1 g2 g3 g4;unfold Alm;dsimp only;refine c6 (λhq=>?_) (λ_=>d8 ⟨g3,by dsimp only;omega,g4⟩);simp only[dM]at hq;have e1:w64 (i-1)=i-1:=Az;rw[e1];refine(A7v g3).bind λu hu=>(d7 (by simp;omega)).bind λw hw=>c7 ⟨⟨⟨by dsimp only;omega,by rw[hw];simp;omega⟩,hu.2,λx hx=>?_⟩,by dsimp only;omega⟩;grind
variable{x:Aw}
theorem vR(h:Ir x):Aac x=some true:=by
 obtain⟨h1,h2,h3,h4,h5,h6,h7⟩:=h;unfold Aac;have e:Afw x=false:=by rw[cq];intro e;simp only[Afw,aC,dM]at e;omega
 rw[e,eB,Du _ 0 λj a ha=>?_]
 .rfl
 .unfold Ak9;rw[Anz (h7 a (ae ha))];rfl
theorem A15{l:List B7}(h:∀a,a∈l->Ud a):vA l=some false:=by unfold vA Ahc;grind[andThen,Acc,Du,Aor,Atf]
theorem Yi(h:Ir x):Zx x=some true:=by
 obtain⟨h1,h2,h3,h4,h5,h6,h7⟩:=h;unfold Zx;have e:((((((Ea x.Kind 1 3)&&(Ea x.Station 0 1))&&(Ea x.Max 0 5000))&&(Ea x.Rate 0 5000))&&(Ea x.Cost 1 100))&&(decide ((x.Cy.length:Int)<=4)))=true:=by unfold Ea;grind
 rw[e,A15 h7];rfl
structure R5(x:Bw):Prop where
 bow:0<=x.Bow/\x.Bow<=60
 stern:1<=x.Stern/\x.Stern<=40
 len:x.A1.length<=8
 thr:∀t,t∈x.A1->Ir t
theorem Ayh(hs:A2 s)(h0:0<=n/\n<=8):Ok (F83 s n) λy=>(R5 y.1/\(y.1.A1.length:Int)<=n)/\A2 y.2:=by
 unfold F83;rw[Az];refine(C8 hs _ (by simp) (by simp)).bind λu hu=>(C8 hu.1 _ (by simp) (by simp)).bind λv hv=>(Df hv.1 (n+1) (by omega) (by omega)).bind λk hn=>?_;have h1:u.1=0\/u.1=1\/u.1=30\/u.1=60:=by simpa using hu.2
 have h2:v.1=1\/v.1=25\/v.1=40:=by simpa using hv.2
 refine ee (A:=λs=>A2 ⟨s.2.1,s.2.2.1⟩/\(s.2.2.2.length:Int)<=n/\∀a,a∈s.2.2.2->Ir a) (B:=λ(_:Unit)=>False) ?_ (λs hs=>eo ⟨⟨⟨by dsimp only;omega,by dsimp only;omega,by have:=hs.2.1;dsimp only;omega,hs.2.2⟩,hs.2.1⟩,hs.1⟩) eq;refine d4 (λs=>(0<=s.1/\s.1+(s.2.2.2.length:Int)<=n)/\A2 ⟨s.2.1,s.2.2.1⟩/\∀a,a∈s.2.2.2->Ir a) (λs=>s.1.toNat) _ _ ?_ ?_ ?_
 .have:=hn.2;exact⟨⟨by dsimp only;omega,by simp;omega⟩,hn.1,λa ha=>by cases ha⟩
 .dsimp only;omega
 .rintro⟨i,L,a,l⟩ ⟨⟨g1,g2⟩,g3,g4⟩;dsimp only at g1 g2 g3 g4;unfold Atq;dsimp only;refine c6 (λhq=>?_) (λ_=>d8 ⟨g3,by dsimp only;omega,g4⟩);simp only[dM]at hq;have e1:w64 (i-1)=i-1:=Az;rw[e1];refine(Ajb g3).bind λu hu=>(d7 (by simp;omega)).bind λw hw=>c7 ⟨⟨⟨by dsimp only;omega,by rw[hw];simp;omega⟩,hu.2,λx hx=>?_⟩,by dsimp only;omega⟩;rw[hw]at hx;rcases am.1 hx with hx|hx
  .exact g4 x hx
  .simp only[aU]at hx;subst hx;exact hu.1
theorem Ap6{x:Bw}(h:R5 x):Z0 x=some 0:=by
 have h1:=h.bow;have h2:=h.stern;have h3:=h.len;unfold Z0;have e1:decide ((x.A1.length:Int)>8)=false:=dV (by omega);have e2:Af2 x=false:=by rw[cq];intro e;simp only[Af2,aC,ac,dM,dQ]at e;omega
 have e3:vD x.A1=some false:=by
  unfold vD Ahi;rw[Du x.A1 0 λj a ha=>?_]
  .rfl
  .unfold Acj Ay5;rw[Yi (h.thr a (ae ha))];rfl
 rw[e1,e2,e3];rfl
variable{l:Int}
theorem X2(h:Ir x)(h0:0<=l)(h1:l<=5000):0<=l*l*x.Cost/\l*l*x.Cost<=2500000000:=by have hc:=h.cost;have h2:l*l<=5000*5000:=Z5 h0 h1;have h3:0<=l*l:=Int.mul_nonneg h0 h0;have h4:l*l*x.Cost<=25000000*100:=Int.mul_le_mul (by omega) (by omega) (by omega) (by omega);exact⟨Int.mul_nonneg h3 (by omega),by omega⟩
theorem Ajs(h:Ir x)(h0:0<=l)(h1:l<=5000):w64 ((w64 ((w64 (l*l))+(w64 (0*0))))*x.Cost)=l*l*x.Cost:=by
 have hc:=X2 h h0 h1;have h2:l*l<=5000*5000:=Z5 h0 h1;have h3:0<=l*l:=Int.mul_nonneg h0 h0;have e0:w64 (0*0)=0:=by rw[Az];rfl
 rw[Az (n:=l*l),e0,Int.add_zero,Az (n:=l*l),Az]
theorem Awc(h:Ir x)(h0:0<=l)(h1:l<=5000):Ao4 x ⟨l,0⟩=some ((l*l*x.Cost+999) / 1000,0):=by
 have hc:=X2 h h0 h1;unfold Ao4;have e:Zt ⟨l,0⟩=true:=by unfold Zt;grind
 rw[Yi h,e];simp only[ab,aH,Bool.or_self,eB];rw[Ajs h h0 h1,A7y hc.1 (by omega)];rfl
theorem Amf(h:Ir x)(h0:0<=l)(h1:l<=5000):Ahu x ⟨l,0⟩=some ((l*l*x.Cost+999) / 1000,0):=by
 have hc:=X2 h h0 h1;unfold Ahu;have e:Ahe ⟨l,0⟩=true:=by unfold Ahe;grind
 rw[vR h,e];simp only[ab,aH,Bool.or_self,eB];rw[Ajs h h0 h1,A0k hc.1 (by omega)];rfl
theorem qC(n:Int):∀(l:List A8)(k:Nat),foldI (Xl n) l k ()=match l.findIdx? λx=>x.Thruster==n with
  |some j=>some (.ret (cnt 0 (k+j),n))
  |none=>some (.next ())
 | [],_=>rfl
 | x::l,k=>by
  simp only[foldI,Xl,Aia,List.findIdx?_cons];cases hq:(x.Thruster==n) with
  |true=>rfl
  |false=>simp only[eB,cR,if_false];rw[qC n l (k+1)];grind
theorem Axa(h:Av b)(n:Int):vN b.Ae n=some (Il (λx:A8=>x.Thruster==n) b.Ae,n):=by
 have hc:=h.col;unfold vN Il;rw[qC];cases hf:b.Ae.findIdx? λx=>x.Thruster==n with
 |none=>rfl
 |some j=>
  rw[cj]at hf;obtain⟨hj,_⟩:=hf;have e:cnt 0 (0+j)=(j:Int):=by rw[aN];exact Cv (by omega)
  simp only[e];rfl
variable{xs:List α}{q:α->Bool}
theorem Amy{x:α}(hx:xs[j]?=some x)(hq:q x=true)(hn:∀(k:Nat) y,k<j->xs[k]?=some y->q y=false):Il q xs=(j:Int):=by
 obtain⟨hj,hj2⟩:=aa.1 hx;have:xs.findIdx? q=some j:=by rw[cj];grind
 unfold Il;rw[this]
theorem A1i(hn:∀(k:Nat) y,xs[k]?=some y->q y=false):Il q xs = -1:=by
 have:xs.findIdx? q=none:=by rw[cS];intro x hx;obtain⟨k,hk⟩:=cZ.1 hx;exact hn k x hk
 unfold Il;rw[this]
theorem A1j(h:0<=Il q xs):∃j:Nat,Il q xs=(j:Int)/\j<xs.length:=by
 unfold Il at h ⊢;cases hf:xs.findIdx? q with
 |none=>rw[hf]at h;simp at h
 |some j=>rw[cj]at hf;exact⟨j,rfl,hf.1⟩
def own(b:Aa)(i:Nat):Int:=Il (λx:A8=>x.Thruster==(i:Int)) b.Ae
theorem Aqu(hp:Ap b p)(hj:j<b.Ae.length):0<=p.Aj.getD j 0:=by have h2:=hp.nli;exact(hp.lim j _ _ (L9 (p:=p)) (F2 hj)).1
theorem V6(hp:Ap b p)(hj:j<b.Ah.length):p.Ag[j]?=some (p.Ag.getD j false):=by have:=hp.ncl;grind
variable{x:Al}
theorem Wa(hx:b.Ah[j]?=some x):b.Ah.getD j default=x:=by simp[List.getD,hx]
def Ct(p:Ab)(x:Al):Bool:=
 brk p.Ai 3 x.A || (if x.Kind=1 then brk p.Ai 3 x.B else if x.Kind=2 then brk p.Ai 1 x.B || ((p.Ad.getD x.B.toNat default).State != 2) else brk p.Ai 4 x.B)
theorem A12(hp:Ap b p)(k n:Int)(acts:List As):Pr k n ⟨b,p,acts⟩=some (brk p.Ai k n,⟨b,p,acts⟩):=by have:=hp.brk.len;unfold Pr;rw[Hv (by dsimp only;omega)];rfl
theorem Ar0(h:Av b)(hp:Ap b p)(acts:List As)(hx:x∈b.Ah):uQ ⟨b,p,acts⟩ x=some (Ct p x,⟨b,p,acts⟩):=by
 have hbr:=(h.br x hx).2;have hns:=hp.nso;unfold uQ Ct;simp only[A12 hp,ab];cases brk p.Ai 3 x.A with
 |true=>rfl
 | false=>
  simp only[eB,aQ];rcases hbr with⟨hk,_⟩|⟨hk,h0,h1⟩|⟨hk,_⟩
  .rw[hk];rfl
  .rw[hk];have e:p.Ad[x.B.toNat]?=some (p.Ad.getD x.B.toNat default):=by
    grind
   have e2:getI p.Ad x.B=some (p.Ad.getD x.B.toNat default):=by unfold getI;rw[dU h0];exact e
   rw[e2];cases brk p.Ai 1 x.B <;> rfl
  .rw[hk];rfl
def Ck(b:Aa)(C:eT)(q:Al->Bool)(n:Nat):eQ:=((List.range n).filter λi=>C.getD i false&&q (b.Ah.getD i default)).map λ(i:Nat)=>(i:Int)
variable{q:Al->Bool}{i:Int}
theorem G2{n:Nat}:i∈Ck b C q n↔∃k:Nat,i=(k:Int)/\k<n/\C.getD k false=true/\q (b.Ah.getD k default)=true:=by unfold Ck;grind
theorem F1(b:Aa)(C:eT)(q:Al->Bool)(n:Nat):(Ck b C q n).length<=n:=E7 _ n
def Di(C:eT)(l:eQ):eT:=l.foldl (λc i=>c.set i.toNat false) C
def Fg(l:eQ):List As:=l.map λi=>⟨2,i,0⟩
theorem Kt:∀(l:eQ)(C:eT),(Di C l).length=C.length
 | [],_=>rfl
 |i::l,C=>by show (Di (C.set i.toNat false) l).length=_;rw[Kt l];simp
theorem N6(C:eT)(l:eQ)(i:Int):Di C (l++[i])=(Di C l).set i.toNat false:=by grind[Di]
theorem M4:∀(l:eQ)(C:eT)(k:Nat),(Di C l).getD k false=(C.getD k false && !l.any λi=>i.toNat==k)
 | [],_,_=>by simp[Di]
 |i::l,C,k=>by show (Di (C.set i.toNat false) l).getD k false=_;rw[M4 l];grind
theorem Y5{b:Aa}:∀(l:eQ){p:Ab},Ap b p->Ap b ⟨Di p.Ag l,p.Ad,p.Aj,p.Ai⟩
 | [],_,hp=>hp
 |i::l,p,hp=>Y5 l (p:=⟨p.Ag.set i.toNat false,p.Ad,p.Aj,p.Ai⟩) (Amj hp i.toNat)
theorem Awe(ha:acts.length<=1000000)(h0:0<=i)(h1:i<p.Ag.length):R_ ⟨b,p,acts⟩ i=some ⟨b,⟨p.Ag.set i.toNat false,p.Ad,p.Aj,p.Ai⟩,acts++[⟨2,i,0⟩]⟩:=by refine da ?_;unfold R_;refine(d5 h0 h1).bind λ_ _=>(d9 h0 h1).bind λy hy=>(d7 (by simp;omega)).bind λz hz=>eo ?_;rw[hy,hz]
theorem Y4{l:eQ}(ha:acts.length+l.length<=1000000)(hl:∀i,i∈l->0<=i/\i<p.Ag.length) :
  Ok (foldI Wu l 0 (b.Ao,b.Ah,b.Ad,b.Ae,b.Phase,b.Ar,p.Ag,p.Ad,p.Aj,p.Ai,acts)) (D1 (λs=>s=(b.Ao,b.Ah,b.Ad,b.Ae,b.Phase,b.Ar,Di p.Ag l,p.Ad,p.Aj,p.Ai,acts++Fg l)) λ(_:Unit)=>False):=by
 refine c8 (I:=λj s=>s=(b.Ao,b.Ah,b.Ad,b.Ae,b.Phase,b.Ar,Di p.Ag (l.take j),p.Ad,p.Aj,p.Ai,acts++Fg (l.take j))) (by simp[Di,Fg]) (λj i s hi hs=>?_) λs hs=>?_
 .have hj:=(aa.1 hi).1;have hin:=hl i (ae hi);subst hs;unfold Wu;have e:=Awe (b:=b) (p:=⟨Di p.Ag (l.take j),p.Ad,p.Aj,p.Ai⟩) (acts:=acts++Fg (l.take j)) (by simp[Fg];omega) hin.1 (by rw[Kt];exact hin.2);refine ef (P:=λy=>y=_) (d6 e rfl) λy hy=>c7 ?_;subst hy;rw[Bc hi,N6];simp[Fg]
 grind
def acA(b:Aa)(C:eT)(q:Al->Bool):List As:=Fg (Ck b C q b.Ah.length)
def acC(b:Aa)(C:eT)(q:Al->Bool):eT:=Di C (Ck b C q b.Ah.length)
theorem Rv(b:Aa)(C:eT)(q:Al->Bool):(acA b C q).length<=b.Ah.length:=by unfold acA Fg;rw[ao];exact F1 b C q _
theorem Nf(hp:Ap b p)(q:Al->Bool):Ap b ⟨acC b p.Ag q,p.Ad,p.Aj,p.Ai⟩:=Y5 _ hp
theorem zJ(b:Aa)(C:eT)(q:Al->Bool){k:Nat}(hk:k<b.Ah.length):(acC b C q).getD k false=(C.getD k false && !q (b.Ah.getD k default)):=by
 unfold acC;rw[M4];cases hc:C.getD k false with
 |false=>rfl
 | true=>
  rw[bu,bu];congr 1;rw[bL,cr];constructor
  .rintro⟨i,hi,e⟩;obtain⟨m,rfl,_,_,hq⟩:=G2.1 hi;grind
  .intro hq;exact⟨(k:Int),G2.2 ⟨k,rfl,hk,hc,hq⟩,by simp⟩
theorem Ll(hx:b.Ah[j]?=some x):Ck b C q (j+1)=Ck b C q j++if(C.getD j false&&q x)=true then [(j:Int)] else []:=by unfold Ck;rw[Ht,Wa hx]
theorem Apy(h:Av b)(hp:Ap b p)(ha:acts.length<=1000):uT ⟨b,p,acts⟩=some ⟨b,⟨acC b p.Ag (Ct p),p.Ad,p.Aj,p.Ai⟩,acts++acA b p.Ag (Ct p)⟩:=by
 have hbl:=h.brl;have hnc:=hp.ncl;refine da ?_;unfold uT;refine ee (A:=λs=>s=(b.Ao,b.Ah,b.Ad,b.Ae,b.Phase,b.Ar,Ck b p.Ag (Ct p) b.Ah.length,p.Ag,p.Ad,p.Aj,p.Ai,acts)) (B:=λ(_:Unit)=>False) ?_ (λs hs=>?_) eq
 .refine c8 (I:=λj s=>s=(b.Ao,b.Ah,b.Ad,b.Ae,b.Phase,b.Ar,Ck b p.Ag (Ct p) j,p.Ag,p.Ad,p.Aj,p.Ai,acts)) rfl (λj x s hx hs=>?_) λs hs=>hs;have hj:j<b.Ah.length:=(aa.1 hx).1;have hfl:=F1 b p.Ag (Ct p) j;have hfs:=Ll (C:=p.Ag) (q:=Ct p) hx;subst hs;unfold Ach;rw[Cv (by omega),Bl (V6 hp hj)];simp only[ab];have hd:=Ar0 h hp acts (ae hx);cases hC:p.Ag.getD j false with
  |false=>rw[hC]at hfs;refine c7 ?_;rw[hfs];simp
  | true=>
   rw[hC]at hfs;refine ef (P:=λy=>y=(Ct p x,(⟨b,p,acts⟩:A4))) (d6 hd rfl) λy hy=>?_;subst hy;cases hq:Ct p x with
   |false=>rw[hq]at hfs;refine c7 ?_;rw[hfs];simp
   |true=>rw[hq]at hfs;refine ef (P:=λy=>y=Ck b p.Ag (Ct p) j++[(j:Int)]) (d7 (by simp;omega)) λy hy=>c7 ?_;rw[hy,hfs];simp
 .subst hs;have hfl:=F1 b p.Ag (Ct p) b.Ah.length;refine ee (Y4 (b:=b) (p:=p) (acts:=acts) (l:=Ck b p.Ag (Ct p) b.Ah.length) (by omega) λi hi=>?_) (λs hs=>?_) eq
  .obtain⟨k,rfl,hk,_⟩:=G2.1 hi;omega
  .subst hs;exact eo rfl
def Dp(b:Aa)(p:Ab)(x:Al):Bool:=x.Kind==3 && !G0 b p x.A.toNat
theorem A1s(h:Av b)(hp:Ap b p)(acts:List As)(hx:x∈b.Ah):uP x ⟨b,p,acts⟩=some (Dp b p x,⟨b,p,acts⟩):=by have hA:=(h.br x hx).1;have hl:=Ajy h hp (n:=x.A.toNat) (by omega);rw[bh hA.1]at hl;unfold uP Dp;rw[hl];cases x.Kind==3 <;> rfl
theorem Apx(h:Av b)(hp:Ap b p)(ha:acts.length<=1000):uS ⟨b,p,acts⟩=some ⟨b,⟨acC b p.Ag (Dp b p),p.Ad,p.Aj,p.Ai⟩,acts++acA b p.Ag (Dp b p)⟩:=by
 have hbl:=h.brl;have hnc:=hp.ncl;refine da ?_;unfold uS;refine ee (A:=λs=>s=(b.Ao,b.Ah,b.Ad,b.Ae,b.Phase,b.Ar,Ck b p.Ag (Dp b p) b.Ah.length,p.Ag,p.Ad,p.Aj,p.Ai,acts)) (B:=λ(_:Unit)=>False) ?_ (λs hs=>?_) eq
 .refine c8 (I:=λj s=>s=(b.Ao,b.Ah,b.Ad,b.Ae,b.Phase,b.Ar,Ck b p.Ag (Dp b p) j,p.Ag,p.Ad,p.Aj,p.Ai,acts)) rfl (λj x s hx hs=>?_) λs hs=>hs;have hj:j<b.Ah.length:=(aa.1 hx).1;have hfl:=F1 b p.Ag (Dp b p) j;have hfs:=Ll (C:=p.Ag) (q:=Dp b p) hx;subst hs;unfold Acg;rw[Cv (by omega),Bl (V6 hp hj)];simp only[ab];have hd:=A1s h hp acts (ae hx);cases hC:p.Ag.getD j false with
  |false=>rw[hC]at hfs;refine c7 ?_;rw[hfs];simp
  | true=>
   rw[hC]at hfs;refine ef (P:=λy=>y=(Dp b p x,(⟨b,p,acts⟩:A4))) (d6 hd rfl) λy hy=>?_;subst hy;cases hq:Dp b p x with
   |false=>rw[hq]at hfs;refine c7 ?_;rw[hfs];simp
   |true=>rw[hq]at hfs;refine ef (P:=λy=>y=Ck b p.Ag (Dp b p) j++[(j:Int)]) (d7 (by simp;omega)) λy hy=>c7 ?_;rw[hy,hfs];simp
 .subst hs;have hfl:=F1 b p.Ag (Dp b p) b.Ah.length;refine ee (Y4 (b:=b) (p:=p) (acts:=acts) (l:=Ck b p.Ag (Dp b p) b.Ah.length) (by omega) λi hi=>?_) (λs hs=>?_) eq
  .obtain⟨k,rfl,hk,_⟩:=G2.1 hi;omega
  .subst hs;exact eo rfl
def C3(b:Aa)(p:Ab):Ab:=⟨acC b p.Ag (Ct p),p.Ad,p.Aj,p.Ai⟩
def Afj(b:Aa)(p:Ab):Ab:=⟨acC b (C3 b p).Ag (Dp b (C3 b p)),p.Ad,p.Aj,p.Ai⟩
def J8(b:Aa)(p:Ab):Ab:=⟨(Afj b p).Ag,Gb b (Afj b p),p.Aj,p.Ai⟩
def Ns(b:Aa)(p:Ab):List As:=acA b p.Ag (Ct p)++acA b (C3 b p).Ag (Dp b (C3 b p))
theorem zE(hp:Ap b p):Ap b (C3 b p):=Nf hp _
theorem X3(hp:Ap b p):Ap b (Afj b p):=Nf (zE hp) _
theorem zD(hp:Ap b p):Ap b (J8 b p):=K7 (X3 hp) (Jz b _) (Tc (X3 hp))
theorem Zh(b:Aa)(p:Ab):(Ns b p).length<=2*b.Ah.length:=by have h1:=Rv b p.Ag (Ct p);have h2:=Rv b (C3 b p).Ag (Dp b (C3 b p));unfold Ns;rw[aE];omega
theorem Axl(h:Av b)(hp:Ap b p):vB ⟨b,p,[]⟩=some ⟨b,J8 b p,Ns b p⟩:=by have hbl:=h.brl;have hl:=Rv b p.Ag (Ct p);unfold vB;rw[Apy h hp (by simp)];simp only[ab,List.nil_append];have e2:=Apx h (zE hp) (acts:=acA b p.Ag (Ct p)) (by omega);have e3:=Vr h (X3 hp);refine da ?_;refine ef (P:=λy=>y=_) (d6 e2 rfl) λy hy=>?_;subst hy;refine ef (P:=λy=>y=_) (d6 e3 rfl) λy hy=>?_;subst hy;exact eo rfl
end Go.Proofs.YtiaaaghdkhnonaaGreat
