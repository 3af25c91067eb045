import Derived.Test.YtkcebipolafapaaGreatMo
import Derived.Test.YtkcebipolafapaaGreatHo
namespace Go.Proofs.YtkcebipolafapaaGreat
open Go.SL
variable{α ρ:Type}{s s0:Ab}{r:Ax}{a hi k lo nb st v:Int}{C c t:fe}{d idx:fb}{acts:List a_}{l0:List dU}{l:List dX}{ss:List ee}{so:List eh}{B f i j m n ns:Nat}{b:c_}{q:dU->Bool}{z:dU×Bool}{x y:dX}{p:dZ}{By:ee}
variable{n:Int}
theorem eN{A:Type}{Q:A->Prop}(v:A)(h:False):Q v:=h.elim
theorem Jz{x:Int}(h:0<n:=by omega):-n<Int.tmod x n/\Int.tmod x n<n:=by have h1:=Int.tmod_lt_of_pos x h;have h2:=Int.lt_tmod_of_pos x h;exact⟨h2,h1⟩
theorem Agx{x:Int}(h:0<n)(h0:0<=x):0<=Int.tmod x n/\Int.tmod x n<n:=⟨Int.tmod_nonneg n h0,(Jz h).2⟩
structure A4(s:Ab):Prop where
 lo:0<=s.At
 hi:s.At<=s.L.length
 len:s.L.length<=600
def InR(n r:Int):Prop:=(1<=n->0<=r/\r<n)/\(n<1->r=0)
theorem Ayp(x n:Int)(h:n<=4611686018427387904):Ok (F77 x n) (InR n):=by
 unfold F77;refine c6 (λh1=>?_) λh1=>?_
 .simp only[dF]at h1;exact eK ⟨λh2=>by omega,λ_=>rfl⟩
 .simp only[dG]at h1;refine(Ok.nzI (by omega)).bind λ_ _=>(Ok.nzI (by omega)).bind λ_ _=>eK ⟨λ_=>?_,λh2=>by omega⟩;have h2:=Jz (x:=x) (n:=n);rw[Ah];exact Agx (by omega) (by omega)
theorem Um(hs:A4 s)(n:Int)(h:n<=4611686018427387904):Ok (F38 s n) λy=>A4 y.2/\InR n y.1:=by
 obtain⟨h1,h2,h3⟩:=hs;unfold F38;refine c6 (λh4=>?_) λh4=>?_
 .exact eK ⟨⟨h1,h2,h3⟩,λh5=>⟨by simp,by show (0:Int)<n;omega⟩,λ_=>rfl⟩
 .simp only[dG]at h4;have e:w64 (s.At+1)=s.At+1:=Ah;rw[e,Ah (n:=s.At+1-1)];refine(d7 (by omega) (by omega)).bind λx _=>(Ayp x n h).bind λr hr=>eK ⟨⟨?_,?_,h3⟩,hr⟩
  .show 0<=s.At+1;omega
  grind
theorem D2(hs:A4 s)(n:Int)(h0:1<=n)(h:n<=4611686018427387904):Ok (F38 s n) λy=>A4 y.2/\0<=y.1/\y.1<n:=
 (Um hs n h).mono λ_ h=>⟨h.1,h.2.1 h0⟩
theorem Fl(hs:A4 s)(lo hi:Int)(h:lo<=hi)(h0:-1000000000000<=lo)(h1:hi<=1000000000000:=by omega):Ok (F39 s lo hi) λy=>A4 y.2/\lo<=y.1/\y.1<=hi:=by
 unfold F39;have e:w64 (w64 (hi-lo)+1)=hi-lo+1:=by rw[Ah (n:=hi-lo),Ah]
 rw[e];refine(D2 hs _ (by omega) (by omega)).bind λy hy=>eK ⟨hy.1,?_⟩;have:=hy.2;show lo<=w64 (lo+y.1)/\w64 (lo+y.1)<=hi;rw[Ah];omega
theorem B8(hs:A4 s)(l:fb)(h:1<=l.length)(h1:l.length<=1000):Ok (F11 s l) λy=>A4 y.2/\y.1∈l:=by unfold F11;grind[Ok.bind,D2,d7,Ok.pure]
theorem Ayo(l:fb):Ok (F8 l) A4:=by unfold F8;refine(Ok.cutI (by omega) (by omega) (by omega)).bind λy hy=>eK ⟨by simp,by simp,?_⟩;grind
def Ij(nb:Int)(ns nc:Nat)(x:dU):Prop:=
 (0<=x.A/\x.A<nb)/\((x.Kind=1/\x.A<x.B/\x.B<nb)\/(x.Kind=2/\0<=x.B/\x.B<ns)\/(x.Kind=3/\0<=x.B/\x.B<nc))
def brs(l:List dU)(k:Int)(i:Nat):List dU:=l.filter λx=>x.Kind==k&&x.B==(i:Int)
def K5(x:eh):Prop:=(1<=x.Rating/\x.Rating<=50000)/\(0<=x.Least/\x.Least<=x.Rating)/\0<=x.Start/\x.Start<=600
def K8(i:Nat)(x:dV):Prop:=
 (0<=x.Load/\x.Load<=50000)/\(0<=x.Least/\x.Least<=x.Load)/\(0<=x.Preference/\x.Preference<=15)/\(-1<=x.Thruster/\x.Thruster<=7)/\x.Needs.length<=4 /\
 (∀n,n∈x.Needs->0<=n/\n<(i:Int))/\∀(j:Nat) a b,x.Needs[j]?=some a->x.Needs[j+1]?=some b->a<b
structure Ad(b:c_):Prop where
 buses:1<=b.Buses/\b.Buses<=6
 brl:b.Breakers.length<=24
 sol:b.Sources.length<=8
 col:b.Consumers.length<=16
 phase:0<=b.Phase/\b.Phase<=1800
 freq:0<=b.Frequency/\b.Frequency<=6000
 br:∀x,x∈b.Breakers->Ij b.Buses b.Sources.length b.Consumers.length x
 one:∀i,i<b.Sources.length->(brs b.Breakers 2 i).length=1
 any:∀i,i<b.Consumers.length->brs b.Breakers 3 i≠[]
 nodup:∀i,((brs b.Breakers 3 i).map (·.A)).Nodup
 so:∀x,x∈b.Sources->K5 x
 co:∀(i:Nat) x,b.Consumers[i]?=some x->K8 i x
theorem Gz(l m:List dU)(k:Int)(i:Nat):brs (l++m) k i=brs l k i++brs m k i:=by unfold brs;rw[aX]
theorem uM(x:dU)(k:Int)(i:Nat):brs [x] k i=if x.Kind=k/\x.B=(i:Int)then [x] else []:=by unfold brs;grind
variable{l:List dU}
theorem K4(h:∀x,x∈l->x.Kind=k->x.B≠(i:Int)):brs l k i=[]:=by unfold brs;rw[cV];grind
def N2(nb:Int)(l:List dU):Prop:=∀x,x∈l->x.Kind=1/\0<=x.A/\x.A<x.B/\x.B<nb
structure Rz(nb:Int)(l:List dU)(so:List eh):Prop where
 len:l.length<=4+so.length
 br:∀x,x∈l->(0<=x.A/\x.A<nb)/\((x.Kind=1/\x.A<x.B/\x.B<nb)\/(x.Kind=2/\0<=x.B/\x.B<so.length))
 one:∀i,i<so.length->(brs l 2 i).length=1
 so:∀x,x∈so->K5 x
structure Yk(nb:Int)(l:List dU)(ns:Nat)(co:List dV):Prop where
 len:l.length<=4+ns+2*co.length
 br:∀x,x∈l->Ij nb ns co.length x
 one:∀i,i<ns->(brs l 2 i).length=1
 any:∀i,i<co.length->brs l 3 i≠[]
 nodup:∀i,((brs l 3 i).map (·.A)).Nodup
 co:∀(i:Nat) x,co[i]?=some x->K8 i x/\x.Thruster<=7
theorem Rz.cons(h:Rz nb l so):Yk nb l so.length [] where
 len:=by have:=h.len;simp;omega
 br x hx:=by obtain⟨h1,h2⟩:=h.br x hx;exact⟨h1,h2.imp id .inl⟩
 one:=h.one
 any i hi:=by simp at hi
 nodup i:=by
  rw[K4]
  .simp
  .intro x hx h3;obtain⟨_,h2⟩:=h.br x hx;omega
 co i x hx:=by simp at hx
variable{x:dU}
theorem Rz.add(h:Rz nb l so){y:eh}(hx:x.Kind=2/\x.B=so.length/\0<=x.A/\x.A<nb)(hy:K5 y):Rz nb (l++[x]) (so++[y]) where
 len:=by have:=h.len;simp;omega
 br z hz:=by
  rcases ao.1 hz with hz|hz
  .obtain⟨h1,h2⟩:=h.br z hz;grind
  grind
 one i hi:=by
  rw[aw]at hi;simp only[bf,bU]at hi;rw[Gz,uM,aw];by_cases e:i=so.length
  .rw[K4,eT ⟨hx.1,by omega⟩]
   .rfl
   .intro z hz h2;obtain⟨_,h3⟩:=h.br z hz;omega
  .rw[h.one i (by omega),eU (by omega)];rfl
 so z hz:=by
  rcases ao.1 hz with hz|hz
  .exact h.so z hz
  .simp at hz;subst hz;exact hy
theorem Yk.add{m:List dU}{co:List dV}(h:Yk nb l ns co){y:dV}(hm:∀x,x∈m->x.Kind=3/\x.B=co.length/\0<=x.A/\x.A<nb)(h1:m≠[])(h2:m.length<=2)(h3:(m.map (·.A)).Nodup)
  (hy:K8 co.length y/\y.Thruster<=7):Yk nb (l++m) ns (co++[y]):=by
 have e1:brs m 3 co.length=m:=by unfold brs;rw[bW];intro x hx;obtain⟨g1,g2,_⟩:=hm x hx;simp[g1,g2]
 have e2:∀i,i≠co.length->brs m 3 i=[]:=λi hi=>K4 λx hx _ e=>by have:=(hm x hx).2.1;omega
 have e3:brs l 3 co.length=[]:=K4 λx hx h3 e=>by obtain⟨_,g⟩:=h.br x hx;omega
 have hlen:(co++[y]).length=co.length+1:=by simp
 refine⟨?_,λz hz=>?_,λi hi=>?_,λi hi=>?_,λi=>?_,λi x hx=>?_⟩
 .have:=h.len;rw[aw,hlen];omega
 .rw[hlen];rcases ao.1 hz with hz|hz
  .obtain⟨g1,g2⟩:=h.br z hz;exact⟨g1,by omega⟩
  .obtain⟨g1,g2,g3⟩:=hm z hz;exact⟨g3,by omega⟩
 .have:brs m 2 i=[]:=K4 λx hx h2=>by have:=(hm x hx).1;omega
  rw[Gz,this,aB];exact h.one i hi
 .rw[Gz];rw[hlen]at hi;by_cases e:i=co.length
  .subst e;rw[e1];simp[h1]
  .have:=h.any i (by omega);simp[this]
 .rw[Gz];by_cases e:i=co.length
  .subst e;rw[e1,e3];simpa using h3
  .rw[e2 i e,aB];exact h.nodup i
 .rw[cD]at hx;split at hx
  .exact h.co i x hx
  grind
theorem N2.nil(nb:Int):N2 nb []:=λx hx=>by cases hx
theorem N2.add(h:N2 nb l)(hx:x.Kind=1/\0<=x.A/\x.A<x.B/\x.B<nb):N2 nb (l++[x]):=λz hz=>by
 rcases ao.1 hz with hz|hz
 .exact h z hz
 .simp at hz;subst hz;exact hx
theorem N2.gens(h:N2 nb l)(hl:l.length<=4):Rz nb l [] where
 len:=by simpa using hl
 br x hx:=by have:=h x hx;exact⟨by omega,.inl (by omega)⟩
 one i hi:=by simp at hi
 so x hx:=by cases hx
variable{y:Int×Ab}
theorem Aso(hy:1<=y.1/\y.1<=4)(hs0:A4 s0) :
  Ok (whileN (Aez y) 1152921504606846976 (1,s0.L,s0.At,([]:List dU))) (Bh (λs=>A4 ⟨s.2.1,s.2.2.1⟩/\N2 y.1 s.2.2.2/\s.2.2.2.length<=3) (λ(_:Unit)=>False)):=by
 refine d6 (λs=>(1<=s.1/\s.1<=4/\s.1<=y.1)/\A4 ⟨s.2.1,s.2.2.1⟩/\N2 y.1 s.2.2.2/\(s.2.2.2.length:Int)+1<=s.1) (λs=>(y.1-s.1).toNat) _ _ ?_ ?_ ?_
 .exact⟨by dsimp only;omega,hs0,N2.nil _,by simp⟩
 .dsimp only;omega
 .rintro⟨i,L,a,l⟩ ⟨⟨h1,h2,h3⟩,h4,h5,h6⟩;dsimp only at h1 h2 h3 h4 h5 h6;unfold Aez;refine c6 (λh=>?_) (λh=>?_)
  .simp only[dF]at h;have e:w64 (i+1)=i+1:=Ah;dsimp only;rw[e];refine(D2 h4 6 (by omega) (by omega)).bind λu hu=>c6 (λ_=>?_) (λ_=>?_)
   .refine(D2 hu.1 i h1 (by omega)).bind λv hv=>(d8 (by simp;omega)).bind λm hm=>c7 ?_;subst hm;have:=hv.2;refine⟨⟨by dsimp only;omega,hv.1,h5.add ⟨rfl,by dsimp only;omega,by dsimp only;omega,by dsimp only;omega⟩,by simp;omega⟩,by dsimp only;omega⟩
   .refine c7 ⟨⟨by dsimp only;omega,hu.1,h5,by dsimp only;omega⟩,by dsimp only;omega⟩
  .exact db ⟨h4,h5,by dsimp only;omega⟩
theorem Asn(hy:1<=y.1/\y.1<=4)(hs0:A4 s0)(hk:0<=k/\k<5)(hl0:Rz y.1 l0 []) :
  Ok (whileN (Aey y) 1152921504606846976 (k,s0.L,s0.At,l0,([]:List eh))) (Bh (λs=>A4 ⟨s.2.1,s.2.2.1⟩/\Rz y.1 s.2.2.2.1 s.2.2.2.2/\s.2.2.2.2.length<=4) (λ(_:Unit)=>False)):=by
 refine d6 (λs=>(0<=s.1/\s.1+(s.2.2.2.2.length:Int)<=4)/\A4 ⟨s.2.1,s.2.2.1⟩/\Rz y.1 s.2.2.2.1 s.2.2.2.2) (λs=>s.1.toNat) _ _ ?_ ?_ ?_
 .exact⟨by simp;omega,hs0,hl0⟩
 .dsimp only;omega
 .rintro⟨i,L,a,l,so⟩ ⟨⟨h1,h2⟩,h4,h5⟩;dsimp only at h1 h2 h4 h5;unfold Aey;refine c6 (λh=>?_) (λh=>?_)
  .simp only[dF]at h;have e:w64 (i-1)=i-1:=Ah;have hl:=h5.len;dsimp only;rw[e];refine(D2 h4 y.1 hy.1 (by omega)).bind λu hu=>(d8 (by simp;omega)).bind λm hm=>?_;refine(B8 hu.1 _ (by simp) (by simp)).bind λv hv=>(B8 hv.1 _ (by simp) (by simp)).bind λp hp=>(B8 hp.1 _ (by simp) (by simp)).bind λq hq=>(d8 (by simp;omega)).bind λo ho=>c7 ?_;subst hm;subst ho;have g1:=hu.2;have g2:v.1=10\/v.1=50\/v.1=100:=by simpa using hv.2
   have g3:p.1=0\/p.1=5\/p.1=v.1:=by simpa using hp.2
   have g4:q.1=0\/q.1=1\/q.1=3:=by simpa using hq.2
   refine⟨⟨by simp;omega,hq.1,h5.add ⟨rfl,rfl,g1⟩ ⟨by dsimp only;omega,by dsimp only;omega,by dsimp only;omega⟩⟩,by dsimp only;omega⟩
  .exact db ⟨h4,h5,by dsimp only;omega⟩
variable{x:Int}
theorem Avo(h:0<=x)(h2:x<=50000):0<=w64 (Int.tdiv x 2)/\w64 (Int.tdiv x 2)<=x:=by have:Int.tdiv x 2=x / 2:=cS h;rw[this,Ah];omega
theorem Aqj(h:0<=x)(h2:x<=50000):0<=w64 (Int.tdiv x 3)/\w64 (Int.tdiv x 3)<=x:=by have:Int.tdiv x 3=x / 3:=cS h;rw[this,Ah];omega
theorem Asm(hy:1<=y.1/\y.1<=4)(hs0:A4 s0)(hk:0<=k/\k<6)(hns:ns<=4)(hl0:Yk y.1 l0 ns []) :
  Ok (whileN (Aex y) 1152921504606846976 (k,s0.L,s0.At,l0,([]:List dV))) (Bh (λs=>A4 ⟨s.2.1,s.2.2.1⟩/\Yk y.1 s.2.2.2.1 ns s.2.2.2.2/\s.2.2.2.2.length<=5) (λ(_:Unit)=>False)):=by
 refine d6 (λs=>(0<=s.1/\s.1+(s.2.2.2.2.length:Int)<=5)/\A4 ⟨s.2.1,s.2.2.1⟩/\Yk y.1 s.2.2.2.1 ns s.2.2.2.2) (λs=>s.1.toNat) _ _ ?_ ?_ ?_
 .exact⟨by simp;omega,hs0,hl0⟩
 .dsimp only;omega
 .rintro⟨i,L,a,l,co⟩ ⟨⟨h1,h2⟩,h4,h5⟩;dsimp only at h1 h2 h4 h5;unfold Aex;refine c6 (λh=>?_) (λh=>?_)
  .simp only[dF]at h;have e:w64 (i-1)=i-1:=Ah;have hl:=h5.len;dsimp only;rw[e];refine(D2 h4 y.1 hy.1 (by omega)).bind λu hu=>(d8 (by simp;omega)).bind λm hm=>?_;subst hm;have g1:=hu.2;refine eJ (P:=λv=>A4 v.2) (c9 (λ_=>(D2 hu.1 4 (by omega) (by omega)).mono λ_ h=>h.1) λ_=>hu.1) λv hv=>?_;refine Ok.inner (A:=λ(r:List dU)=>∃m,r=l++m/\(∀x,x∈m->x.Kind=3/\x.B=co.length/\0<=x.A/\x.A<y.1)/\m≠[]/\m.length<=2/\(m.map (·.A)).Nodup) (B:=λ(_:Unit)=>False) ?_ (λr hr=>?_) eN
   .unfold Apt;refine c6 (λhc=>?_) (λhc=>?_)
    .simp only[ac,dF]at hc;have e2:w64 (u.1+1)=u.1+1:=Ah;rw[e2];refine(Ok.nzI (by omega)).bind λ_ _=>(d8 (by simp;omega)).bind λm hm=>dj ?_;subst hm;have g2:=Agx (x:=u.1+1) (n:=y.1) (by omega) (by omega);have g3:Int.tmod (u.1+1) y.1≠u.1:=by
      rw[cx (by omega)];intro e3;by_cases g4:u.1+1=y.1
      .rw[g4,Int.emod_self]at e3;omega
      .rw[Int.emod_eq_of_lt (by omega) (by omega)]at e3;omega
     refine⟨_,aP _ _ _,?_,by simp,by simp,?_⟩
     .intro x hx;simp at hx;rcases hx with rfl|rfl
      .exact⟨rfl,rfl,g1⟩
      .exact⟨rfl,rfl,g2⟩
     .simp;exact λh=>g3 h.symm
    .exact dj ⟨_,rfl,λx hx=>by simp at hx;subst hx;exact⟨rfl,rfl,g1⟩,by simp,by simp,by simp⟩
   .obtain⟨m,rfl,hm,hm1,hm2,hm3⟩:=hr;refine(B8 hv _ (by simp) (by simp)).bind λp hp=>(B8 hp.1 _ (by simp) (by simp)).bind λq hq=>(D2 hq.1 3 (by omega) (by omega)).bind λpr hpr=>(Fl hpr.1 (-1) 2 (by omega) (by omega)).bind λth hth=>?_;have k1:p.1=0\/p.1=5\/p.1=20\/p.1=40:=by simpa using hp.2
    have k2:q.1=0\/q.1=w64 (Int.tdiv p.1 2)\/q.1=p.1:=by simpa using hq.2
    have k3:=Avo (x:=p.1) (by omega) (by omega);have k4:=hpr.2;have k5:=hth.2;refine eJ (P:=λv=>A4 v.2) (c9 (λ_=>(D2 hth.1 4 (by omega) (by omega)).mono λ_ h=>h.1) λ_=>hth.1) λw hw=>c6 (λhc=>?_) (λhc=>?_)
    .simp only[Aua,ac,dF]at hc;refine(D2 hw _ (by omega) (by omega)).bind λn hn=>(d8 (by simp;omega)).bind λo ho=>c7 ?_;subst ho;have k6:=hn.2;refine⟨⟨by simp;omega,hn.1,h5.add hm hm1 hm2 hm3 ⟨⟨by dsimp only;omega,by dsimp only;omega,by dsimp only;omega,by dsimp only;omega,by simp,?_,?_⟩,by dsimp only;omega⟩⟩,by dsimp only;omega⟩
     .intro z hz;simp at hz;subst hz;exact k6
     .intro j a b ha hb;simp at hb
    .refine(d8 (by simp;omega)).bind λo ho=>c7 ?_;subst ho;refine⟨⟨by simp;omega,hw,h5.add hm hm1 hm2 hm3 ⟨⟨by dsimp only;omega,by dsimp only;omega,by dsimp only;omega,by dsimp only;omega,by simp,?_,?_⟩,by dsimp only;omega⟩⟩,by dsimp only;omega⟩
     .intro z hz;simp at hz
     .intro j a b ha hb;simp at ha
  .exact db ⟨h4,h5,by dsimp only;omega⟩
structure Ayq(b:c_):Prop where
 ok:Ad b
 buses:b.Buses<=4
 brl:b.Breakers.length<=18
 sol:b.Sources.length<=4
 col:b.Consumers.length<=5
 thr:∀x,x∈b.Consumers->x.Thruster<=7
theorem Atl(hs:A4 s):Ok (F34 s) λy=>Ayq y.1/\A4 y.2:=by
 unfold F34;refine(Fl hs 1 4 (by omega) (by omega)).bind λy1 h1=>(B8 h1.1 _ (by simp) (by simp)).bind λy3 h3=>(B8 h3.1 _ (by simp) (by simp)).bind λy5 h5=>?_;refine(Aso h1.2 h5.1).andThen (λs0 hs0=>?_) eN;refine eJ (P:=λv=>A4 v.2) (c9 (λ_=>(D2 hs0.1 2 (by omega) (by omega)).mono λ_ h=>h.1) λ_=>hs0.1) λy15 h15=>?_;have hb:=h1.2;refine eI (A:=λ(l:List dU)=>N2 y1.1 l/\l.length<=4) (B:=λ(_:Unit)=>False) ?_ (λl hl=>?_) eN
 .unfold Apu;refine c6 (λhc=>?_) (λhc=>dj ⟨hs0.2.1,by omega⟩);simp only[ac,dF]at hc;have e:w64 (y1.1-1)=y1.1-1:=Ah;rw[e];have:=hs0.2.2;refine(d8 (by simp;omega)).bind λm hm=>dj ?_;subst hm;exact⟨hs0.2.1.add ⟨rfl,by simp,by dsimp only;omega,by dsimp only;omega⟩,by simp;omega⟩
 .refine(D2 h15 5 (by omega) (by omega)).bind λy20 h20=>?_;refine(Asn h1.2 h20.1 h20.2 (hl.1.gens hl.2)).andThen (λs2 hs2=>?_) eN;refine(D2 hs2.1 6 (by omega) (by omega)).bind λy35 h35=>?_;refine(Asm h1.2 h35.1 h35.2 hs2.2.2 hs2.2.1.cons).andThen (λs3 hs3=>eK ⟨?_,hs3.1⟩) eN;obtain⟨_,hc,hl5⟩:=hs3;have hl4:=hs2.2.2;have hlen:=hc.len;have p3:y3.1=0\/y3.1=50\/y3.1=200\/y3.1=1800:=by simpa using h3.2
  have p5:y5.1=0\/y5.1=10\/y5.1=50:=by simpa using h5.2
  refine⟨⟨by dsimp only;omega,by dsimp only;omega,by dsimp only;omega,by dsimp only;omega,by dsimp only;omega,by dsimp only;omega,hc.br,hc.one,hc.any,hc.nodup,hs2.2.1.so,λi x hx=>(hc.co i x hx).1⟩,by dsimp only;omega,by dsimp only;omega,hl4,hl5,λx hx=>?_⟩;obtain⟨i,hi⟩:=bB hx;exact(hc.co i x hi).2
theorem B_(x lo hi:Int):F79 x lo hi=true↔lo<=x/\x<=hi:=by simp[F79]
theorem qQ(h:lo<=x/\x<=hi:=by omega):F79 x lo hi=true:=(B_ x lo hi).2 h
theorem Cx(l:fb)(x:Int)(h:l.length<=9223372036854775807:=by omega):N9 l x=some (l.any (x == ·)):=by unfold N9 Ath;rw[Jj (λy=>x==y) (λi y=>rfl) l h];simp only[aa,Np]
theorem W0(l:List fb)(h:l.length<=9223372036854775807):jH l=some (l.any λx=>(x.length:Int)==0):=by unfold jH Afg;rw[Jj (λy=>(y.length:Int)==0) (λi y=>rfl) l h];simp only[aa,Np]
theorem Agn(h:Ad b):Ok (F80 b) (· = true):=by
 unfold F80;have hs:=h.sol;have hc:=h.col;have hb:=h.buses;refine(Ok.mkI (by omega) (by omega)).bind λys hys=>(Ok.mkI (by omega) (by omega)).bind λzs hzs=>?_;rw[aq]at hys hzs;refine eI (A:=λs=>s.1=(List.range b.Sources.length).map (λi=>((brs b.Breakers 2 i).length:Int))/\s.2=(List.range b.Consumers.length).map (λi=>(brs b.Breakers 3 i).map (·.A))) (B:=λ_=>False) ?_ ?_ eN
 .refine c8 (I:=λj s=>s.1=(List.range b.Sources.length).map (λi=>((brs (b.Breakers.take j) 2 i).length:Int))/\s.2=(List.range b.Consumers.length).map (λi=>(brs (b.Breakers.take j) 3 i).map (·.A))) ?_ ?_ ?_
  .exact⟨by rw[hys,Jk];rfl,by rw[hzs,Jk];rfl⟩
  .rintro j x ⟨us,vs⟩ hx ⟨hu,hv⟩;dsimp only at hu hv;subst hu;subst hv;have hmem:=ae hx;obtain⟨⟨a0,a1⟩,hk⟩:=h.br x hmem;have htk:∀k i,brs (b.Breakers.take (j+1)) k i=brs (b.Breakers.take j) k i++if x.Kind=k/\x.B=(i:Int)then [x] else []:=λk i=>by rw[An hx,Gz,uM]
   have hall:∀k i,brs b.Breakers k i=brs (b.Breakers.take (j+1)) k i++brs (b.Breakers.drop (j+1)) k i:=λk i=>by rw[←Gz,bP]
   unfold Aee;have e1:w64 (b.Buses-1)=b.Buses-1:=Ah;have e2:w64 (x.A+1)=x.A+1:=Ah;refine c6 (λhq=>?_) (λ_=>?_)
   .rw[e1,qQ]at hq;simp at hq
   refine c6 (λhq=>?_) (λhq=>?_)
   .simp only[Aao,ac,dH,B_]at hq;refine c7 ⟨aY λi _=>?_,aY λi _=>?_⟩
    .rw[htk,eU (by omega),aB]
    .rw[htk,eU (by omega),aB]
   have hq:=ff hq;simp only[Aao,ac,dH,B_,e1,e2]at hq;rcases hk with hk|hk|hk
   .exact absurd ⟨hk.1,by omega⟩ hq
   .have hBn:x.B=(x.B.toNat:Int):=by omega
    have hone:=h.one x.B.toNat (by omega);have hz:(brs (b.Breakers.take j) 2 x.B.toNat).length=0:=by rw[hall,htk,eT ⟨hk.1,hBn⟩]at hone;simp at hone;omega
    have hg:((x.Kind==2)&&(F79 x.B 0 (w64 ((((List.range b.Sources.length).map (λi=>((brs (b.Breakers.take j) 2 i).length:Int))).length:Int)-1))))=true:=by rw[ac,dH,B_,au,ct,Ah];omega
    dsimp only;refine eJ (P:=λy=>y=0) (c9 (λ_=>(dn (by omega)).mono λy hy=>by rw[hy,hz];rfl) λhn=>(Vs hg hn).elim) λy hy=>?_;refine c6 (λhq2=>?_) (λhq2=>?_)
    .refine(dn (by omega)).bind λy2 hy2=>(dt (by omega)).bind λy3 hy3=>c7 ⟨?_,aY λi _=>?_⟩
     .rw[hy3];refine aY λi hi=>?_;by_cases e:i=x.B.toNat
      .subst e;rw[eT rfl,hy2,htk,eT ⟨hk.1,hBn⟩,hz,aw,hz];rfl
      .rw[eU e,htk,eU (by omega),aB]
     .rw[htk,eU (by omega),aB]
    .have hq2:=ff hq2;simp only[Aan,ac,hy]at hq2;rw[ac]at hg;exact absurd ⟨hg,by simp⟩ hq2
   .have hBn:x.B=(x.B.toNat:Int):=by omega
    have hnod:=h.nodup x.B.toNat;have hnot:x.A∉(brs (b.Breakers.take j) 3 x.B.toNat).map (·.A):=by rw[hall,htk,eT ⟨hk.1,hBn⟩]at hnod;simp only[bh,bo,List.map_nil]at hnod;rw[cT]at hnod;have:=hnod.1;rw[cT]at this;intro hm;exact this.2.2 _ hm _ (by simp) rfl
    have hg0:((x.Kind==2)&&(F79 x.B 0 (w64 ((((List.range b.Sources.length).map (λi=>((brs (b.Breakers.take j) 2 i).length:Int))).length:Int)-1))))=false:=by
     have:(x.Kind==2)=false:=by rw[dJ];omega
     rw[this];rfl
    have hg:((x.Kind==3)&&(F79 x.B 0 (w64 ((((List.range b.Consumers.length).map (λi=>(brs (b.Breakers.take j) 3 i).map (·.A))).length:Int)-1))))=true:=by rw[ac,dH,B_,au,ct,Ah];omega
    dsimp only;refine eJ (P:=λ_=>True) (c9 (λhn=>absurd hn.1 (by rw[hg0];simp)) λ_=>trivial) λy _=>?_;refine c6 (λhq2=>?_) (λ_=>?_)
    .simp only[Aan,ac,dH]at hq2;omega
    refine eJ (P:=λy=>y=(brs (b.Breakers.take j) 3 x.B.toNat).map (·.A)) (c9 (λ_=>dn (by omega)) λhn=>(Vs hg hn).elim) λy14 hy14=>?_;have hyl:y14.length<=24:=by rw[hy14,au];have:=bk (λx=>x.Kind==3&&x.B==((x.B.toNat:Nat):Int)) (b.Breakers.take j);have h1:(brs (b.Breakers.take j) 3 x.B.toNat).length<=(b.Breakers.take j).length:=bk _ _;have h2:=h.brl;rw[aT]at h1;omega
    refine eJ (P:=λy=>y=false) (c9 (λ_=>?_) λhn=>(Vs hg hn).elim) λy16 hy16=>?_
    .rw[Cx _ _];refine eK ?_;rw[bq];intro z hz;rw[hy14]at hz;simp only[dH];rintro rfl;exact hnot hz
    refine c6 (λhq2=>?_) (λhq2=>?_)
    .refine(dn (by omega)).bind λy19 hy19=>?_;rw[hy19,←hy14];refine(d8 (by simp;omega)).bind λy21 hy21=>(dt (by omega)).bind λy23 hy23=>c7 ⟨aY λi _=>?_,?_⟩
     .rw[htk,eU (by omega),aB]
     .rw[hy23];refine aY λi hi=>?_;by_cases e:i=x.B.toNat
      .subst e;rw[eT rfl,hy21,hy14,htk,eT ⟨hk.1,hBn⟩,bh];rfl
      .rw[eU e,htk,eU (by omega),aB]
    .have hq2:=ff hq2;simp only[Akf,ac,hy16]at hq2;rw[ac]at hg;exact absurd ⟨hg,by simp⟩ hq2
  .rintro⟨us,vs⟩ ⟨hu,hv⟩;rw[am]at hu hv;exact⟨hu,hv⟩
 .rintro⟨us,vs⟩ ⟨hu,hv⟩;dsimp only at hu hv ⊢;rw[Cx _ _ (by rw[hu];simp;omega)];have h0:us.any (λy=>0==y)=false:=by
   rw[bq,hu];intro z hz;obtain⟨i,hi,rfl⟩:=an.1 hz;rw[h.one i (by simpa using hi)];simp
  have h1:vs.any (λx=>(x.length:Int)==0)=false:=by rw[bq,hv];intro z hz;obtain⟨i,hi,rfl⟩:=an.1 hz;have:=h.any i (by simpa using hi);simp only[au,dH];intro e;exact this (bK (by omega))
  simp only[h0,aa];refine eJ (P:=λy=>y=false) (c9 (λ_=>?_) λhn=>(Vs rfl hn).elim) λy hy=>eK (by rw[hy];rfl);rw[W0 _ (by rw[hv];simp;omega)];exact eK h1
theorem Amk{x:eh}(h:K5 x):F81 x=true:=by obtain⟨h1,h2,h3⟩:=h;simp only[F81,ac,B_];omega
theorem Agl{x:dV}(h:K8 i x)(hi:i<=1000):F82 x (i:Int)=some true:=by
 obtain⟨h1,h2,h3,h4,h5,h6,h7⟩:=h;unfold F82;have hf:foldI (Zx x (i:Int)) x.Needs 0 ()=some (.next ()):=by
  refine Ci _ _ λj n hj=>?_;rw[aH];have hn:=h6 n (ae hj);have hjl:=(ab.1 hj).1;have hcnt:cnt 0 j=(j:Int):=Bf;have hin:F79 n 0 (w64 ((i:Int)-1))=true:=by rw[B_,Ah];omega
  unfold Zx At4;rw[hcnt,hin];cases j with
  |zero=>simp[Ag,C9]
  | succ j=>
   obtain⟨p,hp⟩:∃p,x.Needs[j]?=some p:=⟨_,af (by omega)⟩;have hlt:=h7 j p n hp hj;have e:w64 ((((j+1:Nat):Int))-1)=(j:Int):=by rw[Ah];omega
   have hg:getI x.Needs (j:Int)=some p:=by unfold getI;simp[hp]
   have hd:decide (((j+1:Nat):Int)>0)=true:=dK (by omega);have hd2:decide (p>=n)=false:=by simp;omega
   rw[e,hg,hd];simp[Ag,C9,hd2]
 rw[hf];have:(((((F79 x.Load 0 50000)&&(F79 x.Least 0 x.Load))&&(F79 x.Preference 0 15))&&(F79 x.Thruster (-1) 7))&&(decide ((x.Needs.length:Int)<=4)))=true:=by simp only[ac,B_,dF];omega
 simp[andThen,this]
theorem K1(h:Ad b):F43 b=some 0:=by
 refine de ?_;unfold F43;have h1:=h.buses;have h2:=h.brl;have h3:=h.sol;have h4:=h.col;have h5:=h.phase;have h6:=h.freq;refine c6 (λhc=>?_) (λ_=>?_)
 .have:F79 b.Buses 1 6=true:=qQ;simp only[Aaq,this,aE,dF,aC,cO,false_or]at hc;omega
 refine(Agn h).bind λy hy=>?_;subst hy;rw[qQ (x:=b.Phase),qQ (x:=b.Frequency)];refine eI (A:=λs=>s=true) (B:=λ(_:Unit)=>False) ?_ ?_ eN
 .refine c8 (I:=λ_ s=>s=true) rfl (λj x s hx hs=>?_) λ_ h=>h;subst hs;refine c7 ?_;rw[Amk (h.so x (ae hx))];rfl
 .rintro s rfl;refine eI (A:=λs=>s=true) (B:=λ(_:Unit)=>False) ?_ ?_ eN
  .refine c8 (I:=λ_ s=>s=true) rfl (λj x s hx hs=>?_) λ_ h=>h;subst hs;have hj:=(ab.1 hx).1;unfold Aet;have:Ag [(true,true)] (F82 x (cnt 0 j)) default=some true:=by
    rw[Bf,Agl (h.co j x hx) (by omega)];rfl
   rw[this];exact c7 rfl
  .rintro s rfl;exact eK rfl
def B7(x:ee):Prop:=(0<=x.State/\x.State<=3)/\(0<=x.Since/\x.Since<=2147483648)/\(0<=x.Frequency/\x.Frequency<=6000)/\0<=x.Phase/\x.Phase<=3599
def Bc(b:c_)(x:dX):Prop:=
 0<=x.Number/\((x.Kind=1/\x.Number<b.Sources.length)\/(x.Kind=2/\x.Number<b.Breakers.length)\/(x.Kind=3/\x.Number<b.Buses)\/(x.Kind=4/\x.Number<b.Consumers.length))
def Kh(x y:dX):Prop:=x.Kind<y.Kind\/x.Kind=y.Kind/\x.Number<y.Number
structure Df(b:c_)(l:List dX):Prop where
 len:l.length<=32
 mem:∀x,x∈l->Bc b x
 asc:∀(j:Nat) x y,l[j]?=some x->l[j+1]?=some y->Kh x y
def Br(l:List dU)(c:fe)(i:Nat):List (dU×Bool):=(l.zip c).filter λz=>(z.1.Kind==3&&z.1.B==(i:Int))&&z.2
structure Aa(b:c_)(p:dZ):Prop where
 ncl:p.Closed.length=b.Breakers.length
 nso:p.Sources.length=b.Sources.length
 nli:p.Limits.length=b.Consumers.length
 run:∀x,x∈p.Sources->B7 x
 lim:∀(i:Nat) n c,p.Limits[i]?=some n->b.Consumers[i]?=some c->0<=n/\n<=c.Load
 one:∀i,i<b.Consumers.length->(Br b.Breakers p.Closed i).length<=1
 brk:Df b p.Broken
theorem Ai2{x:ee}(h:B7 x):Oa x=true:=by obtain⟨h1,h2,h3,h4⟩:=h;simp only[Oa,ac,B_];omega
theorem Yw(l:List ee)(h:l.length<=9223372036854775807):Vl l=some (l.any λx=>!Oa x):=by unfold Vl Afs;rw[Jj (λy=>!Oa y) (λi y=>rfl) l h];simp only[aa,Np]
theorem T6(x y:Int):K7 x y=if x<y then -1 else if x>y then 1 else 0:=by grind[Yf,K7]
theorem Atq(x y:Int):vE [x,y]=some (if x=0 then y else x):=by grind[vE,andThen,foldI,Aig]
variable{x:dX}
theorem Au0(h:Ad b)(hx:Bc b x):F79 x.Number 0 (w64 ((Iz b x.Kind)-1))=true:=by
 have h1:=h.buses;have h2:=h.brl;have h3:=h.sol;have h4:=h.col;obtain⟨hn,hk⟩:=hx;have hsz:∃n,Iz b x.Kind=n/\x.Number<n/\n<=100:=by unfold Iz;grind
 obtain⟨n,e,g1,g2⟩:=hsz;rw[e,B_,Ah];omega
theorem Ao2(h:Ad b){l:List dX}(hl:Df b l):vR b l=some true:=by
 have hlen:=hl.len;unfold vR;have hf:foldI (Wm b l) l 0 ()=some (.next ()):=by
  refine Ci _ _ λj x hj=>?_;rw[aH];have hjl:=(ab.1 hj).1;have hcnt:cnt 0 j=(j:Int):=Bf;have hin:=Au0 h (hl.mem x (ae hj));unfold Wm Adl;rw[hcnt,hin];cases j with
  |zero=>simp[Ag,C9]
  | succ j=>
   obtain⟨p,hp⟩:∃p,l[j]?=some p:=⟨_,af (by omega)⟩;have hlt:=hl.asc j p x hp hj;have e:w64 ((((j+1:Nat):Int))-1)=(j:Int):=by rw[Ah];omega
   have hg:getI l (j:Int)=some p:=by unfold getI;simp[hp]
   have hd:decide (((j+1:Nat):Int)>0)=true:=dK (by omega);have ho:vE [K7 p.Kind x.Kind,K7 p.Number x.Number]=some (-1):=by
    rw[Atq,T6,T6];rcases hlt with h1|⟨h1,h2⟩
    .simp[h1]
    .simp[h1,h2]
   rw[e,hg,hd];simp[Ag,C9,ho]
 rw[hf];have:decide ((l.length:Int)<=32)=true:=by simp;omega
 simp[andThen,this]
theorem Mq{x:dU}{v:Bool}(hx:l[j]?=some x)(hv:c[j]?=some v)(i:Nat) :
  Br (l.take (j+1)) (c.take (j+1)) i=Br (l.take j) (c.take j) i++if((x.Kind==3&&x.B==(i:Int))&&v)=true then [(x,v)] else []:=by
 unfold Br;rw[An hx,An hv,List.zip_append (by grind),aX]
 congr 1;simp only[bN,List.zip_nil_right,bt,bO]
theorem yX(h:Ad b)(hc:p.Closed.length=b.Breakers.length)(i:Nat):Al0 b p (i:Int)=some (((Br b.Breakers p.Closed i).length:Nat):Int):=by
 refine de ?_;unfold Al0;have hb:=h.brl;refine eI (A:=λs=>s=(((Br b.Breakers p.Closed i).length:Nat):Int)) (B:=λ(_:Unit)=>False) ?_ (λs hs=>eK hs) eN;refine c8 (I:=λj s=>s=(((Br (b.Breakers.take j) (p.Closed.take j) i).length:Nat):Int)) ?_ (λj x s hx hs=>?_) λs hs=>?_
 .simp[Br]
 .have hj:=(ab.1 hx).1;obtain⟨v,hv⟩:∃v,p.Closed[j]?=some v:=⟨_,af (by omega)⟩;have hcnt:cnt 0 j=(j:Int):=Bf;have hg:getI p.Closed (j:Int)=some v:=by unfold getI;simp[hv]
  have hle:(Br (b.Breakers.take j) (p.Closed.take j) i).length<=24:=by have h1:(Br (b.Breakers.take j) (p.Closed.take j) i).length<=((b.Breakers.take j).zip (p.Closed.take j)).length:=bk _ _;simp at h1;omega
  subst hs;unfold Ais Aoy;rw[hcnt,hg,Mq hx hv];cases hk:(x.Kind==3&&x.B==(i:Int)) with
  |false=>simp only[Ag,C9,Bool.false_and];exact c7 (by simp)
  | true=>
   simp only[Ag,C9,aZ];cases v with
   |false=>exact c7 (by simp)
   |true=>refine c7 ?_;show w64 _=_;rw[Ah];simp
 grind
theorem A8(h:Ad b)(hp:Aa b p):F56 b p=some 0:=by
 refine de ?_;unfold F56;have h1:=hp.ncl;have h2:=hp.nso;have h3:=hp.nli;have h4:=h.col;have h5:=h.sol;rw[K1 h];simp only[aa];have c0:Zm b p=false:=by simp[Zm,h1,h2,h3]
 have c1:((0:Int) != 0)=false:=rfl;rw[c1,c0,Ao2 h hp.brk];simp only[eQ,aa];have hr:(p.Sources.any λx=>!Oa x)=false:=by rw[bq];intro x hx;rw[Ai2 (hp.run x hx)];simp
 have:Ag [(true,true)] (Vl p.Sources) default=some false:=by rw[Yw _ (by omega),hr];rfl
 rw[this];simp only[aa];refine eI (A:=λs=>s=true) (B:=λ(_:Unit)=>False) ?_ ?_ eN
 .refine c8 (I:=λ_ s=>s=true) rfl (λj x s hx hs=>?_) λ_ h=>h;subst hs;have hj:=(ab.1 hx).1;obtain⟨c,hc⟩:∃c,b.Consumers[j]?=some c:=⟨_,af (by omega)⟩;have hcnt:cnt 0 j=(j:Int):=Bf;have hg:getI b.Consumers (j:Int)=some c:=by unfold getI;simp[hc]
  have hl:=hp.lim j x c hx hc;have hone:=hp.one j (by omega);unfold Aeo;rw[hcnt,hg];have e1:Ag [(true,true)] (some c) default=some c:=rfl;rw[e1];simp only[aa];have e2:(true&&F79 x 0 c.Load)=true:=by rw[qQ hl];rfl
  rw[e2,yX h h1];have e3:Ag [(true,true)] (some (((Br b.Breakers p.Closed j).length:Nat):Int)) default=some (((Br b.Breakers p.Closed j).length:Nat):Int):=rfl;rw[e3];simp only[aa];refine c7 ?_;simp;omega
 .rintro s rfl;exact eK rfl
theorem C5(x lo hi:Int):F95 x lo hi=true↔lo<=x/\x<=hi:=by simp[F95]
theorem Kc(h:Ad b)(x:dX):F96 b x=true↔Bc b x:=by
 have h1:=h.buses;have h2:=h.brl;have h3:=h.sol;have h4:=h.col;unfold F96 Bc;rw[Ah (n:=(b.Sources.length:Int)-1),Ah (n:=(b.Breakers.length:Int)-1),Ah (n:=b.Buses-1),Ah (n:=(b.Consumers.length:Int)-1)];by_cases k1:x.Kind=1
 .rw[dH.2 k1,eO,C5];omega
 rw[dJ.2 k1,eQ];by_cases k2:x.Kind=2
 .rw[dH.2 k2,eO,C5];omega
 rw[dJ.2 k2,eQ];by_cases k3:x.Kind=3
 .rw[dH.2 k3,eO,C5];omega
 rw[dJ.2 k3,eQ];by_cases k4:x.Kind=4
 .rw[dH.2 k4,eO,C5];omega
 grind
theorem Acd:∀{c d:fe},c.length=d.length->(∀k:Nat,c[k]?=some true->d[k]?=some true)->∀i,(Br l c i).length<=(Br l d i).length:=by
 induction l with
 |nil=>intro c d _ _ i;simp[Br]
 | cons x l ih=>
  intro c d hl h i;cases c with
  |nil=>simp[Br]
  | cons v c=>cases d with
   |nil=>simp at hl
   |cons u d=>
    have:=ih (c:=c) (d:=d) (by simpa using hl) (λk hk=>by have:=h (k+1) (by simpa using hk);simpa using this) i;have h0:v=true->u=true:=λe=>by have:=h 0 (by simp[e]);simpa using this
    unfold Br at this ⊢;simp only[bN,bt];grind
theorem Aq6(h:Ad b)(hs0:A4 s0) :
  Ok (whileN (Ve b) 1152921504606846976 (0,s0.L,s0.At,([]:fe))) (Bh (λs=>A4 ⟨s.2.1,s.2.2.1⟩/\s.2.2.2.length=b.Breakers.length) (λ(_:Unit)=>False)):=by
 have hb:=h.brl;refine d6 (λs=>(0<=s.1/\s.1<=(b.Breakers.length:Int))/\A4 ⟨s.2.1,s.2.2.1⟩/\(s.2.2.2.length:Int)=s.1) (λs=>((b.Breakers.length:Int)-s.1).toNat) _ _ ?_ ?_ ?_
 .exact⟨by dsimp only;omega,hs0,by simp⟩
 .dsimp only;omega
 .rintro⟨i,L,a,l⟩ ⟨⟨h1,h2⟩,h4,h5⟩;dsimp only at h1 h2 h4 h5;unfold Ve Adf;refine c6 (λh=>?_) (λh=>?_)
  .simp only[dF]at h;have e:w64 (i+1)=i+1:=Ah;dsimp only;rw[e];refine(D2 h4 2 (by omega) (by omega)).bind λu hu=>(d8 (by simp;omega)).bind λm hm=>c7 ?_;subst hm;exact⟨⟨by dsimp only;omega,hu.1,by simp;omega⟩,by dsimp only;omega⟩
  .simp only[dG]at h;exact db ⟨h4,by dsimp only;omega⟩
theorem Al{l:List α}{x:α}(h:l[j]?=some x):getI l (j:Int)=some x:=by unfold getI;simp[h]
theorem Ev{l:List α}{x:α}(h:j<l.length:=by omega):setI l (j:Int) x=some (l.set j x):=by grind[setI]
theorem Aq4(h:Ad b)(hn:n=(i:Int))(hc:c.length=b.Breakers.length)(w:Int×fe)(hw:w.1=n) :
  Ok (foldI (Vb w) b.Breakers 0 (true,c)) (Bh (λs=>s.2.length=b.Breakers.length/\(∀k:Nat,s.2[k]?=some true->c[k]?=some true)/\(Br b.Breakers s.2 i).length<=1) (λ(_:Unit)=>False)):=by
 have hb:=h.brl;refine c8 (I:=λj s=>s.2.length=b.Breakers.length/\(∀k:Nat,s.2[k]?=some true->c[k]?=some true)/\(s.1=true->Br (b.Breakers.take j) (s.2.take j) i=[])/\(Br (b.Breakers.take j) (s.2.take j) i).length<=1) ?_ (λj x s hx hs=>?_) λs hs=>?_
 .exact⟨hc,λ_ h=>h,λ_=>by simp[Br],by simp[Br]⟩
 .obtain⟨f,d⟩:=s;obtain⟨h1,h2,h3,h4⟩:=hs;dsimp only at h1 h2 h3 h4;have hj:=(ab.1 hx).1;obtain⟨v,hv⟩:∃v,d[j]?=some v:=⟨_,af (by omega)⟩;have hcnt:cnt 0 j=(j:Int):=Bf;unfold Vb zE;dsimp only;rw[hcnt,Al hv,Ev,hw,hn];cases hk:(x.Kind==3&&x.B==(i:Int)) with
  |false=>
   simp only[Ag,C9,Bool.false_and];refine c7 ⟨h1,h2,λe=>?_,?_⟩ <;> dsimp only <;> rw[Mq hx hv,hk]
   .simpa using h3 e
   .simpa using h4
  | true=>
   simp only[Ag,C9,aZ];cases v with
   |false=>
    refine c7 ⟨h1,h2,λe=>?_,?_⟩ <;> dsimp only <;> rw[Mq hx hv,hk]
    .simpa using h3 e
    .simpa using h4
   | true=>
    have hset:(d.set j f)[j]?=some f:=by rw[bH (by omega)]
    have htake:(d.set j f).take j=d.take j:=by rw[List.take_set_of_le (ag j)]
    refine c7 ⟨by simpa using h1,λk hk2=>?_,λe=>?_,?_⟩
    .grind
    .cases e
    .dsimp only;rw[Mq hx hset,hk,htake];cases f with
     |false=>simpa using h4
     |true=>simp[h3 rfl]
 grind
theorem Aq5(h:Ad b)(hc:c.length=b.Breakers.length) :
  Ok (whileN (Vd b) 1152921504606846976 (0,c)) (Bh (λs=>s.2.length=b.Breakers.length/\∀i,i<b.Consumers.length->(Br b.Breakers s.2 i).length<=1) (λ(_:Unit)=>False)):=by
 have hco:=h.col;refine d6 (λs=>(0<=s.1/\s.1<=(b.Consumers.length:Int))/\s.2.length=b.Breakers.length/\∀i:Nat,(i:Int)<s.1->(Br b.Breakers s.2 i).length<=1) (λs=>((b.Consumers.length:Int)-s.1).toNat) _ _ ?_ ?_ ?_
 .grind
 .dsimp only;omega
 .rintro⟨n,d⟩ ⟨⟨h1,h2⟩,h3,h4⟩;dsimp only at h1 h2 h3 h4;unfold Vd Ade;refine c6 (λhq=>?_) (λhq=>?_)
  .simp only[dF]at hq;have e:w64 (n+1)=n+1:=Ah;dsimp only;refine(Aq4 h (n:=n) (i:=n.toNat) (by omega) h3 (n,d) rfl).inner (λs hs=>?_) eN;rw[e];obtain⟨g1,g2,g3⟩:=hs;refine c7 ⟨⟨by dsimp only;omega,g1,λi hi=>?_⟩,by dsimp only;omega⟩;dsimp only at hi ⊢;by_cases e:(i:Int)=n
   .have:i=n.toNat:=by omega
    subst this;exact g3
   .exact aG (Acd (by omega) g2 i) (h4 i (by omega))
  .simp only[dG]at hq;exact db ⟨h3,λi hi=>h4 i (by omega)⟩
theorem Aq3(h:Ad b)(hs0:A4 s0) :
  Ok (whileN (Va b) 1152921504606846976 (0,s0.L,s0.At,([]:List ee))) (Bh (λs=>A4 ⟨s.2.1,s.2.2.1⟩/\s.2.2.2.length=b.Sources.length/\∀x,x∈s.2.2.2->B7 x/\x.Since<=4) (λ(_:Unit)=>False)):=by
 have hb:=h.sol;refine d6 (λs=>(0<=s.1/\s.1<=(b.Sources.length:Int))/\A4 ⟨s.2.1,s.2.2.1⟩/\(s.2.2.2.length:Int)=s.1/\∀x,x∈s.2.2.2->B7 x/\x.Since<=4) (λs=>((b.Sources.length:Int)-s.1).toNat) _ _ ?_ ?_ ?_
 .exact⟨by dsimp only;omega,hs0,by simp,λx hx=>by simp at hx⟩
 .dsimp only;omega
 .rintro⟨i,L,a,l⟩ ⟨⟨h1,h2⟩,h4,h5,h6⟩;dsimp only at h1 h2 h4 h5 h6;unfold Va zD;refine c6 (λh=>?_) (λh=>?_)
  .simp only[dF]at h;have e:w64 (i+1)=i+1:=Ah;dsimp only;rw[e];refine(B8 h4 _ (by simp) (by simp)).bind λu hu=>(D2 hu.1 5 (by omega) (by omega)).bind λv hv=>(B8 hv.1 _ (by simp) (by simp)).bind λp hp=>(B8 hp.1 _ (by simp) (by simp)).bind λq hq=>(d8 (by simp;omega)).bind λm hm=>c7 ?_;subst hm;have g1:u.1=0\/u.1=1\/u.1=2\/u.1=2\/u.1=2\/u.1=3:=by simpa using hu.2
   have g2:=hv.2;have g3:p.1=5000\/p.1=5000\/p.1=5005\/p.1=4950:=by simpa using hp.2
   have g4:q.1=0\/q.1=0\/q.1=40\/q.1=1800\/q.1=3590:=by simpa using hq.2
   refine⟨⟨by dsimp only;omega,hq.1,by simp;omega,λx hx=>?_⟩,by dsimp only;omega⟩;rcases ao.1 hx with hx|hx
   .exact h6 x hx
   .simp at hx;subst hx;exact⟨⟨by dsimp only;omega,by dsimp only;omega,by dsimp only;omega,by dsimp only;omega⟩,by dsimp only;omega⟩
  .simp only[dG]at h;exact db ⟨h4,by dsimp only;omega,h6⟩
theorem Aq2(h:Ad b)(hs0:A4 s0) :
  Ok (foldI U_ b.Consumers 0 (s0.L,s0.At,([]:fb))) (Bh (λs=>A4 ⟨s.1,s.2.1⟩/\s.2.2.length=b.Consumers.length/\∀(i:Nat) n c,s.2.2[i]?=some n->b.Consumers[i]?=some c->0<=n/\n<=c.Load) (λ(_:Unit)=>False)):=by
 have hb:=h.col;refine c8 (I:=λj s=>A4 ⟨s.1,s.2.1⟩/\s.2.2.length=j/\∀(i:Nat) n c,s.2.2[i]?=some n->b.Consumers[i]?=some c->0<=n/\n<=c.Load) ?_ (λj x s hx hs=>?_) λs hs=>hs
 .exact⟨hs0,rfl,λi n c hn=>by simp at hn⟩
 .obtain⟨L,a,l⟩:=s;obtain⟨h1,h2,h3⟩:=hs;dsimp only at h1 h2 h3;have hj:=(ab.1 hx).1;unfold U_;dsimp only;refine(B8 h1 _ (by simp) (by simp)).bind λu hu=>(d8 (by simp;omega)).bind λm hm=>c7 ⟨hu.1,?_,λi n c hn hc=>?_⟩
  .subst hm;simp[h2]
  .dsimp only at hn;subst hm;rw[cD]at hn;split at hn
   .exact h3 i n c hn hc
   .rename_i hi;have hlt:=(ab.1 hn).1;simp at hlt;have:i=j:=by omega
    subst this;rw[hx]at hc;cases hc;rw[h2]at hn;simp at hn;subst hn;obtain⟨g1,g2,_⟩:=h.co _ x hx;have g3:=Aqj (x:=x.Load) (by omega) (by omega);grind
theorem Aq1(h:Ad b)(hs0:A4 s0) :
  Ok (whileN (U9 b) 7 (1,s0.L,s0.At,([]:List dX))) (Bh (λs=>A4 ⟨s.2.1,s.2.2.1⟩/\Df b s.2.2.2/\s.2.2.2.length<=4) (λ(_:Unit)=>False)):=by
 refine d6 (λs=>(1<=s.1/\s.1<=5)/\A4 ⟨s.2.1,s.2.2.1⟩/\((s.2.2.2.length:Int)<s.1)/\(∀x,x∈s.2.2.2->Bc b x/\x.Kind<s.1)/\∀(j:Nat) x y,s.2.2.2[j]?=some x->s.2.2.2[j+1]?=some y->Kh x y) (λs=>(5-s.1).toNat) _ _ ?_ ?_ ?_
 .exact⟨by dsimp only;omega,hs0,by simp,λx hx=>by simp at hx,λj x y hx=>by simp at hx⟩
 .dsimp only;omega
 .rintro⟨i,L,a,l⟩ ⟨⟨h1,h2⟩,h4,h5,h6,h7⟩;dsimp only at h1 h2 h4 h5 h6 h7;unfold U9;refine c6 (λhq=>?_) (λhq=>?_)
  .simp only[dF]at hq;have e:w64 (i+1)=i+1:=Ah;dsimp only;rw[e];have skip:∀{u:Ab},A4 u->Ok (some (.next (i+1,u.L,u.At,l)):Option (Ctl (Int×fb×Int×List dX) Unit)) (Hu (λs=>((1<=s.1/\s.1<=5)/\A4 ⟨s.2.1,s.2.2.1⟩/\((s.2.2.2.length:Int)<s.1)/\(∀x,x∈s.2.2.2->Bc b x/\x.Kind<s.1)/\∀(j:Nat) x y,s.2.2.2[j]?=some x->s.2.2.2[j+1]?=some y->Kh x y)/\(5-s.1).toNat<(5-i).toNat) (λs=>A4 ⟨s.2.1,s.2.2.1⟩/\Df b s.2.2.2/\s.2.2.2.length<=4) (λ_=>False)):=λhu=>
    c7 ⟨⟨by dsimp only;omega,hu,by dsimp only;omega,λx hx=>⟨(h6 x hx).1,by have:=(h6 x hx).2;dsimp only;omega⟩,h7⟩,by dsimp only;omega⟩
   refine(D2 h4 5 (by omega) (by omega)).bind λu hu=>c6 (λ_=>?_) (λ_=>skip hu.1);refine(D2 hu.1 4 (by omega) (by omega)).bind λv hv=>c6 (λhe=>?_) (λ_=>skip hv.1);rw[Kc h]at he;refine(d8 (by simp;omega)).bind λm hm=>c7 ?_;subst hm;refine⟨⟨by dsimp only;omega,hv.1,by simp;omega,λx hx=>?_,λj x y hx hy=>?_⟩,by dsimp only;omega⟩
   .rcases ao.1 hx with hx|hx
    .exact⟨(h6 x hx).1,by have:=(h6 x hx).2;dsimp only;omega⟩
    .simp at hx;subst hx;exact⟨he,by dsimp only;omega⟩
   .dsimp only at hx hy;have hyl:=(ab.1 hy).1;simp at hyl;rw[aJ (by omega)]at hx;rw[cD]at hy;split at hy
    .exact h7 j x y hx hy
    .rename_i hn;have e0:j+1-l.length=0:=by omega
     rw[e0]at hy;simp at hy;subst hy;exact .inl (h6 x (ae hx)).2
  .simp only[dG]at hq;exact db ⟨h4,⟨by dsimp only;omega,λx hx=>(h6 x hx).1,h7⟩,by dsimp only;omega⟩
theorem Apd(h:Ad b)(hs:A4 s):Ok (Vf s b) λy=>((Aa b y.1/\y.1.Broken.length<=4)/\A4 y.2)/\∀x,x∈y.1.Sources->x.Since<=4:=by unfold Vf;refine(Aq6 h hs).andThen (λs0 h0=>?_) eN;refine(Aq5 h h0.2).andThen (λs1 h1=>?_) eN;refine(Aq3 h h0.1).andThen (λs3 h3=>?_) eN;refine(Aq2 h h3.1).andThen (λs4 h4=>?_) eN;refine(Aq1 h h4.1).andThen (λs5 h5=>?_) eN;exact eK ⟨⟨⟨⟨h1.1,h3.2.1,h4.2.1,λx hx=>(h3.2.2 x hx).1,h4.2.2,h1.2,h5.2.1⟩,h5.2.2⟩,h5.1⟩,λx hx=>(h3.2.2 x hx).2⟩
theorem As3(h:Ad b)(hs:A4 s):Ok (Vf s b) λy=>(Aa b y.1/\y.1.Broken.length<=4)/\A4 y.2:=(Apd h hs).mono λ_ hy=>hy.1
def Dz(b:c_)(p:dZ)(k i:Int):Option Int:=((b.Breakers.zip p.Closed).find? λz=>(z.1.Kind==k&&z.1.B==i)&&z.2).map (·.1.A)
def Cd(o:Option Int):Int×Bool:=match o with
 |some a=>(a,true)
 |none=>(0,false)
theorem Abz{p:dZ}{k i:Int}:∀(l:List dU)(c:fe)(n:Nat),n+l.length<=9223372036854775807->l.length=c.length->p.Closed.drop n=c ->
  foldI (vD p k i) l n ()=match ((l.zip c).find? λz=>(z.1.Kind==k&&z.1.B==i)&&z.2) with
   |some z=>some (.ret (z.1.A,true))
   |none=>some (.next ())
 | [],c,n,_,_,_=>by simp[foldI]
 |x::l,[],n,_,h,_=>by simp at h
 | x::l,v::c,n,hn,h,hd=>by
  simp only[bf]at hn h;have hv:p.Closed[n]?=some v:=by have:=congrArg (·[0]?) hd;simpa[List.getElem?_drop]using this
  have hd':p.Closed.drop (n+1)=c:=by rw[←bL,hd];rfl
  have ih:=Abz (p:=p) (k:=k) (i:=i) l c (n+1) (by omega) (by omega) hd';have hcnt:cnt 0 n=(n:Int):=Bf;simp only[foldI,vD,Aop,hcnt,Al hv,bN,cR];cases hk:(x.Kind==k&&x.B==i) with
  |false=>simpa[Ag,C9]using ih
  |true=>
   cases v with
   |false=>simpa[Ag,C9]using ih
   |true=>simp[Ag,C9]
theorem Anc(h:Ad b)(hc:p.Closed.length=b.Breakers.length)(k i:Int):Afr b p k i=some (Cd (Dz b p k i)):=by
 have hb:=h.brl;unfold Afr;rw[Abz b.Breakers p.Closed 0 (by omega) (by omega) rfl];unfold Dz;cases (b.Breakers.zip p.Closed).find? λz=>(z.1.Kind==k&&z.1.B==i)&&z.2 with
 |none=>rfl
 |some z=>rfl
theorem Y6(h:Ad b)(hc:p.Closed.length=b.Breakers.length)(i:Int):vO b p i=some (Cd (Dz b p 3 i)):=by unfold vO;rw[Anc h hc];rfl
def Cy(b:c_)(p:dZ)(i:Int):Option Int:=
 if 0<=i/\i<p.Sources.length/\(p.Sources.getD i.toNat default).State=2 then Dz b p 2 i else none
theorem Ib(h:Ad b)(hp:Aa b p)(i:Int):vP b p i=some (Cd (Cy b p i)):=by
 have hs:=h.sol;have hn:=hp.nso;refine de ?_;unfold vP;have e1:w64 ((p.Sources.length:Int)-1)=(p.Sources.length:Int)-1:=Ah;by_cases hi:0<=i/\i<p.Sources.length
 .have hin:F79 i 0 (w64 ((p.Sources.length:Int)-1))=true:=by rw[e1];exact qQ
  obtain⟨x,hx⟩:∃x,p.Sources[i.toNat]?=some x:=⟨_,af (by omega)⟩;have hg:getI p.Sources i=some x:=by have:=Al hx;rwa [ba hi.1]at this
  have hd:p.Sources.getD i.toNat default=x:=by simp[List.getD,hx]
  rw[hin,hg];refine eJ (P:=λy=>y=x) (c9 (λ_=>eK rfl) λhn=>(hn ⟨rfl,trivial⟩).elim) λy hy=>?_;subst hy;unfold Cy;refine c6 (λhc=>?_) (λhc=>?_)
  .simp only[Zq,hin,aE,aC,cO,false_or,dR,ne_eq]at hc;rw[hd,eU (λhh=>hc hh.2.2)];exact eK rfl
  .have hc:=ff hc;simp only[Zq,hin,aE,aC,cO,false_or,dR,ne_eq,Decidable.not_not]at hc;rw[hd,eT ⟨hi.1,hi.2,hc⟩,Anc h hp.ncl];exact eK rfl
 .have hin:F79 i 0 (w64 ((p.Sources.length:Int)-1))=false:=by
   cases hq:F79 i 0 (w64 ((p.Sources.length:Int)-1)) with
   |false=>rfl
   |true=>rw[B_,e1]at hq;omega
  rw[hin];unfold Cy;rw[eU (λhh=>hi ⟨hh.1,hh.2.1⟩)];refine eJ (P:=λ_=>True) (c9 (λhg=>absurd hg.1 (by simp)) λ_=>trivial) λy _=>?_;refine c6 (λ_=>eK rfl) (λhc=>?_);simp[Zq,hin]at hc
variable{i:Int}
theorem Nj(h:Ad b)(e:Dz b p k i=some a):0<=a/\a<b.Buses:=by unfold Dz at e;rw[Option.map_eq_some_iff]at e;obtain⟨z,hz,rfl⟩:=e;exact(h.br z.1 (b9 (List.mem_of_find?_eq_some hz)).1).1
theorem Nv(h:Ad b)(e:Cy b p i=some a):0<=a/\a<b.Buses:=by
 unfold Cy at e;split at e
 .exact Nj h e
 .cases e
def Ek(s:fb)(z:dU×Bool):fb:=
 if z.1.Kind=1/\z.2=true then (s.set z.1.A.toNat (min (s.getD z.1.A.toNat 0) (s.getD z.1.B.toNat 0))).set z.1.B.toNat (min (s.getD z.1.A.toNat 0) (s.getD z.1.B.toNat 0)) else s
def Ch(l:List (dU×Bool))(s:fb):fb:=l.foldl Ek s
def Co(n:Nat):fb:=(List.range n).map λ(i:Nat)=>(i:Int)
def groups(b:c_)(p:dZ):fb:=(List.range b.Buses.toNat).foldl (λs _=>Ch (b.Breakers.zip p.Closed) s) (Co b.Buses.toNat)
theorem Fc(s:fb)(z:dU×Bool):(Ek s z).length=s.length:=by unfold Ek;split <;> simp
theorem Gu(l:List (dU×Bool)):∀s:fb,(Ch l s).length=s.length:=by
 induction l with
 |nil=>intro s;rfl
 |cons z l ih=>grind[Ch,Fc]
theorem O3{b:c_}{p:dZ}{n:Nat}:∀(xs:fc)(s:fb),s.length=n->(xs.foldl (λs _=>Ch (b.Breakers.zip p.Closed) s) s).length=n
 | [],s,h=>h
 |_::xs,s,h=>O3 xs _ (by rw[Gu];exact h)
theorem Hn(b:c_)(p:dZ):(groups b p).length=b.Buses.toNat:=O3 _ _ (by simp[Co])
variable{s:fb}
theorem Ar3(h:Ad b)(hc:p.Closed.length=b.Breakers.length)(hs:s.length=b.Buses.toNat) :
  Ok (foldI (vQ p) b.Breakers 0 s) (Bh (λr=>r=Ch (b.Breakers.zip p.Closed) s) (λ(_:Unit)=>False)):=by
 have hb:=h.brl;have hbu:=h.buses;refine c8 (I:=λj r=>r=Ch ((b.Breakers.take j).zip (p.Closed.take j)) s) (by simp[Ch]) (λj x r hx hr=>?_) λr hr=>?_
 .have hj:=(ab.1 hx).1;obtain⟨v,hv⟩:∃v,p.Closed[j]?=some v:=⟨_,af (by omega)⟩;have hcnt:cnt 0 j=(j:Int):=Bf;have hl:r.length=b.Buses.toNat:=by rw[hr,Gu,hs]
  have hnext:Ch ((b.Breakers.take (j+1)).zip (p.Closed.take (j+1))) s=Ek r (x,v):=by rw[An hx,An hv,List.zip_append (by simp;omega)];unfold Ch at hr ⊢;rw[aN,←hr];rfl
  rw[hnext];unfold vQ;rw[hcnt,Al hv];obtain⟨⟨a0,a1⟩,hk⟩:=h.br x (ae hx);by_cases k1:x.Kind=1
  .rw[dH.2 k1];refine eJ (P:=λy=>y=v) (c9 (λ_=>eK rfl) λhn=>(hn ⟨rfl,trivial⟩).elim) λy hy=>?_;subst hy;have hB:x.A<x.B/\x.B<b.Buses:=by omega
   cases y with
   |false=>refine c6 (λhq=>by simp at hq) (λ_=>c7 ?_);simp[Ek]
   |true=>refine c6 (λ_=>?_) (λhq=>by simp at hq);refine(d7 a0 (by omega)).bind λu hu=>(d7 (by omega) (by omega)).bind λw hw=>(da a0).bind λt ht=>?_;subst ht;refine(d7 (by omega) (by simp;omega)).bind λ_ _=>(da (by omega) (by simp;omega)).bind λt ht=>c7 ?_;subst ht;simp[Ek,k1,List.getD,hu,hw]
  .rw[dJ.2 k1];refine eJ (P:=λ_=>True) (c9 (λhg=>absurd hg.1 (by simp)) λ_=>trivial) λy _=>?_;refine c6 (λhq=>by simp at hq) (λ_=>c7 ?_);simp[Ek,k1]
 grind
theorem Anj(h:Ad b)(hc:p.Closed.length=b.Breakers.length):Afx b p=some (groups b p):=by
 have hbu:=h.buses;refine de ?_;unfold Afx;refine(Ok.mkI (by omega) (by omega)).bind λy hy=>?_;refine eI (A:=λs=>s=Co b.Buses.toNat) (B:=λ(_:Unit)=>False) ?_ ?_ eN
 .refine c8 (I:=λj s=>s=(List.range b.Buses.toNat).map λi=>if i<j then (i:Int) else 0) ?_ (λj x s hx hs=>?_) λs hs=>?_
  .rw[hy,Jk];exact aY λi _=>by simp
  .have hj:=(ab.1 hx).1;have hjl:j<b.Buses.toNat:=by rw[hy]at hj;simpa using hj
   have hcnt:cnt 0 j=(j:Int):=Bf;subst hs;unfold Air;rw[hcnt];refine(dn (by omega)).bind λ_ _=>(dt (by omega)).bind λz hz=>c7 ?_;grind
  .rw[hs];unfold Co;refine aY λi hi=>?_;rw[hy];simp at hi;simp[hi]
 .rintro s rfl;refine eI (A:=λs=>s=groups b p) (B:=λ(_:Unit)=>False) ?_ (λs hs=>eK hs) eN;refine c8 (I:=λj s=>s=(List.range j).foldl (λs _=>Ch (b.Breakers.zip p.Closed) s) (Co b.Buses.toNat)) rfl (λj x s hx hs=>?_) λs hs=>?_
  .unfold Aiq;have hl:s.length=b.Buses.toNat:=by rw[hs];exact O3 _ _ (by simp[Co])
   refine(Ar3 h hc hl).inner (λr hr=>c7 ?_) eN;rw[hr,cq,aN,←hs];rfl
  .rw[hs];unfold groups;congr 2;simp[Co]
theorem Ar1(h:∀(i:Nat) v,s[i]?=some v->0<=v/\v<=i)(hz:z.1.Kind=1->0<=z.1.A/\z.1.A<z.1.B/\z.1.B<s.length):∀(i:Nat) v,(Ek s z)[i]?=some v->0<=v/\v<=i:=by unfold Ek;grind
theorem yM{n:Nat}:∀(l:List (dU×Bool))(s:fb),s.length=n->(∀z,z∈l->z.1.Kind=1->0<=z.1.A/\z.1.A<z.1.B/\z.1.B<n)->(∀(i:Nat) v,s[i]?=some v->0<=v/\v<=i)->∀(i:Nat) v,(Ch l s)[i]?=some v->0<=v/\v<=i
 | [],s,_,_,h=>h
 |z::l,s,hs,hz,h=>yM l (Ek s z) (by rw[Fc];exact hs) (λy hy=>hz y (ak _ hy)) (Ar1 h (by rw[hs];exact hz z ai))
theorem Oo(h:Ad b)(p:dZ):∀(i:Nat) v,(groups b p)[i]?=some v->0<=v/\v<=i:=by
 have hbu:=h.buses;have hz:∀z,z∈b.Breakers.zip p.Closed->z.1.Kind=1->0<=z.1.A/\z.1.A<z.1.B/\z.1.B<(b.Buses.toNat:Int):=by intro z hz hk;have:=h.br z.1 (b9 hz).1;unfold Ij at this;omega
 have key:∀(xs:fc)(s:fb),s.length=b.Buses.toNat->(∀(i:Nat) v,s[i]?=some v->0<=v/\v<=i)->∀(i:Nat) v,(xs.foldl (λs _=>Ch (b.Breakers.zip p.Closed) s) s)[i]?=some v->0<=v/\v<=i:=by
  intro xs;induction xs with
  |nil=>intro s _ h;exact h
  |cons x xs ih=>intro s hl h;exact ih _ (by rw[Gu];exact hl) (yM _ s hl hz h)
 refine key _ _ (by simp[Co]) ?_;intro i v hv;simp only[Co,aD]at hv;grind
def Iw(x:Ae):Bool:=!((x.Buses.length:Int)==0)
theorem Asb(l:List Ae)(h:l.length<=9223372036854775807):jU l=some (G8 (λx=>(x.Buses.length:Int)==0) l):=by unfold jU;exact Jj (λx:Ae=>(x.Buses.length:Int)==0) (λi y=>rfl) l h
theorem Avu(l:List Ae)(hl:l.length<=1000):Qp l=some (l.filter Iw):=by
 refine de ?_;unfold Qp;rw[Asb l (by omega)];simp only[aa];unfold G8;cases hf:l.findIdx? λx=>(x.Buses.length:Int)==0 with
 |none=>rw[cH]at hf;refine c6 (λ_=>eK ?_) (λhc=>by simp at hc);rw[eq_comm,bW];intro x hx;simp only[Iw,hf x hx];rfl
 | some i=>
  rw[cf]at hf;obtain⟨hi,hp,hn⟩:=hf;refine c6 (λhc=>?_) (λ_=>?_)
  .simp only[dH]at hc;omega
  have e1:w64 ((i:Int)+1)=(i:Int)+1:=Ah;simp only[e1];refine eI (A:=λs=>0<=s.1/\s.1<=(l.length:Int)/\s.2.2.length=l.length/\s.2.2.take s.1.toNat=l.filter Iw) (B:=λ(_:Unit)=>False) ?_ ?_ eN
  .refine d6 (λs=>(0<=s.1/\s.1<s.2.1/\s.2.1<=(l.length:Int))/\s.2.2.length=l.length/\s.2.2.take s.1.toNat=(l.take s.2.1.toNat).filter Iw/\s.2.2.drop s.2.1.toNat=l.drop s.2.1.toNat) (λs=>((l.length:Int)-s.2.1).toNat) _ _ ?_ ?_ ?_
   .refine⟨by dsimp only;omega,rfl,?_,rfl⟩;dsimp only;have e2:((i:Int)+1).toNat=i+1:=by omega
    rw[e2,aq,An (af hi),aX];have h1:(l.take i).filter Iw=l.take i:=by rw[bW];intro x hx;obtain⟨j,hj,rfl⟩:=cu hx;simp only[aT]at hj;rw[List.getElem_take];have:=hn j (by omega);simp only[Iw];simpa using this
    have h2:Iw l[i]=false:=by simp only[Iw,hp];rfl
    rw[h1];simp[h2]
   .dsimp only;omega
   .rintro⟨a,j,m⟩ ⟨⟨h1,h2,h3⟩,h4,h5,h6⟩;dsimp only at h1 h2 h3 h4 h5 h6;unfold Vk Adk;dsimp only;refine c6 (λhq=>?_) (λhq=>?_)
    .simp only[dF]at hq;have e1:w64 (j+1)=j+1:=Ah;have e2:w64 (a+1)=a+1:=Ah;have e3:(j+1).toNat=j.toNat+1:=by omega
     have e4:(a+1).toNat=a.toNat+1:=by omega
     refine(d7 (by omega) (by omega)).bind λy hy=>?_;have hyl:l[j.toNat]?=some y:=by have:=congrArg (·[0]?) h6;simp only[ay,bJ]at this;rw[←this];exact hy
     have hdrop:∀(q:List Ae),q.drop j.toNat=l.drop j.toNat->q.drop (j.toNat+1)=l.drop (j.toNat+1):=λq hq=>by rw[←bL,hq,bL]
     refine c6 (λhf=>?_) (λhf=>?_)
     .refine(d7 (by omega) (by omega)).bind λ_ _=>(da (by omega)).bind λz hz=>?_;rw[e1,e2];subst hz;refine c7 ⟨⟨by dsimp only;omega,by simpa using h4,?_,?_⟩,by dsimp only;omega⟩
      .dsimp only;rw[e3,e4,An hyl,aX,←h5];have hfl:Iw y=true:=hf;rw[An (x:=y) (by rw[bH (by omega)])];simp[hfl,List.take_set_of_le]
      .dsimp only;rw[e3,List.drop_set_of_lt (by omega)];exact hdrop m h6
     .rw[e1];refine c7 ⟨⟨by dsimp only;omega,h4,?_,?_⟩,by dsimp only;omega⟩
      .dsimp only;have hfl:Iw y=false:=hf;rw[e3,An hyl,aX,←h5];simp[hfl]
      .dsimp only;rw[e3];exact hdrop m h6
    .simp only[dG]at hq;have e:j.toNat=l.length:=by omega
     refine db ⟨h1,by dsimp only;omega,h4,?_⟩;dsimp only;rw[h5,e,am]
  .rintro⟨a,j,m⟩ ⟨h1,h2,h3,h4⟩;dsimp only at h1 h2 h3 h4 ⊢;have hc:(He m a.toNat ((Int.toNat (m.length:Int))-a.toNat) (⟨([]:fb),([]:fb),([]:fb)⟩:Ae)).length=l.length:=by
    simp[He];omega
   refine(Ok.bndI h1 (by omega) (by omega)).bind λ_ _=>(Ok.bndI (by omega) h1 (by rw[hc];omega)).bind λ_ _=>eK ?_;rw[←h4];unfold He;rw[Nat.sub_zero,cP (by simp;omega),List.take_take,Nat.min_self]
def Ff(b:c_)(p:dZ)(o:Option Int):Option Int:=o.map λa=>(groups b p).getD a.toNat 0
def D9(b:c_)(p:dZ)(n f:Nat):fb:=((List.range n).filter λ(i:Nat)=>(groups b p).getD i 0==(f:Int)).map λ(i:Nat)=>(i:Int)
def E8(b:c_)(p:dZ)(n f:Nat):fb:=((List.range n).filter λ(i:Nat)=>Ff b p (Cy b p (i:Int))==some (f:Int)).map λ(i:Nat)=>(i:Int)
def D8(b:c_)(p:dZ)(n f:Nat):fb:=((List.range n).filter λ(i:Nat)=>Ff b p (Dz b p 3 (i:Int))==some (f:Int)).map λ(i:Nat)=>(i:Int)
def isl(b:c_)(p:dZ)(f:Nat):Ae:=⟨D9 b p b.Buses.toNat f,E8 b p b.Sources.length f,D8 b p b.Consumers.length f⟩
def Am(b:c_)(p:dZ):List Ae:=((List.range b.Buses.toNat).map (isl b p)).filter Iw
theorem Gx(q:Nat->Bool)(n:Nat):((List.range (n+1)).filter q).map (λ(i:Nat)=>(i:Int))=((List.range n).filter q).map (λ(i:Nat)=>(i:Int))++if q n=true then [(n:Int)] else []:=by rw[cq,aX,bh];congr 1;cases h:q n <;> simp[h]
theorem Dd(q:Nat->Bool)(n:Nat):(((List.range n).filter q).map (λ(i:Nat)=>(i:Int))).length<=n:=by grind
theorem Hd(h : Ad b)(hp : Aa b p) : F58 b p = some (Am b p) := by
 have hbu:=h.buses;have hso:=h.sol;have hco:=h.col;have hgl:=Hn b p;have hglo:=Oo h p;refine de ?_;unfold F58;rw[A8 h hp];simp only[aa];refine c6 (λhc=>by simp at hc) (λ_=>?_);rw[Anj h hp.ncl];simp only[aa];refine(Ok.mkI (by omega) (by omega)).bind λy hy=>?_;have hget:∀(i:Nat),i<b.Buses.toNat->(groups b p)[i]?=some ((groups b p).getD i 0):=λi hi=>by
  have:i<(groups b p).length:=by omega
  simp[List.getD,List.getElem?_eq_getElem this]
 refine eI (A:=λs=>s=(List.range b.Buses.toNat).map λf=>(⟨D9 b p b.Buses.toNat f,[],[]⟩:Ae)) (B:=λ(_:Unit)=>False) ?_ ?_ eN
 .refine c8 (I:=λj s=>s=(List.range b.Buses.toNat).map λf=>(⟨D9 b p j f,[],[]⟩:Ae)) ?_ (λj x s hx hs=>?_) λs hs=>?_
  .rw[hy,Jk];rfl
  .subst hs;have hj:j<b.Buses.toNat:=by have:=(ab.1 hx).1;omega
   have hlo:=hglo j x hx;have hxe:(groups b p).getD j 0=x:=by simp[List.getD,hx]
   have hcnt:cnt 0 j=(j:Int):=Bf;unfold Apq;rw[hcnt];refine(dn (by omega)).bind λu hu=>?_;subst hu;have hl:(D9 b p j x.toNat).length<=j:=Dd _ _;refine(d8 (by simp;omega)).bind λv hv=>(dt (by omega)).bind λw hw=>c7 ?_;rw[hw];refine aY λf _=>?_;unfold D9;rw[Gx,hxe];by_cases e:f=x.toNat
   .subst e;rw[eT rfl,eT (by simp;omega),hv];rfl
   .rw[eU e,eU (by simp;omega),aB]
  .rw[hgl]at hs;exact hs
 .rintro s rfl;refine eI (A:=λs=>s.2=(List.range b.Buses.toNat).map λf=>(⟨D9 b p b.Buses.toNat f,E8 b p b.Sources.length f,[]⟩:Ae)) (B:=λ(_:Unit)=>False) ?_ ?_ eN
  .refine d6 (λs=>(0<=s.1/\s.1<=(b.Sources.length:Int))/\s.2=(List.range b.Buses.toNat).map λf=>(⟨D9 b p b.Buses.toNat f,E8 b p s.1.toNat f,[]⟩:Ae)) (λs=>((b.Sources.length:Int)-s.1).toNat) _ _ ?_ ?_ ?_
   .exact⟨by dsimp only;omega,rfl⟩
   .dsimp only;omega
   .rintro⟨i,s⟩ ⟨⟨h1,h2⟩,h3⟩;dsimp only at h1 h2 h3;subst h3;unfold App At8;dsimp only;refine c6 (λhq=>?_) (λhq=>?_)
    .simp only[dF]at hq;have e1:w64 (i+1)=i+1:=Ah;have e2:(i+1).toNat=i.toNat+1:=by omega
     have e3:((i.toNat:Nat):Int)=i:=by omega
     rw[Ib h hp];simp only[aa];cases hcn:Cy b p i with
     |none=>refine c6 (λhc=>by simp[Cd]at hc) (λ_=>?_);rw[e1];refine c7 ⟨⟨by dsimp only;omega,?_⟩,by dsimp only;omega⟩;dsimp only;rw[e2];refine aY λf _=>?_;unfold E8;rw[Gx,e3,hcn,eU (by simp[Ff]),aB]
     | some a=>
      have hab:=Nv h hcn;have hga:=hget a.toNat (by omega);have hgla:=hglo _ _ hga;refine c6 (λ_=>?_) (λhc=>by simp[Cd]at hc);have hg2:getI (groups b p) a=some ((groups b p).getD a.toNat 0):=by have:=Al hga;rwa [ba hab.1]at this
      simp only[Cd,hg2,aa];generalize hge:(groups b p).getD a.toNat 0=ga at hgla;refine(dn (by omega)).bind λu hu=>?_;subst hu;have hl:(E8 b p i.toNat ga.toNat).length<=i.toNat:=Dd _ _;refine(d8 (by simp;omega)).bind λv hv=>(dt (by omega)).bind λw hw=>?_;rw[e1];refine c7 ⟨⟨by dsimp only;omega,?_⟩,by dsimp only;omega⟩;dsimp only;rw[hw,e2];refine aY λf _=>?_;unfold E8;rw[Gx,e3,hcn];simp only[Ff,bF,hge];by_cases e:f=ga.toNat
      .subst e;rw[eT rfl,eT (by simp;omega),hv];rfl
      .rw[eU e,eU (by simp;omega),aB]
    .simp only[dG]at hq;have e:i.toNat=b.Sources.length:=by omega
     rw[e];exact db rfl
  .rintro⟨i0,s⟩ hs;dsimp only at hs;subst hs;dsimp only;refine eI (A:=λs=>s.2=(List.range b.Buses.toNat).map (isl b p)) (B:=λ(_:Unit)=>False) ?_ ?_ eN
   .refine d6 (λs=>(0<=s.1/\s.1<=(b.Consumers.length:Int))/\s.2=(List.range b.Buses.toNat).map λf=>(⟨D9 b p b.Buses.toNat f,E8 b p b.Sources.length f,D8 b p s.1.toNat f⟩:Ae)) (λs=>((b.Consumers.length:Int)-s.1).toNat) _ _ ?_ ?_ ?_
    .exact⟨by dsimp only;omega,rfl⟩
    .dsimp only;omega
    .rintro⟨i,s⟩ ⟨⟨h1,h2⟩,h3⟩;dsimp only at h1 h2 h3;subst h3;unfold Apo At7;dsimp only;refine c6 (λhq=>?_) (λhq=>?_)
     .simp only[dF]at hq;have e1:w64 (i+1)=i+1:=Ah;have e2:(i+1).toNat=i.toNat+1:=by omega
      have e3:((i.toNat:Nat):Int)=i:=by omega
      rw[Y6 h hp.ncl];simp only[aa];cases hcn:Dz b p 3 i with
      |none=>refine c6 (λhc=>by simp[Cd]at hc) (λ_=>?_);rw[e1];refine c7 ⟨⟨by dsimp only;omega,?_⟩,by dsimp only;omega⟩;dsimp only;rw[e2];refine aY λf _=>?_;unfold D8;rw[Gx,e3,hcn,eU (by simp[Ff]),aB]
      | some a=>
       have hab:=Nj h hcn;have hga:=hget a.toNat (by omega);have hgla:=hglo _ _ hga;refine c6 (λ_=>?_) (λhc=>by simp[Cd]at hc);have hg2:getI (groups b p) a=some ((groups b p).getD a.toNat 0):=by have:=Al hga;rwa [ba hab.1]at this
       simp only[Cd,hg2,aa];generalize hge:(groups b p).getD a.toNat 0=ga at hgla;refine(dn (by omega)).bind λu hu=>?_;subst hu;have hl:(D8 b p i.toNat ga.toNat).length<=i.toNat:=Dd _ _;refine(d8 (by simp;omega)).bind λv hv=>(dt (by omega)).bind λw hw=>?_;rw[e1];refine c7 ⟨⟨by dsimp only;omega,?_⟩,by dsimp only;omega⟩;dsimp only;rw[hw,e2];refine aY λf _=>?_;unfold D8;rw[Gx,e3,hcn];simp only[Ff,bF,hge];by_cases e:f=ga.toNat
       .subst e;rw[eT rfl,eT (by simp;omega),hv];rfl
       .rw[eU e,eU (by simp;omega),aB]
     .simp only[dG]at hq;have e:i.toNat=b.Consumers.length:=by omega
      rw[e];exact db rfl
   .rintro⟨i1,s⟩ hs;dsimp only at hs;subst hs;dsimp only;rw[Avu _ (by simp;omega)];exact eK rfl
theorem Kf{l:List α}(h:l.length*B<=140737488355328:=by omega):appI B [] l=some l:=by
 unfold appI;have:decide ((([]:List α).length+l.length)*B<=140737488355328)=true:=by simpa using h
 rw[this];rfl
theorem Bj(h:Ad b)(hp:Aa b p):F88 p=some p:=by have h1:=hp.ncl;have h2:=hp.nso;have h3:=hp.nli;have h4:=hp.brk.len;have h5:=h.brl;have h6:=h.sol;have h7:=h.col;unfold F88 Alk Alj Yi Ali;rw[Kf,Kf,Kf,Kf];rfl
theorem eqB(l:fe)(h:l.length<=9223372036854775807):F90 l l=some true:=by
 unfold F90;rw[Ci l 0 λj x hj=>?_]
 .simp[andThen]
 .have hjl:=(ab.1 hj).1;unfold Ad6;rw[aH,Bf,Al hj];simp
theorem eqI(l:fb)(h:l.length<=9223372036854775807):F92 l l=some true:=by
 unfold F92;rw[Ci l 0 λj x hj=>?_]
 .simp[andThen]
 .have hjl:=(ab.1 hj).1;unfold Ad4;rw[aH,Bf,Al hj];simp
theorem eqR(l:List ee)(h:l.length<=9223372036854775807):F91 l l=some true:=by
 unfold F91;rw[Ci l 0 λj x hj=>?_]
 .simp[andThen]
 .have hjl:=(ab.1 hj).1;unfold Ad5 At2;rw[aH,Bf,Al hj];simp
theorem eqP(l:List dX)(h:l.length<=9223372036854775807):F93 l l=some true:=by
 unfold F93;rw[Ci l 0 λj x hj=>?_]
 .simp[andThen]
 .have hjl:=(ab.1 hj).1;unfold Ad3 At1;rw[aH,Bf,Al hj];simp
structure Mi(p:dZ):Prop where
 c:p.Closed.length<=1000
 s:p.Sources.length<=1000
 l:p.Limits.length<=1000
 k:p.Broken.length<=1000
theorem Aa.lens(h:Ad b)(hp:Aa b p):Mi p:=by have h1:=hp.ncl;have h2:=hp.nso;have h3:=hp.nli;have h4:=hp.brk.len;have h5:=h.brl;have h6:=h.sol;have h7:=h.col;exact⟨by omega,by omega,by omega,by omega⟩
theorem yE(h:Mi p):F51 p p=some true:=by have h1:=h.c;have h2:=h.s;have h3:=h.l;have h4:=h.k;unfold F51;rw[eqB _ (by omega),eqI _ (by omega),eqR _ (by omega),eqP _ (by omega)];rfl
theorem Aks(l:fe)(h:l.length<=9223372036854775807):F33 l l=some true:=by
 unfold F33;rw[Ci l 0 λj x hj=>?_]
 .simp[andThen]
 .have hjl:=(ab.1 hj).1;unfold Ae0;rw[aH,Bf,Al hj];simp
theorem yL(l:fb)(h:l.length<=9223372036854775807):F31 l l=some true:=by
 unfold F31;rw[Ci l 0 λj x hj=>?_]
 .simp[andThen]
 .have hjl:=(ab.1 hj).1;unfold Ae1;rw[aH,Bf,Al hj];simp
theorem J4(h:Mi p):F26 p p=some true:=by
 have h1:=h.c;have h2:=h.s;have h3:=h.l;have h4:=h.k;refine de ?_;unfold F26;rw[Aks _ (by omega),yL _ (by omega)];have e:(Ag [((!true),false)] (some true) default:Option Bool)=some true:=rfl;simp only[aa];rw[e];simp only[aa];refine c6 (λhc=>by simp[Ako]at hc) (λ_=>?_);refine eI (A:=λ_=>True) (B:=λ_=>False) ?_ ?_ eN
 .refine d6 (λs=>0<=s/\s<=(p.Sources.length:Int)) (λs=>((p.Sources.length:Int)-s).toNat) _ _ (by omega) (by omega) ?_;rintro i ⟨h5,h6⟩;unfold Ae4 Akn;refine c6 (λhq=>?_) (λ_=>db trivial);simp only[dF]at hq;refine(d7 h5 hq).bind λu hu=>?_;refine eJ (P:=λv=>v=u) ((d7 h5 hq).mono λv hv=>by rw[hu]at hv;cases hv;rfl) λv hv=>?_;subst hv;refine c6 (λhc=>by simp[Akm]at hc) (λ_=>c7 ?_);rw[Ah];omega
 .intro _ _;refine eI (A:=λ_=>True) (B:=λ_=>False) ?_ (λ_ _=>eK rfl) eN;refine d6 (λs=>0<=s/\s<=(p.Broken.length:Int)) (λs=>((p.Broken.length:Int)-s).toNat) _ _ (by omega) (by omega) ?_;rintro i ⟨h5,h6⟩;unfold Ae3 Akl;refine c6 (λhq=>?_) (λ_=>db trivial);simp only[dF]at hq;refine(d7 h5 hq).bind λu hu=>?_;refine eJ (P:=λv=>v=u) ((d7 h5 hq).mono λv hv=>by rw[hu]at hv;cases hv;rfl) λv hv=>?_;subst hv;refine c6 (λhc=>by simp[Ac6]at hc) (λ_=>c7 ?_);rw[Ah];omega
def Xa(By x:ee):ee:=⟨x.State,x.Since,By.Frequency,By.Phase⟩
def Es(By:ee)(idx:fb)(ss:List ee):List ee:=idx.foldl (λs i=>s.set i.toNat (Xa By (s.getD i.toNat default))) ss
theorem G0(By:ee):∀(idx:fb)(ss:List ee),(Es By idx ss).length=ss.length
 | [],_=>rfl
 |i::idx,ss=>by show (Es By idx _).length=_;rw[G0 By idx,bA]
theorem Su(h:idx[j]?=some i)(ss:List ee):Es By (idx.take (j+1)) ss=(Es By (idx.take j) ss).set i.toNat (Xa By ((Es By (idx.take j) ss).getD i.toNat default)):=by unfold Es;rw[An h,aN];rfl
theorem Sr(h:∀i,i∈idx->0<=i/\i<p.Sources.length):Wf p idx By=some (Es By idx p.Sources):=by
 refine de ?_;unfold Wf;refine eI (A:=λs=>s=Es By idx p.Sources) (B:=λ(_:Unit)=>False) ?_ (λs hs=>eK hs) eN;refine c8 (I:=λj s=>s=Es By (idx.take j) p.Sources) rfl (λj x s hx hs=>?_) λs hs=>?_
 .have hi:=h x (ae hx);have hl:s.length=p.Sources.length:=by rw[hs,G0]
  unfold Ad7;refine(d7 hi.1 (by omega)).bind λu hu=>(da hi.1).bind λv hv=>?_;have hvg:v[x.toNat]?=some (⟨u.State,u.Since,By.Frequency,u.Phase⟩:ee):=by rw[hv,bH (by omega)]
  refine eJ (P:=λw=>w=(⟨u.State,u.Since,By.Frequency,u.Phase⟩:ee)) ((d7 hi.1 (by rw[hv];simpa using by omega)).mono λw hw=>by rw[hvg]at hw;cases hw;rfl) λw hw=>?_;refine(da hi.1 (by rw[hv];simpa using by omega)).bind λz hz=>c7 ?_;rw[Su hx,←hs,hz,hv,hw,List.set_set];have:s.getD x.toNat default=u:=by simp[List.getD,hu]
  rw[this];rfl
 .rw[am]at hs;exact hs
def C1(b:c_)(p:dZ):List ee:=(Am b p).foldl (λs x=>match x.Sources with| []=>s|i::_=>Es (p.Sources.getD i.toNat default) x.Sources s) p.Sources
theorem Pt{x:Ae}(h:x∈Am b p):∀i,i∈x.Sources->0<=i/\i<b.Sources.length:=by unfold Am at h;obtain⟨f,_,rfl⟩:=an.1 (ar.1 h).1;intro i hi;obtain⟨k,hk,rfl⟩:=an.1 hi;have:=aV.1 (ar.1 hk).1;omega
theorem Ez(b:c_)(p:dZ):(Am b p).length<=b.Buses.toNat:=by have:=bk Iw ((List.range b.Buses.toNat).map (isl b p));simpa[Am]using this
def C7(p:dZ)(s:List ee)(x:Ae):List ee:=match x.Sources with
 | []=>s
 |i::_=>Es (p.Sources.getD i.toNat default) x.Sources s
theorem Nr(p:dZ)(s:List ee)(x:Ae):(C7 p s x).length=s.length:=by
 unfold C7;split
 .rfl
 .rw[G0]
theorem Li(p:dZ):∀(l:List Ae)(s:List ee),(l.foldl (C7 p) s).length=s.length
 | [],_=>rfl
 |x::l,s=>by show (l.foldl (C7 p) _).length=_;rw[Li p l,Nr]
theorem G9(b:c_)(p:dZ):(C1 b p).length=p.Sources.length:=Li p _ _
theorem Jp(h:Ad b)(hp:Aa b p):F49 b p=some (⟨p.Closed,C1 b p,p.Limits,p.Broken⟩,0):=by
 refine de ?_;unfold F49;rw[A8 h hp,Bj h hp,Hd h hp];simp only[aa];refine c6 (λhc=>by simp at hc) (λ_=>?_);refine eI (A:=λs=>s=C1 b p) (B:=λ(_:Unit)=>False) ?_ (λs hs=>eK (by rw[hs])) eN;refine c8 (I:=λj s=>s=((Am b p).take j).foldl (C7 p) p.Sources) rfl (λj x s hx hs=>?_) λs hs=>?_
 .have hi:=Pt (ae hx);have hl:s.length=p.Sources.length:=by rw[hs,Li]
  have hn:=hp.nso;have hnext:((Am b p).take (j+1)).foldl (C7 p) p.Sources=C7 p s x:=by rw[An hx,aN,←hs];rfl
  unfold Apr At9;cases hsrc:x.Sources with
  |nil=>refine c6 (λhc=>by simp at hc) (λ_=>c7 ?_);rw[hnext];simp[C7,hsrc]
  | cons i l=>
   have hi0:=hi i (by rw[hsrc];exact ai);refine c6 (λ_=>?_) (λhc=>by simp at hc);have hg:getI (i::l) 0=some i:=rfl;obtain⟨u,hu⟩:∃u,p.Sources[i.toNat]?=some u:=⟨_,af (by omega)⟩;have hg2:getI p.Sources i=some u:=by have:=Al hu;rwa [ba hi0.1]at this
   rw[hg];simp only[aa];rw[hg2];simp only[aa];rw[Sr (by intro k hk;have:=hi k (by rw[hsrc];exact hk);dsimp only;omega)]
   refine c7 ?_;rw[hnext];have:p.Sources.getD i.toNat default=u:=by simp[List.getD,hu]
   simp only[C7,hsrc,this]
 .rw[am]at hs;exact hs
def Awl(p:dZ):Prop:=∀c,c∈p.Closed->c=false
theorem Ajx(h:∀x,x∈c->x=false)(i:Nat):Br l c i=[]:=by unfold Br;rw[cV];intro z hz;rw[h z.2 (b9 hz).2];simp
structure Dw(y:eo):Prop where
 stop:1<=y.Stop/\y.Stop<=99
 start:y.Stop<y.Start/\y.Start<=100
 delay:0<=y.Delay/\y.Delay<=600
variable{y:eo}
theorem Hq(h:Dw y):F44 y=true:=by have h1:=h.stop;have h2:=h.start;have h3:=h.delay;simp only[F44,ac,dF];omega
theorem As1{s:Ab}(hs:A4 s):Ok (F35 s) λy=>Dw y.1/\A4 y.2:=by
 unfold F35;refine(B8 hs _ (by simp) (by simp)).bind λu hu=>(B8 hu.1 _ (by simp) (by simp)).bind λv hv=>(B8 hv.1 _ (by simp) (by simp)).bind λw hw=>eK ⟨?_,hw.1⟩;have g1:u.1=60\/u.1=80\/u.1=100:=by simpa using hu.2
 have g2:v.1=1\/v.1=30\/v.1=50:=by simpa using hv.2
 have g3:w.1=0\/w.1=1\/w.1=3:=by simpa using hw.2
 exact⟨by dsimp only;omega,by dsimp only;omega,by dsimp only;omega⟩
def H3:d_:=⟨-1,-1⟩
theorem Aze:F45 1=some (List.replicate 1 H3):=by kernel_rfl
theorem Azd:F45 2=some (List.replicate 2 H3):=by kernel_rfl
theorem Azc:F45 3=some (List.replicate 3 H3):=by kernel_rfl
theorem Azb:F45 4=some (List.replicate 4 H3):=by kernel_rfl
theorem Aza:F45 5=some (List.replicate 5 H3):=by kernel_rfl
theorem Ay9:F45 6=some (List.replicate 6 H3):=by kernel_rfl
theorem Ahm(h:1<=n/\n<=6):F45 n=some (List.replicate n.toNat H3):=by
 have:n=1\/n=2\/n=3\/n=4\/n=5\/n=6:=by omega
 rcases this with rfl|rfl|rfl|rfl|rfl|rfl
 .exact Aze
 .exact Azd
 .exact Azc
 .exact Azb
 .exact Aza
 .exact Ay9
def Fx:ee:=⟨0,0,5000,0⟩
theorem Az5:F46 [Fx] 0=some (List.replicate 0 Fx):=by kernel_rfl
theorem Az4:F46 [Fx] 1=some (List.replicate 1 Fx):=by kernel_rfl
theorem Az3:F46 [Fx] 2=some (List.replicate 2 Fx):=by kernel_rfl
theorem Az2:F46 [Fx] 3=some (List.replicate 3 Fx):=by kernel_rfl
theorem Az1:F46 [Fx] 4=some (List.replicate 4 Fx):=by kernel_rfl
theorem Az0:F46 [Fx] 5=some (List.replicate 5 Fx):=by kernel_rfl
theorem Azz:F46 [Fx] 6=some (List.replicate 6 Fx):=by kernel_rfl
theorem Azy:F46 [Fx] 7=some (List.replicate 7 Fx):=by kernel_rfl
theorem Azx:F46 [Fx] 8=some (List.replicate 8 Fx):=by kernel_rfl
variable{n:Nat}
theorem Au3(h:n<=8):F46 [Fx] (n:Int)=some (List.replicate n Fx):=by
 have:n=0\/n=1\/n=2\/n=3\/n=4\/n=5\/n=6\/n=7\/n=8:=by omega
 rcases this with rfl|rfl|rfl|rfl|rfl|rfl|rfl|rfl|rfl
 .exact Az5
 .exact Az4
 .exact Az3
 .exact Az2
 .exact Az1
 .exact Az0
 .exact Azz
 .exact Azy
 .exact Azx
def G1(b:c_):dZ:=⟨List.replicate b.Breakers.length false,List.replicate b.Sources.length Fx,b.Consumers.map (·.Load),[]⟩
def Aji(b:c_):dY:=⟨0,G1 b,List.replicate b.Buses.toNat H3,[]⟩
theorem zX(b:c_):Awl (G1 b):=λ_ hc=>(List.mem_replicate.1 hc).2
theorem Af9(h:Ad b):Aa b (G1 b) where
 ncl:=by simp[G1]
 nso:=by simp[G1]
 nli:=by simp[G1]
 run x hx:=by have:=(List.mem_replicate.1 hx).2;subst this;exact⟨by decide,by decide,by decide,by decide⟩
 lim i n c hn hc:=by simp only[G1,aD,hc]at hn;cases hn;have:=(h.co i c hc).1;exact⟨this.1,bY _⟩
 one i _:=by rw[Ajx (zX b)];simp
 brk:=⟨by simp[G1],λx hx=>by simp[G1]at hx,λj x y hx=>by simp[G1]at hx⟩
theorem Awt(h:Ad b)(hy:Dw y):F14 b y=some (Aji b,0):=by
 have h1:=h.buses;have h2:=h.brl;have h3:=h.sol;have h4:=h.col;refine de ?_;unfold F14;rw[K1 h,Hq hy,Ahm h1];have hr:=Au3 h3;unfold Fx at hr;rw[hr];simp only[aa];refine c6 (λhc=>by simp at hc) (λ_=>c6 (λhc=>by simp at hc) (λ_=>?_));refine(Ok.mkI (by omega) (by omega)).bind λz hz=>?_;refine eI (A:=λs=>s=b.Consumers.map (·.Load)) (B:=λ(_:Unit)=>False) ?_ (λs hs=>eK ?_) eN
 .refine c8 (I:=λj s=>s=(b.Consumers.take j).map (·.Load)) rfl (λj x s hx hs=>?_) λs hs=>?_
  .have hj:=(ab.1 hx).1;unfold Ap9;refine(d8 (by rw[hs];simp;omega)).bind λt ht=>c7 ?_;rw[ht,hs,An hx,bh];rfl
  .rw[am]at hs;exact hs
 .rw[hz,hs,aq];rfl
def Ds(t:Int)(x:d_):Prop:=(-1<=x.High/\x.High<=t) /\ -1<=x.Low/\x.Low<=t
variable{p:dY}
theorem Ai5{l:List d_}(h:∀x,x∈l->Ds p.Time x):Wg l p=some (false,p):=by refine de ?_;unfold Wg Aav;refine eJ (P:=λy=>y=(-1,p)) ?_ (λy hy=>eK (by rw[hy];rfl));refine eI (A:=λs=>s=(p.Time,p.Power.Closed,p.Power.Sources,p.Power.Limits,p.Power.Broken,p.Rosters,p.Events)) (B:=λ_=>False) ?_ (λs hs=>eK (by rw[hs])) eN;refine c8 (I:=λ_ s=>s=(p.Time,p.Power.Closed,p.Power.Sources,p.Power.Limits,p.Power.Broken,p.Rosters,p.Events)) rfl (λj x s hx hs=>?_) λs hs=>hs;have hr:=h x (ae hx);unfold Ds at hr;subst hs;unfold X7;refine c6 (λhc=>?_) (λ_=>c7 rfl);simp only[uK,G5,Wh,aE,aS,bQ,dG]at hc;omega
structure Iu(b:c_)(y:eo)(p:dY):Prop where
 st:Aa b p.Power
 fol:C1 b p.Power=p.Power.Sources
 time:0<=p.Time/\p.Time<=2147483648
 nro:p.Rosters.length=b.Buses.toNat
 ros:∀x,x∈p.Rosters->Ds p.Time x
theorem Sd(h:Ad b)(hy:Dw y)(hp:Iu b y p):F17 b y p=some 0:=by
 have h1:=h.buses;have h2:=hp.time;have h3:=hp.nro;refine de ?_;unfold F17;rw[Jp h hp.st];simp only[aa,hp.fol];refine c6 (λhc=>by simp at hc) (λ_=>c6 (λhc=>?_) (λ_=>c6 (λhc=>?_) (λ_=>?_)))
 .simp only[Auc,Hq hy,aC,aO,aE,dF]at hc;omega
 .simp only[dR,ne_eq]at hc;omega
 .have e:(⟨p.Power.Closed,p.Power.Sources,p.Power.Limits,p.Power.Broken⟩:dZ)=p.Power:=rfl;rw[e,yE (hp.st.lens h)];simp only[aa];rw[Ai5 hp.ros];have e2:Ag [((!true),false)] (some (false,p)) (default,p)=some (false,p):=rfl;rw[e2];exact eK rfl
theorem Aw1(b:c_):Ki b ⟨7,0,0⟩=some true:=rfl
theorem Adp(h:Ad b)(hp:Aa b p.Power)(h1:p.Rosters.length<=1000)(h2:p.Events.length<=10000000):F63 b p=some ⟨p,b,[],[]⟩:=by unfold F63 Alx vN;rw[Bj h hp,Kf,Kf];rfl
variable{p:dZ}
theorem Avh(h:Ad b)(hp:Aa b p)(h1:r.states.length<=10000000):jP r p=some ⟨r.Aj,r.Af,r.events,r.states++[p]⟩:=by refine de ?_;unfold jP;rw[Bj h hp];simp only[aa];exact(d8 (by simp;omega)).bind λs hs=>eK (by rw[hs])
theorem Arr(h:Ad b)(hp:Aa b r.Aj.Power)(h1:r.states.length<=10000000):jO r p=some ⟨r.Aj,r.Af,r.events,r.states++[r.Aj.Power]⟩:=by refine de ?_;unfold jO;rw[Bj h hp];simp only[aa];exact(d8 (by simp;omega)).bind λs hs=>eK (by rw[hs])
theorem Asp(l:List Ae)(h:l.length<=1000):Aay l=some (l.any λx=>decide ((x.Sources.length:Int)>0)):=by unfold Aay Afy;rw[Jj (λx:Ae=>decide ((x.Sources.length:Int)>0)) (λi y=>rfl) l (by omega)];simp only[aa,Np]
def brk(l:List dX)(k n:Int):Bool:=l.any λx=>k==x.Kind&&n==x.Number
theorem C3(h:p.Broken.length<=1000)(k n:Int):I0 p k n=some (brk p.Broken k n):=by unfold I0 Ati Atg;rw[Jj (λx:dX=>(k==x.Kind)&&((n==x.Number)&&true)) (λi y=>rfl) p.Broken (by omega)];simp only[aa,Np,brk,bl]
def Et(b:c_)(i:Int):Int:=G8 (λx:dU=>x.Kind==2&&x.B==i) b.Breakers
theorem Mv(h:Ad b)(i:Int):Ak7 b i=some (Et b i):=by
 have hb:=h.brl;unfold Ak7 Afc;refine de ?_;refine eJ (P:=λy=>y=(Et b i,i)) ?_ (λy hy=>eK (by rw[hy]));have key:=K_ (f:=λn(a:dU)(z:Unit)=>(bif (a.Kind==2&&a.B==i)then some (.ret (cnt 0 n)) else some (.next ()):Option (Ctl Unit Int))) (p:=λx:dU=>x.Kind==2&&x.B==i) (λ_ _=>rfl) b.Breakers 0 (by omega);have:∀(xs:List dU)(k:Nat),foldI (Us i) xs k ()=match foldI (λn(a:dU)(z:Unit)=>(bif (a.Kind==2&&a.B==i)then some (.ret (cnt 0 n)) else some (.next ()):Option (Ctl Unit Int))) xs k () with
   |some (.ret r)=>some (.ret (r,i))
   |some (.next _)=>some (.next ())
   |some (.brk _)=>some (.brk ())
   |none=>none:=by
  intro xs;induction xs with
  |nil=>intro k;rfl
  |cons x xs ih=>
   intro k;simp only[foldI,Us,Ae5];cases hq:(x.Kind==2&&x.B==i) with
   |true=>rfl
   |false=>simp only[eQ];exact ih (k+1)
 rw[this,key];unfold Et G8;cases b.Breakers.findIdx? (λx:dU=>x.Kind==2&&x.B==i) with
 |none=>exact eK rfl
 |some j=>exact eK rfl
theorem Hf(h:Ad b)(h0:0<=i)(h1:i<b.Sources.length:=by omega):∃(j:Nat)(x:dU),Et b i=(j:Int)/\b.Breakers[j]?=some x/\x.Kind=2/\x.B=i/\j<24:=by
 have hone:=h.one i.toNat (by omega);have hb:=h.brl;unfold Et G8;cases hf:b.Breakers.findIdx? (λx:dU=>x.Kind==2&&x.B==i) with
 | none=>
  exfalso;rw[cH]at hf;have:brs b.Breakers 2 i.toNat=[]:=K4 λx hx hk e=>by have:=hf x hx;simp[hk]at this;omega
  rw[this]at hone;simp at hone
 |some j=>rw[cf]at hf;obtain⟨hj,hp,_⟩:=hf;simp only[ac,dH]at hp;exact⟨j,b.Breakers[j],rfl,af hj,hp.1,hp.2,by omega⟩
def LeB(s t:fe):Prop:=s.length=t.length/\∀i:Nat,s[i]?=some true->t[i]?=some true
theorem LeB.refl(s:fe):LeB s s:=⟨rfl,λ_ h=>h⟩
theorem LeB.trans{s r:fe}(h:LeB s t)(k:LeB t r):LeB s r:=⟨h.1.trans k.1,λi e=>k.2 i (h.2 i e)⟩
variable{y:Bool}
theorem LeB.set{s:fe}(h:LeB s t)(n:Nat){x:Bool}(hx:x=true->y=true):LeB (s.set n x) (t.set n y):=by
 refine⟨by simp[h.1],λi e=>?_⟩;rw[aK]at e ⊢;split at e
 .rename_i hn;rw[eT hn];split at e
  .rename_i hl;rw[eT (by rw[←h.1];exact hl)];cases e;rw[hx rfl]
  .cases e
 .rename_i hn;rw[eU hn];exact h.2 i e
theorem LeB.getD{s:fe}(h:LeB s t)(n:Nat):s.getD n false=true->t.getD n false=true:=by
 intro e;have:s[n]?=some true:=by
  unfold List.getD at e;cases hs:s[n]? with
  |none=>rw[hs]at e;cases e
  |some v=>rw[hs]at e;simp at e;rw[e]
 simp[List.getD,h.2 n this]
theorem LeB.up(s:fe)(n:Nat)(hy:s.getD n false=true->y=true):LeB s (s.set n y):=by
 refine⟨by simp,λi e=>?_⟩;rw[aK];split
 .rename_i hn;subst hn;have hl:=(ab.1 e).1;rw[eT hl,hy (by simp[List.getD,e])]
 .exact e
def ks(x:dX):Int:=x.Kind*1000+x.Number
def Bv(x:dX):Prop:=(1<=x.Kind/\x.Kind<=4)/\0<=x.Number/\x.Number<=100
theorem Bc.small(h:Ad b)(hx:Bc b x):Bv x:=by have h1:=h.buses;have h2:=h.brl;have h3:=h.sol;have h4:=h.col;unfold Bc at hx;unfold Bv;omega
variable{y:dX}
theorem Aaj(hx:Bv x)(hy:Bv y):Kh x y↔ks x<ks y:=by unfold Kh ks;unfold Bv at hx hy;omega
theorem Atw(hx:Bv x)(hy:Bv y)(h:ks x=ks y):x=y:=by unfold ks at h;unfold Bv at hx hy;cases x;cases y;grind
theorem zG(hx:Bv x)(hy:Bv y):(decide (R7 x y<0)=decide (ks x<ks y))/\((R7 x y==0)=(ks x==ks y)):=by
 unfold Bv at hx hy;unfold R7 ks;by_cases hk:x.Kind=y.Kind
 .have:(x.Kind != y.Kind)=false:=by simp[hk]
  rw[this,eQ,Ah];grind
 .have:(x.Kind != y.Kind)=true:=by simp[hk]
  rw[this,eO,Ah];grind
def Fs(l:List dX):Prop:=∀(j k:Nat) x y,j<k->l[j]?=some x->l[k]?=some y->ks x<ks y
variable{l:List dX}
theorem D5(h:Ad b)(hl:Df b l):Fs l:=by
 have hs:∀x,x∈l->Bv x:=λx hx=>(hl.mem x hx).small h;intro j k;induction k with
 |zero=>intro x y hj;omega
 |succ k ih=>intro x y hj hx hy;have hk:=(ab.1 hy).1;obtain⟨z,hz⟩:∃z,l[k]?=some z:=⟨_,af (by omega)⟩;have h1:=(Aaj (hs z (ae hz)) (hs y (ae hy))).1 (hl.asc k z y hz hy);grind
theorem Avp{n:Int}(h0:0<=n)(h1:n<=1000000):w64 (H5 .u64 (IntKind.wrap .u64 (w64 n)) 1)=n / 2:=by
 have e1:w64 n=n:=Ah;have e2:IntKind.wrap .u64 n=n:=by simp[IntKind.wrap,IntKind.signed,IntKind.bits];omega
 have e3:H5 .u64 n 1=n / 2:=by
  unfold H5;have:(2:Int) ^ min 1 (IntKind.u64).bits=2:=by decide
  grind
 rw[e1,e2,e3,Ah]
structure At(l:List dX)(x:dX)(n:Nat):Prop where
 le:n<=l.length
 lo:∀(j:Nat) y,j<n->l[j]?=some y->ks y<ks x
 hi:∀(j:Nat) y,n<=j->l[j]?=some y->ks x<=ks y
theorem H6(hs:Fs l)(hsm:∀x,x∈l->Bv x)(hx:Bv x)(hl:l.length<=1000:=by omega) :
  Ok (Z3 l x) λy=>∃n:Nat,y.1=(n:Int)/\At l x n/\(y.2=true↔l[n]?=some x):=by
 unfold Z3;refine eI (A:=λs=>∃n:Nat,s.1=(n:Int)/\At l x n) (B:=λ(_:Unit)=>False) ?_ ?_ eN
 .refine d6 (λs=>(0<=s.1/\s.1<=s.2/\s.2<=(l.length:Int))/\(∀(j:Nat) y,(j:Int)<s.1->l[j]?=some y->ks y<ks x)/\∀(j:Nat) y,s.2<=(j:Int)->l[j]?=some y->ks x<=ks y) (λs=>(s.2-s.1).toNat) _ _ ?_ ?_ ?_
  .refine⟨by dsimp only;omega,λj y hj=>by dsimp only at hj;omega,λj y hj hy=>?_⟩;have:=(ab.1 hy).1;dsimp only at hj;omega
  .dsimp only;omega
  .rintro⟨i,j⟩ ⟨⟨h1,h2,h3⟩,h4,h5⟩;dsimp only at h1 h2 h3 h4 h5;unfold zN;dsimp only;refine c6 (λhq=>?_) (λhq=>?_)
   .simp only[dF]at hq;rw[Avp (by omega) (by omega)];refine(d7 (by omega) (by omega)).bind λy hy=>?_;have hym:=hsm y (ae hy);rw[(zG hym hx).1];refine c6 (λhc=>?_) (λhc=>?_)
    .simp only[dF]at hc;rw[Ah];refine c7 ⟨⟨by dsimp only;omega,λk z hk hz=>?_,h5⟩,by dsimp only;omega⟩;dsimp only at hk;by_cases e:k=((i+j) / 2).toNat
     .subst e;rw[hy]at hz;cases hz;exact hc
     .have:=hs k _ z y (by omega) hz hy;omega
    .simp only[dG]at hc;refine c7 ⟨⟨by dsimp only;omega,h4,λk z hk hz=>?_⟩,by dsimp only;omega⟩;dsimp only at hk;by_cases e:k=((i+j) / 2).toNat
     .subst e;rw[hy]at hz;cases hz;omega
     .have:=hs _ k y z (by omega) hy hz;omega
   .simp only[dG]at hq;refine db ⟨i.toNat,by dsimp only;omega,by omega,λk y hk hy=>h4 k y (by omega) hy,λk y hk hy=>h5 k y (by omega) hy⟩
 .rintro⟨i,j⟩ ⟨n,hn,hat⟩;dsimp only at hn;subst hn;dsimp only;by_cases hlt:n<l.length
  .obtain⟨y,hy⟩:∃y,l[n]?=some y:=⟨_,af hlt⟩;have hd:decide ((n:Int)<(l.length:Int))=true:=by simp;omega
   rw[hd,Al hy];refine eJ (P:=λz=>z=y) (c9 (λ_=>eK rfl) λhn=>(hn ⟨rfl,trivial⟩).elim) λz hz=>eK ⟨n,rfl,hat,?_⟩;subst hz;have hym:=hsm z (ae hy);show (true&&(R7 z x==0))=true↔_;rw[aZ,(zG hym hx).2,dH,hy];constructor
   .intro e;rw[Atw hym hx e]
   .intro e;cases e;rfl
  .have hd:decide ((n:Int)<(l.length:Int))=false:=by simp;omega
   rw[hd];refine eJ (P:=λ_=>True) (c9 (λhg=>absurd hg.1 (by simp)) λ_=>trivial) λz _=>eK ⟨n,rfl,hat,?_⟩;rw[bg (by omega)];simp
theorem At.uniq(h:At l x n)(k:At l x m):n=m:=by
 rcases bM n m with e|e|e
 .obtain⟨y,hy⟩:∃y,l[n]?=some y:=⟨_,af (by have:=k.le;omega)⟩;have:=h.hi n y (ag _) hy;have:=k.lo n y e hy;omega
 .exact e
 .obtain⟨y,hy⟩:∃y,l[m]?=some y:=⟨_,af (by have:=h.le;omega)⟩;have:=k.hi m y (ag _) hy;have:=h.lo m y e hy;omega
def Ed(l:List dX)(n:Nat)(x:dX):List dX:=l.take n++(x::l.drop n)
theorem Anf(hn:n<=l.length)(hl:l.length<=1000)(x:dX):Qe l (n:Int) [x]=some (Ed l n x):=by
 refine de ?_;unfold Qe;refine(Ok.bndI (by omega) (by omega) (by omega)).bind λ_ _=>?_;refine c6 (λhc=>by simp at hc) (λ_=>c6 (λhc=>?_) (λ_=>?_))
 .simp only[dH]at hc;have e:n=l.length:=by omega
  refine(d8 (by simp;omega)).bind λy hy=>eK ?_;rw[hy,Ed,e];simp
 .refine(Ok.insI (by simp;omega)).mono λy hy=>?_;rw[hy,aq];rfl
theorem Aoa(hn:n<=l.length)(x:dX):Uq (Ed l n x) (n:Int) ((n:Int)+1)=some l:=by
 have hlen:(Ed l n x).length=l.length+1:=by simp[Ed];omega
 refine de ?_;unfold Uq;have e1:((n:Int)+1).toNat=n+1:=by omega
 have hdrop:(Ed l n x).drop (n+1)=l.drop n:=by
  unfold Ed;rw[List.drop_append,List.drop_of_length_le (by simp;omega)];have:n+1-(l.take n).length=1:=by simp;omega
  rw[this];simp
 have htake:(Ed l n x).take n=l.take n:=by unfold Ed;grind
 refine(Ok.bnd3I (by omega) (by omega) (by omega) (by omega)).bind λ_ _=>c6 (λhc=>?_) (λ_=>?_)
 .simp only[dH]at hc;omega
 refine(Ok.bndI (by omega) (by omega) (by omega)).bind λ_ _=>(Ok.bndI (by omega) (by omega) (by omega)).bind λ_ _=>?_;simp only[aq,e1,hdrop,Nat.sub_zero];have hpl:((l.drop n).take ((Ed l n x).length-(n+1))).length=l.length-n:=by simp[hlen]
 have hpe:(l.drop n).take ((Ed l n x).length-(n+1))=l.drop n:=cr (by simp[hlen]);rw[hpe];have hdl:(l.drop n).length=l.length-n:=by simp
 refine(Ok.appPI (by rw[hlen,hdl];omega)).bind λy hy=>?_;have hyl:y.length=l.length+1:=by rw[hy];simp[hlen];omega
 refine(Ok.bndI (by omega) (by rw[hlen,hdl];omega) (by rw[hlen,hyl];omega)).bind λ_ _=>eK ?_;have e2:n+(l.drop n).length=l.length:=by rw[hdl];omega
 rw[e2];unfold He;simp only[aH];rw[cP (by simp;omega),List.take_take,Nat.min_self,hy,htake,←aP,cP (by simp),bP,am]
theorem Q_(hn:n<=l.length)(h:(Ed l n x)[j]?=some y):(j<n/\l[j]?=some y)\/(j=n/\y=x)\/(n<j/\l[j-1]?=some y):=by grind[Ed]
theorem Arw(h:y∈Ed l n x):y=x\/y∈l:=by grind[Ed]
theorem Ahl(h:Ad b)(hl:Df b l)(hx:Bc b x)(hat:At l x n)(hnot:l[n]? ≠ some x)(hlen:l.length<32):Df b (Ed l n x):=by
 have hs:=D5 h hl;have hsm:∀y,y∈l->Bv y:=λy hy=>(hl.mem y hy).small h;have hxs:=hx.small h;refine⟨by simp[Ed];omega,λy hy=>?_,λj y z hy hz=>?_⟩
 .rcases Arw hy with rfl|hy
  .exact hx
  .exact hl.mem y hy
 .rcases Q_ hat.le hy with⟨a1,a2⟩|⟨a1,a2⟩|⟨a1,a2⟩ <;> rcases Q_ hat.le hz with⟨b1,b2⟩|⟨b1,b2⟩|⟨b1,b2⟩
  .exact hl.asc j y z a2 b2
  .subst b2;exact(Aaj (hsm y (ae a2)) hxs).2 (hat.lo j y a1 a2)
  .omega
  .omega
  .omega
  .subst a2;have e:j+1-1=n:=by omega
   rw[e]at b2;have hzm:=hsm z (ae b2);refine(Aaj hxs hzm).2 ?_;have h1:=hat.hi n z (ag _) b2;grind[Atw]
  .omega
  .omega
  grind[Df.asc]
theorem At.ins(hat:At l x n):At (Ed l n x) x n:=by
 refine⟨by have:=hat.le;simp[Ed];omega,λj y hj hy=>?_,λj y hj hy=>?_⟩
 .rcases Q_ hat.le hy with⟨_,a2⟩|⟨a1,_⟩|⟨a1,_⟩
  .exact hat.lo j y hj a2
  .omega
  .omega
 .rcases Q_ hat.le hy with⟨a1,_⟩|⟨_,a2⟩|⟨a1,a2⟩
  .omega
  .subst a2;exact bY _
  .exact hat.hi (j-1) y (by omega) a2
theorem Avl(hn:n<=l.length)(x:dX):(Ed l n x)[n]?=some x:=by grind[Ed]
def I8(ss:List ee)(x:dX)(st:Int):List ee:=if x.Kind=1 then ss.set x.Number.toNat ⟨st,(ss.getD x.Number.toNat default).Since,(ss.getD x.Number.toNat default).Frequency,(ss.getD x.Number.toNat default).Phase⟩ else ss
theorem Tt(ss:List ee)(x:dX)(st:Int):(I8 ss x st).length=ss.length:=by unfold I8;split <;> simp
theorem Ace(h:∀x,x∈ss->B7 x)(hx:x.Kind=1->0<=x.Number/\x.Number<ss.length)(hst:0<=st/\st<=3):∀y,y∈I8 ss x st->B7 y:=by
 unfold I8;split
 .rename_i hk;have hn:=hx hk;obtain⟨u,hu⟩:∃u,ss[x.Number.toNat]?=some u:=⟨_,af (by omega)⟩;have hd:ss.getD x.Number.toNat default=u:=by simp[List.getD,hu]
  intro y hy;rcases cM hy with hy|hy
  .exact h y hy
  .subst hy;rw[hd];have:=h u (ae hu);exact⟨hst,this.2⟩
 .exact h
theorem Ahp(h:Ad b)(hp:Aa b p)(hx:Bc b x)(t:Int)(hat:At p.Broken x n)(hnot:p.Broken[n]? ≠ some x)(hlen:p.Broken.length<32) :
  Eu ⟨b,p,t⟩ x true=some (0,⟨b,⟨p.Closed,I8 p.Sources x 3,p.Limits,Ed p.Broken n x⟩,t⟩):=by
 have hs:=D5 h hp.brk;have hsm:∀y,y∈p.Broken->Bv y:=λy hy=>(hp.brk.mem y hy).small h;refine de ?_;unfold Eu;refine(H6 hs hsm (hx.small h)).bind λy hy=>?_;obtain⟨m,e1,hat2,hf⟩:=hy;have e2:=hat.uniq hat2;subst e2;have hf2:y.2=false:=by grind
 refine c6 (λhc=>by rw[hf2]at hc;simp at hc) (λ_=>c6 (λhc=>?_) (λ_=>?_))
 .simp[Nw]at hc;omega
 refine eI (A:=λz=>z=Ed p.Broken n x) (B:=λ(_:Unit)=>False) ?_ ?_ eN
 .unfold U2;rw[e1,Anf hat.le (by omega)];exact dj rfl
 .rintro z rfl;unfold I8;refine c6 (λhk=>?_) (λhk=>?_)
  .simp only[dH]at hk;have hn:0<=x.Number/\x.Number<p.Sources.length:=by
    have:=hp.nso;unfold Bc at hx;omega
   rw[eT hk];refine(d7 hn.1 hn.2).bind λu hu=>(da hn.1 hn.2).bind λv hv=>?_;have hd:p.Sources.getD x.Number.toNat default=u:=by simp[List.getD,hu]
   have hvg:v[x.Number.toNat]?=some (⟨0,u.Since,u.Frequency,u.Phase⟩:ee):=by rw[hv,bH (by omega)]
   simp only[eO];refine eJ (P:=λw=>w=(⟨0,u.Since,u.Frequency,u.Phase⟩:ee)) ((d7 hn.1 (by rw[hv];simpa using hn.2)).mono λw hw=>by rw[hvg]at hw;cases hw;rfl) λw hw=>?_;subst hw;refine(da hn.1 (by rw[hv];simpa using hn.2)).bind λz hz=>eK ?_;rw[hz,hv,List.set_set,hd]
  .simp only[dJ,ne_eq]at hk;rw[eU hk];exact eK rfl
theorem Ahi(h:Ad b)(hbl:Df b p.Broken){q:dZ}(hx:Bc b x)(t:Int)(hat:At p.Broken x n)(hnot:p.Broken[n]? ≠ some x)(hlen:p.Broken.length<32)
  (hq:q.Broken=Ed p.Broken n x)(hqs:q.Sources.length=b.Sources.length):Eu ⟨b,q,t⟩ x false=some (0,⟨b,⟨q.Closed,I8 q.Sources x 0,q.Limits,p.Broken⟩,t⟩):=by
 have hbl2:Df b q.Broken:=by rw[hq];exact Ahl h hbl hx hat hnot hlen
 have hs:=D5 h hbl2;have hsm:∀y,y∈q.Broken->Bv y:=λy hy=>(hbl2.mem y hy).small h;refine de ?_;unfold Eu;refine(H6 hs hsm (hx.small h) (by have:=hbl2.len;omega)).bind λy hy=>?_;obtain⟨m,e1,hat2,hf⟩:=hy;rw[hq]at hat2 hf;have e2:=hat.ins.uniq hat2;subst e2;have hf2:y.2=true:=hf.2 (Avl hat.le x);refine c6 (λhc=>by rw[hf2]at hc;simp at hc) (λ_=>c6 (λhc=>?_) (λ_=>?_))
 .simp[Nw]at hc
 refine eI (A:=λz=>z=p.Broken) (B:=λ(_:Unit)=>False) ?_ ?_ eN
 .unfold U2;have hle:=hat.le;rw[e1,Ah];simp only[eQ,hq];rw[Aoa hat.le];exact dj rfl
 .rintro z rfl;unfold I8;refine c6 (λhk=>?_) (λhk=>?_)
  .simp only[dH]at hk;have hn:0<=x.Number/\x.Number<q.Sources.length:=by
    unfold Bc at hx;omega
   rw[eT hk];refine(d7 hn.1 hn.2).bind λu hu=>(da hn.1 hn.2).bind λv hv=>?_;have hd:q.Sources.getD x.Number.toNat default=u:=by simp[List.getD,hu]
   simp only[eQ];exact eK (by rw[hv,hd])
  .simp only[dJ,ne_eq]at hk;rw[eU hk];exact eK rfl
def Avq(p:dZ)(x:dX)(n:Nat):dZ:=⟨p.Closed,I8 p.Sources x 3,p.Limits,Ed p.Broken n x⟩
theorem Ajy(h:Ad b)(hp:Aa b p)(hx:Bc b x)(hat:At p.Broken x n)(hnot:p.Broken[n]? ≠ some x)(hlen:p.Broken.length<32):Aa b (Avq p x n) where
 ncl:=hp.ncl
 nso:=by show (I8 p.Sources x 3).length=_;rw[Tt];exact hp.nso
 nli:=hp.nli
 run:=Ace hp.run (λhk=>by have:=hp.nso;unfold Bc at hx;omega) (by omega)
 lim:=hp.lim
 one:=hp.one
 brk:=Ahl h hp.brk hx hat hnot hlen
theorem Aw0(b:c_)(u v:Int):Ki b ⟨8,u,v⟩=some (Cu b v u):=rfl
theorem Awz(b:c_)(u v:Int):Ki b ⟨9,u,v⟩=some (Cu b v u):=rfl
theorem Ew(b:c_)(k n:Int):Cu b k n=true↔Bc b ⟨k,n⟩:=by
 unfold Cu Bc;dsimp only;by_cases h1:k=1
 .subst h1;simp
 rw[dJ.2 h1,eQ];by_cases h2:k=2
 .subst h2;simp
 rw[dJ.2 h2,eQ];by_cases h3:k=3
 .subst h3;simp
 rw[dJ.2 h3,eQ];by_cases h4:k=4
 .subst h4;simp
 rw[dJ.2 h4,eQ];simp only[ac,dF];omega
theorem Aku(h:Ad b)(hl:Df b l)(hx:Bc b x):∃n,At l x n:=by have hs:=D5 h hl;obtain⟨y,_,n,_,hat,_⟩:=H6 hs (λy hy=>(hl.mem y hy).small h) (hx.small h) (by have:=hl.len;omega);exact⟨n,hat⟩
theorem LeB.get{s:fe}(h:LeB s t){i:Nat}{x y:Bool}(hx:s[i]?=some x)(hy:t[i]?=some y):(x && !y)=false:=by
 cases x with
 |false=>rfl
 |true=>have:=h.2 i hx;rw[hy]at this;cases this;rfl
theorem Dv(h:Ad b)(hp:Aa b p):F37 p=some p:=by have hl:=hp.lens h;have h1:=hl.c;have h2:=hl.s;have h3:=hl.l;have h4:=hl.k;unfold F37;rw[Kf,Kf,Kf,Kf];rfl
variable{x:Option α}
theorem di{l:List (Bool×Bool)}{d:α}{P:α->Prop}(hx:Ck l->Ok x λ_=>True)(hr:∀y,P y):Ok (Ag l x d) P:=
 c9 (λh=>(hx h).mono λy _=>hr y) λ_=>hr d
theorem dk{v:α}(h:x=some v):Ok x λ_=>True:=⟨v,h,trivial⟩
theorem Aut{x:ee}(hx:B7 x)(hl:B7 By):B7 (Xa By x):=⟨hx.1,hx.2.1,hl.2.2.1,hl.2.2.2⟩
theorem M1(h:∀x,x∈ss->B7 x){y:ee}(hy:B7 y):∀x,x∈ss.set n y->B7 x:=λx hx=>by grind
theorem Ab4(h:∀x,x∈ss->B7 x)(hn:n<ss.length):B7 (ss.getD n default):=by grind
theorem Qx{By:ee}(hl:B7 By):∀(idx:fb)(ss:List ee),(∀i,i∈idx->0<=i/\i<ss.length)->(∀x,x∈ss->B7 x)->∀x,x∈Es By idx ss->B7 x
 | [],_,_,h=>h
 |i::idx,ss,hi,h=>by have h0:=hi i ai;refine Qx hl idx _ (λj hj=>?_) (M1 h (Aut (Ab4 h (by omega)) hl));grind
theorem Ab7{b:c_}{p:dZ}(hp:Aa b p):∀(l:List Ae)(s:List ee),(∀x,x∈l->∀i,i∈x.Sources->0<=i/\i<b.Sources.length)->s.length=p.Sources.length->(∀x,x∈s->B7 x)->∀x,x∈l.foldl (C7 p) s->B7 x
 | [],_,_,_,h=>h
 | y::l,s,hi,hs,h=>by
  refine Ab7 hp l _ (λx hx=>hi x (ak _ hx)) (by rw[Nr,hs]) ?_;have h0:=hi y ai;have hn:=hp.nso;unfold C7;split
  .exact h
  .rename_i i r e;rw[e]at h0;have h1:=h0 i ai;rw[e];exact Qx (Ab4 hp.run (by omega)) _ _ (λj hj=>by have:=h0 j hj;omega) h
theorem Rh(hp:Aa b p):∀x,x∈C1 b p->B7 x:=
 Ab7 hp _ _ (λ_ hx=>Pt hx) rfl hp.run
theorem Jv(hp:Aa b p)(hl:ss.length=p.Sources.length)(hr:∀x,x∈ss->B7 x):Aa b ⟨p.Closed,ss,p.Limits,p.Broken⟩ where
 ncl:=hp.ncl
 nso:=hl.trans hp.nso
 nli:=hp.nli
 run:=hr
 lim:=hp.lim
 one:=hp.one
 brk:=hp.brk
theorem Ajc(hp:Aa b p)(j:Nat):Aa b ⟨p.Closed.set j false,p.Sources,p.Limits,p.Broken⟩ where
 ncl:=by simpa using hp.ncl
 nso:=hp.nso
 nli:=hp.nli
 run:=hp.run
 lim:=hp.lim
 one i hi:=by refine aG (Acd (by simp) (λk hk=>?_) i) (hp.one i hi);grind
 brk:=hp.brk
theorem Ann{l:List dU}:∀{c:fe}{j:Nat}{x:dU},l[j]?=some x->∀i:Nat,(Br l (c.set j true) i).length<=(Br l c i).length+(if x.Kind=3/\x.B=(i:Int)then 1 else 0):=by
 induction l with
 |nil=>intro c j x h;simp at h
 | cons y l ih=>
  intro c j x h i;cases c with
  |nil=>simp[Br]
  | cons v c=>
   cases j with
   |zero=>simp only[List.getElem?_cons_zero,al]at h;subst h;simp only[List.set_cons_zero,Br,bN,bt];grind
   |succ j=>simp only[cG]at h;have:=ih (c:=c) h i;simp only[List.set_cons_succ,Br,bN,bt]at this ⊢;split <;> simp at this ⊢ <;> omega
theorem Ano{i:Nat}(h:Dz b p 3 (i:Int)=none):Br b.Breakers p.Closed i=[]:=by unfold Dz at h;rw[Option.map_eq_none_iff,List.find?_eq_none]at h;unfold Br;rw[cV];exact h
variable{x:dU}
theorem Acz(hp:Aa b p)(hx:b.Breakers[j]?=some x)(hf:x.Kind=3->Dz b p 3 x.B=none):Aa b ⟨p.Closed.set j true,p.Sources,p.Limits,p.Broken⟩ where
 ncl:=by simpa using hp.ncl
 nso:=hp.nso
 nli:=hp.nli
 run:=hp.run
 lim:=hp.lim
 one i hi:=by
  have h1:=Ann (c:=p.Closed) hx i;have h2:=hp.one i hi;dsimp only;split at h1
  .rename_i hk;have h3:=hf hk.1;rw[hk.2]at h3;rw[Ano h3]at h1;simpa using h1
  .omega
 brk:=hp.brk
theorem Ahc(h:Ad b)(hp:Aa b p)(i:Int):Ok (N6 b p i) λy=>y.2≠0\/Aa b y.1:=by
 have hbl:p.Broken.length<=1000:=by have:=hp.brk.len;omega
 have hn:=hp.ncl;unfold N6;rw[A8 h hp,Bj h hp];simp only[aa];refine c6 (λhc=>by simp at hc) (λ_=>c6 (λ_=>eK (.inl (by simp))) (λhr=>?_));simp only[P3,aA,dG]at hr;refine(d7 (by omega) (by omega)).bind λv _=>eJ (P:=λ_=>True) (di (λ_=>dk (C3 hbl _ _)) λ_=>trivial) λ_ _=>?_;refine c6 (λ_=>eK (.inl (by simp))) (λ_=>?_);exact(d7 (by omega) (by omega)).bind λ_ _=>(da (by omega)).bind λz hz=>eK (.inr (by rw[hz];exact Ajc hp _))
theorem Atr(h:Ad b)(hp:Aa b p)(n:Int):Ok (Hz b p n) λy=>∀i,i∈y.1.Sources->0<=i/\i<p.Sources.length:=by
 have hn:=hp.nso;unfold Hz;rw[Hd h hp];simp only[aa];refine eI (A:=λ_=>True) (B:=λy=>∀i,i∈y.1.Sources->0<=i/\i<p.Sources.length) ?_ (λ_ _=>eK (λi hi=>by cases hi)) (λv hv=>eK hv);refine c8 (I:=λ_ _=>True) trivial (λj x s hx _=>?_) λs _=>trivial;have hmem:=ae hx;have hbl:x.Buses.length<=9223372036854775807:=by unfold Am at hmem;obtain⟨f,_,rfl⟩:=an.1 (ar.1 hmem).1;have:=Dd (λi=>(groups b p).getD i 0==(f:Int)) b.Buses.toNat;have:=h.buses;simp only[isl,D9];omega
 unfold Qk;rw[Cx _ _ hbl];simp only[aa];refine c6 (λ_=>Ok.ret λi hi=>?_) (λ_=>c7 trivial);have:=Pt hmem i hi;omega
theorem A0i(h:Ad b)(hp:Aa b p)(n:Int):Ok (Hz b p n) λy=>y.1.Buses.length<=9223372036854775807:=by
 unfold Hz;rw[Hd h hp];simp only[aa];refine eI (A:=λ_=>True) (B:=λy=>y.1.Buses.length<=9223372036854775807) ?_ (λ_ _=>eK (by simp)) (λv hv=>eK hv);refine c8 (I:=λ_ _=>True) trivial (λj x s hx _=>?_) λs _=>trivial;have hmem:=ae hx;have hbl:x.Buses.length<=9223372036854775807:=by unfold Am at hmem;obtain⟨f,_,rfl⟩:=an.1 (ar.1 hmem).1;have:=Dd (λi=>(groups b p).getD i 0==(f:Int)) b.Buses.toNat;have:=h.buses;simp only[isl,D9];omega
 unfold Qk;rw[Cx _ _ hbl];simp only[aa];exact c6 (λ_=>Ok.ret hbl) (λ_=>c7 trivial)
theorem Om(h:Ad b)(hp:Aa b p)(n:Int):Ok (R8 b p n) λy=>y.2=true->0<=y.1/\y.1<p.Sources.length:=by unfold R8;refine(Atr h hp n).bind λy hy=>?_;refine c6 (λ_=>eK (λe=>by cases e)) (λhc=>?_);simp only[dJ,ne_eq]at hc;exact(d7 (by omega) (by omega)).bind λz hz=>eK λ_=>hy z (ae hz)
theorem dm{l:List α}(h0:0<=i)(h1:i<l.length:=by omega):Ok (getI l i) λ_=>True:=(d7 h0 h1).mono λ_ _=>trivial
theorem Auw(h:Ad b)(hp:Aa b p)(hx:b.Breakers[j]?=some x):Ok (Ae7 b p x) λ_=>True:=by
 have hn:=hp.nso;have hb:=h.br x (ae hx);unfold Ij at hb;unfold Ae7;refine(Om h hp _).bind λy hy=>?_;refine c6 (λ_=>eK trivial) (λh2=>?_);simp only[aL]at h2;have hy:=hy h2;refine c6 (λ_=>?_) (λ_=>c6 (λhk=>?_) (λ_=>eK trivial))
 .refine(Om h hp _).bind λz hz=>?_;refine eJ (P:=λ_=>True) (di (λ_=>dm hy.1 hy.2) λ_=>trivial) λ_ _=>?_;refine eJ (P:=λ_=>True) (di (λhg=>?_) λ_=>trivial) λ_ _=>eK trivial;have:=hz (by have:=hg.1;simpa using this);exact dm this.1 this.2
 .simp only[dH]at hk;exact(dm hy.1 hy.2).bind λ_ _=>(dm (by omega)).bind λ_ _=>eK trivial
theorem And{o:Option Int}:(Cd o).2=false->o=none:=by
 cases o with
 |none=>intro _;rfl
 |some a=>intro e;cases e
theorem Aqo(h:Ad b)(hp:Aa b p){j:Int}(h0:0<=j)(h1:j<b.Breakers.length):Ok (Ae8 b p j) λy=>y=true->∀x,b.Breakers[j.toNat]?=some x->x.Kind=3->Dz b p 3 x.B=none:=by
 have hbl:p.Broken.length<=1000:=by have:=hp.brk.len;omega
 have hn:=hp.nso;have hc:=hp.ncl;unfold Ae8;refine(d7 h0 h1).bind λx hx=>(dm h0).bind λ_ _=>?_;have hb:=h.br x (ae hx);unfold Ij at hb;refine eJ (P:=λ_=>True) (di (λ_=>dk (C3 hbl _ _)) λ_=>trivial) λ_ _=>?_;refine eJ (P:=λ_=>True) (di (λ_=>dk (C3 hbl _ _)) λ_=>trivial) λ_ _=>?_;refine c6 (λ_=>eK (λe=>by cases e)) (λ_=>?_);refine c6 (λhk=>?_) (λhk1=>c6 (λhk=>?_) (λhk2=>?_))
 .simp only[dH]at hk;rw[C3 hbl];refine eK λ_ y hy hy3=>?_;rw[hx]at hy;cases hy;omega
 .simp only[dH]at hk;rw[C3 hbl];simp only[aa];refine eJ (P:=λ_=>True) (di (λ_=>dm (by omega)) λ_=>trivial) λ_ _=>eK λ_ y hy hy3=>?_;rw[hx]at hy;cases hy;omega
 .unfold vI;rw[A8 h hp,Y6 h hc,C3 hbl];simp only[aa,dN,eQ];refine eK λe y hy hy3=>?_;rw[hx]at hy;cases hy;simp only[ac,aS]at e;exact And e.2
theorem Abu(h:Ad b)(hp:Aa b p)(j:Int):Ok (X9 b p j) λy=>y≠0\/((0<=j/\j<b.Breakers.length)/\∀x,b.Breakers[j.toNat]?=some x->x.Kind=3->Dz b p 3 x.B=none):=by unfold X9;rw[A8 h hp];simp only[aa];refine c6 (λhc=>by simp at hc) (λ_=>c6 (λ_=>eK (.inl (by simp))) (λhr=>?_));simp only[Zn,aA,dG]at hr;refine(Aqo h hp (by omega) (by omega)).bind λy hy=>?_;refine c6 (λ_=>eK (.inl (by simp))) (λh2=>?_);simp only[aL]at h2;have hy:=hy h2;refine(d7 (by omega) (by omega)).bind λx hx=>(A0i h hp x.A).bind λz hz=>?_;refine eJ (P:=λ_=>True) (di (λ_=>dk (Cx _ _ hz)) λ_=>trivial) λ_ _=>?_;refine eJ (P:=λ_=>True) (di (λ_=>Auw h hp hx) λ_=>trivial) λ_ _=>?_;exact c6 (λ_=>eK (.inl (by simp))) (λ_=>eK (.inr ⟨⟨by omega,by omega⟩,hy⟩))
theorem Asf(h:Ad b)(hp:Aa b p)(i:Int):Ok (N7 b p i) λy=>y.2≠0\/Aa b y.1:=by
 have hn:=hp.ncl;unfold N7;rw[Bj h hp];simp only[aa];refine(Abu h hp i).bind λy hy=>c6 (λhc=>eK (.inl (by simpa using hc))) (λhc=>?_);simp only[dM]at hc;rcases hy with hy|⟨hr,hf⟩
 .exact absurd hc hy
 .refine(d7 hr.1 (by omega)).bind λ_ _=>(da hr.1).bind λz hz=>?_;obtain⟨x,hx⟩:∃x,b.Breakers[i.toNat]?=some x:=⟨_,af (by omega)⟩;have hq:=Acz hp hx (hf x hx);rw[←hz]at hq;rw[Jp h hq];exact eK (.inr (Jv hq (G9 _ _) (Rh hq)))
theorem Abw(h:Ad b)(hp:Aa b p)(i n:Int):Ok (N5 b p i n) λy=>y.2≠0\/Aa b y.1:=by
 have hn:=hp.nso;unfold N5;rw[A8 h hp,Bj h hp];simp only[aa];refine c6 (λhc=>by simp at hc) (λ_=>c6 (λ_=>eK (.inl (by simp))) (λhr=>?_));simp only[Ny,aA,dG]at hr;refine(Om h hp n).bind λy hy=>?_;refine eJ (P:=λ_=>True) (di (λ_=>dm (by omega)) λ_=>trivial) λu _=>?_;refine c6 (λ_=>eK (.inl (by simp))) (λhc=>?_);simp only[aA,aL]at hc;have hy:=hy hc.1;unfold X_;rw[A8 h hp,Ib h hp];simp only[aa,dN,eQ];have hrun:∀w,p.Sources[y.1.toNat]?=some w->B7 w:=λw hw=>hp.run w (ae hw);refine c6 (λ_=>?_) (λ_=>?_)
 .refine(Atr h hp _).bind λz hz=>(d7 hy.1 hy.2).bind λw hw=>?_;rw[Sr hz];exact eK (.inr (Jv hp (G0 _ _ _) (Qx (hrun w hw) _ _ hz hp.run)))
 .refine(d7 hy.1 hy.2).bind λw hw=>?_;have hz:∀k,k∈[i]->0<=k/\k<p.Sources.length:=λk hk=>by
   grind
  rw[Sr hz];exact eK (.inr (Jv hp (G0 _ _ _) (Qx (hrun w hw) _ _ hz hp.run)))
theorem Te(h:Ad b)(hc:p.Closed.length=b.Breakers.length)(t:Int)(h0:0<=i)(h1:i<b.Sources.length):Ok (I5 ⟨b,p,t⟩ i) λ_=>True:=by obtain⟨j,x,e,hx,_⟩:=Hf h h0 h1;have hj:=(ab.1 hx).1;unfold I5;rw[Mv h,e];simp only[aa];exact(dm (by omega)).bind λ_ _=>eK trivial
def Wo(b:c_)(y:Int×Ar):Prop:=y.1≠0\/Aa b y.2.Ai
variable{t:Int}
theorem Aql(h:Ad b)(hp:Aa b p)(ht:0<=t/\t<=2147483648)(h0:0<=i)(h1:i<b.Sources.length):Ok (Qh ⟨b,p,t⟩ i) (Wo b):=by
 have hn:=hp.nso;have hbl:p.Broken.length<=1000:=by have:=hp.brk.len;omega
 unfold Qh;refine(dm h0 (by dsimp only;omega)).bind λu _=>eJ (P:=λ_=>True) (di (λ_=>dk (C3 hbl _ _)) λ_=>trivial) λ_ _=>?_;refine c6 (λ_=>eK (.inl (by simp))) (λ_=>(dm h0 h1).bind λs _=>?_);refine eJ (P:=λ_=>True) (di (λ_=>Te h hp.ncl t h0 h1) λ_=>trivial) λ_ _=>?_;refine c6 (λ_=>?_) (λ_=>?_)
 .exact(da h0 (by dsimp only;omega)).bind λz hz=>eK (.inr (by rw[hz];exact Jv hp (by simp) (M1 hp.run ⟨by dsimp only;omega,ht,by dsimp only;omega,by dsimp only;omega⟩)))
 .exact(da h0 (by dsimp only;omega)).bind λz hz=>eK (.inr (by rw[hz];exact Jv hp (by simp) (M1 hp.run ⟨by dsimp only;omega,ht,by dsimp only;omega,by dsimp only;omega⟩)))
theorem Aux(h:Ad b)(hp:Aa b p)(h0:0<=i)(h1:i<b.Sources.length):Ok (Qg ⟨b,p,t⟩ i) (Wo b):=by have hn:=hp.nso;unfold Qg;refine(d7 h0 (by dsimp only;omega)).bind λu hu=>?_;have hr:=hp.run u (ae hu);refine eJ (P:=λ_=>True) (di (λ_=>Te h hp.ncl t h0 h1) λ_=>trivial) λ_ _=>?_;refine c6 (λ_=>eK (.inl (by simp))) (λ_=>(da h0 (by dsimp only;omega)).bind λz hz=>eK (.inr ?_));rw[hz];exact Jv hp (by simp) (M1 hp.run ⟨by dsimp only;omega,hr.2⟩)
theorem Arn(hp:Aa b p)(h0:0<=i)(h1:i<b.Consumers.length):Ok (Qf ⟨b,p,t⟩ i v) (Wo b):=by
 have hn:=hp.nli;unfold Qf;refine eJ (P:=λy=>0<=v->b.Consumers[i.toNat]?=some y) (c9 (λ_=>(d7 h0 h1).mono λy hy _=>hy) λhg hv=>(hg ⟨by simp;omega,trivial⟩).elim) λc hc=>?_;refine c6 (λ_=>eK (.inl (by simp))) (λhr=>?_);simp only[X3,aA,dG]at hr;have hc:=hc (by omega);refine(dm h0 (by dsimp only;omega)).bind λ_ _=>(da h0 (by dsimp only;omega)).bind λz hz=>eK (.inr ?_);subst hz;exact {
  ncl:=hp.ncl
  nso:=hp.nso
  nli:=by simpa using hp.nli
  run:=hp.run
  lim:=λk m y hk hy=>by
   dsimp only at hk;rw[aK]at hk;split at hk
   .grind
   .exact hp.lim k m y hk hy
  one:=hp.one
  brk:=hp.brk}
theorem Ahe(x:Int):0<=D1 x/\D1 x<=3599:=by
 have:=Jz (x:=x) (n:=3600);unfold D1;by_cases h:Int.tmod x 3600<0
 .rw[dK h,eO,Ah];omega
 grind
theorem Aur(h:Ad b)(hp:Aa b p):Ok (uT b p) λy=>Aa b y.1/\y.1.Closed=p.Closed/\y.2=0:=by have hs:=h.sol;have hn:=hp.nso;unfold uT;rw[A8 h hp,Bj h hp];simp only[aa];refine c6 (λhc=>by simp at hc) (λ_=>?_);refine eI (A:=λs=>s.length=p.Sources.length/\∀x,x∈s->B7 x) (B:=λ(_:Unit)=>False) ?_ (λs hs=>eK ⟨Jv hp hs.1 hs.2,rfl,rfl⟩) eN;refine c8 (I:=λ_ s=>s.length=p.Sources.length/\∀x,x∈s->B7 x) ⟨rfl,hp.run⟩ (λj x s hx hs=>?_) λs hs=>hs;have hj:=(ab.1 hx).1;have hcnt:cnt 0 j=(j:Int):=Bf;unfold uS;rw[hcnt];refine c6 (λ_=>?_) (λ_=>c7 hs);refine(d7 (by omega) (by omega)).bind λu hu=>(da (by omega)).bind λz hz=>c7 ?_;have hr:=hs.2 u (ae hu);rw[hz];exact⟨by simpa using hs.1,M1 hs.2 ⟨hr.1,hr.2.1,hr.2.2.1,Ahe _⟩⟩
theorem Ags(h:Ad b)(hp:Aa b p)(t:Int):Ok (L9 ⟨b,p,t⟩) λy=>Aa b y.Ai:=by
 have hso:=h.sol;unfold L9;refine(Aur h hp).bind λ⟨q,e⟩ hq=>?_;dsimp only at hq ⊢;obtain⟨hq,_,_⟩:=hq;have hn:=hq.nso;refine eI (A:=λs=>s.2.length=q.Sources.length/\∀x,x∈s.2->B7 x) (B:=λ(_:Unit)=>False) ?_ (λs hs=>eK (Jv hq hs.1 hs.2)) eN;refine d6 (λs=>(0<=s.1/\s.1<=(q.Sources.length:Int))/\s.2.length=q.Sources.length/\∀x,x∈s.2->B7 x) (λs=>((q.Sources.length:Int)-s.1).toNat) _ _ ?_ ?_ ?_
 .exact⟨by dsimp only;omega,rfl,hq.run⟩
 .dsimp only;omega
 .rintro⟨i,s⟩ ⟨⟨h1,h2⟩,h3,h4⟩;dsimp only at h1 h2 h3 h4;unfold U3 X2;dsimp only;refine c6 (λhc=>?_) (λ_=>db ⟨h3,h4⟩);simp only[dF]at hc;have e1:w64 (i+1)=i+1:=Ah;refine(d7 h1 (by omega)).bind λu hu=>?_;have hr:=h4 u (ae hu);refine eJ (P:=λ_=>True) (di (λ_=>Te h hq.ncl t h1 (by omega)) λ_=>trivial) λ_ _=>?_;refine eJ (P:=λ_=>True) (di (λ_=>dm h1) λ_=>trivial) λ_ _=>?_;rw[e1];refine c6 (λ_=>?_) (λ_=>c7 ⟨⟨by dsimp only;omega,h3,h4⟩,by dsimp only;omega⟩);refine(da h1).bind λz hz=>c7 ⟨⟨by dsimp only;omega,?_,?_⟩,by dsimp only;omega⟩
  .dsimp only;rw[hz];simpa using h3
  .dsimp only;rw[hz];exact M1 h4 ⟨by dsimp only;omega,hr.2⟩
theorem bet{x:Int}(h:lo<=x/\x<=hi):F95 x lo hi=true:=(C5 x lo hi).2 h
def ofL(b:c_)(q:dU->Bool):fb:=(b.Breakers.zipIdx.filter λz=>q z.1).map λz=>(z.2:Int)
theorem S7(h:Ad b)(k i:Int):F98 b k i=some (ofL b λx=>Gr k i x):=by
 have hb:=h.brl;refine de ?_;unfold F98;refine eI (A:=λs=>s=ofL b λx=>Gr k i x) (B:=λ(_:Unit)=>False) ?_ (λs hs=>eK hs) eN;refine c8 (I:=λj s=>s=((b.Breakers.zipIdx.take j).filter λz=>Gr k i z.1).map λz=>(z.2:Int)) rfl (λj x s hx hs=>?_) λs hs=>?_
 .have hj:=(ab.1 hx).1;have hcnt:cnt 0 j=(j:Int):=Bf;have hz:b.Breakers.zipIdx[j]?=some (x,j):=by rw[List.getElem?_zipIdx,hx];simp
  have hsl:s.length<=j:=by grind
  unfold Ad2;rw[hcnt,An hz,aX,bh,←hs];refine c6 (λhq=>?_) (λhq=>c7 (by simp[hq]));exact(d8 (by simp;omega)).bind λy hy=>c7 (by rw[hy];simp[hq])
 .rw[hs,show b.Breakers.length=b.Breakers.zipIdx.length from by simp,am];rfl
theorem Aa6(q:dU->Bool):∀(l:List dU)(k:Nat),((l.zipIdx k).filter λz=>q z.1).length=(l.filter q).length
 | [],_=>rfl
 |x::l,k=>by simp only[List.zipIdx_cons,bt];split <;> simp[Aa6 q l (k+1)]
theorem Au9(b:c_)(q:dU->Bool):(ofL b q).length=(b.Breakers.filter q).length:=by unfold ofL;rw[au,Aa6]
theorem Xf(k:Int)(hk:k≠1)(i:Int)(x:dU):Gr k i x=(x.Kind==k&&x.B==i):=by unfold Gr;grind
theorem M3(hk:k≠1)(i:Nat):(ofL b λx=>Gr k (i:Int) x).length=(brs b.Breakers k i).length:=by rw[Au9];unfold brs;congr 1;exact bX λx _=>Xf k hk i x
theorem Abi(h:Ad b):F85 b=some true:=by
 have hs:=h.sol;have hc:=h.col;have hb:=h.buses;have hbl:=h.brl;refine de ?_;unfold F85;rw[Ci b.Breakers 0 λj x hj=>?_]
 .rw[show ∀(f:Unit->Option Bool),andThen (some (Ctl.next ()):Option (Ctl Unit Bool)) some f=f () from λ_=>rfl];refine eI (A:=λ_=>True) (B:=λ(_:Bool)=>False) ?_ (λ_ _=>?_) eN
  .refine d6 (λs=>0<=s/\s<=(b.Sources.length:Int)) (λs=>((b.Sources.length:Int)-s).toNat) _ (0:Int) (by omega) (by omega) ?_;rintro i ⟨h1,h2⟩;unfold Aec Ac3;refine c6 (λhq=>?_) (λ_=>db trivial);simp only[dF]at hq;obtain⟨n,rfl⟩:∃n:Nat,i=(n:Int):=⟨i.toNat,by omega⟩;rw[S7 h];simp only[aa];have hone:=h.one n (by omega);rw[M3 (by decide),hone,Ah];refine c6 (λhc=>by simp at hc) (λ_=>c7 ⟨by omega,by omega⟩)
  .refine eI (A:=λ_=>True) (B:=λ(_:Bool)=>False) ?_ (λ_ _=>eK rfl) eN;refine d6 (λs=>0<=s/\s<=(b.Consumers.length:Int)) (λs=>((b.Consumers.length:Int)-s).toNat) _ (0:Int) (by omega) (by omega) ?_;rintro i ⟨h1,h2⟩;unfold Aeb Ac2;refine c6 (λhq=>?_) (λ_=>db trivial);simp only[dF]at hq;obtain⟨n,rfl⟩:∃n:Nat,i=(n:Int):=⟨i.toNat,by omega⟩;rw[S7 h];simp only[aa];have hany:=h.any n (by omega);have hpos:0<(brs b.Breakers 3 n).length:=List.length_pos_iff.2 hany;rw[M3 (by decide),Ah];refine c6 (λhc=>?_) (λ_=>c7 ⟨by omega,by omega⟩);simp only[dF]at hc;omega
 .have hjl := (ab.1 hj).1;obtain⟨⟨a0,a1⟩,hk⟩:=h.br x (ae hj);rw[aH];have hcnt:cnt 0 j=(j:Int):=Bf;have e1:w64 (b.Buses-1)=b.Buses-1:=Ah;have e2:w64 (x.A+1)=x.A+1:=Ah;have e3:w64 ((b.Sources.length:Int)-1)=(b.Sources.length:Int)-1:=Ah;have e4:w64 ((b.Consumers.length:Int)-1)=(b.Consumers.length:Int)-1:=Ah;unfold Aed Ake Akd Akc;rw[e1,e2,e3,e4,hcnt,bet (x:=x.A) (by omega)];simp only[aC,eQ];rcases hk with⟨hk,h1,h2⟩|⟨hk,h1,h2⟩|⟨hk,h1,h2⟩
  .rw[hk,bet (x:=x.B) (lo:=x.A+1) (by omega)];rfl
  .rw[hk,bet (x:=x.B) (lo:=0) (hi:=(b.Sources.length:Int)-1) (by omega)];rfl
  .rw [hk, bet (x := x.B) (lo := 0) (hi := (b.Consumers.length : Int) - 1) (by omega)];have hcut:cutI b.Breakers 0 (j:Int)=some (b.Breakers.take j):=by
    refine de ((Ok.cutI (by omega) (by omega) (by omega)).mono λy hy=>?_);rw[hy];simp
   show ((cutI b.Breakers 0 (j:Int)).bind λy9=>andThen (foldI (Zw x) y9 0 ()) (λv=>some (Ctl.ret v)) λz1=>some (Ctl.next ()))=some (Ctl.next ());rw[hcut];simp only[aa];rw[Ci _ 0 λm y hy=>?_]
   .rfl
   .have hml:m<j:=by
     have:=(ab.1 hy).1;simp only[aT]at this;omega
    have hyb:b.Breakers[m]?=some y:=by rw[ax,eT hml]at hy;exact hy
    unfold Zw;have hne:V4 x y=false:=by
     unfold V4;rw[bZ];intro e;simp only[bl,ac,dH]at e;obtain⟨e1,e2,e3⟩:=e;have hn:=h.nodup x.B.toNat;have hsplit:b.Breakers=b.Breakers.take j++(x::b.Breakers.drop (j+1)):=by
      conv=>lhs;rw[←bP j b.Breakers]
      rw[cJ hjl];have:b.Breakers[j]=x:=by rw[af hjl]at hj;cases hj;rfl
      rw[this]
     rw[hsplit,Gz,bh]at hn;have hBn:x.B=(x.B.toNat:Int):=by omega
     have hmem1:y.A∈(brs (b.Breakers.take j) 3 x.B.toNat).map (·.A):=by refine an.2 ⟨y,?_,rfl⟩;unfold brs;refine ar.2 ⟨ae hy,?_⟩;rw[e1,hk,e3,←hBn];simp
     have hmem2:x.A∈(brs (x::b.Breakers.drop (j+1)) 3 x.B.toNat).map (·.A):=by refine an.2 ⟨x,?_,rfl⟩;unfold brs;refine ar.2 ⟨ai,?_⟩;rw[hk,←hBn];simp
     exact(cT.1 hn).2.2 _ hmem1 _ hmem2 e2
    rw[hne];rfl
theorem Af7(h:Ad b):F86 b=some true:=by
 unfold F86;rw[Ci b.Sources 0 λj x hj=>?_]
 .rfl
 .obtain⟨h1,h2,h3⟩:=h.so x (ae hj);unfold Aea Akb;rw[bet h1,bet h2,bet h3];rfl
theorem zW(h:Ad b):F87 b=some true:=by
 have hcl:=h.col;unfold F87;rw[Ci b.Consumers 0 λj x hj=>?_]
 .rfl
 .obtain⟨h1,h2,h3,h4,h5,h6,h7⟩:=h.co j x hj;have hjl:=(ab.1 hj).1;rw[aH];have hcnt:cnt 0 j=(j:Int):=Bf;unfold Ad9 Aka;rw[bet h1,bet h2,bet h3,bet h4];have hd:decide ((x.Needs.length:Int)>4)=false:=by simp;omega
  rw[hd];simp only[aC,Bool.or_false,eQ];rw[Ci x.Needs 0 λm n hm=>?_]
  .rfl
  .have hml:=(ab.1 hm).1;rw[aH];have hcm:cnt 0 m=(m:Int):=Bf;have hn:=h6 n (ae hm);unfold Ad8 At3;rw[hcnt,hcm,Ah (n:=(j:Int)-1),bet (x:=n) (by omega)];cases m with
   |zero=>rfl
   |succ m=>
    obtain⟨a,ha⟩:∃a,x.Needs[m]?=some a:=⟨_,af (by omega)⟩;have hlt:=h7 m a n ha hm;have e:w64 (((m+1:Nat):Int)-1)=(m:Int):=by rw[Ah];omega
    have hp:decide (((m+1:Nat):Int)>0)=true:=dK (by omega);have hq:decide (a>=n)=false:=by simp;omega
    rw[e,Al ha,hp];simp[Ag,C9,hq]
theorem Je(h:Ad b):F47 b=some 0:=by
 have h1:=h.buses;have h2:=h.brl;have h3:=h.sol;have h4:=h.col;have h5:=h.phase;have h6:=h.freq;unfold F47;rw[Abi h,Af7 h,zW h];have e:Ox b=false:=by rw[bZ];intro e;simp[Ox]at e;omega
 have e2:Aap b true true true=false:=by rw[bZ];intro e;simp[Aap]at e;omega
 rw[e];simp only[eQ,aa];have g1:(Ag [(!true,false)] (some true) default:Option Bool)=some true:=rfl;grind
theorem Si(i:Nat)(C:fe):∀(l:List dU)(c:fe)(k:Nat),C.drop k=c->l.length=c.length ->
  (((l.zipIdx k).filter λz=>z.1.Kind==3&&z.1.B==(i:Int)).filter λz=>C.getD z.2 false).length=(Br l c i).length
 | [],_,_,_,_=>by simp[Br]
 |x::l,[],_,_,h=>by simp at h
 | x::l,v::c,k,hd,h=>by
  have hv:C[k]?=some v:=by have:=congrArg (·[0]?) hd;simpa[List.getElem?_drop]using this
  have hd':C.drop (k+1)=c:=by rw[←bL,hd];rfl
  have ih:=Si i C l c (k+1) hd' (by simpa using h);have hg:C.getD k false=v:=by simp[List.getD,hv]
  simp only[List.zipIdx_cons,bt,Br,bN]at ih ⊢;grind
theorem Bi(h:Ad b)(hp:Aa b p):F54 b p=some 0:=by
 have h3:=h.sol;have h4:=h.col;have hbl:=h.brl;have hncl:=hp.ncl;have hnso:=hp.nso;have hnli:=hp.nli;refine de ?_;unfold F54;rw[Je h];simp only[aa];refine c6 (λhc=>by simp at hc) (λ_=>c6 (λhc=>?_) (λ_=>?_))
 .simp[Mu,hncl,hnso,hnli]at hc
 rw[Ci p.Sources 0 λj x hj=>?_]
 .rw [show ∀(f : Unit -> Option Int), andThen (some (Ctl.next ()) : Option (Ctl Unit Int)) some f = f () from λ_ => rfl];rw[Ci p.Limits 0 λj x hj=>?_]
  .rw [show ∀(f : Unit -> Option Int), andThen (some (Ctl.next ()) : Option (Ctl Unit Int)) some f = f () from λ_ => rfl];have hlen:=hp.brk.len;refine c6 (λhc=>?_) (λ_=>?_)
   .simp only[dF]at hc;omega
   rw[Ci p.Broken 0 λj x hj=>?_]
   .rw[show ∀(f:Unit->Option Int),andThen (some (Ctl.next ()):Option (Ctl Unit Int)) some f=f () from λ_=>rfl];refine eI (A:=λ_=>True) (B:=λ(_:Int)=>False) ?_ (λ_ _=>eK rfl) eN;refine d6 (λs=>0<=s/\s<=(b.Consumers.length:Int)) (λs=>((b.Consumers.length:Int)-s).toNat) _ (0:Int) (by omega) (by omega) ?_;rintro i ⟨g1,g2⟩;unfold Aeq Aki;refine c6 (λhq=>?_) (λ_=>db trivial);simp only[dF]at hq;obtain⟨n,rfl⟩:∃n:Nat,i=(n:Int):=⟨i.toNat,by omega⟩;rw[S7 h];simp only[aa];have hone:=hp.one n (by omega);have hz:ofL b (λx=>Gr 3 (n:Int) x)=((b.Breakers.zipIdx.filter λz=>z.1.Kind==3&&z.1.B==(n:Int)).map λz=>(z.2:Int)):=by
     unfold ofL;congr 1;exact bX λz _=>Xf 3 (by decide) n z.1
    have hzf:=Si n p.Closed b.Breakers p.Closed 0 rfl (by omega);rw[hz];have hin:∀z,z∈(b.Breakers.zipIdx.filter λz=>z.1.Kind==3&&z.1.B==(n:Int))->z.2<p.Closed.length:=by rintro⟨x,j⟩ hm;have:=(ar.1 hm).1;rw[cm]at this;have:=(ab.1 this).1;dsimp only;omega
    have hsz:(b.Breakers.zipIdx.filter λz=>z.1.Kind==3&&z.1.B==(n:Int)).length<=24:=aG (bk _ _) (by simpa using hbl);generalize hm:(b.Breakers.zipIdx.filter λz=>z.1.Kind==3&&z.1.B==(n:Int))=m at hin hsz hzf;refine(c8 (xs:=m.map λz=>(z.2:Int)) (I:=λj s=>s=(((m.take j).filter λz=>p.Closed.getD z.2 false).length:Int)) (A:=λs=>s=((m.filter λz=>p.Closed.getD z.2 false).length:Int)) (B:=λ(_:Unit)=>False) rfl (λj x s hx hs=>?_) λs hs=>?_).inner (λs hs=>?_) eN
    .rw[aD,Option.map_eq_some_iff]at hx;obtain⟨z,hz,rfl⟩:=hx;have hzl:=hin z (ae hz);obtain⟨v,hv⟩:∃v,p.Closed[z.2]?=some v:=⟨_,af hzl⟩;have hg:p.Closed.getD z.2 false=v:=by simp[List.getD,hv]
     have hle:((m.take j).filter λz=>p.Closed.getD z.2 false).length<=24:=aG (bk _ _) (by simp;omega);unfold Aep;rw[Al hv,An hz,aX];simp only[aa];refine c6 (λhq=>c7 ?_) (λhq=>c7 ?_)
     .rw[hs,Ah,bt,hg,eT hq];simp
     .rw[hs,bt,hg,eU (ff hq)];simp
    .rw[au,am]at hs;exact hs
    .rw[hs,hzf,Ah];refine c6 (λhc=>?_) (λ_=>c7 ⟨by omega,by omega⟩);simp only[dF]at hc;omega
   .have hjl:=(ab.1 hj).1;rw[aH];have hcnt:cnt 0 j=(j:Int):=Bf;unfold Z0 Akj;rw[(Kc h x).2 (hp.brk.mem x (ae hj)),hcnt];cases j with
    |zero=>rfl
    | succ j=>
     obtain⟨a,ha⟩:∃a,p.Broken[j]?=some a:=⟨_,af (by omega)⟩;have hlt:=hp.brk.asc j a x ha hj;have e:w64 (((j+1:Nat):Int)-1)=(j:Int):=by rw[Ah];omega
     have hpz:decide (((j+1:Nat):Int)>0)=true:=dK (by omega);have hb:F97 a x=true:=by unfold F97;unfold Kh at hlt;simp only[aE,ac,dF,dH];exact hlt
     rw[e,Al ha,hpz];simp[Ag,C9,hb]
  .have hjl:=(ab.1 hj).1;rw[aH];have hcnt:cnt 0 j=(j:Int):=Bf;obtain⟨c,hc⟩:∃c,b.Consumers[j]?=some c:=⟨_,af (by omega)⟩;unfold Aer;rw[hcnt,Al hc];simp only[aa];rw[bet (hp.lim j x c hj hc)];rfl
 .have hr:=hp.run x (ae hj);unfold Aes Akk;rw[bet hr.1,bet hr.2.1,bet hr.2.2.1,bet hr.2.2.2];rfl
variable{x:dX}
theorem yS(h:l[n]?=some x):Ed (l.take n++l.drop (n+1)) n x=l:=by
 have hn:=(ab.1 h).1;have ht:(l.take n).length=n:=by simp;omega
 unfold Ed;rw[cP (by omega),List.take_take,Nat.min_self,List.drop_append_of_le_length (by omega),List.drop_of_length_le (by omega),cU]
 conv=>rhs;rw[←bP n l]
 rw[cJ hn];grind
theorem T0(hn:n<l.length)(h:(l.take n++l.drop (n+1))[j]?=some y):(j<n/\l[j]?=some y)\/(n<=j/\l[j+1]?=some y):=by grind
theorem Acr(h:Ad b)(hl:Df b l)(hn:n<l.length):Df b (l.take n++l.drop (n+1)):=by
 have hs:=D5 h hl;have hsm:∀y,y∈l->Bv y:=λy hy=>(hl.mem y hy).small h;have hlen:=hl.len;refine⟨by simp;omega,λy hy=>?_,λj y z hy hz=>?_⟩
 .grind[Df.mem]
 .rcases T0 hn hy with⟨a1,a2⟩|⟨a1,a2⟩ <;> rcases T0 hn hz with⟨b1,b2⟩|⟨b1,b2⟩
  .exact hl.asc j y z a2 b2
  .exact(Aaj (hsm y (ae a2)) (hsm z (ae b2))).2 (hs j (j+1+1) y z (by omega) a2 b2)
  .omega
  .exact hl.asc (j+1) y z a2 b2
theorem Acs(h:Ad b)(hl:Df b l)(hx:l[n]?=some x):At (l.take n++l.drop (n+1)) x n/\(l.take n++l.drop (n+1))[n]? ≠ some x:=by
 have hs:=D5 h hl;have hn:=(ab.1 hx).1;refine⟨⟨by simp;omega,λj y hj hy=>?_,λj y hj hy=>?_⟩,λe=>?_⟩
 .grind[Fs]
 .grind[Fs]
 .rcases T0 hn e with⟨a1,_⟩|⟨_,a2⟩
  .omega
  .have:=hs n (n+1) x x (by omega) hx a2;omega
theorem Avr(h:Ad b)(hp:Aa b p)(t:Int)(hx:Bc b x)(v:Bool):Ok (Eu ⟨b,p,t⟩ x v) (Wo b):=by
 obtain⟨n,hat⟩:=Aku h hp.brk hx;have hlen:=hp.brk.len;have hsearch:=H6 (D5 h hp.brk) (λy hy=>(hp.brk.mem y hy).small h) (hx.small h);have hbad:∀(hv:(p.Broken[n]?=some x)↔v=true),Ok (Eu ⟨b,p,t⟩ x v) (Wo b):=by
  intro hv;unfold Eu;refine hsearch.bind λy hy=>?_;obtain⟨m,e1,hat2,hf⟩:=hy;have e2:=hat.uniq hat2;subst e2;have:y.2=v:=by rw[aU];exact hf.trans hv
  rw[this];exact c6 (λ_=>eK (.inl (by simp))) (λhc=>by simp at hc)
 by_cases hin:p.Broken[n]?=some x
 .cases v with
  |true=>exact hbad ⟨λ_=>rfl,λ_=>hin⟩
  |false=>have hn:=(ab.1 hin).1;have he:=Acs h hp.brk hin;have hq:Aa b ⟨p.Closed,p.Sources,p.Limits,p.Broken.take n++p.Broken.drop (n+1)⟩:={ncl:=hp.ncl,nso:=hp.nso,nli:=hp.nli,run:=hp.run,lim:=hp.lim,one:=hp.one,brk:=Acr h hp.brk hn};have:=Ahi h (p:=⟨p.Closed,p.Sources,p.Limits,p.Broken.take n++p.Broken.drop (n+1)⟩) hq.brk (q:=p) hx t he.1 he.2 (by simp;omega) (yS hin).symm hp.nso;rw[this];refine eK (.inr ?_);exact Jv hq (Tt _ _ _) (Ace hp.run (λhk=>by have:=hp.nso;unfold Bc at hx;omega) (by omega))
 .cases v with
  |false=>grind
  | true=>
   by_cases hl:p.Broken.length<32
   .rw[Ahp h hp hx t hat hin hl];exact eK (.inr (Ajy h hp hx hat hin hl))
   .unfold Eu;refine hsearch.bind λy _=>c6 (λ_=>eK (.inl (by simp))) (λ_=>c6 (λ_=>eK (.inl (by simp))) (λhc=>?_));simp[Nw]at hc;omega
def Axj:dZ:=⟨[],[],[],[]⟩
theorem Arq(a:a_):Ok (Ki b a) λy=>y=true->((a.Kind=1\/a.Kind=2)->Bc b ⟨2,a.Unit⟩)/\((a.Kind=3\/a.Kind=4)->Bc b ⟨1,a.Unit⟩)/\(a.Kind=5->Bc b ⟨4,a.Unit⟩)/\((a.Kind=8\/a.Kind=9)->Bc b ⟨a.Value,a.Unit⟩):=by
 unfold Ki;refine eI (A:=λz=>z=true↔(a.Kind=1\/a.Kind=2)) (B:=λ(_:Unit)=>False) ?_ (λz hz=>?_) eN
 .unfold Aic;refine c6 (λhk=>dj ?_) (λhk=>dj ?_)
  .simp only[dH]at hk ⊢;omega
  .simp only[dJ,ne_eq]at hk;simp only[dH];omega
 refine c6 (λhq=>eK λhk=>?_) (λhq=>?_)
 .have:=hz.1 hq;have hk:=(Ew b _ _).1 hk;exact⟨λ_=>hk,λe=>by omega,λe=>by omega,λe=>by omega⟩
 have hn12:¬(a.Kind=1\/a.Kind=2):=λe=>by rw[hz.2 e]at hq;cases hq
 refine eI (A:=λz=>z=true↔(a.Kind=3\/a.Kind=4)) (B:=λ(_:Unit)=>False) ?_ (λz hz=>?_) eN
 .unfold Aib;refine c6 (λhk=>dj ?_) (λhk=>dj ?_)
  .simp only[dH]at hk ⊢;omega
  .simp only[dJ,ne_eq]at hk;simp only[dH];omega
 refine c6 (λhq=>eK λhk=>?_) (λhq=>?_)
 .have:=hz.1 hq;have hk:=(Ew b _ _).1 hk;exact⟨λe=>by omega,λ_=>hk,λe=>by omega,λe=>by omega⟩
 have hn34:¬(a.Kind=3\/a.Kind=4):=λe=>by rw[hz.2 e]at hq;cases hq
 refine c6 (λhq=>eK λhk=>?_) (λhq5=>c6 (λhq=>eK λ_=>?_) (λhq6=>c6 (λhq=>eK λhk=>?_) (λhq8=>c6 (λhq=>eK λhk=>?_) (λhq9=>eK λ_=>?_))))
 .simp only[dH]at hq;have hk:=(Ew b _ _).1 hk;exact⟨λe=>by omega,λe=>by omega,λ_=>hk,λe=>by omega⟩
 .simp only[dH]at hq;exact⟨λe=>by omega,λe=>by omega,λe=>by omega,λe=>by omega⟩
 .have hk:=(Ew b _ _).1 hk;simp only[dH]at hq;exact⟨λe=>by omega,λe=>by omega,λe=>by omega,λ_=>hk⟩
 .have hk:=(Ew b _ _).1 hk;simp only[dH]at hq;exact⟨λe=>by omega,λe=>by omega,λe=>by omega,λ_=>hk⟩
 grind
theorem Azh(h:Ad b)(hp:Aa b p)(ht:0<=t/\t<=2147483648){a:a_}(hk:1<=a.Kind/\a.Kind<=9)
  (hw:((a.Kind=1\/a.Kind=2)->Bc b ⟨2,a.Unit⟩)/\((a.Kind=3\/a.Kind=4)->Bc b ⟨1,a.Unit⟩)/\(a.Kind=5->Bc b ⟨4,a.Unit⟩)/\((a.Kind=8\/a.Kind=9)->Bc b ⟨a.Value,a.Unit⟩)):Ok (Gm ⟨b,p,t⟩ a) (Wo b):=by
 obtain⟨w1,w2,w3,w4⟩:=hw;unfold Bc at w2 w3;dsimp only at w2 w3;unfold Gm;refine c6 (λ_=>(Asf h hp _).bind λy hy=>eK hy) (λq1=>?_);refine c6 (λ_=>(Ahc h hp _).bind λy hy=>eK hy) (λq2=>?_);refine c6 (λ_=>(Abw h hp _ _).bind λy hy=>eK hy) (λq6=>?_);refine c6 (λq=>?_) (λq3=>?_)
 .simp only[dH]at q;exact(Aql h hp ht (by omega) (by omega)).bind λy hy=>eK hy
 refine c6 (λq=>?_) (λq4=>?_)
 .simp only[dH]at q;exact(Aux h hp (by omega) (by omega)).bind λy hy=>eK hy
 refine c6 (λq=>?_) (λq5=>?_)
 .simp only[dH]at q;exact(Arn hp (by omega) (by omega)).bind λy hy=>eK hy
 refine c6 (λ_=>(Ags h hp t).bind λy hy=>eK (.inr hy)) (λq7=>?_);simp only[dJ,ne_eq]at q1 q2 q3 q4 q5 q6 q7;exact(Avr h hp t (w4 (by omega)) _).bind λy hy=>eK hy
theorem Ayj(h:Ad b)(hp:Aa b p)(t:Int)(a:a_):Ok (Er b p t a) λy=>(y.2≠0/\y.1=Axj)\/(y.2=0/\Aa b y.1):=by
 unfold Er;rw[A8 h hp,Bj h hp];simp only[aa];refine c6 (λhc=>by simp at hc) (λ_=>c6 (λ_=>eK (.inl ⟨by simp,rfl⟩)) (λhr=>?_));simp only[C8,aA,dG]at hr;refine(Arq a).bind λy hy=>c6 (λ_=>eK (.inl ⟨by simp,rfl⟩)) (λhk=>?_);simp only[aL]at hk;refine(Azh h hp (by omega) (by omega) (hy hk)).bind λz hz=>c6 (λhc=>eK (.inl ⟨by simpa using hc,rfl⟩)) (λhc=>?_);simp only[dM]at hc;rcases hz with hz|hz
 .exact absurd hc hz
 .exact eK (.inr ⟨rfl,hz⟩)
theorem Ay1(h:Ad b){s:Ab}(hs:A4 s):Ok (Aaz s b) λy=>A4 y.2:=by
 have hbu:=h.buses;have hbl:=h.brl;have hso:=h.sol;have hco:=h.col;unfold Aaz;refine(Fl hs 1 9 (by omega) (by omega)).bind λy hy=>?_;refine eI (A:=λ_=>True) (B:=λ(_:Unit)=>False) ?_ (λz _=>?_) eN
 .unfold Aev;exact c6 (λ_=>dj trivial) (λ_=>dj trivial)
 refine c6 (λ_=>?_) (λ_=>?_)
 .exact(Um hy.1 _ (by rw[Ah];omega)).bind λu hu=>eK hu.1
 refine eI (A:=λ_=>True) (B:=λ(_:Unit)=>False) ?_ (λz _=>?_) eN
 .unfold Aeu;exact c6 (λ_=>dj trivial) (λ_=>dj trivial)
 refine c6 (λ_=>?_) (λ_=>c6 (λ_=>?_) (λ_=>c6 (λ_=>?_) (λ_=>c6 (λ_=>?_) (λ_=>c6 (λ_=>?_) (λ_=>eK hy.1)))))
 .exact(Um hy.1 _ (by rw[Ah];omega)).bind λu hu=>eK hu.1
 .exact(Um hy.1 _ (by rw[Ah];omega)).bind λu hu=>(B8 hu.1 _ (by simp) (by simp)).bind λv hv=>eK hv.1
 .exact(Um hy.1 _ (by rw[Ah];omega)).bind λu hu=>(Um hu.1 _ (by rw[Ah];omega)).bind λv hv=>eK hv.1
 .exact(Fl hy.1 1 4 (by omega) (by omega)).bind λu hu=>(Um hu.1 _ (by omega)).bind λv hv=>eK hv.1
 .exact(Fl hy.1 1 4 (by omega) (by omega)).bind λu hu=>(Um hu.1 _ (by omega)).bind λv hv=>eK hv.1
abbrev Dq:=List (dU×Bool)
def Tie(L:Dq)(i j:Nat):Prop:=∃z,z∈L/\z.1.Kind=1/\z.2=true/\((z.1.A.toNat=i/\z.1.B.toNat=j)\/(z.1.A.toNat=j/\z.1.B.toNat=i))
variable{L:Dq}{i:Nat}
theorem Tie.symm(h:Tie L i j):Tie L j i:=by obtain⟨z,h1,h2,h3,h4⟩:=h;exact⟨z,h1,h2,h3,h4.symm⟩
inductive Dk(L:Dq)(i:Nat):Nat->Nat->Prop
 |refl:Dk L i 0 i
 |stay {r j:Nat}:Dk L i r j->Dk L i (r+1) j
 |step {r j k:Nat}:Dk L i r j->Tie L j k->Dk L i (r+1) k
def Gn(L:Dq)(i j:Nat):Prop:=∃r,Dk L i r j
theorem Gn.refl(L:Dq)(i:Nat):Gn L i i:=⟨0,.refl⟩
theorem Gn.tie{k:Nat}(h:Gn L i j)(t:Tie L j k):Gn L i k:=by obtain⟨r,h⟩:=h;exact⟨r+1,h.step t⟩
theorem Gn.trans{k:Nat}(h:Gn L i j)(h2:Gn L j k):Gn L i k:=by
 obtain⟨r,h2⟩:=h2;induction h2 with
 |refl=>exact h
 |stay _ ih=>exact ih
 |step _ t ih=>exact ih.tie t
theorem Gn.symm(h:Gn L i j):Gn L j i:=by
 obtain⟨r,h⟩:=h;induction h with
 |refl=>exact .refl L i
 |stay _ ih=>exact ih
 |step _ t ih=>exact(Gn.tie (.refl L _) t.symm).trans ih
theorem Dk.le{r s:Nat}(h:Dk L i r j)(hs:r<=s):Dk L i s j:=by
 induction s with
 |zero=>grind
 |succ s ih=>
  by_cases e:r=s+1
  .subst e;exact h
  .exact(ih (by omega)).stay
open Classical in
noncomputable def cn (p:Nat->Prop):Nat->Nat
 |0=>0
 |n+1=>cn p n+if p n then 1 else 0
theorem At0(p:Nat->Prop):∀n,cn p n<=n
 |0=>ag _
 |n+1=>by have:=At0 p n;unfold cn;split <;> omega
theorem uG{p q:Nat->Prop}:∀n,(∀k,k<n->p k->q k)->cn p n<=cn q n
 |0,_=>ag _
 |n+1,h=>by have:=uG n λk hk=>h k (by omega);grind[cn]
theorem Aj8{p q:Nat->Prop}:∀n,(∀k,k<n->p k->q k)->cn p n=cn q n->∀k,k<n->q k->p k
 |0,_,_,k,hk,_=>by omega
 | n+1,h,e,k,hk,hq=>by
  have hm:=uG n λk hk=>h k (by omega);have h1:=h n (by omega);unfold cn at e;by_cases hp:p n
  .rw[eT hp,eT (h1 hp)]at e;by_cases ek:k=n
   .subst ek;exact hp
   .exact Aj8 n (λk hk=>h k (by omega)) (by omega) k (by omega) hq
  .rw[eU hp]at e;by_cases hqn:q n
   .rw[eT hqn]at e;omega
   .rw[eU hqn]at e;by_cases ek:k=n
    .subst ek;exact absurd hq hqn
    .exact Aj8 n (λk hk=>h k (by omega)) (by omega) k (by omega) hq
def Zu(L:Dq)(n:Nat):Prop:=∀i j,Tie L i j->i<n/\j<n
theorem Dk.lt{r:Nat}(hL:Zu L n)(hi:i<n)(h:Dk L i r j):j<n:=by
 induction h with
 |refl=>exact hi
 |stay _ ih=>exact ih
 |step _ t _=>exact(hL _ _ t).2
theorem Zd(hL:Zu L n)(_:i<n)(h:Gn L i j):Dk L i n j:=by
 have hst:∃r,r<=n/\∀k,k<n->Dk L i (r+1) k->Dk L i r k:=by
  by_cases hex:∃r,r<=n/\∀k,k<n->Dk L i (r+1) k->Dk L i r k
  .exact hex
  exfalso;have hgrow:∀r,r<=n->cn (Dk L i r) n<cn (Dk L i (r+1)) n:=by
   intro r hr;have hm:=uG (p:=Dk L i r) (q:=Dk L i (r+1)) n λk _ h=>h.stay;rcases Nat.lt_or_eq_of_le hm with h|h
   .exact h
   .exact absurd ⟨r,hr,Aj8 n (λk _ h=>h.stay) h⟩ hex
  have hge:∀r,r<=n+1->r<=cn (Dk L i r) n:=by
   intro r;induction r with
   |zero=>intro _;omega
   |succ r ih=>grind
  have h1:=hge (n+1) (ag _);have h2:=At0 (Dk L i (n+1)) n;omega
 obtain⟨r,hr,hs⟩:=hst;obtain⟨s,h⟩:=h;have key:∀s k,Dk L i s k->Dk L i r k:=by
  intro s k h;induction h with
  |refl=>exact Dk.refl.le (by omega)
  |stay _ ih=>exact ih
  |step h0 t ih=>exact hs _ (hL _ _ t).2 (ih.step t)
 exact(key s j h).le hr
def Cn(b:c_)(p:dZ):Dq:=b.Breakers.zip p.Closed
theorem qD(h:Ad b)(p:dZ):Zu (Cn b p) b.Buses.toNat:=by rintro i j ⟨z,hz,hk,_,he⟩;have:=h.br z.1 (b9 hz).1;unfold Ij at this;omega
theorem Axa(h:i<s.length):s[i]?=some (s.getD i 0):=by grind
theorem Ti(hi:i<s.length):(Ek s z).getD i 0=if(z.1.Kind=1/\z.2=true)/\(i=z.1.A.toNat\/i=z.1.B.toNat)then min (s.getD z.1.A.toNat 0) (s.getD z.1.B.toNat 0) else s.getD i 0:=by unfold Ek;grind
def Lab(L:Dq)(s:fb):Prop:=∀i,i<s.length->Gn L (s.getD i 0).toNat i
theorem Ani(h:Lab L s)(hz:z∈L)(hr:z.1.Kind=1->z.1.A.toNat<s.length/\z.1.B.toNat<s.length):Lab L (Ek s z):=by
 intro i hi;rw[Fc]at hi;rw[Ti hi];split
 .rename_i hc;obtain⟨⟨hk,hv⟩,hab⟩:=hc;obtain⟨ha,hb⟩:=hr hk;have tAB:Tie L z.1.A.toNat z.1.B.toNat:=⟨z,hz,hk,hv,.inl ⟨rfl,rfl⟩⟩;have c1:=h _ ha;have c2:=h _ hb;rcases Int.le_total (s.getD z.1.A.toNat 0) (s.getD z.1.B.toNat 0) with e|e
  .rw[Int.min_eq_left e];rcases hab with rfl|rfl
   .exact c1
   .exact c1.tie tAB
  .rw[Int.min_eq_right e];rcases hab with rfl|rfl
   .exact c2.tie tAB.symm
   .exact c2
 .exact h i hi
theorem Rc{L:Dq}{n:Nat}:∀(l:Dq)(s:fb),s.length=n->(∀z,z∈l->z∈L/\(z.1.Kind=1->z.1.A.toNat<n/\z.1.B.toNat<n))->Lab L s->Lab L (Ch l s)
 | [],_,_,_,h=>h
 |z::l,s,hs,hz,h=>Rc l (Ek s z) (by rw[Fc];exact hs) (λy hy=>hz y (ak _ hy)) (Ani h (hz z ai).1 (by grind))
theorem Tj(z:dU×Bool)(hi:i<s.length):(Ek s z).getD i 0<=s.getD i 0:=by rw[Ti hi];grind
theorem Re:∀(l:Dq)(s:fb){i:Nat},i<s.length->(Ch l s).getD i 0<=s.getD i 0
 | [],_,_,_=>bY _
 |z::l,s,i,hi=>Int.le_trans (Re l (Ek s z) (by rw[Fc];exact hi)) (Tj z hi)
theorem Y2:∀(l:Dq)(s:fb){z:dU×Bool},z∈l->z.1.Kind=1->z.2=true->z.1.A.toNat<s.length->z.1.B.toNat<s.length->∀i,i=z.1.A.toNat\/i=z.1.B.toNat->(Ch l s).getD i 0<=min (s.getD z.1.A.toNat 0) (s.getD z.1.B.toNat 0)
 | [],_,_,h,_,_,_,_,_,_=>by cases h
 | y::l,s,z,hz,hk,hv,ha,hb,i,hi=>by
  show (Ch l (Ek s y)).getD i 0<=_;have hil:i<s.length:=by rcases hi with rfl|rfl <;> assumption
  by_cases e:z=y
  .subst e;refine Int.le_trans (Re l _ (by rw[Fc];exact hil)) ?_;rw[Ti hil,eT ⟨⟨hk,hv⟩,hi⟩];exact bY _
  .have hz':z∈l:=by
    grind
   refine Int.le_trans (Y2 l (Ek s y) hz' hk hv (by rw[Fc];exact ha) (by rw[Fc];exact hb) i hi) ?_;have h1:=Tj y ha;have h2:=Tj y hb;omega
theorem Ls(h:i<n):(Co n).getD i 0=(i:Int):=by grind[Co]
theorem Ajp(hL:Zu L n):∀r i j,i<n->j<n->Dk L j r i->((List.range r).foldl (λs _=>Ch L s) (Co n)).getD i 0<=(j:Int):=by
 intro r;have hlen:∀r,((List.range r).foldl (λs _=>Ch L s) (Co n)).length=n:=by
  intro r;induction r with
  |zero=>simp[Co]
  |succ r ih=>rw[cq,aN];simp only[bx,List.foldl_nil,Gu];exact ih
 induction r with
 |zero=>intro i j hi hj h;cases h;show (Co n).getD i 0<=_;rw[Ls hi];exact bY _
 | succ r ih=>
  intro i j hi hj h;have hrl:=hlen r;rw[cq,aN];simp only[bx,List.foldl_nil];generalize (List.range r).foldl (λs _=>Ch L s) (Co n)=s at *;cases h with
  |stay h=>exact Int.le_trans (Re L s (by omega)) (ih i j hi hj h)
  |step h t=>
   rename_i k;have hk:=hL _ _ t;have h1:=ih k j hk.1 hj h;obtain⟨z,hz,hz1,hz2,he⟩:=t;have hA:z.1.A.toNat<s.length:=by omega
   have hB:z.1.B.toNat<s.length:=by omega
   have h2:=Y2 L s hz hz1 hz2 hA hB i (by omega);grind
theorem Mp(h:Ad b)(p:dZ)(hi:i<b.Buses.toNat)(hj:j<b.Buses.toNat):(groups b p).getD i 0=(groups b p).getD j 0↔Gn (Cn b p) i j:=by
 have hL:=qD h p;have hlen:=Hn b p;have hlab:Lab (Cn b p) (groups b p):=by
  have hz:∀z,z∈Cn b p->z∈Cn b p/\(z.1.Kind=1->z.1.A.toNat<b.Buses.toNat/\z.1.B.toNat<b.Buses.toNat):=by intro z hz;refine⟨hz,λhk=>?_⟩;have:=h.br z.1 (b9 hz).1;unfold Ij at this;omega
  have key:∀(xs:fc)(s:fb),s.length=b.Buses.toNat->Lab (Cn b p) s->Lab (Cn b p) (xs.foldl (λs _=>Ch (b.Breakers.zip p.Closed) s) s):=by
   intro xs;induction xs with
   |nil=>intro s _ h;exact h
   |cons x xs ih=>intro s hl h;exact ih _ (by rw[Gu];exact hl) (Rc _ s hl hz h)
  refine key _ _ (by simp[Co]) ?_;intro k hk;have hk':k<b.Buses.toNat:=by simpa[Co]using hk
  rw[Ls hk'];exact .refl _ k
 have hlow:∀i j,i<b.Buses.toNat->j<b.Buses.toNat->Gn (Cn b p) j i->(groups b p).getD i 0<=(j:Int):=λi j hi hj hc=>Ajp hL _ i j hi hj (Zd hL hj hc);have hlo:=Oo h p;have hrange:∀i,i<b.Buses.toNat->0<=(groups b p).getD i 0/\((groups b p).getD i 0).toNat<b.Buses.toNat:=by grind
 constructor
 .intro e;have c1:=hlab i (by omega);have c2:=hlab j (by omega);rw[e]at c1;exact c1.symm.trans c2
 .intro hc;have r1:=hrange i hi;have r2:=hrange j hj;have c1:=hlab i (by omega);have c2:=hlab j (by omega);have l1:=hlow j _ hj r1.2 (c1.trans hc);have l2:=hlow i _ hi r2.2 (c2.trans hc.symm);omega
def G4(s:fe)(z:dU×Bool):fe:=
 if(z.1.Kind=1/\z.2=true)/\(s.getD z.1.A.toNat false || s.getD z.1.B.toNat false)=true then (s.set z.1.A.toNat true).set z.1.B.toNat true else s
theorem Gi(s:fe)(z:dU×Bool):(G4 s z).length=s.length:=by unfold G4;split <;> simp
def Hi(L:Dq)(s:fe):fe:=L.foldl G4 s
theorem Mc:∀(l:Dq)(s:fe),(Hi l s).length=s.length
 | [],_=>rfl
 |z::l,s=>by show (Hi l (G4 s z)).length=_;rw[Mc l,Gi]
variable{s:fe}
theorem Azu(hi:i<s.length):(s.set m true).getD i false=(decide (m=i) || s.getD i false):=by grind
theorem Lq(hi:i<s.length):(G4 s z).getD i false=true↔s.getD i false=true\/(((z.1.Kind=1/\z.2=true)/\(s.getD z.1.A.toNat false || s.getD z.1.B.toNat false)=true)/\(i=z.1.A.toNat\/i=z.1.B.toNat)):=by unfold G4;grind
def Got(L:Dq)(n:Nat)(s:fe):Prop:=∀i,i<s.length->s.getD i false=true->Gn L n i
theorem Amv(h:Got L n s)(hz:z∈L)(hr:z.1.Kind=1->z.1.A.toNat<s.length/\z.1.B.toNat<s.length):Got L n (G4 s z):=by
 intro i hi e;rw[Gi]at hi;rcases(Lq hi).1 e with e|⟨⟨⟨hk,hv⟩,ho⟩,hab⟩
 .exact h i hi e
 .obtain⟨ha,hb⟩:=hr hk;have t:Tie L z.1.A.toNat z.1.B.toNat:=⟨z,hz,hk,hv,.inl ⟨rfl,rfl⟩⟩;simp only[aE]at ho;rcases ho with ho|ho
  .have c:=h _ ha ho;rcases hab with rfl|rfl
   .exact c
   .exact c.tie t
  .have c:=h _ hb ho;rcases hab with rfl|rfl
   .exact c.tie t.symm
   .exact c
theorem Yt{L:Dq}{n m:Nat}:∀(l:Dq)(s:fe),s.length=m->(∀z,z∈l->z∈L/\(z.1.Kind=1->z.1.A.toNat<m/\z.1.B.toNat<m))->Got L n s->Got L n (Hi l s)
 | [],_,_,_,h=>h
 |z::l,s,hs,hz,h=>Yt l (G4 s z) (by rw[Gi];exact hs) (λy hy=>hz y (ak _ hy)) (Amv h (hz z ai).1 (by grind))
theorem Qz:∀(l:Dq)(s:fe){i:Nat},i<s.length->s.getD i false=true->(Hi l s).getD i false=true
 | [],_,_,_,h=>h
 |z::l,s,_,hi,h=>Qz l (G4 s z) (by rw[Gi];exact hi) ((Lq hi).2 (.inl h))
theorem Ys:∀(l:Dq)(s:fe){z:dU×Bool},z∈l->z.1.Kind=1->z.2=true->z.1.A.toNat<s.length->z.1.B.toNat<s.length->(s.getD z.1.A.toNat false || s.getD z.1.B.toNat false)=true->∀i,i=z.1.A.toNat\/i=z.1.B.toNat->(Hi l s).getD i false=true
 | [],_,_,h,_,_,_,_,_,_,_=>by cases h
 | y::l,s,z,hz,hk,hv,ha,hb,ho,i,hi=>by
  show (Hi l (G4 s y)).getD i false=true;have hil:i<s.length:=by rcases hi with rfl|rfl <;> assumption
  by_cases e:z=y
  .subst e;exact Qz l _ (by rw[Gi];exact hil) ((Lq hil).2 (.inr ⟨⟨⟨hk,hv⟩,ho⟩,hi⟩))
  .have hz':z∈l:=by
    grind
   refine Ys l (G4 s y) hz' hk hv (by rw[Gi];exact ha) (by rw[Gi];exact hb) ?_ i hi;simp only[aE]at ho ⊢;exact ho.imp (λe=>(Lq ha).2 (.inl e)) (λe=>(Lq hb).2 (.inl e))
def Lr(L:Dq)(r:Nat)(s:fe):fe:=(List.range r).foldl (λs _=>Hi L s) s
theorem Lb(L:Dq)(r:Nat)(s:fe):Lr L (r+1) s=Hi L (Lr L r s):=by unfold Lr;rw[cq,aN];rfl
theorem Ik(L:Dq)(s:fe):∀r,(Lr L r s).length=s.length
 |0=>rfl
 |r+1=>by rw[Lb,Mc,Ik L s r]
theorem Ai4(hL:Zu L m)(hs:s.length=m)(hn:s.getD n false=true):∀r i,i<m->Dk L n r i->(Lr L r s).getD i false=true:=by
 intro r;induction r with
 |zero=>intro i _ h;cases h;exact hn
 | succ r ih=>
  intro i hi h;rw[Lb];have hl:=Ik L s r;cases h with
  |stay h=>exact Qz L _ (by omega) (ih i hi h)
  |step h t=>rename_i k;have hk:=hL _ _ t;have h1:=ih k hk.1 h;obtain⟨z,hz,hz1,hz2,he⟩:=t;refine Ys L _ hz hz1 hz2 (by omega) (by omega) ?_ i (by omega);grind
def J1(b:c_)(p:dZ)(n:Nat):fb:=((List.range b.Buses.toNat).filter λi=>(groups b p).getD i 0==(groups b p).getD n 0).map λ(i:Nat)=>(i:Int)
theorem Aqy(h:Ad b)(hp:Aa b p)(hn:n<b.Buses.toNat):Alh b p (n:Int)=some (J1 b p n):=by
 have hbu:=h.buses;have hbl:=h.brl;have hncl:=hp.ncl;have hL:=qD h p;refine de ?_;unfold Alh;refine(Ok.mkI (by omega) (by omega)).bind λy hy=>?_;have hyl:y.length=b.Buses.toNat:=by rw[hy];simp
 refine(dm (by omega)).bind λ_ _=>(da (by omega)).bind λz hz=>?_;rw[aq]at hz;have hzl:z.length=b.Buses.toNat:=by rw[hz];simpa using hyl
 have hzn:z.getD n false=true:=by rw[hz];simp[List.getD,hyl,hn]
 have hzg:Got (Cn b p) n z:=by
  intro i hi e;have hiy:i<y.length:=by omega
  rw[hz,Azu hiy]at e;simp only[aE,dF]at e;rcases e with e|e
  .subst e;exact .refl _ _
  .rw[hy]at e;simp[List.getD,show i<b.Buses.toNat by omega]at e
 clear hz;refine eI (A:=λs=>s=Lr (Cn b p) b.Buses.toNat z) (B:=λ(_:Unit)=>False) ?_ (λs hs=>?_) eN
 .refine c8 (I:=λj s=>s=Lr (Cn b p) j z) rfl (λj x s hx hs=>?_) λs hs=>by rw[hs,hzl]
  unfold Aif;have hsl:s.length=b.Buses.toNat:=by rw[hs,Ik,hzl]
  refine(c8 (I:=λk r=>r=Hi ((Cn b p).take k) s) (A:=λr=>r=Hi (Cn b p) s) (B:=λ(_:Unit)=>False) rfl (λk u r hu hr=>?_) λr hr=>?_).inner (λr hr=>c7 (by rw[hr,hs,Lb])) eN
  .have hk:=(ab.1 hu).1;have hcnt:cnt 0 k=(k:Int):=Bf;have hrl:r.length=b.Buses.toNat:=by rw[hr,Mc,hsl]
   obtain⟨⟨a0,a1⟩,hkind⟩:=h.br u (ae hu);obtain⟨v,hv⟩:∃v,p.Closed[k]?=some v:=⟨_,af (by omega)⟩;have hzk:(Cn b p)[k]?=some (u,v):=by unfold Cn;rw[List.getElem?_zip_eq_some];exact⟨hu,hv⟩
   have hnext:Hi ((Cn b p).take (k+1)) s=G4 r (u,v):=by rw[An hzk,Hi,aN,hr];rfl
   rw[hnext];have hB:u.Kind=1->0<=u.B/\u.B<b.Buses:=λe=>by omega
   unfold Aie;rw[hcnt,Al hv];by_cases k1:u.Kind=1
   .have h2:=hB k1;obtain⟨ga,hga⟩:∃ga,r[u.A.toNat]?=some ga:=⟨_,af (by omega)⟩;obtain⟨gb,hgb⟩:∃gb,r[u.B.toNat]?=some gb:=⟨_,af (by omega)⟩;have hda:r.getD u.A.toNat false=ga:=by simp[List.getD,hga]
    have hdb:r.getD u.B.toNat false=gb:=by simp[List.getD,hgb]
    have ea:getI r u.A=some ga:=by have:=Al hga;rwa [ba a0]at this
    have eb:getI r u.B=some gb:=by have:=Al hgb;rwa [ba h2.1]at this
    rw[dH.2 k1];refine eJ (P:=λw=>w=v) (c9 (λ_=>eK rfl) λhn=>(hn ⟨rfl,trivial⟩).elim) λw hw=>?_;subst hw;cases w with
    |false=>refine eJ (P:=λ_=>True) (di (λ_=>dm a0) λ_=>trivial) λ_ _=>?_;refine eJ (P:=λ_=>True) (di (λ_=>dm h2.1) λ_=>trivial) λ_ _=>?_;refine c6 (λhq=>by simp[Ua]at hq) (λ_=>c7 ?_);unfold G4;rw[eU (by simp)]
    | true=>
     rw[ea,eb];refine eJ (P:=λw=>w=ga) (c9 (λ_=>eK rfl) λhn=>(hn ⟨rfl,trivial⟩).elim) λw hw=>?_;subst hw;refine eJ (P:=λx=>(w || x)=(w || gb)) (c9 (λ_=>eK rfl) λhn=>?_) λx hx=>?_
     .cases w with
      |true=>rfl
      |false=>exact(hn ⟨rfl,rfl,trivial⟩).elim
     have hc8:Ua u true w x=(w || gb):=by unfold Ua;rw[hx,dH.2 k1];rfl
     rw[hc8];refine c6 (λhq=>?_) (λhq=>c7 ?_)
     .refine eJ (P:=λ_=>True) (dk rfl) λ_ _=>(da a0).bind λr1 e1=>?_;refine(dm h2.1 (by rw[e1];simp;omega)).bind λ_ _=>(da h2.1 (by rw[e1];simp;omega)).bind λr2 e2=>c7 ?_;rw[e2,e1];unfold G4;rw[eT ⟨⟨k1,rfl⟩,by rw[hda,hdb];exact hq⟩]
     .unfold G4;rw[eU (λe=>by have:=e.2;rw[hda,hdb,hq]at this;cases this)]
   .have k0:(u.Kind==1)=false:=dJ.2 k1;rw[k0];refine eJ (P:=λ_=>True) (c9 (λhg=>absurd hg.1 (by simp)) λ_=>trivial) λy7 _=>?_;refine eJ (P:=λ_=>True) (c9 (λhg=>absurd hg.1 (by simp)) λ_=>trivial) λy9 _=>?_;refine eJ (P:=λ_=>True) (c9 (λhg=>absurd hg.1 (by simp)) λ_=>trivial) λy11 _=>?_;refine c6 (λhq=>by simp[Ua,k0]at hq) (λ_=>c7 ?_);unfold G4;rw[eU (λe=>k1 e.1.1)]
  .have:b.Breakers.length=(Cn b p).length:=by unfold Cn;rw[List.length_zip];omega
   rw[hr,this,am]
 .have hsl:s.length=b.Buses.toNat:=by rw[hs,Ik,hzl]
  have hval:∀i,i<b.Buses.toNat->s.getD i false=((groups b p).getD i 0==(groups b p).getD n 0):=by
   intro i hi;rw[aU,dH,Mp h p hi hn];have hg:∀r,Got (Cn b p) n (Lr (Cn b p) r z):=by
    intro r;induction r with
    |zero=>exact hzg
    |succ r ih=>rw[Lb];refine Yt (m:=b.Buses.toNat) _ _ (by rw[Ik,hzl]) (λy hy=>⟨hy,λhk=>?_⟩) ih;have:=h.br y.1 (b9 hy).1;unfold Ij at this;omega
   constructor
   .intro e;rw[hs]at e;exact(hg _ i (by rw[Ik,hzl];exact hi) e).symm
   .intro c;rw[hs];exact Ai4 hL hzl hzn _ i hi (Zd hL hn c.symm)
  refine eI (A:=λy=>y=J1 b p n) (B:=λ(_:Unit)=>False) ?_ (λy hy=>eK hy) eN;refine c8 (I:=λj y=>y=((List.range j).filter λi=>(groups b p).getD i 0==(groups b p).getD n 0).map λ(i:Nat)=>(i:Int)) rfl (λj x y hx hy=>?_) λy hy=>?_
  .have hj:=(ab.1 hx).1;have hcnt:cnt 0 j=(j:Int):=Bf;have hv:=hval j (by omega);have hxd:s.getD j false=x:=by simp[List.getD,hx]
   rw[hxd]at hv;have hyl2:y.length<=j:=by rw[hy];exact Dd _ j
   rw[Gx,←hy];unfold Aid;refine c6 (λhq=>?_) (λhq=>c7 ?_)
   .refine(d8 (by simp;omega)).bind λw hw=>c7 ?_;rw[hw,hcnt,eT (by rw[←hv];exact hq)]
   .rw[eU (by rw[←hv,hq];simp),aB]
  .rw[hy,hsl];rfl
def ofZ(b:c_)(k i:Int):List (dU×Nat):=b.Breakers.zipIdx.filter λz=>z.1.Kind==k&&z.1.B==i
theorem Ajd(hk:k≠1)(i:Int):(ofL b λx=>Gr k i x)=(ofZ b k i).map λz=>(z.2:Int):=by unfold ofL ofZ;congr 1;exact bX λz _=>Xf k hk i z.1
variable{i:Int}{z:dU×Nat}
theorem Pp(h:z∈ofZ b k i):b.Breakers[z.2]?=some z.1:=by have:=(ar.1 h).1;grind
theorem Aa5(q:dU->Bool)(C:fe):∀(l:List dU)(c:fe)(k:Nat),C.drop k=c->l.length=c.length ->
  (((l.zipIdx k).filter λz=>q z.1).find? λz=>C.getD z.2 false).map (·.1)=((l.zip c).find? λz=>q z.1&&z.2).map (·.1)
 | [],_,_,_,_=>by simp
 |x::l,[],_,_,h=>by simp at h
 | x::l,v::c,k,hd,h=>by
  have hv:C[k]?=some v:=by have:=congrArg (·[0]?) hd;simpa[List.getElem?_drop]using this
  have hd':C.drop (k+1)=c:=by rw[←bL,hd];rfl
  have ih:=Aa5 q C l c (k+1) hd' (by simpa using h);have hg:C.getD k false=v:=by simp[List.getD,hv]
  simp only[List.zipIdx_cons,bt,bN,cR];grind
theorem Td(hc:p.Closed.length=b.Breakers.length)(k i:Int):Dz b p k i=((ofZ b k i).find? λz=>p.Closed.getD z.2 false).map (·.1.A):=by have:=Aa5 (λx=>x.Kind==k&&x.B==i) p.Closed b.Breakers p.Closed 0 rfl (by omega);unfold Dz ofZ;have h2:=congrArg (Option.map (·.A)) this;simp only[Option.map_map]at h2;exact h2.symm
theorem Ze(hc:p.Closed.length=b.Breakers.length)(h:z∈ofZ b k i):p.Closed[z.2]?=some (p.Closed.getD z.2 false):=by have:=(ab.1 (Pp h)).1;grind
theorem Gd(h:Ad b)(hp:Aa b p)(i:Int):R_ b p i=some (Cd (Cy b p i)):=by
 have hn:=hp.nso;have hc:=hp.ncl;refine de ?_;unfold R_;rw[Bi h hp];simp only[aa];by_cases hi:0<=i/\i<b.Sources.length
 .obtain⟨x,hx⟩:∃x,p.Sources[i.toNat]?=some x:=⟨_,af (by omega)⟩;have hg:getI p.Sources i=some x:=by have:=Al hx;rwa [ba hi.1]at this
  have hd:p.Sources.getD i.toNat default=x:=by simp[List.getD,hx]
  have hcond:((((0:Int) != 0) || (decide (i<0))) || (decide (i>=(b.Sources.length:Int))))=false:=by rw[bZ];intro e;simp at e;omega
  rw[hcond,hg];refine eJ (P:=λy=>y=x) (c9 (λ_=>eK rfl) λhn=>(hn ⟨rfl,trivial⟩).elim) λy hy=>?_;subst hy;refine c6 (λhq=>eK ?_) (λhq=>?_)
  .simp only[Zo,hcond,aO,dR,ne_eq]at hq;unfold Cy;rw[eU (λe=>by rw[hd]at e;exact hq e.2.2)];rfl
  .simp only[Zo,hcond,aO,dM]at hq;have hcon:Cy b p i=Dz b p 2 i:=by
    unfold Cy;rw[eT ⟨hi.1,by omega,by rw[hd];exact hq⟩]
   rw[S7 h,Ajd (by decide),hcon,Td hc];simp only[aa];obtain⟨n,rfl⟩:∃n:Nat,i=(n:Int):=⟨i.toNat,by omega⟩;have hlen:=M3 (b:=b) (k:=2) (by decide) n;rw[Ajd (by decide),h.one n (by omega),au]at hlen;obtain⟨z,hz⟩:=List.length_eq_one_iff.1 hlen;have hzm:z∈ofZ b 2 (n:Int):=by rw[hz];exact ai
   have hcz:=Ze hc hzm;have hbz:=Pp hzm;rw[hz];show Ok ((getI [(z.2:Int)] 0).bind _) _;rw[show getI [(z.2:Int)] 0=some (z.2:Int) from rfl];simp only[aa,Al hcz,cR,List.find?_nil];cases hv:p.Closed.getD z.2 false with
   |false=>exact eK rfl
   |true=>simp only[aC,eQ,Al hbz,aa];exact eK rfl
 .refine eJ (P:=λ_=>True) (c9 (λhg=>?_) λ_=>trivial) λy _=>?_
  .have:=hg.1;simp at this;omega
  refine c6 (λhq=>eK ?_) (λhq=>?_)
  .unfold Cy;rw[eU (λe=>hi (by omega))];rfl
  .simp[Zo]at hq;omega
theorem Xq(h:Ad b)(hp:Aa b p)(h0:0<=i)(h1:i<b.Consumers.length):vG b p i=some (Cd (Dz b p 3 i)):=by
 have hc:=hp.ncl;refine de ?_;unfold vG;rw[Bi h hp];simp only[aa];refine c6 (λhq=>?_) (λ_=>?_)
 .simp[Aoq]at hq;omega
 rw[S7 h,Ajd (by decide),Td hc];simp only[aa];have key:∀(m:List (dU×Nat))(k:Nat),(∀z,z∈m->b.Breakers[z.2]?=some z.1/\p.Closed[z.2]?=some (p.Closed.getD z.2 false)) ->
   foldI (vF b p) (m.map λz=>(z.2:Int)) k ()=match m.find? λz=>p.Closed.getD z.2 false with
    |some z=>some (.ret (z.1.A,true))
    |none=>some (.next ()):=by
  intro m;induction m with
  |nil=>intro k _;rfl
  |cons z m ih=>intro k hm;obtain⟨e1,e2⟩:=hm z ai;simp only[bo,foldI,vF,Al e1,Al e2,aa,cR];grind
 rw[key _ 0 λz hz=>⟨Pp hz,Ze hc hz⟩];cases (ofZ b 3 i).find? λz=>p.Closed.getD z.2 false with
 |none=>exact eK rfl
 |some z=>exact eK rfl
theorem Tg(l:fb)(x:Int):K6 l x=some (l.any (· == x)):=by
 unfold K6;have:∀(l:fb)(k:Nat),foldI (vC x) l k ()=bif l.any (· == x)then some (.ret true) else some (.next ()):=by
  intro l;induction l with
  |nil=>intro k;rfl
  |cons y l ih=>grind[foldI,vC]
 grind[andThen]
theorem Abc(h0:0<=a)(h1:a<b.Buses):(J1 b p n).any (· == a)=((groups b p).getD a.toNat 0==(groups b p).getD n 0):=by
 rw[aU,bv];constructor
 .rintro⟨x,hx,e⟩;rw[dH]at e;subst e;obtain⟨i,hi,rfl⟩:=an.1 hx;grind
 .intro e;refine⟨a,an.2 ⟨a.toNat,ar.2 ⟨aV.2 (by omega),e⟩,by omega⟩,by simp⟩
theorem Jo(h:Ad b)(p:dZ)(hn:n<b.Buses.toNat):0<=(groups b p).getD n 0/\((groups b p).getD n 0).toNat<=n/\(((groups b p).getD n 0).toNat:Int)=(groups b p).getD n 0:=by have:=Oo h p n _ (Axa (by rw[Hn];exact hn));omega
theorem Il(h:Ad b)(hp:Aa b p)(hn:n<b.Buses.toNat):Ii b p (n:Int)=some (isl b p ((groups b p).getD n 0).toNat,true):=by
 have hso:=h.sol;have hco:=h.col;have hg:=Jo h p hn;refine de ?_;unfold Ii;rw[Bi h hp];simp only[aa];refine c6 (λhc=>?_) (λ_=>?_)
 .simp[Zp]at hc;omega
 rw[Aqy h hp hn];simp only[aa];refine eI (A:=λs=>s.2=E8 b p b.Sources.length ((groups b p).getD n 0).toNat) (B:=λ(_:Unit)=>False) ?_ (λs hs=>?_) eN
 .refine d6 (λs=>(0<=s.1/\s.1<=(b.Sources.length:Int))/\s.2=E8 b p s.1.toNat ((groups b p).getD n 0).toNat) (λs=>((b.Sources.length:Int)-s.1).toNat) _ _ ?_ ?_ ?_
  .exact⟨by dsimp only;omega,rfl⟩
  .dsimp only;omega
  .rintro⟨i,s⟩ ⟨⟨g1,g2⟩,g3⟩;dsimp only at g1 g2 g3;unfold Aip Aox;dsimp only;have hsl:s.length<=i.toNat:=by rw[g3];exact Dd _ _
   refine c6 (λhq=>?_) (λhq=>db ?_)
   .simp only[dF]at hq;have e1:w64 (i+1)=i+1:=Ah;have e2:(i+1).toNat=i.toNat+1:=by omega
    have e3:((i.toNat:Nat):Int)=i:=by omega
    rw[e1,Gd h hp];simp only[aa,Tg];have hnext:E8 b p (i.toNat+1) ((groups b p).getD n 0).toNat=s++if(Ff b p (Cy b p i)==some (((groups b p).getD n 0).toNat:Int))=true then [i] else []:=by unfold E8 at g3 ⊢;rw[Gx,←g3,e3]
    have hskip:(Ff b p (Cy b p i)==some (((groups b p).getD n 0).toNat:Int))=false->Ok (some (.next (i+1,s)):Option (Ctl (Int×fb) Unit)) (Hu (λs'=>((0<=s'.1/\s'.1<=(b.Sources.length:Int))/\s'.2=E8 b p s'.1.toNat ((groups b p).getD n 0).toNat)/\((b.Sources.length:Int)-s'.1).toNat<((b.Sources.length:Int)-i).toNat) (λs=>s.2=E8 b p b.Sources.length ((groups b p).getD n 0).toNat) (λ_=>False)):=by intro hf;refine c7 ⟨⟨by dsimp only;omega,?_⟩,by dsimp only;omega⟩;dsimp only;rw[e2,hnext,hf];simp
    cases hco:Cy b p i with
    |none=>refine eJ (P:=λ_=>True) (c9 (λhg=>absurd hg.1 (by simp[Cd])) λ_=>trivial) λy _=>?_;refine c6 (λhq=>by simp[Cd]at hq) (λ_=>hskip (by rw[hco];rfl))
    | some a=>
     have ha:=Nv h hco;refine eJ (P:=λy=>y=(J1 b p n).any (· == a)) (c9 (λ_=>eK rfl) λhn=>(hn ⟨rfl,trivial⟩).elim) λy hy=>?_;rw[Abc ha.1 ha.2]at hy;have hgr:(Ff b p (Cy b p i)==some (((groups b p).getD n 0).toNat:Int))=((groups b p).getD a.toNat 0==(groups b p).getD n 0):=by rw[hco,hg.2.2];rfl
     refine c6 (λhq=>?_) (λhq=>?_)
     .simp only[Cd,aZ]at hq;refine(d8 (by simp;omega)).bind λw hw=>c7 ⟨⟨by dsimp only;omega,?_⟩,by dsimp only;omega⟩;dsimp only;rw[e2,hnext,hgr,←hy,hq,hw];rfl
     .simp only[Cd,aZ]at hq;exact hskip (by rw[hgr,←hy,hq])
   .simp only[dG]at hq;dsimp only;rw[g3];have:i.toNat=b.Sources.length:=by omega
    rw[this]
 .refine eI (A:=λs=>s.2=D8 b p b.Consumers.length ((groups b p).getD n 0).toNat) (B:=λ(_:Unit)=>False) ?_ (λt ht=>eK ?_) eN
  .refine d6 (λs=>(0<=s.1/\s.1<=(b.Consumers.length:Int))/\s.2=D8 b p s.1.toNat ((groups b p).getD n 0).toNat) (λs=>((b.Consumers.length:Int)-s.1).toNat) _ _ ?_ ?_ ?_
   .exact⟨by dsimp only;omega,rfl⟩
   .dsimp only;omega
   .rintro⟨i,s⟩ ⟨⟨g1,g2⟩,g3⟩;dsimp only at g1 g2 g3;unfold Aio Aow;dsimp only;have hsl:s.length<=i.toNat:=by rw[g3];exact Dd _ _
    refine c6 (λhq=>?_) (λhq=>db ?_)
    .simp only[dF]at hq;have e1:w64 (i+1)=i+1:=Ah;have e2:(i+1).toNat=i.toNat+1:=by omega
     have e3:((i.toNat:Nat):Int)=i:=by omega
     rw[e1,Xq h hp g1 hq];simp only[aa,Tg];have hnext:D8 b p (i.toNat+1) ((groups b p).getD n 0).toNat=s++if(Ff b p (Dz b p 3 i)==some (((groups b p).getD n 0).toNat:Int))=true then [i] else []:=by unfold D8 at g3 ⊢;rw[Gx,←g3,e3]
     have hskip:(Ff b p (Dz b p 3 i)==some (((groups b p).getD n 0).toNat:Int))=false->Ok (some (.next (i+1,s)):Option (Ctl (Int×fb) Unit)) (Hu (λs'=>((0<=s'.1/\s'.1<=(b.Consumers.length:Int))/\s'.2=D8 b p s'.1.toNat ((groups b p).getD n 0).toNat)/\((b.Consumers.length:Int)-s'.1).toNat<((b.Consumers.length:Int)-i).toNat) (λs=>s.2=D8 b p b.Consumers.length ((groups b p).getD n 0).toNat) (λ_=>False)):=by intro hf;refine c7 ⟨⟨by dsimp only;omega,?_⟩,by dsimp only;omega⟩;dsimp only;rw[e2,hnext,hf];simp
     cases hco:Dz b p 3 i with
     |none=>refine eJ (P:=λ_=>True) (c9 (λhg=>absurd hg.1 (by simp[Cd])) λ_=>trivial) λy _=>?_;refine c6 (λhq=>by simp[Cd]at hq) (λ_=>hskip (by rw[hco];rfl))
     | some a=>
      have ha:=Nj h hco;refine eJ (P:=λy=>y=(J1 b p n).any (· == a)) (c9 (λ_=>eK rfl) λhn=>(hn ⟨rfl,trivial⟩).elim) λy hy=>?_;rw[Abc ha.1 ha.2]at hy;have hgr:(Ff b p (Dz b p 3 i)==some (((groups b p).getD n 0).toNat:Int))=((groups b p).getD a.toNat 0==(groups b p).getD n 0):=by rw[hco,hg.2.2];rfl
      refine c6 (λhq=>?_) (λhq=>?_)
      .simp only[Cd,aZ]at hq;refine(d8 (by simp;omega)).bind λw hw=>c7 ⟨⟨by dsimp only;omega,?_⟩,by dsimp only;omega⟩;dsimp only;rw[e2,hnext,hgr,←hy,hq,hw];rfl
      .simp only[Cd,aZ]at hq;exact hskip (by rw[hgr,←hy,hq])
    .simp only[dG]at hq;dsimp only;rw[g3];have:i.toNat=b.Consumers.length:=by omega
     rw[this]
  .rw[hs,ht];unfold isl D9 J1;rw[hg.2.2]
def H9(b:c_)(p:dZ)(f:Nat):Bool:=(groups b p).getD f 0==(f:Int)
theorem Kz(h:Ad b)(p:dZ)(hn:n<b.Buses.toNat):H9 b p ((groups b p).getD n 0).toNat=true:=by
 have hg:=Jo h p hn;unfold H9;rw[dH,hg.2.2];have hm:((groups b p).getD n 0).toNat<b.Buses.toNat:=by omega
 have hL:=qD h p;have hself:Gn (Cn b p) ((groups b p).getD n 0).toNat n:=by
  have hlab:∀(xs:fc)(s:fb),s.length=b.Buses.toNat->Lab (Cn b p) s->Lab (Cn b p) (xs.foldl (λs _=>Ch (b.Breakers.zip p.Closed) s) s):=by
   intro xs;induction xs with
   |nil=>intro s _ h;exact h
   |cons x xs ih=>intro s hl h2;refine ih _ (by rw[Gu];exact hl) (Rc _ s hl (λz hz=>⟨hz,λhk=>?_⟩) h2);have:=h.br z.1 (b9 hz).1;unfold Ij at this;omega
  refine hlab (List.range b.Buses.toNat) (Co b.Buses.toNat) (by simp[Co]) ?_ n ?_
  .intro k hk;rw[Ls (by simpa[Co]using hk)];exact .refl _ k
  .have:=Hn b p;unfold groups at this;rw[this];exact hn
 exact(Mp h p hm hn).2 hself
theorem Ar5(h:Ad b)(p:dZ)(hf:f<b.Buses.toNat):Iw (isl b p f)=H9 b p f:=by
 rw[aU];unfold Iw isl D9;simp only[aS,dJ,ne_eq,au];constructor
 .intro e;have hne:(List.range b.Buses.toNat).filter (λi=>(groups b p).getD i 0==(f:Int))≠[]:=λe2=>e (by rw[e2];rfl);obtain⟨i,hi⟩:=List.exists_mem_of_ne_nil _ hne;obtain⟨h1,h2⟩:=ar.1 hi;rw[dH]at h2;have:=Kz h p (aV.1 h1);grind
 .intro e e2;have hm:f∈(List.range b.Buses.toNat).filter (λi=>(groups b p).getD i 0==(f:Int)):=ar.2 ⟨aV.2 hf,e⟩;grind
def Ld(b:c_)(p:dZ)(n:Nat):fc:=(List.range n).filter (H9 b p)
theorem Hk(h:Ad b)(p:dZ):Am b p=(Ld b p b.Buses.toNat).map (isl b p):=by unfold Am Ld;rw[List.filter_map];congr 1;exact bX λf hf=>Ar5 h p (aV.1 hf)
theorem Amr(h:Ad b)(p:dZ)(hn:n<b.Buses.toNat):∃m:Nat,(J1 b p n)[0]?=some (m:Int)/\(m=n↔H9 b p n=true):=by
 have hg:=Jo h p hn;have hm:((groups b p).getD n 0).toNat<b.Buses.toNat:=by omega
 have hgg:=Kz h p hn;unfold H9 at hgg;rw[dH,hg.2.2]at hgg;have hfind:(List.range b.Buses.toNat).find? (λi=>(groups b p).getD i 0==(groups b p).getD n 0)=some ((groups b p).getD n 0).toNat:=by rw[List.find?_range_eq_some];refine⟨by rw[dH];exact hgg,aV.2 hm,λj hj=>?_⟩;simp only[aS,dJ,ne_eq];intro e;have:=Jo h p (n:=j) (by omega);omega
 refine⟨((groups b p).getD n 0).toNat,?_,?_⟩
 .unfold J1;rw[aD,←List.head?_eq_getElem?,List.head?_filter,hfind];rfl
 .unfold H9;rw[dH];omega
theorem Nl(h:Ad b)(hp:Aa b p):Vi b p=some (Am b p):=by
 have hbu:=h.buses;rw[Hk h];refine de ?_;unfold Vi;rw[Bi h hp];simp only[aa];refine c6 (λhc=>by simp at hc) (λ_=>?_);refine eI (A:=λs=>s.2=(Ld b p b.Buses.toNat).map (isl b p)) (B:=λ(_:Unit)=>False) ?_ (λs hs=>eK hs) eN;refine d6 (λs=>(0<=s.1/\s.1<=b.Buses)/\s.2=(Ld b p s.1.toNat).map (isl b p)) (λs=>(b.Buses-s.1).toNat) _ _ ?_ ?_ ?_
 .exact⟨by dsimp only;omega,rfl⟩
 .dsimp only;omega
 .rintro⟨i,s⟩ ⟨⟨g1,g2⟩,g3⟩;dsimp only at g1 g2 g3;unfold Ain;dsimp only;refine c6 (λhq=>?_) (λhq=>db ?_)
  .simp only[dF]at hq;obtain⟨n,rfl⟩:∃n:Nat,i=(n:Int):=⟨i.toNat,by omega⟩;have hn:n<b.Buses.toNat:=by omega
   have e1:w64 ((n:Int)+1)=(n:Int)+1:=Ah;have e2:((n:Int)+1).toNat=n+1:=by omega
   have hg:=Jo h p hn;obtain⟨m,hm,hmn⟩:=Amr h p hn;have hbuses:(isl b p ((groups b p).getD n 0).toNat).Buses=J1 b p n:=by unfold isl D9 J1;rw[hg.2.2]
   rw[aq]at g3;have hsl:s.length<=n:=by rw[g3,au];exact aG (bk _ _) (by simp)
   have hnext:Ld b p (n+1)=Ld b p n++if H9 b p n=true then [n] else []:=by unfold Ld;rw[cq,aX];congr 1;cases hq:H9 b p n <;> simp[hq]
   rw[e1,Il h hp hn];simp only[aa,hbuses];have hg0:getI (J1 b p n) 0=some (m:Int):=Al (j:=0) hm;rw[hg0];simp only[aa];refine c6 (λhq=>?_) (λhq=>c7 ⟨⟨by dsimp only;omega,?_⟩,by dsimp only;omega⟩)
   .simp only[dH]at hq;have hle:=hmn.1 (by omega);refine(d8 (by simp;omega)).bind λw hw=>c7 ⟨⟨by dsimp only;omega,?_⟩,by dsimp only;omega⟩;dsimp only;have hgn:((groups b p).getD n 0).toNat=n:=by
     unfold H9 at hle;rw[dH]at hle;omega
    rw[e2,hnext,eT hle,hw,g3,bh,hgn];rfl
   .simp only[dJ,ne_eq]at hq;have hle:¬H9 b p n=true:=λe=>hq (by rw[hmn.2 e]);dsimp only;rw[e2,hnext,eU hle,aB,g3]
  .simp only[dG]at hq;dsimp only;have:i.toNat=b.Buses.toNat:=by omega
   rw[g3,this]
theorem I3(h:Ad b)(hp:Aa b p):F55 b p=some (⟨p.Closed,C1 b p,p.Limits,p.Broken⟩,0):=by
 have hn:=hp.nso;refine de ?_;unfold F55;rw[Bi h hp];simp only[aa];refine c6 (λhc=>by simp at hc) (λ_=>?_);refine eJ (P:=λy=>y=⟨p.Closed,C1 b p,p.Limits,p.Broken⟩) ?_ λy hy=>eK (by rw[hy]);unfold F99;rw[Dv h hp,Nl h hp];simp only[aa];refine eI (A:=λs=>s=C1 b p) (B:=λ(_:Unit)=>False) ?_ (λs hs=>eK (by rw[hs])) eN;refine c8 (I:=λj s=>s=((Am b p).take j).foldl (C7 p) p.Sources) rfl (λj x s hx hs=>?_) λs hs=>?_
 .have hi:=Pt (ae hx);have hl:s.length=p.Sources.length:=by rw[hs,Li]
  have hnext:((Am b p).take (j+1)).foldl (C7 p) p.Sources=C7 p s x:=by rw[An hx,aN,←hs];rfl
  rw[hnext];unfold Aph;cases hsrc:x.Sources with
  |nil=>exact c7 (by unfold C7;rw[hsrc])
  | cons m l=>
   have hm:=hi m (by rw[hsrc];exact ai);obtain⟨u,hu⟩:∃u,p.Sources[m.toNat]?=some u:=⟨_,af (by omega)⟩;have hgu:getI p.Sources m=some u:=by have:=Al hu;rwa [ba hm.1]at this
   have hd:p.Sources.getD m.toNat default=u:=by simp[List.getD,hu]
   have hf:C7 p s x=Es u (m::l) s:=by unfold C7;rw[hsrc];simp only[hd]
   rw[hf];have hin:∀k,k∈m::l->0<=k/\k<p.Sources.length:=λk hk=>by grind
   refine(c8 (I:=λk r=>r=Es u ((m::l).take k) s) (A:=λr=>r=Es u (m::l) s) (B:=λ(_:Unit)=>False) rfl (λk n r hk hr=>?_) λr hr=>by rw[hr,am]).inner (λr hr=>c7 hr) eN;have hnk:=hin n (ae hk);have hrl:r.length=p.Sources.length:=by rw[hr,G0,hl]
   unfold Apg;rw[hsrc,show getI (m::l) 0=some m from rfl];simp only[aa,hgu];refine(d7 hnk.1 (by omega)).bind λv hv=>(da hnk.1).bind λr1 e1=>?_;have hvg:r1[n.toNat]?=some (⟨v.State,v.Since,u.Frequency,v.Phase⟩:ee):=by rw[e1,bH (by omega)]
   refine eJ (P:=λw=>w=(⟨v.State,v.Since,u.Frequency,v.Phase⟩:ee)) ((d7 hnk.1 (by rw[e1];simp;omega)).mono λw hw=>by rw[hvg]at hw;cases hw;rfl) λw hw=>?_;refine(da hnk.1 (by rw[e1];simp;omega)).bind λr2 e2=>c7 ?_;have hdv:r.getD n.toNat default=v:=by simp[List.getD,hv]
   rw[Su hk,←hr,hdv,e2,e1,hw,List.set_set];rfl
 .rw[am]at hs;exact hs
theorem Aqs(h:n<ss.length):ss.set n (ss.getD n default)=ss:=by
 apply bj;intro i;rw[aK];split
 .rename_i e;subst e;simp[List.getD,List.getElem?_eq_getElem h]
 .rfl
theorem yD{By:ee}:∀(idx:fb)(ss:List ee),(∀i,i∈idx->i.toNat<ss.length/\Xa By (ss.getD i.toNat default)=ss.getD i.toNat default)->Es By idx ss=ss
 | [],_,_=>rfl
 |i::idx,ss,h=>by obtain⟨h1,h2⟩:=h i ai;show Es By idx (ss.set i.toNat (Xa By (ss.getD i.toNat default)))=ss;rw[h2,Aqs h1];exact yD idx ss λj hj=>h j (ak _ hj)
theorem Xo{y:ee}:(ss.set m y).getD n default=if m=n/\m<ss.length then y else ss.getD n default:=by
 unfold List.getD;rw[aK];by_cases e:m=n
 .subst e;by_cases hl:m<ss.length
  .simp[hl]
  .simp[hl]
 .simp[e]
theorem Yo(By:ee):∀(idx:fb)(ss:List ee)(n:Nat),((Es By idx ss).getD n default).State=(ss.getD n default).State
 | [],_,_=>rfl
 |i::idx,ss,n=>by
  show ((Es By idx _).getD n default).State=_;rw[Yo By idx,Xo];split
  .rename_i e;rw[←e.1];rfl
  .rfl
theorem Xd{By:ee}:∀(idx:fb)(ss:List ee){n:Nat},(∀i,i∈idx->i.toNat≠n)->(Es By idx ss).getD n default=ss.getD n default
 | [],_,_,_=>rfl
 |i::idx,ss,n,h=>by show (Es By idx _).getD n default=_;rw[Xd idx _ (λj hj=>h j (ak _ hj)),Xo,eU (λe=>h i ai e.1)]
theorem Ag4{By:ee}:∀(idx:fb)(ss:List ee){n:Nat},n<ss.length->(∃i,i∈idx/\i.toNat=n)->((Es By idx ss).getD n default).Frequency=By.Frequency/\((Es By idx ss).getD n default).Phase=By.Phase
 | [],_,_,_,h=>by obtain⟨_,h,_⟩:=h;cases h
 | i::idx,ss,n,hn,h=>by
  by_cases hr:∃j,j∈idx/\j.toNat=n
  .exact Ag4 idx _ (by simpa using hn) hr
  .have hi:i.toNat=n:=by
    obtain⟨j,hj,e⟩:=h;rcases ah.1 hj with rfl|hj
    .exact e
    .exact absurd ⟨j,hj,e⟩ hr
   have:(Es By (i::idx) ss).getD n default=Xa By (ss.getD i.toNat default):=by show (Es By idx _).getD n default=_;rw[Xd idx _ (λj hj e=>hr ⟨j,hj,e⟩),Xo,eT ⟨hi,by omega⟩]
   rw[this];exact⟨rfl,rfl⟩
def Af0(b:c_)(p:dZ):Prop:=∀x,x∈Am b p->∀i j,i∈x.Sources->j∈x.Sources ->
 (p.Sources.getD i.toNat default).Frequency=(p.Sources.getD j.toNat default).Frequency/\(p.Sources.getD i.toNat default).Phase=(p.Sources.getD j.toNat default).Phase
theorem Ab6(hn:p.Sources.length=b.Sources.length)(h:Af0 b p):C1 b p=p.Sources:=by
 have key:∀l:List Ae,(∀x,x∈l->x∈Am b p)->l.foldl (C7 p) p.Sources=p.Sources:=by
  intro l;induction l with
  |nil=>intro _;rfl
  | cons x l ih=>
   intro hl;have hx:=hl x ai;have hst:C7 p p.Sources x=p.Sources:=by
    unfold C7;split
    .rfl
    .rename_i i r e;refine yD _ _ λj hj=>?_;have hj2:=Pt hx j hj;have ha:=h x hx i j (by rw[e];exact ai) hj;refine⟨by omega,?_⟩;unfold Xa;rw[ha.1,ha.2]
   rw[bx,hst];exact ih λy hy=>hl y (ak _ hy)
 exact key _ λ_ hx=>hx
theorem Agc(p:dZ)(s:List ee)(x:Ae)(n:Nat):((C7 p s x).getD n default).State=(s.getD n default).State:=by
 unfold C7;split
 .rfl
 .exact Yo _ _ _ _
theorem Aab(b:c_)(p:dZ)(n:Nat):((C1 b p).getD n default).State=(p.Sources.getD n default).State:=by
 have key:∀(l:List Ae)(s:List ee),((l.foldl (C7 p) s).getD n default).State=(s.getD n default).State:=by
  intro l;induction l with
  |nil=>intro s;rfl
  |cons x l ih=>intro s;rw[bx,ih,Agc]
 exact key _ _
theorem zZ{q:dZ}(hc:q.Closed=p.Closed)(hl:q.Sources.length=p.Sources.length)(hs:∀n:Nat,(q.Sources.getD n default).State=(p.Sources.getD n default).State):Am b q=Am b p:=by
 have hled:∀k i,Dz b q k i=Dz b p k i:=λk i=>by unfold Dz;rw[hc]
 have hgr:groups b q=groups b p:=by unfold groups;rw[hc]
 have hcon:∀i,Cy b q i=Cy b p i:=λi=>by unfold Cy;rw[hled,hl,hs]
 have hgo:∀o,Ff b q o=Ff b p o:=λo=>by unfold Ff;rw[hgr]
 have hisl:isl b q=isl b p:=by funext f;unfold isl D9 E8 D8;simp only[hgr,hled,hcon,hgo]
 unfold Am;rw[hisl]
theorem Ph:i∈(isl b p f).Sources↔∃k:Nat,i=(k:Int)/\k<b.Sources.length/\Ff b p (Cy b p (k:Int))=some (f:Int):=by
 constructor
 .intro h;obtain⟨k,hk,e⟩:=an.1 h;obtain⟨h1,h2⟩:=ar.1 hk;exact⟨k,e.symm,aV.1 h1,by rwa [dH]at h2⟩
 .rintro⟨k,e,h1,h2⟩;exact an.2 ⟨k,ar.2 ⟨aV.2 h1,by rw[dH];exact h2⟩,e.symm⟩
theorem Aqm{g:Nat}(hfg:f≠g){j:Int}(hi:i∈(isl b p f).Sources)(hj:j∈(isl b p g).Sources):i.toNat≠j.toNat:=by obtain⟨k,rfl,_,e1⟩:=Ph.1 hi;obtain⟨m,rfl,_,e2⟩:=Ph.1 hj;rw[aq,aq];intro e;subst e;rw[e1]at e2;have:=bI e2;exact hfg (by omega)
def Aak(b:c_)(p:dZ)(f:Nat):ee:=p.Sources.getD ((isl b p f).Sources.headD 0).toNat default
theorem Ab8{b:c_}{p:dZ}{n:Nat}:∀(fs:fc)(s:List ee),(∀f,f∈fs->∀i,i∈(isl b p f).Sources->i.toNat≠n)->((fs.map (isl b p)).foldl (C7 p) s).getD n default=s.getD n default
 | [],_,_=>rfl
 |f::fs,s,h=>by
  rw[bo,bx,Ab8 fs _ (λg hg=>h g (ak _ hg))];have hf:=h f ai;unfold C7;split
  .rfl
  .exact Xd _ _ hf
theorem qT{b:c_}{p:dZ}(hn:p.Sources.length=b.Sources.length):∀(fs:fc)(s:List ee),s.length=p.Sources.length->fs.Nodup->∀f,f∈fs->∀i,i∈(isl b p f).Sources ->
  (((fs.map (isl b p)).foldl (C7 p) s).getD i.toNat default).Frequency=(Aak b p f).Frequency/\(((fs.map (isl b p)).foldl (C7 p) s).getD i.toNat default).Phase=(Aak b p f).Phase
 | [],_,_,_,_,h,_,_=>by cases h
 | g::fs,s,hs,hnd,f,hf,i,hi=>by
  obtain⟨h1,h2⟩:=List.nodup_cons.1 hnd;rw[bo,bx];by_cases e:f=g
  .subst e;rw[Ab8 fs _ (λk hk j hj=>Aqm (λe=>h1 (by rw[←e];exact hk)) hj hi)];obtain⟨k,rfl,hk,_⟩:=Ph.1 hi;unfold C7;split
   .rename_i e;rw[e]at hi;cases hi
   .rename_i m r e;have:Aak b p f=p.Sources.getD m.toNat default:=by unfold Aak;rw[e];rfl
    rw[this];exact Ag4 _ _ (by rw[aq];omega) ⟨_,hi,rfl⟩
  .rcases ah.1 hf with h|hf
   .exact absurd h e
   .exact qT hn fs _ (by rw[Nr];exact hs) h2 f hf i hi
theorem qR(h:Ad b)(hn:p.Sources.length=b.Sources.length):Af0 b ⟨p.Closed,C1 b p,p.Limits,p.Broken⟩:=by
 have hisl:Am b ⟨p.Closed,C1 b p,p.Limits,p.Broken⟩=Am b p:=zZ rfl (G9 b p) (Aab b p);intro x hx i j hi hj;rw[hisl,Hk h]at hx;obtain⟨f,hf,rfl⟩:=an.1 hx;have hnd:(Ld b p b.Buses.toNat).Nodup:=(List.nodup_range).sublist ck;have hfl:C1 b p=((Ld b p b.Buses.toNat).map (isl b p)).foldl (C7 p) p.Sources:=by rw[←Hk h];rfl
 have e1:=qT hn _ p.Sources rfl hnd f hf i hi;have e2:=qT hn _ p.Sources rfl hnd f hf j hj;dsimp only;rw[hfl];exact⟨e1.1.trans e2.1.symm,e1.2.trans e2.2.symm⟩
def C_(b:c_)(p:dZ)(n:Nat):Bool:=decide (((isl b p ((groups b p).getD n 0).toNat).Sources.length:Int)>0)
theorem Lv(h:Ad b)(hp:Aa b p)(hn:n<b.Buses.toNat):F60 b p (n:Int)=some (C_ b p n):=by unfold F60;rw[Il h hp hn];simp[C_]
theorem Ao0(hn:n<b.Buses.toNat):(isl b p f).Buses.any ((n:Int) == ·)=((groups b p).getD n 0==(f:Int)):=by
 rw[aU,bv];constructor
 .rintro⟨x,hx,e⟩;rw[dH]at e;subst e;obtain⟨i,hi,e⟩:=an.1 hx;have:i=n:=by omega
  subst this;exact(ar.1 hi).2
 .intro e;exact⟨n,an.2 ⟨n,ar.2 ⟨aV.2 hn,e⟩,rfl⟩,by simp⟩
theorem of_eq(h:Ad b)(hp:Aa b p)(hn:n<b.Buses.toNat):Hz b p (n:Int)=some (isl b p ((groups b p).getD n 0).toNat,true):=by
 have hg:=Jo h p hn;have hbu:=h.buses;unfold Hz;rw[Hd h hp,Hk h];simp only[aa];have key:∀(fs:fc)(k:Nat),foldI (Qk (n:Int)) (fs.map (isl b p)) k ()=if((groups b p).getD n 0).toNat∈fs then some (.ret (isl b p ((groups b p).getD n 0).toNat,true)) else some (.next ()):=by
  intro fs;induction fs with
  |nil=>intro k;rfl
  | cons f fs ih=>
   intro k;have hbl:(isl b p f).Buses.length<=9223372036854775807:=by have:=Dd (λi=>(groups b p).getD i 0==(f:Int)) b.Buses.toNat;simp only[isl,D9];omega
   simp only[bo,foldI,Qk,Cx _ _ hbl,aa,Ao0 hn];by_cases e:(groups b p).getD n 0=(f:Int)
   .have e2:((groups b p).getD n 0).toNat=f:=by omega
    rw[dH.2 e,e2,eT ai];rfl
   .have e2:((groups b p).getD n 0).toNat≠f:=by omega
    rw[dJ.2 e];simp only[eQ];rw[ih];by_cases hm:((groups b p).getD n 0).toNat∈fs
    .rw[eT hm,eT (ak _ hm)]
    .rw[eU hm,eU (λhh=>(ah.1 hh).elim e2 hm)]
 have hm:((groups b p).getD n 0).toNat∈Ld b p b.Buses.toNat:=ar.2 ⟨aV.2 (by omega),Kz h p hn⟩;rw[key,eT hm];rfl
theorem Pr(h:Ad b)(hp:Aa b p)(hn:n<b.Buses.toNat):Yj b p (n:Int)=some (C_ b p n):=by unfold Yj;rw[of_eq h hp hn];simp[C_]
variable{s:Ab}
theorem Agq(h:Ad b)(hs:A4 s):Ok (Aaw s b) λy=>(Aa b y.1/\Af0 b y.1/\y.1.Broken.length<=4)/\A4 y.2:=by unfold Aaw;refine(As3 h hs).bind λy hy=>?_;rw[I3 h hy.1.1];exact eK ⟨⟨Jv hy.1.1 (G9 b _) (Rh hy.1.1),qR h hy.1.1.nso,hy.1.2⟩,hy.2⟩
theorem As4(h:Ad b)(hs:A4 s):Ok (Aa0 s b) λy=>((∀t,Iu b t y.1)/\(5<=y.1.Time/\y.1.Time<=20)/\y.1.Events=[]/\y.1.Power.Broken.length<=4)/\A4 y.2:=by
 have hbu:=h.buses;unfold Aa0;refine(Fl hs 5 20 (by omega) (by omega)).bind λy hy=>(Agq h hy.1).bind λz hz=>?_;refine eI (A:=λs=>A4 ⟨s.2.1,s.2.2.1⟩/\s.2.2.2.length=b.Buses.toNat/\∀x,x∈s.2.2.2->(-1<=x.High/\x.High<=4) /\ -1<=x.Low/\x.Low<=4) (B:=λ(_:Unit)=>False) ?_ (λs hs=>?_) eN
 .refine d6 (λs=>(0<=s.1/\s.1<=b.Buses)/\A4 ⟨s.2.1,s.2.2.1⟩/\(s.2.2.2.length:Int)=s.1/\∀x,x∈s.2.2.2->(-1<=x.High/\x.High<=4) /\ -1<=x.Low/\x.Low<=4) (λs=>(b.Buses-s.1).toNat) _ _ ?_ ?_ ?_
  .exact⟨by dsimp only;omega,hz.2,by simp,λx hx=>by cases hx⟩
  .dsimp only;omega
  .rintro⟨i,L,a,l⟩ ⟨⟨g1,g2⟩,g3,g4,g5⟩;dsimp only at g1 g2 g3 g4 g5;unfold Aew;dsimp only;refine c6 (λhq=>?_) (λhq=>db ?_)
   .simp only[dF]at hq;have e1:w64 (i+1)=i+1:=Ah;rw[e1];refine(Fl g3 (-1) 4 (by omega) (by omega)).bind λu hu=>(Fl hu.1 (-1) 4 (by omega) (by omega)).bind λv hv=>(d8 (by simp;omega)).bind λw hw=>c7 ?_;refine⟨⟨by dsimp only;omega,hv.1,by rw[hw];simp;omega,λx hx=>?_⟩,by dsimp only;omega⟩;rw[hw]at hx;rcases ao.1 hx with hx|hx
    .exact g5 x hx
    .simp only[aF]at hx;subst hx;exact⟨hu.2,hv.2⟩
   .simp only[dG]at hq;exact⟨g3,by dsimp only;omega,g5⟩
 .refine eK ⟨⟨λt=>?_,hy.2,rfl,hz.1.2.2⟩,hs.1⟩;exact {
   st:=hz.1.1
   fol:=Ab6 hz.1.1.nso hz.1.2.1
   time:=by have:=hy.2;dsimp only;omega
   nro:=hs.2.1
   ros:=λx hx=>by have:=hs.2.2 x hx;have:=hy.2;unfold Ds;dsimp only;omega}
theorem Aqf(hs:A4 s):Ok (F9 s) λy=>Ayq y.1/\Dw y.2.1/\((∀t,Iu y.1 t y.2.2.1)/\(5<=y.2.2.1.Time/\y.2.2.1.Time<=20)/\y.2.2.1.Events=[]/\y.2.2.1.Power.Broken.length<=4)/\A4 y.2.2.2:=by unfold F9;exact(Atl hs).bind λb hb=>(As1 hb.2).bind λy hy=>(As4 hb.1.ok hy.2).bind λp hp=>eK ⟨hb.1,hy.1,hp.1,hp.2⟩
theorem E5(k n:Int):Ep p k n=some (brk p.Broken k n):=by
 unfold Ep brk;have:∀(l:List dX)(i:Nat),foldI (vK k n) l i ()=bif l.any (λx=>k==x.Kind&&n==x.Number)then some (.ret true) else some (.next ()):=by
  intro l;induction l with
  |nil=>intro i;rfl
  | cons x l ih=>
   intro i;simp only[foldI,vK,Aou,List.any_cons];have e:(x.Kind==k&&x.Number==n)=(k==x.Kind&&n==x.Number):=by rw[aU];simp only[ac,dH];omega
   rw[e];cases (k==x.Kind&&n==x.Number) with
   |true=>rfl
   |false=>simp only[eQ,aO];exact ih (i+1)
 rw[this];cases p.Broken.any λx=>k==x.Kind&&n==x.Number <;> rfl
def Is(b:c_)(p:dZ)(i:Nat):Bool:=match Dz b p 3 (i:Int) with
 |none=>false
 |some a=>(C_ b p a.toNat && !brk p.Broken 4 (i:Int)) && !decide (p.Limits.getD i 0<(b.Consumers.getD i default).Least)
def svB(b:c_)(p:dZ):Nat->Nat->Bool
 |0,_=>false
 |k+1,i=>Is b p i&&(b.Consumers.getD i default).Needs.all λn=>svB b p k n.toNat
theorem Am4(f:Int->Bool)(l:fb)(k:Nat)(g:Nat->Int->Unit->Option (Ctl Unit Bool))(hg:∀i x,x∈l->g i x ()=bif !f x then some (.ret false) else some (.next ())):foldI g l k ()=bif l.all f then some (.next ()) else some (.ret false):=by
 induction l generalizing k with
 |nil=>rfl
 |cons x l ih=>
  simp only[foldI,hg k x ai,List.all_cons];cases f x with
  |true=>simp only[aC,eQ,aZ];exact ih (k+1) λi y hy=>hg i y (ak _ hy)
  |false=>rfl
theorem Am3(f:Int->Bool)(l:fb)(k:Nat)(g:Nat->Int->Unit->Option (Ctl Unit ρ))(r:Nat->ρ)(hg:∀i x,x∈l->g i x ()=bif !f x then some (.ret (r i)) else some (.next ())):(l.all f=true/\foldI g l k ()=some (.next ()))\/(l.all f=false/\∃j,k<=j/\j<k+l.length/\foldI g l k ()=some (.ret (r j))):=by
 induction l generalizing k with
 |nil=>exact .inl ⟨rfl,rfl⟩
 | cons x l ih=>
  simp only[foldI,hg k x ai,List.all_cons];cases f x with
  |true=>
   simp only[aC,eQ,aZ];rcases ih (k+1) (λi y hy=>hg i y (ak _ hy)) with h|⟨h,j,h1,h2,h3⟩
   .exact .inl h
   .exact .inr ⟨h,j,by omega,by simp only[bf];omega,h3⟩
  |false=>exact .inr ⟨rfl,k,by omega,by simp only[bf];omega,rfl⟩
variable{i:Nat}
theorem Em(h:i<b.Consumers.length:=by omega):b.Consumers[i]?=some (b.Consumers.getD i default):=by rw[af h];simp[List.getD,List.getElem?_eq_getElem h]
theorem Kw(h:i<p.Limits.length:=by omega):p.Limits[i]?=some (p.Limits.getD i 0):=by rw[af h];simp[List.getD,List.getElem?_eq_getElem h]
theorem Aqt(h : Ad b)(hp : Aa b p) : ∀(k i : Nat), i < k -> i < b.Consumers.length -> Aef k b p (i : Int) = some (svB b p k i) := by
 intro k;induction k with
 |zero=>intro i hi;omega
 | succ k ih =>
  intro i hi hc;have hnl:=hp.nli;have hcg:=Em hc;have hlg:=Kw (p:=p) (i:=i);have hco:=h.co i _ hcg;refine de ?_;show Ok (Aeg (Aef k) b p (i:Int)) _;unfold Aeg;rw[Xq h hp (by omega) (by omega),Al hlg,Al hcg];simp only[aa];cases hl:Dz b p 3 (i:Int) with
  |none=>refine eJ (P:=λ_=>True) (c9 (λhg=>absurd hg.1 (by simp[Cd])) λ_=>trivial) λy3 _=>?_;refine eJ (P:=λ_=>True) (c9 (λhg=>absurd hg.1 (by simp[Cd])) λ_=>trivial) λy5 _=>?_;refine eJ (P:=λ_=>True) (c9 (λhg=>absurd hg.1 (by simp[Cd])) λ_=>trivial) λy7 _=>?_;refine eJ (P:=λ_=>True) (c9 (λhg=>absurd hg.1 (by simp[Cd])) λ_=>trivial) λy9 _=>?_;refine c6 (λ_=>eK ?_) (λhq=>by simp[V5,Cd]at hq);simp[svB,Is,hl]
  | some a=>
   have ha:=Nj h hl;obtain⟨m,rfl⟩:∃m:Nat,a=(m:Int):=⟨a.toNat,by omega⟩;have hlive:=Lv h hp (n:=m) (by omega);simp only[Cd,hlive,E5];refine eJ (P:=λy=>y=C_ b p m) (c9 (λ_=>eK rfl) λhn=>(hn ⟨rfl,trivial⟩).elim) λy3 h3=>?_;subst h3;have hbase:Is b p i=((C_ b p m && !brk p.Broken 4 (i:Int)) && !decide (p.Limits.getD i 0<(b.Consumers.getD i default).Least)):=by unfold Is;rw[hl];simp
   cases hlv:C_ b p m with
   |false=>refine eJ (P:=λ_=>True) (di (λ_=>dk rfl) λ_=>trivial) λy5 _=>?_;refine eJ (P:=λ_=>True) (di (λ_=>dk rfl) λ_=>trivial) λy7 _=>?_;refine eJ (P:=λ_=>True) (di (λ_=>dk rfl) λ_=>trivial) λy9 _=>?_;refine c6 (λ_=>eK ?_) (λhq=>by simp[V5]at hq);simp[svB,hbase,hlv]
   | true=>
    refine eJ (P:=λy=>y=brk p.Broken 4 (i:Int)) (c9 (λ_=>eK rfl) λhn=>(hn ⟨rfl,trivial⟩).elim) λy5 h5=>?_;subst h5;cases hbr:brk p.Broken 4 (i:Int) with
    |true=>refine eJ (P:=λ_=>True) (di (λ_=>dk rfl) λ_=>trivial) λy7 _=>?_;refine eJ (P:=λ_=>True) (di (λ_=>dk rfl) λ_=>trivial) λy9 _=>?_;refine c6 (λ_=>eK ?_) (λhq=>by simp[V5]at hq);simp[svB,hbase,hbr]
    | false=>
     refine eJ (P:=λy=>y=p.Limits.getD i 0) (c9 (λ_=>eK rfl) λhn=>(hn ⟨rfl,trivial⟩).elim) λy7 h7=>?_;refine eJ (P:=λy=>y=b.Consumers.getD i default) (c9 (λ_=>eK rfl) λhn=>(hn ⟨rfl,trivial⟩).elim) λy9 h9=>?_;subst h7;subst h9;refine c6 (λhq=>eK ?_) (λhq=>?_)
     .simp only[V5,aC,aO]at hq;show false=(Is b p i&&_);rw[hbase,hq];simp
     .simp only[V5,aC,aO]at hq;have hb1:Is b p i=true:=by rw[hbase,hlv,hbr,hq];rfl
      rw[Am4 (λn=>svB b p k n.toNat) _ 0 _ (λj x hx=>?_)]
      .show Ok (andThen (bif _ then some (Ctl.next ()) else some (Ctl.ret false)) some λz0=>some true) _;have hsv:svB b p (k+1) i=(b.Consumers.getD i default).Needs.all λn=>svB b p k n.toNat:=by
        show (Is b p i&&_)=_;rw[hb1,aZ]
       rw[hsv];cases (b.Consumers.getD i default).Needs.all λn=>svB b p k n.toNat <;> exact eK rfl
      .have hx2:=hco.2.2.2.2.2.1 x hx;have hih:=ih x.toNat (by omega) (by omega);rw[ba hx2.1]at hih;unfold Aeh;rw[hih];rfl
theorem Avc{rec:c_->dZ->Int->Option Bool}{f:Int->Bool}{l:fb}(hl:l.length<=1000)(hr:∀x,x∈l->rec b p x=some (f x)):jJ rec l b p=some (!l.all f,b,p):=by
 unfold jJ Afk;have key:=Am3 f l 0 (U5 b p rec) (λi=>(cnt 0 i,b,p)) (λi x hx=>by unfold U5 Afv;rw[hr x hx];rfl)
 rcases key with⟨h1,h2⟩|⟨h1,j,_,hj,h2⟩
 .rw[h2,h1];rfl
 .have hc:cnt 0 j=(j:Int):=Bf;rw[h2,h1,hc];show some (decide ((j:Int)>=0),b,p)=_;rw[dK (by omega)];rfl
theorem Aba(h:Ad b)(hp:Aa b p):∀(k i:Nat),i<k->i<b.Consumers.length->Aej k b p (i:Int)=some (svB b p k i):=by
 intro k;induction k with
 |zero=>intro i hi;omega
 | succ k ih=>
  intro i hi hc;have hnl:=hp.nli;have hbl:p.Broken.length<=1000:=by have:=hp.brk.len;omega
  have hcg:=Em hc;have hlg:=Kw (p:=p) (i:=i);have hco:=h.co i _ hcg;refine de ?_;show Ok (Aek (Aej k) b p (i:Int)) _;unfold Aek vI;rw[A8 h hp,Y6 h hp.ncl,Al hlg,Al hcg];simp only[aa,dN,eQ];cases hl:Dz b p 3 (i:Int) with
  |none=>refine eJ (P:=λ_=>True) (c9 (λhg=>absurd hg.1 (by simp[Cd])) λ_=>trivial) λy3 _=>?_;refine eJ (P:=λ_=>True) (c9 (λhg=>absurd hg.1 (by simp[Cd])) λ_=>trivial) λy5 _=>?_;refine eJ (P:=λ_=>True) (c9 (λhg=>absurd hg.1 (by simp[Cd])) λ_=>trivial) λy7 _=>?_;refine eJ (P:=λ_=>True) (c9 (λhg=>absurd hg.1 (by simp[Cd])) λ_=>trivial) λy9 _=>?_;refine c6 (λ_=>eK ?_) (λhq=>by simp[V6,Cd]at hq);simp[svB,Is,hl]
  | some a=>
   have ha:=Nj h hl;obtain⟨m,rfl⟩:∃m:Nat,a=(m:Int):=⟨a.toNat,by omega⟩;have hlive:=Pr h hp (n:=m) (by omega);simp only[Cd,hlive,C3 hbl];refine eJ (P:=λy=>y=C_ b p m) (c9 (λ_=>eK rfl) λhn=>(hn ⟨rfl,trivial⟩).elim) λy3 h3=>?_;subst h3;have hbase:Is b p i=((C_ b p m && !brk p.Broken 4 (i:Int)) && !decide (p.Limits.getD i 0<(b.Consumers.getD i default).Least)):=by unfold Is;rw[hl];simp
   cases hlv:C_ b p m with
   |false=>refine eJ (P:=λ_=>True) (di (λ_=>dk rfl) λ_=>trivial) λy5 _=>?_;refine eJ (P:=λ_=>True) (di (λ_=>dk rfl) λ_=>trivial) λy7 _=>?_;refine eJ (P:=λ_=>True) (di (λ_=>dk rfl) λ_=>trivial) λy9 _=>?_;refine c6 (λ_=>eK ?_) (λhq=>by simp[V6]at hq);simp[svB,hbase,hlv]
   | true=>
    refine eJ (P:=λy=>y=brk p.Broken 4 (i:Int)) (c9 (λ_=>eK rfl) λhn=>(hn ⟨rfl,trivial⟩).elim) λy5 h5=>?_;subst h5;cases hbr:brk p.Broken 4 (i:Int) with
    |true=>refine eJ (P:=λ_=>True) (di (λ_=>dk rfl) λ_=>trivial) λy7 _=>?_;refine eJ (P:=λ_=>True) (di (λ_=>dk rfl) λ_=>trivial) λy9 _=>?_;refine c6 (λ_=>eK ?_) (λhq=>by simp[V6]at hq);simp[svB,hbase,hbr]
    | false=>
     refine eJ (P:=λy=>y=p.Limits.getD i 0) (c9 (λ_=>eK rfl) λhn=>(hn ⟨rfl,trivial⟩).elim) λy7 h7=>?_;refine eJ (P:=λy=>y=b.Consumers.getD i default) (c9 (λ_=>eK rfl) λhn=>(hn ⟨rfl,trivial⟩).elim) λy9 h9=>?_;subst h7;subst h9;refine c6 (λhq=>eK ?_) (λhq=>?_)
     .simp only[V6,aC,aO]at hq;show false=(Is b p i&&_);rw[hbase,hq];simp
     .simp only[V6,aC,aO]at hq;have hb1:Is b p i=true:=by rw[hbase,hlv,hbr,hq];rfl
      have hsv:svB b p (k+1) i=(b.Consumers.getD i default).Needs.all λn=>svB b p k n.toNat:=by show (Is b p i&&_)=_;rw[hb1,aZ]
      rw[Avc (f:=λn=>svB b p k n.toNat) (by have:=hco.2.2.2.2.1;omega) (λx hx=>?_)]
      .rw[hsv];refine eK ?_;simp
      .have hx2:=hco.2.2.2.2.2.1 x hx;have hih:=ih x.toNat (by omega) (by omega)
       rwa [ba hx2.1]at hih
theorem Ai1(h:Ad b)(hp:Aa b p)(hi:i<b.Consumers.length):F71 b p (i:Int)=some (svB b p 1000 i):=by have:=h.col;exact Aba h hp 1000 i (by omega) hi
theorem Amq(h:Ad b)(hp:Aa b p)(hi:i<b.Consumers.length):F71 b p (i:Int)=some (svB b p 1000 i)/\F74 b p (i:Int)=some (svB b p 1000 i):=by have:=h.col;exact⟨Aba h hp 1000 i (by omega) hi,Aqt h hp 1000 i (by omega) hi⟩
variable{n:Int}
theorem Yn{m:Int}(h0:0<=m)(h:m<=n):m*m<=n*n:=Int.mul_le_mul h h h0 (by omega)
theorem Au2{x:Int}(h0:0<=x)(h1:x<=1000000000000000000):Ok (Alm x) λy=>y.2=0/\0<=y.1/\y.1*y.1<=x/\x<(y.1+1)*(y.1+1):=by
 unfold Alm;refine c6 (λhc=>?_) (λ_=>?_)
 .simp only[Aos,aE,dF]at hc;omega
 refine eI (A:=λs=>0<=s.1/\s.1*s.1<=x/\x<(s.1+1)*(s.1+1)) (B:=λ(_:Unit)=>False) ?_ (λs hs=>eK ⟨rfl,hs⟩) eN;refine d6 (λs=>(0<=s.1/\s.1<=s.2/\s.2<=1000000000)/\s.1*s.1<=x/\x<(s.2+1)*(s.2+1)) (λs=>(s.2-s.1).toNat) _ _ ?_ ?_ ?_
 .refine⟨by dsimp only;omega,by dsimp only;omega,by dsimp only;omega⟩
 .dsimp only;omega
 .rintro⟨l,u⟩ ⟨⟨g1,g2,g3⟩,g4,g5⟩;dsimp only at g1 g2 g3 g4 g5;unfold Aih Aor;dsimp only;refine c6 (λhq=>?_) (λhq=>db ?_)
  .simp only[dF]at hq;obtain⟨m,hm⟩:∃m,m=(l+u+1) / 2:=⟨_,rfl⟩;have e1:w64 (Int.tdiv (w64 (w64 (l+u)+1)) 2)=m:=by
    rw[Ah (n:=l+u),Ah (n:=l+u+1),cS (by omega),←hm,Ah]
   have hmm:m*m<=1000000000*1000000000:=Yn (by omega) (by omega);have hm0:0<=m*m:=Int.mul_nonneg (by omega) (by omega);rw[e1,Ah (n:=m*m)];refine c6 (λhc=>?_) (λhc=>?_)
   .simp only[dF]at hc;exact c7 ⟨⟨by dsimp only;omega,hc,g5⟩,by dsimp only;omega⟩
   .simp only[dG]at hc;rw[Ah (n:=m-1)];refine c7 ⟨⟨by dsimp only;omega,g4,?_⟩,by dsimp only;omega⟩;dsimp only;have:m-1+1=m:=by omega
    rw[this];omega
  .simp only[dG]at hq;have:l=u:=by omega
   subst this;exact⟨g1,g4,g5⟩
theorem Aca(h0:0<=n)(h1:n<=1000000000000000000):(bif decide ((Int.tmod (-n) 1000)<0)then some (w64 ((w64 (Int.tdiv (-n) 1000))-1)) else some (w64 (Int.tdiv (-n) 1000)):Option Int)=some (-((n+999) / 1000)):=by
 have e1:Int.tmod (-n) 1000 = -(n % 1000):=by rw[Int.neg_tmod,cx h0]
 have e2:Int.tdiv (-n) 1000 = -(n / 1000):=by rw[Int.neg_tdiv,cS h0]
 rw[e1,e2,Ah (n:=-(n / 1000))];by_cases h:-(n % 1000)<0
 .rw[dK h,eO,Ah];congr 1;omega
 .rw[dL h,eQ];congr 1;omega
theorem Ay4(h0:0<=n)(h1:n<=1000000000000000000):Alc n 1000=some ((n+999) / 1000,0):=by
 unfold Alc Afe Atf Ate;have e:X0 n 1000=false:=by rw[bZ];intro e;simp[X0]at e;omega
 have e0:w64 (0-n) = -n:=by rw[Ah];omega
 have en:nzI (1000:Int)=some ():=rfl;rw[e,e0,en];simp only[eQ,aa];rw[Aca h0 h1];simp only[aa];rw[Ah];congr 2;omega
theorem Aup(h0:0<=n)(h1:n<=1000000000000000000):Alb n 1000=some ((n+999) / 1000,0):=by
 unfold Alb;have e:Afd n 1000=true:=by unfold Afd Ak8;rw[Ah (n:=0-1000000000000000000)];simp;omega
 have e0:w64 (0-n) = -n:=by rw[Ah];omega
 have en:nzI (1000:Int)=some ():=rfl;unfold Atd;rw[e,e0,en];simp only[aC,eQ,aa];rw[Aca h0 h1];simp only[aa];rw[Ah];congr 2;omega
def Hh(x:b_):Prop:=N8 x=true
theorem Ayz(hs:A4 s):Ok (F78 s) λy=>Hh y.1/\A4 y.2:=by
 unfold F78;refine(B8 hs _ (by simp) (by simp)).bind λu hu=>(B8 hu.1 _ (by simp) (by simp)).bind λv hv=>eK ⟨?_,hv.1⟩;have h1:u.1=0\/u.1=450\/u.1=800\/u.1=1350\/u.1=1800\/u.1=2600\/u.1=3500:=by simpa using hu.2
 have h2:v.1=0\/v.1=100\/v.1=300\/v.1=900\/v.1=1799:=by simpa using hv.2
 rcases h1 with e|e|e|e|e|e|e <;> rcases h2 with e2|e2|e2|e2|e2 <;> rw[e,e2] <;> rfl
variable{x:b_}
theorem Ao6(h:Hh x):N8 x=true:=h
theorem Ara(x:Int):Gl x=D1 x:=by
 have hr:=Jz (x:=x) (n:=3600);unfold Gl D1;rw[Ah];by_cases h:Int.tmod x 3600<0
 .rw[dK h,eO,cx (by omega)];omega
 .rw[dL h,eQ,cx (by omega)];omega
theorem Ah0(x:b_):uY x=N8 x:=by unfold uY N8 R9 Ak9 Ala;rw[Ara,aU];simp only[ac,dF];omega
theorem Akv(h:Hh x):uY x=true:=(Ah0 x).trans h
structure Eo(x:eq):Prop where
 kind:1<=x.Kind/\x.Kind<=3
 station:0<=x.Station/\x.Station<=1
 max:0<=x.Max/\x.Max<=5000
 rate:0<=x.Rate/\x.Rate<=5000
 cost:1<=x.Cost/\x.Cost<=100
 arcs:x.Forbidden.length<=4
 arc:∀a,a∈x.Forbidden->Hh a
theorem Agp(hs:A4 s):Ok (F41 s) λy=>Eo y.1/\A4 y.2:=by
 unfold F41;refine(Fl hs 1 3 (by omega) (by omega)).bind λk hk=>(D2 hk.1 2 (by omega) (by omega)).bind λst hst=>(B8 hst.1 _ (by simp) (by simp)).bind λm hm=>(B8 hm.1 _ (by simp) (by simp)).bind λr hr=>(B8 hr.1 _ (by simp) (by simp)).bind λc hc=>(D2 hc.1 3 (by omega) (by omega)).bind λn hn=>?_;have h1:m.1=0\/m.1=1\/m.1=7\/m.1=20\/m.1=40:=by simpa using hm.2
 have h2:r.1=0\/r.1=1\/r.1=5\/r.1=50:=by simpa using hr.2
 have h3:c.1=1\/c.1=2\/c.1=3\/c.1=100:=by simpa using hc.2
 refine eI (A:=λs=>A4 ⟨s.2.1,s.2.2.1⟩/\s.2.2.2.length<=4/\∀a,a∈s.2.2.2->Hh a) (B:=λ(_:Unit)=>False) ?_ (λs hs=>eK ⟨⟨hk.2,by dsimp only;omega,by dsimp only;omega,by dsimp only;omega,by dsimp only;omega,hs.2.1,hs.2.2⟩,hs.1⟩) eN;refine d6 (λs=>(0<=s.1/\s.1+(s.2.2.2.length:Int)<=2)/\A4 ⟨s.2.1,s.2.2.1⟩/\∀a,a∈s.2.2.2->Hh a) (λs=>s.1.toNat) _ _ ?_ ?_ ?_
 .exact⟨⟨by dsimp only;omega,by simp;omega⟩,hn.1,λa ha=>by cases ha⟩
 .dsimp only;omega
 .rintro⟨i,L,a,l⟩ ⟨⟨g1,g2⟩,g3,g4⟩;dsimp only at g1 g2 g3 g4;unfold Aps;dsimp only;refine c6 (λhq=>?_) (λ_=>db ⟨g3,by dsimp only;omega,g4⟩);simp only[dF]at hq;have e1:w64 (i-1)=i-1:=Ah;rw[e1];refine(Ayz g3).bind λu hu=>(d8 (by simp;omega)).bind λw hw=>c7 ⟨⟨⟨by dsimp only;omega,by rw[hw];simp;omega⟩,hu.2,λx hx=>?_⟩,by dsimp only;omega⟩;rw[hw]at hx;rcases ao.1 hx with hx|hx
  .exact g4 x hx
  .simp only[aF]at hx;subst hx;exact hu.1
variable{x:eq}
theorem jV(h:Eo x):Sa x=some true:=by
 obtain⟨h1,h2,h3,h4,h5,h6,h7⟩:=h;unfold Sa;have e:Ke x=false:=by rw[bZ];intro e;simp only[Ke,aE,dF]at e;omega
 rw[e,eQ,Ci _ 0 λj a ha=>?_]
 .rfl
 .unfold vH;rw[Akv (h7 a (ae ha))];rfl
theorem Av5{l:List b_}(h:∀a,a∈l->Hh a):Ql l=some false:=by
 unfold Ql Z4;rw[Ci l 0 λj a ha=>?_]
 .rfl
 .unfold Uu Afm;rw[Ao6 (h a (ae ha))];rfl
theorem Wt(h:Eo x):Vg x=some true:=by
 obtain⟨h1,h2,h3,h4,h5,h6,h7⟩:=h;unfold Vg;have e:((((((B5 x.Kind 1 3)&&(B5 x.Station 0 1))&&(B5 x.Max 0 5000))&&(B5 x.Rate 0 5000))&&(B5 x.Cost 1 100))&&(decide ((x.Forbidden.length:Int)<=4)))=true:=by unfold B5;simp only[ac,dF];omega
 rw[e,Av5 h7];rfl
structure P9(x:ef):Prop where
 bow:0<=x.Bow/\x.Bow<=200
 stern:(0<=x.Stern/\x.Stern<=200)/\0<x.Bow+x.Stern
 len:x.Thrusters.length<=8
 thr:∀t,t∈x.Thrusters->Eo t
theorem As2(hs:A4 s)(h0:0<=n/\n<=8):Ok (F12 s n) λy=>(P9 y.1/\(y.1.Thrusters.length:Int)<=n)/\A4 y.2:=by
 unfold F12;rw[Ah];refine(B8 hs _ (by simp) (by simp)).bind λu hu=>(B8 hu.1 _ (by simp) (by simp)).bind λv hv=>(D2 hv.1 (n+1) (by omega) (by omega)).bind λk hn=>?_;have h1:u.1=0\/u.1=1\/u.1=30\/u.1=60:=by simpa using hu.2
 have h2:v.1=1\/v.1=25\/v.1=40:=by simpa using hv.2
 refine eI (A:=λs=>A4 ⟨s.2.1,s.2.2.1⟩/\(s.2.2.2.length:Int)<=n/\∀a,a∈s.2.2.2->Eo a) (B:=λ(_:Unit)=>False) ?_ (λs hs=>eK ⟨⟨⟨by dsimp only;omega,by dsimp only;omega,by have:=hs.2.1;dsimp only;omega,hs.2.2⟩,hs.2.1⟩,hs.1⟩) eN;refine d6 (λs=>(0<=s.1/\s.1+(s.2.2.2.length:Int)<=n)/\A4 ⟨s.2.1,s.2.2.1⟩/\∀a,a∈s.2.2.2->Eo a) (λs=>s.1.toNat) _ _ ?_ ?_ ?_
 .have:=hn.2;exact⟨⟨by dsimp only;omega,by simp;omega⟩,hn.1,λa ha=>by cases ha⟩
 .dsimp only;omega
 .rintro⟨i,L,a,l⟩ ⟨⟨g1,g2⟩,g3,g4⟩;dsimp only at g1 g2 g3 g4;unfold Aqa;dsimp only;refine c6 (λhq=>?_) (λ_=>db ⟨g3,by dsimp only;omega,g4⟩);simp only[dF]at hq;have e1:w64 (i-1)=i-1:=Ah;rw[e1];refine(Agp g3).bind λu hu=>(d8 (by simp;omega)).bind λw hw=>c7 ⟨⟨⟨by dsimp only;omega,by rw[hw];simp;omega⟩,hu.2,λx hx=>?_⟩,by dsimp only;omega⟩;rw[hw]at hx;rcases ao.1 hx with hx|hx
  .exact g4 x hx
  .simp only[aF]at hx;subst hx;exact hu.1
theorem Amo{x:ef}(h:P9 x):F68 x=some 0:=by
 have h1:=h.bow;have h2:=h.stern;have h3:=h.len;unfold F68;have e1:decide ((x.Thrusters.length:Int)>8)=false:=dL (by omega);have e2:Ro x=false:=by rw[bZ];intro e;simp only[Ro,aE,ac,dF,dH]at e;omega
 have e3:Qm x.Thrusters=some false:=by
  unfold Qm Z_;rw[Ci x.Thrusters 0 λj a ha=>?_]
  .rfl
  .unfold U7 Alo;rw[Wt (h.thr a (ae ha))];rfl
 rw[e1,e2,e3];rfl
variable{l:Int}
theorem V2(h:Eo x)(h0:0<=l)(h1:l<=5000):0<=l*l*x.Cost/\l*l*x.Cost<=2500000000:=by have hc:=h.cost;have h2:l*l<=5000*5000:=Yn h0 h1;have h3:0<=l*l:=Int.mul_nonneg h0 h0;have h4:l*l*x.Cost<=25000000*100:=Int.mul_le_mul (by omega) (by omega) (by omega) (by omega);exact⟨Int.mul_nonneg h3 (by omega),by omega⟩
theorem Aha(h:Eo x)(h0:0<=l)(h1:l<=5000):w64 ((w64 ((w64 (l*l))+(w64 (0*0))))*x.Cost)=l*l*x.Cost:=by
 have hc:=V2 h h0 h1;have h2:l*l<=5000*5000:=Yn h0 h1;have h3:0<=l*l:=Int.mul_nonneg h0 h0;have e0:w64 (0*0)=0:=by rw[Ah];rfl
 rw[Ah (n:=l*l),e0,Int.add_zero,Ah (n:=l*l),Ah]
theorem Aq7(h:Eo x)(h0:0<=l)(h1:l<=5000):Aln x ⟨l,0⟩=some ((l*l*x.Cost+999) / 1000,0):=by
 have hc:=V2 h h0 h1;unfold Aln;have e:Afj ⟨l,0⟩=true:=by unfold Afj;simp only[ac,dF];omega
 rw[Wt h,e];simp only[aa,aC,Bool.or_self,eQ];rw[Aha h h0 h1,Ay4 hc.1 (by omega)];rfl
theorem Ai9(h:Eo x)(h0:0<=l)(h1:l<=5000):Aft x ⟨l,0⟩=some ((l*l*x.Cost+999) / 1000,0):=by
 have hc:=V2 h h0 h1;unfold Aft;have e:Afh ⟨l,0⟩=true:=by unfold Afh;simp only[ac,dF];omega
 rw[jV h,e];simp only[aa,aC,Bool.or_self,eQ];rw[Aha h h0 h1,Aup hc.1 (by omega)];rfl
theorem Y4(n:Int):∀(l:List dV)(k:Nat),foldI (X8 n) l k ()=match l.findIdx? λx=>x.Thruster==n with
  |some j=>some (.ret (cnt 0 (k+j),n))
  |none=>some (.next ())
 | [],_=>rfl
 | x::l,k=>by
  simp only[foldI,X8,Ak4,List.findIdx?_cons];cases hq:(x.Thruster==n) with
  |true=>rfl
  | false=>
   simp only[eQ,cO,if_false];rw[Y4 n l (k+1)];cases l.findIdx? λx=>x.Thruster==n with
   |none=>rfl
   |some j=>
    have e:k+1+j=k+(j+1):=by omega
    simp only[bF,e]
theorem Ar6(h:Ad b)(n:Int):Aax b.Consumers n=some (G8 (λx:dV=>x.Thruster==n) b.Consumers,n):=by
 have hc:=h.col;unfold Aax G8;rw[Y4];cases hf:b.Consumers.findIdx? λx=>x.Thruster==n with
 |none=>rfl
 |some j=>
  rw[cf]at hf;obtain⟨hj,_⟩:=hf;have e:cnt 0 (0+j)=(j:Int):=by rw[aH];exact Bf
  simp only[e];rfl
variable{xs:List α}
theorem Ajo{q:α->Bool}{x:α}(hx:xs[j]?=some x)(hq:q x=true)(hn:∀(k:Nat) y,k<j->xs[k]?=some y->q y=false):G8 q xs=(j:Int):=by
 obtain⟨hj,hj2⟩:=ab.1 hx;have:xs.findIdx? q=some j:=by
  rw[cf];refine⟨hj,by rw[hj2];exact hq,λk hk=>?_⟩;have hkl:k<xs.length:=by omega
  have:=hn k xs[k] hk (af hkl);simp[this]
 unfold G8;rw[this]
theorem Avm{q:α->Bool}(hn:∀(k:Nat) y,xs[k]?=some y->q y=false):G8 q xs = -1:=by
 have:xs.findIdx? q=none:=by rw[cH];intro x hx;obtain⟨k,hk⟩:=cX.1 hx;exact hn k x hk
 unfold G8;rw[this]
theorem Avn{q:α->Bool}(h:0<=G8 q xs):∃j:Nat,G8 q xs=(j:Int)/\j<xs.length:=by
 unfold G8 at h ⊢;cases hf:xs.findIdx? q with
 |none=>rw[hf]at h;simp at h
 |some j=>rw[cf]at hf;exact⟨j,rfl,hf.1⟩
def own(b:c_)(i:Nat):Int:=G8 (λx:dV=>x.Thruster==(i:Int)) b.Consumers
theorem Anb(hp:Aa b p)(hj:j<b.Consumers.length):0<=p.Limits.getD j 0:=by have h2:=hp.nli;exact(hp.lim j _ _ (Kw (p:=p)) (Em hj)).1
theorem T7(hp:Aa b p)(hj:j<b.Breakers.length):p.Closed[j]?=some (p.Closed.getD j false):=by have:=hp.ncl;rw[af (by omega)];simp[List.getD,List.getElem?_eq_getElem (show j<p.Closed.length by omega)]
variable{x:dU}
theorem P4(hx:b.Breakers[j]?=some x):b.Breakers.getD j default=x:=by simp[List.getD,hx]
def Bm(p:dZ)(x:dU):Bool:=
 brk p.Broken 3 x.A || (if x.Kind=1 then brk p.Broken 3 x.B else if x.Kind=2 then brk p.Broken 1 x.B || ((p.Sources.getD x.B.toNat default).State != 2) else brk p.Broken 4 x.B)
theorem Av2(hp:Aa b p)(k n:Int)(acts:List a_):N4 k n ⟨b,p,acts⟩=some (brk p.Broken k n,⟨b,p,acts⟩):=by have:=hp.brk.len;unfold N4;rw[C3 (by dsimp only;omega)];rfl
theorem Aoc(h:Ad b)(hp:Aa b p)(acts:List a_)(hx:x∈b.Breakers):Z6 ⟨b,p,acts⟩ x=some (Bm p x,⟨b,p,acts⟩):=by
 have hbr:=(h.br x hx).2;have hns:=hp.nso;unfold Z6 Bm;simp only[Av2 hp,aa];cases brk p.Broken 3 x.A with
 |true=>rfl
 | false=>
  simp only[eQ,aO];rcases hbr with⟨hk,_⟩|⟨hk,h0,h1⟩|⟨hk,_⟩
  .rw[hk];rfl
  .rw[hk];have e:p.Sources[x.B.toNat]?=some (p.Sources.getD x.B.toNat default):=by
    rw[af (by omega)];simp[List.getD,List.getElem?_eq_getElem (show x.B.toNat<p.Sources.length by omega)]
   have e2:getI p.Sources x.B=some (p.Sources.getD x.B.toNat default):=by unfold getI;rw[dK h0];exact e
   rw[e2];cases brk p.Broken 1 x.B <;> rfl
  .rw[hk];rfl
def Be(b:c_)(C:fe)(q:dU->Bool)(n:Nat):fb:=((List.range n).filter λi=>C.getD i false&&q (b.Breakers.getD i default)).map λ(i:Nat)=>(i:Int)
variable{n:Nat}
theorem Fy{i:Int}:i∈Be b C q n↔∃k:Nat,i=(k:Int)/\k<n/\C.getD k false=true/\q (b.Breakers.getD k default)=true:=by
 unfold Be;simp only[an,ar,aV,ac];constructor
 .rintro⟨k,⟨h1,h2,h3⟩,rfl⟩;exact⟨k,rfl,h1,h2,h3⟩
 .rintro⟨k,rfl,h1,h2,h3⟩;exact⟨k,⟨h1,h2,h3⟩,rfl⟩
theorem El(b:c_)(C:fe)(q:dU->Bool)(n:Nat):(Be b C q n).length<=n:=Dd _ n
def B6(C:fe)(l:fb):fe:=l.foldl (λc i=>c.set i.toNat false) C
def D_(l:fb):List a_:=l.map λi=>⟨2,i,0⟩
theorem Jl:∀(l:fb)(C:fe),(B6 C l).length=C.length
 | [],_=>rfl
 |i::l,C=>by show (B6 (C.set i.toNat false) l).length=_;rw[Jl l];simp
theorem Mk(C:fe)(l:fb)(i:Int):B6 C (l++[i])=(B6 C l).set i.toNat false:=by unfold B6;rw[aN];rfl
theorem Lu:∀(l:fb)(C:fe)(k:Nat),(B6 C l).getD k false=(C.getD k false && !l.any λi=>i.toNat==k)
 | [],_,_=>by simp[B6]
 | i::l,C,k=>by
  show (B6 (C.set i.toNat false) l).getD k false=_;rw[Lu l];simp only[List.any_cons];by_cases e:i.toNat=k
  .subst e;have:(C.set i.toNat false).getD i.toNat false=false:=by
    simp only[List.getD,aK];by_cases hl:i.toNat<C.length
    .simp[hl]
    .simp[hl]
   rw[this];simp
  .have:(C.set i.toNat false).getD k false=C.getD k false:=by
    simp only[List.getD,aK,eU e]
   rw[this];have e2:(i.toNat==k)=false:=by simpa using e
   rw[e2,aO]
theorem Xk{b:c_}:∀(l:fb){p:dZ},Aa b p->Aa b ⟨B6 p.Closed l,p.Sources,p.Limits,p.Broken⟩
 | [],_,hp=>hp
 |i::l,p,hp=>Xk l (p:=⟨p.Closed.set i.toNat false,p.Sources,p.Limits,p.Broken⟩) (Ajc hp i.toNat)
theorem Aq9(ha:acts.length<=1000000){i:Int}(h0:0<=i)(h1:i<p.Closed.length):Qd ⟨b,p,acts⟩ i=some ⟨b,⟨p.Closed.set i.toNat false,p.Sources,p.Limits,p.Broken⟩,acts++[⟨2,i,0⟩]⟩:=by refine de ?_;unfold Qd;refine(d7 h0 h1).bind λ_ _=>(da h0 h1).bind λy hy=>(d8 (by simp;omega)).bind λz hz=>eK ?_;rw[hy,hz]
variable{l:fb}
theorem Xj(ha:acts.length+l.length<=1000000)(hl:∀i,i∈l->0<=i/\i<p.Closed.length) :
  Ok (foldI U1 l 0 (b.Buses,b.Breakers,b.Sources,b.Consumers,b.Phase,b.Frequency,p.Closed,p.Sources,p.Limits,p.Broken,acts)) (Bh (λs=>s=(b.Buses,b.Breakers,b.Sources,b.Consumers,b.Phase,b.Frequency,B6 p.Closed l,p.Sources,p.Limits,p.Broken,acts++D_ l)) λ(_:Unit)=>False):=by
 refine c8 (I:=λj s=>s=(b.Buses,b.Breakers,b.Sources,b.Consumers,b.Phase,b.Frequency,B6 p.Closed (l.take j),p.Sources,p.Limits,p.Broken,acts++D_ (l.take j))) (by simp[B6,D_]) (λj i s hi hs=>?_) λs hs=>?_
 .have hj:=(ab.1 hi).1;have hin:=hl i (ae hi);subst hs;unfold U1;have e:=Aq9 (b:=b) (p:=⟨B6 p.Closed (l.take j),p.Sources,p.Limits,p.Broken⟩) (acts:=acts++D_ (l.take j)) (by simp[D_];omega) hin.1 (by rw[Jl];exact hin.2);refine eJ (P:=λy=>y=_) (d9 e rfl) λy hy=>c7 ?_;subst hy;rw[An hi,Mk];simp[D_]
 .rw[am]at hs;exact hs
def acA(b:c_)(C:fe)(q:dU->Bool):List a_:=D_ (Be b C q b.Breakers.length)
def acC(b:c_)(C:fe)(q:dU->Bool):fe:=B6 C (Be b C q b.Breakers.length)
theorem P8(b:c_)(C:fe)(q:dU->Bool):(acA b C q).length<=b.Breakers.length:=by unfold acA D_;rw[au];exact El b C q _
theorem L8(hp:Aa b p)(q:dU->Bool):Aa b ⟨acC b p.Closed q,p.Sources,p.Limits,p.Broken⟩:=Xk _ hp
variable{k:Nat}
theorem uP(b:c_)(C:fe)(q:dU->Bool)(hk:k<b.Breakers.length):(acC b C q).getD k false=(C.getD k false && !q (b.Breakers.getD k default)):=by
 unfold acC;rw[Lu];cases hc:C.getD k false with
 |false=>rfl
 | true=>
  rw[aZ,aZ];congr 1;rw[aU,bv];constructor
  .rintro⟨i,hi,e⟩;obtain⟨m,rfl,_,_,hq⟩:=Fy.1 hi;have:m=k:=by simpa using e
   subst this;exact hq
  .intro hq;exact⟨(k:Int),Fy.2 ⟨k,rfl,hk,hc,hq⟩,by simp⟩
theorem Kb(hx:b.Breakers[j]?=some x):Be b C q (j+1)=Be b C q j++if(C.getD j false&&q x)=true then [(j:Int)] else []:=by unfold Be;rw[Gx,P4 hx]
theorem Ame(h:Ad b)(hp:Aa b p)(ha:acts.length<=1000):Z9 ⟨b,p,acts⟩=some ⟨b,⟨acC b p.Closed (Bm p),p.Sources,p.Limits,p.Broken⟩,acts++acA b p.Closed (Bm p)⟩:=by
 have hbl:=h.brl;have hnc:=hp.ncl;refine de ?_;unfold Z9;refine eI (A:=λs=>s=(b.Buses,b.Breakers,b.Sources,b.Consumers,b.Phase,b.Frequency,Be b p.Closed (Bm p) b.Breakers.length,p.Closed,p.Sources,p.Limits,p.Broken,acts)) (B:=λ(_:Unit)=>False) ?_ (λs hs=>?_) eN
 .refine c8 (I:=λj s=>s=(b.Buses,b.Breakers,b.Sources,b.Consumers,b.Phase,b.Frequency,Be b p.Closed (Bm p) j,p.Closed,p.Sources,p.Limits,p.Broken,acts)) rfl (λj x s hx hs=>?_) λs hs=>hs;have hj:j<b.Breakers.length:=(ab.1 hx).1;have hfl:=El b p.Closed (Bm p) j;have hfs:=Kb (C:=p.Closed) (q:=Bm p) hx;subst hs;unfold zS;rw[Bf,Al (T7 hp hj)];simp only[aa];have hd:=Aoc h hp acts (ae hx);cases hC:p.Closed.getD j false with
  |false=>rw[hC]at hfs;refine c7 ?_;rw[hfs];simp
  | true=>
   rw[hC]at hfs;refine eJ (P:=λy=>y=(Bm p x,(⟨b,p,acts⟩:Ao))) (d9 hd rfl) λy hy=>?_;subst hy;cases hq:Bm p x with
   |false=>rw[hq]at hfs;refine c7 ?_;rw[hfs];simp
   |true=>rw[hq]at hfs;refine eJ (P:=λy=>y=Be b p.Closed (Bm p) j++[(j:Int)]) (d8 (by simp;omega)) λy hy=>c7 ?_;rw[hy,hfs];simp
 .subst hs;have hfl:=El b p.Closed (Bm p) b.Breakers.length;refine eI (Xj (b:=b) (p:=p) (acts:=acts) (l:=Be b p.Closed (Bm p) b.Breakers.length) (by omega) λi hi=>?_) (λs hs=>?_) eN
  .obtain⟨k,rfl,hk,_⟩:=Fy.1 hi;omega
  .subst hs;exact eK rfl
def Cf(b:c_)(p:dZ)(x:dU):Bool:=x.Kind==3 && !C_ b p x.A.toNat
theorem Avw(h:Ad b)(hp:Aa b p)(acts:List a_)(hx:x∈b.Breakers):Z5 x ⟨b,p,acts⟩=some (Cf b p x,⟨b,p,acts⟩):=by have hA:=(h.br x hx).1;have hl:=Pr h hp (n:=x.A.toNat) (by omega);rw[ba hA.1]at hl;unfold Z5 Cf;rw[hl];cases x.Kind==3 <;> rfl
theorem Amd(h:Ad b)(hp:Aa b p)(ha:acts.length<=1000):Z8 ⟨b,p,acts⟩=some ⟨b,⟨acC b p.Closed (Cf b p),p.Sources,p.Limits,p.Broken⟩,acts++acA b p.Closed (Cf b p)⟩:=by
 have hbl:=h.brl;have hnc:=hp.ncl;refine de ?_;unfold Z8;refine eI (A:=λs=>s=(b.Buses,b.Breakers,b.Sources,b.Consumers,b.Phase,b.Frequency,Be b p.Closed (Cf b p) b.Breakers.length,p.Closed,p.Sources,p.Limits,p.Broken,acts)) (B:=λ(_:Unit)=>False) ?_ (λs hs=>?_) eN
 .refine c8 (I:=λj s=>s=(b.Buses,b.Breakers,b.Sources,b.Consumers,b.Phase,b.Frequency,Be b p.Closed (Cf b p) j,p.Closed,p.Sources,p.Limits,p.Broken,acts)) rfl (λj x s hx hs=>?_) λs hs=>hs;have hj:j<b.Breakers.length:=(ab.1 hx).1;have hfl:=El b p.Closed (Cf b p) j;have hfs:=Kb (C:=p.Closed) (q:=Cf b p) hx;subst hs;unfold zR;rw[Bf,Al (T7 hp hj)];simp only[aa];have hd:=Avw h hp acts (ae hx);cases hC:p.Closed.getD j false with
  |false=>rw[hC]at hfs;refine c7 ?_;rw[hfs];simp
  | true=>
   rw[hC]at hfs;refine eJ (P:=λy=>y=(Cf b p x,(⟨b,p,acts⟩:Ao))) (d9 hd rfl) λy hy=>?_;subst hy;cases hq:Cf b p x with
   |false=>rw[hq]at hfs;refine c7 ?_;rw[hfs];simp
   |true=>rw[hq]at hfs;refine eJ (P:=λy=>y=Be b p.Closed (Cf b p) j++[(j:Int)]) (d8 (by simp;omega)) λy hy=>c7 ?_;rw[hy,hfs];simp
 .subst hs;have hfl:=El b p.Closed (Cf b p) b.Breakers.length;refine eI (Xj (b:=b) (p:=p) (acts:=acts) (l:=Be b p.Closed (Cf b p) b.Breakers.length) (by omega) λi hi=>?_) (λs hs=>?_) eN
  .obtain⟨k,rfl,hk,_⟩:=Fy.1 hi;omega
  .subst hs;exact eK rfl
def Bu(b:c_)(p:dZ):dZ:=⟨acC b p.Closed (Bm p),p.Sources,p.Limits,p.Broken⟩
def Acy(b:c_)(p:dZ):dZ:=⟨acC b (Bu b p).Closed (Cf b (Bu b p)),p.Sources,p.Limits,p.Broken⟩
def Iy(b:c_)(p:dZ):dZ:=⟨(Acy b p).Closed,C1 b (Acy b p),p.Limits,p.Broken⟩
def Mg(b:c_)(p:dZ):List a_:=acA b p.Closed (Bm p)++acA b (Bu b p).Closed (Cf b (Bu b p))
theorem uJ(hp:Aa b p):Aa b (Bu b p):=L8 hp _
theorem V3(hp:Aa b p):Aa b (Acy b p):=L8 (uJ hp) _
theorem uI(hp:Aa b p):Aa b (Iy b p):=Jv (V3 hp) (G9 b _) (Rh (V3 hp))
theorem Xy(b:c_)(p:dZ):(Mg b p).length<=2*b.Breakers.length:=by have h1:=P8 b p.Closed (Bm p);have h2:=P8 b (Bu b p).Closed (Cf b (Bu b p));unfold Mg;rw[aw];omega
theorem Ash(h:Ad b)(hp:Aa b p):jA ⟨b,p,[]⟩=some ⟨b,Iy b p,Mg b p⟩:=by have hbl:=h.brl;have hl:=P8 b p.Closed (Bm p);unfold jA;rw[Ame h hp (by simp)];simp only[aa,cU];have e2:=Amd h (uJ hp) (acts:=acA b p.Closed (Bm p)) (by omega);have e3:=Jp h (V3 hp);refine de ?_;refine eJ (P:=λy=>y=_) (d9 e2 rfl) λy hy=>?_;subst hy;refine eJ (P:=λy=>y=_) (d9 e3 rfl) λy hy=>?_;subst hy;exact eK rfl
def key(b:c_)(c:Int):Int:=(b.Consumers.getD c.toNat default).Preference*100+c
theorem Ly:(l.set m v).getD k 0=if m=k/\m<l.length then v else l.getD k 0:=by grind
theorem Tl(h:k<l.length:=by omega):getI l (k:Int)=some (l.getD k 0):=Al (by grind)
structure Srt(b:c_)(n i:Nat)(d:fb):Prop where
 len:d.length=n
 low:∀k,k<i->k<n->0<=d.getD k 0/\d.getD k 0<(i:Int)
 asc:∀k m,k<m->m<i->m<n->key b (d.getD k 0)<key b (d.getD m 0)
 rest:∀k,i<=k->k<n->d.getD k 0=(k:Int)
 mem:∀v,v<n->∃k,k<n/\d.getD k 0=(v:Int)
structure Ins(b:c_)(n i j:Nat)(d:fb):Prop where
 len:d.length=n
 here:d.getD j 0=(i:Int)
 low:∀k,k<=i->k≠j->0<=d.getD k 0/\d.getD k 0<(i:Int)
 asc:∀k m,k<m->m<=i->k≠j->m≠j->key b (d.getD k 0)<key b (d.getD m 0)
 big:∀k,j<k->k<=i->key b (i:Int)<key b (d.getD k 0)
 rest:∀k,i<k->k<n->d.getD k 0=(k:Int)
 mem:∀v,v<n->∃k,k<n/\d.getD k 0=(v:Int)
theorem Srt.ins(h:Srt b n i d)(hi:i<n):Ins b n i i d where
 len:=h.len
 here:=h.rest i (ag _) hi
 low k hk hne:=h.low k (by omega) (by omega)
 asc k m hkm hm hk hm2:=h.asc k m hkm (by omega) (by omega)
 big k h1 h2:=by omega
 rest k h1 h2:=h.rest k (by omega) h2
 mem:=h.mem
theorem Ins.done(h:Ins b n i j d)(hj:j<=i)(hk:0<j->key b (d.getD (j-1) 0)<key b (i:Int)):Srt b n (i+1) d:=by
 refine⟨h.len,λk h1 h2=>?_,λk m hkm hm hn=>?_,λk h1 h2=>h.rest k (by omega) h2,h.mem⟩
 .by_cases e:k=j
  .rw[e,h.here];omega
  .have:=h.low k (by omega) e;omega
 .have lo:∀k,k<j->key b (d.getD k 0)<key b (i:Int):=λk hkj=>by
   have h3:=hk (by omega);by_cases e:k=j-1
   .rw[e];exact h3
   .have:=h.asc k (j-1) (by omega) (by omega) (by omega) (by omega);omega
  by_cases e:k=j
  .subst e;rw[h.here];exact h.big m hkm (by omega)
  .by_cases e2:m=j
   .grind[Ins.here]
   .exact h.asc k m hkm (by omega) e e2
theorem Ins.step(h:Ins b n i j d)(hj:j<=i)(h0:0<j)(hi:i<n)(hk:key b (i:Int)<key b (d.getD (j-1) 0)):Ins b n i (j-1) ((d.set j (d.getD (j-1) 0)).set (j-1) (i:Int)):=by
 have hl:=h.len;have ev:∀k,((d.set j (d.getD (j-1) 0)).set (j-1) (i:Int)).getD k 0=if k=j-1 then (i:Int) else if k=j then d.getD (j-1) 0 else d.getD k 0:=λk=>by grind
 refine⟨by simp[hl],?_,λk h1 h2=>?_,λk m hkm hm hk1 hm1=>?_,λk h1 h2=>?_,λk h1 h2=>?_,λv hv=>?_⟩
 .rw[ev,eT rfl]
 .rw[ev,eU h2];split
  .exact h.low (j-1) (by omega) (by omega)
  .exact h.low k h1 (by omega)
 .rw[ev,ev,eU hk1,eU hm1];by_cases e1:k=j
  .rw[eT e1,eU (by omega)];subst e1;exact h.asc (k-1) m (by omega) hm (by omega) (by omega)
  .rw[eU e1];by_cases e2:m=j
   .rw[eT e2];exact h.asc k (j-1) (by omega) (by omega) e1 (by omega)
   .rw[eU e2];exact h.asc k m hkm hm e1 e2
 .rw[ev,eU (by omega)];split
  .exact hk
  .exact h.big k (by omega) h2
 .rw[ev,eU (by omega),eU (by omega)];exact h.rest k h1 h2
 .obtain⟨k,hk1,hk2⟩:=h.mem v hv;by_cases e1:k=j
  .grind[Ins.here]
  .by_cases e2:k=j-1
   .refine⟨j,by omega,?_⟩;rw[ev,eU (by omega),eT rfl,←hk2,e2]
   .refine⟨k,hk1,?_⟩;rw[ev,eU e2,eU e1];exact hk2
theorem Amy{x y:Nat}(hx:x<b.Consumers.length)(hy:y<b.Consumers.length):Qc (x:Int) (y:Int) b=some (if(b.Consumers.getD x default).Preference<(b.Consumers.getD y default).Preference then -1 else if(b.Consumers.getD x default).Preference>(b.Consumers.getD y default).Preference then 1 else 0):=by unfold Qc;rw[Al (Em hx),Al (Em hy)];simp only[aa,T6]
theorem Arx(h:Ad b)(hi:i<b.Consumers.length)(hd:Ins b b.Consumers.length i i d) :
  Ok (whileN (Un 0 b) 1152921504606846976 ((i:Int),d)) (Bh (λs=>Srt b b.Consumers.length (i+1) s.2) λ(_:Unit)=>False):=by
 have hcl:=h.col;refine d6 (λs=>∃j:Nat,s.1=(j:Int)/\j<=i/\Ins b b.Consumers.length i j s.2) (λs=>s.1.toNat) _ _ ⟨i,rfl,ag _,hd⟩ (by dsimp only;omega) ?_;rintro⟨z,d⟩ ⟨j,hz,hj,hI⟩;dsimp only at hz hI;subst hz;have hl:=hI.len;unfold Un;dsimp only;by_cases h0:0<j
 .have e1:decide ((j:Int)>0)=true:=dK (by omega);have e2:w64 ((j:Int)-1)=((j-1:Nat):Int):=by rw[Ah];omega
  have hlow:=hI.low (j-1) (by omega) (by omega);obtain⟨v,hv⟩:∃v:Nat,d.getD (j-1) 0=(v:Int):=⟨(d.getD (j-1) 0).toNat,by omega⟩;have hvi:v<i:=by omega
  have ec:=Amy (b:=b) hi (show v<b.Consumers.length by omega);have g1:Ag [(decide ((j:Int)>0),true)] (getI d (j:Int)) default=some (i:Int):=by rw[e1,Tl,hI.here];rfl
  have g2:Ag [(decide ((j:Int)>0),true)] (getI d (w64 ((j:Int)-1))) default=some (v:Int):=by rw[e1,e2,Tl,hv];rfl
  rw[g1,g2];simp only[aa];have g3:Ag [(decide ((j:Int)>0),true)] (Qc (i:Int) (v:Int) b) default=Qc (i:Int) (v:Int) b:=by rw[e1];rw[ec];rfl
  rw[g3,ec];simp only[aa];have hci:=h.co i _ (Em hi);have hcv:=h.co v _ (Em (show v<b.Consumers.length by omega));have ki:key b (i:Int)=(b.Consumers.getD i default).Preference*100+(i:Int):=by unfold key;rw[aq]
  have kv:key b (v:Int)=(b.Consumers.getD v default).Preference*100+(v:Int):=by unfold key;rw[aq]
  refine c6 (λhq=>?_) (λhq=>?_)
  .simp only[Xz,ac,dF]at hq;have hlt:(b.Consumers.getD i default).Preference<(b.Consumers.getD v default).Preference:=by
    have:=hq.2;split at this
    .assumption
    .split at this <;> omega
   have e3:getI d (w64 ((j:Int)-1))=some (d.getD (j-1) 0):=by rw[e2,Tl]
   have e4:getI d (j:Int)=some (i:Int):=by rw[Tl,hI.here]
   rw[e3,e4];simp only[aa];rw[e2,Ev];simp only[aa];rw[Tl (by rw[bA];omega)];simp only[aa];rw[Ev (by rw[bA];omega)];simp only[aa];refine c7 ⟨⟨j-1,rfl,by omega,hI.step hj h0 hi ?_⟩,by dsimp only;omega⟩;rw[hv,ki,kv];omega
  .refine db (hI.done hj λ_=>?_);simp only[Xz,bQ,dG]at hq;have hge:¬(b.Consumers.getD i default).Preference<(b.Consumers.getD v default).Preference:=by
    intro hlt;rw[eT hlt]at hq;omega
   rw[hv,ki,kv];omega
 .have h00:j=0:=by omega
  subst h00;exact db (hI.done hj λhh=>by omega)
theorem Auy(h:Ad b)(hd:Srt b b.Consumers.length 0 d):Ok (Z2 d b) λy=>Srt b b.Consumers.length b.Consumers.length y.1:=by
 have hcl:=h.col;have hl:=hd.len;unfold Z2 Ae6;rw[hl];refine eJ (P:=λy=>Srt b b.Consumers.length b.Consumers.length y.1) ?_ λy hy=>eK hy;refine eI (A:=λs=>s=((0:Int),(20:Int),d,b.Buses,b.Breakers,b.Sources,b.Consumers,b.Phase,b.Frequency)) (B:=λ(_:Unit)=>False) ?_ (λs hs=>?_) eN
 .refine d6 (λs=>s=((0:Int),(20:Int),d,b.Buses,b.Breakers,b.Sources,b.Consumers,b.Phase,b.Frequency)) (λ_=>0) _ _ rfl (by omega) ?_;intro s hs;subst hs;unfold zM;dsimp only;refine c6 (λhq=>?_) (λ_=>db rfl);simp only[dF]at hq;omega
 .subst hs;dsimp only;refine eJ (P:=λy=>Srt b b.Consumers.length b.Consumers.length y.1) ?_ λy hy=>?_
  .unfold Z1;have e1:w64 (0+1)=1:=by rw[Ah];rfl
   rw[e1];refine eI (A:=λs=>Srt b b.Consumers.length b.Consumers.length s.2) (B:=λ(_:Unit)=>False) ?_ (λs hs=>eK hs) eN;refine d6 (λs=>∃i:Nat,s.1=(i:Int)/\1<=i/\(i<=b.Consumers.length\/b.Consumers.length=0)/\Srt b b.Consumers.length i s.2) (λs=>(100-s.1).toNat) _ _ ⟨1,rfl,by omega,by omega,?_⟩ (by dsimp only;omega) ?_
   .refine⟨hl,λk h1 h2=>?_,λk m h1 h2 h3=>by omega,λk h1 h2=>hd.rest k (by omega) h2,hd.mem⟩;have:k=0:=by omega
    subst this;have:=hd.rest 0 (ag _) h2;dsimp only;rw[this];omega
   .rintro⟨z,d'⟩ ⟨i,hz,h1,h2,hS⟩;dsimp only at hz hS;subst hz;unfold zK;dsimp only;refine c6 (λhq=>?_) (λhq=>db ?_)
    .simp only[dF]at hq;have hin:i<b.Consumers.length:=by omega
     refine Ok.inner (Arx h hin (hS.ins hin)) (λs hs=>?_) eN;have e2:w64 ((i:Int)+1)=((i+1:Nat):Int):=by rw[Ah];omega
     rw[e2];exact c7 ⟨⟨i+1,rfl,by omega,by omega,hs⟩,by dsimp only;omega⟩
    .simp only[dG]at hq;dsimp only;have hge:b.Consumers.length<=i:=by omega
     refine⟨hS.len,λk g1 g2=>?_,λk m g1 g2 g3=>hS.asc k m g1 (by omega) g3,λk g1 g2=>by omega,hS.mem⟩;obtain⟨w1,w2⟩:=hS.low k (by omega) g2;exact⟨w1,by omega⟩
  .refine eI (A:=λ_=>True) (B:=λ(_:Unit)=>False) ?_ (λs hs=>eK hy) eN;refine d6 (λ_=>True) (λ_=>0) _ _ trivial (by omega) ?_;intro s _;unfold zL;refine c6 (λhq=>?_) (λ_=>db trivial);simp only[dF]at hq;omega
def D3(b:c_):fb:=(uV b).getD []
theorem Kt(h:Ad b):uV b=some (D3 b)/\Srt b b.Consumers.length b.Consumers.length (D3 b):=by
 have hcl:=h.col;have key:Ok (uV b) λy=>Srt b b.Consumers.length b.Consumers.length y:=by
  unfold uV;rw[K1 h];simp only[aa];refine c6 (λhc=>by simp at hc) (λ_=>?_);refine eI (A:=λs=>s.2=Co b.Consumers.length) (B:=λ(_:Unit)=>False) ?_ (λs hs=>?_) eN
  .refine d6 (λs=>∃i:Nat,s.1=(i:Int)/\i<=b.Consumers.length/\s.2=Co i) (λs=>(100-s.1).toNat) _ _ ⟨0,rfl,by omega,rfl⟩ (by dsimp only;omega) ?_;rintro⟨z,d⟩ ⟨i,hz,h1,h2⟩;dsimp only at hz h2;subst hz;subst h2;unfold Ah7 Aol;dsimp only;refine c6 (λhq=>?_) (λhq=>db ?_)
   .simp only[dF]at hq;refine(d8 (by simp[Co];omega)).bind λy hy=>?_;have e2:w64 ((i:Int)+1)=((i+1:Nat):Int):=by rw[Ah];omega
    rw[e2];refine c7 ⟨⟨i+1,rfl,by omega,?_⟩,by dsimp only;omega⟩;dsimp only;rw[hy];unfold Co;rw[cq,bh];rfl
   grind
  .rw[hs];refine(Auy h ?_).bind λy hy=>eK hy;refine⟨by simp[Co],λk h1=>by omega,λk m _ h1=>by omega,λk _ h2=>Ls h2,λv hv=>⟨v,hv,Ls hv⟩⟩
 obtain⟨r,e,hr⟩:=key;have:D3 b=r:=by unfold D3;rw[e];rfl
 rw[this];exact⟨e,hr⟩
variable{c:Int}
theorem S5(h:Ad b)(hc:c∈D3 b):0<=c/\c<b.Consumers.length:=by have hs:=(Kt h).2;obtain⟨k,hk⟩:=cX.1 hc;have hlt:=(ab.1 hk).1;have:=hs.low k (by have:=hs.len;omega) (by have:=hs.len;omega);grind
theorem Vq(h:Ad b):(D3 b).length=b.Consumers.length:=(Kt h).2.len
theorem yJ(h:Ad b):(D3 b).Nodup:=by have hs:=(Kt h).2;have hl:=hs.len;rw[cQ,cg];intro i j hi hj hij e;have:=hs.asc i j hij (by omega) (by omega);grind
def J0(L:fb)(l:fb):Int:=l.foldl (λs c=>s+L.getD c.toNat 0) 0
theorem Oc(L:fb)(l:fb)(c:Int):J0 L (l++[c])=J0 L l+L.getD c.toNat 0:=by grind[J0]
def Av(b:c_)(p:dZ)(n:Nat):Nat:=((groups b p).getD n 0).toNat
def Bg(b:c_)(p:dZ)(n:Nat):Int:=if 0<(isl b p (Av b p n)).Sources.length then J0 p.Limits (isl b p (Av b p n)).Consumers else 0
def Lc(b:c_):fb:=b.Sources.map (·.Rating)
def Db(b:c_)(p:dZ)(n:Nat):Int:=J0 (Lc b) (isl b p (Av b p n)).Sources
variable{i:Int}
theorem G6(hi:i∈(isl b p f).Consumers):0<=i/\i<b.Consumers.length:=by obtain⟨k,hk,rfl⟩:=an.1 hi;grind
theorem Kx(hi:i∈(isl b p f).Sources):0<=i/\i<b.Sources.length:=by obtain⟨k,hk,rfl⟩:=an.1 hi;grind
theorem O2(h:Ad b)(hp:Aa b p)(h0:0<=c)(h1:c<b.Consumers.length):getI p.Limits c=some (p.Limits.getD c.toNat 0)/\0<=p.Limits.getD c.toNat 0/\p.Limits.getD c.toNat 0<=(b.Consumers.getD c.toNat default).Load/\p.Limits.getD c.toNat 0<=50000:=by have hn:=hp.nli;obtain⟨k,rfl⟩:∃k:Nat,c=(k:Int):=⟨c.toNat,by omega⟩;rw[aq];have hg:=Em (b:=b) (i:=k);have hl:=hp.lim k _ _ (Kw (p:=p)) hg;have hc:=(h.co k _ hg).1;exact⟨Al (Kw),hl.1,hl.2,by omega⟩
theorem Ase(h0:0<=c)(h1:c<b.Consumers.length):getI b.Consumers c=some (b.Consumers.getD c.toNat default):=by obtain⟨k,rfl⟩:∃k:Nat,c=(k:Int):=⟨c.toNat,by omega⟩;rw[aq];exact Al (Em)
theorem Io(h:Ad b)(hp:Aa b p)(hn:n<b.Buses.toNat):Ya b p (n:Int)=some (Bg b p n)/\0<=Bg b p n/\Bg b p n<=800000:=by
 have hcl:=h.col;have hlen:(isl b p (Av b p n)).Consumers.length<=b.Consumers.length:=Dd _ _;have key:Ok (Ya b p (n:Int)) λy=>y=Bg b p n/\0<=Bg b p n/\Bg b p n<=800000:=by
  unfold Ya;have hof:Hz b p (n:Int)=some (isl b p (Av b p n),true):=of_eq h hp hn;rw[hof];simp only[aa];refine eI (A:=λs=>s=Bg b p n/\0<=Bg b p n/\Bg b p n<=800000) (B:=λ(_:Unit)=>False) ?_ (λs hs=>eK hs) eN;by_cases hs:0<(isl b p (Av b p n)).Sources.length
  .refine c8 (I:=λj s=>s=J0 p.Limits ((isl b p (Av b p n)).Consumers.take j)/\0<=s/\s<=50000*(j:Int)) ⟨rfl,by omega,by omega⟩ (λj c s hc hI=>?_) λs hI=>?_
   .obtain⟨h1,h2,h3⟩:=hI;have hj:j<(isl b p (Av b p n)).Consumers.length:=(ab.1 hc).1;have hcm:=G6 (ae hc);obtain⟨g1,g2,g3,g4⟩:=O2 h hp hcm.1 hcm.2;unfold uU;have e:decide (((isl b p (Av b p n)).Sources.length:Int)>0)=true:=dK (by omega);show Ok (bif decide (((isl b p (Av b p n)).Sources.length:Int)>0)then _ else _) _;rw[e,g1];simp only[eO,aa];rw[Ah];refine c7 ⟨?_,by omega,by omega⟩;rw[An hc,Oc,h1]
   .rw[am]at hI;have e:Bg b p n=J0 p.Limits (isl b p (Av b p n)).Consumers:=by unfold Bg;rw[eT hs]
    grind
  .have e:Bg b p n=0:=by unfold Bg;rw[eU hs]
   rw[e];refine c8 (I:=λ_ s=>s=0) rfl (λj c s hc hI=>?_) λs hI=>⟨hI,by omega,by omega⟩;unfold uU;have e:decide (((isl b p (Av b p n)).Sources.length:Int)>0)=false:=dL (by omega);show Ok (bif decide (((isl b p (Av b p n)).Sources.length:Int)>0)then _ else _) _;rw[e];exact c7 hI
 obtain⟨r,e,h1,h2⟩:=key;rw[h1]at e;exact⟨e,h2⟩
theorem Gv(h:Ad b)(hp:Aa b p)(hn:n<b.Buses.toNat):Yb b p (n:Int)=some (Db b p n)/\0<=Db b p n/\Db b p n<=400000:=by
 have hcl:=h.sol;have hlen:(isl b p (Av b p n)).Sources.length<=b.Sources.length:=Dd _ _;have key:Ok (Yb b p (n:Int)) λy=>y=Db b p n/\0<=Db b p n/\Db b p n<=400000:=by
  unfold Yb;have hof:Hz b p (n:Int)=some (isl b p (Av b p n),true):=of_eq h hp hn;rw[hof];simp only[aa];refine eI (A:=λs=>s=Db b p n/\0<=Db b p n/\Db b p n<=400000) (B:=λ(_:Unit)=>False) ?_ (λs hs=>eK hs) eN;refine c8 (I:=λj s=>s=J0 (Lc b) ((isl b p (Av b p n)).Sources.take j)/\0<=s/\s<=50000*(j:Int)) ⟨rfl,by omega,by omega⟩ (λj c s hc hI=>?_) λs hI=>?_
  .obtain⟨h1,h2,h3⟩:=hI;have hj:j<(isl b p (Av b p n)).Sources.length:=(ab.1 hc).1;have hcm:=Kx (ae hc);unfold Ah6;refine(d7 hcm.1 hcm.2).bind λy hy=>?_;have hr:=(h.so y (ae hy)).1;have e:(Lc b).getD c.toNat 0=y.Rating:=by simp[Lc,List.getD,hy]
   rw[Ah];refine c7 ⟨?_,by omega,by omega⟩;rw[An hc,Oc,h1,e]
  .rw[am]at hI;unfold Db;grind
 obtain⟨r,e,h1,h2⟩:=key;rw[h1]at e;exact⟨e,h2⟩
def Cm(b:c_)(p:dZ)(n:Nat):Int:=max 0 (Bg b p n-Db b p n)
theorem yO(h:Ad b)(hp:Aa b p)(acts:List a_)(hn:n<b.Buses.toNat):Uo ⟨b,p,acts⟩ (n:Int)=some (Cm b p n):=by obtain⟨h1,h2,h3⟩:=Io h hp hn;obtain⟨h4,h5,h6⟩:=Gv h hp hn;unfold Uo;simp only[h1,h4,aa];rw[Ah];rfl
theorem Avs(h:Ad b)(hp:Aa b p)(hn:n<b.Buses.toNat):0<=Cm b p n/\Cm b p n<=800000:=by obtain⟨h1,h2,h3⟩:=Io h hp hn;obtain⟨h4,h5,h6⟩:=Gv h hp hn;unfold Cm;omega
def As(p:dZ)(L:fb):dZ:=⟨p.Closed,p.Sources,L,p.Broken⟩
def A1(p:dZ)(C:fe):dZ:=⟨C,p.Sources,p.Limits,p.Broken⟩
def Cq(b:c_)(p:dZ)(n:Nat)(c:Int):Int:=min (Cm b p n) (p.Limits.getD c.toNat 0-(b.Consumers.getD c.toNat default).Least)
def Fi(b:c_)(p:dZ)(n:Nat)(z:fb×List a_)(c:Int):fb×List a_:=
 if 0<Cq b (As p z.1) n c then (z.1.set c.toNat (z.1.getD c.toNat 0-Cq b (As p z.1) n c),z.2++[⟨5,c,z.1.getD c.toNat 0-Cq b (As p z.1) n c⟩]) else z
def Ei(b:c_)(p:dZ)(n:Nat)(l:fb)(z:fb×List a_):fb×List a_:=l.foldl (Fi b p n) z
theorem yC(hp:Aa b p){c:Nat}(hv:0<=v/\v<=(b.Consumers.getD c default).Load):Aa b (As p (p.Limits.set c v)) where
 ncl:=hp.ncl
 nso:=hp.nso
 nli:=by simp[As,hp.nli]
 run:=hp.run
 lim i n x hn hx:=by
  simp only[As,aK]at hn;by_cases e:c=i
  .grind
  .rw[eU e]at hn;exact hp.lim i n x hn hx
 one:=hp.one
 brk:=hp.brk
theorem Vu(h:Ad b){z:fb×List a_}(hz:Aa b (As p z.1))(h0:0<=c)(h1:c<b.Consumers.length):Aa b (As p (Fi b p n z c).1):=by
 unfold Fi;split
 .rename_i hl;obtain⟨_,g2,g3,_⟩:=O2 h hz h0 h1;have hco:=(h.co c.toNat _ (Em (b:=b) (i:=c.toNat))).2.1;have hm:Cq b (As p z.1) n c<=z.1.getD c.toNat 0-(b.Consumers.getD c.toNat default).Least:=Int.min_le_right _ _;exact yC (p:=As p z.1) hz (c:=c.toNat) ⟨by omega,by have:(As p z.1).Limits.getD c.toNat 0=z.1.getD c.toNat 0:=rfl;omega⟩
 .exact hz
theorem Abx(h:Ad b)(hp:Aa b p)(hl:∀c,c∈l->0<=c/\c<b.Consumers.length)(ha:acts.length+l.length<=100000)(hn:n<b.Buses.toNat) :
  Ux ⟨b,p,acts⟩ l (n:Int)=some ⟨b,As p (Ei b p n l (p.Limits,acts)).1,(Ei b p n l (p.Limits,acts)).2⟩/\Aa b (As p (Ei b p n l (p.Limits,acts)).1)/\(Ei b p n l (p.Limits,acts)).2.length<=acts.length+l.length:=by
 have key : Ok (Ux ⟨b, p, acts⟩ l (n : Int)) λy => y = ⟨b, As p (Ei b p n l (p.Limits, acts)).1, (Ei b p n l (p.Limits, acts)).2⟩ /\ Aa b (As p (Ei b p n l (p.Limits, acts)).1) /\ (Ei b p n l (p.Limits, acts)).2.length <= acts.length + l.length := by
  unfold Ux;refine eI (A:=λs=>s=Ei b p n l (p.Limits,acts)/\Aa b (As p s.1)/\s.2.length<=acts.length+l.length) (B:=λ(_:Unit)=>False) ?_ (λs hs=>?_) eN
  .refine c8 (I:=λj s=>s=Ei b p n (l.take j) (p.Limits,acts)/\Aa b (As p s.1)/\s.2.length<=acts.length+j) ⟨rfl,hp,by simp⟩ (λj c s hc hI=>?_) λs hI=>?_
   .obtain⟨h1,h2,h3⟩:=hI;have hj:j<l.length:=(ab.1 hc).1;have hin:=hl c (ae hc);obtain⟨g1,g2,g3,g4⟩:=O2 h h2 hin.1 hin.2;have hco:=(h.co c.toNat _ (Em (b:=b) (i:=c.toNat))).2.1;have hcl:=(h.co c.toNat _ (Em (b:=b) (i:=c.toNat))).1;have hex:=Avs h h2 hn;have hE:=yO h h2 s.2 hn;have hsucc:Ei b p n (l.take (j+1)) (p.Limits,acts)=Fi b p n s c:=by
     rw[An hc,h1];unfold Ei;rw[aN];rfl
    have hok:=Vu (n:=n) h h2 hin.1 hin.2;have hless:w64 ((As p s.1).Limits.getD c.toNat 0-(b.Consumers.getD c.toNat default).Least)=(As p s.1).Limits.getD c.toNat 0-(b.Consumers.getD c.toNat default).Least:=Ah;have hlen:s.1.length=b.Consumers.length:=h2.nli;unfold zP;refine eJ (P:=λy=>y=Cm b (As p s.1) n) (d9 hE rfl) λy hy=>?_;subst hy;refine eJ (P:=λy=>y=(As p s.1).Limits.getD c.toNat 0) (d9 g1 rfl) λy hy=>?_;subst hy;refine eJ (P:=λy=>y=b.Consumers.getD c.toNat default) (d9 (Ase hin.1 hin.2) rfl) λy hy=>?_;subst hy;have em:min (Cm b (As p s.1) n) (w64 ((As p s.1).Limits.getD c.toNat 0-(b.Consumers.getD c.toNat default).Least))=Cq b (As p s.1) n c:=by rw[hless];rfl
    have hlb:0<Cq b (As p s.1) n c->0<=(As p s.1).Limits.getD c.toNat 0-Cq b (As p s.1) n c/\(As p s.1).Limits.getD c.toNat 0-Cq b (As p s.1) n c<=50000:=λhh=>by have hm:Cq b (As p s.1) n c<=(As p s.1).Limits.getD c.toNat 0-(b.Consumers.getD c.toNat default).Least:=Int.min_le_right _ _;omega
    refine c6 (λhq=>?_) (λhq=>?_)
    .simp only[X1,em,dF,gt_iff_lt]at hq;have hb2:=hlb hq;rw[em,Ah];have eS:Fi b p n s c=(s.1.set c.toNat (s.1.getD c.toNat 0-Cq b (As p s.1) n c),s.2++[⟨5,c,s.1.getD c.toNat 0-Cq b (As p s.1) n c⟩]):=by unfold Fi;rw[eT hq]
     refine(da hin.1).bind λy hy=>?_;subst hy;refine eJ (P:=λv=>v=s.1.getD c.toNat 0-Cq b (As p s.1) n c) ?_ λv hv=>?_
     .refine(d7 hin.1 (by rw[bA];omega)).mono λv hv=>?_;rw[bH (by omega)]at hv;cases hv;rfl
     .subst hv;refine(d8 (by simp;omega)).bind λw hw=>c7 ?_;subst hw;rw[hsucc,eS];rw[eS]at hok;exact⟨rfl,hok,by simp;omega⟩
    .simp only[X1,em,dG,gt_iff_lt]at hq;have eS:Fi b p n s c=s:=by unfold Fi;rw[eU hq]
     refine c7 ?_;rw[hsucc,eS];exact⟨rfl,h2,by show s.2.length<=_;omega⟩
   .rw[am]at hI;exact hI
  .obtain⟨h1,h2,h3⟩:=hs;subst h1;exact eK ⟨rfl,h2,h3⟩
 obtain⟨r,e,h1,h2⟩:=key;rw[h1]at e;exact⟨e,h2⟩
def isC(c:Int)(x:dU):Bool:=x.Kind==3&&x.B==c
theorem Amc(h:Ad b)(hp:Aa b p)(ha:acts.length<=100000)(c:Int):Z7 ⟨b,p,acts⟩ c=some (⟨b,A1 p (acC b p.Closed (isC c)),acts++acA b p.Closed (isC c)⟩,c):=by
 have hbl:=h.brl;have hnc:=hp.ncl;refine de ?_;unfold Z7;refine eI (A:=λs=>s=Be b p.Closed (isC c) b.Breakers.length) (B:=λ(_:Unit)=>False) ?_ (λs hs=>?_) eN
 .refine c8 (I:=λj s=>s=Be b p.Closed (isC c) j) rfl (λj x s hx hs=>?_) λs hs=>hs;have hj:j<b.Breakers.length:=(ab.1 hx).1;have hfl:=El b p.Closed (isC c) j;have hfs:=Kb (C:=p.Closed) (q:=isC c) hx;subst hs;unfold zQ;rw[Bf,Al (T7 hp hj)];simp only[aa];have e:Ae9 x c=isC c x:=rfl;rw[e,hfs];cases (p.Closed.getD j false&&isC c x) with
  |false=>refine c7 ?_;simp
  |true=>refine eJ (P:=λy=>y=Be b p.Closed (isC c) j++[(j:Int)]) (d8 (by simp;omega)) λy hy=>c7 ?_;rw[hy];simp
 .subst hs;have hfl:=El b p.Closed (isC c) b.Breakers.length;refine eI (Xj (b:=b) (p:=p) (acts:=acts) (l:=Be b p.Closed (isC c) b.Breakers.length) (by omega) λi hi=>?_) (λs hs=>?_) eN
  .obtain⟨k,rfl,hk,_⟩:=Fy.1 hi;omega
  .subst hs;exact eK rfl
def Eg(b:c_)(p:dZ)(n:Nat)(z:fe×List a_)(c:Int):fe×List a_:=
 if 0<p.Limits.getD c.toNat 0/\0<Cm b (A1 p z.1) n then (acC b z.1 (isC c),z.2++acA b z.1 (isC c)) else z
def C6(b:c_)(p:dZ)(n:Nat)(l:fb)(z:fe×List a_):fe×List a_:=l.foldl (Eg b p n) z
theorem Agv(h:Ad b)(hp:Aa b p)(hl:∀c,c∈l->0<=c/\c<b.Consumers.length)(ha:acts.length+24*l.length<=100000)(hn:n<b.Buses.toNat) :
  Uw ⟨b,p,acts⟩ l (n:Int)=some ⟨b,A1 p (C6 b p n l (p.Closed,acts)).1,(C6 b p n l (p.Closed,acts)).2⟩/\Aa b (A1 p (C6 b p n l (p.Closed,acts)).1)/\(C6 b p n l (p.Closed,acts)).2.length<=acts.length+24*l.length:=by
 have hbl:=h.brl
 have key : Ok (Uw ⟨b, p, acts⟩ l (n : Int)) λy => y = ⟨b, A1 p (C6 b p n l (p.Closed, acts)).1, (C6 b p n l (p.Closed, acts)).2⟩ /\ Aa b (A1 p (C6 b p n l (p.Closed, acts)).1) /\ (C6 b p n l (p.Closed, acts)).2.length <= acts.length + 24 * l.length := by
  unfold Uw;refine eI (A:=λs=>∃z:fe×List a_,s=(b.Buses,b.Breakers,b.Sources,b.Consumers,b.Phase,b.Frequency,z.1,p.Sources,p.Limits,p.Broken,z.2)/\z=C6 b p n l (p.Closed,acts)/\Aa b (A1 p z.1)/\z.2.length<=acts.length+24*l.length) (B:=λ(_:Unit)=>False) ?_ (λs hs=>?_) eN
  .refine c8 (I:=λj s=>∃z:fe×List a_,s=(b.Buses,b.Breakers,b.Sources,b.Consumers,b.Phase,b.Frequency,z.1,p.Sources,p.Limits,p.Broken,z.2)/\z=C6 b p n (l.take j) (p.Closed,acts)/\Aa b (A1 p z.1)/\z.2.length<=acts.length+24*j) ⟨(p.Closed,acts),rfl,rfl,hp,by simp⟩ (λj c s hc hI=>?_) λs hI=>?_
   .obtain⟨z,h0,h1,h2,h3⟩:=hI;subst h0;have hj:j<l.length:=(ab.1 hc).1;have hin:=hl c (ae hc);obtain⟨g1,g2,g3,g4⟩:=O2 h hp hin.1 hin.2;have hE:=yO h h2 z.2 hn;have hsucc:C6 b p n (l.take (j+1)) (p.Closed,acts)=Eg b p n z c:=by
     rw[An hc,h1];unfold C6;rw[aN];rfl
    unfold zO;refine eJ (P:=λy=>y=p.Limits.getD c.toNat 0) (d9 g1 rfl) λy hy=>?_;subst hy;have stay:¬(0<p.Limits.getD c.toNat 0/\0<Cm b (A1 p z.1) n)->∃w:fe×List a_,(b.Buses,b.Breakers,b.Sources,b.Consumers,b.Phase,b.Frequency,z.1,p.Sources,p.Limits,p.Broken,z.2)=(b.Buses,b.Breakers,b.Sources,b.Consumers,b.Phase,b.Frequency,w.1,p.Sources,p.Limits,p.Broken,w.2)/\w=C6 b p n (l.take (j+1)) (p.Closed,acts)/\Aa b (A1 p w.1)/\w.2.length<=acts.length+24*(j+1):=λhh=>by
     have eS:Eg b p n z c=z:=by unfold Eg;rw[eU hh]
     exact⟨z,rfl,by rw[hsucc,eS],h2,by omega⟩
    cases hq:decide (p.Limits.getD c.toNat 0>0) with
    |false=>simp only[dG]at hq;exact c7 (stay λhh=>hq hh.1)
    | true=>
     simp only[dF]at hq;refine eJ (P:=λy=>y=Cm b (A1 p z.1) n) (d9 hE rfl) λy hy=>?_;subst hy;cases hq2:decide (Cm b (A1 p z.1) n>0) with
     |false=>simp only[dG]at hq2;exact c7 (stay λhh=>hq2 hh.2)
     |true=>
      simp only[dF]at hq2;have hS:=Amc h h2 (acts:=z.2) (by omega) c;refine eJ (P:=λy=>y=_) (d9 hS rfl) λy hy=>c7 ?_;subst hy;have eS:Eg b p n z c=(acC b z.1 (isC c),z.2++acA b z.1 (isC c)):=by unfold Eg;rw[eT ⟨hq,hq2⟩]
      refine⟨(acC b z.1 (isC c),z.2++acA b z.1 (isC c)),rfl,by rw[hsucc,eS],L8 h2 (isC c),?_⟩;have:=P8 b z.1 (isC c);grind
   .rw[am]at hI;exact hI
  .obtain⟨z,h0,h1,h2,h3⟩:=hs;subst h0;subst h1;exact eK ⟨rfl,h2,h3⟩
 obtain⟨r,e,h1,h2⟩:=key;rw[h1]at e;exact⟨e,h2⟩
end Go.Proofs.YtkcebipolafapaaGreat
