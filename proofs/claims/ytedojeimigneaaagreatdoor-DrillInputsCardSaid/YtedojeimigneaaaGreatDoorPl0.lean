import Derived.Test.YtedojeimigneaaaGreatDoorMo
import Derived.Test.YtedojeimigneaaaGreatDoorHo
import Derived.Test.YtedojeimigneaaaGreatDoorDx
namespace Go.Proofs.YtedojeimigneaaaGreatDoor
open Go.SL
variable{α:Type}{x y:Aa}{s s0:Ab}{b:Ae}{p q w w0:Af}{z:Ai×Bool}{f:Am}{like:An}{v:Ar}{a k m nb st:Int}{br l:List Aa}{l0:List Ai}{ss:List An}{as as0:List Be}{c g t:eB}{so:List Ca}{C d idx:ez}{B i j n ns r:Nat}
variable{n:Int}
theorem ee{A:Type}{Q:A->Prop}(v:A)(h:False):Q v:=h.elim
theorem R5{x:Int}(h:0<n):-n<Int.tmod x n/\Int.tmod x n<n:=by have h1:=Int.tmod_lt_of_pos x h;have h2:=Int.lt_tmod_of_pos x h;exact⟨h2,h1⟩
theorem qS{x:Int}(h:0<n)(h0:0<=x):0<=Int.tmod x n/\Int.tmod x n<n:=⟨Int.tmod_nonneg n h0,(R5 h).2⟩
structure A3(s:Ab):Prop where
 lo:0<=s.At
 hi:s.At<=s.L.length
 len:s.L.length<=600
def InR(n r:Int):Prop:=(1<=n->0<=r/\r<n)/\(n<1->r=0)
theorem A68(x n:Int)(h:n<=4611686018427387904):Ok (F30 x n) (InR n):=by
 unfold F30;refine c7 (λh1=>?_) λh1=>?_
 .simp only[dM]at h1;exact ed ⟨λh2=>by omega,λ_=>rfl⟩
 .simp only[dN]at h1;refine(Ok.nzI (by omega)).bind λ_ _=>(Ok.nzI (by omega)).bind λ_ _=>ed ⟨λ_=>?_,λh2=>by omega⟩;have h2:=R5 (x:=x) (n:=n) (by omega);rw[A4];exact qS (by omega) (by omega)
theorem Bfa(hs:A3 s)(n:Int)(h:n<=4611686018427387904):Ok (F15 s n) λy=>A3 y.2/\InR n y.1:=by
 obtain⟨h1,h2,h3⟩:=hs;unfold F15;refine c7 (λh4=>?_) λh4=>?_
 .exact ed ⟨⟨h1,h2,h3⟩,λh5=>⟨by simp,by show (0:Int)<n;omega⟩,λ_=>rfl⟩
 .simp only[dN]at h4;have e:w64 (s.At+1)=s.At+1:=A4;rw[e,A4 (n:=s.At+1-1)];refine(d5 (by omega) (by omega)).bind λx _=>(A68 x n h).bind λr hr=>ed ⟨⟨?_,?_,h3⟩,hr⟩
  .show 0<=s.At+1;omega
  grind
theorem Dc(hs:A3 s)(n:Int)(h0:1<=n)(h:n<=4611686018427387904):Ok (F15 s n) λy=>A3 y.2/\0<=y.1/\y.1<n:=
 (Bfa hs n h).mono λ_ h=>⟨h.1,h.2.1 h0⟩
theorem Jr(hs:A3 s)(lo hi:Int)(h:lo<=hi)(h0:-1000000000000<=lo)(h1:hi<=1000000000000:=by omega):Ok (F39 s lo hi) λy=>A3 y.2/\lo<=y.1/\y.1<=hi:=by
 unfold F39;have e:w64 (w64 (hi-lo)+1)=hi-lo+1:=by rw[A4 (n:=hi-lo),A4]
 rw[e];refine(Dc hs _ (by omega) (by omega)).bind λy hy=>ed ⟨hy.1,?_⟩;have:=hy.2;show lo<=w64 (lo+y.1)/\w64 (lo+y.1)<=hi;rw[A4];omega
theorem Bi(hs:A3 s)(l:ez)(h:1<=l.length)(h1:l.length<=1000):Ok (F18 s l) λy=>A3 y.2/\y.1∈l:=by unfold F18;grind[Ok.bind,Dc,d5,Ok.pure]
theorem A67(l:ez):Ok (F5 l) A3:=by unfold F5;refine(Ok.cutI (by omega) (by omega) (by omega)).bind λy hy=>ed ⟨by simp,by simp,?_⟩;grind
def Ty(nb:Int)(ns nc:Nat)(x:Ai):Prop:=
 (0<=x.A/\x.A<nb)/\((x.Kind=1/\x.A<x.B/\x.B<nb)\/(x.Kind=2/\0<=x.B/\x.B<ns)\/(x.Kind=3/\0<=x.B/\x.B<nc))
def brs(l:List Ai)(k:Int)(i:Nat):List Ai:=l.filter λx=>x.Kind==k&&x.B==(i:Int)
def Ali(x:Ca):Prop:=(1<=x.Rating/\x.Rating<=50000)/\(0<=x.Least/\x.Least<=x.Rating)/\0<=x.Start/\x.Start<=600
def Am2(i:Nat)(x:Bb):Prop:=
 (0<=x.Load/\x.Load<=50000)/\(0<=x.Least/\x.Least<=x.Load)/\(0<=x.Dk/\x.Dk<=15)/\(-1<=x.Thruster/\x.Thruster<=7)/\x.Needs.length<=4 /\
 (∀n,n∈x.Needs->0<=n/\n<(i:Int))/\∀(j:Nat) a b,x.Needs[j]?=some a->x.Needs[j+1]?=some b->a<b
structure A1(b:Ae):Prop where
 buses:1<=b.Ap/\b.Ap<=6
 brl:b.Ag.length<=24
 sol:b.Ad.length<=8
 col:b.Aj.length<=16
 phase:0<=b.Phase/\b.Phase<=1800
 freq:0<=b.Ax/\b.Ax<=6000
 br:∀x,x∈b.Ag->Ty b.Ap b.Ad.length b.Aj.length x
 one:∀i,i<b.Ad.length->(brs b.Ag 2 i).length=1
 any:∀i,i<b.Aj.length->brs b.Ag 3 i≠[]
 nodup:∀i,((brs b.Ag 3 i).map (·.A)).Nodup
 so:∀x,x∈b.Ad->Ali x
 co:∀(i:Nat) x,b.Aj[i]?=some x->Am2 i x
theorem J3(l m:List Ai)(k:Int)(i:Nat):brs (l++m) k i=brs l k i++brs m k i:=by unfold brs;rw[bQ]
theorem Aht(x:Ai)(k:Int)(i:Nat):brs [x] k i=if x.Kind=k/\x.B=(i:Int)then [x] else []:=by unfold brs;grind
variable{l:List Ai}
theorem L8(h:∀x,x∈l->x.Kind=k->x.B≠(i:Int)):brs l k i=[]:=by unfold brs;rw[cT];grind
def Nl(nb:Int)(l:List Ai):Prop:=∀x,x∈l->x.Kind=1/\0<=x.A/\x.A<x.B/\x.B<nb
structure Qk(nb:Int)(l:List Ai)(so:List Ca):Prop where
 len:l.length<=4+so.length
 br:∀x,x∈l->(0<=x.A/\x.A<nb)/\((x.Kind=1/\x.A<x.B/\x.B<nb)\/(x.Kind=2/\0<=x.B/\x.B<so.length))
 one:∀i,i<so.length->(brs l 2 i).length=1
 so:∀x,x∈so->Ali x
structure Tx(nb:Int)(l:List Ai)(ns:Nat)(co:List Bb):Prop where
 len:l.length<=4+ns+2*co.length
 br:∀x,x∈l->Ty nb ns co.length x
 one:∀i,i<ns->(brs l 2 i).length=1
 any:∀i,i<co.length->brs l 3 i≠[]
 nodup:∀i,((brs l 3 i).map (·.A)).Nodup
 co:∀(i:Nat) x,co[i]?=some x->Am2 i x/\x.Thruster<=7
theorem Qk.cons(h:Qk nb l so):Tx nb l so.length [] where
 len:=by have:=h.len;simp;omega
 br x hx:=by obtain⟨h1,h2⟩:=h.br x hx;exact⟨h1,h2.imp id .inl⟩
 one:=h.one
 any i hi:=by simp at hi
 nodup i:=by
  rw[L8]
  .simp
  .intro x hx h3;obtain⟨_,h2⟩:=h.br x hx;omega
 co i x hx:=by simp at hx
theorem Qk.add(h:Qk nb l so){x:Ai}{y:Ca}(hx:x.Kind=2/\x.B=so.length/\0<=x.A/\x.A<nb)(hy:Ali y):Qk nb (l++[x]) (so++[y]) where
 len:=by have:=h.len;simp;omega
 br z hz:=by
  rcases aw.1 hz with hz|hz
  .obtain⟨h1,h2⟩:=h.br z hz;grind
  grind
 one i hi:=by
  rw[aP]at hi;simp only[aT,bn]at hi;rw[J3,Aht,aP];by_cases e:i=so.length
  .rw[L8,ei ⟨hx.1,by omega⟩]
   .rfl
   .intro z hz h2;obtain⟨_,h3⟩:=h.br z hz;omega
  .rw[h.one i (by omega),em (by omega)];rfl
 so z hz:=by
  rcases aw.1 hz with hz|hz
  .exact h.so z hz
  .simp at hz;subst hz;exact hy
theorem Tx.add{m:List Ai}{co:List Bb}(h:Tx nb l ns co){y:Bb}(hm:∀x,x∈m->x.Kind=3/\x.B=co.length/\0<=x.A/\x.A<nb)(h1:m≠[])(h2:m.length<=2)(h3:(m.map (·.A)).Nodup)
  (hy:Am2 co.length y/\y.Thruster<=7):Tx nb (l++m) ns (co++[y]):=by
 have e1:brs m 3 co.length=m:=by unfold brs;rw[List.filter_eq_self];intro x hx;obtain⟨g1,g2,_⟩:=hm x hx;simp[g1,g2]
 have e2:∀i,i≠co.length->brs m 3 i=[]:=λi hi=>L8 λx hx _ e=>by have:=(hm x hx).2.1;omega
 have e3:brs l 3 co.length=[]:=L8 λx hx h3 e=>by obtain⟨_,g⟩:=h.br x hx;omega
 have hlen:(co++[y]).length=co.length+1:=by simp
 refine⟨?_,λz hz=>?_,λi hi=>?_,λi hi=>?_,λi=>?_,λi x hx=>?_⟩
 .have:=h.len;rw[aP,hlen];omega
 .rw[hlen];rcases aw.1 hz with hz|hz
  .obtain⟨g1,g2⟩:=h.br z hz;exact⟨g1,by omega⟩
  .obtain⟨g1,g2,g3⟩:=hm z hz;exact⟨g3,by omega⟩
 .have:brs m 2 i=[]:=L8 λx hx h2=>by have:=(hm x hx).1;omega
  rw[J3,this,aZ];exact h.one i hi
 .rw[J3];rw[hlen]at hi;by_cases e:i=co.length
  .subst e;rw[e1];simp[h1]
  .have:=h.any i (by omega);simp[this]
 .rw[J3];by_cases e:i=co.length
  .subst e;rw[e1,e3];simpa using h3
  .rw[e2 i e,aZ];exact h.nodup i
 .rw[cY]at hx;split at hx
  .exact h.co i x hx
  grind
theorem Nl.nil(nb:Int):Nl nb []:=λx hx=>by cases hx
theorem Nl.add(h:Nl nb l){x:Ai}(hx:x.Kind=1/\0<=x.A/\x.A<x.B/\x.B<nb):Nl nb (l++[x]):=λz hz=>by
 rcases aw.1 hz with hz|hz
 .exact h z hz
 .simp at hz;subst hz;exact hx
theorem Nl.gens(h:Nl nb l)(hl:l.length<=4):Qk nb l [] where
 len:=by simpa using hl
 br x hx:=by have:=h x hx;exact⟨by omega,.inl (by omega)⟩
 one i hi:=by simp at hi
 so x hx:=by cases hx
variable{y:Int×Ab}
theorem Aup(hy:1<=y.1/\y.1<=4)(hs0:A3 s0) :
  Ok (whileN (Afh y) 1152921504606846976 (1,s0.L,s0.At,([]:List Ai))) (Hg (λs=>A3 ⟨s.2.1,s.2.2.1⟩/\Nl y.1 s.2.2.2/\s.2.2.2.length<=3) (λ(_:Unit)=>False)):=by
 refine d4 (λs=>(1<=s.1/\s.1<=4/\s.1<=y.1)/\A3 ⟨s.2.1,s.2.2.1⟩/\Nl y.1 s.2.2.2/\(s.2.2.2.length:Int)+1<=s.1) (λs=>(y.1-s.1).toNat) _ _ ?_ ?_ ?_
 .exact⟨by dsimp only;omega,hs0,Nl.nil _,by simp⟩
 .dsimp only;omega
 .rintro⟨i,L,a,l⟩ ⟨⟨h1,h2,h3⟩,h4,h5,h6⟩;dsimp only at h1 h2 h3 h4 h5 h6;unfold Afh;refine c7 (λh=>?_) (λh=>?_)
  .simp only[dM]at h;have e:w64 (i+1)=i+1:=A4;dsimp only;rw[e];refine(Dc h4 6 (by omega) (by omega)).bind λu hu=>c7 (λ_=>?_) (λ_=>?_)
   .refine(Dc hu.1 i h1 (by omega)).bind λv hv=>(d6 (by simp;omega)).bind λm hm=>c8 ?_;subst hm;have:=hv.2;refine⟨⟨by dsimp only;omega,hv.1,h5.add ⟨rfl,by dsimp only;omega,by dsimp only;omega,by dsimp only;omega⟩,by simp;omega⟩,by dsimp only;omega⟩
   .refine c8 ⟨⟨by dsimp only;omega,hu.1,h5,by dsimp only;omega⟩,by dsimp only;omega⟩
  .exact d9 ⟨h4,h5,by dsimp only;omega⟩
theorem Auo(hy:1<=y.1/\y.1<=4)(hs0:A3 s0)(hk:0<=k/\k<5)(hl0:Qk y.1 l0 []) :
  Ok (whileN (Afg y) 1152921504606846976 (k,s0.L,s0.At,l0,([]:List Ca))) (Hg (λs=>A3 ⟨s.2.1,s.2.2.1⟩/\Qk y.1 s.2.2.2.1 s.2.2.2.2/\s.2.2.2.2.length<=4) (λ(_:Unit)=>False)):=by
 refine d4 (λs=>(0<=s.1/\s.1+(s.2.2.2.2.length:Int)<=4)/\A3 ⟨s.2.1,s.2.2.1⟩/\Qk y.1 s.2.2.2.1 s.2.2.2.2) (λs=>s.1.toNat) _ _ ?_ ?_ ?_
 .exact⟨by simp;omega,hs0,hl0⟩
 .dsimp only;omega
 .rintro⟨i,L,a,l,so⟩ ⟨⟨h1,h2⟩,h4,h5⟩;dsimp only at h1 h2 h4 h5;unfold Afg;refine c7 (λh=>?_) (λh=>?_)
  .simp only[dM]at h;have e:w64 (i-1)=i-1:=A4;have hl:=h5.len;dsimp only;rw[e];refine(Dc h4 y.1 hy.1 (by omega)).bind λu hu=>(d6 (by simp;omega)).bind λm hm=>?_;refine(Bi hu.1 _ (by simp) (by simp)).bind λv hv=>(Bi hv.1 _ (by simp) (by simp)).bind λp hp=>(Bi hp.1 _ (by simp) (by simp)).bind λq hq=>(d6 (by simp;omega)).bind λo ho=>c8 ?_;subst hm;subst ho;have g1:=hu.2;have g2:v.1=10\/v.1=50\/v.1=100:=by simpa using hv.2
   have g3:p.1=0\/p.1=5\/p.1=v.1:=by simpa using hp.2
   have g4:q.1=0\/q.1=1\/q.1=3:=by simpa using hq.2
   refine⟨⟨by simp;omega,hq.1,h5.add ⟨rfl,rfl,g1⟩ ⟨by dsimp only;omega,by dsimp only;omega,by dsimp only;omega⟩⟩,by dsimp only;omega⟩
  .exact d9 ⟨h4,h5,by dsimp only;omega⟩
theorem A10{x:Int}(h:0<=x)(h2:x<=50000):0<=w64 (Int.tdiv x 2)/\w64 (Int.tdiv x 2)<=x:=by have:Int.tdiv x 2=x / 2:=cZ h;rw[this,A4];omega
theorem Aun(hy:1<=y.1/\y.1<=4)(hs0:A3 s0)(hk:0<=k/\k<6)(hns:ns<=4)(hl0:Tx y.1 l0 ns []) :
  Ok (whileN (Aff y) 1152921504606846976 (k,s0.L,s0.At,l0,([]:List Bb))) (Hg (λs=>A3 ⟨s.2.1,s.2.2.1⟩/\Tx y.1 s.2.2.2.1 ns s.2.2.2.2/\s.2.2.2.2.length<=5) (λ(_:Unit)=>False)):=by
 refine d4 (λs=>(0<=s.1/\s.1+(s.2.2.2.2.length:Int)<=5)/\A3 ⟨s.2.1,s.2.2.1⟩/\Tx y.1 s.2.2.2.1 ns s.2.2.2.2) (λs=>s.1.toNat) _ _ ?_ ?_ ?_
 .exact⟨by simp;omega,hs0,hl0⟩
 .dsimp only;omega
 .rintro⟨i,L,a,l,co⟩ ⟨⟨h1,h2⟩,h4,h5⟩;dsimp only at h1 h2 h4 h5;unfold Aff;refine c7 (λh=>?_) (λh=>?_)
  .simp only[dM]at h;have e:w64 (i-1)=i-1:=A4;have hl:=h5.len;dsimp only;rw[e];refine(Dc h4 y.1 hy.1 (by omega)).bind λu hu=>(d6 (by simp;omega)).bind λm hm=>?_;subst hm;have g1:=hu.2;refine ec (P:=λv=>A3 v.2) (d7 (λ_=>(Dc hu.1 4 (by omega) (by omega)).mono λ_ h=>h.1) λ_=>hu.1) λv hv=>?_;refine Ok.inner (A:=λ(r:List Ai)=>∃m,r=l++m/\(∀x,x∈m->x.Kind=3/\x.B=co.length/\0<=x.A/\x.A<y.1)/\m≠[]/\m.length<=2/\(m.map (·.A)).Nodup) (B:=λ(_:Unit)=>False) ?_ (λr hr=>?_) ee
   .unfold Aq4;refine c7 (λhc=>?_) (λhc=>?_)
    .simp only[aa,dM]at hc;have e2:w64 (u.1+1)=u.1+1:=A4;rw[e2];refine(Ok.nzI (by omega)).bind λ_ _=>(d6 (by simp;omega)).bind λm hm=>dj ?_;subst hm;have g2:=qS (x:=u.1+1) (n:=y.1) (by omega) (by omega);have g3:Int.tmod (u.1+1) y.1≠u.1:=by
      rw[Int.tmod_eq_emod_of_nonneg (by omega)];intro e3;by_cases g4:u.1+1=y.1
      .rw[g4,Int.emod_self]at e3;omega
      .rw[Int.emod_eq_of_lt (by omega) (by omega)]at e3;omega
     refine⟨_,bF _ _ _,?_,by simp,by simp,?_⟩
     .intro x hx;simp at hx;rcases hx with rfl|rfl
      .exact⟨rfl,rfl,g1⟩
      .exact⟨rfl,rfl,g2⟩
     .simp;exact λh=>g3 h.symm
    .exact dj ⟨_,rfl,λx hx=>by simp at hx;subst hx;exact⟨rfl,rfl,g1⟩,by simp,by simp,by simp⟩
   .obtain⟨m,rfl,hm,hm1,hm2,hm3⟩:=hr;refine(Bi hv _ (by simp) (by simp)).bind λp hp=>(Bi hp.1 _ (by simp) (by simp)).bind λq hq=>(Dc hq.1 3 (by omega) (by omega)).bind λpr hpr=>(Jr hpr.1 (-1) 2 (by omega) (by omega)).bind λth hth=>?_;have k1:p.1=0\/p.1=5\/p.1=20\/p.1=40:=by simpa using hp.2
    have k2:q.1=0\/q.1=w64 (Int.tdiv p.1 2)\/q.1=p.1:=by simpa using hq.2
    have k3:=A10 (x:=p.1) (by omega) (by omega);have k4:=hpr.2;have k5:=hth.2;refine ec (P:=λv=>A3 v.2) (d7 (λ_=>(Dc hth.1 4 (by omega) (by omega)).mono λ_ h=>h.1) λ_=>hth.1) λw hw=>c7 (λhc=>?_) (λhc=>?_)
    .simp only[A0s,aa,dM]at hc;refine(Dc hw _ (by omega) (by omega)).bind λn hn=>(d6 (by simp;omega)).bind λo ho=>c8 ?_;subst ho;have k6:=hn.2;refine⟨⟨by simp;omega,hn.1,h5.add hm hm1 hm2 hm3 ⟨⟨by dsimp only;omega,by dsimp only;omega,by dsimp only;omega,by dsimp only;omega,by simp,?_,?_⟩,by dsimp only;omega⟩⟩,by dsimp only;omega⟩
     .intro z hz;simp at hz;subst hz;exact k6
     .intro j a b ha hb;simp at hb
    .refine(d6 (by simp;omega)).bind λo ho=>c8 ?_;subst ho;refine⟨⟨by simp;omega,hw,h5.add hm hm1 hm2 hm3 ⟨⟨by dsimp only;omega,by dsimp only;omega,by dsimp only;omega,by dsimp only;omega,by simp,?_,?_⟩,by dsimp only;omega⟩⟩,by dsimp only;omega⟩
     .intro z hz;simp at hz
     .intro j a b ha hb;simp at ha
  .exact d9 ⟨h4,h5,by dsimp only;omega⟩
structure Bfb(b:Ae):Prop where
 ok:A1 b
 buses:b.Ap<=4
 brl:b.Ag.length<=18
 sol:b.Ad.length<=4
 col:b.Aj.length<=5
 thr:∀x,x∈b.Aj->x.Thruster<=7
theorem Azy(hs:A3 s):Ok (F33 s) λy=>Bfb y.1/\A3 y.2:=by
 unfold F33;refine(Jr hs 1 4 (by omega) (by omega)).bind λy1 h1=>(Bi h1.1 _ (by simp) (by simp)).bind λy3 h3=>(Bi h3.1 _ (by simp) (by simp)).bind λy5 h5=>?_;refine(Aup h1.2 h5.1).andThen (λs0 hs0=>?_) ee;refine ec (P:=λv=>A3 v.2) (d7 (λ_=>(Dc hs0.1 2 (by omega) (by omega)).mono λ_ h=>h.1) λ_=>hs0.1) λy15 h15=>?_;have hb:=h1.2;refine d_ (A:=λ(l:List Ai)=>Nl y1.1 l/\l.length<=4) (B:=λ(_:Unit)=>False) ?_ (λl hl=>?_) ee
 .unfold Aq5;refine c7 (λhc=>?_) (λhc=>dj ⟨hs0.2.1,by omega⟩);simp only[aa,dM]at hc;have e:w64 (y1.1-1)=y1.1-1:=A4;rw[e];have:=hs0.2.2;refine(d6 (by simp;omega)).bind λm hm=>dj ?_;subst hm;exact⟨hs0.2.1.add ⟨rfl,by simp,by dsimp only;omega,by dsimp only;omega⟩,by simp;omega⟩
 .refine(Dc h15 5 (by omega) (by omega)).bind λy20 h20=>?_;refine(Auo h1.2 h20.1 h20.2 (hl.1.gens hl.2)).andThen (λs2 hs2=>?_) ee;refine(Dc hs2.1 6 (by omega) (by omega)).bind λy35 h35=>?_;refine(Aun h1.2 h35.1 h35.2 hs2.2.2 hs2.2.1.cons).andThen (λs3 hs3=>ed ⟨?_,hs3.1⟩) ee;obtain⟨_,hc,hl5⟩:=hs3;have hl4:=hs2.2.2;have hlen:=hc.len;have p3:y3.1=0\/y3.1=50\/y3.1=200\/y3.1=1800:=by simpa using h3.2
  have p5:y5.1=0\/y5.1=10\/y5.1=50:=by simpa using h5.2
  refine⟨⟨by dsimp only;omega,by dsimp only;omega,by dsimp only;omega,by dsimp only;omega,by dsimp only;omega,by dsimp only;omega,hc.br,hc.one,hc.any,hc.nodup,hs2.2.1.so,λi x hx=>(hc.co i x hx).1⟩,by dsimp only;omega,by dsimp only;omega,hl4,hl5,λx hx=>?_⟩;obtain⟨i,hi⟩:=bC hx;exact(hc.co i x hi).2
set_option linter.unusedVariables false
def Tl(p:Aa):Prop:=(1<=p.Kind/\p.Kind<=9)/\0<=p.Number/\p.Number<=63
def Ajs(x y:Bl):Prop:=Ew x.From y.From=true\/x.From=y.From/\Ew x.To y.To=true
structure vO(l:List Aa)(L:List Bl):Prop where
 len:L.length<=20
 mem:∀x,x∈L->x.From∈l/\x.To∈l/\x.From≠x.To
 asc:L.Pairwise Ajs
def Jj:List ByteArray:=[(⟨#[111,110,101]⟩:ByteArray),(⟨#[116,119,111]⟩:ByteArray),(⟨#[103,45,51]⟩:ByteArray),(⟨#[120]⟩:ByteArray)]
structure Ym(l:List Aa)(G:List Bf):Prop where
 len:G.length<=3
 mem:∀g,g∈G->g.Name∈Jj/\g.Parts≠[]/\Fe g.Parts/\(∀p,p∈g.Parts->p∈l)/\g.Parts.length<=40
 dist:G.Pairwise λa b=>a.Name≠b.Name
structure qK(d:Bw):Prop where
 asc:Fe d.Parts
 ok:∀p,p∈d.Parts->Tl p
 len:d.Parts.length<=30
 links:vO d.Parts d.Links
 groups:Ym d.Parts d.Groups
theorem Lq(x y:Aa):((x.Kind==y.Kind)&&((x.Number==y.Number)&&true))=Gv x y:=by unfold Gv;rw[bM]
variable{l:List Aa}
theorem Vp(hl:Fe l){y:Aa}(hx:l[i]?=some x)(hy:l[j]?=some y)(h:i<j):Ew x y=true:=by obtain⟨h1,rfl⟩:=ac.1 hx;obtain⟨h2,rfl⟩:=ac.1 hy;exact cu.1 hl i j h1 h2 h
theorem Wg{R:α->α->Prop}{l:List α}{x:α}(h:l.Pairwise R)(hx:∀y,y∈l->R y x):(l++[x]).Pairwise R:=
 c6.2 ⟨h,List.pairwise_singleton _ _,λa ha b hb=>by grind⟩
theorem Ahy(hs:A3 s)(hn:n<=1000)(hk:1<=k/\k<=1000):Ok (F41 s n k) λy=>A3 y.2/\y.1.Pairwise (· < ·)/\(∀x,x∈y.1->0<=x/\x<n)/\(y.1.length:Int)<=max n 0:=by
 unfold F41;refine d_ (A:=λs=>A3 ⟨s.2.1,s.2.2.1⟩/\s.2.2.2.Pairwise (· < ·)/\(∀x,x∈s.2.2.2->0<=x/\x<n)/\(s.2.2.2.length:Int)<=max n 0) (B:=λ(_:Unit)=>False) ?_ (λz hz=>ed hz) ee;refine d4 (λs=>(0<=s.1/\s.1<=max n 0/\(s.2.2.2.length:Int)<=s.1)/\A3 ⟨s.2.1,s.2.2.1⟩/\s.2.2.2.Pairwise (· < ·)/\(∀x,x∈s.2.2.2->0<=x/\x<s.1/\x<n)) (λs=>(n-s.1).toNat) _ _ ?_ ?_ ?_
 .exact⟨⟨by omega,by dsimp only;omega,by simp⟩,hs,cf,by simp⟩
 .dsimp only;omega
 .rintro⟨i,L,a,l⟩ ⟨⟨h1,h2,h3⟩,h4,h5,h6⟩;dsimp only at h1 h2 h3 h4 h5 h6;unfold Aq0;refine c7 (λh=>?_) (λh=>?_)
  .simp only[dM]at h;have e:w64 (i+1)=i+1:=A4;dsimp only;rw[e];refine(Dc h4 k hk.1 (by omega)).bind λu hu=>c7 (λ_=>?_) (λ_=>?_)
   .refine(d6 (by simp;omega)).bind λm hm=>c8 ?_;subst hm;refine⟨⟨⟨by dsimp only;omega,by dsimp only;omega,by simp;omega⟩,hu.1,Wg h5 λy hy=>(h6 y hy).2.1,λx hx=>?_⟩,by dsimp only;omega⟩;grind
   .exact c8 ⟨⟨⟨by dsimp only;omega,by dsimp only;omega,by dsimp only;omega⟩,hu.1,h5,λx hx=>by have:=h6 x hx;dsimp only;omega⟩,by dsimp only;omega⟩
  .simp only[dN]at h;exact d9 ⟨h4,h5,λx hx=>by have:=h6 x hx;omega,by dsimp only;omega⟩
def Yk(l:List Aa)(i j:Nat)(L:List Bl):Prop:=
 L.length<=20/\(∀x,x∈L->x.From∈l/\x.To∈l/\x.From≠x.To)/\L.Pairwise Ajs /\
 ∀x,x∈L->(∃k,k<i/\l[k]?=some x.From)\/l[i]?=some x.From/\∃k,k<j/\l[k]?=some x.To
theorem Yk.mono{L:List Bl}(h:Yk l i j L):Yk l i (j+1) L:=
 ⟨h.1,h.2.1,h.2.2.1,λx hx=>(h.2.2.2 x hx).imp id λ⟨h1,k,h2,h3⟩=>⟨h1,k,by omega,h3⟩⟩
theorem yQ(hl:Fe l)(hn:l.length<=40)(hs:A3 s):Ok (Abn s l) λy=>vO l y.1/\A3 y.2:=by
 unfold Abn;refine d_ (A:=λz=>Yk l l.length 0 z.2.2/\A3 ⟨z.1,z.2.1⟩) (B:=λ(_:Unit)=>False) ?_ (λz hz=>ed ⟨⟨hz.1.1,hz.1.2.1,hz.1.2.2.1⟩,hz.2⟩) ee;refine c9 (I:=λi z=>Yk l i 0 z.2.2/\A3 ⟨z.1,z.2.1⟩) ⟨⟨by simp,by simp,cf,by simp⟩,hs⟩ (λi x z hx hz=>?_) λz hz=>hz;unfold Afr;refine Ok.inner (A:=λz=>Yk l i l.length z.2.2/\A3 ⟨z.1,z.2.1⟩) (B:=λ(_:Unit)=>False) ?_ (λz hz=>c8 ⟨⟨hz.1.1,hz.1.2.1,hz.1.2.2.1,λy hy=>.inl ?_⟩,hz.2⟩) ee
 .refine c9 (I:=λj z=>Yk l i j z.2.2/\A3 ⟨z.1,z.2.1⟩) hz (λj y z hy hz=>?_) λz hz=>hz;unfold Afq;refine ec (P:=λv=>A3 v.2) (d7 (λ_=>(Dc hz.2 7 (by omega) (by omega)).mono λ_ h=>h.1) λ_=>hz.2) λv hv=>c7 (λhc=>?_) (λ_=>c8 ⟨hz.1.mono,hv⟩);simp only[Ahs,aa,dM,aO,Lq]at hc;obtain⟨h1,h2,h3,h4⟩:=hz.1;refine(d6 (by simp;omega)).bind λm hm=>c8 ?_;subst hm;have hne:x≠y:=λe=>by
   have:=Hb.2 e;rw[hc.1.1]at this;cases this
  refine⟨⟨by simp;omega,λw hw=>?_,Wg h3 λw hw=>?_,λw hw=>?_⟩,hv⟩
  .grind
  .rcases h4 w hw with⟨k,hk,e⟩|⟨e,k,hk,e2⟩
   .exact .inl (Vp hl e hx hk)
   .rw[hx]at e;exact .inr ⟨(aQ e).symm,Vp hl e2 hy hk⟩
  grind
 .rcases hz.1.2.2.2 y hy with⟨k,hk,e⟩|⟨e,_⟩
  .exact⟨k,by omega,e⟩
  .exact⟨i,by omega,e⟩
theorem A1m{a b:Aa}(h:Ew a b=true):a≠b:=λe=>by rw[e,Sd]at h;cases h
theorem qN(hl:Fe l)(hn:l.length<=1000)(p:Aa):Ts l p=some (K_ p l):=by
 refine di ?_;unfold Ts;refine d_ (A:=λz=>∃k:Nat,z=(k:Int)/\k<=l.length/\(∀(i:Nat) x,i<k->l[i]?=some x->Ew x p=true)/\∀x,l[k]?=some x->Ew x p=false) (B:=λ(_:Unit)=>False) ?_ (λz hz=>?_) ee
 .refine d4 (λz=>∃k:Nat,z=(k:Int)/\k<=l.length/\∀(i:Nat) x,i<k->l[i]?=some x->Ew x p=true) (λz=>(l.length-z).toNat) _ _ ⟨0,rfl,by omega,by omega⟩ (by omega) λz hz=>?_;obtain⟨k,rfl,h1,h2⟩:=hz;unfold Ae4;refine ec (P:=λv=>k<l.length->l[k]?=some v) (d7 (λha=>?_) λha=>?_) λv hv=>c7 (λhc=>c8 ?_) (λhc=>d9 ?_)
  .have h3:(k:Int)<l.length:=by simpa using ha.1
   exact(d5 (by omega) h3).mono λx hx _=>by simpa using hx
  .intro h3;exact absurd ⟨by simpa using h3,trivial⟩ ha
  .simp only[vH,aa,dM]at hc;have e:w64 ((k:Int)+1)=(k:Int)+1:=A4;rw[e];have hk:k<l.length:=by omega
   refine⟨⟨k+1,rfl,by omega,λi x hi hx=>?_⟩,by omega⟩;by_cases hik:i=k
   .subst hik;rw[hv hk]at hx;have hc2:=hc.2;rw[aQ hx]at hc2;exact hc2
   .exact h2 i x (by omega) hx
  .refine⟨k,rfl,h1,h2,λx hx=>?_⟩;have hk:=(ac.1 hx).1;have e:=hv hk;rw[hx]at e;cases e;simp only[vH,Bool.and_eq_false_iff,dN]at hc;rcases hc with hc|hc
   .omega
   .exact hc
 .obtain⟨k,rfl,h1,h2,h3⟩:=hz;have hmem:∀x,x∈l.take k->Ew x p=true:=λx hx=>by
   obtain⟨i,hi⟩:=bC hx;rw[ap]at hi;split at hi
   .exact h2 i x (by assumption) hi
   .cases hi
  refine ec (P:=λv=>k<l.length->l[k]?=some v) (d7 (λha=>?_) λha=>?_) λv hv=>c7 (λhc=>ed ?_) (λhc=>?_)
  .have h4:(k:Int)<l.length:=by simpa using ha.1
   exact(d5 (by omega) h4).mono λx hx _=>by simpa using hx
  .intro h4;exact absurd ⟨by simpa using h4,trivial⟩ ha
  .simp only[vG,aa,dM,Lq]at hc;have hk:k<l.length:=by omega
   have e:=hv hk;rw[Hb.1 hc.2]at e;refine Tb hl (Lw p hl) λx=>?_;rw[Jg];exact⟨.inr,λh=>h.elim (λh=>h ▸ ag e) id⟩
  .refine(Ok.bndI (by omega) (by omega) (by omega)).bind λ_ _=>(Ok.bndI (by omega) (by omega) (by omega)).bind λ_ _=>?_;have ht:List.take ((l.length:Int).toNat-(k:Int).toNat) (List.drop (k:Int).toNat l)=l.drop k:=by
    rw[aG,aG,bY (by simp)]
   rw[ht];refine(d6 (by simp;omega)).bind λa ha=>?_;subst ha;refine(d6 (by simp;omega)).bind λa ha=>ed ?_;subst ha;rw[aG,Nat.sub_zero];have hgt:∀x,x∈l.drop k->Ew p x=true:=λx hx=>by
    obtain⟨i,hi⟩:=bC hx;rw[ar]at hi;have hk:k<l.length:=by have:=(ac.1 hi).1;omega
    have e:=hv hk;have hlt:=h3 v e;have hne:Gv v p=false:=by
     simp only[vG,Bool.and_eq_false_iff,dN,Lq]at hc;rcases hc with hc|hc
     .omega
     .exact hc
    have hpv:Ew p v=true:=by
     rcases Aca v p with h|h|h
     .rw[hlt]at h;cases h
     .rw[Hb.2 h]at hne;cases hne
     .exact h
    by_cases h0:i=0
    .subst h0;rw[bo,e]at hi;cases hi;exact hpv
    .exact Nt hpv (Vp hl e hi (by omega))
   refine Tb ?_ (Lw p hl) λx=>?_
   .refine c6.2 ⟨hl.sublist (List.take_sublist _ _),aI.2 ⟨hgt,hl.sublist (List.drop_sublist _ _)⟩,λa ha b hb=>?_⟩;rcases ah.1 hb with hb|hb
    .rw[hb];exact hmem a ha
    .exact Nt (hmem a ha) (hgt b hb)
   .rw[Jg];have hm:x∈l↔x∈l.take k\/x∈l.drop k:=by rw[←aw,bl]
    rw[hm];simp only[aw,ah,List.singleton_append];constructor
    .rintro (h|h|h)
     .exact .inr (.inl h)
     .exact .inl h
     .exact .inr (.inr h)
    .rintro (h|h|h)
     .exact .inr (.inl h)
     .exact .inl h
     .exact .inr (.inr h)
theorem X4(p:Aa):∀l:List Aa,(K_ p l).length<=l.length+1
 | []=>by simp[K_]
 | q::l=>by
  unfold K_;cases Ew p q with
  |true=>simp
  |false=>
   cases Ew q p with
   |true=>have:=X4 p l;simp;omega
   |false=>simp
theorem A1y(p:Aa)(l:List Aa):K_ p l≠[]:=λe=>by have:p∈K_ p l:=(Jg p l p).2 (.inl rfl);rw[e]at this;cases this
theorem Atn(h0:0<=k)(h1:k<4):Ok (getI Jj k) λx=>Jj[k.toNat]?=some x:=d5 h0 (by simp[Jj];omega)
theorem Aj7{x:ByteArray}(hi:Jj[i]?=some x)(hj:Jj[j]?=some x):i=j:=by grind[Jj]
def A7a(l:List Aa)(k:Int)(G:List Bf):Prop:=
 (G.length:Int)<=3-k/\(∀g,g∈G->g.Name∈Jj/\g.Parts≠[]/\Fe g.Parts/\(∀p,p∈g.Parts->p∈l)/\g.Parts.length<=41)/\(G.Pairwise λa b=>a.Name≠b.Name) /\
 ∀g,g∈G->∃j:Nat,k<j/\Jj[j]?=some g.Name
theorem Qh{m:List Aa}(hl:Fe l)(h:∀p,p∈l->p∈m):l.length<=m.length:=
 List.Nodup.length_le_of_subset (hl.imp λh=>A1m h) λp hp=>h p hp
theorem Za(hl:Fe l)(hn:l.length<=30)(hs:A3 s):Ok (Abm s l) λy=>Ym l y.1/\A3 y.2:=by
 unfold Abm;refine(Dc hs 4 (by omega) (by omega)).bind λy hy=>?_;refine d_ (A:=λz=>(∃k,0<=k/\A7a l k z.2.2.2)/\A3 ⟨z.2.1,z.2.2.1⟩) (B:=λ(_:Unit)=>False) ?_ (λz hz=>ed ⟨?_,hz.2⟩) ee
 .refine d4 (λz=>(0<=z.1/\z.1<4)/\A7a l z.1 z.2.2.2/\A3 ⟨z.2.1,z.2.2.1⟩) (λz=>z.1.toNat) _ _ ⟨hy.2,⟨by simp;omega,by simp,cf,by simp⟩,hy.1⟩ (by dsimp only;omega) ?_;rintro⟨k,L,a,G⟩ ⟨⟨h1,h2⟩,⟨h3,h4,h5,h6⟩,h7⟩;dsimp only at h1 h2 h3 h4 h5 h6 h7;unfold Afp;refine c7 (λhc=>?_) (λhc=>d9 ⟨⟨k,h1,h3,h4,h5,h6⟩,h7⟩);simp only[Ahr,aa,dM]at hc;refine(Atn h1 h2).bind λnm hnm=>(Dc h7 (l.length:Int) (by omega) (by omega)).bind λu hu=>(d5 hu.2.1 hu.2.2).bind λp hp=>?_;refine Ok.inner (A:=λz=>A3 ⟨z.1,z.2.1⟩/\Fe z.2.2/\(∀q,q∈z.2.2->q∈l)/\z.2.2≠[]) (B:=λ(_:Unit)=>False) ?_ (λz hz=>?_) ee
  .refine c9 (I:=λ_ z=>A3 ⟨z.1,z.2.1⟩/\Fe z.2.2/\(∀q,q∈z.2.2->q∈l)/\z.2.2≠[]) ⟨hu.1,show Fe [p] from List.pairwise_singleton _ _,λq hq=>by rw[aM.1 hq];exact ag hp,by simp⟩ (λj q z hq hz=>?_) λz hz=>hz;unfold Afo;refine(Dc hz.1 4 (by omega) (by omega)).bind λv hv=>c7 (λ_=>?_) (λ_=>c8 ⟨hv.1,hz.2⟩);have:=Qh hz.2.1 hz.2.2.1;refine ec (P:=λx=>x=_) (dh (qN hz.2.1 (by omega) q) rfl) λx hx=>c8 ?_;subst hx;refine⟨hv.1,Lw _ hz.2.1,λx hx=>?_,A1y _ _⟩;rcases(Jg _ _ _).1 hx with hx|hx
   .rw[hx];exact ag hq
   .exact hz.2.2.1 x hx
  .refine(d6 (by simp;omega)).bind λm hm=>c8 ?_;subst hm;have e:w64 (k-1)=k-1:=A4;dsimp only;rw[e];have:=Qh hz.2.1 hz.2.2.1;refine⟨⟨by omega,⟨by simp;omega,λg hg=>?_,Wg h5 λg hg=>?_,λg hg=>?_⟩,hz.1⟩,by omega⟩
   .rcases aw.1 hg with hg|hg
    .exact h4 g hg
    .rw[aM.1 hg];exact⟨ag hnm,hz.2.2.2,hz.2.1,hz.2.2.1,by dsimp only;omega⟩
   .obtain⟨j,hj,e⟩:=h6 g hg;intro he;rw[he]at e;have:=Aj7 e hnm;omega
   grind
 .obtain⟨⟨k,h0,h3,h4,h5,_⟩,_⟩:=hz;exact⟨by dsimp only;omega,λg hg=>by obtain⟨g1,g2,g3,g4,g5⟩:=h4 g hg;have:=Qh g3 g4;exact⟨g1,g2,g3,g4,by omega⟩,h5⟩
def Pg(C:ez)(k:Nat)(z:List Aa):Prop:=Fe z/\z.length<=3*k/\∀p,p∈z->(1<=p.Kind/\p.Kind<k)/\(0<=p.Number/\p.Number<=2)/\∃c,C[p.Kind.toNat]?=some c/\p.Number<c
theorem Am8(hC:C.length<=10)(h0:C[0]?=some 0)(hs:A3 s) :
  Ok (foldI Agb C 0 (s.L,s.At,([]:List Aa))) (Hg (λz=>Pg C 10 z.2.2/\A3 ⟨z.1,z.2.1⟩) λ(_:Unit)=>False):=by
 refine c9 (I:=λj z=>Pg C j z.2.2/\A3 ⟨z.1,z.2.1⟩) ⟨⟨show Fe [] from cf,by simp,by simp⟩,hs⟩ (λj c z hc hz=>?_) λz hz=>⟨⟨hz.1.1,by have:=hz.1.2.1;omega,λp hp=>by have:=hz.1.2.2 p hp;exact⟨by omega,this.2⟩⟩,hz.2⟩;obtain⟨⟨h1,h2,h3⟩,h4⟩:=hz;have hj:j<C.length:=(ac.1 hc).1;unfold Agb;refine(Ahy h4 (n:=min c 3) (by omega) (k:=2) (by omega)).bind λy hy=>?_;obtain⟨y1,y2,y3,y4⟩:=hy;refine Ok.inner (A:=λw=>Pg C (j+1) w) (B:=λ(_:Unit)=>False) ?_ (λw hw=>c8 ⟨hw,y1⟩) ee;refine c9 (I:=λi w=>Fe w/\w.length=z.2.2.length+i/\∀p,p∈w->((1<=p.Kind/\p.Kind<j)/\(0<=p.Number/\p.Number<=2)/\∃c,C[p.Kind.toNat]?=some c/\p.Number<c)\/(p.Kind=j/\∃k,k<i/\y.1[k]?=some p.Number)) ⟨h1,by simp,λp hp=>.inl (h3 p hp)⟩ (λi x w hx hw=>?_) λw hw=>?_
 .obtain⟨w1,w2,w3⟩:=hw;have hi:i<y.1.length:=(ac.1 hx).1;unfold Arx;rw[E_];refine(d6 (by simp;omega)).bind λm hm=>c8 ?_;subst hm;refine⟨Wg w1 λp hp=>?_,by simp;omega,λp hp=>?_⟩
  .rw[Lr];rcases w3 p hp with⟨h,_⟩|⟨h,k,hk,e⟩
   .exact .inl h.2
   .refine .inr ⟨h,?_⟩;obtain⟨q1,q2⟩:=ac.1 e;obtain⟨q3,q4⟩:=ac.1 hx;have:=cu.1 y2 k i q1 q3 hk;rw[q2,q4]at this;exact this
  grind
 .obtain⟨w1,w2,w3⟩:=hw;refine⟨w1,by omega,λp hp=>?_⟩;grind
theorem Pg.ptOk{z:List Aa}(h:Pg C 10 z):∀p,p∈z->Tl p:=λp hp=>by have:=h.2.2 p hp;unfold Tl;omega
theorem Jh(x lo hi:Int):Bd x lo hi=true↔lo<=x/\x<=hi:=by simp[Bd]
theorem uK{x lo hi:Int}(h:lo<=x/\x<=hi:=by omega):Bd x lo hi=true:=(Jh x lo hi).2 h
theorem Gl(l:ez)(x:Int)(h:l.length<=9223372036854775807):V7 l x=some (l.any (x == ·)):=by unfold V7 F27;rw[Ja (λy=>x==y) (λi y=>rfl) l h];simp only[aj,Lx]
theorem Ag6(l:List ez)(h:l.length<=9223372036854775807):jJ l=some (l.any λx=>(x.length:Int)==0):=by unfold jJ Ae7;rw[Ja (λy=>(y.length:Int)==0) (λi y=>rfl) l h];simp only[aj,Lx]
theorem Ag9(h:A1 b):Ok (Amb b) (· = true):=by
 unfold Amb;have hs:=h.sol;have hc:=h.col;have hb:=h.buses;refine(Ok.mkI (by omega) (by omega)).bind λys hys=>(Ok.mkI (by omega) (by omega)).bind λzs hzs=>?_;rw[aG]at hys hzs;refine d_ (A:=λs=>s.1=(List.range b.Ad.length).map (λi=>((brs b.Ag 2 i).length:Int))/\s.2=(List.range b.Aj.length).map (λi=>(brs b.Ag 3 i).map (·.A))) (B:=λ_=>False) ?_ ?_ ee
 .refine c9 (I:=λj s=>s.1=(List.range b.Ad.length).map (λi=>((brs (b.Ag.take j) 2 i).length:Int))/\s.2=(List.range b.Aj.length).map (λi=>(brs (b.Ag.take j) 3 i).map (·.A))) ?_ ?_ ?_
  .exact⟨by rw[hys,Pp];rfl,by rw[hzs,Pp];rfl⟩
  .rintro j x ⟨us,vs⟩ hx ⟨hu,hv⟩;dsimp only at hu hv;subst hu;subst hv;have hmem:=ag hx;obtain⟨⟨a0,a1⟩,hk⟩:=h.br x hmem;have htk:∀k i,brs (b.Ag.take (j+1)) k i=brs (b.Ag.take j) k i++if x.Kind=k/\x.B=(i:Int)then [x] else []:=λk i=>by rw[Dj hx,J3,Aht]
   have hall:∀k i,brs b.Ag k i=brs (b.Ag.take (j+1)) k i++brs (b.Ag.drop (j+1)) k i:=λk i=>by rw[←J3,bl]
   unfold Aid;have e1:w64 (b.Ap-1)=b.Ap-1:=A4;have e2:w64 (x.A+1)=x.A+1:=A4;refine c7 (λhq=>?_) (λ_=>?_)
   .rw[e1,uK]at hq;simp at hq
   refine c7 (λhq=>?_) (λhq=>?_)
   .simp only[Aef,aa,dQ,Jh]at hq;refine c8 ⟨bf λi _=>?_,bf λi _=>?_⟩
    .rw[htk,em (by omega),aZ]
    .rw[htk,em (by omega),aZ]
   have hq:=ff hq;simp only[Aef,aa,dQ,Jh,e1,e2]at hq;rcases hk with hk|hk|hk
   .exact absurd ⟨hk.1,by omega⟩ hq
   .have hBn:x.B=(x.B.toNat:Int):=by omega
    have hone:=h.one x.B.toNat (by omega);have hz:(brs (b.Ag.take j) 2 x.B.toNat).length=0:=by rw[hall,htk,ei ⟨hk.1,hBn⟩]at hone;simp at hone;omega
    have hg:((x.Kind==2)&&(Bd x.B 0 (w64 ((((List.range b.Ad.length).map (λi=>((brs (b.Ag.take j) 2 i).length:Int))).length:Int)-1))))=true:=by rw[aa,dQ,Jh,aq,List.length_range,A4];omega
    dsimp only;refine ec (P:=λy=>y=0) (d7 (λ_=>(dr (by omega)).mono λy hy=>by rw[hy,hz];rfl) λhn=>(Wj hg hn).elim) λy hy=>?_;refine c7 (λhq2=>?_) (λhq2=>?_)
    .refine(dr (by omega)).bind λy2 hy2=>(dz (by omega)).bind λy3 hy3=>c8 ⟨?_,bf λi _=>?_⟩
     .rw[hy3];refine bf λi hi=>?_;by_cases e:i=x.B.toNat
      .subst e;rw[ei rfl,hy2,htk,ei ⟨hk.1,hBn⟩,hz,aP,hz];rfl
      .rw[em e,htk,em (by omega),aZ]
     .rw[htk,em (by omega),aZ]
    .have hq2:=ff hq2;simp only[Aee,aa,hy]at hq2;rw[aa]at hg;exact absurd ⟨hg,by simp⟩ hq2
   .have hBn:x.B=(x.B.toNat:Int):=by omega
    have hnod:=h.nodup x.B.toNat;have hnot:x.A∉(brs (b.Ag.take j) 3 x.B.toNat).map (·.A):=by rw[hall,htk,ei ⟨hk.1,hBn⟩]at hnod;simp only[bh,bv,List.map_nil]at hnod;rw[List.nodup_append]at hnod;have:=hnod.1;rw[List.nodup_append]at this;intro hm;exact this.2.2 _ hm _ (by simp) rfl
    have hg0:((x.Kind==2)&&(Bd x.B 0 (w64 ((((List.range b.Ad.length).map (λi=>((brs (b.Ag.take j) 2 i).length:Int))).length:Int)-1))))=false:=by
     have:(x.Kind==2)=false:=by rw[dR];omega
     rw[this];rfl
    have hg:((x.Kind==3)&&(Bd x.B 0 (w64 ((((List.range b.Aj.length).map (λi=>(brs (b.Ag.take j) 3 i).map (·.A))).length:Int)-1))))=true:=by rw[aa,dQ,Jh,aq,List.length_range,A4];omega
    dsimp only;refine ec (P:=λ_=>True) (d7 (λhn=>absurd hn.1 (by rw[hg0];simp)) λ_=>trivial) λy _=>?_;refine c7 (λhq2=>?_) (λ_=>?_)
    .simp only[Aee,aa,dQ]at hq2;omega
    refine ec (P:=λy=>y=(brs (b.Ag.take j) 3 x.B.toNat).map (·.A)) (d7 (λ_=>dr (by omega)) λhn=>(Wj hg hn).elim) λy14 hy14=>?_;have hyl:y14.length<=24:=by rw[hy14,aq];have:=bP (λx=>x.Kind==3&&x.B==((x.B.toNat:Nat):Int)) (b.Ag.take j);have h1:(brs (b.Ag.take j) 3 x.B.toNat).length<=(b.Ag.take j).length:=bP _ _;have h2:=h.brl;rw[aN]at h1;omega
    refine ec (P:=λy=>y=false) (d7 (λ_=>?_) λhn=>(Wj hg hn).elim) λy16 hy16=>?_
    .rw[Gl _ _ (by omega)];refine ed ?_;rw[bN];intro z hz;rw[hy14]at hz;simp only[dQ];rintro rfl;exact hnot hz
    refine c7 (λhq2=>?_) (λhq2=>?_)
    .refine(dr (by omega)).bind λy19 hy19=>?_;rw[hy19,←hy14];refine(d6 (by simp;omega)).bind λy21 hy21=>(dz (by omega)).bind λy23 hy23=>c8 ⟨bf λi _=>?_,?_⟩
     .rw[htk,em (by omega),aZ]
     .rw[hy23];refine bf λi hi=>?_;by_cases e:i=x.B.toNat
      .subst e;rw[ei rfl,hy21,hy14,htk,ei ⟨hk.1,hBn⟩,bh];rfl
      .rw[em e,htk,em (by omega),aZ]
    .have hq2:=ff hq2;simp only[Ap0,aa,hy16]at hq2;rw[aa]at hg;exact absurd ⟨hg,by simp⟩ hq2
  .rintro⟨us,vs⟩ ⟨hu,hv⟩;rw[be]at hu hv;exact⟨hu,hv⟩
 .rintro⟨us,vs⟩ ⟨hu,hv⟩;dsimp only at hu hv ⊢;rw[Gl _ _ (by rw[hu];simp;omega)];have h0:us.any (λy=>0==y)=false:=by
   rw[bN,hu];intro z hz;obtain⟨i,hi,rfl⟩:=aA.1 hz;rw[h.one i (by simpa using hi)];simp
  have h1:vs.any (λx=>(x.length:Int)==0)=false:=by rw[bN,hv];intro z hz;obtain⟨i,hi,rfl⟩:=aA.1 hz;have:=h.any i (by simpa using hi);simp only[aq,dQ];intro e;exact this (bm (by omega))
  simp only[h0,aj];refine ec (P:=λy=>y=false) (d7 (λ_=>?_) λhn=>(Wj rfl hn).elim) λy hy=>ed (by rw[hy];rfl);rw[Ag6 _ (by rw[hv];simp;omega)];exact ed h1
theorem Anh{x:Ca}(h:Ali x):Aga x=true:=by obtain⟨h1,h2,h3⟩:=h;simp only[Aga,aa,Jh];omega
theorem Ag7{x:Bb}(h:Am2 i x)(hi:i<=1000):Af9 x (i:Int)=some true:=by
 obtain⟨h1,h2,h3,h4,h5,h6,h7⟩:=h;unfold Af9;have hf:foldI (vX x (i:Int)) x.Needs 0 ()=some (.next ()):=by
  refine Fq _ _ λj n hj=>?_;rw[aJ];have hn:=h6 n (ag hj);have hjl:=(ac.1 hj).1;have hcnt:cnt 0 j=(j:Int):=E_;have hin:Bd n 0 (w64 ((i:Int)-1))=true:=by rw[Jh,A4];omega
  unfold vX Apz;rw[hcnt,hin];cases j with
  |zero=>simp[Aw,D5]
  | succ j=>
   obtain⟨p,hp⟩:∃p,x.Needs[j]?=some p:=⟨_,ak (by omega)⟩;have hlt:=h7 j p n hp hj;have e:w64 ((((j+1:Nat):Int))-1)=(j:Int):=by rw[A4];omega
   have hg:getI x.Needs (j:Int)=some p:=by unfold getI;simp[hp]
   have hd:decide (((j+1:Nat):Int)>0)=true:=dU (by omega);have hd2:decide (p>=n)=false:=by simp;omega
   rw[e,hg,hd];simp[Aw,D5,hd2]
 rw[hf];have:(((((Bd x.Load 0 50000)&&(Bd x.Least 0 x.Load))&&(Bd x.Dk 0 15))&&(Bd x.Thruster (-1) 7))&&(decide ((x.Needs.length:Int)<=4)))=true:=by simp only[aa,Jh,dM];omega
 simp[andThen,this]
theorem S9(h:A1 b):F91 b=some 0:=by
 refine di ?_;unfold F91;have h1:=h.buses;have h2:=h.brl;have h3:=h.sol;have h4:=h.col;have h5:=h.phase;have h6:=h.freq;refine c7 (λhc=>?_) (λ_=>?_)
 .have:Bd b.Ap 1 6=true:=uK;simp only[A0o,this,aS,dM,bE,Bool.false_eq_true,false_or]at hc;omega
 refine(Ag9 h).bind λy hy=>?_;subst hy;rw[uK (x:=b.Phase),uK (x:=b.Ax)];refine d_ (A:=λs=>s=true) (B:=λ(_:Unit)=>False) ?_ ?_ ee
 .refine c9 (I:=λ_ s=>s=true) rfl (λj x s hx hs=>?_) λ_ h=>h;subst hs;refine c8 ?_;rw[Anh (h.so x (ag hx))];rfl
 .rintro s rfl;refine d_ (A:=λs=>s=true) (B:=λ(_:Unit)=>False) ?_ ?_ ee
  .refine c9 (I:=λ_ s=>s=true) rfl (λj x s hx hs=>?_) λ_ h=>h;subst hs;have hj:=(ac.1 hx).1;unfold Aqj;have:Aw [(true,true)] (Af9 x (cnt 0 j)) default=some true:=by
    rw[E_,Ag7 (h.co j x hx) (by omega)];rfl
   rw[this];exact c8 rfl
  .rintro s rfl;exact ed rfl
def Ef(x:An):Prop:=(0<=x.State/\x.State<=3)/\(0<=x.Since/\x.Since<=2147483648)/\(0<=x.Ax/\x.Ax<=6000)/\0<=x.Phase/\x.Phase<=3599
def Dq(b:Ae)(x:Aa):Prop:=
 0<=x.Number/\((x.Kind=1/\x.Number<b.Ad.length)\/(x.Kind=2/\x.Number<b.Ag.length)\/(x.Kind=3/\x.Number<b.Ap)\/(x.Kind=4/\x.Number<b.Aj.length))
def Aet(x y:Aa):Prop:=x.Kind<y.Kind\/x.Kind=y.Kind/\x.Number<y.Number
structure Gc(b:Ae)(l:List Aa):Prop where
 len:l.length<=32
 mem:∀x,x∈l->Dq b x
 asc:∀(j:Nat) x y,l[j]?=some x->l[j+1]?=some y->Aet x y
def El(l:List Ai)(c:eB)(i:Nat):List (Ai×Bool):=(l.zip c).filter λz=>(z.1.Kind==3&&z.1.B==(i:Int))&&z.2
structure A7(b:Ae)(p:Af):Prop where
 ncl:p.Al.length=b.Ag.length
 nso:p.Ad.length=b.Ad.length
 nli:p.A0.length=b.Aj.length
 run:∀x,x∈p.Ad->Ef x
 lim:∀(i:Nat) n c,p.A0[i]?=some n->b.Aj[i]?=some c->0<=n/\n<=c.Load
 one:∀i,i<b.Aj.length->(El b.Ag p.Al i).length<=1
 brk:Gc b p.Ao
theorem Ai8{x:An}(h:Ef x):Wa x=true:=by obtain⟨h1,h2,h3,h4⟩:=h;simp only[Wa,aa,Jh];omega
theorem Ajj(l:List An)(h:l.length<=9223372036854775807):Wb l=some (l.any λx=>!Wa x):=by unfold Wb Afu;rw[Ja (λy=>!Wa y) (λi y=>rfl) l h];simp only[aj,Lx]
theorem M5(x y:Int):Js x y=if x<y then -1 else if x>y then 1 else 0:=by grind[Yo,Js]
theorem Nu(x y:Int):V5 [x,y]=some (if x=0 then y else x):=by grind[V5,andThen,foldI,Ah5]
theorem A1f(h:A1 b)(hx:Dq b x):Bd x.Number 0 (w64 ((Nm b x.Kind)-1))=true:=by
 have h1:=h.buses;have h2:=h.brl;have h3:=h.sol;have h4:=h.col;obtain⟨hn,hk⟩:=hx;have hsz:∃n,Nm b x.Kind=n/\x.Number<n/\n<=100:=by unfold Nm;grind
 obtain⟨n,e,g1,g2⟩:=hsz;rw[e,Jh,A4];omega
theorem Aqa(h:A1 b)(hl:Gc b l):Amk b l=some true:=by
 have hlen:=hl.len;unfold Amk;have hf:foldI (yA b l) l 0 ()=some (.next ()):=by
  refine Fq _ _ λj x hj=>?_;rw[aJ];have hjl:=(ac.1 hj).1;have hcnt:cnt 0 j=(j:Int):=E_;have hin:=A1f h (hl.mem x (ag hj));unfold yA Ap2;rw[hcnt,hin];cases j with
  |zero=>simp[Aw,D5]
  | succ j=>
   obtain⟨p,hp⟩:∃p,l[j]?=some p:=⟨_,ak (by omega)⟩;have hlt:=hl.asc j p x hp hj;have e:w64 ((((j+1:Nat):Int))-1)=(j:Int):=by rw[A4];omega
   have hg:getI l (j:Int)=some p:=by unfold getI;simp[hp]
   have hd:decide (((j+1:Nat):Int)>0)=true:=dU (by omega);have ho:V5 [Js p.Kind x.Kind,Js p.Number x.Number]=some (-1):=by
    rw[Nu,M5,M5];rcases hlt with h1|⟨h1,h2⟩
    .simp[h1]
    .simp[h1,h2]
   rw[e,hg,hd];simp[Aw,D5,ho]
 rw[hf];have:decide ((l.length:Int)<=32)=true:=by simp;omega
 simp[andThen,this]
variable{l:List Ai}
theorem Akb{x:Ai}{v:Bool}(hx:l[j]?=some x)(hv:c[j]?=some v)(i:Nat) :
  El (l.take (j+1)) (c.take (j+1)) i=El (l.take j) (c.take j) i++if((x.Kind==3&&x.B==(i:Int))&&v)=true then [(x,v)] else []:=by
 unfold El;rw[Dj hx,Dj hv,List.zip_append (by grind),bQ]
 congr 1;simp only[cd,List.zip_nil_right,cV,List.filter_nil]
theorem Apf(h:A1 b)(hc:p.Al.length=b.Ag.length)(i:Nat):Amj b p (i:Int)=some (((El b.Ag p.Al i).length:Nat):Int):=by
 refine di ?_;unfold Amj;have hb:=h.brl;refine d_ (A:=λs=>s=(((El b.Ag p.Al i).length:Nat):Int)) (B:=λ(_:Unit)=>False) ?_ (λs hs=>ed hs) ee;refine c9 (I:=λj s=>s=(((El (b.Ag.take j) (p.Al.take j) i).length:Nat):Int)) ?_ (λj x s hx hs=>?_) λs hs=>?_
 .simp[El]
 .have hj:=(ac.1 hx).1;obtain⟨v,hv⟩:∃v,p.Al[j]?=some v:=⟨_,ak (by omega)⟩;have hcnt:cnt 0 j=(j:Int):=E_;have hg:getI p.Al (j:Int)=some v:=by unfold getI;simp[hv]
  have hle:(El (b.Ag.take j) (p.Al.take j) i).length<=24:=by have h1:(El (b.Ag.take j) (p.Al.take j) i).length<=((b.Ag.take j).zip (p.Al.take j)).length:=bP _ _;simp at h1;omega
  subst hs;unfold Aih Ap1;rw[hcnt,hg,Akb hx hv];cases hk:(x.Kind==3&&x.B==(i:Int)) with
  |false=>simp only[Aw,D5,Bool.false_and];exact c8 (by simp)
  | true=>
   simp only[Aw,D5,ce];cases v with
   |false=>exact c8 (by simp)
   |true=>refine c8 ?_;show w64 _=_;rw[A4];simp
 grind
theorem Fj(h:A1 b)(hp:A7 b p):F66 b p=some 0:=by
 refine di ?_;unfold F66;have h1:=hp.ncl;have h2:=hp.nso;have h3:=hp.nli;have h4:=h.col;have h5:=h.sol;rw[S9 h];simp only[aj];have c0:Ak3 b p=false:=by simp[Ak3,h1,h2,h3]
 have c1:((0:Int) != 0)=false:=rfl;rw[c1,c0,Aqa h hp.brk];simp only[eg,aj];have hr:(p.Ad.any λx=>!Wa x)=false:=by rw[bN];intro x hx;rw[Ai8 (hp.run x hx)];simp
 have:Aw [(true,true)] (Wb p.Ad) default=some false:=by rw[Ajj _ (by omega),hr];rfl
 rw[this];simp only[aj];refine d_ (A:=λs=>s=true) (B:=λ(_:Unit)=>False) ?_ ?_ ee
 .refine c9 (I:=λ_ s=>s=true) rfl (λj x s hx hs=>?_) λ_ h=>h;subst hs;have hj:=(ac.1 hx).1;obtain⟨c,hc⟩:∃c,b.Aj[j]?=some c:=⟨_,ak (by omega)⟩;have hcnt:cnt 0 j=(j:Int):=E_;have hg:getI b.Aj (j:Int)=some c:=by unfold getI;simp[hc]
  have hl:=hp.lim j x c hx hc;have hone:=hp.one j (by omega);unfold Aqo;rw[hcnt,hg];have e1:Aw [(true,true)] (some c) default=some c:=rfl;rw[e1];simp only[aj];have e2:(true&&Bd x 0 c.Load)=true:=by rw[uK hl];rfl
  rw[e2,Apf h h1];have e3:Aw [(true,true)] (some (((El b.Ag p.Al j).length:Nat):Int)) default=some (((El b.Ag p.Al j).length:Nat):Int):=rfl;rw[e3];simp only[aj];refine c8 ?_;simp;omega
 .rintro s rfl;exact ed rfl
theorem Atr:∀{c d:eB},c.length=d.length->(∀k:Nat,c[k]?=some true->d[k]?=some true)->∀i,(El l c i).length<=(El l d i).length:=by
 induction l with
 |nil=>intro c d _ _ i;simp[El]
 | cons x l ih=>
  intro c d hl h i;cases c with
  |nil=>simp[El]
  | cons v c=>cases d with
   |nil=>simp at hl
   |cons u d=>
    have:=ih (c:=c) (d:=d) (by simpa using hl) (λk hk=>by have:=h (k+1) (by simpa using hk);simpa using this) i;have h0:v=true->u=true:=λe=>by have:=h 0 (by simp[e]);simpa using this
    unfold El at this ⊢;simp only[cd,cV];grind
theorem Dg{l:List α}{x:α}(h:l[j]?=some x):getI l (j:Int)=some x:=by unfold getI;simp[h]
def Ix(b:Ae)(p:Af)(k i:Int):Option Int:=((b.Ag.zip p.Al).find? λz=>(z.1.Kind==k&&z.1.B==i)&&z.2).map (·.1.A)
def O1(o:Option Int):Int×Bool:=match o with
 |some a=>(a,true)
 |none=>(0,false)
theorem Acy{p:Af}{k i:Int}:∀(l:List Ai)(c:eB)(n:Nat),n+l.length<=9223372036854775807->l.length=c.length->p.Al.drop n=c ->
  foldI (vQ p k i) l n ()=match ((l.zip c).find? λz=>(z.1.Kind==k&&z.1.B==i)&&z.2) with
   |some z=>some (.ret (z.1.A,true))
   |none=>some (.next ())
 | [],c,n,_,_,_=>by simp[foldI]
 |x::l,[],n,_,h,_=>by simp at h
 | x::l,v::c,n,hn,h,hd=>by
  simp only[aT]at hn h;have hv:p.Al[n]?=some v:=by have:=congrArg (·[0]?) hd;simpa[List.getElem?_drop]using this
  have hd':p.Al.drop (n+1)=c:=by rw[←cq,hd];rfl
  have ih:=Acy (p:=p) (k:=k) (i:=i) l c (n+1) (by omega) (by omega) hd';have hcnt:cnt 0 n=(n:Int):=E_;simp only[foldI,vQ,Apq,hcnt,Dg hv,cd,List.find?_cons];cases hk:(x.Kind==k&&x.B==i) with
  |false=>simpa[Aw,D5]using ih
  |true=>
   cases v with
   |false=>simpa[Aw,D5]using ih
   |true=>simp[Aw,D5]
theorem An2(h:A1 b)(hc:p.Al.length=b.Ag.length)(k i:Int):Afa b p k i=some (O1 (Ix b p k i)):=by
 have hb:=h.brl;unfold Afa;rw[Acy b.Ag p.Al 0 (by omega) (by omega) rfl];unfold Ix;cases (b.Ag.zip p.Al).find? λz=>(z.1.Kind==k&&z.1.B==i)&&z.2 with
 |none=>rfl
 |some z=>rfl
theorem Adg(h:A1 b)(hc:p.Al.length=b.Ag.length)(i:Int):vU b p i=some (O1 (Ix b p 3 i)):=by unfold vU;rw[An2 h hc];rfl
def S6(b:Ae)(p:Af)(i:Int):Option Int:=
 if 0<=i/\i<p.Ad.length/\(p.Ad.getD i.toNat default).State=2 then Ix b p 2 i else none
theorem Vl(h:A1 b)(hp:A7 b p)(i:Int):vR b p i=some (O1 (S6 b p i)):=by
 have hs:=h.sol;have hn:=hp.nso;refine di ?_;unfold vR;have e1:w64 ((p.Ad.length:Int)-1)=(p.Ad.length:Int)-1:=A4;by_cases hi:0<=i/\i<p.Ad.length
 .have hin:Bd i 0 (w64 ((p.Ad.length:Int)-1))=true:=by rw[e1];exact uK
  obtain⟨x,hx⟩:∃x,p.Ad[i.toNat]?=some x:=⟨_,ak (by omega)⟩;have hg:getI p.Ad i=some x:=by have:=Dg hx;rwa [cw hi.1]at this
  have hd:p.Ad.getD i.toNat default=x:=by simp[List.getD,hx]
  rw[hin,hg];refine ec (P:=λy=>y=x) (d7 (λ_=>ed rfl) λhn=>(hn ⟨rfl,trivial⟩).elim) λy hy=>?_;subst hy;unfold S6;refine c7 (λhc=>?_) (λhc=>?_)
  .simp only[Zy,hin,aS,bE,Bool.false_eq_true,false_or,bne_iff_ne,ne_eq]at hc;rw[hd,em (λhh=>hc hh.2.2)];exact ed rfl
  .have hc:=ff hc;simp only[Zy,hin,aS,bE,Bool.false_eq_true,false_or,bne_iff_ne,ne_eq,Decidable.not_not]at hc;rw[hd,ei ⟨hi.1,hi.2,hc⟩,An2 h hp.ncl];exact ed rfl
 .have hin:Bd i 0 (w64 ((p.Ad.length:Int)-1))=false:=by
   cases hq:Bd i 0 (w64 ((p.Ad.length:Int)-1)) with
   |false=>rfl
   |true=>rw[Jh,e1]at hq;omega
  rw[hin];unfold S6;rw[em (λhh=>hi ⟨hh.1,hh.2.1⟩)];refine ec (P:=λ_=>True) (d7 (λhg=>absurd hg.1 (by simp)) λ_=>trivial) λy _=>?_;refine c7 (λ_=>ed rfl) (λhc=>?_);simp[Zy,hin]at hc
variable{i:Int}
theorem Acz(h:A1 b)(e:Ix b p k i=some a):0<=a/\a<b.Ap:=by unfold Ix at e;rw[Option.map_eq_some_iff]at e;obtain⟨z,hz,rfl⟩:=e;exact(h.br z.1 (bO (List.mem_of_find?_eq_some hz)).1).1
theorem At5(h:A1 b)(e:S6 b p i=some a):0<=a/\a<b.Ap:=by
 unfold S6 at e;split at e
 .exact Acz h e
 .cases e
def Hh(s:ez)(z:Ai×Bool):ez:=
 if z.1.Kind=1/\z.2=true then (s.set z.1.A.toNat (min (s.getD z.1.A.toNat 0) (s.getD z.1.B.toNat 0))).set z.1.B.toNat (min (s.getD z.1.A.toNat 0) (s.getD z.1.B.toNat 0)) else s
def Ez(l:List (Ai×Bool))(s:ez):ez:=l.foldl Hh s
def Ev(n:Nat):ez:=(List.range n).map λ(i:Nat)=>(i:Int)
def groups(b:Ae)(p:Af):ez:=(List.range b.Ap.toNat).foldl (λs _=>Ez (b.Ag.zip p.Al) s) (Ev b.Ap.toNat)
theorem Gk(s:ez)(z:Ai×Bool):(Hh s z).length=s.length:=by unfold Hh;split <;> simp
theorem Hp(l:List (Ai×Bool)):∀s:ez,(Ez l s).length=s.length:=by
 induction l with
 |nil=>intro s;rfl
 |cons z l ih=>grind[Ez,Gk]
theorem P_{b:Ae}{p:Af}{n:Nat}:∀(xs:ey)(s:ez),s.length=n->(xs.foldl (λs _=>Ez (b.Ag.zip p.Al) s) s).length=n
 | [],s,h=>h
 |_::xs,s,h=>P_ xs _ (by rw[Hp];exact h)
theorem Ki(b:Ae)(p:Af):(groups b p).length=b.Ap.toNat:=P_ _ _ (by simp[Ev])
variable{s:ez}
theorem Atl(h:A1 b)(hc:p.Al.length=b.Ag.length)(hs:s.length=b.Ap.toNat) :
  Ok (foldI (vS p) b.Ag 0 s) (Hg (λr=>r=Ez (b.Ag.zip p.Al) s) (λ(_:Unit)=>False)):=by
 have hb:=h.brl;have hbu:=h.buses;refine c9 (I:=λj r=>r=Ez ((b.Ag.take j).zip (p.Al.take j)) s) (by simp[Ez]) (λj x r hx hr=>?_) λr hr=>?_
 .have hj:=(ac.1 hx).1;obtain⟨v,hv⟩:∃v,p.Al[j]?=some v:=⟨_,ak (by omega)⟩;have hcnt:cnt 0 j=(j:Int):=E_;have hl:r.length=b.Ap.toNat:=by rw[hr,Hp,hs]
  have hnext:Ez ((b.Ag.take (j+1)).zip (p.Al.take (j+1))) s=Hh r (x,v):=by rw[Dj hx,Dj hv,List.zip_append (by simp;omega)];unfold Ez at hr ⊢;rw[bI,←hr];rfl
  rw[hnext];unfold vS;rw[hcnt,Dg hv];obtain⟨⟨a0,a1⟩,hk⟩:=h.br x (ag hx);by_cases k1:x.Kind=1
  .rw[dQ.2 k1];refine ec (P:=λy=>y=v) (d7 (λ_=>ed rfl) λhn=>(hn ⟨rfl,trivial⟩).elim) λy hy=>?_;subst hy;have hB:x.A<x.B/\x.B<b.Ap:=by omega
   cases y with
   |false=>refine c7 (λhq=>by simp at hq) (λ_=>c8 ?_);simp[Hh]
   |true=>refine c7 (λ_=>?_) (λhq=>by simp at hq);refine(d5 a0 (by omega)).bind λu hu=>(d5 (by omega) (by omega)).bind λw hw=>(db a0).bind λt ht=>?_;subst ht;refine(d5 (by omega) (by simp;omega)).bind λ_ _=>(db (by omega) (by simp;omega)).bind λt ht=>c8 ?_;subst ht;simp[Hh,k1,List.getD,hu,hw]
  .rw[dR.2 k1];refine ec (P:=λ_=>True) (d7 (λhg=>absurd hg.1 (by simp)) λ_=>trivial) λy _=>?_;refine c7 (λhq=>by simp at hq) (λ_=>c8 ?_);simp[Hh,k1]
 grind
theorem Aog(h:A1 b)(hc:p.Al.length=b.Ag.length):Afe b p=some (groups b p):=by
 have hbu:=h.buses;refine di ?_;unfold Afe;refine(Ok.mkI (by omega) (by omega)).bind λy hy=>?_;refine d_ (A:=λs=>s=Ev b.Ap.toNat) (B:=λ(_:Unit)=>False) ?_ ?_ ee
 .refine c9 (I:=λj s=>s=(List.range b.Ap.toNat).map λi=>if i<j then (i:Int) else 0) ?_ (λj x s hx hs=>?_) λs hs=>?_
  .rw[hy,Pp];exact bf λi _=>by simp
  .have hj:=(ac.1 hx).1;have hjl:j<b.Ap.toNat:=by rw[hy]at hj;simpa using hj
   have hcnt:cnt 0 j=(j:Int):=E_;subst hs;unfold Ah4;rw[hcnt];refine(dr (by omega)).bind λ_ _=>(dz (by omega)).bind λz hz=>c8 ?_;grind
  .rw[hs];unfold Ev;refine bf λi hi=>?_;rw[hy];simp at hi;simp[hi]
 .rintro s rfl;refine d_ (A:=λs=>s=groups b p) (B:=λ(_:Unit)=>False) ?_ (λs hs=>ed hs) ee;refine c9 (I:=λj s=>s=(List.range j).foldl (λs _=>Ez (b.Ag.zip p.Al) s) (Ev b.Ap.toNat)) rfl (λj x s hx hs=>?_) λs hs=>?_
  .unfold Ah3;have hl:s.length=b.Ap.toNat:=by rw[hs];exact P_ _ _ (by simp[Ev])
   refine(Atl h hc hl).inner (λr hr=>c8 ?_) ee;rw[hr,bS,bI,←hs];rfl
  .rw[hs];unfold groups;congr 2;simp[Ev]
theorem Atk(h:∀(i:Nat) v,s[i]?=some v->0<=v/\v<=i)(hz:z.1.Kind=1->0<=z.1.A/\z.1.A<z.1.B/\z.1.B<s.length):∀(i:Nat) v,(Hh s z)[i]?=some v->0<=v/\v<=i:=by unfold Hh;grind
theorem yX{n:Nat}:∀(l:List (Ai×Bool))(s:ez),s.length=n->(∀z,z∈l->z.1.Kind=1->0<=z.1.A/\z.1.A<z.1.B/\z.1.B<n)->(∀(i:Nat) v,s[i]?=some v->0<=v/\v<=i)->∀(i:Nat) v,(Ez l s)[i]?=some v->0<=v/\v<=i
 | [],s,_,_,h=>h
 |z::l,s,hs,hz,h=>yX l (Hh s z) (by rw[Gk];exact hs) (λy hy=>hz y (am _ hy)) (Atk h (by rw[hs];exact hz z an))
theorem U1(h:A1 b)(p:Af):∀(i:Nat) v,(groups b p)[i]?=some v->0<=v/\v<=i:=by
 have hbu:=h.buses;have hz:∀z,z∈b.Ag.zip p.Al->z.1.Kind=1->0<=z.1.A/\z.1.A<z.1.B/\z.1.B<(b.Ap.toNat:Int):=by intro z hz hk;have:=h.br z.1 (bO hz).1;unfold Ty at this;omega
 have key:∀(xs:ey)(s:ez),s.length=b.Ap.toNat->(∀(i:Nat) v,s[i]?=some v->0<=v/\v<=i)->∀(i:Nat) v,(xs.foldl (λs _=>Ez (b.Ag.zip p.Al) s) s)[i]?=some v->0<=v/\v<=i:=by
  intro xs;induction xs with
  |nil=>intro s _ h;exact h
  |cons x xs ih=>intro s hl h;exact ih _ (by rw[Hp];exact hl) (yX _ s hl hz h)
 refine key _ _ (by simp[Ev]) ?_;intro i v hv;simp only[Ev,au]at hv;grind
def Ly(x:Aq):Bool:=!((x.Ap.length:Int)==0)
theorem At4(l:List Aq)(h:l.length<=9223372036854775807):Z8 l=some (Sp (λx=>(x.Ap.length:Int)==0) l):=by unfold Z8;exact Ja (λx:Aq=>(x.Ap.length:Int)==0) (λi y=>rfl) l h
theorem A2b(l:List Aq)(hl:l.length<=1000):Ro l=some (l.filter Ly):=by
 refine di ?_;unfold Ro;rw[At4 l (by omega)];simp only[aj];unfold Sp;cases hf:l.findIdx? λx=>(x.Ap.length:Int)==0 with
 |none=>rw[List.findIdx?_eq_none_iff]at hf;refine c7 (λ_=>ed ?_) (λhc=>by simp at hc);rw[eq_comm,List.filter_eq_self];intro x hx;simp only[Ly,hf x hx];rfl
 | some i=>
  rw[List.findIdx?_eq_some_iff_getElem]at hf;obtain⟨hi,hp,hn⟩:=hf;refine c7 (λhc=>?_) (λ_=>?_)
  .simp only[dQ]at hc;omega
  have e1:w64 ((i:Int)+1)=(i:Int)+1:=A4;simp only[e1];refine d_ (A:=λs=>0<=s.1/\s.1<=(l.length:Int)/\s.2.2.length=l.length/\s.2.2.take s.1.toNat=l.filter Ly) (B:=λ(_:Unit)=>False) ?_ ?_ ee
  .refine d4 (λs=>(0<=s.1/\s.1<s.2.1/\s.2.1<=(l.length:Int))/\s.2.2.length=l.length/\s.2.2.take s.1.toNat=(l.take s.2.1.toNat).filter Ly/\s.2.2.drop s.2.1.toNat=l.drop s.2.1.toNat) (λs=>((l.length:Int)-s.2.1).toNat) _ _ ?_ ?_ ?_
   .refine⟨by dsimp only;omega,rfl,?_,rfl⟩;dsimp only;have e2:((i:Int)+1).toNat=i+1:=by omega
    rw[e2,aG,Dj (ak hi),bQ];have h1:(l.take i).filter Ly=l.take i:=by rw[List.filter_eq_self];intro x hx;obtain⟨j,hj,rfl⟩:=cP hx;simp only[aN]at hj;rw[List.getElem_take];have:=hn j (by omega);simp only[Ly];simpa using this
    have h2:Ly l[i]=false:=by simp only[Ly,hp];rfl
    rw[h1];simp[h2]
   .dsimp only;omega
   .rintro⟨a,j,m⟩ ⟨⟨h1,h2,h3⟩,h4,h5,h6⟩;dsimp only at h1 h2 h3 h4 h5 h6;unfold Vz Ad9;dsimp only;refine c7 (λhq=>?_) (λhq=>?_)
    .simp only[dM]at hq;have e1:w64 (j+1)=j+1:=A4;have e2:w64 (a+1)=a+1:=A4;have e3:(j+1).toNat=j.toNat+1:=by omega
     have e4:(a+1).toNat=a.toNat+1:=by omega
     refine(d5 (by omega) (by omega)).bind λy hy=>?_;have hyl:l[j.toNat]?=some y:=by have:=congrArg (·[0]?) h6;simp only[ar,bo]at this;rw[←this];exact hy
     have hdrop:∀(q:List Aq),q.drop j.toNat=l.drop j.toNat->q.drop (j.toNat+1)=l.drop (j.toNat+1):=λq hq=>by rw[←cq,hq,cq]
     refine c7 (λhf=>?_) (λhf=>?_)
     .refine(d5 (by omega) (by omega)).bind λ_ _=>(db (by omega)).bind λz hz=>?_;rw[e1,e2];subst hz;refine c8 ⟨⟨by dsimp only;omega,by simpa using h4,?_,?_⟩,by dsimp only;omega⟩
      .dsimp only;rw[e3,e4,Dj hyl,bQ,←h5];have hfl:Ly y=true:=hf;rw[Dj (x:=y) (by rw[ch (by omega)])];simp[hfl,List.take_set_of_le]
      .dsimp only;rw[e3,List.drop_set_of_lt (by omega)];exact hdrop m h6
     .rw[e1];refine c8 ⟨⟨by dsimp only;omega,h4,?_,?_⟩,by dsimp only;omega⟩
      .dsimp only;have hfl:Ly y=false:=hf;rw[e3,Dj hyl,bQ,←h5];simp[hfl]
      .dsimp only;rw[e3];exact hdrop m h6
    .simp only[dN]at hq;have e:j.toNat=l.length:=by omega
     refine d9 ⟨h1,by dsimp only;omega,h4,?_⟩;dsimp only;rw[h5,e,be]
  .rintro⟨a,j,m⟩ ⟨h1,h2,h3,h4⟩;dsimp only at h1 h2 h3 h4 ⊢;have hc:(Iy m a.toNat ((Int.toNat (m.length:Int))-a.toNat) (⟨([]:ez),([]:ez),([]:ez)⟩:Aq)).length=l.length:=by
    simp[Iy];omega
   refine(Ok.bndI h1 (by omega) (by omega)).bind λ_ _=>(Ok.bndI (by omega) h1 (by rw[hc];omega)).bind λ_ _=>ed ?_;rw[←h4];unfold Iy;rw[Nat.sub_zero,cE (by simp;omega),List.take_take,Nat.min_self]
def Sq(b:Ae)(p:Af)(o:Option Int):Option Int:=o.map λa=>(groups b p).getD a.toNat 0
def Hq(b:Ae)(p:Af)(n f:Nat):ez:=((List.range n).filter λ(i:Nat)=>(groups b p).getD i 0==(f:Int)).map λ(i:Nat)=>(i:Int)
def K3(b:Ae)(p:Af)(n f:Nat):ez:=((List.range n).filter λ(i:Nat)=>Sq b p (S6 b p (i:Int))==some (f:Int)).map λ(i:Nat)=>(i:Int)
def Vk(b:Ae)(p:Af)(n f:Nat):ez:=((List.range n).filter λ(i:Nat)=>Sq b p (Ix b p 3 (i:Int))==some (f:Int)).map λ(i:Nat)=>(i:Int)
def isl(b:Ae)(p:Af)(f:Nat):Aq:=⟨Hq b p b.Ap.toNat f,K3 b p b.Ad.length f,Vk b p b.Aj.length f⟩
def Eu(b:Ae)(p:Af):List Aq:=((List.range b.Ap.toNat).map (isl b p)).filter Ly
theorem My(q:Nat->Bool)(n:Nat):((List.range (n+1)).filter q).map (λ(i:Nat)=>(i:Int))=((List.range n).filter q).map (λ(i:Nat)=>(i:Int))++if q n=true then [(n:Int)] else []:=by rw[bS,bQ,bh];congr 1;cases h:q n <;> simp[h]
theorem Jk(q:Nat->Bool)(n:Nat):(((List.range n).filter q).map (λ(i:Nat)=>(i:Int))).length<=n:=by grind
theorem Jz(h : A1 b)(hp : A7 b p) : Af0 b p = some (Eu b p) := by
 have hbu:=h.buses;have hso:=h.sol;have hco:=h.col;have hgl:=Ki b p;have hglo:=U1 h p;refine di ?_;unfold Af0;rw[Fj h hp];simp only[aj];refine c7 (λhc=>by simp at hc) (λ_=>?_);rw[Aog h hp.ncl];simp only[aj];refine(Ok.mkI (by omega) (by omega)).bind λy hy=>?_;have hget:∀(i:Nat),i<b.Ap.toNat->(groups b p)[i]?=some ((groups b p).getD i 0):=λi hi=>by
  have:i<(groups b p).length:=by omega
  simp[List.getD,List.getElem?_eq_getElem this]
 refine d_ (A:=λs=>s=(List.range b.Ap.toNat).map λf=>(⟨Hq b p b.Ap.toNat f,[],[]⟩:Aq)) (B:=λ(_:Unit)=>False) ?_ ?_ ee
 .refine c9 (I:=λj s=>s=(List.range b.Ap.toNat).map λf=>(⟨Hq b p j f,[],[]⟩:Aq)) ?_ (λj x s hx hs=>?_) λs hs=>?_
  .rw[hy,Pp];rfl
  .subst hs;have hj:j<b.Ap.toNat:=by have:=(ac.1 hx).1;omega
   have hlo:=hglo j x hx;have hxe:(groups b p).getD j 0=x:=by simp[List.getD,hx]
   have hcnt:cnt 0 j=(j:Int):=E_;unfold Ah8;rw[hcnt];refine(dr (by omega)).bind λu hu=>?_;subst hu;have hl:(Hq b p j x.toNat).length<=j:=Jk _ _;refine(d6 (by simp;omega)).bind λv hv=>(dz (by omega)).bind λw hw=>c8 ?_;rw[hw];refine bf λf _=>?_;unfold Hq;rw[My,hxe];by_cases e:f=x.toNat
   .subst e;rw[ei rfl,ei (by simp;omega),hv];rfl
   .rw[em e,em (by simp;omega),aZ]
  .rw[hgl]at hs;exact hs
 .rintro s rfl;refine d_ (A:=λs=>s.2=(List.range b.Ap.toNat).map λf=>(⟨Hq b p b.Ap.toNat f,K3 b p b.Ad.length f,[]⟩:Aq)) (B:=λ(_:Unit)=>False) ?_ ?_ ee
  .refine d4 (λs=>(0<=s.1/\s.1<=(b.Ad.length:Int))/\s.2=(List.range b.Ap.toNat).map λf=>(⟨Hq b p b.Ap.toNat f,K3 b p s.1.toNat f,[]⟩:Aq)) (λs=>((b.Ad.length:Int)-s.1).toNat) _ _ ?_ ?_ ?_
   .exact⟨by dsimp only;omega,rfl⟩
   .dsimp only;omega
   .rintro⟨i,s⟩ ⟨⟨h1,h2⟩,h3⟩;dsimp only at h1 h2 h3;subst h3;unfold Ah7 Apu;dsimp only;refine c7 (λhq=>?_) (λhq=>?_)
    .simp only[dM]at hq;have e1:w64 (i+1)=i+1:=A4;have e2:(i+1).toNat=i.toNat+1:=by omega
     have e3:((i.toNat:Nat):Int)=i:=by omega
     rw[Vl h hp];simp only[aj];cases hcn:S6 b p i with
     |none=>refine c7 (λhc=>by simp[O1]at hc) (λ_=>?_);rw[e1];refine c8 ⟨⟨by dsimp only;omega,?_⟩,by dsimp only;omega⟩;dsimp only;rw[e2];refine bf λf _=>?_;unfold K3;rw[My,e3,hcn,em (by simp[Sq]),aZ]
     | some a=>
      have hab:=At5 h hcn;have hga:=hget a.toNat (by omega);have hgla:=hglo _ _ hga;refine c7 (λ_=>?_) (λhc=>by simp[O1]at hc);have hg2:getI (groups b p) a=some ((groups b p).getD a.toNat 0):=by have:=Dg hga;rwa [cw hab.1]at this
      simp only[O1,hg2,aj];generalize hge:(groups b p).getD a.toNat 0=ga at hgla;refine(dr (by omega)).bind λu hu=>?_;subst hu;have hl:(K3 b p i.toNat ga.toNat).length<=i.toNat:=Jk _ _;refine(d6 (by simp;omega)).bind λv hv=>(dz (by omega)).bind λw hw=>?_;rw[e1];refine c8 ⟨⟨by dsimp only;omega,?_⟩,by dsimp only;omega⟩;dsimp only;rw[hw,e2];refine bf λf _=>?_;unfold K3;rw[My,e3,hcn];simp only[Sq,aU,hge];by_cases e:f=ga.toNat
      .subst e;rw[ei rfl,ei (by simp;omega),hv];rfl
      .rw[em e,em (by simp;omega),aZ]
    .simp only[dN]at hq;have e:i.toNat=b.Ad.length:=by omega
     rw[e];exact d9 rfl
  .rintro⟨i0,s⟩ hs;dsimp only at hs;subst hs;dsimp only;refine d_ (A:=λs=>s.2=(List.range b.Ap.toNat).map (isl b p)) (B:=λ(_:Unit)=>False) ?_ ?_ ee
   .refine d4 (λs=>(0<=s.1/\s.1<=(b.Aj.length:Int))/\s.2=(List.range b.Ap.toNat).map λf=>(⟨Hq b p b.Ap.toNat f,K3 b p b.Ad.length f,Vk b p s.1.toNat f⟩:Aq)) (λs=>((b.Aj.length:Int)-s.1).toNat) _ _ ?_ ?_ ?_
    .exact⟨by dsimp only;omega,rfl⟩
    .dsimp only;omega
    .rintro⟨i,s⟩ ⟨⟨h1,h2⟩,h3⟩;dsimp only at h1 h2 h3;subst h3;unfold Ah6 Apt;dsimp only;refine c7 (λhq=>?_) (λhq=>?_)
     .simp only[dM]at hq;have e1:w64 (i+1)=i+1:=A4;have e2:(i+1).toNat=i.toNat+1:=by omega
      have e3:((i.toNat:Nat):Int)=i:=by omega
      rw[Adg h hp.ncl];simp only[aj];cases hcn:Ix b p 3 i with
      |none=>refine c7 (λhc=>by simp[O1]at hc) (λ_=>?_);rw[e1];refine c8 ⟨⟨by dsimp only;omega,?_⟩,by dsimp only;omega⟩;dsimp only;rw[e2];refine bf λf _=>?_;unfold Vk;rw[My,e3,hcn,em (by simp[Sq]),aZ]
      | some a=>
       have hab:=Acz h hcn;have hga:=hget a.toNat (by omega);have hgla:=hglo _ _ hga;refine c7 (λ_=>?_) (λhc=>by simp[O1]at hc);have hg2:getI (groups b p) a=some ((groups b p).getD a.toNat 0):=by have:=Dg hga;rwa [cw hab.1]at this
       simp only[O1,hg2,aj];generalize hge:(groups b p).getD a.toNat 0=ga at hgla;refine(dr (by omega)).bind λu hu=>?_;subst hu;have hl:(Vk b p i.toNat ga.toNat).length<=i.toNat:=Jk _ _;refine(d6 (by simp;omega)).bind λv hv=>(dz (by omega)).bind λw hw=>?_;rw[e1];refine c8 ⟨⟨by dsimp only;omega,?_⟩,by dsimp only;omega⟩;dsimp only;rw[hw,e2];refine bf λf _=>?_;unfold Vk;rw[My,e3,hcn];simp only[Sq,aU,hge];by_cases e:f=ga.toNat
       .subst e;rw[ei rfl,ei (by simp;omega),hv];rfl
       .rw[em e,em (by simp;omega),aZ]
     .simp only[dN]at hq;have e:i.toNat=b.Aj.length:=by omega
      rw[e];exact d9 rfl
   .rintro⟨i1,s⟩ hs;dsimp only at hs;subst hs;dsimp only;rw[A2b _ (by simp;omega)];exact ed rfl
theorem Alf{l:List α}(h:l.length*B<=140737488355328:=by omega):appI B [] l=some l:=by
 unfold appI;have:decide ((([]:List α).length+l.length)*B<=140737488355328)=true:=by simpa using h
 rw[this];rfl
theorem Ie(h:A1 b)(hp:A7 b p):F59 p=some p:=by have h1:=hp.ncl;have h2:=hp.nso;have h3:=hp.nli;have h4:=hp.brk.len;have h5:=h.brl;have h6:=h.sol;have h7:=h.col;unfold F59 Amo Amn Yq Amm;rw[Alf,Alf,Alf,Alf];rfl
theorem eqR(l:List An)(h:l.length<=9223372036854775807):Agh l l=some true:=by
 unfold Agh;rw[Fq l 0 λj x hj=>?_]
 .simp[andThen]
 .have hjl:=(ac.1 hj).1;unfold Aiq Ap7;rw[aJ,E_,Dg hj];simp
theorem eqP(l:List Aa)(h:l.length<=9223372036854775807):Agg l l=some true:=by
 unfold Agg;rw[Fq l 0 λj x hj=>?_]
 .simp[andThen]
 .have hjl:=(ac.1 hj).1;unfold Aip Ap6;rw[aJ,E_,Dg hj];simp
structure A69(p:Af):Prop where
 c:p.Al.length<=1000
 s:p.Ad.length<=1000
 l:p.A0.length<=1000
 k:p.Ao.length<=1000
theorem A7.lens(h:A1 b)(hp:A7 b p):A69 p:=by have h1:=hp.ncl;have h2:=hp.nso;have h3:=hp.nli;have h4:=hp.brk.len;have h5:=h.brl;have h6:=h.sol;have h7:=h.col;exact⟨by omega,by omega,by omega,by omega⟩
def Ase(like x:An):An:=⟨x.State,x.Since,like.Ax,like.Phase⟩
def Nc(like:An)(idx:ez)(ss:List An):List An:=idx.foldl (λs i=>s.set i.toNat (Ase like (s.getD i.toNat default))) ss
theorem J_(like:An):∀(idx:ez)(ss:List An),(Nc like idx ss).length=ss.length
 | [],_=>rfl
 |i::idx,ss=>by show (Nc like idx _).length=_;rw[J_ like idx,bV]
theorem Ank(h:idx[j]?=some i)(ss:List An):Nc like (idx.take (j+1)) ss=(Nc like (idx.take j) ss).set i.toNat (Ase like ((Nc like (idx.take j) ss).getD i.toNat default)):=by unfold Nc;rw[Dj h,bI];rfl
theorem Ab3(h:∀i,i∈idx->0<=i/\i<p.Ad.length):Rt p idx like=some (Nc like idx p.Ad):=by
 refine di ?_;unfold Rt;refine d_ (A:=λs=>s=Nc like idx p.Ad) (B:=λ(_:Unit)=>False) ?_ (λs hs=>ed hs) ee;refine c9 (I:=λj s=>s=Nc like (idx.take j) p.Ad) rfl (λj x s hx hs=>?_) λs hs=>?_
 .have hi:=h x (ag hx);have hl:s.length=p.Ad.length:=by rw[hs,J_]
  unfold Aaa;refine(d5 hi.1 (by omega)).bind λu hu=>(db hi.1).bind λv hv=>?_;have hvg:v[x.toNat]?=some (⟨u.State,u.Since,like.Ax,u.Phase⟩:An):=by rw[hv,ch (by omega)]
  refine ec (P:=λw=>w=(⟨u.State,u.Since,like.Ax,u.Phase⟩:An)) ((d5 hi.1 (by rw[hv];simpa using by omega)).mono λw hw=>by rw[hvg]at hw;cases hw;rfl) λw hw=>?_;refine(db hi.1 (by rw[hv];simpa using by omega)).bind λz hz=>c8 ?_;rw[Ank hx,←hs,hz,hv,hw,List.set_set];have:s.getD x.toNat default=u:=by simp[List.getD,hu]
  rw[this];rfl
 .rw[be]at hs;exact hs
def Lz(b:Ae)(p:Af):List An:=(Eu b p).foldl (λs x=>match x.Ad with| []=>s|i::_=>Nc (p.Ad.getD i.toNat default) x.Ad s) p.Ad
theorem Wm{x:Aq}(h:x∈Eu b p):∀i,i∈x.Ad->0<=i/\i<b.Ad.length:=by unfold Eu at h;obtain⟨f,_,rfl⟩:=aA.1 (aH.1 h).1;intro i hi;obtain⟨k,hk,rfl⟩:=aA.1 hi;have:=bT.1 (aH.1 hk).1;omega
def H4(p:Af)(s:List An)(x:Aq):List An:=match x.Ad with
 | []=>s
 |i::_=>Nc (p.Ad.getD i.toNat default) x.Ad s
theorem U2(p:Af)(s:List An)(x:Aq):(H4 p s x).length=s.length:=by
 unfold H4;split
 .rfl
 .rw[J_]
theorem Qa(p:Af):∀(l:List Aq)(s:List An),(l.foldl (H4 p) s).length=s.length
 | [],_=>rfl
 |x::l,s=>by show (l.foldl (H4 p) _).length=_;rw[Qa p l,U2]
theorem uM(b:Ae)(p:Af):(Lz b p).length=p.Ad.length:=Qa p _ _
theorem yZ(h:A1 b)(hp:A7 b p):Af1 b p=some (⟨p.Al,Lz b p,p.A0,p.Ao⟩,0):=by
 refine di ?_;unfold Af1;rw[Fj h hp,Ie h hp,Jz h hp];simp only[aj];refine c7 (λhc=>by simp at hc) (λ_=>?_);refine d_ (A:=λs=>s=Lz b p) (B:=λ(_:Unit)=>False) ?_ (λs hs=>ed (by rw[hs])) ee;refine c9 (I:=λj s=>s=((Eu b p).take j).foldl (H4 p) p.Ad) rfl (λj x s hx hs=>?_) λs hs=>?_
 .have hi:=Wm (ag hx);have hl:s.length=p.Ad.length:=by rw[hs,Qa]
  have hn:=hp.nso;have hnext:((Eu b p).take (j+1)).foldl (H4 p) p.Ad=H4 p s x:=by rw[Dj hx,bI,←hs];rfl
  unfold Ah9 Apv;cases hsrc:x.Ad with
  |nil=>refine c7 (λhc=>by simp at hc) (λ_=>c8 ?_);rw[hnext];simp[H4,hsrc]
  | cons i l=>
   have hi0:=hi i (by rw[hsrc];exact an);refine c7 (λ_=>?_) (λhc=>by simp at hc);have hg:getI (i::l) 0=some i:=rfl;obtain⟨u,hu⟩:∃u,p.Ad[i.toNat]?=some u:=⟨_,ak (by omega)⟩;have hg2:getI p.Ad i=some u:=by have:=Dg hu;rwa [cw hi0.1]at this
   rw[hg];simp only[aj];rw[hg2];simp only[aj];rw[Ab3 (by intro k hk;have:=hi k (by rw[hsrc];exact hk);dsimp only;omega)]
   refine c8 ?_;rw[hnext];have:p.Ad.getD i.toNat default=u:=by simp[List.getD,hu]
   simp only[H4,hsrc,this]
 .rw[be]at hs;exact hs
def H9(p:Af):Prop:=∀c,c∈p.Al->c=false
theorem An3(h:H9 p)(k i:Int):Ix b p k i=none:=by
 unfold Ix;have:((b.Ag.zip p.Al).find? λz=>(z.1.Kind==k&&z.1.B==i)&&z.2)=none:=by rw[List.find?_eq_none];intro z hz;rw[h z.2 (bO hz).2];simp
 rw[this];rfl
theorem Apc(h:H9 p)(i:Int):S6 b p i=none:=by
 unfold S6;split
 .exact An3 h 2 i
 .rfl
theorem yI(h:H9 p){x:Aq}(hx:x∈Eu b p):x.Ad=[]:=by unfold Eu at hx;obtain⟨f,_,rfl⟩:=aA.1 (aH.1 hx).1;show K3 b p b.Ad.length f=[];unfold K3;rw[List.map_eq_nil_iff,cT];intro i _;rw[Apc h];simp[Sq]
theorem Adc(h:H9 p):Lz b p=p.Ad:=by
 unfold Lz;have key:∀(l:List Aq)(s:List An),(∀x,x∈l->x.Ad=[])->l.foldl (H4 p) s=s:=by
  intro l;induction l with
  |nil=>intro s _;rfl
  |cons x l ih=>
   intro s hl;show l.foldl (H4 p) (H4 p s x)=s;have:H4 p s x=s:=by unfold H4;rw[hl x an]
   rw[this];exact ih s λy hy=>hl y (am _ hy)
 exact key _ _ λx hx=>yI h hx
theorem Akc(h:∀x,x∈c->x=false)(i:Nat):El l c i=[]:=by unfold El;rw[cT];intro z hz;rw[h z.2 (bO hz).2];simp
structure Wx(y:Ff):Prop where
 stop:1<=y.Stop/\y.Stop<=99
 start:y.Stop<y.Start/\y.Start<=100
 delay:0<=y.Delay/\y.Delay<=600
variable{y:Ff}
theorem Xa(h:Wx y):F85 y=true:=by have h1:=h.stop;have h2:=h.start;have h3:=h.delay;simp only[F85,aa,dM];omega
theorem Au2{s:Ab}(hs:A3 s):Ok (F34 s) λy=>Wx y.1/\A3 y.2:=by
 unfold F34;refine(Bi hs _ (by simp) (by simp)).bind λu hu=>(Bi hu.1 _ (by simp) (by simp)).bind λv hv=>(Bi hv.1 _ (by simp) (by simp)).bind λw hw=>ed ⟨?_,hw.1⟩;have g1:u.1=60\/u.1=80\/u.1=100:=by simpa using hu.2
 have g2:v.1=1\/v.1=30\/v.1=50:=by simpa using hv.2
 have g3:w.1=0\/w.1=1\/w.1=3:=by simpa using hw.2
 exact⟨by dsimp only;omega,by dsimp only;omega,by dsimp only;omega⟩
def Pr:Cw:=⟨-1,-1⟩
theorem A8m:Tv 1=some (List.replicate 1 Pr):=by kernel_rfl
theorem A8l:Tv 2=some (List.replicate 2 Pr):=by kernel_rfl
theorem A8k:Tv 3=some (List.replicate 3 Pr):=by kernel_rfl
theorem A8j:Tv 4=some (List.replicate 4 Pr):=by kernel_rfl
theorem A8i:Tv 5=some (List.replicate 5 Pr):=by kernel_rfl
theorem A8h:Tv 6=some (List.replicate 6 Pr):=by kernel_rfl
theorem A1z(h:1<=n/\n<=6):Tv n=some (List.replicate n.toNat Pr):=by
 have:n=1\/n=2\/n=3\/n=4\/n=5\/n=6:=by omega
 rcases this with rfl|rfl|rfl|rfl|rfl|rfl
 .exact A8m
 .exact A8l
 .exact A8k
 .exact A8j
 .exact A8i
 .exact A8h
def Hi:An:=⟨0,0,5000,0⟩
theorem Bc1:Nn [Hi] 0=some (List.replicate 0 Hi):=by kernel_rfl
theorem Bc0:Nn [Hi] 1=some (List.replicate 1 Hi):=by kernel_rfl
theorem Bcz:Nn [Hi] 2=some (List.replicate 2 Hi):=by kernel_rfl
theorem Bcy:Nn [Hi] 3=some (List.replicate 3 Hi):=by kernel_rfl
theorem Bcx:Nn [Hi] 4=some (List.replicate 4 Hi):=by kernel_rfl
theorem Bcw:Nn [Hi] 5=some (List.replicate 5 Hi):=by kernel_rfl
theorem Bcv:Nn [Hi] 6=some (List.replicate 6 Hi):=by kernel_rfl
theorem Bcu:Nn [Hi] 7=some (List.replicate 7 Hi):=by kernel_rfl
theorem Bct:Nn [Hi] 8=some (List.replicate 8 Hi):=by kernel_rfl
variable{n:Nat}
theorem A1j(h:n<=8):Nn [Hi] (n:Int)=some (List.replicate n Hi):=by
 have:n=0\/n=1\/n=2\/n=3\/n=4\/n=5\/n=6\/n=7\/n=8:=by omega
 rcases this with rfl|rfl|rfl|rfl|rfl|rfl|rfl|rfl|rfl
 .exact Bc1
 .exact Bc0
 .exact Bcz
 .exact Bcy
 .exact Bcx
 .exact Bcw
 .exact Bcv
 .exact Bcu
 .exact Bct
def H0(b:Ae):Af:=⟨List.replicate b.Ag.length false,List.replicate b.Ad.length Hi,b.Aj.map (·.Load),[]⟩
def Ajn(b:Ae):Jp:=⟨0,H0 b,List.replicate b.Ap.toNat Pr,[]⟩
theorem T4(b:Ae):H9 (H0 b):=λ_ hc=>(List.mem_replicate.1 hc).2
theorem Agu(h:A1 b):A7 b (H0 b) where
 ncl:=by simp[H0]
 nso:=by simp[H0]
 nli:=by simp[H0]
 run x hx:=by have:=(List.mem_replicate.1 hx).2;subst this;exact⟨by decide,by decide,by decide,by decide⟩
 lim i n c hn hc:=by simp only[H0,au,hc]at hn;cases hn;have:=(h.co i c hc).1;exact⟨this.1,Int.le_refl _⟩
 one i _:=by rw[Akc (T4 b)];simp
 brk:=⟨by simp[H0],λx hx=>by simp[H0]at hx,λj x y hx=>by simp[H0]at hx⟩
theorem A4m(h:A1 b)(hy:Wx y):F49 b y=some (Ajn b,0):=by
 have h1:=h.buses;have h2:=h.brl;have h3:=h.sol;have h4:=h.col;refine di ?_;unfold F49;rw[S9 h,Xa hy,A1z h1];have hr:=A1j h3;unfold Hi at hr;rw[hr];simp only[aj];refine c7 (λhc=>by simp at hc) (λ_=>c7 (λhc=>by simp at hc) (λ_=>?_));refine(Ok.mkI (by omega) (by omega)).bind λz hz=>?_;refine d_ (A:=λs=>s=b.Aj.map (·.Load)) (B:=λ(_:Unit)=>False) ?_ (λs hs=>ed ?_) ee
 .refine c9 (I:=λj s=>s=(b.Aj.take j).map (·.Load)) rfl (λj x s hx hs=>?_) λs hs=>?_
  .have hj:=(ac.1 hx).1;unfold Aqt;refine(d6 (by rw[hs];simp;omega)).bind λt ht=>c8 ?_;rw[ht,hs,Dj hx,bh];rfl
  .rw[be]at hs;exact hs
 .rw[hz,hs,aG];rfl
def brk(l:List Aa)(k n:Int):Bool:=l.any λx=>k==x.Kind&&n==x.Number
theorem Gm(h:p.Ao.length<=1000)(k n:Int):I0 p k n=some (brk p.Ao k n):=by unfold I0 Afz Alu;rw[Ja (λx:Aa=>(k==x.Kind)&&((n==x.Number)&&true)) (λi y=>rfl) p.Ao (by omega)];simp only[aj,Lx,brk,bM]
def Mm(b:Ae)(i:Int):Int:=Sp (λx:Ai=>x.Kind==2&&x.B==i) b.Ag
theorem Lf(h:A1 b)(i:Int):Tu b i=some (Mm b i):=by
 have hb:=h.brl;unfold Tu Afy;refine di ?_;refine ec (P:=λy=>y=(Mm b i,i)) ?_ (λy hy=>ed (by rw[hy]));have key:=P5 (f:=λn(a:Ai)(z:Unit)=>(bif (a.Kind==2&&a.B==i)then some (.ret (cnt 0 n)) else some (.next ()):Option (Ctl Unit Int))) (p:=λx:Ai=>x.Kind==2&&x.B==i) (λ_ _=>rfl) b.Ag 0 (by omega);have:∀(xs:List Ai)(k:Nat),foldI (V6 i) xs k ()=match foldI (λn(a:Ai)(z:Unit)=>(bif (a.Kind==2&&a.B==i)then some (.ret (cnt 0 n)) else some (.next ()):Option (Ctl Unit Int))) xs k () with
   |some (.ret r)=>some (.ret (r,i))
   |some (.next _)=>some (.next ())
   |some (.brk _)=>some (.brk ())
   |none=>none:=by
  intro xs;induction xs with
  |nil=>intro k;rfl
  |cons x xs ih=>
   intro k;simp only[foldI,V6,Afx];cases hq:(x.Kind==2&&x.B==i) with
   |true=>rfl
   |false=>simp only[eg];exact ih (k+1)
 rw[this,key];unfold Mm Sp;cases b.Ag.findIdx? (λx:Ai=>x.Kind==2&&x.B==i) with
 |none=>exact ed rfl
 |some j=>exact ed rfl
theorem Nz(h:A1 b)(h0:0<=i)(h1:i<b.Ad.length):∃(j:Nat)(x:Ai),Mm b i=(j:Int)/\b.Ag[j]?=some x/\x.Kind=2/\x.B=i/\j<24:=by
 have hone:=h.one i.toNat (by omega);have hb:=h.brl;unfold Mm Sp;cases hf:b.Ag.findIdx? (λx:Ai=>x.Kind==2&&x.B==i) with
 | none=>
  exfalso;rw[List.findIdx?_eq_none_iff]at hf;have:brs b.Ag 2 i.toNat=[]:=L8 λx hx hk e=>by have:=hf x hx;simp[hk]at this;omega
  rw[this]at hone;simp at hone
 |some j=>rw[List.findIdx?_eq_some_iff_getElem]at hf;obtain⟨hj,hp,_⟩:=hf;simp only[aa,dQ]at hp;exact⟨j,b.Ag[j],rfl,ak hj,hp.1,hp.2,by omega⟩
def Hr(b:Ae)(l:List Aa)(i:Int):Bool:=
 let x:=b.Ag.getD i.toNat default
 (!brk l 2 i && !brk l 3 x.A)&&((x.Kind != 1) || !brk l 3 x.B)
theorem R6(h:A1 b)(hl:p.Ao.length<=1000)(h0:0<=i)(h1:i<b.Ag.length:=by omega):Yr b p i=some (Hr b p.Ao i):=by
 have hb:=h.brl;refine di ?_;unfold Yr;refine(d5 h0 (by omega)).bind λx hx=>?_;have hd:b.Ag.getD i.toNat default=x:=by simp[List.getD,hx]
 unfold Hr;rw[hd];simp only[Gm hl,aj];cases h2:brk p.Ao 2 i with
 |true=>simp[Aw,D5];exact ed rfl
 | false=>
  cases h3:brk p.Ao 3 x.A with
  |true=>simp[Aw,D5];exact ed rfl
  |false=>
   cases hk:(x.Kind != 1) with
   |true=>simp[Aw,D5];exact ed rfl
   |false=>simp[Aw,D5];exact ed rfl
def G6(b:Ae)(p:Af)(i:Int):Bool:=(Hr b p.Ao (Mm b i) && !brk p.Ao 1 i)&&((p.Ad.getD i.toNat default).State != 3)
theorem Ub(h:A1 b)(hp:p.Ad.length=b.Ad.length)(hl:p.Ao.length<=1000)(h0:0<=i)(h1:i<b.Ad.length):yB b p i=some (G6 b p i):=by
 obtain⟨j,x,e,hx,_,_,hj⟩:=Nz h h0 h1;have hjl:=(ac.1 hx).1;refine di ?_;unfold yB;rw[Lf h];simp only[aj];rw[R6 h hl (by omega)];simp only[aj,Gm hl];obtain⟨s,hs⟩:∃s,p.Ad[i.toNat]?=some s:=⟨_,ak (by omega)⟩;have hg:getI p.Ad i=some s:=by have:=Dg hs;rwa [cw h0]at this
 have hd:p.Ad.getD i.toNat default=s:=by simp[List.getD,hs]
 unfold G6;rw[hd,hg];cases h2:Hr b p.Ao (Mm b i) with
 |false=>simp[Aw,D5];exact ed rfl
 |true=>
  cases h3:brk p.Ao 1 i with
  |true=>simp[Aw,D5];exact ed rfl
  |false=>simp[Aw,D5];exact ed rfl
def lit(b:Ae)(u:Int->Bool)(s:eB)(i:Nat):eB:=if u (i:Int)then s.set (b.Ag.getD (Mm b (i:Int)).toNat default).A.toNat true else s
def Oj(sd:Int->Bool)(s:eB)(z:Ai×Nat):eB:=
 if z.1.Kind=1/\sd (z.2:Int)=true then (s.set z.1.A.toNat (s.getD z.1.A.toNat false || s.getD z.1.B.toNat false)).set z.1.B.toNat (s.getD z.1.A.toNat false || s.getD z.1.B.toNat false) else s
def Ka(sd:Int->Bool)(l:List (Ai×Nat))(s:eB):eB:=l.foldl (Oj sd) s
def Acw(b:Ae)(u:Int->Bool):eB:=(List.range b.Ad.length).foldl (lit b u) (List.replicate b.Ap.toNat false)
def Zc(b:Ae)(u sd:Int->Bool):eB:=(List.range b.Ap.toNat).foldl (λs _=>Ka sd b.Ag.zipIdx s) (Acw b u)
theorem Y6(b:Ae)(u:Int->Bool)(s:eB)(i:Nat):(lit b u s i).length=s.length:=by unfold lit;split <;> simp
theorem Xg(b:Ae)(u:Int->Bool):(Acw b u).length=b.Ap.toNat:=by
 have:∀(xs:ey)(s:eB),(xs.foldl (lit b u) s).length=s.length:=by
  intro xs;induction xs with
  |nil=>intro s;rfl
  |cons x xs ih=>intro s;rw[bq,ih,Y6]
 unfold Acw;rw[this];simp
theorem Aam(sd:Int->Bool)(s:eB)(z:Ai×Nat):(Oj sd s z).length=s.length:=by unfold Oj;split <;> simp
theorem Nh(sd:Int->Bool):∀(l:List (Ai×Nat))(s:eB),(Ka sd l s).length=s.length
 | [],_=>rfl
 |z::l,s=>by show (Ka sd l _).length=_;rw[Nh sd l,Aam]
theorem Ng(sd:Int->Bool)(l:List (Ai×Nat)):∀(xs:ey)(s:eB),(xs.foldl (λs _=>Ka sd l s) s).length=s.length
 | [],_=>rfl
 |_::xs,s=>by rw[bq,Ng sd l xs,Nh]
theorem Ac6(b:Ae)(u sd:Int->Bool):(Zc b u sd).length=b.Ap.toNat:=by unfold Zc;rw[Ng,Xg]
variable{s:eB}
theorem Aj6(h:A1 b)(hl:p.Ao.length<=1000)(hs:s.length=b.Ap.toNat) :
  Ok (foldI (Ae1 b p) b.Ag 0 s) (Hg (λr=>r=Ka (Hr b p.Ao) b.Ag.zipIdx s) (λ(_:Unit)=>False)):=by
 have hb:=h.brl;refine c9 (I:=λj r=>r=Ka (Hr b p.Ao) (b.Ag.zipIdx.take j) s) (by simp[Ka]) (λj x r hx hr=>?_) λr hr=>?_
 .have hj:=(ac.1 hx).1;have hcnt:cnt 0 j=(j:Int):=E_;have hrl:r.length=b.Ap.toNat:=by rw[hr,Nh,hs]
  have hz:b.Ag.zipIdx[j]?=some (x,j):=by rw[List.getElem?_zipIdx,hx];simp
  have hnext:Ka (Hr b p.Ao) (b.Ag.zipIdx.take (j+1)) s=Oj (Hr b p.Ao) r (x,j):=by rw[Dj hz];unfold Ka at hr ⊢;rw[bI,←hr];rfl
  rw[hnext];obtain⟨⟨a0,a1⟩,hk⟩:=h.br x (ag hx);unfold Ae1;rw[hcnt];by_cases k1:x.Kind=1
  .rw[dQ.2 k1];have hB:x.A<x.B/\x.B<b.Ap:=by omega
   refine ec (P:=λy=>y=Hr b p.Ao (j:Int)) (d7 (λ_=>by rw[R6 h hl (by omega)];exact ed rfl) λhn=>(hn ⟨rfl,trivial⟩).elim) λy hy=>?_;refine c7 (λhq=>?_) (λhq=>?_)
   .simp only[ce]at hq;rw[hq]at hy;obtain⟨u,hu⟩:∃u,r[x.A.toNat]?=some u:=⟨_,ak (by omega)⟩;obtain⟨v,hv⟩:∃v,r[x.B.toNat]?=some v:=⟨_,ak (by omega)⟩;have hgu:getI r x.A=some u:=by have:=Dg hu;rwa [cw a0]at this
    have hgv:getI r x.B=some v:=by have:=Dg hv;rwa [cw (by omega)]at this
    have hdu:r.getD x.A.toNat false=u:=by simp[List.getD,hu]
    have hdv:r.getD x.B.toNat false=v:=by simp[List.getD,hv]
    rw[hgu,hgv];simp only[aj];refine ec (P:=λw=>(u || w)=(u || v)) (d7 (λ_=>ed rfl) λhn=>?_) λw hw=>?_
    .cases u with
     |true=>rfl
     |false=>exact(hn ⟨rfl,trivial⟩).elim
    rw[hw];refine(db a0).bind λt ht=>?_;subst ht;refine(d5 (by omega) (by simp;omega)).bind λ_ _=>(db (by omega) (by simp;omega)).bind λt ht=>c8 ?_;rw[ht];unfold Oj;rw[ei ⟨k1,hy.symm⟩];simp only[hdu,hdv]
   .simp only[ce]at hq;refine c8 ?_;unfold Oj;rw[em (by rw[←hy,hq];simp)]
  .rw[dR.2 k1];refine ec (P:=λ_=>True) (d7 (λhg=>absurd hg.1 (by simp)) λ_=>trivial) λy _=>?_;refine c7 (λhq=>by simp at hq) (λ_=>c8 ?_);unfold Oj;rw[em (λhh=>k1 hh.1)]
 .rw[hr,show b.Ag.length=b.Ag.zipIdx.length from by simp,be]
theorem Ahi(h:A1 b)(hp:A7 b p):F57 b p=some (Zc b (G6 b p) (Hr b p.Ao)):=by
 have hbu:=h.buses;have hso:=h.sol;have hns:=hp.nso;have hbl:p.Ao.length<=1000:=by have:=hp.brk.len;omega
 refine di ?_;unfold F57;rw[Fj h hp];simp only[aj];refine c7 (λhc=>by simp at hc) (λ_=>?_);refine(Ok.mkI (by omega) (by omega)).bind λy hy=>?_;refine d_ (A:=λs=>s.2=Acw b (G6 b p)) (B:=λ(_:Unit)=>False) ?_ ?_ ee
 .refine d4 (λs=>(0<=s.1/\s.1<=(b.Ad.length:Int))/\s.2=(List.range s.1.toNat).foldl (lit b (G6 b p)) (List.replicate b.Ap.toNat false)) (λs=>((b.Ad.length:Int)-s.1).toNat) _ _ ?_ ?_ ?_
  .exact⟨by dsimp only;omega,by rw[hy];rfl⟩
  .dsimp only;omega
  .rintro⟨i,s⟩ ⟨⟨h1,h2⟩,h3⟩;dsimp only at h1 h2 h3;have hsl:s.length=b.Ap.toNat:=by
    rw[h3];have:∀(xs:ey)(s:eB),(xs.foldl (lit b (G6 b p)) s).length=s.length:=by
     intro xs;induction xs with
     |nil=>intro s;rfl
     |cons x xs ih=>intro s;rw[bq,ih,Y6]
    rw[this];simp
   unfold Aqr A0q;dsimp only;refine c7 (λhq=>?_) (λhq=>?_)
   .simp only[dM]at hq;have e1:w64 (i+1)=i+1:=A4;have e2:(i+1).toNat=i.toNat+1:=by omega
    have e3:((i.toNat:Nat):Int)=i:=by omega
    have hnext:(List.range (i+1).toNat).foldl (lit b (G6 b p)) (List.replicate b.Ap.toNat false)=lit b (G6 b p) s i.toNat:=by rw[e2,bS,bI,←h3];rfl
    rw[Ub h hns hbl h1 hq];simp only[aj,e1];refine c7 (λhu=>?_) (λhu=>?_)
    .obtain⟨j,x,e,hx,_,_,hj⟩:=Nz h h1 hq;have hjl:=(ac.1 hx).1;obtain⟨⟨a0,a1⟩,_⟩:=h.br x (ag hx);rw[Lf h,e];simp only[aj];rw[Dg hx];simp only[aj];refine(d5 a0 (by omega)).bind λ_ _=>(db a0).bind λt ht=>c8 ⟨⟨by dsimp only;omega,?_⟩,by dsimp only;omega⟩;dsimp only;rw[hnext,ht];unfold lit;have hd:b.Ag.getD j default=x:=by simp[List.getD,hx]
     rw[e3,ei hu,e,aG,hd]
    .refine c8 ⟨⟨by dsimp only;omega,?_⟩,by dsimp only;omega⟩;dsimp only;rw[hnext];unfold lit;rw[e3,em (by rw[hu];simp)]
   .simp only[dN]at hq;refine d9 ?_;dsimp only;rw[h3];have:i.toNat=b.Ad.length:=by omega
    rw[this];rfl
 .rintro⟨i0,s⟩ hs;dsimp only at hs;subst hs;dsimp only;refine d_ (A:=λs=>s.2=Zc b (G6 b p) (Hr b p.Ao)) (B:=λ(_:Unit)=>False) ?_ (λs hs=>ed hs) ee;refine d4 (λs=>(0<=s.1/\s.1<=b.Ap)/\s.2=(List.range s.1.toNat).foldl (λs _=>Ka (Hr b p.Ao) b.Ag.zipIdx s) (Acw b (G6 b p))) (λs=>(b.Ap-s.1).toNat) _ _ ?_ ?_ ?_
  .exact⟨by dsimp only;omega,rfl⟩
  .dsimp only;omega
  .rintro⟨i,s⟩ ⟨⟨h1,h2⟩,h3⟩;dsimp only at h1 h2 h3;unfold Aqq;dsimp only;refine c7 (λhq=>?_) (λhq=>?_)
   .simp only[dM]at hq;have e1:w64 (i+1)=i+1:=A4;have e2:(i+1).toNat=i.toNat+1:=by omega
    have hsl:s.length=b.Ap.toNat:=by rw[h3,Ng,Xg]
    refine(Aj6 h hbl hsl).inner (λr hr=>?_) ee;rw[e1];refine c8 ⟨⟨by dsimp only;omega,?_⟩,by dsimp only;omega⟩;dsimp only;rw[hr,e2,bS,bI,←h3];rfl
   .simp only[dN]at hq;refine d9 ?_;dsimp only;rw[h3];have:i.toNat=b.Ap.toNat:=by omega
    rw[this];rfl
def LeB(s t:eB):Prop:=s.length=t.length/\∀i:Nat,s[i]?=some true->t[i]?=some true
theorem LeB.refl(s:eB):LeB s s:=⟨rfl,λ_ h=>h⟩
theorem LeB.trans{r:eB}(h:LeB s t)(k:LeB t r):LeB s r:=⟨h.1.trans k.1,λi e=>k.2 i (h.2 i e)⟩
variable{y:Bool}
theorem LeB.set(h:LeB s t)(n:Nat){x:Bool}(hx:x=true->y=true):LeB (s.set n x) (t.set n y):=by
 refine⟨by simp[h.1],λi e=>?_⟩;rw[aB]at e ⊢;split at e
 .rename_i hn;rw[ei hn];split at e
  .rename_i hl;rw[ei (by rw[←h.1];exact hl)];cases e;rw[hx rfl]
  .cases e
 .rename_i hn;rw[em hn];exact h.2 i e
theorem LeB.getD(h:LeB s t)(n:Nat):s.getD n false=true->t.getD n false=true:=by
 intro e;have:s[n]?=some true:=by
  unfold List.getD at e;cases hs:s[n]? with
  |none=>rw[hs]at e;cases e
  |some v=>rw[hs]at e;simp at e;rw[e]
 simp[List.getD,h.2 n this]
theorem LeB.up(s:eB)(n:Nat)(hy:s.getD n false=true->y=true):LeB s (s.set n y):=by
 refine⟨by simp,λi e=>?_⟩;rw[aB];split
 .rename_i hn;subst hn;have hl:=(ac.1 e).1;rw[ei hl,hy (by simp[List.getD,e])]
 .exact e
def ks(x:Aa):Int:=x.Kind*1000+x.Number
def Di(x:Aa):Prop:=(1<=x.Kind/\x.Kind<=4)/\0<=x.Number/\x.Number<=100
theorem Dq.small(h:A1 b)(hx:Dq b x):Di x:=by have h1:=h.buses;have h2:=h.brl;have h3:=h.sol;have h4:=h.col;unfold Dq at hx;unfold Di;omega
variable{y:Aa}
theorem Aau(hx:Di x)(hy:Di y):Aet x y↔ks x<ks y:=by unfold Aet ks;unfold Di at hx hy;omega
theorem A0i(hx:Di x)(hy:Di y)(h:ks x=ks y):x=y:=by unfold ks at h;unfold Di at hx hy;cases x;cases y;grind
theorem zN(hx:Di x)(hy:Di y):(decide (Tt x y<0)=decide (ks x<ks y))/\((Tt x y==0)=(ks x==ks y)):=by
 unfold Di at hx hy;unfold Tt ks;by_cases hk:x.Kind=y.Kind
 .have:(x.Kind != y.Kind)=false:=by simp[hk]
  rw[this,eg,A4];grind
 .have:(x.Kind != y.Kind)=true:=by simp[hk]
  rw[this,eh,A4];grind
def Hw(l:List Aa):Prop:=∀(j k:Nat) x y,j<k->l[j]?=some x->l[k]?=some y->ks x<ks y
variable{l:List Aa}
theorem I9(h:A1 b)(hl:Gc b l):Hw l:=by
 have hs:∀x,x∈l->Di x:=λx hx=>(hl.mem x hx).small h;intro j k;induction k with
 |zero=>intro x y hj;omega
 |succ k ih=>intro x y hj hx hy;have hk:=(ac.1 hy).1;obtain⟨z,hz⟩:∃z,l[k]?=some z:=⟨_,ak (by omega)⟩;have h1:=(Aau (hs z (ag hz)) (hs y (ag hy))).1 (hl.asc k z y hz hy);grind
theorem A11{n:Int}(h0:0<=n)(h1:n<=1000000):w64 (I_ .u64 (IntKind.wrap .u64 (w64 n)) 1)=n / 2:=by
 have e1:w64 n=n:=A4;have e2:IntKind.wrap .u64 n=n:=by simp[IntKind.wrap,IntKind.signed,IntKind.bits];omega
 have e3:I_ .u64 n 1=n / 2:=by
  unfold I_;have:(2:Int) ^ min 1 (IntKind.u64).bits=2:=by decide
  grind
 rw[e1,e2,e3,A4]
structure At(l:List Aa)(x:Aa)(n:Nat):Prop where
 le:n<=l.length
 lo:∀(j:Nat) y,j<n->l[j]?=some y->ks y<ks x
 hi:∀(j:Nat) y,n<=j->l[j]?=some y->ks x<=ks y
theorem Pm(hs:Hw l)(hsm:∀x,x∈l->Di x)(hx:Di x)(hl:l.length<=1000) :
  Ok (Z9 l x) λy=>∃n:Nat,y.1=(n:Int)/\At l x n/\(y.2=true↔l[n]?=some x):=by
 unfold Z9;refine d_ (A:=λs=>∃n:Nat,s.1=(n:Int)/\At l x n) (B:=λ(_:Unit)=>False) ?_ ?_ ee
 .refine d4 (λs=>(0<=s.1/\s.1<=s.2/\s.2<=(l.length:Int))/\(∀(j:Nat) y,(j:Int)<s.1->l[j]?=some y->ks y<ks x)/\∀(j:Nat) y,s.2<=(j:Int)->l[j]?=some y->ks x<=ks y) (λs=>(s.2-s.1).toNat) _ _ ?_ ?_ ?_
  .refine⟨by dsimp only;omega,λj y hj=>by dsimp only at hj;omega,λj y hj hy=>?_⟩;have:=(ac.1 hy).1;dsimp only at hj;omega
  .dsimp only;omega
  .rintro⟨i,j⟩ ⟨⟨h1,h2,h3⟩,h4,h5⟩;dsimp only at h1 h2 h3 h4 h5;unfold zW;dsimp only;refine c7 (λhq=>?_) (λhq=>?_)
   .simp only[dM]at hq;rw[A11 (by omega) (by omega)];refine(d5 (by omega) (by omega)).bind λy hy=>?_;have hym:=hsm y (ag hy);rw[(zN hym hx).1];refine c7 (λhc=>?_) (λhc=>?_)
    .simp only[dM]at hc;rw[A4];refine c8 ⟨⟨by dsimp only;omega,λk z hk hz=>?_,h5⟩,by dsimp only;omega⟩;dsimp only at hk;by_cases e:k=((i+j) / 2).toNat
     .subst e;rw[hy]at hz;cases hz;exact hc
     .have:=hs k _ z y (by omega) hz hy;omega
    .simp only[dN]at hc;refine c8 ⟨⟨by dsimp only;omega,h4,λk z hk hz=>?_⟩,by dsimp only;omega⟩;dsimp only at hk;by_cases e:k=((i+j) / 2).toNat
     .subst e;rw[hy]at hz;cases hz;omega
     .have:=hs _ k y z (by omega) hy hz;omega
   .simp only[dN]at hq;refine d9 ⟨i.toNat,by dsimp only;omega,by omega,λk y hk hy=>h4 k y (by omega) hy,λk y hk hy=>h5 k y (by omega) hy⟩
 .rintro⟨i,j⟩ ⟨n,hn,hat⟩;dsimp only at hn;subst hn;dsimp only;by_cases hlt:n<l.length
  .obtain⟨y,hy⟩:∃y,l[n]?=some y:=⟨_,ak hlt⟩;have hd:decide ((n:Int)<(l.length:Int))=true:=by simp;omega
   rw[hd,Dg hy];refine ec (P:=λz=>z=y) (d7 (λ_=>ed rfl) λhn=>(hn ⟨rfl,trivial⟩).elim) λz hz=>ed ⟨n,rfl,hat,?_⟩;subst hz;have hym:=hsm z (ag hy);show (true&&(Tt z x==0))=true↔_;rw[ce,(zN hym hx).2,dQ,hy];constructor
   .intro e;rw[A0i hym hx e]
   .intro e;cases e;rfl
  .have hd:decide ((n:Int)<(l.length:Int))=false:=by simp;omega
   rw[hd];refine ec (P:=λ_=>True) (d7 (λhg=>absurd hg.1 (by simp)) λ_=>trivial) λz _=>ed ⟨n,rfl,hat,?_⟩;rw[cD (by omega)];simp
theorem At.uniq{m:Nat}(h:At l x n)(k:At l x m):n=m:=by
 rcases bX n m with e|e|e
 .obtain⟨y,hy⟩:∃y,l[n]?=some y:=⟨_,ak (by have:=k.le;omega)⟩;have:=h.hi n y (ai _) hy;have:=k.lo n y e hy;omega
 .exact e
 .obtain⟨y,hy⟩:∃y,l[m]?=some y:=⟨_,ak (by have:=h.le;omega)⟩;have:=k.hi m y (ai _) hy;have:=h.lo m y e hy;omega
def Ga(l:List Aa)(n:Nat)(x:Aa):List Aa:=l.take n++(x::l.drop n)
theorem An9(hn:n<=l.length)(hl:l.length<=1000)(x:Aa):Rm l (n:Int) [x]=some (Ga l n x):=by
 refine di ?_;unfold Rm;refine(Ok.bndI (by omega) (by omega) (by omega)).bind λ_ _=>?_;refine c7 (λhc=>by simp at hc) (λ_=>c7 (λhc=>?_) (λ_=>?_))
 .simp only[dQ]at hc;have e:n=l.length:=by omega
  refine(d6 (by simp;omega)).bind λy hy=>ed ?_;rw[hy,Ga,e];simp
 .refine(Ok.insI (by simp;omega)).mono λy hy=>?_;rw[hy,aG];rfl
theorem Ao9(hn:n<=l.length)(x:Aa):Vy (Ga l n x) (n:Int) ((n:Int)+1)=some l:=by
 have hlen:(Ga l n x).length=l.length+1:=by simp[Ga];omega
 refine di ?_;unfold Vy;have e1:((n:Int)+1).toNat=n+1:=by omega
 have hdrop:(Ga l n x).drop (n+1)=l.drop n:=by
  unfold Ga;rw[List.drop_append,List.drop_of_length_le (by simp;omega)];have:n+1-(l.take n).length=1:=by simp;omega
  rw[this];simp
 have htake:(Ga l n x).take n=l.take n:=by unfold Ga;grind
 refine(Ok.bnd3I (by omega) (by omega) (by omega) (by omega)).bind λ_ _=>c7 (λhc=>?_) (λ_=>?_)
 .simp only[dQ]at hc;omega
 refine(Ok.bndI (by omega) (by omega) (by omega)).bind λ_ _=>(Ok.bndI (by omega) (by omega) (by omega)).bind λ_ _=>?_;simp only[aG,e1,hdrop,Nat.sub_zero];have hpl:((l.drop n).take ((Ga l n x).length-(n+1))).length=l.length-n:=by simp[hlen]
 have hpe:(l.drop n).take ((Ga l n x).length-(n+1))=l.drop n:=bY (by simp[hlen]);rw[hpe];have hdl:(l.drop n).length=l.length-n:=by simp
 refine(Ok.appPI (by rw[hlen,hdl];omega)).bind λy hy=>?_;have hyl:y.length=l.length+1:=by rw[hy];simp[hlen];omega
 refine(Ok.bndI (by omega) (by rw[hlen,hdl];omega) (by rw[hlen,hyl];omega)).bind λ_ _=>ed ?_;have e2:n+(l.drop n).length=l.length:=by rw[hdl];omega
 rw[e2];unfold Iy;simp only[aJ];rw[cE (by simp;omega),List.take_take,Nat.min_self,hy,htake,←bF,cE (by simp),bl,be]
theorem Sm(hn:n<=l.length)(h:(Ga l n x)[j]?=some y):(j<n/\l[j]?=some y)\/(j=n/\y=x)\/(n<j/\l[j-1]?=some y):=by grind[Ga]
theorem Atg(h:y∈Ga l n x):y=x\/y∈l:=by grind[Ga]
theorem Ahh(h:A1 b)(hl:Gc b l)(hx:Dq b x)(hat:At l x n)(hnot:l[n]? ≠ some x)(hlen:l.length<32):Gc b (Ga l n x):=by
 have hs:=I9 h hl;have hsm:∀y,y∈l->Di y:=λy hy=>(hl.mem y hy).small h;have hxs:=hx.small h;refine⟨by simp[Ga];omega,λy hy=>?_,λj y z hy hz=>?_⟩
 .rcases Atg hy with rfl|hy
  .exact hx
  .exact hl.mem y hy
 .rcases Sm hat.le hy with⟨a1,a2⟩|⟨a1,a2⟩|⟨a1,a2⟩ <;> rcases Sm hat.le hz with⟨b1,b2⟩|⟨b1,b2⟩|⟨b1,b2⟩
  .exact hl.asc j y z a2 b2
  .subst b2;exact(Aau (hsm y (ag a2)) hxs).2 (hat.lo j y a1 a2)
  .omega
  .omega
  .omega
  .subst a2;have e:j+1-1=n:=by omega
   rw[e]at b2;have hzm:=hsm z (ag b2);refine(Aau hxs hzm).2 ?_;have h1:=hat.hi n z (ai _) b2;grind[A0i]
  .omega
  .omega
  grind[Gc.asc]
theorem At.ins(hat:At l x n):At (Ga l n x) x n:=by
 refine⟨by have:=hat.le;simp[Ga];omega,λj y hj hy=>?_,λj y hj hy=>?_⟩
 .rcases Sm hat.le hy with⟨_,a2⟩|⟨a1,_⟩|⟨a1,_⟩
  .exact hat.lo j y hj a2
  .omega
  .omega
 .rcases Sm hat.le hy with⟨a1,_⟩|⟨_,a2⟩|⟨a1,a2⟩
  .omega
  .subst a2;exact Int.le_refl _
  .exact hat.hi (j-1) y (by omega) a2
theorem A1x(hn:n<=l.length)(x:Aa):(Ga l n x)[n]?=some x:=by grind[Ga]
def Mk(ss:List An)(x:Aa)(st:Int):List An:=if x.Kind=1 then ss.set x.Number.toNat ⟨st,(ss.getD x.Number.toNat default).Since,(ss.getD x.Number.toNat default).Ax,(ss.getD x.Number.toNat default).Phase⟩ else ss
theorem U4(ss:List An)(x:Aa)(st:Int):(Mk ss x st).length=ss.length:=by unfold Mk;split <;> simp
theorem Adi(h:∀x,x∈ss->Ef x)(hx:x.Kind=1->0<=x.Number/\x.Number<ss.length)(hst:0<=st/\st<=3):∀y,y∈Mk ss x st->Ef y:=by
 unfold Mk;split
 .rename_i hk;have hn:=hx hk;obtain⟨u,hu⟩:∃u,ss[x.Number.toNat]?=some u:=⟨_,ak (by omega)⟩;have hd:ss.getD x.Number.toNat default=u:=by simp[List.getD,hu]
  intro y hy;rcases bW hy with hy|hy
  .exact h y hy
  .subst hy;rw[hd];have:=h u (ag hu);exact⟨hst,this.2⟩
 .exact h
theorem A19(h:A1 b)(hp:A7 b p)(hx:Dq b x)(t:Int)(hat:At p.Ao x n)(hnot:p.Ao[n]? ≠ some x)(hlen:p.Ao.length<32) :
  Kf ⟨b,p,t⟩ x true=some (0,⟨b,⟨p.Al,Mk p.Ad x 3,p.A0,Ga p.Ao n x⟩,t⟩):=by
 have hs:=I9 h hp.brk;have hsm:∀y,y∈p.Ao->Di y:=λy hy=>(hp.brk.mem y hy).small h;refine di ?_;unfold Kf;refine(Pm hs hsm (hx.small h) (by omega)).bind λy hy=>?_;obtain⟨m,e1,hat2,hf⟩:=hy;have e2:=hat.uniq hat2;subst e2;have hf2:y.2=false:=by grind
 refine c7 (λhc=>by rw[hf2]at hc;simp at hc) (λ_=>c7 (λhc=>?_) (λ_=>?_))
 .simp[S_]at hc;omega
 refine d_ (A:=λz=>z=Ga p.Ao n x) (B:=λ(_:Unit)=>False) ?_ ?_ ee
 .unfold V4;rw[e1,An9 hat.le (by omega)];exact dj rfl
 .rintro z rfl;unfold Mk;refine c7 (λhk=>?_) (λhk=>?_)
  .simp only[dQ]at hk;have hn:0<=x.Number/\x.Number<p.Ad.length:=by
    have:=hp.nso;unfold Dq at hx;omega
   rw[ei hk];refine(d5 hn.1 hn.2).bind λu hu=>(db hn.1 hn.2).bind λv hv=>?_;have hd:p.Ad.getD x.Number.toNat default=u:=by simp[List.getD,hu]
   have hvg:v[x.Number.toNat]?=some (⟨0,u.Since,u.Ax,u.Phase⟩:An):=by rw[hv,ch (by omega)]
   simp only[eh];refine ec (P:=λw=>w=(⟨0,u.Since,u.Ax,u.Phase⟩:An)) ((d5 hn.1 (by rw[hv];simpa using hn.2)).mono λw hw=>by rw[hvg]at hw;cases hw;rfl) λw hw=>?_;subst hw;refine(db hn.1 (by rw[hv];simpa using hn.2)).bind λz hz=>ed ?_;rw[hz,hv,List.set_set,hd]
  .simp only[dR,ne_eq]at hk;rw[em hk];exact ed rfl
theorem A1s(h:A1 b)(hbl:Gc b p.Ao)(hx:Dq b x)(t:Int)(hat:At p.Ao x n)(hnot:p.Ao[n]? ≠ some x)(hlen:p.Ao.length<32)
  (hq:q.Ao=Ga p.Ao n x)(hqs:q.Ad.length=b.Ad.length):Kf ⟨b,q,t⟩ x false=some (0,⟨b,⟨q.Al,Mk q.Ad x 0,q.A0,p.Ao⟩,t⟩):=by
 have hbl2:Gc b q.Ao:=by rw[hq];exact Ahh h hbl hx hat hnot hlen
 have hs:=I9 h hbl2;have hsm:∀y,y∈q.Ao->Di y:=λy hy=>(hbl2.mem y hy).small h;refine di ?_;unfold Kf;refine(Pm hs hsm (hx.small h) (by have:=hbl2.len;omega)).bind λy hy=>?_;obtain⟨m,e1,hat2,hf⟩:=hy;rw[hq]at hat2 hf;have e2:=hat.ins.uniq hat2;subst e2;have hf2:y.2=true:=hf.2 (A1x hat.le x);refine c7 (λhc=>by rw[hf2]at hc;simp at hc) (λ_=>c7 (λhc=>?_) (λ_=>?_))
 .simp[S_]at hc
 refine d_ (A:=λz=>z=p.Ao) (B:=λ(_:Unit)=>False) ?_ ?_ ee
 .unfold V4;have hle:=hat.le;rw[e1,A4];simp only[eg,hq];rw[Ao9 hat.le];exact dj rfl
 .rintro z rfl;unfold Mk;refine c7 (λhk=>?_) (λhk=>?_)
  .simp only[dQ]at hk;have hn:0<=x.Number/\x.Number<q.Ad.length:=by
    unfold Dq at hx;omega
   rw[ei hk];refine(d5 hn.1 hn.2).bind λu hu=>(db hn.1 hn.2).bind λv hv=>?_;have hd:q.Ad.getD x.Number.toNat default=u:=by simp[List.getD,hu]
   simp only[eg];exact ed (by rw[hv,hd])
  .simp only[dR,ne_eq]at hk;rw[em hk];exact ed rfl
def A17(p:Af)(x:Aa)(n:Nat):Af:=⟨p.Al,Mk p.Ad x 3,p.A0,Ga p.Ao n x⟩
theorem Akd(h:A1 b)(hp:A7 b p)(hx:Dq b x)(hat:At p.Ao x n)(hnot:p.Ao[n]? ≠ some x)(hlen:p.Ao.length<32):A7 b (A17 p x n) where
 ncl:=hp.ncl
 nso:=by show (Mk p.Ad x 3).length=_;rw[U4];exact hp.nso
 nli:=hp.nli
 run:=Adi hp.run (λhk=>by have:=hp.nso;unfold Dq at hx;omega) (by omega)
 lim:=hp.lim
 one:=hp.one
 brk:=Ahh h hp.brk hx hat hnot hlen
theorem Oo(b:Ae)(k n:Int):Iz b k n=true↔Dq b ⟨k,n⟩:=by
 unfold Iz Dq;dsimp only;by_cases h1:k=1
 .subst h1;simp
 rw[dR.2 h1,eg];by_cases h2:k=2
 .subst h2;simp
 rw[dR.2 h2,eg];by_cases h3:k=3
 .subst h3;simp
 rw[dR.2 h3,eg];by_cases h4:k=4
 .subst h4;simp
 rw[dR.2 h4,eg];simp only[aa,dM];omega
theorem A85(h:A1 b)(hl:Gc b l)(hx:Dq b x):∃n,At l x n:=by have hs:=I9 h hl;obtain⟨y,_,n,_,hat,_⟩:=Pm hs (λy hy=>(hl.mem y hy).small h) (hx.small h) (by have:=hl.len;omega);exact⟨n,hat⟩
theorem LeB.get(h:LeB s t){i:Nat}{x y:Bool}(hx:s[i]?=some x)(hy:t[i]?=some y):(x && !y)=false:=by
 cases x with
 |false=>rfl
 |true=>have:=h.2 i hx;rw[hy]at this;cases this;rfl
variable{x:Option α}
theorem de{l:List (Bool×Bool)}{d:α}{P:α->Prop}(hx:Dd l->Ok x λ_=>True)(hr:∀y,P y):Ok (Aw l x d) P:=
 d7 (λh=>(hx h).mono λy _=>hr y) λ_=>hr d
theorem dv{v:α}(h:x=some v):Ok x λ_=>True:=⟨v,h,trivial⟩
theorem A1a{x:An}(hx:Ef x)(hl:Ef like):Ef (Ase like x):=⟨hx.1,hx.2.1,hl.2.2.1,hl.2.2.2⟩
theorem N5(h:∀x,x∈ss->Ef x){y:An}(hy:Ef y):∀x,x∈ss.set n y->Ef x:=λx hx=>by grind
theorem Ac8(h:∀x,x∈ss->Ef x)(hn:n<ss.length):Ef (ss.getD n default):=by grind
theorem R8{like:An}(hl:Ef like):∀(idx:ez)(ss:List An),(∀i,i∈idx->0<=i/\i<ss.length)->(∀x,x∈ss->Ef x)->∀x,x∈Nc like idx ss->Ef x
 | [],_,_,h=>h
 |i::idx,ss,hi,h=>by have h0:=hi i an;refine R8 hl idx _ (λj hj=>?_) (N5 h (A1a (Ac8 h (by omega)) hl));grind
theorem Add{b:Ae}{p:Af}(hp:A7 b p):∀(l:List Aq)(s:List An),(∀x,x∈l->∀i,i∈x.Ad->0<=i/\i<b.Ad.length)->s.length=p.Ad.length->(∀x,x∈s->Ef x)->∀x,x∈l.foldl (H4 p) s->Ef x
 | [],_,_,_,h=>h
 | y::l,s,hi,hs,h=>by
  refine Add hp l _ (λx hx=>hi x (am _ hx)) (by rw[U2,hs]) ?_;have h0:=hi y an;have hn:=hp.nso;unfold H4;split
  .exact h
  .rename_i i r e;rw[e]at h0;have h1:=h0 i an;rw[e];exact R8 (Ac8 hp.run (by omega)) _ _ (λj hj=>by have:=h0 j hj;omega) h
theorem Aka(hp:A7 b p):∀x,x∈Lz b p->Ef x:=
 Add hp _ _ (λ_ hx=>Wm hx) rfl hp.run
theorem K1(hp:A7 b p)(hl:ss.length=p.Ad.length)(hr:∀x,x∈ss->Ef x):A7 b ⟨p.Al,ss,p.A0,p.Ao⟩ where
 ncl:=hp.ncl
 nso:=hl.trans hp.nso
 nli:=hp.nli
 run:=hr
 lim:=hp.lim
 one:=hp.one
 brk:=hp.brk
theorem A7y(hp:A7 b p)(j:Nat):A7 b ⟨p.Al.set j false,p.Ad,p.A0,p.Ao⟩ where
 ncl:=by simpa using hp.ncl
 nso:=hp.nso
 nli:=hp.nli
 run:=hp.run
 lim:=hp.lim
 one i hi:=by refine ay (Atr (by simp) (λk hk=>?_) i) (hp.one i hi);grind
 brk:=hp.brk
theorem Aoo{l:List Ai}:∀{c:eB}{j:Nat}{x:Ai},l[j]?=some x->∀i:Nat,(El l (c.set j true) i).length<=(El l c i).length+(if x.Kind=3/\x.B=(i:Int)then 1 else 0):=by
 induction l with
 |nil=>intro c j x h;simp at h
 | cons y l ih=>
  intro c j x h i;cases c with
  |nil=>simp[El]
  | cons v c=>
   cases j with
   |zero=>simp only[List.getElem?_cons_zero,ae]at h;subst h;simp only[List.set_cons_zero,El,cd,cV];grind
   |succ j=>simp only[cI]at h;have:=ih (c:=c) h i;simp only[List.set_cons_succ,El,cd,cV]at this ⊢;split <;> simp at this ⊢ <;> omega
theorem Aop{i:Nat}(h:Ix b p 3 (i:Int)=none):El b.Ag p.Al i=[]:=by unfold Ix at h;rw[Option.map_eq_none_iff,List.find?_eq_none]at h;unfold El;rw[cT];exact h
variable{x:Ai}
theorem Aph(hp:A7 b p)(hx:b.Ag[j]?=some x)(hf:x.Kind=3->Ix b p 3 x.B=none):A7 b ⟨p.Al.set j true,p.Ad,p.A0,p.Ao⟩ where
 ncl:=by simpa using hp.ncl
 nso:=hp.nso
 nli:=hp.nli
 run:=hp.run
 lim:=hp.lim
 one i hi:=by
  have h1:=Aoo (c:=p.Al) hx i;have h2:=hp.one i hi;dsimp only;split at h1
  .rename_i hk;have h3:=hf hk.1;rw[hk.2]at h3;rw[Aop h3]at h1;simpa using h1
  .omega
 brk:=hp.brk
theorem A1n(h:A1 b)(hp:A7 b p)(i:Int):Ok (Al2 b p i) λy=>y.2≠0\/A7 b y.1:=by
 have hbl:p.Ao.length<=1000:=by have:=hp.brk.len;omega
 have hn:=hp.ncl;unfold Al2;rw[Fj h hp,Ie h hp];simp only[aj];refine c7 (λhc=>by simp at hc) (λ_=>c7 (λ_=>ed (.inl (by simp))) (λhr=>?_));simp only[Aps,aY,dN]at hr;refine(d5 (by omega) (by omega)).bind λv _=>ec (P:=λ_=>True) (de (λ_=>dv (Gm hbl _ _)) λ_=>trivial) λ_ _=>?_;refine c7 (λ_=>ed (.inl (by simp))) (λ_=>?_);exact(d5 (by omega) (by omega)).bind λ_ _=>(db (by omega)).bind λz hz=>ed (.inr (by rw[hz];exact A7y hp _))
theorem Az8(h:A1 b)(hp:A7 b p)(n:Int):Ok (Kt b p n) λy=>∀i,i∈y.1.Ad->0<=i/\i<p.Ad.length:=by
 have hn:=hp.nso;unfold Kt;rw[Jz h hp];simp only[aj];refine d_ (A:=λ_=>True) (B:=λy=>∀i,i∈y.1.Ad->0<=i/\i<p.Ad.length) ?_ (λ_ _=>ed (λi hi=>by cases hi)) (λv hv=>ed hv);refine c9 (I:=λ_ _=>True) trivial (λj x s hx _=>?_) λs _=>trivial;have hmem:=ag hx;have hbl:x.Ap.length<=9223372036854775807:=by unfold Eu at hmem;obtain⟨f,_,rfl⟩:=aA.1 (aH.1 hmem).1;have:=Jk (λi=>(groups b p).getD i 0==(f:Int)) b.Ap.toNat;have:=h.buses;simp only[isl,Hq];omega
 unfold Od;rw[Gl _ _ hbl];simp only[aj];refine c7 (λ_=>Ok.ret λi hi=>?_) (λ_=>c8 trivial);have:=Wm hmem i hi;omega
theorem Bec(h:A1 b)(hp:A7 b p)(n:Int):Ok (Kt b p n) λy=>y.1.Ap.length<=9223372036854775807:=by
 unfold Kt;rw[Jz h hp];simp only[aj];refine d_ (A:=λ_=>True) (B:=λy=>y.1.Ap.length<=9223372036854775807) ?_ (λ_ _=>ed (by simp)) (λv hv=>ed hv);refine c9 (I:=λ_ _=>True) trivial (λj x s hx _=>?_) λs _=>trivial;have hmem:=ag hx;have hbl:x.Ap.length<=9223372036854775807:=by unfold Eu at hmem;obtain⟨f,_,rfl⟩:=aA.1 (aH.1 hmem).1;have:=Jk (λi=>(groups b p).getD i 0==(f:Int)) b.Ap.toNat;have:=h.buses;simp only[isl,Hq];omega
 unfold Od;rw[Gl _ _ hbl];simp only[aj];exact c7 (λ_=>Ok.ret hbl) (λ_=>c8 trivial)
theorem Uv(h:A1 b)(hp:A7 b p)(n:Int):Ok (vP b p n) λy=>y.2=true->0<=y.1/\y.1<p.Ad.length:=by unfold vP;refine(Az8 h hp n).bind λy hy=>?_;refine c7 (λ_=>ed (λe=>by cases e)) (λhc=>?_);simp only[dR,ne_eq]at hc;exact(d5 (by omega) (by omega)).bind λz hz=>ed λ_=>hy z (ag hz)
theorem dk{l:List α}(h0:0<=i)(h1:i<l.length:=by omega):Ok (getI l i) λ_=>True:=(d5 h0 h1).mono λ_ _=>trivial
theorem A1c(h:A1 b)(hp:A7 b p)(hx:b.Ag[j]?=some x):Ok (Alq b p x) λ_=>True:=by
 have hn:=hp.nso;have hb:=h.br x (ag hx);unfold Ty at hb;unfold Alq;refine(Uv h hp _).bind λy hy=>?_;refine c7 (λ_=>ed trivial) (λh2=>?_);simp only[cU]at h2;have hy:=hy h2;refine c7 (λ_=>?_) (λ_=>c7 (λhk=>?_) (λ_=>ed trivial))
 .refine(Uv h hp _).bind λz hz=>?_;refine ec (P:=λ_=>True) (de (λ_=>dk hy.1 hy.2) λ_=>trivial) λ_ _=>?_;refine ec (P:=λ_=>True) (de (λhg=>?_) λ_=>trivial) λ_ _=>ed trivial;have:=hz (by have:=hg.1;simpa using this);exact dk this.1 this.2
 .simp only[dQ]at hk;exact(dk hy.1 hy.2).bind λ_ _=>(dk (by omega)).bind λ_ _=>ed trivial
theorem yR{o:Option Int}:(O1 o).2=false->o=none:=by
 cases o with
 |none=>intro _;rfl
 |some a=>intro e;cases e
theorem Asi(h:A1 b)(hp:A7 b p){j:Int}(h0:0<=j)(h1:j<b.Ag.length):Ok (Alr b p j) λy=>y=true->∀x,b.Ag[j.toNat]?=some x->x.Kind=3->Ix b p 3 x.B=none:=by
 have hbl:p.Ao.length<=1000:=by have:=hp.brk.len;omega
 have hn:=hp.nso;have hc:=hp.ncl;unfold Alr;refine(d5 h0 h1).bind λx hx=>(dk h0).bind λ_ _=>?_;have hb:=h.br x (ag hx);unfold Ty at hb;refine ec (P:=λ_=>True) (de (λ_=>dv (Gm hbl _ _)) λ_=>trivial) λ_ _=>?_;refine ec (P:=λ_=>True) (de (λ_=>dv (Gm hbl _ _)) λ_=>trivial) λ_ _=>?_;refine c7 (λ_=>ed (λe=>by cases e)) (λ_=>?_);refine c7 (λhk=>?_) (λhk1=>c7 (λhk=>?_) (λhk2=>?_))
 .simp only[dQ]at hk;rw[Gm hbl];refine ed λ_ y hy hy3=>?_;rw[hx]at hy;cases hy;omega
 .simp only[dQ]at hk;rw[Gm hbl];simp only[aj];refine ec (P:=λ_=>True) (de (λ_=>dk (by omega)) λ_=>trivial) λ_ _=>ed λ_ y hy hy3=>?_;rw[hx]at hy;cases hy;omega
 .unfold Agf;rw[Fj h hp,Adg h hc,Gm hbl];simp only[aj,bne_self_eq_false,eg];refine ed λe y hy hy3=>?_;rw[hx]at hy;cases hy;simp only[aa,aO]at e;exact yR e.2
theorem A4s(h:A1 b)(hp:A7 b p)(j:Int):Ok (Alt b p j) λy=>y≠0\/((0<=j/\j<b.Ag.length)/\∀x,b.Ag[j.toNat]?=some x->x.Kind=3->Ix b p 3 x.B=none):=by unfold Alt;rw[Fj h hp];simp only[aj];refine c7 (λhc=>by simp at hc) (λ_=>c7 (λ_=>ed (.inl (by simp))) (λhr=>?_));simp only[App,aY,dN]at hr;refine(Asi h hp (by omega) (by omega)).bind λy hy=>?_;refine c7 (λ_=>ed (.inl (by simp))) (λh2=>?_);simp only[cU]at h2;have hy:=hy h2;refine(d5 (by omega) (by omega)).bind λx hx=>(Bec h hp x.A).bind λz hz=>?_;refine ec (P:=λ_=>True) (de (λ_=>dv (Gl _ _ hz)) λ_=>trivial) λ_ _=>?_;refine ec (P:=λ_=>True) (de (λ_=>A1c h hp hx) λ_=>trivial) λ_ _=>?_;exact c7 (λ_=>ed (.inl (by simp))) (λ_=>ed (.inr ⟨⟨by omega,by omega⟩,hy⟩))
theorem At7(h:A1 b)(hp:A7 b p)(i:Int):Ok (Al3 b p i) λy=>y.2≠0\/A7 b y.1:=by
 have hn:=hp.ncl;unfold Al3;rw[Ie h hp];simp only[aj];refine(A4s h hp i).bind λy hy=>c7 (λhc=>ed (.inl (by simpa using hc))) (λhc=>?_);simp only[dV]at hc;rcases hy with hy|⟨hr,hf⟩
 .exact absurd hc hy
 .refine(d5 hr.1 (by omega)).bind λ_ _=>(db hr.1).bind λz hz=>?_;obtain⟨x,hx⟩:∃x,b.Ag[i.toNat]?=some x:=⟨_,ak (by omega)⟩;have hq:=Aph hp hx (hf x hx);rw[←hz]at hq;rw[yZ h hq];exact ed (.inr (K1 hq (uM _ _) (Aka hq)))
theorem As3(h:A1 b)(hp:A7 b p)(i n:Int):Ok (Al1 b p i n) λy=>y.2≠0\/A7 b y.1:=by
 have hn:=hp.nso;unfold Al1;rw[Fj h hp,Ie h hp];simp only[aj];refine c7 (λhc=>by simp at hc) (λ_=>c7 (λ_=>ed (.inl (by simp))) (λhr=>?_));simp only[Apr,aY,dN]at hr;refine(Uv h hp n).bind λy hy=>?_;refine ec (P:=λ_=>True) (de (λ_=>dk (by omega)) λ_=>trivial) λu _=>?_;refine c7 (λ_=>ed (.inl (by simp))) (λhc=>?_);simp only[aY,cU]at hc;have hy:=hy hc.1;unfold Au8;rw[Fj h hp,Vl h hp];simp only[aj,bne_self_eq_false,eg];have hrun:∀w,p.Ad[y.1.toNat]?=some w->Ef w:=λw hw=>hp.run w (ag hw);refine c7 (λ_=>?_) (λ_=>?_)
 .refine(Az8 h hp _).bind λz hz=>(d5 hy.1 hy.2).bind λw hw=>?_;rw[Ab3 hz];exact ed (.inr (K1 hp (J_ _ _ _) (R8 (hrun w hw) _ _ hz hp.run)))
 .refine(d5 hy.1 hy.2).bind λw hw=>?_;have hz:∀k,k∈[i]->0<=k/\k<p.Ad.length:=λk hk=>by
   grind
  rw[Ab3 hz];exact ed (.inr (K1 hp (J_ _ _ _) (R8 (hrun w hw) _ _ hz hp.run)))
theorem Ux(h:A1 b)(hc:p.Al.length=b.Ag.length)(t:Int)(h0:0<=i)(h1:i<b.Ad.length):Ok (Rn ⟨b,p,t⟩ i) λ_=>True:=by obtain⟨j,x,e,hx,_⟩:=Nz h h0 h1;have hj:=(ac.1 hx).1;unfold Rn;rw[Lf h,e];simp only[aj];exact(dk (by omega)).bind λ_ _=>ed trivial
def W6(b:Ae)(y:Int×A6):Prop:=y.1≠0\/A7 b y.2.Ah
variable{t:Int}
theorem Ash(h:A1 b)(hp:A7 b p)(ht:0<=t/\t<=2147483648)(h0:0<=i)(h1:i<b.Ad.length):Ok (jU ⟨b,p,t⟩ i) (W6 b):=by
 have hn:=hp.nso;have hbl:p.Ao.length<=1000:=by have:=hp.brk.len;omega
 unfold jU;refine(dk h0 (by dsimp only;omega)).bind λu _=>ec (P:=λ_=>True) (de (λ_=>dv (Gm hbl _ _)) λ_=>trivial) λ_ _=>?_;refine c7 (λ_=>ed (.inl (by simp))) (λ_=>(dk h0 h1).bind λs _=>?_);refine ec (P:=λ_=>True) (de (λ_=>Ux h hp.ncl t h0 h1) λ_=>trivial) λ_ _=>?_;refine c7 (λ_=>?_) (λ_=>?_)
 .exact(db h0 (by dsimp only;omega)).bind λz hz=>ed (.inr (by rw[hz];exact K1 hp (by simp) (N5 hp.run ⟨by dsimp only;omega,ht,by dsimp only;omega,by dsimp only;omega⟩)))
 .exact(db h0 (by dsimp only;omega)).bind λz hz=>ed (.inr (by rw[hz];exact K1 hp (by simp) (N5 hp.run ⟨by dsimp only;omega,ht,by dsimp only;omega,by dsimp only;omega⟩)))
theorem A1d(h:A1 b)(hp:A7 b p)(h0:0<=i)(h1:i<b.Ad.length):Ok (jQ ⟨b,p,t⟩ i) (W6 b):=by have hn:=hp.nso;unfold jQ;refine(d5 h0 (by dsimp only;omega)).bind λu hu=>?_;have hr:=hp.run u (ag hu);refine ec (P:=λ_=>True) (de (λ_=>Ux h hp.ncl t h0 h1) λ_=>trivial) λ_ _=>?_;refine c7 (λ_=>ed (.inl (by simp))) (λ_=>(db h0 (by dsimp only;omega)).bind λz hz=>ed (.inr ?_));rw[hz];exact K1 hp (by simp) (N5 hp.run ⟨by dsimp only;omega,hr.2⟩)
theorem As5(hp:A7 b p){v:Int}(h0:0<=i)(h1:i<b.Aj.length):Ok (jP ⟨b,p,t⟩ i v) (W6 b):=by
 have hn:=hp.nli;unfold jP;refine ec (P:=λy=>0<=v->b.Aj[i.toNat]?=some y) (d7 (λ_=>(d5 h0 h1).mono λy hy _=>hy) λhg hv=>(hg ⟨by simp;omega,trivial⟩).elim) λc hc=>?_;refine c7 (λ_=>ed (.inl (by simp))) (λhr=>?_);simp only[Aeb,aY,dN]at hr;have hc:=hc (by omega);refine(dk h0 (by dsimp only;omega)).bind λ_ _=>(db h0 (by dsimp only;omega)).bind λz hz=>ed (.inr ?_);subst hz;exact {
  ncl:=hp.ncl
  nso:=hp.nso
  nli:=by simpa using hp.nli
  run:=hp.run
  lim:=λk m y hk hy=>by
   dsimp only at hk;rw[aB]at hk;split at hk
   .grind
   .exact hp.lim k m y hk hy
  one:=hp.one
  brk:=hp.brk}
theorem A1r(x:Int):0<=Hn x/\Hn x<=3599:=by
 have:=R5 (x:=x) (n:=3600) (by omega);unfold Hn;by_cases h:Int.tmod x 3600<0
 .rw[dU h,eh,A4];omega
 grind
theorem A09(h:A1 b)(hp:A7 b p):Ok (Als b p) λy=>A7 b y.1/\y.1.Al=p.Al/\y.2=0:=by have hs:=h.sol;have hn:=hp.nso;unfold Als;rw[Fj h hp,Ie h hp];simp only[aj];refine c7 (λhc=>by simp at hc) (λ_=>?_);refine d_ (A:=λs=>s.length=p.Ad.length/\∀x,x∈s->Ef x) (B:=λ(_:Unit)=>False) ?_ (λs hs=>ed ⟨K1 hp hs.1 hs.2,rfl,rfl⟩) ee;refine c9 (I:=λ_ s=>s.length=p.Ad.length/\∀x,x∈s->Ef x) ⟨rfl,hp.run⟩ (λj x s hx hs=>?_) λs hs=>hs;have hj:=(ac.1 hx).1;have hcnt:cnt 0 j=(j:Int):=E_;unfold Ah2;rw[hcnt];refine c7 (λ_=>?_) (λ_=>c8 hs);refine(d5 (by omega) (by omega)).bind λu hu=>(db (by omega)).bind λz hz=>c8 ?_;have hr:=hs.2 u (ag hu);rw[hz];exact⟨by simpa using hs.1,N5 hs.2 ⟨hr.1,hr.2.1,hr.2.2.1,A1r _⟩⟩
theorem A07(h:A1 b)(hp:A7 b p)(t:Int):Ok (jO ⟨b,p,t⟩) λy=>A7 b y.Ah:=by
 have hso:=h.sol;unfold jO;refine(A09 h hp).bind λ⟨q,e⟩ hq=>?_;dsimp only at hq ⊢;obtain⟨hq,_,_⟩:=hq;have hn:=hq.nso;refine d_ (A:=λs=>s.2.length=q.Ad.length/\∀x,x∈s.2->Ef x) (B:=λ(_:Unit)=>False) ?_ (λs hs=>ed (K1 hq hs.1 hs.2)) ee;refine d4 (λs=>(0<=s.1/\s.1<=(q.Ad.length:Int))/\s.2.length=q.Ad.length/\∀x,x∈s.2->Ef x) (λs=>((q.Ad.length:Int)-s.1).toNat) _ _ ?_ ?_ ?_
 .exact⟨by dsimp only;omega,rfl,hq.run⟩
 .dsimp only;omega
 .rintro⟨i,s⟩ ⟨⟨h1,h2⟩,h3,h4⟩;dsimp only at h1 h2 h3 h4;unfold Aaf Aea;dsimp only;refine c7 (λhc=>?_) (λ_=>d9 ⟨h3,h4⟩);simp only[dM]at hc;have e1:w64 (i+1)=i+1:=A4;refine(d5 h1 (by omega)).bind λu hu=>?_;have hr:=h4 u (ag hu);refine ec (P:=λ_=>True) (de (λ_=>Ux h hq.ncl t h1 (by omega)) λ_=>trivial) λ_ _=>?_;refine ec (P:=λ_=>True) (de (λ_=>dk h1) λ_=>trivial) λ_ _=>?_;rw[e1];refine c7 (λ_=>?_) (λ_=>c8 ⟨⟨by dsimp only;omega,h3,h4⟩,by dsimp only;omega⟩);refine(db h1).bind λz hz=>c8 ⟨⟨by dsimp only;omega,?_,?_⟩,by dsimp only;omega⟩
  .dsimp only;rw[hz];simpa using h3
  .dsimp only;rw[hz];exact N5 h4 ⟨by dsimp only;omega,hr.2⟩

variable{x:Aa}
theorem Ao2(h:l[n]?=some x):Ga (l.take n++l.drop (n+1)) n x=l:=by
 have hn:=(ac.1 h).1;have ht:(l.take n).length=n:=by simp;omega
 unfold Ga;rw[cE (by omega),List.take_take,Nat.min_self,List.drop_append_of_le_length (by omega),List.drop_of_length_le (by omega),bG]
 conv=>rhs;rw[←bl n l]
 rw[cR hn];grind
theorem Vf(hn:n<l.length)(h:(l.take n++l.drop (n+1))[j]?=some y):(j<n/\l[j]?=some y)\/(n<=j/\l[j+1]?=some y):=by grind
theorem Atz(h:A1 b)(hl:Gc b l)(hn:n<l.length):Gc b (l.take n++l.drop (n+1)):=by
 have hs:=I9 h hl;have hsm:∀y,y∈l->Di y:=λy hy=>(hl.mem y hy).small h;have hlen:=hl.len;refine⟨by simp;omega,λy hy=>?_,λj y z hy hz=>?_⟩
 .grind[Gc.mem]
 .rcases Vf hn hy with⟨a1,a2⟩|⟨a1,a2⟩ <;> rcases Vf hn hz with⟨b1,b2⟩|⟨b1,b2⟩
  .exact hl.asc j y z a2 b2
  .exact(Aau (hsm y (ag a2)) (hsm z (ag b2))).2 (hs j (j+1+1) y z (by omega) a2 b2)
  .omega
  .exact hl.asc (j+1) y z a2 b2
theorem At0(h:A1 b)(hl:Gc b l)(hx:l[n]?=some x):At (l.take n++l.drop (n+1)) x n/\(l.take n++l.drop (n+1))[n]? ≠ some x:=by
 have hs:=I9 h hl;have hn:=(ac.1 hx).1;refine⟨⟨by simp;omega,λj y hj hy=>?_,λj y hj hy=>?_⟩,λe=>?_⟩
 .grind[Hw]
 .grind[Hw]
 .rcases Vf hn e with⟨a1,_⟩|⟨_,a2⟩
  .omega
  .have:=hs n (n+1) x x (by omega) hx a2;omega
theorem A18(h:A1 b)(hp:A7 b p)(t:Int)(hx:Dq b x)(v:Bool):Ok (Kf ⟨b,p,t⟩ x v) (W6 b):=by
 obtain⟨n,hat⟩:=A85 h hp.brk hx;have hlen:=hp.brk.len;have hsearch:=Pm (I9 h hp.brk) (λy hy=>(hp.brk.mem y hy).small h) (hx.small h) (by omega);have hbad:∀(hv:(p.Ao[n]?=some x)↔v=true),Ok (Kf ⟨b,p,t⟩ x v) (W6 b):=by
  intro hv;unfold Kf;refine hsearch.bind λy hy=>?_;obtain⟨m,e1,hat2,hf⟩:=hy;have e2:=hat.uniq hat2;subst e2;have:y.2=v:=by rw[cv];exact hf.trans hv
  rw[this];exact c7 (λ_=>ed (.inl (by simp))) (λhc=>by simp at hc)
 by_cases hin:p.Ao[n]?=some x
 .cases v with
  |true=>exact hbad ⟨λ_=>rfl,λ_=>hin⟩
  |false=>have hn:=(ac.1 hin).1;have he:=At0 h hp.brk hin;have hq:A7 b ⟨p.Al,p.Ad,p.A0,p.Ao.take n++p.Ao.drop (n+1)⟩:={ncl:=hp.ncl,nso:=hp.nso,nli:=hp.nli,run:=hp.run,lim:=hp.lim,one:=hp.one,brk:=Atz h hp.brk hn};have:=A1s h (p:=⟨p.Al,p.Ad,p.A0,p.Ao.take n++p.Ao.drop (n+1)⟩) hq.brk (q:=p) hx t he.1 he.2 (by simp;omega) (Ao2 hin).symm hp.nso;rw[this];refine ed (.inr ?_);exact K1 hq (U4 _ _ _) (Adi hp.run (λhk=>by have:=hp.nso;unfold Dq at hx;omega) (by omega))
 .cases v with
  |false=>grind
  | true=>
   by_cases hl:p.Ao.length<32
   .rw[A19 h hp hx t hat hin hl];exact ed (.inr (Akd h hp hx hat hin hl))
   .unfold Kf;refine hsearch.bind λy _=>c7 (λ_=>ed (.inl (by simp))) (λ_=>c7 (λ_=>ed (.inl (by simp))) (λhc=>?_));simp[S_]at hc;omega
def A5r:Af:=⟨[],[],[],[]⟩
theorem Sg(a:Be):Ok (Ami b a) λy=>y=true->((a.Kind=1\/a.Kind=2)->Dq b ⟨2,a.Unit⟩)/\((a.Kind=3\/a.Kind=4)->Dq b ⟨1,a.Unit⟩)/\(a.Kind=5->Dq b ⟨4,a.Unit⟩)/\((a.Kind=8\/a.Kind=9)->Dq b ⟨a.Value,a.Unit⟩):=by
 unfold Ami;refine d_ (A:=λz=>z=true↔(a.Kind=1\/a.Kind=2)) (B:=λ(_:Unit)=>False) ?_ (λz hz=>?_) ee
 .unfold Aig;refine c7 (λhk=>dj ?_) (λhk=>dj ?_)
  .simp only[dQ]at hk ⊢;omega
  .simp only[dR,ne_eq]at hk;simp only[dQ];omega
 refine c7 (λhq=>ed λhk=>?_) (λhq=>?_)
 .have:=hz.1 hq;have hk:=(Oo b _ _).1 hk;exact⟨λ_=>hk,λe=>by omega,λe=>by omega,λe=>by omega⟩
 have hn12:¬(a.Kind=1\/a.Kind=2):=λe=>by rw[hz.2 e]at hq;cases hq
 refine d_ (A:=λz=>z=true↔(a.Kind=3\/a.Kind=4)) (B:=λ(_:Unit)=>False) ?_ (λz hz=>?_) ee
 .unfold Aif;refine c7 (λhk=>dj ?_) (λhk=>dj ?_)
  .simp only[dQ]at hk ⊢;omega
  .simp only[dR,ne_eq]at hk;simp only[dQ];omega
 refine c7 (λhq=>ed λhk=>?_) (λhq=>?_)
 .have:=hz.1 hq;have hk:=(Oo b _ _).1 hk;exact⟨λe=>by omega,λ_=>hk,λe=>by omega,λe=>by omega⟩
 have hn34:¬(a.Kind=3\/a.Kind=4):=λe=>by rw[hz.2 e]at hq;cases hq
 refine c7 (λhq=>ed λhk=>?_) (λhq5=>c7 (λhq=>ed λ_=>?_) (λhq6=>c7 (λhq=>ed λhk=>?_) (λhq8=>c7 (λhq=>ed λhk=>?_) (λhq9=>ed λ_=>?_))))
 .simp only[dQ]at hq;have hk:=(Oo b _ _).1 hk;exact⟨λe=>by omega,λe=>by omega,λ_=>hk,λe=>by omega⟩
 .simp only[dQ]at hq;exact⟨λe=>by omega,λe=>by omega,λe=>by omega,λe=>by omega⟩
 .have hk:=(Oo b _ _).1 hk;simp only[dQ]at hq;exact⟨λe=>by omega,λe=>by omega,λe=>by omega,λ_=>hk⟩
 .have hk:=(Oo b _ _).1 hk;simp only[dQ]at hq;exact⟨λe=>by omega,λe=>by omega,λe=>by omega,λ_=>hk⟩
 grind
theorem A8s(h:A1 b)(hp:A7 b p)(ht:0<=t/\t<=2147483648){a:Be}(hk:1<=a.Kind/\a.Kind<=9)
  (hw:((a.Kind=1\/a.Kind=2)->Dq b ⟨2,a.Unit⟩)/\((a.Kind=3\/a.Kind=4)->Dq b ⟨1,a.Unit⟩)/\(a.Kind=5->Dq b ⟨4,a.Unit⟩)/\((a.Kind=8\/a.Kind=9)->Dq b ⟨a.Value,a.Unit⟩)):Ok (qD ⟨b,p,t⟩ a) (W6 b):=by
 obtain⟨w1,w2,w3,w4⟩:=hw;unfold Dq at w2 w3;dsimp only at w2 w3;unfold qD;refine c7 (λ_=>(At7 h hp _).bind λy hy=>ed hy) (λq1=>?_);refine c7 (λ_=>(A1n h hp _).bind λy hy=>ed hy) (λq2=>?_);refine c7 (λ_=>(As3 h hp _ _).bind λy hy=>ed hy) (λq6=>?_);refine c7 (λq=>?_) (λq3=>?_)
 .simp only[dQ]at q;exact(Ash h hp ht (by omega) (by omega)).bind λy hy=>ed hy
 refine c7 (λq=>?_) (λq4=>?_)
 .simp only[dQ]at q;exact(A1d h hp (by omega) (by omega)).bind λy hy=>ed hy
 refine c7 (λq=>?_) (λq5=>?_)
 .simp only[dQ]at q;exact(As5 hp (by omega) (by omega)).bind λy hy=>ed hy
 refine c7 (λ_=>(A07 h hp t).bind λy hy=>ed (.inr hy)) (λq7=>?_);simp only[dR,ne_eq]at q1 q2 q3 q4 q5 q6 q7;exact(A18 h hp t (w4 (by omega)) _).bind λy hy=>ed hy
theorem A62(h:A1 b)(hp:A7 b p)(t:Int)(a:Be):Ok (F67 b p t a) λy=>(y.2≠0/\y.1=A5r)\/(y.2=0/\A7 b y.1):=by
 unfold F67;rw[Fj h hp,Ie h hp];simp only[aj];refine c7 (λhc=>by simp at hc) (λ_=>c7 (λ_=>ed (.inl ⟨by simp,rfl⟩)) (λhr=>?_));simp only[A0p,aY,dN]at hr;refine(Sg a).bind λy hy=>c7 (λ_=>ed (.inl ⟨by simp,rfl⟩)) (λhk=>?_);simp only[cU]at hk;refine(A8s h hp (by omega) (by omega) (hy hk)).bind λz hz=>c7 (λhc=>ed (.inl ⟨by simpa using hc,rfl⟩)) (λhc=>?_);simp only[dV]at hc;rcases hz with hz|hz
 .exact absurd hc hz
 .exact ed (.inr ⟨rfl,hz⟩)

abbrev Hk:=List (Ai×Bool)
def Tie(L:Hk)(i j:Nat):Prop:=∃z,z∈L/\z.1.Kind=1/\z.2=true/\((z.1.A.toNat=i/\z.1.B.toNat=j)\/(z.1.A.toNat=j/\z.1.B.toNat=i))
variable{L:Hk}{i:Nat}
theorem Tie.symm(h:Tie L i j):Tie L j i:=by obtain⟨z,h1,h2,h3,h4⟩:=h;exact⟨z,h1,h2,h3,h4.symm⟩
inductive Ep(L:Hk)(i:Nat):Nat->Nat->Prop
 |refl:Ep L i 0 i
 |stay {r j:Nat}:Ep L i r j->Ep L i (r+1) j
 |step {r j k:Nat}:Ep L i r j->Tie L j k->Ep L i (r+1) k
def I1(L:Hk)(i j:Nat):Prop:=∃r,Ep L i r j
theorem I1.refl(L:Hk)(i:Nat):I1 L i i:=⟨0,.refl⟩
variable{k:Nat}
theorem I1.tie(h:I1 L i j)(t:Tie L j k):I1 L i k:=by obtain⟨r,h⟩:=h;exact⟨r+1,h.step t⟩
theorem I1.trans(h:I1 L i j)(h2:I1 L j k):I1 L i k:=by
 obtain⟨r,h2⟩:=h2;induction h2 with
 |refl=>exact h
 |stay _ ih=>exact ih
 |step _ t ih=>exact ih.tie t
theorem I1.symm(h:I1 L i j):I1 L j i:=by
 obtain⟨r,h⟩:=h;induction h with
 |refl=>exact .refl L i
 |stay _ ih=>exact ih
 |step _ t ih=>exact(I1.tie (.refl L _) t.symm).trans ih
theorem Ep.le{s:Nat}(h:Ep L i r j)(hs:r<=s):Ep L i s j:=by
 induction s with
 |zero=>grind
 |succ s ih=>
  by_cases e:r=s+1
  .subst e;exact h
  .exact(ih (by omega)).stay
open Classical in
noncomputable def cn (p:Nat->Prop):Nat->Nat
 |0=>0
 |n+1=>cn p n+if p n then 1 else 0
theorem A0l(p:Nat->Prop):∀n,cn p n<=n
 |0=>ai _
 |n+1=>by have:=A0l p n;unfold cn;split <;> omega
theorem vC{p q:Nat->Prop}:∀n,(∀k,k<n->p k->q k)->cn p n<=cn q n
 |0,_=>ai _
 |n+1,h=>by have:=vC n λk hk=>h k (by omega);grind[cn]
theorem Akr{p q:Nat->Prop}:∀n,(∀k,k<n->p k->q k)->cn p n=cn q n->∀k,k<n->q k->p k
 |0,_,_,k,hk,_=>by omega
 | n+1,h,e,k,hk,hq=>by
  have hm:=vC n λk hk=>h k (by omega);have h1:=h n (by omega);unfold cn at e;by_cases hp:p n
  .rw[ei hp,ei (h1 hp)]at e;by_cases ek:k=n
   .subst ek;exact hp
   .exact Akr n (λk hk=>h k (by omega)) (by omega) k (by omega) hq
  .rw[em hp]at e;by_cases hqn:q n
   .rw[ei hqn]at e;omega
   .rw[em hqn]at e;by_cases ek:k=n
    .subst ek;exact absurd hq hqn
    .exact Akr n (λk hk=>h k (by omega)) (by omega) k (by omega) hq
def Aa8(L:Hk)(n:Nat):Prop:=∀i j,Tie L i j->i<n/\j<n
theorem Ep.lt(hL:Aa8 L n)(hi:i<n)(h:Ep L i r j):j<n:=by
 induction h with
 |refl=>exact hi
 |stay _ ih=>exact ih
 |step _ t _=>exact(hL _ _ t).2
variable{s:ez}
theorem Uz(hi:i<s.length):(Hh s z).getD i 0=if(z.1.Kind=1/\z.2=true)/\(i=z.1.A.toNat\/i=z.1.B.toNat)then min (s.getD z.1.A.toNat 0) (s.getD z.1.B.toNat 0) else s.getD i 0:=by unfold Hh;grind
def Lab(L:Hk)(s:ez):Prop:=∀i,i<s.length->I1 L (s.getD i 0).toNat i
theorem Aof(h:Lab L s)(hz:z∈L)(hr:z.1.Kind=1->z.1.A.toNat<s.length/\z.1.B.toNat<s.length):Lab L (Hh s z):=by
 intro i hi;rw[Gk]at hi;rw[Uz hi];split
 .rename_i hc;obtain⟨⟨hk,hv⟩,hab⟩:=hc;obtain⟨ha,hb⟩:=hr hk;have tAB:Tie L z.1.A.toNat z.1.B.toNat:=⟨z,hz,hk,hv,.inl ⟨rfl,rfl⟩⟩;have c1:=h _ ha;have c2:=h _ hb;rcases Int.le_total (s.getD z.1.A.toNat 0) (s.getD z.1.B.toNat 0) with e|e
  .rw[Int.min_eq_left e];rcases hab with rfl|rfl
   .exact c1
   .exact c1.tie tAB
  .rw[Int.min_eq_right e];rcases hab with rfl|rfl
   .exact c2.tie tAB.symm
   .exact c2
 .exact h i hi
theorem Sr{L:Hk}{n:Nat}:∀(l:Hk)(s:ez),s.length=n->(∀z,z∈l->z∈L/\(z.1.Kind=1->z.1.A.toNat<n/\z.1.B.toNat<n))->Lab L s->Lab L (Ez l s)
 | [],_,_,_,h=>h
 |z::l,s,hs,hz,h=>Sr l (Hh s z) (by rw[Gk];exact hs) (λy hy=>hz y (am _ hy)) (Aof h (hz z an).1 (by grind))
theorem U0(z:Ai×Bool)(hi:i<s.length):(Hh s z).getD i 0<=s.getD i 0:=by rw[Uz hi];grind
theorem Ss:∀(l:Hk)(s:ez){i:Nat},i<s.length->(Ez l s).getD i 0<=s.getD i 0
 | [],_,_,_=>Int.le_refl _
 |z::l,s,i,hi=>Int.le_trans (Ss l (Hh s z) (by rw[Gk];exact hi)) (U0 z hi)
theorem Zb:∀(l:Hk)(s:ez){z:Ai×Bool},z∈l->z.1.Kind=1->z.2=true->z.1.A.toNat<s.length->z.1.B.toNat<s.length->∀i,i=z.1.A.toNat\/i=z.1.B.toNat->(Ez l s).getD i 0<=min (s.getD z.1.A.toNat 0) (s.getD z.1.B.toNat 0)
 | [],_,_,h,_,_,_,_,_,_=>by cases h
 | y::l,s,z,hz,hk,hv,ha,hb,i,hi=>by
  show (Ez l (Hh s y)).getD i 0<=_;have hil:i<s.length:=by rcases hi with rfl|rfl <;> assumption
  by_cases e:z=y
  .subst e;refine Int.le_trans (Ss l _ (by rw[Gk];exact hil)) ?_;rw[Uz hil,ei ⟨⟨hk,hv⟩,hi⟩];exact Int.le_refl _
  .have hz':z∈l:=by
    grind
   refine Int.le_trans (Zb l (Hh s y) hz' hk hv (by rw[Gk];exact ha) (by rw[Gk];exact hb) i hi) ?_;have h1:=U0 y ha;have h2:=U0 y hb;omega
def W5(x:Dw):Prop:=Afm x=true
variable{s:Ab}
theorem A7q(hs:A3 s):Ok (Ame s) λy=>W5 y.1/\A3 y.2:=by
 unfold Ame;refine(Bi hs _ (by simp) (by simp)).bind λu hu=>(Bi hu.1 _ (by simp) (by simp)).bind λv hv=>ed ⟨?_,hv.1⟩;have h1:u.1=0\/u.1=450\/u.1=800\/u.1=1350\/u.1=1800\/u.1=2600\/u.1=3500:=by simpa using hu.2
 have h2:v.1=0\/v.1=100\/v.1=300\/v.1=900\/v.1=1799:=by simpa using hv.2
 rcases h1 with e|e|e|e|e|e|e <;> rcases h2 with e2|e2|e2|e2|e2 <;> rw[e,e2] <;> rfl
theorem Aqd{x:Dw}(h:W5 x):Afm x=true:=h
structure Tg(x:B0):Prop where
 kind:1<=x.Kind/\x.Kind<=3
 station:0<=x.Station/\x.Station<=1
 max:0<=x.Max/\x.Max<=5000
 rate:0<=x.Rate/\x.Rate<=5000
 cost:1<=x.Cost/\x.Cost<=100
 arcs:x.Gn.length<=4
 arc:∀a,a∈x.Gn->W5 a
theorem Ahb(hs:A3 s):Ok (F80 s) λy=>Tg y.1/\A3 y.2:=by
 unfold F80;refine(Jr hs 1 3 (by omega) (by omega)).bind λk hk=>(Dc hk.1 2 (by omega) (by omega)).bind λst hst=>(Bi hst.1 _ (by simp) (by simp)).bind λm hm=>(Bi hm.1 _ (by simp) (by simp)).bind λr hr=>(Bi hr.1 _ (by simp) (by simp)).bind λc hc=>(Dc hc.1 3 (by omega) (by omega)).bind λn hn=>?_;have h1:m.1=0\/m.1=1\/m.1=7\/m.1=20\/m.1=40:=by simpa using hm.2
 have h2:r.1=0\/r.1=1\/r.1=5\/r.1=50:=by simpa using hr.2
 have h3:c.1=1\/c.1=2\/c.1=3\/c.1=100:=by simpa using hc.2
 refine d_ (A:=λs=>A3 ⟨s.2.1,s.2.2.1⟩/\s.2.2.2.length<=4/\∀a,a∈s.2.2.2->W5 a) (B:=λ(_:Unit)=>False) ?_ (λs hs=>ed ⟨⟨hk.2,by dsimp only;omega,by dsimp only;omega,by dsimp only;omega,by dsimp only;omega,hs.2.1,hs.2.2⟩,hs.1⟩) ee;refine d4 (λs=>(0<=s.1/\s.1+(s.2.2.2.length:Int)<=2)/\A3 ⟨s.2.1,s.2.2.1⟩/\∀a,a∈s.2.2.2->W5 a) (λs=>s.1.toNat) _ _ ?_ ?_ ?_
 .exact⟨⟨by dsimp only;omega,by simp;omega⟩,hn.1,λa ha=>by cases ha⟩
 .dsimp only;omega
 .rintro⟨i,L,a,l⟩ ⟨⟨g1,g2⟩,g3,g4⟩;dsimp only at g1 g2 g3 g4;unfold Aql;dsimp only;refine c7 (λhq=>?_) (λ_=>d9 ⟨g3,by dsimp only;omega,g4⟩);simp only[dM]at hq;have e1:w64 (i-1)=i-1:=A4;rw[e1];refine(A7q g3).bind λu hu=>(d6 (by simp;omega)).bind λw hw=>c8 ⟨⟨⟨by dsimp only;omega,by rw[hw];simp;omega⟩,hu.2,λx hx=>?_⟩,by dsimp only;omega⟩;rw[hw]at hx;rcases aw.1 hx with hx|hx
  .exact g4 x hx
  .simp only[aM]at hx;subst hx;exact hu.1
theorem A2o{l:List Dw}(h:∀a,a∈l->W5 a):jL l=some false:=by
 unfold jL Ae8;rw[Fq l 0 λj a ha=>?_]
 .rfl
 .unfold zU Aly;rw[Aqd (h a (ag ha))];rfl
theorem Ags{x:B0}(h:Tg x):Amc x=some true:=by
 obtain⟨h1,h2,h3,h4,h5,h6,h7⟩:=h;unfold Amc;have e:((((((D1 x.Kind 1 3)&&(D1 x.Station 0 1))&&(D1 x.Max 0 5000))&&(D1 x.Rate 0 5000))&&(D1 x.Cost 1 100))&&(decide ((x.Gn.length:Int)<=4)))=true:=by unfold D1;simp only[aa,dM];omega
 rw[e,A2o h7];rfl
structure Aes(x:Gb):Prop where
 bow:0<=x.Bow/\x.Bow<=200
 stern:(0<=x.Stern/\x.Stern<=200)/\0<x.Bow+x.Stern
 len:x.A2.length<=8
 thr:∀t,t∈x.A2->Tg t
theorem Au3(hs:A3 s){n:Int}(h0:0<=n/\n<=8):Ok (F32 s n) λy=>(Aes y.1/\(y.1.A2.length:Int)<=n)/\A3 y.2:=by
 unfold F32;rw[A4];refine(Bi hs _ (by simp) (by simp)).bind λu hu=>(Bi hu.1 _ (by simp) (by simp)).bind λv hv=>(Dc hv.1 (n+1) (by omega) (by omega)).bind λk hn=>?_;have h1:u.1=0\/u.1=1\/u.1=30\/u.1=60:=by simpa using hu.2
 have h2:v.1=1\/v.1=25\/v.1=40:=by simpa using hv.2
 refine d_ (A:=λs=>A3 ⟨s.2.1,s.2.2.1⟩/\(s.2.2.2.length:Int)<=n/\∀a,a∈s.2.2.2->Tg a) (B:=λ(_:Unit)=>False) ?_ (λs hs=>ed ⟨⟨⟨by dsimp only;omega,by dsimp only;omega,by have:=hs.2.1;dsimp only;omega,hs.2.2⟩,hs.2.1⟩,hs.1⟩) ee;refine d4 (λs=>(0<=s.1/\s.1+(s.2.2.2.length:Int)<=n)/\A3 ⟨s.2.1,s.2.2.1⟩/\∀a,a∈s.2.2.2->Tg a) (λs=>s.1.toNat) _ _ ?_ ?_ ?_
 .have:=hn.2;exact⟨⟨by dsimp only;omega,by simp;omega⟩,hn.1,λa ha=>by cases ha⟩
 .dsimp only;omega
 .rintro⟨i,L,a,l⟩ ⟨⟨g1,g2⟩,g3,g4⟩;dsimp only at g1 g2 g3 g4;unfold Aq6;dsimp only;refine c7 (λhq=>?_) (λ_=>d9 ⟨g3,by dsimp only;omega,g4⟩);simp only[dM]at hq;have e1:w64 (i-1)=i-1:=A4;rw[e1];refine(Ahb g3).bind λu hu=>(d6 (by simp;omega)).bind λw hw=>c8 ⟨⟨⟨by dsimp only;omega,by rw[hw];simp;omega⟩,hu.2,λx hx=>?_⟩,by dsimp only;omega⟩;rw[hw]at hx;rcases aw.1 hx with hx|hx
  .exact g4 x hx
  .simp only[aM]at hx;subst hx;exact hu.1
set_option linter.unusedVariables false
theorem pick(hs:A3 s)(l:ez)(h:1<=l.length)(h1:l.length<=1000):Ok (F18 s l) λy=>A3 y.2:=(Bi hs l h h1).mono λ_ h=>h.1
structure A86(v:Ar):Prop where
 ship:Aes v.Ship
 Ak:A1 v.Board
 table:Wx v.Table
 des:qK v.Design
theorem A1.thr(h:A1 b){l:List Bb}(hl:l.length=b.Aj.length)(hc:∀(i:Nat) x y,b.Aj[i]?=some x->l[i]?=some y->y=⟨x.Load,x.Least,x.Dk,y.Thruster,x.Needs⟩ /\ -1<=y.Thruster/\y.Thruster<=7):A1 ⟨b.Ap,b.Ag,b.Ad,l,b.Phase,b.Ax⟩ where
 buses:=h.buses
 brl:=h.brl
 sol:=h.sol
 col:=by dsimp only;rw[hl];exact h.col
 phase:=h.phase
 freq:=h.freq
 br:=by dsimp only;rw[hl];exact h.br
 one:=h.one
 any:=by dsimp only;rw[hl];exact h.any
 nodup:=h.nodup
 so:=h.so
 co i y hy:=by dsimp only at hy;have hi:=(ac.1 hy).1;have hx:b.Aj[i]?=some (b.Aj[i]'(by omega)):=ak (by omega);obtain⟨e,h1⟩:=hc i _ y hx hy;obtain⟨c1,c2,c3,c4,c5⟩:=h.co i _ hx;rw[e];exact⟨c1,c2,c3,h1,c5⟩
def Mt:List Aa:=[(⟨1,0⟩:Aa),(⟨1,1⟩:Aa),(⟨5,0⟩:Aa),(⟨5,1⟩:Aa),(⟨6,0⟩:Aa),(⟨9,0⟩:Aa)]
theorem Sc:Fe Mt:=by
 have h:Mt.Pairwise λa b=>Ew a b=true:=by decide +kernel
 exact h
theorem Ajt(hl:Fe l)(hn:l.length<=40)(hs:A3 s):Ok (F28 s l) λy=>vO l y.1/\A3 y.2:=yQ hl hn hs
theorem Agx(hl:Fe l)(hn:l.length<=30)(hs:A3 s):Ok (F29 s l) λy=>Ym l y.1/\A3 y.2:=Za hl hn hs
set_option linter.unusedVariables false
theorem Auz(l:List Aa)(p:Aa):l.any (λx=>Gv p x)=La l p:=by unfold La;congr 1;funext x;unfold Gv;grind
theorem uL(l:List Aa)(p:Aa)(h:l.length<=9223372036854775807):vZ l p=some (La l p):=by unfold vZ Afz Alu;rw[Ja (λy=>Gv p y) (λi y=>by rw[←Lq];rfl) l h];simp only[aj,Lx,Auz]
theorem Ati(l:List Aa)(p:Aa):F45 l p=some (La l p):=by
 unfold F45;have:∀(l:List Aa)(k:Nat),foldI (Ae5 p) l k ()=bif La l p then some (.ret true) else some (.next ()):=by
  intro l;induction l with
  |nil=>intro k;rfl
  |cons x l ih=>
   intro k;unfold foldI Ae5 A0r;rw[Lq];have e:La (x::l) p=(Gv x p || La l p):=rfl;rw[e];cases Gv x p with
   |true=>rfl
   |false=>exact ih (k+1)
 rw[this];cases La l p <;> rfl
theorem Ac3{p:Aa}(h:p∈l):La l p=true:=Oz.2 h
theorem Wv(h:Ew x y=true):Mf x y=some (-1):=by unfold Mf;rw[Nu,M5,M5];rw[Lr]at h;grind
theorem Ape(x:Aa):Mf x x=some 0:=by unfold Mf;rw[Nu,M5,M5];simp
theorem Apd{x y:Bl}(h:Ajs x y):Ok (Alx x y) (· = -1):=by
 unfold Alx;have hc:∀a b:Aa,Ok (Mf a b) λ_=>True:=λa b=>by unfold Mf;rw[Nu];exact⟨_,rfl,trivial⟩
 rcases h with h|⟨h1,h2⟩
 .refine ec (P:=λv=>v = -1) (dh (Wv h) rfl) λv hv=>(hc _ _).bind λu _=>?_;subst hv;rw[Nu];exact ed rfl
 .rw[h1];refine ec (P:=λv=>v=0) (dh (Ape _) rfl) λv hv=>ec (P:=λv=>v = -1) (dh (Wv h2) rfl) λu hu=>?_;subst hv;subst hu;rw[Nu];exact ed rfl
theorem Ahv(hl:Fe l)(hn:l.length<=1000):V1 l=some true:=by refine di ?_;unfold V1;refine d_ (A:=λ_=>True) (B:=λ_=>False) ?_ (λ_ _=>ed rfl) ee;refine d4 (λz=>1<=z/\z<=1001) (λz=>((l.length:Int)-z).toNat) _ _ ⟨by omega,by omega⟩ (by omega) λz hz=>?_;unfold Aad;refine c7 (λhc=>?_) (λ_=>d9 trivial);simp only[dM]at hc;rw[A4 (n:=z-1),A4 (n:=z+1)];refine(d5 (by omega) (by omega)).bind λa ha=>(d5 (by omega) hc).bind λb hb=>?_;refine ec (P:=λv=>v = -1) (dh (Wv (Vp hl ha hb (by omega))) rfl) λv hv=>?_;subst hv;exact c8 ⟨by omega,by omega⟩
theorem A2r{l:List Bl}(hl:l.Pairwise Ajs)(hn:l.length<=1000):jH l=some true:=by refine di ?_;unfold jH;refine d_ (A:=λ_=>True) (B:=λ_=>False) ?_ (λ_ _=>ed rfl) ee;refine d4 (λz=>1<=z/\z<=1001) (λz=>((l.length:Int)-z).toNat) _ _ ⟨by omega,by omega⟩ (by omega) λz hz=>?_;unfold Aac;refine c7 (λhc=>?_) (λ_=>d9 trivial);simp only[dM]at hc;rw[A4 (n:=z-1),A4 (n:=z+1)];refine(d5 (by omega) (by omega)).bind λa ha=>(d5 (by omega) hc).bind λb hb=>?_;obtain⟨h1,e1⟩:=ac.1 ha;obtain⟨h2,e2⟩:=ac.1 hb;have:=cu.1 hl _ _ h1 h2 (by omega);rw[e1,e2]at this;refine(Apd this).bind λv hv=>?_;subst hv;exact c8 ⟨by omega,by omega⟩
theorem A4e{p:Aa}(h:Tl p):V2 p=true:=by unfold Tl at h;simp only[V2,aa,dM];omega
theorem Asz(h:∀p,p∈l->Tl p)(hn:l.length<=1000):qG l=some false:=by unfold qG Af5;rw[Ja (λy=>Afl y) (λi y=>rfl) l (by omega)];grind[Afl,Lx,A4e]
theorem Ai5(hl:Fe l)(h:∀p,p∈l->Tl p)(hn:l.length<=1000):Ama l=some true:=by unfold Ama;rw[Asz h hn,Ahv hl hn];rfl
theorem An1{d:Bw}(h:qK d):Al9 d=some true:=by
 have hl:=h.len;have hk:=h.links.len;refine di ?_;unfold Al9;refine d_ (A:=λ_=>True) (B:=λ_=>False) ?_ (λ_ _=>?_) ee
 .refine c9 (I:=λ_ _=>True) trivial (λj x _ hx _=>?_) λ_ _=>trivial;obtain⟨h1,h2,h3⟩:=h.links.mem x (ag hx);unfold Aic;refine ec (P:=λv=>v=true) (dh (uL _ _ (by omega)) (Ac3 h1)) λv hv=>?_;subst hv;refine ec (P:=λv=>v=true) (d7 (λ_=>dh (uL _ _ (by omega)) (Ac3 h2)) (λhn=>absurd ⟨rfl,trivial⟩ hn)) λv hv=>?_;subst hv;refine c7 (λhc=>?_) (λ_=>c8 trivial);simp only[Apy,bE,Bool.or_self,bU,Lq]at hc;exact absurd (Hb.1 hc) h3
 .rw[A2r h.links.asc (by omega)];exact ed rfl
theorem A06{s:ByteArray}(h:s∈Jj):Qm s=some true:=by simp only[Jj,ah,aV,or_false]at h;rcases h with rfl|rfl|rfl|rfl <;> kernel_rfl
theorem Anx{d:Bw}(h:qK d)(hl:∀p,p∈l->p∈d.Parts):qE l d=some (false,d):=by have hn:=h.len;refine di ?_;unfold qE Af4;refine ec (P:=λy=>y=(-1,d)) ?_ (λy hy=>ed (by rw[hy];rfl));refine d_ (A:=λ_=>True) (B:=λ_=>False) ?_ (λ_ _=>ed rfl) ee;refine c9 (I:=λ_ _=>True) trivial (λj x _ hx _=>?_) λ_ _=>trivial;unfold Aaj Afj;rw[uL _ _ (by omega),Ac3 (hl x (ag hx))];exact c8 trivial
theorem A6z{a b:ByteArray}(h:a.toList=b.toList):a=b:=by rw[ByteArray.toList_eq,ByteArray.toList_eq]at h;exact ByteArray.ext (Array.toList_inj.1 h)
theorem A4l{l:List Bf}{g:Bf}(h:∀x,x∈l->x.Name≠g.Name):jA l g=some (false,g):=by refine di ?_;unfold jA Ae6;refine ec (P:=λy=>y=(-1,g)) ?_ (λy hy=>ed (by rw[hy];rfl));refine d_ (A:=λ_=>True) (B:=λ_=>False) ?_ (λ_ _=>ed rfl) ee;refine c9 (I:=λ_ _=>True) trivial (λj x _ hx _=>?_) λ_ _=>trivial;unfold zT;refine c7 (λhc=>?_) (λ_=>c8 trivial);simp only[Afk,dQ]at hc;exact absurd (A6z hc) (h x (ag hx))
theorem Aj5{d:Bw}(h:qK d):Al8 d=some true:=by
 have hl:=h.len;have hk:=h.groups.len;refine di ?_;unfold Al8;refine d_ (A:=λ_=>True) (B:=λ_=>False) ?_ (λ_ _=>ed rfl) ee;refine c9 (I:=λ_ z=>z=(d.Parts,d.Links,d.Groups)) rfl (λj g z hg hz=>?_) λ_ _=>trivial;subst hz;obtain⟨h1,h2,h3,h4,h5⟩:=h.groups.mem g (ag hg);have hj:=(ac.1 hg).1;unfold Aib;refine ec (P:=λv=>v=true) (dh (A06 h1) rfl) λv hv=>?_;subst hv;refine ec (P:=λv=>v=d.Groups.take j) (d7 (λ_=>(Ok.cutI (by omega) (by rw[E_];omega) (by rw[E_];dsimp only;omega)).mono λy hy=>?_) (λhn=>absurd ⟨rfl,trivial⟩ hn)) λv hv=>?_
 .rw[hy,E_];simp
 subst hv;refine ec (P:=λv=>v=(false,g)) (d7 (λ_=>dh (A4l λx hx=>?_) rfl) (λhn=>absurd ⟨rfl,trivial⟩ hn)) λv hv=>?_
 .obtain⟨i,hi⟩:=bC hx;rw[ap]at hi;split at hi
  .obtain⟨q1,q2⟩:=ac.1 hi;obtain⟨q3,q4⟩:=ac.1 hg;have:=cu.1 h.groups.dist i j q1 q3 (by assumption);rw[q2,q4]at this;exact this
  .cases hi
 subst hv;have hne:((g.Parts.length:Int)==0)=false:=by
  cases e:g.Parts with
  |nil=>exact absurd e h2
  |cons a b=>grind
 refine ec (P:=λv=>v=(false,d)) (d7 (λ_=>dh (Anx h h4) rfl) (λhn=>absurd ⟨by simp[hne],trivial⟩ hn)) λv hv=>?_;subst hv;refine ec (P:=λv=>v=true) (d7 (λ_=>dh (Ahv (l:=g.Parts) h3 (by omega)) rfl) (λhn=>absurd ⟨by simp[hne],trivial⟩ hn)) λv hv=>?_;subst hv;refine c7 (λhc=>?_) (λ_=>c8 rfl);simp[Apx,hne]at hc
theorem Ag5{d:Bw}(h:qK d):F94 d=some 0:=by
 have h1:=h.len;have h2:=h.links.len;have h3:=h.groups.len;unfold F94;have e:Ak1 d=false:=by simp only[Ak1,aY,dN];omega
 rw[e,Ai5 h.asc h.ok (by omega),An1 h,Aj5 h];rfl
theorem A49(x y:Aa):F70 x y=Ew x y:=rfl
def Bt(a x b:Int):Prop:=a<=x/\x<=b
def L12(l:ez):Prop:=l.length=12/\∀x,x∈l->Bt (-1000) x 1000
def W0(c:Fg):Prop:=L12 c.Surge/\L12 c.Sway/\L12 c.Yaw
def Aev(h:H3):Prop:=(W0 h.Wind/\W0 h.Current/\W0 h.Wave)/\Bt 1 h.Mass 1000000/\Bt 1 h.Inertia 1073741824/\Bt 0 h.Drag h.Mass/\Bt 0 h.Spin h.Inertia
def N3(r:Br):Prop:=Bt 0 r.Cause 7/\Bt 0 r.Speed 1000/\Bt 1 r.Stale 600/\Bt 0 r.Freeze 600
def Vv(g:G5):Prop:=(∀x,x∈[g.Near,g.Sum,g.Calm,g.Point,g.Drift,g.Still]->Bt 0 x 100000)/\Bt 0 g.MostSum 10000000/\Bt 0 g.MostForce 5000/\Bt 0 g.MostYaw 500000
def Z4(p:G4):Prop:=Bt (-1000) p.X 1000/\Bt (-1000) p.Y 1000
def Am3(c:G0):Prop:=Z4 c.Place/\Bt 0 c.Yellow c.Red/\c.Red<=1000000
def qZ:List ByteArray:=[⟨#[100,114,105,108,108]⟩,⟨#[100,105,118,101]⟩,⟨#[97,45,49]⟩]
def Alk(o:Eb):Prop:=o.Name∈qZ/\Bt 1 o.Class 3/\Am3 o.Circle/\Bt 0 o.Drift 1000
def Aa9(s:C6):Prop:=(1<=s.Stages.length/\s.Stages.length<=12)/\I4 Qm [] s.Stages=true
theorem Acx(hs:A3 s):Ok (vY s) λy=>L12 y.1/\A3 y.2:=by
 unfold vY;refine(Ok.mkI (by omega) (by omega)).bind λl hl=>?_;subst hl;refine d_ (A:=λz=>L12 z.2.2/\A3 ⟨z.1,z.2.1⟩) (B:=λ(_:Unit)=>False) ?_ (λz hz=>ed hz) ee;refine c9 (I:=λ_ z=>L12 z.2.2/\A3 ⟨z.1,z.2.1⟩) ⟨⟨by simp,λx hx=>by rw[bK hx];unfold Bt;omega⟩,hs⟩ (λj x z hx hz=>?_) λz hz=>hz;have hj:=(ac.1 hx).1;simp only[List.length_replicate]at hj;have hj2:j<12:=hj;obtain⟨⟨h1,h2⟩,h3⟩:=hz;unfold Aie;rw[E_];refine(Bi h3 _ (by simp) (by simp)).bind λy hy=>(d5 (by omega) (by omega)).bind λ_ _=>(db (by omega)).bind λw hw=>c8 ⟨⟨by rw[hw,bV];exact h1,λx hx=>?_⟩,hy.1⟩;subst hw;have hm:=hy.2;rcases bW hx with hx|rfl
 .exact h2 x hx
 .simp at hm;unfold Bt;omega
theorem uZ(hs:A3 s):Ok (F79 s) λy=>W0 y.1/\A3 y.2:=by unfold F79;exact(Acx hs).bind λa ha=>(Acx ha.2).bind λb hb=>(Acx hb.2).bind λc hc=>ed ⟨⟨ha.1,hb.1,hc.1⟩,hc.2⟩
theorem A5i(hs:A3 s):Ok (F31 s) λy=>Aev y.1/\A3 y.2:=by
 unfold F31;refine(uZ hs).bind λa ha=>(uZ ha.2).bind λb hb=>(uZ hb.2).bind λc hc=>(Bi hc.2 _ (by simp) (by simp)).bind λd hd=>(Bi hd.1 _ (by simp) (by simp)).bind λe he=>(Bi he.1 _ (by simp) (by simp)).bind λf hf=>(Bi hf.1 _ (by simp) (by simp)).bind λg hg=>ed ⟨⟨⟨ha.1,hb.1,hc.1⟩,?_⟩,hg.1⟩;have h1:=hd.2;have h2:=he.2;have h3:=hf.2;have h4:=hg.2;simp only[ah,aV,or_false]at h1 h2 h3 h4;have d10:∀x:Int,0<=x->x<=1073741824->0<=w64 (Int.tdiv x 10):=λx h0 h1=>by have:Int.tdiv x 10=x / 10:=cZ h0;rw[A4];omega
 have q1:=d10 d.1 (by omega) (by omega);have q2:=d10 e.1 (by omega) (by omega);unfold Bt;dsimp only;omega
theorem A4a(hs:A3 s):Ok (F35 s 3) λy=>(y.1.length<=3/\∀r,r∈y.1->N3 r)/\A3 y.2:=by
 unfold F35;rw[A4];refine(Dc hs (3+1) (by omega) (by omega)).bind λk hk=>?_;refine d_ (A:=λz=>(z.2.2.2.length<=3/\∀r,r∈z.2.2.2->N3 r)/\A3 ⟨z.2.1,z.2.2.1⟩) (B:=λ(_:Unit)=>False) ?_ (λz hz=>ed hz) ee;have hk2:=hk.2;refine d4 (λz=>(0<=z.1/\z.1+(z.2.2.2.length:Int)<=3)/\(∀r,r∈z.2.2.2->N3 r)/\A3 ⟨z.2.1,z.2.2.1⟩) (λz=>z.1.toNat) _ _ ⟨by simp;omega,by simp,hk.1⟩ (by dsimp only;omega) ?_;rintro⟨k,L,a,l⟩ ⟨⟨h1,h2⟩,h3,h4⟩;dsimp only at h1 h2 h3 h4;unfold Aq2 F81;refine c7 (λhc=>?_) (λ_=>d9 ⟨⟨by dsimp only;omega,h3⟩,h4⟩);simp only[dM]at hc;refine ec (P:=λy=>N3 y.1/\A3 y.2) ((Dc h4 4 (by omega) (by omega)).bind λu hu=>(Bi hu.1 _ (by simp) (by simp)).bind λv hv=>(Bi hv.1 _ (by simp) (by simp)).bind λw hw=>(Bi hw.1 _ (by simp) (by simp)).bind λx hx=>ed ⟨?_,hx.1⟩) λy hy=>(d6 (by simp;omega)).bind λm hm=>c8 ?_
 .have g0:=hu.2;have g1:=hv.2;have g2:=hw.2;have g3:=hx.2;simp only[ah,aV,or_false]at g1 g2 g3;unfold N3 Bt;dsimp only;omega
 .subst hm;dsimp only;rw[A4 (n:=k-1)];exact⟨⟨by simp;omega,λr hr=>(aw.1 hr).elim (h3 r) λhr=>by rw[aM.1 hr];exact hy.1,hy.2⟩,by omega⟩
theorem A14(hs:A3 s):Ok (F36 s) λy=>Vv y.1/\A3 y.2:=by unfold F36;refine(Bi hs _ (by simp) (by simp)).bind λa ha=>(Bi ha.1 _ (by simp) (by simp)).bind λb hb=>(Bi hb.1 _ (by simp) (by simp)).bind λc hc=>(Bi hc.1 _ (by simp) (by simp)).bind λd hd=>(Bi hd.1 _ (by simp) (by simp)).bind λe he=>(Bi he.1 _ (by simp) (by simp)).bind λf hf=>(Bi hf.1 _ (by simp) (by simp)).bind λg hg=>(Bi hg.1 _ (by simp) (by simp)).bind λi hi=>(Bi hi.1 _ (by simp) (by simp)).bind λj hj=>ed ⟨?_,hj.1⟩;have h1:=ha.2;have h2:=hb.2;have h3:=hc.2;have h4:=hd.2;have h5:=he.2;have h6:=hf.2;have h7:=hg.2;have h8:=hi.2;have h9:=hj.2;simp only[ah,aV,or_false]at h1 h2 h3 h4 h5 h6 h7 h8 h9;unfold Vv Bt;refine⟨λx hx=>?_,by dsimp only;omega,by dsimp only;omega,by dsimp only;omega⟩;simp only[ah,aV,or_false]at hx;omega
theorem At8(hs:A3 s):Ok (F83 s) λy=>Am3 y.1/\A3 y.2:=by unfold F83;refine(Bi hs _ (by simp) (by simp)).bind λa ha=>(Bi ha.1 _ (by simp) (by simp)).bind λb hb=>(Bi hb.1 _ (by simp) (by simp)).bind λc hc=>(Bi hc.1 _ (by simp) (by simp)).bind λd hd=>ed ⟨?_,hd.1⟩;have h1:=ha.2;have h2:=hb.2;have h3:=hc.2;have h4:=hd.2;simp only[ah,aV,or_false]at h1 h2 h3 h4;rw[A4 (n:=a.1+d.1)];unfold Am3 Z4 Bt;dsimp only;omega
theorem A7x(hs:A3 s):Ok (F37 s) λy=>Alk y.1/\A3 y.2:=by unfold F37 F82;refine ec (P:=λy=>y.1∈qZ/\A3 y.2) ((Dc hs 3 (by omega) (by omega)).bind λa ha=>(d5 ha.2.1 (by have:=ha.2.2;simp;omega)).bind λt ht=>ed ⟨ag ht,ha.1⟩) λb hb=>?_;refine(Jr hb.2 1 3 (by omega) (by omega)).bind λc hc=>(At8 hc.1).bind λd hd=>(Bi hd.2 _ (by simp) (by simp)).bind λe he=>ed ⟨⟨hb.1,hc.2,hd.1,?_⟩,he.1⟩;have h1:=he.2;simp only[ah,aV,or_false]at h1;unfold Bt;dsimp only;omega
theorem vJ(hs:A3 s):Ok (F40 s) λy=>Bt 0 y.1 3599/\A3 y.2:=by unfold F40;refine(Bi hs _ (by simp) (by simp)).bind λa ha=>ed ⟨?_,ha.1⟩;have h1:=ha.2;simp only[ah,aV,or_false]at h1;unfold Bt;dsimp only;omega
def nmS(k:Nat):ByteArray:=⟨#[115,UInt8.ofNat (97+k)]⟩
theorem As6{k:Int}(h0:0<=k)(h1:k<=4):Ok (Ai4 [IntKind.wrap .u8 (w64 (97+k))]) λs=>nzI (Ad4 (⟨#[115]⟩:ByteArray) s)=some ()/\(⟨#[115]⟩:ByteArray)++s=nmS k.toNat/\Qm (nmS k.toNat)=some true/\((List.range k.toNat).map nmS).any (· == nmS k.toNat)=false:=by
 have h:k=0\/k=1\/k=2\/k=3\/k=4:=by omega
 rcases h with rfl|rfl|rfl|rfl|rfl
 .exact⟨⟨#[97]⟩,by kernel_rfl,by kernel_rfl,by kernel_rfl,by kernel_rfl,by kernel_rfl⟩
 .exact⟨⟨#[98]⟩,by kernel_rfl,by kernel_rfl,by kernel_rfl,by kernel_rfl,by kernel_rfl⟩
 .exact⟨⟨#[99]⟩,by kernel_rfl,by kernel_rfl,by kernel_rfl,by kernel_rfl,by kernel_rfl⟩
 .exact⟨⟨#[100]⟩,by kernel_rfl,by kernel_rfl,by kernel_rfl,by kernel_rfl,by kernel_rfl⟩
 .exact⟨⟨#[101]⟩,by kernel_rfl,by kernel_rfl,by kernel_rfl,by kernel_rfl,by kernel_rfl⟩
theorem zG(wd:ByteArray->Option Bool)(x:Em):∀(l:List Em)(s:List ByteArray),I4 wd s (l++[x])=(I4 wd s l&&I4 wd (s++l.map (·.Name)) [x])
 | [],s=>by simp[I4]
 |y::l,s=>by show (_&&I4 wd (s++[y.Name]) (l++[x]))=((_&&I4 wd (s++[y.Name]) l)&&_);rw[zG wd x l,←Bool.and_assoc,bF];rfl
theorem Acj{i:Int}:∀{l:ez}{b:Int},l.Pairwise (· < ·)->(∀x,x∈l->b<x/\x<i)->Qv i b l=true
 | [],_,_,_=>rfl
 |n::l,b,hp,h=>by unfold Qv;have hn:=h n an;rw[Acj (aI.1 hp).2 λx hx=>⟨(aI.1 hp).1 x hx,(h x (am _ hx)).2⟩];simp[hn]
theorem A33(hs:A3 s):Ok (F38 s) λy=>Aa9 y.1/\A3 y.2:=by
 unfold F38;refine d_ (A:=λz=>Aa9 ⟨z.2.2.2⟩/\A3 ⟨z.2.1,z.2.2.1⟩) (B:=λ(_:Unit)=>False) ?_ (λz hz=>ed hz) ee;refine d4 (λz=>(0<=z.1/\z.1<=5)/\(z.2.2.2.map (·.Name)=(List.range z.1.toNat).map nmS/\I4 Qm [] z.2.2.2=true)/\A3 ⟨z.2.1,z.2.2.1⟩) (λz=>(5-z.1).toNat) _ _ ⟨by simp,⟨rfl,rfl⟩,hs⟩ (by simp) ?_;rintro⟨k,L,a,l⟩ ⟨⟨h1,h2⟩,⟨h3,h5⟩,h4⟩;dsimp only at h1 h2 h3 h4 h5;have hl:(l.length:Int)=k:=by have:=congrArg List.length h3;simp at this;omega
 unfold Aq1;refine(Dc h4 5 (by omega) (by omega)).bind λu hu=>c7 (λhc=>?_) (λhc=>d9 ⟨⟨?_,h5⟩,hu.1⟩)
 .have hu2:=hu.2;simp only[Ak5,aS,dM,dQ]at hc;refine c7 (λhc=>by simp at hc;omega) (λ_=>?_);refine(As6 h1 (by omega)).bind λt ht=>?_;obtain⟨t1,t2,t3,t4⟩:=ht;refine ec (P:=λ_=>True) (dh t1 trivial) λ_ _=>(Bi hu.1 _ (by simp) (by simp)).bind λv hv=>(Jr hv.1 1 3 (by omega) (by omega)).bind λw hw=>(Ahy hw.1 (by omega) (by omega)).bind λx hx=>(d6 (by simp;omega)).bind λm hm=>c8 ?_;subst hm;dsimp only;have hv2:=hv.2;simp only[ah,aV,or_false]at hv2;rw[A4 (n:=k+1),t2];refine⟨⟨by omega,⟨?_,?_⟩,hx.1⟩,by omega⟩
  .have e:(k+1).toNat=k.toNat+1:=by omega
   rw[bh,h3,e,bS,bh];rfl
  .rw[zG,h5,bG,h3];have e:((((List.range k.toNat).map nmS).length:Nat):Int)=k:=by simp;omega
   have hw2:=hw.2;have hn:=Acj (i:=k) (b:=-1) hx.2.1 λy hy=>by have:=hx.2.2.1 y hy;omega
   have t5:decide ((nmS k.toNat).size<=100)=true:=rfl;simp only[I4,e,t3,t4,t5,hn,ce,bM,Bool.not_false];simp;omega
 .simp only[Ak5,aY,dN,dR]at hc;dsimp only;omega
structure Ves(v:Ar):Prop where
 base:A86 v
 hull:Aev v.Hull
 refs:v.References.length<=3/\∀r,r∈v.References->N3 r
 gains:Vv v.Gains
 place:Z4 v.Target.Place
 head:Bt 0 v.Target.Heading 3599
 delay:Bt 0 v.Delay 600
 opn:Alk v.Operation
 seq:Aa9 v.Sequence
 thr:∀c,c∈v.Board.Aj->c.Thruster<(v.Ship.A2.length:Int)
 parts:∀p,p∈v.Design.Parts->yC v p=true
variable{x:Gb}
theorem Asd(h:A1 b)(hx:x.A2.length<=7)(hs:A3 s)(t1 t2:Ab) :
  Ok (whileN (Agc (x,t1) (b,t2)) 1152921504606846976 (0,s.L,s.At,b.Aj)) (Hg (λz=>(∀c,c∈z.2.2.2->c.Thruster<(x.A2.length:Int))/\A1 ⟨b.Ap,b.Ag,b.Ad,z.2.2.2,b.Phase,b.Ax⟩/\z.2.2.2.length=b.Aj.length/\A3 ⟨z.2.1,z.2.2.1⟩) λ(_:Unit)=>False):=by
 have hcl:=h.col;refine d4 (λz=>(0<=z.1/\z.1<=(b.Aj.length:Int))/\A3 ⟨z.2.1,z.2.2.1⟩/\z.2.2.2.length=b.Aj.length/\(∀(i:Nat) x y,b.Aj[i]?=some x->z.2.2.2[i]?=some y->y=⟨x.Load,x.Least,x.Dk,y.Thruster,x.Needs⟩ /\ -1<=y.Thruster/\y.Thruster<=7)/\∀(i:Nat) y,(i:Int)<z.1->z.2.2.2[i]?=some y->y.Thruster<(x.A2.length:Int)) (λz=>((b.Aj.length:Int)-z.1).toNat) _ _ ⟨by dsimp only;omega,hs,rfl,λi x y hx hy=>?_,λi y hi _=>by dsimp only at hi;omega⟩ (by dsimp only;omega) ?_
 .dsimp only at hy;rw[hx]at hy;cases hy;exact⟨rfl,(h.co i x hx).2.2.2.1⟩
 rintro⟨k,L,a,l⟩ ⟨⟨h1,h2⟩,h3,h4,h5,h6⟩;dsimp only at h1 h2 h3 h4 h5 h6;unfold Agc;refine c7 (λhc=>?_) (λhc=>d9 ⟨λc hc2=>?_,h.thr h4 h5,h4,h3⟩)
 rotate_left
 .simp only[Ak7,dN]at hc;obtain⟨i,hi⟩:=bC hc2;have hi:l[i]?=some c:=hi;have:=(ac.1 hi).1;exact h6 i c (by omega) hi
 simp only[Ak7,dM]at hc;dsimp only;rw[A4 (n:=(x.A2.length:Int)-1),A4 (n:=k+1)];refine(Jr h3 (-1) _ (by omega) (by omega)).bind λu hu=>(d5 (by omega) (by omega)).bind λc hc2=>(db (by omega)).bind λm hm=>c8 ?_;subst hm;refine⟨⟨by dsimp only;omega,hu.1,by simpa using h4,λi x y hx hy=>?_,λi y hi hy=>?_⟩,by dsimp only;omega⟩
 .grind
 .dsimp only at hi hy;have hu1:=hu.2;by_cases e:i=k.toNat
  .rw[e,ch (by omega)]at hy;cases hy;dsimp only;omega
  .rw[bz (by omega)]at hy;exact h6 i y (by omega) hy
theorem Aer(hs:A3 s):Ok (F16 s) λy=>Ves y.1/\A3 y.2:=by
 unfold F16;refine(A5i hs).bind λy1 h1=>(Au3 h1.2 (n:=2) (by omega)).bind λy3 h3=>(Azy h3.2).bind λy5 h5=>(Au2 h5.2).bind λy7 h7=>(A4a h7.2).bind λy9 h9=>(A14 h9.2).bind λy11 h11=>(Bi h11.2 _ (by simp) (by simp)).bind λy13 h13=>(A7x h13.1).bind λy15 h15=>(A33 h15.2).bind λy17 h17=>?_;refine(Jr h17.2 (-50) 50 (by omega) (by omega)).bind λy19 h19=>(Jr h19.1 (-50) 50 (by omega) (by omega)).bind λy21 h21=>(vJ h21.1).bind λy23 h23=>?_;have hth:=h3.1.2;refine(Asd h5.1.ok (x:=y3.1) (by omega) h23.2 y3.2 y5.2).andThen (λz hz=>?_) ee;refine(Am8 (C:=[0,(y5.1.Ad.length:Int),(y5.1.Ag.length:Int),y5.1.Ap,(z.2.2.2.length:Int),(y3.1.A2.length:Int),(y9.1.length:Int),0,0,2]) (by simp) rfl hz.2.2.2).andThen (λw hw=>?_) ee;have hwl:=hw.1.2.1;refine(yQ hw.1.1 (by omega) hw.2).bind λy36 h36=>(Za hw.1.1 (by omega) h36.2).bind λy38 h38=>ed ⟨⟨⟨h3.1.1,hz.2.1,h7.1,⟨hw.1.1,hw.1.ptOk,by dsimp only;omega,h36.1,h38.1⟩⟩,h1.1,h9.1,h11.1,⟨?_,?_⟩,h23.1,?_,h15.1,h17.1,hz.1,λp hp=>?_⟩,h38.2⟩
 .have:=h19.2;unfold Bt;dsimp only;omega
 .have:=h21.2;unfold Bt;dsimp only;omega
 .have:=h13.2;simp only[ah,aV,or_false]at this;unfold Bt;dsimp only;omega
 .obtain⟨⟨p1,p2⟩,_,c,p3,p4⟩:=hw.1.2.2 p hp;unfold yC;obtain⟨K,n⟩:=p;dsimp only at p1 p2 p3 p4 ⊢;have:K=1\/K=2\/K=3\/K=4\/K=5\/K=6\/K=7\/K=8\/K=9:=by omega
  rcases this with rfl|rfl|rfl|rfl|rfl|rfl|rfl|rfl|rfl <;> simp at p3 <;> simp <;> omega
theorem A2v(hs:A3 s):Ok (F14 s) λy=>Ves y.1/\A3 y.2:=by
 unfold F14;refine(Aer hs).bind λy1 h1=>(d6 (by simp)).bind λb1 e1=>(Dc h1.2 3 (by omega) (by omega)).bind λy5 h5=>(d6 (by simp)).bind λs1 e2=>(d6 (by subst e1;simp)).bind λb2 e3=>(Dc h5.1 3 (by omega) (by omega)).bind λy11 h11=>(d6 (by subst e2;simp)).bind λs2 e4=>?_;subst e1;subst e2;subst e3;subst e4;have g0:Qk 2 [(⟨1,0,1⟩:Ai)] []:=Nl.gens (λx hx=>by rw[aM.1 hx];exact⟨rfl,by decide,by decide,by decide⟩) (by simp);have hy5:=h5.2;have hy11:=h11.2;have g1:=g0.add (x:=(⟨2,0,0⟩:Ai)) (y:=(⟨100,0,y5.1⟩:Ca)) ⟨rfl,rfl,by decide,by decide⟩ ⟨by dsimp only;omega,by dsimp only;omega,by dsimp only;omega⟩;have g2:=g1.add (x:=(⟨2,1,1⟩:Ai)) (y:=(⟨100,0,y11.1⟩:Ca)) ⟨rfl,rfl,by decide,by decide⟩ ⟨by dsimp only;omega,by dsimp only;omega,by dsimp only;omega⟩;have g3:=g2.cons;have hg2:=g2.len;refine d_ (A:=λz=>A3 ⟨z.2.1,z.2.2.1⟩/\(∀t,t∈z.2.2.2.2.1->Tg t)/\z.2.2.2.2.1.length=4/\Tx 2 z.2.2.2.1 2 z.2.2.2.2.2/\z.2.2.2.2.2.length=4/\∀c,c∈z.2.2.2.2.2->c.Thruster<4) (B:=λ(_:Unit)=>False) ?_ (λz hz=>?_) ee
 .refine d4 (λz=>(0<=z.1/\z.1<=4)/\A3 ⟨z.2.1,z.2.2.1⟩/\(∀t,t∈z.2.2.2.2.1->Tg t)/\(z.2.2.2.2.1.length:Int)=z.1/\Tx 2 z.2.2.2.1 2 z.2.2.2.2.2/\(z.2.2.2.2.2.length:Int)=z.1/\∀c,c∈z.2.2.2.2.2->c.Thruster<4) (λz=>(4-z.1).toNat) _ _ ⟨by simp,h11.1,by simp,by simp,g3,by simp,by simp⟩ (by simp) ?_;rintro⟨k,L,a,br,th,co⟩ ⟨⟨q1,q2⟩,q3,q4,q5,q6,q7,q8⟩;dsimp only at q1 q2 q3 q4 q5 q6 q7 q8;have hbl:=q6.len;unfold Ary;refine c7 (λhc=>?_) (λhc=>?_)
  .simp only[dM]at hc;refine(d6 (by simp;omega)).bind λbr2 e1=>(Bi q3 _ (by simp) (by simp)).bind λu hu=>(Dc hu.1 3 (by omega) (by omega)).bind λv hv=>(d6 (by simp;omega)).bind λco2 e2=>(Bi hv.1 _ (by simp) (by simp)).bind λw hw=>(Bi hw.1 _ (by simp) (by simp)).bind λx hx=>(d6 (by simp;omega)).bind λth2 e3=>c8 ?_;subst e1;subst e2;subst e3;rw[A4 (n:=k+1)];have hu2:u.1=0\/u.1=5\/u.1=20:=by simpa using hu.2
   have hw2:w.1=50\/w.1=5:=by simpa using hw.2
   have hx2:x.1=1\/x.1=2:=by simpa using hx.2
   have hv2:=hv.2;have hm:=qS (x:=k) (n:=2) (by omega) q1;have hd:0<=Int.tdiv k 2/\Int.tdiv k 2<=1:=by have:Int.tdiv k 2=k / 2:=cZ q1;omega
   refine⟨⟨by dsimp only;omega,hx.1,λt ht=>?_,by simp;omega,q6.add (m:=[⟨3,Int.tmod k 2,k⟩]) (λz hz=>?_) (by simp) (by simp) (by simp) ⟨⟨by dsimp only;omega,by dsimp only;omega,by dsimp only;omega,by dsimp only;omega,by simp,by simp,by simp⟩,by dsimp only;omega⟩,by simp;omega,λc hc=>(aw.1 hc).elim (q8 c) λhc=>by rw[aM.1 hc];dsimp only;omega⟩,by dsimp only;omega⟩
   .rcases aw.1 ht with ht|ht
    .exact q4 t ht
    .rw[aM.1 ht];rw[A4 (n:=Int.tdiv k 2)];exact⟨by dsimp only;omega,by dsimp only;omega,by dsimp only;omega,by dsimp only;omega,by dsimp only;omega,by simp,by simp⟩
   .rw[aM.1 hz];exact⟨rfl,by dsimp only;omega,hm⟩
  .simp only[dN]at hc;exact d9 ⟨q3,q4,by dsimp only;omega,q6,by dsimp only;omega,q8⟩
 .obtain⟨z1,z2,z3,z4,z5,z6⟩:=hz;refine(Ajt Sc (by simp[Mt]) z1).bind λy30 h30=>(Agx Sc (by simp[Mt]) h30.2).bind λy32 h32=>ed ⟨⟨⟨⟨by simp,by simp,by dsimp only;omega,z2⟩,?_,h1.1.base.table,⟨Sc,?_,by simp,h30.1,h32.1⟩⟩,h1.1.hull,⟨by simp,by simp[N3,Bt]⟩,by simp[Vv,Bt],h1.1.place,h1.1.head,h1.1.delay,⟨h1.1.opn.1,h1.1.opn.2.1,⟨h1.1.place,by simp[Bt],by simp⟩,h1.1.opn.2.2.2⟩,h1.1.seq,by dsimp only;rw[z3];exact z6,?_⟩,h32.2⟩
  .have hbl:=z4.len;exact⟨by simp,by dsimp only;omega,by simp,by dsimp only;omega,by simp,by simp,by dsimp only;rw[z5];have:=z4.br;rw[z5]at this;exact this,z4.one,z4.any,z4.nodup,g2.so,λi x hx=>(z4.co i x hx).1⟩
  .intro p hp;have h:∀p,p∈Mt->Tl p:=by
    unfold Tl Mt;simp
   exact h p hp
  .intro p hp;have hp:p∈Mt:=hp;unfold yC;dsimp only;rw[z3];simp[Mt]at hp;rcases hp with rfl|rfl|rfl|rfl|rfl|rfl <;> simp
theorem Anj(h:Aes x):F89 x=some 0:=by
 have h1:=h.bow;have h2:=h.stern;have h3:=h.len;unfold F89;have e1:decide ((x.A2.length:Int)>8)=false:=decide_eq_false (by omega);have e2:Ak2 x=false:=by rw[Bool.eq_false_iff];intro e;simp only[Ak2,aS,aa,dM,dQ]at e;omega
 have e3:qC x.A2=some false:=by
  unfold qC Afn;rw[Fq x.A2 0 λj a ha=>?_]
  .rfl
  .unfold Aae Avb;rw[Ags (h.thr a (ag ha))];rfl
 rw[e1,e2,e3];rfl
variable{l:List α}
theorem Aeo{f:Nat->α->Unit->Option (Ctl Unit Int)}(h:∀(j:Nat) x,x∈l->f j x ()=some (.next ())):andThen (foldI f l 0 ()) some (λ_=>some (-1))=some (-1):=by rw[Fq l 0 λj x hx=>h _ x (ag hx)];rfl
theorem zP{γ:Type}{c:γ}{f:Nat->α->Unit->Option (Ctl Unit (Int×γ))}(h:∀(j:Nat) x,x∈l->f j x ()=some (.next ())):andThen (foldI f l 0 ()) some (λ_=>some (-1,c))=some (-1,c):=by rw[Fq l 0 λj x hx=>h _ x (ag hx)];rfl
variable{l:ez}
theorem Am7(hm:0<=m/\m<=1000000)(h:∀x,x∈l -> -m<=x/\x<=m):vV m l=some true:=by
 unfold vV;rw[Fq l 0 λj x hx=>?_]
 .rfl
 .have:=h x (ag hx);unfold Aia Apw;rw[A4 (n:=0-m)];have e:(decide (x<0-m) || decide (x>m))=false:=by simp;omega
  rw[e];rfl
theorem qU(h:L12 l):∃a,vT l=some (a,true):=by
 unfold vT Aaq;rw[Am7 (by omega) h.2]
 match l,h.1 with
 | [_,_,_,_,_,_,_,_,_,_,_,_],_=>exact⟨_,rfl⟩
theorem Akp{c:Fg}(h:W0 c):∃a,Amd c=some (a,true):=by obtain⟨h1,h2,h3⟩:=h;obtain⟨a1,e1⟩:=qU h1;obtain⟨a2,e2⟩:=qU h2;obtain⟨a3,e3⟩:=qU h3;refine⟨⟨a1,a2,a3⟩,?_⟩;unfold Amd;have g0:getI [c.Surge,c.Sway,c.Yaw] 0=some c.Surge:=rfl;have g1:getI [c.Surge,c.Sway,c.Yaw] 1=some c.Sway:=rfl;have g2:getI [c.Surge,c.Sway,c.Yaw] 2=some c.Yaw:=rfl;rw[g0,g1,g2];simp only[aj];rw[e1];simp only[aj,bE,eg];rw[e2];simp only[aj,bE,eg];rw[e3];rfl
theorem Aod{h:H3}(k:Aev h):F87 h=some 0:=by
 obtain⟨⟨h1,h2,h3⟩,h4,h5,h6,h7⟩:=k;unfold Bt at h4 h5 h6 h7;have e:Aa5 h=false:=by simp only[Aa5,aY,dN];omega
 unfold F87;rw[Fq _ 0 λj x hx=>?_]
 .show (bif Aa5 h then some 60 else some 0)=_;rw[e];rfl
 .have hc:W0 x:=by
   have:=ag hx;simp only[ah,aV,or_false]at this;rcases this with rfl|rfl|rfl <;> assumption
  obtain⟨a,ea⟩:=Akp hc;unfold Aqk;rw[ea];rfl
theorem Anp{l:List Br}(h:l.length<=3/\∀r,r∈l->N3 r):F96 l=some 0:=by
 unfold F96 Af8 Afi;rw[Aeo λj x hx=>?_]
 .have e:decide ((l.length:Int)>8)=false:=by simp;omega
  rw[e];rfl
 .have:=h.2 x hx;unfold N3 Bt at this;unfold Aab Al7 Al6 J9;simp[this]
theorem Aoj{g:G5}(h:Vv g):F98 g=some 0:=by
 obtain⟨h1,h2,h3,h4⟩:=h;unfold Bt at h2 h3 h4;have e:Aa4 g=false:=by simp only[Aa4,aY,dN];omega
 unfold F98;rw[Fq _ 0 λj x hx=>?_]
 .show (bif Aa4 g then some 62 else some 0)=_;rw[e];rfl
 .have:=h1 x (ag hx);unfold Bt at this;have e:Ak0 x=false:=by
   simp only[Ak0,aY,dN];omega
  unfold Aqi;rw[e];rfl
theorem Ahe{p:G4}(h:Z4 p):Np p=true:=by unfold Z4 Bt at h;unfold Np;simp;omega
theorem Asx{o:Eb}(h:Alk o):Amq o=some 0:=by
 obtain⟨h1,h2,⟨h3,h4,h5⟩,h6⟩:=h;unfold Bt at h2 h4 h6;have hw:Qm o.Name=some true:=by simp only[qZ,ah,aV,or_false]at h1;rcases h1 with e|e|e <;> rw[e] <;> kernel_rfl
 have e1:Aeg o true=false:=by simp[Aeg,Af7,vW];omega
 have e2:Aed o.Circle=false:=by simp[Aed,Ahe h3];omega
 unfold Amq Al5;rw[hw];simp only[aj];rw[e1,e2];rfl
theorem Asj{s:C6}(h:Aa9 s):Amp s=some 0:=by
 unfold Amp Aa3;have e:(decide (1<=s.Stages.length)&&decide (s.Stages.length<=12))=true:=by simp[h.1]
 rw[e,h.2];rfl
theorem Ahn(h:Ves v):F48 v=some 0:=by
 have hh:=h.head;have hd:=h.delay;unfold Bt at hh hd;have e0:Ae3 v=some (.next 0):=by unfold Ae3;rw[Xa h.base.table];rfl
 have e1:Abh v=some 0:=by unfold Abh;rw[Aod h.hull];rfl
 have e2:Abg v=some 0:=by unfold Abg;rw[Anj h.base.ship];rfl
 have e3:Abf v=some 0:=by unfold Abf;rw[S9 h.base.Ak];rfl
 have e5:Abe v=some 0:=by unfold Abe;rw[Ag5 h.base.des];rfl
 have e6:Abd v=some 0:=by unfold Abd;rw[Anp h.refs];rfl
 have e7:Abc v=some 0:=by unfold Abc;rw[Aoj h.gains];rfl
 have e8:Abb v=some 0:=by unfold Abb;rw[Asx h.opn];rfl
 have e9:qJ v=some 0:=by unfold qJ;rw[Asj h.seq];rfl
 have f1:qH v.Board.Aj v=some (false,v):=by
  unfold qH Af6;rw[zP λj x hx=>?_]
  .rfl
  .have:=h.thr x hx;unfold Aak Agn;have e:decide (x.Thruster>=(v.Ship.A2.length:Int))=false:=by simp;omega
   rw[e];rfl
 have f2:Wc v.Design.Parts v=some (false,v):=by
  unfold Wc Af3;rw[zP λj x hx=>?_]
  .rfl
  .unfold Aai Agm;rw[h.parts x hx];rfl
 have c1:Tw v.Target.Heading=true:=by unfold Tw;simp;omega
 have c2:=Ahe h.place;have c3:decide (v.Delay<0)=false:=by simp;omega
 have c4:decide (v.Delay>600)=false:=by simp;omega
 unfold F48;rw[e0];show Option.bind _ _=_;rw[e1];simp only[aj];rw[e2];simp only[aj];rw[e3];simp only[aj];rw[e5];simp only[aj];rw[e6];simp only[aj];rw[e7];simp only[aj];rw[e8];simp only[aj];rw[e9];simp only[aj];rw[f1,c1,c2,c3,c4];show ((Wc v.Design.Parts v).bind λy29=>bif Aa6 v (false,v) y29 then some 73 else some 0)=_;rw[f2];show (bif Aa6 v (false,v) (false,v)then some 73 else some 0)=_;unfold Aa6;rw[c1,c2,c3,c4];rfl
def uO(f g:Am):Prop:=f.Time<g.Time\/(f.Time=g.Time/\Ew f.Part g.Part=true)
def Io(f:Am):Prop:=Bt 0 f.Time 2147483648/\(f.Kind=1\/f.Kind=2)/\Bt 1 f.Part.Kind 9/\Bt 0 f.Part.Number 63
def Kh(l:List Am)(p:Aa):Int:=l.foldl (λk f=>bif f.Part.Kind==p.Kind&&f.Part.Number==p.Number then f.Kind else k) 2
theorem Y7(l:List Am)(f:Am)(p:Aa):Kh (l++[f]) p=bif Gv f.Part p then f.Kind else Kh l p:=by unfold Kh;rw[bI];rfl
structure Ql(l:List Am):Prop where
 right:∀f,f∈l->Io f
 asc:l.Pairwise uO
 alt:∀(i:Nat) f,l[i]?=some f->f.Kind≠Kh (l.take i) f.Part
variable{l:List Am}
theorem Uw(h:∀f,f∈l->Io f)(p:Aa):Kh l p=1\/Kh l p=2:=by
 have key:∀(l:List Am)(k:Int),(k=1\/k=2)->(∀f,f∈l->Io f)->∀v,l.foldl (λk f=>bif f.Part.Kind==p.Kind&&f.Part.Number==p.Number then f.Kind else k) k=v->v=1\/v=2:=by
  intro l;induction l with
  |nil=>intro k hk _ v e;rw[←e];exact hk
  |cons f l ih=>
   intro k hk hl v e;refine ih _ ?_ (λg hg=>hl g (am _ hg)) v e;show (bif f.Part.Kind==p.Kind&&f.Part.Number==p.Number then f.Kind else k)=1\/(bif f.Part.Kind==p.Kind&&f.Part.Number==p.Number then f.Kind else k)=2;cases f.Part.Kind==p.Kind&&f.Part.Number==p.Number with
   |true=>exact(hl f an).2.1
   |false=>exact hk
 exact key l 2 (.inr rfl) h _ rfl
theorem Ql.snoc(h:Ql l)(hf:Io f)(ha:∀g,g∈l->uO g f)(hk:f.Kind≠Kh l f.Part):Ql (l++[f]) where
 right g hg:=(aw.1 hg).elim (h.right g) λhg=>by rw[aM.1 hg];exact hf
 asc:=c6.2 ⟨h.asc,List.pairwise_singleton _ _,λg hg e he=>by rw[aM.1 he];exact ha g hg⟩
 alt i g hg:=by
  by_cases e:i<l.length
  .rw[ax e]at hg;rw[cE (by omega)];exact h.alt i g hg
  .have hi:i=l.length:=by have:=(ac.1 hg).1;simp at this;omega
   subst hi;rw[aK (ai _),Nat.sub_self]at hg;cases hg;rw[List.take_left];exact hk
theorem Asf(hl:l.length<=60):Ok (F43 l) λy=>y.Pairwise (· < ·)/\(∀t,t∈y->∃f,f∈l/\f.Time=t)/\y.length<=l.length:=by
 unfold F43;refine d_ (A:=λy=>y.Pairwise (· < ·)/\(∀t,t∈y->∃f,f∈l/\f.Time=t)/\y.length<=l.length) (B:=λ(_:Unit)=>False) ?_ (λz hz=>ed hz) ee;refine c9 (I:=λj y=>y.Pairwise (· < ·)/\(∀t,t∈y->∃f,f∈l/\f.Time=t)/\y.length<=j) ⟨cf,by simp,by simp⟩ (λj x z hx hz=>?_) λz hz=>hz;have hj:=(ac.1 hx).1;have hxm:=ag hx;obtain⟨h1,h2,h3⟩:=hz;unfold Aqz;refine Ok.inner (A:=λv=>∃k:Nat,v=(k:Int)/\k<=z.length/\(∀(i:Nat) t,i<k->z[i]?=some t->t<x.Time)/\∀t,z[k]?=some t->¬t<x.Time) (B:=λ(_:Unit)=>False) ?_ (λv hv=>?_) ee
 .refine d4 (λv=>∃k:Nat,v=(k:Int)/\k<=z.length/\∀(i:Nat) t,i<k->z[i]?=some t->t<x.Time) (λv=>(z.length-v).toNat) _ _ ⟨0,rfl,by omega,by omega⟩ (by omega) λv hv=>?_;obtain⟨k,rfl,q1,q2⟩:=hv;unfold Aqy;by_cases hk:k<z.length
  .have hd:decide ((k:Int)<(z.length:Int))=true:=by simp;omega
   have hg:z[k]?=some (z[k]'hk):=ak hk;rw[Dg hg];refine ec (P:=λy=>y=z[k]'hk) (d7 (λ_=>ed rfl) λhn=>(hn ⟨hd,trivial⟩).elim) λy hy=>?_;subst hy;unfold Ad8;rw[hd,ce];refine c7 (λhc=>?_) (λhc=>d9 ⟨k,rfl,q1,q2,λt ht=>?_⟩)
   .simp only[dM]at hc;rw[A4 (n:=(k:Int)+1)];refine c8 ⟨⟨k+1,by omega,hk,λi t hi ht=>?_⟩,by omega⟩;by_cases e:i=k
    .subst e;rw[hg]at ht;cases ht;exact hc
    .exact q2 i t (by omega) ht
   .rw[hg]at ht;cases ht;simpa using hc
  .have hd:decide ((k:Int)<(z.length:Int))=false:=by simp;omega
   refine ec (P:=λ_=>True) (de (λhh=>absurd hh.1 (by rw[hd];simp)) λ_=>trivial) λy _=>?_;unfold Ad8;rw[hd,Bool.false_and];exact d9 ⟨k,rfl,q1,q2,λt ht=>by have:=(ac.1 ht).1;omega⟩
 .obtain⟨k,rfl,q1,q2,q3⟩:=hv;refine ec (P:=λy=>∀t,z[k]?=some t->y=t) (d7 (λhh=>(d5 (by omega) (by have:¬((k:Int)=(z.length:Int)):=(by simpa using hh.1);omega)).mono λy hy t ht=>by rw[aG,ht]at hy;cases hy;rfl) λhn t ht=>?_) λy hy=>?_
  .exfalso;have:=(ac.1 ht).1;exact hn ⟨by simp;omega,trivial⟩
  .refine c7 (λhc=>?_) (λhc=>c8 ⟨h1,h2,by omega⟩);have e1:(z.drop (Int.toNat (k:Int))).take ((Int.toNat (z.length:Int))-(Int.toNat (k:Int)))=z.drop k:=by
    rw[aG,aG,bY (by simp)]
   have e2:z.take ((Int.toNat (k:Int))-0)=z.take k:=by rw[aG,Nat.sub_zero]
   rw[e1,e2];refine(Ok.bndI (by omega) (by omega) (by omega)).bind λ_ _=>(Ok.bndI (by omega) (by omega) (by omega)).bind λ_ _=>(d6 (by simp;omega)).bind λu hu=>(d6 (by rw[hu];simp;omega)).bind λw hw=>c8 ?_;subst hu;subst hw;have lo:∀t,t∈z.take k->t<x.Time:=λt ht=>by
    obtain⟨i,hi⟩:=bC ht;rw[ap]at hi;split at hi
    .exact q2 i t (by assumption) hi
    .cases hi
   have hi:∀t,t∈z.drop k->x.Time<t:=λt ht=>by
    have hkl:k<z.length:=by
     rcases aR k z.length with hh|hh
     .exact hh
     .rw[List.drop_eq_nil_of_le hh]at ht;cases ht
    have hg:z[k]?=some (z[k]'hkl):=ak hkl;have n1:=q3 _ hg;have n2:=hy _ hg;have n3:z[k]'hkl≠x.Time:=by
     unfold Apo at hc;rw[←n2];have:¬((k:Int)=(z.length:Int)):=by omega
     simpa[this]using hc
    rw[cR hkl]at ht;rcases ah.1 ht with rfl|ht
    .omega
    .have hp:=(aI.1 (by have:=h1.drop (i:=k);rwa [cR hkl]at this)).1 t ht;omega
   refine⟨?_,λt ht=>?_,by simp;omega⟩
   .rw[c6];refine⟨h1.take,aI.2 ⟨hi,h1.drop⟩,λa ha c hc2=>?_⟩;rcases ah.1 hc2 with rfl|hc2
    .exact lo a ha
    .have:=lo a ha;have:=hi c hc2;omega
   .rcases aw.1 ht with ht|ht
    .exact h2 t (bc ht)
    .rcases ah.1 ht with rfl|ht
     .exact⟨x,hxm,rfl⟩
     .exact h2 t (cx ht)
theorem Aok(hl:l.length<=60):Ok (F44 l) λy=>Fe y/\(∀p,p∈y->∃f,f∈l/\f.Part=p)/\y.length<=l.length:=by
 unfold F44;refine d_ (A:=λy=>Fe y/\(∀p,p∈y->∃f,f∈l/\f.Part=p)/\y.length<=l.length) (B:=λ(_:Unit)=>False) ?_ (λz hz=>ed hz) ee;refine c9 (I:=λj y=>Fe y/\(∀p,p∈y->∃f,f∈l/\f.Part=p)/\y.length<=j) ⟨cf,by simp,by simp⟩ (λj x z hx hz=>?_) λz hz=>hz;have hj:=(ac.1 hx).1;obtain⟨h1,h2,h3⟩:=hz;unfold Aqv;rw[qN h1 (by omega)];refine c8 ⟨Lw _ h1,λp hp=>?_,?_⟩
 .rcases(Jg _ _ _).1 hp with rfl|hp
  .exact⟨x,ag hx,rfl⟩
  .exact h2 p hp
 .have:=X4 x.Part z;omega
theorem Aiz{l:List Aa}(hl:l.length<=1000)(p:Aa):F47 l p=some (l.filter λx=>!Gv x p):=by
 refine di ?_;unfold F47;refine d_ (A:=λy=>y=l.filter λx=>!Gv x p) (B:=λ(_:Unit)=>False) ?_ (λz hz=>ed hz) ee;refine c9 (I:=λj y=>y=(l.take j).filter λx=>!Gv x p) rfl (λj x z hx hz=>?_) λz hz=>by rw[be]at hz;exact hz
 have hj:=(ac.1 hx).1;have hle:z.length<=j:=by rw[hz];have:=bP (λx=>!Gv x p) (l.take j);simp at this ⊢;omega
 have e:Ak4 p x = !Gv x p:=by unfold Ak4;rw[Lq]
 unfold Aqu;rw[Dj hx,bQ,←hz,e];cases hq:(!Gv x p) with
 |true=>exact(d6 (by simp;omega)).bind λy hy=>c8 (by rw[hy];simp[hq])
 |false=>exact c8 (by simp[hq])
structure Qj(out:List Am)(br:List Aa):Prop where
 fau:Ql out
 asc:Fe br
 len:br.length<=out.length
 has:∀p,La br p=(Kh out p==1)
theorem Anm(h:Io f):F42 f=true:=by obtain⟨h1,h2,h3,h4⟩:=h;unfold Bt at h1 h3 h4;unfold F42 F84;simp;omega
theorem A70:Qj [] []:=⟨⟨by simp,cf,by simp⟩,show Fe [] from cf,by simp,λ_=>rfl⟩
theorem Qj.step{out:List Am}(u:Qj out br)(hf:Io f)(ha:∀g,g∈out->uO g f)(hk:(f.Kind==1)≠La br f.Part) :
  (f.Kind=1->Qj (out++[f]) (K_ f.Part br))/\(f.Kind=2->Qj (out++[f]) (br.filter λx=>!Gv x f.Part)):=by
 have h2:=Uw u.fau.right f.Part;have hne:f.Kind≠Kh out f.Part:=λe=>hk (by rw[u.has,e]);have hF:=u.fau.snoc hf ha hne;have eqP:∀p,Gv f.Part p=true->p=f.Part:=λp h=>(Hb.1 h).symm;refine⟨λe=>⟨hF,Lw _ u.asc,?_,λp=>?_⟩,λe=>⟨hF,u.asc.sublist List.filter_sublist,?_,λp=>?_⟩⟩
 .have:=X4 f.Part br;have:=u.len;simp;omega
 .rw[Y7,cv,Oz,Jg];cases hp:Gv f.Part p with
  |true=>simp[eqP p hp,e]
  |false=>
   have:p≠f.Part:=λe=>by rw[e]at hp;have:=Hb.2 (rfl:f.Part=f.Part);rw[hp]at this;cases this
   rw[←Oz,u.has];simp[this]
 .have:=bP (λx=>!Gv x f.Part) br;have:=u.len;simp at this ⊢;omega
 .rw[Y7,cv,Oz,aH];cases hp:Gv f.Part p with
  |true=>rw[eqP p hp];simp[e,Hb.2 (rfl:f.Part=f.Part)]
  | false=>
   have:Gv p f.Part=false:=by
    cases hq:Gv p f.Part with
    |false=>rfl
    |true=>rw[Hb.1 hq,Hb.2 rfl]at hp;cases hp
   rw[←Oz,u.has,this];simp
theorem Anv(hl:l.length<=3)(hr:∀f,f∈l->Io f):Ok (F19 l) λy=>Ql y.1/\y.1.length<=24:=by
 have e1:decide ((l.length:Int)>60)=false:=by simp;omega
 unfold F19;rw[Fq l 0 λj x hx=>by unfold Arw;rw[Anm (hr x (ag hx))];rfl];show Ok (bif decide ((l.length:Int)>60)then _ else _) _;rw[e1];refine(Asf (by omega)).bind λT hT=>?_;obtain⟨t1,t2,t3⟩:=hT;refine d_ (A:=λz=>Qj z.1 z.2/\z.1.length<=9) (B:=λ(_:Unit)=>False) ?_ (λz hz=>c7 (λhc=>by simp at hc;omega) λ_=>ed ⟨hz.1.fau,by dsimp only;omega⟩) ee;refine c9 (I:=λj z=>Qj z.1 z.2/\z.1.length<=3*j/\∀f,f∈z.1->∃i:Nat,i<j/\T[i]?=some f.Time) ⟨A70,by simp,by simp⟩ (λj t z hx hz=>?_) λz hz=>⟨hz.1,by omega⟩;have hj:=(ac.1 hx).1;obtain⟨z1,z2,z3⟩:=hz;obtain⟨f0,hf0,ht0⟩:=t2 t (ag hx);unfold Arv;refine(Aok (by omega)).bind λP hP=>?_;obtain⟨p1,p2,p3⟩:=hP;refine Ok.inner (A:=λz=>Qj z.1 z.2/\z.1.length<=3*(j+1)/\∀f,f∈z.1->∃i:Nat,i<j+1/\T[i]?=some f.Time) (B:=λ(_:Unit)=>False) ?_ (λz hz=>c8 hz) ee;refine c9 (I:=λk z=>Qj z.1 z.2/\z.1.length<=3*j+k/\∀f,f∈z.1->(∃i:Nat,i<j/\T[i]?=some f.Time)\/(f.Time=t/\∃i:Nat,i<k/\P[i]?=some f.Part)) ⟨z1,by omega,λf hf=>.inl (z3 f hf)⟩ (λk p z hp hz=>?_) λz hz=>⟨hz.1,by have:=hz.2.1;omega,λf hf=>?_⟩
 rotate_left
 .rcases hz.2.2 f hf with⟨i,hi,hi2⟩|⟨hi,_⟩
  .exact⟨i,by omega,hi2⟩
  .exact⟨j,by omega,by rw[hi];exact hx⟩
 have hk:=(ac.1 hp).1;obtain⟨u1,u2,u3⟩:=hz;obtain⟨fp,hfp,hpp⟩:=p2 p (ag hp);unfold Aru;refine Ok.inner (A:=λv=>v=0\/v=1\/v=2) (B:=λ(_:Unit)=>False) ?_ (λv hv=>?_) ee
 .refine c9 (I:=λ_ v=>v=0\/v=1\/v=2) (.inl rfl) (λm f v hm hv=>?_) λv hv=>hv;unfold Art;exact c7 (λ_=>c8 (.inr (hr f (ag hm)).2.1)) (λ_=>c8 hv)
 have stay:Qj z.1 z.2/\z.1.length<=3*j+(k+1)/\∀f,f∈z.1->(∃i:Nat,i<j/\T[i]?=some f.Time)\/(f.Time=t/\∃i:Nat,i<k+1/\P[i]?=some f.Part):=⟨u1,by omega,λf hf=>(u3 f hf).imp id λ⟨e,i,hi,h⟩=>⟨e,i,by omega,h⟩⟩;rw[Ati];rcases hv with rfl|hv
 .exact ec (P:=λ_=>True) (de (λ_=>ed trivial) λ_=>trivial) λ_ _=>c7 (λ_=>c8 stay) λhc=>by simp at hc
 .have hv0:(v==0)=false:=by rw[dR];omega
  rw[hv0];refine ec (P:=λy=>y=La z.2 p) (ed rfl) λy hy=>?_;subst hy;refine c7 (λ_=>c8 stay) λhc=>?_;rw[bU,dR]at hc;have hRp:Io ⟨t,v,p⟩:=by have q1:=hr f0 hf0;have q2:=hr fp hfp;exact⟨by rw[←ht0];exact q1.1,hv,by rw[←hpp];exact q2.2.2.1,by rw[←hpp];exact q2.2.2.2⟩
  have hlt:∀g,g∈z.1->uO g ⟨t,v,p⟩:=λg hg=>by
   rcases u3 g hg with⟨i,hi,hi2⟩|⟨e,i,hi,hi2⟩
   .left;obtain⟨ha,ea⟩:=ac.1 hi2;obtain⟨hb,eb⟩:=ac.1 hx;have:=cu.1 t1 i j ha hb hi;dsimp only;omega
   .right;exact⟨e,Vp p1 hi2 hp hi⟩
  obtain⟨s1,s2⟩:=u1.step hRp hlt hc;have mem:∀f,f∈z.1++[(⟨t,v,p⟩:Am)]->(∃i:Nat,i<j/\T[i]?=some f.Time)\/(f.Time=t/\∃i:Nat,i<k+1/\P[i]?=some f.Part):=λf hf=>by
   rcases aw.1 hf with hf|hf
   .exact stay.2.2 f hf
   .rw[aM.1 hf];exact .inr ⟨rfl,k,by omega,hp⟩
  refine(d6 (by simp;omega)).bind λo ho=>?_;subst ho;have hbl:=u1.len;rcases hv with rfl|rfl
  .refine c7 (λ_=>?_) (λhc=>by simp at hc);rw[qN u1.asc (by omega)];exact c8 ⟨s1 rfl,by simp;omega,mem⟩
  .refine c7 (λhc=>by simp at hc) (λ_=>?_);rw[Aiz (by omega)];exact c8 ⟨s2 rfl,by simp;omega,mem⟩
theorem A2f{g:Am}(h:uO f g):∃v,Amg f g=some v/\v<0:=by
 unfold Amg;rcases h with h|⟨h1,h2⟩
 .have hc:∀a b:Aa,∃v,Mf a b=some v:=λa b=>by
   unfold Mf;rw[Nu];exact⟨_,rfl⟩
  obtain⟨v,hv⟩:=hc f.Part g.Part;rw[hv];simp only[aj];rw[Nu,M5];refine⟨_,rfl,?_⟩;simp[h]
 .rw[Wv h2,h1];simp only[aj];rw[Nu,M5];exact⟨_,rfl,by simp⟩
theorem Aom(n:Nat)(hn:n<=l.length)(h:l.length<=24):cutI l 0 (cnt 0 n)=some (l.take n):=by rw[E_];refine di ((Ok.cutI (by omega) (by omega) (by omega)).mono λy hy=>?_);rw[hy,aG];rfl
theorem Aon(h:Ql l)(h0:1<=k)(hk:k<l.length):∃f g,getI l ((k:Int)-1)=some f/\getI l (k:Int)=some g/\uO f g:=by
 have e:(k:Int)-1=((k-1:Nat):Int):=by omega
 refine⟨l[k-1],l[k],by rw[e];exact Dg (ak (by omega)),Dg (ak hk),?_⟩;exact cu.1 h.asc (k-1) k (by omega) hk (by omega)
theorem A38(h:Io f):Afs f=true:=by obtain⟨h1,h2,h3,h4⟩:=h;unfold Bt at h1 h3 h4;unfold Afs V2;simp;omega
theorem A2h(h:Ql l)(hl:l.length<=24):F68 l=some 0:=by
 have e1:decide ((l.length:Int)>24)=false:=by simp;omega
 have e2:Amh l=some false:=by unfold Amh Aft Ae9;rw[Aeo λj x hx=>by unfold zV Al0;rw[A38 (h.right x hx)];rfl];rfl
 refine di ?_;unfold F68;rw[e1,e2];simp only[aj,eg];refine d_ (A:=λ_=>True) (B:=λ(_:Int)=>False) ?_ (λ_ _=>?_) ee
 .refine d4 (λz=>∃k:Nat,z=(k:Int)/\1<=k/\k<=25) (λz=>(25-z).toNat) _ _ ⟨1,rfl,by omega,by omega⟩ (by omega) λz hz=>?_;obtain⟨k,rfl,h0,h1⟩:=hz;unfold Aqn;refine c7 (λhc=>?_) (λ_=>d9 trivial);simp only[dM]at hc;obtain⟨f,g,g1,g2,g3⟩:=Aon h h0 (by omega);obtain⟨v,v1,v2⟩:=A2f g3;rw[A4 (n:=(k:Int)-1),g1,g2];simp only[aj];rw[v1];simp only[aj];refine c7 (λhc=>by simp at hc;omega) λ_=>?_;rw[A4 (n:=(k:Int)+1)];exact c8 ⟨⟨k+1,by omega,by omega,by omega⟩,by omega⟩
 .refine d_ (A:=λ_=>True) (B:=λ(_:Int)=>False) ?_ (λ_ _=>ed rfl) ee;refine c9 (I:=λ_ _=>True) trivial (λj f s hx _=>?_) λ_ _=>trivial;have hj:=(ac.1 hx).1;have hk:=h.alt j f hx;have h1:=Uw (l:=l.take j) (λg hg=>h.right g (bc hg)) f.Part;have h2:=(h.right f (ag hx)).2.1;have hlast:Avc (l.take j) f.Part=some (Kh (l.take j) f.Part):=rfl;unfold Aqm;rw[Aom j (by omega) hl];simp only[aj];rw[hlast];refine c7 (λhc=>?_) λ_=>c8 trivial;unfold Amf at hc;rw[A4 (n:=3-Kh (l.take j) f.Part)]at hc;simp only[bne_iff_ne]at hc;omega
theorem Aol(a:Am):∀(l:List Am)(k:Int)(n:Nat),foldI (V3 a) l n (k==1)=some (.next (l.foldl (λk f=>bif f.Part.Kind==a.Part.Kind&&f.Part.Number==a.Part.Number then f.Kind else k) k==1))
 | [],_,_=>rfl
 | f::l,k,n=>by
  have e:V3 a n f (k==1)=some (.next ((bif f.Part.Kind==a.Part.Kind&&f.Part.Number==a.Part.Number then f.Kind else k)==1)):=by unfold V3 A0t;rw[bM];cases f.Part.Kind==a.Part.Kind&&f.Part.Number==a.Part.Number <;> rfl
  rw[bq,←Aol a l _ (n+1)];simp only[foldI,e]
theorem Ast(h:Ql l)(hl:l.length<=24):F24 l=some 0:=by
 have e1:decide ((l.length:Int)>24)=false:=by simp;omega
 refine di ?_;unfold F24;rw[e1,Fq l 0 λj x hx=>by unfold Aq9;rw[Anm (h.right x (ag hx))];rfl];refine d_ (A:=λ_=>True) (B:=λ(_:Int)=>False) ?_ (λ_ _=>?_) ee
 .refine d4 (λz=>∃k:Nat,z=(k:Int)/\1<=k/\k<=25) (λz=>(25-z).toNat) _ _ ⟨1,rfl,by omega,by omega⟩ (by omega) λz hz=>?_;obtain⟨k,rfl,h0,h1⟩:=hz;unfold Aq8;refine c7 (λhc=>?_) (λ_=>d9 trivial);simp only[dM]at hc;obtain⟨f,g,g1,g2,g3⟩:=Aon h h0 (by omega);rw[A4 (n:=(k:Int)-1),g1,g2,A4 (n:=(k:Int)+1)];simp only[aj];refine ec (P:=λy=>¬f.Time<g.Time->y=f) (d7 (λ_=>ed λ_=>rfl) λhn hh=>(hn ⟨by simpa using hh,trivial⟩).elim) λy8 q8=>?_;refine ec (P:=λy=>¬f.Time<g.Time->y=g) (d7 (λ_=>ed λ_=>rfl) λhn hh=>(hn ⟨by simpa using hh,trivial⟩).elim) λy10 q10=>?_;refine ec (P:=λy=>¬f.Time<g.Time->y8.Time=y10.Time->y=f) (d7 (λ_=>ed λ_ _=>rfl) λhn hh h2=>(hn ⟨by simpa using hh,by simpa using h2,trivial⟩).elim) λy12 q12=>?_;refine ec (P:=λy=>¬f.Time<g.Time->y8.Time=y10.Time->y=g) (d7 (λ_=>ed λ_ _=>rfl) λhn hh h2=>(hn ⟨by simpa using hh,by simpa using h2,trivial⟩).elim) λy14 q14=>?_;refine c7 (λhc2=>?_) λ_=>c8 ⟨⟨k+1,by omega,by omega,by omega⟩,by omega⟩;exfalso;unfold A0u at hc2;rcases g3 with g3|⟨g3,g4⟩
  .simp[g3]at hc2
  .have hn:¬f.Time<g.Time:=by omega
   have a1:=q8 hn;have a2:=q10 hn;have e:y8.Time=y10.Time:=by rw[a1,a2];exact g3
   rw[q12 hn e,q14 hn e,a1,a2,A49,g4,g3]at hc2;simp at hc2
 .refine d_ (A:=λ_=>True) (B:=λ(_:Int)=>False) ?_ (λ_ _=>ed rfl) ee;refine c9 (I:=λ_ _=>True) trivial (λj f s hx _=>?_) λ_ _=>trivial;have hj:=(ac.1 hx).1;have hk:=h.alt j f hx;have h1:=Uw (l:=l.take j) (λg hg=>h.right g (bc hg)) f.Part;have h2:=(h.right f (ag hx)).2.1;unfold Aq7;rw[Aom j (by omega) hl];simp only[aj];have hf:foldI (V3 f) (l.take j) 0 false=some (.next (Kh (l.take j) f.Part==1)):=Aol f (l.take j) 2 0;rw[hf];refine c7 (λhc=>?_) λ_=>c8 trivial;exfalso;rw[dQ,cv,dQ,dQ]at hc;omega
theorem Apg(hp:A7 b p)(hj:j<b.Ag.length):p.Al[j]?=some (p.Al.getD j false):=by have:=hp.ncl;rw[ak (by omega)];simp[List.getD,List.getElem?_eq_getElem (show j<p.Al.length by omega)]
variable{x:Ai}
theorem A6v(hx:b.Ag[j]?=some x):b.Ag.getD j default=x:=by simp[List.getD,hx]
def InC(n:Nat)(d:ez):Prop:=d.length=n/\∀x,x∈d->0<=x/\x<(n:Int)
theorem InC.get(h:InC n d){j:Int}(h0:0<=j)(h1:j<n):Ok (getI d j) λv=>0<=v/\v<(n:Int):=(d5 h0 (by have:=h.1;omega)).mono λ_ hv=>h.2 _ (ag hv)
theorem InC.set(h:InC n d){j v:Int}(h0:0<=j)(h1:j<n)(hv:0<=v/\v<(n:Int)):Ok (setI d j v) (InC n):=(db h0 (by have:=h.1;omega)).mono λy hy=>by
 subst hy;refine⟨by simpa using h.1,λx hx=>?_⟩;rcases bW hx with hx|hx
 .exact h.2 x hx
 .rw[hx];exact hv
theorem Ath(h:A1 b){i:Int}(h0:0<=i)(hi:i<b.Aj.length)(hd:InC b.Aj.length d) :
  Ok (whileN (Vw 0 b) 1152921504606846976 (i,d)) (Hg (λs=>InC b.Aj.length s.2) λ(_:Unit)=>False):=by
 have hcl:=h.col;refine d4 (λs=>(0<=s.1/\s.1<=i)/\InC b.Aj.length s.2) (λs=>s.1.toNat) _ _ ⟨⟨h0,Int.le_refl _⟩,hd⟩ (by dsimp only;omega) ?_;rintro⟨j,d⟩ ⟨⟨j0,j1⟩,hI⟩;dsimp only at j0 j1 hI;unfold Vw;dsimp only;by_cases hj:0<j
 .have e2:w64 (j-1)=j-1:=A4;rw[e2];refine ec (P:=λv=>0<=v/\v<(b.Aj.length:Int)) (d7 (λ_=>hI.get (by omega) (by omega)) λhn=>(hn ⟨by simpa using hj,trivial⟩).elim) λv hv=>?_;refine ec (P:=λv=>0<=v/\v<(b.Aj.length:Int)) (d7 (λ_=>hI.get (by omega) (by omega)) λhn=>(hn ⟨by simpa using hj,trivial⟩).elim) λu hu=>?_;refine ec (P:=λ_=>True) (de (λ_=>?_) λ_=>trivial) λ_ _=>?_
  .unfold Afv;exact(dk hv.1 hv.2).bind λ_ _=>(dk hu.1 hu.2).bind λ_ _=>ed trivial
  refine c7 (λ_=>?_) (λ_=>d9 hI);refine(hI.get (by omega) (by omega)).bind λv1 hv1=>(hI.get (by omega) (by omega)).bind λv2 hv2=>(hI.set (by omega) (by omega) hv1).bind λd2 hd2=>(hd2.get (by omega) (by omega)).bind λ_ _=>(hd2.set (by omega) (by omega) hv2).bind λd3 hd3=>c8 ⟨⟨⟨by dsimp only;omega,by dsimp only;omega⟩,hd3⟩,by dsimp only;omega⟩
 .have e1:j=0:=by omega
  subst e1;exact d9 hI
def Lt(b:Ae):ez:=(Yp b).getD []
theorem Ace(h:A1 b):Yp b=some (Lt b)/\InC b.Aj.length (Lt b):=by
 have hcl:=h.col;have key:Ok (Yp b) λy=>InC b.Aj.length y:=by
  unfold Yp;rw[S9 h];simp only[aj];refine c7 (λhc=>by simp at hc) (λ_=>?_);refine d_ (A:=λs=>InC b.Aj.length s.2) (B:=λ(_:Unit)=>False) ?_ (λs hs=>?_) ee
  .refine d4 (λs=>((0<=s.1/\s.1<=(b.Aj.length:Int))/\(s.2.length:Int)=s.1)/\∀x,x∈s.2->0<=x/\x<(b.Aj.length:Int)) (λs=>(100-s.1).toNat) _ _ ⟨⟨⟨by dsimp only;omega,by dsimp only;omega⟩,by simp⟩,λx hx=>by cases hx⟩ (by dsimp only;omega) ?_;rintro⟨z,d⟩ ⟨⟨⟨z0,z1⟩,hl⟩,hd⟩;dsimp only at z0 z1 hl hd;unfold Aik Ap3;dsimp only;refine c7 (λhq=>?_) (λhq=>d9 ?_)
   .simp only[dM]at hq;rw[A4 (n:=z+1)];refine(d6 (by simp;omega)).bind λy hy=>c8 ⟨⟨⟨⟨by dsimp only;omega,by dsimp only;omega⟩,by rw[hy];simp;omega⟩,λx hx=>?_⟩,by dsimp only;omega⟩;rw[hy]at hx;rcases aw.1 hx with hx|hx
    .exact hd x hx
    .rw[aM]at hx;omega
   .simp only[dN]at hq;exact⟨by dsimp only;omega,hd⟩
  .have hn:=hs.1;refine ec (P:=λy=>InC b.Aj.length y.1) ?_ λy hy=>ed hy;unfold Afw Afb;refine ec (P:=λy=>InC b.Aj.length y.1) ?_ λy hy=>ed hy;refine d_ (A:=λt=>t=((0:Int),(20:Int),s.2,b.Ap,b.Ag,b.Ad,b.Aj,b.Phase,b.Ax)) (B:=λ(_:Unit)=>False) ?_ (λt ht=>?_) ee
   .refine d4 (λt=>t=((0:Int),(20:Int),s.2,b.Ap,b.Ag,b.Ad,b.Aj,b.Phase,b.Ax)) (λ_=>0) _ _ rfl (by omega) ?_;intro t ht;subst ht;unfold zY;dsimp only;refine c7 (λhq=>?_) (λ_=>d9 rfl);simp only[dM]at hq;omega
   .subst ht;dsimp only;refine ec (P:=λy=>InC b.Aj.length y.1) ?_ λy hy=>?_
    .unfold Z7;have e1:w64 (0+1)=1:=by rw[A4];rfl
     rw[e1];refine d_ (A:=λt=>InC b.Aj.length t.2) (B:=λ(_:Unit)=>False) ?_ (λt ht=>ed ht) ee;refine d4 (λt=>(1<=t.1/\t.1<=50)/\InC b.Aj.length t.2) (λt=>(100-t.1).toNat) _ _ ⟨⟨by dsimp only;omega,by dsimp only;omega⟩,hs⟩ (by dsimp only;omega) ?_;rintro⟨z,d⟩ ⟨⟨z0,z1⟩,hd⟩;dsimp only at z0 z1 hd;unfold zS;dsimp only;refine c7 (λhq=>?_) (λ_=>d9 hd);simp only[dM]at hq;rw[hn]at hq;refine Ok.inner (Ath h (by omega) hq hd) (λt ht=>?_) ee;rw[A4 (n:=z+1)];exact c8 ⟨⟨⟨by dsimp only;omega,by dsimp only;omega⟩,ht⟩,by dsimp only;omega⟩
    .refine d_ (A:=λ_=>True) (B:=λ(_:Unit)=>False) ?_ (λt _=>ed hy) ee;refine d4 (λ_=>True) (λ_=>0) _ _ trivial (by omega) ?_;intro t _;unfold zX;refine c7 (λhq=>?_) (λ_=>d9 trivial);simp only[dM]at hq;omega
 obtain⟨r,e,hr⟩:=key;have:Lt b=r:=by unfold Lt;rw[e];rfl
 rw[this];exact⟨e,hr⟩
theorem A12(g:Bool)(v d:α):Aw [(g,true)] (some v) d=some (bif g then v else d):=by cases g <;> rfl
theorem A31(h:i<b.Ad.length):b.Ad[i]?=some (b.Ad.getD i default):=by rw[ak h];simp[List.getD,List.getElem?_eq_getElem h]
theorem A2k(h:A1 b)(hx:b.Ag[k]?=some x):(0<=x.A/\x.A<b.Ap)/\(x.Kind=1->x.A<x.B/\x.B<b.Ap):=by have:=h.br x (ag hx);unfold Ty at this;exact⟨this.1,λe=>by omega⟩
def brN(b:Ae)(i:Nat):Nat:=(Mm b (i:Int)).toNat
theorem Aeh(h:A1 b)(hi:i<b.Ad.length):Mm b (i:Int)=(brN b i:Int)/\brN b i<b.Ag.length/\(b.Ag.getD (brN b i) default).Kind=2/\(b.Ag.getD (brN b i) default).B=(i:Int)/\b.Ag[brN b i]?=some (b.Ag.getD (brN b i) default):=by
 obtain⟨j,x,e,hx,hk,hB,_⟩:=Nz h (i:=(i:Int)) (by omega) (by omega);have hj:=(ac.1 hx).1;have:brN b i=j:=by unfold brN;omega
 rw[this,A6v hx];exact⟨e,hj,hk,hB,hx⟩
def cl(C:eB):Nat:=C.count true
theorem A0n(C:eB):cl C<=C.length:=List.count_le_length
theorem A0m:∀(C:eB)(k:Nat),k<C.length->C.getD k false=false->cl (C.set k true)=cl C+1
 | [],k,h,_=>by simp at h
 |c::C,0,_,h=>by have h:c=false:=h;subst h;simp[cl]
 |c::C,k+1,h,h2=>by have:=A0m C k (by simpa using h) h2;unfold cl at this ⊢;simp only[List.set_cons_succ,List.count_cons];omega
abbrev aW:Be:=⟨7,0,0⟩
abbrev Na(b:Ae)(w:Af)(g:eB)(as:List Be):Av:=⟨b,w,g,as⟩
theorem A61(hw:A7 b w)(ha:as.length<=100000)(kd:Int)(hk:k<b.Ag.length):P2 ⟨b,w,g,as⟩ kd (k:Int)=some ⟨b,⟨w.Al.set k (kd==1),w.Ad,w.A0,w.Ao⟩,g,as++[⟨kd,(k:Int),0⟩]⟩:=by have hn:=hw.ncl;refine di ?_;unfold P2;refine(d6 (by simp;omega)).bind λy hy=>(d5 (by omega) (by dsimp only;omega)).bind λ_ _=>(db (by omega) (by dsimp only;omega)).bind λz hz=>ed ?_;rw[hy,hz,aG]
theorem Zp(c:α->α->Bool){f:Nat->α->Unit->Option (Ctl Unit Bool)}{l m:List α}(hf:∀j x,f j x ()=(getI m (cnt 0 j)).bind λy=>bif c x y then some (.ret false) else some (.next ()))(hl:l.length<=1000:=by omega):Ok (bif ((l.length:Int) != (m.length:Int))then some false else andThen (foldI f l 0 ()) some λ_=>some true) λ_=>True:=by refine c7 (λ_=>ed trivial) λhq=>?_;simp only[dV]at hq;refine d_ (A:=λ_=>True) (B:=λ(_:Bool)=>True) ?_ (λ_ _=>ed trivial) (λ_ _=>ed trivial);refine c9 (I:=λ_ _=>True) trivial (λj x s hx _=>?_) λ_ _=>trivial;have hj:=(ac.1 hx).1;rw[hf,E_];exact(dk (by omega)).bind λ_ _=>c7 (λ_=>Ok.ret trivial) λ_=>c8 trivial
theorem Asn(hp:A69 p)(q:Af):Ok (F54 p q) λ_=>True:=by have h1:=hp.c;have h2:=hp.s;have h3:=hp.l;have h4:=hp.k;unfold F54 Avg Agh Avf Agg;exact(Zp _ (λ_ _=>rfl)).bind λ_ _=>ec (P:=λ_=>True) (de (λ_=>Zp _ (λ_ _=>rfl)) λ_=>trivial) λ_ _=>ec (P:=λ_=>True) (de (λ_=>Zp _ (λ_ _=>rfl)) λ_=>trivial) λ_ _=>ec (P:=λ_=>True) (de (λ_=>Zp _ (λ_ _=>rfl)) λ_=>trivial) λ_ _=>ed trivial
def A4q(n:Nat):Bool:=!(Ap5 [aW] (n:Int))&&(w64 ((H8 (IntKind.wrap .u64 (([aW].length:Nat):Int)) (IntKind.wrap .u64 (n:Int))).2)==(n:Int))
theorem A4r:(List.range 601).all A4q=true:=by kernel_rfl
theorem A1i{n:Int}(h0:0<=n)(h:n<=600):Ok (Aml [aW] n) λy=>y.length<=600:=by
 obtain⟨n,rfl⟩:∃k:Nat,n=(k:Int):=⟨n.toNat,by omega⟩;have hm:=aD.1 A4r n (bT.2 (by omega));unfold A4q at hm;simp only[aa,aO,dQ]at hm;unfold Aml;refine d_ (A:=λ_=>True) (B:=λ(_:Unit)=>False) ?_ (λ_ _=>?_) ee
 .unfold Aim;exact c7 (λhc=>by simp only[dM]at hc;omega) λ_=>dj trivial
 refine d_ (A:=λ_=>True) (B:=λ(_:Unit)=>False) ?_ (λ_ _=>?_) ee
 .unfold Ail;exact c7 (λhc=>by rw[hm.1]at hc;cases hc) λ_=>dj trivial
 rw[hm.2];refine(Ok.mkI (by omega) (by omega)).bind λy hy=>?_;have hyl:y.length=n:=by rw[hy];simp
 have cpl:∀(l m:List Be)(k:Nat),k<=l.length->(J8 l k (l.length-k) m).length=l.length:=λl m k hk=>by unfold J8;rw[aP,aP,aN,aN,bJ];have e:Nat.min m.length (l.length-k)=min m.length (l.length-k):=rfl;omega
 refine d_ (A:=λ(s:Int×List Be)=>s.2.length=n) (B:=λ(_:Unit)=>False) ?_ (λs hs=>ed (by omega)) ee;refine d4 (λ(s:Int×List Be)=>∃k:Nat,s.1=(k:Int)/\s.2.length=n/\k<=n/\(0<k\/n=0)) (λs=>((n:Int)-s.1).toNat) _ _ ?_ (by dsimp only;omega) ?_
 .have e1:Nat.min [aW].length y.length=min 1 y.length:=rfl;exact⟨min 1 n,by rw[e1,hyl],by have:=cpl y [aW] 0 (by omega);rw[Nat.sub_zero]at this;dsimp only;omega,by omega,by omega⟩
 .rintro⟨z,s⟩ ⟨k,hz,h1,h2,h3⟩;dsimp only at hz h1;subst hz;unfold Ain Ap4;dsimp only;refine c7 (λhq=>?_) (λhq=>d9 h1);simp only[dM]at hq;refine(Ok.bndI (by omega) (by omega) (by omega)).bind λ_ _=>(Ok.bndI (by omega) (by omega) (by omega)).bind λ_ _=>c8 ?_;rw[aG (n:=k),aG (n:=s.length)];have e5:((s.drop 0).take (k-0)).length=k:=by simp;omega
  have e3:Nat.min ((s.drop 0).take (k-0)).length (s.length-k)=min k (s.length-k):=by rw[e5]
  rw[e3];have e4:w64 ((k:Int)+((min k (s.length-k):Nat):Int))=((k+min k (s.length-k):Nat):Int):=A4;rw[e4];exact⟨⟨k+min k (s.length-k),rfl,by have:=cpl s ((s.drop 0).take (k-0)) k (by omega);dsimp only;omega,by omega,by omega⟩,by dsimp only;omega⟩
theorem Acf(ho:H9 p)(hk:k<p.Al.length):getI p.Al (k:Int)=some false:=by have:=ho _ (ck hk);rw[Dg (ak hk),this]
theorem Agr(h:A1 b)(hp:A7 b p)(ho:H9 p)(acts:List Be):qB ⟨b,p,acts⟩=some ⟨b,p,acts⟩:=by have hbl:=h.brl;have hnc:=hp.ncl;refine di ?_;unfold qB;refine d_ (A:=λs=>s=((⟨b,p,acts⟩:Au),[])) (B:=λ(_:Unit)=>False) ?_ (λs hs=>by subst hs;exact ed rfl) ee;refine c9 (I:=λ_ s=>s=((⟨b,p,acts⟩:Au),[])) rfl (λj x s hx hs=>?_) λs hs=>hs;have hj:j<b.Ag.length:=(ac.1 hx).1;subst hs;unfold Aah;rw[E_,Acf ho (by omega)];exact c8 rfl
theorem Agq(h:A1 b)(hp:A7 b p)(ho:H9 p)(acts:List Be):qA ⟨b,p,acts⟩=some ⟨b,p,acts⟩:=by have hbl:=h.brl;have hnc:=hp.ncl;refine di ?_;unfold qA;refine d_ (A:=λs=>s=((⟨b,p,acts⟩:Au),[])) (B:=λ(_:Unit)=>False) ?_ (λs hs=>by subst hs;exact ed rfl) ee;refine c9 (I:=λ_ s=>s=((⟨b,p,acts⟩:Au),[])) rfl (λj x s hx hs=>?_) λs hs=>hs;have hj:j<b.Ag.length:=(ac.1 hx).1;subst hs;unfold Aag;rw[E_,Acf ho (by omega)];exact c8 rfl
theorem A0e{x:Aq}(hx:x.Aj.length<=1000)(c:Int):V8 c x=some (!(x.Aj.any (c == ·))):=by unfold V8;rw[Gl _ _ (by omega)];rfl
theorem A2a{x:Aq}(hx:x.Aj.length<=1000)(l:ez)(hl:l.length<=1000):Ok (V_ l x) λy=>y.2=x:=by
 unfold V_ Afd;refine ec (P:=λy=>y.2=x/\(y.1 = -1\/(0<=y.1/\y.1<(l.length:Int)))) ?_ λy hy=>?_
 .refine d_ (A:=λ_=>True) (B:=λ(y:Int×Aq)=>y.2=x/\(0<=y.1/\y.1<(l.length:Int))) ?_ (λ_ _=>ed ⟨rfl,.inl rfl⟩) (λy hy=>ed ⟨hy.1,.inr hy.2⟩);refine c9 (I:=λ_ _=>True) trivial (λj c s hc _=>?_) λ_ _=>trivial;have hj:=(ac.1 hc).1;unfold zZ;rw[A0e hx,E_];exact c7 (λ_=>Ok.ret ⟨rfl,by dsimp only;omega,by dsimp only;omega⟩) (λ_=>c8 trivial)
 .obtain⟨y1,y2⟩:=y;obtain⟨rfl,hy⟩:=hy;dsimp only at hy ⊢;refine c7 (λ_=>ed rfl) (λhn=>?_);have hy:0<=y1/\y1<(l.length:Int):=hy.elim (λe=>by rw[e]at hn;simp at hn) id;rw[A4 (n:=y1+1)];refine d_ (A:=λs=>0<=s.1/\s.1<=(l.length:Int)/\s.2.2.length=l.length) (B:=λ(_:Unit)=>False) ?_ ?_ ee
  .refine d4 (λs=>(0<=s.1/\s.1<s.2.1/\s.2.1<=(l.length:Int))/\s.2.2.length=l.length) (λs=>((l.length:Int)-s.2.1).toNat) _ _ ⟨by dsimp only;omega,rfl⟩ (by dsimp only;omega) ?_;rintro⟨a,j,m⟩ ⟨⟨h1,h2,h3⟩,h4⟩;dsimp only at h1 h2 h3 h4;unfold V9 Aec;dsimp only;refine c7 (λhq=>?_) (λ_=>d9 ⟨h1,by dsimp only;omega,h4⟩);simp only[dM]at hq;rw[A4 (n:=j+1),A4 (n:=a+1)];refine(d5 (by omega) (by omega)).bind λy hy=>?_;rw[A0e hx];refine c7 (λ_=>(d5 (by omega) (by omega)).bind λ_ _=>(db (by omega)).bind λz hz=>c8 ⟨⟨⟨by dsimp only;omega,by dsimp only;omega,by dsimp only;omega⟩,by rw[hz];simpa using h4⟩,by dsimp only;omega⟩) (λ_=>c8 ⟨⟨⟨by dsimp only;omega,by dsimp only;omega,by dsimp only;omega⟩,h4⟩,by dsimp only;omega⟩)
  .rintro⟨a,j,m⟩ ⟨h1,h2,h3⟩;dsimp only at h1 h2 h3 ⊢;have hc:(Iy m a.toNat ((Int.toNat (m.length:Int))-a.toNat) (0:Int)).length=l.length:=by
    simp[Iy];omega
   exact(Ok.bndI h1 (by omega) (by omega)).bind λ_ _=>(Ok.bndI (by omega) h1 (by rw[hc];omega)).bind λ_ _=>ed rfl
theorem Acb(h:A1 b)(hp:A7 b p)(ho:H9 p):Ok (F53 b p) λ_=>True:=by
 unfold F53 Agl;rw[Fj h hp,Ie h hp];simp only[aj];refine ec (P:=λ_=>True) (c7 (λhc=>by simp at hc) λ_=>ec (P:=λ_=>True) ?_ λ_ _=>ed trivial) λ_ _=>ed trivial;unfold Agk Agj;rw[Agr h hp ho];simp only[aj];rw[Agq h hp ho];simp only[aj];rw[yZ h hp,Adc ho];simp only[aj];refine ec (P:=λ_=>True) ?_ λ_ _=>ed trivial;unfold Agi;obtain⟨e1,e2⟩:=Ace h;dsimp only;have hi:jV b p=some (Eu b p):=Jz h hp;rw[e1,show jV b (⟨p.Al,p.Ad,p.A0,p.Ao⟩:Af)=some (Eu b p) from hi];simp only[aj];refine d_ (A:=λ_=>True) (B:=λ(_:Unit)=>False) ?_ (λ_ _=>ed trivial) ee;refine c9 (I:=λ_ _=>True) trivial (λj x s hx _=>?_) λ_ _=>trivial;have hx:=ag hx;have hs:=yI ho hx;have hcl:x.Aj.length<=1000:=by unfold Eu at hx;obtain⟨f,_,rfl⟩:=aA.1 (aH.1 hx).1;have:(isl b p f).Aj.length<=b.Aj.length:=Jk _ _;have:=h.col;omega
 have hol:=e2.1;have hcc:=h.col;unfold Aal Yq;refine(d6 (by simp;omega)).bind λq hq=>(A2a hcl q (by rw[hq];simp;omega)).bind λy hy=>?_;rw[hy,hs];exact c8 trivial
theorem Acg(h:A1 b)(hp:A7 b p)(n:Int):Ok (Kt b p n) λy=>(∀i,i∈y.1.Ad->0<=i/\i<b.Ad.length)/\∀i,i∈y.1.Aj->0<=i/\i<b.Aj.length:=by
 unfold Kt;rw[Jz h hp];simp only[aj];refine d_ (A:=λ_=>True) (B:=λ(y:Aq×Bool)=>y.1∈Eu b p) ?_ (λ_ _=>ed ⟨nofun,nofun⟩) (λy hy=>ed ⟨Wm hy,λi hi=>?_⟩)
 .refine c9 (I:=λ_ _=>True) trivial (λj x s hx _=>?_) λ_ _=>trivial;have hx:=ag hx;have hb:x.Ap.length<=1000:=by
   have hm:=hx;unfold Eu at hm;obtain⟨f,_,rfl⟩:=aA.1 (aH.1 hm).1;have:(isl b p f).Ap.length<=b.Ap.toNat:=Jk _ _;have:=h.buses;omega
  unfold Od;rw[Gl _ _ (by omega)];exact c7 (λ_=>Ok.ret hx) (λ_=>c8 trivial)
 .unfold Eu at hy;obtain⟨f,_,e⟩:=aA.1 (aH.1 hy).1;rw[←e]at hi;obtain⟨k,hk,rfl⟩:=aA.1 hi;have:=bT.1 (aH.1 hk).1;omega
theorem X2(h:A1 b)(hp:A7 b p)(n:Int):Ok (Ys b p n) λ_=>True:=by unfold Ys;exact(Acg h hp n).bind λ_ _=>ed trivial
theorem Mv(h:A1 b)(hp:A7 b p)(g:eB)(as:List Be)(n:Int):Ok (Lh ⟨b,p,g,as⟩ n) λ_=>True:=by unfold Lh;exact(X2 h hp n).bind λ_ _=>ed trivial
theorem As4(h:A1 b)(hp:A7 b p)(n:Int):Ok (Age b p n) λ_=>True:=by have hn:=hp.nli;unfold Age;refine(Acg h hp n).bind λy hy=>d_ (A:=λ_=>True) (B:=λ(_:Unit)=>False) ?_ (λ_ _=>ed trivial) ee;refine c9 (I:=λ_ _=>True) trivial (λj x s hx _=>?_) λ_ _=>trivial;have:=hy.2 x (ag hx);unfold Aij;exact c7 (λ_=>(dk this.1).bind λ_ _=>c8 trivial) (λ_=>c8 trivial)
theorem Asu(h:A1 b)(hp:A7 b p)(n:Int):Ok (Agd b p n) λ_=>True:=by unfold Agd;refine(Acg h hp n).bind λy hy=>d_ (A:=λ_=>True) (B:=λ(_:Unit)=>False) ?_ (λ_ _=>ed trivial) ee;refine c9 (I:=λ_ _=>True) trivial (λj x s hx _=>?_) λ_ _=>trivial;have:=hy.1 x (ag hx);unfold Aii;exact(dk this.1 this.2).bind λ_ _=>c8 trivial
theorem A5k(hp:A7 b p)(hj:j<b.Ag.length):getI p.Al (j:Int)=some (p.Al.getD j false):=Dg (Apg hp hj)
theorem And(h:A1 b)(hp:A7 b p):Ok (F55 b p) λ_=>True:=by
 have hbb:=h.brl;have hbl:p.Ao.length<=1000:=by have:=hp.brk.len;omega
 unfold F55;refine d_ (A:=λ_=>True) (B:=λ(_:Bool)=>True) ?_ (λ_ _=>ed trivial) (λ_ _=>ed trivial);refine c9 (I:=λ_ _=>True) trivial (λj x s hx _=>?_) λ_ _=>trivial;have hj:=(ac.1 hx).1;unfold Aqs;rw[E_,A5k hp hj,Gm hbl];refine ec (P:=λ_=>True) (de (λ_=>ed trivial) λ_=>trivial) λ_ _=>ec (P:=λ_=>True) (de (λ_=>ed trivial) λ_=>trivial) λ_ _=>ec (P:=λ_=>True) (de (λ_=>X2 h hp _) λ_=>trivial) λ_ _=>c7 (λ_=>Ok.ret trivial) (λ_=>c8 trivial)
theorem Apb(l:eB)(v:Bool):Ok (F56 l v) λ_=>True:=by unfold F56 Ave;refine ec (P:=λ_=>True) ?_ λ_ _=>ed trivial;refine d_ (A:=λ_=>True) (B:=λ(_:Int)=>True) ?_ (λ_ _=>ed trivial) (λ_ _=>ed trivial);refine c9 (I:=λ_ _=>True) trivial (λj x s hx _=>?_) λ_ _=>trivial;unfold Aio;exact c7 (λ_=>Ok.ret trivial) (λ_=>c8 trivial)
theorem Ab8(h:A1 b)(hp:A7 b p):Ok (F58 b p) λ_=>True:=by unfold F58;rw[Ahi h hp,Fj h hp];simp only[aj];refine d_ (A:=λ_=>True) (B:=λ(_:Bool)=>True) ?_ (λ_ _=>ed trivial) (λ_ _=>ed trivial);refine c9 (I:=λ_ _=>True) trivial (λj x s hx _=>?_) λ_ _=>trivial;unfold Aqp;exact ec (P:=λ_=>True) (de (λ_=>X2 h hp _) λ_=>trivial) λ_ _=>c7 (λ_=>Ok.ret trivial) (λ_=>c8 trivial)
theorem Asl(h:A1 b)(hp:A7 b p)(ho:H9 p)(g:eB):Abl ⟨b,p,g,[]⟩=some ⟨b,p,g,[]⟩:=by have hbb:=h.brl;have hnc:=hp.ncl;refine di ?_;unfold Abl;refine d_ (A:=λl=>l=[]) (B:=λ(_:Unit)=>False) ?_ (λl hl=>by subst hl;exact ed rfl) ee;refine c9 (I:=λ_ s=>s=[]) rfl (λj x s hx hs=>?_) λs hs=>hs;have hj:j<b.Ag.length:=(ac.1 hx).1;subst hs;unfold Ae0 Ahq;dsimp only;rw[E_,Acf ho (by omega)];cases hk:(x.Kind != 2) <;> exact c8 rfl
structure PS(b:Ae)(n:Nat)(w:Af)(as:List Be):Prop where
 st:A7 b w
 len:as.length<=n
theorem Ane(h:A1 b)(hp:A7 b p)(g:eB):Ok (Abk ⟨b,p,g,[]⟩) λy=>∃w as,y=⟨b,w,g,as⟩/\PS b 1000 w as:=by
 have hso:=h.sol;have hns:=hp.nso;have hbl:p.Ao.length<=1000:=by have:=hp.brk.len;omega
 unfold Abk;refine d_ (A:=λz=>(0<=z.1/\z.1<=600)/\∃S as,z.2=Na b ⟨p.Al,S,p.A0,p.Ao⟩ g as/\(S.length=p.Ad.length/\∀x,x∈S->Ef x)/\as.length<=b.Ad.length) (B:=λ(_:Unit)=>False) ?_ (λz hz=>?_) ee
 .refine c9 (I:=λj z=>(0<=z.1/\z.1<=600)/\∃S as,z.2=Na b ⟨p.Al,S,p.A0,p.Ao⟩ g as/\(S.length=p.Ad.length/\∀x,x∈S->Ef x)/\as.length<=j) ⟨by dsimp only;omega,_,_,rfl,⟨rfl,hp.run⟩,ai _⟩ (λj x z hx hI=>?_) λz hI=>by rw[←hns];exact hI
  have hj:j<p.Ad.length:=(ac.1 hx).1;obtain⟨wt,z⟩:=z;obtain⟨h1,S,as,e,⟨h2,h3⟩,h4⟩:=hI;dsimp only at h1 e;subst e;have hS:=K1 hp h2 h3;unfold Aez;dsimp only;rw[E_];refine(d5 (l:=S) (n:=(j:Int)) (by omega) (by omega)).bind λy hy=>?_;have hr:=h3 y (ag hy);have hst:=(h.so (b.Ad.getD j default) (ag (A31 (by omega)))).2.2;have hg:getI b.Ad (j:Int)=some (b.Ad.getD j default):=Dg (A31 (by omega));have set2:Ok (setI S (j:Int) (⟨2,y.Since,y.Ax,y.Phase⟩:An)) λv=>v.length=p.Ad.length/\∀x,x∈v->Ef x:=(db (by omega)).mono λv hv=>by
   subst hv;refine⟨by simpa using h2,λx hx=>?_⟩;rcases bW hx with hx|rfl
   .exact h3 x hx
   .exact⟨by dsimp only;omega,hr.2.1,hr.2.2.1,hr.2.2.2⟩
  have hue:=Ub h (p:=⟨p.Al,S,p.A0,p.Ao⟩) (by show S.length=_;omega) hbl (i:=(j:Int)) (by omega) (by omega);rw[hue];simp only[aj];obtain⟨eb,_,_,_,hgb⟩:=Aeh h (show j<b.Ad.length by omega);refine ec (P:=λv=>(!G6 b ⟨p.Al,S,p.A0,p.Ao⟩ (j:Int))=false->v=(brN b j:Int)) (d7 (λ_=>dh (Lf h _) λ_=>eb) λhn hh=>(hn ⟨hh,trivial⟩).elim) λv hv=>?_;refine ec (P:=λ_=>True) (de (λhh=>by rw[hv hh.1];exact dv (Dg hgb)) λ_=>trivial) λ_ _=>?_;refine ec (P:=λ_=>True) (de (λ_=>Mv h hS g as _) λ_=>trivial) λ_ _=>?_;refine c7 (λ_=>c8 ⟨h1,_,_,rfl,⟨h2,h3⟩,by omega⟩) (λ_=>?_);refine c7 (λ_=>?_) (λ_=>c7 (λ_=>?_) (λ_=>set2.bind λv hv=>c8 ⟨h1,_,_,rfl,hv,by omega⟩))
  .refine(d6 (by simp only[aT,bn];omega)).bind λq hq=>?_;rw[hg];exact set2.bind λv hv=>c8 ⟨by dsimp only;omega,_,_,rfl,hv,by rw[hq,aP];simp only[aT,bn];omega⟩
  .rw[hg];exact set2.bind λv hv=>c8 ⟨by dsimp only;omega,_,_,rfl,hv,by omega⟩
 .obtain⟨wt,z⟩:=z;obtain⟨h1,S,as,e,⟨h2,h3⟩,h4⟩:=hz;dsimp only at h1 e;subst e;dsimp only;exact(A1i h1.1 h1.2).bind λv hv=>(d6 (by omega)).bind λy hy=>ed ⟨_,y,rfl,K1 hp h2 h3,by rw[hy,aP];omega⟩
theorem Xz(u:PS b n w as)(hn:n<=100000)(hx:b.Ag[j]?=some x)(hf:x.Kind=3->Ix b w 3 x.B=none):Ok (P2 ⟨b,w,g,as⟩ 1 (j:Int)) λy=>∃as',y=⟨b,⟨w.Al.set j true,w.Ad,w.A0,w.Ao⟩,g,as'⟩/\PS b (n+1) ⟨w.Al.set j true,w.Ad,w.A0,w.Ao⟩ as':=by have hl:=u.len;exact dh (A61 u.st (g:=g) (as:=as) (by omega) 1 (ac.1 hx).1) ⟨_,rfl,Aph u.st hx hf,by simp;omega⟩
theorem Ag8(h:A1 b)(u0:PS b 1000 w0 as0)(g:eB):Ok (Abj ⟨b,w0,g,as0⟩) λy=>∃w as,y=⟨b,w,g,as⟩/\PS b 2000 w as:=by
 have hso:=h.sol;have hbb:=h.brl;have hbu:=h.buses;unfold Abj;refine d_ (A:=λz=>∃w as,z.2=Na b w g as/\PS b 2000 w as) (B:=λ(_:Unit)=>False) ?_ (λz hz=>?_) ee
 .refine d4 (λz=>(0<=z.1/\z.1<=b.Ap)/\∃w as,z.2=Na b w g as/\PS b (1000+z.1.toNat*8) w as) (λz=>(b.Ap-z.1).toNat) _ _ ⟨⟨by dsimp only;omega,by dsimp only;omega⟩,w0,as0,rfl,u0⟩ (by dsimp only;omega) ?_;rintro⟨n,z⟩ ⟨⟨n0,n1⟩,w,as,hz,u⟩;dsimp only at n0 n1 hz u;subst hz;unfold Aey;dsimp only;refine c7 (λhq=>?_) (λhq=>d9 ⟨w,as,rfl,u.st,by have:=u.len;omega⟩);simp only[dM]at hq;refine Ok.inner (A:=λz=>∃w as,z.2=Na b w g as/\PS b (1000+n.toNat*8+8) w as) (B:=λ(_:Unit)=>False) ?_ (λz hz=>?_) ee
  .refine d4 (λz=>(0<=z.1/\z.1<=(b.Ad.length:Int))/\∃w as,z.2=Na b w g as/\PS b (1000+n.toNat*8+z.1.toNat) w as) (λz=>((b.Ad.length:Int)-z.1).toNat) _ _ ⟨⟨by dsimp only;omega,by dsimp only;omega⟩,w,as,rfl,u⟩ (by dsimp only;omega) ?_;rintro⟨i,z⟩ ⟨⟨i0,i1⟩,w,as,hz,u⟩;dsimp only at i0 i1 hz u;subst hz;obtain⟨i,rfl⟩:∃k:Nat,i=(k:Int):=⟨i.toNat,by omega⟩;rw[aG]at u;unfold Aex Ahp;dsimp only;refine c7 (λhq2=>?_) (λhq2=>d9 ⟨w,as,rfl,u.st,by have:=u.len;omega⟩);simp only[dM]at hq2;have hi:i<b.Ad.length:=by omega
   obtain⟨eb,_,k2,_,hgb⟩:=Aeh h hi;have hwl:w.Ad.length=b.Ad.length:=u.st.nso;have hbl:w.Ao.length<=1000:=by have:=u.st.brk.len;omega
   have e1:w64 ((i:Int)+1)=((i+1:Nat):Int):=by rw[A4];omega
   rw[e1];refine ec (P:=λv=>v=(brN b i:Int)) (dh (x:=(brN b i:Int)) (by show Tu b (i:Int)=_;rw[Lf h,eb]) rfl) λv hv=>?_;subst hv;refine ec (P:=λv=>v=b.Ag.getD (brN b i) default) (dh (Dg hgb) rfl) λv hv=>?_;subst hv;refine ec (P:=λ_=>True) (de (λ_=>dv (Ub h (p:=w) hwl hbl (i:=(i:Int)) (by omega) (by omega))) λ_=>trivial) λ_ _=>?_;refine ec (P:=λ_=>True) (de (λ_=>Mv h u.st g as _) λ_=>trivial) λ_ _=>?_;refine c7 (λ_=>?_) (λ_=>c8 ⟨⟨⟨by dsimp only;omega,by dsimp only;omega⟩,w,as,rfl,u.st,by have:=u.len;dsimp only;omega⟩,by dsimp only;omega⟩);refine(Xz u (g:=g) (by omega) hgb (by omega)).bind λy hy=>?_;obtain⟨as',rfl,u'⟩:=hy;exact c8 ⟨⟨⟨by dsimp only;omega,by dsimp only;omega⟩,_,as',rfl,u'⟩,by dsimp only;omega⟩
  .obtain⟨w,as,hz,u⟩:=hz;obtain⟨i,z⟩:=z;dsimp only at hz;subst hz;dsimp only;rw[A4 (n:=n+1)];exact c8 ⟨⟨⟨by dsimp only;omega,by dsimp only;omega⟩,w,as,rfl,u.st,by have:=u.len;dsimp only;omega⟩,by dsimp only;omega⟩
 .obtain⟨w,as,hz,u⟩:=hz;obtain⟨n,z⟩:=z;dsimp only at hz;subst hz;exact ed ⟨w,as,rfl,u⟩
theorem A1b(h:A1 b)(u:PS b n w as)(hg:g.length=b.Ap.toNat):Ok (Abi ⟨b,w,g,as⟩) λy=>y.2=true->∃(k:Nat)(x:Ai),y.1=(k:Int)/\b.Ag[k]?=some x/\x.Kind=1/\w.Al.getD k false=false:=by
 have hbb:=h.brl;have hbl:w.Ao.length<=1000:=by have:=u.st.brk.len;omega
 unfold Abi;refine d_ (A:=λ_=>True) (B:=λ(y:Int×Bool)=>∃(k:Nat)(x:Ai),y.1=(k:Int)/\b.Ag[k]?=some x/\x.Kind=1/\w.Al.getD k false=false) ?_ (λ_ _=>ed nofun) (λy hy=>ed λ_=>hy);refine c9 (I:=λ_ _=>True) trivial (λj x s hx _=>?_) λ_ _=>trivial;have hx:b.Ag[j]?=some x:=hx;have hj:=(ac.1 hx).1;obtain⟨hA,hB⟩:=A2k h hx;unfold Aew;dsimp only;rw[E_,A5k u.st hj,R6 h (p:=w) hbl (i:=(j:Int)) (by omega)];by_cases hk:x.Kind=1
 .have ek:(x.Kind==1)=true:=by rw[hk];rfl
  rw[ek];simp only[A12,aj,ce];refine ec (P:=λ_=>True) (de (λ_=>dk hA.1) λ_=>trivial) λ_ _=>ec (P:=λ_=>True) (de (λ_=>Mv h u.st g as _) λ_=>trivial) λ_ _=>ec (P:=λ_=>True) (de (λ_=>Mv h u.st g as _) λ_=>trivial) λ_ _=>c7 (λhq=>Ok.ret ⟨j,x,rfl,hx,hk,?_⟩) (λ_=>c8 trivial);simp only[vF,aa,aO]at hq;simpa[ek]using hq.1.1.1.2
 .have ek:(x.Kind==1)=false:=dR.2 hk;rw[ek];refine ec (P:=λ_=>True) (de (λhh=>absurd hh.1 (by simp)) λ_=>trivial) λ_ _=>?_;refine ec (P:=λ_=>True) (de (λhh=>absurd hh.1 (by simp)) λ_=>trivial) λ_ _=>?_;refine ec (P:=λ_=>True) (de (λhh=>absurd hh.1 (by simp)) λ_=>trivial) λ_ _=>?_;refine ec (P:=λ_=>True) (de (λhh=>absurd hh.1 (by simp)) λ_=>trivial) λ_ _=>?_;refine ec (P:=λ_=>True) (de (λhh=>absurd hh.1 (by simp)) λ_=>trivial) λ_ _=>?_;refine c7 (λhq=>?_) (λ_=>c8 trivial);simp[vF,ek]at hq
theorem Anl(h:A1 b)(u0:PS b 3000 w0 as0)(g:eB):Ok (Z6 ⟨b,w0,g,as0⟩) λy=>∃w as,y=⟨b,w,g,as⟩/\PS b 4000 w as:=by
 have hbb:=h.brl;have hcol:=h.col;obtain⟨hord,hin⟩:=Ace h;unfold Z6;refine ec (P:=λv=>v=Lt b) (dh (x:=Lt b) hord rfl) λv hv=>?_;subst hv;have hbw:(bw (Lt b)).length=(Lt b).length:=by simp[bw,Hv]
 have hol:=hin.1;refine d_ (A:=λz=>∃w as,z=Na b w g as/\PS b 4000 w as) (B:=λ(_:Unit)=>False) ?_ (λz hz=>?_) ee
 .refine Ok.foldE (I:=λj z=>∃w as,z=Na b w g as/\PS b (3000+j) w as) _ 0 _ ⟨w0,as0,rfl,u0⟩ (λj x z hx hI=>?_) λz hI=>?_
  .rw[aJ]at hI;rw[aJ];obtain⟨w,as,rfl,u⟩:=hI;have hj:j<(Lt b).length:=by have:=(ac.1 hx).1;omega
   have hoj:(Lt b)[(Lt b).length-1-j]?=some x.2:=by
    unfold bw Hv at hx;rw[au,bA hj]at hx;have hx:=aQ hx;rw[←hx];have hlt:(Lt b).length-1-j<(Lt b).length:=by omega
    dsimp only;rw[ak hlt];rfl
   have hc:=hin.2 _ (ag hoj);obtain⟨i,c⟩:=x;dsimp only at hc;have hbl:w.Ao.length<=1000:=by have:=u.st.brk.len;omega
   have hnl:=u.st.nli;have stay:PS b (3000+(j+1)) w as:=⟨u.st,by have:=u.len;omega⟩;unfold Tq Agf;dsimp only;rw[Fj h u.st,Adg h u.st.ncl,Gm hbl];refine ec (P:=λv=>v=O1 (Ix b w 3 c)) ⟨_,rfl,rfl⟩ λv hv=>?_;subst hv;refine ec (P:=λ_=>True) (de (λ_=>ed trivial) λ_=>trivial) λ_ _=>?_;refine c7 (λ_=>c8 ⟨w,as,rfl,stay⟩) (λhq=>?_);have hno:Ix b w 3 c=none:=yR (aY.1 hq).1;refine Ok.inner (A:=λz=>∃w as,z=Na b w g as/\PS b (3000+(j+1)) w as) (B:=λ(_:Unit)=>False) ?_ (λz hz=>?_) ee
   .refine c9 (I:=λ_ z=>z=Na b w g as) rfl (λk x z hx hI=>?_) λz hI=>⟨w,as,hI,stay⟩;have hx:b.Ag[k]?=some x:=hx;have hk:=(ac.1 hx).1;subst hI;unfold Yn;dsimp only;rw[E_,R6 h (p:=w) hbl (i:=(k:Int)) (by omega)];refine ec (P:=λ_=>True) (de (λ_=>ed trivial) λ_=>trivial) λ_ _=>?_;refine ec (P:=λ_=>True) (de (λ_=>Mv h u.st g as _) λ_=>trivial) λ_ _=>?_;refine c7 (λ_=>c8 rfl) (λhq=>?_);simp only[Aho,aY,dV]at hq;refine(As4 h u.st _).bind λ_ _=>(dk hc.1).bind λ_ _=>(Asu h u.st _).bind λ_ _=>?_;refine c7 (λ_=>?_) (λ_=>d9 ⟨w,as,rfl,stay⟩);refine(Xz u (g:=g) (by omega) hx (λ_=>by rw[hq.1.1.2];exact hno)).bind λy hy=>?_;obtain⟨as',rfl,u'⟩:=hy;exact d9 ⟨_,as',rfl,u'⟩
   .obtain⟨w',as',rfl,u'⟩:=hz;exact c8 ⟨w',as',rfl,u'⟩
  .rw[aJ,hbw]at hI;obtain⟨w,as,e,u⟩:=hI;exact⟨w,as,e,u.st,by have:=u.len;omega⟩
 .obtain⟨w,as,rfl,u⟩:=hz;exact ed ⟨w,as,rfl,u⟩
theorem Asw(h:A1 b)(hp:A7 b p)(ho:H9 p):Ok (F21 b p) λy=>y.1.length<=4000:=by
 have hbb:=h.brl;have hbu:=h.buses;have hgl:=Ac6 b (G6 b p) (Hr b p.Ao);unfold F21;refine(Acb h hp ho).bind λy _=>c7 (λ_=>ed (by simp)) λ_=>?_;refine ec (P:=λ_=>True) (Asn (hp.lens h) _) λ_ _=>?_;refine ec (P:=λ_=>True) (de (λ_=>And h hp) λ_=>trivial) λ_ _=>c7 (λ_=>ed (by simp)) λ_=>?_;rw[Ahi h hp];simp only[aj];refine(Apb _ _).bind λ_ _=>ec (P:=λ_=>True) (de (λ_=>Ab8 h hp) λ_=>trivial) λ_ _=>c7 (λ_=>ed (by simp)) λ_=>?_;rw[Ie h hp];simp only[aj];generalize hG:Zc b (G6 b p) (Hr b p.Ao)=G at hgl ⊢;rw[Asl h hp ho];simp only[aj];refine(Ane h hp G).bind λy hy=>?_;obtain⟨w,as,rfl,u⟩:=hy;refine(Ag8 h u G).bind λy hy=>?_;obtain⟨w,as,rfl,u⟩:=hy;refine d_ (A:=λz=>∃w as,z=Na b w G as/\PS b 3000 w as) (B:=λ(_:Unit)=>False) ?_ (λz hz=>?_) ee
 .refine d4 (λz=>∃w as,z=Na b w G as/\PS b (2000+cl w.Al) w as) (λz=>b.Ag.length-cl z.Ah.Al) _ _ ⟨w,as,rfl,u.st,by have:=u.len;omega⟩ (by omega) ?_;rintro z ⟨w,as,rfl,u⟩;have hcl:=A0n w.Al;have hnc:=u.st.ncl;unfold Arc;dsimp only;refine ec (A1b h u hgl) λy hy=>?_;cases hy2:y.2 with
  |false=>exact c7 (λ_=>d9 ⟨w,as,rfl,u.st,by have:=u.len;omega⟩) (λhc=>by simp at hc)
  |true=>
   obtain⟨k,x,ek,hx,hk1,hc⟩:=hy hy2;refine c7 (λhc=>by simp at hc) (λ_=>?_);have hk:=(ac.1 hx).1;rw[ek];refine(Xz u (g:=G) (by omega) hx (λe=>by omega)).bind λy hy=>?_;obtain⟨as',rfl,u'⟩:=hy;have e1:=A0m w.Al k (by omega) hc;have e2:=A0n (w.Al.set k true);have e3:(w.Al.set k true).length=b.Ag.length:=by rw[bV];exact hnc
   exact c8 ⟨⟨_,as',rfl,u'.st,by have:=u'.len;show as'.length<=2000+cl (w.Al.set k true);omega⟩,by show b.Ag.length-cl (w.Al.set k true)<b.Ag.length-cl w.Al;omega⟩
 .obtain⟨w,as,rfl,u⟩:=hz;refine(Anl h u G).bind λy hy=>ed ?_;obtain⟨w,as,rfl,u⟩:=hy;exact u.len
theorem A1g(h:A1 b)(hp:A7 b p){l:List Be}(hl:l.length<=4000):Ok (F22 b p 0 l) λy=>0<=y.2.1/\y.2.1<=4000:=by
 unfold F22;rw[Fj h hp,Ie h hp];simp only[aj];refine c7 (λhc=>by simp at hc) λ_=>?_;refine d_ (A:=λz=>0<=z.1/\z.1<=4000) (B:=λ(y:Af×Int×Int×Int)=>0<=y.2.1/\y.2.1<=4000) ?_ (λz hz=>ed hz) (λy hy=>ed hy);refine c9 (I:=λj z=>(0<=z.1/\z.1<=(j:Int))/\A7 b z.2) ⟨by dsimp only;omega,hp⟩ (λj a z hx hI=>?_) λz hI=>by have:=hI.1;omega
 have hj:=(ac.1 hx).1;obtain⟨h1,h2⟩:=hI;unfold Arb;refine(A62 h h2 z.1 a).bind λy hy=>?_;refine c7 (λ_=>Ok.ret (by dsimp only;omega)) (λhq=>?_);simp only[dV]at hq;have hS:A7 b y.1:=hy.elim (λhh=>absurd hq hh.1) (·.2);refine c7 (λ_=>?_) (λ_=>c8 ⟨by dsimp only;omega,hS⟩);rw[A4 (n:=z.1+1)];exact c8 ⟨by dsimp only;omega,hS⟩
def bkE:Nat->B9
 |0=>F51 0 1 [1]
 |1=>F51 0 2 [0]
 |_=>F51 0 3 [0]
def bkJ:Nat->D_
 |0=>F50
 |n+1=>((F52 (bkJ n) (bkE n)).getD default).1
theorem A84:∀{j:Nat},j<3->F52 (bkJ j) (bkE j)=some (bkJ (j+1),0)
 |0,_=>by kernel_rfl
 |1,_=>by kernel_rfl
 |2,_=>by kernel_rfl
 |n+3,h=>by omega
theorem A7z(h:Ves v):Ok (Abo v) λy=>y.2=0/\y.1.A5=Ajn v.Board:=by
 have hr:=h.refs.1;have ht:=h.base.ship.len;unfold Abo;rw[Ahn h];simp only[aj];refine c7 (λhc=>by simp at hc) λ_=>?_;rw[A4m h.base.Ak h.base.table];simp only[aj];refine c7 (λhc=>by simp at hc) λ_=>?_;refine(Ok.mkI (by omega) (by omega)).bind λy7 _=>(Ok.mkI (by omega) (by omega)).bind λy9 _=>?_;refine d_ (A:=λz=>z.2.A5=Ajn v.Board) (B:=λ_=>False) ?_ (λz hz=>ed ⟨rfl,hz⟩) ee;refine c9 (I:=λj z=>z.2.A5=Ajn v.Board/\z.2.Book=bkJ j) ⟨rfl,rfl⟩ (λj x z hx hz=>?_) λz hz=>hz.1;have hj:j<3:=(ac.1 hx).1;have ex:x=bkE j:=by
  have:j=0\/j=1\/j=2:=by omega
  rcases this with rfl|rfl|rfl <;> exact(aQ hx).symm
 unfold Af2;rw[hz.2,ex,A84 hj];simp only[aj];exact c7 (λhc=>by simp at hc) λ_=>c8 ⟨hz.1,rfl⟩
theorem Asr(h:Ves v):Ok (Alo v) λy=>y.2=0:=by unfold Alo;refine(A7z h).bind λy hy=>?_;obtain⟨h1,h2⟩:=hy;refine c7 (λhc=>by rw[h1]at hc;simp at hc) λ_=>?_;rw[h2];have hp:=Agu h.base.Ak;refine(Asw h.base.Ak hp (T4 _)).bind λz hz=>c7 (λ_=>ed rfl) λ_=>?_;exact(A1g h.base.Ak hp hz).bind λ_ _=>ed rfl
def Rk(f:Jq):Prop:=Bt 0 f.From 3599/\Bt 0 f.Speed 10000
def Z1(w:Gd):Prop:=Rk w.Wind/\Rk w.Current/\Rk w.Wave
structure Azx(d:C8):Prop where
 fau:Ql d.Faults
 len:d.Faults.length<=24
 wea:Z1 d.Weather
 tick:Bt 1 d.Ticks 7
theorem A2i(hs:A3 s):Ok (F17 s) λy=>Z1 y.1/\A3 y.2:=by
 unfold F17;refine(vJ hs).bind λa ha=>(Bi ha.2 _ (by simp) (by simp)).bind λb hb=>(vJ hb.1).bind λc hc=>(Bi hc.2 _ (by simp) (by simp)).bind λd hd=>ed ⟨⟨⟨ha.1,?_⟩,⟨hc.1,?_⟩,by simp[Rk,Bt]⟩,hd.1⟩
 .have:=hb.2;simp only[ah,aV,or_false]at this;unfold Bt;dsimp only;omega
 .have:=hd.2;simp only[ah,aV,or_false]at this;unfold Bt;dsimp only;omega
theorem A05(hs:A3 s):Ok (F6 s) λy=>Ves y.1/\Azx y.2.1:=by
 unfold F6;refine(A2v hs).bind λy1 h1=>(Dc h1.2 4 (by omega) (by omega)).bind λy3 h3=>?_;refine d_ (A:=λz=>Ves z.2/\A3 z.1) (B:=λ(_:Unit)=>False) ?_ (λz hz=>?_) ee
 .unfold A01;exact c7 (λ_=>(Aer h3.1).bind λy hy=>dj ⟨hy.1,hy.2⟩) (λ_=>dj ⟨h1.1,h3.1⟩)
 refine(Dc hz.2 7 (by omega) (by omega)).bind λy8 h8=>(Dc h8.1 2 (by omega) (by omega)).bind λy10 h10=>?_;have e8:Bt 1 (w64 (1+y8.1)) 7:=by rw[A4];unfold Bt;omega
 refine d_ (A:=λw=>(Z1 w.2.Weather/\Bt 1 w.2.Ticks 7)/\A3 w.1) (B:=λ(_:Unit)=>False) ?_ (λw hw=>?_) ee
 .unfold A00;exact c7 (λ_=>(A2i h10.1).bind λy hy=>dj ⟨⟨hy.1,e8⟩,hy.2⟩) (λ_=>dj ⟨⟨by simp[Z1,Rk,Bt],e8⟩,h10.1⟩)
 refine(Dc hw.2 4 (by omega) (by omega)).bind λy15 h15=>?_;have h15b:=h15.2;refine d_ (A:=λu=>u.2.2.length<=3/\∀f,f∈u.2.2->Io f) (B:=λ(_:Unit)=>False) ?_ (λu hu=>(Anv hu.1 hu.2).bind λy hy=>ed ⟨hz.1,hy.1,hy.2,hw.1.1,hw.1.2⟩) ee;refine d4 (λu=>(0<=u.1/\u.1+(u.2.2.length:Int)<=3)/\A3 u.2.1/\∀f,f∈u.2.2->Io f) (λu=>u.1.toNat) _ _ ⟨by simp;omega,h15.1,by simp⟩ (by dsimp only;omega) ?_;rintro⟨k,s,l⟩ ⟨⟨q1,q2⟩,q3,q4⟩;dsimp only at q1 q2 q3 q4;unfold A02;refine c7 (λhc=>?_) (λ_=>d9 ⟨by dsimp only;omega,q4⟩);simp only[dM]at hc;refine(Dc q3 7 (by omega) (by omega)).bind λa ha=>(Dc ha.1 4 (by omega) (by omega)).bind λb hb=>(Bi hb.1 _ (by simp) (by simp)).bind λc hc=>(Dc hc.1 3 (by omega) (by omega)).bind λd hd=>(d6 (by simp;omega)).bind λm hm=>c8 ?_;subst hm;dsimp only;rw[A4 (n:=k-1)];refine⟨⟨by simp;omega,hd.1,λf hf=>(aw.1 hf).elim (q4 f) λhf=>?_⟩,by omega⟩;rw[aM.1 hf];have g1:=ha.2;have g2:=hb.2;have g3:=hc.2;have g4:=hd.2;have e3:Int.tdiv b.1 3=b.1 / 3:=cZ g2.1;simp only[ah,aV,or_false]at g3;rw[A4 (n:=Int.tdiv b.1 3),A4];unfold Io Bt;dsimp only;omega
variable{d:C8}
theorem Akm(h:Ves v)(k:Azx d):F23 v d=some 0:=by
 have hw:=k.wea;have ht:=k.tick;unfold Z1 Rk Bt at hw;unfold Bt at ht;unfold F23;rw[Ahn h];simp only[aj];rw[A2h k.fau k.len];have e:Ak6 d=false:=by unfold Ak6 F69 Pi Alz;simp;omega
 simp only[aj];rw[e];rfl
def sgt(v:Ar)(s:B3)(i:Nat)(r:Nat):Eo:=⟨(r:Int),⟨w64 (w64 (s.A5.Time+1)+(i:Int)),v.Target.Place.X,v.Target.Place.Y,100⟩⟩
def inp(v:Ar)(s:B3)(d:C8)(i:Nat):C7:=⟨d.Weather,v.Target.Heading,(List.range v.References.length).map (sgt v s i),[],d.Faults.filter λf=>f.Time==(i:Int),0,[]⟩
theorem Aob(h:Ves v)(s:B3)(k:Azx d):Aln v s d=some ((List.range d.Ticks.toNat).map (inp v s d)):=by
 have hr:=h.refs.1;have hl:=k.len;have ht:=k.tick;unfold Bt at ht;refine di ?_;unfold Aln;rw[Akm h k];simp only[aj];refine c7 (λhc=>by simp at hc) λ_=>?_;refine d_ (A:=λz=>z.2=(List.range d.Ticks.toNat).map (inp v s d)) (B:=λ(_:Unit)=>False) ?_ (λz hz=>ed hz) ee;refine d4 (λz=>∃i:Nat,z.1=(i:Int)/\(i:Int)<=d.Ticks/\z.2=(List.range i).map (inp v s d)) (λz=>(d.Ticks-z.1).toNat) _ _ ⟨0,rfl,by omega,rfl⟩ (by dsimp only;omega) ?_;rintro⟨z,l⟩ ⟨i,rfl,h1,rfl⟩;unfold Ah1;refine c7 (λhc=>?_) (λhc=>d9 ?_)
 .simp only[dM]at hc;refine Ok.inner (A:=λw=>w.2=(List.range v.References.length).map (sgt v s i)) (B:=λ(_:Unit)=>False) ?_ (λw hw=>?_) ee
  .refine d4 (λw=>∃r:Nat,w.1=(r:Int)/\r<=v.References.length/\w.2=(List.range r).map (sgt v s i)) (λw=>((v.References.length:Int)-w.1).toNat) _ _ ⟨0,rfl,by omega,rfl⟩ (by dsimp only;omega) ?_;rintro⟨w,m⟩ ⟨r,rfl,g1,rfl⟩;unfold Ah0 Apn;refine c7 (λhc=>?_) (λhc=>d9 ?_)
   .simp only[dM]at hc;dsimp only at hc ⊢;refine(d6 (by simp;omega)).bind λy hy=>c8 ?_;rw[A4 (n:=(r:Int)+1)];refine⟨⟨r+1,by dsimp only;omega,by omega,?_⟩,by dsimp only;omega⟩;rw[hy,bS,bh];rfl
   .simp only[dN]at hc;dsimp only at hc ⊢;rw[show r=v.References.length by omega]
  .refine Ok.inner (A:=λu=>u=d.Faults.filter λf=>f.Time==(i:Int)) (B:=λ(_:Unit)=>False) ?_ (λu hu=>?_) ee
   .refine c9 (I:=λj u=>u=(d.Faults.take j).filter λf=>f.Time==(i:Int)) rfl (λj f u hx hu=>?_) λu hu=>by rw[be]at hu;exact hu
    have hj:=(ac.1 hx).1;have hle:u.length<=j:=by rw[hu];have:=bP (λf:Am=>f.Time==(i:Int)) (d.Faults.take j);simp at this ⊢;omega
    unfold Ahz;rw[Dj hx,bQ,←hu];cases hq:(f.Time==(i:Int)) with
    |true=>exact(d6 (by simp;omega)).bind λy hy=>c8 (by rw[hy];simp[hq])
    |false=>exact c8 (by simp[hq])
   .dsimp only;refine(d6 (by simp;omega)).bind λy hy=>c8 ?_;rw[A4 (n:=(i:Int)+1)];refine⟨⟨i+1,by dsimp only;omega,by omega,?_⟩,by dsimp only;omega⟩;rw[hy,hw,hu,bS,bh];rfl
 .simp only[dN]at hc;dsimp only at hc ⊢;rw[show d.Ticks.toNat=i by omega]
theorem A1q(h:Ql l)(hl:l.length<=24)(t:Int):Ok (F9 l t) λy=>y.1.length+y.2.length=(l.filter λf=>f.Time==t).length:=by
 unfold F9;rw[Ast h hl];simp only[aj];refine c7 (λhc=>by simp at hc) λ_=>?_;refine d_ (A:=λy=>y.1.length+y.2.length=(l.filter λf=>f.Time==t).length) (B:=λ(_:Unit)=>False) ?_ (λz hz=>ed hz) ee;refine c9 (I:=λj y=>y.1.length+y.2.length=((l.take j).filter λf=>f.Time==t).length) rfl (λj f y hx hy=>?_) λu hu=>by rw[be]at hu;exact hu
 have hj:=(ac.1 hx).1;have hle:=bP (λf:Am=>f.Time==t) (l.take j);rw[aN]at hle;unfold A0z;rw[Dj hx,bQ,aP,←hy];refine c7 (λhc=>c8 ?_) (λhc=>?_)
 .have:(f.Time==t)=false:=by rw[bne_iff_ne]at hc;exact dR.2 hc
  simp[this]
 .have:(f.Time==t)=true:=by rw[dV]at hc;exact dQ.2 hc
  refine c7 (λ_=>(d6 (by simp;omega)).bind λu hu=>c8 ?_) (λ_=>(d6 (by simp;omega)).bind λu hu=>c8 ?_) <;> (rw[hu];simp[this];try omega)
theorem drillInputs_law(h5:F4=some true)(x:ez):F3 x=some true:=by
 refine di ?_;have sane:Ok (F4.bind λy=>some y) (· = true):=by rw[h5];exact ed rfl
 unfold F3;refine c7 (λ_=>sane) λ_=>?_;refine(A67 x).bind λs hs=>(A05 hs).bind λw hw=>(Asr hw.1).bind λy8 h8=>c7 (λhc=>by rw[h8]at hc;simp at hc) λ_=>?_;obtain⟨v,d,s⟩:=w;obtain⟨hv,hd⟩:=hw;dsimp only at hv hd ⊢;rw[Aob hv y8.1 hd];have ht:=hd.tick;have hr:=hv.refs.1;have hl:=hd.len;unfold Bt at ht;simp only[aj];refine c7 (λhc=>by simp at hc;omega) λ_=>?_;refine d_ (A:=λ_=>True) (B:=λ(_:Bool)=>False) ?_ (λ_ _=>sane) ee;refine c9 (I:=λ_ _=>True) trivial (λi y z hx _=>?_) λ_ _=>trivial;have hi:i<d.Ticks.toNat:=by have:=(ac.1 hx).1;simpa using this
 rw[au,bA hi]at hx;have hx:=(aQ hx).symm;subst hx;unfold A04;have e4:Auf (v,d,s) (inp v y8.1 d i)=false:=by unfold Auf inp;simp
 refine c7 (λhc=>by rw[e4]at hc;cases hc) λ_=>?_;refine Ok.inner (A:=λ_=>True) (B:=λ(_:Bool)=>False) ?_ (λ_ _=>?_) ee
 .refine c9 (I:=λ_ _=>True) trivial (λr g z hx _=>?_) λ_ _=>trivial;have hr2:r<v.References.length:=by have:=(ac.1 hx).1;simpa[inp]using this
  have hg:g=sgt v y8.1 i r:=by unfold inp at hx;dsimp only at hx;rw[au,bA hr2]at hx;exact(aQ hx).symm
  subst hg;unfold A03;have e6:Aue y8 i r (sgt v y8.1 i r)=false:=by unfold Aue sgt;rw[E_,E_];simp
  rw[e6];exact c8 trivial
 .refine(A1q hd.fau hd.len _).bind λu hu=>c7 (λhc=>?_) λ_=>c8 trivial;exfalso;unfold A6k inp at hc;rw[E_]at hu;have hle:=bP (λf:Am=>f.Time==(i:Int)) d.Faults;simp only[bne_iff_ne]at hc;rw[A4]at hc;omega
end Go.Proofs.YtedojeimigneaaaGreatDoor
